/- the report of a run: Format's row, proved -/
import Derived.Test.YtnnpdlgenmnekaaGreatDoorSeFmB
set_option linter.unusedVariables false
set_option linter.unusedSimpArgs false
set_option maxRecDepth 100000
noncomputable section
namespace Go.Bm
open Go.Proofs Go.RowKit
section
variable {Z:Base} {B b:Nat} {v:Value} {bs:List Value} {s:St} {tmps:Array Value} {w:World}
theorem RG.eval (h:RG Z B b v bs s tmps w) {a:Act} (D:a.tmps=tmps) (x:Operand):∃ρ:Env,TVR ρ w (AM s.tmps x) (a.eval x):=by
 subst D;obtain⟨ρ,q⟩:=h.rel;exact⟨ρ,TT q x⟩
theorem RG.bool {a:Act} (h:RG Z B b v bs s a.tmps w) {x:Operand} {q:Bool} (D:AM s.tmps x= .c (.bool q)):a.eval x= .bool q:=by
 obtain⟨ρ,e⟩:=h.eval rfl x;rw[D]at e;exact e.bool
theorem RG.rawv {a:Act} (h:RG Z B b v bs s a.tmps w) {x:Operand} {u:Value} (G:AM s.tmps x= .c (.raw u)):a.eval x=u:=by
 obtain⟨ρ,e⟩:=h.eval rfl x;rw[G]at e;obtain⟨c,D,I⟩:=e;simp only[fd,jp]at D;subst D;exact I.1
theorem RG.chunk {C:Cfg} (D:Ak Tryz.prog C) (I:C.eqOk=[]) (T:InZ Z) {c:Code} {L blk:Nat} {sk:Sk} {vars:List AC} {a:Act} (G:SubOK Tryz.prog C c blk) (M:sk.okB=true)
  (h:RG Z B b v bs s a.tmps w) (U:BC Tryz.prog C L c blk s (kN sk)=some vars):
  c.wp Tryz.prog (λe N w'=>e= .normal/\RG Z B b v bs (AH sk vars) N.tmps w'/\N.defers=a.defers) a w:=by
 refine wp_mono (h.code D (by rw[I];simp) T5 T G U) ?_;rintro e N w' ⟨V,s',rfl,O,X,Y⟩;cases V with
 |normal=>exact⟨rfl,X.re T M O,Y⟩
 |exit i=>simp[kN]at O
 |ret=>simp[kN]at O
end
abbrev hV (l:List (List AC)) (p:Value) (k:Nat):List AC:=[.vC A_ l, .raw p, .vC A_ l, .int .i64 (l.length:Int), .int .i64 (k:Int)]
abbrev pB (b:Nat):Value:= .pointer (some ⟨b,0,none⟩)
theorem Ug:skH.okB=true:=by kernel_rfl
theorem Q7r:skA.okB=true:=by kernel_rfl
theorem Zjn:skB.okB=true:=by kernel_rfl
theorem Zsx:skC.okB=true:=by kernel_rfl
theorem Zjk:skE.okB=true:=by kernel_rfl
theorem ok0:sk0.okB=true:=by kernel_rfl
def opD:Oper:=⟨none, .move (.const .nilIface),0, "", #[],none⟩
def o6:Oper:=(GR cR6).toList.getD 3 opD
theorem Zup:(GR cR6).toList=(GR cR6).toList.take 3++[o6]:=by kernel_rfl
theorem Zqf:o6.op= .call {callee:= .value (.func 75),args:= #[.tmp 3, .tmp 45],argTypes:= #[141,9]}:=by kernel_rfl
theorem Zxh:o6.guard=none:=by kernel_rfl
theorem Q0r:o6.dst=some 46:=by kernel_rfl
theorem Q7t (l:List (List AC)) (p:Value) (k:Nat) (q:Bool):AM (AH skA (hV l p k++[.bool q])).tmps (.tmp 9)= .c (.bool q):=by kernel_rfl
theorem Zkw (l:List (List AC)) (p:Value) (n k:Int) (q:Bool):AM (AH skB (vB5 l p n k q)).tmps (.tmp 42)= .c (.bool q):=by kernel_rfl
theorem Z1j (l:List (List AC)) (p:Value) (n k:Int) (s:ByteArray):AM (AH skC [.vC A_ l, .raw p, .vC A_ l, .int .i64 n, .int .i64 k, .raw (.string s)]).tmps (.tmp 3)= .c (.raw p):=by kernel_rfl
theorem Zye (l:List (List AC)) (p:Value) (n k:Int) (s:ByteArray):AM (AH skC [.vC A_ l, .raw p, .vC A_ l, .int .i64 n, .int .i64 k, .raw (.string s)]).tmps (.tmp 45)= .c (.raw (.string s)):=by kernel_rfl
theorem bare (l:List (List AC)) (p:Value) (n k:Int) (s:ByteArray):(AH skC [.vC A_ l, .raw p, .vC A_ l, .int .i64 n, .int .i64 k, .raw (.string s)])=⟨(AH skC [.vC A_ l, .raw p, .vC A_ l, .int .i64 n, .int .i64 k, .raw (.string s)]).tmps,[],[]⟩:=by kernel_rfl
theorem Zym:If Tryz.prog 75=true:=by kernel_rfl
theorem Zx4:If Tryz.prog 77=true:=by kernel_rfl
section
variable {Z:Base} {B b:Nat} {ML:List AC->Option (List AC)} {l:List (List AC)}
theorem Zzz (T:InZ Z) (X:∀k,Z.I0 k->k<B) (Y:∀k,Z.F k->k<B) (hL:An Tryz.prog (76,Ac L1 Gz ML)) {v:Value} {bs:List UInt8} {k:Nat} {a:Act} {w:World} {q:Bool} {o:List AC}
  (h:RG Z B b v (Lib.byteCells bs) (AH skB (vB5 l (pB b) l.length k q)) a.tmps w) (ho:ML (.int .i64 (k:Int)::AT A_ (nth [] l k))=some o) (hs:bs.length+(Bp (nth .vD o 0)).size<=140737488355328):
  cR6.wp Tryz.prog (λe U w'=>e= .normal/\∃I,RG Z B b I (Lib.byteCells (bs++(Bp (nth .vD o 0)).data.toList)) (AH skH (hV l (pB b) k)) U.tmps w'/\U.defers=a.defers) a w:=by
 have L:=Zto ML l (pB b) (l.length:Int) (k:Int) q;rw[af,ho]at L;simp only[am]at L;rw[Zzv];refine wp_region_list ?_;rw[Zup];refine Qy6 (Zi1 hL) (by intro t ht;cases ht) _ _ a w h.rel L ?_;intro s' a1 w1 M N O;have D:=(h.next N).re T Zsx M;rw[bare]at D;refine wpList_plain Zxh λK hK=> ?_;have e1:=D.rawv (Z1j l (pB b) l.length k (Bp (nth .vD o 0)));have e2:=D.rawv (Zye l (pB b) l.length k (Bp (nth .vD o 0)));have he:execOp a1.eval o6=callFunc 75 [pB b, .string (Bp (nth .vD o 0))].toArray:=by
  have:=RI (e:=a1.eval) Zqf rfl rfl;rw[this];show callFunc 75 ([Operand.tmp 3,Operand.tmp 45].map a1.eval).toArray=_;simp only[bj,dx,e1,e2]
 refine L4 he (.inl ⟨I6 Zym,?_⟩);refine(Tryz.bld_write B b v (Lib.byteCells bs) (Bp (nth .vD o 0)) w1 D.bld (by rw[Lib.byteCells_length];exact hs) D.hB).mono ?_;rintro e w2 ⟨⟨x,rfl⟩,I,q1,q2,q3⟩;refine⟨x,rfl,hK _ _ ?_⟩;have V:=D.write X Y q1 q2 q3;rw[<-bare]at V;have G:=V.re T Ug (Zk0 l (pB b) l.length k (Bp (nth .vD o 0)));show _/\_;refine⟨rfl,I,?_,?_⟩
 ·have e3:Lib.byteCells bs++Lib.strCells (Bp (nth .vD o 0))=Lib.byteCells (bs++(Bp (nth .vD o 0)).data.toList):=by
   rw[Lib.strCells_eq];unfold Lib.byteCells;rw[bt]
  rw[e3]at G;refine⟨G.bld,G.fr,G.hB,G.gt,?_⟩;obtain⟨ρ,q⟩:=G.rel;rw[Q0r];have:=q.put 46 (v:= .vD) (x:=x) trivial trivial;exact⟨ρ,this⟩
 ·rw[Q0r];exact O
end
end Go.Bm
