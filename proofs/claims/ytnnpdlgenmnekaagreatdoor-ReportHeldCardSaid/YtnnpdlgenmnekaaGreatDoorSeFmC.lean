/- the report of a run: Format's row, proved -/
import Derived.Test.YtnnpdlgenmnekaaGreatDoorSeFmB
set_option linter.unusedVariables false
set_option linter.unusedSimpArgs false
set_option maxRecDepth 100000
noncomputable section
namespace Go.Bm
open Go.Proofs Go.RowKit
section
variable {Z:Base} {B b:Nat} {v:Value} {bs:List Value} {s:St} {tmps:Array Value} {w:World}
theorem RG.eval (h:RG Z B b v bs s tmps w) {a:Act} (D:a.tmps=tmps) (x:Operand):∃ρ:Env,TVR ρ w (AL s.tmps x) (a.eval x):=by
 subst D;obtain⟨ρ,q⟩:=h.rel;exact⟨ρ,UB q x⟩
theorem RG.bool {a:Act} (h:RG Z B b v bs s a.tmps w) {x:Operand} {q:Bool} (D:AL s.tmps x= .c (.bool q)):a.eval x= .bool q:=by
 obtain⟨ρ,e⟩:=h.eval rfl x;rw[D]at e;exact e.bool
theorem RG.rawv {a:Act} (h:RG Z B b v bs s a.tmps w) {x:Operand} {u:Value} (G:AL s.tmps x= .c (.raw u)):a.eval x=u:=by
 obtain⟨ρ,e⟩:=h.eval rfl x;rw[G]at e;obtain⟨c,D,I⟩:=e;simp only[d6,iz]at D;subst D;exact I.1
theorem RG.chunk {C:Cfg} (D:Ai Tryz.prog C) (I:C.eqOk=[]) (S:InZ Z) {c:Code} {L blk:Nat} {sk:Sk} {vars:List AC} {a:Act} (G:SubOK Tryz.prog C c blk) (M:sk.okB=true)
  (h:RG Z B b v bs s a.tmps w) (T:Bq Tryz.prog C L c blk s (kN sk)=some vars):
  c.wp Tryz.prog (λe N w'=>e= .normal/\RG Z B b v bs (AF sk vars) N.tmps w'/\N.defers=a.defers) a w:=by
 refine wp_mono (h.code D (by rw[I];simp) UL S G T) ?_;rintro e N w' ⟨U,Y,rfl,O,V,X⟩;cases U with
 |normal=>exact⟨rfl,V.re S M O,X⟩
 |exit i=>simp[kN]at O
 |ret=>simp[kN]at O
end
abbrev hV (l:List (List AC)) (p:Value) (k:Nat):List AC:=[.vC A1 l, .raw p, .vC A1 l, .int .i64 (l.length:Int), .int .i64 (k:Int)]
abbrev pB (b:Nat):Value:= .pointer (some ⟨b,0,none⟩)
theorem UW:skH.okB=true:=by kernel_rfl
theorem Zfh:skA.okB=true:=by kernel_rfl
theorem Zsn:skB.okB=true:=by kernel_rfl
theorem Z20:skC.okB=true:=by kernel_rfl
theorem Zsi:skE.okB=true:=by kernel_rfl
theorem ok0:sk0.okB=true:=by kernel_rfl
def opD:Oper:=⟨none, .move (.const .nilIface),0, "", #[],none⟩
def o6:Oper:=(G3 cR6).toList.getD 3 opD
theorem Z4u:(G3 cR6).toList=(G3 cR6).toList.take 3++[o6]:=by kernel_rfl
theorem Z0d:o6.op= .call {callee:= .value (.func 75),args:= #[.tmp 3, .tmp 45],argTypes:= #[141,9]}:=by kernel_rfl
theorem Z7o:o6.guard=none:=by kernel_rfl
theorem Q73:o6.dst=some 46:=by kernel_rfl
theorem Zfj (l:List (List AC)) (p:Value) (k:Nat) (q:Bool):AL (AF skA (hV l p k++[.bool q])).tmps (.tmp 9)= .c (.bool q):=by kernel_rfl
theorem Zt0 (l:List (List AC)) (p:Value) (n k:Int) (q:Bool):AL (AF skB (vB5 l p n k q)).tmps (.tmp 42)= .c (.bool q):=by kernel_rfl
theorem Yb1 (l:List (List AC)) (p:Value) (n k:Int) (s:ByteArray):AL (AF skC [.vC A1 l, .raw p, .vC A1 l, .int .i64 n, .int .i64 k, .raw (.string s)]).tmps (.tmp 3)= .c (.raw p):=by kernel_rfl
theorem Z8p (l:List (List AC)) (p:Value) (n k:Int) (s:ByteArray):AL (AF skC [.vC A1 l, .raw p, .vC A1 l, .int .i64 n, .int .i64 k, .raw (.string s)]).tmps (.tmp 45)= .c (.raw (.string s)):=by kernel_rfl
theorem bare (l:List (List AC)) (p:Value) (n k:Int) (s:ByteArray):(AF skC [.vC A1 l, .raw p, .vC A1 l, .int .i64 n, .int .i64 k, .raw (.string s)])=⟨(AF skC [.vC A1 l, .raw p, .vC A1 l, .int .i64 n, .int .i64 k, .raw (.string s)]).tmps,[],[]⟩:=by kernel_rfl
theorem Z8x:In Tryz.prog 75=true:=by kernel_rfl
theorem Z8d:In Tryz.prog 77=true:=by kernel_rfl
section
variable {Z:Base} {B b:Nat} {ML:List AC->Option (List AC)} {l:List (List AC)}
theorem Yaf (S:InZ Z) (V:∀k,Z.I0 k->k<B) (X:∀k,Z.F k->k<B) (Y:Ak Tryz.prog (76,Ab L8 GJ ML)) {v:Value} {bs:List UInt8} {k:Nat} {a:Act} {w:World} {q:Bool} {o:List AC}
  (h:RG Z B b v (Lib.byteCells bs) (AF skB (vB5 l (pB b) l.length k q)) a.tmps w) (ho:ML (.int .i64 (k:Int)::AE A1 (nth [] l k))=some o) (hs:bs.length+(Bd (nth .vD o 0)).size<=140737488355328):
  cR6.wp Tryz.prog (λe T w'=>e= .normal/\∃I,RG Z B b I (Lib.byteCells (bs++(Bd (nth .vD o 0)).data.toList)) (AF skH (hV l (pB b) k)) T.tmps w'/\T.defers=a.defers) a w:=by
 have L:=Z3t ML l (pB b) (l.length:Int) (k:Int) q;rw[af,ho]at L;simp only[am]at L;rw[Yab];refine wp_region_list ?_;rw[Z4u];refine Q58 (Zrx Y) (by intro t ht;cases ht) _ _ a w h.rel L ?_;intro s' a1 w1 M N O;have D:=(h.next N).re S Z20 M;rw[bare]at D;refine wpList_plain Z7o λK hK=> ?_;have e1:=D.rawv (Yb1 l (pB b) l.length k (Bd (nth .vD o 0)));have e2:=D.rawv (Z8p l (pB b) l.length k (Bd (nth .vD o 0)));have he:execOp a1.eval o6=callFunc 75 [pB b, .string (Bd (nth .vD o 0))].toArray:=by
  have:=Sl (e:=a1.eval) Z0d rfl rfl;rw[this];show callFunc 75 ([Operand.tmp 3,Operand.tmp 45].map a1.eval).toArray=_;simp only[be,da,e1,e2]
 refine L9 he (.inl ⟨Jh Z8x,?_⟩);refine(Tryz.bld_write B b v (Lib.byteCells bs) (Bd (nth .vD o 0)) w1 D.bld (by rw[Lib.byteCells_length];exact hs) D.hB).mono ?_;rintro e w2 ⟨⟨x,rfl⟩,I,q1,q2,q3⟩;refine⟨x,rfl,hK _ _ ?_⟩;have U:=D.write V X q1 q2 q3;rw[<-bare]at U;have G:=U.re S UW (Zt4 l (pB b) l.length k (Bd (nth .vD o 0)));show _/\_;refine⟨rfl,I,?_,?_⟩
 ·have e3:Lib.byteCells bs++Lib.strCells (Bd (nth .vD o 0))=Lib.byteCells (bs++(Bd (nth .vD o 0)).data.toList):=by
   rw[Lib.strCells_eq];unfold Lib.byteCells;rw[bp]
  rw[e3]at G;refine⟨G.bld,G.fr,G.hB,G.gt,?_⟩;obtain⟨ρ,q⟩:=G.rel;rw[Q73];have:=q.put 46 (v:= .vD) (x:=x) trivial trivial;exact⟨ρ,this⟩
 ·rw[Q73];exact O
end
end Go.Bm
