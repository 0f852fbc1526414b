/- the report of a run: Format's row, proved -/
import Derived.Test.YtnnpdlgenmnekaaGreatDoorSeFmB
set_option linter.unusedVariables false
set_option linter.unusedSimpArgs false
set_option maxRecDepth 100000
noncomputable section
namespace Go.Bm
open Go.Proofs Go.RowKit
section
variable {Z:Base} {B b:Nat} {v:Value} {bs:List Value} {s:St} {tmps:Array Value} {w:World}
theorem RG.eval (h:RG Z B b v bs s tmps w) {a:Act} (A:a.tmps=tmps) (x:Operand):∃ρ:Env,TVR ρ w (Ai s.tmps x) (a.eval x):=by
 subst A;obtain⟨ρ,q⟩:=h.rel;exact⟨ρ,Du q x⟩
theorem RG.bool {a:Act} (h:RG Z B b v bs s a.tmps w) {x:Operand} {q:Bool} (A:Ai s.tmps x= .c (.bool q)):a.eval x= .bool q:=by
 obtain⟨ρ,e⟩:=h.eval rfl x;rw[A]at e;exact e.bool
theorem RG.rawv {a:Act} (h:RG Z B b v bs s a.tmps w) {x:Operand} {u:Value} (A:Ai s.tmps x= .c (.raw u)):a.eval x=u:=by
 obtain⟨ρ,e⟩:=h.eval rfl x;rw[A]at e;obtain⟨c,h1,h2⟩:=e;simp only[a9,cy]at h1;subst h1;exact h2.1
theorem RG.chunk {C:Cfg} (A:Ak Tryz.prog C) (E:C.eqOk=[]) (N:InZ Z) {c:Code} {L blk:Nat} {sk:Sk} {vars:List AC} {a:Act} (D:SubOK Tryz.prog C c blk) (G:sk.okB=true)
  (h:RG Z B b v bs s a.tmps w) (O:Ax Tryz.prog C L c blk s (kN sk)=some vars):
  c.wp Tryz.prog (λe J w'=>e= .normal/\RG Z B b v bs (Ag sk vars) J.tmps w'/\J.defers=a.defers) a w:=by
 refine wp_mono (h.code A (by rw[E];simp) C4 N D O) ?_;rintro e J w' ⟨Q,U,rfl,q2,S,T⟩;cases Q with
 |normal=>exact⟨rfl,S.re N G q2,T⟩
 |exit i=>simp[kN]at q2
 |ret=>simp[kN]at q2
end
abbrev hV (l:List (List AC)) (p:Value) (k:Nat):List AC:=[.vC Ac l, .raw p, .vC Ac l, .int .i64 (l.length:Int), .int .i64 (k:Int)]
abbrev pB (b:Nat):Value:= .pointer (some ⟨b,0,none⟩)
theorem G1:skH.okB=true:=by kernel_rfl
theorem Ni:skA.okB=true:=by kernel_rfl
theorem Pn:skB.okB=true:=by kernel_rfl
theorem QY:skC.okB=true:=by kernel_rfl
theorem Pm:skE.okB=true:=by kernel_rfl
theorem ok0:sk0.okB=true:=by kernel_rfl
def opD:Oper:=⟨none, .move (.const .nilIface),0, "", #[],none⟩
def o6:Oper:=(BR cR6).toList.getD 3 opD
theorem Ro:(BR cR6).toList=(BR cR6).toList.take 3++[o6]:=by kernel_rfl
theorem Qv:o6.op= .call {callee:= .value (.func 75),args:= #[.tmp 3, .tmp 45],argTypes:= #[141,9]}:=by kernel_rfl
theorem Sa:o6.guard=none:=by kernel_rfl
theorem L5:o6.dst=some 46:=by kernel_rfl
theorem Nj (l:List (List AC)) (p:Value) (k:Nat) (q:Bool):Ai (Ag skA (hV l p k++[.bool q])).tmps (.tmp 9)= .c (.bool q):=by kernel_rfl
theorem PD (l:List (List AC)) (p:Value) (n k:Int) (q:Bool):Ai (Ag skB (vB5 l p n k q)).tmps (.tmp 42)= .c (.bool q):=by kernel_rfl
theorem Tb (l:List (List AC)) (p:Value) (n k:Int) (s:ByteArray):Ai (Ag skC [.vC Ac l, .raw p, .vC Ac l, .int .i64 n, .int .i64 k, .raw (.string s)]).tmps (.tmp 3)= .c (.raw p):=by kernel_rfl
theorem So (l:List (List AC)) (p:Value) (n k:Int) (s:ByteArray):Ai (Ag skC [.vC Ac l, .raw p, .vC Ac l, .int .i64 n, .int .i64 k, .raw (.string s)]).tmps (.tmp 45)= .c (.raw (.string s)):=by kernel_rfl
theorem bare (l:List (List AC)) (p:Value) (n k:Int) (s:ByteArray):(Ag skC [.vC Ac l, .raw p, .vC Ac l, .int .i64 n, .int .i64 k, .raw (.string s)])=⟨(Ag skC [.vC Ac l, .raw p, .vC Ac l, .int .i64 n, .int .i64 k, .raw (.string s)]).tmps,[],[]⟩:=by kernel_rfl
theorem Sr:CB Tryz.prog 75=true:=by kernel_rfl
theorem Si:CB Tryz.prog 77=true:=by kernel_rfl
section
variable {Z:Base} {B b:Nat} {ML:List AC->Option (List AC)} {l:List (List AC)}
theorem SP (L:InZ Z) (O:∀k,Z.I0 k->k<B) (hF:∀k,Z.F k->k<B) (Q:Av Tryz.prog (76,Aj Es Cf ML)) {v:Value} {bs:List UInt8} {k:Nat} {a:Act} {w:World} {q:Bool} {o:List AC}
  (h:RG Z B b v (Lib.byteCells bs) (Ag skB (vB5 l (pB b) l.length k q)) a.tmps w) (ho:ML (.int .i64 (k:Int)::Ap Ac (nth [] l k))=some o) (S:bs.length+(Ah (nth .vD o 0)).size<=140737488355328):
  cR6.wp Tryz.prog (λe N w'=>e= .normal/\∃A,RG Z B b A (Lib.byteCells (bs++(Ah (nth .vD o 0)).data.toList)) (Ag skH (hV l (pB b) k)) N.tmps w'/\N.defers=a.defers) a w:=by
 have D:=Ra ML l (pB b) (l.length:Int) (k:Int) q;rw[aw,ho]at D;simp only[ak]at D;rw[SN];refine wp_region_list ?_;rw[Ro];refine LK (Pd Q) (by intro t T;cases T) _ _ a w h.rel D ?_;intro Y a1 U E G J;have h1:=(h.next G).re L QY E;rw[bare]at h1;refine wpList_plain Sa λK V=> ?_;have e1:=h1.rawv (Tb l (pB b) l.length k (Ah (nth .vD o 0)));have e2:=h1.rawv (So l (pB b) l.length k (Ah (nth .vD o 0)));have he:execOp a1.eval o6=callFunc 75 [pB b, .string (Ah (nth .vD o 0))].toArray:=by
  have:=F9 (e:=a1.eval) Qv rfl rfl;rw[this];show callFunc 75 ([Operand.tmp 3,Operand.tmp 45].map a1.eval).toArray=_;simp only[av,cw,e1,e2]
 refine Et he (.inl ⟨DS Sr,?_⟩);refine(Tryz.bld_write B b v (Lib.byteCells bs) (Ah (nth .vD o 0)) U h1.bld (by rw[Lib.byteCells_length];exact S) h1.hB).mono ?_;rintro e w2 ⟨⟨x,rfl⟩,A,q1,q2,X⟩;refine⟨x,rfl,V _ _ ?_⟩;have h2:=h1.write O hF q1 q2 X;rw[<-bare]at h2;have h3:=h2.re L G1 (PH l (pB b) l.length k (Ah (nth .vD o 0)));show _/\_;refine⟨rfl,A,?_,?_⟩
 ·have e3:Lib.byteCells bs++Lib.strCells (Ah (nth .vD o 0))=Lib.byteCells (bs++(Ah (nth .vD o 0)).data.toList):=by
   rw[Lib.strCells_eq];unfold Lib.byteCells;rw[dh]
  rw[e3]at h3;refine⟨h3.bld,h3.fr,h3.hB,h3.gt,?_⟩;obtain⟨ρ,q⟩:=h3.rel;rw[L5];have:=q.put 46 (v:= .vD) (x:=x) trivial trivial;exact⟨ρ,this⟩
 ·rw[L5];exact J
end
end Go.Bm
