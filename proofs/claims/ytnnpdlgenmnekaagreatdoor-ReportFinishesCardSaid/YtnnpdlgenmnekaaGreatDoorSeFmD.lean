/- the report of a run: Format's row -/
import Derived.Test.YtnnpdlgenmnekaaGreatDoorSeFmC
set_option linter.unusedVariables false
set_option linter.unusedSimpArgs false
set_option maxRecDepth 100000
noncomputable section
namespace Go.Bm
open Go.Proofs Go.RowKit
theorem KH {c:Code} {blk:Nat}:SubOK Tryz.prog C30 c blk:=Zkb rfl rfl rfl
section
variable {Z:Base} {B b:Nat} {ML:List AC->Option (List AC)} {l:List (List AC)}
theorem Zkj (L:InZ Z) (hI:∀k,Z.I0 k->k<B) (hF:∀k,Z.F k->k<B) (hL:An Tryz.prog (76,Ac L1 Gz ML)) (hl:l.length<=4611686018427387904) {v:Value} {bs N:List UInt8} {k:Nat} {a:Act} {w:World}
  (h:RG Z B b v (Lib.byteCells bs) (AH skH (hV l (pB b) k)) a.tmps w) (hk:k<l.length) (h0:F3 ML l k=some bs) (D:F3 ML l (k+1)=some N):
  cLB.wp Tryz.prog (λe M w'=>e= .normal/\∃I,RG Z B b I (Lib.byteCells N) (AH skH (hV l (pB b) (k+1))) M.tmps w'/\M.defers=a.defers) a w:=by
 have last:∀{I:Value} {bs:List UInt8} {a1:Act} {O:World},RG Z B b I (Lib.byteCells bs) (AH skH (hV l (pB b) k)) a1.tmps O->a1.defers=a.defers->
   cR7.wp Tryz.prog (λe M w'=>e= .normal/\∃I,RG Z B b I (Lib.byteCells bs) (AH skH (hV l (pB b) (k+1))) M.tmps w'/\M.defers=a.defers) a1 O:=fun{I bs a1 O} g d=>by
  have U:=Zyp l (pB b) (l.length:Int) (k:Int);have e1:V ((k:Int)+1)=((k+1:Nat):Int):=by rw[Ad];omega
  rw[e1]at U;refine wp_mono (g.chunk Jd rfl L KH Ug U) ?_;rintro e M w' ⟨q1,q2,q3⟩;exact⟨q1,I,q2,q3.trans d⟩
 rw[Qrv];have X:=Qu0 l (pB b) (l.length:Int) (k:Int);rw[ai (show(k:Int)<(l.length:Int) by omega)]at X;refine wp_seq (wp_mono (h.chunk Jd rfl L KH Q7r X) ?_);rintro e a1 O ⟨rfl,g1,Y⟩;show Code.wp _ _ _ _ _;refine wp_seq (wp_cond_true (g1.bool (Q7t l (pB b) k true)) (wp_skip ?_));show Code.wp _ _ _ _ _;have hB:=Z9y (p:=pB b) (q:=true) hk hl;unfold uB at hB;rw[BC]at hB;refine wp_seq (wp_block (wp_seq (wp_mono (g1.code Jd (by intro t ht;cases ht) T5 L KH hB) ?_)));rintro e a2 w2 ⟨ae,s2,rfl,G,g2,d2⟩;cases ae with
 |exit i=>simp[kN]at G
 |ret=>simp[kN]at G
 |normal=>
  show Code.wp _ _ _ _ _;dsimp only at G;refine wp_seq (wp_mono (g2.chunk Jd rfl L KH Zjn G) ?_);rintro e a3 w3 ⟨rfl,T,d3⟩;show Code.wp _ _ _ _ _;rw[F3,h0]at D;simp only[am]at D;refine wp_cond (T.bool (Zkw l (pB b) l.length k (QG l k))) ?_;generalize hw:QG l k=wq at*;cases wq
  ·simp only[ay,ap]at D;subst D;refine wp_skip ?_;show Code.wp _ _ _ _ _;exact last (T.re L Ug (Z53 l (pB b) l.length k false)) (d3.trans (d2.trans Y))
  ·simp only[ak,bn]at D;obtain⟨o,ho,D⟩:=D;obtain⟨hs,D⟩:=BO D;simp only[ap]at D;subst D;refine wp_mono (Zzz L hI hF hL T ho (ba hs)) ?_;rintro e a4 w4 ⟨rfl,v4,g4,d4⟩;show Code.wp _ _ _ _ _;exact last g4 (d4.trans (d3.trans (d2.trans Y)))
theorem Q4r (L:InZ Z) (T:∀k,Z.I0 k->k<B) (U:∀k,Z.F k->k<B) (V:An Tryz.prog (76,Ac L1 Gz ML)) (X:l.length<=4611686018427387904) {D:List UInt8} (he:F3 ML l l.length=some D):
  ∀(m k:Nat) (bs:List UInt8) (v:Value) (a:Act) (w:World),k+m=l.length->F3 ML l k=some bs->RG Z B b v (Lib.byteCells bs) (AH skH (hV l (pB b) k)) a.tmps w->
   Code.rounds Tryz.prog cLB (λe Y w'=>e= .exit 0/\∃v',RG Z B b v' (Lib.byteCells D) (AH skE [.raw (pB b)]) Y.tmps w'/\Y.defers=a.defers) (m+1) a w
 |0,k,bs,v,a,w,hk,M,h=>by
  have e:k=l.length:=by omega
  subst e;rw[M]at he;simp only[ap]at he;subst he;rw[rounds_succ,Qrv];have hA:=Qu0 l (pB b) (l.length:Int) (l.length:Int);rw[al (show¬(l.length:Int)<(l.length:Int) by omega)]at hA;refine wp_seq (wp_mono (h.chunk Jd rfl L KH Q7r hA) ?_);rintro e a1 w1 ⟨rfl,g1,N⟩;show Code.wp _ _ _ _ _;refine wp_seq (wp_cond_false (g1.bool (Q7t l (pB b) l.length false)) (wp_exit ?_));exact⟨rfl,v,g1.re L Zjk (Z38 l (pB b) l.length l.length false),N⟩
 |m+1,k,bs,v,a,w,hk,M,h=>by
  have G:∃b1,F3 ML l (k+1)=some b1:=by
   have:∀n,∀j,j+n=l.length->∀x,F3 ML l l.length=some x->∃y,F3 ML l j=some y:=by
    intro n;induction n with
    |zero=>intro j hj x G;exact⟨x,by rw[show j=l.length by omega];exact G⟩
    |succ n ih=>
     intro j hj x G;obtain⟨y,O⟩:=ih (j+1) (by omega) x G;rw[F3]at O;simp only[bn]at O;obtain⟨z,hz,_⟩:=O;exact⟨z,hz⟩
   exact this m (k+1) (by omega) _ he
  obtain⟨b1,I⟩:=G;rw[rounds_succ];refine wp_mono (Zkj L T U V X h (by omega) M I) ?_;rintro e a1 w1 ⟨rfl,v1,g1,N⟩;show Code.rounds _ _ _ _ _ _;rw[<-N];exact Q4r L T U V X he m (k+1) b1 v1 a1 w1 (by omega) I g1
end
def o8:Oper:=(GR (cs1 cT)).toList.getD 0 opD
def o8b:Oper:=(GR (cs1 cT)).toList.getD 1 opD
theorem Qp0:(GR (cs1 cT)).toList=[o8,o8b]:=by kernel_rfl
theorem Zvn:o8.op= .call {callee:= .value (.func 77),args:= #[.tmp 3],argTypes:= #[141]}:=by kernel_rfl
theorem Zhg:o8.guard=none:=by kernel_rfl
theorem TW:o8.dst=some 48:=by kernel_rfl
theorem Zfe (p:Value):AM (AH skE [.raw p]).tmps (.tmp 3)= .c (.raw p):=by kernel_rfl
theorem Ze7 (l:List (List AC)):BC Tryz.prog C30 64 (.seq (cs1 KG) (cs1 (cs2 KG))) 0 ⟨[.c (.vC A_ l)]++List.replicate 48 TV.vD,[],[]⟩ (λe s=>match e with| .normal=>some s|_=>none)=
  some ⟨[.c (.vC A_ l), .vD, .c (.raw (.string ⟨#[]⟩)), .c (.ptr 3 0)]++List.replicate 45 TV.vD,[(3,⟨141,[.raw (.pointer none), .nilSl]⟩)],[]⟩:=by kernel_rfl
theorem Zpm (l:List (List AC)) (p:Value):DI sk0 ⟨setL ([.c (.vC A_ l), .vD, .c (.raw (.string ⟨#[]⟩)), .c (.ptr 3 0)]++List.replicate 45 TV.vD) 3 (.c (.raw p)),[(3,⟨141,[.raw (.pointer none), .nilSl]⟩)],[]⟩=some [.vC A_ l, .raw p]:=by kernel_rfl
end Go.Bm
