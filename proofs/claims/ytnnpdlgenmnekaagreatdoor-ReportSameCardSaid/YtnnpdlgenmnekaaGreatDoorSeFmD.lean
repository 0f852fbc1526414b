/- the report of a run: Format's row -/
import Derived.Test.YtnnpdlgenmnekaaGreatDoorSeFmC
set_option linter.unusedVariables false
set_option linter.unusedSimpArgs false
set_option maxRecDepth 100000
noncomputable section
namespace Go.Bm
open Go.Proofs Go.RowKit
theorem KB {c:Code} {blk:Nat}:SubOK Tryz.prog C30 c blk:=Zk8 rfl rfl rfl
section
variable {Z:Base} {B b:Nat} {ML:List AC->Option (List AC)} {l:List (List AC)}
theorem Zlg (L:InZ Z) (hI:∀k,Z.I0 k->k<B) (hF:∀k,Z.F k->k<B) (hL:Al Tryz.prog (76,Ac LH Gn ML)) (hl:l.length<=4611686018427387904) {v:Value} {bs N:List UInt8} {k:Nat} {a:Act} {w:World}
  (h:RG Z B b v (Lib.byteCells bs) (AA skH (hV l (pB b) k)) a.tmps w) (hk:k<l.length) (h0:F0 ML l k=some bs) (D:F0 ML l (k+1)=some N):
  cLB.wp Tryz.prog (λe M w'=>e= .normal/\∃I,RG Z B b I (Lib.byteCells N) (AA skH (hV l (pB b) (k+1))) M.tmps w'/\M.defers=a.defers) a w:=by
 have last:∀{I:Value} {bs:List UInt8} {a1:Act} {O:World},RG Z B b I (Lib.byteCells bs) (AA skH (hV l (pB b) k)) a1.tmps O->a1.defers=a.defers->
   cR7.wp Tryz.prog (λe M w'=>e= .normal/\∃I,RG Z B b I (Lib.byteCells bs) (AA skH (hV l (pB b) (k+1))) M.tmps w'/\M.defers=a.defers) a1 O:=fun{I bs a1 O} g d=>by
  have T:=Zzp l (pB b) (l.length:Int) (k:Int);have e1:V ((k:Int)+1)=((k+1:Nat):Int):=by rw[Ae];omega
  rw[e1]at T;refine wp_mono (g.chunk I7 rfl L KB Ue T) ?_;rintro e M w' ⟨q1,q2,q3⟩;exact⟨q1,I,q2,q3.trans d⟩
 rw[Qtz];have U:=Qwq l (pB b) (l.length:Int) (k:Int);rw[aj (show(k:Int)<(l.length:Int) by omega)]at U;refine wp_seq (wp_mono (h.chunk I7 rfl L KB Q8x U) ?_);rintro e a1 O ⟨rfl,g1,X⟩;show Code.wp _ _ _ _ _;refine wp_seq (wp_cond_true (g1.bool (Q8z l (pB b) k true)) (wp_skip ?_));show Code.wp _ _ _ _ _;have hB:=Ya0 (p:=pB b) (q:=true) hk hl;unfold uB at hB;rw[Bp]at hB;refine wp_seq (wp_block (wp_seq (wp_mono (g1.code I7 (by intro t ht;cases ht) T5 L KB hB) ?_)));rintro e a2 w2 ⟨ae,s2,rfl,G,g2,Y⟩;cases ae with
 |exit i=>simp[kN]at G
 |ret=>simp[kN]at G
 |normal=>
  show Code.wp _ _ _ _ _;dsimp only at G;refine wp_seq (wp_mono (g2.chunk I7 rfl L KB Zkg G) ?_);rintro e a3 w3 ⟨rfl,S,d3⟩;show Code.wp _ _ _ _ _;rw[F0,h0]at D;simp only[af]at D;refine wp_cond (S.bool (Zlt l (pB b) l.length k (QC l k))) ?_;generalize hw:QC l k=wq at*;cases wq
  ·simp only[aq,am]at D;subst D;refine wp_skip ?_;show Code.wp _ _ _ _ _;exact last (S.re L Ue (Z7a l (pB b) l.length k false)) (d3.trans (Y.trans X))
  ·simp only[ag,bf]at D;obtain⟨o,ho,D⟩:=D;obtain⟨hs,D⟩:=Bo D;simp only[am]at D;subst D;refine wp_mono (Z06 L hI hF hL S ho (ay hs)) ?_;rintro e a4 w4 ⟨rfl,v4,g4,d4⟩;show Code.wp _ _ _ _ _;exact last g4 (d4.trans (d3.trans (Y.trans X)))
theorem Q52 (L:InZ Z) (S:∀k,Z.I0 k->k<B) (T:∀k,Z.F k->k<B) (U:Al Tryz.prog (76,Ac LH Gn ML)) (V:l.length<=4611686018427387904) {D:List UInt8} (he:F0 ML l l.length=some D):
  ∀(m k:Nat) (bs:List UInt8) (v:Value) (a:Act) (w:World),k+m=l.length->F0 ML l k=some bs->RG Z B b v (Lib.byteCells bs) (AA skH (hV l (pB b) k)) a.tmps w->
   Code.rounds Tryz.prog cLB (λe X w'=>e= .exit 0/\∃v',RG Z B b v' (Lib.byteCells D) (AA skE [.raw (pB b)]) X.tmps w'/\X.defers=a.defers) (m+1) a w
 |0,k,bs,v,a,w,hk,M,h=>by
  have e:k=l.length:=by omega
  subst e;rw[M]at he;simp only[am]at he;subst he;rw[rounds_succ,Qtz];have Y:=Qwq l (pB b) (l.length:Int) (l.length:Int);rw[an (show¬(l.length:Int)<(l.length:Int) by omega)]at Y;refine wp_seq (wp_mono (h.chunk I7 rfl L KB Q8x Y) ?_);rintro e a1 w1 ⟨rfl,g1,N⟩;show Code.wp _ _ _ _ _;refine wp_seq (wp_cond_false (g1.bool (Q8z l (pB b) l.length false)) (wp_exit ?_));exact⟨rfl,v,g1.re L Zkd (Z5d l (pB b) l.length l.length false),N⟩
 |m+1,k,bs,v,a,w,hk,M,h=>by
  have G:∃b1,F0 ML l (k+1)=some b1:=by
   have:∀n,∀j,j+n=l.length->∀x,F0 ML l l.length=some x->∃y,F0 ML l j=some y:=by
    intro n;induction n with
    |zero=>intro j hj x G;exact⟨x,by rw[show j=l.length by omega];exact G⟩
    |succ n ih=>
     intro j hj x G;obtain⟨y,O⟩:=ih (j+1) (by omega) x G;rw[F0]at O;simp only[bf]at O;obtain⟨z,hz,_⟩:=O;exact⟨z,hz⟩
   exact this m (k+1) (by omega) _ he
  obtain⟨b1,I⟩:=G;rw[rounds_succ];refine wp_mono (Zlg L S T U V h (by omega) M I) ?_;rintro e a1 w1 ⟨rfl,v1,g1,N⟩;show Code.rounds _ _ _ _ _ _;rw[<-N];exact Q52 L S T U V he m (k+1) b1 v1 a1 w1 (by omega) I g1
end
def o8:Oper:=(GI (cs1 cT)).toList.getD 0 opD
def o8b:Oper:=(GI (cs1 cT)).toList.getD 1 opD
theorem Qry:(GI (cs1 cT)).toList=[o8,o8b]:=by kernel_rfl
theorem Zwt:o8.op= .call {callee:= .value (.func 77),args:= #[.tmp 3],argTypes:= #[141]}:=by kernel_rfl
theorem Zia:o8.guard=none:=by kernel_rfl
theorem TX:o8.dst=some 48:=by kernel_rfl
theorem Zf7 (p:Value):AG (AA skE [.raw p]).tmps (.tmp 3)= .c (.raw p):=by kernel_rfl
theorem Zf1 (l:List (List AC)):Bp Tryz.prog C30 64 (.seq (cs1 KA) (cs1 (cs2 KA))) 0 ⟨[.c (.vC AU l)]++List.replicate 48 TV.vD,[],[]⟩ (λe s=>match e with| .normal=>some s|_=>none)=
  some ⟨[.c (.vC AU l), .vD, .c (.raw (.string ⟨#[]⟩)), .c (.ptr 3 0)]++List.replicate 45 TV.vD,[(3,⟨141,[.raw (.pointer none), .nilSl]⟩)],[]⟩:=by kernel_rfl
theorem Zqn (l:List (List AC)) (p:Value):Di sk0 ⟨setL ([.c (.vC AU l), .vD, .c (.raw (.string ⟨#[]⟩)), .c (.ptr 3 0)]++List.replicate 45 TV.vD) 3 (.c (.raw p)),[(3,⟨141,[.raw (.pointer none), .nilSl]⟩)],[]⟩=some [.vC AU l, .raw p]:=by kernel_rfl
end Go.Bm
