/- the report of a run: Format's row -/
import Derived.Test.YtnnpdlgenmnekaaGreatDoorSeFmC
set_option linter.unusedVariables false
set_option linter.unusedSimpArgs false
set_option maxRecDepth 100000
noncomputable section
namespace Go.Bm
open Go.Proofs Go.RowKit
theorem KO {c:Code} {blk:Nat}:SubOK Tryz.prog C30 c blk:=Ztg rfl rfl rfl
section
variable {Z:Base} {B b:Nat} {ML:List AC->Option (List AC)} {l:List (List AC)}
theorem Ztn (L:InZ Z) (hI:∀k,Z.I0 k->k<B) (hF:∀k,Z.F k->k<B) (hL:Ak Tryz.prog (76,Ab L8 GJ ML)) (hl:l.length<=4611686018427387904) {v:Value} {bs N:List UInt8} {k:Nat} {a:Act} {w:World}
  (h:RG Z B b v (Lib.byteCells bs) (AF skH (hV l (pB b) k)) a.tmps w) (hk:k<l.length) (h0:Gh ML l k=some bs) (D:Gh ML l (k+1)=some N):
  cLB.wp Tryz.prog (λe M w'=>e= .normal/\∃I,RG Z B b I (Lib.byteCells N) (AF skH (hV l (pB b) (k+1))) M.tmps w'/\M.defers=a.defers) a w:=by
 have last:∀{I:Value} {bs:List UInt8} {a1:Act} {S:World},RG Z B b I (Lib.byteCells bs) (AF skH (hV l (pB b) k)) a1.tmps S->a1.defers=a.defers->
   cR7.wp Tryz.prog (λe M w'=>e= .normal/\∃I,RG Z B b I (Lib.byteCells bs) (AF skH (hV l (pB b) (k+1))) M.tmps w'/\M.defers=a.defers) a1 S:=fun{I bs a1 S} g d=>by
  have U:=Z80 l (pB b) (l.length:Int) (k:Int);have e1:O ((k:Int)+1)=((k+1:Nat):Int):=by rw[Ad];omega
  rw[e1]at U;refine wp_mono (g.chunk Jp rfl L KO UW U) ?_;rintro e M w' ⟨q1,q2,q3⟩;exact⟨q1,I,q2,q3.trans d⟩
 rw[Qyc];have V:=Q1k l (pB b) (l.length:Int) (k:Int);rw[ah (show(k:Int)<(l.length:Int) by omega)]at V;refine wp_seq (wp_mono (h.chunk Jp rfl L KO Zfh V) ?_);rintro e a1 S ⟨rfl,g1,X⟩;show Code.wp _ _ _ _ _;refine wp_seq (wp_cond_true (g1.bool (Zfj l (pB b) k true)) (wp_skip ?_));show Code.wp _ _ _ _ _;have hB:=Ykb (p:=pB b) (q:=true) hk hl;unfold uB at hB;rw[Bq]at hB;refine wp_seq (wp_block (wp_seq (wp_mono (g1.code Jp (by intro t ht;cases ht) UL L KO hB) ?_)));rintro e a2 w2 ⟨ae,s2,rfl,G,g2,Y⟩;cases ae with
 |exit i=>simp[kN]at G
 |ret=>simp[kN]at G
 |normal=>
  show Code.wp _ _ _ _ _;dsimp only at G;refine wp_seq (wp_mono (g2.chunk Jp rfl L KO Zsn G) ?_);rintro e a3 w3 ⟨rfl,T,d3⟩;show Code.wp _ _ _ _ _;rw[Gh,h0]at D;simp only[am]at D;refine wp_cond (T.bool (Zt0 l (pB b) l.length k (Rh l k))) ?_;generalize hw:Rh l k=wq at*;cases wq
  ·simp only[aq,an]at D;subst D;refine wp_skip ?_;show Code.wp _ _ _ _ _;exact last (T.re L UW (Ygi l (pB b) l.length k false)) (d3.trans (Y.trans X))
  ·simp only[aj,bm]at D;obtain⟨o,ho,D⟩:=D;obtain⟨hs,D⟩:=BC D;simp only[an]at D;subst D;refine wp_mono (Yaf L hI hF hL T ho (az hs)) ?_;rintro e a4 w4 ⟨rfl,v4,g4,d4⟩;show Code.wp _ _ _ _ _;exact last g4 (d4.trans (d3.trans (Y.trans X)))
theorem Zb8 (L:InZ Z) (S:∀k,Z.I0 k->k<B) (T:∀k,Z.F k->k<B) (U:Ak Tryz.prog (76,Ab L8 GJ ML)) (V:l.length<=4611686018427387904) {D:List UInt8} (he:Gh ML l l.length=some D):
  ∀(m k:Nat) (bs:List UInt8) (v:Value) (a:Act) (w:World),k+m=l.length->Gh ML l k=some bs->RG Z B b v (Lib.byteCells bs) (AF skH (hV l (pB b) k)) a.tmps w->
   Code.rounds Tryz.prog cLB (λe X w'=>e= .exit 0/\∃v',RG Z B b v' (Lib.byteCells D) (AF skE [.raw (pB b)]) X.tmps w'/\X.defers=a.defers) (m+1) a w
 |0,k,bs,v,a,w,hk,M,h=>by
  have e:k=l.length:=by omega
  subst e;rw[M]at he;simp only[an]at he;subst he;rw[rounds_succ,Qyc];have Y:=Q1k l (pB b) (l.length:Int) (l.length:Int);rw[al (show¬(l.length:Int)<(l.length:Int) by omega)]at Y;refine wp_seq (wp_mono (h.chunk Jp rfl L KO Zfh Y) ?_);rintro e a1 w1 ⟨rfl,g1,N⟩;show Code.wp _ _ _ _ _;refine wp_seq (wp_cond_false (g1.bool (Zfj l (pB b) l.length false)) (wp_exit ?_));exact⟨rfl,v,g1.re L Zsi (Yer l (pB b) l.length l.length false),N⟩
 |m+1,k,bs,v,a,w,hk,M,h=>by
  have G:∃b1,Gh ML l (k+1)=some b1:=by
   have:∀n,∀j,j+n=l.length->∀x,Gh ML l l.length=some x->∃y,Gh ML l j=some y:=by
    intro n;induction n with
    |zero=>intro j hj x G;exact⟨x,by rw[show j=l.length by omega];exact G⟩
    |succ n ih=>
     intro j hj x G;obtain⟨y,O⟩:=ih (j+1) (by omega) x G;rw[Gh]at O;simp only[bm]at O;obtain⟨z,hz,_⟩:=O;exact⟨z,hz⟩
   exact this m (k+1) (by omega) _ he
  obtain⟨b1,I⟩:=G;rw[rounds_succ];refine wp_mono (Ztn L S T U V h (by omega) M I) ?_;rintro e a1 w1 ⟨rfl,v1,g1,N⟩;show Code.rounds _ _ _ _ _ _;rw[<-N];exact Zb8 L S T U V he m (k+1) b1 v1 a1 w1 (by omega) I g1
end
def o8:Oper:=(G3 (cs1 cT)).toList.getD 0 opD
def o8b:Oper:=(G3 (cs1 cT)).toList.getD 1 opD
theorem Qwa:(G3 (cs1 cT)).toList=[o8,o8b]:=by kernel_rfl
theorem Z5w:o8.op= .call {callee:= .value (.func 77),args:= #[.tmp 3],argTypes:= #[141]}:=by kernel_rfl
theorem Zp9:o8.guard=none:=by kernel_rfl
theorem UD:o8.dst=some 48:=by kernel_rfl
theorem Zn4 (p:Value):AL (AF skE [.raw p]).tmps (.tmp 3)= .c (.raw p):=by kernel_rfl
theorem Znx (l:List (List AC)):Bq Tryz.prog C30 64 (.seq (cs1 KN) (cs1 (cs2 KN))) 0 ⟨[.c (.vC A1 l)]++List.replicate 48 TV.vD,[],[]⟩ (λe s=>match e with| .normal=>some s|_=>none)=
  some ⟨[.c (.vC A1 l), .vD, .c (.raw (.string ⟨#[]⟩)), .c (.ptr 3 0)]++List.replicate 45 TV.vD,[(3,⟨141,[.raw (.pointer none), .nilSl]⟩)],[]⟩:=by kernel_rfl
theorem Zzf (l:List (List AC)) (p:Value):DC sk0 ⟨setL ([.c (.vC A1 l), .vD, .c (.raw (.string ⟨#[]⟩)), .c (.ptr 3 0)]++List.replicate 45 TV.vD) 3 (.c (.raw p)),[(3,⟨141,[.raw (.pointer none), .nilSl]⟩)],[]⟩=some [.vC A1 l, .raw p]:=by kernel_rfl
end Go.Bm
