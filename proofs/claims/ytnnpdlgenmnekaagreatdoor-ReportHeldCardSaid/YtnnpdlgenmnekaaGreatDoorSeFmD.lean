/- the report of a run: Format's row -/
import Derived.Test.YtnnpdlgenmnekaaGreatDoorSeFmC
set_option linter.unusedVariables false
set_option linter.unusedSimpArgs false
set_option maxRecDepth 100000
noncomputable section
namespace Go.Bm
open Go.Proofs Go.RowKit
theorem KS {c:Code} {blk:Nat}:SubOK Tryz.prog C30 c blk:=Ztb rfl rfl rfl
section
variable {Z:Base} {B b:Nat} {ML:List AC->Option (List AC)} {l:List (List AC)}
theorem Zti (L:InZ Z) (hI:∀k,Z.I0 k->k<B) (hF:∀k,Z.F k->k<B) (hL:Ak Tryz.prog (76,Ac L8 GJ ML)) (hl:l.length<=4611686018427387904) {v:Value} {bs N:List UInt8} {k:Nat} {a:Act} {w:World}
  (h:RG Z B b v (Lib.byteCells bs) (AE skH (hV l (pB b) k)) a.tmps w) (hk:k<l.length) (h0:Gi ML l k=some bs) (D:Gi ML l (k+1)=some N):
  cLB.wp Tryz.prog (λe M w'=>e= .normal/\∃I,RG Z B b I (Lib.byteCells N) (AE skH (hV l (pB b) (k+1))) M.tmps w'/\M.defers=a.defers) a w:=by
 have last:∀{I:Value} {bs:List UInt8} {a1:Act} {S:World},RG Z B b I (Lib.byteCells bs) (AE skH (hV l (pB b) k)) a1.tmps S->a1.defers=a.defers->
   cR7.wp Tryz.prog (λe M w'=>e= .normal/\∃I,RG Z B b I (Lib.byteCells bs) (AE skH (hV l (pB b) (k+1))) M.tmps w'/\M.defers=a.defers) a1 S:=fun{I bs a1 S} g d=>by
  have U:=Z8s l (pB b) (l.length:Int) (k:Int);have e1:O ((k:Int)+1)=((k+1:Nat):Int):=by rw[Ad];omega
  rw[e1]at U;refine wp_mono (g.chunk Jt rfl L KS U4 U) ?_;rintro e M w' ⟨q1,q2,q3⟩;exact⟨q1,I,q2,q3.trans d⟩
 rw[Qye];have V:=Q1n l (pB b) (l.length:Int) (k:Int);rw[ak (show(k:Int)<(l.length:Int) by omega)]at V;refine wp_seq (wp_mono (h.chunk Jt rfl L KS Zfj V) ?_);rintro e a1 S ⟨rfl,g1,X⟩;show Code.wp _ _ _ _ _;refine wp_seq (wp_cond_true (g1.bool (Zfl l (pB b) k true)) (wp_skip ?_));show Code.wp _ _ _ _ _;have hB:=Yj0 (p:=pB b) (q:=true) hk hl;unfold uB at hB;rw[Br]at hB;refine wp_seq (wp_block (wp_seq (wp_mono (g1.code Jt (by intro t ht;cases ht) UT L KS hB) ?_)));rintro e a2 w2 ⟨ae,s2,rfl,G,g2,Y⟩;cases ae with
 |exit i=>simp[kN]at G
 |ret=>simp[kN]at G
 |normal=>
  show Code.wp _ _ _ _ _;dsimp only at G;refine wp_seq (wp_mono (g2.chunk Jt rfl L KS Zsi G) ?_);rintro e a3 w3 ⟨rfl,T,d3⟩;show Code.wp _ _ _ _ _;rw[Gi,h0]at D;simp only[ai]at D;refine wp_cond (T.bool (Ztv l (pB b) l.length k (Rl l k))) ?_;generalize hw:Rl l k=wq at*;cases wq
  ·simp only[aq,an]at D;subst D;refine wp_skip ?_;show Code.wp _ _ _ _ _;exact last (T.re L U4 (Yf8 l (pB b) l.length k false)) (d3.trans (Y.trans X))
  ·simp only[ah,bh]at D;obtain⟨o,ho,D⟩:=D;obtain⟨hs,D⟩:=Bn D;simp only[an]at D;subst D;refine wp_mono (Z96 L hI hF hL T ho (bc hs)) ?_;rintro e a4 w4 ⟨rfl,v4,g4,d4⟩;show Code.wp _ _ _ _ _;exact last g4 (d4.trans (d3.trans (Y.trans X)))
theorem Zb9 (L:InZ Z) (S:∀k,Z.I0 k->k<B) (T:∀k,Z.F k->k<B) (U:Ak Tryz.prog (76,Ac L8 GJ ML)) (V:l.length<=4611686018427387904) {D:List UInt8} (he:Gi ML l l.length=some D):
  ∀(m k:Nat) (bs:List UInt8) (v:Value) (a:Act) (w:World),k+m=l.length->Gi ML l k=some bs->RG Z B b v (Lib.byteCells bs) (AE skH (hV l (pB b) k)) a.tmps w->
   Code.rounds Tryz.prog cLB (λe X w'=>e= .exit 0/\∃v',RG Z B b v' (Lib.byteCells D) (AE skE [.raw (pB b)]) X.tmps w'/\X.defers=a.defers) (m+1) a w
 |0,k,bs,v,a,w,hk,M,h=>by
  have e:k=l.length:=by omega
  subst e;rw[M]at he;simp only[an]at he;subst he;rw[rounds_succ,Qye];have Y:=Q1n l (pB b) (l.length:Int) (l.length:Int);rw[am (show¬(l.length:Int)<(l.length:Int) by omega)]at Y;refine wp_seq (wp_mono (h.chunk Jt rfl L KS Zfj Y) ?_);rintro e a1 w1 ⟨rfl,g1,N⟩;show Code.wp _ _ _ _ _;refine wp_seq (wp_cond_false (g1.bool (Zfl l (pB b) l.length false)) (wp_exit ?_));exact⟨rfl,v,g1.re L Zsd (Yeh l (pB b) l.length l.length false),N⟩
 |m+1,k,bs,v,a,w,hk,M,h=>by
  have G:∃b1,Gi ML l (k+1)=some b1:=by
   have:∀n,∀j,j+n=l.length->∀x,Gi ML l l.length=some x->∃y,Gi ML l j=some y:=by
    intro n;induction n with
    |zero=>intro j hj x G;exact⟨x,by rw[show j=l.length by omega];exact G⟩
    |succ n ih=>
     intro j hj x G;obtain⟨y,O⟩:=ih (j+1) (by omega) x G;rw[Gi]at O;simp only[bh]at O;obtain⟨z,hz,_⟩:=O;exact⟨z,hz⟩
   exact this m (k+1) (by omega) _ he
  obtain⟨b1,I⟩:=G;rw[rounds_succ];refine wp_mono (Zti L S T U V h (by omega) M I) ?_;rintro e a1 w1 ⟨rfl,v1,g1,N⟩;show Code.rounds _ _ _ _ _ _;rw[<-N];exact Zb9 L S T U V he m (k+1) b1 v1 a1 w1 (by omega) I g1
end
def o8:Oper:=(G2 (cs1 cT)).toList.getD 0 opD
def o8b:Oper:=(G2 (cs1 cT)).toList.getD 1 opD
theorem Qwc:(G2 (cs1 cT)).toList=[o8,o8b]:=by kernel_rfl
theorem Z5n:o8.op= .call {callee:= .value (.func 77),args:= #[.tmp 3],argTypes:= #[141]}:=by kernel_rfl
theorem Zp5:o8.guard=none:=by kernel_rfl
theorem UL:o8.dst=some 48:=by kernel_rfl
theorem Zn0 (p:Value):AL (AE skE [.raw p]).tmps (.tmp 3)= .c (.raw p):=by kernel_rfl
theorem Znt (l:List (List AC)):Br Tryz.prog C30 64 (.seq (cs1 KR) (cs1 (cs2 KR))) 0 ⟨[.c (.vC A1 l)]++List.replicate 48 TV.vD,[],[]⟩ (λe s=>match e with| .normal=>some s|_=>none)=
  some ⟨[.c (.vC A1 l), .vD, .c (.raw (.string ⟨#[]⟩)), .c (.ptr 3 0)]++List.replicate 45 TV.vD,[(3,⟨141,[.raw (.pointer none), .nilSl]⟩)],[]⟩:=by kernel_rfl
theorem Zy9 (l:List (List AC)) (p:Value):Dw sk0 ⟨setL ([.c (.vC A1 l), .vD, .c (.raw (.string ⟨#[]⟩)), .c (.ptr 3 0)]++List.replicate 45 TV.vD) 3 (.c (.raw p)),[(3,⟨141,[.raw (.pointer none), .nilSl]⟩)],[]⟩=some [.vC A1 l, .raw p]:=by kernel_rfl
end Go.Bm
