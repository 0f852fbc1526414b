/- the report of a run: Format's row -/
import Derived.Test.YtnnpdlgenmnekaaGreatDoorSeFmC
set_option linter.unusedVariables false
set_option linter.unusedSimpArgs false
set_option maxRecDepth 100000
noncomputable section
namespace Go.Bm
open Go.Proofs Go.RowKit
theorem KW {c:Code} {blk:Nat}:SubOK Tryz.prog C30 c blk:=Znr rfl rfl rfl
section
variable {Z:Base} {B b:Nat} {ML:List AC->Option (List AC)} {l:List (List AC)}
theorem Znx (L:InZ Z) (hI:∀k,Z.I0 k->k<B) (hF:∀k,Z.F k->k<B) (hL:Al Tryz.prog (76,Ad LZ Gq ML)) (hl:l.length<=4611686018427387904) {v:Value} {bs N:List UInt8} {k:Nat} {a:Act} {w:World}
  (h:RG Z B b v (Lib.byteCells bs) (AA skH (hV l (pB b) k)) a.tmps w) (hk:k<l.length) (h0:F3 ML l k=some bs) (D:F3 ML l (k+1)=some N):
  cLB.wp Tryz.prog (λe M w'=>e= .normal/\∃I,RG Z B b I (Lib.byteCells N) (AA skH (hV l (pB b) (k+1))) M.tmps w'/\M.defers=a.defers) a w:=by
 have last:∀{I:Value} {bs:List UInt8} {a1:Act} {O:World},RG Z B b I (Lib.byteCells bs) (AA skH (hV l (pB b) k)) a1.tmps O->a1.defers=a.defers->
   cR7.wp Tryz.prog (λe M w'=>e= .normal/\∃I,RG Z B b I (Lib.byteCells bs) (AA skH (hV l (pB b) (k+1))) M.tmps w'/\M.defers=a.defers) a1 O:=fun{I bs a1 O} g d=>by
  have T:=Z2s l (pB b) (l.length:Int) (k:Int);have e1:V ((k:Int)+1)=((k+1:Nat):Int):=by rw[Ae];omega
  rw[e1]at T;refine wp_mono (g.chunk Jt rfl L KW UM T) ?_;rintro e M w' ⟨q1,q2,q3⟩;exact⟨q1,I,q2,q3.trans d⟩
 rw[Qvo];have U:=Qye l (pB b) (l.length:Int) (k:Int);rw[ai (show(k:Int)<(l.length:Int) by omega)]at U;refine wp_seq (wp_mono (h.chunk Jt rfl L KW Zaz U) ?_);rintro e a1 O ⟨rfl,g1,X⟩;show Code.wp _ _ _ _ _;refine wp_seq (wp_cond_true (g1.bool (Za1 l (pB b) k true)) (wp_skip ?_));show Code.wp _ _ _ _ _;have hB:=Ydy (p:=pB b) (q:=true) hk hl;unfold uB at hB;rw[BX]at hB;refine wp_seq (wp_block (wp_seq (wp_mono (g1.code Jt (by intro t ht;cases ht) UD L KW hB) ?_)));rintro e a2 w2 ⟨ae,s2,rfl,G,g2,Y⟩;cases ae with
 |exit i=>simp[kN]at G
 |ret=>simp[kN]at G
 |normal=>
  show Code.wp _ _ _ _ _;dsimp only at G;refine wp_seq (wp_mono (g2.chunk Jt rfl L KW Zm0 G) ?_);rintro e a3 w3 ⟨rfl,S,d3⟩;show Code.wp _ _ _ _ _;rw[F3,h0]at D;simp only[af]at D;refine wp_cond (S.bool (Zn8 l (pB b) l.length k (Q4 l k))) ?_;generalize hw:Q4 l k=wq at*;cases wq
  ·simp only[aq,an]at D;subst D;refine wp_skip ?_;show Code.wp _ _ _ _ _;exact last (S.re L UM (Yad l (pB b) l.length k false)) (d3.trans (Y.trans X))
  ·simp only[ah,bv]at D;obtain⟨o,ho,D⟩:=D;obtain⟨hs,D⟩:=Bx D;simp only[an]at D;subst D;refine wp_mono (Z37 L hI hF hL S ho (az hs)) ?_;rintro e a4 w4 ⟨rfl,v4,g4,d4⟩;show Code.wp _ _ _ _ _;exact last g4 (d4.trans (d3.trans (Y.trans X)))
theorem Q7v (L:InZ Z) (S:∀k,Z.I0 k->k<B) (T:∀k,Z.F k->k<B) (U:Al Tryz.prog (76,Ad LZ Gq ML)) (V:l.length<=4611686018427387904) {D:List UInt8} (he:F3 ML l l.length=some D):
  ∀(m k:Nat) (bs:List UInt8) (v:Value) (a:Act) (w:World),k+m=l.length->F3 ML l k=some bs->RG Z B b v (Lib.byteCells bs) (AA skH (hV l (pB b) k)) a.tmps w->
   Code.rounds Tryz.prog cLB (λe X w'=>e= .exit 0/\∃v',RG Z B b v' (Lib.byteCells D) (AA skE [.raw (pB b)]) X.tmps w'/\X.defers=a.defers) (m+1) a w
 |0,k,bs,v,a,w,hk,M,h=>by
  have e:k=l.length:=by omega
  subst e;rw[M]at he;simp only[an]at he;subst he;rw[rounds_succ,Qvo];have Y:=Qye l (pB b) (l.length:Int) (l.length:Int);rw[aj (show¬(l.length:Int)<(l.length:Int) by omega)]at Y;refine wp_seq (wp_mono (h.chunk Jt rfl L KW Zaz Y) ?_);rintro e a1 w1 ⟨rfl,g1,N⟩;show Code.wp _ _ _ _ _;refine wp_seq (wp_cond_false (g1.bool (Za1 l (pB b) l.length false)) (wp_exit ?_));exact⟨rfl,v,g1.re L Zmx (Z8k l (pB b) l.length l.length false),N⟩
 |m+1,k,bs,v,a,w,hk,M,h=>by
  have G:∃b1,F3 ML l (k+1)=some b1:=by
   have:∀n,∀j,j+n=l.length->∀x,F3 ML l l.length=some x->∃y,F3 ML l j=some y:=by
    intro n;induction n with
    |zero=>intro j hj x G;exact⟨x,by rw[show j=l.length by omega];exact G⟩
    |succ n ih=>
     intro j hj x G;obtain⟨y,O⟩:=ih (j+1) (by omega) x G;rw[F3]at O;simp only[bv]at O;obtain⟨z,hz,_⟩:=O;exact⟨z,hz⟩
   exact this m (k+1) (by omega) _ he
  obtain⟨b1,I⟩:=G;rw[rounds_succ];refine wp_mono (Znx L S T U V h (by omega) M I) ?_;rintro e a1 w1 ⟨rfl,v1,g1,N⟩;show Code.rounds _ _ _ _ _ _;rw[<-N];exact Q7v L S T U V he m (k+1) b1 v1 a1 w1 (by omega) I g1
end
def o8:Oper:=(GO (cs1 cT)).toList.getD 0 opD
def o8b:Oper:=(GO (cs1 cT)).toList.getD 1 opD
theorem Qto:(GO (cs1 cT)).toList=[o8,o8b]:=by kernel_rfl
theorem Zzo:o8.op= .call {callee:= .value (.func 77),args:= #[.tmp 3],argTypes:= #[141]}:=by kernel_rfl
theorem Zkr:o8.guard=none:=by kernel_rfl
theorem Uw:o8.dst=some 48:=by kernel_rfl
theorem Zik (p:Value):AE (AA skE [.raw p]).tmps (.tmp 3)= .c (.raw p):=by kernel_rfl
theorem Zif (l:List (List AC)):BX Tryz.prog C30 64 (.seq (cs1 KV) (cs1 (cs2 KV))) 0 ⟨[.c (.vC AU l)]++List.replicate 48 TV.vD,[],[]⟩ (λe s=>match e with| .normal=>some s|_=>none)=
  some ⟨[.c (.vC AU l), .vD, .c (.raw (.string ⟨#[]⟩)), .c (.ptr 3 0)]++List.replicate 45 TV.vD,[(3,⟨141,[.raw (.pointer none), .nilSl]⟩)],[]⟩:=by kernel_rfl
theorem Zs9 (l:List (List AC)) (p:Value):Dm sk0 ⟨setL ([.c (.vC AU l), .vD, .c (.raw (.string ⟨#[]⟩)), .c (.ptr 3 0)]++List.replicate 45 TV.vD) 3 (.c (.raw p)),[(3,⟨141,[.raw (.pointer none), .nilSl]⟩)],[]⟩=some [.vC AU l, .raw p]:=by kernel_rfl
end Go.Bm
