/- the report of a run: Format's row -/
import Derived.Test.YtnnpdlgenmnekaaGreatDoorSeFmC
set_option linter.unusedVariables false
set_option linter.unusedSimpArgs false
set_option maxRecDepth 100000
noncomputable section
namespace Go.Bm
open Go.Proofs Go.RowKit
theorem D2 {c:Code} {blk:Nat}:SubOK Tryz.prog C30 c blk:=HU rfl rfl rfl
section
variable {Z:Base} {B b:Nat} {ML:List AC->Option (List AC)} {l:List (List AC)}
theorem Py (E:InZ Z) (X:∀k,Z.I0 k->k<B) (hF:∀k,Z.F k->k<B) (Y:Av Tryz.prog (76,Aj Es Cf ML)) (hl:l.length<=4611686018427387904) {v:Value} {bs J:List UInt8} {k:Nat} {a:Act} {w:World}
  (h:RG Z B b v (Lib.byteCells bs) (Ag skH (hV l (pB b) k)) a.tmps w) (hk:k<l.length) (h0:BS ML l k=some bs) (h1:BS ML l (k+1)=some J):
  cLB.wp Tryz.prog (λe G w'=>e= .normal/\∃D,RG Z B b D (Lib.byteCells J) (Ag skH (hV l (pB b) (k+1))) G.tmps w'/\G.defers=a.defers) a w:=by
 have last:∀{D:Value} {bs:List UInt8} {a1:Act} {L:World},RG Z B b D (Lib.byteCells bs) (Ag skH (hV l (pB b) k)) a1.tmps L->a1.defers=a.defers->
   cR7.wp Tryz.prog (λe G w'=>e= .normal/\∃D,RG Z B b D (Lib.byteCells bs) (Ag skH (hV l (pB b) (k+1))) G.tmps w'/\G.defers=a.defers) a1 L:=fun{D bs a1 L} g d=>by
  have O:=Ss l (pB b) (l.length:Int) (k:Int);have e1:V ((k:Int)+1)=((k+1:Nat):Int):=by rw[BW];omega
  rw[e1]at O;refine wp_mono (g.chunk Bq rfl E D2 G1 O) ?_;rintro e G w' ⟨q1,q2,q3⟩;exact⟨q1,D,q2,q3.trans d⟩
 rw[Kc];have Q:=KP l (pB b) (l.length:Int) (k:Int);rw[au (show(k:Int)<(l.length:Int) by omega)]at Q;refine wp_seq (wp_mono (h.chunk Bq rfl E D2 Ni Q) ?_);rintro e a1 L ⟨rfl,g1,S⟩;show Code.wp _ _ _ _ _;refine wp_seq (wp_cond_true (g1.bool (Nj l (pB b) k true)) (wp_skip ?_));show Code.wp _ _ _ _ _;have hB:=Uv (p:=pB b) (q:=true) hk hl;unfold uB at hB;rw[Ax]at hB;refine wp_seq (wp_block (wp_seq (wp_mono (g1.code Bq (by intro t ht;cases ht) C4 E D2 hB) ?_)));rintro e a2 w2 ⟨ae,s2,rfl,A,g2,T⟩;cases ae with
 |exit i=>simp[kN]at A
 |ret=>simp[kN]at A
 |normal=>
  show Code.wp _ _ _ _ _;dsimp only at A;refine wp_seq (wp_mono (g2.chunk Bq rfl E D2 Pn A) ?_);rintro e a3 w3 ⟨rfl,N,U⟩;show Code.wp _ _ _ _ _;rw[BS,h0]at h1;simp only[ak]at h1;refine wp_cond (N.bool (PD l (pB b) l.length k (Ds l k))) ?_;generalize hw:Ds l k=wq at*;cases wq
  ·simp only[aj,ag]at h1;subst h1;refine wp_skip ?_;show Code.wp _ _ _ _ _;exact last (N.re E G1 (TM l (pB b) l.length k false)) (U.trans (T.trans S))
  ·simp only[ac,ai]at h1;obtain⟨o,ho,h1⟩:=h1;obtain⟨hs,h1⟩:=Ay h1;simp only[ag]at h1;subst h1;refine wp_mono (SP E X hF Y N ho (al hs)) ?_;rintro e a4 w4 ⟨rfl,v4,g4,d4⟩;show Code.wp _ _ _ _ _;exact last g4 (d4.trans (U.trans (T.trans S)))
theorem MO (G:InZ Z) (O:∀k,Z.I0 k->k<B) (hF:∀k,Z.F k->k<B) (Q:Av Tryz.prog (76,Aj Es Cf ML)) (S:l.length<=4611686018427387904) {A:List UInt8} (he:BS ML l l.length=some A):
  ∀(m k:Nat) (bs:List UInt8) (v:Value) (a:Act) (w:World),k+m=l.length->BS ML l k=some bs->RG Z B b v (Lib.byteCells bs) (Ag skH (hV l (pB b) k)) a.tmps w->
   Code.rounds Tryz.prog cLB (λe T w'=>e= .exit 0/\∃X,RG Z B b X (Lib.byteCells A) (Ag skE [.raw (pB b)]) T.tmps w'/\T.defers=a.defers) (m+1) a w
 |0,k,bs,v,a,w,Y,J,h=>by
  have e:k=l.length:=by omega
  subst e;rw[J]at he;simp only[ag]at he;subst he;rw[rounds_succ,Kc];have U:=KP l (pB b) (l.length:Int) (l.length:Int);rw[bd (show¬(l.length:Int)<(l.length:Int) by omega)]at U;refine wp_seq (wp_mono (h.chunk Bq rfl G D2 Ni U) ?_);rintro e a1 V ⟨rfl,g1,L⟩;show Code.wp _ _ _ _ _;refine wp_seq (wp_cond_false (g1.bool (Nj l (pB b) l.length false)) (wp_exit ?_));exact⟨rfl,v,g1.re G Pm (TA l (pB b) l.length l.length false),L⟩
 |m+1,k,bs,v,a,w,Y,J,h=>by
  have D:∃b1,BS ML l (k+1)=some b1:=by
   have:∀n,∀j,j+n=l.length->∀x,BS ML l l.length=some x->∃y,BS ML l j=some y:=by
    intro n;induction n with
    |zero=>intro j hj x D;exact⟨x,by rw[show j=l.length by omega];exact D⟩
    |succ n ih=>
     intro j hj x D;obtain⟨y,N⟩:=ih (j+1) (by omega) x D;rw[BS]at N;simp only[ai]at N;obtain⟨z,hz,_⟩:=N;exact⟨z,hz⟩
   exact this m (k+1) (by omega) _ he
  obtain⟨b1,E⟩:=D;rw[rounds_succ];refine wp_mono (Py G O hF Q S h (by omega) J E) ?_;rintro e a1 V ⟨rfl,v1,g1,L⟩;show Code.rounds _ _ _ _ _ _;rw[<-L];exact MO G O hF Q S he m (k+1) b1 v1 a1 V (by omega) E g1
end
def o8:Oper:=(BR (cs1 cT)).toList.getD 0 opD
def o8b:Oper:=(BR (cs1 cT)).toList.getD 1 opD
theorem JH:(BR (cs1 cT)).toList=[o8,o8b]:=by kernel_rfl
theorem RE:o8.op= .call {callee:= .value (.func 77),args:= #[.tmp 3],argTypes:= #[141]}:=by kernel_rfl
theorem OQ:o8.guard=none:=by kernel_rfl
theorem GX:o8.dst=some 48:=by kernel_rfl
theorem Ow (p:Value):Ai (Ag skE [.raw p]).tmps (.tmp 3)= .c (.raw p):=by kernel_rfl
theorem Ou (l:List (List AC)):Ax Tryz.prog C30 64 (.seq (cs1 D1) (cs1 (cs2 D1))) 0 ⟨[.c (.vC Ac l)]++List.replicate 48 TV.vD,[],[]⟩ (λe s=>match e with| .normal=>some s|_=>none)=
  some ⟨[.c (.vC Ac l), .vD, .c (.raw (.string ⟨#[]⟩)), .c (.ptr 3 0)]++List.replicate 45 TV.vD,[(3,⟨141,[.raw (.pointer none), .nilSl]⟩)],[]⟩:=by kernel_rfl
theorem Ql (l:List (List AC)) (p:Value):AN sk0 ⟨setL ([.c (.vC Ac l), .vD, .c (.raw (.string ⟨#[]⟩)), .c (.ptr 3 0)]++List.replicate 45 TV.vD) 3 (.c (.raw p)),[(3,⟨141,[.raw (.pointer none), .nilSl]⟩)],[]⟩=some [.vC Ac l, .raw p]:=by kernel_rfl
end Go.Bm
