/- the report of a run: Format told as a row -/
import Derived.Test.YtnnpdlgenmnekaaGreatDoorSeFmE
set_option linter.unusedVariables false
set_option linter.unusedSimpArgs false
set_option maxRecDepth 100000
noncomputable section
namespace Go.Bm
open Go.Proofs Go.RowKit
theorem Zp8 (vars:List AC):AH PC vars=⟨[.c (.vC A_ (BQ (nth .vD vars 0)))],[],[]⟩:=by kernel_rfl
theorem Zsk (s:ByteArray):AH Gz [.raw (.string s)]=⟨[.c (.raw (.string s))],[],[]⟩:=by kernel_rfl
theorem Id (l:List (List AC)) (p:Value):(AH sk0 [.vC A_ l, .raw p]).aB=[]/\(AH sk0 [.vC A_ l, .raw p]).aC=[]:=⟨rfl,rfl⟩
theorem Zyd {ML:List AC->Option (List AC)} (hL:An Tryz.prog (76,Ac L1 Gz ML)) {X:Base} {l:List (List AC)} {ρ:Env} {xs:List Value} {w:World} {bs:List UInt8} (G:RelE X [.c (.vC A_ l)] [] [] ρ xs.toArray w)
  (hl:l.length<=4611686018427387904) (hb:F3 ML l l.length=some bs):
  Calls Tryz.prog 31 xs.toArray w λe w'=>∃x ρ',e= .returned x/\RelE X [.c (.raw (.string ⟨bs.toArray⟩))] [] [] ρ' #[x] w':=by
 have a9:∀k,X.K0 k=none:=λk=>by
  cases D:X.K0 k with
  |none=>rfl
  |some b=>obtain⟨_,bo,q⟩:=G.k0 k b D;simp[Ab]at q
 have hG:Gt (λk=>k<w.heap.size) w:=X.gt.mono λg cs _ Y=>⟨G.fs g Y,G.fr.block g Y⟩;have a0:∀k,ρ.im k->k<w.heap.size:=λk D=>(G.ib k D).1
 let Z:Base:=⟨λk=>k<w.heap.size,w,ρ.im,λ_=>none,hG⟩
 have hZ:InZ Z:=λk b h=>by cases h
 have a5:xs.length=1:=by have:=G.tl;simpa using this.symm
 have r0:RelE Z [.c (.vC A_ l)] [] [] ρ xs.toArray w:=⟨G.tl,G.tv,G.wt,G.wb,λk b D=>by simp[Ab]at D,G.bi,λid r L=>by simp[Ab]at L,G.ri,G.br,G.ib,Fr.refl _ _,λ_ h=>h,λ_ h=>h,λb h=> .inl h,λk b h=>by cases h⟩;have r1:Rel Z ⟨[.c (.vC A_ l)]++List.replicate 48 TV.vD,[],[]⟩ (xs.toArray++Array.replicate (Tryz.f31.ntmps-xs.toArray.size) undef) w:=by
  refine⟨ρ,r0.slots (by rw[Zuq];simp[a5]) (λi u O=> ?_) (λu hu=> ?_)⟩
  ·cases i with
   |zero=>
    simp at O;subst O;have:=r0.tv 0 _ rfl;have e:(xs.toArray++Array.replicate (Tryz.f31.ntmps-xs.toArray.size) undef).getD 0 undef=xs.toArray.getD 0 undef:=by
     simp[j5,jt,a5]
    rw[e];exact this
   |succ i=>
    have:=da (show(List.replicate 48 TV.vD)[i]? =some u by simpa using O);rw[gn]at this;rw[this.2];trivial
  ·rcases be.1 hu with q|q
   ·exact r0.wt u q
   ·rw[gn]at q;rw[q.2];trivial
 refine calls_of_wp Tryz.func31 Zbq ?_;rw[Z57];have hs:=Ze7 l;rw[BC]at hs;refine wp_seq (wp_mono (FG Jd (by intro t ht;cases ht) T5 hZ _ 64 0 _ _ w _ KH r1 rfl hs) ?_);rintro e a1 w1 ⟨ae,s1,rfl,M,g1,d1⟩;cases ae with
 |exit i=>simp at M
 |ret=>simp at M
 |normal=>
  show Code.wp _ _ _ _ _;dsimp only at M;refine wp_seq (wp_mono (FG Jd (by intro t ht;cases ht) T5 hZ _ 64 0 _ a1 w1 _ KH g1 d1 M) ?_);rintro e a2 w2 ⟨ae,s2,rfl,N,⟨I,g2⟩,d2⟩;cases ae with
  |exit i=>simp at N
  |ret=>simp at N
  |normal=>
   simp only[ap]at N;subst N;show Code.wp _ _ _ _ _;obtain⟨arr,b1,b2,b3⟩:=g2.bx 3 _ rfl;have b3: ¬I.bx 3<w.heap.size:=b3;have a6:arr= #[.pointer none, .slice none 0 0]:=by
    obtain⟨la⟩:=arr
    match la,b2 with
    |[x,y],q=>
     obtain⟨q1,q2,_⟩:=q;have q1:=q1.1;have q2:y=_:=q2;rw[q1,q2]
   subst a6;have hp:=g2.tv 3 _ rfl;obtain⟨c,a7,T⟩:=hp;simp only[fd,jp]at a7;subst a7;have T:a2.tmps.getD 3 undef=pB (I.bx 3):=T;have g3:=g2.learn 3 (v:= .c (.raw (pB (I.bx 3)))) ⟨_,rfl,T,rfl⟩ (λc hc=>by simp at hc;subst hc;trivial);have V:=g3.rebuild hZ ok0 (Zpm l (pB (I.bx 3)));rw[(Id l _).1,(Id l _).2]at V;have b4:I.bx 3<w1.heap.size\/I.bx 3<w2.heap.size:= .inr (dc.1 b1).1;have a8:I.bx 3<w2.heap.size:=(dc.1 b1).1;have b0:Gt Z.F w2:=Z.gt.mono λg cs _ Y=>⟨Y,g2.fr.block g Y⟩;have rg:RG Z w.heap.size (I.bx 3) (.slice none 0 0) (Lib.byteCells []) (AH sk0 [.vC A_ l, .raw (pB (I.bx 3))]) a2.tmps w2:=by
    refine⟨⟨by omega,⟨_, .inl rfl,b1⟩,⟨rfl, .inl ⟨rfl,rfl⟩⟩,by simp[Value.ownBlock]⟩,g2.fr,g2.fr.size,b0,⟨I,V.tl,V.tv,V.wt,?_,?_,?_,?_,?_,?_,?_,Fr.refl _ _,?_,V.i0,?_,?_⟩⟩
    ·intro k b D;rw[(Id l _).1]at D;simp[Ab]at D
    ·intro k b D;rw[(Id l _).1]at D;simp[Ab]at D
    ·intro k k' b b' D;rw[(Id l _).1]at D;simp[Ab]at D
    ·intro k b D;rw[(Id l _).2]at D;simp[Ab]at D
    ·intro k k' b b' g D;rw[(Id l _).2]at D;simp[Ab]at D
    ·intro k b id r D;rw[(Id l _).1]at D;simp[Ab]at D
    ·intro b hb;exact⟨(V.ib b hb).1,λk bo D=>(by rw[(Id l _).1]at D;simp[Ab]at D),λid r L=>(by rw[(Id l _).2]at L;simp[Ab]at L)⟩
    ·rintro k (D|rfl|D)
     ·have D:k<w.heap.size:=D;have:=g2.fr.size;exact dm D this
     ·exact a8
     ·simp[Value.ownBlock]at D
    ·intro k D;rcases g2.i1 k D with i|i
     ·exact .inl i
     ·refine .inr ?_;rintro(hf|rfl|hf)
      ·exact i hf
      ·exact(g2.ib _ D).2.1 3 _ rfl rfl
      ·simp[Value.ownBlock]at hf
    ·intro k b h;cases h
   have hI:∀k,Z.I0 k->k<w.heap.size:=a0;have hF:∀k,Z.F k->k<w.heap.size:=λk h=>h;refine wp_seq (wp_seq (wp_mono (rg.chunk Jd rfl hZ KH Ug (Z1e l (pB (I.bx 3)))) ?_));rintro e a3 w3 ⟨rfl,g5,d3⟩;show Code.wp _ _ _ _ _;have U:=Q4r hZ hI hF hL hl hb l.length 0 [] (.slice none 0 0) a3 w3 (by omega) rfl g5;refine wp_block (wp_mono (wp_loop_rounds _ U) ?_);rintro e a4 w4 ⟨rfl,v4,g6,d4⟩;show Code.wp _ _ _ _ _;refine Z7p (Z:=Z) rfl (λk=>Iff.rfl) (λk=>rfl) hI (by rw[d4,d3,d2]) g6 ?_;intro x ρ' w' q;refine⟨x,⟨λ_=>0,λ_=> .slice none 0 0,λ_=>0,ρ.im⟩,rfl,rfl,λi v O=> ?_,q.wt,λk b D=>by simp[Ab]at D,λk b D=>by simp[Ab]at D,λk k' b b' D=>by simp[Ab]at D,λid r L=>by simp[Ab]at L,
    λid id' r r' g L=>by simp[Ab]at L,λk b id r D=>by simp[Ab]at D,λk D=>⟨dm (a0 k D) q.fr.size,λk bo D=>by simp[Ab]at D,λid r L=>by simp[Ab]at L⟩,?_,λk D=>dm (G.fs k D) q.fr.size,G.i0,G.i1,λk b h=>by rw[a9 k]at h;cases h⟩
   ·cases i with
    |zero=>
     simp at O;subst O;obtain⟨c,h1,h2⟩:=q.tv 0 _ rfl;simp only[fd,jp]at h1;subst h1;exact⟨_,rfl,h2⟩
    |succ i=>simp at O
   ·exact G.fr.trans (q.fr.mono λk D=>G.fs k D)
theorem Zl7 {ML:List AC->Option (List AC)} (M:An Tryz.prog (76,Ac L1 Gz ML)):An Tryz.prog (31,Ac PC QT (Qp ML)):=by
 refine⟨QV (sig:=PC) (osig:=QT) (m:=Qp ML),λargs mem v mem' h=>PCallM.x ?_ (I6 Zw1)⟩;obtain⟨aB,aC⟩:=mem;simp only[Ac]at h;obtain⟨I,h⟩:=BO h;split at h
 ·rename_i vars N;simp only[bn]at h;obtain⟨o,G,h⟩:=h;intro F w T ρ xs L;have D:=L.rebuild (NE I) (by kernel_rfl) N;rw[Zp8]at D;dsimp only at D;unfold Qp at G;generalize BQ (nth .vD vars 0)=l at G D;obtain⟨O,G⟩:=BO G;simp only[bn,ap]at G;obtain⟨bs,hb,rfl⟩:=G;have e:AH QT [.raw (.string ⟨bs.toArray⟩)]=⟨[.c (.raw (.string ⟨bs.toArray⟩))],[],[]⟩:=Zsk _;rw[e]at h;simp only[ap,dq]at h;obtain⟨rfl,rfl⟩:=h;exact Zyd M D (ba O) hb
 ·simp at h
end Go.Bm
