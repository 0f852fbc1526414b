/- the report of a run: Format told as a row -/
import Derived.Test.YtnnpdlgenmnekaaGreatDoorSeFmE
set_option linter.unusedVariables false
set_option linter.unusedSimpArgs false
set_option maxRecDepth 100000
noncomputable section
namespace Go.Bm
open Go.Proofs Go.RowKit
theorem Zz4 (vars:List AC):AF Qd vars=⟨[.c (.vC A1 (AX (nth .vD vars 0)))],[],[]⟩:=by kernel_rfl
theorem Z2k (s:ByteArray):AF GJ [.raw (.string s)]=⟨[.c (.raw (.string s))],[],[]⟩:=by kernel_rfl
theorem Il (l:List (List AC)) (p:Value):(AF sk0 [.vC A1 l, .raw p]).aB=[]/\(AF sk0 [.vC A1 l, .raw p]).aC=[]:=⟨rfl,rfl⟩
theorem Z8o {ML:List AC->Option (List AC)} (hL:Ak Tryz.prog (76,Ab L8 GJ ML)) {V:Base} {l:List (List AC)} {ρ:Env} {xs:List Value} {w:World} {bs:List UInt8} (G:RelE V [.c (.vC A1 l)] [] [] ρ xs.toArray w)
  (hl:l.length<=4611686018427387904) (hb:Gh ML l l.length=some bs):
  Calls Tryz.prog 31 xs.toArray w λe w'=>∃x ρ',e= .returned x/\RelE V [.c (.raw (.string ⟨bs.toArray⟩))] [] [] ρ' #[x] w':=by
 have a8:∀k,V.K0 k=none:=λk=>by
  cases D:V.K0 k with
  |none=>rfl
  |some b=>obtain⟨_,bo,q⟩:=G.k0 k b D;simp[Ac]at q
 have hG:Gt (λk=>k<w.heap.size) w:=V.gt.mono λg cs _ X=>⟨G.fs g X,G.fr.block g X⟩;have Y:∀k,ρ.im k->k<w.heap.size:=λk D=>(G.ib k D).1
 let Z:Base:=⟨λk=>k<w.heap.size,w,ρ.im,λ_=>none,hG⟩
 have hZ:InZ Z:=λk b h=>by cases h
 have a0:xs.length=1:=by have:=G.tl;simpa using this.symm
 have r0:RelE Z [.c (.vC A1 l)] [] [] ρ xs.toArray w:=⟨G.tl,G.tv,G.wt,G.wb,λk b D=>by simp[Ac]at D,G.bi,λid r L=>by simp[Ac]at L,G.ri,G.br,G.ib,Fr.refl _ _,λ_ h=>h,λ_ h=>h,λb h=> .inl h,λk b h=>by cases h⟩;have r1:Rel Z ⟨[.c (.vC A1 l)]++List.replicate 48 TV.vD,[],[]⟩ (xs.toArray++Array.replicate (Tryz.f31.ntmps-xs.toArray.size) undef) w:=by
  refine⟨ρ,r0.slots (by rw[Z4v];simp[a0]) (λi u O=> ?_) (λu hu=> ?_)⟩
  ·cases i with
   |zero=>
    simp at O;subst O;have:=r0.tv 0 _ rfl;have e:(xs.toArray++Array.replicate (Tryz.f31.ntmps-xs.toArray.size) undef).getD 0 undef=xs.toArray.getD 0 undef:=by
     simp[ji,i8,a0]
    rw[e];exact this
   |succ i=>
    have:=bz (show(List.replicate 48 TV.vD)[i]? =some u by simpa using O);rw[fq]at this;rw[this.2];trivial
  ·rcases bq.1 hu with q|q
   ·exact r0.wt u q
   ·rw[fq]at q;rw[q.2];trivial
 refine calls_of_wp Tryz.func31 Zj5 ?_;rw[Ygn];have hs:=Znx l;rw[Bq]at hs;refine wp_seq (wp_mono (FO Jp (by intro t ht;cases ht) UL hZ _ 64 0 _ _ w _ KO r1 rfl hs) ?_);rintro e a1 w1 ⟨ae,s1,rfl,M,g1,d1⟩;cases ae with
 |exit i=>simp at M
 |ret=>simp at M
 |normal=>
  show Code.wp _ _ _ _ _;dsimp only at M;refine wp_seq (wp_mono (FO Jp (by intro t ht;cases ht) UL hZ _ 64 0 _ a1 w1 _ KO g1 d1 M) ?_);rintro e a2 w2 ⟨ae,s2,rfl,N,⟨I,g2⟩,d2⟩;cases ae with
  |exit i=>simp at N
  |ret=>simp at N
  |normal=>
   simp only[an]at N;subst N;show Code.wp _ _ _ _ _;obtain⟨arr,b1,b2,b3⟩:=g2.bx 3 _ rfl;have b3: ¬I.bx 3<w.heap.size:=b3;have a5:arr= #[.pointer none, .slice none 0 0]:=by
    obtain⟨la⟩:=arr
    match la,b2 with
    |[x,y],q=>
     obtain⟨q1,q2,_⟩:=q;have q1:=q1.1;have q2:y=_:=q2;rw[q1,q2]
   subst a5;have hp:=g2.tv 3 _ rfl;obtain⟨c,a6,S⟩:=hp;simp only[d6,iz]at a6;subst a6;have S:a2.tmps.getD 3 undef=pB (I.bx 3):=S;have g3:=g2.learn 3 (v:= .c (.raw (pB (I.bx 3)))) ⟨_,rfl,S,rfl⟩ (λc hc=>by simp at hc;subst hc;trivial);have U:=g3.rebuild hZ ok0 (Zzf l (pB (I.bx 3)));rw[(Il l _).1,(Il l _).2]at U;have b0:I.bx 3<w1.heap.size\/I.bx 3<w2.heap.size:= .inr (cq.1 b1).1;have a7:I.bx 3<w2.heap.size:=(cq.1 b1).1;have a9:Gt Z.F w2:=Z.gt.mono λg cs _ X=>⟨X,g2.fr.block g X⟩;have rg:RG Z w.heap.size (I.bx 3) (.slice none 0 0) (Lib.byteCells []) (AF sk0 [.vC A1 l, .raw (pB (I.bx 3))]) a2.tmps w2:=by
    refine⟨⟨by omega,⟨_, .inl rfl,b1⟩,⟨rfl, .inl ⟨rfl,rfl⟩⟩,by simp[Value.ownBlock]⟩,g2.fr,g2.fr.size,a9,⟨I,U.tl,U.tv,U.wt,?_,?_,?_,?_,?_,?_,?_,Fr.refl _ _,?_,U.i0,?_,?_⟩⟩
    ·intro k b D;rw[(Il l _).1]at D;simp[Ac]at D
    ·intro k b D;rw[(Il l _).1]at D;simp[Ac]at D
    ·intro k k' b b' D;rw[(Il l _).1]at D;simp[Ac]at D
    ·intro k b D;rw[(Il l _).2]at D;simp[Ac]at D
    ·intro k k' b b' g D;rw[(Il l _).2]at D;simp[Ac]at D
    ·intro k b id r D;rw[(Il l _).1]at D;simp[Ac]at D
    ·intro b hb;exact⟨(U.ib b hb).1,λk bo D=>(by rw[(Il l _).1]at D;simp[Ac]at D),λid r L=>(by rw[(Il l _).2]at L;simp[Ac]at L)⟩
    ·rintro k (D|rfl|D)
     ·have D:k<w.heap.size:=D;have:=g2.fr.size;exact db D this
     ·exact a7
     ·simp[Value.ownBlock]at D
    ·intro k D;rcases g2.i1 k D with i|i
     ·exact .inl i
     ·refine .inr ?_;rintro(hf|rfl|hf)
      ·exact i hf
      ·exact(g2.ib _ D).2.1 3 _ rfl rfl
      ·simp[Value.ownBlock]at hf
    ·intro k b h;cases h
   have hI:∀k,Z.I0 k->k<w.heap.size:=Y;have hF:∀k,Z.F k->k<w.heap.size:=λk h=>h;refine wp_seq (wp_seq (wp_mono (rg.chunk Jp rfl hZ KO UW (Ybv l (pB (I.bx 3)))) ?_));rintro e a3 w3 ⟨rfl,g5,d3⟩;show Code.wp _ _ _ _ _;have T:=Zb8 hZ hI hF hL hl hb l.length 0 [] (.slice none 0 0) a3 w3 (by omega) rfl g5;refine wp_block (wp_mono (wp_loop_rounds _ T) ?_);rintro e a4 w4 ⟨rfl,v4,g6,d4⟩;show Code.wp _ _ _ _ _;refine Yh3 (Z:=Z) rfl (λk=>Iff.rfl) (λk=>rfl) hI (by rw[d4,d3,d2]) g6 ?_;intro x ρ' w' q;refine⟨x,⟨λ_=>0,λ_=> .slice none 0 0,λ_=>0,ρ.im⟩,rfl,rfl,λi v O=> ?_,q.wt,λk b D=>by simp[Ac]at D,λk b D=>by simp[Ac]at D,λk k' b b' D=>by simp[Ac]at D,λid r L=>by simp[Ac]at L,
    λid id' r r' g L=>by simp[Ac]at L,λk b id r D=>by simp[Ac]at D,λk D=>⟨db (Y k D) q.fr.size,λk bo D=>by simp[Ac]at D,λid r L=>by simp[Ac]at L⟩,?_,λk D=>db (G.fs k D) q.fr.size,G.i0,G.i1,λk b h=>by rw[a8 k]at h;cases h⟩
   ·cases i with
    |zero=>
     simp at O;subst O;obtain⟨c,h1,h2⟩:=q.tv 0 _ rfl;simp only[d6,iz]at h1;subst h1;exact⟨_,rfl,h2⟩
    |succ i=>simp at O
   ·exact G.fr.trans (q.fr.mono λk D=>G.fs k D)
theorem Zvj {ML:List AC->Option (List AC)} (M:Ak Tryz.prog (76,Ab L8 GJ ML)):Ak Tryz.prog (31,Ab Qd Rt (QZ ML)):=by
 refine⟨Rx (sig:=Qd) (osig:=Rt) (m:=QZ ML),λargs mem v mem' h=>PCallM.x ?_ (Jh Z7d)⟩;obtain⟨aB,aC⟩:=mem;simp only[Ab]at h;obtain⟨I,h⟩:=BC h;split at h
 ·rename_i vars N;simp only[bm]at h;obtain⟨o,G,h⟩:=h;intro F w S ρ xs L;have D:=L.rebuild (NR I) (by kernel_rfl) N;rw[Zz4]at D;dsimp only at D;unfold QZ at G;generalize AX (nth .vD vars 0)=l at G D;obtain⟨O,G⟩:=BC G;simp only[bm,an]at G;obtain⟨bs,hb,rfl⟩:=G;have e:AF Rt [.raw (.string ⟨bs.toArray⟩)]=⟨[.c (.raw (.string ⟨bs.toArray⟩))],[],[]⟩:=Z2k _;rw[e]at h;simp only[an,df]at h;obtain⟨rfl,rfl⟩:=h;exact Z8o M D (az O) hb
 ·simp at h
end Go.Bm
