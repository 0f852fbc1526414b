/- the report of a run: Format told as a row -/
import Derived.Test.YtnnpdlgenmnekaaGreatDoorSeFmE
set_option linter.unusedVariables false
set_option linter.unusedSimpArgs false
set_option maxRecDepth 100000
noncomputable section
namespace Go.Bm
open Go.Proofs Go.RowKit
theorem Qt (vars:List AC):Ag EI vars=⟨[.c (.vC Ac (Aq (nth .vD vars 0)))],[],[]⟩:=by kernel_rfl
theorem QS (s:ByteArray):Ag Cf [.raw (.string s)]=⟨[.c (.raw (.string s))],[],[]⟩:=by kernel_rfl
theorem CR (l:List (List AC)) (p:Value):(Ag sk0 [.vC Ac l, .raw p]).aB=[]/\(Ag sk0 [.vC Ac l, .raw p]).aC=[]:=⟨rfl,rfl⟩
theorem Sn {ML:List AC->Option (List AC)} (hL:Av Tryz.prog (76,Aj Es Cf ML)) {T:Base} {l:List (List AC)} {ρ:Env} {xs:List Value} {w:World} {bs:List UInt8} (D:RelE T [.c (.vC Ac l)] [] [] ρ xs.toArray w)
  (hl:l.length<=4611686018427387904) (hb:BS ML l l.length=some bs):
  Calls Tryz.prog 31 xs.toArray w λe w'=>∃x ρ',e= .returned x/\RelE T [.c (.raw (.string ⟨bs.toArray⟩))] [] [] ρ' #[x] w':=by
 have a7:∀k,T.K0 k=none:=λk=>by
  cases A:T.K0 k with
  |none=>rfl
  |some b=>obtain⟨_,bo,q⟩:=D.k0 k b A;simp[Aa]at q
 have hG:Gt (λk=>k<w.heap.size) w:=T.gt.mono λg cs _ U=>⟨D.fs g U,D.fr.block g U⟩;have V:∀k,ρ.im k->k<w.heap.size:=λk A=>(D.ib k A).1
 let Z:Base:=⟨λk=>k<w.heap.size,w,ρ.im,λ_=>none,hG⟩
 have X:InZ Z:=λk b h=>by cases h
 have Y:xs.length=1:=by have:=D.tl;simpa using this.symm
 have r0:RelE Z [.c (.vC Ac l)] [] [] ρ xs.toArray w:=⟨D.tl,D.tv,D.wt,D.wb,λk b A=>by simp[Aa]at A,D.bi,λid r G=>by simp[Aa]at G,D.ri,D.br,D.ib,Fr.refl _ _,λ_ h=>h,λ_ h=>h,λb h=> .inl h,λk b h=>by cases h⟩;have r1:Rel Z ⟨[.c (.vC Ac l)]++List.replicate 48 TV.vD,[],[]⟩ (xs.toArray++Array.replicate (Tryz.f31.ntmps-xs.toArray.size) undef) w:=by
  refine⟨ρ,r0.slots (by rw[Rp];simp[Y]) (λi u N=> ?_) (λu hu=> ?_)⟩
  ·cases i with
   |zero=>
    simp at N;subst N;have:=r0.tv 0 _ rfl;have e:(xs.toArray++Array.replicate (Tryz.f31.ntmps-xs.toArray.size) undef).getD 0 undef=xs.toArray.getD 0 undef:=by
     simp[Array.getD_eq_getD_getElem?,Array.getElem?_append,Y]
    rw[e];exact this
   |succ i=>
    have:=ay (show(List.replicate 48 TV.vD)[i]? =some u by simpa using N);rw[cp]at this;rw[this.2];trivial
  ·rcases bt.1 hu with q|q
   ·exact r0.wt u q
   ·rw[cp]at q;rw[q.2];trivial
 refine calls_of_wp Tryz.func31 NQ ?_;rw[TQ];have hs:=Ou l;rw[Ax]at hs;refine wp_seq (wp_mono (Bo Bq (by intro t ht;cases ht) C4 X _ 64 0 _ _ w _ D2 r1 rfl hs) ?_);rintro e a1 w1 ⟨ae,s1,rfl,J,g1,d1⟩;cases ae with
 |exit i=>simp at J
 |ret=>simp at J
 |normal=>
  show Code.wp _ _ _ _ _;dsimp only at J;refine wp_seq (wp_mono (Bo Bq (by intro t ht;cases ht) C4 X _ 64 0 _ a1 w1 _ D2 g1 d1 J) ?_);rintro e a2 w2 ⟨ae,s2,rfl,L,⟨E,g2⟩,d2⟩;cases ae with
  |exit i=>simp at L
  |ret=>simp at L
  |normal=>
   simp only[ag]at L;subst L;show Code.wp _ _ _ _ _;obtain⟨arr,b1,b2,b3⟩:=g2.bx 3 _ rfl;have b3: ¬E.bx 3<w.heap.size:=b3;have a0:arr= #[.pointer none, .slice none 0 0]:=by
    obtain⟨la⟩:=arr
    match la,b2 with
    |[x,y],q=>
     obtain⟨q1,q2,_⟩:=q;have q1:=q1.1;have q2:y=_:=q2;rw[q1,q2]
   subst a0;have hp:=g2.tv 3 _ rfl;obtain⟨c,a5,O⟩:=hp;simp only[a9,cy]at a5;subst a5;have O:a2.tmps.getD 3 undef=pB (E.bx 3):=O;have g3:=g2.learn 3 (v:= .c (.raw (pB (E.bx 3)))) ⟨_,rfl,O,rfl⟩ (λc hc=>by simp at hc;subst hc;trivial);have S:=g3.rebuild X ok0 (Ql l (pB (E.bx 3)));rw[(CR l _).1,(CR l _).2]at S;have b4:E.bx 3<w1.heap.size\/E.bx 3<w2.heap.size:= .inr (az.1 b1).1;have a6:E.bx 3<w2.heap.size:=(az.1 b1).1;have b0:Gt Z.F w2:=Z.gt.mono λg cs _ U=>⟨U,g2.fr.block g U⟩;have rg:RG Z w.heap.size (E.bx 3) (.slice none 0 0) (Lib.byteCells []) (Ag sk0 [.vC Ac l, .raw (pB (E.bx 3))]) a2.tmps w2:=by
    refine⟨⟨by omega,⟨_, .inl rfl,b1⟩,⟨rfl, .inl ⟨rfl,rfl⟩⟩,by simp[Value.ownBlock]⟩,g2.fr,g2.fr.size,b0,⟨E,S.tl,S.tv,S.wt,?_,?_,?_,?_,?_,?_,?_,Fr.refl _ _,?_,S.i0,?_,?_⟩⟩
    ·intro k b A;rw[(CR l _).1]at A;simp[Aa]at A
    ·intro k b A;rw[(CR l _).1]at A;simp[Aa]at A
    ·intro k k' b b' A;rw[(CR l _).1]at A;simp[Aa]at A
    ·intro k b A;rw[(CR l _).2]at A;simp[Aa]at A
    ·intro k k' b b' g A;rw[(CR l _).2]at A;simp[Aa]at A
    ·intro k b id r A;rw[(CR l _).1]at A;simp[Aa]at A
    ·intro b hb;exact⟨(S.ib b hb).1,λk bo A=>(by rw[(CR l _).1]at A;simp[Aa]at A),λid r G=>(by rw[(CR l _).2]at G;simp[Aa]at G)⟩
    ·rintro k (A|rfl|A)
     ·have A:k<w.heap.size:=A;have:=g2.fr.size;exact ax A this
     ·exact a6
     ·simp[Value.ownBlock]at A
    ·intro k A;rcases g2.i1 k A with i|i
     ·exact .inl i
     ·refine .inr ?_;rintro(hf|rfl|hf)
      ·exact i hf
      ·exact(g2.ib _ A).2.1 3 _ rfl rfl
      ·simp[Value.ownBlock]at hf
    ·intro k b h;cases h
   have hI:∀k,Z.I0 k->k<w.heap.size:=V;have hF:∀k,Z.F k->k<w.heap.size:=λk h=>h;refine wp_seq (wp_seq (wp_mono (rg.chunk Bq rfl X D2 G1 (S_ l (pB (E.bx 3)))) ?_));rintro e a3 w3 ⟨rfl,g5,d3⟩;show Code.wp _ _ _ _ _;have Q:=MO X hI hF hL hl hb l.length 0 [] (.slice none 0 0) a3 w3 (by omega) rfl g5;refine wp_block (wp_mono (wp_loop_rounds _ Q) ?_);rintro e a4 w4 ⟨rfl,v4,g6,d4⟩;show Code.wp _ _ _ _ _;refine T9 (Z:=Z) rfl (λk=>Iff.rfl) (λk=>rfl) hI (by rw[d4,d3,d2]) g6 ?_;intro x ρ' w' q;refine⟨x,⟨λ_=>0,λ_=> .slice none 0 0,λ_=>0,ρ.im⟩,rfl,rfl,λi v N=> ?_,q.wt,λk b A=>by simp[Aa]at A,λk b A=>by simp[Aa]at A,λk k' b b' A=>by simp[Aa]at A,λid r G=>by simp[Aa]at G,
    λid id' r r' g G=>by simp[Aa]at G,λk b id r A=>by simp[Aa]at A,λk A=>⟨ax (V k A) q.fr.size,λk bo A=>by simp[Aa]at A,λid r G=>by simp[Aa]at G⟩,?_,λk A=>ax (D.fs k A) q.fr.size,D.i0,D.i1,λk b h=>by rw[a7 k]at h;cases h⟩
   ·cases i with
    |zero=>
     simp at N;subst N;obtain⟨c,h1,h2⟩:=q.tv 0 _ rfl;simp only[a9,cy]at h1;subst h1;exact⟨_,rfl,h2⟩
    |succ i=>simp at N
   ·exact D.fr.trans (q.fr.mono λk A=>D.fs k A)
theorem PQ {ML:List AC->Option (List AC)} (G:Av Tryz.prog (76,Aj Es Cf ML)):Av Tryz.prog (31,Aj EI EZ (GC ML)):=by
 refine⟨FJ (sig:=EI) (osig:=EZ) (m:=GC ML),λargs mem v mem' h=>PCallM.x ?_ (DS R4)⟩;obtain⟨aB,aC⟩:=mem;simp only[Aj]at h;obtain⟨D,h⟩:=Ay h;split at h
 ·rename_i vars J;simp only[ai]at h;obtain⟨o,ho,h⟩:=h;intro F w N ρ xs E;have A:=E.rebuild (Fo D) (by kernel_rfl) J;rw[Qt]at A;dsimp only at A;unfold GC at ho;generalize Aq (nth .vD vars 0)=l at ho A;obtain⟨L,ho⟩:=Ay ho;simp only[ai,ag]at ho;obtain⟨bs,hb,rfl⟩:=ho;have e:Ag EZ [.raw (.string ⟨bs.toArray⟩)]=⟨[.c (.raw (.string ⟨bs.toArray⟩))],[],[]⟩:=QS _;rw[e]at h;simp only[ag,a8]at h;obtain⟨rfl,rfl⟩:=h;exact Sn G A (al L) hb
 ·simp at h
end Go.Bm
