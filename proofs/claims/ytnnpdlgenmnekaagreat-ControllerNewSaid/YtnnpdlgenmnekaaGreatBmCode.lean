/- the abstract machine -/
import Derived.Test.YtnnpdlgenmnekaaGreatBmStep
import Derived.ArgAppend
import Derived.LoopN
set_option linter.unusedVariables false
set_option linter.unusedSimpArgs false
namespace Go.Bm
open Go.RowKit
section
variable {P:Program} {C:Cfg} {ρ:Env} {w:World} {R:Type} {Z:Base} {tm:List TV} {aB:List (Nat×Box)} {aC:List (Nat×Row)} {tmps:Array Value}
theorem It {a b:Nat} (h:a≠b):Nat.beq a b=false:=by
  cases hb:Nat.beq a b
  · rfl
  · exact absurd (ac hb) h
theorem FP {a b:Nat} (h:Nat.beq a b=false):a≠b:=by rintro rfl;simp at h
theorem TVR.map {J:Env} {w':World} {g:AC->AC} {v:TV} (L:∀(a:AC) (x:Value),AC.wf aB aC a->CC ρ w a x->CC J w' (g a) x) (G:TV.wf aB aC v) {x:Value} (h:TVR ρ w v x):
    TVR J w' (v.mapC g) x:=by
  have S:∀{l:List AC} {xs:List Value},(∀a∈l,AC.wf aB aC a)->CL (CC ρ w) l xs->CL (CC J w') (l.map g) xs:=by
    intro l;induction l with
    |nil=>intro xs _ h;cases xs<;>first|exact h|exact h.elim
    |cons a l M=>
      intro xs T h;cases xs with
      |nil=>exact h.elim
      |cons y xs=>exact⟨L a y (T a (by simp)) h.1,M (λb hb=>T b (by simp[hb])) h.2⟩
  cases v with
  |dead=>trivial
  |v b cs=>
    cases b
    · obtain⟨a,rfl,V⟩:=h;exact⟨g a,rfl,L a x (G a (by simp)) V⟩
    · obtain⟨I,rfl,D⟩:=h;exact⟨I,rfl,S G D⟩
  |tup ps=>
    obtain⟨I,rfl,D⟩:=h;refine⟨I,rfl,?_⟩;generalize I.toList=l at D;induction ps generalizing l with
    |nil=>cases l<;>first|exact D|exact D.elim
    |cons p ps M=>
      cases l with
      |nil=>exact D.elim
      |cons y l=>
        obtain⟨b,cs⟩:=p;refine⟨?_,M (λq X=>G q (by simp[X])) l D.2⟩;have U:=D.1;have E:=G (b,cs) (by simp);cases b
        · obtain⟨a,N,O⟩:=U;subst N;exact⟨g a,rfl,L a y (E a (by simp)) O⟩
        · obtain⟨Y,N,O⟩:=U;exact⟨Y,N,S E O⟩
theorem CL.mapg {D:Env} {w':World} {g:AC->AC}:∀{l:List AC} {xs:List Value},(∀(a:AC) (x:Value),AC.wf aB aC a->CC ρ w a x->CC D w' (g a) x)->(∀a∈l,AC.wf aB aC a)->CL (CC ρ w) l xs->CL (CC D w') (l.map g) xs
  |[],[],_,_,h=>h
  |a::l,y::xs,E,G,h=>⟨E a y (G a (by simp)) h.1,CL.mapg E (λb hb=>G b (by simp[hb])) h.2⟩
  |[],_::_,_,_,h=>h.elim
  |_::_,[],_,_,h=>h.elim
theorem TV.wf_map {D:List (Nat×Box)} {E:List (Nat×Row)} {g:AC->AC} {v:TV} (J:∀a,AC.wf aB aC a->AC.wf D E (g a)) (L:TV.wf aB aC v):
    TV.wf D E (v.mapC g):=by
  cases v with
  |dead=>trivial
  |v b cs=>
    intro a G;simp only[av]at G;obtain⟨c,I,rfl⟩:=G;exact J c (L c I)
  |tup ps=>
    intro p M a G;simp only[av]at M;obtain⟨q,N,rfl⟩:=M;simp only[av]at G;obtain⟨c,I,rfl⟩:=G;exact J c (L q N c I)
theorem TV.fz_eq (id:Nat) (ks:List Kd) (l:List (List AC)) (v:TV):v.fz id ks l=v.mapC (AC.fz id ks l):=by cases v<;>rfl
theorem RelE.freeze (h:RelE Z tm aB aC ρ tmps w) {id:Nat} {r:Row} (M:Ab aC id=some r):
    RelE Z (tm.map (TV.fz id r.ks r.l)) (aB.map λp=>(p.1,p.2.fz id r.ks r.l)) (del id aC) {ρ with im:=λb=>ρ.im b\/(ρ.rv id).ownBlock=some b} tmps w:=by
  have U:∀k,Ab (aB.map λp=>(p.1,p.2.fz id r.ks r.l)) k=(Ab aB k).map (Box.fz id r.ks r.l):=λk=>ED (Box.fz id r.ks r.l) aB k;have D:∀(k:Nat) (b:Box),Ab (aB.map λp=>(p.1,p.2.fz id r.ks r.l)) k=some b->∃b',Ab aB k=some b'/\b=b'.fz id r.ks r.l:=by
    intro k b E;rw[U]at E;cases hl:Ab aB k with
    |none=>rw[hl]at E;simp at E
    |some b'=>rw[hl]at E;simp at E;exact⟨b',rfl,E.symm⟩
  have I:∀(k:Nat) (b:Box),Ab aB k=some b->∃b',Ab (aB.map λp=>(p.1,p.2.fz id r.ks r.l)) k=some b':=λk b E=>⟨b.fz id r.ks r.l,by rw[U,E];rfl⟩;obtain⟨q1,q2,q0,xs,q3,q4⟩:=h.ro id r M;have S:CP (λb=>ρ.im b\/(ρ.rv id).ownBlock=some b) w (.vC r.ks r.l) (ρ.rv id):=
    VG q3 (q4.mono (λ_ h=> .inl h) (λ_ _=>rfl)) (λg hg=> .inr hg)
  have V:∀(a:AC) (x:Value),AC.wf aB aC a->CC ρ w a x->CC {ρ with im:=λb=>ρ.im b\/(ρ.rv id).ownBlock=some b} w (a.fz id r.ks r.l) x:=by
    intro a x _ hx;have T:CC {ρ with im:=λb=>ρ.im b\/(ρ.rv id).ownBlock=some b} w a x:=CC.mono (ρ:=ρ) (ρ':={ρ with im:=λb=>ρ.im b\/(ρ.rv id).ownBlock=some b}) (λ_ h=> .inl h) (λ_ _=>rfl) a x (AC.agree_refl rfl rfl rfl a) hx;cases a with
    |own j w1 n1=>
      simp only[AC.fz];cases hb:Nat.beq j id
      · exact T
      · have:=ac hb;subst this
        obtain⟨c1,_,_⟩:=hx;subst c1;exact S
    |rptr j i1 s1=>
      simp only[AC.fz];cases hb:Nat.beq j id
      · exact T
      · exact hx.one
    |_=>exact T
  have X:∀a,AC.wf aB aC a->AC.wf (aB.map λp=>(p.1,p.2.fz id r.ks r.l)) (del id aC) (a.fz id r.ks r.l):=by
    intro a L;cases a with
    |ptr k o=>obtain⟨b,hb⟩:=L;exact I k b hb
    |bsl k o=>obtain⟨b,hb⟩:=L;exact I k b hb
    |own j w1 n1=>
      simp only[AC.fz];cases hb:Nat.beq j id
      · obtain⟨q,G,J⟩:=L
        exact⟨q,by rw[Iz _ _ _ (FP hb)];exact G,J⟩
      · trivial
    |rptr j i1 s1=>
      simp only[AC.fz];cases hb:Nat.beq j id
      · obtain⟨q,G,J⟩:=L
        exact⟨q,by rw[Iz _ _ _ (FP hb)];exact G,J⟩
      · trivial
    |vptr=>exact L
    |clo f fs cs=>exact⟨λa T=>AC.wfP_mono I (L.1 a T),λa T=>AC.wfP_mono I (L.2 a T)⟩
    |_=>trivial
  refine⟨by simpa using h.tl,?_,?_,?_,?_,?_,?_,?_,?_,?_,h.fr,h.fs,λb hb=> .inl (h.i0 b hb),?_,?_⟩
  · intro i v hi
    simp only[eg,bg]at hi;obtain⟨u,Y,rfl⟩:=hi;rw[TV.fz_eq];exact TVR.map V (h.wt u (bq Y)) (h.tv i u Y)
  · intro v hv
    simp only[av]at hv;obtain⟨u,Y,rfl⟩:=hv;rw[TV.fz_eq];exact TV.wf_map X (h.wt u Y)
  · intro k b E a L
    obtain⟨b',N,rfl⟩:=D k b E;simp only[Box.fz,av]at L;obtain⟨c,hc,rfl⟩:=L;exact X _ (h.wb k b' N c hc)
  · intro k b E
    obtain⟨b',N,rfl⟩:=D k b E;obtain⟨arr,h1,h2,h3⟩:=h.bx k b' N;exact⟨arr,h1,CL.mapg V (h.wb k b' N) h2,h3⟩
  · intro k k' b b' E a0
    obtain⟨_,G,_⟩:=D k b E;obtain⟨_,J,_⟩:=D k' b' a0;exact h.bi k k' _ _ G J
  · intro j q O
    obtain⟨a3,a1⟩:=JO O;obtain⟨G,J,p0,ys,p3,p4⟩:=h.ro j q a1;exact⟨G,J,p0,ys,p3,p4.mono (λ_ h=> .inl h) (λ_ _=>rfl)⟩
  · intro j j' q q' g O a2
    exact h.ri j j' q q' g (JO O).2 (JO a2).2
  · intro k b j q E O
    obtain⟨_,G,_⟩:=D k b E;exact h.br k _ j q G (JO O).2
  · rintro b (hb|hb)
    · obtain⟨G,J,p3⟩:=h.ib b hb
      exact⟨G,λk bo E=>by obtain⟨_,p,_⟩:=D k bo E;exact J k _ p,λj q O=>p3 j q (JO O).2⟩
    · refine⟨(h.rwlt M hb).2,λk bo E e=> ?_,λj q O e=> ?_⟩
      · obtain⟨_,p,_⟩:=D k bo E
        exact h.br k _ id r p M (by rw[hb];exact ie some e.symm)
      · have hd:=JO O
        exact hd.1 (h.ri j id q r b hd.2 M e hb)
  · rintro b (hb|hb)
    · exact h.i1 b hb
    · exact .inr (q0 b hb)
  · intro k b E
    obtain⟨G,bo,J⟩:=h.k0 k b E;exact⟨G,I k bo J⟩
theorem Eb:∀{l:List Nat} {n:Nat},AI l n=true↔n∈l
  |[],n=>by simp[AI]
  |m::l,n=>by
    simp only[AI,az];cases h:Nat.beq m n
    · simp only[ao,Eb (l:=l)]
      constructor
      · exact .inr
      · rintro(e|e)
        · exact absurd e.symm (FP h)
        · exact e
    · simp[ac h]
theorem LT {α:Type}:∀{l:List (Nat×α)} {k:Nat} {b:α},Ab l k=some b->(k,b)∈l
  |[],_,_,h=>by simp[Ab]at h
  |(j,c)::l,k,b,h=>by
    simp only[Ab]at h;cases hb:Nat.beq j k<;>rw[hb]at h
    · simp only[ao]at h;exact ic _ (LT h)
    · simp at h;subst h;rw[ac hb];simp
theorem Qm {α:Type} (q:Nat->Bool):∀{l:List (Nat×α)} {k:Nat} {b:α},Ab (l.filter λp=>q p.1) k=some b->Ab l k=some b/\q k=true
  |[],k,b,h=>by simp[Ab]at h
  |(j,c)::l,k,b,h=>by
    simp only[List.filter_cons]at h;cases D:q j
    · rw[D]at h
      simp only[cv,ez]at h;obtain⟨G,E⟩:=Qm q (l:=l) h;refine⟨?_,E⟩;simp only[Ab];rw[It (by rintro rfl;rw[D]at E;cases E)];exact G
    · rw[D]at h
      simp only[dc,Ab]at h⊢;cases hb:Nat.beq j k<;>rw[hb]at h
      · exact Qm q (l:=l) h
      · have:=ac hb;subst this
        exact⟨h,D⟩
theorem Ii {α:Type} (q:Nat->Bool):∀{l:List (Nat×α)} {k:Nat} {b:α},q k=true->Ab l k=some b->Ab (l.filter λp=>q p.1) k=some b
  |[],k,b,_,h=>by simp[Ab]at h
  |(j,c)::l,k,b,D,h=>by
    simp only[List.filter_cons];simp only[Ab]at h;cases hb:Nat.beq j k<;>rw[hb]at h
    · simp only[ao]at h
      split
      · simp only[Ab,hb,ao];exact Ii q D h
      · exact Ii q D h
    · have:=ac hb;subst this
      rw[D];simp only[dc,Ab,hb];exact h
theorem AC.wf_filter {keys ids:List Nat} {a:AC} (D:AC.inK keys ids a=true) (E:AC.wf aB aC a):AC.wf (aB.filter λp=>AI keys p.1) (aC.filter λp=>AI ids p.1||CR p.1) a:=by
  have L:∀l:List AC,Ai (AC.inK.inP keys) l=true->(∀a∈l,AC.wfP aB a)->∀a∈l,AC.wfP (aB.filter λp=>AI keys p.1) a:=by
    intro l M N a E;have I:=As.1 M a E;have J:=N a E;cases a<;>first|trivial|(obtain⟨b,hb⟩:=J;exact⟨b,Ii (AI keys) I hb⟩)
  cases a with
  |ptr k o=>obtain⟨b,G⟩:=E;exact⟨b,Ii (AI keys) D G⟩
  |bsl k o=>obtain⟨b,G⟩:=E;exact⟨b,Ii (AI keys) D G⟩
  |own id O n=>obtain⟨q,I,J⟩:=E;exact⟨q,Ii (λk=>AI ids k||CR k) (by simp only[AC.inK]at D;simp[D]) I,J⟩
  |rptr id i s1=>obtain⟨q,I,J⟩:=E;exact⟨q,Ii (λk=>AI ids k||CR k) (by simp only[AC.inK]at D;simp[D]) I,J⟩
  |vptr=>exact E
  |clo f fs cs=>
    simp only[AC.inK,al]at D;exact⟨L fs D.1 E.1,L cs D.2 E.2⟩
  |_=>trivial
theorem TV.wf_filter {keys ids:List Nat} {v:TV} (D:TV.inK keys ids v=true) (G:TV.wf aB aC v):TV.wf (aB.filter λp=>AI keys p.1) (aC.filter λp=>AI ids p.1||CR p.1) v:=by
  cases v with
  |dead=>trivial
  |v g cs=>exact λa E=>AC.wf_filter (As.1 D a E) (G a E)
  |tup ps=>exact λp I a E=>AC.wf_filter (As.1 (As.1 D p I) a E) (G p I a E)
theorem RelE.filter (h:RelE Z tm aB aC ρ tmps w) {keys ids:List Nat} {G:List TV} {E:Array Value} (L:G.length=E.size)
    (M:∀(i:Nat) (v:TV),G[i]? =some v->TVR ρ w v (E.getD i undef)) (N:∀v∈G,TV.wf aB aC v)
    (O:Ai (TV.inK keys ids) G=true) (S:Ai (λp:Nat×Box=>Ai (AC.inK keys ids) p.2.cells) (aB.filter λp=>AI keys p.1)=true)
    (T:∀k b,Z.K0 k=some b->AI keys k=true):
    RelE Z G (aB.filter λp=>AI keys p.1) (aC.filter λp=>AI ids p.1||CR p.1) ρ E w:=by
  have hb:∀(k:Nat) (b:Box),Ab (aB.filter λp=>AI keys p.1) k=some b->Ab aB k=some b:=λk b D=>(Qm (AI keys) D).1;have J:∀(k:Nat) (b:Row),Ab (aC.filter λp=>AI ids p.1||CR p.1) k=some b->Ab aC k=some b:=λk b D=>(Qm (λk=>AI ids k||CR k) D).1;refine⟨L,M,λv hv=>TV.wf_filter (As.1 O v hv) (N v hv),λk b D a ha=> ?_,λk b D=>h.bx k b (hb k b D),λk k' b b' D U=>h.bi k k' b b' (hb k b D) (hb k' b' U),
    λid q I=>h.ro id q (J id q I),λid id' q q' g I V=>h.ri id id' q q' g (J id q I) (J id' q' V),λk b id q D I=>h.br k b id q (hb k b D) (J id q I),λb X=> ?_,h.fr,h.fs,h.i0,h.i1,λk b D=> ?_⟩
  · exact AC.wf_filter (As.1 (As.1 S (k,b) (LT D)) a ha) (h.wb k b (hb k b D) a ha)
  · obtain⟨Y,q2,q3⟩:=h.ib b X
    exact⟨Y,λk bo D=>q2 k bo (hb k bo D),λid q I=>q3 id q (J id q I)⟩
  · obtain⟨Y,bo,q2⟩:=h.k0 k b D
    exact⟨Y,bo,Ii (AI keys) (T k b D) q2⟩
theorem RelE.lookB {D:List (Nat×Box)} {E:List (Nat×Row)} (h:RelE Z tm aB aC ρ tmps w) (hb:∀j,Ab aB j=Ab D j) (J:∀j,Ab aC j=Ab E j):RelE Z tm D E ρ tmps w:=by
  have L:∀a,AC.wf aB aC a->AC.wf D E a:=λa=>AC.wf_mono (λk b G=>⟨b,by rw[<-hb];exact G⟩) (λk r G=>⟨r,by rw[<-J];exact G,rfl,rfl⟩);refine⟨h.tl,h.tv,λv U=>TV.wf_mono L (h.wt v U),λk b G a V=>L a (h.wb k b (by rw[hb];exact G) a V),λk b G=>h.bx k b (by rw[hb];exact G),λk k' b b' G M=>h.bi k k' b b' (by rw[hb];exact G) (by rw[hb];exact M),
    λid q I=>h.ro id q (by rw[J];exact I),λid id' q X g I N=>h.ri id id' q X g (by rw[J];exact I) (by rw[J];exact N),λk b id q G I=>h.br k b id q (by rw[hb];exact G) (by rw[J];exact I),λb O=> ?_,h.fr,h.fs,h.i0,h.i1,λk b G=> ?_⟩
  · obtain⟨S,T,Y⟩:=h.ib b O
    exact⟨S,λk bo G=>T k bo (by rw[hb];exact G),λid q I=>Y id q (by rw[J];exact I)⟩
  · obtain⟨S,bo,T⟩:=h.k0 k b G
    exact⟨S,bo,by rw[<-hb];exact T⟩
theorem RelE.reBox (h:RelE Z tm aB aC ρ tmps w) {g:Nat->Box->Box} (O:∀k b,(g k b).ty=b.ty)
    (I:∀(k:Nat) (b:Box),Ab aB k=some b->(∀(xs:List Value),CL (CC ρ w) b.cells xs->CL (CC ρ w) (g k b).cells xs)/\∀a∈(g k b).cells,AC.wf aB aC a):
    RelE Z tm (aB.map λp=>(p.1,g p.1 p.2)) aC ρ tmps w:=by
  have J:∀(l:List (Nat×Box)) k,Ab (l.map λp=>(p.1,g p.1 p.2)) k=(Ab l k).map (g k):=by
    intro l;induction l with
    |nil=>intro k;rfl
    |cons p l V=>
      intro k;obtain⟨j,b⟩:=p;simp only[ba,Ab,V];cases hb:Nat.beq j k
      · rfl
      · have:=ac hb;subst this;rfl
  have E:∀(k:Nat) (b:Box),Ab (aB.map λp=>(p.1,g p.1 p.2)) k=some b->∃b',Ab aB k=some b'/\b=g k b':=by
    intro k b D;rw[J]at D;cases U:Ab aB k with
    |none=>rw[U]at D;simp at D
    |some b'=>rw[U]at D;simp at D;exact⟨b',rfl,D.symm⟩
  have L:∀(k:Nat) (b:Box),Ab aB k=some b->∃b',Ab (aB.map λp=>(p.1,g p.1 p.2)) k=some b':=λk b D=>⟨g k b,by rw[J,D];rfl⟩;have M:∀a,AC.wf aB aC a->AC.wf (aB.map λp=>(p.1,g p.1 p.2)) aC a:=λa=>AC.wf_mono L (λk r D=>⟨r,D,rfl,rfl⟩);refine⟨h.tl,h.tv,λv X=>TV.wf_mono M (h.wt v X),?_,?_,?_,h.ro,h.ri,?_,?_,h.fr,h.fs,h.i0,h.i1,?_⟩
  · intro k b D a Y
    obtain⟨b',G,rfl⟩:=E k b D;exact M a ((I k b' G).2 a Y)
  · intro k b D
    obtain⟨b',G,rfl⟩:=E k b D;obtain⟨arr,h1,h2,h3⟩:=h.bx k b' G;exact⟨arr,by rw[O];exact h1,(I k b' G).1 _ h2,h3⟩
  · intro k k' b b' D S
    obtain⟨_,N,_⟩:=E k b D;obtain⟨_,T,_⟩:=E k' b' S;exact h.bi k k' _ _ N T
  · intro k b j q D hq
    obtain⟨_,N,_⟩:=E k b D;exact h.br k _ j q N hq
  · intro b hb
    obtain⟨q1,q2,q3⟩:=h.ib b hb;exact⟨q1,λk bo D=>by obtain⟨_,p,_⟩:=E k bo D;exact q2 k _ p,q3⟩
  · intro k b D
    obtain⟨N,bo,T⟩:=h.k0 k b D;exact⟨N,L k bo T⟩
theorem IS {w:World}:∀(ks:List Kd) (cs:List AC) (xs:List Value),CL (CC ρ w) cs xs->CL (CC ρ w) (Dh ks cs) xs
  |[],cs,xs,h=>by cases cs<;>exact h
  | .sl ks::l,[],xs,h=>h
  | .int k::l,[],xs,h=>h
  | .bool::l,[],xs,h=>h
  | .raw::l,[],xs,h=>h
  |_::l,a::cs,[],h=>h.elim
  | .int _::l,a::cs,x::xs,h=>by simp only[Dh];exact⟨h.1,IS l cs xs h.2⟩
  | .bool::l,a::cs,x::xs,h=>by simp only[Dh];exact⟨h.1,IS l cs xs h.2⟩
  | .raw::l,a::cs,x::xs,h=>by simp only[Dh];exact⟨h.1,IS l cs xs h.2⟩
  | .sl ks::l,a::cs,x::xs,h=>by
    cases a<;>simp only[Dh]<;>first
      |exact⟨h.1,IS l cs xs h.2⟩
      | (refine ⟨?_, IS l cs xs h.2⟩
         have D:=h.1;simp only[CC,CP]at D;subst D;exact Q6 ks)
theorem KJ:∀(ks:List Kd) (cs:List AC),(∀a∈cs,AC.wf aB aC a)->∀a∈Dh ks cs,AC.wf aB aC a
  |[],cs,h=>by cases cs<;>exact h
  | .sl ks::l,[],h=>h
  | .int k::l,[],h=>h
  | .bool::l,[],h=>h
  | .raw::l,[],h=>h
  | .int _::l,a::cs,h=>by
    simp only[Dh,az,gk]at h⊢;exact⟨h.1,KJ l cs h.2⟩
  | .bool::l,a::cs,h=>by
    simp only[Dh,az,gk]at h⊢;exact⟨h.1,KJ l cs h.2⟩
  | .raw::l,a::cs,h=>by
    simp only[Dh,az,gk]at h⊢;exact⟨h.1,KJ l cs h.2⟩
  | .sl ks::l,a::cs,h=>by
    simp only[az,gk]at h;have D:=KJ l cs h.2;cases a<;>simp only[Dh,az,gk]<;>first
      |exact⟨h.1,D⟩
      |exact⟨trivial,D⟩
theorem Zj2 {α:Type} {l:List α} {n:Nat} {v x:α} (h:x∈setL l n v):x∈l\/x=v:=by
  rw[Hh]at h;exact d8 h
theorem CL.setL {D:AC->Value->Prop}:∀{l:List AC} {xs:List Value} (n:Nat) {a:AC},CL D l xs->(∀x,xs[n]? =some x->D a x)->CL D (setL l n a) xs
  |[],[],_,_,h,_=>h
  |b::l,x::xs,0,a,h,E=>⟨E x rfl,h.2⟩
  |b::l,x::xs,n+1,a,h,E=>⟨h.1,CL.setL n h.2 λy G=>E y (by simpa using G)⟩
  |[],_::_,_,_,h,_=>h.elim
  |_::_,[],_,_,h,_=>h.elim
theorem RelE.promB (h:RelE Z tm aB aC ρ tmps w) {k o:Nat} {b:Box} (T:Ab aB k=some b) (O:nth .dead b.cells o= .nilSl) {id:Nat} (I:Ab aC id=none) {e:TypeId} {ks:List Kd} (U:0<ks.length):
    RelE Z tm (upd aB k ⟨b.ty,setL b.cells o (.own id ks.length 0)⟩) (ins aC id ⟨e,ks,[]⟩) {ρ with rv:=upN ρ.rv id (.slice none 0 0),wd:=upN ρ.wd id ks.length} tmps w:=by
  have E:=h.addRow (d:=id) I (r:=⟨e,ks,[]⟩) (v':= .slice none 0 0) (xs:=[]) (w':=w) (Below.refl _ _) U (Ud w e ks.length) ⟨by simp,by simp,λi c hi=>by simp at hi⟩ (λg V=>by simp[Value.ownBlock]at V);have J:=DI aC id (⟨e,ks,[]⟩:Row) I;generalize hρ:({ρ with rv:=upN ρ.rv id (.slice none 0 0),wd:=upN ρ.wd id ks.length}:Env)=ρ2 at E;have e1:ρ2.rv id= .slice none 0 0:=by rw[<-hρ];exact Bt _ _ _
  have e2:ρ2.wd id=ks.length:=by rw[<-hρ];exact Bt _ _ _
  have X := E.reBox (g := λj c => bif Nat.beq j k then ⟨c.ty, setL c.cells o (.own id ks.length 0)⟩ else c) (λj c => by cases Nat.beq j k <;> rfl) (by
    intro j c S;cases hb:Nat.beq j k
    · exact⟨λxs h=>h,E.wb j c S⟩
    · have:=ac hb;subst this
      rw[T]at S;simp at S;subst S;simp only[ai];refine⟨λxs hx=>hx.setL o λx Y=> ?_,λa ha=> ?_⟩
      · have G:o<b.cells.length:=by
          rcases iq o b.cells.length with G|a0
          · exact G
          · rw[B3,List.getD,db a0]at O;simp at O
        have V:b.cells[o]? =some .nilSl:=by
          rw[B3,List.getD,an G]at O;rw[an G];simpa using O
        obtain⟨y,hy,L⟩:=hx.get V;rw[Y]at hy;simp at hy;subst hy;simp only[CC,CP]at L;subst L;exact⟨e1.symm,e2, .inl ⟨rfl,rfl⟩⟩
      · rcases Zj2 ha with ha|rfl
        · exact E.wb j b T a ha
        · exact⟨_,J,rfl,rfl⟩)
  have M:∀(l:List (Nat×Box)) (b':Box),Ab l k=some b'->∀j,Ab (l.map λp=>(p.1,bif Nat.beq p.1 k then(⟨p.2.ty,setL p.2.cells o (.own id ks.length 0)⟩:Box)else p.2)) j=Ab (upd l k ⟨b'.ty,setL b'.cells o (.own id ks.length 0)⟩) j:=by
    intro l;induction l with
    |nil=>intro b' D;simp[Ab]at D
    |cons p l ih=>
      intro b' D j;obtain⟨q,c⟩:=p;simp only[Ab]at D;cases N:Nat.beq q k
      · rw[N]at D;simp only[ao]at D
        simp only[ba,upd,N,ao,Ab];rw[ih b' D j]
      · rw[N]at D;simp at D;subst D
        have:=ac N;subst this;simp only[ba,upd,N,ai,Ab];cases a1:Nat.beq q j
        · simp only[ao]
          have a2:=FP a1;have:∀m:List (Nat×Box),Ab (m.map λp=>(p.1,bif Nat.beq p.1 q then(⟨p.2.ty,setL p.2.cells o (.own id ks.length 0)⟩:Box)else p.2)) j=Ab m j:=by
            intro m;induction m with
            |nil=>rfl
            |cons p m a3=>
              obtain⟨q',c'⟩:=p;simp only[ba,Ab,a3];cases hb:Nat.beq q' j
              · rfl
              · have e:=ac hb;subst e
                rw[It (λe=>a2 e.symm)];rfl
          exact this l
        · rfl
  exact X.lookB (M aB b T) λ_=>rfl
end
open Go.RowKit
section
variable {P:Program} {C:Cfg} {ρ:Env} {w:World} {R:Type} {Z:Base} {tm:List TV} {aB:List (Nat×Box)} {aC:List (Nat×Row)} {tmps:Array Value}
theorem Qjq:∀{l:List (Nat×Nat)} {cs:List AC},HW l cs=true->cs=JD l
 |[],[],_=>rfl
 |(k,o)::l,a::cs,h=>by
  cases a<;>simp only[HW]at h<;>try (simp at h;done)
  simp only[al]at h;rw[ac h.1.1,ac h.1.2,Qjq h.2];rfl
 |[],_::_,h=>by simp[HW]at h
 |_::_,[],h=>by simp[HW]at h
structure Built (aC : List (Nat × Row)) (rl : Nat -> Nat) : Prop where
 rl:∀id r,Ab aC id=some r->rl id=r.l.length
def Seg (l:List AC) (i:Nat) (v:List AC):Prop:=∀j,j<v.length->nth .dead l (i+j)=nth .dead v j
theorem Seg.left {l:List AC} {i:Nat} {v u:List AC} (h:Seg l i (v++u)):Seg l i v:=λj D=>by
 rw[h j (by simp;omega),B3,B3,List.getD,List.getD,iy D]
theorem Seg.right {l:List AC} {i:Nat} {v u:List AC} (h:Seg l i (v++u)):Seg l (i+v.length) u:=λj D=>by
 rw[de,h (v.length+j) (by simp;omega),B3,B3,List.getD,List.getD,List.getElem?_append_right (by omega)];simp
theorem Seg.one {l:List AC} {i:Nat} {a:AC} (h:Seg l i [a]):nth .dead l i=a:=h 0 (by simp)
theorem Seg.all (l:List AC):Seg l 0 l:=λj _=>by rw[dl]
theorem Ztl {rl:Nat->Nat} (G:Built aC rl) {c:CS} {a:AC} {v:List AC} (h:Lr c a=some v) {l:List AC} {i:Nat} (E:Seg l i v):
  (El rl l c i).2=i+v.length/\∀x,AC.wf aB aC a->CC ρ w a x->CC ρ w (El rl l c i).1 x:=by
 cases c<;>cases a<;>simp only[Lr]at h<;>try (simp at h;done)
 case any.dead=>simp at h;subst h;exact⟨rfl,λx _ h=>h.one⟩
 case any.int=>simp at h;subst h;exact⟨rfl,λx _ h=>h.one⟩
 case any.bool=>simp at h;subst h;exact⟨rfl,λx _ h=>h.one⟩
 case any.raw=>simp at h;subst h;exact⟨rfl,λx _ h=>h.one⟩
 case any.nilSl=>simp at h;subst h;exact⟨rfl,λx _ h=>h.one⟩
 case any.ptr=>simp at h;subst h;exact⟨rfl,λx _ h=>h.one⟩
 case any.own=>simp at h;subst h;exact⟨rfl,λx _ h=>h.one⟩
 case any.vC=>simp at h;subst h;exact⟨rfl,λx _ h=>h.one⟩
 case any.rptr=>simp at h;subst h;exact⟨rfl,λx _ h=>h.one⟩
 case any.vptr=>simp at h;subst h;exact⟨rfl,λx _ h=>h.one⟩
 case any.clo=>simp at h;subst h;exact⟨rfl,λx _ h=>h.one⟩
 case any.bsl=>simp at h;subst h;exact⟨rfl,λx _ h=>h.one⟩
 case int.int k k' n=>
  cases D:kEq k k'<;>rw[D]at h
  ·simp at h
  ·simp at h;subst h;rw[<-M_ D];refine⟨rfl,λx _ h=> ?_⟩;simp only[El,E.one,Ah];exact h
 case bool.bool b=>
  simp at h;subst h;refine⟨rfl,λx _ h=> ?_⟩;simp only[El,E.one,CD];exact h
 case sl.nilSl ks=>
  simp at h;subst h;refine⟨rfl,λx _ h=> ?_⟩;simp only[CC,CP]at h;subst h;simp only[El,E.one,Bb];exact Q6 ks
 case sl.vC ks I l=>
  cases D:Cj ks I<;>rw[D]at h
  ·simp at h
  ·simp at h;subst h;rw[<-Hp D];refine⟨rfl,λx _ h=> ?_⟩;simp only[El,E.one,Bb];exact h
 case rawc.raw v=>
  simp at h;subst h;refine⟨rfl,λx _ h=> ?_⟩;simp only[El,E.one];exact h
 case str.raw v=>
  cases v<;>try (simp[Lr]at h;done)
  simp at h;subst h;refine⟨rfl,λx _ h=> ?_⟩;simp only[El,E.one,Q0t];exact h
 case nil.nilSl=>simp at h;subst h;exact⟨rfl,λx _ h=>h⟩
 case nilp.raw v=>
  cases v<;>try (simp[Lr]at h;done)
  rename_i q;cases q<;>simp[Lr]at h
  subst h;exact⟨rfl,λx _ h=>h⟩
 case ptr.ptr k o k' J=>
  cases D:(Nat.beq k k'&&Nat.beq o J)<;>rw[D]at h
  ·simp at h
  ·simp at h;subst h;simp only[al]at D;rw[<-ac D.1,<-ac D.2];exact⟨rfl,λx _ h=>h⟩
 case bsl.bsl k o k' J=>
  cases D:(Nat.beq k k'&&Nat.beq o J)<;>rw[D]at h
  ·simp at h
  ·simp at h;subst h;simp only[al]at D;rw[<-ac D.1,<-ac D.2];exact⟨rfl,λx _ h=>h⟩
 case own.own id wd id' L n=>
  cases D:(Nat.beq id id'&&Nat.beq wd L)<;>rw[D]at h
  ·simp at h
  ·simp at h;subst h;simp only[al]at D;rw[<-ac D.1,<-ac D.2];refine⟨rfl,λx O h=> ?_⟩;obtain⟨r,S,T,V⟩:=O;show CC ρ w (.own id wd (rl id)) x;rw[G.rl id r S];have:r.l.length=n:=T;rw[this];exact h
 case clo.clo f fs cs U M N=>
  cases D:(Nat.beq f U&&HW fs M&&HW cs N)<;>rw[D]at h
  ·simp at h
  ·simp at h;subst h;simp only[al]at D;rw[<-ac D.1.1,Qjq D.1.2,Qjq D.2];exact⟨rfl,λx _ h=>h⟩
theorem QE {rl:Nat->Nat} (D:Built aC rl) {l:List AC}:∀{cs:List CS} {as:List AC} {v:List AC},Hy cs as=some v->∀{i},Seg l i v->
  (DS rl l cs i).2=i+v.length/\(DS rl l cs i).1.length=as.length/\∀xs,(∀a∈as,AC.wf aB aC a)->CL (CC ρ w) as xs->CL (CC ρ w) (DS rl l cs i).1 xs
 |[],[],v,h,i,_=>by simp[Hy]at h;subst h;exact⟨rfl,rfl,λxs _ h=>h⟩
 |c::cs,a::as,v,h,i,J=>by
  simp only[Hy]at h;split at h
  ·rename_i U M;split at h
   ·rename_i V N;simp at h;subst h;obtain⟨E,G⟩:=Ztl (ρ:=ρ) (w:=w) (aB:=aB) D M J.left;obtain⟨O,S,T⟩:=QE D N J.right;simp only[DS];generalize hb:El rl l c i=q at E G;obtain⟨b,X⟩:=q;simp only at E G;subst E;refine⟨by simp only[O,am];omega,by simp[S],λxs L I=> ?_⟩;cases xs with
    |nil=>exact I.elim
    |cons x xs=>exact⟨G x (L a (by simp)) I.1,T xs (λb hb=>L b (by simp[hb])) I.2⟩
   ·simp at h
  ·simp at h
 |[],_::_,v,h,_,_=>by simp[Hy]at h
 |_::_,[],v,h,_,_=>by simp[Hy]at h
theorem Qup {rl:Nat->Nat} (E:Built aC rl) {l:List AC}:∀{ps:List (Bool×List CS)} {I:List (Bool×List AC)} {v:List AC},JK ps I=some v->∀{i},Seg l i v->
  (F7 rl l ps i).2=i+v.length/\∀xs,(∀p∈I,∀a∈p.2,AC.wf aB aC a)->TP ρ w I xs->TP ρ w (F7 rl l ps i).1 xs
 |[],[],v,h,i,_=>by simp[JK]at h;subst h;exact⟨rfl,λxs _ h=>h⟩
 |(g,cs)::ps,(S,as)::I,v,h,i,T=>by
  simp only[JK]at h;cases U:(g==S)<;>rw[U]at h
  ·simp at h
  ·simp only[ai]at h;have M:g=S:=by simpa using U
   subst M;split at h
   ·rename_i v1 X;split at h
    ·rename_i v2 Y;simp at h;subst h;obtain⟨N,J,L⟩:=QE (ρ:=ρ) (w:=w) (aB:=aB) E X T.left;obtain⟨p1,p2⟩:=Qup E Y T.right;simp only[F7];generalize hb:DS rl l cs i=q at N L J;obtain⟨b,i'⟩:=q;simp only at N L J;subst N;refine⟨by simp only[p1,am];omega,λxs V O=> ?_⟩;cases xs with
     |nil=>exact O.elim
     |cons x xs=>
      refine⟨?_,p2 xs (λp hp=>V p (by simp[hp])) O.2⟩;have G:=O.1;have D:=V (g,as) (by simp);cases g
      ·obtain⟨a,e1,e2⟩:=G;dsimp only at e1 D;subst e1;have:=L [x] D ⟨e2,trivial⟩;cases b with
       |nil=>simp at J
       |cons c b=>
        cases b with
        |nil=>exact⟨c,rfl,this.1⟩
        |cons=>simp at J
      ·obtain⟨ys,e1,e2⟩:=G;exact⟨ys,e1,L _ D e2⟩
    ·simp at h
   ·simp at h
 |[],_::_,v,h,_,_=>by simp[JK]at h
 |(_,_)::_,[],v,h,_,_=>by simp[JK]at h
theorem Zp6 {rl:Nat->Nat} (G:Built aC rl) {t:TS} {u:TV} {v:List AC} (h:H4 t u=some v) {l:List AC} {i:Nat} (N:Seg l i v):
  (Gn rl l t i).2=i+v.length/\∀x,TV.wf aB aC u->TVR ρ w u x->TVR ρ w (Gn rl l t i).1 x:=by
 cases t with
 |dead=>simp[H4]at h;subst h;exact⟨rfl,λ_ _ _=>trivial⟩
 |v g cs=>
  cases u with
  |dead=>simp[H4]at h
  |tup=>simp[H4]at h
  |v O as=>
   simp only[H4]at h;cases S:(g==O)<;>rw[S]at h
   ·simp at h
   ·simp only[ai]at h;have L:g=O:=by simpa using S
    subst L;obtain⟨E,I,D⟩:=QE (ρ:=ρ) (w:=w) (aB:=aB) G h N;simp only[Gn];generalize hb:DS rl l cs i=q at E D I;obtain⟨b,U⟩:=q;simp only at E D I;refine⟨E,λx J T=> ?_⟩;cases g
    ·obtain⟨a,rfl,e2⟩:=T;have:=D [x] J ⟨e2,trivial⟩;cases b with
     |nil=>simp at I
     |cons c b=>
      cases b with
      |nil=>exact⟨c,rfl,this.1⟩
      |cons=>simp at I
    ·obtain⟨M,rfl,e2⟩:=T;exact⟨M,rfl,D _ J e2⟩
 |tup ps=>
  cases u with
  |dead=>simp[H4]at h
  |v=>simp[H4]at h
  |tup V=>
   simp only[H4]at h;obtain⟨E,D⟩:=Qup (ρ:=ρ) (w:=w) (aB:=aB) G h N;simp only[Gn];generalize hb:F7 rl l ps i=q at E D;obtain⟨b,U⟩:=q;simp only at E D;exact⟨E,λx J ⟨M,e1,e2⟩=>⟨M,e1,D _ J e2⟩⟩
theorem Qx5 {rl:Nat->Nat} (D:Built aC rl) {l:List AC}:∀{E:List TS} {G:List TV} {v:List AC},IE E G=some v->∀{i},Seg l i v->
  (EN rl l E i).2=i+v.length/\(EN rl l E i).1.length=G.length/\∀(n:Nat) (b:TV),(EN rl l E i).1[n]? =some b->∃u,G[n]? =some u/\∀x,TV.wf aB aC u->TVR ρ w u x->TVR ρ w b x
 |[],[],v,h,i,_=>by simp[IE]at h;subst h;exact⟨rfl,rfl,λi b h=>by simp[EN]at h⟩
 |t::E,u::G,v,h,i,M=>by
  simp only[IE]at h;split at h
  ·rename_i X N;split at h
   ·rename_i Y O;simp at h;subst h;obtain⟨I,J⟩:=Zp6 (ρ:=ρ) (w:=w) (aB:=aB) D N M.left;obtain⟨S,T,U⟩:=Qx5 D O M.right;simp only[EN];generalize hb:Gn rl l t i=q at I J;obtain⟨b,i'⟩:=q;simp only at I J;subst I;refine⟨by simp only[S,am];omega,by simp[T],λn c L=> ?_⟩;cases n with
    |zero=>simp at L;subst L;exact⟨u,rfl,J⟩
    |succ n=>obtain⟨V,e1,e2⟩:=U n c (by simpa using L);exact⟨V,by simpa using e1,e2⟩
   ·simp at h
  ·simp at h
 |[],_::_,v,h,_,_=>by simp[IE]at h
 |_::_,[],v,h,_,_=>by simp[IE]at h
theorem Qtw {rl:Nat->Nat} (G:Built aC rl) {l:List AC}:∀{bs:List (Nat×TypeId×List CS)} {v:List AC},Nv bs aB=some v->∀{i},Seg l i v->
  ∀k b,Ab (E1 rl l bs i) k=some b->k∈bs.map (·.1)/\∃E,Ab aB k=some E/\b.ty=E.ty/\∀xs,(∀a∈E.cells,AC.wf aB aC a)->CL (CC ρ w) E.cells xs->CL (CC ρ w) b.cells xs
 |[],v,h,i,_,k,b,D=>by simp[E1,Ab]at D
 |(j,t,cs)::bs,v,h,i,N,k,b,D=>by
  simp only[Nv]at h;split at h
  ·rename_i E J;cases O:Nat.beq t E.ty<;>rw[O]at h
   ·simp at h
   ·simp only[ai]at h;split at h
    ·rename_i Y U;split at h
     ·rename_i v2 V;simp at h;subst h;obtain⟨L,S,M⟩:=QE (ρ:=ρ) (w:=w) (aB:=aB) G U N.left;simp only[E1]at D;generalize hb:DS rl l cs i=q at L M S D;obtain⟨c,i'⟩:=q;simp only at L M S D;subst L;simp only[Ab]at D;cases I:Nat.beq j k<;>rw[I]at D
      ·obtain⟨T,X⟩:=Qtw G V N.right k b D;exact⟨by simp at T⊢;exact .inr T,X⟩
      ·have:=ac I;subst this;simp at D;subst D;exact⟨by simp,E,J,ac O,M⟩
     ·simp at h
    ·simp at h
  ·simp at h
theorem Qkj {l:List AC}:∀{rs:List (Nat×TypeId×List Kd)} {v:List AC},L9 rs aC=some v->∀{i},Seg l i v->
  (HK l rs i).2=i+v.length/\(∀id r,Ab (HK l rs i).1 id=some r->Ab aC id=some r)/\∀id t ks,Ab rs id=some (t,ks)->∃r,Ab (HK l rs i).1 id=some r/\r.ks=ks
 |[],v,h,i,_=>by simp[L9]at h;subst h;exact⟨rfl,λid r h=>by simp[HK,Ab]at h,λid t ks h=>by simp[Ab]at h⟩
 |(k,t,ks)::rs,v,h,i,O=>by
  simp only[L9]at h;split at h
  ·rename_i r S;cases hb:(Nat.beq t r.ty&&Cj ks r.ks)<;>rw[hb]at h
   ·simp at h
   ·simp only[ai]at h;simp only[al]at hb;split at h
    ·rename_i T I;simp at h;subst h;have E:Seg l i ([.vC ks r.l]++T):=O;obtain⟨J,L,M⟩:=Qkj I (i:=i+1) E.right;simp only[HK,E.left.one,Bb];generalize V:HK l rs (i+1)=q at J L M;obtain⟨B,X⟩:=q;simp only at J L M;refine⟨by simp only[J,bf];omega,λid r' D=> ?_,λid U N D=> ?_⟩
     ·simp only[Ab]at D;cases G:Nat.beq k id<;>rw[G]at D
      ·exact L id r' D
      ·have:=ac G;subst this;simp at D;subst D;rw[S,ac hb.1,Hp hb.2]
     ·simp only[Ab]at D⊢;cases G:Nat.beq k id<;>rw[G]at D
      ·simp only[ao]at D⊢;exact M id U N D
      ·simp at D;obtain⟨_,rfl⟩:=D;exact⟨_,rfl,rfl⟩
    ·simp at h
  ·simp at h
section names
variable {keys:List Nat} {rs:List (Nat×TypeId×List Kd)} {B':List (Nat×Box)} {R':List (Nat×Row)} {rl:Nat->Nat}
theorem ZZ (E:∀k∈keys,∃b,Ab B' k=some b):∀(l:List (Nat×Nat)),Ai (λp:Nat×Nat=>AI keys p.1) l=true->∀a∈JD l,AC.wfP B' a
 |[],_,a,D=>by simp[JD]at D
 |(k,o)::l,h,a,D=>by
  have G:=As.1 h;simp only[JD,az]at D;rcases D with rfl|D
  ·exact E k (Eb.1 (G (k,o) (by simp)))
  ·exact ZZ E l (As.2 λp I=>G p (by simp[I])) a D
theorem Zc1 (E:∀k∈keys,∃b,Ab B' k=some b) (G:∀id t ks,Ab rs id=some (t,ks)->∃r,Ab R' id=some r/\r.ks=ks/\rl id=r.l.length) {c:CS} (D:c.okB keys rs=true) (l:List AC) (i:Nat):AC.wf B' R' (El rl l c i).1:=by
 cases c<;>simp only[El]<;>try trivial
 case rawc=>simp only[JX];split<;>trivial
 case ptr k o=>exact E k (Eb.1 D)
 case bsl k o=>exact E k (Eb.1 D)
 case own id wd=>
  simp only[CS.okB]at D;split at D
  ·rename_i t ks I;obtain⟨r,J,L,M⟩:=G id t ks I;refine⟨r,J,M.symm,?_⟩;show r.ks.length=wd;rw[L];exact ac D
  ·simp at D
 case clo f fs cs=>
  simp only[CS.okB,al]at D;exact⟨ZZ E fs D.1,ZZ E cs D.2⟩
theorem PB (E:∀k∈keys,∃b,Ab B' k=some b) (G:∀id t ks,Ab rs id=some (t,ks)->∃r,Ab R' id=some r/\r.ks=ks/\rl id=r.l.length):∀{cs:List CS},Ai (CS.okB keys rs) cs=true->∀(l:List AC) (i:Nat),∀a∈(DS rl l cs i).1,AC.wf B' R' a
 |[],_,l,i,a,D=>by simp[DS]at D
 |c::cs,h,l,i,a,D=>by
  have I:=As.1 h;simp only[DS,az]at D;rcases D with rfl|D
  ·exact Zc1 E G (I c (by simp)) l i
  ·exact PB E G (As.2 λc J=>I c (by simp[J])) l _ a D
theorem Qr1 (E:∀k∈keys,∃b,Ab B' k=some b) (G:∀id t ks,Ab rs id=some (t,ks)->∃r,Ab R' id=some r/\r.ks=ks/\rl id=r.l.length):∀{ps:List (Bool×List CS)},Ai (λp:Bool×List CS=>Ai (CS.okB keys rs) p.2) ps=true->∀(l:List AC) (i:Nat),∀p∈(F7 rl l ps i).1,∀a∈p.2,AC.wf B' R' a
 |[],_,l,i,p,D=>by simp[F7]at D
 |(g,cs)::ps,h,l,i,p,D=>by
  have I:=As.1 h;simp only[F7,az]at D;rcases D with rfl|D
  ·exact PB E G (I (g,cs) (by simp)) l i
  ·exact Qr1 E G (As.2 λc J=>I c (by simp[J])) l _ p D
theorem Zcx (D:∀k∈keys,∃b,Ab B' k=some b) (E:∀id t ks,Ab rs id=some (t,ks)->∃r,Ab R' id=some r/\r.ks=ks/\rl id=r.l.length) {t:TS} (G:t.okB keys rs=true) (l:List AC) (i:Nat):TV.wf B' R' (Gn rl l t i).1:=by
 cases t with
 |dead=>trivial
 |v g cs=>exact PB D E G l i
 |tup ps=>exact Qr1 D E G l i
theorem Qwe (G:∀k∈keys,∃b,Ab B' k=some b) (I:∀id t ks,Ab rs id=some (t,ks)->∃r,Ab R' id=some r/\r.ks=ks/\rl id=r.l.length):∀{E:List TS},Ai (TS.okB keys rs) E=true->∀(l:List AC) (i:Nat),∀v∈(EN rl l E i).1,TV.wf B' R' v
 |[],_,l,i,v,D=>by simp[EN]at D
 |t::E,h,l,i,v,D=>by
  have J:=As.1 h;simp only[EN,az]at D;rcases D with rfl|D
  ·exact Zcx G I (J t (by simp)) l i
  ·exact Qwe G I (As.2 λc L=>J c (by simp[L])) l _ v D
theorem Qzw (D:∀k∈keys,∃b,Ab B' k=some b) (E:∀id t ks,Ab rs id=some (t,ks)->∃r,Ab R' id=some r/\r.ks=ks/\rl id=r.l.length):∀{bs:List (Nat×TypeId×List CS)},Ai (λp:Nat×TypeId×List CS=>Ai (CS.okB keys rs) p.2.2) bs=true->∀(l:List AC) (i k:Nat) (b:Box),Ab (E1 rl l bs i) k=some b->∀a∈b.cells,AC.wf B' R' a
 |[],_,l,i,k,b,hb=>by simp[E1,Ab]at hb
 |(j,t,cs)::bs,h,l,i,k,b,hb=>by
  have G:=As.1 h;simp only[E1,Ab]at hb;cases I:Nat.beq j k<;>rw[I]at hb
  ·exact Qzw D E (As.2 λc J=>G c (by simp[J])) l _ k b hb
  ·simp at hb;subst hb;exact PB D E (G (j,t,cs) (by simp)) l i
end names
theorem Qs2 {rl:Nat->Nat} (l:List AC):∀(bs:List (Nat×TypeId×List CS)) (i k:Nat),k∈bs.map (·.1)->∃b,Ab (E1 rl l bs i) k=some b
 |[],_,k,h=>by simp at h
 |(j,t,cs)::bs,i,k,h=>by
  simp only[E1,Ab];cases D:Nat.beq j k
  ·have:k∈bs.map (·.1):=by
    simp only[ba,az]at h;exact h.resolve_left λe=>FP D e.symm
   exact Qs2 l bs _ k this
  ·exact⟨_,rfl⟩
theorem RelE.rebuild {sk:Sk} {vars:List AC} (h:RelE Z tm aB aC ρ tmps w) (hZ:∀k b,Z.K0 k=some b->CR k=true) (V:sk.okB=true) (J:Fl sk ⟨tm,aB,aC⟩=some vars):
  RelE Z (Ce sk vars).tmps (Ce sk vars).aB (Ce sk vars).aC ρ tmps w:=by
 simp only[Fl]at J;obtain ⟨a6, J⟩ : Ai (λp : Nat × Box => !(CR p.1) || AI (sk.aB.map (·.1)) p.1) aB = true /\ (match L9 sk.aC aC with
  |some a=>match IE sk.tmps tm with
   |some b=>match Nv sk.aB aB with
    |some c=>some (a++(b++c))
    |none=>none
   |none=>none
  |none=>none)=some vars:=by
  revert J
  generalize Ai (λp:Nat×Box=> !(CR p.1)||AI (sk.aB.map (·.1)) p.1) aB=q;intro J;cases q
  ·simp at J
  ·exact⟨rfl,J⟩
 split at J
 ·rename_i S a7;split at J
  ·rename_i vb a8;split at J
   ·rename_i vc a9;simp at J;subst J;have T:=Seg.all (S++(vb++vc));generalize L:S++(vb++vc)=l at T⊢;rw[<-L]at T;have b1:Seg l 0 S:=by rw[<-L];exact(Seg.all _).left
    have b2:Seg l (0+S.length) vb:=by rw[<-L];exact(Seg.all _).right.left
    have b3:Seg l (0+S.length+vb.length) vc:=by rw[<-L];exact(Seg.all _).right.right
    obtain⟨r1,U,r3⟩:=Qkj a7 b1;simp only[Ce];generalize hR:HK l sk.aC 0=qr at r1 U r3;obtain⟨R',ir⟩:=qr;simp only at r1 U r3⊢;subst r1;have c0:sk.okB=true:=V;simp only[Sk.okB,al]at V;obtain⟨⟨⟨c1,c2⟩,a2⟩,a3⟩:=V
    have a4:∀id r,Ab R' id=some r->Ek R' id=r.l.length:=λid r L=>by simp only[Ek,L]
    have G:∀k∈sk.aB.map (·.1),∃b,Ab (E1 (Ek R') l sk.aB (0+S.length+vb.length)) k=some b:=λk M=>Qs2 l sk.aB _ k M;have X:∀id t ks,Ab sk.aC id=some (t,ks)->∃r,Ab R' id=some r/\r.ks=ks/\Ek R' id=r.l.length:=λid t ks L=>by
     obtain⟨r,I,Y⟩:=r3 id t ks L;exact⟨r,I,Y,a4 id r I⟩
    let D:Nat->Nat:=λid=>match Ab aC id with
     |some r=>r.l.length
     |none=>0
    have a5:Built aC D:=⟨λid r L=>by simp only[D,L]⟩;have a0:∀id t ks,Ab sk.aC id=some (t,ks)->D id=Ek R' id:=λid t ks L=>by
     obtain⟨r,I,_,q3⟩:=X id t ks L;simp only[D,U id r I,q3]
    have eC:∀(c:CS) (i:Nat),c.okB (sk.aB.map (·.1)) sk.aC=true->El D l c i=El (Ek R') l c i:=by
     intro c i E;cases c<;>try rfl
     rename_i id wd;simp only[CS.okB]at E;split at E
     ·rename_i t ks L;simp only[El,a0 id t ks L]
     ·simp at E
    have a1:∀(cs:List CS) (i:Nat),Ai (CS.okB (sk.aB.map (·.1)) sk.aC) cs=true->DS D l cs i=DS (Ek R') l cs i:=by
     intro cs;induction cs with
     |nil=>intro i _;rfl
     |cons c cs ih=>
      intro i E;have N:=As.1 E;simp only[DS];rw[eC c i (N c (by simp))];rw[ih _ (As.2 λc E=>N c (by simp[E]))]
    have b4:∀(ps:List (Bool×List CS)) (i:Nat),Ai (λp:Bool×List CS=>Ai (CS.okB (sk.aB.map (·.1)) sk.aC) p.2) ps=true->F7 D l ps i=F7 (Ek R') l ps i:=by
     intro ps;induction ps with
     |nil=>intro i _;rfl
     |cons p ps ih=>
      intro i E;obtain⟨g,cs⟩:=p;have N:=As.1 E;simp only[F7];rw[a1 cs i (N (g,cs) (by simp))];rw[ih _ (As.2 λc E=>N c (by simp[E]))]
    have eT:∀(t:TS) (i:Nat),t.okB (sk.aB.map (·.1)) sk.aC=true->Gn D l t i=Gn (Ek R') l t i:=by
     intro t i ht;cases t with
     |dead=>rfl
     |v g cs=>simp only[Gn];rw[a1 cs i ht]
     |tup ps=>simp only[Gn];rw[b4 ps i ht]
    have b5:∀(ts:List TS) (i:Nat),Ai (TS.okB (sk.aB.map (·.1)) sk.aC) ts=true->EN D l ts i=EN (Ek R') l ts i:=by
     intro ts;induction ts with
     |nil=>intro i _;rfl
     |cons c cs ih=>
      intro i E;have N:=As.1 E;simp only[EN];rw[eT c i (N c (by simp))];rw[ih _ (As.2 λc E=>N c (by simp[E]))]
    have b6:∀(bs:List (Nat×TypeId×List CS)) (i:Nat),Ai (λp:Nat×TypeId×List CS=>Ai (CS.okB (sk.aB.map (·.1)) sk.aC) p.2.2) bs=true->E1 D l bs i=E1 (Ek R') l bs i:=by
     intro bs;induction bs with
     |nil=>intro i _;rfl
     |cons p bs ih=>
      intro i E;obtain⟨k,t,cs⟩:=p;have N:=As.1 E;simp only[E1];rw[a1 cs i (N (k,t,cs) (by simp))];rw[ih _ (As.2 λc E=>N c (by simp[E]))]
    have hT:=Qx5 (ρ:=ρ) (w:=w) (aB:=aB) a5 a8 b2;rw[b5 sk.tmps _ a2]at hT;obtain⟨t1,t2,t3⟩:=hT;have tw:=Qwe (rl:=Ek R') G X a2 l (0+S.length);generalize c3:EN (Ek R') l sk.tmps (0+S.length)=qt at t1 t2 t3 tw;obtain⟨T',it⟩:=qt;simp only at t1 t2 t3 tw⊢;subst t1;have hB:=Qtw (ρ:=ρ) (w:=w) a5 a9 b3;rw[b6 sk.aB _ a3]at hB;refine⟨by rw[t2];exact h.tl,λi v O=> ?_,tw,Qzw G X a3 l _,λk b M=> ?_,λk k' b b' M b7 he=> ?_,λid r O=>h.ro id r (U id r O),λid id' r r' g O b8=>h.ri id id' r r' g (U id r O) (U id' r' b8),λk b id r M O=> ?_,λb hb=> ?_,h.fr,h.fs,h.i0,h.i1,λk b M=> ?_⟩
    ·obtain⟨u,hu,hx⟩:=t3 i v O;exact hx _ (h.wt u (bq hu)) (h.tv i u hu)
    ·obtain⟨_,b0,I,Y,q3⟩:=hB k b M;obtain⟨arr,p1,p2,p3⟩:=h.bx k b0 I;exact⟨arr,by rw[Y];exact p1,q3 _ (h.wb k b0 I) p2,p3⟩
    ·obtain⟨_,b0,I,_⟩:=hB k b M;obtain⟨_,c4,b9,_⟩:=hB k' b' b7;exact h.bi k k' _ _ I b9 he
    ·obtain⟨_,b0,I,_⟩:=hB k b M;exact h.br k b0 id r I (U id r O)
    ·obtain⟨I,Y,q3⟩:=h.ib b hb;exact⟨I,λk bo M=>by obtain⟨_,b0,p1,_⟩:=hB k bo M;exact Y k b0 p1,λid r O=>q3 id r (U id r O)⟩
    ·obtain⟨I,bo,Y⟩:=h.k0 k b M;refine⟨I,G k ?_⟩;have:=As.1 a6 (k,bo) (LT Y);simp only[hZ k b M,i9,Bool.false_or]at this;exact Eb.1 this
   ·simp at J
  ·simp at J
 ·simp at J
end
open Go.RowKit
section
variable {P:Program} {C:Cfg} {ρ:Env} {w:World} {R:Type} {Z:Base} {tm:List TV} {aB:List (Nat×Box)} {aC:List (Nat×Row)} {tmps:Array Value}
theorem Fq {α:Type}:∀(l:List α) (o:Nat) (D:List α),o+D.length<=l.length->splice l o D=l.take o++D++l.drop (o+D.length)
 |l,o,[],h=>by simp[OZ]
 |[],o,_::_,h=>by simp at h
 |x::l,0,v::D,h=>by
  simp only[splice,List.take_zero,ay,aq];rw[Fq l 0 D (by simp at h⊢;omega)];simp
 |x::l,o+1,v::D,h=>by
  simp only[splice];rw[Fq l o (v::D) (by simp at h⊢;omega)];simp only[List.take_succ_cons,aq,bf];rw[show o+1+(D.length+1)=(o+(D.length+1))+1 from by omega,List.drop_succ_cons]
theorem Qpr {t:TypeId} {x:Value} {b off:Nat} {cur:Array Value} {ty:TypeId} (G:szT P t=some x.cells.toList.length) (hb:w.heap[b]? =some (.cells cur ty (0,0)))
  (E:off+x.cells.toList.length<=cur.size) (I:∀v∈x.cells.toList,v.oneCell'=true):
  (storeVar t ⟨b,off,none⟩ x).run P w= .ok () (w.setRow b (splice cur.toList off x.cells.toList).toArray):=by
 have:=run_storeCells_at P b off ty x.cells.toList 0 cur w hb (by simpa using E) I;simp only[Nat.add_zero]at this;have D:=Dm G w;simp only[storeVar,Sem.run_bind,D,cd];rw[Fq _ _ _ (by simpa using E)];rw[ab (by simp)];exact this
theorem Zou {α:Type} (xs D:List α) (i wd sub n:Nat) (I:i<n) (M:xs.length=n*wd) (J:sub+D.length<=wd):
  cut (splice xs (i*wd+sub) D) (i*wd) wd=splice (cut xs (i*wd) wd) sub D:=by
 have hle:i*wd+wd<=n*wd:=by
  calc i*wd+wd=(i+1)*wd:=by rw[cy,fm]
   _<=n*wd:=be _ I
 have E:(cut xs (i*wd) wd).length=wd:=by simp[cut];omega
 rw[Fq _ _ _ (by omega),Fq _ _ _ (by rw[E];exact J)];apply f5;intro j;simp only[cut,ep,dv,ft,fq,am,dk];by_cases G:j<wd
 ·rw[aa G];by_cases L:j<sub
  ·rw[aa,aa,aa,aa,aa,aa L,aa G]
  ·by_cases N:j<sub+D.length
   ·rw[aa,ab,aa,ab];congr 1;omega
   ·rw[ab,ab,aa];congr 1;omega
 ·rw[ab G,ab];rw[ab]
theorem Q85 {α:Type} (xs I:List α) (i j wd sub n:Nat) (J:i<n) (G:j≠i) (L:xs.length=n*wd) (M:sub+I.length<=wd):
  cut (splice xs (i*wd+sub) I) (j*wd) wd=cut xs (j*wd) wd:=by
 have hle:i*wd+wd<=n*wd:=by
  calc i*wd+wd=(i+1)*wd:=by rw[cy,fm]
   _<=n*wd:=be _ J
 rw[Fq _ _ _ (by omega)];have D:j*wd+wd<=i*wd\/i*wd+wd<=j*wd:=by
  rcases Nat.lt_or_gt_of_ne G with h|h
  ·left
   calc j*wd+wd=(j+1)*wd:=by rw[cy,fm]
    _<=i*wd:=be _ h
  ·right
   calc i*wd+wd=(i+1)*wd:=by rw[cy,fm]
    _<=j*wd:=be _ h
 apply f5;intro k;simp only[cut,ep,dv,ft,fq,am];by_cases E:k<wd
 ·rw[aa E,aa E];rcases D with h|h
  ·rw[aa,aa,aa]
  ·rw[ab];congr 1;omega
 ·rw[ab E,ab E]
theorem Zun {o:Oper} {a:Act} {f:FuncId} {xs:List Value} {next:Act->World->Prop} {Q:Exit->Act->World->Prop} (D:Ob P f) (he:execOp a.eval o=callFunc f xs.toArray)
  (h:Calls P f xs.toArray w λe w'=>∃x,e= .returned x/\next (a.put o.dst x) w'):o.wp P a w next Q:=by
 obtain⟨L,E,G,I⟩:=D;unfold Oper.wp;have:(execOp a.eval o).run P w= .ok (.enter f xs.toArray) w:=by
  rw[he];simp only[callFunc,Sem.run_bind,run_program,cd,E];rw[ab (by rw[G];simp),ab (by rw[I];simp)];rfl
 rw[this,Oper.upon_enter];refine h.mono λe w' ⟨x,he,J⟩=> ?_;subst he;exact J
theorem OJ {o:Oper} {a:Act} {f:FuncId} {xs:List Value} {next:Act->World->Prop} {Q:Exit->Act->World->Prop} (he:execOp a.eval o=callFunc f xs.toArray)
  (h:CallsX P f xs.toArray w λe w'=>∃x,e= .returned x/\next (a.put o.dst x) w'):o.wp P a w next Q:=by
 rcases h with⟨E,D⟩|⟨x,w',E,y,D,G⟩
 ·exact Zun E he D
 ·simp only[Ending.returned.injEq]at D;subst D;unfold Oper.wp;rw[he,E];exact G
theorem Gx {o:Oper} {a:Act} {x:Value} {w':World} {next:Act->World->Prop} {Q:Exit->Act->World->Prop} (he:(execOp a.eval o).run P w= .ok (.value x) w') (h:next (a.put o.dst x) w'):o.wp P a w next Q:=by
 unfold Oper.wp;rw[he];exact h
theorem Q0o {o:Oper} {a:Act} {w':World} {next:Act->World->Prop} {Q:Exit->Act->World->Prop} (he:(execOp a.eval o).run P w= .ok .skip w') (h:next (a.put o.dst undef) w'):o.wp P a w next Q:=by
 unfold Oper.wp;rw[he];exact h
theorem CL.one {l:List AC} {xs:List Value} (h:CL (CC ρ w) l xs):∀v∈xs,v.oneCell'=true:=by
 induction l generalizing xs with
 |nil=>cases xs<;>first|(intro v D;simp at D;done)|exact h.elim
 |cons a l E=>
  cases xs with
  |nil=>exact h.elim
  |cons y xs=>
   intro v D;simp only[az]at D;rcases D with rfl|D
   ·exact h.1.one
   ·exact E h.2 v D
theorem CL.oneP {im:Nat->Prop} {l:List AC} {xs:List Value} (h:CL (CP im w) l xs):∀v∈xs,v.oneCell'=true:=by
 induction l generalizing xs with
 |nil=>cases xs<;>first|(intro v D;simp at D;done)|exact h.elim
 |cons a l E=>
  cases xs with
  |nil=>exact h.elim
  |cons y xs=>
   intro v D;simp only[az]at D;rcases D with rfl|D
   ·exact h.1.one
   ·exact E h.2 v D
theorem RowC.one {im:Nat->Prop} {ks:List Kd} {l:List (List AC)} {xs:List Value} (h:RowC im w ks l xs) (D:0<ks.length):∀v∈xs,v.oneCell'=true:=by
 intro v I;obtain⟨j,E,rfl⟩:=List.getElem_of_mem I;have G:j/ks.length<l.length:=by rw[ed D];rw[h.1]at E;exact E
 have J:j%ks.length<ks.length:=fv _ D;refine(h.2.2 (j/ks.length) _ (an G)).oneP _ ?_;have:(cut xs (j/ks.length*ks.length) ks.length)[j%ks.length]? =some xs[j]:=by
  simp only[cut,ep,J,dc,dv];rw[show j/ks.length*ks.length+j%ks.length=j from by rw[cg];exact em j ks.length];exact an E
 exact bq this
theorem RowC.append {im:Nat->Prop} {ks:List Kd} {l m:List (List AC)} {xs D:List Value} (h:RowC im w ks l xs) (h':RowC im w ks m D):
  RowC im w ks (l++m) (xs++D):=by
 refine⟨by rw[am,h.1,h'.1,am,cy],λc E=> ?_,λi c I=> ?_⟩
 ·rcases co.1 E with E|E
  ·exact h.2.1 c E
  ·exact h'.2.1 c E
 ·by_cases G:i<l.length
  ·rw[iy G]at I;have hle:i*ks.length+ks.length<=l.length*ks.length:=by
    calc i*ks.length+ks.length=(i+1)*ks.length:=by rw[cy,fm]
     _<=l.length*ks.length:=be _ G
   have:cut (xs++D) (i*ks.length) ks.length=cut xs (i*ks.length) ks.length:=by
    have:=h.1;simp only[cut];rw[ia (by omega),List.take_append_of_le_length (by rw[dk];omega)]
   rw[this];exact h.2.2 i c I
  ·rw[List.getElem?_append_right (by omega)]at I;have:cut (xs++D) (i*ks.length) ks.length=cut D ((i-l.length)*ks.length) ks.length:=by
    have J:=h.1;simp only[cut];rw[List.drop_append,jb (by rw[J];exact be _ (by omega)),ay,J,<-Nat.sub_mul]
   rw[this];exact h'.2.2 (i-l.length) c I
theorem Zn8 {t ty e:TypeId} {i:TypeInfo} (L:P.underlying t=some (.slice e)) (M:P.info? e=some i)
  {b off sLen sCap:Nat} {cur:Array Value} {J:TypeId} (hb:w.heap[b]? =some (.cells cur J (0,0))) {a:Addr} {m c:Nat} {news:List Value} (N:news.length=m*i.size) (D:∀j u,news[j]? =some u->w.cell? (a.add j)=some u) (O:∀u∈news,u.oneCell'=true)
  (E:sLen+m<=sCap) (hle:off+sLen*i.size+news.length<=cur.size):
  (Builtin.append_ #[t,t] ty #[.slice (some ⟨b,off,none⟩) sLen sCap, .slice (some a) m c]).run P w= .ok (.slice (some ⟨b,off,none⟩) (sLen+m) sCap) (w.setRow b (splice cur.toList (off+sLen*i.size) news).toArray):=by
 have I:=run_firstCells_some (P:=P) w i.size m a m c news N D;have G:=run_storeCells_at P b (off+sLen*i.size) J news 0 cur w hb (by simpa using hle) O;simp only[Nat.add_zero]at G;rw[Fq _ _ _ (by simpa using hle)];simp[Builtin.append_,run_underlying L,sizeOf,typeInfo,M,Builtin.lenOf,E,I,Addr.add_lit,G]
theorem Qp8 {t ty e:TypeId} {i:TypeInfo} {z:Value} {size:Nat} (S:P.underlying t=some (.slice e)) (T:P.info? e=some i) (hz:i.zero=some z)
  (E:i.size=size) (V:z.cells.size=size) (X:0<size)
  {v:Value} {n:Nat} {xs:List Value} (D:DK w e size v n xs)
  {ad:Option Addr} {m c:Nat} {news:List Value} (I:news.length=m*size) (J:m=0\/∃a,ad=some a/\∀j u,news[j]? =some u->w.cell? (a.add j)=some u) (h1:∀u∈news,u.oneCell'=true)
  (M:n+m<=maxLen) (G:(n+m)*i.bytes<=140737488355328):
  ∃L w',(Builtin.append_ #[t,t] ty #[v, .slice ad m c]).run P w= .ok L w'/\DK w' e size L (n+m) (xs++news)/\w.grownBy w' v.ownBlock/\(L.ownBlock=v.ownBlock\/L.ownBlock=some w.heap.size):=by
 cases ad with
 |some a=>
  have U:∀j u,news[j]? =some u->w.cell? (a.add j)=some u:=by
   rcases J with rfl|⟨a',Y,hh⟩
   ·have:news=[]:=cz (by simpa using I);subst this;intro j u h;simp at h
   ·simp at Y;subst Y;exact hh
  rcases D.2 with⟨rfl,rfl⟩|⟨g,o,cap,cur,rfl,e3,e4,e5,e6,e7⟩
  ·have hx:xs=[]:=cz (by simpa using D.1);subst hx;obtain⟨L,w',q1,q2,N,_,q5⟩:=run_append_own_at (P:=P) w 0 t ty e i z size i.bytes S T hz E rfl V X (.slice none 0 0) 0 [] (World.ownsRow_nil w 0 e size) a m c news I U h1 M G (Nat.zero_le _);exact⟨L,w',q1,Q2l q2,N,q5⟩
  ·by_cases hr:n+m<=cap
   ·subst E;have a3:n*i.size+m*i.size<=cap*i.size:=by rw[<-cy];exact be _ hr
    have q:=Zn8 (P:=P) (ty:=ty) (off:=o) (sLen:=n) (sCap:=cap) (c:=c) S T e3 I U h1 hr (by rw[I];omega);have a0:=Jx cur.toList (o+n*i.size) news;refine⟨_,_,q,⟨by rw[am,D.1,I,cy], .inr ⟨g,o,cap,_,rfl,setRow_heap w g cur _ e _ e3,hr,e5,by simp only[List.size_toArray];rw[a0,dm];exact e6,?_⟩⟩,⟨rfl,rfl,rfl,by simp,λk hk a1=>setRow_other w g k _ (λe=>a1 (by rw[e];rfl))⟩, .inl rfl⟩;have hL:o+n*i.size+news.length<=cur.toList.length:=by rw[I,dm];omega
    show((splice cur.toList (o+n*i.size) news).toArray.toList.drop o).take ((n+m)*i.size)=xs++news;simp only[List.toList_toArray];rw[Fq _ _ _ hL,f6,ia (by simp;omega),List.drop_take,show o+n*i.size-o=n*i.size from by omega,e7,<-f6];rw[List.take_append_of_le_length (by rw[am,D.1,I,cy];omega),ja (by rw[am,D.1,I,cy];omega)]
   ·obtain ⟨L, w', q1, q2, N⟩ := run_append_arg_grows (P := P) w t ty e i z size i.bytes S T hz E rfl V X ⟨g, o, none⟩ n cap xs D.1 (λj u hj => by
     have:=Ow D (g:=g) rfl j u hj;rw[Addr.add_lit];exact this) a m c news I U (by omega) M G
    have O := run_append_grow (P := P) w t ty e i z S T hz ⟨g, o, none⟩ n cap xs (by rw [E]; exact D.1) (λj u hj => by
     have:=Ow D (g:=g) rfl j u hj;rw[Addr.add_lit];exact this) a m c news (by rw[E];exact I) U (by omega) (by simp only[maxLen]at M;omega) (growslice_fits (by omega) G)
    rw[q1]at O;simp only[Result.ok.injEq]at O;refine⟨L,w',q1,Q2l q2,⟨N.os,N.tape,N.output,N.size,λk hk _=>N.block k hk (by simp)⟩, .inr ?_⟩;rw[O.1];rfl
 |none=>
  have hm:m=0:=by
   rcases J with h|⟨_,h,_⟩
   ·exact h
   ·simp at h
  subst hm;have U:news=[]:=cz (by simpa using I);subst U;refine⟨v,w,?_,by simpa using D,⟨rfl,rfl,rfl,cq _,λ_ _ _=>rfl⟩, .inl rfl⟩;rcases D.2 with⟨rfl,rfl⟩|⟨g,o,cap,cur,rfl,_,a2,_⟩
  ·simp[Builtin.append_,run_underlying S,sizeOf,typeInfo,T,Builtin.lenOf,Builtin.firstCells]
  ·simp[Builtin.append_,run_underlying S,sizeOf,typeInfo,T,Builtin.lenOf,Builtin.firstCells,a2,storeCells]
theorem Q3q (h:RelE Z tm aB aC ρ tmps w) {ks:List Kd} {a:AC} {x:Value} {m:List (List AC)} (D:F4 aC ks a=some m) (E:CC ρ w a x):
  ∃G c news,x= .slice G m.length c/\RowC ρ.im w ks m news/\(m.length=0\/∃a,G=some a/\∀j u,news[j]? =some u->w.cell? (a.add j)=some u):=by
 unfold F4 at D;split at D
 ·simp at D;subst D;simp only[CC,CP]at E;subst E;exact⟨none,0,[],rfl,⟨by simp,by simp,λi c I=>by simp at I⟩, .inl rfl⟩
 ·rename_i J l;cases hb:Cj ks J<;>rw[hb]at D
  ·simp at D
  ·simp at D;subst D;have:=Hp hb;subst this;simp only[CC,CP]at E;obtain⟨G,cap,rfl,hle,Y,hf⟩:=E;rcases hf with rfl|⟨b,o,rfl,_,L⟩
   ·exact⟨G,cap,[],rfl,⟨by simp,by simp,λi c I=>by simp at I⟩, .inl rfl⟩
   ·obtain⟨ys,S,T⟩:=Zkz l Y L;refine⟨_,cap,ys,rfl,S, .inr ⟨_,rfl,λj u M=> ?_⟩⟩;rw[Addr.add_lit];exact T j u M
 ·rename_i id w' n;split at D
  ·rename_i r hr;cases hb:Cj ks r.ks<;>rw[hb]at D
   ·simp at D
   ·simp at D;subst D;have:=Hp hb;subst this;obtain⟨S,T,_,xs,U,V⟩:=h.ro id r hr;obtain⟨N,a0,a1⟩:=E;subst N;rcases U.2 with⟨e1,e2⟩|⟨X,o,cap,cur,e1,e3,e4,e5,e6,e7⟩
    ·have O:r.l.length=0:=e2;exact⟨none,0,xs,by rw[e1,O],V, .inl e2⟩
    ·refine⟨some ⟨X,o,none⟩,cap,xs,e1,V, .inr ⟨_,rfl,λj u M=> ?_⟩⟩;have:=Ow U (g:=X) (by rw[e1];rfl) j u M;rw[e1]at this;rw[Addr.add_lit];exact this
  ·simp at D
 ·simp at D
theorem RelE.growIm {im':Nat->Prop} {w':World} (D:RelE Z tm aB aC ρ tmps w) (E:Below w.heap.size w w') (G:∀b,ρ.im b->im' b) (J:∀b,im' b->ρ.im b\/(w.heap.size<=b/\b<w'.heap.size)):
  RelE Z tm aB aC {ρ with im:=im'} tmps w':=by
 have hold:∀b,b<w.heap.size->w'.heap[b]? =w.heap[b]? :=λb hb=>E.block b hb;have N:∀(a:AC) (x:Value),CC ρ w a x->CC {ρ with im:=im'} w' a x:=λa x T=>CC.mono (ρ:=ρ) (ρ':={ρ with im:=im'}) G (λb hb=>hold b (D.ib b hb).1) a x (AC.agree_refl rfl rfl rfl a) T;refine⟨D.tl,λi v hi=>TVR.mono N v _ (D.tv i v hi),D.wt,D.wb,?_,D.bi,?_,D.ri,D.br,?_,D.fr.trans (Fr.of_below E D.fs),λk L=>ej (D.fs k L) E.size,λb hb=>G b (D.i0 b hb),λb hb=>(J b hb).elim (D.i1 b) λq=> .inr λhf=>absurd (D.fs b hf) (by omega),λk b L=>D.k0 k b L⟩
 ·intro k b L;obtain⟨arr,M,O,S⟩:=D.bx k b L;exact⟨arr,by rw[hold _ (Nc M)];exact M,O.mono λa _ x T=>N a x T,S⟩
 ·intro id X I;obtain⟨M,O,q0,ys,S,q4⟩:=D.ro id X I;exact⟨M,O,q0,ys,Kk S λg hg=>hold g (D.rwlt I hg).2,q4.mono G (λb hb=>hold b (D.ib b hb).1)⟩
 ·intro b hb;rcases J b hb with U|⟨a0,V⟩
  ·obtain⟨M,O,S⟩:=D.ib b U;exact⟨ej M E.size,O,S⟩
  ·exact⟨V,λk bo L e=>by have:=D.bxlt L;have Y:ρ.bx k=b:=e;omega,λid X I e=>by have Y:(ρ.rv id).ownBlock=some b:=e;have:=(D.rwlt I Y).2;omega⟩
end
open Go.RowKit
section
variable {P:Program} {C:Cfg} {ρ:Env} {w:World} {R:Type} {Z:Base} {tm:List TV} {aB:List (Nat×Box)} {aC:List (Nat×Row)} {tmps:Array Value}
def AC.nmP (D:Nat->Prop):AC->Prop
 | .ptr k _=>D k
 |_=>True
def AC.nm (D E:Nat->Prop):AC->Prop
 | .ptr k _=>D k
 | .bsl k _=>D k
 | .own id _ _=>E id
 | .rptr id _ _=>E id
 | .clo _ fs cs=>(∀a∈fs,AC.nmP D a)/\∀a∈cs,AC.nmP D a
 |_=>True
def TV.nm (D E:Nat->Prop):TV->Prop
 | .v _ cs=>∀a∈cs,AC.nm D E a
 | .tup ps=>∀p∈ps,∀a∈p.2,AC.nm D E a
 | .dead=>True
theorem AC.nm_of_inK {keys ids:List Nat} {a:AC} (h:AC.inK keys ids a=true):a.nm (· ∈keys) (· ∈ids):=by
 have D:∀l:List AC,Ai (AC.inK.inP keys) l=true->∀a∈l,AC.nmP (· ∈keys) a:=by
  intro l E a G;have:=As.1 E a G;cases a<;>first|trivial|exact Eb.1 this
 cases a with
 |ptr k o=>exact Eb.1 h
 |bsl k o=>exact Eb.1 h
 |own id w n=>exact Eb.1 h
 |rptr id i s=>exact Eb.1 h
 |clo f fs cs=>
  simp only[AC.inK,al]at h;exact⟨D fs h.1,D cs h.2⟩
 |_=>trivial
theorem TV.nm_of_inK {keys ids:List Nat} {v:TV} (h:TV.inK keys ids v=true):v.nm (· ∈keys) (· ∈ids):=by
 cases v with
 |dead=>trivial
 |v g cs=>exact λa D=>AC.nm_of_inK (As.1 h a D)
 |tup ps=>exact λp E a D=>AC.nm_of_inK (As.1 (As.1 h p E) a D)
theorem AC.nm_of_wf {a:AC} (h:AC.wf aB aC a):a.nm (λk=>∃b,Ab aB k=some b) (λi=>∃r,Ab aC i=some r):=by
 have E:∀l:List AC,(∀a∈l,AC.wfP aB a)->∀a∈l,AC.nmP (λk=>∃b,Ab aB k=some b) a:=by
  intro l G a I;have:=G a I;cases a<;>first|trivial|exact this
 cases a with
 |ptr k o=>exact h
 |bsl k o=>exact h
 |own id w n=>obtain⟨r,D,_⟩:=h;exact⟨r,D⟩
 |rptr id i s=>obtain⟨r,D,_⟩:=h;exact⟨r,D⟩
 |clo f fs cs=>exact⟨E fs h.1,E cs h.2⟩
 |_=>trivial
theorem TV.nm_of_wf {v:TV} (h:TV.wf aB aC v):v.nm (λk=>∃b,Ab aB k=some b) (λi=>∃r,Ab aC i=some r):=by
 cases v with
 |dead=>trivial
 |v g cs=>exact λa D=>AC.nm_of_wf (h a D)
 |tup ps=>exact λp E a D=>AC.nm_of_wf (h p E a D)
theorem Qg3 {E G:Env} {J:Nat->Prop} {L:Nat->Nat} (hb:∀k,J k->G.bx (L k)=E.bx k) (M:G.im=E.im):∀(l:List AC) (xs:List Value),(∀a∈l,AC.nmP J a)->CLc E w l xs->CLc G w (AC.ren.renP L l) xs
 |[],[],_,_=>trivial
 |a::l,x::xs,N,h=>by
  have O:=Qg3 hb M l xs (λb hb=>N b (by simp[hb])) h.2;have D:=h.1;have I:=N a (by simp);cases a<;>simp only[AC.ren.renP]<;>refine⟨?_,O⟩<;>first
   |(simp only[CCc]at D⊢;rw[hb _ I];exact D)
   |(simp only[CCc]at D⊢;rw[M];exact D)
 |[],_::_,_,h=>h.elim
 |_::_,[],_,h=>h.elim
theorem Qh2 {G I:Env} {L M:Nat->Prop} {N ri:Nat->Nat} (hb:∀k,L k->I.bx (N k)=G.bx k) (J:∀i,M i->I.rv (ri i)=G.rv i/\I.wd (ri i)=G.wd i) (D:I.im=G.im)
  {a:AC} {x:Value} (E:a.nm L M) (h:CC G w a x):CC I w (a.ren N ri) x:=by
 cases a with
 |ptr k o=>simp only[AC.ren,CC]at*;rw[hb k E];exact h
 |bsl k o=>simp only[AC.ren,CC]at*;rw[hb k E];exact h
 |own id w n=>simp only[AC.ren,CC]at*;rw[(J id E).1,(J id E).2];exact h
 |rptr id i s=>simp only[AC.ren,CC]at*;rw[(J id E).1,(J id E).2];exact h
 |vptr cs s=>simp only[AC.ren,CC]at*;rw[D];exact h
 |clo f fs cs=>
  obtain⟨xs,O,S,T,U⟩:=h;exact⟨xs,O,S,Qg3 hb D fs _ E.1 T,Qg3 hb D cs _ E.2 U⟩
 |dead=>exact h
 |int=>simp only[AC.ren,CC]at*;rw[D];exact h
 |bool=>simp only[AC.ren,CC]at*;rw[D];exact h
 |raw=>simp only[AC.ren,CC]at*;rw[D];exact h
 |nilSl=>simp only[AC.ren,CC]at*;rw[D];exact h
 |vC=>simp only[AC.ren,CC]at*;rw[D];exact h
theorem Od {D E:Env} {Kp Ip:Nat->Prop} {G ri:Nat->Nat} (hb:∀k,Kp k->E.bx (G k)=D.bx k) (I:∀i,Ip i->E.rv (ri i)=D.rv i/\E.wd (ri i)=D.wd i) (J:E.im=D.im):
  ∀{l:List AC} {xs:List Value},(∀a∈l,a.nm Kp Ip)->CL (CC D w) l xs->CL (CC E w) (l.map (AC.ren G ri)) xs
 |[],[],_,h=>h
 |a::l,y::xs,L,h=>⟨Qh2 hb I J (L a (by simp)) h.1,Od hb I J (λb hb=>L b (by simp[hb])) h.2⟩
 |[],_::_,_,h=>h.elim
 |_::_,[],_,h=>h.elim
theorem Q0h {E G:Env} {Kp Ip:Nat->Prop} {T ri:Nat->Nat} (hb:∀k,Kp k->G.bx (T k)=E.bx k) (J:∀i,Ip i->G.rv (ri i)=E.rv i/\G.wd (ri i)=E.wd i) (L:G.im=E.im)
  {v:TV} {x:Value} (M:v.nm Kp Ip) (h:TVR E w v x):TVR G w (v.ren T ri) x:=by
 cases v with
 |dead=>trivial
 |v b cs=>
  cases b
  ·obtain⟨a,rfl,V⟩:=h;exact⟨_,rfl,Qh2 hb J L (M a (by simp)) V⟩
  ·obtain⟨N,rfl,D⟩:=h;exact⟨N,rfl,Od hb J L M D⟩
 |tup ps=>
  obtain⟨N,rfl,D⟩:=h;refine⟨N,rfl,?_⟩;generalize N.toList=l at D;induction ps generalizing l with
  |nil=>cases l<;>first|exact D|exact D.elim
  |cons p ps X=>
   cases l with
   |nil=>exact D.elim
   |cons y l=>
    obtain⟨b,cs⟩:=p;refine⟨?_,X (λq Y=>M q (by simp[Y])) l D.2⟩;have U:=D.1;have I:=M (b,cs) (by simp);cases b
    ·obtain⟨a,O,S⟩:=U;subst O;exact⟨_,rfl,Qh2 hb J L (I a (by simp)) S⟩
    ·obtain⟨zs,O,S⟩:=U;exact⟨zs,O,Od hb J L I S⟩
theorem P5 {b1 b2:List (Nat×Box)} {O S:List (Nat×Row)} {Kp Ip:Nat->Prop} {G ri:Nat->Nat} (hb:∀k,Kp k->(∃b,Ab b1 k=some b)->∃b,Ab b2 (G k)=some b)
  (T:∀i r,Ip i->Ab O i=some r->∃r',Ab S (ri i)=some r'/\r'.n=r.n/\r'.w=r.w) {a:AC} (D:a.nm Kp Ip) (h:AC.wf b1 O a):AC.wf b2 S (a.ren G ri):=by
 have U:∀l:List AC,(∀a∈l,AC.nmP Kp a)->(∀a∈l,AC.wfP b1 a)->∀a∈AC.ren.renP G l,AC.wfP b2 a:=by
  intro l;induction l with
  |nil=>intro _ _ a E;simp[AC.ren.renP]at E
  |cons c l Y=>
   intro D V a E;have I:=Y (λb hb=>D b (by simp[hb])) (λb hb=>V b (by simp[hb]));have h1:=D c (by simp);have h2:=V c (by simp);cases c<;>simp only[AC.ren.renP,az]at E<;>rcases E with rfl|E<;>first
    |exact I a E
    |exact hb _ h1 h2
    |trivial
 cases a with
 |ptr k o=>exact hb k D h
 |bsl k o=>exact hb k D h
 |own id w n=>obtain⟨r,J,L,q3⟩:=h;obtain⟨r',M,N,X⟩:=T id r D J;exact⟨r',M,by rw[N,L],by rw[X,q3]⟩
 |rptr id i s=>obtain⟨r,J,L⟩:=h;obtain⟨r',M,N,X⟩:=T id r D J;exact⟨r',M,by rw[N];exact L⟩
 |vptr=>exact h
 |clo f fs cs=>exact⟨U fs D.1 h.1,U cs D.2 h.2⟩
 |_=>trivial
theorem Qrn {b1 b2:List (Nat×Box)} {G I:List (Nat×Row)} {Kp Ip:Nat->Prop} {J ri:Nat->Nat} (hb:∀k,Kp k->(∃b,Ab b1 k=some b)->∃b,Ab b2 (J k)=some b)
  (L:∀i r,Ip i->Ab G i=some r->∃r',Ab I (ri i)=some r'/\r'.n=r.n/\r'.w=r.w) {v:TV} (M:v.nm Kp Ip) (h:TV.wf b1 G v):TV.wf b2 I (v.ren J ri):=by
 cases v with
 |dead=>trivial
 |v g cs=>
  intro a D;simp only[av]at D;obtain⟨c,E,rfl⟩:=D;exact P5 hb L (M c E) (h c E)
 |tup ps=>
  intro p N a D;simp only[av]at N;obtain⟨q,O,rfl⟩:=N;simp only[av]at D;obtain⟨c,E,rfl⟩:=D;exact P5 hb L (M q O c E) (h q O c E)
theorem Hn:∀{l:List Nat},Bz l=true↔l.Nodup
 |[]=>by simp[Bz]
 |k::l=>by
  simp only[Bz,ik,<-Hn (l:=l)];cases h:AI l k
  ·have: ¬k∈l:=λD=>by rw[Eb.2 D]at h;cases h
   simp[this]
  ·have:=Eb.1 h;simp[this]
theorem CO {l:List Nat} {n:Nat} (h:n∈l):pos l n<l.length/\nth 0 l (pos l n)=n:=by
 induction l with
 |nil=>simp at h
 |cons m l E=>
  simp only[pos];cases hb:Nat.beq m n
  ·have D:=FP hb;have:n∈l:=by
    rcases az.1 h with e|e
    ·exact absurd e.symm D
    ·exact e
   obtain⟨I,G⟩:=E this;exact⟨by simp only[ao,bf];omega,by simp only[ao];exact G⟩
  ·exact⟨by simp,by simpa [nth]using ac hb⟩
theorem Q8g {l:List Nat} {m n:Nat} (D:m∈l) (E:n∈l) (h:pos l m=pos l n):m=n:=by
 rw[<-(CO D).2,<-(CO E).2,h]
theorem G7 {l:List Nat} (G:l.Nodup) {i:Nat} (I:i<l.length):pos l (nth 0 l i)=i:=by
 induction l generalizing i with
 |nil=>simp at I
 |cons m l J=>
  cases i with
  |zero=>simp[nth,pos]
  |succ i=>
   have D:i<l.length:=by simpa using I
   have E:nth 0 l i∈l:=by
    rw[B3,List.getD,an D];exact bv D
   rw[ik]at G;simp only[nth,pos];rw[It (by rintro rfl;exact G.1 E)];simp only[ao];rw[J G.2 D]
theorem EH {l:List Nat} {i:Nat} (D:i<l.length):nth 0 l i∈l:=by
 rw[B3,List.getD,an D];exact bv D
theorem Ix {I ri:Nat->Nat}:∀{keys:List Nat} {b:Nat} {D:List (Nat×Box)},CK aB I ri b keys=some D->
  (∀i,i<keys.length->∃x,Ab aB (nth 0 keys i)=some x/\Ab D (b+i)=some ⟨x.ty,x.cells.map (AC.ren I ri)⟩)/\∀c x,Ab D c=some x->∃i,i<keys.length/\c=b+i
 |[],b,D,h=>by simp[CK]at h;subst h;exact⟨λi E=>by simp at E,λc x h=>by simp[Ab]at h⟩
 |k::keys,b,D,h=>by
  simp only[CK]at h;split at h
  ·rename_i x M;split at h
   ·rename_i l N;simp at h;subst h;obtain⟨O,S⟩:=Ix N;refine⟨λi E=> ?_,λc y G=> ?_⟩
    ·cases i with
     |zero=>exact⟨x,M,by simp[Ab]⟩
     |succ i=>
      obtain⟨y,J,L⟩:=O i (by simpa using E);refine⟨y,J,?_⟩;rw[show b+(i+1)=b+1+i from by omega];simp only[Ab];rw[It (by omega)];exact L
    ·simp only[Ab]at G;cases hb:Nat.beq b c<;>rw[hb]at G
     ·obtain⟨i,J,L⟩:=S c y G;exact⟨i+1,by simp;omega,by omega⟩
     ·exact⟨0,by simp,(ac hb).symm⟩
   ·simp at h
  ·simp at h
theorem R4:∀{keys:List Nat} {b:Nat} {D:List (Nat×Row)},Eg aC b keys=some D->
  (∀i,i<keys.length->∃x,Ab aC (nth 0 keys i)=some x/\Ab D (b+i)=some x)/\∀c x,Ab D c=some x->∃i,i<keys.length/\c=b+i
 |[],b,D,h=>by simp[Eg]at h;subst h;exact⟨λi E=>by simp at E,λc x h=>by simp[Ab]at h⟩
 |k::keys,b,D,h=>by
  simp only[Eg]at h;split at h
  ·rename_i x L;split at h
   ·rename_i l M;simp at h;subst h;obtain⟨N,O⟩:=R4 M;refine⟨λi E=> ?_,λc y G=> ?_⟩
    ·cases i with
     |zero=>exact⟨x,L,by simp[Ab]⟩
     |succ i=>
      obtain⟨y,I,J⟩:=N i (by simpa using E);refine⟨y,I,?_⟩;rw[show b+(i+1)=b+1+i from by omega];simp only[Ab];rw[It (by omega)];exact J
    ·simp only[Ab]at G;cases hb:Nat.beq b c<;>rw[hb]at G
     ·obtain⟨i,I,J⟩:=O c y G;exact⟨i+1,by simp;omega,by omega⟩
     ·exact⟨0,by simp,(ac hb).symm⟩
   ·simp at h
  ·simp at h
def GF {α β:Type} (D:Nat->Nat) (g:α->β):List (Nat×α)->List (Nat×β)->List (Nat×β)
 |[],l=>l
 |(k,b)::m,l=>GF D g m (ins l (D k) (g b))
theorem Uo (D ri:Nat->Nat):∀(m:List (Nat×Box)) (l:List (Nat×Box)),H2 D ri m l=GF D (λb=>⟨b.ty,b.cells.map (AC.ren D ri)⟩) m l
 |[],_=>rfl
 |(_,_)::m,_=>by simp only[H2,GF];exact Uo D ri m _
theorem Qlb (ri:Nat->Nat):∀(m:List (Nat×Row)) (l:List (Nat×Row)),GM ri m l=GF ri (λb=>b) m l
 |[],_=>rfl
 |(_,_)::m,_=>by simp only[GM,GF];exact Qlb ri m _
theorem Qu {α β:Type} {rk:Nat->Nat} {g:α->β}:∀{m:List (Nat×α)} {l:List (Nat×β)},(m.map (·.1)).Nodup->(∀k∈m.map (·.1),∀j∈m.map (·.1),rk k=rk j->k=j)->(∀k∈m.map (·.1),Ab l (rk k)=none)->
  (∀k b,Ab m k=some b->Ab (GF rk g m l) (rk k)=some (g b))/\(∀n,(∀k∈m.map (·.1),n≠rk k)->Ab (GF rk g m l) n=Ab l n)
 |[],l,_,_,_=>⟨λk b h=>by simp[Ab]at h,λn _=>rfl⟩
 |(j,c)::m,l,I,J,L=>by
  simp only[ba,ik]at I;have E:∀k∈m.map (·.1),rk k≠rk j:=λk D e=>I.1 (by have:=J k (by simp at D⊢;exact .inr D) j (by simp) e;rw[<-this];exact D);obtain ⟨O, M⟩ := Qu (rk := rk) (g := g) (m := m) (l := ins l (rk j) (g c)) I.2 (λk D q N => J k (by simp at D ⊢; exact .inr D) q (by simp at N ⊢; exact .inr N)) (λk D => by
   rw[C7 _ _ _ _ (E k D)];exact L k (by simp at D⊢;exact .inr D))
  have S:Ab (ins l (rk j) (g c)) (rk j)=some (g c):=DI _ _ _ (L j (by simp));refine⟨λk b D=> ?_,λn G=> ?_⟩
  ·simp only[Ab]at D;cases hb:Nat.beq j k<;>rw[hb]at D
   ·exact O k b D
   ·have:=ac hb;subst this;simp at D;subst D;simp only[GF];rw[M (rk j) (λk D e=>E k D e.symm)];exact S
  ·simp only[GF];rw[M n (λk D=>G k (by simp at D⊢;exact .inr D))];exact C7 _ _ _ _ (G j (by simp))
theorem IQ {α:Type}:∀(ks:List Nat) (l:List (Nat×α)) (n:Nat),Ab (Cy ks l) n=if n∈ks then none else Ab l n
 |[],l,n=>by simp[Cy]
 |k::ks,l,n=>by
  simp only[Cy];rw[IQ ks];by_cases h:n=k
  ·subst h;simp only[OF,az,true_or,dc];split<;>rfl
  ·rw[Iz _ _ _ h];simp[h]
theorem JU {α:Type}:∀{l:List (Nat×α)} {k:Nat},k∈l.map (·.1)↔∃b,Ab l k=some b
 |[],k=>by simp[Ab]
 |(j,c)::l,k=>by
  simp only[ba,az,Ab];cases hb:Nat.beq j k
  ·simp only[ao,<-JU (l:=l)];constructor
   ·rintro(e|e)
    ·exact absurd e.symm (FP hb)
    ·exact e
   ·exact .inr
  ·simp[ac hb]
theorem HI {α:Type} {names:List Nat}:∀{l:List (Nat×α)} {k:Nat},k∈A7 names l↔k∈l.map (·.1)/\ ¬(base<=k/\k-base<names.length)
 |[],k=>by simp[A7]
 |(j,c)::l,k=>by
  simp only[A7,ba,az];cases hb:(Nat.ble base j&&Nat.blt (j-base) names.length)
  ·have G: ¬(base<=j/\j-base<names.length):=by
    rintro⟨E,D⟩;have e1:=ef E;have e2:Nat.blt (j-base) names.length=true:=ef D;rw[e1,e2]at hb;cases hb
   simp only[ao,az,HI (l:=l)];constructor
   ·rintro(rfl|⟨E,D⟩)
    ·exact⟨.inl rfl,G⟩
    ·exact⟨.inr E,D⟩
   ·rintro⟨rfl|E,D⟩
    ·exact .inl rfl
    ·exact .inr ⟨E,D⟩
  ·simp only[al]at hb;have G:base<=j/\j-base<names.length:=⟨bc hb.1,bc hb.2⟩;simp only[ai,HI (l:=l)];constructor
   ·rintro⟨E,D⟩;exact⟨.inr E,D⟩
   ·rintro⟨rfl|E,D⟩
    ·exact absurd G D
    ·exact⟨E,D⟩
theorem J6 {names fresh:List Nat} {d k:Nat} (h:base<=k/\k-base<names.length):Bj names fresh d k=nth 0 names (k-base):=by
 unfold Bj;rw[ef h.1,show Nat.blt (k-base) names.length=true from ef h.2];rfl
theorem Qyz {names fresh:List Nat} {d k:Nat} (h: ¬(base<=k/\k-base<names.length)):Bj names fresh d k=100000+100*d+pos fresh k:=by
 unfold Bj;have:(Nat.ble base k&&Nat.blt (k-base) names.length)=false:=by
  apply Bool.eq_false_iff.2;intro hb;simp only[al]at hb;exact h ⟨bc hb.1,bc hb.2⟩
 rw[this];rfl
theorem Qwo {α β:Type} {names:List Nat} {d:Nat} {I:List (Nat×α)} {l:List (Nat×β)} (J:names.Nodup) (L:∀k∈names,∃b,Ab l k=some b)
  (hf:∀k∈A7 names I,Ab l (Bj names (A7 names I) d k)=none):
  ∀k∈I.map (·.1),∀j∈I.map (·.1),Bj names (A7 names I) d k=Bj names (A7 names I) d j->k=j:=by
 intro k M j N he;by_cases D:base<=k/\k-base<names.length<;>by_cases E:base<=j/\j-base<names.length
 ·rw[J6 D,J6 E]at he;have:=ie (pos names) he;rw[G7 J D.2,G7 J E.2]at this;omega
 ·have G:=hf j (HI.2 ⟨N,E⟩);rw[<-he,J6 D]at G;obtain⟨b,hb⟩:=L _ (EH D.2);rw[hb]at G;cases G
 ·have G:=hf k (HI.2 ⟨M,D⟩);rw[he,J6 E]at G;obtain⟨b,hb⟩:=L _ (EH E.2);rw[hb]at G;cases G
 ·rw[Qyz D,Qyz E]at he;exact Q8g (HI.2 ⟨M,D⟩) (HI.2 ⟨N,E⟩) (by omega)
noncomputable def Il {α:Type} (m:List (Nat×α)) (D:Nat->Nat) (n:Nat):Option Nat:= @dite _ (∃k∈m.map (·.1),D k=n) (Classical.propDecidable _) (λh=>some (Classical.choose h)) (λ_=>none)
theorem Yf {α:Type} {m:List (Nat×α)} {D:Nat->Nat} (E:∀k∈m.map (·.1),∀j∈m.map (·.1),D k=D j->k=j) {k:Nat} (G:k∈m.map (·.1)):Il m D (D k)=some k:=by
 unfold Il;have h:∃j∈m.map (·.1),D j=D k:=⟨k,G,rfl⟩;rw[dif_pos h];have:=dz h;rw[E _ this.1 k G this.2]
theorem XE {α:Type} {m:List (Nat×α)} {bk:Nat->Nat} {n:Nat} (h:∀k∈m.map (·.1),n≠bk k):Il m bk n=none:=by
 unfold Il;rw[dif_neg];rintro⟨k,D,he⟩;exact h k D he.symm
theorem Q1r:∀(ids:List Nat) {v:TV} {x:Value},TVR ρ w v x->TVR ρ w (Gr ids v) x
 |[],_,_,h=>h
 |_::l,_,_,h=>Q1r l (TV.kill_TVR h)
theorem Qz9:∀(ids:List Nat) {v:TV},TV.wf aB aC v->TV.wf aB aC (Gr ids v)
 |[],_,h=>h
 |_::l,_,h=>Qz9 l (TV.kill_wf h)
theorem Qfy {id j:Nat} {a:AC} (h:AC.free j a):AC.free j (a.kill id):=by
 cases a with
 |own i w n=>simp only[AC.kill];cases Nat.beq i id<;>first|exact h|trivial
 |rptr i n s=>simp only[AC.kill];cases Nat.beq i id<;>first|exact h|trivial
 |_=>trivial
theorem Zva {id j:Nat} {v:TV} (h:TV.free j v):TV.free j (v.kill id):=by
 cases v with
 |v g cs=>
  intro a D;simp only[av]at D;obtain⟨b,hb,rfl⟩:=D;exact Qfy (h b hb)
 |tup ps=>
  intro p E a D;simp only[av]at E;obtain⟨q,G,rfl⟩:=E;simp only[av]at D;obtain⟨b,hb,rfl⟩:=D;exact Qfy (h q G b hb)
 |dead=>trivial
theorem Qor {j:Nat}:∀(ids:List Nat) {v:TV},TV.free j v->TV.free j (Gr ids v)
 |[],_,h=>h
 |_::l,_,h=>Qor l (Zva h)
theorem Qyr:∀(ids:List Nat) (v:TV),∀id∈ids,TV.free id (Gr ids v)
 |[],_,id,h=>by simp at h
 |i::l,v,id,h=>by
  simp only[az]at h;by_cases e:id∈l
  ·exact Qyr l (v.kill i) id e
  ·have:id=i:=h.resolve_right e;subst this;exact Qor l (TV.kill_free id v)
theorem Qvu:∀(ids:List Nat) (b:Box),(CJ ids b).ty=b.ty
 |[],_=>rfl
 |_::l,b=>by rw[CJ,Qvu l];rfl
theorem Qyt:∀(ids:List Nat) {b:Box} {xs:List Value},CL (CC ρ w) b.cells xs->CL (CC ρ w) (CJ ids b).cells xs
 |[],_,_,h=>h
 |i::l,b,_,h=>Qyt l (b:=b.kill i) h.kill
theorem Qya:∀(ids:List Nat) {b:Box},(∀a∈b.cells,AC.wf aB aC a)->∀a∈(CJ ids b).cells,AC.wf aB aC a
 |[],_,h=>h
 | i :: l, b, h => Qya l (b := b.kill i) (λa D => by
  simp only[Box.kill,av]at D;obtain⟨c,E,rfl⟩:=D;exact AC.kill_wf (h c E))
theorem Qq4 {j:Nat}:∀(ids:List Nat) {b:Box},(∀a∈b.cells,AC.free j a)->∀a∈(CJ ids b).cells,AC.free j a
 |[],_,h=>h
 | i :: l, b, h => Qq4 l (b := b.kill i) (λa D => by
  simp only[Box.kill,av]at D;obtain⟨c,E,rfl⟩:=D;exact Qfy (h c E))
theorem Qtc:∀(ids:List Nat) (b:Box),∀id∈ids,∀a∈(CJ ids b).cells,AC.free id a
 |[],_,id,h=>by simp at h
 |i::l,b,id,h=>by
  simp only[az]at h;by_cases e:id∈l
  ·exact Qtc l (b.kill i) id e
  ·have:id=i:=h.resolve_right e;subst this;exact Qq4 l (b := b.kill id) (λa D => by
    simp only[Box.kill,av]at D;obtain⟨c,E,rfl⟩:=D;exact AC.kill_free id c)
end
open Go.RowKit
section
variable {P:Program} {C:Cfg} {ρ:Env} {w:World} {R:Type} {Z:Base} {tm:List TV} {aB:List (Nat×Box)} {aC:List (Nat×Row)} {tmps:Array Value}
theorem Qtp {k:Nat} {b:Box} (h:Ab aB k=some b):DM aB k=b.cells:=by unfold DM;rw[h]
def HV (ρ:Env) (keys ids:List Nat):Env:=⟨λc=>ρ.bx (nth 0 keys (c-base)),λc=>ρ.rv (nth 0 ids (c-base)),λc=>ρ.wd (nth 0 ids (c-base)),ρ.im⟩
def He (w:World) (ρ:Env) (keys ids:List Nat):Nat->Prop:=λb=>b<w.heap.size/\(∀k∈keys,ρ.bx k≠b)/\∀id∈ids,(ρ.rv id).ownBlock≠some b
theorem Zc7 (D:RelE Z tm aB aC ρ tmps w) {keys ids:List Nat} {M:List (Nat×Box)} {N:List (Nat×Row)}
  (G:CK aB (λk=>base+pos keys k) (λi=>base+pos ids i) base keys=some M) (I:Eg aC base ids=some N):Gt (He w ρ keys ids) w:=by
 obtain⟨b1,b2⟩:=Ix G;obtain⟨O,T⟩:=R4 I;refine Z.gt.mono λg cs _ E=>⟨⟨D.fs g E,λk J e=> ?_,λid L e=> ?_⟩,D.fr.block g E⟩
 ·obtain⟨x,q,_⟩:=b1 (pos keys k) (CO J).1;rw[(CO J).2]at q;obtain⟨_,_,_,S⟩:=D.bx k x q;exact S (by rw[e];exact E)
 ·obtain⟨x,q,_⟩:=O (pos ids id) (CO L).1;rw[(CO L).2]at q;exact(D.ro id x q).2.2.1 g e E
theorem Sc (M:RelE Z tm aB aC ρ tmps w) {args:List TV} {xs:List Value} (h1:xs.length=args.length)
  (h2:∀(i:Nat) (a:TV) (x:Value),args[i]? =some a->xs[i]? =some x->TVR ρ w a x) (a8:∀v∈args,TV.wf aB aC v) {keys ids:List Nat} (a0:keys.Nodup) (T:ids.Nodup)
  (a1:∀v∈args,TV.inK keys ids v=true) (U:∀k∈keys,Ai (AC.inK keys ids) (DM aB k)=true) {mb:List (Nat×Box)} {mr:List (Nat×Row)}
  (a2:CK aB (λk=>base+pos keys k) (λi=>base+pos ids i) base keys=some mb) (a3:Eg aC base ids=some mr):
  RelE (DG (He w ρ keys ids) w (HV ρ keys ids) mb (Zc7 M a2 a3)) (args.map (TV.ren (λk=>base+pos keys k) (λi=>base+pos ids i))) mb mr (HV ρ keys ids) xs.toArray w:=by
 obtain⟨b1,b2⟩:=Ix a2;obtain⟨r1,r2⟩:=R4 a3;have eb:∀k,k∈keys->(HV ρ keys ids).bx (base+pos keys k)=ρ.bx k:=λk I=>by
  show ρ.bx (nth 0 keys (base+pos keys k-base))=_;rw[dt,(CO I).2]
 have er:∀i,i∈ids->(HV ρ keys ids).rv (base+pos ids i)=ρ.rv i/\(HV ρ keys ids).wd (base+pos ids i)=ρ.wd i:=λi D=>by
  constructor
  ·show ρ.rv (nth 0 ids (base+pos ids i-base))=_;rw[dt,(CO D).2]
  ·show ρ.wd (nth 0 ids (base+pos ids i-base))=_;rw[dt,(CO D).2]
 have wb:∀k,k∈keys->(∃b,Ab aB k=some b)->∃b,Ab mb (base+pos keys k)=some b:=λk I _=>by
  obtain⟨x,_,q⟩:=b1 (pos keys k) (CO I).1;exact⟨_,q⟩
 have wr:∀i r,i∈ids->Ab aC i=some r->∃r',Ab mr (base+pos ids i)=some r'/\r'.n=r.n/\r'.w=r.w:=λi r D O=>by
  obtain⟨x,E,q⟩:=r1 (pos ids i) (CO D).1;rw[(CO D).2,O]at E;simp at E;subst E;exact⟨_,q,rfl,rfl⟩
 have X:∀c x,Ab mb c=some x->∃i J,i<keys.length/\c=base+i/\Ab aB (nth 0 keys i)=some J/\x=⟨J.ty,J.cells.map (AC.ren (λk=>base+pos keys k) (λi=>base+pos ids i))⟩:=by
  intro c x N;obtain⟨i,D,rfl⟩:=b2 c x N;obtain⟨J,E,L⟩:=b1 i D;rw[N]at L;simp at L;exact⟨i,J,D,rfl,E,L⟩
 have lr:∀c x,Ab mr c=some x->∃i,i<ids.length/\c=base+i/\Ab aC (nth 0 ids i)=some x:=by
  intro c x N;obtain⟨i,D,rfl⟩:=r2 c x N;obtain⟨J,E,L⟩:=r1 i D;rw[N]at L;simp at L;subst L;exact⟨i,D,rfl,E⟩
 have Y:∀i,(HV ρ keys ids).bx (base+i)=ρ.bx (nth 0 keys i):=λi=>by
  show ρ.bx (nth 0 keys (base+i-base))=_;rw[dt]
 have xr:∀i,(HV ρ keys ids).rv (base+i)=ρ.rv (nth 0 ids i):=λi=>by
  show ρ.rv (nth 0 ids (base+i-base))=_;rw[dt]
 have xw:∀i,(HV ρ keys ids).wd (base+i)=ρ.wd (nth 0 ids i):=λi=>by
  show ρ.wd (nth 0 ids (base+i-base))=_;rw[dt]
 have a4:∀i j,i<keys.length->j<keys.length->nth 0 keys i=nth 0 keys j->i=j:=λi j D V e=>by rw[<-G7 a0 D,<-G7 a0 V,e]
 have a5:∀i j,i<ids.length->j<ids.length->nth 0 ids i=nth 0 ids j->i=j:=λi j D V e=>by rw[<-G7 T D,<-G7 T V,e]
 refine⟨by simp[h1],λi v D=> ?_,λv hv=> ?_,λk b I a S=> ?_,λk b I=> ?_,λk k' b b' I a9 he=> ?_,λid r O=> ?_,λid id' r r' g O b0 hg a6=> ?_,λk b id r I O=> ?_,λb hb=>⟨(M.ib b hb).1,λk bo I=> ?_,λid r O=> ?_⟩,Fr.refl _ _,λk h=>h.1,λb h=>h,λb h=> .inl h,λk b I=> ?_⟩
 ·simp only[eg,bg]at D;obtain⟨a,S,rfl⟩:=D;have a7:i<xs.length:=by rw[h1];exact(d9.1 S).1
  have e:xs.toArray.getD i undef=xs[i]:=by simp[Array.getD,a7]
  rw[e];exact Q0h (Kp:=(· ∈keys)) (Ip:=(· ∈ids)) eb er rfl (TV.nm_of_inK (a1 a (bq S))) (h2 i a _ S (an a7))
 ·simp only[av]at hv;obtain⟨a,S,rfl⟩:=hv;exact Qrn (Kp:=(· ∈keys)) (Ip:=(· ∈ids)) wb wr (TV.nm_of_inK (a1 a S)) (a8 a S)
 ·obtain⟨i,J,D,rfl,E,rfl⟩:=X k b I;simp only[av]at S;obtain⟨c,N,rfl⟩:=S;have G:=U _ (EH D);rw[Qtp E]at G;exact P5 (Kp:=(· ∈keys)) (Ip:=(· ∈ids)) wb wr (AC.nm_of_inK (As.1 G c N)) (M.wb _ J E c N)
 ·obtain⟨i,J,D,rfl,E,rfl⟩:=X k b I;obtain⟨arr,p1,p2,p3⟩:=M.bx _ J E;have G:=U _ (EH D);rw[Qtp E]at G;refine⟨arr,by rw[Y];exact p1,Od (Kp:=(· ∈keys)) (Ip:=(· ∈ids)) eb er rfl (λc N=>AC.nm_of_inK (As.1 G c N)) p2,?_⟩;rw[Y];exact λhf=>hf.2.1 _ (EH D) rfl
 ·obtain⟨i,J,D,rfl,E,_⟩:=X k b I;obtain⟨j,y0,V,rfl,L,_⟩:=X k' b' a9;rw[Y,Y]at he;rw[a4 i j D V (M.bi _ _ _ _ E L he)]
 ·obtain⟨i,D,rfl,E⟩:=lr id r O;obtain⟨p1,p2,p0,ys,p3,p4⟩:=M.ro _ r E;exact⟨p1,by rw[xw];exact p2,λg hg hf=>hf.2.2 _ (EH D) (by rw[xr]at hg;exact hg),ys,by rw[xr];exact p3,p4⟩
 ·obtain⟨i,D,rfl,E⟩:=lr id r O;obtain⟨j,V,rfl,L⟩:=lr id' r' b0;rw[xr]at hg a6;rw[a5 i j D V (M.ri _ _ _ _ g E L hg a6)]
 ·obtain⟨i,J,D,rfl,E,_⟩:=X k b I;obtain⟨j,V,rfl,L⟩:=lr id r O;rw[xr,Y];exact M.br _ _ _ _ E L
 ·obtain⟨i,J,D,rfl,E,_⟩:=X k bo I;rw[Y];exact(M.ib b hb).2.1 _ _ E
 ·obtain⟨i,D,rfl,E⟩:=lr id r O;rw[xr];exact(M.ib b hb).2.2 _ _ E
 ·simp only[DG,bg]at I;obtain⟨bo,b3,e⟩:=I;exact⟨e,bo,b3⟩
noncomputable def C_ (ρ E:Env) (G:List (Nat×Box)) (D:List (Nat×Row)) (I bi:Nat->Nat):Env:=
 ⟨λn=>match Il G I n with|some k=>E.bx k|none=>ρ.bx n,λn=>match Il D bi n with|some k=>E.rv k|none=>ρ.rv n,λn=>match Il D bi n with|some k=>E.wd k|none=>ρ.wd n,E.im⟩
theorem P0 (V:RelE Z tm aB aC ρ tmps w) {keys ids:List Nat} (f4:keys.Nodup) (e0:ids.Nodup) {mb G:List (Nat×Box)} {mr I:List (Nat×Row)}
  (g0:CK aB (λk=>base+pos keys k) (λi=>base+pos ids i) base keys=some mb) (g1:Eg aC base ids=some mr) {v:TV} {x:Value} {ρ2:Env} {w':World}
  {hG:Gt (He w ρ keys ids) w} (M:RelE (DG (He w ρ keys ids) w (HV ρ keys ids) mb hG) [v] G I ρ2 #[x] w') {d:Nat}
  (a5:(G.map (·.1)).Nodup) (c9:(I.map (·.1)).Nodup) (e3:∀k∈A7 keys G,Ab aB (Bj keys (A7 keys G) d k)=none) (e4:∀k∈A7 ids I,Ab aC (Bj ids (A7 ids I) d k)=none):
  let T:=Bj keys (A7 keys G) d
  let bi:=Bj ids (A7 ids I) d
  RelE Z (tm.map (Gr ids)) (H2 T bi G ((Cy keys aB).map λp=>(p.1,CJ ids p.2))) (GM bi I (Cy ids aC)) (C_ ρ ρ2 G I T bi) tmps w'/\
   TVR (C_ ρ ρ2 G I T bi) w' (v.ren T bi) x/\TV.wf (H2 T bi G ((Cy keys aB).map λp=>(p.1,CJ ids p.2))) (GM bi I (Cy ids aC)) (v.ren T bi):=by
 intro T bi;obtain⟨b1,b2⟩:=Ix g0;obtain⟨r1,r2⟩:=R4 g1;have b3:∀k∈keys,∃b,Ab aB k=some b:=λk O=>by
  obtain⟨x,q,_⟩:=b1 (pos keys k) (CO O).1;rw[(CO O).2]at q;exact⟨x,q⟩
 have b4:∀k∈ids,∃b,Ab aC k=some b:=λk O=>by
  obtain⟨x,q,_⟩:=r1 (pos ids k) (CO O).1;rw[(CO O).2]at q;exact⟨x,q⟩
 have c6:∀k∈G.map (·.1),∀j∈G.map (·.1),T k=T j->k=j:=Qwo f4 b3 e3;have c7:∀k∈I.map (·.1),∀j∈I.map (·.1),bi k=bi j->k=j:=Qwo e0 b4 e4
 have b5:∀i,i<keys.length->(∃b,Ab G (base+i)=some b)/\ρ2.bx (base+i)=ρ.bx (nth 0 keys i):=by
  intro i hi;obtain⟨x0,_,q⟩:=b1 i hi;obtain ⟨p1, bo, p2⟩ := M.k0 (base + i) (ρ.bx (nth 0 keys i)) (by
   simp only[DG,q,fe];show some (ρ.bx (nth 0 keys (base+i-base)))=_;rw[dt])
  exact⟨⟨bo,p2⟩,p1⟩
 have b6:∀i,i<keys.length->T (base+i)=nth 0 keys i:=λi hi=>by
  have:=J6 (names:=keys) (fresh:=A7 keys G) (d:=d) (k:=base+i) ⟨by omega,by omega⟩;rw[dt]at this;exact this
 have e5:∀i,i<ids.length->bi (base+i)=nth 0 ids i:=λi hi=>by
  have:=J6 (names:=ids) (fresh:=A7 ids I) (d:=d) (k:=base+i) ⟨by omega,by omega⟩;rw[dt]at this;exact this
 have e6:∀k∈G.map (·.1),(∃i,i<keys.length/\k=base+i/\T k=nth 0 keys i)\/(Ab aB (T k)=none):=by
  intro k O;by_cases hc:base<=k/\k-base<keys.length
  ·refine .inl ⟨k-base,hc.2,by omega,?_⟩;have:=b6 (k-base) hc.2;rw[show base+(k-base)=k from by omega]at this;exact this
  ·exact .inr (e3 k (HI.2 ⟨O,hc⟩))
 have e7:∀k∈I.map (·.1),(∃i,i<ids.length/\k=base+i/\bi k=nth 0 ids i)\/(Ab aC (bi k)=none):=by
  intro k O;by_cases hc:base<=k/\k-base<ids.length
  ·refine .inl ⟨k-base,hc.2,by omega,?_⟩;have:=e5 (k-base) hc.2;rw[show base+(k-base)=k from by omega]at this;exact this
  ·exact .inr (e4 k (HI.2 ⟨O,hc⟩))
 have e8:∀n b,Ab aB n=some b->n∉keys->∀k∈G.map (·.1),n≠T k:=by
  rintro n b N D k O rfl;rcases e6 k O with⟨i,hi,_,e⟩|e
  ·exact D (by rw[e];exact EH hi)
  ·rw[N]at e;cases e
 have e9:∀n b,Ab aC n=some b->n∉ids->∀k∈I.map (·.1),n≠bi k:=by
  rintro n b N D k O rfl;rcases e7 k O with⟨i,hi,_,e⟩|e
  ·exact D (by rw[e];exact EH hi)
  ·rw[N]at e;cases e
 have Y:∀k,(∃b,Ab G k=some b)->(C_ ρ ρ2 G I T bi).bx (T k)=ρ2.bx k:=λk O=>by
  simp only[C_,Yf c6 (JU.2 O)]
 have a3:∀k,(∃b,Ab I k=some b)->(C_ ρ ρ2 G I T bi).rv (bi k)=ρ2.rv k/\(C_ ρ ρ2 G I T bi).wd (bi k)=ρ2.wd k:=λk O=>by
  constructor<;>simp only[C_,Yf c7 (JU.2 O)]
 have a0:∀n,(∃b,Ab aB n=some b)->(C_ ρ ρ2 G I T bi).bx n=ρ.bx n:=by
  rintro n ⟨b,N⟩;by_cases D:n∈keys
  ·obtain⟨p1,p2⟩:=CO D;obtain⟨q1,q2⟩:=b5 _ p1;have:=Y (base+pos keys n) q1;rw[b6 _ p1,p2,q2,p2]at this;exact this
  ·simp only[C_,XE (e8 n b N D)]
 have a4:∀n,(∃b,Ab aC n=some b)->n∉ids->(C_ ρ ρ2 G I T bi).rv n=ρ.rv n/\(C_ ρ ρ2 G I T bi).wd n=ρ.wd n:=by
  rintro n ⟨b,N⟩ D;constructor<;>simp only[C_,XE (e9 n b N D)]
 have g2:=M.fr.size;have b7:∀n b,Ab aB n=some b->n∉keys->He w ρ keys ids (ρ.bx n):=λn b N D=>
  ⟨V.bxlt N,λk O e=>by obtain⟨b',a5⟩:=b3 k O;exact D (by rw[<-V.bi k n b' b a5 N e];exact O),λid U=>by obtain⟨r,hr⟩:=b4 id U;exact V.br n b id r N hr⟩
 have b8:∀n r g,Ab aC n=some r->n∉ids->(ρ.rv n).ownBlock=some g->He w ρ keys ids g:=λn r g N D hg=>
  ⟨(V.rwlt N hg).2,λk O e=>by obtain⟨b',a5⟩:=b3 k O;exact V.br k b' n r a5 N (by rw[hg,e]),λid U e=>by obtain⟨r',c9⟩:=b4 id U;exact D (by rw[<-V.ri id n r' r g c9 N e hg];exact U)⟩
 have f1:∀b,ρ.im b->He w ρ keys ids b:=λb hb=>
  ⟨(V.ib b hb).1,λk O=>by obtain⟨b',a5⟩:=b3 k O;exact(V.ib b hb).2.1 k b' a5,λid U=>by obtain⟨r,hr⟩:=b4 id U;exact(V.ib b hb).2.2 id r hr⟩
 have fz:∀b,Z.F b->He w ρ keys ids b:=λb hb=>
  ⟨V.fs b hb,λk O e=>by obtain⟨b',a5⟩:=b3 k O;obtain⟨_,_,_,q⟩:=V.bx k b' a5;exact q (e▸hb),λid U e=>by obtain⟨r,hr⟩:=b4 id U;exact(V.rwlt hr e).1 hb⟩
 have hold:∀b,He w ρ keys ids b->w'.heap[b]? =w.heap[b]? :=λb hb=>M.fr.block b hb;have d0:∀b,ρ.im b->ρ2.im b:=λb hb=>M.i0 b hb;have b9:∀b,ρ2.im b->ρ.im b\/ ¬He w ρ keys ids b:=λb hb=>M.i1 b hb
 have g3:∀k∈G.map (·.1),Ab ((Cy keys aB).map λp=>(p.1,CJ ids p.2)) (T k)=none:=by
  intro k O;rw[ED (CJ ids),IQ];rcases e6 k O with⟨i,hi,_,e⟩|e
  ·rw[aa (by rw[e];exact EH hi)];rfl
  ·split
   ·rfl
   ·rw[e];rfl
 have g4:∀k∈I.map (·.1),Ab (Cy ids aC) (bi k)=none:=by
  intro k O;rw[IQ];rcases e7 k O with⟨i,hi,_,e⟩|e
  ·rw[aa (by rw[e];exact EH hi)]
  ·split
   ·rfl
   ·exact e
 obtain⟨c0,d1⟩:=Qu (rk:=T) (g:=λb:Box=>(⟨b.ty,b.cells.map (AC.ren T bi)⟩:Box)) a5 c6 g3;obtain⟨c4,d2⟩:=Qu (rk:=bi) (g:=λb:Row=>b) c9 c7 g4;rw[Uo,Qlb];generalize hB:GF T (λb:Box=>(⟨b.ty,b.cells.map (AC.ren T bi)⟩:Box)) G ((Cy keys aB).map λp=>(p.1,CJ ids p.2))=B' at c0 d1⊢;generalize g7:GF bi (λb:Row=>b) I (Cy ids aC)=R' at c4 d2⊢;have X:∀n b,Ab B' n=some b->(∃k L,Ab G k=some L/\n=T k/\b=⟨L.ty,L.cells.map (AC.ren T bi)⟩)\/(n∉keys/\∃L,Ab aB n=some L/\b=CJ ids L):=by
  intro n b N;by_cases hc:∃k∈G.map (·.1),n=T k
  ·obtain⟨k,O,rfl⟩:=hc;obtain⟨L,c1⟩:=JU.1 O;have:=c0 k L c1;rw[N]at this;simp at this;exact .inl ⟨k,L,c1,rfl,this⟩
  ·rw[d1 n (λk O e=>hc ⟨k,O,e⟩),ED (CJ ids),IQ]at N;split at N
   ·simp at N
   ·rename_i D;simp only[bg]at N;obtain⟨L,E,h2⟩:=N;exact .inr ⟨D,L,E,h2.symm⟩
 have a1:∀n r,Ab R' n=some r->(∃k,Ab I k=some r/\n=bi k)\/(n∉ids/\Ab aC n=some r):=by
  intro n r N;by_cases hc:∃k∈I.map (·.1),n=bi k
  ·obtain⟨k,O,rfl⟩:=hc;obtain⟨L,c1⟩:=JU.1 O;have:=c4 k L c1;rw[N]at this;simp at this;subst this;exact .inl ⟨k,c1,rfl⟩
  ·rw[d2 n (λk O e=>hc ⟨k,O,e⟩),IQ]at N;split at N
   ·simp at N
   ·rename_i D;exact .inr ⟨D,N⟩
 have a6:∀n b,Ab aB n=some b->∃b',Ab B' n=some b':=by
  intro n b N;by_cases D:n∈keys
  ·obtain⟨p1,p2⟩:=CO D;obtain⟨⟨bo,q1⟩,_⟩:=b5 _ p1;have:=c0 _ bo q1;rw[b6 _ p1,p2]at this;exact⟨_,this⟩
  ·rw[d1 n (e8 n b N D),ED (CJ ids),IQ,ab D,N];exact⟨_,rfl⟩
 have c8:∀n r,Ab aC n=some r->n∉ids->Ab R' n=some r:=by
  intro n r N D;rw[d2 n (e9 n r N D),IQ,ab D,N]
 let Q:AC->Prop:=λa=>AC.wf aB aC a/\∀id∈ids,AC.free id a
 have c5:∀a,Q a->a.agree ρ (C_ ρ ρ2 G I T bi):=by
  rintro a ⟨S,hf⟩;have hp:∀l:List AC,(∀a∈l,AC.wfP aB a)->∀a∈l,a.agreeP ρ (C_ ρ ρ2 G I T bi):=by
   intro l hl c hc;have:=hl c hc;cases c<;>first|exact a0 _ this|trivial
  cases a with
  |ptr k o=>exact a0 k S
  |bsl k o=>exact a0 k S
  |own id _ _=>obtain⟨r,E,_⟩:=S;exact a4 id ⟨r,E⟩ (λhm=>hf id hm rfl)
  |rptr id _ _=>obtain⟨r,E,_⟩:=S;exact a4 id ⟨r,E⟩ (λhm=>hf id hm rfl)
  |clo f fs cs=>exact⟨hp fs S.1,hp cs S.2⟩
  |_=>trivial
 have f2:∀(a:AC) (y:Value),Q a->CC ρ w a y->CC (C_ ρ ρ2 G I T bi) w' a y:=λa y hq hy=>CC.mono (ρ':=C_ ρ ρ2 G I T bi) d0 (λb hb=>hold b (f1 b hb)) a y (c5 a hq) hy;have c2:∀a,Q a->AC.wf B' R' a:=by
  rintro a ⟨S,hf⟩;cases a with
  |ptr k o=>obtain⟨b,hb⟩:=S;exact a6 k b hb
  |bsl k o=>obtain⟨b,hb⟩:=S;exact a6 k b hb
  |own id _ _=>obtain⟨r,E,h2⟩:=S;exact⟨r,c8 id r E (λhm=>hf id hm rfl),h2⟩
  |rptr id _ _=>obtain⟨r,E,h2⟩:=S;exact⟨r,c8 id r E (λhm=>hf id hm rfl),h2⟩
  |vptr=>exact S
  |clo f fs cs=>exact⟨λc hc=>AC.wfP_mono a6 (S.1 c hc),λc hc=>AC.wfP_mono a6 (S.2 c hc)⟩
  |_=>trivial
 have d3:∀a,AC.wf G I a->AC.wf B' R' (a.ren T bi):=λa S=>
  P5 (Kp:=λk=>∃b,Ab G k=some b) (Ip:=λi=>∃r,Ab I i=some r) (λk _ ⟨b,hb⟩=>⟨_,c0 k b hb⟩) (λi r _ hr=>⟨r,c4 i r hr,rfl,rfl⟩) (AC.nm_of_wf S) S
 have g5:∀v∈tm.map (Gr ids),TV.wf aB aC v/\∀id∈ids,TV.free id v:=by
  intro v hv;simp only[av]at hv;obtain⟨u,hu,rfl⟩:=hv;exact⟨Qz9 ids (V.wt u hu),λid U=>Qyr ids u id U⟩
 have f3:∀v∈tm.map (Gr ids),(match v with| .v _ cs=>∀a∈cs,Q a| .tup ps=>∀p∈ps,∀a∈p.2,Q a| .dead=>True):=by
  intro v hv;obtain⟨E,h2⟩:=g5 v hv;cases v with
  |dead=>trivial
  |v g cs=>exact λa S=>⟨E a S,λid U=>h2 id U a S⟩
  |tup ps=>exact λp hp a S=>⟨E p hp a S,λid U=>h2 id U p hp a S⟩
 have qB:∀n L,Ab aB n=some L->∀a∈(CJ ids L).cells,Q a:=λn L N a S=>⟨Qya ids (V.wb n L N) a S,λid U=>Qtc ids L id U a S⟩;have c3:TV.wf G I v:=M.wt v (by simp);refine⟨⟨by simpa using V.tl,λi v hi=> ?_,λv hv=> ?_,λn b N a S=> ?_,λn b N=> ?_,λn n' b b' N d4 he=> ?_,λn r N=> ?_,λn n' r r' g N d4 hg a7=> ?_,λn b m r N hm=> ?_,λb hb=>⟨(M.ib b hb).1,λn bo N=> ?_,λn r N=> ?_⟩,?_,?_,λb hb=>d0 b (V.i0 b hb),λb hb=> ?_,λk b O=> ?_⟩,?_,?_⟩
 ·have hv:=bq hi;simp only[eg,bg]at hi;obtain⟨u,hu,rfl⟩:=hi;exact TVR.mono2 f2 (f3 _ hv) (Q1r ids (V.tv i u hu))
 ·have:=f3 v hv;cases v with
  |dead=>trivial
  |v g cs=>exact λa S=>c2 a (this a S)
  |tup ps=>exact λp hp a S=>c2 a (this p hp a S)
 ·rcases X n b N with⟨k,L,E,rfl,rfl⟩|⟨D,L,E,rfl⟩
  ·simp only[av]at S;obtain⟨c,hc,rfl⟩:=S;exact d3 c (M.wb k L E c hc)
  ·exact c2 a (qB n L E a S)
 ·rcases X n b N with⟨k,L,E,rfl,rfl⟩|⟨D,L,E,rfl⟩
  ·obtain⟨arr,q1,q2,q3⟩:=M.bx k L E;refine⟨arr,by rw[Y k ⟨L,E⟩];exact q1,Od (Kp:=λk=>∃b,Ab G k=some b) (Ip:=λi=>∃r,Ab I i=some r) Y a3 rfl (λc hc=>AC.nm_of_wf (M.wb k L E c hc)) q2,?_⟩;rw[Y k ⟨L,E⟩];exact λhf=>q3 (fz _ hf)
  ·obtain⟨arr,q1,q2,q3⟩:=V.bx n L E;rw[a0 n ⟨L,E⟩];refine⟨arr,by rw[hold _ (b7 n L E D),Qvu];exact q1,?_,q3⟩;exact(Qyt ids q2).mono λa S y hy=>f2 a y (qB n L E a S) hy
 ·rcases X n b N with⟨k,L,E,rfl,_⟩|⟨D,L,E,_⟩<;>rcases X n' b' d4 with⟨k',a9,J,rfl,_⟩|⟨a8,a9,J,_⟩
  ·rw[Y k ⟨L,E⟩,Y k' ⟨a9,J⟩]at he;rw[M.bi k k' _ _ E J he]
  ·rw[Y k ⟨L,E⟩,a0 n' ⟨a9,J⟩]at he;obtain⟨_,_,_,q3⟩:=M.bx k L E;exact absurd (he▸b7 n' a9 J a8) q3
  ·rw[a0 n ⟨L,E⟩,Y k' ⟨a9,J⟩]at he;obtain⟨_,_,_,q3⟩:=M.bx k' a9 J;exact absurd (he▸b7 n L E D) q3
  ·rw[a0 n ⟨L,E⟩,a0 n' ⟨a9,J⟩]at he;exact V.bi n n' _ _ E J he
 ·rcases a1 n r N with⟨k,E,rfl⟩|⟨D,E⟩
  ·obtain⟨q1,q2,q0,ys,q3,q4⟩:=M.ro k r E;obtain⟨e1,e2⟩:=a3 k ⟨r,E⟩;rw[e1,e2];exact⟨q1,q2,λg hg hf=>q0 g hg (fz g hf),ys,q3,q4⟩
  ·obtain⟨q1,q2,q0,ys,q3,q4⟩:=V.ro n r E;obtain⟨e1,e2⟩:=a4 n ⟨r,E⟩ D;rw[e1,e2];exact⟨q1,q2,q0,ys,Kk q3 λg hg=>hold g (b8 n r g E D hg),q4.mono d0 (λb hb=>hold b (f1 b hb))⟩
 ·rcases a1 n r N with⟨k,E,rfl⟩|⟨D,E⟩<;>rcases a1 n' r' d4 with⟨k',J,rfl⟩|⟨a8,J⟩
  ·rw[(a3 k ⟨r,E⟩).1]at hg;rw[(a3 k' ⟨r',J⟩).1]at a7;rw[M.ri k k' _ _ g E J hg a7]
  ·rw[(a3 k ⟨r,E⟩).1]at hg;rw[(a4 n' ⟨r',J⟩ a8).1]at a7;obtain⟨_,_,q0,_⟩:=M.ro k r E;exact absurd (b8 n' r' g J a8 a7) (q0 g hg)
  ·rw[(a4 n ⟨r,E⟩ D).1]at hg;rw[(a3 k' ⟨r',J⟩).1]at a7;obtain⟨_,_,q0,_⟩:=M.ro k' r' J;exact absurd (b8 n r g E D hg) (q0 g a7)
  ·rw[(a4 n ⟨r,E⟩ D).1]at hg;rw[(a4 n' ⟨r',J⟩ a8).1]at a7;exact V.ri n n' _ _ g E J hg a7
 ·rcases X n b N with⟨k,L,E,rfl,_⟩|⟨D,L,E,_⟩<;>rcases a1 m r hm with⟨k',J,rfl⟩|⟨d5,J⟩
  ·rw[Y k ⟨L,E⟩,(a3 k' ⟨r,J⟩).1];exact M.br k L k' r E J
  ·rw[Y k ⟨L,E⟩,(a4 m ⟨r,J⟩ d5).1];intro e;obtain⟨_,_,_,q3⟩:=M.bx k L E;exact q3 (b8 m r _ J d5 e)
  ·rw[a0 n ⟨L,E⟩,(a3 k' ⟨r,J⟩).1];intro e;obtain⟨_,_,q0,_⟩:=M.ro k' r J;exact q0 _ e (b7 n L E D)
  ·rw[a0 n ⟨L,E⟩,(a4 m ⟨r,J⟩ d5).1];exact V.br n L m r E J
 ·rcases X n bo N with⟨k,L,E,rfl,_⟩|⟨D,L,E,_⟩
  ·rw[Y k ⟨L,E⟩];exact(M.ib b hb).2.1 k L E
  ·rw[a0 n ⟨L,E⟩];rcases b9 b hb with a2|a2
   ·exact(V.ib b a2).2.1 n L E
   ·exact λe=>a2 (e▸b7 n L E D)
 ·rcases a1 n r N with⟨k,E,rfl⟩|⟨D,E⟩
  ·rw[(a3 k ⟨r,E⟩).1];exact(M.ib b hb).2.2 k r E
  ·rw[(a4 n ⟨r,E⟩ D).1];rcases b9 b hb with a2|a2
   ·exact(V.ib b a2).2.2 n r E
   ·exact λe=>a2 (b8 n r b E D e)
 ·exact V.fr.trans ⟨M.fr.os,M.fr.tape,M.fr.output,M.fr.size,λk O=>hold k (fz k O)⟩
 ·exact λk O=>ej (V.fs k O) g2
 ·rcases b9 b hb with a2|a2
  ·exact V.i1 b a2
  ·exact .inr λhf=>a2 (fz b hf)
 ·obtain⟨q1,bo,q2⟩:=V.k0 k b O;exact⟨by rw[a0 k ⟨bo,q2⟩];exact q1,a6 k bo q2⟩
 ·have g6:TVR ρ2 w' v x:=by simpa using M.tv 0 v rfl
  exact Q0h (Kp:=λk=>∃b,Ab G k=some b) (Ip:=λi=>∃r,Ab I i=some r) Y a3 rfl (TV.nm_of_wf c3) g6
 ·exact Qrn (Kp:=λk=>∃b,Ab G k=some b) (Ip:=λi=>∃r,Ab I i=some r) (λk _ ⟨b,hb⟩=>⟨_,c0 k b hb⟩) (λi r _ hr=>⟨r,c4 i r hr,rfl,rfl⟩) (TV.nm_of_wf c3) c3
theorem Qdm {α:Type} {l:List (Nat×α)} {k:Nat} (h:GG l k=true):Ab l k=none:=by
 unfold GG at h;split at h
 ·cases h
 ·assumption
theorem Q2h {α:Type} {c:Bool} {p:Option α} {q:α} (h:cond c p none=some q):c=true/\p=some q:=by cases c<;>simp at h;exact⟨rfl,h⟩
theorem Q12 {α:Type}:∀{l:List (Nat×α)} {k:Nat} {x y:α},Ab l k=some y->∀n,Ab (upd l k x) n=if n=k then some x else Ab l n
 |[],_,_,_,h,_=>by simp[Ab]at h
 |(j,c)::l,k,x,y,h,n=>by
  simp only[Ab,upd]at h⊢;cases E:Nat.beq j k
  ·rw[E]at h;simp only[ao,Ab]at h⊢;rw[Q12 h n];have G:j≠k:=λe=>by rw[e]at E;simp at E
   cases D:Nat.beq j n
   ·rfl
   ·have:=ac D;subst this;simp[G]
  ·have:=ac E;subst this;simp only[ai,Ab];cases D:Nat.beq j n
   ·have I:n≠j:=λe=>by rw[e]at D;simp at D
    rw[ab I];rfl
   ·rw[aa (ac D).symm];rfl
theorem Qpc {id n':Nat} (a:AC):(∃w n,a= .own id w n/\a.relen id n'= .own id w n')\/a.relen id n'=a.kill id:=by
 cases a with
 |own j w n=>
  cases hb:Nat.beq j id
  ·right;simp only[AC.relen,AC.kill,hb,ao]
  ·left;have:=ac hb;subst this;exact⟨w,n,rfl,by simp only[AC.relen,hb,ai]⟩
 |rptr j p q=>right;rfl
 |_=>right;rfl
theorem RD {R E G:AC->Value->Prop} {id I:Nat} (h:∀a x,E a x->G (a.kill id) x->R (a.relen id I) x):∀{cs:List AC} {xs:List Value},CL E cs xs->CL G (cs.map (AC.kill id)) xs->CL R (cs.map (AC.relen id I)) xs
 |[],[],_,_=>trivial
 |a::cs,x::xs,D,J=>⟨h a x D.1 J.1,RD h D.2 J.2⟩
 |[],_::_,D,_=>D.elim
 |_::_,[],D,_=>D.elim
theorem Qlf {keys ids:List Nat} {v:TV} (h:v.plainB=true):TV.inK keys ids v=true:=by
 cases v with
 |dead=>rfl
 |v g cs=>
  simp only[TV.plainB,TV.inK]at h⊢;rw[As]at h⊢;intro a D;have:=h a D;cases a<;>simp[AC.plain]at this<;>rfl
 |tup ps=>
  simp only[TV.plainB,TV.inK]at h⊢;rw[As]at h⊢;intro p E;have:=h p E;rw[As]at this⊢;intro a D;have:=this a D;cases a<;>simp[AC.plain]at this<;>rfl
theorem Zca {D ri:Nat->Nat} {a:AC} (h:a.calm=true):a.ren D ri=a:=by cases a<;>simp[AC.calm]at h<;>rfl
theorem OY {D ri:Nat->Nat}:∀{l:List AC},Ai AC.calm l=true->l.map (AC.ren D ri)=l
 |[],_=>rfl
 |a::l,h=>by
  rw[As]at h;simp only[ba];rw[Zca (h a (by simp)),OY (As.2 λx E=>h x (by simp[E]))]
theorem Qlt {a:AC} (h:a.plain=true):a.calm=true:=by cases a<;>simp[AC.plain]at h<;>rfl
theorem R9 {E ri:Nat->Nat} {v:TV} (h:v.plainB=true):v.ren E ri=v:=by
 cases v with
 |dead=>rfl
 |v g cs=>
  simp only[TV.plainB,As]at h;simp only[TV.ren];rw[OY (As.2 λa D=>Qlt (h a D))]
 |tup ps=>
  simp only[TV.plainB,As]at h;simp only[TV.ren];congr 1
  conv=>rhs;rw[<-List.map_id ps]
  apply List.map_congr_left;intro p G;rw[OY (As.2 λa D=>Qlt (h p G a D))];rfl
theorem Ztm (a3:Aj P C) (hR:RelE Z tm aB aC ρ tmps w) {o:Oper} {a:Act} {f:FuncId} {args:List TV} {xs:List Value} (h1:xs.length=args.length)
  (h2:∀(i:Nat) (a:TV) (x:Value),args[i]? =some a->xs[i]? =some x->TVR ρ w a x) (h3:execOp a.eval o=callFunc f xs.toArray) (d2:∀v∈args,TV.wf aB aC v) {K:TV->St->Option R} {r:R} {g:Spec} (hg:C.spec f=some g) (d3:C.keepR f=true)
  (h:Pj g args tm aB aC K=some r) {next:Act->World->Prop} {Q:Exit->Act->World->Prop}
  (b3:∀(v:TV) (b7:List TV) (I:List (Nat×Box)) (N:List (Nat×Row)) (ρ':Env) (x:Value) (w':World),K v ⟨b7,I,N⟩=some r->RelE Z b7 I N ρ' tmps w'->TVR ρ' w' v x->TV.wf I N v->next (a.put o.dst x) w'):
  o.wp P a w next Q:=by
 unfold Pj at h;split at h
 ·rename_i id O;split at h
  ·rename_i r0 a4;have b8:∀v∈args,TV.inK [] [id] v=true:=by
    unfold YC at O;split at O
    ·rename_i id' w0 n0 rest;cases hp:Ai TV.plainB rest<;>rw[hp]at O
     ·simp at O
     ·simp only[ai,ap]at O;subst O;intro v hv;rcases az.1 hv with rfl|hv
      ·simp[TV.inK,Ai,AC.inK,AI]
      ·exact Qlf (As.1 hp v hv)
    ·simp at O
   obtain⟨v,⟨e9,f1⟩,hv,d4⟩:=(a3.1 f g hg).run2 h;have b9:Eg aC base [id]=some [(base,r0)]:=by simp[Eg,a4]
   have c0:=Sc hR h1 h2 d2 fx (by simp) (keys:=[]) (ids:=[id]) b8 (λk D=>by simp at D) (show CK aB _ _ base []=some []from rfl) b9;refine OJ h3 ((a3.2.2 f g hg d3 _ _ _ _ d4 _ xs c0).mono ?_);rintro e w' ⟨x,ρ2,he,c5,d5⟩;refine⟨x,he,?_⟩;split at hv
   ·rename_i k r' heq;simp only[Mem.mk.injEq]at heq;obtain⟨rfl,rfl⟩:=heq;obtain⟨hc,c6⟩:=Q2h hv;simp only[al]at hc;obtain⟨⟨⟨c1,c2⟩,c3⟩,c4⟩:=hc;have ek:=ac c1;subst ek;have et:=ac c2;have e0:=Hp c3;simp only[A2]at c6;obtain⟨e1,e2,-⟩:=P0 hR fx (by simp) (show CK aB _ _ base []=some []from rfl) b9 c5 (d:=o.dst.getD 0) (by simp) (by simp) (λk D=>by simp[A7]at D) (λk D=>by rw[show A7 [id] [(base,r')]=[]from rfl]at D;simp at D)
    have f2:A7 [id] [(base,r')]=[]:=rfl;have b4:Bj [id] (A7 [id] [(base,r')]) (o.dst.getD 0) base=id:=rfl;generalize f3:Bj ([]:List Nat) (A7 ([]:List Nat) ([]:List (Nat×Box))) (o.dst.getD 0)=bk at e1 e2;generalize e7:Bj [id] (A7 [id] [(base,r')]) (o.dst.getD 0)=bi at e1 e2 b4;have a8:∀n,Ab (H2 bk bi ([]:List (Nat×Box)) ((Cy [] aB).map λp=>(p.1,CJ [id] p.2))) n=(Ab aB n).map (Box.kill id):=λn=>ED (CJ [id]) aB n;have a9:∀n,Ab (GM bi [(base,r')] (Cy [id] aC)) n=if n=id then some r' else Ab aC n:=by
     intro n;show Ab (ins (del id aC) (bi base) r') n=_;rw[b4];by_cases T:n=id
     ·subst T;rw[aa rfl];exact DI _ _ _ (OF _ _)
     ·rw[ab T,C7 _ _ _ _ T,Iz _ _ _ T]
    have b5:∀n,Ab (aB.map λp=>(p.1,p.2.relen id r'.l.length)) n=(Ab aB n).map (Box.relen id r'.l.length):=λn=>ED (Box.relen id r'.l.length) aB n;have b6:∀n,Ab (upd aC id r') n=if n=id then some r' else Ab aC n:=Q12 a4;generalize H2 bk bi ([]:List (Nat×Box)) ((Cy [] aB).map λp=>(p.1,CJ [id] p.2))=B1 at e1 a8;generalize GM bi [(base,r')] (Cy [id] aC)=R1 at e1 a9;have hinv:Il [(base,r')] bi id=some base:=by rw[<-b4];exact Yf (λa ha b hb _=>by simp at ha hb;rw[ha,hb]) (by simp)
    have a5:(C_ ρ ρ2 [] [(base,r')] bk bi).rv id=ρ.rv id:=by
     simp only[C_,hinv];rw[d5];show ρ.rv (nth 0 [id] (base-base))=_;rw[Nat.sub_self];rfl
    have U:∀k,(C_ ρ ρ2 [] [(base,r')] bk bi).bx k=ρ.bx k:=λk=>by simp only[C_,XE (m:=([]:List (Nat×Box))) (bk:=bk) (n:=k) (by simp)]
    generalize C_ ρ ρ2 [] [(base,r')] bk bi=ρB at e1 e2 a5 U;have b1:=e1.ro id r' (by rw[a9,aa rfl]);have c7:=hR.ro id r0 a4;have c8:r'.w=r0.w:=by show r'.ks.length=r0.ks.length;rw[e0]
    have E:∀(a:AC) (y:Value),CC ρ w a y->CC ρB w' (a.kill id) y->CC ρB w' (a.relen id r'.l.length) y:=by
     intro a y J G;rcases Qpc (id:=id) (n':=r'.l.length) a with⟨w1,n1,rfl,e⟩|e
     ·rw[e];obtain⟨s1,s2,_⟩:=J;refine⟨s1.trans a5.symm,by rw[b1.2.1,c8,<-c7.2.1];exact s2,?_⟩;obtain⟨_,_,_,ys,⟨_,o2⟩,_⟩:=b1;rw[a5,<-s1]at o2;rcases o2 with⟨o3,o4⟩|⟨g',o',cap,cur,o3,_⟩
      ·exact .inl ⟨o3,o4⟩
      ·exact .inr ⟨g',o',cap,o3⟩
     ·rw[e];exact G
    have a6:∀a:AC,AC.wf aB aC a->AC.wf B1 R1 (a.kill id)->AC.wf (aB.map λp=>(p.1,p.2.relen id r'.l.length)) (upd aC id r') (a.relen id r'.l.length):=by
     intro a J G;rcases Qpc (id:=id) (n':=r'.l.length) a with⟨w1,n1,rfl,e⟩|e
     ·rw[e];obtain⟨r2,s1,s2,s3⟩:=J;rw[a4]at s1;simp only[ap]at s1;subst s1;exact⟨r',by rw[b6,aa rfl],rfl,c8.trans s3⟩
     ·rw[e];refine AC.wf_mono (λk b D=> ?_) (λk r D=>⟨r,by rw[b6,<-a9];exact D,rfl,rfl⟩) G;rw[a8]at D;rw[b5];cases X:Ab aB k with
      |none=>rw[X]at D;simp at D
      |some S=>exact⟨_,rfl⟩
    have V:∀k b,Ab (aB.map λp=>(p.1,p.2.relen id r'.l.length)) k=some b->∃S,Ab aB k=some S/\b=S.relen id r'.l.length/\Ab B1 k=some (S.kill id):=by
     intro k b D;rw[b5]at D;cases X:Ab aB k with
     |none=>rw[X]at D;simp at D
     |some S=>
      rw[X]at D;simp only[fe,ap]at D;exact⟨S,rfl,D.symm,by rw[a8,X];rfl⟩
    have a7:∀n r,Ab (upd aC id r') n=some r->Ab R1 n=some r:=λn r T=>by rw[a9,<-b6];exact T
    have e3:∀(ps:List (Bool×List AC)) (ys:List Value),TP ρ w ps ys->TP ρB w' (ps.map λp=>(p.1,p.2.map (AC.kill id))) ys->TP ρB w' (ps.map λp=>(p.1,p.2.map (AC.relen id r'.l.length))) ys:=by
     intro ps;induction ps with
     |nil=>intro ys J G;cases ys<;>exact G
     |cons p ps ih=>
      intro ys J G;obtain⟨gg,cs⟩:=p;cases ys with
      |nil=>exact J.elim
      |cons y ys=>
       refine⟨?_,ih ys J.2 G.2⟩;have z1:=J.1;have z2:=G.1;cases gg
       ·obtain⟨a1,Y,t2⟩:=z1;obtain⟨a2,L,t4⟩:=z2;subst Y;simp only[ba,cm,fh,i6]at L;subst L;exact⟨_,rfl,E a1 y t2 t4⟩
       ·obtain⟨y1,Y,t2⟩:=z1;obtain⟨y2,L,t4⟩:=z2;rw[Y]at L;simp only[Value.agg.injEq]at L;subst L;exact⟨y1,Y,RD E t2 t4⟩
    refine b3 v _ _ _ ρB x w' c6 ⟨by simpa using hR.tl,λi u hi=> ?_,λu hu=> ?_,λk b D a ha=> ?_,λk b D=> ?_,λk k' b b' D e4 he=> ?_,λn r T=>e1.ro n r (a7 n r T),λn n' r r2 g2 T e5=>e1.ri n n' r r2 g2 (a7 n r T) (a7 n' r2 e5),
     λk b n r D T=> ?_,λb hb=> ?_,e1.fr,e1.fs,e1.i0,e1.i1,λk b D=> ?_⟩ (by rw[R9 c4]at e2;exact e2) (HO c4)
    ·rw[eg]at hi;cases X:tm[i]? with
     |none=>rw[X]at hi;simp at hi
     |some u0=>
      rw[X]at hi;simp only[fe,ap]at hi;subst hi;have z1:=hR.tv i u0 X;have z2:=e1.tv i (u0.kill id) (by rw[eg,X];rfl);cases u0 with
      |dead=>trivial
      |v gg cs=>
       cases gg
       ·obtain⟨a1,Y,t2⟩:=z1;obtain⟨a2,L,t4⟩:=z2;subst Y;simp only[ba,cm,fh,i6]at L;subst L;exact⟨_,rfl,E a1 _ t2 t4⟩
       ·obtain⟨y1,Y,t2⟩:=z1;obtain⟨y2,L,t4⟩:=z2;rw[Y]at L;simp only[Value.agg.injEq]at L;subst L;exact⟨y1,Y,RD E t2 t4⟩
      |tup ps=>
       obtain⟨y1,Y,t2⟩:=z1;obtain⟨y2,L,t4⟩:=z2;rw[Y]at L;simp only[Value.tuple.injEq]at L;subst L;exact⟨y1,Y,e3 ps _ t2 t4⟩
    ·rw[av]at hu;obtain⟨u0,c9,rfl⟩:=hu;have z1:=hR.wt u0 c9;have z2:=e1.wt (u0.kill id) (av.2 ⟨u0,c9,rfl⟩);cases u0 with
     |dead=>trivial
     |v gg cs=>
      intro a ha;obtain⟨a0,M,rfl⟩:=av.1 ha;exact a6 a0 (z1 a0 M) (z2 _ (av.2 ⟨a0,M,rfl⟩))
     |tup ps=>
      intro p hp a ha;obtain⟨p0,d0,rfl⟩:=av.1 hp;obtain⟨a0,M,rfl⟩:=av.1 ha;exact a6 a0 (z1 p0 d0 a0 M) (z2 _ (av.2 ⟨p0,d0,rfl⟩) _ (av.2 ⟨a0,M,rfl⟩))
    ·obtain⟨S,J,rfl,G⟩:=V k b D;obtain⟨a0,M,rfl⟩:=av.1 ha;exact a6 a0 (hR.wb k S J a0 M) (e1.wb k _ G _ (av.2 ⟨a0,M,rfl⟩))
    ·obtain⟨S,J,rfl,G⟩:=V k b D;obtain⟨d1,s1,s2,s3⟩:=hR.bx k S J;obtain⟨e8,s4,s5,s6⟩:=e1.bx k _ G;have b2:w'.heap[ρ.bx k]? =w.heap[ρ.bx k]? :=c5.fr.block (ρ.bx k) ⟨(da.1 s1).1,λj hj=>by simp at hj,λj hj=>by
      simp only[gp]at hj;subst hj;exact hR.br k S j r0 J a4⟩
     rw[U,b2,s1]at s4;simp only[ap,Obj.cells.injEq]at s4;obtain⟨rfl,_⟩:=s4;exact⟨d1,by rw[U,b2];exact s1,RD E s2 s5,by rw[U];exact s3⟩
    ·obtain⟨S,J,rfl,G⟩:=V k b D;obtain⟨f4,g0,rfl,e6⟩:=V k' b' e4;exact e1.bi k k' _ _ G e6 he
    ·obtain⟨S,J,rfl,G⟩:=V k b D;exact e1.br k _ n r G (a7 n r T)
    ·obtain⟨J,G,q3⟩:=e1.ib b hb;exact⟨J,λk bo D=>by obtain⟨S,_,_,s2⟩:=V k bo D;exact G k _ s2,λn r T=>q3 n r (a7 n r T)⟩
    ·obtain⟨J,bo,G⟩:=e1.k0 k b D;rw[a8]at G;rw[b5];cases X:Ab aB k with
     |none=>rw[X]at G;simp at G
     |some S=>exact⟨J,_,rfl⟩
   ·simp at hv
  ·simp at h
 ·simp at h
theorem Zc6 (G:Aj P C) (hR:RelE Z tm aB aC ρ tmps w) {o:Oper} {a:Act} {f:FuncId} {args:List TV} {xs:List Value} (h1:xs.length=args.length)
  (h2:∀(i:Nat) (a:TV) (x:Value),args[i]? =some a->xs[i]? =some x->TVR ρ w a x) (h3:execOp a.eval o=callFunc f xs.toArray) (T:∀v∈args,TV.wf aB aC v) {K:TV->St->Option R} {r:R}
  (h:A6 C o.dst (.callM f args) ⟨tm,aB,aC⟩ K=some r) {next:Act->World->Prop} {Q:Exit->Act->World->Prop}
  (I:∀(v:TV) (U:List TV) (D:List (Nat×Box)) (E:List (Nat×Row)) (ρ':Env) (x:Value) (w':World),K v ⟨U,D,E⟩=some r->RelE Z U D E ρ' tmps w'->TVR ρ' w' v x->TV.wf D E v->next (a.put o.dst x) w'):
  o.wp P a w next Q:=by
 simp only[A6]at h;split at h
 ·rename_i g hg;have a2:=G.1 f g hg;cases V:C.keepR f<;>rw[V]at h
  case true=>
   simp only[ai]at h;exact Ztm G hR h1 h2 h3 T hg V h I
  simp only[ao]at h;simp only[A2]at h;generalize N:Jn aB 4 (AZ (cat AC.keys (cat TV.cellsOf args)) [])=keys at h;generalize hi:Lf aB (cat TV.cellsOf args) keys=ids at h;clear N hi;cases hc:(Ai (TV.inK keys ids) args&&Ai (λk=>Ai (AC.inK keys ids) (DM aB k)) keys&&Bz keys&&Bz ids)<;>rw[hc]at h
  ·simp at h
  ·simp only[ai]at h;simp only[al]at hc;obtain⟨⟨⟨c1,c2⟩,c3⟩,c4⟩:=hc;split at h
   ·rename_i mb mr X Y;have a0:=Hn.1 c3;have M:=Hn.1 c4;obtain⟨v,⟨J,L⟩,O,a3⟩:=a2.run h;have a1:=Sc hR h1 h2 T a0 M (λv O=>As.1 c1 v O) (λk N=>As.1 c2 k N) X Y;refine OJ h3 ((a3 _ xs a1).mono ?_);rintro e w' ⟨x,ρ2,he,a4⟩;dsimp only at O;cases S:(Ai (λp:Nat×Box=>DA J p.1) mb&&Bz (J.map (·.1))&&Bz (L.map (·.1))&&Ai (λk=>GG aB (Bj keys (A7 keys J) (o.dst.getD 0) k)) (A7 keys J)&&Ai (λk=>GG aC (Bj ids (A7 ids L) (o.dst.getD 0) k)) (A7 ids L)&&Nat.ble (A7 keys J).length 100&&Nat.ble (A7 ids L).length 100)<;>rw[S]at O
    ·simp at O
    ·simp only[ai]at O;simp only[al]at S;obtain⟨⟨⟨⟨⟨⟨_,d2⟩,d3⟩,d4⟩,d5⟩,_⟩,_⟩:=S;obtain⟨e1,e2,e3⟩:=P0 hR a0 M X Y a4 (d:=o.dst.getD 0) (Hn.1 d2) (Hn.1 d3) (λk N=>Qdm (As.1 d4 k N)) (λk N=>Qdm (As.1 d5 k N));exact⟨x,he,I _ _ _ _ _ x w' O e1 e2 e3⟩
   ·simp at h
 ·simp at h
theorem RelE.cong {D:List (Nat×Box)} (h:RelE Z tm aB aC ρ tmps w) (G:∀k,Ab D k=Ab aB k):RelE Z tm D aC ρ tmps w:=by
 have L:∀a,AC.wf aB aC a->AC.wf D aC a:=λa=>AC.wf_mono (λk b E=>⟨b,by rw[G];exact E⟩) (λk r E=>⟨r,E,rfl,rfl⟩);exact⟨h.tl,h.tv,λv M=>TV.wf_mono L (h.wt v M),λk b E a I=>L a (h.wb k b (by rw[<-G];exact E) a I),
  λk b E=>h.bx k b (by rw[<-G];exact E),λk k' b b' E J=>h.bi k k' b b' (by rw[<-G];exact E) (by rw[<-G];exact J),h.ro,h.ri,
  λk b id r E=>h.br k b id r (by rw[<-G];exact E),λb hb=>⟨(h.ib b hb).1,λk bo E=>(h.ib b hb).2.1 k bo (by rw[<-G];exact E),(h.ib b hb).2.2⟩,
  h.fr,h.fs,h.i0,h.i1,λk b E=>⟨(h.k0 k b E).1,by rw[G];exact(h.k0 k b E).2⟩⟩
theorem Qt5 {keys:List Nat} (E:keys.Nodup):∀{m l:List (Nat×Box)},(m.map (·.1)).Nodup->(∀k∈m.map (·.1),base<=k/\k-base<keys.length)->(∀k∈keys,∃b,Ab l k=some b)->
  (∀k b,Ab m k=some b->Ab (Cb keys m l) (nth 0 keys (k-base))=some b)/\(∀n,(∀k∈m.map (·.1),n≠nth 0 keys (k-base))->Ab (Cb keys m l) n=Ab l n)
 |[],l,_,_,_=>⟨λk b h=>by simp[Ab]at h,λn _=>rfl⟩
 |(j,c)::m,l,I,J,N=>by
  simp only[ba,ik]at I;have O:=J j (by simp);have L:∀k∈m.map (·.1),nth 0 keys (j-base)≠nth 0 keys (k-base):=λk D e=>by
   have M:=J k (by simp at D⊢;exact .inr D);have U:=ie (pos keys) e;rw[G7 E O.2,G7 E M.2]at U;have:k=j:=by omega
   subst this;exact I.1 D
  obtain⟨y,S⟩:=N _ (EH O.2);obtain ⟨V, T⟩ := Qt5 E (m := m) (l := upd l (nth 0 keys (j - base)) c) I.2 (λk D => J k (by simp at D ⊢; exact .inr D)) (λk D => by
   by_cases e:k=nth 0 keys (j-base)
   ·subst e;exact⟨c,DU _ _ _ _ S⟩
   ·rw[C4 _ _ _ _ e];exact N k D)
  refine⟨λk b D=> ?_,λn G=> ?_⟩
  ·simp only[Ab]at D;simp only[Cb];cases hb:Nat.beq j k<;>rw[hb]at D
   ·exact V k b D
   ·have:=ac hb;subst this;simp at D;subst D;rw[T _ L];exact DU _ _ _ _ S
  ·simp only[Cb];rw[T n (λk D=>G k (by simp at D⊢;exact .inr D))];exact C4 _ _ _ _ (G j (by simp))
theorem QQ {α:Type} {l:List (Nat×α)} {k:Nat} (h:DA l k=true):∃b,Ab l k=some b:=by
 unfold DA at h;split at h
 ·rename_i b hb;exact⟨b,hb⟩
 ·cases h
theorem Zom {keys:List Nat} (M:keys.Nodup) {S D:List (Nat×Box)} (T:CK aB (λk=>base+pos keys k) (λi=>base+pos [] i) base keys=some S)
  (h1:∀p∈S,DA D p.1=true) (h2:∀p∈D,DA S p.1=true) (X:(D.map (·.1)).Nodup) (h4:∀p∈D,Ai AC.calm p.2.cells=true) (bi:Nat->Nat) (d:Nat) (k:Nat):
  Ab (Cb keys D aB) k=Ab (H2 (Bj keys [] d) bi D ((Cy keys aB).map λp=>(p.1,CJ [] p.2))) k:=by
 obtain⟨b1,b2⟩:=Ix T;have E:∀k∈D.map (·.1),base<=k/\k-base<keys.length:=by
  intro k G;simp only[av]at G;obtain⟨p,U,rfl⟩:=G;obtain⟨b,hb⟩:=QQ (h2 p U);obtain⟨i,Y,e⟩:=b2 _ _ hb;omega
 have N:∀i,i<keys.length->∃b,Ab D (base+i)=some b:=by
  intro i Y;obtain⟨x,_,q⟩:=b1 i Y;exact QQ (h1 _ (LT q))
 have V:∀k∈keys,∃b,Ab aB k=some b:=λk G=>by
  obtain⟨x,q,_⟩:=b1 (pos keys k) (CO G).1;rw[(CO G).2]at q;exact⟨x,q⟩
 have I:∀k∈D.map (·.1),Bj keys [] d k=nth 0 keys (k-base):=λk G=>J6 (E k G);obtain⟨u1,u2⟩:=Qt5 (l:=aB) M X E V;have J:∀n,Ab ((Cy keys aB).map λp=>(p.1,CJ [] p.2)) n=if n∈keys then none else Ab aB n:=by
  intro n;rw[ED,IQ];split
  ·rfl
  ·cases Ab aB n<;>rfl
 have O:∀k∈D.map (·.1),∀j∈D.map (·.1),Bj keys [] d k=Bj keys [] d j->k=j:=by
  intro k G j L e;rw[I k G,I j L]at e;have e':=ie (pos keys) e;rw[G7 M (E k G).2,G7 M (E j L).2]at e';have:=E k G;have:=E j L;omega
 rw[Uo];obtain ⟨v1, v2⟩ := Qu (rk := Bj keys [] d) (g := λb : Box => (⟨b.ty, b.cells.map (AC.ren (Bj keys [] d) bi)⟩ : Box)) (m := D) (l := (Cy keys aB).map λp => (p.1, CJ [] p.2)) X O (λk G => by
  rw[J,I k G,aa (EH (E k G).2)])
 by_cases G:k∈keys
 ·obtain⟨U,hn⟩:=CO G;obtain⟨b,hb⟩:=N _ U;have e1:=u1 _ b hb;have e2:=v1 _ b hb;rw[I _ (JU.2 ⟨b,hb⟩)]at e2;rw[show base+pos keys k-base=pos keys k from by omega,hn]at e1 e2;rw[e1,e2];have:=h4 _ (LT hb);rw[OY this]
 ·rw[u2 k (λj L e=>G (by rw[e];exact EH (E j L).2)),v2 k (λj L e=>G (by rw[e,I j L];exact EH (E j L).2)),J,ab G]
theorem Q7s (M:Aj P C) (hR:RelE Z tm aB aC ρ tmps w) {o:Oper} {a:Act} {f:FuncId} {args:List TV} {xs:List Value} (h1:xs.length=args.length)
  (h2:∀(i:Nat) (a:TV) (x:Value),args[i]? =some a->xs[i]? =some x->TVR ρ w a x) (h3:execOp a.eval o=callFunc f xs.toArray) (Y:∀v∈args,TV.wf aB aC v) {K:TV->St->Option R} {r:R}
  (h:A6 C o.dst (.callD f args) ⟨tm,aB,aC⟩ K=some r) {next:Act->World->Prop} {Q:Exit->Act->World->Prop}
  (N:∀(v:TV) (T:List TV) (D:List (Nat×Box)) (E:List (Nat×Row)) (ρ':Env) (x:Value) (w':World),K v ⟨T,D,E⟩=some r->RelE Z T D E ρ' tmps w'->TVR ρ' w' v x->TV.wf D E v->next (a.put o.dst x) w'):
  o.wp P a w next Q:=by
 simp only[A6]at h;split at h
 ·rename_i g hg;have a0:=M.1 f g hg;simp only[A2]at h;generalize G:AZ (cat AC.keys (cat TV.cellsOf args)) []=keys at h;clear G;cases hc:(Ai (TV.inK keys []) args&&Ai (λk=>Ai AC.calm (DM aB k)) keys&&Bz keys)<;>rw[hc]at h
  ·simp at h
  ·simp only[ai]at h;simp only[al]at hc;obtain⟨⟨c1,c2⟩,c3⟩:=hc;have a1:Ai (λk=>Ai (AC.inK keys []) (DM aB k)) keys=true:=by
    rw[As]at c2⊢;intro k G;have:=c2 k G;rw[As]at this⊢;intro b hb;have:=this b hb;cases b<;>simp[AC.calm]at this<;>rfl
   split at h
   ·rename_i mb J;have O:=Hn.1 c3;obtain⟨v,⟨I,a2⟩,L,a3⟩:=a0.run h;have U:=Sc hR h1 h2 Y O fx (λv L=>As.1 c1 v L) (λk G=>As.1 a1 k G) J (show Eg aC base []=some []from rfl);refine OJ h3 ((a3 _ xs U).mono ?_);rintro e w' ⟨x,ρ2,he,a4⟩;cases a2 with
    |cons _ _=>simp at L
    |nil=>
     dsimp only at L;cases S:(Ai (λp:Nat×Box=>DA I p.1) mb&&Ai (λp:Nat×Box=>DA mb p.1) I&&Bz (I.map (·.1))&&Ai (λp:Nat×Box=>Ai AC.calm p.2.cells) I&&v.plainB)<;>rw[S]at L
     ·simp at L
     ·simp only[ai]at L;simp only[al]at S;obtain⟨⟨⟨⟨d1,d2⟩,d3⟩,d4⟩,d5⟩:=S;have V:A7 keys I=[]:=by
       apply List.eq_nil_iff_forall_not_mem.2;intro k G;obtain⟨q1,q2⟩:=HI.1 G;simp only[av]at q1;obtain⟨p,hp,rfl⟩:=q1;obtain⟨b,hb⟩:=QQ (As.1 d2 p hp);obtain⟨i,hi,e⟩:=(Ix J).2 _ _ hb;exact q2 (by omega)
      obtain⟨e1,e2,e3⟩:=P0 hR O fx J (show Eg aC base []=some []from rfl) a4 (d:=o.dst.getD 0) (Hn.1 d3) fx (λk G=>by rw[V]at G;simp at G) (λk G=>by simp[A7]at G);rw[V]at e1 e2 e3;have a5:=Zom O J (As.1 d1) (As.1 d2) (Hn.1 d3) (As.1 d4) (Bj [] (A7 [] ([]:List (Nat×Row))) (o.dst.getD 0)) (o.dst.getD 0);have X:=e1.cong a5;have a6:tm.map (Gr [])=tm:=by
       conv=>rhs;rw[<-List.map_id tm]
       rfl
      rw[a6]at X;rw[R9 d5]at e2;exact⟨x,he,N _ _ _ _ _ x w' L X e2 (HO d5)⟩
   ·simp at h
 ·simp at h
theorem Qov {rk ri:Nat->Nat}:∀{args:List TV},Ai TV.plainB args=true->args.map (TV.ren rk ri)=args
 |[],_=>rfl
 |a::l,h=>by
  simp only[Ai]at h;obtain⟨h1,h2⟩:=cond_none' h;simp only[ba];rw[R9 h1,Qov h2]
 where cond_none' {c p:Bool} (h:cond c p false=true):c=true/\p=true:=by cases c<;>simp at h;exact⟨rfl,h⟩
theorem Qls (x:Nat):x.blt 0=false:=rfl
theorem Q55 (j:Nat) (r:Row):A7 [] [(j,r)]=[j]:=by
 have D:(base.ble j&&(j-base).blt 0)=false:=by
  rw[Qls,Bool.and_false]
 unfold A7;simp only[bm,D,ao];rfl
theorem Znn (j d:Nat):Bj [] [j] d j=Gk d:=by
 have D:(base.ble j&&(j-base).blt 0)=false:=by
  rw[Qls,Bool.and_false]
 unfold Bj Gk;simp only[bm,D,ao,pos,gz,ai,Nat.add_zero]
theorem Zt3 (U:Aj P C) (hR:RelE Z tm aB aC ρ tmps w) {o:Oper} {a:Act} {f:FuncId} {args:List TV} {xs:List Value} (h1:xs.length=args.length)
  (h2:∀(i:Nat) (a:TV) (x:Value),args[i]? =some a->xs[i]? =some x->TVR ρ w a x) (h3:execOp a.eval o=callFunc f xs.toArray) (a9:∀v∈args,TV.wf aB aC v) {K:TV->St->Option R} {r:R}
  (h:A6 C o.dst (.callF f args) ⟨tm,aB,aC⟩ K=some r) {next:Act->World->Prop} {Q:Exit->Act->World->Prop}
  (J:∀(v:TV) (a1:List TV) (D:List (Nat×Box)) (G:List (Nat×Row)) (ρ':Env) (x:Value) (w':World),K v ⟨a1,D,G⟩=some r->RelE Z a1 D G ρ' tmps w'->TVR ρ' w' v x->TV.wf D G v->next (a.put o.dst x) w'):
  o.wp P a w next Q:=by
 simp only[A6]at h;split at h
 ·rename_i g hg;have b0:=U.1 f g hg;cases V:Ai TV.plainB args<;>rw[V]at h
  ·simp at h
  simp only[ai]at h;obtain⟨v,⟨b1,L⟩,E,b2⟩:=b0.run h;have O:=Sc hR h1 h2 a9 fx fx (keys:=[]) (ids:=[]) (λv E=>Qlf (As.1 V v E)) (λk M=>by simp at M) (show CK aB _ _ base []=some []from rfl) (show Eg aC base []=some []from rfl);rw[Qov V]at O;refine OJ h3 ((b2 _ xs O).mono ?_);rintro e w' ⟨x,ρ2,he,a2⟩;have a3:tm.map (Gr [])=tm:=by
   conv=>rhs;rw[<-List.map_id tm]
   rfl
  have X:(Cy [] aB).map (λp=>(p.1,CJ [] p.2))=aB:=by
   conv=>rhs;rw[<-List.map_id aB]
   rfl
  cases b1 with
  |cons _ _=>simp at E
  |nil=>
  have a4:(L.map (·.1)).Nodup->(∀k∈A7 [] L,Ab aC (Bj [] (A7 [] L) (o.dst.getD 0) k)=none)->_:=λd1 d2=>
   P0 hR fx fx (show CK aB _ _ base []=some []from rfl) (show Eg aC base []=some []from rfl) a2 (d:=o.dst.getD 0) (by simp) d1 (λk M=>by simp[A7]at M) d2
  cases L with
  |nil=>
   dsimp only at E;cases Y:v.plainB<;>rw[Y]at E
   ·simp at E
   simp only[ai]at E;obtain⟨e1,e2,e3⟩:=a4 (by simp) (λk M=>by simp[A7]at M);rw[a3,X]at e1;rw[R9 Y]at e2;exact⟨x,he,J _ _ _ _ _ x w' E e1 e2 (HO Y)⟩
  |cons p l=>
   obtain⟨k,I⟩:=p;cases l with
   |cons _ _=>simp at E
   |nil=>
    dsimp only at E;split at E
    ·rename_i j w0 n0;cases N:Nat.beq j k<;>rw[N]at E
     ·simp at E
     simp only[ai]at E;have N:=ac N;subst N;split at E
     ·simp at E
     rename_i a0;simp only[A2]at E;have hf:=Q55 j I;have hb:=Znn j (o.dst.getD 0);obtain ⟨e1, e2, e3⟩ := a4 (by simp) (λk M => by
      rw[hf]at M⊢;simp at M;subst M;rw[hb];exact a0)
     rw[a3,X]at e1;rw[X]at e3;have b3:=a2.wt (.v false [.own j w0 n0]) (by simp) (.own j w0 n0) (by simp);obtain⟨r1,a5,b4,b5⟩:=b3;simp only[Ab,gz,ai,ap]at a5;subst a5;have S:TV.ren (Bj [] (A7 ([]:List Nat) ([]:List (Nat×Box))) (o.dst.getD 0)) (Bj [] (A7 [] [(j,I)]) (o.dst.getD 0)) (.v false [.own j w0 n0])= .c (.own (Gk (o.dst.getD 0)) I.ks.length I.l.length):=by
      simp only[TV.ren,ba,cm,AC.ren,hf,hb];rw[<-b5,<-b4]
     have T:GM (Bj [] (A7 [] [(j,I)]) (o.dst.getD 0)) [(j,I)] (Cy [] aC)=ins aC (Gk (o.dst.getD 0)) I:=by
      simp only[GM,hf,hb,Cy]
     have a6:=e1;rw[T]at a6;have a7:=e2;rw[S]at a7;have a8:=e3;rw[S,T]at a8;exact⟨x,he,J _ _ _ _ _ x w' E a6 a7 a8⟩
    ·simp at E
 ·simp at h
end
open Go.RowKit
section
variable {P:Program} {C:Cfg} {ρ:Env} {w:World} {R:Type} {Z:Base} {tm:List TV} {aB:List (Nat×Box)} {aC:List (Nat×Row)} {tmps:Array Value}
theorem Q5r {g:Bool} {sz off:Nat} {cells:List AC} {v:TV} (D:Cp g sz cells off=some v) (hb:∀a∈cells,AC.wf aB aC a):TV.wf aB aC v:=by
 unfold Cp at D;cases g
 ·simp only[ao]at D;split at D
  ·rename_i c G;simp at D;subst D;intro c' E;simp at E;subst E;exact hb _ (bq G)
  ·simp at D
 ·simp only[ai]at D;cases I:Nat.ble (off+sz) cells.length<;>rw[I]at D
  ·simp at D
  ·simp at D;subst D;intro c G;exact hb c (eu (d7 G))
theorem Zna {a L:TV} (D:a.hasOwn=false) (I:a.res aC=some L):a=L:=by
 have M:∀(cs E:List AC),cs.any AC.isOwn=false->DJ aC cs=some E->cs=E:=by
  intro cs;induction cs with
  |nil=>intro E _ h;simp[DJ]at h;rw[h]
  |cons b cs N=>
   intro E D h;simp only[List.any_cons,Bool.or_eq_false_iff]at D;simp only[DJ]at h;split at h
   ·rename_i b' G;split at h
    ·rename_i S J;simp at h;subst h;rw[N _ D.2 J];have O:=D.1;cases b<;>simp only[AC.res]at G<;>first|(simp at G;done)|(simp[AC.isOwn]at O;done)|(simp at G;subst G;rfl)
    ·simp at h
   ·simp at h
 cases a with
 |dead=>simp[TV.res]at I
 |tup=>simp[TV.res]at I
 |v g cs=>
  simp only[TV.res]at I;split at I
  ·rename_i l h;simp at I;subst I;rw[M _ _ D h]
  ·simp at I
theorem Q4d {t e:TypeId} {i:TypeInfo} {z:Value} (D:P.underlying t=some (.slice e)) (E:P.info? e=some i) (G:i.zero=some z) {kl kc:IntKind} {n:Nat} (hb:n*i.bytes<=140737488355328) (I:n<=140737488355328):
  ∃(w':World) (arr:Array Value),(Instr.makeSlice t (.int kl (n:Int)) (.int kc (n:Int))).run P w= .ok (.slice (some ⟨w.heap.size,0,none⟩) n n) w'/\w'=w.alloc (.cells arr e)/\
   arr.toList=(List.range (n*i.size)).map λj=>z.cells[j%z.cells.size]! :=by
 have e1:((n*i.bytes:Nat):Int)=(n:Int)*(i.bytes:Int):=bz _ _;have e2:(i.bytes:Int)*(n:Int)<=281474976710656:=by rw[iv];omega
 have h:=run_make w t e i z D E G kl kc (n:Int) (n:Int) (by omega) (Int.le_refl _) e2 (by omega);rw[ag]at h;exact⟨_,madeCells z.cells (n*i.size),h,rfl,by simp[madeCells]⟩
theorem Qie (a4:Aj P C) (O:RelE Z tm aB aC ρ tmps w) {o:Oper} {a:Act} {p:Prim} (hp:HX P ρ w a.eval o p) (a2:Prim.wf aB aC p) (c9:Prim.isApp (some p)=false) {K:TV->St->Option R} {r:R}
  (h:A6 C o.dst p ⟨tm,aB,aC⟩ K=some r) {next:Act->World->Prop} {Q:Exit->Act->World->Prop}
  (E:∀(v:TV) (g1:List TV) (a5:List (Nat×Box)) (b2:List (Nat×Row)) (ρ':Env) (x:Value) (w':World),K v ⟨g1,a5,b2⟩=some r->RelE Z g1 a5 b2 ρ' tmps w'->TVR ρ' w' v x->TV.wf a5 b2 v->next (a.put o.dst x) w'):
  o.wp P a w next Q:=by
 cases p with
 |val v=>
  obtain⟨x,U,S⟩:=hp;exact Gx U (E v _ _ _ ρ x w h O S a2)
 |load g sz key off=>
  obtain⟨t,U,S,T⟩:=hp;simp only[A6]at h;split at h
  ·rename_i b M;split at h
   ·rename_i v V;obtain⟨arr,q1,q2,q3⟩:=O.bx key b M;obtain ⟨x, X, q5⟩ := Se (b := ρ.bx key) (o := 0) U S V q2 (λj y hj => by
     simp only[dl];rw[cell_of_row w _ j arr b.ty (0,0) q1];simpa using hj)
    rw[dl]at X;rw[X]at T;refine Gx T (E v _ _ _ ρ x w h O q5 ?_);have hb:=O.wb key b M;unfold Cp at V;cases g
    ·simp only[ao]at V;split at V
     ·rename_i c I;simp at V;subst V;intro c' b6;simp at b6;subst b6;exact hb _ (bq I)
     ·simp at V
    ·simp only[ai]at V;cases b3:Nat.ble (off+sz) b.cells.length<;>rw[b3]at V
     ·simp at V
     ·simp at V;subst V;intro c I;exact hb c (eu (d7 I))
   ·simp at h
  ·simp at h
 |store key off cs=>
  obtain⟨t,x,U,S,T⟩:=hp;simp only[A6]at h;split at h
  ·rename_i b M;cases hb:Nat.ble (off+cs.length) b.cells.length<;>rw[hb]at h
   ·simp at h
   ·simp only[ai,A2]at h;have hle:=bc hb;obtain⟨arr,q1,q2,q3⟩:=O.bx key b M;have hlen:=S.length;rw[hlen]at U hle;have X:=Qpr U q1 (by rw[<-dm,<-q2.length];exact hle) S.one;rw[X]at T;refine Q0o T (E .dead _ _ _ ρ undef _ h (O.store M ?_ ?_) trivial trivial)
    ·intro c I;rw[Fq _ _ _ (by rw[hlen];exact hle)]at I;simp only[co]at I;rcases I with(I|I)|I
     ·exact O.wb key b M c (d7 I)
     ·exact a2.2 c I
     ·exact O.wb key b M c (eu I)
    ·exact q2.splice off S
  ·simp at h
 |new ty cs=>
  obtain⟨arr,U,S⟩:=hp;simp only[A6]at h;split at h
  ·rename_i d hd;split at h
   ·simp at h
   ·rename_i hn;simp only[A2]at h;refine Gx S (E _ _ _ _ _ _ _ h (O.new hn a2 U) ?_ ?_)
    ·refine TVR.c' ?_;simp only[CC,Bt]
    ·intro c I;simp at I;subst I;exact⟨_,DI _ _ _ hn⟩
  ·simp at h
 |newS ty n cs=>
  obtain⟨arr,U,S⟩:=hp;simp only[A6]at h;split at h
  ·rename_i d hd;split at h
   ·simp at h
   ·rename_i hn;simp only[A2]at h;refine Gx S (E _ _ _ _ _ _ _ h (O.new hn a2 U) ?_ ?_)
    ·refine TVR.c' ?_;simp only[CC,Bt]
    ·intro c I;simp at I;subst I;exact⟨_,DI _ _ _ hn⟩
  ·simp at h
 |rload g sz id idx sub=>
  obtain⟨t,b,U,S,hb,T⟩:=hp;obtain⟨D,N,a3⟩:=a2;simp only[A6,N]at h;split at h
  ·rename_i v V;obtain⟨q1,q2,_,xs,q3,X⟩:=O.ro id D N;have a7:D.l[idx]? =some D.l[idx]:=an a3;have g2:=X.2.2 idx _ a7;have hf:D.f idx=D.l[idx]:=by
    show AF D.ks (nth [] D.l idx)=_;rw[B3,List.getD,a7];exact X.2.1 _ (bv a3)
   have j0:O2 w b (Gm (ρ.rv id)+idx*D.w) (cut xs (idx*D.w) D.w):=by
    intro j y hj;simp only[cut,ep]at hj;split at hj
    ·rw[dv]at hj;have:=Ow q3 hb (idx*D.w+j) y hj;rw[<-de]at this;exact this
    ·simp at hj
   rw[hf]at V;obtain⟨x,q5,q6⟩:=Se (b:=b) (o:=Gm (ρ.rv id)+idx*D.w) (ρ:=ρ) U S V (g2.mono λ_ _ _ hh=>Ho hh) j0;rw[<-q2,de]at q5;rw[q5]at T;exact Gx T (E v _ _ _ ρ x w h O q6 (Q5r V (Zbn g2)))
  ·simp at h
 |rstore id idx sub cs=>
  obtain⟨t,x,b,U,S,hb,T⟩:=hp;obtain⟨D,N,a3⟩:=a2;simp only[A6,N]at h;cases I:(Nat.ble (sub+cs.length) D.w&&Ai AC.plain cs)<;>rw[I]at h
  ·simp at h
  ·simp only[ai]at h;split at h
   ·rename_i c d2;simp only[A2]at h;simp only[al]at I;have hle:=bc I.1;obtain⟨q1,q2,_,xs,q3,X⟩:=O.ro id D N;have a7:D.l[idx]? =some D.l[idx]:=an a3;have hf:D.f idx=D.l[idx]:=by
     show AF D.ks (nth [] D.l idx)=_;rw[B3,List.getD,a7];exact X.2.1 _ (bv a3)
    rw[hf]at d2;rcases q3.2 with⟨e1,e2⟩|⟨g',Y,cap,cur,e1,e3,e4,e5,e6,e7⟩
    ·have:idx<D.n:=a3;omega
    ·have j3:b=g':=by rw[e1]at hb;simp[Value.ownBlock]at hb;exact hb.symm
     subst j3;have hlen:=S.length;have b9:=X.1;have hbound:idx*D.w+sub+cs.length<=D.n*D.w:=by
      have:idx*D.w+D.w<=D.n*D.w:=by
       calc idx*D.w+D.w=(idx+1)*D.w:=by rw[cy,fm]
        _<=D.n*D.w:=be _ a3
      omega
     have j4:D.n*D.w<=cap*D.w:=be _ e4;rw[q2]at T;rw[hlen]at U hle hbound;have g3:Gm (ρ.rv id)=Y:=by rw[e1];rfl
     rw[g3]at T;have q5:=Qpr (off:=Y+(idx*D.w+sub)) U e3 (by omega) S.one;rw[q5]at T;have c0:Y+cap*D.w<=cur.toList.length:=by rw[dm];exact e6
     have j5:(splice cur.toList (Y+(idx*D.w+sub)) x.cells.toList).drop Y=splice (cur.toList.drop Y) (idx*D.w+sub) x.cells.toList:=by
      rw[Fq _ _ _ (by omega),Fq _ _ _ (by rw[dk];omega),f6,ia (by rw[fq];omega),List.drop_take,show Y+(idx*D.w+sub)-Y=idx*D.w+sub from by omega,gy,f6];congr 2;rw[de]
     have j6:((splice cur.toList (Y+(idx*D.w+sub)) x.cells.toList).drop Y).take (D.n*D.w)=splice xs (idx*D.w+sub) x.cells.toList:=by
      rw[j5];have j7:cap*D.w<=(cur.toList.drop Y).length:=by rw[dk];omega
      generalize cur.toList.drop Y=L at e7 j7⊢;rw[Fq _ _ _ (by omega),Fq _ _ _ (by rw[b9];exact hbound),<-e7];apply f5;intro j;simp only[ep,ft,fq,am,dv];by_cases hj:j<D.n*D.w
      ·rw[aa hj];by_cases j1:j<idx*D.w+sub
       ·rw[aa,aa,aa,aa,aa,aa,aa hj]
       ·by_cases j2:j<idx*D.w+sub+x.cells.toList.length
        ·rw[aa,ab,aa,ab];congr 1;omega
        ·rw[ab,ab,aa];congr 1;omega
      ·rw[ab hj,ab,ab]
     have j8: ¬ρ.im b:=λhi=>(O.ib b hi).2.2 id D N hb;have hold:∀k,k≠b->(w.setRow b (splice cur.toList (Y+(idx*D.w+sub)) x.cells.toList).toArray).heap[k]? =w.heap[k]? :=λk M=>setRow_other w b k _ M;have c4:∀(a:AC) (y:Value),CP ρ.im w a y->CP ρ.im (w.setRow b (splice cur.toList (Y+(idx*D.w+sub)) x.cells.toList).toArray) a y:=λa y hh=>CP.mono (λ_ h=>h) (λk M=>hold k (λe=>j8 (e▸M))) a y hh;have d3:CL (CP ρ.im w) c (splice (cut xs (idx*D.w) D.w) sub x.cells.toList)/\AF D.ks c=c:=
      PI d2 (((X.2.2 idx _ a7).mono λ_ _ _ hh=>Ho hh).splice sub S)
     have a1:=O.turnRow (id:=id) N (r':=⟨D.ty,D.ks,D.l.set idx c⟩) (v':=ρ.rv id)
      (xs:=splice xs (idx*D.w+sub) x.cells.toList) (w':=w.setRow b (splice cur.toList (Y+(idx*D.w+sub)) x.cells.toList).toArray)
      ⟨rfl,rfl,rfl,by simp,λk _ M=>hold k (λe=>M (by rw[e,hb]))⟩ rfl
      ⟨by simp only[Row.n,Row.w,gd];rw[Jx];exact b9, .inr ⟨b,Y,cap,_,by simp only[Row.n,gd];exact e1,setRow_heap w b cur _ D.ty _ e3,by simp only[Row.n,gd];exact e4,e5,by simp only[List.size_toArray];rw[Jx];exact c0,by simp only[Row.n,gd];exact j6⟩⟩
      ⟨by simp only[gd];rw[Jx];exact b9,λc' b6=>by
       rcases d8 b6 with b6|rfl
       ·exact X.2.1 c' b6
       ·exact d3.2,λi c' hi=>by
       simp only[gh]at hi;by_cases e0:idx=i
       ·subst e0;rw[aa rfl,aa a3]at hi;simp at hi;subst hi;have e:=Zou xs x.cells.toList idx D.w sub D.n a3 b9 (by omega);show CL _ c (cut _ (idx*D.w) D.w);rw[e];exact d3.1.mono λa _ y hh=>c4 a y hh
       ·rw[ab e0]at hi;have l1:i<D.n:=(d9.1 hi).1;have e:=Q85 xs x.cells.toList idx i D.w sub D.n a3 (λe=>e0 e.symm) b9 (by omega);show CL _ c' (cut _ (i*D.w) D.w);rw[e];exact(X.2.2 i c' hi).mono λa _ y hh=>c4 a y hh⟩
      (.inl rfl) (.inl ⟨rfl,by simp[Row.n]⟩)
     exact Q0o T (E .dead _ _ _ _ undef _ h a1 trivial trivial)
   ·simp at h
 |newRow el ks l=>
  obtain⟨arr,U,S,T,h4⟩:=hp;simp only[A6]at h;split at h
  ·rename_i d hd;split at h
   ·simp at h
   ·rename_i hn;simp only[A2]at h;have hb:Below w.heap.size w (w.alloc (.cells arr el)):=(Below.refl _ _).alloc (cq _) _;have J:RowC ρ.im (w.alloc (.cells arr el)) ks l arr.toList:=T.mono (λ_ h=>h) (λb G=>Below.heap_alloc w _ b (O.ib b G).1);have a8:=O.addRow (d:=C.rowAs d) hn (r:=⟨el,ks,l⟩) (v':= .slice (some ⟨w.heap.size,0,none⟩) l.length l.length) (xs:=arr.toList) (w':=w.alloc (.cells arr el)) hb U
     ⟨T.1, .inr ⟨w.heap.size,0,l.length,arr,rfl,heap_alloc_new w _,cq _,S,by rw[<-dm,dl];exact Nat.le_of_eq T.1.symm,by
      show List.take (l.length*ks.length) _=_;rw[<-T.1,fd,fo]⟩⟩ J
     (λg hg=>by simp[Value.ownBlock]at hg;omega)
    refine Gx h4 (E _ _ _ _ _ _ _ h a8 ?_ ?_)
    ·exact TVR.c' ⟨by simp only[Bt],by simp only[Bt], .inr ⟨_,_,_,rfl⟩⟩
    ·intro c I;simp at I;subst I;exact⟨_,DI _ _ _ hn,rfl,rfl⟩
  ·simp at h
 |newView el ks l=>
  obtain⟨arr,U,S,T,h4⟩:=hp;simp only[A6]at h;have hb:Below w.heap.size w (w.alloc (.cells arr el)):=(Below.refl _ _).alloc (cq _) _;have J:RowC ρ.im (w.alloc (.cells arr el)) ks l arr.toList:=T.mono (λ_ h=>h) (λb G=>Below.heap_alloc w _ b (O.ib b G).1);have hg:=O.growIm (im':=λb=>ρ.im b\/b=w.heap.size) hb (λb h=> .inl h) (λb h=>h.imp id λe=>by subst e;exact⟨cq _,Nc (heap_alloc_new w _)⟩);refine Gx h4 (E _ _ _ _ _ _ _ h hg ?_ ?_)
  ·refine TVR.c' ?_;have c5:DK (w.alloc (.cells arr el)) el ks.length (.slice (some ⟨w.heap.size,0,none⟩) l.length l.length) l.length arr.toList:=
    ⟨T.1, .inr ⟨w.heap.size,0,l.length,arr,rfl,heap_alloc_new w _,cq _,S,by rw[<-dm,dl];exact Nat.le_of_eq T.1.symm,by rw[fd,<-T.1,fo]⟩⟩
   exact Ho (VG c5 (J.mono (λ_ h=> .inl h) (λ_ _=>rfl)) (λg hg=> .inr (by simp[Value.ownBlock]at hg;exact hg.symm)))
  ·intro c I;simp at I;subst I;trivial
 |make el ks bytes n z=>
  obtain⟨t,i,zv,kl,kc,U,S,T,h4,h5,h6,h7,h8,h9,g4⟩:=hp;subst h5;simp only[A6]at h;split at h
  ·rename_i d hd;split at h
   ·simp at h
   ·rename_i hn;cases I:(decide (0<=n)&&decide (n*(i.bytes:Int)<=140737488355328))<;>rw[I]at h
    ·simp at h
    ·simp only[ai,A2]at h;simp only[al,bp]at I;have g5:((n.toNat:Nat):Int)=n:=Int.toNat_of_nonneg I.1;have g6:zv.cells.toList.length=ks.length:=by
      rw[<-h9.length,<-h8];exact Ou _ _
     have j9:n.toNat*i.bytes<=140737488355328:=by
      have S:=I.2;rw[<-g5]at S;have e1:((n.toNat*i.bytes:Nat):Int)=(n.toNat:Int)*(i.bytes:Int):=bz _ _;omega
     have l2:n.toNat<=n.toNat*i.bytes:=gn _ h7;obtain⟨w',arr,p1,p2,p3⟩:=Q4d (P:=P) (w:=w) (t:=t) (e:=el) (i:=i) (z:=zv) U S T (kl:=kl) (kc:=kc) (n:=n.toNat) j9 (by omega);rw[g5]at p1;rw[p1]at g4;subst p2;have d0:zv.cells.size=ks.length:=by rw[<-dm];exact g6
     have b4:arr.toList.length=n.toNat*ks.length:=by rw[p3,h4,d0];simp[d0]
     have g7:∀j,j<n.toNat->cut arr.toList (j*ks.length) ks.length=zv.cells.toList:=by
      intro j hj;have hle:j*ks.length+ks.length<=n.toNat*ks.length:=by
       calc j*ks.length+ks.length=(j+1)*ks.length:=by rw[cy,fm]
        _<=n.toNat*ks.length:=be _ hj
      apply f5;intro q;simp only[cut,ep,dv];by_cases hq:q<ks.length
      ·rw[aa hq,p3,h4,d0];rw[eg,List.getElem?_range (by omega)];simp only[fe];rw[show(j*ks.length+q)%ks.length=q from by rw[cg,Nat.mul_add_mod];exact Nat.mod_eq_of_lt hq];have:q<zv.cells.size:=by rw[d0];exact hq
       rw[getElem!_pos zv.cells q this,Array.getElem?_toList,gj this]
      ·rw[ab hq,db (by rw[g6];omega)]
     have hb:Below w.heap.size w (w.alloc (.cells arr el)):=(Below.refl _ _).alloc (cq _) _;have e8:RowC ρ.im w ks (List.replicate n.toNat z) arr.toList:=by
      refine⟨by rw[b4];simp,λc I=> ?_,λj c hj=> ?_⟩
      ·rw[List.mem_replicate]at I;rw[I.2];exact h8
      ·rw[List.getElem?_replicate]at hj;split at hj
       ·rename_i k0;simp at hj;subst hj;rw[g7 j k0];exact h9
       ·simp at hj
     have J:RowC ρ.im (w.alloc (.cells arr el)) ks (List.replicate n.toNat z) arr.toList:=e8.mono (λ_ h=>h) (λb G=>Below.heap_alloc w _ b (O.ib b G).1);have c6:(List.replicate n.toNat z).length=n.toNat:=by simp
     have a8:=O.addRow (d:=d) hn (r:=⟨el,ks,List.replicate n.toNat z⟩) (v':= .slice (some ⟨w.heap.size,0,none⟩) n.toNat n.toNat) (xs:=arr.toList) (w':=w.alloc (.cells arr el)) hb h6
      ⟨by simp only[Row.n,Row.w,c6];exact b4, .inr ⟨w.heap.size,0,n.toNat,arr,by simp only[Row.n,c6],heap_alloc_new w _,by simp only[Row.n,c6];exact cq _,by simp only[maxLen];omega,by rw[<-dm,dl];exact Nat.le_of_eq b4.symm,by
       simp only[Row.n,c6];show List.take (n.toNat*ks.length) _=_;rw[<-b4,fd,fo]⟩⟩ J
      (λg hg=>by simp[Value.ownBlock]at hg;omega)
     refine Gx g4 (E _ _ _ _ _ _ _ h a8 ?_ ?_)
     ·exact TVR.c' ⟨by simp only[Bt],by simp only[Bt], .inr ⟨_,_,_,by rw[c6]⟩⟩
     ·intro c I;simp at I;subst I;exact⟨_,DI _ _ _ hn,by simp[Row.n],rfl⟩
  ·simp at h
 |cutR id a=>
  simp only[A6]at h;split at h
  ·rename_i D N;have hle:Nat.ble a D.l.length=true:=by
    cases hb:Nat.ble a D.l.length
    ·rw[hb]at h;simp at h
    ·rfl
   rw[hle]at h;simp only[ai]at h;have hle:a<=D.n:=bc hle;simp only[A2]at h;obtain⟨q1,q2,_,xs,q3,X⟩:=O.ro id D N;have hlen:(D.l.drop a).length=D.n-a:=by simp[Row.n]
   have key : ∃ ad cap, ρ.rv id = .slice ad D.n cap /\ D.n <= cap /\ (let v' : Value := .slice (if cap = a then ad else ad.map (·.add (a * ρ.wd id))) (D.n - a) (cap - a)
     v'.ownBlock=(ρ.rv id).ownBlock/\DK w D.ty D.w v' (D.n-a) (xs.drop (a*D.w))/\((v'= .slice none 0 0/\D.n-a=0)\/∃g o c,v'= .slice (some ⟨g,o,none⟩) (D.n-a) c)):=by
    have d1:(xs.drop (a*D.w)).length=(D.n-a)*D.w:=by rw[dk,q3.1,Nat.sub_mul]
    rcases q3.2 with⟨e1,e2⟩|⟨g,Y,cap,cur,e1,e3,e4,e5,e6,e7⟩
    ·refine⟨none,0,by rw[e1,e2],by omega,?_⟩;have ha:a=0:=by omega
     subst ha;rw[e1,e2];refine⟨rfl,⟨by simpa [e2]using d1, .inl ⟨rfl,rfl⟩⟩, .inl ⟨rfl,rfl⟩⟩
    ·refine⟨_,cap,e1,e4,?_⟩;rw[e1,q2];by_cases g8:cap=a
     ·have c9:D.n=a:=by omega
      simp only[g8,dc];refine⟨rfl,⟨d1, .inr ⟨g,Y,a-a,cur,rfl,e3,by omega,by omega,by simp;omega,?_⟩⟩, .inr ⟨g,Y,_,rfl⟩⟩;rw[c9,Nat.sub_self,gc,List.take_zero];symm;apply cz;rw[d1,c9,Nat.sub_self,gc]
     ·simp only[g8,ez,fe,Addr.add_lit];refine⟨rfl,⟨d1, .inr ⟨g,Y+a*D.w,cap-a,cur,rfl,e3,by omega,by omega,?_,?_⟩⟩, .inr ⟨g,Y+a*D.w,_,rfl⟩⟩
      ·rw[Nat.sub_mul];have:a*D.w<=cap*D.w:=be _ (by omega);omega
      ·rw[<-e7,List.drop_take,gy,<-Nat.sub_mul]
   obtain⟨ad,cap,k1,k2,k3,k4,k5⟩:=key;have g9:=hp ad D.n cap k1 k2 hle;have e9:=O.kill id;have J:RowC ρ.im w D.ks (D.l.drop a) (xs.drop (a*D.w)):=by
    refine⟨by rw[dk,q3.1,dk,<-Nat.sub_mul],λc I=>X.2.1 c (eu I),λi c hi=> ?_⟩;rw[dv]at hi;have:=X.2.2 (a+i) c hi;have e:cut (xs.drop (a*D.w)) (i*D.ks.length) D.ks.length=cut xs ((a+i)*D.ks.length) D.ks.length:=by
     simp only[cut,gy,cy]
    rw[e];exact this
   have a1:=e9.turnRow (id:=id) N (r':=⟨D.ty,D.ks,D.l.drop a⟩) (v':=_) (xs:=xs.drop (a*D.w)) (w':=w) ⟨rfl,rfl,rfl,cq _,λ_ _ _=>rfl⟩ rfl (by simp only[Row.n,hlen];exact k4) J (.inl k3)
    (.inr ⟨λv V=>by
     simp only[av]at V;obtain⟨u,_,rfl⟩:=V;exact TV.kill_free id u,λk b M a' a9=>by
     rw[ED]at M;cases hl:Ab aB k with
     |none=>rw[hl]at M;simp at M
     |some b'=>
      rw[hl]at M;simp at M;subst M;simp only[Box.kill,av]at a9;obtain⟨u,_,rfl⟩:=a9;exact AC.kill_free id u⟩)
   refine Gx g9 (E _ _ _ _ _ _ _ h a1 ?_ ?_)
   ·refine TVR.c' ⟨by simp only[Bt],by simpa using q2,?_⟩;rw[hlen];exact k5
   ·intro c I;simp at I;subst I;exact⟨_,DU _ _ _ _ N,by simp[Row.n],rfl⟩
  ·simp at h
 |append e ks bytes s x=>
  obtain⟨t,ty,i,z,sv,xv,U,S,T,h4,h5,h6,h7,h8,h9⟩:=hp;subst h5;simp only[A6]at h;split at h
  ·rename_i m h0;obtain⟨ad,c,news,rfl,J,c7⟩:=Q3q O h0 h8;split at h
   ·
    split at h
    ·rename_i d hd;split at h
     ·simp at h
     ·rename_i hn;cases hb:(Nat.ble 1 ks.length&&Nat.ble 1 i.bytes)<;>rw[hb]at h
      ·simp at h
      ·simp only[ai]at h;simp only[al]at hb;have l3:=bc hb.1;have k6:=bc hb.2;cases b3:Nat.ble (m.length*i.bytes) 140737488355328<;>rw[b3]at h
       ·simp at h
       ·simp only[ai,A2]at h;have hbound:=bc b3;have hm:m.length<=m.length*i.bytes:=gn _ (by omega);simp only[CC,CP]at h7;subst h7;obtain⟨v',w',q1,q2,q3,X⟩:=Qp8 (P:=P) (ty:=ty) (c:=c) U S T h4 h6 (by omega) (Ud w e ks.length) J.1 c7 (J.one (by omega)) (by simp only[maxLen];omega) (by simpa using hbound);rw[q1]at h9;simp only[dl,ay]at q2;have b0:Below w.heap.size w w':=⟨q3.os,q3.tape,q3.output,q3.size,λk M=>q3.block k M (by simp[Value.ownBlock])⟩;have a8:=O.addRow (d:=d) hn (r:=⟨e,ks,m⟩) (v':=v') (xs:=news) (w':=w') b0 (by show 0<ks.length;omega) q2
         (J.mono (λ_ h => h) (λb G => b0.block b (O.ib b G).1)) (λg' b5 => by
          rcases X with X|X
          ·rw[X]at b5;simp[Value.ownBlock]at b5
          ·rw[X]at b5;simp at b5;omega)
        refine Gx h9 (E _ _ _ _ _ _ _ h a8 ?_ ?_)
        ·refine TVR.c' ⟨by simp only[Bt],by simp only[Bt],?_⟩;rcases q2.2 with⟨e1,e2⟩|⟨g',Y,cap,cur,e1,_⟩
         ·exact .inl ⟨e1,e2⟩
         ·exact .inr ⟨g',Y,cap,e1⟩
        ·intro c I;simp at I;subst I;exact⟨_,DI _ _ _ hn,rfl,rfl⟩
    ·simp at h
   ·
    rename_i id w1 n1;split at h
    ·rename_i D N;cases hb:(Cj ks D.ks&&Nat.beq D.ty e&&Nat.ble 1 i.bytes)<;>rw[hb]at h
     ·simp at h
     ·simp only[ai]at h;simp only[al]at hb;have e1:=Hp hb.1.1;have e2:=ac hb.1.2;have k6:=bc hb.2;subst e1 e2;cases b3:Nat.ble ((D.l++m).length*i.bytes) 140737488355328<;>rw[b3]at h
      ·simp at h
      ·simp only[ai,A2]at h;have hbound:=bc b3;rw[am]at hbound;have hm:D.l.length+m.length<=(D.l.length+m.length)*i.bytes:=gn _ (by omega);obtain⟨q1,q2,_,xs,q3,X⟩:=O.ro id D N;obtain⟨c1,c2,c3⟩:=h7;subst c1;obtain⟨v',w',p1,p2,p3,p4⟩:=Qp8 (P:=P) (ty:=ty) (c:=c) U S T h4 h6 q1 q3 J.1 c7 (J.one q1) (by simp only[maxLen,Row.n];omega) hbound;rw[p1]at h9;have e9:=O.kill id;have i0:∀b,ρ.im b->w'.heap[b]? =w.heap[b]? :=λb G=>p3.block b (O.ib b G).1 (λe=>(O.ib b G).2.2 id D N e.symm);have i1:=(X.append J).mono (λ_ h=>h) i0;have a1:=e9.turnRow (id:=id) N (r':=⟨D.ty,D.ks,D.l++m⟩) (v':=v') (xs:=xs++news) (w':=w') p3 rfl (by simpa [Row.n]using p2) i1
        (Ol p4 (λx=>x) (λx g' b5=>by rw[x]at b5;simp at b5;omega))
        (.inr ⟨λv V=>by
         simp only[av]at V;obtain⟨u,_,rfl⟩:=V;exact TV.kill_free id u,λk b M a' a9=>by
         rw[ED]at M;cases hl:Ab aB k with
         |none=>rw[hl]at M;simp at M
         |some b'=>
          rw[hl]at M;simp at M;subst M;simp only[Box.kill,av]at a9;obtain⟨u,_,rfl⟩:=a9;exact AC.kill_free id u⟩)
       refine Gx h9 (E _ _ _ _ _ _ _ h a1 ?_ ?_)
       ·refine TVR.c' ⟨by simp only[Bt],by simpa using q2,?_⟩;rcases p2.2 with⟨e1,e2⟩|⟨g',Y,cap,cur,e1,_⟩
        ·exact .inl ⟨e1,by simpa [Row.n]using e2⟩
        ·exact .inr ⟨g',Y,cap,by simpa [Row.n]using e1⟩
       ·intro c I;simp at I;subst I;exact⟨_,DU _ _ _ _ N,by simp[Row.n],rfl⟩
    ·simp at h
   ·simp at h
  ·simp at h
 |call f args=>
  obtain⟨xs,U,S,T⟩:=hp;simp only[A6]at h;split at h
  ·rename_i g hg;split at h
   ·rename_i as has;obtain⟨b4,f1⟩:=Qk4 has;have k7:=a4.1 f g hg;obtain⟨v,mem',V,k8⟩:=k7.run h;split at V
    ·cases b7:((!(args.any TV.hasOwn)||v.flat)&&v.plainB)<;>rw[b7]at V
     ·simp at V
     ·simp only[ai]at V;simp only[al]at b7
      let c8:Nat->Prop:=λb=>ρ.im b\/(args.any TV.hasOwn=true/\∃id D,Ab aC id=some D/\(ρ.rv id).ownBlock=some b)
      have i2:∀b,c8 b->b<w.heap.size:=by
       rintro b (G|⟨_,id,D,N,G⟩)
       ·exact(O.ib b G).1
       ·exact(O.rwlt N G).2
      have c5:∀(i:Nat) (a0:TV),args[i]? =some a0->args.any TV.hasOwn=false->a0.hasOwn=false:=by
       intro i a0 b8 f2;cases hh:a0.hasOwn
       ·rfl
       ·exact absurd (List.any_eq_true.2 ⟨a0,bq b8,hh⟩) (by rw[f2];simp)
      have i3:∀(i:Nat) (a':TV) (x:Value),as[i]? =some a'->xs[i]? =some x->TVR {ρ with im:=c8} w a' x:=by
       intro i a' x a9 hx;obtain⟨_,a0,b8,N⟩:=f1 i a' a9;have d4:∀(a:AC) (y:Value),CP ρ.im w a y->CP c8 w a y:=λa y hh=>CP.mono (λ_ h=> .inl h) (λ_ _=>rfl) a y hh;cases b1:args.any TV.hasOwn
       ·have f2:=c5 i a0 b8 b1;have k9:a0=a':=Zna f2 N;subst k9;exact Qv3 (f1 i a0 a9).1 (λa y _ hh=>d4 a y hh) (S i a0 x b8 hx)
       ·refine Q48 (aB:=aB) ?_ N (a2 a0 (bq b8)) (S i a0 x b8 hx);intro b b' y G hy l4;cases b<;>simp only[AC.res]at G<;>try (simp at G;done)
        case own id w1 n1=>
         split at G
         ·rename_i D d5;simp at G;subst G;obtain⟨q1,q2,_,ys,q3,X⟩:=O.ro id D d5;obtain⟨c1,c2,c3⟩:=hy;subst c1;exact VG q3 (X.mono (λ_ h=> .inl h) (λ_ _=>rfl)) (λg hg=> .inr ⟨b1,id,D,d5,hg⟩)
         ·simp at G
        all_goals
         simp at G;subst G;exact d4 _ _ hy
      have l0:Gt (λb=>b<w.heap.size) w:=Z.gt.mono λg cs _ hg=>⟨O.fs g hg,O.fr.block g hg⟩;have f3:RelE (DG (λb=>b<w.heap.size) w {ρ with im:=c8} [] l0) as [] [] {ρ with im:=c8} xs.toArray w:=by
       refine⟨by simp[b4,U],λi a hi=> ?_,λa ha=> ?_,λk b M=>by simp[Ab]at M,λk b M=>by simp[Ab]at M,λk k' b b' M=>by simp[Ab]at M,λid r hr=>by simp[Ab]at hr,
        λid id' r r' g hr=>by simp[Ab]at hr,λk b id r M=>by simp[Ab]at M,λb hb=>⟨i2 b hb,λk bo M=>by simp[Ab]at M,λid r hr=>by simp[Ab]at hr⟩,Fr.refl _ _,λ_ h=>h,λ_ h=>h,λb h=> .inl h,λk b M=>by simp[DG,Ab]at M⟩
       ·have i4:i<xs.length:=by rw[U,<-b4];exact(d9.1 hi).1
        have e:xs.toArray.getD i undef=xs[i]:=by simp[Array.getD,i4]
        rw[e];exact i3 i a _ hi (an i4)
       ·obtain⟨i,hi⟩:=List.getElem?_of_mem ha;exact HO (f1 i a hi).1
      refine OJ T ((k8 _ xs f3).mono ?_);rintro e w' ⟨x,ρ',he,a6⟩;have b0:Below w.heap.size w w':=⟨a6.fr.os,a6.fr.tape,a6.fr.output,a6.fr.size,λk M=>a6.fr.block k M⟩;have i5:TVR ρ' w' v x:=by simpa using a6.tv 0 v rfl
      by_cases b1:args.any TV.hasOwn=true
      ·have f4:v.flat=true:=by have:=b7.1;rw[b1]at this;simpa using this
       have g0:RelE Z tm aB aC ρ tmps w':=O.growIm (im':=ρ.im) b0 (λ_ h=>h) (λ_ h=> .inl h);exact⟨x,he,E v _ _ _ ρ x w' V g0 (Zfh f4 i5) (HO b7.2)⟩
      ·have g0 : RelE Z tm aB aC { ρ with im := ρ'.im } tmps w' := O.growIm b0 (λb hb => a6.i0 b (.inl hb)) (λb hb => by
        rcases a6.i1 b hb with G|G
        ·rcases G with G|⟨G,_⟩
         ·exact .inl G
         ·exact absurd G b1
        ·exact .inr ⟨Nat.not_lt.1 G,(a6.ib b hb).1⟩)
       exact⟨x,he,E v _ _ _ _ x w' V g0 (Qv3 (ρ:=ρ') (ρ2:={ρ with im:=ρ'.im}) b7.2 (λ_ _ _ h=>h) i5) (HO b7.2)⟩
    ·simp at V
   ·simp at h
  ·simp at h
 |callM f args=>
  obtain⟨xs,U,S,T⟩:=hp;exact Zc6 a4 O U S T a2 h E
 |callD f args=>
  obtain⟨xs,U,S,T⟩:=hp;exact Q7s a4 O U S T a2 h E
 |callF f args=>
  obtain⟨xs,U,S,T⟩:=hp;exact Zt3 a4 O U S T a2 h E
 |appD e ks bytes s x=>simp[Prim.isApp]at c9
theorem Zcm (G:Aj P C) (S:RelE Z tm aB aC ρ tmps w) {o:Oper} {a:Act} {p:Prim} (T:HX P ρ w a.eval o p) (L:Prim.wf aB aC p) {K:TV->St->Option R} {r:R}
  (h:A6 C o.dst p ⟨tm,aB,aC⟩ K=some r) {next:Act->World->Prop} {Q:Exit->Act->World->Prop}
  (I:∀(v:TV) (M:List TV) (D:List (Nat×Box)) (E:List (Nat×Row)) (O:Env) (x:Value) (w':World),K v ⟨M,D,E⟩=some r->RelE Z M D E O tmps w'->TVR O w' v x->TV.wf D E v->next (a.put o.dst x) w'):
  o.wp P a w next Q:=by
 cases N:Prim.isApp (some p)
 ·exact Qie G S T L N h I
 ·cases p<;>simp[Prim.isApp]at N
  rename_i e ks bytes s x;by_cases J:s= .nilSl
  ·subst J;simp only[A6]at h;split at h
   ·rename_i m hm;split at h
    ·rename_i d hd;have h':A6 C o.dst (.append e ks bytes .nilSl x) ⟨tm,aB,aC⟩ (λv s=>K v ⟨s.tmps.map (TV.kill d),s.aB.map λp=>(p.1,p.2.kill d),s.aC⟩)=some r:=by
      simp only[A6,hm,hd];split at h
      ·simp at h
      ·rename_i hn;simp only[A2]at h⊢;exact h
     refine Qie G S (p:= .append e ks bytes .nilSl x) T L rfl h' ?_;intro v M D E O y w' hK U hv V;refine I _ _ _ _ O y w' hK (U.kill d) hv ?_;have X:∀k,Ab (D.map λp=>(p.1,p.2.kill d)) k=(Ab D k).map (Box.kill d):=λk=>ED (Box.kill d) D k;exact TV.wf_mono (λa=>AC.wf_mono (λk b Y=>⟨b.kill d,by rw[X,Y];rfl⟩) (λk r Y=>⟨r,Y,rfl,rfl⟩)) V
    ·simp at h
   ·simp at h
  ·have h':A6 C o.dst (.append e ks bytes s x) ⟨tm,aB,aC⟩ K=some r:=by
    simp only[A6]at h⊢;split at h
    ·split at h
     ·exact h
     ·exact absurd rfl J
     ·simp at h
    ·simp at h
   exact Qie G S (p:= .append e ks bytes s x) T L rfl h' I
end
open Go.RowKit
section
variable {P:Program} {C:Cfg} {R:Type}
theorem Yl (op:BinOp) (k:IntKind) (a b:Int) (K:AC->Option R):Fw op k a b K=(Fw op k a b some).bind K:=by
 cases op<;>simp only[Fw,ak]
 all_goals first|(cases decide (b=0)<;>rfl)|(cases decide (b<0)<;>rfl)
theorem Lo {i:Int}:∀(n k:Nat) {R S:Type} (f:Nat->Option R) (K:R->Option S),FF i n k (λj=>(f j).bind K)=(FF i n k f).bind K
 |0,k,_,_,f,K=>rfl
 |n+1,k,_,_,f,K=>by
  simp only[FF];rw[Lo n (k+1) f K];cases decide (i=(k:Int))<;>rfl
theorem Wh (g:Int->Int->Int) (k:IntKind):∀(l:List TV) (a:Int) (K:Prim->Option R),Ed g k a l K=(Ed g k a l some).bind K
 |[],a,K=>by simp[Ed]
 |t::l,a,K=>by
  unfold Ed;split
  ·rename_i k' b;cases kEq k k'
   ·rfl
   ·exact Wh g k l (g a b) K
  ·rfl
theorem Zg8 (b:Builtin) (D:List TypeId) (args:List TV) (K:Prim->Option R):H8 P b D args K=(H8 P b D args some).bind K:=by
 unfold H8;split
 case h_6=>exact Wh _ _ _ _ _
 case h_7=>exact Wh _ _ _ _ _
 case h_8=>
  split
  ·split
   ·split
    ·split
     ·cases(Nat.beq _ _&&Nat.beq _ _&&Nat.beq _ _)<;>rfl
     ·rfl
    ·rfl
   ·rfl
  ·rfl
 all_goals
  repeat' split
  all_goals rfl
theorem GU (c:Bool) (p:Prim) (K:Prim->Option R):cond c (K p) none=(cond c (some p) none).bind K:=by cases c<;>rfl
theorem Of (D:Operand->TV) (dst:Option Tmp) (o:Op) (K:Prim->Option R):opK P C D dst o K=(opK P C D dst o some).bind K:=by
 cases o
 case pick c a b=>
  simp only[opK];split
  ·rename_i g _;cases g<;>rfl
  ·rfl
 case build t parts=>
  simp only[opK];split
  ·cases(Ai _ _)
   ·rfl
   ·simp only[ai];split<;>rfl
  ·split
   ·split<;>rfl
   ·rfl
  ·rfl
 case buildSlice t n parts=>
  simp only[opK];split
  ·split
   ·cases(Nat.beq _ _&&Nat.beq _ _&&Nat.ble 1 _&&Nat.ble _ 65536)
    ·rfl
    ·simp only[ai];split
     ·split
      ·cases Qa C dst _<;>rfl
      ·cases(Ai AC.isClo _&&Nat.beq _ 1)<;>rfl
     ·rfl
   ·rfl
  ·rfl
 case makeSlice t len cap=>
  simp only[opK];split
  ·split
   ·split
    ·cases(Nat.beq _ _&&Nat.ble 1 _&&Nat.ble 1 _)
     ·rfl
     ·simp only[ai];exact GU _ _ _
    ·rfl
   ·rfl
  ·rfl
 case makeFunc I a b=>
  simp only[opK];split
  ·split<;>rfl
  ·rfl
 case store t a x=>
  simp only[opK];split
  ·cases(Nat.beq _ _)
   ·rfl
   ·simp only[ai];split<;>rfl
  ·rfl
 case binOp op t x y J=>
  simp only[opK];split
  ·cases(kEq _ _||KC op)
   ·rfl
   ·simp only[ai];rename_i k a k' b _ _;have E:=Yl op k a b (λv=>(some (Prim.val (TV.c v)):Option Prim));rw[Yl,E];cases Fw op k a b some<;>rfl
  ·split<;>rfl
  ·split
   ·rfl
   ·rfl
   ·rename_i a b _ _ _;cases Nat.ble (a.size+b.size) 9223372036854775807<;>rfl
   ·rfl
  ·split<;>rfl
  ·split<;>rfl
  ·cases(P.eqGuardType P.depth t)
   ·simp only[ao];split<;>rfl
   ·rfl
  ·rfl
 case indexAddr t x G=>
  simp only[opK];split
  ·split
   ·exact Lo _ _ (λj=>some _) K
   ·exact Lo _ _ (λj=>some _) K
   ·exact Lo _ _ (λj=>some _) K
   ·rfl
  ·split
   ·cases(Nat.beq _ _)
    ·rfl
    ·simp only[ai];exact GU _ _ _
   ·cases(Nat.beq _ _)
    ·rfl
    ·simp only[ai];exact GU _ _ _
   ·cases(Nat.beq _ _)
    ·rfl
    ·simp only[ai];exact Lo _ _ (λj=>some _) K
   ·rfl
  ·rfl
 case index t x G=>
  simp only[opK];split
  ·split
   ·rename_i m _;rw[<-Lo];congr 1
    funext j
    split<;>rfl
   ·rfl
  ·rfl
 case slice t x L M mx=>
  simp only[opK];split
  ·split
   ·cases(Nat.beq _ _)
    ·rfl
    ·simp only[ai];split
     ·rfl
     ·exact GU _ _ _
     ·exact GU _ _ _
     ·exact GU _ _ _
   ·split
    ·cases(Nat.beq _ _)
     ·rfl
     ·simp only[ai];exact GU _ _ _
    ·rfl
   ·split
    ·rfl
    ·exact GU _ _ _
    ·exact GU _ _ _
    ·exact GU _ _ _
   ·rfl
  ·rfl
 case call c=>
  simp only[opK];split
  ·exact Zg8 _ _ _ _
  ·cases C.pure _<;>rfl
  ·split
   ·cases(Ai _ _&&Ai _ _)<;>rfl
   ·rfl
  ·rfl
 all_goals
  simp only[opK]
  repeat' split
  all_goals rfl
end
open Go.RowKit
section
variable {P:Program} {C:Cfg} {R:Type} {aB:List (Nat×Box)} {aC:List (Nat×Row)}
theorem I6 {α:Type} {c:Bool} {p q:α} (h:cond c (some p) none=some q):c=true/\p=q:=by cases c<;>simp at h;exact⟨rfl,h⟩
theorem PM (k:IntKind) (n:Int):TV.wf aB aC (.c (.int k n)):=by intro a D;simp at D;subst D;trivial
theorem E_ (b:Bool):TV.wf aB aC (.c (.bool b)):=by intro a D;simp at D;subst D;trivial
theorem B9 {a:AC} (h:AC.wf aB aC a):TV.wf aB aC (.c a):=by intro b hb;simp at hb;subst hb;exact h
theorem Ea {a:AC} (h:TV.wf aB aC (.c a)):AC.wf aB aC a:=h a (by simp)
theorem Qow (v:Value):AC.wf aB aC (KA v):=by
 unfold KA;split<;>trivial
theorem Qcc:∀(l:List Value) (cs:List AC),Hq l=some cs->∀a∈cs,AC.wf aB aC a
 |[],cs,h=>by simp[Hq]at h;subst h;intro a D;simp at D
 |v::l,cs,h=>by
  simp only[Hq]at h;cases G:v.oneCell'<;>rw[G]at h
  ·simp at h
  ·simp only[ai]at h;split at h
   ·rename_i E I;simp at h;subst h;intro a D;simp only[az]at D;rcases D with rfl|D
    ·exact Qow v
    ·exact Qcc l E I a D
   ·simp at h
theorem Q5k (v:Value):TV.wf aB aC (ofValue v):=by
 unfold ofValue;split
 ·split
  ·rename_i h;exact Qcc _ _ h
  ·trivial
 ·trivial
 ·exact B9 (Qow v)
theorem WS {tm:List TV} (h:∀v∈tm,TV.wf aB aC v) (x:Operand):TV.wf aB aC (AK tm x):=by
 cases x with
 |tmp t=>
  simp only[AK,B3,List.getD];cases D:tm[t]? with
  |none=>trivial
  |some v=>exact h v (bq D)
 |const v=>exact Q5k v
 |global=>trivial
 |func=>trivial
theorem Q9 {t:TypeId} {cs:List AC} (h:HU P t=some cs):∀a∈cs,AC.wf aB aC a:=by
 unfold HU at h;split at h
 ·split at h
  ·exact Qcc _ _ h
  ·simp at h
 ·simp at h
theorem Q18 {z:List AC} (D:∀a∈z,AC.wf aB aC a):∀n,∀a∈Ka z n,AC.wf aB aC a
 |0,a,h=>by simp[Ka]at h
 |n+1,a,h=>by
  simp only[Ka,co]at h;rcases h with h|h
  ·exact D a h
  ·exact Q18 D n a h
theorem TV.cells_wf {v:TV} {cs:List AC} (h:v.cells=some cs) (D:TV.wf aB aC v):∀a∈cs,AC.wf aB aC a:=by
 cases v<;>simp[TV.cells]at h
 subst h;exact D
theorem RE {α:Type} {x:α}:∀(l:List α) (o:Nat) (D:List α),x∈splice l o D->x∈l\/x∈D
 |l,o,[],h=>by rw[OZ]at h;exact .inl h
 |[],o,_::_,h=>by simp[splice]at h
 |y::l,0,v::D,h=>by
  simp only[splice,az]at h;rcases h with rfl|h
  ·exact .inr (by simp)
  ·rcases RE l 0 D h with h|h
   ·exact .inl (by simp[h])
   ·exact .inr (by simp[h])
 |y::l,o+1,v::D,h=>by
  simp only[splice,az]at h;rcases h with rfl|h
  ·exact .inl (by simp)
  ·rcases RE l o (v::D) h with h|h
   ·exact .inl (by simp[h])
   ·exact .inr h
theorem R5 {place:Nat->Option (Nat×Nat)}:∀(parts:List (Nat×TV)) (z cs:List AC),Hm place z parts=some cs->(∀a∈z,AC.wf aB aC a)->(∀p∈parts,TV.wf aB aC p.2)->∀a∈cs,AC.wf aB aC a
 |[],z,cs,h,E,_=>by simp[Hm]at h;subst h;exact E
 |(i,v)::parts,z,cs,h,E,I=>by
  simp only[Hm]at h;split at h
  ·rename_i off size l J L;cases hb:(Nat.beq l.length size&&Nat.ble (off+size) z.length)<;>rw[hb]at h
   ·simp at h
   ·refine R5 parts _ _ h (λa D=> ?_) (λp G=>I p (by simp[G]));rcases RE _ _ _ D with D|D
    ·exact E a D
    ·exact TV.cells_wf L (I (i,v) (by simp)) a D
  ·simp at h
theorem PE {E:Operand->TV} (D:∀x,TV.wf aB aC (E x)):∀(l:List (Nat×Operand)),∀p∈E6 E l,TV.wf aB aC p.2
 |[],p,h=>by simp[E6]at h
 |x::l,p,h=>by
  simp only[E6,az]at h;rcases h with rfl|h
  ·exact D _
  ·exact PE D l p h
theorem Ma {E:Operand->TV} (D:∀x,TV.wf aB aC (E x)):∀(l:List Operand),∀v∈BH E l,TV.wf aB aC v
 |[],p,h=>by simp[BH]at h
 |x::l,p,h=>by
  simp only[BH,az]at h;rcases h with rfl|h
  ·exact D _
  ·exact Ma D l p h
theorem ON {g:Bool} {sz off:Nat} {cells:List AC} {v:TV} (h:Cp g sz cells off=some v) (I:∀a∈cells,AC.wf aB aC a):TV.wf aB aC v:=by
 unfold Cp at h;cases g
 ·simp only[ao]at h;split at h
  ·rename_i c D;simp at h;subst h;exact B9 (I _ (bq D))
  ·simp at h
 ·simp only[ai]at h;cases E:Nat.ble (off+sz) cells.length<;>rw[E]at h
  ·simp at h
  ·simp at h;subst h;intro c G;exact I c (eu (d7 G))
theorem Qok {t:TypeId} {cs:List AC} {off:Nat} {v:TV} (h:KT P t cs off=some v) (D:∀a∈cs,AC.wf aB aC a):TV.wf aB aC v:=by
 unfold KT at h;split at h
 ·exact ON h D
 ·simp at h
theorem Zcg {op:BinOp} {k:IntKind} {a b:Int} {c:AC} (h:Fw op k a b some=some c):AC.wf aB aC c:=by
 cases op<;>simp only[Fw]at h
 case quo=>cases hb:decide (b=0)<;>rw[hb]at h<;>simp at h;subst h;trivial
 case rem=>cases hb:decide (b=0)<;>rw[hb]at h<;>simp at h;subst h;trivial
 case shl=>cases hb:decide (b<0)<;>rw[hb]at h<;>simp at h;subst h;trivial
 case shr=>cases hb:decide (b<0)<;>rw[hb]at h<;>simp at h;subst h;trivial
 all_goals (simp at h;subst h;trivial)
theorem Ze (g:Int->Int->Int) (k:IntKind):∀(l:List TV) (a:Int) (p:Prim),Ed g k a l some=some p->Prim.wf aB aC p
 |[],a,p,h=>by simp[Ed]at h;subst h;exact PM _ _
 |t::l,a,p,h=>by
  unfold Ed at h;split at h
  ·rename_i k' b;cases D:kEq k k'<;>rw[D]at h
   ·simp at h
   ·exact Ze g k l _ p h
  ·simp at h
theorem Q7n (k:Kd) (a:AC):(JX k a).calm=true:=by
 cases k<;>try rfl
 cases a<;>rfl
theorem Q0x:∀(ks:List Kd) (cs:List AC) (j:Nat),Ai AC.calm (DQ ks cs j)=true
 |[],_,_=>rfl
 |k::ks,cs,j=>by simp only[DQ,Ai,Q7n,ai];exact Q0x ks cs (j+1)
theorem Qqh {cs:List AC} (h:Ai AC.calm cs=true):∀a∈cs,AC.wf aB aC a:=by
 intro a D;have:=As.1 h a D;cases a<;>first|trivial|(simp[AC.calm]at this)
theorem Qbk:∀{l:List TV} {as:List AC},H0 l=some as->(∀v∈l,TV.wf aB aC v)->∀a∈as,AC.wfP aB a
 |[],as,h,_=>by simp[H0]at h;subst h;intro a E;simp at E
 |v::l,as,h,D=>by
  unfold H0 at h;split at h
  ·simp at*
  ·rename_i a L heq;simp only[fh]at heq;obtain⟨rfl,rfl⟩:=heq;cases G:a.clOk<;>rw[G]at h
   ·simp at h
   ·simp only[ai]at h;split at h
    ·rename_i r I;simp at h;subst h;intro b hb;simp only[az]at hb;rcases hb with rfl|hb
     ·have:=D (.c b) (by simp) b (by simp);cases b<;>first|exact this|trivial
     ·exact Qbk I (λv J=>D v (by simp[J])) b hb
    ·simp at h
  ·simp at h
theorem XK {Y:Operand->TV} (E:∀x,TV.wf aB aC (Y x)) {dst:Option Tmp} {o:Op} {p:Prim} (h:opK P C Y dst o some=some p):Prim.wf aB aC p:=by
 cases o<;>simp only[opK]at h<;>try (simp at h;done)
 case move x=>simp at h;subst h;exact E x
 case assign x=>simp at h;subst h;exact E x
 case pick c a b=>
  split at h
  ·rename_i g _;cases g<;>simp at h<;>subst h
   ·exact E b
   ·exact E a
  ·simp at h
 case alloc t=>
  split at h
  ·rename_i cs O;simp at h;subst h;exact Q9 O
  ·simp at h
 case box t x=>
  split at h
  ·rename_i cs hc;simp at h;subst h;exact TV.cells_wf hc (E x)
  ·simp at h
 case build t parts=>
  split at h
  ·rename_i z fs O hu;cases T:(Ai (Jz P) fs.toList)<;>rw[T]at h
   ·simp at h
   ·simp only[ai]at h;split at h
    ·rename_i cs hb;simp at h;subst h;exact R5 _ _ _ hb (Q9 O) (PE E _)
    ·simp at h
  ·rename_i z n el O hu;split at h
   ·split at h
    ·rename_i cs hb;simp at h;subst h;exact R5 _ _ _ hb (Q9 O) (PE E _)
    ·simp at h
   ·simp at h
  ·simp at h
 case buildSlice t n parts=>
  split at h
  ·split at h
   ·cases hb:(Nat.beq _ _&&Nat.beq _ _&&Nat.ble 1 _&&Nat.ble _ 65536)<;>rw[hb]at h
    ·simp at h
    ·simp only[ai]at h;split at h
     ·rename_i O _ _ cs a0;split at h
      ·cases a1:Qa C dst n<;>rw[a1]at h<;>simp at h<;>subst h<;>trivial
      ·cases S:(Ai AC.isClo cs&&Nat.beq _ 1)<;>rw[S]at h
       ·simp at h
       ·simp only[ai]at h;simp at h;subst h;refine R5 _ _ _ a0 (λa M=> ?_) (PE E _);exact Q18 (Q9 O) _ a M
     ·simp at h
   ·simp at h
  ·simp at h
 case makeSlice t len cap=>
  split at h
  ·split at h
   ·split at h
    ·cases hb:(Nat.beq _ _&&Nat.ble 1 _&&Nat.ble 1 _)<;>rw[hb]at h
     ·simp at h
     ·simp only[ai]at h;obtain⟨_,rfl⟩:=I6 h;trivial
    ·simp at h
   ·simp at h
  ·simp at h
 case makeFunc fn a b=>
  split at h
  ·split at h
   ·rename_i fs cs a2 a3;simp at h;subst h;exact B9 ⟨Qbk a2 (Ma E _),Qbk a3 (Ma E _)⟩
   ·simp at h
  ·simp at h
 case load t a=>
  split at h
  ·have M:=E a;split at h
   ·rename_i key off D;simp at h;subst h;rw[D]at M;exact Ea M
   ·rename_i cells sub D;split at h
    ·rename_i v L;simp at h;subst h;rw[D]at M;exact ON L (Qqh (Ea M))
    ·simp at h
   ·rename_i id idx sub D;simp at h;subst h;rw[D]at M;exact Ea M
   ·simp at h
  ·simp at h
 case store t a x=>
  split at h
  ·rename_i sz cs hs hc;cases hb:(Nat.beq cs.length sz)<;>rw[hb]at h
   ·simp at h
   ·simp only[ai]at h;have M:=E a;split at h
    ·rename_i key off D;simp at h;subst h;rw[D]at M;exact⟨Ea M,TV.cells_wf hc (E x)⟩
    ·rename_i id idx sub D;simp at h;subst h;rw[D]at M;exact Ea M
    ·simp at h
  ·simp at h
 case nilCheck x=>
  have G:=E x;split at h
  all_goals first|(simp at h;done)|(rename_i D;simp at h;subst h;rw[D]at G;exact G)
 case binOp op t x y yt=>
  split at h
  ·cases hk:(kEq _ _||KC op)<;>rw[hk]at h
   ·simp at h
   ·simp only[ai]at h;rename_i k a k' b _ _;rw[Yl]at h;cases U:Fw op k a b some with
    |none=>rw[U]at h;simp at h
    |some c=>rw[U]at h;simp at h;subst h;exact B9 (Zcg U)
  ·split at h
   ·simp at h;subst h;exact E_ _
   ·simp at h;subst h;exact E_ _
   ·simp at h
  ·split at h
   ·simp at h;subst h;exact E_ _
   ·simp at h;subst h;exact E_ _
   ·rename_i a b _ _ _;cases hb:Nat.ble (a.size+b.size) 9223372036854775807<;>rw[hb]at h
    ·simp at h
    ·simp at h;subst h;exact B9 trivial
   ·simp at h
  ·split at h
   ·simp at h;subst h;exact E_ _
   ·simp at h;subst h;exact E_ _
   ·simp at h
  ·split at h
   ·simp at h;subst h;exact E_ _
   ·simp at h;subst h;exact E_ _
   ·simp at h
  ·cases hg:P.eqGuardType P.depth t<;>rw[hg]at h
   ·simp only[ao]at h;split at h
    ·simp at h;subst h;exact E_ _
    ·simp at h;subst h;exact E_ _
    ·simp at h
   ·simp at h
  ·simp at h
 case unOp a4 t x=>
  split at h
  ·simp at h;subst h;exact PM _ _
  ·simp at h;subst h;exact E_ _
  ·simp at h
 case convert src dst x=>
  split at h
  ·simp at h;subst h;exact PM _ _
  ·simp at h
 case fieldAddr t x i=>
  split at h
  ·split at h
   ·have G:=E x;split at h
    ·rename_i D;simp at h;subst h;rw[D]at G;have q:=Ea G;exact B9 q
    ·rename_i D;simp at h;subst h;rw[D]at G;have q:=Ea G;exact B9 q
    ·rename_i D;simp at h;subst h;rw[D]at G;have q:=Ea G;exact B9 q
    ·simp at h
   ·simp at h
  ·simp at h
 case field t x i=>
  split at h
  ·rename_i f cs hf D;split at h
   ·rename_i v V;simp at h;subst h;have G:=E x;rw[D]at G;exact Qok V G
   ·simp at h
  ·simp at h
 case indexAddr t x ix=>
  split at h
  ·have G:=E x;split at h
   ·rename_i D;obtain⟨j,I,_⟩:=GA h;simp at I;subst I;rw[D]at G;have q:=Ea G;exact B9 q
   ·rename_i D;obtain⟨j,I,_⟩:=GA h;simp at I;subst I;rw[D]at G;have q:=Ea G;exact B9 q
   ·rename_i D;obtain⟨j,I,_⟩:=GA h;simp at I;subst I;rw[D]at G;have q:=Ea G;exact B9 q
   ·simp at h
  ·have G:=E x;split at h
   ·rename_i m ks l hm D;cases hb:Nat.beq m ks.length<;>rw[hb]at h
    ·simp at h
    ·simp only[ai]at h;obtain⟨_,rfl⟩:=I6 h;exact B9 (Q0x _ _ _)
   ·rename_i m id wd n hm D;cases hb:Nat.beq m wd<;>rw[hb]at h
    ·simp at h
    ·simp only[ai]at h;obtain⟨hd,rfl⟩:=I6 h;rw[D]at G;obtain⟨r,I,h2,h3⟩:=Ea G;simp at hd;exact B9 ⟨r,I,by omega⟩
   ·rename_i m key n hm D;cases hb:Nat.beq m 1<;>rw[hb]at h
    ·simp at h
    ·simp only[ai]at h;obtain⟨j,I,_⟩:=GA h;simp at I;subst I;rw[D]at G;have q:=Ea G;exact B9 q
   ·simp at h
  ·simp at h
 case index t x ix=>
  split at h
  ·rename_i i n el cs U hu D;split at h
   ·obtain⟨j,I,_⟩:=GA h;have G:=E x;rw[D]at G;split at I
    ·rename_i v V;simp at I;subst I;exact Qok V G
    ·simp at I
   ·simp at h
  ·simp at h
 case slice t x lo U mx=>
  split at h
  ·split at h
   ·rename_i m ks l hm D;cases hb:Nat.beq m ks.length<;>rw[hb]at h
    ·simp at h
    ·simp only[ai]at h;split at h
     ·simp at h;subst h;exact B9 trivial
     all_goals
      obtain⟨_,rfl⟩:=I6 h;exact B9 trivial
   ·split at h
    ·cases hb:Nat.beq _ _<;>rw[hb]at h
     ·simp at h
     ·simp only[ai]at h;obtain⟨_,rfl⟩:=I6 h;trivial
    ·simp at h
   ·split at h
    ·simp at h;subst h;exact B9 trivial
    all_goals
     obtain⟨_,rfl⟩:=I6 h;exact B9 trivial
   ·simp at h
  ·simp at h
 case extract t i=>
  have ht:=E t;split at h
  ·rename_i ps D;split at h
   ·rename_i g cs hg;simp at h;subst h;rw[D]at ht;exact ht (g,cs) (bq hg)
   ·simp at h
  ·simp at h
 case call c=>
  split at h
  ·rename_i b hb;have J:=Ma E c.args.toList
   revert J h
   generalize BH Y c.args.toList=args;intro h J;unfold H8 at h;split at h
   case h_6=>exact Ze _ _ _ _ _ h
   case h_7=>exact Ze _ _ _ _ _ h
   case h_8=>
    rename_i s x
    repeat' split at h
    all_goals try (simp at h;done)
    obtain⟨_,rfl⟩:=I6 h;exact⟨Ea (J _ (by simp)),Ea (J _ (by simp))⟩
   all_goals
    repeat' split at h
    all_goals first|(simp at h;done)|(simp at h;subst h;exact PM _ _)
  ·rename_i f hf;cases V:C.pure f<;>rw[V]at h<;>simp at h<;>subst h<;>exact Ma E _
  ·rename_i t ht;split at h
   ·rename_i f fs cs S;cases N:(Ai AC.clOk fs&&Ai AC.clOk cs)<;>rw[N]at h
    ·simp at h
    simp only[ai,ap]at h;subst h;simp only[al]at N;have L:=E (.tmp t);rw[S]at L;have hq:=Ea L;have X:∀l:List AC,(∀a∈l,AC.wfP aB a)->Ai AC.clOk l=true->∀v∈l.map TV.c,TV.wf aB aC v:=by
     intro l I h2 v L;simp only[av]at L;obtain⟨a,M,rfl⟩:=L;have q1:=I a M;have q2:=As.1 h2 a M;cases a<;>first|exact B9 q1|(simp[AC.clOk]at q2;done)|exact B9 trivial
    intro v L;rcases co.1 L with L|L
    ·exact X fs hq.1 N.1 v L
    ·rcases co.1 L with L|L
     ·exact Ma E _ v L
     ·exact X cs hq.2 N.2 v L
   ·simp at h
  ·simp at h
end
open Go.RowKit
def Rel (Z:Base) (s:St) (tmps:Array Value) (w:World):Prop:=∃ρ,RelE Z s.tmps s.aB s.aC ρ tmps w
section
variable {P:Program} {C:Cfg} {w:World} {R:Type} {Z:Base}
theorem RelE.put {ρ:Env} {tm:List TV} {aB:List (Nat×Box)} {aC:List (Nat×Row)} {tmps:Array Value} (h:RelE Z tm aB aC ρ tmps w) (d:Nat) {v:TV} {x:Value} (J:TVR ρ w v x) (L:TV.wf aB aC v):
  RelE Z (setL tm d v) aB aC ρ (tmps.setIfInBounds d x) w:=by
 rw[Hh];refine⟨by simp[h.tl],λi u D=> ?_,λu G=> ?_,h.wb,h.bx,h.bi,h.ro,h.ri,h.br,h.ib,h.fr,h.fs,h.i0,h.i1,h.k0⟩
 ·rw[gh]at D;by_cases E:d=i
  ·subst E;simp only[dc]at D;split at D
   ·rename_i I;simp at D;subst D;have:d<tmps.size:=by rw[<-h.tl];exact I
    simpa [Array.getD,this]using J
   ·simp at D
  ·rw[ab E]at D;have:=h.tv i u D;have e:(tmps.setIfInBounds d x).getD i undef=tmps.getD i undef:=by
    simp[Array.getD_eq_getD_getElem?,Array.getElem?_setIfInBounds_ne E]
   rw[e];exact this
 ·rcases d8 G with G|rfl
  ·exact h.wt u G
  ·exact L
theorem RelE.learn {ρ:Env} {tm:List TV} {aB:List (Nat×Box)} {aC:List (Nat×Row)} {tmps:Array Value} (h:RelE Z tm aB aC ρ tmps w) (d:Nat) {v:TV} (I:TVR ρ w v (tmps.getD d undef)) (J:TV.wf aB aC v):
  RelE Z (setL tm d v) aB aC ρ tmps w:=by
 rw[Hh];refine⟨by simp[h.tl],λi u D=> ?_,λu G=> ?_,h.wb,h.bx,h.bi,h.ro,h.ri,h.br,h.ib,h.fr,h.fs,h.i0,h.i1,h.k0⟩
 ·rw[gh]at D;by_cases E:d=i
  ·subst E;simp only[dc]at D;split at D
   ·simp at D;subst D;exact I
   ·simp at D
  ·rw[ab E]at D;exact h.tv i u D
 ·rcases d8 G with G|rfl
  ·exact h.wt u G
  ·exact J
theorem EE (s:St) (d:Option Tmp) (v:TV) (K:St->Option R):put s d v K=K (match d with|none=>s|some t=>⟨setL s.tmps t v,s.aB,s.aC⟩):=by
 obtain⟨tm,aB,aC⟩:=s;cases d with
 |none=>rfl
 |some t=>simp only[put,A2]
theorem Qv4 {ρ:Env} {tm:List TV} {aB:List (Nat×Box)} {aC:List (Nat×Row)} {a:Act} (h:RelE Z tm aB aC ρ a.tmps w) (x:Operand):TVR ρ w (AK tm x) (a.eval x):=by
 cases x with
 |tmp t=>
  simp only[AK,B3,List.getD,Act.eval];cases D:tm[t]? with
  |none=>trivial
  |some v=>exact h.tv t v D
 |const v=>exact Zrc v
 |global=>trivial
 |func=>trivial
theorem Rn:∀(l:List Nat) (s:St) (tmps:Array Value),Rel Z s tmps w->∀(K:St->Option R) (r:R),Hi l s K=some r->∃G,K G=some r/\Rel Z G tmps w
 |[],s,tmps,D,K,r,h=>⟨s,h,D⟩
 |id::l,s,tmps,D,K,r,h=>by
  obtain⟨tm,aB,aC⟩:=s;simp only[Hi]at h;split at h
  ·rename_i I E;simp only[A2]at h;obtain⟨ρ,D⟩:=D;exact Rn l _ tmps ⟨_,D.freeze E⟩ K r h
  ·exact Rn l _ tmps D K r h
theorem Zt4 {k o:Nat} {e:TypeId} {s:St} {tmps:Array Value} (D:Rel Z s tmps w) {K:St->Option R} {r:R} (h:J4 P k o e s K=some r):∃G,K G=some r/\Rel Z G tmps w:=by
 obtain⟨tm,aB,aC⟩:=s;obtain⟨ρ,D⟩:=D;simp only[J4]at h;split at h
 ·rename_i b I;split at h
  ·rename_i J;split at h
   ·rename_i ks L;cases E:(Nat.ble 1 ks.length&&GG aC (1000000+1000*k+o))<;>rw[E]at h
    ·simp at h
    ·simp only[ai,A2]at h;simp only[al]at E;exact⟨_,h,_,D.promB I J (Qdm E.2) (bc E.1)⟩
   ·simp at h
  ·exact⟨_,h,ρ,D⟩
 ·exact⟨_,h,ρ,D⟩
theorem Qmy:∀(l:List (Nat×Nat×TypeId)) (s:St) (tmps:Array Value),Rel Z s tmps w->∀(K:St->Option R) (r:R),HF P l s K=some r->∃D,K D=some r/\Rel Z D tmps w
 |[],s,tmps,E,K,r,h=>⟨s,h,E⟩
 |(k,o,e)::l,s,tmps,E,K,r,h=>by
  simp only[HF]at h;obtain⟨D,h',G⟩:=Zt4 E h;exact Qmy l D tmps G K r h'
theorem P1:∀(l:List (Nat×TypeId)) (s:St) (tmps:Array Value),Rel Z s tmps w->∀(K:St->Option R) (r:R),HB P l s K=some r->∃O,K O=some r/\Rel Z O tmps w
 |[],s,tmps,E,K,r,h=>⟨s,h,E⟩
 |(t,e)::l,s,tmps,E,K,r,h=>by
  obtain⟨tm,aB,aC⟩:=s;simp only[HB]at h;split at h
  ·rename_i I;split at h
   ·rename_i ks D T;cases S:Nat.ble 1 ks.length<;>rw[S]at h
    ·simp at h
    ·simp only[ai,A2]at h;refine P1 l _ tmps ?_ K r h;obtain⟨ρ,E⟩:=E;have J:=E.addRow (d:=t) D (r:=⟨e,ks,[]⟩) (v':= .slice none 0 0) (xs:=[]) (w':=w) (Below.refl _ _) (bc S) (Ud w e ks.length) ⟨by simp,by simp,λi c U=>by simp at U⟩ (λg V=>by simp[Value.ownBlock]at V);refine⟨_,J.learn t ?_ (B9 ⟨_,DI _ _ _ D,rfl,rfl⟩)⟩;have X:tmps.getD t undef= .slice none 0 0:=by
      have L:t<tm.length:=by
       rcases iq t tm.length with M|N
       ·exact M
       ·rw[B3,List.getD,db N]at I;simp at I
      have G:tm[t]? =some (.c .nilSl):=by
       rw[B3,List.getD]at I;rw[an L]at I⊢;simpa using I
      have:=(E.tv t _ G).c;simpa [CC,CP]using this
     rw[X];exact TVR.c' ⟨by simp only[Bt],by simp only[Bt], .inl ⟨rfl,rfl⟩⟩
   ·simp at h
  ·exact P1 l _ tmps E K r h
theorem O0 {s:St} {tmps:Array Value} (I:Rel Z s tmps w) {K:St->Option R} {r:R} (h:GH P C s K=some r):∃E,K E=some r/\Rel Z E tmps w:=by
 unfold GH at h;obtain⟨E,h',ρ,D⟩:=Qmy _ s tmps I _ r h;obtain⟨tm,aB,aC⟩:=E;simp only[A2]at h';refine P1 _ _ tmps ?_ K r h';refine⟨ρ,?_⟩;refine D.reBox (g:=λ_ b=>Qp P b) (λ_ b=> ?_) λk b G=> ?_
 ·unfold Qp;split<;>rfl
 ·unfold Qp;split
  ·rename_i ks _;exact⟨λxs h=>IS ks b.cells xs h,KJ ks b.cells (D.wb k b G)⟩
  ·exact⟨λxs h=>h,D.wb k b G⟩
theorem Zql {o:Op} {s:St} {tmps:Array Value} (I:Rel Z s tmps w) {K:St->Option R} {r:R} (h:G_ P C o s K=some r):∃G,K G=some r/\Rel Z G tmps w:=by
 unfold G_ at h;obtain⟨s1,E,D⟩:=Rn _ s tmps I _ r h;cases J:Ts C o<;>rw[J]at E
 ·exact⟨s1,E,D⟩
 ·exact O0 D E
theorem Zss {pre:Bool} {ρ:Env} {e:Operand->Value} {o:Oper} {p:Prim} (h:HX P ρ w e o p):HX P ρ w e o (p.dr pre):=by
 cases pre<;>cases p<;>first|exact h|(simp only[Prim.dr];cases Ai TV.plainB _<;>exact h)
theorem VW {pre:Bool} {bx:List (Nat×Box)} {aC:List (Nat×Row)} {p:Prim} (h:Prim.wf bx aC p):Prim.wf bx aC (p.dr pre):=by
 cases pre<;>cases p<;>first|exact h|(simp only[Prim.dr];cases Ai TV.plainB _<;>exact h)
theorem Q0g (D:Aj P C) (S:∀t∈C.eqOk,P.stoodInHeld t=false) {s:St} {o:Oper} {a:Act} (G:Rel Z s a.tmps w) {K:Option Prim->St->Option R} {r:R}
  {pre:Bool} (h:(opK P C (AK s.tmps) o.dst o.op λp=>A6 C o.dst (p.dr pre) s λv M=>put M o.dst v (K (some (p.dr pre))))=some r) {next:Act->World->Prop} {Q:Exit->Act->World->Prop}
  (E:∀(po:Option Prim) (M:St) (T:Act) (w':World),K po M=some r->Rel Z M T.tmps w'->(∃x,T=a.put o.dst x)->next T w'):o.wp P a w next Q:=by
 obtain⟨ρ,G⟩:=G;obtain⟨tm,aB,aC⟩:=s;have U:=λx=>Qv4 G x;rw[Of]at h;cases N:opK P C (AK tm) o.dst o.op some with
 |none=>rw[N]at h;simp at h
 |some p=>
  rw[N]at h;simp only[ak]at h;obtain⟨p',I,J⟩:=Q4q S U (λf=>rfl) o N;simp at I;subst I;have V:=XK (aB:=aB) (aC:=aC) (λx=>WS G.wt x) N;refine Zcm D G (Zss J) (VW V) h ?_;intro v a0 O X ρ' x w' hK L hv Y;rw[EE]at hK;refine E (some (p'.dr pre)) _ _ w' hK ?_ ?_
  ·cases hd:o.dst with
   |none=>exact⟨ρ',L⟩
   |some d=>exact⟨ρ',L.put d hv Y⟩
  ·exact⟨x,rfl⟩
theorem TO (D:Aj P C) (G:∀t∈C.eqOk,P.stoodInHeld t=false) {pre:Bool} {s:St} {o:Oper} {a:Act} (M:Rel Z s a.tmps w) {K:Option Prim->St->Option R} {r:R}
  (h:((bif pre then G_ P C o.op s else λK=>K s) λs=>opK P C (AK s.tmps) o.dst o.op λp=>A6 C o.dst (p.dr pre) s λv I=>put I o.dst v (K (some (p.dr pre))))=some r) {next:Act->World->Prop} {Q:Exit->Act->World->Prop}
  (E:∀(N:Option Prim) (I:St) (J:Act) (w':World),K N I=some r->Rel Z I J.tmps w'->(∃x,J=a.put o.dst x)->next J w'):o.wp P a w next Q:=by
 cases pre
 ·exact Q0g D G M h E
 ·obtain⟨I,h',L⟩:=Zql M h;exact Q0g D G L h' E
theorem Zc2 (I:Aj P C) (T:∀t∈C.eqOk,P.stoodInHeld t=false) {pre:Bool} {ops:Array Oper} {s:St} {o:Oper} {a:Act} (hR:Rel Z s a.tmps w) {K:Option Prim->St->Option R} {r:R}
  (h:En P C pre ops.toList o s K=some r) {next:Act->World->Prop} {Q:Exit->Act->World->Prop}
  (G:∀(po:Option Prim) (s':St) (a':Act) (w':World),K po s'=some r->Rel Z s' a'.tmps w'->(∃x,a'=a.put o.dst x)->next a' w'):
  if Region.wanted o (yielded ops a.tmps)=true then o.wp P a w next Q else next (a.put o.dst undef) w:=by
 have J:∀s':St,Rel Z s' a.tmps w->put s' o.dst (.tup []) (K none)=some r->next (a.put o.dst undef) w:=by
  intro s' E hp;rw[EE]at hp;refine G none _ _ w hp ?_ ⟨_,rfl⟩;obtain⟨ρ,E⟩:=E;cases hd:o.dst with
  |none=>exact⟨ρ,E⟩
  |some d=>exact⟨ρ,E.put d ⟨#[],rfl,trivial⟩ (λp hp=>by simp at hp)⟩
 unfold En Ny at h;cases hg:o.guard with
 |none=>
  rw[hg]at h;rw[aa (by simp[Region.wanted,hg])];exact TO I T hR h G
 |some jw=>
  obtain⟨j,want⟩:=jw;rw[hg]at h;simp only at h;split at h
  ·rename_i oj hj;split at h
   ·rename_i t ht;split at h
    ·rename_i g D;obtain⟨ρ,L⟩:=hR;have O:t<s.tmps.length:=by
      rcases iq t s.tmps.length with U|V
      ·exact U
      ·rw[B3,List.getD,db V]at D;simp at D
     have M:s.tmps[t]? =some (.c (.bool g)):=by
      rw[B3,List.getD]at D;rw[an O]at D⊢;simpa using D
     have N:=(L.tv t _ M).bool;have S:t<a.tmps.size:=by rw[<-L.tl];exact O
     have X:a.tmps[t]? =some (.bool g):=by
      rw[gj S];rw[Array.getD,dif_pos S]at N;simpa using N
     have hy:yielded ops a.tmps j=some g:=by
      unfold yielded;have Y:ops[j]? =some oj:=by simpa using hj
      simp[Y,ht,X]
     have hl:∀b,g=b->Rel Z ⟨setL s.tmps t (.c (.bool b)),s.aB,s.aC⟩ a.tmps w:=by
      rintro b rfl;exact⟨ρ,L.learn t (by rw[N];exact TVR.mkBool _) (E_ _)⟩
     have hw:Region.wanted o (yielded ops a.tmps)=(g==want):=by
      simp only[Region.wanted,hg,hy];cases g<;>cases want<;>rfl
     cases g
     ·simp only[ao]at h;rw[EE]at h;dsimp only at h;have E:=hl false rfl;cases want
      ·rw[aa (by rw[hw];rfl)];simp only[ao]at h;exact TO I T E h G
      ·rw[ab (by rw[hw];simp)];simp only[ai]at h;exact J _ E h
     ·simp only[ai]at h;rw[EE]at h;dsimp only at h;have E:=hl true rfl;cases want
      ·rw[ab (by rw[hw];simp)];simp only[ao]at h;exact J _ E h
      ·rw[aa (by rw[hw];rfl)];simp only[ai]at h;exact TO I T E h G
    ·rename_i D;obtain⟨ρ,L⟩:=hR;have O:t<s.tmps.length:=by
      rcases iq t s.tmps.length with U|V
      ·exact U
      ·rw[B3,List.getD,db V]at D;simp at D
     have M:s.tmps[t]? =some (.tup []):=by
      rw[B3,List.getD]at D;rw[an O]at D⊢;simpa using D
     obtain⟨ys,a0,N⟩:=L.tv t _ M;have S:t<a.tmps.size:=by rw[<-L.tl];exact O
     have X:a.tmps[t]? =some (.tuple ys):=by
      rw[gj S];rw[Array.getD,dif_pos S]at a0;simpa using a0
     have hy:yielded ops a.tmps j=none:=by
      unfold yielded;have Y:ops[j]? =some oj:=by simpa using hj
      simp[Y,ht,X]
     have hw:Region.wanted o (yielded ops a.tmps)=false:=by
      simp only[Region.wanted,hg,hy];rfl
     rw[ab (by rw[hw];simp)];exact J _ ⟨ρ,L⟩ h
    ·simp at h
   ·simp at h
  ·simp at h
theorem Qne (D:Aj P C) (J:∀t∈C.eqOk,P.stoodInHeld t=false) {pre:Bool} {ops:Array Oper} {s:St} {o:Oper} {a:Act} (M:Rel Z s a.tmps w) {K:Option Prim->St->Option R} {r:R}
  (h:En P C pre ops.toList o s K=some r) {next:Act->World->Prop} {Q:Exit->Act->World->Prop}
  (E:∀(L:Option Prim) (I:St) (G:Act) (w':World),K L I=some r->Rel Z I G.tmps w'->G.defers=a.defers->next G w'):
  if Region.wanted o (yielded ops a.tmps)=true then o.wp P a w next Q else next (a.put o.dst undef) w:=
 Zc2 D J M h λL I G w' N O ⟨x,S⟩=>E L I G w' N O (by subst S;cases o.dst<;>rfl)
theorem Qyi (D:Aj P C) (E:∀t∈C.eqOk,P.stoodInHeld t=false) {ops:Array Oper} {Q:Exit->Act->World->Prop} {K:St->Option R} {r:R}:
  ∀(l:List Oper) (s:St) (a:Act) (w:World),Rel Z s a.tmps w->QB P C ops.toList l s K=some r->
  (∀(I:St) (G:Act) (w':World),K I=some r->Rel Z I G.tmps w'->G.defers=a.defers->Q .normal G w')->wpList P ops Q l a w
 |[],s,a,w,J,h,L=>L s a w h J rfl
 |o::l,s,a,w,J,h,L=>by
  simp only[QB]at h;have:=Qne (next:=wpList P ops Q l) (Q:=Q) D E J h (λY I G w' O M S=>Qyi D E l I G w' M O (λs2 a2 T U V X=>L s2 a2 T U V (X.trans S)));simp only[wpList];split
  ·rename_i N;rw[aa N]at this;exact .inl this
  ·rename_i N;rw[ab N]at this;exact this
end
end Go.Bm
