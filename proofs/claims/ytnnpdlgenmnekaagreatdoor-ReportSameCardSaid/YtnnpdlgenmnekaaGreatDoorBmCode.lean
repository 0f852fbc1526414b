/- the abstract machine -/
import Derived.Test.YtnnpdlgenmnekaaGreatDoorBmStep
import Derived.ArgAppend
import Derived.LoopN
set_option linter.unusedVariables false
set_option linter.unusedSimpArgs false
namespace Go.Bm
open Go.RowKit
section
variable {P:Program} {C:Cfg} {ρ:Env} {w:World} {R:Type} {Z:Base} {tm:List TV} {aB:List (Nat×Box)} {aC:List (Nat×Row)} {tmps:Array Value}
theorem JZ {a b:Nat} (h:a≠b):Nat.beq a b=false:=by
  cases hb:Nat.beq a b
  · rfl
  · exact absurd (ac hb) h
theorem GK {a b:Nat} (h:Nat.beq a b=false):a≠b:=by rintro rfl;simp at h
theorem TVR.map {M:Env} {w':World} {g:AC->AC} {v:TV} (N:∀(a:AC) (x:Value),AC.wf aB aC a->CC ρ w a x->CC M w' (g a) x) (I:TV.wf aB aC v) {x:Value} (h:TVR ρ w v x):
    TVR M w' (v.mapC g) x:=by
  have U:∀{l:List AC} {xs:List Value},(∀a∈l,AC.wf aB aC a)->CL (CC ρ w) l xs->CL (CC M w') (l.map g) xs:=by
    intro l;induction l with
    |nil=>intro xs _ h;cases xs<;>first|exact h|exact h.elim
    |cons a l O=>
      intro xs V h;cases xs with
      |nil=>exact h.elim
      |cons y xs=>exact⟨N a y (V a (by simp)) h.1,O (λb hb=>V b (by simp[hb])) h.2⟩
  cases v with
  |vD=>trivial
  |v b cs=>
    cases b
    · obtain⟨a,rfl,Y⟩:=h;exact⟨g a,rfl,N a x (I a (by simp)) Y⟩
    · obtain⟨L,rfl,D⟩:=h;exact⟨L,rfl,U I D⟩
  |tup ps=>
    obtain⟨L,rfl,D⟩:=h;refine⟨L,rfl,?_⟩;generalize L.toList=l at D;induction ps generalizing l with
    |nil=>cases l<;>first|exact D|exact D.elim
    |cons p ps O=>
      cases l with
      |nil=>exact D.elim
      |cons y l=>
        obtain⟨b,cs⟩:=p;refine⟨?_,O (λq hq=>I q (by simp[hq])) l D.2⟩;have X:=D.1;have G:=I (b,cs) (by simp);cases b
        · obtain⟨a,S,T⟩:=X;subst S;exact⟨g a,rfl,N a y (G a (by simp)) T⟩
        · obtain⟨zs,S,T⟩:=X;exact⟨zs,S,U G T⟩
theorem CL.mapg {D:Env} {w':World} {g:AC->AC}:∀{l:List AC} {xs:List Value},(∀(a:AC) (x:Value),AC.wf aB aC a->CC ρ w a x->CC D w' (g a) x)->(∀a∈l,AC.wf aB aC a)->CL (CC ρ w) l xs->CL (CC D w') (l.map g) xs
  |[],[],_,_,h=>h
  |a::l,y::xs,G,I,h=>⟨G a y (I a (by simp)) h.1,CL.mapg G (λb hb=>I b (by simp[hb])) h.2⟩
  |[],_::_,_,_,h=>h.elim
  |_::_,[],_,_,h=>h.elim
theorem TV.wf_map {D:List (Nat×Box)} {G:List (Nat×Row)} {g:AC->AC} {v:TV} (M:∀a,AC.wf aB aC a->AC.wf D G (g a)) (N:TV.wf aB aC v):
    TV.wf D G (v.mapC g):=by
  cases v with
  |vD=>trivial
  |v b cs=>
    intro a I;simp only[av]at I;obtain⟨c,L,rfl⟩:=I;exact M c (N c L)
  |tup ps=>
    intro p O a I;simp only[av]at O;obtain⟨q,S,rfl⟩:=O;simp only[av]at I;obtain⟨c,L,rfl⟩:=I;exact M c (N q S c L)
theorem TV.fz_eq (id:Nat) (ks:List Kd) (l:List (List AC)) (v:TV):v.fz id ks l=v.mapC (AC.fz id ks l):=by cases v<;>rfl
theorem RelE.freeze (h:RelE Z tm aB aC ρ tmps w) {id:Nat} {r:Row} (hid:Ab aC id=some r):
    RelE Z (tm.map (TV.fz id r.ks r.l)) (aB.map λp=>(p.1,p.2.fz id r.ks r.l)) (del id aC) {ρ with im:=λb=>ρ.im b\/(ρ.rv id).ownBlock=some b} tmps w:=by
  have V:∀k,Ab (aB.map λp=>(p.1,p.2.fz id r.ks r.l)) k=(Ab aB k).map (Box.fz id r.ks r.l):=λk=>E_ (Box.fz id r.ks r.l) aB k;have D:∀(k:Nat) (b:Box),Ab (aB.map λp=>(p.1,p.2.fz id r.ks r.l)) k=some b->∃b',Ab aB k=some b'/\b=b'.fz id r.ks r.l:=by
    intro k b G;rw[V]at G;cases hl:Ab aB k with
    |none=>rw[hl]at G;simp at G
    |some b'=>rw[hl]at G;simp at G;exact⟨b',rfl,G.symm⟩
  have L:∀(k:Nat) (b:Box),Ab aB k=some b->∃b',Ab (aB.map λp=>(p.1,p.2.fz id r.ks r.l)) k=some b':=λk b G=>⟨b.fz id r.ks r.l,by rw[V,G];rfl⟩;obtain⟨q1,q2,q0,xs,q3,q4⟩:=h.ro id r hid;have T:CP (λb=>ρ.im b\/(ρ.rv id).ownBlock=some b) w (.vC r.ks r.l) (ρ.rv id):=
    Ys q3 (q4.mono (λ_ h=> .inl h) (λ_ _=>rfl)) (λg hg=> .inr hg)
  have X:∀(a:AC) (x:Value),AC.wf aB aC a->CC ρ w a x->CC {ρ with im:=λb=>ρ.im b\/(ρ.rv id).ownBlock=some b} w (a.fz id r.ks r.l) x:=by
    intro a x _ hx;have U:CC {ρ with im:=λb=>ρ.im b\/(ρ.rv id).ownBlock=some b} w a x:=CC.mono (ρ:=ρ) (ρ':={ρ with im:=λb=>ρ.im b\/(ρ.rv id).ownBlock=some b}) (λ_ h=> .inl h) (λ_ _=>rfl) a x (AC.agree_refl rfl rfl rfl a) hx;cases a with
    |own j w1 n1=>
      simp only[AC.fz];cases hb:Nat.beq j id
      · exact U
      · have:=ac hb;subst this
        obtain⟨c1,_,_⟩:=hx;subst c1;exact T
    |rptr j i1 s1=>
      simp only[AC.fz];cases hb:Nat.beq j id
      · exact U
      · exact hx.one
    |_=>exact U
  have Y:∀a,AC.wf aB aC a->AC.wf (aB.map λp=>(p.1,p.2.fz id r.ks r.l)) (del id aC) (a.fz id r.ks r.l):=by
    intro a N;cases a with
    |ptr k o=>obtain⟨b,hb⟩:=N;exact L k b hb
    |bsl k o=>obtain⟨b,hb⟩:=N;exact L k b hb
    |own j w1 n1=>
      simp only[AC.fz];cases hb:Nat.beq j id
      · obtain⟨q,I,M⟩:=N
        exact⟨q,by rw[J8 _ _ _ (GK hb)];exact I,M⟩
      · trivial
    |rptr j i1 s1=>
      simp only[AC.fz];cases hb:Nat.beq j id
      · obtain⟨q,I,M⟩:=N
        exact⟨q,by rw[J8 _ _ _ (GK hb)];exact I,M⟩
      · trivial
    |vptr=>exact N
    |clo f fs cs=>exact⟨λa U=>AC.wfP_mono L (N.1 a U),λa U=>AC.wfP_mono L (N.2 a U)⟩
    |_=>trivial
  refine⟨by simpa using h.tl,?_,?_,?_,?_,?_,?_,?_,?_,?_,h.fr,h.fs,λb hb=> .inl (h.i0 b hb),?_,?_⟩
  · intro i v hi
    simp only[d8,bh]at hi;obtain⟨u,hu,rfl⟩:=hi;rw[TV.fz_eq];exact TVR.map X (h.wt u (bj hu)) (h.tv i u hu)
  · intro v hv
    simp only[av]at hv;obtain⟨u,hu,rfl⟩:=hv;rw[TV.fz_eq];exact TV.wf_map Y (h.wt u hu)
  · intro k b G a N
    obtain⟨b',O,rfl⟩:=D k b G;simp only[Box.fz,av]at N;obtain⟨c,hc,rfl⟩:=N;exact Y _ (h.wb k b' O c hc)
  · intro k b G
    obtain⟨b',O,rfl⟩:=D k b G;obtain⟨arr,h1,h2,h3⟩:=h.bx k b' O;exact⟨arr,h1,CL.mapg X (h.wb k b' O) h2,h3⟩
  · intro k k' b b' G a0
    obtain⟨_,I,_⟩:=D k b G;obtain⟨_,M,_⟩:=D k' b' a0;exact h.bi k k' _ _ I M
  · intro j q S
    obtain⟨a3,a1⟩:=LG S;obtain⟨I,M,p0,ys,p3,p4⟩:=h.ro j q a1;exact⟨I,M,p0,ys,p3,p4.mono (λ_ h=> .inl h) (λ_ _=>rfl)⟩
  · intro j j' q q' g S a2
    exact h.ri j j' q q' g (LG S).2 (LG a2).2
  · intro k b j q G S
    obtain⟨_,I,_⟩:=D k b G;exact h.br k _ j q I (LG S).2
  · rintro b (hb|hb)
    · obtain⟨I,M,p3⟩:=h.ib b hb
      exact⟨I,λk bo G=>by obtain⟨_,p,_⟩:=D k bo G;exact M k _ p,λj q S=>p3 j q (LG S).2⟩
    · refine⟨(h.rwlt hid hb).2,λk bo G e=> ?_,λj q S e=> ?_⟩
      · obtain⟨_,p,_⟩:=D k bo G
        exact h.br k _ id r p hid (by rw[hb];exact il some e.symm)
      · have hd:=LG S
        exact hd.1 (h.ri j id q r b hd.2 hid e hb)
  · rintro b (hb|hb)
    · exact h.i1 b hb
    · exact .inr (q0 b hb)
  · intro k b G
    obtain⟨I,bo,M⟩:=h.k0 k b G;exact⟨I,L k bo M⟩
theorem EN:∀{l:List Nat} {n:Nat},AH l n=true↔n∈l
  |[],n=>by simp[AH]
  |m::l,n=>by
    simp only[AH,ax];cases h:Nat.beq m n
    · simp only[aq,EN (l:=l)]
      constructor
      · exact .inr
      · rintro(e|e)
        · exact absurd e.symm (GK h)
        · exact e
    · simp[ac h]
theorem Oh {α:Type}:∀{l:List (Nat×α)} {k:Nat} {b:α},Ab l k=some b->(k,b)∈l
  |[],_,_,h=>by simp[Ab]at h
  |(j,c)::l,k,b,h=>by
    simp only[Ab]at h;cases hb:Nat.beq j k<;>rw[hb]at h
    · simp only[aq]at h;exact i9 _ (Oh h)
    · simp at h;subst h;rw[ac hb];simp
theorem Sz {α:Type} (q:Nat->Bool):∀{l:List (Nat×α)} {k:Nat} {b:α},Ab (l.filter λp=>q p.1) k=some b->Ab l k=some b/\q k=true
  |[],k,b,h=>by simp[Ab]at h
  |(j,c)::l,k,b,h=>by
    simp only[List.filter_cons]at h;cases D:q j
    · rw[D]at h
      simp only[dl,gq]at h;obtain⟨I,G⟩:=Sz q (l:=l) h;refine⟨?_,G⟩;simp only[Ab];rw[JZ (by rintro rfl;rw[D]at G;cases G)];exact I
    · rw[D]at h
      simp only[dq,Ab]at h⊢;cases hb:Nat.beq j k<;>rw[hb]at h
      · exact Sz q (l:=l) h
      · have:=ac hb;subst this
        exact⟨h,D⟩
theorem JM {α:Type} (q:Nat->Bool):∀{l:List (Nat×α)} {k:Nat} {b:α},q k=true->Ab l k=some b->Ab (l.filter λp=>q p.1) k=some b
  |[],k,b,_,h=>by simp[Ab]at h
  |(j,c)::l,k,b,D,h=>by
    simp only[List.filter_cons];simp only[Ab]at h;cases hb:Nat.beq j k<;>rw[hb]at h
    · simp only[aq]at h
      split
      · simp only[Ab,hb,aq];exact JM q D h
      · exact JM q D h
    · have:=ac hb;subst this
      rw[D];simp only[dq,Ab,hb];exact h
theorem AC.wf_filter {keys ids:List Nat} {a:AC} (D:AC.inK keys ids a=true) (G:AC.wf aB aC a):AC.wf (aB.filter λp=>AH keys p.1) (aC.filter λp=>AH ids p.1||Dd p.1) a:=by
  have N:∀l:List AC,Ak (AC.inK.inP keys) l=true->(∀a∈l,AC.wfP aB a)->∀a∈l,AC.wfP (aB.filter λp=>AH keys p.1) a:=by
    intro l O S a G;have L:=Au.1 O a G;have M:=S a G;cases a<;>first|trivial|(obtain⟨b,hb⟩:=M;exact⟨b,JM (AH keys) L hb⟩)
  cases a with
  |ptr k o=>obtain⟨b,I⟩:=G;exact⟨b,JM (AH keys) D I⟩
  |bsl k o=>obtain⟨b,I⟩:=G;exact⟨b,JM (AH keys) D I⟩
  |own id T n=>obtain⟨q,L,M⟩:=G;exact⟨q,JM (λk=>AH ids k||Dd k) (by simp only[AC.inK]at D;simp[D]) L,M⟩
  |rptr id i s1=>obtain⟨q,L,M⟩:=G;exact⟨q,JM (λk=>AH ids k||Dd k) (by simp only[AC.inK]at D;simp[D]) L,M⟩
  |vptr=>exact G
  |clo f fs cs=>
    simp only[AC.inK,ai]at D;exact⟨N fs D.1 G.1,N cs D.2 G.2⟩
  |_=>trivial
theorem TV.wf_filter {keys ids:List Nat} {v:TV} (D:TV.inK keys ids v=true) (I:TV.wf aB aC v):TV.wf (aB.filter λp=>AH keys p.1) (aC.filter λp=>AH ids p.1||Dd p.1) v:=by
  cases v with
  |vD=>trivial
  |v g cs=>exact λa G=>AC.wf_filter (Au.1 D a G) (I a G)
  |tup ps=>exact λp L a G=>AC.wf_filter (Au.1 (Au.1 D p L) a G) (I p L a G)
theorem RelE.filter (h:RelE Z tm aB aC ρ tmps w) {keys ids:List Nat} {I:List TV} {G:Array Value} (N:I.length=G.size)
    (O:∀(i:Nat) (v:TV),I[i]? =some v->TVR ρ w v (G.getD i undef)) (S:∀v∈I,TV.wf aB aC v)
    (T:Ak (TV.inK keys ids) I=true) (U:Ak (λp:Nat×Box=>Ak (AC.inK keys ids) p.2.cells) (aB.filter λp=>AH keys p.1)=true)
    (V:∀k b,Z.K0 k=some b->AH keys k=true):
    RelE Z I (aB.filter λp=>AH keys p.1) (aC.filter λp=>AH ids p.1||Dd p.1) ρ G w:=by
  have hb:∀(k:Nat) (b:Box),Ab (aB.filter λp=>AH keys p.1) k=some b->Ab aB k=some b:=λk b D=>(Sz (AH keys) D).1;have M:∀(k:Nat) (b:Row),Ab (aC.filter λp=>AH ids p.1||Dd p.1) k=some b->Ab aC k=some b:=λk b D=>(Sz (λk=>AH ids k||Dd k) D).1;refine⟨N,O,λv hv=>TV.wf_filter (Au.1 T v hv) (S v hv),λk b D a ha=> ?_,λk b D=>h.bx k b (hb k b D),λk k' b b' D X=>h.bi k k' b b' (hb k b D) (hb k' b' X),
    λid q L=>h.ro id q (M id q L),λid id' q q' g L Y=>h.ri id id' q q' g (M id q L) (M id' q' Y),λk b id q D L=>h.br k b id q (hb k b D) (M id q L),λb a0=> ?_,h.fr,h.fs,h.i0,h.i1,λk b D=> ?_⟩
  · exact AC.wf_filter (Au.1 (Au.1 U (k,b) (Oh D)) a ha) (h.wb k b (hb k b D) a ha)
  · obtain⟨q1,q2,q3⟩:=h.ib b a0
    exact⟨q1,λk bo D=>q2 k bo (hb k bo D),λid q L=>q3 id q (M id q L)⟩
  · obtain⟨q1,bo,q2⟩:=h.k0 k b D
    exact⟨q1,bo,JM (AH keys) (V k b D) q2⟩
theorem RelE.lookB {D:List (Nat×Box)} {G:List (Nat×Row)} (h:RelE Z tm aB aC ρ tmps w) (hb:∀j,Ab aB j=Ab D j) (M:∀j,Ab aC j=Ab G j):RelE Z tm D G ρ tmps w:=by
  have N:∀a,AC.wf aB aC a->AC.wf D G a:=λa=>AC.wf_mono (λk b I=>⟨b,by rw[<-hb];exact I⟩) (λk r I=>⟨r,by rw[<-M];exact I,rfl,rfl⟩);refine⟨h.tl,h.tv,λv X=>TV.wf_mono N (h.wt v X),λk b I a Y=>N a (h.wb k b (by rw[hb];exact I) a Y),λk b I=>h.bx k b (by rw[hb];exact I),λk k' b b' I O=>h.bi k k' b b' (by rw[hb];exact I) (by rw[hb];exact O),
    λid q L=>h.ro id q (by rw[M];exact L),λid id' q q' g L S=>h.ri id id' q q' g (by rw[M];exact L) (by rw[M];exact S),λk b id q I L=>h.br k b id q (by rw[hb];exact I) (by rw[M];exact L),λb T=> ?_,h.fr,h.fs,h.i0,h.i1,λk b I=> ?_⟩
  · obtain⟨U,V,q3⟩:=h.ib b T
    exact⟨U,λk bo I=>V k bo (by rw[hb];exact I),λid q L=>q3 id q (by rw[M];exact L)⟩
  · obtain⟨U,bo,V⟩:=h.k0 k b I
    exact⟨U,bo,by rw[<-hb];exact V⟩
theorem RelE.reBox (h:RelE Z tm aB aC ρ tmps w) {g:Nat->Box->Box} (T:∀k b,(g k b).ty=b.ty)
    (L:∀(k:Nat) (b:Box),Ab aB k=some b->(∀(xs:List Value),CL (CC ρ w) b.cells xs->CL (CC ρ w) (g k b).cells xs)/\∀a∈(g k b).cells,AC.wf aB aC a):
    RelE Z tm (aB.map λp=>(p.1,g p.1 p.2)) aC ρ tmps w:=by
  have M:∀(l:List (Nat×Box)) k,Ab (l.map λp=>(p.1,g p.1 p.2)) k=(Ab l k).map (g k):=by
    intro l;induction l with
    |nil=>intro k;rfl
    |cons p l Y=>
      intro k;obtain⟨j,b⟩:=p;simp only[ba,Ab,Y];cases hb:Nat.beq j k
      · rfl
      · have:=ac hb;subst this;rfl
  have G:∀(k:Nat) (b:Box),Ab (aB.map λp=>(p.1,g p.1 p.2)) k=some b->∃b',Ab aB k=some b'/\b=g k b':=by
    intro k b D;rw[M]at D;cases X:Ab aB k with
    |none=>rw[X]at D;simp at D
    |some b'=>rw[X]at D;simp at D;exact⟨b',rfl,D.symm⟩
  have N:∀(k:Nat) (b:Box),Ab aB k=some b->∃b',Ab (aB.map λp=>(p.1,g p.1 p.2)) k=some b':=λk b D=>⟨g k b,by rw[M,D];rfl⟩;have O:∀a,AC.wf aB aC a->AC.wf (aB.map λp=>(p.1,g p.1 p.2)) aC a:=λa=>AC.wf_mono N (λk r D=>⟨r,D,rfl,rfl⟩);refine⟨h.tl,h.tv,λv hv=>TV.wf_mono O (h.wt v hv),?_,?_,?_,h.ro,h.ri,?_,?_,h.fr,h.fs,h.i0,h.i1,?_⟩
  · intro k b D a ha
    obtain⟨b',I,rfl⟩:=G k b D;exact O a ((L k b' I).2 a ha)
  · intro k b D
    obtain⟨b',I,rfl⟩:=G k b D;obtain⟨arr,h1,h2,h3⟩:=h.bx k b' I;exact⟨arr,by rw[T];exact h1,(L k b' I).1 _ h2,h3⟩
  · intro k k' b b' D U
    obtain⟨_,S,_⟩:=G k b D;obtain⟨_,V,_⟩:=G k' b' U;exact h.bi k k' _ _ S V
  · intro k b j q D hq
    obtain⟨_,S,_⟩:=G k b D;exact h.br k _ j q S hq
  · intro b hb
    obtain⟨q1,q2,q3⟩:=h.ib b hb;exact⟨q1,λk bo D=>by obtain⟨_,p,_⟩:=G k bo D;exact q2 k _ p,q3⟩
  · intro k b D
    obtain⟨S,bo,V⟩:=h.k0 k b D;exact⟨S,N k bo V⟩
theorem KE {w:World}:∀(ks:List Kd) (cs:List AC) (xs:List Value),CL (CC ρ w) cs xs->CL (CC ρ w) (DA ks cs) xs
  |[],cs,xs,h=>by cases cs<;>exact h
  | .sl ks::l,[],xs,h=>h
  | .int k::l,[],xs,h=>h
  | .bool::l,[],xs,h=>h
  | .raw::l,[],xs,h=>h
  |_::l,a::cs,[],h=>h.elim
  | .int _::l,a::cs,x::xs,h=>by simp only[DA];exact⟨h.1,KE l cs xs h.2⟩
  | .bool::l,a::cs,x::xs,h=>by simp only[DA];exact⟨h.1,KE l cs xs h.2⟩
  | .raw::l,a::cs,x::xs,h=>by simp only[DA];exact⟨h.1,KE l cs xs h.2⟩
  | .sl ks::l,a::cs,x::xs,h=>by
    cases a<;>simp only[DA]<;>first
      |exact⟨h.1,KE l cs xs h.2⟩
      | (refine ⟨?_, KE l cs xs h.2⟩
         have D:=h.1;simp only[CC,CP]at D;subst D;exact TK ks)
theorem Nb:∀(ks:List Kd) (cs:List AC),(∀a∈cs,AC.wf aB aC a)->∀a∈DA ks cs,AC.wf aB aC a
  |[],cs,h=>by cases cs<;>exact h
  | .sl ks::l,[],h=>h
  | .int k::l,[],h=>h
  | .bool::l,[],h=>h
  | .raw::l,[],h=>h
  | .int _::l,a::cs,h=>by
    simp only[DA,ax,jb]at h⊢;exact⟨h.1,Nb l cs h.2⟩
  | .bool::l,a::cs,h=>by
    simp only[DA,ax,jb]at h⊢;exact⟨h.1,Nb l cs h.2⟩
  | .raw::l,a::cs,h=>by
    simp only[DA,ax,jb]at h⊢;exact⟨h.1,Nb l cs h.2⟩
  | .sl ks::l,a::cs,h=>by
    simp only[ax,jb]at h;have D:=Nb l cs h.2;cases a<;>simp only[DA,ax,jb]<;>first
      |exact⟨h.1,D⟩
      |exact⟨trivial,D⟩
theorem Zwx {α:Type} {l:List α} {n:Nat} {v x:α} (h:x∈setL l n v):x∈l\/x=v:=by
  rw[Im]at h;exact f7 h
theorem CL.setL {D:AC->Value->Prop}:∀{l:List AC} {xs:List Value} (n:Nat) {a:AC},CL D l xs->(∀x,xs[n]? =some x->D a x)->CL D (setL l n a) xs
  |[],[],_,_,h,_=>h
  |b::l,x::xs,0,a,h,G=>⟨G x rfl,h.2⟩
  |b::l,x::xs,n+1,a,h,G=>⟨h.1,CL.setL n h.2 λy I=>G y (by simpa using I)⟩
  |[],_::_,_,_,h,_=>h.elim
  |_::_,[],_,_,h,_=>h.elim
theorem RelE.promB (h:RelE Z tm aB aC ρ tmps w) {k o:Nat} {b:Box} (U:Ab aB k=some b) (S:nth .vD b.cells o= .nilSl) {id:Nat} (hid:Ab aC id=none) {e:TypeId} {ks:List Kd} (V:0<ks.length):
    RelE Z tm (upd aB k ⟨b.ty,setL b.cells o (.own id ks.length 0)⟩) (ins aC id ⟨e,ks,[]⟩) {ρ with rv:=upN ρ.rv id (.slice none 0 0),wd:=upN ρ.wd id ks.length} tmps w:=by
  have G:=h.addRow (d:=id) hid (r:=⟨e,ks,[]⟩) (v':= .slice none 0 0) (xs:=[]) (w':=w) (Below.refl _ _) V (W7 w e ks.length) ⟨by simp,by simp,λi c hi=>by simp at hi⟩ (λg X=>by simp[Value.ownBlock]at X);have L:=Ed aC id (⟨e,ks,[]⟩:Row) hid;generalize hρ:({ρ with rv:=upN ρ.rv id (.slice none 0 0),wd:=upN ρ.wd id ks.length}:Env)=ρ2 at G;have e1:ρ2.rv id= .slice none 0 0:=by rw[<-hρ];exact BG _ _ _
  have e2:ρ2.wd id=ks.length:=by rw[<-hρ];exact BG _ _ _
  have Y := G.reBox (g := λj c => bif Nat.beq j k then ⟨c.ty, setL c.cells o (.own id ks.length 0)⟩ else c) (λj c => by cases Nat.beq j k <;> rfl) (by
    intro j c T;cases hb:Nat.beq j k
    · exact⟨λxs h=>h,G.wb j c T⟩
    · have:=ac hb;subst this
      rw[U]at T;simp at T;subst T;simp only[ag];refine⟨λxs hx=>hx.setL o λx a0=> ?_,λa ha=> ?_⟩
      · have I:o<b.cells.length:=by
          rcases ju o b.cells.length with I|a1
          · exact I
          · rw[BV,List.getD,db a1]at S;simp at S
        have X:b.cells[o]? =some .nilSl:=by
          rw[BV,List.getD,al I]at S;rw[al I];simpa using S
        obtain⟨y,hy,M⟩:=hx.get X;rw[a0]at hy;simp at hy;subst hy;simp only[CC,CP]at M;subst M;exact⟨e1.symm,e2, .inl ⟨rfl,rfl⟩⟩
      · rcases Zwx ha with ha|rfl
        · exact G.wb j b U a ha
        · exact⟨_,L,rfl,rfl⟩)
  have N:∀(l:List (Nat×Box)) (b':Box),Ab l k=some b'->∀j,Ab (l.map λp=>(p.1,bif Nat.beq p.1 k then(⟨p.2.ty,setL p.2.cells o (.own id ks.length 0)⟩:Box)else p.2)) j=Ab (upd l k ⟨b'.ty,setL b'.cells o (.own id ks.length 0)⟩) j:=by
    intro l;induction l with
    |nil=>intro b' D;simp[Ab]at D
    |cons p l ih=>
      intro b' D j;obtain⟨q,c⟩:=p;simp only[Ab]at D;cases O:Nat.beq q k
      · rw[O]at D;simp only[aq]at D
        simp only[ba,upd,O,aq,Ab];rw[ih b' D j]
      · rw[O]at D;simp at D;subst D
        have:=ac O;subst this;simp only[ba,upd,O,ag,Ab];cases a2:Nat.beq q j
        · simp only[aq]
          have a3:=GK a2;have:∀m:List (Nat×Box),Ab (m.map λp=>(p.1,bif Nat.beq p.1 q then(⟨p.2.ty,setL p.2.cells o (.own id ks.length 0)⟩:Box)else p.2)) j=Ab m j:=by
            intro m;induction m with
            |nil=>rfl
            |cons p m a4=>
              obtain⟨q',c'⟩:=p;simp only[ba,Ab,a4];cases hb:Nat.beq q' j
              · rfl
              · have e:=ac hb;subst e
                rw[JZ (λe=>a3 e.symm)];rfl
          exact this l
        · rfl
  exact Y.lookB (N aB b U) λ_=>rfl
end
open Go.RowKit
section
variable {P:Program} {C:Cfg} {ρ:Env} {w:World} {R:Type} {Z:Base} {tm:List TV} {aB:List (Nat×Box)} {aC:List (Nat×Row)} {tmps:Array Value}
theorem Qqf:∀{l:List (Nat×Nat)} {cs:List AC},Ja l cs=true->cs=Lx l
 |[],[],_=>rfl
 |(k,o)::l,a::cs,h=>by
  cases a<;>simp only[Ja]at h<;>try (simp at h;done)
  simp only[ai]at h;rw[ac h.1.1,ac h.1.2,Qqf h.2];rfl
 |[],_::_,h=>by simp[Ja]at h
 |_::_,[],h=>by simp[Ja]at h
structure Built (aC : List (Nat × Row)) (rl : Nat -> Nat) : Prop where
 rl:∀id r,Ab aC id=some r->rl id=r.l.length
def Seg (l:List AC) (i:Nat) (v:List AC):Prop:=∀j,j<v.length->nth .vD l (i+j)=nth .vD v j
theorem Seg.left {l:List AC} {i:Nat} {v u:List AC} (h:Seg l i (v++u)):Seg l i v:=λj D=>by
 rw[h j (by simp;omega),BV,BV,List.getD,List.getD,j0 D]
theorem Seg.right {l:List AC} {i:Nat} {v u:List AC} (h:Seg l i (v++u)):Seg l (i+v.length) u:=λj D=>by
 rw[dm,h (v.length+j) (by simp;omega),BV,BV,List.getD,List.getD,List.getElem?_append_right (by omega)];simp
theorem Seg.one {l:List AC} {i:Nat} {a:AC} (h:Seg l i [a]):nth .vD l i=a:=h 0 (by simp)
theorem Seg.all (l:List AC):Seg l 0 l:=λj _=>by rw[dy]
theorem Z8k {rl:Nat->Nat} (I:Built aC rl) {c:CS} {a:AC} {v:List AC} (h:HD c a=some v) {l:List AC} {i:Nat} (G:Seg l i v):
  (Dm rl l c i).2=i+v.length/\∀x,AC.wf aB aC a->CC ρ w a x->CC ρ w (Dm rl l c i).1 x:=by
 cases c<;>cases a<;>simp only[HD]at h<;>try (simp at h;done)
 case any.vD=>simp at h;subst h;exact⟨rfl,λx _ h=>h.one⟩
 case any.int=>simp at h;subst h;exact⟨rfl,λx _ h=>h.one⟩
 case any.bool=>simp at h;subst h;exact⟨rfl,λx _ h=>h.one⟩
 case any.raw=>simp at h;subst h;exact⟨rfl,λx _ h=>h.one⟩
 case any.nilSl=>simp at h;subst h;exact⟨rfl,λx _ h=>h.one⟩
 case any.ptr=>simp at h;subst h;exact⟨rfl,λx _ h=>h.one⟩
 case any.own=>simp at h;subst h;exact⟨rfl,λx _ h=>h.one⟩
 case any.vC=>simp at h;subst h;exact⟨rfl,λx _ h=>h.one⟩
 case any.rptr=>simp at h;subst h;exact⟨rfl,λx _ h=>h.one⟩
 case any.vptr=>simp at h;subst h;exact⟨rfl,λx _ h=>h.one⟩
 case any.clo=>simp at h;subst h;exact⟨rfl,λx _ h=>h.one⟩
 case any.bsl=>simp at h;subst h;exact⟨rfl,λx _ h=>h.one⟩
 case int.int k k' n=>
  cases D:kEq k k'<;>rw[D]at h
  ·simp at h
  ·simp at h;subst h;rw[<-O7 D];refine⟨rfl,λx _ h=> ?_⟩;simp only[Dm,G.one,Af];exact h
 case bool.bool b=>
  simp at h;subst h;refine⟨rfl,λx _ h=> ?_⟩;simp only[Dm,G.one,Dn];exact h
 case sl.nilSl ks=>
  simp at h;subst h;refine⟨rfl,λx _ h=> ?_⟩;simp only[CC,CP]at h;subst h;simp only[Dm,G.one,Bq];exact TK ks
 case sl.vC ks L l=>
  cases D:Cy ks L<;>rw[D]at h
  ·simp at h
  ·simp at h;subst h;rw[<-Iy D];refine⟨rfl,λx _ h=> ?_⟩;simp only[Dm,G.one,Bq];exact h
 case rawc.raw v=>
  simp at h;subst h;refine⟨rfl,λx _ h=> ?_⟩;simp only[Dm,G.one];exact h
 case str.raw v=>
  cases v<;>try (simp[HD]at h;done)
  simp at h;subst h;refine⟨rfl,λx _ h=> ?_⟩;simp only[Dm,G.one,A7];exact h
 case nil.nilSl=>simp at h;subst h;exact⟨rfl,λx _ h=>h⟩
 case nilp.raw v=>
  cases v<;>try (simp[HD]at h;done)
  rename_i q;cases q<;>simp[HD]at h
  subst h;exact⟨rfl,λx _ h=>h⟩
 case ptr.ptr k o k' M=>
  cases D:(Nat.beq k k'&&Nat.beq o M)<;>rw[D]at h
  ·simp at h
  ·simp at h;subst h;simp only[ai]at D;rw[<-ac D.1,<-ac D.2];exact⟨rfl,λx _ h=>h⟩
 case bsl.bsl k o k' M=>
  cases D:(Nat.beq k k'&&Nat.beq o M)<;>rw[D]at h
  ·simp at h
  ·simp at h;subst h;simp only[ai]at D;rw[<-ac D.1,<-ac D.2];exact⟨rfl,λx _ h=>h⟩
 case own.own id wd id' N n=>
  cases D:(Nat.beq id id'&&Nat.beq wd N)<;>rw[D]at h
  ·simp at h
  ·simp at h;subst h;simp only[ai]at D;rw[<-ac D.1,<-ac D.2];refine⟨rfl,λx T h=> ?_⟩;obtain⟨r,U,V,Y⟩:=T;show CC ρ w (.own id wd (rl id)) x;rw[I.rl id r U];have:r.l.length=n:=V;rw[this];exact h
 case clo.clo f fs cs X O S=>
  cases D:(Nat.beq f X&&Ja fs O&&Ja cs S)<;>rw[D]at h
  ·simp at h
  ·simp at h;subst h;simp only[ai]at D;rw[<-ac D.1.1,Qqf D.1.2,Qqf D.2];exact⟨rfl,λx _ h=>h⟩
theorem S2 {rl:Nat->Nat} (D:Built aC rl) {l:List AC}:∀{cs:List CS} {as:List AC} {v:List AC},Gw cs as=some v->∀{i},Seg l i v->
  (DE rl l cs i).2=i+v.length/\(DE rl l cs i).1.length=as.length/\∀xs,(∀a∈as,AC.wf aB aC a)->CL (CC ρ w) as xs->CL (CC ρ w) (DE rl l cs i).1 xs
 |[],[],v,h,i,_=>by simp[Gw]at h;subst h;exact⟨rfl,rfl,λxs _ h=>h⟩
 |c::cs,a::as,v,h,i,M=>by
  simp only[Gw]at h;split at h
  ·rename_i X O;split at h
   ·rename_i Y S;simp at h;subst h;obtain⟨G,I⟩:=Z8k (ρ:=ρ) (w:=w) (aB:=aB) D O M.left;obtain⟨T,U,V⟩:=S2 D S M.right;simp only[DE];generalize hb:Dm rl l c i=q at G I;obtain⟨b,i'⟩:=q;simp only at G I;subst G;refine⟨by simp only[T,ap];omega,by simp[U],λxs N L=> ?_⟩;cases xs with
    |nil=>exact L.elim
    |cons x xs=>exact⟨I x (N a (by simp)) L.1,V xs (λb hb=>N b (by simp[hb])) L.2⟩
   ·simp at h
  ·simp at h
 |[],_::_,v,h,_,_=>by simp[Gw]at h
 |_::_,[],v,h,_,_=>by simp[Gw]at h
theorem Q2e {rl:Nat->Nat} (G:Built aC rl) {l:List AC}:∀{ps:List (Bool×List CS)} {L:List (Bool×List AC)} {v:List AC},LC ps L=some v->∀{i},Seg l i v->
  (G4 rl l ps i).2=i+v.length/\∀xs,(∀p∈L,∀a∈p.2,AC.wf aB aC a)->TP ρ w L xs->TP ρ w (G4 rl l ps i).1 xs
 |[],[],v,h,i,_=>by simp[LC]at h;subst h;exact⟨rfl,λxs _ h=>h⟩
 |(g,cs)::ps,(U,as)::L,v,h,i,V=>by
  simp only[LC]at h;cases X:(g==U)<;>rw[X]at h
  ·simp at h
  ·simp only[ag]at h;have O:g=U:=by simpa using X
   subst O;split at h
   ·rename_i v1 h1;split at h
    ·rename_i v2 h2;simp at h;subst h;obtain⟨S,M,N⟩:=S2 (ρ:=ρ) (w:=w) (aB:=aB) G h1 V.left;obtain⟨p1,p2⟩:=Q2e G h2 V.right;simp only[G4];generalize hb:DE rl l cs i=q at S N M;obtain⟨b,i'⟩:=q;simp only at S N M;subst S;refine⟨by simp only[p1,ap];omega,λxs Y T=> ?_⟩;cases xs with
     |nil=>exact T.elim
     |cons x xs=>
      refine⟨?_,p2 xs (λp hp=>Y p (by simp[hp])) T.2⟩;have I:=T.1;have D:=Y (g,as) (by simp);cases g
      ·obtain⟨a,e1,e2⟩:=I;dsimp only at e1 D;subst e1;have:=N [x] D ⟨e2,trivial⟩;cases b with
       |nil=>simp at M
       |cons c b=>
        cases b with
        |nil=>exact⟨c,rfl,this.1⟩
        |cons=>simp at M
      ·obtain⟨ys,e1,e2⟩:=I;exact⟨ys,e1,N _ D e2⟩
    ·simp at h
   ·simp at h
 |[],_::_,v,h,_,_=>by simp[LC]at h
 |(_,_)::_,[],v,h,_,_=>by simp[LC]at h
theorem Z4c {rl:Nat->Nat} (I:Built aC rl) {t:TS} {u:TV} {v:List AC} (h:Jq t u=some v) {l:List AC} {i:Nat} (S:Seg l i v):
  (GE rl l t i).2=i+v.length/\∀x,TV.wf aB aC u->TVR ρ w u x->TVR ρ w (GE rl l t i).1 x:=by
 cases t with
 |vD=>simp[Jq]at h;subst h;exact⟨rfl,λ_ _ _=>trivial⟩
 |v g cs=>
  cases u with
  |vD=>simp[Jq]at h
  |tup=>simp[Jq]at h
  |v T as=>
   simp only[Jq]at h;cases U:(g==T)<;>rw[U]at h
   ·simp at h
   ·simp only[ag]at h;have N:g=T:=by simpa using U
    subst N;obtain⟨G,L,D⟩:=S2 (ρ:=ρ) (w:=w) (aB:=aB) I h S;simp only[GE];generalize hb:DE rl l cs i=q at G D L;obtain⟨b,X⟩:=q;simp only at G D L;refine⟨G,λx M V=> ?_⟩;cases g
    ·obtain⟨a,rfl,e2⟩:=V;have:=D [x] M ⟨e2,trivial⟩;cases b with
     |nil=>simp at L
     |cons c b=>
      cases b with
      |nil=>exact⟨c,rfl,this.1⟩
      |cons=>simp at L
    ·obtain⟨O,rfl,e2⟩:=V;exact⟨O,rfl,D _ M e2⟩
 |tup ps=>
  cases u with
  |vD=>simp[Jq]at h
  |v=>simp[Jq]at h
  |tup Y=>
   simp only[Jq]at h;obtain⟨G,D⟩:=Q2e (ρ:=ρ) (w:=w) (aB:=aB) I h S;simp only[GE];generalize hb:G4 rl l ps i=q at G D;obtain⟨b,X⟩:=q;simp only at G D;exact⟨G,λx M ⟨O,e1,e2⟩=>⟨O,e1,D _ M e2⟩⟩
theorem Uh {rl:Nat->Nat} (D:Built aC rl) {l:List AC}:∀{G:List TS} {I:List TV} {v:List AC},Kh G I=some v->∀{i},Seg l i v->
  (Es rl l G i).2=i+v.length/\(Es rl l G i).1.length=I.length/\∀(n:Nat) (b:TV),(Es rl l G i).1[n]? =some b->∃u,I[n]? =some u/\∀x,TV.wf aB aC u->TVR ρ w u x->TVR ρ w b x
 |[],[],v,h,i,_=>by simp[Kh]at h;subst h;exact⟨rfl,rfl,λi b h=>by simp[Es]at h⟩
 |t::G,u::I,v,h,i,O=>by
  simp only[Kh]at h;split at h
  ·rename_i v1 S;split at h
   ·rename_i v2 T;simp at h;subst h;obtain⟨L,M⟩:=Z4c (ρ:=ρ) (w:=w) (aB:=aB) D S O.left;obtain⟨U,V,X⟩:=Uh D T O.right;simp only[Es];generalize hb:GE rl l t i=q at L M;obtain⟨b,i'⟩:=q;simp only at L M;subst L;refine⟨by simp only[U,ap];omega,by simp[V],λn c N=> ?_⟩;cases n with
    |zero=>simp at N;subst N;exact⟨u,rfl,M⟩
    |succ n=>obtain⟨Y,e1,e2⟩:=X n c (by simpa using N);exact⟨Y,by simpa using e1,e2⟩
   ·simp at h
  ·simp at h
 |[],_::_,v,h,_,_=>by simp[Kh]at h
 |_::_,[],v,h,_,_=>by simp[Kh]at h
theorem Q1e {rl:Nat->Nat} (I:Built aC rl) {l:List AC}:∀{bs:List (Nat×TypeId×List CS)} {v:List AC},JF bs aB=some v->∀{i},Seg l i v->
  ∀k b,Ab (EW rl l bs i) k=some b->k∈bs.map (·.1)/\∃G,Ab aB k=some G/\b.ty=G.ty/\∀xs,(∀a∈G.cells,AC.wf aB aC a)->CL (CC ρ w) G.cells xs->CL (CC ρ w) b.cells xs
 |[],v,h,i,_,k,b,D=>by simp[EW,Ab]at D
 |(j,t,cs)::bs,v,h,i,S,k,b,D=>by
  simp only[JF]at h;split at h
  ·rename_i G M;cases T:Nat.beq t G.ty<;>rw[T]at h
   ·simp at h
   ·simp only[ag]at h;split at h
    ·rename_i v1 X;split at h
     ·rename_i v2 Y;simp at h;subst h;obtain⟨N,U,O⟩:=S2 (ρ:=ρ) (w:=w) (aB:=aB) I X S.left;simp only[EW]at D;generalize hb:DE rl l cs i=q at N O U D;obtain⟨c,i'⟩:=q;simp only at N O U D;subst N;simp only[Ab]at D;cases L:Nat.beq j k<;>rw[L]at D
      ·obtain⟨V,p2⟩:=Q1e I Y S.right k b D;exact⟨by simp at V⊢;exact .inr V,p2⟩
      ·have:=ac L;subst this;simp at D;subst D;exact⟨by simp,G,M,ac T,O⟩
     ·simp at h
    ·simp at h
  ·simp at h
theorem Qrj {l:List AC}:∀{rs:List (Nat×TypeId×List Kd)} {v:List AC},Jg rs aC=some v->∀{i},Seg l i v->
  (GL l rs i).2=i+v.length/\(∀id r,Ab (GL l rs i).1 id=some r->Ab aC id=some r)/\∀id t ks,Ab rs id=some (t,ks)->∃r,Ab (GL l rs i).1 id=some r/\r.ks=ks
 |[],v,h,i,_=>by simp[Jg]at h;subst h;exact⟨rfl,λid r h=>by simp[GL,Ab]at h,λid t ks h=>by simp[Ab]at h⟩
 |(k,t,ks)::rs,v,h,i,T=>by
  simp only[Jg]at h;split at h
  ·rename_i r U;cases hb:(Nat.beq t r.ty&&Cy ks r.ks)<;>rw[hb]at h
   ·simp at h
   ·simp only[ag]at h;simp only[ai]at hb;split at h
    ·rename_i V L;simp at h;subst h;have G:Seg l i ([.vC ks r.l]++V):=T;obtain⟨M,N,O⟩:=Qrj L (i:=i+1) G.right;simp only[GL,G.left.one,Bq];generalize hB:GL l rs (i+1)=q at M N O;obtain⟨B,Y⟩:=q;simp only at M N O;refine⟨by simp only[M,bm];omega,λid r' D=> ?_,λid X S D=> ?_⟩
     ·simp only[Ab]at D;cases I:Nat.beq k id<;>rw[I]at D
      ·exact N id r' D
      ·have:=ac I;subst this;simp at D;subst D;rw[U,ac hb.1,Iy hb.2]
     ·simp only[Ab]at D⊢;cases I:Nat.beq k id<;>rw[I]at D
      ·simp only[aq]at D⊢;exact O id X S D
      ·simp at D;obtain⟨_,rfl⟩:=D;exact⟨_,rfl,rfl⟩
    ·simp at h
  ·simp at h
section names
variable {keys:List Nat} {rs:List (Nat×TypeId×List Kd)} {B':List (Nat×Box)} {R':List (Nat×Row)} {rl:Nat->Nat}
theorem Qew (G:∀k∈keys,∃b,Ab B' k=some b):∀(l:List (Nat×Nat)),Ak (λp:Nat×Nat=>AH keys p.1) l=true->∀a∈Lx l,AC.wfP B' a
 |[],_,a,D=>by simp[Lx]at D
 |(k,o)::l,h,a,D=>by
  have I:=Au.1 h;simp only[Lx,ax]at D;rcases D with rfl|D
  ·exact G k (EN.1 (I (k,o) (by simp)))
  ·exact Qew G l (Au.2 λp L=>I p (by simp[L])) a D
theorem Zn7 (G:∀k∈keys,∃b,Ab B' k=some b) (I:∀id t ks,Ab rs id=some (t,ks)->∃r,Ab R' id=some r/\r.ks=ks/\rl id=r.l.length) {c:CS} (D:c.okB keys rs=true) (l:List AC) (i:Nat):AC.wf B' R' (Dm rl l c i).1:=by
 cases c<;>simp only[Dm]<;>try trivial
 case rawc=>simp only[LQ];split<;>trivial
 case ptr k o=>exact G k (EN.1 D)
 case bsl k o=>exact G k (EN.1 D)
 case own id wd=>
  simp only[CS.okB]at D;split at D
  ·rename_i t ks L;obtain⟨r,M,N,O⟩:=I id t ks L;refine⟨r,M,O.symm,?_⟩;show r.ks.length=wd;rw[N];exact ac D
  ·simp at D
 case clo f fs cs=>
  simp only[CS.okB,ai]at D;exact⟨Qew G fs D.1,Qew G cs D.2⟩
theorem RK (G:∀k∈keys,∃b,Ab B' k=some b) (I:∀id t ks,Ab rs id=some (t,ks)->∃r,Ab R' id=some r/\r.ks=ks/\rl id=r.l.length):∀{cs:List CS},Ak (CS.okB keys rs) cs=true->∀(l:List AC) (i:Nat),∀a∈(DE rl l cs i).1,AC.wf B' R' a
 |[],_,l,i,a,D=>by simp[DE]at D
 |c::cs,h,l,i,a,D=>by
  have L:=Au.1 h;simp only[DE,ax]at D;rcases D with rfl|D
  ·exact Zn7 G I (L c (by simp)) l i
  ·exact RK G I (Au.2 λc M=>L c (by simp[M])) l _ a D
theorem Qzo (G:∀k∈keys,∃b,Ab B' k=some b) (I:∀id t ks,Ab rs id=some (t,ks)->∃r,Ab R' id=some r/\r.ks=ks/\rl id=r.l.length):∀{ps:List (Bool×List CS)},Ak (λp:Bool×List CS=>Ak (CS.okB keys rs) p.2) ps=true->∀(l:List AC) (i:Nat),∀p∈(G4 rl l ps i).1,∀a∈p.2,AC.wf B' R' a
 |[],_,l,i,p,D=>by simp[G4]at D
 |(g,cs)::ps,h,l,i,p,D=>by
  have L:=Au.1 h;simp only[G4,ax]at D;rcases D with rfl|D
  ·exact RK G I (L (g,cs) (by simp)) l i
  ·exact Qzo G I (Au.2 λc M=>L c (by simp[M])) l _ p D
theorem Zn1 (D:∀k∈keys,∃b,Ab B' k=some b) (G:∀id t ks,Ab rs id=some (t,ks)->∃r,Ab R' id=some r/\r.ks=ks/\rl id=r.l.length) {t:TS} (I:t.okB keys rs=true) (l:List AC) (i:Nat):TV.wf B' R' (GE rl l t i).1:=by
 cases t with
 |vD=>trivial
 |v g cs=>exact RK D G I l i
 |tup ps=>exact Qzo D G I l i
theorem Qhn (G:∀k∈keys,∃b,Ab B' k=some b) (I:∀id t ks,Ab rs id=some (t,ks)->∃r,Ab R' id=some r/\r.ks=ks/\rl id=r.l.length):∀{ts:List TS},Ak (TS.okB keys rs) ts=true->∀(l:List AC) (i:Nat),∀v∈(Es rl l ts i).1,TV.wf B' R' v
 |[],_,l,i,v,D=>by simp[Es]at D
 |t::ts,h,l,i,v,D=>by
  have L:=Au.1 h;simp only[Es,ax]at D;rcases D with rfl|D
  ·exact Zn1 G I (L t (by simp)) l i
  ·exact Qhn G I (Au.2 λc M=>L c (by simp[M])) l _ v D
theorem Q8w (D:∀k∈keys,∃b,Ab B' k=some b) (G:∀id t ks,Ab rs id=some (t,ks)->∃r,Ab R' id=some r/\r.ks=ks/\rl id=r.l.length):∀{bs:List (Nat×TypeId×List CS)},Ak (λp:Nat×TypeId×List CS=>Ak (CS.okB keys rs) p.2.2) bs=true->∀(l:List AC) (i k:Nat) (b:Box),Ab (EW rl l bs i) k=some b->∀a∈b.cells,AC.wf B' R' a
 |[],_,l,i,k,b,hb=>by simp[EW,Ab]at hb
 |(j,t,cs)::bs,h,l,i,k,b,hb=>by
  have I:=Au.1 h;simp only[EW,Ab]at hb;cases L:Nat.beq j k<;>rw[L]at hb
  ·exact Q8w D G (Au.2 λc M=>I c (by simp[M])) l _ k b hb
  ·simp at hb;subst hb;exact RK D G (I (j,t,cs) (by simp)) l i
end names
theorem Q0m {rl:Nat->Nat} (l:List AC):∀(bs:List (Nat×TypeId×List CS)) (i k:Nat),k∈bs.map (·.1)->∃b,Ab (EW rl l bs i) k=some b
 |[],_,k,h=>by simp at h
 |(j,t,cs)::bs,i,k,h=>by
  simp only[EW,Ab];cases D:Nat.beq j k
  ·have:k∈bs.map (·.1):=by
    simp only[ba,ax]at h;exact h.resolve_left λe=>GK D e.symm
   exact Q0m l bs _ k this
  ·exact⟨_,rfl⟩
theorem RelE.rebuild {sk:Sk} {vars:List AC} (h:RelE Z tm aB aC ρ tmps w) (hZ:∀k b,Z.K0 k=some b->Dd k=true) (Y:sk.okB=true) (M:Di sk ⟨tm,aB,aC⟩=some vars):
  RelE Z (AA sk vars).tmps (AA sk vars).aB (AA sk vars).aC ρ tmps w:=by
 simp only[Di]at M;obtain ⟨a7, M⟩ : Ak (λp : Nat × Box => !(Dd p.1) || AH (sk.aB.map (·.1)) p.1) aB = true /\ (match Jg sk.aC aC with
  |some a=>match Kh sk.tmps tm with
   |some b=>match JF sk.aB aB with
    |some c=>some (a++(b++c))
    |none=>none
   |none=>none
  |none=>none)=some vars:=by
  revert M
  generalize Ak (λp:Nat×Box=> !(Dd p.1)||AH (sk.aB.map (·.1)) p.1) aB=q;intro M;cases q
  ·simp at M
  ·exact⟨rfl,M⟩
 split at M
 ·rename_i U a8;split at M
  ·rename_i vb a9;split at M
   ·rename_i vc b1;simp at M;subst M;have V:=Seg.all (U++(vb++vc));generalize N:U++(vb++vc)=l at V⊢;rw[<-N]at V;have b2:Seg l 0 U:=by rw[<-N];exact(Seg.all _).left
    have b3:Seg l (0+U.length) vb:=by rw[<-N];exact(Seg.all _).right.left
    have b4:Seg l (0+U.length+vb.length) vc:=by rw[<-N];exact(Seg.all _).right.right
    obtain⟨r1,X,r3⟩:=Qrj a8 b2;simp only[AA];generalize hR:GL l sk.aC 0=qr at r1 X r3;obtain⟨R',ir⟩:=qr;simp only at r1 X r3⊢;subst r1;have c1:sk.okB=true:=Y;simp only[Sk.okB,ai]at Y;obtain⟨⟨⟨ok1,c2⟩,a3⟩,a4⟩:=Y
    have a5:∀id r,Ab R' id=some r->DB R' id=r.l.length:=λid r N=>by simp only[DB,N]
    have I:∀k∈sk.aB.map (·.1),∃b,Ab (EW (DB R') l sk.aB (0+U.length+vb.length)) k=some b:=λk O=>Q0m l sk.aB _ k O;have a0:∀id t ks,Ab sk.aC id=some (t,ks)->∃r,Ab R' id=some r/\r.ks=ks/\DB R' id=r.l.length:=λid t ks N=>by
     obtain⟨r,L,q2⟩:=r3 id t ks N;exact⟨r,L,q2,a5 id r L⟩
    let D:Nat->Nat:=λid=>match Ab aC id with
     |some r=>r.l.length
     |none=>0
    have a6:Built aC D:=⟨λid r N=>by simp only[D,N]⟩;have a1:∀id t ks,Ab sk.aC id=some (t,ks)->D id=DB R' id:=λid t ks N=>by
     obtain⟨r,L,_,q3⟩:=a0 id t ks N;simp only[D,X id r L,q3]
    have eC:∀(c:CS) (i:Nat),c.okB (sk.aB.map (·.1)) sk.aC=true->Dm D l c i=Dm (DB R') l c i:=by
     intro c i G;cases c<;>try rfl
     rename_i id wd;simp only[CS.okB]at G;split at G
     ·rename_i t ks N;simp only[Dm,a1 id t ks N]
     ·simp at G
    have a2:∀(cs:List CS) (i:Nat),Ak (CS.okB (sk.aB.map (·.1)) sk.aC) cs=true->DE D l cs i=DE (DB R') l cs i:=by
     intro cs;induction cs with
     |nil=>intro i _;rfl
     |cons c cs ih=>
      intro i G;have S:=Au.1 G;simp only[DE];rw[eC c i (S c (by simp))];rw[ih _ (Au.2 λc G=>S c (by simp[G]))]
    have b5:∀(ps:List (Bool×List CS)) (i:Nat),Ak (λp:Bool×List CS=>Ak (CS.okB (sk.aB.map (·.1)) sk.aC) p.2) ps=true->G4 D l ps i=G4 (DB R') l ps i:=by
     intro ps;induction ps with
     |nil=>intro i _;rfl
     |cons p ps ih=>
      intro i G;obtain⟨g,cs⟩:=p;have S:=Au.1 G;simp only[G4];rw[a2 cs i (S (g,cs) (by simp))];rw[ih _ (Au.2 λc G=>S c (by simp[G]))]
    have eT:∀(t:TS) (i:Nat),t.okB (sk.aB.map (·.1)) sk.aC=true->GE D l t i=GE (DB R') l t i:=by
     intro t i ht;cases t with
     |vD=>rfl
     |v g cs=>simp only[GE];rw[a2 cs i ht]
     |tup ps=>simp only[GE];rw[b5 ps i ht]
    have b6:∀(ts:List TS) (i:Nat),Ak (TS.okB (sk.aB.map (·.1)) sk.aC) ts=true->Es D l ts i=Es (DB R') l ts i:=by
     intro ts;induction ts with
     |nil=>intro i _;rfl
     |cons c cs ih=>
      intro i G;have S:=Au.1 G;simp only[Es];rw[eT c i (S c (by simp))];rw[ih _ (Au.2 λc G=>S c (by simp[G]))]
    have b7:∀(bs:List (Nat×TypeId×List CS)) (i:Nat),Ak (λp:Nat×TypeId×List CS=>Ak (CS.okB (sk.aB.map (·.1)) sk.aC) p.2.2) bs=true->EW D l bs i=EW (DB R') l bs i:=by
     intro bs;induction bs with
     |nil=>intro i _;rfl
     |cons p bs ih=>
      intro i G;obtain⟨k,t,cs⟩:=p;have S:=Au.1 G;simp only[EW];rw[a2 cs i (S (k,t,cs) (by simp))];rw[ih _ (Au.2 λc G=>S c (by simp[G]))]
    have hT:=Uh (ρ:=ρ) (w:=w) (aB:=aB) a6 a9 b3;rw[b6 sk.tmps _ a3]at hT;obtain⟨t1,t2,t3⟩:=hT;have tw:=Qhn (rl:=DB R') I a0 a3 l (0+U.length);generalize c3:Es (DB R') l sk.tmps (0+U.length)=qt at t1 t2 t3 tw;obtain⟨T',it⟩:=qt;simp only at t1 t2 t3 tw⊢;subst t1;have hB:=Q1e (ρ:=ρ) (w:=w) a6 b1 b4;rw[b7 sk.aB _ a4]at hB;refine⟨by rw[t2];exact h.tl,λi v T=> ?_,tw,Q8w I a0 a4 l _,λk b O=> ?_,λk k' b b' O b8 he=> ?_,λid r T=>h.ro id r (X id r T),λid id' r r' g T b9=>h.ri id id' r r' g (X id r T) (X id' r' b9),λk b id r O T=> ?_,λb hb=> ?_,h.fr,h.fs,h.i0,h.i1,λk b O=> ?_⟩
    ·obtain⟨u,hu,hx⟩:=t3 i v T;exact hx _ (h.wt u (bj hu)) (h.tv i u hu)
    ·obtain⟨_,b0,L,q2,q3⟩:=hB k b O;obtain⟨arr,p1,p2,p3⟩:=h.bx k b0 L;exact⟨arr,by rw[q2];exact p1,q3 _ (h.wb k b0 L) p2,p3⟩
    ·obtain⟨_,b0,L,_⟩:=hB k b O;obtain⟨_,c4,c0,_⟩:=hB k' b' b8;exact h.bi k k' _ _ L c0 he
    ·obtain⟨_,b0,L,_⟩:=hB k b O;exact h.br k b0 id r L (X id r T)
    ·obtain⟨L,q2,q3⟩:=h.ib b hb;exact⟨L,λk bo O=>by obtain⟨_,b0,p1,_⟩:=hB k bo O;exact q2 k b0 p1,λid r T=>q3 id r (X id r T)⟩
    ·obtain⟨L,bo,q2⟩:=h.k0 k b O;refine⟨L,I k ?_⟩;have:=Au.1 a7 (k,bo) (Oh q2);simp only[hZ k b O,Bool.not_true,Bool.false_or]at this;exact EN.1 this
   ·simp at M
  ·simp at M
 ·simp at M
end
open Go.RowKit
section
variable {P:Program} {C:Cfg} {ρ:Env} {w:World} {R:Type} {Z:Base} {tm:List TV} {aB:List (Nat×Box)} {aC:List (Nat×Row)} {tmps:Array Value}
theorem Gi {α:Type}:∀(l:List α) (o:Nat) (D:List α),o+D.length<=l.length->splice l o D=l.take o++D++l.drop (o+D.length)
 |l,o,[],h=>by simp[Q6]
 |[],o,_::_,h=>by simp at h
 |x::l,0,v::D,h=>by
  simp only[splice,List.take_zero,bc,az];rw[Gi l 0 D (by simp at h⊢;omega)];simp
 |x::l,o+1,v::D,h=>by
  simp only[splice];rw[Gi l o (v::D) (by simp at h⊢;omega)];simp only[List.take_succ_cons,az,bm];rw[show o+1+(D.length+1)=(o+(D.length+1))+1 from by omega,List.drop_succ_cons]
theorem Qw1 {t:TypeId} {x:Value} {b off:Nat} {cur:Array Value} {ty:TypeId} (I:szT P t=some x.cells.toList.length) (hb:w.heap[b]? =some (.cells cur ty (0,0)))
  (G:off+x.cells.toList.length<=cur.size) (L:∀v∈x.cells.toList,v.oneCell'=true):
  (storeVar t ⟨b,off,none⟩ x).run P w= .ok () (w.setRow b (splice cur.toList off x.cells.toList).toArray):=by
 have:=run_storeCells_at P b off ty x.cells.toList 0 cur w hb (by simpa using G) L;simp only[jv]at this;have D:=DJ I w;simp only[storeVar,Sem.run_bind,D,cv];rw[Gi _ _ _ (by simpa using G)];rw[aa (by simp)];exact this
theorem Z2h {α:Type} (xs D:List α) (i wd sub n:Nat) (L:i<n) (O:xs.length=n*wd) (M:sub+D.length<=wd):
  cut (splice xs (i*wd+sub) D) (i*wd) wd=splice (cut xs (i*wd) wd) sub D:=by
 have hle:i*wd+wd<=n*wd:=by
  calc i*wd+wd=(i+1)*wd:=by rw[dk,gk]
   _<=n*wd:=be _ L
 have G:(cut xs (i*wd) wd).length=wd:=by simp[cut];omega
 rw[Gi _ _ _ (by omega),Gi _ _ _ (by rw[G];exact M)];apply ig;intro j;simp only[cut,fv,ee,fy,gx,ap,dg];by_cases I:j<wd
 ·rw[ab I];by_cases N:j<sub
  ·rw[ab,ab,ab,ab,ab,ab N,ab I]
  ·by_cases S:j<sub+D.length
   ·rw[ab,aa,ab,aa];congr 1;omega
   ·rw[aa,aa,ab];congr 1;omega
 ·rw[aa I,aa];rw[aa]
theorem Zjb {α:Type} (xs L:List α) (i j wd sub n:Nat) (M:i<n) (I:j≠i) (N:xs.length=n*wd) (O:sub+L.length<=wd):
  cut (splice xs (i*wd+sub) L) (j*wd) wd=cut xs (j*wd) wd:=by
 have hle:i*wd+wd<=n*wd:=by
  calc i*wd+wd=(i+1)*wd:=by rw[dk,gk]
   _<=n*wd:=be _ M
 rw[Gi _ _ _ (by omega)];have D:j*wd+wd<=i*wd\/i*wd+wd<=j*wd:=by
  rcases Nat.lt_or_gt_of_ne I with h|h
  ·left
   calc j*wd+wd=(j+1)*wd:=by rw[dk,gk]
    _<=i*wd:=be _ h
  ·right
   calc i*wd+wd=(i+1)*wd:=by rw[dk,gk]
    _<=j*wd:=be _ h
 apply ig;intro k;simp only[cut,fv,ee,fy,gx,ap];by_cases G:k<wd
 ·rw[ab G,ab G];rcases D with h|h
  ·rw[ab,ab,ab]
  ·rw[aa];congr 1;omega
 ·rw[aa G,aa G]
theorem Z9z {o:Oper} {a:Act} {f:FuncId} {xs:List Value} {next:Act->World->Prop} {Q:Exit->Act->World->Prop} (D:Nu P f) (he:execOp a.eval o=callFunc f xs.toArray)
  (h:Calls P f xs.toArray w λe w'=>∃x,e= .returned x/\next (a.put o.dst x) w'):o.wp P a w next Q:=by
 obtain⟨N,G,I,L⟩:=D;unfold Oper.wp;have:(execOp a.eval o).run P w= .ok (.enter f xs.toArray) w:=by
  rw[he];simp only[callFunc,Sem.run_bind,run_program,cv,G];rw[aa (by rw[I];simp),aa (by rw[L];simp)];rfl
 rw[this,Oper.upon_enter];refine h.mono λe w' ⟨x,he,M⟩=> ?_;subst he;exact M
theorem LJ {o:Oper} {a:Act} {f:FuncId} {xs:List Value} {next:Act->World->Prop} {Q:Exit->Act->World->Prop} (he:execOp a.eval o=callFunc f xs.toArray)
  (h:CallsX P f xs.toArray w λe w'=>∃x,e= .returned x/\next (a.put o.dst x) w'):o.wp P a w next Q:=by
 rcases h with⟨G,D⟩|⟨x,w',G,y,D,I⟩
 ·exact Z9z G he D
 ·simp only[Ending.returned.injEq]at D;subst D;unfold Oper.wp;rw[he,G];exact I
theorem HH {o:Oper} {a:Act} {x:Value} {w':World} {next:Act->World->Prop} {Q:Exit->Act->World->Prop} (he:(execOp a.eval o).run P w= .ok (.value x) w') (h:next (a.put o.dst x) w'):o.wp P a w next Q:=by
 unfold Oper.wp;rw[he];exact h
theorem Q9z {o:Oper} {a:Act} {w':World} {next:Act->World->Prop} {Q:Exit->Act->World->Prop} (he:(execOp a.eval o).run P w= .ok .skip w') (h:next (a.put o.dst undef) w'):o.wp P a w next Q:=by
 unfold Oper.wp;rw[he];exact h
theorem CL.one {l:List AC} {xs:List Value} (h:CL (CC ρ w) l xs):∀v∈xs,v.oneCell'=true:=by
 induction l generalizing xs with
 |nil=>cases xs<;>first|(intro v D;simp at D;done)|exact h.elim
 |cons a l G=>
  cases xs with
  |nil=>exact h.elim
  |cons y xs=>
   intro v D;simp only[ax]at D;rcases D with rfl|D
   ·exact h.1.one
   ·exact G h.2 v D
theorem CL.oneP {im:Nat->Prop} {l:List AC} {xs:List Value} (h:CL (CP im w) l xs):∀v∈xs,v.oneCell'=true:=by
 induction l generalizing xs with
 |nil=>cases xs<;>first|(intro v D;simp at D;done)|exact h.elim
 |cons a l G=>
  cases xs with
  |nil=>exact h.elim
  |cons y xs=>
   intro v D;simp only[ax]at D;rcases D with rfl|D
   ·exact h.1.one
   ·exact G h.2 v D
theorem RowC.one {im:Nat->Prop} {ks:List Kd} {l:List (List AC)} {xs:List Value} (h:RowC im w ks l xs) (D:0<ks.length):∀v∈xs,v.oneCell'=true:=by
 intro v L;obtain⟨j,G,rfl⟩:=List.getElem_of_mem L;have I:j/ks.length<l.length:=by rw[ew D];rw[h.1]at G;exact G
 have M:j%ks.length<ks.length:=gw _ D;refine(h.2.2 (j/ks.length) _ (al I)).oneP _ ?_;have:(cut xs (j/ks.length*ks.length) ks.length)[j%ks.length]? =some xs[j]:=by
  simp only[cut,fv,M,dq,ee];rw[show j/ks.length*ks.length+j%ks.length=j from by rw[d9];exact gf j ks.length];exact al G
 exact bj this
theorem RowC.append {im:Nat->Prop} {ks:List Kd} {l m:List (List AC)} {xs D:List Value} (h:RowC im w ks l xs) (h':RowC im w ks m D):
  RowC im w ks (l++m) (xs++D):=by
 refine⟨by rw[ap,h.1,h'.1,ap,dk],λc G=> ?_,λi c L=> ?_⟩
 ·rcases bn.1 G with G|G
  ·exact h.2.1 c G
  ·exact h'.2.1 c G
 ·by_cases I:i<l.length
  ·rw[j0 I]at L;have hle:i*ks.length+ks.length<=l.length*ks.length:=by
    calc i*ks.length+ks.length=(i+1)*ks.length:=by rw[dk,gk]
     _<=l.length*ks.length:=be _ I
   have:cut (xs++D) (i*ks.length) ks.length=cut xs (i*ks.length) ks.length:=by
    have:=h.1;simp only[cut];rw[jn (by omega),List.take_append_of_le_length (by rw[dg];omega)]
   rw[this];exact h.2.2 i c L
  ·rw[List.getElem?_append_right (by omega)]at L;have:cut (xs++D) (i*ks.length) ks.length=cut D ((i-l.length)*ks.length) ks.length:=by
    have M:=h.1;simp only[cut];rw[List.drop_append,j8 (by rw[M];exact be _ (by omega)),bc,M,<-Nat.sub_mul]
   rw[this];exact h'.2.2 (i-l.length) c L
theorem Z1v {t ty e:TypeId} {i:TypeInfo} (N:P.underlying t=some (.slice e)) (O:P.info? e=some i)
  {b off sLen sCap:Nat} {cur:Array Value} {M:TypeId} (hb:w.heap[b]? =some (.cells cur M (0,0))) {a:Addr} {m c:Nat} {news:List Value} (S:news.length=m*i.size) (D:∀j u,news[j]? =some u->w.cell? (a.add j)=some u) (T:∀u∈news,u.oneCell'=true)
  (G:sLen+m<=sCap) (hle:off+sLen*i.size+news.length<=cur.size):
  (Builtin.append_ #[t,t] ty #[.slice (some ⟨b,off,none⟩) sLen sCap, .slice (some a) m c]).run P w= .ok (.slice (some ⟨b,off,none⟩) (sLen+m) sCap) (w.setRow b (splice cur.toList (off+sLen*i.size) news).toArray):=by
 have L:=run_firstCells_some (P:=P) w i.size m a m c news S D;have I:=run_storeCells_at P b (off+sLen*i.size) M news 0 cur w hb (by simpa using hle) T;simp only[jv]at I;rw[Gi _ _ _ (by simpa using hle)];simp[Builtin.append_,run_underlying N,sizeOf,typeInfo,O,Builtin.lenOf,G,L,Addr.add_lit,I]
theorem Qxn {t ty e:TypeId} {i:TypeInfo} {z:Value} {size:Nat} (U:P.underlying t=some (.slice e)) (V:P.info? e=some i) (hz:i.zero=some z)
  (G:i.size=size) (Y:z.cells.size=size) (a0:0<size)
  {v:Value} {n:Nat} {xs:List Value} (D:Ef w e size v n xs)
  {ad:Option Addr} {m c:Nat} {news:List Value} (L:news.length=m*size) (M:m=0\/∃a,ad=some a/\∀j u,news[j]? =some u->w.cell? (a.add j)=some u) (h1:∀u∈news,u.oneCell'=true)
  (O:n+m<=maxLen) (I:(n+m)*i.bytes<=140737488355328):
  ∃N w',(Builtin.append_ #[t,t] ty #[v, .slice ad m c]).run P w= .ok N w'/\Ef w' e size N (n+m) (xs++news)/\w.grownBy w' v.ownBlock/\(N.ownBlock=v.ownBlock\/N.ownBlock=some w.heap.size):=by
 cases ad with
 |some a=>
  have X:∀j u,news[j]? =some u->w.cell? (a.add j)=some u:=by
   rcases M with rfl|⟨a',a1,hh⟩
   ·have:news=[]:=d6 (by simpa using L);subst this;intro j u h;simp at h
   ·simp at a1;subst a1;exact hh
  rcases D.2 with⟨rfl,rfl⟩|⟨g,o,cap,cur,rfl,e3,e4,e5,e6,e7⟩
  ·have hx:xs=[]:=d6 (by simpa using D.1);subst hx;obtain⟨N,w',q1,q2,S,_,q5⟩:=run_append_own_at (P:=P) w 0 t ty e i z size i.bytes U V hz G rfl Y a0 (.slice none 0 0) 0 [] (World.ownsRow_nil w 0 e size) a m c news L X h1 O I (Nat.zero_le _);exact⟨N,w',q1,Zbv q2,S,q5⟩
  ·by_cases hr:n+m<=cap
   ·subst G;have a5:n*i.size+m*i.size<=cap*i.size:=by rw[<-dk];exact be _ hr
    have q:=Z1v (P:=P) (ty:=ty) (off:=o) (sLen:=n) (sCap:=cap) (c:=c) U V e3 L X h1 hr (by rw[L];omega);have a2:=Lo cur.toList (o+n*i.size) news;refine⟨_,_,q,⟨by rw[ap,D.1,L,dk], .inr ⟨g,o,cap,_,rfl,setRow_heap w g cur _ e _ e3,hr,e5,by simp only[List.size_toArray];rw[a2,dw];exact e6,?_⟩⟩,⟨rfl,rfl,rfl,by simp,λk hk a3=>setRow_other w g k _ (λe=>a3 (by rw[e];rfl))⟩, .inl rfl⟩;have hL:o+n*i.size+news.length<=cur.toList.length:=by rw[L,dw];omega
    show((splice cur.toList (o+n*i.size) news).toArray.toList.drop o).take ((n+m)*i.size)=xs++news;simp only[List.toList_toArray];rw[Gi _ _ _ hL,fa,jn (by simp;omega),List.drop_take,show o+n*i.size-o=n*i.size from by omega,e7,<-fa];rw[List.take_append_of_le_length (by rw[ap,D.1,L,dk];omega),gv (by rw[ap,D.1,L,dk];omega)]
   ·obtain ⟨N, w', q1, q2, S⟩ := run_append_arg_grows (P := P) w t ty e i z size i.bytes U V hz G rfl Y a0 ⟨g, o, none⟩ n cap xs D.1 (λj u hj => by
     have:=Qt D (g:=g) rfl j u hj;rw[Addr.add_lit];exact this) a m c news L X (by omega) O I
    have T := run_append_grow (P := P) w t ty e i z U V hz ⟨g, o, none⟩ n cap xs (by rw [G]; exact D.1) (λj u hj => by
     have:=Qt D (g:=g) rfl j u hj;rw[Addr.add_lit];exact this) a m c news (by rw[G];exact L) X (by omega) (by simp only[maxLen]at O;omega) (growslice_fits (by omega) I)
    rw[q1]at T;simp only[Result.ok.injEq]at T;refine⟨N,w',q1,Zbv q2,⟨S.os,S.tape,S.output,S.size,λk hk _=>S.block k hk (by simp)⟩, .inr ?_⟩;rw[T.1];rfl
 |none=>
  have hm:m=0:=by
   rcases M with h|⟨_,h,_⟩
   ·exact h
   ·simp at h
  subst hm;have X:news=[]:=d6 (by simpa using L);subst X;refine⟨v,w,?_,by simpa using D,⟨rfl,rfl,rfl,co _,λ_ _ _=>rfl⟩, .inl rfl⟩;rcases D.2 with⟨rfl,rfl⟩|⟨g,o,cap,cur,rfl,_,a4,_⟩
  ·simp[Builtin.append_,run_underlying U,sizeOf,typeInfo,V,Builtin.lenOf,Builtin.firstCells]
  ·simp[Builtin.append_,run_underlying U,sizeOf,typeInfo,V,Builtin.lenOf,Builtin.firstCells,a4,storeCells]
theorem Zc5 (h:RelE Z tm aB aC ρ tmps w) {ks:List Kd} {a:AC} {x:Value} {m:List (List AC)} (D:GX aC ks a=some m) (G:CC ρ w a x):
  ∃I c news,x= .slice I m.length c/\RowC ρ.im w ks m news/\(m.length=0\/∃a,I=some a/\∀j u,news[j]? =some u->w.cell? (a.add j)=some u):=by
 unfold GX at D;split at D
 ·simp at D;subst D;simp only[CC,CP]at G;subst G;exact⟨none,0,[],rfl,⟨by simp,by simp,λi c L=>by simp at L⟩, .inl rfl⟩
 ·rename_i M l;cases hb:Cy ks M<;>rw[hb]at D
  ·simp at D
  ·simp at D;subst D;have:=Iy hb;subst this;simp only[CC,CP]at G;obtain⟨I,cap,rfl,hle,hk,hf⟩:=G;rcases hf with rfl|⟨b,o,rfl,_,N⟩
   ·exact⟨I,cap,[],rfl,⟨by simp,by simp,λi c L=>by simp at L⟩, .inl rfl⟩
   ·obtain⟨ys,U,V⟩:=Zx3 l hk N;refine⟨_,cap,ys,rfl,U, .inr ⟨_,rfl,λj u O=> ?_⟩⟩;rw[Addr.add_lit];exact V j u O
 ·rename_i id w' n;split at D
  ·rename_i r hr;cases hb:Cy ks r.ks<;>rw[hb]at D
   ·simp at D
   ·simp at D;subst D;have:=Iy hb;subst this;obtain⟨U,V,_,xs,X,Y⟩:=h.ro id r hr;obtain⟨S,a0,a1⟩:=G;subst S;rcases X.2 with⟨e1,e2⟩|⟨g',o,cap,cur,e1,e3,e4,e5,e6,e7⟩
    ·have T:r.l.length=0:=e2;exact⟨none,0,xs,by rw[e1,T],Y, .inl e2⟩
    ·refine⟨some ⟨g',o,none⟩,cap,xs,e1,Y, .inr ⟨_,rfl,λj u O=> ?_⟩⟩;have:=Qt X (g:=g') (by rw[e1];rfl) j u O;rw[e1]at this;rw[Addr.add_lit];exact this
  ·simp at D
 ·simp at D
theorem RelE.growIm {im':Nat->Prop} {w':World} (D:RelE Z tm aB aC ρ tmps w) (G:Below w.heap.size w w') (I:∀b,ρ.im b->im' b) (M:∀b,im' b->ρ.im b\/(w.heap.size<=b/\b<w'.heap.size)):
  RelE Z tm aB aC {ρ with im:=im'} tmps w':=by
 have hold:∀b,b<w.heap.size->w'.heap[b]? =w.heap[b]? :=λb hb=>G.block b hb;have S:∀(a:AC) (x:Value),CC ρ w a x->CC {ρ with im:=im'} w' a x:=λa x V=>CC.mono (ρ:=ρ) (ρ':={ρ with im:=im'}) I (λb hb=>hold b (D.ib b hb).1) a x (AC.agree_refl rfl rfl rfl a) V;refine⟨D.tl,λi v hi=>TVR.mono S v _ (D.tv i v hi),D.wt,D.wb,?_,D.bi,?_,D.ri,D.br,?_,D.fr.trans (Fr.of_below G D.fs),λk N=>de (D.fs k N) G.size,λb hb=>I b (D.i0 b hb),λb hb=>(M b hb).elim (D.i1 b) λq=> .inr λhf=>absurd (D.fs b hf) (by omega),λk b N=>D.k0 k b N⟩
 ·intro k b N;obtain⟨arr,O,T,U⟩:=D.bx k b N;exact⟨arr,by rw[hold _ (O_ O)];exact O,T.mono λa _ x V=>S a x V,U⟩
 ·intro id r0 L;obtain⟨O,T,q0,ys,U,q4⟩:=D.ro id r0 L;exact⟨O,T,q0,ys,Mh U λg hg=>hold g (D.rwlt L hg).2,q4.mono I (λb hb=>hold b (D.ib b hb).1)⟩
 ·intro b hb;rcases M b hb with X|⟨a0,Y⟩
  ·obtain⟨O,T,U⟩:=D.ib b X;exact⟨de O G.size,T,U⟩
  ·exact⟨Y,λk bo N e=>by have:=D.bxlt N;have e':ρ.bx k=b:=e;omega,λid r0 L e=>by have e':(ρ.rv id).ownBlock=some b:=e;have:=(D.rwlt L e').2;omega⟩
end
open Go.RowKit
section
variable {P:Program} {C:Cfg} {ρ:Env} {w:World} {R:Type} {Z:Base} {tm:List TV} {aB:List (Nat×Box)} {aC:List (Nat×Row)} {tmps:Array Value}
def AC.nmP (Kp:Nat->Prop):AC->Prop
 | .ptr k _=>Kp k
 |_=>True
def AC.nm (Kp D:Nat->Prop):AC->Prop
 | .ptr k _=>Kp k
 | .bsl k _=>Kp k
 | .own id _ _=>D id
 | .rptr id _ _=>D id
 | .clo _ fs cs=>(∀a∈fs,AC.nmP Kp a)/\∀a∈cs,AC.nmP Kp a
 |_=>True
def TV.nm (Kp D:Nat->Prop):TV->Prop
 | .v _ cs=>∀a∈cs,AC.nm Kp D a
 | .tup ps=>∀p∈ps,∀a∈p.2,AC.nm Kp D a
 | .vD=>True
theorem AC.nm_of_inK {keys ids:List Nat} {a:AC} (h:AC.inK keys ids a=true):a.nm (· ∈keys) (· ∈ids):=by
 have D:∀l:List AC,Ak (AC.inK.inP keys) l=true->∀a∈l,AC.nmP (· ∈keys) a:=by
  intro l G a I;have:=Au.1 G a I;cases a<;>first|trivial|exact EN.1 this
 cases a with
 |ptr k o=>exact EN.1 h
 |bsl k o=>exact EN.1 h
 |own id w n=>exact EN.1 h
 |rptr id i s=>exact EN.1 h
 |clo f fs cs=>
  simp only[AC.inK,ai]at h;exact⟨D fs h.1,D cs h.2⟩
 |_=>trivial
theorem TV.nm_of_inK {keys ids:List Nat} {v:TV} (h:TV.inK keys ids v=true):v.nm (· ∈keys) (· ∈ids):=by
 cases v with
 |vD=>trivial
 |v g cs=>exact λa D=>AC.nm_of_inK (Au.1 h a D)
 |tup ps=>exact λp G a D=>AC.nm_of_inK (Au.1 (Au.1 h p G) a D)
theorem AC.nm_of_wf {a:AC} (h:AC.wf aB aC a):a.nm (λk=>∃b,Ab aB k=some b) (λi=>∃r,Ab aC i=some r):=by
 have G:∀l:List AC,(∀a∈l,AC.wfP aB a)->∀a∈l,AC.nmP (λk=>∃b,Ab aB k=some b) a:=by
  intro l I a L;have:=I a L;cases a<;>first|trivial|exact this
 cases a with
 |ptr k o=>exact h
 |bsl k o=>exact h
 |own id w n=>obtain⟨r,D,_⟩:=h;exact⟨r,D⟩
 |rptr id i s=>obtain⟨r,D,_⟩:=h;exact⟨r,D⟩
 |clo f fs cs=>exact⟨G fs h.1,G cs h.2⟩
 |_=>trivial
theorem TV.nm_of_wf {v:TV} (h:TV.wf aB aC v):v.nm (λk=>∃b,Ab aB k=some b) (λi=>∃r,Ab aC i=some r):=by
 cases v with
 |vD=>trivial
 |v g cs=>exact λa D=>AC.nm_of_wf (h a D)
 |tup ps=>exact λp G a D=>AC.nm_of_wf (h p G a D)
theorem Qm2 {G I:Env} {Kp:Nat->Prop} {M:Nat->Nat} (hb:∀k,Kp k->I.bx (M k)=G.bx k) (N:I.im=G.im):∀(l:List AC) (xs:List Value),(∀a∈l,AC.nmP Kp a)->CLc G w l xs->CLc I w (AC.ren.renP M l) xs
 |[],[],_,_=>trivial
 |a::l,x::xs,O,h=>by
  have S:=Qm2 hb N l xs (λb hb=>O b (by simp[hb])) h.2;have D:=h.1;have L:=O a (by simp);cases a<;>simp only[AC.ren.renP]<;>refine⟨?_,S⟩<;>first
   |(simp only[CCc]at D⊢;rw[hb _ L];exact D)
   |(simp only[CCc]at D⊢;rw[N];exact D)
 |[],_::_,_,h=>h.elim
 |_::_,[],_,h=>h.elim
theorem Qof {I L:Env} {Kp N:Nat->Prop} {O ri:Nat->Nat} (hb:∀k,Kp k->L.bx (O k)=I.bx k) (M:∀i,N i->L.rv (ri i)=I.rv i/\L.wd (ri i)=I.wd i) (D:L.im=I.im)
  {a:AC} {x:Value} (G:a.nm Kp N) (h:CC I w a x):CC L w (a.ren O ri) x:=by
 cases a with
 |ptr k o=>simp only[AC.ren,CC]at*;rw[hb k G];exact h
 |bsl k o=>simp only[AC.ren,CC]at*;rw[hb k G];exact h
 |own id w n=>simp only[AC.ren,CC]at*;rw[(M id G).1,(M id G).2];exact h
 |rptr id i s=>simp only[AC.ren,CC]at*;rw[(M id G).1,(M id G).2];exact h
 |vptr cs s=>simp only[AC.ren,CC]at*;rw[D];exact h
 |clo f fs cs=>
  obtain⟨xs,S,T,U,V⟩:=h;exact⟨xs,S,T,Qm2 hb D fs _ G.1 U,Qm2 hb D cs _ G.2 V⟩
 |vD=>exact h
 |int=>simp only[AC.ren,CC]at*;rw[D];exact h
 |bool=>simp only[AC.ren,CC]at*;rw[D];exact h
 |raw=>simp only[AC.ren,CC]at*;rw[D];exact h
 |nilSl=>simp only[AC.ren,CC]at*;rw[D];exact h
 |vC=>simp only[AC.ren,CC]at*;rw[D];exact h
theorem Qa {D G:Env} {Kp Ip:Nat->Prop} {I ri:Nat->Nat} (hb:∀k,Kp k->G.bx (I k)=D.bx k) (L:∀i,Ip i->G.rv (ri i)=D.rv i/\G.wd (ri i)=D.wd i) (M:G.im=D.im):
  ∀{l:List AC} {xs:List Value},(∀a∈l,a.nm Kp Ip)->CL (CC D w) l xs->CL (CC G w) (l.map (AC.ren I ri)) xs
 |[],[],_,h=>h
 |a::l,y::xs,N,h=>⟨Qof hb L M (N a (by simp)) h.1,Qa hb L M (λb hb=>N b (by simp[hb])) h.2⟩
 |[],_::_,_,h=>h.elim
 |_::_,[],_,h=>h.elim
theorem Q9s {G I:Env} {Kp Ip:Nat->Prop} {V ri:Nat->Nat} (hb:∀k,Kp k->I.bx (V k)=G.bx k) (M:∀i,Ip i->I.rv (ri i)=G.rv i/\I.wd (ri i)=G.wd i) (N:I.im=G.im)
  {v:TV} {x:Value} (O:v.nm Kp Ip) (h:TVR G w v x):TVR I w (v.ren V ri) x:=by
 cases v with
 |vD=>trivial
 |v b cs=>
  cases b
  ·obtain⟨a,rfl,Y⟩:=h;exact⟨_,rfl,Qof hb M N (O a (by simp)) Y⟩
  ·obtain⟨S,rfl,D⟩:=h;exact⟨S,rfl,Qa hb M N O D⟩
 |tup ps=>
  obtain⟨S,rfl,D⟩:=h;refine⟨S,rfl,?_⟩;generalize S.toList=l at D;induction ps generalizing l with
  |nil=>cases l<;>first|exact D|exact D.elim
  |cons p ps ih=>
   cases l with
   |nil=>exact D.elim
   |cons y l=>
    obtain⟨b,cs⟩:=p;refine⟨?_,ih (λq hq=>O q (by simp[hq])) l D.2⟩;have X:=D.1;have L:=O (b,cs) (by simp);cases b
    ·obtain⟨a,T,U⟩:=X;subst T;exact⟨_,rfl,Qof hb M N (L a (by simp)) U⟩
    ·obtain⟨zs,T,U⟩:=X;exact⟨zs,T,Qa hb M N L U⟩
theorem Sh {b1 b2:List (Nat×Box)} {T U:List (Nat×Row)} {Kp Ip:Nat->Prop} {I ri:Nat->Nat} (hb:∀k,Kp k->(∃b,Ab b1 k=some b)->∃b,Ab b2 (I k)=some b)
  (V:∀i r,Ip i->Ab T i=some r->∃r',Ab U (ri i)=some r'/\r'.n=r.n/\r'.w=r.w) {a:AC} (D:a.nm Kp Ip) (h:AC.wf b1 T a):AC.wf b2 U (a.ren I ri):=by
 have X:∀l:List AC,(∀a∈l,AC.nmP Kp a)->(∀a∈l,AC.wfP b1 a)->∀a∈AC.ren.renP I l,AC.wfP b2 a:=by
  intro l;induction l with
  |nil=>intro _ _ a G;simp[AC.ren.renP]at G
  |cons c l ih=>
   intro D Y a G;have L:=ih (λb hb=>D b (by simp[hb])) (λb hb=>Y b (by simp[hb]));have h1:=D c (by simp);have h2:=Y c (by simp);cases c<;>simp only[AC.ren.renP,ax]at G<;>rcases G with rfl|G<;>first
    |exact L a G
    |exact hb _ h1 h2
    |trivial
 cases a with
 |ptr k o=>exact hb k D h
 |bsl k o=>exact hb k D h
 |own id w n=>obtain⟨r,M,N,q3⟩:=h;obtain⟨r',O,S,p3⟩:=V id r D M;exact⟨r',O,by rw[S,N],by rw[p3,q3]⟩
 |rptr id i s=>obtain⟨r,M,N⟩:=h;obtain⟨r',O,S,p3⟩:=V id r D M;exact⟨r',O,by rw[S];exact N⟩
 |vptr=>exact h
 |clo f fs cs=>exact⟨X fs D.1 h.1,X cs D.2 h.2⟩
 |_=>trivial
theorem Qy3 {b1 b2:List (Nat×Box)} {I L:List (Nat×Row)} {Kp Ip:Nat->Prop} {M ri:Nat->Nat} (hb:∀k,Kp k->(∃b,Ab b1 k=some b)->∃b,Ab b2 (M k)=some b)
  (N:∀i r,Ip i->Ab I i=some r->∃r',Ab L (ri i)=some r'/\r'.n=r.n/\r'.w=r.w) {v:TV} (O:v.nm Kp Ip) (h:TV.wf b1 I v):TV.wf b2 L (v.ren M ri):=by
 cases v with
 |vD=>trivial
 |v g cs=>
  intro a D;simp only[av]at D;obtain⟨c,G,rfl⟩:=D;exact Sh hb N (O c G) (h c G)
 |tup ps=>
  intro p S a D;simp only[av]at S;obtain⟨q,T,rfl⟩:=S;simp only[av]at D;obtain⟨c,G,rfl⟩:=D;exact Sh hb N (O q T c G) (h q T c G)
theorem Iu:∀{l:List Nat},BH l=true↔l.Nodup
 |[]=>by simp[BH]
 |k::l=>by
  simp only[BH,jp,<-Iu (l:=l)];cases h:AH l k
  ·have: ¬k∈l:=λD=>by rw[EN.2 D]at h;cases h
   simp[this]
  ·have:=EN.1 h;simp[this]
theorem C2 {l:List Nat} {n:Nat} (h:n∈l):pos l n<l.length/\nth 0 l (pos l n)=n:=by
 induction l with
 |nil=>simp at h
 |cons m l G=>
  simp only[pos];cases hb:Nat.beq m n
  ·have D:=GK hb;have:n∈l:=by
    rcases ax.1 h with e|e
    ·exact absurd e.symm D
    ·exact e
   obtain⟨L,I⟩:=G this;exact⟨by simp only[aq,bm];omega,by simp only[aq];exact I⟩
  ·exact⟨by simp,by simpa [nth]using ac hb⟩
theorem Ziq {l:List Nat} {m n:Nat} (D:m∈l) (G:n∈l) (h:pos l m=pos l n):m=n:=by
 rw[<-(C2 D).2,<-(C2 G).2,h]
theorem Id {l:List Nat} (I:l.Nodup) {i:Nat} (L:i<l.length):pos l (nth 0 l i)=i:=by
 induction l generalizing i with
 |nil=>simp at L
 |cons m l M=>
  cases i with
  |zero=>simp[nth,pos]
  |succ i=>
   have D:i<l.length:=by simpa using L
   have G:nth 0 l i∈l:=by
    rw[BV,List.getD,al D];exact cg D
   rw[jp]at I;simp only[nth,pos];rw[JZ (by rintro rfl;exact I.1 G)];simp only[aq];rw[M I.2 D]
theorem Fc {l:List Nat} {i:Nat} (D:i<l.length):nth 0 l i∈l:=by
 rw[BV,List.getD,al D];exact cg D
theorem J5 {L ri:Nat->Nat}:∀{keys:List Nat} {b:Nat} {D:List (Nat×Box)},C0 aB L ri b keys=some D->
  (∀i,i<keys.length->∃x,Ab aB (nth 0 keys i)=some x/\Ab D (b+i)=some ⟨x.ty,x.cells.map (AC.ren L ri)⟩)/\∀c x,Ab D c=some x->∃i,i<keys.length/\c=b+i
 |[],b,D,h=>by simp[C0]at h;subst h;exact⟨λi G=>by simp at G,λc x h=>by simp[Ab]at h⟩
 |k::keys,b,D,h=>by
  simp only[C0]at h;split at h
  ·rename_i x O;split at h
   ·rename_i l S;simp at h;subst h;obtain⟨T,U⟩:=J5 S;refine⟨λi G=> ?_,λc y I=> ?_⟩
    ·cases i with
     |zero=>exact⟨x,O,by simp[Ab]⟩
     |succ i=>
      obtain⟨y,M,N⟩:=T i (by simpa using G);refine⟨y,M,?_⟩;rw[show b+(i+1)=b+1+i from by omega];simp only[Ab];rw[JZ (by omega)];exact N
    ·simp only[Ab]at I;cases hb:Nat.beq b c<;>rw[hb]at I
     ·obtain⟨i,M,N⟩:=U c y I;exact⟨i+1,by simp;omega,by omega⟩
     ·exact⟨0,by simp,(ac hb).symm⟩
   ·simp at h
  ·simp at h
theorem UL:∀{keys:List Nat} {b:Nat} {D:List (Nat×Row)},EX aC b keys=some D->
  (∀i,i<keys.length->∃x,Ab aC (nth 0 keys i)=some x/\Ab D (b+i)=some x)/\∀c x,Ab D c=some x->∃i,i<keys.length/\c=b+i
 |[],b,D,h=>by simp[EX]at h;subst h;exact⟨λi G=>by simp at G,λc x h=>by simp[Ab]at h⟩
 |k::keys,b,D,h=>by
  simp only[EX]at h;split at h
  ·rename_i x N;split at h
   ·rename_i l O;simp at h;subst h;obtain⟨S,T⟩:=UL O;refine⟨λi G=> ?_,λc y I=> ?_⟩
    ·cases i with
     |zero=>exact⟨x,N,by simp[Ab]⟩
     |succ i=>
      obtain⟨y,L,M⟩:=S i (by simpa using G);refine⟨y,L,?_⟩;rw[show b+(i+1)=b+1+i from by omega];simp only[Ab];rw[JZ (by omega)];exact M
    ·simp only[Ab]at I;cases hb:Nat.beq b c<;>rw[hb]at I
     ·obtain⟨i,L,M⟩:=T c y I;exact⟨i+1,by simp;omega,by omega⟩
     ·exact⟨0,by simp,(ac hb).symm⟩
   ·simp at h
  ·simp at h
def HL {α β:Type} (D:Nat->Nat) (g:α->β):List (Nat×α)->List (Nat×β)->List (Nat×β)
 |[],l=>l
 |(k,b)::m,l=>HL D g m (ins l (D k) (g b))
theorem Xa (D ri:Nat->Nat):∀(m:List (Nat×Box)) (l:List (Nat×Box)),Jn D ri m l=HL D (λb=>⟨b.ty,b.cells.map (AC.ren D ri)⟩) m l
 |[],_=>rfl
 |(_,_)::m,_=>by simp only[Jn,HL];exact Xa D ri m _
theorem Qr9 (ri:Nat->Nat):∀(m:List (Nat×Row)) (l:List (Nat×Row)),HX ri m l=HL ri (λb=>b) m l
 |[],_=>rfl
 |(_,_)::m,_=>by simp only[HX,HL];exact Qr9 ri m _
theorem SK {α β:Type} {rk:Nat->Nat} {g:α->β}:∀{m:List (Nat×α)} {l:List (Nat×β)},(m.map (·.1)).Nodup->(∀k∈m.map (·.1),∀j∈m.map (·.1),rk k=rk j->k=j)->(∀k∈m.map (·.1),Ab l (rk k)=none)->
  (∀k b,Ab m k=some b->Ab (HL rk g m l) (rk k)=some (g b))/\(∀n,(∀k∈m.map (·.1),n≠rk k)->Ab (HL rk g m l) n=Ab l n)
 |[],l,_,_,_=>⟨λk b h=>by simp[Ab]at h,λn _=>rfl⟩
 |(j,c)::m,l,L,M,N=>by
  simp only[ba,jp]at L;have G:∀k∈m.map (·.1),rk k≠rk j:=λk D e=>L.1 (by have:=M k (by simp at D⊢;exact .inr D) j (by simp) e;rw[<-this];exact D);obtain ⟨T, O⟩ := SK (rk := rk) (g := g) (m := m) (l := ins l (rk j) (g c)) L.2 (λk D q S => M k (by simp at D ⊢; exact .inr D) q (by simp at S ⊢; exact .inr S)) (λk D => by
   rw[Dg _ _ _ _ (G k D)];exact N k (by simp at D⊢;exact .inr D))
  have U:Ab (ins l (rk j) (g c)) (rk j)=some (g c):=Ed _ _ _ (N j (by simp));refine⟨λk b D=> ?_,λn I=> ?_⟩
  ·simp only[Ab]at D;cases hb:Nat.beq j k<;>rw[hb]at D
   ·exact T k b D
   ·have:=ac hb;subst this;simp at D;subst D;simp only[HL];rw[O (rk j) (λk D e=>G k D e.symm)];exact U
  ·simp only[HL];rw[O n (λk D=>I k (by simp at D⊢;exact .inr D))];exact Dg _ _ _ _ (I j (by simp))
theorem KC {α:Type}:∀(ks:List Nat) (l:List (Nat×α)) (n:Nat),Ab (CU ks l) n=if n∈ks then none else Ab l n
 |[],l,n=>by simp[CU]
 |k::ks,l,n=>by
  simp only[CU];rw[KC ks];by_cases h:n=k
  ·subst h;simp only[QH,ax,true_or,dq];split<;>rfl
  ·rw[J8 _ _ _ h];simp[h]
theorem Kw {α:Type}:∀{l:List (Nat×α)} {k:Nat},k∈l.map (·.1)↔∃b,Ab l k=some b
 |[],k=>by simp[Ab]
 |(j,c)::l,k=>by
  simp only[ba,ax,Ab];cases hb:Nat.beq j k
  ·simp only[aq,<-Kw (l:=l)];constructor
   ·rintro(e|e)
    ·exact absurd e.symm (GK hb)
    ·exact e
   ·exact .inr
  ·simp[ac hb]
theorem IX {α:Type} {names:List Nat}:∀{l:List (Nat×α)} {k:Nat},k∈A2 names l↔k∈l.map (·.1)/\ ¬(base<=k/\k-base<names.length)
 |[],k=>by simp[A2]
 |(j,c)::l,k=>by
  simp only[A2,ba,ax];cases hb:(Nat.ble base j&&Nat.blt (j-base) names.length)
  ·have I: ¬(base<=j/\j-base<names.length):=by
    rintro⟨G,D⟩;have e1:=gh G;have e2:Nat.blt (j-base) names.length=true:=gh D;rw[e1,e2]at hb;cases hb
   simp only[aq,ax,IX (l:=l)];constructor
   ·rintro(rfl|⟨G,D⟩)
    ·exact⟨.inl rfl,I⟩
    ·exact⟨.inr G,D⟩
   ·rintro⟨rfl|G,D⟩
    ·exact .inl rfl
    ·exact .inr ⟨G,D⟩
  ·simp only[ai]at hb;have I:base<=j/\j-base<names.length:=⟨ay hb.1,ay hb.2⟩;simp only[ag,IX (l:=l)];constructor
   ·rintro⟨G,D⟩;exact⟨.inr G,D⟩
   ·rintro⟨rfl|G,D⟩
    ·exact absurd I D
    ·exact⟨G,D⟩
theorem L4 {names fresh:List Nat} {d k:Nat} (h:base<=k/\k-base<names.length):Bs names fresh d k=nth 0 names (k-base):=by
 unfold Bs;rw[gh h.1,show Nat.blt (k-base) names.length=true from gh h.2];rfl
theorem Q7p {names fresh:List Nat} {d k:Nat} (h: ¬(base<=k/\k-base<names.length)):Bs names fresh d k=100000+100*d+pos fresh k:=by
 unfold Bs;have:(Nat.ble base k&&Nat.blt (k-base) names.length)=false:=by
  apply Bool.eq_false_iff.2;intro hb;simp only[ai]at hb;exact h ⟨ay hb.1,ay hb.2⟩
 rw[this];rfl
theorem Q43 {α β:Type} {names:List Nat} {d:Nat} {L:List (Nat×α)} {l:List (Nat×β)} (M:names.Nodup) (N:∀k∈names,∃b,Ab l k=some b)
  (hf:∀k∈A2 names L,Ab l (Bs names (A2 names L) d k)=none):
  ∀k∈L.map (·.1),∀j∈L.map (·.1),Bs names (A2 names L) d k=Bs names (A2 names L) d j->k=j:=by
 intro k O j S he;by_cases D:base<=k/\k-base<names.length<;>by_cases G:base<=j/\j-base<names.length
 ·rw[L4 D,L4 G]at he;have:=il (pos names) he;rw[Id M D.2,Id M G.2]at this;omega
 ·have I:=hf j (IX.2 ⟨S,G⟩);rw[<-he,L4 D]at I;obtain⟨b,hb⟩:=N _ (Fc D.2);rw[hb]at I;cases I
 ·have I:=hf k (IX.2 ⟨O,D⟩);rw[he,L4 G]at I;obtain⟨b,hb⟩:=N _ (Fc G.2);rw[hb]at I;cases I
 ·rw[Q7p D,Q7p G]at he;exact Ziq (IX.2 ⟨O,D⟩) (IX.2 ⟨S,G⟩) (by omega)
noncomputable def JU {α:Type} (m:List (Nat×α)) (bk:Nat->Nat) (n:Nat):Option Nat:= @dite _ (∃k∈m.map (·.1),bk k=n) (Classical.propDecidable _) (λh=>some (Classical.choose h)) (λ_=>none)
theorem Qby {α:Type} {m:List (Nat×α)} {bk:Nat->Nat} (D:∀k∈m.map (·.1),∀j∈m.map (·.1),bk k=bk j->k=j) {k:Nat} (G:k∈m.map (·.1)):JU m bk (bk k)=some k:=by
 unfold JU;have h:∃j∈m.map (·.1),bk j=bk k:=⟨k,G,rfl⟩;rw[jh h];have:=ez h;rw[D _ this.1 k G this.2]
theorem Qar {α:Type} {m:List (Nat×α)} {bk:Nat->Nat} {n:Nat} (h:∀k∈m.map (·.1),n≠bk k):JU m bk n=none:=by
 unfold JU;rw[dif_neg];rintro⟨k,D,he⟩;exact h k D he.symm
theorem Za0:∀(ids:List Nat) {v:TV} {x:Value},TVR ρ w v x->TVR ρ w (Hy ids v) x
 |[],_,_,h=>h
 |_::l,_,_,h=>Za0 l (TV.kill_TVR h)
theorem Q9i:∀(ids:List Nat) {v:TV},TV.wf aB aC v->TV.wf aB aC (Hy ids v)
 |[],_,h=>h
 |_::l,_,h=>Q9i l (TV.kill_wf h)
theorem Qlx {id j:Nat} {a:AC} (h:AC.free j a):AC.free j (a.kill id):=by
 cases a with
 |own i w n=>simp only[AC.kill];cases Nat.beq i id<;>first|exact h|trivial
 |rptr i n s=>simp only[AC.kill];cases Nat.beq i id<;>first|exact h|trivial
 |_=>trivial
theorem Yat {id j:Nat} {v:TV} (h:TV.free j v):TV.free j (v.kill id):=by
 cases v with
 |v g cs=>
  intro a D;simp only[av]at D;obtain⟨b,hb,rfl⟩:=D;exact Qlx (h b hb)
 |tup ps=>
  intro p G a D;simp only[av]at G;obtain⟨q,I,rfl⟩:=G;simp only[av]at D;obtain⟨b,hb,rfl⟩:=D;exact Qlx (h q I b hb)
 |vD=>trivial
theorem Qv3 {j:Nat}:∀(ids:List Nat) {v:TV},TV.free j v->TV.free j (Hy ids v)
 |[],_,h=>h
 |_::l,_,h=>Qv3 l (Yat h)
theorem Q7d:∀(ids:List Nat) (v:TV),∀id∈ids,TV.free id (Hy ids v)
 |[],_,id,h=>by simp at h
 |i::l,v,id,h=>by
  simp only[ax]at h;by_cases e:id∈l
  ·exact Q7d l (v.kill i) id e
  ·have:id=i:=h.resolve_right e;subst this;exact Qv3 l (TV.kill_free id v)
theorem Q3y:∀(ids:List Nat) (b:Box),(CZ ids b).ty=b.ty
 |[],_=>rfl
 |_::l,b=>by rw[CZ,Q3y l];rfl
theorem Q7g:∀(ids:List Nat) {b:Box} {xs:List Value},CL (CC ρ w) b.cells xs->CL (CC ρ w) (CZ ids b).cells xs
 |[],_,_,h=>h
 |i::l,b,_,h=>Q7g l (b:=b.kill i) h.kill
theorem Q6x:∀(ids:List Nat) {b:Box},(∀a∈b.cells,AC.wf aB aC a)->∀a∈(CZ ids b).cells,AC.wf aB aC a
 |[],_,h=>h
 | i :: l, b, h => Q6x l (b := b.kill i) (λa D => by
  simp only[Box.kill,av]at D;obtain⟨c,G,rfl⟩:=D;exact AC.kill_wf (h c G))
theorem Qyg {j:Nat}:∀(ids:List Nat) {b:Box},(∀a∈b.cells,AC.free j a)->∀a∈(CZ ids b).cells,AC.free j a
 |[],_,h=>h
 | i :: l, b, h => Qyg l (b := b.kill i) (λa D => by
  simp only[Box.kill,av]at D;obtain⟨c,G,rfl⟩:=D;exact Qlx (h c G))
theorem Q00:∀(ids:List Nat) (b:Box),∀id∈ids,∀a∈(CZ ids b).cells,AC.free id a
 |[],_,id,h=>by simp at h
 |i::l,b,id,h=>by
  simp only[ax]at h;by_cases e:id∈l
  ·exact Q00 l (b.kill i) id e
  ·have:id=i:=h.resolve_right e;subst this;exact Qyg l (b := b.kill id) (λa D => by
    simp only[Box.kill,av]at D;obtain⟨c,G,rfl⟩:=D;exact AC.kill_free id c)
end
open Go.RowKit
section
variable {P:Program} {C:Cfg} {ρ:Env} {w:World} {R:Type} {Z:Base} {tm:List TV} {aB:List (Nat×Box)} {aC:List (Nat×Row)} {tmps:Array Value}
theorem Q1b {k:Nat} {b:Box} (h:Ab aB k=some b):Ei aB k=b.cells:=by unfold Ei;rw[h]
def I_ (ρ:Env) (keys ids:List Nat):Env:=⟨λc=>ρ.bx (nth 0 keys (c-base)),λc=>ρ.rv (nth 0 ids (c-base)),λc=>ρ.wd (nth 0 ids (c-base)),ρ.im⟩
def Ih (w:World) (ρ:Env) (keys ids:List Nat):Nat->Prop:=λb=>b<w.heap.size/\(∀k∈keys,ρ.bx k≠b)/\∀id∈ids,(ρ.rv id).ownBlock≠some b
theorem Zoc (D:RelE Z tm aB aC ρ tmps w) {keys ids:List Nat} {O:List (Nat×Box)} {S:List (Nat×Row)}
  (I:C0 aB (λk=>base+pos keys k) (λi=>base+pos ids i) base keys=some O) (L:EX aC base ids=some S):Gt (Ih w ρ keys ids) w:=by
 obtain⟨b1,b2⟩:=J5 I;obtain⟨T,V⟩:=UL L;refine Z.gt.mono λg cs _ G=>⟨⟨D.fs g G,λk M e=> ?_,λid N e=> ?_⟩,D.fr.block g G⟩
 ·obtain⟨x,q,_⟩:=b1 (pos keys k) (C2 M).1;rw[(C2 M).2]at q;obtain⟨_,_,_,U⟩:=D.bx k x q;exact U (by rw[e];exact G)
 ·obtain⟨x,q,_⟩:=T (pos ids id) (C2 N).1;rw[(C2 N).2]at q;exact(D.ro id x q).2.2.1 g e G
theorem UW (O:RelE Z tm aB aC ρ tmps w) {args:List TV} {xs:List Value} (h1:xs.length=args.length)
  (h2:∀(i:Nat) (a:TV) (x:Value),args[i]? =some a->xs[i]? =some x->TVR ρ w a x) (a8:∀v∈args,TV.wf aB aC v) {keys ids:List Nat} (a0:keys.Nodup) (V:ids.Nodup)
  (a1:∀v∈args,TV.inK keys ids v=true) (X:∀k∈keys,Ak (AC.inK keys ids) (Ei aB k)=true) {mb:List (Nat×Box)} {mr:List (Nat×Row)}
  (a2:C0 aB (λk=>base+pos keys k) (λi=>base+pos ids i) base keys=some mb) (a3:EX aC base ids=some mr):
  RelE (DS (Ih w ρ keys ids) w (I_ ρ keys ids) mb (Zoc O a2 a3)) (args.map (TV.ren (λk=>base+pos keys k) (λi=>base+pos ids i))) mb mr (I_ ρ keys ids) xs.toArray w:=by
 obtain⟨b1,b2⟩:=J5 a2;obtain⟨r1,r2⟩:=UL a3;have eb:∀k,k∈keys->(I_ ρ keys ids).bx (base+pos keys k)=ρ.bx k:=λk L=>by
  show ρ.bx (nth 0 keys (base+pos keys k-base))=_;rw[dz,(C2 L).2]
 have er:∀i,i∈ids->(I_ ρ keys ids).rv (base+pos ids i)=ρ.rv i/\(I_ ρ keys ids).wd (base+pos ids i)=ρ.wd i:=λi D=>by
  constructor
  ·show ρ.rv (nth 0 ids (base+pos ids i-base))=_;rw[dz,(C2 D).2]
  ·show ρ.wd (nth 0 ids (base+pos ids i-base))=_;rw[dz,(C2 D).2]
 have wb:∀k,k∈keys->(∃b,Ab aB k=some b)->∃b,Ab mb (base+pos keys k)=some b:=λk L _=>by
  obtain⟨x,_,q⟩:=b1 (pos keys k) (C2 L).1;exact⟨_,q⟩
 have wr:∀i r,i∈ids->Ab aC i=some r->∃r',Ab mr (base+pos ids i)=some r'/\r'.n=r.n/\r'.w=r.w:=λi r D T=>by
  obtain⟨x,G,q⟩:=r1 (pos ids i) (C2 D).1;rw[(C2 D).2,T]at G;simp at G;subst G;exact⟨_,q,rfl,rfl⟩
 have lb:∀c x,Ab mb c=some x->∃i M,i<keys.length/\c=base+i/\Ab aB (nth 0 keys i)=some M/\x=⟨M.ty,M.cells.map (AC.ren (λk=>base+pos keys k) (λi=>base+pos ids i))⟩:=by
  intro c x S;obtain⟨i,D,rfl⟩:=b2 c x S;obtain⟨M,G,N⟩:=b1 i D;rw[S]at N;simp at N;exact⟨i,M,D,rfl,G,N⟩
 have lr:∀c x,Ab mr c=some x->∃i,i<ids.length/\c=base+i/\Ab aC (nth 0 ids i)=some x:=by
  intro c x S;obtain⟨i,D,rfl⟩:=r2 c x S;obtain⟨M,G,N⟩:=r1 i D;rw[S]at N;simp at N;subst N;exact⟨i,D,rfl,G⟩
 have xb:∀i,(I_ ρ keys ids).bx (base+i)=ρ.bx (nth 0 keys i):=λi=>by
  show ρ.bx (nth 0 keys (base+i-base))=_;rw[dz]
 have xr:∀i,(I_ ρ keys ids).rv (base+i)=ρ.rv (nth 0 ids i):=λi=>by
  show ρ.rv (nth 0 ids (base+i-base))=_;rw[dz]
 have xw:∀i,(I_ ρ keys ids).wd (base+i)=ρ.wd (nth 0 ids i):=λi=>by
  show ρ.wd (nth 0 ids (base+i-base))=_;rw[dz]
 have a4:∀i j,i<keys.length->j<keys.length->nth 0 keys i=nth 0 keys j->i=j:=λi j D Y e=>by rw[<-Id a0 D,<-Id a0 Y,e]
 have a5:∀i j,i<ids.length->j<ids.length->nth 0 ids i=nth 0 ids j->i=j:=λi j D Y e=>by rw[<-Id V D,<-Id V Y,e]
 refine⟨by simp[h1],λi v D=> ?_,λv hv=> ?_,λk b L a U=> ?_,λk b L=> ?_,λk k' b b' L a9 he=> ?_,λid r T=> ?_,λid id' r r' g T b0 hg a6=> ?_,λk b id r L T=> ?_,λb hb=>⟨(O.ib b hb).1,λk bo L=> ?_,λid r T=> ?_⟩,Fr.refl _ _,λk h=>h.1,λb h=>h,λb h=> .inl h,λk b L=> ?_⟩
 ·simp only[d8,bh]at D;obtain⟨a,U,rfl⟩:=D;have a7:i<xs.length:=by rw[h1];exact(fg.1 U).1
  have e:xs.toArray.getD i undef=xs[i]:=by simp[Array.getD,a7]
  rw[e];exact Q9s (Kp:=(· ∈keys)) (Ip:=(· ∈ids)) eb er rfl (TV.nm_of_inK (a1 a (bj U))) (h2 i a _ U (al a7))
 ·simp only[av]at hv;obtain⟨a,U,rfl⟩:=hv;exact Qy3 (Kp:=(· ∈keys)) (Ip:=(· ∈ids)) wb wr (TV.nm_of_inK (a1 a U)) (a8 a U)
 ·obtain⟨i,M,D,rfl,G,rfl⟩:=lb k b L;simp only[av]at U;obtain⟨c,S,rfl⟩:=U;have I:=X _ (Fc D);rw[Q1b G]at I;exact Sh (Kp:=(· ∈keys)) (Ip:=(· ∈ids)) wb wr (AC.nm_of_inK (Au.1 I c S)) (O.wb _ M G c S)
 ·obtain⟨i,M,D,rfl,G,rfl⟩:=lb k b L;obtain⟨arr,p1,p2,p3⟩:=O.bx _ M G;have I:=X _ (Fc D);rw[Q1b G]at I;refine⟨arr,by rw[xb];exact p1,Qa (Kp:=(· ∈keys)) (Ip:=(· ∈ids)) eb er rfl (λc S=>AC.nm_of_inK (Au.1 I c S)) p2,?_⟩;rw[xb];exact λhf=>hf.2.1 _ (Fc D) rfl
 ·obtain⟨i,M,D,rfl,G,_⟩:=lb k b L;obtain⟨j,y0,Y,rfl,N,_⟩:=lb k' b' a9;rw[xb,xb]at he;rw[a4 i j D Y (O.bi _ _ _ _ G N he)]
 ·obtain⟨i,D,rfl,G⟩:=lr id r T;obtain⟨p1,p2,p0,ys,p3,p4⟩:=O.ro _ r G;exact⟨p1,by rw[xw];exact p2,λg hg hf=>hf.2.2 _ (Fc D) (by rw[xr]at hg;exact hg),ys,by rw[xr];exact p3,p4⟩
 ·obtain⟨i,D,rfl,G⟩:=lr id r T;obtain⟨j,Y,rfl,N⟩:=lr id' r' b0;rw[xr]at hg a6;rw[a5 i j D Y (O.ri _ _ _ _ g G N hg a6)]
 ·obtain⟨i,M,D,rfl,G,_⟩:=lb k b L;obtain⟨j,Y,rfl,N⟩:=lr id r T;rw[xr,xb];exact O.br _ _ _ _ G N
 ·obtain⟨i,M,D,rfl,G,_⟩:=lb k bo L;rw[xb];exact(O.ib b hb).2.1 _ _ G
 ·obtain⟨i,D,rfl,G⟩:=lr id r T;rw[xr];exact(O.ib b hb).2.2 _ _ G
 ·simp only[DS,bh]at L;obtain⟨bo,b3,e⟩:=L;exact⟨e,bo,b3⟩
noncomputable def Dl (ρ G:Env) (I:List (Nat×Box)) (D:List (Nat×Row)) (bk bi:Nat->Nat):Env:=
 ⟨λn=>match JU I bk n with|some k=>G.bx k|none=>ρ.bx n,λn=>match JU D bi n with|some k=>G.rv k|none=>ρ.rv n,λn=>match JU D bi n with|some k=>G.wd k|none=>ρ.wd n,G.im⟩
theorem Se (V:RelE Z tm aB aC ρ tmps w) {keys ids:List Nat} (f4:keys.Nodup) (e3:ids.Nodup) {mb I:List (Nat×Box)} {mr L:List (Nat×Row)}
  (f5:C0 aB (λk=>base+pos keys k) (λi=>base+pos ids i) base keys=some mb) (g0:EX aC base ids=some mr) {v:TV} {x:Value} {ρ2:Env} {w':World}
  {hG:Gt (Ih w ρ keys ids) w} (O:RelE (DS (Ih w ρ keys ids) w (I_ ρ keys ids) mb hG) [v] I L ρ2 #[x] w') {d:Nat}
  (a5:(I.map (·.1)).Nodup) (c9:(L.map (·.1)).Nodup) (e4:∀k∈A2 keys I,Ab aB (Bs keys (A2 keys I) d k)=none) (e5:∀k∈A2 ids L,Ab aC (Bs ids (A2 ids L) d k)=none):
  let bk:=Bs keys (A2 keys I) d
  let bi:=Bs ids (A2 ids L) d
  RelE Z (tm.map (Hy ids)) (Jn bk bi I ((CU keys aB).map λp=>(p.1,CZ ids p.2))) (HX bi L (CU ids aC)) (Dl ρ ρ2 I L bk bi) tmps w'/\
   TVR (Dl ρ ρ2 I L bk bi) w' (v.ren bk bi) x/\TV.wf (Jn bk bi I ((CU keys aB).map λp=>(p.1,CZ ids p.2))) (HX bi L (CU ids aC)) (v.ren bk bi):=by
 intro bk bi;obtain⟨b1,b2⟩:=J5 f5;obtain⟨r1,r2⟩:=UL g0;have b3:∀k∈keys,∃b,Ab aB k=some b:=λk T=>by
  obtain⟨x,q,_⟩:=b1 (pos keys k) (C2 T).1;rw[(C2 T).2]at q;exact⟨x,q⟩
 have b4:∀k∈ids,∃b,Ab aC k=some b:=λk T=>by
  obtain⟨x,q,_⟩:=r1 (pos ids k) (C2 T).1;rw[(C2 T).2]at q;exact⟨x,q⟩
 have c6:∀k∈I.map (·.1),∀j∈I.map (·.1),bk k=bk j->k=j:=Q43 f4 b3 e4;have c7:∀k∈L.map (·.1),∀j∈L.map (·.1),bi k=bi j->k=j:=Q43 e3 b4 e5
 have b5:∀i,i<keys.length->(∃b,Ab I (base+i)=some b)/\ρ2.bx (base+i)=ρ.bx (nth 0 keys i):=by
  intro i hi;obtain⟨x0,_,q⟩:=b1 i hi;obtain ⟨p1, bo, p2⟩ := O.k0 (base + i) (ρ.bx (nth 0 keys i)) (by
   simp only[DS,q,f9];show some (ρ.bx (nth 0 keys (base+i-base)))=_;rw[dz])
  exact⟨⟨bo,p2⟩,p1⟩
 have b6:∀i,i<keys.length->bk (base+i)=nth 0 keys i:=λi hi=>by
  have:=L4 (names:=keys) (fresh:=A2 keys I) (d:=d) (k:=base+i) ⟨by omega,by omega⟩;rw[dz]at this;exact this
 have e6:∀i,i<ids.length->bi (base+i)=nth 0 ids i:=λi hi=>by
  have:=L4 (names:=ids) (fresh:=A2 ids L) (d:=d) (k:=base+i) ⟨by omega,by omega⟩;rw[dz]at this;exact this
 have e7:∀k∈I.map (·.1),(∃i,i<keys.length/\k=base+i/\bk k=nth 0 keys i)\/(Ab aB (bk k)=none):=by
  intro k T;by_cases hc:base<=k/\k-base<keys.length
  ·refine .inl ⟨k-base,hc.2,by omega,?_⟩;have:=b6 (k-base) hc.2;rw[show base+(k-base)=k from by omega]at this;exact this
  ·exact .inr (e4 k (IX.2 ⟨T,hc⟩))
 have e8:∀k∈L.map (·.1),(∃i,i<ids.length/\k=base+i/\bi k=nth 0 ids i)\/(Ab aC (bi k)=none):=by
  intro k T;by_cases hc:base<=k/\k-base<ids.length
  ·refine .inl ⟨k-base,hc.2,by omega,?_⟩;have:=e6 (k-base) hc.2;rw[show base+(k-base)=k from by omega]at this;exact this
  ·exact .inr (e5 k (IX.2 ⟨T,hc⟩))
 have e9:∀n b,Ab aB n=some b->n∉keys->∀k∈I.map (·.1),n≠bk k:=by
  rintro n b S D k T rfl;rcases e7 k T with⟨i,hi,_,e⟩|e
  ·exact D (by rw[e];exact Fc hi)
  ·rw[S]at e;cases e
 have f0:∀n b,Ab aC n=some b->n∉ids->∀k∈L.map (·.1),n≠bi k:=by
  rintro n b S D k T rfl;rcases e8 k T with⟨i,hi,_,e⟩|e
  ·exact D (by rw[e];exact Fc hi)
  ·rw[S]at e;cases e
 have Y:∀k,(∃b,Ab I k=some b)->(Dl ρ ρ2 I L bk bi).bx (bk k)=ρ2.bx k:=λk T=>by
  simp only[Dl,Qby c6 (Kw.2 T)]
 have a3:∀k,(∃b,Ab L k=some b)->(Dl ρ ρ2 I L bk bi).rv (bi k)=ρ2.rv k/\(Dl ρ ρ2 I L bk bi).wd (bi k)=ρ2.wd k:=λk T=>by
  constructor<;>simp only[Dl,Qby c7 (Kw.2 T)]
 have a0:∀n,(∃b,Ab aB n=some b)->(Dl ρ ρ2 I L bk bi).bx n=ρ.bx n:=by
  rintro n ⟨b,S⟩;by_cases D:n∈keys
  ·obtain⟨p1,p2⟩:=C2 D;obtain⟨q1,q2⟩:=b5 _ p1;have:=Y (base+pos keys n) q1;rw[b6 _ p1,p2,q2,p2]at this;exact this
  ·simp only[Dl,Qar (e9 n b S D)]
 have a4:∀n,(∃b,Ab aC n=some b)->n∉ids->(Dl ρ ρ2 I L bk bi).rv n=ρ.rv n/\(Dl ρ ρ2 I L bk bi).wd n=ρ.wd n:=by
  rintro n ⟨b,S⟩ D;constructor<;>simp only[Dl,Qar (f0 n b S D)]
 have g1:=O.fr.size;have b7:∀n b,Ab aB n=some b->n∉keys->Ih w ρ keys ids (ρ.bx n):=λn b S D=>
  ⟨V.bxlt S,λk T e=>by obtain⟨b',a5⟩:=b3 k T;exact D (by rw[<-V.bi k n b' b a5 S e];exact T),λid hid=>by obtain⟨r,hr⟩:=b4 id hid;exact V.br n b id r S hr⟩
 have b8:∀n r g,Ab aC n=some r->n∉ids->(ρ.rv n).ownBlock=some g->Ih w ρ keys ids g:=λn r g S D hg=>
  ⟨(V.rwlt S hg).2,λk T e=>by obtain⟨b',a5⟩:=b3 k T;exact V.br k b' n r a5 S (by rw[hg,e]),λid hid e=>by obtain⟨r',c9⟩:=b4 id hid;exact D (by rw[<-V.ri id n r' r g c9 S e hg];exact hid)⟩
 have f1:∀b,ρ.im b->Ih w ρ keys ids b:=λb hb=>
  ⟨(V.ib b hb).1,λk T=>by obtain⟨b',a5⟩:=b3 k T;exact(V.ib b hb).2.1 k b' a5,λid hid=>by obtain⟨r,hr⟩:=b4 id hid;exact(V.ib b hb).2.2 id r hr⟩
 have fz:∀b,Z.F b->Ih w ρ keys ids b:=λb hb=>
  ⟨V.fs b hb,λk T e=>by obtain⟨b',a5⟩:=b3 k T;obtain⟨_,_,_,q⟩:=V.bx k b' a5;exact q (e▸hb),λid hid e=>by obtain⟨r,hr⟩:=b4 id hid;exact(V.rwlt hr e).1 hb⟩
 have hold:∀b,Ih w ρ keys ids b->w'.heap[b]? =w.heap[b]? :=λb hb=>O.fr.block b hb;have d0:∀b,ρ.im b->ρ2.im b:=λb hb=>O.i0 b hb;have b9:∀b,ρ2.im b->ρ.im b\/ ¬Ih w ρ keys ids b:=λb hb=>O.i1 b hb
 have g2:∀k∈I.map (·.1),Ab ((CU keys aB).map λp=>(p.1,CZ ids p.2)) (bk k)=none:=by
  intro k T;rw[E_ (CZ ids),KC];rcases e7 k T with⟨i,hi,_,e⟩|e
  ·rw[ab (by rw[e];exact Fc hi)];rfl
  ·split
   ·rfl
   ·rw[e];rfl
 have g3:∀k∈L.map (·.1),Ab (CU ids aC) (bi k)=none:=by
  intro k T;rw[KC];rcases e8 k T with⟨i,hi,_,e⟩|e
  ·rw[ab (by rw[e];exact Fc hi)]
  ·split
   ·rfl
   ·exact e
 obtain⟨c0,d1⟩:=SK (rk:=bk) (g:=λb:Box=>(⟨b.ty,b.cells.map (AC.ren bk bi)⟩:Box)) a5 c6 g2;obtain⟨c4,d2⟩:=SK (rk:=bi) (g:=λb:Row=>b) c9 c7 g3;rw[Xa,Qr9];generalize hB:HL bk (λb:Box=>(⟨b.ty,b.cells.map (AC.ren bk bi)⟩:Box)) I ((CU keys aB).map λp=>(p.1,CZ ids p.2))=B' at c0 d1⊢;generalize g6:HL bi (λb:Row=>b) L (CU ids aC)=R' at c4 d2⊢;have X:∀n b,Ab B' n=some b->(∃k N,Ab I k=some N/\n=bk k/\b=⟨N.ty,N.cells.map (AC.ren bk bi)⟩)\/(n∉keys/\∃N,Ab aB n=some N/\b=CZ ids N):=by
  intro n b S;by_cases hc:∃k∈I.map (·.1),n=bk k
  ·obtain⟨k,T,rfl⟩:=hc;obtain⟨N,c1⟩:=Kw.1 T;have:=c0 k N c1;rw[S]at this;simp at this;exact .inl ⟨k,N,c1,rfl,this⟩
  ·rw[d1 n (λk T e=>hc ⟨k,T,e⟩),E_ (CZ ids),KC]at S;split at S
   ·simp at S
   ·rename_i D;simp only[bh]at S;obtain⟨N,G,h2⟩:=S;exact .inr ⟨D,N,G,h2.symm⟩
 have a1:∀n r,Ab R' n=some r->(∃k,Ab L k=some r/\n=bi k)\/(n∉ids/\Ab aC n=some r):=by
  intro n r S;by_cases hc:∃k∈L.map (·.1),n=bi k
  ·obtain⟨k,T,rfl⟩:=hc;obtain⟨N,c1⟩:=Kw.1 T;have:=c4 k N c1;rw[S]at this;simp at this;subst this;exact .inl ⟨k,c1,rfl⟩
  ·rw[d2 n (λk T e=>hc ⟨k,T,e⟩),KC]at S;split at S
   ·simp at S
   ·rename_i D;exact .inr ⟨D,S⟩
 have a6:∀n b,Ab aB n=some b->∃b',Ab B' n=some b':=by
  intro n b S;by_cases D:n∈keys
  ·obtain⟨p1,p2⟩:=C2 D;obtain⟨⟨bo,q1⟩,_⟩:=b5 _ p1;have:=c0 _ bo q1;rw[b6 _ p1,p2]at this;exact⟨_,this⟩
  ·rw[d1 n (e9 n b S D),E_ (CZ ids),KC,aa D,S];exact⟨_,rfl⟩
 have c8:∀n r,Ab aC n=some r->n∉ids->Ab R' n=some r:=by
  intro n r S D;rw[d2 n (f0 n r S D),KC,aa D,S]
 let Q:AC->Prop:=λa=>AC.wf aB aC a/\∀id∈ids,AC.free id a
 have c5:∀a,Q a->a.agree ρ (Dl ρ ρ2 I L bk bi):=by
  rintro a ⟨U,hf⟩;have hp:∀l:List AC,(∀a∈l,AC.wfP aB a)->∀a∈l,a.agreeP ρ (Dl ρ ρ2 I L bk bi):=by
   intro l hl c hc;have:=hl c hc;cases c<;>first|exact a0 _ this|trivial
  cases a with
  |ptr k o=>exact a0 k U
  |bsl k o=>exact a0 k U
  |own id _ _=>obtain⟨r,G,_⟩:=U;exact a4 id ⟨r,G⟩ (λhm=>hf id hm rfl)
  |rptr id _ _=>obtain⟨r,G,_⟩:=U;exact a4 id ⟨r,G⟩ (λhm=>hf id hm rfl)
  |clo f fs cs=>exact⟨hp fs U.1,hp cs U.2⟩
  |_=>trivial
 have f2:∀(a:AC) (y:Value),Q a->CC ρ w a y->CC (Dl ρ ρ2 I L bk bi) w' a y:=λa y hq hy=>CC.mono (ρ':=Dl ρ ρ2 I L bk bi) d0 (λb hb=>hold b (f1 b hb)) a y (c5 a hq) hy;have c2:∀a,Q a->AC.wf B' R' a:=by
  rintro a ⟨U,hf⟩;cases a with
  |ptr k o=>obtain⟨b,hb⟩:=U;exact a6 k b hb
  |bsl k o=>obtain⟨b,hb⟩:=U;exact a6 k b hb
  |own id _ _=>obtain⟨r,G,h2⟩:=U;exact⟨r,c8 id r G (λhm=>hf id hm rfl),h2⟩
  |rptr id _ _=>obtain⟨r,G,h2⟩:=U;exact⟨r,c8 id r G (λhm=>hf id hm rfl),h2⟩
  |vptr=>exact U
  |clo f fs cs=>exact⟨λc hc=>AC.wfP_mono a6 (U.1 c hc),λc hc=>AC.wfP_mono a6 (U.2 c hc)⟩
  |_=>trivial
 have d3:∀a,AC.wf I L a->AC.wf B' R' (a.ren bk bi):=λa U=>
  Sh (Kp:=λk=>∃b,Ab I k=some b) (Ip:=λi=>∃r,Ab L i=some r) (λk _ ⟨b,hb⟩=>⟨_,c0 k b hb⟩) (λi r _ hr=>⟨r,c4 i r hr,rfl,rfl⟩) (AC.nm_of_wf U) U
 have g4:∀v∈tm.map (Hy ids),TV.wf aB aC v/\∀id∈ids,TV.free id v:=by
  intro v hv;simp only[av]at hv;obtain⟨u,hu,rfl⟩:=hv;exact⟨Q9i ids (V.wt u hu),λid hid=>Q7d ids u id hid⟩
 have f3:∀v∈tm.map (Hy ids),(match v with| .v _ cs=>∀a∈cs,Q a| .tup ps=>∀p∈ps,∀a∈p.2,Q a| .vD=>True):=by
  intro v hv;obtain⟨G,h2⟩:=g4 v hv;cases v with
  |vD=>trivial
  |v g cs=>exact λa U=>⟨G a U,λid hid=>h2 id hid a U⟩
  |tup ps=>exact λp hp a U=>⟨G p hp a U,λid hid=>h2 id hid p hp a U⟩
 have qB:∀n N,Ab aB n=some N->∀a∈(CZ ids N).cells,Q a:=λn N S a U=>⟨Q6x ids (V.wb n N S) a U,λid hid=>Q00 ids N id hid a U⟩;have c3:TV.wf I L v:=O.wt v (by simp);refine⟨⟨by simpa using V.tl,λi v hi=> ?_,λv hv=> ?_,λn b S a U=> ?_,λn b S=> ?_,λn n' b b' S d4 he=> ?_,λn r S=> ?_,λn n' r r' g S d4 hg a7=> ?_,λn b m r S hm=> ?_,λb hb=>⟨(O.ib b hb).1,λn bo S=> ?_,λn r S=> ?_⟩,?_,?_,λb hb=>d0 b (V.i0 b hb),λb hb=> ?_,λk b T=> ?_⟩,?_,?_⟩
 ·have hv:=bj hi;simp only[d8,bh]at hi;obtain⟨u,hu,rfl⟩:=hi;exact TVR.mono2 f2 (f3 _ hv) (Za0 ids (V.tv i u hu))
 ·have:=f3 v hv;cases v with
  |vD=>trivial
  |v g cs=>exact λa U=>c2 a (this a U)
  |tup ps=>exact λp hp a U=>c2 a (this p hp a U)
 ·rcases X n b S with⟨k,N,G,rfl,rfl⟩|⟨D,N,G,rfl⟩
  ·simp only[av]at U;obtain⟨c,hc,rfl⟩:=U;exact d3 c (O.wb k N G c hc)
  ·exact c2 a (qB n N G a U)
 ·rcases X n b S with⟨k,N,G,rfl,rfl⟩|⟨D,N,G,rfl⟩
  ·obtain⟨arr,q1,q2,q3⟩:=O.bx k N G;refine⟨arr,by rw[Y k ⟨N,G⟩];exact q1,Qa (Kp:=λk=>∃b,Ab I k=some b) (Ip:=λi=>∃r,Ab L i=some r) Y a3 rfl (λc hc=>AC.nm_of_wf (O.wb k N G c hc)) q2,?_⟩;rw[Y k ⟨N,G⟩];exact λhf=>q3 (fz _ hf)
  ·obtain⟨arr,q1,q2,q3⟩:=V.bx n N G;rw[a0 n ⟨N,G⟩];refine⟨arr,by rw[hold _ (b7 n N G D),Q3y];exact q1,?_,q3⟩;exact(Q7g ids q2).mono λa U y hy=>f2 a y (qB n N G a U) hy
 ·rcases X n b S with⟨k,N,G,rfl,_⟩|⟨D,N,G,_⟩<;>rcases X n' b' d4 with⟨k',a9,M,rfl,_⟩|⟨a8,a9,M,_⟩
  ·rw[Y k ⟨N,G⟩,Y k' ⟨a9,M⟩]at he;rw[O.bi k k' _ _ G M he]
  ·rw[Y k ⟨N,G⟩,a0 n' ⟨a9,M⟩]at he;obtain⟨_,_,_,q3⟩:=O.bx k N G;exact absurd (he▸b7 n' a9 M a8) q3
  ·rw[a0 n ⟨N,G⟩,Y k' ⟨a9,M⟩]at he;obtain⟨_,_,_,q3⟩:=O.bx k' a9 M;exact absurd (he▸b7 n N G D) q3
  ·rw[a0 n ⟨N,G⟩,a0 n' ⟨a9,M⟩]at he;exact V.bi n n' _ _ G M he
 ·rcases a1 n r S with⟨k,G,rfl⟩|⟨D,G⟩
  ·obtain⟨q1,q2,q0,ys,q3,q4⟩:=O.ro k r G;obtain⟨e1,e2⟩:=a3 k ⟨r,G⟩;rw[e1,e2];exact⟨q1,q2,λg hg hf=>q0 g hg (fz g hf),ys,q3,q4⟩
  ·obtain⟨q1,q2,q0,ys,q3,q4⟩:=V.ro n r G;obtain⟨e1,e2⟩:=a4 n ⟨r,G⟩ D;rw[e1,e2];exact⟨q1,q2,q0,ys,Mh q3 λg hg=>hold g (b8 n r g G D hg),q4.mono d0 (λb hb=>hold b (f1 b hb))⟩
 ·rcases a1 n r S with⟨k,G,rfl⟩|⟨D,G⟩<;>rcases a1 n' r' d4 with⟨k',M,rfl⟩|⟨a8,M⟩
  ·rw[(a3 k ⟨r,G⟩).1]at hg;rw[(a3 k' ⟨r',M⟩).1]at a7;rw[O.ri k k' _ _ g G M hg a7]
  ·rw[(a3 k ⟨r,G⟩).1]at hg;rw[(a4 n' ⟨r',M⟩ a8).1]at a7;obtain⟨_,_,q0,_⟩:=O.ro k r G;exact absurd (b8 n' r' g M a8 a7) (q0 g hg)
  ·rw[(a4 n ⟨r,G⟩ D).1]at hg;rw[(a3 k' ⟨r',M⟩).1]at a7;obtain⟨_,_,q0,_⟩:=O.ro k' r' M;exact absurd (b8 n r g G D hg) (q0 g a7)
  ·rw[(a4 n ⟨r,G⟩ D).1]at hg;rw[(a4 n' ⟨r',M⟩ a8).1]at a7;exact V.ri n n' _ _ g G M hg a7
 ·rcases X n b S with⟨k,N,G,rfl,_⟩|⟨D,N,G,_⟩<;>rcases a1 m r hm with⟨k',M,rfl⟩|⟨d5,M⟩
  ·rw[Y k ⟨N,G⟩,(a3 k' ⟨r,M⟩).1];exact O.br k N k' r G M
  ·rw[Y k ⟨N,G⟩,(a4 m ⟨r,M⟩ d5).1];intro e;obtain⟨_,_,_,q3⟩:=O.bx k N G;exact q3 (b8 m r _ M d5 e)
  ·rw[a0 n ⟨N,G⟩,(a3 k' ⟨r,M⟩).1];intro e;obtain⟨_,_,q0,_⟩:=O.ro k' r M;exact q0 _ e (b7 n N G D)
  ·rw[a0 n ⟨N,G⟩,(a4 m ⟨r,M⟩ d5).1];exact V.br n N m r G M
 ·rcases X n bo S with⟨k,N,G,rfl,_⟩|⟨D,N,G,_⟩
  ·rw[Y k ⟨N,G⟩];exact(O.ib b hb).2.1 k N G
  ·rw[a0 n ⟨N,G⟩];rcases b9 b hb with a2|a2
   ·exact(V.ib b a2).2.1 n N G
   ·exact λe=>a2 (e▸b7 n N G D)
 ·rcases a1 n r S with⟨k,G,rfl⟩|⟨D,G⟩
  ·rw[(a3 k ⟨r,G⟩).1];exact(O.ib b hb).2.2 k r G
  ·rw[(a4 n ⟨r,G⟩ D).1];rcases b9 b hb with a2|a2
   ·exact(V.ib b a2).2.2 n r G
   ·exact λe=>a2 (b8 n r b G D e)
 ·exact V.fr.trans ⟨O.fr.os,O.fr.tape,O.fr.output,O.fr.size,λk T=>hold k (fz k T)⟩
 ·exact λk T=>de (V.fs k T) g1
 ·rcases b9 b hb with a2|a2
  ·exact V.i1 b a2
  ·exact .inr λhf=>a2 (fz b hf)
 ·obtain⟨q1,bo,q2⟩:=V.k0 k b T;exact⟨by rw[a0 k ⟨bo,q2⟩];exact q1,a6 k bo q2⟩
 ·have g5:TVR ρ2 w' v x:=by simpa using O.tv 0 v rfl
  exact Q9s (Kp:=λk=>∃b,Ab I k=some b) (Ip:=λi=>∃r,Ab L i=some r) Y a3 rfl (TV.nm_of_wf c3) g5
 ·exact Qy3 (Kp:=λk=>∃b,Ab I k=some b) (Ip:=λi=>∃r,Ab L i=some r) (λk _ ⟨b,hb⟩=>⟨_,c0 k b hb⟩) (λi r _ hr=>⟨r,c4 i r hr,rfl,rfl⟩) (TV.nm_of_wf c3) c3
theorem Qir {α:Type} {l:List (Nat×α)} {k:Nat} (h:HN l k=true):Ab l k=none:=by
 unfold HN at h;split at h
 ·cases h
 ·assumption
theorem Zbr {α:Type} {c:Bool} {p:Option α} {q:α} (h:cond c p none=some q):c=true/\p=some q:=by cases c<;>simp at h;exact⟨rfl,h⟩
theorem Za6 {α:Type}:∀{l:List (Nat×α)} {k:Nat} {x y:α},Ab l k=some y->∀n,Ab (upd l k x) n=if n=k then some x else Ab l n
 |[],_,_,_,h,_=>by simp[Ab]at h
 |(j,c)::l,k,x,y,h,n=>by
  simp only[Ab,upd]at h⊢;cases G:Nat.beq j k
  ·rw[G]at h;simp only[aq,Ab]at h⊢;rw[Za6 h n];have I:j≠k:=λe=>by rw[e]at G;simp at G
   cases D:Nat.beq j n
   ·rfl
   ·have:=ac D;subst this;simp[I]
  ·have:=ac G;subst this;simp only[ag,Ab];cases D:Nat.beq j n
   ·have L:n≠j:=λe=>by rw[e]at D;simp at D
    rw[aa L];rfl
   ·rw[ab (ac D).symm];rfl
theorem Qwn {id n':Nat} (a:AC):(∃w n,a= .own id w n/\a.relen id n'= .own id w n')\/a.relen id n'=a.kill id:=by
 cases a with
 |own j w n=>
  cases hb:Nat.beq j id
  ·right;simp only[AC.relen,AC.kill,hb,aq]
  ·left;have:=ac hb;subst this;exact⟨w,n,rfl,by simp only[AC.relen,hb,ag]⟩
 |rptr j p q=>right;rfl
 |_=>right;rfl
theorem Us {R G I:AC->Value->Prop} {id L:Nat} (h:∀a x,G a x->I (a.kill id) x->R (a.relen id L) x):∀{cs:List AC} {xs:List Value},CL G cs xs->CL I (cs.map (AC.kill id)) xs->CL R (cs.map (AC.relen id L)) xs
 |[],[],_,_=>trivial
 |a::cs,x::xs,D,M=>⟨h a x D.1 M.1,Us h D.2 M.2⟩
 |[],_::_,D,_=>D.elim
 |_::_,[],D,_=>D.elim
theorem Qsc {keys ids:List Nat} {v:TV} (h:v.plainB=true):TV.inK keys ids v=true:=by
 cases v with
 |vD=>rfl
 |v g cs=>
  simp only[TV.plainB,TV.inK]at h⊢;rw[Au]at h⊢;intro a D;have:=h a D;cases a<;>simp[AC.plain]at this<;>rfl
 |tup ps=>
  simp only[TV.plainB,TV.inK]at h⊢;rw[Au]at h⊢;intro p G;have:=h p G;rw[Au]at this⊢;intro a D;have:=this a D;cases a<;>simp[AC.plain]at this<;>rfl
theorem Znd {D ri:Nat->Nat} {a:AC} (h:a.calm=true):a.ren D ri=a:=by cases a<;>simp[AC.calm]at h<;>rfl
theorem Q5 {D ri:Nat->Nat}:∀{l:List AC},Ak AC.calm l=true->l.map (AC.ren D ri)=l
 |[],_=>rfl
 |a::l,h=>by
  rw[Au]at h;simp only[ba];rw[Znd (h a (by simp)),Q5 (Au.2 λx G=>h x (by simp[G]))]
theorem Qsw {a:AC} (h:a.plain=true):a.calm=true:=by cases a<;>simp[AC.plain]at h<;>rfl
theorem US {G ri:Nat->Nat} {v:TV} (h:v.plainB=true):v.ren G ri=v:=by
 cases v with
 |vD=>rfl
 |v g cs=>
  simp only[TV.plainB,Au]at h;simp only[TV.ren];rw[Q5 (Au.2 λa D=>Qsw (h a D))]
 |tup ps=>
  simp only[TV.plainB,Au]at h;simp only[TV.ren];congr 1
  conv=>rhs;rw[<-List.map_id ps]
  apply List.map_congr_left;intro p I;rw[Q5 (Au.2 λa D=>Qsw (h p I a D))];rfl
theorem Z8l (a3:Ai P C) (hR:RelE Z tm aB aC ρ tmps w) {o:Oper} {a:Act} {f:FuncId} {args:List TV} {xs:List Value} (h1:xs.length=args.length)
  (h2:∀(i:Nat) (a:TV) (x:Value),args[i]? =some a->xs[i]? =some x->TVR ρ w a x) (h3:execOp a.eval o=callFunc f xs.toArray) (d2:∀v∈args,TV.wf aB aC v) {K:TV->St->Option R} {r:R} {g:Spec} (hg:C.spec f=some g) (d3:C.keepR f=true)
  (h:Ru g args tm aB aC K=some r) {next:Act->World->Prop} {Q:Exit->Act->World->Prop}
  (b3:∀(v:TV) (b7:List TV) (L:List (Nat×Box)) (S:List (Nat×Row)) (ρ':Env) (x:Value) (w':World),K v ⟨b7,L,S⟩=some r->RelE Z b7 L S ρ' tmps w'->TVR ρ' w' v x->TV.wf L S v->next (a.put o.dst x) w'):
  o.wp P a w next Q:=by
 unfold Ru at h;split at h
 ·rename_i id hid;split at h
  ·rename_i r0 a4;have b8:∀v∈args,TV.inK [] [id] v=true:=by
    unfold Qcj at hid;split at hid
    ·rename_i id' w0 n0 rest;cases hp:Ak TV.plainB rest<;>rw[hp]at hid
     ·simp at hid
     ·simp only[ag,am]at hid;subst hid;intro v hv;rcases ax.1 hv with rfl|hv
      ·simp[TV.inK,Ak,AC.inK,AH]
      ·exact Qsc (Au.1 hp v hv)
    ·simp at hid
   obtain⟨v,⟨f0,f1⟩,hv,d4⟩:=(a3.1 f g hg).run2 h;have b9:EX aC base [id]=some [(base,r0)]:=by simp[EX,a4]
   have c0:=UW hR h1 h2 d2 ia (by simp) (keys:=[]) (ids:=[id]) b8 (λk D=>by simp at D) (show C0 aB _ _ base []=some []from rfl) b9;refine LJ h3 ((a3.2.2 f g hg d3 _ _ _ _ d4 _ xs c0).mono ?_);rintro e w' ⟨x,ρ2,he,c5,d5⟩;refine⟨x,he,?_⟩;split at hv
   ·rename_i k r' heq;simp only[Mem.mk.injEq]at heq;obtain⟨rfl,rfl⟩:=heq;obtain⟨hc,c6⟩:=Zbr hv;simp only[ai]at hc;obtain⟨⟨⟨c1,c2⟩,c3⟩,c4⟩:=hc;have ek:=ac c1;subst ek;have et:=ac c2;have e3:=Iy c3;simp only[AW]at c6;obtain⟨e1,e2,-⟩:=Se hR ia (by simp) (show C0 aB _ _ base []=some []from rfl) b9 c5 (d:=o.dst.getD 0) (by simp) (by simp) (λk D=>by simp[A2]at D) (λk D=>by rw[show A2 [id] [(base,r')]=[]from rfl]at D;simp at D)
    have f2:A2 [id] [(base,r')]=[]:=rfl;have b4:Bs [id] (A2 [id] [(base,r')]) (o.dst.getD 0) base=id:=rfl;generalize f3:Bs ([]:List Nat) (A2 ([]:List Nat) ([]:List (Nat×Box))) (o.dst.getD 0)=bk at e1 e2;generalize e8:Bs [id] (A2 [id] [(base,r')]) (o.dst.getD 0)=bi at e1 e2 b4;have a8:∀n,Ab (Jn bk bi ([]:List (Nat×Box)) ((CU [] aB).map λp=>(p.1,CZ [id] p.2))) n=(Ab aB n).map (Box.kill id):=λn=>E_ (CZ [id]) aB n;have a9:∀n,Ab (HX bi [(base,r')] (CU [id] aC)) n=if n=id then some r' else Ab aC n:=by
     intro n;show Ab (ins (del id aC) (bi base) r') n=_;rw[b4];by_cases U:n=id
     ·subst U;rw[ab rfl];exact Ed _ _ _ (QH _ _)
     ·rw[aa U,Dg _ _ _ _ U,J8 _ _ _ U]
    have b5:∀n,Ab (aB.map λp=>(p.1,p.2.relen id r'.l.length)) n=(Ab aB n).map (Box.relen id r'.l.length):=λn=>E_ (Box.relen id r'.l.length) aB n;have b6:∀n,Ab (upd aC id r') n=if n=id then some r' else Ab aC n:=Za6 a4;generalize Jn bk bi ([]:List (Nat×Box)) ((CU [] aB).map λp=>(p.1,CZ [id] p.2))=B1 at e1 a8;generalize HX bi [(base,r')] (CU [id] aC)=R1 at e1 a9;have hinv:JU [(base,r')] bi id=some base:=by rw[<-b4];exact Qby (λa ha b hb _=>by simp at ha hb;rw[ha,hb]) (by simp)
    have a5:(Dl ρ ρ2 [] [(base,r')] bk bi).rv id=ρ.rv id:=by
     simp only[Dl,hinv];rw[d5];show ρ.rv (nth 0 [id] (base-base))=_;rw[iw];rfl
    have V:∀k,(Dl ρ ρ2 [] [(base,r')] bk bi).bx k=ρ.bx k:=λk=>by simp only[Dl,Qar (m:=([]:List (Nat×Box))) (bk:=bk) (n:=k) (by simp)]
    generalize Dl ρ ρ2 [] [(base,r')] bk bi=ρB at e1 e2 a5 V;have b1:=e1.ro id r' (by rw[a9,ab rfl]);have c7:=hR.ro id r0 a4;have c8:r'.w=r0.w:=by show r'.ks.length=r0.ks.length;rw[e3]
    have G:∀(a:AC) (y:Value),CC ρ w a y->CC ρB w' (a.kill id) y->CC ρB w' (a.relen id r'.l.length) y:=by
     intro a y M I;rcases Qwn (id:=id) (n':=r'.l.length) a with⟨w1,n1,rfl,e⟩|e
     ·rw[e];obtain⟨s1,s2,_⟩:=M;refine⟨s1.trans a5.symm,by rw[b1.2.1,c8,<-c7.2.1];exact s2,?_⟩;obtain⟨_,_,_,ys,⟨_,o2⟩,_⟩:=b1;rw[a5,<-s1]at o2;rcases o2 with⟨o3,o4⟩|⟨g',o',cap,cur,o3,_⟩
      ·exact .inl ⟨o3,o4⟩
      ·exact .inr ⟨g',o',cap,o3⟩
     ·rw[e];exact I
    have a6:∀a:AC,AC.wf aB aC a->AC.wf B1 R1 (a.kill id)->AC.wf (aB.map λp=>(p.1,p.2.relen id r'.l.length)) (upd aC id r') (a.relen id r'.l.length):=by
     intro a M I;rcases Qwn (id:=id) (n':=r'.l.length) a with⟨w1,n1,rfl,e⟩|e
     ·rw[e];obtain⟨r2,s1,s2,s3⟩:=M;rw[a4]at s1;simp only[am]at s1;subst s1;exact⟨r',by rw[b6,ab rfl],rfl,c8.trans s3⟩
     ·rw[e];refine AC.wf_mono (λk b D=> ?_) (λk r D=>⟨r,by rw[b6,<-a9];exact D,rfl,rfl⟩) I;rw[a8]at D;rw[b5];cases Y:Ab aB k with
      |none=>rw[Y]at D;simp at D
      |some T=>exact⟨_,rfl⟩
    have X:∀k b,Ab (aB.map λp=>(p.1,p.2.relen id r'.l.length)) k=some b->∃T,Ab aB k=some T/\b=T.relen id r'.l.length/\Ab B1 k=some (T.kill id):=by
     intro k b D;rw[b5]at D;cases Y:Ab aB k with
     |none=>rw[Y]at D;simp at D
     |some T=>
      rw[Y]at D;simp only[f9,am]at D;exact⟨T,rfl,D.symm,by rw[a8,Y];rfl⟩
    have a7:∀n r,Ab (upd aC id r') n=some r->Ab R1 n=some r:=λn r U=>by rw[a9,<-b6];exact U
    have e4:∀(ps:List (Bool×List AC)) (ys:List Value),TP ρ w ps ys->TP ρB w' (ps.map λp=>(p.1,p.2.map (AC.kill id))) ys->TP ρB w' (ps.map λp=>(p.1,p.2.map (AC.relen id r'.l.length))) ys:=by
     intro ps;induction ps with
     |nil=>intro ys M I;cases ys<;>exact I
     |cons p ps ih=>
      intro ys M I;obtain⟨gg,cs⟩:=p;cases ys with
      |nil=>exact M.elim
      |cons y ys=>
       refine⟨?_,ih ys M.2 I.2⟩;have z1:=M.1;have z2:=I.1;cases gg
       ·obtain⟨a1,t1,t2⟩:=z1;obtain⟨a2,N,t4⟩:=z2;subst t1;simp only[ba,dp,d7,jd]at N;subst N;exact⟨_,rfl,G a1 y t2 t4⟩
       ·obtain⟨y1,t1,t2⟩:=z1;obtain⟨y2,N,t4⟩:=z2;rw[t1]at N;simp only[Value.agg.injEq]at N;subst N;exact⟨y1,t1,Us G t2 t4⟩
    refine b3 v _ _ _ ρB x w' c6 ⟨by simpa using hR.tl,λi u hi=> ?_,λu hu=> ?_,λk b D a ha=> ?_,λk b D=> ?_,λk k' b b' D e5 he=> ?_,λn r U=>e1.ro n r (a7 n r U),λn n' r r2 g2 U e6=>e1.ri n n' r r2 g2 (a7 n r U) (a7 n' r2 e6),
     λk b n r D U=> ?_,λb hb=> ?_,e1.fr,e1.fs,e1.i0,e1.i1,λk b D=> ?_⟩ (by rw[US c4]at e2;exact e2) (I3 c4)
    ·rw[d8]at hi;cases Y:tm[i]? with
     |none=>rw[Y]at hi;simp at hi
     |some u0=>
      rw[Y]at hi;simp only[f9,am]at hi;subst hi;have z1:=hR.tv i u0 Y;have z2:=e1.tv i (u0.kill id) (by rw[d8,Y];rfl);cases u0 with
      |vD=>trivial
      |v gg cs=>
       cases gg
       ·obtain⟨a1,t1,t2⟩:=z1;obtain⟨a2,N,t4⟩:=z2;subst t1;simp only[ba,dp,d7,jd]at N;subst N;exact⟨_,rfl,G a1 _ t2 t4⟩
       ·obtain⟨y1,t1,t2⟩:=z1;obtain⟨y2,N,t4⟩:=z2;rw[t1]at N;simp only[Value.agg.injEq]at N;subst N;exact⟨y1,t1,Us G t2 t4⟩
      |tup ps=>
       obtain⟨y1,t1,t2⟩:=z1;obtain⟨y2,N,t4⟩:=z2;rw[t1]at N;simp only[Value.tuple.injEq]at N;subst N;exact⟨y1,t1,e4 ps _ t2 t4⟩
    ·rw[av]at hu;obtain⟨u0,c9,rfl⟩:=hu;have z1:=hR.wt u0 c9;have z2:=e1.wt (u0.kill id) (av.2 ⟨u0,c9,rfl⟩);cases u0 with
     |vD=>trivial
     |v gg cs=>
      intro a ha;obtain⟨a0,O,rfl⟩:=av.1 ha;exact a6 a0 (z1 a0 O) (z2 _ (av.2 ⟨a0,O,rfl⟩))
     |tup ps=>
      intro p hp a ha;obtain⟨p0,d0,rfl⟩:=av.1 hp;obtain⟨a0,O,rfl⟩:=av.1 ha;exact a6 a0 (z1 p0 d0 a0 O) (z2 _ (av.2 ⟨p0,d0,rfl⟩) _ (av.2 ⟨a0,O,rfl⟩))
    ·obtain⟨T,M,rfl,I⟩:=X k b D;obtain⟨a0,O,rfl⟩:=av.1 ha;exact a6 a0 (hR.wb k T M a0 O) (e1.wb k _ I _ (av.2 ⟨a0,O,rfl⟩))
    ·obtain⟨T,M,rfl,I⟩:=X k b D;obtain⟨d1,s1,s2,s3⟩:=hR.bx k T M;obtain⟨e9,s4,s5,s6⟩:=e1.bx k _ I;have b2:w'.heap[ρ.bx k]? =w.heap[ρ.bx k]? :=c5.fr.block (ρ.bx k) ⟨(bt.1 s1).1,λj hj=>by simp at hj,λj hj=>by
      simp only[du]at hj;subst hj;exact hR.br k T j r0 M a4⟩
     rw[V,b2,s1]at s4;simp only[am,Obj.cells.injEq]at s4;obtain⟨rfl,_⟩:=s4;exact⟨d1,by rw[V,b2];exact s1,Us G s2 s5,by rw[V];exact s3⟩
    ·obtain⟨T,M,rfl,I⟩:=X k b D;obtain⟨f4,f5,rfl,e7⟩:=X k' b' e5;exact e1.bi k k' _ _ I e7 he
    ·obtain⟨T,M,rfl,I⟩:=X k b D;exact e1.br k _ n r I (a7 n r U)
    ·obtain⟨M,I,q3⟩:=e1.ib b hb;exact⟨M,λk bo D=>by obtain⟨T,_,_,s2⟩:=X k bo D;exact I k _ s2,λn r U=>q3 n r (a7 n r U)⟩
    ·obtain⟨M,bo,I⟩:=e1.k0 k b D;rw[a8]at I;rw[b5];cases Y:Ab aB k with
     |none=>rw[Y]at I;simp at I
     |some T=>exact⟨M,_,rfl⟩
   ·simp at hv
  ·simp at h
 ·simp at h
theorem Zob (I:Ai P C) (hR:RelE Z tm aB aC ρ tmps w) {o:Oper} {a:Act} {f:FuncId} {args:List TV} {xs:List Value} (h1:xs.length=args.length)
  (h2:∀(i:Nat) (a:TV) (x:Value),args[i]? =some a->xs[i]? =some x->TVR ρ w a x) (h3:execOp a.eval o=callFunc f xs.toArray) (V:∀v∈args,TV.wf aB aC v) {K:TV->St->Option R} {r:R}
  (h:A0 C o.dst (.callM f args) ⟨tm,aB,aC⟩ K=some r) {next:Act->World->Prop} {Q:Exit->Act->World->Prop}
  (L:∀(v:TV) (X:List TV) (D:List (Nat×Box)) (G:List (Nat×Row)) (ρ':Env) (x:Value) (w':World),K v ⟨X,D,G⟩=some r->RelE Z X D G ρ' tmps w'->TVR ρ' w' v x->TV.wf D G v->next (a.put o.dst x) w'):
  o.wp P a w next Q:=by
 simp only[A0]at h;split at h
 ·rename_i g hg;have a4:=I.1 f g hg;cases Y:C.keepR f<;>rw[Y]at h
  case true=>
   simp only[ag]at h;exact Z8l I hR h1 h2 h3 V hg Y h L
  simp only[aq]at h;simp only[AW]at h;generalize S:Lc aB 4 (AV (cat AC.keys (cat TV.cellsOf args)) [])=keys at h;generalize hi:NA aB (cat TV.cellsOf args) keys=ids at h;clear S hi;cases hc:(Ak (TV.inK keys ids) args&&Ak (λk=>Ak (AC.inK keys ids) (Ei aB k)) keys&&BH keys&&BH ids)<;>rw[hc]at h
  ·simp at h
  ·simp only[ag]at h;simp only[ai]at hc;obtain⟨⟨⟨c1,c2⟩,c3⟩,c4⟩:=hc;split at h
   ·rename_i mb mr a0 a1;have a2:=Iu.1 c3;have O:=Iu.1 c4;obtain⟨v,⟨M,N⟩,T,a5⟩:=a4.run h;have a3:=UW hR h1 h2 V a2 O (λv T=>Au.1 c1 v T) (λk S=>Au.1 c2 k S) a0 a1;refine LJ h3 ((a5 _ xs a3).mono ?_);rintro e w' ⟨x,ρ2,he,a6⟩;dsimp only at T;cases U:(Ak (λp:Nat×Box=>DZ M p.1) mb&&BH (M.map (·.1))&&BH (N.map (·.1))&&Ak (λk=>HN aB (Bs keys (A2 keys M) (o.dst.getD 0) k)) (A2 keys M)&&Ak (λk=>HN aC (Bs ids (A2 ids N) (o.dst.getD 0) k)) (A2 ids N)&&Nat.ble (A2 keys M).length 100&&Nat.ble (A2 ids N).length 100)<;>rw[U]at T
    ·simp at T
    ·simp only[ag]at T;simp only[ai]at U;obtain⟨⟨⟨⟨⟨⟨_,d2⟩,d3⟩,d4⟩,d5⟩,_⟩,_⟩:=U;obtain⟨e1,e2,e3⟩:=Se hR a2 O a0 a1 a6 (d:=o.dst.getD 0) (Iu.1 d2) (Iu.1 d3) (λk S=>Qir (Au.1 d4 k S)) (λk S=>Qir (Au.1 d5 k S));exact⟨x,he,L _ _ _ _ _ x w' T e1 e2 e3⟩
   ·simp at h
 ·simp at h
theorem RelE.cong {D:List (Nat×Box)} (h:RelE Z tm aB aC ρ tmps w) (I:∀k,Ab D k=Ab aB k):RelE Z tm D aC ρ tmps w:=by
 have N:∀a,AC.wf aB aC a->AC.wf D aC a:=λa=>AC.wf_mono (λk b G=>⟨b,by rw[I];exact G⟩) (λk r G=>⟨r,G,rfl,rfl⟩);exact⟨h.tl,h.tv,λv O=>TV.wf_mono N (h.wt v O),λk b G a L=>N a (h.wb k b (by rw[<-I];exact G) a L),
  λk b G=>h.bx k b (by rw[<-I];exact G),λk k' b b' G M=>h.bi k k' b b' (by rw[<-I];exact G) (by rw[<-I];exact M),h.ro,h.ri,
  λk b id r G=>h.br k b id r (by rw[<-I];exact G),λb hb=>⟨(h.ib b hb).1,λk bo G=>(h.ib b hb).2.1 k bo (by rw[<-I];exact G),(h.ib b hb).2.2⟩,
  h.fr,h.fs,h.i0,h.i1,λk b G=>⟨(h.k0 k b G).1,by rw[I];exact(h.k0 k b G).2⟩⟩
theorem Q1p {keys:List Nat} (G:keys.Nodup):∀{m l:List (Nat×Box)},(m.map (·.1)).Nodup->(∀k∈m.map (·.1),base<=k/\k-base<keys.length)->(∀k∈keys,∃b,Ab l k=some b)->
  (∀k b,Ab m k=some b->Ab (Cr keys m l) (nth 0 keys (k-base))=some b)/\(∀n,(∀k∈m.map (·.1),n≠nth 0 keys (k-base))->Ab (Cr keys m l) n=Ab l n)
 |[],l,_,_,_=>⟨λk b h=>by simp[Ab]at h,λn _=>rfl⟩
 |(j,c)::m,l,L,M,S=>by
  simp only[ba,jp]at L;have T:=M j (by simp);have N:∀k∈m.map (·.1),nth 0 keys (j-base)≠nth 0 keys (k-base):=λk D e=>by
   have O:=M k (by simp at D⊢;exact .inr D);have X:=il (pos keys) e;rw[Id G T.2,Id G O.2]at X;have:k=j:=by omega
   subst this;exact L.1 D
  obtain⟨y,U⟩:=S _ (Fc T.2);obtain ⟨Y, V⟩ := Q1p G (m := m) (l := upd l (nth 0 keys (j - base)) c) L.2 (λk D => M k (by simp at D ⊢; exact .inr D)) (λk D => by
   by_cases e:k=nth 0 keys (j-base)
   ·subst e;exact⟨c,Eu _ _ _ _ U⟩
   ·rw[C_ _ _ _ _ e];exact S k D)
  refine⟨λk b D=> ?_,λn I=> ?_⟩
  ·simp only[Ab]at D;simp only[Cr];cases hb:Nat.beq j k<;>rw[hb]at D
   ·exact Y k b D
   ·have:=ac hb;subst this;simp at D;subst D;rw[V _ N];exact Eu _ _ _ _ U
  ·simp only[Cr];rw[V n (λk D=>I k (by simp at D⊢;exact .inr D))];exact C_ _ _ _ _ (I j (by simp))
theorem Tm {α:Type} {l:List (Nat×α)} {k:Nat} (h:DZ l k=true):∃b,Ab l k=some b:=by
 unfold DZ at h;split at h
 ·rename_i b hb;exact⟨b,hb⟩
 ·cases h
theorem Z17 {keys:List Nat} (O:keys.Nodup) {U D:List (Nat×Box)} (V:C0 aB (λk=>base+pos keys k) (λi=>base+pos [] i) base keys=some U)
  (h1:∀p∈U,DZ D p.1=true) (h2:∀p∈D,DZ U p.1=true) (h3:(D.map (·.1)).Nodup) (h4:∀p∈D,Ak AC.calm p.2.cells=true) (bi:Nat->Nat) (d:Nat) (k:Nat):
  Ab (Cr keys D aB) k=Ab (Jn (Bs keys [] d) bi D ((CU keys aB).map λp=>(p.1,CZ [] p.2))) k:=by
 obtain⟨b1,b2⟩:=J5 V;have G:∀k∈D.map (·.1),base<=k/\k-base<keys.length:=by
  intro k I;simp only[av]at I;obtain⟨p,X,rfl⟩:=I;obtain⟨b,hb⟩:=Tm (h2 p X);obtain⟨i,hi,e⟩:=b2 _ _ hb;omega
 have S:∀i,i<keys.length->∃b,Ab D (base+i)=some b:=by
  intro i hi;obtain⟨x,_,q⟩:=b1 i hi;exact Tm (h1 _ (Oh q))
 have Y:∀k∈keys,∃b,Ab aB k=some b:=λk I=>by
  obtain⟨x,q,_⟩:=b1 (pos keys k) (C2 I).1;rw[(C2 I).2]at q;exact⟨x,q⟩
 have L:∀k∈D.map (·.1),Bs keys [] d k=nth 0 keys (k-base):=λk I=>L4 (G k I);obtain⟨u1,u2⟩:=Q1p (l:=aB) O h3 G Y;have M:∀n,Ab ((CU keys aB).map λp=>(p.1,CZ [] p.2)) n=if n∈keys then none else Ab aB n:=by
  intro n;rw[E_,KC];split
  ·rfl
  ·cases Ab aB n<;>rfl
 have T:∀k∈D.map (·.1),∀j∈D.map (·.1),Bs keys [] d k=Bs keys [] d j->k=j:=by
  intro k I j N e;rw[L k I,L j N]at e;have e':=il (pos keys) e;rw[Id O (G k I).2,Id O (G j N).2]at e';have:=G k I;have:=G j N;omega
 rw[Xa];obtain ⟨v1, v2⟩ := SK (rk := Bs keys [] d) (g := λb : Box => (⟨b.ty, b.cells.map (AC.ren (Bs keys [] d) bi)⟩ : Box)) (m := D) (l := (CU keys aB).map λp => (p.1, CZ [] p.2)) h3 T (λk I => by
  rw[M,L k I,ab (Fc (G k I).2)])
 by_cases I:k∈keys
 ·obtain⟨X,hn⟩:=C2 I;obtain⟨b,hb⟩:=S _ X;have e1:=u1 _ b hb;have e2:=v1 _ b hb;rw[L _ (Kw.2 ⟨b,hb⟩)]at e2;rw[show base+pos keys k-base=pos keys k from by omega,hn]at e1 e2;rw[e1,e2];have:=h4 _ (Oh hb);rw[Q5 this]
 ·rw[u2 k (λj N e=>I (by rw[e];exact Fc (G j N).2)),v2 k (λj N e=>I (by rw[e,L j N];exact Fc (G j N).2)),M,aa I]
theorem Zh1 (O:Ai P C) (hR:RelE Z tm aB aC ρ tmps w) {o:Oper} {a:Act} {f:FuncId} {args:List TV} {xs:List Value} (h1:xs.length=args.length)
  (h2:∀(i:Nat) (a:TV) (x:Value),args[i]? =some a->xs[i]? =some x->TVR ρ w a x) (h3:execOp a.eval o=callFunc f xs.toArray) (a1:∀v∈args,TV.wf aB aC v) {K:TV->St->Option R} {r:R}
  (h:A0 C o.dst (.callD f args) ⟨tm,aB,aC⟩ K=some r) {next:Act->World->Prop} {Q:Exit->Act->World->Prop}
  (S:∀(v:TV) (V:List TV) (D:List (Nat×Box)) (G:List (Nat×Row)) (ρ':Env) (x:Value) (w':World),K v ⟨V,D,G⟩=some r->RelE Z V D G ρ' tmps w'->TVR ρ' w' v x->TV.wf D G v->next (a.put o.dst x) w'):
  o.wp P a w next Q:=by
 simp only[A0]at h;split at h
 ·rename_i g hg;have a2:=O.1 f g hg;simp only[AW]at h;generalize I:AV (cat AC.keys (cat TV.cellsOf args)) []=keys at h;clear I;cases hc:(Ak (TV.inK keys []) args&&Ak (λk=>Ak AC.calm (Ei aB k)) keys&&BH keys)<;>rw[hc]at h
  ·simp at h
  ·simp only[ag]at h;simp only[ai]at hc;obtain⟨⟨c1,c2⟩,c3⟩:=hc;have a3:Ak (λk=>Ak (AC.inK keys []) (Ei aB k)) keys=true:=by
    rw[Au]at c2⊢;intro k I;have:=c2 k I;rw[Au]at this⊢;intro b hb;have:=this b hb;cases b<;>simp[AC.calm]at this<;>rfl
   split at h
   ·rename_i mb M;have T:=Iu.1 c3;obtain⟨v,⟨L,a4⟩,N,a5⟩:=a2.run h;have X:=UW hR h1 h2 a1 T ia (λv N=>Au.1 c1 v N) (λk I=>Au.1 a3 k I) M (show EX aC base []=some []from rfl);refine LJ h3 ((a5 _ xs X).mono ?_);rintro e w' ⟨x,ρ2,he,a6⟩;cases a4 with
    |cons _ _=>simp at N
    |nil=>
     dsimp only at N;cases U:(Ak (λp:Nat×Box=>DZ L p.1) mb&&Ak (λp:Nat×Box=>DZ mb p.1) L&&BH (L.map (·.1))&&Ak (λp:Nat×Box=>Ak AC.calm p.2.cells) L&&v.plainB)<;>rw[U]at N
     ·simp at N
     ·simp only[ag]at N;simp only[ai]at U;obtain⟨⟨⟨⟨d1,d2⟩,d3⟩,d4⟩,d5⟩:=U;have Y:A2 keys L=[]:=by
       apply List.eq_nil_iff_forall_not_mem.2;intro k I;obtain⟨q1,q2⟩:=IX.1 I;simp only[av]at q1;obtain⟨p,hp,rfl⟩:=q1;obtain⟨b,hb⟩:=Tm (Au.1 d2 p hp);obtain⟨i,hi,e⟩:=(J5 M).2 _ _ hb;exact q2 (by omega)
      obtain⟨e1,e2,e3⟩:=Se hR T ia M (show EX aC base []=some []from rfl) a6 (d:=o.dst.getD 0) (Iu.1 d3) ia (λk I=>by rw[Y]at I;simp at I) (λk I=>by simp[A2]at I);rw[Y]at e1 e2 e3;have a7:=Z17 T M (Au.1 d1) (Au.1 d2) (Iu.1 d3) (Au.1 d4) (Bs [] (A2 [] ([]:List (Nat×Row))) (o.dst.getD 0)) (o.dst.getD 0);have a0:=e1.cong a7;have a8:tm.map (Hy [])=tm:=by
       conv=>rhs;rw[<-List.map_id tm]
       rfl
      rw[a8]at a0;rw[US d5]at e2;exact⟨x,he,S _ _ _ _ _ x w' N a0 e2 (I3 d5)⟩
   ·simp at h
 ·simp at h
theorem Qv5 {rk ri:Nat->Nat}:∀{args:List TV},Ak TV.plainB args=true->args.map (TV.ren rk ri)=args
 |[],_=>rfl
 |a::l,h=>by
  simp only[Ak]at h;obtain⟨h1,h2⟩:=cond_none' h;simp only[ba];rw[US h1,Qv5 h2]
 where cond_none' {c p:Bool} (h:cond c p false=true):c=true/\p=true:=by cases c<;>simp at h;exact⟨rfl,h⟩
theorem Qsv (x:Nat):x.blt 0=false:=rfl
theorem Zfw (j:Nat) (r:Row):A2 [] [(j,r)]=[j]:=by
 have D:(base.ble j&&(j-base).blt 0)=false:=by
  rw[Qsv,Bool.and_false]
 unfold A2;simp only[da,D,aq];rfl
theorem Z1c (j d:Nat):Bs [] [j] d j=Hl d:=by
 have D:(base.ble j&&(j-base).blt 0)=false:=by
  rw[Qsv,Bool.and_false]
 unfold Bs Hl;simp only[da,D,aq,pos,jj,ag,jv]
theorem Z85 (X:Ai P C) (hR:RelE Z tm aB aC ρ tmps w) {o:Oper} {a:Act} {f:FuncId} {args:List TV} {xs:List Value} (h1:xs.length=args.length)
  (h2:∀(i:Nat) (a:TV) (x:Value),args[i]? =some a->xs[i]? =some x->TVR ρ w a x) (h3:execOp a.eval o=callFunc f xs.toArray) (b1:∀v∈args,TV.wf aB aC v) {K:TV->St->Option R} {r:R}
  (h:A0 C o.dst (.callF f args) ⟨tm,aB,aC⟩ K=some r) {next:Act->World->Prop} {Q:Exit->Act->World->Prop}
  (M:∀(v:TV) (a3:List TV) (D:List (Nat×Box)) (I:List (Nat×Row)) (ρ':Env) (x:Value) (w':World),K v ⟨a3,D,I⟩=some r->RelE Z a3 D I ρ' tmps w'->TVR ρ' w' v x->TV.wf D I v->next (a.put o.dst x) w'):
  o.wp P a w next Q:=by
 simp only[A0]at h;split at h
 ·rename_i g hg;have b2:=X.1 f g hg;cases Y:Ak TV.plainB args<;>rw[Y]at h
  ·simp at h
  simp only[ag]at h;obtain⟨v,⟨b3,N⟩,G,b4⟩:=b2.run h;have T:=UW hR h1 h2 b1 ia ia (keys:=[]) (ids:=[]) (λv G=>Qsc (Au.1 Y v G)) (λk O=>by simp at O) (show C0 aB _ _ base []=some []from rfl) (show EX aC base []=some []from rfl);rw[Qv5 Y]at T;refine LJ h3 ((b4 _ xs T).mono ?_);rintro e w' ⟨x,ρ2,he,a4⟩;have a5:tm.map (Hy [])=tm:=by
   conv=>rhs;rw[<-List.map_id tm]
   rfl
  have a0:(CU [] aB).map (λp=>(p.1,CZ [] p.2))=aB:=by
   conv=>rhs;rw[<-List.map_id aB]
   rfl
  cases b3 with
  |cons _ _=>simp at G
  |nil=>
  have a6:(N.map (·.1)).Nodup->(∀k∈A2 [] N,Ab aC (Bs [] (A2 [] N) (o.dst.getD 0) k)=none)->_:=λd1 d2=>
   Se hR ia ia (show C0 aB _ _ base []=some []from rfl) (show EX aC base []=some []from rfl) a4 (d:=o.dst.getD 0) (by simp) d1 (λk O=>by simp[A2]at O) d2
  cases N with
  |nil=>
   dsimp only at G;cases a1:v.plainB<;>rw[a1]at G
   ·simp at G
   simp only[ag]at G;obtain⟨e1,e2,e3⟩:=a6 (by simp) (λk O=>by simp[A2]at O);rw[a5,a0]at e1;rw[US a1]at e2;exact⟨x,he,M _ _ _ _ _ x w' G e1 e2 (I3 a1)⟩
  |cons p l=>
   obtain⟨k,L⟩:=p;cases l with
   |cons _ _=>simp at G
   |nil=>
    dsimp only at G;split at G
    ·rename_i j w0 n0;cases S:Nat.beq j k<;>rw[S]at G
     ·simp at G
     simp only[ag]at G;have S:=ac S;subst S;split at G
     ·simp at G
     rename_i a2;simp only[AW]at G;have hf:=Zfw j L;have hb:=Z1c j (o.dst.getD 0);obtain ⟨e1, e2, e3⟩ := a6 (by simp) (λk O => by
      rw[hf]at O⊢;simp at O;subst O;rw[hb];exact a2)
     rw[a5,a0]at e1;rw[a0]at e3;have b5:=a4.wt (.v false [.own j w0 n0]) (by simp) (.own j w0 n0) (by simp);obtain⟨r1,a7,b6,b7⟩:=b5;simp only[Ab,jj,ag,am]at a7;subst a7;have U:TV.ren (Bs [] (A2 ([]:List Nat) ([]:List (Nat×Box))) (o.dst.getD 0)) (Bs [] (A2 [] [(j,L)]) (o.dst.getD 0)) (.v false [.own j w0 n0])= .c (.own (Hl (o.dst.getD 0)) L.ks.length L.l.length):=by
      simp only[TV.ren,ba,dp,AC.ren,hf,hb];rw[<-b7,<-b6]
     have V:HX (Bs [] (A2 [] [(j,L)]) (o.dst.getD 0)) [(j,L)] (CU [] aC)=ins aC (Hl (o.dst.getD 0)) L:=by
      simp only[HX,hf,hb,CU]
     have a8:=e1;rw[V]at a8;have a9:=e2;rw[U]at a9;have b0:=e3;rw[U,V]at b0;exact⟨x,he,M _ _ _ _ _ x w' G a8 a9 b0⟩
    ·simp at G
 ·simp at h
end
open Go.RowKit
section
variable {P:Program} {C:Cfg} {ρ:Env} {w:World} {R:Type} {Z:Base} {tm:List TV} {aB:List (Nat×Box)} {aC:List (Nat×Row)} {tmps:Array Value}
theorem Zfh {g:Bool} {sz off:Nat} {cells:List AC} {v:TV} (D:CJ g sz cells off=some v) (hb:∀a∈cells,AC.wf aB aC a):TV.wf aB aC v:=by
 unfold CJ at D;cases g
 ·simp only[aq]at D;split at D
  ·rename_i c I;simp at D;subst D;intro c' G;simp at G;subst G;exact hb _ (bj I)
  ·simp at D
 ·simp only[ag]at D;cases L:Nat.ble (off+sz) cells.length<;>rw[L]at D
  ·simp at D
  ·simp at D;subst D;intro c I;exact hb c (dx (fd I))
theorem Z0s {a N:TV} (D:a.hasOwn=false) (L:a.res aC=some N):a=N:=by
 have O:∀(cs G:List AC),cs.any AC.isOwn=false->Ee aC cs=some G->cs=G:=by
  intro cs;induction cs with
  |nil=>intro G _ h;simp[Ee]at h;rw[h]
  |cons b cs S=>
   intro G D h;simp only[List.any_cons,Bool.or_eq_false_iff]at D;simp only[Ee]at h;split at h
   ·rename_i b' I;split at h
    ·rename_i U M;simp at h;subst h;rw[S _ D.2 M];have T:=D.1;cases b<;>simp only[AC.res]at I<;>first|(simp at I;done)|(simp[AC.isOwn]at T;done)|(simp at I;subst I;rfl)
    ·simp at h
   ·simp at h
 cases a with
 |vD=>simp[TV.res]at L
 |tup=>simp[TV.res]at L
 |v g cs=>
  simp only[TV.res]at L;split at L
  ·rename_i l h;simp at L;subst L;rw[O _ _ D h]
  ·simp at L
theorem Zds {t e:TypeId} {i:TypeInfo} {z:Value} (D:P.underlying t=some (.slice e)) (G:P.info? e=some i) (I:i.zero=some z) {kl kc:IntKind} {n:Nat} (hb:n*i.bytes<=140737488355328) (L:n<=140737488355328):
  ∃(w':World) (arr:Array Value),(Instr.makeSlice t (.int kl (n:Int)) (.int kc (n:Int))).run P w= .ok (.slice (some ⟨w.heap.size,0,none⟩) n n) w'/\w'=w.alloc (.cells arr e)/\
   arr.toList=(List.range (n*i.size)).map λj=>z.cells[j%z.cells.size]! :=by
 have e1:((n*i.bytes:Nat):Int)=(n:Int)*(i.bytes:Int):=dc _ _;have e2:(i.bytes:Int)*(n:Int)<=281474976710656:=by rw[jk];omega
 have h:=run_make w t e i z D G I kl kc (n:Int) (n:Int) (by omega) (dt _) e2 (by omega);rw[ak]at h;exact⟨_,madeCells z.cells (n*i.size),h,rfl,by simp[madeCells]⟩
theorem Qou (a4:Ai P C) (T:RelE Z tm aB aC ρ tmps w) {o:Oper} {a:Act} {p:Prim} (hp:Jb P ρ w a.eval o p) (a2:Prim.wf aB aC p) (c9:Prim.isApp (some p)=false) {K:TV->St->Option R} {r:R}
  (h:A0 C o.dst p ⟨tm,aB,aC⟩ K=some r) {next:Act->World->Prop} {Q:Exit->Act->World->Prop}
  (G:∀(v:TV) (g0:List TV) (a5:List (Nat×Box)) (b2:List (Nat×Row)) (ρ':Env) (x:Value) (w':World),K v ⟨g0,a5,b2⟩=some r->RelE Z g0 a5 b2 ρ' tmps w'->TVR ρ' w' v x->TV.wf a5 b2 v->next (a.put o.dst x) w'):
  o.wp P a w next Q:=by
 cases p with
 |val v=>
  obtain⟨x,X,U⟩:=hp;exact HH X (G v _ _ _ ρ x w h T U a2)
 |load g sz key off=>
  obtain⟨t,X,U,V⟩:=hp;simp only[A0]at h;split at h
  ·rename_i b O;split at h
   ·rename_i v Y;obtain⟨arr,q1,q2,q3⟩:=T.bx key b O;obtain ⟨x, q4, q5⟩ := UY (b := ρ.bx key) (o := 0) X U Y q2 (λj y hj => by
     simp only[dy];rw[cell_of_row w _ j arr b.ty (0,0) q1];simpa using hj)
    rw[dy]at q4;rw[q4]at V;refine HH V (G v _ _ _ ρ x w h T q5 ?_);have hb:=T.wb key b O;unfold CJ at Y;cases g
    ·simp only[aq]at Y;split at Y
     ·rename_i c M;simp at Y;subst Y;intro c' b6;simp at b6;subst b6;exact hb _ (bj M)
     ·simp at Y
    ·simp only[ag]at Y;cases b3:Nat.ble (off+sz) b.cells.length<;>rw[b3]at Y
     ·simp at Y
     ·simp at Y;subst Y;intro c M;exact hb c (dx (fd M))
   ·simp at h
  ·simp at h
 |store key off cs=>
  obtain⟨t,x,X,U,V⟩:=hp;simp only[A0]at h;split at h
  ·rename_i b O;cases hb:Nat.ble (off+cs.length) b.cells.length<;>rw[hb]at h
   ·simp at h
   ·simp only[ag,AW]at h;have hle:=ay hb;obtain⟨arr,q1,q2,q3⟩:=T.bx key b O;have hlen:=U.length;rw[hlen]at X hle;have q4:=Qw1 X q1 (by rw[<-dw,<-q2.length];exact hle) U.one;rw[q4]at V;refine Q9z V (G .vD _ _ _ ρ undef _ h (T.store O ?_ ?_) trivial trivial)
    ·intro c M;rw[Gi _ _ _ (by rw[hlen];exact hle)]at M;simp only[bn]at M;rcases M with(M|M)|M
     ·exact T.wb key b O c (fd M)
     ·exact a2.2 c M
     ·exact T.wb key b O c (dx M)
    ·exact q2.splice off U
  ·simp at h
 |new ty cs=>
  obtain⟨arr,X,U⟩:=hp;simp only[A0]at h;split at h
  ·rename_i d hd;split at h
   ·simp at h
   ·rename_i hn;simp only[AW]at h;refine HH U (G _ _ _ _ _ _ _ h (T.new hn a2 X) ?_ ?_)
    ·refine TVR.c' ?_;simp only[CC,BG]
    ·intro c M;simp at M;subst M;exact⟨_,Ed _ _ _ hn⟩
  ·simp at h
 |newS ty n cs=>
  obtain⟨arr,X,U⟩:=hp;simp only[A0]at h;split at h
  ·rename_i d hd;split at h
   ·simp at h
   ·rename_i hn;simp only[AW]at h;refine HH U (G _ _ _ _ _ _ _ h (T.new hn a2 X) ?_ ?_)
    ·refine TVR.c' ?_;simp only[CC,BG]
    ·intro c M;simp at M;subst M;exact⟨_,Ed _ _ _ hn⟩
  ·simp at h
 |rload g sz id idx sub=>
  obtain⟨t,b,X,U,hb,V⟩:=hp;obtain⟨D,S,a3⟩:=a2;simp only[A0,S]at h;split at h
  ·rename_i v Y;obtain⟨q1,q2,_,xs,q3,q4⟩:=T.ro id D S;have a7:D.l[idx]? =some D.l[idx]:=al a3;have g1:=q4.2.2 idx _ a7;have hf:D.f idx=D.l[idx]:=by
    show AM D.ks (nth [] D.l idx)=_;rw[BV,List.getD,a7];exact q4.2.1 _ (cg a3)
   have i5:Ra w b (Hs (ρ.rv id)+idx*D.w) (cut xs (idx*D.w) D.w):=by
    intro j y hj;simp only[cut,fv]at hj;split at hj
    ·rw[ee]at hj;have:=Qt q3 hb (idx*D.w+j) y hj;rw[<-dm]at this;exact this
    ·simp at hj
   rw[hf]at Y;obtain⟨x,q5,q6⟩:=UY (b:=b) (o:=Hs (ρ.rv id)+idx*D.w) (ρ:=ρ) X U Y (g1.mono λ_ _ _ hh=>Ix hh) i5;rw[<-q2,dm]at q5;rw[q5]at V;exact HH V (G v _ _ _ ρ x w h T q6 (Zfh Y (Zmg g1)))
  ·simp at h
 |rstore id idx sub cs=>
  obtain⟨t,x,b,X,U,hb,V⟩:=hp;obtain⟨D,S,a3⟩:=a2;simp only[A0,S]at h;cases M:(Nat.ble (sub+cs.length) D.w&&Ak AC.plain cs)<;>rw[M]at h
  ·simp at h
  ·simp only[ag]at h;split at h
   ·rename_i c d2;simp only[AW]at h;simp only[ai]at M;have hle:=ay M.1;obtain⟨q1,q2,_,xs,q3,q4⟩:=T.ro id D S;have a7:D.l[idx]? =some D.l[idx]:=al a3;have hf:D.f idx=D.l[idx]:=by
     show AM D.ks (nth [] D.l idx)=_;rw[BV,List.getD,a7];exact q4.2.1 _ (cg a3)
    rw[hf]at d2;rcases q3.2 with⟨e1,e2⟩|⟨g',oo,cap,cur,e1,e3,e4,e5,e6,e7⟩
    ·have:idx<D.n:=a3;omega
    ·have j3:b=g':=by rw[e1]at hb;simp[Value.ownBlock]at hb;exact hb.symm
     subst j3;have hlen:=U.length;have b9:=q4.1;have hbound:idx*D.w+sub+cs.length<=D.n*D.w:=by
      have:idx*D.w+D.w<=D.n*D.w:=by
       calc idx*D.w+D.w=(idx+1)*D.w:=by rw[dk,gk]
        _<=D.n*D.w:=be _ a3
      omega
     have j9:D.n*D.w<=cap*D.w:=be _ e4;rw[q2]at V;rw[hlen]at X hle hbound;have g2:Hs (ρ.rv id)=oo:=by rw[e1];rfl
     rw[g2]at V;have q5:=Qw1 (off:=oo+(idx*D.w+sub)) X e3 (by omega) U.one;rw[q5]at V;have c0:oo+cap*D.w<=cur.toList.length:=by rw[dw];exact e6
     have k0:(splice cur.toList (oo+(idx*D.w+sub)) x.cells.toList).drop oo=splice (cur.toList.drop oo) (idx*D.w+sub) x.cells.toList:=by
      rw[Gi _ _ _ (by omega),Gi _ _ _ (by rw[dg];omega),fa,jn (by rw[gx];omega),List.drop_take,show oo+(idx*D.w+sub)-oo=idx*D.w+sub from by omega,ji,fa];congr 2;rw[dm]
     have k6:((splice cur.toList (oo+(idx*D.w+sub)) x.cells.toList).drop oo).take (D.n*D.w)=splice xs (idx*D.w+sub) x.cells.toList:=by
      rw[k0];have k7:cap*D.w<=(cur.toList.drop oo).length:=by rw[dg];omega
      generalize cur.toList.drop oo=L at e7 k7⊢;rw[Gi _ _ _ (by omega),Gi _ _ _ (by rw[b9];exact hbound),<-e7];apply ig;intro j;simp only[fv,fy,gx,ap,ee];by_cases hj:j<D.n*D.w
      ·rw[ab hj];by_cases j1:j<idx*D.w+sub
       ·rw[ab,ab,ab,ab,ab,ab,ab hj]
       ·by_cases j2:j<idx*D.w+sub+x.cells.toList.length
        ·rw[ab,aa,ab,aa];congr 1;omega
        ·rw[aa,aa,ab];congr 1;omega
      ·rw[aa hj,aa,aa]
     have k8: ¬ρ.im b:=λhi=>(T.ib b hi).2.2 id D S hb;have hold:∀k,k≠b->(w.setRow b (splice cur.toList (oo+(idx*D.w+sub)) x.cells.toList).toArray).heap[k]? =w.heap[k]? :=λk O=>setRow_other w b k _ O;have c4:∀(a:AC) (y:Value),CP ρ.im w a y->CP ρ.im (w.setRow b (splice cur.toList (oo+(idx*D.w+sub)) x.cells.toList).toArray) a y:=λa y hh=>CP.mono (λ_ h=>h) (λk O=>hold k (λe=>k8 (e▸O))) a y hh;have d3:CL (CP ρ.im w) c (splice (cut xs (idx*D.w) D.w) sub x.cells.toList)/\AM D.ks c=c:=
      RQ d2 (((q4.2.2 idx _ a7).mono λ_ _ _ hh=>Ix hh).splice sub U)
     have a1:=T.turnRow (id:=id) S (r':=⟨D.ty,D.ks,D.l.set idx c⟩) (v':=ρ.rv id)
      (xs:=splice xs (idx*D.w+sub) x.cells.toList) (w':=w.setRow b (splice cur.toList (oo+(idx*D.w+sub)) x.cells.toList).toArray)
      ⟨rfl,rfl,rfl,by simp,λk _ O=>hold k (λe=>O (by rw[e,hb]))⟩ rfl
      ⟨by simp only[Row.n,Row.w,iz];rw[Lo];exact b9, .inr ⟨b,oo,cap,_,by simp only[Row.n,iz];exact e1,setRow_heap w b cur _ D.ty _ e3,by simp only[Row.n,iz];exact e4,e5,by simp only[List.size_toArray];rw[Lo];exact c0,by simp only[Row.n,iz];exact k6⟩⟩
      ⟨by simp only[iz];rw[Lo];exact b9,λc' b6=>by
       rcases f7 b6 with b6|rfl
       ·exact q4.2.1 c' b6
       ·exact d3.2,λi c' hi=>by
       simp only[i7]at hi;by_cases e8:idx=i
       ·subst e8;rw[ab rfl,ab a3]at hi;simp at hi;subst hi;have e:=Z2h xs x.cells.toList idx D.w sub D.n a3 b9 (by omega);show CL _ c (cut _ (idx*D.w) D.w);rw[e];exact d3.1.mono λa _ y hh=>c4 a y hh
       ·rw[aa e8]at hi;have l6:i<D.n:=(fg.1 hi).1;have e:=Zjb xs x.cells.toList idx i D.w sub D.n a3 (λe=>e8 e.symm) b9 (by omega);show CL _ c' (cut _ (i*D.w) D.w);rw[e];exact(q4.2.2 i c' hi).mono λa _ y hh=>c4 a y hh⟩
      (.inl rfl) (.inl ⟨rfl,by simp[Row.n]⟩)
     exact Q9z V (G .vD _ _ _ _ undef _ h a1 trivial trivial)
   ·simp at h
 |newRow el ks l=>
  obtain⟨arr,X,U,V,h4⟩:=hp;simp only[A0]at h;split at h
  ·rename_i d hd;split at h
   ·simp at h
   ·rename_i hn;simp only[AW]at h;have hb:Below w.heap.size w (w.alloc (.cells arr el)):=(Below.refl _ _).alloc (co _) _;have N:RowC ρ.im (w.alloc (.cells arr el)) ks l arr.toList:=V.mono (λ_ h=>h) (λb I=>Below.heap_alloc w _ b (T.ib b I).1);have a8:=T.addRow (d:=C.rowAs d) hn (r:=⟨el,ks,l⟩) (v':= .slice (some ⟨w.heap.size,0,none⟩) l.length l.length) (xs:=arr.toList) (w':=w.alloc (.cells arr el)) hb X
     ⟨V.1, .inr ⟨w.heap.size,0,l.length,arr,rfl,heap_alloc_new w _,co _,U,by rw[<-dw,dy];exact Nat.le_of_eq V.1.symm,by
      show List.take (l.length*ks.length) _=_;rw[<-V.1,fo,ip]⟩⟩ N
     (λg hg=>by simp[Value.ownBlock]at hg;omega)
    refine HH h4 (G _ _ _ _ _ _ _ h a8 ?_ ?_)
    ·exact TVR.c' ⟨by simp only[BG],by simp only[BG], .inr ⟨_,_,_,rfl⟩⟩
    ·intro c M;simp at M;subst M;exact⟨_,Ed _ _ _ hn,rfl,rfl⟩
  ·simp at h
 |newView el ks l=>
  obtain⟨arr,X,U,V,h4⟩:=hp;simp only[A0]at h;have hb:Below w.heap.size w (w.alloc (.cells arr el)):=(Below.refl _ _).alloc (co _) _;have N:RowC ρ.im (w.alloc (.cells arr el)) ks l arr.toList:=V.mono (λ_ h=>h) (λb I=>Below.heap_alloc w _ b (T.ib b I).1);have hg:=T.growIm (im':=λb=>ρ.im b\/b=w.heap.size) hb (λb h=> .inl h) (λb h=>h.imp id λe=>by subst e;exact⟨co _,O_ (heap_alloc_new w _)⟩);refine HH h4 (G _ _ _ _ _ _ _ h hg ?_ ?_)
  ·refine TVR.c' ?_;have c5:Ef (w.alloc (.cells arr el)) el ks.length (.slice (some ⟨w.heap.size,0,none⟩) l.length l.length) l.length arr.toList:=
    ⟨V.1, .inr ⟨w.heap.size,0,l.length,arr,rfl,heap_alloc_new w _,co _,U,by rw[<-dw,dy];exact Nat.le_of_eq V.1.symm,by rw[fo,<-V.1,ip]⟩⟩
   exact Ix (Ys c5 (N.mono (λ_ h=> .inl h) (λ_ _=>rfl)) (λg hg=> .inr (by simp[Value.ownBlock]at hg;exact hg.symm)))
  ·intro c M;simp at M;subst M;trivial
 |make el ks bytes n z=>
  obtain⟨t,i,zv,kl,kc,X,U,V,h4,h5,h6,h7,h8,h9,g3⟩:=hp;subst h5;simp only[A0]at h;split at h
  ·rename_i d hd;split at h
   ·simp at h
   ·rename_i hn;cases M:(decide (0<=n)&&decide (n*(i.bytes:Int)<=140737488355328))<;>rw[M]at h
    ·simp at h
    ·simp only[ag,AW]at h;simp only[ai,cq]at M;have g4:((n.toNat:Nat):Int)=n:=Int.toNat_of_nonneg M.1;have g5:zv.cells.toList.length=ks.length:=by
      rw[<-h9.length,<-h8];exact S7 _ _
     have k9:n.toNat*i.bytes<=140737488355328:=by
      have U:=M.2;rw[<-g4]at U;have e1:((n.toNat*i.bytes:Nat):Int)=(n.toNat:Int)*(i.bytes:Int):=dc _ _;omega
     have l7:n.toNat<=n.toNat*i.bytes:=je _ h7;obtain⟨w',arr,p1,p2,p3⟩:=Zds (P:=P) (w:=w) (t:=t) (e:=el) (i:=i) (z:=zv) X U V (kl:=kl) (kc:=kc) (n:=n.toNat) k9 (by omega);rw[g4]at p1;rw[p1]at g3;subst p2;have d0:zv.cells.size=ks.length:=by rw[<-dw];exact g5
     have b4:arr.toList.length=n.toNat*ks.length:=by rw[p3,h4,d0];simp[d0]
     have g6:∀j,j<n.toNat->cut arr.toList (j*ks.length) ks.length=zv.cells.toList:=by
      intro j hj;have hle:j*ks.length+ks.length<=n.toNat*ks.length:=by
       calc j*ks.length+ks.length=(j+1)*ks.length:=by rw[dk,gk]
        _<=n.toNat*ks.length:=be _ hj
      apply ig;intro q;simp only[cut,fv,ee];by_cases hq:q<ks.length
      ·rw[ab hq,p3,h4,d0];rw[d8,List.getElem?_range (by omega)];simp only[f9];rw[show(j*ks.length+q)%ks.length=q from by rw[d9,Nat.mul_add_mod];exact Nat.mod_eq_of_lt hq];have:q<zv.cells.size:=by rw[d0];exact hq
       rw[getElem!_pos zv.cells q this,Array.getElem?_toList,ja this]
      ·rw[aa hq,db (by rw[g5];omega)]
     have hb:Below w.heap.size w (w.alloc (.cells arr el)):=(Below.refl _ _).alloc (co _) _;have e9:RowC ρ.im w ks (List.replicate n.toNat z) arr.toList:=by
      refine⟨by rw[b4];simp,λc M=> ?_,λj c hj=> ?_⟩
      ·rw[fu]at M;rw[M.2];exact h8
      ·rw[List.getElem?_replicate]at hj;split at hj
       ·rename_i l0;simp at hj;subst hj;rw[g6 j l0];exact h9
       ·simp at hj
     have N:RowC ρ.im (w.alloc (.cells arr el)) ks (List.replicate n.toNat z) arr.toList:=e9.mono (λ_ h=>h) (λb I=>Below.heap_alloc w _ b (T.ib b I).1);have c6:(List.replicate n.toNat z).length=n.toNat:=by simp
     have a8:=T.addRow (d:=d) hn (r:=⟨el,ks,List.replicate n.toNat z⟩) (v':= .slice (some ⟨w.heap.size,0,none⟩) n.toNat n.toNat) (xs:=arr.toList) (w':=w.alloc (.cells arr el)) hb h6
      ⟨by simp only[Row.n,Row.w,c6];exact b4, .inr ⟨w.heap.size,0,n.toNat,arr,by simp only[Row.n,c6],heap_alloc_new w _,by simp only[Row.n,c6];exact co _,by simp only[maxLen];omega,by rw[<-dw,dy];exact Nat.le_of_eq b4.symm,by
       simp only[Row.n,c6];show List.take (n.toNat*ks.length) _=_;rw[<-b4,fo,ip]⟩⟩ N
      (λg hg=>by simp[Value.ownBlock]at hg;omega)
     refine HH g3 (G _ _ _ _ _ _ _ h a8 ?_ ?_)
     ·exact TVR.c' ⟨by simp only[BG],by simp only[BG], .inr ⟨_,_,_,by rw[c6]⟩⟩
     ·intro c M;simp at M;subst M;exact⟨_,Ed _ _ _ hn,by simp[Row.n],rfl⟩
  ·simp at h
 |cutR id a=>
  simp only[A0]at h;split at h
  ·rename_i D S;have hle:Nat.ble a D.l.length=true:=by
    cases hb:Nat.ble a D.l.length
    ·rw[hb]at h;simp at h
    ·rfl
   rw[hle]at h;simp only[ag]at h;have hle:a<=D.n:=ay hle;simp only[AW]at h;obtain⟨q1,q2,_,xs,q3,q4⟩:=T.ro id D S;have hlen:(D.l.drop a).length=D.n-a:=by simp[Row.n]
   have key : ∃ ad cap, ρ.rv id = .slice ad D.n cap /\ D.n <= cap /\ (let v' : Value := .slice (if cap = a then ad else ad.map (·.add (a * ρ.wd id))) (D.n - a) (cap - a)
     v'.ownBlock=(ρ.rv id).ownBlock/\Ef w D.ty D.w v' (D.n-a) (xs.drop (a*D.w))/\((v'= .slice none 0 0/\D.n-a=0)\/∃g o c,v'= .slice (some ⟨g,o,none⟩) (D.n-a) c)):=by
    have d1:(xs.drop (a*D.w)).length=(D.n-a)*D.w:=by rw[dg,q3.1,Nat.sub_mul]
    rcases q3.2 with⟨e1,e2⟩|⟨g,oo,cap,cur,e1,e3,e4,e5,e6,e7⟩
    ·refine⟨none,0,by rw[e1,e2],by omega,?_⟩;have ha:a=0:=by omega
     subst ha;rw[e1,e2];refine⟨rfl,⟨by simpa [e2]using d1, .inl ⟨rfl,rfl⟩⟩, .inl ⟨rfl,rfl⟩⟩
    ·refine⟨_,cap,e1,e4,?_⟩;rw[e1,q2];by_cases g7:cap=a
     ·have c9:D.n=a:=by omega
      simp only[g7,dq];refine⟨rfl,⟨d1, .inr ⟨g,oo,a-a,cur,rfl,e3,by omega,by omega,by simp;omega,?_⟩⟩, .inr ⟨g,oo,_,rfl⟩⟩;rw[c9,iw,ik,List.take_zero];symm;apply d6;rw[d1,c9,iw,ik]
     ·simp only[g7,gq,f9,Addr.add_lit];refine⟨rfl,⟨d1, .inr ⟨g,oo+a*D.w,cap-a,cur,rfl,e3,by omega,by omega,?_,?_⟩⟩, .inr ⟨g,oo+a*D.w,_,rfl⟩⟩
      ·rw[Nat.sub_mul];have:a*D.w<=cap*D.w:=be _ (by omega);omega
      ·rw[<-e7,List.drop_take,ji,<-Nat.sub_mul]
   obtain⟨ad,cap,k1,k2,k3,k4,k5⟩:=key;have g8:=hp ad D.n cap k1 k2 hle;have f0:=T.kill id;have N:RowC ρ.im w D.ks (D.l.drop a) (xs.drop (a*D.w)):=by
    refine⟨by rw[dg,q3.1,dg,<-Nat.sub_mul],λc M=>q4.2.1 c (dx M),λi c hi=> ?_⟩;rw[ee]at hi;have:=q4.2.2 (a+i) c hi;have e:cut (xs.drop (a*D.w)) (i*D.ks.length) D.ks.length=cut xs ((a+i)*D.ks.length) D.ks.length:=by
     simp only[cut,ji,dk]
    rw[e];exact this
   have a1:=f0.turnRow (id:=id) S (r':=⟨D.ty,D.ks,D.l.drop a⟩) (v':=_) (xs:=xs.drop (a*D.w)) (w':=w) ⟨rfl,rfl,rfl,co _,λ_ _ _=>rfl⟩ rfl (by simp only[Row.n,hlen];exact k4) N (.inl k3)
    (.inr ⟨λv Y=>by
     simp only[av]at Y;obtain⟨u,_,rfl⟩:=Y;exact TV.kill_free id u,λk b O a' a9=>by
     rw[E_]at O;cases hl:Ab aB k with
     |none=>rw[hl]at O;simp at O
     |some b'=>
      rw[hl]at O;simp at O;subst O;simp only[Box.kill,av]at a9;obtain⟨u,_,rfl⟩:=a9;exact AC.kill_free id u⟩)
   refine HH g8 (G _ _ _ _ _ _ _ h a1 ?_ ?_)
   ·refine TVR.c' ⟨by simp only[BG],by simpa using q2,?_⟩;rw[hlen];exact k5
   ·intro c M;simp at M;subst M;exact⟨_,Eu _ _ _ _ S,by simp[Row.n],rfl⟩
  ·simp at h
 |append e ks bytes s x=>
  obtain⟨t,ty,i,z,sv,xv,X,U,V,h4,h5,h6,h7,h8,h9⟩:=hp;subst h5;simp only[A0]at h;split at h
  ·rename_i m g9;obtain⟨ad,c,news,rfl,N,c7⟩:=Zc5 T g9 h8;split at h
   ·
    split at h
    ·rename_i d hd;split at h
     ·simp at h
     ·rename_i hn;cases hb:(Nat.ble 1 ks.length&&Nat.ble 1 i.bytes)<;>rw[hb]at h
      ·simp at h
      ·simp only[ag]at h;simp only[ai]at hb;have l8:=ay hb.1;have l1:=ay hb.2;cases b3:Nat.ble (m.length*i.bytes) 140737488355328<;>rw[b3]at h
       ·simp at h
       ·simp only[ag,AW]at h;have hbound:=ay b3;have hm:m.length<=m.length*i.bytes:=je _ (by omega);simp only[CC,CP]at h7;subst h7;obtain⟨v',w',q1,q2,q3,q4⟩:=Qxn (P:=P) (ty:=ty) (c:=c) X U V h4 h6 (by omega) (W7 w e ks.length) N.1 c7 (N.one (by omega)) (by simp only[maxLen];omega) (by simpa using hbound);rw[q1]at h9;simp only[dy,bc]at q2;have b0:Below w.heap.size w w':=⟨q3.os,q3.tape,q3.output,q3.size,λk O=>q3.block k O (by simp[Value.ownBlock])⟩;have a8:=T.addRow (d:=d) hn (r:=⟨e,ks,m⟩) (v':=v') (xs:=news) (w':=w') b0 (by show 0<ks.length;omega) q2
         (N.mono (λ_ h => h) (λb I => b0.block b (T.ib b I).1)) (λg' b5 => by
          rcases q4 with q4|q4
          ·rw[q4]at b5;simp[Value.ownBlock]at b5
          ·rw[q4]at b5;simp at b5;omega)
        refine HH h9 (G _ _ _ _ _ _ _ h a8 ?_ ?_)
        ·refine TVR.c' ⟨by simp only[BG],by simp only[BG],?_⟩;rcases q2.2 with⟨e1,e2⟩|⟨g',oo,cap,cur,e1,_⟩
         ·exact .inl ⟨e1,e2⟩
         ·exact .inr ⟨g',oo,cap,e1⟩
        ·intro c M;simp at M;subst M;exact⟨_,Ed _ _ _ hn,rfl,rfl⟩
    ·simp at h
   ·
    rename_i id w1 n1;split at h
    ·rename_i D S;cases hb:(Cy ks D.ks&&Nat.beq D.ty e&&Nat.ble 1 i.bytes)<;>rw[hb]at h
     ·simp at h
     ·simp only[ag]at h;simp only[ai]at hb;have e1:=Iy hb.1.1;have e2:=ac hb.1.2;have l1:=ay hb.2;subst e1 e2;cases b3:Nat.ble ((D.l++m).length*i.bytes) 140737488355328<;>rw[b3]at h
      ·simp at h
      ·simp only[ag,AW]at h;have hbound:=ay b3;rw[ap]at hbound;have hm:D.l.length+m.length<=(D.l.length+m.length)*i.bytes:=je _ (by omega);obtain⟨q1,q2,_,xs,q3,q4⟩:=T.ro id D S;obtain⟨c1,c2,c3⟩:=h7;subst c1;obtain⟨v',w',p1,p2,p3,p4⟩:=Qxn (P:=P) (ty:=ty) (c:=c) X U V h4 h6 q1 q3 N.1 c7 (N.one q1) (by simp only[maxLen,Row.n];omega) hbound;rw[p1]at h9;have f0:=T.kill id;have h0:∀b,ρ.im b->w'.heap[b]? =w.heap[b]? :=λb I=>p3.block b (T.ib b I).1 (λe=>(T.ib b I).2.2 id D S e.symm);have i0:=(q4.append N).mono (λ_ h=>h) h0;have a1:=f0.turnRow (id:=id) S (r':=⟨D.ty,D.ks,D.l++m⟩) (v':=v') (xs:=xs++news) (w':=w') p3 rfl (by simpa [Row.n]using p2) i0
        (Qp p4 (λx=>x) (λx g' b5=>by rw[x]at b5;simp at b5;omega))
        (.inr ⟨λv Y=>by
         simp only[av]at Y;obtain⟨u,_,rfl⟩:=Y;exact TV.kill_free id u,λk b O a' a9=>by
         rw[E_]at O;cases hl:Ab aB k with
         |none=>rw[hl]at O;simp at O
         |some b'=>
          rw[hl]at O;simp at O;subst O;simp only[Box.kill,av]at a9;obtain⟨u,_,rfl⟩:=a9;exact AC.kill_free id u⟩)
       refine HH h9 (G _ _ _ _ _ _ _ h a1 ?_ ?_)
       ·refine TVR.c' ⟨by simp only[BG],by simpa using q2,?_⟩;rcases p2.2 with⟨e1,e2⟩|⟨g',oo,cap,cur,e1,_⟩
        ·exact .inl ⟨e1,by simpa [Row.n]using e2⟩
        ·exact .inr ⟨g',oo,cap,by simpa [Row.n]using e1⟩
       ·intro c M;simp at M;subst M;exact⟨_,Eu _ _ _ _ S,by simp[Row.n],rfl⟩
    ·simp at h
   ·simp at h
  ·simp at h
 |call f args=>
  obtain⟨xs,X,U,V⟩:=hp;simp only[A0]at h;split at h
  ·rename_i g hg;split at h
   ·rename_i as has;obtain⟨b4,f1⟩:=Qrz has;have l2:=a4.1 f g hg;obtain⟨v,mem',Y,l3⟩:=l2.run h;split at Y
    ·cases b7:((!(args.any TV.hasOwn)||v.flat)&&v.plainB)<;>rw[b7]at Y
     ·simp at Y
     ·simp only[ag]at Y;simp only[ai]at b7
      let c8:Nat->Prop:=λb=>ρ.im b\/(args.any TV.hasOwn=true/\∃id D,Ab aC id=some D/\(ρ.rv id).ownBlock=some b)
      have i1:∀b,c8 b->b<w.heap.size:=by
       rintro b (I|⟨_,id,D,S,I⟩)
       ·exact(T.ib b I).1
       ·exact(T.rwlt S I).2
      have c5:∀(i:Nat) (a0:TV),args[i]? =some a0->args.any TV.hasOwn=false->a0.hasOwn=false:=by
       intro i a0 b8 f2;cases hh:a0.hasOwn
       ·rfl
       ·exact absurd (List.any_eq_true.2 ⟨a0,bj b8,hh⟩) (by rw[f2];simp)
      have i2:∀(i:Nat) (a':TV) (x:Value),as[i]? =some a'->xs[i]? =some x->TVR {ρ with im:=c8} w a' x:=by
       intro i a' x a9 hx;obtain⟨_,a0,b8,S⟩:=f1 i a' a9;have d4:∀(a:AC) (y:Value),CP ρ.im w a y->CP c8 w a y:=λa y hh=>CP.mono (λ_ h=> .inl h) (λ_ _=>rfl) a y hh;cases b1:args.any TV.hasOwn
       ·have f2:=c5 i a0 b8 b1;have l4:a0=a':=Z0s f2 S;subst l4;exact Q4b (f1 i a0 a9).1 (λa y _ hh=>d4 a y hh) (U i a0 x b8 hx)
       ·refine Zep (aB:=aB) ?_ S (a2 a0 (bj b8)) (U i a0 x b8 hx);intro b b' y I hy l9;cases b<;>simp only[AC.res]at I<;>try (simp at I;done)
        case own id w1 n1=>
         split at I
         ·rename_i D d5;simp at I;subst I;obtain⟨q1,q2,_,ys,q3,q4⟩:=T.ro id D d5;obtain⟨c1,c2,c3⟩:=hy;subst c1;exact Ys q3 (q4.mono (λ_ h=> .inl h) (λ_ _=>rfl)) (λg hg=> .inr ⟨b1,id,D,d5,hg⟩)
         ·simp at I
        all_goals
         simp at I;subst I;exact d4 _ _ hy
      have l5:Gt (λb=>b<w.heap.size) w:=Z.gt.mono λg cs _ hg=>⟨T.fs g hg,T.fr.block g hg⟩;have f3:RelE (DS (λb=>b<w.heap.size) w {ρ with im:=c8} [] l5) as [] [] {ρ with im:=c8} xs.toArray w:=by
       refine⟨by simp[b4,X],λi a hi=> ?_,λa ha=> ?_,λk b O=>by simp[Ab]at O,λk b O=>by simp[Ab]at O,λk k' b b' O=>by simp[Ab]at O,λid r hr=>by simp[Ab]at hr,
        λid id' r r' g hr=>by simp[Ab]at hr,λk b id r O=>by simp[Ab]at O,λb hb=>⟨i1 b hb,λk bo O=>by simp[Ab]at O,λid r hr=>by simp[Ab]at hr⟩,Fr.refl _ _,λ_ h=>h,λ_ h=>h,λb h=> .inl h,λk b O=>by simp[DS,Ab]at O⟩
       ·have i3:i<xs.length:=by rw[X,<-b4];exact(fg.1 hi).1
        have e:xs.toArray.getD i undef=xs[i]:=by simp[Array.getD,i3]
        rw[e];exact i2 i a _ hi (al i3)
       ·obtain⟨i,hi⟩:=List.getElem?_of_mem ha;exact I3 (f1 i a hi).1
      refine LJ V ((l3 _ xs f3).mono ?_);rintro e w' ⟨x,ρ',he,a6⟩;have b0:Below w.heap.size w w':=⟨a6.fr.os,a6.fr.tape,a6.fr.output,a6.fr.size,λk O=>a6.fr.block k O⟩;have i4:TVR ρ' w' v x:=by simpa using a6.tv 0 v rfl
      by_cases b1:args.any TV.hasOwn=true
      ·have f4:v.flat=true:=by have:=b7.1;rw[b1]at this;simpa using this
       have f5:RelE Z tm aB aC ρ tmps w':=T.growIm (im':=ρ.im) b0 (λ_ h=>h) (λ_ h=> .inl h);exact⟨x,he,G v _ _ _ ρ x w' Y f5 (Zrl f4 i4) (I3 b7.2)⟩
      ·have f5 : RelE Z tm aB aC { ρ with im := ρ'.im } tmps w' := T.growIm b0 (λb hb => a6.i0 b (.inl hb)) (λb hb => by
        rcases a6.i1 b hb with I|I
        ·rcases I with I|⟨I,_⟩
         ·exact .inl I
         ·exact absurd I b1
        ·exact .inr ⟨Nat.not_lt.1 I,(a6.ib b hb).1⟩)
       exact⟨x,he,G v _ _ _ _ x w' Y f5 (Q4b (ρ:=ρ') (ρ2:={ρ with im:=ρ'.im}) b7.2 (λ_ _ _ h=>h) i4) (I3 b7.2)⟩
    ·simp at Y
   ·simp at h
  ·simp at h
 |callM f args=>
  obtain⟨xs,X,U,V⟩:=hp;exact Zob a4 T X U V a2 h G
 |callD f args=>
  obtain⟨xs,X,U,V⟩:=hp;exact Zh1 a4 T X U V a2 h G
 |callF f args=>
  obtain⟨xs,X,U,V⟩:=hp;exact Z85 a4 T X U V a2 h G
 |appD e ks bytes s x=>simp[Prim.isApp]at c9
theorem Znp (I:Ai P C) (U:RelE Z tm aB aC ρ tmps w) {o:Oper} {a:Act} {p:Prim} (V:Jb P ρ w a.eval o p) (N:Prim.wf aB aC p) {K:TV->St->Option R} {r:R}
  (h:A0 C o.dst p ⟨tm,aB,aC⟩ K=some r) {next:Act->World->Prop} {Q:Exit->Act->World->Prop}
  (L:∀(v:TV) (O:List TV) (D:List (Nat×Box)) (G:List (Nat×Row)) (T:Env) (x:Value) (w':World),K v ⟨O,D,G⟩=some r->RelE Z O D G T tmps w'->TVR T w' v x->TV.wf D G v->next (a.put o.dst x) w'):
  o.wp P a w next Q:=by
 cases S:Prim.isApp (some p)
 ·exact Qou I U V N S h L
 ·cases p<;>simp[Prim.isApp]at S
  rename_i e ks bytes s x;by_cases M:s= .nilSl
  ·subst M;simp only[A0]at h;split at h
   ·rename_i m hm;split at h
    ·rename_i d hd;have h':A0 C o.dst (.append e ks bytes .nilSl x) ⟨tm,aB,aC⟩ (λv s=>K v ⟨s.tmps.map (TV.kill d),s.aB.map λp=>(p.1,p.2.kill d),s.aC⟩)=some r:=by
      simp only[A0,hm,hd];split at h
      ·simp at h
      ·rename_i hn;simp only[AW]at h⊢;exact h
     refine Qou I U (p:= .append e ks bytes .nilSl x) V N rfl h' ?_;intro v O D G T y w' hK X hv Y;refine L _ _ _ _ T y w' hK (X.kill d) hv ?_;have a0:∀k,Ab (D.map λp=>(p.1,p.2.kill d)) k=(Ab D k).map (Box.kill d):=λk=>E_ (Box.kill d) D k;exact TV.wf_mono (λa=>AC.wf_mono (λk b hk=>⟨b.kill d,by rw[a0,hk];rfl⟩) (λk r hk=>⟨r,hk,rfl,rfl⟩)) Y
    ·simp at h
   ·simp at h
  ·have h':A0 C o.dst (.append e ks bytes s x) ⟨tm,aB,aC⟩ K=some r:=by
    simp only[A0]at h⊢;split at h
    ·split at h
     ·exact h
     ·exact absurd rfl M
     ·simp at h
    ·simp at h
   exact Qou I U (p:= .append e ks bytes s x) V N rfl h' L
end
open Go.RowKit
section
variable {P:Program} {C:Cfg} {R:Type}
theorem Qb4 (op:BinOp) (k:IntKind) (a b:Int) (K:AC->Option R):Gm op k a b K=(Gm op k a b some).bind K:=by
 cases op<;>simp only[Gm,af]
 all_goals first|(cases decide (b=0)<;>rfl)|(cases decide (b<0)<;>rfl)
theorem NL {i:Int}:∀(n k:Nat) {R S:Type} (f:Nat->Option R) (K:R->Option S),Gy i n k (λj=>(f j).bind K)=(Gy i n k f).bind K
 |0,k,_,_,f,K=>rfl
 |n+1,k,_,_,f,K=>by
  simp only[Gy];rw[NL n (k+1) f K];cases decide (i=(k:Int))<;>rfl
theorem Y3 (g:Int->Int->Int) (k:IntKind):∀(l:List TV) (a:Int) (K:Prim->Option R),EP g k a l K=(EP g k a l some).bind K
 |[],a,K=>by simp[EP]
 |t::l,a,K=>by
  unfold EP;split
  ·rename_i k' b;cases kEq k k'
   ·rfl
   ·exact Y3 g k l (g a b) K
  ·rfl
theorem Ztp (b:Builtin) (D:List TypeId) (args:List TV) (K:Prim->Option R):Jt P b D args K=(Jt P b D args some).bind K:=by
 unfold Jt;split
 case h_6=>exact Y3 _ _ _ _ _
 case h_7=>exact Y3 _ _ _ _ _
 case h_8=>
  split
  ·split
   ·split
    ·split
     ·cases(Nat.beq _ _&&Nat.beq _ _&&Nat.beq _ _)<;>rfl
     ·rfl
    ·rfl
   ·rfl
  ·rfl
 all_goals
  repeat' split
  all_goals rfl
theorem H1 (c:Bool) (p:Prim) (K:Prim->Option R):cond c (K p) none=(cond c (some p) none).bind K:=by cases c<;>rfl
theorem Qc (D:Operand->TV) (dst:Option Tmp) (o:Op) (K:Prim->Option R):opK P C D dst o K=(opK P C D dst o some).bind K:=by
 cases o
 case pick c a b=>
  simp only[opK];split
  ·rename_i g _;cases g<;>rfl
  ·rfl
 case build t parts=>
  simp only[opK];split
  ·cases(Ak _ _)
   ·rfl
   ·simp only[ag];split<;>rfl
  ·split
   ·split<;>rfl
   ·rfl
  ·rfl
 case buildSlice t n parts=>
  simp only[opK];split
  ·split
   ·cases(Nat.beq _ _&&Nat.beq _ _&&Nat.ble 1 _&&Nat.ble _ 65536)
    ·rfl
    ·simp only[ag];split
     ·split
      ·cases Sr C dst _<;>rfl
      ·cases(Ak AC.isClo _&&Nat.beq _ 1)<;>rfl
     ·rfl
   ·rfl
  ·rfl
 case makeSlice t len cap=>
  simp only[opK];split
  ·split
   ·split
    ·cases(Nat.beq _ _&&Nat.ble 1 _&&Nat.ble 1 _)
     ·rfl
     ·simp only[ag];exact H1 _ _ _
    ·rfl
   ·rfl
  ·rfl
 case makeFunc L a b=>
  simp only[opK];split
  ·split<;>rfl
  ·rfl
 case store t a x=>
  simp only[opK];split
  ·cases(Nat.beq _ _)
   ·rfl
   ·simp only[ag];split<;>rfl
  ·rfl
 case binOp op t x y M=>
  simp only[opK];split
  ·cases(kEq _ _||My op)
   ·rfl
   ·simp only[ag];rename_i k a k' b _ _;have G:=Qb4 op k a b (λv=>(some (Prim.val (TV.c v)):Option Prim));rw[Qb4,G];cases Gm op k a b some<;>rfl
  ·split<;>rfl
  ·split
   ·rfl
   ·rfl
   ·rename_i a b _ _ _;cases Nat.ble (a.size+b.size) 9223372036854775807<;>rfl
   ·rfl
  ·split<;>rfl
  ·split<;>rfl
  ·cases(P.eqGuardType P.depth t)
   ·simp only[aq];split<;>rfl
   ·rfl
  ·rfl
 case indexAddr t x I=>
  simp only[opK];split
  ·split
   ·exact NL _ _ (λj=>some _) K
   ·exact NL _ _ (λj=>some _) K
   ·exact NL _ _ (λj=>some _) K
   ·rfl
  ·split
   ·cases(Nat.beq _ _)
    ·rfl
    ·simp only[ag];exact H1 _ _ _
   ·cases(Nat.beq _ _)
    ·rfl
    ·simp only[ag];exact H1 _ _ _
   ·cases(Nat.beq _ _)
    ·rfl
    ·simp only[ag];exact NL _ _ (λj=>some _) K
   ·rfl
  ·rfl
 case index t x I=>
  simp only[opK];split
  ·split
   ·rename_i m _;rw[<-NL];congr 1
    funext j
    split<;>rfl
   ·rfl
  ·rfl
 case slice t x lo N mx=>
  simp only[opK];split
  ·split
   ·cases(Nat.beq _ _)
    ·rfl
    ·simp only[ag];split
     ·rfl
     ·exact H1 _ _ _
     ·exact H1 _ _ _
     ·exact H1 _ _ _
   ·split
    ·cases(Nat.beq _ _)
     ·rfl
     ·simp only[ag];exact H1 _ _ _
    ·rfl
   ·split
    ·rfl
    ·exact H1 _ _ _
    ·exact H1 _ _ _
    ·exact H1 _ _ _
   ·rfl
  ·rfl
 case call c=>
  simp only[opK];split
  ·exact Ztp _ _ _ _
  ·cases C.pure _<;>rfl
  ·split
   ·cases(Ak _ _&&Ak _ _)<;>rfl
   ·rfl
  ·rfl
 all_goals
  simp only[opK]
  repeat' split
  all_goals rfl
end
open Go.RowKit
section
variable {P:Program} {C:Cfg} {R:Type} {aB:List (Nat×Box)} {aC:List (Nat×Row)}
theorem KK {α:Type} {c:Bool} {p q:α} (h:cond c (some p) none=some q):c=true/\p=q:=by cases c<;>simp at h;exact⟨rfl,h⟩
theorem RY (k:IntKind) (n:Int):TV.wf aB aC (.c (.int k n)):=by intro a D;simp at D;subst D;trivial
theorem Fk (b:Bool):TV.wf aB aC (.c (.bool b)):=by intro a D;simp at D;subst D;trivial
theorem Cn {a:AC} (h:AC.wf aB aC a):TV.wf aB aC (.c a):=by intro b hb;simp at hb;subst hb;exact h
theorem EM {a:AC} (h:TV.wf aB aC (.c a)):AC.wf aB aC a:=h a (by simp)
theorem Qv7 (v:Value):AC.wf aB aC (Mw v):=by
 unfold Mw;split<;>trivial
theorem Qho:∀(l:List Value) (cs:List AC),IB l=some cs->∀a∈cs,AC.wf aB aC a
 |[],cs,h=>by simp[IB]at h;subst h;intro a D;simp at D
 |v::l,cs,h=>by
  simp only[IB]at h;cases I:v.oneCell'<;>rw[I]at h
  ·simp at h
  ·simp only[ag]at h;split at h
   ·rename_i G L;simp at h;subst h;intro a D;simp only[ax]at D;rcases D with rfl|D
    ·exact Qv7 v
    ·exact Qho l G L a D
   ·simp at h
theorem Ze5 (v:Value):TV.wf aB aC (ofValue v):=by
 unfold ofValue;split
 ·split
  ·rename_i h;exact Qho _ _ h
  ·trivial
 ·trivial
 ·exact Cn (Qv7 v)
theorem ZF {tm:List TV} (h:∀v∈tm,TV.wf aB aC v) (x:Operand):TV.wf aB aC (AG tm x):=by
 cases x with
 |tmp t=>
  simp only[AG,BV,List.getD];cases D:tm[t]? with
  |none=>trivial
  |some v=>exact h v (bj D)
 |const v=>exact Ze5 v
 |global=>trivial
 |func=>trivial
theorem TR {t:TypeId} {cs:List AC} (h:I9 P t=some cs):∀a∈cs,AC.wf aB aC a:=by
 unfold I9 at h;split at h
 ·split at h
  ·exact Qho _ _ h
  ·simp at h
 ·simp at h
theorem Zba {z:List AC} (D:∀a∈z,AC.wf aB aC a):∀n,∀a∈chunk z n,AC.wf aB aC a
 |0,a,h=>by simp[chunk]at h
 |n+1,a,h=>by
  simp only[chunk,bn]at h;rcases h with h|h
  ·exact D a h
  ·exact Zba D n a h
theorem TV.cells_wf {v:TV} {cs:List AC} (h:v.cells=some cs) (D:TV.wf aB aC v):∀a∈cs,AC.wf aB aC a:=by
 cases v<;>simp[TV.cells]at h
 subst h;exact D
theorem Uw {α:Type} {x:α}:∀(l:List α) (o:Nat) (D:List α),x∈splice l o D->x∈l\/x∈D
 |l,o,[],h=>by rw[Q6]at h;exact .inl h
 |[],o,_::_,h=>by simp[splice]at h
 |y::l,0,v::D,h=>by
  simp only[splice,ax]at h;rcases h with rfl|h
  ·exact .inr (by simp)
  ·rcases Uw l 0 D h with h|h
   ·exact .inl (by simp[h])
   ·exact .inr (by simp[h])
 |y::l,o+1,v::D,h=>by
  simp only[splice,ax]at h;rcases h with rfl|h
  ·exact .inl (by simp)
  ·rcases Uw l o (v::D) h with h|h
   ·exact .inl (by simp[h])
   ·exact .inr h
theorem UO {place:Nat->Option (Nat×Nat)}:∀(parts:List (Nat×TV)) (z cs:List AC),Gc place z parts=some cs->(∀a∈z,AC.wf aB aC a)->(∀p∈parts,TV.wf aB aC p.2)->∀a∈cs,AC.wf aB aC a
 |[],z,cs,h,G,_=>by simp[Gc]at h;subst h;exact G
 |(i,v)::parts,z,cs,h,G,L=>by
  simp only[Gc]at h;split at h
  ·rename_i off size l M N;cases hb:(Nat.beq l.length size&&Nat.ble (off+size) z.length)<;>rw[hb]at h
   ·simp at h
   ·refine UO parts _ _ h (λa D=> ?_) (λp I=>L p (by simp[I]));rcases Uw _ _ _ D with D|D
    ·exact G a D
    ·exact TV.cells_wf N (L (i,v) (by simp)) a D
  ·simp at h
theorem RN {G:Operand->TV} (D:∀x,TV.wf aB aC (G x)):∀(l:List (Nat×Operand)),∀p∈Ff G l,TV.wf aB aC p.2
 |[],p,h=>by simp[Ff]at h
 |x::l,p,h=>by
  simp only[Ff,ax]at h;rcases h with rfl|h
  ·exact D _
  ·exact RN D l p h
theorem OF {G:Operand->TV} (D:∀x,TV.wf aB aC (G x)):∀(l:List Operand),∀v∈BU G l,TV.wf aB aC v
 |[],p,h=>by simp[BU]at h
 |x::l,p,h=>by
  simp only[BU,ax]at h;rcases h with rfl|h
  ·exact D _
  ·exact OF D l p h
theorem QV {g:Bool} {sz off:Nat} {cells:List AC} {v:TV} (h:CJ g sz cells off=some v) (L:∀a∈cells,AC.wf aB aC a):TV.wf aB aC v:=by
 unfold CJ at h;cases g
 ·simp only[aq]at h;split at h
  ·rename_i c D;simp at h;subst h;exact Cn (L _ (bj D))
  ·simp at h
 ·simp only[ag]at h;cases G:Nat.ble (off+sz) cells.length<;>rw[G]at h
  ·simp at h
  ·simp at h;subst h;intro c I;exact L c (dx (fd I))
theorem Qvy {t:TypeId} {cs:List AC} {off:Nat} {v:TV} (h:Ni P t cs off=some v) (D:∀a∈cs,AC.wf aB aC a):TV.wf aB aC v:=by
 unfold Ni at h;split at h
 ·exact QV h D
 ·simp at h
theorem Znm {op:BinOp} {k:IntKind} {a b:Int} {c:AC} (h:Gm op k a b some=some c):AC.wf aB aC c:=by
 cases op<;>simp only[Gm]at h
 case quo=>cases hb:decide (b=0)<;>rw[hb]at h<;>simp at h;subst h;trivial
 case rem=>cases hb:decide (b=0)<;>rw[hb]at h<;>simp at h;subst h;trivial
 case shl=>cases hb:decide (b<0)<;>rw[hb]at h<;>simp at h;subst h;trivial
 case shr=>cases hb:decide (b<0)<;>rw[hb]at h<;>simp at h;subst h;trivial
 all_goals (simp at h;subst h;trivial)
theorem Qdo (g:Int->Int->Int) (k:IntKind):∀(l:List TV) (a:Int) (p:Prim),EP g k a l some=some p->Prim.wf aB aC p
 |[],a,p,h=>by simp[EP]at h;subst h;exact RY _ _
 |t::l,a,p,h=>by
  unfold EP at h;split at h
  ·rename_i k' b;cases D:kEq k k'<;>rw[D]at h
   ·simp at h
   ·exact Qdo g k l _ p h
  ·simp at h
theorem Zhq (k:Kd) (a:AC):(LQ k a).calm=true:=by
 cases k<;>try rfl
 cases a<;>rfl
theorem Q96:∀(ks:List Kd) (cs:List AC) (j:Nat),Ak AC.calm (Er ks cs j)=true
 |[],_,_=>rfl
 |k::ks,cs,j=>by simp only[Er,Ak,Zhq,ag];exact Q96 ks cs (j+1)
theorem Qxu {cs:List AC} (h:Ak AC.calm cs=true):∀a∈cs,AC.wf aB aC a:=by
 intro a D;have:=Au.1 h a D;cases a<;>first|trivial|(simp[AC.calm]at this)
theorem Qgj:∀{l:List TV} {as:List AC},Jh l=some as->(∀v∈l,TV.wf aB aC v)->∀a∈as,AC.wfP aB a
 |[],as,h,_=>by simp[Jh]at h;subst h;intro a G;simp at G
 |v::l,as,h,D=>by
  unfold Jh at h;split at h
  ·simp at*
  ·rename_i a N heq;simp only[d7]at heq;obtain⟨rfl,rfl⟩:=heq;cases I:a.clOk<;>rw[I]at h
   ·simp at h
   ·simp only[ag]at h;split at h
    ·rename_i r L;simp at h;subst h;intro b hb;simp only[ax]at hb;rcases hb with rfl|hb
     ·have:=D (.c b) (by simp) b (by simp);cases b<;>first|exact this|trivial
     ·exact Qgj L (λv M=>D v (by simp[M])) b hb
    ·simp at h
  ·simp at h
theorem Qax {ev:Operand->TV} (G:∀x,TV.wf aB aC (ev x)) {dst:Option Tmp} {o:Op} {p:Prim} (h:opK P C ev dst o some=some p):Prim.wf aB aC p:=by
 cases o<;>simp only[opK]at h<;>try (simp at h;done)
 case move x=>simp at h;subst h;exact G x
 case assign x=>simp at h;subst h;exact G x
 case pick c a b=>
  split at h
  ·rename_i g _;cases g<;>simp at h<;>subst h
   ·exact G b
   ·exact G a
  ·simp at h
 case alloc t=>
  split at h
  ·rename_i cs T;simp at h;subst h;exact TR T
  ·simp at h
 case box t x=>
  split at h
  ·rename_i cs hc;simp at h;subst h;exact TV.cells_wf hc (G x)
  ·simp at h
 case build t parts=>
  split at h
  ·rename_i z fs T hu;cases V:(Ak (Ls P) fs.toList)<;>rw[V]at h
   ·simp at h
   ·simp only[ag]at h;split at h
    ·rename_i cs hb;simp at h;subst h;exact UO _ _ _ hb (TR T) (RN G _)
    ·simp at h
  ·rename_i z n el T hu;split at h
   ·split at h
    ·rename_i cs hb;simp at h;subst h;exact UO _ _ _ hb (TR T) (RN G _)
    ·simp at h
   ·simp at h
  ·simp at h
 case buildSlice t n parts=>
  split at h
  ·split at h
   ·cases hb:(Nat.beq _ _&&Nat.beq _ _&&Nat.ble 1 _&&Nat.ble _ 65536)<;>rw[hb]at h
    ·simp at h
    ·simp only[ag]at h;split at h
     ·rename_i T _ _ cs a1;split at h
      ·cases a2:Sr C dst n<;>rw[a2]at h<;>simp at h<;>subst h<;>trivial
      ·cases U:(Ak AC.isClo cs&&Nat.beq _ 1)<;>rw[U]at h
       ·simp at h
       ·simp only[ag]at h;simp at h;subst h;refine UO _ _ _ a1 (λa O=> ?_) (RN G _);exact Zba (TR T) _ a O
     ·simp at h
   ·simp at h
  ·simp at h
 case makeSlice t len cap=>
  split at h
  ·split at h
   ·split at h
    ·cases hb:(Nat.beq _ _&&Nat.ble 1 _&&Nat.ble 1 _)<;>rw[hb]at h
     ·simp at h
     ·simp only[ag]at h;obtain⟨_,rfl⟩:=KK h;trivial
    ·simp at h
   ·simp at h
  ·simp at h
 case makeFunc fn a b=>
  split at h
  ·split at h
   ·rename_i fs cs a3 a4;simp at h;subst h;exact Cn ⟨Qgj a3 (OF G _),Qgj a4 (OF G _)⟩
   ·simp at h
  ·simp at h
 case load t a=>
  split at h
  ·have O:=G a;split at h
   ·rename_i key off D;simp at h;subst h;rw[D]at O;exact EM O
   ·rename_i cells sub D;split at h
    ·rename_i v N;simp at h;subst h;rw[D]at O;exact QV N (Qxu (EM O))
    ·simp at h
   ·rename_i id idx sub D;simp at h;subst h;rw[D]at O;exact EM O
   ·simp at h
  ·simp at h
 case store t a x=>
  split at h
  ·rename_i sz cs hs hc;cases hb:(Nat.beq cs.length sz)<;>rw[hb]at h
   ·simp at h
   ·simp only[ag]at h;have O:=G a;split at h
    ·rename_i key off D;simp at h;subst h;rw[D]at O;exact⟨EM O,TV.cells_wf hc (G x)⟩
    ·rename_i id idx sub D;simp at h;subst h;rw[D]at O;exact EM O
    ·simp at h
  ·simp at h
 case nilCheck x=>
  have I:=G x;split at h
  all_goals first|(simp at h;done)|(rename_i D;simp at h;subst h;rw[D]at I;exact I)
 case binOp op t x y yt=>
  split at h
  ·cases hk:(kEq _ _||My op)<;>rw[hk]at h
   ·simp at h
   ·simp only[ag]at h;rename_i k a k' b _ _;rw[Qb4]at h;cases X:Gm op k a b some with
    |none=>rw[X]at h;simp at h
    |some c=>rw[X]at h;simp at h;subst h;exact Cn (Znm X)
  ·split at h
   ·simp at h;subst h;exact Fk _
   ·simp at h;subst h;exact Fk _
   ·simp at h
  ·split at h
   ·simp at h;subst h;exact Fk _
   ·simp at h;subst h;exact Fk _
   ·rename_i a b _ _ _;cases hb:Nat.ble (a.size+b.size) 9223372036854775807<;>rw[hb]at h
    ·simp at h
    ·simp at h;subst h;exact Cn trivial
   ·simp at h
  ·split at h
   ·simp at h;subst h;exact Fk _
   ·simp at h;subst h;exact Fk _
   ·simp at h
  ·split at h
   ·simp at h;subst h;exact Fk _
   ·simp at h;subst h;exact Fk _
   ·simp at h
  ·cases hg:P.eqGuardType P.depth t<;>rw[hg]at h
   ·simp only[aq]at h;split at h
    ·simp at h;subst h;exact Fk _
    ·simp at h;subst h;exact Fk _
    ·simp at h
   ·simp at h
  ·simp at h
 case unOp a5 t x=>
  split at h
  ·simp at h;subst h;exact RY _ _
  ·simp at h;subst h;exact Fk _
  ·simp at h
 case convert src dst x=>
  split at h
  ·simp at h;subst h;exact RY _ _
  ·simp at h
 case fieldAddr t x i=>
  split at h
  ·split at h
   ·have I:=G x;split at h
    ·rename_i D;simp at h;subst h;rw[D]at I;have q:=EM I;exact Cn q
    ·rename_i D;simp at h;subst h;rw[D]at I;have q:=EM I;exact Cn q
    ·rename_i D;simp at h;subst h;rw[D]at I;have q:=EM I;exact Cn q
    ·simp at h
   ·simp at h
  ·simp at h
 case field t x i=>
  split at h
  ·rename_i f cs hf D;split at h
   ·rename_i v Y;simp at h;subst h;have I:=G x;rw[D]at I;exact Qvy Y I
   ·simp at h
  ·simp at h
 case indexAddr t x ix=>
  split at h
  ·have I:=G x;split at h
   ·rename_i D;obtain⟨j,L,_⟩:=HJ h;simp at L;subst L;rw[D]at I;have q:=EM I;exact Cn q
   ·rename_i D;obtain⟨j,L,_⟩:=HJ h;simp at L;subst L;rw[D]at I;have q:=EM I;exact Cn q
   ·rename_i D;obtain⟨j,L,_⟩:=HJ h;simp at L;subst L;rw[D]at I;have q:=EM I;exact Cn q
   ·simp at h
  ·have I:=G x;split at h
   ·rename_i m ks l hm D;cases hb:Nat.beq m ks.length<;>rw[hb]at h
    ·simp at h
    ·simp only[ag]at h;obtain⟨_,rfl⟩:=KK h;exact Cn (Q96 _ _ _)
   ·rename_i m id wd n hm D;cases hb:Nat.beq m wd<;>rw[hb]at h
    ·simp at h
    ·simp only[ag]at h;obtain⟨hd,rfl⟩:=KK h;rw[D]at I;obtain⟨r,L,h2,h3⟩:=EM I;simp at hd;exact Cn ⟨r,L,by omega⟩
   ·rename_i m key n hm D;cases hb:Nat.beq m 1<;>rw[hb]at h
    ·simp at h
    ·simp only[ag]at h;obtain⟨j,L,_⟩:=HJ h;simp at L;subst L;rw[D]at I;have q:=EM I;exact Cn q
   ·simp at h
  ·simp at h
 case index t x ix=>
  split at h
  ·rename_i i n el cs X hu D;split at h
   ·obtain⟨j,L,_⟩:=HJ h;have I:=G x;rw[D]at I;split at L
    ·rename_i v Y;simp at L;subst L;exact Qvy Y I
    ·simp at L
   ·simp at h
  ·simp at h
 case slice t x lo X mx=>
  split at h
  ·split at h
   ·rename_i m ks l hm D;cases hb:Nat.beq m ks.length<;>rw[hb]at h
    ·simp at h
    ·simp only[ag]at h;split at h
     ·simp at h;subst h;exact Cn trivial
     all_goals
      obtain⟨_,rfl⟩:=KK h;exact Cn trivial
   ·split at h
    ·cases hb:Nat.beq _ _<;>rw[hb]at h
     ·simp at h
     ·simp only[ag]at h;obtain⟨_,rfl⟩:=KK h;trivial
    ·simp at h
   ·split at h
    ·simp at h;subst h;exact Cn trivial
    all_goals
     obtain⟨_,rfl⟩:=KK h;exact Cn trivial
   ·simp at h
  ·simp at h
 case extract t i=>
  have ht:=G t;split at h
  ·rename_i ps D;split at h
   ·rename_i g cs hg;simp at h;subst h;rw[D]at ht;exact ht (g,cs) (bj hg)
   ·simp at h
  ·simp at h
 case call c=>
  split at h
  ·rename_i b hb;have M:=OF G c.args.toList
   revert M h
   generalize BU ev c.args.toList=args;intro h M;unfold Jt at h;split at h
   case h_6=>exact Qdo _ _ _ _ _ h
   case h_7=>exact Qdo _ _ _ _ _ h
   case h_8=>
    rename_i s x
    repeat' split at h
    all_goals try (simp at h;done)
    obtain⟨_,rfl⟩:=KK h;exact⟨EM (M _ (by simp)),EM (M _ (by simp))⟩
   all_goals
    repeat' split at h
    all_goals first|(simp at h;done)|(simp at h;subst h;exact RY _ _)
  ·rename_i f hf;cases Y:C.pure f<;>rw[Y]at h<;>simp at h<;>subst h<;>exact OF G _
  ·rename_i t ht;split at h
   ·rename_i f fs cs U;cases S:(Ak AC.clOk fs&&Ak AC.clOk cs)<;>rw[S]at h
    ·simp at h
    simp only[ag,am]at h;subst h;simp only[ai]at S;have N:=G (.tmp t);rw[U]at N;have hq:=EM N;have a0:∀l:List AC,(∀a∈l,AC.wfP aB a)->Ak AC.clOk l=true->∀v∈l.map TV.c,TV.wf aB aC v:=by
     intro l L h2 v N;simp only[av]at N;obtain⟨a,O,rfl⟩:=N;have q1:=L a O;have q2:=Au.1 h2 a O;cases a<;>first|exact Cn q1|(simp[AC.clOk]at q2;done)|exact Cn trivial
    intro v N;rcases bn.1 N with N|N
    ·exact a0 fs hq.1 S.1 v N
    ·rcases bn.1 N with N|N
     ·exact OF G _ v N
     ·exact a0 cs hq.2 S.2 v N
   ·simp at h
  ·simp at h
end
open Go.RowKit
def Rel (Z:Base) (s:St) (tmps:Array Value) (w:World):Prop:=∃ρ,RelE Z s.tmps s.aB s.aC ρ tmps w
section
variable {P:Program} {C:Cfg} {w:World} {R:Type} {Z:Base}
theorem RelE.put {ρ:Env} {tm:List TV} {aB:List (Nat×Box)} {aC:List (Nat×Row)} {tmps:Array Value} (h:RelE Z tm aB aC ρ tmps w) (d:Nat) {v:TV} {x:Value} (L:TVR ρ w v x) (M:TV.wf aB aC v):
  RelE Z (setL tm d v) aB aC ρ (tmps.setIfInBounds d x) w:=by
 rw[Im];refine⟨by simp[h.tl],λi u D=> ?_,λu G=> ?_,h.wb,h.bx,h.bi,h.ro,h.ri,h.br,h.ib,h.fr,h.fs,h.i0,h.i1,h.k0⟩
 ·rw[i7]at D;by_cases hid:d=i
  ·subst hid;simp only[dq]at D;split at D
   ·rename_i I;simp at D;subst D;have:d<tmps.size:=by rw[<-h.tl];exact I
    simpa [Array.getD,this]using L
   ·simp at D
  ·rw[aa hid]at D;have:=h.tv i u D;have e:(tmps.setIfInBounds d x).getD i undef=tmps.getD i undef:=by
    simp[fx,Array.getElem?_setIfInBounds_ne hid]
   rw[e];exact this
 ·rcases f7 G with G|rfl
  ·exact h.wt u G
  ·exact M
theorem RelE.learn {ρ:Env} {tm:List TV} {aB:List (Nat×Box)} {aC:List (Nat×Row)} {tmps:Array Value} (h:RelE Z tm aB aC ρ tmps w) (d:Nat) {v:TV} (I:TVR ρ w v (tmps.getD d undef)) (L:TV.wf aB aC v):
  RelE Z (setL tm d v) aB aC ρ tmps w:=by
 rw[Im];refine⟨by simp[h.tl],λi u D=> ?_,λu G=> ?_,h.wb,h.bx,h.bi,h.ro,h.ri,h.br,h.ib,h.fr,h.fs,h.i0,h.i1,h.k0⟩
 ·rw[i7]at D;by_cases hid:d=i
  ·subst hid;simp only[dq]at D;split at D
   ·simp at D;subst D;exact I
   ·simp at D
  ·rw[aa hid]at D;exact h.tv i u D
 ·rcases f7 G with G|rfl
  ·exact h.wt u G
  ·exact L
theorem EC (s:St) (d:Option Tmp) (v:TV) (K:St->Option R):put s d v K=K (match d with|none=>s|some t=>⟨setL s.tmps t v,s.aB,s.aC⟩):=by
 obtain⟨tm,aB,aC⟩:=s;cases d with
 |none=>rfl
 |some t=>simp only[put,AW]
theorem TU {ρ:Env} {tm:List TV} {aB:List (Nat×Box)} {aC:List (Nat×Row)} {a:Act} (h:RelE Z tm aB aC ρ a.tmps w) (x:Operand):TVR ρ w (AG tm x) (a.eval x):=by
 cases x with
 |tmp t=>
  simp only[AG,BV,List.getD,Act.eval];cases D:tm[t]? with
  |none=>trivial
  |some v=>exact h.tv t v D
 |const v=>exact Z5x v
 |global=>trivial
 |func=>trivial
theorem T8:∀(l:List Nat) (s:St) (tmps:Array Value),Rel Z s tmps w->∀(K:St->Option R) (r:R),In l s K=some r->∃I,K I=some r/\Rel Z I tmps w
 |[],s,tmps,D,K,r,h=>⟨s,h,D⟩
 |id::l,s,tmps,D,K,r,h=>by
  obtain⟨tm,aB,aC⟩:=s;simp only[In]at h;split at h
  ·rename_i L G;simp only[AW]at h;obtain⟨ρ,D⟩:=D;exact T8 l _ tmps ⟨_,D.freeze G⟩ K r h
  ·exact T8 l _ tmps D K r h
theorem Z86 {k o:Nat} {e:TypeId} {s:St} {tmps:Array Value} (D:Rel Z s tmps w) {K:St->Option R} {r:R} (h:LW P k o e s K=some r):∃I,K I=some r/\Rel Z I tmps w:=by
 obtain⟨tm,aB,aC⟩:=s;obtain⟨ρ,D⟩:=D;simp only[LW]at h;split at h
 ·rename_i b L;split at h
  ·rename_i M;split at h
   ·rename_i ks N;cases G:(Nat.ble 1 ks.length&&HN aC (1000000+1000*k+o))<;>rw[G]at h
    ·simp at h
    ·simp only[ag,AW]at h;simp only[ai]at G;exact⟨_,h,_,D.promB L M (Qir G.2) (ay G.1)⟩
   ·simp at h
  ·exact⟨_,h,ρ,D⟩
 ·exact⟨_,h,ρ,D⟩
theorem Qua:∀(l:List (Nat×Nat×TypeId)) (s:St) (tmps:Array Value),Rel Z s tmps w->∀(K:St->Option R) (r:R),IS P l s K=some r->∃D,K D=some r/\Rel Z D tmps w
 |[],s,tmps,G,K,r,h=>⟨s,h,G⟩
 |(k,o,e)::l,s,tmps,G,K,r,h=>by
  simp only[IS]at h;obtain⟨D,h',I⟩:=Z86 G h;exact Qua l D tmps I K r h'
theorem PO:∀(l:List (Nat×TypeId)) (s:St) (tmps:Array Value),Rel Z s tmps w->∀(K:St->Option R) (r:R),IP P l s K=some r->∃T,K T=some r/\Rel Z T tmps w
 |[],s,tmps,G,K,r,h=>⟨s,h,G⟩
 |(t,e)::l,s,tmps,G,K,r,h=>by
  obtain⟨tm,aB,aC⟩:=s;simp only[IP]at h;split at h
  ·rename_i L;split at h
   ·rename_i ks D V;cases U:Nat.ble 1 ks.length<;>rw[U]at h
    ·simp at h
    ·simp only[ag,AW]at h;refine PO l _ tmps ?_ K r h;obtain⟨ρ,G⟩:=G;have M:=G.addRow (d:=t) D (r:=⟨e,ks,[]⟩) (v':= .slice none 0 0) (xs:=[]) (w':=w) (Below.refl _ _) (ay U) (W7 w e ks.length) ⟨by simp,by simp,λi c X=>by simp at X⟩ (λg Y=>by simp[Value.ownBlock]at Y);refine⟨_,M.learn t ?_ (Cn ⟨_,Ed _ _ _ D,rfl,rfl⟩)⟩;have hv:tmps.getD t undef= .slice none 0 0:=by
      have N:t<tm.length:=by
       rcases ju t tm.length with O|S
       ·exact O
       ·rw[BV,List.getD,db S]at L;simp at L
      have I:tm[t]? =some (.c .nilSl):=by
       rw[BV,List.getD]at L;rw[al N]at L⊢;simpa using L
      have:=(G.tv t _ I).c;simpa [CC,CP]using this
     rw[hv];exact TVR.c' ⟨by simp only[BG],by simp only[BG], .inl ⟨rfl,rfl⟩⟩
   ·simp at h
  ·exact PO l _ tmps G K r h
theorem LZ {s:St} {tmps:Array Value} (L:Rel Z s tmps w) {K:St->Option R} {r:R} (h:HP P C s K=some r):∃G,K G=some r/\Rel Z G tmps w:=by
 unfold HP at h;obtain⟨G,h',ρ,D⟩:=Qua _ s tmps L _ r h;obtain⟨tm,aB,aC⟩:=G;simp only[AW]at h';refine PO _ _ tmps ?_ K r h';refine⟨ρ,?_⟩;refine D.reBox (g:=λ_ b=>SE P b) (λ_ b=> ?_) λk b I=> ?_
 ·unfold SE;split<;>rfl
 ·unfold SE;split
  ·rename_i ks _;exact⟨λxs h=>KE ks b.cells xs h,Nb ks b.cells (D.wb k b I)⟩
  ·exact⟨λxs h=>h,D.wb k b I⟩
theorem Z4u {o:Op} {s:St} {tmps:Array Value} (L:Rel Z s tmps w) {K:St->Option R} {r:R} (h:Ie P C o s K=some r):∃I,K I=some r/\Rel Z I tmps w:=by
 unfold Ie at h;obtain⟨s1,G,D⟩:=T8 _ s tmps L _ r h;cases M:Wj C o<;>rw[M]at G
 ·exact⟨s1,G,D⟩
 ·exact LZ D G
theorem Z7g {pre:Bool} {ρ:Env} {e:Operand->Value} {o:Oper} {p:Prim} (h:Jb P ρ w e o p):Jb P ρ w e o (p.dr pre):=by
 cases pre<;>cases p<;>first|exact h|(simp only[Prim.dr];cases Ak TV.plainB _<;>exact h)
theorem YJ {pre:Bool} {bx:List (Nat×Box)} {aC:List (Nat×Row)} {p:Prim} (h:Prim.wf bx aC p):Prim.wf bx aC (p.dr pre):=by
 cases pre<;>cases p<;>first|exact h|(simp only[Prim.dr];cases Ak TV.plainB _<;>exact h)
theorem Q9p (D:Ai P C) (U:∀t∈C.eqOk,P.stoodInHeld t=false) {s:St} {o:Oper} {a:Act} (I:Rel Z s a.tmps w) {K:Option Prim->St->Option R} {r:R}
  {pre:Bool} (h:(opK P C (AG s.tmps) o.dst o.op λp=>A0 C o.dst (p.dr pre) s λv O=>put O o.dst v (K (some (p.dr pre))))=some r) {next:Act->World->Prop} {Q:Exit->Act->World->Prop}
  (G:∀(po:Option Prim) (O:St) (V:Act) (w':World),K po O=some r->Rel Z O V.tmps w'->(∃x,V=a.put o.dst x)->next V w'):o.wp P a w next Q:=by
 obtain⟨ρ,I⟩:=I;obtain⟨tm,aB,aC⟩:=s;have X:=λx=>TU I x;rw[Qc]at h;cases S:opK P C (AG tm) o.dst o.op some with
 |none=>rw[S]at h;simp at h
 |some p=>
  rw[S]at h;simp only[af]at h;obtain⟨p',L,M⟩:=Zd6 U X (λf=>rfl) o S;simp at L;subst L;have Y:=Qax (aB:=aB) (aC:=aC) (λx=>ZF I.wt x) S;refine Znp D I (Z7g M) (YJ Y) h ?_;intro v a2 T a0 ρ' x w' hK N hv a1;rw[EC]at hK;refine G (some (p'.dr pre)) _ _ w' hK ?_ ?_
  ·cases hd:o.dst with
   |none=>exact⟨ρ',N⟩
   |some d=>exact⟨ρ',N.put d hv a1⟩
  ·exact⟨x,rfl⟩
theorem WH (D:Ai P C) (I:∀t∈C.eqOk,P.stoodInHeld t=false) {pre:Bool} {s:St} {o:Oper} {a:Act} (O:Rel Z s a.tmps w) {K:Option Prim->St->Option R} {r:R}
  (h:((bif pre then Ie P C o.op s else λK=>K s) λs=>opK P C (AG s.tmps) o.dst o.op λp=>A0 C o.dst (p.dr pre) s λv L=>put L o.dst v (K (some (p.dr pre))))=some r) {next:Act->World->Prop} {Q:Exit->Act->World->Prop}
  (G:∀(S:Option Prim) (L:St) (M:Act) (w':World),K S L=some r->Rel Z L M.tmps w'->(∃x,M=a.put o.dst x)->next M w'):o.wp P a w next Q:=by
 cases pre
 ·exact Q9p D I O h G
 ·obtain⟨L,h',N⟩:=Z4u O h;exact Q9p D I N h' G
theorem Qx1 (L:Ai P C) (V:∀t∈C.eqOk,P.stoodInHeld t=false) {pre:Bool} {ops:Array Oper} {s:St} {o:Oper} {a:Act} (hR:Rel Z s a.tmps w) {K:Option Prim->St->Option R} {r:R}
  (h:E0 P C pre ops.toList o s K=some r) {next:Act->World->Prop} {Q:Exit->Act->World->Prop}
  (I:∀(po:Option Prim) (s':St) (a':Act) (w':World),K po s'=some r->Rel Z s' a'.tmps w'->(∃x,a'=a.put o.dst x)->next a' w'):
  if Region.wanted o (yielded ops a.tmps)=true then o.wp P a w next Q else next (a.put o.dst undef) w:=by
 have M:∀s':St,Rel Z s' a.tmps w->put s' o.dst (.tup []) (K none)=some r->next (a.put o.dst undef) w:=by
  intro s' G hp;rw[EC]at hp;refine I none _ _ w hp ?_ ⟨_,rfl⟩;obtain⟨ρ,G⟩:=G;cases hd:o.dst with
  |none=>exact⟨ρ,G⟩
  |some d=>exact⟨ρ,G.put d ⟨#[],rfl,trivial⟩ (λp hp=>by simp at hp)⟩
 unfold E0 Pq at h;cases hg:o.guard with
 |none=>
  rw[hg]at h;rw[ab (by simp[Region.wanted,hg])];exact WH L V hR h I
 |some jw=>
  obtain⟨j,want⟩:=jw;rw[hg]at h;simp only at h;split at h
  ·rename_i oj hj;split at h
   ·rename_i t ht;split at h
    ·rename_i g D;obtain⟨ρ,N⟩:=hR;have T:t<s.tmps.length:=by
      rcases ju t s.tmps.length with X|Y
      ·exact X
      ·rw[BV,List.getD,db Y]at D;simp at D
     have O:s.tmps[t]? =some (.c (.bool g)):=by
      rw[BV,List.getD]at D;rw[al T]at D⊢;simpa using D
     have S:=(N.tv t _ O).bool;have U:t<a.tmps.size:=by rw[<-N.tl];exact T
     have a0:a.tmps[t]? =some (.bool g):=by
      rw[ja U];rw[Array.getD,jh U]at S;simpa using S
     have hy:yielded ops a.tmps j=some g:=by
      unfold yielded;have a1:ops[j]? =some oj:=by simpa using hj
      simp[a1,ht,a0]
     have hl:∀b,g=b->Rel Z ⟨setL s.tmps t (.c (.bool b)),s.aB,s.aC⟩ a.tmps w:=by
      rintro b rfl;exact⟨ρ,N.learn t (by rw[S];exact TVR.mkBool _) (Fk _)⟩
     have hw:Region.wanted o (yielded ops a.tmps)=(g==want):=by
      simp only[Region.wanted,hg,hy];cases g<;>cases want<;>rfl
     cases g
     ·simp only[aq]at h;rw[EC]at h;dsimp only at h;have G:=hl false rfl;cases want
      ·rw[ab (by rw[hw];rfl)];simp only[aq]at h;exact WH L V G h I
      ·rw[aa (by rw[hw];simp)];simp only[ag]at h;exact M _ G h
     ·simp only[ag]at h;rw[EC]at h;dsimp only at h;have G:=hl true rfl;cases want
      ·rw[aa (by rw[hw];simp)];simp only[aq]at h;exact M _ G h
      ·rw[ab (by rw[hw];rfl)];simp only[ag]at h;exact WH L V G h I
    ·rename_i D;obtain⟨ρ,N⟩:=hR;have T:t<s.tmps.length:=by
      rcases ju t s.tmps.length with X|Y
      ·exact X
      ·rw[BV,List.getD,db Y]at D;simp at D
     have O:s.tmps[t]? =some (.tup []):=by
      rw[BV,List.getD]at D;rw[al T]at D⊢;simpa using D
     obtain⟨ys,a2,S⟩:=N.tv t _ O;have U:t<a.tmps.size:=by rw[<-N.tl];exact T
     have a0:a.tmps[t]? =some (.tuple ys):=by
      rw[ja U];rw[Array.getD,jh U]at a2;simpa using a2
     have hy:yielded ops a.tmps j=none:=by
      unfold yielded;have a1:ops[j]? =some oj:=by simpa using hj
      simp[a1,ht,a0]
     have hw:Region.wanted o (yielded ops a.tmps)=false:=by
      simp only[Region.wanted,hg,hy];rfl
     rw[aa (by rw[hw];simp)];exact M _ ⟨ρ,N⟩ h
    ·simp at h
   ·simp at h
  ·simp at h
theorem Xb (D:Ai P C) (M:∀t∈C.eqOk,P.stoodInHeld t=false) {pre:Bool} {ops:Array Oper} {s:St} {o:Oper} {a:Act} (O:Rel Z s a.tmps w) {K:Option Prim->St->Option R} {r:R}
  (h:E0 P C pre ops.toList o s K=some r) {next:Act->World->Prop} {Q:Exit->Act->World->Prop}
  (G:∀(N:Option Prim) (L:St) (I:Act) (w':World),K N L=some r->Rel Z L I.tmps w'->I.defers=a.defers->next I w'):
  if Region.wanted o (yielded ops a.tmps)=true then o.wp P a w next Q else next (a.put o.dst undef) w:=
 Qx1 D M O h λN L I w' S T ⟨x,U⟩=>G N L I w' S T (by subst U;cases o.dst<;>rfl)
theorem Qkq (D:Ai P C) (G:∀t∈C.eqOk,P.stoodInHeld t=false) {ops:Array Oper} {Q:Exit->Act->World->Prop} {K:St->Option R} {r:R}:
  ∀(l:List Oper) (s:St) (a:Act) (w:World),Rel Z s a.tmps w->H_ P C ops.toList l s K=some r->
  (∀(L:St) (I:Act) (w':World),K L=some r->Rel Z L I.tmps w'->I.defers=a.defers->Q .normal I w')->wpList P ops Q l a w
 |[],s,a,w,M,h,N=>N s a w h M rfl
 |o::l,s,a,w,M,h,N=>by
  simp only[H_]at h;have:=Xb (next:=wpList P ops Q l) (Q:=Q) D G M h (λpo L I w' T O U=>Qkq D G l L I w' O T (λs2 a2 V X Y h3=>N s2 a2 V X Y (h3.trans U)));simp only[wpList];split
  ·rename_i S;rw[ab S]at this;exact .inl this
  ·rename_i S;rw[aa S]at this;exact this
end
end Go.Bm
