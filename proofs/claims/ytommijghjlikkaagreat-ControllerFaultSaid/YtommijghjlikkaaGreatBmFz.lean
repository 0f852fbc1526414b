/- The abstract machine, second form: rows are frozen, tables are cut down, nil slices in boxes become rows. -/
import Derived.Test.YtommijghjlikkaaGreatBmStep
set_option linter.unusedVariables false
set_option linter.unusedSimpArgs false
namespace Go.Bm
open Go.RowKit
section
variable {P:Program} {C:Cfg} {ρ:Env} {w:World} {R:Type} {Z:Base} {tm:List TV} {boxes:List (Nat×Box)} {rows:List (Nat×Row)} {tmps:Array Value}
theorem JY {a b:Nat} (h:a≠b):Nat.beq a b=false:=by
  cases hb:Nat.beq a b
  · rfl
  · exact absurd (Nat.eq_of_beq_eq_true hb) h
theorem Gs {a b:Nat} (h:Nat.beq a b=false):a≠b:=by rintro rfl;simp at h
theorem TVR.map {ρ':Env} {w':World} {g:AC->AC} {v:TV} (hg:∀(a:AC) (x:Value),AC.wf boxes rows a->CC ρ w a x->CC ρ' w' (g a) x) (hw:TV.wf boxes rows v) {x:Value} (h:TVR ρ w v x):
    TVR ρ' w' (v.mapC g) x:=by
  have hl:∀{l:List AC} {xs:List Value},(∀a∈l,AC.wf boxes rows a)->CL (CC ρ w) l xs->CL (CC ρ' w') (l.map g) xs:=by
    intro l;induction l with
    |nil=>intro xs _ h;cases xs<;>first|exact h|exact h.elim
    |cons a l ih=>
      intro xs hh h;cases xs with
      |nil=>exact h.elim
      |cons y xs=>exact⟨hg a y (hh a (by simp)) h.1,ih (fun b hb=>hh b (by simp[hb])) h.2⟩
  cases v with
  |dead=>trivial
  |v b cs=>
    cases b
    · obtain⟨a,rfl,ha⟩:=h;exact⟨g a,rfl,hg a x (hw a (by simp)) ha⟩
    · obtain⟨ys,rfl,hy⟩:=h;exact⟨ys,rfl,hl hw hy⟩
  |tup ps=>
    obtain⟨ys,rfl,hy⟩:=h;refine⟨ys,rfl,?_⟩;generalize ys.toList=l at hy;induction ps generalizing l with
    |nil=>cases l<;>first|exact hy|exact hy.elim
    |cons p ps ih=>
      cases l with
      |nil=>exact hy.elim
      |cons y l=>
        obtain⟨b,cs⟩:=p;refine⟨?_,ih (fun q hq=>hw q (by simp[hq])) l hy.2⟩;have h1:=hy.1;have hw1:=hw (b,cs) (by simp);cases b
        · obtain⟨a,q1,q2⟩:=h1;subst q1;exact⟨g a,rfl,hg a y (hw1 a (by simp)) q2⟩
        · obtain⟨zs,q1,q2⟩:=h1;exact⟨zs,q1,hl hw1 q2⟩
theorem CL.mapg {ρ':Env} {w':World} {g:AC->AC}:∀{l:List AC} {xs:List Value},(∀(a:AC) (x:Value),AC.wf boxes rows a->CC ρ w a x->CC ρ' w' (g a) x)->(∀a∈l,AC.wf boxes rows a)->CL (CC ρ w) l xs->CL (CC ρ' w') (l.map g) xs
  |[],[],_,_,h=>h
  |a::l,y::xs,hg,hh,h=>⟨hg a y (hh a (by simp)) h.1,CL.mapg hg (fun b hb=>hh b (by simp[hb])) h.2⟩
  |[],_::_,_,_,h=>h.elim
  |_::_,[],_,_,h=>h.elim
theorem TV.wf_map {boxes':List (Nat×Box)} {rows':List (Nat×Row)} {g:AC->AC} {v:TV} (hg:∀a,AC.wf boxes rows a->AC.wf boxes' rows' (g a)) (hw:TV.wf boxes rows v):
    TV.wf boxes' rows' (v.mapC g):=by
  cases v with
  |dead=>trivial
  |v b cs=>
    intro a ha;simp only[List.mem_map]at ha;obtain⟨c,hc,rfl⟩:=ha;exact hg c (hw c hc)
  |tup ps=>
    intro p hp a ha;simp only[List.mem_map]at hp;obtain⟨q,hq,rfl⟩:=hp;simp only[List.mem_map]at ha;obtain⟨c,hc,rfl⟩:=ha;exact hg c (hw q hq c hc)
theorem TV.fz_eq (id:Nat) (ks:List Kd) (l:List (List AC)) (v:TV):v.fz id ks l=v.mapC (AC.fz id ks l):=by cases v<;>rfl
theorem RelE.freeze (h:RelE Z tm boxes rows ρ tmps w) {id:Nat} {r:Row} (hid:Ab rows id=some r):
    RelE Z (tm.map (TV.fz id r.ks r.l)) (boxes.map fun p=>(p.1,p.2.fz id r.ks r.l)) (del id rows) {ρ with im:=fun b=>ρ.im b\/(ρ.rv id).ownBlock=some b} tmps w:=by
  have hlk:∀k,Ab (boxes.map fun p=>(p.1,p.2.fz id r.ks r.l)) k=(Ab boxes k).map (Box.fz id r.ks r.l):=fun k=>F_ (Box.fz id r.ks r.l) boxes k;have hlk':∀(k:Nat) (b:Box),Ab (boxes.map fun p=>(p.1,p.2.fz id r.ks r.l)) k=some b->∃b',Ab boxes k=some b'/\b=b'.fz id r.ks r.l:=by
    intro k b hk;rw[hlk]at hk;cases hl:Ab boxes k with
    |none=>rw[hl]at hk;simp at hk
    |some b'=>rw[hl]at hk;simp at hk;exact⟨b',rfl,hk.symm⟩
  have hbx:∀(k:Nat) (b:Box),Ab boxes k=some b->∃b',Ab (boxes.map fun p=>(p.1,p.2.fz id r.ks r.l)) k=some b':=fun k b hk=>⟨b.fz id r.ks r.l,by rw[hlk,hk];rfl⟩;obtain⟨q1,q2,q0,xs,q3,q4⟩:=h.ro id r hid;have hview:CP (fun b=>ρ.im b\/(ρ.rv id).ownBlock=some b) w (.view r.ks r.l) (ρ.rv id):=
    Qba q3 (q4.mono (fun _ h=> .inl h) (fun _ _=>rfl)) (fun g hg=> .inr hg)
  have hcc:∀(a:AC) (x:Value),AC.wf boxes rows a->CC ρ w a x->CC {ρ with im:=fun b=>ρ.im b\/(ρ.rv id).ownBlock=some b} w (a.fz id r.ks r.l) x:=by
    intro a x _ hx;have hm:CC {ρ with im:=fun b=>ρ.im b\/(ρ.rv id).ownBlock=some b} w a x:=CC.mono (ρ:=ρ) (ρ':={ρ with im:=fun b=>ρ.im b\/(ρ.rv id).ownBlock=some b}) (fun _ h=> .inl h) (fun _ _=>rfl) a x (AC.agree_refl rfl rfl rfl a) hx;cases a with
    |own j w1 n1=>
      simp only[AC.fz];cases hb:Nat.beq j id
      · exact hm
      · have:=Nat.eq_of_beq_eq_true hb;subst this
        obtain⟨c1,_,_⟩:=hx;subst c1;exact hview
    |rptr j i1 s1=>
      simp only[AC.fz];cases hb:Nat.beq j id
      · exact hm
      · exact hx.one
    |_=>exact hm
  have hwf:∀a,AC.wf boxes rows a->AC.wf (boxes.map fun p=>(p.1,p.2.fz id r.ks r.l)) (del id rows) (a.fz id r.ks r.l):=by
    intro a ha;cases a with
    |ptr k o=>obtain⟨b,hb⟩:=ha;exact hbx k b hb
    |bsl k o=>obtain⟨b,hb⟩:=ha;exact hbx k b hb
    |own j w1 n1=>
      simp only[AC.fz];cases hb:Nat.beq j id
      · obtain⟨q,p1,p2⟩:=ha
        exact⟨q,by rw[Lg _ _ _ (Gs hb)];exact p1,p2⟩
      · trivial
    |rptr j i1 s1=>
      simp only[AC.fz];cases hb:Nat.beq j id
      · obtain⟨q,p1,p2⟩:=ha
        exact⟨q,by rw[Lg _ _ _ (Gs hb)];exact p1,p2⟩
      · trivial
    |vptr=>exact ha
    |clo f fs cs=>exact⟨fun a hm=>AC.wfP_mono hbx (ha.1 a hm),fun a hm=>AC.wfP_mono hbx (ha.2 a hm)⟩
    |_=>trivial
  refine⟨by simpa using h.tl,?_,?_,?_,?_,?_,?_,?_,?_,?_,h.fr,h.fs,fun b hb=> .inl (h.i0 b hb),?_,?_⟩
  · intro i v hi
    simp only[List.getElem?_map,Option.map_eq_some_iff]at hi;obtain⟨u,hu,rfl⟩:=hi;rw[TV.fz_eq];exact TVR.map hcc (h.wt u (List.mem_of_getElem? hu)) (h.tv i u hu)
  · intro v hv
    simp only[List.mem_map]at hv;obtain⟨u,hu,rfl⟩:=hv;rw[TV.fz_eq];exact TV.wf_map hwf (h.wt u hu)
  · intro k b hk a ha
    obtain⟨b',hb',rfl⟩:=hlk' k b hk;simp only[Box.fz,List.mem_map]at ha;obtain⟨c,hc,rfl⟩:=ha;exact hwf _ (h.wb k b' hb' c hc)
  · intro k b hk
    obtain⟨b',hb',rfl⟩:=hlk' k b hk;obtain⟨arr,h1,h2,h3⟩:=h.bx k b' hb';exact⟨arr,h1,CL.mapg hcc (h.wb k b' hb') h2,h3⟩
  · intro k k' b b' hk hk'
    obtain⟨_,p1,_⟩:=hlk' k b hk;obtain⟨_,p2,_⟩:=hlk' k' b' hk';exact h.bi k k' _ _ p1 p2
  · intro j q hq
    obtain⟨hne,hq1⟩:=LC hq;obtain⟨p1,p2,p0,ys,p3,p4⟩:=h.ro j q hq1;exact⟨p1,p2,p0,ys,p3,p4.mono (fun _ h=> .inl h) (fun _ _=>rfl)⟩
  · intro j j' q q' g hq hq'
    exact h.ri j j' q q' g (LC hq).2 (LC hq').2
  · intro k b j q hk hq
    obtain⟨_,p1,_⟩:=hlk' k b hk;exact h.br k _ j q p1 (LC hq).2
  · rintro b (hb|hb)
    · obtain⟨p1,p2,p3⟩:=h.ib b hb
      exact⟨p1,fun k bo hk=>by obtain⟨_,p,_⟩:=hlk' k bo hk;exact p2 k _ p,fun j q hq=>p3 j q (LC hq).2⟩
    · refine⟨(h.rwlt hid hb).2,fun k bo hk e=> ?_,fun j q hq e=> ?_⟩
      · obtain⟨_,p,_⟩:=hlk' k bo hk
        exact h.br k _ id r p hid (by rw[hb];exact congrArg some e.symm)
      · have hd:=LC hq
        exact hd.1 (h.ri j id q r b hd.2 hid e hb)
  · rintro b (hb|hb)
    · exact h.i1 b hb
    · exact .inr (q0 b hb)
  · intro k b hk
    obtain⟨p1,bo,p2⟩:=h.k0 k b hk;exact⟨p1,hbx k bo p2⟩
theorem E3:∀{l:List Nat} {n:Nat},AK l n=true↔n∈l
  |[],n=>by simp[AK]
  |m::l,n=>by
    simp only[AK,List.mem_cons];cases h:Nat.beq m n
    · simp only[cond_false,E3 (l:=l)]
      constructor
      · exact .inr
      · rintro(e|e)
        · exact absurd e.symm (Gs h)
        · exact e
    · simp[Nat.eq_of_beq_eq_true h]
theorem OA {α:Type}:∀{l:List (Nat×α)} {k:Nat} {b:α},Ab l k=some b->(k,b)∈l
  |[],_,_,h=>by simp[Ab]at h
  |(j,c)::l,k,b,h=>by
    simp only[Ab]at h;cases hb:Nat.beq j k<;>rw[hb]at h
    · simp only[cond_false]at h;exact List.mem_cons_of_mem _ (OA h)
    · simp at h;subst h;rw[Nat.eq_of_beq_eq_true hb];simp
theorem TE {α:Type} (keys:List Nat):∀{l:List (Nat×α)} {k:Nat} {b:α},Ab (l.filter fun p=>AK keys p.1) k=some b->Ab l k=some b/\AK keys k=true
  |[],k,b,h=>by simp[Ab]at h
  |(j,c)::l,k,b,h=>by
    simp only[List.filter_cons]at h;cases hj:AK keys j
    · rw[hj]at h
      simp only[Bool.false_eq_true,if_false]at h;obtain⟨h1,h2⟩:=TE keys (l:=l) h;refine⟨?_,h2⟩;simp only[Ab];rw[JY (by rintro rfl;rw[hj]at h2;cases h2)];exact h1
    · rw[hj]at h
      simp only[if_true,Ab]at h⊢;cases hb:Nat.beq j k<;>rw[hb]at h
      · exact TE keys (l:=l) h
      · have:=Nat.eq_of_beq_eq_true hb;subst this
        exact⟨h,hj⟩
theorem Jv {α:Type} (keys:List Nat):∀{l:List (Nat×α)} {k:Nat} {b:α},AK keys k=true->Ab l k=some b->Ab (l.filter fun p=>AK keys p.1) k=some b
  |[],k,b,_,h=>by simp[Ab]at h
  |(j,c)::l,k,b,hk,h=>by
    simp only[List.filter_cons];simp only[Ab]at h;cases hb:Nat.beq j k<;>rw[hb]at h
    · simp only[cond_false]at h
      split
      · simp only[Ab,hb,cond_false];exact Jv keys hk h
      · exact Jv keys hk h
    · have:=Nat.eq_of_beq_eq_true hb;subst this
      rw[hk];simp only[if_true,Ab,hb];exact h
theorem AC.wf_filter {keys ids:List Nat} {a:AC} (hin:AC.inK keys ids a=true) (ha:AC.wf boxes rows a):AC.wf (boxes.filter fun p=>AK keys p.1) (rows.filter fun p=>AK ids p.1) a:=by
  have hp:∀l:List AC,Aj (AC.inK.inP keys) l=true->(∀a∈l,AC.wfP boxes a)->∀a∈l,AC.wfP (boxes.filter fun p=>AK keys p.1) a:=by
    intro l hl hw a ha;have h1:=Av.1 hl a ha;have h2:=hw a ha;cases a<;>first|trivial|(obtain⟨b,hb⟩:=h2;exact⟨b,Jv keys h1 hb⟩)
  cases a with
  |ptr k o=>obtain⟨b,hb'⟩:=ha;exact⟨b,Jv keys hin hb'⟩
  |bsl k o=>obtain⟨b,hb'⟩:=ha;exact⟨b,Jv keys hin hb'⟩
  |own id w1 n=>obtain⟨q,h1,h2⟩:=ha;exact⟨q,Jv ids hin h1,h2⟩
  |rptr id i s1=>obtain⟨q,h1,h2⟩:=ha;exact⟨q,Jv ids hin h1,h2⟩
  |vptr=>exact ha
  |clo f fs cs=>
    simp only[AC.inK,Bool.and_eq_true]at hin;exact⟨hp fs hin.1 ha.1,hp cs hin.2 ha.2⟩
  |_=>trivial
theorem TV.wf_filter {keys ids:List Nat} {v:TV} (hin:TV.inK keys ids v=true) (hv:TV.wf boxes rows v):TV.wf (boxes.filter fun p=>AK keys p.1) (rows.filter fun p=>AK ids p.1) v:=by
  cases v with
  |dead=>trivial
  |v g cs=>exact fun a ha=>AC.wf_filter (Av.1 hin a ha) (hv a ha)
  |tup ps=>exact fun p hp a ha=>AC.wf_filter (Av.1 (Av.1 hin p hp) a ha) (hv p hp a ha)
theorem RelE.filter (h:RelE Z tm boxes rows ρ tmps w) {keys ids:List Nat} {tm':List TV} {tmps':Array Value} (htl:tm'.length=tmps'.size)
    (htv:∀(i:Nat) (v:TV),tm'[i]? =some v->TVR ρ w v (tmps'.getD i undef)) (hwt:∀v∈tm',TV.wf boxes rows v)
    (hin:Aj (TV.inK keys ids) tm'=true) (hbx:Aj (fun p:Nat×Box=>Aj (AC.inK keys ids) p.2.cells) (boxes.filter fun p=>AK keys p.1)=true)
    (hk0:∀k b,Z.K0 k=some b->AK keys k=true):
    RelE Z tm' (boxes.filter fun p=>AK keys p.1) (rows.filter fun p=>AK ids p.1) ρ tmps' w:=by
  have hb:∀(k:Nat) (b:Box),Ab (boxes.filter fun p=>AK keys p.1) k=some b->Ab boxes k=some b:=fun k b hk=>(TE keys hk).1;have hr:∀(k:Nat) (b:Row),Ab (rows.filter fun p=>AK ids p.1) k=some b->Ab rows k=some b:=fun k b hk=>(TE ids hk).1;refine⟨htl,htv,fun v hv=>TV.wf_filter (Av.1 hin v hv) (hwt v hv),fun k b hk a ha=> ?_,fun k b hk=>h.bx k b (hb k b hk),fun k k' b b' hk hk'=>h.bi k k' b b' (hb k b hk) (hb k' b' hk'),
    fun id q hq=>h.ro id q (hr id q hq),fun id id' q q' g hq hq'=>h.ri id id' q q' g (hr id q hq) (hr id' q' hq'),fun k b id q hk hq=>h.br k b id q (hb k b hk) (hr id q hq),fun b hbm=> ?_,h.fr,h.fs,h.i0,h.i1,fun k b hk=> ?_⟩
  · exact AC.wf_filter (Av.1 (Av.1 hbx (k,b) (OA hk)) a ha) (h.wb k b (hb k b hk) a ha)
  · obtain⟨q1,q2,q3⟩:=h.ib b hbm
    exact⟨q1,fun k bo hk=>q2 k bo (hb k bo hk),fun id q hq=>q3 id q (hr id q hq)⟩
  · obtain⟨q1,bo,q2⟩:=h.k0 k b hk
    exact⟨q1,bo,Jv keys (hk0 k b hk) q2⟩
theorem RelE.lookB {boxes':List (Nat×Box)} {rows':List (Nat×Row)} (h:RelE Z tm boxes rows ρ tmps w) (hb:∀j,Ab boxes j=Ab boxes' j) (hr:∀j,Ab rows j=Ab rows' j):RelE Z tm boxes' rows' ρ tmps w:=by
  have hwf:∀a,AC.wf boxes rows a->AC.wf boxes' rows' a:=fun a=>AC.wf_mono (fun k b hk=>⟨b,by rw[<-hb];exact hk⟩) (fun k r hk=>⟨r,by rw[<-hr];exact hk,rfl,rfl⟩);refine⟨h.tl,h.tv,fun v hv=>TV.wf_mono hwf (h.wt v hv),fun k b hk a ha=>hwf a (h.wb k b (by rw[hb];exact hk) a ha),fun k b hk=>h.bx k b (by rw[hb];exact hk),fun k k' b b' hk hk'=>h.bi k k' b b' (by rw[hb];exact hk) (by rw[hb];exact hk'),
    fun id q hq=>h.ro id q (by rw[hr];exact hq),fun id id' q q' g hq hq'=>h.ri id id' q q' g (by rw[hr];exact hq) (by rw[hr];exact hq'),fun k b id q hk hq=>h.br k b id q (by rw[hb];exact hk) (by rw[hr];exact hq),fun b hbm=> ?_,h.fr,h.fs,h.i0,h.i1,fun k b hk=> ?_⟩
  · obtain⟨q1,q2,q3⟩:=h.ib b hbm
    exact⟨q1,fun k bo hk=>q2 k bo (by rw[hb];exact hk),fun id q hq=>q3 id q (by rw[hr];exact hq)⟩
  · obtain⟨q1,bo,q2⟩:=h.k0 k b hk
    exact⟨q1,bo,by rw[<-hb];exact q2⟩
theorem RelE.reBox (h:RelE Z tm boxes rows ρ tmps w) {g:Nat->Box->Box} (hty:∀k b,(g k b).ty=b.ty)
    (hcl:∀(k:Nat) (b:Box),Ab boxes k=some b->(∀(xs:List Value),CL (CC ρ w) b.cells xs->CL (CC ρ w) (g k b).cells xs)/\∀a∈(g k b).cells,AC.wf boxes rows a):
    RelE Z tm (boxes.map fun p=>(p.1,g p.1 p.2)) rows ρ tmps w:=by
  have hlk:∀(l:List (Nat×Box)) k,Ab (l.map fun p=>(p.1,g p.1 p.2)) k=(Ab l k).map (g k):=by
    intro l;induction l with
    |nil=>intro k;rfl
    |cons p l ih=>
      intro k;obtain⟨j,b⟩:=p;simp only[List.map_cons,Ab,ih];cases hb:Nat.beq j k
      · rfl
      · have:=Nat.eq_of_beq_eq_true hb;subst this;rfl
  have hlk':∀(k:Nat) (b:Box),Ab (boxes.map fun p=>(p.1,g p.1 p.2)) k=some b->∃b',Ab boxes k=some b'/\b=g k b':=by
    intro k b hk;rw[hlk]at hk;cases hl:Ab boxes k with
    |none=>rw[hl]at hk;simp at hk
    |some b'=>rw[hl]at hk;simp at hk;exact⟨b',rfl,hk.symm⟩
  have hbx:∀(k:Nat) (b:Box),Ab boxes k=some b->∃b',Ab (boxes.map fun p=>(p.1,g p.1 p.2)) k=some b':=fun k b hk=>⟨g k b,by rw[hlk,hk];rfl⟩;have hwf:∀a,AC.wf boxes rows a->AC.wf (boxes.map fun p=>(p.1,g p.1 p.2)) rows a:=fun a=>AC.wf_mono hbx (fun k r hk=>⟨r,hk,rfl,rfl⟩);refine⟨h.tl,h.tv,fun v hv=>TV.wf_mono hwf (h.wt v hv),?_,?_,?_,h.ro,h.ri,?_,?_,h.fr,h.fs,h.i0,h.i1,?_⟩
  · intro k b hk a ha
    obtain⟨b',hb',rfl⟩:=hlk' k b hk;exact hwf a ((hcl k b' hb').2 a ha)
  · intro k b hk
    obtain⟨b',hb',rfl⟩:=hlk' k b hk;obtain⟨arr,h1,h2,h3⟩:=h.bx k b' hb';exact⟨arr,by rw[hty];exact h1,(hcl k b' hb').1 _ h2,h3⟩
  · intro k k' b b' hk hk'
    obtain⟨_,p1,_⟩:=hlk' k b hk;obtain⟨_,p2,_⟩:=hlk' k' b' hk';exact h.bi k k' _ _ p1 p2
  · intro k b j q hk hq
    obtain⟨_,p1,_⟩:=hlk' k b hk;exact h.br k _ j q p1 hq
  · intro b hb
    obtain⟨q1,q2,q3⟩:=h.ib b hb;exact⟨q1,fun k bo hk=>by obtain⟨_,p,_⟩:=hlk' k bo hk;exact q2 k _ p,q3⟩
  · intro k b hk
    obtain⟨p1,bo,p2⟩:=h.k0 k b hk;exact⟨p1,hbx k bo p2⟩
theorem Kh {w:World}:∀(ks:List Kd) (cs:List AC) (xs:List Value),CL (CC ρ w) cs xs->CL (CC ρ w) (DN ks cs) xs
  |[],cs,xs,h=>by cases cs<;>exact h
  | .sl ks::l,[],xs,h=>h
  | .int k::l,[],xs,h=>h
  | .bool::l,[],xs,h=>h
  | .raw::l,[],xs,h=>h
  |_::l,a::cs,[],h=>h.elim
  | .int _::l,a::cs,x::xs,h=>by simp only[DN];exact⟨h.1,Kh l cs xs h.2⟩
  | .bool::l,a::cs,x::xs,h=>by simp only[DN];exact⟨h.1,Kh l cs xs h.2⟩
  | .raw::l,a::cs,x::xs,h=>by simp only[DN];exact⟨h.1,Kh l cs xs h.2⟩
  | .sl ks::l,a::cs,x::xs,h=>by
    cases a<;>simp only[DN]<;>first
      |exact⟨h.1,Kh l cs xs h.2⟩
      | (refine ⟨?_, Kh l cs xs h.2⟩
         have h1:=h.1;simp only[CC,CP]at h1;subst h1;exact Rv ks)
theorem Nf:∀(ks:List Kd) (cs:List AC),(∀a∈cs,AC.wf boxes rows a)->∀a∈DN ks cs,AC.wf boxes rows a
  |[],cs,h=>by cases cs<;>exact h
  | .sl ks::l,[],h=>h
  | .int k::l,[],h=>h
  | .bool::l,[],h=>h
  | .raw::l,[],h=>h
  | .int _::l,a::cs,h=>by
    simp only[DN,List.mem_cons,forall_eq_or_imp]at h⊢;exact⟨h.1,Nf l cs h.2⟩
  | .bool::l,a::cs,h=>by
    simp only[DN,List.mem_cons,forall_eq_or_imp]at h⊢;exact⟨h.1,Nf l cs h.2⟩
  | .raw::l,a::cs,h=>by
    simp only[DN,List.mem_cons,forall_eq_or_imp]at h⊢;exact⟨h.1,Nf l cs h.2⟩
  | .sl ks::l,a::cs,h=>by
    simp only[List.mem_cons,forall_eq_or_imp]at h;have ih:=Nf l cs h.2;cases a<;>simp only[DN,List.mem_cons,forall_eq_or_imp]<;>first
      |exact⟨h.1,ih⟩
      |exact⟨trivial,ih⟩
theorem Zxj {α:Type} {l:List α} {n:Nat} {v x:α} (h:x∈setL l n v):x∈l\/x=v:=by
  rw[H9]at h;exact List.mem_or_eq_of_mem_set h
theorem CL.setL {Rr:AC->Value->Prop}:∀{l:List AC} {xs:List Value} (n:Nat) {a:AC},CL Rr l xs->(∀x,xs[n]? =some x->Rr a x)->CL Rr (setL l n a) xs
  |[],[],_,_,h,_=>h
  |b::l,x::xs,0,a,h,ha=>⟨ha x rfl,h.2⟩
  |b::l,x::xs,n+1,a,h,ha=>⟨h.1,CL.setL n h.2 fun y hy=>ha y (by simpa using hy)⟩
  |[],_::_,_,_,h,_=>h.elim
  |_::_,[],_,_,h,_=>h.elim
theorem RelE.promB (h:RelE Z tm boxes rows ρ tmps w) {k o:Nat} {b:Box} (hk:Ab boxes k=some b) (ho:nth .dead b.cells o= .nilSl) {id:Nat} (hid:Ab rows id=none) {e:TypeId} {ks:List Kd} (hks:0<ks.length):
    RelE Z tm (upd boxes k ⟨b.ty,setL b.cells o (.own id ks.length 0)⟩) (ins rows id ⟨e,ks,[]⟩) {ρ with rv:=upN ρ.rv id (.slice none 0 0),wd:=upN ρ.wd id ks.length} tmps w:=by
  have hadd:=h.addRow (d:=id) hid (r:=⟨e,ks,[]⟩) (v':= .slice none 0 0) (xs:=[]) (w':=w) (Below.refl _ _) hks (Qmr w e ks.length) ⟨by simp,by simp,fun i c hi=>by simp at hi⟩ (fun g hg=>by simp[Value.ownBlock]at hg);have hnew:=EA rows id (⟨e,ks,[]⟩:Row) hid;generalize hρ:({ρ with rv:=upN ρ.rv id (.slice none 0 0),wd:=upN ρ.wd id ks.length}:Env)=ρ2 at hadd;have e1:ρ2.rv id= .slice none 0 0:=by rw[<-hρ];exact BG _ _ _
  have e2:ρ2.wd id=ks.length:=by rw[<-hρ];exact BG _ _ _
  have hre := hadd.reBox (g := fun j c => bif Nat.beq j k then ⟨c.ty, setL c.cells o (.own id ks.length 0)⟩ else c) (fun j c => by cases Nat.beq j k <;> rfl) (by
    intro j c hj;cases hb:Nat.beq j k
    · exact⟨fun xs h=>h,hadd.wb j c hj⟩
    · have:=Nat.eq_of_beq_eq_true hb;subst this
      rw[hk]at hj;simp at hj;subst hj;simp only[cond_true];refine⟨fun xs hx=>hx.setL o fun x hxo=> ?_,fun a ha=> ?_⟩
      · have hlt:o<b.cells.length:=by
          rcases Nat.lt_or_ge o b.cells.length with hlt|hge
          · exact hlt
          · rw[BK,List.getD,List.getElem?_eq_none hge]at ho;simp at ho
        have hg:b.cells[o]? =some .nilSl:=by
          rw[BK,List.getD,List.getElem?_eq_getElem hlt]at ho;rw[List.getElem?_eq_getElem hlt];simpa using ho
        obtain⟨y,hy,hcy⟩:=hx.get hg;rw[hxo]at hy;simp at hy;subst hy;simp only[CC,CP]at hcy;subst hcy;exact⟨e1.symm,e2, .inl ⟨rfl,rfl⟩⟩
      · rcases Zxj ha with ha|rfl
        · exact hadd.wb j b hk a ha
        · exact⟨_,hnew,rfl,rfl⟩)
  have hupd:∀(l:List (Nat×Box)) (b':Box),Ab l k=some b'->∀j,Ab (l.map fun p=>(p.1,bif Nat.beq p.1 k then(⟨p.2.ty,setL p.2.cells o (.own id ks.length 0)⟩:Box)else p.2)) j=Ab (upd l k ⟨b'.ty,setL b'.cells o (.own id ks.length 0)⟩) j:=by
    intro l;induction l with
    |nil=>intro b' hb';simp[Ab]at hb'
    |cons p l ih=>
      intro b' hb' j;obtain⟨q,c⟩:=p;simp only[Ab]at hb';cases hq:Nat.beq q k
      · rw[hq]at hb';simp only[cond_false]at hb'
        simp only[List.map_cons,upd,hq,cond_false,Ab];rw[ih b' hb' j]
      · rw[hq]at hb';simp at hb';subst hb'
        have:=Nat.eq_of_beq_eq_true hq;subst this;simp only[List.map_cons,upd,hq,cond_true,Ab];cases hqj:Nat.beq q j
        · simp only[cond_false]
          have hne:=Gs hqj;have:∀m:List (Nat×Box),Ab (m.map fun p=>(p.1,bif Nat.beq p.1 q then(⟨p.2.ty,setL p.2.cells o (.own id ks.length 0)⟩:Box)else p.2)) j=Ab m j:=by
            intro m;induction m with
            |nil=>rfl
            |cons p m ihm=>
              obtain⟨q',c'⟩:=p;simp only[List.map_cons,Ab,ihm];cases hb:Nat.beq q' j
              · rfl
              · have e:=Nat.eq_of_beq_eq_true hb;subst e
                rw[JY (fun e=>hne e.symm)];rfl
          exact this l
        · rfl
  exact hre.lookB (hupd boxes b hk) fun _=>rfl
end
end Go.Bm
