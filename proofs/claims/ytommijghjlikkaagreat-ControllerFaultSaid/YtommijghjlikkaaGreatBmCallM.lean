/- The abstract machine, second form: calls that turn memory. -/
import Derived.Test.YtommijghjlikkaaGreatBmSt1
set_option linter.unusedVariables false
set_option linter.unusedSimpArgs false
namespace Go.Bm
open Go.RowKit
section
variable {P:Program} {C:Cfg} {ρ:Env} {w:World} {R:Type} {Z:Base} {tm:List TV} {boxes:List (Nat×Box)} {rows:List (Nat×Row)} {tmps:Array Value}
def AC.nmP (Kp:Nat->Prop):AC->Prop
 | .ptr k _=>Kp k
 |_=>True
def AC.nm (Kp Ip:Nat->Prop):AC->Prop
 | .ptr k _=>Kp k
 | .bsl k _=>Kp k
 | .own id _ _=>Ip id
 | .rptr id _ _=>Ip id
 | .clo _ fs cs=>(∀a∈fs,AC.nmP Kp a)/\∀a∈cs,AC.nmP Kp a
 |_=>True
def TV.nm (Kp Ip:Nat->Prop):TV->Prop
 | .v _ cs=>∀a∈cs,AC.nm Kp Ip a
 | .tup ps=>∀p∈ps,∀a∈p.2,AC.nm Kp Ip a
 | .dead=>True
theorem AC.nm_of_inK {keys ids:List Nat} {a:AC} (h:AC.inK keys ids a=true):a.nm (· ∈keys) (· ∈ids):=by
 have hp:∀l:List AC,Aj (AC.inK.inP keys) l=true->∀a∈l,AC.nmP (· ∈keys) a:=by
  intro l hl a ha;have:=Av.1 hl a ha;cases a<;>first|trivial|exact E3.1 this
 cases a with
 |ptr k o=>exact E3.1 h
 |bsl k o=>exact E3.1 h
 |own id w n=>exact E3.1 h
 |rptr id i s=>exact E3.1 h
 |clo f fs cs=>
  simp only[AC.inK,Bool.and_eq_true]at h;exact⟨hp fs h.1,hp cs h.2⟩
 |_=>trivial
theorem TV.nm_of_inK {keys ids:List Nat} {v:TV} (h:TV.inK keys ids v=true):v.nm (· ∈keys) (· ∈ids):=by
 cases v with
 |dead=>trivial
 |v g cs=>exact fun a ha=>AC.nm_of_inK (Av.1 h a ha)
 |tup ps=>exact fun p hp a ha=>AC.nm_of_inK (Av.1 (Av.1 h p hp) a ha)
theorem AC.nm_of_wf {a:AC} (h:AC.wf boxes rows a):a.nm (fun k=>∃b,Ab boxes k=some b) (fun i=>∃r,Ab rows i=some r):=by
 have hp:∀l:List AC,(∀a∈l,AC.wfP boxes a)->∀a∈l,AC.nmP (fun k=>∃b,Ab boxes k=some b) a:=by
  intro l hl a ha;have:=hl a ha;cases a<;>first|trivial|exact this
 cases a with
 |ptr k o=>exact h
 |bsl k o=>exact h
 |own id w n=>obtain⟨r,h1,_⟩:=h;exact⟨r,h1⟩
 |rptr id i s=>obtain⟨r,h1,_⟩:=h;exact⟨r,h1⟩
 |clo f fs cs=>exact⟨hp fs h.1,hp cs h.2⟩
 |_=>trivial
theorem TV.nm_of_wf {v:TV} (h:TV.wf boxes rows v):v.nm (fun k=>∃b,Ab boxes k=some b) (fun i=>∃r,Ab rows i=some r):=by
 cases v with
 |dead=>trivial
 |v g cs=>exact fun a ha=>AC.nm_of_wf (h a ha)
 |tup ps=>exact fun p hp a ha=>AC.nm_of_wf (h p hp a ha)
theorem Qd3 {ρ1 ρ2:Env} {Kp:Nat->Prop} {rk:Nat->Nat} (hb:∀k,Kp k->ρ2.bx (rk k)=ρ1.bx k) (hi:ρ2.im=ρ1.im):∀(l:List AC) (xs:List Value),(∀a∈l,AC.nmP Kp a)->CLc ρ1 w l xs->CLc ρ2 w (AC.ren.renP rk l) xs
 |[],[],_,_=>trivial
 |a::l,x::xs,hn,h=>by
  have ih:=Qd3 hb hi l xs (fun b hb=>hn b (by simp[hb])) h.2;have h1:=h.1;have hn1:=hn a (by simp);cases a<;>simp only[AC.ren.renP]<;>refine⟨?_,ih⟩<;>first
   |(simp only[CCc]at h1⊢;rw[hb _ hn1];exact h1)
   |(simp only[CCc]at h1⊢;rw[hi];exact h1)
 |[],_::_,_,h=>h.elim
 |_::_,[],_,h=>h.elim
theorem Qk4 {ρ1 ρ2:Env} {Kp Ip:Nat->Prop} {rk ri:Nat->Nat} (hb:∀k,Kp k->ρ2.bx (rk k)=ρ1.bx k) (hr:∀i,Ip i->ρ2.rv (ri i)=ρ1.rv i/\ρ2.wd (ri i)=ρ1.wd i) (hi:ρ2.im=ρ1.im)
  {a:AC} {x:Value} (hn:a.nm Kp Ip) (h:CC ρ1 w a x):CC ρ2 w (a.ren rk ri) x:=by
 cases a with
 |ptr k o=>simp only[AC.ren,CC]at*;rw[hb k hn];exact h
 |bsl k o=>simp only[AC.ren,CC]at*;rw[hb k hn];exact h
 |own id w n=>simp only[AC.ren,CC]at*;rw[(hr id hn).1,(hr id hn).2];exact h
 |rptr id i s=>simp only[AC.ren,CC]at*;rw[(hr id hn).1,(hr id hn).2];exact h
 |vptr cs s=>simp only[AC.ren,CC]at*;rw[hi];exact h
 |clo f fs cs=>
  obtain⟨xs,ys,h1,h2,h3⟩:=h;exact⟨xs,ys,h1,Qd3 hb hi fs _ hn.1 h2,Qd3 hb hi cs _ hn.2 h3⟩
 |dead=>exact h
 |int=>simp only[AC.ren,CC]at*;rw[hi];exact h
 |bool=>simp only[AC.ren,CC]at*;rw[hi];exact h
 |raw=>simp only[AC.ren,CC]at*;rw[hi];exact h
 |nilSl=>simp only[AC.ren,CC]at*;rw[hi];exact h
 |view=>simp only[AC.ren,CC]at*;rw[hi];exact h
theorem Pu {ρ1 ρ2:Env} {Kp Ip:Nat->Prop} {rk ri:Nat->Nat} (hb:∀k,Kp k->ρ2.bx (rk k)=ρ1.bx k) (hr:∀i,Ip i->ρ2.rv (ri i)=ρ1.rv i/\ρ2.wd (ri i)=ρ1.wd i) (hi:ρ2.im=ρ1.im):
  ∀{l:List AC} {xs:List Value},(∀a∈l,a.nm Kp Ip)->CL (CC ρ1 w) l xs->CL (CC ρ2 w) (l.map (AC.ren rk ri)) xs
 |[],[],_,h=>h
 |a::l,y::xs,hn,h=>⟨Qk4 hb hr hi (hn a (by simp)) h.1,Pu hb hr hi (fun b hb=>hn b (by simp[hb])) h.2⟩
 |[],_::_,_,h=>h.elim
 |_::_,[],_,h=>h.elim
theorem Q7x {ρ1 ρ2:Env} {Kp Ip:Nat->Prop} {rk ri:Nat->Nat} (hb:∀k,Kp k->ρ2.bx (rk k)=ρ1.bx k) (hr:∀i,Ip i->ρ2.rv (ri i)=ρ1.rv i/\ρ2.wd (ri i)=ρ1.wd i) (hi:ρ2.im=ρ1.im)
  {v:TV} {x:Value} (hn:v.nm Kp Ip) (h:TVR ρ1 w v x):TVR ρ2 w (v.ren rk ri) x:=by
 cases v with
 |dead=>trivial
 |v b cs=>
  cases b
  ·obtain⟨a,rfl,ha⟩:=h;exact⟨_,rfl,Qk4 hb hr hi (hn a (by simp)) ha⟩
  ·obtain⟨ys,rfl,hy⟩:=h;exact⟨ys,rfl,Pu hb hr hi hn hy⟩
 |tup ps=>
  obtain⟨ys,rfl,hy⟩:=h;refine⟨ys,rfl,?_⟩;generalize ys.toList=l at hy;induction ps generalizing l with
  |nil=>cases l<;>first|exact hy|exact hy.elim
  |cons p ps ih=>
   cases l with
   |nil=>exact hy.elim
   |cons y l=>
    obtain⟨b,cs⟩:=p;refine⟨?_,ih (fun q hq=>hn q (by simp[hq])) l hy.2⟩;have h1:=hy.1;have hw1:=hn (b,cs) (by simp);cases b
    ·obtain⟨a,q1,q2⟩:=h1;subst q1;exact⟨_,rfl,Qk4 hb hr hi (hw1 a (by simp)) q2⟩
    ·obtain⟨zs,q1,q2⟩:=h1;exact⟨zs,q1,Pu hb hr hi hw1 q2⟩
theorem Rk {b1 b2:List (Nat×Box)} {r1 r2:List (Nat×Row)} {Kp Ip:Nat->Prop} {rk ri:Nat->Nat} (hb:∀k,Kp k->(∃b,Ab b1 k=some b)->∃b,Ab b2 (rk k)=some b)
  (hr:∀i r,Ip i->Ab r1 i=some r->∃r',Ab r2 (ri i)=some r'/\r'.n=r.n/\r'.w=r.w) {a:AC} (hn:a.nm Kp Ip) (h:AC.wf b1 r1 a):AC.wf b2 r2 (a.ren rk ri):=by
 have hp:∀l:List AC,(∀a∈l,AC.nmP Kp a)->(∀a∈l,AC.wfP b1 a)->∀a∈AC.ren.renP rk l,AC.wfP b2 a:=by
  intro l;induction l with
  |nil=>intro _ _ a ha;simp[AC.ren.renP]at ha
  |cons c l ih=>
   intro hn hw a ha;have ih':=ih (fun b hb=>hn b (by simp[hb])) (fun b hb=>hw b (by simp[hb]));have h1:=hn c (by simp);have h2:=hw c (by simp);cases c<;>simp only[AC.ren.renP,List.mem_cons]at ha<;>rcases ha with rfl|ha<;>first
    |exact ih' a ha
    |exact hb _ h1 h2
    |trivial
 cases a with
 |ptr k o=>exact hb k hn h
 |bsl k o=>exact hb k hn h
 |own id w n=>obtain⟨r,q1,q2,q3⟩:=h;obtain⟨r',p1,p2,p3⟩:=hr id r hn q1;exact⟨r',p1,by rw[p2,q2],by rw[p3,q3]⟩
 |rptr id i s=>obtain⟨r,q1,q2⟩:=h;obtain⟨r',p1,p2,p3⟩:=hr id r hn q1;exact⟨r',p1,by rw[p2];exact q2⟩
 |vptr=>exact h
 |clo f fs cs=>exact⟨hp fs hn.1 h.1,hp cs hn.2 h.2⟩
 |_=>trivial
theorem Qxm {b1 b2:List (Nat×Box)} {r1 r2:List (Nat×Row)} {Kp Ip:Nat->Prop} {rk ri:Nat->Nat} (hb:∀k,Kp k->(∃b,Ab b1 k=some b)->∃b,Ab b2 (rk k)=some b)
  (hr:∀i r,Ip i->Ab r1 i=some r->∃r',Ab r2 (ri i)=some r'/\r'.n=r.n/\r'.w=r.w) {v:TV} (hn:v.nm Kp Ip) (h:TV.wf b1 r1 v):TV.wf b2 r2 (v.ren rk ri):=by
 cases v with
 |dead=>trivial
 |v g cs=>
  intro a ha;simp only[List.mem_map]at ha;obtain⟨c,hc,rfl⟩:=ha;exact Rk hb hr (hn c hc) (h c hc)
 |tup ps=>
  intro p hp a ha;simp only[List.mem_map]at hp;obtain⟨q,hq,rfl⟩:=hp;simp only[List.mem_map]at ha;obtain⟨c,hc,rfl⟩:=ha;exact Rk hb hr (hn q hq c hc) (h q hq c hc)
theorem HW:∀{l:List Nat},BF l=true↔l.Nodup
 |[]=>by simp[BF]
 |k::l=>by
  simp only[BF,List.nodup_cons,<-HW (l:=l)];cases h:AK l k
  ·have: ¬k∈l:=fun hm=>by rw[E3.2 hm]at h;cases h
   simp[this]
  ·have:=E3.1 h;simp[this]
theorem DQ {l:List Nat} {n:Nat} (h:n∈l):pos l n<l.length/\nth 0 l (pos l n)=n:=by
 induction l with
 |nil=>simp at h
 |cons m l ih=>
  simp only[pos];cases hb:Nat.beq m n
  ·have hne:=Gs hb;have:n∈l:=by
    rcases List.mem_cons.1 h with e|e
    ·exact absurd e.symm hne
    ·exact e
   obtain⟨h1,h2⟩:=ih this;exact⟨by simp only[cond_false,List.length_cons];omega,by simp only[cond_false];exact h2⟩
  ·exact⟨by simp,by simpa [nth]using Nat.eq_of_beq_eq_true hb⟩
theorem Zk9 {l:List Nat} {m n:Nat} (hm:m∈l) (hn:n∈l) (h:pos l m=pos l n):m=n:=by
 rw[<-(DQ hm).2,<-(DQ hn).2,h]
theorem If {l:List Nat} (hd:l.Nodup) {i:Nat} (hi:i<l.length):pos l (nth 0 l i)=i:=by
 induction l generalizing i with
 |nil=>simp at hi
 |cons m l ih=>
  cases i with
  |zero=>simp[nth,pos]
  |succ i=>
   have hi':i<l.length:=by simpa using hi
   have hmem:nth 0 l i∈l:=by
    rw[BK,List.getD,List.getElem?_eq_getElem hi'];exact List.getElem_mem hi'
   rw[List.nodup_cons]at hd;simp only[nth,pos];rw[JY (by rintro rfl;exact hd.1 hmem)];simp only[cond_false];rw[ih hd.2 hi']
theorem E9 {l:List Nat} {i:Nat} (hi:i<l.length):nth 0 l i∈l:=by
 rw[BK,List.getD,List.getElem?_eq_getElem hi];exact List.getElem_mem hi
theorem KR {rk ri:Nat->Nat}:∀{keys:List Nat} {b:Nat} {mb:List (Nat×Box)},Dr boxes rk ri b keys=some mb->
  (∀i,i<keys.length->∃x,Ab boxes (nth 0 keys i)=some x/\Ab mb (b+i)=some ⟨x.ty,x.cells.map (AC.ren rk ri)⟩)/\∀c x,Ab mb c=some x->∃i,i<keys.length/\c=b+i
 |[],b,mb,h=>by simp[Dr]at h;subst h;exact⟨fun i hi=>by simp at hi,fun c x h=>by simp[Ab]at h⟩
 |k::keys,b,mb,h=>by
  simp only[Dr]at h;split at h
  ·rename_i x hx;split at h
   ·rename_i l hl;simp at h;subst h;obtain⟨h1,h2⟩:=KR hl;refine⟨fun i hi=> ?_,fun c y hc=> ?_⟩
    ·cases i with
     |zero=>exact⟨x,hx,by simp[Ab]⟩
     |succ i=>
      obtain⟨y,q1,q2⟩:=h1 i (by simpa using hi);refine⟨y,q1,?_⟩;rw[show b+(i+1)=b+1+i from by omega];simp only[Ab];rw[JY (by omega)];exact q2
    ·simp only[Ab]at hc;cases hb:Nat.beq b c<;>rw[hb]at hc
     ·obtain⟨i,q1,q2⟩:=h2 c y hc;exact⟨i+1,by simp;omega,by omega⟩
     ·exact⟨0,by simp,(Nat.eq_of_beq_eq_true hb).symm⟩
   ·simp at h
  ·simp at h
theorem Qks:∀{keys:List Nat} {b:Nat} {mb:List (Nat×Row)},FV rows b keys=some mb->
  (∀i,i<keys.length->∃x,Ab rows (nth 0 keys i)=some x/\Ab mb (b+i)=some x)/\∀c x,Ab mb c=some x->∃i,i<keys.length/\c=b+i
 |[],b,mb,h=>by simp[FV]at h;subst h;exact⟨fun i hi=>by simp at hi,fun c x h=>by simp[Ab]at h⟩
 |k::keys,b,mb,h=>by
  simp only[FV]at h;split at h
  ·rename_i x hx;split at h
   ·rename_i l hl;simp at h;subst h;obtain⟨h1,h2⟩:=Qks hl;refine⟨fun i hi=> ?_,fun c y hc=> ?_⟩
    ·cases i with
     |zero=>exact⟨x,hx,by simp[Ab]⟩
     |succ i=>
      obtain⟨y,q1,q2⟩:=h1 i (by simpa using hi);refine⟨y,q1,?_⟩;rw[show b+(i+1)=b+1+i from by omega];simp only[Ab];rw[JY (by omega)];exact q2
    ·simp only[Ab]at hc;cases hb:Nat.beq b c<;>rw[hb]at hc
     ·obtain⟨i,q1,q2⟩:=h2 c y hc;exact⟨i+1,by simp;omega,by omega⟩
     ·exact⟨0,by simp,(Nat.eq_of_beq_eq_true hb).symm⟩
   ·simp at h
  ·simp at h
def G7 {α β:Type} (rk:Nat->Nat) (g:α->β):List (Nat×α)->List (Nat×β)->List (Nat×β)
 |[],l=>l
 |(k,b)::m,l=>G7 rk g m (ins l (rk k) (g b))
theorem Xs (rk ri:Nat->Nat):∀(m:List (Nat×Box)) (l:List (Nat×Box)),Lx rk ri m l=G7 rk (fun b=>⟨b.ty,b.cells.map (AC.ren rk ri)⟩) m l
 |[],_=>rfl
 |(_,_)::m,_=>by simp only[Lx,G7];exact Xs rk ri m _
theorem Qsc (ri:Nat->Nat):∀(m:List (Nat×Row)) (l:List (Nat×Row)),J3 ri m l=G7 ri (fun b=>b) m l
 |[],_=>rfl
 |(_,_)::m,_=>by simp only[J3,G7];exact Qsc ri m _
theorem RF {α β:Type} {rk:Nat->Nat} {g:α->β}:∀{m:List (Nat×α)} {l:List (Nat×β)},(m.map (·.1)).Nodup->(∀k∈m.map (·.1),∀j∈m.map (·.1),rk k=rk j->k=j)->(∀k∈m.map (·.1),Ab l (rk k)=none)->
  (∀k b,Ab m k=some b->Ab (G7 rk g m l) (rk k)=some (g b))/\(∀n,(∀k∈m.map (·.1),n≠rk k)->Ab (G7 rk g m l) n=Ab l n)
 |[],l,_,_,_=>⟨fun k b h=>by simp[Ab]at h,fun n _=>rfl⟩
 |(j,c)::m,l,hd,hi,hn=>by
  simp only[List.map_cons,List.nodup_cons]at hd;have hne:∀k∈m.map (·.1),rk k≠rk j:=fun k hk e=>hd.1 (by have:=hi k (by simp at hk⊢;exact .inr hk) j (by simp) e;rw[<-this];exact hk);obtain ⟨h1, h2⟩ := RF (rk := rk) (g := g) (m := m) (l := ins l (rk j) (g c)) hd.2 (fun k hk q hq => hi k (by simp at hk ⊢; exact .inr hk) q (by simp at hq ⊢; exact .inr hq)) (fun k hk => by
   rw[Dq _ _ _ _ (hne k hk)];exact hn k (by simp at hk⊢;exact .inr hk))
  have hj:Ab (ins l (rk j) (g c)) (rk j)=some (g c):=EA _ _ _ (hn j (by simp));refine⟨fun k b hk=> ?_,fun n hnn=> ?_⟩
  ·simp only[Ab]at hk;cases hb:Nat.beq j k<;>rw[hb]at hk
   ·exact h1 k b hk
   ·have:=Nat.eq_of_beq_eq_true hb;subst this;simp at hk;subst hk;simp only[G7];rw[h2 (rk j) (fun k hk e=>hne k hk e.symm)];exact hj
  ·simp only[G7];rw[h2 n (fun k hk=>hnn k (by simp at hk⊢;exact .inr hk))];exact Dq _ _ _ _ (hnn j (by simp))
theorem JP {α:Type}:∀(ks:List Nat) (l:List (Nat×α)) (n:Nat),Ab (Dz ks l) n=if n∈ks then none else Ab l n
 |[],l,n=>by simp[Dz]
 |k::ks,l,n=>by
  simp only[Dz];rw[JP ks];by_cases h:n=k
  ·subst h;simp only[RH,List.mem_cons,true_or,if_true];split<;>rfl
  ·rw[Lg _ _ _ h];simp[h]
theorem Ku {α:Type}:∀{l:List (Nat×α)} {k:Nat},k∈l.map (·.1)↔∃b,Ab l k=some b
 |[],k=>by simp[Ab]
 |(j,c)::l,k=>by
  simp only[List.map_cons,List.mem_cons,Ab];cases hb:Nat.beq j k
  ·simp only[cond_false,<-Ku (l:=l)];constructor
   ·rintro(e|e)
    ·exact absurd e.symm (Gs hb)
    ·exact e
   ·exact .inr
  ·simp[Nat.eq_of_beq_eq_true hb]
theorem IA {α:Type} {names:List Nat}:∀{l:List (Nat×α)} {k:Nat},k∈A_ names l↔k∈l.map (·.1)/\ ¬(base<=k/\k-base<names.length)
 |[],k=>by simp[A_]
 |(j,c)::l,k=>by
  simp only[A_,List.map_cons,List.mem_cons];cases hb:(Nat.ble base j&&Nat.blt (j-base) names.length)
  ·have hj: ¬(base<=j/\j-base<names.length):=by
    rintro⟨h1,h2⟩;have e1:=Nat.ble_eq_true_of_le h1;have e2:Nat.blt (j-base) names.length=true:=Nat.ble_eq_true_of_le h2;rw[e1,e2]at hb;cases hb
   simp only[cond_false,List.mem_cons,IA (l:=l)];constructor
   ·rintro(rfl|⟨h1,h2⟩)
    ·exact⟨.inl rfl,hj⟩
    ·exact⟨.inr h1,h2⟩
   ·rintro⟨rfl|h1,h2⟩
    ·exact .inl rfl
    ·exact .inr ⟨h1,h2⟩
  ·simp only[Bool.and_eq_true]at hb;have hj:base<=j/\j-base<names.length:=⟨Nat.le_of_ble_eq_true hb.1,Nat.le_of_ble_eq_true hb.2⟩;simp only[cond_true,IA (l:=l)];constructor
   ·rintro⟨h1,h2⟩;exact⟨.inr h1,h2⟩
   ·rintro⟨rfl|h1,h2⟩
    ·exact absurd hj h2
    ·exact⟨h1,h2⟩
theorem Lb {names fresh:List Nat} {d k:Nat} (h:base<=k/\k-base<names.length):BC names fresh d k=nth 0 names (k-base):=by
 unfold BC;rw[Nat.ble_eq_true_of_le h.1,show Nat.blt (k-base) names.length=true from Nat.ble_eq_true_of_le h.2];rfl
theorem Qyl {names fresh:List Nat} {d k:Nat} (h: ¬(base<=k/\k-base<names.length)):BC names fresh d k=100000+100*d+pos fresh k:=by
 unfold BC;have:(Nat.ble base k&&Nat.blt (k-base) names.length)=false:=by
  apply Bool.eq_false_iff.2;intro hb;simp only[Bool.and_eq_true]at hb;exact h ⟨Nat.le_of_ble_eq_true hb.1,Nat.le_of_ble_eq_true hb.2⟩
 rw[this];rfl
theorem Q18 {α β:Type} {names:List Nat} {d:Nat} {m':List (Nat×α)} {l:List (Nat×β)} (hd:names.Nodup) (hn:∀k∈names,∃b,Ab l k=some b)
  (hf:∀k∈A_ names m',Ab l (BC names (A_ names m') d k)=none):
  ∀k∈m'.map (·.1),∀j∈m'.map (·.1),BC names (A_ names m') d k=BC names (A_ names m') d j->k=j:=by
 intro k hk j hj he;by_cases ck:base<=k/\k-base<names.length<;>by_cases cj:base<=j/\j-base<names.length
 ·rw[Lb ck,Lb cj]at he;have:=congrArg (pos names) he;rw[If hd ck.2,If hd cj.2]at this;omega
 ·have h1:=hf j (IA.2 ⟨hj,cj⟩);rw[<-he,Lb ck]at h1;obtain⟨b,hb⟩:=hn _ (E9 ck.2);rw[hb]at h1;cases h1
 ·have h1:=hf k (IA.2 ⟨hk,ck⟩);rw[he,Lb cj]at h1;obtain⟨b,hb⟩:=hn _ (E9 cj.2);rw[hb]at h1;cases h1
 ·rw[Qyl ck,Qyl cj]at he;exact Zk9 (IA.2 ⟨hk,ck⟩) (IA.2 ⟨hj,cj⟩) (by omega)
noncomputable def LN {α:Type} (m:List (Nat×α)) (bk:Nat->Nat) (n:Nat):Option Nat:= @dite _ (∃k∈m.map (·.1),bk k=n) (Classical.propDecidable _) (fun h=>some (Classical.choose h)) (fun _=>none)
theorem Qvg {α:Type} {m:List (Nat×α)} {bk:Nat->Nat} (hinj:∀k∈m.map (·.1),∀j∈m.map (·.1),bk k=bk j->k=j) {k:Nat} (hk:k∈m.map (·.1)):LN m bk (bk k)=some k:=by
 unfold LN;have h:∃j∈m.map (·.1),bk j=bk k:=⟨k,hk,rfl⟩;rw[dif_pos h];have:=Classical.choose_spec h;rw[hinj _ this.1 k hk this.2]
theorem Q0r {α:Type} {m:List (Nat×α)} {bk:Nat->Nat} {n:Nat} (h:∀k∈m.map (·.1),n≠bk k):LN m bk n=none:=by
 unfold LN;rw[dif_neg];rintro⟨k,hk,he⟩;exact h k hk he.symm
theorem Qv3:∀(ids:List Nat) {v:TV} {x:Value},TVR ρ w v x->TVR ρ w (Hw ids v) x
 |[],_,_,h=>h
 |_::l,_,_,h=>Qv3 l (TV.kill_TVR h)
theorem Qpq:∀(ids:List Nat) {v:TV},TV.wf boxes rows v->TV.wf boxes rows (Hw ids v)
 |[],_,h=>h
 |_::l,_,h=>Qpq l (TV.kill_wf h)
theorem Qat {id j:Nat} {a:AC} (h:AC.free j a):AC.free j (a.kill id):=by
 cases a with
 |own i w n=>simp only[AC.kill];cases Nat.beq i id<;>first|exact h|trivial
 |rptr i n s=>simp only[AC.kill];cases Nat.beq i id<;>first|exact h|trivial
 |_=>trivial
theorem Zem {id j:Nat} {v:TV} (h:TV.free j v):TV.free j (v.kill id):=by
 cases v with
 |v g cs=>
  intro a ha;simp only[List.mem_map]at ha;obtain⟨b,hb,rfl⟩:=ha;exact Qat (h b hb)
 |tup ps=>
  intro p hp a ha;simp only[List.mem_map]at hp;obtain⟨q,hq,rfl⟩:=hp;simp only[List.mem_map]at ha;obtain⟨b,hb,rfl⟩:=ha;exact Qat (h q hq b hb)
 |dead=>trivial
theorem Qzv {j:Nat}:∀(ids:List Nat) {v:TV},TV.free j v->TV.free j (Hw ids v)
 |[],_,h=>h
 |_::l,_,h=>Qzv l (Zem h)
theorem Q3i:∀(ids:List Nat) (v:TV),∀id∈ids,TV.free id (Hw ids v)
 |[],_,id,h=>by simp at h
 |i::l,v,id,h=>by
  simp only[List.mem_cons]at h;by_cases e:id∈l
  ·exact Q3i l (v.kill i) id e
  ·have:id=i:=h.resolve_right e;subst this;exact Qzv l (TV.kill_free id v)
theorem Q2c:∀(ids:List Nat) (b:Box),(Dt ids b).ty=b.ty
 |[],_=>rfl
 |_::l,b=>by rw[Dt,Q2c l];rfl
theorem Qt3:∀(ids:List Nat) {b:Box} {xs:List Value},CL (CC ρ w) b.cells xs->CL (CC ρ w) (Dt ids b).cells xs
 |[],_,_,h=>h
 |i::l,b,_,h=>Qt3 l (b:=b.kill i) h.kill
theorem Q7q:∀(ids:List Nat) {b:Box},(∀a∈b.cells,AC.wf boxes rows a)->∀a∈(Dt ids b).cells,AC.wf boxes rows a
 |[],_,h=>h
 | i :: l, b, h => Q7q l (b := b.kill i) (fun a ha => by
  simp only[Box.kill,List.mem_map]at ha;obtain⟨c,hc,rfl⟩:=ha;exact AC.kill_wf (h c hc))
theorem Qrf {j:Nat}:∀(ids:List Nat) {b:Box},(∀a∈b.cells,AC.free j a)->∀a∈(Dt ids b).cells,AC.free j a
 |[],_,h=>h
 | i :: l, b, h => Qrf l (b := b.kill i) (fun a ha => by
  simp only[Box.kill,List.mem_map]at ha;obtain⟨c,hc,rfl⟩:=ha;exact Qat (h c hc))
theorem Q7p:∀(ids:List Nat) (b:Box),∀id∈ids,∀a∈(Dt ids b).cells,AC.free id a
 |[],_,id,h=>by simp at h
 |i::l,b,id,h=>by
  simp only[List.mem_cons]at h;by_cases e:id∈l
  ·exact Q7p l (b.kill i) id e
  ·have:id=i:=h.resolve_right e;subst this;exact Qrf l (b := b.kill id) (fun a ha => by
    simp only[Box.kill,List.mem_map]at ha;obtain⟨c,hc,rfl⟩:=ha;exact AC.kill_free id c)
end
end Go.Bm
