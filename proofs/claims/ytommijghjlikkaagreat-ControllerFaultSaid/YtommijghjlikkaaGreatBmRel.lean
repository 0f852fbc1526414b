/- The abstract machine, second form: what its states say of a world. -/
import Derived.Test.YtommijghjlikkaaGreatBmDefs
set_option linter.unusedVariables false
set_option linter.unusedSimpArgs false
namespace Go.Bm
open Go.RowKit
theorem OZ {a b c d:Prop} (h:a\/b) (f:a->c) (g:b->d):c\/d:=by
 rcases h with h|h
 ·exact .inl (f h)
 ·exact .inr (g h)
mutual
def CP (im:Nat->Prop) (w:World):AC->Value->Prop
 | .int k n,x=>x= .int k n
 | .bool b,x=>x= .bool b
 | .raw v,x=>x=v/\v.oneCell'=true
 | .nilSl,x=>x= .slice none 0 0
 | .view ks l,x=>∃ad cap,x= .slice ad l.length cap/\l.length<=cap/\(∀c∈l,AJ ks c=c)/\(l=[]\/∃b o,ad=some ⟨b,o,none⟩/\im b/\CPss im w ks.length l b o)
 | .dead,_=>False
 | .ptr _ _,_=>False
 | .own _ _ _,_=>False
 | .rptr _ _ _,_=>False
 | .vptr _ _,_=>False
 | .clo _ _ _,_=>False
 | .bsl _ _,_=>False
def CPs (im:Nat->Prop) (w:World):List AC->Nat->Nat->Prop
 |[],_,_=>True
 |c::cs,b,o=>(∃y,w.cell? ⟨b,o,none⟩=some y/\CP im w c y)/\CPs im w cs b (o+1)
def CPss (im:Nat->Prop) (w:World) (wd:Nat):List (List AC)->Nat->Nat->Prop
 |[],_,_=>True
 |c::cs,b,o=>(c.length=wd/\CPs im w c b o)/\CPss im w wd cs b (o+wd)
end
theorem Q7m:∀(ks:List Kd) (cs:List AC) (j:Nat),(EO ks cs j).length=ks.length
 |[],_,_=>rfl
 |_::ks,cs,j=>by simp[EO,Q7m ks cs (j+1)]
theorem ON (ks:List Kd) (cs:List AC):(AJ ks cs).length=ks.length:=Q7m ks cs 0
theorem Qkg {im:Nat->Prop} {w:World} {wd:Nat}:∀{l:List (List AC)} {b o:Nat},CPss im w wd l b o->∀i (hi:i<l.length),(l[i]).length=wd/\CPs im w l[i] b (o+i*wd)
 |[],_,_,_,i,hi=>by simp at hi
 |c::l,b,o,h,0,_=>by rw[CPss]at h;rw[Nat.zero_mul,Nat.add_zero];exact h.1
 |c::l,b,o,h,i+1,hi=>by
  rw[CPss]at h;have:=Qkg h.2 i (by simpa using hi);simp only[List.getElem_cons_succ];rw[Nat.add_mul,Nat.one_mul,Nat.add_comm (i*wd) wd,<-Nat.add_assoc];exact this
theorem SK {im:Nat->Prop} {w:World} {wd:Nat}:∀{l:List (List AC)} {b o:Nat},(∀i (hi:i<l.length),(l[i]).length=wd/\CPs im w l[i] b (o+i*wd))->CPss im w wd l b o
 |[],_,_,_=>by simp[CPss]
 |c::l,b,o,h=>by
  rw[CPss];refine⟨by have:=h 0 (by simp);rw[Nat.zero_mul,Nat.add_zero]at this;exact this,SK fun i hi=> ?_⟩;have:=h (i+1) (by simpa using hi);simp only[List.getElem_cons_succ]at this;rw[Nat.add_mul,Nat.one_mul,Nat.add_comm (i*wd) wd,<-Nat.add_assoc]at this;exact this
def Er (w:World) (e:TypeId) (size:Nat) (v:Value) (n:Nat) (xs:List Value):Prop:=
 xs.length = n * size /\ ((v = .slice none 0 0 /\ n = 0) \/
  ∃g o cap cur,v= .slice (some ⟨g,o,none⟩) n cap/\w.heap[g]? =some (.cells cur e (0,0))/\n<=cap/\cap<=maxLen/\o+cap*size<=cur.size/\(cur.toList.drop o).take (n*size)=xs)
theorem Qmr (w:World) (e:TypeId) (size:Nat):Er w e size (.slice none 0 0) 0 []:=⟨by simp, .inl ⟨rfl,rfl⟩⟩
theorem Q1b {w:World} {base:Nat} {e:TypeId} {size:Nat} {v:Value} {n:Nat} {xs:List Value} (h:w.ownsRow base e size v n xs):Er w e size v n xs:=by
 refine⟨h.1,?_⟩;rcases h.2 with h|⟨g,cap,cur,h1,_,h2,h3,h4,h5,h6⟩
 ·exact .inl h
 ·exact .inr ⟨g,0,cap,cur,h1,h2,h3,h4,by omega,by simpa using h6⟩
theorem Qp8 {w:World} {e:TypeId} {size:Nat} {v:Value} {n:Nat} {xs:List Value} (h:Er w e size v n xs):∀k,v.ownBlock=some k->k<w.heap.size:=by
 intro k hk;rcases h.2 with⟨rfl,_⟩|⟨g,o,cap,cur,rfl,hg,_⟩
 ·simp[Value.ownBlock]at hk
 ·simp[Value.ownBlock]at hk;subst hk;exact(Array.getElem?_eq_some_iff.1 hg).1
theorem Ko {w w':World} {e:TypeId} {size n:Nat} {v:Value} {xs:List Value} (h:Er w e size v n xs) (hb:∀g,v.ownBlock=some g->w'.heap[g]? =w.heap[g]?):Er w' e size v n xs:=by
 refine⟨h.1,?_⟩;rcases h.2 with hn|⟨g,o,cap,cur,rfl,h2,h3⟩
 ·exact .inl hn
 ·exact .inr ⟨g,o,cap,cur,rfl,by rw[hb g rfl];exact h2,h3⟩
def Hd:Value->Nat
 | .slice (some a) _ _=>a.off
 |_=>0
theorem Qj {w:World} {e:TypeId} {size:Nat} {v:Value} {n:Nat} {xs:List Value} (h:Er w e size v n xs) {g:Nat} (hg:v.ownBlock=some g):∀j u,xs[j]? =some u->w.cell? ⟨g,Hd v+j,none⟩=some u:=by
 intro j u hj;rcases h.2 with⟨rfl,rfl⟩|⟨g',o,cap,cur,rfl,h2,h3,h4,h5,h6⟩
 ·simp[Value.ownBlock]at hg
 ·simp[Value.ownBlock]at hg;subst hg;rw[<-h6,List.getElem?_take]at hj;split at hj
  ·rw[List.getElem?_drop]at hj;simp[World.cell?,h2,Hd];simpa using hj
  ·simp at hj
structure Env where
 bx:Nat->Nat
 rv:Nat->Value
 wd:Nat->Nat
 im:Nat->Prop
def CCc (ρ:Env) (w:World):AC->Value->Prop
 | .ptr key off,x=>x= .pointer (some ⟨ρ.bx key,off,none⟩)
 |a,x=>CP ρ.im w a x
def CLc (ρ:Env) (w:World):List AC->List Value->Prop
 |[],[]=>True
 |a::l,x::xs=>CCc ρ w a x/\CLc ρ w l xs
 |_,_=>False
def CC (ρ:Env) (w:World):AC->Value->Prop
 | .dead,x=>x.oneCell'=true
 | .ptr key off,x=>x= .pointer (some ⟨ρ.bx key,off,none⟩)
 | .own id wd n,x=>x=ρ.rv id/\ρ.wd id=wd/\((x= .slice none 0 0/\n=0)\/∃g o c,x= .slice (some ⟨g,o,none⟩) n c)
 | .rptr id idx sub,x=>∃g,(ρ.rv id).ownBlock=some g/\x= .pointer (some ⟨g,Hd (ρ.rv id)+(idx*ρ.wd id+sub),none⟩)
 | .vptr cs sub,x=>∃b o,x= .pointer (some ⟨b,o+sub,none⟩)/\ρ.im b/\CPs ρ.im w cs b o
 | .clo f fs cs,x=>∃xs ys:Array Value,x= .func (.func f) xs ys/\CLc ρ w fs xs.toList/\CLc ρ w cs ys.toList
 | .bsl key n,x=>x= .slice (some ⟨ρ.bx key,0,none⟩) n n
 |a,x=>CP ρ.im w a x
def CL (R:AC->Value->Prop):List AC->List Value->Prop
 |[],[]=>True
 |a::l,x::xs=>R a x/\CL R l xs
 |_,_=>False
def TP (ρ:Env) (w:World):List (Bool×List AC)->List Value->Prop
 |[],[]=>True
 | (g, cs) :: l, x :: xs => (match g with
   |true=>∃ys:Array Value,x= .agg ys/\CL (CC ρ w) cs ys.toList
   |false=>∃a,cs=[a]/\CC ρ w a x)/\TP ρ w l xs
 |_,_=>False
def TVR (ρ:Env) (w:World):TV->Value->Prop
 | .dead,_=>True
 | .v true cs,x=>∃ys:Array Value,x= .agg ys/\CL (CC ρ w) cs ys.toList
 | .v false cs,x=>∃a,cs=[a]/\CC ρ w a x
 | .tup ps,x=>∃ys:Array Value,x= .tuple ys/\TP ρ w ps ys.toList
theorem CL.length {R:AC->Value->Prop}:∀{l:List AC} {xs:List Value},CL R l xs->l.length=xs.length
 |[],[],_=>rfl
 |_::l,_::xs,h=>by simp[CL.length h.2]
 |[],_::_,h=>h.elim
 |_::_,[],h=>h.elim
theorem CL.mono {R R':AC->Value->Prop}:∀{l:List AC} {xs:List Value},(∀a∈l,∀x,R a x->R' a x)->CL R l xs->CL R' l xs
 |[],[],_,_=>trivial
 |a::l,x::xs,h,hc=>⟨h a (by simp) x hc.1,CL.mono (fun b hb=>h b (by simp[hb])) hc.2⟩
 |[],_::_,_,h=>h.elim
 |_::_,[],_,h=>h.elim
theorem CL.get {R:AC->Value->Prop}:∀{l:List AC} {xs:List Value} {i:Nat} {a:AC},CL R l xs->l[i]? =some a->∃x,xs[i]? =some x/\R a x
 |[],[],i,_,_,h=>by simp at h
 |a::l,x::xs,0,b,hc,h=>by simp at h;subst h;exact⟨x,rfl,hc.1⟩
 |a::l,x::xs,i+1,b,hc,h=>by simpa using CL.get hc.2 (by simpa using h)
 |[],_::_,_,_,h,_=>h.elim
 |_::_,[],_,_,h,_=>h.elim
theorem CL.drop {R:AC->Value->Prop}:∀(n:Nat) {l:List AC} {xs:List Value},CL R l xs->CL R (l.drop n) (xs.drop n)
 |0,_,_,h=>h
 |_+1,[],[],_=>trivial
 |n+1,_::_,_::_,h=>CL.drop n h.2
 |_+1,[],_::_,h=>h.elim
 |_+1,_::_,[],h=>h.elim
theorem CL.take {R:AC->Value->Prop}:∀(n:Nat) {l:List AC} {xs:List Value},CL R l xs->CL R (l.take n) (xs.take n)
 |0,_,_,_=>by simp[CL]
 |_+1,[],[],_=>trivial
 |n+1,_::_,_::_,h=>⟨h.1,CL.take n h.2⟩
 |_+1,[],_::_,h=>h.elim
 |_+1,_::_,[],h=>h.elim
theorem CL.cut {R:AC->Value->Prop} {l:List AC} {xs:List Value} (o m:Nat) (h:CL R l xs):CL R (cut l o m) (cut xs o m):=CL.take m (CL.drop o h)
theorem CL.append {R:AC->Value->Prop}:∀{l l':List AC} {xs xs':List Value},CL R l xs->CL R l' xs'->CL R (l++l') (xs++xs')
 |[],_,[],_,_,h=>h
 |_::_,_,_::_,_,h,h'=>⟨h.1,CL.append h.2 h'⟩
 |[],_,_::_,_,h,_=>h.elim
 |_::_,_,[],_,h,_=>h.elim
theorem CL.splice {R:AC->Value->Prop}:∀{l:List AC} {xs:List Value} (o:Nat) {vs:List AC} {ys:List Value},CL R l xs->CL R vs ys->CL R (splice l o vs) (splice xs o ys)
 |l,xs,o,[],[],h,_=>by cases l<;>cases xs<;>simpa [Bm.splice]using h
 |[],[],o,_::_,_::_,_,_=>by simp[Bm.splice,CL]
 |a::l,x::xs,0,v::vs,y::ys,h,h'=>by simp only[Bm.splice];exact⟨h'.1,CL.splice 0 h.2 h'.2⟩
 |a::l,x::xs,o+1,v::vs,y::ys,h,h'=>by simp only[Bm.splice];exact⟨h.1,CL.splice o h.2 h'⟩
 |[],_::_,_,_,_,h,_=>h.elim
 |_::_,[],_,_,_,h,_=>h.elim
 |_,_,_,[],_::_,_,h=>h.elim
 |_,_,_,_::_,[],_,h=>h.elim
mutual
theorem CP.mono {im im':Nat->Prop} {w w':World} (hi:∀b,im b->im' b) (hb:∀b,im b->w'.heap[b]? =w.heap[b]?):∀(a:AC) (x:Value),CP im w a x->CP im' w' a x
 | .int k n,x,h=>by simpa [CP]using h
 | .bool b,x,h=>by simpa [CP]using h
 | .raw v,x,h=>by simpa [CP]using h
 | .nilSl,x,h=>by simpa [CP]using h
 | .view ks l,x,h=>by
  rw[CP]at h⊢;obtain⟨ad,cap,hx,hle,hk,hf⟩:=h;refine⟨ad,cap,hx,hle,hk,?_⟩;rcases hf with hf|⟨b,o,h1,h2,h3⟩
  ·exact .inl hf
  ·exact .inr ⟨b,o,h1,hi b h2,CPss.mono hi hb _ l b o h2 h3⟩
 | .dead,x,h=>by simp[CP]at h
 | .ptr _ _,x,h=>by simp[CP]at h
 | .own _ _ _,x,h=>by simp[CP]at h
 | .rptr _ _ _,x,h=>by simp[CP]at h
 | .vptr _ _,x,h=>by simp[CP]at h
 | .clo _ _ _,x,h=>by simp[CP]at h
 | .bsl _ _,x,h=>by simp[CP]at h
theorem CPs.mono {im im':Nat->Prop} {w w':World} (hi:∀b,im b->im' b) (hb:∀b,im b->w'.heap[b]? =w.heap[b]?):∀(cs:List AC) (b o:Nat),im b->CPs im w cs b o->CPs im' w' cs b o
 |[],_,_,_,_=>by simp[CPs]
 |c::cs,b,o,him,h=>by
  rw[CPs]at h⊢;obtain⟨⟨y,hy,hc⟩,hr⟩:=h;exact⟨⟨y,(World.cell?_of_block (w:=w) (a:=⟨b,o,none⟩) (hb b him)).trans hy,CP.mono hi hb c y hc⟩,CPs.mono hi hb cs b _ him hr⟩
theorem CPss.mono {im im':Nat->Prop} {w w':World} (hi:∀b,im b->im' b) (hb:∀b,im b->w'.heap[b]? =w.heap[b]?) (wd:Nat):∀(l:List (List AC)) (b o:Nat),im b->CPss im w wd l b o->CPss im' w' wd l b o
 |[],_,_,_,_=>by simp[CPss]
 |c::cs,b,o,him,h=>by
  rw[CPss]at h⊢;exact⟨⟨h.1.1,CPs.mono hi hb c b o him h.1.2⟩,CPss.mono hi hb wd cs b _ him h.2⟩
end
def AC.agreeP (ρ ρ':Env):AC->Prop
 | .ptr key _=>ρ'.bx key=ρ.bx key
 |_=>True
def AC.agree (ρ ρ':Env):AC->Prop
 | .ptr key _=>ρ'.bx key=ρ.bx key
 | .bsl key _=>ρ'.bx key=ρ.bx key
 | .own id _ _=>ρ'.rv id=ρ.rv id/\ρ'.wd id=ρ.wd id
 | .rptr id _ _=>ρ'.rv id=ρ.rv id/\ρ'.wd id=ρ.wd id
 | .clo _ fs cs=>(∀a∈fs,AC.agreeP ρ ρ' a)/\∀a∈cs,AC.agreeP ρ ρ' a
 |_=>True
theorem CLc.mono {ρ ρ':Env} {w w':World} (hi:∀b,ρ.im b->ρ'.im b) (hb:∀b,ρ.im b->w'.heap[b]? =w.heap[b]?):∀(l:List AC) (xs:List Value),(∀a∈l,a.agreeP ρ ρ')->CLc ρ w l xs->CLc ρ' w' l xs
 |[],[],_,_=>trivial
 |a::l,x::xs,hg,h=>by
  refine⟨?_,CLc.mono hi hb l xs (fun b hb=>hg b (by simp[hb])) h.2⟩;have ha:=hg a (by simp);have h1:=h.1;cases a<;>first
   |exact CP.mono hi hb _ _ h1
   |(simp only[CCc,AC.agreeP]at*;rw[ha];exact h1)
 |[],_::_,_,h=>h.elim
 |_::_,[],_,h=>h.elim
theorem CC.mono {ρ ρ':Env} {w w':World} (hi:∀b,ρ.im b->ρ'.im b) (hb:∀b,ρ.im b->w'.heap[b]? =w.heap[b]?) (a:AC) (x:Value) (hg:a.agree ρ ρ') (h:CC ρ w a x):CC ρ' w' a x:=by
 cases a with
 |dead=>exact h
 |ptr key off=>simp only[CC,AC.agree]at*;rw[hg];exact h
 |bsl key n=>simp only[CC,AC.agree]at*;rw[hg];exact h
 |own id w n=>simp only[CC,AC.agree]at*;rw[hg.1,hg.2];exact h
 |rptr id idx sub=>simp only[CC,AC.agree]at*;rw[hg.1,hg.2];exact h
 |vptr cs sub=>
  simp only[CC]at*;obtain⟨b,o,h1,h2,h3⟩:=h;exact⟨b,o,h1,hi b h2,CPs.mono hi hb cs b o h2 h3⟩
 |clo f fs cs=>
  simp only[CC,AC.agree]at*;obtain⟨xs,ys,h1,h2,h3⟩:=h;exact⟨xs,ys,h1,CLc.mono hi hb fs _ hg.1 h2,CLc.mono hi hb cs _ hg.2 h3⟩
 |int k n=>exact CP.mono hi hb _ _ h
 |bool b=>exact CP.mono hi hb _ _ h
 |raw v=>exact CP.mono hi hb _ _ h
 |nilSl=>exact CP.mono hi hb _ _ h
 |view ks l=>exact CP.mono hi hb _ _ h
theorem I2 {ρ:Env} {w:World} {a:AC} {x:Value} (h:CP ρ.im w a x):CC ρ w a x:=by
 cases a<;>first|exact h|(simp[CP]at h)
theorem Zjv {ρ:Env} {w:World} {a:AC} {x:Value} (hp:a.plain=true) (h:CC ρ w a x):CP ρ.im w a x:=by
 cases a<;>first|exact h|(simp[AC.plain]at hp)
theorem CP.one {im:Nat->Prop} {w:World} {a:AC} {x:Value} (h:CP im w a x):x.oneCell'=true:=by
 cases a<;>simp only[CP]at h
 case int=>subst h;rfl
 case bool=>subst h;rfl
 case raw=>rw[h.1];exact h.2
 case nilSl=>subst h;rfl
 case view=>obtain⟨_,_,rfl,_⟩:=h;rfl
theorem CC.one {ρ:Env} {w:World} {a:AC} {x:Value} (h:CC ρ w a x):x.oneCell'=true:=by
 cases a with
 |dead=>exact h
 |ptr=>simp only[CC]at h;subst h;rfl
 |bsl=>simp only[CC]at h;subst h;rfl
 |own=>obtain⟨_,_,⟨rfl,_⟩|⟨_,_,_,rfl⟩⟩:=h<;>rfl
 |rptr=>obtain⟨_,_,rfl⟩:=h;rfl
 |vptr=>obtain⟨_,_,rfl,_⟩:=h;rfl
 |clo=>obtain⟨_,_,rfl,_⟩:=h;rfl
 |int=>exact CP.one h
 |bool=>exact CP.one h
 |raw=>exact CP.one h
 |nilSl=>exact CP.one h
 |view=>exact CP.one h
theorem Av {α:Type} {p:α->Bool}:∀{l:List α},Aj p l=true↔∀x∈l,p x=true
 |[]=>by simp[Aj]
 |x::l=>by
  simp only[Aj,List.mem_cons,forall_eq_or_imp,<-Av (l:=l)];cases p x<;>simp
theorem A0 {α R:Type}:∀(l:List α) (K:List α->Option R),AM l K=K l
 |[],_=>rfl
 |x::xs,K=>by rw[AM,A0 xs]
theorem BK {α:Type} (d:α):∀(l:List α) (n:Nat),nth d l n=l.getD n d
 |[],_=>by simp[nth]
 |_::_,0=>by simp[nth]
 |_::xs,n+1=>by simp only[nth,BK d xs n];simp
theorem H9 {α:Type}:∀(l:List α) (n:Nat) (v:α),setL l n v=l.set n v
 |[],_,_=>by simp[setL]
 |_::_,0,_=>by simp[setL]
 |x::xs,n+1,v=>by simp[setL,H9 xs n v]
section tables
variable {α:Type}
theorem EE:∀(l:List (Nat×α)) (k:Nat) (x y:α),Ab l k=some y->Ab (upd l k x) k=some x
 |[],_,_,_,h=>by simp[Ab]at h
 |(k',b)::l,k,x,y,h=>by
  simp only[Ab,upd]at*;cases hk:Nat.beq k' k
  ·simp only[hk,cond_false,Ab]at*;exact EE l k x y h
  ·simp[Ab,Nat.eq_of_beq_eq_true hk]
theorem C9:∀(l:List (Nat×α)) (k j:Nat) (x:α),j≠k->Ab (upd l k x) j=Ab l j
 |[],_,_,_,_=>rfl
 |(k',b)::l,k,j,x,h=>by
  simp only[Ab,upd];cases hk:Nat.beq k' k
  ·simp only[cond_false,Ab,C9 l k j x h]
  ·have e:=Nat.eq_of_beq_eq_true hk;subst e;have hne:Nat.beq k' j=false:=by
    cases hb:Nat.beq k' j
    ·rfl
    ·exact absurd (Nat.eq_of_beq_eq_true hb).symm h
   simp[Ab,hne]
theorem EA:∀(l:List (Nat×α)) (k:Nat) (x:α),Ab l k=none->Ab (ins l k x) k=some x
 |[],k,x,_=>by simp[Ab,ins]
 |(k',b)::l,k,x,h=>by
  simp only[Ab,ins]at*;cases hk:Nat.beq k' k
  ·simp only[hk,cond_false]at h;cases hb:Nat.blt k k'
   ·simp only[cond_false,Ab,hk];exact EA l k x h
   ·simp[Ab]
  ·simp[hk]at h
theorem Dq:∀(l:List (Nat×α)) (k j:Nat) (x:α),j≠k->Ab (ins l k x) j=Ab l j
 |[],k,j,x,h=>by
  have hne:Nat.beq k j=false:=by
   cases hb:Nat.beq k j
   ·rfl
   ·exact absurd (Nat.eq_of_beq_eq_true hb).symm h
  simp[Ab,ins,hne]
 |(k',b)::l,k,j,x,h=>by
  have hne:Nat.beq k j=false:=by
   cases hb:Nat.beq k j
   ·rfl
   ·exact absurd (Nat.eq_of_beq_eq_true hb).symm h
  simp only[Ab,ins];cases hb:Nat.blt k k'
  ·simp only[cond_false,Ab,Dq l k j x h]
  ·simp[Ab,hne]
theorem RH:∀(l:List (Nat×α)) (k:Nat),Ab (del k l) k=none
 |[],k=>by simp[Ab,del]
 |(k',b)::l,k=>by
  simp only[del];cases hk:Nat.beq k' k
  ·simp only[cond_false,Ab,hk,RH l k]
  ·simp only[cond_true];exact RH l k
theorem Lg:∀(l:List (Nat×α)) (k j:Nat),j≠k->Ab (del k l) j=Ab l j
 |[],_,_,_=>by simp[Ab,del]
 |(k',b)::l,k,j,h=>by
  simp only[del];cases hk:Nat.beq k' k
  ·simp only[cond_false,Ab,Lg l k j h]
  ·have e:=Nat.eq_of_beq_eq_true hk;subst e;have hne:Nat.beq k' j=false:=by
    cases hb:Nat.beq k' j
    ·rfl
    ·exact absurd (Nat.eq_of_beq_eq_true hb).symm h
   simp only[cond_true,Ab,hne,cond_false];exact Lg l k' j h
theorem LC {l:List (Nat×α)} {k j:Nat} {x:α} (h:Ab (del k l) j=some x):j≠k/\Ab l j=some x:=by
 by_cases hj:j=k
 ·subst hj;rw[RH]at h;cases h
 ·rw[Lg _ _ _ hj]at h;exact⟨hj,h⟩
end tables
end Go.Bm
