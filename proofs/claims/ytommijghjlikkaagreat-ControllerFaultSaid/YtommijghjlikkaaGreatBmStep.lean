/- The abstract machine, second form: what a call does; what is forgotten, what is frozen. -/
import Derived.Test.YtommijghjlikkaaGreatBmMem
set_option linter.unusedVariables false
set_option linter.unusedSimpArgs false
namespace Go.Bm
open Go.RowKit
def E0 (F:Nat->Prop) (w:World) (ρ:Env) (boxes:List (Nat×Box)):Base:=⟨F,w,ρ.im,fun k=>(Ab boxes k).map fun _=>ρ.bx k⟩
def PCallM (P:Program) (f:FuncId) (args:List TV) (mem:Mem) (v:TV) (mem':Mem):Prop:=
 ∀(F:Nat->Prop) (w:World) (ρ:Env) (xs:List Value),RelE (E0 F w ρ mem.boxes) args mem.boxes mem.rows ρ xs.toArray w->
  Calls P f xs.toArray w fun e w'=>∃(x:Value) (ρ':Env),e= .returned x/\RelE (E0 F w ρ mem.boxes) [v] mem'.boxes mem'.rows ρ' #[x] w'
def P1 (P:Program) (f:FuncId):Prop:=∃fn,P.funcs[f]? =some fn/\(fn.name== "runtime.NumGoroutine")=false/\fn.body.isNone=false
def CallsX (P:Program) (f:FuncId) (xs:Array Value) (w:World) (R:Ending->World->Prop):Prop:=
 (P1 P f/\Calls P f xs w R)\/∃x w',(callFunc f xs).run P w= .ok (.value x) w'/\R (.returned x) w'
theorem CallsX.mono {P:Program} {f:FuncId} {xs:Array Value} {w:World} {R R':Ending->World->Prop} (h:CallsX P f xs w R) (hm:∀e w',R e w'->R' e w'):CallsX P f xs w R':=by
 rcases h with⟨h1,h2⟩|⟨x,w',h1,h2⟩
 ·exact .inl ⟨h1,h2.mono hm⟩
 ·exact .inr ⟨x,w',h1,hm _ _ h2⟩
def Qkt (P:Program) (f:FuncId) (args:List TV) (mem:Mem) (v:TV) (mem':Mem):Prop:=
 ∀(F:Nat->Prop) (w:World) (ρ:Env) (xs:List Value),RelE (E0 F w ρ mem.boxes) args mem.boxes mem.rows ρ xs.toArray w->
  CallsX P f xs.toArray w fun e w'=>∃(x:Value) (ρ':Env),e= .returned x/\RelE (E0 F w ρ mem.boxes) [v] mem'.boxes mem'.rows ρ' #[x] w'
theorem PCallM.x {P:Program} {f:FuncId} {args:List TV} {mem:Mem} {v:TV} {mem':Mem} (h:PCallM P f args mem v mem') (hc:P1 P f):Qkt P f args mem v mem':=
 fun F w ρ xs hR=> .inl ⟨hc,h F w ρ xs hR⟩
structure SpecRight (P : Program) (f : FuncId) (g : Spec) : Prop where
 nat:∀(R:Type) (args:List TV) (mem:Mem) (K:TV->Mem->Option R),g R args mem K=(g (TV×Mem) args mem fun v m=>some (v,m)).bind fun p=>K p.1 p.2
 ok:∀(args:List TV) (mem:Mem) (v:TV) (mem':Mem),(g (TV×Mem) args mem fun v m=>some (v,m))=some (v,mem')->Qkt P f args mem v mem'
def Q0 (g:Spec):Prop:=∀(args:List TV) (mem:Mem) (v:TV) (m:Mem),(g (TV×Mem) args mem fun v m=>some (v,m))=some (v,m)->m=mem
def Ai (P:Program) (C:Cfg):Prop:=
 (∀(f:FuncId) (g:Spec),C.spec f=some g->SpecRight P f g)/\∀(f:FuncId) (g:Spec),C.spec f=some g->C.ro f=true->Q0 g
theorem SpecRight.run {P:Program} {f:FuncId} {g:Spec} (h:SpecRight P f g) {R:Type} {args:List TV} {mem:Mem} {K:TV->Mem->Option R} {r:R} (hr:g R args mem K=some r):
  ∃v mem',K v mem'=some r/\Qkt P f args mem v mem':=by
 rw[h.nat]at hr;simp only[Option.bind_eq_some_iff]at hr;obtain⟨⟨v,m⟩,h1,h2⟩:=hr;exact⟨v,m,h2,h.ok args mem v m h1⟩
def Prim.wf (boxes:List (Nat×Box)) (rows:List (Nat×Row)):Prim->Prop
 | .val v=>TV.wf boxes rows v
 | .load _ _ key _=>∃b,Ab boxes key=some b
 | .store key _ cs=>(∃b,Ab boxes key=some b)/\∀a∈cs,AC.wf boxes rows a
 | .new _ cs=>∀a∈cs,AC.wf boxes rows a
 | .newS _ _ cs=>∀a∈cs,AC.wf boxes rows a
 | .rload _ _ id idx _=>∃r,Ab rows id=some r/\idx<r.n
 | .rstore id idx _ _=>∃r,Ab rows id=some r/\idx<r.n
 | .append _ _ _ s x=>AC.wf boxes rows s/\AC.wf boxes rows x
 | .appD _ _ _ s x=>AC.wf boxes rows s/\AC.wf boxes rows x
 | .call _ args=>∀v∈args,TV.wf boxes rows v
 | .callM _ args=>∀v∈args,TV.wf boxes rows v
 | .callF _ args=>∀v∈args,TV.wf boxes rows v
 | .callD _ args=>∀v∈args,TV.wf boxes rows v
 |_=>True
section
variable {P:Program} {C:Cfg} {ρ:Env} {w:World} {R:Type} {Z:Base} {tm:List TV} {boxes:List (Nat×Box)} {rows:List (Nat×Row)} {tmps:Array Value}
theorem F_ {α β:Type} (g:α->β):∀(l:List (Nat×α)) (k:Nat),Ab (l.map fun p=>(p.1,g p.2)) k=(Ab l k).map g
 |[],_=>rfl
 |(j,b)::l,k=>by
  simp only[List.map_cons,Ab,F_ g l k];cases Nat.beq j k<;>rfl
theorem AC.kill_wf {id:Nat} {a:AC} (h:AC.wf boxes rows a):AC.wf boxes rows (a.kill id):=by
 cases a with
 |own j w n=>simp only[AC.kill];cases Nat.beq j id<;>first|exact h|trivial
 |rptr j i s=>simp only[AC.kill];cases Nat.beq j id<;>first|exact h|trivial
 |_=>exact h
theorem AC.kill_free (id:Nat) (a:AC):AC.free id (a.kill id):=by
 cases a with
 |own j w n=>
  simp only[AC.kill];cases hb:Nat.beq j id
  ·exact fun e=>by rw[e]at hb;simp at hb
  ·trivial
 |rptr j i s=>
  simp only[AC.kill];cases hb:Nat.beq j id
  ·exact fun e=>by rw[e]at hb;simp at hb
  ·trivial
 |_=>trivial
theorem AC.kill_CC {id:Nat} {a:AC} {x:Value} (h:CC ρ w a x):CC ρ w (a.kill id) x:=by
 cases a with
 |own j w n=>simp only[AC.kill];cases Nat.beq j id<;>first|exact h|exact h.one
 |rptr j i s=>simp only[AC.kill];cases Nat.beq j id<;>first|exact h|exact h.one
 |_=>exact h
theorem CL.kill {id:Nat}:∀{l:List AC} {xs:List Value},CL (CC ρ w) l xs->CL (CC ρ w) (l.map (AC.kill id)) xs
 |[],[],_=>trivial
 |_::_,_::_,h=>⟨AC.kill_CC h.1,CL.kill h.2⟩
 |[],_::_,h=>h.elim
 |_::_,[],h=>h.elim
theorem TV.kill_TVR {id:Nat} {v:TV} {x:Value} (h:TVR ρ w v x):TVR ρ w (v.kill id) x:=by
 cases v with
 |dead=>trivial
 |tup ps=>
  obtain⟨ys,rfl,hy⟩:=h;refine⟨ys,rfl,?_⟩;generalize ys.toList=l at hy;induction ps generalizing l with
  |nil=>cases l<;>first|exact hy|exact hy.elim
  |cons p ps ih=>
   cases l with
   |nil=>exact hy.elim
   |cons y l=>
    obtain⟨g,cs⟩:=p;refine⟨?_,ih l hy.2⟩;have:=hy.1;cases g
    ·obtain⟨a,h1,ha⟩:=this;subst h1;exact⟨_,rfl,AC.kill_CC ha⟩
    ·obtain⟨zs,h1,hz⟩:=this;exact⟨zs,h1,hz.kill⟩
 |v g cs=>
  cases g
  ·obtain⟨a,rfl,ha⟩:=h;exact⟨_,rfl,AC.kill_CC ha⟩
  ·obtain⟨ys,rfl,hy⟩:=h;exact⟨ys,rfl,hy.kill⟩
theorem TV.kill_wf {id:Nat} {v:TV} (h:TV.wf boxes rows v):TV.wf boxes rows (v.kill id):=by
 cases v with
 |v g cs=>
  intro a ha;simp only[List.mem_map]at ha;obtain⟨b,hb,rfl⟩:=ha;exact AC.kill_wf (h b hb)
 |tup ps=>
  intro p hp a ha;simp only[List.mem_map]at hp;obtain⟨q,hq,rfl⟩:=hp;simp only[List.mem_map]at ha;obtain⟨b,hb,rfl⟩:=ha;exact AC.kill_wf (h q hq b hb)
 |_=>trivial
theorem TV.kill_free (id:Nat) (v:TV):TV.free id (v.kill id):=by
 cases v with
 |v g cs=>
  intro a ha;simp only[List.mem_map]at ha;obtain⟨b,hb,rfl⟩:=ha;exact AC.kill_free id b
 |tup ps=>
  intro p hp a ha;simp only[List.mem_map]at hp;obtain⟨q,hq,rfl⟩:=hp;simp only[List.mem_map]at ha;obtain⟨b,hb,rfl⟩:=ha;exact AC.kill_free id b
 |_=>trivial
theorem RelE.kill (h:RelE Z tm boxes rows ρ tmps w) (id:Nat):
  RelE Z (tm.map (TV.kill id)) (boxes.map fun p=>(p.1,p.2.kill id)) rows ρ tmps w:=by
 have hlk:∀k,Ab (boxes.map fun p=>(p.1,p.2.kill id)) k=(Ab boxes k).map (Box.kill id):=fun k=>F_ (Box.kill id) boxes k;have hlk':∀(k:Nat) (b:Box),Ab (boxes.map fun p=>(p.1,p.2.kill id)) k=some b->∃b',Ab boxes k=some b'/\b=b'.kill id:=by
  intro k b hk;rw[hlk]at hk;cases hl:Ab boxes k with
  |none=>rw[hl]at hk;simp at hk
  |some b'=>rw[hl]at hk;simp at hk;exact⟨b',rfl,hk.symm⟩
 have hwf:∀a,AC.wf boxes rows a->AC.wf (boxes.map fun p=>(p.1,p.2.kill id)) rows a:=fun a=>AC.wf_mono (fun k b hk=>⟨b.kill id,by rw[hlk,hk];rfl⟩) (fun k r hk=>⟨r,hk,rfl,rfl⟩);refine⟨by simpa using h.tl,?_,?_,?_,?_,?_,h.ro,h.ri,?_,?_,h.fr,h.fs,h.i0,h.i1,?_⟩
 ·intro i v hi;simp only[List.getElem?_map,Option.map_eq_some_iff]at hi;obtain⟨u,hu,rfl⟩:=hi;exact TV.kill_TVR (h.tv i u hu)
 ·intro v hv;simp only[List.mem_map]at hv;obtain⟨u,hu,rfl⟩:=hv;exact TV.wf_mono hwf (TV.kill_wf (h.wt u hu))
 ·intro k b hk a ha;obtain⟨b',hb',rfl⟩:=hlk' k b hk;simp only[Box.kill,List.mem_map]at ha;obtain⟨c,hc,rfl⟩:=ha;exact hwf _ (AC.kill_wf (h.wb k b' hb' c hc))
 ·intro k b hk;obtain⟨b',hb',rfl⟩:=hlk' k b hk;obtain⟨arr,h1,h2,h3⟩:=h.bx k b' hb';exact⟨arr,h1,h2.kill,h3⟩
 ·intro k k' b b' hk hk';obtain⟨_,p1,_⟩:=hlk' k b hk;obtain⟨_,p2,_⟩:=hlk' k' b' hk';exact h.bi k k' _ _ p1 p2
 ·intro k b id' r hk hr;obtain⟨_,p1,_⟩:=hlk' k b hk;exact h.br k _ id' r p1 hr
 ·intro b hb;obtain⟨q1,q2,q3⟩:=h.ib b hb;refine⟨q1,fun k bo hk=> ?_,q3⟩;obtain⟨_,p1,_⟩:=hlk' k bo hk;exact q2 k _ p1
 ·intro k b hk;obtain⟨q1,bo,q2⟩:=h.k0 k b hk;exact⟨q1,bo.kill id,by rw[hlk,q2];rfl⟩
theorem Z14 {im:Nat->Prop} {ks:List Kd} {b o:Nat}:∀(l:List (List AC)),(∀c∈l,AJ ks c=c)->CPss im w ks.length l b o->
  ∃ys,RowC im w ks l ys/\OC w b o ys:=by
 intro l hk h;induction l generalizing o with
 |nil=>exact⟨[],⟨by simp,by simp,fun i c hi=>by simp at hi⟩,fun j y h=>by simp at h⟩
 |cons c l ih=>
  rw[CPss]at h;obtain⟨ys,⟨h1,h2,h3⟩,h4⟩:=ih (fun c hc=>hk c (by simp[hc])) h.2;obtain⟨zs,h5,h6⟩:=Qkc _ _ _ h.1.2;have hzl:zs.length=ks.length:=by rw[<-h5.length];exact h.1.1
  refine⟨zs++ys,⟨by rw[List.length_append,h1,hzl,List.length_cons,Nat.add_mul,Nat.one_mul,Nat.add_comm],hk,fun i c' hi=> ?_⟩,fun j y hj=> ?_⟩
  ·cases i with
   |zero=>
    simp at hi;subst hi;have:cut (zs++ys) (0*ks.length) ks.length=zs:=by
     simp only[cut,Nat.zero_mul,List.drop_zero];rw[<-hzl,List.take_left'];rfl
    rw[this];exact h5
   |succ i=>
    have:=h3 i c' (by simpa using hi);have e:cut (zs++ys) ((i+1)*ks.length) ks.length=cut ys (i*ks.length) ks.length:=by
     simp only[cut];rw[Nat.add_mul,Nat.one_mul,List.drop_append,List.drop_eq_nil_of_le (by omega),List.nil_append,hzl,Nat.add_sub_cancel]
    rw[e];exact this
  ·rw[List.getElem?_append]at hj;split at hj
   ·exact h6 j y hj
   ·rename_i hge;have:=h4 (j-zs.length) y hj;rw[hzl]at this hge
    rwa [show o+ks.length+(j-ks.length)=o+j from by omega]at this
theorem Qba {im:Nat->Prop} {ks:List Kd} {l:List (List AC)} {xs:List Value} {v:Value} {e:TypeId} (hown:Er w e ks.length v l.length xs) (hrow:RowC im w ks l xs)
  (him:∀g,v.ownBlock=some g->im g):CP im w (.view ks l) v:=by
 rw[CP];rcases hown.2 with⟨e1,e2⟩|⟨g',o,cap,cur,e1,e3,e4,e5,e6,e7⟩
 ·refine⟨none,0,by rw[e1,e2],by omega,hrow.2.1, .inl (List.eq_nil_of_length_eq_zero e2)⟩
 ·refine⟨some ⟨g',o,none⟩,cap,e1,e4,hrow.2.1, .inr ⟨g',o,rfl,him g' (by rw[e1];rfl),SK fun i hi=> ?_⟩⟩;have hcl:=hrow.2.2 i l[i] (List.getElem?_eq_getElem hi);refine⟨?_,?_⟩
  ·rw[<-hrow.2.1 l[i] (List.getElem_mem hi)];exact ON _ _
  ·refine Qep _ (cut xs (i*ks.length) ks.length) g' _ hcl ?_;intro j y hj;simp only[cut,List.getElem?_take]at hj;split at hj
   ·rw[List.getElem?_drop]at hj;have:=Qj hown (g:=g') (by rw[e1];rfl) (i*ks.length+j) y hj;rw[e1]at this;simpa [Hd,Nat.add_assoc]using this
   ·simp at hj
theorem PT {a:AC} {x:Value} {ρ2:Env} {w':World} (hp:a.plain=true) (h:CC ρ w a x) (hcp:CP ρ.im w a x->CP ρ2.im w' a x):CC ρ2 w' a x:=by
 cases a<;>first|exact hcp h|(simp[AC.plain]at hp)
theorem Qx2 {ρ2:Env} {v:TV} {x:Value} {w':World} (hp:v.plainB=true) (hcp:∀(a:AC) (x:Value),a.plain=true->CP ρ.im w a x->CP ρ2.im w' a x) (h:TVR ρ w v x):TVR ρ2 w' v x:=by
 have hl:∀{l:List AC} {xs:List Value},Aj AC.plain l=true->CL (CC ρ w) l xs->CL (CC ρ2 w') l xs:=fun hh h=>h.mono fun a ha x hx=>PT (Av.1 hh a ha) hx (hcp a x (Av.1 hh a ha));cases v with
 |dead=>trivial
 |v g cs=>
  cases g
  ·obtain⟨a,rfl,ha⟩:=h;exact⟨a,rfl,PT (Av.1 hp a (by simp)) ha (hcp a x (Av.1 hp a (by simp)))⟩
  ·obtain⟨ys,rfl,hy⟩:=h;exact⟨ys,rfl,hl hp hy⟩
 |tup ps=>
  obtain⟨ys,rfl,hy⟩:=h;refine⟨ys,rfl,?_⟩;generalize ys.toList=l at hy;simp only[TV.plainB]at hp;induction ps generalizing l with
  |nil=>cases l<;>first|exact hy|exact hy.elim
  |cons p ps ih=>
   cases l with
   |nil=>exact hy.elim
   |cons y l=>
    obtain⟨g,cs⟩:=p;have hp1:=Av.1 hp (g,cs) (by simp);have hp2:Aj (fun p:Bool×List AC=>Aj AC.plain p.2) ps=true:=Av.2 fun q hq=>Av.1 hp q (by simp[hq]);refine⟨?_,ih hp2 l hy.2⟩;have:=hy.1;cases g
    ·obtain⟨a,h1,ha⟩:=this;subst h1;exact⟨a,rfl,PT (Av.1 hp1 a (by simp)) ha (hcp a y (Av.1 hp1 a (by simp)))⟩
    ·obtain⟨zs,h1,hz⟩:=this;exact⟨zs,h1,hl hp1 hz⟩
theorem Qz3 {im im':Nat->Prop} {w w':World} {a:AC} {x:Value} (hf:a.flat=true) (h:CP im w a x):CP im' w' a x:=by
 cases a<;>simp only[CP,AC.flat]at* <;>first|exact h|(simp at hf)
theorem Zoc {ρ2:Env} {v:TV} {x:Value} {w':World} (hf:v.flat=true) (h:TVR ρ w v x):TVR ρ2 w' v x:=by
 have hl:∀{l:List AC} {xs:List Value},Aj AC.flat l=true->CL (CC ρ w) l xs->CL (CC ρ2 w') l xs:=fun hh h=>h.mono fun a ha x hx=>by
  have:=Av.1 hh a ha;have hp:a.plain=true:=by cases a<;>first|rfl|(simp[AC.flat]at this)
  exact PT hp hx (Qz3 this)
 have h1:∀{a:AC} {x:Value},a.flat=true->CC ρ w a x->CC ρ2 w' a x:=fun{a x} hh h=>by
  have hp:a.plain=true:=by cases a<;>first|rfl|(simp[AC.flat]at hh)
  exact PT hp h (Qz3 hh)
 cases v with
 |dead=>trivial
 |v g cs=>
  cases g
  ·obtain⟨a,rfl,ha⟩:=h;exact⟨a,rfl,h1 (Av.1 hf a (by simp)) ha⟩
  ·obtain⟨ys,rfl,hy⟩:=h;exact⟨ys,rfl,hl hf hy⟩
 |tup ps=>
  obtain⟨ys,rfl,hy⟩:=h;refine⟨ys,rfl,?_⟩;generalize ys.toList=l at hy;simp only[TV.flat]at hf;induction ps generalizing l with
  |nil=>cases l<;>first|exact hy|exact hy.elim
  |cons p ps ih=>
   cases l with
   |nil=>exact hy.elim
   |cons y l=>
    obtain⟨g,cs⟩:=p;have hp1:=Av.1 hf (g,cs) (by simp);have hp2:Aj (fun p:Bool×List AC=>Aj AC.flat p.2) ps=true:=Av.2 fun q hq=>Av.1 hf q (by simp[hq]);refine⟨?_,ih hp2 l hy.2⟩;have:=hy.1;cases g
    ·obtain⟨a,q1,ha⟩:=this;subst q1;exact⟨a,rfl,h1 (Av.1 hp1 a (by simp)) ha⟩
    ·obtain⟨zs,q1,hz⟩:=this;exact⟨zs,q1,hl hp1 hz⟩
theorem JW {v:TV} (h:v.plainB=true):TV.wf boxes rows v:=by
 have hl:∀{l:List AC},Aj AC.plain l=true->∀a∈l,AC.wf boxes rows a:=fun h a ha=>by
  have:=Av.1 h a ha;cases a<;>first|trivial|(simp[AC.plain]at this)
 cases v with
 |dead=>trivial
 |v g cs=>exact hl h
 |tup ps=>exact fun p hp=>hl (Av.1 h p hp)
theorem Zj1 {im:Nat->Prop} {a:AC} {x:Value} (h:CP im w a x):AC.wf boxes rows a:=by
 cases a<;>first|trivial|(simp[CP]at h)
theorem Zfn {im:Nat->Prop} {l:List AC} {xs:List Value} (h:CL (CP im w) l xs):∀a∈l,AC.wf boxes rows a:=by
 induction l generalizing xs with
 |nil=>intro a ha;simp at ha
 |cons b l ih=>
  cases xs with
  |nil=>exact h.elim
  |cons y xs=>
   intro a ha;simp only[List.mem_cons]at ha;rcases ha with rfl|ha
   ·exact Zj1 h.1
   ·exact ih h.2 a ha
theorem Zka {ρ2:Env} (hcp:∀(a a':AC) (x:Value),a.res rows=some a'->CC ρ w a x->AC.wf boxes rows a->CC ρ2 w a' x) {v v':TV} {x:Value} (hr:v.res rows=some v') (hw:TV.wf boxes rows v) (h:TVR ρ w v x):TVR ρ2 w v' x:=by
 have hl:∀(cs cs':List AC) (xs:List Value),Fp rows cs=some cs'->(∀a∈cs,AC.wf boxes rows a)->CL (CC ρ w) cs xs->CL (CC ρ2 w) cs' xs:=by
  intro cs;induction cs with
  |nil=>intro cs' xs h1 _ h2;simp[Fp]at h1;subst h1;cases xs<;>first|exact h2|exact h2.elim
  |cons a cs ih=>
   intro cs' xs h1 hwf h2;cases xs with
   |nil=>exact h2.elim
   |cons y xs=>
    simp only[Fp]at h1;split at h1
    ·rename_i a' ha';split at h1
     ·rename_i l' hl';simp at h1;subst h1;exact⟨hcp a a' y ha' h2.1 (hwf a (by simp)),ih _ _ hl' (fun b hb=>hwf b (by simp[hb])) h2.2⟩
     ·simp at h1
    ·simp at h1
 cases v with
 |dead=>simp[TV.res]at hr
 |tup ps=>simp[TV.res]at hr
 |v g cs=>
  simp only[TV.res]at hr;split at hr
  ·rename_i l hl';simp at hr;subst hr;cases g
   ·obtain⟨a,rfl,ha⟩:=h;simp only[Fp]at hl';split at hl'
    ·rename_i a' ha';simp at hl';subst hl';exact⟨a',rfl,hcp a a' x ha' ha (hw a (by simp))⟩
    ·simp at hl'
   ·obtain⟨ys,rfl,hy⟩:=h;exact⟨ys,rfl,hl _ _ _ hl' hw hy⟩
  ·simp at hr
theorem Z1b {a a':AC} (h:a.res rows=some a'):a'.plain=true:=by
 cases a<;>simp only[AC.res]at h<;>try (simp at h;done)
 case own=>split at h<;>simp at h;subst h;rfl
 all_goals (simp at h;subst h;rfl)
theorem Qph:∀{l l':List AC},Fp rows l=some l'->Aj AC.plain l'=true
 |[],l',h=>by simp[Fp]at h;subst h;rfl
 |a::l,l',h=>by
  simp only[Fp]at h;split at h
  ·rename_i a' ha';split at h
   ·rename_i l'' hl'';simp at h;subst h;simp only[Aj,Z1b ha',cond_true];exact Qph hl''
   ·simp at h
  ·simp at h
theorem Q7c:∀{l l':List TV},GQ rows l=some l'->l'.length=l.length/\∀(i:Nat) (a':TV),l'[i]? =some a'->a'.plainB=true/\∃a,l[i]? =some a/\a.res rows=some a'
 |[],l',h=>by simp[GQ]at h;subst h;exact⟨rfl,fun i a h=>by simp at h⟩
 |a::l,l',h=>by
  simp only[GQ]at h;split at h
  ·rename_i a' ha';split at h
   ·rename_i l'' hl'';simp at h;subst h;obtain⟨h1,h2⟩:=Q7c hl'';refine⟨by simp[h1],fun i b hb=> ?_⟩;cases i with
    |zero=>
     simp at hb;subst hb;refine⟨?_,a,rfl,ha'⟩;cases a with
     |dead=>simp[TV.res]at ha'
     |tup=>simp[TV.res]at ha'
     |v g cs=>
      simp only[TV.res]at ha';split at ha'
      ·rename_i q hq;simp at ha';subst ha';exact Qph hq
      ·simp at ha'
    |succ i=>simpa using h2 i b (by simpa using hb)
   ·simp at h
  ·simp at h
end
end Go.Bm
