/- The abstract machine, second form: how a law's arguments are opened and its row is shut, whatever the law. -/
import Derived.Test.YtommijghjlikkaaGreatBmStep
import Derived.ProofKit
import Derived.Below
import Derived.OpenShut
import Derived.ChangeSame
import Derived.Deep.Slices
set_option linter.unusedVariables false
set_option linter.unusedSimpArgs false
namespace Go.Bm
open Go.RowKit Go.WideShapes Go.ChangeShapes
def O6 (P:Program) (g:TypeId->Option (List Kd)):List Field->Nat->Option (List Kd)
 |[],_=>some []
 |f::fs,o=>match g f.type with
  |some ks=>bif Nat.beq f.offset o&&Nat.beq (P.cellsOf f.type) ks.length then(O6 P g fs (o+ks.length)).map (ks++ ·)else none
  |none=>none
def HV (P:Program):Nat->TypeId->Option (List Kd)
 |0,_=>none
 |n+1,t=>match P.underlying t with
  |some .bool=>some [.bool]
  |some (.int k)=>some [.int k]
  |some (.slice e)=>(HV P n e).bind fun ks=>bif Nat.beq (P.cellsOf e) ks.length&&Nat.blt 0 ks.length then some [.sl ks]else none
  |some (.struct fs)=>(O6 P (HV P n) fs.toList 0).bind fun ks=>bif Nat.beq (P.cellsOf t) ks.length then some ks else none
  |some (.array m e)=>(HV P n e).bind fun ks=>bif Nat.beq (P.cellsOf e) ks.length&&Nat.beq (P.cellsOf t) (m*ks.length)then some (Pn ks m)else none
  |_=>none
mutual
def okC:Kd->AC->Prop
 | .int k,a=>k.min<=Af a/\Af a<=k.max
 | .bool,_=>True
 | .sl ks,a=>(BL a).length<=maxLen/\∀c∈BL a,okR ks c/\AJ ks c=c
 | .raw,_=>True
def okR:List Kd->List AC->Prop
 |[],_=>True
 |_::_,[]=>False
 |k::ks,a::cs=>okC k a/\okR ks cs
end
def Op (w:World) (ks:List Kd) (cs:List Value):Prop:=∃raw,AJ ks raw=raw/\CL (CP (fun b=>b<w.heap.size) w) raw cs/\okR ks raw
theorem Op.length {w:World} {ks:List Kd} {cs:List Value} (h:Op w ks cs):cs.length=ks.length:=by
 obtain⟨raw,h1,h2,_⟩:=h;rw[<-h2.length,<-h1,ON]
theorem Q1s:∀(k1 k2:List Kd) (r1 r2:List AC),r1.length=k1.length->AJ (k1++k2) (r1++r2)=AJ k1 r1++AJ k2 r2
 |[],k2,[],r2,_=>rfl
 |k::k1,k2,a::r1,r2,h=>by
  simp only[List.cons_append];rw[Zy,Zy,Q1s k1 k2 r1 r2 (by simpa using h)];rfl
 |[],_,_::_,_,h=>by simp at h
 |_::_,_,[],_,h=>by simp at h
theorem Q5r:∀{k1 k2:List Kd} {r1 r2:List AC},r1.length=k1.length->okR k1 r1->okR k2 r2->okR (k1++k2) (r1++r2)
 |[],_,[],_,_,_,h=>h
 |k::k1,k2,a::r1,r2,hl,h,h'=>by
  simp only[List.cons_append,okR]at h⊢;exact⟨h.1,Q5r (by simpa using hl) h.2 h'⟩
 |[],_,_::_,_,h,_,_=>by simp at h
 |_::_,_,[],_,h,_,_=>by simp at h
theorem Op.append {w:World} {k1 k2:List Kd} {c1 c2:List Value} (h:Op w k1 c1) (h':Op w k2 c2):Op w (k1++k2) (c1++c2):=by
 obtain⟨r1,a1,a2,a3⟩:=h;obtain⟨r2,b1,b2,b3⟩:=h';have hl:r1.length=k1.length:=by rw[<-a1,ON]
 exact⟨r1++r2,by rw[Q1s _ _ _ _ hl,a1,b1],a2.append b2,Q5r hl a3 b3⟩
theorem Op.nil {w:World}:Op w [] []:=⟨[],rfl,trivial,by simp[okR]⟩
section
variable {H:Type} {enc:TypeId×Value->H} {P:Program} {w:World}
theorem Qyp {g:TypeId->Option (List Kd)} {m:Nat} (hg:∀(t:TypeId) (ks:List Kd) (cs:List Value) (x:DataW H×List MemPlace),g t=some ks->DataW.trod enc P w 0 (fun _=>true) true m t cs=some x->Op w ks cs):
  ∀(fs:List Field) (o:Nat) (ks:List Kd) (cs:List Value),O6 P g fs o=some ks->cs.length=o+ks.length->
   (∀f∈fs,∃x,DataW.trod enc P w 0 (fun _=>true) true m f.type ((cs.drop f.offset).take (P.cellsOf f.type))=some x)->Op w ks (cs.drop o)
 |[],o,ks,cs,h,hl,_=>by
  simp[O6]at h;subst h;have:cs.drop o=[]:=by apply List.drop_eq_nil_of_le;simp at hl;omega
  rw[this];exact Op.nil
 |f::fs,o,ks,cs,h,hl,hx=>by
  simp only[O6]at h;split at h
  ·rename_i k1 hk1;cases hc:(Nat.beq f.offset o&&Nat.beq (P.cellsOf f.type) k1.length)<;>rw[hc]at h
   ·simp at h
   ·simp only[cond_true,Option.map_eq_some_iff]at h;obtain⟨k2,h2,rfl⟩:=h;simp only[Bool.and_eq_true]at hc;have e1:f.offset=o:=Nat.eq_of_beq_eq_true hc.1;have e2:P.cellsOf f.type=k1.length:=Nat.eq_of_beq_eq_true hc.2;obtain⟨x,hx1⟩:=hx f (by simp);have f1:=hg _ _ _ _ hk1 hx1;rw[e1,e2]at f1;have f2:=Qyp hg fs (o+k1.length) k2 cs h2 (by simp at hl;omega) (fun f' hf'=>hx f' (by simp[hf']));have:cs.drop o=(cs.drop o).take k1.length++cs.drop (o+k1.length):=by
     rw[<-List.drop_drop,List.take_append_drop]
    rw[this];exact f1.append f2
  ·cases h
theorem Q31 {ks:List Kd}:∀(m:Nat) (cs:List Value),cs.length=m*ks.length->(∀i,i<m->Op w ks ((cs.drop (i*ks.length)).take ks.length))->Op w (Pn ks m) cs
 |0,cs,hl,_=>by
  have:cs=[]:=by simpa using hl
  subst this;exact Op.nil
 |m+1,cs,hl,h=>by
  have h0:=h 0 (by omega);simp at h0;have:cs=cs.take ks.length++cs.drop ks.length:=(List.take_append_drop _ _).symm;rw[this,Pn];refine h0.append (Q31 m _ ?_ fun i hi=> ?_)
  ·simp[hl,Nat.succ_mul]
  ·have:=h (i+1) (by omega);rw[List.drop_drop];rw[Nat.succ_mul,Nat.add_comm]at this;exact this
theorem Zl3 {ks:List Kd} {cs:List Value} {e t:TypeId} {fuel:Nat} {x:DataW H×List MemPlace} (hu:P.underlying t=some (.slice e)) (e1:P.cellsOf e=ks.length) (e2:0<ks.length)
  (hx:DataW.trod enc P w 0 (fun _=>true) true fuel t cs=some x) (ih:∀(m:Nat) (cs:List Value) (x:DataW H×List MemPlace),DataW.trod enc P w 0 (fun _=>true) true m e cs=some x->Op w ks cs):Op w [.sl ks] cs:=by
 rcases Go.Deep.open_slice hu hx with⟨rfl,_⟩|⟨a,len,cap,m,n,D,Pl,rfl,_,hl,hcm,hm,_,hi⟩
 ·refine⟨[.view ks []],rfl,⟨Rv ks,trivial⟩,?_⟩;simp[okR,okC,BL]
 ·have hmc:m=cap:=by simpa using hm
  subst hmc
  have hex:∀i,∃(vs:List Value) (raw:List AC),i<len->(w.cells? 0 (a.add (i*P.cellsOf e)) (P.cellsOf e)=some vs/\AJ ks raw=raw/\CL (CP (fun b=>b<w.heap.size) w) raw vs/\okR ks raw):=fun i=>by
   by_cases hil:i<len
   ·obtain⟨cs',h1,h2⟩:=hi i (by omega);obtain⟨raw,r1,r2,r3⟩:=ih n cs' _ h2;exact⟨cs',raw,fun _=>⟨h1,r1,r2,r3⟩⟩
   ·exact⟨[],[],fun h=>(hil h).elim⟩
  let vs:Nat->List Value:=fun i=>Classical.choose (hex i)
  let raws:Nat->List AC:=fun i=>Classical.choose (Classical.choose_spec (hex i))
  have hvs:∀i,i<len->(w.cells? 0 (a.add (i*P.cellsOf e)) (P.cellsOf e)=some (vs i)/\AJ ks (raws i)=raws i/\CL (CP (fun b=>b<w.heap.size) w) (raws i) (vs i)/\okR ks (raws i)):=fun i=>Classical.choose_spec (Classical.choose_spec (hex i));have hlen:((List.range len).map raws).length=len:=by simp
  have hget:∀i (hi:i<((List.range len).map raws).length),((List.range len).map raws)[i]=raws i:=fun i hi=>by simp
  have hmem:∀c∈(List.range len).map raws,∃i,i<len/\c=raws i:=fun c hc=>by
   simp only[List.mem_map,List.mem_range]at hc;obtain⟨i,h1,h2⟩:=hc;exact⟨i,h1,h2.symm⟩
  refine⟨[.view ks ((List.range len).map raws)],rfl,⟨?_,trivial⟩,?_⟩
  ·rw[CP];refine⟨some a,m,by rw[hlen],by rw[hlen];exact hl,fun c hc=> ?_,?_⟩
   ·obtain⟨i,h1,rfl⟩:=hmem c hc;exact(hvs i h1).2.1
   ·by_cases h0:len=0
    ·subst h0;exact .inl rfl
    ·right;have h0:0<len:=by omega
     obtain⟨hc0,r1,r2,_⟩:=hvs 0 h0;obtain⟨_,hlen0,hat0⟩:=World.cells?_some hc0;have h00:=hat0 0 (by omega);simp only[Nat.zero_mul]at h00;have ea:(a.add 0).add 0=a:=by simp[Addr.add]
     rw[ea,List.getElem?_eq_getElem (by omega)]at h00;have hspot:a.spot=none/\a.block<w.heap.size:=by
      unfold World.cell? at h00;split at h00
      ·rename_i hb;split at h00
       ·cases h00
       ·rename_i hsp;refine⟨by simpa using hsp,(Array.getElem?_eq_some_iff.1 hb).1⟩
      ·cases h00
     obtain⟨b,o,sp⟩:=a;obtain⟨rfl,hb⟩:=hspot;refine⟨b,o,rfl,hb,SK fun i hil=> ?_⟩;rw[hget i hil];rw[hlen]at hil;obtain⟨hc1,hr1,hr2,_⟩:=hvs i hil;obtain⟨_,hle,hat⟩:=World.cells?_some hc1;refine⟨by rw[<-hr1];exact ON _ _,Qep _ (vs i) b _ hr2 fun j y hj=> ?_⟩;have hjl:j<(vs i).length:=(List.getElem?_eq_some_iff.1 hj).1;have:=hat j (by omega);rw[<-hj,<-this,e1];congr 1;unfold Addr.add;by_cases h1:i*ks.length=0<;>by_cases h2:j=0<;>simp[h1,h2,Nat.add_assoc]
  ·simp only[okR,okC,BL,and_true];refine⟨by rw[hlen];omega,fun c hc=> ?_⟩;obtain⟨i,h1,rfl⟩:=hmem c hc;exact⟨(hvs i h1).2.2.2,(hvs i h1).2.1⟩
theorem P4:∀(n:Nat) (m:Nat) (t:TypeId) (ks:List Kd) (cs:List Value) (x:DataW H×List MemPlace),HV P n t=some ks->DataW.trod enc P w 0 (fun _=>true) true m t cs=some x->Op w ks cs
 |0,_,_,_,_,_,h,_=>by simp[HV]at h
 |n+1,m,t,ks,cs,x,h,hx=>by
  unfold HV at h;split at h
  ·rename_i hu;simp at h;subst h;obtain⟨b,rfl,_⟩:=DataW.trod_bool hu hx;exact⟨[.bool b],rfl,⟨Qvt _,trivial⟩,by simp[okR,okC]⟩
  ·rename_i k hu;simp at h;subst h;obtain⟨i,rfl,_,hw⟩:=DataW.trod_int hu hx;exact⟨[.int k i],rfl,⟨GE _ _,trivial⟩,by simpa [okR,okC,Af,Lit.wf]using hw⟩
  ·rename_i e hu;simp only[Option.bind_eq_some_iff]at h;obtain⟨k1,h1,h2⟩:=h;cases hc:(Nat.beq (P.cellsOf e) k1.length&&Nat.blt 0 k1.length)<;>rw[hc]at h2
   ·simp at h2
   ·simp at h2;subst h2;simp only[Bool.and_eq_true]at hc;have e1:=Nat.eq_of_beq_eq_true hc.1;have e2:0<k1.length:=by have:=hc.2;simp[Nat.blt]at this;omega
    exact Zl3 hu e1 e2 hx fun m cs x=>P4 n m e k1 cs x h1
  ·rename_i fs hu;obtain⟨xs,m',rfl,_,hlen,hxl,hf⟩:=DataW.trod_struct hu hx;simp only[Option.bind_eq_some_iff]at h;obtain⟨k1,h1,h2⟩:=h;cases hc:Nat.beq (P.cellsOf t) k1.length<;>rw[hc]at h2
   ·simp at h2
   ·simp at h2;subst h2;have e:=Nat.eq_of_beq_eq_true hc;have := Qyp (fun t ks cs x => P4 n m' t ks cs x) fs.toList 0 k1 cs h1 (by omega) (fun f hf' => by
     obtain⟨i,hi⟩:=List.mem_iff_getElem?.1 hf';have hi':fs[i]? =some f:=by simpa using hi
     have:=hf i f hi';have hil:i<fs.size:=by
      have:=(Array.getElem?_eq_some_iff.1 hi').1;exact this
     rw[this,List.getElem?_eq_getElem (by omega)];exact⟨_,rfl⟩)
    simpa using this
  ·rename_i k e hu;obtain⟨xs,m',rfl,_,hlen,hxl,hf⟩:=DataW.trod_array hu hx;simp only[Option.bind_eq_some_iff]at h;obtain⟨k1,h1,h2⟩:=h;cases hc:(Nat.beq (P.cellsOf e) k1.length&&Nat.beq (P.cellsOf t) (k*k1.length))<;>rw[hc]at h2
   ·simp at h2
   ·simp at h2;subst h2;simp only[Bool.and_eq_true]at hc;have e1:=Nat.eq_of_beq_eq_true hc.1;have e2:=Nat.eq_of_beq_eq_true hc.2;refine Q31 k cs (by omega) fun i hi=> ?_;have:=hf i hi;rw[e1]at this;refine P4 n m' e k1 _ (xs[i]'(by omega)) h1 ?_;rw[this,List.getElem?_eq_getElem]
  ·cases h
end
structure Ar where
 agg:Bool
 ks:List Kd
 raw:List AC
def Ar.sh (a:Ar):Bool×List Kd:=(a.agg,a.ks)
def Ar.ok (a:Ar):Prop:=okR a.ks a.raw/\AJ a.ks a.raw=a.raw
def Ar.tv (a:Ar):TV:= .v a.agg (AJ a.ks a.raw)
def shK (P:Program) (t:TypeId):Option (Bool×List Kd):=match P.underlying t with
 |some (.struct _)=>(HV P 8 t).map fun ks=>(true,ks)
 |some (.array _ _)=>(HV P 8 t).map fun ks=>(true,ks)
 |some .bool=>some (false,[.bool])
 |some (.int k)=>some (false,[.int k])
 |some (.slice _)=>(HV P 8 t).map fun ks=>(false,ks)
 |_=>none
section
variable {H:Type} {enc:TypeId×Value->H} {P:Program} {W:World}
theorem Ziu {t:TypeId} {v:Value} {d:DataW H} {p:List MemPlace} {r:Reach} {b0:Nat} {sh:Bool×List Kd} (hs:shK P t=some sh) (hv:Value.okWide P W r b0 t v)
  (h:DataW.Trod enc P W 0 (fun _=>true) true t v d p):∃a:Ar,a.sh=sh/\a.ok/\∀(ρ:Env),ρ.im=(fun b=>b<W.heap.size)->TVR ρ W a.tv v:=by
 have agg:∀(ks:List Kd) (cs:Array Value),HV P 8 t=some ks->v= .agg cs->∃a:Ar,a.sh=(true,ks)/\a.ok/\∀(ρ:Env),ρ.im=(fun b=>b<W.heap.size)->TVR ρ W a.tv v:=by
  rintro ks cs hk rfl;obtain⟨fuel,hf⟩:=h;obtain⟨raw,r1,r2,r3⟩:=P4 8 fuel t ks _ _ hk hf;refine⟨⟨true,ks,raw⟩,rfl,⟨r3,r1⟩,fun ρ hρ=>⟨cs,rfl,?_⟩⟩;rw[r1];exact r2.mono fun a _ x hx=>I2 (by rw[hρ];exact hx)
 unfold shK at hs;split at hs
 ·rename_i fs hu;simp only[Option.map_eq_some_iff]at hs;obtain⟨ks,hk,rfl⟩:=hs;obtain⟨cs,rfl,_⟩:=okWide_struct hu hv;exact agg ks cs hk rfl
 ·rename_i k e hu;simp only[Option.map_eq_some_iff]at hs;obtain⟨ks,hk,rfl⟩:=hs;obtain⟨cs,rfl,_⟩:∃cs,v= .agg cs/\cs.size=P.cellsOf t:=by
   simp only[Value.okWide,hu]at hv;obtain⟨cs,h1,h2,_⟩:=hv;exact⟨cs,h1,h2⟩
  exact agg ks cs hk rfl
 ·rename_i hu;simp at hs;subst hs;obtain⟨n,rfl,_,_⟩:=open_bool hu hv h;exact⟨⟨false,[.bool],[.bool n]⟩,rfl,⟨by simp[okR,okC],rfl⟩,fun ρ _=>TVR.mkBool n⟩
 ·rename_i k hu;simp at hs;subst hs;obtain⟨n,rfl,_,_,hw⟩:=open_int hu hv h;exact⟨⟨false,[.int k],[.int k n]⟩,rfl,⟨by simpa [okR,okC,Af,Lit.wf]using hw,rfl⟩,fun ρ _=>TVR.mkInt k n⟩
 ·rename_i e hu;simp only[Option.map_eq_some_iff]at hs;obtain⟨ks,hk,rfl⟩:=hs;obtain⟨a0,len,cap,rfl⟩:=okWide_slice hu hv;obtain⟨fuel,hf⟩:=h;obtain⟨raw,r1,r2,r3⟩:=P4 8 fuel t ks _ _ hk hf;have hl:raw.length=1:=by rw[r2.length];simp[Value.cells]
  match raw,hl with
  |[a],_=>
   refine⟨⟨false,ks,[a]⟩,rfl,⟨r3,r1⟩,fun ρ hρ=>⟨a,r1,?_⟩⟩;have:=r2.1;exact I2 (by rw[hρ];simpa [Value.cells]using this)
 ·cases hs
theorem Qud {r:Reach} {b0:Nat}:∀(ts:List TypeId) (vs:List Value) (ds:List (DataW H)) (p:List MemPlace) (shs:List (Bool×List Kd)),ts.map (shK P)=shs.map some->
  (∀(j:Nat) (t:TypeId) (v:Value),ts[j]? =some t->vs[j]? =some v->Value.okWide P W r b0 t v)->DataW.TrodAll enc P W 0 (fun _=>true) true ts vs ds p->
  ∃as:List Ar,as.map Ar.sh=shs/\(∀a∈as,a.ok)/\vs.length=as.length/\∀(i:Nat) (a:Ar) (x:Value),as[i]? =some a->vs[i]? =some x->∀(ρ:Env),ρ.im=(fun b=>b<W.heap.size)->TVR ρ W a.tv x
 |[],vs,ds,p,shs,hs,_,h=>by
  obtain⟨rfl,rfl,rfl⟩:=trodAll_nil h;cases shs with
  |nil=>exact⟨[],rfl,by simp,rfl,by simp⟩
  |cons=>simp at hs
 |t::ts,vs,ds,p,shs,hs,hv,h=>by
  obtain⟨v,vs1,d,ds1,a,b,rfl,rfl,rfl,h1,h2⟩:=trodAll_cons h;cases shs with
  |nil=>simp at hs
  |cons sh shs=>
   simp only[List.map_cons,List.cons.injEq]at hs;obtain⟨as,e1,e2,e3,e4⟩:=Qud ts vs1 ds1 b shs hs.2 (fun j t v ht hvv=>hv (j+1) t v (by simpa using ht) (by simpa using hvv)) h2;obtain⟨a,ha,hok,hp⟩:=Ziu hs.1 (hv 0 t v rfl rfl) h1;refine⟨a::as,by simp[ha,e1],?_,by simp[e3],?_⟩
   ·intro x hx;rcases List.mem_cons.1 hx with rfl|hx
    ·exact hok
    ·exact e2 x hx
   ·intro i a' x h1 h2;cases i with
    |zero=>simp at h1 h2;subst h1;subst h2;exact hp
    |succ i=>exact e4 i a' x (by simpa using h1) (by simpa using h2)
theorem Q6y (hl:laidOutB P=true) {W':World} (hb:Below W.heap.size W W') {sp:Nat->Bool}:∀(ts:List TypeId) (vs:List Value) (ds:List (DataW H)) (p:List MemPlace),
  ts.all (fun t=>P.readableRec t&&decide (t<P.types.size))=true->(∀x∈p,x.block<W.heap.size/\sp x.block=true)->DataW.TrodAll enc P W 0 (fun _=>true) true ts vs ds p->
  DataW.TrodAll enc P W' 0 sp true ts vs ds p
 |[],vs,ds,p,_,_,h=>by
  obtain⟨rfl,rfl,rfl⟩:=trodAll_nil h;exact rfl
 |t::ts,vs,ds,p,hr,hlt,h=>by
  obtain⟨v,vs1,d,ds1,a,b,rfl,rfl,rfl,h1,h2⟩:=trodAll_cons h;simp only[List.all_cons,Bool.and_eq_true,decide_eq_true_eq]at hr;refine⟨a,b,WideElems.Trod_stays hl hr.1.1 hr.1.2 h1 (fun x hx=>hb.same (hlt x (by simp[hx])).1) (fun x hx=>(hlt x (by simp[hx])).2),?_,rfl⟩;exact Q6y hl hb ts vs1 ds1 b hr.2 (fun x hx=>hlt x (by simp[hx])) h2
theorem Z1k {f:Func} {s:ChangeSpec} {apart fresh handsOn again:Bool} {W W':World} {args:Array Value} {v:Value} {ds gs:List (DataW H)} {before pa pv:List MemPlace}
  (hW:DataW.Whole enc P f.params.toList s.vars apart W args.toList ds gs before)
  (hres:∀(b:Nat) (sp:Nat->Bool) (hd:Bool),DataW.TrodAll enc P W' b sp hd f.resultTypes.toList (v.resultList f.resultTypes.size) (s.fn H (ds++gs)).results [])
  (hargs:∀sp:Nat->Bool,(∀p∈before,sp p.block=true)->DataW.TrodAll enc P W' 0 sp true f.params.toList args.toList (s.fn H (ds++gs)).args pa)
  (hvars:∀sp:Nat->Bool,(∀p∈before,sp p.block=true)->DataW.TrodVars enc P W' sp s.vars (s.fn H (ds++gs)).vars pv)
  (hps:before=pa++pv) (hb:Below W.heap.size W W')
  (hok:∀(j:Nat) (t:TypeId) (r:Value),f.resultTypes[j]? =some t->(v.resultList f.resultTypes.size)[j]? =some r->Value.okWide P W' .any 0 t r):
  s.post enc P f apart fresh handsOn again W args v W':=by
 have hlt:∀p∈before,p.block<W.heap.size:=fun p hp=>hW.lt p hp;have hold:∀p∈before,(fun b=>decide (b<W.heap.size)) p.block=true:=fun p hp=>by simpa using hlt p hp
 refine⟨ds,gs,before,[],pa,pv,hW,hres _ _ _,hargs _ hold,hvars _ hold,World.keptBut_mono (fun p hp=>⟨hp,?_⟩) (hb.frame (· ∈before)),fun _=> ?_⟩
 ·rw[hps,List.mem_append]at hp;exact Or.inr hp
 ·obtain⟨_,_,_,_,_,hz,hn⟩:=hW;refine⟨hok,_,_,([]++pa)++pv,⟨[]++pa,pv,trodAll_append (hargs _ (fun _ _=>rfl)) (hres _ _ _),hvars _ (fun _ _=>rfl),rfl,?_,?_⟩,?_⟩
  ·intro b off hp;have hin:MemPlace.cell b off∈before:=by rw[hps];simpa using hp
   rw[hb.frozen (hlt _ hin)];exact hz b off hin
  ·intro ha;have:=hn ha;rw[hps]at this;simpa using this
  ·intro p hp _;rw[hps];simpa using hp
theorem Zz5 {f:FuncId} {fn:Func} {s:ChangeSpec} {apart fresh handsOn again:Bool} {tb:TypeId} {shs:List (Bool×List Kd)} {args:Array Value} {ds gs:List (DataW H)} {before:List MemPlace} {base:Nat}
  (hvars:s.vars=[]) (hl:laidOutB P=true) (hrt:fn.resultTypes= #[tb]) (htb:P.underlying tb=some .bool)
  (hr:fn.params.toList.all (fun t=>P.readableRec t&&decide (t<P.types.size))=true) (hsh:fn.params.toList.map (shK P)=shs.map some)
  (hspec:∀l:List (DataW H),l.length=shs.length->s.fn H l={results:=[.lit (.bool true)],args:=l})
  (hlaw:∀as:List Ar,as.map Ar.sh=shs->(∀a∈as,a.ok)->PCallM P f (as.map Ar.tv) ⟨[],[]⟩ (.v false [.bool true]) ⟨[],[]⟩)
  (hval:∀(j:Nat) (t:TypeId) (v:Value),fn.params[j]? =some t->args[j]? =some v->Value.okWide P W .any base t v)
  (hW:DataW.Whole enc P fn.params.toList s.vars apart W args.toList ds gs before):
  Calls P f args W fun e W'=>∃v,e= .returned v/\s.post enc P fn apart fresh handsOn again W args v W':=by
 have hW':=hW;obtain⟨p,q,hA,hV,rfl,hfz,hnd⟩:=hW;rw[hvars]at hV;obtain⟨rfl,rfl⟩:=trodVars_none hV;have hlt:∀x∈p++[],x.block<W.heap.size:=fun x hx=>hW'.lt x hx;obtain⟨as,e1,e2,e3,e4⟩:=Qud (r:= .any) (b0:=base) fn.params.toList args.toList ds p shs hsh (fun j t v ht hv=>hval j t v (by simpa using ht) (by simpa using hv)) hA;have hdl:ds.length=shs.length:=by
  have:∀(ts:List TypeId) (vs:List Value) (ds:List (DataW H)) (p:List MemPlace),DataW.TrodAll enc P W 0 (fun _=>true) true ts vs ds p->ds.length=vs.length:=by
   intro ts;induction ts with
   |nil=>intro vs ds p h;obtain⟨rfl,rfl,rfl⟩:=trodAll_nil h;rfl
   |cons t ts ih=>
    intro vs ds p h;obtain⟨v,vs1,d,ds1,a,b,rfl,rfl,rfl,h1,h2⟩:=trodAll_cons h;simp[ih _ _ _ h2]
  rw[this _ _ _ _ hA,e3,<-e1,List.length_map]
 have hfn:=hspec (ds++[]) (by simpa using hdl);have hrel:RelE (E0 (fun b=>b<W.heap.size) W ⟨fun _=>0,fun _=> .slice none 0 0,fun _=>0,fun b=>b<W.heap.size⟩ []) (as.map Ar.tv) [] [] ⟨fun _=>0,fun _=> .slice none 0 0,fun _=>0,fun b=>b<W.heap.size⟩ args.toList.toArray W:=by
  refine⟨by simpa using e3.symm,fun i v hi=> ?_,fun v hv=> ?_,fun k b hk=>by simp[Ab]at hk,fun k b hk=>by simp[Ab]at hk,fun k k' b b' hk=>by simp[Ab]at hk,fun id r hr=>by simp[Ab]at hr,
   fun id id' r r' g hr=>by simp[Ab]at hr,fun k b id r hk=>by simp[Ab]at hk,fun b hb=>⟨hb,fun k bo hk=>by simp[Ab]at hk,fun id r hr=>by simp[Ab]at hr⟩,Fr.refl _ _,fun _ h=>h,fun _ h=>h,fun b h=> .inl h,fun k b hk=>by simp[E0,Ab]at hk⟩
  ·simp only[List.getElem?_map,Option.map_eq_some_iff]at hi;obtain⟨a,ha,rfl⟩:=hi;have hil:i<args.toList.length:=by rw[e3];exact(List.getElem?_eq_some_iff.1 ha).1
   have hil2:i<args.size:=by simpa using hil
   have e:args.toList.toArray.getD i undef=args.toList[i]:=by simp[Array.getD,hil2]
   rw[e];exact e4 i a _ ha (List.getElem?_eq_getElem hil) _ rfl
  ·simp only[List.mem_map]at hv;obtain⟨a,ha,rfl⟩:=hv;intro c hc;obtain⟨i,hi⟩:=List.getElem?_of_mem ha;have hil:i<args.toList.length:=by rw[e3];exact(List.getElem?_eq_some_iff.1 hi).1
   have htv:=e4 i a _ hi (List.getElem?_eq_getElem hil) ⟨fun _=>0,fun _=> .slice none 0 0,fun _=>0,fun b=>b<W.heap.size⟩ rfl;have hcalm:∀(ks:List Kd) (cs:List AC) (j:Nat),∀c∈EO ks cs j,AC.calm c=true:=by
    intro ks;induction ks with
    |nil=>intro cs j c hc;simp[EO]at hc
    |cons k ks ih=>
     intro cs j c hc;simp only[EO,List.mem_cons]at hc;rcases hc with rfl|hc
     ·cases k<;>try rfl
      generalize nth AC.dead cs j=b;cases b<;>rfl
     ·exact ih cs _ c hc
   have:=hcalm a.ks a.raw 0 c hc;cases c<;>first|trivial|(simp[AC.calm]at this)
 have hcall:=hlaw as e1 e2 _ W _ args.toList hrel;have hargs:args.toList.toArray=args:=by simp
 rw[hargs]at hcall;refine hcall.mono ?_;rintro e W' ⟨x,ρ',rfl,hR⟩;have hb:Below W.heap.size W W':=⟨hR.fr.os,hR.fr.tape,hR.fr.output,hR.fr.size,fun k hk=>hR.fr.block k hk⟩;have hx:x= .bool true:=by
  have:TVR ρ' W' (.c (.bool true)) x:=by simpa using hR.tv 0 _ rfl
  obtain⟨a,ha,hc⟩:=this;simp at ha;subst ha;simpa [CC,CP]using hc
 subst hx;refine⟨_,rfl,Z1k (pa:=p) (pv:=[]) hW' ?_ ?_ ?_ rfl hb (ok_one hrt rfl (okWide_bool_mk htb true))⟩
 ·intro b sp hd;rw[hfn,hrt];exact trodAll_mk1 (shut_bool htb true)
 ·intro sp hsp;rw[hfn];simp only[List.append_nil];exact Q6y hl hb _ _ _ _ hr (fun x hx=>⟨hlt x (by simp[hx]),hsp x (by simp[hx])⟩) hA
 ·intro sp hsp;rw[hfn,hvars];exact rfl
end
end Go.Bm
