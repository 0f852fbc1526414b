/- The abstract machine, second form: == on structs and arrays. -/
import Derived.Test.YtommijghjlikkaaGreatBmOps
import Derived.Laws.StructEq
set_option linter.unusedVariables false
set_option linter.unusedSimpArgs false
namespace Go.Bm
open Go.RowKit
section
variable {P:Program} {ρ:Env} {w:World}
def Fa (P:Program) (ρ:Env) (w:World) (t:TypeId) (cs:List AC) (x:Value):Prop:=
 match Ci P t with
 |some true=>∃ys:Array Value,x= .agg ys/\CL (CC ρ w) cs ys.toList
 |some false=>∃a,cs=[a]/\CC ρ w a x
 |none=>False
theorem Ru {t:TypeId} {n:Nat} {cs:List AC} {off:Nat} {ys:Array Value} (hn:szT P t=some n) (hg:Ci P t≠none) (hc:CL (CC ρ w) cs ys.toList) (hle:off+n<=cs.length)
  (h1:Ci P t=some false->n=1):∃x,(part t ys off).run P w= .ok x w/\Fa P ρ w t (cut cs off n) x:=by
 cases hg':Ci P t with
 |none=>exact absurd hg' hg
 |some g=>
  cases g
  ·have hn1:=h1 hg';subst hn1;have hlt:off<cs.length:=by omega
   obtain⟨x,hx,hr⟩:=hc.get (List.getElem?_eq_getElem hlt);have hx':ys[off]? =some x:=by simpa using hx
   refine⟨x,by simp[part,NV hg',hx'],?_⟩;unfold Fa;rw[hg'];refine⟨cs[off],?_,hr⟩;simp only[cut,List.drop_eq_getElem_cons hlt,List.take_succ_cons,List.take_zero]
  ·refine⟨.agg (ys.extract off (off+n)),by simp[part,NV hg',DG hn],?_⟩;unfold Fa;rw[hg'];refine⟨_,rfl,?_⟩;have:=hc.cut off n;simpa [cut]using this
theorem Qsy {ok:List TypeId} {d D:Nat} {xs ys:List AC} {X Y:Array Value}
  (ih:∀(t:TypeId) (as bs:List AC) (r:Bool) (A B:Value),eqC P ok d t as bs=some r->Fa P ρ w t as A->Fa P ρ w t bs B->(Op.equalIn D t A B).run P w= .ok r w)
  (hX:CL (CC ρ w) xs X.toList) (hY:CL (CC ρ w) ys Y.toList):∀(fs:List Field) (r:Bool),
  IOq (fun f : Field => bif f.name == "_" then none else match szT P f.type with
    |some n=>bif(Nat.ble (f.offset+n) xs.length&&Nat.ble (f.offset+n) ys.length&&Ig P f.type n)then eqC P ok d f.type (cut xs f.offset n) (cut ys f.offset n)else none
    |none=>none) fs=some r->
  (Op.eqFields D X Y fs).run P w= .ok r w
 |[],r,h=>by simp[IOq]at h;subst h;simp[Op.eqFields]
 |f::fs,r,h=>by
  simp only[IOq]at h;split at h
  ·rename_i b hb;split at h
   ·rename_i b' hb';simp at h;subst h;have ht:=Qsy ih hX hY fs b' hb';cases hnm:f.name== "_"
    ·rw[hnm]at hb;simp only[cond_false]at hb;split at hb
     ·rename_i n hn;cases hle:(Nat.ble (f.offset+n) xs.length&&Nat.ble (f.offset+n) ys.length&&Ig P f.type n)
      ·rw[hle]at hb;simp at hb
      ·rw[hle]at hb;simp only[cond_true]at hb;simp only[Bool.and_eq_true]at hle;obtain⟨⟨h1,h2⟩,h3⟩:=hle;have h1':=Nat.le_of_ble_eq_true h1;have h2':=Nat.le_of_ble_eq_true h2;have hg:Ci P f.type≠none:=by intro e;simp[Ig,e]at h3
       have ho:Ci P f.type=some false->n=1:=by intro e;simp[Ig,e]at h3;exact h3
       obtain⟨A,hA,vA⟩:=Ru hn hg hX h1' ho;obtain⟨B,hB,vB⟩:=Ru hn hg hY h2' ho;have he:=ih f.type _ _ b A B hb vA vB;have hne:f.name≠ "_" :=by simpa using hnm
       simp only[Op.eqFields,hne,ne_eq,not_false_eq_true,if_true,Sem.run_bind,hA,Result.andThen_ok,hB,he];cases b
       ·simp
       ·simpa using ht
     ·simp at hb
    ·rw[hnm]at hb;simp at hb
   ·simp at h
  ·simp at h
theorem Qpk {ok:List TypeId} {d D e m:Nat} {xs ys:List AC} {X Y:Array Value}
  (ih:∀(t:TypeId) (as bs:List AC) (r:Bool) (A B:Value),eqC P ok d t as bs=some r->Fa P ρ w t as A->Fa P ρ w t bs B->(Op.equalIn D t A B).run P w= .ok r w)
  (hX:CL (CC ρ w) xs X.toList) (hY:CL (CC ρ w) ys Y.toList) (hm:szT P e=some m) (h3:Ig P e m=true):∀(l:List Nat) (r:Bool),
  (∀i∈l,i*m+m<=xs.length/\i*m+m<=ys.length)->
  IOq (fun i=>eqC P ok d e (cut xs (i*m) m) (cut ys (i*m) m)) l=some r->
  ((forIn l ((none : Option Bool), PUnit.unit) fun i _ => do
    let a<-part e X (i*m)
    let b<-part e Y (i*m)
    let q<-Op.equalIn D e a b
    if(!q)=true then pure (ForInStep.done (some false,PUnit.unit))else pure (ForInStep.yield (none,PUnit.unit)):Sem (Option Bool×PUnit))>>=fun s=>match s.1 with
     |none=>pure true
     |some a=>pure a).run P w= .ok r w
 |[],r,_,h=>by simp[IOq]at h;subst h;simp
 |i::l,r,hl,h=>by
  simp only[IOq]at h;split at h
  ·rename_i b hb;split at h
   ·rename_i b' hb';simp at h;subst h;have ht:=Qpk ih hX hY hm h3 l b' (fun j hj=>hl j (by simp[hj])) hb';have hg:Ci P e≠none:=by intro q;simp[Ig,q]at h3
    have ho:Ci P e=some false->m=1:=by intro q;simp[Ig,q]at h3;exact h3
    obtain⟨A,hA,vA⟩:=Ru hm hg hX (hl i (by simp)).1 ho;obtain⟨B,hB,vB⟩:=Ru hm hg hY (hl i (by simp)).2 ho;have he:=ih e _ _ b A B hb vA vB;rw[List.forIn_cons];simp only[Sem.run_bind,hA,Result.andThen_ok,hB,he];cases b
    ·simp
    ·simp only[Sem.run_bind]at ht;simpa using ht
   ·simp at h
  ·simp at h
theorem Qt8 {ok:List TypeId} (hok:∀t∈ok,P.stoodInHeld t=false):∀(d D:Nat),d<=D->∀(t:TypeId) (as bs:List AC) (r:Bool) (A B:Value),
  eqC P ok d t as bs=some r->Fa P ρ w t as A->Fa P ρ w t bs B->(Op.equalIn D t A B).run P w= .ok r w
 |0,_,_,t,as,bs,r,A,B,h,_,_=>by simp[eqC]at h
 |d+1,0,hd,_,_,_,_,_,_,_,_,_=>by omega
 |d+1,D+1,hd,t,as,bs,r,A,B,h,vA,vB=>by
  have ih:=Qt8 hok d D (by omega);simp only[eqC]at h;split at h
  ·rename_i hu;have hg:Ci P t=some false:=by simp[Ci,hu]
   simp only[Fa,hg]at vA vB;obtain⟨a,rfl,ca⟩:=vA;obtain⟨b,rfl,cb⟩:=vB;split at h
   ·rename_i x y h1 h2;simp at h h1 h2;subst h1 h2 h;have e1:A= .bool x:=by simpa [CC,CP]using ca
    have e2:B= .bool y:=by simpa [CC,CP]using cb
    subst e1 e2;exact run_equalIn_bool' w D t x y hu
   ·simp at h
  ·rename_i k0 hu;have hg:Ci P t=some false:=by simp[Ci,hu]
   simp only[Fa,hg]at vA vB;obtain⟨a,rfl,ca⟩:=vA;obtain⟨b,rfl,cb⟩:=vB;split at h
   ·rename_i k x k' y h1 h2;simp at h1 h2;subst h1 h2;cases hk:kEq k k'
    ·rw[hk]at h;simp at h
    ·rw[hk]at h;have:=Ol hk;subst this;simp at h;subst h;have e1:A= .int k x:=by simpa [CC,CP]using ca
     have e2:B= .int k y:=by simpa [CC,CP]using cb
     subst e1 e2;exact run_equalIn_int w D t k k0 x y hu
   ·simp at h
  ·rename_i fs hu;have hg:Ci P t=some true:=by simp[Ci,hu]
   simp only[Fa,hg]at vA vB;obtain⟨X,rfl,hX⟩:=vA;obtain⟨Y,rfl,hY⟩:=vB;cases hel:ok.elem t
   ·rw[hel]at h;simp at h
   ·rw[hel]at h;simp only[cond_true]at h;have hfo:P.fieldsOf t=fs:=by simp[Program.fieldsOf,hu]
    rw[run_equalIn_struct w D t X Y (by rw[hfo];exact hu) (hok t (by simpa using hel)),hfo];exact Qsy ih hX hY fs.toList r h
  ·rename_i n e hu;have hg:Ci P t=some true:=by simp[Ci,hu]
   simp only[Fa,hg]at vA vB;obtain⟨X,rfl,hX⟩:=vA;obtain⟨Y,rfl,hY⟩:=vB;split at h
   ·rename_i m hm;cases hle:(Nat.ble (n*m) as.length&&Nat.ble (n*m) bs.length&&Ig P e m)
    ·rw[hle]at h;simp at h
    ·rw[hle]at h;simp only[cond_true]at h;simp only[Bool.and_eq_true]at hle;obtain⟨⟨h1,h2⟩,h3⟩:=hle;have h1':=Nat.le_of_ble_eq_true h1;have h2':=Nat.le_of_ble_eq_true h2;have hr := Qpk (P := P) (ρ := ρ) (w := w) (D := D) (X := X) (Y := Y) ih hX hY hm h3 (List.range n) r (fun i hi => by
      have hi':i<n:=by simpa using hi
      have:i*m+m<=n*m:=by
       calc i*m+m=(i+1)*m:=by rw[Nat.add_mul,Nat.one_mul]
        _<=n*m:=Nat.mul_le_mul_right _ hi'
      omega) h
     simp only[Op.equalIn,Sem.run_bind,run_underlying hu,Result.andThen_ok,DG hm];rw[Std.Legacy.Range.forIn_eq_forIn_range'];have hrg:List.range' [:n].start [:n].size [:n].step=List.range n:=by
      simp[Std.Legacy.Range.size,List.range_eq_range']
     rw[hrg];simp only[Sem.run_bind]at hr;rw[<-hr];congr 1
     funext a w'
     cases a.1<;>rfl
   ·simp at h
  ·simp at h
end
end Go.Bm
