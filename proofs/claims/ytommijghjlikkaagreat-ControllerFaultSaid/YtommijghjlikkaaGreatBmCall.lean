/- The abstract machine, second form: 'funM' is sound: what it gives is what the call gives. -/
import Derived.Test.YtommijghjlikkaaGreatBmFun
set_option linter.unusedVariables false
set_option linter.unusedSimpArgs false
namespace Go.Bm
open Go.RowKit
section
variable {P:Program} {C:Cfg} {w:World} {R:Type} {Z:Base}
theorem RelE.slots {tm tm':List TV} {boxes:List (Nat×Box)} {rows:List (Nat×Row)} {ρ:Env} {tmps tmps':Array Value} (h:RelE Z tm boxes rows ρ tmps w) (htl:tm'.length=tmps'.size)
  (htv:∀(i:Nat) (v:TV),tm'[i]? =some v->TVR ρ w v (tmps'.getD i undef)) (hwt:∀v∈tm',TV.wf boxes rows v):RelE Z tm' boxes rows ρ tmps' w:=
 ⟨htl,htv,hwt,h.wb,h.bx,h.bi,h.ro,h.ri,h.br,h.ib,h.fr,h.fs,h.i0,h.i1,h.k0⟩
theorem Qrj {s:St} {a:Act} {ρ:Env} (hR:RelE Z s.tmps s.boxes s.rows ρ a.tmps w):∀(l:List ResultVar) (ps:List (Bool×List AC)),KO P s l=some ps->
  ∃ xs : List Value, (l.mapM fun
   | .tmp t=>pure (a.tmps.getD t undef)
   | .cell b t=>do loadVar t (<-asAddr (a.tmps.getD b undef)):Sem (List Value)).run P w= .ok xs w/\TP ρ w ps xs/\∀p∈ps,∀c∈p.2,AC.wf s.boxes s.rows c
 |[],ps,h=>by simp[KO]at h;subst h;exact⟨[],rfl,trivial,by simp⟩
 |rv::l,ps,h=>by
  simp only[KO]at h;split at h
  ·rename_i g cs hrv;split at h
   ·rename_i ps' hps;simp at h;subst h;obtain⟨xs,h1,h2,h3⟩:=Qrj hR l ps' hps;have key : ∃ x, ((match rv with
      | .tmp t=>pure (a.tmps.getD t undef)
      | .cell b t=>do loadVar t (<-asAddr (a.tmps.getD b undef)):Sem Value)).run P w= .ok x w/\TVR ρ w (.v g cs) x/\TV.wf s.boxes s.rows (.v g cs):=by
     cases rv with
     |tmp t=>
      simp only[Qmv]at hrv;split at hrv
      ·rename_i g' cs'' ht;simp at hrv;obtain⟨rfl,rfl⟩:=hrv;have htl:t<s.tmps.length:=by
        rcases Nat.lt_or_ge t s.tmps.length with hlt|hge
        ·exact hlt
        ·rw[BK,List.getD,List.getElem?_eq_none hge]at ht;simp at ht
       have hslot:s.tmps[t]? =some (.v g' cs''):=by
        rw[BK,List.getD]at ht;rw[List.getElem?_eq_getElem htl]at ht⊢;simpa using ht
       exact⟨_,by simp,hR.tv t _ hslot,hR.wt _ (List.mem_of_getElem? hslot)⟩
      ·simp at hrv
     |cell b t=>
      simp only[Qmv]at hrv;split at hrv
      ·rename_i key off g' sz hb hg hs;have hbl:b<s.tmps.length:=by
        rcases Nat.lt_or_ge b s.tmps.length with hlt|hge
        ·exact hlt
        ·rw[BK,List.getD,List.getElem?_eq_none hge]at hb;simp at hb
       have hslot:s.tmps[b]? =some (.c (.ptr key off)):=by
        rw[BK,List.getD]at hb;rw[List.getElem?_eq_getElem hbl]at hb⊢;simpa using hb
       have hc:=(hR.tv b _ hslot).c;simp only[CC]at hc;split at hrv
       ·rename_i bo hbo;obtain⟨arr,q1,q2,q3⟩:=hR.bx key bo hbo;obtain ⟨x, q4, q5⟩ := Tf (b := ρ.bx key) (o := 0) hg hs hrv q2 (fun j y hj => by
         simp only[Nat.zero_add];rw[cell_of_row w _ j arr bo.ty (0,0) q1];simpa using hj)
        rw[Nat.zero_add]at q4;exact⟨x,by simp[hc,asAddr,q4],q5,PF hrv (hR.wb key bo hbo)⟩
       ·simp at hrv
      ·simp at hrv
    obtain⟨x,k1,k2,k3⟩:=key;refine⟨x::xs,?_,?_,?_⟩
    ·rw[List.mapM_cons];simp only[Sem.run_bind,Sem.run_pure];rw[k1];simp only[Result.andThen_ok];rw[h1];rfl
    ·refine⟨?_,h2⟩;cases g<;>exact k2
    ·intro p hp;simp only[List.mem_cons]at hp;rcases hp with rfl|hp
     ·exact k3
     ·exact h3 p hp
   ·simp at h
  ·simp at h
theorem Pd:∀(ks:List Kd) (cs:List AC),(DN ks cs).length=cs.length
 |[],[]=>rfl
 |[],_::_=>rfl
 | .sl _::_,[]=>rfl
 | .int _::_,[]=>rfl
 | .bool::_,[]=>rfl
 | .raw::_,[]=>rfl
 | .int _::l,_::cs=>by simp[DN,Pd l cs]
 | .bool::l,_::cs=>by simp[DN,Pd l cs]
 | .raw::l,_::cs=>by simp[DN,Pd l cs]
 | .sl _::l,a::cs=>by cases a<;>simp[DN,Pd l cs]
theorem Qt1 {ρ:Env}:∀(ts:List TypeId) (ps:List (Bool×List AC)) (xs:List Value),TP ρ w ps xs->TP ρ w (Hv P ts ps) xs
 |[],ps,xs,h=>by simpa [Hv]using h
 |_::_,[],xs,h=>by simpa [Hv]using h
 |t::ts,(g,cs)::ps,[],h=>h.elim
 |t::ts,(g,cs)::ps,x::xs,h=>by
  refine⟨?_,Qt1 ts ps xs h.2⟩;have h1:=h.1;cases hk:F5 P 8 t with
  |none=>exact h1
  |some ks=>
   cases g
   ·obtain⟨a,rfl,ha⟩:=h1;have:=Kh ks [a] [x] ⟨ha,trivial⟩;have hl:=Pd ks [a];generalize hn:DN ks [a]=l at this hl;cases l with
    |nil=>simp at hl
    |cons b l=>
     cases l with
     |nil=>exact⟨b,hn,this.1⟩
     |cons=>simp at hl
   ·obtain⟨ys,hy,hc⟩:=h1;exact⟨ys,hy,Kh ks cs _ hc⟩
theorem Qvz {boxes:List (Nat×Box)} {rows:List (Nat×Row)}:∀(ts:List TypeId) (ps:List (Bool×List AC)),(∀p∈ps,∀c∈p.2,AC.wf boxes rows c)->∀p∈Hv P ts ps,∀c∈p.2,AC.wf boxes rows c
 |[],ps,h=>by simpa [Hv]using h
 |_::_,[],h=>by simp[Hv]
 |t::ts,(g,cs)::ps,h=>by
  intro p hp;simp only[Hv,List.mem_cons]at hp;rcases hp with rfl|hp
  ·cases hk:F5 P 8 t with
   |none=>exact h (g,cs) (by simp)
   |some ks=>exact Nf ks cs (h (g,cs) (by simp))
  ·exact Qvz ts ps (fun q hq=>h q (by simp[hq])) p hp
theorem Q2u {ρ:Env}:∀{ps:List (Bool×List AC)} {xs:List Value},TP ρ w ps xs->ps.length=xs.length
 |[],[],_=>rfl
 |_::_,_::_,h=>by simp[Q2u h.2]
 |[],_::_,h=>h.elim
 |_::_,[],h=>h.elim
theorem Zmw {ρ:Env} {ps:List (Bool×List AC)} {xs:List Value} (h:TP ρ w ps xs):TVR ρ w (J4 ps) (if h:xs.length=1 then xs[0]else .tuple xs.toArray):=by
 have hl:=Q2u h
 match ps,xs,h with
 |[],[],_=>exact⟨#[],rfl,trivial⟩
 |[(g,cs)],[x],h=>
  simp only[J4,List.length_singleton,dite_true,List.getElem_cons_zero];have:=h.1;cases g<;>exact this
 |p::q::ps,x::y::xs,h=>
  have: ¬(x::y::xs).length=1:=by simp
  rw[dif_neg this];exact⟨_,rfl,by simpa using h⟩
theorem Zrm {keys ids:List Nat} {ps:List (Bool×List AC)} (h:Aj (fun p:Bool×List AC=>Aj (AC.inK keys ids) p.2) ps=true):TV.inK keys ids (J4 ps)=true:=by
 match ps,h with
 |[],h=>exact h
 |[(g,cs)],h=>exact Av.1 h (g,cs) (by simp)
 |p::q::ps,h=>exact h
theorem Z1o {boxes:List (Nat×Box)} {rows:List (Nat×Row)} {ps:List (Bool×List AC)} (h:∀p∈ps,∀c∈p.2,AC.wf boxes rows c):TV.wf boxes rows (J4 ps):=by
 match ps,h with
 |[],h=>exact h
 |[(g,cs)],h=>exact h (g,cs) (by simp)
 |p::q::ps,h=>exact h
theorem Zvz {fn:Func} {keys0:List Nat} {s:St} {a:Act} (hR:Rel Z s a.tmps w) (hk0:∀k b,Z.K0 k=some b->k∈keys0) {K:TV->Mem->Option R} {r:R} (h:OV P C fn keys0 s K=some r):
  ∃x ρ' v m,K v m=some r/\(results fn a.tmps).run P w= .ok x w/\RelE Z [v] m.boxes m.rows ρ' #[x] w:=by
 unfold OV at h;split at h
 ·simp at h
 ·rename_i ps hps;have h1:∃s1,(Ha P C s1 fun s1=>match KO P s1 fn.results.toList with
    |none=>none
    |some ps=>match s1 with
     |⟨_,boxes,rows⟩=>
      AM (Hv P fn.resultTypes.toList ps) fun ps=>
      AM (LO boxes 4 (AU (cat (fun p:Bool×List AC=>cat AC.keys p.2) ps) keys0)) fun keys=>
      AM (Oc boxes (cat (fun p:Bool×List AC=>p.2) ps) keys) fun ids=>
      AM (boxes.filter fun p=>AK keys p.1) fun boxes'=>
      AM (rows.filter fun p=>AK ids p.1) fun rows'=>
      bif Aj (fun p:Bool×List AC=>Aj (AC.inK keys ids) p.2) ps&&Aj (fun p:Nat×Box=>Aj (AC.inK keys ids) p.2.cells) boxes'&&Aj (DX boxes) keys0&&Aj (AK keys) keys0 then K (J4 ps) (⟨boxes',rows'⟩:Mem)else none)=some r/\Rel Z s1 a.tmps w:=by
   cases ho:C.ownRes<;>rw[ho]at h
   ·exact S5 _ s a.tmps hR _ _ h
   ·exact⟨s,h,hR⟩
  obtain⟨s1,h1,hR1⟩:=h1;obtain⟨s2,h2,ρ,hR2⟩:=Qf hR1 h1;split at h2
  ·simp at h2
  ·rename_i ps2 hps2;obtain⟨xs,q1,q2,q3⟩:=Qrj hR2 _ _ hps2;obtain⟨tm,boxes,rows⟩:=s2;simp only[A0]at h2;have q2':=Qt1 fn.resultTypes.toList _ _ q2 (P:=P);have q3':=Qvz fn.resultTypes.toList _ q3 (P:=P);generalize Hv P fn.resultTypes.toList ps2=ps3 at h2 q2' q3';generalize LO boxes 4 (AU (cat (fun p:Bool×List AC=>cat AC.keys p.2) ps3) keys0)=keys at h2;generalize Oc boxes (cat (fun p:Bool×List AC=>p.2) ps3) keys=ids at h2;obtain⟨hc,h2⟩:=BQ h2;simp only[Bool.and_eq_true]at hc;have hrun:(results fn a.tmps).run P w= .ok (if h:xs.length=1 then xs[0]else .tuple xs.toArray) w:=by
    unfold results;rw[Array.mapM_eq_mapM_toList];simp only[Sem.run_bind,Sem.run_map];erw[q1]
    simp only[Result.andThen_ok,Sem.run_pure];congr 1
   have hin:TV.inK keys ids (J4 ps3)=true:=Zrm hc.1.1.1;have hwf:TV.wf boxes rows (J4 ps3):=Z1o q3';refine⟨_,ρ,_,_,h2,hrun,hR2.filter (by simp) (fun i v hi=> ?_) (fun v hv=> ?_) (by simp[Aj,hin]) hc.1.1.2 (fun k b hk=>Av.1 hc.2 k (hk0 k b hk))⟩
   ·cases i with
    |zero=>simp at hi;subst hi;simpa using Zmw q2'
    |succ i=>simp at hi
   ·simp at hv;subst hv;exact hwf
theorem Qyc (hspec:Ai P C) (hok:∀t∈C.eqOk,P.stoodInHeld t=false) (hmix:P.follows .mixedOrders=true) (hZ:InZ Z) {L:Nat} {f:FuncId} {args:List TV} {mem:Mem} {K:TV->Mem->Option R} {r:R}
  (hsub:∀c,JL P f=some c->SubOK P C c 0) (h:Fk P C L f args mem K=some r) {ρ:Env} {xs:List Value} (hR0:RelE Z args mem.boxes mem.rows ρ xs.toArray w):
  Calls P f xs.toArray w fun e w'=>∃x ρ' v m,e= .returned x/\K v m=some r/\RelE Z [v] m.boxes m.rows ρ' #[x] w':=by
 unfold Fk at h;split at h
 ·rename_i fn hfn;split at h
  ·rename_i c hc;obtain⟨_,h⟩:=BQ h;simp only[A0]at h;have hfn':P.funcs[f]? =some fn:=by simpa using hfn
   have hs:=hsub c (by unfold JL;rw[hfn];exact hc);refine calls_of_wp hfn' hc ?_;have hlen:xs.length=args.length:=by simpa using hR0.tl.symm
   have hR:Rel Z ⟨args++List.replicate (fn.ntmps-args.length) TV.dead,mem.boxes,mem.rows⟩ (xs.toArray++Array.replicate (fn.ntmps-xs.toArray.size) undef) w:=by
    refine⟨ρ,hR0.slots (by simp[hlen]) (fun i u hi=> ?_) (fun u hu=> ?_)⟩
    ·rw[List.getElem?_append]at hi;split at hi
     ·rename_i hlt;have hxi:i<xs.length:=by omega
      have e:(xs.toArray++Array.replicate (fn.ntmps-xs.toArray.size) undef).getD i undef=xs.toArray.getD i undef:=by
       simp[Array.getD_eq_getD_getElem?,Array.getElem?_append,hxi]
      rw[e];exact hR0.tv i u hi
     ·have:=List.mem_of_getElem? hi;rw[List.mem_replicate]at this;rw[this.2];trivial
    ·rw[List.mem_append]at hu;rcases hu with hu|hu
     ·exact hR0.wt u hu
     ·rw[List.mem_replicate]at hu;rw[hu.2];trivial
   refine wp_mono (GH hspec hok hmix hZ c L 0 _ ⟨_,[]⟩ w _ hs hR rfl h) ?_;rintro e a' w' ⟨ae,s,rfl,hK,hR',hd⟩;have hk0:∀k b,Z.K0 k=some b->k∈mem.boxes.map (·.1):=by
    intro k b hk;obtain⟨_,bo,hbo⟩:=hR0.k0 k b hk;exact Ku.2 ⟨bo,hbo⟩
   have hfin:OV P C fn (mem.boxes.map (·.1)) s K=some r->a'.defers=[]/\∃x,(results fn a'.tmps).run P w'= .ok x w'/\∃y ρ' v m,Ending.returned x= .returned y/\K v m=some r/\RelE Z [v] m.boxes m.rows ρ' #[y] w':=by
    intro hf;obtain⟨x,ρ',v,m,h0,h1,h2⟩:=Zvz hR' hk0 hf;exact⟨hd,x,h1,x,ρ',v,m,rfl,h0,h2⟩
   cases ae with
   |normal=>
    obtain⟨q1,x,q2,q3⟩:=hfin hK;exact⟨q1,x,q2,q3⟩
   |ret=>
    obtain⟨q1,x,q2,q3⟩:=hfin hK;exact⟨q1,x,q2,q3⟩
   |exit id=>simp at hK
  ·simp at h
 ·simp at h
theorem ZN {F:Nat->Prop} {ρ:Env} {boxes:List (Nat×Box)} (h:Aj (fun p:Nat×Box=>F0 p.1) boxes=true):InZ (E0 F w ρ boxes):=by
 intro k b hk;simp only[E0,Option.map_eq_some_iff]at hk;obtain⟨bo,hbo,_⟩:=hk;exact Av.1 h (k,bo) (OA hbo)
theorem V6 {sig osig:Sk} {m:List AC->Option (List AC)} (R:Type) (args:List TV) (mem:Mem) (K:TV->Mem->Option R):Ac sig osig m R args mem K=(Ac sig osig m (TV×Mem) args mem fun v m=>some (v,m)).bind fun p=>K p.1 p.2:=by
  obtain⟨boxes,rows⟩:=mem;simp only[Ac];cases Aj (fun p:Nat×Box=>F0 p.1) boxes
  ·rfl
  ·simp only[cond_true];cases E8 sig ⟨args,boxes,rows⟩with
   |none=>rfl
   |some vars=>
    dsimp only;cases m vars with
    |none=>rfl
    |some o=>
     simp only[Option.bind_some];generalize Bn osig o=s;obtain⟨tm,b,r⟩:=s;dsimp only;split<;>rfl
theorem Qrq (hspec:Ai P C) (hok:∀t∈C.eqOk,P.stoodInHeld t=false) (hmix:P.follows .mixedOrders=true) {L:Nat} {f:FuncId} {sig osig:Sk} {m:List AC->Option (List AC)} (h1:sig.okB=true) (h2:osig.okB=true)
  (hsub:∀c,JL P f=some c->SubOK P C c 0) (hm:∀vars o,m vars=some o->Am P C L f sig osig vars=some o) {args:List TV} {mem:Mem} {v:TV} {mem':Mem} (h:(Ac sig osig m (TV×Mem) args mem fun v m=>some (v,m))=some (v,mem')):PCallM P f args mem v mem':=by
  obtain⟨boxes,rows⟩:=mem;simp only[Ac]at h;obtain⟨hin,h⟩:=BQ h;split at h
  ·rename_i vars hv;simp only[Option.bind_eq_some_iff]at h;obtain⟨o,ho,h⟩:=h;have hmo:=hm vars o ho;intro F w ρ xs hR0;have hZ:InZ (E0 F w ρ boxes):=ZN hin;have hR1:=hR0.rebuild hZ h1 hv;unfold Am at hmo;generalize hs:Bn sig vars=s1 at hmo hR1;obtain⟨args1,boxes1,rows1⟩:=s1;dsimp only at hmo hR1;refine(Qyc hspec hok hmix hZ hsub hmo hR1).mono ?_;rintro e w' ⟨x,ρ',v',m',he,hro,hR2⟩;obtain⟨b',r'⟩:=m';dsimp only at hro hR2;have hR3:=hR2.rebuild hZ h2 hro;generalize hs2:Bn osig o=s2 at h hR3;obtain⟨tm,b2,r2⟩:=s2;dsimp only at h hR3;split at h
   ·simp only[Option.some.injEq,Prod.mk.injEq]at h;obtain⟨rfl,rfl⟩:=h;exact⟨x,ρ',he,hR3⟩
   ·simp at h
  ·simp at h
theorem Zpi (hspec:Ai P C) (hok:∀t∈C.eqOk,P.stoodInHeld t=false) (hmix:P.follows .mixedOrders=true) {L:Nat} {f:FuncId} (hc:P1 P f) {sig osig:Sk} {m:List AC->Option (List AC)} (h1:sig.okB=true) (h2:osig.okB=true)
  (hsub:∀c,JL P f=some c->SubOK P C c 0) (hm:∀vars o,m vars=some o->Am P C L f sig osig vars=some o):SpecRight P f (Ac sig osig m):=
 ⟨V6,fun _ _ _ _ h=>PCallM.x (Qrq hspec hok hmix h1 h2 hsub hm h) hc⟩
end
end Go.Bm
