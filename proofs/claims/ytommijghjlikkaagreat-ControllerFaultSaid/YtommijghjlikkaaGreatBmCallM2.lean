/- The abstract machine, second form: calls that turn memory are sound. -/
import Derived.Test.YtommijghjlikkaaGreatBmCallM
set_option linter.unusedVariables false
set_option linter.unusedSimpArgs false
namespace Go.Bm
open Go.RowKit
section
variable {P:Program} {C:Cfg} {ρ:Env} {w:World} {R:Type} {Z:Base} {tm:List TV} {boxes:List (Nat×Box)} {rows:List (Nat×Row)} {tmps:Array Value}
theorem Qqh {k:Nat} {b:Box} (h:Ab boxes k=some b):Es boxes k=b.cells:=by unfold Es;rw[h]
def Jh (ρ:Env) (keys ids:List Nat):Env:=⟨fun c=>ρ.bx (nth 0 keys (c-base)),fun c=>ρ.rv (nth 0 ids (c-base)),fun c=>ρ.wd (nth 0 ids (c-base)),ρ.im⟩
def Kc (w:World) (ρ:Env) (keys ids:List Nat):Nat->Prop:=fun b=>b<w.heap.size/\(∀k∈keys,ρ.bx k≠b)/\∀id∈ids,(ρ.rv id).ownBlock≠some b
theorem XP (hR:RelE Z tm boxes rows ρ tmps w) {args:List TV} {xs:List Value} (h1:xs.length=args.length)
  (h2:∀(i:Nat) (a:TV) (x:Value),args[i]? =some a->xs[i]? =some x->TVR ρ w a x) (hwf:∀v∈args,TV.wf boxes rows v) {keys ids:List Nat} (hkd:keys.Nodup) (hidd:ids.Nodup)
  (hin:∀v∈args,TV.inK keys ids v=true) (hbin:∀k∈keys,Aj (AC.inK keys ids) (Es boxes k)=true) {mb:List (Nat×Box)} {mr:List (Nat×Row)}
  (hmb:Dr boxes (fun k=>base+pos keys k) (fun i=>base+pos ids i) base keys=some mb) (hmr:FV rows base ids=some mr):
  RelE (E0 (Kc w ρ keys ids) w (Jh ρ keys ids) mb) (args.map (TV.ren (fun k=>base+pos keys k) (fun i=>base+pos ids i))) mb mr (Jh ρ keys ids) xs.toArray w:=by
 obtain⟨b1,b2⟩:=KR hmb;obtain⟨r1,r2⟩:=Qks hmr;have eb:∀k,k∈keys->(Jh ρ keys ids).bx (base+pos keys k)=ρ.bx k:=fun k hk=>by
  show ρ.bx (nth 0 keys (base+pos keys k-base))=_;rw[Nat.add_sub_cancel_left,(DQ hk).2]
 have er:∀i,i∈ids->(Jh ρ keys ids).rv (base+pos ids i)=ρ.rv i/\(Jh ρ keys ids).wd (base+pos ids i)=ρ.wd i:=fun i hi=>by
  constructor
  ·show ρ.rv (nth 0 ids (base+pos ids i-base))=_;rw[Nat.add_sub_cancel_left,(DQ hi).2]
  ·show ρ.wd (nth 0 ids (base+pos ids i-base))=_;rw[Nat.add_sub_cancel_left,(DQ hi).2]
 have wb:∀k,k∈keys->(∃b,Ab boxes k=some b)->∃b,Ab mb (base+pos keys k)=some b:=fun k hk _=>by
  obtain⟨x,_,q⟩:=b1 (pos keys k) (DQ hk).1;exact⟨_,q⟩
 have wr:∀i r,i∈ids->Ab rows i=some r->∃r',Ab mr (base+pos ids i)=some r'/\r'.n=r.n/\r'.w=r.w:=fun i r hi hr=>by
  obtain⟨x,q1,q⟩:=r1 (pos ids i) (DQ hi).1;rw[(DQ hi).2,hr]at q1;simp at q1;subst q1;exact⟨_,q,rfl,rfl⟩
 have lb:∀c x,Ab mb c=some x->∃i x0,i<keys.length/\c=base+i/\Ab boxes (nth 0 keys i)=some x0/\x=⟨x0.ty,x0.cells.map (AC.ren (fun k=>base+pos keys k) (fun i=>base+pos ids i))⟩:=by
  intro c x hc;obtain⟨i,hi,rfl⟩:=b2 c x hc;obtain⟨x0,q1,q2⟩:=b1 i hi;rw[hc]at q2;simp at q2;exact⟨i,x0,hi,rfl,q1,q2⟩
 have lr:∀c x,Ab mr c=some x->∃i,i<ids.length/\c=base+i/\Ab rows (nth 0 ids i)=some x:=by
  intro c x hc;obtain⟨i,hi,rfl⟩:=r2 c x hc;obtain⟨x0,q1,q2⟩:=r1 i hi;rw[hc]at q2;simp at q2;subst q2;exact⟨i,hi,rfl,q1⟩
 have xb:∀i,(Jh ρ keys ids).bx (base+i)=ρ.bx (nth 0 keys i):=fun i=>by
  show ρ.bx (nth 0 keys (base+i-base))=_;rw[Nat.add_sub_cancel_left]
 have xr:∀i,(Jh ρ keys ids).rv (base+i)=ρ.rv (nth 0 ids i):=fun i=>by
  show ρ.rv (nth 0 ids (base+i-base))=_;rw[Nat.add_sub_cancel_left]
 have xw:∀i,(Jh ρ keys ids).wd (base+i)=ρ.wd (nth 0 ids i):=fun i=>by
  show ρ.wd (nth 0 ids (base+i-base))=_;rw[Nat.add_sub_cancel_left]
 have nthk:∀i j,i<keys.length->j<keys.length->nth 0 keys i=nth 0 keys j->i=j:=fun i j hi hj e=>by rw[<-If hkd hi,<-If hkd hj,e]
 have nthi:∀i j,i<ids.length->j<ids.length->nth 0 ids i=nth 0 ids j->i=j:=fun i j hi hj e=>by rw[<-If hidd hi,<-If hidd hj,e]
 refine⟨by simp[h1],fun i v hi=> ?_,fun v hv=> ?_,fun k b hk a ha=> ?_,fun k b hk=> ?_,fun k k' b b' hk hk' he=> ?_,fun id r hr=> ?_,fun id id' r r' g hr hr' hg hg'=> ?_,fun k b id r hk hr=> ?_,fun b hb=>⟨(hR.ib b hb).1,fun k bo hk=> ?_,fun id r hr=> ?_⟩,Fr.refl _ _,fun k h=>h.1,fun b h=>h,fun b h=> .inl h,fun k b hk=> ?_⟩
 ·simp only[List.getElem?_map,Option.map_eq_some_iff]at hi;obtain⟨a,ha,rfl⟩:=hi;have hil:i<xs.length:=by rw[h1];exact(List.getElem?_eq_some_iff.1 ha).1
  have e:xs.toArray.getD i undef=xs[i]:=by simp[Array.getD,hil]
  rw[e];exact Q7x (Kp:=(· ∈keys)) (Ip:=(· ∈ids)) eb er rfl (TV.nm_of_inK (hin a (List.mem_of_getElem? ha))) (h2 i a _ ha (List.getElem?_eq_getElem hil))
 ·simp only[List.mem_map]at hv;obtain⟨a,ha,rfl⟩:=hv;exact Qxm (Kp:=(· ∈keys)) (Ip:=(· ∈ids)) wb wr (TV.nm_of_inK (hin a ha)) (hwf a ha)
 ·obtain⟨i,x0,hi,rfl,q1,rfl⟩:=lb k b hk;simp only[List.mem_map]at ha;obtain⟨c,hc,rfl⟩:=ha;have hin':=hbin _ (E9 hi);rw[Qqh q1]at hin';exact Rk (Kp:=(· ∈keys)) (Ip:=(· ∈ids)) wb wr (AC.nm_of_inK (Av.1 hin' c hc)) (hR.wb _ x0 q1 c hc)
 ·obtain⟨i,x0,hi,rfl,q1,rfl⟩:=lb k b hk;obtain⟨arr,p1,p2,p3⟩:=hR.bx _ x0 q1;have hin':=hbin _ (E9 hi);rw[Qqh q1]at hin';refine⟨arr,by rw[xb];exact p1,Pu (Kp:=(· ∈keys)) (Ip:=(· ∈ids)) eb er rfl (fun c hc=>AC.nm_of_inK (Av.1 hin' c hc)) p2,?_⟩;rw[xb];exact fun hf=>hf.2.1 _ (E9 hi) rfl
 ·obtain⟨i,x0,hi,rfl,q1,_⟩:=lb k b hk;obtain⟨j,y0,hj,rfl,q2,_⟩:=lb k' b' hk';rw[xb,xb]at he;rw[nthk i j hi hj (hR.bi _ _ _ _ q1 q2 he)]
 ·obtain⟨i,hi,rfl,q1⟩:=lr id r hr;obtain⟨p1,p2,p0,ys,p3,p4⟩:=hR.ro _ r q1;exact⟨p1,by rw[xw];exact p2,fun g hg hf=>hf.2.2 _ (E9 hi) (by rw[xr]at hg;exact hg),ys,by rw[xr];exact p3,p4⟩
 ·obtain⟨i,hi,rfl,q1⟩:=lr id r hr;obtain⟨j,hj,rfl,q2⟩:=lr id' r' hr';rw[xr]at hg hg';rw[nthi i j hi hj (hR.ri _ _ _ _ g q1 q2 hg hg')]
 ·obtain⟨i,x0,hi,rfl,q1,_⟩:=lb k b hk;obtain⟨j,hj,rfl,q2⟩:=lr id r hr;rw[xr,xb];exact hR.br _ _ _ _ q1 q2
 ·obtain⟨i,x0,hi,rfl,q1,_⟩:=lb k bo hk;rw[xb];exact(hR.ib b hb).2.1 _ _ q1
 ·obtain⟨i,hi,rfl,q1⟩:=lr id r hr;rw[xr];exact(hR.ib b hb).2.2 _ _ q1
 ·simp only[E0,Option.map_eq_some_iff]at hk;obtain⟨bo,hbo,e⟩:=hk;exact⟨e,bo,hbo⟩
noncomputable def EW (ρ ρ2:Env) (mb':List (Nat×Box)) (mr':List (Nat×Row)) (bk bi:Nat->Nat):Env:=
 ⟨fun n=>match LN mb' bk n with|some k=>ρ2.bx k|none=>ρ.bx n,fun n=>match LN mr' bi n with|some k=>ρ2.rv k|none=>ρ.rv n,fun n=>match LN mr' bi n with|some k=>ρ2.wd k|none=>ρ.wd n,ρ2.im⟩
theorem Qdz (hR:RelE Z tm boxes rows ρ tmps w) {keys ids:List Nat} (hkd:keys.Nodup) (hidd:ids.Nodup) {mb mb':List (Nat×Box)} {mr mr':List (Nat×Row)}
  (hmb:Dr boxes (fun k=>base+pos keys k) (fun i=>base+pos ids i) base keys=some mb) (hmr:FV rows base ids=some mr) {v:TV} {x:Value} {ρ2:Env} {w':World}
  (hR2:RelE (E0 (Kc w ρ keys ids) w (Jh ρ keys ids) mb) [v] mb' mr' ρ2 #[x] w') {d:Nat}
  (hb':(mb'.map (·.1)).Nodup) (hr':(mr'.map (·.1)).Nodup) (hfb:∀k∈A_ keys mb',Ab boxes (BC keys (A_ keys mb') d k)=none) (hfr:∀k∈A_ ids mr',Ab rows (BC ids (A_ ids mr') d k)=none):
  let bk:=BC keys (A_ keys mb') d
  let bi:=BC ids (A_ ids mr') d
  RelE Z (tm.map (Hw ids)) (Lx bk bi mb' ((Dz keys boxes).map fun p=>(p.1,Dt ids p.2))) (J3 bi mr' (Dz ids rows)) (EW ρ ρ2 mb' mr' bk bi) tmps w'/\
   TVR (EW ρ ρ2 mb' mr' bk bi) w' (v.ren bk bi) x/\TV.wf (Lx bk bi mb' ((Dz keys boxes).map fun p=>(p.1,Dt ids p.2))) (J3 bi mr' (Dz ids rows)) (v.ren bk bi):=by
 intro bk bi;obtain⟨b1,b2⟩:=KR hmb;obtain⟨r1,r2⟩:=Qks hmr;have hkb:∀k∈keys,∃b,Ab boxes k=some b:=fun k hk=>by
  obtain⟨x,q,_⟩:=b1 (pos keys k) (DQ hk).1;rw[(DQ hk).2]at q;exact⟨x,q⟩
 have hir:∀k∈ids,∃b,Ab rows k=some b:=fun k hk=>by
  obtain⟨x,q,_⟩:=r1 (pos ids k) (DQ hk).1;rw[(DQ hk).2]at q;exact⟨x,q⟩
 have injb:∀k∈mb'.map (·.1),∀j∈mb'.map (·.1),bk k=bk j->k=j:=Q18 hkd hkb hfb;have injr:∀k∈mr'.map (·.1),∀j∈mr'.map (·.1),bi k=bi j->k=j:=Q18 hidd hir hfr
 have hkeep:∀i,i<keys.length->(∃b,Ab mb' (base+i)=some b)/\ρ2.bx (base+i)=ρ.bx (nth 0 keys i):=by
  intro i hi;obtain⟨x0,_,q⟩:=b1 i hi;obtain ⟨p1, bo, p2⟩ := hR2.k0 (base + i) (ρ.bx (nth 0 keys i)) (by
   simp only[E0,q,Option.map_some];show some (ρ.bx (nth 0 keys (base+i-base)))=_;rw[Nat.add_sub_cancel_left])
  exact⟨⟨bo,p2⟩,p1⟩
 have bkin:∀i,i<keys.length->bk (base+i)=nth 0 keys i:=fun i hi=>by
  have:=Lb (names:=keys) (fresh:=A_ keys mb') (d:=d) (k:=base+i) ⟨by omega,by omega⟩;rw[Nat.add_sub_cancel_left]at this;exact this
 have biin:∀i,i<ids.length->bi (base+i)=nth 0 ids i:=fun i hi=>by
  have:=Lb (names:=ids) (fresh:=A_ ids mr') (d:=d) (k:=base+i) ⟨by omega,by omega⟩;rw[Nat.add_sub_cancel_left]at this;exact this
 have imb:∀k∈mb'.map (·.1),(∃i,i<keys.length/\k=base+i/\bk k=nth 0 keys i)\/(Ab boxes (bk k)=none):=by
  intro k hk;by_cases hc:base<=k/\k-base<keys.length
  ·refine .inl ⟨k-base,hc.2,by omega,?_⟩;have:=bkin (k-base) hc.2;rw[show base+(k-base)=k from by omega]at this;exact this
  ·exact .inr (hfb k (IA.2 ⟨hk,hc⟩))
 have imr:∀k∈mr'.map (·.1),(∃i,i<ids.length/\k=base+i/\bi k=nth 0 ids i)\/(Ab rows (bi k)=none):=by
  intro k hk;by_cases hc:base<=k/\k-base<ids.length
  ·refine .inl ⟨k-base,hc.2,by omega,?_⟩;have:=biin (k-base) hc.2;rw[show base+(k-base)=k from by omega]at this;exact this
  ·exact .inr (hfr k (IA.2 ⟨hk,hc⟩))
 have nob:∀n b,Ab boxes n=some b->n∉keys->∀k∈mb'.map (·.1),n≠bk k:=by
  rintro n b hn hnk k hk rfl;rcases imb k hk with⟨i,hi,_,e⟩|e
  ·exact hnk (by rw[e];exact E9 hi)
  ·rw[hn]at e;cases e
 have nor:∀n b,Ab rows n=some b->n∉ids->∀k∈mr'.map (·.1),n≠bi k:=by
  rintro n b hn hnk k hk rfl;rcases imr k hk with⟨i,hi,_,e⟩|e
  ·exact hnk (by rw[e];exact E9 hi)
  ·rw[hn]at e;cases e
 have ebx:∀k,(∃b,Ab mb' k=some b)->(EW ρ ρ2 mb' mr' bk bi).bx (bk k)=ρ2.bx k:=fun k hk=>by
  simp only[EW,Qvg injb (Ku.2 hk)]
 have erv:∀k,(∃b,Ab mr' k=some b)->(EW ρ ρ2 mb' mr' bk bi).rv (bi k)=ρ2.rv k/\(EW ρ ρ2 mb' mr' bk bi).wd (bi k)=ρ2.wd k:=fun k hk=>by
  constructor<;>simp only[EW,Qvg injr (Ku.2 hk)]
 have obx:∀n,(∃b,Ab boxes n=some b)->(EW ρ ρ2 mb' mr' bk bi).bx n=ρ.bx n:=by
  rintro n ⟨b,hn⟩;by_cases hnk:n∈keys
  ·obtain⟨p1,p2⟩:=DQ hnk;obtain⟨q1,q2⟩:=hkeep _ p1;have:=ebx (base+pos keys n) q1;rw[bkin _ p1,p2,q2,p2]at this;exact this
  ·simp only[EW,Q0r (nob n b hn hnk)]
 have orv:∀n,(∃b,Ab rows n=some b)->n∉ids->(EW ρ ρ2 mb' mr' bk bi).rv n=ρ.rv n/\(EW ρ ρ2 mb' mr' bk bi).wd n=ρ.wd n:=by
  rintro n ⟨b,hn⟩ hnk;constructor<;>simp only[EW,Q0r (nor n b hn hnk)]
 have hsz:=hR2.fr.size;have fbx:∀n b,Ab boxes n=some b->n∉keys->Kc w ρ keys ids (ρ.bx n):=fun n b hn hnk=>
  ⟨hR.bxlt hn,fun k hk e=>by obtain⟨b',hb'⟩:=hkb k hk;exact hnk (by rw[<-hR.bi k n b' b hb' hn e];exact hk),fun id hid=>by obtain⟨r,hr⟩:=hir id hid;exact hR.br n b id r hn hr⟩
 have frv:∀n r g,Ab rows n=some r->n∉ids->(ρ.rv n).ownBlock=some g->Kc w ρ keys ids g:=fun n r g hn hnk hg=>
  ⟨(hR.rwlt hn hg).2,fun k hk e=>by obtain⟨b',hb'⟩:=hkb k hk;exact hR.br k b' n r hb' hn (by rw[hg,e]),fun id hid e=>by obtain⟨r',hr'⟩:=hir id hid;exact hnk (by rw[<-hR.ri id n r' r g hr' hn e hg];exact hid)⟩
 have fim:∀b,ρ.im b->Kc w ρ keys ids b:=fun b hb=>
  ⟨(hR.ib b hb).1,fun k hk=>by obtain⟨b',hb'⟩:=hkb k hk;exact(hR.ib b hb).2.1 k b' hb',fun id hid=>by obtain⟨r,hr⟩:=hir id hid;exact(hR.ib b hb).2.2 id r hr⟩
 have fz:∀b,Z.F b->Kc w ρ keys ids b:=fun b hb=>
  ⟨hR.fs b hb,fun k hk e=>by obtain⟨b',hb'⟩:=hkb k hk;obtain⟨_,_,_,q⟩:=hR.bx k b' hb';exact q (e▸hb),fun id hid e=>by obtain⟨r,hr⟩:=hir id hid;exact(hR.rwlt hr e).1 hb⟩
 have hold:∀b,Kc w ρ keys ids b->w'.heap[b]? =w.heap[b]? :=fun b hb=>hR2.fr.block b hb;have him:∀b,ρ.im b->ρ2.im b:=fun b hb=>hR2.i0 b hb;have him2:∀b,ρ2.im b->ρ.im b\/ ¬Kc w ρ keys ids b:=fun b hb=>hR2.i1 b hb
 have hbn:∀k∈mb'.map (·.1),Ab ((Dz keys boxes).map fun p=>(p.1,Dt ids p.2)) (bk k)=none:=by
  intro k hk;rw[F_ (Dt ids),JP];rcases imb k hk with⟨i,hi,_,e⟩|e
  ·rw[if_pos (by rw[e];exact E9 hi)];rfl
  ·split
   ·rfl
   ·rw[e];rfl
 have hrn:∀k∈mr'.map (·.1),Ab (Dz ids rows) (bi k)=none:=by
  intro k hk;rw[JP];rcases imr k hk with⟨i,hi,_,e⟩|e
  ·rw[if_pos (by rw[e];exact E9 hi)]
  ·split
   ·rfl
   ·exact e
 obtain⟨gb1,gb2⟩:=RF (rk:=bk) (g:=fun b:Box=>(⟨b.ty,b.cells.map (AC.ren bk bi)⟩:Box)) hb' injb hbn;obtain⟨gr1,gr2⟩:=RF (rk:=bi) (g:=fun b:Row=>b) hr' injr hrn;rw[Xs,Qsc];generalize hB:G7 bk (fun b:Box=>(⟨b.ty,b.cells.map (AC.ren bk bi)⟩:Box)) mb' ((Dz keys boxes).map fun p=>(p.1,Dt ids p.2))=B' at gb1 gb2⊢;generalize hRr:G7 bi (fun b:Row=>b) mr' (Dz ids rows)=R' at gr1 gr2⊢;have caseB:∀n b,Ab B' n=some b->(∃k b0,Ab mb' k=some b0/\n=bk k/\b=⟨b0.ty,b0.cells.map (AC.ren bk bi)⟩)\/(n∉keys/\∃b0,Ab boxes n=some b0/\b=Dt ids b0):=by
  intro n b hn;by_cases hc:∃k∈mb'.map (·.1),n=bk k
  ·obtain⟨k,hk,rfl⟩:=hc;obtain⟨b0,hb0⟩:=Ku.1 hk;have:=gb1 k b0 hb0;rw[hn]at this;simp at this;exact .inl ⟨k,b0,hb0,rfl,this⟩
  ·rw[gb2 n (fun k hk e=>hc ⟨k,hk,e⟩),F_ (Dt ids),JP]at hn;split at hn
   ·simp at hn
   ·rename_i hnk;simp only[Option.map_eq_some_iff]at hn;obtain⟨b0,h1,h2⟩:=hn;exact .inr ⟨hnk,b0,h1,h2.symm⟩
 have caseR:∀n r,Ab R' n=some r->(∃k,Ab mr' k=some r/\n=bi k)\/(n∉ids/\Ab rows n=some r):=by
  intro n r hn;by_cases hc:∃k∈mr'.map (·.1),n=bi k
  ·obtain⟨k,hk,rfl⟩:=hc;obtain⟨b0,hb0⟩:=Ku.1 hk;have:=gr1 k b0 hb0;rw[hn]at this;simp at this;subst this;exact .inl ⟨k,hb0,rfl⟩
  ·rw[gr2 n (fun k hk e=>hc ⟨k,hk,e⟩),JP]at hn;split at hn
   ·simp at hn
   ·rename_i hnk;exact .inr ⟨hnk,hn⟩
 have oldB:∀n b,Ab boxes n=some b->∃b',Ab B' n=some b':=by
  intro n b hn;by_cases hnk:n∈keys
  ·obtain⟨p1,p2⟩:=DQ hnk;obtain⟨⟨bo,q1⟩,_⟩:=hkeep _ p1;have:=gb1 _ bo q1;rw[bkin _ p1,p2]at this;exact⟨_,this⟩
  ·rw[gb2 n (nob n b hn hnk),F_ (Dt ids),JP,if_neg hnk,hn];exact⟨_,rfl⟩
 have oldR:∀n r,Ab rows n=some r->n∉ids->Ab R' n=some r:=by
  intro n r hn hnk;rw[gr2 n (nor n r hn hnk),JP,if_neg hnk,hn]
 let Q:AC->Prop:=fun a=>AC.wf boxes rows a/\∀id∈ids,AC.free id a
 have hagree:∀a,Q a->a.agree ρ (EW ρ ρ2 mb' mr' bk bi):=by
  rintro a ⟨ha,hf⟩;have hp:∀l:List AC,(∀a∈l,AC.wfP boxes a)->∀a∈l,a.agreeP ρ (EW ρ ρ2 mb' mr' bk bi):=by
   intro l hl c hc;have:=hl c hc;cases c<;>first|exact obx _ this|trivial
  cases a with
  |ptr k o=>exact obx k ha
  |bsl k o=>exact obx k ha
  |own id _ _=>obtain⟨r,h1,_⟩:=ha;exact orv id ⟨r,h1⟩ (fun hm=>hf id hm rfl)
  |rptr id _ _=>obtain⟨r,h1,_⟩:=ha;exact orv id ⟨r,h1⟩ (fun hm=>hf id hm rfl)
  |clo f fs cs=>exact⟨hp fs ha.1,hp cs ha.2⟩
  |_=>trivial
 have hcc:∀(a:AC) (y:Value),Q a->CC ρ w a y->CC (EW ρ ρ2 mb' mr' bk bi) w' a y:=fun a y hq hy=>CC.mono (ρ':=EW ρ ρ2 mb' mr' bk bi) him (fun b hb=>hold b (fim b hb)) a y (hagree a hq) hy;have hwfQ:∀a,Q a->AC.wf B' R' a:=by
  rintro a ⟨ha,hf⟩;cases a with
  |ptr k o=>obtain⟨b,hb⟩:=ha;exact oldB k b hb
  |bsl k o=>obtain⟨b,hb⟩:=ha;exact oldB k b hb
  |own id _ _=>obtain⟨r,h1,h2⟩:=ha;exact⟨r,oldR id r h1 (fun hm=>hf id hm rfl),h2⟩
  |rptr id _ _=>obtain⟨r,h1,h2⟩:=ha;exact⟨r,oldR id r h1 (fun hm=>hf id hm rfl),h2⟩
  |vptr=>exact ha
  |clo f fs cs=>exact⟨fun c hc=>AC.wfP_mono oldB (ha.1 c hc),fun c hc=>AC.wfP_mono oldB (ha.2 c hc)⟩
  |_=>trivial
 have newwf:∀a,AC.wf mb' mr' a->AC.wf B' R' (a.ren bk bi):=fun a ha=>
  Rk (Kp:=fun k=>∃b,Ab mb' k=some b) (Ip:=fun i=>∃r,Ab mr' i=some r) (fun k _ ⟨b,hb⟩=>⟨_,gb1 k b hb⟩) (fun i r _ hr=>⟨r,gr1 i r hr,rfl,rfl⟩) (AC.nm_of_wf ha) ha
 have fTV:∀v∈tm.map (Hw ids),TV.wf boxes rows v/\∀id∈ids,TV.free id v:=by
  intro v hv;simp only[List.mem_map]at hv;obtain⟨u,hu,rfl⟩:=hv;exact⟨Qpq ids (hR.wt u hu),fun id hid=>Q3i ids u id hid⟩
 have qTV:∀v∈tm.map (Hw ids),(match v with| .v _ cs=>∀a∈cs,Q a| .tup ps=>∀p∈ps,∀a∈p.2,Q a| .dead=>True):=by
  intro v hv;obtain⟨h1,h2⟩:=fTV v hv;cases v with
  |dead=>trivial
  |v g cs=>exact fun a ha=>⟨h1 a ha,fun id hid=>h2 id hid a ha⟩
  |tup ps=>exact fun p hp a ha=>⟨h1 p hp a ha,fun id hid=>h2 id hid p hp a ha⟩
 have qB:∀n b0,Ab boxes n=some b0->∀a∈(Dt ids b0).cells,Q a:=fun n b0 hn a ha=>⟨Q7q ids (hR.wb n b0 hn) a ha,fun id hid=>Q7p ids b0 id hid a ha⟩;have hvwf:TV.wf mb' mr' v:=hR2.wt v (by simp);refine⟨⟨by simpa using hR.tl,fun i v hi=> ?_,fun v hv=> ?_,fun n b hn a ha=> ?_,fun n b hn=> ?_,fun n n' b b' hn hn' he=> ?_,fun n r hn=> ?_,fun n n' r r' g hn hn' hg hg'=> ?_,fun n b m r hn hm=> ?_,fun b hb=>⟨(hR2.ib b hb).1,fun n bo hn=> ?_,fun n r hn=> ?_⟩,?_,?_,fun b hb=>him b (hR.i0 b hb),fun b hb=> ?_,fun k b hk=> ?_⟩,?_,?_⟩
 ·have hv:=List.mem_of_getElem? hi;simp only[List.getElem?_map,Option.map_eq_some_iff]at hi;obtain⟨u,hu,rfl⟩:=hi;exact TVR.mono2 hcc (qTV _ hv) (Qv3 ids (hR.tv i u hu))
 ·have:=qTV v hv;cases v with
  |dead=>trivial
  |v g cs=>exact fun a ha=>hwfQ a (this a ha)
  |tup ps=>exact fun p hp a ha=>hwfQ a (this p hp a ha)
 ·rcases caseB n b hn with⟨k,b0,h1,rfl,rfl⟩|⟨hnk,b0,h1,rfl⟩
  ·simp only[List.mem_map]at ha;obtain⟨c,hc,rfl⟩:=ha;exact newwf c (hR2.wb k b0 h1 c hc)
  ·exact hwfQ a (qB n b0 h1 a ha)
 ·rcases caseB n b hn with⟨k,b0,h1,rfl,rfl⟩|⟨hnk,b0,h1,rfl⟩
  ·obtain⟨arr,q1,q2,q3⟩:=hR2.bx k b0 h1;refine⟨arr,by rw[ebx k ⟨b0,h1⟩];exact q1,Pu (Kp:=fun k=>∃b,Ab mb' k=some b) (Ip:=fun i=>∃r,Ab mr' i=some r) ebx erv rfl (fun c hc=>AC.nm_of_wf (hR2.wb k b0 h1 c hc)) q2,?_⟩;rw[ebx k ⟨b0,h1⟩];exact fun hf=>q3 (fz _ hf)
  ·obtain⟨arr,q1,q2,q3⟩:=hR.bx n b0 h1;rw[obx n ⟨b0,h1⟩];refine⟨arr,by rw[hold _ (fbx n b0 h1 hnk),Q2c];exact q1,?_,q3⟩;exact(Qt3 ids q2).mono fun a ha y hy=>hcc a y (qB n b0 h1 a ha) hy
 ·rcases caseB n b hn with⟨k,b0,h1,rfl,_⟩|⟨hnk,b0,h1,_⟩<;>rcases caseB n' b' hn' with⟨k',b0',h1',rfl,_⟩|⟨hnk',b0',h1',_⟩
  ·rw[ebx k ⟨b0,h1⟩,ebx k' ⟨b0',h1'⟩]at he;rw[hR2.bi k k' _ _ h1 h1' he]
  ·rw[ebx k ⟨b0,h1⟩,obx n' ⟨b0',h1'⟩]at he;obtain⟨_,_,_,q3⟩:=hR2.bx k b0 h1;exact absurd (he▸fbx n' b0' h1' hnk') q3
  ·rw[obx n ⟨b0,h1⟩,ebx k' ⟨b0',h1'⟩]at he;obtain⟨_,_,_,q3⟩:=hR2.bx k' b0' h1';exact absurd (he▸fbx n b0 h1 hnk) q3
  ·rw[obx n ⟨b0,h1⟩,obx n' ⟨b0',h1'⟩]at he;exact hR.bi n n' _ _ h1 h1' he
 ·rcases caseR n r hn with⟨k,h1,rfl⟩|⟨hnk,h1⟩
  ·obtain⟨q1,q2,q0,ys,q3,q4⟩:=hR2.ro k r h1;obtain⟨e1,e2⟩:=erv k ⟨r,h1⟩;rw[e1,e2];exact⟨q1,q2,fun g hg hf=>q0 g hg (fz g hf),ys,q3,q4⟩
  ·obtain⟨q1,q2,q0,ys,q3,q4⟩:=hR.ro n r h1;obtain⟨e1,e2⟩:=orv n ⟨r,h1⟩ hnk;rw[e1,e2];exact⟨q1,q2,q0,ys,Ko q3 fun g hg=>hold g (frv n r g h1 hnk hg),q4.mono him (fun b hb=>hold b (fim b hb))⟩
 ·rcases caseR n r hn with⟨k,h1,rfl⟩|⟨hnk,h1⟩<;>rcases caseR n' r' hn' with⟨k',h1',rfl⟩|⟨hnk',h1'⟩
  ·rw[(erv k ⟨r,h1⟩).1]at hg;rw[(erv k' ⟨r',h1'⟩).1]at hg';rw[hR2.ri k k' _ _ g h1 h1' hg hg']
  ·rw[(erv k ⟨r,h1⟩).1]at hg;rw[(orv n' ⟨r',h1'⟩ hnk').1]at hg';obtain⟨_,_,q0,_⟩:=hR2.ro k r h1;exact absurd (frv n' r' g h1' hnk' hg') (q0 g hg)
  ·rw[(orv n ⟨r,h1⟩ hnk).1]at hg;rw[(erv k' ⟨r',h1'⟩).1]at hg';obtain⟨_,_,q0,_⟩:=hR2.ro k' r' h1';exact absurd (frv n r g h1 hnk hg) (q0 g hg')
  ·rw[(orv n ⟨r,h1⟩ hnk).1]at hg;rw[(orv n' ⟨r',h1'⟩ hnk').1]at hg';exact hR.ri n n' _ _ g h1 h1' hg hg'
 ·rcases caseB n b hn with⟨k,b0,h1,rfl,_⟩|⟨hnk,b0,h1,_⟩<;>rcases caseR m r hm with⟨k',h1',rfl⟩|⟨hmk,h1'⟩
  ·rw[ebx k ⟨b0,h1⟩,(erv k' ⟨r,h1'⟩).1];exact hR2.br k b0 k' r h1 h1'
  ·rw[ebx k ⟨b0,h1⟩,(orv m ⟨r,h1'⟩ hmk).1];intro e;obtain⟨_,_,_,q3⟩:=hR2.bx k b0 h1;exact q3 (frv m r _ h1' hmk e)
  ·rw[obx n ⟨b0,h1⟩,(erv k' ⟨r,h1'⟩).1];intro e;obtain⟨_,_,q0,_⟩:=hR2.ro k' r h1';exact q0 _ e (fbx n b0 h1 hnk)
  ·rw[obx n ⟨b0,h1⟩,(orv m ⟨r,h1'⟩ hmk).1];exact hR.br n b0 m r h1 h1'
 ·rcases caseB n bo hn with⟨k,b0,h1,rfl,_⟩|⟨hnk,b0,h1,_⟩
  ·rw[ebx k ⟨b0,h1⟩];exact(hR2.ib b hb).2.1 k b0 h1
  ·rw[obx n ⟨b0,h1⟩];rcases him2 b hb with hb2|hb2
   ·exact(hR.ib b hb2).2.1 n b0 h1
   ·exact fun e=>hb2 (e▸fbx n b0 h1 hnk)
 ·rcases caseR n r hn with⟨k,h1,rfl⟩|⟨hnk,h1⟩
  ·rw[(erv k ⟨r,h1⟩).1];exact(hR2.ib b hb).2.2 k r h1
  ·rw[(orv n ⟨r,h1⟩ hnk).1];rcases him2 b hb with hb2|hb2
   ·exact(hR.ib b hb2).2.2 n r h1
   ·exact fun e=>hb2 (frv n r b h1 hnk e)
 ·exact hR.fr.trans ⟨hR2.fr.os,hR2.fr.tape,hR2.fr.output,hR2.fr.size,fun k hk=>hold k (fz k hk)⟩
 ·exact fun k hk=>Nat.lt_of_lt_of_le (hR.fs k hk) hsz
 ·rcases him2 b hb with hb2|hb2
  ·exact hR.i1 b hb2
  ·exact .inr fun hf=>hb2 (fz b hf)
 ·obtain⟨q1,bo,q2⟩:=hR.k0 k b hk;exact⟨by rw[obx k ⟨bo,q2⟩];exact q1,oldB k bo q2⟩
 ·have htv:TVR ρ2 w' v x:=by simpa using hR2.tv 0 v rfl
  exact Q7x (Kp:=fun k=>∃b,Ab mb' k=some b) (Ip:=fun i=>∃r,Ab mr' i=some r) ebx erv rfl (TV.nm_of_wf hvwf) htv
 ·exact Qxm (Kp:=fun k=>∃b,Ab mb' k=some b) (Ip:=fun i=>∃r,Ab mr' i=some r) (fun k _ ⟨b,hb⟩=>⟨_,gb1 k b hb⟩) (fun i r _ hr=>⟨r,gr1 i r hr,rfl,rfl⟩) (TV.nm_of_wf hvwf) hvwf
theorem Qbe {α:Type} {l:List (Nat×α)} {k:Nat} (h:Hs l k=true):Ab l k=none:=by
 unfold Hs at h;split at h
 ·cases h
 ·assumption
theorem Zg1 (hspec:Ai P C) (hR:RelE Z tm boxes rows ρ tmps w) {o:Oper} {a:Act} {f:FuncId} {args:List TV} {xs:List Value} (h1:xs.length=args.length)
  (h2:∀(i:Nat) (a:TV) (x:Value),args[i]? =some a->xs[i]? =some x->TVR ρ w a x) (h3:execOp a.eval o=callFunc f xs.toArray) (hwf:∀v∈args,TV.wf boxes rows v) {K:TV->St->Option R} {r:R}
  (h:AY C o.dst (.callM f args) ⟨tm,boxes,rows⟩ K=some r) {next:Act->World->Prop} {Q:Exit->Act->World->Prop}
  (hnext:∀(v:TV) (tm':List TV) (boxes':List (Nat×Box)) (rows':List (Nat×Row)) (ρ':Env) (x:Value) (w':World),K v ⟨tm',boxes',rows'⟩=some r->RelE Z tm' boxes' rows' ρ' tmps w'->TVR ρ' w' v x->TV.wf boxes' rows' v->next (a.put o.dst x) w'):
  o.wp P a w next Q:=by
 simp only[AY]at h;split at h
 ·rename_i g hg;have hsp:=hspec.1 f g hg;simp only[A0]at h;generalize hk:LO boxes 4 (AU (cat AC.keys (cat TV.cellsOf args)) [])=keys at h;generalize hi:Oc boxes (cat TV.cellsOf args) keys=ids at h;clear hk hi;cases hc:(Aj (TV.inK keys ids) args&&Aj (fun k=>Aj (AC.inK keys ids) (Es boxes k)) keys&&BF keys&&BF ids)<;>rw[hc]at h
  ·simp at h
  ·simp only[cond_true]at h;simp only[Bool.and_eq_true]at hc;obtain⟨⟨⟨c1,c2⟩,c3⟩,c4⟩:=hc;split at h
   ·rename_i mb mr hmb hmr;have hkd:=HW.1 c3;have hidd:=HW.1 c4;obtain⟨v,⟨mb',mr'⟩,hv,hpc⟩:=hsp.run h;have hent:=XP hR h1 h2 hwf hkd hidd (fun v hv=>Av.1 c1 v hv) (fun k hk=>Av.1 c2 k hk) hmb hmr;refine SD h3 ((hpc _ w _ xs hent).mono ?_);rintro e w' ⟨x,ρ2,he,hR2⟩;dsimp only at hv;cases hc2:(Aj (fun p:Nat×Box=>DX mb' p.1) mb&&BF (mb'.map (·.1))&&BF (mr'.map (·.1))&&Aj (fun k=>Hs boxes (BC keys (A_ keys mb') (o.dst.getD 0) k)) (A_ keys mb')&&Aj (fun k=>Hs rows (BC ids (A_ ids mr') (o.dst.getD 0) k)) (A_ ids mr')&&Nat.ble (A_ keys mb').length 100&&Nat.ble (A_ ids mr').length 100)<;>rw[hc2]at hv
    ·simp at hv
    ·simp only[cond_true]at hv;simp only[Bool.and_eq_true]at hc2;obtain⟨⟨⟨⟨⟨⟨_,d2⟩,d3⟩,d4⟩,d5⟩,_⟩,_⟩:=hc2;obtain⟨e1,e2,e3⟩:=Qdz hR hkd hidd hmb hmr hR2 (d:=o.dst.getD 0) (HW.1 d2) (HW.1 d3) (fun k hk=>Qbe (Av.1 d4 k hk)) (fun k hk=>Qbe (Av.1 d5 k hk));exact⟨x,he,hnext _ _ _ _ _ x w' hv e1 e2 e3⟩
   ·simp at h
 ·simp at h
theorem RelE.cong {boxes':List (Nat×Box)} (h:RelE Z tm boxes rows ρ tmps w) (hl:∀k,Ab boxes' k=Ab boxes k):RelE Z tm boxes' rows ρ tmps w:=by
 have ha:∀a,AC.wf boxes rows a->AC.wf boxes' rows a:=fun a=>AC.wf_mono (fun k b hk=>⟨b,by rw[hl];exact hk⟩) (fun k r hk=>⟨r,hk,rfl,rfl⟩);exact⟨h.tl,h.tv,fun v hv=>TV.wf_mono ha (h.wt v hv),fun k b hk a ha'=>ha a (h.wb k b (by rw[<-hl];exact hk) a ha'),
  fun k b hk=>h.bx k b (by rw[<-hl];exact hk),fun k k' b b' hk hk'=>h.bi k k' b b' (by rw[<-hl];exact hk) (by rw[<-hl];exact hk'),h.ro,h.ri,
  fun k b id r hk=>h.br k b id r (by rw[<-hl];exact hk),fun b hb=>⟨(h.ib b hb).1,fun k bo hk=>(h.ib b hb).2.1 k bo (by rw[<-hl];exact hk),(h.ib b hb).2.2⟩,
  h.fr,h.fs,h.i0,h.i1,fun k b hk=>⟨(h.k0 k b hk).1,by rw[hl];exact(h.k0 k b hk).2⟩⟩
theorem Qyr {keys:List Nat} (hkd:keys.Nodup):∀{m l:List (Nat×Box)},(m.map (·.1)).Nodup->(∀k∈m.map (·.1),base<=k/\k-base<keys.length)->(∀k∈keys,∃b,Ab l k=some b)->
  (∀k b,Ab m k=some b->Ab (Ce keys m l) (nth 0 keys (k-base))=some b)/\(∀n,(∀k∈m.map (·.1),n≠nth 0 keys (k-base))->Ab (Ce keys m l) n=Ab l n)
 |[],l,_,_,_=>⟨fun k b h=>by simp[Ab]at h,fun n _=>rfl⟩
 |(j,c)::m,l,hd,hi,hn=>by
  simp only[List.map_cons,List.nodup_cons]at hd;have hj:=hi j (by simp);have hne:∀k∈m.map (·.1),nth 0 keys (j-base)≠nth 0 keys (k-base):=fun k hk e=>by
   have hk':=hi k (by simp at hk⊢;exact .inr hk);have e':=congrArg (pos keys) e;rw[If hkd hj.2,If hkd hk'.2]at e';have:k=j:=by omega
   subst this;exact hd.1 hk
  obtain⟨y,hy⟩:=hn _ (E9 hj.2);obtain ⟨h1, h2⟩ := Qyr hkd (m := m) (l := upd l (nth 0 keys (j - base)) c) hd.2 (fun k hk => hi k (by simp at hk ⊢; exact .inr hk)) (fun k hk => by
   by_cases e:k=nth 0 keys (j-base)
   ·subst e;exact⟨c,EE _ _ _ _ hy⟩
   ·rw[C9 _ _ _ _ e];exact hn k hk)
  refine⟨fun k b hk=> ?_,fun n hnn=> ?_⟩
  ·simp only[Ab]at hk;simp only[Ce];cases hb:Nat.beq j k<;>rw[hb]at hk
   ·exact h1 k b hk
   ·have:=Nat.eq_of_beq_eq_true hb;subst this;simp at hk;subst hk;rw[h2 _ hne];exact EE _ _ _ _ hy
  ·simp only[Ce];rw[h2 n (fun k hk=>hnn k (by simp at hk⊢;exact .inr hk))];exact C9 _ _ _ _ (hnn j (by simp))
theorem Z3o {rk ri:Nat->Nat} {a:AC} (h:a.calm=true):a.ren rk ri=a:=by cases a<;>simp[AC.calm]at h<;>rfl
theorem Pg {rk ri:Nat->Nat}:∀{l:List AC},Aj AC.calm l=true->l.map (AC.ren rk ri)=l
 |[],_=>rfl
 |a::l,h=>by
  rw[Av]at h;simp only[List.map_cons];rw[Z3o (h a (by simp)),Pg (Av.2 fun x hx=>h x (by simp[hx]))]
theorem Qug {a:AC} (h:a.plain=true):a.calm=true:=by cases a<;>simp[AC.plain]at h<;>rfl
theorem Qnx {rk ri:Nat->Nat} {v:TV} (h:v.plainB=true):v.ren rk ri=v:=by
 cases v with
 |dead=>rfl
 |v g cs=>
  simp only[TV.plainB,Av]at h;simp only[TV.ren];rw[Pg (Av.2 fun a ha=>Qug (h a ha))]
 |tup ps=>
  simp only[TV.plainB,Av]at h;simp only[TV.ren];congr 1
  conv=>rhs;rw[<-List.map_id ps]
  apply List.map_congr_left;intro p hp;rw[Pg (Av.2 fun a ha=>Qug (h p hp a ha))];rfl
theorem Sn {α:Type} {l:List (Nat×α)} {k:Nat} (h:DX l k=true):∃b,Ab l k=some b:=by
 unfold DX at h;split at h
 ·rename_i b hb;exact⟨b,hb⟩
 ·cases h
theorem Zb4 {keys:List Nat} (hkd:keys.Nodup) {mb mb':List (Nat×Box)} (hmb:Dr boxes (fun k=>base+pos keys k) (fun i=>base+pos [] i) base keys=some mb)
  (h1:∀p∈mb,DX mb' p.1=true) (h2:∀p∈mb',DX mb p.1=true) (h3:(mb'.map (·.1)).Nodup) (h4:∀p∈mb',Aj AC.calm p.2.cells=true) (bi:Nat->Nat) (d:Nat) (k:Nat):
  Ab (Ce keys mb' boxes) k=Ab (Lx (BC keys [] d) bi mb' ((Dz keys boxes).map fun p=>(p.1,Dt [] p.2))) k:=by
 obtain⟨b1,b2⟩:=KR hmb;have hin:∀k∈mb'.map (·.1),base<=k/\k-base<keys.length:=by
  intro k hk;simp only[List.mem_map]at hk;obtain⟨p,hp,rfl⟩:=hk;obtain⟨b,hb⟩:=Sn (h2 p hp);obtain⟨i,hi,e⟩:=b2 _ _ hb;omega
 have hall:∀i,i<keys.length->∃b,Ab mb' (base+i)=some b:=by
  intro i hi;obtain⟨x,_,q⟩:=b1 i hi;exact Sn (h1 _ (OA q))
 have hkb:∀k∈keys,∃b,Ab boxes k=some b:=fun k hk=>by
  obtain⟨x,q,_⟩:=b1 (pos keys k) (DQ hk).1;rw[(DQ hk).2]at q;exact⟨x,q⟩
 have hbk:∀k∈mb'.map (·.1),BC keys [] d k=nth 0 keys (k-base):=fun k hk=>Lb (hin k hk);obtain⟨u1,u2⟩:=Qyr (l:=boxes) hkd h3 hin hkb;have hdel:∀n,Ab ((Dz keys boxes).map fun p=>(p.1,Dt [] p.2)) n=if n∈keys then none else Ab boxes n:=by
  intro n;rw[F_,JP];split
  ·rfl
  ·cases Ab boxes n<;>rfl
 have hinj:∀k∈mb'.map (·.1),∀j∈mb'.map (·.1),BC keys [] d k=BC keys [] d j->k=j:=by
  intro k hk j hj e;rw[hbk k hk,hbk j hj]at e;have e':=congrArg (pos keys) e;rw[If hkd (hin k hk).2,If hkd (hin j hj).2]at e';have:=hin k hk;have:=hin j hj;omega
 rw[Xs];obtain ⟨v1, v2⟩ := RF (rk := BC keys [] d) (g := fun b : Box => (⟨b.ty, b.cells.map (AC.ren (BC keys [] d) bi)⟩ : Box)) (m := mb') (l := (Dz keys boxes).map fun p => (p.1, Dt [] p.2)) h3 hinj (fun k hk => by
  rw[hdel,hbk k hk,if_pos (E9 (hin k hk).2)])
 by_cases hk:k∈keys
 ·obtain⟨hp,hn⟩:=DQ hk;obtain⟨b,hb⟩:=hall _ hp;have e1:=u1 _ b hb;have e2:=v1 _ b hb;rw[hbk _ (Ku.2 ⟨b,hb⟩)]at e2;rw[show base+pos keys k-base=pos keys k from by omega,hn]at e1 e2;rw[e1,e2];have:=h4 _ (OA hb);rw[Pg this]
 ·rw[u2 k (fun j hj e=>hk (by rw[e];exact E9 (hin j hj).2)),v2 k (fun j hj e=>hk (by rw[e,hbk j hj];exact E9 (hin j hj).2)),hdel,if_neg hk]
theorem Zqn (hspec:Ai P C) (hR:RelE Z tm boxes rows ρ tmps w) {o:Oper} {a:Act} {f:FuncId} {args:List TV} {xs:List Value} (h1:xs.length=args.length)
  (h2:∀(i:Nat) (a:TV) (x:Value),args[i]? =some a->xs[i]? =some x->TVR ρ w a x) (h3:execOp a.eval o=callFunc f xs.toArray) (hwf:∀v∈args,TV.wf boxes rows v) {K:TV->St->Option R} {r:R}
  (h:AY C o.dst (.callD f args) ⟨tm,boxes,rows⟩ K=some r) {next:Act->World->Prop} {Q:Exit->Act->World->Prop}
  (hnext:∀(v:TV) (tm':List TV) (boxes':List (Nat×Box)) (rows':List (Nat×Row)) (ρ':Env) (x:Value) (w':World),K v ⟨tm',boxes',rows'⟩=some r->RelE Z tm' boxes' rows' ρ' tmps w'->TVR ρ' w' v x->TV.wf boxes' rows' v->next (a.put o.dst x) w'):
  o.wp P a w next Q:=by
 simp only[AY]at h;split at h
 ·rename_i g hg;have hsp:=hspec.1 f g hg;simp only[A0]at h;generalize hk:AU (cat AC.keys (cat TV.cellsOf args)) []=keys at h;clear hk;cases hc:(Aj (TV.inK keys []) args&&Aj (fun k=>Aj AC.calm (Es boxes k)) keys&&BF keys)<;>rw[hc]at h
  ·simp at h
  ·simp only[cond_true]at h;simp only[Bool.and_eq_true]at hc;obtain⟨⟨c1,c2⟩,c3⟩:=hc;have c2':Aj (fun k=>Aj (AC.inK keys []) (Es boxes k)) keys=true:=by
    rw[Av]at c2⊢;intro k hk;have:=c2 k hk;rw[Av]at this⊢;intro b hb;have:=this b hb;cases b<;>simp[AC.calm]at this<;>rfl
   split at h
   ·rename_i mb hmb;have hkd:=HW.1 c3;obtain⟨v,⟨mb',mr'⟩,hv,hpc⟩:=hsp.run h;have hent:=XP hR h1 h2 hwf hkd List.nodup_nil (fun v hv=>Av.1 c1 v hv) (fun k hk=>Av.1 c2' k hk) hmb (show FV rows base []=some []from rfl);refine SD h3 ((hpc _ w _ xs hent).mono ?_);rintro e w' ⟨x,ρ2,he,hR2⟩;cases mr' with
    |cons _ _=>simp at hv
    |nil=>
     dsimp only at hv;cases hc2:(Aj (fun p:Nat×Box=>DX mb' p.1) mb&&Aj (fun p:Nat×Box=>DX mb p.1) mb'&&BF (mb'.map (·.1))&&Aj (fun p:Nat×Box=>Aj AC.calm p.2.cells) mb'&&v.plainB)<;>rw[hc2]at hv
     ·simp at hv
     ·simp only[cond_true]at hv;simp only[Bool.and_eq_true]at hc2;obtain⟨⟨⟨⟨d1,d2⟩,d3⟩,d4⟩,d5⟩:=hc2;have hfr:A_ keys mb'=[]:=by
       apply List.eq_nil_iff_forall_not_mem.2;intro k hk;obtain⟨q1,q2⟩:=IA.1 hk;simp only[List.mem_map]at q1;obtain⟨p,hp,rfl⟩:=q1;obtain⟨b,hb⟩:=Sn (Av.1 d2 p hp);obtain⟨i,hi,e⟩:=(KR hmb).2 _ _ hb;exact q2 (by omega)
      obtain⟨e1,e2,e3⟩:=Qdz hR hkd List.nodup_nil hmb (show FV rows base []=some []from rfl) hR2 (d:=o.dst.getD 0) (HW.1 d3) List.nodup_nil (fun k hk=>by rw[hfr]at hk;simp at hk) (fun k hk=>by simp[A_]at hk);rw[hfr]at e1 e2 e3;have hlk:=Zb4 hkd hmb (Av.1 d1) (Av.1 d2) (HW.1 d3) (Av.1 d4) (BC [] (A_ [] ([]:List (Nat×Row))) (o.dst.getD 0)) (o.dst.getD 0);have e1':=e1.cong hlk;have htm:tm.map (Hw [])=tm:=by
       conv=>rhs;rw[<-List.map_id tm]
       rfl
      rw[htm]at e1';rw[Qnx d5]at e2;exact⟨x,he,hnext _ _ _ _ _ x w' hv e1' e2 (JW d5)⟩
   ·simp at h
 ·simp at h
theorem Zmd {keys ids:List Nat} {v:TV} (h:v.plainB=true):TV.inK keys ids v=true:=by
 cases v with
 |dead=>rfl
 |v g cs=>
  simp only[TV.plainB,TV.inK]at h⊢;rw[Av]at h⊢;intro a ha;have:=h a ha;cases a<;>simp[AC.plain]at this<;>rfl
 |tup ps=>
  simp only[TV.plainB,TV.inK]at h⊢;rw[Av]at h⊢;intro p hp;have:=h p hp;rw[Av]at this⊢;intro a ha;have:=this a ha;cases a<;>simp[AC.plain]at this<;>rfl
theorem Q10 {rk ri:Nat->Nat}:∀{args:List TV},Aj TV.plainB args=true->args.map (TV.ren rk ri)=args
 |[],_=>rfl
 |a::l,h=>by
  simp only[Aj]at h;obtain⟨h1,h2⟩:=cond_none' h;simp only[List.map_cons];rw[Qnx h1,Q10 h2]
 where cond_none' {c p:Bool} (h:cond c p false=true):c=true/\p=true:=by cases c<;>simp at h;exact⟨rfl,h⟩
theorem Q76 (x:Nat):x.blt 0=false:=rfl
theorem Zil (j:Nat) (r:Row):A_ [] [(j,r)]=[j]:=by
 have hblt:(base.ble j&&(j-base).blt 0)=false:=by
  rw[Q76,Bool.and_false]
 unfold A_;simp only[List.length_nil,hblt,cond_false];rfl
theorem Zet (j d:Nat):BC [] [j] d j=Ho d:=by
 have hblt:(base.ble j&&(j-base).blt 0)=false:=by
  rw[Q76,Bool.and_false]
 unfold BC Ho;simp only[List.length_nil,hblt,cond_false,pos,Nat.beq_refl,cond_true,Nat.add_zero]
theorem Zcb (hspec:Ai P C) (hR:RelE Z tm boxes rows ρ tmps w) {o:Oper} {a:Act} {f:FuncId} {args:List TV} {xs:List Value} (h1:xs.length=args.length)
  (h2:∀(i:Nat) (a:TV) (x:Value),args[i]? =some a->xs[i]? =some x->TVR ρ w a x) (h3:execOp a.eval o=callFunc f xs.toArray) (hwf:∀v∈args,TV.wf boxes rows v) {K:TV->St->Option R} {r:R}
  (h:AY C o.dst (.callF f args) ⟨tm,boxes,rows⟩ K=some r) {next:Act->World->Prop} {Q:Exit->Act->World->Prop}
  (hnext:∀(v:TV) (tm':List TV) (boxes':List (Nat×Box)) (rows':List (Nat×Row)) (ρ':Env) (x:Value) (w':World),K v ⟨tm',boxes',rows'⟩=some r->RelE Z tm' boxes' rows' ρ' tmps w'->TVR ρ' w' v x->TV.wf boxes' rows' v->next (a.put o.dst x) w'):
  o.wp P a w next Q:=by
 simp only[AY]at h;split at h
 ·rename_i g hg;have hsp:=hspec.1 f g hg;cases hpl:Aj TV.plainB args<;>rw[hpl]at h
  ·simp at h
  simp only[cond_true]at h;obtain⟨v,⟨mb',mr'⟩,hv,hpc⟩:=hsp.run h;have hent:=XP hR h1 h2 hwf List.nodup_nil List.nodup_nil (keys:=[]) (ids:=[]) (fun v hv=>Zmd (Av.1 hpl v hv)) (fun k hk=>by simp at hk) (show Dr boxes _ _ base []=some []from rfl) (show FV rows base []=some []from rfl);rw[Q10 hpl]at hent;refine SD h3 ((hpc _ w _ xs hent).mono ?_);rintro e w' ⟨x,ρ2,he,hR2⟩;have htm:tm.map (Hw [])=tm:=by
   conv=>rhs;rw[<-List.map_id tm]
   rfl
  have hbx:(Dz [] boxes).map (fun p=>(p.1,Dt [] p.2))=boxes:=by
   conv=>rhs;rw[<-List.map_id boxes]
   rfl
  cases mb' with
  |cons _ _=>simp at hv
  |nil=>
  have hlv:(mr'.map (·.1)).Nodup->(∀k∈A_ [] mr',Ab rows (BC [] (A_ [] mr') (o.dst.getD 0) k)=none)->_:=fun d1 d2=>
   Qdz hR List.nodup_nil List.nodup_nil (show Dr boxes _ _ base []=some []from rfl) (show FV rows base []=some []from rfl) hR2 (d:=o.dst.getD 0) (by simp) d1 (fun k hk=>by simp[A_]at hk) d2
  cases mr' with
  |nil=>
   dsimp only at hv;cases hvp:v.plainB<;>rw[hvp]at hv
   ·simp at hv
   simp only[cond_true]at hv;obtain⟨e1,e2,e3⟩:=hlv (by simp) (fun k hk=>by simp[A_]at hk);rw[htm,hbx]at e1;rw[Qnx hvp]at e2;exact⟨x,he,hnext _ _ _ _ _ x w' hv e1 e2 (JW hvp)⟩
  |cons p l=>
   obtain⟨k,rw0⟩:=p;cases l with
   |cons _ _=>simp at hv
   |nil=>
    dsimp only at hv;split at hv
    ·rename_i j w0 n0;cases hjk:Nat.beq j k<;>rw[hjk]at hv
     ·simp at hv
     simp only[cond_true]at hv;have hjk:=Nat.eq_of_beq_eq_true hjk;subst hjk;split at hv
     ·simp at hv
     rename_i hnone;simp only[A0]at hv;have hf:=Zil j rw0;have hb:=Zet j (o.dst.getD 0);obtain ⟨e1, e2, e3⟩ := hlv (by simp) (fun k hk => by
      rw[hf]at hk⊢;simp at hk;subst hk;rw[hb];exact hnone)
     rw[htm,hbx]at e1;rw[hbx]at e3;have hwv:=hR2.wt (.v false [.own j w0 n0]) (by simp) (.own j w0 n0) (by simp);obtain⟨r1,hr1,hn1,hw1⟩:=hwv;simp only[Ab,Nat.beq_refl,cond_true,Option.some.injEq]at hr1;subst hr1;have hren:TV.ren (BC [] (A_ ([]:List Nat) ([]:List (Nat×Box))) (o.dst.getD 0)) (BC [] (A_ [] [(j,rw0)]) (o.dst.getD 0)) (.v false [.own j w0 n0])= .c (.own (Ho (o.dst.getD 0)) rw0.ks.length rw0.l.length):=by
      simp only[TV.ren,List.map_cons,List.map_nil,AC.ren,hf,hb];rw[<-hw1,<-hn1]
     have hins:J3 (BC [] (A_ [] [(j,rw0)]) (o.dst.getD 0)) [(j,rw0)] (Dz [] rows)=ins rows (Ho (o.dst.getD 0)) rw0:=by
      simp only[J3,hf,hb,Dz]
     have e1':=e1;rw[hins]at e1';have e2':=e2;rw[hren]at e2';have e3':=e3;rw[hren,hins]at e3';exact⟨x,he,hnext _ _ _ _ _ x w' hv e1' e2' e3'⟩
    ·simp at hv
 ·simp at h
end
end Go.Bm
