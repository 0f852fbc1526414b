/- The abstract machine, second form: regions, control, calls: 'funK' is sound. -/
import Derived.Test.YtommijghjlikkaaGreatBmWf
import Derived.LoopN
set_option linter.unusedVariables false
set_option linter.unusedSimpArgs false
namespace Go.Bm
open Go.RowKit
def Rel (Z:Base) (s:St) (tmps:Array Value) (w:World):Prop:=∃ρ,RelE Z s.tmps s.boxes s.rows ρ tmps w
section
variable {P:Program} {C:Cfg} {w:World} {R:Type} {Z:Base}
theorem RelE.put {ρ:Env} {tm:List TV} {boxes:List (Nat×Box)} {rows:List (Nat×Row)} {tmps:Array Value} (h:RelE Z tm boxes rows ρ tmps w) (d:Nat) {v:TV} {x:Value} (hv:TVR ρ w v x) (hw:TV.wf boxes rows v):
  RelE Z (setL tm d v) boxes rows ρ (tmps.setIfInBounds d x) w:=by
 rw[H9];refine⟨by simp[h.tl],fun i u hi=> ?_,fun u hu=> ?_,h.wb,h.bx,h.bi,h.ro,h.ri,h.br,h.ib,h.fr,h.fs,h.i0,h.i1,h.k0⟩
 ·rw[List.getElem?_set]at hi;by_cases hid:d=i
  ·subst hid;simp only[if_true]at hi;split at hi
   ·rename_i hlt;simp at hi;subst hi;have:d<tmps.size:=by rw[<-h.tl];exact hlt
    simpa [Array.getD,this]using hv
   ·simp at hi
  ·rw[if_neg hid]at hi;have:=h.tv i u hi;have e:(tmps.setIfInBounds d x).getD i undef=tmps.getD i undef:=by
    simp[Array.getD_eq_getD_getElem?,Array.getElem?_setIfInBounds_ne hid]
   rw[e];exact this
 ·rcases List.mem_or_eq_of_mem_set hu with hu|rfl
  ·exact h.wt u hu
  ·exact hw
theorem RelE.learn {ρ:Env} {tm:List TV} {boxes:List (Nat×Box)} {rows:List (Nat×Row)} {tmps:Array Value} (h:RelE Z tm boxes rows ρ tmps w) (d:Nat) {v:TV} (hv:TVR ρ w v (tmps.getD d undef)) (hw:TV.wf boxes rows v):
  RelE Z (setL tm d v) boxes rows ρ tmps w:=by
 rw[H9];refine⟨by simp[h.tl],fun i u hi=> ?_,fun u hu=> ?_,h.wb,h.bx,h.bi,h.ro,h.ri,h.br,h.ib,h.fr,h.fs,h.i0,h.i1,h.k0⟩
 ·rw[List.getElem?_set]at hi;by_cases hid:d=i
  ·subst hid;simp only[if_true]at hi;split at hi
   ·simp at hi;subst hi;exact hv
   ·simp at hi
  ·rw[if_neg hid]at hi;exact h.tv i u hi
 ·rcases List.mem_or_eq_of_mem_set hu with hu|rfl
  ·exact h.wt u hu
  ·exact hw
theorem Fi (s:St) (d:Option Tmp) (v:TV) (K:St->Option R):put s d v K=K (match d with|none=>s|some t=>⟨setL s.tmps t v,s.boxes,s.rows⟩):=by
 obtain⟨tm,boxes,rows⟩:=s;cases d with
 |none=>rfl
 |some t=>simp only[put,A0]
theorem Qqj {ρ:Env} {tm:List TV} {boxes:List (Nat×Box)} {rows:List (Nat×Row)} {a:Act} (h:RelE Z tm boxes rows ρ a.tmps w) (x:Operand):TVR ρ w (AS tm x) (a.eval x):=by
 cases x with
 |tmp t=>
  simp only[AS,BK,List.getD,Act.eval];cases ht:tm[t]? with
  |none=>trivial
  |some v=>exact h.tv t v ht
 |const v=>exact Zgd v
 |global=>trivial
 |func=>trivial
theorem S5:∀(l:List Nat) (s:St) (tmps:Array Value),Rel Z s tmps w->∀(K:St->Option R) (r:R),HT l s K=some r->∃s',K s'=some r/\Rel Z s' tmps w
 |[],s,tmps,hR,K,r,h=>⟨s,h,hR⟩
 |id::l,s,tmps,hR,K,r,h=>by
  obtain⟨tm,boxes,rows⟩:=s;simp only[HT]at h;split at h
  ·rename_i r0 hr0;simp only[A0]at h;obtain⟨ρ,hR⟩:=hR;exact S5 l _ tmps ⟨_,hR.freeze hr0⟩ K r h
  ·exact S5 l _ tmps hR K r h
theorem Zn8 {k o:Nat} {e:TypeId} {s:St} {tmps:Array Value} (hR:Rel Z s tmps w) {K:St->Option R} {r:R} (h:KU P k o e s K=some r):∃s',K s'=some r/\Rel Z s' tmps w:=by
 obtain⟨tm,boxes,rows⟩:=s;obtain⟨ρ,hR⟩:=hR;simp only[KU]at h;split at h
 ·rename_i b hk;split at h
  ·rename_i ho;split at h
   ·rename_i ks hks;cases hc:(Nat.ble 1 ks.length&&Hs rows (1000000+1000*k+o))<;>rw[hc]at h
    ·simp at h
    ·simp only[cond_true,A0]at h;simp only[Bool.and_eq_true]at hc;exact⟨_,h,_,hR.promB hk ho (Qbe hc.2) (Nat.le_of_ble_eq_true hc.1)⟩
   ·simp at h
  ·exact⟨_,h,ρ,hR⟩
 ·exact⟨_,h,ρ,hR⟩
theorem Qs7:∀(l:List (Nat×Nat×TypeId)) (s:St) (tmps:Array Value),Rel Z s tmps w->∀(K:St->Option R) (r:R),IN P l s K=some r->∃s',K s'=some r/\Rel Z s' tmps w
 |[],s,tmps,hR,K,r,h=>⟨s,h,hR⟩
 |(k,o,e)::l,s,tmps,hR,K,r,h=>by
  simp only[IN]at h;obtain⟨s',h',hR'⟩:=Zn8 hR h;exact Qs7 l s' tmps hR' K r h'
theorem Rx:∀(l:List (Nat×TypeId)) (s:St) (tmps:Array Value),Rel Z s tmps w->∀(K:St->Option R) (r:R),Iw P l s K=some r->∃s',K s'=some r/\Rel Z s' tmps w
 |[],s,tmps,hR,K,r,h=>⟨s,h,hR⟩
 |(t,e)::l,s,tmps,hR,K,r,h=>by
  obtain⟨tm,boxes,rows⟩:=s;simp only[Iw]at h;split at h
  ·rename_i hn;split at h
   ·rename_i ks hrow hks;cases hw:Nat.ble 1 ks.length<;>rw[hw]at h
    ·simp at h
    ·simp only[cond_true,A0]at h;refine Rx l _ tmps ?_ K r h;obtain⟨ρ,hR⟩:=hR;have hadd:=hR.addRow (d:=t) hrow (r:=⟨e,ks,[]⟩) (v':= .slice none 0 0) (xs:=[]) (w':=w) (Below.refl _ _) (Nat.le_of_ble_eq_true hw) (Qmr w e ks.length) ⟨by simp,by simp,fun i c hi=>by simp at hi⟩ (fun g hg=>by simp[Value.ownBlock]at hg);refine⟨_,hadd.learn t ?_ (Cw ⟨_,EA _ _ _ hrow,rfl,rfl⟩)⟩;have hv:tmps.getD t undef= .slice none 0 0:=by
      have htl:t<tm.length:=by
       rcases Nat.lt_or_ge t tm.length with hlt|hge
       ·exact hlt
       ·rw[BK,List.getD,List.getElem?_eq_none hge]at hn;simp at hn
      have hslot:tm[t]? =some (.c .nilSl):=by
       rw[BK,List.getD]at hn;rw[List.getElem?_eq_getElem htl]at hn⊢;simpa using hn
      have:=(hR.tv t _ hslot).c;simpa [CC,CP]using this
     rw[hv];exact TVR.c' ⟨by simp only[BG],by simp only[BG], .inl ⟨rfl,rfl⟩⟩
   ·simp at h
  ·exact Rx l _ tmps hR K r h
theorem Qf {s:St} {tmps:Array Value} (hR:Rel Z s tmps w) {K:St->Option R} {r:R} (h:Ha P C s K=some r):∃s',K s'=some r/\Rel Z s' tmps w:=by
 unfold Ha at h;obtain⟨s',h',ρ,hR'⟩:=Qs7 _ s tmps hR _ r h;obtain⟨tm,boxes,rows⟩:=s';simp only[A0]at h';refine Rx _ _ tmps ?_ K r h';refine⟨ρ,?_⟩;refine hR'.reBox (g:=fun _ b=>RW P b) (fun _ b=> ?_) fun k b hk=> ?_
 ·unfold RW;split<;>rfl
 ·unfold RW;split
  ·rename_i ks _;exact⟨fun xs h=>Kh ks b.cells xs h,Nf ks b.cells (hR'.wb k b hk)⟩
  ·exact⟨fun xs h=>h,hR'.wb k b hk⟩
theorem Zzq {o:Op} {s:St} {tmps:Array Value} (hR:Rel Z s tmps w) {K:St->Option R} {r:R} (h:HP P C o s K=some r):∃s',K s'=some r/\Rel Z s' tmps w:=by
 unfold HP at h;obtain⟨s1,h1,hR1⟩:=S5 _ s tmps hR _ r h;cases hc:Qmm C o<;>rw[hc]at h1
 ·exact⟨s1,h1,hR1⟩
 ·exact Qf hR1 h1
theorem Zbw {pre:Bool} {ρ:Env} {e:Operand->Value} {o:Oper} {p:Prim} (h:IR P ρ w e o p):IR P ρ w e o (p.dr pre):=by
 cases pre<;>cases p<;>first|exact h|(simp only[Prim.dr];cases Aj TV.plainB _<;>exact h)
theorem Qji {pre:Bool} {bx:List (Nat×Box)} {rows:List (Nat×Row)} {p:Prim} (h:Prim.wf bx rows p):Prim.wf bx rows (p.dr pre):=by
 cases pre<;>cases p<;>first|exact h|(simp only[Prim.dr];cases Aj TV.plainB _<;>exact h)
theorem Q6g (hspec:Ai P C) (hok:∀t∈C.eqOk,P.stoodInHeld t=false) {s:St} {o:Oper} {a:Act} (hR:Rel Z s a.tmps w) {K:Option Prim->St->Option R} {r:R}
  {pre:Bool} (h:(opK P C (AS s.tmps) o.dst o.op fun p=>AY C o.dst (p.dr pre) s fun v s'=>put s' o.dst v (K (some (p.dr pre))))=some r) {next:Act->World->Prop} {Q:Exit->Act->World->Prop}
  (hnext:∀(po:Option Prim) (s':St) (a':Act) (w':World),K po s'=some r->Rel Z s' a'.tmps w'->a'.defers=a.defers->next a' w'):o.wp P a w next Q:=by
 obtain⟨ρ,hR⟩:=hR;obtain⟨tm,boxes,rows⟩:=s;have hev:=fun x=>Qqj hR x;rw[Pz]at h;cases hp:opK P C (AS tm) o.dst o.op some with
 |none=>rw[hp]at h;simp at h
 |some p=>
  rw[hp]at h;simp only[Option.bind_some]at h;obtain⟨p',hp',hrun⟩:=Zx1 hok hev (fun f=>rfl) o hp;simp at hp';subst hp';have hwf:=Qgk (boxes:=boxes) (rows:=rows) (fun x=>Qdo hR.wt x) hp;refine Ze3 hspec hR (Zbw hrun) (Qji hwf) h ?_;intro v tm' boxes' rows' ρ' x w' hK hR' hv hvw;rw[Fi]at hK;refine hnext (some (p'.dr pre)) _ _ w' hK ?_ ?_
  ·cases hd:o.dst with
   |none=>exact⟨ρ',hR'⟩
   |some d=>exact⟨ρ',hR'.put d hv hvw⟩
  ·cases o.dst<;>rfl
theorem Qcq (hspec:Ai P C) (hok:∀t∈C.eqOk,P.stoodInHeld t=false) {pre:Bool} {s:St} {o:Oper} {a:Act} (hR:Rel Z s a.tmps w) {K:Option Prim->St->Option R} {r:R}
  (h:((bif pre then HP P C o.op s else fun K=>K s) fun s=>opK P C (AS s.tmps) o.dst o.op fun p=>AY C o.dst (p.dr pre) s fun v s'=>put s' o.dst v (K (some (p.dr pre))))=some r) {next:Act->World->Prop} {Q:Exit->Act->World->Prop}
  (hnext:∀(po:Option Prim) (s':St) (a':Act) (w':World),K po s'=some r->Rel Z s' a'.tmps w'->a'.defers=a.defers->next a' w'):o.wp P a w next Q:=by
 cases pre
 ·exact Q6g hspec hok hR h hnext
 ·obtain⟨s',h',hR'⟩:=Zzq hR h;exact Q6g hspec hok hR' h' hnext
theorem Q53 (hspec:Ai P C) (hok:∀t∈C.eqOk,P.stoodInHeld t=false) {pre:Bool} {ops:Array Oper} {s:St} {o:Oper} {a:Act} (hR:Rel Z s a.tmps w) {K:Option Prim->St->Option R} {r:R}
  (h:FC P C pre ops.toList o s K=some r) {next:Act->World->Prop} {Q:Exit->Act->World->Prop}
  (hnext:∀(po:Option Prim) (s':St) (a':Act) (w':World),K po s'=some r->Rel Z s' a'.tmps w'->a'.defers=a.defers->next a' w'):
  if Region.wanted o (yielded ops a.tmps)=true then o.wp P a w next Q else next (a.put o.dst undef) w:=by
 have hskip:∀s':St,Rel Z s' a.tmps w->put s' o.dst (.tup []) (K none)=some r->next (a.put o.dst undef) w:=by
  intro s' hR' hp;rw[Fi]at hp;refine hnext none _ _ w hp ?_ (by cases o.dst<;>rfl);obtain⟨ρ,hR'⟩:=hR';cases hd:o.dst with
  |none=>exact⟨ρ,hR'⟩
  |some d=>exact⟨ρ,hR'.put d ⟨#[],rfl,trivial⟩ (fun p hp=>by simp at hp)⟩
 unfold FC Pe at h;cases hg:o.guard with
 |none=>
  rw[hg]at h;rw[if_pos (by simp[Region.wanted,hg])];exact Qcq hspec hok hR h hnext
 |some jw=>
  obtain⟨j,want⟩:=jw;rw[hg]at h;simp only at h;split at h
  ·rename_i oj hj;split at h
   ·rename_i t ht;split at h
    ·rename_i g hgv;obtain⟨ρ,hRE⟩:=hR;have htl:t<s.tmps.length:=by
      rcases Nat.lt_or_ge t s.tmps.length with hlt|hge
      ·exact hlt
      ·rw[BK,List.getD,List.getElem?_eq_none hge]at hgv;simp at hgv
     have hslot:s.tmps[t]? =some (.c (.bool g)):=by
      rw[BK,List.getD]at hgv;rw[List.getElem?_eq_getElem htl]at hgv⊢;simpa using hgv
     have hval:=(hRE.tv t _ hslot).bool;have hts:t<a.tmps.size:=by rw[<-hRE.tl];exact htl
     have hat:a.tmps[t]? =some (.bool g):=by
      rw[Array.getElem?_eq_getElem hts];rw[Array.getD,dif_pos hts]at hval;simpa using hval
     have hy:yielded ops a.tmps j=some g:=by
      unfold yielded;have hj':ops[j]? =some oj:=by simpa using hj
      simp[hj',ht,hat]
     have hl:∀b,g=b->Rel Z ⟨setL s.tmps t (.c (.bool b)),s.boxes,s.rows⟩ a.tmps w:=by
      rintro b rfl;exact⟨ρ,hRE.learn t (by rw[hval];exact TVR.mkBool _) (IB _)⟩
     have hw:Region.wanted o (yielded ops a.tmps)=(g==want):=by
      simp only[Region.wanted,hg,hy];cases g<;>cases want<;>rfl
     cases g
     ·simp only[cond_false]at h;rw[Fi]at h;dsimp only at h;have hR':=hl false rfl;cases want
      ·rw[if_pos (by rw[hw];rfl)];simp only[cond_false]at h;exact Qcq hspec hok hR' h hnext
      ·rw[if_neg (by rw[hw];simp)];simp only[cond_true]at h;exact hskip _ hR' h
     ·simp only[cond_true]at h;rw[Fi]at h;dsimp only at h;have hR':=hl true rfl;cases want
      ·rw[if_neg (by rw[hw];simp)];simp only[cond_false]at h;exact hskip _ hR' h
      ·rw[if_pos (by rw[hw];rfl)];simp only[cond_true]at h;exact Qcq hspec hok hR' h hnext
    ·rename_i hgv;obtain⟨ρ,hRE⟩:=hR;have htl:t<s.tmps.length:=by
      rcases Nat.lt_or_ge t s.tmps.length with hlt|hge
      ·exact hlt
      ·rw[BK,List.getD,List.getElem?_eq_none hge]at hgv;simp at hgv
     have hslot:s.tmps[t]? =some (.tup []):=by
      rw[BK,List.getD]at hgv;rw[List.getElem?_eq_getElem htl]at hgv⊢;simpa using hgv
     obtain⟨ys,hys,hval⟩:=hRE.tv t _ hslot;have hts:t<a.tmps.size:=by rw[<-hRE.tl];exact htl
     have hat:a.tmps[t]? =some (.tuple ys):=by
      rw[Array.getElem?_eq_getElem hts];rw[Array.getD,dif_pos hts]at hys;simpa using hys
     have hy:yielded ops a.tmps j=none:=by
      unfold yielded;have hj':ops[j]? =some oj:=by simpa using hj
      simp[hj',ht,hat]
     have hw:Region.wanted o (yielded ops a.tmps)=false:=by
      simp only[Region.wanted,hg,hy];rfl
     rw[if_neg (by rw[hw];simp)];exact hskip _ ⟨ρ,hRE⟩ h
    ·simp at h
   ·simp at h
  ·simp at h
theorem Q6t (hspec:Ai P C) (hok:∀t∈C.eqOk,P.stoodInHeld t=false) {ops:Array Oper} {Q:Exit->Act->World->Prop} {K:St->Option R} {r:R}:
  ∀(l:List Oper) (s:St) (a:Act) (w:World),Rel Z s a.tmps w->QJ P C ops.toList l s K=some r->
  (∀(s':St) (a':Act) (w':World),K s'=some r->Rel Z s' a'.tmps w'->a'.defers=a.defers->Q .normal a' w')->wpList P ops Q l a w
 |[],s,a,w,hR,h,hq=>hq s a w h hR rfl
 |o::l,s,a,w,hR,h,hq=>by
  simp only[QJ]at h;have:=Q53 (next:=wpList P ops Q l) (Q:=Q) hspec hok hR h (fun po s' a' w' hK hR' hd=>Q6t hspec hok l s' a' w' hR' hK (fun s2 a2 w2 h1 h2 h3=>hq s2 a2 w2 h1 h2 (h3.trans hd)));simp only[wpList];split
  ·rename_i hw;rw[if_pos hw]at this;exact .inl this
  ·rename_i hw;rw[if_neg hw]at this;exact this
end
end Go.Bm
