/- The abstract machine, second form: regions are sound, in whatever order they run. -/
import Derived.Test.YtommijghjlikkaaGreatBmSwap
import Derived.Orders
set_option linter.unusedVariables false
set_option linter.unusedSimpArgs false
namespace Go.Bm
open Go.RowKit
structure WFst (s : St) : Prop where
 t:∀v∈s.tmps,TV.wf s.boxes s.rows v
 b:∀(k:Nat) (b:Box),Ab s.boxes k=some b->∀a∈b.cells,AC.wf s.boxes s.rows a
section
variable {P:Program} {C:Cfg} {w:World} {R:Type} {Z:Base}
theorem Zro {d:Option Tmp} {f:FuncId} {args:List TV} {bx bx':List (Nat×Box)} {rows:List (Nat×Row)} {v:TV} (h:Au (C:=C) d (.call f args) bx rows=some (v,bx')):TV.wf bx' rows v:=by
 simp only[Au]at h;split at h
 ·split at h
  ·split at h
   ·split at h
    ·rename_i hc;simp at h;obtain⟨rfl,_⟩:=h;simp only[Bool.and_eq_true]at hc;exact JW hc.2
    ·simp at h
   ·simp at h
  ·simp at h
 ·simp at h
theorem Qv2 {bx:List (Nat×Box)} {rows:List (Nat×Row)}:∀(ks:List Kd) (cs:List AC) (j:Nat),∀c∈EO ks cs j,AC.wf bx rows c
 |[],_,_,c,hc=>by simp[EO]at hc
 |k::ks,cs,j,c,hc=>by
  simp only[EO,List.mem_cons]at hc;rcases hc with rfl|hc
  ·cases k<;>try exact trivial
   generalize nth AC.dead cs j=b;cases b<;>exact trivial
  ·exact Qv2 ks cs _ c hc
theorem Qrw {α:Type}:∀(l:List (Nat×α)) (k:Nat) (x:α),Ab l k=none->Ab (upd l k x) k=none
 |[],_,_,_=>rfl
 |(j,c)::l,k,x,h=>by
  simp only[Ab]at h;cases hb:Nat.beq j k<;>rw[hb]at h
  ·simp only[upd,hb,cond_false,Ab];exact Qrw l k x h
  ·simp at h
theorem Q0y {keys:List Nat}:∀(m:List (Nat×Box)) (l:List (Nat×Box)) {n:Nat} {b:Box},Ab (Ce keys m l) n=some b->Ab l n=some b\/∃p∈m,p.2=b
 |[],_,_,_,h=> .inl h
 |(j,c)::m,l,n,b,h=>by
  simp only[Ce]at h;rcases Q0y m _ h with h|⟨p,hp,e⟩
  ·by_cases e:n=nth 0 keys (j-base)
   ·subst e;cases hl:Ab l (nth 0 keys (j-base))with
    |none=>rw[Qrw _ _ _ hl]at h;cases h
    |some y=>
     rw[EE _ _ _ _ hl]at h;simp at h;subst h;exact .inr ⟨(j,c),by simp,rfl⟩
   ·rw[C9 _ _ _ _ e]at h;exact .inl h
  ·exact .inr ⟨p,by simp[hp],e⟩
theorem Q4n {d:Option Tmp} {f:FuncId} {args:List TV} {bx bx1:List (Nat×Box)} {rows:List (Nat×Row)} {v:TV} (h:Au (C:=C) d (.callD f args) bx rows=some (v,bx1)):
  ∃mb',bx1=Ce (AU (cat AC.keys (cat TV.cellsOf args)) []) mb' bx/\True/\v.plainB=true/\∀p∈mb',Aj AC.calm p.2.cells=true:=by
 simp only[Au]at h;generalize AU (cat AC.keys (cat TV.cellsOf args)) []=keys at h⊢
 repeat' split at h
 all_goals first|(simp at h;done)|skip
 rename_i v' mb' _ hc2;simp only[Option.some.injEq,Prod.mk.injEq]at h;obtain⟨rfl,rfl⟩:=h;simp only[Bool.and_eq_true]at hc2;exact⟨mb',rfl,trivial,hc2.2,Av.1 hc2.1.2⟩
theorem Zlk {ops:List Oper} {o:Oper} {tm:List TV} {bx bx':List (Nat×Box)} {rows:List (Nat×Row)} {p:Option Prim} {v:TV} (hw:WFst ⟨tm,bx,rows⟩) (h:CZ P C ops o tm bx rows=some (p,v,bx')):
  WFst ⟨tm,bx',rows⟩/\TV.wf bx' rows v/\∀q,p=some q->Prim.wf bx rows q:=by
 unfold CZ at h;split at h
 ·cases hp:opK P C (AS tm) o.dst o.op some with
  |none=>rw[hp]at h;simp at h
  |some q=>
   rw[hp]at h;simp only[Option.bind_some]at h;have hq:=Qji (pre:=false) (Qgk (boxes:=bx) (rows:=rows) (fun x=>Qdo hw.t x) hp);clear hp;generalize q.dr false=q at h hq⊢;cases hm:Au (C:=C) o.dst q bx rows with
   |none=>rw[hm]at h;simp at h
   |some z=>
    rw[hm]at h;simp at h;obtain⟨rfl,rfl,rfl⟩:=h;have hres:∀{bx2:List (Nat×Box)},(∀a,AC.wf bx rows a->AC.wf bx2 rows a)->(∀(k:Nat) (b:Box),Ab bx2 k=some b->∀a∈b.cells,AC.wf bx rows a)->WFst ⟨tm,bx2,rows⟩:=
     fun ha hb=>⟨fun v hv=>TV.wf_mono ha (hw.t v hv),fun k b hk a hm=>ha a (hb k b hk a hm)⟩
    refine⟨?_,?_,fun q' e=>by simp at e;subst e;exact hq⟩;all_goals
     cases q<;>simp only[Au]at hm<;>try (simp at hm;done)
    ·simp at hm;subst hm;exact hw
    ·repeat' split at hm
     all_goals first|(simp at hm;done)|(simp at hm;subst hm;exact hw)
    ·rename_i key off cs;split at hm
     ·rename_i b hb;split at hm
      ·simp at hm;subst hm;refine hres (fun a => AC.wf_mono (fun k bo hk' => by
        by_cases hkd:k=key
        ·subst hkd;exact⟨_,EE _ _ _ _ hb⟩
        ·exact⟨bo,by rw[C9 _ _ _ _ hkd];exact hk'⟩) (fun k r hk=>⟨r,hk,rfl,rfl⟩)) ?_
       intro k bo hk a ha;by_cases hkd:k=key
       ·subst hkd;rw[EE _ _ _ _ hb]at hk;simp at hk;subst hk;rcases Sr _ _ _ ha with ha|ha
        ·exact hw.b k b hb a ha
        ·exact hq.2 a ha
       ·rw[C9 _ _ _ _ hkd]at hk;exact hw.b k bo hk a ha
      ·simp at hm
     ·simp at hm
    ·rename_i ty cs;split at hm
     ·rename_i d hd;split at hm
      ·simp at hm
      ·rename_i hn;simp at hm;subst hm;refine hres (fun a=>AC.wf_mono (fun k bo hk'=>⟨bo,by rw[Dq _ _ _ _ (by rintro rfl;rw[hn]at hk';simp at hk')];exact hk'⟩) (fun k r hk=>⟨r,hk,rfl,rfl⟩)) ?_;intro k bo hk a ha;by_cases hkd:k=d
       ·subst hkd;rw[EA _ _ _ hn]at hk;simp at hk;subst hk;exact hq a ha
       ·rw[Dq _ _ _ _ hkd]at hk;exact hw.b k bo hk a ha
     ·simp at hm
    ·rename_i g sz id idx sub;obtain⟨z1,z2⟩:=z;obtain⟨rfl,_⟩:=Nl (C:=C) (d:=o.dst) (by simpa only[Au]using hm);exact hw
    ·simp at hm;subst hm;exact hw
    ·obtain⟨rfl,_⟩:=Kr (d:=o.dst) hm;exact hw
    ·rename_i f args;obtain⟨z1,z2⟩:=z;obtain⟨mb',rfl,hin,_,hcal⟩:=Q4n (C:=C) (d:=o.dst) (f:=f) (args:=args) (rows:=rows) (by simpa only[Au]using hm);refine hres (fun a=>AC.wf_mono (fun k bo hk'=>OY _ _ hk') (fun k r hk=>⟨r,hk,rfl,rfl⟩)) ?_;intro k bo hk a ha;rcases Q0y _ _ hk with hk|⟨p,hp,rfl⟩
     ·exact hw.b k bo hk a ha
     ·exact Q0k (hcal p hp) a ha
    ·simp at hm;subst hm;exact hq
    ·split at hm
     ·rename_i b hb;split at hm
      ·rename_i v hv;simp at hm;subst hm;exact PF hv (hw.b _ b hb)
      ·simp at hm
     ·simp at hm
    ·repeat' split at hm
     all_goals first|(simp at hm;done)|(simp at hm;subst hm;trivial)
    ·rename_i ty cs;split at hm
     ·rename_i d hd;split at hm
      ·simp at hm
      ·rename_i hn;simp at hm;subst hm;exact Cw ⟨_,EA _ _ _ hn⟩
     ·simp at hm
    ·split at hm
     ·rename_i r hr;split at hm
      ·rename_i v hv;simp at hm;subst hm;exact PF hv fun a ha=>Qv2 r.ks _ 0 a ha
      ·simp at hm
     ·simp at hm
    ·simp at hm;subst hm;exact Cw trivial
    ·rename_i f args;exact Zro (d:=o.dst) hm
    ·rename_i f args;obtain⟨z1,z2⟩:=z;obtain⟨mb',_,_,hpl,_⟩:=Q4n (C:=C) (d:=o.dst) (f:=f) (args:=args) (rows:=rows) (by simpa only[Au]using hm);exact JW hpl
 ·simp at h;obtain⟨rfl,rfl,rfl⟩:=h;exact⟨hw,fun p hp=>by simp at hp,fun q e=>by simp at e⟩
 ·simp at h
theorem Zk {tm:List TV} {bx:List (Nat×Box)} {rows:List (Nat×Row)} {d:Option Tmp} {v:TV} (hw:WFst ⟨tm,bx,rows⟩) (hv:TV.wf bx rows v):WFst ⟨CJ tm d v,bx,rows⟩:=by
 cases d with
 |none=>exact hw
 |some t=>
  refine⟨fun u hu=> ?_,hw.b⟩;simp only[CJ,H9]at hu;rcases List.mem_or_eq_of_mem_set hu with hu|rfl
  ·exact hw.t u hu
  ·exact hv
theorem Zvo {id:Nat} {bx:List (Nat×Box)} {k:Nat} {b:Box} (h:Ab (bx.map fun p=>(p.1,p.2.kill id)) k=some b):∃b',Ab bx k=some b'/\b=b'.kill id:=by
 have:=F_ (Box.kill id) bx k;rw[this]at h;simp only[Option.map_eq_some_iff]at h;obtain⟨b',h1,rfl⟩:=h;exact⟨b',h1,rfl⟩
theorem Qcb {bx:List (Nat×Box)} {rows rows':List (Nat×Row)} {id:Nat} (hr:∀j,j≠id->Ab rows' j=Ab rows j) {a:AC} (h:AC.wf bx rows a):AC.wf (bx.map fun p=>(p.1,p.2.kill id)) rows' (a.kill id):=by
 have hb:∀k b,Ab bx k=some b->∃b',Ab (bx.map fun p=>(p.1,p.2.kill id)) k=some b':=fun k b hk=>⟨b.kill id,by have:=F_ (Box.kill id) bx k;rw[this,hk];rfl⟩;have hp:∀c,AC.wfP bx c->AC.wfP (bx.map fun p=>(p.1,p.2.kill id)) c:=by
  intro c hc;cases c<;>try exact trivial
  obtain⟨b,hb'⟩:=hc;exact hb _ _ hb'
 cases a<;>try exact trivial
 case ptr k o=>
  obtain⟨b,hb'⟩:=h;exact hb _ _ hb'
 case bsl k o=>
  obtain⟨b,hb'⟩:=h;exact hb _ _ hb'
 case own j w n=>
  simp only[AC.kill];cases hj:Nat.beq j id
  ·obtain⟨r,h1,h2⟩:=h;exact⟨r,by rw[hr j (Gs hj)];exact h1,h2⟩
  ·exact trivial
 case rptr j a b=>
  simp only[AC.kill];cases hj:Nat.beq j id
  ·obtain⟨r,h1,h2⟩:=h;exact⟨r,by rw[hr j (Gs hj)];exact h1,h2⟩
  ·exact trivial
 case vptr cs sub=>exact h
 case clo f fs cs=>exact⟨fun c hc=>hp c (h.1 c hc),fun c hc=>hp c (h.2 c hc)⟩
theorem Zrk {dst:Option Tmp} {rows rows':List (Nat×Row)} {p:Prim} {id:Nat} {v:TV} (h1:Jz dst p=some id) (h2:JK dst rows p=some (v,rows')):(∀j,j≠id->Ab rows' j=Ab rows j)/\TV.wf [] rows' v:=by
 cases p<;>simp[Jz]at h1
 rename_i e ks bytes sv x;cases sv<;>simp at h1
 case nilSl=>
  subst h1;simp only[JK,Qfi]at h2
  repeat' split at h2
  all_goals first|(simp at h2;done)|skip
  rename_i hn _ _;simp only[Option.some.injEq,Prod.mk.injEq]at h2;obtain⟨rfl,rfl⟩:=h2;refine⟨fun j hj=>Dq _ _ _ _ hj,Cw ?_⟩;exact⟨_,EA _ _ _ hn,rfl,rfl⟩
 rename_i id' w n;subst h1;simp only[JK,Qdn]at h2
 repeat' split at h2
 all_goals first|(simp at h2;done)|skip
 rename_i r hr _ _;simp only[Option.some.injEq,Prod.mk.injEq]at h2;obtain⟨rfl,rfl⟩:=h2;refine⟨fun j hj=>C9 _ _ _ _ hj,Cw ?_⟩;exact⟨_,EE _ _ _ _ hr,rfl,rfl⟩
theorem Q47 {rows rows':List (Nat×Row)}:∀{args:List TV},Aj TV.plainB args=true->GQ rows args=GQ rows' args
 |[],_=>rfl
 |a::l,h=>by
  simp only[Aj]at h;have h1:a.plainB=true/\Aj TV.plainB l=true:=by cases ha:a.plainB<;>rw[ha]at h<;>simp at h;exact⟨rfl,h⟩
  have e:a.res rows=a.res rows':=by
   cases a with
   |dead=>rfl
   |tup ps=>rfl
   |v g cs=>
    simp only[TV.res];have:Fp rows cs=Fp rows' cs:=by
     have h2:=h1.1;simp only[TV.plainB]at h2;clear h h1;induction cs with
     |nil=>rfl
     |cons c cs ih=>
      simp only[Aj]at h2;have h3:c.plain=true/\Aj AC.plain cs=true:=by cases hc:c.plain<;>rw[hc]at h2<;>simp at h2;exact⟨rfl,h2⟩
      simp only[Fp];rw[ih h3.2];have:c.res rows=c.res rows':=by
       have:=h3.1;cases c<;>simp[AC.plain]at this<;>rfl
      rw[this]
    rw[this]
  simp only[GQ];rw[e,Q47 h1.2]
theorem Zf4 {dst:Option Tmp} {rows rows':List (Nat×Row)} {p:Prim} {v:TV} (h:mkD (C:=C) dst p rows=some (v,rows')):(∀j r,Ab rows j=some r->Ab rows' j=some r)/\TV.wf [] rows' v:=by
 unfold mkD at h;cases hg:mkG (C:=C) dst p with
 |none=>rw[hg]at h;simp at h
 |some q=>
  obtain⟨v',o⟩:=q;rw[hg]at h;cases o with
  |none=>
   simp only[Option.some.injEq,Prod.mk.injEq]at h;obtain⟨rfl,rfl⟩:=h;refine⟨fun _ _ h=>h,?_⟩;unfold mkG at hg;split at hg
   ·split at hg<;>simp at hg
   ·split at hg
    ·split at hg
     ·split at hg
      ·split at hg
       ·rename_i hp;simp only[Option.some.injEq,Prod.mk.injEq]at hg;rw[<-hg.1];exact JW hp
       ·simp at hg
      ·split at hg<;>simp at hg
      ·simp at hg
     ·simp at hg
    ·simp at hg
   ·simp at hg
  |some kr=>
   obtain⟨k,r⟩:=kr;dsimp only at h;split at h
   ·simp at h
   ·rename_i hn;simp only[Option.some.injEq,Prod.mk.injEq]at h;obtain⟨rfl,rfl⟩:=h;refine⟨fun j r' hj=>by rw[Dq _ _ _ _ (by rintro rfl;rw[hn]at hj;cases hj)];exact hj,?_⟩;unfold mkG at hg;split at hg
    ·split at hg
     ·simp only[Option.some.injEq,Prod.mk.injEq]at hg;obtain⟨rfl,rfl,rfl⟩:=hg;exact Cw ⟨_,EA _ _ _ hn,rfl,rfl⟩
     ·simp at hg
    ·split at hg
     ·split at hg
      ·split at hg
       ·split at hg<;>simp at hg
       ·split at hg
        ·simp only[Option.some.injEq,Prod.mk.injEq]at hg;obtain⟨rfl,rfl,rfl⟩:=hg;exact Cw ⟨_,EA _ _ _ hn,rfl,rfl⟩
        ·simp at hg
       ·simp at hg
      ·simp at hg
     ·simp at hg
    ·simp at hg
theorem Zsw {ops:List Oper} {o:Oper} {s s':St} {p:Option Prim} (hw:WFst s) (h:B6 (P:=P) (C:=C) ops o s=some (p,s')):WFst s':=by
 obtain⟨tm,bx,rows⟩:=s;cases hn:Prim.isApp p
 ·cases hnm:Prim.isMk p
  case true=>
   obtain⟨_,q,v,rows',_,rfl,h4,rfl⟩:=Qz h hnm;obtain⟨hr,hv⟩:=Zf4 h4;have ha:∀a,AC.wf bx rows a->AC.wf bx rows' a:=fun a=>AC.wf_mono (fun k b hk=>⟨b,hk⟩) (fun k r hk=>⟨r,hr k r hk,rfl,rfl⟩);exact Zk ⟨fun u hu=>TV.wf_mono ha (hw.t u hu),fun k b hk a hm=>ha a (hw.b k b hk a hm)⟩ (TV.wf_mono (fun a ha=>AC.wf_mono (boxes:=[]) (rows:=rows') (fun k b hk=>by simp[Ab]at hk) (fun k r hk=>⟨r,hk,rfl,rfl⟩) ha) hv)
  obtain⟨v,bx',hc,rfl⟩:=Kq h hn hnm;obtain⟨h1,h2,_⟩:=Zlk hw hc;exact Zk h1 h2
 ·obtain⟨_,q,id,v,rows',_,rfl,h3,h4,rfl⟩:=YU h hn;obtain⟨hr,hv⟩:=Zrk h3 h4;refine Zk ⟨fun u hu=> ?_,fun k b hk a ha=> ?_⟩ (TV.wf_mono (fun a ha=>AC.wf_mono (boxes:=[]) (rows:=rows') (fun k b hk=>by simp[Ab]at hk) (fun k r hk=>⟨r,hk,rfl,rfl⟩) ha) hv)
  ·simp only[List.mem_map]at hu;obtain⟨u,hu,rfl⟩:=hu;have:=hw.t u hu;cases u with
   |dead=>trivial
   |v g cs=>
    intro a ha;simp only[List.mem_map]at ha;obtain⟨c,hc,rfl⟩:=ha;exact Qcb hr (this c hc)
   |tup ps=>
    intro p hp a ha;simp only[List.mem_map]at hp;obtain⟨q,hq,rfl⟩:=hp;simp only[List.mem_map]at ha;obtain⟨c,hc,rfl⟩:=ha;exact Qcb hr (this q hq c hc)
  ·obtain⟨b',hb',rfl⟩:=Zvo hk;simp only[Box.kill,List.mem_map]at ha;obtain⟨c,hc,rfl⟩:=ha;exact Qcb hr (hw.b k b' hb' c hc)
theorem Qqv {o:Op} {p:Option Prim} (h:Prim.still o p=true):Prim.isMk p=false:=by
 cases p with
 |none=>rfl
 |some q=>cases q<;>first|rfl|(cases o<;>simp[Prim.still,Prim.isLive,Prim.isPtr]at h)
theorem Zxw {d:Option Tmp} {p:Prim} {bx bx':List (Nat×Box)} {rows:List (Nat×Row)} {v:TV} (hs:Prim.mkStill (some p)=true) (h:Au (C:=C) d p bx rows=some (v,bx')):
  bx'=bx/\∀rows',Au (C:=C) d p bx rows'=some (v,bx):=by
 cases p<;>simp[Prim.mkStill]at hs
 case val u=>simp only[Au,Option.some.injEq,Prod.mk.injEq]at h⊢;obtain⟨rfl,rfl⟩:=h;exact⟨rfl,fun _=>by simp⟩
 case newView e ks l=>simp only[Au,Option.some.injEq,Prod.mk.injEq]at h⊢;obtain⟨rfl,rfl⟩:=h;exact⟨rfl,fun _=>by simp⟩
 case load g sz key off=>
  simp only[Au]at h⊢
  repeat' split at h
  all_goals first|(simp at h;done)|skip
  simp at h;obtain⟨rfl,rfl⟩:=h;exact⟨rfl,fun _=>rfl⟩
 case call f args=>
  obtain⟨rfl,_⟩:=Kr h;refine⟨rfl,fun rows'=> ?_⟩;simp only[Au]at h⊢;rw[Q47 (rows:=rows') (rows':=rows) hs];exact h
 case newRow e ks l=>simp[Au]at h
 case callF f args=>simp[Au]at h
theorem Q2b {ops:List Oper} {o:Oper} {tm:List TV} {bx bx':List (Nat×Box)} {rows:List (Nat×Row)} {p:Option Prim} {v:TV} (hs:Prim.mkStill p=true) (h:CZ P C ops o tm bx rows=some (p,v,bx')):
  bx'=bx/\∀rows',CZ P C ops o tm bx rows'=some (p,v,bx):=by
 unfold CZ at h⊢;split at h
 ·cases hp:opK P C (AS tm) o.dst o.op some with
  |none=>rw[hp]at h;simp at h
  |some q=>
   rw[hp]at h;simp only[Option.bind_some]at h⊢;cases hm:Au (C:=C) o.dst (q.dr false) bx rows with
   |none=>rw[hm]at h;simp at h
   |some z=>
    rw[hm]at h;simp at h;obtain⟨rfl,rfl,rfl⟩:=h;obtain⟨e1,e2⟩:=Zxw hs hm;refine⟨e1,fun rows'=> ?_⟩;rw[e2 rows'];rfl
 ·simp at h;obtain⟨rfl,rfl,rfl⟩:=h;exact⟨rfl,fun _=>rfl⟩
 ·simp at h
theorem Zi6 {di dj:Option Tmp} {pi pj:Prim} {rows rows1 rows2:List (Nat×Row)} {vi vj:TV} (hi:mkD (C:=C) di pi rows=some (vi,rows1)) (hj:mkD (C:=C) dj pj rows1=some (vj,rows2)):
  ∃rows1',mkD (C:=C) dj pj rows=some (vj,rows1')/\mkD (C:=C) di pi rows1'=some (vi,rows2):=by
 unfold mkD at*;cases hgi:mkG (C:=C) di pi with
 |none=>rw[hgi]at hi;simp at hi
 |some qi=>
  obtain⟨v1,o1⟩:=qi;rw[hgi]at hi;cases hgj:mkG (C:=C) dj pj with
  |none=>rw[hgj]at hj;simp at hj
  |some qj=>
   obtain⟨v2,o2⟩:=qj;rw[hgj]at hj;cases o1 with
   |none=>
    simp only[Option.some.injEq,Prod.mk.injEq]at hi;obtain⟨rfl,rfl⟩:=hi;exact⟨rows2,hj,rfl⟩
   |some k1=>
    obtain⟨k,r⟩:=k1;dsimp only at hi;split at hi
    ·simp at hi
    rename_i hn;simp only[Option.some.injEq,Prod.mk.injEq]at hi;obtain⟨rfl,rfl⟩:=hi;cases o2 with
    |none=>
     simp only[Option.some.injEq,Prod.mk.injEq]at hj;obtain⟨rfl,rfl⟩:=hj;refine⟨rows,rfl,?_⟩;dsimp only;rw[hn]
    |some k2=>
     obtain⟨k',r'⟩:=k2;dsimp only at hj;split at hj
     ·simp at hj
     rename_i hn';simp only[Option.some.injEq,Prod.mk.injEq]at hj;obtain⟨rfl,rfl⟩:=hj;have hne:k'≠k:=by
      rintro rfl;rw[EA _ _ _ hn]at hn';cases hn'
     rw[Dq _ _ _ _ hne]at hn';refine⟨ins rows k' r',by dsimp only;rw[hn'],?_⟩;dsimp only;rw[Dq _ _ _ _ (fun e=>hne e.symm),hn];dsimp only;rw[Qci _ _ _ _ _ hne]
theorem Zxc (hspec:Ai P C) {ops:Array Oper} {x y:Oper} {s s1 s2:St} {px py:Option Prim} (hw:WFst s) (hy:B6 (P:=P) (C:=C) ops.toList y s=some (py,s1)) (hx:B6 (P:=P) (C:=C) ops.toList x s1=some (px,s2))
  (hap:Oper.apart ops y x=true) (hm:Prim.meet C.ro py px=false) (hao:Il y py x px=true):∃s1',B6 (P:=P) (C:=C) ops.toList x s=some (px,s1')/\B6 (P:=P) (C:=C) ops.toList y s1'=some (py,s2):=by
 obtain⟨a1,a2,a3⟩:=Oper.apart_spec hap;obtain⟨tm,bx,rows⟩:=s;have hwant:∀(o:Oper) (tm:List TV),o.guard.isNone=true->BR ops.toList o tm=some true:=by
  intro o tm h;unfold BR;rw[Option.isNone_iff_eq_none.1 h]
 have hopk:∀(o:Oper) (tm:List TV) (d:Option Tmp) (v:TV),(∀t,d=some t->t∉o.looksAt ops)->opK P C (AS (CJ tm d v)) o.dst o.op some=opK P C (AS tm) o.dst o.op some:=by
  intro o tm d v h;cases d with
  |none=>rfl
  |some t=>
   exact Tb (fun x hx => Qtr (by
    rintro rfl;exact h t rfl (List.mem_append_left _ (List.mem_filterMap.2 ⟨.tmp t,by simpa using hx,rfl⟩)))) some
 cases hny:Prim.isApp py
 case true=>
  unfold Il at hao;rw[hny]at hao;simp only[cond_true,Bool.and_eq_true]at hao;obtain⟨⟨⟨o1,o2⟩,o3⟩,o4⟩:=hao;have hnx:Prim.isApp px=false:=by simpa using o1
  obtain⟨_,q,id,vy,rows',hq,rfl,h3,h4,rfl⟩:=YU hy hny;obtain⟨vx,bx2,hcx,rfl⟩:=Kq hx hnx (Qqv o4);unfold CZ at hcx;rw[hwant x _ o3]at hcx;dsimp only at hcx;rw[hopk x _ _ _ (fun t ht=>a1 t ht)]at hcx;cases hpx:opK P C (AS (tm.map (TV.kill id))) x.dst x.op some with
  |none=>rw[hpx]at hcx;simp at hcx
  |some qx=>
   rw[hpx]at hcx;simp only[Option.bind_some]at hcx;cases hmx:Au (C:=C) x.dst (qx.dr false) (bx.map fun p=>(p.1,p.2.kill id)) rows' with
   |none=>rw[hmx]at hcx;simp at hcx
   |some zx=>
    rw[hmx]at hcx;simp at hcx;obtain⟨rfl,rfl,rfl⟩:=hcx;obtain⟨g,cs,rfl,hl⟩:=Qxc o4;simp only[Prim.dr,Au,Option.some.injEq]at hmx;subst hmx;have hpx2:=(Qqu (P:=P) (C:=C) (id:=id) (tm:=tm) (dst:=x.dst) o4).1 hpx;refine⟨⟨CJ tm x.dst (.v g cs),bx,rows⟩,Ne (by unfold CZ;rw[hwant x _ o3];dsimp only;rw[hpx2];rfl),?_⟩;rw[Qsu (hwant y _ o2) (by rw[hopk y _ _ _ (fun t ht=>a3 t ht)];exact hq) h3 h4 hny,Qr2 hl];dsimp only;rw[MY vy _ a2]
 case false=>
 cases hnx:Prim.isApp px
 case true=>
  unfold Il at hao;rw[hny,hnx]at hao;simp only[cond_true,cond_false,Bool.and_eq_true]at hao;obtain⟨⟨o2,o3⟩,o4⟩:=hao;obtain⟨vy,bx1,hcy,rfl⟩:=Kq hy hny (Qqv o4);obtain⟨_,q,id,vx,rows',hq,rfl,h3,h4,rfl⟩:=YU hx hnx;rw[hopk x _ _ _ (fun t ht=>a1 t ht)]at hq;unfold CZ at hcy;rw[hwant y _ o2]at hcy;dsimp only at hcy;cases hpy:opK P C (AS tm) y.dst y.op some with
  |none=>rw[hpy]at hcy;simp at hcy
  |some qy=>
   rw[hpy]at hcy;simp only[Option.bind_some]at hcy;cases hmy:Au (C:=C) y.dst (qy.dr false) bx rows with
   |none=>rw[hmy]at hcy;simp at hcy
   |some zy=>
    rw[hmy]at hcy;simp at hcy;obtain⟨rfl,rfl,rfl⟩:=hcy;obtain⟨g,cs,rfl,hl⟩:=Qxc o4;simp only[Prim.dr,Au,Option.some.injEq]at hmy;subst hmy;have hpy2:=(Qqu (P:=P) (C:=C) (id:=id) (tm:=tm) (dst:=y.dst) o4).2 hpy;refine⟨_,Qsu (hwant x _ o3) hq h3 h4 hnx,?_⟩;rw[Ne (p:=some (.val (.v g cs))) (v:= .v g cs) (by unfold CZ;rw[hwant y _ o2];dsimp only;rw[hopk y _ _ _ (fun t ht=>a3 t ht),hpy2];rfl)];dsimp only[Prim.dr];rw[Qr2 hl,MY vx _ (fun t ht e=>a2 t e ht)]
 case false=>
   unfold Il at hao;rw[hny,hnx]at hao;simp only[cond_false]at hao;cases hmky:Prim.isMk py
   case true=>
    rw[hmky]at hao;simp only[cond_true]at hao;obtain⟨hwy,qy,vy,rows1,hqy,rfl,hmy,rfl⟩:=Qz hy hmky;cases hmkx:Prim.isMk px
    case true=>
     obtain⟨hwx,qx,vx,rows2,hqx,rfl,hmx,rfl⟩:=Qz hx hmkx;rw[OF (fun t ht=>a1 t ht)]at hwx;rw[hopk x _ _ _ (fun t ht=>a1 t ht)]at hqx;obtain⟨rows1',m1,m2⟩:=Zi6 hmy hmx;refine⟨_,TI hwx hqx m1 hmkx,?_⟩;rw[TI (by rw[OF (fun t ht=>a3 t ht)];exact hwy) (by rw[hopk y _ _ _ (fun t ht=>a3 t ht)];exact hqy) m2 hmky,MY vy vx a2]
    case false=>
     obtain⟨vx,bx2,hcx,rfl⟩:=Kq hx hnx hmkx;rw[SV (fun t ht=>a1 t ht)]at hcx;obtain⟨rfl,hc2⟩:=Q2b hao hcx;refine⟨_,Ne (hc2 rows),?_⟩;rw[TI (by rw[OF (fun t ht=>a3 t ht)];exact hwy) (by rw[hopk y _ _ _ (fun t ht=>a3 t ht)];exact hqy) hmy hmky,MY vy vx a2]
   case false=>
   rw[hmky]at hao;simp only[cond_false]at hao;cases hmkx:Prim.isMk px
   case true=>
    rw[hmkx]at hao;simp only[cond_true]at hao;obtain⟨vy,bx1,hcy,rfl⟩:=Kq hy hny hmky;obtain⟨rfl,hc2⟩:=Q2b hao hcy;obtain⟨hwx,qx,vx,rows2,hqx,rfl,hmx,rfl⟩:=Qz hx hmkx;rw[OF (fun t ht=>a1 t ht)]at hwx;rw[hopk x _ _ _ (fun t ht=>a1 t ht)]at hqx;refine⟨_,TI hwx hqx hmx hmkx,?_⟩;rw[Ne (by rw[SV (fun t ht=>a3 t ht)];exact hc2 rows2),MY vy vx a2]
   case false=>
   obtain⟨vy,bx1,hcy,rfl⟩:=Kq hy hny hmky;obtain⟨vx,bx2,hcx,rfl⟩:=Kq hx hnx hmkx;rw[SV (fun t ht=>a1 t ht)]at hcx;have key:∃bx1',CZ P C ops.toList x tm bx rows=some (px,vx,bx1')/\CZ P C ops.toList y tm bx1' rows=some (py,vy,bx2):=by
    unfold CZ at hcy hcx⊢;split at hcy
    ·rename_i hwy;cases hpy:opK P C (AS tm) y.dst y.op some with
     |none=>rw[hpy]at hcy;simp at hcy
     |some qy=>
      rw[hpy]at hcy;simp only[Option.bind_some]at hcy;cases hmy:Au (C:=C) y.dst (qy.dr false) bx rows with
      |none=>rw[hmy]at hcy;simp at hcy
      |some zy=>
       rw[hmy]at hcy;simp at hcy;obtain⟨rfl,rfl,rfl⟩:=hcy;split at hcx
       ·rename_i hwx;cases hpx:opK P C (AS tm) x.dst x.op some with
        |none=>rw[hpx]at hcx;simp at hcx
        |some qx=>
         rw[hpx]at hcx;simp only[Option.bind_some]at hcx;cases hmx:Au (C:=C) x.dst (qx.dr false) zy.2 rows with
         |none=>rw[hmx]at hcx;simp at hcx
         |some zx=>
          rw[hmx]at hcx;simp at hcx;obtain⟨rfl,rfl,rfl⟩:=hcx;obtain⟨bx1',m1,m2⟩:=Zon hspec hmy hmx hm a2 (Qji (Qgk (fun x=>Qdo hw.t x) hpx));exact⟨bx1',by simp[m1],by simp[m2]⟩
       ·rename_i hwx;simp at hcx;obtain⟨rfl,rfl,rfl⟩:=hcx;exact⟨bx,rfl,by simp[hmy]⟩
       ·simp at hcx
    ·rename_i hwy;simp at hcy;obtain⟨rfl,rfl,rfl⟩:=hcy;exact⟨bx2,hcx,rfl⟩
    ·simp at hcy
   obtain⟨bx1',k1,k2⟩:=key;refine⟨⟨CJ tm x.dst vx,bx1',rows⟩,Ne k1,?_⟩;rw[Ne (by rw[SV (fun t ht=>a3 t ht)];exact k2),MY vy vx a2]
theorem Q3m (hspec:Ai P C) {ops:Array Oper} {m:List Nat} {x:Nat×Oper×Option Prim} {post:List (Nat×Oper×Option Prim)} {sf:St}:∀(pre:List (Nat×Oper×Option Prim)) (s:St),WFst s->P5 P C ops.toList m (pre++x::post) s sf->
  (∀y∈pre,C7 ops.toList m x.1=false/\C7 ops.toList m y.1=false/\Oper.apart ops y.2.1 x.2.1=true/\Prim.meet C.ro y.2.2 x.2.2=false/\Il y.2.1 y.2.2 x.2.1 x.2.2=true)->
  ∃s1,H5 P C ops.toList m x.1 x.2.1 s=some (x.2.2,s1)/\P5 P C ops.toList m (pre++post) s1 sf
 |[],s,hw,h,_=>by
  obtain⟨i,o,p⟩:=x;exact h
 |(j,oy,py)::pre,s,hw,h,hy=>by
  obtain⟨s',h1,h2⟩:=h;obtain⟨w1,w2,q1,q2,q3⟩:=hy (j,oy,py) (by simp);have h1':=h1;unfold H5 at h1;rw[if_neg (by dsimp only at w2;rw[w2];simp)]at h1;obtain⟨s2,h3,h4⟩:=Q3m hspec pre s' (Zsw hw h1) h2 fun y hym=>hy y (by simp[hym]);unfold H5 at h3;rw[if_neg (by rw[w1];simp)]at h3;obtain⟨s1,h5,h6⟩:=Zxc hspec hw h1 h3 q1 q2 q3;refine⟨s1,by unfold H5;rw[if_neg (by rw[w1];simp)];exact h5,s2,?_,h4⟩;unfold H5;rw[if_neg (by dsimp only at w2;rw[w2];simp)];exact h6
inductive Before (ops : List Oper) : Nat -> Nat -> Prop where
 |one {i:Nat} {o:Oper} {e:Edge} (h:ops[i]? =some o) (he:e∈o.after.toList) (hb:Region.binds .any e=true):Before ops i e.on
 |more {i j:Nat} {o:Oper} {e:Edge} (h:ops[i]? =some o) (he:e∈o.after.toList) (hb:Region.binds .any e=true) (h':Before ops e.on j):Before ops i j
theorem Qeb {m:List Nat} {j:Nat}:∀(l:List Edge) (acc:Nat),Nat.testBit (TG m l acc) j=true->Nat.testBit acc j=true\/∃e∈l,Region.binds .any e=true/\(e.on=j\/Nat.testBit (nth 0 m e.on) j=true)
 |[],acc,h=> .inl h
 |e::l,acc,h=>by
  simp only[TG]at h;cases hb:Region.binds .any e<;>rw[hb]at h
  ·rcases Qeb l _ h with h|⟨e',he,h'⟩
   ·exact .inl h
   ·exact .inr ⟨e',by simp[he],h'⟩
  ·rcases Qeb l _ h with h|⟨e',he,h'⟩
   ·simp only[cond_true]at h;have:Nat.testBit (acc|||(2^e.on|||nth 0 m e.on)) j=true:=h;rw[Nat.testBit_or,Nat.testBit_or]at this;rw[Bool.or_eq_true,Bool.or_eq_true]at this;rcases this with h|h|h
    ·exact .inl h
    ·refine .inr ⟨e,by simp,hb, .inl ?_⟩;rw[Nat.testBit_two_pow]at h;simpa using h
    ·exact .inr ⟨e,by simp,hb, .inr h⟩
   ·exact .inr ⟨e',by simp[he],h'⟩
theorem Zjr {α:Type} (n:Nat) (K:Nat->α):Qpj n K=K n:=by cases n<;>rfl
theorem Qva {α:Type} (d:α):∀(l l':List α) (i:Nat),i<l.length->nth d (l++l') i=nth d l i
 |x::l,l',0,_=>rfl
 |x::l,l',i+1,h=>Qva d l l' i (by simpa using h)
theorem Qv5 {α:Type} (d x:α):∀(l:List α),nth d (l++[x]) l.length=x
 |[]=>rfl
 |y::l=>Qv5 d x l
theorem Qcj {α:Type} (d:α):∀(l:List α) (i:Nat),l.length<=i->nth d l i=d
 |[],_,_=>rfl
 |x::l,0,h=>by simp at h
 |x::l,i+1,h=>Qcj d l i (by simpa using h)
theorem Qwz {ops:List Oper} {K:List Nat->Option R} {r:R}:∀(l pre:List Oper) (m:List Nat),ops=pre++l->m.length=pre.length->(∀i j,i<m.length->Nat.testBit (nth 0 m i) j=true->Before ops i j)->QK l m K=some r->
  ∃m',K m'=some r/\∀i j,LF m' i j=true->Before ops i j
 |[],pre,m,he,hl,hm,h=>⟨m,h,fun i j hij=>by
   by_cases hi:i<m.length
   ·exact hm i j hi hij
   ·unfold LF at hij;rw[Qcj 0 m i (by omega)]at hij;simp at hij⟩
 |o::l,pre,m,he,hl,hm,h=>by
  simp only[QK,Zjr,A0]at h;refine Qwz l (pre++[o]) _ (by simp[he]) (by simp[hl]) (fun i j hi hij=> ?_) h;by_cases hi':i<m.length
  ·rw[Qva 0 m _ i hi']at hij;exact hm i j hi' hij
  ·have hie:i=m.length:=by simp at hi;omega
   subst hie;rw[Qv5]at hij;have hoi:ops[m.length]? =some o:=by rw[he,hl];simp
   rcases Qeb _ _ hij with h0|⟨e,hel,hb,h0⟩
   ·simp at h0
   ·rcases h0 with h0|h0
    ·rw[<-h0];exact .one hoi hel hb
    ·by_cases hlt:e.on<m.length
     ·exact .more hoi hel hb (hm _ _ hlt h0)
     ·rw[Qcj 0 m _ (by omega)]at h0;simp at h0
end
end Go.Bm
