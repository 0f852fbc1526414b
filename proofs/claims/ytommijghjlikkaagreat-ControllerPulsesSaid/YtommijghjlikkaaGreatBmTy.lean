/- the abstract machine -/
import Derived.Test.YtommijghjlikkaaGreatBmDraw
import Derived.Orders
import Derived.Test.YtommijghjlikkaaGreatBmFz
import Derived.ProofKit
import Derived.Below
import Derived.OpenShut
import Derived.ChangeSame
import Derived.Deep.Slices
set_option linter.unusedVariables false
set_option linter.unusedSimpArgs false
namespace Go.Bm
open Go.RowKit
section
variable {P:Program} {C:Cfg} {w:World} {R:Type} {Z:Base}
theorem TW {ev ev':Operand->TV}:∀(l:List Operand),(∀x∈l,ev x=ev' x)->Cu ev l=Cu ev' l
 |[],_=>rfl
 |x::l,h=>by simp only[Cu];rw[h x (by simp),TW l fun y hy=>h y (by simp[hy])]
theorem Qab {ev ev':Operand->TV}:∀(l:List (Nat×Operand)),(∀p∈l,ev p.2=ev' p.2)->FK ev l=FK ev' l
 |[],_=>rfl
 |x::l,h=>by simp only[FK];rw[h x (by simp),Qab l fun y hy=>h y (by simp[hy])]
theorem Q1b {ev ev':Operand->TV} (o:Option Operand) (h:∀x,o=some x->ev x=ev' x):J8 ev o=J8 ev' o:=by
 cases o with
 |none=>rfl
 |some x=>simp only[J8];rw[h x rfl]
theorem Tb {ev ev':Operand->TV} {dst:Option Tmp} {o:Op} (h:∀x∈o.operands,ev x=ev' x) (K:Prim->Option R):opK P C ev dst o K=opK P C ev' dst o K:=by
 cases o<;>simp only[Op.operands]at h<;>simp only[opK]
 case move x=>rw[h x (by simp)]
 case assign x=>rw[h x (by simp)]
 case pick c a b=>rw[h c (by simp),h a (by simp),h b (by simp)]
 case box t x=>rw[h x (by simp)]
 case build t parts=>rw[Qab parts.toList fun p hp=>h p.2 (by simp;exact⟨p.1,by simpa using hp⟩)]
 case buildSlice t n parts=>rw[Qab parts.toList fun p hp=>h p.2 (by simp;exact⟨p.1,by simpa using hp⟩)]
 case makeSlice t a b=>rw[h a (by simp),h b (by simp)]
 case makeFunc fn a b=>
  rw[TW a.toList fun x hx=>h x (by simp at hx⊢;exact .inl hx),TW b.toList fun x hx=>h x (by simp at hx⊢;exact .inr hx)]
 case load t a=>rw[h a (by simp)]
 case store t a x=>rw[h a (by simp),h x (by simp)]
 case nilCheck x=>rw[h x (by simp)]
 case binOp op t x y _=>rw[h x (by simp),h y (by simp)]
 case unOp op t x=>rw[h x (by simp)]
 case convert s d x=>rw[h x (by simp)]
 case fieldAddr t x i=>rw[h x (by simp)]
 case field t x i=>rw[h x (by simp)]
 case indexAddr t x ix=>rw[h x (by simp),h ix (by simp)]
 case index t x ix=>rw[h x (by simp),h ix (by simp)]
 case slice t x lo hi mx=>
  rw[h x (by simp),Q1b lo fun y hy=>h y (by simp[hy]),Q1b hi fun y hy=>h y (by simp[hy])]
 case extract t i=>rw[h t (by simp)]
 case call c=>
  have hc:∀t,c.callee= .value (.tmp t)->ev (.tmp t)=ev' (.tmp t):=fun t ht=>h _ (by simp only[Call.operands,ht];exact Array.mem_append.2 (.inl (by simp)));have ha:Cu ev c.args.toList=Cu ev' c.args.toList:=TW _ fun x hx=>h x (by simp only[Call.operands];exact Array.mem_append.2 (.inr (by simpa using hx)));rw[ha];split
  ·rfl
  ·rfl
  ·rename_i t ht;rw[hc t ht]
  ·rfl
theorem Q2h {tm:List TV} {d:Nat} {v:TV} {x:Operand} (h:x≠ .tmp d):AY (setL tm d v) x=AY tm x:=by
 cases x with
 |tmp t=>
  have hne:d≠t:=fun e=>h (by rw[e]);simp only[AY,BR,List.getD,H3,List.getElem?_set,if_neg hne]
 |_=>rfl
def CK (tm:List TV) (d:Option Tmp) (v:TV):List TV:=
 match d with
 |none=>tm
 |some t=>setL tm t v
theorem Ks (tm:List TV) (bx:List (Nat×Box)) (aC:List (Nat×Row)) (d:Option Tmp) (v:TV):R8 ⟨tm,bx,aC⟩ d v=⟨CK tm d v,bx,aC⟩:=by cases d<;>rfl
theorem Mu {tm:List TV} {d e:Option Tmp} (v u:TV) (h:∀t,d=some t->e≠some t):CK (CK tm d v) e u=CK (CK tm e u) d v:=by
 cases d with
 |none=>rfl
 |some t=>
  cases e with
  |none=>rfl
  |some q=>
   have hne:t≠q:=fun x=>h t rfl (by rw[x]);simp only[CK,H3];exact List.set_comm _ _ hne
def C3 (P:Program) (C:Cfg) (ops:List Oper) (o:Oper) (tm:List TV) (bx:List (Nat×Box)) (aC:List (Nat×Row)):Option (Option Prim×TV×List (Nat×Box)):=
 match BQ ops o tm with
 |some true=>(opK P C (AY tm) o.dst o.op some).bind fun p=>(Av (C:=C) o.dst (p.dr false) bx aC).bind fun q=>some (some (p.dr false),q.1,q.2)
 |some false=>some (none, .tup [],bx)
 |none=>none
theorem Z5h {d:Option Tmp} {p:Prim} {bx:List (Nat×Box)} {aC:List (Nat×Row)} (h:Prim.isApp (some p)=true):Av (C:=C) d p bx aC=none:=by
 cases p<;>simp[Prim.isApp]at h
 rfl
theorem Z6r {d:Option Tmp} {p:Prim} {bx:List (Nat×Box)} {aC:List (Nat×Row)} (h:Prim.isMk (some p)=true):Av (C:=C) d p bx aC=none:=by
 cases p<;>simp[Prim.isMk]at h<;>rfl
theorem Zw8 {ops:List Oper} {o:Oper} {tm:List TV} {bx bx':List (Nat×Box)} {aC:List (Nat×Row)} {p:Option Prim} {v:TV} (h:C3 P C ops o tm bx aC=some (p,v,bx')):Prim.isMk p=false:=by
 unfold C3 at h;split at h
 ·cases hp:opK P C (AY tm) o.dst o.op some with
  |none=>rw[hp]at h;simp at h
  |some q=>
   rw[hp]at h;simp only[Option.bind_some]at h;cases hq:Prim.isMk (some (q.dr false))with
   |true=>rw[Z6r hq]at h;simp at h
   |false=>
    cases hm:Av (C:=C) o.dst (q.dr false) bx aC with
    |none=>rw[hm]at h;simp at h
    |some z=>rw[hm]at h;simp at h;rw[<-h.1];exact hq
 ·simp at h;rw[<-h.1];rfl
 ·simp at h
theorem Zo4 {ops:List Oper} {o:Oper} {tm:List TV} {bx bx':List (Nat×Box)} {aC:List (Nat×Row)} {p:Option Prim} {v:TV} (h:C3 P C ops o tm bx aC=some (p,v,bx')):Prim.isApp p=false:=by
 unfold C3 at h;split at h
 ·cases hp:opK P C (AY tm) o.dst o.op some with
  |none=>rw[hp]at h;simp at h
  |some q=>
   rw[hp]at h;simp only[Option.bind_some]at h;cases hq:Prim.isApp (some (q.dr false))with
   |true=>rw[Z5h hq]at h;simp at h
   |false=>
    cases hm:Av (C:=C) o.dst (q.dr false) bx aC with
    |none=>rw[hm]at h;simp at h
    |some z=>rw[hm]at h;simp at h;rw[<-h.1];exact hq
 ·simp at h;rw[<-h.1];rfl
 ·simp at h
theorem Nr {ops:List Oper} {o:Oper} {tm:List TV} {bx bx':List (Nat×Box)} {aC:List (Nat×Row)} {p:Option Prim} {v:TV} (h:C3 P C ops o tm bx aC=some (p,v,bx')):
  B7 (P:=P) (C:=C) ops o ⟨tm,bx,aC⟩=some (p,⟨CK tm o.dst v,bx',aC⟩):=by
 have hna:=Zo4 h;have hnm:=Zw8 h;unfold C3 at h;unfold B7;dsimp only;cases hw:BQ ops o tm with
 |none=>rw[hw]at h;simp at h
 |some b=>
  cases b
  ·rw[hw]at h;simp at h;obtain⟨rfl,rfl,rfl⟩:=h;simp only[Ks]
  ·rw[hw]at h;dsimp only at h⊢;cases hp:opK P C (AY tm) o.dst o.op some with
   |none=>rw[hp]at h;simp at h
   |some q=>
    rw[hp]at h;simp only[Option.bind_some]at h⊢;cases hm:Av (C:=C) o.dst (q.dr false) bx aC with
    |none=>rw[hm]at h;simp at h
    |some z=>
     rw[hm]at h;simp at h;obtain⟨rfl,rfl,rfl⟩:=h;unfold EI;rw[hna,hnm];simp only[cond_false,hm,Option.map_some,Option.bind_some,Ks]
theorem KX {ops:List Oper} {o:Oper} {tm:List TV} {bx:List (Nat×Box)} {aC:List (Nat×Row)} {p:Option Prim} {s':St} (h:B7 (P:=P) (C:=C) ops o ⟨tm,bx,aC⟩=some (p,s')) (hn:Prim.isApp p=false) (hnm:Prim.isMk p=false):
  ∃v bx',C3 P C ops o tm bx aC=some (p,v,bx')/\s'=⟨CK tm o.dst v,bx',aC⟩:=by
 unfold B7 at h;unfold C3;dsimp only at h;cases hw:BQ ops o tm with
 |none=>rw[hw]at h;simp at h
 |some b=>
  cases b
  ·rw[hw]at h;simp at h;obtain⟨rfl,rfl⟩:=h;exact⟨_,_,rfl,by rw[Ks]⟩
  ·rw[hw]at h;dsimp only at h⊢;cases hp:opK P C (AY tm) o.dst o.op some with
   |none=>rw[hp]at h;simp at h
   |some q=>
    rw[hp]at h;simp only[Option.bind_some]at h⊢;cases hm:EI (C:=C) o.dst (q.dr false) ⟨tm,bx,aC⟩with
    |none=>rw[hm]at h;simp at h
    |some z=>
     rw[hm]at h;simp at h;obtain⟨rfl,rfl⟩:=h;unfold EI at hm;rw[hn,hnm]at hm;simp only[cond_false,Option.map_eq_some_iff]at hm;obtain⟨y,hy,rfl⟩:=hm;rw[hy];exact⟨_,_,rfl,by rw[Ks]⟩
theorem Qiu {ops:List Oper} {o:Oper} {tm:List TV} {bx:List (Nat×Box)} {aC:List (Nat×Row)} {p:Option Prim} {s':St} (h:B7 (P:=P) (C:=C) ops o ⟨tm,bx,aC⟩=some (p,s')) (hn:Prim.isApp p=true):
  BQ ops o tm=some true/\∃q id v rows',opK P C (AY tm) o.dst o.op some=some q/\p=some (q.dr false)/\J_ o.dst (q.dr false)=some id/\JI o.dst aC (q.dr false)=some (v,rows')/\s'=⟨CK (tm.map (TV.kill id)) o.dst v,bx.map fun p=>(p.1,p.2.kill id),rows'⟩:=by
 unfold B7 at h;dsimp only at h;cases hw:BQ ops o tm with
 |none=>rw[hw]at h;simp at h
 |some b=>
  cases b
  ·rw[hw]at h;simp at h;obtain⟨rfl,rfl⟩:=h;simp[Prim.isApp]at hn
  ·rw[hw]at h;refine⟨rfl,?_⟩;dsimp only at h;cases hp:opK P C (AY tm) o.dst o.op some with
   |none=>rw[hp]at h;simp at h
   |some q=>
    rw[hp]at h;simp only[Option.bind_some]at h;cases hm:EI (C:=C) o.dst (q.dr false) ⟨tm,bx,aC⟩with
    |none=>rw[hm]at h;simp at h
    |some z=>
     rw[hm]at h;simp at h;obtain⟨rfl,rfl⟩:=h;unfold EI at hm;rw[hn]at hm;simp only[cond_true]at hm;split at hm
     ·rename_i id hid;simp only[Option.map_eq_some_iff]at hm;obtain⟨⟨y1,y2⟩,hy,rfl⟩:=hm;exact⟨q,id,y1,y2,rfl,rfl,hid,hy,by unfold Qg0;rw[Ks]⟩
     ·simp at hm
theorem Qss {ops:List Oper} {o:Oper} {tm:List TV} {bx:List (Nat×Box)} {aC rows':List (Nat×Row)} {q:Prim} {id:Nat} {v:TV} (h1:BQ ops o tm=some true) (h2:opK P C (AY tm) o.dst o.op some=some q)
  (h3:J_ o.dst (q.dr false)=some id) (h4:JI o.dst aC (q.dr false)=some (v,rows')) (h5:Prim.isApp (some (q.dr false))=true):
  B7 (P:=P) (C:=C) ops o ⟨tm,bx,aC⟩=some (some (q.dr false),⟨CK (tm.map (TV.kill id)) o.dst v,bx.map fun p=>(p.1,p.2.kill id),rows'⟩):=by
 unfold B7;dsimp only;rw[h1,h2];simp only[Option.bind_some];unfold EI;rw[h5];simp only[cond_true,h3,h4,Option.map_some,Option.bind_some,Qg0,Ks]
theorem Ra {ops:List Oper} {o:Oper} {tm:List TV} {bx:List (Nat×Box)} {aC:List (Nat×Row)} {p:Option Prim} {s':St} (h:B7 (P:=P) (C:=C) ops o ⟨tm,bx,aC⟩=some (p,s')) (hn:Prim.isMk p=true):
  BQ ops o tm=some true/\∃q v rows',opK P C (AY tm) o.dst o.op some=some q/\p=some (q.dr false)/\mkD (C:=C) o.dst (q.dr false) aC=some (v,rows')/\s'=⟨CK tm o.dst v,bx,rows'⟩:=by
 unfold B7 at h;dsimp only at h;cases hw:BQ ops o tm with
 |none=>rw[hw]at h;simp at h
 |some b=>
  cases b
  ·rw[hw]at h;simp at h;obtain⟨rfl,rfl⟩:=h;simp[Prim.isMk]at hn
  ·rw[hw]at h;refine⟨rfl,?_⟩;dsimp only at h;cases hp:opK P C (AY tm) o.dst o.op some with
   |none=>rw[hp]at h;simp at h
   |some q=>
    rw[hp]at h;simp only[Option.bind_some]at h;cases hm:EI (C:=C) o.dst (q.dr false) ⟨tm,bx,aC⟩with
    |none=>rw[hm]at h;simp at h
    |some z=>
     rw[hm]at h;simp at h;obtain⟨rfl,rfl⟩:=h;have hna:Prim.isApp (some (q.dr false))=false:=by
      generalize q.dr false=q' at hn⊢;cases q'<;>simp[Prim.isMk]at hn<;>rfl
     unfold EI at hm;rw[hna,hn]at hm;simp only[cond_false,cond_true,Option.map_eq_some_iff]at hm;obtain⟨⟨y1,y2⟩,hy,rfl⟩:=hm;exact⟨q,y1,y2,rfl,rfl,hy,by rw[Ks]⟩
theorem Q9 {ops:List Oper} {o:Oper} {tm:List TV} {bx:List (Nat×Box)} {aC rows':List (Nat×Row)} {q:Prim} {v:TV} (h1:BQ ops o tm=some true) (h2:opK P C (AY tm) o.dst o.op some=some q)
  (h4:mkD (C:=C) o.dst (q.dr false) aC=some (v,rows')) (h5:Prim.isMk (some (q.dr false))=true):
  B7 (P:=P) (C:=C) ops o ⟨tm,bx,aC⟩=some (some (q.dr false),⟨CK tm o.dst v,bx,rows'⟩):=by
 have hna:Prim.isApp (some (q.dr false))=false:=by
  generalize q.dr false=q' at h5⊢;cases q'<;>simp[Prim.isMk]at h5<;>rfl
 unfold B7;dsimp only;rw[h1,h2];simp only[Option.bind_some];unfold EI;rw[hna,h5];simp only[cond_true,cond_false,h4,Option.map_some,Option.bind_some,Ks]
theorem Zq6 {id:Nat} {a:AC} (h:a.live=true):a.kill id=a:=by cases a<;>simp[AC.live]at h<;>rfl
theorem Zr1 {id:Nat} {a:AC} (h:(a.kill id).live=true):a.kill id=a:=by
 cases a<;>simp only[AC.kill]at h⊢<;>try rfl
 all_goals
  rename_i j b c;cases hb:Nat.beq j id<;>rw[hb]at h
  ·rfl
  ·simp[AC.live]at h
theorem Z5 {id:Nat}:∀{l:List AC},Ak AC.live l=true->l.map (AC.kill id)=l
 |[],_=>rfl
 |a::l,h=>by
  rw[Ax]at h;simp only[List.map_cons];rw[Zq6 (h a (by simp)),Z5 (Ax.2 fun x hx=>h x (by simp[hx]))]
theorem Q3l {id:Nat}:∀{l:List AC},Ak AC.live (l.map (AC.kill id))=true->l.map (AC.kill id)=l
 |[],_=>rfl
 |a::l,h=>by
  rw[Ax]at h;simp only[List.map_cons]at h⊢;rw[Zr1 (h _ (by simp)),Q3l (Ax.2 fun x hx=>h x (by simp[hx]))]
theorem Qnn (id:Nat):∀(tm:List TV) (t:Nat),nth .dead (tm.map (TV.kill id)) t=(nth .dead tm t).kill id
 |[],_=>rfl
 |_::_,0=>rfl
 |_::tm,t+1=>Qnn id tm t
theorem YS {id:Nat} {tm:List TV} {x:Operand} {g:Bool} {cs:List AC} (h:AY tm x= .v g cs) (hl:Ak AC.live cs=true):AY (tm.map (TV.kill id)) x= .v g cs:=by
 cases x<;>try exact h
 simp only[AY]at h⊢;rw[Qnn,h];simp only[TV.kill];rw[Z5 hl]
theorem YY {id:Nat} {tm:List TV} {x:Operand} {g:Bool} {cs:List AC} (h:AY (tm.map (TV.kill id)) x= .v g cs) (hl:Ak AC.live cs=true):AY tm x= .v g cs:=by
 cases x<;>try exact h
 simp only[AY]at h⊢;rw[Qnn]at h;cases ht:nth TV.dead tm (by assumption)with
 |dead=>rw[ht]at h;simp[TV.kill]at h
 |tup ps=>rw[ht]at h;simp[TV.kill]at h
 |v g' cs'=>
  rw[ht]at h;simp only[TV.kill,TV.v.injEq]at h;obtain⟨rfl,rfl⟩:=h;rw[Q3l hl]
theorem Qcu {q:Prim} (h:Prim.isPtr (some (q.dr false))=true):∃k o,q= .val (.v false [.ptr k o]):=by
 cases q<;>simp only[Prim.dr,Prim.isPtr]at h<;>try (simp at h;done)
 case callM f args=>cases hb:Ak TV.plainB args<;>simp[hb]at h
 rename_i v;split at h
 ·rename_i h';simp at h';exact⟨_,_,by rw[h']⟩
 ·simp at h
theorem Q6r {q:Prim} (h:Prim.isLive (some (q.dr false))=true):∃g cs,q= .val (.v g cs)/\Ak AC.live cs=true:=by
 cases q<;>simp only[Prim.dr,Prim.isLive]at h<;>try (simp at h;done)
 case callM f args=>cases hb:Ak TV.plainB args<;>simp[hb]at h
 rename_i v;cases v<;>simp at h
 exact⟨_,_,rfl,h⟩
theorem Qwb {id:Nat} {tm:List TV} {dst:Option Tmp} {o:Op} {q:Prim} (hs:Prim.still o (some (q.dr false))=true):
  opK P C (AY (tm.map (TV.kill id))) dst o some=some q↔opK P C (AY tm) dst o some=some q:=by
 cases o<;>simp[Prim.still]at hs
 case move x=>
  obtain⟨g,cs,rfl,hs⟩:=Q6r hs;simp only[opK,Option.some.injEq,Prim.val.injEq];exact⟨fun h=>YY h hs,fun h=>YS h hs⟩
 case nilCheck x=>
  obtain⟨k,o,rfl⟩:=Qcu hs;have hl:Ak AC.live [AC.ptr k o]=true:=rfl;have key:∀ev:Operand->TV,opK P C ev dst (.nilCheck x) some=some (.val (.v false [.ptr k o]))↔ev x= .v false [.ptr k o]:=by
   intro ev;simp only[opK];split
   ·rename_i k' o' h;rw[h];simp[TV.c]
   ·rename_i h;rw[h];simp[TV.c]
   ·rename_i h;rw[h];simp[TV.c]
   ·rename_i h1 h2 h3;constructor
    ·intro h;simp at h
    ·intro h;exact(h1 _ _ h).elim
  rw[key,key];exact⟨fun h=>YY h hl,fun h=>YS h hl⟩
 case fieldAddr t x i=>
  obtain⟨k,o,rfl⟩:=Qcu hs;have key:∀ev:Operand->TV,opK P C ev dst (.fieldAddr t x i) some=some (.val (.v false [.ptr k o]))->∃k' o',ev x= .v false [.ptr k' o']:=by
   intro ev h;simp only[opK]at h
   repeat' split at h
   all_goals first|(simp at h;done)|(simp[TV.c]at h;done)|exact⟨_,_,by assumption⟩
  constructor
  ·intro h;obtain⟨k',o',e⟩:=key _ h;have e2:=YY e rfl;rw[<-h];refine Tb (fun y hy=> ?_) some;simp only[Op.operands]at hy;simp at hy;subst hy;rw[e,e2]
  ·intro h;obtain⟨k',o',e⟩:=key _ h;have e2:=YS (id:=id) e rfl;rw[<-h];refine Tb (fun y hy=> ?_) some;simp only[Op.operands]at hy;simp at hy;subst hy;rw[e,e2]
theorem Q4s {o:Op} {q:Prim} (hs:Prim.still o (some (q.dr false))=true):∃g cs,q= .val (.v g cs)/\Ak AC.live cs=true:=by
 cases o<;>simp[Prim.still]at hs
 case move x=>exact Q6r hs
 all_goals
  obtain⟨k,o,rfl⟩:=Qcu hs;exact⟨_,_,rfl,rfl⟩
theorem Qun {id:Nat} {tm:List TV} {d:Option Tmp} {g:Bool} {cs:List AC} (h:Ak AC.live cs=true):(CK tm d (.v g cs)).map (TV.kill id)=CK (tm.map (TV.kill id)) d (.v g cs):=by
 cases d with
 |none=>rfl
 |some t=>
  simp only[CK,H3,List.map_set,TV.kill];rw[Z5 h]
theorem PR {ops:Array Oper} {o:Oper} {tm:List TV} {d:Option Tmp} {v:TV} (h:∀t,d=some t->t∉o.looksAt ops):BQ ops.toList o (CK tm d v)=BQ ops.toList o tm:=by
 cases d with
 |none=>rfl
 |some t=>
  have hh:=h t rfl;unfold BQ;cases hg:o.guard with
  |none=>rfl
  |some jw=>
   obtain⟨j,want⟩:=jw;dsimp only;cases hj:ops.toList[j]? with
   |none=>rfl
   |some oj=>
    dsimp only;cases ht:oj.dst with
    |none=>rfl
    |some q=>
     dsimp only;have hj':ops[j]? =some oj:=by simpa using hj
     have hne:t≠q:=by
      rintro rfl;exact hh (by simp[Oper.looksAt,hg,hj',ht])
     have:nth .dead (CK tm (some t) v) q=nth .dead tm q:=by
      simp only[CK,BR,List.getD,H3,List.getElem?_set,if_neg hne]
     rw[this]
theorem Ru {ops:Array Oper} {o:Oper} {tm:List TV} {bx:List (Nat×Box)} {aC:List (Nat×Row)} {d:Option Tmp} {v:TV} (h:∀t,d=some t->t∉o.looksAt ops):
  C3 P C ops.toList o (CK tm d v) bx aC=C3 P C ops.toList o tm bx aC:=by
 unfold C3;rw[PR h];cases d with
 |none=>rfl
 |some t=>
  have hh:=h t rfl;rw [show opK P C (AY (CK tm (some t) v)) o.dst o.op some = opK P C (AY tm) o.dst o.op some from Tb (fun x hx => Q2h (by
   rintro rfl;exact hh (List.mem_append_left _ (List.mem_filterMap.2 ⟨.tmp t,by simpa using hx,rfl⟩)))) some]
theorem Ju {a b:Nat} (h:a≠b):Nat.beq a b=false:=Kr h
theorem Qpc {α:Type}:∀(l:List (Nat×α)) (k j:Nat) (x y:α),k≠j->upd (upd l k x) j y=upd (upd l j y) k x
 |[],_,_,_,_,_=>rfl
 |(i,b)::l,k,j,x,y,h=>by
  by_cases h1:i=k
  ·subst h1;simp only[upd,Nat.beq_refl,cond_true,Ju h,cond_false]
  ·by_cases h2:i=j
   ·subst h2;simp only[upd,Nat.beq_refl,cond_true,Ju h1,cond_false]
   ·simp only[upd,Ju h1,Ju h2,cond_false];rw[Qpc l k j x y h]
theorem G6 {a b:Nat} (h:a<b):Nat.blt a b=true:=by simpa using h
theorem Hb {a b:Nat} (h: ¬a<b):Nat.blt a b=false:=by
 cases hb:Nat.blt a b
 ·rfl
 ·simp at hb;omega
theorem Qnq {α:Type}:∀(l:List (Nat×α)) (k j:Nat) (x y:α),k≠j->ins (ins l k x) j y=ins (ins l j y) k x
 |[],k,j,x,y,h=>by
  by_cases h1:j<k
  ·simp only[ins,G6 h1,cond_true,Hb (show¬k<j by omega),cond_false]
  ·simp only[ins,Hb h1,cond_false,G6 (show k<j by omega),cond_true]
 |(i,b)::l,k,j,x,y,h=>by
  by_cases h1:k<i<;>by_cases h2:j<i
  ·by_cases h3:j<k
   ·simp only[ins,G6 h1,G6 h2,G6 h3,Hb (show¬k<j by omega),cond_true,cond_false]
   ·simp only[ins,G6 h1,G6 h2,Hb h3,G6 (show k<j by omega),cond_true,cond_false]
  ·simp only[ins,G6 h1,Hb h2,Hb (show¬j<k by omega),cond_true,cond_false]
  ·simp only[ins,Hb h1,G6 h2,Hb (show¬k<j by omega),cond_true,cond_false]
  ·simp only[ins,Hb h1,Hb h2,cond_false];rw[Qnq l k j x y h]
theorem RJ {α:Type}:∀(l:List (Nat×α)) (k j:Nat) (x y:α),k≠j->upd (ins l k x) j y=ins (upd l j y) k x
 |[],k,j,x,y,h=>by simp only[ins,upd,Ju h,cond_false]
 |(i,b)::l,k,j,x,y,h=>by
  by_cases h1:k<i<;>by_cases h2:i=j
  ·subst h2;simp only[ins,upd,G6 h1,Ju h,Nat.beq_refl,cond_true,cond_false]
  ·simp only[ins,upd,G6 h1,Ju h,Ju h2,cond_true,cond_false]
  ·subst h2;simp only[ins,upd,Hb h1,Nat.beq_refl,cond_true,cond_false]
  ·simp only[ins,upd,Hb h1,Ju h2,cond_false];rw[RJ l k j x y h]
theorem LR {d:Option Tmp} {f:FuncId} {args:List TV} {bx bx':List (Nat×Box)} {aC:List (Nat×Row)} {v:TV} (h:Av (C:=C) d (.call f args) bx aC=some (v,bx')):
  bx'=bx/\∀(d2:Option Tmp) (bx2:List (Nat×Box)),Av (C:=C) d2 (.call f args) bx2 aC=some (v,bx2):=by
 simp only[Av]at h⊢;cases h1:C.spec f with
 |none=>rw[h1]at h;simp at h
 |some g=>
  rw[h1]at h;dsimp only at h⊢;cases h2:G3 aC args with
  |none=>rw[h2]at h;simp at h
  |some l=>
   rw[h2]at h;dsimp only at h⊢;cases h3:g (TV×Mem) l ⟨[],[]⟩ (fun v m=>some (v,m))with
   |none=>rw[h3]at h;simp at h
   |some q=>
    rw[h3]at h;obtain⟨u,⟨mb,mr⟩⟩:=q;cases mb with
    |cons _ _=>simp at h
    |nil=>
     cases mr with
     |cons _ _=>simp at h
     |nil=>
      dsimp only at h⊢;split at h
      ·rename_i hc;simp at h;obtain⟨rfl,rfl⟩:=h;refine⟨rfl,fun _ _=> ?_⟩;rw[if_pos hc]
      ·simp at h
theorem OX {d:Option Tmp} {g:Bool} {sz id idx sub:Nat} {bx bx1:List (Nat×Box)} {aC:List (Nat×Row)} {v:TV} (h:Av (C:=C) d (.rload g sz id idx sub) bx aC=some (v,bx1)):
  bx1=bx/\∀(d':Option Tmp) (b':List (Nat×Box)),Av (C:=C) d' (.rload g sz id idx sub) b' aC=some (v,b'):=by
 simp only[Av]at h⊢
 repeat' split at h
 all_goals first|(simp at h;done)|skip
 simp at h;obtain⟨rfl,rfl⟩:=h;exact⟨rfl,fun _ _=>rfl⟩
theorem Qz3 {n k:Nat}:∀{l:List Nat},k∈Qg n l↔k=n\/k∈l
 |[]=>by simp[Qg]
 |m::l=>by
  simp only[Qg];cases hb:Nat.beq m n
  ·simp only[cond_false,List.mem_cons,Qz3 (l:=l)];constructor
   ·rintro(h|h|h)<;>simp[h]
   ·rintro(h|h|h)<;>simp[h]
  ·have:=Nat.eq_of_beq_eq_true hb;subst this;simp only[cond_true,List.mem_cons];constructor
   ·rintro(h|h)<;>simp[h]
   ·rintro(h|h|h)<;>simp[h]
theorem Qza {k:Nat}:∀{ns l:List Nat},k∈AZ ns l↔k∈ns\/k∈l
 |[],l=>by simp[AZ]
 |n::ns,l=>by
  simp only[AZ,Qza (ns:=ns),Qz3,List.mem_cons];constructor
  ·rintro(h|h|h)<;>simp[h]
  ·rintro((h|h)|h)<;>simp[h]
theorem Tl {α β:Type} {g:α->List β} {x:β}:∀{l:List α},x∈cat g l↔∃a∈l,x∈g a
 |[]=>by simp[cat]
 |a::l=>by simp[cat,Tl (l:=l)]
theorem R3 {k:Nat}:∀{l:List AC},k∈AC.keys.keysL l->∃o,AC.ptr k o∈l
 |[],h=>by simp[AC.keys.keysL]at h
 |a::l,h=>by
  cases a
  case ptr j o=>
   simp only[AC.keys.keysL,List.mem_cons]at h;rcases h with rfl|h
   ·exact⟨o,by simp⟩
   ·obtain⟨o',h'⟩:=R3 h;exact⟨o',by simp[h']⟩
  all_goals
   simp only[AC.keys.keysL]at h;obtain⟨o',h'⟩:=R3 h;exact⟨o',by simp[h']⟩
theorem Ztz {bx:List (Nat×Box)} {aC:List (Nat×Row)} {args:List TV} (h:∀v∈args,TV.wf bx aC v) {k:Nat} (hk:k∈AZ (cat AC.keys (cat TV.cellsOf args)) []):∃b,Ab bx k=some b:=by
 simp only[Qza,List.not_mem_nil,or_false]at hk;obtain⟨a,ha,hka⟩:=Tl.1 hk;obtain⟨v,hv,hav⟩:=Tl.1 ha;have hw:=h v hv;have haw:AC.wf bx aC a:=by
  cases v with
  |dead=>simp[TV.cellsOf]at hav
  |v g cs=>exact hw a hav
  |tup ps=>
   simp only[TV.cellsOf]at hav;obtain⟨p,hp,hap⟩:=Tl.1 hav;exact hw p hp a hap
 cases a
 case ptr j o=>simp[AC.keys]at hka;subst hka;exact haw
 case bsl j o=>simp[AC.keys]at hka;subst hka;exact haw
 case clo f fs cs=>
  simp only[AC.keys,List.mem_append]at hka;rcases hka with hka|hka
  ·obtain⟨o,ho⟩:=R3 hka;exact haw.1 _ ho
  ·obtain⟨o,ho⟩:=R3 hka;exact haw.2 _ ho
 all_goals simp[AC.keys]at hka
theorem Q3p {bx bx':List (Nat×Box)} {rk ri:Nat->Nat}:∀(keys:List Nat) (b:Nat),(∀k∈keys,Ab bx' k=Ab bx k)->Di bx' rk ri b keys=Di bx rk ri b keys
 |[],_,_=>rfl
 |k::keys,b,h=>by
  simp only[Di];rw[h k (by simp),Q3p keys (b+1) fun j hj=>h j (by simp[hj])]
theorem Zap {α:Type} {p q:α->Bool}:∀{l:List α},(∀x∈l,p x=q x)->Ak p l=Ak q l
 |[],_=>rfl
 |a::l,h=>by simp only[Ak];rw[h a (by simp),Zap (l:=l) fun x hx=>h x (by simp[hx])]
theorem KO {keys:List Nat}:∀(m:List (Nat×Box)) (l:List (Nat×Box)) (n:Nat),(∀p∈m,n≠nth 0 keys (p.1-base))->Ab (Cg keys m l) n=Ab l n
 |[],_,_,_=>rfl
 |(j,c)::m,l,n,h=>by
  simp only[Cg];rw[KO m _ n fun p hp=>h p (by simp[hp])];exact C4 _ _ _ _ (h (j,c) (by simp))
theorem UX {keys:List Nat}:∀(m:List (Nat×Box)) (l:List (Nat×Box)) (n:Nat) (x:Box),(∀p∈m,n≠nth 0 keys (p.1-base))->Cg keys m (upd l n x)=upd (Cg keys m l) n x
 |[],_,_,_,_=>rfl
 |(j,c)::m,l,n,x,h=>by
  simp only[Cg];rw[Qpc _ _ _ _ _ (h (j,c) (by simp)),UX m _ n x fun p hp=>h p (by simp[hp])]
theorem Qpz {keys:List Nat}:∀(m:List (Nat×Box)) (l:List (Nat×Box)) (n:Nat) (x:Box),(∀p∈m,n≠nth 0 keys (p.1-base))->Cg keys m (ins l n x)=ins (Cg keys m l) n x
 |[],_,_,_,_=>rfl
 |(j,c)::m,l,n,x,h=>by
  simp only[Cg];rw[RJ _ _ _ _ _ (h (j,c) (by simp)),Qpz m _ n x fun p hp=>h p (by simp[hp])]
theorem Ry {d:Option Tmp} {f:FuncId} {args:List TV} {bx bx1:List (Nat×Box)} {aC:List (Nat×Row)} {v:TV} (h:Av (C:=C) d (.callD f args) bx aC=some (v,bx1)):
  ∃mb',bx1=Cg (AZ (cat AC.keys (cat TV.cellsOf args)) []) mb' bx/\(∀p∈mb',nth 0 (AZ (cat AC.keys (cat TV.cellsOf args)) []) (p.1-base)∈AZ (cat AC.keys (cat TV.cellsOf args)) [])/\v.plainB=true/\
   ∀(d':Option Tmp) (bx':List (Nat×Box)),(∀k∈AZ (cat AC.keys (cat TV.cellsOf args)) [],Ab bx' k=Ab bx k)->Av (C:=C) d' (.callD f args) bx' aC=some (v,Cg (AZ (cat AC.keys (cat TV.cellsOf args)) []) mb' bx'):=by
 simp only[Av]at h⊢;generalize AZ (cat AC.keys (cat TV.cellsOf args)) []=keys at h⊢;cases h1:C.spec f with
 |none=>rw[h1]at h;simp at h
 |some g=>
  rw[h1]at h;dsimp only at h⊢;split at h
  ·rename_i hc;split at h
   ·rename_i mb hmb;split at h
    ·rename_i v' mb' hg;split at h
     ·rename_i hc2;simp only[Option.some.injEq,Prod.mk.injEq]at h;obtain⟨rfl,rfl⟩:=h;have hc2':=hc2;simp only[Bool.and_eq_true]at hc2';refine⟨mb',rfl,fun p hp=> ?_,hc2'.2,fun d' bx' hl=> ?_⟩
      ·obtain⟨b,hb⟩:=SQ (Ax.1 hc2'.1.1.1.2 p hp);obtain⟨i,hi,e⟩:=(KQ hmb).2 _ _ hb;rw[e,show base+i-base=i from by omega];exact E5 hi
      ·rw[Zap (q:=fun k=>Ak AC.calm (Eh bx k)) (fun k hk=>by unfold Eh;rw[hl k hk]),Q3p keys base hl,hmb,if_pos hc];dsimp only;rw[hg];dsimp only;rw[if_pos hc2]
     ·simp at h
    ·simp at h
   ·simp at h
  ·simp at h
theorem PH {keys:List Nat}:∀(m:List (Nat×Box)) (l:List (Nat×Box)) {n:Nat} {b:Box},Ab l n=some b->∃b',Ab (Cg keys m l) n=some b'
 |[],_,_,b,h=>⟨b,h⟩
 |(j,c)::m,l,n,b,h=>by
  simp only[Cg];by_cases e:n=nth 0 keys (j-base)
  ·subst e;exact PH m _ (Er _ _ _ _ h)
  ·exact PH m _ (b:=b) (by rw[C4 _ _ _ _ e];exact h)
theorem Zr0 {d:Option Tmp} {f:FuncId} {args:List TV} {bx bx1:List (Nat×Box)} {aC:List (Nat×Row)} {v:TV} (h:Av (C:=C) d (.callD f args) bx aC=some (v,bx1)):
  ∀k∈AZ (cat AC.keys (cat TV.cellsOf args)) [],∃b,Ab bx k=some b:=by
 simp only[Av]at h;generalize AZ (cat AC.keys (cat TV.cellsOf args)) []=keys at h⊢;split at h
 ·split at h
  ·split at h
   ·rename_i mb hmb;intro k hk;obtain⟨x,q,_⟩:=(KQ hmb).1 (pos keys k) (DV hk).1;rw[(DV hk).2]at q;exact⟨x,q⟩
   ·simp at h
  ·simp at h
 ·simp at h
theorem Qq1 {α:Type}:∀(l:List (Nat×α)) (k:Nat) (x:α),Ab l k=some x->upd l k x=l
 |[],_,_,_=>rfl
 |(j,b)::l,k,x,h=>by
  simp only[Ab,upd]at h⊢;cases hj:Nat.beq j k
  ·rw[hj]at h;simp only[cond_false]at h⊢;rw[Qq1 l k x h]
  ·rw[hj]at h;simp only[cond_true,Option.some.injEq]at h⊢;rw[h,Nat.eq_of_beq_eq_true hj]
theorem Q2t {keys:List Nat} {bx:List (Nat×Box)} {rk ri:Nat->Nat}:∀(ks pre:List Nat) (mb:List (Nat×Box)),keys=pre++ks->Di bx rk ri (base+pre.length) ks=some mb->(∀k∈ks,Ak AC.calm (Eh bx k)=true)->Cg keys mb bx=bx
 |[],_,mb,_,h,_=>by simp[Di]at h;subst h;rfl
 |k::ks,pre,mb,hk,h,hc=>by
  simp only[Di]at h;split at h
  ·rename_i x hx;split at h
   ·rename_i l hl;simp only[Option.some.injEq]at h;subst h;simp only[Cg];have hn:nth 0 keys (base+pre.length-base)=k:=by
     rw[show base+pre.length-base=pre.length from by omega,BR,hk];simp
    have hcx:=hc k (by simp);unfold Eh at hcx;rw[hx]at hcx;rw[hn,PU hcx,Qq1 bx k _ hx];exact Q2t (rk:=rk) (ri:=ri) ks (pre++[k]) l (by rw[hk];simp) (by rw[<-hl];simp[Nat.add_assoc]) (fun j hj=>hc j (by simp[hj]))
   ·simp at h
  ·simp at h
theorem Rx (hspec:Ai P C) {d:Option Tmp} {f:FuncId} (hro:C.ro f=true) {args:List TV} {bx bx1:List (Nat×Box)} {aC:List (Nat×Row)} {v:TV} (h:Av (C:=C) d (.callD f args) bx aC=some (v,bx1)):bx1=bx:=by
 simp only[Av]at h;generalize AZ (cat AC.keys (cat TV.cellsOf args)) []=keys at h;cases h1:C.spec f with
 |none=>rw[h1]at h;simp at h
 |some g=>
  rw[h1]at h;dsimp only at h;split at h
  ·rename_i hc;simp only[Bool.and_eq_true]at hc;split at h
   ·rename_i mb hmb;split at h
    ·rename_i v' mb' hg;split at h
     ·simp only[Option.some.injEq,Prod.mk.injEq]at h;have e:=hspec.2 f g h1 hro _ _ _ _ hg;simp only[Mem.mk.injEq,and_true]at e;rw[<-h.2,e];exact Q2t keys [] mb rfl (by simpa using hmb) (fun k hk=>Ax.1 hc.1.2 k hk)
     ·simp at h
    ·simp at h
   ·simp at h
  ·simp at h
theorem Z43 (hspec:Ai P C) {di dj:Option Tmp} {pi pj:Prim} {bx bx1 bx2:List (Nat×Box)} {aC:List (Nat×Row)} {vi vj:TV} (hi:Av (C:=C) di pi bx aC=some (vi,bx1)) (hj:Av (C:=C) dj pj bx1 aC=some (vj,bx2))
  (hm:Prim.meet C.ro (some pi) (some pj)=false) (hd:∀t,di=some t->dj≠some t) (hwf:Prim.wf bx aC pj):
  ∃bx1',Av (C:=C) dj pj bx aC=some (vj,bx1')/\Av (C:=C) di pi bx1' aC=some (vi,bx2):=by
 have hne:∀{a b:Nat},Nat.beq a b=false->a≠b:=fun h e=>by subst e;simp at h
 cases pi<;>simp only[Av]at hi<;>try (simp at hi;done)
 case val v=>simp at hi;obtain⟨rfl,rfl⟩:=hi;exact⟨bx2,hj,rfl⟩
 case newView e ks l=>simp at hi;obtain⟨rfl,rfl⟩:=hi;exact⟨bx2,hj,rfl⟩
 case rload g sz id idx sub=>
  obtain⟨rfl,hc⟩:=OX (C:=C) (d:=di) (by simpa only[Av]using hi);exact⟨bx2,hj,hc _ _⟩
 case callD f args=>
  obtain⟨mb',rfl,hin,_,hc⟩:=Ry (C:=C) (d:=di) (f:=f) (args:=args) (aC:=aC) (by simpa only[Av]using hi);have hself:=hc di bx fun _ _=>rfl;have hkeys:∀k∈AZ (cat AC.keys (cat TV.cellsOf args)) [],∃b,Ab bx k=some b:=Zr0 (C:=C) (d:=di) (f:=f) (v:=vi) (aC:=aC) (by simpa only[Av]using hself);cases pj<;>simp only[Av]at hj<;>try (simp at hj;done)
  case val v=>simp at hj;obtain⟨rfl,rfl⟩:=hj;exact⟨bx,rfl,hself⟩
  case newView e ks l=>simp at hj;obtain⟨rfl,rfl⟩:=hj;exact⟨bx,rfl,hself⟩
  case rload g sz id idx sub=>
   obtain⟨rfl,hcj⟩:=OX (C:=C) (d:=dj) (by simpa only[Av]using hj);exact⟨bx,hcj _ _,hself⟩
  case call f' args'=>
   obtain⟨rfl,hcj⟩:=LR (d:=dj) hj;exact⟨bx,hcj _ _,hself⟩
  case load g sz k' o'=>
   cases hro:C.ro f
   case true=>
    have e1:=Rx hspec (d:=di) hro (aC:=aC) hself;rw[e1]at hj hself;have e2:bx2=bx:=by
     repeat' split at hj
     all_goals first|(simp at hj;done)|(simp at hj;exact hj.2.symm)
    subst e2;exact⟨bx2,by simp only[Av];exact hj,hself⟩
   have hk:k'∉AZ (cat AC.keys (cat TV.cellsOf args)) []:=fun e=>by
    have:=ED.2 e;simp only[Prim.meet,hro,Bool.not_false,Bool.true_and]at hm;rw[hm]at this;cases this
   have hk2:∀p∈mb',k'≠nth 0 (AZ (cat AC.keys (cat TV.cellsOf args)) []) (p.1-base):=fun p hp e=>hk (by rw[e];exact hin p hp);rw[KO _ _ _ hk2]at hj;refine⟨bx,?_,?_⟩
   ·simp only[Av]
    repeat' split at hj
    all_goals first|(simp at hj;done)|skip
    rename_i q1 _ _ q2;simp at hj;obtain⟨rfl,_⟩:=hj;simp only[q1,q2]
   ·have:bx2=Cg (AZ (cat AC.keys (cat TV.cellsOf args)) []) mb' bx:=by
     repeat' split at hj
     all_goals first|(simp at hj;done)|(simp at hj;exact hj.2.symm)
    rw[this];exact hself
  case store k' o' cs'=>
   have hk:k'∉AZ (cat AC.keys (cat TV.cellsOf args)) []:=fun e=>by
    have:=ED.2 e;simp only[Prim.meet]at hm;rw[hm]at this;cases this
   have hk2:∀p∈mb',k'≠nth 0 (AZ (cat AC.keys (cat TV.cellsOf args)) []) (p.1-base):=fun p hp e=>hk (by rw[e];exact hin p hp);rw[KO _ _ _ hk2]at hj;cases h2:Ab bx k' with
   |none=>rw[h2]at hj;simp at hj
   |some b'=>
    rw[h2]at hj;dsimp only at hj;split at hj
    ·rename_i hle';simp at hj;obtain⟨rfl,rfl⟩:=hj;refine⟨upd bx k' ⟨b'.ty,splice b'.cells o' cs'⟩,by simp only[Av,h2,hle',if_true],?_⟩;rw[hc di _ fun k hk'=>C4 _ _ _ _ (by rintro rfl;exact hk hk'),UX _ _ _ _ hk2]
    ·simp at hj
  case new ty cs'=>
   split at hj
   ·rename_i d;split at hj
    ·simp at hj
    ·rename_i hn;simp at hj;obtain⟨rfl,rfl⟩:=hj;have hk2:∀p∈mb',d≠nth 0 (AZ (cat AC.keys (cat TV.cellsOf args)) []) (p.1-base):=fun p hp e=>by
      have hthere:∃b,Ab bx d=some b:=hkeys d (by rw[e];exact hin p hp);obtain⟨b,hb⟩:=hthere;have:∃b',Ab (Cg (AZ (cat AC.keys (cat TV.cellsOf args)) []) mb' bx) d=some b':=PH _ _ hb;obtain⟨b',hb'⟩:=this;rw[hn]at hb';cases hb'
     have hkd:d∉AZ (cat AC.keys (cat TV.cellsOf args)) []:=fun e=>by
      obtain⟨b,hb⟩:=hkeys d e;obtain⟨b',hb'⟩:=PH (keys:=AZ (cat AC.keys (cat TV.cellsOf args)) []) mb' bx hb;rw[hn]at hb';cases hb'
     rw[KO _ _ _ hk2]at hn;refine⟨ins bx d ⟨ty,cs'⟩,by simp only[Av,hn],?_⟩;rw[hc di _ fun k hk'=>Dl _ _ _ _ (by rintro rfl;exact hkd hk'),Qpz _ _ _ _ hk2]
   ·simp at hj
  case callD f' args'=>
   simp only[Prim.meet,Bool.not_eq_false',Bool.and_eq_true]at hm;have e1:=Rx hspec (d:=di) hm.1 (aC:=aC) hself;rw[e1]at hj hself;have e2:=Rx hspec (d:=dj) hm.2 (aC:=aC) (f:=f') (args:=args') (v:=vj) (bx1:=bx2) (by simpa only[Av]using hj);subst e2;exact⟨bx2,by simpa only[Av]using hj,hself⟩
 case call f args=>
  obtain⟨rfl,hc⟩:=LR (d:=di) hi;exact⟨bx2,hj,hc _ _⟩
 case load g sz key off=>
  cases h1:Ab bx key with
  |none=>rw[h1]at hi;simp at hi
  |some b=>
   rw[h1]at hi;dsimp only at hi;cases h2:Dm g sz b.cells off with
   |none=>rw[h2]at hi;simp at hi
   |some v=>
    rw[h2]at hi;simp at hi;obtain⟨rfl,rfl⟩:=hi;refine⟨bx2,hj,?_⟩;have hl:Ab bx2 key=some b:=by
     cases pj<;>simp only[Av]at hj<;>try (simp at hj;done)
     case val=>simp at hj;rw[<-hj.2];exact h1
     case newView=>simp at hj;rw[<-hj.2];exact h1
     case rload=>
      obtain⟨rfl,_⟩:=OX (C:=C) (d:=dj) (by simpa only[Av]using hj);exact h1
     case callD f args=>
      cases hro:C.ro f
      case true=>
       rw[Rx hspec (d:=dj) hro (aC:=aC) (args:=args) (v:=vj) (bx1:=bx2) (by simpa only[Av]using hj)];exact h1
      obtain⟨mb',rfl,hin,_,_⟩:=Ry (C:=C) (d:=dj) (f:=f) (args:=args) (aC:=aC) (by simpa only[Av]using hj);rw[KO _ _ _ fun p hp e=>by
       have:=ED.2 (hin p hp);rw[<-e]at this;simp only[Prim.meet,hro,Bool.not_false,Bool.true_and]at hm;rw[hm]at this;cases this]
      exact h1
     case call=>
      obtain⟨rfl,_⟩:=LR (d:=dj) hj;exact h1
     case load=>
      repeat' split at hj
      all_goals first|(simp at hj;done)|(simp at hj;rw[<-hj.2];exact h1)
     case store k' o' cs'=>
      split at hj
      ·split at hj
       ·simp at hj;rw[<-hj.2,C4 _ _ _ _ (hne hm)];exact h1
       ·simp at hj
      ·simp at hj
     case new ty cs=>
      split at hj
      ·rename_i d;split at hj
       ·simp at hj
       ·rename_i hn;simp at hj;rw[<-hj.2,Dl _ _ _ _ (by rintro rfl;rw[hn]at h1;simp at h1)];exact h1
      ·simp at hj
    simp only[Av,hl,h2]
 case store key off cs=>
  cases h1:Ab bx key with
  |none=>rw[h1]at hi;simp at hi
  |some b=>
   rw[h1]at hi;dsimp only at hi;split at hi
   ·rename_i hle;simp at hi;obtain⟨rfl,rfl⟩:=hi;cases pj<;>simp only[Av]at hj<;>try (simp at hj;done)
    case val v=>simp at hj;obtain⟨rfl,rfl⟩:=hj;exact⟨bx,rfl,by simp only[Av,h1,hle,if_true]⟩
    case newView e ks l=>simp at hj;obtain⟨rfl,rfl⟩:=hj;exact⟨bx,rfl,by simp only[Av,h1,hle,if_true]⟩
    case rload g sz id idx sub=>
     obtain⟨rfl,hc⟩:=OX (C:=C) (d:=dj) (by simpa only[Av]using hj);exact⟨bx,hc _ _,by simp only[Av,h1,hle,if_true]⟩
    case callD f args=>
     obtain⟨mb',rfl,hin,_,hc⟩:=Ry (C:=C) (d:=dj) (f:=f) (args:=args) (aC:=aC) (by simpa only[Av]using hj);have hk:key∉AZ (cat AC.keys (cat TV.cellsOf args)) []:=fun e=>by
      have:=ED.2 e;simp only[Prim.meet]at hm;rw[hm]at this;cases this
     have hk2:∀p∈mb',key≠nth 0 (AZ (cat AC.keys (cat TV.cellsOf args)) []) (p.1-base):=fun p hp e=>hk (by rw[e];exact hin p hp);refine⟨_,hc dj bx fun k hk'=>(C4 _ _ _ _ (by rintro rfl;exact hk hk')).symm,?_⟩;simp only[Av];rw[KO _ _ _ hk2,h1];simp only[hle,if_true];rw[UX _ _ _ _ hk2]
    case call f args=>
     obtain⟨rfl,hc⟩:=LR (d:=dj) hj;exact⟨bx,hc _ _,by simp only[Av,h1,hle,if_true]⟩
    case load g sz k' o'=>
     have hk:=hne hm;rw[C4 _ _ _ _ (fun e=>hk e.symm)]at hj;refine⟨bx,?_,?_⟩
     ·simp only[Av]
      repeat' split at hj
      all_goals first|(simp at hj;done)|skip
      rename_i q1 _ _ q2;simp at hj;obtain⟨rfl,_⟩:=hj;simp only[q1,q2]
     ·have:bx2=upd bx key ⟨b.ty,splice b.cells off cs⟩:=by
       repeat' split at hj
       all_goals first|(simp at hj;done)|(simp at hj;exact hj.2.symm)
      subst this;simp only[Av,h1,hle,if_true]
    case store k' o' cs'=>
     have hk:=hne hm;rw[C4 _ _ _ _ (fun e=>hk e.symm)]at hj;cases h2:Ab bx k' with
     |none=>rw[h2]at hj;simp at hj
     |some b'=>
      rw[h2]at hj;dsimp only at hj;split at hj
      ·rename_i hle';simp at hj;obtain⟨rfl,rfl⟩:=hj;refine⟨upd bx k' ⟨b'.ty,splice b'.cells o' cs'⟩,by simp only[Av,h2,hle',if_true],?_⟩;simp only[Av];rw[C4 _ _ _ _ hk,h1];simp only[hle,if_true];rw[Qpc _ _ _ _ _ hk]
      ·simp at hj
    case new ty cs'=>
     split at hj
     ·rename_i d;split at hj
      ·simp at hj
      ·rename_i hn;simp at hj;obtain⟨rfl,rfl⟩:=hj;have hkd:d≠key:=by
        rintro rfl;rw[Er _ _ _ _ h1]at hn;simp at hn
       rw[C4 _ _ _ _ hkd]at hn;refine⟨ins bx d ⟨ty,cs'⟩,by simp only[Av,hn],?_⟩;simp only[Av];rw[Dl _ _ _ _ (fun e=>hkd e.symm),h1];simp only[hle,if_true];rw[RJ _ _ _ _ _ hkd]
     ·simp at hj
   ·simp at hi
 case new ty cs=>
  cases hdi:di with
  |none=>rw[hdi]at hi;simp at hi
  |some d=>
   rw[hdi]at hi;dsimp only at hi;cases h1:Ab bx d with
   |some _=>rw[h1]at hi;simp at hi
   |none=>
    rw[h1]at hi;simp at hi;obtain⟨rfl,rfl⟩:=hi;have hnew:∀bb,Ab bb d=none->Av (C:=C) (some d) (.new ty cs) bb aC=some (.c (.ptr d 0),ins bb d ⟨ty,cs⟩):=by
     intro bb hb;simp only[Av,hb]
    cases pj<;>simp only[Av]at hj<;>try (simp at hj;done)
    case val v=>simp at hj;obtain⟨rfl,rfl⟩:=hj;exact⟨bx,rfl,hnew bx h1⟩
    case newView e ks l=>simp at hj;obtain⟨rfl,rfl⟩:=hj;exact⟨bx,rfl,hnew bx h1⟩
    case rload g sz id idx sub=>
     obtain⟨rfl,hc⟩:=OX (C:=C) (d:=dj) (by simpa only[Av]using hj);exact⟨bx,hc _ _,hnew bx h1⟩
    case callD f args=>
     obtain⟨mb',rfl,hin,_,hc⟩:=Ry (C:=C) (d:=dj) (f:=f) (args:=args) (aC:=aC) (by simpa only[Av]using hj);have hk:d∉AZ (cat AC.keys (cat TV.cellsOf args)) []:=fun e=>by
      obtain⟨b,hb⟩:=Ztz hwf e;rw[h1]at hb;cases hb
     have hk2:∀p∈mb',d≠nth 0 (AZ (cat AC.keys (cat TV.cellsOf args)) []) (p.1-base):=fun p hp e=>hk (by rw[e];exact hin p hp);refine⟨_,hc dj bx fun k hk'=>(Dl _ _ _ _ (by rintro rfl;exact hk hk')).symm,?_⟩;rw[hnew _ (by rw[KO _ _ _ hk2];exact h1),Qpz _ _ _ _ hk2]
    case call f args=>
     obtain⟨rfl,hc⟩:=LR (d:=dj) hj;exact⟨bx,hc _ _,hnew bx h1⟩
    case load g sz k' o'=>
     obtain⟨b',hb'⟩:=hwf;have hk:k'≠d:=by rintro rfl;rw[h1]at hb';simp at hb'
     rw[Dl _ _ _ _ hk]at hj;refine⟨bx,?_,?_⟩
     ·simp only[Av]
      repeat' split at hj
      all_goals first|(simp at hj;done)|skip
      rename_i q1 _ _ q2;simp at hj;obtain⟨rfl,_⟩:=hj;simp only[q1,q2]
     ·have:bx2=ins bx d ⟨ty,cs⟩:=by
       repeat' split at hj
       all_goals first|(simp at hj;done)|(simp at hj;exact hj.2.symm)
      subst this;exact hnew bx h1
    case store k' o' cs'=>
     obtain⟨⟨b',hb'⟩,_⟩:=hwf;have hk:k'≠d:=by rintro rfl;rw[h1]at hb';simp at hb'
     rw[Dl _ _ _ _ hk,hb']at hj;dsimp only at hj;split at hj
     ·rename_i hle';simp at hj;obtain⟨rfl,rfl⟩:=hj;refine⟨upd bx k' ⟨b'.ty,splice b'.cells o' cs'⟩,by simp only[Av,hb',hle',if_true],?_⟩;rw[hnew _ (by rw[C4 _ _ _ _ (fun e=>hk e.symm)];exact h1),RJ _ _ _ _ _ (fun e=>hk e.symm)]
     ·simp at hj
    case new ty' cs'=>
     cases hdj:dj with
     |none=>rw[hdj]at hj;simp at hj
     |some e=>
      rw[hdj]at hj;dsimp only at hj;have hde:d≠e:=by rintro rfl;exact hd d hdi hdj
      rw[Dl _ _ _ _ (fun q=>hde q.symm)]at hj;cases h2:Ab bx e with
      |some _=>rw[h2]at hj;simp at hj
      |none=>
       rw[h2]at hj;simp at hj;obtain⟨rfl,rfl⟩:=hj;refine⟨ins bx e ⟨ty',cs'⟩,by simp only[Av,h2],?_⟩;rw[hnew _ (by rw[Dl _ _ _ _ hde];exact h1),Qnq _ _ _ _ _ hde]
end
end Go.Bm
namespace Go.Bm
open Go.RowKit
structure WFst (s : St) : Prop where
 t:∀v∈s.tmps,TV.wf s.aB s.aC v
 b:∀(k:Nat) (b:Box),Ab s.aB k=some b->∀a∈b.cells,AC.wf s.aB s.aC a
section
variable {P:Program} {C:Cfg} {w:World} {R:Type} {Z:Base}
theorem Zz9 {d:Option Tmp} {f:FuncId} {args:List TV} {bx bx':List (Nat×Box)} {aC:List (Nat×Row)} {v:TV} (h:Av (C:=C) d (.call f args) bx aC=some (v,bx')):TV.wf bx' aC v:=by
 simp only[Av]at h;split at h
 ·split at h
  ·split at h
   ·split at h
    ·rename_i hc;simp at h;obtain⟨rfl,_⟩:=h;simp only[Bool.and_eq_true]at hc;exact JJ hc.2
    ·simp at h
   ·simp at h
  ·simp at h
 ·simp at h
theorem Qwr {bx:List (Nat×Box)} {aC:List (Nat×Row)}:∀(ks:List Kd) (cs:List AC) (j:Nat),∀c∈Ek ks cs j,AC.wf bx aC c
 |[],_,_,c,hc=>by simp[Ek]at hc
 |k::ks,cs,j,c,hc=>by
  simp only[Ek,List.mem_cons]at hc;rcases hc with rfl|hc
  ·cases k<;>try exact trivial
   generalize nth AC.dead cs j=b;cases b<;>exact trivial
  ·exact Qwr ks cs _ c hc
theorem Zav {α:Type}:∀(l:List (Nat×α)) (k:Nat) (x:α),Ab l k=none->Ab (upd l k x) k=none
 |[],_,_,_=>rfl
 |(j,c)::l,k,x,h=>by
  simp only[Ab]at h;cases hb:Nat.beq j k<;>rw[hb]at h
  ·simp only[upd,hb,cond_false,Ab];exact Zav l k x h
  ·simp at h
theorem Q9v {keys:List Nat}:∀(m:List (Nat×Box)) (l:List (Nat×Box)) {n:Nat} {b:Box},Ab (Cg keys m l) n=some b->Ab l n=some b\/∃p∈m,p.2=b
 |[],_,_,_,h=> .inl h
 |(j,c)::m,l,n,b,h=>by
  simp only[Cg]at h;rcases Q9v m _ h with h|⟨p,hp,e⟩
  ·by_cases e:n=nth 0 keys (j-base)
   ·subst e;cases hl:Ab l (nth 0 keys (j-base))with
    |none=>rw[Zav _ _ _ hl]at h;cases h
    |some y=>
     rw[Er _ _ _ _ hl]at h;simp at h;subst h;exact .inr ⟨(j,c),by simp,rfl⟩
   ·rw[C4 _ _ _ _ e]at h;exact .inl h
  ·exact .inr ⟨p,by simp[hp],e⟩
theorem Qzo {d:Option Tmp} {f:FuncId} {args:List TV} {bx bx1:List (Nat×Box)} {aC:List (Nat×Row)} {v:TV} (h:Av (C:=C) d (.callD f args) bx aC=some (v,bx1)):
  ∃mb',bx1=Cg (AZ (cat AC.keys (cat TV.cellsOf args)) []) mb' bx/\True/\v.plainB=true/\∀p∈mb',Ak AC.calm p.2.cells=true:=by
 simp only[Av]at h;generalize AZ (cat AC.keys (cat TV.cellsOf args)) []=keys at h⊢
 repeat' split at h
 all_goals first|(simp at h;done)|skip
 rename_i v' mb' _ hc2;simp only[Option.some.injEq,Prod.mk.injEq]at h;obtain⟨rfl,rfl⟩:=h;simp only[Bool.and_eq_true]at hc2;exact⟨mb',rfl,trivial,hc2.2,Ax.1 hc2.1.2⟩
theorem Zqp {ops:List Oper} {o:Oper} {tm:List TV} {bx bx':List (Nat×Box)} {aC:List (Nat×Row)} {p:Option Prim} {v:TV} (hw:WFst ⟨tm,bx,aC⟩) (h:C3 P C ops o tm bx aC=some (p,v,bx')):
  WFst ⟨tm,bx',aC⟩/\TV.wf bx' aC v/\∀q,p=some q->Prim.wf bx aC q:=by
 unfold C3 at h;split at h
 ·cases hp:opK P C (AY tm) o.dst o.op some with
  |none=>rw[hp]at h;simp at h
  |some q=>
   rw[hp]at h;simp only[Option.bind_some]at h;have hq:=Qme (pre:=false) (ZR (aB:=bx) (aC:=aC) (fun x=>Qm8 hw.t x) hp);clear hp;generalize q.dr false=q at h hq⊢;cases hm:Av (C:=C) o.dst q bx aC with
   |none=>rw[hm]at h;simp at h
   |some z=>
    rw[hm]at h;simp at h;obtain⟨rfl,rfl,rfl⟩:=h;have hres:∀{bx2:List (Nat×Box)},(∀a,AC.wf bx aC a->AC.wf bx2 aC a)->(∀(k:Nat) (b:Box),Ab bx2 k=some b->∀a∈b.cells,AC.wf bx aC a)->WFst ⟨tm,bx2,aC⟩:=
     fun ha hb=>⟨fun v hv=>TV.wf_mono ha (hw.t v hv),fun k b hk a hm=>ha a (hb k b hk a hm)⟩
    refine⟨?_,?_,fun q' e=>by simp at e;subst e;exact hq⟩;all_goals
     cases q<;>simp only[Av]at hm<;>try (simp at hm;done)
    ·simp at hm;subst hm;exact hw
    ·repeat' split at hm
     all_goals first|(simp at hm;done)|(simp at hm;subst hm;exact hw)
    ·rename_i key off cs;split at hm
     ·rename_i b hb;split at hm
      ·simp at hm;subst hm;refine hres (fun a => AC.wf_mono (fun k bo hk' => by
        by_cases hkd:k=key
        ·subst hkd;exact⟨_,Er _ _ _ _ hb⟩
        ·exact⟨bo,by rw[C4 _ _ _ _ hkd];exact hk'⟩) (fun k r hk=>⟨r,hk,rfl,rfl⟩)) ?_
       intro k bo hk a ha;by_cases hkd:k=key
       ·subst hkd;rw[Er _ _ _ _ hb]at hk;simp at hk;subst hk;rcases RS _ _ _ ha with ha|ha
        ·exact hw.b k b hb a ha
        ·exact hq.2 a ha
       ·rw[C4 _ _ _ _ hkd]at hk;exact hw.b k bo hk a ha
      ·simp at hm
     ·simp at hm
    ·rename_i ty cs;split at hm
     ·rename_i d hd;split at hm
      ·simp at hm
      ·rename_i hn;simp at hm;subst hm;refine hres (fun a=>AC.wf_mono (fun k bo hk'=>⟨bo,by rw[Dl _ _ _ _ (by rintro rfl;rw[hn]at hk';simp at hk')];exact hk'⟩) (fun k r hk=>⟨r,hk,rfl,rfl⟩)) ?_;intro k bo hk a ha;by_cases hkd:k=d
       ·subst hkd;rw[Eo _ _ _ hn]at hk;simp at hk;subst hk;exact hq a ha
       ·rw[Dl _ _ _ _ hkd]at hk;exact hw.b k bo hk a ha
     ·simp at hm
    ·rename_i g sz id idx sub;obtain⟨z1,z2⟩:=z;obtain⟨rfl,_⟩:=OX (C:=C) (d:=o.dst) (by simpa only[Av]using hm);exact hw
    ·simp at hm;subst hm;exact hw
    ·obtain⟨rfl,_⟩:=LR (d:=o.dst) hm;exact hw
    ·rename_i f args;obtain⟨z1,z2⟩:=z;obtain⟨mb',rfl,hin,_,hcal⟩:=Qzo (C:=C) (d:=o.dst) (f:=f) (args:=args) (aC:=aC) (by simpa only[Av]using hm);refine hres (fun a=>AC.wf_mono (fun k bo hk'=>PH _ _ hk') (fun k r hk=>⟨r,hk,rfl,rfl⟩)) ?_;intro k bo hk a ha;rcases Q9v _ _ hk with hk|⟨p,hp,rfl⟩
     ·exact hw.b k bo hk a ha
     ·exact Q0r (hcal p hp) a ha
    ·simp at hm;subst hm;exact hq
    ·split at hm
     ·rename_i b hb;split at hm
      ·rename_i v hv;simp at hm;subst hm;exact P5 hv (hw.b _ b hb)
      ·simp at hm
     ·simp at hm
    ·repeat' split at hm
     all_goals first|(simp at hm;done)|(simp at hm;subst hm;trivial)
    ·rename_i ty cs;split at hm
     ·rename_i d hd;split at hm
      ·simp at hm
      ·rename_i hn;simp at hm;subst hm;exact Cs ⟨_,Eo _ _ _ hn⟩
     ·simp at hm
    ·split at hm
     ·rename_i r hr;split at hm
      ·rename_i v hv;simp at hm;subst hm;exact P5 hv fun a ha=>Qwr r.ks _ 0 a ha
      ·simp at hm
     ·simp at hm
    ·simp at hm;subst hm;exact Cs trivial
    ·rename_i f args;exact Zz9 (d:=o.dst) hm
    ·rename_i f args;obtain⟨z1,z2⟩:=z;obtain⟨mb',_,_,hpl,_⟩:=Qzo (C:=C) (d:=o.dst) (f:=f) (args:=args) (aC:=aC) (by simpa only[Av]using hm);exact JJ hpl
 ·simp at h;obtain⟨rfl,rfl,rfl⟩:=h;exact⟨hw,fun p hp=>by simp at hp,fun q e=>by simp at e⟩
 ·simp at h
theorem Wg {tm:List TV} {bx:List (Nat×Box)} {aC:List (Nat×Row)} {d:Option Tmp} {v:TV} (hw:WFst ⟨tm,bx,aC⟩) (hv:TV.wf bx aC v):WFst ⟨CK tm d v,bx,aC⟩:=by
 cases d with
 |none=>exact hw
 |some t=>
  refine⟨fun u hu=> ?_,hw.b⟩;simp only[CK,H3]at hu;rcases List.mem_or_eq_of_mem_set hu with hu|rfl
  ·exact hw.t u hu
  ·exact hv
theorem Z2d {id:Nat} {bx:List (Nat×Box)} {k:Nat} {b:Box} (h:Ab (bx.map fun p=>(p.1,p.2.kill id)) k=some b):∃b',Ab bx k=some b'/\b=b'.kill id:=by
 have:=FJ (Box.kill id) bx k;rw[this]at h;simp only[Option.map_eq_some_iff]at h;obtain⟨b',h1,rfl⟩:=h;exact⟨b',h1,rfl⟩
theorem Qj4 {bx:List (Nat×Box)} {aC rows':List (Nat×Row)} {id:Nat} (hr:∀j,j≠id->Ab rows' j=Ab aC j) {a:AC} (h:AC.wf bx aC a):AC.wf (bx.map fun p=>(p.1,p.2.kill id)) rows' (a.kill id):=by
 have hb:∀k b,Ab bx k=some b->∃b',Ab (bx.map fun p=>(p.1,p.2.kill id)) k=some b':=fun k b hk=>⟨b.kill id,by have:=FJ (Box.kill id) bx k;rw[this,hk];rfl⟩;have hp:∀c,AC.wfP bx c->AC.wfP (bx.map fun p=>(p.1,p.2.kill id)) c:=by
  intro c hc;cases c<;>try exact trivial
  obtain⟨b,hb'⟩:=hc;exact hb _ _ hb'
 cases a<;>try exact trivial
 case ptr k o=>
  obtain⟨b,hb'⟩:=h;exact hb _ _ hb'
 case bsl k o=>
  obtain⟨b,hb'⟩:=h;exact hb _ _ hb'
 case own j w n=>
  simp only[AC.kill];cases hj:Nat.beq j id
  ·obtain⟨r,h1,h2⟩:=h;exact⟨r,by rw[hr j (GU hj)];exact h1,h2⟩
  ·exact trivial
 case rptr j a b=>
  simp only[AC.kill];cases hj:Nat.beq j id
  ·obtain⟨r,h1,h2⟩:=h;exact⟨r,by rw[hr j (GU hj)];exact h1,h2⟩
  ·exact trivial
 case vptr cs sub=>exact h
 case clo f fs cs=>exact⟨fun c hc=>hp c (h.1 c hc),fun c hc=>hp c (h.2 c hc)⟩
theorem Zu0 {dst:Option Tmp} {aC rows':List (Nat×Row)} {p:Prim} {id:Nat} {v:TV} (h1:J_ dst p=some id) (h2:JI dst aC p=some (v,rows')):(∀j,j≠id->Ab rows' j=Ab aC j)/\TV.wf [] rows' v:=by
 cases p<;>simp[J_]at h1
 rename_i e ks bytes sv x;cases sv<;>simp at h1
 case nilSl=>
  subst h1;simp only[JI,Ql7]at h2
  repeat' split at h2
  all_goals first|(simp at h2;done)|skip
  rename_i hn _ _;simp only[Option.some.injEq,Prod.mk.injEq]at h2;obtain⟨rfl,rfl⟩:=h2;refine⟨fun j hj=>Dl _ _ _ _ hj,Cs ?_⟩;exact⟨_,Eo _ _ _ hn,rfl,rfl⟩
 rename_i id' w n;subst h1;simp only[JI,Ym]at h2
 repeat' split at h2
 all_goals first|(simp at h2;done)|skip
 rename_i r hr _ _;simp only[Option.some.injEq,Prod.mk.injEq]at h2;obtain⟨rfl,rfl⟩:=h2;refine⟨fun j hj=>C4 _ _ _ _ hj,Cs ?_⟩;exact⟨_,Er _ _ _ _ hr,rfl,rfl⟩
theorem Q1s {aC rows':List (Nat×Row)}:∀{args:List TV},Ak TV.plainB args=true->G3 aC args=G3 rows' args
 |[],_=>rfl
 |a::l,h=>by
  simp only[Ak]at h;have h1:a.plainB=true/\Ak TV.plainB l=true:=by cases ha:a.plainB<;>rw[ha]at h<;>simp at h;exact⟨rfl,h⟩
  have e:a.res aC=a.res rows':=by
   cases a with
   |dead=>rfl
   |tup ps=>rfl
   |v g cs=>
    simp only[TV.res];have:EU aC cs=EU rows' cs:=by
     have h2:=h1.1;simp only[TV.plainB]at h2;clear h h1;induction cs with
     |nil=>rfl
     |cons c cs ih=>
      simp only[Ak]at h2;have h3:c.plain=true/\Ak AC.plain cs=true:=by cases hc:c.plain<;>rw[hc]at h2<;>simp at h2;exact⟨rfl,h2⟩
      simp only[EU];rw[ih h3.2];have:c.res aC=c.res rows':=by
       have:=h3.1;cases c<;>simp[AC.plain]at this<;>rfl
      rw[this]
    rw[this]
  simp only[G3];rw[e,Q1s h1.2]
theorem Zgj {dst:Option Tmp} {aC rows':List (Nat×Row)} {p:Prim} {v:TV} (h:mkD (C:=C) dst p aC=some (v,rows')):(∀j r,Ab aC j=some r->Ab rows' j=some r)/\TV.wf [] rows' v:=by
 unfold mkD at h;cases hg:mkG (C:=C) dst p with
 |none=>rw[hg]at h;simp at h
 |some q=>
  obtain⟨v',o⟩:=q;rw[hg]at h;cases o with
  |none=>
   simp only[Option.some.injEq,Prod.mk.injEq]at h;obtain⟨rfl,rfl⟩:=h;refine⟨fun _ _ h=>h,?_⟩;unfold mkG at hg;split at hg
   ·split at hg<;>simp at hg
   ·split at hg
    ·split at hg
     ·split at hg
      ·split at hg
       ·rename_i hp;simp only[Option.some.injEq,Prod.mk.injEq]at hg;rw[<-hg.1];exact JJ hp
       ·simp at hg
      ·split at hg<;>simp at hg
      ·simp at hg
     ·simp at hg
    ·simp at hg
   ·simp at hg
  |some kr=>
   obtain⟨k,r⟩:=kr;dsimp only at h;split at h
   ·simp at h
   ·rename_i hn;simp only[Option.some.injEq,Prod.mk.injEq]at h;obtain⟨rfl,rfl⟩:=h;refine⟨fun j r' hj=>by rw[Dl _ _ _ _ (by rintro rfl;rw[hn]at hj;cases hj)];exact hj,?_⟩;unfold mkG at hg;split at hg
    ·split at hg
     ·simp only[Option.some.injEq,Prod.mk.injEq]at hg;obtain⟨rfl,rfl,rfl⟩:=hg;exact Cs ⟨_,Eo _ _ _ hn,rfl,rfl⟩
     ·simp at hg
    ·split at hg
     ·split at hg
      ·split at hg
       ·split at hg<;>simp at hg
       ·split at hg
        ·simp only[Option.some.injEq,Prod.mk.injEq]at hg;obtain⟨rfl,rfl,rfl⟩:=hg;exact Cs ⟨_,Eo _ _ _ hn,rfl,rfl⟩
        ·simp at hg
       ·simp at hg
      ·simp at hg
     ·simp at hg
    ·simp at hg
theorem Zrp {ops:List Oper} {o:Oper} {s s':St} {p:Option Prim} (hw:WFst s) (h:B7 (P:=P) (C:=C) ops o s=some (p,s')):WFst s':=by
 obtain⟨tm,bx,aC⟩:=s;cases hn:Prim.isApp p
 ·cases hnm:Prim.isMk p
  case true=>
   obtain⟨_,q,v,rows',_,rfl,h4,rfl⟩:=Ra h hnm;obtain⟨hr,hv⟩:=Zgj h4;have ha:∀a,AC.wf bx aC a->AC.wf bx rows' a:=fun a=>AC.wf_mono (fun k b hk=>⟨b,hk⟩) (fun k r hk=>⟨r,hr k r hk,rfl,rfl⟩);exact Wg ⟨fun u hu=>TV.wf_mono ha (hw.t u hu),fun k b hk a hm=>ha a (hw.b k b hk a hm)⟩ (TV.wf_mono (fun a ha=>AC.wf_mono (aB:=[]) (aC:=rows') (fun k b hk=>by simp[Ab]at hk) (fun k r hk=>⟨r,hk,rfl,rfl⟩) ha) hv)
  obtain⟨v,bx',hc,rfl⟩:=KX h hn hnm;obtain⟨h1,h2,_⟩:=Zqp hw hc;exact Wg h1 h2
 ·obtain⟨_,q,id,v,rows',_,rfl,h3,h4,rfl⟩:=Qiu h hn;obtain⟨hr,hv⟩:=Zu0 h3 h4;refine Wg ⟨fun u hu=> ?_,fun k b hk a ha=> ?_⟩ (TV.wf_mono (fun a ha=>AC.wf_mono (aB:=[]) (aC:=rows') (fun k b hk=>by simp[Ab]at hk) (fun k r hk=>⟨r,hk,rfl,rfl⟩) ha) hv)
  ·simp only[List.mem_map]at hu;obtain⟨u,hu,rfl⟩:=hu;have:=hw.t u hu;cases u with
   |dead=>trivial
   |v g cs=>
    intro a ha;simp only[List.mem_map]at ha;obtain⟨c,hc,rfl⟩:=ha;exact Qj4 hr (this c hc)
   |tup ps=>
    intro p hp a ha;simp only[List.mem_map]at hp;obtain⟨q,hq,rfl⟩:=hp;simp only[List.mem_map]at ha;obtain⟨c,hc,rfl⟩:=ha;exact Qj4 hr (this q hq c hc)
  ·obtain⟨b',hb',rfl⟩:=Z2d hk;simp only[Box.kill,List.mem_map]at ha;obtain⟨c,hc,rfl⟩:=ha;exact Qj4 hr (hw.b k b' hb' c hc)
theorem Q3c {o:Op} {p:Option Prim} (h:Prim.still o p=true):Prim.isMk p=false:=by
 cases p with
 |none=>rfl
 |some q=>cases q<;>first|rfl|(cases o<;>simp[Prim.still,Prim.isLive,Prim.isPtr]at h)
theorem Zvk {d:Option Tmp} {p:Prim} {bx bx':List (Nat×Box)} {aC:List (Nat×Row)} {v:TV} (hs:Prim.mkStill (some p)=true) (h:Av (C:=C) d p bx aC=some (v,bx')):
  bx'=bx/\∀rows',Av (C:=C) d p bx rows'=some (v,bx):=by
 cases p<;>simp[Prim.mkStill]at hs
 case val u=>simp only[Av,Option.some.injEq,Prod.mk.injEq]at h⊢;obtain⟨rfl,rfl⟩:=h;exact⟨rfl,fun _=>by simp⟩
 case newView e ks l=>simp only[Av,Option.some.injEq,Prod.mk.injEq]at h⊢;obtain⟨rfl,rfl⟩:=h;exact⟨rfl,fun _=>by simp⟩
 case load g sz key off=>
  simp only[Av]at h⊢
  repeat' split at h
  all_goals first|(simp at h;done)|skip
  simp at h;obtain⟨rfl,rfl⟩:=h;exact⟨rfl,fun _=>rfl⟩
 case call f args=>
  obtain⟨rfl,_⟩:=LR h;refine⟨rfl,fun rows'=> ?_⟩;simp only[Av]at h⊢;rw[Q1s (aC:=rows') (rows':=aC) hs];exact h
 case newRow e ks l=>simp[Av]at h
 case callF f args=>simp[Av]at h
theorem Q0d {ops:List Oper} {o:Oper} {tm:List TV} {bx bx':List (Nat×Box)} {aC:List (Nat×Row)} {p:Option Prim} {v:TV} (hs:Prim.mkStill p=true) (h:C3 P C ops o tm bx aC=some (p,v,bx')):
  bx'=bx/\∀rows',C3 P C ops o tm bx rows'=some (p,v,bx):=by
 unfold C3 at h⊢;split at h
 ·cases hp:opK P C (AY tm) o.dst o.op some with
  |none=>rw[hp]at h;simp at h
  |some q=>
   rw[hp]at h;simp only[Option.bind_some]at h⊢;cases hm:Av (C:=C) o.dst (q.dr false) bx aC with
   |none=>rw[hm]at h;simp at h
   |some z=>
    rw[hm]at h;simp at h;obtain⟨rfl,rfl,rfl⟩:=h;obtain⟨e1,e2⟩:=Zvk hs hm;refine⟨e1,fun rows'=> ?_⟩;rw[e2 rows'];rfl
 ·simp at h;obtain⟨rfl,rfl,rfl⟩:=h;exact⟨rfl,fun _=>rfl⟩
 ·simp at h
theorem Zsd {di dj:Option Tmp} {pi pj:Prim} {aC rows1 rows2:List (Nat×Row)} {vi vj:TV} (hi:mkD (C:=C) di pi aC=some (vi,rows1)) (hj:mkD (C:=C) dj pj rows1=some (vj,rows2)):
  ∃rows1',mkD (C:=C) dj pj aC=some (vj,rows1')/\mkD (C:=C) di pi rows1'=some (vi,rows2):=by
 unfold mkD at*;cases hgi:mkG (C:=C) di pi with
 |none=>rw[hgi]at hi;simp at hi
 |some qi=>
  obtain⟨v1,o1⟩:=qi;rw[hgi]at hi;cases hgj:mkG (C:=C) dj pj with
  |none=>rw[hgj]at hj;simp at hj
  |some qj=>
   obtain⟨v2,o2⟩:=qj;rw[hgj]at hj;cases o1 with
   |none=>
    simp only[Option.some.injEq,Prod.mk.injEq]at hi;obtain⟨rfl,rfl⟩:=hi;exact⟨rows2,hj,rfl⟩
   |some k1=>
    obtain⟨k,r⟩:=k1;dsimp only at hi;split at hi
    ·simp at hi
    rename_i hn;simp only[Option.some.injEq,Prod.mk.injEq]at hi;obtain⟨rfl,rfl⟩:=hi;cases o2 with
    |none=>
     simp only[Option.some.injEq,Prod.mk.injEq]at hj;obtain⟨rfl,rfl⟩:=hj;refine⟨aC,rfl,?_⟩;dsimp only;rw[hn]
    |some k2=>
     obtain⟨k',r'⟩:=k2;dsimp only at hj;split at hj
     ·simp at hj
     rename_i hn';simp only[Option.some.injEq,Prod.mk.injEq]at hj;obtain⟨rfl,rfl⟩:=hj;have hne:k'≠k:=by
      rintro rfl;rw[Eo _ _ _ hn]at hn';cases hn'
     rw[Dl _ _ _ _ hne]at hn';refine⟨ins aC k' r',by dsimp only;rw[hn'],?_⟩;dsimp only;rw[Dl _ _ _ _ (fun e=>hne e.symm),hn];dsimp only;rw[Qnq _ _ _ _ _ hne]
theorem Zmv (hspec:Ai P C) {ops:Array Oper} {x y:Oper} {s s1 s2:St} {px py:Option Prim} (hw:WFst s) (hy:B7 (P:=P) (C:=C) ops.toList y s=some (py,s1)) (hx:B7 (P:=P) (C:=C) ops.toList x s1=some (px,s2))
  (hap:Oper.apart ops y x=true) (hm:Prim.meet C.ro py px=false) (hao:H9 y py x px=true):∃s1',B7 (P:=P) (C:=C) ops.toList x s=some (px,s1')/\B7 (P:=P) (C:=C) ops.toList y s1'=some (py,s2):=by
 obtain⟨a1,a2,a3⟩:=Oper.apart_spec hap;obtain⟨tm,bx,aC⟩:=s;have hwant:∀(o:Oper) (tm:List TV),o.guard.isNone=true->BQ ops.toList o tm=some true:=by
  intro o tm h;unfold BQ;rw[Option.isNone_iff_eq_none.1 h]
 have hopk:∀(o:Oper) (tm:List TV) (d:Option Tmp) (v:TV),(∀t,d=some t->t∉o.looksAt ops)->opK P C (AY (CK tm d v)) o.dst o.op some=opK P C (AY tm) o.dst o.op some:=by
  intro o tm d v h;cases d with
  |none=>rfl
  |some t=>
   exact Tb (fun x hx => Q2h (by
    rintro rfl;exact h t rfl (List.mem_append_left _ (List.mem_filterMap.2 ⟨.tmp t,by simpa using hx,rfl⟩)))) some
 cases hny:Prim.isApp py
 case true=>
  unfold H9 at hao;rw[hny]at hao;simp only[cond_true,Bool.and_eq_true]at hao;obtain⟨⟨⟨o1,o2⟩,o3⟩,o4⟩:=hao;have hnx:Prim.isApp px=false:=by simpa using o1
  obtain⟨_,q,id,vy,rows',hq,rfl,h3,h4,rfl⟩:=Qiu hy hny;obtain⟨vx,bx2,hcx,rfl⟩:=KX hx hnx (Q3c o4);unfold C3 at hcx;rw[hwant x _ o3]at hcx;dsimp only at hcx;rw[hopk x _ _ _ (fun t ht=>a1 t ht)]at hcx;cases hpx:opK P C (AY (tm.map (TV.kill id))) x.dst x.op some with
  |none=>rw[hpx]at hcx;simp at hcx
  |some qx=>
   rw[hpx]at hcx;simp only[Option.bind_some]at hcx;cases hmx:Av (C:=C) x.dst (qx.dr false) (bx.map fun p=>(p.1,p.2.kill id)) rows' with
   |none=>rw[hmx]at hcx;simp at hcx
   |some zx=>
    rw[hmx]at hcx;simp at hcx;obtain⟨rfl,rfl,rfl⟩:=hcx;obtain⟨g,cs,rfl,hl⟩:=Q4s o4;simp only[Prim.dr,Av,Option.some.injEq]at hmx;subst hmx;have hpx2:=(Qwb (P:=P) (C:=C) (id:=id) (tm:=tm) (dst:=x.dst) o4).1 hpx;refine⟨⟨CK tm x.dst (.v g cs),bx,aC⟩,Nr (by unfold C3;rw[hwant x _ o3];dsimp only;rw[hpx2];rfl),?_⟩;rw[Qss (hwant y _ o2) (by rw[hopk y _ _ _ (fun t ht=>a3 t ht)];exact hq) h3 h4 hny,Qun hl];dsimp only;rw[Mu vy _ a2]
 case false=>
 cases hnx:Prim.isApp px
 case true=>
  unfold H9 at hao;rw[hny,hnx]at hao;simp only[cond_true,cond_false,Bool.and_eq_true]at hao;obtain⟨⟨o2,o3⟩,o4⟩:=hao;obtain⟨vy,bx1,hcy,rfl⟩:=KX hy hny (Q3c o4);obtain⟨_,q,id,vx,rows',hq,rfl,h3,h4,rfl⟩:=Qiu hx hnx;rw[hopk x _ _ _ (fun t ht=>a1 t ht)]at hq;unfold C3 at hcy;rw[hwant y _ o2]at hcy;dsimp only at hcy;cases hpy:opK P C (AY tm) y.dst y.op some with
  |none=>rw[hpy]at hcy;simp at hcy
  |some qy=>
   rw[hpy]at hcy;simp only[Option.bind_some]at hcy;cases hmy:Av (C:=C) y.dst (qy.dr false) bx aC with
   |none=>rw[hmy]at hcy;simp at hcy
   |some zy=>
    rw[hmy]at hcy;simp at hcy;obtain⟨rfl,rfl,rfl⟩:=hcy;obtain⟨g,cs,rfl,hl⟩:=Q4s o4;simp only[Prim.dr,Av,Option.some.injEq]at hmy;subst hmy;have hpy2:=(Qwb (P:=P) (C:=C) (id:=id) (tm:=tm) (dst:=y.dst) o4).2 hpy;refine⟨_,Qss (hwant x _ o3) hq h3 h4 hnx,?_⟩;rw[Nr (p:=some (.val (.v g cs))) (v:= .v g cs) (by unfold C3;rw[hwant y _ o2];dsimp only;rw[hopk y _ _ _ (fun t ht=>a3 t ht),hpy2];rfl)];dsimp only[Prim.dr];rw[Qun hl,Mu vx _ (fun t ht e=>a2 t e ht)]
 case false=>
   unfold H9 at hao;rw[hny,hnx]at hao;simp only[cond_false]at hao;cases hmky:Prim.isMk py
   case true=>
    rw[hmky]at hao;simp only[cond_true]at hao;obtain⟨hwy,qy,vy,rows1,hqy,rfl,hmy,rfl⟩:=Ra hy hmky;cases hmkx:Prim.isMk px
    case true=>
     obtain⟨hwx,qx,vx,rows2,hqx,rfl,hmx,rfl⟩:=Ra hx hmkx;rw[PR (fun t ht=>a1 t ht)]at hwx;rw[hopk x _ _ _ (fun t ht=>a1 t ht)]at hqx;obtain⟨rows1',m1,m2⟩:=Zsd hmy hmx;refine⟨_,Q9 hwx hqx m1 hmkx,?_⟩;rw[Q9 (by rw[PR (fun t ht=>a3 t ht)];exact hwy) (by rw[hopk y _ _ _ (fun t ht=>a3 t ht)];exact hqy) m2 hmky,Mu vy vx a2]
    case false=>
     obtain⟨vx,bx2,hcx,rfl⟩:=KX hx hnx hmkx;rw[Ru (fun t ht=>a1 t ht)]at hcx;obtain⟨rfl,hc2⟩:=Q0d hao hcx;refine⟨_,Nr (hc2 aC),?_⟩;rw[Q9 (by rw[PR (fun t ht=>a3 t ht)];exact hwy) (by rw[hopk y _ _ _ (fun t ht=>a3 t ht)];exact hqy) hmy hmky,Mu vy vx a2]
   case false=>
   rw[hmky]at hao;simp only[cond_false]at hao;cases hmkx:Prim.isMk px
   case true=>
    rw[hmkx]at hao;simp only[cond_true]at hao;obtain⟨vy,bx1,hcy,rfl⟩:=KX hy hny hmky;obtain⟨rfl,hc2⟩:=Q0d hao hcy;obtain⟨hwx,qx,vx,rows2,hqx,rfl,hmx,rfl⟩:=Ra hx hmkx;rw[PR (fun t ht=>a1 t ht)]at hwx;rw[hopk x _ _ _ (fun t ht=>a1 t ht)]at hqx;refine⟨_,Q9 hwx hqx hmx hmkx,?_⟩;rw[Nr (by rw[Ru (fun t ht=>a3 t ht)];exact hc2 rows2),Mu vy vx a2]
   case false=>
   obtain⟨vy,bx1,hcy,rfl⟩:=KX hy hny hmky;obtain⟨vx,bx2,hcx,rfl⟩:=KX hx hnx hmkx;rw[Ru (fun t ht=>a1 t ht)]at hcx;have key:∃bx1',C3 P C ops.toList x tm bx aC=some (px,vx,bx1')/\C3 P C ops.toList y tm bx1' aC=some (py,vy,bx2):=by
    unfold C3 at hcy hcx⊢;split at hcy
    ·rename_i hwy;cases hpy:opK P C (AY tm) y.dst y.op some with
     |none=>rw[hpy]at hcy;simp at hcy
     |some qy=>
      rw[hpy]at hcy;simp only[Option.bind_some]at hcy;cases hmy:Av (C:=C) y.dst (qy.dr false) bx aC with
      |none=>rw[hmy]at hcy;simp at hcy
      |some zy=>
       rw[hmy]at hcy;simp at hcy;obtain⟨rfl,rfl,rfl⟩:=hcy;split at hcx
       ·rename_i hwx;cases hpx:opK P C (AY tm) x.dst x.op some with
        |none=>rw[hpx]at hcx;simp at hcx
        |some qx=>
         rw[hpx]at hcx;simp only[Option.bind_some]at hcx;cases hmx:Av (C:=C) x.dst (qx.dr false) zy.2 aC with
         |none=>rw[hmx]at hcx;simp at hcx
         |some zx=>
          rw[hmx]at hcx;simp at hcx;obtain⟨rfl,rfl,rfl⟩:=hcx;obtain⟨bx1',m1,m2⟩:=Z43 hspec hmy hmx hm a2 (Qme (ZR (fun x=>Qm8 hw.t x) hpx));exact⟨bx1',by simp[m1],by simp[m2]⟩
       ·rename_i hwx;simp at hcx;obtain⟨rfl,rfl,rfl⟩:=hcx;exact⟨bx,rfl,by simp[hmy]⟩
       ·simp at hcx
    ·rename_i hwy;simp at hcy;obtain⟨rfl,rfl,rfl⟩:=hcy;exact⟨bx2,hcx,rfl⟩
    ·simp at hcy
   obtain⟨bx1',k1,k2⟩:=key;refine⟨⟨CK tm x.dst vx,bx1',aC⟩,Nr k1,?_⟩;rw[Nr (by rw[Ru (fun t ht=>a3 t ht)];exact k2),Mu vy vx a2]
theorem Q9s (hspec:Ai P C) {ops:Array Oper} {m:List Nat} {x:Nat×Oper×Option Prim} {post:List (Nat×Oper×Option Prim)} {sf:St}:∀(pre:List (Nat×Oper×Option Prim)) (s:St),WFst s->Pd P C ops.toList m (pre++x::post) s sf->
  (∀y∈pre,C7 ops.toList m x.1=false/\C7 ops.toList m y.1=false/\Oper.apart ops y.2.1 x.2.1=true/\Prim.meet C.ro y.2.2 x.2.2=false/\H9 y.2.1 y.2.2 x.2.1 x.2.2=true)->
  ∃s1,Ij P C ops.toList m x.1 x.2.1 s=some (x.2.2,s1)/\Pd P C ops.toList m (pre++post) s1 sf
 |[],s,hw,h,_=>by
  obtain⟨i,o,p⟩:=x;exact h
 |(j,oy,py)::pre,s,hw,h,hy=>by
  obtain⟨s',h1,h2⟩:=h;obtain⟨w1,w2,q1,q2,q3⟩:=hy (j,oy,py) (by simp);have h1':=h1;unfold Ij at h1;rw[if_neg (by dsimp only at w2;rw[w2];simp)]at h1;obtain⟨s2,h3,h4⟩:=Q9s hspec pre s' (Zrp hw h1) h2 fun y hym=>hy y (by simp[hym]);unfold Ij at h3;rw[if_neg (by rw[w1];simp)]at h3;obtain⟨s1,h5,h6⟩:=Zmv hspec hw h1 h3 q1 q2 q3;refine⟨s1,by unfold Ij;rw[if_neg (by rw[w1];simp)];exact h5,s2,?_,h4⟩;unfold Ij;rw[if_neg (by dsimp only at w2;rw[w2];simp)];exact h6
inductive Before (ops : List Oper) : Nat -> Nat -> Prop where
 |one {i:Nat} {o:Oper} {e:Edge} (h:ops[i]? =some o) (he:e∈o.after.toList) (hb:Region.binds .any e=true):Before ops i e.on
 |more {i j:Nat} {o:Oper} {e:Edge} (h:ops[i]? =some o) (he:e∈o.after.toList) (hb:Region.binds .any e=true) (h':Before ops e.on j):Before ops i j
theorem Qpl {m:List Nat} {j:Nat}:∀(l:List Edge) (acc:Nat),Nat.testBit (R0 m l acc) j=true->Nat.testBit acc j=true\/∃e∈l,Region.binds .any e=true/\(e.on=j\/Nat.testBit (nth 0 m e.on) j=true)
 |[],acc,h=> .inl h
 |e::l,acc,h=>by
  simp only[R0]at h;cases hb:Region.binds .any e<;>rw[hb]at h
  ·rcases Qpl l _ h with h|⟨e',he,h'⟩
   ·exact .inl h
   ·exact .inr ⟨e',by simp[he],h'⟩
  ·rcases Qpl l _ h with h|⟨e',he,h'⟩
   ·simp only[cond_true]at h;have:Nat.testBit (acc|||(2^e.on|||nth 0 m e.on)) j=true:=h;rw[Nat.testBit_or,Nat.testBit_or]at this;rw[Bool.or_eq_true,Bool.or_eq_true]at this;rcases this with h|h|h
    ·exact .inl h
    ·refine .inr ⟨e,by simp,hb, .inl ?_⟩;rw[Nat.testBit_two_pow]at h;simpa using h
    ·exact .inr ⟨e,by simp,hb, .inr h⟩
   ·exact .inr ⟨e',by simp[he],h'⟩
theorem Z0s {α:Type} (n:Nat) (K:Nat->α):Qwk n K=K n:=by cases n<;>rfl
theorem Qrx {α:Type} (d:α):∀(l l':List α) (i:Nat),i<l.length->nth d (l++l') i=nth d l i
 |x::l,l',0,_=>rfl
 |x::l,l',i+1,h=>Qrx d l l' i (by simpa using h)
theorem Q3r {α:Type} (d x:α):∀(l:List α),nth d (l++[x]) l.length=x
 |[]=>rfl
 |y::l=>Q3r d x l
theorem Wn {α:Type} (d:α):∀(l:List α) (i:Nat),l.length<=i->nth d l i=d
 |[],_,_=>rfl
 |x::l,0,h=>by simp at h
 |x::l,i+1,h=>Wn d l i (by simpa using h)
theorem Qw0 {ops:List Oper} {K:List Nat->Option R} {r:R}:∀(l pre:List Oper) (m:List Nat),ops=pre++l->m.length=pre.length->(∀i j,i<m.length->Nat.testBit (nth 0 m i) j=true->Before ops i j)->RG l m K=some r->
  ∃m',K m'=some r/\∀i j,K2 m' i j=true->Before ops i j
 |[],pre,m,he,hl,hm,h=>⟨m,h,fun i j hij=>by
   by_cases hi:i<m.length
   ·exact hm i j hi hij
   ·unfold K2 at hij;rw[Wn 0 m i (by omega)]at hij;simp at hij⟩
 |o::l,pre,m,he,hl,hm,h=>by
  simp only[RG,Z0s,A4]at h;refine Qw0 l (pre++[o]) _ (by simp[he]) (by simp[hl]) (fun i j hi hij=> ?_) h;by_cases hi':i<m.length
  ·rw[Qrx 0 m _ i hi']at hij;exact hm i j hi' hij
  ·have hie:i=m.length:=by simp at hi;omega
   subst hie;rw[Q3r]at hij;have hoi:ops[m.length]? =some o:=by rw[he,hl];simp
   rcases Qpl _ _ hij with h0|⟨e,hel,hb,h0⟩
   ·simp at h0
   ·rcases h0 with h0|h0
    ·rw[<-h0];exact .one hoi hel hb
    ·by_cases hlt:e.on<m.length
     ·exact .more hoi hel hb (hm _ _ hlt h0)
     ·rw[Wn 0 m _ (by omega)]at h0;simp at h0
end
end Go.Bm
namespace Go.Bm
open Go.RowKit
section
variable {P:Program} {C:Cfg} {w:World} {R:Type} {Z:Base}
theorem Zb8 (hspec:Ai P C) {ops:List Oper} {o:Oper} {s s':St} {p:Option Prim} (h:B7 (P:=P) (C:=C) ops o s=some (p,s')) (hs:Prim.simple p=true) (K:Option Prim->St->Option R):
  Fk P C false ops o s K=K p s':=by
 have hrun:∀s1:St,s1=s->BQ ops o s.tmps=some true->(opK P C (AY s1.tmps) o.dst o.op fun p=>A1 C o.dst (p.dr false) s1 fun v s'=>put s' o.dst v (K (some (p.dr false))))=K p s':=by
  rintro s1 rfl hw;unfold B7 at h;rw[hw]at h;dsimp only at h;rw[Px];cases hp:opK P C (AY s1.tmps) o.dst o.op some with
  |none=>rw[hp]at h;simp at h
  |some q=>
   rw[hp]at h;simp only[Option.bind_some]at h;cases hm:EI (C:=C) o.dst (q.dr false) s1 with
   |none=>rw[hm]at h;simp at h
   |some z=>
    rw[hm]at h;simp at h;obtain⟨rfl,rfl⟩:=h;simp only[Option.bind_some];rw[Qti hspec hs,hm];simp only[Option.bind_some,Ll]
 have hskip:∀s1:St,s1=s->BQ ops o s.tmps=some false->put s1 o.dst (.tup []) (K none)=K p s':=by
  rintro s1 rfl hw;unfold B7 at h;rw[hw]at h;simp at h;obtain⟨rfl,rfl⟩:=h;rw[Ll]
 unfold Fk Q6;cases hg:o.guard with
 |none=>exact hrun s rfl (by simp[BQ,hg])
 |some jw=>
  obtain⟨j,want⟩:=jw;dsimp only;cases hj:ops[j]? with
  |none=>unfold B7 BQ at h;rw[hg]at h;dsimp only at h;rw[hj]at h;simp at h
  |some oj=>
   dsimp only;cases ht:oj.dst with
   |none=>unfold B7 BQ at h;rw[hg]at h;dsimp only at h;rw[hj]at h;dsimp only at h;rw[ht]at h;simp at h
   |some t=>
    dsimp only;split
    ·rename_i g hgv;have hw:BQ ops o s.tmps=some (g==want):=by simp only[BQ,hg,hj,ht,hgv]
     have hself:∀b,g=b->(⟨setL s.tmps t (.c (.bool b)),s.aB,s.aC⟩:St)=s:=by
      rintro b rfl;rw[Q18 hgv (by simp)]
     cases g
     ·simp only[cond_false];rw[E4];dsimp only;cases want
      ·exact hrun _ (hself false rfl) (by rw[hw];rfl)
      ·exact hskip _ (hself false rfl) (by rw[hw];rfl)
     ·simp only[cond_true];rw[E4];dsimp only;cases want
      ·exact hskip _ (hself true rfl) (by rw[hw];rfl)
      ·exact hrun _ (hself true rfl) (by rw[hw];rfl)
    ·rename_i hgv;exact hskip _ rfl (by simp only[BQ,hg,hj,ht,hgv])
    ·rename_i hno hno2;have hw:BQ ops o s.tmps=none:=by
      unfold BQ;rw[hg];dsimp only;rw[hj];dsimp only;rw[ht];dsimp only;split
      ·rename_i g hgv;exact(hno g hgv).elim
      ·rename_i hgv;exact(hno2 hgv).elim
      ·rfl
     unfold B7 at h;rw[hw]at h;simp at h
theorem Rel.wf {s:St} {tmps:Array Value} (h:Rel Z s tmps w):WFst s:=by
 obtain⟨ρ,h⟩:=h;exact⟨h.wt,h.wb⟩
structure Left (P : Program) (C : Cfg) (ops : Array Oper) (m : List Nat) (listed : Array Bool) (rem : List (Nat × Oper × Option Prim)) : Prop where
 sz:listed.size=ops.size
 op:∀x∈rem,ops[x.1]? =some x.2.1/\(C7 ops.toList m x.1||Prim.simple x.2.2)=true/\∀e∈x.2.1.after,Region.binds .any e=true->e.on<x.1
 out:∀i,i<ops.size->(listed.getD i true=false↔∃x∈rem,x.1=i)
 ord:(rem.map (·.1)).Pairwise (· < ·)
 cl:∀j o,ops[j]? =some o->listed.getD j false=true->∀e∈o.after,Region.binds .any e=true->listed.getD e.on false=true
 pr:∀pre x post,rem=pre++x::post->∀y∈pre,Before ops.toList x.1 y.1\/(C7 ops.toList m x.1=false/\C7 ops.toList m y.1=false/\Oper.apart ops y.2.1 x.2.1=true/\Prim.meet C.ro y.2.2 x.2.2=false/\H9 y.2.1 y.2.2 x.2.1 x.2.2=true)
theorem Q9h (hspec:Ai P C) (hok:∀t∈C.eqOk,P.stoodInHeld t=false) {ops:Array Oper} {m:List Nat} {Q:Exit->Act->World->Prop} {sf:St} {d0:List Deferred}
  (hq:∀(a:Act) (w:World),Rel Z sf a.tmps w->a.defers=d0->Q .normal a w):
  ∀(fuel:Nat) (listed:Array Bool) (rem:List (Nat×Oper×Option Prim)) (s:St) (a:Act) (w:World),rem.length=fuel->Left P C ops m listed rem->Pd P C ops.toList m rem s sf->WFst s->Rel Z s a.tmps w->a.defers=d0->
  wpAny P .any ops Q fuel listed a w
 |0,listed,rem,s,a,w,hl,hL,hrun,hwf,hR,hd=>by
  have hr:rem=[]:=List.eq_nil_of_length_eq_zero hl;subst hr;have:s=sf:=hrun;subst this;refine⟨?_,hq a w hR hd⟩;apply List.eq_nil_iff_forall_not_mem.2;intro i hi;obtain⟨h1,o,h2,_⟩:=mem_ready.1 hi;obtain⟨x,hx,_⟩:=(hL.out i (Array.getElem?_eq_some_iff.1 h2).1).1 h1;simp at hx
 |fuel+1,listed,rem,s,a,w,hl,hL,hrun,hwf,hR,hd=>by
  refine⟨fun hnil=> ?_,fun i hi=> ?_⟩
  ·exfalso;cases rem with
   |nil=>simp at hl
   |cons x rem=>
    obtain⟨h1,_,h2⟩:=hL.op x (by simp);have hlt:x.1<ops.size:=(Array.getElem?_eq_some_iff.1 h1).1;have:x.1∈Region.ready .any ops listed:=by
     refine mem_ready.2 ⟨(hL.out x.1 hlt).2 ⟨x,by simp,rfl⟩,x.2.1,h1,fun e he hb=> ?_⟩;have hlt2:=h2 e he hb;cases hle:listed.getD e.on false with
     |true=>rfl
     |false=>
      have hsz:e.on<listed.size:=by rw[hL.sz];omega
      have:listed.getD e.on true=false:=by
       rw[Array.getD,dif_pos hsz]at hle⊢;exact hle
      obtain⟨y,hy,hye⟩:=(hL.out e.on (by omega)).1 this;have hord:=hL.ord;simp only[List.map_cons,List.pairwise_cons]at hord;simp only[List.mem_cons]at hy;rcases hy with rfl|hy
      ·omega
      ·have:=hord.1 y.1 (List.mem_map_of_mem hy);omega
    rw[hnil]at this;simp at this
  ·obtain⟨h1,o,h2,h3⟩:=mem_ready.1 hi;have hilt:i<ops.size:=(Array.getElem?_eq_some_iff.1 h2).1;obtain⟨x,hx,hxi⟩:=(hL.out i hilt).1 h1;subst hxi;obtain⟨hxo,hxs,hxe⟩:=hL.op x hx;have hoo:o=x.2.1:=by rw[h2]at hxo;simpa using hxo
   subst hoo;obtain⟨pre,post,hsplit⟩:=List.append_of_mem hx;have hunl:∀y∈rem,listed.getD y.1 false=false:=by
    intro y hy;have hlt:y.1<ops.size:=(Array.getElem?_eq_some_iff.1 (hL.op y hy).1).1;have:=(hL.out y.1 hlt).2 ⟨y,hy,rfl⟩;have hsz:y.1<listed.size:=by rw[hL.sz];exact hlt
    rw[Array.getD,dif_pos hsz]at this⊢;exact this
   have hfree:∀y∈pre,C7 ops.toList m x.1=false/\C7 ops.toList m y.1=false/\Oper.apart ops y.2.1 x.2.1=true/\Prim.meet C.ro y.2.2 x.2.2=false/\H9 y.2.1 y.2.2 x.2.1 x.2.2=true:=by
    intro y hy;rcases hL.pr pre x post hsplit y hy with hr|hr
    ·exfalso;have hyl:=hunl y (by rw[hsplit];simp[hy]);have hbef:∀(i j:Nat),Before ops.toList i j->(∀oi,ops[i]? =some oi->∀e∈oi.after,Region.binds .any e=true->listed.getD e.on false=true)->listed.getD j false=true:=by
      intro i j hij;induction hij with
      |one ho he hb=>intro hcl;exact hcl _ (by simpa using ho) _ (by simpa using he) hb
      |more ho he hb _ ih=>
       intro hcl;have hel:=hcl _ (by simpa using ho) _ (by simpa using he) hb;exact ih fun oe hoe e2 he2 hb2=>hL.cl _ oe hoe hel e2 he2 hb2
     have:=hbef x.1 y.1 hr fun oi hoi e he hb=>by
      rw[h2]at hoi;simp at hoi;subst hoi;exact h3 e he hb
     rw[this]at hyl;simp at hyl
    ·exact hr
   rw[hsplit]at hrun;obtain⟨s1,hs1,hrun1⟩:=Q9s hspec pre s hwf hrun hfree;have hex:∃b,Fk P C b ops.toList x.2.1 s (fun po s'=>(some (po,s'):Option (Option Prim×St)))=some (x.2.2,s1):=by
    unfold Ij at hs1;cases hw:C7 ops.toList m x.1
    ·rw[if_neg (by rw[hw];simp)]at hs1;rw[hw]at hxs;exact⟨false,Zb8 hspec hs1 (by simpa using hxs) _⟩
    ·rw[if_pos hw]at hs1;exact⟨true,hs1⟩
   obtain⟨b,hex⟩:=hex;have hop := Q4c (Q := Q) (next := wpAny P .any ops Q fuel (listed.setIfInBounds x.1 true)) hspec hok hR hex (fun po s' a' w' hK hR' hd' => by
    simp at hK;obtain⟨rfl,rfl⟩:=hK;refine Q9h hspec hok hq fuel _ (pre++post) _ a' w' ?_ ?_ hrun1 hR'.wf hR' (hd'.trans hd)
    ·rw[hsplit]at hl;simp at hl⊢;omega
    ·have hsub:∀y,y∈pre++post->y∈rem:=by
      intro y hy;rw[hsplit];simp at hy⊢;rcases hy with hy|hy<;>simp[hy]
     have hne:∀y∈pre++post,y.1≠x.1:=by
      intro y hy;have hord:=hL.ord;rw[hsplit]at hord;simp only[List.map_append,List.map_cons,List.pairwise_append,List.pairwise_cons]at hord;obtain⟨o1,⟨o2,o3⟩,o4⟩:=hord;simp at hy;rcases hy with hy|hy
      ·have:=o4 y.1 (List.mem_map_of_mem hy) x.1 (by simp);omega
      ·have:=o2 y.1 (List.mem_map_of_mem hy);omega
     have hg:∀(j:Nat) (d:Bool),(listed.setIfInBounds x.1 true).getD j d=if j=x.1 then true else listed.getD j d:=by
      intro j d;by_cases hj:j=x.1
      ·subst hj;have:x.1<listed.size:=by rw[hL.sz];exact hilt
       simp[Array.getD,this]
      ·rw[if_neg hj];exact getD_set_ne d (fun e=>hj e.symm)
     refine⟨by simpa using hL.sz,fun y hy=>hL.op y (hsub y hy),fun j hj=> ?_,?_,?_,?_⟩
     ·rw[hg];constructor
      ·intro hh;split at hh
       ·simp at hh
       ·rename_i hjx;obtain⟨y,hy,hyj⟩:=(hL.out j hj).1 hh;refine⟨y,?_,hyj⟩;rw[hsplit]at hy;simp at hy⊢;rcases hy with hy|rfl|hy
        ·exact .inl hy
        ·exact absurd hyj.symm hjx
        ·exact .inr hy
      ·rintro⟨y,hy,rfl⟩;rw[if_neg (hne y hy)];exact(hL.out y.1 hj).2 ⟨y,hsub y hy,rfl⟩
     ·have hord:=hL.ord;rw[hsplit]at hord;simp only[List.map_append,List.map_cons,List.pairwise_append,List.pairwise_cons]at hord⊢;obtain⟨o1,⟨o2,o3⟩,o4⟩:=hord;exact⟨o1,o3,fun u hu v hv=>o4 u hu v (by simp[hv])⟩
     ·intro j oj hj hlj e he hb;rw[hg]at hlj⊢;split
      ·rfl
      ·split at hlj
       ·rename_i hjx;subst hjx;rw[h2]at hj;simp at hj;subst hj;exact h3 e he hb
       ·exact hL.cl j oj hj hlj e he hb
     ·intro pre' z post' hs' y hy
      have:∃pre2 post2,rem=pre2++z::post2/\y∈pre2:=by
       rcases List.append_eq_append_iff.1 hs' with⟨as,e1,e2⟩|⟨bs,e1,e2⟩
       ·
        refine⟨pre++x::as,post',by rw[hsplit,e2];simp,?_⟩;rw[e1]at hy;simp at hy⊢;rcases hy with hy|hy
        ·exact .inl hy
        ·exact .inr (.inr hy)
       ·cases bs with
        |nil=>
         simp at e1 e2;refine⟨pre++[x],post',?_,?_⟩
         ·rw[hsplit,<-e2];simp
         ·rw[e1];simp[hy]
        |cons b bs=>
         simp at e2;obtain⟨rfl,e2⟩:=e2;exact⟨pre',bs++x::post,by rw[hsplit,e1];simp,hy⟩
      obtain⟨pre2,post2,q1,q2⟩:=this;exact hL.pr pre2 z post2 q1 y q2)
   unfold wpOp;rw[h2];dsimp only;split
   ·rename_i hw;rw[if_pos hw]at hop;exact .inl hop
   ·rename_i hw;rw[if_neg hw]at hop;exact hop
end
end Go.Bm
namespace Go.Bm
open Go.RowKit
section
variable {P:Program} {C:Cfg} {w:World} {R:Type} {Z:Base}
theorem Zf0 {c a:Bool} (h:(bif c then a else false)=true):c=true/\a=true:=by cases c<;>simp at h;exact⟨rfl,h⟩
theorem Q4m {ops:Array Oper} {m:List Nat}:∀(ps earlier:List (Nat×Oper×Option Prim)) (i:Nat),ps.map (·.1)=List.range' i ps.length->Kv C ops m i earlier (ps.map (·.2))=true->
  ∀pre x post,ps=pre++x::post->(C7 ops.toList m x.1||Prim.simple x.2.2)=true/\(∀e∈x.2.1.after,Region.binds .any e=true->e.on<x.1)/\
   ∀y∈earlier++pre,K2 m x.1 y.1=true\/(C7 ops.toList m x.1=false/\C7 ops.toList m y.1=false/\Oper.apart ops y.2.1 x.2.1=true/\Prim.meet C.ro y.2.2 x.2.2=false/\H9 y.2.1 y.2.2 x.2.1 x.2.2=true)
 |[],earlier,i,_,_,pre,x,post,h=>by simp at h
 |(j,o,p)::ps,earlier,i,hidx,hok,pre,x,post,h=>by
  simp only[List.map_cons,List.length_cons,List.range'_succ,List.cons.injEq]at hidx;obtain⟨rfl,hidx⟩:=hidx;simp only[List.map_cons,Kv]at hok;generalize hc:((C7 ops.toList m j||Prim.simple p)&&o.after.toList.all (fun e=> !(Region.binds .any e)||Nat.blt e.on j)&&Ak (fun y:Nat×Oper×Option Prim=>K2 m j y.1||(!(C7 ops.toList m j)&& !(C7 ops.toList m y.1)&&(Oper.apart ops y.2.1 o&& !(Prim.meet C.ro y.2.2 p)&&H9 y.2.1 y.2.2 o p))) earlier)=c at hok;cases c
  ·simp at hok
  ·simp only[cond_true]at hok;simp only[Bool.and_eq_true]at hc;obtain⟨⟨c1,c2⟩,c3⟩:=hc;cases pre with
   |nil=>
    simp at h;obtain⟨rfl,rfl⟩:=h;refine⟨c1,fun e he hb=> ?_,fun y hy=> ?_⟩
    ·have:=List.all_eq_true.1 c2 e (by simpa using he);rw[hb]at this;simpa using this
    ·simp at hy;have:=Ax.1 c3 y hy;rw[Bool.or_eq_true]at this;simp only[Bool.and_eq_true,Bool.not_eq_true']at this;rcases this with h|⟨⟨w1,w2⟩,⟨h1,h2⟩,h3⟩
     ·exact .inl h
     ·exact .inr ⟨w1,w2,h1,h2,h3⟩
   |cons q pre=>
    simp at h;obtain⟨rfl,rfl⟩:=h;obtain⟨h1,h2,h3⟩:=Q4m (pre++x::post) (earlier++[(j,o,p)]) (j+1) hidx hok pre x post rfl;refine⟨h1,h2,fun y hy=>h3 y ?_⟩;simpa using hy
theorem Q4y {ops:Array Oper} {m:List Nat}:∀(l:List (Oper×Option Prim)) (earlier:List (Nat×Oper×Option Prim)) (i:Nat),Kv C ops m i earlier l=true->∀(j:Nat) (q:Oper×Option Prim),l[j]? =some q->(C7 ops.toList m (i+j)||Prim.simple q.2)=true
 |[],_,_,_,j,q,hq=>by simp at hq
 |(o,p)::l,earlier,i,h,j,q,hq=>by
  simp only[Kv]at h;obtain⟨hc,h⟩:=Zf0 h;simp only[Bool.and_eq_true]at hc;cases j with
  |zero=>simp at hq;subst hq;exact hc.1.1
  |succ j=>
   rw[show i+(j+1)=i+1+j from by omega];exact Q4y l _ _ h j q (by simpa using hq)
theorem Rel.drew {s:St} {tmps:Array Value} (h:Rel Z s tmps w):Rel Z s tmps {w with drawn:=w.drawn+1}:=by
 obtain⟨ρ,h⟩:=h;have hcc:∀(a:AC) (x:Value),CC ρ w a x->CC ρ {w with drawn:=w.drawn+1} a x:=fun a x hx=>CC.mono (w:=w) (w':={w with drawn:=w.drawn+1}) (fun _ h=>h) (fun _ _=>rfl) a x (AC.agree_refl rfl rfl rfl a) hx;refine⟨ρ,h.tl,fun i v hi=>TVR.mono hcc v _ (h.tv i v hi),h.wt,h.wb,?_,h.bi,?_,h.ri,h.br,h.ib,h.fr.drew,h.fs,h.i0,h.i1,h.k0⟩
 ·intro k b hk;obtain⟨arr,q1,q2,q3⟩:=h.bx k b hk;exact⟨arr,q1,q2.mono fun a _ x hx=>hcc a x hx,q3⟩
 ·intro id r hr;obtain⟨q1,q2,q0,xs,q3,q4⟩:=h.ro id r hr;exact⟨q1,q2,q0,xs,K4 q3 (fun _ _=>rfl),RowC.mono (w:=w) (fun _ h=>h) (fun _ _=>rfl) q4⟩
theorem Zzm (hspec:Ai P C) (hok:∀t∈C.eqOk,P.stoodInHeld t=false) (hmix:P.follows .mixedOrders=true) {id:Nat} {ops:Array Oper} {draw:Bool} {s:St} {a:Act} (hR:Rel Z s a.tmps w) {K:St->Option R} {r:R}
  (h:Qbq P C ops draw s K=some r) {Q:Exit->Act->World->Prop} (hq:∀(s':St) (a':Act) (w':World),K s'=some r->Rel Z s' a'.tmps w'->a'.defers=a.defers->Q .normal a' w'):
  (Code.region id ops draw).wp P Q a w:=by
 cases draw
 ·exact wp_region_list (Qyi hspec hok _ s a w hR h hq)
 ·simp only[Qbq,cond_true]at h;refine wp_region_any hmix ?_;obtain⟨m,h,hm⟩:=Qw0 (ops:=ops.toList) ops.toList [] [] rfl rfl (fun i j hi=>by simp at hi) h;rcases Y_ hspec ops.toList 0 s _ r h with⟨ps,sf,q1,q2,q3,q4⟩|⟨acc,sf,q1,j,q,q2,q3⟩
  ·cases hd:Kv C ops m 0 [] (ps.map (·.2))<;>rw[hd]at q4
   ·simp at q4
   ·simp only[cond_true]at q4;have hlen:ps.length=ops.size:=by have:=congrArg List.length q1;simpa using this
    have hidx:ps.map (·.1)=List.range' 0 ps.length:=by rw[q2];simp[hlen]
    have hsp:=Q4m ps [] 0 hidx hd;have hpos:∀(i:Nat) (x:Nat×Oper×Option Prim),ps[i]? =some x->x.1=i/\ops[i]? =some x.2.1:=by
     intro i x hx;have h1:(ps.map (·.1))[i]? =some x.1:=by simp[hx]
     have h2:(ps.map (·.2.1))[i]? =some x.2.1:=by simp[hx]
     rw[hidx,List.getElem?_range']at h1;rw[q1]at h2
     ·simp at h1;exact⟨by omega,by simpa using h2⟩
     ·exact(List.getElem?_eq_some_iff.1 hx).1
    refine Q9h hspec hok (m:=m) (sf:=sf) (d0:=a.defers) (fun a' w' hR' hd'=>hq sf a' w' q4 hR' hd') ops.size _ ps s a _ hlen ?_ q3 hR.wf hR.drew rfl;refine⟨by simp,fun x hx=> ?_,fun i hi=> ?_,?_,?_,?_⟩
    ·obtain⟨pre,post,hs⟩:=List.append_of_mem hx;obtain⟨c1,c2,_⟩:=hsp pre x post hs;obtain⟨i,hi⟩:=List.getElem?_of_mem hx;obtain⟨p1,p2⟩:=hpos i x hi;exact⟨by rw[p1];exact p2,c1,c2⟩
    ·constructor
     ·intro _;have hlt:i<ps.length:=by omega
      exact⟨ps[i],List.getElem_mem hlt,(hpos i ps[i] (List.getElem?_eq_getElem hlt)).1⟩
     ·intro _;simp[Array.getD,hi]
    ·rw[hidx];exact List.pairwise_lt_range'
    ·intro j o hj hl;have hlt:j<ops.size:=(Array.getElem?_eq_some_iff.1 hj).1;simp[Array.getD,hlt]at hl
    ·intro pre x post hs y hy;rcases(hsp pre x post hs).2.2 y (by simpa using hy)with h1|h1
     ·exact .inl (hm _ _ h1)
     ·exact .inr h1
  ·cases hd:Kv C ops m 0 [] acc<;>rw[hd]at q1
   ·simp at q1
   ·have:=Q4y acc [] 0 hd j q q2;rw[q3]at this;simp at this
def PL:Ex->Exit
 | .normal=> .normal
 | .exit id=> .exit id
 | .ret=> .ret
def I7 (Z:Base) (K:Ex->St->Option R) (r:R) (d:List Deferred):Exit->Act->World->Prop:=
 fun e a w=>∃ae s,PL ae=e/\K ae s=some r/\Rel Z s a.tmps w/\a.defers=d
theorem Zan {step:St->(Ex->St->Option R)->Option R} {body:Code} {K:Ex->St->Option R} {r:R} {d:List Deferred}
  (hstep:∀(s:St) (a:Act) (w:World) (K':Ex->St->Option R),Rel Z s a.tmps w->a.defers=d->step s K'=some r->body.wp P (I7 Z K' r d) a w):
  ∀(n:Nat) (s:St) (a:Act) (w:World),Rel Z s a.tmps w->a.defers=d->QX P C step n s K=some r->Code.rounds P body (I7 Z K r d) n a w
 |0,s,a,w,hR,hd,h=>by simp[QX]at h
 |n+1,s,a,w,hR,hd,h=>by
  rw[QX]at h;rw[rounds_succ];refine wp_mono (hstep s a w _ hR hd h) ?_;rintro e a' w' ⟨ae,s2,rfl,hK,hR2,hd2⟩;cases ae with
  |normal=>
   obtain⟨st,ht,hRt⟩:=Qc hR2 hK;exact Zan hstep n st a' w' hRt hd2 ht
  |exit id=>exact⟨.exit id,s2,rfl,hK,hR2,hd2⟩
  |ret=>exact⟨.ret,s2,rfl,hK,hR2,hd2⟩
def InZ (Z:Base):Prop:=∀k b,Z.K0 k=some b->Fqs k=true
def Jo (P:Program) (c:Code) (sk:Sk) (g:Kn):Prop:=
 ∀(Z:Base) (_:InZ Z) (a:Act) (w:World) (vars:List AC) (R:Type) (K:Ex->St->Option R) (r:R),Rel Z (Bq sk vars) a.tmps w->g R vars K=some r->c.wp P (I7 Z K r a.defers) a w
structure SubOK (P : Program) (C : Cfg) (c : Code) (blk : Nat) : Prop where
 l:∀p∈AN c blk,∀sk g,C.loops p.1=some (sk,g)->Jo P (.loop p.2) sk g
 b:∀p∈A2 c,∀sk g,C.blocks p.1=some (sk,g)->Jo P (.block p.1 p.2) sk g
 c:∀p∈A7 c blk,∀sk g,C.conds p.1=some (sk,g)->Jo P (.cond (.tmp p.1) p.2.2.1 p.2.2.2) sk g
theorem Ii:∀(c:Code) (b b':Nat),AN c b=AN c b'
 | .seq x y,b,b'=>by simp only[AN,Ii x b b',Ii y b b']
 | .cond _ x y,b,b'=>by simp only[AN,Ii x b b',Ii y b b']
 | .block _ x,b,b'=>by simp only[AN,Ii x b b']
 | .loop x,b,b'=>by simp only[AN,Ii x b b']
 | .skip,_,_=>rfl
 | .region _ _ _,_,_=>rfl
 | .exit _,_,_=>rfl
 | .ret,_,_=>rfl
 | .rangeFunc _ _ _ _,_,_=>rfl
 | .scope x,b,b'=>by simp only[AN,Ii x b b']
 | .label _,_,_=>rfl
 | .goto _,_,_=>rfl
 | .refuse _,_,_=>rfl
theorem HZ:∀(c:Code) (b b':Nat),A7 c b=A7 c b'
 | .seq x y,b,b'=>by simp only[A7,HZ x b b',HZ y b b']
 | .cond c x y,b,b'=>by cases c<;>simp only[A7,HZ x b b',HZ y b b']
 | .block _ x,b,b'=>by simp only[A7,HZ x b b']
 | .loop x,b,b'=>by simp only[A7,HZ x b b']
 | .skip,_,_=>rfl
 | .region _ _ _,_,_=>rfl
 | .exit _,_,_=>rfl
 | .ret,_,_=>rfl
 | .rangeFunc _ _ _ _,_,_=>rfl
 | .scope x,b,b'=>by simp only[A7,HZ x b b']
 | .label _,_,_=>rfl
 | .goto _,_,_=>rfl
 | .refuse _,_,_=>rfl
theorem SubOK.any {c:Code} (b:Nat) {b':Nat} (h:SubOK P C c b):SubOK P C c b':=
 ⟨fun p hp=>h.l p (by rw[Ii c b b'];exact hp),h.b,fun p hp=>h.c p (by rw[HZ c b b'];exact hp)⟩
theorem X3 {c:Code} {told:Option (Sk×Kn)} {s:St} {a:Act} {K:Ex->St->Option R} {r:R} {d:List Deferred} {run:Option R} (hZ:InZ Z)
  (ht:∀sk g,told=some (sk,g)->Jo P c sk g) (hR:Rel Z s a.tmps w) (hd:a.defers=d) (h:PN told s K run=some r) (hrun:run=some r->c.wp P (I7 Z K r d) a w):c.wp P (I7 Z K r d) a w:=by
 unfold PN at h;split at h
 ·exact hrun h
 ·rename_i sk g;obtain⟨hok,h2⟩:=BL h;split at h2
  ·rename_i vars hv;obtain⟨ρ,hR⟩:=hR;obtain⟨tm,aB,aC⟩:=s;subst hd;exact ht sk g rfl Z hZ a w vars R K r ⟨ρ,hR.rebuild hZ hok hv⟩ h2
  ·simp at h2
theorem Qx7 {ρ:Env} {d:Nat} {a:AC} {x:Value} (h:CC ρ w a x):CC ρ w (a.killP d) x:=by
 cases a with
 |ptr k o=>simp only[AC.killP];cases Nat.beq k d<;>first|exact h|exact h.one
 |bsl k o=>simp only[AC.killP];cases Nat.beq k d<;>first|exact h|exact h.one
 |clo f fs cs=>simp only[AC.killP];cases(Ak (JS d) fs&&Ak (JS d) cs)<;>first|exact h|exact h.one
 |_=>exact h
theorem S0 {ρ:Env} {f:AC->AC} (hf:∀(a:AC) (x:Value),CC ρ w a x->CC ρ w (f a) x):∀{l:List AC} {xs:List Value},CL (CC ρ w) l xs->CL (CC ρ w) (l.map f) xs
 |[],[],_=>trivial
 |_::_,_::_,h=>⟨hf _ _ h.1,S0 hf h.2⟩
 |[],_::_,h=>h.elim
 |_::_,[],h=>h.elim
theorem Za5 {ρ:Env} {f:AC->AC} (hf:∀(a:AC) (x:Value),CC ρ w a x->CC ρ w (f a) x) {v:TV} {x:Value} (h:TVR ρ w v x):TVR ρ w (v.mapC f) x:=by
 cases v with
 |dead=>trivial
 |tup ps=>
  obtain⟨ys,rfl,hy⟩:=h;refine⟨ys,rfl,?_⟩;generalize ys.toList=l at hy;induction ps generalizing l with
  |nil=>cases l<;>first|exact hy|exact hy.elim
  |cons p ps ih=>
   cases l with
   |nil=>exact hy.elim
   |cons y l=>
    obtain⟨g,cs⟩:=p;refine⟨?_,ih l hy.2⟩;have:=hy.1;cases g
    ·obtain⟨a,h1,ha⟩:=this;subst h1;exact⟨_,rfl,hf _ _ ha⟩
    ·obtain⟨zs,h1,hz⟩:=this;exact⟨zs,h1,S0 hf hz⟩
 |v g cs=>
  cases g
  ·obtain⟨a,rfl,ha⟩:=h;exact⟨_,rfl,hf _ _ ha⟩
  ·obtain⟨ys,rfl,hy⟩:=h;exact⟨ys,rfl,S0 hf hy⟩
theorem RelE.forget {tm:List TV} {aB:List (Nat×Box)} {aC:List (Nat×Row)} {ρ:Env} {tmps:Array Value} (h:RelE Z tm aB aC ρ tmps w) {d:Nat} (hd:∀b,Z.K0 d≠some b):
  RelE Z (tm.map (TV.mapC (AC.killP d))) ((del d aB).map fun p=>(p.1,(⟨p.2.ty,p.2.cells.map (AC.killP d)⟩:Box))) aC ρ tmps w:=by
 have hlk:∀k,Ab ((del d aB).map fun p=>(p.1,(⟨p.2.ty,p.2.cells.map (AC.killP d)⟩:Box))) k=(Ab (del d aB) k).map fun b=>⟨b.ty,b.cells.map (AC.killP d)⟩:=fun k=>FJ (fun b:Box=>(⟨b.ty,b.cells.map (AC.killP d)⟩:Box)) _ k;have hlk':∀(k:Nat) (b:Box),Ab ((del d aB).map fun p=>(p.1,(⟨p.2.ty,p.2.cells.map (AC.killP d)⟩:Box))) k=some b->k≠d/\∃b',Ab aB k=some b'/\b=⟨b'.ty,b'.cells.map (AC.killP d)⟩:=by
  intro k b hk;rw[hlk]at hk;simp only[Option.map_eq_some_iff]at hk;obtain⟨b',h1,rfl⟩:=hk;obtain⟨h2,h3⟩:=KH h1;exact⟨h2,b',h3,rfl⟩
 have hbx:∀(k:Nat) (b:Box),k≠d->Ab aB k=some b->∃b',Ab ((del d aB).map fun p=>(p.1,(⟨p.2.ty,p.2.cells.map (AC.killP d)⟩:Box))) k=some b':=fun k b hne hk=>⟨_,by rw[hlk,L9 _ _ _ hne,hk];rfl⟩;have hnp:∀a,JS d a=true->AC.wfP aB a->AC.wfP ((del d aB).map fun p=>(p.1,(⟨p.2.ty,p.2.cells.map (AC.killP d)⟩:Box))) a:=by
  intro a hn ha;cases a<;>try exact trivial
  rename_i k o;obtain⟨b,hb⟩:=ha;simp only[JS,Bool.not_eq_true']at hn;exact hbx k b (GU hn) hb
 have hwf:∀a,AC.wf aB aC a->AC.wf ((del d aB).map fun p=>(p.1,(⟨p.2.ty,p.2.cells.map (AC.killP d)⟩:Box))) aC (a.killP d):=by
  intro a ha;cases a with
  |ptr k o=>
   simp only[AC.killP];cases hk:Nat.beq k d
   ·obtain⟨b,hb⟩:=ha;exact hbx k b (GU hk) hb
   ·exact trivial
  |bsl k o=>
   simp only[AC.killP];cases hk:Nat.beq k d
   ·obtain⟨b,hb⟩:=ha;exact hbx k b (GU hk) hb
   ·exact trivial
  |clo f fs cs=>
   simp only[AC.killP];cases hc:(Ak (JS d) fs&&Ak (JS d) cs)
   ·exact trivial
   ·simp only[Bool.and_eq_true]at hc;exact⟨fun a h'=>hnp a (Ax.1 hc.1 a h') (ha.1 a h'),fun a h'=>hnp a (Ax.1 hc.2 a h') (ha.2 a h')⟩
  |_=>exact ha
 refine⟨by simpa using h.tl,?_,?_,?_,?_,?_,h.ro,h.ri,?_,?_,h.fr,h.fs,h.i0,h.i1,?_⟩
 ·intro i v hi;simp only[List.getElem?_map,Option.map_eq_some_iff]at hi;obtain⟨u,hu,rfl⟩:=hi;exact Za5 (fun _ _=>Qx7) (h.tv i u hu)
 ·intro v hv;simp only[List.mem_map]at hv;obtain⟨u,hu,rfl⟩:=hv;have:=h.wt u hu;cases u with
  |dead=>trivial
  |v g cs=>
   intro a ha;simp only[List.mem_map]at ha;obtain⟨c,hc,rfl⟩:=ha;exact hwf c (this c hc)
  |tup ps=>
   intro p hp a ha;simp only[List.mem_map]at hp;obtain⟨q,hq,rfl⟩:=hp;simp only[List.mem_map]at ha;obtain⟨c,hc,rfl⟩:=ha;exact hwf c (this q hq c hc)
 ·intro k b hk a ha;obtain⟨_,b',hb',rfl⟩:=hlk' k b hk;simp only[List.mem_map]at ha;obtain⟨c,hc,rfl⟩:=ha;exact hwf c (h.wb k b' hb' c hc)
 ·intro k b hk;obtain⟨_,b',hb',rfl⟩:=hlk' k b hk;obtain⟨arr,h1,h2,h3⟩:=h.bx k b' hb';exact⟨arr,h1,S0 (fun _ _=>Qx7) h2,h3⟩
 ·intro k k' b b' hk hk';obtain⟨_,_,p1,_⟩:=hlk' k b hk;obtain⟨_,_,p2,_⟩:=hlk' k' b' hk';exact h.bi k k' _ _ p1 p2
 ·intro k b j q hk hq;obtain⟨_,_,p1,_⟩:=hlk' k b hk;exact h.br k _ j q p1 hq
 ·intro b hb;obtain⟨q1,q2,q3⟩:=h.ib b hb;exact⟨q1,fun k bo hk=>by obtain⟨_,_,p,_⟩:=hlk' k bo hk;exact q2 k _ p,q3⟩
 ·intro k b hk;obtain⟨p1,bo,p2⟩:=h.k0 k b hk;exact⟨p1,hbx k bo (by rintro rfl;exact hd b hk) p2⟩
theorem Qqb (hZ:InZ Z) {tmps:Array Value} {K:St->Option R} {r:R}:∀(l:List Nat) (s:St),Rel Z s tmps w->QF l s K=some r->∃s',K s'=some r/\Rel Z s' tmps w
 |[],s,hR,h=>⟨s,h,hR⟩
 |d::l,⟨tm,aB,aC⟩,hR,h=>by
  simp only[QF]at h;split at h
  ·exact Qqb hZ l _ hR h
  ·cases hd:Fqs d<;>rw[hd]at h
   ·simp only[cond_false,A4]at h;obtain⟨ρ,hR⟩:=hR;exact Qqb hZ l _ ⟨ρ,hR.forget (d:=d) fun b hb=>by rw[hZ d b hb]at hd;cases hd⟩ h
   ·simp at h
theorem Ge (hspec:Ai P C) (hok:∀t∈C.eqOk,P.stoodInHeld t=false) (hmix:P.follows .mixedOrders=true) (hZ:InZ Z) {r:R} {d:List Deferred}:
  ∀(c:Code) (L blk:Nat) (s:St) (a:Act) (w:World) (K:Ex->St->Option R),SubOK P C c blk->Rel Z s a.tmps w->a.defers=d->CX P C L c blk s K=some r->c.wp P (I7 Z K r d) a w
 | .skip,L,blk,s,a,w,K,hl,hR,hd,h=>wp_skip ⟨.normal,s,rfl,h,hR,hd⟩
 | .region id ops draw,L,blk,s,a,w,K,hl,hR,hd,h=>by
  rw[CX]at h;obtain⟨s0,h,hR⟩:=Qqb hZ _ s hR h;exact Zzm hspec hok hmix hR h fun s' a' w' hK hR' hd'=>⟨.normal,s',rfl,hK,hR',hd'.trans hd⟩
 | .seq x y,L,blk,s,a,w,K,hl,hR,hd,h=>by
  rw[CX]at h;refine wp_seq (wp_mono (Ge hspec hok hmix hZ x L blk s a w _ ⟨fun p hp=>hl.l p (by simp[AN,hp]),fun p hp=>hl.b p (by simp[A2,hp]),fun p hp=>hl.c p (by simp[A7,hp])⟩ hR hd h) ?_);rintro e a' w' ⟨ae,s',rfl,hK,hR',hd'⟩;cases ae with
  |normal=>exact Ge hspec hok hmix hZ y L blk s' a' w' K ⟨fun p hp=>hl.l p (by simp[AN,hp]),fun p hp=>hl.b p (by simp[A2,hp]),fun p hp=>hl.c p (by simp[A7,hp])⟩ hR' hd' hK
  |exit id=>exact⟨.exit id,s',rfl,hK,hR',hd'⟩
  |ret=>exact⟨.ret,s',rfl,hK,hR',hd'⟩
 | .cond c x y,L,blk,s,a,w,K,hl,hR,hd,h=>by
  have hx:SubOK P C x blk:=⟨fun p hp=>hl.l p (by simp[AN,hp]),fun p hp=>hl.b p (by simp[A2,hp]),fun p hp=>hl.c p (by cases c<;>simp[A7,hp])⟩;have hy:SubOK P C y blk:=⟨fun p hp=>hl.l p (by simp[AN,hp]),fun p hp=>hl.b p (by simp[A2,hp]),fun p hp=>hl.c p (by cases c<;>simp[A7,hp])⟩;rw[CX]at h;refine X3 (c:= .cond c x y) hZ ?_ hR hd h fun h2=> ?_
  ·intro sk g ht;unfold Q1d at ht;split at ht
   ·rename_i t;exact hl.c (t,0,x,y) (by simp[A7]) sk g ht
   ·simp at ht
  ·split at h2
   ·rename_i g hg;have hc:a.eval c= .bool g:=by
     obtain⟨ρ,hRE⟩:=hR;have:=Qrn hRE c;rw[hg]at this;exact this.bool
    refine wp_cond hc ?_;split at h2
    ·rename_i t;have hlb:∀b,g=b->Rel Z ⟨setL s.tmps t (.c (.bool b)),s.aB,s.aC⟩ a.tmps w:=by
      rintro b rfl;obtain⟨ρ,hRE⟩:=hR;exact⟨ρ,hRE.learn t (by have e:a.tmps.getD t undef= .bool g:=hc;rw[e];exact TVR.mkBool _) (IV _)⟩
     cases g
     ·simp only[cond_false]at h2;rw[E4]at h2;exact Ge hspec hok hmix hZ y L blk _ a w K hy (hlb false rfl) hd h2
     ·simp only[cond_true]at h2;rw[E4]at h2;exact Ge hspec hok hmix hZ x L blk _ a w K hx (hlb true rfl) hd h2
    ·cases g
     ·exact Ge hspec hok hmix hZ y L blk s a w K hy hR hd h2
     ·exact Ge hspec hok hmix hZ x L blk s a w K hx hR hd h2
   ·simp at h2
 | .block id body,L,blk,s,a,w,K,hl,hR,hd,h=>by
  have hb:SubOK P C body id:=SubOK.any blk ⟨fun p hp=>hl.l p (by simp[AN,hp]),fun p hp=>hl.b p (by simp[A2,hp]),fun p hp=>hl.c p (by simp[A7,hp])⟩;rw[CX]at h;refine X3 (c:= .block id body) hZ (hl.b (id,body) (by simp[A2])) hR hd h fun h2=> ?_;refine wp_block (wp_mono (Ge hspec hok hmix hZ body L id s a w _ hb hR hd h2) ?_);rintro e a' w' ⟨ae,s',rfl,hK,hR',hd'⟩;cases ae with
  |normal=>exact⟨.normal,s',rfl,hK,hR',hd'⟩
  |exit i=>
   simp only[PL,Exit.inBlock];dsimp only at hK;cases hb:Nat.beq i id<;>rw[hb]at hK
   ·have:i≠id:=fun e=>by rw[e]at hb;simp at hb
    rw[if_neg this];exact⟨.exit i,s',rfl,hK,hR',hd'⟩
   ·rw[if_pos (Nat.eq_of_beq_eq_true hb)];exact⟨.normal,s',rfl,hK,hR',hd'⟩
  |ret=>exact⟨.ret,s',rfl,hK,hR',hd'⟩
 | .loop body,L,blk,s,a,w,K,hl,hR,hd,h=>by
  rw[CX]at h;obtain⟨s',h',hR'⟩:=T0 _ s a.tmps hR _ r h;obtain⟨s1,h1,hR1⟩:=Qc hR' h';have hb:SubOK P C body blk:=⟨fun p hp=>hl.l p (by simp[AN,hp]),fun p hp=>hl.b p (by simp[A2,hp]),fun p hp=>hl.c p (by simp[A7,hp])⟩;refine X3 (c:= .loop body) hZ (hl.l (So body,body) (by simp[AN])) hR1 hd h1 fun h2=> ?_;exact wp_loop_rounds L (Zan (fun s a w K' hR hd h=>Ge hspec hok hmix hZ body L blk s a w K' hb hR hd h) L s1 a w hR1 hd h2)
 | .exit id,L,blk,s,a,w,K,hl,hR,hd,h=>wp_exit ⟨.exit id,s,rfl,h,hR,hd⟩
 | .ret,L,blk,s,a,w,K,hl,hR,hd,h=>wp_ret ⟨.ret,s,rfl,h,hR,hd⟩
 | .rangeFunc f ps asg body,L,blk,s,a,w,K,hl,hR,hd,h=>by simp[CX]at h
 | .scope b,L,blk,s,a,w,K,hl,hR,hd,h=>by
  rw[CX]at h;refine wp_scope_straight (wp_mono (Ge hspec hok hmix hZ b L blk s a w K ⟨fun p hp=>hl.l p (by simp[AN,hp]),fun p hp=>hl.b p (by simp[A2,hp]),fun p hp=>hl.c p (by simp[A7,hp])⟩ hR hd h) ?_);rintro e a' w' ⟨ae,s',rfl,hK,hR',hd'⟩;cases ae with
  |normal=>exact⟨.normal,s',rfl,hK,hR',hd'⟩
  |exit i=>exact⟨.exit i,s',rfl,hK,hR',hd'⟩
  |ret=>exact⟨.ret,s',rfl,hK,hR',hd'⟩
 | .label l,L,blk,s,a,w,K,hl,hR,hd,h=>by
  rw[CX]at h;exact wp_label ⟨.normal,s,rfl,h,hR,hd⟩
 | .goto l,L,blk,s,a,w,K,hl,hR,hd,h=>by simp[CX]at h
 | .refuse why,L,blk,s,a,w,K,hl,hR,hd,h=>by simp[CX]at h
theorem Zry {e e':Ex} (h:T3 e e'=true):e=e':=by
 cases e<;>cases e'<;>simp only[T3]at h<;>first|rfl|(simp at h;done)|(rw[Nat.eq_of_beq_eq_true h])
theorem XV {s:St} {e':Ex} {tmps:Array Value} (hZ:InZ Z) (hR:Rel Z s tmps w):∀{exits:List (Ex×Sk)} {i n:Nat} {o:List AC},GJ exits i e' s=some (n,o)->
  i<=n/\∃sk,(∀(R:Type) (K:Ex->St->Option R),Pb o K exits i n=K e' (Bq sk o))/\Rel Z (Bq sk o) tmps w
 |[],i,n,o,h=>by simp[GJ]at h
 |(e,sk)::l,i,n,o,h=>by
  simp only[GJ]at h;cases hb:(T3 e e'&&sk.okB)<;>rw[hb]at h
  ·simp only[cond_false]at h;obtain⟨h1,sk',h2,h3⟩:=XV hZ hR h;refine⟨by omega,sk',fun R K=> ?_,h3⟩;simp only[Pb];rw[Kr (by omega)];exact h2 R K
  ·simp only[cond_true]at h;simp only[Bool.and_eq_true]at hb;split at h
   ·rename_i vars hv;simp at h;obtain⟨rfl,rfl⟩:=h;refine⟨Nat.le_refl _,sk,fun R K=> ?_,?_⟩
    ·simp only[Pb,Nat.beq_refl,cond_true];rw[Zry hb.1]
    ·obtain⟨ρ,hR⟩:=hR;obtain⟨tm,aB,aC⟩:=s;exact⟨ρ,hR.rebuild hZ hb.2 hv⟩
   ·simp at h
theorem Zmw (hspec:Ai P C) (hok:∀t∈C.eqOk,P.stoodInHeld t=false) (hmix:P.follows .mixedOrders=true) {L blk:Nat} {body:Code} {sk:Sk} {exits:List (Ex×Sk)} {m:List AC->Option (Nat×List AC)}
  (hsk:sk.okB=true) (hsub:SubOK P C body blk) (hm:∀vars o,m vars=some o->∃n,CV (AT P C L blk body sk exits) n vars=some o):Jo P (.loop body) sk (gOf exits m):=by
 intro Z hZ a w vars R K r hR h;simp only[gOf,Option.bind_eq_some_iff]at h;obtain⟨⟨t,o⟩,h1,h2⟩:=h;obtain⟨n,hn⟩:=hm vars _ h1;have key:∀(n:Nat) (vars:List AC) (a':Act) (w':World),Rel Z (Bq sk vars) a'.tmps w'->a'.defers=a.defers->CV (AT P C L blk body sk exits) n vars=some (t,o)->Code.rounds P body (I7 Z K r a.defers) n a' w':=by
  intro n;induction n with
  |zero=>intro vars a' w' _ _ h;simp[CV]at h
  |succ n ih=>
   intro vars a' w' hR' hd' h;simp only[CV,Option.bind_eq_some_iff]at h;obtain⟨⟨t',o'⟩,q1,q2⟩:=h;rw[rounds_succ];refine wp_mono (Ge hspec hok hmix hZ body L blk _ a' w' _ hsub hR' hd' q1) ?_;rintro e a2 w2 ⟨ae,s',rfl,hK,hR2,hd2⟩;have hexit:∀e':Ex,GJ exits 1 e' s'=some (t',o')->I7 Z K r a.defers (PL e') a2 w2:=by
    intro e' hx;obtain⟨p1,sk',p2,p3⟩:=XV hZ hR2 hx;have ht:t'≠0:=by omega
    dsimp only at q2;rw[if_neg ht]at q2;simp at q2;obtain⟨rfl,rfl⟩:=q2;rw[p2 R K]at h2;exact⟨e',_,rfl,h2,p3,hd2⟩
   cases ae with
   |normal=>
    obtain⟨s3,h3,hR3⟩:=Qc hR2 hK;split at h3
    ·rename_i vars' hv;simp at h3;obtain⟨rfl,rfl⟩:=h3;simp only[if_true]at q2;obtain⟨ρ,hR3⟩:=hR3;obtain⟨tm,aB,aC⟩:=s3;exact ih _ a2 w2 ⟨ρ,hR3.rebuild hZ hsk hv⟩ hd2 q2
    ·simp at h3
   |exit i=>exact hexit _ hK
   |ret=>exact hexit _ hK
 exact wp_loop_rounds n (key n vars a w hR rfl hn)
theorem Zsb (hspec:Ai P C) (hok:∀t∈C.eqOk,P.stoodInHeld t=false) (hmix:P.follows .mixedOrders=true) {L id:Nat} {body:Code} {sk:Sk} {exits:List (Ex×Sk)} {m:List AC->Option (Nat×List AC)}
  (hsub:SubOK P C body id) (hm:∀vars o,m vars=some o->Qx8 P C L id body sk exits vars=some o):Jo P (.block id body) sk (gOf exits m):=by
 intro Z hZ a w vars R K r hR h;simp only[gOf,Option.bind_eq_some_iff]at h;obtain⟨⟨t,o⟩,h1,h2⟩:=h;have hb:=hm vars _ h1;refine wp_block (wp_mono (Ge hspec hok hmix hZ body L id _ a w _ hsub hR rfl hb) ?_);rintro e a' w' ⟨ae,s',rfl,hK,hR',hd'⟩;have hexit:∀e':Ex,GJ exits 1 e' s'=some (t,o)->I7 Z K r a.defers (PL e') a' w':=by
  intro e' hx;obtain⟨p1,sk',p2,p3⟩:=XV hZ hR' hx;rw[p2 R K]at h2;exact⟨e',_,rfl,h2,p3,hd'⟩
 cases ae with
 |normal=>exact hexit .normal hK
 |exit i=>
  simp only[PL,Exit.inBlock];dsimp only at hK;cases hb:Nat.beq i id<;>rw[hb]at hK
  ·have:i≠id:=fun e=>by rw[e]at hb;simp at hb
   rw[if_neg this];exact hexit (.exit i) hK
  ·rw[if_pos (Nat.eq_of_beq_eq_true hb)];exact hexit .normal hK
 |ret=>exact hexit .ret hK
end
end Go.Bm
namespace Go.Bm
open Go.RowKit
section
variable {P:Program} {C:Cfg} {w:World} {R:Type} {Z:Base}
theorem RelE.slots {tm tm':List TV} {aB:List (Nat×Box)} {aC:List (Nat×Row)} {ρ:Env} {tmps tmps':Array Value} (h:RelE Z tm aB aC ρ tmps w) (htl:tm'.length=tmps'.size)
  (htv:∀(i:Nat) (v:TV),tm'[i]? =some v->TVR ρ w v (tmps'.getD i undef)) (hwt:∀v∈tm',TV.wf aB aC v):RelE Z tm' aB aC ρ tmps' w:=
 ⟨htl,htv,hwt,h.wb,h.bx,h.bi,h.ro,h.ri,h.br,h.ib,h.fr,h.fs,h.i0,h.i1,h.k0⟩
theorem Qux {s:St} {a:Act} {ρ:Env} (hR:RelE Z s.tmps s.aB s.aC ρ a.tmps w):∀(l:List ResultVar) (ps:List (Bool×List AC)),LO P s l=some ps->
  ∃ xs : List Value, (l.mapM fun
   | .tmp t=>pure (a.tmps.getD t undef)
   | .cell b t=>do loadVar t (<-asAddr (a.tmps.getD b undef)):Sem (List Value)).run P w= .ok xs w/\TP ρ w ps xs/\∀p∈ps,∀c∈p.2,AC.wf s.aB s.aC c
 |[],ps,h=>by simp[LO]at h;subst h;exact⟨[],rfl,trivial,by simp⟩
 |rv::l,ps,h=>by
  simp only[LO]at h;split at h
  ·rename_i g cs hrv;split at h
   ·rename_i ps' hps;simp at h;subst h;obtain⟨xs,h1,h2,h3⟩:=Qux hR l ps' hps;have key : ∃ x, ((match rv with
      | .tmp t=>pure (a.tmps.getD t undef)
      | .cell b t=>do loadVar t (<-asAddr (a.tmps.getD b undef)):Sem Value)).run P w= .ok x w/\TVR ρ w (.v g cs) x/\TV.wf s.aB s.aC (.v g cs):=by
     cases rv with
     |tmp t=>
      simp only[Qk2]at hrv;split at hrv
      ·rename_i g' cs'' ht;simp at hrv;obtain⟨rfl,rfl⟩:=hrv;have htl:t<s.tmps.length:=by
        rcases Nat.lt_or_ge t s.tmps.length with hlt|hge
        ·exact hlt
        ·rw[BR,List.getD,List.getElem?_eq_none hge]at ht;simp at ht
       have hslot:s.tmps[t]? =some (.v g' cs''):=by
        rw[BR,List.getD]at ht;rw[List.getElem?_eq_getElem htl]at ht⊢;simpa using ht
       exact⟨_,by simp,hR.tv t _ hslot,hR.wt _ (List.mem_of_getElem? hslot)⟩
      ·simp at hrv
     |cell b t=>
      simp only[Qk2]at hrv;split at hrv
      ·rename_i key off g' sz hb hg hs;have hbl:b<s.tmps.length:=by
        rcases Nat.lt_or_ge b s.tmps.length with hlt|hge
        ·exact hlt
        ·rw[BR,List.getD,List.getElem?_eq_none hge]at hb;simp at hb
       have hslot:s.tmps[b]? =some (.c (.ptr key off)):=by
        rw[BR,List.getD]at hb;rw[List.getElem?_eq_getElem hbl]at hb⊢;simpa using hb
       have hc:=(hR.tv b _ hslot).c;simp only[CC]at hc;split at hrv
       ·rename_i bo hbo;obtain⟨arr,q1,q2,q3⟩:=hR.bx key bo hbo;obtain ⟨x, q4, q5⟩ := TG (b := ρ.bx key) (o := 0) hg hs hrv q2 (fun j y hj => by
         simp only[Nat.zero_add];rw[cell_of_row w _ j arr bo.ty (0,0) q1];simpa using hj)
        rw[Nat.zero_add]at q4;exact⟨x,by simp[hc,asAddr,q4],q5,P5 hrv (hR.wb key bo hbo)⟩
       ·simp at hrv
      ·simp at hrv
    obtain⟨x,k1,k2,k3⟩:=key;refine⟨x::xs,?_,?_,?_⟩
    ·rw[List.mapM_cons];simp only[Sem.run_bind,Sem.run_pure];rw[k1];simp only[Result.andThen_ok];rw[h1];rfl
    ·refine⟨?_,h2⟩;cases g<;>exact k2
    ·intro p hp;simp only[List.mem_cons]at hp;rcases hp with rfl|hp
     ·exact k3
     ·exact h3 p hp
   ·simp at h
  ·simp at h
theorem PZ:∀(ks:List Kd) (cs:List AC),(DA ks cs).length=cs.length
 |[],[]=>rfl
 |[],_::_=>rfl
 | .sl _::_,[]=>rfl
 | .int _::_,[]=>rfl
 | .bool::_,[]=>rfl
 | .raw::_,[]=>rfl
 | .int _::l,_::cs=>by simp[DA,PZ l cs]
 | .bool::l,_::cs=>by simp[DA,PZ l cs]
 | .raw::l,_::cs=>by simp[DA,PZ l cs]
 | .sl _::l,a::cs=>by cases a<;>simp[DA,PZ l cs]
theorem Q9t {ρ:Env}:∀(ts:List TypeId) (ps:List (Bool×List AC)) (xs:List Value),TP ρ w ps xs->TP ρ w (Hh P ts ps) xs
 |[],ps,xs,h=>by simpa [Hh]using h
 |_::_,[],xs,h=>by simpa [Hh]using h
 |t::ts,(g,cs)::ps,[],h=>h.elim
 |t::ts,(g,cs)::ps,x::xs,h=>by
  refine⟨?_,Q9t ts ps xs h.2⟩;have h1:=h.1;cases hk:FW P 8 t with
  |none=>exact h1
  |some ks=>
   cases g
   ·obtain⟨a,rfl,ha⟩:=h1;have:=Ku ks [a] [x] ⟨ha,trivial⟩;have hl:=PZ ks [a];generalize hn:DA ks [a]=l at this hl;cases l with
    |nil=>simp at hl
    |cons b l=>
     cases l with
     |nil=>exact⟨b,hn,this.1⟩
     |cons=>simp at hl
   ·obtain⟨ys,hy,hc⟩:=h1;exact⟨ys,hy,Ku ks cs _ hc⟩
theorem Q4o {aB:List (Nat×Box)} {aC:List (Nat×Row)}:∀(ts:List TypeId) (ps:List (Bool×List AC)),(∀p∈ps,∀c∈p.2,AC.wf aB aC c)->∀p∈Hh P ts ps,∀c∈p.2,AC.wf aB aC c
 |[],ps,h=>by simpa [Hh]using h
 |_::_,[],h=>by simp[Hh]
 |t::ts,(g,cs)::ps,h=>by
  intro p hp;simp only[Hh,List.mem_cons]at hp;rcases hp with rfl|hp
  ·cases hk:FW P 8 t with
   |none=>exact h (g,cs) (by simp)
   |some ks=>exact Om ks cs (h (g,cs) (by simp))
  ·exact Q4o ts ps (fun q hq=>h q (by simp[hq])) p hp
theorem Q4z {ρ:Env}:∀{ps:List (Bool×List AC)} {xs:List Value},TP ρ w ps xs->ps.length=xs.length
 |[],[],_=>rfl
 |_::_,_::_,h=>by simp[Q4z h.2]
 |[],_::_,h=>h.elim
 |_::_,[],h=>h.elim
theorem Zos {ρ:Env} {ps:List (Bool×List AC)} {xs:List Value} (h:TP ρ w ps xs):TVR ρ w (KF ps) (if h:xs.length=1 then xs[0]else .tuple xs.toArray):=by
 have hl:=Q4z h
 match ps,xs,h with
 |[],[],_=>exact⟨#[],rfl,trivial⟩
 |[(g,cs)],[x],h=>
  simp only[KF,List.length_singleton,dite_true,List.getElem_cons_zero];have:=h.1;cases g<;>exact this
 |p::q::ps,x::y::xs,h=>
  have: ¬(x::y::xs).length=1:=by simp
  rw[dif_neg this];exact⟨_,rfl,by simpa using h⟩
theorem Z3q {keys ids:List Nat} {ps:List (Bool×List AC)} (h:Ak (fun p:Bool×List AC=>Ak (AC.inK keys ids) p.2) ps=true):TV.inK keys ids (KF ps)=true:=by
 match ps,h with
 |[],h=>exact h
 |[(g,cs)],h=>exact Ax.1 h (g,cs) (by simp)
 |p::q::ps,h=>exact h
theorem Zb2 {aB:List (Nat×Box)} {aC:List (Nat×Row)} {ps:List (Bool×List AC)} (h:∀p∈ps,∀c∈p.2,AC.wf aB aC c):TV.wf aB aC (KF ps):=by
 match ps,h with
 |[],h=>exact h
 |[(g,cs)],h=>exact h (g,cs) (by simp)
 |p::q::ps,h=>exact h
theorem Zxy {fn:Func} {keys0:List Nat} {s:St} {a:Act} (hR:Rel Z s a.tmps w) (hk0:∀k b,Z.K0 k=some b->k∈keys0) {K:TV->Mem->Option R} {r:R} (h:PW P C fn keys0 s K=some r):
  ∃x ρ' v m,K v m=some r/\(results fn a.tmps).run P w= .ok x w/\RelE Z [v] m.aB m.aC ρ' #[x] w:=by
 unfold PW at h;split at h
 ·simp at h
 ·rename_i ps hps;have h1:∃s1,(HC P C s1 fun s1=>match LO P s1 fn.results.toList with
    |none=>none
    |some ps=>match s1 with
     |⟨_,aB,aC⟩=>
      AQ (Hh P fn.resultTypes.toList ps) fun ps=>
      AQ (K3 aB 4 (AZ (cat (fun p:Bool×List AC=>cat AC.keys p.2) ps) keys0)) fun keys=>
      AQ (NI aB (cat (fun p:Bool×List AC=>p.2) ps) keys) fun ids=>
      AQ (aB.filter fun p=>AR keys p.1) fun boxes'=>
      AQ (aC.filter fun p=>AR ids p.1) fun rows'=>
      bif Ak (fun p:Bool×List AC=>Ak (AC.inK keys ids) p.2) ps&&Ak (fun p:Nat×Box=>Ak (AC.inK keys ids) p.2.cells) boxes'&&Ak (DK aB) keys0&&Ak (AR keys) keys0 then K (KF ps) (⟨boxes',rows'⟩:Mem)else none)=some r/\Rel Z s1 a.tmps w:=by
   cases ho:C.ownRes<;>rw[ho]at h
   ·exact SP _ s a.tmps hR _ _ h
   ·exact⟨s,h,hR⟩
  obtain⟨s1,h1,hR1⟩:=h1;obtain⟨s2,h2,ρ,hR2⟩:=Qc hR1 h1;split at h2
  ·simp at h2
  ·rename_i ps2 hps2;obtain⟨xs,q1,q2,q3⟩:=Qux hR2 _ _ hps2;obtain⟨tm,aB,aC⟩:=s2;simp only[A4]at h2;have q2':=Q9t fn.resultTypes.toList _ _ q2 (P:=P);have q3':=Q4o fn.resultTypes.toList _ q3 (P:=P);generalize Hh P fn.resultTypes.toList ps2=ps3 at h2 q2' q3';generalize K3 aB 4 (AZ (cat (fun p:Bool×List AC=>cat AC.keys p.2) ps3) keys0)=keys at h2;generalize NI aB (cat (fun p:Bool×List AC=>p.2) ps3) keys=ids at h2;obtain⟨hc,h2⟩:=BL h2;simp only[Bool.and_eq_true]at hc;have hrun:(results fn a.tmps).run P w= .ok (if h:xs.length=1 then xs[0]else .tuple xs.toArray) w:=by
    unfold results;rw[Array.mapM_eq_mapM_toList];simp only[Sem.run_bind,Sem.run_map];erw[q1]
    simp only[Result.andThen_ok,Sem.run_pure];congr 1
   have hin:TV.inK keys ids (KF ps3)=true:=Z3q hc.1.1.1;have hwf:TV.wf aB aC (KF ps3):=Zb2 q3';refine⟨_,ρ,_,_,h2,hrun,hR2.filter (by simp) (fun i v hi=> ?_) (fun v hv=> ?_) (by simp[Ak,hin]) hc.1.1.2 (fun k b hk=>Ax.1 hc.2 k (hk0 k b hk))⟩
   ·cases i with
    |zero=>simp at hi;subst hi;simpa using Zos q2'
    |succ i=>simp at hi
   ·simp at hv;subst hv;exact hwf
theorem Q0x (hspec:Ai P C) (hok:∀t∈C.eqOk,P.stoodInHeld t=false) (hmix:P.follows .mixedOrders=true) (hZ:InZ Z) {L:Nat} {f:FuncId} {args:List TV} {mem:Mem} {K:TV->Mem->Option R} {r:R}
  (hsub:∀c,Kc P f=some c->SubOK P C c 0) (h:EZ P C L f args mem K=some r) {ρ:Env} {xs:List Value} (hR0:RelE Z args mem.aB mem.aC ρ xs.toArray w):
  Calls P f xs.toArray w fun e w'=>∃x ρ' v m,e= .returned x/\K v m=some r/\RelE Z [v] m.aB m.aC ρ' #[x] w':=by
 unfold EZ at h;split at h
 ·rename_i fn hfn;split at h
  ·rename_i c hc;obtain⟨_,h⟩:=BL h;simp only[A4]at h;have hfn':P.funcs[f]? =some fn:=by simpa using hfn
   have hs:=hsub c (by unfold Kc;rw[hfn];exact hc);refine calls_of_wp hfn' hc ?_;have hlen:xs.length=args.length:=by simpa using hR0.tl.symm
   have hR:Rel Z ⟨args++List.replicate (fn.ntmps-args.length) TV.dead,mem.aB,mem.aC⟩ (xs.toArray++Array.replicate (fn.ntmps-xs.toArray.size) undef) w:=by
    refine⟨ρ,hR0.slots (by simp[hlen]) (fun i u hi=> ?_) (fun u hu=> ?_)⟩
    ·rw[List.getElem?_append]at hi;split at hi
     ·rename_i hlt;have hxi:i<xs.length:=by omega
      have e:(xs.toArray++Array.replicate (fn.ntmps-xs.toArray.size) undef).getD i undef=xs.toArray.getD i undef:=by
       simp[Array.getD_eq_getD_getElem?,Array.getElem?_append,hxi]
      rw[e];exact hR0.tv i u hi
     ·have:=List.mem_of_getElem? hi;rw[List.mem_replicate]at this;rw[this.2];trivial
    ·rw[List.mem_append]at hu;rcases hu with hu|hu
     ·exact hR0.wt u hu
     ·rw[List.mem_replicate]at hu;rw[hu.2];trivial
   refine wp_mono (Ge hspec hok hmix hZ c L 0 _ ⟨_,[]⟩ w _ hs hR rfl h) ?_;rintro e a' w' ⟨ae,s,rfl,hK,hR',hd⟩;have hk0:∀k b,Z.K0 k=some b->k∈mem.aB.map (·.1):=by
    intro k b hk;obtain⟨_,bo,hbo⟩:=hR0.k0 k b hk;exact Ma.2 ⟨bo,hbo⟩
   have hfin:PW P C fn (mem.aB.map (·.1)) s K=some r->a'.defers=[]/\∃x,(results fn a'.tmps).run P w'= .ok x w'/\∃y ρ' v m,Ending.returned x= .returned y/\K v m=some r/\RelE Z [v] m.aB m.aC ρ' #[y] w':=by
    intro hf;obtain⟨x,ρ',v,m,h0,h1,h2⟩:=Zxy hR' hk0 hf;exact⟨hd,x,h1,x,ρ',v,m,rfl,h0,h2⟩
   cases ae with
   |normal=>
    obtain⟨q1,x,q2,q3⟩:=hfin hK;exact⟨q1,x,q2,q3⟩
   |ret=>
    obtain⟨q1,x,q2,q3⟩:=hfin hK;exact⟨q1,x,q2,q3⟩
   |exit id=>simp at hK
  ·simp at h
 ·simp at h
theorem Zy {F:Nat->Prop} {ρ:Env} {aB:List (Nat×Box)} (h:Ak (fun p:Nat×Box=>Fqs p.1) aB=true):InZ (EH F w ρ aB):=by
 intro k b hk;simp only[EH,Option.map_eq_some_iff]at hk;obtain⟨bo,hbo,_⟩:=hk;exact Ax.1 h (k,bo) (NH hbo)
theorem W9 {sig osig:Sk} {m:List AC->Option (List AC)} (R:Type) (args:List TV) (mem:Mem) (K:TV->Mem->Option R):Ac sig osig m R args mem K=(Ac sig osig m (TV×Mem) args mem fun v m=>some (v,m)).bind fun p=>K p.1 p.2:=by
  obtain⟨aB,aC⟩:=mem;simp only[Ac];cases Ak (fun p:Nat×Box=>Fqs p.1) aB
  ·rfl
  ·simp only[cond_true];cases E2 sig ⟨args,aB,aC⟩with
   |none=>rfl
   |some vars=>
    dsimp only;cases m vars with
    |none=>rfl
    |some o=>
     simp only[Option.bind_some];generalize Bq osig o=s;obtain⟨tm,b,r⟩:=s;dsimp only;split<;>rfl
theorem Q6c (hspec:Ai P C) (hok:∀t∈C.eqOk,P.stoodInHeld t=false) (hmix:P.follows .mixedOrders=true) {L:Nat} {f:FuncId} {sig osig:Sk} {m:List AC->Option (List AC)} (h1:sig.okB=true) (h2:osig.okB=true)
  (hsub:∀c,Kc P f=some c->SubOK P C c 0) (hm:∀vars o,m vars=some o->Am P C L f sig osig vars=some o) {args:List TV} {mem:Mem} {v:TV} {mem':Mem} (h:(Ac sig osig m (TV×Mem) args mem fun v m=>some (v,m))=some (v,mem')):PCallM P f args mem v mem':=by
  obtain⟨aB,aC⟩:=mem;simp only[Ac]at h;obtain⟨hin,h⟩:=BL h;split at h
  ·rename_i vars hv;simp only[Option.bind_eq_some_iff]at h;obtain⟨o,ho,h⟩:=h;have hmo:=hm vars o ho;intro F w ρ xs hR0;have hZ:InZ (EH F w ρ aB):=Zy hin;have hR1:=hR0.rebuild hZ h1 hv;unfold Am at hmo;generalize hs:Bq sig vars=s1 at hmo hR1;obtain⟨args1,boxes1,rows1⟩:=s1;dsimp only at hmo hR1;refine(Q0x hspec hok hmix hZ hsub hmo hR1).mono ?_;rintro e w' ⟨x,ρ',v',m',he,hro,hR2⟩;obtain⟨b',r'⟩:=m';dsimp only at hro hR2;have hR3:=hR2.rebuild hZ h2 hro;generalize hs2:Bq osig o=s2 at h hR3;obtain⟨tm,b2,r2⟩:=s2;dsimp only at h hR3;split at h
   ·simp only[Option.some.injEq,Prod.mk.injEq]at h;obtain⟨rfl,rfl⟩:=h;exact⟨x,ρ',he,hR3⟩
   ·simp at h
  ·simp at h
theorem Z1w (hspec:Ai P C) (hok:∀t∈C.eqOk,P.stoodInHeld t=false) (hmix:P.follows .mixedOrders=true) {L:Nat} {f:FuncId} (hc:Q1 P f) {sig osig:Sk} {m:List AC->Option (List AC)} (h1:sig.okB=true) (h2:osig.okB=true)
  (hsub:∀c,Kc P f=some c->SubOK P C c 0) (hm:∀vars o,m vars=some o->Am P C L f sig osig vars=some o):SpecRight P f (Ac sig osig m):=
 ⟨W9,fun _ _ _ _ h=>PCallM.x (Q6c hspec hok hmix h1 h2 hsub hm h) hc⟩
end
end Go.Bm
namespace Go.Bm
open Go.RowKit Go.WideShapes Go.ChangeShapes
def PE (P:Program) (g:TypeId->Option (List Kd)):List Field->Nat->Option (List Kd)
 |[],_=>some []
 |f::fs,o=>match g f.type with
  |some ks=>bif Nat.beq f.offset o&&Nat.beq (P.cellsOf f.type) ks.length then(PE P g fs (o+ks.length)).map (ks++ ·)else none
  |none=>none
def HS (P:Program):Nat->TypeId->Option (List Kd)
 |0,_=>none
 |n+1,t=>match P.underlying t with
  |some .bool=>some [.bool]
  |some (.int k)=>some [.int k]
  |some (.slice e)=>(HS P n e).bind fun ks=>bif Nat.beq (P.cellsOf e) ks.length&&Nat.blt 0 ks.length then some [.sl ks]else none
  |some (.struct fs)=>(PE P (HS P n) fs.toList 0).bind fun ks=>bif Nat.beq (P.cellsOf t) ks.length then some ks else none
  |some (.array m e)=>(HS P n e).bind fun ks=>bif Nat.beq (P.cellsOf e) ks.length&&Nat.beq (P.cellsOf t) (m*ks.length)then some (Qd ks m)else none
  |_=>none
mutual
def okC:Kd->AC->Prop
 | .int k,a=>k.min<=Af a/\Af a<=k.max
 | .bool,_=>True
 | .sl ks,a=>(BI a).length<=maxLen/\∀c∈BI a,okR ks c/\AO ks c=c
 | .raw,_=>True
def okR:List Kd->List AC->Prop
 |[],_=>True
 |_::_,[]=>False
 |k::ks,a::cs=>okC k a/\okR ks cs
end
def Op (w:World) (ks:List Kd) (cs:List Value):Prop:=∃raw,AO ks raw=raw/\CL (CP (fun b=>b<w.heap.size) w) raw cs/\okR ks raw
theorem Op.length {w:World} {ks:List Kd} {cs:List Value} (h:Op w ks cs):cs.length=ks.length:=by
 obtain⟨raw,h1,h2,_⟩:=h;rw[<-h2.length,<-h1,QW]
theorem Qu0:∀(k1 k2:List Kd) (r1 r2:List AC),r1.length=k1.length->AO (k1++k2) (r1++r2)=AO k1 r1++AO k2 r2
 |[],k2,[],r2,_=>rfl
 |k::k1,k2,a::r1,r2,h=>by
  simp only[List.cons_append];rw[Qnj,Qnj,Qu0 k1 k2 r1 r2 (by simpa using h)];rfl
 |[],_,_::_,_,h=>by simp at h
 |_::_,_,[],_,h=>by simp at h
theorem Qvq:∀{k1 k2:List Kd} {r1 r2:List AC},r1.length=k1.length->okR k1 r1->okR k2 r2->okR (k1++k2) (r1++r2)
 |[],_,[],_,_,_,h=>h
 |k::k1,k2,a::r1,r2,hl,h,h'=>by
  simp only[List.cons_append,okR]at h⊢;exact⟨h.1,Qvq (by simpa using hl) h.2 h'⟩
 |[],_,_::_,_,h,_,_=>by simp at h
 |_::_,_,[],_,h,_,_=>by simp at h
theorem Op.append {w:World} {k1 k2:List Kd} {c1 c2:List Value} (h:Op w k1 c1) (h':Op w k2 c2):Op w (k1++k2) (c1++c2):=by
 obtain⟨r1,a1,a2,a3⟩:=h;obtain⟨r2,b1,b2,b3⟩:=h';have hl:r1.length=k1.length:=by rw[<-a1,QW]
 exact⟨r1++r2,by rw[Qu0 _ _ _ _ hl,a1,b1],a2.append b2,Qvq hl a3 b3⟩
theorem Op.nil {w:World}:Op w [] []:=⟨[],rfl,trivial,by simp[okR]⟩
section
variable {H:Type} {enc:TypeId×Value->H} {P:Program} {w:World}
theorem Q4p {g:TypeId->Option (List Kd)} {m:Nat} (hg:∀(t:TypeId) (ks:List Kd) (cs:List Value) (x:DataW H×List MemPlace),g t=some ks->DataW.trod enc P w 0 (fun _=>true) true m t cs=some x->Op w ks cs):
  ∀(fs:List Field) (o:Nat) (ks:List Kd) (cs:List Value),PE P g fs o=some ks->cs.length=o+ks.length->
   (∀f∈fs,∃x,DataW.trod enc P w 0 (fun _=>true) true m f.type ((cs.drop f.offset).take (P.cellsOf f.type))=some x)->Op w ks (cs.drop o)
 |[],o,ks,cs,h,hl,_=>by
  simp[PE]at h;subst h;have:cs.drop o=[]:=by apply List.drop_eq_nil_of_le;simp at hl;omega
  rw[this];exact Op.nil
 |f::fs,o,ks,cs,h,hl,hx=>by
  simp only[PE]at h;split at h
  ·rename_i k1 hk1;cases hc:(Nat.beq f.offset o&&Nat.beq (P.cellsOf f.type) k1.length)<;>rw[hc]at h
   ·simp at h
   ·simp only[cond_true,Option.map_eq_some_iff]at h;obtain⟨k2,h2,rfl⟩:=h;simp only[Bool.and_eq_true]at hc;have e1:f.offset=o:=Nat.eq_of_beq_eq_true hc.1;have e2:P.cellsOf f.type=k1.length:=Nat.eq_of_beq_eq_true hc.2;obtain⟨x,hx1⟩:=hx f (by simp);have f1:=hg _ _ _ _ hk1 hx1;rw[e1,e2]at f1;have f2:=Q4p hg fs (o+k1.length) k2 cs h2 (by simp at hl;omega) (fun f' hf'=>hx f' (by simp[hf']));have:cs.drop o=(cs.drop o).take k1.length++cs.drop (o+k1.length):=by
     rw[<-List.drop_drop,List.take_append_drop]
    rw[this];exact f1.append f2
  ·cases h
theorem Zay {ks:List Kd}:∀(m:Nat) (cs:List Value),cs.length=m*ks.length->(∀i,i<m->Op w ks ((cs.drop (i*ks.length)).take ks.length))->Op w (Qd ks m) cs
 |0,cs,hl,_=>by
  have:cs=[]:=by simpa using hl
  subst this;exact Op.nil
 |m+1,cs,hl,h=>by
  have h0:=h 0 (by omega);simp at h0;have:cs=cs.take ks.length++cs.drop ks.length:=(List.take_append_drop _ _).symm;rw[this,Qd];refine h0.append (Zay m _ ?_ fun i hi=> ?_)
  ·simp[hl,Nat.succ_mul]
  ·have:=h (i+1) (by omega);rw[List.drop_drop];rw[Nat.succ_mul,Nat.add_comm]at this;exact this
theorem Z3o {ks:List Kd} {cs:List Value} {e t:TypeId} {fuel:Nat} {x:DataW H×List MemPlace} (hu:P.underlying t=some (.slice e)) (e1:P.cellsOf e=ks.length) (e2:0<ks.length)
  (hx:DataW.trod enc P w 0 (fun _=>true) true fuel t cs=some x) (ih:∀(m:Nat) (cs:List Value) (x:DataW H×List MemPlace),DataW.trod enc P w 0 (fun _=>true) true m e cs=some x->Op w ks cs):Op w [.sl ks] cs:=by
 rcases Go.Deep.open_slice hu hx with⟨rfl,_⟩|⟨a,len,cap,m,n,D,Pl,rfl,_,hl,hcm,hm,_,hi⟩
 ·refine⟨[.view ks []],rfl,⟨Tg ks,trivial⟩,?_⟩;simp[okR,okC,BI]
 ·have hmc:m=cap:=by simpa using hm
  subst hmc
  have hex:∀i,∃(vs:List Value) (raw:List AC),i<len->(w.cells? 0 (a.add (i*P.cellsOf e)) (P.cellsOf e)=some vs/\AO ks raw=raw/\CL (CP (fun b=>b<w.heap.size) w) raw vs/\okR ks raw):=fun i=>by
   by_cases hil:i<len
   ·obtain⟨cs',h1,h2⟩:=hi i (by omega);obtain⟨raw,r1,r2,r3⟩:=ih n cs' _ h2;exact⟨cs',raw,fun _=>⟨h1,r1,r2,r3⟩⟩
   ·exact⟨[],[],fun h=>(hil h).elim⟩
  let vs:Nat->List Value:=fun i=>Classical.choose (hex i)
  let raws:Nat->List AC:=fun i=>Classical.choose (Classical.choose_spec (hex i))
  have hvs:∀i,i<len->(w.cells? 0 (a.add (i*P.cellsOf e)) (P.cellsOf e)=some (vs i)/\AO ks (raws i)=raws i/\CL (CP (fun b=>b<w.heap.size) w) (raws i) (vs i)/\okR ks (raws i)):=fun i=>Classical.choose_spec (Classical.choose_spec (hex i));have hlen:((List.range len).map raws).length=len:=by simp
  have hget:∀i (hi:i<((List.range len).map raws).length),((List.range len).map raws)[i]=raws i:=fun i hi=>by simp
  have hmem:∀c∈(List.range len).map raws,∃i,i<len/\c=raws i:=fun c hc=>by
   simp only[List.mem_map,List.mem_range]at hc;obtain⟨i,h1,h2⟩:=hc;exact⟨i,h1,h2.symm⟩
  refine⟨[.view ks ((List.range len).map raws)],rfl,⟨?_,trivial⟩,?_⟩
  ·rw[CP];refine⟨some a,m,by rw[hlen],by rw[hlen];exact hl,fun c hc=> ?_,?_⟩
   ·obtain⟨i,h1,rfl⟩:=hmem c hc;exact(hvs i h1).2.1
   ·by_cases h0:len=0
    ·subst h0;exact .inl rfl
    ·right;have h0:0<len:=by omega
     obtain⟨hc0,r1,r2,_⟩:=hvs 0 h0;obtain⟨_,hlen0,hat0⟩:=World.cells?_some hc0;have h00:=hat0 0 (by omega);simp only[Nat.zero_mul]at h00;have ea:(a.add 0).add 0=a:=by simp[Addr.add]
     rw[ea,List.getElem?_eq_getElem (by omega)]at h00;have hspot:a.spot=none/\a.block<w.heap.size:=by
      unfold World.cell? at h00;split at h00
      ·rename_i hb;split at h00
       ·cases h00
       ·rename_i hsp;refine⟨by simpa using hsp,(Array.getElem?_eq_some_iff.1 hb).1⟩
      ·cases h00
     obtain⟨b,o,sp⟩:=a;obtain⟨rfl,hb⟩:=hspot;refine⟨b,o,rfl,hb,Sz fun i hil=> ?_⟩;rw[hget i hil];rw[hlen]at hil;obtain⟨hc1,hr1,hr2,_⟩:=hvs i hil;obtain⟨_,hle,hat⟩:=World.cells?_some hc1;refine⟨by rw[<-hr1];exact QW _ _,VT _ (vs i) b _ hr2 fun j y hj=> ?_⟩;have hjl:j<(vs i).length:=(List.getElem?_eq_some_iff.1 hj).1;have:=hat j (by omega);rw[<-hj,<-this,e1];congr 1;unfold Addr.add;by_cases h1:i*ks.length=0<;>by_cases h2:j=0<;>simp[h1,h2,Nat.add_assoc]
  ·simp only[okR,okC,BI,and_true];refine⟨by rw[hlen];omega,fun c hc=> ?_⟩;obtain⟨i,h1,rfl⟩:=hmem c hc;exact⟨(hvs i h1).2.2.2,(hvs i h1).2.1⟩
theorem Q3:∀(n:Nat) (m:Nat) (t:TypeId) (ks:List Kd) (cs:List Value) (x:DataW H×List MemPlace),HS P n t=some ks->DataW.trod enc P w 0 (fun _=>true) true m t cs=some x->Op w ks cs
 |0,_,_,_,_,_,h,_=>by simp[HS]at h
 |n+1,m,t,ks,cs,x,h,hx=>by
  unfold HS at h;split at h
  ·rename_i hu;simp at h;subst h;obtain⟨b,rfl,_⟩:=DataW.trod_bool hu hx;exact⟨[.bool b],rfl,⟨Zam _,trivial⟩,by simp[okR,okC]⟩
  ·rename_i k hu;simp at h;subst h;obtain⟨i,rfl,_,hw⟩:=DataW.trod_int hu hx;exact⟨[.int k i],rfl,⟨Gs _ _,trivial⟩,by simpa [okR,okC,Af,Lit.wf]using hw⟩
  ·rename_i e hu;simp only[Option.bind_eq_some_iff]at h;obtain⟨k1,h1,h2⟩:=h;cases hc:(Nat.beq (P.cellsOf e) k1.length&&Nat.blt 0 k1.length)<;>rw[hc]at h2
   ·simp at h2
   ·simp at h2;subst h2;simp only[Bool.and_eq_true]at hc;have e1:=Nat.eq_of_beq_eq_true hc.1;have e2:0<k1.length:=by have:=hc.2;simp[Nat.blt]at this;omega
    exact Z3o hu e1 e2 hx fun m cs x=>Q3 n m e k1 cs x h1
  ·rename_i fs hu;obtain⟨xs,m',rfl,_,hlen,hxl,hf⟩:=DataW.trod_struct hu hx;simp only[Option.bind_eq_some_iff]at h;obtain⟨k1,h1,h2⟩:=h;cases hc:Nat.beq (P.cellsOf t) k1.length<;>rw[hc]at h2
   ·simp at h2
   ·simp at h2;subst h2;have e:=Nat.eq_of_beq_eq_true hc;have := Q4p (fun t ks cs x => Q3 n m' t ks cs x) fs.toList 0 k1 cs h1 (by omega) (fun f hf' => by
     obtain⟨i,hi⟩:=List.mem_iff_getElem?.1 hf';have hi':fs[i]? =some f:=by simpa using hi
     have:=hf i f hi';have hil:i<fs.size:=by
      have:=(Array.getElem?_eq_some_iff.1 hi').1;exact this
     rw[this,List.getElem?_eq_getElem (by omega)];exact⟨_,rfl⟩)
    simpa using this
  ·rename_i k e hu;obtain⟨xs,m',rfl,_,hlen,hxl,hf⟩:=DataW.trod_array hu hx;simp only[Option.bind_eq_some_iff]at h;obtain⟨k1,h1,h2⟩:=h;cases hc:(Nat.beq (P.cellsOf e) k1.length&&Nat.beq (P.cellsOf t) (k*k1.length))<;>rw[hc]at h2
   ·simp at h2
   ·simp at h2;subst h2;simp only[Bool.and_eq_true]at hc;have e1:=Nat.eq_of_beq_eq_true hc.1;have e2:=Nat.eq_of_beq_eq_true hc.2;refine Zay k cs (by omega) fun i hi=> ?_;have:=hf i hi;rw[e1]at this;refine Q3 n m' e k1 _ (xs[i]'(by omega)) h1 ?_;rw[this,List.getElem?_eq_getElem]
  ·cases h
end
structure Ar where
 agg:Bool
 ks:List Kd
 raw:List AC
def Ar.sh (a:Ar):Bool×List Kd:=(a.agg,a.ks)
def Ar.ok (a:Ar):Prop:=okR a.ks a.raw/\AO a.ks a.raw=a.raw
def Ar.tv (a:Ar):TV:= .v a.agg (AO a.ks a.raw)
def shK (P:Program) (t:TypeId):Option (Bool×List Kd):=match P.underlying t with
 |some (.struct _)=>(HS P 8 t).map fun ks=>(true,ks)
 |some (.array _ _)=>(HS P 8 t).map fun ks=>(true,ks)
 |some .bool=>some (false,[.bool])
 |some (.int k)=>some (false,[.int k])
 |some (.slice _)=>(HS P 8 t).map fun ks=>(false,ks)
 |_=>none
section
variable {H:Type} {enc:TypeId×Value->H} {P:Program} {W:World}
theorem Z3p {t:TypeId} {v:Value} {d:DataW H} {p:List MemPlace} {r:Reach} {b0:Nat} {sh:Bool×List Kd} (hs:shK P t=some sh) (hv:Value.okWide P W r b0 t v)
  (h:DataW.Trod enc P W 0 (fun _=>true) true t v d p):∃a:Ar,a.sh=sh/\a.ok/\∀(ρ:Env),ρ.im=(fun b=>b<W.heap.size)->TVR ρ W a.tv v:=by
 have agg:∀(ks:List Kd) (cs:Array Value),HS P 8 t=some ks->v= .agg cs->∃a:Ar,a.sh=(true,ks)/\a.ok/\∀(ρ:Env),ρ.im=(fun b=>b<W.heap.size)->TVR ρ W a.tv v:=by
  rintro ks cs hk rfl;obtain⟨fuel,hf⟩:=h;obtain⟨raw,r1,r2,r3⟩:=Q3 8 fuel t ks _ _ hk hf;refine⟨⟨true,ks,raw⟩,rfl,⟨r3,r1⟩,fun ρ hρ=>⟨cs,rfl,?_⟩⟩;rw[r1];exact r2.mono fun a _ x hx=>IW (by rw[hρ];exact hx)
 unfold shK at hs;split at hs
 ·rename_i fs hu;simp only[Option.map_eq_some_iff]at hs;obtain⟨ks,hk,rfl⟩:=hs;obtain⟨cs,rfl,_⟩:=okWide_struct hu hv;exact agg ks cs hk rfl
 ·rename_i k e hu;simp only[Option.map_eq_some_iff]at hs;obtain⟨ks,hk,rfl⟩:=hs;obtain⟨cs,rfl,_⟩:∃cs,v= .agg cs/\cs.size=P.cellsOf t:=by
   simp only[Value.okWide,hu]at hv;obtain⟨cs,h1,h2,_⟩:=hv;exact⟨cs,h1,h2⟩
  exact agg ks cs hk rfl
 ·rename_i hu;simp at hs;subst hs;obtain⟨n,rfl,_,_⟩:=open_bool hu hv h;exact⟨⟨false,[.bool],[.bool n]⟩,rfl,⟨by simp[okR,okC],rfl⟩,fun ρ _=>TVR.mkBool n⟩
 ·rename_i k hu;simp at hs;subst hs;obtain⟨n,rfl,_,_,hw⟩:=open_int hu hv h;exact⟨⟨false,[.int k],[.int k n]⟩,rfl,⟨by simpa [okR,okC,Af,Lit.wf]using hw,rfl⟩,fun ρ _=>TVR.mkInt k n⟩
 ·rename_i e hu;simp only[Option.map_eq_some_iff]at hs;obtain⟨ks,hk,rfl⟩:=hs;obtain⟨a0,len,cap,rfl⟩:=okWide_slice hu hv;obtain⟨fuel,hf⟩:=h;obtain⟨raw,r1,r2,r3⟩:=Q3 8 fuel t ks _ _ hk hf;have hl:raw.length=1:=by rw[r2.length];simp[Value.cells]
  match raw,hl with
  |[a],_=>
   refine⟨⟨false,ks,[a]⟩,rfl,⟨r3,r1⟩,fun ρ hρ=>⟨a,r1,?_⟩⟩;have:=r2.1;exact IW (by rw[hρ];simpa [Value.cells]using this)
 ·cases hs
theorem Qz7 {r:Reach} {b0:Nat}:∀(ts:List TypeId) (vs:List Value) (ds:List (DataW H)) (p:List MemPlace) (shs:List (Bool×List Kd)),ts.map (shK P)=shs.map some->
  (∀(j:Nat) (t:TypeId) (v:Value),ts[j]? =some t->vs[j]? =some v->Value.okWide P W r b0 t v)->DataW.TrodAll enc P W 0 (fun _=>true) true ts vs ds p->
  ∃as:List Ar,as.map Ar.sh=shs/\(∀a∈as,a.ok)/\vs.length=as.length/\∀(i:Nat) (a:Ar) (x:Value),as[i]? =some a->vs[i]? =some x->∀(ρ:Env),ρ.im=(fun b=>b<W.heap.size)->TVR ρ W a.tv x
 |[],vs,ds,p,shs,hs,_,h=>by
  obtain⟨rfl,rfl,rfl⟩:=trodAll_nil h;cases shs with
  |nil=>exact⟨[],rfl,by simp,rfl,by simp⟩
  |cons=>simp at hs
 |t::ts,vs,ds,p,shs,hs,hv,h=>by
  obtain⟨v,vs1,d,ds1,a,b,rfl,rfl,rfl,h1,h2⟩:=trodAll_cons h;cases shs with
  |nil=>simp at hs
  |cons sh shs=>
   simp only[List.map_cons,List.cons.injEq]at hs;obtain⟨as,e1,e2,e3,e4⟩:=Qz7 ts vs1 ds1 b shs hs.2 (fun j t v ht hvv=>hv (j+1) t v (by simpa using ht) (by simpa using hvv)) h2;obtain⟨a,ha,hok,hp⟩:=Z3p hs.1 (hv 0 t v rfl rfl) h1;refine⟨a::as,by simp[ha,e1],?_,by simp[e3],?_⟩
   ·intro x hx;rcases List.mem_cons.1 hx with rfl|hx
    ·exact hok
    ·exact e2 x hx
   ·intro i a' x h1 h2;cases i with
    |zero=>simp at h1 h2;subst h1;subst h2;exact hp
    |succ i=>exact e4 i a' x (by simpa using h1) (by simpa using h2)
theorem Zas (hl:laidOutB P=true) {W':World} (hb:Below W.heap.size W W') {sp:Nat->Bool}:∀(ts:List TypeId) (vs:List Value) (ds:List (DataW H)) (p:List MemPlace),
  ts.all (fun t=>P.readableRec t&&decide (t<P.types.size))=true->(∀x∈p,x.block<W.heap.size/\sp x.block=true)->DataW.TrodAll enc P W 0 (fun _=>true) true ts vs ds p->
  DataW.TrodAll enc P W' 0 sp true ts vs ds p
 |[],vs,ds,p,_,_,h=>by
  obtain⟨rfl,rfl,rfl⟩:=trodAll_nil h;exact rfl
 |t::ts,vs,ds,p,hr,hlt,h=>by
  obtain⟨v,vs1,d,ds1,a,b,rfl,rfl,rfl,h1,h2⟩:=trodAll_cons h;simp only[List.all_cons,Bool.and_eq_true,decide_eq_true_eq]at hr;refine⟨a,b,WideElems.Trod_stays hl hr.1.1 hr.1.2 h1 (fun x hx=>hb.same (hlt x (by simp[hx])).1) (fun x hx=>(hlt x (by simp[hx])).2),?_,rfl⟩;exact Zas hl hb ts vs1 ds1 b hr.2 (fun x hx=>hlt x (by simp[hx])) h2
theorem Zxj {f:Func} {s:ChangeSpec} {apart fresh handsOn again:Bool} {W W':World} {args:Array Value} {v:Value} {ds gs:List (DataW H)} {before pa pv:List MemPlace}
  (hW:DataW.Whole enc P f.params.toList s.vars apart W args.toList ds gs before)
  (hres:∀(b:Nat) (sp:Nat->Bool) (hd:Bool),DataW.TrodAll enc P W' b sp hd f.resultTypes.toList (v.resultList f.resultTypes.size) (s.fn H (ds++gs)).results [])
  (hargs:∀sp:Nat->Bool,(∀p∈before,sp p.block=true)->DataW.TrodAll enc P W' 0 sp true f.params.toList args.toList (s.fn H (ds++gs)).args pa)
  (hvars:∀sp:Nat->Bool,(∀p∈before,sp p.block=true)->DataW.TrodVars enc P W' sp s.vars (s.fn H (ds++gs)).vars pv)
  (hps:before=pa++pv) (hb:Below W.heap.size W W')
  (hok:∀(j:Nat) (t:TypeId) (r:Value),f.resultTypes[j]? =some t->(v.resultList f.resultTypes.size)[j]? =some r->Value.okWide P W' .any 0 t r):
  s.post enc P f apart fresh handsOn again W args v W':=by
 have hlt:∀p∈before,p.block<W.heap.size:=fun p hp=>hW.lt p hp;have hold:∀p∈before,(fun b=>decide (b<W.heap.size)) p.block=true:=fun p hp=>by simpa using hlt p hp
 refine⟨ds,gs,before,[],pa,pv,hW,hres _ _ _,hargs _ hold,hvars _ hold,World.keptBut_mono (fun p hp=>⟨hp,?_⟩) (hb.frame (· ∈before)),fun _=> ?_⟩
 ·rw[hps,List.mem_append]at hp;exact Or.inr hp
 ·obtain⟨_,_,_,_,_,hz,hn⟩:=hW;refine⟨hok,_,_,([]++pa)++pv,⟨[]++pa,pv,trodAll_append (hargs _ (fun _ _=>rfl)) (hres _ _ _),hvars _ (fun _ _=>rfl),rfl,?_,?_⟩,?_⟩
  ·intro b off hp;have hin:MemPlace.cell b off∈before:=by rw[hps];simpa using hp
   rw[hb.frozen (hlt _ hin)];exact hz b off hin
  ·intro ha;have:=hn ha;rw[hps]at this;simpa using this
  ·intro p hp _;rw[hps];simpa using hp
theorem Z1m {f:FuncId} {fn:Func} {s:ChangeSpec} {apart fresh handsOn again:Bool} {tb:TypeId} {shs:List (Bool×List Kd)} {args:Array Value} {ds gs:List (DataW H)} {before:List MemPlace} {base:Nat}
  (hvars:s.vars=[]) (hl:laidOutB P=true) (hrt:fn.resultTypes= #[tb]) (htb:P.underlying tb=some .bool)
  (hr:fn.params.toList.all (fun t=>P.readableRec t&&decide (t<P.types.size))=true) (hsh:fn.params.toList.map (shK P)=shs.map some)
  (hspec:∀l:List (DataW H),l.length=shs.length->s.fn H l={results:=[.lit (.bool true)],args:=l})
  (hlaw:∀as:List Ar,as.map Ar.sh=shs->(∀a∈as,a.ok)->PCallM P f (as.map Ar.tv) ⟨[],[]⟩ (.v false [.bool true]) ⟨[],[]⟩)
  (hval:∀(j:Nat) (t:TypeId) (v:Value),fn.params[j]? =some t->args[j]? =some v->Value.okWide P W .any base t v)
  (hW:DataW.Whole enc P fn.params.toList s.vars apart W args.toList ds gs before):
  Calls P f args W fun e W'=>∃v,e= .returned v/\s.post enc P fn apart fresh handsOn again W args v W':=by
 have hW':=hW;obtain⟨p,q,hA,hV,rfl,hfz,hnd⟩:=hW;rw[hvars]at hV;obtain⟨rfl,rfl⟩:=trodVars_none hV;have hlt:∀x∈p++[],x.block<W.heap.size:=fun x hx=>hW'.lt x hx;obtain⟨as,e1,e2,e3,e4⟩:=Qz7 (r:= .any) (b0:=base) fn.params.toList args.toList ds p shs hsh (fun j t v ht hv=>hval j t v (by simpa using ht) (by simpa using hv)) hA;have hdl:ds.length=shs.length:=by
  have:∀(ts:List TypeId) (vs:List Value) (ds:List (DataW H)) (p:List MemPlace),DataW.TrodAll enc P W 0 (fun _=>true) true ts vs ds p->ds.length=vs.length:=by
   intro ts;induction ts with
   |nil=>intro vs ds p h;obtain⟨rfl,rfl,rfl⟩:=trodAll_nil h;rfl
   |cons t ts ih=>
    intro vs ds p h;obtain⟨v,vs1,d,ds1,a,b,rfl,rfl,rfl,h1,h2⟩:=trodAll_cons h;simp[ih _ _ _ h2]
  rw[this _ _ _ _ hA,e3,<-e1,List.length_map]
 have hfn:=hspec (ds++[]) (by simpa using hdl);have hrel:RelE (EH (fun b=>b<W.heap.size) W ⟨fun _=>0,fun _=> .slice none 0 0,fun _=>0,fun b=>b<W.heap.size⟩ []) (as.map Ar.tv) [] [] ⟨fun _=>0,fun _=> .slice none 0 0,fun _=>0,fun b=>b<W.heap.size⟩ args.toList.toArray W:=by
  refine⟨by simpa using e3.symm,fun i v hi=> ?_,fun v hv=> ?_,fun k b hk=>by simp[Ab]at hk,fun k b hk=>by simp[Ab]at hk,fun k k' b b' hk=>by simp[Ab]at hk,fun id r hr=>by simp[Ab]at hr,
   fun id id' r r' g hr=>by simp[Ab]at hr,fun k b id r hk=>by simp[Ab]at hk,fun b hb=>⟨hb,fun k bo hk=>by simp[Ab]at hk,fun id r hr=>by simp[Ab]at hr⟩,Fr.refl _ _,fun _ h=>h,fun _ h=>h,fun b h=> .inl h,fun k b hk=>by simp[EH,Ab]at hk⟩
  ·simp only[List.getElem?_map,Option.map_eq_some_iff]at hi;obtain⟨a,ha,rfl⟩:=hi;have hil:i<args.toList.length:=by rw[e3];exact(List.getElem?_eq_some_iff.1 ha).1
   have hil2:i<args.size:=by simpa using hil
   have e:args.toList.toArray.getD i undef=args.toList[i]:=by simp[Array.getD,hil2]
   rw[e];exact e4 i a _ ha (List.getElem?_eq_getElem hil) _ rfl
  ·simp only[List.mem_map]at hv;obtain⟨a,ha,rfl⟩:=hv;intro c hc;obtain⟨i,hi⟩:=List.getElem?_of_mem ha;have hil:i<args.toList.length:=by rw[e3];exact(List.getElem?_eq_some_iff.1 hi).1
   have htv:=e4 i a _ hi (List.getElem?_eq_getElem hil) ⟨fun _=>0,fun _=> .slice none 0 0,fun _=>0,fun b=>b<W.heap.size⟩ rfl;have hcalm:∀(ks:List Kd) (cs:List AC) (j:Nat),∀c∈Ek ks cs j,AC.calm c=true:=by
    intro ks;induction ks with
    |nil=>intro cs j c hc;simp[Ek]at hc
    |cons k ks ih=>
     intro cs j c hc;simp only[Ek,List.mem_cons]at hc;rcases hc with rfl|hc
     ·cases k<;>try rfl
      generalize nth AC.dead cs j=b;cases b<;>rfl
     ·exact ih cs _ c hc
   have:=hcalm a.ks a.raw 0 c hc;cases c<;>first|trivial|(simp[AC.calm]at this)
 have hcall:=hlaw as e1 e2 _ W _ args.toList hrel;have hargs:args.toList.toArray=args:=by simp
 rw[hargs]at hcall;refine hcall.mono ?_;rintro e W' ⟨x,ρ',rfl,hR⟩;have hb:Below W.heap.size W W':=⟨hR.fr.os,hR.fr.tape,hR.fr.output,hR.fr.size,fun k hk=>hR.fr.block k hk⟩;have hx:x= .bool true:=by
  have:TVR ρ' W' (.c (.bool true)) x:=by simpa using hR.tv 0 _ rfl
  obtain⟨a,ha,hc⟩:=this;simp at ha;subst ha;simpa [CC,CP]using hc
 subst hx;refine⟨_,rfl,Zxj (pa:=p) (pv:=[]) hW' ?_ ?_ ?_ rfl hb (ok_one hrt rfl (okWide_bool_mk htb true))⟩
 ·intro b sp hd;rw[hfn,hrt];exact trodAll_mk1 (shut_bool htb true)
 ·intro sp hsp;rw[hfn];simp only[List.append_nil];exact Zas hl hb _ _ _ _ hr (fun x hx=>⟨hlt x (by simp[hx]),hsp x (by simp[hx])⟩) hA
 ·intro sp hsp;rw[hfn,hvars];exact rfl
end
end Go.Bm
namespace Go.Bm
theorem SH:∀{l:List (Nat×Spec)} {k:Nat} {b:Spec},HQ l k=some b->(k,b)∈l
 |[],_,_,h=>by simp[HQ]at h
 |(j,c)::l,k,b,h=>by
  simp only[HQ]at h;cases hb:Nat.beq j k<;>rw[hb]at h
  ·simp only[cond_false]at h;exact List.mem_cons_of_mem _ (SH h)
  ·simp at h;subst h;rw[Nat.eq_of_beq_eq_true hb];simp
def Lb (P:Program) (f:FuncId):Bool:=match P.funcs[f]? with
 |some fn=> !(fn.name== "runtime.NumGoroutine")&&fn.body.isSome
 |none=>false
theorem Ud {P:Program} {f:FuncId} (h:Lb P f=true):Q1 P f:=by
 unfold Lb at h;split at h
 ·rename_i fn hf;simp only[Bool.and_eq_true,Bool.not_eq_true']at h;exact⟨fn,hf,h.1,by cases hb:fn.body<;>simp_all⟩
 ·cases h
def Aj (P:Program) (p:Nat×Spec):Prop:=SpecRight P p.1 p.2
def AllOK (P:Program):List (Nat×Spec)->Prop
 |[]=>True
 |p::l=>Aj P p/\AllOK P l
theorem AllOK.mem {P:Program}:∀{l:List (Nat×Spec)},AllOK P l->∀p∈l,Aj P p
 |_::l,h,p,hp=>by
  rcases List.mem_cons.1 hp with rfl|hp
  ·exact h.1
  ·exact AllOK.mem h.2 p hp
theorem Ao {P:Program} {C:Cfg} {l:List (Nat×Spec)} (hC:C.spec=HQ l) (h:AllOK P l) (hro:C.ro=fun _=>false:=by rfl):Ai P C:=by
 refine⟨fun f g hg=> ?_,fun f g _ h=> ?_⟩
 ·rw[hC]at hg;exact h.mem _ (SH hg)
 ·rw[hro]at h;cases h
def AllRo (rs:List Nat):List (Nat×Spec)->Prop
 |[]=>True
 |p::l=>(AR rs p.1=false\/Tq p.2)/\AllRo rs l
theorem AllRo.mem {rs:List Nat}:∀{l:List (Nat×Spec)},AllRo rs l->∀p∈l,AR rs p.1=false\/Tq p.2
 |_::l,h,p,hp=>by
  rcases List.mem_cons.1 hp with rfl|hp
  ·exact h.1
  ·exact AllRo.mem h.2 p hp
theorem II {P:Program} {C:Cfg} {l:List (Nat×Spec)} {rs:List Nat} (hC:C.spec=HQ l) (h:AllOK P l) (hro:C.ro=fun f=>AR rs f) (h2:AllRo rs l):Ai P C:=by
 refine⟨fun f g hg=> ?_,fun f g hg hr=> ?_⟩
 ·rw[hC]at hg;exact h.mem _ (SH hg)
 ·rw[hC]at hg;rw[hro]at hr;rcases h2.mem _ (SH hg)with h|h
  ·dsimp only at h hr;rw[hr]at h;cases h
  ·exact h
theorem Ae {x:Int} (h: -9223372036854775808<=x/\x<=9223372036854775807):IntKind.i64.wrap x=x:=by
 simp[IntKind.wrap,IntKind.signed,IntKind.bits];omega
section loops
variable {step:List AC->Option (Nat×List AC)}
theorem Q96:∀{n:Nat} {vars:List AC} {o:Nat×List AC},CV step n vars=some o->CV step (n+1) vars=some o
 |0,_,_,h=>by simp[CV]at h
 |n+1,vars,o,h=>by
  rw[CV]at h⊢;simp only[Option.bind_eq_some_iff]at h⊢;obtain⟨q,h1,h2⟩:=h;refine⟨q,h1,?_⟩;split at h2
  ·rename_i h0;rw[if_pos h0];exact Q96 h2
  ·rename_i h0;rw[if_neg h0];exact h2
theorem Qug {n m:Nat} {vars:List AC} {o:Nat×List AC} (hnm:n<=m) (h:CV step n vars=some o):CV step m vars=some o:=by
 induction hnm with
 |refl=>exact h
 |step _ ih=>exact Q96 ih
theorem Zds {n m:Nat} {vars:List AC} {o o':Nat×List AC} (h:CV step n vars=some o) (h':CV step m vars=some o'):o=o':=by
 have h1:=Qug (Nat.le_max_left n m) h;have h2:=Qug (Nat.le_max_right n m) h';rw[h1]at h2;simpa using h2
open Classical in
noncomputable def An (step:List AC->Option (Nat×List AC)) (vars:List AC):Option (Nat×List AC):=
 if h:∃n o,CV step n vars=some o then CV step (Classical.choose h) vars else none
theorem TU {vars:List AC} {o:Nat×List AC} (h:An step vars=some o):∃n,CV step n vars=some o:=by
 unfold An at h;split at h
 ·exact⟨_,h⟩
 ·simp at h
theorem Qne {n:Nat} {vars:List AC} {o:Nat×List AC} (h:CV step n vars=some o):An step vars=some o:=by
 unfold An;have hx:∃n o,CV step n vars=some o:=⟨n,o,h⟩;rw[dif_pos hx];obtain⟨o',ho'⟩:=Classical.choose_spec hx;rw[ho',Zds h ho']
theorem PP (vars:List AC):An step vars=(step vars).bind fun o=>if o.1=0 then An step o.2 else some o:=by
 cases hs:step vars with
 |none=>
  cases hl:An step vars with
  |none=>rfl
  |some o=>
   obtain⟨n,hn⟩:=TU hl;cases n with
   |zero=>simp[CV]at hn
   |succ n=>simp[CV,hs]at hn
 |some q=>
  simp only[Option.bind_some];by_cases h0:q.1=0
  ·rw[if_pos h0];cases hl:An step q.2 with
   |none=>
    cases hl2:An step vars with
    |none=>rfl
    |some o=>
     obtain⟨n,hn⟩:=TU hl2;cases n with
     |zero=>simp[CV]at hn
     |succ n=>
      simp only[CV,hs,Option.bind_some,if_pos h0]at hn;rw[Qne hn]at hl;cases hl
   |some o=>
    obtain⟨n,hn⟩:=TU hl;exact Qne (n:=n+1) (by simp only[CV,hs,Option.bind_some,if_pos h0];exact hn)
  ·rw[if_neg h0];exact Qne (n:=1) (by simp only[CV,hs,Option.bind_some,if_neg h0])
end loops
theorem Kl:∀(c:Code) (b blk:Nat) (body:Code),(blk,body)∈AN c b->(∀p∈AN body blk,p∈AN c b)/\(∀p∈A2 body,p∈A2 c)/\(∀p∈A7 body blk,p∈A7 c b)
 | .seq x y,b,blk,body,h=>by
  simp only[AN,List.mem_append]at h;rcases h with h|h
  ·obtain⟨h1,h2,h3⟩:=Kl x b blk body h;exact⟨fun p hp=>by simp[AN,h1 p hp],fun p hp=>by simp[A2,h2 p hp],fun p hp=>by simp[A7,h3 p hp]⟩
  ·obtain⟨h1,h2,h3⟩:=Kl y b blk body h;exact⟨fun p hp=>by simp[AN,h1 p hp],fun p hp=>by simp[A2,h2 p hp],fun p hp=>by simp[A7,h3 p hp]⟩
 | .cond c x y,b,blk,body,h=>by
  simp only[AN,List.mem_append]at h;rcases h with h|h
  ·obtain⟨h1,h2,h3⟩:=Kl x b blk body h;exact⟨fun p hp=>by simp[AN,h1 p hp],fun p hp=>by simp[A2,h2 p hp],fun p hp=>by cases c<;>simp[A7,h3 p hp]⟩
  ·obtain⟨h1,h2,h3⟩:=Kl y b blk body h;exact⟨fun p hp=>by simp[AN,h1 p hp],fun p hp=>by simp[A2,h2 p hp],fun p hp=>by cases c<;>simp[A7,h3 p hp]⟩
 | .block id x,b,blk,body,h=>by
  simp only[AN]at h;obtain⟨h1,h2,h3⟩:=Kl x b blk body h;exact⟨fun p hp=>by simp[AN,h1 p hp],fun p hp=>by simp[A2,h2 p hp],fun p hp=>by simp[A7,h3 p hp]⟩
 | .loop x,b,blk,body,h=>by
  simp only[AN,List.mem_cons,Prod.mk.injEq]at h;rcases h with⟨rfl,rfl⟩|h
  ·exact⟨fun p hp=>by rw[Ii _ _ b]at hp;simp[AN,hp],fun p hp=>by simp[A2,hp],fun p hp=>by rw[HZ _ _ b]at hp;simp[A7,hp]⟩
  ·obtain⟨h1,h2,h3⟩:=Kl x b blk body h;exact⟨fun p hp=>by simp[AN,h1 p hp],fun p hp=>by simp[A2,h2 p hp],fun p hp=>by simp[A7,h3 p hp]⟩
 | .skip,_,_,_,h=>by simp[AN]at h
 | .region _ _ _,_,_,_,h=>by simp[AN]at h
 | .exit _,_,_,_,h=>by simp[AN]at h
 | .ret,_,_,_,h=>by simp[AN]at h
 | .rangeFunc _ _ _ _,_,_,_,h=>by simp[AN]at h
 | .scope x,b,blk,body,h=>by
  simp only[AN]at h;obtain⟨h1,h2,h3⟩:=Kl x b blk body h;exact⟨fun p hp=>by simp[AN,h1 p hp],fun p hp=>by simp[A2,h2 p hp],fun p hp=>by simp[A7,h3 p hp]⟩
 | .label _,_,_,_,h=>by simp[AN]at h
 | .goto _,_,_,_,h=>by simp[AN]at h
 | .refuse _,_,_,_,h=>by simp[AN]at h
theorem JG:∀(c:Code) (b id:Nat) (body:Code),(id,body)∈A2 c->(∀p∈AN body id,p∈AN c b)/\(∀p∈A2 body,p∈A2 c)/\(∀p∈A7 body id,p∈A7 c b)
 | .seq x y,b,id,body,h=>by
  simp only[A2,List.mem_append]at h;rcases h with h|h
  ·obtain⟨h1,h2,h3⟩:=JG x b id body h;exact⟨fun p hp=>by simp[AN,h1 p hp],fun p hp=>by simp[A2,h2 p hp],fun p hp=>by simp[A7,h3 p hp]⟩
  ·obtain⟨h1,h2,h3⟩:=JG y b id body h;exact⟨fun p hp=>by simp[AN,h1 p hp],fun p hp=>by simp[A2,h2 p hp],fun p hp=>by simp[A7,h3 p hp]⟩
 | .cond c x y,b,id,body,h=>by
  simp only[A2,List.mem_append]at h;rcases h with h|h
  ·obtain⟨h1,h2,h3⟩:=JG x b id body h;exact⟨fun p hp=>by simp[AN,h1 p hp],fun p hp=>by simp[A2,h2 p hp],fun p hp=>by cases c<;>simp[A7,h3 p hp]⟩
  ·obtain⟨h1,h2,h3⟩:=JG y b id body h;exact⟨fun p hp=>by simp[AN,h1 p hp],fun p hp=>by simp[A2,h2 p hp],fun p hp=>by cases c<;>simp[A7,h3 p hp]⟩
 | .block j x,b,id,body,h=>by
  simp only[A2,List.mem_cons,Prod.mk.injEq]at h;rcases h with⟨rfl,rfl⟩|h
  ·exact⟨fun p hp=>by rw[Ii _ _ b]at hp;simp[AN,hp],fun p hp=>by simp[A2,hp],fun p hp=>by rw[HZ _ _ b]at hp;simp[A7,hp]⟩
  ·obtain⟨h1,h2,h3⟩:=JG x b id body h;exact⟨fun p hp=>by simp[AN,h1 p hp],fun p hp=>by simp[A2,h2 p hp],fun p hp=>by simp[A7,h3 p hp]⟩
 | .loop x,b,id,body,h=>by
  simp only[A2]at h;obtain⟨h1,h2,h3⟩:=JG x b id body h;exact⟨fun p hp=>by simp[AN,h1 p hp],fun p hp=>by simp[A2,h2 p hp],fun p hp=>by simp[A7,h3 p hp]⟩
 | .skip,_,_,_,h=>by simp[A2]at h
 | .region _ _ _,_,_,_,h=>by simp[A2]at h
 | .exit _,_,_,_,h=>by simp[A2]at h
 | .ret,_,_,_,h=>by simp[A2]at h
 | .rangeFunc _ _ _ _,_,_,_,h=>by simp[A2]at h
 | .scope x,b,id,body,h=>by
  simp only[A2]at h;obtain⟨h1,h2,h3⟩:=JG x b id body h;exact⟨fun p hp=>by simp[AN,h1 p hp],fun p hp=>by simp[A2,h2 p hp],fun p hp=>by simp[A7,h3 p hp]⟩
 | .label _,_,_,_,h=>by simp[A2]at h
 | .goto _,_,_,_,h=>by simp[A2]at h
 | .refuse _,_,_,_,h=>by simp[A2]at h
structure FnOK (P : Program) (C : Cfg) (f : FuncId) : Prop where
 l:∀p∈Il P f,∀sk g,C.loops p.1=some (sk,g)->Jo P (.loop p.2) sk g
 b:∀p∈JV P f,∀sk g,C.blocks p.1=some (sk,g)->Jo P (.block p.1 p.2) sk g
 c:∀p∈RV P f,∀sk g,C.conds p.1=some (sk,g)->Jo P (.cond (.tmp p.1) p.2.2.1 p.2.2.2) sk g
theorem FnOK.bare {P:Program} {C:Cfg} {f:FuncId} (h1:C.loops=fun _=>none) (h2:C.blocks=fun _=>none) (h3:C.conds=fun _=>none):FnOK P C f:=
 ⟨fun p _ sk g h=>by simp[h1]at h,fun p _ sk g h=>by simp[h2]at h,fun p _ sk g h=>by simp[h3]at h⟩
theorem FnOK.sub {P:Program} {C:Cfg} {f:FuncId} (h:FnOK P C f) {c:Code} (hc:Kc P f=some c):SubOK P C c 0:=
 ⟨fun p hp=>h.l p (by unfold Il;rw[hc];exact hp),fun p hp=>h.b p (by unfold JV;rw[hc];exact hp),fun p hp=>h.c p (by unfold RV;rw[hc];exact hp)⟩
theorem Zus {P:Program} {f blk:Nat} {c:Code} (h:Ab (Il P f) blk=some c):AU P f blk=c:=by unfold AU;rw[h]
theorem SW {α:Type}:∀{l:List (Nat×α)} {k:Nat} {b:α},Bz (l.map (·.1))=true->(k,b)∈l->Ab l k=some b
 |[],_,_,_,h=>by simp at h
 |(j,c)::l,k,b,hd,h=>by
  have hd':=Iu.1 hd;simp only[List.map_cons,List.nodup_cons]at hd';simp only[Ab];rcases List.mem_cons.1 h with h|h
  ·simp at h;obtain⟨rfl,rfl⟩:=h;simp
  ·have:j≠k:=by rintro rfl;exact hd'.1 (List.mem_map.2 ⟨(j,b),h,rfl⟩)
   rw[Kr this];exact SW (Iu.2 hd'.2) h
theorem FnOK.subLoop {P:Program} {C:Cfg} {f:FuncId} (h:FnOK P C f) {blk:Nat} {body:Code} (hm:(blk,body)∈Il P f):SubOK P C body blk:=by
 unfold Il at hm;split at hm
 ·rename_i c hc;obtain⟨h1,h2,h3⟩:=Kl c 0 blk body hm;exact⟨fun p hp=>h.l p (by unfold Il;rw[hc];exact h1 p hp),fun p hp=>h.b p (by unfold JV;rw[hc];exact h2 p hp),fun p hp=>h.c p (by unfold RV;rw[hc];exact h3 p hp)⟩
 ·simp at hm
theorem FnOK.subBlock {P:Program} {C:Cfg} {f:FuncId} (h:FnOK P C f) {id:Nat} {body:Code} (hm:(id,body)∈JV P f):SubOK P C body id:=by
 unfold JV at hm;split at hm
 ·rename_i c hc;obtain⟨h1,h2,h3⟩:=JG c 0 id body hm;exact⟨fun p hp=>h.l p (by unfold Il;rw[hc];exact h1 p hp),fun p hp=>h.b p (by unfold JV;rw[hc];exact h2 p hp),fun p hp=>h.c p (by unfold RV;rw[hc];exact h3 p hp)⟩
 ·simp at hm
theorem FnOK.loop {P:Program} {C:Cfg} {f:FuncId} (h:FnOK P C f) (hspec:Ai P C) (hok:∀t∈C.eqOk,P.stoodInHeld t=false) (hmix:P.follows .mixedOrders=true) {L blk:Nat} {sk:Sk} {exits:List (Ex×Sk)}
  (hd:Bz ((Il P f).map (·.1))=true) (hsk:sk.okB=true):FnOK P (C.loop blk sk exits (An (AT P C L blk (AU P f blk) sk exits))) f:=by
 refine⟨fun p hp sk' g hg=> ?_,h.b,h.c⟩;simp only[Cfg.loop]at hg;cases hb:Nat.beq p.1 blk<;>rw[hb]at hg
 ·exact h.l p hp sk' g hg
 ·have e:=Nat.eq_of_beq_eq_true hb;subst e;simp only[cond_true,Option.some.injEq,Prod.mk.injEq]at hg;obtain⟨rfl,rfl⟩:=hg;have hbody:=Zus (SW (k:=p.1) (b:=p.2) hd hp);rw[hbody];exact Zmw hspec hok hmix hsk (h.subLoop hp) fun vars o ho=>TU ho
theorem FnOK.block {P:Program} {C:Cfg} {f:FuncId} (h:FnOK P C f) (hspec:Ai P C) (hok:∀t∈C.eqOk,P.stoodInHeld t=false) (hmix:P.follows .mixedOrders=true) {L id:Nat} {sk:Sk} {exits:List (Ex×Sk)}
  (hd:Bz ((JV P f).map (·.1))=true):FnOK P (C.block id sk exits (Qx8 P C L id (Qan P f id) sk exits)) f:=by
 refine⟨h.l,fun p hp sk' g hg=> ?_,h.c⟩;simp only[Cfg.block]at hg;cases hb:Nat.beq p.1 id<;>rw[hb]at hg
 ·exact h.b p hp sk' g hg
 ·have e:=Nat.eq_of_beq_eq_true hb;subst e;simp only[cond_true,Option.some.injEq,Prod.mk.injEq]at hg;obtain⟨rfl,rfl⟩:=hg;have hbody:Qan P f p.1=p.2:=by unfold Qan;rw[SW (k:=p.1) (b:=p.2) hd hp]
  rw[hbody];exact Zsb hspec hok hmix (h.subBlock hp) fun vars o ho=>ho
theorem Qff {P:Program} {C:Cfg} {f:FuncId} {L:Nat} {sig osig:Sk} (hc:Lb P f=true) (h:FnOK P C f) (hspec:Ai P C) (hok:∀t∈C.eqOk,P.stoodInHeld t=false) (hmix:P.follows .mixedOrders=true)
  (h1:sig.okB=true) (h2:osig.okB=true):Aj P (f,Ac sig osig (Am P C L f sig osig)):=
 Z1w hspec hok hmix (Ud hc) h1 h2 (fun _ hcode=>h.sub hcode) fun _ _ ho=>ho
theorem Zjn {P:Program} {C:Cfg} {f:FuncId} {L:Nat} {sig osig:Sk} (_:Lb P f=true) (h:FnOK P C f) (hspec:Ai P C) (hok:∀t∈C.eqOk,P.stoodInHeld t=false) (hmix:P.follows .mixedOrders=true)
  (h1:sig.okB=true) (h2:osig.okB=true) (args:List TV) (v:TV) (mem':Mem) (hrun:(Ac sig osig (Am P C L f sig osig) (TV×Mem) args ⟨[],[]⟩ fun v m=>some (v,m))=some (v,mem')):PCallM P f args ⟨[],[]⟩ v mem':=
 Q6c hspec hok hmix h1 h2 (fun _ hcode=>h.sub hcode) (fun _ _ ho=>ho) hrun
theorem QO {P:Program} {f:FuncId} {sig osig:Sk}:Aj P (f,Ac sig osig fun _=>none):=by
 refine⟨W9,fun args mem v mem' h=> ?_⟩;obtain⟨aB,aC⟩:=mem;simp only[Ac]at h;obtain⟨_,h⟩:=BL h;split at h
 ·simp at h
 ·simp at h
section
variable {H α:Type}
theorem Z7h (F G:List (DataW H)->α) (h:∀a b c d e,F [a,b,c,d,e]=G [a,b,c,d,e]) (l:List (DataW H)) (hl:l.length=5):F l=G l:=by
 match l,hl with
 |[a,b,c,d,e],_=>exact h a b c d e
end
theorem Pv {l:List Ar} {s:Bool×List Kd} {shs:List (Bool×List Kd)} (h:l.map Ar.sh=s::shs):∃a l',l=a::l'/\a.agg=s.1/\a.ks=s.2/\l'.map Ar.sh=shs:=by
 cases l with
 |nil=>simp at h
 |cons a l'=>
  simp only[List.map_cons,List.cons.injEq]at h;refine⟨a,l',rfl,?_,?_,h.2⟩
  ·rw[<-h.1];rfl
  ·rw[<-h.1];rfl
theorem Z4o {l:List Ar} (h:l.map Ar.sh=[]):l=[]:=by
 cases l with
 |nil=>rfl
 |cons a l'=>simp at h
end Go.Bm
namespace Go.Bm
theorem Zwp {rl:Nat->Nat} {c:CS} {a:AC} {v:List AC} (he:Qfv c a=true) (h:Kq c a=some v) {l:List AC} {i:Nat} (hs:Seg l i v):DN rl l c i=(a,i+v.length):=by
 cases c<;>cases a<;>simp only[Qfv]at he<;>try (simp at he;done)
 case int.int k k' n=>
  simp only[Kq,he,cond_true,Option.some.injEq]at h;subst h;simp only[DN,hs.one,Af,NB he,List.length_cons,List.length_nil]
 case bool.bool b=>
  simp only[Kq,Option.some.injEq]at h;subst h;simp only[DN,hs.one,Dp,List.length_cons,List.length_nil]
 case sl.view ks ks' q=>
  simp only[Kq,he,cond_true,Option.some.injEq]at h;subst h;simp only[DN,hs.one,BI,IK he,List.length_cons,List.length_nil]
 case ptr.ptr k o k' o'=>
  simp only[Kq,he,cond_true,Option.some.injEq]at h;subst h;simp only[Bool.and_eq_true]at he;simp only[DN,Nat.eq_of_beq_eq_true he.1,Nat.eq_of_beq_eq_true he.2,List.length_nil,Nat.add_zero]
theorem Q8e {rl:Nat->Nat} {l:List AC}:∀{cs:List CS} {as:List AC} {v:List AC},OK cs as=true->Gq cs as=some v->∀{i},Seg l i v->DR rl l cs i=(as,i+v.length)
 |[],[],v,_,h,i,_=>by simp[Gq]at h;subst h;rfl
 |c::cs,a::as,v,he,h,i,hs=>by
  simp only[OK,Bool.and_eq_true]at he;simp only[Gq]at h;split at h
  ·rename_i v1 h1;split at h
   ·rename_i v2 h2;simp at h;subst h;simp only[DR,Zwp he.1 h1 hs.left,Q8e he.2 h2 hs.right,List.length_append,Nat.add_assoc]
   ·simp at h
  ·simp at h
 |[],_::_,_,he,_,_,_=>by simp[OK]at he
 |_::_,[],_,he,_,_,_=>by simp[OK]at he
theorem Q07 {rl:Nat->Nat} {l:List AC} {aB:List (Nat×Box)}:∀{bs:List (Nat×TypeId×List CS)} {m:List (Nat×Box)} {v:List AC},HF bs m=true->(∀p∈m,Ab aB p.1=some p.2)->
  Kj bs aB=some v->∀{i},Seg l i v->EG rl l bs i=m
 |[],[],v,_,_,_,i,_=>rfl
 |(k,t,cs)::bs,(k',b)::m,v,he,hl,h,i,hs=>by
  simp only[HF,Bool.and_eq_true]at he;obtain⟨e1,e2,e3,e4⟩:=he;have e1:=Nat.eq_of_beq_eq_true e1;subst e1;have hb:=hl (k,b) (by simp);dsimp only at hb;simp only[Kj,hb,e2,cond_true]at h;split at h
  ·rename_i v1 h1;split at h
   ·rename_i v2 h2;simp at h;subst h;simp only[EG,Q8e e3 h1 hs.left,Q07 e4 (fun p hp=>hl p (by simp[hp])) h2 hs.right];obtain⟨ty,cells⟩:=b;simp only[Nat.eq_of_beq_eq_true e2]
   ·simp at h
  ·simp at h
 |[],_::_,_,he,_,_,_,_=>by simp[HF]at he
 |_::_,[],_,he,_,_,_,_=>by simp[HF]at he
theorem Q1x:∀{bs:List (Nat×TypeId×List CS)} {m:List (Nat×Box)},HF bs m=true->m.map (·.1)=bs.map (·.1)
 |[],[],_=>rfl
 |(k,t,cs)::bs,(k',b)::m,he=>by
  simp only[HF,Bool.and_eq_true]at he;simp only[List.map_cons,Q1x he.2.2.2,Nat.eq_of_beq_eq_true he.1]
 |[],_::_,he=>by simp[HF]at he
 |_::_,[],he=>by simp[HF]at he
theorem Zoq {sig osig:Sk} {m:List AC->Option (List AC)} (R:Type) (args:List TV) (mem:Mem) (K:TV->Mem->Option R):EJ sig osig m R args mem K=(EJ sig osig m (TV×Mem) args mem fun v m=>some (v,m)).bind fun p=>K p.1 p.2:=by
 obtain⟨aB,aC⟩:=mem;simp only[EJ];cases(Ak (fun p:Nat×Box=>Fqs p.1) aB&&(HF sig.aB aB&&(aC.isEmpty&&(sig.aC.isEmpty&&Bz (sig.aB.map (·.1))))))
 ·rfl
 ·simp only[cond_true];cases E2 sig ⟨args,aB,aC⟩with
  |none=>rfl
  |some vars=>
   dsimp only;cases m vars with
   |none=>rfl
   |some o=>
    simp only[Option.bind_some];generalize Bq osig o=s;obtain⟨tm,b,r⟩:=s;cases b<;>cases r<;>try rfl
    dsimp only;split<;>rfl
theorem Ze6 {sig osig:Sk} {m:List AC->Option (List AC)}:Tq (EJ sig osig m):=by
 intro args mem v mm h;obtain⟨aB,aC⟩:=mem;simp only[EJ]at h;obtain⟨_,h⟩:=BL h;split at h
 ·simp only[Option.bind_eq_some_iff]at h;obtain⟨o,_,h⟩:=h;split at h
  ·split at h
   ·simp only[Option.some.injEq,Prod.mk.injEq]at h;exact h.2.symm
   ·simp at h
  ·simp at h
 ·simp at h
theorem Jx {rs:List Nat}:AllRo rs []:=trivial
theorem CO {rs:List Nat} {k:Nat} {g:Spec} {l:List (Nat×Spec)} (h:AR rs k=false) (t:AllRo rs l):AllRo rs ((k,g)::l):=⟨.inl h,t⟩
theorem Hp {rs:List Nat} {k:Nat} {sig osig:Sk} {m:List AC->Option (List AC)} {l:List (Nat×Spec)} (t:AllRo rs l):AllRo rs ((k,EJ sig osig m)::l):=⟨.inr Ze6,t⟩
def Zit (P:Program) (C:Cfg) (L:Nat) (f:FuncId) (sig:Sk):Prop:=
 ∀(vars:List AC) (R:Type) (K:TV->Mem->Option R),EZ P C L f (Bq sig vars).tmps ⟨(Bq sig vars).aB,(Bq sig vars).aC⟩ K=EZ P C L f (Bq sig vars).tmps ⟨(Bq sig vars).aB,(Bq sig vars).aC⟩ fun v _=>K v ⟨(Bq sig vars).aB,(Bq sig vars).aC⟩
open Classical in
theorem S4 {P:Program} {C:Cfg} {f:FuncId} {L:Nat} {sig osig:Sk} (hc:Lb P f=true) (h:FnOK P C f) (hspec:Ai P C) (hok:∀t∈C.eqOk,P.stoodInHeld t=false) (hmix:P.follows .mixedOrders=true)
  (h1:sig.okB=true) (h2:osig.okB=true) (hl:Zit P C L f sig):Aj P (f,EJ sig osig (Oj P C L f sig osig)):=by
 refine⟨Zoq,fun args mem v mem' hv=>PCallM.x ?_ (Ud hc)⟩;obtain⟨aB,aC⟩:=mem;simp only[EJ]at hv;obtain⟨hin,hv⟩:=BL hv;simp only[Bool.and_eq_true]at hin;obtain⟨hin,hex,hr1,hr2,hdist⟩:=hin;have hr1:aC=[]:=by simpa using hr1
 have hr2:sig.aC=[]:=by simpa using hr2
 subst hr1;split at hv
 ·rename_i vars hvars;simp only[Option.bind_eq_some_iff]at hv;obtain⟨o,ho,hv⟩:=hv;intro F w ρ xs hR0;have hZ:InZ (EH F w ρ aB):=Zy hin;have hR1:=hR0.rebuild hZ h1 hvars
  have hboxes:(Bq sig vars).aB=aB:=by
   simp only[E2]at hvars;obtain⟨_,hvars⟩:=BL hvars;rw[hr2]at hvars;simp only[Iy]at hvars;split at hvars
   ·rename_i b hb;split at hvars
    ·rename_i c hcc;simp only[List.nil_append,Option.some.injEq]at hvars;subst hvars;simp only[Bq,hr2,Ha];have hts:=Tn (aB:=aB) (aC:=[]) (ρ:=ρ) (w:=w) (rl:=DG []) ⟨fun id r hl=>by simp[Ab]at hl⟩ hb (l:=b++c) (i:=0) (Seg.all _).left;generalize hbt:EP (DG []) (b++c) sig.tmps 0=q at hts;obtain⟨tm,i⟩:=q;have hi:i=0+b.length:=hts.1;subst hi;have hkeys:=Q1x hex;refine Q07 hex (fun p hp=>SW (by rw[hkeys];exact hdist) hp) hcc (Seg.all (b++c)).right
    ·simp at hvars
   ·simp at hvars
  have hrows:(Bq sig vars).aC=[]:=by simp only[Bq,hr2,Ha]
  have hl':=hl vars;unfold Oj at ho;generalize hs:Bq sig vars=s1 at ho hR1 hl' hboxes hrows;obtain⟨args1,boxes1,rows1⟩:=s1;dsimp only at ho hR1 hl' hboxes hrows;subst hboxes;subst hrows;have hrun:EZ P C L f args1 ⟨boxes1,[]⟩ (fun v m=>if m=⟨boxes1,[]⟩then E2 osig ⟨[v],[],[]⟩else none)=some o:=by
   rw[hl'];simp only[if_true];exact ho
  refine(Q0x hspec hok hmix hZ (fun _ hcode=>h.sub hcode) hrun hR1).mono ?_;rintro e w' ⟨x,ρ',v',m',he,hro,hR2⟩;split at hro
  ·rename_i hm;subst hm;dsimp only at hR2
   simp only[E2]at hro;obtain⟨_,hro⟩:=BL hro;split at hro
   ·rename_i a ha;split at hro
    ·rename_i b hb;split at hro
     ·rename_i c hcc;simp only[Option.some.injEq]at hro;subst hro;split at hv
      ·rename_i tm hbs;split at hv
       ·rename_i vn;simp only[Option.some.injEq,Prod.mk.injEq]at hv;obtain⟨rfl,rfl⟩:=hv;have hosr:osig.aC=[]:=by
         cases hor:osig.aC with
         |nil=>rfl
         |cons p l=>obtain⟨k,t,ks⟩:=p;rw[hor]at ha;simp[Iy,Ab]at ha
        rw[hosr]at ha;simp only[Iy,Option.some.injEq]at ha;subst ha;have hts:=Tn (aB:=boxes1) (aC:=[]) (ρ:=ρ') (w:=w') (rl:=DG []) ⟨fun id r hl=>by simp[Ab]at hl⟩ hb (l:=[]++(b++c)) (i:=0) (show Seg (b++c) 0 b from(Seg.all (b++c)).left);simp only[Bq,hosr,Ha]at hbs;have hwfT:=U5 (B':=boxes1) (R':=[]) (keys:=[]) (rs:=[]) (rl:=DG []) (by simp) (by simp[Ab]) (ts:=osig.tmps)
         (by
          have:=h2;simp only[Sk.okB,Bool.and_eq_true]at this;have hob:osig.aB=[]:=by
           cases hbx:osig.aB with
           |nil=>rfl
           |cons p l=>obtain⟨k,t,ks⟩:=p;rw[hbx]at hcc;simp[Kj,Ab]at hcc
          have h3:=this.1.2;rw[hob,hosr]at h3;exact h3) ([]++(b++c)) 0
        generalize hbt:EP (DG []) ([]++(b++c)) osig.tmps 0=q at hts hbs hwfT;obtain⟨tm',i⟩:=q;simp only[St.mk.injEq]at hbs;obtain⟨rfl,_,_⟩:=hbs;obtain⟨u,hu1,hu2⟩:=hts.2.2 0 vn rfl;simp only[List.getElem?_cons_zero,Option.some.injEq]at hu1;subst hu1;refine⟨x,ρ',he,hR2.slots (by simp) (fun i u hi=> ?_) (fun u hu=>hwfT u hu)⟩;cases i with
        |zero=>
         simp at hi;subst hi;have:=hR2.tv 0 v' rfl;exact hu2 _ (hR2.wt v' (by simp)) this
        |succ i=>simp at hi
       ·simp at hv
      ·simp at hv
     ·simp at hro
    ·simp at hro
   ·simp at hro
  ·simp at hro
 ·simp at hv
end Go.Bm
namespace Go.Bm
abbrev I (n:Int):AC:= .int .i64 n
abbrev U (n:Int):AC:= .int .u64 n
abbrev B (b:Bool):AC:= .bool b
theorem HP {x:Int} (h:0<=x/\x<=18446744073709551615):IntKind.u64.wrap x=x:=by
 simp[IntKind.wrap,IntKind.signed,IntKind.bits];omega
theorem Mk (x:Int):IntKind.u64.wrap x=x%18446744073709551616:=by
 simp[IntKind.wrap,IntKind.signed,IntKind.bits]
theorem Qnt (x:Int):IntKind.i64.wrap x=(x+9223372036854775808)%18446744073709551616-9223372036854775808:=by
 simp[IntKind.wrap,IntKind.signed,IntKind.bits];omega
def i64 (x:Int):Prop:= -9223372036854775808<=x/\x<=9223372036854775807
theorem Zlb (x:Int):i64 (IntKind.i64.wrap x):=by
 rw[Qnt];unfold i64;omega
theorem Bi {α:Type} {c:Bool} {a b:α} (h:c=true):(bif c then a else b)=a:=by rw[h];rfl
theorem A_ {α:Type} {c:Bool} {a b:α} (h:c=false):(bif c then a else b)=b:=by rw[h];rfl
theorem C8 {α:Type} {p:Prop} {inst:Decidable p} {a b:α} (h:p):(bif@decide p inst then a else b)=a:=by rw[@decide_eq_true p inst h];rfl
theorem AM {α:Type} {p:Prop} {inst:Decidable p} {a b:α} (h: ¬p):(bif@decide p inst then a else b)=b:=by rw[@decide_eq_false p inst h];rfl
theorem Zqr {α:Type} {p:Prop} {inst:Decidable p} {a b:α}:(bif@decide p inst then a else b)=if p then a else b:=by
 by_cases h:p
 ·rw[C8 h,if_pos h]
 ·rw[AM h,if_neg h]
theorem Z1y {α:Type} {c:Bool} {a b:α}:(bif c then a else b)=if c=true then a else b:=by cases c<;>rfl
theorem Z2u {a b:Bool}:((a&&b)=true)=(a=true/\b=true):=by cases a<;>cases b<;>simp
theorem Zjy {a b:Bool}:((a||b)=true)=(a=true\/b=true):=by cases a<;>cases b<;>simp
theorem Z50 {a:Bool}:((!a)=true)= ¬(a=true):=by cases a<;>simp
theorem Zpb {p:Prop} {inst:Decidable p}:(@decide p inst=true)=p:=by simp
theorem Zed {a b:Int}:((a==b)=true)=(a=b):=by simp
theorem Zu1 {a b:Int}:((a !=b)=true)=(a≠b):=by simp
theorem Zwr {a b:Nat}:(Nat.beq a b=true)=(a=b):=by simp
theorem Zly {a b:Nat}:(Nat.ble a b=true)=(a<=b):=by simp
attribute [go_sem ↓] Zqr Z1y Z2u Zjy Z50 Zpb Zed Zu1 Zwr Zly
theorem Hn {α:Type} (d x:α) (l:List α):nth d (x::l) 0=x:=by simp[nth]
theorem Hu (k:IntKind) (n:Int):Af (.int k n)=n:=by simp[Af]
theorem Qkg (b:Bool):Dp (.bool b)=b:=by simp[Dp]
theorem Qin (ks:List Kd) (l:List (List AC)):BI (.view ks l)=l:=by simp[BI]
theorem Zig {p q:Prop} {i1:Decidable p} {i2:Decidable q}:((@decide p i1== @decide q i2)=true)=(p↔q):=by simp
theorem Zu6 {a b:Nat}:((a==b)=true)=(a=b):=by simp
attribute [go_sem ↓] Zig Zu6
attribute [go_sem] if_true if_false
theorem L7 {α:Type} (d x:α) (l:List α):nth d (x::l) 1=nth d l 0:=by simp[nth]
theorem Lt {α:Type} (d x:α) (l:List α):nth d (x::l) 2=nth d l 1:=by simp[nth]
theorem PA {α:Type} (d x:α) (l:List α):nth d (x::l) 3=nth d l 2:=by simp[nth]
theorem Qk {α:Type} (d x:α) (l:List α):nth d (x::l) 4=nth d l 3:=by simp[nth]
theorem SL {α:Type} (d x:α) (l:List α):nth d (x::l) 5=nth d l 4:=by simp[nth]
theorem Qhk {α:Type} (d x:α) (l:List α):nth d (x::l) 6=nth d l 5:=by simp[nth]
theorem UF {α:Type} (d x:α) (l:List α):nth d (x::l) 7=nth d l 6:=by simp[nth]
theorem Zdv {α:Type} (d x:α) (l:List α):nth d (x::l) 8=nth d l 7:=by simp[nth]
theorem Zc2 {α:Type} (d x:α) (l:List α):nth d (x::l) 9=nth d l 8:=by simp[nth]
theorem Zfy {α:Type} (d x:α) (l:List α):nth d (x::l) 10=nth d l 9:=by simp[nth]
theorem Z5w {α:Type} (d x:α) (l:List α):nth d (x::l) 11=nth d l 10:=by simp[nth]
theorem Zsu {α:Type} (d x:α) (l:List α):nth d (x::l) 12=nth d l 11:=by simp[nth]
theorem Zjh {α:Type} (d x:α) (l:List α):nth d (x::l) 13=nth d l 12:=by simp[nth]
theorem Zg2 {α:Type} (d x:α) (l:List α):nth d (x::l) 14=nth d l 13:=by simp[nth]
theorem Zzd {α:Type} (d x:α) (l:List α):nth d (x::l) 15=nth d l 14:=by simp[nth]
theorem Zzf {α:Type} (d x:α) (l:List α):nth d (x::l) 16=nth d l 15:=by simp[nth]
theorem Zev {α:Type} (d x:α) (l:List α):nth d (x::l) 17=nth d l 16:=by simp[nth]
theorem Zup {α:Type} (d x:α) (l:List α):nth d (x::l) 18=nth d l 17:=by simp[nth]
theorem Z54 {α:Type} (d x:α) (l:List α):nth d (x::l) 19=nth d l 18:=by simp[nth]
theorem Zck {α:Type} (d x:α) (l:List α):nth d (x::l) 20=nth d l 19:=by simp[nth]
theorem Zw5 {α:Type} (d x:α) (l:List α):nth d (x::l) 21=nth d l 20:=by simp[nth]
theorem Zw4 {α:Type} (d x:α) (l:List α):nth d (x::l) 22=nth d l 21:=by simp[nth]
theorem Z19 {α:Type} (d x:α) (l:List α):nth d (x::l) 23=nth d l 22:=by simp[nth]
theorem Zqj {α:Type} (d x:α) (l:List α):nth d (x::l) 24=nth d l 23:=by simp[nth]
theorem Zue {α:Type} (d x:α) (l:List α):nth d (x::l) 25=nth d l 24:=by simp[nth]
theorem Zvn {α:Type} (d x:α) (l:List α):nth d (x::l) 26=nth d l 25:=by simp[nth]
theorem Zhg {α:Type} (d x:α) (l:List α):nth d (x::l) 27=nth d l 26:=by simp[nth]
theorem Zcd {α:Type} (d x:α) (l:List α):nth d (x::l) 28=nth d l 27:=by simp[nth]
theorem Z1k {α:Type} (d x:α) (l:List α):nth d (x::l) 29=nth d l 28:=by simp[nth]
theorem Znb {α:Type} (d x:α) (l:List α):nth d (x::l) 30=nth d l 29:=by simp[nth]
theorem Zrq {α:Type} (d x:α) (l:List α):nth d (x::l) 31=nth d l 30:=by simp[nth]
theorem Zl9 {α:Type} (d x:α) (l:List α):nth d (x::l) 32=nth d l 31:=by simp[nth]
theorem Zh1 {α:Type} (d x:α) (l:List α):nth d (x::l) 33=nth d l 32:=by simp[nth]
theorem Zl0 {α:Type} (d x:α) (l:List α):nth d (x::l) 34=nth d l 33:=by simp[nth]
theorem Zxk {α:Type} (d x:α) (l:List α):nth d (x::l) 35=nth d l 34:=by simp[nth]
theorem Zi5 {α:Type} (d x:α) (l:List α):nth d (x::l) 36=nth d l 35:=by simp[nth]
theorem Z6n {α:Type} (d x:α) (l:List α):nth d (x::l) 37=nth d l 36:=by simp[nth]
theorem Zz2 {α:Type} (d x:α) (l:List α):nth d (x::l) 38=nth d l 37:=by simp[nth]
theorem Ze1 {α:Type} (d x:α) (l:List α):nth d (x::l) 39=nth d l 38:=by simp[nth]
attribute [go_sem] Hn L7 Lt PA Qk SL Qhk UF Zdv Zc2 Zfy Z5w Zsu Zjh Zg2 Zzd Zzf Zev Zup Z54 Zck Zw5 Zw4 Z19 Zqj Zue Zvn Zhg Zcd Z1k Znb Zrq Zl9 Zh1 Zl0 Zxk Zi5 Z6n Zz2 Ze1 Hu Qkg Qin Option.bind_some
theorem Zaq {S:Type} {step:List AC->Option (Nat×List AC)} (enc:S->List AC) (Inv:S->Prop) (m:S->Nat) (Q:Nat×List AC->Prop)
  (h:∀s,Inv s->(∃s',step (enc s)=some (0,enc s')/\Inv s'/\m s'<m s)\/∃o,step (enc s)=some o/\o.1≠0/\Q o):
  ∀s,Inv s->∃o,An step (enc s)=some o/\o.1≠0/\Q o:=by
 have:∀n s,m s<=n->Inv s->∃o,An step (enc s)=some o/\o.1≠0/\Q o:=by
  intro n;induction n with
  |zero=>
   intro s hs hi;rcases h s hi with⟨s',h1,h2,h3⟩|⟨o,h1,h2,h3⟩
   ·omega
   ·refine⟨o,?_,h2,h3⟩;rw[PP,h1];simp[h2]
  |succ n ih=>
   intro s hs hi;rcases h s hi with⟨s',h1,h2,h3⟩|⟨o,h1,h2,h3⟩
   ·obtain⟨o,h4,h5⟩:=ih s' (by omega) h2;refine⟨o,?_,h5⟩;rw[PP,h1];simpa using h4
   ·refine⟨o,?_,h2,h3⟩;rw[PP,h1];simp[h2]
 intro s hi;exact this _ s (Nat.le_refl _) hi
theorem Bj {step:List AC->Option (Nat×List AC)} {v w:List AC} (h:step v=some (0,w)):An step v=An step w:=by
 rw[PP,h];rfl
theorem A3 {step:List AC->Option (Nat×List AC)} {v:List AC} {o:Nat×List AC} (h:step v=some o) (h0:o.1≠0):An step v=some o:=by
 rw[PP,h];simp[h0]
theorem Zh6 {sig osig:Sk} {m:List AC->Option (List AC)} {args:List TV} {vars:List AC} (h1:E2 sig ⟨args,[],[]⟩=some vars) (h2:m vars=some [B true]) (h3:Bq osig [B true]=⟨[.v false [.bool true]],[],[]⟩):
  (Ac sig osig m (TV×Mem) args ⟨[],[]⟩ fun v m=>some (v,m))=some (.v false [.bool true],⟨[],[]⟩):=by
 simp only[Ac,Ak,cond_true];rw[h1];dsimp only;rw[h2];simp only[Option.bind_some];rw[h3]
theorem Ar.tv_of {a:Ar} {g:Bool} {ks:List Kd} (h1:a.agg=g) (h2:a.ks=ks):a.tv= .v g (AO ks a.raw):=by unfold Ar.tv;rw[h1,h2]
theorem I5 {α:Type} (f:α->List AC) (d:List AC):∀(l:List α) (i:Nat) (h:i<l.length),nth d (l.map f) i=f l[i]
 |x::l,0,_=>rfl
 |x::l,i+1,h=>by simp only[List.map_cons,nth,List.getElem_cons_succ];exact I5 f d l i (by simpa using h)
theorem HI {α:Type} (d:α):∀(l:List α) (i:Nat) (h:i<l.length),nth d l i=l[i]
 |x::l,0,_=>rfl
 |x::l,i+1,h=>by simp only[nth,List.getElem_cons_succ];exact HI d l i (by simpa using h)
def As (n:Int):List AC:=[I n]
theorem J5 {α:Type} (l:List α) (i:Nat) (h:i<l.length):l.drop i=l[i]::l.drop (i+1):=by simp
end Go.Bm
namespace Go.Bm
structure Pt where
 (x y z:Int)
structure Itm where
 (kind block:Int)
 (fr to:Pt)
 (aG:Int)
 (ce:Pt)
 (dir:Int)
 full:Bool
 feed:Int
 perRev:Bool
 (side radius blend n speed:Int)
 on:Bool
structure Sgm where
 to:Pt
 (len item feed lead:Int)
structure Mrk where
 (at_ kind item:Int)
structure Pth where
 start:Pt
 aF:List Sgm
 aD:List Mrk
structure Axs where
 (step speed accel jerk low high back origin spacing:Int)
 pitch:List Int
structure Pce where
 (at_ units s move:Int)
 (was dirs:Pt)
structure Trk where
 aE:List Pce
 (length start:Int)
 dirs:Pt
structure Spk where
 (u w r h:Int)
instance:DecidableEq Pt:=fun a b=>by
 obtain⟨a1,a2,a3⟩:=a;obtain⟨b1,b2,b3⟩:=b;exact decidable_of_iff (a1=b1/\a2=b2/\a3=b3) (by simp)
instance:DecidableEq Sgm:=fun a b=>by
 obtain⟨a1,a2,a3,a4,a5⟩:=a;obtain⟨b1,b2,b3,b4,b5⟩:=b;exact decidable_of_iff (a1=b1/\a2=b2/\a3=b3/\a4=b4/\a5=b5) (by simp)
instance:DecidableEq Mrk:=fun a b=>by
 obtain⟨a1,a2,a3⟩:=a;obtain⟨b1,b2,b3⟩:=b;exact decidable_of_iff (a1=b1/\a2=b2/\a3=b3) (by simp)
instance:DecidableEq Pce:=fun a b=>by
 obtain⟨a1,a2,a3,a4,a5,a6⟩:=a;obtain⟨b1,b2,b3,b4,b5,b6⟩:=b;exact decidable_of_iff (a1=b1/\a2=b2/\a3=b3/\a4=b4/\a5=b5/\a6=b6) (by simp)
abbrev kI:Kd:= .int .i64
abbrev kB:Kd:= .bool
abbrev Aa:List Kd:=[kI]
abbrev kPt:List Kd:=[kI,kI,kI]
abbrev Al:List Kd:=[kI,kI,kI,kI,kI,kI,kI,kI,kI,kI,kI,kI,kI,kB,kI,kB,kI,kI,kI,kI,kI,kB]
abbrev Ag:List Kd:=[kI,kI,kI,kI,kI,kI,kI]
abbrev AD:List Kd:=[kI,kI,kI]
abbrev Ap:List Kd:=[kI,kI,kI,kI,kI,kI,kI,kI,kI,kI]
abbrev DO:List Kd:=[kI,kI,kI,kI]
abbrev ptR (p:Pt):List AC:=[I p.x,I p.y,I p.z]
abbrev Ah (t:Itm):List AC:=[I t.kind,I t.block,I t.fr.x,I t.fr.y,I t.fr.z,I t.to.x,I t.to.y,I t.to.z,I t.aG,I t.ce.x,I t.ce.y,I t.ce.z,I t.dir,B t.full,I t.feed,B t.perRev,I t.side,I t.radius,I t.blend,I t.n,I t.speed,B t.on]
abbrev Au (g:Sgm):List AC:=[I g.to.x,I g.to.y,I g.to.z,I g.len,I g.item,I g.feed,I g.lead]
abbrev At (m:Mrk):List AC:=[I m.at_,I m.kind,I m.item]
abbrev AA (c:Pce):List AC:=[I c.at_,I c.units,I c.s,I c.move,I c.was.x,I c.was.y,I c.was.z,I c.dirs.x,I c.dirs.y,I c.dirs.z]
abbrev CU (s:Spk):List AC:=[I s.u,I s.w,I s.r,I s.h]
abbrev AH (p:Pth):List AC:=[I p.start.x,I p.start.y,I p.start.z, .view Ag (p.aF.map Au), .view AD (p.aD.map At)]
abbrev AJ (x:Axs):List AC:=[I x.step,I x.speed,I x.accel,I x.jerk,I x.low,I x.high,I x.back,I x.origin,I x.spacing, .view Aa (x.pitch.map As)]
abbrev AS (t:Trk):List AC:=[.view Ap (t.aE.map AA),I t.length,I t.start,I t.dirs.x,I t.dirs.y,I t.dirs.z]
structure Ax3 where
 (a b c:Axs)
abbrev AF (x:Ax3):List AC:=[I x.a.step,I x.a.speed,I x.a.accel,I x.a.jerk,I x.a.low,I x.a.high,I x.a.back,I x.a.origin,I x.a.spacing, .view Aa (x.a.pitch.map As),I x.b.step,I x.b.speed,I x.b.accel,I x.b.jerk,I x.b.low,I x.b.high,I x.b.back,I x.b.origin,I x.b.spacing, .view Aa (x.b.pitch.map As),I x.c.step,I x.c.speed,I x.c.accel,I x.c.jerk,I x.c.low,I x.c.high,I x.c.back,I x.c.origin,I x.c.spacing, .view Aa (x.c.pitch.map As)]
abbrev pxt (p:Pth) (x:Ax3) (t:Trk) (l:List AC):List AC:=
 I p.start.x::I p.start.y::I p.start.z:: .view Ag (p.aF.map Au):: .view kPt (p.aD.map At)::
 I x.a.step::I x.a.speed::I x.a.accel::I x.a.jerk::I x.a.low::I x.a.high::I x.a.back::I x.a.origin::I x.a.spacing:: .view Aa (x.a.pitch.map As)::
 I x.b.step::I x.b.speed::I x.b.accel::I x.b.jerk::I x.b.low::I x.b.high::I x.b.back::I x.b.origin::I x.b.spacing:: .view Aa (x.b.pitch.map As)::
 I x.c.step::I x.c.speed::I x.c.accel::I x.c.jerk::I x.c.low::I x.c.high::I x.c.back::I x.c.origin::I x.c.spacing:: .view Aa (x.c.pitch.map As)::
 .view Ap (t.aE.map AA)::I t.length::I t.start::I t.dirs.x::I t.dirs.y::I t.dirs.z::l
abbrev EF (p:Pth) (t:Trk) (l:List AC):List AC:=
 I p.start.x::I p.start.y::I p.start.z:: .view Ag (p.aF.map Au):: .view kPt (p.aD.map At)::
 .view Ap (t.aE.map AA)::I t.length::I t.start::I t.dirs.x::I t.dirs.y::I t.dirs.z::l
theorem Z57 {a:AC} (h:okC kI a):i64 (Af a):=by
 unfold okC at h;unfold i64;exact h
abbrev gA (l:List AC) (k:Nat):Int:=Af (nth .dead l k)
abbrev jA (l:List AC) (k:Nat):AC:= .int .i64 (Af (nth .dead l k))
abbrev wA (l:List AC) (k:Nat):List (List AC):=BI (nth .dead l k)
abbrev bA (l:List AC) (k:Nat):Bool:=Dp (nth .dead l k)
abbrev Fn:=List AC->Option (List AC)
abbrev Lp:=List AC->Option (Nat×List AC)
abbrev Rw:=List (List AC)
abbrev ci:CS:= .int .i64
abbrev tf:List CS->TS:= .v false
abbrev td:TS:= .dead
attribute [go_sem] gA jA wA bA List.cons_append List.nil_append
theorem Zvj (r:List AC):AO Al r=[jA r 0,jA r 1,jA r 2,jA r 3,jA r 4,jA r 5,jA r 6,jA r 7,jA r 8,jA r 9,jA r 10,jA r 11,jA r 12,B (bA r 13),jA r 14,B (bA r 15),jA r 16,jA r 17,jA r 18,jA r 19,jA r 20,B (bA r 21)]:=rfl
theorem Z5p (r:List AC):AO Ag r=[jA r 0,jA r 1,jA r 2,jA r 3,jA r 4,jA r 5,jA r 6]:=rfl
theorem Zov (r:List AC):AO Ap r=[jA r 0,jA r 1,jA r 2,jA r 3,jA r 4,jA r 5,jA r 6,jA r 7,jA r 8,jA r 9]:=rfl
attribute [go_sem] Zvj Z5p Zov
end Go.Bm
