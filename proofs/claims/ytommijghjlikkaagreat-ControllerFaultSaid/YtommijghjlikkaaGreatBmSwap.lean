/- The abstract machine, second form: two steps of a region that have no order between them change places. -/
import Derived.Test.YtommijghjlikkaaGreatBmDraw
set_option linter.unusedVariables false
set_option linter.unusedSimpArgs false
namespace Go.Bm
open Go.RowKit
section
variable {P:Program} {C:Cfg} {w:World} {R:Type} {Z:Base}
theorem Q7 {ev ev':Operand->TV}:∀(l:List Operand),(∀x∈l,ev x=ev' x)->Ct ev l=Ct ev' l
 |[],_=>rfl
 |x::l,h=>by simp only[Ct];rw[h x (by simp),Q7 l fun y hy=>h y (by simp[hy])]
theorem Qlc {ev ev':Operand->TV}:∀(l:List (Nat×Operand)),(∀p∈l,ev p.2=ev' p.2)->FZ ev l=FZ ev' l
 |[],_=>rfl
 |x::l,h=>by simp only[FZ];rw[h x (by simp),Qlc l fun y hy=>h y (by simp[hy])]
theorem Qz1 {ev ev':Operand->TV} (o:Option Operand) (h:∀x,o=some x->ev x=ev' x):JF ev o=JF ev' o:=by
 cases o with
 |none=>rfl
 |some x=>simp only[JF];rw[h x rfl]
theorem Tb {ev ev':Operand->TV} {dst:Option Tmp} {o:Op} (h:∀x∈o.operands,ev x=ev' x) (K:Prim->Option R):opK P C ev dst o K=opK P C ev' dst o K:=by
 cases o<;>simp only[Op.operands]at h<;>simp only[opK]
 case move x=>rw[h x (by simp)]
 case assign x=>rw[h x (by simp)]
 case pick c a b=>rw[h c (by simp),h a (by simp),h b (by simp)]
 case box t x=>rw[h x (by simp)]
 case build t parts=>rw[Qlc parts.toList fun p hp=>h p.2 (by simp;exact⟨p.1,by simpa using hp⟩)]
 case buildSlice t n parts=>rw[Qlc parts.toList fun p hp=>h p.2 (by simp;exact⟨p.1,by simpa using hp⟩)]
 case makeSlice t a b=>rw[h a (by simp),h b (by simp)]
 case makeFunc fn a b=>
  rw[Q7 a.toList fun x hx=>h x (by simp at hx⊢;exact .inl hx),Q7 b.toList fun x hx=>h x (by simp at hx⊢;exact .inr hx)]
 case load t a=>rw[h a (by simp)]
 case store t a x=>rw[h a (by simp),h x (by simp)]
 case nilCheck x=>rw[h x (by simp)]
 case binOp op t x y _=>rw[h x (by simp),h y (by simp)]
 case unOp op t x=>rw[h x (by simp)]
 case convert s d x=>rw[h x (by simp)]
 case fieldAddr t x i=>rw[h x (by simp)]
 case field t x i=>rw[h x (by simp)]
 case indexAddr t x ix=>rw[h x (by simp),h ix (by simp)]
 case index t x ix=>rw[h x (by simp),h ix (by simp)]
 case slice t x lo hi mx=>
  rw[h x (by simp),Qz1 lo fun y hy=>h y (by simp[hy]),Qz1 hi fun y hy=>h y (by simp[hy])]
 case extract t i=>rw[h t (by simp)]
 case call c=>
  have hc:∀t,c.callee= .value (.tmp t)->ev (.tmp t)=ev' (.tmp t):=fun t ht=>h _ (by simp only[Call.operands,ht];exact Array.mem_append.2 (.inl (by simp)));have ha:Ct ev c.args.toList=Ct ev' c.args.toList:=Q7 _ fun x hx=>h x (by simp only[Call.operands];exact Array.mem_append.2 (.inr (by simpa using hx)));rw[ha];split
  ·rfl
  ·rfl
  ·rename_i t ht;rw[hc t ht]
  ·rfl
theorem Qtr {tm:List TV} {d:Nat} {v:TV} {x:Operand} (h:x≠ .tmp d):AS (setL tm d v) x=AS tm x:=by
 cases x with
 |tmp t=>
  have hne:d≠t:=fun e=>h (by rw[e]);simp only[AS,BK,List.getD,H9,List.getElem?_set,if_neg hne]
 |_=>rfl
def CJ (tm:List TV) (d:Option Tmp) (v:TV):List TV:=
 match d with
 |none=>tm
 |some t=>setL tm t v
theorem JB (tm:List TV) (bx:List (Nat×Box)) (rows:List (Nat×Row)) (d:Option Tmp) (v:TV):R6 ⟨tm,bx,rows⟩ d v=⟨CJ tm d v,bx,rows⟩:=by cases d<;>rfl
theorem MY {tm:List TV} {d e:Option Tmp} (v u:TV) (h:∀t,d=some t->e≠some t):CJ (CJ tm d v) e u=CJ (CJ tm e u) d v:=by
 cases d with
 |none=>rfl
 |some t=>
  cases e with
  |none=>rfl
  |some q=>
   have hne:t≠q:=fun x=>h t rfl (by rw[x]);simp only[CJ,H9];exact List.set_comm _ _ hne
def CZ (P:Program) (C:Cfg) (ops:List Oper) (o:Oper) (tm:List TV) (bx:List (Nat×Box)) (rows:List (Nat×Row)):Option (Option Prim×TV×List (Nat×Box)):=
 match BR ops o tm with
 |some true=>(opK P C (AS tm) o.dst o.op some).bind fun p=>(Au (C:=C) o.dst (p.dr false) bx rows).bind fun q=>some (some (p.dr false),q.1,q.2)
 |some false=>some (none, .tup [],bx)
 |none=>none
theorem Zb2 {d:Option Tmp} {p:Prim} {bx:List (Nat×Box)} {rows:List (Nat×Row)} (h:Prim.isApp (some p)=true):Au (C:=C) d p bx rows=none:=by
 cases p<;>simp[Prim.isApp]at h
 rfl
theorem Zgt {d:Option Tmp} {p:Prim} {bx:List (Nat×Box)} {rows:List (Nat×Row)} (h:Prim.isMk (some p)=true):Au (C:=C) d p bx rows=none:=by
 cases p<;>simp[Prim.isMk]at h<;>rfl
theorem Zvr {ops:List Oper} {o:Oper} {tm:List TV} {bx bx':List (Nat×Box)} {rows:List (Nat×Row)} {p:Option Prim} {v:TV} (h:CZ P C ops o tm bx rows=some (p,v,bx')):Prim.isMk p=false:=by
 unfold CZ at h;split at h
 ·cases hp:opK P C (AS tm) o.dst o.op some with
  |none=>rw[hp]at h;simp at h
  |some q=>
   rw[hp]at h;simp only[Option.bind_some]at h;cases hq:Prim.isMk (some (q.dr false))with
   |true=>rw[Zgt hq]at h;simp at h
   |false=>
    cases hm:Au (C:=C) o.dst (q.dr false) bx rows with
    |none=>rw[hm]at h;simp at h
    |some z=>rw[hm]at h;simp at h;rw[<-h.1];exact hq
 ·simp at h;rw[<-h.1];rfl
 ·simp at h
theorem Zn2 {ops:List Oper} {o:Oper} {tm:List TV} {bx bx':List (Nat×Box)} {rows:List (Nat×Row)} {p:Option Prim} {v:TV} (h:CZ P C ops o tm bx rows=some (p,v,bx')):Prim.isApp p=false:=by
 unfold CZ at h;split at h
 ·cases hp:opK P C (AS tm) o.dst o.op some with
  |none=>rw[hp]at h;simp at h
  |some q=>
   rw[hp]at h;simp only[Option.bind_some]at h;cases hq:Prim.isApp (some (q.dr false))with
   |true=>rw[Zb2 hq]at h;simp at h
   |false=>
    cases hm:Au (C:=C) o.dst (q.dr false) bx rows with
    |none=>rw[hm]at h;simp at h
    |some z=>rw[hm]at h;simp at h;rw[<-h.1];exact hq
 ·simp at h;rw[<-h.1];rfl
 ·simp at h
theorem Ne {ops:List Oper} {o:Oper} {tm:List TV} {bx bx':List (Nat×Box)} {rows:List (Nat×Row)} {p:Option Prim} {v:TV} (h:CZ P C ops o tm bx rows=some (p,v,bx')):
  B6 (P:=P) (C:=C) ops o ⟨tm,bx,rows⟩=some (p,⟨CJ tm o.dst v,bx',rows⟩):=by
 have hna:=Zn2 h;have hnm:=Zvr h;unfold CZ at h;unfold B6;dsimp only;cases hw:BR ops o tm with
 |none=>rw[hw]at h;simp at h
 |some b=>
  cases b
  ·rw[hw]at h;simp at h;obtain⟨rfl,rfl,rfl⟩:=h;simp only[JB]
  ·rw[hw]at h;dsimp only at h⊢;cases hp:opK P C (AS tm) o.dst o.op some with
   |none=>rw[hp]at h;simp at h
   |some q=>
    rw[hp]at h;simp only[Option.bind_some]at h⊢;cases hm:Au (C:=C) o.dst (q.dr false) bx rows with
    |none=>rw[hm]at h;simp at h
    |some z=>
     rw[hm]at h;simp at h;obtain⟨rfl,rfl,rfl⟩:=h;unfold EX;rw[hna,hnm];simp only[cond_false,hm,Option.map_some,Option.bind_some,JB]
theorem Kq {ops:List Oper} {o:Oper} {tm:List TV} {bx:List (Nat×Box)} {rows:List (Nat×Row)} {p:Option Prim} {s':St} (h:B6 (P:=P) (C:=C) ops o ⟨tm,bx,rows⟩=some (p,s')) (hn:Prim.isApp p=false) (hnm:Prim.isMk p=false):
  ∃v bx',CZ P C ops o tm bx rows=some (p,v,bx')/\s'=⟨CJ tm o.dst v,bx',rows⟩:=by
 unfold B6 at h;unfold CZ;dsimp only at h;cases hw:BR ops o tm with
 |none=>rw[hw]at h;simp at h
 |some b=>
  cases b
  ·rw[hw]at h;simp at h;obtain⟨rfl,rfl⟩:=h;exact⟨_,_,rfl,by rw[JB]⟩
  ·rw[hw]at h;dsimp only at h⊢;cases hp:opK P C (AS tm) o.dst o.op some with
   |none=>rw[hp]at h;simp at h
   |some q=>
    rw[hp]at h;simp only[Option.bind_some]at h⊢;cases hm:EX (C:=C) o.dst (q.dr false) ⟨tm,bx,rows⟩with
    |none=>rw[hm]at h;simp at h
    |some z=>
     rw[hm]at h;simp at h;obtain⟨rfl,rfl⟩:=h;unfold EX at hm;rw[hn,hnm]at hm;simp only[cond_false,Option.map_eq_some_iff]at hm;obtain⟨y,hy,rfl⟩:=hm;rw[hy];exact⟨_,_,rfl,by rw[JB]⟩
theorem YU {ops:List Oper} {o:Oper} {tm:List TV} {bx:List (Nat×Box)} {rows:List (Nat×Row)} {p:Option Prim} {s':St} (h:B6 (P:=P) (C:=C) ops o ⟨tm,bx,rows⟩=some (p,s')) (hn:Prim.isApp p=true):
  BR ops o tm=some true/\∃q id v rows',opK P C (AS tm) o.dst o.op some=some q/\p=some (q.dr false)/\Jz o.dst (q.dr false)=some id/\JK o.dst rows (q.dr false)=some (v,rows')/\s'=⟨CJ (tm.map (TV.kill id)) o.dst v,bx.map fun p=>(p.1,p.2.kill id),rows'⟩:=by
 unfold B6 at h;dsimp only at h;cases hw:BR ops o tm with
 |none=>rw[hw]at h;simp at h
 |some b=>
  cases b
  ·rw[hw]at h;simp at h;obtain⟨rfl,rfl⟩:=h;simp[Prim.isApp]at hn
  ·rw[hw]at h;refine⟨rfl,?_⟩;dsimp only at h;cases hp:opK P C (AS tm) o.dst o.op some with
   |none=>rw[hp]at h;simp at h
   |some q=>
    rw[hp]at h;simp only[Option.bind_some]at h;cases hm:EX (C:=C) o.dst (q.dr false) ⟨tm,bx,rows⟩with
    |none=>rw[hm]at h;simp at h
    |some z=>
     rw[hm]at h;simp at h;obtain⟨rfl,rfl⟩:=h;unfold EX at hm;rw[hn]at hm;simp only[cond_true]at hm;split at hm
     ·rename_i id hid;simp only[Option.map_eq_some_iff]at hm;obtain⟨⟨y1,y2⟩,hy,rfl⟩:=hm;exact⟨q,id,y1,y2,rfl,rfl,hid,hy,by unfold Qng;rw[JB]⟩
     ·simp at hm
theorem Qsu {ops:List Oper} {o:Oper} {tm:List TV} {bx:List (Nat×Box)} {rows rows':List (Nat×Row)} {q:Prim} {id:Nat} {v:TV} (h1:BR ops o tm=some true) (h2:opK P C (AS tm) o.dst o.op some=some q)
  (h3:Jz o.dst (q.dr false)=some id) (h4:JK o.dst rows (q.dr false)=some (v,rows')) (h5:Prim.isApp (some (q.dr false))=true):
  B6 (P:=P) (C:=C) ops o ⟨tm,bx,rows⟩=some (some (q.dr false),⟨CJ (tm.map (TV.kill id)) o.dst v,bx.map fun p=>(p.1,p.2.kill id),rows'⟩):=by
 unfold B6;dsimp only;rw[h1,h2];simp only[Option.bind_some];unfold EX;rw[h5];simp only[cond_true,h3,h4,Option.map_some,Option.bind_some,Qng,JB]
theorem Qz {ops:List Oper} {o:Oper} {tm:List TV} {bx:List (Nat×Box)} {rows:List (Nat×Row)} {p:Option Prim} {s':St} (h:B6 (P:=P) (C:=C) ops o ⟨tm,bx,rows⟩=some (p,s')) (hn:Prim.isMk p=true):
  BR ops o tm=some true/\∃q v rows',opK P C (AS tm) o.dst o.op some=some q/\p=some (q.dr false)/\mkD (C:=C) o.dst (q.dr false) rows=some (v,rows')/\s'=⟨CJ tm o.dst v,bx,rows'⟩:=by
 unfold B6 at h;dsimp only at h;cases hw:BR ops o tm with
 |none=>rw[hw]at h;simp at h
 |some b=>
  cases b
  ·rw[hw]at h;simp at h;obtain⟨rfl,rfl⟩:=h;simp[Prim.isMk]at hn
  ·rw[hw]at h;refine⟨rfl,?_⟩;dsimp only at h;cases hp:opK P C (AS tm) o.dst o.op some with
   |none=>rw[hp]at h;simp at h
   |some q=>
    rw[hp]at h;simp only[Option.bind_some]at h;cases hm:EX (C:=C) o.dst (q.dr false) ⟨tm,bx,rows⟩with
    |none=>rw[hm]at h;simp at h
    |some z=>
     rw[hm]at h;simp at h;obtain⟨rfl,rfl⟩:=h;have hna:Prim.isApp (some (q.dr false))=false:=by
      generalize q.dr false=q' at hn⊢;cases q'<;>simp[Prim.isMk]at hn<;>rfl
     unfold EX at hm;rw[hna,hn]at hm;simp only[cond_false,cond_true,Option.map_eq_some_iff]at hm;obtain⟨⟨y1,y2⟩,hy,rfl⟩:=hm;exact⟨q,y1,y2,rfl,rfl,hy,by rw[JB]⟩
theorem TI {ops:List Oper} {o:Oper} {tm:List TV} {bx:List (Nat×Box)} {rows rows':List (Nat×Row)} {q:Prim} {v:TV} (h1:BR ops o tm=some true) (h2:opK P C (AS tm) o.dst o.op some=some q)
  (h4:mkD (C:=C) o.dst (q.dr false) rows=some (v,rows')) (h5:Prim.isMk (some (q.dr false))=true):
  B6 (P:=P) (C:=C) ops o ⟨tm,bx,rows⟩=some (some (q.dr false),⟨CJ tm o.dst v,bx,rows'⟩):=by
 have hna:Prim.isApp (some (q.dr false))=false:=by
  generalize q.dr false=q' at h5⊢;cases q'<;>simp[Prim.isMk]at h5<;>rfl
 unfold B6;dsimp only;rw[h1,h2];simp only[Option.bind_some];unfold EX;rw[hna,h5];simp only[cond_true,cond_false,h4,Option.map_some,Option.bind_some,JB]
theorem Q86 {id:Nat} {a:AC} (h:a.live=true):a.kill id=a:=by cases a<;>simp[AC.live]at h<;>rfl
theorem Zfz {id:Nat} {a:AC} (h:(a.kill id).live=true):a.kill id=a:=by
 cases a<;>simp only[AC.kill]at h⊢<;>try rfl
 all_goals
  rename_i j b c;cases hb:Nat.beq j id<;>rw[hb]at h
  ·rfl
  ·simp[AC.live]at h
theorem ZD {id:Nat}:∀{l:List AC},Aj AC.live l=true->l.map (AC.kill id)=l
 |[],_=>rfl
 |a::l,h=>by
  rw[Av]at h;simp only[List.map_cons];rw[Q86 (h a (by simp)),ZD (Av.2 fun x hx=>h x (by simp[hx]))]
theorem Qu4 {id:Nat}:∀{l:List AC},Aj AC.live (l.map (AC.kill id))=true->l.map (AC.kill id)=l
 |[],_=>rfl
 |a::l,h=>by
  rw[Av]at h;simp only[List.map_cons]at h⊢;rw[Zfz (h _ (by simp)),Qu4 (Av.2 fun x hx=>h x (by simp[hx]))]
theorem Qbi (id:Nat):∀(tm:List TV) (t:Nat),nth .dead (tm.map (TV.kill id)) t=(nth .dead tm t).kill id
 |[],_=>rfl
 |_::_,0=>rfl
 |_::tm,t+1=>Qbi id tm t
theorem Zh {id:Nat} {tm:List TV} {x:Operand} {g:Bool} {cs:List AC} (h:AS tm x= .v g cs) (hl:Aj AC.live cs=true):AS (tm.map (TV.kill id)) x= .v g cs:=by
 cases x<;>try exact h
 simp only[AS]at h⊢;rw[Qbi,h];simp only[TV.kill];rw[ZD hl]
theorem Qm0 {id:Nat} {tm:List TV} {x:Operand} {g:Bool} {cs:List AC} (h:AS (tm.map (TV.kill id)) x= .v g cs) (hl:Aj AC.live cs=true):AS tm x= .v g cs:=by
 cases x<;>try exact h
 simp only[AS]at h⊢;rw[Qbi]at h;cases ht:nth TV.dead tm (by assumption)with
 |dead=>rw[ht]at h;simp[TV.kill]at h
 |tup ps=>rw[ht]at h;simp[TV.kill]at h
 |v g' cs'=>
  rw[ht]at h;simp only[TV.kill,TV.v.injEq]at h;obtain⟨rfl,rfl⟩:=h;rw[Qu4 hl]
theorem X9 {q:Prim} (h:Prim.isPtr (some (q.dr false))=true):∃k o,q= .val (.v false [.ptr k o]):=by
 cases q<;>simp only[Prim.dr,Prim.isPtr]at h<;>try (simp at h;done)
 case callM f args=>cases hb:Aj TV.plainB args<;>simp[hb]at h
 rename_i v;split at h
 ·rename_i h';simp at h';exact⟨_,_,by rw[h']⟩
 ·simp at h
theorem Qzm {q:Prim} (h:Prim.isLive (some (q.dr false))=true):∃g cs,q= .val (.v g cs)/\Aj AC.live cs=true:=by
 cases q<;>simp only[Prim.dr,Prim.isLive]at h<;>try (simp at h;done)
 case callM f args=>cases hb:Aj TV.plainB args<;>simp[hb]at h
 rename_i v;cases v<;>simp at h
 exact⟨_,_,rfl,h⟩
theorem Qqu {id:Nat} {tm:List TV} {dst:Option Tmp} {o:Op} {q:Prim} (hs:Prim.still o (some (q.dr false))=true):
  opK P C (AS (tm.map (TV.kill id))) dst o some=some q↔opK P C (AS tm) dst o some=some q:=by
 cases o<;>simp[Prim.still]at hs
 case move x=>
  obtain⟨g,cs,rfl,hs⟩:=Qzm hs;simp only[opK,Option.some.injEq,Prim.val.injEq];exact⟨fun h=>Qm0 h hs,fun h=>Zh h hs⟩
 case nilCheck x=>
  obtain⟨k,o,rfl⟩:=X9 hs;have hl:Aj AC.live [AC.ptr k o]=true:=rfl;have key:∀ev:Operand->TV,opK P C ev dst (.nilCheck x) some=some (.val (.v false [.ptr k o]))↔ev x= .v false [.ptr k o]:=by
   intro ev;simp only[opK];split
   ·rename_i k' o' h;rw[h];simp[TV.c]
   ·rename_i h;rw[h];simp[TV.c]
   ·rename_i h;rw[h];simp[TV.c]
   ·rename_i h1 h2 h3;constructor
    ·intro h;simp at h
    ·intro h;exact(h1 _ _ h).elim
  rw[key,key];exact⟨fun h=>Qm0 h hl,fun h=>Zh h hl⟩
 case fieldAddr t x i=>
  obtain⟨k,o,rfl⟩:=X9 hs;have key:∀ev:Operand->TV,opK P C ev dst (.fieldAddr t x i) some=some (.val (.v false [.ptr k o]))->∃k' o',ev x= .v false [.ptr k' o']:=by
   intro ev h;simp only[opK]at h
   repeat' split at h
   all_goals first|(simp at h;done)|(simp[TV.c]at h;done)|exact⟨_,_,by assumption⟩
  constructor
  ·intro h;obtain⟨k',o',e⟩:=key _ h;have e2:=Qm0 e rfl;rw[<-h];refine Tb (fun y hy=> ?_) some;simp only[Op.operands]at hy;simp at hy;subst hy;rw[e,e2]
  ·intro h;obtain⟨k',o',e⟩:=key _ h;have e2:=Zh (id:=id) e rfl;rw[<-h];refine Tb (fun y hy=> ?_) some;simp only[Op.operands]at hy;simp at hy;subst hy;rw[e,e2]
theorem Qxc {o:Op} {q:Prim} (hs:Prim.still o (some (q.dr false))=true):∃g cs,q= .val (.v g cs)/\Aj AC.live cs=true:=by
 cases o<;>simp[Prim.still]at hs
 case move x=>exact Qzm hs
 all_goals
  obtain⟨k,o,rfl⟩:=X9 hs;exact⟨_,_,rfl,rfl⟩
theorem Qr2 {id:Nat} {tm:List TV} {d:Option Tmp} {g:Bool} {cs:List AC} (h:Aj AC.live cs=true):(CJ tm d (.v g cs)).map (TV.kill id)=CJ (tm.map (TV.kill id)) d (.v g cs):=by
 cases d with
 |none=>rfl
 |some t=>
  simp only[CJ,H9,List.map_set,TV.kill];rw[ZD h]
theorem OF {ops:Array Oper} {o:Oper} {tm:List TV} {d:Option Tmp} {v:TV} (h:∀t,d=some t->t∉o.looksAt ops):BR ops.toList o (CJ tm d v)=BR ops.toList o tm:=by
 cases d with
 |none=>rfl
 |some t=>
  have hh:=h t rfl;unfold BR;cases hg:o.guard with
  |none=>rfl
  |some jw=>
   obtain⟨j,want⟩:=jw;dsimp only;cases hj:ops.toList[j]? with
   |none=>rfl
   |some oj=>
    dsimp only;cases ht:oj.dst with
    |none=>rfl
    |some q=>
     dsimp only;have hj':ops[j]? =some oj:=by simpa using hj
     have hne:t≠q:=by
      rintro rfl;exact hh (by simp[Oper.looksAt,hg,hj',ht])
     have:nth .dead (CJ tm (some t) v) q=nth .dead tm q:=by
      simp only[CJ,BK,List.getD,H9,List.getElem?_set,if_neg hne]
     rw[this]
theorem SV {ops:Array Oper} {o:Oper} {tm:List TV} {bx:List (Nat×Box)} {rows:List (Nat×Row)} {d:Option Tmp} {v:TV} (h:∀t,d=some t->t∉o.looksAt ops):
  CZ P C ops.toList o (CJ tm d v) bx rows=CZ P C ops.toList o tm bx rows:=by
 unfold CZ;rw[OF h];cases d with
 |none=>rfl
 |some t=>
  have hh:=h t rfl;rw [show opK P C (AS (CJ tm (some t) v)) o.dst o.op some = opK P C (AS tm) o.dst o.op some from Tb (fun x hx => Qtr (by
   rintro rfl;exact hh (List.mem_append_left _ (List.mem_filterMap.2 ⟨.tmp t,by simpa using hx,rfl⟩)))) some]
theorem IV {a b:Nat} (h:a≠b):Nat.beq a b=false:=JY h
theorem Qjn {α:Type}:∀(l:List (Nat×α)) (k j:Nat) (x y:α),k≠j->upd (upd l k x) j y=upd (upd l j y) k x
 |[],_,_,_,_,_=>rfl
 |(i,b)::l,k,j,x,y,h=>by
  by_cases h1:i=k
  ·subst h1;simp only[upd,Nat.beq_refl,cond_true,IV h,cond_false]
  ·by_cases h2:i=j
   ·subst h2;simp only[upd,Nat.beq_refl,cond_true,IV h1,cond_false]
   ·simp only[upd,IV h1,IV h2,cond_false];rw[Qjn l k j x y h]
theorem Gi {a b:Nat} (h:a<b):Nat.blt a b=true:=by simpa using h
theorem Gp {a b:Nat} (h: ¬a<b):Nat.blt a b=false:=by
 cases hb:Nat.blt a b
 ·rfl
 ·simp at hb;omega
theorem Qci {α:Type}:∀(l:List (Nat×α)) (k j:Nat) (x y:α),k≠j->ins (ins l k x) j y=ins (ins l j y) k x
 |[],k,j,x,y,h=>by
  by_cases h1:j<k
  ·simp only[ins,Gi h1,cond_true,Gp (show¬k<j by omega),cond_false]
  ·simp only[ins,Gp h1,cond_false,Gi (show k<j by omega),cond_true]
 |(i,b)::l,k,j,x,y,h=>by
  by_cases h1:k<i<;>by_cases h2:j<i
  ·by_cases h3:j<k
   ·simp only[ins,Gi h1,Gi h2,Gi h3,Gp (show¬k<j by omega),cond_true,cond_false]
   ·simp only[ins,Gi h1,Gi h2,Gp h3,Gi (show k<j by omega),cond_true,cond_false]
  ·simp only[ins,Gi h1,Gp h2,Gp (show¬j<k by omega),cond_true,cond_false]
  ·simp only[ins,Gp h1,Gi h2,Gp (show¬k<j by omega),cond_true,cond_false]
  ·simp only[ins,Gp h1,Gp h2,cond_false];rw[Qci l k j x y h]
theorem Rl {α:Type}:∀(l:List (Nat×α)) (k j:Nat) (x y:α),k≠j->upd (ins l k x) j y=ins (upd l j y) k x
 |[],k,j,x,y,h=>by simp only[ins,upd,IV h,cond_false]
 |(i,b)::l,k,j,x,y,h=>by
  by_cases h1:k<i<;>by_cases h2:i=j
  ·subst h2;simp only[ins,upd,Gi h1,IV h,Nat.beq_refl,cond_true,cond_false]
  ·simp only[ins,upd,Gi h1,IV h,IV h2,cond_true,cond_false]
  ·subst h2;simp only[ins,upd,Gp h1,Nat.beq_refl,cond_true,cond_false]
  ·simp only[ins,upd,Gp h1,IV h2,cond_false];rw[Rl l k j x y h]
theorem Kr {d:Option Tmp} {f:FuncId} {args:List TV} {bx bx':List (Nat×Box)} {rows:List (Nat×Row)} {v:TV} (h:Au (C:=C) d (.call f args) bx rows=some (v,bx')):
  bx'=bx/\∀(d2:Option Tmp) (bx2:List (Nat×Box)),Au (C:=C) d2 (.call f args) bx2 rows=some (v,bx2):=by
 simp only[Au]at h⊢;cases h1:C.spec f with
 |none=>rw[h1]at h;simp at h
 |some g=>
  rw[h1]at h;dsimp only at h⊢;cases h2:GQ rows args with
  |none=>rw[h2]at h;simp at h
  |some l=>
   rw[h2]at h;dsimp only at h⊢;cases h3:g (TV×Mem) l ⟨[],[]⟩ (fun v m=>some (v,m))with
   |none=>rw[h3]at h;simp at h
   |some q=>
    rw[h3]at h;obtain⟨u,⟨mb,mr⟩⟩:=q;cases mb with
    |cons _ _=>simp at h
    |nil=>
     cases mr with
     |cons _ _=>simp at h
     |nil=>
      dsimp only at h⊢;split at h
      ·rename_i hc;simp at h;obtain⟨rfl,rfl⟩:=h;refine⟨rfl,fun _ _=> ?_⟩;rw[if_pos hc]
      ·simp at h
theorem Nl {d:Option Tmp} {g:Bool} {sz id idx sub:Nat} {bx bx1:List (Nat×Box)} {rows:List (Nat×Row)} {v:TV} (h:Au (C:=C) d (.rload g sz id idx sub) bx rows=some (v,bx1)):
  bx1=bx/\∀(d':Option Tmp) (b':List (Nat×Box)),Au (C:=C) d' (.rload g sz id idx sub) b' rows=some (v,b'):=by
 simp only[Au]at h⊢
 repeat' split at h
 all_goals first|(simp at h;done)|skip
 simp at h;obtain⟨rfl,rfl⟩:=h;exact⟨rfl,fun _ _=>rfl⟩
theorem Qzj {n k:Nat}:∀{l:List Nat},k∈OG n l↔k=n\/k∈l
 |[]=>by simp[OG]
 |m::l=>by
  simp only[OG];cases hb:Nat.beq m n
  ·simp only[cond_false,List.mem_cons,Qzj (l:=l)];constructor
   ·rintro(h|h|h)<;>simp[h]
   ·rintro(h|h|h)<;>simp[h]
  ·have:=Nat.eq_of_beq_eq_true hb;subst this;simp only[cond_true,List.mem_cons];constructor
   ·rintro(h|h)<;>simp[h]
   ·rintro(h|h|h)<;>simp[h]
theorem Q7h {k:Nat}:∀{ns l:List Nat},k∈AU ns l↔k∈ns\/k∈l
 |[],l=>by simp[AU]
 |n::ns,l=>by
  simp only[AU,Q7h (ns:=ns),Qzj,List.mem_cons];constructor
  ·rintro(h|h|h)<;>simp[h]
  ·rintro((h|h)|h)<;>simp[h]
theorem RY {α β:Type} {g:α->List β} {x:β}:∀{l:List α},x∈cat g l↔∃a∈l,x∈g a
 |[]=>by simp[cat]
 |a::l=>by simp[cat,RY (l:=l)]
theorem Tr {k:Nat}:∀{l:List AC},k∈AC.keys.keysL l->∃o,AC.ptr k o∈l
 |[],h=>by simp[AC.keys.keysL]at h
 |a::l,h=>by
  cases a
  case ptr j o=>
   simp only[AC.keys.keysL,List.mem_cons]at h;rcases h with rfl|h
   ·exact⟨o,by simp⟩
   ·obtain⟨o',h'⟩:=Tr h;exact⟨o',by simp[h']⟩
  all_goals
   simp only[AC.keys.keysL]at h;obtain⟨o',h'⟩:=Tr h;exact⟨o',by simp[h']⟩
theorem Z3m {bx:List (Nat×Box)} {rows:List (Nat×Row)} {args:List TV} (h:∀v∈args,TV.wf bx rows v) {k:Nat} (hk:k∈AU (cat AC.keys (cat TV.cellsOf args)) []):∃b,Ab bx k=some b:=by
 simp only[Q7h,List.not_mem_nil,or_false]at hk;obtain⟨a,ha,hka⟩:=RY.1 hk;obtain⟨v,hv,hav⟩:=RY.1 ha;have hw:=h v hv;have haw:AC.wf bx rows a:=by
  cases v with
  |dead=>simp[TV.cellsOf]at hav
  |v g cs=>exact hw a hav
  |tup ps=>
   simp only[TV.cellsOf]at hav;obtain⟨p,hp,hap⟩:=RY.1 hav;exact hw p hp a hap
 cases a
 case ptr j o=>simp[AC.keys]at hka;subst hka;exact haw
 case bsl j o=>simp[AC.keys]at hka;subst hka;exact haw
 case clo f fs cs=>
  simp only[AC.keys,List.mem_append]at hka;rcases hka with hka|hka
  ·obtain⟨o,ho⟩:=Tr hka;exact haw.1 _ ho
  ·obtain⟨o,ho⟩:=Tr hka;exact haw.2 _ ho
 all_goals simp[AC.keys]at hka
theorem Qrx {bx bx':List (Nat×Box)} {rk ri:Nat->Nat}:∀(keys:List Nat) (b:Nat),(∀k∈keys,Ab bx' k=Ab bx k)->Dr bx' rk ri b keys=Dr bx rk ri b keys
 |[],_,_=>rfl
 |k::keys,b,h=>by
  simp only[Dr];rw[h k (by simp),Qrx keys (b+1) fun j hj=>h j (by simp[hj])]
theorem Q4s {α:Type} {p q:α->Bool}:∀{l:List α},(∀x∈l,p x=q x)->Aj p l=Aj q l
 |[],_=>rfl
 |a::l,h=>by simp only[Aj];rw[h a (by simp),Q4s (l:=l) fun x hx=>h x (by simp[hx])]
theorem KK {keys:List Nat}:∀(m:List (Nat×Box)) (l:List (Nat×Box)) (n:Nat),(∀p∈m,n≠nth 0 keys (p.1-base))->Ab (Ce keys m l) n=Ab l n
 |[],_,_,_=>rfl
 |(j,c)::m,l,n,h=>by
  simp only[Ce];rw[KK m _ n fun p hp=>h p (by simp[hp])];exact C9 _ _ _ _ (h (j,c) (by simp))
theorem Qd4 {keys:List Nat}:∀(m:List (Nat×Box)) (l:List (Nat×Box)) (n:Nat) (x:Box),(∀p∈m,n≠nth 0 keys (p.1-base))->Ce keys m (upd l n x)=upd (Ce keys m l) n x
 |[],_,_,_,_=>rfl
 |(j,c)::m,l,n,x,h=>by
  simp only[Ce];rw[Qjn _ _ _ _ _ (h (j,c) (by simp)),Qd4 m _ n x fun p hp=>h p (by simp[hp])]
theorem WO {keys:List Nat}:∀(m:List (Nat×Box)) (l:List (Nat×Box)) (n:Nat) (x:Box),(∀p∈m,n≠nth 0 keys (p.1-base))->Ce keys m (ins l n x)=ins (Ce keys m l) n x
 |[],_,_,_,_=>rfl
 |(j,c)::m,l,n,x,h=>by
  simp only[Ce];rw[Rl _ _ _ _ _ (h (j,c) (by simp)),WO m _ n x fun p hp=>h p (by simp[hp])]
theorem Tp {d:Option Tmp} {f:FuncId} {args:List TV} {bx bx1:List (Nat×Box)} {rows:List (Nat×Row)} {v:TV} (h:Au (C:=C) d (.callD f args) bx rows=some (v,bx1)):
  ∃mb',bx1=Ce (AU (cat AC.keys (cat TV.cellsOf args)) []) mb' bx/\(∀p∈mb',nth 0 (AU (cat AC.keys (cat TV.cellsOf args)) []) (p.1-base)∈AU (cat AC.keys (cat TV.cellsOf args)) [])/\v.plainB=true/\
   ∀(d':Option Tmp) (bx':List (Nat×Box)),(∀k∈AU (cat AC.keys (cat TV.cellsOf args)) [],Ab bx' k=Ab bx k)->Au (C:=C) d' (.callD f args) bx' rows=some (v,Ce (AU (cat AC.keys (cat TV.cellsOf args)) []) mb' bx'):=by
 simp only[Au]at h⊢;generalize AU (cat AC.keys (cat TV.cellsOf args)) []=keys at h⊢;cases h1:C.spec f with
 |none=>rw[h1]at h;simp at h
 |some g=>
  rw[h1]at h;dsimp only at h⊢;split at h
  ·rename_i hc;split at h
   ·rename_i mb hmb;split at h
    ·rename_i v' mb' hg;split at h
     ·rename_i hc2;simp only[Option.some.injEq,Prod.mk.injEq]at h;obtain⟨rfl,rfl⟩:=h;have hc2':=hc2;simp only[Bool.and_eq_true]at hc2';refine⟨mb',rfl,fun p hp=> ?_,hc2'.2,fun d' bx' hl=> ?_⟩
      ·obtain⟨b,hb⟩:=Sn (Av.1 hc2'.1.1.1.2 p hp);obtain⟨i,hi,e⟩:=(KR hmb).2 _ _ hb;rw[e,show base+i-base=i from by omega];exact E9 hi
      ·rw[Q4s (q:=fun k=>Aj AC.calm (Es bx k)) (fun k hk=>by unfold Es;rw[hl k hk]),Qrx keys base hl,hmb,if_pos hc];dsimp only;rw[hg];dsimp only;rw[if_pos hc2]
     ·simp at h
    ·simp at h
   ·simp at h
  ·simp at h
theorem OY {keys:List Nat}:∀(m:List (Nat×Box)) (l:List (Nat×Box)) {n:Nat} {b:Box},Ab l n=some b->∃b',Ab (Ce keys m l) n=some b'
 |[],_,_,b,h=>⟨b,h⟩
 |(j,c)::m,l,n,b,h=>by
  simp only[Ce];by_cases e:n=nth 0 keys (j-base)
  ·subst e;exact OY m _ (EE _ _ _ _ h)
  ·exact OY m _ (b:=b) (by rw[C9 _ _ _ _ e];exact h)
theorem Zw7 {d:Option Tmp} {f:FuncId} {args:List TV} {bx bx1:List (Nat×Box)} {rows:List (Nat×Row)} {v:TV} (h:Au (C:=C) d (.callD f args) bx rows=some (v,bx1)):
  ∀k∈AU (cat AC.keys (cat TV.cellsOf args)) [],∃b,Ab bx k=some b:=by
 simp only[Au]at h;generalize AU (cat AC.keys (cat TV.cellsOf args)) []=keys at h⊢;split at h
 ·split at h
  ·split at h
   ·rename_i mb hmb;intro k hk;obtain⟨x,q,_⟩:=(KR hmb).1 (pos keys k) (DQ hk).1;rw[(DQ hk).2]at q;exact⟨x,q⟩
   ·simp at h
  ·simp at h
 ·simp at h
theorem Q61 {α:Type}:∀(l:List (Nat×α)) (k:Nat) (x:α),Ab l k=some x->upd l k x=l
 |[],_,_,_=>rfl
 |(j,b)::l,k,x,h=>by
  simp only[Ab,upd]at h⊢;cases hj:Nat.beq j k
  ·rw[hj]at h;simp only[cond_false]at h⊢;rw[Q61 l k x h]
  ·rw[hj]at h;simp only[cond_true,Option.some.injEq]at h⊢;rw[h,Nat.eq_of_beq_eq_true hj]
theorem Q74 {keys:List Nat} {bx:List (Nat×Box)} {rk ri:Nat->Nat}:∀(ks pre:List Nat) (mb:List (Nat×Box)),keys=pre++ks->Dr bx rk ri (base+pre.length) ks=some mb->(∀k∈ks,Aj AC.calm (Es bx k)=true)->Ce keys mb bx=bx
 |[],_,mb,_,h,_=>by simp[Dr]at h;subst h;rfl
 |k::ks,pre,mb,hk,h,hc=>by
  simp only[Dr]at h;split at h
  ·rename_i x hx;split at h
   ·rename_i l hl;simp only[Option.some.injEq]at h;subst h;simp only[Ce];have hn:nth 0 keys (base+pre.length-base)=k:=by
     rw[show base+pre.length-base=pre.length from by omega,BK,hk];simp
    have hcx:=hc k (by simp);unfold Es at hcx;rw[hx]at hcx;rw[hn,Pg hcx,Q61 bx k _ hx];exact Q74 (rk:=rk) (ri:=ri) ks (pre++[k]) l (by rw[hk];simp) (by rw[<-hl];simp[Nat.add_assoc]) (fun j hj=>hc j (by simp[hj]))
   ·simp at h
  ·simp at h
theorem Rf (hspec:Ai P C) {d:Option Tmp} {f:FuncId} (hro:C.ro f=true) {args:List TV} {bx bx1:List (Nat×Box)} {rows:List (Nat×Row)} {v:TV} (h:Au (C:=C) d (.callD f args) bx rows=some (v,bx1)):bx1=bx:=by
 simp only[Au]at h;generalize AU (cat AC.keys (cat TV.cellsOf args)) []=keys at h;cases h1:C.spec f with
 |none=>rw[h1]at h;simp at h
 |some g=>
  rw[h1]at h;dsimp only at h;split at h
  ·rename_i hc;simp only[Bool.and_eq_true]at hc;split at h
   ·rename_i mb hmb;split at h
    ·rename_i v' mb' hg;split at h
     ·simp only[Option.some.injEq,Prod.mk.injEq]at h;have e:=hspec.2 f g h1 hro _ _ _ _ hg;simp only[Mem.mk.injEq,and_true]at e;rw[<-h.2,e];exact Q74 keys [] mb rfl (by simpa using hmb) (fun k hk=>Av.1 hc.1.2 k hk)
     ·simp at h
    ·simp at h
   ·simp at h
  ·simp at h
theorem Zon (hspec:Ai P C) {di dj:Option Tmp} {pi pj:Prim} {bx bx1 bx2:List (Nat×Box)} {rows:List (Nat×Row)} {vi vj:TV} (hi:Au (C:=C) di pi bx rows=some (vi,bx1)) (hj:Au (C:=C) dj pj bx1 rows=some (vj,bx2))
  (hm:Prim.meet C.ro (some pi) (some pj)=false) (hd:∀t,di=some t->dj≠some t) (hwf:Prim.wf bx rows pj):
  ∃bx1',Au (C:=C) dj pj bx rows=some (vj,bx1')/\Au (C:=C) di pi bx1' rows=some (vi,bx2):=by
 have hne:∀{a b:Nat},Nat.beq a b=false->a≠b:=fun h e=>by subst e;simp at h
 cases pi<;>simp only[Au]at hi<;>try (simp at hi;done)
 case val v=>simp at hi;obtain⟨rfl,rfl⟩:=hi;exact⟨bx2,hj,rfl⟩
 case newView e ks l=>simp at hi;obtain⟨rfl,rfl⟩:=hi;exact⟨bx2,hj,rfl⟩
 case rload g sz id idx sub=>
  obtain⟨rfl,hc⟩:=Nl (C:=C) (d:=di) (by simpa only[Au]using hi);exact⟨bx2,hj,hc _ _⟩
 case callD f args=>
  obtain⟨mb',rfl,hin,_,hc⟩:=Tp (C:=C) (d:=di) (f:=f) (args:=args) (rows:=rows) (by simpa only[Au]using hi);have hself:=hc di bx fun _ _=>rfl;have hkeys:∀k∈AU (cat AC.keys (cat TV.cellsOf args)) [],∃b,Ab bx k=some b:=Zw7 (C:=C) (d:=di) (f:=f) (v:=vi) (rows:=rows) (by simpa only[Au]using hself);cases pj<;>simp only[Au]at hj<;>try (simp at hj;done)
  case val v=>simp at hj;obtain⟨rfl,rfl⟩:=hj;exact⟨bx,rfl,hself⟩
  case newView e ks l=>simp at hj;obtain⟨rfl,rfl⟩:=hj;exact⟨bx,rfl,hself⟩
  case rload g sz id idx sub=>
   obtain⟨rfl,hcj⟩:=Nl (C:=C) (d:=dj) (by simpa only[Au]using hj);exact⟨bx,hcj _ _,hself⟩
  case call f' args'=>
   obtain⟨rfl,hcj⟩:=Kr (d:=dj) hj;exact⟨bx,hcj _ _,hself⟩
  case load g sz k' o'=>
   cases hro:C.ro f
   case true=>
    have e1:=Rf hspec (d:=di) hro (rows:=rows) hself;rw[e1]at hj hself;have e2:bx2=bx:=by
     repeat' split at hj
     all_goals first|(simp at hj;done)|(simp at hj;exact hj.2.symm)
    subst e2;exact⟨bx2,by simp only[Au];exact hj,hself⟩
   have hk:k'∉AU (cat AC.keys (cat TV.cellsOf args)) []:=fun e=>by
    have:=E3.2 e;simp only[Prim.meet,hro,Bool.not_false,Bool.true_and]at hm;rw[hm]at this;cases this
   have hk2:∀p∈mb',k'≠nth 0 (AU (cat AC.keys (cat TV.cellsOf args)) []) (p.1-base):=fun p hp e=>hk (by rw[e];exact hin p hp);rw[KK _ _ _ hk2]at hj;refine⟨bx,?_,?_⟩
   ·simp only[Au]
    repeat' split at hj
    all_goals first|(simp at hj;done)|skip
    rename_i q1 _ _ q2;simp at hj;obtain⟨rfl,_⟩:=hj;simp only[q1,q2]
   ·have:bx2=Ce (AU (cat AC.keys (cat TV.cellsOf args)) []) mb' bx:=by
     repeat' split at hj
     all_goals first|(simp at hj;done)|(simp at hj;exact hj.2.symm)
    rw[this];exact hself
  case store k' o' cs'=>
   have hk:k'∉AU (cat AC.keys (cat TV.cellsOf args)) []:=fun e=>by
    have:=E3.2 e;simp only[Prim.meet]at hm;rw[hm]at this;cases this
   have hk2:∀p∈mb',k'≠nth 0 (AU (cat AC.keys (cat TV.cellsOf args)) []) (p.1-base):=fun p hp e=>hk (by rw[e];exact hin p hp);rw[KK _ _ _ hk2]at hj;cases h2:Ab bx k' with
   |none=>rw[h2]at hj;simp at hj
   |some b'=>
    rw[h2]at hj;dsimp only at hj;split at hj
    ·rename_i hle';simp at hj;obtain⟨rfl,rfl⟩:=hj;refine⟨upd bx k' ⟨b'.ty,splice b'.cells o' cs'⟩,by simp only[Au,h2,hle',if_true],?_⟩;rw[hc di _ fun k hk'=>C9 _ _ _ _ (by rintro rfl;exact hk hk'),Qd4 _ _ _ _ hk2]
    ·simp at hj
  case new ty cs'=>
   split at hj
   ·rename_i d;split at hj
    ·simp at hj
    ·rename_i hn;simp at hj;obtain⟨rfl,rfl⟩:=hj;have hk2:∀p∈mb',d≠nth 0 (AU (cat AC.keys (cat TV.cellsOf args)) []) (p.1-base):=fun p hp e=>by
      have hthere:∃b,Ab bx d=some b:=hkeys d (by rw[e];exact hin p hp);obtain⟨b,hb⟩:=hthere;have:∃b',Ab (Ce (AU (cat AC.keys (cat TV.cellsOf args)) []) mb' bx) d=some b':=OY _ _ hb;obtain⟨b',hb'⟩:=this;rw[hn]at hb';cases hb'
     have hkd:d∉AU (cat AC.keys (cat TV.cellsOf args)) []:=fun e=>by
      obtain⟨b,hb⟩:=hkeys d e;obtain⟨b',hb'⟩:=OY (keys:=AU (cat AC.keys (cat TV.cellsOf args)) []) mb' bx hb;rw[hn]at hb';cases hb'
     rw[KK _ _ _ hk2]at hn;refine⟨ins bx d ⟨ty,cs'⟩,by simp only[Au,hn],?_⟩;rw[hc di _ fun k hk'=>Dq _ _ _ _ (by rintro rfl;exact hkd hk'),WO _ _ _ _ hk2]
   ·simp at hj
  case callD f' args'=>
   simp only[Prim.meet,Bool.not_eq_false',Bool.and_eq_true]at hm;have e1:=Rf hspec (d:=di) hm.1 (rows:=rows) hself;rw[e1]at hj hself;have e2:=Rf hspec (d:=dj) hm.2 (rows:=rows) (f:=f') (args:=args') (v:=vj) (bx1:=bx2) (by simpa only[Au]using hj);subst e2;exact⟨bx2,by simpa only[Au]using hj,hself⟩
 case call f args=>
  obtain⟨rfl,hc⟩:=Kr (d:=di) hi;exact⟨bx2,hj,hc _ _⟩
 case load g sz key off=>
  cases h1:Ab bx key with
  |none=>rw[h1]at hi;simp at hi
  |some b=>
   rw[h1]at hi;dsimp only at hi;cases h2:Dl g sz b.cells off with
   |none=>rw[h2]at hi;simp at hi
   |some v=>
    rw[h2]at hi;simp at hi;obtain⟨rfl,rfl⟩:=hi;refine⟨bx2,hj,?_⟩;have hl:Ab bx2 key=some b:=by
     cases pj<;>simp only[Au]at hj<;>try (simp at hj;done)
     case val=>simp at hj;rw[<-hj.2];exact h1
     case newView=>simp at hj;rw[<-hj.2];exact h1
     case rload=>
      obtain⟨rfl,_⟩:=Nl (C:=C) (d:=dj) (by simpa only[Au]using hj);exact h1
     case callD f args=>
      cases hro:C.ro f
      case true=>
       rw[Rf hspec (d:=dj) hro (rows:=rows) (args:=args) (v:=vj) (bx1:=bx2) (by simpa only[Au]using hj)];exact h1
      obtain⟨mb',rfl,hin,_,_⟩:=Tp (C:=C) (d:=dj) (f:=f) (args:=args) (rows:=rows) (by simpa only[Au]using hj);rw[KK _ _ _ fun p hp e=>by
       have:=E3.2 (hin p hp);rw[<-e]at this;simp only[Prim.meet,hro,Bool.not_false,Bool.true_and]at hm;rw[hm]at this;cases this]
      exact h1
     case call=>
      obtain⟨rfl,_⟩:=Kr (d:=dj) hj;exact h1
     case load=>
      repeat' split at hj
      all_goals first|(simp at hj;done)|(simp at hj;rw[<-hj.2];exact h1)
     case store k' o' cs'=>
      split at hj
      ·split at hj
       ·simp at hj;rw[<-hj.2,C9 _ _ _ _ (hne hm)];exact h1
       ·simp at hj
      ·simp at hj
     case new ty cs=>
      split at hj
      ·rename_i d;split at hj
       ·simp at hj
       ·rename_i hn;simp at hj;rw[<-hj.2,Dq _ _ _ _ (by rintro rfl;rw[hn]at h1;simp at h1)];exact h1
      ·simp at hj
    simp only[Au,hl,h2]
 case store key off cs=>
  cases h1:Ab bx key with
  |none=>rw[h1]at hi;simp at hi
  |some b=>
   rw[h1]at hi;dsimp only at hi;split at hi
   ·rename_i hle;simp at hi;obtain⟨rfl,rfl⟩:=hi;cases pj<;>simp only[Au]at hj<;>try (simp at hj;done)
    case val v=>simp at hj;obtain⟨rfl,rfl⟩:=hj;exact⟨bx,rfl,by simp only[Au,h1,hle,if_true]⟩
    case newView e ks l=>simp at hj;obtain⟨rfl,rfl⟩:=hj;exact⟨bx,rfl,by simp only[Au,h1,hle,if_true]⟩
    case rload g sz id idx sub=>
     obtain⟨rfl,hc⟩:=Nl (C:=C) (d:=dj) (by simpa only[Au]using hj);exact⟨bx,hc _ _,by simp only[Au,h1,hle,if_true]⟩
    case callD f args=>
     obtain⟨mb',rfl,hin,_,hc⟩:=Tp (C:=C) (d:=dj) (f:=f) (args:=args) (rows:=rows) (by simpa only[Au]using hj);have hk:key∉AU (cat AC.keys (cat TV.cellsOf args)) []:=fun e=>by
      have:=E3.2 e;simp only[Prim.meet]at hm;rw[hm]at this;cases this
     have hk2:∀p∈mb',key≠nth 0 (AU (cat AC.keys (cat TV.cellsOf args)) []) (p.1-base):=fun p hp e=>hk (by rw[e];exact hin p hp);refine⟨_,hc dj bx fun k hk'=>(C9 _ _ _ _ (by rintro rfl;exact hk hk')).symm,?_⟩;simp only[Au];rw[KK _ _ _ hk2,h1];simp only[hle,if_true];rw[Qd4 _ _ _ _ hk2]
    case call f args=>
     obtain⟨rfl,hc⟩:=Kr (d:=dj) hj;exact⟨bx,hc _ _,by simp only[Au,h1,hle,if_true]⟩
    case load g sz k' o'=>
     have hk:=hne hm;rw[C9 _ _ _ _ (fun e=>hk e.symm)]at hj;refine⟨bx,?_,?_⟩
     ·simp only[Au]
      repeat' split at hj
      all_goals first|(simp at hj;done)|skip
      rename_i q1 _ _ q2;simp at hj;obtain⟨rfl,_⟩:=hj;simp only[q1,q2]
     ·have:bx2=upd bx key ⟨b.ty,splice b.cells off cs⟩:=by
       repeat' split at hj
       all_goals first|(simp at hj;done)|(simp at hj;exact hj.2.symm)
      subst this;simp only[Au,h1,hle,if_true]
    case store k' o' cs'=>
     have hk:=hne hm;rw[C9 _ _ _ _ (fun e=>hk e.symm)]at hj;cases h2:Ab bx k' with
     |none=>rw[h2]at hj;simp at hj
     |some b'=>
      rw[h2]at hj;dsimp only at hj;split at hj
      ·rename_i hle';simp at hj;obtain⟨rfl,rfl⟩:=hj;refine⟨upd bx k' ⟨b'.ty,splice b'.cells o' cs'⟩,by simp only[Au,h2,hle',if_true],?_⟩;simp only[Au];rw[C9 _ _ _ _ hk,h1];simp only[hle,if_true];rw[Qjn _ _ _ _ _ hk]
      ·simp at hj
    case new ty cs'=>
     split at hj
     ·rename_i d;split at hj
      ·simp at hj
      ·rename_i hn;simp at hj;obtain⟨rfl,rfl⟩:=hj;have hkd:d≠key:=by
        rintro rfl;rw[EE _ _ _ _ h1]at hn;simp at hn
       rw[C9 _ _ _ _ hkd]at hn;refine⟨ins bx d ⟨ty,cs'⟩,by simp only[Au,hn],?_⟩;simp only[Au];rw[Dq _ _ _ _ (fun e=>hkd e.symm),h1];simp only[hle,if_true];rw[Rl _ _ _ _ _ hkd]
     ·simp at hj
   ·simp at hi
 case new ty cs=>
  cases hdi:di with
  |none=>rw[hdi]at hi;simp at hi
  |some d=>
   rw[hdi]at hi;dsimp only at hi;cases h1:Ab bx d with
   |some _=>rw[h1]at hi;simp at hi
   |none=>
    rw[h1]at hi;simp at hi;obtain⟨rfl,rfl⟩:=hi;have hnew:∀bb,Ab bb d=none->Au (C:=C) (some d) (.new ty cs) bb rows=some (.c (.ptr d 0),ins bb d ⟨ty,cs⟩):=by
     intro bb hb;simp only[Au,hb]
    cases pj<;>simp only[Au]at hj<;>try (simp at hj;done)
    case val v=>simp at hj;obtain⟨rfl,rfl⟩:=hj;exact⟨bx,rfl,hnew bx h1⟩
    case newView e ks l=>simp at hj;obtain⟨rfl,rfl⟩:=hj;exact⟨bx,rfl,hnew bx h1⟩
    case rload g sz id idx sub=>
     obtain⟨rfl,hc⟩:=Nl (C:=C) (d:=dj) (by simpa only[Au]using hj);exact⟨bx,hc _ _,hnew bx h1⟩
    case callD f args=>
     obtain⟨mb',rfl,hin,_,hc⟩:=Tp (C:=C) (d:=dj) (f:=f) (args:=args) (rows:=rows) (by simpa only[Au]using hj);have hk:d∉AU (cat AC.keys (cat TV.cellsOf args)) []:=fun e=>by
      obtain⟨b,hb⟩:=Z3m hwf e;rw[h1]at hb;cases hb
     have hk2:∀p∈mb',d≠nth 0 (AU (cat AC.keys (cat TV.cellsOf args)) []) (p.1-base):=fun p hp e=>hk (by rw[e];exact hin p hp);refine⟨_,hc dj bx fun k hk'=>(Dq _ _ _ _ (by rintro rfl;exact hk hk')).symm,?_⟩;rw[hnew _ (by rw[KK _ _ _ hk2];exact h1),WO _ _ _ _ hk2]
    case call f args=>
     obtain⟨rfl,hc⟩:=Kr (d:=dj) hj;exact⟨bx,hc _ _,hnew bx h1⟩
    case load g sz k' o'=>
     obtain⟨b',hb'⟩:=hwf;have hk:k'≠d:=by rintro rfl;rw[h1]at hb';simp at hb'
     rw[Dq _ _ _ _ hk]at hj;refine⟨bx,?_,?_⟩
     ·simp only[Au]
      repeat' split at hj
      all_goals first|(simp at hj;done)|skip
      rename_i q1 _ _ q2;simp at hj;obtain⟨rfl,_⟩:=hj;simp only[q1,q2]
     ·have:bx2=ins bx d ⟨ty,cs⟩:=by
       repeat' split at hj
       all_goals first|(simp at hj;done)|(simp at hj;exact hj.2.symm)
      subst this;exact hnew bx h1
    case store k' o' cs'=>
     obtain⟨⟨b',hb'⟩,_⟩:=hwf;have hk:k'≠d:=by rintro rfl;rw[h1]at hb';simp at hb'
     rw[Dq _ _ _ _ hk,hb']at hj;dsimp only at hj;split at hj
     ·rename_i hle';simp at hj;obtain⟨rfl,rfl⟩:=hj;refine⟨upd bx k' ⟨b'.ty,splice b'.cells o' cs'⟩,by simp only[Au,hb',hle',if_true],?_⟩;rw[hnew _ (by rw[C9 _ _ _ _ (fun e=>hk e.symm)];exact h1),Rl _ _ _ _ _ (fun e=>hk e.symm)]
     ·simp at hj
    case new ty' cs'=>
     cases hdj:dj with
     |none=>rw[hdj]at hj;simp at hj
     |some e=>
      rw[hdj]at hj;dsimp only at hj;have hde:d≠e:=by rintro rfl;exact hd d hdi hdj
      rw[Dq _ _ _ _ (fun q=>hde q.symm)]at hj;cases h2:Ab bx e with
      |some _=>rw[h2]at hj;simp at hj
      |none=>
       rw[h2]at hj;simp at hj;obtain⟨rfl,rfl⟩:=hj;refine⟨ins bx e ⟨ty',cs'⟩,by simp only[Au,h2],?_⟩;rw[hnew _ (by rw[Dq _ _ _ _ hde];exact h1),Qci _ _ _ _ _ hde]
end
end Go.Bm
