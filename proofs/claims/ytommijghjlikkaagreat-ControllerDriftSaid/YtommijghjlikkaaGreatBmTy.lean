/- the abstract machine -/
import Derived.Test.YtommijghjlikkaaGreatBmDraw
import Derived.Orders
import Derived.Test.YtommijghjlikkaaGreatBmFz
import Derived.ProofKit
import Derived.Below
import Derived.OpenShut
import Derived.ChangeSame
import Derived.Deep.Slices
set_option linter.unusedVariables false
set_option linter.unusedSimpArgs false
namespace Go.Bm
open Go.RowKit
section
variable {P:Program} {C:Cfg} {w:World} {R:Type} {Z:Base}
theorem Uy {ev ev':Operand->TV}:∀(l:List Operand),(∀x∈l,ev x=ev' x)->CQ ev l=CQ ev' l
 |[],_=>rfl
 |x::l,h=>by simp only[CQ];rw[h x (by simp),Uy l λy hy=>h y (by simp[hy])]
theorem Qo4 {ev ev':Operand->TV}:∀(l:List (Nat×Operand)),(∀p∈l,ev p.2=ev' p.2)->Gn ev l=Gn ev' l
 |[],_=>rfl
 |x::l,h=>by simp only[Gn];rw[h x (by simp),Qo4 l λy hy=>h y (by simp[hy])]
theorem Q6a {ev ev':Operand->TV} (o:Option Operand) (h:∀x,o=some x->ev x=ev' x):J7 ev o=J7 ev' o:=by
 cases o with
 |none=>rfl
 |some x=>simp only[J7];rw[h x rfl]
theorem TN {ev ev':Operand->TV} {dst:Option Tmp} {o:Op} (h:∀x∈o.operands,ev x=ev' x) (K:Prim->Option R):opK P C ev dst o K=opK P C ev' dst o K:=by
 cases o<;>simp only[Op.operands]at h<;>simp only[opK]
 case move x=>rw[h x (by simp)]
 case assign x=>rw[h x (by simp)]
 case pick c a b=>rw[h c (by simp),h a (by simp),h b (by simp)]
 case box t x=>rw[h x (by simp)]
 case build t parts=>rw[Qo4 parts.toList λp hp=>h p.2 (by simp;exact⟨p.1,by simpa using hp⟩)]
 case buildSlice t n parts=>rw[Qo4 parts.toList λp hp=>h p.2 (by simp;exact⟨p.1,by simpa using hp⟩)]
 case makeSlice t a b=>rw[h a (by simp),h b (by simp)]
 case makeFunc fn a b=>
  rw[Uy a.toList λx hx=>h x (by simp at hx⊢;exact .inl hx),Uy b.toList λx hx=>h x (by simp at hx⊢;exact .inr hx)]
 case load t a=>rw[h a (by simp)]
 case store t a x=>rw[h a (by simp),h x (by simp)]
 case nilCheck x=>rw[h x (by simp)]
 case binOp op t x y _=>rw[h x (by simp),h y (by simp)]
 case unOp op t x=>rw[h x (by simp)]
 case convert s d x=>rw[h x (by simp)]
 case fieldAddr t x i=>rw[h x (by simp)]
 case field t x i=>rw[h x (by simp)]
 case indexAddr t x ix=>rw[h x (by simp),h ix (by simp)]
 case index t x ix=>rw[h x (by simp),h ix (by simp)]
 case slice t x lo hi mx=>
  rw[h x (by simp),Q6a lo λy hy=>h y (by simp[hy]),Q6a hi λy hy=>h y (by simp[hy])]
 case extract t i=>rw[h t (by simp)]
 case call c=>
  have hc:∀t,c.callee= .value (.tmp t)->ev (.tmp t)=ev' (.tmp t):=λt ht=>h _ (by simp only[Call.operands,ht];exact Array.mem_append.2 (.inl (by simp)));have ha:CQ ev c.args.toList=CQ ev' c.args.toList:=Uy _ λx hx=>h x (by simp only[Call.operands];exact Array.mem_append.2 (.inr (by simpa using hx)));rw[ha];split
  ·rfl
  ·rfl
  ·rename_i t ht;rw[hc t ht]
  ·rfl
theorem Q09 {tm:List TV} {d:Nat} {v:TV} {x:Operand} (h:x≠ .tmp d):AY (setL tm d v) x=AY tm x:=by
 cases x with
 |tmp t=>
  have hne:d≠t:=λe=>h (by rw[e]);simp only[AY,B3,List.getD,H9,List.getElem?_set,ab hne]
 |_=>rfl
def CR (tm:List TV) (d:Option Tmp) (v:TV):List TV:=
 match d with
 |none=>tm
 |some t=>setL tm t v
theorem JM (tm:List TV) (bx:List (Nat×Box)) (aC:List (Nat×Row)) (d:Option Tmp) (v:TV):SZ ⟨tm,bx,aC⟩ d v=⟨CR tm d v,bx,aC⟩:=by cases d<;>rfl
theorem NC {tm:List TV} {d e:Option Tmp} (v u:TV) (h:∀t,d=some t->e≠some t):CR (CR tm d v) e u=CR (CR tm e u) d v:=by
 cases d with
 |none=>rfl
 |some t=>
  cases e with
  |none=>rfl
  |some q=>
   have hne:t≠q:=λx=>h t rfl (by rw[x]);simp only[CR,H9];exact List.set_comm _ _ hne
def C_ (P:Program) (C:Cfg) (ops:List Oper) (o:Oper) (tm:List TV) (bx:List (Nat×Box)) (aC:List (Nat×Row)):Option (Option Prim×TV×List (Nat×Box)):=
 match BV ops o tm with
 |some true=>(opK P C (AY tm) o.dst o.op some).bind λp=>(Av (C:=C) o.dst (p.dr false) bx aC).bind λq=>some (some (p.dr false),q.1,q.2)
 |some false=>some (none, .tup [],bx)
 |none=>none
theorem Z6k {d:Option Tmp} {p:Prim} {bx:List (Nat×Box)} {aC:List (Nat×Row)} (h:Prim.isApp (some p)=true):Av (C:=C) d p bx aC=none:=by
 cases p<;>simp[Prim.isApp]at h
 rfl
theorem Z49 {d:Option Tmp} {p:Prim} {bx:List (Nat×Box)} {aC:List (Nat×Row)} (h:Prim.isMk (some p)=true):Av (C:=C) d p bx aC=none:=by
 cases p<;>simp[Prim.isMk]at h<;>rfl
theorem Zs6 {ops:List Oper} {o:Oper} {tm:List TV} {bx bx':List (Nat×Box)} {aC:List (Nat×Row)} {p:Option Prim} {v:TV} (h:C_ P C ops o tm bx aC=some (p,v,bx')):Prim.isMk p=false:=by
 unfold C_ at h;split at h
 ·cases hp:opK P C (AY tm) o.dst o.op some with
  |none=>rw[hp]at h;simp at h
  |some q=>
   rw[hp]at h;simp only[af]at h;cases hq:Prim.isMk (some (q.dr false))with
   |true=>rw[Z49 hq]at h;simp at h
   |false=>
    cases hm:Av (C:=C) o.dst (q.dr false) bx aC with
    |none=>rw[hm]at h;simp at h
    |some z=>rw[hm]at h;simp at h;rw[<-h.1];exact hq
 ·simp at h;rw[<-h.1];rfl
 ·simp at h
theorem Zzz {ops:List Oper} {o:Oper} {tm:List TV} {bx bx':List (Nat×Box)} {aC:List (Nat×Row)} {p:Option Prim} {v:TV} (h:C_ P C ops o tm bx aC=some (p,v,bx')):Prim.isApp p=false:=by
 unfold C_ at h;split at h
 ·cases hp:opK P C (AY tm) o.dst o.op some with
  |none=>rw[hp]at h;simp at h
  |some q=>
   rw[hp]at h;simp only[af]at h;cases hq:Prim.isApp (some (q.dr false))with
   |true=>rw[Z6k hq]at h;simp at h
   |false=>
    cases hm:Av (C:=C) o.dst (q.dr false) bx aC with
    |none=>rw[hm]at h;simp at h
    |some z=>rw[hm]at h;simp at h;rw[<-h.1];exact hq
 ·simp at h;rw[<-h.1];rfl
 ·simp at h
theorem Pm {ops:List Oper} {o:Oper} {tm:List TV} {bx bx':List (Nat×Box)} {aC:List (Nat×Row)} {p:Option Prim} {v:TV} (h:C_ P C ops o tm bx aC=some (p,v,bx')):
  B_ (P:=P) (C:=C) ops o ⟨tm,bx,aC⟩=some (p,⟨CR tm o.dst v,bx',aC⟩):=by
 have hna:=Zzz h;have hnm:=Zs6 h;unfold C_ at h;unfold B_;dsimp only;cases hw:BV ops o tm with
 |none=>rw[hw]at h;simp at h
 |some b=>
  cases b
  ·rw[hw]at h;simp at h;obtain⟨rfl,rfl,rfl⟩:=h;simp only[JM]
  ·rw[hw]at h;dsimp only at h⊢;cases hp:opK P C (AY tm) o.dst o.op some with
   |none=>rw[hp]at h;simp at h
   |some q=>
    rw[hp]at h;simp only[af]at h⊢;cases hm:Av (C:=C) o.dst (q.dr false) bx aC with
    |none=>rw[hm]at h;simp at h
    |some z=>
     rw[hm]at h;simp at h;obtain⟨rfl,rfl,rfl⟩:=h;unfold EX;rw[hna,hnm];simp only[an,hm,Option.map_some,af,JM]
theorem LS {ops:List Oper} {o:Oper} {tm:List TV} {bx:List (Nat×Box)} {aC:List (Nat×Row)} {p:Option Prim} {s':St} (h:B_ (P:=P) (C:=C) ops o ⟨tm,bx,aC⟩=some (p,s')) (hn:Prim.isApp p=false) (hnm:Prim.isMk p=false):
  ∃v bx',C_ P C ops o tm bx aC=some (p,v,bx')/\s'=⟨CR tm o.dst v,bx',aC⟩:=by
 unfold B_ at h;unfold C_;dsimp only at h;cases hw:BV ops o tm with
 |none=>rw[hw]at h;simp at h
 |some b=>
  cases b
  ·rw[hw]at h;simp at h;obtain⟨rfl,rfl⟩:=h;exact⟨_,_,rfl,by rw[JM]⟩
  ·rw[hw]at h;dsimp only at h⊢;cases hp:opK P C (AY tm) o.dst o.op some with
   |none=>rw[hp]at h;simp at h
   |some q=>
    rw[hp]at h;simp only[af]at h⊢;cases hm:EX (C:=C) o.dst (q.dr false) ⟨tm,bx,aC⟩with
    |none=>rw[hm]at h;simp at h
    |some z=>
     rw[hm]at h;simp at h;obtain⟨rfl,rfl⟩:=h;unfold EX at hm;rw[hn,hnm]at hm;simp only[an,bm]at hm;obtain⟨y,hy,rfl⟩:=hm;rw[hy];exact⟨_,_,rfl,by rw[JM]⟩
theorem Qic {ops:List Oper} {o:Oper} {tm:List TV} {bx:List (Nat×Box)} {aC:List (Nat×Row)} {p:Option Prim} {s':St} (h:B_ (P:=P) (C:=C) ops o ⟨tm,bx,aC⟩=some (p,s')) (hn:Prim.isApp p=true):
  BV ops o tm=some true/\∃q id v rows',opK P C (AY tm) o.dst o.op some=some q/\p=some (q.dr false)/\Ke o.dst (q.dr false)=some id/\JO o.dst aC (q.dr false)=some (v,rows')/\s'=⟨CR (tm.map (TV.kill id)) o.dst v,bx.map λp=>(p.1,p.2.kill id),rows'⟩:=by
 unfold B_ at h;dsimp only at h;cases hw:BV ops o tm with
 |none=>rw[hw]at h;simp at h
 |some b=>
  cases b
  ·rw[hw]at h;simp at h;obtain⟨rfl,rfl⟩:=h;simp[Prim.isApp]at hn
  ·rw[hw]at h;refine⟨rfl,?_⟩;dsimp only at h;cases hp:opK P C (AY tm) o.dst o.op some with
   |none=>rw[hp]at h;simp at h
   |some q=>
    rw[hp]at h;simp only[af]at h;cases hm:EX (C:=C) o.dst (q.dr false) ⟨tm,bx,aC⟩with
    |none=>rw[hm]at h;simp at h
    |some z=>
     rw[hm]at h;simp at h;obtain⟨rfl,rfl⟩:=h;unfold EX at hm;rw[hn]at hm;simp only[ah]at hm;split at hm
     ·rename_i id hid;simp only[bm]at hm;obtain⟨⟨y1,y2⟩,hy,rfl⟩:=hm;exact⟨q,id,y1,y2,rfl,rfl,hid,hy,by unfold Qjw;rw[JM]⟩
     ·simp at hm
theorem Qvs {ops:List Oper} {o:Oper} {tm:List TV} {bx:List (Nat×Box)} {aC rows':List (Nat×Row)} {q:Prim} {id:Nat} {v:TV} (h1:BV ops o tm=some true) (h2:opK P C (AY tm) o.dst o.op some=some q)
  (h3:Ke o.dst (q.dr false)=some id) (h4:JO o.dst aC (q.dr false)=some (v,rows')) (h5:Prim.isApp (some (q.dr false))=true):
  B_ (P:=P) (C:=C) ops o ⟨tm,bx,aC⟩=some (some (q.dr false),⟨CR (tm.map (TV.kill id)) o.dst v,bx.map λp=>(p.1,p.2.kill id),rows'⟩):=by
 unfold B_;dsimp only;rw[h1,h2];simp only[af];unfold EX;rw[h5];simp only[ah,h3,h4,Option.map_some,af,Qjw,JM]
theorem TZ {ops:List Oper} {o:Oper} {tm:List TV} {bx:List (Nat×Box)} {aC:List (Nat×Row)} {p:Option Prim} {s':St} (h:B_ (P:=P) (C:=C) ops o ⟨tm,bx,aC⟩=some (p,s')) (hn:Prim.isMk p=true):
  BV ops o tm=some true/\∃q v rows',opK P C (AY tm) o.dst o.op some=some q/\p=some (q.dr false)/\mkD (C:=C) o.dst (q.dr false) aC=some (v,rows')/\s'=⟨CR tm o.dst v,bx,rows'⟩:=by
 unfold B_ at h;dsimp only at h;cases hw:BV ops o tm with
 |none=>rw[hw]at h;simp at h
 |some b=>
  cases b
  ·rw[hw]at h;simp at h;obtain⟨rfl,rfl⟩:=h;simp[Prim.isMk]at hn
  ·rw[hw]at h;refine⟨rfl,?_⟩;dsimp only at h;cases hp:opK P C (AY tm) o.dst o.op some with
   |none=>rw[hp]at h;simp at h
   |some q=>
    rw[hp]at h;simp only[af]at h;cases hm:EX (C:=C) o.dst (q.dr false) ⟨tm,bx,aC⟩with
    |none=>rw[hm]at h;simp at h
    |some z=>
     rw[hm]at h;simp at h;obtain⟨rfl,rfl⟩:=h;have hna:Prim.isApp (some (q.dr false))=false:=by
      generalize q.dr false=q' at hn⊢;cases q'<;>simp[Prim.isMk]at hn<;>rfl
     unfold EX at hm;rw[hna,hn]at hm;simp only[an,ah,bm]at hm;obtain⟨⟨y1,y2⟩,hy,rfl⟩:=hm;exact⟨q,y1,y2,rfl,rfl,hy,by rw[JM]⟩
theorem Sg {ops:List Oper} {o:Oper} {tm:List TV} {bx:List (Nat×Box)} {aC rows':List (Nat×Row)} {q:Prim} {v:TV} (h1:BV ops o tm=some true) (h2:opK P C (AY tm) o.dst o.op some=some q)
  (h4:mkD (C:=C) o.dst (q.dr false) aC=some (v,rows')) (h5:Prim.isMk (some (q.dr false))=true):
  B_ (P:=P) (C:=C) ops o ⟨tm,bx,aC⟩=some (some (q.dr false),⟨CR tm o.dst v,bx,rows'⟩):=by
 have hna:Prim.isApp (some (q.dr false))=false:=by
  generalize q.dr false=q' at h5⊢;cases q'<;>simp[Prim.isMk]at h5<;>rfl
 unfold B_;dsimp only;rw[h1,h2];simp only[af];unfold EX;rw[hna,h5];simp only[ah,an,h4,Option.map_some,af,JM]
theorem Zx6 {id:Nat} {a:AC} (h:a.live=true):a.kill id=a:=by cases a<;>simp[AC.live]at h<;>rfl
theorem Z3w {id:Nat} {a:AC} (h:(a.kill id).live=true):a.kill id=a:=by
 cases a<;>simp only[AC.kill]at h⊢<;>try rfl
 all_goals
  rename_i j b c;cases hb:Nat.beq j id<;>rw[hb]at h
  ·rfl
  ·simp[AC.live]at h
theorem Vp {id:Nat}:∀{l:List AC},Ak AC.live l=true->l.map (AC.kill id)=l
 |[],_=>rfl
 |a::l,h=>by
  rw[Ax]at h;simp only[bf];rw[Zx6 (h a (by simp)),Vp (Ax.2 λx hx=>h x (by simp[hx]))]
theorem Q96 {id:Nat}:∀{l:List AC},Ak AC.live (l.map (AC.kill id))=true->l.map (AC.kill id)=l
 |[],_=>rfl
 |a::l,h=>by
  rw[Ax]at h;simp only[bf]at h⊢;rw[Z3w (h _ (by simp)),Q96 (Ax.2 λx hx=>h x (by simp[hx]))]
theorem Qef (id:Nat):∀(tm:List TV) (t:Nat),nth .dead (tm.map (TV.kill id)) t=(nth .dead tm t).kill id
 |[],_=>rfl
 |_::_,0=>rfl
 |_::tm,t+1=>Qef id tm t
theorem WR {id:Nat} {tm:List TV} {x:Operand} {g:Bool} {cs:List AC} (h:AY tm x= .v g cs) (hl:Ak AC.live cs=true):AY (tm.map (TV.kill id)) x= .v g cs:=by
 cases x<;>try exact h
 simp only[AY]at h⊢;rw[Qef,h];simp only[TV.kill];rw[Vp hl]
theorem Qpo {id:Nat} {tm:List TV} {x:Operand} {g:Bool} {cs:List AC} (h:AY (tm.map (TV.kill id)) x= .v g cs) (hl:Ak AC.live cs=true):AY tm x= .v g cs:=by
 cases x<;>try exact h
 simp only[AY]at h⊢;rw[Qef]at h;cases ht:nth TV.dead tm (by assumption)with
 |dead=>rw[ht]at h;simp[TV.kill]at h
 |tup ps=>rw[ht]at h;simp[TV.kill]at h
 |v g' cs'=>
  rw[ht]at h;simp only[TV.kill,TV.v.injEq]at h;obtain⟨rfl,rfl⟩:=h;rw[Q96 hl]
theorem U7 {q:Prim} (h:Prim.isPtr (some (q.dr false))=true):∃k o,q= .val (.v false [.ptr k o]):=by
 cases q<;>simp only[Prim.dr,Prim.isPtr]at h<;>try (simp at h;done)
 case callM f args=>cases hb:Ak TV.plainB args<;>simp[hb]at h
 rename_i v;split at h
 ·rename_i h';simp at h';exact⟨_,_,by rw[h']⟩
 ·simp at h
theorem Q7h {q:Prim} (h:Prim.isLive (some (q.dr false))=true):∃g cs,q= .val (.v g cs)/\Ak AC.live cs=true:=by
 cases q<;>simp only[Prim.dr,Prim.isLive]at h<;>try (simp at h;done)
 case callM f args=>cases hb:Ak TV.plainB args<;>simp[hb]at h
 rename_i v;cases v<;>simp at h
 exact⟨_,_,rfl,h⟩
theorem Q18 {id:Nat} {tm:List TV} {dst:Option Tmp} {o:Op} {q:Prim} (hs:Prim.still o (some (q.dr false))=true):
  opK P C (AY (tm.map (TV.kill id))) dst o some=some q↔opK P C (AY tm) dst o some=some q:=by
 cases o<;>simp[Prim.still]at hs
 case move x=>
  obtain⟨g,cs,rfl,hs⟩:=Q7h hs;simp only[opK,ap,Prim.val.injEq];exact⟨λh=>Qpo h hs,λh=>WR h hs⟩
 case nilCheck x=>
  obtain⟨k,o,rfl⟩:=U7 hs;have hl:Ak AC.live [AC.ptr k o]=true:=rfl;have key:∀ev:Operand->TV,opK P C ev dst (.nilCheck x) some=some (.val (.v false [.ptr k o]))↔ev x= .v false [.ptr k o]:=by
   intro ev;simp only[opK];split
   ·rename_i k' o' h;rw[h];simp[TV.c]
   ·rename_i h;rw[h];simp[TV.c]
   ·rename_i h;rw[h];simp[TV.c]
   ·rename_i h1 h2 h3;constructor
    ·intro h;simp at h
    ·intro h;exact(h1 _ _ h).elim
  rw[key,key];exact⟨λh=>Qpo h hl,λh=>WR h hl⟩
 case fieldAddr t x i=>
  obtain⟨k,o,rfl⟩:=U7 hs;have key:∀ev:Operand->TV,opK P C ev dst (.fieldAddr t x i) some=some (.val (.v false [.ptr k o]))->∃k' o',ev x= .v false [.ptr k' o']:=by
   intro ev h;simp only[opK]at h
   repeat' split at h
   all_goals first|(simp at h;done)|(simp[TV.c]at h;done)|exact⟨_,_,by assumption⟩
  constructor
  ·intro h;obtain⟨k',o',e⟩:=key _ h;have e2:=Qpo e rfl;rw[<-h];refine TN (λy hy=> ?_) some;simp only[Op.operands]at hy;simp at hy;subst hy;rw[e,e2]
  ·intro h;obtain⟨k',o',e⟩:=key _ h;have e2:=WR (id:=id) e rfl;rw[<-h];refine TN (λy hy=> ?_) some;simp only[Op.operands]at hy;simp at hy;subst hy;rw[e,e2]
theorem Q7u {o:Op} {q:Prim} (hs:Prim.still o (some (q.dr false))=true):∃g cs,q= .val (.v g cs)/\Ak AC.live cs=true:=by
 cases o<;>simp[Prim.still]at hs
 case move x=>exact Q7h hs
 all_goals
  obtain⟨k,o,rfl⟩:=U7 hs;exact⟨_,_,rfl,rfl⟩
theorem Q5f {id:Nat} {tm:List TV} {d:Option Tmp} {g:Bool} {cs:List AC} (h:Ak AC.live cs=true):(CR tm d (.v g cs)).map (TV.kill id)=CR (tm.map (TV.kill id)) d (.v g cs):=by
 cases d with
 |none=>rfl
 |some t=>
  simp only[CR,H9,List.map_set,TV.kill];rw[Vp h]
theorem Rv {ops:Array Oper} {o:Oper} {tm:List TV} {d:Option Tmp} {v:TV} (h:∀t,d=some t->t∉o.looksAt ops):BV ops.toList o (CR tm d v)=BV ops.toList o tm:=by
 cases d with
 |none=>rfl
 |some t=>
  have hh:=h t rfl;unfold BV;cases hg:o.guard with
  |none=>rfl
  |some jw=>
   obtain⟨j,want⟩:=jw;dsimp only;cases hj:ops.toList[j]? with
   |none=>rfl
   |some oj=>
    dsimp only;cases ht:oj.dst with
    |none=>rfl
    |some q=>
     dsimp only;have hj':ops[j]? =some oj:=by simpa using hj
     have hne:t≠q:=by
      rintro rfl;exact hh (by simp[Oper.looksAt,hg,hj',ht])
     have:nth .dead (CR tm (some t) v) q=nth .dead tm q:=by
      simp only[CR,B3,List.getD,H9,List.getElem?_set,ab hne]
     rw[this]
theorem Tt {ops:Array Oper} {o:Oper} {tm:List TV} {bx:List (Nat×Box)} {aC:List (Nat×Row)} {d:Option Tmp} {v:TV} (h:∀t,d=some t->t∉o.looksAt ops):
  C_ P C ops.toList o (CR tm d v) bx aC=C_ P C ops.toList o tm bx aC:=by
 unfold C_;rw[Rv h];cases d with
 |none=>rfl
 |some t=>
  have hh:=h t rfl;rw [show opK P C (AY (CR tm (some t) v)) o.dst o.op some = opK P C (AY tm) o.dst o.op some from TN (λx hx => Q09 (by
   rintro rfl;exact hh (List.mem_append_left _ (List.mem_filterMap.2 ⟨.tmp t,by simpa using hx,rfl⟩)))) some]
theorem JC {a b:Nat} (h:a≠b):Nat.beq a b=false:=KH h
theorem Qk9 {α:Type}:∀(l:List (Nat×α)) (k j:Nat) (x y:α),k≠j->upd (upd l k x) j y=upd (upd l j y) k x
 |[],_,_,_,_,_=>rfl
 |(i,b)::l,k,j,x,y,h=>by
  by_cases h1:i=k
  ·subst h1;simp only[upd,Nat.beq_refl,ah,JC h,an]
  ·by_cases h2:i=j
   ·subst h2;simp only[upd,Nat.beq_refl,ah,JC h1,an]
   ·simp only[upd,JC h1,JC h2,an];rw[Qk9 l k j x y h]
theorem Hi {a b:Nat} (h:a<b):Nat.blt a b=true:=by simpa using h
theorem GX {a b:Nat} (h: ¬a<b):Nat.blt a b=false:=by
 cases hb:Nat.blt a b
 ·rfl
 ·simp at hb;omega
theorem Qkk {α:Type}:∀(l:List (Nat×α)) (k j:Nat) (x y:α),k≠j->ins (ins l k x) j y=ins (ins l j y) k x
 |[],k,j,x,y,h=>by
  by_cases h1:j<k
  ·simp only[ins,Hi h1,ah,GX (show¬k<j by omega),an]
  ·simp only[ins,GX h1,an,Hi (show k<j by omega),ah]
 |(i,b)::l,k,j,x,y,h=>by
  by_cases h1:k<i<;>by_cases h2:j<i
  ·by_cases h3:j<k
   ·simp only[ins,Hi h1,Hi h2,Hi h3,GX (show¬k<j by omega),ah,an]
   ·simp only[ins,Hi h1,Hi h2,GX h3,Hi (show k<j by omega),ah,an]
  ·simp only[ins,Hi h1,GX h2,GX (show¬j<k by omega),ah,an]
  ·simp only[ins,GX h1,Hi h2,GX (show¬k<j by omega),ah,an]
  ·simp only[ins,GX h1,GX h2,an];rw[Qkk l k j x y h]
theorem SV {α:Type}:∀(l:List (Nat×α)) (k j:Nat) (x y:α),k≠j->upd (ins l k x) j y=ins (upd l j y) k x
 |[],k,j,x,y,h=>by simp only[ins,upd,JC h,an]
 |(i,b)::l,k,j,x,y,h=>by
  by_cases h1:k<i<;>by_cases h2:i=j
  ·subst h2;simp only[ins,upd,Hi h1,JC h,Nat.beq_refl,ah,an]
  ·simp only[ins,upd,Hi h1,JC h,JC h2,ah,an]
  ·subst h2;simp only[ins,upd,GX h1,Nat.beq_refl,ah,an]
  ·simp only[ins,upd,GX h1,JC h2,an];rw[SV l k j x y h]
theorem Lh {d:Option Tmp} {f:FuncId} {args:List TV} {bx bx':List (Nat×Box)} {aC:List (Nat×Row)} {v:TV} (h:Av (C:=C) d (.call f args) bx aC=some (v,bx')):
  bx'=bx/\∀(d2:Option Tmp) (bx2:List (Nat×Box)),Av (C:=C) d2 (.call f args) bx2 aC=some (v,bx2):=by
 simp only[Av]at h⊢;cases h1:C.spec f with
 |none=>rw[h1]at h;simp at h
 |some g=>
  rw[h1]at h;dsimp only at h⊢;cases h2:GM aC args with
  |none=>rw[h2]at h;simp at h
  |some l=>
   rw[h2]at h;dsimp only at h⊢;cases h3:g (TV×Mem) l ⟨[],[]⟩ (λv m=>some (v,m))with
   |none=>rw[h3]at h;simp at h
   |some q=>
    rw[h3]at h;obtain⟨u,⟨mb,mr⟩⟩:=q;cases mb with
    |cons _ _=>simp at h
    |nil=>
     cases mr with
     |cons _ _=>simp at h
     |nil=>
      dsimp only at h⊢;split at h
      ·rename_i hc;simp at h;obtain⟨rfl,rfl⟩:=h;refine⟨rfl,λ_ _=> ?_⟩;rw[aa hc]
      ·simp at h
theorem OG {d:Option Tmp} {g:Bool} {sz id idx sub:Nat} {bx bx1:List (Nat×Box)} {aC:List (Nat×Row)} {v:TV} (h:Av (C:=C) d (.rload g sz id idx sub) bx aC=some (v,bx1)):
  bx1=bx/\∀(d':Option Tmp) (b':List (Nat×Box)),Av (C:=C) d' (.rload g sz id idx sub) b' aC=some (v,b'):=by
 simp only[Av]at h⊢
 repeat' split at h
 all_goals first|(simp at h;done)|skip
 simp at h;obtain⟨rfl,rfl⟩:=h;exact⟨rfl,λ_ _=>rfl⟩
theorem Q3c {n k:Nat}:∀{l:List Nat},k∈Qy n l↔k=n\/k∈l
 |[]=>by simp[Qy]
 |m::l=>by
  simp only[Qy];cases hb:Nat.beq m n
  ·simp only[an,aq,Q3c (l:=l)];constructor
   ·rintro(h|h|h)<;>simp[h]
   ·rintro(h|h|h)<;>simp[h]
  ·have:=ac hb;subst this;simp only[ah,aq];constructor
   ·rintro(h|h)<;>simp[h]
   ·rintro(h|h|h)<;>simp[h]
theorem Quy {k:Nat}:∀{ns l:List Nat},k∈AX ns l↔k∈ns\/k∈l
 |[],l=>by simp[AX]
 |n::ns,l=>by
  simp only[AX,Quy (ns:=ns),Q3c,aq];constructor
  ·rintro(h|h|h)<;>simp[h]
  ·rintro((h|h)|h)<;>simp[h]
theorem Uc {α β:Type} {g:α->List β} {x:β}:∀{l:List α},x∈cat g l↔∃a∈l,x∈g a
 |[]=>by simp[cat]
 |a::l=>by simp[cat,Uc (l:=l)]
theorem SY {k:Nat}:∀{l:List AC},k∈AC.keys.keysL l->∃o,AC.ptr k o∈l
 |[],h=>by simp[AC.keys.keysL]at h
 |a::l,h=>by
  cases a
  case ptr j o=>
   simp only[AC.keys.keysL,aq]at h;rcases h with rfl|h
   ·exact⟨o,by simp⟩
   ·obtain⟨o',h'⟩:=SY h;exact⟨o',by simp[h']⟩
  all_goals
   simp only[AC.keys.keysL]at h;obtain⟨o',h'⟩:=SY h;exact⟨o',by simp[h']⟩
theorem Zbi {bx:List (Nat×Box)} {aC:List (Nat×Row)} {args:List TV} (h:∀v∈args,TV.wf bx aC v) {k:Nat} (hk:k∈AX (cat AC.keys (cat TV.cellsOf args)) []):∃b,Ac bx k=some b:=by
 simp only[Quy,List.not_mem_nil,or_false]at hk;obtain⟨a,ha,hka⟩:=Uc.1 hk;obtain⟨v,hv,hav⟩:=Uc.1 ha;have hw:=h v hv;have haw:AC.wf bx aC a:=by
  cases v with
  |dead=>simp[TV.cellsOf]at hav
  |v g cs=>exact hw a hav
  |tup ps=>
   simp only[TV.cellsOf]at hav;obtain⟨p,hp,hap⟩:=Uc.1 hav;exact hw p hp a hap
 cases a
 case ptr j o=>simp[AC.keys]at hka;subst hka;exact haw
 case bsl j o=>simp[AC.keys]at hka;subst hka;exact haw
 case clo f fs cs=>
  simp only[AC.keys,bj]at hka;rcases hka with hka|hka
  ·obtain⟨o,ho⟩:=SY hka;exact haw.1 _ ho
  ·obtain⟨o,ho⟩:=SY hka;exact haw.2 _ ho
 all_goals simp[AC.keys]at hka
theorem Q44 {bx bx':List (Nat×Box)} {rk ri:Nat->Nat}:∀(keys:List Nat) (b:Nat),(∀k∈keys,Ac bx' k=Ac bx k)->Du bx' rk ri b keys=Du bx rk ri b keys
 |[],_,_=>rfl
 |k::keys,b,h=>by
  simp only[Du];rw[h k (by simp),Q44 keys (b+1) λj hj=>h j (by simp[hj])]
theorem Qzl {α:Type} {p q:α->Bool}:∀{l:List α},(∀x∈l,p x=q x)->Ak p l=Ak q l
 |[],_=>rfl
 |a::l,h=>by simp only[Ak];rw[h a (by simp),Qzl (l:=l) λx hx=>h x (by simp[hx])]
theorem LX {keys:List Nat}:∀(m:List (Nat×Box)) (l:List (Nat×Box)) (n:Nat),(∀p∈m,n≠nth 0 keys (p.1-base))->Ac (Cw keys m l) n=Ac l n
 |[],_,_,_=>rfl
 |(j,c)::m,l,n,h=>by
  simp only[Cw];rw[LX m _ n λp hp=>h p (by simp[hp])];exact Dc _ _ _ _ (h (j,c) (by simp))
theorem Qcj {keys:List Nat}:∀(m:List (Nat×Box)) (l:List (Nat×Box)) (n:Nat) (x:Box),(∀p∈m,n≠nth 0 keys (p.1-base))->Cw keys m (upd l n x)=upd (Cw keys m l) n x
 |[],_,_,_,_=>rfl
 |(j,c)::m,l,n,x,h=>by
  simp only[Cw];rw[Qk9 _ _ _ _ _ (h (j,c) (by simp)),Qcj m _ n x λp hp=>h p (by simp[hp])]
theorem Zm {keys:List Nat}:∀(m:List (Nat×Box)) (l:List (Nat×Box)) (n:Nat) (x:Box),(∀p∈m,n≠nth 0 keys (p.1-base))->Cw keys m (ins l n x)=ins (Cw keys m l) n x
 |[],_,_,_,_=>rfl
 |(j,c)::m,l,n,x,h=>by
  simp only[Cw];rw[SV _ _ _ _ _ (h (j,c) (by simp)),Zm m _ n x λp hp=>h p (by simp[hp])]
theorem S1 {d:Option Tmp} {f:FuncId} {args:List TV} {bx bx1:List (Nat×Box)} {aC:List (Nat×Row)} {v:TV} (h:Av (C:=C) d (.callD f args) bx aC=some (v,bx1)):
  ∃mb',bx1=Cw (AX (cat AC.keys (cat TV.cellsOf args)) []) mb' bx/\(∀p∈mb',nth 0 (AX (cat AC.keys (cat TV.cellsOf args)) []) (p.1-base)∈AX (cat AC.keys (cat TV.cellsOf args)) [])/\v.plainB=true/\
   ∀(d':Option Tmp) (bx':List (Nat×Box)),(∀k∈AX (cat AC.keys (cat TV.cellsOf args)) [],Ac bx' k=Ac bx k)->Av (C:=C) d' (.callD f args) bx' aC=some (v,Cw (AX (cat AC.keys (cat TV.cellsOf args)) []) mb' bx'):=by
 simp only[Av]at h⊢;generalize AX (cat AC.keys (cat TV.cellsOf args)) []=keys at h⊢;cases h1:C.spec f with
 |none=>rw[h1]at h;simp at h
 |some g=>
  rw[h1]at h;dsimp only at h⊢;split at h
  ·rename_i hc;split at h
   ·rename_i mb hmb;split at h
    ·rename_i v' mb' hg;split at h
     ·rename_i hc2;simp only[ap,cm]at h;obtain⟨rfl,rfl⟩:=h;have hc2':=hc2;simp only[aj]at hc2';refine⟨mb',rfl,λp hp=> ?_,hc2'.2,λd' bx' hl=> ?_⟩
      ·obtain⟨b,hb⟩:=UE (Ax.1 hc2'.1.1.1.2 p hp);obtain⟨i,hi,e⟩:=(LI hmb).2 _ _ hb;rw[e,show base+i-base=i from by omega];exact Fv hi
      ·rw[Qzl (q:=λk=>Ak AC.calm (EE bx k)) (λk hk=>by unfold EE;rw[hl k hk]),Q44 keys base hl,hmb,aa hc];dsimp only;rw[hg];dsimp only;rw[aa hc2]
     ·simp at h
    ·simp at h
   ·simp at h
  ·simp at h
theorem Qk {keys:List Nat}:∀(m:List (Nat×Box)) (l:List (Nat×Box)) {n:Nat} {b:Box},Ac l n=some b->∃b',Ac (Cw keys m l) n=some b'
 |[],_,_,b,h=>⟨b,h⟩
 |(j,c)::m,l,n,b,h=>by
  simp only[Cw];by_cases e:n=nth 0 keys (j-base)
  ·subst e;exact Qk m _ (EG _ _ _ _ h)
  ·exact Qk m _ (b:=b) (by rw[Dc _ _ _ _ e];exact h)
theorem Zmx {d:Option Tmp} {f:FuncId} {args:List TV} {bx bx1:List (Nat×Box)} {aC:List (Nat×Row)} {v:TV} (h:Av (C:=C) d (.callD f args) bx aC=some (v,bx1)):
  ∀k∈AX (cat AC.keys (cat TV.cellsOf args)) [],∃b,Ac bx k=some b:=by
 simp only[Av]at h;generalize AX (cat AC.keys (cat TV.cellsOf args)) []=keys at h⊢;split at h
 ·split at h
  ·split at h
   ·rename_i mb hmb;intro k hk;obtain⟨x,q,_⟩:=(LI hmb).1 (pos keys k) (D9 hk).1;rw[(D9 hk).2]at q;exact⟨x,q⟩
   ·simp at h
  ·simp at h
 ·simp at h
theorem Qz0 {α:Type}:∀(l:List (Nat×α)) (k:Nat) (x:α),Ac l k=some x->upd l k x=l
 |[],_,_,_=>rfl
 |(j,b)::l,k,x,h=>by
  simp only[Ac,upd]at h⊢;cases hj:Nat.beq j k
  ·rw[hj]at h;simp only[an]at h⊢;rw[Qz0 l k x h]
  ·rw[hj]at h;simp only[ah,ap]at h⊢;rw[h,ac hj]
theorem Q6y {keys:List Nat} {bx:List (Nat×Box)} {rk ri:Nat->Nat}:∀(ks pre:List Nat) (mb:List (Nat×Box)),keys=pre++ks->Du bx rk ri (base+pre.length) ks=some mb->(∀k∈ks,Ak AC.calm (EE bx k)=true)->Cw keys mb bx=bx
 |[],_,mb,_,h,_=>by simp[Du]at h;subst h;rfl
 |k::ks,pre,mb,hk,h,hc=>by
  simp only[Du]at h;split at h
  ·rename_i x hx;split at h
   ·rename_i l hl;simp only[ap]at h;subst h;simp only[Cw];have hn:nth 0 keys (base+pre.length-base)=k:=by
     rw[show base+pre.length-base=pre.length from by omega,B3,hk];simp
    have hcx:=hc k (by simp);unfold EE at hcx;rw[hx]at hcx;rw[hn,Rl hcx,Qz0 bx k _ hx];exact Q6y (rk:=rk) (ri:=ri) ks (pre++[k]) l (by rw[hk];simp) (by rw[<-hl];simp[Nat.add_assoc]) (λj hj=>hc j (by simp[hj]))
   ·simp at h
  ·simp at h
theorem Ua (hspec:Ai P C) {d:Option Tmp} {f:FuncId} (hro:C.ro f=true) {args:List TV} {bx bx1:List (Nat×Box)} {aC:List (Nat×Row)} {v:TV} (h:Av (C:=C) d (.callD f args) bx aC=some (v,bx1)):bx1=bx:=by
 simp only[Av]at h;generalize AX (cat AC.keys (cat TV.cellsOf args)) []=keys at h;cases h1:C.spec f with
 |none=>rw[h1]at h;simp at h
 |some g=>
  rw[h1]at h;dsimp only at h;split at h
  ·rename_i hc;simp only[aj]at hc;split at h
   ·rename_i mb hmb;split at h
    ·rename_i v' mb' hg;split at h
     ·simp only[ap,cm]at h;have e:=hspec.2 f g h1 hro _ _ _ _ hg;simp only[Mem.mk.injEq,and_true]at e;rw[<-h.2,e];exact Q6y keys [] mb rfl (by simpa using hmb) (λk hk=>Ax.1 hc.1.2 k hk)
     ·simp at h
    ·simp at h
   ·simp at h
  ·simp at h
theorem Za1 (hspec:Ai P C) {di dj:Option Tmp} {pi pj:Prim} {bx bx1 bx2:List (Nat×Box)} {aC:List (Nat×Row)} {vi vj:TV} (hi:Av (C:=C) di pi bx aC=some (vi,bx1)) (hj:Av (C:=C) dj pj bx1 aC=some (vj,bx2))
  (hm:Prim.meet C.ro (some pi) (some pj)=false) (hd:∀t,di=some t->dj≠some t) (hwf:Prim.wf bx aC pj):
  ∃bx1',Av (C:=C) dj pj bx aC=some (vj,bx1')/\Av (C:=C) di pi bx1' aC=some (vi,bx2):=by
 have hne:∀{a b:Nat},Nat.beq a b=false->a≠b:=λh e=>by subst e;simp at h
 cases pi<;>simp only[Av]at hi<;>try (simp at hi;done)
 case val v=>simp at hi;obtain⟨rfl,rfl⟩:=hi;exact⟨bx2,hj,rfl⟩
 case newView e ks l=>simp at hi;obtain⟨rfl,rfl⟩:=hi;exact⟨bx2,hj,rfl⟩
 case rload g sz id idx sub=>
  obtain⟨rfl,hc⟩:=OG (C:=C) (d:=di) (by simpa only[Av]using hi);exact⟨bx2,hj,hc _ _⟩
 case callD f args=>
  obtain⟨mb',rfl,hin,_,hc⟩:=S1 (C:=C) (d:=di) (f:=f) (args:=args) (aC:=aC) (by simpa only[Av]using hi);have hself:=hc di bx λ_ _=>rfl;have hkeys:∀k∈AX (cat AC.keys (cat TV.cellsOf args)) [],∃b,Ac bx k=some b:=Zmx (C:=C) (d:=di) (f:=f) (v:=vi) (aC:=aC) (by simpa only[Av]using hself);cases pj<;>simp only[Av]at hj<;>try (simp at hj;done)
  case val v=>simp at hj;obtain⟨rfl,rfl⟩:=hj;exact⟨bx,rfl,hself⟩
  case newView e ks l=>simp at hj;obtain⟨rfl,rfl⟩:=hj;exact⟨bx,rfl,hself⟩
  case rload g sz id idx sub=>
   obtain⟨rfl,hcj⟩:=OG (C:=C) (d:=dj) (by simpa only[Av]using hj);exact⟨bx,hcj _ _,hself⟩
  case call f' args'=>
   obtain⟨rfl,hcj⟩:=Lh (d:=dj) hj;exact⟨bx,hcj _ _,hself⟩
  case load g sz k' o'=>
   cases hro:C.ro f
   case true=>
    have e1:=Ua hspec (d:=di) hro (aC:=aC) hself;rw[e1]at hj hself;have e2:bx2=bx:=by
     repeat' split at hj
     all_goals first|(simp at hj;done)|(simp at hj;exact hj.2.symm)
    subst e2;exact⟨bx2,by simp only[Av];exact hj,hself⟩
   have hk:k'∉AX (cat AC.keys (cat TV.cellsOf args)) []:=λe=>by
    have:=EZ.2 e;simp only[Prim.meet,hro,Bool.not_false,Bool.true_and]at hm;rw[hm]at this;cases this
   have hk2:∀p∈mb',k'≠nth 0 (AX (cat AC.keys (cat TV.cellsOf args)) []) (p.1-base):=λp hp e=>hk (by rw[e];exact hin p hp);rw[LX _ _ _ hk2]at hj;refine⟨bx,?_,?_⟩
   ·simp only[Av]
    repeat' split at hj
    all_goals first|(simp at hj;done)|skip
    rename_i q1 _ _ q2;simp at hj;obtain⟨rfl,_⟩:=hj;simp only[q1,q2]
   ·have:bx2=Cw (AX (cat AC.keys (cat TV.cellsOf args)) []) mb' bx:=by
     repeat' split at hj
     all_goals first|(simp at hj;done)|(simp at hj;exact hj.2.symm)
    rw[this];exact hself
  case store k' o' cs'=>
   have hk:k'∉AX (cat AC.keys (cat TV.cellsOf args)) []:=λe=>by
    have:=EZ.2 e;simp only[Prim.meet]at hm;rw[hm]at this;cases this
   have hk2:∀p∈mb',k'≠nth 0 (AX (cat AC.keys (cat TV.cellsOf args)) []) (p.1-base):=λp hp e=>hk (by rw[e];exact hin p hp);rw[LX _ _ _ hk2]at hj;cases h2:Ac bx k' with
   |none=>rw[h2]at hj;simp at hj
   |some b'=>
    rw[h2]at hj;dsimp only at hj;split at hj
    ·rename_i hle';simp at hj;obtain⟨rfl,rfl⟩:=hj;refine⟨upd bx k' ⟨b'.ty,splice b'.cells o' cs'⟩,by simp only[Av,h2,hle',if_true],?_⟩;rw[hc di _ λk hk'=>Dc _ _ _ _ (by rintro rfl;exact hk hk'),Qcj _ _ _ _ hk2]
    ·simp at hj
  case new ty cs'=>
   split at hj
   ·rename_i d;split at hj
    ·simp at hj
    ·rename_i hn;simp at hj;obtain⟨rfl,rfl⟩:=hj;have hk2:∀p∈mb',d≠nth 0 (AX (cat AC.keys (cat TV.cellsOf args)) []) (p.1-base):=λp hp e=>by
      have hthere:∃b,Ac bx d=some b:=hkeys d (by rw[e];exact hin p hp);obtain⟨b,hb⟩:=hthere;have:∃b',Ac (Cw (AX (cat AC.keys (cat TV.cellsOf args)) []) mb' bx) d=some b':=Qk _ _ hb;obtain⟨b',hb'⟩:=this;rw[hn]at hb';cases hb'
     have hkd:d∉AX (cat AC.keys (cat TV.cellsOf args)) []:=λe=>by
      obtain⟨b,hb⟩:=hkeys d e;obtain⟨b',hb'⟩:=Qk (keys:=AX (cat AC.keys (cat TV.cellsOf args)) []) mb' bx hb;rw[hn]at hb';cases hb'
     rw[LX _ _ _ hk2]at hn;refine⟨ins bx d ⟨ty,cs'⟩,by simp only[Av,hn],?_⟩;rw[hc di _ λk hk'=>DA _ _ _ _ (by rintro rfl;exact hkd hk'),Zm _ _ _ _ hk2]
   ·simp at hj
  case callD f' args'=>
   simp only[Prim.meet,Bool.not_eq_false',aj]at hm;have e1:=Ua hspec (d:=di) hm.1 (aC:=aC) hself;rw[e1]at hj hself;have e2:=Ua hspec (d:=dj) hm.2 (aC:=aC) (f:=f') (args:=args') (v:=vj) (bx1:=bx2) (by simpa only[Av]using hj);subst e2;exact⟨bx2,by simpa only[Av]using hj,hself⟩
 case call f args=>
  obtain⟨rfl,hc⟩:=Lh (d:=di) hi;exact⟨bx2,hj,hc _ _⟩
 case load g sz key off=>
  cases h1:Ac bx key with
  |none=>rw[h1]at hi;simp at hi
  |some b=>
   rw[h1]at hi;dsimp only at hi;cases h2:DE g sz b.cells off with
   |none=>rw[h2]at hi;simp at hi
   |some v=>
    rw[h2]at hi;simp at hi;obtain⟨rfl,rfl⟩:=hi;refine⟨bx2,hj,?_⟩;have hl:Ac bx2 key=some b:=by
     cases pj<;>simp only[Av]at hj<;>try (simp at hj;done)
     case val=>simp at hj;rw[<-hj.2];exact h1
     case newView=>simp at hj;rw[<-hj.2];exact h1
     case rload=>
      obtain⟨rfl,_⟩:=OG (C:=C) (d:=dj) (by simpa only[Av]using hj);exact h1
     case callD f args=>
      cases hro:C.ro f
      case true=>
       rw[Ua hspec (d:=dj) hro (aC:=aC) (args:=args) (v:=vj) (bx1:=bx2) (by simpa only[Av]using hj)];exact h1
      obtain⟨mb',rfl,hin,_,_⟩:=S1 (C:=C) (d:=dj) (f:=f) (args:=args) (aC:=aC) (by simpa only[Av]using hj);rw[LX _ _ _ λp hp e=>by
       have:=EZ.2 (hin p hp);rw[<-e]at this;simp only[Prim.meet,hro,Bool.not_false,Bool.true_and]at hm;rw[hm]at this;cases this]
      exact h1
     case call=>
      obtain⟨rfl,_⟩:=Lh (d:=dj) hj;exact h1
     case load=>
      repeat' split at hj
      all_goals first|(simp at hj;done)|(simp at hj;rw[<-hj.2];exact h1)
     case store k' o' cs'=>
      split at hj
      ·split at hj
       ·simp at hj;rw[<-hj.2,Dc _ _ _ _ (hne hm)];exact h1
       ·simp at hj
      ·simp at hj
     case new ty cs=>
      split at hj
      ·rename_i d;split at hj
       ·simp at hj
       ·rename_i hn;simp at hj;rw[<-hj.2,DA _ _ _ _ (by rintro rfl;rw[hn]at h1;simp at h1)];exact h1
      ·simp at hj
    simp only[Av,hl,h2]
 case store key off cs=>
  cases h1:Ac bx key with
  |none=>rw[h1]at hi;simp at hi
  |some b=>
   rw[h1]at hi;dsimp only at hi;split at hi
   ·rename_i hle;simp at hi;obtain⟨rfl,rfl⟩:=hi;cases pj<;>simp only[Av]at hj<;>try (simp at hj;done)
    case val v=>simp at hj;obtain⟨rfl,rfl⟩:=hj;exact⟨bx,rfl,by simp only[Av,h1,hle,if_true]⟩
    case newView e ks l=>simp at hj;obtain⟨rfl,rfl⟩:=hj;exact⟨bx,rfl,by simp only[Av,h1,hle,if_true]⟩
    case rload g sz id idx sub=>
     obtain⟨rfl,hc⟩:=OG (C:=C) (d:=dj) (by simpa only[Av]using hj);exact⟨bx,hc _ _,by simp only[Av,h1,hle,if_true]⟩
    case callD f args=>
     obtain⟨mb',rfl,hin,_,hc⟩:=S1 (C:=C) (d:=dj) (f:=f) (args:=args) (aC:=aC) (by simpa only[Av]using hj);have hk:key∉AX (cat AC.keys (cat TV.cellsOf args)) []:=λe=>by
      have:=EZ.2 e;simp only[Prim.meet]at hm;rw[hm]at this;cases this
     have hk2:∀p∈mb',key≠nth 0 (AX (cat AC.keys (cat TV.cellsOf args)) []) (p.1-base):=λp hp e=>hk (by rw[e];exact hin p hp);refine⟨_,hc dj bx λk hk'=>(Dc _ _ _ _ (by rintro rfl;exact hk hk')).symm,?_⟩;simp only[Av];rw[LX _ _ _ hk2,h1];simp only[hle,if_true];rw[Qcj _ _ _ _ hk2]
    case call f args=>
     obtain⟨rfl,hc⟩:=Lh (d:=dj) hj;exact⟨bx,hc _ _,by simp only[Av,h1,hle,if_true]⟩
    case load g sz k' o'=>
     have hk:=hne hm;rw[Dc _ _ _ _ (λe=>hk e.symm)]at hj;refine⟨bx,?_,?_⟩
     ·simp only[Av]
      repeat' split at hj
      all_goals first|(simp at hj;done)|skip
      rename_i q1 _ _ q2;simp at hj;obtain⟨rfl,_⟩:=hj;simp only[q1,q2]
     ·have:bx2=upd bx key ⟨b.ty,splice b.cells off cs⟩:=by
       repeat' split at hj
       all_goals first|(simp at hj;done)|(simp at hj;exact hj.2.symm)
      subst this;simp only[Av,h1,hle,if_true]
    case store k' o' cs'=>
     have hk:=hne hm;rw[Dc _ _ _ _ (λe=>hk e.symm)]at hj;cases h2:Ac bx k' with
     |none=>rw[h2]at hj;simp at hj
     |some b'=>
      rw[h2]at hj;dsimp only at hj;split at hj
      ·rename_i hle';simp at hj;obtain⟨rfl,rfl⟩:=hj;refine⟨upd bx k' ⟨b'.ty,splice b'.cells o' cs'⟩,by simp only[Av,h2,hle',if_true],?_⟩;simp only[Av];rw[Dc _ _ _ _ hk,h1];simp only[hle,if_true];rw[Qk9 _ _ _ _ _ hk]
      ·simp at hj
    case new ty cs'=>
     split at hj
     ·rename_i d;split at hj
      ·simp at hj
      ·rename_i hn;simp at hj;obtain⟨rfl,rfl⟩:=hj;have hkd:d≠key:=by
        rintro rfl;rw[EG _ _ _ _ h1]at hn;simp at hn
       rw[Dc _ _ _ _ hkd]at hn;refine⟨ins bx d ⟨ty,cs'⟩,by simp only[Av,hn],?_⟩;simp only[Av];rw[DA _ _ _ _ (λe=>hkd e.symm),h1];simp only[hle,if_true];rw[SV _ _ _ _ _ hkd]
     ·simp at hj
   ·simp at hi
 case new ty cs=>
  cases hdi:di with
  |none=>rw[hdi]at hi;simp at hi
  |some d=>
   rw[hdi]at hi;dsimp only at hi;cases h1:Ac bx d with
   |some _=>rw[h1]at hi;simp at hi
   |none=>
    rw[h1]at hi;simp at hi;obtain⟨rfl,rfl⟩:=hi;have hnew:∀bb,Ac bb d=none->Av (C:=C) (some d) (.new ty cs) bb aC=some (.c (.ptr d 0),ins bb d ⟨ty,cs⟩):=by
     intro bb hb;simp only[Av,hb]
    cases pj<;>simp only[Av]at hj<;>try (simp at hj;done)
    case val v=>simp at hj;obtain⟨rfl,rfl⟩:=hj;exact⟨bx,rfl,hnew bx h1⟩
    case newView e ks l=>simp at hj;obtain⟨rfl,rfl⟩:=hj;exact⟨bx,rfl,hnew bx h1⟩
    case rload g sz id idx sub=>
     obtain⟨rfl,hc⟩:=OG (C:=C) (d:=dj) (by simpa only[Av]using hj);exact⟨bx,hc _ _,hnew bx h1⟩
    case callD f args=>
     obtain⟨mb',rfl,hin,_,hc⟩:=S1 (C:=C) (d:=dj) (f:=f) (args:=args) (aC:=aC) (by simpa only[Av]using hj);have hk:d∉AX (cat AC.keys (cat TV.cellsOf args)) []:=λe=>by
      obtain⟨b,hb⟩:=Zbi hwf e;rw[h1]at hb;cases hb
     have hk2:∀p∈mb',d≠nth 0 (AX (cat AC.keys (cat TV.cellsOf args)) []) (p.1-base):=λp hp e=>hk (by rw[e];exact hin p hp);refine⟨_,hc dj bx λk hk'=>(DA _ _ _ _ (by rintro rfl;exact hk hk')).symm,?_⟩;rw[hnew _ (by rw[LX _ _ _ hk2];exact h1),Zm _ _ _ _ hk2]
    case call f args=>
     obtain⟨rfl,hc⟩:=Lh (d:=dj) hj;exact⟨bx,hc _ _,hnew bx h1⟩
    case load g sz k' o'=>
     obtain⟨b',hb'⟩:=hwf;have hk:k'≠d:=by rintro rfl;rw[h1]at hb';simp at hb'
     rw[DA _ _ _ _ hk]at hj;refine⟨bx,?_,?_⟩
     ·simp only[Av]
      repeat' split at hj
      all_goals first|(simp at hj;done)|skip
      rename_i q1 _ _ q2;simp at hj;obtain⟨rfl,_⟩:=hj;simp only[q1,q2]
     ·have:bx2=ins bx d ⟨ty,cs⟩:=by
       repeat' split at hj
       all_goals first|(simp at hj;done)|(simp at hj;exact hj.2.symm)
      subst this;exact hnew bx h1
    case store k' o' cs'=>
     obtain⟨⟨b',hb'⟩,_⟩:=hwf;have hk:k'≠d:=by rintro rfl;rw[h1]at hb';simp at hb'
     rw[DA _ _ _ _ hk,hb']at hj;dsimp only at hj;split at hj
     ·rename_i hle';simp at hj;obtain⟨rfl,rfl⟩:=hj;refine⟨upd bx k' ⟨b'.ty,splice b'.cells o' cs'⟩,by simp only[Av,hb',hle',if_true],?_⟩;rw[hnew _ (by rw[Dc _ _ _ _ (λe=>hk e.symm)];exact h1),SV _ _ _ _ _ (λe=>hk e.symm)]
     ·simp at hj
    case new ty' cs'=>
     cases hdj:dj with
     |none=>rw[hdj]at hj;simp at hj
     |some e=>
      rw[hdj]at hj;dsimp only at hj;have hde:d≠e:=by rintro rfl;exact hd d hdi hdj
      rw[DA _ _ _ _ (λq=>hde q.symm)]at hj;cases h2:Ac bx e with
      |some _=>rw[h2]at hj;simp at hj
      |none=>
       rw[h2]at hj;simp at hj;obtain⟨rfl,rfl⟩:=hj;refine⟨ins bx e ⟨ty',cs'⟩,by simp only[Av,h2],?_⟩;rw[hnew _ (by rw[DA _ _ _ _ hde];exact h1),Qkk _ _ _ _ _ hde]
end
open Go.RowKit
structure WFst (s : St) : Prop where
 t:∀v∈s.tmps,TV.wf s.aB s.aC v
 b:∀(k:Nat) (b:Box),Ac s.aB k=some b->∀a∈b.cells,AC.wf s.aB s.aC a
section
variable {P:Program} {C:Cfg} {w:World} {R:Type} {Z:Base}
theorem Z34 {d:Option Tmp} {f:FuncId} {args:List TV} {bx bx':List (Nat×Box)} {aC:List (Nat×Row)} {v:TV} (h:Av (C:=C) d (.call f args) bx aC=some (v,bx')):TV.wf bx' aC v:=by
 simp only[Av]at h;split at h
 ·split at h
  ·split at h
   ·split at h
    ·rename_i hc;simp at h;obtain⟨rfl,_⟩:=h;simp only[aj]at hc;exact Ko hc.2
    ·simp at h
   ·simp at h
  ·simp at h
 ·simp at h
theorem Qzg {bx:List (Nat×Box)} {aC:List (Nat×Row)}:∀(ks:List Kd) (cs:List AC) (j:Nat),∀c∈EL ks cs j,AC.wf bx aC c
 |[],_,_,c,hc=>by simp[EL]at hc
 |k::ks,cs,j,c,hc=>by
  simp only[EL,aq]at hc;rcases hc with rfl|hc
  ·cases k<;>try exact trivial
   generalize nth AC.dead cs j=b;cases b<;>exact trivial
  ·exact Qzg ks cs _ c hc
theorem Zaq {α:Type}:∀(l:List (Nat×α)) (k:Nat) (x:α),Ac l k=none->Ac (upd l k x) k=none
 |[],_,_,_=>rfl
 |(j,c)::l,k,x,h=>by
  simp only[Ac]at h;cases hb:Nat.beq j k<;>rw[hb]at h
  ·simp only[upd,hb,an,Ac];exact Zaq l k x h
  ·simp at h
theorem Qyu {keys:List Nat}:∀(m:List (Nat×Box)) (l:List (Nat×Box)) {n:Nat} {b:Box},Ac (Cw keys m l) n=some b->Ac l n=some b\/∃p∈m,p.2=b
 |[],_,_,_,h=> .inl h
 |(j,c)::m,l,n,b,h=>by
  simp only[Cw]at h;rcases Qyu m _ h with h|⟨p,hp,e⟩
  ·by_cases e:n=nth 0 keys (j-base)
   ·subst e;cases hl:Ac l (nth 0 keys (j-base))with
    |none=>rw[Zaq _ _ _ hl]at h;cases h
    |some y=>
     rw[EG _ _ _ _ hl]at h;simp at h;subst h;exact .inr ⟨(j,c),by simp,rfl⟩
   ·rw[Dc _ _ _ _ e]at h;exact .inl h
  ·exact .inr ⟨p,by simp[hp],e⟩
theorem Q4w {d:Option Tmp} {f:FuncId} {args:List TV} {bx bx1:List (Nat×Box)} {aC:List (Nat×Row)} {v:TV} (h:Av (C:=C) d (.callD f args) bx aC=some (v,bx1)):
  ∃mb',bx1=Cw (AX (cat AC.keys (cat TV.cellsOf args)) []) mb' bx/\True/\v.plainB=true/\∀p∈mb',Ak AC.calm p.2.cells=true:=by
 simp only[Av]at h;generalize AX (cat AC.keys (cat TV.cellsOf args)) []=keys at h⊢
 repeat' split at h
 all_goals first|(simp at h;done)|skip
 rename_i v' mb' _ hc2;simp only[ap,cm]at h;obtain⟨rfl,rfl⟩:=h;simp only[aj]at hc2;exact⟨mb',rfl,trivial,hc2.2,Ax.1 hc2.1.2⟩
theorem Znv {ops:List Oper} {o:Oper} {tm:List TV} {bx bx':List (Nat×Box)} {aC:List (Nat×Row)} {p:Option Prim} {v:TV} (hw:WFst ⟨tm,bx,aC⟩) (h:C_ P C ops o tm bx aC=some (p,v,bx')):
  WFst ⟨tm,bx',aC⟩/\TV.wf bx' aC v/\∀q,p=some q->Prim.wf bx aC q:=by
 unfold C_ at h;split at h
 ·cases hp:opK P C (AY tm) o.dst o.op some with
  |none=>rw[hp]at h;simp at h
  |some q=>
   rw[hp]at h;simp only[af]at h;have hq:=Qfe (pre:=false) (Qau (aB:=bx) (aC:=aC) (λx=>Qkx hw.t x) hp);clear hp;generalize q.dr false=q at h hq⊢;cases hm:Av (C:=C) o.dst q bx aC with
   |none=>rw[hm]at h;simp at h
   |some z=>
    rw[hm]at h;simp at h;obtain⟨rfl,rfl,rfl⟩:=h;have hres:∀{bx2:List (Nat×Box)},(∀a,AC.wf bx aC a->AC.wf bx2 aC a)->(∀(k:Nat) (b:Box),Ac bx2 k=some b->∀a∈b.cells,AC.wf bx aC a)->WFst ⟨tm,bx2,aC⟩:=
     λha hb=>⟨λv hv=>TV.wf_mono ha (hw.t v hv),λk b hk a hm=>ha a (hb k b hk a hm)⟩
    refine⟨?_,?_,λq' e=>by simp at e;subst e;exact hq⟩;all_goals
     cases q<;>simp only[Av]at hm<;>try (simp at hm;done)
    ·simp at hm;subst hm;exact hw
    ·repeat' split at hm
     all_goals first|(simp at hm;done)|(simp at hm;subst hm;exact hw)
    ·rename_i key off cs;split at hm
     ·rename_i b hb;split at hm
      ·simp at hm;subst hm;refine hres (λa => AC.wf_mono (λk bo hk' => by
        by_cases hkd:k=key
        ·subst hkd;exact⟨_,EG _ _ _ _ hb⟩
        ·exact⟨bo,by rw[Dc _ _ _ _ hkd];exact hk'⟩) (λk r hk=>⟨r,hk,rfl,rfl⟩)) ?_
       intro k bo hk a ha;by_cases hkd:k=key
       ·subst hkd;rw[EG _ _ _ _ hb]at hk;simp at hk;subst hk;rcases SK _ _ _ ha with ha|ha
        ·exact hw.b k b hb a ha
        ·exact hq.2 a ha
       ·rw[Dc _ _ _ _ hkd]at hk;exact hw.b k bo hk a ha
      ·simp at hm
     ·simp at hm
    ·rename_i ty cs;split at hm
     ·rename_i d hd;split at hm
      ·simp at hm
      ·rename_i hn;simp at hm;subst hm;refine hres (λa=>AC.wf_mono (λk bo hk'=>⟨bo,by rw[DA _ _ _ _ (by rintro rfl;rw[hn]at hk';simp at hk')];exact hk'⟩) (λk r hk=>⟨r,hk,rfl,rfl⟩)) ?_;intro k bo hk a ha;by_cases hkd:k=d
       ·subst hkd;rw[EJ _ _ _ hn]at hk;simp at hk;subst hk;exact hq a ha
       ·rw[DA _ _ _ _ hkd]at hk;exact hw.b k bo hk a ha
     ·simp at hm
    ·rename_i g sz id idx sub;obtain⟨z1,z2⟩:=z;obtain⟨rfl,_⟩:=OG (C:=C) (d:=o.dst) (by simpa only[Av]using hm);exact hw
    ·simp at hm;subst hm;exact hw
    ·obtain⟨rfl,_⟩:=Lh (d:=o.dst) hm;exact hw
    ·rename_i f args;obtain⟨z1,z2⟩:=z;obtain⟨mb',rfl,hin,_,hcal⟩:=Q4w (C:=C) (d:=o.dst) (f:=f) (args:=args) (aC:=aC) (by simpa only[Av]using hm);refine hres (λa=>AC.wf_mono (λk bo hk'=>Qk _ _ hk') (λk r hk=>⟨r,hk,rfl,rfl⟩)) ?_;intro k bo hk a ha;rcases Qyu _ _ hk with hk|⟨p,hp,rfl⟩
     ·exact hw.b k bo hk a ha
     ·exact Q1s (hcal p hp) a ha
    ·simp at hm;subst hm;exact hq
    ·split at hm
     ·rename_i b hb;split at hm
      ·rename_i v hv;simp at hm;subst hm;exact P3 hv (hw.b _ b hb)
      ·simp at hm
     ·simp at hm
    ·repeat' split at hm
     all_goals first|(simp at hm;done)|(simp at hm;subst hm;trivial)
    ·rename_i ty cs;split at hm
     ·rename_i d hd;split at hm
      ·simp at hm
      ·rename_i hn;simp at hm;subst hm;exact CH ⟨_,EJ _ _ _ hn⟩
     ·simp at hm
    ·split at hm
     ·rename_i r hr;split at hm
      ·rename_i v hv;simp at hm;subst hm;exact P3 hv λa ha=>Qzg r.ks _ 0 a ha
      ·simp at hm
     ·simp at hm
    ·simp at hm;subst hm;exact CH trivial
    ·rename_i f args;exact Z34 (d:=o.dst) hm
    ·rename_i f args;obtain⟨z1,z2⟩:=z;obtain⟨mb',_,_,hpl,_⟩:=Q4w (C:=C) (d:=o.dst) (f:=f) (args:=args) (aC:=aC) (by simpa only[Av]using hm);exact Ko hpl
 ·simp at h;obtain⟨rfl,rfl,rfl⟩:=h;exact⟨hw,λp hp=>by simp at hp,λq e=>by simp at e⟩
 ·simp at h
theorem Qgf {tm:List TV} {bx:List (Nat×Box)} {aC:List (Nat×Row)} {d:Option Tmp} {v:TV} (hw:WFst ⟨tm,bx,aC⟩) (hv:TV.wf bx aC v):WFst ⟨CR tm d v,bx,aC⟩:=by
 cases d with
 |none=>exact hw
 |some t=>
  refine⟨λu hu=> ?_,hw.b⟩;simp only[CR,H9]at hu;rcases List.mem_or_eq_of_mem_set hu with hu|rfl
  ·exact hw.t u hu
  ·exact hv
theorem Z27 {id:Nat} {bx:List (Nat×Box)} {k:Nat} {b:Box} (h:Ac (bx.map λp=>(p.1,p.2.kill id)) k=some b):∃b',Ac bx k=some b'/\b=b'.kill id:=by
 have:=F6 (Box.kill id) bx k;rw[this]at h;simp only[bm]at h;obtain⟨b',h1,rfl⟩:=h;exact⟨b',h1,rfl⟩
theorem Qea {bx:List (Nat×Box)} {aC rows':List (Nat×Row)} {id:Nat} (hr:∀j,j≠id->Ac rows' j=Ac aC j) {a:AC} (h:AC.wf bx aC a):AC.wf (bx.map λp=>(p.1,p.2.kill id)) rows' (a.kill id):=by
 have hb:∀k b,Ac bx k=some b->∃b',Ac (bx.map λp=>(p.1,p.2.kill id)) k=some b':=λk b hk=>⟨b.kill id,by have:=F6 (Box.kill id) bx k;rw[this,hk];rfl⟩;have hp:∀c,AC.wfP bx c->AC.wfP (bx.map λp=>(p.1,p.2.kill id)) c:=by
  intro c hc;cases c<;>try exact trivial
  obtain⟨b,hb'⟩:=hc;exact hb _ _ hb'
 cases a<;>try exact trivial
 case ptr k o=>
  obtain⟨b,hb'⟩:=h;exact hb _ _ hb'
 case bsl k o=>
  obtain⟨b,hb'⟩:=h;exact hb _ _ hb'
 case own j w n=>
  simp only[AC.kill];cases hj:Nat.beq j id
  ·obtain⟨r,h1,h2⟩:=h;exact⟨r,by rw[hr j (Hq hj)];exact h1,h2⟩
  ·exact trivial
 case rptr j a b=>
  simp only[AC.kill];cases hj:Nat.beq j id
  ·obtain⟨r,h1,h2⟩:=h;exact⟨r,by rw[hr j (Hq hj)];exact h1,h2⟩
  ·exact trivial
 case vptr cs sub=>exact h
 case clo f fs cs=>exact⟨λc hc=>hp c (h.1 c hc),λc hc=>hp c (h.2 c hc)⟩
theorem Z4l {dst:Option Tmp} {aC rows':List (Nat×Row)} {p:Prim} {id:Nat} {v:TV} (h1:Ke dst p=some id) (h2:JO dst aC p=some (v,rows')):(∀j,j≠id->Ac rows' j=Ac aC j)/\TV.wf [] rows' v:=by
 cases p<;>simp[Ke]at h1
 rename_i e ks bytes sv x;cases sv<;>simp at h1
 case nilSl=>
  subst h1;simp only[JO,Vt]at h2
  repeat' split at h2
  all_goals first|(simp at h2;done)|skip
  rename_i hn _ _;simp only[ap,cm]at h2;obtain⟨rfl,rfl⟩:=h2;refine⟨λj hj=>DA _ _ _ _ hj,CH ?_⟩;exact⟨_,EJ _ _ _ hn,rfl,rfl⟩
 rename_i id' w n;subst h1;simp only[JO,ZH]at h2
 repeat' split at h2
 all_goals first|(simp at h2;done)|skip
 rename_i r hr _ _;simp only[ap,cm]at h2;obtain⟨rfl,rfl⟩:=h2;refine⟨λj hj=>Dc _ _ _ _ hj,CH ?_⟩;exact⟨_,EG _ _ _ _ hr,rfl,rfl⟩
theorem Qw4 {aC rows':List (Nat×Row)}:∀{args:List TV},Ak TV.plainB args=true->GM aC args=GM rows' args
 |[],_=>rfl
 |a::l,h=>by
  simp only[Ak]at h;have h1:a.plainB=true/\Ak TV.plainB l=true:=by cases ha:a.plainB<;>rw[ha]at h<;>simp at h;exact⟨rfl,h⟩
  have e:a.res aC=a.res rows':=by
   cases a with
   |dead=>rfl
   |tup ps=>rfl
   |v g cs=>
    simp only[TV.res];have:Fs aC cs=Fs rows' cs:=by
     have h2:=h1.1;simp only[TV.plainB]at h2;clear h h1;induction cs with
     |nil=>rfl
     |cons c cs ih=>
      simp only[Ak]at h2;have h3:c.plain=true/\Ak AC.plain cs=true:=by cases hc:c.plain<;>rw[hc]at h2<;>simp at h2;exact⟨rfl,h2⟩
      simp only[Fs];rw[ih h3.2];have:c.res aC=c.res rows':=by
       have:=h3.1;cases c<;>simp[AC.plain]at this<;>rfl
      rw[this]
    rw[this]
  simp only[GM];rw[e,Qw4 h1.2]
theorem Ze8 {dst:Option Tmp} {aC rows':List (Nat×Row)} {p:Prim} {v:TV} (h:mkD (C:=C) dst p aC=some (v,rows')):(∀j r,Ac aC j=some r->Ac rows' j=some r)/\TV.wf [] rows' v:=by
 unfold mkD at h;cases hg:mkG (C:=C) dst p with
 |none=>rw[hg]at h;simp at h
 |some q=>
  obtain⟨v',o⟩:=q;rw[hg]at h;cases o with
  |none=>
   simp only[ap,cm]at h;obtain⟨rfl,rfl⟩:=h;refine⟨λ_ _ h=>h,?_⟩;unfold mkG at hg;split at hg
   ·split at hg<;>simp at hg
   ·split at hg
    ·split at hg
     ·split at hg
      ·split at hg
       ·rename_i hp;simp only[ap,cm]at hg;rw[<-hg.1];exact Ko hp
       ·simp at hg
      ·split at hg<;>simp at hg
      ·simp at hg
     ·simp at hg
    ·simp at hg
   ·simp at hg
  |some kr=>
   obtain⟨k,r⟩:=kr;dsimp only at h;split at h
   ·simp at h
   ·rename_i hn;simp only[ap,cm]at h;obtain⟨rfl,rfl⟩:=h;refine⟨λj r' hj=>by rw[DA _ _ _ _ (by rintro rfl;rw[hn]at hj;cases hj)];exact hj,?_⟩;unfold mkG at hg;split at hg
    ·split at hg
     ·simp only[ap,cm]at hg;obtain⟨rfl,rfl,rfl⟩:=hg;exact CH ⟨_,EJ _ _ _ hn,rfl,rfl⟩
     ·simp at hg
    ·split at hg
     ·split at hg
      ·split at hg
       ·split at hg<;>simp at hg
       ·split at hg
        ·simp only[ap,cm]at hg;obtain⟨rfl,rfl,rfl⟩:=hg;exact CH ⟨_,EJ _ _ _ hn,rfl,rfl⟩
        ·simp at hg
       ·simp at hg
      ·simp at hg
     ·simp at hg
    ·simp at hg
theorem Z1p {ops:List Oper} {o:Oper} {s s':St} {p:Option Prim} (hw:WFst s) (h:B_ (P:=P) (C:=C) ops o s=some (p,s')):WFst s':=by
 obtain⟨tm,bx,aC⟩:=s;cases hn:Prim.isApp p
 ·cases hnm:Prim.isMk p
  case true=>
   obtain⟨_,q,v,rows',_,rfl,h4,rfl⟩:=TZ h hnm;obtain⟨hr,hv⟩:=Ze8 h4;have ha:∀a,AC.wf bx aC a->AC.wf bx rows' a:=λa=>AC.wf_mono (λk b hk=>⟨b,hk⟩) (λk r hk=>⟨r,hr k r hk,rfl,rfl⟩);exact Qgf ⟨λu hu=>TV.wf_mono ha (hw.t u hu),λk b hk a hm=>ha a (hw.b k b hk a hm)⟩ (TV.wf_mono (λa ha=>AC.wf_mono (aB:=[]) (aC:=rows') (λk b hk=>by simp[Ac]at hk) (λk r hk=>⟨r,hk,rfl,rfl⟩) ha) hv)
  obtain⟨v,bx',hc,rfl⟩:=LS h hn hnm;obtain⟨h1,h2,_⟩:=Znv hw hc;exact Qgf h1 h2
 ·obtain⟨_,q,id,v,rows',_,rfl,h3,h4,rfl⟩:=Qic h hn;obtain⟨hr,hv⟩:=Z4l h3 h4;refine Qgf ⟨λu hu=> ?_,λk b hk a ha=> ?_⟩ (TV.wf_mono (λa ha=>AC.wf_mono (aB:=[]) (aC:=rows') (λk b hk=>by simp[Ac]at hk) (λk r hk=>⟨r,hk,rfl,rfl⟩) ha) hv)
  ·simp only[ba]at hu;obtain⟨u,hu,rfl⟩:=hu;have:=hw.t u hu;cases u with
   |dead=>trivial
   |v g cs=>
    intro a ha;simp only[ba]at ha;obtain⟨c,hc,rfl⟩:=ha;exact Qea hr (this c hc)
   |tup ps=>
    intro p hp a ha;simp only[ba]at hp;obtain⟨q,hq,rfl⟩:=hp;simp only[ba]at ha;obtain⟨c,hc,rfl⟩:=ha;exact Qea hr (this q hq c hc)
  ·obtain⟨b',hb',rfl⟩:=Z27 hk;simp only[Box.kill,ba]at ha;obtain⟨c,hc,rfl⟩:=ha;exact Qea hr (hw.b k b' hb' c hc)
theorem Q9n {o:Op} {p:Option Prim} (h:Prim.still o p=true):Prim.isMk p=false:=by
 cases p with
 |none=>rfl
 |some q=>cases q<;>first|rfl|(cases o<;>simp[Prim.still,Prim.isLive,Prim.isPtr]at h)
theorem Zhr {d:Option Tmp} {p:Prim} {bx bx':List (Nat×Box)} {aC:List (Nat×Row)} {v:TV} (hs:Prim.mkStill (some p)=true) (h:Av (C:=C) d p bx aC=some (v,bx')):
  bx'=bx/\∀rows',Av (C:=C) d p bx rows'=some (v,bx):=by
 cases p<;>simp[Prim.mkStill]at hs
 case val u=>simp only[Av,ap,cm]at h⊢;obtain⟨rfl,rfl⟩:=h;exact⟨rfl,λ_=>by simp⟩
 case newView e ks l=>simp only[Av,ap,cm]at h⊢;obtain⟨rfl,rfl⟩:=h;exact⟨rfl,λ_=>by simp⟩
 case load g sz key off=>
  simp only[Av]at h⊢
  repeat' split at h
  all_goals first|(simp at h;done)|skip
  simp at h;obtain⟨rfl,rfl⟩:=h;exact⟨rfl,λ_=>rfl⟩
 case call f args=>
  obtain⟨rfl,_⟩:=Lh h;refine⟨rfl,λrows'=> ?_⟩;simp only[Av]at h⊢;rw[Qw4 (aC:=rows') (rows':=aC) hs];exact h
 case newRow e ks l=>simp[Av]at h
 case callF f args=>simp[Av]at h
theorem Q5e {ops:List Oper} {o:Oper} {tm:List TV} {bx bx':List (Nat×Box)} {aC:List (Nat×Row)} {p:Option Prim} {v:TV} (hs:Prim.mkStill p=true) (h:C_ P C ops o tm bx aC=some (p,v,bx')):
  bx'=bx/\∀rows',C_ P C ops o tm bx rows'=some (p,v,bx):=by
 unfold C_ at h⊢;split at h
 ·cases hp:opK P C (AY tm) o.dst o.op some with
  |none=>rw[hp]at h;simp at h
  |some q=>
   rw[hp]at h;simp only[af]at h⊢;cases hm:Av (C:=C) o.dst (q.dr false) bx aC with
   |none=>rw[hm]at h;simp at h
   |some z=>
    rw[hm]at h;simp at h;obtain⟨rfl,rfl,rfl⟩:=h;obtain⟨e1,e2⟩:=Zhr hs hm;refine⟨e1,λrows'=> ?_⟩;rw[e2 rows'];rfl
 ·simp at h;obtain⟨rfl,rfl,rfl⟩:=h;exact⟨rfl,λ_=>rfl⟩
 ·simp at h
theorem Zzn {di dj:Option Tmp} {pi pj:Prim} {aC rows1 rows2:List (Nat×Row)} {vi vj:TV} (hi:mkD (C:=C) di pi aC=some (vi,rows1)) (hj:mkD (C:=C) dj pj rows1=some (vj,rows2)):
  ∃rows1',mkD (C:=C) dj pj aC=some (vj,rows1')/\mkD (C:=C) di pi rows1'=some (vi,rows2):=by
 unfold mkD at*;cases hgi:mkG (C:=C) di pi with
 |none=>rw[hgi]at hi;simp at hi
 |some qi=>
  obtain⟨v1,o1⟩:=qi;rw[hgi]at hi;cases hgj:mkG (C:=C) dj pj with
  |none=>rw[hgj]at hj;simp at hj
  |some qj=>
   obtain⟨v2,o2⟩:=qj;rw[hgj]at hj;cases o1 with
   |none=>
    simp only[ap,cm]at hi;obtain⟨rfl,rfl⟩:=hi;exact⟨rows2,hj,rfl⟩
   |some k1=>
    obtain⟨k,r⟩:=k1;dsimp only at hi;split at hi
    ·simp at hi
    rename_i hn;simp only[ap,cm]at hi;obtain⟨rfl,rfl⟩:=hi;cases o2 with
    |none=>
     simp only[ap,cm]at hj;obtain⟨rfl,rfl⟩:=hj;refine⟨aC,rfl,?_⟩;dsimp only;rw[hn]
    |some k2=>
     obtain⟨k',r'⟩:=k2;dsimp only at hj;split at hj
     ·simp at hj
     rename_i hn';simp only[ap,cm]at hj;obtain⟨rfl,rfl⟩:=hj;have hne:k'≠k:=by
      rintro rfl;rw[EJ _ _ _ hn]at hn';cases hn'
     rw[DA _ _ _ _ hne]at hn';refine⟨ins aC k' r',by dsimp only;rw[hn'],?_⟩;dsimp only;rw[DA _ _ _ _ (λe=>hne e.symm),hn];dsimp only;rw[Qkk _ _ _ _ _ hne]
theorem Znp (hspec:Ai P C) {ops:Array Oper} {x y:Oper} {s s1 s2:St} {px py:Option Prim} (hw:WFst s) (hy:B_ (P:=P) (C:=C) ops.toList y s=some (py,s1)) (hx:B_ (P:=P) (C:=C) ops.toList x s1=some (px,s2))
  (hap:Oper.apart ops y x=true) (hm:Prim.meet C.ro py px=false) (hao:IE y py x px=true):∃s1',B_ (P:=P) (C:=C) ops.toList x s=some (px,s1')/\B_ (P:=P) (C:=C) ops.toList y s1'=some (py,s2):=by
 obtain⟨a1,a2,a3⟩:=Oper.apart_spec hap;obtain⟨tm,bx,aC⟩:=s;have hwant:∀(o:Oper) (tm:List TV),o.guard.isNone=true->BV ops.toList o tm=some true:=by
  intro o tm h;unfold BV;rw[Option.isNone_iff_eq_none.1 h]
 have hopk:∀(o:Oper) (tm:List TV) (d:Option Tmp) (v:TV),(∀t,d=some t->t∉o.looksAt ops)->opK P C (AY (CR tm d v)) o.dst o.op some=opK P C (AY tm) o.dst o.op some:=by
  intro o tm d v h;cases d with
  |none=>rfl
  |some t=>
   exact TN (λx hx => Q09 (by
    rintro rfl;exact h t rfl (List.mem_append_left _ (List.mem_filterMap.2 ⟨.tmp t,by simpa using hx,rfl⟩)))) some
 cases hny:Prim.isApp py
 case true=>
  unfold IE at hao;rw[hny]at hao;simp only[ah,aj]at hao;obtain⟨⟨⟨o1,o2⟩,o3⟩,o4⟩:=hao;have hnx:Prim.isApp px=false:=by simpa using o1
  obtain⟨_,q,id,vy,rows',hq,rfl,h3,h4,rfl⟩:=Qic hy hny;obtain⟨vx,bx2,hcx,rfl⟩:=LS hx hnx (Q9n o4);unfold C_ at hcx;rw[hwant x _ o3]at hcx;dsimp only at hcx;rw[hopk x _ _ _ (λt ht=>a1 t ht)]at hcx;cases hpx:opK P C (AY (tm.map (TV.kill id))) x.dst x.op some with
  |none=>rw[hpx]at hcx;simp at hcx
  |some qx=>
   rw[hpx]at hcx;simp only[af]at hcx;cases hmx:Av (C:=C) x.dst (qx.dr false) (bx.map λp=>(p.1,p.2.kill id)) rows' with
   |none=>rw[hmx]at hcx;simp at hcx
   |some zx=>
    rw[hmx]at hcx;simp at hcx;obtain⟨rfl,rfl,rfl⟩:=hcx;obtain⟨g,cs,rfl,hl⟩:=Q7u o4;simp only[Prim.dr,Av,ap]at hmx;subst hmx;have hpx2:=(Q18 (P:=P) (C:=C) (id:=id) (tm:=tm) (dst:=x.dst) o4).1 hpx;refine⟨⟨CR tm x.dst (.v g cs),bx,aC⟩,Pm (by unfold C_;rw[hwant x _ o3];dsimp only;rw[hpx2];rfl),?_⟩;rw[Qvs (hwant y _ o2) (by rw[hopk y _ _ _ (λt ht=>a3 t ht)];exact hq) h3 h4 hny,Q5f hl];dsimp only;rw[NC vy _ a2]
 case false=>
 cases hnx:Prim.isApp px
 case true=>
  unfold IE at hao;rw[hny,hnx]at hao;simp only[ah,an,aj]at hao;obtain⟨⟨o2,o3⟩,o4⟩:=hao;obtain⟨vy,bx1,hcy,rfl⟩:=LS hy hny (Q9n o4);obtain⟨_,q,id,vx,rows',hq,rfl,h3,h4,rfl⟩:=Qic hx hnx;rw[hopk x _ _ _ (λt ht=>a1 t ht)]at hq;unfold C_ at hcy;rw[hwant y _ o2]at hcy;dsimp only at hcy;cases hpy:opK P C (AY tm) y.dst y.op some with
  |none=>rw[hpy]at hcy;simp at hcy
  |some qy=>
   rw[hpy]at hcy;simp only[af]at hcy;cases hmy:Av (C:=C) y.dst (qy.dr false) bx aC with
   |none=>rw[hmy]at hcy;simp at hcy
   |some zy=>
    rw[hmy]at hcy;simp at hcy;obtain⟨rfl,rfl,rfl⟩:=hcy;obtain⟨g,cs,rfl,hl⟩:=Q7u o4;simp only[Prim.dr,Av,ap]at hmy;subst hmy;have hpy2:=(Q18 (P:=P) (C:=C) (id:=id) (tm:=tm) (dst:=y.dst) o4).2 hpy;refine⟨_,Qvs (hwant x _ o3) hq h3 h4 hnx,?_⟩;rw[Pm (p:=some (.val (.v g cs))) (v:= .v g cs) (by unfold C_;rw[hwant y _ o2];dsimp only;rw[hopk y _ _ _ (λt ht=>a3 t ht),hpy2];rfl)];dsimp only[Prim.dr];rw[Q5f hl,NC vx _ (λt ht e=>a2 t e ht)]
 case false=>
   unfold IE at hao;rw[hny,hnx]at hao;simp only[an]at hao;cases hmky:Prim.isMk py
   case true=>
    rw[hmky]at hao;simp only[ah]at hao;obtain⟨hwy,qy,vy,rows1,hqy,rfl,hmy,rfl⟩:=TZ hy hmky;cases hmkx:Prim.isMk px
    case true=>
     obtain⟨hwx,qx,vx,rows2,hqx,rfl,hmx,rfl⟩:=TZ hx hmkx;rw[Rv (λt ht=>a1 t ht)]at hwx;rw[hopk x _ _ _ (λt ht=>a1 t ht)]at hqx;obtain⟨rows1',m1,m2⟩:=Zzn hmy hmx;refine⟨_,Sg hwx hqx m1 hmkx,?_⟩;rw[Sg (by rw[Rv (λt ht=>a3 t ht)];exact hwy) (by rw[hopk y _ _ _ (λt ht=>a3 t ht)];exact hqy) m2 hmky,NC vy vx a2]
    case false=>
     obtain⟨vx,bx2,hcx,rfl⟩:=LS hx hnx hmkx;rw[Tt (λt ht=>a1 t ht)]at hcx;obtain⟨rfl,hc2⟩:=Q5e hao hcx;refine⟨_,Pm (hc2 aC),?_⟩;rw[Sg (by rw[Rv (λt ht=>a3 t ht)];exact hwy) (by rw[hopk y _ _ _ (λt ht=>a3 t ht)];exact hqy) hmy hmky,NC vy vx a2]
   case false=>
   rw[hmky]at hao;simp only[an]at hao;cases hmkx:Prim.isMk px
   case true=>
    rw[hmkx]at hao;simp only[ah]at hao;obtain⟨vy,bx1,hcy,rfl⟩:=LS hy hny hmky;obtain⟨rfl,hc2⟩:=Q5e hao hcy;obtain⟨hwx,qx,vx,rows2,hqx,rfl,hmx,rfl⟩:=TZ hx hmkx;rw[Rv (λt ht=>a1 t ht)]at hwx;rw[hopk x _ _ _ (λt ht=>a1 t ht)]at hqx;refine⟨_,Sg hwx hqx hmx hmkx,?_⟩;rw[Pm (by rw[Tt (λt ht=>a3 t ht)];exact hc2 rows2),NC vy vx a2]
   case false=>
   obtain⟨vy,bx1,hcy,rfl⟩:=LS hy hny hmky;obtain⟨vx,bx2,hcx,rfl⟩:=LS hx hnx hmkx;rw[Tt (λt ht=>a1 t ht)]at hcx;have key:∃bx1',C_ P C ops.toList x tm bx aC=some (px,vx,bx1')/\C_ P C ops.toList y tm bx1' aC=some (py,vy,bx2):=by
    unfold C_ at hcy hcx⊢;split at hcy
    ·rename_i hwy;cases hpy:opK P C (AY tm) y.dst y.op some with
     |none=>rw[hpy]at hcy;simp at hcy
     |some qy=>
      rw[hpy]at hcy;simp only[af]at hcy;cases hmy:Av (C:=C) y.dst (qy.dr false) bx aC with
      |none=>rw[hmy]at hcy;simp at hcy
      |some zy=>
       rw[hmy]at hcy;simp at hcy;obtain⟨rfl,rfl,rfl⟩:=hcy;split at hcx
       ·rename_i hwx;cases hpx:opK P C (AY tm) x.dst x.op some with
        |none=>rw[hpx]at hcx;simp at hcx
        |some qx=>
         rw[hpx]at hcx;simp only[af]at hcx;cases hmx:Av (C:=C) x.dst (qx.dr false) zy.2 aC with
         |none=>rw[hmx]at hcx;simp at hcx
         |some zx=>
          rw[hmx]at hcx;simp at hcx;obtain⟨rfl,rfl,rfl⟩:=hcx;obtain⟨bx1',m1,m2⟩:=Za1 hspec hmy hmx hm a2 (Qfe (Qau (λx=>Qkx hw.t x) hpx));exact⟨bx1',by simp[m1],by simp[m2]⟩
       ·rename_i hwx;simp at hcx;obtain⟨rfl,rfl,rfl⟩:=hcx;exact⟨bx,rfl,by simp[hmy]⟩
       ·simp at hcx
    ·rename_i hwy;simp at hcy;obtain⟨rfl,rfl,rfl⟩:=hcy;exact⟨bx2,hcx,rfl⟩
    ·simp at hcy
   obtain⟨bx1',k1,k2⟩:=key;refine⟨⟨CR tm x.dst vx,bx1',aC⟩,Pm k1,?_⟩;rw[Pm (by rw[Tt (λt ht=>a3 t ht)];exact k2),NC vy vx a2]
theorem Q5v (hspec:Ai P C) {ops:Array Oper} {m:List Nat} {x:Nat×Oper×Option Prim} {post:List (Nat×Oper×Option Prim)} {sf:St}:∀(pre:List (Nat×Oper×Option Prim)) (s:St),WFst s->Qo P C ops.toList m (pre++x::post) s sf->
  (∀y∈pre,Da ops.toList m x.1=false/\Da ops.toList m y.1=false/\Oper.apart ops y.2.1 x.2.1=true/\Prim.meet C.ro y.2.2 x.2.2=false/\IE y.2.1 y.2.2 x.2.1 x.2.2=true)->
  ∃s1,IC P C ops.toList m x.1 x.2.1 s=some (x.2.2,s1)/\Qo P C ops.toList m (pre++post) s1 sf
 |[],s,hw,h,_=>by
  obtain⟨i,o,p⟩:=x;exact h
 |(j,oy,py)::pre,s,hw,h,hy=>by
  obtain⟨s',h1,h2⟩:=h;obtain⟨w1,w2,q1,q2,q3⟩:=hy (j,oy,py) (by simp);have h1':=h1;unfold IC at h1;rw[ab (by dsimp only at w2;rw[w2];simp)]at h1;obtain⟨s2,h3,h4⟩:=Q5v hspec pre s' (Z1p hw h1) h2 λy hym=>hy y (by simp[hym]);unfold IC at h3;rw[ab (by rw[w1];simp)]at h3;obtain⟨s1,h5,h6⟩:=Znp hspec hw h1 h3 q1 q2 q3;refine⟨s1,by unfold IC;rw[ab (by rw[w1];simp)];exact h5,s2,?_,h4⟩;unfold IC;rw[ab (by dsimp only at w2;rw[w2];simp)];exact h6
inductive Before (ops : List Oper) : Nat -> Nat -> Prop where
 |one {i:Nat} {o:Oper} {e:Edge} (h:ops[i]? =some o) (he:e∈o.after.toList) (hb:Region.binds .any e=true):Before ops i e.on
 |more {i j:Nat} {o:Oper} {e:Edge} (h:ops[i]? =some o) (he:e∈o.after.toList) (hb:Region.binds .any e=true) (h':Before ops e.on j):Before ops i j
theorem VW {m:List Nat} {j:Nat}:∀(l:List Edge) (acc:Nat),Nat.testBit (S5 m l acc) j=true->Nat.testBit acc j=true\/∃e∈l,Region.binds .any e=true/\(e.on=j\/Nat.testBit (nth 0 m e.on) j=true)
 |[],acc,h=> .inl h
 |e::l,acc,h=>by
  simp only[S5]at h;cases hb:Region.binds .any e<;>rw[hb]at h
  ·rcases VW l _ h with h|⟨e',he,h'⟩
   ·exact .inl h
   ·exact .inr ⟨e',by simp[he],h'⟩
  ·rcases VW l _ h with h|⟨e',he,h'⟩
   ·simp only[ah]at h;have:Nat.testBit (acc|||(2^e.on|||nth 0 m e.on)) j=true:=h;rw[Nat.testBit_or,Nat.testBit_or]at this;rw[Bool.or_eq_true,Bool.or_eq_true]at this;rcases this with h|h|h
    ·exact .inl h
    ·refine .inr ⟨e,by simp,hb, .inl ?_⟩;rw[Nat.testBit_two_pow]at h;simpa using h
    ·exact .inr ⟨e,by simp,hb, .inr h⟩
   ·exact .inr ⟨e',by simp[he],h'⟩
theorem Zsv {α:Type} (n:Nat) (K:Nat->α):Q2m n K=K n:=by cases n<;>rfl
theorem Qtj {α:Type} (d:α):∀(l l':List α) (i:Nat),i<l.length->nth d (l++l') i=nth d l i
 |x::l,l',0,_=>rfl
 |x::l,l',i+1,h=>Qtj d l l' i (by simpa using h)
theorem Q6r {α:Type} (d x:α):∀(l:List α),nth d (l++[x]) l.length=x
 |[]=>rfl
 |y::l=>Q6r d x l
theorem V5 {α:Type} (d:α):∀(l:List α) (i:Nat),l.length<=i->nth d l i=d
 |[],_,_=>rfl
 |x::l,0,h=>by simp at h
 |x::l,i+1,h=>V5 d l i (by simpa using h)
theorem Qrp {ops:List Oper} {K:List Nat->Option R} {r:R}:∀(l pre:List Oper) (m:List Nat),ops=pre++l->m.length=pre.length->(∀i j,i<m.length->Nat.testBit (nth 0 m i) j=true->Before ops i j)->R2 l m K=some r->
  ∃m',K m'=some r/\∀i j,L8 m' i j=true->Before ops i j
 |[],pre,m,he,hl,hm,h=>⟨m,h,λi j hij=>by
   by_cases hi:i<m.length
   ·exact hm i j hi hij
   ·unfold L8 at hij;rw[V5 0 m i (by omega)]at hij;simp at hij⟩
 |o::l,pre,m,he,hl,hm,h=>by
  simp only[R2,Zsv,Ba]at h;refine Qrp l (pre++[o]) _ (by simp[he]) (by simp[hl]) (λi j hi hij=> ?_) h;by_cases hi':i<m.length
  ·rw[Qtj 0 m _ i hi']at hij;exact hm i j hi' hij
  ·have hie:i=m.length:=by simp at hi;omega
   subst hie;rw[Q6r]at hij;have hoi:ops[m.length]? =some o:=by rw[he,hl];simp
   rcases VW _ _ hij with h0|⟨e,hel,hb,h0⟩
   ·simp at h0
   ·rcases h0 with h0|h0
    ·rw[<-h0];exact .one hoi hel hb
    ·by_cases hlt:e.on<m.length
     ·exact .more hoi hel hb (hm _ _ hlt h0)
     ·rw[V5 0 m _ (by omega)]at h0;simp at h0
end
open Go.RowKit
section
variable {P:Program} {C:Cfg} {w:World} {R:Type} {Z:Base}
theorem Zot (hspec:Ai P C) {ops:List Oper} {o:Oper} {s s':St} {p:Option Prim} (h:B_ (P:=P) (C:=C) ops o s=some (p,s')) (hs:Prim.simple p=true) (K:Option Prim->St->Option R):
  FE P C false ops o s K=K p s':=by
 have hrun:∀s1:St,s1=s->BV ops o s.tmps=some true->(opK P C (AY s1.tmps) o.dst o.op λp=>A3 C o.dst (p.dr false) s1 λv s'=>put s' o.dst v (K (some (p.dr false))))=K p s':=by
  rintro s1 rfl hw;unfold B_ at h;rw[hw]at h;dsimp only at h;rw[PA];cases hp:opK P C (AY s1.tmps) o.dst o.op some with
  |none=>rw[hp]at h;simp at h
  |some q=>
   rw[hp]at h;simp only[af]at h;cases hm:EX (C:=C) o.dst (q.dr false) s1 with
   |none=>rw[hm]at h;simp at h
   |some z=>
    rw[hm]at h;simp at h;obtain⟨rfl,rfl⟩:=h;simp only[af];rw[Q0c hspec hs,hm];simp only[af,Lx]
 have hskip:∀s1:St,s1=s->BV ops o s.tmps=some false->put s1 o.dst (.tup []) (K none)=K p s':=by
  rintro s1 rfl hw;unfold B_ at h;rw[hw]at h;simp at h;obtain⟨rfl,rfl⟩:=h;rw[Lx]
 unfold FE Ps;cases hg:o.guard with
 |none=>exact hrun s rfl (by simp[BV,hg])
 |some jw=>
  obtain⟨j,want⟩:=jw;dsimp only;cases hj:ops[j]? with
  |none=>unfold B_ BV at h;rw[hg]at h;dsimp only at h;rw[hj]at h;simp at h
  |some oj=>
   dsimp only;cases ht:oj.dst with
   |none=>unfold B_ BV at h;rw[hg]at h;dsimp only at h;rw[hj]at h;dsimp only at h;rw[ht]at h;simp at h
   |some t=>
    dsimp only;split
    ·rename_i g hgv;have hw:BV ops o s.tmps=some (g==want):=by simp only[BV,hg,hj,ht,hgv]
     have hself:∀b,g=b->(⟨setL s.tmps t (.c (.bool b)),s.aB,s.aC⟩:St)=s:=by
      rintro b rfl;rw[Qw1 hgv (by simp)]
     cases g
     ·simp only[an];rw[Fg];dsimp only;cases want
      ·exact hrun _ (hself false rfl) (by rw[hw];rfl)
      ·exact hskip _ (hself false rfl) (by rw[hw];rfl)
     ·simp only[ah];rw[Fg];dsimp only;cases want
      ·exact hskip _ (hself true rfl) (by rw[hw];rfl)
      ·exact hrun _ (hself true rfl) (by rw[hw];rfl)
    ·rename_i hgv;exact hskip _ rfl (by simp only[BV,hg,hj,ht,hgv])
    ·rename_i hno hno2;have hw:BV ops o s.tmps=none:=by
      unfold BV;rw[hg];dsimp only;rw[hj];dsimp only;rw[ht];dsimp only;split
      ·rename_i g hgv;exact(hno g hgv).elim
      ·rename_i hgv;exact(hno2 hgv).elim
      ·rfl
     unfold B_ at h;rw[hw]at h;simp at h
theorem Rel.wf {s:St} {tmps:Array Value} (h:Rel Z s tmps w):WFst s:=by
 obtain⟨ρ,h⟩:=h;exact⟨h.wt,h.wb⟩
structure Left (P : Program) (C : Cfg) (ops : Array Oper) (m : List Nat) (listed : Array Bool) (rem : List (Nat × Oper × Option Prim)) : Prop where
 sz:listed.size=ops.size
 op:∀x∈rem,ops[x.1]? =some x.2.1/\(Da ops.toList m x.1||Prim.simple x.2.2)=true/\∀e∈x.2.1.after,Region.binds .any e=true->e.on<x.1
 out:∀i,i<ops.size->(listed.getD i true=false↔∃x∈rem,x.1=i)
 ord:(rem.map (·.1)).Pairwise (· < ·)
 cl:∀j o,ops[j]? =some o->listed.getD j false=true->∀e∈o.after,Region.binds .any e=true->listed.getD e.on false=true
 pr:∀pre x post,rem=pre++x::post->∀y∈pre,Before ops.toList x.1 y.1\/(Da ops.toList m x.1=false/\Da ops.toList m y.1=false/\Oper.apart ops y.2.1 x.2.1=true/\Prim.meet C.ro y.2.2 x.2.2=false/\IE y.2.1 y.2.2 x.2.1 x.2.2=true)
theorem Q2f (hspec:Ai P C) (hok:∀t∈C.eqOk,P.stoodInHeld t=false) {ops:Array Oper} {m:List Nat} {Q:Exit->Act->World->Prop} {sf:St} {d0:List Deferred}
  (hq:∀(a:Act) (w:World),Rel Z sf a.tmps w->a.defers=d0->Q .normal a w):
  ∀(fuel:Nat) (listed:Array Bool) (rem:List (Nat×Oper×Option Prim)) (s:St) (a:Act) (w:World),rem.length=fuel->Left P C ops m listed rem->Qo P C ops.toList m rem s sf->WFst s->Rel Z s a.tmps w->a.defers=d0->
  wpAny P .any ops Q fuel listed a w
 |0,listed,rem,s,a,w,hl,hL,hrun,hwf,hR,hd=>by
  have hr:rem=[]:=List.eq_nil_of_length_eq_zero hl;subst hr;have:s=sf:=hrun;subst this;refine⟨?_,hq a w hR hd⟩;apply List.eq_nil_iff_forall_not_mem.2;intro i hi;obtain⟨h1,o,h2,_⟩:=mem_ready.1 hi;obtain⟨x,hx,_⟩:=(hL.out i (db.1 h2).1).1 h1;simp at hx
 |fuel+1,listed,rem,s,a,w,hl,hL,hrun,hwf,hR,hd=>by
  refine⟨λhnil=> ?_,λi hi=> ?_⟩
  ·exfalso;cases rem with
   |nil=>simp at hl
   |cons x rem=>
    obtain⟨h1,_,h2⟩:=hL.op x (by simp);have hlt:x.1<ops.size:=(db.1 h1).1;have:x.1∈Region.ready .any ops listed:=by
     refine mem_ready.2 ⟨(hL.out x.1 hlt).2 ⟨x,by simp,rfl⟩,x.2.1,h1,λe he hb=> ?_⟩;have hlt2:=h2 e he hb;cases hle:listed.getD e.on false with
     |true=>rfl
     |false=>
      have hsz:e.on<listed.size:=by rw[hL.sz];omega
      have:listed.getD e.on true=false:=by
       rw[Array.getD,dif_pos hsz]at hle⊢;exact hle
      obtain⟨y,hy,hye⟩:=(hL.out e.on (by omega)).1 this;have hord:=hL.ord;simp only[bf,List.pairwise_cons]at hord;simp only[aq]at hy;rcases hy with rfl|hy
      ·omega
      ·have:=hord.1 y.1 (List.mem_map_of_mem hy);omega
    rw[hnil]at this;simp at this
  ·obtain⟨h1,o,h2,h3⟩:=mem_ready.1 hi;have hilt:i<ops.size:=(db.1 h2).1;obtain⟨x,hx,hxi⟩:=(hL.out i hilt).1 h1;subst hxi;obtain⟨hxo,hxs,hxe⟩:=hL.op x hx;have hoo:o=x.2.1:=by rw[h2]at hxo;simpa using hxo
   subst hoo;obtain⟨pre,post,hsplit⟩:=List.append_of_mem hx;have hunl:∀y∈rem,listed.getD y.1 false=false:=by
    intro y hy;have hlt:y.1<ops.size:=(db.1 (hL.op y hy).1).1;have:=(hL.out y.1 hlt).2 ⟨y,hy,rfl⟩;have hsz:y.1<listed.size:=by rw[hL.sz];exact hlt
    rw[Array.getD,dif_pos hsz]at this⊢;exact this
   have hfree:∀y∈pre,Da ops.toList m x.1=false/\Da ops.toList m y.1=false/\Oper.apart ops y.2.1 x.2.1=true/\Prim.meet C.ro y.2.2 x.2.2=false/\IE y.2.1 y.2.2 x.2.1 x.2.2=true:=by
    intro y hy;rcases hL.pr pre x post hsplit y hy with hr|hr
    ·exfalso;have hyl:=hunl y (by rw[hsplit];simp[hy]);have hbef:∀(i j:Nat),Before ops.toList i j->(∀oi,ops[i]? =some oi->∀e∈oi.after,Region.binds .any e=true->listed.getD e.on false=true)->listed.getD j false=true:=by
      intro i j hij;induction hij with
      |one ho he hb=>intro hcl;exact hcl _ (by simpa using ho) _ (by simpa using he) hb
      |more ho he hb _ ih=>
       intro hcl;have hel:=hcl _ (by simpa using ho) _ (by simpa using he) hb;exact ih λoe hoe e2 he2 hb2=>hL.cl _ oe hoe hel e2 he2 hb2
     have:=hbef x.1 y.1 hr λoi hoi e he hb=>by
      rw[h2]at hoi;simp at hoi;subst hoi;exact h3 e he hb
     rw[this]at hyl;simp at hyl
    ·exact hr
   rw[hsplit]at hrun;obtain⟨s1,hs1,hrun1⟩:=Q5v hspec pre s hwf hrun hfree;have hex:∃b,FE P C b ops.toList x.2.1 s (λpo s'=>(some (po,s'):Option (Option Prim×St)))=some (x.2.2,s1):=by
    unfold IC at hs1;cases hw:Da ops.toList m x.1
    ·rw[ab (by rw[hw];simp)]at hs1;rw[hw]at hxs;exact⟨false,Zot hspec hs1 (by simpa using hxs) _⟩
    ·rw[aa hw]at hs1;exact⟨true,hs1⟩
   obtain⟨b,hex⟩:=hex;have hop := Q8c (Q := Q) (next := wpAny P .any ops Q fuel (listed.setIfInBounds x.1 true)) hspec hok hR hex (λpo s' a' w' hK hR' hd' => by
    simp at hK;obtain⟨rfl,rfl⟩:=hK;refine Q2f hspec hok hq fuel _ (pre++post) _ a' w' ?_ ?_ hrun1 hR'.wf hR' (hd'.trans hd)
    ·rw[hsplit]at hl;simp at hl⊢;omega
    ·have hsub:∀y,y∈pre++post->y∈rem:=by
      intro y hy;rw[hsplit];simp at hy⊢;rcases hy with hy|hy<;>simp[hy]
     have hne:∀y∈pre++post,y.1≠x.1:=by
      intro y hy;have hord:=hL.ord;rw[hsplit]at hord;simp only[bt,bf,List.pairwise_append,List.pairwise_cons]at hord;obtain⟨o1,⟨o2,o3⟩,o4⟩:=hord;simp at hy;rcases hy with hy|hy
      ·have:=o4 y.1 (List.mem_map_of_mem hy) x.1 (by simp);omega
      ·have:=o2 y.1 (List.mem_map_of_mem hy);omega
     have hg:∀(j:Nat) (d:Bool),(listed.setIfInBounds x.1 true).getD j d=if j=x.1 then true else listed.getD j d:=by
      intro j d;by_cases hj:j=x.1
      ·subst hj;have:x.1<listed.size:=by rw[hL.sz];exact hilt
       simp[Array.getD,this]
      ·rw[ab hj];exact getD_set_ne d (λe=>hj e.symm)
     refine⟨by simpa using hL.sz,λy hy=>hL.op y (hsub y hy),λj hj=> ?_,?_,?_,?_⟩
     ·rw[hg];constructor
      ·intro hh;split at hh
       ·simp at hh
       ·rename_i hjx;obtain⟨y,hy,hyj⟩:=(hL.out j hj).1 hh;refine⟨y,?_,hyj⟩;rw[hsplit]at hy;simp at hy⊢;rcases hy with hy|rfl|hy
        ·exact .inl hy
        ·exact absurd hyj.symm hjx
        ·exact .inr hy
      ·rintro⟨y,hy,rfl⟩;rw[ab (hne y hy)];exact(hL.out y.1 hj).2 ⟨y,hsub y hy,rfl⟩
     ·have hord:=hL.ord;rw[hsplit]at hord;simp only[bt,bf,List.pairwise_append,List.pairwise_cons]at hord⊢;obtain⟨o1,⟨o2,o3⟩,o4⟩:=hord;exact⟨o1,o3,λu hu v hv=>o4 u hu v (by simp[hv])⟩
     ·intro j oj hj hlj e he hb;rw[hg]at hlj⊢;split
      ·rfl
      ·split at hlj
       ·rename_i hjx;subst hjx;rw[h2]at hj;simp at hj;subst hj;exact h3 e he hb
       ·exact hL.cl j oj hj hlj e he hb
     ·intro pre' z post' hs' y hy
      have:∃pre2 post2,rem=pre2++z::post2/\y∈pre2:=by
       rcases List.append_eq_append_iff.1 hs' with⟨as,e1,e2⟩|⟨bs,e1,e2⟩
       ·
        refine⟨pre++x::as,post',by rw[hsplit,e2];simp,?_⟩;rw[e1]at hy;simp at hy⊢;rcases hy with hy|hy
        ·exact .inl hy
        ·exact .inr (.inr hy)
       ·cases bs with
        |nil=>
         simp at e1 e2;refine⟨pre++[x],post',?_,?_⟩
         ·rw[hsplit,<-e2];simp
         ·rw[e1];simp[hy]
        |cons b bs=>
         simp at e2;obtain⟨rfl,e2⟩:=e2;exact⟨pre',bs++x::post,by rw[hsplit,e1];simp,hy⟩
      obtain⟨pre2,post2,q1,q2⟩:=this;exact hL.pr pre2 z post2 q1 y q2)
   unfold wpOp;rw[h2];dsimp only;split
   ·rename_i hw;rw[aa hw]at hop;exact .inl hop
   ·rename_i hw;rw[ab hw]at hop;exact hop
end
open Go.RowKit
section
variable {P:Program} {C:Cfg} {w:World} {R:Type} {Z:Base}
theorem Z5t {c a:Bool} (h:(bif c then a else false)=true):c=true/\a=true:=by cases c<;>simp at h;exact⟨rfl,h⟩
theorem Q93 {ops:Array Oper} {m:List Nat}:∀(ps earlier:List (Nat×Oper×Option Prim)) (i:Nat),ps.map (·.1)=List.range' i ps.length->KF C ops m i earlier (ps.map (·.2))=true->
  ∀pre x post,ps=pre++x::post->(Da ops.toList m x.1||Prim.simple x.2.2)=true/\(∀e∈x.2.1.after,Region.binds .any e=true->e.on<x.1)/\
   ∀y∈earlier++pre,L8 m x.1 y.1=true\/(Da ops.toList m x.1=false/\Da ops.toList m y.1=false/\Oper.apart ops y.2.1 x.2.1=true/\Prim.meet C.ro y.2.2 x.2.2=false/\IE y.2.1 y.2.2 x.2.1 x.2.2=true)
 |[],earlier,i,_,_,pre,x,post,h=>by simp at h
 |(j,o,p)::ps,earlier,i,hidx,hok,pre,x,post,h=>by
  simp only[bf,bh,List.range'_succ,List.cons.injEq]at hidx;obtain⟨rfl,hidx⟩:=hidx;simp only[bf,KF]at hok;generalize hc:((Da ops.toList m j||Prim.simple p)&&o.after.toList.all (λe=> !(Region.binds .any e)||Nat.blt e.on j)&&Ak (λy:Nat×Oper×Option Prim=>L8 m j y.1||(!(Da ops.toList m j)&& !(Da ops.toList m y.1)&&(Oper.apart ops y.2.1 o&& !(Prim.meet C.ro y.2.2 p)&&IE y.2.1 y.2.2 o p))) earlier)=c at hok;cases c
  ·simp at hok
  ·simp only[ah]at hok;simp only[aj]at hc;obtain⟨⟨c1,c2⟩,c3⟩:=hc;cases pre with
   |nil=>
    simp at h;obtain⟨rfl,rfl⟩:=h;refine⟨c1,λe he hb=> ?_,λy hy=> ?_⟩
    ·have:=List.all_eq_true.1 c2 e (by simpa using he);rw[hb]at this;simpa using this
    ·simp at hy;have:=Ax.1 c3 y hy;rw[Bool.or_eq_true]at this;simp only[aj,Bool.not_eq_true']at this;rcases this with h|⟨⟨w1,w2⟩,⟨h1,h2⟩,h3⟩
     ·exact .inl h
     ·exact .inr ⟨w1,w2,h1,h2,h3⟩
   |cons q pre=>
    simp at h;obtain⟨rfl,rfl⟩:=h;obtain⟨h1,h2,h3⟩:=Q93 (pre++x::post) (earlier++[(j,o,p)]) (j+1) hidx hok pre x post rfl;refine⟨h1,h2,λy hy=>h3 y ?_⟩;simpa using hy
theorem Q7b {ops:Array Oper} {m:List Nat}:∀(l:List (Oper×Option Prim)) (earlier:List (Nat×Oper×Option Prim)) (i:Nat),KF C ops m i earlier l=true->∀(j:Nat) (q:Oper×Option Prim),l[j]? =some q->(Da ops.toList m (i+j)||Prim.simple q.2)=true
 |[],_,_,_,j,q,hq=>by simp at hq
 |(o,p)::l,earlier,i,h,j,q,hq=>by
  simp only[KF]at h;obtain⟨hc,h⟩:=Z5t h;simp only[aj]at hc;cases j with
  |zero=>simp at hq;subst hq;exact hc.1.1
  |succ j=>
   rw[show i+(j+1)=i+1+j from by omega];exact Q7b l _ _ h j q (by simpa using hq)
theorem Rel.drew {s:St} {tmps:Array Value} (h:Rel Z s tmps w):Rel Z s tmps {w with drawn:=w.drawn+1}:=by
 obtain⟨ρ,h⟩:=h;have hcc:∀(a:AC) (x:Value),CC ρ w a x->CC ρ {w with drawn:=w.drawn+1} a x:=λa x hx=>CC.mono (w:=w) (w':={w with drawn:=w.drawn+1}) (λ_ h=>h) (λ_ _=>rfl) a x (AC.agree_refl rfl rfl rfl a) hx;refine⟨ρ,h.tl,λi v hi=>TVR.mono hcc v _ (h.tv i v hi),h.wt,h.wb,?_,h.bi,?_,h.ri,h.br,h.ib,h.fr.drew,h.fs,h.i0,h.i1,h.k0⟩
 ·intro k b hk;obtain⟨arr,q1,q2,q3⟩:=h.bx k b hk;exact⟨arr,q1,q2.mono λa _ x hx=>hcc a x hx,q3⟩
 ·intro id r hr;obtain⟨q1,q2,q0,xs,q3,q4⟩:=h.ro id r hr;exact⟨q1,q2,q0,xs,LE q3 (λ_ _=>rfl),RowC.mono (w:=w) (λ_ h=>h) (λ_ _=>rfl) q4⟩
theorem Zd0 (hspec:Ai P C) (hok:∀t∈C.eqOk,P.stoodInHeld t=false) (hmix:P.follows .mixedOrders=true) {id:Nat} {ops:Array Oper} {draw:Bool} {s:St} {a:Act} (hR:Rel Z s a.tmps w) {K:St->Option R} {r:R}
  (h:Qh1 P C ops draw s K=some r) {Q:Exit->Act->World->Prop} (hq:∀(s':St) (a':Act) (w':World),K s'=some r->Rel Z s' a'.tmps w'->a'.defers=a.defers->Q .normal a' w'):
  (Code.region id ops draw).wp P Q a w:=by
 cases draw
 ·exact wp_region_list (Q9t hspec hok _ s a w hR h hq)
 ·simp only[Qh1,ah]at h;refine wp_region_any hmix ?_;obtain⟨m,h,hm⟩:=Qrp (ops:=ops.toList) ops.toList [] [] rfl rfl (λi j hi=>by simp at hi) h;rcases Qk3 hspec ops.toList 0 s _ r h with⟨ps,sf,q1,q2,q3,q4⟩|⟨acc,sf,q1,j,q,q2,q3⟩
  ·cases hd:KF C ops m 0 [] (ps.map (·.2))<;>rw[hd]at q4
   ·simp at q4
   ·simp only[ah]at q4;have hlen:ps.length=ops.size:=by have:=congrArg List.length q1;simpa using this
    have hidx:ps.map (·.1)=List.range' 0 ps.length:=by rw[q2];simp[hlen]
    have hsp:=Q93 ps [] 0 hidx hd;have hpos:∀(i:Nat) (x:Nat×Oper×Option Prim),ps[i]? =some x->x.1=i/\ops[i]? =some x.2.1:=by
     intro i x hx;have h1:(ps.map (·.1))[i]? =some x.1:=by simp[hx]
     have h2:(ps.map (·.2.1))[i]? =some x.2.1:=by simp[hx]
     rw[hidx,List.getElem?_range']at h1;rw[q1]at h2
     ·simp at h1;exact⟨by omega,by simpa using h2⟩
     ·exact(List.getElem?_eq_some_iff.1 hx).1
    refine Q2f hspec hok (m:=m) (sf:=sf) (d0:=a.defers) (λa' w' hR' hd'=>hq sf a' w' q4 hR' hd') ops.size _ ps s a _ hlen ?_ q3 hR.wf hR.drew rfl;refine⟨by simp,λx hx=> ?_,λi hi=> ?_,?_,?_,?_⟩
    ·obtain⟨pre,post,hs⟩:=List.append_of_mem hx;obtain⟨c1,c2,_⟩:=hsp pre x post hs;obtain⟨i,hi⟩:=List.getElem?_of_mem hx;obtain⟨p1,p2⟩:=hpos i x hi;exact⟨by rw[p1];exact p2,c1,c2⟩
    ·constructor
     ·intro _;have hlt:i<ps.length:=by omega
      exact⟨ps[i],bq hlt,(hpos i ps[i] (ai hlt)).1⟩
     ·intro _;simp[Array.getD,hi]
    ·rw[hidx];exact List.pairwise_lt_range'
    ·intro j o hj hl;have hlt:j<ops.size:=(db.1 hj).1;simp[Array.getD,hlt]at hl
    ·intro pre x post hs y hy;rcases(hsp pre x post hs).2.2 y (by simpa using hy)with h1|h1
     ·exact .inl (hm _ _ h1)
     ·exact .inr h1
  ·cases hd:KF C ops m 0 [] acc<;>rw[hd]at q1
   ·simp at q1
   ·have:=Q7b acc [] 0 hd j q q2;rw[q3]at this;simp at this
def Rh:Ex->Exit
 | .normal=> .normal
 | .exit id=> .exit id
 | .ret=> .ret
def Ji (Z:Base) (K:Ex->St->Option R) (r:R) (d:List Deferred):Exit->Act->World->Prop:=
 λe a w=>∃ae s,Rh ae=e/\K ae s=some r/\Rel Z s a.tmps w/\a.defers=d
theorem Qzw {step:St->(Ex->St->Option R)->Option R} {body:Code} {K:Ex->St->Option R} {r:R} {d:List Deferred}
  (hstep:∀(s:St) (a:Act) (w:World) (K':Ex->St->Option R),Rel Z s a.tmps w->a.defers=d->step s K'=some r->body.wp P (Ji Z K' r d) a w):
  ∀(n:Nat) (s:St) (a:Act) (w:World),Rel Z s a.tmps w->a.defers=d->PE P C step n s K=some r->Code.rounds P body (Ji Z K r d) n a w
 |0,s,a,w,hR,hd,h=>by simp[PE]at h
 |n+1,s,a,w,hR,hd,h=>by
  rw[PE]at h;rw[rounds_succ];refine wp_mono (hstep s a w _ hR hd h) ?_;rintro e a' w' ⟨ae,s2,rfl,hK,hR2,hd2⟩;cases ae with
  |normal=>
   obtain⟨st,ht,hRt⟩:=PI hR2 hK;exact Qzw hstep n st a' w' hRt hd2 ht
  |exit id=>exact⟨.exit id,s2,rfl,hK,hR2,hd2⟩
  |ret=>exact⟨.ret,s2,rfl,hK,hR2,hd2⟩
def InZ (Z:Base):Prop:=∀k b,Z.K0 k=some b->F3 k=true
def Jf (P:Program) (c:Code) (sk:Sk) (g:J8):Prop:=
 ∀(Z:Base) (_:InZ Z) (a:Act) (w:World) (vars:List AC) (R:Type) (K:Ex->St->Option R) (r:R),Rel Z (BA sk vars) a.tmps w->g R vars K=some r->c.wp P (Ji Z K r a.defers) a w
structure SubOK (P : Program) (C : Cfg) (c : Code) (blk : Nat) : Prop where
 l:∀p∈AL c blk,∀sk g,C.loops p.1=some (sk,g)->Jf P (.loop p.2) sk g
 b:∀p∈A4 c,∀sk g,C.blocks p.1=some (sk,g)->Jf P (.block p.1 p.2) sk g
 c:∀p∈Bd c blk,∀sk g,C.conds p.1=some (sk,g)->Jf P (.cond (.tmp p.1) p.2.2.1 p.2.2.2) sk g
theorem II:∀(c:Code) (b b':Nat),AL c b=AL c b'
 | .seq x y,b,b'=>by simp only[AL,II x b b',II y b b']
 | .cond _ x y,b,b'=>by simp only[AL,II x b b',II y b b']
 | .block _ x,b,b'=>by simp only[AL,II x b b']
 | .loop x,b,b'=>by simp only[AL,II x b b']
 | .skip,_,_=>rfl
 | .region _ _ _,_,_=>rfl
 | .exit _,_,_=>rfl
 | .ret,_,_=>rfl
 | .rangeFunc _ _ _ _,_,_=>rfl
 | .scope x,b,b'=>by simp only[AL,II x b b']
 | .label _,_,_=>rfl
 | .goto _,_,_=>rfl
 | .refuse _,_,_=>rfl
theorem IM:∀(c:Code) (b b':Nat),Bd c b=Bd c b'
 | .seq x y,b,b'=>by simp only[Bd,IM x b b',IM y b b']
 | .cond c x y,b,b'=>by cases c<;>simp only[Bd,IM x b b',IM y b b']
 | .block _ x,b,b'=>by simp only[Bd,IM x b b']
 | .loop x,b,b'=>by simp only[Bd,IM x b b']
 | .skip,_,_=>rfl
 | .region _ _ _,_,_=>rfl
 | .exit _,_,_=>rfl
 | .ret,_,_=>rfl
 | .rangeFunc _ _ _ _,_,_=>rfl
 | .scope x,b,b'=>by simp only[Bd,IM x b b']
 | .label _,_,_=>rfl
 | .goto _,_,_=>rfl
 | .refuse _,_,_=>rfl
theorem SubOK.any {c:Code} (b:Nat) {b':Nat} (h:SubOK P C c b):SubOK P C c b':=
 ⟨λp hp=>h.l p (by rw[II c b b'];exact hp),h.b,λp hp=>h.c p (by rw[IM c b b'];exact hp)⟩
theorem Qmc {c:Code} {told:Option (Sk×J8)} {s:St} {a:Act} {K:Ex->St->Option R} {r:R} {d:List Deferred} {run:Option R} (hZ:InZ Z)
  (ht:∀sk g,told=some (sk,g)->Jf P c sk g) (hR:Rel Z s a.tmps w) (hd:a.defers=d) (h:P6 told s K run=some r) (hrun:run=some r->c.wp P (Ji Z K r d) a w):c.wp P (Ji Z K r d) a w:=by
 unfold P6 at h;split at h
 ·exact hrun h
 ·rename_i sk g;obtain⟨hok,h2⟩:=BY h;split at h2
  ·rename_i vars hv;obtain⟨ρ,hR⟩:=hR;obtain⟨tm,aB,aC⟩:=s;subst hd;exact ht sk g rfl Z hZ a w vars R K r ⟨ρ,hR.rebuild hZ hok hv⟩ h2
  ·simp at h2
theorem Qye {ρ:Env} {d:Nat} {a:AC} {x:Value} (h:CC ρ w a x):CC ρ w (a.killP d) x:=by
 cases a with
 |ptr k o=>simp only[AC.killP];cases Nat.beq k d<;>first|exact h|exact h.one
 |bsl k o=>simp only[AC.killP];cases Nat.beq k d<;>first|exact h|exact h.one
 |clo f fs cs=>simp only[AC.killP];cases(Ak (Kk d) fs&&Ak (Kk d) cs)<;>first|exact h|exact h.one
 |_=>exact h
theorem TJ {ρ:Env} {f:AC->AC} (hf:∀(a:AC) (x:Value),CC ρ w a x->CC ρ w (f a) x):∀{l:List AC} {xs:List Value},CL (CC ρ w) l xs->CL (CC ρ w) (l.map f) xs
 |[],[],_=>trivial
 |_::_,_::_,h=>⟨hf _ _ h.1,TJ hf h.2⟩
 |[],_::_,h=>h.elim
 |_::_,[],h=>h.elim
theorem Zs1 {ρ:Env} {f:AC->AC} (hf:∀(a:AC) (x:Value),CC ρ w a x->CC ρ w (f a) x) {v:TV} {x:Value} (h:TVR ρ w v x):TVR ρ w (v.mapC f) x:=by
 cases v with
 |dead=>trivial
 |tup ps=>
  obtain⟨ys,rfl,hy⟩:=h;refine⟨ys,rfl,?_⟩;generalize ys.toList=l at hy;induction ps generalizing l with
  |nil=>cases l<;>first|exact hy|exact hy.elim
  |cons p ps ih=>
   cases l with
   |nil=>exact hy.elim
   |cons y l=>
    obtain⟨g,cs⟩:=p;refine⟨?_,ih l hy.2⟩;have:=hy.1;cases g
    ·obtain⟨a,h1,ha⟩:=this;subst h1;exact⟨_,rfl,hf _ _ ha⟩
    ·obtain⟨zs,h1,hz⟩:=this;exact⟨zs,h1,TJ hf hz⟩
 |v g cs=>
  cases g
  ·obtain⟨a,rfl,ha⟩:=h;exact⟨_,rfl,hf _ _ ha⟩
  ·obtain⟨ys,rfl,hy⟩:=h;exact⟨ys,rfl,TJ hf hy⟩
theorem RelE.forget {tm:List TV} {aB:List (Nat×Box)} {aC:List (Nat×Row)} {ρ:Env} {tmps:Array Value} (h:RelE Z tm aB aC ρ tmps w) {d:Nat} (hd:∀b,Z.K0 d≠some b):
  RelE Z (tm.map (TV.mapC (AC.killP d))) ((del d aB).map λp=>(p.1,(⟨p.2.ty,p.2.cells.map (AC.killP d)⟩:Box))) aC ρ tmps w:=by
 have hlk:∀k,Ac ((del d aB).map λp=>(p.1,(⟨p.2.ty,p.2.cells.map (AC.killP d)⟩:Box))) k=(Ac (del d aB) k).map λb=>⟨b.ty,b.cells.map (AC.killP d)⟩:=λk=>F6 (λb:Box=>(⟨b.ty,b.cells.map (AC.killP d)⟩:Box)) _ k;have hlk':∀(k:Nat) (b:Box),Ac ((del d aB).map λp=>(p.1,(⟨p.2.ty,p.2.cells.map (AC.killP d)⟩:Box))) k=some b->k≠d/\∃b',Ac aB k=some b'/\b=⟨b'.ty,b'.cells.map (AC.killP d)⟩:=by
  intro k b hk;rw[hlk]at hk;simp only[bm]at hk;obtain⟨b',h1,rfl⟩:=hk;obtain⟨h2,h3⟩:=Mn h1;exact⟨h2,b',h3,rfl⟩
 have hbx:∀(k:Nat) (b:Box),k≠d->Ac aB k=some b->∃b',Ac ((del d aB).map λp=>(p.1,(⟨p.2.ty,p.2.cells.map (AC.killP d)⟩:Box))) k=some b':=λk b hne hk=>⟨_,by rw[hlk,L6 _ _ _ hne,hk];rfl⟩;have hnp:∀a,Kk d a=true->AC.wfP aB a->AC.wfP ((del d aB).map λp=>(p.1,(⟨p.2.ty,p.2.cells.map (AC.killP d)⟩:Box))) a:=by
  intro a hn ha;cases a<;>try exact trivial
  rename_i k o;obtain⟨b,hb⟩:=ha;simp only[Kk,Bool.not_eq_true']at hn;exact hbx k b (Hq hn) hb
 have hwf:∀a,AC.wf aB aC a->AC.wf ((del d aB).map λp=>(p.1,(⟨p.2.ty,p.2.cells.map (AC.killP d)⟩:Box))) aC (a.killP d):=by
  intro a ha;cases a with
  |ptr k o=>
   simp only[AC.killP];cases hk:Nat.beq k d
   ·obtain⟨b,hb⟩:=ha;exact hbx k b (Hq hk) hb
   ·exact trivial
  |bsl k o=>
   simp only[AC.killP];cases hk:Nat.beq k d
   ·obtain⟨b,hb⟩:=ha;exact hbx k b (Hq hk) hb
   ·exact trivial
  |clo f fs cs=>
   simp only[AC.killP];cases hc:(Ak (Kk d) fs&&Ak (Kk d) cs)
   ·exact trivial
   ·simp only[aj]at hc;exact⟨λa h'=>hnp a (Ax.1 hc.1 a h') (ha.1 a h'),λa h'=>hnp a (Ax.1 hc.2 a h') (ha.2 a h')⟩
  |_=>exact ha
 refine⟨by simpa using h.tl,?_,?_,?_,?_,?_,h.ro,h.ri,?_,?_,h.fr,h.fs,h.i0,h.i1,?_⟩
 ·intro i v hi;simp only[List.getElem?_map,bm]at hi;obtain⟨u,hu,rfl⟩:=hi;exact Zs1 (λ_ _=>Qye) (h.tv i u hu)
 ·intro v hv;simp only[ba]at hv;obtain⟨u,hu,rfl⟩:=hv;have:=h.wt u hu;cases u with
  |dead=>trivial
  |v g cs=>
   intro a ha;simp only[ba]at ha;obtain⟨c,hc,rfl⟩:=ha;exact hwf c (this c hc)
  |tup ps=>
   intro p hp a ha;simp only[ba]at hp;obtain⟨q,hq,rfl⟩:=hp;simp only[ba]at ha;obtain⟨c,hc,rfl⟩:=ha;exact hwf c (this q hq c hc)
 ·intro k b hk a ha;obtain⟨_,b',hb',rfl⟩:=hlk' k b hk;simp only[ba]at ha;obtain⟨c,hc,rfl⟩:=ha;exact hwf c (h.wb k b' hb' c hc)
 ·intro k b hk;obtain⟨_,b',hb',rfl⟩:=hlk' k b hk;obtain⟨arr,h1,h2,h3⟩:=h.bx k b' hb';exact⟨arr,h1,TJ (λ_ _=>Qye) h2,h3⟩
 ·intro k k' b b' hk hk';obtain⟨_,_,p1,_⟩:=hlk' k b hk;obtain⟨_,_,p2,_⟩:=hlk' k' b' hk';exact h.bi k k' _ _ p1 p2
 ·intro k b j q hk hq;obtain⟨_,_,p1,_⟩:=hlk' k b hk;exact h.br k _ j q p1 hq
 ·intro b hb;obtain⟨q1,q2,q3⟩:=h.ib b hb;exact⟨q1,λk bo hk=>by obtain⟨_,_,p,_⟩:=hlk' k bo hk;exact q2 k _ p,q3⟩
 ·intro k b hk;obtain⟨p1,bo,p2⟩:=h.k0 k b hk;exact⟨p1,hbx k bo (by rintro rfl;exact hd b hk) p2⟩
theorem Qkc (hZ:InZ Z) {tmps:Array Value} {K:St->Option R} {r:R}:∀(l:List Nat) (s:St),Rel Z s tmps w->PS l s K=some r->∃s',K s'=some r/\Rel Z s' tmps w
 |[],s,hR,h=>⟨s,h,hR⟩
 |d::l,⟨tm,aB,aC⟩,hR,h=>by
  simp only[PS]at h;split at h
  ·exact Qkc hZ l _ hR h
  ·cases hd:F3 d<;>rw[hd]at h
   ·simp only[an,Ba]at h;obtain⟨ρ,hR⟩:=hR;exact Qkc hZ l _ ⟨ρ,hR.forget (d:=d) λb hb=>by rw[hZ d b hb]at hd;cases hd⟩ h
   ·simp at h
theorem Hj (hspec:Ai P C) (hok:∀t∈C.eqOk,P.stoodInHeld t=false) (hmix:P.follows .mixedOrders=true) (hZ:InZ Z) {r:R} {d:List Deferred}:
  ∀(c:Code) (L blk:Nat) (s:St) (a:Act) (w:World) (K:Ex->St->Option R),SubOK P C c blk->Rel Z s a.tmps w->a.defers=d->Dh P C L c blk s K=some r->c.wp P (Ji Z K r d) a w
 | .skip,L,blk,s,a,w,K,hl,hR,hd,h=>wp_skip ⟨.normal,s,rfl,h,hR,hd⟩
 | .region id ops draw,L,blk,s,a,w,K,hl,hR,hd,h=>by
  rw[Dh]at h;obtain⟨s0,h,hR⟩:=Qkc hZ _ s hR h;exact Zd0 hspec hok hmix hR h λs' a' w' hK hR' hd'=>⟨.normal,s',rfl,hK,hR',hd'.trans hd⟩
 | .seq x y,L,blk,s,a,w,K,hl,hR,hd,h=>by
  rw[Dh]at h;refine wp_seq (wp_mono (Hj hspec hok hmix hZ x L blk s a w _ ⟨λp hp=>hl.l p (by simp[AL,hp]),λp hp=>hl.b p (by simp[A4,hp]),λp hp=>hl.c p (by simp[Bd,hp])⟩ hR hd h) ?_);rintro e a' w' ⟨ae,s',rfl,hK,hR',hd'⟩;cases ae with
  |normal=>exact Hj hspec hok hmix hZ y L blk s' a' w' K ⟨λp hp=>hl.l p (by simp[AL,hp]),λp hp=>hl.b p (by simp[A4,hp]),λp hp=>hl.c p (by simp[Bd,hp])⟩ hR' hd' hK
  |exit id=>exact⟨.exit id,s',rfl,hK,hR',hd'⟩
  |ret=>exact⟨.ret,s',rfl,hK,hR',hd'⟩
 | .cond c x y,L,blk,s,a,w,K,hl,hR,hd,h=>by
  have hx:SubOK P C x blk:=⟨λp hp=>hl.l p (by simp[AL,hp]),λp hp=>hl.b p (by simp[A4,hp]),λp hp=>hl.c p (by cases c<;>simp[Bd,hp])⟩;have hy:SubOK P C y blk:=⟨λp hp=>hl.l p (by simp[AL,hp]),λp hp=>hl.b p (by simp[A4,hp]),λp hp=>hl.c p (by cases c<;>simp[Bd,hp])⟩;rw[Dh]at h;refine Qmc (c:= .cond c x y) hZ ?_ hR hd h λh2=> ?_
  ·intro sk g ht;unfold Q7y at ht;split at ht
   ·rename_i t;exact hl.c (t,0,x,y) (by simp[Bd]) sk g ht
   ·simp at ht
  ·split at h2
   ·rename_i g hg;have hc:a.eval c= .bool g:=by
     obtain⟨ρ,hRE⟩:=hR;have:=Zaj hRE c;rw[hg]at this;exact this.bool
    refine wp_cond hc ?_;split at h2
    ·rename_i t;have hlb:∀b,g=b->Rel Z ⟨setL s.tmps t (.c (.bool b)),s.aB,s.aC⟩ a.tmps w:=by
      rintro b rfl;obtain⟨ρ,hRE⟩:=hR;exact⟨ρ,hRE.learn t (by have e:a.tmps.getD t undef= .bool g:=hc;rw[e];exact TVR.mkBool _) (Jp _)⟩
     cases g
     ·simp only[an]at h2;rw[Fg]at h2;exact Hj hspec hok hmix hZ y L blk _ a w K hy (hlb false rfl) hd h2
     ·simp only[ah]at h2;rw[Fg]at h2;exact Hj hspec hok hmix hZ x L blk _ a w K hx (hlb true rfl) hd h2
    ·cases g
     ·exact Hj hspec hok hmix hZ y L blk s a w K hy hR hd h2
     ·exact Hj hspec hok hmix hZ x L blk s a w K hx hR hd h2
   ·simp at h2
 | .block id body,L,blk,s,a,w,K,hl,hR,hd,h=>by
  have hb:SubOK P C body id:=SubOK.any blk ⟨λp hp=>hl.l p (by simp[AL,hp]),λp hp=>hl.b p (by simp[A4,hp]),λp hp=>hl.c p (by simp[Bd,hp])⟩;rw[Dh]at h;refine Qmc (c:= .block id body) hZ (hl.b (id,body) (by simp[A4])) hR hd h λh2=> ?_;refine wp_block (wp_mono (Hj hspec hok hmix hZ body L id s a w _ hb hR hd h2) ?_);rintro e a' w' ⟨ae,s',rfl,hK,hR',hd'⟩;cases ae with
  |normal=>exact⟨.normal,s',rfl,hK,hR',hd'⟩
  |exit i=>
   simp only[Rh,Exit.inBlock];dsimp only at hK;cases hb:Nat.beq i id<;>rw[hb]at hK
   ·have:i≠id:=λe=>by rw[e]at hb;simp at hb
    rw[ab this];exact⟨.exit i,s',rfl,hK,hR',hd'⟩
   ·rw[aa (ac hb)];exact⟨.normal,s',rfl,hK,hR',hd'⟩
  |ret=>exact⟨.ret,s',rfl,hK,hR',hd'⟩
 | .loop body,L,blk,s,a,w,K,hl,hR,hd,h=>by
  rw[Dh]at h;obtain⟨s',h',hR'⟩:=T_ _ s a.tmps hR _ r h;obtain⟨s1,h1,hR1⟩:=PI hR' h';have hb:SubOK P C body blk:=⟨λp hp=>hl.l p (by simp[AL,hp]),λp hp=>hl.b p (by simp[A4,hp]),λp hp=>hl.c p (by simp[Bd,hp])⟩;refine Qmc (c:= .loop body) hZ (hl.l (RN body,body) (by simp[AL])) hR1 hd h1 λh2=> ?_;exact wp_loop_rounds L (Qzw (λs a w K' hR hd h=>Hj hspec hok hmix hZ body L blk s a w K' hb hR hd h) L s1 a w hR1 hd h2)
 | .exit id,L,blk,s,a,w,K,hl,hR,hd,h=>wp_exit ⟨.exit id,s,rfl,h,hR,hd⟩
 | .ret,L,blk,s,a,w,K,hl,hR,hd,h=>wp_ret ⟨.ret,s,rfl,h,hR,hd⟩
 | .rangeFunc f ps asg body,L,blk,s,a,w,K,hl,hR,hd,h=>by simp[Dh]at h
 | .scope b,L,blk,s,a,w,K,hl,hR,hd,h=>by
  rw[Dh]at h;refine wp_scope_straight (wp_mono (Hj hspec hok hmix hZ b L blk s a w K ⟨λp hp=>hl.l p (by simp[AL,hp]),λp hp=>hl.b p (by simp[A4,hp]),λp hp=>hl.c p (by simp[Bd,hp])⟩ hR hd h) ?_);rintro e a' w' ⟨ae,s',rfl,hK,hR',hd'⟩;cases ae with
  |normal=>exact⟨.normal,s',rfl,hK,hR',hd'⟩
  |exit i=>exact⟨.exit i,s',rfl,hK,hR',hd'⟩
  |ret=>exact⟨.ret,s',rfl,hK,hR',hd'⟩
 | .label l,L,blk,s,a,w,K,hl,hR,hd,h=>by
  rw[Dh]at h;exact wp_label ⟨.normal,s,rfl,h,hR,hd⟩
 | .goto l,L,blk,s,a,w,K,hl,hR,hd,h=>by simp[Dh]at h
 | .refuse why,L,blk,s,a,w,K,hl,hR,hd,h=>by simp[Dh]at h
theorem Zni {e e':Ex} (h:Sq e e'=true):e=e':=by
 cases e<;>cases e'<;>simp only[Sq]at h<;>first|rfl|(simp at h;done)|(rw[ac h])
theorem Qn4 {s:St} {e':Ex} {tmps:Array Value} (hZ:InZ Z) (hR:Rel Z s tmps w):∀{exits:List (Ex×Sk)} {i n:Nat} {o:List AC},Gy exits i e' s=some (n,o)->
  i<=n/\∃sk,(∀(R:Type) (K:Ex->St->Option R),QA o K exits i n=K e' (BA sk o))/\Rel Z (BA sk o) tmps w
 |[],i,n,o,h=>by simp[Gy]at h
 |(e,sk)::l,i,n,o,h=>by
  simp only[Gy]at h;cases hb:(Sq e e'&&sk.okB)<;>rw[hb]at h
  ·simp only[an]at h;obtain⟨h1,sk',h2,h3⟩:=Qn4 hZ hR h;refine⟨by omega,sk',λR K=> ?_,h3⟩;simp only[QA];rw[KH (by omega)];exact h2 R K
  ·simp only[ah]at h;simp only[aj]at hb;split at h
   ·rename_i vars hv;simp at h;obtain⟨rfl,rfl⟩:=h;refine⟨co _,sk,λR K=> ?_,?_⟩
    ·simp only[QA,Nat.beq_refl,ah];rw[Zni hb.1]
    ·obtain⟨ρ,hR⟩:=hR;obtain⟨tm,aB,aC⟩:=s;exact⟨ρ,hR.rebuild hZ hb.2 hv⟩
   ·simp at h
theorem Zzv (hspec:Ai P C) (hok:∀t∈C.eqOk,P.stoodInHeld t=false) (hmix:P.follows .mixedOrders=true) {L blk:Nat} {body:Code} {sk:Sk} {exits:List (Ex×Sk)} {m:List AC->Option (Nat×List AC)}
  (hsk:sk.okB=true) (hsub:SubOK P C body blk) (hm:∀vars o,m vars=some o->∃n,CJ (AS P C L blk body sk exits) n vars=some o):Jf P (.loop body) sk (gOf exits m):=by
 intro Z hZ a w vars R K r hR h;simp only[gOf,cq]at h;obtain⟨⟨t,o⟩,h1,h2⟩:=h;obtain⟨n,hn⟩:=hm vars _ h1;have key:∀(n:Nat) (vars:List AC) (a':Act) (w':World),Rel Z (BA sk vars) a'.tmps w'->a'.defers=a.defers->CJ (AS P C L blk body sk exits) n vars=some (t,o)->Code.rounds P body (Ji Z K r a.defers) n a' w':=by
  intro n;induction n with
  |zero=>intro vars a' w' _ _ h;simp[CJ]at h
  |succ n ih=>
   intro vars a' w' hR' hd' h;simp only[CJ,cq]at h;obtain⟨⟨t',o'⟩,q1,q2⟩:=h;rw[rounds_succ];refine wp_mono (Hj hspec hok hmix hZ body L blk _ a' w' _ hsub hR' hd' q1) ?_;rintro e a2 w2 ⟨ae,s',rfl,hK,hR2,hd2⟩;have hexit:∀e':Ex,Gy exits 1 e' s'=some (t',o')->Ji Z K r a.defers (Rh e') a2 w2:=by
    intro e' hx;obtain⟨p1,sk',p2,p3⟩:=Qn4 hZ hR2 hx;have ht:t'≠0:=by omega
    dsimp only at q2;rw[ab ht]at q2;simp at q2;obtain⟨rfl,rfl⟩:=q2;rw[p2 R K]at h2;exact⟨e',_,rfl,h2,p3,hd2⟩
   cases ae with
   |normal=>
    obtain⟨s3,h3,hR3⟩:=PI hR2 hK;split at h3
    ·rename_i vars' hv;simp at h3;obtain⟨rfl,rfl⟩:=h3;simp only[if_true]at q2;obtain⟨ρ,hR3⟩:=hR3;obtain⟨tm,aB,aC⟩:=s3;exact ih _ a2 w2 ⟨ρ,hR3.rebuild hZ hsk hv⟩ hd2 q2
    ·simp at h3
   |exit i=>exact hexit _ hK
   |ret=>exact hexit _ hK
 exact wp_loop_rounds n (key n vars a w hR rfl hn)
theorem Zt2 (hspec:Ai P C) (hok:∀t∈C.eqOk,P.stoodInHeld t=false) (hmix:P.follows .mixedOrders=true) {L id:Nat} {body:Code} {sk:Sk} {exits:List (Ex×Sk)} {m:List AC->Option (Nat×List AC)}
  (hsub:SubOK P C body id) (hm:∀vars o,m vars=some o->Q8g P C L id body sk exits vars=some o):Jf P (.block id body) sk (gOf exits m):=by
 intro Z hZ a w vars R K r hR h;simp only[gOf,cq]at h;obtain⟨⟨t,o⟩,h1,h2⟩:=h;have hb:=hm vars _ h1;refine wp_block (wp_mono (Hj hspec hok hmix hZ body L id _ a w _ hsub hR rfl hb) ?_);rintro e a' w' ⟨ae,s',rfl,hK,hR',hd'⟩;have hexit:∀e':Ex,Gy exits 1 e' s'=some (t,o)->Ji Z K r a.defers (Rh e') a' w':=by
  intro e' hx;obtain⟨p1,sk',p2,p3⟩:=Qn4 hZ hR' hx;rw[p2 R K]at h2;exact⟨e',_,rfl,h2,p3,hd'⟩
 cases ae with
 |normal=>exact hexit .normal hK
 |exit i=>
  simp only[Rh,Exit.inBlock];dsimp only at hK;cases hb:Nat.beq i id<;>rw[hb]at hK
  ·have:i≠id:=λe=>by rw[e]at hb;simp at hb
   rw[ab this];exact hexit (.exit i) hK
  ·rw[aa (ac hb)];exact hexit .normal hK
 |ret=>exact hexit .ret hK
end
open Go.RowKit
section
variable {P:Program} {C:Cfg} {w:World} {R:Type} {Z:Base}
theorem RelE.slots {tm tm':List TV} {aB:List (Nat×Box)} {aC:List (Nat×Row)} {ρ:Env} {tmps tmps':Array Value} (h:RelE Z tm aB aC ρ tmps w) (htl:tm'.length=tmps'.size)
  (htv:∀(i:Nat) (v:TV),tm'[i]? =some v->TVR ρ w v (tmps'.getD i undef)) (hwt:∀v∈tm',TV.wf aB aC v):RelE Z tm' aB aC ρ tmps' w:=
 ⟨htl,htv,hwt,h.wb,h.bx,h.bi,h.ro,h.ri,h.br,h.ib,h.fr,h.fs,h.i0,h.i1,h.k0⟩
theorem Qyo {s:St} {a:Act} {ρ:Env} (hR:RelE Z s.tmps s.aB s.aC ρ a.tmps w):∀(l:List ResultVar) (ps:List (Bool×List AC)),LM P s l=some ps->
  ∃ xs : List Value, (l.mapM fun
   | .tmp t=>pure (a.tmps.getD t undef)
   | .cell b t=>do loadVar t (<-asAddr (a.tmps.getD b undef)):Sem (List Value)).run P w= .ok xs w/\TP ρ w ps xs/\∀p∈ps,∀c∈p.2,AC.wf s.aB s.aC c
 |[],ps,h=>by simp[LM]at h;subst h;exact⟨[],rfl,trivial,by simp⟩
 |rv::l,ps,h=>by
  simp only[LM]at h;split at h
  ·rename_i g cs hrv;split at h
   ·rename_i ps' hps;simp at h;subst h;obtain⟨xs,h1,h2,h3⟩:=Qyo hR l ps' hps;have key : ∃ x, ((match rv with
      | .tmp t=>pure (a.tmps.getD t undef)
      | .cell b t=>do loadVar t (<-asAddr (a.tmps.getD b undef)):Sem Value)).run P w= .ok x w/\TVR ρ w (.v g cs) x/\TV.wf s.aB s.aC (.v g cs):=by
     cases rv with
     |tmp t=>
      simp only[Xm]at hrv;split at hrv
      ·rename_i g' cs'' ht;simp at hrv;obtain⟨rfl,rfl⟩:=hrv;have htl:t<s.tmps.length:=by
        rcases Nat.lt_or_ge t s.tmps.length with hlt|hge
        ·exact hlt
        ·rw[B3,List.getD,cv hge]at ht;simp at ht
       have hslot:s.tmps[t]? =some (.v g' cs''):=by
        rw[B3,List.getD]at ht;rw[ai htl]at ht⊢;simpa using ht
       exact⟨_,by simp,hR.tv t _ hslot,hR.wt _ (bn hslot)⟩
      ·simp at hrv
     |cell b t=>
      simp only[Xm]at hrv;split at hrv
      ·rename_i key off g' sz hb hg hs;have hbl:b<s.tmps.length:=by
        rcases Nat.lt_or_ge b s.tmps.length with hlt|hge
        ·exact hlt
        ·rw[B3,List.getD,cv hge]at hb;simp at hb
       have hslot:s.tmps[b]? =some (.c (.ptr key off)):=by
        rw[B3,List.getD]at hb;rw[ai hbl]at hb⊢;simpa using hb
       have hc:=(hR.tv b _ hslot).c;simp only[CC]at hc;split at hrv
       ·rename_i bo hbo;obtain⟨arr,q1,q2,q3⟩:=hR.bx key bo hbo;obtain ⟨x, q4, q5⟩ := Tj (b := ρ.bx key) (o := 0) hg hs hrv q2 (λj y hj => by
         simp only[Nat.zero_add];rw[cell_of_row w _ j arr bo.ty (0,0) q1];simpa using hj)
        rw[Nat.zero_add]at q4;exact⟨x,by simp[hc,asAddr,q4],q5,P3 hrv (hR.wb key bo hbo)⟩
       ·simp at hrv
      ·simp at hrv
    obtain⟨x,k1,k2,k3⟩:=key;refine⟨x::xs,?_,?_,?_⟩
    ·rw[List.mapM_cons];simp only[Sem.run_bind,Sem.run_pure];rw[k1];simp only[cg];rw[h1];rfl
    ·refine⟨?_,h2⟩;cases g<;>exact k2
    ·intro p hp;simp only[aq]at hp;rcases hp with rfl|hp
     ·exact k3
     ·exact h3 p hp
   ·simp at h
  ·simp at h
theorem Py:∀(ks:List Kd) (cs:List AC),(DK ks cs).length=cs.length
 |[],[]=>rfl
 |[],_::_=>rfl
 | .sl _::_,[]=>rfl
 | .int _::_,[]=>rfl
 | .bool::_,[]=>rfl
 | .raw::_,[]=>rfl
 | .int _::l,_::cs=>by simp[DK,Py l cs]
 | .bool::l,_::cs=>by simp[DK,Py l cs]
 | .raw::l,_::cs=>by simp[DK,Py l cs]
 | .sl _::l,a::cs=>by cases a<;>simp[DK,Py l cs]
theorem Zal {ρ:Env}:∀(ts:List TypeId) (ps:List (Bool×List AC)) (xs:List Value),TP ρ w ps xs->TP ρ w (HS P ts ps) xs
 |[],ps,xs,h=>by simpa [HS]using h
 |_::_,[],xs,h=>by simpa [HS]using h
 |t::ts,(g,cs)::ps,[],h=>h.elim
 |t::ts,(g,cs)::ps,x::xs,h=>by
  refine⟨?_,Zal ts ps xs h.2⟩;have h1:=h.1;cases hk:Gf P 8 t with
  |none=>exact h1
  |some ks=>
   cases g
   ·obtain⟨a,rfl,ha⟩:=h1;have:=KX ks [a] [x] ⟨ha,trivial⟩;have hl:=Py ks [a];generalize hn:DK ks [a]=l at this hl;cases l with
    |nil=>simp at hl
    |cons b l=>
     cases l with
     |nil=>exact⟨b,hn,this.1⟩
     |cons=>simp at hl
   ·obtain⟨ys,hy,hc⟩:=h1;exact⟨ys,hy,KX ks cs _ hc⟩
theorem Q5u {aB:List (Nat×Box)} {aC:List (Nat×Row)}:∀(ts:List TypeId) (ps:List (Bool×List AC)),(∀p∈ps,∀c∈p.2,AC.wf aB aC c)->∀p∈HS P ts ps,∀c∈p.2,AC.wf aB aC c
 |[],ps,h=>by simpa [HS]using h
 |_::_,[],h=>by simp[HS]
 |t::ts,(g,cs)::ps,h=>by
  intro p hp;simp only[HS,aq]at hp;rcases hp with rfl|hp
  ·cases hk:Gf P 8 t with
   |none=>exact h (g,cs) (by simp)
   |some ks=>exact Ot ks cs (h (g,cs) (by simp))
  ·exact Q5u ts ps (λq hq=>h q (by simp[hq])) p hp
theorem Q2l {ρ:Env}:∀{ps:List (Bool×List AC)} {xs:List Value},TP ρ w ps xs->ps.length=xs.length
 |[],[],_=>rfl
 |_::_,_::_,h=>by simp[Q2l h.2]
 |[],_::_,h=>h.elim
 |_::_,[],h=>h.elim
theorem Z6s {ρ:Env} {ps:List (Bool×List AC)} {xs:List Value} (h:TP ρ w ps xs):TVR ρ w (J6 ps) (if h:xs.length=1 then xs[0]else .tuple xs.toArray):=by
 have hl:=Q2l h
 match ps,xs,h with
 |[],[],_=>exact⟨#[],rfl,trivial⟩
 |[(g,cs)],[x],h=>
  simp only[J6,List.length_singleton,dite_true,List.getElem_cons_zero];have:=h.1;cases g<;>exact this
 |p::q::ps,x::y::xs,h=>
  have: ¬(x::y::xs).length=1:=by simp
  rw[dif_neg this];exact⟨_,rfl,by simpa using h⟩
theorem Z2c {keys ids:List Nat} {ps:List (Bool×List AC)} (h:Ak (λp:Bool×List AC=>Ak (AC.inK keys ids) p.2) ps=true):TV.inK keys ids (J6 ps)=true:=by
 match ps,h with
 |[],h=>exact h
 |[(g,cs)],h=>exact Ax.1 h (g,cs) (by simp)
 |p::q::ps,h=>exact h
theorem Ziq {aB:List (Nat×Box)} {aC:List (Nat×Row)} {ps:List (Bool×List AC)} (h:∀p∈ps,∀c∈p.2,AC.wf aB aC c):TV.wf aB aC (J6 ps):=by
 match ps,h with
 |[],h=>exact h
 |[(g,cs)],h=>exact h (g,cs) (by simp)
 |p::q::ps,h=>exact h
theorem Z4n {fn:Func} {keys0:List Nat} {s:St} {a:Act} (hR:Rel Z s a.tmps w) (hk0:∀k b,Z.K0 k=some b->k∈keys0) {K:TV->Mem->Option R} {r:R} (h:Pr P C fn keys0 s K=some r):
  ∃x ρ' v m,K v m=some r/\(results fn a.tmps).run P w= .ok x w/\RelE Z [v] m.aB m.aC ρ' #[x] w:=by
 unfold Pr at h;split at h
 ·simp at h
 ·rename_i ps hps;have h1:∃s1,(HP P C s1 λs1=>match LM P s1 fn.results.toList with
    |none=>none
    |some ps=>match s1 with
     |⟨_,aB,aC⟩=>
      AR (HS P fn.resultTypes.toList ps) λps=>
      AR (Ln aB 4 (AX (cat (λp:Bool×List AC=>cat AC.keys p.2) ps) keys0)) λkeys=>
      AR (Nk aB (cat (λp:Bool×List AC=>p.2) ps) keys) λids=>
      AR (aB.filter λp=>AP keys p.1) λboxes'=>
      AR (aC.filter λp=>AP ids p.1) λrows'=>
      bif Ak (λp:Bool×List AC=>Ak (AC.inK keys ids) p.2) ps&&Ak (λp:Nat×Box=>Ak (AC.inK keys ids) p.2.cells) boxes'&&Ak (Ej aB) keys0&&Ak (AP keys) keys0 then K (J6 ps) (⟨boxes',rows'⟩:Mem)else none)=some r/\Rel Z s1 a.tmps w:=by
   cases ho:C.ownRes<;>rw[ho]at h
   ·exact SX _ s a.tmps hR _ _ h
   ·exact⟨s,h,hR⟩
  obtain⟨s1,h1,hR1⟩:=h1;obtain⟨s2,h2,ρ,hR2⟩:=PI hR1 h1;split at h2
  ·simp at h2
  ·rename_i ps2 hps2;obtain⟨xs,q1,q2,q3⟩:=Qyo hR2 _ _ hps2;obtain⟨tm,aB,aC⟩:=s2;simp only[Ba]at h2;have q2':=Zal fn.resultTypes.toList _ _ q2 (P:=P);have q3':=Q5u fn.resultTypes.toList _ q3 (P:=P);generalize HS P fn.resultTypes.toList ps2=ps3 at h2 q2' q3';generalize Ln aB 4 (AX (cat (λp:Bool×List AC=>cat AC.keys p.2) ps3) keys0)=keys at h2;generalize Nk aB (cat (λp:Bool×List AC=>p.2) ps3) keys=ids at h2;obtain⟨hc,h2⟩:=BY h2;simp only[aj]at hc;have hrun:(results fn a.tmps).run P w= .ok (if h:xs.length=1 then xs[0]else .tuple xs.toArray) w:=by
    unfold results;rw[Array.mapM_eq_mapM_toList];simp only[Sem.run_bind,Sem.run_map];erw[q1]
    simp only[cg,Sem.run_pure];congr 1
   have hin:TV.inK keys ids (J6 ps3)=true:=Z2c hc.1.1.1;have hwf:TV.wf aB aC (J6 ps3):=Ziq q3';refine⟨_,ρ,_,_,h2,hrun,hR2.filter (by simp) (λi v hi=> ?_) (λv hv=> ?_) (by simp[Ak,hin]) hc.1.1.2 (λk b hk=>Ax.1 hc.2 k (hk0 k b hk))⟩
   ·cases i with
    |zero=>simp at hi;subst hi;simpa using Z6s q2'
    |succ i=>simp at hi
   ·simp at hv;subst hv;exact hwf
theorem Q3q (hspec:Ai P C) (hok:∀t∈C.eqOk,P.stoodInHeld t=false) (hmix:P.follows .mixedOrders=true) (hZ:InZ Z) {L:Nat} {f:FuncId} {args:List TV} {mem:Mem} {K:TV->Mem->Option R} {r:R}
  (hsub:∀c,JP P f=some c->SubOK P C c 0) (h:ET P C L f args mem K=some r) {ρ:Env} {xs:List Value} (hR0:RelE Z args mem.aB mem.aC ρ xs.toArray w):
  Calls P f xs.toArray w λe w'=>∃x ρ' v m,e= .returned x/\K v m=some r/\RelE Z [v] m.aB m.aC ρ' #[x] w':=by
 unfold ET at h;split at h
 ·rename_i fn hfn;split at h
  ·rename_i c hc;obtain⟨_,h⟩:=BY h;simp only[Ba]at h;have hfn':P.funcs[f]? =some fn:=by simpa using hfn
   have hs:=hsub c (by unfold JP;rw[hfn];exact hc);refine calls_of_wp hfn' hc ?_;have hlen:xs.length=args.length:=by simpa using hR0.tl.symm
   have hR:Rel Z ⟨args++List.replicate (fn.ntmps-args.length) TV.dead,mem.aB,mem.aC⟩ (xs.toArray++Array.replicate (fn.ntmps-xs.toArray.size) undef) w:=by
    refine⟨ρ,hR0.slots (by simp[hlen]) (λi u hi=> ?_) (λu hu=> ?_)⟩
    ·rw[List.getElem?_append]at hi;split at hi
     ·rename_i hlt;have hxi:i<xs.length:=by omega
      have e:(xs.toArray++Array.replicate (fn.ntmps-xs.toArray.size) undef).getD i undef=xs.toArray.getD i undef:=by
       simp[Array.getD_eq_getD_getElem?,Array.getElem?_append,hxi]
      rw[e];exact hR0.tv i u hi
     ·have:=bn hi;rw[List.mem_replicate]at this;rw[this.2];trivial
    ·rw[bj]at hu;rcases hu with hu|hu
     ·exact hR0.wt u hu
     ·rw[List.mem_replicate]at hu;rw[hu.2];trivial
   refine wp_mono (Hj hspec hok hmix hZ c L 0 _ ⟨_,[]⟩ w _ hs hR rfl h) ?_;rintro e a' w' ⟨ae,s,rfl,hK,hR',hd⟩;have hk0:∀k b,Z.K0 k=some b->k∈mem.aB.map (·.1):=by
    intro k b hk;obtain⟨_,bo,hbo⟩:=hR0.k0 k b hk;exact K5.2 ⟨bo,hbo⟩
   have hfin:Pr P C fn (mem.aB.map (·.1)) s K=some r->a'.defers=[]/\∃x,(results fn a'.tmps).run P w'= .ok x w'/\∃y ρ' v m,Ending.returned x= .returned y/\K v m=some r/\RelE Z [v] m.aB m.aC ρ' #[y] w':=by
    intro hf;obtain⟨x,ρ',v,m,h0,h1,h2⟩:=Z4n hR' hk0 hf;exact⟨hd,x,h1,x,ρ',v,m,rfl,h0,h2⟩
   cases ae with
   |normal=>
    obtain⟨q1,x,q2,q3⟩:=hfin hK;exact⟨q1,x,q2,q3⟩
   |ret=>
    obtain⟨q1,x,q2,q3⟩:=hfin hK;exact⟨q1,x,q2,q3⟩
   |exit id=>simp at hK
  ·simp at h
 ·simp at h
theorem Qh0 {F:Nat->Prop} {ρ:Env} {aB:List (Nat×Box)} (h:Ak (λp:Nat×Box=>F3 p.1) aB=true):InZ (E6 F w ρ aB):=by
 intro k b hk;simp only[E6,bm]at hk;obtain⟨bo,hbo,_⟩:=hk;exact Ax.1 h (k,bo) (NT hbo)
theorem Qhb {sig osig:Sk} {m:List AC->Option (List AC)} (R:Type) (args:List TV) (mem:Mem) (K:TV->Mem->Option R):Ad sig osig m R args mem K=(Ad sig osig m (TV×Mem) args mem λv m=>some (v,m)).bind λp=>K p.1 p.2:=by
  obtain⟨aB,aC⟩:=mem;simp only[Ad];cases Ak (λp:Nat×Box=>F3 p.1) aB
  ·rfl
  ·simp only[ah];cases Fx sig ⟨args,aB,aC⟩with
   |none=>rfl
   |some vars=>
    dsimp only;cases m vars with
    |none=>rfl
    |some o=>
     simp only[af];generalize BA osig o=s;obtain⟨tm,b,r⟩:=s;dsimp only;split<;>rfl
theorem Qwm (hspec:Ai P C) (hok:∀t∈C.eqOk,P.stoodInHeld t=false) (hmix:P.follows .mixedOrders=true) {L:Nat} {f:FuncId} {sig osig:Sk} {m:List AC->Option (List AC)} (h1:sig.okB=true) (h2:osig.okB=true)
  (hsub:∀c,JP P f=some c->SubOK P C c 0) (hm:∀vars o,m vars=some o->Am P C L f sig osig vars=some o) {args:List TV} {mem:Mem} {v:TV} {mem':Mem} (h:(Ad sig osig m (TV×Mem) args mem λv m=>some (v,m))=some (v,mem')):PCallM P f args mem v mem':=by
  obtain⟨aB,aC⟩:=mem;simp only[Ad]at h;obtain⟨hin,h⟩:=BY h;split at h
  ·rename_i vars hv;simp only[cq]at h;obtain⟨o,ho,h⟩:=h;have hmo:=hm vars o ho;intro F w ρ xs hR0;have hZ:InZ (E6 F w ρ aB):=Qh0 hin;have hR1:=hR0.rebuild hZ h1 hv;unfold Am at hmo;generalize hs:BA sig vars=s1 at hmo hR1;obtain⟨args1,boxes1,rows1⟩:=s1;dsimp only at hmo hR1;refine(Q3q hspec hok hmix hZ hsub hmo hR1).mono ?_;rintro e w' ⟨x,ρ',v',m',he,hro,hR2⟩;obtain⟨b',r'⟩:=m';dsimp only at hro hR2;have hR3:=hR2.rebuild hZ h2 hro;generalize hs2:BA osig o=s2 at h hR3;obtain⟨tm,b2,r2⟩:=s2;dsimp only at h hR3;split at h
   ·simp only[ap,cm]at h;obtain⟨rfl,rfl⟩:=h;exact⟨x,ρ',he,hR3⟩
   ·simp at h
  ·simp at h
theorem Zrl (hspec:Ai P C) (hok:∀t∈C.eqOk,P.stoodInHeld t=false) (hmix:P.follows .mixedOrders=true) {L:Nat} {f:FuncId} (hc:QY P f) {sig osig:Sk} {m:List AC->Option (List AC)} (h1:sig.okB=true) (h2:osig.okB=true)
  (hsub:∀c,JP P f=some c->SubOK P C c 0) (hm:∀vars o,m vars=some o->Am P C L f sig osig vars=some o):SpecRight P f (Ad sig osig m):=
 ⟨Qhb,λ_ _ _ _ h=>PCallM.x (Qwm hspec hok hmix h1 h2 hsub hm h) hc⟩
end
open Go.RowKit Go.WideShapes Go.ChangeShapes
def Rn (P:Program) (g:TypeId->Option (List Kd)):List Field->Nat->Option (List Kd)
 |[],_=>some []
 |f::fs,o=>match g f.type with
  |some ks=>bif Nat.beq f.offset o&&Nat.beq (P.cellsOf f.type) ks.length then(Rn P g fs (o+ks.length)).map (ks++ ·)else none
  |none=>none
def Id (P:Program):Nat->TypeId->Option (List Kd)
 |0,_=>none
 |n+1,t=>match P.underlying t with
  |some .bool=>some [.bool]
  |some (.int k)=>some [.int k]
  |some (.slice e)=>(Id P n e).bind λks=>bif Nat.beq (P.cellsOf e) ks.length&&Nat.blt 0 ks.length then some [.sl ks]else none
  |some (.struct fs)=>(Rn P (Id P n) fs.toList 0).bind λks=>bif Nat.beq (P.cellsOf t) ks.length then some ks else none
  |some (.array m e)=>(Id P n e).bind λks=>bif Nat.beq (P.cellsOf e) ks.length&&Nat.beq (P.cellsOf t) (m*ks.length)then some (RB ks m)else none
  |_=>none
mutual
def okC:Kd->AC->Prop
 | .int k,a=>k.min<=Af a/\Af a<=k.max
 | .bool,_=>True
 | .sl ks,a=>(BS a).length<=maxLen/\∀c∈BS a,okR ks c/\AN ks c=c
 | .raw,_=>True
def okR:List Kd->List AC->Prop
 |[],_=>True
 |_::_,[]=>False
 |k::ks,a::cs=>okC k a/\okR ks cs
end
def Op (w:World) (ks:List Kd) (cs:List Value):Prop:=∃raw,AN ks raw=raw/\CL (CP (λb=>b<w.heap.size) w) raw cs/\okR ks raw
theorem Op.length {w:World} {ks:List Kd} {cs:List Value} (h:Op w ks cs):cs.length=ks.length:=by
 obtain⟨raw,h1,h2,_⟩:=h;rw[<-h2.length,<-h1,Qr]
theorem Q1d:∀(k1 k2:List Kd) (r1 r2:List AC),r1.length=k1.length->AN (k1++k2) (r1++r2)=AN k1 r1++AN k2 r2
 |[],k2,[],r2,_=>rfl
 |k::k1,k2,a::r1,r2,h=>by
  simp only[ay];rw[Qm8,Qm8,Q1d k1 k2 r1 r2 (by simpa using h)];rfl
 |[],_,_::_,_,h=>by simp at h
 |_::_,_,[],_,h=>by simp at h
theorem Q7r:∀{k1 k2:List Kd} {r1 r2:List AC},r1.length=k1.length->okR k1 r1->okR k2 r2->okR (k1++k2) (r1++r2)
 |[],_,[],_,_,_,h=>h
 |k::k1,k2,a::r1,r2,hl,h,h'=>by
  simp only[ay,okR]at h⊢;exact⟨h.1,Q7r (by simpa using hl) h.2 h'⟩
 |[],_,_::_,_,h,_,_=>by simp at h
 |_::_,_,[],_,h,_,_=>by simp at h
theorem Op.append {w:World} {k1 k2:List Kd} {c1 c2:List Value} (h:Op w k1 c1) (h':Op w k2 c2):Op w (k1++k2) (c1++c2):=by
 obtain⟨r1,a1,a2,a3⟩:=h;obtain⟨r2,b1,b2,b3⟩:=h';have hl:r1.length=k1.length:=by rw[<-a1,Qr]
 exact⟨r1++r2,by rw[Q1d _ _ _ _ hl,a1,b1],a2.append b2,Q7r hl a3 b3⟩
theorem Op.nil {w:World}:Op w [] []:=⟨[],rfl,trivial,by simp[okR]⟩
section
variable {H:Type} {enc:TypeId×Value->H} {P:Program} {w:World}
theorem Q6g {g:TypeId->Option (List Kd)} {m:Nat} (hg:∀(t:TypeId) (ks:List Kd) (cs:List Value) (x:DataW H×List MemPlace),g t=some ks->DataW.trod enc P w 0 (λ_=>true) true m t cs=some x->Op w ks cs):
  ∀(fs:List Field) (o:Nat) (ks:List Kd) (cs:List Value),Rn P g fs o=some ks->cs.length=o+ks.length->
   (∀f∈fs,∃x,DataW.trod enc P w 0 (λ_=>true) true m f.type ((cs.drop f.offset).take (P.cellsOf f.type))=some x)->Op w ks (cs.drop o)
 |[],o,ks,cs,h,hl,_=>by
  simp[Rn]at h;subst h;have:cs.drop o=[]:=by apply List.drop_eq_nil_of_le;simp at hl;omega
  rw[this];exact Op.nil
 |f::fs,o,ks,cs,h,hl,hx=>by
  simp only[Rn]at h;split at h
  ·rename_i k1 hk1;cases hc:(Nat.beq f.offset o&&Nat.beq (P.cellsOf f.type) k1.length)<;>rw[hc]at h
   ·simp at h
   ·simp only[ah,bm]at h;obtain⟨k2,h2,rfl⟩:=h;simp only[aj]at hc;have e1:f.offset=o:=ac hc.1;have e2:P.cellsOf f.type=k1.length:=ac hc.2;obtain⟨x,hx1⟩:=hx f (by simp);have f1:=hg _ _ _ _ hk1 hx1;rw[e1,e2]at f1;have f2:=Q6g hg fs (o+k1.length) k2 cs h2 (by simp at hl;omega) (λf' hf'=>hx f' (by simp[hf']));have:cs.drop o=(cs.drop o).take k1.length++cs.drop (o+k1.length):=by
     rw[<-List.drop_drop,List.take_append_drop]
    rw[this];exact f1.append f2
  ·cases h
theorem Qzr {ks:List Kd}:∀(m:Nat) (cs:List Value),cs.length=m*ks.length->(∀i,i<m->Op w ks ((cs.drop (i*ks.length)).take ks.length))->Op w (RB ks m) cs
 |0,cs,hl,_=>by
  have:cs=[]:=by simpa using hl
  subst this;exact Op.nil
 |m+1,cs,hl,h=>by
  have h0:=h 0 (by omega);simp at h0;have:cs=cs.take ks.length++cs.drop ks.length:=(List.take_append_drop _ _).symm;rw[this,RB];refine h0.append (Qzr m _ ?_ λi hi=> ?_)
  ·simp[hl,Nat.succ_mul]
  ·have:=h (i+1) (by omega);rw[List.drop_drop];rw[Nat.succ_mul,Nat.add_comm]at this;exact this
theorem Znn {ks:List Kd} {cs:List Value} {e t:TypeId} {fuel:Nat} {x:DataW H×List MemPlace} (hu:P.underlying t=some (.slice e)) (e1:P.cellsOf e=ks.length) (e2:0<ks.length)
  (hx:DataW.trod enc P w 0 (λ_=>true) true fuel t cs=some x) (ih:∀(m:Nat) (cs:List Value) (x:DataW H×List MemPlace),DataW.trod enc P w 0 (λ_=>true) true m e cs=some x->Op w ks cs):Op w [.sl ks] cs:=by
 rcases Go.Deep.open_slice hu hx with⟨rfl,_⟩|⟨a,len,cap,m,n,D,Pl,rfl,_,hl,hcm,hm,_,hi⟩
 ·refine⟨[.view ks []],rfl,⟨RO ks,trivial⟩,?_⟩;simp[okR,okC,BS]
 ·have hmc:m=cap:=by simpa using hm
  subst hmc
  have hex:∀i,∃(vs:List Value) (raw:List AC),i<len->(w.cells? 0 (a.add (i*P.cellsOf e)) (P.cellsOf e)=some vs/\AN ks raw=raw/\CL (CP (λb=>b<w.heap.size) w) raw vs/\okR ks raw):=λi=>by
   by_cases hil:i<len
   ·obtain⟨cs',h1,h2⟩:=hi i (by omega);obtain⟨raw,r1,r2,r3⟩:=ih n cs' _ h2;exact⟨cs',raw,λ_=>⟨h1,r1,r2,r3⟩⟩
   ·exact⟨[],[],λh=>(hil h).elim⟩
  let vs:Nat->List Value:=λi=>Classical.choose (hex i)
  let raws:Nat->List AC:=λi=>Classical.choose (Classical.choose_spec (hex i))
  have hvs:∀i,i<len->(w.cells? 0 (a.add (i*P.cellsOf e)) (P.cellsOf e)=some (vs i)/\AN ks (raws i)=raws i/\CL (CP (λb=>b<w.heap.size) w) (raws i) (vs i)/\okR ks (raws i)):=λi=>Classical.choose_spec (Classical.choose_spec (hex i));have hlen:((List.range len).map raws).length=len:=by simp
  have hget:∀i (hi:i<((List.range len).map raws).length),((List.range len).map raws)[i]=raws i:=λi hi=>by simp
  have hmem:∀c∈(List.range len).map raws,∃i,i<len/\c=raws i:=λc hc=>by
   simp only[ba,List.mem_range]at hc;obtain⟨i,h1,h2⟩:=hc;exact⟨i,h1,h2.symm⟩
  refine⟨[.view ks ((List.range len).map raws)],rfl,⟨?_,trivial⟩,?_⟩
  ·rw[CP];refine⟨some a,m,by rw[hlen],by rw[hlen];exact hl,λc hc=> ?_,?_⟩
   ·obtain⟨i,h1,rfl⟩:=hmem c hc;exact(hvs i h1).2.1
   ·by_cases h0:len=0
    ·subst h0;exact .inl rfl
    ·right;have h0:0<len:=by omega
     obtain⟨hc0,r1,r2,_⟩:=hvs 0 h0;obtain⟨_,hlen0,hat0⟩:=World.cells?_some hc0;have h00:=hat0 0 (by omega);simp only[Nat.zero_mul]at h00;have ea:(a.add 0).add 0=a:=by simp[Addr.add]
     rw[ea,ai (by omega)]at h00;have hspot:a.spot=none/\a.block<w.heap.size:=by
      unfold World.cell? at h00;split at h00
      ·rename_i hb;split at h00
       ·cases h00
       ·rename_i hsp;refine⟨by simpa using hsp,(db.1 hb).1⟩
      ·cases h00
     obtain⟨b,o,sp⟩:=a;obtain⟨rfl,hb⟩:=hspot;refine⟨b,o,rfl,hb,Tg λi hil=> ?_⟩;rw[hget i hil];rw[hlen]at hil;obtain⟨hc1,hr1,hr2,_⟩:=hvs i hil;obtain⟨_,hle,hat⟩:=World.cells?_some hc1;refine⟨by rw[<-hr1];exact Qr _ _,Qee _ (vs i) b _ hr2 λj y hj=> ?_⟩;have hjl:j<(vs i).length:=(List.getElem?_eq_some_iff.1 hj).1;have:=hat j (by omega);rw[<-hj,<-this,e1];congr 1;unfold Addr.add;by_cases h1:i*ks.length=0<;>by_cases h2:j=0<;>simp[h1,h2,Nat.add_assoc]
  ·simp only[okR,okC,BS,and_true];refine⟨by rw[hlen];omega,λc hc=> ?_⟩;obtain⟨i,h1,rfl⟩:=hmem c hc;exact⟨(hvs i h1).2.2.2,(hvs i h1).2.1⟩
theorem QM:∀(n:Nat) (m:Nat) (t:TypeId) (ks:List Kd) (cs:List Value) (x:DataW H×List MemPlace),Id P n t=some ks->DataW.trod enc P w 0 (λ_=>true) true m t cs=some x->Op w ks cs
 |0,_,_,_,_,_,h,_=>by simp[Id]at h
 |n+1,m,t,ks,cs,x,h,hx=>by
  unfold Id at h;split at h
  ·rename_i hu;simp at h;subst h;obtain⟨b,rfl,_⟩:=DataW.trod_bool hu hx;exact⟨[.bool b],rfl,⟨Qvq _,trivial⟩,by simp[okR,okC]⟩
  ·rename_i k hu;simp at h;subst h;obtain⟨i,rfl,_,hw⟩:=DataW.trod_int hu hx;exact⟨[.int k i],rfl,⟨Gq _ _,trivial⟩,by simpa [okR,okC,Af,Lit.wf]using hw⟩
  ·rename_i e hu;simp only[cq]at h;obtain⟨k1,h1,h2⟩:=h;cases hc:(Nat.beq (P.cellsOf e) k1.length&&Nat.blt 0 k1.length)<;>rw[hc]at h2
   ·simp at h2
   ·simp at h2;subst h2;simp only[aj]at hc;have e1:=ac hc.1;have e2:0<k1.length:=by have:=hc.2;simp[Nat.blt]at this;omega
    exact Znn hu e1 e2 hx λm cs x=>QM n m e k1 cs x h1
  ·rename_i fs hu;obtain⟨xs,m',rfl,_,hlen,hxl,hf⟩:=DataW.trod_struct hu hx;simp only[cq]at h;obtain⟨k1,h1,h2⟩:=h;cases hc:Nat.beq (P.cellsOf t) k1.length<;>rw[hc]at h2
   ·simp at h2
   ·simp at h2;subst h2;have e:=ac hc;have := Q6g (λt ks cs x => QM n m' t ks cs x) fs.toList 0 k1 cs h1 (by omega) (λf hf' => by
     obtain⟨i,hi⟩:=List.mem_iff_getElem?.1 hf';have hi':fs[i]? =some f:=by simpa using hi
     have:=hf i f hi';have hil:i<fs.size:=by
      have:=(db.1 hi').1;exact this
     rw[this,ai (by omega)];exact⟨_,rfl⟩)
    simpa using this
  ·rename_i k e hu;obtain⟨xs,m',rfl,_,hlen,hxl,hf⟩:=DataW.trod_array hu hx;simp only[cq]at h;obtain⟨k1,h1,h2⟩:=h;cases hc:(Nat.beq (P.cellsOf e) k1.length&&Nat.beq (P.cellsOf t) (k*k1.length))<;>rw[hc]at h2
   ·simp at h2
   ·simp at h2;subst h2;simp only[aj]at hc;have e1:=ac hc.1;have e2:=ac hc.2;refine Qzr k cs (by omega) λi hi=> ?_;have:=hf i hi;rw[e1]at this;refine QM n m' e k1 _ (xs[i]'(by omega)) h1 ?_;rw[this,ai]
  ·cases h
end
structure Ar where
 agg:Bool
 ks:List Kd
 raw:List AC
def Ar.sh (a:Ar):Bool×List Kd:=(a.agg,a.ks)
def Ar.ok (a:Ar):Prop:=okR a.ks a.raw/\AN a.ks a.raw=a.raw
def Ar.tv (a:Ar):TV:= .v a.agg (AN a.ks a.raw)
def shK (P:Program) (t:TypeId):Option (Bool×List Kd):=match P.underlying t with
 |some (.struct _)=>(Id P 8 t).map λks=>(true,ks)
 |some (.array _ _)=>(Id P 8 t).map λks=>(true,ks)
 |some .bool=>some (false,[.bool])
 |some (.int k)=>some (false,[.int k])
 |some (.slice _)=>(Id P 8 t).map λks=>(false,ks)
 |_=>none
section
variable {H:Type} {enc:TypeId×Value->H} {P:Program} {W:World}
theorem Z3d {t:TypeId} {v:Value} {d:DataW H} {p:List MemPlace} {r:Reach} {b0:Nat} {sh:Bool×List Kd} (hs:shK P t=some sh) (hv:Value.okWide P W r b0 t v)
  (h:DataW.Trod enc P W 0 (λ_=>true) true t v d p):∃a:Ar,a.sh=sh/\a.ok/\∀(ρ:Env),ρ.im=(λb=>b<W.heap.size)->TVR ρ W a.tv v:=by
 have agg:∀(ks:List Kd) (cs:Array Value),Id P 8 t=some ks->v= .agg cs->∃a:Ar,a.sh=(true,ks)/\a.ok/\∀(ρ:Env),ρ.im=(λb=>b<W.heap.size)->TVR ρ W a.tv v:=by
  rintro ks cs hk rfl;obtain⟨fuel,hf⟩:=h;obtain⟨raw,r1,r2,r3⟩:=QM 8 fuel t ks _ _ hk hf;refine⟨⟨true,ks,raw⟩,rfl,⟨r3,r1⟩,λρ hρ=>⟨cs,rfl,?_⟩⟩;rw[r1];exact r2.mono λa _ x hx=>IT (by rw[hρ];exact hx)
 unfold shK at hs;split at hs
 ·rename_i fs hu;simp only[bm]at hs;obtain⟨ks,hk,rfl⟩:=hs;obtain⟨cs,rfl,_⟩:=okWide_struct hu hv;exact agg ks cs hk rfl
 ·rename_i k e hu;simp only[bm]at hs;obtain⟨ks,hk,rfl⟩:=hs;obtain⟨cs,rfl,_⟩:∃cs,v= .agg cs/\cs.size=P.cellsOf t:=by
   simp only[Value.okWide,hu]at hv;obtain⟨cs,h1,h2,_⟩:=hv;exact⟨cs,h1,h2⟩
  exact agg ks cs hk rfl
 ·rename_i hu;simp at hs;subst hs;obtain⟨n,rfl,_,_⟩:=open_bool hu hv h;exact⟨⟨false,[.bool],[.bool n]⟩,rfl,⟨by simp[okR,okC],rfl⟩,λρ _=>TVR.mkBool n⟩
 ·rename_i k hu;simp at hs;subst hs;obtain⟨n,rfl,_,_,hw⟩:=open_int hu hv h;exact⟨⟨false,[.int k],[.int k n]⟩,rfl,⟨by simpa [okR,okC,Af,Lit.wf]using hw,rfl⟩,λρ _=>TVR.mkInt k n⟩
 ·rename_i e hu;simp only[bm]at hs;obtain⟨ks,hk,rfl⟩:=hs;obtain⟨a0,len,cap,rfl⟩:=okWide_slice hu hv;obtain⟨fuel,hf⟩:=h;obtain⟨raw,r1,r2,r3⟩:=QM 8 fuel t ks _ _ hk hf;have hl:raw.length=1:=by rw[r2.length];simp[Value.cells]
  match raw,hl with
  |[a],_=>
   refine⟨⟨false,ks,[a]⟩,rfl,⟨r3,r1⟩,λρ hρ=>⟨a,r1,?_⟩⟩;have:=r2.1;exact IT (by rw[hρ];simpa [Value.cells]using this)
 ·cases hs
theorem Qw8 {r:Reach} {b0:Nat}:∀(ts:List TypeId) (vs:List Value) (ds:List (DataW H)) (p:List MemPlace) (shs:List (Bool×List Kd)),ts.map (shK P)=shs.map some->
  (∀(j:Nat) (t:TypeId) (v:Value),ts[j]? =some t->vs[j]? =some v->Value.okWide P W r b0 t v)->DataW.TrodAll enc P W 0 (λ_=>true) true ts vs ds p->
  ∃as:List Ar,as.map Ar.sh=shs/\(∀a∈as,a.ok)/\vs.length=as.length/\∀(i:Nat) (a:Ar) (x:Value),as[i]? =some a->vs[i]? =some x->∀(ρ:Env),ρ.im=(λb=>b<W.heap.size)->TVR ρ W a.tv x
 |[],vs,ds,p,shs,hs,_,h=>by
  obtain⟨rfl,rfl,rfl⟩:=trodAll_nil h;cases shs with
  |nil=>exact⟨[],rfl,by simp,rfl,by simp⟩
  |cons=>simp at hs
 |t::ts,vs,ds,p,shs,hs,hv,h=>by
  obtain⟨v,vs1,d,ds1,a,b,rfl,rfl,rfl,h1,h2⟩:=trodAll_cons h;cases shs with
  |nil=>simp at hs
  |cons sh shs=>
   simp only[bf,List.cons.injEq]at hs;obtain⟨as,e1,e2,e3,e4⟩:=Qw8 ts vs1 ds1 b shs hs.2 (λj t v ht hvv=>hv (j+1) t v (by simpa using ht) (by simpa using hvv)) h2;obtain⟨a,ha,hok,hp⟩:=Z3d hs.1 (hv 0 t v rfl rfl) h1;refine⟨a::as,by simp[ha,e1],?_,by simp[e3],?_⟩
   ·intro x hx;rcases aq.1 hx with rfl|hx
    ·exact hok
    ·exact e2 x hx
   ·intro i a' x h1 h2;cases i with
    |zero=>simp at h1 h2;subst h1;subst h2;exact hp
    |succ i=>exact e4 i a' x (by simpa using h1) (by simpa using h2)
theorem Qu4 (hl:laidOutB P=true) {W':World} (hb:Below W.heap.size W W') {sp:Nat->Bool}:∀(ts:List TypeId) (vs:List Value) (ds:List (DataW H)) (p:List MemPlace),
  ts.all (λt=>P.readableRec t&&decide (t<P.types.size))=true->(∀x∈p,x.block<W.heap.size/\sp x.block=true)->DataW.TrodAll enc P W 0 (λ_=>true) true ts vs ds p->
  DataW.TrodAll enc P W' 0 sp true ts vs ds p
 |[],vs,ds,p,_,_,h=>by
  obtain⟨rfl,rfl,rfl⟩:=trodAll_nil h;exact rfl
 |t::ts,vs,ds,p,hr,hlt,h=>by
  obtain⟨v,vs1,d,ds1,a,b,rfl,rfl,rfl,h1,h2⟩:=trodAll_cons h;simp only[List.all_cons,aj,bz]at hr;refine⟨a,b,WideElems.Trod_stays hl hr.1.1 hr.1.2 h1 (λx hx=>hb.same (hlt x (by simp[hx])).1) (λx hx=>(hlt x (by simp[hx])).2),?_,rfl⟩;exact Qu4 hl hb ts vs1 ds1 b hr.2 (λx hx=>hlt x (by simp[hx])) h2
theorem Zly {f:Func} {s:ChangeSpec} {apart fresh handsOn again:Bool} {W W':World} {args:Array Value} {v:Value} {ds gs:List (DataW H)} {before pa pv:List MemPlace}
  (hW:DataW.Whole enc P f.params.toList s.vars apart W args.toList ds gs before)
  (hres:∀(b:Nat) (sp:Nat->Bool) (hd:Bool),DataW.TrodAll enc P W' b sp hd f.resultTypes.toList (v.resultList f.resultTypes.size) (s.fn H (ds++gs)).results [])
  (hargs:∀sp:Nat->Bool,(∀p∈before,sp p.block=true)->DataW.TrodAll enc P W' 0 sp true f.params.toList args.toList (s.fn H (ds++gs)).args pa)
  (hvars:∀sp:Nat->Bool,(∀p∈before,sp p.block=true)->DataW.TrodVars enc P W' sp s.vars (s.fn H (ds++gs)).vars pv)
  (hps:before=pa++pv) (hb:Below W.heap.size W W')
  (hok:∀(j:Nat) (t:TypeId) (r:Value),f.resultTypes[j]? =some t->(v.resultList f.resultTypes.size)[j]? =some r->Value.okWide P W' .any 0 t r):
  s.post enc P f apart fresh handsOn again W args v W':=by
 have hlt:∀p∈before,p.block<W.heap.size:=λp hp=>hW.lt p hp;have hold:∀p∈before,(λb=>decide (b<W.heap.size)) p.block=true:=λp hp=>by simpa using hlt p hp
 refine⟨ds,gs,before,[],pa,pv,hW,hres _ _ _,hargs _ hold,hvars _ hold,World.keptBut_mono (λp hp=>⟨hp,?_⟩) (hb.frame (· ∈before)),λ_=> ?_⟩
 ·rw[hps,bj]at hp;exact Or.inr hp
 ·obtain⟨_,_,_,_,_,hz,hn⟩:=hW;refine⟨hok,_,_,([]++pa)++pv,⟨[]++pa,pv,trodAll_append (hargs _ (λ_ _=>rfl)) (hres _ _ _),hvars _ (λ_ _=>rfl),rfl,?_,?_⟩,?_⟩
  ·intro b off hp;have hin:MemPlace.cell b off∈before:=by rw[hps];simpa using hp
   rw[hb.frozen (hlt _ hin)];exact hz b off hin
  ·intro ha;have:=hn ha;rw[hps]at this;simpa using this
  ·intro p hp _;rw[hps];simpa using hp
theorem Zy9 {f:FuncId} {fn:Func} {s:ChangeSpec} {apart fresh handsOn again:Bool} {tb:TypeId} {shs:List (Bool×List Kd)} {args:Array Value} {ds gs:List (DataW H)} {before:List MemPlace} {base:Nat}
  (hvars:s.vars=[]) (hl:laidOutB P=true) (hrt:fn.resultTypes= #[tb]) (htb:P.underlying tb=some .bool)
  (hr:fn.params.toList.all (λt=>P.readableRec t&&decide (t<P.types.size))=true) (hsh:fn.params.toList.map (shK P)=shs.map some)
  (hspec:∀l:List (DataW H),l.length=shs.length->s.fn H l={results:=[.lit (.bool true)],args:=l})
  (hlaw:∀as:List Ar,as.map Ar.sh=shs->(∀a∈as,a.ok)->PCallM P f (as.map Ar.tv) ⟨[],[]⟩ (.v false [.bool true]) ⟨[],[]⟩)
  (hval:∀(j:Nat) (t:TypeId) (v:Value),fn.params[j]? =some t->args[j]? =some v->Value.okWide P W .any base t v)
  (hW:DataW.Whole enc P fn.params.toList s.vars apart W args.toList ds gs before):
  Calls P f args W λe W'=>∃v,e= .returned v/\s.post enc P fn apart fresh handsOn again W args v W':=by
 have hW':=hW;obtain⟨p,q,hA,hV,rfl,hfz,hnd⟩:=hW;rw[hvars]at hV;obtain⟨rfl,rfl⟩:=trodVars_none hV;have hlt:∀x∈p++[],x.block<W.heap.size:=λx hx=>hW'.lt x hx;obtain⟨as,e1,e2,e3,e4⟩:=Qw8 (r:= .any) (b0:=base) fn.params.toList args.toList ds p shs hsh (λj t v ht hv=>hval j t v (by simpa using ht) (by simpa using hv)) hA;have hdl:ds.length=shs.length:=by
  have:∀(ts:List TypeId) (vs:List Value) (ds:List (DataW H)) (p:List MemPlace),DataW.TrodAll enc P W 0 (λ_=>true) true ts vs ds p->ds.length=vs.length:=by
   intro ts;induction ts with
   |nil=>intro vs ds p h;obtain⟨rfl,rfl,rfl⟩:=trodAll_nil h;rfl
   |cons t ts ih=>
    intro vs ds p h;obtain⟨v,vs1,d,ds1,a,b,rfl,rfl,rfl,h1,h2⟩:=trodAll_cons h;simp[ih _ _ _ h2]
  rw[this _ _ _ _ hA,e3,<-e1,ag]
 have hfn:=hspec (ds++[]) (by simpa using hdl);have hrel:RelE (E6 (λb=>b<W.heap.size) W ⟨λ_=>0,λ_=> .slice none 0 0,λ_=>0,λb=>b<W.heap.size⟩ []) (as.map Ar.tv) [] [] ⟨λ_=>0,λ_=> .slice none 0 0,λ_=>0,λb=>b<W.heap.size⟩ args.toList.toArray W:=by
  refine⟨by simpa using e3.symm,λi v hi=> ?_,λv hv=> ?_,λk b hk=>by simp[Ac]at hk,λk b hk=>by simp[Ac]at hk,λk k' b b' hk=>by simp[Ac]at hk,λid r hr=>by simp[Ac]at hr,
   λid id' r r' g hr=>by simp[Ac]at hr,λk b id r hk=>by simp[Ac]at hk,λb hb=>⟨hb,λk bo hk=>by simp[Ac]at hk,λid r hr=>by simp[Ac]at hr⟩,Fr.refl _ _,λ_ h=>h,λ_ h=>h,λb h=> .inl h,λk b hk=>by simp[E6,Ac]at hk⟩
  ·simp only[List.getElem?_map,bm]at hi;obtain⟨a,ha,rfl⟩:=hi;have hil:i<args.toList.length:=by rw[e3];exact(List.getElem?_eq_some_iff.1 ha).1
   have hil2:i<args.size:=by simpa using hil
   have e:args.toList.toArray.getD i undef=args.toList[i]:=by simp[Array.getD,hil2]
   rw[e];exact e4 i a _ ha (ai hil) _ rfl
  ·simp only[ba]at hv;obtain⟨a,ha,rfl⟩:=hv;intro c hc;obtain⟨i,hi⟩:=List.getElem?_of_mem ha;have hil:i<args.toList.length:=by rw[e3];exact(List.getElem?_eq_some_iff.1 hi).1
   have htv:=e4 i a _ hi (ai hil) ⟨λ_=>0,λ_=> .slice none 0 0,λ_=>0,λb=>b<W.heap.size⟩ rfl;have hcalm:∀(ks:List Kd) (cs:List AC) (j:Nat),∀c∈EL ks cs j,AC.calm c=true:=by
    intro ks;induction ks with
    |nil=>intro cs j c hc;simp[EL]at hc
    |cons k ks ih=>
     intro cs j c hc;simp only[EL,aq]at hc;rcases hc with rfl|hc
     ·cases k<;>try rfl
      generalize nth AC.dead cs j=b;cases b<;>rfl
     ·exact ih cs _ c hc
   have:=hcalm a.ks a.raw 0 c hc;cases c<;>first|trivial|(simp[AC.calm]at this)
 have hcall:=hlaw as e1 e2 _ W _ args.toList hrel;have hargs:args.toList.toArray=args:=by simp
 rw[hargs]at hcall;refine hcall.mono ?_;rintro e W' ⟨x,ρ',rfl,hR⟩;have hb:Below W.heap.size W W':=⟨hR.fr.os,hR.fr.tape,hR.fr.output,hR.fr.size,λk hk=>hR.fr.block k hk⟩;have hx:x= .bool true:=by
  have:TVR ρ' W' (.c (.bool true)) x:=by simpa using hR.tv 0 _ rfl
  obtain⟨a,ha,hc⟩:=this;simp at ha;subst ha;simpa [CC,CP]using hc
 subst hx;refine⟨_,rfl,Zly (pa:=p) (pv:=[]) hW' ?_ ?_ ?_ rfl hb (ok_one hrt rfl (okWide_bool_mk htb true))⟩
 ·intro b sp hd;rw[hfn,hrt];exact trodAll_mk1 (shut_bool htb true)
 ·intro sp hsp;rw[hfn];simp only[List.append_nil];exact Qu4 hl hb _ _ _ _ hr (λx hx=>⟨hlt x (by simp[hx]),hsp x (by simp[hx])⟩) hA
 ·intro sp hsp;rw[hfn,hvars];exact rfl
end
theorem Sc:∀{l:List (Nat×Spec)} {k:Nat} {b:Spec},Il l k=some b->(k,b)∈l
 |[],_,_,h=>by simp[Il]at h
 |(j,c)::l,k,b,h=>by
  simp only[Il]at h;cases hb:Nat.beq j k<;>rw[hb]at h
  ·simp only[an]at h;exact List.mem_cons_of_mem _ (Sc h)
  ·simp at h;subst h;rw[ac hb];simp
def K8 (P:Program) (f:FuncId):Bool:=match P.funcs[f]? with
 |some fn=> !(fn.name== "runtime.NumGoroutine")&&fn.body.isSome
 |none=>false
theorem UA {P:Program} {f:FuncId} (h:K8 P f=true):QY P f:=by
 unfold K8 at h;split at h
 ·rename_i fn hf;simp only[aj,Bool.not_eq_true']at h;exact⟨fn,hf,h.1,by cases hb:fn.body<;>simp_all⟩
 ·cases h
def Al (P:Program) (p:Nat×Spec):Prop:=SpecRight P p.1 p.2
def AllOK (P:Program):List (Nat×Spec)->Prop
 |[]=>True
 |p::l=>Al P p/\AllOK P l
theorem AllOK.mem {P:Program}:∀{l:List (Nat×Spec)},AllOK P l->∀p∈l,Al P p
 |_::l,h,p,hp=>by
  rcases aq.1 hp with rfl|hp
  ·exact h.1
  ·exact AllOK.mem h.2 p hp
theorem Ao {P:Program} {C:Cfg} {l:List (Nat×Spec)} (hC:C.spec=Il l) (h:AllOK P l) (hro:C.ro=λ_=>false:=by rfl):Ai P C:=by
 refine⟨λf g hg=> ?_,λf g _ h=> ?_⟩
 ·rw[hC]at hg;exact h.mem _ (Sc hg)
 ·rw[hro]at h;cases h
def AllRo (rs:List Nat):List (Nat×Spec)->Prop
 |[]=>True
 |p::l=>(AP rs p.1=false\/Ue p.2)/\AllRo rs l
theorem AllRo.mem {rs:List Nat}:∀{l:List (Nat×Spec)},AllRo rs l->∀p∈l,AP rs p.1=false\/Ue p.2
 |_::l,h,p,hp=>by
  rcases aq.1 hp with rfl|hp
  ·exact h.1
  ·exact AllRo.mem h.2 p hp
theorem Hf {P:Program} {C:Cfg} {l:List (Nat×Spec)} {rs:List Nat} (hC:C.spec=Il l) (h:AllOK P l) (hro:C.ro=λf=>AP rs f) (h2:AllRo rs l):Ai P C:=by
 refine⟨λf g hg=> ?_,λf g hg hr=> ?_⟩
 ·rw[hC]at hg;exact h.mem _ (Sc hg)
 ·rw[hC]at hg;rw[hro]at hr;rcases h2.mem _ (Sc hg)with h|h
  ·dsimp only at h hr;rw[hr]at h;cases h
  ·exact h
theorem Ae {x:Int} (h: -9223372036854775808<=x/\x<=9223372036854775807):IntKind.i64.wrap x=x:=by
 simp[IntKind.wrap,IntKind.signed,IntKind.bits];omega
section loops
variable {step:List AC->Option (Nat×List AC)}
theorem Q3i:∀{n:Nat} {vars:List AC} {o:Nat×List AC},CJ step n vars=some o->CJ step (n+1) vars=some o
 |0,_,_,h=>by simp[CJ]at h
 |n+1,vars,o,h=>by
  rw[CJ]at h⊢;simp only[cq]at h⊢;obtain⟨q,h1,h2⟩:=h;refine⟨q,h1,?_⟩;split at h2
  ·rename_i h0;rw[aa h0];exact Q3i h2
  ·rename_i h0;rw[ab h0];exact h2
theorem Qyc {n m:Nat} {vars:List AC} {o:Nat×List AC} (hnm:n<=m) (h:CJ step n vars=some o):CJ step m vars=some o:=by
 induction hnm with
 |refl=>exact h
 |step _ ih=>exact Q3i ih
theorem Zuj {n m:Nat} {vars:List AC} {o o':Nat×List AC} (h:CJ step n vars=some o) (h':CJ step m vars=some o'):o=o':=by
 have h1:=Qyc (Nat.le_max_left n m) h;have h2:=Qyc (Nat.le_max_right n m) h';rw[h1]at h2;simpa using h2
open Classical in
noncomputable def An (step:List AC->Option (Nat×List AC)) (vars:List AC):Option (Nat×List AC):=
 if h:∃n o,CJ step n vars=some o then CJ step (Classical.choose h) vars else none
theorem Qf {vars:List AC} {o:Nat×List AC} (h:An step vars=some o):∃n,CJ step n vars=some o:=by
 unfold An at h;split at h
 ·exact⟨_,h⟩
 ·simp at h
theorem Qqs {n:Nat} {vars:List AC} {o:Nat×List AC} (h:CJ step n vars=some o):An step vars=some o:=by
 unfold An;have hx:∃n o,CJ step n vars=some o:=⟨n,o,h⟩;rw[dif_pos hx];obtain⟨o',ho'⟩:=Classical.choose_spec hx;rw[ho',Zuj h ho']
theorem Q5 (vars:List AC):An step vars=(step vars).bind λo=>if o.1=0 then An step o.2 else some o:=by
 cases hs:step vars with
 |none=>
  cases hl:An step vars with
  |none=>rfl
  |some o=>
   obtain⟨n,hn⟩:=Qf hl;cases n with
   |zero=>simp[CJ]at hn
   |succ n=>simp[CJ,hs]at hn
 |some q=>
  simp only[af];by_cases h0:q.1=0
  ·rw[aa h0];cases hl:An step q.2 with
   |none=>
    cases hl2:An step vars with
    |none=>rfl
    |some o=>
     obtain⟨n,hn⟩:=Qf hl2;cases n with
     |zero=>simp[CJ]at hn
     |succ n=>
      simp only[CJ,hs,af,aa h0]at hn;rw[Qqs hn]at hl;cases hl
   |some o=>
    obtain⟨n,hn⟩:=Qf hl;exact Qqs (n:=n+1) (by simp only[CJ,hs,af,aa h0];exact hn)
  ·rw[ab h0];exact Qqs (n:=1) (by simp only[CJ,hs,af,ab h0])
end loops
theorem Ky:∀(c:Code) (b blk:Nat) (body:Code),(blk,body)∈AL c b->(∀p∈AL body blk,p∈AL c b)/\(∀p∈A4 body,p∈A4 c)/\(∀p∈Bd body blk,p∈Bd c b)
 | .seq x y,b,blk,body,h=>by
  simp only[AL,bj]at h;rcases h with h|h
  ·obtain⟨h1,h2,h3⟩:=Ky x b blk body h;exact⟨λp hp=>by simp[AL,h1 p hp],λp hp=>by simp[A4,h2 p hp],λp hp=>by simp[Bd,h3 p hp]⟩
  ·obtain⟨h1,h2,h3⟩:=Ky y b blk body h;exact⟨λp hp=>by simp[AL,h1 p hp],λp hp=>by simp[A4,h2 p hp],λp hp=>by simp[Bd,h3 p hp]⟩
 | .cond c x y,b,blk,body,h=>by
  simp only[AL,bj]at h;rcases h with h|h
  ·obtain⟨h1,h2,h3⟩:=Ky x b blk body h;exact⟨λp hp=>by simp[AL,h1 p hp],λp hp=>by simp[A4,h2 p hp],λp hp=>by cases c<;>simp[Bd,h3 p hp]⟩
  ·obtain⟨h1,h2,h3⟩:=Ky y b blk body h;exact⟨λp hp=>by simp[AL,h1 p hp],λp hp=>by simp[A4,h2 p hp],λp hp=>by cases c<;>simp[Bd,h3 p hp]⟩
 | .block id x,b,blk,body,h=>by
  simp only[AL]at h;obtain⟨h1,h2,h3⟩:=Ky x b blk body h;exact⟨λp hp=>by simp[AL,h1 p hp],λp hp=>by simp[A4,h2 p hp],λp hp=>by simp[Bd,h3 p hp]⟩
 | .loop x,b,blk,body,h=>by
  simp only[AL,aq,cm]at h;rcases h with⟨rfl,rfl⟩|h
  ·exact⟨λp hp=>by rw[II _ _ b]at hp;simp[AL,hp],λp hp=>by simp[A4,hp],λp hp=>by rw[IM _ _ b]at hp;simp[Bd,hp]⟩
  ·obtain⟨h1,h2,h3⟩:=Ky x b blk body h;exact⟨λp hp=>by simp[AL,h1 p hp],λp hp=>by simp[A4,h2 p hp],λp hp=>by simp[Bd,h3 p hp]⟩
 | .skip,_,_,_,h=>by simp[AL]at h
 | .region _ _ _,_,_,_,h=>by simp[AL]at h
 | .exit _,_,_,_,h=>by simp[AL]at h
 | .ret,_,_,_,h=>by simp[AL]at h
 | .rangeFunc _ _ _ _,_,_,_,h=>by simp[AL]at h
 | .scope x,b,blk,body,h=>by
  simp only[AL]at h;obtain⟨h1,h2,h3⟩:=Ky x b blk body h;exact⟨λp hp=>by simp[AL,h1 p hp],λp hp=>by simp[A4,h2 p hp],λp hp=>by simp[Bd,h3 p hp]⟩
 | .label _,_,_,_,h=>by simp[AL]at h
 | .goto _,_,_,_,h=>by simp[AL]at h
 | .refuse _,_,_,_,h=>by simp[AL]at h
theorem JY:∀(c:Code) (b id:Nat) (body:Code),(id,body)∈A4 c->(∀p∈AL body id,p∈AL c b)/\(∀p∈A4 body,p∈A4 c)/\(∀p∈Bd body id,p∈Bd c b)
 | .seq x y,b,id,body,h=>by
  simp only[A4,bj]at h;rcases h with h|h
  ·obtain⟨h1,h2,h3⟩:=JY x b id body h;exact⟨λp hp=>by simp[AL,h1 p hp],λp hp=>by simp[A4,h2 p hp],λp hp=>by simp[Bd,h3 p hp]⟩
  ·obtain⟨h1,h2,h3⟩:=JY y b id body h;exact⟨λp hp=>by simp[AL,h1 p hp],λp hp=>by simp[A4,h2 p hp],λp hp=>by simp[Bd,h3 p hp]⟩
 | .cond c x y,b,id,body,h=>by
  simp only[A4,bj]at h;rcases h with h|h
  ·obtain⟨h1,h2,h3⟩:=JY x b id body h;exact⟨λp hp=>by simp[AL,h1 p hp],λp hp=>by simp[A4,h2 p hp],λp hp=>by cases c<;>simp[Bd,h3 p hp]⟩
  ·obtain⟨h1,h2,h3⟩:=JY y b id body h;exact⟨λp hp=>by simp[AL,h1 p hp],λp hp=>by simp[A4,h2 p hp],λp hp=>by cases c<;>simp[Bd,h3 p hp]⟩
 | .block j x,b,id,body,h=>by
  simp only[A4,aq,cm]at h;rcases h with⟨rfl,rfl⟩|h
  ·exact⟨λp hp=>by rw[II _ _ b]at hp;simp[AL,hp],λp hp=>by simp[A4,hp],λp hp=>by rw[IM _ _ b]at hp;simp[Bd,hp]⟩
  ·obtain⟨h1,h2,h3⟩:=JY x b id body h;exact⟨λp hp=>by simp[AL,h1 p hp],λp hp=>by simp[A4,h2 p hp],λp hp=>by simp[Bd,h3 p hp]⟩
 | .loop x,b,id,body,h=>by
  simp only[A4]at h;obtain⟨h1,h2,h3⟩:=JY x b id body h;exact⟨λp hp=>by simp[AL,h1 p hp],λp hp=>by simp[A4,h2 p hp],λp hp=>by simp[Bd,h3 p hp]⟩
 | .skip,_,_,_,h=>by simp[A4]at h
 | .region _ _ _,_,_,_,h=>by simp[A4]at h
 | .exit _,_,_,_,h=>by simp[A4]at h
 | .ret,_,_,_,h=>by simp[A4]at h
 | .rangeFunc _ _ _ _,_,_,_,h=>by simp[A4]at h
 | .scope x,b,id,body,h=>by
  simp only[A4]at h;obtain⟨h1,h2,h3⟩:=JY x b id body h;exact⟨λp hp=>by simp[AL,h1 p hp],λp hp=>by simp[A4,h2 p hp],λp hp=>by simp[Bd,h3 p hp]⟩
 | .label _,_,_,_,h=>by simp[A4]at h
 | .goto _,_,_,_,h=>by simp[A4]at h
 | .refuse _,_,_,_,h=>by simp[A4]at h
structure FnOK (P : Program) (C : Cfg) (f : FuncId) : Prop where
 l:∀p∈Im P f,∀sk g,C.loops p.1=some (sk,g)->Jf P (.loop p.2) sk g
 b:∀p∈Kw P f,∀sk g,C.blocks p.1=some (sk,g)->Jf P (.block p.1 p.2) sk g
 c:∀p∈Tm P f,∀sk g,C.conds p.1=some (sk,g)->Jf P (.cond (.tmp p.1) p.2.2.1 p.2.2.2) sk g
theorem FnOK.bare {P:Program} {C:Cfg} {f:FuncId} (h1:C.loops=λ_=>none) (h2:C.blocks=λ_=>none) (h3:C.conds=λ_=>none):FnOK P C f:=
 ⟨λp _ sk g h=>by simp[h1]at h,λp _ sk g h=>by simp[h2]at h,λp _ sk g h=>by simp[h3]at h⟩
theorem FnOK.sub {P:Program} {C:Cfg} {f:FuncId} (h:FnOK P C f) {c:Code} (hc:JP P f=some c):SubOK P C c 0:=
 ⟨λp hp=>h.l p (by unfold Im;rw[hc];exact hp),λp hp=>h.b p (by unfold Kw;rw[hc];exact hp),λp hp=>h.c p (by unfold Tm;rw[hc];exact hp)⟩
theorem Zgo {P:Program} {f blk:Nat} {c:Code} (h:Ac (Im P f) blk=some c):AV P f blk=c:=by unfold AV;rw[h]
theorem Sh {α:Type}:∀{l:List (Nat×α)} {k:Nat} {b:α},BL (l.map (·.1))=true->(k,b)∈l->Ac l k=some b
 |[],_,_,_,h=>by simp at h
 |(j,c)::l,k,b,hd,h=>by
  have hd':=Ik.1 hd;simp only[bf,List.nodup_cons]at hd';simp only[Ac];rcases aq.1 h with h|h
  ·simp at h;obtain⟨rfl,rfl⟩:=h;simp
  ·have:j≠k:=by rintro rfl;exact hd'.1 (ba.2 ⟨(j,b),h,rfl⟩)
   rw[KH this];exact Sh (Ik.2 hd'.2) h
theorem FnOK.subLoop {P:Program} {C:Cfg} {f:FuncId} (h:FnOK P C f) {blk:Nat} {body:Code} (hm:(blk,body)∈Im P f):SubOK P C body blk:=by
 unfold Im at hm;split at hm
 ·rename_i c hc;obtain⟨h1,h2,h3⟩:=Ky c 0 blk body hm;exact⟨λp hp=>h.l p (by unfold Im;rw[hc];exact h1 p hp),λp hp=>h.b p (by unfold Kw;rw[hc];exact h2 p hp),λp hp=>h.c p (by unfold Tm;rw[hc];exact h3 p hp)⟩
 ·simp at hm
theorem FnOK.subBlock {P:Program} {C:Cfg} {f:FuncId} (h:FnOK P C f) {id:Nat} {body:Code} (hm:(id,body)∈Kw P f):SubOK P C body id:=by
 unfold Kw at hm;split at hm
 ·rename_i c hc;obtain⟨h1,h2,h3⟩:=JY c 0 id body hm;exact⟨λp hp=>h.l p (by unfold Im;rw[hc];exact h1 p hp),λp hp=>h.b p (by unfold Kw;rw[hc];exact h2 p hp),λp hp=>h.c p (by unfold Tm;rw[hc];exact h3 p hp)⟩
 ·simp at hm
theorem FnOK.loop {P:Program} {C:Cfg} {f:FuncId} (h:FnOK P C f) (hspec:Ai P C) (hok:∀t∈C.eqOk,P.stoodInHeld t=false) (hmix:P.follows .mixedOrders=true) {L blk:Nat} {sk:Sk} {exits:List (Ex×Sk)}
  (hd:BL ((Im P f).map (·.1))=true) (hsk:sk.okB=true):FnOK P (C.loop blk sk exits (An (AS P C L blk (AV P f blk) sk exits))) f:=by
 refine⟨λp hp sk' g hg=> ?_,h.b,h.c⟩;simp only[Cfg.loop]at hg;cases hb:Nat.beq p.1 blk<;>rw[hb]at hg
 ·exact h.l p hp sk' g hg
 ·have e:=ac hb;subst e;simp only[ah,ap,cm]at hg;obtain⟨rfl,rfl⟩:=hg;have hbody:=Zgo (Sh (k:=p.1) (b:=p.2) hd hp);rw[hbody];exact Zzv hspec hok hmix hsk (h.subLoop hp) λvars o ho=>Qf ho
theorem FnOK.block {P:Program} {C:Cfg} {f:FuncId} (h:FnOK P C f) (hspec:Ai P C) (hok:∀t∈C.eqOk,P.stoodInHeld t=false) (hmix:P.follows .mixedOrders=true) {L id:Nat} {sk:Sk} {exits:List (Ex×Sk)}
  (hd:BL ((Kw P f).map (·.1))=true):FnOK P (C.block id sk exits (Q8g P C L id (Qcw P f id) sk exits)) f:=by
 refine⟨h.l,λp hp sk' g hg=> ?_,h.c⟩;simp only[Cfg.block]at hg;cases hb:Nat.beq p.1 id<;>rw[hb]at hg
 ·exact h.b p hp sk' g hg
 ·have e:=ac hb;subst e;simp only[ah,ap,cm]at hg;obtain⟨rfl,rfl⟩:=hg;have hbody:Qcw P f p.1=p.2:=by unfold Qcw;rw[Sh (k:=p.1) (b:=p.2) hd hp]
  rw[hbody];exact Zt2 hspec hok hmix (h.subBlock hp) λvars o ho=>ho
theorem Qgy {P:Program} {C:Cfg} {f:FuncId} {L:Nat} {sig osig:Sk} (hc:K8 P f=true) (h:FnOK P C f) (hspec:Ai P C) (hok:∀t∈C.eqOk,P.stoodInHeld t=false) (hmix:P.follows .mixedOrders=true)
  (h1:sig.okB=true) (h2:osig.okB=true):Al P (f,Ad sig osig (Am P C L f sig osig)):=
 Zrl hspec hok hmix (UA hc) h1 h2 (λ_ hcode=>h.sub hcode) λ_ _ ho=>ho
theorem Zhk {P:Program} {C:Cfg} {f:FuncId} {L:Nat} {sig osig:Sk} (_:K8 P f=true) (h:FnOK P C f) (hspec:Ai P C) (hok:∀t∈C.eqOk,P.stoodInHeld t=false) (hmix:P.follows .mixedOrders=true)
  (h1:sig.okB=true) (h2:osig.okB=true) (args:List TV) (v:TV) (mem':Mem) (hrun:(Ad sig osig (Am P C L f sig osig) (TV×Mem) args ⟨[],[]⟩ λv m=>some (v,m))=some (v,mem')):PCallM P f args ⟨[],[]⟩ v mem':=
 Qwm hspec hok hmix h1 h2 (λ_ hcode=>h.sub hcode) (λ_ _ ho=>ho) hrun
theorem Zbm {P:Program} {f:FuncId} {sig osig:Sk}:Al P (f,Ad sig osig λ_=>none):=by
 refine⟨Qhb,λargs mem v mem' h=> ?_⟩;obtain⟨aB,aC⟩:=mem;simp only[Ad]at h;obtain⟨_,h⟩:=BY h;split at h
 ·simp at h
 ·simp at h
section
variable {H α:Type}
theorem Zst (F G:List (DataW H)->α) (h:∀a b c d e,F [a,b,c,d,e]=G [a,b,c,d,e]) (l:List (DataW H)) (hl:l.length=5):F l=G l:=by
 match l,hl with
 |[a,b,c,d,e],_=>exact h a b c d e
end
theorem P8 {l:List Ar} {s:Bool×List Kd} {shs:List (Bool×List Kd)} (h:l.map Ar.sh=s::shs):∃a l',l=a::l'/\a.agg=s.1/\a.ks=s.2/\l'.map Ar.sh=shs:=by
 cases l with
 |nil=>simp at h
 |cons a l'=>
  simp only[bf,List.cons.injEq]at h;refine⟨a,l',rfl,?_,?_,h.2⟩
  ·rw[<-h.1];rfl
  ·rw[<-h.1];rfl
theorem Zme {l:List Ar} (h:l.map Ar.sh=[]):l=[]:=by
 cases l with
 |nil=>rfl
 |cons a l'=>simp at h
theorem Zsn {rl:Nat->Nat} {c:CS} {a:AC} {v:List AC} (he:Qd2 c a=true) (h:JQ c a=some v) {l:List AC} {i:Nat} (hs:Seg l i v):D_ rl l c i=(a,i+v.length):=by
 cases c<;>cases a<;>simp only[Qd2]at he<;>try (simp at he;done)
 case int.int k k' n=>
  simp only[JQ,he,ah,ap]at h;subst h;simp only[D_,hs.one,Af,NV he,bh,cd]
 case bool.bool b=>
  simp only[JQ,ap]at h;subst h;simp only[D_,hs.one,Dl,bh,cd]
 case sl.view ks ks' q=>
  simp only[JQ,he,ah,ap]at h;subst h;simp only[D_,hs.one,BS,I7 he,bh,cd]
 case ptr.ptr k o k' o'=>
  simp only[JQ,he,ah,ap]at h;subst h;simp only[aj]at he;simp only[D_,ac he.1,ac he.2,cd,Nat.add_zero]
theorem Q5l {rl:Nat->Nat} {l:List AC}:∀{cs:List CS} {as:List AC} {v:List AC},OU cs as=true->G_ cs as=some v->∀{i},Seg l i v->Eh rl l cs i=(as,i+v.length)
 |[],[],v,_,h,i,_=>by simp[G_]at h;subst h;rfl
 |c::cs,a::as,v,he,h,i,hs=>by
  simp only[OU,aj]at he;simp only[G_]at h;split at h
  ·rename_i v1 h1;split at h
   ·rename_i v2 h2;simp at h;subst h;simp only[Eh,Zsn he.1 h1 hs.left,Q5l he.2 h2 hs.right,ao,Nat.add_assoc]
   ·simp at h
  ·simp at h
 |[],_::_,_,he,_,_,_=>by simp[OU]at he
 |_::_,[],_,he,_,_,_=>by simp[OU]at he
theorem Qrm {rl:Nat->Nat} {l:List AC} {aB:List (Nat×Box)}:∀{bs:List (Nat×TypeId×List CS)} {m:List (Nat×Box)} {v:List AC},Hw bs m=true->(∀p∈m,Ac aB p.1=some p.2)->
  Ka bs aB=some v->∀{i},Seg l i v->Fd rl l bs i=m
 |[],[],v,_,_,_,i,_=>rfl
 |(k,t,cs)::bs,(k',b)::m,v,he,hl,h,i,hs=>by
  simp only[Hw,aj]at he;obtain⟨e1,e2,e3,e4⟩:=he;have e1:=ac e1;subst e1;have hb:=hl (k,b) (by simp);dsimp only at hb;simp only[Ka,hb,e2,ah]at h;split at h
  ·rename_i v1 h1;split at h
   ·rename_i v2 h2;simp at h;subst h;simp only[Fd,Q5l e3 h1 hs.left,Qrm e4 (λp hp=>hl p (by simp[hp])) h2 hs.right];obtain⟨ty,cells⟩:=b;simp only[ac e2]
   ·simp at h
  ·simp at h
 |[],_::_,_,he,_,_,_,_=>by simp[Hw]at he
 |_::_,[],_,he,_,_,_,_=>by simp[Hw]at he
theorem Q2z:∀{bs:List (Nat×TypeId×List CS)} {m:List (Nat×Box)},Hw bs m=true->m.map (·.1)=bs.map (·.1)
 |[],[],_=>rfl
 |(k,t,cs)::bs,(k',b)::m,he=>by
  simp only[Hw,aj]at he;simp only[bf,Q2z he.2.2.2,ac he.1]
 |[],_::_,he=>by simp[Hw]at he
 |_::_,[],he=>by simp[Hw]at he
theorem Zrb {sig osig:Sk} {m:List AC->Option (List AC)} (R:Type) (args:List TV) (mem:Mem) (K:TV->Mem->Option R):Ev sig osig m R args mem K=(Ev sig osig m (TV×Mem) args mem λv m=>some (v,m)).bind λp=>K p.1 p.2:=by
 obtain⟨aB,aC⟩:=mem;simp only[Ev];cases(Ak (λp:Nat×Box=>F3 p.1) aB&&(Hw sig.aB aB&&(aC.isEmpty&&(sig.aC.isEmpty&&BL (sig.aB.map (·.1))))))
 ·rfl
 ·simp only[ah];cases Fx sig ⟨args,aB,aC⟩with
  |none=>rfl
  |some vars=>
   dsimp only;cases m vars with
   |none=>rfl
   |some o=>
    simp only[af];generalize BA osig o=s;obtain⟨tm,b,r⟩:=s;cases b<;>cases r<;>try rfl
    dsimp only;split<;>rfl
theorem Zf5 {sig osig:Sk} {m:List AC->Option (List AC)}:Ue (Ev sig osig m):=by
 intro args mem v mm h;obtain⟨aB,aC⟩:=mem;simp only[Ev]at h;obtain⟨_,h⟩:=BY h;split at h
 ·simp only[cq]at h;obtain⟨o,_,h⟩:=h;split at h
  ·split at h
   ·simp only[ap,cm]at h;exact h.2.symm
   ·simp at h
  ·simp at h
 ·simp at h
theorem GA {rs:List Nat}:AllRo rs []:=trivial
theorem Ci {rs:List Nat} {k:Nat} {g:Spec} {l:List (Nat×Spec)} (h:AP rs k=false) (t:AllRo rs l):AllRo rs ((k,g)::l):=⟨.inl h,t⟩
theorem ER {rs:List Nat} {k:Nat} {sig osig:Sk} {m:List AC->Option (List AC)} {l:List (Nat×Spec)} (t:AllRo rs l):AllRo rs ((k,Ev sig osig m)::l):=⟨.inr Zf5,t⟩
def Zju (P:Program) (C:Cfg) (L:Nat) (f:FuncId) (sig:Sk):Prop:=
 ∀(vars:List AC) (R:Type) (K:TV->Mem->Option R),ET P C L f (BA sig vars).tmps ⟨(BA sig vars).aB,(BA sig vars).aC⟩ K=ET P C L f (BA sig vars).tmps ⟨(BA sig vars).aB,(BA sig vars).aC⟩ λv _=>K v ⟨(BA sig vars).aB,(BA sig vars).aC⟩
open Classical in
theorem QS {P:Program} {C:Cfg} {f:FuncId} {L:Nat} {sig osig:Sk} (hc:K8 P f=true) (h:FnOK P C f) (hspec:Ai P C) (hok:∀t∈C.eqOk,P.stoodInHeld t=false) (hmix:P.follows .mixedOrders=true)
  (h1:sig.okB=true) (h2:osig.okB=true) (hl:Zju P C L f sig):Al P (f,Ev sig osig (L3 P C L f sig osig)):=by
 refine⟨Zrb,λargs mem v mem' hv=>PCallM.x ?_ (UA hc)⟩;obtain⟨aB,aC⟩:=mem;simp only[Ev]at hv;obtain⟨hin,hv⟩:=BY hv;simp only[aj]at hin;obtain⟨hin,hex,hr1,hr2,hdist⟩:=hin;have hr1:aC=[]:=by simpa using hr1
 have hr2:sig.aC=[]:=by simpa using hr2
 subst hr1;split at hv
 ·rename_i vars hvars;simp only[cq]at hv;obtain⟨o,ho,hv⟩:=hv;intro F w ρ xs hR0;have hZ:InZ (E6 F w ρ aB):=Qh0 hin;have hR1:=hR0.rebuild hZ h1 hvars
  have hboxes:(BA sig vars).aB=aB:=by
   simp only[Fx]at hvars;obtain⟨_,hvars⟩:=BY hvars;rw[hr2]at hvars;simp only[Jq]at hvars;split at hvars
   ·rename_i b hb;split at hvars
    ·rename_i c hcc;simp only[av,ap]at hvars;subst hvars;simp only[BA,hr2,G5];have hts:=SJ (aB:=aB) (aC:=[]) (ρ:=ρ) (w:=w) (rl:=D0 []) ⟨λid r hl=>by simp[Ac]at hl⟩ hb (l:=b++c) (i:=0) (Seg.all _).left;generalize hbt:E0 (D0 []) (b++c) sig.tmps 0=q at hts;obtain⟨tm,i⟩:=q;have hi:i=0+b.length:=hts.1;subst hi;have hkeys:=Q2z hex;refine Qrm hex (λp hp=>Sh (by rw[hkeys];exact hdist) hp) hcc (Seg.all (b++c)).right
    ·simp at hvars
   ·simp at hvars
  have hrows:(BA sig vars).aC=[]:=by simp only[BA,hr2,G5]
  have hl':=hl vars;unfold L3 at ho;generalize hs:BA sig vars=s1 at ho hR1 hl' hboxes hrows;obtain⟨args1,boxes1,rows1⟩:=s1;dsimp only at ho hR1 hl' hboxes hrows;subst hboxes;subst hrows;have hrun:ET P C L f args1 ⟨boxes1,[]⟩ (λv m=>if m=⟨boxes1,[]⟩then Fx osig ⟨[v],[],[]⟩else none)=some o:=by
   rw[hl'];simp only[if_true];exact ho
  refine(Q3q hspec hok hmix hZ (λ_ hcode=>h.sub hcode) hrun hR1).mono ?_;rintro e w' ⟨x,ρ',v',m',he,hro,hR2⟩;split at hro
  ·rename_i hm;subst hm;dsimp only at hR2
   simp only[Fx]at hro;obtain⟨_,hro⟩:=BY hro;split at hro
   ·rename_i a ha;split at hro
    ·rename_i b hb;split at hro
     ·rename_i c hcc;simp only[ap]at hro;subst hro;split at hv
      ·rename_i tm hbs;split at hv
       ·rename_i vn;simp only[ap,cm]at hv;obtain⟨rfl,rfl⟩:=hv;have hosr:osig.aC=[]:=by
         cases hor:osig.aC with
         |nil=>rfl
         |cons p l=>obtain⟨k,t,ks⟩:=p;rw[hor]at ha;simp[Jq,Ac]at ha
        rw[hosr]at ha;simp only[Jq,ap]at ha;subst ha;have hts:=SJ (aB:=boxes1) (aC:=[]) (ρ:=ρ') (w:=w') (rl:=D0 []) ⟨λid r hl=>by simp[Ac]at hl⟩ hb (l:=[]++(b++c)) (i:=0) (show Seg (b++c) 0 b from(Seg.all (b++c)).left);simp only[BA,hosr,G5]at hbs;have hwfT:=VG (B':=boxes1) (R':=[]) (keys:=[]) (rs:=[]) (rl:=D0 []) (by simp) (by simp[Ac]) (ts:=osig.tmps)
         (by
          have:=h2;simp only[Sk.okB,aj]at this;have hob:osig.aB=[]:=by
           cases hbx:osig.aB with
           |nil=>rfl
           |cons p l=>obtain⟨k,t,ks⟩:=p;rw[hbx]at hcc;simp[Ka,Ac]at hcc
          have h3:=this.1.2;rw[hob,hosr]at h3;exact h3) ([]++(b++c)) 0
        generalize hbt:E0 (D0 []) ([]++(b++c)) osig.tmps 0=q at hts hbs hwfT;obtain⟨tm',i⟩:=q;simp only[St.mk.injEq]at hbs;obtain⟨rfl,_,_⟩:=hbs;obtain⟨u,hu1,hu2⟩:=hts.2.2 0 vn rfl;simp only[List.getElem?_cons_zero,ap]at hu1;subst hu1;refine⟨x,ρ',he,hR2.slots (by simp) (λi u hi=> ?_) (λu hu=>hwfT u hu)⟩;cases i with
        |zero=>
         simp at hi;subst hi;have:=hR2.tv 0 v' rfl;exact hu2 _ (hR2.wt v' (by simp)) this
        |succ i=>simp at hi
       ·simp at hv
      ·simp at hv
     ·simp at hro
    ·simp at hro
   ·simp at hro
  ·simp at hro
 ·simp at hv
abbrev I (n:Int):AC:= .int .i64 n
abbrev U (n:Int):AC:= .int .u64 n
abbrev B (b:Bool):AC:= .bool b
theorem HW {x:Int} (h:0<=x/\x<=18446744073709551615):IntKind.u64.wrap x=x:=by
 simp[IntKind.wrap,IntKind.signed,IntKind.bits];omega
theorem Mx (x:Int):IntKind.u64.wrap x=x%18446744073709551616:=by
 simp[IntKind.wrap,IntKind.signed,IntKind.bits]
theorem Qj (x:Int):IntKind.i64.wrap x=(x+9223372036854775808)%18446744073709551616-9223372036854775808:=by
 simp[IntKind.wrap,IntKind.signed,IntKind.bits];omega
def i64 (x:Int):Prop:= -9223372036854775808<=x/\x<=9223372036854775807
theorem Zo2 (x:Int):i64 (IntKind.i64.wrap x):=by
 rw[Qj];unfold i64;omega
theorem BH {α:Type} {c:Bool} {a b:α} (h:c=true):(bif c then a else b)=a:=by rw[h];rfl
theorem Bw {α:Type} {c:Bool} {a b:α} (h:c=false):(bif c then a else b)=b:=by rw[h];rfl
theorem DV {α:Type} {p:Prop} {inst:Decidable p} {a b:α} (h:p):(bif@decide p inst then a else b)=a:=by rw[@al p inst h];rfl
theorem A7 {α:Type} {p:Prop} {inst:Decidable p} {a b:α} (h: ¬p):(bif@decide p inst then a else b)=b:=by rw[@am p inst h];rfl
theorem Zl0 {α:Type} {p:Prop} {inst:Decidable p} {a b:α}:(bif@decide p inst then a else b)=if p then a else b:=by
 by_cases h:p
 ·rw[DV h,aa h]
 ·rw[A7 h,ab h]
theorem Zuf {α:Type} {c:Bool} {a b:α}:(bif c then a else b)=if c=true then a else b:=by cases c<;>rfl
theorem Zvh {a b:Bool}:((a&&b)=true)=(a=true/\b=true):=by cases a<;>cases b<;>simp
theorem Zys {a b:Bool}:((a||b)=true)=(a=true\/b=true):=by cases a<;>cases b<;>simp
theorem Z21 {a:Bool}:((!a)=true)= ¬(a=true):=by cases a<;>simp
theorem Zri {p:Prop} {inst:Decidable p}:(@decide p inst=true)=p:=by simp
theorem Zqx {a b:Int}:((a==b)=true)=(a=b):=by simp
theorem Z6b {a b:Int}:((a !=b)=true)=(a≠b):=by simp
theorem Zsr {a b:Nat}:(Nat.beq a b=true)=(a=b):=by simp
theorem Zpz {a b:Nat}:(Nat.ble a b=true)=(a<=b):=by simp
attribute [go_sem ↓] Zl0 Zuf Zvh Zys Z21 Zri Zqx Z6b Zsr Zpz
theorem H3 {α:Type} (d x:α) (l:List α):nth d (x::l) 0=x:=by simp[nth]
theorem HA (k:IntKind) (n:Int):Af (.int k n)=n:=by simp[Af]
theorem YS (b:Bool):Dl (.bool b)=b:=by simp[Dl]
theorem Qfa (ks:List Kd) (l:List (List AC)):BS (.view ks l)=l:=by simp[BS]
theorem Zkj {p q:Prop} {i1:Decidable p} {i2:Decidable q}:((@decide p i1== @decide q i2)=true)=(p↔q):=by simp
theorem Z17 {a b:Nat}:((a==b)=true)=(a=b):=by simp
attribute [go_sem ↓] Zkj Z17
attribute [go_sem] if_true if_false
theorem K1 {α:Type} (d x:α) (l:List α):nth d (x::l) 1=nth d l 0:=by simp[nth]
theorem L_ {α:Type} (d x:α) (l:List α):nth d (x::l) 2=nth d l 1:=by simp[nth]
theorem PC {α:Type} (d x:α) (l:List α):nth d (x::l) 3=nth d l 2:=by simp[nth]
theorem PV {α:Type} (d x:α) (l:List α):nth d (x::l) 4=nth d l 3:=by simp[nth]
theorem S3 {α:Type} (d x:α) (l:List α):nth d (x::l) 5=nth d l 4:=by simp[nth]
theorem Qay {α:Type} (d x:α) (l:List α):nth d (x::l) 6=nth d l 5:=by simp[nth]
theorem Qd9 {α:Type} (d x:α) (l:List α):nth d (x::l) 7=nth d l 6:=by simp[nth]
theorem Zv8 {α:Type} (d x:α) (l:List α):nth d (x::l) 8=nth d l 7:=by simp[nth]
theorem Zxk {α:Type} (d x:α) (l:List α):nth d (x::l) 9=nth d l 8:=by simp[nth]
theorem Zkf {α:Type} (d x:α) (l:List α):nth d (x::l) 10=nth d l 9:=by simp[nth]
theorem Zb8 {α:Type} (d x:α) (l:List α):nth d (x::l) 11=nth d l 10:=by simp[nth]
theorem Zcd {α:Type} (d x:α) (l:List α):nth d (x::l) 12=nth d l 11:=by simp[nth]
theorem Zm9 {α:Type} (d x:α) (l:List α):nth d (x::l) 13=nth d l 12:=by simp[nth]
theorem Zx3 {α:Type} (d x:α) (l:List α):nth d (x::l) 14=nth d l 13:=by simp[nth]
theorem Z5d {α:Type} (d x:α) (l:List α):nth d (x::l) 15=nth d l 14:=by simp[nth]
theorem Z0x {α:Type} (d x:α) (l:List α):nth d (x::l) 16=nth d l 15:=by simp[nth]
theorem Zda {α:Type} (d x:α) (l:List α):nth d (x::l) 17=nth d l 16:=by simp[nth]
theorem Zr0 {α:Type} (d x:α) (l:List α):nth d (x::l) 18=nth d l 17:=by simp[nth]
theorem Zqj {α:Type} (d x:α) (l:List α):nth d (x::l) 19=nth d l 18:=by simp[nth]
theorem Zyy {α:Type} (d x:α) (l:List α):nth d (x::l) 20=nth d l 19:=by simp[nth]
theorem Zdv {α:Type} (d x:α) (l:List α):nth d (x::l) 21=nth d l 20:=by simp[nth]
theorem Z2w {α:Type} (d x:α) (l:List α):nth d (x::l) 22=nth d l 21:=by simp[nth]
theorem Zzd {α:Type} (d x:α) (l:List α):nth d (x::l) 23=nth d l 22:=by simp[nth]
theorem Zra {α:Type} (d x:α) (l:List α):nth d (x::l) 24=nth d l 23:=by simp[nth]
theorem Zlx {α:Type} (d x:α) (l:List α):nth d (x::l) 25=nth d l 24:=by simp[nth]
theorem Zc1 {α:Type} (d x:α) (l:List α):nth d (x::l) 26=nth d l 25:=by simp[nth]
theorem Z5m {α:Type} (d x:α) (l:List α):nth d (x::l) 27=nth d l 26:=by simp[nth]
theorem Zkr {α:Type} (d x:α) (l:List α):nth d (x::l) 28=nth d l 27:=by simp[nth]
theorem Z4z {α:Type} (d x:α) (l:List α):nth d (x::l) 29=nth d l 28:=by simp[nth]
theorem Z5r {α:Type} (d x:α) (l:List α):nth d (x::l) 30=nth d l 29:=by simp[nth]
theorem Zfc {α:Type} (d x:α) (l:List α):nth d (x::l) 31=nth d l 30:=by simp[nth]
theorem Zco {α:Type} (d x:α) (l:List α):nth d (x::l) 32=nth d l 31:=by simp[nth]
theorem Zl7 {α:Type} (d x:α) (l:List α):nth d (x::l) 33=nth d l 32:=by simp[nth]
theorem Zup {α:Type} (d x:α) (l:List α):nth d (x::l) 34=nth d l 33:=by simp[nth]
theorem Zhp {α:Type} (d x:α) (l:List α):nth d (x::l) 35=nth d l 34:=by simp[nth]
theorem Zox {α:Type} (d x:α) (l:List α):nth d (x::l) 36=nth d l 35:=by simp[nth]
theorem Z3q {α:Type} (d x:α) (l:List α):nth d (x::l) 37=nth d l 36:=by simp[nth]
theorem Zff {α:Type} (d x:α) (l:List α):nth d (x::l) 38=nth d l 37:=by simp[nth]
theorem Zcg {α:Type} (d x:α) (l:List α):nth d (x::l) 39=nth d l 38:=by simp[nth]
attribute [go_sem] H3 K1 L_ PC PV S3 Qay Qd9 Zv8 Zxk Zkf Zb8 Zcd Zm9 Zx3 Z5d Z0x Zda Zr0 Zqj Zyy Zdv Z2w Zzd Zra Zlx Zc1 Z5m Zkr Z4z Z5r Zfc Zco Zl7 Zup Zhp Zox Z3q Zff Zcg HA YS Qfa af
theorem Qvb {S:Type} {step:List AC->Option (Nat×List AC)} (enc:S->List AC) (Inv:S->Prop) (m:S->Nat) (Q:Nat×List AC->Prop)
  (h:∀s,Inv s->(∃s',step (enc s)=some (0,enc s')/\Inv s'/\m s'<m s)\/∃o,step (enc s)=some o/\o.1≠0/\Q o):
  ∀s,Inv s->∃o,An step (enc s)=some o/\o.1≠0/\Q o:=by
 have:∀n s,m s<=n->Inv s->∃o,An step (enc s)=some o/\o.1≠0/\Q o:=by
  intro n;induction n with
  |zero=>
   intro s hs hi;rcases h s hi with⟨s',h1,h2,h3⟩|⟨o,h1,h2,h3⟩
   ·omega
   ·refine⟨o,?_,h2,h3⟩;rw[Q5,h1];simp[h2]
  |succ n ih=>
   intro s hs hi;rcases h s hi with⟨s',h1,h2,h3⟩|⟨o,h1,h2,h3⟩
   ·obtain⟨o,h4,h5⟩:=ih s' (by omega) h2;refine⟨o,?_,h5⟩;rw[Q5,h1];simpa using h4
   ·refine⟨o,?_,h2,h3⟩;rw[Q5,h1];simp[h2]
 intro s hi;exact this _ s (co _) hi
theorem Bn {step:List AC->Option (Nat×List AC)} {v w:List AC} (h:step v=some (0,w)):An step v=An step w:=by
 rw[Q5,h];rfl
theorem A5 {step:List AC->Option (Nat×List AC)} {v:List AC} {o:Nat×List AC} (h:step v=some o) (h0:o.1≠0):An step v=some o:=by
 rw[Q5,h];simp[h0]
theorem Zlk {sig osig:Sk} {m:List AC->Option (List AC)} {args:List TV} {vars:List AC} (h1:Fx sig ⟨args,[],[]⟩=some vars) (h2:m vars=some [B true]) (h3:BA osig [B true]=⟨[.v false [.bool true]],[],[]⟩):
  (Ad sig osig m (TV×Mem) args ⟨[],[]⟩ λv m=>some (v,m))=some (.v false [.bool true],⟨[],[]⟩):=by
 simp only[Ad,Ak,ah];rw[h1];dsimp only;rw[h2];simp only[af];rw[h3]
theorem Ar.tv_of {a:Ar} {g:Bool} {ks:List Kd} (h1:a.agg=g) (h2:a.ks=ks):a.tv= .v g (AN ks a.raw):=by unfold Ar.tv;rw[h1,h2]
theorem IU {α:Type} (f:α->List AC) (d:List AC):∀(l:List α) (i:Nat) (h:i<l.length),nth d (l.map f) i=f l[i]
 |x::l,0,_=>rfl
 |x::l,i+1,h=>by simp only[bf,nth,List.getElem_cons_succ];exact IU f d l i (by simpa using h)
theorem GF {α:Type} (d:α):∀(l:List α) (i:Nat) (h:i<l.length),nth d l i=l[i]
 |x::l,0,_=>rfl
 |x::l,i+1,h=>by simp only[nth,List.getElem_cons_succ];exact GF d l i (by simpa using h)
def As (n:Int):List AC:=[I n]
theorem Mw {α:Type} (l:List α) (i:Nat) (h:i<l.length):l.drop i=l[i]::l.drop (i+1):=by simp
structure Pt where
 (x y z:Int)
structure Itm where
 (kind block:Int)
 (fr to:Pt)
 (aG:Int)
 (ce:Pt)
 (dir:Int)
 full:Bool
 feed:Int
 perRev:Bool
 (side radius blend n speed:Int)
 on:Bool
structure Sgm where
 to:Pt
 (len item feed lead:Int)
structure Mrk where
 (at_ kind item:Int)
structure Pth where
 start:Pt
 aF:List Sgm
 aD:List Mrk
structure Axs where
 (step speed accel jerk low high back origin spacing:Int)
 pitch:List Int
structure Pce where
 (at_ units s move:Int)
 (was dirs:Pt)
structure Trk where
 aE:List Pce
 (length start:Int)
 dirs:Pt
structure Spk where
 (u w r h:Int)
instance:DecidableEq Pt:=λa b=>by
 obtain⟨a1,a2,a3⟩:=a;obtain⟨b1,b2,b3⟩:=b;exact decidable_of_iff (a1=b1/\a2=b2/\a3=b3) (by simp)
instance:DecidableEq Sgm:=λa b=>by
 obtain⟨a1,a2,a3,a4,a5⟩:=a;obtain⟨b1,b2,b3,b4,b5⟩:=b;exact decidable_of_iff (a1=b1/\a2=b2/\a3=b3/\a4=b4/\a5=b5) (by simp)
instance:DecidableEq Mrk:=λa b=>by
 obtain⟨a1,a2,a3⟩:=a;obtain⟨b1,b2,b3⟩:=b;exact decidable_of_iff (a1=b1/\a2=b2/\a3=b3) (by simp)
instance:DecidableEq Pce:=λa b=>by
 obtain⟨a1,a2,a3,a4,a5,a6⟩:=a;obtain⟨b1,b2,b3,b4,b5,b6⟩:=b;exact decidable_of_iff (a1=b1/\a2=b2/\a3=b3/\a4=b4/\a5=b5/\a6=b6) (by simp)
abbrev kI:Kd:= .int .i64
abbrev kB:Kd:= .bool
abbrev Aa:List Kd:=[kI]
abbrev kPt:List Kd:=[kI,kI,kI]
abbrev Aj:List Kd:=[kI,kI,kI,kI,kI,kI,kI,kI,kI,kI,kI,kI,kI,kB,kI,kB,kI,kI,kI,kI,kI,kB]
abbrev Ag:List Kd:=[kI,kI,kI,kI,kI,kI,kI]
abbrev AE:List Kd:=[kI,kI,kI]
abbrev Ap:List Kd:=[kI,kI,kI,kI,kI,kI,kI,kI,kI,kI]
abbrev Ee:List Kd:=[kI,kI,kI,kI]
abbrev ptR (p:Pt):List AC:=[I p.x,I p.y,I p.z]
abbrev Ah (t:Itm):List AC:=[I t.kind,I t.block,I t.fr.x,I t.fr.y,I t.fr.z,I t.to.x,I t.to.y,I t.to.z,I t.aG,I t.ce.x,I t.ce.y,I t.ce.z,I t.dir,B t.full,I t.feed,B t.perRev,I t.side,I t.radius,I t.blend,I t.n,I t.speed,B t.on]
abbrev Au (g:Sgm):List AC:=[I g.to.x,I g.to.y,I g.to.z,I g.len,I g.item,I g.feed,I g.lead]
abbrev At (m:Mrk):List AC:=[I m.at_,I m.kind,I m.item]
abbrev AB (c:Pce):List AC:=[I c.at_,I c.units,I c.s,I c.move,I c.was.x,I c.was.y,I c.was.z,I c.dirs.x,I c.dirs.y,I c.dirs.z]
abbrev C4 (s:Spk):List AC:=[I s.u,I s.w,I s.r,I s.h]
abbrev Bj (p:Pth):List AC:=[I p.start.x,I p.start.y,I p.start.z, .view Ag (p.aF.map Au), .view AE (p.aD.map At)]
abbrev Bv (x:Axs):List AC:=[I x.step,I x.speed,I x.accel,I x.jerk,I x.low,I x.high,I x.back,I x.origin,I x.spacing, .view Aa (x.pitch.map As)]
abbrev AW (t:Trk):List AC:=[.view Ap (t.aE.map AB),I t.length,I t.start,I t.dirs.x,I t.dirs.y,I t.dirs.z]
structure Ax3 where
 (a b c:Axs)
abbrev AK (x:Ax3):List AC:=[I x.a.step,I x.a.speed,I x.a.accel,I x.a.jerk,I x.a.low,I x.a.high,I x.a.back,I x.a.origin,I x.a.spacing, .view Aa (x.a.pitch.map As),I x.b.step,I x.b.speed,I x.b.accel,I x.b.jerk,I x.b.low,I x.b.high,I x.b.back,I x.b.origin,I x.b.spacing, .view Aa (x.b.pitch.map As),I x.c.step,I x.c.speed,I x.c.accel,I x.c.jerk,I x.c.low,I x.c.high,I x.c.back,I x.c.origin,I x.c.spacing, .view Aa (x.c.pitch.map As)]
abbrev pxt (p:Pth) (x:Ax3) (t:Trk) (l:List AC):List AC:=
 I p.start.x::I p.start.y::I p.start.z:: .view Ag (p.aF.map Au):: .view kPt (p.aD.map At)::
 I x.a.step::I x.a.speed::I x.a.accel::I x.a.jerk::I x.a.low::I x.a.high::I x.a.back::I x.a.origin::I x.a.spacing:: .view Aa (x.a.pitch.map As)::
 I x.b.step::I x.b.speed::I x.b.accel::I x.b.jerk::I x.b.low::I x.b.high::I x.b.back::I x.b.origin::I x.b.spacing:: .view Aa (x.b.pitch.map As)::
 I x.c.step::I x.c.speed::I x.c.accel::I x.c.jerk::I x.c.low::I x.c.high::I x.c.back::I x.c.origin::I x.c.spacing:: .view Aa (x.c.pitch.map As)::
 .view Ap (t.aE.map AB)::I t.length::I t.start::I t.dirs.x::I t.dirs.y::I t.dirs.z::l
abbrev EW (p:Pth) (t:Trk) (l:List AC):List AC:=
 I p.start.x::I p.start.y::I p.start.z:: .view Ag (p.aF.map Au):: .view kPt (p.aD.map At)::
 .view Ap (t.aE.map AB)::I t.length::I t.start::I t.dirs.x::I t.dirs.y::I t.dirs.z::l
theorem Zmm {a:AC} (h:okC kI a):i64 (Af a):=by
 unfold okC at h;unfold i64;exact h
abbrev gA (l:List AC) (k:Nat):Int:=Af (nth .dead l k)
abbrev jA (l:List AC) (k:Nat):AC:= .int .i64 (Af (nth .dead l k))
abbrev wA (l:List AC) (k:Nat):List (List AC):=BS (nth .dead l k)
abbrev bA (l:List AC) (k:Nat):Bool:=Dl (nth .dead l k)
abbrev Fn:=List AC->Option (List AC)
abbrev Lp:=List AC->Option (Nat×List AC)
abbrev Rw:=List (List AC)
abbrev ci:CS:= .int .i64
abbrev tf:List CS->TS:= .v false
abbrev td:TS:= .dead
attribute [go_sem] gA jA wA bA ay av
theorem Z24 (r:List AC):AN Aj r=[jA r 0,jA r 1,jA r 2,jA r 3,jA r 4,jA r 5,jA r 6,jA r 7,jA r 8,jA r 9,jA r 10,jA r 11,jA r 12,B (bA r 13),jA r 14,B (bA r 15),jA r 16,jA r 17,jA r 18,jA r 19,jA r 20,B (bA r 21)]:=rfl
theorem Zo7 (r:List AC):AN Ag r=[jA r 0,jA r 1,jA r 2,jA r 3,jA r 4,jA r 5,jA r 6]:=rfl
theorem Z55 (r:List AC):AN Ap r=[jA r 0,jA r 1,jA r 2,jA r 3,jA r 4,jA r 5,jA r 6,jA r 7,jA r 8,jA r 9]:=rfl
attribute [go_sem] Z24 Zo7 Z55
end Go.Bm
