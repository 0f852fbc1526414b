/- the abstract machine -/
import Derived.Test.YtommijghjlikkaaGreatBmDraw
import Derived.Orders
import Derived.Test.YtommijghjlikkaaGreatBmFz
import Derived.ProofKit
import Derived.Below
import Derived.OpenShut
import Derived.ChangeSame
import Derived.Deep.Slices
set_option linter.unusedVariables false
set_option linter.unusedSimpArgs false
namespace Go.Bm
open Go.RowKit
section
variable {P:Program} {C:Cfg} {w:World} {R:Type} {Z:Base}
theorem TJ {E D:Operand->TV}:∀(l:List Operand),(∀x∈l,E x=D x)->Da E l=Da D l
 |[],_=>rfl
 |x::l,h=>by simp only[Da];rw[h x (by simp),TJ l λy G=>h y (by simp[G])]
theorem Qm4 {E D:Operand->TV}:∀(l:List (Nat×Operand)),(∀p∈l,E p.2=D p.2)->GB E l=GB D l
 |[],_=>rfl
 |x::l,h=>by simp only[GB];rw[h x (by simp),Qm4 l λy G=>h y (by simp[G])]
theorem Zb7 {E D:Operand->TV} (o:Option Operand) (h:∀x,o=some x->E x=D x):Lf E o=Lf D o:=by
 cases o with
 |none=>rfl
 |some x=>simp only[Lf];rw[h x rfl]
theorem S3 {G D:Operand->TV} {dst:Option Tmp} {o:Op} (h:∀x∈o.operands,G x=D x) (K:Prim->Option R):opK P C G dst o K=opK P C D dst o K:=by
 cases o<;>simp only[Op.operands]at h<;>simp only[opK]
 case move x=>rw[h x (by simp)]
 case assign x=>rw[h x (by simp)]
 case pick c a b=>rw[h c (by simp),h a (by simp),h b (by simp)]
 case box t x=>rw[h x (by simp)]
 case build t parts=>rw[Qm4 parts.toList λp I=>h p.2 (by simp;exact⟨p.1,by simpa using I⟩)]
 case buildSlice t n parts=>rw[Qm4 parts.toList λp I=>h p.2 (by simp;exact⟨p.1,by simpa using I⟩)]
 case makeSlice t a b=>rw[h a (by simp),h b (by simp)]
 case makeFunc T a b=>
  rw[TJ a.toList λx E=>h x (by simp at E⊢;exact .inl E),TJ b.toList λx E=>h x (by simp at E⊢;exact .inr E)]
 case load t a=>rw[h a (by simp)]
 case store t a x=>rw[h a (by simp),h x (by simp)]
 case nilCheck x=>rw[h x (by simp)]
 case binOp op t x y _=>rw[h x (by simp),h y (by simp)]
 case unOp op t x=>rw[h x (by simp)]
 case convert s d x=>rw[h x (by simp)]
 case fieldAddr t x i=>rw[h x (by simp)]
 case field t x i=>rw[h x (by simp)]
 case indexAddr t x ix=>rw[h x (by simp),h ix (by simp)]
 case index t x ix=>rw[h x (by simp),h ix (by simp)]
 case slice t x M N mx=>
  rw[h x (by simp),Zb7 M λy J=>h y (by simp[J]),Zb7 N λy J=>h y (by simp[J])]
 case extract t i=>rw[h t (by simp)]
 case call c=>
  have O:∀t,c.callee= .value (.tmp t)->G (.tmp t)=D (.tmp t):=λt L=>h _ (by simp only[Call.operands,L];exact Array.mem_append.2 (.inl (by simp)));have S:Da G c.args.toList=Da D c.args.toList:=TJ _ λx E=>h x (by simp only[Call.operands];exact Array.mem_append.2 (.inr (by simpa using E)));rw[S];split
  ·rfl
  ·rfl
  ·rename_i t L;rw[O t L]
  ·rfl
theorem Qyg {tm:List TV} {d:Nat} {v:TV} {x:Operand} (h:x≠ .tmp d):Bb (setL tm d v) x=Bb tm x:=by
 cases x with
 |tmp t=>
  have D:d≠t:=λe=>h (by rw[e]);simp only[Bb,B5,List.getD,Jj,jg,ab D]
 |_=>rfl
def Di (tm:List TV) (d:Option Tmp) (v:TV):List TV:=
 match d with
 |none=>tm
 |some t=>setL tm t v
theorem LA (tm:List TV) (bx:List (Nat×Box)) (aC:List (Nat×Row)) (d:Option Tmp) (v:TV):SY ⟨tm,bx,aC⟩ d v=⟨Di tm d v,bx,aC⟩:=by cases d<;>rfl
theorem Pg {tm:List TV} {d e:Option Tmp} (v u:TV) (h:∀t,d=some t->e≠some t):Di (Di tm d v) e u=Di (Di tm e u) d v:=by
 cases d with
 |none=>rfl
 |some t=>
  cases e with
  |none=>rfl
  |some q=>
   have D:t≠q:=λx=>h t rfl (by rw[x]);simp only[Di,Jj];exact List.set_comm _ _ D
def DF (P:Program) (C:Cfg) (ops:List Oper) (o:Oper) (tm:List TV) (bx:List (Nat×Box)) (aC:List (Nat×Row)):Option (Option Prim×TV×List (Nat×Box)):=
 match Cg ops o tm with
 |some true=>(opK P C (Bb tm) o.dst o.op some).bind λp=>(Az (C:=C) o.dst (p.dr false) bx aC).bind λq=>some (some (p.dr false),q.1,q.2)
 |some false=>some (none, .tup [],bx)
 |none=>none
theorem Zmo {d:Option Tmp} {p:Prim} {bx:List (Nat×Box)} {aC:List (Nat×Row)} (h:Prim.isApp (some p)=true):Az (C:=C) d p bx aC=none:=by
 cases p<;>simp[Prim.isApp]at h
 rfl
theorem Ybb {d:Option Tmp} {p:Prim} {bx:List (Nat×Box)} {aC:List (Nat×Row)} (h:Prim.isMk (some p)=true):Az (C:=C) d p bx aC=none:=by
 cases p<;>simp[Prim.isMk]at h<;>rfl
theorem Zg2 {ops:List Oper} {o:Oper} {tm:List TV} {bx D:List (Nat×Box)} {aC:List (Nat×Row)} {p:Option Prim} {v:TV} (h:DF P C ops o tm bx aC=some (p,v,D)):Prim.isMk p=false:=by
 unfold DF at h;split at h
 ·cases E:opK P C (Bb tm) o.dst o.op some with
  |none=>rw[E]at h;simp at h
  |some q=>
   rw[E]at h;simp only[ah]at h;cases G:Prim.isMk (some (q.dr false))with
   |true=>rw[Ybb G]at h;simp at h
   |false=>
    cases I:Az (C:=C) o.dst (q.dr false) bx aC with
    |none=>rw[I]at h;simp at h
    |some z=>rw[I]at h;simp at h;rw[<-h.1];exact G
 ·simp at h;rw[<-h.1];rfl
 ·simp at h
theorem Zjc {ops:List Oper} {o:Oper} {tm:List TV} {bx D:List (Nat×Box)} {aC:List (Nat×Row)} {p:Option Prim} {v:TV} (h:DF P C ops o tm bx aC=some (p,v,D)):Prim.isApp p=false:=by
 unfold DF at h;split at h
 ·cases E:opK P C (Bb tm) o.dst o.op some with
  |none=>rw[E]at h;simp at h
  |some q=>
   rw[E]at h;simp only[ah]at h;cases G:Prim.isApp (some (q.dr false))with
   |true=>rw[Zmo G]at h;simp at h
   |false=>
    cases I:Az (C:=C) o.dst (q.dr false) bx aC with
    |none=>rw[I]at h;simp at h
    |some z=>rw[I]at h;simp at h;rw[<-h.1];exact G
 ·simp at h;rw[<-h.1];rfl
 ·simp at h
theorem Pu {ops:List Oper} {o:Oper} {tm:List TV} {bx D:List (Nat×Box)} {aC:List (Nat×Row)} {p:Option Prim} {v:TV} (h:DF P C ops o tm bx aC=some (p,v,D)):
  CD (P:=P) (C:=C) ops o ⟨tm,bx,aC⟩=some (p,⟨Di tm o.dst v,D,aC⟩):=by
 have E:=Zjc h;have G:=Zg2 h;unfold DF at h;unfold CD;dsimp only;cases I:Cg ops o tm with
 |none=>rw[I]at h;simp at h
 |some b=>
  cases b
  ·rw[I]at h;simp at h;obtain⟨rfl,rfl,rfl⟩:=h;simp only[LA]
  ·rw[I]at h;dsimp only at h⊢;cases L:opK P C (Bb tm) o.dst o.op some with
   |none=>rw[L]at h;simp at h
   |some q=>
    rw[L]at h;simp only[ah]at h⊢;cases J:Az (C:=C) o.dst (q.dr false) bx aC with
    |none=>rw[J]at h;simp at h
    |some z=>
     rw[J]at h;simp at h;obtain⟨rfl,rfl,rfl⟩:=h;unfold FC;rw[E,G];simp only[aq,J,js,ah,LA]
theorem NL {ops:List Oper} {o:Oper} {tm:List TV} {bx:List (Nat×Box)} {aC:List (Nat×Row)} {p:Option Prim} {J:St} (h:CD (P:=P) (C:=C) ops o ⟨tm,bx,aC⟩=some (p,J)) (M:Prim.isApp p=false) (G:Prim.isMk p=false):
  ∃v E,DF P C ops o tm bx aC=some (p,v,E)/\J=⟨Di tm o.dst v,E,aC⟩:=by
 unfold CD at h;unfold DF;dsimp only at h;cases I:Cg ops o tm with
 |none=>rw[I]at h;simp at h
 |some b=>
  cases b
  ·rw[I]at h;simp at h;obtain⟨rfl,rfl⟩:=h;exact⟨_,_,rfl,by rw[LA]⟩
  ·rw[I]at h;dsimp only at h⊢;cases L:opK P C (Bb tm) o.dst o.op some with
   |none=>rw[L]at h;simp at h
   |some q=>
    rw[L]at h;simp only[ah]at h⊢;cases D:FC (C:=C) o.dst (q.dr false) ⟨tm,bx,aC⟩with
    |none=>rw[D]at h;simp at h
    |some z=>
     rw[D]at h;simp at h;obtain⟨rfl,rfl⟩:=h;unfold FC at D;rw[M,G]at D;simp only[aq,bv]at D;obtain⟨y,N,rfl⟩:=D;rw[N];exact⟨_,_,rfl,by rw[LA]⟩
theorem Qjj {ops:List Oper} {o:Oper} {tm:List TV} {bx:List (Nat×Box)} {aC:List (Nat×Row)} {p:Option Prim} {J:St} (h:CD (P:=P) (C:=C) ops o ⟨tm,bx,aC⟩=some (p,J)) (L:Prim.isApp p=true):
  Cg ops o tm=some true/\∃q id v D,opK P C (Bb tm) o.dst o.op some=some q/\p=some (q.dr false)/\KZ o.dst (q.dr false)=some id/\Lr o.dst aC (q.dr false)=some (v,D)/\J=⟨Di (tm.map (TV.kill id)) o.dst v,bx.map λp=>(p.1,p.2.kill id),D⟩:=by
 unfold CD at h;dsimp only at h;cases G:Cg ops o tm with
 |none=>rw[G]at h;simp at h
 |some b=>
  cases b
  ·rw[G]at h;simp at h;obtain⟨rfl,rfl⟩:=h;simp[Prim.isApp]at L
  ·rw[G]at h;refine⟨rfl,?_⟩;dsimp only at h;cases M:opK P C (Bb tm) o.dst o.op some with
   |none=>rw[M]at h;simp at h
   |some q=>
    rw[M]at h;simp only[ah]at h;cases E:FC (C:=C) o.dst (q.dr false) ⟨tm,bx,aC⟩with
    |none=>rw[E]at h;simp at h
    |some z=>
     rw[E]at h;simp at h;obtain⟨rfl,rfl⟩:=h;unfold FC at E;rw[L]at E;simp only[ai]at E;split at E
     ·rename_i id I;simp only[bv]at E;obtain⟨⟨y1,y2⟩,N,rfl⟩:=E;exact⟨q,id,y1,y2,rfl,rfl,I,N,by unfold XM;rw[LA]⟩
     ·simp at E
theorem Q35 {ops:List Oper} {o:Oper} {tm:List TV} {bx:List (Nat×Box)} {aC D:List (Nat×Row)} {q:Prim} {id:Nat} {v:TV} (E:Cg ops o tm=some true) (G:opK P C (Bb tm) o.dst o.op some=some q)
  (I:KZ o.dst (q.dr false)=some id) (J:Lr o.dst aC (q.dr false)=some (v,D)) (L:Prim.isApp (some (q.dr false))=true):
  CD (P:=P) (C:=C) ops o ⟨tm,bx,aC⟩=some (some (q.dr false),⟨Di (tm.map (TV.kill id)) o.dst v,bx.map λp=>(p.1,p.2.kill id),D⟩):=by
 unfold CD;dsimp only;rw[E,G];simp only[ah];unfold FC;rw[L];simp only[ai,I,J,js,ah,XM,LA]
theorem UM {ops:List Oper} {o:Oper} {tm:List TV} {bx:List (Nat×Box)} {aC:List (Nat×Row)} {p:Option Prim} {L:St} (h:CD (P:=P) (C:=C) ops o ⟨tm,bx,aC⟩=some (p,L)) (G:Prim.isMk p=true):
  Cg ops o tm=some true/\∃q v D,opK P C (Bb tm) o.dst o.op some=some q/\p=some (q.dr false)/\mkD (C:=C) o.dst (q.dr false) aC=some (v,D)/\L=⟨Di tm o.dst v,bx,D⟩:=by
 unfold CD at h;dsimp only at h;cases I:Cg ops o tm with
 |none=>rw[I]at h;simp at h
 |some b=>
  cases b
  ·rw[I]at h;simp at h;obtain⟨rfl,rfl⟩:=h;simp[Prim.isMk]at G
  ·rw[I]at h;refine⟨rfl,?_⟩;dsimp only at h;cases M:opK P C (Bb tm) o.dst o.op some with
   |none=>rw[M]at h;simp at h
   |some q=>
    rw[M]at h;simp only[ah]at h;cases E:FC (C:=C) o.dst (q.dr false) ⟨tm,bx,aC⟩with
    |none=>rw[E]at h;simp at h
    |some z=>
     rw[E]at h;simp at h;obtain⟨rfl,rfl⟩:=h;have J:Prim.isApp (some (q.dr false))=false:=by
      generalize q.dr false=N at G⊢;cases N<;>simp[Prim.isMk]at G<;>rfl
     unfold FC at E;rw[J,G]at E;simp only[aq,ai,bv]at E;obtain⟨⟨y1,y2⟩,O,rfl⟩:=E;exact⟨q,y1,y2,rfl,rfl,O,by rw[LA]⟩
theorem Uq {ops:List Oper} {o:Oper} {tm:List TV} {bx:List (Nat×Box)} {aC D:List (Nat×Row)} {q:Prim} {v:TV} (I:Cg ops o tm=some true) (J:opK P C (Bb tm) o.dst o.op some=some q)
  (L:mkD (C:=C) o.dst (q.dr false) aC=some (v,D)) (E:Prim.isMk (some (q.dr false))=true):
  CD (P:=P) (C:=C) ops o ⟨tm,bx,aC⟩=some (some (q.dr false),⟨Di tm o.dst v,bx,D⟩):=by
 have G:Prim.isApp (some (q.dr false))=false:=by
  generalize q.dr false=M at E⊢;cases M<;>simp[Prim.isMk]at E<;>rfl
 unfold CD;dsimp only;rw[I,J];simp only[ah];unfold FC;rw[G,E];simp only[ai,aq,L,js,ah,LA]
theorem Zns {id:Nat} {a:AC} (h:a.live=true):a.kill id=a:=by cases a<;>simp[AC.live]at h<;>rfl
theorem Zn3 {id:Nat} {a:AC} (h:(a.kill id).live=true):a.kill id=a:=by
 cases a<;>simp only[AC.kill]at h⊢<;>try rfl
 all_goals
  rename_i j b c;cases hb:Nat.beq j id<;>rw[hb]at h
  ·rfl
  ·simp[AC.live]at h
theorem Qr8 {id:Nat}:∀{l:List AC},Al AC.live l=true->l.map (AC.kill id)=l
 |[],_=>rfl
 |a::l,h=>by
  rw[AD]at h;simp only[bm];rw[Zns (h a (by simp)),Qr8 (AD.2 λx D=>h x (by simp[D]))]
theorem Qy8 {id:Nat}:∀{l:List AC},Al AC.live (l.map (AC.kill id))=true->l.map (AC.kill id)=l
 |[],_=>rfl
 |a::l,h=>by
  rw[AD]at h;simp only[bm]at h⊢;rw[Zn3 (h _ (by simp)),Qy8 (AD.2 λx D=>h x (by simp[D]))]
theorem Qpe (id:Nat):∀(tm:List TV) (t:Nat),nth .vD (tm.map (TV.kill id)) t=(nth .vD tm t).kill id
 |[],_=>rfl
 |_::_,0=>rfl
 |_::tm,t+1=>Qpe id tm t
theorem Qqc {id:Nat} {tm:List TV} {x:Operand} {g:Bool} {cs:List AC} (h:Bb tm x= .v g cs) (D:Al AC.live cs=true):Bb (tm.map (TV.kill id)) x= .v g cs:=by
 cases x<;>try exact h
 simp only[Bb]at h⊢;rw[Qpe,h];simp only[TV.kill];rw[Qr8 D]
theorem Qe3 {id:Nat} {tm:List TV} {x:Operand} {g:Bool} {cs:List AC} (h:Bb (tm.map (TV.kill id)) x= .v g cs) (E:Al AC.live cs=true):Bb tm x= .v g cs:=by
 cases x<;>try exact h
 simp only[Bb]at h⊢;rw[Qpe]at h;cases D:nth TV.vD tm (by assumption)with
 |vD=>rw[D]at h;simp[TV.kill]at h
 |tup ps=>rw[D]at h;simp[TV.kill]at h
 |v I G=>
  rw[D]at h;simp only[TV.kill,TV.v.injEq]at h;obtain⟨rfl,rfl⟩:=h;rw[Qy8 E]
theorem Z1 {q:Prim} (h:Prim.isPtr (some (q.dr false))=true):∃k o,q= .val (.v false [.ptr k o]):=by
 cases q<;>simp only[Prim.dr,Prim.isPtr]at h<;>try (simp at h;done)
 case callM f args=>cases hb:Al TV.plainB args<;>simp[hb]at h
 rename_i v;split at h
 ·rename_i h';simp at h';exact⟨_,_,by rw[h']⟩
 ·simp at h
theorem Q8i {q:Prim} (h:Prim.isLive (some (q.dr false))=true):∃g cs,q= .val (.v g cs)/\Al AC.live cs=true:=by
 cases q<;>simp only[Prim.dr,Prim.isLive]at h<;>try (simp at h;done)
 case callM f args=>cases hb:Al TV.plainB args<;>simp[hb]at h
 rename_i v;cases v<;>simp at h
 exact⟨_,_,rfl,h⟩
theorem Qx2 {id:Nat} {tm:List TV} {dst:Option Tmp} {o:Op} {q:Prim} (D:Prim.still o (some (q.dr false))=true):
  opK P C (Bb (tm.map (TV.kill id))) dst o some=some q↔opK P C (Bb tm) dst o some=some q:=by
 cases o<;>simp[Prim.still]at D
 case move x=>
  obtain⟨g,cs,rfl,D⟩:=Q8i D;simp only[opK,av,Prim.val.injEq];exact⟨λh=>Qe3 h D,λh=>Qqc h D⟩
 case nilCheck x=>
  obtain⟨k,o,rfl⟩:=Z1 D;have J:Al AC.live [AC.ptr k o]=true:=rfl;have key:∀E:Operand->TV,opK P C E dst (.nilCheck x) some=some (.val (.v false [.ptr k o]))↔E x= .v false [.ptr k o]:=by
   intro E;simp only[opK];split
   ·rename_i k' I h;rw[h];simp[TV.c]
   ·rename_i h;rw[h];simp[TV.c]
   ·rename_i h;rw[h];simp[TV.c]
   ·rename_i L M N;constructor
    ·intro h;simp at h
    ·intro h;exact(L _ _ h).elim
  rw[key,key];exact⟨λh=>Qe3 h J,λh=>Qqc h J⟩
 case fieldAddr t x i=>
  obtain⟨k,o,rfl⟩:=Z1 D;have key:∀E:Operand->TV,opK P C E dst (.fieldAddr t x i) some=some (.val (.v false [.ptr k o]))->∃k' I,E x= .v false [.ptr k' I]:=by
   intro E h;simp only[opK]at h
   repeat' split at h
   all_goals first|(simp at h;done)|(simp[TV.c]at h;done)|exact⟨_,_,by assumption⟩
  constructor
  ·intro h;obtain⟨k',I,e⟩:=key _ h;have e2:=Qe3 e rfl;rw[<-h];refine S3 (λy G=> ?_) some;simp only[Op.operands]at G;simp at G;subst G;rw[e,e2]
  ·intro h;obtain⟨k',I,e⟩:=key _ h;have e2:=Qqc (id:=id) e rfl;rw[<-h];refine S3 (λy G=> ?_) some;simp only[Op.operands]at G;simp at G;subst G;rw[e,e2]
theorem Q7h {o:Op} {q:Prim} (D:Prim.still o (some (q.dr false))=true):∃g cs,q= .val (.v g cs)/\Al AC.live cs=true:=by
 cases o<;>simp[Prim.still]at D
 case move x=>exact Q8i D
 all_goals
  obtain⟨k,o,rfl⟩:=Z1 D;exact⟨_,_,rfl,rfl⟩
theorem Q0a {id:Nat} {tm:List TV} {d:Option Tmp} {g:Bool} {cs:List AC} (h:Al AC.live cs=true):(Di tm d (.v g cs)).map (TV.kill id)=Di (tm.map (TV.kill id)) d (.v g cs):=by
 cases d with
 |none=>rfl
 |some t=>
  simp only[Di,Jj,List.map_set,TV.kill];rw[Qr8 h]
theorem Rb {ops:Array Oper} {o:Oper} {tm:List TV} {d:Option Tmp} {v:TV} (h:∀t,d=some t->t∉o.looksAt ops):Cg ops.toList o (Di tm d v)=Cg ops.toList o tm:=by
 cases d with
 |none=>rfl
 |some t=>
  have I:=h t rfl;unfold Cg;cases J:o.guard with
  |none=>rfl
  |some L=>
   obtain⟨j,want⟩:=L;dsimp only;cases M:ops.toList[j]? with
   |none=>rfl
   |some G=>
    dsimp only;cases N:G.dst with
    |none=>rfl
    |some q=>
     dsimp only;have D:ops[j]? =some G:=by simpa using M
     have E:t≠q:=by
      rintro rfl;exact I (by simp[Oper.looksAt,J,D,N])
     have:nth .vD (Di tm (some t) v) q=nth .vD tm q:=by
      simp only[Di,B5,List.getD,Jj,jg,ab E]
     rw[this]
theorem Uu {ops:Array Oper} {o:Oper} {tm:List TV} {bx:List (Nat×Box)} {aC:List (Nat×Row)} {d:Option Tmp} {v:TV} (h:∀t,d=some t->t∉o.looksAt ops):
  DF P C ops.toList o (Di tm d v) bx aC=DF P C ops.toList o tm bx aC:=by
 unfold DF;rw[Rb h];cases d with
 |none=>rfl
 |some t=>
  have D:=h t rfl;rw [show opK P C (Bb (Di tm (some t) v)) o.dst o.op some = opK P C (Bb tm) o.dst o.op some from S3 (λx E => Qyg (by
   rintro rfl;exact D (List.mem_append_left _ (List.mem_filterMap.2 ⟨.tmp t,by simpa using E,rfl⟩)))) some]
theorem Kg {a b:Nat} (h:a≠b):Nat.beq a b=false:=KL h
theorem Wq {α:Type}:∀(l:List (Nat×α)) (k j:Nat) (x y:α),k≠j->upd (upd l k x) j y=upd (upd l j y) k x
 |[],_,_,_,_,_=>rfl
 |(i,b)::l,k,j,x,y,h=>by
  by_cases D:i=k
  ·subst D;simp only[upd,j7,ai,Kg h,aq]
  ·by_cases E:i=j
   ·subst E;simp only[upd,j7,ai,Kg D,aq]
   ·simp only[upd,Kg D,Kg E,aq];rw[Wq l k j x y h]
theorem Hz {a b:Nat} (h:a<b):Nat.blt a b=true:=by simpa using h
theorem Hc {a b:Nat} (h: ¬a<b):Nat.blt a b=false:=by
 cases hb:Nat.blt a b
 ·rfl
 ·simp at hb;omega
theorem Qbf {α:Type}:∀(l:List (Nat×α)) (k j:Nat) (x y:α),k≠j->ins (ins l k x) j y=ins (ins l j y) k x
 |[],k,j,x,y,h=>by
  by_cases D:j<k
  ·simp only[ins,Hz D,ai,Hc (show¬k<j by omega),aq]
  ·simp only[ins,Hc D,aq,Hz (show k<j by omega),ai]
 |(i,b)::l,k,j,x,y,h=>by
  by_cases D:k<i<;>by_cases E:j<i
  ·by_cases G:j<k
   ·simp only[ins,Hz D,Hz E,Hz G,Hc (show¬k<j by omega),ai,aq]
   ·simp only[ins,Hz D,Hz E,Hc G,Hz (show k<j by omega),ai,aq]
  ·simp only[ins,Hz D,Hc E,Hc (show¬j<k by omega),ai,aq]
  ·simp only[ins,Hc D,Hz E,Hc (show¬k<j by omega),ai,aq]
  ·simp only[ins,Hc D,Hc E,aq];rw[Qbf l k j x y h]
theorem Tw {α:Type}:∀(l:List (Nat×α)) (k j:Nat) (x y:α),k≠j->upd (ins l k x) j y=ins (upd l j y) k x
 |[],k,j,x,y,h=>by simp only[ins,upd,Kg h,aq]
 |(i,b)::l,k,j,x,y,h=>by
  by_cases D:k<i<;>by_cases E:i=j
  ·subst E;simp only[ins,upd,Hz D,Kg h,j7,ai,aq]
  ·simp only[ins,upd,Hz D,Kg h,Kg E,ai,aq]
  ·subst E;simp only[ins,upd,Hc D,j7,ai,aq]
  ·simp only[ins,upd,Hc D,Kg E,aq];rw[Tw l k j x y h]
theorem M_ {d:Option Tmp} {f:FuncId} {args:List TV} {bx D:List (Nat×Box)} {aC:List (Nat×Row)} {v:TV} (h:Az (C:=C) d (.call f args) bx aC=some (v,D)):
  D=bx/\∀(L:Option Tmp) (E:List (Nat×Box)),Az (C:=C) L (.call f args) E aC=some (v,E):=by
 simp only[Az]at h⊢;cases G:C.spec f with
 |none=>rw[G]at h;simp at h
 |some g=>
  rw[G]at h;dsimp only at h⊢;cases I:Hk aC args with
  |none=>rw[I]at h;simp at h
  |some l=>
   rw[I]at h;dsimp only at h⊢;cases J:g (TV×Mem) l ⟨[],[]⟩ (λv m=>some (v,m))with
   |none=>rw[J]at h;simp at h
   |some q=>
    rw[J]at h;obtain⟨u,⟨M,N⟩⟩:=q;cases M with
    |cons _ _=>simp at h
    |nil=>
     cases N with
     |cons _ _=>simp at h
     |nil=>
      dsimp only at h⊢;split at h
      ·rename_i O;simp at h;obtain⟨rfl,rfl⟩:=h;refine⟨rfl,λ_ _=> ?_⟩;rw[aa O]
      ·simp at h
theorem Pv {d:Option Tmp} {g:Bool} {sz id idx sub:Nat} {bx D:List (Nat×Box)} {aC:List (Nat×Row)} {v:TV} (h:Az (C:=C) d (.rload g sz id idx sub) bx aC=some (v,D)):
  D=bx/\∀(E:Option Tmp) (b':List (Nat×Box)),Az (C:=C) E (.rload g sz id idx sub) b' aC=some (v,b'):=by
 simp only[Az]at h⊢
 repeat' split at h
 all_goals first|(simp at h;done)|skip
 simp at h;obtain⟨rfl,rfl⟩:=h;exact⟨rfl,λ_ _=>rfl⟩
theorem Q4b {n k:Nat}:∀{l:List Nat},k∈Q_ n l↔k=n\/k∈l
 |[]=>by simp[Q_]
 |m::l=>by
  simp only[Q_];cases hb:Nat.beq m n
  ·simp only[aq,ao,Q4b (l:=l)];constructor
   ·rintro(h|h|h)<;>simp[h]
   ·rintro(h|h|h)<;>simp[h]
  ·have:=af hb;subst this;simp only[ai,ao];constructor
   ·rintro(h|h)<;>simp[h]
   ·rintro(h|h|h)<;>simp[h]
theorem Q3s {k:Nat}:∀{ns l:List Nat},k∈Bd ns l↔k∈ns\/k∈l
 |[],l=>by simp[Bd]
 |n::ns,l=>by
  simp only[Bd,Q3s (ns:=ns),Q4b,ao];constructor
  ·rintro(h|h|h)<;>simp[h]
  ·rintro((h|h)|h)<;>simp[h]
theorem U7 {α β:Type} {g:α->List β} {x:β}:∀{l:List α},x∈cat g l↔∃a∈l,x∈g a
 |[]=>by simp[cat]
 |a::l=>by simp[cat,U7 (l:=l)]
theorem Uh {k:Nat}:∀{l:List AC},k∈AC.keys.keysL l->∃o,AC.ptr k o∈l
 |[],h=>by simp[AC.keys.keysL]at h
 |a::l,h=>by
  cases a
  case ptr j o=>
   simp only[AC.keys.keysL,ao]at h;rcases h with rfl|h
   ·exact⟨o,by simp⟩
   ·obtain⟨D,h'⟩:=Uh h;exact⟨D,by simp[h']⟩
  all_goals
   simp only[AC.keys.keysL]at h;obtain⟨D,h'⟩:=Uh h;exact⟨D,by simp[h']⟩
theorem Z2l {bx:List (Nat×Box)} {aC:List (Nat×Row)} {args:List TV} (h:∀v∈args,TV.wf bx aC v) {k:Nat} (L:k∈Bd (cat AC.keys (cat TV.cellsOf args)) []):∃b,Ac bx k=some b:=by
 simp only[Q3s,lg,or_false]at L;obtain⟨a,N,D⟩:=U7.1 L;obtain⟨v,O,E⟩:=U7.1 N;have M:=h v O;have G:AC.wf bx aC a:=by
  cases v with
  |vD=>simp[TV.cellsOf]at E
  |v g cs=>exact M a E
  |tup ps=>
   simp only[TV.cellsOf]at E;obtain⟨p,S,I⟩:=U7.1 E;exact M p S a I
 cases a
 case ptr j o=>simp[AC.keys]at D;subst D;exact G
 case bsl j o=>simp[AC.keys]at D;subst D;exact G
 case clo f fs cs=>
  simp only[AC.keys,ba]at D;rcases D with D|D
  ·obtain⟨o,J⟩:=Uh D;exact G.1 _ J
  ·obtain⟨o,J⟩:=Uh D;exact G.2 _ J
 all_goals simp[AC.keys]at D
theorem Zcw {bx D:List (Nat×Box)} {E ri:Nat->Nat}:∀(keys:List Nat) (b:Nat),(∀k∈keys,Ac D k=Ac bx k)->Ee D E ri b keys=Ee bx E ri b keys
 |[],_,_=>rfl
 |k::keys,b,h=>by
  simp only[Ee];rw[h k (by simp),Zcw keys (b+1) λj G=>h j (by simp[G])]
theorem Q79 {α:Type} {p q:α->Bool}:∀{l:List α},(∀x∈l,p x=q x)->Al p l=Al q l
 |[],_=>rfl
 |a::l,h=>by simp only[Al];rw[h a (by simp),Q79 (l:=l) λx D=>h x (by simp[D])]
theorem Nh {keys:List Nat}:∀(m:List (Nat×Box)) (l:List (Nat×Box)) (n:Nat),(∀p∈m,n≠nth 0 keys (p.1-base))->Ac (C2 keys m l) n=Ac l n
 |[],_,_,_=>rfl
 |(j,c)::m,l,n,h=>by
  simp only[C2];rw[Nh m _ n λp D=>h p (by simp[D])];exact DG _ _ _ _ (h (j,c) (by simp))
theorem Qg9 {keys:List Nat}:∀(m:List (Nat×Box)) (l:List (Nat×Box)) (n:Nat) (x:Box),(∀p∈m,n≠nth 0 keys (p.1-base))->C2 keys m (upd l n x)=upd (C2 keys m l) n x
 |[],_,_,_,_=>rfl
 |(j,c)::m,l,n,x,h=>by
  simp only[C2];rw[Wq _ _ _ _ _ (h (j,c) (by simp)),Qg9 m _ n x λp D=>h p (by simp[D])]
theorem Qct {keys:List Nat}:∀(m:List (Nat×Box)) (l:List (Nat×Box)) (n:Nat) (x:Box),(∀p∈m,n≠nth 0 keys (p.1-base))->C2 keys m (ins l n x)=ins (C2 keys m l) n x
 |[],_,_,_,_=>rfl
 |(j,c)::m,l,n,x,h=>by
  simp only[C2];rw[Tw _ _ _ _ _ (h (j,c) (by simp)),Qct m _ n x λp D=>h p (by simp[D])]
theorem Vs {d:Option Tmp} {f:FuncId} {args:List TV} {bx I:List (Nat×Box)} {aC:List (Nat×Row)} {v:TV} (h:Az (C:=C) d (.callD f args) bx aC=some (v,I)):
  ∃D,I=C2 (Bd (cat AC.keys (cat TV.cellsOf args)) []) D bx/\(∀p∈D,nth 0 (Bd (cat AC.keys (cat TV.cellsOf args)) []) (p.1-base)∈Bd (cat AC.keys (cat TV.cellsOf args)) [])/\v.plainB=true/\
   ∀(M:Option Tmp) (G:List (Nat×Box)),(∀k∈Bd (cat AC.keys (cat TV.cellsOf args)) [],Ac G k=Ac bx k)->Az (C:=C) M (.callD f args) G aC=some (v,C2 (Bd (cat AC.keys (cat TV.cellsOf args)) []) D G):=by
 simp only[Az]at h⊢;generalize Bd (cat AC.keys (cat TV.cellsOf args)) []=keys at h⊢;cases N:C.spec f with
 |none=>rw[N]at h;simp at h
 |some g=>
  rw[N]at h;dsimp only at h⊢;split at h
  ·rename_i S;split at h
   ·rename_i Y J;split at h
    ·rename_i v' D T;split at h
     ·rename_i L;simp only[av,dc]at h;obtain⟨rfl,rfl⟩:=h;have E:=L;simp only[ak]at E;refine⟨D,rfl,λp U=> ?_,E.2,λM G O=> ?_⟩
      ·obtain⟨b,hb⟩:=UB (AD.1 E.1.1.1.2 p U);obtain⟨i,V,e⟩:=(Mj J).2 _ _ hb;rw[e,show base+i-base=i from by omega];exact F_ V
      ·rw[Q79 (q:=λk=>Al AC.calm (Fb bx k)) (λk X=>by unfold Fb;rw[O k X]),Zcw keys base O,J,aa S];dsimp only;rw[T];dsimp only;rw[aa L]
     ·simp at h
    ·simp at h
   ·simp at h
  ·simp at h
theorem RZ {keys:List Nat}:∀(m:List (Nat×Box)) (l:List (Nat×Box)) {n:Nat} {b:Box},Ac l n=some b->∃b',Ac (C2 keys m l) n=some b'
 |[],_,_,b,h=>⟨b,h⟩
 |(j,c)::m,l,n,b,h=>by
  simp only[C2];by_cases e:n=nth 0 keys (j-base)
  ·subst e;exact RZ m _ (Fm _ _ _ _ h)
  ·exact RZ m _ (b:=b) (by rw[DG _ _ _ _ e];exact h)
theorem Z6i {d:Option Tmp} {f:FuncId} {args:List TV} {bx D:List (Nat×Box)} {aC:List (Nat×Row)} {v:TV} (h:Az (C:=C) d (.callD f args) bx aC=some (v,D)):
  ∀k∈Bd (cat AC.keys (cat TV.cellsOf args)) [],∃b,Ac bx k=some b:=by
 simp only[Az]at h;generalize Bd (cat AC.keys (cat TV.cellsOf args)) []=keys at h⊢;split at h
 ·split at h
  ·split at h
   ·rename_i I E;intro k G;obtain⟨x,q,_⟩:=(Mj E).1 (pos keys k) (EF G).1;rw[(EF G).2]at q;exact⟨x,q⟩
   ·simp at h
  ·simp at h
 ·simp at h
theorem Qvu {α:Type}:∀(l:List (Nat×α)) (k:Nat) (x:α),Ac l k=some x->upd l k x=l
 |[],_,_,_=>rfl
 |(j,b)::l,k,x,h=>by
  simp only[Ac,upd]at h⊢;cases D:Nat.beq j k
  ·rw[D]at h;simp only[aq]at h⊢;rw[Qvu l k x h]
  ·rw[D]at h;simp only[ai,av]at h⊢;rw[h,af D]
theorem Q2u {keys:List Nat} {bx:List (Nat×Box)} {rk ri:Nat->Nat}:∀(ks pre:List Nat) (E:List (Nat×Box)),keys=pre++ks->Ee bx rk ri (base+pre.length) ks=some E->(∀k∈ks,Al AC.calm (Fb bx k)=true)->C2 keys E bx=bx
 |[],_,E,_,h,_=>by simp[Ee]at h;subst h;rfl
 |k::ks,pre,E,G,h,I=>by
  simp only[Ee]at h;split at h
  ·rename_i x J;split at h
   ·rename_i l L;simp only[av]at h;subst h;simp only[C2];have M:nth 0 keys (base+pre.length-base)=k:=by
     rw[show base+pre.length-base=pre.length from by omega,B5,G];simp
    have D:=I k (by simp);unfold Fb at D;rw[J]at D;rw[M,R8 D,Qvu bx k _ J];exact Q2u (rk:=rk) (ri:=ri) ks (pre++[k]) l (by rw[G];simp) (by rw[<-L];simp[dm]) (λj N=>I j (by simp[N]))
   ·simp at h
  ·simp at h
theorem TA (D:Aj P C) {d:Option Tmp} {f:FuncId} (E:C.ro f=true) {args:List TV} {bx bx1:List (Nat×Box)} {aC:List (Nat×Row)} {v:TV} (h:Az (C:=C) d (.callD f args) bx aC=some (v,bx1)):bx1=bx:=by
 simp only[Az]at h;generalize Bd (cat AC.keys (cat TV.cellsOf args)) []=keys at h;cases G:C.spec f with
 |none=>rw[G]at h;simp at h
 |some g=>
  rw[G]at h;dsimp only at h;split at h
  ·rename_i J;simp only[ak]at J;split at h
   ·rename_i L I;split at h
    ·rename_i S M N;split at h
     ·simp only[av,dc]at h;have e:=D.2 f g G E _ _ _ _ N;simp only[Mem.mk.injEq,and_true]at e;rw[<-h.2,e];exact Q2u keys [] L rfl (by simpa using I) (λk O=>AD.1 J.1.2 k O)
     ·simp at h
    ·simp at h
   ·simp at h
  ·simp at h
theorem Zpw (U:Aj P C) {di V:Option Tmp} {pi pj:Prim} {bx bx1 J:List (Nat×Box)} {aC:List (Nat×Row)} {vi vj:TV} (I:Az (C:=C) di pi bx aC=some (vi,bx1)) (D:Az (C:=C) V pj bx1 aC=some (vj,J))
  (hm:Prim.meet C.ro (some pi) (some pj)=false) (hd:∀t,di=some t->V≠some t) (a8:Prim.wf bx aC pj):
  ∃a7,Az (C:=C) V pj bx aC=some (vj,a7)/\Az (C:=C) di pi a7 aC=some (vi,J):=by
 have a9:∀{a b:Nat},Nat.beq a b=false->a≠b:=λh e=>by subst e;simp at h
 cases pi<;>simp only[Az]at I<;>try (simp at I;done)
 case val v=>simp at I;obtain⟨rfl,rfl⟩:=I;exact⟨J,D,rfl⟩
 case newView e ks l=>simp at I;obtain⟨rfl,rfl⟩:=I;exact⟨J,D,rfl⟩
 case rload g sz id idx sub=>
  obtain⟨rfl,X⟩:=Pv (C:=C) (d:=di) (by simpa only[Az]using I);exact⟨J,D,X _ _⟩
 case callD f args=>
  obtain⟨S,rfl,Y,_,X⟩:=Vs (C:=C) (d:=di) (f:=f) (args:=args) (aC:=aC) (by simpa only[Az]using I);have E:=X di bx λ_ _=>rfl;have a2:∀k∈Bd (cat AC.keys (cat TV.cellsOf args)) [],∃b,Ac bx k=some b:=Z6i (C:=C) (d:=di) (f:=f) (v:=vi) (aC:=aC) (by simpa only[Az]using E);cases pj<;>simp only[Az]at D<;>try (simp at D;done)
  case val v=>simp at D;obtain⟨rfl,rfl⟩:=D;exact⟨bx,rfl,E⟩
  case newView e ks l=>simp at D;obtain⟨rfl,rfl⟩:=D;exact⟨bx,rfl,E⟩
  case rload g sz id idx sub=>
   obtain⟨rfl,b0⟩:=Pv (C:=C) (d:=V) (by simpa only[Az]using D);exact⟨bx,b0 _ _,E⟩
  case call f' a3=>
   obtain⟨rfl,b0⟩:=M_ (d:=V) D;exact⟨bx,b0 _ _,E⟩
  case load g sz k' o'=>
   cases a4:C.ro f
   case true=>
    have e1:=TA U (d:=di) a4 (aC:=aC) E;rw[e1]at D E;have e2:J=bx:=by
     repeat' split at D
     all_goals first|(simp at D;done)|(simp at D;exact D.2.symm)
    subst e2;exact⟨J,by simp only[Az];exact D,E⟩
   have T:k'∉Bd (cat AC.keys (cat TV.cellsOf args)) []:=λe=>by
    have:=FJ.2 e;simp only[Prim.meet,a4,Bool.not_false,Bool.true_and]at hm;rw[hm]at this;cases this
   have L:∀p∈S,k'≠nth 0 (Bd (cat AC.keys (cat TV.cellsOf args)) []) (p.1-base):=λp hp e=>T (by rw[e];exact Y p hp);rw[Nh _ _ _ L]at D;refine⟨bx,?_,?_⟩
   ·simp only[Az]
    repeat' split at D
    all_goals first|(simp at D;done)|skip
    rename_i q1 _ _ q2;simp at D;obtain⟨rfl,_⟩:=D;simp only[q1,q2]
   ·have:J=C2 (Bd (cat AC.keys (cat TV.cellsOf args)) []) S bx:=by
     repeat' split at D
     all_goals first|(simp at D;done)|(simp at D;exact D.2.symm)
    rw[this];exact E
  case store k' o' O=>
   have T:k'∉Bd (cat AC.keys (cat TV.cellsOf args)) []:=λe=>by
    have:=FJ.2 e;simp only[Prim.meet]at hm;rw[hm]at this;cases this
   have L:∀p∈S,k'≠nth 0 (Bd (cat AC.keys (cat TV.cellsOf args)) []) (p.1-base):=λp hp e=>T (by rw[e];exact Y p hp);rw[Nh _ _ _ L]at D;cases h2:Ac bx k' with
   |none=>rw[h2]at D;simp at D
   |some b'=>
    rw[h2]at D;dsimp only at D;split at D
    ·rename_i a0;simp at D;obtain⟨rfl,rfl⟩:=D;refine⟨upd bx k' ⟨b'.ty,splice b'.cells o' O⟩,by simp only[Az,h2,a0,dv],?_⟩;rw[X di _ λk a1=>DG _ _ _ _ (by rintro rfl;exact T a1),Qg9 _ _ _ _ L]
    ·simp at D
  case new ty O=>
   split at D
   ·rename_i d;split at D
    ·simp at D
    ·rename_i hn;simp at D;obtain⟨rfl,rfl⟩:=D;have L:∀p∈S,d≠nth 0 (Bd (cat AC.keys (cat TV.cellsOf args)) []) (p.1-base):=λp hp e=>by
      have a6:∃b,Ac bx d=some b:=a2 d (by rw[e];exact Y p hp);obtain⟨b,hb⟩:=a6;have:∃b',Ac (C2 (Bd (cat AC.keys (cat TV.cellsOf args)) []) S bx) d=some b':=RZ _ _ hb;obtain⟨b',M⟩:=this;rw[hn]at M;cases M
     have a5:d∉Bd (cat AC.keys (cat TV.cellsOf args)) []:=λe=>by
      obtain⟨b,hb⟩:=a2 d e;obtain⟨b',M⟩:=RZ (keys:=Bd (cat AC.keys (cat TV.cellsOf args)) []) S bx hb;rw[hn]at M;cases M
     rw[Nh _ _ _ L]at hn;refine⟨ins bx d ⟨ty,O⟩,by simp only[Az,hn],?_⟩;rw[X di _ λk a1=>Eb _ _ _ _ (by rintro rfl;exact a5 a1),Qct _ _ _ _ L]
   ·simp at D
  case callD f' a3=>
   simp only[Prim.meet,Bool.not_eq_false',ak]at hm;have e1:=TA U (d:=di) hm.1 (aC:=aC) E;rw[e1]at D E;have e2:=TA U (d:=V) hm.2 (aC:=aC) (f:=f') (args:=a3) (v:=vj) (bx1:=J) (by simpa only[Az]using D);subst e2;exact⟨J,by simpa only[Az]using D,E⟩
 case call f args=>
  obtain⟨rfl,X⟩:=M_ (d:=di) I;exact⟨J,D,X _ _⟩
 case load g sz key off=>
  cases G:Ac bx key with
  |none=>rw[G]at I;simp at I
  |some b=>
   rw[G]at I;dsimp only at I;cases h2:DV g sz b.cells off with
   |none=>rw[h2]at I;simp at I
   |some v=>
    rw[h2]at I;simp at I;obtain⟨rfl,rfl⟩:=I;refine⟨J,D,?_⟩;have hl:Ac J key=some b:=by
     cases pj<;>simp only[Az]at D<;>try (simp at D;done)
     case val=>simp at D;rw[<-D.2];exact G
     case newView=>simp at D;rw[<-D.2];exact G
     case rload=>
      obtain⟨rfl,_⟩:=Pv (C:=C) (d:=V) (by simpa only[Az]using D);exact G
     case callD f args=>
      cases a4:C.ro f
      case true=>
       rw[TA U (d:=V) a4 (aC:=aC) (args:=args) (v:=vj) (bx1:=J) (by simpa only[Az]using D)];exact G
      obtain⟨S,rfl,Y,_,_⟩:=Vs (C:=C) (d:=V) (f:=f) (args:=args) (aC:=aC) (by simpa only[Az]using D);rw[Nh _ _ _ λp hp e=>by
       have:=FJ.2 (Y p hp);rw[<-e]at this;simp only[Prim.meet,a4,Bool.not_false,Bool.true_and]at hm;rw[hm]at this;cases this]
      exact G
     case call=>
      obtain⟨rfl,_⟩:=M_ (d:=V) D;exact G
     case load=>
      repeat' split at D
      all_goals first|(simp at D;done)|(simp at D;rw[<-D.2];exact G)
     case store k' o' O=>
      split at D
      ·split at D
       ·simp at D;rw[<-D.2,DG _ _ _ _ (a9 hm)];exact G
       ·simp at D
      ·simp at D
     case new ty cs=>
      split at D
      ·rename_i d;split at D
       ·simp at D
       ·rename_i hn;simp at D;rw[<-D.2,Eb _ _ _ _ (by rintro rfl;rw[hn]at G;simp at G)];exact G
      ·simp at D
    simp only[Az,hl,h2]
 case store key off cs=>
  cases G:Ac bx key with
  |none=>rw[G]at I;simp at I
  |some b=>
   rw[G]at I;dsimp only at I;split at I
   ·rename_i hle;simp at I;obtain⟨rfl,rfl⟩:=I;cases pj<;>simp only[Az]at D<;>try (simp at D;done)
    case val v=>simp at D;obtain⟨rfl,rfl⟩:=D;exact⟨bx,rfl,by simp only[Az,G,hle,dv]⟩
    case newView e ks l=>simp at D;obtain⟨rfl,rfl⟩:=D;exact⟨bx,rfl,by simp only[Az,G,hle,dv]⟩
    case rload g sz id idx sub=>
     obtain⟨rfl,X⟩:=Pv (C:=C) (d:=V) (by simpa only[Az]using D);exact⟨bx,X _ _,by simp only[Az,G,hle,dv]⟩
    case callD f args=>
     obtain⟨S,rfl,Y,_,X⟩:=Vs (C:=C) (d:=V) (f:=f) (args:=args) (aC:=aC) (by simpa only[Az]using D);have T:key∉Bd (cat AC.keys (cat TV.cellsOf args)) []:=λe=>by
      have:=FJ.2 e;simp only[Prim.meet]at hm;rw[hm]at this;cases this
     have L:∀p∈S,key≠nth 0 (Bd (cat AC.keys (cat TV.cellsOf args)) []) (p.1-base):=λp hp e=>T (by rw[e];exact Y p hp);refine⟨_,X V bx λk a1=>(DG _ _ _ _ (by rintro rfl;exact T a1)).symm,?_⟩;simp only[Az];rw[Nh _ _ _ L,G];simp only[hle,dv];rw[Qg9 _ _ _ _ L]
    case call f args=>
     obtain⟨rfl,X⟩:=M_ (d:=V) D;exact⟨bx,X _ _,by simp only[Az,G,hle,dv]⟩
    case load g sz k' o'=>
     have T:=a9 hm;rw[DG _ _ _ _ (λe=>T e.symm)]at D;refine⟨bx,?_,?_⟩
     ·simp only[Az]
      repeat' split at D
      all_goals first|(simp at D;done)|skip
      rename_i q1 _ _ q2;simp at D;obtain⟨rfl,_⟩:=D;simp only[q1,q2]
     ·have:J=upd bx key ⟨b.ty,splice b.cells off cs⟩:=by
       repeat' split at D
       all_goals first|(simp at D;done)|(simp at D;exact D.2.symm)
      subst this;simp only[Az,G,hle,dv]
    case store k' o' O=>
     have T:=a9 hm;rw[DG _ _ _ _ (λe=>T e.symm)]at D;cases h2:Ac bx k' with
     |none=>rw[h2]at D;simp at D
     |some b'=>
      rw[h2]at D;dsimp only at D;split at D
      ·rename_i a0;simp at D;obtain⟨rfl,rfl⟩:=D;refine⟨upd bx k' ⟨b'.ty,splice b'.cells o' O⟩,by simp only[Az,h2,a0,dv],?_⟩;simp only[Az];rw[DG _ _ _ _ T,G];simp only[hle,dv];rw[Wq _ _ _ _ _ T]
      ·simp at D
    case new ty O=>
     split at D
     ·rename_i d;split at D
      ·simp at D
      ·rename_i hn;simp at D;obtain⟨rfl,rfl⟩:=D;have a5:d≠key:=by
        rintro rfl;rw[Fm _ _ _ _ G]at hn;simp at hn
       rw[DG _ _ _ _ a5]at hn;refine⟨ins bx d ⟨ty,O⟩,by simp only[Az,hn],?_⟩;simp only[Az];rw[Eb _ _ _ _ (λe=>a5 e.symm),G];simp only[hle,dv];rw[Tw _ _ _ _ _ a5]
     ·simp at D
   ·simp at I
 case new ty cs=>
  cases b1:di with
  |none=>rw[b1]at I;simp at I
  |some d=>
   rw[b1]at I;dsimp only at I;cases G:Ac bx d with
   |some _=>rw[G]at I;simp at I
   |none=>
    rw[G]at I;simp at I;obtain⟨rfl,rfl⟩:=I;have N:∀bb,Ac bb d=none->Az (C:=C) (some d) (.new ty cs) bb aC=some (.c (.ptr d 0),ins bb d ⟨ty,cs⟩):=by
     intro bb hb;simp only[Az,hb]
    cases pj<;>simp only[Az]at D<;>try (simp at D;done)
    case val v=>simp at D;obtain⟨rfl,rfl⟩:=D;exact⟨bx,rfl,N bx G⟩
    case newView e ks l=>simp at D;obtain⟨rfl,rfl⟩:=D;exact⟨bx,rfl,N bx G⟩
    case rload g sz id idx sub=>
     obtain⟨rfl,X⟩:=Pv (C:=C) (d:=V) (by simpa only[Az]using D);exact⟨bx,X _ _,N bx G⟩
    case callD f args=>
     obtain⟨S,rfl,Y,_,X⟩:=Vs (C:=C) (d:=V) (f:=f) (args:=args) (aC:=aC) (by simpa only[Az]using D);have T:d∉Bd (cat AC.keys (cat TV.cellsOf args)) []:=λe=>by
      obtain⟨b,hb⟩:=Z2l a8 e;rw[G]at hb;cases hb
     have L:∀p∈S,d≠nth 0 (Bd (cat AC.keys (cat TV.cellsOf args)) []) (p.1-base):=λp hp e=>T (by rw[e];exact Y p hp);refine⟨_,X V bx λk a1=>(Eb _ _ _ _ (by rintro rfl;exact T a1)).symm,?_⟩;rw[N _ (by rw[Nh _ _ _ L];exact G),Qct _ _ _ _ L]
    case call f args=>
     obtain⟨rfl,X⟩:=M_ (d:=V) D;exact⟨bx,X _ _,N bx G⟩
    case load g sz k' o'=>
     obtain⟨b',M⟩:=a8;have T:k'≠d:=by rintro rfl;rw[G]at M;simp at M
     rw[Eb _ _ _ _ T]at D;refine⟨bx,?_,?_⟩
     ·simp only[Az]
      repeat' split at D
      all_goals first|(simp at D;done)|skip
      rename_i q1 _ _ q2;simp at D;obtain⟨rfl,_⟩:=D;simp only[q1,q2]
     ·have:J=ins bx d ⟨ty,cs⟩:=by
       repeat' split at D
       all_goals first|(simp at D;done)|(simp at D;exact D.2.symm)
      subst this;exact N bx G
    case store k' o' O=>
     obtain⟨⟨b',M⟩,_⟩:=a8;have T:k'≠d:=by rintro rfl;rw[G]at M;simp at M
     rw[Eb _ _ _ _ T,M]at D;dsimp only at D;split at D
     ·rename_i a0;simp at D;obtain⟨rfl,rfl⟩:=D;refine⟨upd bx k' ⟨b'.ty,splice b'.cells o' O⟩,by simp only[Az,M,a0,dv],?_⟩;rw[N _ (by rw[DG _ _ _ _ (λe=>T e.symm)];exact G),Tw _ _ _ _ _ (λe=>T e.symm)]
     ·simp at D
    case new b4 O=>
     cases b2:V with
     |none=>rw[b2]at D;simp at D
     |some e=>
      rw[b2]at D;dsimp only at D;have b3:d≠e:=by rintro rfl;exact hd d b1 b2
      rw[Eb _ _ _ _ (λq=>b3 q.symm)]at D;cases h2:Ac bx e with
      |some _=>rw[h2]at D;simp at D
      |none=>
       rw[h2]at D;simp at D;obtain⟨rfl,rfl⟩:=D;refine⟨ins bx e ⟨b4,O⟩,by simp only[Az,h2],?_⟩;rw[N _ (by rw[Eb _ _ _ _ b3];exact G),Qbf _ _ _ _ _ b3]
end
open Go.RowKit
structure WFst (s : St) : Prop where
 t:∀v∈s.tmps,TV.wf s.aB s.aC v
 b:∀(k:Nat) (b:Box),Ac s.aB k=some b->∀a∈b.cells,AC.wf s.aB s.aC a
section
variable {P:Program} {C:Cfg} {w:World} {R:Type} {Z:Base}
theorem Z72 {d:Option Tmp} {f:FuncId} {args:List TV} {bx D:List (Nat×Box)} {aC:List (Nat×Row)} {v:TV} (h:Az (C:=C) d (.call f args) bx aC=some (v,D)):TV.wf D aC v:=by
 simp only[Az]at h;split at h
 ·split at h
  ·split at h
   ·split at h
    ·rename_i E;simp at h;obtain⟨rfl,_⟩:=h;simp only[ak]at E;exact K1 E.2
    ·simp at h
   ·simp at h
  ·simp at h
 ·simp at h
theorem Q61 {bx:List (Nat×Box)} {aC:List (Nat×Row)}:∀(ks:List Kd) (cs:List AC) (j:Nat),∀c∈Fh ks cs j,AC.wf bx aC c
 |[],_,_,c,D=>by simp[Fh]at D
 |k::ks,cs,j,c,D=>by
  simp only[Fh,ao]at D;rcases D with rfl|D
  ·cases k<;>try exact trivial
   generalize nth AC.vD cs j=b;cases b<;>exact trivial
  ·exact Q61 ks cs _ c D
theorem Q48 {α:Type}:∀(l:List (Nat×α)) (k:Nat) (x:α),Ac l k=none->Ac (upd l k x) k=none
 |[],_,_,_=>rfl
 |(j,c)::l,k,x,h=>by
  simp only[Ac]at h;cases hb:Nat.beq j k<;>rw[hb]at h
  ·simp only[upd,hb,aq,Ac];exact Q48 l k x h
  ·simp at h
theorem Qwe {keys:List Nat}:∀(m:List (Nat×Box)) (l:List (Nat×Box)) {n:Nat} {b:Box},Ac (C2 keys m l) n=some b->Ac l n=some b\/∃p∈m,p.2=b
 |[],_,_,_,h=> .inl h
 |(j,c)::m,l,n,b,h=>by
  simp only[C2]at h;rcases Qwe m _ h with h|⟨p,E,e⟩
  ·by_cases e:n=nth 0 keys (j-base)
   ·subst e;cases D:Ac l (nth 0 keys (j-base))with
    |none=>rw[Q48 _ _ _ D]at h;cases h
    |some y=>
     rw[Fm _ _ _ _ D]at h;simp at h;subst h;exact .inr ⟨(j,c),by simp,rfl⟩
   ·rw[DG _ _ _ _ e]at h;exact .inl h
  ·exact .inr ⟨p,by simp[E],e⟩
theorem Qw1 {d:Option Tmp} {f:FuncId} {args:List TV} {bx G:List (Nat×Box)} {aC:List (Nat×Row)} {v:TV} (h:Az (C:=C) d (.callD f args) bx aC=some (v,G)):
  ∃D,G=C2 (Bd (cat AC.keys (cat TV.cellsOf args)) []) D bx/\True/\v.plainB=true/\∀p∈D,Al AC.calm p.2.cells=true:=by
 simp only[Az]at h;generalize Bd (cat AC.keys (cat TV.cellsOf args)) []=keys at h⊢
 repeat' split at h
 all_goals first|(simp at h;done)|skip
 rename_i I D _ E;simp only[av,dc]at h;obtain⟨rfl,rfl⟩:=h;simp only[ak]at E;exact⟨D,rfl,trivial,E.2,AD.1 E.1.2⟩
theorem Z9x {ops:List Oper} {o:Oper} {tm:List TV} {bx O:List (Nat×Box)} {aC:List (Nat×Row)} {p:Option Prim} {v:TV} (L:WFst ⟨tm,bx,aC⟩) (h:DF P C ops o tm bx aC=some (p,v,O)):
  WFst ⟨tm,O,aC⟩/\TV.wf O aC v/\∀q,p=some q->Prim.wf bx aC q:=by
 unfold DF at h;split at h
 ·cases N:opK P C (Bb tm) o.dst o.op some with
  |none=>rw[N]at h;simp at h
  |some q=>
   rw[N]at h;simp only[ah]at h;have T:=Z8 (pre:=false) (Qde (aB:=bx) (aC:=aC) (λx=>Qbv L.t x) N);clear N;generalize q.dr false=q at h T⊢;cases D:Az (C:=C) o.dst q bx aC with
   |none=>rw[D]at h;simp at h
   |some z=>
    rw[D]at h;simp at h;obtain⟨rfl,rfl,rfl⟩:=h;have M:∀{S:List (Nat×Box)},(∀a,AC.wf bx aC a->AC.wf S aC a)->(∀(k:Nat) (b:Box),Ac S k=some b->∀a∈b.cells,AC.wf bx aC a)->WFst ⟨tm,S,aC⟩:=
     λG hb=>⟨λv U=>TV.wf_mono G (L.t v U),λk b E a D=>G a (hb k b E a D)⟩
    refine⟨?_,?_,λq' e=>by simp at e;subst e;exact T⟩;all_goals
     cases q<;>simp only[Az]at D<;>try (simp at D;done)
    ·simp at D;subst D;exact L
    ·repeat' split at D
     all_goals first|(simp at D;done)|(simp at D;subst D;exact L)
    ·rename_i key off cs;split at D
     ·rename_i b hb;split at D
      ·simp at D;subst D;refine M (λa => AC.wf_mono (λk bo J => by
        by_cases I:k=key
        ·subst I;exact⟨_,Fm _ _ _ _ hb⟩
        ·exact⟨bo,by rw[DG _ _ _ _ I];exact J⟩) (λk r E=>⟨r,E,rfl,rfl⟩)) ?_
       intro k bo E a G;by_cases I:k=key
       ·subst I;rw[Fm _ _ _ _ hb]at E;simp at E;subst E;rcases VC _ _ _ G with G|G
        ·exact L.b k b hb a G
        ·exact T.2 a G
       ·rw[DG _ _ _ _ I]at E;exact L.b k bo E a G
      ·simp at D
     ·simp at D
    ·rename_i ty cs;split at D
     ·rename_i d hd;split at D
      ·simp at D
      ·rename_i X;simp at D;subst D;refine M (λa=>AC.wf_mono (λk bo J=>⟨bo,by rw[Eb _ _ _ _ (by rintro rfl;rw[X]at J;simp at J)];exact J⟩) (λk r E=>⟨r,E,rfl,rfl⟩)) ?_;intro k bo E a G;by_cases I:k=d
       ·subst I;rw[Fy _ _ _ X]at E;simp at E;subst E;exact T a G
       ·rw[Eb _ _ _ _ I]at E;exact L.b k bo E a G
     ·simp at D
    ·rename_i g sz id idx sub;obtain⟨z1,z2⟩:=z;obtain⟨rfl,_⟩:=Pv (C:=C) (d:=o.dst) (by simpa only[Az]using D);exact L
    ·simp at D;subst D;exact L
    ·obtain⟨rfl,_⟩:=M_ (d:=o.dst) D;exact L
    ·rename_i f args;obtain⟨z1,z2⟩:=z;obtain⟨Y,rfl,a1,_,V⟩:=Qw1 (C:=C) (d:=o.dst) (f:=f) (args:=args) (aC:=aC) (by simpa only[Az]using D);refine M (λa=>AC.wf_mono (λk bo J=>RZ _ _ J) (λk r E=>⟨r,E,rfl,rfl⟩)) ?_;intro k bo E a G;rcases Qwe _ _ E with E|⟨p,N,rfl⟩
     ·exact L.b k bo E a G
     ·exact Q0q (V p N) a G
    ·simp at D;subst D;exact T
    ·split at D
     ·rename_i b hb;split at D
      ·rename_i v U;simp at D;subst D;exact RW U (L.b _ b hb)
      ·simp at D
     ·simp at D
    ·repeat' split at D
     all_goals first|(simp at D;done)|(simp at D;subst D;trivial)
    ·rename_i ty cs;split at D
     ·rename_i d hd;split at D
      ·simp at D
      ·rename_i X;simp at D;subst D;exact C9 ⟨_,Fy _ _ _ X⟩
     ·simp at D
    ·split at D
     ·rename_i r hr;split at D
      ·rename_i v U;simp at D;subst D;exact RW U λa G=>Q61 r.ks _ 0 a G
      ·simp at D
     ·simp at D
    ·simp at D;subst D;exact C9 trivial
    ·rename_i f args;exact Z72 (d:=o.dst) D
    ·rename_i f args;obtain⟨z1,z2⟩:=z;obtain⟨Y,_,_,a0,_⟩:=Qw1 (C:=C) (d:=o.dst) (f:=f) (args:=args) (aC:=aC) (by simpa only[Az]using D);exact K1 a0
 ·simp at h;obtain⟨rfl,rfl,rfl⟩:=h;exact⟨L,λp N=>by simp at N,λq e=>by simp at e⟩
 ·simp at h
theorem Qbl {tm:List TV} {bx:List (Nat×Box)} {aC:List (Nat×Row)} {d:Option Tmp} {v:TV} (E:WFst ⟨tm,bx,aC⟩) (G:TV.wf bx aC v):WFst ⟨Di tm d v,bx,aC⟩:=by
 cases d with
 |none=>exact E
 |some t=>
  refine⟨λu D=> ?_,E.b⟩;simp only[Di,Jj]at D;rcases d6 D with D|rfl
  ·exact E.t u D
  ·exact G
theorem Zoy {id:Nat} {bx:List (Nat×Box)} {k:Nat} {b:Box} (h:Ac (bx.map λp=>(p.1,p.2.kill id)) k=some b):∃b',Ac bx k=some b'/\b=b'.kill id:=by
 have:=GU (Box.kill id) bx k;rw[this]at h;simp only[bv]at h;obtain⟨b',D,rfl⟩:=h;exact⟨b',D,rfl⟩
theorem Xn {bx:List (Nat×Box)} {aC D:List (Nat×Row)} {id:Nat} (M:∀j,j≠id->Ac D j=Ac aC j) {a:AC} (h:AC.wf bx aC a):AC.wf (bx.map λp=>(p.1,p.2.kill id)) D (a.kill id):=by
 have hb:∀k b,Ac bx k=some b->∃b',Ac (bx.map λp=>(p.1,p.2.kill id)) k=some b':=λk b O=>⟨b.kill id,by have:=GU (Box.kill id) bx k;rw[this,O];rfl⟩;have N:∀c,AC.wfP bx c->AC.wfP (bx.map λp=>(p.1,p.2.kill id)) c:=by
  intro c G;cases c<;>try exact trivial
  obtain⟨b,E⟩:=G;exact hb _ _ E
 cases a<;>try exact trivial
 case ptr k o=>
  obtain⟨b,E⟩:=h;exact hb _ _ E
 case bsl k o=>
  obtain⟨b,E⟩:=h;exact hb _ _ E
 case own j w n=>
  simp only[AC.kill];cases I:Nat.beq j id
  ·obtain⟨r,J,L⟩:=h;exact⟨r,by rw[M j (Hw I)];exact J,L⟩
  ·exact trivial
 case rptr j a b=>
  simp only[AC.kill];cases I:Nat.beq j id
  ·obtain⟨r,J,L⟩:=h;exact⟨r,by rw[M j (Hw I)];exact J,L⟩
  ·exact trivial
 case vptr cs sub=>exact h
 case clo f fs cs=>exact⟨λc G=>N c (h.1 c G),λc G=>N c (h.2 c G)⟩
theorem Z5g {dst:Option Tmp} {aC D:List (Nat×Row)} {p:Prim} {id:Nat} {v:TV} (G:KZ dst p=some id) (E:Lr dst aC p=some (v,D)):(∀j,j≠id->Ac D j=Ac aC j)/\TV.wf [] D v:=by
 cases p<;>simp[KZ]at G
 rename_i e ks bytes J x;cases J<;>simp at G
 case nilSl=>
  subst G;simp only[Lr,Qnc]at E
  repeat' split at E
  all_goals first|(simp at E;done)|skip
  rename_i L _ _;simp only[av,dc]at E;obtain⟨rfl,rfl⟩:=E;refine⟨λj I=>Eb _ _ _ _ I,C9 ?_⟩;exact⟨_,Fy _ _ _ L,rfl,rfl⟩
 rename_i id' w n;subst G;simp only[Lr,Qe9]at E
 repeat' split at E
 all_goals first|(simp at E;done)|skip
 rename_i r M _ _;simp only[av,dc]at E;obtain⟨rfl,rfl⟩:=E;refine⟨λj I=>DG _ _ _ _ I,C9 ?_⟩;exact⟨_,Fm _ _ _ _ M,rfl,rfl⟩
theorem Q26 {aC rows':List (Nat×Row)}:∀{args:List TV},Al TV.plainB args=true->Hk aC args=Hk rows' args
 |[],_=>rfl
 |a::l,h=>by
  simp only[Al]at h;have E:a.plainB=true/\Al TV.plainB l=true:=by cases I:a.plainB<;>rw[I]at h<;>simp at h;exact⟨rfl,h⟩
  have e:a.res aC=a.res rows':=by
   cases a with
   |vD=>rfl
   |tup ps=>rfl
   |v g cs=>
    simp only[TV.res];have:F5 aC cs=F5 rows' cs:=by
     have D:=E.1;simp only[TV.plainB]at D;clear h E;induction cs with
     |nil=>rfl
     |cons c cs J=>
      simp only[Al]at D;have G:c.plain=true/\Al AC.plain cs=true:=by cases L:c.plain<;>rw[L]at D<;>simp at D;exact⟨rfl,D⟩
      simp only[F5];rw[J G.2];have:c.res aC=c.res rows':=by
       have:=G.1;cases c<;>simp[AC.plain]at this<;>rfl
      rw[this]
    rw[this]
  simp only[Hk];rw[e,Q26 E.2]
theorem Z4h {dst:Option Tmp} {aC E:List (Nat×Row)} {p:Prim} {v:TV} (h:mkD (C:=C) dst p aC=some (v,E)):(∀j r,Ac aC j=some r->Ac E j=some r)/\TV.wf [] E v:=by
 unfold mkD at h;cases D:mkG (C:=C) dst p with
 |none=>rw[D]at h;simp at h
 |some q=>
  obtain⟨M,o⟩:=q;rw[D]at h;cases o with
  |none=>
   simp only[av,dc]at h;obtain⟨rfl,rfl⟩:=h;refine⟨λ_ _ h=>h,?_⟩;unfold mkG at D;split at D
   ·split at D<;>simp at D
   ·split at D
    ·split at D
     ·split at D
      ·split at D
       ·rename_i J;simp only[av,dc]at D;rw[<-D.1];exact K1 J
       ·simp at D
      ·split at D<;>simp at D
      ·simp at D
     ·simp at D
    ·simp at D
   ·simp at D
  |some L=>
   obtain⟨k,r⟩:=L;dsimp only at h;split at h
   ·simp at h
   ·rename_i G;simp only[av,dc]at h;obtain⟨rfl,rfl⟩:=h;refine⟨λj r' I=>by rw[Eb _ _ _ _ (by rintro rfl;rw[G]at I;cases I)];exact I,?_⟩;unfold mkG at D;split at D
    ·split at D
     ·simp only[av,dc]at D;obtain⟨rfl,rfl,rfl⟩:=D;exact C9 ⟨_,Fy _ _ _ G,rfl,rfl⟩
     ·simp at D
    ·split at D
     ·split at D
      ·split at D
       ·split at D<;>simp at D
       ·split at D
        ·simp only[av,dc]at D;obtain⟨rfl,rfl,rfl⟩:=D;exact C9 ⟨_,Fy _ _ _ G,rfl,rfl⟩
        ·simp at D
       ·simp at D
      ·simp at D
     ·simp at D
    ·simp at D
theorem Z8n {ops:List Oper} {o:Oper} {s U:St} {p:Option Prim} (L:WFst s) (h:CD (P:=P) (C:=C) ops o s=some (p,U)):WFst U:=by
 obtain⟨tm,bx,aC⟩:=s;cases V:Prim.isApp p
 ·cases M:Prim.isMk p
  case true=>
   obtain⟨_,q,v,D,_,rfl,O,rfl⟩:=UM h M;obtain⟨N,S⟩:=Z4h O;have E:∀a,AC.wf bx aC a->AC.wf bx D a:=λa=>AC.wf_mono (λk b G=>⟨b,G⟩) (λk r G=>⟨r,N k r G,rfl,rfl⟩);exact Qbl ⟨λu J=>TV.wf_mono E (L.t u J),λk b G a Y=>E a (L.b k b G a Y)⟩ (TV.wf_mono (λa E=>AC.wf_mono (aB:=[]) (aC:=D) (λk b G=>by simp[Ac]at G) (λk r G=>⟨r,G,rfl,rfl⟩) E) S)
  obtain⟨v,a0,I,rfl⟩:=NL h V M;obtain⟨h1,h2,_⟩:=Z9x L I;exact Qbl h1 h2
 ·obtain⟨_,q,id,v,D,_,rfl,h3,O,rfl⟩:=Qjj h V;obtain⟨N,S⟩:=Z5g h3 O;refine Qbl ⟨λu J=> ?_,λk b G a E=> ?_⟩ (TV.wf_mono (λa E=>AC.wf_mono (aB:=[]) (aC:=D) (λk b G=>by simp[Ac]at G) (λk r G=>⟨r,G,rfl,rfl⟩) E) S)
  ·simp only[bc]at J;obtain⟨u,J,rfl⟩:=J;have:=L.t u J;cases u with
   |vD=>trivial
   |v g cs=>
    intro a E;simp only[bc]at E;obtain⟨c,I,rfl⟩:=E;exact Xn N (this c I)
   |tup ps=>
    intro p X a E;simp only[bc]at X;obtain⟨q,hq,rfl⟩:=X;simp only[bc]at E;obtain⟨c,I,rfl⟩:=E;exact Xn N (this q hq c I)
  ·obtain⟨b',T,rfl⟩:=Zoy G;simp only[Box.kill,bc]at E;obtain⟨c,I,rfl⟩:=E;exact Xn N (L.b k b' T c I)
theorem Zdn {o:Op} {p:Option Prim} (h:Prim.still o p=true):Prim.isMk p=false:=by
 cases p with
 |none=>rfl
 |some q=>cases q<;>first|rfl|(cases o<;>simp[Prim.still,Prim.isLive,Prim.isPtr]at h)
theorem Yad {d:Option Tmp} {p:Prim} {bx E:List (Nat×Box)} {aC:List (Nat×Row)} {v:TV} (G:Prim.mkStill (some p)=true) (h:Az (C:=C) d p bx aC=some (v,E)):
  E=bx/\∀D,Az (C:=C) d p bx D=some (v,bx):=by
 cases p<;>simp[Prim.mkStill]at G
 case val u=>simp only[Az,av,dc]at h⊢;obtain⟨rfl,rfl⟩:=h;exact⟨rfl,λ_=>by simp⟩
 case newView e ks l=>simp only[Az,av,dc]at h⊢;obtain⟨rfl,rfl⟩:=h;exact⟨rfl,λ_=>by simp⟩
 case load g sz key off=>
  simp only[Az]at h⊢
  repeat' split at h
  all_goals first|(simp at h;done)|skip
  simp at h;obtain⟨rfl,rfl⟩:=h;exact⟨rfl,λ_=>rfl⟩
 case call f args=>
  obtain⟨rfl,_⟩:=M_ h;refine⟨rfl,λD=> ?_⟩;simp only[Az]at h⊢;rw[Q26 (aC:=D) (rows':=aC) G];exact h
 case newRow e ks l=>simp[Az]at h
 case callF f args=>simp[Az]at h
theorem Q8q {ops:List Oper} {o:Oper} {tm:List TV} {bx E:List (Nat×Box)} {aC:List (Nat×Row)} {p:Option Prim} {v:TV} (J:Prim.mkStill p=true) (h:DF P C ops o tm bx aC=some (p,v,E)):
  E=bx/\∀D,DF P C ops o tm bx D=some (p,v,bx):=by
 unfold DF at h⊢;split at h
 ·cases I:opK P C (Bb tm) o.dst o.op some with
  |none=>rw[I]at h;simp at h
  |some q=>
   rw[I]at h;simp only[ah]at h⊢;cases G:Az (C:=C) o.dst (q.dr false) bx aC with
   |none=>rw[G]at h;simp at h
   |some z=>
    rw[G]at h;simp at h;obtain⟨rfl,rfl,rfl⟩:=h;obtain⟨e1,e2⟩:=Yad J G;refine⟨e1,λD=> ?_⟩;rw[e2 D];rfl
 ·simp at h;obtain⟨rfl,rfl,rfl⟩:=h;exact⟨rfl,λ_=>rfl⟩
 ·simp at h
theorem Z06 {S T:Option Tmp} {U V:Prim} {aC G D:List (Nat×Row)} {Y vj:TV} (J:mkD (C:=C) S U aC=some (Y,G)) (I:mkD (C:=C) T V G=some (vj,D)):
  ∃E,mkD (C:=C) T V aC=some (vj,E)/\mkD (C:=C) S U E=some (Y,D):=by
 unfold mkD at*;cases N:mkG (C:=C) S U with
 |none=>rw[N]at J;simp at J
 |some qi=>
  obtain⟨v1,o1⟩:=qi;rw[N]at J;cases O:mkG (C:=C) T V with
  |none=>rw[O]at I;simp at I
  |some qj=>
   obtain⟨v2,o2⟩:=qj;rw[O]at I;cases o1 with
   |none=>
    simp only[av,dc]at J;obtain⟨rfl,rfl⟩:=J;exact⟨D,I,rfl⟩
   |some k1=>
    obtain⟨k,r⟩:=k1;dsimp only at J;split at J
    ·simp at J
    rename_i X;simp only[av,dc]at J;obtain⟨rfl,rfl⟩:=J;cases o2 with
    |none=>
     simp only[av,dc]at I;obtain⟨rfl,rfl⟩:=I;refine⟨aC,rfl,?_⟩;dsimp only;rw[X]
    |some k2=>
     obtain⟨k',r'⟩:=k2;dsimp only at I;split at I
     ·simp at I
     rename_i L;simp only[av,dc]at I;obtain⟨rfl,rfl⟩:=I;have M:k'≠k:=by
      rintro rfl;rw[Fy _ _ _ X]at L;cases L
     rw[Eb _ _ _ _ M]at L;refine⟨ins aC k' r',by dsimp only;rw[L],?_⟩;dsimp only;rw[Eb _ _ _ _ (λe=>M e.symm),X];dsimp only;rw[Qbf _ _ _ _ _ M]
theorem Z31 (a9:Aj P C) {ops:Array Oper} {x y:Oper} {s s1 s2:St} {px py:Option Prim} (hw:WFst s) (hy:CD (P:=P) (C:=C) ops.toList y s=some (py,s1)) (hx:CD (P:=P) (C:=C) ops.toList x s1=some (px,s2))
  (b7:Oper.apart ops y x=true) (hm:Prim.meet C.ro py px=false) (G:Jb y py x px=true):∃b1,CD (P:=P) (C:=C) ops.toList x s=some (px,b1)/\CD (P:=P) (C:=C) ops.toList y b1=some (py,s2):=by
 obtain⟨a1,a2,a3⟩:=Oper.apart_spec b7;obtain⟨tm,bx,aC⟩:=s;have J:∀(o:Oper) (tm:List TV),o.guard.isNone=true->Cg ops.toList o tm=some true:=by
  intro o tm h;unfold Cg;rw[Option.isNone_iff_eq_none.1 h]
 have L:∀(o:Oper) (tm:List TV) (d:Option Tmp) (v:TV),(∀t,d=some t->t∉o.looksAt ops)->opK P C (Bb (Di tm d v)) o.dst o.op some=opK P C (Bb tm) o.dst o.op some:=by
  intro o tm d v h;cases d with
  |none=>rfl
  |some t=>
   exact S3 (λx hx => Qyg (by
    rintro rfl;exact h t rfl (List.mem_append_left _ (List.mem_filterMap.2 ⟨.tmp t,by simpa using hx,rfl⟩)))) some
 cases U:Prim.isApp py
 case true=>
  unfold Jb at G;rw[U]at G;simp only[ai,ak]at G;obtain⟨⟨⟨o1,o2⟩,o3⟩,o4⟩:=G;have V:Prim.isApp px=false:=by simpa using o1
  obtain⟨_,q,id,vy,a4,hq,rfl,h3,h4,rfl⟩:=Qjj hy U;obtain⟨vx,a7,D,rfl⟩:=NL hx V (Zdn o4);unfold DF at D;rw[J x _ o3]at D;dsimp only at D;rw[L x _ _ _ (λt I=>a1 t I)]at D;cases X:opK P C (Bb (tm.map (TV.kill id))) x.dst x.op some with
  |none=>rw[X]at D;simp at D
  |some qx=>
   rw[X]at D;simp only[ah]at D;cases N:Az (C:=C) x.dst (qx.dr false) (bx.map λp=>(p.1,p.2.kill id)) a4 with
   |none=>rw[N]at D;simp at D
   |some zx=>
    rw[N]at D;simp at D;obtain⟨rfl,rfl,rfl⟩:=D;obtain⟨g,cs,rfl,hl⟩:=Q7h o4;simp only[Prim.dr,Az,av]at N;subst N;have b2:=(Qx2 (P:=P) (C:=C) (id:=id) (tm:=tm) (dst:=x.dst) o4).1 X;refine⟨⟨Di tm x.dst (.v g cs),bx,aC⟩,Pu (by unfold DF;rw[J x _ o3];dsimp only;rw[b2];rfl),?_⟩;rw[Q35 (J y _ o2) (by rw[L y _ _ _ (λt I=>a3 t I)];exact hq) h3 h4 U,Q0a hl];dsimp only;rw[Pg vy _ a2]
 case false=>
 cases V:Prim.isApp px
 case true=>
  unfold Jb at G;rw[U,V]at G;simp only[ai,aq,ak]at G;obtain⟨⟨o2,o3⟩,o4⟩:=G;obtain⟨vy,b3,E,rfl⟩:=NL hy U (Zdn o4);obtain⟨_,q,id,vx,a4,hq,rfl,h3,h4,rfl⟩:=Qjj hx V;rw[L x _ _ _ (λt I=>a1 t I)]at hq;unfold DF at E;rw[J y _ o2]at E;dsimp only at E;cases a0:opK P C (Bb tm) y.dst y.op some with
  |none=>rw[a0]at E;simp at E
  |some qy=>
   rw[a0]at E;simp only[ah]at E;cases O:Az (C:=C) y.dst (qy.dr false) bx aC with
   |none=>rw[O]at E;simp at E
   |some zy=>
    rw[O]at E;simp at E;obtain⟨rfl,rfl,rfl⟩:=E;obtain⟨g,cs,rfl,hl⟩:=Q7h o4;simp only[Prim.dr,Az,av]at O;subst O;have b4:=(Qx2 (P:=P) (C:=C) (id:=id) (tm:=tm) (dst:=y.dst) o4).2 a0;refine⟨_,Q35 (J x _ o3) hq h3 h4 V,?_⟩;rw[Pu (p:=some (.val (.v g cs))) (v:= .v g cs) (by unfold DF;rw[J y _ o2];dsimp only;rw[L y _ _ _ (λt I=>a3 t I),b4];rfl)];dsimp only[Prim.dr];rw[Q0a hl,Pg vx _ (λt I e=>a2 t e I)]
 case false=>
   unfold Jb at G;rw[U,V]at G;simp only[aq]at G;cases S:Prim.isMk py
   case true=>
    rw[S]at G;simp only[ai]at G;obtain⟨a8,qy,vy,b8,b5,rfl,O,rfl⟩:=UM hy S;cases M:Prim.isMk px
    case true=>
     obtain⟨Y,qx,vx,a5,a6,rfl,N,rfl⟩:=UM hx M;rw[Rb (λt I=>a1 t I)]at Y;rw[L x _ _ _ (λt I=>a1 t I)]at a6;obtain⟨b6,m1,m2⟩:=Z06 O N;refine⟨_,Uq Y a6 m1 M,?_⟩;rw[Uq (by rw[Rb (λt I=>a3 t I)];exact a8) (by rw[L y _ _ _ (λt I=>a3 t I)];exact b5) m2 S,Pg vy vx a2]
    case false=>
     obtain⟨vx,a7,D,rfl⟩:=NL hx V M;rw[Uu (λt I=>a1 t I)]at D;obtain⟨rfl,b0⟩:=Q8q G D;refine⟨_,Pu (b0 aC),?_⟩;rw[Uq (by rw[Rb (λt I=>a3 t I)];exact a8) (by rw[L y _ _ _ (λt I=>a3 t I)];exact b5) O S,Pg vy vx a2]
   case false=>
   rw[S]at G;simp only[aq]at G;cases M:Prim.isMk px
   case true=>
    rw[M]at G;simp only[ai]at G;obtain⟨vy,b3,E,rfl⟩:=NL hy U S;obtain⟨rfl,b0⟩:=Q8q G E;obtain⟨Y,qx,vx,a5,a6,rfl,N,rfl⟩:=UM hx M;rw[Rb (λt I=>a1 t I)]at Y;rw[L x _ _ _ (λt I=>a1 t I)]at a6;refine⟨_,Uq Y a6 N M,?_⟩;rw[Pu (by rw[Uu (λt I=>a3 t I)];exact b0 a5),Pg vy vx a2]
   case false=>
   obtain⟨vy,b3,E,rfl⟩:=NL hy U S;obtain⟨vx,a7,D,rfl⟩:=NL hx V M;rw[Uu (λt I=>a1 t I)]at D;have key:∃T,DF P C ops.toList x tm bx aC=some (px,vx,T)/\DF P C ops.toList y tm T aC=some (py,vy,a7):=by
    unfold DF at E D⊢;split at E
    ·rename_i a8;cases a0:opK P C (Bb tm) y.dst y.op some with
     |none=>rw[a0]at E;simp at E
     |some qy=>
      rw[a0]at E;simp only[ah]at E;cases O:Az (C:=C) y.dst (qy.dr false) bx aC with
      |none=>rw[O]at E;simp at E
      |some zy=>
       rw[O]at E;simp at E;obtain⟨rfl,rfl,rfl⟩:=E;split at D
       ·rename_i Y;cases X:opK P C (Bb tm) x.dst x.op some with
        |none=>rw[X]at D;simp at D
        |some qx=>
         rw[X]at D;simp only[ah]at D;cases N:Az (C:=C) x.dst (qx.dr false) zy.2 aC with
         |none=>rw[N]at D;simp at D
         |some zx=>
          rw[N]at D;simp at D;obtain⟨rfl,rfl,rfl⟩:=D;obtain⟨T,m1,m2⟩:=Zpw a9 O N hm a2 (Z8 (Qde (λx=>Qbv hw.t x) X));exact⟨T,by simp[m1],by simp[m2]⟩
       ·rename_i Y;simp at D;obtain⟨rfl,rfl,rfl⟩:=D;exact⟨bx,rfl,by simp[O]⟩
       ·simp at D
    ·rename_i a8;simp at E;obtain⟨rfl,rfl,rfl⟩:=E;exact⟨a7,D,rfl⟩
    ·simp at E
   obtain⟨T,k1,k2⟩:=key;refine⟨⟨Di tm x.dst vx,T,aC⟩,Pu k1,?_⟩;rw[Pu (by rw[Uu (λt I=>a3 t I)];exact k2),Pg vy vx a2]
theorem Qu1 (D:Aj P C) {ops:Array Oper} {m:List Nat} {x:Nat×Oper×Option Prim} {post:List (Nat×Oper×Option Prim)} {M:St}:∀(pre:List (Nat×Oper×Option Prim)) (s:St),WFst s->Sn P C ops.toList m (pre++x::post) s M->
  (∀y∈pre,DI ops.toList m x.1=false/\DI ops.toList m y.1=false/\Oper.apart ops y.2.1 x.2.1=true/\Prim.meet C.ro y.2.2 x.2.2=false/\Jb y.2.1 y.2.2 x.2.1 x.2.2=true)->
  ∃s1,I3 P C ops.toList m x.1 x.2.1 s=some (x.2.2,s1)/\Sn P C ops.toList m (pre++post) s1 M
 |[],s,I,h,_=>by
  obtain⟨i,o,p⟩:=x;exact h
 |(j,S,T)::pre,s,I,h,N=>by
  obtain⟨U,E,V⟩:=h;obtain⟨O,G,X,Y,q3⟩:=N (j,S,T) (by simp);have a0:=E;unfold I3 at E;rw[ab (by dsimp only at G;rw[G];simp)]at E;obtain⟨s2,J,h4⟩:=Qu1 D pre U (Z8n I E) V λy L=>N y (by simp[L]);unfold I3 at J;rw[ab (by rw[O];simp)]at J;obtain⟨s1,h5,h6⟩:=Z31 D I E J X Y q3;refine⟨s1,by unfold I3;rw[ab (by rw[O];simp)];exact h5,s2,?_,h4⟩;unfold I3;rw[ab (by dsimp only at G;rw[G];simp)];exact h6
inductive Before (ops : List Oper) : Nat -> Nat -> Prop where
 |one {i:Nat} {o:Oper} {e:Edge} (h:ops[i]? =some o) (he:e∈o.after.toList) (hb:Region.binds .any e=true):Before ops i e.on
 |more {i j:Nat} {o:Oper} {e:Edge} (h:ops[i]? =some o) (he:e∈o.after.toList) (hb:Region.binds .any e=true) (h':Before ops e.on j):Before ops i j
theorem Qls {m:List Nat} {j:Nat}:∀(l:List Edge) (acc:Nat),Nat.testBit (Tl m l acc) j=true->Nat.testBit acc j=true\/∃e∈l,Region.binds .any e=true/\(e.on=j\/Nat.testBit (nth 0 m e.on) j=true)
 |[],acc,h=> .inl h
 |e::l,acc,h=>by
  simp only[Tl]at h;cases hb:Region.binds .any e<;>rw[hb]at h
  ·rcases Qls l _ h with h|⟨D,he,h'⟩
   ·exact .inl h
   ·exact .inr ⟨D,by simp[he],h'⟩
  ·rcases Qls l _ h with h|⟨D,he,h'⟩
   ·simp only[ai]at h;have:Nat.testBit (acc|||(2^e.on|||nth 0 m e.on)) j=true:=h;rw[Nat.testBit_or,Nat.testBit_or]at this;rw[kk,kk]at this;rcases this with h|h|h
    ·exact .inl h
    ·refine .inr ⟨e,by simp,hb, .inl ?_⟩;rw[Nat.testBit_two_pow]at h;simpa using h
    ·exact .inr ⟨e,by simp,hb, .inr h⟩
   ·exact .inr ⟨D,by simp[he],h'⟩
theorem Zr6 {α:Type} (n:Nat) (K:Nat->α):Za6 n K=K n:=by cases n<;>rfl
theorem Qyo {α:Type} (d:α):∀(l D:List α) (i:Nat),i<l.length->nth d (l++D) i=nth d l i
 |x::l,D,0,_=>rfl
 |x::l,D,i+1,h=>Qyo d l D i (by simpa using h)
theorem Qvo {α:Type} (d x:α):∀(l:List α),nth d (l++[x]) l.length=x
 |[]=>rfl
 |y::l=>Qvo d x l
theorem Qm8 {α:Type} (d:α):∀(l:List α) (i:Nat),l.length<=i->nth d l i=d
 |[],_,_=>rfl
 |x::l,0,h=>by simp at h
 |x::l,i+1,h=>Qm8 d l i (by simpa using h)
theorem Q27 {ops:List Oper} {K:List Nat->Option R} {r:R}:∀(l pre:List Oper) (m:List Nat),ops=pre++l->m.length=pre.length->(∀i j,i<m.length->Nat.testBit (nth 0 m i) j=true->Before ops i j)->Ua l m K=some r->
  ∃T,K T=some r/\∀i j,Mz T i j=true->Before ops i j
 |[],pre,m,he,M,L,h=>⟨m,h,λi j D=>by
   by_cases N:i<m.length
   ·exact L i j N D
   ·unfold Mz at D;rw[Qm8 0 m i (by omega)]at D;simp at D⟩
 |o::l,pre,m,he,M,L,h=>by
  simp only[Ua,Zr6,Bo]at h;refine Q27 l (pre++[o]) _ (by simp[he]) (by simp[M]) (λi j N D=> ?_) h;by_cases G:i<m.length
  ·rw[Qyo 0 m _ i G]at D;exact L i j G D
  ·have O:i=m.length:=by simp at N;omega
   subst O;rw[Qvo]at D;have I:ops[m.length]? =some o:=by rw[he,M];simp
   rcases Qls _ _ D with E|⟨e,J,hb,E⟩
   ·simp at E
   ·rcases E with E|E
    ·rw[<-E];exact .one I J hb
    ·by_cases S:e.on<m.length
     ·exact .more I J hb (L _ _ S E)
     ·rw[Qm8 0 m _ (by omega)]at E;simp at E
end
open Go.RowKit
section
variable {P:Program} {C:Cfg} {w:World} {R:Type} {Z:Base}
theorem Z0f (L:Aj P C) {ops:List Oper} {o:Oper} {s M:St} {p:Option Prim} (h:CD (P:=P) (C:=C) ops o s=some (p,M)) (Y:Prim.simple p=true) (K:Option Prim->St->Option R):
  Gh P C false ops o s K=K p M:=by
 have I:∀s1:St,s1=s->Cg ops o s.tmps=some true->(opK P C (Bb s1.tmps) o.dst o.op λp=>Bj C o.dst (p.dr false) s1 λv M=>put M o.dst v (K (some (p.dr false))))=K p M:=by
  rintro s1 rfl J;unfold CD at h;rw[J]at h;dsimp only at h;rw[Ra];cases X:opK P C (Bb s1.tmps) o.dst o.op some with
  |none=>rw[X]at h;simp at h
  |some q=>
   rw[X]at h;simp only[ah]at h;cases U:FC (C:=C) o.dst (q.dr false) s1 with
   |none=>rw[U]at h;simp at h
   |some z=>
    rw[U]at h;simp at h;obtain⟨rfl,rfl⟩:=h;simp only[ah];rw[Q8k L Y,U];simp only[ah,Nk]
 have G:∀s1:St,s1=s->Cg ops o s.tmps=some false->put s1 o.dst (.tup []) (K none)=K p M:=by
  rintro s1 rfl J;unfold CD at h;rw[J]at h;simp at h;obtain⟨rfl,rfl⟩:=h;rw[Nk]
 unfold Gh Qq;cases N:o.guard with
 |none=>exact I s rfl (by simp[Cg,N])
 |some jw=>
  obtain⟨j,want⟩:=jw;dsimp only;cases O:ops[j]? with
  |none=>unfold CD Cg at h;rw[N]at h;dsimp only at h;rw[O]at h;simp at h
  |some oj=>
   dsimp only;cases T:oj.dst with
   |none=>unfold CD Cg at h;rw[N]at h;dsimp only at h;rw[O]at h;dsimp only at h;rw[T]at h;simp at h
   |some t=>
    dsimp only;split
    ·rename_i g E;have J:Cg ops o s.tmps=some (g==want):=by simp only[Cg,N,O,T,E]
     have D:∀b,g=b->(⟨setL s.tmps t (.c (.bool b)),s.aB,s.aC⟩:St)=s:=by
      rintro b rfl;rw[Q8m E (by simp)]
     cases g
     ·simp only[aq];rw[F4];dsimp only;cases want
      ·exact I _ (D false rfl) (by rw[J];rfl)
      ·exact G _ (D false rfl) (by rw[J];rfl)
     ·simp only[ai];rw[F4];dsimp only;cases want
      ·exact G _ (D true rfl) (by rw[J];rfl)
      ·exact I _ (D true rfl) (by rw[J];rfl)
    ·rename_i E;exact G _ rfl (by simp only[Cg,N,O,T,E])
    ·rename_i V S;have J:Cg ops o s.tmps=none:=by
      unfold Cg;rw[N];dsimp only;rw[O];dsimp only;rw[T];dsimp only;split
      ·rename_i g E;exact(V g E).elim
      ·rename_i E;exact(S E).elim
      ·rfl
     unfold CD at h;rw[J]at h;simp at h
theorem Rel.wf {s:St} {tmps:Array Value} (h:Rel Z s tmps w):WFst s:=by
 obtain⟨ρ,h⟩:=h;exact⟨h.wt,h.wb⟩
structure Left (P : Program) (C : Cfg) (ops : Array Oper) (m : List Nat) (listed : Array Bool) (rem : List (Nat × Oper × Option Prim)) : Prop where
 sz:listed.size=ops.size
 op:∀x∈rem,ops[x.1]? =some x.2.1/\(DI ops.toList m x.1||Prim.simple x.2.2)=true/\∀e∈x.2.1.after,Region.binds .any e=true->e.on<x.1
 out:∀i,i<ops.size->(listed.getD i true=false↔∃x∈rem,x.1=i)
 ord:(rem.map (·.1)).Pairwise (· < ·)
 cl:∀j o,ops[j]? =some o->listed.getD j false=true->∀e∈o.after,Region.binds .any e=true->listed.getD e.on false=true
 pr:∀pre x post,rem=pre++x::post->∀y∈pre,Before ops.toList x.1 y.1\/(DI ops.toList m x.1=false/\DI ops.toList m y.1=false/\Oper.apart ops y.2.1 x.2.1=true/\Prim.meet C.ro y.2.2 x.2.2=false/\Jb y.2.1 y.2.2 x.2.1 x.2.2=true)
theorem Q6o (J:Aj P C) (a8:∀t∈C.eqOk,P.stoodInHeld t=false) {ops:Array Oper} {m:List Nat} {Q:Exit->Act->World->Prop} {sf:St} {d0:List Deferred}
  (hq:∀(a:Act) (w:World),Rel Z sf a.tmps w->a.defers=d0->Q .normal a w):
  ∀(fuel:Nat) (listed:Array Bool) (rem:List (Nat×Oper×Option Prim)) (s:St) (a:Act) (w:World),rem.length=fuel->Left P C ops m listed rem->Sn P C ops.toList m rem s sf->WFst s->Rel Z s a.tmps w->a.defers=d0->
  wpAny P .any ops Q fuel listed a w
 |0,listed,rem,s,a,w,hl,I,M,a9,hR,hd=>by
  have hr:rem=[]:=f7 hl;subst hr;have:s=sf:=M;subst this;refine⟨?_,hq a w hR hd⟩;apply List.eq_nil_iff_forall_not_mem.2;intro i hi;obtain⟨h1,o,U,_⟩:=mem_ready.1 hi;obtain⟨x,hx,_⟩:=(I.out i (dt.1 U).1).1 h1;simp at hx
 |fuel+1,listed,rem,s,a,w,hl,I,M,a9,hR,hd=>by
  refine⟨λb0=> ?_,λi hi=> ?_⟩
  ·exfalso;cases rem with
   |nil=>simp at hl
   |cons x rem=>
    obtain⟨h1,_,U⟩:=I.op x (by simp);have V:x.1<ops.size:=(dt.1 h1).1;have:x.1∈Region.ready .any ops listed:=by
     refine mem_ready.2 ⟨(I.out x.1 V).2 ⟨x,by simp,rfl⟩,x.2.1,h1,λe he hb=> ?_⟩;have c9:=U e he hb;cases hle:listed.getD e.on false with
     |true=>rfl
     |false=>
      have a1:e.on<listed.size:=by rw[I.sz];omega
      have:listed.getD e.on true=false:=by
       rw[Array.getD,kz a1]at hle⊢;exact hle
      obtain⟨y,E,d1⟩:=(I.out e.on (by omega)).1 this;have G:=I.ord;simp only[bm,List.pairwise_cons]at G;simp only[ao]at E;rcases E with rfl|E
      ·omega
      ·have:=G.1 y.1 (List.mem_map_of_mem E);omega
    rw[b0]at this;simp at this
  ·obtain⟨h1,o,U,h3⟩:=mem_ready.1 hi;have Y:i<ops.size:=(dt.1 U).1;obtain⟨x,hx,b9⟩:=(I.out i Y).1 h1;subst b9;obtain⟨b1,b2,d2⟩:=I.op x hx;have c0:o=x.2.1:=by rw[U]at b1;simpa using b1
   subst c0;obtain⟨pre,post,D⟩:=List.append_of_mem hx;have b3:∀y∈rem,listed.getD y.1 false=false:=by
    intro y E;have V:y.1<ops.size:=(dt.1 (I.op y E).1).1;have:=(I.out y.1 V).2 ⟨y,E,rfl⟩;have a1:y.1<listed.size:=by rw[I.sz];exact V
    rw[Array.getD,kz a1]at this⊢;exact this
   have a2:∀y∈pre,DI ops.toList m x.1=false/\DI ops.toList m y.1=false/\Oper.apart ops y.2.1 x.2.1=true/\Prim.meet C.ro y.2.2 x.2.2=false/\Jb y.2.1 y.2.2 x.2.1 x.2.2=true:=by
    intro y E;rcases I.pr pre x post D y E with hr|hr
    ·exfalso;have b4:=b3 y (by rw[D];simp[E]);have b5:∀(i j:Nat),Before ops.toList i j->(∀oi,ops[i]? =some oi->∀e∈oi.after,Region.binds .any e=true->listed.getD e.on false=true)->listed.getD j false=true:=by
      intro i j c1;induction c1 with
      |one ho he hb=>intro a3;exact a3 _ (by simpa using ho) _ (by simpa using he) hb
      |more ho he hb _ ih=>
       intro a3;have c2:=a3 _ (by simpa using ho) _ (by simpa using he) hb;exact ih λoe c3 e2 c4 c5=>I.cl _ oe c3 c2 e2 c4 c5
     have:=b5 x.1 y.1 hr λoi a4 e he hb=>by
      rw[U]at a4;simp at a4;subst a4;exact h3 e he hb
     rw[this]at b4;simp at b4
    ·exact hr
   rw[D]at M;obtain⟨s1,O,a5⟩:=Qu1 J pre s a9 M a2;have hex:∃b,Gh P C b ops.toList x.2.1 s (λpo s'=>(some (po,s'):Option (Option Prim×St)))=some (x.2.2,s1):=by
    unfold I3 at O;cases hw:DI ops.toList m x.1
    ·rw[ab (by rw[hw];simp)]at O;rw[hw]at b2;exact⟨false,Z0f J O (by simpa using b2) _⟩
    ·rw[aa hw]at O;exact⟨true,O⟩
   obtain⟨b,hex⟩:=hex;have X := Qxg (Q := Q) (next := wpAny P .any ops Q fuel (listed.setIfInBounds x.1 true)) J a8 hR hex (λpo s' a' w' hK b6 c6 => by
    simp at hK;obtain⟨rfl,rfl⟩:=hK;refine Q6o J a8 hq fuel _ (pre++post) _ a' w' ?_ ?_ a5 b6.wf b6 (c6.trans hd)
    ·rw[D]at hl;simp at hl⊢;omega
    ·have a0:∀y,y∈pre++post->y∈rem:=by
      intro y E;rw[D];simp at E⊢;rcases E with E|E<;>simp[E]
     have c7:∀y∈pre++post,y.1≠x.1:=by
      intro y E;have G:=I.ord;rw[D]at G;simp only[bn,bm,List.pairwise_append,List.pairwise_cons]at G;obtain⟨o1,⟨o2,o3⟩,o4⟩:=G;simp at E;rcases E with E|E
      ·have:=o4 y.1 (List.mem_map_of_mem E) x.1 (by simp);omega
      ·have:=o2 y.1 (List.mem_map_of_mem E);omega
     have hg:∀(j:Nat) (d:Bool),(listed.setIfInBounds x.1 true).getD j d=if j=x.1 then true else listed.getD j d:=by
      intro j d;by_cases S:j=x.1
      ·subst S;have:x.1<listed.size:=by rw[I.sz];exact Y
       simp[Array.getD,this]
      ·rw[ab S];exact getD_set_ne d (λe=>S e.symm)
     refine⟨by simpa using I.sz,λy E=>I.op y (a0 y E),λj S=> ?_,?_,?_,?_⟩
     ·rw[hg];constructor
      ·intro hh;split at hh
       ·simp at hh
       ·rename_i a6;obtain⟨y,E,b7⟩:=(I.out j S).1 hh;refine⟨y,?_,b7⟩;rw[D]at E;simp at E⊢;rcases E with E|rfl|E
        ·exact .inl E
        ·exact absurd b7.symm a6
        ·exact .inr E
      ·rintro⟨y,E,rfl⟩;rw[ab (c7 y E)];exact(I.out y.1 S).2 ⟨y,a0 y E,rfl⟩
     ·have G:=I.ord;rw[D]at G;simp only[bn,bm,List.pairwise_append,List.pairwise_cons]at G⊢;obtain⟨o1,⟨o2,o3⟩,o4⟩:=G;exact⟨o1,o3,λu hu v hv=>o4 u hu v (by simp[hv])⟩
     ·intro j oj S a7 e he hb;rw[hg]at a7⊢;split
      ·rfl
      ·split at a7
       ·rename_i a6;subst a6;rw[U]at S;simp at S;subst S;exact h3 e he hb
       ·exact I.cl j oj S a7 e he hb
     ·intro b8 z T c8 y E
      have:∃N L,rem=N++z::L/\y∈N:=by
       rcases List.append_eq_append_iff.1 c8 with⟨as,e1,e2⟩|⟨bs,e1,e2⟩
       ·
        refine⟨pre++x::as,T,by rw[D,e2];simp,?_⟩;rw[e1]at E;simp at E⊢;rcases E with E|E
        ·exact .inl E
        ·exact .inr (.inr E)
       ·cases bs with
        |nil=>
         simp at e1 e2;refine⟨pre++[x],T,?_,?_⟩
         ·rw[D,<-e2];simp
         ·rw[e1];simp[E]
        |cons b bs=>
         simp at e2;obtain⟨rfl,e2⟩:=e2;exact⟨b8,bs++x::post,by rw[D,e1];simp,E⟩
      obtain⟨N,L,q1,q2⟩:=this;exact I.pr N z L q1 y q2)
   unfold wpOp;rw[U];dsimp only;split
   ·rename_i hw;rw[aa hw]at X;exact .inl X
   ·rename_i hw;rw[ab hw]at X;exact X
end
open Go.RowKit
section
variable {P:Program} {C:Cfg} {w:World} {R:Type} {Z:Base}
theorem Z7m {c a:Bool} (h:(bif c then a else false)=true):c=true/\a=true:=by cases c<;>simp at h;exact⟨rfl,h⟩
theorem Zaa {ops:Array Oper} {m:List Nat}:∀(ps D:List (Nat×Oper×Option Prim)) (i:Nat),ps.map (·.1)=List.range' i ps.length->KA C ops m i D (ps.map (·.2))=true->
  ∀pre x post,ps=pre++x::post->(DI ops.toList m x.1||Prim.simple x.2.2)=true/\(∀e∈x.2.1.after,Region.binds .any e=true->e.on<x.1)/\
   ∀y∈D++pre,Mz m x.1 y.1=true\/(DI ops.toList m x.1=false/\DI ops.toList m y.1=false/\Oper.apart ops y.2.1 x.2.1=true/\Prim.meet C.ro y.2.2 x.2.2=false/\Jb y.2.1 y.2.2 x.2.1 x.2.2=true)
 |[],D,i,_,_,pre,x,post,h=>by simp at h
 |(j,o,p)::ps,D,i,E,G,pre,x,post,h=>by
  simp only[bm,bh,List.range'_succ,ju]at E;obtain⟨rfl,E⟩:=E;simp only[bm,KA]at G;generalize N:((DI ops.toList m j||Prim.simple p)&&o.after.toList.all (λe=> !(Region.binds .any e)||Nat.blt e.on j)&&Al (λy:Nat×Oper×Option Prim=>Mz m j y.1||(!(DI ops.toList m j)&& !(DI ops.toList m y.1)&&(Oper.apart ops y.2.1 o&& !(Prim.meet C.ro y.2.2 p)&&Jb y.2.1 y.2.2 o p))) D)=c at G;cases c
  ·simp at G
  ·simp only[ai]at G;simp only[ak]at N;obtain⟨⟨O,S⟩,T⟩:=N;cases pre with
   |nil=>
    simp at h;obtain⟨rfl,rfl⟩:=h;refine⟨O,λe he hb=> ?_,λy I=> ?_⟩
    ·have:=List.all_eq_true.1 S e (by simpa using he);rw[hb]at this;simpa using this
    ·simp at I;have:=AD.1 T y I;rw[kk]at this;simp only[ak,ig]at this;rcases this with h|⟨⟨U,V⟩,⟨J,L⟩,M⟩
     ·exact .inl h
     ·exact .inr ⟨U,V,J,L,M⟩
   |cons q pre=>
    simp at h;obtain⟨rfl,rfl⟩:=h;obtain⟨J,L,M⟩:=Zaa (pre++x::post) (D++[(j,o,p)]) (j+1) E G pre x post rfl;refine⟨J,L,λy I=>M y ?_⟩;simpa using I
theorem Qul {ops:Array Oper} {m:List Nat}:∀(l:List (Oper×Option Prim)) (D:List (Nat×Oper×Option Prim)) (i:Nat),KA C ops m i D l=true->∀(j:Nat) (q:Oper×Option Prim),l[j]? =some q->(DI ops.toList m (i+j)||Prim.simple q.2)=true
 |[],_,_,_,j,q,E=>by simp at E
 |(o,p)::l,D,i,h,j,q,E=>by
  simp only[KA]at h;obtain⟨G,h⟩:=Z7m h;simp only[ak]at G;cases j with
  |zero=>simp at E;subst E;exact G.1.1
  |succ j=>
   rw[show i+(j+1)=i+1+j from by omega];exact Qul l _ _ h j q (by simpa using E)
theorem Rel.drew {s:St} {tmps:Array Value} (h:Rel Z s tmps w):Rel Z s tmps {w with drawn:=w.drawn+1}:=by
 obtain⟨ρ,h⟩:=h;have D:∀(a:AC) (x:Value),CC ρ w a x->CC ρ {w with drawn:=w.drawn+1} a x:=λa x E=>CC.mono (w:=w) (w':={w with drawn:=w.drawn+1}) (λ_ h=>h) (λ_ _=>rfl) a x (AC.agree_refl rfl rfl rfl a) E;refine⟨ρ,h.tl,λi v L=>TVR.mono D v _ (h.tv i v L),h.wt,h.wb,?_,h.bi,?_,h.ri,h.br,h.ib,h.fr.drew,h.fs,h.i0,h.i1,h.k0⟩
 ·intro k b M;obtain⟨arr,G,I,J⟩:=h.bx k b M;exact⟨arr,G,I.mono λa _ x E=>D a x E,J⟩
 ·intro id r N;obtain⟨G,I,O,xs,J,S⟩:=h.ro id r N;exact⟨G,I,O,xs,NN J (λ_ _=>rfl),RowC.mono (w:=w) (λ_ h=>h) (λ_ _=>rfl) S⟩
theorem Zlt (D:Aj P C) (M:∀t∈C.eqOk,P.stoodInHeld t=false) (N:P.follows .mixedOrders=true) {id:Nat} {ops:Array Oper} {draw:Bool} {s:St} {a:Act} (Y:Rel Z s a.tmps w) {K:St->Option R} {r:R}
  (h:Qap P C ops draw s K=some r) {Q:Exit->Act->World->Prop} (hq:∀(s':St) (O:Act) (w':World),K s'=some r->Rel Z s' O.tmps w'->O.defers=a.defers->Q .normal O w'):
  (Code.region id ops draw).wp P Q a w:=by
 cases draw
 ·exact wp_region_list (Zak D M _ s a w Y h hq)
 ·simp only[Qap,ai]at h;refine wp_region_any N ?_;obtain⟨m,h,hm⟩:=Q27 (ops:=ops.toList) ops.toList [] [] rfl rfl (λi j S=>by simp at S) h;rcases Qbo D ops.toList 0 s _ r h with⟨ps,sf,T,q2,q3,X⟩|⟨acc,sf,T,j,q,q2,q3⟩
  ·cases U:KA C ops m 0 [] (ps.map (·.2))<;>rw[U]at X
   ·simp at X
   ·simp only[ai]at X;have hlen:ps.length=ops.size:=by have:=ik List.length T;simpa using this
    have E:ps.map (·.1)=List.range' 0 ps.length:=by rw[q2];simp[hlen]
    have V:=Zaa ps [] 0 E U;have I:∀(i:Nat) (x:Nat×Oper×Option Prim),ps[i]? =some x->x.1=i/\ops[i]? =some x.2.1:=by
     intro i x J;have L:(ps.map (·.1))[i]? =some x.1:=by simp[J]
     have h2:(ps.map (·.2.1))[i]? =some x.2.1:=by simp[J]
     rw[E,List.getElem?_range']at L;rw[T]at h2
     ·simp at L;exact⟨by omega,by simpa using h2⟩
     ·exact(fx.1 J).1
    refine Q6o D M (m:=m) (sf:=sf) (d0:=a.defers) (λO w' a0 a1=>hq sf O w' X a0 a1) ops.size _ ps s a _ hlen ?_ q3 Y.wf Y.drew rfl;refine⟨by simp,λx J=> ?_,λi S=> ?_,?_,?_,?_⟩
    ·obtain⟨pre,post,hs⟩:=List.append_of_mem J;obtain⟨c1,c2,_⟩:=V pre x post hs;obtain⟨i,S⟩:=List.getElem?_of_mem J;obtain⟨p1,p2⟩:=I i x S;exact⟨by rw[p1];exact p2,c1,c2⟩
    ·constructor
     ·intro _;have G:i<ps.length:=by omega
      exact⟨ps[i],bf G,(I i ps[i] (ag G)).1⟩
     ·intro _;simp[Array.getD,S]
    ·rw[E];exact List.pairwise_lt_range'
    ·intro j o hj hl;have G:j<ops.size:=(dt.1 hj).1;simp[Array.getD,G]at hl
    ·intro pre x post hs y hy;rcases(V pre x post hs).2.2 y (by simpa using hy)with L|L
     ·exact .inl (hm _ _ L)
     ·exact .inr L
  ·cases U:KA C ops m 0 [] acc<;>rw[U]at T
   ·simp at T
   ·have:=Qul acc [] 0 U j q q2;rw[q3]at this;simp at this
def SF:Ex->Exit
 | .normal=> .normal
 | .exit id=> .exit id
 | .ret=> .ret
def JP (Z:Base) (K:Ex->St->Option R) (r:R) (d:List Deferred):Exit->Act->World->Prop:=
 λe a w=>∃D s,SF D=e/\K D s=some r/\Rel Z s a.tmps w/\a.defers=d
theorem Ze2 {step:St->(Ex->St->Option R)->Option R} {body:Code} {K:Ex->St->Option R} {r:R} {d:List Deferred}
  (D:∀(s:St) (a:Act) (w:World) (L:Ex->St->Option R),Rel Z s a.tmps w->a.defers=d->step s L=some r->body.wp P (JP Z L r d) a w):
  ∀(n:Nat) (s:St) (a:Act) (w:World),Rel Z s a.tmps w->a.defers=d->Qx P C step n s K=some r->Code.rounds P body (JP Z K r d) n a w
 |0,s,a,w,M,N,h=>by simp[Qx]at h
 |n+1,s,a,w,M,N,h=>by
  rw[Qx]at h;rw[rounds_succ];refine wp_mono (D s a w _ M N h) ?_;rintro e O w' ⟨S,s2,rfl,I,E,G⟩;cases S with
  |normal=>
   obtain⟨T,U,J⟩:=Sa E I;exact Ze2 D n T O w' J G U
  |exit id=>exact⟨.exit id,s2,rfl,I,E,G⟩
  |ret=>exact⟨.ret,s2,rfl,I,E,G⟩
def InZ (Z:Base):Prop:=∀k b,Z.K0 k=some b->GM k=true
def JS (P:Program) (c:Code) (sk:Sk) (g:Kq):Prop:=
 ∀(Z:Base) (_:InZ Z) (a:Act) (w:World) (vars:List AC) (R:Type) (K:Ex->St->Option R) (r:R),Rel Z (BL sk vars) a.tmps w->g R vars K=some r->c.wp P (JP Z K r a.defers) a w
structure SubOK (P : Program) (C : Cfg) (c : Code) (blk : Nat) : Prop where
 l:∀p∈AX c blk,∀sk g,C.loops p.1=some (sk,g)->JS P (.loop p.2) sk g
 b:∀p∈Bh c,∀sk g,C.blocks p.1=some (sk,g)->JS P (.block p.1 p.2) sk g
 c:∀p∈Br c blk,∀sk g,C.conds p.1=some (sk,g)->JS P (.cond (.tmp p.1) p.2.2.1 p.2.2.2) sk g
theorem IM:∀(c:Code) (b b':Nat),AX c b=AX c b'
 | .seq x y,b,b'=>by simp only[AX,IM x b b',IM y b b']
 | .cond _ x y,b,b'=>by simp only[AX,IM x b b',IM y b b']
 | .block _ x,b,b'=>by simp only[AX,IM x b b']
 | .loop x,b,b'=>by simp only[AX,IM x b b']
 | .skip,_,_=>rfl
 | .region _ _ _,_,_=>rfl
 | .exit _,_,_=>rfl
 | .ret,_,_=>rfl
 | .rangeFunc _ _ _ _,_,_=>rfl
 | .scope x,b,b'=>by simp only[AX,IM x b b']
 | .label _,_,_=>rfl
 | .goto _,_,_=>rfl
 | .refuse _,_,_=>rfl
theorem Jg:∀(c:Code) (b b':Nat),Br c b=Br c b'
 | .seq x y,b,b'=>by simp only[Br,Jg x b b',Jg y b b']
 | .cond c x y,b,b'=>by cases c<;>simp only[Br,Jg x b b',Jg y b b']
 | .block _ x,b,b'=>by simp only[Br,Jg x b b']
 | .loop x,b,b'=>by simp only[Br,Jg x b b']
 | .skip,_,_=>rfl
 | .region _ _ _,_,_=>rfl
 | .exit _,_,_=>rfl
 | .ret,_,_=>rfl
 | .rangeFunc _ _ _ _,_,_=>rfl
 | .scope x,b,b'=>by simp only[Br,Jg x b b']
 | .label _,_,_=>rfl
 | .goto _,_,_=>rfl
 | .refuse _,_,_=>rfl
theorem SubOK.any {c:Code} (b:Nat) {b':Nat} (h:SubOK P C c b):SubOK P C c b':=
 ⟨λp D=>h.l p (by rw[IM c b b'];exact D),h.b,λp D=>h.c p (by rw[Jg c b b'];exact D)⟩
theorem Qfx {c:Code} {told:Option (Sk×Kq)} {s:St} {a:Act} {K:Ex->St->Option R} {r:R} {d:List Deferred} {run:Option R} (J:InZ Z)
  (L:∀sk g,told=some (sk,g)->JS P c sk g) (E:Rel Z s a.tmps w) (M:a.defers=d) (h:R7 told s K run=some r) (D:run=some r->c.wp P (JP Z K r d) a w):c.wp P (JP Z K r d) a w:=by
 unfold R7 at h;split at h
 ·exact D h
 ·rename_i sk g;obtain⟨G,I⟩:=Ck h;split at I
  ·rename_i vars N;obtain⟨ρ,E⟩:=E;obtain⟨tm,aB,aC⟩:=s;subst M;exact L sk g rfl Z J a w vars R K r ⟨ρ,E.rebuild J G N⟩ I
  ·simp at I
theorem Zb6 {ρ:Env} {d:Nat} {a:AC} {x:Value} (h:CC ρ w a x):CC ρ w (a.killP d) x:=by
 cases a with
 |ptr k o=>simp only[AC.killP];cases Nat.beq k d<;>first|exact h|exact h.one
 |bsl k o=>simp only[AC.killP];cases Nat.beq k d<;>first|exact h|exact h.one
 |clo f fs cs=>simp only[AC.killP];cases(Al (Lc d) fs&&Al (Lc d) cs)<;>first|exact h|exact h.one
 |_=>exact h
theorem VH {ρ:Env} {f:AC->AC} (hf:∀(a:AC) (x:Value),CC ρ w a x->CC ρ w (f a) x):∀{l:List AC} {xs:List Value},CL (CC ρ w) l xs->CL (CC ρ w) (l.map f) xs
 |[],[],_=>trivial
 |_::_,_::_,h=>⟨hf _ _ h.1,VH hf h.2⟩
 |[],_::_,h=>h.elim
 |_::_,[],h=>h.elim
theorem Ybx {ρ:Env} {f:AC->AC} (hf:∀(a:AC) (x:Value),CC ρ w a x->CC ρ w (f a) x) {v:TV} {x:Value} (h:TVR ρ w v x):TVR ρ w (v.mapC f) x:=by
 cases v with
 |vD=>trivial
 |tup ps=>
  obtain⟨E,rfl,D⟩:=h;refine⟨E,rfl,?_⟩;generalize E.toList=l at D;induction ps generalizing l with
  |nil=>cases l<;>first|exact D|exact D.elim
  |cons p ps J=>
   cases l with
   |nil=>exact D.elim
   |cons y l=>
    obtain⟨g,cs⟩:=p;refine⟨?_,J l D.2⟩;have:=D.1;cases g
    ·obtain⟨a,G,I⟩:=this;subst G;exact⟨_,rfl,hf _ _ I⟩
    ·obtain⟨L,G,M⟩:=this;exact⟨L,G,VH hf M⟩
 |v g cs=>
  cases g
  ·obtain⟨a,rfl,I⟩:=h;exact⟨_,rfl,hf _ _ I⟩
  ·obtain⟨E,rfl,D⟩:=h;exact⟨E,rfl,VH hf D⟩
theorem RelE.forget {tm:List TV} {aB:List (Nat×Box)} {aC:List (Nat×Row)} {ρ:Env} {tmps:Array Value} (h:RelE Z tm aB aC ρ tmps w) {d:Nat} (hd:∀b,Z.K0 d≠some b):
  RelE Z (tm.map (TV.mapC (AC.killP d))) ((del d aB).map λp=>(p.1,(⟨p.2.ty,p.2.cells.map (AC.killP d)⟩:Box))) aC ρ tmps w:=by
 have N:∀k,Ac ((del d aB).map λp=>(p.1,(⟨p.2.ty,p.2.cells.map (AC.killP d)⟩:Box))) k=(Ac (del d aB) k).map λb=>⟨b.ty,b.cells.map (AC.killP d)⟩:=λk=>GU (λb:Box=>(⟨b.ty,b.cells.map (AC.killP d)⟩:Box)) _ k;have E:∀(k:Nat) (b:Box),Ac ((del d aB).map λp=>(p.1,(⟨p.2.ty,p.2.cells.map (AC.killP d)⟩:Box))) k=some b->k≠d/\∃b',Ac aB k=some b'/\b=⟨b'.ty,b'.cells.map (AC.killP d)⟩:=by
  intro k b D;rw[N]at D;simp only[bv]at D;obtain⟨b',T,rfl⟩:=D;obtain⟨U,V⟩:=Nf T;exact⟨U,b',V,rfl⟩
 have I:∀(k:Nat) (b:Box),k≠d->Ac aB k=some b->∃b',Ac ((del d aB).map λp=>(p.1,(⟨p.2.ty,p.2.cells.map (AC.killP d)⟩:Box))) k=some b':=λk b X D=>⟨_,by rw[N,Mr _ _ _ X,D];rfl⟩;have O:∀a,Lc d a=true->AC.wfP aB a->AC.wfP ((del d aB).map λp=>(p.1,(⟨p.2.ty,p.2.cells.map (AC.killP d)⟩:Box))) a:=by
  intro a hn G;cases a<;>try exact trivial
  rename_i k o;obtain⟨b,hb⟩:=G;simp only[Lc,ig]at hn;exact I k b (Hw hn) hb
 have L:∀a,AC.wf aB aC a->AC.wf ((del d aB).map λp=>(p.1,(⟨p.2.ty,p.2.cells.map (AC.killP d)⟩:Box))) aC (a.killP d):=by
  intro a G;cases a with
  |ptr k o=>
   simp only[AC.killP];cases D:Nat.beq k d
   ·obtain⟨b,hb⟩:=G;exact I k b (Hw D) hb
   ·exact trivial
  |bsl k o=>
   simp only[AC.killP];cases D:Nat.beq k d
   ·obtain⟨b,hb⟩:=G;exact I k b (Hw D) hb
   ·exact trivial
  |clo f fs cs=>
   simp only[AC.killP];cases J:(Al (Lc d) fs&&Al (Lc d) cs)
   ·exact trivial
   ·simp only[ak]at J;exact⟨λa h'=>O a (AD.1 J.1 a h') (G.1 a h'),λa h'=>O a (AD.1 J.2 a h') (G.2 a h')⟩
  |_=>exact G
 refine⟨by simpa using h.tl,?_,?_,?_,?_,?_,h.ro,h.ri,?_,?_,h.fr,h.fs,h.i0,h.i1,?_⟩
 ·intro i v hi;simp only[d7,bv]at hi;obtain⟨u,Y,rfl⟩:=hi;exact Ybx (λ_ _=>Zb6) (h.tv i u Y)
 ·intro v hv;simp only[bc]at hv;obtain⟨u,Y,rfl⟩:=hv;have:=h.wt u Y;cases u with
  |vD=>trivial
  |v g cs=>
   intro a G;simp only[bc]at G;obtain⟨c,J,rfl⟩:=G;exact L c (this c J)
  |tup ps=>
   intro p hp a G;simp only[bc]at hp;obtain⟨q,hq,rfl⟩:=hp;simp only[bc]at G;obtain⟨c,J,rfl⟩:=G;exact L c (this q hq c J)
 ·intro k b D a G;obtain⟨_,b',M,rfl⟩:=E k b D;simp only[bc]at G;obtain⟨c,J,rfl⟩:=G;exact L c (h.wb k b' M c J)
 ·intro k b D;obtain⟨_,b',M,rfl⟩:=E k b D;obtain⟨arr,T,U,V⟩:=h.bx k b' M;exact⟨arr,T,VH (λ_ _=>Zb6) U,V⟩
 ·intro k k' b b' D a0;obtain⟨_,_,S,_⟩:=E k b D;obtain⟨_,_,p2,_⟩:=E k' b' a0;exact h.bi k k' _ _ S p2
 ·intro k b j q D hq;obtain⟨_,_,S,_⟩:=E k b D;exact h.br k _ j q S hq
 ·intro b hb;obtain⟨q1,q2,q3⟩:=h.ib b hb;exact⟨q1,λk bo D=>by obtain⟨_,_,p,_⟩:=E k bo D;exact q2 k _ p,q3⟩
 ·intro k b D;obtain⟨S,bo,p2⟩:=h.k0 k b D;exact⟨S,I k bo (by rintro rfl;exact hd b D) p2⟩
theorem Qdw (E:InZ Z) {tmps:Array Value} {K:St->Option R} {r:R}:∀(l:List Nat) (s:St),Rel Z s tmps w->SB l s K=some r->∃I,K I=some r/\Rel Z I tmps w
 |[],s,D,h=>⟨s,h,D⟩
 |d::l,⟨tm,aB,aC⟩,D,h=>by
  simp only[SB]at h;split at h
  ·exact Qdw E l _ D h
  ·cases G:GM d<;>rw[G]at h
   ·simp only[aq,Bo]at h;obtain⟨ρ,D⟩:=D;exact Qdw E l _ ⟨ρ,D.forget (d:=d) λb hb=>by rw[E d b hb]at G;cases G⟩ h
   ·simp at h
theorem Hv (D:Aj P C) (S:∀t∈C.eqOk,P.stoodInHeld t=false) (J:P.follows .mixedOrders=true) (X:InZ Z) {r:R} {d:List Deferred}:
  ∀(c:Code) (L blk:Nat) (s:St) (a:Act) (w:World) (K:Ex->St->Option R),SubOK P C c blk->Rel Z s a.tmps w->a.defers=d->DJ P C L c blk s K=some r->c.wp P (JP Z K r d) a w
 | .skip,L,blk,s,a,w,K,G,M,N,h=>wp_skip ⟨.normal,s,rfl,h,M,N⟩
 | .region id ops draw,L,blk,s,a,w,K,G,M,N,h=>by
  rw[DJ]at h;obtain⟨s0,h,M⟩:=Qdw X _ s M h;exact Zlt D S J M h λU a' w' T I O=>⟨.normal,U,rfl,T,I,O.trans N⟩
 | .seq x y,L,blk,s,a,w,K,G,M,N,h=>by
  rw[DJ]at h;refine wp_seq (wp_mono (Hv D S J X x L blk s a w _ ⟨λp E=>G.l p (by simp[AX,E]),λp E=>G.b p (by simp[Bh,E]),λp E=>G.c p (by simp[Br,E])⟩ M N h) ?_);rintro e a' w' ⟨ae,U,rfl,T,I,O⟩;cases ae with
  |normal=>exact Hv D S J X y L blk U a' w' K ⟨λp E=>G.l p (by simp[AX,E]),λp E=>G.b p (by simp[Bh,E]),λp E=>G.c p (by simp[Br,E])⟩ I O T
  |exit id=>exact⟨.exit id,U,rfl,T,I,O⟩
  |ret=>exact⟨.ret,U,rfl,T,I,O⟩
 | .cond c x y,L,blk,s,a,w,K,G,M,N,h=>by
  have hx:SubOK P C x blk:=⟨λp E=>G.l p (by simp[AX,E]),λp E=>G.b p (by simp[Bh,E]),λp E=>G.c p (by cases c<;>simp[Br,E])⟩;have hy:SubOK P C y blk:=⟨λp E=>G.l p (by simp[AX,E]),λp E=>G.b p (by simp[Bh,E]),λp E=>G.c p (by cases c<;>simp[Br,E])⟩;rw[DJ]at h;refine Qfx (c:= .cond c x y) X ?_ M N h λV=> ?_
  ·intro sk g ht;unfold Q7m at ht;split at ht
   ·rename_i t;exact G.c (t,0,x,y) (by simp[Br]) sk g ht
   ·simp at ht
  ·split at V
   ·rename_i g hg;have hc:a.eval c= .bool g:=by
     obtain⟨ρ,Y⟩:=M;have:=Q7l Y c;rw[hg]at this;exact this.bool
    refine wp_cond hc ?_;split at V
    ·rename_i t;have a0:∀b,g=b->Rel Z ⟨setL s.tmps t (.c (.bool b)),s.aB,s.aC⟩ a.tmps w:=by
      rintro b rfl;obtain⟨ρ,Y⟩:=M;exact⟨ρ,Y.learn t (by have e:a.tmps.getD t undef= .bool g:=hc;rw[e];exact TVR.mkBool _) (JD _)⟩
     cases g
     ·simp only[aq]at V;rw[F4]at V;exact Hv D S J X y L blk _ a w K hy (a0 false rfl) N V
     ·simp only[ai]at V;rw[F4]at V;exact Hv D S J X x L blk _ a w K hx (a0 true rfl) N V
    ·cases g
     ·exact Hv D S J X y L blk s a w K hy M N V
     ·exact Hv D S J X x L blk s a w K hx M N V
   ·simp at V
 | .block id body,L,blk,s,a,w,K,G,M,N,h=>by
  have hb:SubOK P C body id:=SubOK.any blk ⟨λp E=>G.l p (by simp[AX,E]),λp E=>G.b p (by simp[Bh,E]),λp E=>G.c p (by simp[Br,E])⟩;rw[DJ]at h;refine Qfx (c:= .block id body) X (G.b (id,body) (by simp[Bh])) M N h λV=> ?_;refine wp_block (wp_mono (Hv D S J X body L id s a w _ hb M N V) ?_);rintro e a' w' ⟨ae,U,rfl,T,I,O⟩;cases ae with
  |normal=>exact⟨.normal,U,rfl,T,I,O⟩
  |exit i=>
   simp only[SF,Exit.inBlock];dsimp only at T;cases hb:Nat.beq i id<;>rw[hb]at T
   ·have:i≠id:=λe=>by rw[e]at hb;simp at hb
    rw[ab this];exact⟨.exit i,U,rfl,T,I,O⟩
   ·rw[aa (af hb)];exact⟨.normal,U,rfl,T,I,O⟩
  |ret=>exact⟨.ret,U,rfl,T,I,O⟩
 | .loop body,L,blk,s,a,w,K,G,M,N,h=>by
  rw[DJ]at h;obtain⟨U,h',I⟩:=Tu _ s a.tmps M _ r h;obtain⟨s1,h1,a1⟩:=Sa I h';have hb:SubOK P C body blk:=⟨λp E=>G.l p (by simp[AX,E]),λp E=>G.b p (by simp[Bh,E]),λp E=>G.c p (by simp[Br,E])⟩;refine Qfx (c:= .loop body) X (G.l (VP body,body) (by simp[AX])) a1 N h1 λV=> ?_;exact wp_loop_rounds L (Ze2 (λs a w K' M N h=>Hv D S J X body L blk s a w K' hb M N h) L s1 a w a1 N V)
 | .exit id,L,blk,s,a,w,K,G,M,N,h=>wp_exit ⟨.exit id,s,rfl,h,M,N⟩
 | .ret,L,blk,s,a,w,K,G,M,N,h=>wp_ret ⟨.ret,s,rfl,h,M,N⟩
 | .rangeFunc f ps a2 body,L,blk,s,a,w,K,G,M,N,h=>by simp[DJ]at h
 | .scope b,L,blk,s,a,w,K,G,M,N,h=>by
  rw[DJ]at h;refine wp_scope_straight (wp_mono (Hv D S J X b L blk s a w K ⟨λp E=>G.l p (by simp[AX,E]),λp E=>G.b p (by simp[Bh,E]),λp E=>G.c p (by simp[Br,E])⟩ M N h) ?_);rintro e a' w' ⟨ae,U,rfl,T,I,O⟩;cases ae with
  |normal=>exact⟨.normal,U,rfl,T,I,O⟩
  |exit i=>exact⟨.exit i,U,rfl,T,I,O⟩
  |ret=>exact⟨.ret,U,rfl,T,I,O⟩
 | .label l,L,blk,s,a,w,K,G,M,N,h=>by
  rw[DJ]at h;exact wp_label ⟨.normal,s,rfl,h,M,N⟩
 | .goto l,L,blk,s,a,w,K,G,M,N,h=>by simp[DJ]at h
 | .refuse a3,L,blk,s,a,w,K,G,M,N,h=>by simp[DJ]at h
theorem Z82 {e D:Ex} (h:V5 e D=true):e=D:=by
 cases e<;>cases D<;>simp only[V5]at h<;>first|rfl|(simp at h;done)|(rw[af h])
theorem Qmu {s:St} {G:Ex} {tmps:Array Value} (J:InZ Z) (E:Rel Z s tmps w):∀{D:List (Ex×Sk)} {i n:Nat} {o:List AC},Hx D i G s=some (n,o)->
  i<=n/\∃sk,(∀(R:Type) (K:Ex->St->Option R),Qi o K D i n=K G (BL sk o))/\Rel Z (BL sk o) tmps w
 |[],i,n,o,h=>by simp[Hx]at h
 |(e,sk)::l,i,n,o,h=>by
  simp only[Hx]at h;cases hb:(V5 e G&&sk.okB)<;>rw[hb]at h
  ·simp only[aq]at h;obtain⟨O,I,L,M⟩:=Qmu J E h;refine⟨by omega,I,λR K=> ?_,M⟩;simp only[Qi];rw[KL (by omega)];exact L R K
  ·simp only[ai]at h;simp only[ak]at hb;split at h
   ·rename_i vars N;simp at h;obtain⟨rfl,rfl⟩:=h;refine⟨cx _,sk,λR K=> ?_,?_⟩
    ·simp only[Qi,j7,ai];rw[Z82 hb.1]
    ·obtain⟨ρ,E⟩:=E;obtain⟨tm,aB,aC⟩:=s;exact⟨ρ,E.rebuild J hb.2 N⟩
   ·simp at h
theorem Zyn (G:Aj P C) (X:∀t∈C.eqOk,P.stoodInHeld t=false) (N:P.follows .mixedOrders=true) {L blk:Nat} {body:Code} {sk:Sk} {D:List (Ex×Sk)} {m:List AC->Option (Nat×List AC)}
  (Y:sk.okB=true) (O:SubOK P C body blk) (hm:∀vars o,m vars=some o->∃n,C_ (A9 P C L blk body sk D) n vars=some o):JS P (.loop body) sk (gOf D m):=by
 intro Z hZ a w vars R K r hR h;simp only[gOf,de]at h;obtain⟨⟨t,o⟩,h1,h2⟩:=h;obtain⟨n,hn⟩:=hm vars _ h1;have key:∀(n:Nat) (vars:List AC) (J:Act) (w':World),Rel Z (BL sk vars) J.tmps w'->J.defers=a.defers->C_ (A9 P C L blk body sk D) n vars=some (t,o)->Code.rounds P body (JP Z K r a.defers) n J w':=by
  intro n;induction n with
  |zero=>intro vars J w' _ _ h;simp[C_]at h
  |succ n ih=>
   intro vars J w' a0 a1 h;simp only[C_,de]at h;obtain⟨⟨t',o'⟩,q1,M⟩:=h;rw[rounds_succ];refine wp_mono (Hv G X N hZ body L blk _ J w' _ O a0 a1 q1) ?_;rintro e a2 w2 ⟨ae,s',rfl,hK,S,T⟩;have E:∀U:Ex,Hx D 1 U s'=some (t',o')->JP Z K r a.defers (SF U) a2 w2:=by
    intro U hx;obtain⟨p1,a3,p2,p3⟩:=Qmu hZ S hx;have ht:t'≠0:=by omega
    dsimp only at M;rw[ab ht]at M;simp at M;obtain⟨rfl,rfl⟩:=M;rw[p2 R K]at h2;exact⟨U,_,rfl,h2,p3,T⟩
   cases ae with
   |normal=>
    obtain⟨s3,V,I⟩:=Sa S hK;split at V
    ·rename_i vars' hv;simp at V;obtain⟨rfl,rfl⟩:=V;simp only[dv]at M;obtain⟨ρ,I⟩:=I;obtain⟨tm,aB,aC⟩:=s3;exact ih _ a2 w2 ⟨ρ,I.rebuild hZ Y hv⟩ T M
    ·simp at V
   |exit i=>exact E _ hK
   |ret=>exact E _ hK
 exact wp_loop_rounds n (key n vars a w hR rfl hn)
theorem Z4c (G:Aj P C) (O:∀t∈C.eqOk,P.stoodInHeld t=false) (J:P.follows .mixedOrders=true) {L id:Nat} {body:Code} {sk:Sk} {E:List (Ex×Sk)} {m:List AC->Option (Nat×List AC)}
  (M:SubOK P C body id) (X:∀vars o,m vars=some o->Q8n P C L id body sk E vars=some o):JS P (.block id body) sk (gOf E m):=by
 intro Z U a w vars R K r Y h;simp only[gOf,de]at h;obtain⟨⟨t,o⟩,h1,V⟩:=h;have hb:=X vars _ h1;refine wp_block (wp_mono (Hv G O J U body L id _ a w _ M Y rfl hb) ?_);rintro e a' w' ⟨ae,s',rfl,I,S,T⟩;have D:∀N:Ex,Hx E 1 N s'=some (t,o)->JP Z K r a.defers (SF N) a' w':=by
  intro N hx;obtain⟨p1,a0,p2,p3⟩:=Qmu U S hx;rw[p2 R K]at V;exact⟨N,_,rfl,V,p3,T⟩
 cases ae with
 |normal=>exact D .normal I
 |exit i=>
  simp only[SF,Exit.inBlock];dsimp only at I;cases hb:Nat.beq i id<;>rw[hb]at I
  ·have:i≠id:=λe=>by rw[e]at hb;simp at hb
   rw[ab this];exact D (.exit i) I
  ·rw[aa (af hb)];exact D .normal I
 |ret=>exact D .ret I
end
open Go.RowKit
section
variable {P:Program} {C:Cfg} {w:World} {R:Type} {Z:Base}
theorem RelE.slots {tm E:List TV} {aB:List (Nat×Box)} {aC:List (Nat×Row)} {ρ:Env} {tmps D:Array Value} (h:RelE Z tm aB aC ρ tmps w) (G:E.length=D.size)
  (I:∀(i:Nat) (v:TV),E[i]? =some v->TVR ρ w v (D.getD i undef)) (J:∀v∈E,TV.wf aB aC v):RelE Z E aB aC ρ D w:=
 ⟨G,I,J,h.wb,h.bx,h.bi,h.ro,h.ri,h.br,h.ib,h.fr,h.fs,h.i0,h.i1,h.k0⟩
theorem Q62 {s:St} {a:Act} {ρ:Env} (J:RelE Z s.tmps s.aB s.aC ρ a.tmps w):∀(l:List ResultVar) (ps:List (Bool×List AC)),LN P s l=some ps->
  ∃ xs : List Value, (l.mapM fun
   | .tmp t=>pure (a.tmps.getD t undef)
   | .cell b t=>do loadVar t (<-asAddr (a.tmps.getD b undef)):Sem (List Value)).run P w= .ok xs w/\TP ρ w ps xs/\∀p∈ps,∀c∈p.2,AC.wf s.aB s.aC c
 |[],ps,h=>by simp[LN]at h;subst h;exact⟨[],rfl,trivial,by simp⟩
 |rv::l,ps,h=>by
  simp only[LN]at h;split at h
  ·rename_i g cs D;split at h
   ·rename_i S T;simp at h;subst h;obtain⟨xs,h1,h2,h3⟩:=Q62 J l S T;have key : ∃ x, ((match rv with
      | .tmp t=>pure (a.tmps.getD t undef)
      | .cell b t=>do loadVar t (<-asAddr (a.tmps.getD b undef)):Sem Value)).run P w= .ok x w/\TVR ρ w (.v g cs) x/\TV.wf s.aB s.aC (.v g cs):=by
     cases rv with
     |tmp t=>
      simp only[Qo6]at D;split at D
      ·rename_i X L M;simp at D;obtain⟨rfl,rfl⟩:=D;have U:t<s.tmps.length:=by
        rcases kq t s.tmps.length with G|I
        ·exact G
        ·rw[B5,List.getD,df I]at M;simp at M
       have E:s.tmps[t]? =some (.v X L):=by
        rw[B5,List.getD]at M;rw[ag U]at M⊢;simpa using M
       exact⟨_,by simp,J.tv t _ E,J.wt _ (cd E)⟩
      ·simp at D
     |cell b t=>
      simp only[Qo6]at D;split at D
      ·rename_i key off X sz hb hg hs;have V:b<s.tmps.length:=by
        rcases kq b s.tmps.length with G|I
        ·exact G
        ·rw[B5,List.getD,df I]at hb;simp at hb
       have E:s.tmps[b]? =some (.c (.ptr key off)):=by
        rw[B5,List.getD]at hb;rw[ag V]at hb⊢;simpa using hb
       have Y:=(J.tv b _ E).c;simp only[CC]at Y;split at D
       ·rename_i bo N;obtain⟨arr,q1,q2,q3⟩:=J.bx key bo N;obtain ⟨x, q4, q5⟩ := V7 (b := ρ.bx key) (o := 0) hg hs D q2 (λj y hj => by
         simp only[fc];rw[cell_of_row w _ j arr bo.ty (0,0) q1];simpa using hj)
        rw[fc]at q4;exact⟨x,by simp[Y,asAddr,q4],q5,RW D (J.wb key bo N)⟩
       ·simp at D
      ·simp at D
    obtain⟨x,k1,k2,k3⟩:=key;refine⟨x::xs,?_,?_,?_⟩
    ·rw[List.mapM_cons];simp only[Sem.run_bind,Sem.run_pure];rw[k1];simp only[db];rw[h1];rfl
    ·refine⟨?_,h2⟩;cases g<;>exact k2
    ·intro p O;simp only[ao]at O;rcases O with rfl|O
     ·exact k3
     ·exact h3 p O
   ·simp at h
  ·simp at h
theorem QJ:∀(ks:List Kd) (cs:List AC),(El ks cs).length=cs.length
 |[],[]=>rfl
 |[],_::_=>rfl
 | .sl _::_,[]=>rfl
 | .int _::_,[]=>rfl
 | .bool::_,[]=>rfl
 | .raw::_,[]=>rfl
 | .int _::l,_::cs=>by simp[El,QJ l cs]
 | .bool::l,_::cs=>by simp[El,QJ l cs]
 | .raw::l,_::cs=>by simp[El,QJ l cs]
 | .sl _::l,a::cs=>by cases a<;>simp[El,QJ l cs]
theorem Qyf {ρ:Env}:∀(D:List TypeId) (ps:List (Bool×List AC)) (xs:List Value),TP ρ w ps xs->TP ρ w (Ii P D ps) xs
 |[],ps,xs,h=>by simpa [Ii]using h
 |_::_,[],xs,h=>by simpa [Ii]using h
 |t::D,(g,cs)::ps,[],h=>h.elim
 |t::D,(g,cs)::ps,x::xs,h=>by
  refine⟨?_,Qyf D ps xs h.2⟩;have E:=h.1;cases O:GE P 8 t with
  |none=>exact E
  |some ks=>
   cases g
   ·obtain⟨a,rfl,I⟩:=E;have:=Lx ks [a] [x] ⟨I,trivial⟩;have G:=QJ ks [a];generalize J:El ks [a]=l at this G;cases l with
    |nil=>simp at G
    |cons b l=>
     cases l with
     |nil=>exact⟨b,J,this.1⟩
     |cons=>simp at G
   ·obtain⟨L,M,N⟩:=E;exact⟨L,M,Lx ks cs _ N⟩
theorem Q9v {aB:List (Nat×Box)} {aC:List (Nat×Row)}:∀(E:List TypeId) (ps:List (Bool×List AC)),(∀p∈ps,∀c∈p.2,AC.wf aB aC c)->∀p∈Ii P E ps,∀c∈p.2,AC.wf aB aC c
 |[],ps,h=>by simpa [Ii]using h
 |_::_,[],h=>by simp[Ii]
 |t::E,(g,cs)::ps,h=>by
  intro p D;simp only[Ii,ao]at D;rcases D with rfl|D
  ·cases I:GE P 8 t with
   |none=>exact h (g,cs) (by simp)
   |some ks=>exact Ok ks cs (h (g,cs) (by simp))
  ·exact Q9v E ps (λq G=>h q (by simp[G])) p D
theorem Q2z {ρ:Env}:∀{ps:List (Bool×List AC)} {xs:List Value},TP ρ w ps xs->ps.length=xs.length
 |[],[],_=>rfl
 |_::_,_::_,h=>by simp[Q2z h.2]
 |[],_::_,h=>h.elim
 |_::_,[],h=>h.elim
theorem Zsw {ρ:Env} {ps:List (Bool×List AC)} {xs:List Value} (h:TP ρ w ps xs):TVR ρ w (LD ps) (if h:xs.length=1 then xs[0]else .tuple xs.toArray):=by
 have D:=Q2z h
 match ps,xs,h with
 |[],[],_=>exact⟨#[],rfl,trivial⟩
 |[(g,cs)],[x],h=>
  simp only[LD,f8,dite_true,List.getElem_cons_zero];have:=h.1;cases g<;>exact this
 |p::q::ps,x::y::xs,h=>
  have: ¬(x::y::xs).length=1:=by simp
  rw[dif_neg this];exact⟨_,rfl,by simpa using h⟩
theorem Zhp {keys ids:List Nat} {ps:List (Bool×List AC)} (h:Al (λp:Bool×List AC=>Al (AC.inK keys ids) p.2) ps=true):TV.inK keys ids (LD ps)=true:=by
 match ps,h with
 |[],h=>exact h
 |[(g,cs)],h=>exact AD.1 h (g,cs) (by simp)
 |p::q::ps,h=>exact h
theorem Zhf {aB:List (Nat×Box)} {aC:List (Nat×Row)} {ps:List (Bool×List AC)} (h:∀p∈ps,∀c∈p.2,AC.wf aB aC c):TV.wf aB aC (LD ps):=by
 match ps,h with
 |[],h=>exact h
 |[(g,cs)],h=>exact h (g,cs) (by simp)
 |p::q::ps,h=>exact h
theorem Z6u {J:Func} {D:List Nat} {s:St} {a:Act} (hR:Rel Z s a.tmps w) (V:∀k b,Z.K0 k=some b->k∈D) {K:TV->Mem->Option R} {r:R} (h:Sf P C J D s K=some r):
  ∃x ρ' v m,K v m=some r/\(results J a.tmps).run P w= .ok x w/\RelE Z [v] m.aB m.aC ρ' #[x] w:=by
 unfold Sf at h;split at h
 ·simp at h
 ·rename_i ps a3;have X:∃s1,(IE P C s1 λs1=>match LN P s1 J.results.toList with
    |none=>none
    |some ps=>match s1 with
     |⟨_,aB,aC⟩=>
      AY (Ii P J.resultTypes.toList ps) λps=>
      AY (L_ aB 4 (Bd (cat (λp:Bool×List AC=>cat AC.keys p.2) ps) D)) λkeys=>
      AY (OP aB (cat (λp:Bool×List AC=>p.2) ps) keys) λids=>
      AY (aB.filter λp=>AW keys p.1) λE=>
      AY (aC.filter λp=>AW ids p.1) λL=>
      bif Al (λp:Bool×List AC=>Al (AC.inK keys ids) p.2) ps&&Al (λp:Nat×Box=>Al (AC.inK keys ids) p.2.cells) E&&Al (ER aB) D&&Al (AW keys) D then K (LD ps) (⟨E,L⟩:Mem)else none)=some r/\Rel Z s1 a.tmps w:=by
   cases ho:C.ownRes<;>rw[ho]at h
   ·exact Ve _ s a.tmps hR _ _ h
   ·exact⟨s,h,hR⟩
  obtain⟨s1,X,Y⟩:=X;obtain⟨s2,G,ρ,M⟩:=Sa Y X;split at G
  ·simp at G
  ·rename_i a0 N;obtain⟨xs,q1,q2,q3⟩:=Q62 M _ _ N;obtain⟨tm,aB,aC⟩:=s2;simp only[Bo]at G;have O:=Qyf J.resultTypes.toList _ _ q2 (P:=P);have S:=Q9v J.resultTypes.toList _ q3 (P:=P);generalize Ii P J.resultTypes.toList a0=I at G O S;generalize L_ aB 4 (Bd (cat (λp:Bool×List AC=>cat AC.keys p.2) I) D)=keys at G;generalize OP aB (cat (λp:Bool×List AC=>p.2) I) keys=ids at G;obtain⟨U,G⟩:=Ck G;simp only[ak]at U;have T:(results J a.tmps).run P w= .ok (if h:xs.length=1 then xs[0]else .tuple xs.toArray) w:=by
    unfold results;rw[Array.mapM_eq_mapM_toList];simp only[Sem.run_bind,Sem.run_map];erw[q1]
    simp only[db,Sem.run_pure];congr 1
   have a1:TV.inK keys ids (LD I)=true:=Zhp U.1.1.1;have a2:TV.wf aB aC (LD I):=Zhf S;refine⟨_,ρ,_,_,G,T,M.filter (by simp) (λi v hi=> ?_) (λv hv=> ?_) (by simp[Al,a1]) U.1.1.2 (λk b hk=>AD.1 U.2 k (V k b hk))⟩
   ·cases i with
    |zero=>simp at hi;subst hi;simpa using Zsw O
    |succ i=>simp at hi
   ·simp at hv;subst hv;exact a2
theorem Zex (G:Aj P C) (V:∀t∈C.eqOk,P.stoodInHeld t=false) (M:P.follows .mixedOrders=true) (hZ:InZ Z) {L:Nat} {f:FuncId} {args:List TV} {mem:Mem} {K:TV->Mem->Option R} {r:R}
  (N:∀c,KV P f=some c->SubOK P C c 0) (h:Fv P C L f args mem K=some r) {ρ:Env} {xs:List Value} (D:RelE Z args mem.aB mem.aC ρ xs.toArray w):
  Calls P f xs.toArray w λe w'=>∃x O v m,e= .returned x/\K v m=some r/\RelE Z [v] m.aB m.aC O #[x] w':=by
 unfold Fv at h;split at h
 ·rename_i J S;split at h
  ·rename_i c hc;obtain⟨_,h⟩:=Ck h;simp only[Bo]at h;have T:P.funcs[f]? =some J:=by simpa using S
   have hs:=N c (by unfold KV;rw[S];exact hc);refine calls_of_wp T hc ?_;have hlen:xs.length=args.length:=by simpa using D.tl.symm
   have hR:Rel Z ⟨args++List.replicate (J.ntmps-args.length) TV.vD,mem.aB,mem.aC⟩ (xs.toArray++Array.replicate (J.ntmps-xs.toArray.size) undef) w:=by
    refine⟨ρ,D.slots (by simp[hlen]) (λi u U=> ?_) (λu I=> ?_)⟩
    ·rw[ie]at U;split at U
     ·rename_i a3;have X:i<xs.length:=by omega
      have e:(xs.toArray++Array.replicate (J.ntmps-xs.toArray.size) undef).getD i undef=xs.toArray.getD i undef:=by
       simp[Array.getD_eq_getD_getElem?,Array.getElem?_append,X]
      rw[e];exact D.tv i u U
     ·have:=cd U;rw[List.mem_replicate]at this;rw[this.2];trivial
    ·rw[ba]at I;rcases I with I|I
     ·exact D.wt u I
     ·rw[List.mem_replicate]at I;rw[I.2];trivial
   refine wp_mono (Hv G V M hZ c L 0 _ ⟨_,[]⟩ w _ hs hR rfl h) ?_;rintro e a' w' ⟨ae,s,rfl,Y,a0,hd⟩;have a1:∀k b,Z.K0 k=some b->k∈mem.aB.map (·.1):=by
    intro k b hk;obtain⟨_,bo,a2⟩:=D.k0 k b hk;exact Nj.2 ⟨bo,a2⟩
   have E:Sf P C J (mem.aB.map (·.1)) s K=some r->a'.defers=[]/\∃x,(results J a'.tmps).run P w'= .ok x w'/\∃y O v m,Ending.returned x= .returned y/\K v m=some r/\RelE Z [v] m.aB m.aC O #[y] w':=by
    intro hf;obtain⟨x,O,v,m,h0,h1,h2⟩:=Z6u a0 a1 hf;exact⟨hd,x,h1,x,O,v,m,rfl,h0,h2⟩
   cases ae with
   |normal=>
    obtain⟨q1,x,q2,q3⟩:=E Y;exact⟨q1,x,q2,q3⟩
   |ret=>
    obtain⟨q1,x,q2,q3⟩:=E Y;exact⟨q1,x,q2,q3⟩
   |exit id=>simp at Y
  ·simp at h
 ·simp at h
theorem Qas {F:Nat->Prop} {ρ:Env} {aB:List (Nat×Box)} (h:Al (λp:Nat×Box=>GM p.1) aB=true):InZ (FM F w ρ aB):=by
 intro k b E;simp only[FM,bv]at E;obtain⟨bo,D,_⟩:=E;exact AD.1 h (k,bo) (Pn D)
theorem Qks {sig D:Sk} {m:List AC->Option (List AC)} (R:Type) (args:List TV) (mem:Mem) (K:TV->Mem->Option R):Ad sig D m R args mem K=(Ad sig D m (TV×Mem) args mem λv m=>some (v,m)).bind λp=>K p.1 p.2:=by
  obtain⟨aB,aC⟩:=mem;simp only[Ad];cases Al (λp:Nat×Box=>GM p.1) aB
  ·rfl
  ·simp only[ai];cases F6 sig ⟨args,aB,aC⟩with
   |none=>rfl
   |some vars=>
    dsimp only;cases m vars with
    |none=>rfl
    |some o=>
     simp only[ah];generalize BL D o=s;obtain⟨tm,b,r⟩:=s;dsimp only;split<;>rfl
theorem Q5f (G:Aj P C) (U:∀t∈C.eqOk,P.stoodInHeld t=false) (M:P.follows .mixedOrders=true) {L:Nat} {f:FuncId} {sig D:Sk} {m:List AC->Option (List AC)} (h1:sig.okB=true) (h2:D.okB=true)
  (N:∀c,KV P f=some c->SubOK P C c 0) (hm:∀vars o,m vars=some o->Ao P C L f sig D vars=some o) {args:List TV} {mem:Mem} {v:TV} {mem':Mem} (h:(Ad sig D m (TV×Mem) args mem λv m=>some (v,m))=some (v,mem')):PCallM P f args mem v mem':=by
  obtain⟨aB,aC⟩:=mem;simp only[Ad]at h;obtain⟨V,h⟩:=Ck h;split at h
  ·rename_i vars hv;simp only[de]at h;obtain⟨o,ho,h⟩:=h;have E:=hm vars o ho;intro F w ρ xs X;have Y:InZ (FM F w ρ aB):=Qas V;have I:=X.rebuild Y h1 hv;unfold Ao at E;generalize hs:BL sig vars=s1 at E I;obtain⟨a0,T,a1⟩:=s1;dsimp only at E I;refine(Zex G U M Y N E I).mono ?_;rintro e w' ⟨x,ρ',v',m',he,O,S⟩;obtain⟨b',r'⟩:=m';dsimp only at O S;have J:=S.rebuild Y h2 O;generalize a2:BL D o=s2 at h J;obtain⟨tm,b2,r2⟩:=s2;dsimp only at h J;split at h
   ·simp only[av,dc]at h;obtain⟨rfl,rfl⟩:=h;exact⟨x,ρ',he,J⟩
   ·simp at h
  ·simp at h
theorem Ztv (E:Aj P C) (J:∀t∈C.eqOk,P.stoodInHeld t=false) (G:P.follows .mixedOrders=true) {L:Nat} {f:FuncId} (M:Q7 P f) {sig D:Sk} {m:List AC->Option (List AC)} (N:sig.okB=true) (O:D.okB=true)
  (I:∀c,KV P f=some c->SubOK P C c 0) (S:∀vars o,m vars=some o->Ao P C L f sig D vars=some o):SpecRight P f (Ad sig D m):=
 ⟨Qks,λ_ _ _ _ h=>PCallM.x (Q5f E J G N O I S h) M⟩
end
open Go.RowKit Go.WideShapes Go.ChangeShapes
def RO (P:Program) (g:TypeId->Option (List Kd)):List Field->Nat->Option (List Kd)
 |[],_=>some []
 |f::fs,o=>match g f.type with
  |some ks=>bif Nat.beq f.offset o&&Nat.beq (P.cellsOf f.type) ks.length then(RO P g fs (o+ks.length)).map (ks++ ·)else none
  |none=>none
def I4 (P:Program):Nat->TypeId->Option (List Kd)
 |0,_=>none
 |n+1,t=>match P.underlying t with
  |some .bool=>some [.bool]
  |some (.int k)=>some [.int k]
  |some (.slice e)=>(I4 P n e).bind λks=>bif Nat.beq (P.cellsOf e) ks.length&&Nat.blt 0 ks.length then some [.sl ks]else none
  |some (.struct fs)=>(RO P (I4 P n) fs.toList 0).bind λks=>bif Nat.beq (P.cellsOf t) ks.length then some ks else none
  |some (.array m e)=>(I4 P n e).bind λks=>bif Nat.beq (P.cellsOf e) ks.length&&Nat.beq (P.cellsOf t) (m*ks.length)then some (RC ks m)else none
  |_=>none
mutual
def okC:Kd->AC->Prop
 | .int k,a=>k.min<=Af a/\Af a<=k.max
 | .bool,_=>True
 | .sl ks,a=>(B_ a).length<=maxLen/\∀c∈B_ a,okR ks c/\AV ks c=c
 | .raw,_=>True
def okR:List Kd->List AC->Prop
 |[],_=>True
 |_::_,[]=>False
 |k::ks,a::cs=>okC k a/\okR ks cs
end
def Op (w:World) (ks:List Kd) (cs:List Value):Prop:=∃raw,AV ks raw=raw/\CL (CP (λb=>b<w.heap.size) w) raw cs/\okR ks raw
theorem Op.length {w:World} {ks:List Kd} {cs:List Value} (h:Op w ks cs):cs.length=ks.length:=by
 obtain⟨raw,D,E,_⟩:=h;rw[<-E.length,<-D,Rq]
theorem Q64:∀(D E:List Kd) (G I:List AC),G.length=D.length->AV (D++E) (G++I)=AV D G++AV E I
 |[],E,[],I,_=>rfl
 |k::D,E,a::G,I,h=>by
  simp only[ay];rw[Qtn,Qtn,Q64 D E G I (by simpa using h)];rfl
 |[],_,_::_,_,h=>by simp at h
 |_::_,_,[],_,h=>by simp at h
theorem Q1g:∀{D G:List Kd} {E I:List AC},E.length=D.length->okR D E->okR G I->okR (D++G) (E++I)
 |[],_,[],_,_,_,h=>h
 |k::D,G,a::E,I,J,h,h'=>by
  simp only[ay,okR]at h⊢;exact⟨h.1,Q1g (by simpa using J) h.2 h'⟩
 |[],_,_::_,_,h,_,_=>by simp at h
 |_::_,_,[],_,h,_,_=>by simp at h
theorem Op.append {w:World} {D E:List Kd} {G I:List Value} (h:Op w D G) (h':Op w E I):Op w (D++E) (G++I):=by
 obtain⟨J,a1,a2,a3⟩:=h;obtain⟨M,b1,b2,b3⟩:=h';have L:J.length=D.length:=by rw[<-a1,Rq]
 exact⟨J++M,by rw[Q64 _ _ _ _ L,a1,b1],a2.append b2,Q1g L a3 b3⟩
theorem Op.nil {w:World}:Op w [] []:=⟨[],rfl,trivial,by simp[okR]⟩
section
variable {H:Type} {enc:TypeId×Value->H} {P:Program} {w:World}
theorem Q5a {g:TypeId->Option (List Kd)} {m:Nat} (M:∀(t:TypeId) (ks:List Kd) (cs:List Value) (x:DataW H×List MemPlace),g t=some ks->DataW.trod enc P w 0 (λ_=>true) true m t cs=some x->Op w ks cs):
  ∀(fs:List Field) (o:Nat) (ks:List Kd) (cs:List Value),RO P g fs o=some ks->cs.length=o+ks.length->
   (∀f∈fs,∃x,DataW.trod enc P w 0 (λ_=>true) true m f.type ((cs.drop f.offset).take (P.cellsOf f.type))=some x)->Op w ks (cs.drop o)
 |[],o,ks,cs,h,G,_=>by
  simp[RO]at h;subst h;have:cs.drop o=[]:=by apply lk;simp at G;omega
  rw[this];exact Op.nil
 |f::fs,o,ks,cs,h,G,N=>by
  simp only[RO]at h;split at h
  ·rename_i D I;cases E:(Nat.beq f.offset o&&Nat.beq (P.cellsOf f.type) D.length)<;>rw[E]at h
   ·simp at h
   ·simp only[ai,bv]at h;obtain⟨S,T,rfl⟩:=h;simp only[ak]at E;have e1:f.offset=o:=af E.1;have e2:P.cellsOf f.type=D.length:=af E.2;obtain⟨x,J⟩:=N f (by simp);have O:=M _ _ _ _ I J;rw[e1,e2]at O;have U:=Q5a M fs (o+D.length) S cs T (by simp at G;omega) (λV L=>N V (by simp[L]));have:cs.drop o=(cs.drop o).take D.length++cs.drop (o+D.length):=by
     rw[<-jk,List.take_append_drop]
    rw[this];exact O.append U
  ·cases h
theorem Qym {ks:List Kd}:∀(m:Nat) (cs:List Value),cs.length=m*ks.length->(∀i,i<m->Op w ks ((cs.drop (i*ks.length)).take ks.length))->Op w (RC ks m) cs
 |0,cs,D,_=>by
  have:cs=[]:=by simpa using D
  subst this;exact Op.nil
 |m+1,cs,D,h=>by
  have E:=h 0 (by omega);simp at E;have:cs=cs.take ks.length++cs.drop ks.length:=(List.take_append_drop _ _).symm;rw[this,RC];refine E.append (Qym m _ ?_ λi G=> ?_)
  ·simp[D,iw]
  ·have:=h (i+1) (by omega);rw[jk];rw[iw,ku]at this;exact this
theorem Zw7 {ks:List Kd} {cs:List Value} {e t:TypeId} {fuel:Nat} {x:DataW H×List MemPlace} (hu:P.underlying t=some (.slice e)) (e1:P.cellsOf e=ks.length) (e2:0<ks.length)
  (hx:DataW.trod enc P w 0 (λ_=>true) true fuel t cs=some x) (ih:∀(m:Nat) (cs:List Value) (x:DataW H×List MemPlace),DataW.trod enc P w 0 (λ_=>true) true m e cs=some x->Op w ks cs):Op w [.sl ks] cs:=by
 rcases Go.Deep.open_slice hu hx with⟨rfl,_⟩|⟨a,len,cap,m,n,D,Pl,rfl,_,hl,a8,hm,_,Y⟩
 ·refine⟨[.vC ks []],rfl,⟨UV ks,trivial⟩,?_⟩;simp[okR,okC,B_]
 ·have a0:m=cap:=by simpa using hm
  subst a0
  have hex:∀i,∃(N:List Value) (raw:List AC),i<len->(w.cells? 0 (a.add (i*P.cellsOf e)) (P.cellsOf e)=some N/\AV ks raw=raw/\CL (CP (λb=>b<w.heap.size) w) raw N/\okR ks raw):=λi=>by
   by_cases I:i<len
   ·obtain⟨T,L,U⟩:=Y i (by omega);obtain⟨raw,r1,r2,r3⟩:=ih n T _ U;exact⟨T,raw,λ_=>⟨L,r1,r2,r3⟩⟩
   ·exact⟨[],[],λh=>(I h).elim⟩
  let N:Nat->List Value:=λi=>Classical.choose (hex i)
  let E:Nat->List AC:=λi=>Classical.choose (fj (hex i))
  have J:∀i,i<len->(w.cells? 0 (a.add (i*P.cellsOf e)) (P.cellsOf e)=some (N i)/\AV ks (E i)=E i/\CL (CP (λb=>b<w.heap.size) w) (E i) (N i)/\okR ks (E i)):=λi=>fj (fj (hex i));have hlen:((List.range len).map E).length=len:=by simp
  have V:∀i (Y:i<((List.range len).map E).length),((List.range len).map E)[i]=E i:=λi Y=>by simp
  have M:∀c∈(List.range len).map E,∃i,i<len/\c=E i:=λc S=>by
   simp only[bc,List.mem_range]at S;obtain⟨i,L,U⟩:=S;exact⟨i,L,U.symm⟩
  refine⟨[.vC ks ((List.range len).map E)],rfl,⟨?_,trivial⟩,?_⟩
  ·rw[CP];refine⟨some a,m,by rw[hlen],by rw[hlen];exact hl,λc S=> ?_,?_⟩
   ·obtain⟨i,L,rfl⟩:=M c S;exact(J i L).2.1
   ·by_cases h0:len=0
    ·subst h0;exact .inl rfl
    ·right;have h0:0<len:=by omega
     obtain⟨a1,r1,r2,_⟩:=J 0 h0;obtain⟨_,a2,X⟩:=World.cells?_some a1;have G:=X 0 (by omega);simp only[jd]at G;have ea:(a.add 0).add 0=a:=by simp[Addr.add]
     rw[ea,ag (by omega)]at G;have O:a.spot=none/\a.block<w.heap.size:=by
      unfold World.cell? at G;split at G
      ·rename_i hb;split at G
       ·cases G
       ·rename_i a3;refine⟨by simpa using a3,(dt.1 hb).1⟩
      ·cases G
     obtain⟨b,o,sp⟩:=a;obtain⟨rfl,hb⟩:=O;refine⟨b,o,rfl,hb,TU λi I=> ?_⟩;rw[V i I];rw[hlen]at I;obtain⟨a4,a5,a6,_⟩:=J i I;obtain⟨_,hle,a7⟩:=World.cells?_some a4;refine⟨by rw[<-a5];exact Rq _ _,Wz _ (N i) b _ a6 λj y hj=> ?_⟩;have a9:j<(N i).length:=(fx.1 hj).1;have:=a7 j (by omega);rw[<-hj,<-this,e1];congr 1;unfold Addr.add;by_cases L:i*ks.length=0<;>by_cases U:j=0<;>simp[L,U,dm]
  ·simp only[okR,okC,B_,and_true];refine⟨by rw[hlen];omega,λc S=> ?_⟩;obtain⟨i,L,rfl⟩:=M c S;exact⟨(J i L).2.2.2,(J i L).2.1⟩
theorem RD:∀(n:Nat) (m:Nat) (t:TypeId) (ks:List Kd) (cs:List Value) (x:DataW H×List MemPlace),I4 P n t=some ks->DataW.trod enc P w 0 (λ_=>true) true m t cs=some x->Op w ks cs
 |0,_,_,_,_,_,h,_=>by simp[I4]at h
 |n+1,m,t,ks,cs,x,h,J=>by
  unfold I4 at h;split at h
  ·rename_i I;simp at h;subst h;obtain⟨b,rfl,_⟩:=DataW.trod_bool I J;exact⟨[.bool b],rfl,⟨Qvi _,trivial⟩,by simp[okR,okC]⟩
  ·rename_i k I;simp at h;subst h;obtain⟨i,rfl,_,U⟩:=DataW.trod_int I J;exact⟨[.int k i],rfl,⟨He _ _,trivial⟩,by simpa [okR,okC,Af,Lit.wf]using U⟩
  ·rename_i e I;simp only[de]at h;obtain⟨G,L,D⟩:=h;cases E:(Nat.beq (P.cellsOf e) G.length&&Nat.blt 0 G.length)<;>rw[E]at D
   ·simp at D
   ·simp at D;subst D;simp only[ak]at E;have e1:=af E.1;have e2:0<G.length:=by have:=E.2;simp[Nat.blt]at this;omega
    exact Zw7 I e1 e2 J λm cs x=>RD n m e G cs x L
  ·rename_i fs I;obtain⟨xs,N,rfl,_,hlen,O,hf⟩:=DataW.trod_struct I J;simp only[de]at h;obtain⟨G,L,D⟩:=h;cases E:Nat.beq (P.cellsOf t) G.length<;>rw[E]at D
   ·simp at D
   ·simp at D;subst D;have e:=af E;have := Q5a (λt ks cs x => RD n N t ks cs x) fs.toList 0 G cs L (by omega) (λf S => by
     obtain⟨i,T⟩:=List.mem_iff_getElem?.1 S;have M:fs[i]? =some f:=by simpa using T
     have:=hf i f M;have V:i<fs.size:=by
      have:=(dt.1 M).1;exact this
     rw[this,ag (by omega)];exact⟨_,rfl⟩)
    simpa using this
  ·rename_i k e I;obtain⟨xs,N,rfl,_,hlen,O,hf⟩:=DataW.trod_array I J;simp only[de]at h;obtain⟨G,L,D⟩:=h;cases E:(Nat.beq (P.cellsOf e) G.length&&Nat.beq (P.cellsOf t) (k*G.length))<;>rw[E]at D
   ·simp at D
   ·simp at D;subst D;simp only[ak]at E;have e1:=af E.1;have e2:=af E.2;refine Qym k cs (by omega) λi T=> ?_;have:=hf i T;rw[e1]at this;refine RD n N e G _ (xs[i]'(by omega)) L ?_;rw[this,ag]
  ·cases h
end
structure Ar where
 agg:Bool
 ks:List Kd
 raw:List AC
def Ar.sh (a:Ar):Bool×List Kd:=(a.agg,a.ks)
def Ar.ok (a:Ar):Prop:=okR a.ks a.raw/\AV a.ks a.raw=a.raw
def Ar.tv (a:Ar):TV:= .v a.agg (AV a.ks a.raw)
def shK (P:Program) (t:TypeId):Option (Bool×List Kd):=match P.underlying t with
 |some (.struct _)=>(I4 P 8 t).map λks=>(true,ks)
 |some (.array _ _)=>(I4 P 8 t).map λks=>(true,ks)
 |some .bool=>some (false,[.bool])
 |some (.int k)=>some (false,[.int k])
 |some (.slice _)=>(I4 P 8 t).map λks=>(false,ks)
 |_=>none
section
variable {H:Type} {enc:TypeId×Value->H} {P:Program} {W:World}
theorem Zxs {t:TypeId} {v:Value} {d:DataW H} {p:List MemPlace} {r:Reach} {O:Nat} {sh:Bool×List Kd} (D:shK P t=some sh) (I:Value.okWide P W r O t v)
  (h:DataW.Trod enc P W 0 (λ_=>true) true t v d p):∃a:Ar,a.sh=sh/\a.ok/\∀(ρ:Env),ρ.im=(λb=>b<W.heap.size)->TVR ρ W a.tv v:=by
 have agg:∀(ks:List Kd) (cs:Array Value),I4 P 8 t=some ks->v= .agg cs->∃a:Ar,a.sh=(true,ks)/\a.ok/\∀(ρ:Env),ρ.im=(λb=>b<W.heap.size)->TVR ρ W a.tv v:=by
  rintro ks cs G rfl;obtain⟨fuel,hf⟩:=h;obtain⟨raw,J,L,M⟩:=RD 8 fuel t ks _ _ G hf;refine⟨⟨true,ks,raw⟩,rfl,⟨M,J⟩,λρ N=>⟨cs,rfl,?_⟩⟩;rw[J];exact L.mono λa _ x S=>Kc (by rw[N];exact S)
 unfold shK at D;split at D
 ·rename_i fs E;simp only[bv]at D;obtain⟨ks,G,rfl⟩:=D;obtain⟨cs,rfl,_⟩:=okWide_struct E I;exact agg ks cs G rfl
 ·rename_i k e E;simp only[bv]at D;obtain⟨ks,G,rfl⟩:=D;obtain⟨cs,rfl,_⟩:∃cs,v= .agg cs/\cs.size=P.cellsOf t:=by
   simp only[Value.okWide,E]at I;obtain⟨cs,T,U,_⟩:=I;exact⟨cs,T,U⟩
  exact agg ks cs G rfl
 ·rename_i E;simp at D;subst D;obtain⟨n,rfl,_,_⟩:=open_bool E I h;exact⟨⟨false,[.bool],[.bool n]⟩,rfl,⟨by simp[okR,okC],rfl⟩,λρ _=>TVR.mkBool n⟩
 ·rename_i k E;simp at D;subst D;obtain⟨n,rfl,_,_,V⟩:=open_int E I h;exact⟨⟨false,[.int k],[.int k n]⟩,rfl,⟨by simpa [okR,okC,Af,Lit.wf]using V,rfl⟩,λρ _=>TVR.mkInt k n⟩
 ·rename_i e E;simp only[bv]at D;obtain⟨ks,G,rfl⟩:=D;obtain⟨Y,len,cap,rfl⟩:=okWide_slice E I;obtain⟨fuel,hf⟩:=h;obtain⟨raw,J,L,M⟩:=RD 8 fuel t ks _ _ G hf;have X:raw.length=1:=by rw[L.length];simp[Value.cells]
  match raw,X with
  |[a],_=>
   refine⟨⟨false,ks,[a]⟩,rfl,⟨M,J⟩,λρ N=>⟨a,J,?_⟩⟩;have:=L.1;exact Kc (by rw[N];simpa [Value.cells]using this)
 ·cases D
theorem Q2f {r:Reach} {b0:Nat}:∀(I:List TypeId) (E:List Value) (M:List (DataW H)) (p:List MemPlace) (D:List (Bool×List Kd)),I.map (shK P)=D.map some->
  (∀(j:Nat) (t:TypeId) (v:Value),I[j]? =some t->E[j]? =some v->Value.okWide P W r b0 t v)->DataW.TrodAll enc P W 0 (λ_=>true) true I E M p->
  ∃as:List Ar,as.map Ar.sh=D/\(∀a∈as,a.ok)/\E.length=as.length/\∀(i:Nat) (a:Ar) (x:Value),as[i]? =some a->E[i]? =some x->∀(ρ:Env),ρ.im=(λb=>b<W.heap.size)->TVR ρ W a.tv x
 |[],E,M,p,D,G,_,h=>by
  obtain⟨rfl,rfl,rfl⟩:=trodAll_nil h;cases D with
  |nil=>exact⟨[],rfl,by simp,rfl,by simp⟩
  |cons=>simp at G
 |t::I,E,M,p,D,G,V,h=>by
  obtain⟨v,N,d,O,a,b,rfl,rfl,rfl,J,L⟩:=trodAll_cons h;cases D with
  |nil=>simp at G
  |cons sh D=>
   simp only[bm,ju]at G;obtain⟨as,e1,e2,e3,X⟩:=Q2f I N O b D G.2 (λj t v Y S=>V (j+1) t v (by simpa using Y) (by simpa using S)) L;obtain⟨a,ha,T,hp⟩:=Zxs G.1 (V 0 t v rfl rfl) J;refine⟨a::as,by simp[ha,e1],?_,by simp[e3],?_⟩
   ·intro x U;rcases ao.1 U with rfl|U
    ·exact T
    ·exact e2 x U
   ·intro i a' x J L;cases i with
    |zero=>simp at J L;subst J;subst L;exact hp
    |succ i=>exact X i a' x (by simpa using J) (by simpa using L)
theorem Q30 (O:laidOutB P=true) {S:World} (hb:Below W.heap.size W S) {sp:Nat->Bool}:∀(E:List TypeId) (I:List Value) (J:List (DataW H)) (p:List MemPlace),
  E.all (λt=>P.readableRec t&&decide (t<P.types.size))=true->(∀x∈p,x.block<W.heap.size/\sp x.block=true)->DataW.TrodAll enc P W 0 (λ_=>true) true E I J p->
  DataW.TrodAll enc P S 0 sp true E I J p
 |[],I,J,p,_,_,h=>by
  obtain⟨rfl,rfl,rfl⟩:=trodAll_nil h;exact rfl
 |t::E,I,J,p,L,D,h=>by
  obtain⟨v,M,d,N,a,b,rfl,rfl,rfl,T,U⟩:=trodAll_cons h;simp only[List.all_cons,ak,cz]at L;refine⟨a,b,WideElems.Trod_stays O L.1.1 L.1.2 T (λx G=>hb.same (D x (by simp[G])).1) (λx G=>(D x (by simp[G])).2),?_,rfl⟩;exact Q30 O hb E M N b L.2 (λx G=>D x (by simp[G])) U
theorem Zp9 {f:Func} {s:ChangeSpec} {apart fresh handsOn again:Bool} {W L:World} {args:Array Value} {v:Value} {M N:List (DataW H)} {before pa pv:List MemPlace}
  (T:DataW.Whole enc P f.params.toList s.vars apart W args.toList M N before)
  (J:∀(b:Nat) (sp:Nat->Bool) (V:Bool),DataW.TrodAll enc P L b sp V f.resultTypes.toList (v.resultList f.resultTypes.size) (s.fn H (M++N)).results [])
  (D:∀sp:Nat->Bool,(∀p∈before,sp p.block=true)->DataW.TrodAll enc P L 0 sp true f.params.toList args.toList (s.fn H (M++N)).args pa)
  (E:∀sp:Nat->Bool,(∀p∈before,sp p.block=true)->DataW.TrodVars enc P L sp s.vars (s.fn H (M++N)).vars pv)
  (I:before=pa++pv) (hb:Below W.heap.size W L)
  (U:∀(j:Nat) (t:TypeId) (r:Value),f.resultTypes[j]? =some t->(v.resultList f.resultTypes.size)[j]? =some r->Value.okWide P L .any 0 t r):
  s.post enc P f apart fresh handsOn again W args v L:=by
 have O:∀p∈before,p.block<W.heap.size:=λp G=>T.lt p G;have hold:∀p∈before,(λb=>decide (b<W.heap.size)) p.block=true:=λp G=>by simpa using O p G
 refine⟨M,N,before,[],pa,pv,T,J _ _ _,D _ hold,E _ hold,World.keptBut_mono (λp G=>⟨G,?_⟩) (hb.frame (· ∈before)),λ_=> ?_⟩
 ·rw[I,ba]at G;exact Or.inr G
 ·obtain⟨_,_,_,_,_,X,Y⟩:=T;refine⟨U,_,_,([]++pa)++pv,⟨[]++pa,pv,trodAll_append (D _ (λ_ _=>rfl)) (J _ _ _),E _ (λ_ _=>rfl),rfl,?_,?_⟩,?_⟩
  ·intro b off G;have S:MemPlace.cell b off∈before:=by rw[I];simpa using G
   rw[hb.frozen (O _ S)];exact X b off S
  ·intro ha;have:=Y ha;rw[I]at this;simpa using this
  ·intro p G _;rw[I];simpa using G
theorem Z5z {f:FuncId} {M:Func} {s:ChangeSpec} {apart fresh handsOn again:Bool} {tb:TypeId} {shs:List (Bool×List Kd)} {args:Array Value} {J gs:List (DataW H)} {before:List MemPlace} {base:Nat}
  (E:s.vars=[]) (hl:laidOutB P=true) (a0:M.resultTypes= #[tb]) (a1:P.underlying tb=some .bool)
  (N:M.params.toList.all (λt=>P.readableRec t&&decide (t<P.types.size))=true) (a8:M.params.toList.map (shK P)=shs.map some)
  (O:∀l:List (DataW H),l.length=shs.length->s.fn H l={results:=[.lit (.bool true)],args:=l})
  (a2:∀as:List Ar,as.map Ar.sh=shs->(∀a∈as,a.ok)->PCallM P f (as.map Ar.tv) ⟨[],[]⟩ (.v false [.bool true]) ⟨[],[]⟩)
  (a3:∀(j:Nat) (t:TypeId) (v:Value),M.params[j]? =some t->args[j]? =some v->Value.okWide P W .any base t v)
  (hW:DataW.Whole enc P M.params.toList s.vars apart W args.toList J gs before):
  Calls P f args W λe W'=>∃v,e= .returned v/\s.post enc P M apart fresh handsOn again W args v W':=by
 have a4:=hW;obtain⟨p,q,hA,hV,rfl,b2,b3⟩:=hW;rw[E]at hV;obtain⟨rfl,rfl⟩:=trodVars_none hV;have a9:∀x∈p++[],x.block<W.heap.size:=λx X=>a4.lt x X;obtain⟨as,e1,e2,e3,e4⟩:=Q2f (r:= .any) (b0:=base) M.params.toList args.toList J p shs a8 (λj t v ht hv=>a3 j t v (by simpa using ht) (by simpa using hv)) hA;have b1:J.length=shs.length:=by
  have:∀(ts:List TypeId) (vs:List Value) (J:List (DataW H)) (p:List MemPlace),DataW.TrodAll enc P W 0 (λ_=>true) true ts vs J p->J.length=vs.length:=by
   intro ts;induction ts with
   |nil=>intro vs J p h;obtain⟨rfl,rfl,rfl⟩:=trodAll_nil h;rfl
   |cons t ts ih=>
    intro vs J p h;obtain⟨v,b4,d,b5,a,b,rfl,rfl,rfl,h1,h2⟩:=trodAll_cons h;simp[ih _ _ _ h2]
  rw[this _ _ _ _ hA,e3,<-e1,ac]
 have S:=O (J++[]) (by simpa using b1);have a5:RelE (FM (λb=>b<W.heap.size) W ⟨λ_=>0,λ_=> .slice none 0 0,λ_=>0,λb=>b<W.heap.size⟩ []) (as.map Ar.tv) [] [] ⟨λ_=>0,λ_=> .slice none 0 0,λ_=>0,λb=>b<W.heap.size⟩ args.toList.toArray W:=by
  refine⟨by simpa using e3.symm,λi v hi=> ?_,λv hv=> ?_,λk b D=>by simp[Ac]at D,λk b D=>by simp[Ac]at D,λk k' b b' D=>by simp[Ac]at D,λid r N=>by simp[Ac]at N,
   λid id' r r' g N=>by simp[Ac]at N,λk b id r D=>by simp[Ac]at D,λb hb=>⟨hb,λk bo D=>by simp[Ac]at D,λid r N=>by simp[Ac]at N⟩,Fr.refl _ _,λ_ h=>h,λ_ h=>h,λb h=> .inl h,λk b D=>by simp[FM,Ac]at D⟩
  ·simp only[d7,bv]at hi;obtain⟨a,T,rfl⟩:=hi;have L:i<args.toList.length:=by rw[e3];exact(fx.1 T).1
   have a6:i<args.size:=by simpa using L
   have e:args.toList.toArray.getD i undef=args.toList[i]:=by simp[Array.getD,a6]
   rw[e];exact e4 i a _ T (ag L) _ rfl
  ·simp only[bc]at hv;obtain⟨a,T,rfl⟩:=hv;intro c I;obtain⟨i,hi⟩:=List.getElem?_of_mem T;have L:i<args.toList.length:=by rw[e3];exact(fx.1 hi).1
   have b6:=e4 i a _ hi (ag L) ⟨λ_=>0,λ_=> .slice none 0 0,λ_=>0,λb=>b<W.heap.size⟩ rfl;have U:∀(ks:List Kd) (cs:List AC) (j:Nat),∀c∈Fh ks cs j,AC.calm c=true:=by
    intro ks;induction ks with
    |nil=>intro cs j c I;simp[Fh]at I
    |cons k ks ih=>
     intro cs j c I;simp only[Fh,ao]at I;rcases I with rfl|I
     ·cases k<;>try rfl
      generalize nth AC.vD cs j=b;cases b<;>rfl
     ·exact ih cs _ c I
   have:=U a.ks a.raw 0 c I;cases c<;>first|trivial|(simp[AC.calm]at this)
 have G:=a2 as e1 e2 _ W _ args.toList a5;have V:args.toList.toArray=args:=by simp
 rw[V]at G;refine G.mono ?_;rintro e W' ⟨x,ρ',rfl,Y⟩;have hb:Below W.heap.size W W':=⟨Y.fr.os,Y.fr.tape,Y.fr.output,Y.fr.size,λk D=>Y.fr.block k D⟩;have X:x= .bool true:=by
  have:TVR ρ' W' (.c (.bool true)) x:=by simpa using Y.tv 0 _ rfl
  obtain⟨a,T,I⟩:=this;simp at T;subst T;simpa [CC,CP]using I
 subst X;refine⟨_,rfl,Zp9 (pa:=p) (pv:=[]) a4 ?_ ?_ ?_ rfl hb (ok_one a0 rfl (okWide_bool_mk a1 true))⟩
 ·intro b sp hd;rw[S,a0];exact trodAll_mk1 (shut_bool a1 true)
 ·intro sp a7;rw[S];simp only[jv];exact Q30 hl hb _ _ _ _ N (λx X=>⟨a9 x (by simp[X]),a7 x (by simp[X])⟩) hA
 ·intro sp a7;rw[S,E];exact rfl
end
theorem Ti:∀{l:List (Nat×Spec)} {k:Nat} {b:Spec},Jh l k=some b->(k,b)∈l
 |[],_,_,h=>by simp[Jh]at h
 |(j,c)::l,k,b,h=>by
  simp only[Jh]at h;cases hb:Nat.beq j k<;>rw[hb]at h
  ·simp only[aq]at h;exact List.mem_cons_of_mem _ (Ti h)
  ·simp at h;subst h;rw[af hb];simp
def Ms (P:Program) (f:FuncId):Bool:=match P.funcs[f]? with
 |some fn=> !(fn.name== "runtime.NumGoroutine")&&fn.body.isSome
 |none=>false
theorem Ud {P:Program} {f:FuncId} (h:Ms P f=true):Q7 P f:=by
 unfold Ms at h;split at h
 ·rename_i D hf;simp only[ak,ig]at h;exact⟨D,hf,h.1,by cases hb:D.body<;>simp_all⟩
 ·cases h
def An (P:Program) (p:Nat×Spec):Prop:=SpecRight P p.1 p.2
def AllOK (P:Program):List (Nat×Spec)->Prop
 |[]=>True
 |p::l=>An P p/\AllOK P l
theorem AllOK.mem {P:Program}:∀{l:List (Nat×Spec)},AllOK P l->∀p∈l,An P p
 |_::l,h,p,D=>by
  rcases ao.1 D with rfl|D
  ·exact h.1
  ·exact AllOK.mem h.2 p D
theorem Ap {P:Program} {C:Cfg} {l:List (Nat×Spec)} (G:C.spec=Jh l) (h:AllOK P l) (D:C.ro=λ_=>false:=by rfl):Aj P C:=by
 refine⟨λf g E=> ?_,λf g _ h=> ?_⟩
 ·rw[G]at E;exact h.mem _ (Ti E)
 ·rw[D]at h;cases h
def AllRo (rs:List Nat):List (Nat×Spec)->Prop
 |[]=>True
 |p::l=>(AW rs p.1=false\/Va p.2)/\AllRo rs l
theorem AllRo.mem {rs:List Nat}:∀{l:List (Nat×Spec)},AllRo rs l->∀p∈l,AW rs p.1=false\/Va p.2
 |_::l,h,p,D=>by
  rcases ao.1 D with rfl|D
  ·exact h.1
  ·exact AllRo.mem h.2 p D
abbrev V:=IntKind.wrap .i64
theorem Ho {P:Program} {C:Cfg} {l:List (Nat×Spec)} {rs:List Nat} (I:C.spec=Jh l) (h:AllOK P l) (E:C.ro=λf=>AW rs f) (J:AllRo rs l):Aj P C:=by
 refine⟨λf g D=> ?_,λf g D G=> ?_⟩
 ·rw[I]at D;exact h.mem _ (Ti D)
 ·rw[I]at D;rw[E]at G;rcases J.mem _ (Ti D)with h|h
  ·dsimp only at h G;rw[G]at h;cases h
  ·exact h
theorem Ae {x:Int} (h: -9223372036854775808<=x/\x<=9223372036854775807:=by omega):V x=x:=by
 simp[V,IntKind.wrap,IntKind.signed,IntKind.bits];omega
section loops
variable {step:List AC->Option (Nat×List AC)}
theorem Quh:∀{n:Nat} {vars:List AC} {o:Nat×List AC},C_ step n vars=some o->C_ step (n+1) vars=some o
 |0,_,_,h=>by simp[C_]at h
 |n+1,vars,o,h=>by
  rw[C_]at h⊢;simp only[de]at h⊢;obtain⟨q,G,D⟩:=h;refine⟨q,G,?_⟩;split at D
  ·rename_i E;rw[aa E];exact Quh D
  ·rename_i E;rw[ab E];exact D
theorem Q6n {n m:Nat} {vars:List AC} {o:Nat×List AC} (D:n<=m) (h:C_ step n vars=some o):C_ step m vars=some o:=by
 induction D with
 |refl=>exact h
 |step _ E=>exact Quh E
theorem Zxf {n m:Nat} {vars:List AC} {o D:Nat×List AC} (h:C_ step n vars=some o) (h':C_ step m vars=some D):o=D:=by
 have G:=Q6n (Nat.le_max_left n m) h;have E:=Q6n (Nat.le_max_right n m) h';rw[G]at E;simpa using E
open Classical in
noncomputable def Am (step:List AC->Option (Nat×List AC)) (vars:List AC):Option (Nat×List AC):=
 if h:∃n o,C_ step n vars=some o then C_ step (Classical.choose h) vars else none
theorem QC {vars:List AC} {o:Nat×List AC} (h:Am step vars=some o):∃n,C_ step n vars=some o:=by
 unfold Am at h;split at h
 ·exact⟨_,h⟩
 ·simp at h
theorem Qrv {n:Nat} {vars:List AC} {o:Nat×List AC} (h:C_ step n vars=some o):Am step vars=some o:=by
 unfold Am;have E:∃n o,C_ step n vars=some o:=⟨n,o,h⟩;rw[kz E];obtain⟨G,D⟩:=fj E;rw[D,Zxf h D]
theorem Rc (vars:List AC):Am step vars=(step vars).bind λo=>if o.1=0 then Am step o.2 else some o:=by
 cases I:step vars with
 |none=>
  cases E:Am step vars with
  |none=>rfl
  |some o=>
   obtain⟨n,D⟩:=QC E;cases n with
   |zero=>simp[C_]at D
   |succ n=>simp[C_,I]at D
 |some q=>
  simp only[ah];by_cases G:q.1=0
  ·rw[aa G];cases E:Am step q.2 with
   |none=>
    cases J:Am step vars with
    |none=>rfl
    |some o=>
     obtain⟨n,D⟩:=QC J;cases n with
     |zero=>simp[C_]at D
     |succ n=>
      simp only[C_,I,ah,aa G]at D;rw[Qrv D]at E;cases E
   |some o=>
    obtain⟨n,D⟩:=QC E;exact Qrv (n:=n+1) (by simp only[C_,I,ah,aa G];exact D)
  ·rw[ab G];exact Qrv (n:=1) (by simp only[C_,I,ah,ab G])
end loops
theorem KJ:∀(c:Code) (b blk:Nat) (body:Code),(blk,body)∈AX c b->(∀p∈AX body blk,p∈AX c b)/\(∀p∈Bh body,p∈Bh c)/\(∀p∈Br body blk,p∈Br c b)
 | .seq x y,b,blk,body,h=>by
  simp only[AX,ba]at h;rcases h with h|h
  ·obtain⟨E,G,I⟩:=KJ x b blk body h;exact⟨λp D=>by simp[AX,E p D],λp D=>by simp[Bh,G p D],λp D=>by simp[Br,I p D]⟩
  ·obtain⟨E,G,I⟩:=KJ y b blk body h;exact⟨λp D=>by simp[AX,E p D],λp D=>by simp[Bh,G p D],λp D=>by simp[Br,I p D]⟩
 | .cond c x y,b,blk,body,h=>by
  simp only[AX,ba]at h;rcases h with h|h
  ·obtain⟨E,G,I⟩:=KJ x b blk body h;exact⟨λp D=>by simp[AX,E p D],λp D=>by simp[Bh,G p D],λp D=>by cases c<;>simp[Br,I p D]⟩
  ·obtain⟨E,G,I⟩:=KJ y b blk body h;exact⟨λp D=>by simp[AX,E p D],λp D=>by simp[Bh,G p D],λp D=>by cases c<;>simp[Br,I p D]⟩
 | .block id x,b,blk,body,h=>by
  simp only[AX]at h;obtain⟨E,G,I⟩:=KJ x b blk body h;exact⟨λp D=>by simp[AX,E p D],λp D=>by simp[Bh,G p D],λp D=>by simp[Br,I p D]⟩
 | .loop x,b,blk,body,h=>by
  simp only[AX,ao,dc]at h;rcases h with⟨rfl,rfl⟩|h
  ·exact⟨λp D=>by rw[IM _ _ b]at D;simp[AX,D],λp D=>by simp[Bh,D],λp D=>by rw[Jg _ _ b]at D;simp[Br,D]⟩
  ·obtain⟨E,G,I⟩:=KJ x b blk body h;exact⟨λp D=>by simp[AX,E p D],λp D=>by simp[Bh,G p D],λp D=>by simp[Br,I p D]⟩
 | .skip,_,_,_,h=>by simp[AX]at h
 | .region _ _ _,_,_,_,h=>by simp[AX]at h
 | .exit _,_,_,_,h=>by simp[AX]at h
 | .ret,_,_,_,h=>by simp[AX]at h
 | .rangeFunc _ _ _ _,_,_,_,h=>by simp[AX]at h
 | .scope x,b,blk,body,h=>by
  simp only[AX]at h;obtain⟨E,G,I⟩:=KJ x b blk body h;exact⟨λp D=>by simp[AX,E p D],λp D=>by simp[Bh,G p D],λp D=>by simp[Br,I p D]⟩
 | .label _,_,_,_,h=>by simp[AX]at h
 | .goto _,_,_,_,h=>by simp[AX]at h
 | .refuse _,_,_,_,h=>by simp[AX]at h
theorem Kr:∀(c:Code) (b id:Nat) (body:Code),(id,body)∈Bh c->(∀p∈AX body id,p∈AX c b)/\(∀p∈Bh body,p∈Bh c)/\(∀p∈Br body id,p∈Br c b)
 | .seq x y,b,id,body,h=>by
  simp only[Bh,ba]at h;rcases h with h|h
  ·obtain⟨E,G,I⟩:=Kr x b id body h;exact⟨λp D=>by simp[AX,E p D],λp D=>by simp[Bh,G p D],λp D=>by simp[Br,I p D]⟩
  ·obtain⟨E,G,I⟩:=Kr y b id body h;exact⟨λp D=>by simp[AX,E p D],λp D=>by simp[Bh,G p D],λp D=>by simp[Br,I p D]⟩
 | .cond c x y,b,id,body,h=>by
  simp only[Bh,ba]at h;rcases h with h|h
  ·obtain⟨E,G,I⟩:=Kr x b id body h;exact⟨λp D=>by simp[AX,E p D],λp D=>by simp[Bh,G p D],λp D=>by cases c<;>simp[Br,I p D]⟩
  ·obtain⟨E,G,I⟩:=Kr y b id body h;exact⟨λp D=>by simp[AX,E p D],λp D=>by simp[Bh,G p D],λp D=>by cases c<;>simp[Br,I p D]⟩
 | .block j x,b,id,body,h=>by
  simp only[Bh,ao,dc]at h;rcases h with⟨rfl,rfl⟩|h
  ·exact⟨λp D=>by rw[IM _ _ b]at D;simp[AX,D],λp D=>by simp[Bh,D],λp D=>by rw[Jg _ _ b]at D;simp[Br,D]⟩
  ·obtain⟨E,G,I⟩:=Kr x b id body h;exact⟨λp D=>by simp[AX,E p D],λp D=>by simp[Bh,G p D],λp D=>by simp[Br,I p D]⟩
 | .loop x,b,id,body,h=>by
  simp only[Bh]at h;obtain⟨E,G,I⟩:=Kr x b id body h;exact⟨λp D=>by simp[AX,E p D],λp D=>by simp[Bh,G p D],λp D=>by simp[Br,I p D]⟩
 | .skip,_,_,_,h=>by simp[Bh]at h
 | .region _ _ _,_,_,_,h=>by simp[Bh]at h
 | .exit _,_,_,_,h=>by simp[Bh]at h
 | .ret,_,_,_,h=>by simp[Bh]at h
 | .rangeFunc _ _ _ _,_,_,_,h=>by simp[Bh]at h
 | .scope x,b,id,body,h=>by
  simp only[Bh]at h;obtain⟨E,G,I⟩:=Kr x b id body h;exact⟨λp D=>by simp[AX,E p D],λp D=>by simp[Bh,G p D],λp D=>by simp[Br,I p D]⟩
 | .label _,_,_,_,h=>by simp[Bh]at h
 | .goto _,_,_,_,h=>by simp[Bh]at h
 | .refuse _,_,_,_,h=>by simp[Bh]at h
structure FnOK (P : Program) (C : Cfg) (f : FuncId) : Prop where
 l:∀p∈IX P f,∀sk g,C.loops p.1=some (sk,g)->JS P (.loop p.2) sk g
 b:∀p∈KK P f,∀sk g,C.blocks p.1=some (sk,g)->JS P (.block p.1 p.2) sk g
 c:∀p∈SJ P f,∀sk g,C.conds p.1=some (sk,g)->JS P (.cond (.tmp p.1) p.2.2.1 p.2.2.2) sk g
theorem FnOK.bare {P:Program} {C:Cfg} {f:FuncId} (D:C.loops=λ_=>none) (E:C.blocks=λ_=>none) (G:C.conds=λ_=>none):FnOK P C f:=
 ⟨λp _ sk g h=>by simp[D]at h,λp _ sk g h=>by simp[E]at h,λp _ sk g h=>by simp[G]at h⟩
theorem FnOK.sub {P:Program} {C:Cfg} {f:FuncId} (h:FnOK P C f) {c:Code} (E:KV P f=some c):SubOK P C c 0:=
 ⟨λp D=>h.l p (by unfold IX;rw[E];exact D),λp D=>h.b p (by unfold KK;rw[E];exact D),λp D=>h.c p (by unfold SJ;rw[E];exact D)⟩
theorem Z2p {P:Program} {f blk:Nat} {c:Code} (h:Ac (IX P f) blk=some c):A8 P f blk=c:=by unfold A8;rw[h]
theorem VI {α:Type}:∀{l:List (Nat×α)} {k:Nat} {b:α},B0 (l.map (·.1))=true->(k,b)∈l->Ac l k=some b
 |[],_,_,_,h=>by simp at h
 |(j,c)::l,k,b,E,h=>by
  have D:=Js.1 E;simp only[bm,kh]at D;simp only[Ac];rcases ao.1 h with h|h
  ·simp at h;obtain⟨rfl,rfl⟩:=h;simp
  ·have:j≠k:=by rintro rfl;exact D.1 (bc.2 ⟨(j,b),h,rfl⟩)
   rw[KL this];exact VI (Js.2 D.2) h
theorem FnOK.subLoop {P:Program} {C:Cfg} {f:FuncId} (h:FnOK P C f) {blk:Nat} {body:Code} (E:(blk,body)∈IX P f):SubOK P C body blk:=by
 unfold IX at E;split at E
 ·rename_i c G;obtain⟨I,J,L⟩:=KJ c 0 blk body E;exact⟨λp D=>h.l p (by unfold IX;rw[G];exact I p D),λp D=>h.b p (by unfold KK;rw[G];exact J p D),λp D=>h.c p (by unfold SJ;rw[G];exact L p D)⟩
 ·simp at E
theorem FnOK.subBlock {P:Program} {C:Cfg} {f:FuncId} (h:FnOK P C f) {id:Nat} {body:Code} (E:(id,body)∈KK P f):SubOK P C body id:=by
 unfold KK at E;split at E
 ·rename_i c G;obtain⟨I,J,L⟩:=Kr c 0 id body E;exact⟨λp D=>h.l p (by unfold IX;rw[G];exact I p D),λp D=>h.b p (by unfold KK;rw[G];exact J p D),λp D=>h.c p (by unfold SJ;rw[G];exact L p D)⟩
 ·simp at E
theorem FnOK.loop {P:Program} {C:Cfg} {f:FuncId} (h:FnOK P C f) (E:Aj P C) (M:∀t∈C.eqOk,P.stoodInHeld t=false) (I:P.follows .mixedOrders=true) {L blk:Nat} {sk:Sk} {D:List (Ex×Sk)}
  (T:B0 ((IX P f).map (·.1))=true) (N:sk.okB=true):FnOK P (C.loop blk sk D (Am (A9 P C L blk (A8 P f blk) sk D))) f:=by
 refine⟨λp O S g J=> ?_,h.b,h.c⟩;simp only[Cfg.loop]at J;cases hb:Nat.beq p.1 blk<;>rw[hb]at J
 ·exact h.l p O S g J
 ·have e:=af hb;subst e;simp only[ai,av,dc]at J;obtain⟨rfl,rfl⟩:=J;have G:=Z2p (VI (k:=p.1) (b:=p.2) T O);rw[G];exact Zyn E M I N (h.subLoop O) λvars o U=>QC U
theorem FnOK.block {P:Program} {C:Cfg} {f:FuncId} (h:FnOK P C f) (E:Aj P C) (M:∀t∈C.eqOk,P.stoodInHeld t=false) (I:P.follows .mixedOrders=true) {L id:Nat} {sk:Sk} {D:List (Ex×Sk)}
  (S:B0 ((KK P f).map (·.1))=true):FnOK P (C.block id sk D (Q8n P C L id (Qa6 P f id) sk D)) f:=by
 refine⟨h.l,λp N O g J=> ?_,h.c⟩;simp only[Cfg.block]at J;cases hb:Nat.beq p.1 id<;>rw[hb]at J
 ·exact h.b p N O g J
 ·have e:=af hb;subst e;simp only[ai,av,dc]at J;obtain⟨rfl,rfl⟩:=J;have G:Qa6 P f p.1=p.2:=by unfold Qa6;rw[VI (k:=p.1) (b:=p.2) S N]
  rw[G];exact Z4c E M I (h.subBlock N) λvars o T=>T
theorem Qqz {P:Program} {C:Cfg} {f:FuncId} {L:Nat} {sig D:Sk} (M:Ms P f=true) (h:FnOK P C f) (E:Aj P C) (J:∀t∈C.eqOk,P.stoodInHeld t=false) (I:P.follows .mixedOrders=true)
  (N:sig.okB=true) (O:D.okB=true):An P (f,Ad sig D (Ao P C L f sig D)):=
 Ztv E J I (Ud M) N O (λ_ G=>h.sub G) λ_ _ S=>S
theorem Ycu {P:Program} {C:Cfg} {f:FuncId} {L:Nat} {sig D:Sk} (_:Ms P f=true) (h:FnOK P C f) (E:Aj P C) (M:∀t∈C.eqOk,P.stoodInHeld t=false) (I:P.follows .mixedOrders=true)
  (N:sig.okB=true) (O:D.okB=true) (args:List TV) (v:TV) (mem':Mem) (J:(Ad sig D (Ao P C L f sig D) (TV×Mem) args ⟨[],[]⟩ λv m=>some (v,m))=some (v,mem')):PCallM P f args ⟨[],[]⟩ v mem':=
 Q5f E M I N O (λ_ G=>h.sub G) (λ_ _ S=>S) J
theorem Z8k {P:Program} {f:FuncId} {sig D:Sk}:An P (f,Ad sig D λ_=>none):=by
 refine⟨Qks,λargs mem v mem' h=> ?_⟩;obtain⟨aB,aC⟩:=mem;simp only[Ad]at h;obtain⟨_,h⟩:=Ck h;split at h
 ·simp at h
 ·simp at h
section
variable {H α:Type}
theorem Z74 (F G:List (DataW H)->α) (h:∀a b c d e,F [a,b,c,d,e]=G [a,b,c,d,e]) (l:List (DataW H)) (D:l.length=5):F l=G l:=by
 match l,D with
 |[a,b,c,d,e],_=>exact h a b c d e
end
theorem Rs {l:List Ar} {s:Bool×List Kd} {D:List (Bool×List Kd)} (h:l.map Ar.sh=s::D):∃a E,l=a::E/\a.agg=s.1/\a.ks=s.2/\E.map Ar.sh=D:=by
 cases l with
 |nil=>simp at h
 |cons a E=>
  simp only[bm,ju]at h;refine⟨a,E,rfl,?_,?_,h.2⟩
  ·rw[<-h.1];rfl
  ·rw[<-h.1];rfl
theorem Zty {l:List Ar} (h:l.map Ar.sh=[]):l=[]:=by
 cases l with
 |nil=>rfl
 |cons a D=>simp at h
theorem Zwn {rl:Nat->Nat} {c:CS} {a:AC} {v:List AC} (he:WO c a=true) (h:K_ c a=some v) {l:List AC} {i:Nat} (D:Seg l i v):EG rl l c i=(a,i+v.length):=by
 cases c<;>cases a<;>simp only[WO]at he<;>try (simp at he;done)
 case int.int k k' n=>
  simp only[K_,he,ai,av]at h;subst h;simp only[EG,D.one,Af,P6 he,bh,da]
 case bool.bool b=>
  simp only[K_,av]at h;subst h;simp only[EG,D.one,CU,bh,da]
 case sl.vC ks E q=>
  simp only[K_,he,ai,av]at h;subst h;simp only[EG,D.one,B_,Kh he,bh,da]
 case ptr.ptr k o k' G=>
  simp only[K_,he,ai,av]at h;subst h;simp only[ak]at he;simp only[EG,af he.1,af he.2,da,kt]
theorem Q9w {rl:Nat->Nat} {l:List AC}:∀{cs:List CS} {as:List AC} {v:List AC},PF cs as=true->Hf cs as=some v->∀{i},Seg l i v->EH rl l cs i=(as,i+v.length)
 |[],[],v,_,h,i,_=>by simp[Hf]at h;subst h;rfl
 |c::cs,a::as,v,he,h,i,D=>by
  simp only[PF,ak]at he;simp only[Hf]at h;split at h
  ·rename_i I E;split at h
   ·rename_i J G;simp at h;subst h;simp only[EH,Zwn he.1 E D.left,Q9w he.2 G D.right,an,dm]
   ·simp at h
  ·simp at h
 |[],_::_,_,he,_,_,_=>by simp[PF]at he
 |_::_,[],_,he,_,_,_=>by simp[PF]at he
theorem Qwh {rl:Nat->Nat} {l:List AC} {aB:List (Nat×Box)}:∀{bs:List (Nat×TypeId×List CS)} {m:List (Nat×Box)} {v:List AC},H1 bs m=true->(∀p∈m,Ac aB p.1=some p.2)->
  Km bs aB=some v->∀{i},Seg l i v->FR rl l bs i=m
 |[],[],v,_,_,_,i,_=>rfl
 |(k,t,cs)::bs,(k',b)::m,v,he,D,h,i,E=>by
  simp only[H1,ak]at he;obtain⟨e1,e2,e3,G⟩:=he;have e1:=af e1;subst e1;have hb:=D (k,b) (by simp);dsimp only at hb;simp only[Km,hb,e2,ai]at h;split at h
  ·rename_i M I;split at h
   ·rename_i N J;simp at h;subst h;simp only[FR,Q9w e3 I E.left,Qwh G (λp L=>D p (by simp[L])) J E.right];obtain⟨ty,cells⟩:=b;simp only[af e2]
   ·simp at h
  ·simp at h
 |[],_::_,_,he,_,_,_,_=>by simp[H1]at he
 |_::_,[],_,he,_,_,_,_=>by simp[H1]at he
theorem Zbc:∀{bs:List (Nat×TypeId×List CS)} {m:List (Nat×Box)},H1 bs m=true->m.map (·.1)=bs.map (·.1)
 |[],[],_=>rfl
 |(k,t,cs)::bs,(k',b)::m,he=>by
  simp only[H1,ak]at he;simp only[bm,Zbc he.2.2.2,af he.1]
 |[],_::_,he=>by simp[H1]at he
 |_::_,[],he=>by simp[H1]at he
theorem Zsk {sig D:Sk} {m:List AC->Option (List AC)} (R:Type) (args:List TV) (mem:Mem) (K:TV->Mem->Option R):E8 sig D m R args mem K=(E8 sig D m (TV×Mem) args mem λv m=>some (v,m)).bind λp=>K p.1 p.2:=by
 obtain⟨aB,aC⟩:=mem;simp only[E8];cases(Al (λp:Nat×Box=>GM p.1) aB&&(H1 sig.aB aB&&(aC.isEmpty&&(sig.aC.isEmpty&&B0 (sig.aB.map (·.1))))))
 ·rfl
 ·simp only[ai];cases F6 sig ⟨args,aB,aC⟩with
  |none=>rfl
  |some vars=>
   dsimp only;cases m vars with
   |none=>rfl
   |some o=>
    simp only[ah];generalize BL D o=s;obtain⟨tm,b,r⟩:=s;cases b<;>cases r<;>try rfl
    dsimp only;split<;>rfl
theorem Z5x {sig D:Sk} {m:List AC->Option (List AC)}:Va (E8 sig D m):=by
 intro args mem v E h;obtain⟨aB,aC⟩:=mem;simp only[E8]at h;obtain⟨_,h⟩:=Ck h;split at h
 ·simp only[de]at h;obtain⟨o,_,h⟩:=h;split at h
  ·split at h
   ·simp only[av,dc]at h;exact h.2.symm
   ·simp at h
  ·simp at h
 ·simp at h
theorem HF {rs:List Nat}:AllRo rs []:=trivial
theorem CH {rs:List Nat} {k:Nat} {g:Spec} {l:List (Nat×Spec)} (h:AW rs k=false) (t:AllRo rs l):AllRo rs ((k,g)::l):=⟨.inl h,t⟩
theorem Fx {rs:List Nat} {k:Nat} {sig D:Sk} {m:List AC->Option (List AC)} {l:List (Nat×Spec)} (t:AllRo rs l):AllRo rs ((k,E8 sig D m)::l):=⟨.inr Z5x,t⟩
def Zum (P:Program) (C:Cfg) (L:Nat) (f:FuncId) (sig:Sk):Prop:=
 ∀(vars:List AC) (R:Type) (K:TV->Mem->Option R),Fv P C L f (BL sig vars).tmps ⟨(BL sig vars).aB,(BL sig vars).aC⟩ K=Fv P C L f (BL sig vars).tmps ⟨(BL sig vars).aB,(BL sig vars).aC⟩ λv _=>K v ⟨(BL sig vars).aB,(BL sig vars).aC⟩
open Classical in
theorem QP {P:Program} {C:Cfg} {f:FuncId} {L:Nat} {sig E:Sk} (hc:Ms P f=true) (h:FnOK P C f) (a1:Aj P C) (b2:∀t∈C.eqOk,P.stoodInHeld t=false) (a9:P.follows .mixedOrders=true)
  (h1:sig.okB=true) (h2:E.okB=true) (hl:Zum P C L f sig):An P (f,E8 sig E (Mh P C L f sig E)):=by
 refine⟨Zsk,λargs mem v mem' N=>PCallM.x ?_ (Ud hc)⟩;obtain⟨aB,aC⟩:=mem;simp only[E8]at N;obtain⟨U,N⟩:=Ck N;simp only[ak]at U;obtain⟨U,hex,a2,O,a3⟩:=U;have a2:aC=[]:=by simpa using a2
 have O:sig.aC=[]:=by simpa using O
 subst a2;split at N
 ·rename_i vars D;simp only[de]at N;obtain⟨o,ho,N⟩:=N;intro F w ρ xs b3;have hZ:InZ (FM F w ρ aB):=Qas U;have a4:=b3.rebuild hZ h1 D
  have J:(BL sig vars).aB=aB:=by
   simp only[F6]at D;obtain⟨_,D⟩:=Ck D;rw[O]at D;simp only[J2]at D;split at D
   ·rename_i b hb;split at D
    ·rename_i c V;simp only[az,av]at D;subst D;simp only[BL,O,Hy];have S:=Vo (aB:=aB) (aC:=[]) (ρ:=ρ) (w:=w) (rl:=Em []) ⟨λid r hl=>by simp[Ac]at hl⟩ hb (l:=b++c) (i:=0) (Seg.all _).left;generalize b4:FI (Em []) (b++c) sig.tmps 0=q at S;obtain⟨tm,i⟩:=q;have hi:i=0+b.length:=S.1;subst hi;have a5:=Zbc hex;refine Qwh hex (λp hp=>VI (by rw[a5];exact a3) hp) V (Seg.all (b++c)).right
    ·simp at D
   ·simp at D
  have M:(BL sig vars).aC=[]:=by simp only[BL,O,Hy]
  have a6:=hl vars;unfold Mh at ho;generalize hs:BL sig vars=s1 at ho a4 a6 J M;obtain⟨a7,I,b5⟩:=s1;dsimp only at ho a4 a6 J M;subst J;subst M;have b0:Fv P C L f a7 ⟨I,[]⟩ (λv m=>if m=⟨I,[]⟩then F6 E ⟨[v],[],[]⟩else none)=some o:=by
   rw[a6];simp only[dv];exact ho
  refine(Zex a1 b2 a9 hZ (λ_ a8=>h.sub a8) b0 a4).mono ?_;rintro e w' ⟨x,ρ',v',m',he,G,X⟩;split at G
  ·rename_i hm;subst hm;dsimp only at X
   simp only[F6]at G;obtain⟨_,G⟩:=Ck G;split at G
   ·rename_i a ha;split at G
    ·rename_i b hb;split at G
     ·rename_i c V;simp only[av]at G;subst G;split at N
      ·rename_i tm Y;split at N
       ·rename_i vn;simp only[av,dc]at N;obtain⟨rfl,rfl⟩:=N;have T:E.aC=[]:=by
         cases b6:E.aC with
         |nil=>rfl
         |cons p l=>obtain⟨k,t,ks⟩:=p;rw[b6]at ha;simp[J2,Ac]at ha
        rw[T]at ha;simp only[J2,av]at ha;subst ha;have S:=Vo (aB:=I) (aC:=[]) (ρ:=ρ') (w:=w') (rl:=Em []) ⟨λid r hl=>by simp[Ac]at hl⟩ hb (l:=[]++(b++c)) (i:=0) (show Seg (b++c) 0 b from(Seg.all (b++c)).left);simp only[BL,T,Hy]at Y;have a0:=Qj5 (B':=I) (R':=[]) (keys:=[]) (rs:=[]) (rl:=Em []) (by simp) (by simp[Ac]) (ts:=E.tmps)
         (by
          have:=h2;simp only[Sk.okB,ak]at this;have b7:E.aB=[]:=by
           cases b8:E.aB with
           |nil=>rfl
           |cons p l=>obtain⟨k,t,ks⟩:=p;rw[b8]at V;simp[Km,Ac]at V
          have h3:=this.1.2;rw[b7,T]at h3;exact h3) ([]++(b++c)) 0
        generalize b4:FI (Em []) ([]++(b++c)) E.tmps 0=q at S Y a0;obtain⟨c0,i⟩:=q;simp only[St.mk.injEq]at Y;obtain⟨rfl,_,_⟩:=Y;obtain⟨u,b1,b9⟩:=S.2.2 0 vn rfl;simp only[List.getElem?_cons_zero,av]at b1;subst b1;refine⟨x,ρ',he,X.slots (by simp) (λi u hi=> ?_) (λu hu=>a0 u hu)⟩;cases i with
        |zero=>
         simp at hi;subst hi;have:=X.tv 0 v' rfl;exact b9 _ (X.wt v' (by simp)) this
        |succ i=>simp at hi
       ·simp at N
      ·simp at N
     ·simp at G
    ·simp at G
   ·simp at G
  ·simp at G
 ·simp at N
abbrev I (n:Int):AC:= .int .i64 n
abbrev U (n:Int):AC:= .int .u64 n
abbrev B (b:Bool):AC:= .bool b
theorem IB {x:Int} (h:0<=x/\x<=18446744073709551615):IntKind.u64.wrap x=x:=by
 simp[V,IntKind.wrap,IntKind.signed,IntKind.bits];omega
theorem OF (x:Int):IntKind.u64.wrap x=x%18446744073709551616:=by
 simp[V,IntKind.wrap,IntKind.signed,IntKind.bits]
theorem Qc6 (x:Int):V x=(x+9223372036854775808)%18446744073709551616-9223372036854775808:=by
 simp[V,IntKind.wrap,IntKind.signed,IntKind.bits];omega
def i64 (x:Int):Prop:= -9223372036854775808<=x/\x<=9223372036854775807
theorem Zsh (x:Int):i64 (V x):=by
 rw[Qc6];unfold i64;omega
theorem BX {α:Type} {c:Bool} {a b:α} (h:c=true):(bif c then a else b)=a:=by rw[h];rfl
theorem BG {α:Type} {c:Bool} {a b:α} (h:c=false):(bif c then a else b)=b:=by rw[h];rfl
theorem Eo {α:Type} {p:Prop} {inst:Decidable p} {a b:α} (h:p):(bif@decide p inst then a else b)=a:=by rw[@al p inst h];rfl
theorem Bi {α:Type} {p:Prop} {inst:Decidable p} {a b:α} (h: ¬p):(bif@decide p inst then a else b)=b:=by rw[@am p inst h];rfl
theorem Zw2 {α:Type} {p:Prop} {inst:Decidable p} {a b:α}:(bif@decide p inst then a else b)=if p then a else b:=by
 by_cases h:p
 ·rw[Eo h,aa h]
 ·rw[Bi h,ab h]
theorem Z2x {α:Type} {c:Bool} {a b:α}:(bif c then a else b)=if c=true then a else b:=by cases c<;>rfl
theorem Zlz {a b:Bool}:((a&&b)=true)=(a=true/\b=true):=by cases a<;>cases b<;>simp
theorem Zv6 {a b:Bool}:((a||b)=true)=(a=true\/b=true):=by cases a<;>cases b<;>simp
theorem Zid {a:Bool}:((!a)=true)= ¬(a=true):=by cases a<;>simp
theorem Z2m {p:Prop} {inst:Decidable p}:(@decide p inst=true)=p:=by simp
theorem Zzb {a b:Int}:((a==b)=true)=(a=b):=by simp
theorem Zn0 {a b:Int}:((a !=b)=true)=(a≠b):=by simp
theorem Zx3 {a b:Nat}:(Nat.beq a b=true)=(a=b):=by simp
theorem Zr3 {a b:Nat}:(Nat.ble a b=true)=(a<=b):=by simp
attribute [go_sem ↓] Zw2 Z2x Zlz Zv6 Zid Z2m Zzb Zn0 Zx3 Zr3
theorem IF {α:Type} (d x:α) (l:List α):nth d (x::l) 0=x:=by simp[nth]
theorem In (k:IntKind) (n:Int):Af (.int k n)=n:=by simp[Af]
theorem Qqj (b:Bool):CU (.bool b)=b:=by simp[CU]
theorem Qqy (ks:List Kd) (l:List (List AC)):B_ (.vC ks l)=l:=by simp[B_]
theorem Zl0 {p q:Prop} {i1:Decidable p} {D:Decidable q}:((@decide p i1== @decide q D)=true)=(p↔q):=by simp
theorem Z6t {a b:Nat}:((a==b)=true)=(a=b):=by simp
attribute [go_sem ↓] Zl0 Z6t
attribute [go_sem] dv iv
theorem Nv {α:Type} (d x:α) (l:List α):nth d (x::l) 1=nth d l 0:=by simp[nth]
theorem My {α:Type} (d x:α) (l:List α):nth d (x::l) 2=nth d l 1:=by simp[nth]
theorem R1 {α:Type} (d x:α) (l:List α):nth d (x::l) 3=nth d l 2:=by simp[nth]
theorem Qu {α:Type} (d x:α) (l:List α):nth d (x::l) 4=nth d l 3:=by simp[nth]
theorem U5 {α:Type} (d x:α) (l:List α):nth d (x::l) 5=nth d l 4:=by simp[nth]
theorem Qg4 {α:Type} (d x:α) (l:List α):nth d (x::l) 6=nth d l 5:=by simp[nth]
theorem Qfm {α:Type} (d x:α) (l:List α):nth d (x::l) 7=nth d l 6:=by simp[nth]
theorem Z0p {α:Type} (d x:α) (l:List α):nth d (x::l) 8=nth d l 7:=by simp[nth]
theorem Zn5 {α:Type} (d x:α) (l:List α):nth d (x::l) 9=nth d l 8:=by simp[nth]
theorem Z0w {α:Type} (d x:α) (l:List α):nth d (x::l) 10=nth d l 9:=by simp[nth]
theorem Z0v {α:Type} (d x:α) (l:List α):nth d (x::l) 11=nth d l 10:=by simp[nth]
theorem Z3t {α:Type} (d x:α) (l:List α):nth d (x::l) 12=nth d l 11:=by simp[nth]
theorem Ztn {α:Type} (d x:α) (l:List α):nth d (x::l) 13=nth d l 12:=by simp[nth]
theorem Zx7 {α:Type} (d x:α) (l:List α):nth d (x::l) 14=nth d l 13:=by simp[nth]
theorem Zl7 {α:Type} (d x:α) (l:List α):nth d (x::l) 15=nth d l 14:=by simp[nth]
theorem Zjk {α:Type} (d x:α) (l:List α):nth d (x::l) 16=nth d l 15:=by simp[nth]
theorem Z3z {α:Type} (d x:α) (l:List α):nth d (x::l) 17=nth d l 16:=by simp[nth]
theorem Zxh {α:Type} (d x:α) (l:List α):nth d (x::l) 18=nth d l 17:=by simp[nth]
theorem Z9j {α:Type} (d x:α) (l:List α):nth d (x::l) 19=nth d l 18:=by simp[nth]
theorem Yck {α:Type} (d x:α) (l:List α):nth d (x::l) 20=nth d l 19:=by simp[nth]
theorem Zhr {α:Type} (d x:α) (l:List α):nth d (x::l) 21=nth d l 20:=by simp[nth]
theorem Zir {α:Type} (d x:α) (l:List α):nth d (x::l) 22=nth d l 21:=by simp[nth]
theorem Zyt {α:Type} (d x:α) (l:List α):nth d (x::l) 23=nth d l 22:=by simp[nth]
theorem Zg0 {α:Type} (d x:α) (l:List α):nth d (x::l) 24=nth d l 23:=by simp[nth]
theorem Zje {α:Type} (d x:α) (l:List α):nth d (x::l) 25=nth d l 24:=by simp[nth]
theorem Z3j {α:Type} (d x:α) (l:List α):nth d (x::l) 26=nth d l 25:=by simp[nth]
theorem Yb1 {α:Type} (d x:α) (l:List α):nth d (x::l) 27=nth d l 26:=by simp[nth]
theorem Zy9 {α:Type} (d x:α) (l:List α):nth d (x::l) 28=nth d l 27:=by simp[nth]
theorem Ziy {α:Type} (d x:α) (l:List α):nth d (x::l) 29=nth d l 28:=by simp[nth]
theorem Zyi {α:Type} (d x:α) (l:List α):nth d (x::l) 30=nth d l 29:=by simp[nth]
theorem Zms {α:Type} (d x:α) (l:List α):nth d (x::l) 31=nth d l 30:=by simp[nth]
theorem Zzz {α:Type} (d x:α) (l:List α):nth d (x::l) 32=nth d l 31:=by simp[nth]
theorem Zrj {α:Type} (d x:α) (l:List α):nth d (x::l) 33=nth d l 32:=by simp[nth]
theorem Yae {α:Type} (d x:α) (l:List α):nth d (x::l) 34=nth d l 33:=by simp[nth]
theorem Zwd {α:Type} (d x:α) (l:List α):nth d (x::l) 35=nth d l 34:=by simp[nth]
theorem Ybt {α:Type} (d x:α) (l:List α):nth d (x::l) 36=nth d l 35:=by simp[nth]
theorem Zuk {α:Type} (d x:α) (l:List α):nth d (x::l) 37=nth d l 36:=by simp[nth]
theorem Zzg {α:Type} (d x:α) (l:List α):nth d (x::l) 38=nth d l 37:=by simp[nth]
theorem Zyd {α:Type} (d x:α) (l:List α):nth d (x::l) 39=nth d l 38:=by simp[nth]
attribute [go_sem] IF Nv My R1 Qu U5 Qg4 Qfm Z0p Zn5 Z0w Z0v Z3t Ztn Zx7 Zl7 Zjk Z3z Zxh Z9j Yck Zhr Zir Zyt Zg0 Zje Z3j Yb1 Zy9 Ziy Zyi Zms Zzz Zrj Yae Zwd Ybt Zuk Zzg Zyd In Qqj Qqy ah
theorem Qzc {S:Type} {step:List AC->Option (Nat×List AC)} (enc:S->List AC) (Inv:S->Prop) (m:S->Nat) (Q:Nat×List AC->Prop)
  (h:∀s,Inv s->(∃E,step (enc s)=some (0,enc E)/\Inv E/\m E<m s)\/∃o,step (enc s)=some o/\o.1≠0/\Q o):
  ∀s,Inv s->∃o,Am step (enc s)=some o/\o.1≠0/\Q o:=by
 have:∀n s,m s<=n->Inv s->∃o,Am step (enc s)=some o/\o.1≠0/\Q o:=by
  intro n;induction n with
  |zero=>
   intro s L I;rcases h s I with⟨E,G,D,J⟩|⟨o,G,D,J⟩
   ·omega
   ·refine⟨o,?_,D,J⟩;rw[Rc,G];simp[D]
  |succ n M=>
   intro s L I;rcases h s I with⟨E,G,D,J⟩|⟨o,G,D,J⟩
   ·obtain⟨o,N,O⟩:=M E (by omega) D;refine⟨o,?_,O⟩;rw[Rc,G];simpa using N
   ·refine⟨o,?_,D,J⟩;rw[Rc,G];simp[D]
 intro s I;exact this _ s (cx _) I
theorem BE {step:List AC->Option (Nat×List AC)} {v w:List AC} (h:step v=some (0,w)):Am step v=Am step w:=by
 rw[Rc,h];rfl
theorem Bg {step:List AC->Option (Nat×List AC)} {v:List AC} {o:Nat×List AC} (h:step v=some o) (D:o.1≠0):Am step v=some o:=by
 rw[Rc,h];simp[D]
theorem Zxd {sig D:Sk} {m:List AC->Option (List AC)} {args:List TV} {vars:List AC} (E:F6 sig ⟨args,[],[]⟩=some vars) (G:m vars=some [B true]) (I:BL D [B true]=⟨[.v false [.bool true]],[],[]⟩):
  (Ad sig D m (TV×Mem) args ⟨[],[]⟩ λv m=>some (v,m))=some (.v false [.bool true],⟨[],[]⟩):=by
 simp only[Ad,Al,ai];rw[E];dsimp only;rw[G];simp only[ah];rw[I]
theorem Ar.tv_of {a:Ar} {g:Bool} {ks:List Kd} (D:a.agg=g) (E:a.ks=ks):a.tv= .v g (AV ks a.raw):=by unfold Ar.tv;rw[D,E]
theorem GK {α:Type} (f:α->List AC) (d:List AC):∀(l:List α) (i:Nat) (h:i<l.length),nth d (l.map f) i=f l[i]
 |x::l,0,_=>rfl
 |x::l,i+1,h=>by simp only[bm,nth,jy];exact GK f d l i (by simpa using h)
theorem HH {α:Type} (d:α):∀(l:List α) (i:Nat) (h:i<l.length),nth d l i=l[i]
 |x::l,0,_=>rfl
 |x::l,i+1,h=>by simp only[nth,jy];exact HH d l i (by simpa using h)
def Ai (n:Int):List AC:=[I n]
theorem Py {α:Type} (l:List α) (i:Nat) (h:i<l.length):l.drop i=l[i]::l.drop (i+1):=by simp
structure Pt where
 (x y z:Int)
structure Itm where
 (aP block:Int)
 (fr to:Pt)
 (aG:Int)
 (ce:Pt)
 (dir:Int)
 bI:Bool
 aZ:Int
 perRev:Bool
 (side radius bJ n aS:Int)
 on:Bool
structure Sgm where
 to:Pt
 (len aU aZ aX:Int)
structure Mrk where
 (at_ aP aU:Int)
structure Pth where
 aQ:Pt
 aF:List Sgm
 aD:List Mrk
structure Axs where
 (step aS bF bG low aY bB aV aO:Int)
 aW:List Int
structure Pce where
 (at_ aR s bD:Int)
 (was aT:Pt)
structure Trk where
 aE:List Pce
 (length aQ:Int)
 aT:Pt
structure Spk where
 (u w r h:Int)
instance:DecidableEq Pt:=λa b=>by
 obtain⟨a1,a2,a3⟩:=a;obtain⟨b1,b2,b3⟩:=b;exact decidable_of_iff (a1=b1/\a2=b2/\a3=b3) (by simp)
instance:DecidableEq Sgm:=λa b=>by
 obtain⟨a1,a2,a3,a4,a5⟩:=a;obtain⟨b1,b2,b3,b4,b5⟩:=b;exact decidable_of_iff (a1=b1/\a2=b2/\a3=b3/\a4=b4/\a5=b5) (by simp)
instance:DecidableEq Mrk:=λa b=>by
 obtain⟨a1,a2,a3⟩:=a;obtain⟨b1,b2,b3⟩:=b;exact decidable_of_iff (a1=b1/\a2=b2/\a3=b3) (by simp)
instance:DecidableEq Pce:=λa b=>by
 obtain⟨a1,a2,a3,a4,a5,a6⟩:=a;obtain⟨b1,b2,b3,b4,b5,b6⟩:=b;exact decidable_of_iff (a1=b1/\a2=b2/\a3=b3/\a4=b4/\a5=b5/\a6=b6) (by simp)
abbrev kI:Kd:= .int .i64
abbrev kB:Kd:= .bool
abbrev Aa:List Kd:=[kI]
abbrev kPt:List Kd:=[kI,kI,kI]
abbrev Ak:List Kd:=[kI,kI,kI,kI,kI,kI,kI,kI,kI,kI,kI,kI,kI,kB,kI,kB,kI,kI,kI,kI,kI,kB]
abbrev Ag:List Kd:=[kI,kI,kI,kI,kI,kI,kI]
abbrev AN:List Kd:=[kI,kI,kI]
abbrev At:List Kd:=[kI,kI,kI,kI,kI,kI,kI,kI,kI,kI]
abbrev EJ:List Kd:=[kI,kI,kI,kI]
abbrev ptR (p:Pt):List AC:=[I p.x,I p.y,I p.z]
abbrev Ah (t:Itm):List AC:=[I t.aP,I t.block,I t.fr.x,I t.fr.y,I t.fr.z,I t.to.x,I t.to.y,I t.to.z,I t.aG,I t.ce.x,I t.ce.y,I t.ce.z,I t.dir,B t.bI,I t.aZ,B t.perRev,I t.side,I t.radius,I t.bJ,I t.n,I t.aS,B t.on]
abbrev Ax (g:Sgm):List AC:=[I g.to.x,I g.to.y,I g.to.z,I g.len,I g.aU,I g.aZ,I g.aX]
abbrev Aw (m:Mrk):List AC:=[I m.at_,I m.aP,I m.aU]
abbrev AM (c:Pce):List AC:=[I c.at_,I c.aR,I c.s,I c.bD,I c.was.x,I c.was.y,I c.was.z,I c.aT.x,I c.aT.y,I c.aT.z]
abbrev Dw (s:Spk):List AC:=[I s.u,I s.w,I s.r,I s.h]
abbrev Bv (p:Pth):List AC:=[I p.aQ.x,I p.aQ.y,I p.aQ.z, .vC Ag (p.aF.map Ax), .vC AN (p.aD.map Aw)]
abbrev BC (x:Axs):List AC:=[I x.step,I x.aS,I x.bF,I x.bG,I x.low,I x.aY,I x.bB,I x.aV,I x.aO, .vC Aa (x.aW.map Ai)]
abbrev A4 (t:Trk):List AC:=[.vC At (t.aE.map AM),I t.length,I t.aQ,I t.aT.x,I t.aT.y,I t.aT.z]
structure Ax3 where
 (a b c:Axs)
abbrev AL (x:Ax3):List AC:=[I x.a.step,I x.a.aS,I x.a.bF,I x.a.bG,I x.a.low,I x.a.aY,I x.a.bB,I x.a.aV,I x.a.aO, .vC Aa (x.a.aW.map Ai),I x.b.step,I x.b.aS,I x.b.bF,I x.b.bG,I x.b.low,I x.b.aY,I x.b.bB,I x.b.aV,I x.b.aO, .vC Aa (x.b.aW.map Ai),I x.c.step,I x.c.aS,I x.c.bF,I x.c.bG,I x.c.low,I x.c.aY,I x.c.bB,I x.c.aV,I x.c.aO, .vC Aa (x.c.aW.map Ai)]
abbrev pxt (p:Pth) (x:Ax3) (t:Trk) (l:List AC):List AC:=
 I p.aQ.x::I p.aQ.y::I p.aQ.z:: .vC Ag (p.aF.map Ax):: .vC kPt (p.aD.map Aw)::
 I x.a.step::I x.a.aS::I x.a.bF::I x.a.bG::I x.a.low::I x.a.aY::I x.a.bB::I x.a.aV::I x.a.aO:: .vC Aa (x.a.aW.map Ai)::
 I x.b.step::I x.b.aS::I x.b.bF::I x.b.bG::I x.b.low::I x.b.aY::I x.b.bB::I x.b.aV::I x.b.aO:: .vC Aa (x.b.aW.map Ai)::
 I x.c.step::I x.c.aS::I x.c.bF::I x.c.bG::I x.c.low::I x.c.aY::I x.c.bB::I x.c.aV::I x.c.aO:: .vC Aa (x.c.aW.map Ai)::
 .vC At (t.aE.map AM)::I t.length::I t.aQ::I t.aT.x::I t.aT.y::I t.aT.z::l
abbrev DL (p:Pth) (t:Trk) (l:List AC):List AC:=
 I p.aQ.x::I p.aQ.y::I p.aQ.z:: .vC Ag (p.aF.map Ax):: .vC kPt (p.aD.map Aw)::
 .vC At (t.aE.map AM)::I t.length::I t.aQ::I t.aT.x::I t.aT.y::I t.aT.z::l
theorem Zsq {a:AC} (h:okC kI a):i64 (Af a):=by
 unfold okC at h;unfold i64;exact h
abbrev gA (l:List AC) (k:Nat):Int:=Af (nth .vD l k)
abbrev jA (l:List AC) (k:Nat):AC:= .int .i64 (Af (nth .vD l k))
abbrev wA (l:List AC) (k:Nat):List (List AC):=B_ (nth .vD l k)
abbrev bA (l:List AC) (k:Nat):Bool:=CU (nth .vD l k)
abbrev Fn:=List AC->Option (List AC)
abbrev Lp:=List AC->Option (Nat×List AC)
abbrev Rw:=List (List AC)
abbrev ci:CS:= .int .i64
abbrev tf:List CS->TS:= .v false
abbrev td:TS:= .vD
attribute [go_sem] gA jA wA bA ay az
theorem Z3k (r:List AC):AV Ak r=[jA r 0,jA r 1,jA r 2,jA r 3,jA r 4,jA r 5,jA r 6,jA r 7,jA r 8,jA r 9,jA r 10,jA r 11,jA r 12,B (bA r 13),jA r 14,B (bA r 15),jA r 16,jA r 17,jA r 18,jA r 19,jA r 20,B (bA r 21)]:=rfl
theorem Q9g (r:List AC):AV Ag r=[jA r 0,jA r 1,jA r 2,jA r 3,jA r 4,jA r 5,jA r 6]:=rfl
theorem Zqp (r:List AC):AV At r=[jA r 0,jA r 1,jA r 2,jA r 3,jA r 4,jA r 5,jA r 6,jA r 7,jA r 8,jA r 9]:=rfl
attribute [go_sem] Z3k Q9g Zqp
end Go.Bm
