/- the abstract machine -/
import Derived.Test.YtommijghjlikkaaGreatBmDraw
import Derived.Orders
import Derived.Test.YtommijghjlikkaaGreatBmFz
import Derived.ProofKit
import Derived.Below
import Derived.OpenShut
import Derived.ChangeSame
import Derived.Deep.Slices
set_option linter.unusedVariables false
set_option linter.unusedSimpArgs false
namespace Go.Bm
open Go.RowKit
section
variable {P:Program} {C:Cfg} {w:World} {R:Type} {Z:Base}
theorem SK {E D:Operand->TV}:∀(l:List Operand),(∀x∈l,E x=D x)->C0 E l=C0 D l
 |[],_=>rfl
 |x::l,h=>by simp only[C0];rw[h x (by simp),SK l λy G=>h y (by simp[G])]
theorem Qla {E D:Operand->TV}:∀(l:List (Nat×Operand)),(∀p∈l,E p.2=D p.2)->Gs E l=Gs D l
 |[],_=>rfl
 |x::l,h=>by simp only[Gs];rw[h x (by simp),Qla l λy G=>h y (by simp[G])]
theorem Q9f {E D:Operand->TV} (o:Option Operand) (h:∀x,o=some x->E x=D x):KZ E o=KZ D o:=by
 cases o with
 |none=>rfl
 |some x=>simp only[KZ];rw[h x rfl]
theorem Sc {G D:Operand->TV} {dst:Option Tmp} {o:Op} (h:∀x∈o.operands,G x=D x) (K:Prim->Option R):opK P C G dst o K=opK P C D dst o K:=by
 cases o<;>simp only[Op.operands]at h<;>simp only[opK]
 case move x=>rw[h x (by simp)]
 case assign x=>rw[h x (by simp)]
 case pick c a b=>rw[h c (by simp),h a (by simp),h b (by simp)]
 case box t x=>rw[h x (by simp)]
 case build t parts=>rw[Qla parts.toList λp I=>h p.2 (by simp;exact⟨p.1,by simpa using I⟩)]
 case buildSlice t n parts=>rw[Qla parts.toList λp I=>h p.2 (by simp;exact⟨p.1,by simpa using I⟩)]
 case makeSlice t a b=>rw[h a (by simp),h b (by simp)]
 case makeFunc T a b=>
  rw[SK a.toList λx E=>h x (by simp at E⊢;exact .inl E),SK b.toList λx E=>h x (by simp at E⊢;exact .inr E)]
 case load t a=>rw[h a (by simp)]
 case store t a x=>rw[h a (by simp),h x (by simp)]
 case nilCheck x=>rw[h x (by simp)]
 case binOp op t x y _=>rw[h x (by simp),h y (by simp)]
 case unOp op t x=>rw[h x (by simp)]
 case convert s d x=>rw[h x (by simp)]
 case fieldAddr t x i=>rw[h x (by simp)]
 case field t x i=>rw[h x (by simp)]
 case indexAddr t x ix=>rw[h x (by simp),h ix (by simp)]
 case index t x ix=>rw[h x (by simp),h ix (by simp)]
 case slice t x M N mx=>
  rw[h x (by simp),Q9f M λy J=>h y (by simp[J]),Q9f N λy J=>h y (by simp[J])]
 case extract t i=>rw[h t (by simp)]
 case call c=>
  have O:∀t,c.callee= .value (.tmp t)->G (.tmp t)=D (.tmp t):=λt L=>h _ (by simp only[Call.operands,L];exact Array.mem_append.2 (.inl (by simp)));have S:C0 G c.args.toList=C0 D c.args.toList:=SK _ λx E=>h x (by simp only[Call.operands];exact Array.mem_append.2 (.inr (by simpa using E)));rw[S];split
  ·rfl
  ·rfl
  ·rename_i t L;rw[O t L]
  ·rfl
theorem Qwa {tm:List TV} {d:Nat} {v:TV} {x:Operand} (h:x≠ .tmp d):A3 (setL tm d v) x=A3 tm x:=by
 cases x with
 |tmp t=>
  have D:d≠t:=λe=>h (by rw[e]);simp only[A3,BW,List.getD,I2,List.getElem?_set,ab D]
 |_=>rfl
def C8 (tm:List TV) (d:Option Tmp) (v:TV):List TV:=
 match d with
 |none=>tm
 |some t=>setL tm t v
theorem Lg (tm:List TV) (bx:List (Nat×Box)) (aB:List (Nat×Row)) (d:Option Tmp) (v:TV):R8 ⟨tm,bx,aB⟩ d v=⟨C8 tm d v,bx,aB⟩:=by cases d<;>rfl
theorem OL {tm:List TV} {d e:Option Tmp} (v u:TV) (h:∀t,d=some t->e≠some t):C8 (C8 tm d v) e u=C8 (C8 tm e u) d v:=by
 cases d with
 |none=>rfl
 |some t=>
  cases e with
  |none=>rfl
  |some q=>
   have D:t≠q:=λx=>h t rfl (by rw[x]);simp only[C8,I2];exact List.set_comm _ _ D
def DE (P:Program) (C:Cfg) (ops:List Oper) (o:Oper) (tm:List TV) (bx:List (Nat×Box)) (aB:List (Nat×Row)):Option (Option Prim×TV×List (Nat×Box)):=
 match B8 ops o tm with
 |some true=>(opK P C (A3 tm) o.dst o.op some).bind λp=>(Aw (C:=C) o.dst (p.dr false) bx aB).bind λq=>some (some (p.dr false),q.1,q.2)
 |some false=>some (none, .tup [],bx)
 |none=>none
theorem Zjk {d:Option Tmp} {p:Prim} {bx:List (Nat×Box)} {aB:List (Nat×Row)} (h:Prim.isApp (some p)=true):Aw (C:=C) d p bx aB=none:=by
 cases p<;>simp[Prim.isApp]at h
 rfl
theorem Z8d {d:Option Tmp} {p:Prim} {bx:List (Nat×Box)} {aB:List (Nat×Row)} (h:Prim.isMk (some p)=true):Aw (C:=C) d p bx aB=none:=by
 cases p<;>simp[Prim.isMk]at h<;>rfl
theorem Zd1 {ops:List Oper} {o:Oper} {tm:List TV} {bx D:List (Nat×Box)} {aB:List (Nat×Row)} {p:Option Prim} {v:TV} (h:DE P C ops o tm bx aB=some (p,v,D)):Prim.isMk p=false:=by
 unfold DE at h;split at h
 ·cases E:opK P C (A3 tm) o.dst o.op some with
  |none=>rw[E]at h;simp at h
  |some q=>
   rw[E]at h;simp only[ag]at h;cases G:Prim.isMk (some (q.dr false))with
   |true=>rw[Z8d G]at h;simp at h
   |false=>
    cases I:Aw (C:=C) o.dst (q.dr false) bx aB with
    |none=>rw[I]at h;simp at h
    |some z=>rw[I]at h;simp at h;rw[<-h.1];exact G
 ·simp at h;rw[<-h.1];rfl
 ·simp at h
theorem Zga {ops:List Oper} {o:Oper} {tm:List TV} {bx D:List (Nat×Box)} {aB:List (Nat×Row)} {p:Option Prim} {v:TV} (h:DE P C ops o tm bx aB=some (p,v,D)):Prim.isApp p=false:=by
 unfold DE at h;split at h
 ·cases E:opK P C (A3 tm) o.dst o.op some with
  |none=>rw[E]at h;simp at h
  |some q=>
   rw[E]at h;simp only[ag]at h;cases G:Prim.isApp (some (q.dr false))with
   |true=>rw[Zjk G]at h;simp at h
   |false=>
    cases I:Aw (C:=C) o.dst (q.dr false) bx aB with
    |none=>rw[I]at h;simp at h
    |some z=>rw[I]at h;simp at h;rw[<-h.1];exact G
 ·simp at h;rw[<-h.1];rfl
 ·simp at h
theorem OX {ops:List Oper} {o:Oper} {tm:List TV} {bx D:List (Nat×Box)} {aB:List (Nat×Row)} {p:Option Prim} {v:TV} (h:DE P C ops o tm bx aB=some (p,v,D)):
  Cs (P:=P) (C:=C) ops o ⟨tm,bx,aB⟩=some (p,⟨C8 tm o.dst v,D,aB⟩):=by
 have E:=Zga h;have G:=Zd1 h;unfold DE at h;unfold Cs;dsimp only;cases I:B8 ops o tm with
 |none=>rw[I]at h;simp at h
 |some b=>
  cases b
  ·rw[I]at h;simp at h;obtain⟨rfl,rfl,rfl⟩:=h;simp only[Lg]
  ·rw[I]at h;dsimp only at h⊢;cases L:opK P C (A3 tm) o.dst o.op some with
   |none=>rw[L]at h;simp at h
   |some q=>
    rw[L]at h;simp only[ag]at h⊢;cases J:Aw (C:=C) o.dst (q.dr false) bx aB with
    |none=>rw[J]at h;simp at h
    |some z=>
     rw[J]at h;simp at h;obtain⟨rfl,rfl,rfl⟩:=h;unfold Fo;rw[E,G];simp only[an,J,Option.map_some,ag,Lg]
theorem Nk {ops:List Oper} {o:Oper} {tm:List TV} {bx:List (Nat×Box)} {aB:List (Nat×Row)} {p:Option Prim} {J:St} (h:Cs (P:=P) (C:=C) ops o ⟨tm,bx,aB⟩=some (p,J)) (M:Prim.isApp p=false) (G:Prim.isMk p=false):
  ∃v E,DE P C ops o tm bx aB=some (p,v,E)/\J=⟨C8 tm o.dst v,E,aB⟩:=by
 unfold Cs at h;unfold DE;dsimp only at h;cases I:B8 ops o tm with
 |none=>rw[I]at h;simp at h
 |some b=>
  cases b
  ·rw[I]at h;simp at h;obtain⟨rfl,rfl⟩:=h;exact⟨_,_,rfl,by rw[Lg]⟩
  ·rw[I]at h;dsimp only at h⊢;cases L:opK P C (A3 tm) o.dst o.op some with
   |none=>rw[L]at h;simp at h
   |some q=>
    rw[L]at h;simp only[ag]at h⊢;cases D:Fo (C:=C) o.dst (q.dr false) ⟨tm,bx,aB⟩with
    |none=>rw[D]at h;simp at h
    |some z=>
     rw[D]at h;simp at h;obtain⟨rfl,rfl⟩:=h;unfold Fo at D;rw[M,G]at D;simp only[an,bp]at D;obtain⟨y,N,rfl⟩:=D;rw[N];exact⟨_,_,rfl,by rw[Lg]⟩
theorem Qho {ops:List Oper} {o:Oper} {tm:List TV} {bx:List (Nat×Box)} {aB:List (Nat×Row)} {p:Option Prim} {J:St} (h:Cs (P:=P) (C:=C) ops o ⟨tm,bx,aB⟩=some (p,J)) (L:Prim.isApp p=true):
  B8 ops o tm=some true/\∃q id v D,opK P C (A3 tm) o.dst o.op some=some q/\p=some (q.dr false)/\KL o.dst (q.dr false)=some id/\K_ o.dst aB (q.dr false)=some (v,D)/\J=⟨C8 (tm.map (TV.kill id)) o.dst v,bx.map λp=>(p.1,p.2.kill id),D⟩:=by
 unfold Cs at h;dsimp only at h;cases G:B8 ops o tm with
 |none=>rw[G]at h;simp at h
 |some b=>
  cases b
  ·rw[G]at h;simp at h;obtain⟨rfl,rfl⟩:=h;simp[Prim.isApp]at L
  ·rw[G]at h;refine⟨rfl,?_⟩;dsimp only at h;cases M:opK P C (A3 tm) o.dst o.op some with
   |none=>rw[M]at h;simp at h
   |some q=>
    rw[M]at h;simp only[ag]at h;cases E:Fo (C:=C) o.dst (q.dr false) ⟨tm,bx,aB⟩with
    |none=>rw[E]at h;simp at h
    |some z=>
     rw[E]at h;simp at h;obtain⟨rfl,rfl⟩:=h;unfold Fo at E;rw[L]at E;simp only[ai]at E;split at E
     ·rename_i id I;simp only[bp]at E;obtain⟨⟨y1,y2⟩,N,rfl⟩:=E;exact⟨q,id,y1,y2,rfl,rfl,I,N,by unfold WO;rw[Lg]⟩
     ·simp at E
theorem Q1p {ops:List Oper} {o:Oper} {tm:List TV} {bx:List (Nat×Box)} {aB D:List (Nat×Row)} {q:Prim} {id:Nat} {v:TV} (E:B8 ops o tm=some true) (G:opK P C (A3 tm) o.dst o.op some=some q)
  (I:KL o.dst (q.dr false)=some id) (J:K_ o.dst aB (q.dr false)=some (v,D)) (L:Prim.isApp (some (q.dr false))=true):
  Cs (P:=P) (C:=C) ops o ⟨tm,bx,aB⟩=some (some (q.dr false),⟨C8 (tm.map (TV.kill id)) o.dst v,bx.map λp=>(p.1,p.2.kill id),D⟩):=by
 unfold Cs;dsimp only;rw[E,G];simp only[ag];unfold Fo;rw[L];simp only[ai,I,J,Option.map_some,ag,WO,Lg]
theorem TT {ops:List Oper} {o:Oper} {tm:List TV} {bx:List (Nat×Box)} {aB:List (Nat×Row)} {p:Option Prim} {L:St} (h:Cs (P:=P) (C:=C) ops o ⟨tm,bx,aB⟩=some (p,L)) (G:Prim.isMk p=true):
  B8 ops o tm=some true/\∃q v D,opK P C (A3 tm) o.dst o.op some=some q/\p=some (q.dr false)/\mkD (C:=C) o.dst (q.dr false) aB=some (v,D)/\L=⟨C8 tm o.dst v,bx,D⟩:=by
 unfold Cs at h;dsimp only at h;cases I:B8 ops o tm with
 |none=>rw[I]at h;simp at h
 |some b=>
  cases b
  ·rw[I]at h;simp at h;obtain⟨rfl,rfl⟩:=h;simp[Prim.isMk]at G
  ·rw[I]at h;refine⟨rfl,?_⟩;dsimp only at h;cases M:opK P C (A3 tm) o.dst o.op some with
   |none=>rw[M]at h;simp at h
   |some q=>
    rw[M]at h;simp only[ag]at h;cases E:Fo (C:=C) o.dst (q.dr false) ⟨tm,bx,aB⟩with
    |none=>rw[E]at h;simp at h
    |some z=>
     rw[E]at h;simp at h;obtain⟨rfl,rfl⟩:=h;have J:Prim.isApp (some (q.dr false))=false:=by
      generalize q.dr false=N at G⊢;cases N<;>simp[Prim.isMk]at G<;>rfl
     unfold Fo at E;rw[J,G]at E;simp only[an,ai,bp]at E;obtain⟨⟨y1,y2⟩,O,rfl⟩:=E;exact⟨q,y1,y2,rfl,rfl,O,by rw[Lg]⟩
theorem Tq {ops:List Oper} {o:Oper} {tm:List TV} {bx:List (Nat×Box)} {aB D:List (Nat×Row)} {q:Prim} {v:TV} (I:B8 ops o tm=some true) (J:opK P C (A3 tm) o.dst o.op some=some q)
  (L:mkD (C:=C) o.dst (q.dr false) aB=some (v,D)) (E:Prim.isMk (some (q.dr false))=true):
  Cs (P:=P) (C:=C) ops o ⟨tm,bx,aB⟩=some (some (q.dr false),⟨C8 tm o.dst v,bx,D⟩):=by
 have G:Prim.isApp (some (q.dr false))=false:=by
  generalize q.dr false=M at E⊢;cases M<;>simp[Prim.isMk]at E<;>rfl
 unfold Cs;dsimp only;rw[I,J];simp only[ag];unfold Fo;rw[G,E];simp only[ai,an,L,Option.map_some,ag,Lg]
theorem Zko {id:Nat} {a:AC} (h:a.live=true):a.kill id=a:=by cases a<;>simp[AC.live]at h<;>rfl
theorem Zk2 {id:Nat} {a:AC} (h:(a.kill id).live=true):a.kill id=a:=by
 cases a<;>simp only[AC.kill]at h⊢<;>try rfl
 all_goals
  rename_i j b c;cases hb:Nat.beq j id<;>rw[hb]at h
  ·rfl
  ·simp[AC.live]at h
theorem Qp6 {id:Nat}:∀{l:List AC},Ak AC.live l=true->l.map (AC.kill id)=l
 |[],_=>rfl
 |a::l,h=>by
  rw[Ax]at h;simp only[bj];rw[Zko (h a (by simp)),Qp6 (Ax.2 λx D=>h x (by simp[D]))]
theorem Qw1 {id:Nat}:∀{l:List AC},Ak AC.live (l.map (AC.kill id))=true->l.map (AC.kill id)=l
 |[],_=>rfl
 |a::l,h=>by
  rw[Ax]at h;simp only[bj]at h⊢;rw[Zk2 (h _ (by simp)),Qw1 (Ax.2 λx D=>h x (by simp[D]))]
theorem Qnh (id:Nat):∀(tm:List TV) (t:Nat),nth .dead (tm.map (TV.kill id)) t=(nth .dead tm t).kill id
 |[],_=>rfl
 |_::_,0=>rfl
 |_::tm,t+1=>Qnh id tm t
theorem Qoc {id:Nat} {tm:List TV} {x:Operand} {g:Bool} {cs:List AC} (h:A3 tm x= .v g cs) (D:Ak AC.live cs=true):A3 (tm.map (TV.kill id)) x= .v g cs:=by
 cases x<;>try exact h
 simp only[A3]at h⊢;rw[Qnh,h];simp only[TV.kill];rw[Qp6 D]
theorem Qc8 {id:Nat} {tm:List TV} {x:Operand} {g:Bool} {cs:List AC} (h:A3 (tm.map (TV.kill id)) x= .v g cs) (E:Ak AC.live cs=true):A3 tm x= .v g cs:=by
 cases x<;>try exact h
 simp only[A3]at h⊢;rw[Qnh]at h;cases D:nth TV.dead tm (by assumption)with
 |dead=>rw[D]at h;simp[TV.kill]at h
 |tup ps=>rw[D]at h;simp[TV.kill]at h
 |v I G=>
  rw[D]at h;simp only[TV.kill,TV.v.injEq]at h;obtain⟨rfl,rfl⟩:=h;rw[Qw1 E]
theorem Y7 {q:Prim} (h:Prim.isPtr (some (q.dr false))=true):∃k o,q= .val (.v false [.ptr k o]):=by
 cases q<;>simp only[Prim.dr,Prim.isPtr]at h<;>try (simp at h;done)
 case callM f args=>cases hb:Ak TV.plainB args<;>simp[hb]at h
 rename_i v;split at h
 ·rename_i h';simp at h';exact⟨_,_,by rw[h']⟩
 ·simp at h
theorem Q5t {q:Prim} (h:Prim.isLive (some (q.dr false))=true):∃g cs,q= .val (.v g cs)/\Ak AC.live cs=true:=by
 cases q<;>simp only[Prim.dr,Prim.isLive]at h<;>try (simp at h;done)
 case callM f args=>cases hb:Ak TV.plainB args<;>simp[hb]at h
 rename_i v;cases v<;>simp at h
 exact⟨_,_,rfl,h⟩
theorem Qv0 {id:Nat} {tm:List TV} {dst:Option Tmp} {o:Op} {q:Prim} (D:Prim.still o (some (q.dr false))=true):
  opK P C (A3 (tm.map (TV.kill id))) dst o some=some q↔opK P C (A3 tm) dst o some=some q:=by
 cases o<;>simp[Prim.still]at D
 case move x=>
  obtain⟨g,cs,rfl,D⟩:=Q5t D;simp only[opK,ap,Prim.val.injEq];exact⟨λh=>Qc8 h D,λh=>Qoc h D⟩
 case nilCheck x=>
  obtain⟨k,o,rfl⟩:=Y7 D;have J:Ak AC.live [AC.ptr k o]=true:=rfl;have key:∀E:Operand->TV,opK P C E dst (.nilCheck x) some=some (.val (.v false [.ptr k o]))↔E x= .v false [.ptr k o]:=by
   intro E;simp only[opK];split
   ·rename_i k' I h;rw[h];simp[TV.c]
   ·rename_i h;rw[h];simp[TV.c]
   ·rename_i h;rw[h];simp[TV.c]
   ·rename_i L M N;constructor
    ·intro h;simp at h
    ·intro h;exact(L _ _ h).elim
  rw[key,key];exact⟨λh=>Qc8 h J,λh=>Qoc h J⟩
 case fieldAddr t x i=>
  obtain⟨k,o,rfl⟩:=Y7 D;have key:∀E:Operand->TV,opK P C E dst (.fieldAddr t x i) some=some (.val (.v false [.ptr k o]))->∃k' I,E x= .v false [.ptr k' I]:=by
   intro E h;simp only[opK]at h
   repeat' split at h
   all_goals first|(simp at h;done)|(simp[TV.c]at h;done)|exact⟨_,_,by assumption⟩
  constructor
  ·intro h;obtain⟨k',I,e⟩:=key _ h;have e2:=Qc8 e rfl;rw[<-h];refine Sc (λy G=> ?_) some;simp only[Op.operands]at G;simp at G;subst G;rw[e,e2]
  ·intro h;obtain⟨k',I,e⟩:=key _ h;have e2:=Qoc (id:=id) e rfl;rw[<-h];refine Sc (λy G=> ?_) some;simp only[Op.operands]at G;simp at G;subst G;rw[e,e2]
theorem Q4s {o:Op} {q:Prim} (D:Prim.still o (some (q.dr false))=true):∃g cs,q= .val (.v g cs)/\Ak AC.live cs=true:=by
 cases o<;>simp[Prim.still]at D
 case move x=>exact Q5t D
 all_goals
  obtain⟨k,o,rfl⟩:=Y7 D;exact⟨_,_,rfl,rfl⟩
theorem Qx0 {id:Nat} {tm:List TV} {d:Option Tmp} {g:Bool} {cs:List AC} (h:Ak AC.live cs=true):(C8 tm d (.v g cs)).map (TV.kill id)=C8 (tm.map (TV.kill id)) d (.v g cs):=by
 cases d with
 |none=>rfl
 |some t=>
  simp only[C8,I2,List.map_set,TV.kill];rw[Qp6 h]
theorem QA {ops:Array Oper} {o:Oper} {tm:List TV} {d:Option Tmp} {v:TV} (h:∀t,d=some t->t∉o.looksAt ops):B8 ops.toList o (C8 tm d v)=B8 ops.toList o tm:=by
 cases d with
 |none=>rfl
 |some t=>
  have I:=h t rfl;unfold B8;cases J:o.guard with
  |none=>rfl
  |some L=>
   obtain⟨j,want⟩:=L;dsimp only;cases M:ops.toList[j]? with
   |none=>rfl
   |some G=>
    dsimp only;cases N:G.dst with
    |none=>rfl
    |some q=>
     dsimp only;have D:ops[j]? =some G:=by simpa using M
     have E:t≠q:=by
      rintro rfl;exact I (by simp[Oper.looksAt,J,D,N])
     have:nth .dead (C8 tm (some t) v) q=nth .dead tm q:=by
      simp only[C8,BW,List.getD,I2,List.getElem?_set,ab E]
     rw[this]
theorem Tv {ops:Array Oper} {o:Oper} {tm:List TV} {bx:List (Nat×Box)} {aB:List (Nat×Row)} {d:Option Tmp} {v:TV} (h:∀t,d=some t->t∉o.looksAt ops):
  DE P C ops.toList o (C8 tm d v) bx aB=DE P C ops.toList o tm bx aB:=by
 unfold DE;rw[QA h];cases d with
 |none=>rfl
 |some t=>
  have D:=h t rfl;rw [show opK P C (A3 (C8 tm (some t) v)) o.dst o.op some = opK P C (A3 tm) o.dst o.op some from Sc (λx E => Qwa (by
   rintro rfl;exact D (List.mem_append_left _ (List.mem_filterMap.2 ⟨.tmp t,by simpa using E,rfl⟩)))) some]
theorem J0 {a b:Nat} (h:a≠b):Nat.beq a b=false:=Ku h
theorem Vv {α:Type}:∀(l:List (Nat×α)) (k j:Nat) (x y:α),k≠j->upd (upd l k x) j y=upd (upd l j y) k x
 |[],_,_,_,_,_=>rfl
 |(i,b)::l,k,j,x,y,h=>by
  by_cases D:i=k
  ·subst D;simp only[upd,Nat.beq_refl,ai,J0 h,an]
  ·by_cases E:i=j
   ·subst E;simp only[upd,Nat.beq_refl,ai,J0 D,an]
   ·simp only[upd,J0 D,J0 E,an];rw[Vv l k j x y h]
theorem Hl {a b:Nat} (h:a<b):Nat.blt a b=true:=by simpa using h
theorem G0 {a b:Nat} (h: ¬a<b):Nat.blt a b=false:=by
 cases hb:Nat.blt a b
 ·rfl
 ·simp at hb;omega
theorem ZT {α:Type}:∀(l:List (Nat×α)) (k j:Nat) (x y:α),k≠j->ins (ins l k x) j y=ins (ins l j y) k x
 |[],k,j,x,y,h=>by
  by_cases D:j<k
  ·simp only[ins,Hl D,ai,G0 (show¬k<j by omega),an]
  ·simp only[ins,G0 D,an,Hl (show k<j by omega),ai]
 |(i,b)::l,k,j,x,y,h=>by
  by_cases D:k<i<;>by_cases E:j<i
  ·by_cases G:j<k
   ·simp only[ins,Hl D,Hl E,Hl G,G0 (show¬k<j by omega),ai,an]
   ·simp only[ins,Hl D,Hl E,G0 G,Hl (show k<j by omega),ai,an]
  ·simp only[ins,Hl D,G0 E,G0 (show¬j<k by omega),ai,an]
  ·simp only[ins,G0 D,Hl E,G0 (show¬k<j by omega),ai,an]
  ·simp only[ins,G0 D,G0 E,an];rw[ZT l k j x y h]
theorem SC {α:Type}:∀(l:List (Nat×α)) (k j:Nat) (x y:α),k≠j->upd (ins l k x) j y=ins (upd l j y) k x
 |[],k,j,x,y,h=>by simp only[ins,upd,J0 h,an]
 |(i,b)::l,k,j,x,y,h=>by
  by_cases D:k<i<;>by_cases E:i=j
  ·subst E;simp only[ins,upd,Hl D,J0 h,Nat.beq_refl,ai,an]
  ·simp only[ins,upd,Hl D,J0 h,J0 E,ai,an]
  ·subst E;simp only[ins,upd,G0 D,Nat.beq_refl,ai,an]
  ·simp only[ins,upd,G0 D,J0 E,an];rw[SC l k j x y h]
theorem L_ {d:Option Tmp} {f:FuncId} {args:List TV} {bx D:List (Nat×Box)} {aB:List (Nat×Row)} {v:TV} (h:Aw (C:=C) d (.call f args) bx aB=some (v,D)):
  D=bx/\∀(L:Option Tmp) (E:List (Nat×Box)),Aw (C:=C) L (.call f args) E aB=some (v,E):=by
 simp only[Aw]at h⊢;cases G:C.spec f with
 |none=>rw[G]at h;simp at h
 |some g=>
  rw[G]at h;dsimp only at h⊢;cases I:G8 aB args with
  |none=>rw[I]at h;simp at h
  |some l=>
   rw[I]at h;dsimp only at h⊢;cases J:g (TV×Mem) l ⟨[],[]⟩ (λv m=>some (v,m))with
   |none=>rw[J]at h;simp at h
   |some q=>
    rw[J]at h;obtain⟨u,⟨M,N⟩⟩:=q;cases M with
    |cons _ _=>simp at h
    |nil=>
     cases N with
     |cons _ _=>simp at h
     |nil=>
      dsimp only at h⊢;split at h
      ·rename_i O;simp at h;obtain⟨rfl,rfl⟩:=h;refine⟨rfl,λ_ _=> ?_⟩;rw[aa O]
      ·simp at h
theorem OY {d:Option Tmp} {g:Bool} {sz id idx sub:Nat} {bx D:List (Nat×Box)} {aB:List (Nat×Row)} {v:TV} (h:Aw (C:=C) d (.rload g sz id idx sub) bx aB=some (v,D)):
  D=bx/\∀(E:Option Tmp) (b':List (Nat×Box)),Aw (C:=C) E (.rload g sz id idx sub) b' aB=some (v,b'):=by
 simp only[Aw]at h⊢
 repeat' split at h
 all_goals first|(simp at h;done)|skip
 simp at h;obtain⟨rfl,rfl⟩:=h;exact⟨rfl,λ_ _=>rfl⟩
theorem Q1u {n k:Nat}:∀{l:List Nat},k∈Qy n l↔k=n\/k∈l
 |[]=>by simp[Qy]
 |m::l=>by
  simp only[Qy];cases hb:Nat.beq m n
  ·simp only[an,av,Q1u (l:=l)];constructor
   ·rintro(h|h|h)<;>simp[h]
   ·rintro(h|h|h)<;>simp[h]
  ·have:=ac hb;subst this;simp only[ai,av];constructor
   ·rintro(h|h)<;>simp[h]
   ·rintro(h|h|h)<;>simp[h]
theorem Q1b {k:Nat}:∀{ns l:List Nat},k∈A4 ns l↔k∈ns\/k∈l
 |[],l=>by simp[A4]
 |n::ns,l=>by
  simp only[A4,Q1b (ns:=ns),Q1u,av];constructor
  ·rintro(h|h|h)<;>simp[h]
  ·rintro((h|h)|h)<;>simp[h]
theorem Ug {α β:Type} {g:α->List β} {x:β}:∀{l:List α},x∈cat g l↔∃a∈l,x∈g a
 |[]=>by simp[cat]
 |a::l=>by simp[cat,Ug (l:=l)]
theorem Th {k:Nat}:∀{l:List AC},k∈AC.keys.keysL l->∃o,AC.ptr k o∈l
 |[],h=>by simp[AC.keys.keysL]at h
 |a::l,h=>by
  cases a
  case ptr j o=>
   simp only[AC.keys.keysL,av]at h;rcases h with rfl|h
   ·exact⟨o,by simp⟩
   ·obtain⟨D,h'⟩:=Th h;exact⟨D,by simp[h']⟩
  all_goals
   simp only[AC.keys.keysL]at h;obtain⟨D,h'⟩:=Th h;exact⟨D,by simp[h']⟩
theorem Zzk {bx:List (Nat×Box)} {aB:List (Nat×Row)} {args:List TV} (h:∀v∈args,TV.wf bx aB v) {k:Nat} (L:k∈A4 (cat AC.keys (cat TV.cellsOf args)) []):∃b,Ac bx k=some b:=by
 simp only[Q1b,List.not_mem_nil,or_false]at L;obtain⟨a,N,D⟩:=Ug.1 L;obtain⟨v,O,E⟩:=Ug.1 N;have M:=h v O;have G:AC.wf bx aB a:=by
  cases v with
  |dead=>simp[TV.cellsOf]at E
  |v g cs=>exact M a E
  |tup ps=>
   simp only[TV.cellsOf]at E;obtain⟨p,S,I⟩:=Ug.1 E;exact M p S a I
 cases a
 case ptr j o=>simp[AC.keys]at D;subst D;exact G
 case bsl j o=>simp[AC.keys]at D;subst D;exact G
 case clo f fs cs=>
  simp only[AC.keys,bn]at D;rcases D with D|D
  ·obtain⟨o,J⟩:=Th D;exact G.1 _ J
  ·obtain⟨o,J⟩:=Th D;exact G.2 _ J
 all_goals simp[AC.keys]at D
theorem Q94 {bx D:List (Nat×Box)} {E ri:Nat->Nat}:∀(keys:List Nat) (b:Nat),(∀k∈keys,Ac D k=Ac bx k)->D0 D E ri b keys=D0 bx E ri b keys
 |[],_,_=>rfl
 |k::keys,b,h=>by
  simp only[D0];rw[h k (by simp),Q94 keys (b+1) λj G=>h j (by simp[G])]
theorem Q5k {α:Type} {p q:α->Bool}:∀{l:List α},(∀x∈l,p x=q x)->Ak p l=Ak q l
 |[],_=>rfl
 |a::l,h=>by simp only[Ak];rw[h a (by simp),Q5k (l:=l) λx D=>h x (by simp[D])]
theorem Mh {keys:List Nat}:∀(m:List (Nat×Box)) (l:List (Nat×Box)) (n:Nat),(∀p∈m,n≠nth 0 keys (p.1-base))->Ac (CU keys m l) n=Ac l n
 |[],_,_,_=>rfl
 |(j,c)::m,l,n,h=>by
  simp only[CU];rw[Mh m _ n λp D=>h p (by simp[D])];exact DF _ _ _ _ (h (j,c) (by simp))
theorem Qfd {keys:List Nat}:∀(m:List (Nat×Box)) (l:List (Nat×Box)) (n:Nat) (x:Box),(∀p∈m,n≠nth 0 keys (p.1-base))->CU keys m (upd l n x)=upd (CU keys m l) n x
 |[],_,_,_,_=>rfl
 |(j,c)::m,l,n,x,h=>by
  simp only[CU];rw[Vv _ _ _ _ _ (h (j,c) (by simp)),Qfd m _ n x λp D=>h p (by simp[D])]
theorem Qa3 {keys:List Nat}:∀(m:List (Nat×Box)) (l:List (Nat×Box)) (n:Nat) (x:Box),(∀p∈m,n≠nth 0 keys (p.1-base))->CU keys m (ins l n x)=ins (CU keys m l) n x
 |[],_,_,_,_=>rfl
 |(j,c)::m,l,n,x,h=>by
  simp only[CU];rw[SC _ _ _ _ _ (h (j,c) (by simp)),Qa3 m _ n x λp D=>h p (by simp[D])]
theorem Uz {d:Option Tmp} {f:FuncId} {args:List TV} {bx I:List (Nat×Box)} {aB:List (Nat×Row)} {v:TV} (h:Aw (C:=C) d (.callD f args) bx aB=some (v,I)):
  ∃D,I=CU (A4 (cat AC.keys (cat TV.cellsOf args)) []) D bx/\(∀p∈D,nth 0 (A4 (cat AC.keys (cat TV.cellsOf args)) []) (p.1-base)∈A4 (cat AC.keys (cat TV.cellsOf args)) [])/\v.plainB=true/\
   ∀(M:Option Tmp) (G:List (Nat×Box)),(∀k∈A4 (cat AC.keys (cat TV.cellsOf args)) [],Ac G k=Ac bx k)->Aw (C:=C) M (.callD f args) G aB=some (v,CU (A4 (cat AC.keys (cat TV.cellsOf args)) []) D G):=by
 simp only[Aw]at h⊢;generalize A4 (cat AC.keys (cat TV.cellsOf args)) []=keys at h⊢;cases N:C.spec f with
 |none=>rw[N]at h;simp at h
 |some g=>
  rw[N]at h;dsimp only at h⊢;split at h
  ·rename_i S;split at h
   ·rename_i Y J;split at h
    ·rename_i v' D T;split at h
     ·rename_i L;simp only[ap,cz]at h;obtain⟨rfl,rfl⟩:=h;have E:=L;simp only[ak]at E;refine⟨D,rfl,λp U=> ?_,E.2,λM G O=> ?_⟩
      ·obtain⟨b,hb⟩:=TE (Ax.1 E.1.1.1.2 p U);obtain⟨i,V,e⟩:=(LW J).2 _ _ hb;rw[e,show base+i-base=i from by omega];exact FY V
      ·rw[Q5k (q:=λk=>Ak AC.calm (EZ bx k)) (λk X=>by unfold EZ;rw[O k X]),Q94 keys base O,J,aa S];dsimp only;rw[T];dsimp only;rw[aa L]
     ·simp at h
    ·simp at h
   ·simp at h
  ·simp at h
theorem Ri {keys:List Nat}:∀(m:List (Nat×Box)) (l:List (Nat×Box)) {n:Nat} {b:Box},Ac l n=some b->∃b',Ac (CU keys m l) n=some b'
 |[],_,_,b,h=>⟨b,h⟩
 |(j,c)::m,l,n,b,h=>by
  simp only[CU];by_cases e:n=nth 0 keys (j-base)
  ·subst e;exact Ri m _ (E8 _ _ _ _ h)
  ·exact Ri m _ (b:=b) (by rw[DF _ _ _ _ e];exact h)
theorem Z3f {d:Option Tmp} {f:FuncId} {args:List TV} {bx D:List (Nat×Box)} {aB:List (Nat×Row)} {v:TV} (h:Aw (C:=C) d (.callD f args) bx aB=some (v,D)):
  ∀k∈A4 (cat AC.keys (cat TV.cellsOf args)) [],∃b,Ac bx k=some b:=by
 simp only[Aw]at h;generalize A4 (cat AC.keys (cat TV.cellsOf args)) []=keys at h⊢;split at h
 ·split at h
  ·split at h
   ·rename_i I E;intro k G;obtain⟨x,q,_⟩:=(LW E).1 (pos keys k) (Ew G).1;rw[(Ew G).2]at q;exact⟨x,q⟩
   ·simp at h
  ·simp at h
 ·simp at h
theorem Qty {α:Type}:∀(l:List (Nat×α)) (k:Nat) (x:α),Ac l k=some x->upd l k x=l
 |[],_,_,_=>rfl
 |(j,b)::l,k,x,h=>by
  simp only[Ac,upd]at h⊢;cases D:Nat.beq j k
  ·rw[D]at h;simp only[an]at h⊢;rw[Qty l k x h]
  ·rw[D]at h;simp only[ai,ap]at h⊢;rw[h,ac D]
theorem Q0d {keys:List Nat} {bx:List (Nat×Box)} {rk ri:Nat->Nat}:∀(ks pre:List Nat) (E:List (Nat×Box)),keys=pre++ks->D0 bx rk ri (base+pre.length) ks=some E->(∀k∈ks,Ak AC.calm (EZ bx k)=true)->CU keys E bx=bx
 |[],_,E,_,h,_=>by simp[D0]at h;subst h;rfl
 |k::ks,pre,E,G,h,I=>by
  simp only[D0]at h;split at h
  ·rename_i x J;split at h
   ·rename_i l L;simp only[ap]at h;subst h;simp only[CU];have M:nth 0 keys (base+pre.length-base)=k:=by
     rw[show base+pre.length-base=pre.length from by omega,BW,G];simp
    have D:=I k (by simp);unfold EZ at D;rw[J]at D;rw[M,Rq D,Qty bx k _ J];exact Q0d (rk:=rk) (ri:=ri) ks (pre++[k]) l (by rw[G];simp) (by rw[<-L];simp[Nat.add_assoc]) (λj N=>I j (by simp[N]))
   ·simp at h
  ·simp at h
theorem SG (D:Aj P C) {d:Option Tmp} {f:FuncId} (E:C.ro f=true) {args:List TV} {bx bx1:List (Nat×Box)} {aB:List (Nat×Row)} {v:TV} (h:Aw (C:=C) d (.callD f args) bx aB=some (v,bx1)):bx1=bx:=by
 simp only[Aw]at h;generalize A4 (cat AC.keys (cat TV.cellsOf args)) []=keys at h;cases G:C.spec f with
 |none=>rw[G]at h;simp at h
 |some g=>
  rw[G]at h;dsimp only at h;split at h
  ·rename_i J;simp only[ak]at J;split at h
   ·rename_i L I;split at h
    ·rename_i S M N;split at h
     ·simp only[ap,cz]at h;have e:=D.2 f g G E _ _ _ _ N;simp only[Mem.mk.injEq,and_true]at e;rw[<-h.2,e];exact Q0d keys [] L rfl (by simpa using I) (λk O=>Ax.1 J.1.2 k O)
     ·simp at h
    ·simp at h
   ·simp at h
  ·simp at h
theorem Zmw (U:Aj P C) {di V:Option Tmp} {pi pj:Prim} {bx bx1 J:List (Nat×Box)} {aB:List (Nat×Row)} {vi vj:TV} (I:Aw (C:=C) di pi bx aB=some (vi,bx1)) (D:Aw (C:=C) V pj bx1 aB=some (vj,J))
  (hm:Prim.meet C.ro (some pi) (some pj)=false) (hd:∀t,di=some t->V≠some t) (a8:Prim.wf bx aB pj):
  ∃a7,Aw (C:=C) V pj bx aB=some (vj,a7)/\Aw (C:=C) di pi a7 aB=some (vi,J):=by
 have a9:∀{a b:Nat},Nat.beq a b=false->a≠b:=λh e=>by subst e;simp at h
 cases pi<;>simp only[Aw]at I<;>try (simp at I;done)
 case val v=>simp at I;obtain⟨rfl,rfl⟩:=I;exact⟨J,D,rfl⟩
 case newView e ks l=>simp at I;obtain⟨rfl,rfl⟩:=I;exact⟨J,D,rfl⟩
 case rload g sz id idx sub=>
  obtain⟨rfl,X⟩:=OY (C:=C) (d:=di) (by simpa only[Aw]using I);exact⟨J,D,X _ _⟩
 case callD f args=>
  obtain⟨S,rfl,Y,_,X⟩:=Uz (C:=C) (d:=di) (f:=f) (args:=args) (aB:=aB) (by simpa only[Aw]using I);have E:=X di bx λ_ _=>rfl;have a2:∀k∈A4 (cat AC.keys (cat TV.cellsOf args)) [],∃b,Ac bx k=some b:=Z3f (C:=C) (d:=di) (f:=f) (v:=vi) (aB:=aB) (by simpa only[Aw]using E);cases pj<;>simp only[Aw]at D<;>try (simp at D;done)
  case val v=>simp at D;obtain⟨rfl,rfl⟩:=D;exact⟨bx,rfl,E⟩
  case newView e ks l=>simp at D;obtain⟨rfl,rfl⟩:=D;exact⟨bx,rfl,E⟩
  case rload g sz id idx sub=>
   obtain⟨rfl,b0⟩:=OY (C:=C) (d:=V) (by simpa only[Aw]using D);exact⟨bx,b0 _ _,E⟩
  case call f' a3=>
   obtain⟨rfl,b0⟩:=L_ (d:=V) D;exact⟨bx,b0 _ _,E⟩
  case load g sz k' o'=>
   cases a4:C.ro f
   case true=>
    have e1:=SG U (d:=di) a4 (aB:=aB) E;rw[e1]at D E;have e2:J=bx:=by
     repeat' split at D
     all_goals first|(simp at D;done)|(simp at D;exact D.2.symm)
    subst e2;exact⟨J,by simp only[Aw];exact D,E⟩
   have T:k'∉A4 (cat AC.keys (cat TV.cellsOf args)) []:=λe=>by
    have:=Fz.2 e;simp only[Prim.meet,a4,Bool.not_false,Bool.true_and]at hm;rw[hm]at this;cases this
   have L:∀p∈S,k'≠nth 0 (A4 (cat AC.keys (cat TV.cellsOf args)) []) (p.1-base):=λp hp e=>T (by rw[e];exact Y p hp);rw[Mh _ _ _ L]at D;refine⟨bx,?_,?_⟩
   ·simp only[Aw]
    repeat' split at D
    all_goals first|(simp at D;done)|skip
    rename_i q1 _ _ q2;simp at D;obtain⟨rfl,_⟩:=D;simp only[q1,q2]
   ·have:J=CU (A4 (cat AC.keys (cat TV.cellsOf args)) []) S bx:=by
     repeat' split at D
     all_goals first|(simp at D;done)|(simp at D;exact D.2.symm)
    rw[this];exact E
  case store k' o' O=>
   have T:k'∉A4 (cat AC.keys (cat TV.cellsOf args)) []:=λe=>by
    have:=Fz.2 e;simp only[Prim.meet]at hm;rw[hm]at this;cases this
   have L:∀p∈S,k'≠nth 0 (A4 (cat AC.keys (cat TV.cellsOf args)) []) (p.1-base):=λp hp e=>T (by rw[e];exact Y p hp);rw[Mh _ _ _ L]at D;cases h2:Ac bx k' with
   |none=>rw[h2]at D;simp at D
   |some b'=>
    rw[h2]at D;dsimp only at D;split at D
    ·rename_i a0;simp at D;obtain⟨rfl,rfl⟩:=D;refine⟨upd bx k' ⟨b'.ty,splice b'.cells o' O⟩,by simp only[Aw,h2,a0,if_true],?_⟩;rw[X di _ λk a1=>DF _ _ _ _ (by rintro rfl;exact T a1),Qfd _ _ _ _ L]
    ·simp at D
  case new ty O=>
   split at D
   ·rename_i d;split at D
    ·simp at D
    ·rename_i hn;simp at D;obtain⟨rfl,rfl⟩:=D;have L:∀p∈S,d≠nth 0 (A4 (cat AC.keys (cat TV.cellsOf args)) []) (p.1-base):=λp hp e=>by
      have a6:∃b,Ac bx d=some b:=a2 d (by rw[e];exact Y p hp);obtain⟨b,hb⟩:=a6;have:∃b',Ac (CU (A4 (cat AC.keys (cat TV.cellsOf args)) []) S bx) d=some b':=Ri _ _ hb;obtain⟨b',M⟩:=this;rw[hn]at M;cases M
     have a5:d∉A4 (cat AC.keys (cat TV.cellsOf args)) []:=λe=>by
      obtain⟨b,hb⟩:=a2 d e;obtain⟨b',M⟩:=Ri (keys:=A4 (cat AC.keys (cat TV.cellsOf args)) []) S bx hb;rw[hn]at M;cases M
     rw[Mh _ _ _ L]at hn;refine⟨ins bx d ⟨ty,O⟩,by simp only[Aw,hn],?_⟩;rw[X di _ λk a1=>DY _ _ _ _ (by rintro rfl;exact a5 a1),Qa3 _ _ _ _ L]
   ·simp at D
  case callD f' a3=>
   simp only[Prim.meet,Bool.not_eq_false',ak]at hm;have e1:=SG U (d:=di) hm.1 (aB:=aB) E;rw[e1]at D E;have e2:=SG U (d:=V) hm.2 (aB:=aB) (f:=f') (args:=a3) (v:=vj) (bx1:=J) (by simpa only[Aw]using D);subst e2;exact⟨J,by simpa only[Aw]using D,E⟩
 case call f args=>
  obtain⟨rfl,X⟩:=L_ (d:=di) I;exact⟨J,D,X _ _⟩
 case load g sz key off=>
  cases G:Ac bx key with
  |none=>rw[G]at I;simp at I
  |some b=>
   rw[G]at I;dsimp only at I;cases h2:DN g sz b.cells off with
   |none=>rw[h2]at I;simp at I
   |some v=>
    rw[h2]at I;simp at I;obtain⟨rfl,rfl⟩:=I;refine⟨J,D,?_⟩;have hl:Ac J key=some b:=by
     cases pj<;>simp only[Aw]at D<;>try (simp at D;done)
     case val=>simp at D;rw[<-D.2];exact G
     case newView=>simp at D;rw[<-D.2];exact G
     case rload=>
      obtain⟨rfl,_⟩:=OY (C:=C) (d:=V) (by simpa only[Aw]using D);exact G
     case callD f args=>
      cases a4:C.ro f
      case true=>
       rw[SG U (d:=V) a4 (aB:=aB) (args:=args) (v:=vj) (bx1:=J) (by simpa only[Aw]using D)];exact G
      obtain⟨S,rfl,Y,_,_⟩:=Uz (C:=C) (d:=V) (f:=f) (args:=args) (aB:=aB) (by simpa only[Aw]using D);rw[Mh _ _ _ λp hp e=>by
       have:=Fz.2 (Y p hp);rw[<-e]at this;simp only[Prim.meet,a4,Bool.not_false,Bool.true_and]at hm;rw[hm]at this;cases this]
      exact G
     case call=>
      obtain⟨rfl,_⟩:=L_ (d:=V) D;exact G
     case load=>
      repeat' split at D
      all_goals first|(simp at D;done)|(simp at D;rw[<-D.2];exact G)
     case store k' o' O=>
      split at D
      ·split at D
       ·simp at D;rw[<-D.2,DF _ _ _ _ (a9 hm)];exact G
       ·simp at D
      ·simp at D
     case new ty cs=>
      split at D
      ·rename_i d;split at D
       ·simp at D
       ·rename_i hn;simp at D;rw[<-D.2,DY _ _ _ _ (by rintro rfl;rw[hn]at G;simp at G)];exact G
      ·simp at D
    simp only[Aw,hl,h2]
 case store key off cs=>
  cases G:Ac bx key with
  |none=>rw[G]at I;simp at I
  |some b=>
   rw[G]at I;dsimp only at I;split at I
   ·rename_i hle;simp at I;obtain⟨rfl,rfl⟩:=I;cases pj<;>simp only[Aw]at D<;>try (simp at D;done)
    case val v=>simp at D;obtain⟨rfl,rfl⟩:=D;exact⟨bx,rfl,by simp only[Aw,G,hle,if_true]⟩
    case newView e ks l=>simp at D;obtain⟨rfl,rfl⟩:=D;exact⟨bx,rfl,by simp only[Aw,G,hle,if_true]⟩
    case rload g sz id idx sub=>
     obtain⟨rfl,X⟩:=OY (C:=C) (d:=V) (by simpa only[Aw]using D);exact⟨bx,X _ _,by simp only[Aw,G,hle,if_true]⟩
    case callD f args=>
     obtain⟨S,rfl,Y,_,X⟩:=Uz (C:=C) (d:=V) (f:=f) (args:=args) (aB:=aB) (by simpa only[Aw]using D);have T:key∉A4 (cat AC.keys (cat TV.cellsOf args)) []:=λe=>by
      have:=Fz.2 e;simp only[Prim.meet]at hm;rw[hm]at this;cases this
     have L:∀p∈S,key≠nth 0 (A4 (cat AC.keys (cat TV.cellsOf args)) []) (p.1-base):=λp hp e=>T (by rw[e];exact Y p hp);refine⟨_,X V bx λk a1=>(DF _ _ _ _ (by rintro rfl;exact T a1)).symm,?_⟩;simp only[Aw];rw[Mh _ _ _ L,G];simp only[hle,if_true];rw[Qfd _ _ _ _ L]
    case call f args=>
     obtain⟨rfl,X⟩:=L_ (d:=V) D;exact⟨bx,X _ _,by simp only[Aw,G,hle,if_true]⟩
    case load g sz k' o'=>
     have T:=a9 hm;rw[DF _ _ _ _ (λe=>T e.symm)]at D;refine⟨bx,?_,?_⟩
     ·simp only[Aw]
      repeat' split at D
      all_goals first|(simp at D;done)|skip
      rename_i q1 _ _ q2;simp at D;obtain⟨rfl,_⟩:=D;simp only[q1,q2]
     ·have:J=upd bx key ⟨b.ty,splice b.cells off cs⟩:=by
       repeat' split at D
       all_goals first|(simp at D;done)|(simp at D;exact D.2.symm)
      subst this;simp only[Aw,G,hle,if_true]
    case store k' o' O=>
     have T:=a9 hm;rw[DF _ _ _ _ (λe=>T e.symm)]at D;cases h2:Ac bx k' with
     |none=>rw[h2]at D;simp at D
     |some b'=>
      rw[h2]at D;dsimp only at D;split at D
      ·rename_i a0;simp at D;obtain⟨rfl,rfl⟩:=D;refine⟨upd bx k' ⟨b'.ty,splice b'.cells o' O⟩,by simp only[Aw,h2,a0,if_true],?_⟩;simp only[Aw];rw[DF _ _ _ _ T,G];simp only[hle,if_true];rw[Vv _ _ _ _ _ T]
      ·simp at D
    case new ty O=>
     split at D
     ·rename_i d;split at D
      ·simp at D
      ·rename_i hn;simp at D;obtain⟨rfl,rfl⟩:=D;have a5:d≠key:=by
        rintro rfl;rw[E8 _ _ _ _ G]at hn;simp at hn
       rw[DF _ _ _ _ a5]at hn;refine⟨ins bx d ⟨ty,O⟩,by simp only[Aw,hn],?_⟩;simp only[Aw];rw[DY _ _ _ _ (λe=>a5 e.symm),G];simp only[hle,if_true];rw[SC _ _ _ _ _ a5]
     ·simp at D
   ·simp at I
 case new ty cs=>
  cases b1:di with
  |none=>rw[b1]at I;simp at I
  |some d=>
   rw[b1]at I;dsimp only at I;cases G:Ac bx d with
   |some _=>rw[G]at I;simp at I
   |none=>
    rw[G]at I;simp at I;obtain⟨rfl,rfl⟩:=I;have N:∀bb,Ac bb d=none->Aw (C:=C) (some d) (.new ty cs) bb aB=some (.c (.ptr d 0),ins bb d ⟨ty,cs⟩):=by
     intro bb hb;simp only[Aw,hb]
    cases pj<;>simp only[Aw]at D<;>try (simp at D;done)
    case val v=>simp at D;obtain⟨rfl,rfl⟩:=D;exact⟨bx,rfl,N bx G⟩
    case newView e ks l=>simp at D;obtain⟨rfl,rfl⟩:=D;exact⟨bx,rfl,N bx G⟩
    case rload g sz id idx sub=>
     obtain⟨rfl,X⟩:=OY (C:=C) (d:=V) (by simpa only[Aw]using D);exact⟨bx,X _ _,N bx G⟩
    case callD f args=>
     obtain⟨S,rfl,Y,_,X⟩:=Uz (C:=C) (d:=V) (f:=f) (args:=args) (aB:=aB) (by simpa only[Aw]using D);have T:d∉A4 (cat AC.keys (cat TV.cellsOf args)) []:=λe=>by
      obtain⟨b,hb⟩:=Zzk a8 e;rw[G]at hb;cases hb
     have L:∀p∈S,d≠nth 0 (A4 (cat AC.keys (cat TV.cellsOf args)) []) (p.1-base):=λp hp e=>T (by rw[e];exact Y p hp);refine⟨_,X V bx λk a1=>(DY _ _ _ _ (by rintro rfl;exact T a1)).symm,?_⟩;rw[N _ (by rw[Mh _ _ _ L];exact G),Qa3 _ _ _ _ L]
    case call f args=>
     obtain⟨rfl,X⟩:=L_ (d:=V) D;exact⟨bx,X _ _,N bx G⟩
    case load g sz k' o'=>
     obtain⟨b',M⟩:=a8;have T:k'≠d:=by rintro rfl;rw[G]at M;simp at M
     rw[DY _ _ _ _ T]at D;refine⟨bx,?_,?_⟩
     ·simp only[Aw]
      repeat' split at D
      all_goals first|(simp at D;done)|skip
      rename_i q1 _ _ q2;simp at D;obtain⟨rfl,_⟩:=D;simp only[q1,q2]
     ·have:J=ins bx d ⟨ty,cs⟩:=by
       repeat' split at D
       all_goals first|(simp at D;done)|(simp at D;exact D.2.symm)
      subst this;exact N bx G
    case store k' o' O=>
     obtain⟨⟨b',M⟩,_⟩:=a8;have T:k'≠d:=by rintro rfl;rw[G]at M;simp at M
     rw[DY _ _ _ _ T,M]at D;dsimp only at D;split at D
     ·rename_i a0;simp at D;obtain⟨rfl,rfl⟩:=D;refine⟨upd bx k' ⟨b'.ty,splice b'.cells o' O⟩,by simp only[Aw,M,a0,if_true],?_⟩;rw[N _ (by rw[DF _ _ _ _ (λe=>T e.symm)];exact G),SC _ _ _ _ _ (λe=>T e.symm)]
     ·simp at D
    case new b4 O=>
     cases b2:V with
     |none=>rw[b2]at D;simp at D
     |some e=>
      rw[b2]at D;dsimp only at D;have b3:d≠e:=by rintro rfl;exact hd d b1 b2
      rw[DY _ _ _ _ (λq=>b3 q.symm)]at D;cases h2:Ac bx e with
      |some _=>rw[h2]at D;simp at D
      |none=>
       rw[h2]at D;simp at D;obtain⟨rfl,rfl⟩:=D;refine⟨ins bx e ⟨b4,O⟩,by simp only[Aw,h2],?_⟩;rw[N _ (by rw[DY _ _ _ _ b3];exact G),ZT _ _ _ _ _ b3]
end
open Go.RowKit
structure WFst (s : St) : Prop where
 t:∀v∈s.tmps,TV.wf s.aA s.aB v
 b:∀(k:Nat) (b:Box),Ac s.aA k=some b->∀a∈b.cells,AC.wf s.aA s.aB a
section
variable {P:Program} {C:Cfg} {w:World} {R:Type} {Z:Base}
theorem Z41 {d:Option Tmp} {f:FuncId} {args:List TV} {bx D:List (Nat×Box)} {aB:List (Nat×Row)} {v:TV} (h:Aw (C:=C) d (.call f args) bx aB=some (v,D)):TV.wf D aB v:=by
 simp only[Aw]at h;split at h
 ·split at h
  ·split at h
   ·split at h
    ·rename_i E;simp at h;obtain⟨rfl,_⟩:=h;simp only[ak]at E;exact KM E.2
    ·simp at h
   ·simp at h
  ·simp at h
 ·simp at h
theorem Q4f {bx:List (Nat×Box)} {aB:List (Nat×Row)}:∀(ks:List Kd) (cs:List AC) (j:Nat),∀c∈E4 ks cs j,AC.wf bx aB c
 |[],_,_,c,D=>by simp[E4]at D
 |k::ks,cs,j,c,D=>by
  simp only[E4,av]at D;rcases D with rfl|D
  ·cases k<;>try exact trivial
   generalize nth AC.dead cs j=b;cases b<;>exact trivial
  ·exact Q4f ks cs _ c D
theorem Q2r {α:Type}:∀(l:List (Nat×α)) (k:Nat) (x:α),Ac l k=none->Ac (upd l k x) k=none
 |[],_,_,_=>rfl
 |(j,c)::l,k,x,h=>by
  simp only[Ac]at h;cases hb:Nat.beq j k<;>rw[hb]at h
  ·simp only[upd,hb,an,Ac];exact Q2r l k x h
  ·simp at h
theorem Quf {keys:List Nat}:∀(m:List (Nat×Box)) (l:List (Nat×Box)) {n:Nat} {b:Box},Ac (CU keys m l) n=some b->Ac l n=some b\/∃p∈m,p.2=b
 |[],_,_,_,h=> .inl h
 |(j,c)::m,l,n,b,h=>by
  simp only[CU]at h;rcases Quf m _ h with h|⟨p,E,e⟩
  ·by_cases e:n=nth 0 keys (j-base)
   ·subst e;cases D:Ac l (nth 0 keys (j-base))with
    |none=>rw[Q2r _ _ _ D]at h;cases h
    |some y=>
     rw[E8 _ _ _ _ D]at h;simp at h;subst h;exact .inr ⟨(j,c),by simp,rfl⟩
   ·rw[DF _ _ _ _ e]at h;exact .inl h
  ·exact .inr ⟨p,by simp[E],e⟩
theorem Qu2 {d:Option Tmp} {f:FuncId} {args:List TV} {bx G:List (Nat×Box)} {aB:List (Nat×Row)} {v:TV} (h:Aw (C:=C) d (.callD f args) bx aB=some (v,G)):
  ∃D,G=CU (A4 (cat AC.keys (cat TV.cellsOf args)) []) D bx/\True/\v.plainB=true/\∀p∈D,Ak AC.calm p.2.cells=true:=by
 simp only[Aw]at h;generalize A4 (cat AC.keys (cat TV.cellsOf args)) []=keys at h⊢
 repeat' split at h
 all_goals first|(simp at h;done)|skip
 rename_i I D _ E;simp only[ap,cz]at h;obtain⟨rfl,rfl⟩:=h;simp only[ak]at E;exact⟨D,rfl,trivial,E.2,Ax.1 E.1.2⟩
theorem Z6x {ops:List Oper} {o:Oper} {tm:List TV} {bx O:List (Nat×Box)} {aB:List (Nat×Row)} {p:Option Prim} {v:TV} (L:WFst ⟨tm,bx,aB⟩) (h:DE P C ops o tm bx aB=some (p,v,O)):
  WFst ⟨tm,O,aB⟩/\TV.wf O aB v/\∀q,p=some q->Prim.wf bx aB q:=by
 unfold DE at h;split at h
 ·cases N:opK P C (A3 tm) o.dst o.op some with
  |none=>rw[N]at h;simp at h
  |some q=>
   rw[N]at h;simp only[ag]at h;have T:=Zc (pre:=false) (Qbn (aA:=bx) (aB:=aB) (λx=>Z9 L.t x) N);clear N;generalize q.dr false=q at h T⊢;cases D:Aw (C:=C) o.dst q bx aB with
   |none=>rw[D]at h;simp at h
   |some z=>
    rw[D]at h;simp at h;obtain⟨rfl,rfl,rfl⟩:=h;have M:∀{S:List (Nat×Box)},(∀a,AC.wf bx aB a->AC.wf S aB a)->(∀(k:Nat) (b:Box),Ac S k=some b->∀a∈b.cells,AC.wf bx aB a)->WFst ⟨tm,S,aB⟩:=
     λG hb=>⟨λv U=>TV.wf_mono G (L.t v U),λk b E a D=>G a (hb k b E a D)⟩
    refine⟨?_,?_,λq' e=>by simp at e;subst e;exact T⟩;all_goals
     cases q<;>simp only[Aw]at D<;>try (simp at D;done)
    ·simp at D;subst D;exact L
    ·repeat' split at D
     all_goals first|(simp at D;done)|(simp at D;subst D;exact L)
    ·rename_i key off cs;split at D
     ·rename_i b hb;split at D
      ·simp at D;subst D;refine M (λa => AC.wf_mono (λk bo J => by
        by_cases I:k=key
        ·subst I;exact⟨_,E8 _ _ _ _ hb⟩
        ·exact⟨bo,by rw[DF _ _ _ _ I];exact J⟩) (λk r E=>⟨r,E,rfl,rfl⟩)) ?_
       intro k bo E a G;by_cases I:k=key
       ·subst I;rw[E8 _ _ _ _ hb]at E;simp at E;subst E;rcases UL _ _ _ G with G|G
        ·exact L.b k b hb a G
        ·exact T.2 a G
       ·rw[DF _ _ _ _ I]at E;exact L.b k bo E a G
      ·simp at D
     ·simp at D
    ·rename_i ty cs;split at D
     ·rename_i d hd;split at D
      ·simp at D
      ·rename_i X;simp at D;subst D;refine M (λa=>AC.wf_mono (λk bo J=>⟨bo,by rw[DY _ _ _ _ (by rintro rfl;rw[X]at J;simp at J)];exact J⟩) (λk r E=>⟨r,E,rfl,rfl⟩)) ?_;intro k bo E a G;by_cases I:k=d
       ·subst I;rw[Fh _ _ _ X]at E;simp at E;subst E;exact T a G
       ·rw[DY _ _ _ _ I]at E;exact L.b k bo E a G
     ·simp at D
    ·rename_i g sz id idx sub;obtain⟨z1,z2⟩:=z;obtain⟨rfl,_⟩:=OY (C:=C) (d:=o.dst) (by simpa only[Aw]using D);exact L
    ·simp at D;subst D;exact L
    ·obtain⟨rfl,_⟩:=L_ (d:=o.dst) D;exact L
    ·rename_i f args;obtain⟨z1,z2⟩:=z;obtain⟨Y,rfl,a1,_,V⟩:=Qu2 (C:=C) (d:=o.dst) (f:=f) (args:=args) (aB:=aB) (by simpa only[Aw]using D);refine M (λa=>AC.wf_mono (λk bo J=>Ri _ _ J) (λk r E=>⟨r,E,rfl,rfl⟩)) ?_;intro k bo E a G;rcases Quf _ _ E with E|⟨p,N,rfl⟩
     ·exact L.b k bo E a G
     ·exact Qye (V p N) a G
    ·simp at D;subst D;exact T
    ·split at D
     ·rename_i b hb;split at D
      ·rename_i v U;simp at D;subst D;exact Rf U (L.b _ b hb)
      ·simp at D
     ·simp at D
    ·repeat' split at D
     all_goals first|(simp at D;done)|(simp at D;subst D;trivial)
    ·rename_i ty cs;split at D
     ·rename_i d hd;split at D
      ·simp at D
      ·rename_i X;simp at D;subst D;exact CY ⟨_,Fh _ _ _ X⟩
     ·simp at D
    ·split at D
     ·rename_i r hr;split at D
      ·rename_i v U;simp at D;subst D;exact Rf U λa G=>Q4f r.ks _ 0 a G
      ·simp at D
     ·simp at D
    ·simp at D;subst D;exact CY trivial
    ·rename_i f args;exact Z41 (d:=o.dst) D
    ·rename_i f args;obtain⟨z1,z2⟩:=z;obtain⟨Y,_,_,a0,_⟩:=Qu2 (C:=C) (d:=o.dst) (f:=f) (args:=args) (aB:=aB) (by simpa only[Aw]using D);exact KM a0
 ·simp at h;obtain⟨rfl,rfl,rfl⟩:=h;exact⟨L,λp N=>by simp at N,λq e=>by simp at e⟩
 ·simp at h
theorem ZZ {tm:List TV} {bx:List (Nat×Box)} {aB:List (Nat×Row)} {d:Option Tmp} {v:TV} (E:WFst ⟨tm,bx,aB⟩) (G:TV.wf bx aB v):WFst ⟨C8 tm d v,bx,aB⟩:=by
 cases d with
 |none=>exact E
 |some t=>
  refine⟨λu D=> ?_,E.b⟩;simp only[C8,I2]at D;rcases List.mem_or_eq_of_mem_set D with D|rfl
  ·exact E.t u D
  ·exact G
theorem Zly {id:Nat} {bx:List (Nat×Box)} {k:Nat} {b:Box} (h:Ac (bx.map λp=>(p.1,p.2.kill id)) k=some b):∃b',Ac bx k=some b'/\b=b'.kill id:=by
 have:=GJ (Box.kill id) bx k;rw[this]at h;simp only[bp]at h;obtain⟨b',D,rfl⟩:=h;exact⟨b',D,rfl⟩
theorem Wr {bx:List (Nat×Box)} {aB D:List (Nat×Row)} {id:Nat} (M:∀j,j≠id->Ac D j=Ac aB j) {a:AC} (h:AC.wf bx aB a):AC.wf (bx.map λp=>(p.1,p.2.kill id)) D (a.kill id):=by
 have hb:∀k b,Ac bx k=some b->∃b',Ac (bx.map λp=>(p.1,p.2.kill id)) k=some b':=λk b O=>⟨b.kill id,by have:=GJ (Box.kill id) bx k;rw[this,O];rfl⟩;have N:∀c,AC.wfP bx c->AC.wfP (bx.map λp=>(p.1,p.2.kill id)) c:=by
  intro c G;cases c<;>try exact trivial
  obtain⟨b,E⟩:=G;exact hb _ _ E
 cases a<;>try exact trivial
 case ptr k o=>
  obtain⟨b,E⟩:=h;exact hb _ _ E
 case bsl k o=>
  obtain⟨b,E⟩:=h;exact hb _ _ E
 case own j w n=>
  simp only[AC.kill];cases I:Nat.beq j id
  ·obtain⟨r,J,L⟩:=h;exact⟨r,by rw[M j (Hi I)];exact J,L⟩
  ·exact trivial
 case rptr j a b=>
  simp only[AC.kill];cases I:Nat.beq j id
  ·obtain⟨r,J,L⟩:=h;exact⟨r,by rw[M j (Hi I)];exact J,L⟩
  ·exact trivial
 case vptr cs sub=>exact h
 case clo f fs cs=>exact⟨λc G=>N c (h.1 c G),λc G=>N c (h.2 c G)⟩
theorem Z2f {dst:Option Tmp} {aB D:List (Nat×Row)} {p:Prim} {id:Nat} {v:TV} (G:KL dst p=some id) (E:K_ dst aB p=some (v,D)):(∀j,j≠id->Ac D j=Ac aB j)/\TV.wf [] D v:=by
 cases p<;>simp[KL]at G
 rename_i e ks bytes J x;cases J<;>simp at G
 case nilSl=>
  subst G;simp only[K_,Qli]at E
  repeat' split at E
  all_goals first|(simp at E;done)|skip
  rename_i L _ _;simp only[ap,cz]at E;obtain⟨rfl,rfl⟩:=E;refine⟨λj I=>DY _ _ _ _ I,CY ?_⟩;exact⟨_,Fh _ _ _ L,rfl,rfl⟩
 rename_i id' w n;subst G;simp only[K_,Qde]at E
 repeat' split at E
 all_goals first|(simp at E;done)|skip
 rename_i r M _ _;simp only[ap,cz]at E;obtain⟨rfl,rfl⟩:=E;refine⟨λj I=>DF _ _ _ _ I,CY ?_⟩;exact⟨_,E8 _ _ _ _ M,rfl,rfl⟩
theorem Q0p {aB rows':List (Nat×Row)}:∀{args:List TV},Ak TV.plainB args=true->G8 aB args=G8 rows' args
 |[],_=>rfl
 |a::l,h=>by
  simp only[Ak]at h;have E:a.plainB=true/\Ak TV.plainB l=true:=by cases I:a.plainB<;>rw[I]at h<;>simp at h;exact⟨rfl,h⟩
  have e:a.res aB=a.res rows':=by
   cases a with
   |dead=>rfl
   |tup ps=>rfl
   |v g cs=>
    simp only[TV.res];have:FT aB cs=FT rows' cs:=by
     have D:=E.1;simp only[TV.plainB]at D;clear h E;induction cs with
     |nil=>rfl
     |cons c cs J=>
      simp only[Ak]at D;have G:c.plain=true/\Ak AC.plain cs=true:=by cases L:c.plain<;>rw[L]at D<;>simp at D;exact⟨rfl,D⟩
      simp only[FT];rw[J G.2];have:c.res aB=c.res rows':=by
       have:=G.1;cases c<;>simp[AC.plain]at this<;>rfl
      rw[this]
    rw[this]
  simp only[G8];rw[e,Q0p E.2]
theorem Z1i {dst:Option Tmp} {aB E:List (Nat×Row)} {p:Prim} {v:TV} (h:mkD (C:=C) dst p aB=some (v,E)):(∀j r,Ac aB j=some r->Ac E j=some r)/\TV.wf [] E v:=by
 unfold mkD at h;cases D:mkG (C:=C) dst p with
 |none=>rw[D]at h;simp at h
 |some q=>
  obtain⟨M,o⟩:=q;rw[D]at h;cases o with
  |none=>
   simp only[ap,cz]at h;obtain⟨rfl,rfl⟩:=h;refine⟨λ_ _ h=>h,?_⟩;unfold mkG at D;split at D
   ·split at D<;>simp at D
   ·split at D
    ·split at D
     ·split at D
      ·split at D
       ·rename_i J;simp only[ap,cz]at D;rw[<-D.1];exact KM J
       ·simp at D
      ·split at D<;>simp at D
      ·simp at D
     ·simp at D
    ·simp at D
   ·simp at D
  |some L=>
   obtain⟨k,r⟩:=L;dsimp only at h;split at h
   ·simp at h
   ·rename_i G;simp only[ap,cz]at h;obtain⟨rfl,rfl⟩:=h;refine⟨λj r' I=>by rw[DY _ _ _ _ (by rintro rfl;rw[G]at I;cases I)];exact I,?_⟩;unfold mkG at D;split at D
    ·split at D
     ·simp only[ap,cz]at D;obtain⟨rfl,rfl,rfl⟩:=D;exact CY ⟨_,Fh _ _ _ G,rfl,rfl⟩
     ·simp at D
    ·split at D
     ·split at D
      ·split at D
       ·split at D<;>simp at D
       ·split at D
        ·simp only[ap,cz]at D;obtain⟨rfl,rfl,rfl⟩:=D;exact CY ⟨_,Fh _ _ _ G,rfl,rfl⟩
        ·simp at D
       ·simp at D
      ·simp at D
     ·simp at D
    ·simp at D
theorem Z5m {ops:List Oper} {o:Oper} {s U:St} {p:Option Prim} (L:WFst s) (h:Cs (P:=P) (C:=C) ops o s=some (p,U)):WFst U:=by
 obtain⟨tm,bx,aB⟩:=s;cases V:Prim.isApp p
 ·cases M:Prim.isMk p
  case true=>
   obtain⟨_,q,v,D,_,rfl,O,rfl⟩:=TT h M;obtain⟨N,S⟩:=Z1i O;have E:∀a,AC.wf bx aB a->AC.wf bx D a:=λa=>AC.wf_mono (λk b G=>⟨b,G⟩) (λk r G=>⟨r,N k r G,rfl,rfl⟩);exact ZZ ⟨λu J=>TV.wf_mono E (L.t u J),λk b G a Y=>E a (L.b k b G a Y)⟩ (TV.wf_mono (λa E=>AC.wf_mono (aA:=[]) (aB:=D) (λk b G=>by simp[Ac]at G) (λk r G=>⟨r,G,rfl,rfl⟩) E) S)
  obtain⟨v,a0,I,rfl⟩:=Nk h V M;obtain⟨h1,h2,_⟩:=Z6x L I;exact ZZ h1 h2
 ·obtain⟨_,q,id,v,D,_,rfl,h3,O,rfl⟩:=Qho h V;obtain⟨N,S⟩:=Z2f h3 O;refine ZZ ⟨λu J=> ?_,λk b G a E=> ?_⟩ (TV.wf_mono (λa E=>AC.wf_mono (aA:=[]) (aB:=D) (λk b G=>by simp[Ac]at G) (λk r G=>⟨r,G,rfl,rfl⟩) E) S)
  ·simp only[ba]at J;obtain⟨u,J,rfl⟩:=J;have:=L.t u J;cases u with
   |dead=>trivial
   |v g cs=>
    intro a E;simp only[ba]at E;obtain⟨c,I,rfl⟩:=E;exact Wr N (this c I)
   |tup ps=>
    intro p X a E;simp only[ba]at X;obtain⟨q,hq,rfl⟩:=X;simp only[ba]at E;obtain⟨c,I,rfl⟩:=E;exact Wr N (this q hq c I)
  ·obtain⟨b',T,rfl⟩:=Zly G;simp only[Box.kill,ba]at E;obtain⟨c,I,rfl⟩:=E;exact Wr N (L.b k b' T c I)
theorem Zav {o:Op} {p:Option Prim} (h:Prim.still o p=true):Prim.isMk p=false:=by
 cases p with
 |none=>rfl
 |some q=>cases q<;>first|rfl|(cases o<;>simp[Prim.still,Prim.isLive,Prim.isPtr]at h)
theorem Z7f {d:Option Tmp} {p:Prim} {bx E:List (Nat×Box)} {aB:List (Nat×Row)} {v:TV} (G:Prim.mkStill (some p)=true) (h:Aw (C:=C) d p bx aB=some (v,E)):
  E=bx/\∀D,Aw (C:=C) d p bx D=some (v,bx):=by
 cases p<;>simp[Prim.mkStill]at G
 case val u=>simp only[Aw,ap,cz]at h⊢;obtain⟨rfl,rfl⟩:=h;exact⟨rfl,λ_=>by simp⟩
 case newView e ks l=>simp only[Aw,ap,cz]at h⊢;obtain⟨rfl,rfl⟩:=h;exact⟨rfl,λ_=>by simp⟩
 case load g sz key off=>
  simp only[Aw]at h⊢
  repeat' split at h
  all_goals first|(simp at h;done)|skip
  simp at h;obtain⟨rfl,rfl⟩:=h;exact⟨rfl,λ_=>rfl⟩
 case call f args=>
  obtain⟨rfl,_⟩:=L_ h;refine⟨rfl,λD=> ?_⟩;simp only[Aw]at h⊢;rw[Q0p (aB:=D) (rows':=aB) G];exact h
 case newRow e ks l=>simp[Aw]at h
 case callF f args=>simp[Aw]at h
theorem Q50 {ops:List Oper} {o:Oper} {tm:List TV} {bx E:List (Nat×Box)} {aB:List (Nat×Row)} {p:Option Prim} {v:TV} (J:Prim.mkStill p=true) (h:DE P C ops o tm bx aB=some (p,v,E)):
  E=bx/\∀D,DE P C ops o tm bx D=some (p,v,bx):=by
 unfold DE at h⊢;split at h
 ·cases I:opK P C (A3 tm) o.dst o.op some with
  |none=>rw[I]at h;simp at h
  |some q=>
   rw[I]at h;simp only[ag]at h⊢;cases G:Aw (C:=C) o.dst (q.dr false) bx aB with
   |none=>rw[G]at h;simp at h
   |some z=>
    rw[G]at h;simp at h;obtain⟨rfl,rfl,rfl⟩:=h;obtain⟨e1,e2⟩:=Z7f J G;refine⟨e1,λD=> ?_⟩;rw[e2 D];rfl
 ·simp at h;obtain⟨rfl,rfl,rfl⟩:=h;exact⟨rfl,λ_=>rfl⟩
 ·simp at h
theorem Zx5 {S T:Option Tmp} {U V:Prim} {aB G D:List (Nat×Row)} {Y vj:TV} (J:mkD (C:=C) S U aB=some (Y,G)) (I:mkD (C:=C) T V G=some (vj,D)):
  ∃E,mkD (C:=C) T V aB=some (vj,E)/\mkD (C:=C) S U E=some (Y,D):=by
 unfold mkD at*;cases N:mkG (C:=C) S U with
 |none=>rw[N]at J;simp at J
 |some qi=>
  obtain⟨v1,o1⟩:=qi;rw[N]at J;cases O:mkG (C:=C) T V with
  |none=>rw[O]at I;simp at I
  |some qj=>
   obtain⟨v2,o2⟩:=qj;rw[O]at I;cases o1 with
   |none=>
    simp only[ap,cz]at J;obtain⟨rfl,rfl⟩:=J;exact⟨D,I,rfl⟩
   |some k1=>
    obtain⟨k,r⟩:=k1;dsimp only at J;split at J
    ·simp at J
    rename_i X;simp only[ap,cz]at J;obtain⟨rfl,rfl⟩:=J;cases o2 with
    |none=>
     simp only[ap,cz]at I;obtain⟨rfl,rfl⟩:=I;refine⟨aB,rfl,?_⟩;dsimp only;rw[X]
    |some k2=>
     obtain⟨k',r'⟩:=k2;dsimp only at I;split at I
     ·simp at I
     rename_i L;simp only[ap,cz]at I;obtain⟨rfl,rfl⟩:=I;have M:k'≠k:=by
      rintro rfl;rw[Fh _ _ _ X]at L;cases L
     rw[DY _ _ _ _ M]at L;refine⟨ins aB k' r',by dsimp only;rw[L],?_⟩;dsimp only;rw[DY _ _ _ _ (λe=>M e.symm),X];dsimp only;rw[ZT _ _ _ _ _ M]
theorem Z03 (a9:Aj P C) {ops:Array Oper} {x y:Oper} {s s1 s2:St} {px py:Option Prim} (hw:WFst s) (hy:Cs (P:=P) (C:=C) ops.toList y s=some (py,s1)) (hx:Cs (P:=P) (C:=C) ops.toList x s1=some (px,s2))
  (b7:Oper.apart ops y x=true) (hm:Prim.meet C.ro py px=false) (G:IS y py x px=true):∃b1,Cs (P:=P) (C:=C) ops.toList x s=some (px,b1)/\Cs (P:=P) (C:=C) ops.toList y b1=some (py,s2):=by
 obtain⟨a1,a2,a3⟩:=Oper.apart_spec b7;obtain⟨tm,bx,aB⟩:=s;have J:∀(o:Oper) (tm:List TV),o.guard.isNone=true->B8 ops.toList o tm=some true:=by
  intro o tm h;unfold B8;rw[Option.isNone_iff_eq_none.1 h]
 have L:∀(o:Oper) (tm:List TV) (d:Option Tmp) (v:TV),(∀t,d=some t->t∉o.looksAt ops)->opK P C (A3 (C8 tm d v)) o.dst o.op some=opK P C (A3 tm) o.dst o.op some:=by
  intro o tm d v h;cases d with
  |none=>rfl
  |some t=>
   exact Sc (λx hx => Qwa (by
    rintro rfl;exact h t rfl (List.mem_append_left _ (List.mem_filterMap.2 ⟨.tmp t,by simpa using hx,rfl⟩)))) some
 cases U:Prim.isApp py
 case true=>
  unfold IS at G;rw[U]at G;simp only[ai,ak]at G;obtain⟨⟨⟨o1,o2⟩,o3⟩,o4⟩:=G;have V:Prim.isApp px=false:=by simpa using o1
  obtain⟨_,q,id,vy,a4,hq,rfl,h3,h4,rfl⟩:=Qho hy U;obtain⟨vx,a7,D,rfl⟩:=Nk hx V (Zav o4);unfold DE at D;rw[J x _ o3]at D;dsimp only at D;rw[L x _ _ _ (λt I=>a1 t I)]at D;cases X:opK P C (A3 (tm.map (TV.kill id))) x.dst x.op some with
  |none=>rw[X]at D;simp at D
  |some qx=>
   rw[X]at D;simp only[ag]at D;cases N:Aw (C:=C) x.dst (qx.dr false) (bx.map λp=>(p.1,p.2.kill id)) a4 with
   |none=>rw[N]at D;simp at D
   |some zx=>
    rw[N]at D;simp at D;obtain⟨rfl,rfl,rfl⟩:=D;obtain⟨g,cs,rfl,hl⟩:=Q4s o4;simp only[Prim.dr,Aw,ap]at N;subst N;have b2:=(Qv0 (P:=P) (C:=C) (id:=id) (tm:=tm) (dst:=x.dst) o4).1 X;refine⟨⟨C8 tm x.dst (.v g cs),bx,aB⟩,OX (by unfold DE;rw[J x _ o3];dsimp only;rw[b2];rfl),?_⟩;rw[Q1p (J y _ o2) (by rw[L y _ _ _ (λt I=>a3 t I)];exact hq) h3 h4 U,Qx0 hl];dsimp only;rw[OL vy _ a2]
 case false=>
 cases V:Prim.isApp px
 case true=>
  unfold IS at G;rw[U,V]at G;simp only[ai,an,ak]at G;obtain⟨⟨o2,o3⟩,o4⟩:=G;obtain⟨vy,b3,E,rfl⟩:=Nk hy U (Zav o4);obtain⟨_,q,id,vx,a4,hq,rfl,h3,h4,rfl⟩:=Qho hx V;rw[L x _ _ _ (λt I=>a1 t I)]at hq;unfold DE at E;rw[J y _ o2]at E;dsimp only at E;cases a0:opK P C (A3 tm) y.dst y.op some with
  |none=>rw[a0]at E;simp at E
  |some qy=>
   rw[a0]at E;simp only[ag]at E;cases O:Aw (C:=C) y.dst (qy.dr false) bx aB with
   |none=>rw[O]at E;simp at E
   |some zy=>
    rw[O]at E;simp at E;obtain⟨rfl,rfl,rfl⟩:=E;obtain⟨g,cs,rfl,hl⟩:=Q4s o4;simp only[Prim.dr,Aw,ap]at O;subst O;have b4:=(Qv0 (P:=P) (C:=C) (id:=id) (tm:=tm) (dst:=y.dst) o4).2 a0;refine⟨_,Q1p (J x _ o3) hq h3 h4 V,?_⟩;rw[OX (p:=some (.val (.v g cs))) (v:= .v g cs) (by unfold DE;rw[J y _ o2];dsimp only;rw[L y _ _ _ (λt I=>a3 t I),b4];rfl)];dsimp only[Prim.dr];rw[Qx0 hl,OL vx _ (λt I e=>a2 t e I)]
 case false=>
   unfold IS at G;rw[U,V]at G;simp only[an]at G;cases S:Prim.isMk py
   case true=>
    rw[S]at G;simp only[ai]at G;obtain⟨a8,qy,vy,b8,b5,rfl,O,rfl⟩:=TT hy S;cases M:Prim.isMk px
    case true=>
     obtain⟨Y,qx,vx,a5,a6,rfl,N,rfl⟩:=TT hx M;rw[QA (λt I=>a1 t I)]at Y;rw[L x _ _ _ (λt I=>a1 t I)]at a6;obtain⟨b6,m1,m2⟩:=Zx5 O N;refine⟨_,Tq Y a6 m1 M,?_⟩;rw[Tq (by rw[QA (λt I=>a3 t I)];exact a8) (by rw[L y _ _ _ (λt I=>a3 t I)];exact b5) m2 S,OL vy vx a2]
    case false=>
     obtain⟨vx,a7,D,rfl⟩:=Nk hx V M;rw[Tv (λt I=>a1 t I)]at D;obtain⟨rfl,b0⟩:=Q50 G D;refine⟨_,OX (b0 aB),?_⟩;rw[Tq (by rw[QA (λt I=>a3 t I)];exact a8) (by rw[L y _ _ _ (λt I=>a3 t I)];exact b5) O S,OL vy vx a2]
   case false=>
   rw[S]at G;simp only[an]at G;cases M:Prim.isMk px
   case true=>
    rw[M]at G;simp only[ai]at G;obtain⟨vy,b3,E,rfl⟩:=Nk hy U S;obtain⟨rfl,b0⟩:=Q50 G E;obtain⟨Y,qx,vx,a5,a6,rfl,N,rfl⟩:=TT hx M;rw[QA (λt I=>a1 t I)]at Y;rw[L x _ _ _ (λt I=>a1 t I)]at a6;refine⟨_,Tq Y a6 N M,?_⟩;rw[OX (by rw[Tv (λt I=>a3 t I)];exact b0 a5),OL vy vx a2]
   case false=>
   obtain⟨vy,b3,E,rfl⟩:=Nk hy U S;obtain⟨vx,a7,D,rfl⟩:=Nk hx V M;rw[Tv (λt I=>a1 t I)]at D;have key:∃T,DE P C ops.toList x tm bx aB=some (px,vx,T)/\DE P C ops.toList y tm T aB=some (py,vy,a7):=by
    unfold DE at E D⊢;split at E
    ·rename_i a8;cases a0:opK P C (A3 tm) y.dst y.op some with
     |none=>rw[a0]at E;simp at E
     |some qy=>
      rw[a0]at E;simp only[ag]at E;cases O:Aw (C:=C) y.dst (qy.dr false) bx aB with
      |none=>rw[O]at E;simp at E
      |some zy=>
       rw[O]at E;simp at E;obtain⟨rfl,rfl,rfl⟩:=E;split at D
       ·rename_i Y;cases X:opK P C (A3 tm) x.dst x.op some with
        |none=>rw[X]at D;simp at D
        |some qx=>
         rw[X]at D;simp only[ag]at D;cases N:Aw (C:=C) x.dst (qx.dr false) zy.2 aB with
         |none=>rw[N]at D;simp at D
         |some zx=>
          rw[N]at D;simp at D;obtain⟨rfl,rfl,rfl⟩:=D;obtain⟨T,m1,m2⟩:=Zmw a9 O N hm a2 (Zc (Qbn (λx=>Z9 hw.t x) X));exact⟨T,by simp[m1],by simp[m2]⟩
       ·rename_i Y;simp at D;obtain⟨rfl,rfl,rfl⟩:=D;exact⟨bx,rfl,by simp[O]⟩
       ·simp at D
    ·rename_i a8;simp at E;obtain⟨rfl,rfl,rfl⟩:=E;exact⟨a7,D,rfl⟩
    ·simp at E
   obtain⟨T,k1,k2⟩:=key;refine⟨⟨C8 tm x.dst vx,T,aB⟩,OX k1,?_⟩;rw[OX (by rw[Tv (λt I=>a3 t I)];exact k2),OL vy vx a2]
theorem Qs1 (D:Aj P C) {ops:Array Oper} {m:List Nat} {x:Nat×Oper×Option Prim} {post:List (Nat×Oper×Option Prim)} {M:St}:∀(pre:List (Nat×Oper×Option Prim)) (s:St),WFst s->RD P C ops.toList m (pre++x::post) s M->
  (∀y∈pre,DG ops.toList m x.1=false/\DG ops.toList m y.1=false/\Oper.apart ops y.2.1 x.2.1=true/\Prim.meet C.ro y.2.2 x.2.2=false/\IS y.2.1 y.2.2 x.2.1 x.2.2=true)->
  ∃s1,IJ P C ops.toList m x.1 x.2.1 s=some (x.2.2,s1)/\RD P C ops.toList m (pre++post) s1 M
 |[],s,I,h,_=>by
  obtain⟨i,o,p⟩:=x;exact h
 |(j,S,T)::pre,s,I,h,N=>by
  obtain⟨U,E,V⟩:=h;obtain⟨O,G,X,Y,q3⟩:=N (j,S,T) (by simp);have a0:=E;unfold IJ at E;rw[ab (by dsimp only at G;rw[G];simp)]at E;obtain⟨s2,J,h4⟩:=Qs1 D pre U (Z5m I E) V λy L=>N y (by simp[L]);unfold IJ at J;rw[ab (by rw[O];simp)]at J;obtain⟨s1,h5,h6⟩:=Z03 D I E J X Y q3;refine⟨s1,by unfold IJ;rw[ab (by rw[O];simp)];exact h5,s2,?_,h4⟩;unfold IJ;rw[ab (by dsimp only at G;rw[G];simp)];exact h6
inductive Before (ops : List Oper) : Nat -> Nat -> Prop where
 |one {i:Nat} {o:Oper} {e:Edge} (h:ops[i]? =some o) (he:e∈o.after.toList) (hb:Region.binds .any e=true):Before ops i e.on
 |more {i j:Nat} {o:Oper} {e:Edge} (h:ops[i]? =some o) (he:e∈o.after.toList) (hb:Region.binds .any e=true) (h':Before ops e.on j):Before ops i j
theorem Qjy {m:List Nat} {j:Nat}:∀(l:List Edge) (acc:Nat),Nat.testBit (Sv m l acc) j=true->Nat.testBit acc j=true\/∃e∈l,Region.binds .any e=true/\(e.on=j\/Nat.testBit (nth 0 m e.on) j=true)
 |[],acc,h=> .inl h
 |e::l,acc,h=>by
  simp only[Sv]at h;cases hb:Region.binds .any e<;>rw[hb]at h
  ·rcases Qjy l _ h with h|⟨D,he,h'⟩
   ·exact .inl h
   ·exact .inr ⟨D,by simp[he],h'⟩
  ·rcases Qjy l _ h with h|⟨D,he,h'⟩
   ·simp only[ai]at h;have:Nat.testBit (acc|||(2^e.on|||nth 0 m e.on)) j=true:=h;rw[Nat.testBit_or,Nat.testBit_or]at this;rw[Bool.or_eq_true,Bool.or_eq_true]at this;rcases this with h|h|h
    ·exact .inl h
    ·refine .inr ⟨e,by simp,hb, .inl ?_⟩;rw[Nat.testBit_two_pow]at h;simpa using h
    ·exact .inr ⟨e,by simp,hb, .inr h⟩
   ·exact .inr ⟨D,by simp[he],h'⟩
theorem Zo8 {α:Type} (n:Nat) (K:Nat->α):Q8g n K=K n:=by cases n<;>rfl
theorem Qwi {α:Type} (d:α):∀(l D:List α) (i:Nat),i<l.length->nth d (l++D) i=nth d l i
 |x::l,D,0,_=>rfl
 |x::l,D,i+1,h=>Qwi d l D i (by simpa using h)
theorem Qts {α:Type} (d x:α):∀(l:List α),nth d (l++[x]) l.length=x
 |[]=>rfl
 |y::l=>Qts d x l
theorem Qle {α:Type} (d:α):∀(l:List α) (i:Nat),l.length<=i->nth d l i=d
 |[],_,_=>rfl
 |x::l,0,h=>by simp at h
 |x::l,i+1,h=>Qle d l i (by simpa using h)
theorem Q0q {ops:List Oper} {K:List Nat->Option R} {r:R}:∀(l pre:List Oper) (m:List Nat),ops=pre++l->m.length=pre.length->(∀i j,i<m.length->Nat.testBit (nth 0 m i) j=true->Before ops i j)->S_ l m K=some r->
  ∃T,K T=some r/\∀i j,L8 T i j=true->Before ops i j
 |[],pre,m,he,M,L,h=>⟨m,h,λi j D=>by
   by_cases N:i<m.length
   ·exact L i j N D
   ·unfold L8 at D;rw[Qle 0 m i (by omega)]at D;simp at D⟩
 |o::l,pre,m,he,M,L,h=>by
  simp only[S_,Zo8,Bd]at h;refine Q0q l (pre++[o]) _ (by simp[he]) (by simp[M]) (λi j N D=> ?_) h;by_cases G:i<m.length
  ·rw[Qwi 0 m _ i G]at D;exact L i j G D
  ·have O:i=m.length:=by simp at N;omega
   subst O;rw[Qts]at D;have I:ops[m.length]? =some o:=by rw[he,M];simp
   rcases Qjy _ _ D with E|⟨e,J,hb,E⟩
   ·simp at E
   ·rcases E with E|E
    ·rw[<-E];exact .one I J hb
    ·by_cases S:e.on<m.length
     ·exact .more I J hb (L _ _ S E)
     ·rw[Qle 0 m _ (by omega)]at E;simp at E
end
open Go.RowKit
section
variable {P:Program} {C:Cfg} {w:World} {R:Type} {Z:Base}
theorem Zxd (L:Aj P C) {ops:List Oper} {o:Oper} {s M:St} {p:Option Prim} (h:Cs (P:=P) (C:=C) ops o s=some (p,M)) (Y:Prim.simple p=true) (K:Option Prim->St->Option R):
  F3 P C false ops o s K=K p M:=by
 have I:∀s1:St,s1=s->B8 ops o s.tmps=some true->(opK P C (A3 s1.tmps) o.dst o.op λp=>Ba C o.dst (p.dr false) s1 λv M=>put M o.dst v (K (some (p.dr false))))=K p M:=by
  rintro s1 rfl J;unfold Cs at h;rw[J]at h;dsimp only at h;rw[Qz];cases X:opK P C (A3 s1.tmps) o.dst o.op some with
  |none=>rw[X]at h;simp at h
  |some q=>
   rw[X]at h;simp only[ag]at h;cases U:Fo (C:=C) o.dst (q.dr false) s1 with
   |none=>rw[U]at h;simp at h
   |some z=>
    rw[U]at h;simp at h;obtain⟨rfl,rfl⟩:=h;simp only[ag];rw[Q5v L Y,U];simp only[ag,Mj]
 have G:∀s1:St,s1=s->B8 ops o s.tmps=some false->put s1 o.dst (.tup []) (K none)=K p M:=by
  rintro s1 rfl J;unfold Cs at h;rw[J]at h;simp at h;obtain⟨rfl,rfl⟩:=h;rw[Mj]
 unfold F3 PP;cases N:o.guard with
 |none=>exact I s rfl (by simp[B8,N])
 |some jw=>
  obtain⟨j,want⟩:=jw;dsimp only;cases O:ops[j]? with
  |none=>unfold Cs B8 at h;rw[N]at h;dsimp only at h;rw[O]at h;simp at h
  |some oj=>
   dsimp only;cases T:oj.dst with
   |none=>unfold Cs B8 at h;rw[N]at h;dsimp only at h;rw[O]at h;dsimp only at h;rw[T]at h;simp at h
   |some t=>
    dsimp only;split
    ·rename_i g E;have J:B8 ops o s.tmps=some (g==want):=by simp only[B8,N,O,T,E]
     have D:∀b,g=b->(⟨setL s.tmps t (.c (.bool b)),s.aA,s.aB⟩:St)=s:=by
      rintro b rfl;rw[Q5w E (by simp)]
     cases g
     ·simp only[an];rw[Fqs];dsimp only;cases want
      ·exact I _ (D false rfl) (by rw[J];rfl)
      ·exact G _ (D false rfl) (by rw[J];rfl)
     ·simp only[ai];rw[Fqs];dsimp only;cases want
      ·exact G _ (D true rfl) (by rw[J];rfl)
      ·exact I _ (D true rfl) (by rw[J];rfl)
    ·rename_i E;exact G _ rfl (by simp only[B8,N,O,T,E])
    ·rename_i V S;have J:B8 ops o s.tmps=none:=by
      unfold B8;rw[N];dsimp only;rw[O];dsimp only;rw[T];dsimp only;split
      ·rename_i g E;exact(V g E).elim
      ·rename_i E;exact(S E).elim
      ·rfl
     unfold Cs at h;rw[J]at h;simp at h
theorem Rel.wf {s:St} {tmps:Array Value} (h:Rel Z s tmps w):WFst s:=by
 obtain⟨ρ,h⟩:=h;exact⟨h.wt,h.wb⟩
structure Left (P : Program) (C : Cfg) (ops : Array Oper) (m : List Nat) (listed : Array Bool) (rem : List (Nat × Oper × Option Prim)) : Prop where
 sz:listed.size=ops.size
 op:∀x∈rem,ops[x.1]? =some x.2.1/\(DG ops.toList m x.1||Prim.simple x.2.2)=true/\∀e∈x.2.1.after,Region.binds .any e=true->e.on<x.1
 out:∀i,i<ops.size->(listed.getD i true=false↔∃x∈rem,x.1=i)
 ord:(rem.map (·.1)).Pairwise (· < ·)
 cl:∀j o,ops[j]? =some o->listed.getD j false=true->∀e∈o.after,Region.binds .any e=true->listed.getD e.on false=true
 pr:∀pre x post,rem=pre++x::post->∀y∈pre,Before ops.toList x.1 y.1\/(DG ops.toList m x.1=false/\DG ops.toList m y.1=false/\Oper.apart ops y.2.1 x.2.1=true/\Prim.meet C.ro y.2.2 x.2.2=false/\IS y.2.1 y.2.2 x.2.1 x.2.2=true)
theorem Q35 (J:Aj P C) (a8:∀t∈C.eqOk,P.stoodInHeld t=false) {ops:Array Oper} {m:List Nat} {Q:Exit->Act->World->Prop} {sf:St} {d0:List Deferred}
  (hq:∀(a:Act) (w:World),Rel Z sf a.tmps w->a.defers=d0->Q .normal a w):
  ∀(fuel:Nat) (listed:Array Bool) (rem:List (Nat×Oper×Option Prim)) (s:St) (a:Act) (w:World),rem.length=fuel->Left P C ops m listed rem->RD P C ops.toList m rem s sf->WFst s->Rel Z s a.tmps w->a.defers=d0->
  wpAny P .any ops Q fuel listed a w
 |0,listed,rem,s,a,w,hl,I,M,a9,hR,hd=>by
  have hr:rem=[]:=List.eq_nil_of_length_eq_zero hl;subst hr;have:s=sf:=M;subst this;refine⟨?_,hq a w hR hd⟩;apply List.eq_nil_iff_forall_not_mem.2;intro i hi;obtain⟨h1,o,U,_⟩:=mem_ready.1 hi;obtain⟨x,hx,_⟩:=(I.out i (dc.1 U).1).1 h1;simp at hx
 |fuel+1,listed,rem,s,a,w,hl,I,M,a9,hR,hd=>by
  refine⟨λb0=> ?_,λi hi=> ?_⟩
  ·exfalso;cases rem with
   |nil=>simp at hl
   |cons x rem=>
    obtain⟨h1,_,U⟩:=I.op x (by simp);have V:x.1<ops.size:=(dc.1 h1).1;have:x.1∈Region.ready .any ops listed:=by
     refine mem_ready.2 ⟨(I.out x.1 V).2 ⟨x,by simp,rfl⟩,x.2.1,h1,λe he hb=> ?_⟩;have c9:=U e he hb;cases hle:listed.getD e.on false with
     |true=>rfl
     |false=>
      have a1:e.on<listed.size:=by rw[I.sz];omega
      have:listed.getD e.on true=false:=by
       rw[Array.getD,dif_pos a1]at hle⊢;exact hle
      obtain⟨y,E,d1⟩:=(I.out e.on (by omega)).1 this;have G:=I.ord;simp only[bj,List.pairwise_cons]at G;simp only[av]at E;rcases E with rfl|E
      ·omega
      ·have:=G.1 y.1 (List.mem_map_of_mem E);omega
    rw[b0]at this;simp at this
  ·obtain⟨h1,o,U,h3⟩:=mem_ready.1 hi;have Y:i<ops.size:=(dc.1 U).1;obtain⟨x,hx,b9⟩:=(I.out i Y).1 h1;subst b9;obtain⟨b1,b2,d2⟩:=I.op x hx;have c0:o=x.2.1:=by rw[U]at b1;simpa using b1
   subst c0;obtain⟨pre,post,D⟩:=List.append_of_mem hx;have b3:∀y∈rem,listed.getD y.1 false=false:=by
    intro y E;have V:y.1<ops.size:=(dc.1 (I.op y E).1).1;have:=(I.out y.1 V).2 ⟨y,E,rfl⟩;have a1:y.1<listed.size:=by rw[I.sz];exact V
    rw[Array.getD,dif_pos a1]at this⊢;exact this
   have a2:∀y∈pre,DG ops.toList m x.1=false/\DG ops.toList m y.1=false/\Oper.apart ops y.2.1 x.2.1=true/\Prim.meet C.ro y.2.2 x.2.2=false/\IS y.2.1 y.2.2 x.2.1 x.2.2=true:=by
    intro y E;rcases I.pr pre x post D y E with hr|hr
    ·exfalso;have b4:=b3 y (by rw[D];simp[E]);have b5:∀(i j:Nat),Before ops.toList i j->(∀oi,ops[i]? =some oi->∀e∈oi.after,Region.binds .any e=true->listed.getD e.on false=true)->listed.getD j false=true:=by
      intro i j c1;induction c1 with
      |one ho he hb=>intro a3;exact a3 _ (by simpa using ho) _ (by simpa using he) hb
      |more ho he hb _ ih=>
       intro a3;have c2:=a3 _ (by simpa using ho) _ (by simpa using he) hb;exact ih λoe c3 e2 c4 c5=>I.cl _ oe c3 c2 e2 c4 c5
     have:=b5 x.1 y.1 hr λoi a4 e he hb=>by
      rw[U]at a4;simp at a4;subst a4;exact h3 e he hb
     rw[this]at b4;simp at b4
    ·exact hr
   rw[D]at M;obtain⟨s1,O,a5⟩:=Qs1 J pre s a9 M a2;have hex:∃b,F3 P C b ops.toList x.2.1 s (λpo s'=>(some (po,s'):Option (Option Prim×St)))=some (x.2.2,s1):=by
    unfold IJ at O;cases hw:DG ops.toList m x.1
    ·rw[ab (by rw[hw];simp)]at O;rw[hw]at b2;exact⟨false,Zxd J O (by simpa using b2) _⟩
    ·rw[aa hw]at O;exact⟨true,O⟩
   obtain⟨b,hex⟩:=hex;have X := Qvh (Q := Q) (next := wpAny P .any ops Q fuel (listed.setIfInBounds x.1 true)) J a8 hR hex (λpo s' a' w' hK b6 c6 => by
    simp at hK;obtain⟨rfl,rfl⟩:=hK;refine Q35 J a8 hq fuel _ (pre++post) _ a' w' ?_ ?_ a5 b6.wf b6 (c6.trans hd)
    ·rw[D]at hl;simp at hl⊢;omega
    ·have a0:∀y,y∈pre++post->y∈rem:=by
      intro y E;rw[D];simp at E⊢;rcases E with E|E<;>simp[E]
     have c7:∀y∈pre++post,y.1≠x.1:=by
      intro y E;have G:=I.ord;rw[D]at G;simp only[bz,bj,List.pairwise_append,List.pairwise_cons]at G;obtain⟨o1,⟨o2,o3⟩,o4⟩:=G;simp at E;rcases E with E|E
      ·have:=o4 y.1 (List.mem_map_of_mem E) x.1 (by simp);omega
      ·have:=o2 y.1 (List.mem_map_of_mem E);omega
     have hg:∀(j:Nat) (d:Bool),(listed.setIfInBounds x.1 true).getD j d=if j=x.1 then true else listed.getD j d:=by
      intro j d;by_cases S:j=x.1
      ·subst S;have:x.1<listed.size:=by rw[I.sz];exact Y
       simp[Array.getD,this]
      ·rw[ab S];exact getD_set_ne d (λe=>S e.symm)
     refine⟨by simpa using I.sz,λy E=>I.op y (a0 y E),λj S=> ?_,?_,?_,?_⟩
     ·rw[hg];constructor
      ·intro hh;split at hh
       ·simp at hh
       ·rename_i a6;obtain⟨y,E,b7⟩:=(I.out j S).1 hh;refine⟨y,?_,b7⟩;rw[D]at E;simp at E⊢;rcases E with E|rfl|E
        ·exact .inl E
        ·exact absurd b7.symm a6
        ·exact .inr E
      ·rintro⟨y,E,rfl⟩;rw[ab (c7 y E)];exact(I.out y.1 S).2 ⟨y,a0 y E,rfl⟩
     ·have G:=I.ord;rw[D]at G;simp only[bz,bj,List.pairwise_append,List.pairwise_cons]at G⊢;obtain⟨o1,⟨o2,o3⟩,o4⟩:=G;exact⟨o1,o3,λu hu v hv=>o4 u hu v (by simp[hv])⟩
     ·intro j oj S a7 e he hb;rw[hg]at a7⊢;split
      ·rfl
      ·split at a7
       ·rename_i a6;subst a6;rw[U]at S;simp at S;subst S;exact h3 e he hb
       ·exact I.cl j oj S a7 e he hb
     ·intro b8 z T c8 y E
      have:∃N L,rem=N++z::L/\y∈N:=by
       rcases List.append_eq_append_iff.1 c8 with⟨as,e1,e2⟩|⟨bs,e1,e2⟩
       ·
        refine⟨pre++x::as,T,by rw[D,e2];simp,?_⟩;rw[e1]at E;simp at E⊢;rcases E with E|E
        ·exact .inl E
        ·exact .inr (.inr E)
       ·cases bs with
        |nil=>
         simp at e1 e2;refine⟨pre++[x],T,?_,?_⟩
         ·rw[D,<-e2];simp
         ·rw[e1];simp[E]
        |cons b bs=>
         simp at e2;obtain⟨rfl,e2⟩:=e2;exact⟨b8,bs++x::post,by rw[D,e1];simp,E⟩
      obtain⟨N,L,q1,q2⟩:=this;exact I.pr N z L q1 y q2)
   unfold wpOp;rw[U];dsimp only;split
   ·rename_i hw;rw[aa hw]at X;exact .inl X
   ·rename_i hw;rw[ab hw]at X;exact X
end
open Go.RowKit
section
variable {P:Program} {C:Cfg} {w:World} {R:Type} {Z:Base}
theorem Z4k {c a:Bool} (h:(bif c then a else false)=true):c=true/\a=true:=by cases c<;>simp at h;exact⟨rfl,h⟩
theorem Q7k {ops:Array Oper} {m:List Nat}:∀(ps D:List (Nat×Oper×Option Prim)) (i:Nat),ps.map (·.1)=List.range' i ps.length->Kl C ops m i D (ps.map (·.2))=true->
  ∀pre x post,ps=pre++x::post->(DG ops.toList m x.1||Prim.simple x.2.2)=true/\(∀e∈x.2.1.after,Region.binds .any e=true->e.on<x.1)/\
   ∀y∈D++pre,L8 m x.1 y.1=true\/(DG ops.toList m x.1=false/\DG ops.toList m y.1=false/\Oper.apart ops y.2.1 x.2.1=true/\Prim.meet C.ro y.2.2 x.2.2=false/\IS y.2.1 y.2.2 x.2.1 x.2.2=true)
 |[],D,i,_,_,pre,x,post,h=>by simp at h
 |(j,o,p)::ps,D,i,E,G,pre,x,post,h=>by
  simp only[bj,bh,List.range'_succ,List.cons.injEq]at E;obtain⟨rfl,E⟩:=E;simp only[bj,Kl]at G;generalize N:((DG ops.toList m j||Prim.simple p)&&o.after.toList.all (λe=> !(Region.binds .any e)||Nat.blt e.on j)&&Ak (λy:Nat×Oper×Option Prim=>L8 m j y.1||(!(DG ops.toList m j)&& !(DG ops.toList m y.1)&&(Oper.apart ops y.2.1 o&& !(Prim.meet C.ro y.2.2 p)&&IS y.2.1 y.2.2 o p))) D)=c at G;cases c
  ·simp at G
  ·simp only[ai]at G;simp only[ak]at N;obtain⟨⟨O,S⟩,T⟩:=N;cases pre with
   |nil=>
    simp at h;obtain⟨rfl,rfl⟩:=h;refine⟨O,λe he hb=> ?_,λy I=> ?_⟩
    ·have:=List.all_eq_true.1 S e (by simpa using he);rw[hb]at this;simpa using this
    ·simp at I;have:=Ax.1 T y I;rw[Bool.or_eq_true]at this;simp only[ak,Bool.not_eq_true']at this;rcases this with h|⟨⟨U,V⟩,⟨J,L⟩,M⟩
     ·exact .inl h
     ·exact .inr ⟨U,V,J,L,M⟩
   |cons q pre=>
    simp at h;obtain⟨rfl,rfl⟩:=h;obtain⟨J,L,M⟩:=Q7k (pre++x::post) (D++[(j,o,p)]) (j+1) E G pre x post rfl;refine⟨J,L,λy I=>M y ?_⟩;simpa using I
theorem Qsl {ops:Array Oper} {m:List Nat}:∀(l:List (Oper×Option Prim)) (D:List (Nat×Oper×Option Prim)) (i:Nat),Kl C ops m i D l=true->∀(j:Nat) (q:Oper×Option Prim),l[j]? =some q->(DG ops.toList m (i+j)||Prim.simple q.2)=true
 |[],_,_,_,j,q,E=>by simp at E
 |(o,p)::l,D,i,h,j,q,E=>by
  simp only[Kl]at h;obtain⟨G,h⟩:=Z4k h;simp only[ak]at G;cases j with
  |zero=>simp at E;subst E;exact G.1.1
  |succ j=>
   rw[show i+(j+1)=i+1+j from by omega];exact Qsl l _ _ h j q (by simpa using E)
theorem Rel.drew {s:St} {tmps:Array Value} (h:Rel Z s tmps w):Rel Z s tmps {w with drawn:=w.drawn+1}:=by
 obtain⟨ρ,h⟩:=h;have D:∀(a:AC) (x:Value),CC ρ w a x->CC ρ {w with drawn:=w.drawn+1} a x:=λa x E=>CC.mono (w:=w) (w':={w with drawn:=w.drawn+1}) (λ_ h=>h) (λ_ _=>rfl) a x (AC.agree_refl rfl rfl rfl a) E;refine⟨ρ,h.tl,λi v L=>TVR.mono D v _ (h.tv i v L),h.wt,h.wb,?_,h.bi,?_,h.ri,h.br,h.ib,h.fr.drew,h.fs,h.i0,h.i1,h.k0⟩
 ·intro k b M;obtain⟨arr,G,I,J⟩:=h.bx k b M;exact⟨arr,G,I.mono λa _ x E=>D a x E,J⟩
 ·intro id r N;obtain⟨G,I,O,xs,J,S⟩:=h.ro id r N;exact⟨G,I,O,xs,Nl J (λ_ _=>rfl),RowC.mono (w:=w) (λ_ h=>h) (λ_ _=>rfl) S⟩
theorem Zit (D:Aj P C) (M:∀t∈C.eqOk,P.stoodInHeld t=false) (N:P.follows .mixedOrders=true) {id:Nat} {ops:Array Oper} {draw:Bool} {s:St} {a:Act} (Y:Rel Z s a.tmps w) {K:St->Option R} {r:R}
  (h:Zt P C ops draw s K=some r) {Q:Exit->Act->World->Prop} (hq:∀(s':St) (O:Act) (w':World),K s'=some r->Rel Z s' O.tmps w'->O.defers=a.defers->Q .normal O w'):
  (Code.region id ops draw).wp P Q a w:=by
 cases draw
 ·exact wp_region_list (Q7u D M _ s a w Y h hq)
 ·simp only[Zt,ai]at h;refine wp_region_any N ?_;obtain⟨m,h,hm⟩:=Q0q (ops:=ops.toList) ops.toList [] [] rfl rfl (λi j S=>by simp at S) h;rcases Z2 D ops.toList 0 s _ r h with⟨ps,sf,T,q2,q3,X⟩|⟨acc,sf,T,j,q,q2,q3⟩
  ·cases U:Kl C ops m 0 [] (ps.map (·.2))<;>rw[U]at X
   ·simp at X
   ·simp only[ai]at X;have hlen:ps.length=ops.size:=by have:=congrArg List.length T;simpa using this
    have E:ps.map (·.1)=List.range' 0 ps.length:=by rw[q2];simp[hlen]
    have V:=Q7k ps [] 0 E U;have I:∀(i:Nat) (x:Nat×Oper×Option Prim),ps[i]? =some x->x.1=i/\ops[i]? =some x.2.1:=by
     intro i x J;have L:(ps.map (·.1))[i]? =some x.1:=by simp[J]
     have h2:(ps.map (·.2.1))[i]? =some x.2.1:=by simp[J]
     rw[E,List.getElem?_range']at L;rw[T]at h2
     ·simp at L;exact⟨by omega,by simpa using h2⟩
     ·exact(List.getElem?_eq_some_iff.1 J).1
    refine Q35 D M (m:=m) (sf:=sf) (d0:=a.defers) (λO w' a0 a1=>hq sf O w' X a0 a1) ops.size _ ps s a _ hlen ?_ q3 Y.wf Y.drew rfl;refine⟨by simp,λx J=> ?_,λi S=> ?_,?_,?_,?_⟩
    ·obtain⟨pre,post,hs⟩:=List.append_of_mem J;obtain⟨c1,c2,_⟩:=V pre x post hs;obtain⟨i,S⟩:=List.getElem?_of_mem J;obtain⟨p1,p2⟩:=I i x S;exact⟨by rw[p1];exact p2,c1,c2⟩
    ·constructor
     ·intro _;have G:i<ps.length:=by omega
      exact⟨ps[i],bm G,(I i ps[i] (ah G)).1⟩
     ·intro _;simp[Array.getD,S]
    ·rw[E];exact List.pairwise_lt_range'
    ·intro j o hj hl;have G:j<ops.size:=(dc.1 hj).1;simp[Array.getD,G]at hl
    ·intro pre x post hs y hy;rcases(V pre x post hs).2.2 y (by simpa using hy)with L|L
     ·exact .inl (hm _ _ L)
     ·exact .inr L
  ·cases U:Kl C ops m 0 [] acc<;>rw[U]at T
   ·simp at T
   ·have:=Qsl acc [] 0 U j q q2;rw[q3]at this;simp at this
def RS:Ex->Exit
 | .normal=> .normal
 | .exit id=> .exit id
 | .ret=> .ret
def Jz (Z:Base) (K:Ex->St->Option R) (r:R) (d:List Deferred):Exit->Act->World->Prop:=
 λe a w=>∃D s,RS D=e/\K D s=some r/\Rel Z s a.tmps w/\a.defers=d
theorem Zb8 {step:St->(Ex->St->Option R)->Option R} {body:Code} {K:Ex->St->Option R} {r:R} {d:List Deferred}
  (D:∀(s:St) (a:Act) (w:World) (L:Ex->St->Option R),Rel Z s a.tmps w->a.defers=d->step s L=some r->body.wp P (Jz Z L r d) a w):
  ∀(n:Nat) (s:St) (a:Act) (w:World),Rel Z s a.tmps w->a.defers=d->PX P C step n s K=some r->Code.rounds P body (Jz Z K r d) n a w
 |0,s,a,w,M,N,h=>by simp[PX]at h
 |n+1,s,a,w,M,N,h=>by
  rw[PX]at h;rw[rounds_succ];refine wp_mono (D s a w _ M N h) ?_;rintro e O w' ⟨S,s2,rfl,I,E,G⟩;cases S with
  |normal=>
   obtain⟨T,U,J⟩:=Ru E I;exact Zb8 D n T O w' J G U
  |exit id=>exact⟨.exit id,s2,rfl,I,E,G⟩
  |ret=>exact⟨.ret,s2,rfl,I,E,G⟩
def InZ (Z:Base):Prop:=∀k b,Z.K0 k=some b->GC k=true
def JD (P:Program) (c:Code) (sk:Sk) (g:J_):Prop:=
 ∀(Z:Base) (_:InZ Z) (a:Act) (w:World) (vars:List AC) (R:Type) (K:Ex->St->Option R) (r:R),Rel Z (BC sk vars) a.tmps w->g R vars K=some r->c.wp P (Jz Z K r a.defers) a w
structure SubOK (P : Program) (C : Cfg) (c : Code) (blk : Nat) : Prop where
 l:∀p∈AO c blk,∀sk g,C.loops p.1=some (sk,g)->JD P (.loop p.2) sk g
 b:∀p∈A9 c,∀sk g,C.blocks p.1=some (sk,g)->JD P (.block p.1 p.2) sk g
 c:∀p∈Bg c blk,∀sk g,C.conds p.1=some (sk,g)->JD P (.cond (.tmp p.1) p.2.2.1 p.2.2.2) sk g
theorem It:∀(c:Code) (b b':Nat),AO c b=AO c b'
 | .seq x y,b,b'=>by simp only[AO,It x b b',It y b b']
 | .cond _ x y,b,b'=>by simp only[AO,It x b b',It y b b']
 | .block _ x,b,b'=>by simp only[AO,It x b b']
 | .loop x,b,b'=>by simp only[AO,It x b b']
 | .skip,_,_=>rfl
 | .region _ _ _,_,_=>rfl
 | .exit _,_,_=>rfl
 | .ret,_,_=>rfl
 | .rangeFunc _ _ _ _,_,_=>rfl
 | .scope x,b,b'=>by simp only[AO,It x b b']
 | .label _,_,_=>rfl
 | .goto _,_,_=>rfl
 | .refuse _,_,_=>rfl
theorem IY:∀(c:Code) (b b':Nat),Bg c b=Bg c b'
 | .seq x y,b,b'=>by simp only[Bg,IY x b b',IY y b b']
 | .cond c x y,b,b'=>by cases c<;>simp only[Bg,IY x b b',IY y b b']
 | .block _ x,b,b'=>by simp only[Bg,IY x b b']
 | .loop x,b,b'=>by simp only[Bg,IY x b b']
 | .skip,_,_=>rfl
 | .region _ _ _,_,_=>rfl
 | .exit _,_,_=>rfl
 | .ret,_,_=>rfl
 | .rangeFunc _ _ _ _,_,_=>rfl
 | .scope x,b,b'=>by simp only[Bg,IY x b b']
 | .label _,_,_=>rfl
 | .goto _,_,_=>rfl
 | .refuse _,_,_=>rfl
theorem SubOK.any {c:Code} (b:Nat) {b':Nat} (h:SubOK P C c b):SubOK P C c b':=
 ⟨λp D=>h.l p (by rw[It c b b'];exact D),h.b,λp D=>h.c p (by rw[IY c b b'];exact D)⟩
theorem Qd3 {c:Code} {told:Option (Sk×J_)} {s:St} {a:Act} {K:Ex->St->Option R} {r:R} {d:List Deferred} {run:Option R} (J:InZ Z)
  (L:∀sk g,told=some (sk,g)->JD P c sk g) (E:Rel Z s a.tmps w) (M:a.defers=d) (h:Rp told s K run=some r) (D:run=some r->c.wp P (Jz Z K r d) a w):c.wp P (Jz Z K r d) a w:=by
 unfold Rp at h;split at h
 ·exact D h
 ·rename_i sk g;obtain⟨G,I⟩:=Cc h;split at I
  ·rename_i vars N;obtain⟨ρ,E⟩:=E;obtain⟨tm,aA,aB⟩:=s;subst M;exact L sk g rfl Z J a w vars R K r ⟨ρ,E.rebuild J G N⟩ I
  ·simp at I
theorem Q9e {ρ:Env} {d:Nat} {a:AC} {x:Value} (h:CC ρ w a x):CC ρ w (a.killP d) x:=by
 cases a with
 |ptr k o=>simp only[AC.killP];cases Nat.beq k d<;>first|exact h|exact h.one
 |bsl k o=>simp only[AC.killP];cases Nat.beq k d<;>first|exact h|exact h.one
 |clo f fs cs=>simp only[AC.killP];cases(Ak (KX d) fs&&Ak (KX d) cs)<;>first|exact h|exact h.one
 |_=>exact h
theorem UR {ρ:Env} {f:AC->AC} (hf:∀(a:AC) (x:Value),CC ρ w a x->CC ρ w (f a) x):∀{l:List AC} {xs:List Value},CL (CC ρ w) l xs->CL (CC ρ w) (l.map f) xs
 |[],[],_=>trivial
 |_::_,_::_,h=>⟨hf _ _ h.1,UR hf h.2⟩
 |[],_::_,h=>h.elim
 |_::_,[],h=>h.elim
theorem Z8v {ρ:Env} {f:AC->AC} (hf:∀(a:AC) (x:Value),CC ρ w a x->CC ρ w (f a) x) {v:TV} {x:Value} (h:TVR ρ w v x):TVR ρ w (v.mapC f) x:=by
 cases v with
 |dead=>trivial
 |tup ps=>
  obtain⟨E,rfl,D⟩:=h;refine⟨E,rfl,?_⟩;generalize E.toList=l at D;induction ps generalizing l with
  |nil=>cases l<;>first|exact D|exact D.elim
  |cons p ps J=>
   cases l with
   |nil=>exact D.elim
   |cons y l=>
    obtain⟨g,cs⟩:=p;refine⟨?_,J l D.2⟩;have:=D.1;cases g
    ·obtain⟨a,G,I⟩:=this;subst G;exact⟨_,rfl,hf _ _ I⟩
    ·obtain⟨L,G,M⟩:=this;exact⟨L,G,UR hf M⟩
 |v g cs=>
  cases g
  ·obtain⟨a,rfl,I⟩:=h;exact⟨_,rfl,hf _ _ I⟩
  ·obtain⟨E,rfl,D⟩:=h;exact⟨E,rfl,UR hf D⟩
theorem RelE.forget {tm:List TV} {aA:List (Nat×Box)} {aB:List (Nat×Row)} {ρ:Env} {tmps:Array Value} (h:RelE Z tm aA aB ρ tmps w) {d:Nat} (hd:∀b,Z.K0 d≠some b):
  RelE Z (tm.map (TV.mapC (AC.killP d))) ((del d aA).map λp=>(p.1,(⟨p.2.ty,p.2.cells.map (AC.killP d)⟩:Box))) aB ρ tmps w:=by
 have N:∀k,Ac ((del d aA).map λp=>(p.1,(⟨p.2.ty,p.2.cells.map (AC.killP d)⟩:Box))) k=(Ac (del d aA) k).map λb=>⟨b.ty,b.cells.map (AC.killP d)⟩:=λk=>GJ (λb:Box=>(⟨b.ty,b.cells.map (AC.killP d)⟩:Box)) _ k;have E:∀(k:Nat) (b:Box),Ac ((del d aA).map λp=>(p.1,(⟨p.2.ty,p.2.cells.map (AC.killP d)⟩:Box))) k=some b->k≠d/\∃b',Ac aA k=some b'/\b=⟨b'.ty,b'.cells.map (AC.killP d)⟩:=by
  intro k b D;rw[N]at D;simp only[bp]at D;obtain⟨b',T,rfl⟩:=D;obtain⟨U,V⟩:=Me T;exact⟨U,b',V,rfl⟩
 have I:∀(k:Nat) (b:Box),k≠d->Ac aA k=some b->∃b',Ac ((del d aA).map λp=>(p.1,(⟨p.2.ty,p.2.cells.map (AC.killP d)⟩:Box))) k=some b':=λk b X D=>⟨_,by rw[N,L1 _ _ _ X,D];rfl⟩;have O:∀a,KX d a=true->AC.wfP aA a->AC.wfP ((del d aA).map λp=>(p.1,(⟨p.2.ty,p.2.cells.map (AC.killP d)⟩:Box))) a:=by
  intro a hn G;cases a<;>try exact trivial
  rename_i k o;obtain⟨b,hb⟩:=G;simp only[KX,Bool.not_eq_true']at hn;exact I k b (Hi hn) hb
 have L:∀a,AC.wf aA aB a->AC.wf ((del d aA).map λp=>(p.1,(⟨p.2.ty,p.2.cells.map (AC.killP d)⟩:Box))) aB (a.killP d):=by
  intro a G;cases a with
  |ptr k o=>
   simp only[AC.killP];cases D:Nat.beq k d
   ·obtain⟨b,hb⟩:=G;exact I k b (Hi D) hb
   ·exact trivial
  |bsl k o=>
   simp only[AC.killP];cases D:Nat.beq k d
   ·obtain⟨b,hb⟩:=G;exact I k b (Hi D) hb
   ·exact trivial
  |clo f fs cs=>
   simp only[AC.killP];cases J:(Ak (KX d) fs&&Ak (KX d) cs)
   ·exact trivial
   ·simp only[ak]at J;exact⟨λa h'=>O a (Ax.1 J.1 a h') (G.1 a h'),λa h'=>O a (Ax.1 J.2 a h') (G.2 a h')⟩
  |_=>exact G
 refine⟨by simpa using h.tl,?_,?_,?_,?_,?_,h.ro,h.ri,?_,?_,h.fr,h.fs,h.i0,h.i1,?_⟩
 ·intro i v hi;simp only[dk,bp]at hi;obtain⟨u,Y,rfl⟩:=hi;exact Z8v (λ_ _=>Q9e) (h.tv i u Y)
 ·intro v hv;simp only[ba]at hv;obtain⟨u,Y,rfl⟩:=hv;have:=h.wt u Y;cases u with
  |dead=>trivial
  |v g cs=>
   intro a G;simp only[ba]at G;obtain⟨c,J,rfl⟩:=G;exact L c (this c J)
  |tup ps=>
   intro p hp a G;simp only[ba]at hp;obtain⟨q,hq,rfl⟩:=hp;simp only[ba]at G;obtain⟨c,J,rfl⟩:=G;exact L c (this q hq c J)
 ·intro k b D a G;obtain⟨_,b',M,rfl⟩:=E k b D;simp only[ba]at G;obtain⟨c,J,rfl⟩:=G;exact L c (h.wb k b' M c J)
 ·intro k b D;obtain⟨_,b',M,rfl⟩:=E k b D;obtain⟨arr,T,U,V⟩:=h.bx k b' M;exact⟨arr,T,UR (λ_ _=>Q9e) U,V⟩
 ·intro k k' b b' D a0;obtain⟨_,_,S,_⟩:=E k b D;obtain⟨_,_,p2,_⟩:=E k' b' a0;exact h.bi k k' _ _ S p2
 ·intro k b j q D hq;obtain⟨_,_,S,_⟩:=E k b D;exact h.br k _ j q S hq
 ·intro b hb;obtain⟨q1,q2,q3⟩:=h.ib b hb;exact⟨q1,λk bo D=>by obtain⟨_,_,p,_⟩:=E k bo D;exact q2 k _ p,q3⟩
 ·intro k b D;obtain⟨S,bo,p2⟩:=h.k0 k b D;exact⟨S,I k bo (by rintro rfl;exact hd b D) p2⟩
theorem Qb4 (E:InZ Z) {tmps:Array Value} {K:St->Option R} {r:R}:∀(l:List Nat) (s:St),Rel Z s tmps w->RQ l s K=some r->∃I,K I=some r/\Rel Z I tmps w
 |[],s,D,h=>⟨s,h,D⟩
 |d::l,⟨tm,aA,aB⟩,D,h=>by
  simp only[RQ]at h;split at h
  ·exact Qb4 E l _ D h
  ·cases G:GC d<;>rw[G]at h
   ·simp only[an,Bd]at h;obtain⟨ρ,D⟩:=D;exact Qb4 E l _ ⟨ρ,D.forget (d:=d) λb hb=>by rw[E d b hb]at G;cases G⟩ h
   ·simp at h
theorem Hh (D:Aj P C) (S:∀t∈C.eqOk,P.stoodInHeld t=false) (J:P.follows .mixedOrders=true) (X:InZ Z) {r:R} {d:List Deferred}:
  ∀(c:Code) (L blk:Nat) (s:St) (a:Act) (w:World) (K:Ex->St->Option R),SubOK P C c blk->Rel Z s a.tmps w->a.defers=d->DH P C L c blk s K=some r->c.wp P (Jz Z K r d) a w
 | .skip,L,blk,s,a,w,K,G,M,N,h=>wp_skip ⟨.normal,s,rfl,h,M,N⟩
 | .region id ops draw,L,blk,s,a,w,K,G,M,N,h=>by
  rw[DH]at h;obtain⟨s0,h,M⟩:=Qb4 X _ s M h;exact Zit D S J M h λU a' w' T I O=>⟨.normal,U,rfl,T,I,O.trans N⟩
 | .seq x y,L,blk,s,a,w,K,G,M,N,h=>by
  rw[DH]at h;refine wp_seq (wp_mono (Hh D S J X x L blk s a w _ ⟨λp E=>G.l p (by simp[AO,E]),λp E=>G.b p (by simp[A9,E]),λp E=>G.c p (by simp[Bg,E])⟩ M N h) ?_);rintro e a' w' ⟨ae,U,rfl,T,I,O⟩;cases ae with
  |normal=>exact Hh D S J X y L blk U a' w' K ⟨λp E=>G.l p (by simp[AO,E]),λp E=>G.b p (by simp[A9,E]),λp E=>G.c p (by simp[Bg,E])⟩ I O T
  |exit id=>exact⟨.exit id,U,rfl,T,I,O⟩
  |ret=>exact⟨.ret,U,rfl,T,I,O⟩
 | .cond c x y,L,blk,s,a,w,K,G,M,N,h=>by
  have hx:SubOK P C x blk:=⟨λp E=>G.l p (by simp[AO,E]),λp E=>G.b p (by simp[A9,E]),λp E=>G.c p (by cases c<;>simp[Bg,E])⟩;have hy:SubOK P C y blk:=⟨λp E=>G.l p (by simp[AO,E]),λp E=>G.b p (by simp[A9,E]),λp E=>G.c p (by cases c<;>simp[Bg,E])⟩;rw[DH]at h;refine Qd3 (c:= .cond c x y) X ?_ M N h λV=> ?_
  ·intro sk g ht;unfold Q4x at ht;split at ht
   ·rename_i t;exact G.c (t,0,x,y) (by simp[Bg]) sk g ht
   ·simp at ht
  ·split at V
   ·rename_i g hg;have hc:a.eval c= .bool g:=by
     obtain⟨ρ,Y⟩:=M;have:=Q4w Y c;rw[hg]at this;exact this.bool
    refine wp_cond hc ?_;split at V
    ·rename_i t;have a0:∀b,g=b->Rel Z ⟨setL s.tmps t (.c (.bool b)),s.aA,s.aB⟩ a.tmps w:=by
      rintro b rfl;obtain⟨ρ,Y⟩:=M;exact⟨ρ,Y.learn t (by have e:a.tmps.getD t undef= .bool g:=hc;rw[e];exact TVR.mkBool _) (Ji _)⟩
     cases g
     ·simp only[an]at V;rw[Fqs]at V;exact Hh D S J X y L blk _ a w K hy (a0 false rfl) N V
     ·simp only[ai]at V;rw[Fqs]at V;exact Hh D S J X x L blk _ a w K hx (a0 true rfl) N V
    ·cases g
     ·exact Hh D S J X y L blk s a w K hy M N V
     ·exact Hh D S J X x L blk s a w K hx M N V
   ·simp at V
 | .block id body,L,blk,s,a,w,K,G,M,N,h=>by
  have hb:SubOK P C body id:=SubOK.any blk ⟨λp E=>G.l p (by simp[AO,E]),λp E=>G.b p (by simp[A9,E]),λp E=>G.c p (by simp[Bg,E])⟩;rw[DH]at h;refine Qd3 (c:= .block id body) X (G.b (id,body) (by simp[A9])) M N h λV=> ?_;refine wp_block (wp_mono (Hh D S J X body L id s a w _ hb M N V) ?_);rintro e a' w' ⟨ae,U,rfl,T,I,O⟩;cases ae with
  |normal=>exact⟨.normal,U,rfl,T,I,O⟩
  |exit i=>
   simp only[RS,Exit.inBlock];dsimp only at T;cases hb:Nat.beq i id<;>rw[hb]at T
   ·have:i≠id:=λe=>by rw[e]at hb;simp at hb
    rw[ab this];exact⟨.exit i,U,rfl,T,I,O⟩
   ·rw[aa (ac hb)];exact⟨.normal,U,rfl,T,I,O⟩
  |ret=>exact⟨.ret,U,rfl,T,I,O⟩
 | .loop body,L,blk,s,a,w,K,G,M,N,h=>by
  rw[DH]at h;obtain⟨U,h',I⟩:=SA _ s a.tmps M _ r h;obtain⟨s1,h1,a1⟩:=Ru I h';have hb:SubOK P C body blk:=⟨λp E=>G.l p (by simp[AO,E]),λp E=>G.b p (by simp[A9,E]),λp E=>G.c p (by simp[Bg,E])⟩;refine Qd3 (c:= .loop body) X (G.l (U0 body,body) (by simp[AO])) a1 N h1 λV=> ?_;exact wp_loop_rounds L (Zb8 (λs a w K' M N h=>Hh D S J X body L blk s a w K' hb M N h) L s1 a w a1 N V)
 | .exit id,L,blk,s,a,w,K,G,M,N,h=>wp_exit ⟨.exit id,s,rfl,h,M,N⟩
 | .ret,L,blk,s,a,w,K,G,M,N,h=>wp_ret ⟨.ret,s,rfl,h,M,N⟩
 | .rangeFunc f ps a2 body,L,blk,s,a,w,K,G,M,N,h=>by simp[DH]at h
 | .scope b,L,blk,s,a,w,K,G,M,N,h=>by
  rw[DH]at h;refine wp_scope_straight (wp_mono (Hh D S J X b L blk s a w K ⟨λp E=>G.l p (by simp[AO,E]),λp E=>G.b p (by simp[A9,E]),λp E=>G.c p (by simp[Bg,E])⟩ M N h) ?_);rintro e a' w' ⟨ae,U,rfl,T,I,O⟩;cases ae with
  |normal=>exact⟨.normal,U,rfl,T,I,O⟩
  |exit i=>exact⟨.exit i,U,rfl,T,I,O⟩
  |ret=>exact⟨.ret,U,rfl,T,I,O⟩
 | .label l,L,blk,s,a,w,K,G,M,N,h=>by
  rw[DH]at h;exact wp_label ⟨.normal,s,rfl,h,M,N⟩
 | .goto l,L,blk,s,a,w,K,G,M,N,h=>by simp[DH]at h
 | .refuse a3,L,blk,s,a,w,K,G,M,N,h=>by simp[DH]at h
theorem Z51 {e D:Ex} (h:U_ e D=true):e=D:=by
 cases e<;>cases D<;>simp only[U_]at h<;>first|rfl|(simp at h;done)|(rw[ac h])
theorem Qk0 {s:St} {G:Ex} {tmps:Array Value} (J:InZ Z) (E:Rel Z s tmps w):∀{D:List (Ex×Sk)} {i n:Nat} {o:List AC},Hj D i G s=some (n,o)->
  i<=n/\∃sk,(∀(R:Type) (K:Ex->St->Option R),PJ o K D i n=K G (BC sk o))/\Rel Z (BC sk o) tmps w
 |[],i,n,o,h=>by simp[Hj]at h
 |(e,sk)::l,i,n,o,h=>by
  simp only[Hj]at h;cases hb:(U_ e G&&sk.okB)<;>rw[hb]at h
  ·simp only[an]at h;obtain⟨O,I,L,M⟩:=Qk0 J E h;refine⟨by omega,I,λR K=> ?_,M⟩;simp only[PJ];rw[Ku (by omega)];exact L R K
  ·simp only[ai]at h;simp only[ak]at hb;split at h
   ·rename_i vars N;simp at h;obtain⟨rfl,rfl⟩:=h;refine⟨co _,sk,λR K=> ?_,?_⟩
    ·simp only[PJ,Nat.beq_refl,ai];rw[Z51 hb.1]
    ·obtain⟨ρ,E⟩:=E;obtain⟨tm,aA,aB⟩:=s;exact⟨ρ,E.rebuild J hb.2 N⟩
   ·simp at h
theorem Zvk (G:Aj P C) (X:∀t∈C.eqOk,P.stoodInHeld t=false) (N:P.follows .mixedOrders=true) {L blk:Nat} {body:Code} {sk:Sk} {D:List (Ex×Sk)} {m:List AC->Option (Nat×List AC)}
  (Y:sk.okB=true) (O:SubOK P C body blk) (hm:∀vars o,m vars=some o->∃n,CZ (AW P C L blk body sk D) n vars=some o):JD P (.loop body) sk (gOf D m):=by
 intro Z hZ a w vars R K r hR h;simp only[gOf,da]at h;obtain⟨⟨t,o⟩,h1,h2⟩:=h;obtain⟨n,hn⟩:=hm vars _ h1;have key:∀(n:Nat) (vars:List AC) (J:Act) (w':World),Rel Z (BC sk vars) J.tmps w'->J.defers=a.defers->CZ (AW P C L blk body sk D) n vars=some (t,o)->Code.rounds P body (Jz Z K r a.defers) n J w':=by
  intro n;induction n with
  |zero=>intro vars J w' _ _ h;simp[CZ]at h
  |succ n ih=>
   intro vars J w' a0 a1 h;simp only[CZ,da]at h;obtain⟨⟨t',o'⟩,q1,M⟩:=h;rw[rounds_succ];refine wp_mono (Hh G X N hZ body L blk _ J w' _ O a0 a1 q1) ?_;rintro e a2 w2 ⟨ae,s',rfl,hK,S,T⟩;have E:∀U:Ex,Hj D 1 U s'=some (t',o')->Jz Z K r a.defers (RS U) a2 w2:=by
    intro U hx;obtain⟨p1,a3,p2,p3⟩:=Qk0 hZ S hx;have ht:t'≠0:=by omega
    dsimp only at M;rw[ab ht]at M;simp at M;obtain⟨rfl,rfl⟩:=M;rw[p2 R K]at h2;exact⟨U,_,rfl,h2,p3,T⟩
   cases ae with
   |normal=>
    obtain⟨s3,V,I⟩:=Ru S hK;split at V
    ·rename_i vars' hv;simp at V;obtain⟨rfl,rfl⟩:=V;simp only[if_true]at M;obtain⟨ρ,I⟩:=I;obtain⟨tm,aA,aB⟩:=s3;exact ih _ a2 w2 ⟨ρ,I.rebuild hZ Y hv⟩ T M
    ·simp at V
   |exit i=>exact E _ hK
   |ret=>exact E _ hK
 exact wp_loop_rounds n (key n vars a w hR rfl hn)
theorem Z1d (G:Aj P C) (O:∀t∈C.eqOk,P.stoodInHeld t=false) (J:P.follows .mixedOrders=true) {L id:Nat} {body:Code} {sk:Sk} {E:List (Ex×Sk)} {m:List AC->Option (Nat×List AC)}
  (M:SubOK P C body id) (X:∀vars o,m vars=some o->Q5x P C L id body sk E vars=some o):JD P (.block id body) sk (gOf E m):=by
 intro Z U a w vars R K r Y h;simp only[gOf,da]at h;obtain⟨⟨t,o⟩,h1,V⟩:=h;have hb:=X vars _ h1;refine wp_block (wp_mono (Hh G O J U body L id _ a w _ M Y rfl hb) ?_);rintro e a' w' ⟨ae,s',rfl,I,S,T⟩;have D:∀N:Ex,Hj E 1 N s'=some (t,o)->Jz Z K r a.defers (RS N) a' w':=by
  intro N hx;obtain⟨p1,a0,p2,p3⟩:=Qk0 U S hx;rw[p2 R K]at V;exact⟨N,_,rfl,V,p3,T⟩
 cases ae with
 |normal=>exact D .normal I
 |exit i=>
  simp only[RS,Exit.inBlock];dsimp only at I;cases hb:Nat.beq i id<;>rw[hb]at I
  ·have:i≠id:=λe=>by rw[e]at hb;simp at hb
   rw[ab this];exact D (.exit i) I
  ·rw[aa (ac hb)];exact D .normal I
 |ret=>exact D .ret I
end
open Go.RowKit
section
variable {P:Program} {C:Cfg} {w:World} {R:Type} {Z:Base}
theorem RelE.slots {tm E:List TV} {aA:List (Nat×Box)} {aB:List (Nat×Row)} {ρ:Env} {tmps D:Array Value} (h:RelE Z tm aA aB ρ tmps w) (G:E.length=D.size)
  (I:∀(i:Nat) (v:TV),E[i]? =some v->TVR ρ w v (D.getD i undef)) (J:∀v∈E,TV.wf aA aB v):RelE Z E aA aB ρ D w:=
 ⟨G,I,J,h.wb,h.bx,h.bi,h.ro,h.ri,h.br,h.ib,h.fr,h.fs,h.i0,h.i1,h.k0⟩
theorem Q4g {s:St} {a:Act} {ρ:Env} (J:RelE Z s.tmps s.aA s.aB ρ a.tmps w):∀(l:List ResultVar) (ps:List (Bool×List AC)),Lt P s l=some ps->
  ∃ xs : List Value, (l.mapM fun
   | .tmp t=>pure (a.tmps.getD t undef)
   | .cell b t=>do loadVar t (<-asAddr (a.tmps.getD b undef)):Sem (List Value)).run P w= .ok xs w/\TP ρ w ps xs/\∀p∈ps,∀c∈p.2,AC.wf s.aA s.aB c
 |[],ps,h=>by simp[Lt]at h;subst h;exact⟨[],rfl,trivial,by simp⟩
 |rv::l,ps,h=>by
  simp only[Lt]at h;split at h
  ·rename_i g cs D;split at h
   ·rename_i S T;simp at h;subst h;obtain⟨xs,h1,h2,h3⟩:=Q4g J l S T;have key : ∃ x, ((match rv with
      | .tmp t=>pure (a.tmps.getD t undef)
      | .cell b t=>do loadVar t (<-asAddr (a.tmps.getD b undef)):Sem Value)).run P w= .ok x w/\TVR ρ w (.v g cs) x/\TV.wf s.aA s.aB (.v g cs):=by
     cases rv with
     |tmp t=>
      simp only[Qna]at D;split at D
      ·rename_i X L M;simp at D;obtain⟨rfl,rfl⟩:=D;have U:t<s.tmps.length:=by
        rcases Nat.lt_or_ge t s.tmps.length with G|I
        ·exact G
        ·rw[BW,List.getD,db I]at M;simp at M
       have E:s.tmps[t]? =some (.v X L):=by
        rw[BW,List.getD]at M;rw[ah U]at M⊢;simpa using M
       exact⟨_,by simp,J.tv t _ E,J.wt _ (bt E)⟩
      ·simp at D
     |cell b t=>
      simp only[Qna]at D;split at D
      ·rename_i key off X sz hb hg hs;have V:b<s.tmps.length:=by
        rcases Nat.lt_or_ge b s.tmps.length with G|I
        ·exact G
        ·rw[BW,List.getD,db I]at hb;simp at hb
       have E:s.tmps[b]? =some (.c (.ptr key off)):=by
        rw[BW,List.getD]at hb;rw[ah V]at hb⊢;simpa using hb
       have Y:=(J.tv b _ E).c;simp only[CC]at Y;split at D
       ·rename_i bo N;obtain⟨arr,q1,q2,q3⟩:=J.bx key bo N;obtain ⟨x, q4, q5⟩ := Vb (b := ρ.bx key) (o := 0) hg hs D q2 (λj y hj => by
         simp only[Nat.zero_add];rw[cell_of_row w _ j arr bo.ty (0,0) q1];simpa using hj)
        rw[Nat.zero_add]at q4;exact⟨x,by simp[Y,asAddr,q4],q5,Rf D (J.wb key bo N)⟩
       ·simp at D
      ·simp at D
    obtain⟨x,k1,k2,k3⟩:=key;refine⟨x::xs,?_,?_,?_⟩
    ·rw[List.mapM_cons];simp only[Sem.run_bind,Sem.run_pure];rw[k1];simp only[cy];rw[h1];rfl
    ·refine⟨?_,h2⟩;cases g<;>exact k2
    ·intro p O;simp only[av]at O;rcases O with rfl|O
     ·exact k3
     ·exact h3 p O
   ·simp at h
  ·simp at h
theorem Qa:∀(ks:List Kd) (cs:List AC),(Eb ks cs).length=cs.length
 |[],[]=>rfl
 |[],_::_=>rfl
 | .sl _::_,[]=>rfl
 | .int _::_,[]=>rfl
 | .bool::_,[]=>rfl
 | .raw::_,[]=>rfl
 | .int _::l,_::cs=>by simp[Eb,Qa l cs]
 | .bool::l,_::cs=>by simp[Eb,Qa l cs]
 | .raw::l,_::cs=>by simp[Eb,Qa l cs]
 | .sl _::l,a::cs=>by cases a<;>simp[Eb,Qa l cs]
theorem Qv9 {ρ:Env}:∀(D:List TypeId) (ps:List (Bool×List AC)) (xs:List Value),TP ρ w ps xs->TP ρ w (H1 P D ps) xs
 |[],ps,xs,h=>by simpa [H1]using h
 |_::_,[],xs,h=>by simpa [H1]using h
 |t::D,(g,cs)::ps,[],h=>h.elim
 |t::D,(g,cs)::ps,x::xs,h=>by
  refine⟨?_,Qv9 D ps xs h.2⟩;have E:=h.1;cases O:Gv P 8 t with
  |none=>exact E
  |some ks=>
   cases g
   ·obtain⟨a,rfl,I⟩:=E;have:=Le ks [a] [x] ⟨I,trivial⟩;have G:=Qa ks [a];generalize J:Eb ks [a]=l at this G;cases l with
    |nil=>simp at G
    |cons b l=>
     cases l with
     |nil=>exact⟨b,J,this.1⟩
     |cons=>simp at G
   ·obtain⟨L,M,N⟩:=E;exact⟨L,M,Le ks cs _ N⟩
theorem Q63 {aA:List (Nat×Box)} {aB:List (Nat×Row)}:∀(E:List TypeId) (ps:List (Bool×List AC)),(∀p∈ps,∀c∈p.2,AC.wf aA aB c)->∀p∈H1 P E ps,∀c∈p.2,AC.wf aA aB c
 |[],ps,h=>by simpa [H1]using h
 |_::_,[],h=>by simp[H1]
 |t::E,(g,cs)::ps,h=>by
  intro p D;simp only[H1,av]at D;rcases D with rfl|D
  ·cases I:Gv P 8 t with
   |none=>exact h (g,cs) (by simp)
   |some ks=>exact NI ks cs (h (g,cs) (by simp))
  ·exact Q63 E ps (λq G=>h q (by simp[G])) p D
theorem Q0i {ρ:Env}:∀{ps:List (Bool×List AC)} {xs:List Value},TP ρ w ps xs->ps.length=xs.length
 |[],[],_=>rfl
 |_::_,_::_,h=>by simp[Q0i h.2]
 |[],_::_,h=>h.elim
 |_::_,[],h=>h.elim
theorem Zpz {ρ:Env} {ps:List (Bool×List AC)} {xs:List Value} (h:TP ρ w ps xs):TVR ρ w (Lj ps) (if h:xs.length=1 then xs[0]else .tuple xs.toArray):=by
 have D:=Q0i h
 match ps,xs,h with
 |[],[],_=>exact⟨#[],rfl,trivial⟩
 |[(g,cs)],[x],h=>
  simp only[Lj,List.length_singleton,dite_true,List.getElem_cons_zero];have:=h.1;cases g<;>exact this
 |p::q::ps,x::y::xs,h=>
  have: ¬(x::y::xs).length=1:=by simp
  rw[dif_neg this];exact⟨_,rfl,by simpa using h⟩
theorem Zen {keys ids:List Nat} {ps:List (Bool×List AC)} (h:Ak (λp:Bool×List AC=>Ak (AC.inK keys ids) p.2) ps=true):TV.inK keys ids (Lj ps)=true:=by
 match ps,h with
 |[],h=>exact h
 |[(g,cs)],h=>exact Ax.1 h (g,cs) (by simp)
 |p::q::ps,h=>exact h
theorem Zed {aA:List (Nat×Box)} {aB:List (Nat×Row)} {ps:List (Bool×List AC)} (h:∀p∈ps,∀c∈p.2,AC.wf aA aB c):TV.wf aA aB (Lj ps):=by
 match ps,h with
 |[],h=>exact h
 |[(g,cs)],h=>exact h (g,cs) (by simp)
 |p::q::ps,h=>exact h
theorem Z3s {J:Func} {D:List Nat} {s:St} {a:Act} (hR:Rel Z s a.tmps w) (V:∀k b,Z.K0 k=some b->k∈D) {K:TV->Mem->Option R} {r:R} (h:RA P C J D s K=some r):
  ∃x ρ' v m,K v m=some r/\(results J a.tmps).run P w= .ok x w/\RelE Z [v] m.aA m.aB ρ' #[x] w:=by
 unfold RA at h;split at h
 ·simp at h
 ·rename_i ps a3;have X:∃s1,(Ij P C s1 λs1=>match Lt P s1 J.results.toList with
    |none=>none
    |some ps=>match s1 with
     |⟨_,aA,aB⟩=>
      AQ (H1 P J.resultTypes.toList ps) λps=>
      AQ (LO aA 4 (A4 (cat (λp:Bool×List AC=>cat AC.keys p.2) ps) D)) λkeys=>
      AQ (Og aA (cat (λp:Bool×List AC=>p.2) ps) keys) λids=>
      AQ (aA.filter λp=>AP keys p.1) λE=>
      AQ (aB.filter λp=>AP ids p.1) λL=>
      bif Ak (λp:Bool×List AC=>Ak (AC.inK keys ids) p.2) ps&&Ak (λp:Nat×Box=>Ak (AC.inK keys ids) p.2.cells) E&&Ak (EL aA) D&&Ak (AP keys) D then K (Lj ps) (⟨E,L⟩:Mem)else none)=some r/\Rel Z s1 a.tmps w:=by
   cases ho:C.ownRes<;>rw[ho]at h
   ·exact Un _ s a.tmps hR _ _ h
   ·exact⟨s,h,hR⟩
  obtain⟨s1,X,Y⟩:=X;obtain⟨s2,G,ρ,M⟩:=Ru Y X;split at G
  ·simp at G
  ·rename_i a0 N;obtain⟨xs,q1,q2,q3⟩:=Q4g M _ _ N;obtain⟨tm,aA,aB⟩:=s2;simp only[Bd]at G;have O:=Qv9 J.resultTypes.toList _ _ q2 (P:=P);have S:=Q63 J.resultTypes.toList _ q3 (P:=P);generalize H1 P J.resultTypes.toList a0=I at G O S;generalize LO aA 4 (A4 (cat (λp:Bool×List AC=>cat AC.keys p.2) I) D)=keys at G;generalize Og aA (cat (λp:Bool×List AC=>p.2) I) keys=ids at G;obtain⟨U,G⟩:=Cc G;simp only[ak]at U;have T:(results J a.tmps).run P w= .ok (if h:xs.length=1 then xs[0]else .tuple xs.toArray) w:=by
    unfold results;rw[Array.mapM_eq_mapM_toList];simp only[Sem.run_bind,Sem.run_map];erw[q1]
    simp only[cy,Sem.run_pure];congr 1
   have a1:TV.inK keys ids (Lj I)=true:=Zen U.1.1.1;have a2:TV.wf aA aB (Lj I):=Zed S;refine⟨_,ρ,_,_,G,T,M.filter (by simp) (λi v hi=> ?_) (λv hv=> ?_) (by simp[Ak,a1]) U.1.1.2 (λk b hk=>Ax.1 U.2 k (V k b hk))⟩
   ·cases i with
    |zero=>simp at hi;subst hi;simpa using Zpz O
    |succ i=>simp at hi
   ·simp at hv;subst hv;exact a2
theorem Zb4 (G:Aj P C) (V:∀t∈C.eqOk,P.stoodInHeld t=false) (M:P.follows .mixedOrders=true) (hZ:InZ Z) {L:Nat} {f:FuncId} {args:List TV} {mem:Mem} {K:TV->Mem->Option R} {r:R}
  (N:∀c,KG P f=some c->SubOK P C c 0) (h:Ff P C L f args mem K=some r) {ρ:Env} {xs:List Value} (D:RelE Z args mem.aA mem.aB ρ xs.toArray w):
  Calls P f xs.toArray w λe w'=>∃x O v m,e= .returned x/\K v m=some r/\RelE Z [v] m.aA m.aB O #[x] w':=by
 unfold Ff at h;split at h
 ·rename_i J S;split at h
  ·rename_i c hc;obtain⟨_,h⟩:=Cc h;simp only[Bd]at h;have T:P.funcs[f]? =some J:=by simpa using S
   have hs:=N c (by unfold KG;rw[S];exact hc);refine calls_of_wp T hc ?_;have hlen:xs.length=args.length:=by simpa using D.tl.symm
   have hR:Rel Z ⟨args++List.replicate (J.ntmps-args.length) TV.dead,mem.aA,mem.aB⟩ (xs.toArray++Array.replicate (J.ntmps-xs.toArray.size) undef) w:=by
    refine⟨ρ,D.slots (by simp[hlen]) (λi u U=> ?_) (λu I=> ?_)⟩
    ·rw[List.getElem?_append]at U;split at U
     ·rename_i a3;have X:i<xs.length:=by omega
      have e:(xs.toArray++Array.replicate (J.ntmps-xs.toArray.size) undef).getD i undef=xs.toArray.getD i undef:=by
       simp[Array.getD_eq_getD_getElem?,Array.getElem?_append,X]
      rw[e];exact D.tv i u U
     ·have:=bt U;rw[List.mem_replicate]at this;rw[this.2];trivial
    ·rw[bn]at I;rcases I with I|I
     ·exact D.wt u I
     ·rw[List.mem_replicate]at I;rw[I.2];trivial
   refine wp_mono (Hh G V M hZ c L 0 _ ⟨_,[]⟩ w _ hs hR rfl h) ?_;rintro e a' w' ⟨ae,s,rfl,Y,a0,hd⟩;have a1:∀k b,Z.K0 k=some b->k∈mem.aA.map (·.1):=by
    intro k b hk;obtain⟨_,bo,a2⟩:=D.k0 k b hk;exact Mi.2 ⟨bo,a2⟩
   have E:RA P C J (mem.aA.map (·.1)) s K=some r->a'.defers=[]/\∃x,(results J a'.tmps).run P w'= .ok x w'/\∃y O v m,Ending.returned x= .returned y/\K v m=some r/\RelE Z [v] m.aA m.aB O #[y] w':=by
    intro hf;obtain⟨x,O,v,m,h0,h1,h2⟩:=Z3s a0 a1 hf;exact⟨hd,x,h1,x,O,v,m,rfl,h0,h2⟩
   cases ae with
   |normal=>
    obtain⟨q1,x,q2,q3⟩:=E Y;exact⟨q1,x,q2,q3⟩
   |ret=>
    obtain⟨q1,x,q2,q3⟩:=E Y;exact⟨q1,x,q2,q3⟩
   |exit id=>simp at Y
  ·simp at h
 ·simp at h
theorem Zw {F:Nat->Prop} {ρ:Env} {aA:List (Nat×Box)} (h:Ak (λp:Nat×Box=>GC p.1) aA=true):InZ (FB F w ρ aA):=by
 intro k b E;simp only[FB,bp]at E;obtain⟨bo,D,_⟩:=E;exact Ax.1 h (k,bo) (OS D)
theorem Qi0 {sig D:Sk} {m:List AC->Option (List AC)} (R:Type) (args:List TV) (mem:Mem) (K:TV->Mem->Option R):Ad sig D m R args mem K=(Ad sig D m (TV×Mem) args mem λv m=>some (v,m)).bind λp=>K p.1 p.2:=by
  obtain⟨aA,aB⟩:=mem;simp only[Ad];cases Ak (λp:Nat×Box=>GC p.1) aA
  ·rfl
  ·simp only[ai];cases FU sig ⟨args,aA,aB⟩with
   |none=>rfl
   |some vars=>
    dsimp only;cases m vars with
    |none=>rfl
    |some o=>
     simp only[ag];generalize BC D o=s;obtain⟨tm,b,r⟩:=s;dsimp only;split<;>rfl
theorem Q2x (G:Aj P C) (U:∀t∈C.eqOk,P.stoodInHeld t=false) (M:P.follows .mixedOrders=true) {L:Nat} {f:FuncId} {sig D:Sk} {m:List AC->Option (List AC)} (h1:sig.okB=true) (h2:D.okB=true)
  (N:∀c,KG P f=some c->SubOK P C c 0) (hm:∀vars o,m vars=some o->An P C L f sig D vars=some o) {args:List TV} {mem:Mem} {v:TV} {mem':Mem} (h:(Ad sig D m (TV×Mem) args mem λv m=>some (v,m))=some (v,mem')):PCallM P f args mem v mem':=by
  obtain⟨aA,aB⟩:=mem;simp only[Ad]at h;obtain⟨V,h⟩:=Cc h;split at h
  ·rename_i vars hv;simp only[da]at h;obtain⟨o,ho,h⟩:=h;have E:=hm vars o ho;intro F w ρ xs X;have Y:InZ (FB F w ρ aA):=Zw V;have I:=X.rebuild Y h1 hv;unfold An at E;generalize hs:BC sig vars=s1 at E I;obtain⟨a0,T,a1⟩:=s1;dsimp only at E I;refine(Zb4 G U M Y N E I).mono ?_;rintro e w' ⟨x,ρ',v',m',he,O,S⟩;obtain⟨b',r'⟩:=m';dsimp only at O S;have J:=S.rebuild Y h2 O;generalize a2:BC D o=s2 at h J;obtain⟨tm,b2,r2⟩:=s2;dsimp only at h J;split at h
   ·simp only[ap,cz]at h;obtain⟨rfl,rfl⟩:=h;exact⟨x,ρ',he,J⟩
   ·simp at h
  ·simp at h
theorem Zq0 (E:Aj P C) (J:∀t∈C.eqOk,P.stoodInHeld t=false) (G:P.follows .mixedOrders=true) {L:Nat} {f:FuncId} (M:Qv P f) {sig D:Sk} {m:List AC->Option (List AC)} (N:sig.okB=true) (O:D.okB=true)
  (I:∀c,KG P f=some c->SubOK P C c 0) (S:∀vars o,m vars=some o->An P C L f sig D vars=some o):SpecRight P f (Ad sig D m):=
 ⟨Qi0,λ_ _ _ _ h=>PCallM.x (Q2x E J G N O I S h) M⟩
end
open Go.RowKit Go.WideShapes Go.ChangeShapes
def Q8 (P:Program) (g:TypeId->Option (List Kd)):List Field->Nat->Option (List Kd)
 |[],_=>some []
 |f::fs,o=>match g f.type with
  |some ks=>bif Nat.beq f.offset o&&Nat.beq (P.cellsOf f.type) ks.length then(Q8 P g fs (o+ks.length)).map (ks++ ·)else none
  |none=>none
def IK (P:Program):Nat->TypeId->Option (List Kd)
 |0,_=>none
 |n+1,t=>match P.underlying t with
  |some .bool=>some [.bool]
  |some (.int k)=>some [.int k]
  |some (.slice e)=>(IK P n e).bind λks=>bif Nat.beq (P.cellsOf e) ks.length&&Nat.blt 0 ks.length then some [.sl ks]else none
  |some (.struct fs)=>(Q8 P (IK P n) fs.toList 0).bind λks=>bif Nat.beq (P.cellsOf t) ks.length then some ks else none
  |some (.array m e)=>(IK P n e).bind λks=>bif Nat.beq (P.cellsOf e) ks.length&&Nat.beq (P.cellsOf t) (m*ks.length)then some (QX ks m)else none
  |_=>none
mutual
def okC:Kd->AC->Prop
 | .int k,a=>k.min<=Af a/\Af a<=k.max
 | .bool,_=>True
 | .sl ks,a=>(BZ a).length<=maxLen/\∀c∈BZ a,okR ks c/\AT ks c=c
 | .raw,_=>True
def okR:List Kd->List AC->Prop
 |[],_=>True
 |_::_,[]=>False
 |k::ks,a::cs=>okC k a/\okR ks cs
end
def Op (w:World) (ks:List Kd) (cs:List Value):Prop:=∃raw,AT ks raw=raw/\CL (CP (λb=>b<w.heap.size) w) raw cs/\okR ks raw
theorem Op.length {w:World} {ks:List Kd} {cs:List Value} (h:Op w ks cs):cs.length=ks.length:=by
 obtain⟨raw,D,E,_⟩:=h;rw[<-E.length,<-D,QO]
theorem Q4i:∀(D E:List Kd) (G I:List AC),G.length=D.length->AT (D++E) (G++I)=AT D G++AT E I
 |[],E,[],I,_=>rfl
 |k::D,E,a::G,I,h=>by
  simp only[aq];rw[Qrn,Qrn,Q4i D E G I (by simpa using h)];rfl
 |[],_,_::_,_,h=>by simp at h
 |_::_,_,[],_,h=>by simp at h
theorem Qy0:∀{D G:List Kd} {E I:List AC},E.length=D.length->okR D E->okR G I->okR (D++G) (E++I)
 |[],_,[],_,_,_,h=>h
 |k::D,G,a::E,I,J,h,h'=>by
  simp only[aq,okR]at h⊢;exact⟨h.1,Qy0 (by simpa using J) h.2 h'⟩
 |[],_,_::_,_,h,_,_=>by simp at h
 |_::_,_,[],_,h,_,_=>by simp at h
theorem Op.append {w:World} {D E:List Kd} {G I:List Value} (h:Op w D G) (h':Op w E I):Op w (D++E) (G++I):=by
 obtain⟨J,a1,a2,a3⟩:=h;obtain⟨M,b1,b2,b3⟩:=h';have L:J.length=D.length:=by rw[<-a1,QO]
 exact⟨J++M,by rw[Q4i _ _ _ _ L,a1,b1],a2.append b2,Qy0 L a3 b3⟩
theorem Op.nil {w:World}:Op w [] []:=⟨[],rfl,trivial,by simp[okR]⟩
section
variable {H:Type} {enc:TypeId×Value->H} {P:Program} {w:World}
theorem Q2s {g:TypeId->Option (List Kd)} {m:Nat} (M:∀(t:TypeId) (ks:List Kd) (cs:List Value) (x:DataW H×List MemPlace),g t=some ks->DataW.trod enc P w 0 (λ_=>true) true m t cs=some x->Op w ks cs):
  ∀(fs:List Field) (o:Nat) (ks:List Kd) (cs:List Value),Q8 P g fs o=some ks->cs.length=o+ks.length->
   (∀f∈fs,∃x,DataW.trod enc P w 0 (λ_=>true) true m f.type ((cs.drop f.offset).take (P.cellsOf f.type))=some x)->Op w ks (cs.drop o)
 |[],o,ks,cs,h,G,_=>by
  simp[Q8]at h;subst h;have:cs.drop o=[]:=by apply List.drop_eq_nil_of_le;simp at G;omega
  rw[this];exact Op.nil
 |f::fs,o,ks,cs,h,G,N=>by
  simp only[Q8]at h;split at h
  ·rename_i D I;cases E:(Nat.beq f.offset o&&Nat.beq (P.cellsOf f.type) D.length)<;>rw[E]at h
   ·simp at h
   ·simp only[ai,bp]at h;obtain⟨S,T,rfl⟩:=h;simp only[ak]at E;have e1:f.offset=o:=ac E.1;have e2:P.cellsOf f.type=D.length:=ac E.2;obtain⟨x,J⟩:=N f (by simp);have O:=M _ _ _ _ I J;rw[e1,e2]at O;have U:=Q2s M fs (o+D.length) S cs T (by simp at G;omega) (λV L=>N V (by simp[L]));have:cs.drop o=(cs.drop o).take D.length++cs.drop (o+D.length):=by
     rw[<-List.drop_drop,List.take_append_drop]
    rw[this];exact O.append U
  ·cases h
theorem Qwg {ks:List Kd}:∀(m:Nat) (cs:List Value),cs.length=m*ks.length->(∀i,i<m->Op w ks ((cs.drop (i*ks.length)).take ks.length))->Op w (QX ks m) cs
 |0,cs,D,_=>by
  have:cs=[]:=by simpa using D
  subst this;exact Op.nil
 |m+1,cs,D,h=>by
  have E:=h 0 (by omega);simp at E;have:cs=cs.take ks.length++cs.drop ks.length:=(List.take_append_drop _ _).symm;rw[this,QX];refine E.append (Qwg m _ ?_ λi G=> ?_)
  ·simp[D,Nat.succ_mul]
  ·have:=h (i+1) (by omega);rw[List.drop_drop];rw[Nat.succ_mul,Nat.add_comm]at this;exact this
theorem Zt8 {ks:List Kd} {cs:List Value} {e t:TypeId} {fuel:Nat} {x:DataW H×List MemPlace} (hu:P.underlying t=some (.slice e)) (e1:P.cellsOf e=ks.length) (e2:0<ks.length)
  (hx:DataW.trod enc P w 0 (λ_=>true) true fuel t cs=some x) (ih:∀(m:Nat) (cs:List Value) (x:DataW H×List MemPlace),DataW.trod enc P w 0 (λ_=>true) true m e cs=some x->Op w ks cs):Op w [.sl ks] cs:=by
 rcases Go.Deep.open_slice hu hx with⟨rfl,_⟩|⟨a,len,cap,m,n,D,Pl,rfl,_,hl,a8,hm,_,Y⟩
 ·refine⟨[.view ks []],rfl,⟨T5 ks,trivial⟩,?_⟩;simp[okR,okC,BZ]
 ·have a0:m=cap:=by simpa using hm
  subst a0
  have hex:∀i,∃(N:List Value) (raw:List AC),i<len->(w.cells? 0 (a.add (i*P.cellsOf e)) (P.cellsOf e)=some N/\AT ks raw=raw/\CL (CP (λb=>b<w.heap.size) w) raw N/\okR ks raw):=λi=>by
   by_cases I:i<len
   ·obtain⟨T,L,U⟩:=Y i (by omega);obtain⟨raw,r1,r2,r3⟩:=ih n T _ U;exact⟨T,raw,λ_=>⟨L,r1,r2,r3⟩⟩
   ·exact⟨[],[],λh=>(I h).elim⟩
  let N:Nat->List Value:=λi=>Classical.choose (hex i)
  let E:Nat->List AC:=λi=>Classical.choose (Classical.choose_spec (hex i))
  have J:∀i,i<len->(w.cells? 0 (a.add (i*P.cellsOf e)) (P.cellsOf e)=some (N i)/\AT ks (E i)=E i/\CL (CP (λb=>b<w.heap.size) w) (E i) (N i)/\okR ks (E i)):=λi=>Classical.choose_spec (Classical.choose_spec (hex i));have hlen:((List.range len).map E).length=len:=by simp
  have V:∀i (Y:i<((List.range len).map E).length),((List.range len).map E)[i]=E i:=λi Y=>by simp
  have M:∀c∈(List.range len).map E,∃i,i<len/\c=E i:=λc S=>by
   simp only[ba,List.mem_range]at S;obtain⟨i,L,U⟩:=S;exact⟨i,L,U.symm⟩
  refine⟨[.view ks ((List.range len).map E)],rfl,⟨?_,trivial⟩,?_⟩
  ·rw[CP];refine⟨some a,m,by rw[hlen],by rw[hlen];exact hl,λc S=> ?_,?_⟩
   ·obtain⟨i,L,rfl⟩:=M c S;exact(J i L).2.1
   ·by_cases h0:len=0
    ·subst h0;exact .inl rfl
    ·right;have h0:0<len:=by omega
     obtain⟨a1,r1,r2,_⟩:=J 0 h0;obtain⟨_,a2,X⟩:=World.cells?_some a1;have G:=X 0 (by omega);simp only[Nat.zero_mul]at G;have ea:(a.add 0).add 0=a:=by simp[Addr.add]
     rw[ea,ah (by omega)]at G;have O:a.spot=none/\a.block<w.heap.size:=by
      unfold World.cell? at G;split at G
      ·rename_i hb;split at G
       ·cases G
       ·rename_i a3;refine⟨by simpa using a3,(dc.1 hb).1⟩
      ·cases G
     obtain⟨b,o,sp⟩:=a;obtain⟨rfl,hb⟩:=O;refine⟨b,o,rfl,hb,ST λi I=> ?_⟩;rw[V i I];rw[hlen]at I;obtain⟨a4,a5,a6,_⟩:=J i I;obtain⟨_,hle,a7⟩:=World.cells?_some a4;refine⟨by rw[<-a5];exact QO _ _,VC _ (N i) b _ a6 λj y hj=> ?_⟩;have a9:j<(N i).length:=(List.getElem?_eq_some_iff.1 hj).1;have:=a7 j (by omega);rw[<-hj,<-this,e1];congr 1;unfold Addr.add;by_cases L:i*ks.length=0<;>by_cases U:j=0<;>simp[L,U,Nat.add_assoc]
  ·simp only[okR,okC,BZ,and_true];refine⟨by rw[hlen];omega,λc S=> ?_⟩;obtain⟨i,L,rfl⟩:=M c S;exact⟨(J i L).2.2.2,(J i L).2.1⟩
theorem QY:∀(n:Nat) (m:Nat) (t:TypeId) (ks:List Kd) (cs:List Value) (x:DataW H×List MemPlace),IK P n t=some ks->DataW.trod enc P w 0 (λ_=>true) true m t cs=some x->Op w ks cs
 |0,_,_,_,_,_,h,_=>by simp[IK]at h
 |n+1,m,t,ks,cs,x,h,J=>by
  unfold IK at h;split at h
  ·rename_i I;simp at h;subst h;obtain⟨b,rfl,_⟩:=DataW.trod_bool I J;exact⟨[.bool b],rfl,⟨Qtk _,trivial⟩,by simp[okR,okC]⟩
  ·rename_i k I;simp at h;subst h;obtain⟨i,rfl,_,U⟩:=DataW.trod_int I J;exact⟨[.int k i],rfl,⟨G2 _ _,trivial⟩,by simpa [okR,okC,Af,Lit.wf]using U⟩
  ·rename_i e I;simp only[da]at h;obtain⟨G,L,D⟩:=h;cases E:(Nat.beq (P.cellsOf e) G.length&&Nat.blt 0 G.length)<;>rw[E]at D
   ·simp at D
   ·simp at D;subst D;simp only[ak]at E;have e1:=ac E.1;have e2:0<G.length:=by have:=E.2;simp[Nat.blt]at this;omega
    exact Zt8 I e1 e2 J λm cs x=>QY n m e G cs x L
  ·rename_i fs I;obtain⟨xs,N,rfl,_,hlen,O,hf⟩:=DataW.trod_struct I J;simp only[da]at h;obtain⟨G,L,D⟩:=h;cases E:Nat.beq (P.cellsOf t) G.length<;>rw[E]at D
   ·simp at D
   ·simp at D;subst D;have e:=ac E;have := Q2s (λt ks cs x => QY n N t ks cs x) fs.toList 0 G cs L (by omega) (λf S => by
     obtain⟨i,T⟩:=List.mem_iff_getElem?.1 S;have M:fs[i]? =some f:=by simpa using T
     have:=hf i f M;have V:i<fs.size:=by
      have:=(dc.1 M).1;exact this
     rw[this,ah (by omega)];exact⟨_,rfl⟩)
    simpa using this
  ·rename_i k e I;obtain⟨xs,N,rfl,_,hlen,O,hf⟩:=DataW.trod_array I J;simp only[da]at h;obtain⟨G,L,D⟩:=h;cases E:(Nat.beq (P.cellsOf e) G.length&&Nat.beq (P.cellsOf t) (k*G.length))<;>rw[E]at D
   ·simp at D
   ·simp at D;subst D;simp only[ak]at E;have e1:=ac E.1;have e2:=ac E.2;refine Qwg k cs (by omega) λi T=> ?_;have:=hf i T;rw[e1]at this;refine QY n N e G _ (xs[i]'(by omega)) L ?_;rw[this,ah]
  ·cases h
end
structure Ar where
 agg:Bool
 ks:List Kd
 raw:List AC
def Ar.sh (a:Ar):Bool×List Kd:=(a.agg,a.ks)
def Ar.ok (a:Ar):Prop:=okR a.ks a.raw/\AT a.ks a.raw=a.raw
def Ar.tv (a:Ar):TV:= .v a.agg (AT a.ks a.raw)
def shK (P:Program) (t:TypeId):Option (Bool×List Kd):=match P.underlying t with
 |some (.struct _)=>(IK P 8 t).map λks=>(true,ks)
 |some (.array _ _)=>(IK P 8 t).map λks=>(true,ks)
 |some .bool=>some (false,[.bool])
 |some (.int k)=>some (false,[.int k])
 |some (.slice _)=>(IK P 8 t).map λks=>(false,ks)
 |_=>none
section
variable {H:Type} {enc:TypeId×Value->H} {P:Program} {W:World}
theorem Zus {t:TypeId} {v:Value} {d:DataW H} {p:List MemPlace} {r:Reach} {O:Nat} {sh:Bool×List Kd} (D:shK P t=some sh) (I:Value.okWide P W r O t v)
  (h:DataW.Trod enc P W 0 (λ_=>true) true t v d p):∃a:Ar,a.sh=sh/\a.ok/\∀(ρ:Env),ρ.im=(λb=>b<W.heap.size)->TVR ρ W a.tv v:=by
 have agg:∀(ks:List Kd) (cs:Array Value),IK P 8 t=some ks->v= .agg cs->∃a:Ar,a.sh=(true,ks)/\a.ok/\∀(ρ:Env),ρ.im=(λb=>b<W.heap.size)->TVR ρ W a.tv v:=by
  rintro ks cs G rfl;obtain⟨fuel,hf⟩:=h;obtain⟨raw,J,L,M⟩:=QY 8 fuel t ks _ _ G hf;refine⟨⟨true,ks,raw⟩,rfl,⟨M,J⟩,λρ N=>⟨cs,rfl,?_⟩⟩;rw[J];exact L.mono λa _ x S=>JY (by rw[N];exact S)
 unfold shK at D;split at D
 ·rename_i fs E;simp only[bp]at D;obtain⟨ks,G,rfl⟩:=D;obtain⟨cs,rfl,_⟩:=okWide_struct E I;exact agg ks cs G rfl
 ·rename_i k e E;simp only[bp]at D;obtain⟨ks,G,rfl⟩:=D;obtain⟨cs,rfl,_⟩:∃cs,v= .agg cs/\cs.size=P.cellsOf t:=by
   simp only[Value.okWide,E]at I;obtain⟨cs,T,U,_⟩:=I;exact⟨cs,T,U⟩
  exact agg ks cs G rfl
 ·rename_i E;simp at D;subst D;obtain⟨n,rfl,_,_⟩:=open_bool E I h;exact⟨⟨false,[.bool],[.bool n]⟩,rfl,⟨by simp[okR,okC],rfl⟩,λρ _=>TVR.mkBool n⟩
 ·rename_i k E;simp at D;subst D;obtain⟨n,rfl,_,_,V⟩:=open_int E I h;exact⟨⟨false,[.int k],[.int k n]⟩,rfl,⟨by simpa [okR,okC,Af,Lit.wf]using V,rfl⟩,λρ _=>TVR.mkInt k n⟩
 ·rename_i e E;simp only[bp]at D;obtain⟨ks,G,rfl⟩:=D;obtain⟨Y,len,cap,rfl⟩:=okWide_slice E I;obtain⟨fuel,hf⟩:=h;obtain⟨raw,J,L,M⟩:=QY 8 fuel t ks _ _ G hf;have X:raw.length=1:=by rw[L.length];simp[Value.cells]
  match raw,X with
  |[a],_=>
   refine⟨⟨false,ks,[a]⟩,rfl,⟨M,J⟩,λρ N=>⟨a,J,?_⟩⟩;have:=L.1;exact JY (by rw[N];simpa [Value.cells]using this)
 ·cases D
theorem Qzx {r:Reach} {b0:Nat}:∀(I:List TypeId) (E:List Value) (M:List (DataW H)) (p:List MemPlace) (D:List (Bool×List Kd)),I.map (shK P)=D.map some->
  (∀(j:Nat) (t:TypeId) (v:Value),I[j]? =some t->E[j]? =some v->Value.okWide P W r b0 t v)->DataW.TrodAll enc P W 0 (λ_=>true) true I E M p->
  ∃as:List Ar,as.map Ar.sh=D/\(∀a∈as,a.ok)/\E.length=as.length/\∀(i:Nat) (a:Ar) (x:Value),as[i]? =some a->E[i]? =some x->∀(ρ:Env),ρ.im=(λb=>b<W.heap.size)->TVR ρ W a.tv x
 |[],E,M,p,D,G,_,h=>by
  obtain⟨rfl,rfl,rfl⟩:=trodAll_nil h;cases D with
  |nil=>exact⟨[],rfl,by simp,rfl,by simp⟩
  |cons=>simp at G
 |t::I,E,M,p,D,G,V,h=>by
  obtain⟨v,N,d,O,a,b,rfl,rfl,rfl,J,L⟩:=trodAll_cons h;cases D with
  |nil=>simp at G
  |cons sh D=>
   simp only[bj,List.cons.injEq]at G;obtain⟨as,e1,e2,e3,X⟩:=Qzx I N O b D G.2 (λj t v Y S=>V (j+1) t v (by simpa using Y) (by simpa using S)) L;obtain⟨a,ha,T,hp⟩:=Zus G.1 (V 0 t v rfl rfl) J;refine⟨a::as,by simp[ha,e1],?_,by simp[e3],?_⟩
   ·intro x U;rcases av.1 U with rfl|U
    ·exact T
    ·exact e2 x U
   ·intro i a' x J L;cases i with
    |zero=>simp at J L;subst J;subst L;exact hp
    |succ i=>exact X i a' x (by simpa using J) (by simpa using L)
theorem Q1k (O:laidOutB P=true) {S:World} (hb:Below W.heap.size W S) {sp:Nat->Bool}:∀(E:List TypeId) (I:List Value) (J:List (DataW H)) (p:List MemPlace),
  E.all (λt=>P.readableRec t&&decide (t<P.types.size))=true->(∀x∈p,x.block<W.heap.size/\sp x.block=true)->DataW.TrodAll enc P W 0 (λ_=>true) true E I J p->
  DataW.TrodAll enc P S 0 sp true E I J p
 |[],I,J,p,_,_,h=>by
  obtain⟨rfl,rfl,rfl⟩:=trodAll_nil h;exact rfl
 |t::E,I,J,p,L,D,h=>by
  obtain⟨v,M,d,N,a,b,rfl,rfl,rfl,T,U⟩:=trodAll_cons h;simp only[List.all_cons,ak,cq]at L;refine⟨a,b,WideElems.Trod_stays O L.1.1 L.1.2 T (λx G=>hb.same (D x (by simp[G])).1) (λx G=>(D x (by simp[G])).2),?_,rfl⟩;exact Q1k O hb E M N b L.2 (λx G=>D x (by simp[G])) U
theorem Zm7 {f:Func} {s:ChangeSpec} {apart fresh handsOn again:Bool} {W L:World} {args:Array Value} {v:Value} {M N:List (DataW H)} {before pa pv:List MemPlace}
  (T:DataW.Whole enc P f.params.toList s.vars apart W args.toList M N before)
  (J:∀(b:Nat) (sp:Nat->Bool) (V:Bool),DataW.TrodAll enc P L b sp V f.resultTypes.toList (v.resultList f.resultTypes.size) (s.fn H (M++N)).results [])
  (D:∀sp:Nat->Bool,(∀p∈before,sp p.block=true)->DataW.TrodAll enc P L 0 sp true f.params.toList args.toList (s.fn H (M++N)).args pa)
  (E:∀sp:Nat->Bool,(∀p∈before,sp p.block=true)->DataW.TrodVars enc P L sp s.vars (s.fn H (M++N)).vars pv)
  (I:before=pa++pv) (hb:Below W.heap.size W L)
  (U:∀(j:Nat) (t:TypeId) (r:Value),f.resultTypes[j]? =some t->(v.resultList f.resultTypes.size)[j]? =some r->Value.okWide P L .any 0 t r):
  s.post enc P f apart fresh handsOn again W args v L:=by
 have O:∀p∈before,p.block<W.heap.size:=λp G=>T.lt p G;have hold:∀p∈before,(λb=>decide (b<W.heap.size)) p.block=true:=λp G=>by simpa using O p G
 refine⟨M,N,before,[],pa,pv,T,J _ _ _,D _ hold,E _ hold,World.keptBut_mono (λp G=>⟨G,?_⟩) (hb.frame (· ∈before)),λ_=> ?_⟩
 ·rw[I,bn]at G;exact Or.inr G
 ·obtain⟨_,_,_,_,_,X,Y⟩:=T;refine⟨U,_,_,([]++pa)++pv,⟨[]++pa,pv,trodAll_append (D _ (λ_ _=>rfl)) (J _ _ _),E _ (λ_ _=>rfl),rfl,?_,?_⟩,?_⟩
  ·intro b off G;have S:MemPlace.cell b off∈before:=by rw[I];simpa using G
   rw[hb.frozen (O _ S)];exact X b off S
  ·intro ha;have:=Y ha;rw[I]at this;simpa using this
  ·intro p G _;rw[I];simpa using G
theorem Z2x {f:FuncId} {M:Func} {s:ChangeSpec} {apart fresh handsOn again:Bool} {tb:TypeId} {shs:List (Bool×List Kd)} {args:Array Value} {J gs:List (DataW H)} {before:List MemPlace} {base:Nat}
  (E:s.vars=[]) (hl:laidOutB P=true) (a0:M.resultTypes= #[tb]) (a1:P.underlying tb=some .bool)
  (N:M.params.toList.all (λt=>P.readableRec t&&decide (t<P.types.size))=true) (a8:M.params.toList.map (shK P)=shs.map some)
  (O:∀l:List (DataW H),l.length=shs.length->s.fn H l={results:=[.lit (.bool true)],args:=l})
  (a2:∀as:List Ar,as.map Ar.sh=shs->(∀a∈as,a.ok)->PCallM P f (as.map Ar.tv) ⟨[],[]⟩ (.v false [.bool true]) ⟨[],[]⟩)
  (a3:∀(j:Nat) (t:TypeId) (v:Value),M.params[j]? =some t->args[j]? =some v->Value.okWide P W .any base t v)
  (hW:DataW.Whole enc P M.params.toList s.vars apart W args.toList J gs before):
  Calls P f args W λe W'=>∃v,e= .returned v/\s.post enc P M apart fresh handsOn again W args v W':=by
 have a4:=hW;obtain⟨p,q,hA,hV,rfl,b2,b3⟩:=hW;rw[E]at hV;obtain⟨rfl,rfl⟩:=trodVars_none hV;have a9:∀x∈p++[],x.block<W.heap.size:=λx X=>a4.lt x X;obtain⟨as,e1,e2,e3,e4⟩:=Qzx (r:= .any) (b0:=base) M.params.toList args.toList J p shs a8 (λj t v ht hv=>a3 j t v (by simpa using ht) (by simpa using hv)) hA;have b1:J.length=shs.length:=by
  have:∀(ts:List TypeId) (vs:List Value) (J:List (DataW H)) (p:List MemPlace),DataW.TrodAll enc P W 0 (λ_=>true) true ts vs J p->J.length=vs.length:=by
   intro ts;induction ts with
   |nil=>intro vs J p h;obtain⟨rfl,rfl,rfl⟩:=trodAll_nil h;rfl
   |cons t ts ih=>
    intro vs J p h;obtain⟨v,b4,d,b5,a,b,rfl,rfl,rfl,h1,h2⟩:=trodAll_cons h;simp[ih _ _ _ h2]
  rw[this _ _ _ _ hA,e3,<-e1,af]
 have S:=O (J++[]) (by simpa using b1);have a5:RelE (FB (λb=>b<W.heap.size) W ⟨λ_=>0,λ_=> .slice none 0 0,λ_=>0,λb=>b<W.heap.size⟩ []) (as.map Ar.tv) [] [] ⟨λ_=>0,λ_=> .slice none 0 0,λ_=>0,λb=>b<W.heap.size⟩ args.toList.toArray W:=by
  refine⟨by simpa using e3.symm,λi v hi=> ?_,λv hv=> ?_,λk b D=>by simp[Ac]at D,λk b D=>by simp[Ac]at D,λk k' b b' D=>by simp[Ac]at D,λid r N=>by simp[Ac]at N,
   λid id' r r' g N=>by simp[Ac]at N,λk b id r D=>by simp[Ac]at D,λb hb=>⟨hb,λk bo D=>by simp[Ac]at D,λid r N=>by simp[Ac]at N⟩,Fr.refl _ _,λ_ h=>h,λ_ h=>h,λb h=> .inl h,λk b D=>by simp[FB,Ac]at D⟩
  ·simp only[dk,bp]at hi;obtain⟨a,T,rfl⟩:=hi;have L:i<args.toList.length:=by rw[e3];exact(List.getElem?_eq_some_iff.1 T).1
   have a6:i<args.size:=by simpa using L
   have e:args.toList.toArray.getD i undef=args.toList[i]:=by simp[Array.getD,a6]
   rw[e];exact e4 i a _ T (ah L) _ rfl
  ·simp only[ba]at hv;obtain⟨a,T,rfl⟩:=hv;intro c I;obtain⟨i,hi⟩:=List.getElem?_of_mem T;have L:i<args.toList.length:=by rw[e3];exact(List.getElem?_eq_some_iff.1 hi).1
   have b6:=e4 i a _ hi (ah L) ⟨λ_=>0,λ_=> .slice none 0 0,λ_=>0,λb=>b<W.heap.size⟩ rfl;have U:∀(ks:List Kd) (cs:List AC) (j:Nat),∀c∈E4 ks cs j,AC.calm c=true:=by
    intro ks;induction ks with
    |nil=>intro cs j c I;simp[E4]at I
    |cons k ks ih=>
     intro cs j c I;simp only[E4,av]at I;rcases I with rfl|I
     ·cases k<;>try rfl
      generalize nth AC.dead cs j=b;cases b<;>rfl
     ·exact ih cs _ c I
   have:=U a.ks a.raw 0 c I;cases c<;>first|trivial|(simp[AC.calm]at this)
 have G:=a2 as e1 e2 _ W _ args.toList a5;have V:args.toList.toArray=args:=by simp
 rw[V]at G;refine G.mono ?_;rintro e W' ⟨x,ρ',rfl,Y⟩;have hb:Below W.heap.size W W':=⟨Y.fr.os,Y.fr.tape,Y.fr.output,Y.fr.size,λk D=>Y.fr.block k D⟩;have X:x= .bool true:=by
  have:TVR ρ' W' (.c (.bool true)) x:=by simpa using Y.tv 0 _ rfl
  obtain⟨a,T,I⟩:=this;simp at T;subst T;simpa [CC,CP]using I
 subst X;refine⟨_,rfl,Zm7 (pa:=p) (pv:=[]) a4 ?_ ?_ ?_ rfl hb (ok_one a0 rfl (okWide_bool_mk a1 true))⟩
 ·intro b sp hd;rw[S,a0];exact trodAll_mk1 (shut_bool a1 true)
 ·intro sp a7;rw[S];simp only[List.append_nil];exact Q1k hl hb _ _ _ _ N (λx X=>⟨a9 x (by simp[X]),a7 x (by simp[X])⟩) hA
 ·intro sp a7;rw[S,E];exact rfl
end
theorem Ss:∀{l:List (Nat×Spec)} {k:Nat} {b:Spec},IZ l k=some b->(k,b)∈l
 |[],_,_,h=>by simp[IZ]at h
 |(j,c)::l,k,b,h=>by
  simp only[IZ]at h;cases hb:Nat.beq j k<;>rw[hb]at h
  ·simp only[an]at h;exact List.mem_cons_of_mem _ (Ss h)
  ·simp at h;subst h;rw[ac hb];simp
def L2 (P:Program) (f:FuncId):Bool:=match P.funcs[f]? with
 |some fn=> !(fn.name== "runtime.NumGoroutine")&&fn.body.isSome
 |none=>false
theorem Td {P:Program} {f:FuncId} (h:L2 P f=true):Qv P f:=by
 unfold L2 at h;split at h
 ·rename_i D hf;simp only[ak,Bool.not_eq_true']at h;exact⟨D,hf,h.1,by cases hb:D.body<;>simp_all⟩
 ·cases h
def Am (P:Program) (p:Nat×Spec):Prop:=SpecRight P p.1 p.2
def AllOK (P:Program):List (Nat×Spec)->Prop
 |[]=>True
 |p::l=>Am P p/\AllOK P l
theorem AllOK.mem {P:Program}:∀{l:List (Nat×Spec)},AllOK P l->∀p∈l,Am P p
 |_::l,h,p,D=>by
  rcases av.1 D with rfl|D
  ·exact h.1
  ·exact AllOK.mem h.2 p D
theorem Ap {P:Program} {C:Cfg} {l:List (Nat×Spec)} (G:C.spec=IZ l) (h:AllOK P l) (D:C.ro=λ_=>false:=by rfl):Aj P C:=by
 refine⟨λf g E=> ?_,λf g _ h=> ?_⟩
 ·rw[G]at E;exact h.mem _ (Ss E)
 ·rw[D]at h;cases h
def AllRo (rs:List Nat):List (Nat×Spec)->Prop
 |[]=>True
 |p::l=>(AP rs p.1=false\/Uj p.2)/\AllRo rs l
theorem AllRo.mem {rs:List Nat}:∀{l:List (Nat×Spec)},AllRo rs l->∀p∈l,AP rs p.1=false\/Uj p.2
 |_::l,h,p,D=>by
  rcases av.1 D with rfl|D
  ·exact h.1
  ·exact AllRo.mem h.2 p D
theorem Hb {P:Program} {C:Cfg} {l:List (Nat×Spec)} {rs:List Nat} (I:C.spec=IZ l) (h:AllOK P l) (E:C.ro=λf=>AP rs f) (J:AllRo rs l):Aj P C:=by
 refine⟨λf g D=> ?_,λf g D G=> ?_⟩
 ·rw[I]at D;exact h.mem _ (Ss D)
 ·rw[I]at D;rw[E]at G;rcases J.mem _ (Ss D)with h|h
  ·dsimp only at h G;rw[G]at h;cases h
  ·exact h
theorem Ae {x:Int} (h: -9223372036854775808<=x/\x<=9223372036854775807):IntKind.i64.wrap x=x:=by
 simp[IntKind.wrap,IntKind.signed,IntKind.bits];omega
section loops
variable {step:List AC->Option (Nat×List AC)}
theorem Qsf:∀{n:Nat} {vars:List AC} {o:Nat×List AC},CZ step n vars=some o->CZ step (n+1) vars=some o
 |0,_,_,h=>by simp[CZ]at h
 |n+1,vars,o,h=>by
  rw[CZ]at h⊢;simp only[da]at h⊢;obtain⟨q,G,D⟩:=h;refine⟨q,G,?_⟩;split at D
  ·rename_i E;rw[aa E];exact Qsf D
  ·rename_i E;rw[ab E];exact D
theorem Q34 {n m:Nat} {vars:List AC} {o:Nat×List AC} (D:n<=m) (h:CZ step n vars=some o):CZ step m vars=some o:=by
 induction D with
 |refl=>exact h
 |step _ E=>exact Qsf E
theorem Zug {n m:Nat} {vars:List AC} {o D:Nat×List AC} (h:CZ step n vars=some o) (h':CZ step m vars=some D):o=D:=by
 have G:=Q34 (Nat.le_max_left n m) h;have E:=Q34 (Nat.le_max_right n m) h';rw[G]at E;simpa using E
open Classical in
noncomputable def Al (step:List AC->Option (Nat×List AC)) (vars:List AC):Option (Nat×List AC):=
 if h:∃n o,CZ step n vars=some o then CZ step (Classical.choose h) vars else none
theorem P2 {vars:List AC} {o:Nat×List AC} (h:Al step vars=some o):∃n,CZ step n vars=some o:=by
 unfold Al at h;split at h
 ·exact⟨_,h⟩
 ·simp at h
theorem Qpt {n:Nat} {vars:List AC} {o:Nat×List AC} (h:CZ step n vars=some o):Al step vars=some o:=by
 unfold Al;have E:∃n o,CZ step n vars=some o:=⟨n,o,h⟩;rw[dif_pos E];obtain⟨G,D⟩:=Classical.choose_spec E;rw[D,Zug h D]
theorem QB (vars:List AC):Al step vars=(step vars).bind λo=>if o.1=0 then Al step o.2 else some o:=by
 cases I:step vars with
 |none=>
  cases E:Al step vars with
  |none=>rfl
  |some o=>
   obtain⟨n,D⟩:=P2 E;cases n with
   |zero=>simp[CZ]at D
   |succ n=>simp[CZ,I]at D
 |some q=>
  simp only[ag];by_cases G:q.1=0
  ·rw[aa G];cases E:Al step q.2 with
   |none=>
    cases J:Al step vars with
    |none=>rfl
    |some o=>
     obtain⟨n,D⟩:=P2 J;cases n with
     |zero=>simp[CZ]at D
     |succ n=>
      simp only[CZ,I,ag,aa G]at D;rw[Qpt D]at E;cases E
   |some o=>
    obtain⟨n,D⟩:=P2 E;exact Qpt (n:=n+1) (by simp only[CZ,I,ag,aa G];exact D)
  ·rw[ab G];exact Qpt (n:=1) (by simp only[CZ,I,ag,ab G])
end loops
theorem Ks:∀(c:Code) (b blk:Nat) (body:Code),(blk,body)∈AO c b->(∀p∈AO body blk,p∈AO c b)/\(∀p∈A9 body,p∈A9 c)/\(∀p∈Bg body blk,p∈Bg c b)
 | .seq x y,b,blk,body,h=>by
  simp only[AO,bn]at h;rcases h with h|h
  ·obtain⟨E,G,I⟩:=Ks x b blk body h;exact⟨λp D=>by simp[AO,E p D],λp D=>by simp[A9,G p D],λp D=>by simp[Bg,I p D]⟩
  ·obtain⟨E,G,I⟩:=Ks y b blk body h;exact⟨λp D=>by simp[AO,E p D],λp D=>by simp[A9,G p D],λp D=>by simp[Bg,I p D]⟩
 | .cond c x y,b,blk,body,h=>by
  simp only[AO,bn]at h;rcases h with h|h
  ·obtain⟨E,G,I⟩:=Ks x b blk body h;exact⟨λp D=>by simp[AO,E p D],λp D=>by simp[A9,G p D],λp D=>by cases c<;>simp[Bg,I p D]⟩
  ·obtain⟨E,G,I⟩:=Ks y b blk body h;exact⟨λp D=>by simp[AO,E p D],λp D=>by simp[A9,G p D],λp D=>by cases c<;>simp[Bg,I p D]⟩
 | .block id x,b,blk,body,h=>by
  simp only[AO]at h;obtain⟨E,G,I⟩:=Ks x b blk body h;exact⟨λp D=>by simp[AO,E p D],λp D=>by simp[A9,G p D],λp D=>by simp[Bg,I p D]⟩
 | .loop x,b,blk,body,h=>by
  simp only[AO,av,cz]at h;rcases h with⟨rfl,rfl⟩|h
  ·exact⟨λp D=>by rw[It _ _ b]at D;simp[AO,D],λp D=>by simp[A9,D],λp D=>by rw[IY _ _ b]at D;simp[Bg,D]⟩
  ·obtain⟨E,G,I⟩:=Ks x b blk body h;exact⟨λp D=>by simp[AO,E p D],λp D=>by simp[A9,G p D],λp D=>by simp[Bg,I p D]⟩
 | .skip,_,_,_,h=>by simp[AO]at h
 | .region _ _ _,_,_,_,h=>by simp[AO]at h
 | .exit _,_,_,_,h=>by simp[AO]at h
 | .ret,_,_,_,h=>by simp[AO]at h
 | .rangeFunc _ _ _ _,_,_,_,h=>by simp[AO]at h
 | .scope x,b,blk,body,h=>by
  simp only[AO]at h;obtain⟨E,G,I⟩:=Ks x b blk body h;exact⟨λp D=>by simp[AO,E p D],λp D=>by simp[A9,G p D],λp D=>by simp[Bg,I p D]⟩
 | .label _,_,_,_,h=>by simp[AO]at h
 | .goto _,_,_,_,h=>by simp[AO]at h
 | .refuse _,_,_,_,h=>by simp[AO]at h
theorem Ka:∀(c:Code) (b id:Nat) (body:Code),(id,body)∈A9 c->(∀p∈AO body id,p∈AO c b)/\(∀p∈A9 body,p∈A9 c)/\(∀p∈Bg body id,p∈Bg c b)
 | .seq x y,b,id,body,h=>by
  simp only[A9,bn]at h;rcases h with h|h
  ·obtain⟨E,G,I⟩:=Ka x b id body h;exact⟨λp D=>by simp[AO,E p D],λp D=>by simp[A9,G p D],λp D=>by simp[Bg,I p D]⟩
  ·obtain⟨E,G,I⟩:=Ka y b id body h;exact⟨λp D=>by simp[AO,E p D],λp D=>by simp[A9,G p D],λp D=>by simp[Bg,I p D]⟩
 | .cond c x y,b,id,body,h=>by
  simp only[A9,bn]at h;rcases h with h|h
  ·obtain⟨E,G,I⟩:=Ka x b id body h;exact⟨λp D=>by simp[AO,E p D],λp D=>by simp[A9,G p D],λp D=>by cases c<;>simp[Bg,I p D]⟩
  ·obtain⟨E,G,I⟩:=Ka y b id body h;exact⟨λp D=>by simp[AO,E p D],λp D=>by simp[A9,G p D],λp D=>by cases c<;>simp[Bg,I p D]⟩
 | .block j x,b,id,body,h=>by
  simp only[A9,av,cz]at h;rcases h with⟨rfl,rfl⟩|h
  ·exact⟨λp D=>by rw[It _ _ b]at D;simp[AO,D],λp D=>by simp[A9,D],λp D=>by rw[IY _ _ b]at D;simp[Bg,D]⟩
  ·obtain⟨E,G,I⟩:=Ka x b id body h;exact⟨λp D=>by simp[AO,E p D],λp D=>by simp[A9,G p D],λp D=>by simp[Bg,I p D]⟩
 | .loop x,b,id,body,h=>by
  simp only[A9]at h;obtain⟨E,G,I⟩:=Ka x b id body h;exact⟨λp D=>by simp[AO,E p D],λp D=>by simp[A9,G p D],λp D=>by simp[Bg,I p D]⟩
 | .skip,_,_,_,h=>by simp[A9]at h
 | .region _ _ _,_,_,_,h=>by simp[A9]at h
 | .exit _,_,_,_,h=>by simp[A9]at h
 | .ret,_,_,_,h=>by simp[A9]at h
 | .rangeFunc _ _ _ _,_,_,_,h=>by simp[A9]at h
 | .scope x,b,id,body,h=>by
  simp only[A9]at h;obtain⟨E,G,I⟩:=Ka x b id body h;exact⟨λp D=>by simp[AO,E p D],λp D=>by simp[A9,G p D],λp D=>by simp[Bg,I p D]⟩
 | .label _,_,_,_,h=>by simp[A9]at h
 | .goto _,_,_,_,h=>by simp[A9]at h
 | .refuse _,_,_,_,h=>by simp[A9]at h
structure FnOK (P : Program) (C : Cfg) (f : FuncId) : Prop where
 l:∀p∈IF P f,∀sk g,C.loops p.1=some (sk,g)->JD P (.loop p.2) sk g
 b:∀p∈Kt P f,∀sk g,C.blocks p.1=some (sk,g)->JD P (.block p.1 p.2) sk g
 c:∀p∈RU P f,∀sk g,C.conds p.1=some (sk,g)->JD P (.cond (.tmp p.1) p.2.2.1 p.2.2.2) sk g
theorem FnOK.bare {P:Program} {C:Cfg} {f:FuncId} (D:C.loops=λ_=>none) (E:C.blocks=λ_=>none) (G:C.conds=λ_=>none):FnOK P C f:=
 ⟨λp _ sk g h=>by simp[D]at h,λp _ sk g h=>by simp[E]at h,λp _ sk g h=>by simp[G]at h⟩
theorem FnOK.sub {P:Program} {C:Cfg} {f:FuncId} (h:FnOK P C f) {c:Code} (E:KG P f=some c):SubOK P C c 0:=
 ⟨λp D=>h.l p (by unfold IF;rw[E];exact D),λp D=>h.b p (by unfold Kt;rw[E];exact D),λp D=>h.c p (by unfold RU;rw[E];exact D)⟩
theorem Zzr {P:Program} {f blk:Nat} {c:Code} (h:Ac (IF P f) blk=some c):AV P f blk=c:=by unfold AV;rw[h]
theorem US {α:Type}:∀{l:List (Nat×α)} {k:Nat} {b:α},BQ (l.map (·.1))=true->(k,b)∈l->Ac l k=some b
 |[],_,_,_,h=>by simp at h
 |(j,c)::l,k,b,E,h=>by
  have D:=I7.1 E;simp only[bj,List.nodup_cons]at D;simp only[Ac];rcases av.1 h with h|h
  ·simp at h;obtain⟨rfl,rfl⟩:=h;simp
  ·have:j≠k:=by rintro rfl;exact D.1 (ba.2 ⟨(j,b),h,rfl⟩)
   rw[Ku this];exact US (I7.2 D.2) h
theorem FnOK.subLoop {P:Program} {C:Cfg} {f:FuncId} (h:FnOK P C f) {blk:Nat} {body:Code} (E:(blk,body)∈IF P f):SubOK P C body blk:=by
 unfold IF at E;split at E
 ·rename_i c G;obtain⟨I,J,L⟩:=Ks c 0 blk body E;exact⟨λp D=>h.l p (by unfold IF;rw[G];exact I p D),λp D=>h.b p (by unfold Kt;rw[G];exact J p D),λp D=>h.c p (by unfold RU;rw[G];exact L p D)⟩
 ·simp at E
theorem FnOK.subBlock {P:Program} {C:Cfg} {f:FuncId} (h:FnOK P C f) {id:Nat} {body:Code} (E:(id,body)∈Kt P f):SubOK P C body id:=by
 unfold Kt at E;split at E
 ·rename_i c G;obtain⟨I,J,L⟩:=Ka c 0 id body E;exact⟨λp D=>h.l p (by unfold IF;rw[G];exact I p D),λp D=>h.b p (by unfold Kt;rw[G];exact J p D),λp D=>h.c p (by unfold RU;rw[G];exact L p D)⟩
 ·simp at E
theorem FnOK.loop {P:Program} {C:Cfg} {f:FuncId} (h:FnOK P C f) (E:Aj P C) (M:∀t∈C.eqOk,P.stoodInHeld t=false) (I:P.follows .mixedOrders=true) {L blk:Nat} {sk:Sk} {D:List (Ex×Sk)}
  (T:BQ ((IF P f).map (·.1))=true) (N:sk.okB=true):FnOK P (C.loop blk sk D (Al (AW P C L blk (AV P f blk) sk D))) f:=by
 refine⟨λp O S g J=> ?_,h.b,h.c⟩;simp only[Cfg.loop]at J;cases hb:Nat.beq p.1 blk<;>rw[hb]at J
 ·exact h.l p O S g J
 ·have e:=ac hb;subst e;simp only[ai,ap,cz]at J;obtain⟨rfl,rfl⟩:=J;have G:=Zzr (US (k:=p.1) (b:=p.2) T O);rw[G];exact Zvk E M I N (h.subLoop O) λvars o U=>P2 U
theorem FnOK.block {P:Program} {C:Cfg} {f:FuncId} (h:FnOK P C f) (E:Aj P C) (M:∀t∈C.eqOk,P.stoodInHeld t=false) (I:P.follows .mixedOrders=true) {L id:Nat} {sk:Sk} {D:List (Ex×Sk)}
  (S:BQ ((Kt P f).map (·.1))=true):FnOK P (C.block id sk D (Q5x P C L id (ZJ P f id) sk D)) f:=by
 refine⟨h.l,λp N O g J=> ?_,h.c⟩;simp only[Cfg.block]at J;cases hb:Nat.beq p.1 id<;>rw[hb]at J
 ·exact h.b p N O g J
 ·have e:=ac hb;subst e;simp only[ai,ap,cz]at J;obtain⟨rfl,rfl⟩:=J;have G:ZJ P f p.1=p.2:=by unfold ZJ;rw[US (k:=p.1) (b:=p.2) S N]
  rw[G];exact Z1d E M I (h.subBlock N) λvars o T=>T
theorem Qoz {P:Program} {C:Cfg} {f:FuncId} {L:Nat} {sig D:Sk} (M:L2 P f=true) (h:FnOK P C f) (E:Aj P C) (J:∀t∈C.eqOk,P.stoodInHeld t=false) (I:P.follows .mixedOrders=true)
  (N:sig.okB=true) (O:D.okB=true):Am P (f,Ad sig D (An P C L f sig D)):=
 Zq0 E J I (Td M) N O (λ_ G=>h.sub G) λ_ _ S=>S
theorem Z9v {P:Program} {C:Cfg} {f:FuncId} {L:Nat} {sig D:Sk} (_:L2 P f=true) (h:FnOK P C f) (E:Aj P C) (M:∀t∈C.eqOk,P.stoodInHeld t=false) (I:P.follows .mixedOrders=true)
  (N:sig.okB=true) (O:D.okB=true) (args:List TV) (v:TV) (mem':Mem) (J:(Ad sig D (An P C L f sig D) (TV×Mem) args ⟨[],[]⟩ λv m=>some (v,m))=some (v,mem')):PCallM P f args ⟨[],[]⟩ v mem':=
 Q2x E M I N O (λ_ G=>h.sub G) (λ_ _ S=>S) J
theorem Z5j {P:Program} {f:FuncId} {sig D:Sk}:Am P (f,Ad sig D λ_=>none):=by
 refine⟨Qi0,λargs mem v mem' h=> ?_⟩;obtain⟨aA,aB⟩:=mem;simp only[Ad]at h;obtain⟨_,h⟩:=Cc h;split at h
 ·simp at h
 ·simp at h
section
variable {H α:Type}
theorem Z43 (F G:List (DataW H)->α) (h:∀a b c d e,F [a,b,c,d,e]=G [a,b,c,d,e]) (l:List (DataW H)) (D:l.length=5):F l=G l:=by
 match l,D with
 |[a,b,c,d,e],_=>exact h a b c d e
end
theorem QP {l:List Ar} {s:Bool×List Kd} {D:List (Bool×List Kd)} (h:l.map Ar.sh=s::D):∃a E,l=a::E/\a.agg=s.1/\a.ks=s.2/\E.map Ar.sh=D:=by
 cases l with
 |nil=>simp at h
 |cons a E=>
  simp only[bj,List.cons.injEq]at h;refine⟨a,E,rfl,?_,?_,h.2⟩
  ·rw[<-h.1];rfl
  ·rw[<-h.1];rfl
theorem Zq2 {l:List Ar} (h:l.map Ar.sh=[]):l=[]:=by
 cases l with
 |nil=>rfl
 |cons a D=>simp at h
theorem Ztr {rl:Nat->Nat} {c:CS} {a:AC} {v:List AC} (he:VS c a=true) (h:KT c a=some v) {l:List AC} {i:Nat} (D:Seg l i v):Ey rl l c i=(a,i+v.length):=by
 cases c<;>cases a<;>simp only[VS]at he<;>try (simp at he;done)
 case int.int k k' n=>
  simp only[KT,he,ai,ap]at h;subst h;simp only[Ey,D.one,Af,Pw he,bh,cx]
 case bool.bool b=>
  simp only[KT,ap]at h;subst h;simp only[Ey,D.one,C_,bh,cx]
 case sl.view ks E q=>
  simp only[KT,he,ai,ap]at h;subst h;simp only[Ey,D.one,BZ,J1 he,bh,cx]
 case ptr.ptr k o k' G=>
  simp only[KT,he,ai,ap]at h;subst h;simp only[ak]at he;simp only[Ey,ac he.1,ac he.2,cx,Nat.add_zero]
theorem Q64 {rl:Nat->Nat} {l:List AC}:∀{cs:List CS} {as:List AC} {v:List AC},O8 cs as=true->G3 cs as=some v->∀{i},Seg l i v->Ez rl l cs i=(as,i+v.length)
 |[],[],v,_,h,i,_=>by simp[G3]at h;subst h;rfl
 |c::cs,a::as,v,he,h,i,D=>by
  simp only[O8,ak]at he;simp only[G3]at h;split at h
  ·rename_i I E;split at h
   ·rename_i J G;simp at h;subst h;simp only[Ez,Ztr he.1 E D.left,Q64 he.2 G D.right,ao,Nat.add_assoc]
   ·simp at h
  ·simp at h
 |[],_::_,_,he,_,_,_=>by simp[O8]at he
 |_::_,[],_,he,_,_,_=>by simp[O8]at he
theorem Qui {rl:Nat->Nat} {l:List AC} {aA:List (Nat×Box)}:∀{bs:List (Nat×TypeId×List CS)} {m:List (Nat×Box)} {v:List AC},HM bs m=true->(∀p∈m,Ac aA p.1=some p.2)->
  J7 bs aA=some v->∀{i},Seg l i v->FG rl l bs i=m
 |[],[],v,_,_,_,i,_=>rfl
 |(k,t,cs)::bs,(k',b)::m,v,he,D,h,i,E=>by
  simp only[HM,ak]at he;obtain⟨e1,e2,e3,G⟩:=he;have e1:=ac e1;subst e1;have hb:=D (k,b) (by simp);dsimp only at hb;simp only[J7,hb,e2,ai]at h;split at h
  ·rename_i M I;split at h
   ·rename_i N J;simp at h;subst h;simp only[FG,Q64 e3 I E.left,Qui G (λp L=>D p (by simp[L])) J E.right];obtain⟨ty,cells⟩:=b;simp only[ac e2]
   ·simp at h
  ·simp at h
 |[],_::_,_,he,_,_,_,_=>by simp[HM]at he
 |_::_,[],_,he,_,_,_,_=>by simp[HM]at he
theorem Q8k:∀{bs:List (Nat×TypeId×List CS)} {m:List (Nat×Box)},HM bs m=true->m.map (·.1)=bs.map (·.1)
 |[],[],_=>rfl
 |(k,t,cs)::bs,(k',b)::m,he=>by
  simp only[HM,ak]at he;simp only[bj,Q8k he.2.2.2,ac he.1]
 |[],_::_,he=>by simp[HM]at he
 |_::_,[],he=>by simp[HM]at he
theorem Zpm {sig D:Sk} {m:List AC->Option (List AC)} (R:Type) (args:List TV) (mem:Mem) (K:TV->Mem->Option R):EW sig D m R args mem K=(EW sig D m (TV×Mem) args mem λv m=>some (v,m)).bind λp=>K p.1 p.2:=by
 obtain⟨aA,aB⟩:=mem;simp only[EW];cases(Ak (λp:Nat×Box=>GC p.1) aA&&(HM sig.aA aA&&(aB.isEmpty&&(sig.aB.isEmpty&&BQ (sig.aA.map (·.1))))))
 ·rfl
 ·simp only[ai];cases FU sig ⟨args,aA,aB⟩with
  |none=>rfl
  |some vars=>
   dsimp only;cases m vars with
   |none=>rfl
   |some o=>
    simp only[ag];generalize BC D o=s;obtain⟨tm,b,r⟩:=s;cases b<;>cases r<;>try rfl
    dsimp only;split<;>rfl
theorem Z2u {sig D:Sk} {m:List AC->Option (List AC)}:Uj (EW sig D m):=by
 intro args mem v E h;obtain⟨aA,aB⟩:=mem;simp only[EW]at h;obtain⟨_,h⟩:=Cc h;split at h
 ·simp only[da]at h;obtain⟨o,_,h⟩:=h;split at h
  ·split at h
   ·simp only[ap,cz]at h;exact h.2.symm
   ·simp at h
  ·simp at h
 ·simp at h
theorem Hs {rs:List Nat}:AllRo rs []:=trivial
theorem CA {rs:List Nat} {k:Nat} {g:Spec} {l:List (Nat×Spec)} (h:AP rs k=false) (t:AllRo rs l):AllRo rs ((k,g)::l):=⟨.inl h,t⟩
theorem Fg {rs:List Nat} {k:Nat} {sig D:Sk} {m:List AC->Option (List AC)} {l:List (Nat×Spec)} (t:AllRo rs l):AllRo rs ((k,EW sig D m)::l):=⟨.inr Z2u,t⟩
def Zrq (P:Program) (C:Cfg) (L:Nat) (f:FuncId) (sig:Sk):Prop:=
 ∀(vars:List AC) (R:Type) (K:TV->Mem->Option R),Ff P C L f (BC sig vars).tmps ⟨(BC sig vars).aA,(BC sig vars).aB⟩ K=Ff P C L f (BC sig vars).tmps ⟨(BC sig vars).aA,(BC sig vars).aB⟩ λv _=>K v ⟨(BC sig vars).aA,(BC sig vars).aB⟩
open Classical in
theorem Qc {P:Program} {C:Cfg} {f:FuncId} {L:Nat} {sig E:Sk} (hc:L2 P f=true) (h:FnOK P C f) (a1:Aj P C) (b2:∀t∈C.eqOk,P.stoodInHeld t=false) (a9:P.follows .mixedOrders=true)
  (h1:sig.okB=true) (h2:E.okB=true) (hl:Zrq P C L f sig):Am P (f,EW sig E (LV P C L f sig E)):=by
 refine⟨Zpm,λargs mem v mem' N=>PCallM.x ?_ (Td hc)⟩;obtain⟨aA,aB⟩:=mem;simp only[EW]at N;obtain⟨U,N⟩:=Cc N;simp only[ak]at U;obtain⟨U,hex,a2,O,a3⟩:=U;have a2:aB=[]:=by simpa using a2
 have O:sig.aB=[]:=by simpa using O
 subst a2;split at N
 ·rename_i vars D;simp only[da]at N;obtain⟨o,ho,N⟩:=N;intro F w ρ xs b3;have hZ:InZ (FB F w ρ aA):=Zw U;have a4:=b3.rebuild hZ h1 D
  have J:(BC sig vars).aA=aA:=by
   simp only[FU]at D;obtain⟨_,D⟩:=Cc D;rw[O]at D;simp only[JO]at D;split at D
   ·rename_i b hb;split at D
    ·rename_i c V;simp only[ay,ap]at D;subst D;simp only[BC,O,Hk];have S:=Ux (aA:=aA) (aB:=[]) (ρ:=ρ) (w:=w) (rl:=Ec []) ⟨λid r hl=>by simp[Ac]at hl⟩ hb (l:=b++c) (i:=0) (Seg.all _).left;generalize b4:Fy (Ec []) (b++c) sig.tmps 0=q at S;obtain⟨tm,i⟩:=q;have hi:i=0+b.length:=S.1;subst hi;have a5:=Q8k hex;refine Qui hex (λp hp=>US (by rw[a5];exact a3) hp) V (Seg.all (b++c)).right
    ·simp at D
   ·simp at D
  have M:(BC sig vars).aB=[]:=by simp only[BC,O,Hk]
  have a6:=hl vars;unfold LV at ho;generalize hs:BC sig vars=s1 at ho a4 a6 J M;obtain⟨a7,I,b5⟩:=s1;dsimp only at ho a4 a6 J M;subst J;subst M;have b0:Ff P C L f a7 ⟨I,[]⟩ (λv m=>if m=⟨I,[]⟩then FU E ⟨[v],[],[]⟩else none)=some o:=by
   rw[a6];simp only[if_true];exact ho
  refine(Zb4 a1 b2 a9 hZ (λ_ a8=>h.sub a8) b0 a4).mono ?_;rintro e w' ⟨x,ρ',v',m',he,G,X⟩;split at G
  ·rename_i hm;subst hm;dsimp only at X
   simp only[FU]at G;obtain⟨_,G⟩:=Cc G;split at G
   ·rename_i a ha;split at G
    ·rename_i b hb;split at G
     ·rename_i c V;simp only[ap]at G;subst G;split at N
      ·rename_i tm Y;split at N
       ·rename_i vn;simp only[ap,cz]at N;obtain⟨rfl,rfl⟩:=N;have T:E.aB=[]:=by
         cases b6:E.aB with
         |nil=>rfl
         |cons p l=>obtain⟨k,t,ks⟩:=p;rw[b6]at ha;simp[JO,Ac]at ha
        rw[T]at ha;simp only[JO,ap]at ha;subst ha;have S:=Ux (aA:=I) (aB:=[]) (ρ:=ρ') (w:=w') (rl:=Ec []) ⟨λid r hl=>by simp[Ac]at hl⟩ hb (l:=[]++(b++c)) (i:=0) (show Seg (b++c) 0 b from(Seg.all (b++c)).left);simp only[BC,T,Hk]at Y;have a0:=Qic (B':=I) (R':=[]) (keys:=[]) (rs:=[]) (rl:=Ec []) (by simp) (by simp[Ac]) (ts:=E.tmps)
         (by
          have:=h2;simp only[Sk.okB,ak]at this;have b7:E.aA=[]:=by
           cases b8:E.aA with
           |nil=>rfl
           |cons p l=>obtain⟨k,t,ks⟩:=p;rw[b8]at V;simp[J7,Ac]at V
          have h3:=this.1.2;rw[b7,T]at h3;exact h3) ([]++(b++c)) 0
        generalize b4:Fy (Ec []) ([]++(b++c)) E.tmps 0=q at S Y a0;obtain⟨c0,i⟩:=q;simp only[St.mk.injEq]at Y;obtain⟨rfl,_,_⟩:=Y;obtain⟨u,b1,b9⟩:=S.2.2 0 vn rfl;simp only[List.getElem?_cons_zero,ap]at b1;subst b1;refine⟨x,ρ',he,X.slots (by simp) (λi u hi=> ?_) (λu hu=>a0 u hu)⟩;cases i with
        |zero=>
         simp at hi;subst hi;have:=X.tv 0 v' rfl;exact b9 _ (X.wt v' (by simp)) this
        |succ i=>simp at hi
       ·simp at N
      ·simp at N
     ·simp at G
    ·simp at G
   ·simp at G
  ·simp at G
 ·simp at N
abbrev I (n:Int):AC:= .int .i64 n
abbrev U (n:Int):AC:= .int .u64 n
abbrev B (b:Bool):AC:= .bool b
theorem Ic {x:Int} (h:0<=x/\x<=18446744073709551615):IntKind.u64.wrap x=x:=by
 simp[IntKind.wrap,IntKind.signed,IntKind.bits];omega
theorem NY (x:Int):IntKind.u64.wrap x=x%18446744073709551616:=by
 simp[IntKind.wrap,IntKind.signed,IntKind.bits]
theorem S2 (x:Int):IntKind.i64.wrap x=(x+9223372036854775808)%18446744073709551616-9223372036854775808:=by
 simp[IntKind.wrap,IntKind.signed,IntKind.bits];omega
def i64 (x:Int):Prop:= -9223372036854775808<=x/\x<=9223372036854775807
theorem Zpj (x:Int):i64 (IntKind.i64.wrap x):=by
 rw[S2];unfold i64;omega
theorem BO {α:Type} {c:Bool} {a b:α} (h:c=true):(bif c then a else b)=a:=by rw[h];rfl
theorem Bn {α:Type} {c:Bool} {a b:α} (h:c=false):(bif c then a else b)=b:=by rw[h];rfl
theorem Ee {α:Type} {p:Prop} {inst:Decidable p} {a b:α} (h:p):(bif@decide p inst then a else b)=a:=by rw[@al p inst h];rfl
theorem A_ {α:Type} {p:Prop} {inst:Decidable p} {a b:α} (h: ¬p):(bif@decide p inst then a else b)=b:=by rw[@am p inst h];rfl
theorem Zt3 {α:Type} {p:Prop} {inst:Decidable p} {a b:α}:(bif@decide p inst then a else b)=if p then a else b:=by
 by_cases h:p
 ·rw[Ee h,aa h]
 ·rw[A_ h,ab h]
theorem Zz0 {α:Type} {c:Bool} {a b:α}:(bif c then a else b)=if c=true then a else b:=by cases c<;>rfl
theorem Ziz {a b:Bool}:((a&&b)=true)=(a=true/\b=true):=by cases a<;>cases b<;>simp
theorem Zta {a b:Bool}:((a||b)=true)=(a=true\/b=true):=by cases a<;>cases b<;>simp
theorem Zfc {a:Bool}:((!a)=true)= ¬(a=true):=by cases a<;>simp
theorem Zzn {p:Prop} {inst:Decidable p}:(@decide p inst=true)=p:=by simp
theorem Zv8 {a b:Int}:((a==b)=true)=(a=b):=by simp
theorem Zky {a b:Int}:((a !=b)=true)=(a≠b):=by simp
theorem Zu2 {a b:Nat}:(Nat.beq a b=true)=(a=b):=by simp
theorem Zo5 {a b:Nat}:(Nat.ble a b=true)=(a<=b):=by simp
attribute [go_sem ↓] Zt3 Zz0 Ziz Zta Zfc Zzn Zv8 Zky Zu2 Zo5
theorem Ik {α:Type} (d x:α) (l:List α):nth d (x::l) 0=x:=by simp[nth]
theorem H5 (k:IntKind) (n:Int):Af (.int k n)=n:=by simp[Af]
theorem Qol (b:Bool):C_ (.bool b)=b:=by simp[C_]
theorem Qoy (ks:List Kd) (l:List (List AC)):BZ (.view ks l)=l:=by simp[BZ]
theorem Zi0 {p q:Prop} {i1:Decidable p} {D:Decidable q}:((@decide p i1== @decide q D)=true)=(p↔q):=by simp
theorem Z3r {a b:Nat}:((a==b)=true)=(a=b):=by simp
attribute [go_sem ↓] Zi0 Z3r
attribute [go_sem] if_true if_false
theorem Mx {α:Type} (d x:α) (l:List α):nth d (x::l) 1=nth d l 0:=by simp[nth]
theorem L7 {α:Type} (d x:α) (l:List α):nth d (x::l) 2=nth d l 1:=by simp[nth]
theorem Rk {α:Type} (d x:α) (l:List α):nth d (x::l) 3=nth d l 2:=by simp[nth]
theorem PT {α:Type} (d x:α) (l:List α):nth d (x::l) 4=nth d l 3:=by simp[nth]
theorem Ue {α:Type} (d x:α) (l:List α):nth d (x::l) 5=nth d l 4:=by simp[nth]
theorem Qe8 {α:Type} (d x:α) (l:List α):nth d (x::l) 6=nth d l 5:=by simp[nth]
theorem Qds {α:Type} (d x:α) (l:List α):nth d (x::l) 7=nth d l 6:=by simp[nth]
theorem Zxo {α:Type} (d x:α) (l:List α):nth d (x::l) 8=nth d l 7:=by simp[nth]
theorem Zk4 {α:Type} (d x:α) (l:List α):nth d (x::l) 9=nth d l 8:=by simp[nth]
theorem Zxv {α:Type} (d x:α) (l:List α):nth d (x::l) 10=nth d l 9:=by simp[nth]
theorem Zxu {α:Type} (d x:α) (l:List α):nth d (x::l) 11=nth d l 10:=by simp[nth]
theorem Z0w {α:Type} (d x:α) (l:List α):nth d (x::l) 12=nth d l 11:=by simp[nth]
theorem Zqt {α:Type} (d x:α) (l:List α):nth d (x::l) 13=nth d l 12:=by simp[nth]
theorem Zu6 {α:Type} (d x:α) (l:List α):nth d (x::l) 14=nth d l 13:=by simp[nth]
theorem Zi5 {α:Type} (d x:α) (l:List α):nth d (x::l) 15=nth d l 14:=by simp[nth]
theorem Zgk {α:Type} (d x:α) (l:List α):nth d (x::l) 16=nth d l 15:=by simp[nth]
theorem Z02 {α:Type} (d x:α) (l:List α):nth d (x::l) 17=nth d l 16:=by simp[nth]
theorem Zui {α:Type} (d x:α) (l:List α):nth d (x::l) 18=nth d l 17:=by simp[nth]
theorem Z6j {α:Type} (d x:α) (l:List α):nth d (x::l) 19=nth d l 18:=by simp[nth]
theorem Z9k {α:Type} (d x:α) (l:List α):nth d (x::l) 20=nth d l 19:=by simp[nth]
theorem Zep {α:Type} (d x:α) (l:List α):nth d (x::l) 21=nth d l 20:=by simp[nth]
theorem Zfp {α:Type} (d x:α) (l:List α):nth d (x::l) 22=nth d l 21:=by simp[nth]
theorem Zvq {α:Type} (d x:α) (l:List α):nth d (x::l) 23=nth d l 22:=by simp[nth]
theorem Zdz {α:Type} (d x:α) (l:List α):nth d (x::l) 24=nth d l 23:=by simp[nth]
theorem Zge {α:Type} (d x:α) (l:List α):nth d (x::l) 25=nth d l 24:=by simp[nth]
theorem Z0k {α:Type} (d x:α) (l:List α):nth d (x::l) 26=nth d l 25:=by simp[nth]
theorem Z8z {α:Type} (d x:α) (l:List α):nth d (x::l) 27=nth d l 26:=by simp[nth]
theorem Zv6 {α:Type} (d x:α) (l:List α):nth d (x::l) 28=nth d l 27:=by simp[nth]
theorem Zfw {α:Type} (d x:α) (l:List α):nth d (x::l) 29=nth d l 28:=by simp[nth]
theorem Zvg {α:Type} (d x:α) (l:List α):nth d (x::l) 30=nth d l 29:=by simp[nth]
theorem Zjo {α:Type} (d x:α) (l:List α):nth d (x::l) 31=nth d l 30:=by simp[nth]
theorem Zwy {α:Type} (d x:α) (l:List α):nth d (x::l) 32=nth d l 31:=by simp[nth]
theorem Zol {α:Type} (d x:α) (l:List α):nth d (x::l) 33=nth d l 32:=by simp[nth]
theorem Z7h {α:Type} (d x:α) (l:List α):nth d (x::l) 34=nth d l 33:=by simp[nth]
theorem Zth {α:Type} (d x:α) (l:List α):nth d (x::l) 35=nth d l 34:=by simp[nth]
theorem Z8s {α:Type} (d x:α) (l:List α):nth d (x::l) 36=nth d l 35:=by simp[nth]
theorem Zrn {α:Type} (d x:α) (l:List α):nth d (x::l) 37=nth d l 36:=by simp[nth]
theorem Zwd {α:Type} (d x:α) (l:List α):nth d (x::l) 38=nth d l 37:=by simp[nth]
theorem Zvd {α:Type} (d x:α) (l:List α):nth d (x::l) 39=nth d l 38:=by simp[nth]
attribute [go_sem] Ik Mx L7 Rk PT Ue Qe8 Qds Zxo Zk4 Zxv Zxu Z0w Zqt Zu6 Zi5 Zgk Z02 Zui Z6j Z9k Zep Zfp Zvq Zdz Zge Z0k Z8z Zv6 Zfw Zvg Zjo Zwy Zol Z7h Zth Z8s Zrn Zwd Zvd H5 Qol Qoy ag
theorem Qw5 {S:Type} {step:List AC->Option (Nat×List AC)} (enc:S->List AC) (Inv:S->Prop) (m:S->Nat) (Q:Nat×List AC->Prop)
  (h:∀s,Inv s->(∃E,step (enc s)=some (0,enc E)/\Inv E/\m E<m s)\/∃o,step (enc s)=some o/\o.1≠0/\Q o):
  ∀s,Inv s->∃o,Al step (enc s)=some o/\o.1≠0/\Q o:=by
 have:∀n s,m s<=n->Inv s->∃o,Al step (enc s)=some o/\o.1≠0/\Q o:=by
  intro n;induction n with
  |zero=>
   intro s L I;rcases h s I with⟨E,G,D,J⟩|⟨o,G,D,J⟩
   ·omega
   ·refine⟨o,?_,D,J⟩;rw[QB,G];simp[D]
  |succ n M=>
   intro s L I;rcases h s I with⟨E,G,D,J⟩|⟨o,G,D,J⟩
   ·obtain⟨o,N,O⟩:=M E (by omega) D;refine⟨o,?_,O⟩;rw[QB,G];simpa using N
   ·refine⟨o,?_,D,J⟩;rw[QB,G];simp[D]
 intro s I;exact this _ s (co _) I
theorem Bv {step:List AC->Option (Nat×List AC)} {v w:List AC} (h:step v=some (0,w)):Al step v=Al step w:=by
 rw[QB,h];rfl
theorem A7 {step:List AC->Option (Nat×List AC)} {v:List AC} {o:Nat×List AC} (h:step v=some o) (D:o.1≠0):Al step v=some o:=by
 rw[QB,h];simp[D]
theorem Zue {sig D:Sk} {m:List AC->Option (List AC)} {args:List TV} {vars:List AC} (E:FU sig ⟨args,[],[]⟩=some vars) (G:m vars=some [B true]) (I:BC D [B true]=⟨[.v false [.bool true]],[],[]⟩):
  (Ad sig D m (TV×Mem) args ⟨[],[]⟩ λv m=>some (v,m))=some (.v false [.bool true],⟨[],[]⟩):=by
 simp only[Ad,Ak,ai];rw[E];dsimp only;rw[G];simp only[ag];rw[I]
theorem Ar.tv_of {a:Ar} {g:Bool} {ks:List Kd} (D:a.agg=g) (E:a.ks=ks):a.tv= .v g (AT ks a.raw):=by unfold Ar.tv;rw[D,E]
theorem IH {α:Type} (f:α->List AC) (d:List AC):∀(l:List α) (i:Nat) (h:i<l.length),nth d (l.map f) i=f l[i]
 |x::l,0,_=>rfl
 |x::l,i+1,h=>by simp only[bj,nth,List.getElem_cons_succ];exact IH f d l i (by simpa using h)
theorem Ht {α:Type} (d:α):∀(l:List α) (i:Nat) (h:i<l.length),nth d l i=l[i]
 |x::l,0,_=>rfl
 |x::l,i+1,h=>by simp only[nth,List.getElem_cons_succ];exact Ht d l i (by simpa using h)
def Ao (n:Int):List AC:=[I n]
theorem O1 {α:Type} (l:List α) (i:Nat) (h:i<l.length):l.drop i=l[i]::l.drop (i+1):=by simp
structure Pt where
 (x y z:Int)
structure Itm where
 (kind block:Int)
 (fr to:Pt)
 (aF:Int)
 (ce:Pt)
 (dir:Int)
 full:Bool
 feed:Int
 perRev:Bool
 (side radius blend n speed:Int)
 on:Bool
structure Sgm where
 to:Pt
 (len item feed lead:Int)
structure Mrk where
 (at_ kind item:Int)
structure Pth where
 start:Pt
 aE:List Sgm
 aC:List Mrk
structure Axs where
 (step speed accel jerk low high back origin spacing:Int)
 pitch:List Int
structure Pce where
 (at_ units s move:Int)
 (was dirs:Pt)
structure Trk where
 aD:List Pce
 (length start:Int)
 dirs:Pt
structure Spk where
 (u w r h:Int)
instance:DecidableEq Pt:=λa b=>by
 obtain⟨a1,a2,a3⟩:=a;obtain⟨b1,b2,b3⟩:=b;exact decidable_of_iff (a1=b1/\a2=b2/\a3=b3) (by simp)
instance:DecidableEq Sgm:=λa b=>by
 obtain⟨a1,a2,a3,a4,a5⟩:=a;obtain⟨b1,b2,b3,b4,b5⟩:=b;exact decidable_of_iff (a1=b1/\a2=b2/\a3=b3/\a4=b4/\a5=b5) (by simp)
instance:DecidableEq Mrk:=λa b=>by
 obtain⟨a1,a2,a3⟩:=a;obtain⟨b1,b2,b3⟩:=b;exact decidable_of_iff (a1=b1/\a2=b2/\a3=b3) (by simp)
instance:DecidableEq Pce:=λa b=>by
 obtain⟨a1,a2,a3,a4,a5,a6⟩:=a;obtain⟨b1,b2,b3,b4,b5,b6⟩:=b;exact decidable_of_iff (a1=b1/\a2=b2/\a3=b3/\a4=b4/\a5=b5/\a6=b6) (by simp)
abbrev kI:Kd:= .int .i64
abbrev kB:Kd:= .bool
abbrev Aa:List Kd:=[kI]
abbrev kPt:List Kd:=[kI,kI,kI]
abbrev Ai:List Kd:=[kI,kI,kI,kI,kI,kI,kI,kI,kI,kI,kI,kI,kI,kB,kI,kB,kI,kI,kI,kI,kI,kB]
abbrev Ah:List Kd:=[kI,kI,kI,kI,kI,kI,kI]
abbrev AJ:List Kd:=[kI,kI,kI]
abbrev Aq:List Kd:=[kI,kI,kI,kI,kI,kI,kI,kI,kI,kI]
abbrev ED:List Kd:=[kI,kI,kI,kI]
abbrev ptR (p:Pt):List AC:=[I p.x,I p.y,I p.z]
abbrev Ag (t:Itm):List AC:=[I t.kind,I t.block,I t.fr.x,I t.fr.y,I t.fr.z,I t.to.x,I t.to.y,I t.to.z,I t.aF,I t.ce.x,I t.ce.y,I t.ce.z,I t.dir,B t.full,I t.feed,B t.perRev,I t.side,I t.radius,I t.blend,I t.n,I t.speed,B t.on]
abbrev Av (g:Sgm):List AC:=[I g.to.x,I g.to.y,I g.to.z,I g.len,I g.item,I g.feed,I g.lead]
abbrev At (m:Mrk):List AC:=[I m.at_,I m.kind,I m.item]
abbrev AI (c:Pce):List AC:=[I c.at_,I c.units,I c.s,I c.move,I c.was.x,I c.was.y,I c.was.z,I c.dirs.x,I c.dirs.y,I c.dirs.z]
abbrev Dp (s:Spk):List AC:=[I s.u,I s.w,I s.r,I s.h]
abbrev Br (p:Pth):List AC:=[I p.start.x,I p.start.y,I p.start.z, .view Ah (p.aE.map Av), .view AJ (p.aC.map At)]
abbrev Bz (x:Axs):List AC:=[I x.step,I x.speed,I x.accel,I x.jerk,I x.low,I x.high,I x.back,I x.origin,I x.spacing, .view Aa (x.pitch.map Ao)]
abbrev A8 (t:Trk):List AC:=[.view Aq (t.aD.map AI),I t.length,I t.start,I t.dirs.x,I t.dirs.y,I t.dirs.z]
structure Ax3 where
 (a b c:Axs)
abbrev AM (x:Ax3):List AC:=[I x.a.step,I x.a.speed,I x.a.accel,I x.a.jerk,I x.a.low,I x.a.high,I x.a.back,I x.a.origin,I x.a.spacing, .view Aa (x.a.pitch.map Ao),I x.b.step,I x.b.speed,I x.b.accel,I x.b.jerk,I x.b.low,I x.b.high,I x.b.back,I x.b.origin,I x.b.spacing, .view Aa (x.b.pitch.map Ao),I x.c.step,I x.c.speed,I x.c.accel,I x.c.jerk,I x.c.low,I x.c.high,I x.c.back,I x.c.origin,I x.c.spacing, .view Aa (x.c.pitch.map Ao)]
abbrev pxt (p:Pth) (x:Ax3) (t:Trk) (l:List AC):List AC:=
 I p.start.x::I p.start.y::I p.start.z:: .view Ah (p.aE.map Av):: .view kPt (p.aC.map At)::
 I x.a.step::I x.a.speed::I x.a.accel::I x.a.jerk::I x.a.low::I x.a.high::I x.a.back::I x.a.origin::I x.a.spacing:: .view Aa (x.a.pitch.map Ao)::
 I x.b.step::I x.b.speed::I x.b.accel::I x.b.jerk::I x.b.low::I x.b.high::I x.b.back::I x.b.origin::I x.b.spacing:: .view Aa (x.b.pitch.map Ao)::
 I x.c.step::I x.c.speed::I x.c.accel::I x.c.jerk::I x.c.low::I x.c.high::I x.c.back::I x.c.origin::I x.c.spacing:: .view Aa (x.c.pitch.map Ao)::
 .view Aq (t.aD.map AI)::I t.length::I t.start::I t.dirs.x::I t.dirs.y::I t.dirs.z::l
abbrev Fu (p:Pth) (t:Trk) (l:List AC):List AC:=
 I p.start.x::I p.start.y::I p.start.z:: .view Ah (p.aE.map Av):: .view kPt (p.aC.map At)::
 .view Aq (t.aD.map AI)::I t.length::I t.start::I t.dirs.x::I t.dirs.y::I t.dirs.z::l
theorem Zps {a:AC} (h:okC kI a):i64 (Af a):=by
 unfold okC at h;unfold i64;exact h
abbrev gA (l:List AC) (k:Nat):Int:=Af (nth .dead l k)
abbrev jA (l:List AC) (k:Nat):AC:= .int .i64 (Af (nth .dead l k))
abbrev wA (l:List AC) (k:Nat):List (List AC):=BZ (nth .dead l k)
abbrev bA (l:List AC) (k:Nat):Bool:=C_ (nth .dead l k)
abbrev Fn:=List AC->Option (List AC)
abbrev Lp:=List AC->Option (Nat×List AC)
abbrev Rw:=List (List AC)
abbrev ci:CS:= .int .i64
abbrev tf:List CS->TS:= .v false
abbrev td:TS:= .dead
attribute [go_sem] gA jA wA bA aq ay
theorem Z0l (r:List AC):AT Ai r=[jA r 0,jA r 1,jA r 2,jA r 3,jA r 4,jA r 5,jA r 6,jA r 7,jA r 8,jA r 9,jA r 10,jA r 11,jA r 12,B (bA r 13),jA r 14,B (bA r 15),jA r 16,jA r 17,jA r 18,jA r 19,jA r 20,B (bA r 21)]:=rfl
theorem Zzx (r:List AC):AT Ah r=[jA r 0,jA r 1,jA r 2,jA r 3,jA r 4,jA r 5,jA r 6]:=rfl
theorem Zno (r:List AC):AT Aq r=[jA r 0,jA r 1,jA r 2,jA r 3,jA r 4,jA r 5,jA r 6,jA r 7,jA r 8,jA r 9]:=rfl
attribute [go_sem] Z0l Zzx Zno
end Go.Bm
