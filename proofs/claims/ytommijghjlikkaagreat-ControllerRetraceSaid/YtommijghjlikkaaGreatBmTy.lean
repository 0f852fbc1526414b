/- the abstract machine -/
import Derived.Test.YtommijghjlikkaaGreatBmDraw
import Derived.Orders
import Derived.Test.YtommijghjlikkaaGreatBmFz
import Derived.ProofKit
import Derived.Below
import Derived.OpenShut
import Derived.ChangeSame
import Derived.Deep.Slices
set_option linter.unusedVariables false
set_option linter.unusedSimpArgs false
namespace Go.Bm
open Go.RowKit
section
variable {P:Program} {C:Cfg} {w:World} {R:Type} {Z:Base}
theorem Tx {G E:Operand->TV}:∀(l:List Operand),(∀x∈l,G x=E x)->C9 G l=C9 E l
 |[],_=>rfl
 |x::l,h=>by simp only[C9];rw[h x (by simp),Tx l λy I=>h y (by simp[I])]
theorem Qmf {G E:Operand->TV}:∀(l:List (Nat×Operand)),(∀p∈l,G p.2=E p.2)->Gu G l=Gu E l
 |[],_=>rfl
 |x::l,h=>by simp only[Gu];rw[h x (by simp),Qmf l λy I=>h y (by simp[I])]
theorem Zae {G E:Operand->TV} (o:Option Operand) (h:∀x,o=some x->G x=E x):K8 G o=K8 E o:=by
 cases o with
 |none=>rfl
 |some x=>simp only[K8];rw[h x rfl]
theorem SR {I E:Operand->TV} {dst:Option Tmp} {o:Op} (h:∀x∈o.operands,I x=E x) (K:Prim->Option R):opK P C I dst o K=opK P C E dst o K:=by
 cases o<;>simp only[Op.operands]at h<;>simp only[opK]
 case move x=>rw[h x (by simp)]
 case assign x=>rw[h x (by simp)]
 case pick c a b=>rw[h c (by simp),h a (by simp),h b (by simp)]
 case box t x=>rw[h x (by simp)]
 case build t parts=>rw[Qmf parts.toList λp J=>h p.2 (by simp;exact⟨p.1,by simpa using J⟩)]
 case buildSlice t n parts=>rw[Qmf parts.toList λp J=>h p.2 (by simp;exact⟨p.1,by simpa using J⟩)]
 case makeSlice t a b=>rw[h a (by simp),h b (by simp)]
 case makeFunc T a b=>
  rw[Tx a.toList λx G=>h x (by simp at G⊢;exact .inl G),Tx b.toList λx G=>h x (by simp at G⊢;exact .inr G)]
 case load t a=>rw[h a (by simp)]
 case store t a x=>rw[h a (by simp),h x (by simp)]
 case nilCheck x=>rw[h x (by simp)]
 case binOp op t x y _=>rw[h x (by simp),h y (by simp)]
 case unOp op t x=>rw[h x (by simp)]
 case convert s d x=>rw[h x (by simp)]
 case fieldAddr t x i=>rw[h x (by simp)]
 case field t x i=>rw[h x (by simp)]
 case indexAddr t x ix=>rw[h x (by simp),h ix (by simp)]
 case index t x ix=>rw[h x (by simp),h ix (by simp)]
 case slice t x lo hi mx=>
  rw[h x (by simp),Zae lo λy M=>h y (by simp[M]),Zae hi λy M=>h y (by simp[M])]
 case extract t i=>rw[h t (by simp)]
 case call c=>
  have O:∀t,c.callee= .value (.tmp t)->I (.tmp t)=E (.tmp t):=λt N=>h _ (by simp only[Call.operands,N];exact Array.mem_append.2 (.inl (by simp)));have S:C9 I c.args.toList=C9 E c.args.toList:=Tx _ λx G=>h x (by simp only[Call.operands];exact Array.mem_append.2 (.inr (by simpa using G)));rw[S];split
  ·rfl
  ·rfl
  ·rename_i t N;rw[O t N]
  ·rfl
theorem Qw9 {tm:List TV} {d:Nat} {v:TV} {x:Operand} (h:x≠ .tmp d):A8 (setL tm d v) x=A8 tm x:=by
 cases x with
 |tmp t=>
  have E:d≠t:=λe=>h (by rw[e]);simp only[A8,B7,List.getD,I7,jd,aa E]
 |_=>rfl
def Df (tm:List TV) (d:Option Tmp) (v:TV):List TV:=
 match d with
 |none=>tm
 |some t=>setL tm t v
theorem Lo (tm:List TV) (bx:List (Nat×Box)) (aC:List (Nat×Row)) (d:Option Tmp) (v:TV):SL ⟨tm,bx,aC⟩ d v=⟨Df tm d v,bx,aC⟩:=by cases d<;>rfl
theorem O2 {tm:List TV} {d e:Option Tmp} (v u:TV) (h:∀t,d=some t->e≠some t):Df (Df tm d v) e u=Df (Df tm e u) d v:=by
 cases d with
 |none=>rfl
 |some t=>
  cases e with
  |none=>rfl
  |some q=>
   have E:t≠q:=λx=>h t rfl (by rw[x]);simp only[Df,I7];exact List.set_comm _ _ E
def DE (P:Program) (C:Cfg) (ops:List Oper) (o:Oper) (tm:List TV) (bx:List (Nat×Box)) (aC:List (Nat×Row)):Option (Option Prim×TV×List (Nat×Box)):=
 match Cf ops o tm with
 |some true=>(opK P C (A8 tm) o.dst o.op some).bind λp=>(AA (C:=C) o.dst (p.dr false) bx aC).bind λq=>some (some (p.dr false),q.1,q.2)
 |some false=>some (none, .tup [],bx)
 |none=>none
theorem Zkj {d:Option Tmp} {p:Prim} {bx:List (Nat×Box)} {aC:List (Nat×Row)} (h:Prim.isApp (some p)=true):AA (C:=C) d p bx aC=none:=by
 cases p<;>simp[Prim.isApp]at h
 rfl
theorem Z9e {d:Option Tmp} {p:Prim} {bx:List (Nat×Box)} {aC:List (Nat×Row)} (h:Prim.isMk (some p)=true):AA (C:=C) d p bx aC=none:=by
 cases p<;>simp[Prim.isMk]at h<;>rfl
theorem Ze0 {ops:List Oper} {o:Oper} {tm:List TV} {bx E:List (Nat×Box)} {aC:List (Nat×Row)} {p:Option Prim} {v:TV} (h:DE P C ops o tm bx aC=some (p,v,E)):Prim.isMk p=false:=by
 unfold DE at h;split at h
 ·cases G:opK P C (A8 tm) o.dst o.op some with
  |none=>rw[G]at h;simp at h
  |some q=>
   rw[G]at h;simp only[ag]at h;cases I:Prim.isMk (some (q.dr false))with
   |true=>rw[Z9e I]at h;simp at h
   |false=>
    cases J:AA (C:=C) o.dst (q.dr false) bx aC with
    |none=>rw[J]at h;simp at h
    |some z=>rw[J]at h;simp at h;rw[<-h.1];exact I
 ·simp at h;rw[<-h.1];rfl
 ·simp at h
theorem Zhf {ops:List Oper} {o:Oper} {tm:List TV} {bx E:List (Nat×Box)} {aC:List (Nat×Row)} {p:Option Prim} {v:TV} (h:DE P C ops o tm bx aC=some (p,v,E)):Prim.isApp p=false:=by
 unfold DE at h;split at h
 ·cases G:opK P C (A8 tm) o.dst o.op some with
  |none=>rw[G]at h;simp at h
  |some q=>
   rw[G]at h;simp only[ag]at h;cases I:Prim.isApp (some (q.dr false))with
   |true=>rw[Zkj I]at h;simp at h
   |false=>
    cases J:AA (C:=C) o.dst (q.dr false) bx aC with
    |none=>rw[J]at h;simp at h
    |some z=>rw[J]at h;simp at h;rw[<-h.1];exact I
 ·simp at h;rw[<-h.1];rfl
 ·simp at h
theorem Pd {ops:List Oper} {o:Oper} {tm:List TV} {bx E:List (Nat×Box)} {aC:List (Nat×Row)} {p:Option Prim} {v:TV} (h:DE P C ops o tm bx aC=some (p,v,E)):
  CF (P:=P) (C:=C) ops o ⟨tm,bx,aC⟩=some (p,⟨Df tm o.dst v,E,aC⟩):=by
 have G:=Zhf h;have I:=Ze0 h;unfold DE at h;unfold CF;dsimp only;cases J:Cf ops o tm with
 |none=>rw[J]at h;simp at h
 |some b=>
  cases b
  ·rw[J]at h;simp at h;obtain⟨rfl,rfl,rfl⟩:=h;simp only[Lo]
  ·rw[J]at h;dsimp only at h⊢;cases N:opK P C (A8 tm) o.dst o.op some with
   |none=>rw[N]at h;simp at h
   |some q=>
    rw[N]at h;simp only[ag]at h⊢;cases M:AA (C:=C) o.dst (q.dr false) bx aC with
    |none=>rw[M]at h;simp at h
    |some z=>
     rw[M]at h;simp at h;obtain⟨rfl,rfl,rfl⟩:=h;unfold Fq;rw[G,I];simp only[ao,M,jl,ag,Lo]
theorem Nv {ops:List Oper} {o:Oper} {tm:List TV} {bx:List (Nat×Box)} {aC:List (Nat×Row)} {p:Option Prim} {M:St} (h:CF (P:=P) (C:=C) ops o ⟨tm,bx,aC⟩=some (p,M)) (O:Prim.isApp p=false) (I:Prim.isMk p=false):
  ∃v G,DE P C ops o tm bx aC=some (p,v,G)/\M=⟨Df tm o.dst v,G,aC⟩:=by
 unfold CF at h;unfold DE;dsimp only at h;cases J:Cf ops o tm with
 |none=>rw[J]at h;simp at h
 |some b=>
  cases b
  ·rw[J]at h;simp at h;obtain⟨rfl,rfl⟩:=h;exact⟨_,_,rfl,by rw[Lo]⟩
  ·rw[J]at h;dsimp only at h⊢;cases N:opK P C (A8 tm) o.dst o.op some with
   |none=>rw[N]at h;simp at h
   |some q=>
    rw[N]at h;simp only[ag]at h⊢;cases E:Fq (C:=C) o.dst (q.dr false) ⟨tm,bx,aC⟩with
    |none=>rw[E]at h;simp at h
    |some z=>
     rw[E]at h;simp at h;obtain⟨rfl,rfl⟩:=h;unfold Fq at E;rw[O,I]at E;simp only[ao,cd]at E;obtain⟨y,S,rfl⟩:=E;rw[S];exact⟨_,_,rfl,by rw[Lo]⟩
theorem Qiy {ops:List Oper} {o:Oper} {tm:List TV} {bx:List (Nat×Box)} {aC:List (Nat×Row)} {p:Option Prim} {M:St} (h:CF (P:=P) (C:=C) ops o ⟨tm,bx,aC⟩=some (p,M)) (N:Prim.isApp p=true):
  Cf ops o tm=some true/\∃q id v E,opK P C (A8 tm) o.dst o.op some=some q/\p=some (q.dr false)/\KP o.dst (q.dr false)=some id/\Lg o.dst aC (q.dr false)=some (v,E)/\M=⟨Df (tm.map (TV.kill id)) o.dst v,bx.map λp=>(p.1,p.2.kill id),E⟩:=by
 unfold CF at h;dsimp only at h;cases I:Cf ops o tm with
 |none=>rw[I]at h;simp at h
 |some b=>
  cases b
  ·rw[I]at h;simp at h;obtain⟨rfl,rfl⟩:=h;simp[Prim.isApp]at N
  ·rw[I]at h;refine⟨rfl,?_⟩;dsimp only at h;cases O:opK P C (A8 tm) o.dst o.op some with
   |none=>rw[O]at h;simp at h
   |some q=>
    rw[O]at h;simp only[ag]at h;cases G:Fq (C:=C) o.dst (q.dr false) ⟨tm,bx,aC⟩with
    |none=>rw[G]at h;simp at h
    |some z=>
     rw[G]at h;simp at h;obtain⟨rfl,rfl⟩:=h;unfold Fq at G;rw[N]at G;simp only[aj]at G;split at G
     ·rename_i id J;simp only[cd]at G;obtain⟨⟨y1,y2⟩,S,rfl⟩:=G;exact⟨q,id,y1,y2,rfl,rfl,J,S,by unfold XC;rw[Lo]⟩
     ·simp at G
theorem Q2u {ops:List Oper} {o:Oper} {tm:List TV} {bx:List (Nat×Box)} {aC E:List (Nat×Row)} {q:Prim} {id:Nat} {v:TV} (G:Cf ops o tm=some true) (I:opK P C (A8 tm) o.dst o.op some=some q)
  (J:KP o.dst (q.dr false)=some id) (M:Lg o.dst aC (q.dr false)=some (v,E)) (N:Prim.isApp (some (q.dr false))=true):
  CF (P:=P) (C:=C) ops o ⟨tm,bx,aC⟩=some (some (q.dr false),⟨Df (tm.map (TV.kill id)) o.dst v,bx.map λp=>(p.1,p.2.kill id),E⟩):=by
 unfold CF;dsimp only;rw[G,I];simp only[ag];unfold Fq;rw[N];simp only[aj,J,M,jl,ag,XC,Lo]
theorem UE {ops:List Oper} {o:Oper} {tm:List TV} {bx:List (Nat×Box)} {aC:List (Nat×Row)} {p:Option Prim} {N:St} (h:CF (P:=P) (C:=C) ops o ⟨tm,bx,aC⟩=some (p,N)) (I:Prim.isMk p=true):
  Cf ops o tm=some true/\∃q v E,opK P C (A8 tm) o.dst o.op some=some q/\p=some (q.dr false)/\mkD (C:=C) o.dst (q.dr false) aC=some (v,E)/\N=⟨Df tm o.dst v,bx,E⟩:=by
 unfold CF at h;dsimp only at h;cases J:Cf ops o tm with
 |none=>rw[J]at h;simp at h
 |some b=>
  cases b
  ·rw[J]at h;simp at h;obtain⟨rfl,rfl⟩:=h;simp[Prim.isMk]at I
  ·rw[J]at h;refine⟨rfl,?_⟩;dsimp only at h;cases O:opK P C (A8 tm) o.dst o.op some with
   |none=>rw[O]at h;simp at h
   |some q=>
    rw[O]at h;simp only[ag]at h;cases G:Fq (C:=C) o.dst (q.dr false) ⟨tm,bx,aC⟩with
    |none=>rw[G]at h;simp at h
    |some z=>
     rw[G]at h;simp at h;obtain⟨rfl,rfl⟩:=h;have M:Prim.isApp (some (q.dr false))=false:=by
      generalize q.dr false=S at I⊢;cases S<;>simp[Prim.isMk]at I<;>rfl
     unfold Fq at G;rw[M,I]at G;simp only[ao,aj,cd]at G;obtain⟨⟨y1,y2⟩,T,rfl⟩:=G;exact⟨q,y1,y2,rfl,rfl,T,by rw[Lo]⟩
theorem Ui {ops:List Oper} {o:Oper} {tm:List TV} {bx:List (Nat×Box)} {aC E:List (Nat×Row)} {q:Prim} {v:TV} (J:Cf ops o tm=some true) (M:opK P C (A8 tm) o.dst o.op some=some q)
  (N:mkD (C:=C) o.dst (q.dr false) aC=some (v,E)) (G:Prim.isMk (some (q.dr false))=true):
  CF (P:=P) (C:=C) ops o ⟨tm,bx,aC⟩=some (some (q.dr false),⟨Df tm o.dst v,bx,E⟩):=by
 have I:Prim.isApp (some (q.dr false))=false:=by
  generalize q.dr false=O at G⊢;cases O<;>simp[Prim.isMk]at G<;>rfl
 unfold CF;dsimp only;rw[J,M];simp only[ag];unfold Fq;rw[I,G];simp only[aj,ao,N,jl,ag,Lo]
theorem Zlr {id:Nat} {a:AC} (h:a.live=true):a.kill id=a:=by cases a<;>simp[AC.live]at h<;>rfl
theorem Zl3 {id:Nat} {a:AC} (h:(a.kill id).live=true):a.kill id=a:=by
 cases a<;>simp only[AC.kill]at h⊢<;>try rfl
 all_goals
  rename_i j b c;cases hb:Nat.beq j id<;>rw[hb]at h
  ·rfl
  ·simp[AC.live]at h
theorem Qq2 {id:Nat}:∀{l:List AC},Al AC.live l=true->l.map (AC.kill id)=l
 |[],_=>rfl
 |a::l,h=>by
  rw[AD]at h;simp only[bt];rw[Zlr (h a (by simp)),Qq2 (AD.2 λx E=>h x (by simp[E]))]
theorem Qxz {id:Nat}:∀{l:List AC},Al AC.live (l.map (AC.kill id))=true->l.map (AC.kill id)=l
 |[],_=>rfl
 |a::l,h=>by
  rw[AD]at h;simp only[bt]at h⊢;rw[Zl3 (h _ (by simp)),Qxz (AD.2 λx E=>h x (by simp[E]))]
theorem Qok (id:Nat):∀(tm:List TV) (t:Nat),nth .dead (tm.map (TV.kill id)) t=(nth .dead tm t).kill id
 |[],_=>rfl
 |_::_,0=>rfl
 |_::tm,t+1=>Qok id tm t
theorem Qpf {id:Nat} {tm:List TV} {x:Operand} {g:Bool} {cs:List AC} (h:A8 tm x= .v g cs) (E:Al AC.live cs=true):A8 (tm.map (TV.kill id)) x= .v g cs:=by
 cases x<;>try exact h
 simp only[A8]at h⊢;rw[Qok,h];simp only[TV.kill];rw[Qq2 E]
theorem Qej {id:Nat} {tm:List TV} {x:Operand} {g:Bool} {cs:List AC} (h:A8 (tm.map (TV.kill id)) x= .v g cs) (G:Al AC.live cs=true):A8 tm x= .v g cs:=by
 cases x<;>try exact h
 simp only[A8]at h⊢;rw[Qok]at h;cases E:nth TV.dead tm (by assumption)with
 |dead=>rw[E]at h;simp[TV.kill]at h
 |tup ps=>rw[E]at h;simp[TV.kill]at h
 |v J I=>
  rw[E]at h;simp only[TV.kill,TV.v.injEq]at h;obtain⟨rfl,rfl⟩:=h;rw[Qxz G]
theorem ZO {q:Prim} (h:Prim.isPtr (some (q.dr false))=true):∃k o,q= .val (.v false [.ptr k o]):=by
 cases q<;>simp only[Prim.dr,Prim.isPtr]at h<;>try (simp at h;done)
 case callM f args=>cases hb:Al TV.plainB args<;>simp[hb]at h
 rename_i v;split at h
 ·rename_i h';simp at h';exact⟨_,_,by rw[h']⟩
 ·simp at h
theorem Q60 {q:Prim} (h:Prim.isLive (some (q.dr false))=true):∃g cs,q= .val (.v g cs)/\Al AC.live cs=true:=by
 cases q<;>simp only[Prim.dr,Prim.isLive]at h<;>try (simp at h;done)
 case callM f args=>cases hb:Al TV.plainB args<;>simp[hb]at h
 rename_i v;cases v<;>simp at h
 exact⟨_,_,rfl,h⟩
theorem Qwx {id:Nat} {tm:List TV} {dst:Option Tmp} {o:Op} {q:Prim} (E:Prim.still o (some (q.dr false))=true):
  opK P C (A8 (tm.map (TV.kill id))) dst o some=some q↔opK P C (A8 tm) dst o some=some q:=by
 cases o<;>simp[Prim.still]at E
 case move x=>
  obtain⟨g,cs,rfl,E⟩:=Q60 E;simp only[opK,ap,Prim.val.injEq];exact⟨λh=>Qej h E,λh=>Qpf h E⟩
 case nilCheck x=>
  obtain⟨k,o,rfl⟩:=ZO E;have M:Al AC.live [AC.ptr k o]=true:=rfl;have key:∀G:Operand->TV,opK P C G dst (.nilCheck x) some=some (.val (.v false [.ptr k o]))↔G x= .v false [.ptr k o]:=by
   intro G;simp only[opK];split
   ·rename_i k' J h;rw[h];simp[TV.c]
   ·rename_i h;rw[h];simp[TV.c]
   ·rename_i h;rw[h];simp[TV.c]
   ·rename_i N O S;constructor
    ·intro h;simp at h
    ·intro h;exact(N _ _ h).elim
  rw[key,key];exact⟨λh=>Qej h M,λh=>Qpf h M⟩
 case fieldAddr t x i=>
  obtain⟨k,o,rfl⟩:=ZO E;have key:∀G:Operand->TV,opK P C G dst (.fieldAddr t x i) some=some (.val (.v false [.ptr k o]))->∃k' J,G x= .v false [.ptr k' J]:=by
   intro G h;simp only[opK]at h
   repeat' split at h
   all_goals first|(simp at h;done)|(simp[TV.c]at h;done)|exact⟨_,_,by assumption⟩
  constructor
  ·intro h;obtain⟨k',J,e⟩:=key _ h;have e2:=Qej e rfl;rw[<-h];refine SR (λy I=> ?_) some;simp only[Op.operands]at I;simp at I;subst I;rw[e,e2]
  ·intro h;obtain⟨k',J,e⟩:=key _ h;have e2:=Qpf (id:=id) e rfl;rw[<-h];refine SR (λy I=> ?_) some;simp only[Op.operands]at I;simp at I;subst I;rw[e,e2]
theorem Q5z {o:Op} {q:Prim} (E:Prim.still o (some (q.dr false))=true):∃g cs,q= .val (.v g cs)/\Al AC.live cs=true:=by
 cases o<;>simp[Prim.still]at E
 case move x=>exact Q60 E
 all_goals
  obtain⟨k,o,rfl⟩:=ZO E;exact⟨_,_,rfl,rfl⟩
theorem Qy0 {id:Nat} {tm:List TV} {d:Option Tmp} {g:Bool} {cs:List AC} (h:Al AC.live cs=true):(Df tm d (.v g cs)).map (TV.kill id)=Df (tm.map (TV.kill id)) d (.v g cs):=by
 cases d with
 |none=>rfl
 |some t=>
  simp only[Df,I7,List.map_set,TV.kill];rw[Qq2 h]
theorem Q2 {ops:Array Oper} {o:Oper} {tm:List TV} {d:Option Tmp} {v:TV} (h:∀t,d=some t->t∉o.looksAt ops):Cf ops.toList o (Df tm d v)=Cf ops.toList o tm:=by
 cases d with
 |none=>rfl
 |some t=>
  have J:=h t rfl;unfold Cf;cases M:o.guard with
  |none=>rfl
  |some N=>
   obtain⟨j,want⟩:=N;dsimp only;cases O:ops.toList[j]? with
   |none=>rfl
   |some I=>
    dsimp only;cases S:I.dst with
    |none=>rfl
    |some q=>
     dsimp only;have E:ops[j]? =some I:=by simpa using O
     have G:t≠q:=by
      rintro rfl;exact J (by simp[Oper.looksAt,M,E,S])
     have:nth .dead (Df tm (some t) v) q=nth .dead tm q:=by
      simp only[Df,B7,List.getD,I7,jd,aa G]
     rw[this]
theorem Un {ops:Array Oper} {o:Oper} {tm:List TV} {bx:List (Nat×Box)} {aC:List (Nat×Row)} {d:Option Tmp} {v:TV} (h:∀t,d=some t->t∉o.looksAt ops):
  DE P C ops.toList o (Df tm d v) bx aC=DE P C ops.toList o tm bx aC:=by
 unfold DE;rw[Q2 h];cases d with
 |none=>rfl
 |some t=>
  have E:=h t rfl;rw [show opK P C (A8 (Df tm (some t) v)) o.dst o.op some = opK P C (A8 tm) o.dst o.op some from SR (λx G => Qw9 (by
   rintro rfl;exact E (List.mem_append_left _ (List.mem_filterMap.2 ⟨.tmp t,by simpa using G,rfl⟩)))) some]
theorem J9 {a b:Nat} (h:a≠b):Nat.beq a b=false:=KC h
theorem Wk {α:Type}:∀(l:List (Nat×α)) (k j:Nat) (x y:α),k≠j->upd (upd l k x) j y=upd (upd l j y) k x
 |[],_,_,_,_,_=>rfl
 |(i,b)::l,k,j,x,y,h=>by
  by_cases E:i=k
  ·subst E;simp only[upd,ju,aj,J9 h,ao]
  ·by_cases G:i=j
   ·subst G;simp only[upd,ju,aj,J9 E,ao]
   ·simp only[upd,J9 E,J9 G,ao];rw[Wk l k j x y h]
theorem Hp {a b:Nat} (h:a<b):Nat.blt a b=true:=by simpa using h
theorem G4 {a b:Nat} (h: ¬a<b):Nat.blt a b=false:=by
 cases hb:Nat.blt a b
 ·rfl
 ·simp at hb;omega
theorem Qaz {α:Type}:∀(l:List (Nat×α)) (k j:Nat) (x y:α),k≠j->ins (ins l k x) j y=ins (ins l j y) k x
 |[],k,j,x,y,h=>by
  by_cases E:j<k
  ·simp only[ins,Hp E,aj,G4 (show¬k<j by omega),ao]
  ·simp only[ins,G4 E,ao,Hp (show k<j by omega),aj]
 |(i,b)::l,k,j,x,y,h=>by
  by_cases E:k<i<;>by_cases G:j<i
  ·by_cases I:j<k
   ·simp only[ins,Hp E,Hp G,Hp I,G4 (show¬k<j by omega),aj,ao]
   ·simp only[ins,Hp E,Hp G,G4 I,Hp (show k<j by omega),aj,ao]
  ·simp only[ins,Hp E,G4 G,G4 (show¬j<k by omega),aj,ao]
  ·simp only[ins,G4 E,Hp G,G4 (show¬k<j by omega),aj,ao]
  ·simp only[ins,G4 E,G4 G,ao];rw[Qaz l k j x y h]
theorem Tf {α:Type}:∀(l:List (Nat×α)) (k j:Nat) (x y:α),k≠j->upd (ins l k x) j y=ins (upd l j y) k x
 |[],k,j,x,y,h=>by simp only[ins,upd,J9 h,ao]
 |(i,b)::l,k,j,x,y,h=>by
  by_cases E:k<i<;>by_cases G:i=j
  ·subst G;simp only[ins,upd,Hp E,J9 h,ju,aj,ao]
  ·simp only[ins,upd,Hp E,J9 h,J9 G,aj,ao]
  ·subst G;simp only[ins,upd,G4 E,ju,aj,ao]
  ·simp only[ins,upd,G4 E,J9 G,ao];rw[Tf l k j x y h]
theorem Mm {d:Option Tmp} {f:FuncId} {args:List TV} {bx E:List (Nat×Box)} {aC:List (Nat×Row)} {v:TV} (h:AA (C:=C) d (.call f args) bx aC=some (v,E)):
  E=bx/\∀(N:Option Tmp) (G:List (Nat×Box)),AA (C:=C) N (.call f args) G aC=some (v,G):=by
 simp only[AA]at h⊢;cases I:C.spec f with
 |none=>rw[I]at h;simp at h
 |some g=>
  rw[I]at h;dsimp only at h⊢;cases J:Hb aC args with
  |none=>rw[J]at h;simp at h
  |some l=>
   rw[J]at h;dsimp only at h⊢;cases M:g (TV×Mem) l ⟨[],[]⟩ (λv m=>some (v,m))with
   |none=>rw[M]at h;simp at h
   |some q=>
    rw[M]at h;obtain⟨u,⟨O,S⟩⟩:=q;cases O with
    |cons _ _=>simp at h
    |nil=>
     cases S with
     |cons _ _=>simp at h
     |nil=>
      dsimp only at h⊢;split at h
      ·rename_i T;simp at h;obtain⟨rfl,rfl⟩:=h;refine⟨rfl,λ_ _=> ?_⟩;rw[ab T]
      ·simp at h
theorem Pe {d:Option Tmp} {g:Bool} {sz id idx sub:Nat} {bx E:List (Nat×Box)} {aC:List (Nat×Row)} {v:TV} (h:AA (C:=C) d (.rload g sz id idx sub) bx aC=some (v,E)):
  E=bx/\∀(G:Option Tmp) (b':List (Nat×Box)),AA (C:=C) G (.rload g sz id idx sub) b' aC=some (v,b'):=by
 simp only[AA]at h⊢
 repeat' split at h
 all_goals first|(simp at h;done)|skip
 simp at h;obtain⟨rfl,rfl⟩:=h;exact⟨rfl,λ_ _=>rfl⟩
theorem Q21 {n k:Nat}:∀{l:List Nat},k∈QZ n l↔k=n\/k∈l
 |[]=>by simp[QZ]
 |m::l=>by
  simp only[QZ];cases hb:Nat.beq m n
  ·simp only[ao,av,Q21 (l:=l)];constructor
   ·rintro(h|h|h)<;>simp[h]
   ·rintro(h|h|h)<;>simp[h]
  ·have:=ac hb;subst this;simp only[aj,av];constructor
   ·rintro(h|h)<;>simp[h]
   ·rintro(h|h|h)<;>simp[h]
theorem Q2h {k:Nat}:∀{ns l:List Nat},k∈A_ ns l↔k∈ns\/k∈l
 |[],l=>by simp[A_]
 |n::ns,l=>by
  simp only[A_,Q2h (ns:=ns),Q21,av];constructor
  ·rintro(h|h|h)<;>simp[h]
  ·rintro((h|h)|h)<;>simp[h]
theorem U0 {α β:Type} {g:α->List β} {x:β}:∀{l:List α},x∈cat g l↔∃a∈l,x∈g a
 |[]=>by simp[cat]
 |a::l=>by simp[cat,U0 (l:=l)]
theorem Ub {k:Nat}:∀{l:List AC},k∈AC.keys.keysL l->∃o,AC.ptr k o∈l
 |[],h=>by simp[AC.keys.keysL]at h
 |a::l,h=>by
  cases a
  case ptr j o=>
   simp only[AC.keys.keysL,av]at h;rcases h with rfl|h
   ·exact⟨o,by simp⟩
   ·obtain⟨E,h'⟩:=Ub h;exact⟨E,by simp[h']⟩
  all_goals
   simp only[AC.keys.keysL]at h;obtain⟨E,h'⟩:=Ub h;exact⟨E,by simp[h']⟩
theorem Z0d {bx:List (Nat×Box)} {aC:List (Nat×Row)} {args:List TV} (h:∀v∈args,TV.wf bx aC v) {k:Nat} (N:k∈A_ (cat AC.keys (cat TV.cellsOf args)) []):∃b,Ac bx k=some b:=by
 simp only[Q2h,List.not_mem_nil,or_false]at N;obtain⟨a,S,E⟩:=U0.1 N;obtain⟨v,T,G⟩:=U0.1 S;have O:=h v T;have I:AC.wf bx aC a:=by
  cases v with
  |dead=>simp[TV.cellsOf]at G
  |v g cs=>exact O a G
  |tup ps=>
   simp only[TV.cellsOf]at G;obtain⟨p,U,J⟩:=U0.1 G;exact O p U a J
 cases a
 case ptr j o=>simp[AC.keys]at E;subst E;exact I
 case bsl j o=>simp[AC.keys]at E;subst E;exact I
 case clo f fs cs=>
  simp only[AC.keys,bq]at E;rcases E with E|E
  ·obtain⟨o,M⟩:=Ub E;exact I.1 _ M
  ·obtain⟨o,M⟩:=Ub E;exact I.2 _ M
 all_goals simp[AC.keys]at E
theorem Za1 {bx E:List (Nat×Box)} {G ri:Nat->Nat}:∀(keys:List Nat) (b:Nat),(∀k∈keys,Ac E k=Ac bx k)->Ef E G ri b keys=Ef bx G ri b keys
 |[],_,_=>rfl
 |k::keys,b,h=>by
  simp only[Ef];rw[h k (by simp),Za1 keys (b+1) λj I=>h j (by simp[I])]
theorem Q6r {α:Type} {p q:α->Bool}:∀{l:List α},(∀x∈l,p x=q x)->Al p l=Al q l
 |[],_=>rfl
 |a::l,h=>by simp only[Al];rw[h a (by simp),Q6r (l:=l) λx E=>h x (by simp[E])]
theorem Mw {keys:List Nat}:∀(m:List (Nat×Box)) (l:List (Nat×Box)) (n:Nat),(∀p∈m,n≠nth 0 keys (p.1-base))->Ac (C2 keys m l) n=Ac l n
 |[],_,_,_=>rfl
 |(j,c)::m,l,n,h=>by
  simp only[C2];rw[Mw m _ n λp E=>h p (by simp[E])];exact DG _ _ _ _ (h (j,c) (by simp))
theorem Qgn {keys:List Nat}:∀(m:List (Nat×Box)) (l:List (Nat×Box)) (n:Nat) (x:Box),(∀p∈m,n≠nth 0 keys (p.1-base))->C2 keys m (upd l n x)=upd (C2 keys m l) n x
 |[],_,_,_,_=>rfl
 |(j,c)::m,l,n,x,h=>by
  simp only[C2];rw[Wk _ _ _ _ _ (h (j,c) (by simp)),Qgn m _ n x λp E=>h p (by simp[E])]
theorem Qcb {keys:List Nat}:∀(m:List (Nat×Box)) (l:List (Nat×Box)) (n:Nat) (x:Box),(∀p∈m,n≠nth 0 keys (p.1-base))->C2 keys m (ins l n x)=ins (C2 keys m l) n x
 |[],_,_,_,_=>rfl
 |(j,c)::m,l,n,x,h=>by
  simp only[C2];rw[Tf _ _ _ _ _ (h (j,c) (by simp)),Qcb m _ n x λp E=>h p (by simp[E])]
theorem Vo {d:Option Tmp} {f:FuncId} {args:List TV} {bx J:List (Nat×Box)} {aC:List (Nat×Row)} {v:TV} (h:AA (C:=C) d (.callD f args) bx aC=some (v,J)):
  ∃E,J=C2 (A_ (cat AC.keys (cat TV.cellsOf args)) []) E bx/\(∀p∈E,nth 0 (A_ (cat AC.keys (cat TV.cellsOf args)) []) (p.1-base)∈A_ (cat AC.keys (cat TV.cellsOf args)) [])/\v.plainB=true/\
   ∀(O:Option Tmp) (I:List (Nat×Box)),(∀k∈A_ (cat AC.keys (cat TV.cellsOf args)) [],Ac I k=Ac bx k)->AA (C:=C) O (.callD f args) I aC=some (v,C2 (A_ (cat AC.keys (cat TV.cellsOf args)) []) E I):=by
 simp only[AA]at h⊢;generalize A_ (cat AC.keys (cat TV.cellsOf args)) []=keys at h⊢;cases S:C.spec f with
 |none=>rw[S]at h;simp at h
 |some g=>
  rw[S]at h;dsimp only at h⊢;split at h
  ·rename_i U;split at h
   ·rename_i mb M;split at h
    ·rename_i v' E V;split at h
     ·rename_i N;simp only[ap,dk]at h;obtain⟨rfl,rfl⟩:=h;have G:=N;simp only[al]at G;refine⟨E,rfl,λp X=> ?_,G.2,λO I T=> ?_⟩
      ·obtain⟨b,hb⟩:=Uv (AD.1 G.1.1.1.2 p X);obtain⟨i,hi,e⟩:=(L8 M).2 _ _ hb;rw[e,show base+i-base=i from by omega];exact F0 hi
      ·rw[Q6r (q:=λk=>Al AC.calm (E4 bx k)) (λk Y=>by unfold E4;rw[T k Y]),Za1 keys base T,M,ab U];dsimp only;rw[V];dsimp only;rw[ab N]
     ·simp at h
    ·simp at h
   ·simp at h
  ·simp at h
theorem RP {keys:List Nat}:∀(m:List (Nat×Box)) (l:List (Nat×Box)) {n:Nat} {b:Box},Ac l n=some b->∃b',Ac (C2 keys m l) n=some b'
 |[],_,_,b,h=>⟨b,h⟩
 |(j,c)::m,l,n,b,h=>by
  simp only[C2];by_cases e:n=nth 0 keys (j-base)
  ·subst e;exact RP m _ (Fb _ _ _ _ h)
  ·exact RP m _ (b:=b) (by rw[DG _ _ _ _ e];exact h)
theorem Z4b {d:Option Tmp} {f:FuncId} {args:List TV} {bx E:List (Nat×Box)} {aC:List (Nat×Row)} {v:TV} (h:AA (C:=C) d (.callD f args) bx aC=some (v,E)):
  ∀k∈A_ (cat AC.keys (cat TV.cellsOf args)) [],∃b,Ac bx k=some b:=by
 simp only[AA]at h;generalize A_ (cat AC.keys (cat TV.cellsOf args)) []=keys at h⊢;split at h
 ·split at h
  ·split at h
   ·rename_i J G;intro k I;obtain⟨x,q,_⟩:=(L8 G).1 (pos keys k) (EE I).1;rw[(EE I).2]at q;exact⟨x,q⟩
   ·simp at h
  ·simp at h
 ·simp at h
theorem Qut {α:Type}:∀(l:List (Nat×α)) (k:Nat) (x:α),Ac l k=some x->upd l k x=l
 |[],_,_,_=>rfl
 |(j,b)::l,k,x,h=>by
  simp only[Ac,upd]at h⊢;cases E:Nat.beq j k
  ·rw[E]at h;simp only[ao]at h⊢;rw[Qut l k x h]
  ·rw[E]at h;simp only[aj,ap]at h⊢;rw[h,ac E]
theorem Q1j {keys:List Nat} {bx:List (Nat×Box)} {rk ri:Nat->Nat}:∀(ks pre:List Nat) (G:List (Nat×Box)),keys=pre++ks->Ef bx rk ri (base+pre.length) ks=some G->(∀k∈ks,Al AC.calm (E4 bx k)=true)->C2 keys G bx=bx
 |[],_,G,_,h,_=>by simp[Ef]at h;subst h;rfl
 |k::ks,pre,G,I,h,J=>by
  simp only[Ef]at h;split at h
  ·rename_i x M;split at h
   ·rename_i l N;simp only[ap]at h;subst h;simp only[C2];have O:nth 0 keys (base+pre.length-base)=k:=by
     rw[show base+pre.length-base=pre.length from by omega,B7,I];simp
    have E:=J k (by simp);unfold E4 at E;rw[M]at E;rw[O,RW E,Qut bx k _ M];exact Q1j (rk:=rk) (ri:=ri) ks (pre++[k]) l (by rw[I];simp) (by rw[<-N];simp[du]) (λj S=>J j (by simp[S]))
   ·simp at h
  ·simp at h
theorem To (E:Ai P C) {d:Option Tmp} {f:FuncId} (G:C.ro f=true) {args:List TV} {bx bx1:List (Nat×Box)} {aC:List (Nat×Row)} {v:TV} (h:AA (C:=C) d (.callD f args) bx aC=some (v,bx1)):bx1=bx:=by
 simp only[AA]at h;generalize A_ (cat AC.keys (cat TV.cellsOf args)) []=keys at h;cases I:C.spec f with
 |none=>rw[I]at h;simp at h
 |some g=>
  rw[I]at h;dsimp only at h;split at h
  ·rename_i M;simp only[al]at M;split at h
   ·rename_i N J;split at h
    ·rename_i U O S;split at h
     ·simp only[ap,dk]at h;have e:=E.2 f g I G _ _ _ _ S;simp only[Mem.mk.injEq,and_true]at e;rw[<-h.2,e];exact Q1j keys [] N rfl (by simpa using J) (λk T=>AD.1 M.1.2 k T)
     ·simp at h
    ·simp at h
   ·simp at h
  ·simp at h
theorem Znv (V:Ai P C) {di X:Option Tmp} {pi pj:Prim} {bx bx1 J:List (Nat×Box)} {aC:List (Nat×Row)} {vi vj:TV} (hi:AA (C:=C) di pi bx aC=some (vi,bx1)) (E:AA (C:=C) X pj bx1 aC=some (vj,J))
  (hm:Prim.meet C.ro (some pi) (some pj)=false) (hd:∀t,di=some t->X≠some t) (a9:Prim.wf bx aC pj):
  ∃a8,AA (C:=C) X pj bx aC=some (vj,a8)/\AA (C:=C) di pi a8 aC=some (vi,J):=by
 have b0:∀{a b:Nat},Nat.beq a b=false->a≠b:=λh e=>by subst e;simp at h
 cases pi<;>simp only[AA]at hi<;>try (simp at hi;done)
 case val v=>simp at hi;obtain⟨rfl,rfl⟩:=hi;exact⟨J,E,rfl⟩
 case newView e ks l=>simp at hi;obtain⟨rfl,rfl⟩:=hi;exact⟨J,E,rfl⟩
 case rload g sz id idx sub=>
  obtain⟨rfl,Y⟩:=Pe (C:=C) (d:=di) (by simpa only[AA]using hi);exact⟨J,E,Y _ _⟩
 case callD f args=>
  obtain⟨T,rfl,a0,_,Y⟩:=Vo (C:=C) (d:=di) (f:=f) (args:=args) (aC:=aC) (by simpa only[AA]using hi);have G:=Y di bx λ_ _=>rfl;have a3:∀k∈A_ (cat AC.keys (cat TV.cellsOf args)) [],∃b,Ac bx k=some b:=Z4b (C:=C) (d:=di) (f:=f) (v:=vi) (aC:=aC) (by simpa only[AA]using G);cases pj<;>simp only[AA]at E<;>try (simp at E;done)
  case val v=>simp at E;obtain⟨rfl,rfl⟩:=E;exact⟨bx,rfl,G⟩
  case newView e ks l=>simp at E;obtain⟨rfl,rfl⟩:=E;exact⟨bx,rfl,G⟩
  case rload g sz id idx sub=>
   obtain⟨rfl,b1⟩:=Pe (C:=C) (d:=X) (by simpa only[AA]using E);exact⟨bx,b1 _ _,G⟩
  case call f' a4=>
   obtain⟨rfl,b1⟩:=Mm (d:=X) E;exact⟨bx,b1 _ _,G⟩
  case load g sz k' o'=>
   cases a5:C.ro f
   case true=>
    have e1:=To V (d:=di) a5 (aC:=aC) G;rw[e1]at E G;have e2:J=bx:=by
     repeat' split at E
     all_goals first|(simp at E;done)|(simp at E;exact E.2.symm)
    subst e2;exact⟨J,by simp only[AA];exact E,G⟩
   have U:k'∉A_ (cat AC.keys (cat TV.cellsOf args)) []:=λe=>by
    have:=Fy.2 e;simp only[Prim.meet,a5,Bool.not_false,Bool.true_and]at hm;rw[hm]at this;cases this
   have M:∀p∈T,k'≠nth 0 (A_ (cat AC.keys (cat TV.cellsOf args)) []) (p.1-base):=λp hp e=>U (by rw[e];exact a0 p hp);rw[Mw _ _ _ M]at E;refine⟨bx,?_,?_⟩
   ·simp only[AA]
    repeat' split at E
    all_goals first|(simp at E;done)|skip
    rename_i q1 _ _ q2;simp at E;obtain⟨rfl,_⟩:=E;simp only[q1,q2]
   ·have:J=C2 (A_ (cat AC.keys (cat TV.cellsOf args)) []) T bx:=by
     repeat' split at E
     all_goals first|(simp at E;done)|(simp at E;exact E.2.symm)
    rw[this];exact G
  case store k' o' S=>
   have U:k'∉A_ (cat AC.keys (cat TV.cellsOf args)) []:=λe=>by
    have:=Fy.2 e;simp only[Prim.meet]at hm;rw[hm]at this;cases this
   have M:∀p∈T,k'≠nth 0 (A_ (cat AC.keys (cat TV.cellsOf args)) []) (p.1-base):=λp hp e=>U (by rw[e];exact a0 p hp);rw[Mw _ _ _ M]at E;cases h2:Ac bx k' with
   |none=>rw[h2]at E;simp at E
   |some b'=>
    rw[h2]at E;dsimp only at E;split at E
    ·rename_i a1;simp at E;obtain⟨rfl,rfl⟩:=E;refine⟨upd bx k' ⟨b'.ty,splice b'.cells o' S⟩,by simp only[AA,h2,a1,dz],?_⟩;rw[Y di _ λk a2=>DG _ _ _ _ (by rintro rfl;exact U a2),Qgn _ _ _ _ M]
    ·simp at E
  case new ty S=>
   split at E
   ·rename_i d;split at E
    ·simp at E
    ·rename_i hn;simp at E;obtain⟨rfl,rfl⟩:=E;have M:∀p∈T,d≠nth 0 (A_ (cat AC.keys (cat TV.cellsOf args)) []) (p.1-base):=λp hp e=>by
      have a7:∃b,Ac bx d=some b:=a3 d (by rw[e];exact a0 p hp);obtain⟨b,hb⟩:=a7;have:∃b',Ac (C2 (A_ (cat AC.keys (cat TV.cellsOf args)) []) T bx) d=some b':=RP _ _ hb;obtain⟨b',N⟩:=this;rw[hn]at N;cases N
     have a6:d∉A_ (cat AC.keys (cat TV.cellsOf args)) []:=λe=>by
      obtain⟨b,hb⟩:=a3 d e;obtain⟨b',N⟩:=RP (keys:=A_ (cat AC.keys (cat TV.cellsOf args)) []) T bx hb;rw[hn]at N;cases N
     rw[Mw _ _ _ M]at hn;refine⟨ins bx d ⟨ty,S⟩,by simp only[AA,hn],?_⟩;rw[Y di _ λk a2=>Ec _ _ _ _ (by rintro rfl;exact a6 a2),Qcb _ _ _ _ M]
   ·simp at E
  case callD f' a4=>
   simp only[Prim.meet,Bool.not_eq_false',al]at hm;have e1:=To V (d:=di) hm.1 (aC:=aC) G;rw[e1]at E G;have e2:=To V (d:=X) hm.2 (aC:=aC) (f:=f') (args:=a4) (v:=vj) (bx1:=J) (by simpa only[AA]using E);subst e2;exact⟨J,by simpa only[AA]using E,G⟩
 case call f args=>
  obtain⟨rfl,Y⟩:=Mm (d:=di) hi;exact⟨J,E,Y _ _⟩
 case load g sz key off=>
  cases I:Ac bx key with
  |none=>rw[I]at hi;simp at hi
  |some b=>
   rw[I]at hi;dsimp only at hi;cases h2:DV g sz b.cells off with
   |none=>rw[h2]at hi;simp at hi
   |some v=>
    rw[h2]at hi;simp at hi;obtain⟨rfl,rfl⟩:=hi;refine⟨J,E,?_⟩;have hl:Ac J key=some b:=by
     cases pj<;>simp only[AA]at E<;>try (simp at E;done)
     case val=>simp at E;rw[<-E.2];exact I
     case newView=>simp at E;rw[<-E.2];exact I
     case rload=>
      obtain⟨rfl,_⟩:=Pe (C:=C) (d:=X) (by simpa only[AA]using E);exact I
     case callD f args=>
      cases a5:C.ro f
      case true=>
       rw[To V (d:=X) a5 (aC:=aC) (args:=args) (v:=vj) (bx1:=J) (by simpa only[AA]using E)];exact I
      obtain⟨T,rfl,a0,_,_⟩:=Vo (C:=C) (d:=X) (f:=f) (args:=args) (aC:=aC) (by simpa only[AA]using E);rw[Mw _ _ _ λp hp e=>by
       have:=Fy.2 (a0 p hp);rw[<-e]at this;simp only[Prim.meet,a5,Bool.not_false,Bool.true_and]at hm;rw[hm]at this;cases this]
      exact I
     case call=>
      obtain⟨rfl,_⟩:=Mm (d:=X) E;exact I
     case load=>
      repeat' split at E
      all_goals first|(simp at E;done)|(simp at E;rw[<-E.2];exact I)
     case store k' o' S=>
      split at E
      ·split at E
       ·simp at E;rw[<-E.2,DG _ _ _ _ (b0 hm)];exact I
       ·simp at E
      ·simp at E
     case new ty cs=>
      split at E
      ·rename_i d;split at E
       ·simp at E
       ·rename_i hn;simp at E;rw[<-E.2,Ec _ _ _ _ (by rintro rfl;rw[hn]at I;simp at I)];exact I
      ·simp at E
    simp only[AA,hl,h2]
 case store key off cs=>
  cases I:Ac bx key with
  |none=>rw[I]at hi;simp at hi
  |some b=>
   rw[I]at hi;dsimp only at hi;split at hi
   ·rename_i hle;simp at hi;obtain⟨rfl,rfl⟩:=hi;cases pj<;>simp only[AA]at E<;>try (simp at E;done)
    case val v=>simp at E;obtain⟨rfl,rfl⟩:=E;exact⟨bx,rfl,by simp only[AA,I,hle,dz]⟩
    case newView e ks l=>simp at E;obtain⟨rfl,rfl⟩:=E;exact⟨bx,rfl,by simp only[AA,I,hle,dz]⟩
    case rload g sz id idx sub=>
     obtain⟨rfl,Y⟩:=Pe (C:=C) (d:=X) (by simpa only[AA]using E);exact⟨bx,Y _ _,by simp only[AA,I,hle,dz]⟩
    case callD f args=>
     obtain⟨T,rfl,a0,_,Y⟩:=Vo (C:=C) (d:=X) (f:=f) (args:=args) (aC:=aC) (by simpa only[AA]using E);have U:key∉A_ (cat AC.keys (cat TV.cellsOf args)) []:=λe=>by
      have:=Fy.2 e;simp only[Prim.meet]at hm;rw[hm]at this;cases this
     have M:∀p∈T,key≠nth 0 (A_ (cat AC.keys (cat TV.cellsOf args)) []) (p.1-base):=λp hp e=>U (by rw[e];exact a0 p hp);refine⟨_,Y X bx λk a2=>(DG _ _ _ _ (by rintro rfl;exact U a2)).symm,?_⟩;simp only[AA];rw[Mw _ _ _ M,I];simp only[hle,dz];rw[Qgn _ _ _ _ M]
    case call f args=>
     obtain⟨rfl,Y⟩:=Mm (d:=X) E;exact⟨bx,Y _ _,by simp only[AA,I,hle,dz]⟩
    case load g sz k' o'=>
     have U:=b0 hm;rw[DG _ _ _ _ (λe=>U e.symm)]at E;refine⟨bx,?_,?_⟩
     ·simp only[AA]
      repeat' split at E
      all_goals first|(simp at E;done)|skip
      rename_i q1 _ _ q2;simp at E;obtain⟨rfl,_⟩:=E;simp only[q1,q2]
     ·have:J=upd bx key ⟨b.ty,splice b.cells off cs⟩:=by
       repeat' split at E
       all_goals first|(simp at E;done)|(simp at E;exact E.2.symm)
      subst this;simp only[AA,I,hle,dz]
    case store k' o' S=>
     have U:=b0 hm;rw[DG _ _ _ _ (λe=>U e.symm)]at E;cases h2:Ac bx k' with
     |none=>rw[h2]at E;simp at E
     |some b'=>
      rw[h2]at E;dsimp only at E;split at E
      ·rename_i a1;simp at E;obtain⟨rfl,rfl⟩:=E;refine⟨upd bx k' ⟨b'.ty,splice b'.cells o' S⟩,by simp only[AA,h2,a1,dz],?_⟩;simp only[AA];rw[DG _ _ _ _ U,I];simp only[hle,dz];rw[Wk _ _ _ _ _ U]
      ·simp at E
    case new ty S=>
     split at E
     ·rename_i d;split at E
      ·simp at E
      ·rename_i hn;simp at E;obtain⟨rfl,rfl⟩:=E;have a6:d≠key:=by
        rintro rfl;rw[Fb _ _ _ _ I]at hn;simp at hn
       rw[DG _ _ _ _ a6]at hn;refine⟨ins bx d ⟨ty,S⟩,by simp only[AA,hn],?_⟩;simp only[AA];rw[Ec _ _ _ _ (λe=>a6 e.symm),I];simp only[hle,dz];rw[Tf _ _ _ _ _ a6]
     ·simp at E
   ·simp at hi
 case new ty cs=>
  cases b2:di with
  |none=>rw[b2]at hi;simp at hi
  |some d=>
   rw[b2]at hi;dsimp only at hi;cases I:Ac bx d with
   |some _=>rw[I]at hi;simp at hi
   |none=>
    rw[I]at hi;simp at hi;obtain⟨rfl,rfl⟩:=hi;have O:∀bb,Ac bb d=none->AA (C:=C) (some d) (.new ty cs) bb aC=some (.c (.ptr d 0),ins bb d ⟨ty,cs⟩):=by
     intro bb hb;simp only[AA,hb]
    cases pj<;>simp only[AA]at E<;>try (simp at E;done)
    case val v=>simp at E;obtain⟨rfl,rfl⟩:=E;exact⟨bx,rfl,O bx I⟩
    case newView e ks l=>simp at E;obtain⟨rfl,rfl⟩:=E;exact⟨bx,rfl,O bx I⟩
    case rload g sz id idx sub=>
     obtain⟨rfl,Y⟩:=Pe (C:=C) (d:=X) (by simpa only[AA]using E);exact⟨bx,Y _ _,O bx I⟩
    case callD f args=>
     obtain⟨T,rfl,a0,_,Y⟩:=Vo (C:=C) (d:=X) (f:=f) (args:=args) (aC:=aC) (by simpa only[AA]using E);have U:d∉A_ (cat AC.keys (cat TV.cellsOf args)) []:=λe=>by
      obtain⟨b,hb⟩:=Z0d a9 e;rw[I]at hb;cases hb
     have M:∀p∈T,d≠nth 0 (A_ (cat AC.keys (cat TV.cellsOf args)) []) (p.1-base):=λp hp e=>U (by rw[e];exact a0 p hp);refine⟨_,Y X bx λk a2=>(Ec _ _ _ _ (by rintro rfl;exact U a2)).symm,?_⟩;rw[O _ (by rw[Mw _ _ _ M];exact I),Qcb _ _ _ _ M]
    case call f args=>
     obtain⟨rfl,Y⟩:=Mm (d:=X) E;exact⟨bx,Y _ _,O bx I⟩
    case load g sz k' o'=>
     obtain⟨b',N⟩:=a9;have U:k'≠d:=by rintro rfl;rw[I]at N;simp at N
     rw[Ec _ _ _ _ U]at E;refine⟨bx,?_,?_⟩
     ·simp only[AA]
      repeat' split at E
      all_goals first|(simp at E;done)|skip
      rename_i q1 _ _ q2;simp at E;obtain⟨rfl,_⟩:=E;simp only[q1,q2]
     ·have:J=ins bx d ⟨ty,cs⟩:=by
       repeat' split at E
       all_goals first|(simp at E;done)|(simp at E;exact E.2.symm)
      subst this;exact O bx I
    case store k' o' S=>
     obtain⟨⟨b',N⟩,_⟩:=a9;have U:k'≠d:=by rintro rfl;rw[I]at N;simp at N
     rw[Ec _ _ _ _ U,N]at E;dsimp only at E;split at E
     ·rename_i a1;simp at E;obtain⟨rfl,rfl⟩:=E;refine⟨upd bx k' ⟨b'.ty,splice b'.cells o' S⟩,by simp only[AA,N,a1,dz],?_⟩;rw[O _ (by rw[DG _ _ _ _ (λe=>U e.symm)];exact I),Tf _ _ _ _ _ (λe=>U e.symm)]
     ·simp at E
    case new b5 S=>
     cases b3:X with
     |none=>rw[b3]at E;simp at E
     |some e=>
      rw[b3]at E;dsimp only at E;have b4:d≠e:=by rintro rfl;exact hd d b2 b3
      rw[Ec _ _ _ _ (λq=>b4 q.symm)]at E;cases h2:Ac bx e with
      |some _=>rw[h2]at E;simp at E
      |none=>
       rw[h2]at E;simp at E;obtain⟨rfl,rfl⟩:=E;refine⟨ins bx e ⟨b5,S⟩,by simp only[AA,h2],?_⟩;rw[O _ (by rw[Ec _ _ _ _ b4];exact I),Qaz _ _ _ _ _ b4]
end
open Go.RowKit
structure WFst (s : St) : Prop where
 t:∀v∈s.tmps,TV.wf s.aB s.aC v
 b:∀(k:Nat) (b:Box),Ac s.aB k=some b->∀a∈b.cells,AC.wf s.aB s.aC a
section
variable {P:Program} {C:Cfg} {w:World} {R:Type} {Z:Base}
theorem Z51 {d:Option Tmp} {f:FuncId} {args:List TV} {bx E:List (Nat×Box)} {aC:List (Nat×Row)} {v:TV} (h:AA (C:=C) d (.call f args) bx aC=some (v,E)):TV.wf E aC v:=by
 simp only[AA]at h;split at h
 ·split at h
  ·split at h
   ·split at h
    ·rename_i G;simp at h;obtain⟨rfl,_⟩:=h;simp only[al]at G;exact KQ G.2
    ·simp at h
   ·simp at h
  ·simp at h
 ·simp at h
theorem Q5n {bx:List (Nat×Box)} {aC:List (Nat×Row)}:∀(ks:List Kd) (cs:List AC) (j:Nat),∀c∈E7 ks cs j,AC.wf bx aC c
 |[],_,_,c,E=>by simp[E7]at E
 |k::ks,cs,j,c,E=>by
  simp only[E7,av]at E;rcases E with rfl|E
  ·cases k<;>try exact trivial
   generalize nth AC.dead cs j=b;cases b<;>exact trivial
  ·exact Q5n ks cs _ c E
theorem Q3z {α:Type}:∀(l:List (Nat×α)) (k:Nat) (x:α),Ac l k=none->Ac (upd l k x) k=none
 |[],_,_,_=>rfl
 |(j,c)::l,k,x,h=>by
  simp only[Ac]at h;cases hb:Nat.beq j k<;>rw[hb]at h
  ·simp only[upd,hb,ao,Ac];exact Q3z l k x h
  ·simp at h
theorem Qu9 {keys:List Nat}:∀(m:List (Nat×Box)) (l:List (Nat×Box)) {n:Nat} {b:Box},Ac (C2 keys m l) n=some b->Ac l n=some b\/∃p∈m,p.2=b
 |[],_,_,_,h=> .inl h
 |(j,c)::m,l,n,b,h=>by
  simp only[C2]at h;rcases Qu9 m _ h with h|⟨p,G,e⟩
  ·by_cases e:n=nth 0 keys (j-base)
   ·subst e;cases E:Ac l (nth 0 keys (j-base))with
    |none=>rw[Q3z _ _ _ E]at h;cases h
    |some y=>
     rw[Fb _ _ _ _ E]at h;simp at h;subst h;exact .inr ⟨(j,c),by simp,rfl⟩
   ·rw[DG _ _ _ _ e]at h;exact .inl h
  ·exact .inr ⟨p,by simp[G],e⟩
theorem Qvv {d:Option Tmp} {f:FuncId} {args:List TV} {bx I:List (Nat×Box)} {aC:List (Nat×Row)} {v:TV} (h:AA (C:=C) d (.callD f args) bx aC=some (v,I)):
  ∃E,I=C2 (A_ (cat AC.keys (cat TV.cellsOf args)) []) E bx/\True/\v.plainB=true/\∀p∈E,Al AC.calm p.2.cells=true:=by
 simp only[AA]at h;generalize A_ (cat AC.keys (cat TV.cellsOf args)) []=keys at h⊢
 repeat' split at h
 all_goals first|(simp at h;done)|skip
 rename_i J E _ G;simp only[ap,dk]at h;obtain⟨rfl,rfl⟩:=h;simp only[al]at G;exact⟨E,rfl,trivial,G.2,AD.1 G.1.2⟩
theorem Z7y {ops:List Oper} {o:Oper} {tm:List TV} {bx T:List (Nat×Box)} {aC:List (Nat×Row)} {p:Option Prim} {v:TV} (N:WFst ⟨tm,bx,aC⟩) (h:DE P C ops o tm bx aC=some (p,v,T)):
  WFst ⟨tm,T,aC⟩/\TV.wf T aC v/\∀q,p=some q->Prim.wf bx aC q:=by
 unfold DE at h;split at h
 ·cases S:opK P C (A8 tm) o.dst o.op some with
  |none=>rw[S]at h;simp at h
  |some q=>
   rw[S]at h;simp only[ag]at h;have V:=ZV (pre:=false) (Qcw (aB:=bx) (aC:=aC) (λx=>Qbe N.t x) S);clear S;generalize q.dr false=q at h V⊢;cases E:AA (C:=C) o.dst q bx aC with
   |none=>rw[E]at h;simp at h
   |some z=>
    rw[E]at h;simp at h;obtain⟨rfl,rfl,rfl⟩:=h;have O:∀{U:List (Nat×Box)},(∀a,AC.wf bx aC a->AC.wf U aC a)->(∀(k:Nat) (b:Box),Ac U k=some b->∀a∈b.cells,AC.wf bx aC a)->WFst ⟨tm,U,aC⟩:=
     λI hb=>⟨λv X=>TV.wf_mono I (N.t v X),λk b G a E=>I a (hb k b G a E)⟩
    refine⟨?_,?_,λq' e=>by simp at e;subst e;exact V⟩;all_goals
     cases q<;>simp only[AA]at E<;>try (simp at E;done)
    ·simp at E;subst E;exact N
    ·repeat' split at E
     all_goals first|(simp at E;done)|(simp at E;subst E;exact N)
    ·rename_i key off cs;split at E
     ·rename_i b hb;split at E
      ·simp at E;subst E;refine O (λa => AC.wf_mono (λk bo M => by
        by_cases J:k=key
        ·subst J;exact⟨_,Fb _ _ _ _ hb⟩
        ·exact⟨bo,by rw[DG _ _ _ _ J];exact M⟩) (λk r G=>⟨r,G,rfl,rfl⟩)) ?_
       intro k bo G a I;by_cases J:k=key
       ·subst J;rw[Fb _ _ _ _ hb]at G;simp at G;subst G;rcases Vz _ _ _ I with I|I
        ·exact N.b k b hb a I
        ·exact V.2 a I
       ·rw[DG _ _ _ _ J]at G;exact N.b k bo G a I
      ·simp at E
     ·simp at E
    ·rename_i ty cs;split at E
     ·rename_i d hd;split at E
      ·simp at E
      ·rename_i hn;simp at E;subst E;refine O (λa=>AC.wf_mono (λk bo M=>⟨bo,by rw[Ec _ _ _ _ (by rintro rfl;rw[hn]at M;simp at M)];exact M⟩) (λk r G=>⟨r,G,rfl,rfl⟩)) ?_;intro k bo G a I;by_cases J:k=d
       ·subst J;rw[Fk _ _ _ hn]at G;simp at G;subst G;exact V a I
       ·rw[Ec _ _ _ _ J]at G;exact N.b k bo G a I
     ·simp at E
    ·rename_i g sz id idx sub;obtain⟨z1,z2⟩:=z;obtain⟨rfl,_⟩:=Pe (C:=C) (d:=o.dst) (by simpa only[AA]using E);exact N
    ·simp at E;subst E;exact N
    ·obtain⟨rfl,_⟩:=Mm (d:=o.dst) E;exact N
    ·rename_i f args;obtain⟨z1,z2⟩:=z;obtain⟨a0,rfl,a2,_,Y⟩:=Qvv (C:=C) (d:=o.dst) (f:=f) (args:=args) (aC:=aC) (by simpa only[AA]using E);refine O (λa=>AC.wf_mono (λk bo M=>RP _ _ M) (λk r G=>⟨r,G,rfl,rfl⟩)) ?_;intro k bo G a I;rcases Qu9 _ _ G with G|⟨p,S,rfl⟩
     ·exact N.b k bo G a I
     ·exact Qze (Y p S) a I
    ·simp at E;subst E;exact V
    ·split at E
     ·rename_i b hb;split at E
      ·rename_i v X;simp at E;subst E;exact RM X (N.b _ b hb)
      ·simp at E
     ·simp at E
    ·repeat' split at E
     all_goals first|(simp at E;done)|(simp at E;subst E;trivial)
    ·rename_i ty cs;split at E
     ·rename_i d hd;split at E
      ·simp at E
      ·rename_i hn;simp at E;subst E;exact C6 ⟨_,Fk _ _ _ hn⟩
     ·simp at E
    ·split at E
     ·rename_i r hr;split at E
      ·rename_i v X;simp at E;subst E;exact RM X λa I=>Q5n r.ks _ 0 a I
      ·simp at E
     ·simp at E
    ·simp at E;subst E;exact C6 trivial
    ·rename_i f args;exact Z51 (d:=o.dst) E
    ·rename_i f args;obtain⟨z1,z2⟩:=z;obtain⟨a0,_,_,a1,_⟩:=Qvv (C:=C) (d:=o.dst) (f:=f) (args:=args) (aC:=aC) (by simpa only[AA]using E);exact KQ a1
 ·simp at h;obtain⟨rfl,rfl,rfl⟩:=h;exact⟨N,λp S=>by simp at S,λq e=>by simp at e⟩
 ·simp at h
theorem Qa5 {tm:List TV} {bx:List (Nat×Box)} {aC:List (Nat×Row)} {d:Option Tmp} {v:TV} (G:WFst ⟨tm,bx,aC⟩) (I:TV.wf bx aC v):WFst ⟨Df tm d v,bx,aC⟩:=by
 cases d with
 |none=>exact G
 |some t=>
  refine⟨λu E=> ?_,G.b⟩;simp only[Df,I7]at E;rcases d8 E with E|rfl
  ·exact G.t u E
  ·exact I
theorem Zmz {id:Nat} {bx:List (Nat×Box)} {k:Nat} {b:Box} (h:Ac (bx.map λp=>(p.1,p.2.kill id)) k=some b):∃b',Ac bx k=some b'/\b=b'.kill id:=by
 have:=GO (Box.kill id) bx k;rw[this]at h;simp only[cd]at h;obtain⟨b',E,rfl⟩:=h;exact⟨b',E,rfl⟩
theorem Xg {bx:List (Nat×Box)} {aC E:List (Nat×Row)} {id:Nat} (O:∀j,j≠id->Ac E j=Ac aC j) {a:AC} (h:AC.wf bx aC a):AC.wf (bx.map λp=>(p.1,p.2.kill id)) E (a.kill id):=by
 have hb:∀k b,Ac bx k=some b->∃b',Ac (bx.map λp=>(p.1,p.2.kill id)) k=some b':=λk b T=>⟨b.kill id,by have:=GO (Box.kill id) bx k;rw[this,T];rfl⟩;have S:∀c,AC.wfP bx c->AC.wfP (bx.map λp=>(p.1,p.2.kill id)) c:=by
  intro c I;cases c<;>try exact trivial
  obtain⟨b,G⟩:=I;exact hb _ _ G
 cases a<;>try exact trivial
 case ptr k o=>
  obtain⟨b,G⟩:=h;exact hb _ _ G
 case bsl k o=>
  obtain⟨b,G⟩:=h;exact hb _ _ G
 case own j w n=>
  simp only[AC.kill];cases J:Nat.beq j id
  ·obtain⟨r,M,N⟩:=h;exact⟨r,by rw[O j (Hk J)];exact M,N⟩
  ·exact trivial
 case rptr j a b=>
  simp only[AC.kill];cases J:Nat.beq j id
  ·obtain⟨r,M,N⟩:=h;exact⟨r,by rw[O j (Hk J)];exact M,N⟩
  ·exact trivial
 case vptr cs sub=>exact h
 case clo f fs cs=>exact⟨λc I=>S c (h.1 c I),λc I=>S c (h.2 c I)⟩
theorem Z29 {dst:Option Tmp} {aC E:List (Nat×Row)} {p:Prim} {id:Nat} {v:TV} (I:KP dst p=some id) (G:Lg dst aC p=some (v,E)):(∀j,j≠id->Ac E j=Ac aC j)/\TV.wf [] E v:=by
 cases p<;>simp[KP]at I
 rename_i e ks bytes M x;cases M<;>simp at I
 case nilSl=>
  subst I;simp only[Lg,Qmn]at G
  repeat' split at G
  all_goals first|(simp at G;done)|skip
  rename_i N _ _;simp only[ap,dk]at G;obtain⟨rfl,rfl⟩:=G;refine⟨λj J=>Ec _ _ _ _ J,C6 ?_⟩;exact⟨_,Fk _ _ _ N,rfl,rfl⟩
 rename_i id' w n;subst I;simp only[Lg,Qep]at G
 repeat' split at G
 all_goals first|(simp at G;done)|skip
 rename_i r O _ _;simp only[ap,dk]at G;obtain⟨rfl,rfl⟩:=G;refine⟨λj J=>DG _ _ _ _ J,C6 ?_⟩;exact⟨_,Fb _ _ _ _ O,rfl,rfl⟩
theorem Q1v {aC rows':List (Nat×Row)}:∀{args:List TV},Al TV.plainB args=true->Hb aC args=Hb rows' args
 |[],_=>rfl
 |a::l,h=>by
  simp only[Al]at h;have G:a.plainB=true/\Al TV.plainB l=true:=by cases J:a.plainB<;>rw[J]at h<;>simp at h;exact⟨rfl,h⟩
  have e:a.res aC=a.res rows':=by
   cases a with
   |dead=>rfl
   |tup ps=>rfl
   |v g cs=>
    simp only[TV.res];have:FV aC cs=FV rows' cs:=by
     have E:=G.1;simp only[TV.plainB]at E;clear h G;induction cs with
     |nil=>rfl
     |cons c cs M=>
      simp only[Al]at E;have I:c.plain=true/\Al AC.plain cs=true:=by cases N:c.plain<;>rw[N]at E<;>simp at E;exact⟨rfl,E⟩
      simp only[FV];rw[M I.2];have:c.res aC=c.res rows':=by
       have:=I.1;cases c<;>simp[AC.plain]at this<;>rfl
      rw[this]
    rw[this]
  simp only[Hb];rw[e,Q1v G.2]
theorem Z2b {dst:Option Tmp} {aC G:List (Nat×Row)} {p:Prim} {v:TV} (h:mkD (C:=C) dst p aC=some (v,G)):(∀j r,Ac aC j=some r->Ac G j=some r)/\TV.wf [] G v:=by
 unfold mkD at h;cases E:mkG (C:=C) dst p with
 |none=>rw[E]at h;simp at h
 |some q=>
  obtain⟨O,o⟩:=q;rw[E]at h;cases o with
  |none=>
   simp only[ap,dk]at h;obtain⟨rfl,rfl⟩:=h;refine⟨λ_ _ h=>h,?_⟩;unfold mkG at E;split at E
   ·split at E<;>simp at E
   ·split at E
    ·split at E
     ·split at E
      ·split at E
       ·rename_i M;simp only[ap,dk]at E;rw[<-E.1];exact KQ M
       ·simp at E
      ·split at E<;>simp at E
      ·simp at E
     ·simp at E
    ·simp at E
   ·simp at E
  |some N=>
   obtain⟨k,r⟩:=N;dsimp only at h;split at h
   ·simp at h
   ·rename_i I;simp only[ap,dk]at h;obtain⟨rfl,rfl⟩:=h;refine⟨λj r' J=>by rw[Ec _ _ _ _ (by rintro rfl;rw[I]at J;cases J)];exact J,?_⟩;unfold mkG at E;split at E
    ·split at E
     ·simp only[ap,dk]at E;obtain⟨rfl,rfl,rfl⟩:=E;exact C6 ⟨_,Fk _ _ _ I,rfl,rfl⟩
     ·simp at E
    ·split at E
     ·split at E
      ·split at E
       ·split at E<;>simp at E
       ·split at E
        ·simp only[ap,dk]at E;obtain⟨rfl,rfl,rfl⟩:=E;exact C6 ⟨_,Fk _ _ _ I,rfl,rfl⟩
        ·simp at E
       ·simp at E
      ·simp at E
     ·simp at E
    ·simp at E
theorem Z6j {ops:List Oper} {o:Oper} {s X:St} {p:Option Prim} (N:WFst s) (h:CF (P:=P) (C:=C) ops o s=some (p,X)):WFst X:=by
 obtain⟨tm,bx,aC⟩:=s;cases Y:Prim.isApp p
 ·cases O:Prim.isMk p
  case true=>
   obtain⟨_,q,v,E,_,rfl,T,rfl⟩:=UE h O;obtain⟨S,U⟩:=Z2b T;have G:∀a,AC.wf bx aC a->AC.wf bx E a:=λa=>AC.wf_mono (λk b I=>⟨b,I⟩) (λk r I=>⟨r,S k r I,rfl,rfl⟩);exact Qa5 ⟨λu M=>TV.wf_mono G (N.t u M),λk b I a hm=>G a (N.b k b I a hm)⟩ (TV.wf_mono (λa G=>AC.wf_mono (aB:=[]) (aC:=E) (λk b I=>by simp[Ac]at I) (λk r I=>⟨r,I,rfl,rfl⟩) G) U)
  obtain⟨v,a0,J,rfl⟩:=Nv h Y O;obtain⟨h1,h2,_⟩:=Z7y N J;exact Qa5 h1 h2
 ·obtain⟨_,q,id,v,E,_,rfl,h3,T,rfl⟩:=Qiy h Y;obtain⟨S,U⟩:=Z29 h3 T;refine Qa5 ⟨λu M=> ?_,λk b I a G=> ?_⟩ (TV.wf_mono (λa G=>AC.wf_mono (aB:=[]) (aC:=E) (λk b I=>by simp[Ac]at I) (λk r I=>⟨r,I,rfl,rfl⟩) G) U)
  ·simp only[ba]at M;obtain⟨u,M,rfl⟩:=M;have:=N.t u M;cases u with
   |dead=>trivial
   |v g cs=>
    intro a G;simp only[ba]at G;obtain⟨c,J,rfl⟩:=G;exact Xg S (this c J)
   |tup ps=>
    intro p hp a G;simp only[ba]at hp;obtain⟨q,hq,rfl⟩:=hp;simp only[ba]at G;obtain⟨c,J,rfl⟩:=G;exact Xg S (this q hq c J)
  ·obtain⟨b',V,rfl⟩:=Zmz I;simp only[Box.kill,ba]at G;obtain⟨c,J,rfl⟩:=G;exact Xg S (N.b k b' V c J)
theorem Zbu {o:Op} {p:Option Prim} (h:Prim.still o p=true):Prim.isMk p=false:=by
 cases p with
 |none=>rfl
 |some q=>cases q<;>first|rfl|(cases o<;>simp[Prim.still,Prim.isLive,Prim.isPtr]at h)
theorem Z8i {d:Option Tmp} {p:Prim} {bx G:List (Nat×Box)} {aC:List (Nat×Row)} {v:TV} (I:Prim.mkStill (some p)=true) (h:AA (C:=C) d p bx aC=some (v,G)):
  G=bx/\∀E,AA (C:=C) d p bx E=some (v,bx):=by
 cases p<;>simp[Prim.mkStill]at I
 case val u=>simp only[AA,ap,dk]at h⊢;obtain⟨rfl,rfl⟩:=h;exact⟨rfl,λ_=>by simp⟩
 case newView e ks l=>simp only[AA,ap,dk]at h⊢;obtain⟨rfl,rfl⟩:=h;exact⟨rfl,λ_=>by simp⟩
 case load g sz key off=>
  simp only[AA]at h⊢
  repeat' split at h
  all_goals first|(simp at h;done)|skip
  simp at h;obtain⟨rfl,rfl⟩:=h;exact⟨rfl,λ_=>rfl⟩
 case call f args=>
  obtain⟨rfl,_⟩:=Mm h;refine⟨rfl,λE=> ?_⟩;simp only[AA]at h⊢;rw[Q1v (aC:=E) (rows':=aC) I];exact h
 case newRow e ks l=>simp[AA]at h
 case callF f args=>simp[AA]at h
theorem Q68 {ops:List Oper} {o:Oper} {tm:List TV} {bx G:List (Nat×Box)} {aC:List (Nat×Row)} {p:Option Prim} {v:TV} (M:Prim.mkStill p=true) (h:DE P C ops o tm bx aC=some (p,v,G)):
  G=bx/\∀E,DE P C ops o tm bx E=some (p,v,bx):=by
 unfold DE at h⊢;split at h
 ·cases J:opK P C (A8 tm) o.dst o.op some with
  |none=>rw[J]at h;simp at h
  |some q=>
   rw[J]at h;simp only[ag]at h⊢;cases I:AA (C:=C) o.dst (q.dr false) bx aC with
   |none=>rw[I]at h;simp at h
   |some z=>
    rw[I]at h;simp at h;obtain⟨rfl,rfl,rfl⟩:=h;obtain⟨e1,e2⟩:=Z8i M I;refine⟨e1,λE=> ?_⟩;rw[e2 E];rfl
 ·simp at h;obtain⟨rfl,rfl,rfl⟩:=h;exact⟨rfl,λ_=>rfl⟩
 ·simp at h
theorem Zyy {T U:Option Tmp} {V X:Prim} {aC I E:List (Nat×Row)} {vi vj:TV} (hi:mkD (C:=C) T V aC=some (vi,I)) (J:mkD (C:=C) U X I=some (vj,E)):
  ∃G,mkD (C:=C) U X aC=some (vj,G)/\mkD (C:=C) T V G=some (vi,E):=by
 unfold mkD at*;cases O:mkG (C:=C) T V with
 |none=>rw[O]at hi;simp at hi
 |some qi=>
  obtain⟨v1,o1⟩:=qi;rw[O]at hi;cases S:mkG (C:=C) U X with
  |none=>rw[S]at J;simp at J
  |some qj=>
   obtain⟨v2,o2⟩:=qj;rw[S]at J;cases o1 with
   |none=>
    simp only[ap,dk]at hi;obtain⟨rfl,rfl⟩:=hi;exact⟨E,J,rfl⟩
   |some k1=>
    obtain⟨k,r⟩:=k1;dsimp only at hi;split at hi
    ·simp at hi
    rename_i Y;simp only[ap,dk]at hi;obtain⟨rfl,rfl⟩:=hi;cases o2 with
    |none=>
     simp only[ap,dk]at J;obtain⟨rfl,rfl⟩:=J;refine⟨aC,rfl,?_⟩;dsimp only;rw[Y]
    |some k2=>
     obtain⟨k',r'⟩:=k2;dsimp only at J;split at J
     ·simp at J
     rename_i M;simp only[ap,dk]at J;obtain⟨rfl,rfl⟩:=J;have N:k'≠k:=by
      rintro rfl;rw[Fk _ _ _ Y]at M;cases M
     rw[Ec _ _ _ _ N]at M;refine⟨ins aC k' r',by dsimp only;rw[M],?_⟩;dsimp only;rw[Ec _ _ _ _ (λe=>N e.symm),Y];dsimp only;rw[Qaz _ _ _ _ _ N]
theorem Z1u (b1:Ai P C) {ops:Array Oper} {x y:Oper} {s s1 s2:St} {px py:Option Prim} (hw:WFst s) (hy:CF (P:=P) (C:=C) ops.toList y s=some (py,s1)) (hx:CF (P:=P) (C:=C) ops.toList x s1=some (px,s2))
  (b9:Oper.apart ops y x=true) (hm:Prim.meet C.ro py px=false) (I:IW y py x px=true):∃b3,CF (P:=P) (C:=C) ops.toList x s=some (px,b3)/\CF (P:=P) (C:=C) ops.toList y b3=some (py,s2):=by
 obtain⟨a1,a2,a3⟩:=Oper.apart_spec b9;obtain⟨tm,bx,aC⟩:=s;have M:∀(o:Oper) (tm:List TV),o.guard.isNone=true->Cf ops.toList o tm=some true:=by
  intro o tm h;unfold Cf;rw[Option.isNone_iff_eq_none.1 h]
 have N:∀(o:Oper) (tm:List TV) (d:Option Tmp) (v:TV),(∀t,d=some t->t∉o.looksAt ops)->opK P C (A8 (Df tm d v)) o.dst o.op some=opK P C (A8 tm) o.dst o.op some:=by
  intro o tm d v h;cases d with
  |none=>rfl
  |some t=>
   exact SR (λx hx => Qw9 (by
    rintro rfl;exact h t rfl (List.mem_append_left _ (List.mem_filterMap.2 ⟨.tmp t,by simpa using hx,rfl⟩)))) some
 cases X:Prim.isApp py
 case true=>
  unfold IW at I;rw[X]at I;simp only[aj,al]at I;obtain⟨⟨⟨o1,o2⟩,o3⟩,o4⟩:=I;have Y:Prim.isApp px=false:=by simpa using o1
  obtain⟨_,q,id,vy,a6,hq,rfl,h3,h4,rfl⟩:=Qiy hy X;obtain⟨vx,a9,E,rfl⟩:=Nv hx Y (Zbu o4);unfold DE at E;rw[M x _ o3]at E;dsimp only at E;rw[N x _ _ _ (λt J=>a1 t J)]at E;cases a0:opK P C (A8 (tm.map (TV.kill id))) x.dst x.op some with
  |none=>rw[a0]at E;simp at E
  |some qx=>
   rw[a0]at E;simp only[ag]at E;cases S:AA (C:=C) x.dst (qx.dr false) (bx.map λp=>(p.1,p.2.kill id)) a6 with
   |none=>rw[S]at E;simp at E
   |some zx=>
    rw[S]at E;simp at E;obtain⟨rfl,rfl,rfl⟩:=E;obtain⟨g,cs,rfl,hl⟩:=Q5z o4;simp only[Prim.dr,AA,ap]at S;subst S;have b4:=(Qwx (P:=P) (C:=C) (id:=id) (tm:=tm) (dst:=x.dst) o4).1 a0;refine⟨⟨Df tm x.dst (.v g cs),bx,aC⟩,Pd (by unfold DE;rw[M x _ o3];dsimp only;rw[b4];rfl),?_⟩;rw[Q2u (M y _ o2) (by rw[N y _ _ _ (λt J=>a3 t J)];exact hq) h3 h4 X,Qy0 hl];dsimp only;rw[O2 vy _ a2]
 case false=>
 cases Y:Prim.isApp px
 case true=>
  unfold IW at I;rw[X,Y]at I;simp only[aj,ao,al]at I;obtain⟨⟨o2,o3⟩,o4⟩:=I;obtain⟨vy,b5,G,rfl⟩:=Nv hy X (Zbu o4);obtain⟨_,q,id,vx,a6,hq,rfl,h3,h4,rfl⟩:=Qiy hx Y;rw[N x _ _ _ (λt J=>a1 t J)]at hq;unfold DE at G;rw[M y _ o2]at G;dsimp only at G;cases a5:opK P C (A8 tm) y.dst y.op some with
  |none=>rw[a5]at G;simp at G
  |some qy=>
   rw[a5]at G;simp only[ag]at G;cases T:AA (C:=C) y.dst (qy.dr false) bx aC with
   |none=>rw[T]at G;simp at G
   |some zy=>
    rw[T]at G;simp at G;obtain⟨rfl,rfl,rfl⟩:=G;obtain⟨g,cs,rfl,hl⟩:=Q5z o4;simp only[Prim.dr,AA,ap]at T;subst T;have b6:=(Qwx (P:=P) (C:=C) (id:=id) (tm:=tm) (dst:=y.dst) o4).2 a5;refine⟨_,Q2u (M x _ o3) hq h3 h4 Y,?_⟩;rw[Pd (p:=some (.val (.v g cs))) (v:= .v g cs) (by unfold DE;rw[M y _ o2];dsimp only;rw[N y _ _ _ (λt J=>a3 t J),b6];rfl)];dsimp only[Prim.dr];rw[Qy0 hl,O2 vx _ (λt J e=>a2 t e J)]
 case false=>
   unfold IW at I;rw[X,Y]at I;simp only[ao]at I;cases U:Prim.isMk py
   case true=>
    rw[U]at I;simp only[aj]at I;obtain⟨b0,qy,vy,c0,b7,rfl,T,rfl⟩:=UE hy U;cases O:Prim.isMk px
    case true=>
     obtain⟨a4,qx,vx,a7,a8,rfl,S,rfl⟩:=UE hx O;rw[Q2 (λt J=>a1 t J)]at a4;rw[N x _ _ _ (λt J=>a1 t J)]at a8;obtain⟨b8,m1,m2⟩:=Zyy T S;refine⟨_,Ui a4 a8 m1 O,?_⟩;rw[Ui (by rw[Q2 (λt J=>a3 t J)];exact b0) (by rw[N y _ _ _ (λt J=>a3 t J)];exact b7) m2 U,O2 vy vx a2]
    case false=>
     obtain⟨vx,a9,E,rfl⟩:=Nv hx Y O;rw[Un (λt J=>a1 t J)]at E;obtain⟨rfl,b2⟩:=Q68 I E;refine⟨_,Pd (b2 aC),?_⟩;rw[Ui (by rw[Q2 (λt J=>a3 t J)];exact b0) (by rw[N y _ _ _ (λt J=>a3 t J)];exact b7) T U,O2 vy vx a2]
   case false=>
   rw[U]at I;simp only[ao]at I;cases O:Prim.isMk px
   case true=>
    rw[O]at I;simp only[aj]at I;obtain⟨vy,b5,G,rfl⟩:=Nv hy X U;obtain⟨rfl,b2⟩:=Q68 I G;obtain⟨a4,qx,vx,a7,a8,rfl,S,rfl⟩:=UE hx O;rw[Q2 (λt J=>a1 t J)]at a4;rw[N x _ _ _ (λt J=>a1 t J)]at a8;refine⟨_,Ui a4 a8 S O,?_⟩;rw[Pd (by rw[Un (λt J=>a3 t J)];exact b2 a7),O2 vy vx a2]
   case false=>
   obtain⟨vy,b5,G,rfl⟩:=Nv hy X U;obtain⟨vx,a9,E,rfl⟩:=Nv hx Y O;rw[Un (λt J=>a1 t J)]at E;have key:∃V,DE P C ops.toList x tm bx aC=some (px,vx,V)/\DE P C ops.toList y tm V aC=some (py,vy,a9):=by
    unfold DE at G E⊢;split at G
    ·rename_i b0;cases a5:opK P C (A8 tm) y.dst y.op some with
     |none=>rw[a5]at G;simp at G
     |some qy=>
      rw[a5]at G;simp only[ag]at G;cases T:AA (C:=C) y.dst (qy.dr false) bx aC with
      |none=>rw[T]at G;simp at G
      |some zy=>
       rw[T]at G;simp at G;obtain⟨rfl,rfl,rfl⟩:=G;split at E
       ·rename_i a4;cases a0:opK P C (A8 tm) x.dst x.op some with
        |none=>rw[a0]at E;simp at E
        |some qx=>
         rw[a0]at E;simp only[ag]at E;cases S:AA (C:=C) x.dst (qx.dr false) zy.2 aC with
         |none=>rw[S]at E;simp at E
         |some zx=>
          rw[S]at E;simp at E;obtain⟨rfl,rfl,rfl⟩:=E;obtain⟨V,m1,m2⟩:=Znv b1 T S hm a2 (ZV (Qcw (λx=>Qbe hw.t x) a0));exact⟨V,by simp[m1],by simp[m2]⟩
       ·rename_i a4;simp at E;obtain⟨rfl,rfl,rfl⟩:=E;exact⟨bx,rfl,by simp[T]⟩
       ·simp at E
    ·rename_i b0;simp at G;obtain⟨rfl,rfl,rfl⟩:=G;exact⟨a9,E,rfl⟩
    ·simp at G
   obtain⟨V,k1,k2⟩:=key;refine⟨⟨Df tm x.dst vx,V,aC⟩,Pd k1,?_⟩;rw[Pd (by rw[Un (λt J=>a3 t J)];exact k2),O2 vy vx a2]
theorem Qtv (E:Ai P C) {ops:Array Oper} {m:List Nat} {x:Nat×Oper×Option Prim} {post:List (Nat×Oper×Option Prim)} {O:St}:∀(pre:List (Nat×Oper×Option Prim)) (s:St),WFst s->R8 P C ops.toList m (pre++x::post) s O->
  (∀y∈pre,DJ ops.toList m x.1=false/\DJ ops.toList m y.1=false/\Oper.apart ops y.2.1 x.2.1=true/\Prim.meet C.ro y.2.2 x.2.2=false/\IW y.2.1 y.2.2 x.2.1 x.2.2=true)->
  ∃s1,IL P C ops.toList m x.1 x.2.1 s=some (x.2.2,s1)/\R8 P C ops.toList m (pre++post) s1 O
 |[],s,J,h,_=>by
  obtain⟨i,o,p⟩:=x;exact h
 |(j,U,V)::pre,s,J,h,S=>by
  obtain⟨X,G,Y⟩:=h;obtain⟨T,I,q1,q2,q3⟩:=S (j,U,V) (by simp);have a0:=G;unfold IL at G;rw[aa (by dsimp only at I;rw[I];simp)]at G;obtain⟨s2,M,h4⟩:=Qtv E pre X (Z6j J G) Y λy N=>S y (by simp[N]);unfold IL at M;rw[aa (by rw[T];simp)]at M;obtain⟨s1,h5,h6⟩:=Z1u E J G M q1 q2 q3;refine⟨s1,by unfold IL;rw[aa (by rw[T];simp)];exact h5,s2,?_,h4⟩;unfold IL;rw[aa (by dsimp only at I;rw[I];simp)];exact h6
inductive Before (ops : List Oper) : Nat -> Nat -> Prop where
 |one {i:Nat} {o:Oper} {e:Edge} (h:ops[i]? =some o) (he:e∈o.after.toList) (hb:Region.binds .any e=true):Before ops i e.on
 |more {i j:Nat} {o:Oper} {e:Edge} (h:ops[i]? =some o) (he:e∈o.after.toList) (hb:Region.binds .any e=true) (h':Before ops e.on j):Before ops i j
theorem Qk4 {m:List Nat} {j:Nat}:∀(l:List Edge) (acc:Nat),Nat.testBit (S6 m l acc) j=true->Nat.testBit acc j=true\/∃e∈l,Region.binds .any e=true/\(e.on=j\/Nat.testBit (nth 0 m e.on) j=true)
 |[],acc,h=> .inl h
 |e::l,acc,h=>by
  simp only[S6]at h;cases hb:Region.binds .any e<;>rw[hb]at h
  ·rcases Qk4 l _ h with h|⟨E,he,h'⟩
   ·exact .inl h
   ·exact .inr ⟨E,by simp[he],h'⟩
  ·rcases Qk4 l _ h with h|⟨E,he,h'⟩
   ·simp only[aj]at h;have:Nat.testBit (acc|||(2^e.on|||nth 0 m e.on)) j=true:=h;rw[Nat.testBit_or,Nat.testBit_or]at this;rw[jp,jp]at this;rcases this with h|h|h
    ·exact .inl h
    ·refine .inr ⟨e,by simp,hb, .inl ?_⟩;rw[Nat.testBit_two_pow]at h;simpa using h
    ·exact .inr ⟨e,by simp,hb, .inr h⟩
   ·exact .inr ⟨E,by simp[he],h'⟩
theorem Zqc {α:Type} (n:Nat) (K:Nat->α):Q9g n K=K n:=by cases n<;>rfl
theorem Qxh {α:Type} (d:α):∀(l E:List α) (i:Nat),i<l.length->nth d (l++E) i=nth d l i
 |x::l,E,0,_=>rfl
 |x::l,E,i+1,h=>Qxh d l E i (by simpa using h)
theorem Qum {α:Type} (d x:α):∀(l:List α),nth d (l++[x]) l.length=x
 |[]=>rfl
 |y::l=>Qum d x l
theorem Qmj {α:Type} (d:α):∀(l:List α) (i:Nat),l.length<=i->nth d l i=d
 |[],_,_=>rfl
 |x::l,0,h=>by simp at h
 |x::l,i+1,h=>Qmj d l i (by simpa using h)
theorem Q1w {ops:List Oper} {K:List Nat->Option R} {r:R}:∀(l pre:List Oper) (m:List Nat),ops=pre++l->m.length=pre.length->(∀i j,i<m.length->Nat.testBit (nth 0 m i) j=true->Before ops i j)->T3 l m K=some r->
  ∃T,K T=some r/\∀i j,K4 T i j=true->Before ops i j
 |[],pre,m,he,N,M,h=>⟨m,h,λi j E=>by
   by_cases hi:i<m.length
   ·exact M i j hi E
   ·unfold K4 at E;rw[Qmj 0 m i (by omega)]at E;simp at E⟩
 |o::l,pre,m,he,N,M,h=>by
  simp only[T3,Zqc,Bj]at h;refine Q1w l (pre++[o]) _ (by simp[he]) (by simp[N]) (λi j hi E=> ?_) h;by_cases G:i<m.length
  ·rw[Qxh 0 m _ i G]at E;exact M i j G E
  ·have O:i=m.length:=by simp at hi;omega
   subst O;rw[Qum]at E;have I:ops[m.length]? =some o:=by rw[he,N];simp
   rcases Qk4 _ _ E with h0|⟨e,J,hb,h0⟩
   ·simp at h0
   ·rcases h0 with h0|h0
    ·rw[<-h0];exact .one I J hb
    ·by_cases S:e.on<m.length
     ·exact .more I J hb (M _ _ S h0)
     ·rw[Qmj 0 m _ (by omega)]at h0;simp at h0
end
open Go.RowKit
section
variable {P:Program} {C:Cfg} {w:World} {R:Type} {Z:Base}
theorem Zx8 (N:Ai P C) {ops:List Oper} {o:Oper} {s O:St} {p:Option Prim} (h:CF (P:=P) (C:=C) ops o s=some (p,O)) (hs:Prim.simple p=true) (K:Option Prim->St->Option R):
  F7 P C false ops o s K=K p O:=by
 have J:∀s1:St,s1=s->Cf ops o s.tmps=some true->(opK P C (A8 s1.tmps) o.dst o.op λp=>Bh C o.dst (p.dr false) s1 λv O=>put O o.dst v (K (some (p.dr false))))=K p O:=by
  rintro s1 rfl M;unfold CF at h;rw[M]at h;dsimp only at h;rw[Q0];cases hp:opK P C (A8 s1.tmps) o.dst o.op some with
  |none=>rw[hp]at h;simp at h
  |some q=>
   rw[hp]at h;simp only[ag]at h;cases X:Fq (C:=C) o.dst (q.dr false) s1 with
   |none=>rw[X]at h;simp at h
   |some z=>
    rw[X]at h;simp at h;obtain⟨rfl,rfl⟩:=h;simp only[ag];rw[Q62 N hs,X];simp only[ag,MJ]
 have I:∀s1:St,s1=s->Cf ops o s.tmps=some false->put s1 o.dst (.tup []) (K none)=K p O:=by
  rintro s1 rfl M;unfold CF at h;rw[M]at h;simp at h;obtain⟨rfl,rfl⟩:=h;rw[MJ]
 unfold F7 Qe;cases S:o.guard with
 |none=>exact J s rfl (by simp[Cf,S])
 |some jw=>
  obtain⟨j,want⟩:=jw;dsimp only;cases T:ops[j]? with
  |none=>unfold CF Cf at h;rw[S]at h;dsimp only at h;rw[T]at h;simp at h
  |some oj=>
   dsimp only;cases V:oj.dst with
   |none=>unfold CF Cf at h;rw[S]at h;dsimp only at h;rw[T]at h;dsimp only at h;rw[V]at h;simp at h
   |some t=>
    dsimp only;split
    ·rename_i g G;have M:Cf ops o s.tmps=some (g==want):=by simp only[Cf,S,T,V,G]
     have E:∀b,g=b->(⟨setL s.tmps t (.c (.bool b)),s.aB,s.aC⟩:St)=s:=by
      rintro b rfl;rw[Q64 G (by simp)]
     cases g
     ·simp only[ao];rw[FU];dsimp only;cases want
      ·exact J _ (E false rfl) (by rw[M];rfl)
      ·exact I _ (E false rfl) (by rw[M];rfl)
     ·simp only[aj];rw[FU];dsimp only;cases want
      ·exact I _ (E true rfl) (by rw[M];rfl)
      ·exact J _ (E true rfl) (by rw[M];rfl)
    ·rename_i G;exact I _ rfl (by simp only[Cf,S,T,V,G])
    ·rename_i Y U;have M:Cf ops o s.tmps=none:=by
      unfold Cf;rw[S];dsimp only;rw[T];dsimp only;rw[V];dsimp only;split
      ·rename_i g G;exact(Y g G).elim
      ·rename_i G;exact(U G).elim
      ·rfl
     unfold CF at h;rw[M]at h;simp at h
theorem Rel.wf {s:St} {tmps:Array Value} (h:Rel Z s tmps w):WFst s:=by
 obtain⟨ρ,h⟩:=h;exact⟨h.wt,h.wb⟩
structure Left (P : Program) (C : Cfg) (ops : Array Oper) (m : List Nat) (listed : Array Bool) (rem : List (Nat × Oper × Option Prim)) : Prop where
 sz:listed.size=ops.size
 op:∀x∈rem,ops[x.1]? =some x.2.1/\(DJ ops.toList m x.1||Prim.simple x.2.2)=true/\∀e∈x.2.1.after,Region.binds .any e=true->e.on<x.1
 out:∀i,i<ops.size->(listed.getD i true=false↔∃x∈rem,x.1=i)
 ord:(rem.map (·.1)).Pairwise (· < ·)
 cl:∀j o,ops[j]? =some o->listed.getD j false=true->∀e∈o.after,Region.binds .any e=true->listed.getD e.on false=true
 pr:∀pre x post,rem=pre++x::post->∀y∈pre,Before ops.toList x.1 y.1\/(DJ ops.toList m x.1=false/\DJ ops.toList m y.1=false/\Oper.apart ops y.2.1 x.2.1=true/\Prim.meet C.ro y.2.2 x.2.2=false/\IW y.2.1 y.2.2 x.2.1 x.2.2=true)
theorem Q5d (M:Ai P C) (b0:∀t∈C.eqOk,P.stoodInHeld t=false) {ops:Array Oper} {m:List Nat} {Q:Exit->Act->World->Prop} {sf:St} {d0:List Deferred}
  (hq:∀(a:Act) (w:World),Rel Z sf a.tmps w->a.defers=d0->Q .normal a w):
  ∀(fuel:Nat) (listed:Array Bool) (rem:List (Nat×Oper×Option Prim)) (s:St) (a:Act) (w:World),rem.length=fuel->Left P C ops m listed rem->R8 P C ops.toList m rem s sf->WFst s->Rel Z s a.tmps w->a.defers=d0->
  wpAny P .any ops Q fuel listed a w
 |0,listed,rem,s,a,w,hl,J,O,b1,hR,hd=>by
  have hr:rem=[]:=f7 hl;subst hr;have:s=sf:=O;subst this;refine⟨?_,hq a w hR hd⟩;apply List.eq_nil_iff_forall_not_mem.2;intro i hi;obtain⟨h1,o,X,_⟩:=mem_ready.1 hi;obtain⟨x,hx,_⟩:=(J.out i (dv.1 X).1).1 h1;simp at hx
 |fuel+1,listed,rem,s,a,w,hl,J,O,b1,hR,hd=>by
  refine⟨λb2=> ?_,λi hi=> ?_⟩
  ·exfalso;cases rem with
   |nil=>simp at hl
   |cons x rem=>
    obtain⟨h1,_,X⟩:=J.op x (by simp);have Y:x.1<ops.size:=(dv.1 h1).1;have:x.1∈Region.ready .any ops listed:=by
     refine mem_ready.2 ⟨(J.out x.1 Y).2 ⟨x,by simp,rfl⟩,x.2.1,h1,λe he hb=> ?_⟩;have d2:=X e he hb;cases hle:listed.getD e.on false with
     |true=>rfl
     |false=>
      have a3:e.on<listed.size:=by rw[J.sz];omega
      have:listed.getD e.on true=false:=by
       rw[Array.getD,dif_pos a3]at hle⊢;exact hle
      obtain⟨y,G,d3⟩:=(J.out e.on (by omega)).1 this;have I:=J.ord;simp only[bt,List.pairwise_cons]at I;simp only[av]at G;rcases G with rfl|G
      ·omega
      ·have:=I.1 y.1 (List.mem_map_of_mem G);omega
    rw[b2]at this;simp at this
  ·obtain⟨h1,o,X,h3⟩:=mem_ready.1 hi;have a1:i<ops.size:=(dv.1 X).1;obtain⟨x,hx,c1⟩:=(J.out i a1).1 h1;subst c1;obtain⟨b3,b4,d4⟩:=J.op x hx;have c2:o=x.2.1:=by rw[X]at b3;simpa using b3
   subst c2;obtain⟨pre,post,E⟩:=List.append_of_mem hx;have b5:∀y∈rem,listed.getD y.1 false=false:=by
    intro y G;have Y:y.1<ops.size:=(dv.1 (J.op y G).1).1;have:=(J.out y.1 Y).2 ⟨y,G,rfl⟩;have a3:y.1<listed.size:=by rw[J.sz];exact Y
    rw[Array.getD,dif_pos a3]at this⊢;exact this
   have a4:∀y∈pre,DJ ops.toList m x.1=false/\DJ ops.toList m y.1=false/\Oper.apart ops y.2.1 x.2.1=true/\Prim.meet C.ro y.2.2 x.2.2=false/\IW y.2.1 y.2.2 x.2.1 x.2.2=true:=by
    intro y G;rcases J.pr pre x post E y G with hr|hr
    ·exfalso;have b6:=b5 y (by rw[E];simp[G]);have b7:∀(i j:Nat),Before ops.toList i j->(∀oi,ops[i]? =some oi->∀e∈oi.after,Region.binds .any e=true->listed.getD e.on false=true)->listed.getD j false=true:=by
      intro i j c3;induction c3 with
      |one ho he hb=>intro a5;exact a5 _ (by simpa using ho) _ (by simpa using he) hb
      |more ho he hb _ ih=>
       intro a5;have c4:=a5 _ (by simpa using ho) _ (by simpa using he) hb;exact ih λoe c5 e2 c6 c7=>J.cl _ oe c5 c4 e2 c6 c7
     have:=b7 x.1 y.1 hr λoi a6 e he hb=>by
      rw[X]at a6;simp at a6;subst a6;exact h3 e he hb
     rw[this]at b6;simp at b6
    ·exact hr
   rw[E]at O;obtain⟨s1,T,a7⟩:=Qtv M pre s b1 O a4;have hex:∃b,F7 P C b ops.toList x.2.1 s (λpo s'=>(some (po,s'):Option (Option Prim×St)))=some (x.2.2,s1):=by
    unfold IL at T;cases hw:DJ ops.toList m x.1
    ·rw[aa (by rw[hw];simp)]at T;rw[hw]at b4;exact⟨false,Zx8 M T (by simpa using b4) _⟩
    ·rw[ab hw]at T;exact⟨true,T⟩
   obtain⟨b,hex⟩:=hex;have a0 := Qwc (Q := Q) (next := wpAny P .any ops Q fuel (listed.setIfInBounds x.1 true)) M b0 hR hex (λpo s' a' w' hK b8 c8 => by
    simp at hK;obtain⟨rfl,rfl⟩:=hK;refine Q5d M b0 hq fuel _ (pre++post) _ a' w' ?_ ?_ a7 b8.wf b8 (c8.trans hd)
    ·rw[E]at hl;simp at hl⊢;omega
    ·have a2:∀y,y∈pre++post->y∈rem:=by
      intro y G;rw[E];simp at G⊢;rcases G with G|G<;>simp[G]
     have c9:∀y∈pre++post,y.1≠x.1:=by
      intro y G;have I:=J.ord;rw[E]at I;simp only[de,bt,List.pairwise_append,List.pairwise_cons]at I;obtain⟨o1,⟨o2,o3⟩,o4⟩:=I;simp at G;rcases G with G|G
      ·have:=o4 y.1 (List.mem_map_of_mem G) x.1 (by simp);omega
      ·have:=o2 y.1 (List.mem_map_of_mem G);omega
     have hg:∀(j:Nat) (d:Bool),(listed.setIfInBounds x.1 true).getD j d=if j=x.1 then true else listed.getD j d:=by
      intro j d;by_cases U:j=x.1
      ·subst U;have:x.1<listed.size:=by rw[J.sz];exact a1
       simp[Array.getD,this]
      ·rw[aa U];exact getD_set_ne d (λe=>U e.symm)
     refine⟨by simpa using J.sz,λy G=>J.op y (a2 y G),λj U=> ?_,?_,?_,?_⟩
     ·rw[hg];constructor
      ·intro hh;split at hh
       ·simp at hh
       ·rename_i a8;obtain⟨y,G,b9⟩:=(J.out j U).1 hh;refine⟨y,?_,b9⟩;rw[E]at G;simp at G⊢;rcases G with G|rfl|G
        ·exact .inl G
        ·exact absurd b9.symm a8
        ·exact .inr G
      ·rintro⟨y,G,rfl⟩;rw[aa (c9 y G)];exact(J.out y.1 U).2 ⟨y,a2 y G,rfl⟩
     ·have I:=J.ord;rw[E]at I;simp only[de,bt,List.pairwise_append,List.pairwise_cons]at I⊢;obtain⟨o1,⟨o2,o3⟩,o4⟩:=I;exact⟨o1,o3,λu hu v hv=>o4 u hu v (by simp[hv])⟩
     ·intro j oj U a9 e he hb;rw[hg]at a9⊢;split
      ·rfl
      ·split at a9
       ·rename_i a8;subst a8;rw[X]at U;simp at U;subst U;exact h3 e he hb
       ·exact J.cl j oj U a9 e he hb
     ·intro c0 z V d1 y G
      have:∃S N,rem=S++z::N/\y∈S:=by
       rcases List.append_eq_append_iff.1 d1 with⟨as,e1,e2⟩|⟨bs,e1,e2⟩
       ·
        refine⟨pre++x::as,V,by rw[E,e2];simp,?_⟩;rw[e1]at G;simp at G⊢;rcases G with G|G
        ·exact .inl G
        ·exact .inr (.inr G)
       ·cases bs with
        |nil=>
         simp at e1 e2;refine⟨pre++[x],V,?_,?_⟩
         ·rw[E,<-e2];simp
         ·rw[e1];simp[G]
        |cons b bs=>
         simp at e2;obtain⟨rfl,e2⟩:=e2;exact⟨c0,bs++x::post,by rw[E,e1];simp,G⟩
      obtain⟨S,N,q1,q2⟩:=this;exact J.pr S z N q1 y q2)
   unfold wpOp;rw[X];dsimp only;split
   ·rename_i hw;rw[ab hw]at a0;exact .inl a0
   ·rename_i hw;rw[aa hw]at a0;exact a0
end
open Go.RowKit
section
variable {P:Program} {C:Cfg} {w:World} {R:Type} {Z:Base}
theorem Z5m {c a:Bool} (h:(bif c then a else false)=true):c=true/\a=true:=by cases c<;>simp at h;exact⟨rfl,h⟩
theorem Q8j {ops:Array Oper} {m:List Nat}:∀(ps E:List (Nat×Oper×Option Prim)) (i:Nat),ps.map (·.1)=List.range' i ps.length->Ku C ops m i E (ps.map (·.2))=true->
  ∀pre x post,ps=pre++x::post->(DJ ops.toList m x.1||Prim.simple x.2.2)=true/\(∀e∈x.2.1.after,Region.binds .any e=true->e.on<x.1)/\
   ∀y∈E++pre,K4 m x.1 y.1=true\/(DJ ops.toList m x.1=false/\DJ ops.toList m y.1=false/\Oper.apart ops y.2.1 x.2.1=true/\Prim.meet C.ro y.2.2 x.2.2=false/\IW y.2.1 y.2.2 x.2.1 x.2.2=true)
 |[],E,i,_,_,pre,x,post,h=>by simp at h
 |(j,o,p)::ps,E,i,G,I,pre,x,post,h=>by
  simp only[bt,bj,List.range'_succ,jn]at G;obtain⟨rfl,G⟩:=G;simp only[bt,Ku]at I;generalize S:((DJ ops.toList m j||Prim.simple p)&&o.after.toList.all (λe=> !(Region.binds .any e)||Nat.blt e.on j)&&Al (λy:Nat×Oper×Option Prim=>K4 m j y.1||(!(DJ ops.toList m j)&& !(DJ ops.toList m y.1)&&(Oper.apart ops y.2.1 o&& !(Prim.meet C.ro y.2.2 p)&&IW y.2.1 y.2.2 o p))) E)=c at I;cases c
  ·simp at I
  ·simp only[aj]at I;simp only[al]at S;obtain⟨⟨T,U⟩,V⟩:=S;cases pre with
   |nil=>
    simp at h;obtain⟨rfl,rfl⟩:=h;refine⟨T,λe he hb=> ?_,λy J=> ?_⟩
    ·have:=List.all_eq_true.1 U e (by simpa using he);rw[hb]at this;simpa using this
    ·simp at J;have:=AD.1 V y J;rw[jp]at this;simp only[al,iw]at this;rcases this with h|⟨⟨X,Y⟩,⟨M,N⟩,O⟩
     ·exact .inl h
     ·exact .inr ⟨X,Y,M,N,O⟩
   |cons q pre=>
    simp at h;obtain⟨rfl,rfl⟩:=h;obtain⟨M,N,O⟩:=Q8j (pre++x::post) (E++[(j,o,p)]) (j+1) G I pre x post rfl;refine⟨M,N,λy J=>O y ?_⟩;simpa using J
theorem Qtg {ops:Array Oper} {m:List Nat}:∀(l:List (Oper×Option Prim)) (E:List (Nat×Oper×Option Prim)) (i:Nat),Ku C ops m i E l=true->∀(j:Nat) (q:Oper×Option Prim),l[j]? =some q->(DJ ops.toList m (i+j)||Prim.simple q.2)=true
 |[],_,_,_,j,q,G=>by simp at G
 |(o,p)::l,E,i,h,j,q,G=>by
  simp only[Ku]at h;obtain⟨I,h⟩:=Z5m h;simp only[al]at I;cases j with
  |zero=>simp at G;subst G;exact I.1.1
  |succ j=>
   rw[show i+(j+1)=i+1+j from by omega];exact Qtg l _ _ h j q (by simpa using G)
theorem Rel.drew {s:St} {tmps:Array Value} (h:Rel Z s tmps w):Rel Z s tmps {w with drawn:=w.drawn+1}:=by
 obtain⟨ρ,h⟩:=h;have E:∀(a:AC) (x:Value),CC ρ w a x->CC ρ {w with drawn:=w.drawn+1} a x:=λa x G=>CC.mono (w:=w) (w':={w with drawn:=w.drawn+1}) (λ_ h=>h) (λ_ _=>rfl) a x (AC.agree_refl rfl rfl rfl a) G;refine⟨ρ,h.tl,λi v hi=>TVR.mono E v _ (h.tv i v hi),h.wt,h.wb,?_,h.bi,?_,h.ri,h.br,h.ib,h.fr.drew,h.fs,h.i0,h.i1,h.k0⟩
 ·intro k b N;obtain⟨arr,I,J,M⟩:=h.bx k b N;exact⟨arr,I,J.mono λa _ x G=>E a x G,M⟩
 ·intro id r O;obtain⟨I,J,S,xs,M,T⟩:=h.ro id r O;exact⟨I,J,S,xs,Nw M (λ_ _=>rfl),RowC.mono (w:=w) (λ_ h=>h) (λ_ _=>rfl) T⟩
theorem Zjp (E:Ai P C) (O:∀t∈C.eqOk,P.stoodInHeld t=false) (S:P.follows .mixedOrders=true) {id:Nat} {ops:Array Oper} {draw:Bool} {s:St} {a:Act} (hR:Rel Z s a.tmps w) {K:St->Option R} {r:R}
  (h:Qac P C ops draw s K=some r) {Q:Exit->Act->World->Prop} (hq:∀(s':St) (T:Act) (w':World),K s'=some r->Rel Z s' T.tmps w'->T.defers=a.defers->Q .normal T w'):
  (Code.region id ops draw).wp P Q a w:=by
 cases draw
 ·exact wp_region_list (Q8s E O _ s a w hR h hq)
 ·simp only[Qac,aj]at h;refine wp_region_any S ?_;obtain⟨m,h,hm⟩:=Q1w (ops:=ops.toList) ops.toList [] [] rfl rfl (λi j hi=>by simp at hi) h;rcases Qa8 E ops.toList 0 s _ r h with⟨ps,sf,U,q2,q3,Y⟩|⟨acc,sf,U,j,q,q2,q3⟩
  ·cases V:Ku C ops m 0 [] (ps.map (·.2))<;>rw[V]at Y
   ·simp at Y
   ·simp only[aj]at Y;have hlen:ps.length=ops.size:=by have:=ii List.length U;simpa using this
    have G:ps.map (·.1)=List.range' 0 ps.length:=by rw[q2];simp[hlen]
    have X:=Q8j ps [] 0 G V;have J:∀(i:Nat) (x:Nat×Oper×Option Prim),ps[i]? =some x->x.1=i/\ops[i]? =some x.2.1:=by
     intro i x M;have N:(ps.map (·.1))[i]? =some x.1:=by simp[M]
     have h2:(ps.map (·.2.1))[i]? =some x.2.1:=by simp[M]
     rw[G,List.getElem?_range']at N;rw[U]at h2
     ·simp at N;exact⟨by omega,by simpa using h2⟩
     ·exact(fx.1 M).1
    refine Q5d E O (m:=m) (sf:=sf) (d0:=a.defers) (λT w' a0 a1=>hq sf T w' Y a0 a1) ops.size _ ps s a _ hlen ?_ q3 hR.wf hR.drew rfl;refine⟨by simp,λx M=> ?_,λi hi=> ?_,?_,?_,?_⟩
    ·obtain⟨pre,post,hs⟩:=List.append_of_mem M;obtain⟨c1,c2,_⟩:=X pre x post hs;obtain⟨i,hi⟩:=List.getElem?_of_mem M;obtain⟨p1,p2⟩:=J i x hi;exact⟨by rw[p1];exact p2,c1,c2⟩
    ·constructor
     ·intro _;have I:i<ps.length:=by omega
      exact⟨ps[i],bn I,(J i ps[i] (ai I)).1⟩
     ·intro _;simp[Array.getD,hi]
    ·rw[G];exact List.pairwise_lt_range'
    ·intro j o hj hl;have I:j<ops.size:=(dv.1 hj).1;simp[Array.getD,I]at hl
    ·intro pre x post hs y hy;rcases(X pre x post hs).2.2 y (by simpa using hy)with N|N
     ·exact .inl (hm _ _ N)
     ·exact .inr N
  ·cases V:Ku C ops m 0 [] acc<;>rw[V]at U
   ·simp at U
   ·have:=Qtg acc [] 0 V j q q2;rw[q3]at this;simp at this
def Ss:Ex->Exit
 | .normal=> .normal
 | .exit id=> .exit id
 | .ret=> .ret
def JK (Z:Base) (K:Ex->St->Option R) (r:R) (d:List Deferred):Exit->Act->World->Prop:=
 λe a w=>∃E s,Ss E=e/\K E s=some r/\Rel Z s a.tmps w/\a.defers=d
theorem Zc8 {step:St->(Ex->St->Option R)->Option R} {body:Code} {K:Ex->St->Option R} {r:R} {d:List Deferred}
  (E:∀(s:St) (a:Act) (w:World) (N:Ex->St->Option R),Rel Z s a.tmps w->a.defers=d->step s N=some r->body.wp P (JK Z N r d) a w):
  ∀(n:Nat) (s:St) (a:Act) (w:World),Rel Z s a.tmps w->a.defers=d->Ql P C step n s K=some r->Code.rounds P body (JK Z K r d) n a w
 |0,s,a,w,O,S,h=>by simp[Ql]at h
 |n+1,s,a,w,O,S,h=>by
  rw[Ql]at h;rw[rounds_succ];refine wp_mono (E s a w _ O S h) ?_;rintro e T w' ⟨U,s2,rfl,J,G,I⟩;cases U with
  |normal=>
   obtain⟨st,V,M⟩:=RZ G J;exact Zc8 E n st T w' M I V
  |exit id=>exact⟨.exit id,s2,rfl,J,G,I⟩
  |ret=>exact⟨.ret,s2,rfl,J,G,I⟩
def InZ (Z:Base):Prop:=∀k b,Z.K0 k=some b->GE k=true
def JM (P:Program) (c:Code) (sk:Sk) (g:Kk):Prop:=
 ∀(Z:Base) (_:InZ Z) (a:Act) (w:World) (vars:List AC) (R:Type) (K:Ex->St->Option R) (r:R),Rel Z (BH sk vars) a.tmps w->g R vars K=some r->c.wp P (JK Z K r a.defers) a w
structure SubOK (P : Program) (C : Cfg) (c : Code) (blk : Nat) : Prop where
 l:∀p∈AV c blk,∀sk g,C.loops p.1=some (sk,g)->JM P (.loop p.2) sk g
 b:∀p∈Bf c,∀sk g,C.blocks p.1=some (sk,g)->JM P (.block p.1 p.2) sk g
 c:∀p∈Bn c blk,∀sk g,C.conds p.1=some (sk,g)->JM P (.cond (.tmp p.1) p.2.2.1 p.2.2.2) sk g
theorem Is:∀(c:Code) (b b':Nat),AV c b=AV c b'
 | .seq x y,b,b'=>by simp only[AV,Is x b b',Is y b b']
 | .cond _ x y,b,b'=>by simp only[AV,Is x b b',Is y b b']
 | .block _ x,b,b'=>by simp only[AV,Is x b b']
 | .loop x,b,b'=>by simp only[AV,Is x b b']
 | .skip,_,_=>rfl
 | .region _ _ _,_,_=>rfl
 | .exit _,_,_=>rfl
 | .ret,_,_=>rfl
 | .rangeFunc _ _ _ _,_,_=>rfl
 | .scope x,b,b'=>by simp only[AV,Is x b b']
 | .label _,_,_=>rfl
 | .goto _,_,_=>rfl
 | .refuse _,_,_=>rfl
theorem I4:∀(c:Code) (b b':Nat),Bn c b=Bn c b'
 | .seq x y,b,b'=>by simp only[Bn,I4 x b b',I4 y b b']
 | .cond c x y,b,b'=>by cases c<;>simp only[Bn,I4 x b b',I4 y b b']
 | .block _ x,b,b'=>by simp only[Bn,I4 x b b']
 | .loop x,b,b'=>by simp only[Bn,I4 x b b']
 | .skip,_,_=>rfl
 | .region _ _ _,_,_=>rfl
 | .exit _,_,_=>rfl
 | .ret,_,_=>rfl
 | .rangeFunc _ _ _ _,_,_=>rfl
 | .scope x,b,b'=>by simp only[Bn,I4 x b b']
 | .label _,_,_=>rfl
 | .goto _,_,_=>rfl
 | .refuse _,_,_=>rfl
theorem SubOK.any {c:Code} (b:Nat) {b':Nat} (h:SubOK P C c b):SubOK P C c b':=
 ⟨λp E=>h.l p (by rw[Is c b b'];exact E),h.b,λp E=>h.c p (by rw[I4 c b b'];exact E)⟩
theorem Qfd {c:Code} {told:Option (Sk×Kk)} {s:St} {a:Act} {K:Ex->St->Option R} {r:R} {d:List Deferred} {run:Option R} (M:InZ Z)
  (N:∀sk g,told=some (sk,g)->JM P c sk g) (G:Rel Z s a.tmps w) (O:a.defers=d) (h:RV told s K run=some r) (E:run=some r->c.wp P (JK Z K r d) a w):c.wp P (JK Z K r d) a w:=by
 unfold RV at h;split at h
 ·exact E h
 ·rename_i sk g;obtain⟨I,J⟩:=Cl h;split at J
  ·rename_i vars S;obtain⟨ρ,G⟩:=G;obtain⟨tm,aB,aC⟩:=s;subst O;exact N sk g rfl Z M a w vars R K r ⟨ρ,G.rebuild M I S⟩ J
  ·simp at J
theorem Zad {ρ:Env} {d:Nat} {a:AC} {x:Value} (h:CC ρ w a x):CC ρ w (a.killP d) x:=by
 cases a with
 |ptr k o=>simp only[AC.killP];cases Nat.beq k d<;>first|exact h|exact h.one
 |bsl k o=>simp only[AC.killP];cases Nat.beq k d<;>first|exact h|exact h.one
 |clo f fs cs=>simp only[AC.killP];cases(Al (K5 d) fs&&Al (K5 d) cs)<;>first|exact h|exact h.one
 |_=>exact h
theorem VD {ρ:Env} {f:AC->AC} (hf:∀(a:AC) (x:Value),CC ρ w a x->CC ρ w (f a) x):∀{l:List AC} {xs:List Value},CL (CC ρ w) l xs->CL (CC ρ w) (l.map f) xs
 |[],[],_=>trivial
 |_::_,_::_,h=>⟨hf _ _ h.1,VD hf h.2⟩
 |[],_::_,h=>h.elim
 |_::_,[],h=>h.elim
theorem Z9y {ρ:Env} {f:AC->AC} (hf:∀(a:AC) (x:Value),CC ρ w a x->CC ρ w (f a) x) {v:TV} {x:Value} (h:TVR ρ w v x):TVR ρ w (v.mapC f) x:=by
 cases v with
 |dead=>trivial
 |tup ps=>
  obtain⟨G,rfl,E⟩:=h;refine⟨G,rfl,?_⟩;generalize G.toList=l at E;induction ps generalizing l with
  |nil=>cases l<;>first|exact E|exact E.elim
  |cons p ps M=>
   cases l with
   |nil=>exact E.elim
   |cons y l=>
    obtain⟨g,cs⟩:=p;refine⟨?_,M l E.2⟩;have:=E.1;cases g
    ·obtain⟨a,I,J⟩:=this;subst I;exact⟨_,rfl,hf _ _ J⟩
    ·obtain⟨N,I,O⟩:=this;exact⟨N,I,VD hf O⟩
 |v g cs=>
  cases g
  ·obtain⟨a,rfl,J⟩:=h;exact⟨_,rfl,hf _ _ J⟩
  ·obtain⟨G,rfl,E⟩:=h;exact⟨G,rfl,VD hf E⟩
theorem RelE.forget {tm:List TV} {aB:List (Nat×Box)} {aC:List (Nat×Row)} {ρ:Env} {tmps:Array Value} (h:RelE Z tm aB aC ρ tmps w) {d:Nat} (hd:∀b,Z.K0 d≠some b):
  RelE Z (tm.map (TV.mapC (AC.killP d))) ((del d aB).map λp=>(p.1,(⟨p.2.ty,p.2.cells.map (AC.killP d)⟩:Box))) aC ρ tmps w:=by
 have S:∀k,Ac ((del d aB).map λp=>(p.1,(⟨p.2.ty,p.2.cells.map (AC.killP d)⟩:Box))) k=(Ac (del d aB) k).map λb=>⟨b.ty,b.cells.map (AC.killP d)⟩:=λk=>GO (λb:Box=>(⟨b.ty,b.cells.map (AC.killP d)⟩:Box)) _ k;have G:∀(k:Nat) (b:Box),Ac ((del d aB).map λp=>(p.1,(⟨p.2.ty,p.2.cells.map (AC.killP d)⟩:Box))) k=some b->k≠d/\∃b',Ac aB k=some b'/\b=⟨b'.ty,b'.cells.map (AC.killP d)⟩:=by
  intro k b E;rw[S]at E;simp only[cd]at E;obtain⟨b',V,rfl⟩:=E;obtain⟨X,Y⟩:=Mr V;exact⟨X,b',Y,rfl⟩
 have J:∀(k:Nat) (b:Box),k≠d->Ac aB k=some b->∃b',Ac ((del d aB).map λp=>(p.1,(⟨p.2.ty,p.2.cells.map (AC.killP d)⟩:Box))) k=some b':=λk b a0 E=>⟨_,by rw[S,Mc _ _ _ a0,E];rfl⟩;have T:∀a,K5 d a=true->AC.wfP aB a->AC.wfP ((del d aB).map λp=>(p.1,(⟨p.2.ty,p.2.cells.map (AC.killP d)⟩:Box))) a:=by
  intro a hn I;cases a<;>try exact trivial
  rename_i k o;obtain⟨b,hb⟩:=I;simp only[K5,iw]at hn;exact J k b (Hk hn) hb
 have N:∀a,AC.wf aB aC a->AC.wf ((del d aB).map λp=>(p.1,(⟨p.2.ty,p.2.cells.map (AC.killP d)⟩:Box))) aC (a.killP d):=by
  intro a I;cases a with
  |ptr k o=>
   simp only[AC.killP];cases E:Nat.beq k d
   ·obtain⟨b,hb⟩:=I;exact J k b (Hk E) hb
   ·exact trivial
  |bsl k o=>
   simp only[AC.killP];cases E:Nat.beq k d
   ·obtain⟨b,hb⟩:=I;exact J k b (Hk E) hb
   ·exact trivial
  |clo f fs cs=>
   simp only[AC.killP];cases M:(Al (K5 d) fs&&Al (K5 d) cs)
   ·exact trivial
   ·simp only[al]at M;exact⟨λa h'=>T a (AD.1 M.1 a h') (I.1 a h'),λa h'=>T a (AD.1 M.2 a h') (I.2 a h')⟩
  |_=>exact I
 refine⟨by simpa using h.tl,?_,?_,?_,?_,?_,h.ro,h.ri,?_,?_,h.fr,h.fs,h.i0,h.i1,?_⟩
 ·intro i v hi;simp only[fo,cd]at hi;obtain⟨u,hu,rfl⟩:=hi;exact Z9y (λ_ _=>Zad) (h.tv i u hu)
 ·intro v hv;simp only[ba]at hv;obtain⟨u,hu,rfl⟩:=hv;have:=h.wt u hu;cases u with
  |dead=>trivial
  |v g cs=>
   intro a I;simp only[ba]at I;obtain⟨c,M,rfl⟩:=I;exact N c (this c M)
  |tup ps=>
   intro p hp a I;simp only[ba]at hp;obtain⟨q,hq,rfl⟩:=hp;simp only[ba]at I;obtain⟨c,M,rfl⟩:=I;exact N c (this q hq c M)
 ·intro k b E a I;obtain⟨_,b',O,rfl⟩:=G k b E;simp only[ba]at I;obtain⟨c,M,rfl⟩:=I;exact N c (h.wb k b' O c M)
 ·intro k b E;obtain⟨_,b',O,rfl⟩:=G k b E;obtain⟨arr,V,X,Y⟩:=h.bx k b' O;exact⟨arr,V,VD (λ_ _=>Zad) X,Y⟩
 ·intro k k' b b' E a1;obtain⟨_,_,U,_⟩:=G k b E;obtain⟨_,_,p2,_⟩:=G k' b' a1;exact h.bi k k' _ _ U p2
 ·intro k b j q E hq;obtain⟨_,_,U,_⟩:=G k b E;exact h.br k _ j q U hq
 ·intro b hb;obtain⟨q1,q2,q3⟩:=h.ib b hb;exact⟨q1,λk bo E=>by obtain⟨_,_,p,_⟩:=G k bo E;exact q2 k _ p,q3⟩
 ·intro k b E;obtain⟨U,bo,p2⟩:=h.k0 k b E;exact⟨U,J k bo (by rintro rfl;exact hd b E) p2⟩
theorem Qdf (G:InZ Z) {tmps:Array Value} {K:St->Option R} {r:R}:∀(l:List Nat) (s:St),Rel Z s tmps w->So l s K=some r->∃J,K J=some r/\Rel Z J tmps w
 |[],s,E,h=>⟨s,h,E⟩
 |d::l,⟨tm,aB,aC⟩,E,h=>by
  simp only[So]at h;split at h
  ·exact Qdf G l _ E h
  ·cases I:GE d<;>rw[I]at h
   ·simp only[ao,Bj]at h;obtain⟨ρ,E⟩:=E;exact Qdf G l _ ⟨ρ,E.forget (d:=d) λb hb=>by rw[G d b hb]at I;cases I⟩ h
   ·simp at h
theorem Hj (E:Ai P C) (T:∀t∈C.eqOk,P.stoodInHeld t=false) (M:P.follows .mixedOrders=true) (Y:InZ Z) {r:R} {d:List Deferred}:
  ∀(c:Code) (L blk:Nat) (s:St) (a:Act) (w:World) (K:Ex->St->Option R),SubOK P C c blk->Rel Z s a.tmps w->a.defers=d->DK P C L c blk s K=some r->c.wp P (JK Z K r d) a w
 | .skip,L,blk,s,a,w,K,I,N,O,h=>wp_skip ⟨.normal,s,rfl,h,N,O⟩
 | .region id ops draw,L,blk,s,a,w,K,I,N,O,h=>by
  rw[DK]at h;obtain⟨s0,h,N⟩:=Qdf Y _ s N h;exact Zjp E T M N h λV a' w' U J S=>⟨.normal,V,rfl,U,J,S.trans O⟩
 | .seq x y,L,blk,s,a,w,K,I,N,O,h=>by
  rw[DK]at h;refine wp_seq (wp_mono (Hj E T M Y x L blk s a w _ ⟨λp G=>I.l p (by simp[AV,G]),λp G=>I.b p (by simp[Bf,G]),λp G=>I.c p (by simp[Bn,G])⟩ N O h) ?_);rintro e a' w' ⟨ae,V,rfl,U,J,S⟩;cases ae with
  |normal=>exact Hj E T M Y y L blk V a' w' K ⟨λp G=>I.l p (by simp[AV,G]),λp G=>I.b p (by simp[Bf,G]),λp G=>I.c p (by simp[Bn,G])⟩ J S U
  |exit id=>exact⟨.exit id,V,rfl,U,J,S⟩
  |ret=>exact⟨.ret,V,rfl,U,J,S⟩
 | .cond c x y,L,blk,s,a,w,K,I,N,O,h=>by
  have hx:SubOK P C x blk:=⟨λp G=>I.l p (by simp[AV,G]),λp G=>I.b p (by simp[Bf,G]),λp G=>I.c p (by cases c<;>simp[Bn,G])⟩;have hy:SubOK P C y blk:=⟨λp G=>I.l p (by simp[AV,G]),λp G=>I.b p (by simp[Bf,G]),λp G=>I.c p (by cases c<;>simp[Bn,G])⟩;rw[DK]at h;refine Qfd (c:= .cond c x y) Y ?_ N O h λX=> ?_
  ·intro sk g ht;unfold Q54 at ht;split at ht
   ·rename_i t;exact I.c (t,0,x,y) (by simp[Bn]) sk g ht
   ·simp at ht
  ·split at X
   ·rename_i g hg;have hc:a.eval c= .bool g:=by
     obtain⟨ρ,a0⟩:=N;have:=Q53 a0 c;rw[hg]at this;exact this.bool
    refine wp_cond hc ?_;split at X
    ·rename_i t;have a1:∀b,g=b->Rel Z ⟨setL s.tmps t (.c (.bool b)),s.aB,s.aC⟩ a.tmps w:=by
      rintro b rfl;obtain⟨ρ,a0⟩:=N;exact⟨ρ,a0.learn t (by have e:a.tmps.getD t undef= .bool g:=hc;rw[e];exact TVR.mkBool _) (Jw _)⟩
     cases g
     ·simp only[ao]at X;rw[FU]at X;exact Hj E T M Y y L blk _ a w K hy (a1 false rfl) O X
     ·simp only[aj]at X;rw[FU]at X;exact Hj E T M Y x L blk _ a w K hx (a1 true rfl) O X
    ·cases g
     ·exact Hj E T M Y y L blk s a w K hy N O X
     ·exact Hj E T M Y x L blk s a w K hx N O X
   ·simp at X
 | .block id body,L,blk,s,a,w,K,I,N,O,h=>by
  have hb:SubOK P C body id:=SubOK.any blk ⟨λp G=>I.l p (by simp[AV,G]),λp G=>I.b p (by simp[Bf,G]),λp G=>I.c p (by simp[Bn,G])⟩;rw[DK]at h;refine Qfd (c:= .block id body) Y (I.b (id,body) (by simp[Bf])) N O h λX=> ?_;refine wp_block (wp_mono (Hj E T M Y body L id s a w _ hb N O X) ?_);rintro e a' w' ⟨ae,V,rfl,U,J,S⟩;cases ae with
  |normal=>exact⟨.normal,V,rfl,U,J,S⟩
  |exit i=>
   simp only[Ss,Exit.inBlock];dsimp only at U;cases hb:Nat.beq i id<;>rw[hb]at U
   ·have:i≠id:=λe=>by rw[e]at hb;simp at hb
    rw[aa this];exact⟨.exit i,V,rfl,U,J,S⟩
   ·rw[ab (ac hb)];exact⟨.normal,V,rfl,U,J,S⟩
  |ret=>exact⟨.ret,V,rfl,U,J,S⟩
 | .loop body,L,blk,s,a,w,K,I,N,O,h=>by
  rw[DK]at h;obtain⟨V,h',J⟩:=Td _ s a.tmps N _ r h;obtain⟨s1,h1,a2⟩:=RZ J h';have hb:SubOK P C body blk:=⟨λp G=>I.l p (by simp[AV,G]),λp G=>I.b p (by simp[Bf,G]),λp G=>I.c p (by simp[Bn,G])⟩;refine Qfd (c:= .loop body) Y (I.l (VL body,body) (by simp[AV])) a2 O h1 λX=> ?_;exact wp_loop_rounds L (Zc8 (λs a w K' N O h=>Hj E T M Y body L blk s a w K' hb N O h) L s1 a w a2 O X)
 | .exit id,L,blk,s,a,w,K,I,N,O,h=>wp_exit ⟨.exit id,s,rfl,h,N,O⟩
 | .ret,L,blk,s,a,w,K,I,N,O,h=>wp_ret ⟨.ret,s,rfl,h,N,O⟩
 | .rangeFunc f ps a3 body,L,blk,s,a,w,K,I,N,O,h=>by simp[DK]at h
 | .scope b,L,blk,s,a,w,K,I,N,O,h=>by
  rw[DK]at h;refine wp_scope_straight (wp_mono (Hj E T M Y b L blk s a w K ⟨λp G=>I.l p (by simp[AV,G]),λp G=>I.b p (by simp[Bf,G]),λp G=>I.c p (by simp[Bn,G])⟩ N O h) ?_);rintro e a' w' ⟨ae,V,rfl,U,J,S⟩;cases ae with
  |normal=>exact⟨.normal,V,rfl,U,J,S⟩
  |exit i=>exact⟨.exit i,V,rfl,U,J,S⟩
  |ret=>exact⟨.ret,V,rfl,U,J,S⟩
 | .label l,L,blk,s,a,w,K,I,N,O,h=>by
  rw[DK]at h;exact wp_label ⟨.normal,s,rfl,h,N,O⟩
 | .goto l,L,blk,s,a,w,K,I,N,O,h=>by simp[DK]at h
 | .refuse a4,L,blk,s,a,w,K,I,N,O,h=>by simp[DK]at h
theorem Z6z {e E:Ex} (h:VZ e E=true):e=E:=by
 cases e<;>cases E<;>simp only[VZ]at h<;>first|rfl|(simp at h;done)|(rw[ac h])
theorem Ql3 {s:St} {I:Ex} {tmps:Array Value} (M:InZ Z) (G:Rel Z s tmps w):∀{E:List (Ex×Sk)} {i n:Nat} {o:List AC},Hl E i I s=some (n,o)->
  i<=n/\∃sk,(∀(R:Type) (K:Ex->St->Option R),P6 o K E i n=K I (BH sk o))/\Rel Z (BH sk o) tmps w
 |[],i,n,o,h=>by simp[Hl]at h
 |(e,sk)::l,i,n,o,h=>by
  simp only[Hl]at h;cases hb:(VZ e I&&sk.okB)<;>rw[hb]at h
  ·simp only[ao]at h;obtain⟨T,J,N,O⟩:=Ql3 M G h;refine⟨by omega,J,λR K=> ?_,O⟩;simp only[P6];rw[KC (by omega)];exact N R K
  ·simp only[aj]at h;simp only[al]at hb;split at h
   ·rename_i vars S;simp at h;obtain⟨rfl,rfl⟩:=h;refine⟨db _,sk,λR K=> ?_,?_⟩
    ·simp only[P6,ju,aj];rw[Z6z hb.1]
    ·obtain⟨ρ,G⟩:=G;obtain⟨tm,aB,aC⟩:=s;exact⟨ρ,G.rebuild M hb.2 S⟩
   ·simp at h
theorem Zwk (I:Ai P C) (Y:∀t∈C.eqOk,P.stoodInHeld t=false) (O:P.follows .mixedOrders=true) {L blk:Nat} {body:Code} {sk:Sk} {E:List (Ex×Sk)} {m:List AC->Option (Nat×List AC)}
  (a0:sk.okB=true) (S:SubOK P C body blk) (hm:∀vars o,m vars=some o->∃n,C8 (A5 P C L blk body sk E) n vars=some o):JM P (.loop body) sk (gOf E m):=by
 intro Z hZ a w vars R K r hR h;simp only[gOf,dl]at h;obtain⟨⟨t,o⟩,h1,h2⟩:=h;obtain⟨n,hn⟩:=hm vars _ h1;have key:∀(n:Nat) (vars:List AC) (M:Act) (w':World),Rel Z (BH sk vars) M.tmps w'->M.defers=a.defers->C8 (A5 P C L blk body sk E) n vars=some (t,o)->Code.rounds P body (JK Z K r a.defers) n M w':=by
  intro n;induction n with
  |zero=>intro vars M w' _ _ h;simp[C8]at h
  |succ n ih=>
   intro vars M w' a1 a3 h;simp only[C8,dl]at h;obtain⟨⟨t',o'⟩,q1,N⟩:=h;rw[rounds_succ];refine wp_mono (Hj I Y O hZ body L blk _ M w' _ S a1 a3 q1) ?_;rintro e a2 w2 ⟨ae,s',rfl,hK,T,U⟩;have G:∀V:Ex,Hl E 1 V s'=some (t',o')->JK Z K r a.defers (Ss V) a2 w2:=by
    intro V hx;obtain⟨p1,a4,p2,p3⟩:=Ql3 hZ T hx;have ht:t'≠0:=by omega
    dsimp only at N;rw[aa ht]at N;simp at N;obtain⟨rfl,rfl⟩:=N;rw[p2 R K]at h2;exact⟨V,_,rfl,h2,p3,U⟩
   cases ae with
   |normal=>
    obtain⟨s3,X,J⟩:=RZ T hK;split at X
    ·rename_i vars' hv;simp at X;obtain⟨rfl,rfl⟩:=X;simp only[dz]at N;obtain⟨ρ,J⟩:=J;obtain⟨tm,aB,aC⟩:=s3;exact ih _ a2 w2 ⟨ρ,J.rebuild hZ a0 hv⟩ U N
    ·simp at X
   |exit i=>exact G _ hK
   |ret=>exact G _ hK
 exact wp_loop_rounds n (key n vars a w hR rfl hn)
theorem Z15 (I:Ai P C) (S:∀t∈C.eqOk,P.stoodInHeld t=false) (M:P.follows .mixedOrders=true) {L id:Nat} {body:Code} {sk:Sk} {G:List (Ex×Sk)} {m:List AC->Option (Nat×List AC)}
  (N:SubOK P C body id) (Y:∀vars o,m vars=some o->Q65 P C L id body sk G vars=some o):JM P (.block id body) sk (gOf G m):=by
 intro Z V a w vars R K r hR h;simp only[gOf,dl]at h;obtain⟨⟨t,o⟩,h1,X⟩:=h;have hb:=Y vars _ h1;refine wp_block (wp_mono (Hj I S M V body L id _ a w _ N hR rfl hb) ?_);rintro e a' w' ⟨ae,s',rfl,J,T,U⟩;have E:∀O:Ex,Hl G 1 O s'=some (t,o)->JK Z K r a.defers (Ss O) a' w':=by
  intro O hx;obtain⟨p1,a0,p2,p3⟩:=Ql3 V T hx;rw[p2 R K]at X;exact⟨O,_,rfl,X,p3,U⟩
 cases ae with
 |normal=>exact E .normal J
 |exit i=>
  simp only[Ss,Exit.inBlock];dsimp only at J;cases hb:Nat.beq i id<;>rw[hb]at J
  ·have:i≠id:=λe=>by rw[e]at hb;simp at hb
   rw[aa this];exact E (.exit i) J
  ·rw[ab (ac hb)];exact E .normal J
 |ret=>exact E .ret J
end
open Go.RowKit
section
variable {P:Program} {C:Cfg} {w:World} {R:Type} {Z:Base}
theorem RelE.slots {tm G:List TV} {aB:List (Nat×Box)} {aC:List (Nat×Row)} {ρ:Env} {tmps E:Array Value} (h:RelE Z tm aB aC ρ tmps w) (I:G.length=E.size)
  (J:∀(i:Nat) (v:TV),G[i]? =some v->TVR ρ w v (E.getD i undef)) (M:∀v∈G,TV.wf aB aC v):RelE Z G aB aC ρ E w:=
 ⟨I,J,M,h.wb,h.bx,h.bi,h.ro,h.ri,h.br,h.ib,h.fr,h.fs,h.i0,h.i1,h.k0⟩
theorem Q5o {s:St} {a:Act} {ρ:Env} (M:RelE Z s.tmps s.aB s.aC ρ a.tmps w):∀(l:List ResultVar) (ps:List (Bool×List AC)),LC P s l=some ps->
  ∃ xs : List Value, (l.mapM fun
   | .tmp t=>pure (a.tmps.getD t undef)
   | .cell b t=>do loadVar t (<-asAddr (a.tmps.getD b undef)):Sem (List Value)).run P w= .ok xs w/\TP ρ w ps xs/\∀p∈ps,∀c∈p.2,AC.wf s.aB s.aC c
 |[],ps,h=>by simp[LC]at h;subst h;exact⟨[],rfl,trivial,by simp⟩
 |rv::l,ps,h=>by
  simp only[LC]at h;split at h
  ·rename_i g cs E;split at h
   ·rename_i U V;simp at h;subst h;obtain⟨xs,h1,h2,h3⟩:=Q5o M l U V;have key : ∃ x, ((match rv with
      | .tmp t=>pure (a.tmps.getD t undef)
      | .cell b t=>do loadVar t (<-asAddr (a.tmps.getD b undef)):Sem Value)).run P w= .ok x w/\TVR ρ w (.v g cs) x/\TV.wf s.aB s.aC (.v g cs):=by
     cases rv with
     |tmp t=>
      simp only[Qoc]at E;split at E
      ·rename_i g' N O;simp at E;obtain⟨rfl,rfl⟩:=E;have X:t<s.tmps.length:=by
        rcases ke t s.tmps.length with I|J
        ·exact I
        ·rw[B7,List.getD,dm J]at O;simp at O
       have G:s.tmps[t]? =some (.v g' N):=by
        rw[B7,List.getD]at O;rw[ai X]at O⊢;simpa using O
       exact⟨_,by simp,M.tv t _ G,M.wt _ (cq G)⟩
      ·simp at E
     |cell b t=>
      simp only[Qoc]at E;split at E
      ·rename_i key off g' sz hb hg hs;have Y:b<s.tmps.length:=by
        rcases ke b s.tmps.length with I|J
        ·exact I
        ·rw[B7,List.getD,dm J]at hb;simp at hb
       have G:s.tmps[b]? =some (.c (.ptr key off)):=by
        rw[B7,List.getD]at hb;rw[ai Y]at hb⊢;simpa using hb
       have hc:=(M.tv b _ G).c;simp only[CC]at hc;split at E
       ·rename_i bo S;obtain⟨arr,q1,q2,q3⟩:=M.bx key bo S;obtain ⟨x, q4, q5⟩ := V2 (b := ρ.bx key) (o := 0) hg hs E q2 (λj y hj => by
         simp only[d9];rw[cell_of_row w _ j arr bo.ty (0,0) q1];simpa using hj)
        rw[d9]at q4;exact⟨x,by simp[hc,asAddr,q4],q5,RM E (M.wb key bo S)⟩
       ·simp at E
      ·simp at E
    obtain⟨x,k1,k2,k3⟩:=key;refine⟨x::xs,?_,?_,?_⟩
    ·rw[List.mapM_cons];simp only[Sem.run_bind,Sem.run_pure];rw[k1];simp only[dh];rw[h1];rfl
    ·refine⟨?_,h2⟩;cases g<;>exact k2
    ·intro p T;simp only[av]at T;rcases T with rfl|T
     ·exact k3
     ·exact h3 p T
   ·simp at h
  ·simp at h
theorem Qz:∀(ks:List Kd) (cs:List AC),(Em ks cs).length=cs.length
 |[],[]=>rfl
 |[],_::_=>rfl
 | .sl _::_,[]=>rfl
 | .int _::_,[]=>rfl
 | .bool::_,[]=>rfl
 | .raw::_,[]=>rfl
 | .int _::l,_::cs=>by simp[Em,Qz l cs]
 | .bool::l,_::cs=>by simp[Em,Qz l cs]
 | .raw::l,_::cs=>by simp[Em,Qz l cs]
 | .sl _::l,a::cs=>by cases a<;>simp[Em,Qz l cs]
theorem Qw7 {ρ:Env}:∀(E:List TypeId) (ps:List (Bool×List AC)) (xs:List Value),TP ρ w ps xs->TP ρ w (H2 P E ps) xs
 |[],ps,xs,h=>by simpa [H2]using h
 |_::_,[],xs,h=>by simpa [H2]using h
 |t::E,(g,cs)::ps,[],h=>h.elim
 |t::E,(g,cs)::ps,x::xs,h=>by
  refine⟨?_,Qw7 E ps xs h.2⟩;have G:=h.1;cases T:Gx P 8 t with
  |none=>exact G
  |some ks=>
   cases g
   ·obtain⟨a,rfl,J⟩:=G;have:=Ll ks [a] [x] ⟨J,trivial⟩;have I:=Qz ks [a];generalize M:Em ks [a]=l at this I;cases l with
    |nil=>simp at I
    |cons b l=>
     cases l with
     |nil=>exact⟨b,M,this.1⟩
     |cons=>simp at I
   ·obtain⟨N,O,S⟩:=G;exact⟨N,O,Ll ks cs _ S⟩
theorem Q76 {aB:List (Nat×Box)} {aC:List (Nat×Row)}:∀(G:List TypeId) (ps:List (Bool×List AC)),(∀p∈ps,∀c∈p.2,AC.wf aB aC c)->∀p∈H2 P G ps,∀c∈p.2,AC.wf aB aC c
 |[],ps,h=>by simpa [H2]using h
 |_::_,[],h=>by simp[H2]
 |t::G,(g,cs)::ps,h=>by
  intro p E;simp only[H2,av]at E;rcases E with rfl|E
  ·cases J:Gx P 8 t with
   |none=>exact h (g,cs) (by simp)
   |some ks=>exact NV ks cs (h (g,cs) (by simp))
  ·exact Q76 G ps (λq I=>h q (by simp[I])) p E
theorem Q1n {ρ:Env}:∀{ps:List (Bool×List AC)} {xs:List Value},TP ρ w ps xs->ps.length=xs.length
 |[],[],_=>rfl
 |_::_,_::_,h=>by simp[Q1n h.2]
 |[],_::_,h=>h.elim
 |_::_,[],h=>h.elim
theorem Zq3 {ρ:Env} {ps:List (Bool×List AC)} {xs:List Value} (h:TP ρ w ps xs):TVR ρ w (Lt ps) (if h:xs.length=1 then xs[0]else .tuple xs.toArray):=by
 have E:=Q1n h
 match ps,xs,h with
 |[],[],_=>exact⟨#[],rfl,trivial⟩
 |[(g,cs)],[x],h=>
  simp only[Lt,List.length_singleton,dite_true,List.getElem_cons_zero];have:=h.1;cases g<;>exact this
 |p::q::ps,x::y::xs,h=>
  have: ¬(x::y::xs).length=1:=by simp
  rw[dif_neg this];exact⟨_,rfl,by simpa using h⟩
theorem Zfn {keys ids:List Nat} {ps:List (Bool×List AC)} (h:Al (λp:Bool×List AC=>Al (AC.inK keys ids) p.2) ps=true):TV.inK keys ids (Lt ps)=true:=by
 match ps,h with
 |[],h=>exact h
 |[(g,cs)],h=>exact AD.1 h (g,cs) (by simp)
 |p::q::ps,h=>exact h
theorem Zfd {aB:List (Nat×Box)} {aC:List (Nat×Row)} {ps:List (Bool×List AC)} (h:∀p∈ps,∀c∈p.2,AC.wf aB aC c):TV.wf aB aC (Lt ps):=by
 match ps,h with
 |[],h=>exact h
 |[(g,cs)],h=>exact h (g,cs) (by simp)
 |p::q::ps,h=>exact h
theorem Z4q {M:Func} {E:List Nat} {s:St} {a:Act} (hR:Rel Z s a.tmps w) (Y:∀k b,Z.K0 k=some b->k∈E) {K:TV->Mem->Option R} {r:R} (h:R4 P C M E s K=some r):
  ∃x ρ' v m,K v m=some r/\(results M a.tmps).run P w= .ok x w/\RelE Z [v] m.aB m.aC ρ' #[x] w:=by
 unfold R4 at h;split at h
 ·simp at h
 ·rename_i ps a4;have h1:∃s1,(Ij P C s1 λs1=>match LC P s1 M.results.toList with
    |none=>none
    |some ps=>match s1 with
     |⟨_,aB,aC⟩=>
      AX (H2 P M.resultTypes.toList ps) λps=>
      AX (LX aB 4 (A_ (cat (λp:Bool×List AC=>cat AC.keys p.2) ps) E)) λkeys=>
      AX (OA aB (cat (λp:Bool×List AC=>p.2) ps) keys) λids=>
      AX (aB.filter λp=>AW keys p.1) λG=>
      AX (aC.filter λp=>AW ids p.1) λN=>
      bif Al (λp:Bool×List AC=>Al (AC.inK keys ids) p.2) ps&&Al (λp:Nat×Box=>Al (AC.inK keys ids) p.2.cells) G&&Al (EO aB) E&&Al (AW keys) E then K (Lt ps) (⟨G,N⟩:Mem)else none)=some r/\Rel Z s1 a.tmps w:=by
   cases ho:C.ownRes<;>rw[ho]at h
   ·exact U6 _ s a.tmps hR _ _ h
   ·exact⟨s,h,hR⟩
  obtain⟨s1,h1,a0⟩:=h1;obtain⟨s2,I,ρ,O⟩:=RZ a0 h1;split at I
  ·simp at I
  ·rename_i a1 S;obtain⟨xs,q1,q2,q3⟩:=Q5o O _ _ S;obtain⟨tm,aB,aC⟩:=s2;simp only[Bj]at I;have T:=Qw7 M.resultTypes.toList _ _ q2 (P:=P);have U:=Q76 M.resultTypes.toList _ q3 (P:=P);generalize H2 P M.resultTypes.toList a1=J at I T U;generalize LX aB 4 (A_ (cat (λp:Bool×List AC=>cat AC.keys p.2) J) E)=keys at I;generalize OA aB (cat (λp:Bool×List AC=>p.2) J) keys=ids at I;obtain⟨X,I⟩:=Cl I;simp only[al]at X;have V:(results M a.tmps).run P w= .ok (if h:xs.length=1 then xs[0]else .tuple xs.toArray) w:=by
    unfold results;rw[Array.mapM_eq_mapM_toList];simp only[Sem.run_bind,Sem.run_map];erw[q1]
    simp only[dh,Sem.run_pure];congr 1
   have a2:TV.inK keys ids (Lt J)=true:=Zfn X.1.1.1;have a3:TV.wf aB aC (Lt J):=Zfd U;refine⟨_,ρ,_,_,I,V,O.filter (by simp) (λi v hi=> ?_) (λv hv=> ?_) (by simp[Al,a2]) X.1.1.2 (λk b hk=>AD.1 X.2 k (Y k b hk))⟩
   ·cases i with
    |zero=>simp at hi;subst hi;simpa using Zq3 T
    |succ i=>simp at hi
   ·simp at hv;subst hv;exact a3
theorem Zc4 (I:Ai P C) (V:∀t∈C.eqOk,P.stoodInHeld t=false) (N:P.follows .mixedOrders=true) (hZ:InZ Z) {L:Nat} {f:FuncId} {args:List TV} {mem:Mem} {K:TV->Mem->Option R} {r:R}
  (O:∀c,KL P f=some c->SubOK P C c 0) (h:Fh P C L f args mem K=some r) {ρ:Env} {xs:List Value} (E:RelE Z args mem.aB mem.aC ρ xs.toArray w):
  Calls P f xs.toArray w λe w'=>∃x S v m,e= .returned x/\K v m=some r/\RelE Z [v] m.aB m.aC S #[x] w':=by
 unfold Fh at h;split at h
 ·rename_i M T;split at h
  ·rename_i c hc;obtain⟨_,h⟩:=Cl h;simp only[Bj]at h;have U:P.funcs[f]? =some M:=by simpa using T
   have hs:=O c (by unfold KL;rw[T];exact hc);refine calls_of_wp U hc ?_;have hlen:xs.length=args.length:=by simpa using E.tl.symm
   have hR:Rel Z ⟨args++List.replicate (M.ntmps-args.length) TV.dead,mem.aB,mem.aC⟩ (xs.toArray++Array.replicate (M.ntmps-xs.toArray.size) undef) w:=by
    refine⟨ρ,E.slots (by simp[hlen]) (λi u hi=> ?_) (λu J=> ?_)⟩
    ·rw[gz]at hi;split at hi
     ·rename_i a3;have X:i<xs.length:=by omega
      have e:(xs.toArray++Array.replicate (M.ntmps-xs.toArray.size) undef).getD i undef=xs.toArray.getD i undef:=by
       simp[Array.getD_eq_getD_getElem?,Array.getElem?_append,X]
      rw[e];exact E.tv i u hi
     ·have:=cq hi;rw[List.mem_replicate]at this;rw[this.2];trivial
    ·rw[bq]at J;rcases J with J|J
     ·exact E.wt u J
     ·rw[List.mem_replicate]at J;rw[J.2];trivial
   refine wp_mono (Hj I V N hZ c L 0 _ ⟨_,[]⟩ w _ hs hR rfl h) ?_;rintro e a' w' ⟨ae,s,rfl,Y,a0,hd⟩;have a1:∀k b,Z.K0 k=some b->k∈mem.aB.map (·.1):=by
    intro k b hk;obtain⟨_,bo,a2⟩:=E.k0 k b hk;exact Mx.2 ⟨bo,a2⟩
   have G:R4 P C M (mem.aB.map (·.1)) s K=some r->a'.defers=[]/\∃x,(results M a'.tmps).run P w'= .ok x w'/\∃y S v m,Ending.returned x= .returned y/\K v m=some r/\RelE Z [v] m.aB m.aC S #[y] w':=by
    intro hf;obtain⟨x,S,v,m,h0,h1,h2⟩:=Z4q a0 a1 hf;exact⟨hd,x,h1,x,S,v,m,rfl,h0,h2⟩
   cases ae with
   |normal=>
    obtain⟨q1,x,q2,q3⟩:=G Y;exact⟨q1,x,q2,q3⟩
   |ret=>
    obtain⟨q1,x,q2,q3⟩:=G Y;exact⟨q1,x,q2,q3⟩
   |exit id=>simp at Y
  ·simp at h
 ·simp at h
theorem Qaf {F:Nat->Prop} {ρ:Env} {aB:List (Nat×Box)} (h:Al (λp:Nat×Box=>GE p.1) aB=true):InZ (FA F w ρ aB):=by
 intro k b G;simp only[FA,cd]at G;obtain⟨bo,E,_⟩:=G;exact AD.1 h (k,bo) (O9 E)
theorem Qj7 {sig E:Sk} {m:List AC->Option (List AC)} (R:Type) (args:List TV) (mem:Mem) (K:TV->Mem->Option R):Ad sig E m R args mem K=(Ad sig E m (TV×Mem) args mem λv m=>some (v,m)).bind λp=>K p.1 p.2:=by
  obtain⟨aB,aC⟩:=mem;simp only[Ad];cases Al (λp:Nat×Box=>GE p.1) aB
  ·rfl
  ·simp only[aj];cases FW sig ⟨args,aB,aC⟩with
   |none=>rfl
   |some vars=>
    dsimp only;cases m vars with
    |none=>rfl
    |some o=>
     simp only[ag];generalize BH E o=s;obtain⟨tm,b,r⟩:=s;dsimp only;split<;>rfl
theorem Q36 (I:Ai P C) (V:∀t∈C.eqOk,P.stoodInHeld t=false) (N:P.follows .mixedOrders=true) {L:Nat} {f:FuncId} {sig E:Sk} {m:List AC->Option (List AC)} (h1:sig.okB=true) (h2:E.okB=true)
  (O:∀c,KL P f=some c->SubOK P C c 0) (hm:∀vars o,m vars=some o->An P C L f sig E vars=some o) {args:List TV} {mem:Mem} {v:TV} {mem':Mem} (h:(Ad sig E m (TV×Mem) args mem λv m=>some (v,m))=some (v,mem')):PCallM P f args mem v mem':=by
  obtain⟨aB,aC⟩:=mem;simp only[Ad]at h;obtain⟨X,h⟩:=Cl h;split at h
  ·rename_i vars hv;simp only[dl]at h;obtain⟨o,ho,h⟩:=h;have G:=hm vars o ho;intro F w ρ xs Y;have hZ:InZ (FA F w ρ aB):=Qaf X;have J:=Y.rebuild hZ h1 hv;unfold An at G;generalize hs:BH sig vars=s1 at G J;obtain⟨a0,U,a1⟩:=s1;dsimp only at G J;refine(Zc4 I V N hZ O G J).mono ?_;rintro e w' ⟨x,ρ',v',m',he,S,T⟩;obtain⟨b',r'⟩:=m';dsimp only at S T;have M:=T.rebuild hZ h2 S;generalize a2:BH E o=s2 at h M;obtain⟨tm,b2,r2⟩:=s2;dsimp only at h M;split at h
   ·simp only[ap,dk]at h;obtain⟨rfl,rfl⟩:=h;exact⟨x,ρ',he,M⟩
   ·simp at h
  ·simp at h
theorem Zrz (G:Ai P C) (M:∀t∈C.eqOk,P.stoodInHeld t=false) (I:P.follows .mixedOrders=true) {L:Nat} {f:FuncId} (N:QW P f) {sig E:Sk} {m:List AC->Option (List AC)} (O:sig.okB=true) (S:E.okB=true)
  (J:∀c,KL P f=some c->SubOK P C c 0) (T:∀vars o,m vars=some o->An P C L f sig E vars=some o):SpecRight P f (Ad sig E m):=
 ⟨Qj7,λ_ _ _ _ h=>PCallM.x (Q36 G M I O S J T h) N⟩
end
open Go.RowKit Go.WideShapes Go.ChangeShapes
def RF (P:Program) (g:TypeId->Option (List Kd)):List Field->Nat->Option (List Kd)
 |[],_=>some []
 |f::fs,o=>match g f.type with
  |some ks=>bif Nat.beq f.offset o&&Nat.beq (P.cellsOf f.type) ks.length then(RF P g fs (o+ks.length)).map (ks++ ·)else none
  |none=>none
def IN (P:Program):Nat->TypeId->Option (List Kd)
 |0,_=>none
 |n+1,t=>match P.underlying t with
  |some .bool=>some [.bool]
  |some (.int k)=>some [.int k]
  |some (.slice e)=>(IN P n e).bind λks=>bif Nat.beq (P.cellsOf e) ks.length&&Nat.blt 0 ks.length then some [.sl ks]else none
  |some (.struct fs)=>(RF P (IN P n) fs.toList 0).bind λks=>bif Nat.beq (P.cellsOf t) ks.length then some ks else none
  |some (.array m e)=>(IN P n e).bind λks=>bif Nat.beq (P.cellsOf e) ks.length&&Nat.beq (P.cellsOf t) (m*ks.length)then some (Rt ks m)else none
  |_=>none
mutual
def okC:Kd->AC->Prop
 | .int k,a=>k.min<=Ah a/\Ah a<=k.max
 | .bool,_=>True
 | .sl ks,a=>(CI a).length<=maxLen/\∀c∈CI a,okR ks c/\AT ks c=c
 | .raw,_=>True
def okR:List Kd->List AC->Prop
 |[],_=>True
 |_::_,[]=>False
 |k::ks,a::cs=>okC k a/\okR ks cs
end
def Op (w:World) (ks:List Kd) (cs:List Value):Prop:=∃raw,AT ks raw=raw/\CL (CP (λb=>b<w.heap.size) w) raw cs/\okR ks raw
theorem Op.length {w:World} {ks:List Kd} {cs:List Value} (h:Op w ks cs):cs.length=ks.length:=by
 obtain⟨raw,E,G,_⟩:=h;rw[<-G.length,<-E,Rg]
theorem Q5p:∀(k1 k2:List Kd) (E G:List AC),E.length=k1.length->AT (k1++k2) (E++G)=AT k1 E++AT k2 G
 |[],k2,[],G,_=>rfl
 |k::k1,k2,a::E,G,h=>by
  simp only[az];rw[Qsg,Qsg,Q5p k1 k2 E G (by simpa using h)];rfl
 |[],_,_::_,_,h=>by simp at h
 |_::_,_,[],_,h=>by simp at h
theorem Qz0:∀{k1 k2:List Kd} {E G:List AC},E.length=k1.length->okR k1 E->okR k2 G->okR (k1++k2) (E++G)
 |[],_,[],_,_,_,h=>h
 |k::k1,k2,a::E,G,I,h,h'=>by
  simp only[az,okR]at h⊢;exact⟨h.1,Qz0 (by simpa using I) h.2 h'⟩
 |[],_,_::_,_,h,_,_=>by simp at h
 |_::_,_,[],_,h,_,_=>by simp at h
theorem Op.append {w:World} {k1 k2:List Kd} {E G:List Value} (h:Op w k1 E) (h':Op w k2 G):Op w (k1++k2) (E++G):=by
 obtain⟨I,a1,a2,a3⟩:=h;obtain⟨M,b1,b2,b3⟩:=h';have J:I.length=k1.length:=by rw[<-a1,Rg]
 exact⟨I++M,by rw[Q5p _ _ _ _ J,a1,b1],a2.append b2,Qz0 J a3 b3⟩
theorem Op.nil {w:World}:Op w [] []:=⟨[],rfl,trivial,by simp[okR]⟩
section
variable {H:Type} {enc:TypeId×Value->H} {P:Program} {w:World}
theorem Q30 {g:TypeId->Option (List Kd)} {m:Nat} (N:∀(t:TypeId) (ks:List Kd) (cs:List Value) (x:DataW H×List MemPlace),g t=some ks->DataW.trod enc P w 0 (λ_=>true) true m t cs=some x->Op w ks cs):
  ∀(fs:List Field) (o:Nat) (ks:List Kd) (cs:List Value),RF P g fs o=some ks->cs.length=o+ks.length->
   (∀f∈fs,∃x,DataW.trod enc P w 0 (λ_=>true) true m f.type ((cs.drop f.offset).take (P.cellsOf f.type))=some x)->Op w ks (cs.drop o)
 |[],o,ks,cs,h,G,_=>by
  simp[RF]at h;subst h;have:cs.drop o=[]:=by apply kq;simp at G;omega
  rw[this];exact Op.nil
 |f::fs,o,ks,cs,h,G,O=>by
  simp only[RF]at h;split at h
  ·rename_i k1 I;cases E:(Nat.beq f.offset o&&Nat.beq (P.cellsOf f.type) k1.length)<;>rw[E]at h
   ·simp at h
   ·simp only[aj,cd]at h;obtain⟨k2,T,rfl⟩:=h;simp only[al]at E;have e1:f.offset=o:=ac E.1;have e2:P.cellsOf f.type=k1.length:=ac E.2;obtain⟨x,J⟩:=O f (by simp);have S:=N _ _ _ _ I J;rw[e1,e2]at S;have U:=Q30 N fs (o+k1.length) k2 cs T (by simp at G;omega) (λV M=>O V (by simp[M]));have:cs.drop o=(cs.drop o).take k1.length++cs.drop (o+k1.length):=by
     rw[<-js,List.take_append_drop]
    rw[this];exact S.append U
  ·cases h
theorem Qxg {ks:List Kd}:∀(m:Nat) (cs:List Value),cs.length=m*ks.length->(∀i,i<m->Op w ks ((cs.drop (i*ks.length)).take ks.length))->Op w (Rt ks m) cs
 |0,cs,E,_=>by
  have:cs=[]:=by simpa using E
  subst this;exact Op.nil
 |m+1,cs,E,h=>by
  have h0:=h 0 (by omega);simp at h0;have:cs=cs.take ks.length++cs.drop ks.length:=(List.take_append_drop _ _).symm;rw[this,Rt];refine h0.append (Qxg m _ ?_ λi hi=> ?_)
  ·simp[E,ij]
  ·have:=h (i+1) (by omega);rw[js];rw[ij,kf]at this;exact this
theorem Zu8 {ks:List Kd} {cs:List Value} {e t:TypeId} {fuel:Nat} {x:DataW H×List MemPlace} (hu:P.underlying t=some (.slice e)) (e1:P.cellsOf e=ks.length) (e2:0<ks.length)
  (hx:DataW.trod enc P w 0 (λ_=>true) true fuel t cs=some x) (ih:∀(m:Nat) (cs:List Value) (x:DataW H×List MemPlace),DataW.trod enc P w 0 (λ_=>true) true m e cs=some x->Op w ks cs):Op w [.sl ks] cs:=by
 rcases Go.Deep.open_slice hu hx with⟨rfl,_⟩|⟨a,len,cap,m,n,D,Pl,rfl,_,hl,a8,hm,_,hi⟩
 ·refine⟨[.vC ks []],rfl,⟨UN ks,trivial⟩,?_⟩;simp[okR,okC,CI]
 ·have a0:m=cap:=by simpa using hm
  subst a0
  have hex:∀i,∃(O:List Value) (raw:List AC),i<len->(w.cells? 0 (a.add (i*P.cellsOf e)) (P.cellsOf e)=some O/\AT ks raw=raw/\CL (CP (λb=>b<w.heap.size) w) raw O/\okR ks raw):=λi=>by
   by_cases I:i<len
   ·obtain⟨U,M,V⟩:=hi i (by omega);obtain⟨raw,r1,r2,r3⟩:=ih n U _ V;exact⟨U,raw,λ_=>⟨M,r1,r2,r3⟩⟩
   ·exact⟨[],[],λh=>(I h).elim⟩
  let O:Nat->List Value:=λi=>Classical.choose (hex i)
  let E:Nat->List AC:=λi=>Classical.choose (fm (hex i))
  have J:∀i,i<len->(w.cells? 0 (a.add (i*P.cellsOf e)) (P.cellsOf e)=some (O i)/\AT ks (E i)=E i/\CL (CP (λb=>b<w.heap.size) w) (E i) (O i)/\okR ks (E i)):=λi=>fm (fm (hex i));have hlen:((List.range len).map E).length=len:=by simp
  have X:∀i (hi:i<((List.range len).map E).length),((List.range len).map E)[i]=E i:=λi hi=>by simp
  have N:∀c∈(List.range len).map E,∃i,i<len/\c=E i:=λc T=>by
   simp only[ba,List.mem_range]at T;obtain⟨i,M,V⟩:=T;exact⟨i,M,V.symm⟩
  refine⟨[.vC ks ((List.range len).map E)],rfl,⟨?_,trivial⟩,?_⟩
  ·rw[CP];refine⟨some a,m,by rw[hlen],by rw[hlen];exact hl,λc T=> ?_,?_⟩
   ·obtain⟨i,M,rfl⟩:=N c T;exact(J i M).2.1
   ·by_cases h0:len=0
    ·subst h0;exact .inl rfl
    ·right;have h0:0<len:=by omega
     obtain⟨a1,r1,r2,_⟩:=J 0 h0;obtain⟨_,a2,Y⟩:=World.cells?_some a1;have G:=Y 0 (by omega);simp only[ja]at G;have ea:(a.add 0).add 0=a:=by simp[Addr.add]
     rw[ea,ai (by omega)]at G;have S:a.spot=none/\a.block<w.heap.size:=by
      unfold World.cell? at G;split at G
      ·rename_i hb;split at G
       ·cases G
       ·rename_i a3;refine⟨by simpa using a3,(dv.1 hb).1⟩
      ·cases G
     obtain⟨b,o,sp⟩:=a;obtain⟨rfl,hb⟩:=S;refine⟨b,o,rfl,hb,TG λi I=> ?_⟩;rw[X i I];rw[hlen]at I;obtain⟨a4,a5,a6,_⟩:=J i I;obtain⟨_,hle,a7⟩:=World.cells?_some a4;refine⟨by rw[<-a5];exact Rg _ _,Wq _ (O i) b _ a6 λj y hj=> ?_⟩;have a9:j<(O i).length:=(fx.1 hj).1;have:=a7 j (by omega);rw[<-hj,<-this,e1];congr 1;unfold Addr.add;by_cases M:i*ks.length=0<;>by_cases V:j=0<;>simp[M,V,du]
  ·simp only[okR,okC,CI,and_true];refine⟨by rw[hlen];omega,λc T=> ?_⟩;obtain⟨i,M,rfl⟩:=N c T;exact⟨(J i M).2.2.2,(J i M).2.1⟩
theorem Ru:∀(n:Nat) (m:Nat) (t:TypeId) (ks:List Kd) (cs:List Value) (x:DataW H×List MemPlace),IN P n t=some ks->DataW.trod enc P w 0 (λ_=>true) true m t cs=some x->Op w ks cs
 |0,_,_,_,_,_,h,_=>by simp[IN]at h
 |n+1,m,t,ks,cs,x,h,J=>by
  unfold IN at h;split at h
  ·rename_i I;simp at h;subst h;obtain⟨b,rfl,_⟩:=DataW.trod_bool I J;exact⟨[.bool b],rfl,⟨Quf _,trivial⟩,by simp[okR,okC]⟩
  ·rename_i k I;simp at h;subst h;obtain⟨i,rfl,_,U⟩:=DataW.trod_int I J;exact⟨[.int k i],rfl,⟨G6 _ _,trivial⟩,by simpa [okR,okC,Ah,Lit.wf]using U⟩
  ·rename_i e I;simp only[dl]at h;obtain⟨k1,M,E⟩:=h;cases G:(Nat.beq (P.cellsOf e) k1.length&&Nat.blt 0 k1.length)<;>rw[G]at E
   ·simp at E
   ·simp at E;subst E;simp only[al]at G;have e1:=ac G.1;have e2:0<k1.length:=by have:=G.2;simp[Nat.blt]at this;omega
    exact Zu8 I e1 e2 J λm cs x=>Ru n m e k1 cs x M
  ·rename_i fs I;obtain⟨xs,O,rfl,_,hlen,S,hf⟩:=DataW.trod_struct I J;simp only[dl]at h;obtain⟨k1,M,E⟩:=h;cases G:Nat.beq (P.cellsOf t) k1.length<;>rw[G]at E
   ·simp at E
   ·simp at E;subst E;have e:=ac G;have := Q30 (λt ks cs x => Ru n O t ks cs x) fs.toList 0 k1 cs M (by omega) (λf T => by
     obtain⟨i,hi⟩:=List.mem_iff_getElem?.1 T;have N:fs[i]? =some f:=by simpa using hi
     have:=hf i f N;have V:i<fs.size:=by
      have:=(dv.1 N).1;exact this
     rw[this,ai (by omega)];exact⟨_,rfl⟩)
    simpa using this
  ·rename_i k e I;obtain⟨xs,O,rfl,_,hlen,S,hf⟩:=DataW.trod_array I J;simp only[dl]at h;obtain⟨k1,M,E⟩:=h;cases G:(Nat.beq (P.cellsOf e) k1.length&&Nat.beq (P.cellsOf t) (k*k1.length))<;>rw[G]at E
   ·simp at E
   ·simp at E;subst E;simp only[al]at G;have e1:=ac G.1;have e2:=ac G.2;refine Qxg k cs (by omega) λi hi=> ?_;have:=hf i hi;rw[e1]at this;refine Ru n O e k1 _ (xs[i]'(by omega)) M ?_;rw[this,ai]
  ·cases h
end
structure Ar where
 agg:Bool
 ks:List Kd
 raw:List AC
def Ar.sh (a:Ar):Bool×List Kd:=(a.agg,a.ks)
def Ar.ok (a:Ar):Prop:=okR a.ks a.raw/\AT a.ks a.raw=a.raw
def Ar.tv (a:Ar):TV:= .v a.agg (AT a.ks a.raw)
def shK (P:Program) (t:TypeId):Option (Bool×List Kd):=match P.underlying t with
 |some (.struct _)=>(IN P 8 t).map λks=>(true,ks)
 |some (.array _ _)=>(IN P 8 t).map λks=>(true,ks)
 |some .bool=>some (false,[.bool])
 |some (.int k)=>some (false,[.int k])
 |some (.slice _)=>(IN P 8 t).map λks=>(false,ks)
 |_=>none
section
variable {H:Type} {enc:TypeId×Value->H} {P:Program} {W:World}
theorem Zvs {t:TypeId} {v:Value} {d:DataW H} {p:List MemPlace} {r:Reach} {T:Nat} {sh:Bool×List Kd} (E:shK P t=some sh) (J:Value.okWide P W r T t v)
  (h:DataW.Trod enc P W 0 (λ_=>true) true t v d p):∃a:Ar,a.sh=sh/\a.ok/\∀(ρ:Env),ρ.im=(λb=>b<W.heap.size)->TVR ρ W a.tv v:=by
 have agg:∀(ks:List Kd) (cs:Array Value),IN P 8 t=some ks->v= .agg cs->∃a:Ar,a.sh=(true,ks)/\a.ok/\∀(ρ:Env),ρ.im=(λb=>b<W.heap.size)->TVR ρ W a.tv v:=by
  rintro ks cs I rfl;obtain⟨fuel,hf⟩:=h;obtain⟨raw,M,N,O⟩:=Ru 8 fuel t ks _ _ I hf;refine⟨⟨true,ks,raw⟩,rfl,⟨O,M⟩,λρ S=>⟨cs,rfl,?_⟩⟩;rw[M];exact N.mono λa _ x U=>J7 (by rw[S];exact U)
 unfold shK at E;split at E
 ·rename_i fs G;simp only[cd]at E;obtain⟨ks,I,rfl⟩:=E;obtain⟨cs,rfl,_⟩:=okWide_struct G J;exact agg ks cs I rfl
 ·rename_i k e G;simp only[cd]at E;obtain⟨ks,I,rfl⟩:=E;obtain⟨cs,rfl,_⟩:∃cs,v= .agg cs/\cs.size=P.cellsOf t:=by
   simp only[Value.okWide,G]at J;obtain⟨cs,V,X,_⟩:=J;exact⟨cs,V,X⟩
  exact agg ks cs I rfl
 ·rename_i G;simp at E;subst E;obtain⟨n,rfl,_,_⟩:=open_bool G J h;exact⟨⟨false,[.bool],[.bool n]⟩,rfl,⟨by simp[okR,okC],rfl⟩,λρ _=>TVR.mkBool n⟩
 ·rename_i k G;simp at E;subst E;obtain⟨n,rfl,_,_,Y⟩:=open_int G J h;exact⟨⟨false,[.int k],[.int k n]⟩,rfl,⟨by simpa [okR,okC,Ah,Lit.wf]using Y,rfl⟩,λρ _=>TVR.mkInt k n⟩
 ·rename_i e G;simp only[cd]at E;obtain⟨ks,I,rfl⟩:=E;obtain⟨a0,len,cap,rfl⟩:=okWide_slice G J;obtain⟨fuel,hf⟩:=h;obtain⟨raw,M,N,O⟩:=Ru 8 fuel t ks _ _ I hf;have hl:raw.length=1:=by rw[N.length];simp[Value.cells]
  match raw,hl with
  |[a],_=>
   refine⟨⟨false,ks,[a]⟩,rfl,⟨O,M⟩,λρ S=>⟨a,M,?_⟩⟩;have:=N.1;exact J7 (by rw[S];simpa [Value.cells]using this)
 ·cases E
theorem Q03 {r:Reach} {b0:Nat}:∀(J:List TypeId) (G:List Value) (O:List (DataW H)) (p:List MemPlace) (E:List (Bool×List Kd)),J.map (shK P)=E.map some->
  (∀(j:Nat) (t:TypeId) (v:Value),J[j]? =some t->G[j]? =some v->Value.okWide P W r b0 t v)->DataW.TrodAll enc P W 0 (λ_=>true) true J G O p->
  ∃as:List Ar,as.map Ar.sh=E/\(∀a∈as,a.ok)/\G.length=as.length/\∀(i:Nat) (a:Ar) (x:Value),as[i]? =some a->G[i]? =some x->∀(ρ:Env),ρ.im=(λb=>b<W.heap.size)->TVR ρ W a.tv x
 |[],G,O,p,E,I,_,h=>by
  obtain⟨rfl,rfl,rfl⟩:=trodAll_nil h;cases E with
  |nil=>exact⟨[],rfl,by simp,rfl,by simp⟩
  |cons=>simp at I
 |t::J,G,O,p,E,I,Y,h=>by
  obtain⟨v,S,d,T,a,b,rfl,rfl,rfl,M,N⟩:=trodAll_cons h;cases E with
  |nil=>simp at I
  |cons sh E=>
   simp only[bt,jn]at I;obtain⟨as,e1,e2,e3,e4⟩:=Q03 J S T b E I.2 (λj t v ht U=>Y (j+1) t v (by simpa using ht) (by simpa using U)) N;obtain⟨a,ha,V,hp⟩:=Zvs I.1 (Y 0 t v rfl rfl) M;refine⟨a::as,by simp[ha,e1],?_,by simp[e3],?_⟩
   ·intro x X;rcases av.1 X with rfl|X
    ·exact V
    ·exact e2 x X
   ·intro i a' x M N;cases i with
    |zero=>simp at M N;subst M;subst N;exact hp
    |succ i=>exact e4 i a' x (by simpa using M) (by simpa using N)
theorem Q2p (T:laidOutB P=true) {U:World} (hb:Below W.heap.size W U) {sp:Nat->Bool}:∀(G:List TypeId) (J:List Value) (M:List (DataW H)) (p:List MemPlace),
  G.all (λt=>P.readableRec t&&decide (t<P.types.size))=true->(∀x∈p,x.block<W.heap.size/\sp x.block=true)->DataW.TrodAll enc P W 0 (λ_=>true) true G J M p->
  DataW.TrodAll enc P U 0 sp true G J M p
 |[],J,M,p,_,_,h=>by
  obtain⟨rfl,rfl,rfl⟩:=trodAll_nil h;exact rfl
 |t::G,J,M,p,N,E,h=>by
  obtain⟨v,O,d,S,a,b,rfl,rfl,rfl,V,X⟩:=trodAll_cons h;simp only[List.all_cons,al,da]at N;refine⟨a,b,WideElems.Trod_stays T N.1.1 N.1.2 V (λx I=>hb.same (E x (by simp[I])).1) (λx I=>(E x (by simp[I])).2),?_,rfl⟩;exact Q2p T hb G O S b N.2 (λx I=>E x (by simp[I])) X
theorem Zn8 {f:Func} {s:ChangeSpec} {apart fresh handsOn again:Bool} {W N:World} {args:Array Value} {v:Value} {O S:List (DataW H)} {before pa pv:List MemPlace}
  (V:DataW.Whole enc P f.params.toList s.vars apart W args.toList O S before)
  (M:∀(b:Nat) (sp:Nat->Bool) (Y:Bool),DataW.TrodAll enc P N b sp Y f.resultTypes.toList (v.resultList f.resultTypes.size) (s.fn H (O++S)).results [])
  (E:∀sp:Nat->Bool,(∀p∈before,sp p.block=true)->DataW.TrodAll enc P N 0 sp true f.params.toList args.toList (s.fn H (O++S)).args pa)
  (G:∀sp:Nat->Bool,(∀p∈before,sp p.block=true)->DataW.TrodVars enc P N sp s.vars (s.fn H (O++S)).vars pv)
  (J:before=pa++pv) (hb:Below W.heap.size W N)
  (X:∀(j:Nat) (t:TypeId) (r:Value),f.resultTypes[j]? =some t->(v.resultList f.resultTypes.size)[j]? =some r->Value.okWide P N .any 0 t r):
  s.post enc P f apart fresh handsOn again W args v N:=by
 have T:∀p∈before,p.block<W.heap.size:=λp I=>V.lt p I;have hold:∀p∈before,(λb=>decide (b<W.heap.size)) p.block=true:=λp I=>by simpa using T p I
 refine⟨O,S,before,[],pa,pv,V,M _ _ _,E _ hold,G _ hold,World.keptBut_mono (λp I=>⟨I,?_⟩) (hb.frame (· ∈before)),λ_=> ?_⟩
 ·rw[J,bq]at I;exact Or.inr I
 ·obtain⟨_,_,_,_,_,hz,hn⟩:=V;refine⟨X,_,_,([]++pa)++pv,⟨[]++pa,pv,trodAll_append (E _ (λ_ _=>rfl)) (M _ _ _),G _ (λ_ _=>rfl),rfl,?_,?_⟩,?_⟩
  ·intro b off I;have U:MemPlace.cell b off∈before:=by rw[J];simpa using I
   rw[hb.frozen (T _ U)];exact hz b off U
  ·intro ha;have:=hn ha;rw[J]at this;simpa using this
  ·intro p I _;rw[J];simpa using I
theorem Z3p {f:FuncId} {O:Func} {s:ChangeSpec} {apart fresh handsOn again:Bool} {tb:TypeId} {shs:List (Bool×List Kd)} {args:Array Value} {M gs:List (DataW H)} {before:List MemPlace} {base:Nat}
  (G:s.vars=[]) (hl:laidOutB P=true) (a0:O.resultTypes= #[tb]) (a1:P.underlying tb=some .bool)
  (S:O.params.toList.all (λt=>P.readableRec t&&decide (t<P.types.size))=true) (a8:O.params.toList.map (shK P)=shs.map some)
  (T:∀l:List (DataW H),l.length=shs.length->s.fn H l={results:=[.lit (.bool true)],args:=l})
  (a2:∀as:List Ar,as.map Ar.sh=shs->(∀a∈as,a.ok)->PCallM P f (as.map Ar.tv) ⟨[],[]⟩ (.v false [.bool true]) ⟨[],[]⟩)
  (a3:∀(j:Nat) (t:TypeId) (v:Value),O.params[j]? =some t->args[j]? =some v->Value.okWide P W .any base t v)
  (hW:DataW.Whole enc P O.params.toList s.vars apart W args.toList M gs before):
  Calls P f args W λe W'=>∃v,e= .returned v/\s.post enc P O apart fresh handsOn again W args v W':=by
 have a4:=hW;obtain⟨p,q,hA,hV,rfl,b2,b3⟩:=hW;rw[G]at hV;obtain⟨rfl,rfl⟩:=trodVars_none hV;have a9:∀x∈p++[],x.block<W.heap.size:=λx hx=>a4.lt x hx;obtain⟨as,e1,e2,e3,e4⟩:=Q03 (r:= .any) (b0:=base) O.params.toList args.toList M p shs a8 (λj t v ht hv=>a3 j t v (by simpa using ht) (by simpa using hv)) hA;have b1:M.length=shs.length:=by
  have:∀(ts:List TypeId) (vs:List Value) (M:List (DataW H)) (p:List MemPlace),DataW.TrodAll enc P W 0 (λ_=>true) true ts vs M p->M.length=vs.length:=by
   intro ts;induction ts with
   |nil=>intro vs M p h;obtain⟨rfl,rfl,rfl⟩:=trodAll_nil h;rfl
   |cons t ts ih=>
    intro vs M p h;obtain⟨v,b4,d,b5,a,b,rfl,rfl,rfl,h1,h2⟩:=trodAll_cons h;simp[ih _ _ _ h2]
  rw[this _ _ _ _ hA,e3,<-e1,af]
 have U:=T (M++[]) (by simpa using b1);have a5:RelE (FA (λb=>b<W.heap.size) W ⟨λ_=>0,λ_=> .slice none 0 0,λ_=>0,λb=>b<W.heap.size⟩ []) (as.map Ar.tv) [] [] ⟨λ_=>0,λ_=> .slice none 0 0,λ_=>0,λb=>b<W.heap.size⟩ args.toList.toArray W:=by
  refine⟨by simpa using e3.symm,λi v hi=> ?_,λv hv=> ?_,λk b E=>by simp[Ac]at E,λk b E=>by simp[Ac]at E,λk k' b b' E=>by simp[Ac]at E,λid r S=>by simp[Ac]at S,
   λid id' r r' g S=>by simp[Ac]at S,λk b id r E=>by simp[Ac]at E,λb hb=>⟨hb,λk bo E=>by simp[Ac]at E,λid r S=>by simp[Ac]at S⟩,Fr.refl _ _,λ_ h=>h,λ_ h=>h,λb h=> .inl h,λk b E=>by simp[FA,Ac]at E⟩
  ·simp only[fo,cd]at hi;obtain⟨a,V,rfl⟩:=hi;have N:i<args.toList.length:=by rw[e3];exact(fx.1 V).1
   have a6:i<args.size:=by simpa using N
   have e:args.toList.toArray.getD i undef=args.toList[i]:=by simp[Array.getD,a6]
   rw[e];exact e4 i a _ V (ai N) _ rfl
  ·simp only[ba]at hv;obtain⟨a,V,rfl⟩:=hv;intro c J;obtain⟨i,hi⟩:=List.getElem?_of_mem V;have N:i<args.toList.length:=by rw[e3];exact(fx.1 hi).1
   have b6:=e4 i a _ hi (ai N) ⟨λ_=>0,λ_=> .slice none 0 0,λ_=>0,λb=>b<W.heap.size⟩ rfl;have X:∀(ks:List Kd) (cs:List AC) (j:Nat),∀c∈E7 ks cs j,AC.calm c=true:=by
    intro ks;induction ks with
    |nil=>intro cs j c J;simp[E7]at J
    |cons k ks ih=>
     intro cs j c J;simp only[E7,av]at J;rcases J with rfl|J
     ·cases k<;>try rfl
      generalize nth AC.dead cs j=b;cases b<;>rfl
     ·exact ih cs _ c J
   have:=X a.ks a.raw 0 c J;cases c<;>first|trivial|(simp[AC.calm]at this)
 have I:=a2 as e1 e2 _ W _ args.toList a5;have Y:args.toList.toArray=args:=by simp
 rw[Y]at I;refine I.mono ?_;rintro e W' ⟨x,ρ',rfl,hR⟩;have hb:Below W.heap.size W W':=⟨hR.fr.os,hR.fr.tape,hR.fr.output,hR.fr.size,λk E=>hR.fr.block k E⟩;have hx:x= .bool true:=by
  have:TVR ρ' W' (.c (.bool true)) x:=by simpa using hR.tv 0 _ rfl
  obtain⟨a,V,J⟩:=this;simp at V;subst V;simpa [CC,CP]using J
 subst hx;refine⟨_,rfl,Zn8 (pa:=p) (pv:=[]) a4 ?_ ?_ ?_ rfl hb (ok_one a0 rfl (okWide_bool_mk a1 true))⟩
 ·intro b sp hd;rw[U,a0];exact trodAll_mk1 (shut_bool a1 true)
 ·intro sp a7;rw[U];simp only[List.append_nil];exact Q2p hl hb _ _ _ _ S (λx hx=>⟨a9 x (by simp[hx]),a7 x (by simp[hx])⟩) hA
 ·intro sp a7;rw[U,G];exact rfl
end
theorem S4:∀{l:List (Nat×Spec)} {k:Nat} {b:Spec},I5 l k=some b->(k,b)∈l
 |[],_,_,h=>by simp[I5]at h
 |(j,c)::l,k,b,h=>by
  simp only[I5]at h;cases hb:Nat.beq j k<;>rw[hb]at h
  ·simp only[ao]at h;exact List.mem_cons_of_mem _ (S4 h)
  ·simp at h;subst h;rw[ac hb];simp
def Md (P:Program) (f:FuncId):Bool:=match P.funcs[f]? with
 |some fn=> !(fn.name== "runtime.NumGoroutine")&&fn.body.isSome
 |none=>false
theorem T8 {P:Program} {f:FuncId} (h:Md P f=true):QW P f:=by
 unfold Md at h;split at h
 ·rename_i E hf;simp only[al,iw]at h;exact⟨E,hf,h.1,by cases hb:E.body<;>simp_all⟩
 ·cases h
def Am (P:Program) (p:Nat×Spec):Prop:=SpecRight P p.1 p.2
def AllOK (P:Program):List (Nat×Spec)->Prop
 |[]=>True
 |p::l=>Am P p/\AllOK P l
theorem AllOK.mem {P:Program}:∀{l:List (Nat×Spec)},AllOK P l->∀p∈l,Am P p
 |_::l,h,p,E=>by
  rcases av.1 E with rfl|E
  ·exact h.1
  ·exact AllOK.mem h.2 p E
theorem Ap {P:Program} {C:Cfg} {l:List (Nat×Spec)} (I:C.spec=I5 l) (h:AllOK P l) (E:C.ro=λ_=>false:=by rfl):Ai P C:=by
 refine⟨λf g G=> ?_,λf g _ h=> ?_⟩
 ·rw[I]at G;exact h.mem _ (S4 G)
 ·rw[E]at h;cases h
def AllRo (rs:List Nat):List (Nat×Spec)->Prop
 |[]=>True
 |p::l=>(AW rs p.1=false\/U3 p.2)/\AllRo rs l
theorem AllRo.mem {rs:List Nat}:∀{l:List (Nat×Spec)},AllRo rs l->∀p∈l,AW rs p.1=false\/U3 p.2
 |_::l,h,p,E=>by
  rcases av.1 E with rfl|E
  ·exact h.1
  ·exact AllRo.mem h.2 p E
abbrev V:=IntKind.wrap .i64
theorem Hf {P:Program} {C:Cfg} {l:List (Nat×Spec)} {rs:List Nat} (J:C.spec=I5 l) (h:AllOK P l) (G:C.ro=λf=>AW rs f) (M:AllRo rs l):Ai P C:=by
 refine⟨λf g E=> ?_,λf g E I=> ?_⟩
 ·rw[J]at E;exact h.mem _ (S4 E)
 ·rw[J]at E;rw[G]at I;rcases M.mem _ (S4 E)with h|h
  ·dsimp only at h I;rw[I]at h;cases h
  ·exact h
theorem Ae {x:Int} (h: -9223372036854775808<=x/\x<=9223372036854775807:=by omega):V x=x:=by
 simp[V,IntKind.wrap,IntKind.signed,IntKind.bits];omega
section loops
variable {step:List AC->Option (Nat×List AC)}
theorem Qtc:∀{n:Nat} {vars:List AC} {o:Nat×List AC},C8 step n vars=some o->C8 step (n+1) vars=some o
 |0,_,_,h=>by simp[C8]at h
 |n+1,vars,o,h=>by
  rw[C8]at h⊢;simp only[dl]at h⊢;obtain⟨q,G,E⟩:=h;refine⟨q,G,?_⟩;split at E
  ·rename_i h0;rw[ab h0];exact Qtc E
  ·rename_i h0;rw[aa h0];exact E
theorem Q5c {n m:Nat} {vars:List AC} {o:Nat×List AC} (E:n<=m) (h:C8 step n vars=some o):C8 step m vars=some o:=by
 induction E with
 |refl=>exact h
 |step _ G=>exact Qtc G
theorem Zvg {n m:Nat} {vars:List AC} {o E:Nat×List AC} (h:C8 step n vars=some o) (h':C8 step m vars=some E):o=E:=by
 have I:=Q5c (Nat.le_max_left n m) h;have G:=Q5c (Nat.le_max_right n m) h';rw[I]at G;simpa using G
open Classical in
noncomputable def Ak (step:List AC->Option (Nat×List AC)) (vars:List AC):Option (Nat×List AC):=
 if h:∃n o,C8 step n vars=some o then C8 step (Classical.choose h) vars else none
theorem Qp {vars:List AC} {o:Nat×List AC} (h:Ak step vars=some o):∃n,C8 step n vars=some o:=by
 unfold Ak at h;split at h
 ·exact⟨_,h⟩
 ·simp at h
theorem Qqr {n:Nat} {vars:List AC} {o:Nat×List AC} (h:C8 step n vars=some o):Ak step vars=some o:=by
 unfold Ak;have G:∃n o,C8 step n vars=some o:=⟨n,o,h⟩;rw[dif_pos G];obtain⟨I,E⟩:=fm G;rw[E,Zvg h E]
theorem Q3 (vars:List AC):Ak step vars=(step vars).bind λo=>if o.1=0 then Ak step o.2 else some o:=by
 cases I:step vars with
 |none=>
  cases G:Ak step vars with
  |none=>rfl
  |some o=>
   obtain⟨n,E⟩:=Qp G;cases n with
   |zero=>simp[C8]at E
   |succ n=>simp[C8,I]at E
 |some q=>
  simp only[ag];by_cases h0:q.1=0
  ·rw[ab h0];cases G:Ak step q.2 with
   |none=>
    cases J:Ak step vars with
    |none=>rfl
    |some o=>
     obtain⟨n,E⟩:=Qp J;cases n with
     |zero=>simp[C8]at E
     |succ n=>
      simp only[C8,I,ag,ab h0]at E;rw[Qqr E]at G;cases G
   |some o=>
    obtain⟨n,E⟩:=Qp G;exact Qqr (n:=n+1) (by simp only[C8,I,ag,ab h0];exact E)
  ·rw[aa h0];exact Qqr (n:=1) (by simp only[C8,I,ag,aa h0])
end loops
theorem KA:∀(c:Code) (b blk:Nat) (body:Code),(blk,body)∈AV c b->(∀p∈AV body blk,p∈AV c b)/\(∀p∈Bf body,p∈Bf c)/\(∀p∈Bn body blk,p∈Bn c b)
 | .seq x y,b,blk,body,h=>by
  simp only[AV,bq]at h;rcases h with h|h
  ·obtain⟨G,I,J⟩:=KA x b blk body h;exact⟨λp E=>by simp[AV,G p E],λp E=>by simp[Bf,I p E],λp E=>by simp[Bn,J p E]⟩
  ·obtain⟨G,I,J⟩:=KA y b blk body h;exact⟨λp E=>by simp[AV,G p E],λp E=>by simp[Bf,I p E],λp E=>by simp[Bn,J p E]⟩
 | .cond c x y,b,blk,body,h=>by
  simp only[AV,bq]at h;rcases h with h|h
  ·obtain⟨G,I,J⟩:=KA x b blk body h;exact⟨λp E=>by simp[AV,G p E],λp E=>by simp[Bf,I p E],λp E=>by cases c<;>simp[Bn,J p E]⟩
  ·obtain⟨G,I,J⟩:=KA y b blk body h;exact⟨λp E=>by simp[AV,G p E],λp E=>by simp[Bf,I p E],λp E=>by cases c<;>simp[Bn,J p E]⟩
 | .block id x,b,blk,body,h=>by
  simp only[AV]at h;obtain⟨G,I,J⟩:=KA x b blk body h;exact⟨λp E=>by simp[AV,G p E],λp E=>by simp[Bf,I p E],λp E=>by simp[Bn,J p E]⟩
 | .loop x,b,blk,body,h=>by
  simp only[AV,av,dk]at h;rcases h with⟨rfl,rfl⟩|h
  ·exact⟨λp E=>by rw[Is _ _ b]at E;simp[AV,E],λp E=>by simp[Bf,E],λp E=>by rw[I4 _ _ b]at E;simp[Bn,E]⟩
  ·obtain⟨G,I,J⟩:=KA x b blk body h;exact⟨λp E=>by simp[AV,G p E],λp E=>by simp[Bf,I p E],λp E=>by simp[Bn,J p E]⟩
 | .skip,_,_,_,h=>by simp[AV]at h
 | .region _ _ _,_,_,_,h=>by simp[AV]at h
 | .exit _,_,_,_,h=>by simp[AV]at h
 | .ret,_,_,_,h=>by simp[AV]at h
 | .rangeFunc _ _ _ _,_,_,_,h=>by simp[AV]at h
 | .scope x,b,blk,body,h=>by
  simp only[AV]at h;obtain⟨G,I,J⟩:=KA x b blk body h;exact⟨λp E=>by simp[AV,G p E],λp E=>by simp[Bf,I p E],λp E=>by simp[Bn,J p E]⟩
 | .label _,_,_,_,h=>by simp[AV]at h
 | .goto _,_,_,_,h=>by simp[AV]at h
 | .refuse _,_,_,_,h=>by simp[AV]at h
theorem Kl:∀(c:Code) (b id:Nat) (body:Code),(id,body)∈Bf c->(∀p∈AV body id,p∈AV c b)/\(∀p∈Bf body,p∈Bf c)/\(∀p∈Bn body id,p∈Bn c b)
 | .seq x y,b,id,body,h=>by
  simp only[Bf,bq]at h;rcases h with h|h
  ·obtain⟨G,I,J⟩:=Kl x b id body h;exact⟨λp E=>by simp[AV,G p E],λp E=>by simp[Bf,I p E],λp E=>by simp[Bn,J p E]⟩
  ·obtain⟨G,I,J⟩:=Kl y b id body h;exact⟨λp E=>by simp[AV,G p E],λp E=>by simp[Bf,I p E],λp E=>by simp[Bn,J p E]⟩
 | .cond c x y,b,id,body,h=>by
  simp only[Bf,bq]at h;rcases h with h|h
  ·obtain⟨G,I,J⟩:=Kl x b id body h;exact⟨λp E=>by simp[AV,G p E],λp E=>by simp[Bf,I p E],λp E=>by cases c<;>simp[Bn,J p E]⟩
  ·obtain⟨G,I,J⟩:=Kl y b id body h;exact⟨λp E=>by simp[AV,G p E],λp E=>by simp[Bf,I p E],λp E=>by cases c<;>simp[Bn,J p E]⟩
 | .block j x,b,id,body,h=>by
  simp only[Bf,av,dk]at h;rcases h with⟨rfl,rfl⟩|h
  ·exact⟨λp E=>by rw[Is _ _ b]at E;simp[AV,E],λp E=>by simp[Bf,E],λp E=>by rw[I4 _ _ b]at E;simp[Bn,E]⟩
  ·obtain⟨G,I,J⟩:=Kl x b id body h;exact⟨λp E=>by simp[AV,G p E],λp E=>by simp[Bf,I p E],λp E=>by simp[Bn,J p E]⟩
 | .loop x,b,id,body,h=>by
  simp only[Bf]at h;obtain⟨G,I,J⟩:=Kl x b id body h;exact⟨λp E=>by simp[AV,G p E],λp E=>by simp[Bf,I p E],λp E=>by simp[Bn,J p E]⟩
 | .skip,_,_,_,h=>by simp[Bf]at h
 | .region _ _ _,_,_,_,h=>by simp[Bf]at h
 | .exit _,_,_,_,h=>by simp[Bf]at h
 | .ret,_,_,_,h=>by simp[Bf]at h
 | .rangeFunc _ _ _ _,_,_,_,h=>by simp[Bf]at h
 | .scope x,b,id,body,h=>by
  simp only[Bf]at h;obtain⟨G,I,J⟩:=Kl x b id body h;exact⟨λp E=>by simp[AV,G p E],λp E=>by simp[Bf,I p E],λp E=>by simp[Bn,J p E]⟩
 | .label _,_,_,_,h=>by simp[Bf]at h
 | .goto _,_,_,_,h=>by simp[Bf]at h
 | .refuse _,_,_,_,h=>by simp[Bf]at h
structure FnOK (P : Program) (C : Cfg) (f : FuncId) : Prop where
 l:∀p∈IH P f,∀sk g,C.loops p.1=some (sk,g)->JM P (.loop p.2) sk g
 b:∀p∈KB P f,∀sk g,C.blocks p.1=some (sk,g)->JM P (.block p.1 p.2) sk g
 c:∀p∈Sv P f,∀sk g,C.conds p.1=some (sk,g)->JM P (.cond (.tmp p.1) p.2.2.1 p.2.2.2) sk g
theorem FnOK.bare {P:Program} {C:Cfg} {f:FuncId} (E:C.loops=λ_=>none) (G:C.blocks=λ_=>none) (I:C.conds=λ_=>none):FnOK P C f:=
 ⟨λp _ sk g h=>by simp[E]at h,λp _ sk g h=>by simp[G]at h,λp _ sk g h=>by simp[I]at h⟩
theorem FnOK.sub {P:Program} {C:Cfg} {f:FuncId} (h:FnOK P C f) {c:Code} (G:KL P f=some c):SubOK P C c 0:=
 ⟨λp E=>h.l p (by unfold IH;rw[G];exact E),λp E=>h.b p (by unfold KB;rw[G];exact E),λp E=>h.c p (by unfold Sv;rw[G];exact E)⟩
theorem Z0k {P:Program} {f blk:Nat} {c:Code} (h:Ac (IH P f) blk=some c):A4 P f blk=c:=by unfold A4;rw[h]
theorem VE {α:Type}:∀{l:List (Nat×α)} {k:Nat} {b:α},BY (l.map (·.1))=true->(k,b)∈l->Ac l k=some b
 |[],_,_,_,h=>by simp at h
 |(j,c)::l,k,b,G,h=>by
  have E:=Je.1 G;simp only[bt,j5]at E;simp only[Ac];rcases av.1 h with h|h
  ·simp at h;obtain⟨rfl,rfl⟩:=h;simp
  ·have:j≠k:=by rintro rfl;exact E.1 (ba.2 ⟨(j,b),h,rfl⟩)
   rw[KC this];exact VE (Je.2 E.2) h
theorem FnOK.subLoop {P:Program} {C:Cfg} {f:FuncId} (h:FnOK P C f) {blk:Nat} {body:Code} (G:(blk,body)∈IH P f):SubOK P C body blk:=by
 unfold IH at G;split at G
 ·rename_i c I;obtain⟨J,M,N⟩:=KA c 0 blk body G;exact⟨λp E=>h.l p (by unfold IH;rw[I];exact J p E),λp E=>h.b p (by unfold KB;rw[I];exact M p E),λp E=>h.c p (by unfold Sv;rw[I];exact N p E)⟩
 ·simp at G
theorem FnOK.subBlock {P:Program} {C:Cfg} {f:FuncId} (h:FnOK P C f) {id:Nat} {body:Code} (G:(id,body)∈KB P f):SubOK P C body id:=by
 unfold KB at G;split at G
 ·rename_i c I;obtain⟨J,M,N⟩:=Kl c 0 id body G;exact⟨λp E=>h.l p (by unfold IH;rw[I];exact J p E),λp E=>h.b p (by unfold KB;rw[I];exact M p E),λp E=>h.c p (by unfold Sv;rw[I];exact N p E)⟩
 ·simp at G
theorem FnOK.loop {P:Program} {C:Cfg} {f:FuncId} (h:FnOK P C f) (G:Ai P C) (N:∀t∈C.eqOk,P.stoodInHeld t=false) (J:P.follows .mixedOrders=true) {L blk:Nat} {sk:Sk} {E:List (Ex×Sk)}
  (U:BY ((IH P f).map (·.1))=true) (O:sk.okB=true):FnOK P (C.loop blk sk E (Ak (A5 P C L blk (A4 P f blk) sk E))) f:=by
 refine⟨λp S T g M=> ?_,h.b,h.c⟩;simp only[Cfg.loop]at M;cases hb:Nat.beq p.1 blk<;>rw[hb]at M
 ·exact h.l p S T g M
 ·have e:=ac hb;subst e;simp only[aj,ap,dk]at M;obtain⟨rfl,rfl⟩:=M;have I:=Z0k (VE (k:=p.1) (b:=p.2) U S);rw[I];exact Zwk G N J O (h.subLoop S) λvars o V=>Qp V
theorem FnOK.block {P:Program} {C:Cfg} {f:FuncId} (h:FnOK P C f) (G:Ai P C) (N:∀t∈C.eqOk,P.stoodInHeld t=false) (J:P.follows .mixedOrders=true) {L id:Nat} {sk:Sk} {E:List (Ex×Sk)}
  (T:BY ((KB P f).map (·.1))=true):FnOK P (C.block id sk E (Q65 P C L id (Qaq P f id) sk E)) f:=by
 refine⟨h.l,λp O S g M=> ?_,h.c⟩;simp only[Cfg.block]at M;cases hb:Nat.beq p.1 id<;>rw[hb]at M
 ·exact h.b p O S g M
 ·have e:=ac hb;subst e;simp only[aj,ap,dk]at M;obtain⟨rfl,rfl⟩:=M;have I:Qaq P f p.1=p.2:=by unfold Qaq;rw[VE (k:=p.1) (b:=p.2) T O]
  rw[I];exact Z15 G N J (h.subBlock O) λvars o U=>U
theorem Qpy {P:Program} {C:Cfg} {f:FuncId} {L:Nat} {sig E:Sk} (N:Md P f=true) (h:FnOK P C f) (G:Ai P C) (M:∀t∈C.eqOk,P.stoodInHeld t=false) (J:P.follows .mixedOrders=true)
  (O:sig.okB=true) (S:E.okB=true):Am P (f,Ad sig E (An P C L f sig E)):=
 Zrz G M J (T8 N) O S (λ_ I=>h.sub I) λ_ _ T=>T
theorem Yax {P:Program} {C:Cfg} {f:FuncId} {L:Nat} {sig E:Sk} (_:Md P f=true) (h:FnOK P C f) (G:Ai P C) (N:∀t∈C.eqOk,P.stoodInHeld t=false) (J:P.follows .mixedOrders=true)
  (O:sig.okB=true) (S:E.okB=true) (args:List TV) (v:TV) (mem':Mem) (M:(Ad sig E (An P C L f sig E) (TV×Mem) args ⟨[],[]⟩ λv m=>some (v,m))=some (v,mem')):PCallM P f args ⟨[],[]⟩ v mem':=
 Q36 G N J O S (λ_ I=>h.sub I) (λ_ _ T=>T) M
theorem Z6g {P:Program} {f:FuncId} {sig E:Sk}:Am P (f,Ad sig E λ_=>none):=by
 refine⟨Qj7,λargs mem v mem' h=> ?_⟩;obtain⟨aB,aC⟩:=mem;simp only[Ad]at h;obtain⟨_,h⟩:=Cl h;split at h
 ·simp at h
 ·simp at h
section
variable {H α:Type}
theorem Z53 (F G:List (DataW H)->α) (h:∀a b c d e,F [a,b,c,d,e]=G [a,b,c,d,e]) (l:List (DataW H)) (E:l.length=5):F l=G l:=by
 match l,E with
 |[a,b,c,d,e],_=>exact h a b c d e
end
theorem Rh {l:List Ar} {s:Bool×List Kd} {E:List (Bool×List Kd)} (h:l.map Ar.sh=s::E):∃a G,l=a::G/\a.agg=s.1/\a.ks=s.2/\G.map Ar.sh=E:=by
 cases l with
 |nil=>simp at h
 |cons a G=>
  simp only[bt,jn]at h;refine⟨a,G,rfl,?_,?_,h.2⟩
  ·rw[<-h.1];rfl
  ·rw[<-h.1];rfl
theorem Zr2 {l:List Ar} (h:l.map Ar.sh=[]):l=[]:=by
 cases l with
 |nil=>rfl
 |cons a E=>simp at h
theorem Zur {rl:Nat->Nat} {c:CS} {a:AC} {v:List AC} (he:WH c a=true) (h:KX c a=some v) {l:List AC} {i:Nat} (E:Seg l i v):EF rl l c i=(a,i+v.length):=by
 cases c<;>cases a<;>simp only[WH]at he<;>try (simp at he;done)
 case int.int k k' n=>
  simp only[KX,he,aj,ap]at h;subst h;simp only[EF,E.one,Ah,PU he,bj,dg]
 case bool.bool b=>
  simp only[KX,ap]at h;subst h;simp only[EF,E.one,Dh,bj,dg]
 case sl.vC ks G q=>
  simp only[KX,he,aj,ap]at h;subst h;simp only[EF,E.one,CI,J_ he,bj,dg]
 case ptr.ptr k o k' I=>
  simp only[KX,he,aj,ap]at h;subst h;simp only[al]at he;simp only[EF,ac he.1,ac he.2,dg,jv]
theorem Q77 {rl:Nat->Nat} {l:List AC}:∀{cs:List CS} {as:List AC} {v:List AC},Pq cs as=true->G8 cs as=some v->∀{i},Seg l i v->EG rl l cs i=(as,i+v.length)
 |[],[],v,_,h,i,_=>by simp[G8]at h;subst h;rfl
 |c::cs,a::as,v,he,h,i,E=>by
  simp only[Pq,al]at he;simp only[G8]at h;split at h
  ·rename_i J G;split at h
   ·rename_i M I;simp at h;subst h;simp only[EG,Zur he.1 G E.left,Q77 he.2 I E.right,ay,du]
   ·simp at h
  ·simp at h
 |[],_::_,_,he,_,_,_=>by simp[Pq]at he
 |_::_,[],_,he,_,_,_=>by simp[Pq]at he
theorem Qvc {rl:Nat->Nat} {l:List AC} {aB:List (Nat×Box)}:∀{bs:List (Nat×TypeId×List CS)} {m:List (Nat×Box)} {v:List AC},HP bs m=true->(∀p∈m,Ac aB p.1=some p.2)->
  Kh bs aB=some v->∀{i},Seg l i v->FG rl l bs i=m
 |[],[],v,_,_,_,i,_=>rfl
 |(k,t,cs)::bs,(k',b)::m,v,he,E,h,i,G=>by
  simp only[HP,al]at he;obtain⟨e1,e2,e3,I⟩:=he;have e1:=ac e1;subst e1;have hb:=E (k,b) (by simp);dsimp only at hb;simp only[Kh,hb,e2,aj]at h;split at h
  ·rename_i O J;split at h
   ·rename_i S M;simp at h;subst h;simp only[FG,Q77 e3 J G.left,Qvc I (λp N=>E p (by simp[N])) M G.right];obtain⟨ty,cells⟩:=b;simp only[ac e2]
   ·simp at h
  ·simp at h
 |[],_::_,_,he,_,_,_,_=>by simp[HP]at he
 |_::_,[],_,he,_,_,_,_=>by simp[HP]at he
theorem Q9k:∀{bs:List (Nat×TypeId×List CS)} {m:List (Nat×Box)},HP bs m=true->m.map (·.1)=bs.map (·.1)
 |[],[],_=>rfl
 |(k,t,cs)::bs,(k',b)::m,he=>by
  simp only[HP,al]at he;simp only[bt,Q9k he.2.2.2,ac he.1]
 |[],_::_,he=>by simp[HP]at he
 |_::_,[],he=>by simp[HP]at he
theorem Zqs {sig E:Sk} {m:List AC->Option (List AC)} (R:Type) (args:List TV) (mem:Mem) (K:TV->Mem->Option R):E0 sig E m R args mem K=(E0 sig E m (TV×Mem) args mem λv m=>some (v,m)).bind λp=>K p.1 p.2:=by
 obtain⟨aB,aC⟩:=mem;simp only[E0];cases(Al (λp:Nat×Box=>GE p.1) aB&&(HP sig.aB aB&&(aC.isEmpty&&(sig.aC.isEmpty&&BY (sig.aB.map (·.1))))))
 ·rfl
 ·simp only[aj];cases FW sig ⟨args,aB,aC⟩with
  |none=>rfl
  |some vars=>
   dsimp only;cases m vars with
   |none=>rfl
   |some o=>
    simp only[ag];generalize BH E o=s;obtain⟨tm,b,r⟩:=s;cases b<;>cases r<;>try rfl
    dsimp only;split<;>rfl
theorem Z3n {sig E:Sk} {m:List AC->Option (List AC)}:U3 (E0 sig E m):=by
 intro args mem v G h;obtain⟨aB,aC⟩:=mem;simp only[E0]at h;obtain⟨_,h⟩:=Cl h;split at h
 ·simp only[dl]at h;obtain⟨o,_,h⟩:=h;split at h
  ·split at h
   ·simp only[ap,dk]at h;exact h.2.symm
   ·simp at h
  ·simp at h
 ·simp at h
theorem Hx {rs:List Nat}:AllRo rs []:=trivial
theorem CK {rs:List Nat} {k:Nat} {g:Spec} {l:List (Nat×Spec)} (h:AW rs k=false) (t:AllRo rs l):AllRo rs ((k,g)::l):=⟨.inl h,t⟩
theorem Fj {rs:List Nat} {k:Nat} {sig E:Sk} {m:List AC->Option (List AC)} {l:List (Nat×Spec)} (t:AllRo rs l):AllRo rs ((k,E0 sig E m)::l):=⟨.inr Z3n,t⟩
def Zsp (P:Program) (C:Cfg) (L:Nat) (f:FuncId) (sig:Sk):Prop:=
 ∀(vars:List AC) (R:Type) (K:TV->Mem->Option R),Fh P C L f (BH sig vars).tmps ⟨(BH sig vars).aB,(BH sig vars).aC⟩ K=Fh P C L f (BH sig vars).tmps ⟨(BH sig vars).aB,(BH sig vars).aC⟩ λv _=>K v ⟨(BH sig vars).aB,(BH sig vars).aC⟩
open Classical in
theorem QC {P:Program} {C:Cfg} {f:FuncId} {L:Nat} {sig G:Sk} (hc:Md P f=true) (h:FnOK P C f) (a2:Ai P C) (b3:∀t∈C.eqOk,P.stoodInHeld t=false) (b0:P.follows .mixedOrders=true)
  (h1:sig.okB=true) (h2:G.okB=true) (hl:Zsp P C L f sig):Am P (f,E0 sig G (L6 P C L f sig G)):=by
 refine⟨Zqs,λargs mem v mem' O=>PCallM.x ?_ (T8 hc)⟩;obtain⟨aB,aC⟩:=mem;simp only[E0]at O;obtain⟨V,O⟩:=Cl O;simp only[al]at V;obtain⟨V,hex,a3,S,a4⟩:=V;have a3:aC=[]:=by simpa using a3
 have S:sig.aC=[]:=by simpa using S
 subst a3;split at O
 ·rename_i vars E;simp only[dl]at O;obtain⟨o,ho,O⟩:=O;intro F w ρ xs b4;have hZ:InZ (FA F w ρ aB):=Qaf V;have a5:=b4.rebuild hZ h1 E
  have M:(BH sig vars).aB=aB:=by
   simp only[FW]at E;obtain⟨_,E⟩:=Cl E;rw[S]at E;simp only[JX]at E;split at E
   ·rename_i b hb;split at E
    ·rename_i c X;simp only[bf,ap]at E;subst E;simp only[BH,S,Hn];have T:=Vk (aB:=aB) (aC:=[]) (ρ:=ρ) (w:=w) (rl:=En []) ⟨λid r hl=>by simp[Ac]at hl⟩ hb (l:=b++c) (i:=0) (Seg.all _).left;generalize b5:Fx (En []) (b++c) sig.tmps 0=q at T;obtain⟨tm,i⟩:=q;have hi:i=0+b.length:=T.1;subst hi;have a6:=Q9k hex;refine Qvc hex (λp hp=>VE (by rw[a6];exact a4) hp) X (Seg.all (b++c)).right
    ·simp at E
   ·simp at E
  have N:(BH sig vars).aC=[]:=by simp only[BH,S,Hn]
  have a7:=hl vars;unfold L6 at ho;generalize hs:BH sig vars=s1 at ho a5 a7 M N;obtain⟨a8,J,b6⟩:=s1;dsimp only at ho a5 a7 M N;subst M;subst N;have b1:Fh P C L f a8 ⟨J,[]⟩ (λv m=>if m=⟨J,[]⟩then FW G ⟨[v],[],[]⟩else none)=some o:=by
   rw[a7];simp only[dz];exact ho
  refine(Zc4 a2 b3 b0 hZ (λ_ a9=>h.sub a9) b1 a5).mono ?_;rintro e w' ⟨x,ρ',v',m',he,I,Y⟩;split at I
  ·rename_i hm;subst hm;dsimp only at Y
   simp only[FW]at I;obtain⟨_,I⟩:=Cl I;split at I
   ·rename_i a ha;split at I
    ·rename_i b hb;split at I
     ·rename_i c X;simp only[ap]at I;subst I;split at O
      ·rename_i tm a0;split at O
       ·rename_i vn;simp only[ap,dk]at O;obtain⟨rfl,rfl⟩:=O;have U:G.aC=[]:=by
         cases b7:G.aC with
         |nil=>rfl
         |cons p l=>obtain⟨k,t,ks⟩:=p;rw[b7]at ha;simp[JX,Ac]at ha
        rw[U]at ha;simp only[JX,ap]at ha;subst ha;have T:=Vk (aB:=J) (aC:=[]) (ρ:=ρ') (w:=w') (rl:=En []) ⟨λid r hl=>by simp[Ac]at hl⟩ hb (l:=[]++(b++c)) (i:=0) (show Seg (b++c) 0 b from(Seg.all (b++c)).left);simp only[BH,U,Hn]at a0;have a1:=Qjj (B':=J) (R':=[]) (keys:=[]) (rs:=[]) (rl:=En []) (by simp) (by simp[Ac]) (ts:=G.tmps)
         (by
          have:=h2;simp only[Sk.okB,al]at this;have b8:G.aB=[]:=by
           cases b9:G.aB with
           |nil=>rfl
           |cons p l=>obtain⟨k,t,ks⟩:=p;rw[b9]at X;simp[Kh,Ac]at X
          have h3:=this.1.2;rw[b8,U]at h3;exact h3) ([]++(b++c)) 0
        generalize b5:Fx (En []) ([]++(b++c)) G.tmps 0=q at T a0 a1;obtain⟨c1,i⟩:=q;simp only[St.mk.injEq]at a0;obtain⟨rfl,_,_⟩:=a0;obtain⟨u,b2,c0⟩:=T.2.2 0 vn rfl;simp only[List.getElem?_cons_zero,ap]at b2;subst b2;refine⟨x,ρ',he,Y.slots (by simp) (λi u hi=> ?_) (λu hu=>a1 u hu)⟩;cases i with
        |zero=>
         simp at hi;subst hi;have:=Y.tv 0 v' rfl;exact c0 _ (Y.wt v' (by simp)) this
        |succ i=>simp at hi
       ·simp at O
      ·simp at O
     ·simp at I
    ·simp at I
   ·simp at I
  ·simp at I
 ·simp at O
abbrev I (n:Int):AC:= .int .i64 n
abbrev U (n:Int):AC:= .int .u64 n
abbrev B (b:Bool):AC:= .bool b
theorem Ig {x:Int} (h:0<=x/\x<=18446744073709551615):IntKind.u64.wrap x=x:=by
 simp[V,IntKind.wrap,IntKind.signed,IntKind.bits];omega
theorem Om (x:Int):IntKind.u64.wrap x=x%18446744073709551616:=by
 simp[V,IntKind.wrap,IntKind.signed,IntKind.bits]
theorem Qco (x:Int):V x=(x+9223372036854775808)%18446744073709551616-9223372036854775808:=by
 simp[V,IntKind.wrap,IntKind.signed,IntKind.bits];omega
def i64 (x:Int):Prop:= -9223372036854775808<=x/\x<=9223372036854775807
theorem Zqn (x:Int):i64 (V x):=by
 rw[Qco];unfold i64;omega
theorem Ca {α:Type} {c:Bool} {a b:α} (h:c=true):(bif c then a else b)=a:=by rw[h];rfl
theorem BI {α:Type} {c:Bool} {a b:α} (h:c=false):(bif c then a else b)=b:=by rw[h];rfl
theorem Ep {α:Type} {p:Prop} {inst:Decidable p} {a b:α} (h:p):(bif@decide p inst then a else b)=a:=by rw[@am p inst h];rfl
theorem Bg {α:Type} {p:Prop} {inst:Decidable p} {a b:α} (h: ¬p):(bif@decide p inst then a else b)=b:=by rw[@an p inst h];rfl
theorem Zu4 {α:Type} {p:Prop} {inst:Decidable p} {a b:α}:(bif@decide p inst then a else b)=if p then a else b:=by
 by_cases h:p
 ·rw[Ep h,ab h]
 ·rw[Bg h,aa h]
theorem Z0s {α:Type} {c:Bool} {a b:α}:(bif c then a else b)=if c=true then a else b:=by cases c<;>rfl
theorem Zjv {a b:Bool}:((a&&b)=true)=(a=true/\b=true):=by cases a<;>cases b<;>simp
theorem Zub {a b:Bool}:((a||b)=true)=(a=true\/b=true):=by cases a<;>cases b<;>simp
theorem Zgd {a:Bool}:((!a)=true)= ¬(a=true):=by cases a<;>simp
theorem Z0g {p:Prop} {inst:Decidable p}:(@decide p inst=true)=p:=by simp
theorem Zw8 {a b:Int}:((a==b)=true)=(a=b):=by simp
theorem Zl0 {a b:Int}:((a !=b)=true)=(a≠b):=by simp
theorem Zv4 {a b:Nat}:(Nat.beq a b=true)=(a=b):=by simp
theorem Zp9 {a b:Nat}:(Nat.ble a b=true)=(a<=b):=by simp
attribute [go_sem ↓] Zu4 Z0s Zjv Zub Zgd Z0g Zw8 Zl0 Zv4 Zp9
theorem Ik {α:Type} (d x:α) (l:List α):nth d (x::l) 0=x:=by simp[nth]
theorem H7 (k:IntKind) (n:Int):Ah (.int k n)=n:=by simp[Ah]
theorem Qpm (b:Bool):Dh (.bool b)=b:=by simp[Dh]
theorem Qpx (ks:List Kd) (l:List (List AC)):CI (.vC ks l)=l:=by simp[CI]
theorem Zjw {p q:Prop} {i1:Decidable p} {E:Decidable q}:((@decide p i1== @decide q E)=true)=(p↔q):=by simp
theorem Z4p {a b:Nat}:((a==b)=true)=(a=b):=by simp
attribute [go_sem ↓] Zjw Z4p
attribute [go_sem] dz ig
theorem Ng {α:Type} (d x:α) (l:List α):nth d (x::l) 1=nth d l 0:=by simp[nth]
theorem Mj {α:Type} (d x:α) (l:List α):nth d (x::l) 2=nth d l 1:=by simp[nth]
theorem RQ {α:Type} (d x:α) (l:List α):nth d (x::l) 3=nth d l 2:=by simp[nth]
theorem Qi {α:Type} (d x:α) (l:List α):nth d (x::l) 4=nth d l 3:=by simp[nth]
theorem UY {α:Type} (d x:α) (l:List α):nth d (x::l) 5=nth d l 4:=by simp[nth]
theorem Qgj {α:Type} (d x:α) (l:List α):nth d (x::l) 6=nth d l 5:=by simp[nth]
theorem Qe2 {α:Type} (d x:α) (l:List α):nth d (x::l) 7=nth d l 6:=by simp[nth]
theorem Zyi {α:Type} (d x:α) (l:List α):nth d (x::l) 8=nth d l 7:=by simp[nth]
theorem Zl5 {α:Type} (d x:α) (l:List α):nth d (x::l) 9=nth d l 8:=by simp[nth]
theorem Zyo {α:Type} (d x:α) (l:List α):nth d (x::l) 10=nth d l 9:=by simp[nth]
theorem Zyn {α:Type} (d x:α) (l:List α):nth d (x::l) 11=nth d l 10:=by simp[nth]
theorem Z1n {α:Type} (d x:α) (l:List α):nth d (x::l) 12=nth d l 11:=by simp[nth]
theorem Zrs {α:Type} (d x:α) (l:List α):nth d (x::l) 13=nth d l 12:=by simp[nth]
theorem Zv7 {α:Type} (d x:α) (l:List α):nth d (x::l) 14=nth d l 13:=by simp[nth]
theorem Zj2 {α:Type} (d x:α) (l:List α):nth d (x::l) 15=nth d l 14:=by simp[nth]
theorem Zho {α:Type} (d x:α) (l:List α):nth d (x::l) 16=nth d l 15:=by simp[nth]
theorem Z1t {α:Type} (d x:α) (l:List α):nth d (x::l) 17=nth d l 16:=by simp[nth]
theorem Zvi {α:Type} (d x:α) (l:List α):nth d (x::l) 18=nth d l 17:=by simp[nth]
theorem Z7k {α:Type} (d x:α) (l:List α):nth d (x::l) 19=nth d l 18:=by simp[nth]
theorem Yam {α:Type} (d x:α) (l:List α):nth d (x::l) 20=nth d l 19:=by simp[nth]
theorem Zfp {α:Type} (d x:α) (l:List α):nth d (x::l) 21=nth d l 20:=by simp[nth]
theorem Zgt {α:Type} (d x:α) (l:List α):nth d (x::l) 22=nth d l 21:=by simp[nth]
theorem Zwr {α:Type} (d x:α) (l:List α):nth d (x::l) 23=nth d l 22:=by simp[nth]
theorem Zey {α:Type} (d x:α) (l:List α):nth d (x::l) 24=nth d l 23:=by simp[nth]
theorem Zhi {α:Type} (d x:α) (l:List α):nth d (x::l) 25=nth d l 24:=by simp[nth]
theorem Z1b {α:Type} (d x:α) (l:List α):nth d (x::l) 26=nth d l 25:=by simp[nth]
theorem Z92 {α:Type} (d x:α) (l:List α):nth d (x::l) 27=nth d l 26:=by simp[nth]
theorem Zw6 {α:Type} (d x:α) (l:List α):nth d (x::l) 28=nth d l 27:=by simp[nth]
theorem Zg1 {α:Type} (d x:α) (l:List α):nth d (x::l) 29=nth d l 28:=by simp[nth]
theorem Zwg {α:Type} (d x:α) (l:List α):nth d (x::l) 30=nth d l 29:=by simp[nth]
theorem Zkn {α:Type} (d x:α) (l:List α):nth d (x::l) 31=nth d l 30:=by simp[nth]
theorem Zxt {α:Type} (d x:α) (l:List α):nth d (x::l) 32=nth d l 31:=by simp[nth]
theorem Zpm {α:Type} (d x:α) (l:List α):nth d (x::l) 33=nth d l 32:=by simp[nth]
theorem Z8k {α:Type} (d x:α) (l:List α):nth d (x::l) 34=nth d l 33:=by simp[nth]
theorem Zuh {α:Type} (d x:α) (l:List α):nth d (x::l) 35=nth d l 34:=by simp[nth]
theorem Z9v {α:Type} (d x:α) (l:List α):nth d (x::l) 36=nth d l 35:=by simp[nth]
theorem Zsn {α:Type} (d x:α) (l:List α):nth d (x::l) 37=nth d l 36:=by simp[nth]
theorem Zxc {α:Type} (d x:α) (l:List α):nth d (x::l) 38=nth d l 37:=by simp[nth]
theorem Zwd {α:Type} (d x:α) (l:List α):nth d (x::l) 39=nth d l 38:=by simp[nth]
attribute [go_sem] Ik Ng Mj RQ Qi UY Qgj Qe2 Zyi Zl5 Zyo Zyn Z1n Zrs Zv7 Zj2 Zho Z1t Zvi Z7k Yam Zfp Zgt Zwr Zey Zhi Z1b Z92 Zw6 Zg1 Zwg Zkn Zxt Zpm Z8k Zuh Z9v Zsn Zxc Zwd H7 Qpm Qpx ag
theorem Qx3 {S:Type} {step:List AC->Option (Nat×List AC)} (enc:S->List AC) (Inv:S->Prop) (m:S->Nat) (Q:Nat×List AC->Prop)
  (h:∀s,Inv s->(∃G,step (enc s)=some (0,enc G)/\Inv G/\m G<m s)\/∃o,step (enc s)=some o/\o.1≠0/\Q o):
  ∀s,Inv s->∃o,Ak step (enc s)=some o/\o.1≠0/\Q o:=by
 have:∀n s,m s<=n->Inv s->∃o,Ak step (enc s)=some o/\o.1≠0/\Q o:=by
  intro n;induction n with
  |zero=>
   intro s M hi;rcases h s hi with⟨G,I,E,J⟩|⟨o,I,E,J⟩
   ·omega
   ·refine⟨o,?_,E,J⟩;rw[Q3,I];simp[E]
  |succ n N=>
   intro s M hi;rcases h s hi with⟨G,I,E,J⟩|⟨o,I,E,J⟩
   ·obtain⟨o,O,T⟩:=N G (by omega) E;refine⟨o,?_,T⟩;rw[Q3,I];simpa using O
   ·refine⟨o,?_,E,J⟩;rw[Q3,I];simp[E]
 intro s hi;exact this _ s (db _) hi
theorem Bz {step:List AC->Option (Nat×List AC)} {v w:List AC} (h:step v=some (0,w)):Ak step v=Ak step w:=by
 rw[Q3,h];rfl
theorem Be {step:List AC->Option (Nat×List AC)} {v:List AC} {o:Nat×List AC} (h:step v=some o) (h0:o.1≠0):Ak step v=some o:=by
 rw[Q3,h];simp[h0]
theorem Zve {sig E:Sk} {m:List AC->Option (List AC)} {args:List TV} {vars:List AC} (G:FW sig ⟨args,[],[]⟩=some vars) (I:m vars=some [B true]) (J:BH E [B true]=⟨[.v false [.bool true]],[],[]⟩):
  (Ad sig E m (TV×Mem) args ⟨[],[]⟩ λv m=>some (v,m))=some (.v false [.bool true],⟨[],[]⟩):=by
 simp only[Ad,Al,aj];rw[G];dsimp only;rw[I];simp only[ag];rw[J]
theorem Ar.tv_of {a:Ar} {g:Bool} {ks:List Kd} (E:a.agg=g) (G:a.ks=ks):a.tv= .v g (AT ks a.raw):=by unfold Ar.tv;rw[E,G]
theorem JA {α:Type} (f:α->List AC) (d:List AC):∀(l:List α) (i:Nat) (h:i<l.length),nth d (l.map f) i=f l[i]
 |x::l,0,_=>rfl
 |x::l,i+1,h=>by simp only[bt,nth,jq];exact JA f d l i (by simpa using h)
theorem Gm {α:Type} (d:α):∀(l:List α) (i:Nat) (h:i<l.length),nth d l i=l[i]
 |x::l,0,_=>rfl
 |x::l,i+1,h=>by simp only[nth,jq];exact Gm d l i (by simpa using h)
def Ao (n:Int):List AC:=[I n]
theorem Ph {α:Type} (l:List α) (i:Nat) (h:i<l.length):l.drop i=l[i]::l.drop (i+1):=by simp
structure Pt where
 (x y z:Int)
structure Itm where
 (aP block:Int)
 (fr to:Pt)
 (aG:Int)
 (ce:Pt)
 (dir:Int)
 full:Bool
 aZ:Int
 perRev:Bool
 (side radius blend n aS:Int)
 on:Bool
structure Sgm where
 to:Pt
 (len aU aZ aX:Int)
structure Mrk where
 (at_ aP aU:Int)
structure Pth where
 aQ:Pt
 aF:List Sgm
 aD:List Mrk
structure Axs where
 (step aS accel jerk low aY bB aV aO:Int)
 aW:List Int
structure Pce where
 (at_ aR s bD:Int)
 (was aT:Pt)
structure Trk where
 aE:List Pce
 (length aQ:Int)
 aT:Pt
structure Spk where
 (u w r h:Int)
instance:DecidableEq Pt:=λa b=>by
 obtain⟨a1,a2,a3⟩:=a;obtain⟨b1,b2,b3⟩:=b;exact decidable_of_iff (a1=b1/\a2=b2/\a3=b3) (by simp)
instance:DecidableEq Sgm:=λa b=>by
 obtain⟨a1,a2,a3,a4,a5⟩:=a;obtain⟨b1,b2,b3,b4,b5⟩:=b;exact decidable_of_iff (a1=b1/\a2=b2/\a3=b3/\a4=b4/\a5=b5) (by simp)
instance:DecidableEq Mrk:=λa b=>by
 obtain⟨a1,a2,a3⟩:=a;obtain⟨b1,b2,b3⟩:=b;exact decidable_of_iff (a1=b1/\a2=b2/\a3=b3) (by simp)
instance:DecidableEq Pce:=λa b=>by
 obtain⟨a1,a2,a3,a4,a5,a6⟩:=a;obtain⟨b1,b2,b3,b4,b5,b6⟩:=b;exact decidable_of_iff (a1=b1/\a2=b2/\a3=b3/\a4=b4/\a5=b5/\a6=b6) (by simp)
abbrev kI:Kd:= .int .i64
abbrev kB:Kd:= .bool
abbrev Aa:List Kd:=[kI]
abbrev kPt:List Kd:=[kI,kI,kI]
abbrev Aj:List Kd:=[kI,kI,kI,kI,kI,kI,kI,kI,kI,kI,kI,kI,kI,kB,kI,kB,kI,kI,kI,kI,kI,kB]
abbrev Ag:List Kd:=[kI,kI,kI,kI,kI,kI,kI]
abbrev AO:List Kd:=[kI,kI,kI]
abbrev As:List Kd:=[kI,kI,kI,kI,kI,kI,kI,kI,kI,kI]
abbrev EI:List Kd:=[kI,kI,kI,kI]
abbrev ptR (p:Pt):List AC:=[I p.x,I p.y,I p.z]
abbrev Af (t:Itm):List AC:=[I t.aP,I t.block,I t.fr.x,I t.fr.y,I t.fr.z,I t.to.x,I t.to.y,I t.to.z,I t.aG,I t.ce.x,I t.ce.y,I t.ce.z,I t.dir,B t.full,I t.aZ,B t.perRev,I t.side,I t.radius,I t.blend,I t.n,I t.aS,B t.on]
abbrev Av (g:Sgm):List AC:=[I g.to.x,I g.to.y,I g.to.z,I g.len,I g.aU,I g.aZ,I g.aX]
abbrev Aw (m:Mrk):List AC:=[I m.at_,I m.aP,I m.aU]
abbrev AN (c:Pce):List AC:=[I c.at_,I c.aR,I c.s,I c.bD,I c.was.x,I c.was.y,I c.was.z,I c.aT.x,I c.aT.y,I c.aT.z]
abbrev Dp (s:Spk):List AC:=[I s.u,I s.w,I s.r,I s.h]
abbrev BC (p:Pth):List AC:=[I p.aQ.x,I p.aQ.y,I p.aQ.z, .vC Ag (p.aF.map Av), .vC AO (p.aD.map Aw)]
abbrev BD (x:Axs):List AC:=[I x.step,I x.aS,I x.accel,I x.jerk,I x.low,I x.aY,I x.bB,I x.aV,I x.aO, .vC Aa (x.aW.map Ao)]
abbrev Ba (t:Trk):List AC:=[.vC As (t.aE.map AN),I t.length,I t.aQ,I t.aT.x,I t.aT.y,I t.aT.z]
structure Ax3 where
 (a b c:Axs)
abbrev AI (x:Ax3):List AC:=[I x.a.step,I x.a.aS,I x.a.accel,I x.a.jerk,I x.a.low,I x.a.aY,I x.a.bB,I x.a.aV,I x.a.aO, .vC Aa (x.a.aW.map Ao),I x.b.step,I x.b.aS,I x.b.accel,I x.b.jerk,I x.b.low,I x.b.aY,I x.b.bB,I x.b.aV,I x.b.aO, .vC Aa (x.b.aW.map Ao),I x.c.step,I x.c.aS,I x.c.accel,I x.c.jerk,I x.c.low,I x.c.aY,I x.c.bB,I x.c.aV,I x.c.aO, .vC Aa (x.c.aW.map Ao)]
abbrev pxt (p:Pth) (x:Ax3) (t:Trk) (l:List AC):List AC:=
 I p.aQ.x::I p.aQ.y::I p.aQ.z:: .vC Ag (p.aF.map Av):: .vC kPt (p.aD.map Aw)::
 I x.a.step::I x.a.aS::I x.a.accel::I x.a.jerk::I x.a.low::I x.a.aY::I x.a.bB::I x.a.aV::I x.a.aO:: .vC Aa (x.a.aW.map Ao)::
 I x.b.step::I x.b.aS::I x.b.accel::I x.b.jerk::I x.b.low::I x.b.aY::I x.b.bB::I x.b.aV::I x.b.aO:: .vC Aa (x.b.aW.map Ao)::
 I x.c.step::I x.c.aS::I x.c.accel::I x.c.jerk::I x.c.low::I x.c.aY::I x.c.bB::I x.c.aV::I x.c.aO:: .vC Aa (x.c.aW.map Ao)::
 .vC As (t.aE.map AN)::I t.length::I t.aQ::I t.aT.x::I t.aT.y::I t.aT.z::l
abbrev DM (p:Pth) (t:Trk) (l:List AC):List AC:=
 I p.aQ.x::I p.aQ.y::I p.aQ.z:: .vC Ag (p.aF.map Av):: .vC kPt (p.aD.map Aw)::
 .vC As (t.aE.map AN)::I t.length::I t.aQ::I t.aT.x::I t.aT.y::I t.aT.z::l
theorem Zqy {a:AC} (h:okC kI a):i64 (Ah a):=by
 unfold okC at h;unfold i64;exact h
abbrev gA (l:List AC) (k:Nat):Int:=Ah (nth .dead l k)
abbrev jA (l:List AC) (k:Nat):AC:= .int .i64 (Ah (nth .dead l k))
abbrev wA (l:List AC) (k:Nat):List (List AC):=CI (nth .dead l k)
abbrev bA (l:List AC) (k:Nat):Bool:=Dh (nth .dead l k)
abbrev Fn:=List AC->Option (List AC)
abbrev Lp:=List AC->Option (Nat×List AC)
abbrev Rw:=List (List AC)
abbrev ci:CS:= .int .i64
abbrev tf:List CS->TS:= .v false
abbrev td:TS:= .dead
attribute [go_sem] gA jA wA bA az bf
theorem Z1d (r:List AC):AT Aj r=[jA r 0,jA r 1,jA r 2,jA r 3,jA r 4,jA r 5,jA r 6,jA r 7,jA r 8,jA r 9,jA r 10,jA r 11,jA r 12,B (bA r 13),jA r 14,B (bA r 15),jA r 16,jA r 17,jA r 18,jA r 19,jA r 20,B (bA r 21)]:=rfl
theorem Q7t (r:List AC):AT Ag r=[jA r 0,jA r 1,jA r 2,jA r 3,jA r 4,jA r 5,jA r 6]:=rfl
theorem Zoq (r:List AC):AT As r=[jA r 0,jA r 1,jA r 2,jA r 3,jA r 4,jA r 5,jA r 6,jA r 7,jA r 8,jA r 9]:=rfl
attribute [go_sem] Z1d Q7t Zoq
end Go.Bm
