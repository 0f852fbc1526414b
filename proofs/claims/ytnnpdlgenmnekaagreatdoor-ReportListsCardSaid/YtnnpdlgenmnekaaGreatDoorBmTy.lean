/- the abstract machine -/
import Derived.Test.YtnnpdlgenmnekaaGreatDoorBmDraw
import Derived.Orders
import Derived.Test.YtnnpdlgenmnekaaGreatDoorBmFz
import Derived.ProofKit
import Derived.Below
import Derived.OpenShut
import Derived.ChangeSame
import Derived.Deep.Slices
set_option linter.unusedVariables false
set_option linter.unusedSimpArgs false
namespace Go.Bm
open Go.RowKit
section
variable {P:Program} {C:Cfg} {w:World} {R:Type} {Z:Base}
theorem Gw {D A:Operand->TV}:∀(l:List Operand),(∀x∈l,D x=A x)->AG D l=AG A l
 |[],_=>rfl
 |x::l,h=>by simp only[AG];rw[h x (by simp),Gw l λy E=>h y (by grind)]
theorem I5 {D A:Operand->TV}:∀(l:List (Nat×Operand)),(∀p∈l,D p.2=A p.2)->BZ D l=BZ A l
 |[],_=>rfl
 |x::l,h=>by simp only[BZ];rw[h x (by simp),I5 l λy E=>h y (by grind)]
theorem Ne {D A:Operand->TV} (o:Option Operand) (h:∀x,o=some x->D x=A x):DW D o=DW A o:=by
 cases o with
 |none=>rfl
 |some x=>simp_all [DW]
theorem Eb {D A:Operand->TV} {dst:Option Tmp} {o:Op} (h:∀x∈o.operands,D x=A x) (K:Prim->Option R):opK P C D dst o K=opK P C A dst o K:=by
 cases o<;>simp only[Op.operands]at h<;>simp only[opK]
 case move x=>grind
 case assign x=>grind
 case pick c a b=>grind
 case box t x=>grind
 case build t parts=>rw[I5 parts.toList λp G=>h p.2 (by grind)]
 case buildSlice t n parts=>rw[I5 parts.toList λp G=>h p.2 (by grind)]
 case makeSlice t a b=>grind
 case makeFunc Q a b=>
  rw[Gw a.toList λx E=>h x (by grind),Gw b.toList λx E=>h x (by grind)]
 case load t a=>grind
 case store t a x=>grind
 case nilCheck x=>grind
 case binOp op t x y _=>grind
 case unOp op t x=>grind
 case convert s d x=>grind
 case fieldAddr t x i=>grind
 case field t x i=>grind
 case indexAddr t x J=>grind
 case index t x J=>grind
 case slice t x lo L mx=>
  rw[h x (by simp),Ne lo λy N=>h y (by grind),Ne L λy N=>h y (by grind)]
 case extract t i=>grind
 case call c=>
  have S:∀t,c.callee= .value (.tmp t)->D (.tmp t)=A (.tmp t):=λt T=>h _ (by grind [Call.operands]);have O:AG D c.args.toList=AG A c.args.toList:=Gw _ λx E=>h x (by grind [Call.operands]);rw[O]
  grind
theorem KA {tm:List TV} {d:Nat} {v:TV} {x:Operand} (h:x≠ .tmp d):Ai (setL tm d v) x=Ai tm x:=by
 cases x with
 |tmp t=>
  have A:d≠t:=λe=>h (by rw[e]);simp_all [Ai,Au,CF]
 |_=>rfl
def AT (tm:List TV) (d:Option Tmp) (v:TV):List TV:=
 match d with
 |none=>tm
 |some t=>setL tm t v
theorem D7 (tm:List TV) (bx:List (Nat×Box)) (aC:List (Nat×Row)) (d:Option Tmp) (v:TV):Gc ⟨tm,bx,aC⟩ d v=⟨AT tm d v,bx,aC⟩:=by cases d<;>rfl
theorem EW {tm:List TV} {d e:Option Tmp} (v u:TV) (h:∀t,d=some t->e≠some t):AT (AT tm d v) e u=AT (AT tm e u) d v:=by
 cases d with
 |none=>rfl
 |some t=>
  cases e with
  |none=>rfl
  |some q=>simp_all [AT,CF,List.set_comm]
def A6 (P:Program) (C:Cfg) (ops:List Oper) (o:Oper) (tm:List TV) (bx:List (Nat×Box)) (aC:List (Nat×Row)):Option (Option Prim×TV×List (Nat×Box)):=
 match AH ops o tm with
 |some true=>(opK P C (Ai tm) o.dst o.op some).bind λp=>(Ae (C:=C) o.dst (p.dr false) bx aC).bind λq=>some (some (p.dr false),q.1,q.2)
 |some false=>some (none, .tup [],bx)
 |none=>none
theorem O4 {d:Option Tmp} {p:Prim} {bx:List (Nat×Box)} {aC:List (Nat×Row)} (h:Prim.isApp (some p)=true):Ae (C:=C) d p bx aC=none:=by
 cases p<;>simp[Prim.isApp]at h
 rfl
theorem Uh {d:Option Tmp} {p:Prim} {bx:List (Nat×Box)} {aC:List (Nat×Row)} (h:Prim.isMk (some p)=true):Ae (C:=C) d p bx aC=none:=by
 cases p<;>simp[Prim.isMk]at h<;>rfl
theorem NV {ops:List Oper} {o:Oper} {tm:List TV} {bx A:List (Nat×Box)} {aC:List (Nat×Row)} {p:Option Prim} {v:TV} (h:A6 P C ops o tm bx aC=some (p,v,A)):Prim.isMk p=false:=by
 unfold A6 at h;split at h
 ·cases D:opK P C (Ai tm) o.dst o.op some with
  |none=>grind
  |some q=>
   rw[D]at h;simp only[ak]at h;cases E:Prim.isMk (some (q.dr false))with
   |true=>grind [Uh]
   |false=>
    cases G:Ae (C:=C) o.dst (q.dr false) bx aC with
    |none=>grind
    |some z=>grind
 ·simp at h;rw[<-h.1];rfl
 grind
theorem On {ops:List Oper} {o:Oper} {tm:List TV} {bx A:List (Nat×Box)} {aC:List (Nat×Row)} {p:Option Prim} {v:TV} (h:A6 P C ops o tm bx aC=some (p,v,A)):Prim.isApp p=false:=by
 unfold A6 at h;split at h
 ·cases D:opK P C (Ai tm) o.dst o.op some with
  |none=>grind
  |some q=>
   rw[D]at h;simp only[ak]at h;cases E:Prim.isApp (some (q.dr false))with
   |true=>grind [O4]
   |false=>
    cases G:Ae (C:=C) o.dst (q.dr false) bx aC with
    |none=>grind
    |some z=>grind
 ·simp at h;rw[<-h.1];rfl
 grind
theorem E1 {ops:List Oper} {o:Oper} {tm:List TV} {bx A:List (Nat×Box)} {aC:List (Nat×Row)} {p:Option Prim} {v:TV} (h:A6 P C ops o tm bx aC=some (p,v,A)):
  AI (P:=P) (C:=C) ops o ⟨tm,bx,aC⟩=some (p,⟨AT tm o.dst v,A,aC⟩):=by
 have D:=On h;have E:=NV h;unfold A6 at h;unfold AI;dsimp only;cases G:AH ops o tm with
 |none=>grind
 |some b=>
  cases b
  ·grind [D7]
  ·rw[G]at h;dsimp only at h⊢;cases J:opK P C (Ai tm) o.dst o.op some with
   |none=>grind
   |some q=>
    rw[J]at h;simp only[ak]at h⊢;cases L:Ae (C:=C) o.dst (q.dr false) bx aC with
    |none=>grind
    |some z=>simp_all [BE,D7]
theorem EF {ops:List Oper} {o:Oper} {tm:List TV} {bx:List (Nat×Box)} {aC:List (Nat×Row)} {p:Option Prim} {G:St} (h:AI (P:=P) (C:=C) ops o ⟨tm,bx,aC⟩=some (p,G)) (L:Prim.isApp p=false) (E:Prim.isMk p=false):
  ∃v A,A6 P C ops o tm bx aC=some (p,v,A)/\G=⟨AT tm o.dst v,A,aC⟩:=by
 unfold AI at h;unfold A6;dsimp only at h;cases J:AH ops o tm with
 |none=>grind
 |some b=>
  cases b
  ·rw[J]at h;simp at h;obtain⟨rfl,rfl⟩:=h;simp[D7]
  ·rw[J]at h;dsimp only at h⊢;cases N:opK P C (Ai tm) o.dst o.op some with
   |none=>grind
   |some q=>
    rw[N]at h;simp only[ak]at h⊢;cases D:BE (C:=C) o.dst (q.dr false) ⟨tm,bx,aC⟩with
    |none=>grind
    |some z=>
     rw[D]at h;simp at h;obtain⟨rfl,rfl⟩:=h;unfold BE at D;rw[L,E]at D;simp only[aj,ap]at D;obtain⟨y,O,rfl⟩:=D;simp_all [D7]
theorem IN {ops:List Oper} {o:Oper} {tm:List TV} {bx:List (Nat×Box)} {aC:List (Nat×Row)} {p:Option Prim} {E:St} (h:AI (P:=P) (C:=C) ops o ⟨tm,bx,aC⟩=some (p,E)) (G:Prim.isApp p=true):
  AH ops o tm=some true/\∃q id v A,opK P C (Ai tm) o.dst o.op some=some q/\p=some (q.dr false)/\DT o.dst (q.dr false)=some id/\DZ o.dst aC (q.dr false)=some (v,A)/\E=⟨AT (tm.map (TV.kill id)) o.dst v,bx.map λp=>(p.1,p.2.kill id),A⟩:=by
 unfold AI at h;dsimp only at h;cases J:AH ops o tm with
 |none=>grind
 |some b=>
  cases b
  ·grind [Prim.isApp]
  ·rw[J]at h;refine⟨rfl,?_⟩;dsimp only at h;cases L:opK P C (Ai tm) o.dst o.op some with
   |none=>grind
   |some q=>
    rw[L]at h;simp only[ak]at h;cases D:BE (C:=C) o.dst (q.dr false) ⟨tm,bx,aC⟩with
    |none=>grind
    |some z=>
     rw[D]at h;simp at h;obtain⟨rfl,rfl⟩:=h;unfold BE at D;rw[G]at D;simp only[ac]at D;split at D
     ·rename_i id hid;simp only[ap]at D;obtain⟨⟨y1,y2⟩,N,rfl⟩:=D;simp_all [HE,D7]
     grind
theorem LP {ops:List Oper} {o:Oper} {tm:List TV} {bx:List (Nat×Box)} {aC A:List (Nat×Row)} {q:Prim} {id:Nat} {v:TV} (h1:AH ops o tm=some true) (h2:opK P C (Ai tm) o.dst o.op some=some q)
  (h3:DT o.dst (q.dr false)=some id) (D:DZ o.dst aC (q.dr false)=some (v,A)) (E:Prim.isApp (some (q.dr false))=true):
  AI (P:=P) (C:=C) ops o ⟨tm,bx,aC⟩=some (some (q.dr false),⟨AT (tm.map (TV.kill id)) o.dst v,bx.map λp=>(p.1,p.2.kill id),A⟩):=by simp_all [AI,BE,HE,D7]
theorem GQ {ops:List Oper} {o:Oper} {tm:List TV} {bx:List (Nat×Box)} {aC:List (Nat×Row)} {p:Option Prim} {J:St} (h:AI (P:=P) (C:=C) ops o ⟨tm,bx,aC⟩=some (p,J)) (E:Prim.isMk p=true):
  AH ops o tm=some true/\∃q v A,opK P C (Ai tm) o.dst o.op some=some q/\p=some (q.dr false)/\mkD (C:=C) o.dst (q.dr false) aC=some (v,A)/\J=⟨AT tm o.dst v,bx,A⟩:=by
 unfold AI at h;dsimp only at h;cases L:AH ops o tm with
 |none=>grind
 |some b=>
  cases b
  ·grind [Prim.isMk]
  ·rw[L]at h;refine⟨rfl,?_⟩;dsimp only at h;cases N:opK P C (Ai tm) o.dst o.op some with
   |none=>grind
   |some q=>
    rw[N]at h;simp only[ak]at h;cases D:BE (C:=C) o.dst (q.dr false) ⟨tm,bx,aC⟩with
    |none=>grind
    |some z=>
     rw[D]at h;simp at h;obtain⟨rfl,rfl⟩:=h;have G:Prim.isApp (some (q.dr false))=false:=by
      generalize q.dr false=O at E⊢;cases O<;>simp[Prim.isMk]at E<;>rfl
     unfold BE at D;rw[G,E]at D;simp only[aj,ac,ap]at D;obtain⟨⟨y1,y2⟩,Q,rfl⟩:=D;simp_all [D7]
theorem GI {ops:List Oper} {o:Oper} {tm:List TV} {bx:List (Nat×Box)} {aC A:List (Nat×Row)} {q:Prim} {v:TV} (h1:AH ops o tm=some true) (h2:opK P C (Ai tm) o.dst o.op some=some q)
  (J:mkD (C:=C) o.dst (q.dr false) aC=some (v,A)) (D:Prim.isMk (some (q.dr false))=true):
  AI (P:=P) (C:=C) ops o ⟨tm,bx,aC⟩=some (some (q.dr false),⟨AT tm o.dst v,bx,A⟩):=by
 have E:Prim.isApp (some (q.dr false))=false:=by
  generalize q.dr false=G at D⊢;cases G<;>simp[Prim.isMk]at D<;>rfl
 simp_all [AI,BE,D7]
theorem Pf {id:Nat} {a:AC} (h:a.live=true):a.kill id=a:=by cases a<;>simp[AC.live]at h<;>rfl
theorem Po {id:Nat} {a:AC} (h:(a.kill id).live=true):a.kill id=a:=by
 cases a<;>simp only[AC.kill]at h⊢<;>try rfl
 all_goals
  grind [AC.live]
theorem F2 {id:Nat}:∀{l:List AC},Ab AC.live l=true->l.map (AC.kill id)=l
 |[],_=>rfl
 |a::l,h=>by
  rw[Af]at h;simp only[av];rw[Pf (h a (by simp)),F2 (Af.2 λx A=>h x (by grind))]
theorem Gs {id:Nat}:∀{l:List AC},Ab AC.live (l.map (AC.kill id))=true->l.map (AC.kill id)=l
 |[],_=>rfl
 |a::l,h=>by
  rw[Af]at h;simp only[av]at h⊢;rw[Po (h _ (by simp)),Gs (Af.2 λx A=>h x (by grind))]
theorem G9 (id:Nat):∀(tm:List TV) (t:Nat),nth .vD (tm.map (TV.kill id)) t=(nth .vD tm t).kill id
 |[],_=>rfl
 |_::_,0=>rfl
 |_::tm,t+1=>G9 id tm t
theorem FZ {id:Nat} {tm:List TV} {x:Operand} {g:Bool} {cs:List AC} (h:Ai tm x= .v g cs) (A:Ab AC.live cs=true):Ai (tm.map (TV.kill id)) x= .v g cs:=by
 cases x<;>try exact h
 grind [Ai,G9,TV.kill,F2]
theorem FD {id:Nat} {tm:List TV} {x:Operand} {g:Bool} {cs:List AC} (h:Ai (tm.map (TV.kill id)) x= .v g cs) (D:Ab AC.live cs=true):Ai tm x= .v g cs:=by
 cases x<;>try exact h
 simp only[Ai]at h⊢;rw[G9]at h;cases E:nth TV.vD tm (by omega)with
 |vD=>grind [TV.kill]
 |tup ps=>grind [TV.kill]
 |v G A=>grind [TV.kill,Gs]
theorem HW {q:Prim} (h:Prim.isPtr (some (q.dr false))=true):∃k o,q= .val (.v false [.ptr k o]):=by
 cases q<;>simp only[Prim.dr,Prim.isPtr]at h<;>try (simp at h;done)
 case callM f args=>grind
 grind
theorem IY {q:Prim} (h:Prim.isLive (some (q.dr false))=true):∃g cs,q= .val (.v g cs)/\Ab AC.live cs=true:=by
 cases q<;>simp only[Prim.dr,Prim.isLive]at h<;>try (simp at h;done)
 case callM f args=>grind
 grind
theorem RB {a:AC} (h:a.plain=true):a.live=true:=by cases a<;>simp[AC.plain]at h<;>rfl
theorem Gr {l:List AC} (h:Ab AC.plain l=true):Ab AC.live l=true:=by grind [Af,RB]
theorem ST {id:Nat}:∀{u:TV},(u.kill id).plainB=true->u.kill id=u
 | .vD,_=>rfl
 | .v g cs,h=>by grind [TV.kill,TV.plainB,Gs,Gr]
 | .tup ps,h=>by
  simp only[TV.kill,TV.plainB]at h⊢;congr 1;induction ps with
  |nil=>rfl
  |cons p ps A=>
   rw[Af]at h;simp only[av]at h⊢;rw[Gs (Gr (h (p.1,p.2.map (AC.kill id)) (by simp))),A (Af.2 λx D=>h x (dc _ D))]
theorem Il {id:Nat}:∀{u:TV},u.plainB=true->u.kill id=u
 | .vD,_=>rfl
 | .v g cs,h=>by grind [TV.kill,TV.plainB,F2,Gr]
 | .tup ps,h=>by
  simp only[TV.kill,TV.plainB]at h⊢;congr 1;induction ps with
  |nil=>rfl
  |cons p ps A=>
   rw[Af]at h;simp only[av];rw[F2 (Gr (h p (by simp))),A (Af.2 λx D=>h x (dc _ D))]
theorem Oy {id:Nat} {tm:List TV} {x:Operand} {v:TV} (A:v.plainB=true):Ai (tm.map (TV.kill id)) x=v↔Ai tm x=v:=by
 cases x<;>try exact Iff.rfl
 grind [Ai,G9,ST,Il]
theorem Nw {id:Nat} {tm:List TV}:∀(l:List Operand) {A:List TV},Ab TV.plainB A=true->(AG (Ai (tm.map (TV.kill id))) l=A↔AG (Ai tm) l=A)
 |[],A,_=>Iff.rfl
 |x::l,[],_=>by simp[AG]
 |x::l,v::A,h=>by
  rw[Af]at h;simp only[AG,a9];rw[Oy (h v (by simp)),Nw l (Af.2 λy D=>h y (by grind))]
theorem K_ {q:Prim} (h:Prim.isCallP (some (q.dr false))=true):∃f args,q= .call f args/\Ab TV.plainB args=true:=by
 cases q<;>simp only[Prim.dr,Prim.isCallP]at h<;>try (simp at h;done)
 case callM f args=>grind
 grind
theorem JQ {g:Int->Int->Int} {k:IntKind} {as:List TV} {f:FuncId}:∀{l:List TV} {a:Int},BP g k a l some≠some (.call f as)
 |[],a,h=>by grind [BP]
 |t::l,a,h=>by
  simp only[BP]at h;split at h
  ·rename_i k' b;cases hb:kEq k k'<;>rw[hb]at h
   ·grind
   ·exact JQ h
  grind
theorem QQ {b:Builtin} {A:List TypeId} {args as:List TV} {f:FuncId}:DE P b A args some≠some (.call f as):=by
 intro h;unfold DE at h
 repeat' split at h
 all_goals first|(simp at h;done)|skip
 all_goals first|(simp only[cond_eq_ite]at h;grind)|(simp only[cond_eq_ite]at h;repeat' split at h)|skip
 all_goals grind [JQ]
theorem QF {A:Operand->TV} {dst:Option Tmp} {c:Call} {f:FuncId} {args:List TV}:
  opK P C A dst (.call c) some=some (.call f args)↔c.callee= .value (.func f)/\C.pure f=true/\AG A c.args.toList=args:=by
 simp only[opK];split
 ·grind [QQ]
 ·grind
 ·grind
 grind
theorem K5 {q:Prim} (h:Prim.isLoad (some (q.dr false))=true):∃g sz key off,q= .load g sz key off:=by
 cases q<;>simp only[Prim.dr,Prim.isLoad]at h<;>try (simp at h;done)
 case callM f args=>grind
 simp
theorem NY {A:Operand->TV} {dst:Option Tmp} {t:TypeId} {a:Operand} {g:Bool} {sz key off:Nat} (h:opK P C A dst (.load t a) some=some (.load g sz key off)):A a= .v false [.ptr key off]:=by
 simp only[opK]at h
 grind
theorem Sj {id:Nat} {g:Bool} {sz off:Nat} {cells:List AC}:Bb g sz (cells.map (AC.kill id)) off=(Bb g sz cells off).map (TV.kill id):=by
 unfold Bb;cases g
 ·simp only[aj,bn];cases cells[off]? <;>rfl
 ·simp only[ac,bj];cases Nat.ble (off+sz) cells.length
  ·rfl
  simp[TV.kill,Tz]
theorem J8 {id:Nat}:∀(bx:List (Nat×Box)) (k:Nat),Aa (bx.map λp=>(p.1,p.2.kill id)) k=(Aa bx k).map (Box.kill id)
 |[],_=>rfl
 |(j,b)::bx,k=>by
  simp only[av,Aa];cases Nat.beq j k
  ·exact J8 bx k
  ·rfl
theorem QD {k:Kd} {a b:AC} (h:Fk k a=some b):a.live=true:=by
 cases k<;>cases a<;>simp[Fk]at h<;>rfl
theorem Mr:∀{ks:List Kd} {cs c:List AC},B0 ks cs=some c->Ab AC.live cs=true
 |[],[],_,_=>rfl
 |[],_::_,_,h=>by grind [B0]
 |_::_,[],_,h=>by rfl
 |k::ks,a::cs,c,h=>by
  simp only[B0]at h;split at h
  ·rename_i A h1;split at h
   ·rename_i c' h2;have:=Af.1 (Mr h2)
    grind [Af,QD]
   grind
  grind
theorem Na:∀{α:Type} (l v:List α),l.length=v.length->splice l 0 v=v
 |_,[],[],_=>rfl
 |_,[],_::_,h=>by grind
 |_,_::_,[],h=>by grind
 |_,x::l,y::v,h=>by simp only[splice];rw[Na l v (by grind)]
theorem NS {A:Operand->TV} {dst:Option Tmp} {t:TypeId} {parts:Array (Nat×Operand)} {x:Operand} (G:parts.toList=[(0,x)]) {e:TypeId} {ks:List Kd} {l:List (List AC)}
  (h:opK P C A dst (.buildSlice t 1 parts) some=some (.newView e ks l)):∃g cs,A x= .v g cs/\Ab AC.live cs=true:=by
 simp only[opK,G,BZ]at h;split at h
 ·split at h
  ·rename_i w z D _ _ _;cases hb:(Nat.beq z.length w&&Nat.beq D.length w&&Nat.ble 1 w&&Nat.ble (1*w) 65536)<;>rw[hb]at h
   ·grind
   ·simp only[ac]at h;simp only[af,Nat.beq_eq]at hb;obtain⟨⟨⟨h1,h2⟩,_⟩,_⟩:=hb;cases J:A x with
    |vD=>grind [Cb,TV.cells]
    |tup ps=>grind [Cb,TV.cells]
    |v g cs=>
     refine⟨g,cs,rfl,?_⟩;rw[J]at h;simp only[Cb,TV.cells]at h;cases E:(Nat.beq cs.length w&&Nat.ble (0*w+w) (chunk z 1).length)<;>rw[E]at h
     ·grind
     ·simp only[ac]at h;simp only[af,Nat.beq_eq]at E;rw[show splice (chunk z 1) (0*w) cs=cs from by simp_all [Na,chunk]]at h
      grind [Cw,Mr]
  grind
 grind
theorem QV {l:List (Nat×Operand)} (h:oneP l=true):∃x,l=[(0,x)]:=by
 match l,h with
 |[(0,x)],_=>simp
theorem NC {q:Prim} (h:Prim.isView (some (q.dr false))=true):∃e ks l,q= .newView e ks l:=by
 cases q<;>simp only[Prim.dr,Prim.isView]at h<;>try (simp at h;done)
 case callM f args=>grind
 simp
theorem Ku {id:Nat} {tm:List TV} {dst:Option Tmp} {o:Op} {q:Prim} (A:Prim.still o (some (q.dr false))=true):
  opK P C (Ai (tm.map (TV.kill id))) dst o some=some q↔opK P C (Ai tm) dst o some=some q:=by
 cases o<;>simp[Prim.still]at A
 case call c=>grind [K_,QF,Nw]
 case build t parts=>
  have key:∀x∈(Op.build t parts).operands,Ai (tm.map (TV.kill id)) x=Ai tm x:=by
   intro x E;simp only[Op.operands]at E;simp at E;obtain⟨a,L⟩:=E;have:=Af.1 A.1 (a,x) (by grind);cases x<;>simp[Nq]at this
   rfl
  rw[Eb key]
 case load t a=>
  obtain⟨g,sz,key,off,rfl⟩:=K5 A;have N:Ab AC.live [AC.ptr key off]=true:=rfl
  grind [NY,FD,Eb,Op.operands,FZ]
 case buildSlice t n parts=>
  obtain⟨⟨rfl,ho⟩,O⟩:=A;obtain⟨x,E⟩:=QV ho;obtain⟨e,ks,l,rfl⟩:=NC O;have Q:∀y∈(Op.buildSlice t 1 parts).operands,y=x:=by
   intro y G;simp only[Op.operands]at G;simp at G;obtain⟨a,L⟩:=G;have:(a,y)∈parts.toList:=by simpa using L
   rw[E]at this;simp at this;exact this.2
  grind [NS,FD,Eb,FZ]
 case move x=>
  obtain⟨g,cs,rfl,A⟩:=IY A;simp only[opK,ag,Prim.val.injEq]
  grind [FD,FZ]
 case nilCheck x=>
  obtain⟨k,o,rfl⟩:=HW A;have N:Ab AC.live [AC.ptr k o]=true:=rfl;have key:∀D:Operand->TV,opK P C D dst (.nilCheck x) some=some (.val (.v false [.ptr k o]))↔D x= .v false [.ptr k o]:=by
   intro D;simp only[opK];split
   ·grind
   ·grind
   ·grind
   ·grind
  grind [FD,FZ]
 case fieldAddr t x i=>
  obtain⟨k,o,rfl⟩:=HW A;have key:∀D:Operand->TV,opK P C D dst (.fieldAddr t x i) some=some (.val (.v false [.ptr k o]))->∃k' J,D x= .v false [.ptr k' J]:=by
   intro D h;simp only[opK]at h
   repeat' grind
   all_goals grind
  constructor
  ·intro h;obtain⟨k',J,e⟩:=key _ h;have e2:=FD e rfl
   grind [Eb,Op.operands]
  ·intro h;obtain⟨k',J,e⟩:=key _ h;have e2:=FZ (id:=id) e rfl
   grind [Eb,Op.operands]
theorem La {id:Nat} {tm:List TV} {d:Option Tmp} {v:TV}:(AT tm d v).map (TV.kill id)=AT (tm.map (TV.kill id)) d (v.kill id):=by
 cases d with
 |none=>rfl
 |some t=>grind [AT,CF,List.map_set]
theorem Fx {ops:Array Oper} {o:Oper} {tm:List TV} {d:Option Tmp} {v:TV} (h:∀t,d=some t->t∉o.looksAt ops):AH ops.toList o (AT tm d v)=AH ops.toList o tm:=by
 cases d with
 |none=>rfl
 |some t=>
  have J:=h t rfl;unfold AH;cases L:o.guard with
  |none=>rfl
  |some D=>
   obtain⟨j,want⟩:=D;dsimp only;cases E:ops.toList[j]? with
   |none=>rfl
   |some A=>
    dsimp only;cases N:A.dst with
    |none=>rfl
    |some q=>
     dsimp only;have G:ops[j]? =some A:=by simpa using E
     simp_all [Oper.looksAt,AT,Au,CF]
theorem GK {ops:Array Oper} {o:Oper} {tm:List TV} {bx:List (Nat×Box)} {aC:List (Nat×Row)} {d:Option Tmp} {v:TV} (h:∀t,d=some t->t∉o.looksAt ops):
  A6 P C ops.toList o (AT tm d v) bx aC=A6 P C ops.toList o tm bx aC:=by
 unfold A6;rw[Fx h];cases d with
 |none=>rfl
 |some t=>
  have A:=h t rfl;rw [show opK P C (Ai (AT tm (some t) v)) o.dst o.op some = opK P C (Ai tm) o.dst o.op some from Eb (λx D => KA (by
   rintro rfl;exact A (List.mem_append_left _ (List.mem_filterMap.2 ⟨.tmp t,by grind,rfl⟩)))) some]
theorem D9 {a b:Nat} (h:a≠b):Nat.beq a b=false:=DN h
theorem Hv {α:Type}:∀(l:List (Nat×α)) (k j:Nat) (x y:α),k≠j->upd (upd l k x) j y=upd (upd l j y) k x
 |[],_,_,_,_,_=>rfl
 |(i,b)::l,k,j,x,y,h=>by
  by_cases h1:i=k
  ·simp_all [upd,D9]
  ·by_cases h2:i=j
   ·simp_all [upd,D9]
   ·simp only[upd,D9 h1,D9 h2,aj];rw[Hv l k j x y h]
theorem Co {a b:Nat} (h:a<b):Nat.blt a b=true:=by simp_all
theorem Ch {a b:Nat} (h: ¬a<b):Nat.blt a b=false:=by
 cases hb:Nat.blt a b
 ·rfl
 ·simp at hb;omega
theorem H5 {α:Type}:∀(l:List (Nat×α)) (k j:Nat) (x y:α),k≠j->ins (ins l k x) j y=ins (ins l j y) k x
 |[],k,j,x,y,h=>by
  by_cases h1:j<k
  ·simp only[ins,Co h1,ac,Ch (show¬k<j by omega),aj]
  ·simp only[ins,Ch h1,aj,Co (show k<j by omega),ac]
 |(i,b)::l,k,j,x,y,h=>by
  by_cases h1:k<i<;>by_cases h2:j<i
  ·by_cases h3:j<k
   ·simp only[ins,Co h1,Co h2,Co h3,Ch (show¬k<j by omega),ac,aj]
   ·simp only[ins,Co h1,Co h2,Ch h3,Co (show k<j by omega),ac,aj]
  ·simp only[ins,Co h1,Ch h2,Ch (show¬j<k by omega),ac,aj]
  ·simp only[ins,Ch h1,Co h2,Ch (show¬k<j by omega),ac,aj]
  ·simp only[ins,Ch h1,Ch h2,aj];rw[H5 l k j x y h]
theorem Gp {α:Type}:∀(l:List (Nat×α)) (k j:Nat) (x y:α),k≠j->upd (ins l k x) j y=ins (upd l j y) k x
 |[],k,j,x,y,h=>by simp_all [ins,upd,D9]
 |(i,b)::l,k,j,x,y,h=>by
  by_cases h1:k<i<;>by_cases h2:i=j
  ·simp_all [ins,upd,Co,D9]
  ·simp_all [ins,upd,Co,D9]
  ·simp_all [ins,upd,Ch]
  ·simp only[ins,upd,Ch h1,D9 h2,aj];rw[Gp l k j x y h]
theorem Eq {d:Option Tmp} {f:FuncId} {args:List TV} {bx A:List (Nat×Box)} {aC:List (Nat×Row)} {v:TV} (h:Ae (C:=C) d (.call f args) bx aC=some (v,A)):
  A=bx/\∀(E:Option Tmp) (D:List (Nat×Box)),Ae (C:=C) E (.call f args) D aC=some (v,D):=by
 simp only[Ae]at h⊢;cases h1:C.spec f with
 |none=>grind
 |some g=>grind
theorem Kr {aC A:List (Nat×Row)}:∀{args:List TV},Ab TV.plainB args=true->B5 aC args=B5 A args:=by
 have h1:∀{l:List AC},Ab AC.plain l=true->Bt aC l=Bt A l:=by
  intro l;induction l with
  |nil=>intro _;rfl
  |cons a l D=>
   intro h;rw[Af]at h;simp only[Bt];rw[D (Af.2 λx G=>h x (by grind))];have E:=h a (by simp);cases a<;>simp[AC.plain]at E<;>rfl
 intro args;induction args with
 |nil=>intro _;rfl
 |cons a l D=>
  intro h;rw[Af]at h;simp only[B5];rw[D (Af.2 λx G=>h x (by grind))];have E:=h a (by simp);have:a.res aC=a.res A:=by
   cases a with
   |vD=>rfl
   |tup ps=>rfl
   |v g cs=>simp only[TV.res];rw[h1 E]
  grind
theorem Ks {d:Option Tmp} {f:FuncId} {args:List TV} {bx A:List (Nat×Box)} {aC:List (Nat×Row)} {v:TV} (h:Ae (C:=C) d (.call f args) bx aC=some (v,A)):v.plainB=true:=by
 simp only[Ae]at h
 grind
def IH (C:Cfg) (id:Nat) (d:Option Tmp) (bx:List (Nat×Box)) (q:Prim):Prop:=
  (∀{v D aC},Ae (C:=C) d (q.dr false) bx aC=some (v,D)->D=bx/\∀A,Ae (C:=C) d (q.dr false) (bx.map λp=>(p.1,p.2.kill id)) A=some (v.kill id,bx.map λp=>(p.1,p.2.kill id)))/\
  ∀{v D aC},Ae (C:=C) d (q.dr false) (bx.map λp=>(p.1,p.2.kill id)) aC=some (v,D)->D=(bx.map λp=>(p.1,p.2.kill id))/\∃u,u.kill id=v/\∀A,Ae (C:=C) d (q.dr false) bx A=some (u,bx)
theorem L3 {id:Nat} {o:Op} {q:Prim} {d:Option Tmp} {bx:List (Nat×Box)} (D:Prim.still o (some (q.dr false))=true):IH C id d bx q:=by
 have J:∀g cs,q= .val (.v g cs)->Ab AC.live cs=true->IH C id d bx q:=by
  rintro g cs rfl G;have e:(TV.v g cs).kill id= .v g cs:=by simp only[TV.kill];rw[F2 G]
  refine⟨fun{v A aC} h=> ?_,fun{v A aC} h=> ?_⟩
  ·simp_all [Prim.dr,Ae]
  ·simp_all [Prim.dr,Ae]
 cases o<;>simp[Prim.still]at D
 case call c=>
  obtain⟨f,args,rfl,L⟩:=K_ D;refine⟨fun{v A aC} h=> ?_,fun{v A aC} h=> ?_⟩
  ·obtain⟨rfl,h2⟩:=Eq h;refine⟨rfl,λE=> ?_⟩;rw[Il (Ks h)];have:=h2 d (A.map λp=>(p.1,p.2.kill id));simp only[Prim.dr,Ae]at this⊢
   grind [Kr]
  ·obtain⟨rfl,h2⟩:=Eq h;refine⟨rfl,v,Il (Ks h),λE=> ?_⟩;have:=h2 d bx;simp only[Prim.dr,Ae]at this⊢
   grind [Kr]
 case load t a=>
  obtain⟨g,sz,key,off,rfl⟩:=K5 D;simp only[IH,Prim.dr,Ae,J8];cases Aa bx key with
  |none=>simp
  |some b=>
   simp only[Option.map_some,Box.kill,Sj];cases Bb g sz b.cells off with
   |none=>simp
   |some u=>simp
 case move x=>obtain⟨g,cs,rfl,G⟩:=IY D;grind
 case build t parts=>obtain⟨g,cs,rfl,G⟩:=IY D.2;grind
 case buildSlice t n parts=>
  obtain⟨e,ks,l,rfl⟩:=NC D.2;refine⟨fun{v A aC} h=> ?_,fun{v A aC} h=> ?_⟩
  ·simp only[Prim.dr,Ae,ag,a8]at h;obtain⟨rfl,rfl⟩:=h;exact⟨rfl,λ_=>rfl⟩
  ·simp only[Prim.dr,Ae,ag,a8]at h;obtain⟨rfl,rfl⟩:=h;exact⟨rfl,_,rfl,λ_=>rfl⟩
 all_goals
  obtain⟨k,o,rfl⟩:=HW D;exact J _ _ rfl rfl
theorem SE {d:Option Tmp} {g:Bool} {sz id idx sub:Nat} {bx A:List (Nat×Box)} {aC:List (Nat×Row)} {v:TV} (h:Ae (C:=C) d (.rload g sz id idx sub) bx aC=some (v,A)):
  A=bx/\∀(D:Option Tmp) (b':List (Nat×Box)),Ae (C:=C) D (.rload g sz id idx sub) b' aC=some (v,b'):=by
 simp only[Ae]at h⊢
 repeat' split at h
 all_goals first|(simp at h;done)|skip
 simp at h;obtain⟨rfl,rfl⟩:=h;exact⟨rfl,λ_ _=>rfl⟩
theorem LS {n k:Nat}:∀{l:List Nat},k∈Fv n l↔k=n\/k∈l
 |[]=>by simp[Fv]
 |m::l=>by
  simp only[Fv];cases hb:Nat.beq m n
  ·simp only[aj,an,LS (l:=l)]
   grind
  simp_all
theorem LJ {k:Nat}:∀{ns l:List Nat},k∈As ns l↔k∈ns\/k∈l
 |[],l=>by simp[As]
 |n::ns,l=>by
  simp only[As,LJ (ns:=ns),LS,an]
  grind
theorem GY {α β:Type} {g:α->List β} {x:β}:∀{l:List α},x∈cat g l↔∃a∈l,x∈g a
 |[]=>by simp[cat]
 |a::l=>by simp[cat,GY (l:=l)]
theorem GG {k:Nat}:∀{l:List AC},k∈AC.keys.keysL l->∃o,AC.ptr k o∈l
 |[],h=>by grind [AC.keys.keysL]
 |a::l,h=>by
  cases a
  case ptr j o=>
   simp only[AC.keys.keysL,an]at h;rcases h with rfl|h
   ·simp
   ·obtain⟨A,h'⟩:=GG h;grind
  all_goals
   simp only[AC.keys.keysL]at h;obtain⟨A,h'⟩:=GG h
   grind
theorem SA {bx:List (Nat×Box)} {aC:List (Nat×Row)} {args:List TV} (h:∀v∈args,TV.wf bx aC v) {k:Nat} (J:k∈As (cat AC.keys (cat TV.cellsOf args)) []):∃b,Aa bx k=some b:=by
 simp only[LJ,List.not_mem_nil,or_false]at J;obtain⟨a,N,A⟩:=GY.1 J;obtain⟨v,O,E⟩:=GY.1 N;have L:=h v O;have D:AC.wf bx aC a:=by
  cases v with
  |vD=>grind [TV.cellsOf]
  |v g cs=>exact L a E
  |tup ps=>
   simp only[TV.cellsOf]at E;obtain⟨p,Q,G⟩:=GY.1 E;exact L p Q a G
 cases a
 case ptr j o=>simp[AC.keys]at A;subst A;exact D
 case bsl j o=>simp[AC.keys]at A;subst A;exact D
 case clo f fs cs=>
  simp only[AC.keys,bt]at A;rcases A with A|A
  ·obtain⟨o,ho⟩:=GG A;exact D.1 _ ho
  ·obtain⟨o,ho⟩:=GG A;exact D.2 _ ho
 all_goals grind [AC.keys]
theorem Nm {bx A:List (Nat×Box)} {D ri:Nat->Nat}:∀(keys:List Nat) (b:Nat),(∀k∈keys,Aa A k=Aa bx k)->AZ A D ri b keys=AZ bx D ri b keys
 |[],_,_=>rfl
 |k::keys,b,h=>by
  simp only[AZ];rw[h k (by simp),Nm keys (b+1) λj E=>h j (by grind)]
theorem MB {α:Type} {p q:α->Bool}:∀{l:List α},(∀x∈l,p x=q x)->Ab p l=Ab q l
 |[],_=>rfl
 |a::l,h=>by simp only[Ab];rw[h a (by simp),MB (l:=l) λx A=>h x (by grind)]
theorem Eu {keys:List Nat}:∀(m:List (Nat×Box)) (l:List (Nat×Box)) (n:Nat),(∀p∈m,n≠nth 0 keys (p.1-base))->Aa (AS keys m l) n=Aa l n
 |[],_,_,_=>rfl
 |(j,c)::m,l,n,h=>by
  simp only[AS];rw[Eu m _ n λp A=>h p (by grind)];simp_all [AY]
theorem ID {keys:List Nat}:∀(m:List (Nat×Box)) (l:List (Nat×Box)) (n:Nat) (x:Box),(∀p∈m,n≠nth 0 keys (p.1-base))->AS keys m (upd l n x)=upd (AS keys m l) n x
 |[],_,_,_,_=>rfl
 |(j,c)::m,l,n,x,h=>by
  simp only[AS];rw[Hv _ _ _ _ _ (h (j,c) (by simp)),ID m _ n x λp A=>h p (by grind)]
theorem Ia {keys:List Nat}:∀(m:List (Nat×Box)) (l:List (Nat×Box)) (n:Nat) (x:Box),(∀p∈m,n≠nth 0 keys (p.1-base))->AS keys m (ins l n x)=ins (AS keys m l) n x
 |[],_,_,_,_=>rfl
 |(j,c)::m,l,n,x,h=>by
  simp only[AS];rw[Gp _ _ _ _ _ (h (j,c) (by simp)),Ia m _ n x λp A=>h p (by grind)]
theorem G3 {d:Option Tmp} {f:FuncId} {args:List TV} {bx G:List (Nat×Box)} {aC:List (Nat×Row)} {v:TV} (h:Ae (C:=C) d (.callD f args) bx aC=some (v,G)):
  ∃A,G=AS (As (cat AC.keys (cat TV.cellsOf args)) []) A bx/\(∀p∈A,nth 0 (As (cat AC.keys (cat TV.cellsOf args)) []) (p.1-base)∈As (cat AC.keys (cat TV.cellsOf args)) [])/\v.plainB=true/\
   ∀(N:Option Tmp) (D:List (Nat×Box)),(∀k∈As (cat AC.keys (cat TV.cellsOf args)) [],Aa D k=Aa bx k)->Ae (C:=C) N (.callD f args) D aC=some (v,AS (As (cat AC.keys (cat TV.cellsOf args)) []) A D):=by
 simp only[Ae]at h⊢;generalize As (cat AC.keys (cat TV.cellsOf args)) []=keys at h⊢;cases h1:C.spec f with
 |none=>grind
 |some g=>
  rw[h1]at h;dsimp only at h⊢;split at h
  ·rename_i O;split at h
   ·rename_i S J;split at h
    ·rename_i T A U;split at h
     ·rename_i L;simp only[ag,a8]at h;obtain⟨rfl,rfl⟩:=h;have E:=L;simp only[af]at E;refine⟨A,rfl,λp V=> ?_,E.2,λN D Q=> ?_⟩
      ·grind [GN,Af,DP,Cc]
      ·rw[MB (q:=λk=>Ab AC.calm (Bv bx k)) (λk X=>by grind [Bv]),Nm keys base Q,J,cm O]
       grind
     grind
    grind
   grind
  grind
theorem FO {keys:List Nat}:∀(m:List (Nat×Box)) (l:List (Nat×Box)) {n:Nat} {b:Box},Aa l n=some b->∃b',Aa (AS keys m l) n=some b'
 |[],_,_,b,h=>⟨b,h⟩
 |(j,c)::m,l,n,b,h=>by
  simp only[AS];by_cases e:n=nth 0 keys (j-base)
  ·subst e;exact FO m _ (Bn _ _ _ _ h)
  ·exact FO m _ (b:=b) (by grind [AY])
theorem Tu {d:Option Tmp} {f:FuncId} {args:List TV} {bx A:List (Nat×Box)} {aC:List (Nat×Row)} {v:TV} (h:Ae (C:=C) d (.callD f args) bx aC=some (v,A)):
  ∀k∈As (cat AC.keys (cat TV.cellsOf args)) [],∃b,Aa bx k=some b:=by
 simp only[Ae]at h;generalize As (cat AC.keys (cat TV.cellsOf args)) []=keys at h⊢;split at h
 ·split at h
  ·split at h
   ·rename_i G D;intro k E;obtain⟨x,q,_⟩:=(DP D).1 (pos keys k) (A4 E).1;simp_all [A4]
   grind
  grind
 grind
theorem J1 {α:Type}:∀(l:List (Nat×α)) (k:Nat) (x:α),Aa l k=some x->upd l k x=l
 |[],_,_,_=>rfl
 |(j,b)::l,k,x,h=>by
  simp only[Aa,upd]at h⊢;cases A:Nat.beq j k
  ·rw[A]at h;simp only[aj]at h⊢;rw[J1 l k x h]
  grind
theorem Lw {keys:List Nat} {bx:List (Nat×Box)} {rk ri:Nat->Nat}:∀(ks pre:List Nat) (D:List (Nat×Box)),keys=pre++ks->AZ bx rk ri (base+pre.length) ks=some D->(∀k∈ks,Ab AC.calm (Bv bx k)=true)->AS keys D bx=bx
 |[],_,D,_,h,_=>by simp[AZ]at h;subst h;rfl
 |k::ks,pre,D,J,h,E=>by
  simp only[AZ]at h;split at h
  ·rename_i x G;split at h
   ·rename_i l N;simp only[ag]at h;subst h;simp only[AS];have L:nth 0 keys (base+pre.length-base)=k:=by
     rw[show base+pre.length-base=pre.length from by omega,Au,J];simp
    have A:=E k (by simp);unfold Bv at A;rw[G]at A;rw[L,FQ A,J1 bx k _ G];exact Lw (rk:=rk) (ri:=ri) ks (pre++[k]) l (by grind) (by grind) (λj O=>E j (by grind))
   grind
  grind
theorem Gu (A:Ak P C) {d:Option Tmp} {f:FuncId} (D:C.ro f=true) {args:List TV} {bx bx1:List (Nat×Box)} {aC:List (Nat×Row)} {v:TV} (h:Ae (C:=C) d (.callD f args) bx aC=some (v,bx1)):bx1=bx:=by
 simp only[Ae]at h;generalize As (cat AC.keys (cat TV.cellsOf args)) []=keys at h;cases h1:C.spec f with
 |none=>grind
 |some g=>
  rw[h1]at h;dsimp only at h;split at h
  ·rename_i G;simp only[af]at G;split at h
   ·rename_i J E;split at h
    ·rename_i Q L N;split at h
     ·simp only[ag,a8]at h;have e:=A.2.1 f g h1 D _ _ _ _ N;simp only[Mem.mk.injEq,cy]at e;rw[<-h.2,e];exact Lw keys [] J rfl (by simpa using E) (λk O=>Af.1 G.1.2 k O)
     grind
    grind
   grind
  grind
theorem PM (Q:Ak P C) {V N:Option Tmp} {pi pj:Prim} {bx bx1 J:List (Nat×Box)} {aC:List (Nat×Row)} {vi vj:TV} (D:Ae (C:=C) V pi bx aC=some (vi,bx1)) (A:Ae (C:=C) N pj bx1 aC=some (vj,J))
  (hm:Prim.meet C.ro (some pi) (some pj)=false) (hd:∀t,V=some t->N≠some t) (a4:Prim.wf bx aC pj):
  ∃a2,Ae (C:=C) N pj bx aC=some (vj,a2)/\Ae (C:=C) V pi a2 aC=some (vi,J):=by
 have a5:∀{a b:Nat},Nat.beq a b=false->a≠b:=λh e=>by simp_all
 cases pi<;>simp only[Ae]at D<;>try (simp at D;done)
 case val v=>simp at D;obtain⟨rfl,rfl⟩:=D;exact⟨J,A,rfl⟩
 case newView e ks l=>simp at D;obtain⟨rfl,rfl⟩:=D;exact⟨J,A,rfl⟩
 case rload g sz id idx sub=>grind [Ae]
 case callD f args=>
  obtain⟨L,rfl,X,_,hc⟩:=G3 (C:=C) (d:=V) (f:=f) (args:=args) (aC:=aC) (by simpa only[Ae]using D);have E:=hc V bx λ_ _=>rfl;have S:∀k∈As (cat AC.keys (cat TV.cellsOf args)) [],∃b,Aa bx k=some b:=Tu (C:=C) (d:=V) (f:=f) (v:=vi) (aC:=aC) (by simpa only[Ae]using E);cases pj<;>simp only[Ae]at A<;>try (simp at A;done)
  case val v=>simp at A;obtain⟨rfl,rfl⟩:=A;exact⟨bx,rfl,E⟩
  case newView e ks l=>simp at A;obtain⟨rfl,rfl⟩:=A;exact⟨bx,rfl,E⟩
  case rload g sz id idx sub=>grind [Ae]
  case call f' a6=>
   obtain⟨rfl,b2⟩:=Eq (d:=N) A
   grind
  case load g sz k' Y=>
   cases b0:C.ro f
   case true=>grind [Gu,Ae]
   have O:k'∉As (cat AC.keys (cat TV.cellsOf args)) []:=λe=>by
    have:=BO.2 e;simp_all [Prim.meet]
   grind [Eu,Ae]
  case store k' Y G=>
   have O:k'∉As (cat AC.keys (cat TV.cellsOf args)) []:=λe=>by grind [BO,Prim.meet]
   have a0:∀p∈L,k'≠nth 0 (As (cat AC.keys (cat TV.cellsOf args)) []) (p.1-base):=λp hp e=>O (by grind);rw[Eu _ _ _ a0]at A;cases h2:Aa bx k' with
   |none=>grind
   |some b'=>
    rw[h2]at A;dsimp only at A;split at A
    ·rename_i T;simp at A;obtain⟨rfl,rfl⟩:=A;refine⟨upd bx k' ⟨b'.ty,splice b'.cells Y G⟩,by simp only[Ae,h2,T,cq],?_⟩
     grind [AY,ID]
    grind
  case new ty G=>
   split at A
   ·rename_i d;split at A
    ·grind
    ·rename_i hn;simp at A;obtain⟨rfl,rfl⟩:=A;have a0:∀p∈L,d≠nth 0 (As (cat AC.keys (cat TV.cellsOf args)) []) (p.1-base):=λp hp e=>by
      have a1:∃b,Aa bx d=some b:=S d (by grind);obtain⟨b,hb⟩:=a1;have:∃b',Aa (AS (As (cat AC.keys (cat TV.cellsOf args)) []) L bx) d=some b':=FO _ _ hb
      grind
     have a7:d∉As (cat AC.keys (cat TV.cellsOf args)) []:=λe=>by
      obtain⟨b,hb⟩:=S d e;obtain⟨b',U⟩:=FO (keys:=As (cat AC.keys (cat TV.cellsOf args)) []) L bx hb
      grind
     grind [Eu,Ae,Bd,Ia]
   grind
  case callD f' a6=>
   simp only[Prim.meet,Bool.not_eq_false',af]at hm;have e1:=Gu Q (d:=V) hm.1 (aC:=aC) E;rw[e1]at A E
   grind [Gu,Ae]
 case call f args=>
  obtain⟨rfl,hc⟩:=Eq (d:=V) D
  grind
 case load g sz key off=>
  cases h1:Aa bx key with
  |none=>grind
  |some b=>
   rw[h1]at D;dsimp only at D;cases h2:Bb g sz b.cells off with
   |none=>grind
   |some v=>
    rw[h2]at D;simp at D;obtain⟨rfl,rfl⟩:=D;refine⟨J,A,?_⟩;have hl:Aa J key=some b:=by
     cases pj<;>simp only[Ae]at A<;>try (simp at A;done)
     case val=>grind
     case newView=>grind
     case rload=>grind
     case callD f args=>
      cases b0:C.ro f
      case true=>
       rw[Gu Q (d:=N) b0 (aC:=aC) (args:=args) (v:=vj) (bx1:=J) (by simpa only[Ae]using A)];exact h1
      obtain⟨L,rfl,X,_,_⟩:=G3 (C:=C) (d:=N) (f:=f) (args:=args) (aC:=aC) (by simpa only[Ae]using A);rw[Eu _ _ _ λp hp e=>by
       have:=BO.2 (X p hp);simp_all [Prim.meet]]
      exact h1
     case call=>grind
     case load=>grind
     case store k' Y G=>
      split at A
      ·split at A
       ·simp at A;rw[<-A.2,AY _ _ _ _ (a5 hm)];exact h1
       grind
      grind
     case new ty cs=>grind [Bd]
    grind [Ae]
 case store key off cs=>
  cases h1:Aa bx key with
  |none=>grind
  |some b=>
   rw[h1]at D;dsimp only at D;split at D
   ·rename_i hle;simp at D;obtain⟨rfl,rfl⟩:=D;cases pj<;>simp only[Ae]at A<;>try (simp at A;done)
    case val v=>simp_all [Ae]
    case newView e ks l=>simp_all [Ae]
    case rload g sz id idx sub=>
     obtain⟨rfl,hc⟩:=SE (C:=C) (d:=N) (by simpa only[Ae]using A);simp_all [Ae]
    case callD f args=>
     obtain⟨L,rfl,X,_,hc⟩:=G3 (C:=C) (d:=N) (f:=f) (args:=args) (aC:=aC) (by simpa only[Ae]using A);have O:key∉As (cat AC.keys (cat TV.cellsOf args)) []:=λe=>by grind [BO,Prim.meet]
     have a0:∀p∈L,key≠nth 0 (As (cat AC.keys (cat TV.cellsOf args)) []) (p.1-base):=λp hp e=>O (by grind);refine⟨_,hc N bx λk b3=>(AY _ _ _ _ (by grind)).symm,?_⟩;simp only[Ae];rw[Eu _ _ _ a0,h1];simp only[hle,cq]
     grind [ID]
    case call f args=>
     obtain⟨rfl,hc⟩:=Eq (d:=N) A;simp_all [Ae]
    case load g sz k' Y=>
     have O:=a5 hm;rw[AY _ _ _ _ (λe=>O e.symm)]at A;refine⟨bx,?_,?_⟩
     ·grind [Ae]
     ·have:J=upd bx key ⟨b.ty,splice b.cells off cs⟩:=by
       repeat' grind
       all_goals grind
      simp_all [Ae]
    case store k' Y G=>
     have O:=a5 hm;rw[AY _ _ _ _ (λe=>O e.symm)]at A;cases h2:Aa bx k' with
     |none=>grind
     |some b'=>
      rw[h2]at A;dsimp only at A;split at A
      ·rename_i T;simp at A;obtain⟨rfl,rfl⟩:=A;refine⟨upd bx k' ⟨b'.ty,splice b'.cells Y G⟩,by simp_all [Ae],?_⟩;simp only[Ae];rw[AY _ _ _ _ O,h1];simp only[hle,cq]
       grind [Hv]
      grind
    case new ty G=>
     split at A
     ·rename_i d;split at A
      ·grind
      ·rename_i hn;simp at A;obtain⟨rfl,rfl⟩:=A;have a7:d≠key:=by
        rintro rfl;rw[Bn _ _ _ _ h1]at hn;simp at hn
       rw[AY _ _ _ _ a7]at hn;refine⟨ins bx d ⟨ty,G⟩,by grind [Ae],?_⟩;simp only[Ae];rw[Bd _ _ _ _ (λe=>a7 e.symm),h1];simp_all [Gp]
     grind
   grind
 case new ty cs=>
  cases b1:V with
  |none=>grind
  |some d=>
   rw[b1]at D;dsimp only at D;cases h1:Aa bx d with
   |some _=>grind
   |none=>
    rw[h1]at D;simp at D;obtain⟨rfl,rfl⟩:=D;have a3:∀bb,Aa bb d=none->Ae (C:=C) (some d) (.new ty cs) bb aC=some (.c (.ptr d 0),ins bb d ⟨ty,cs⟩):=by
     intro bb hb;simp only[Ae,hb]
    cases pj<;>simp only[Ae]at A<;>try (simp at A;done)
    case val v=>simp at A;obtain⟨rfl,rfl⟩:=A;exact⟨bx,rfl,a3 bx h1⟩
    case newView e ks l=>simp at A;obtain⟨rfl,rfl⟩:=A;exact⟨bx,rfl,a3 bx h1⟩
    case rload g sz id idx sub=>grind [Ae]
    case callD f args=>
     obtain⟨L,rfl,X,_,hc⟩:=G3 (C:=C) (d:=N) (f:=f) (args:=args) (aC:=aC) (by simpa only[Ae]using A);have O:d∉As (cat AC.keys (cat TV.cellsOf args)) []:=λe=>by
      obtain⟨b,hb⟩:=SA a4 e
      grind
     grind [Bd,Eu,Ia]
    case call f args=>
     obtain⟨rfl,hc⟩:=Eq (d:=N) A
     grind
    case load g sz k' Y=>
     obtain⟨b',U⟩:=a4
     grind [Bd,Ae]
    case store k' Y G=>
     obtain⟨⟨b',U⟩,_⟩:=a4;have O:k'≠d:=by rintro rfl;rw[h1]at U;simp at U
     rw[Bd _ _ _ _ O,U]at A;dsimp only at A;split at A
     ·rename_i T;simp at A;obtain⟨rfl,rfl⟩:=A;refine⟨upd bx k' ⟨b'.ty,splice b'.cells Y G⟩,by simp_all [Ae],?_⟩
      grind [AY,Gp]
     grind
    grind [Bd,Ae,H5]
end
open Go.RowKit
structure WFst (s : St) : Prop where
 t:∀v∈s.tmps,TV.wf s.aB s.aC v
 b:∀(k:Nat) (b:Box),Aa s.aB k=some b->∀a∈b.cells,AC.wf s.aB s.aC a
section
variable {P:Program} {C:Cfg} {w:World} {R:Type} {Z:Base}
theorem TH {d:Option Tmp} {f:FuncId} {args:List TV} {bx A:List (Nat×Box)} {aC:List (Nat×Row)} {v:TV} (h:Ae (C:=C) d (.call f args) bx aC=some (v,A)):TV.wf A aC v:=by
 simp only[Ae]at h;split at h
 ·split at h
  ·split at h
   ·split at h
    ·simp_all [Dp]
    grind
   grind
  grind
 grind
theorem Mm {bx:List (Nat×Box)} {aC:List (Nat×Row)}:∀(ks:List Kd) (cs:List AC) (j:Nat),∀c∈Bl ks cs j,AC.wf bx aC c
 |[],_,_,c,A=>by grind [Bl]
 |k::ks,cs,j,c,A=>by
  simp only[Bl,an]at A;rcases A with rfl|A
  ·cases k<;>exact trivial
  ·exact Mm ks cs _ c A
theorem L4 {α:Type}:∀(l:List (Nat×α)) (k:Nat) (x:α),Aa l k=none->Aa (upd l k x) k=none
 |[],_,_,_=>rfl
 |(j,c)::l,k,x,h=>by
  simp only[Aa]at h;cases hb:Nat.beq j k<;>rw[hb]at h
  ·simp only[upd,hb,aj,Aa];exact L4 l k x h
  grind
theorem J_ {keys:List Nat}:∀(m:List (Nat×Box)) (l:List (Nat×Box)) {n:Nat} {b:Box},Aa (AS keys m l) n=some b->Aa l n=some b\/∃p∈m,p.2=b
 |[],_,_,_,h=> .inl h
 |(j,c)::m,l,n,b,h=>by
  simp only[AS]at h;rcases J_ m _ h with h|⟨p,A,e⟩
  ·by_cases e:n=nth 0 keys (j-base)
   ·subst e;cases D:Aa l (nth 0 keys (j-base))with
    |none=>grind [L4]
    |some y=>simp_all [Bn]
   grind [AY]
  grind
theorem Ki {d:Option Tmp} {f:FuncId} {args:List TV} {bx E:List (Nat×Box)} {aC:List (Nat×Row)} {v:TV} (h:Ae (C:=C) d (.callD f args) bx aC=some (v,E)):
  ∃A,E=AS (As (cat AC.keys (cat TV.cellsOf args)) []) A bx/\True/\v.plainB=true/\∀p∈A,Ab AC.calm p.2.cells=true:=by
 simp only[Ae]at h;generalize As (cat AC.keys (cat TV.cellsOf args)) []=keys at h⊢
 repeat' split at h
 all_goals first|(simp at h;done)|skip
 rename_i G A _ D;simp only[ag,a8]at h;obtain⟨rfl,rfl⟩:=h;simp only[af]at D;exact⟨A,rfl,trivial,D.2,Af.1 D.1.2⟩
theorem T3 {ops:List Oper} {o:Oper} {tm:List TV} {bx N:List (Nat×Box)} {aC:List (Nat×Row)} {p:Option Prim} {v:TV} (L:WFst ⟨tm,bx,aC⟩) (h:A6 P C ops o tm bx aC=some (p,v,N)):
  WFst ⟨tm,N,aC⟩/\TV.wf N aC v/\∀q,p=some q->Prim.wf bx aC q:=by
 unfold A6 at h;split at h
 ·cases S:opK P C (Ai tm) o.dst o.op some with
  |none=>grind
  |some q=>
   rw[S]at h;simp only[ak]at h;have U:=HY (pre:=false) (Ig (aB:=bx) (aC:=aC) (λx=>H8 L.t x) S);clear S;generalize q.dr false=q at h U⊢;cases A:Ae (C:=C) o.dst q bx aC with
   |none=>grind
   |some z=>
    rw[A]at h;simp at h;obtain⟨rfl,rfl,rfl⟩:=h;have G:∀{O:List (Nat×Box)},(∀a,AC.wf bx aC a->AC.wf O aC a)->(∀(k:Nat) (b:Box),Aa O k=some b->∀a∈b.cells,AC.wf bx aC a)->WFst ⟨tm,O,aC⟩:=
     λE hb=>⟨λv T=>TV.wf_mono E (L.t v T),λk b D a A=>E a (hb k b D a A)⟩
    refine⟨?_,?_,λq' e=>by grind⟩;all_goals
     cases q<;>simp only[Ae]at A<;>try (simp at A;done)
    ·grind
    ·grind
    ·rename_i key off cs;split at A
     ·rename_i b hb;split at A
      ·simp at A;subst A;refine G (λa=>AC.wf_mono (λk bo Q=>by grind [Bn,AY]) (λk r D=>⟨r,D,rfl,rfl⟩)) ?_;intro k bo D a E;by_cases J:k=key
       ·subst J;rw[Bn _ _ _ _ hb]at D;simp at D;subst D;rcases G8 _ _ _ E with E|E
        ·exact L.b k b hb a E
        ·exact U.2 a E
       ·rw[AY _ _ _ _ J]at D;exact L.b k bo D a E
      grind
     grind
    ·rename_i ty cs;split at A
     ·rename_i d hd;split at A
      ·grind
      ·rename_i V;simp at A;subst A;refine G (λa=>AC.wf_mono (λk bo Q=>⟨bo,by grind [Bd]⟩) (λk r D=>⟨r,D,rfl,rfl⟩)) ?_;intro k bo D a E;by_cases J:k=d
       ·subst J;rw[Bs _ _ _ V]at D;simp at D;subst D;exact U a E
       ·rw[Bd _ _ _ _ J]at D;exact L.b k bo D a E
     grind
    ·grind
    ·grind
    ·grind
    ·rename_i f args;obtain⟨z1,z2⟩:=z;obtain⟨X,rfl,a1,_,a0⟩:=Ki (C:=C) (d:=o.dst) (f:=f) (args:=args) (aC:=aC) (by simpa only[Ae]using A);refine G (λa=>AC.wf_mono (λk bo Q=>FO _ _ Q) (λk r D=>⟨r,D,rfl,rfl⟩)) ?_;intro k bo D a E;rcases J_ _ _ D with D|⟨p,S,rfl⟩
     ·exact L.b k bo D a E
     grind [K6]
    ·simp at A;subst A;exact U
    ·split at A
     ·rename_i b hb;split at A
      ·rename_i v T;simp at A;subst A;exact FL T (L.b _ b hb)
      grind
     grind
    ·repeat' split at A
     all_goals first|(simp at A;done)|(simp at A;subst A;trivial)
    ·rename_i ty cs;split at A
     ·rename_i d hd;split at A
      ·grind
      ·rename_i V;simp at A;subst A;exact AL ⟨_,Bs _ _ _ V⟩
     grind
    ·split at A
     ·rename_i r hr;split at A
      ·rename_i v T;simp at A;subst A;exact FL T λa E=>Mm r.ks _ 0 a E
      grind
     grind
    ·simp at A;subst A;exact AL trivial
    ·rename_i f args;exact TH (d:=o.dst) A
    ·rename_i f args;obtain⟨z1,z2⟩:=z;obtain⟨X,_,_,Y,_⟩:=Ki (C:=C) (d:=o.dst) (f:=f) (args:=args) (aC:=aC) (by simpa only[Ae]using A);exact Dp Y
 ·simp at h;obtain⟨rfl,rfl,rfl⟩:=h;exact⟨L,λp S=>by grind,λq e=>by grind⟩
 grind
theorem H6 {tm:List TV} {bx:List (Nat×Box)} {aC:List (Nat×Row)} {d:Option Tmp} {v:TV} (D:WFst ⟨tm,bx,aC⟩) (E:TV.wf bx aC v):WFst ⟨AT tm d v,bx,aC⟩:=by
 cases d with
 |none=>exact D
 |some t=>
  refine⟨λu A=> ?_,D.b⟩;simp only[AT,CF]at A;rcases b9 A with A|rfl
  ·exact D.t u A
  omega
theorem PA {id:Nat} {bx:List (Nat×Box)} {k:Nat} {b:Box} (h:Aa (bx.map λp=>(p.1,p.2.kill id)) k=some b):∃b',Aa bx k=some b'/\b=b'.kill id:=by
 have:=BV (Box.kill id) bx k;rw[this]at h;simp only[ap]at h
 grind
theorem HB {bx:List (Nat×Box)} {aC A:List (Nat×Row)} {id:Nat} (L:∀j,j≠id->Aa A j=Aa aC j) {a:AC} (h:AC.wf bx aC a):AC.wf (bx.map λp=>(p.1,p.2.kill id)) A (a.kill id):=by
 have hb:∀k b,Aa bx k=some b->∃b',Aa (bx.map λp=>(p.1,p.2.kill id)) k=some b':=λk b N=>⟨b.kill id,by have:=BV (Box.kill id) bx k;grind⟩;have G:∀c,AC.wfP bx c->AC.wfP (bx.map λp=>(p.1,p.2.kill id)) c:=by
  intro c E;cases c<;>try exact trivial
  obtain⟨b,D⟩:=E;exact hb _ _ D
 cases a<;>try exact trivial
 case ptr k o=>
  obtain⟨b,D⟩:=h;exact hb _ _ D
 case bsl k o=>
  obtain⟨b,D⟩:=h;exact hb _ _ D
 case own j w n=>
  simp only[AC.kill];cases J:Nat.beq j id
  ·obtain⟨r,h1,h2⟩:=h;exact⟨r,by grind [Cn],h2⟩
  ·exact trivial
 case rptr j a b=>
  simp only[AC.kill];cases J:Nat.beq j id
  ·obtain⟨r,h1,h2⟩:=h;exact⟨r,by grind [Cn],h2⟩
  ·exact trivial
 case vptr cs sub=>exact h
 case clo f fs cs=>exact⟨λc E=>G c (h.1 c E),λc E=>G c (h.2 c E)⟩
theorem Ti {dst:Option Tmp} {aC A:List (Nat×Row)} {p:Prim} {id:Nat} {v:TV} (h1:DT dst p=some id) (h2:DZ dst aC p=some (v,A)):(∀j,j≠id->Aa A j=Aa aC j)/\TV.wf [] A v:=by
 cases p<;>simp[DT]at h1
 rename_i e ks bytes E x;cases E<;>simp at h1
 case nilSl=>
  subst h1;simp only[DZ,I_]at h2
  repeat' split at h2
  all_goals first|(simp at h2;done)|skip
  rename_i G _ _;simp only[ag,a8]at h2;obtain⟨rfl,rfl⟩:=h2;refine⟨λj D=>Bd _ _ _ _ D,AL ?_⟩;exact⟨_,Bs _ _ _ G,rfl,rfl⟩
 rename_i id' w n;subst h1;simp only[DZ,Ir]at h2
 repeat' split at h2
 all_goals first|(simp at h2;done)|skip
 rename_i r J _ _;simp only[ag,a8]at h2;obtain⟨rfl,rfl⟩:=h2;refine⟨λj D=>AY _ _ _ _ D,AL ?_⟩;exact⟨_,Bn _ _ _ _ J,rfl,rfl⟩
theorem LB {aC A:List (Nat×Row)}:∀{args:List TV},Ab TV.plainB args=true->B5 aC args=B5 A args
 |[],_=>rfl
 |a::l,h=>by
  simp only[Ab]at h;have h1:a.plainB=true/\Ab TV.plainB l=true:=by cases D:a.plainB<;>rw[D]at h<;>simp at h;exact⟨rfl,h⟩
  have e:a.res aC=a.res A:=by
   cases a with
   |vD=>rfl
   |tup ps=>rfl
   |v g cs=>
    simp only[TV.res];have:Bt aC cs=Bt A cs:=by
     have h2:=h1.1;simp only[TV.plainB]at h2;clear h h1;induction cs with
     |nil=>rfl
     |cons c cs E=>
      simp only[Ab]at h2;have h3:c.plain=true/\Ab AC.plain cs=true:=by cases G:c.plain<;>rw[G]at h2<;>simp at h2;exact⟨rfl,h2⟩
      simp only[Bt];rw[E h3.2];have:c.res aC=c.res A:=by
       have:=h3.1;cases c<;>simp[AC.plain]at this<;>rfl
      grind
    grind
  simp only[B5];rw[e,LB h1.2]
theorem Qy {dst:Option Tmp} {aC A:List (Nat×Row)} {p:Prim} {v:TV} (h:mkI (C:=C) dst p aC=some (v,A)):(∀j r,Aa aC j=some r->Aa A j=some r)/\TV.wf [] A v:=by
 unfold mkI at h;cases D:mkG (C:=C) dst p with
 |none=>grind
 |some q=>
  obtain⟨J,o⟩:=q;rw[D]at h;cases o with
  |none=>
   simp only[ag,a8]at h;obtain⟨rfl,rfl⟩:=h;refine⟨λ_ _ h=>h,?_⟩;unfold mkG at D
   grind [Dp]
  |some G=>
   obtain⟨k,r⟩:=G;dsimp only at h;split at h
   ·grind
   ·rename_i E;simp only[ag,a8]at h;obtain⟨rfl,rfl⟩:=h;refine⟨λj r' L=>by grind [Bd],?_⟩;unfold mkG at D;split at D
    ·split at D
     ·simp only[ag,a8]at D;obtain⟨rfl,rfl,rfl⟩:=D;exact AL ⟨_,Bs _ _ _ E,rfl,rfl⟩
     grind
    ·split at D
     ·split at D
      ·split at D
       ·grind
       ·split at D
        ·simp only[ag,a8]at D;obtain⟨rfl,rfl,rfl⟩:=D;exact AL ⟨_,Bs _ _ _ E,rfl,rfl⟩
        grind
       grind
      grind
     grind
    grind
theorem S8 {dst:Option Tmp} {aC A:List (Nat×Row)} {p:Prim} {v:TV} (h:mkD (C:=C) dst p aC=some (v,A)):(∀j r,Aa aC j=some r->∃r',Aa A j=some r'/\r'.n=r.n/\r'.w=r.w)/\TV.wf [] A v:=by
 have key:mkI (C:=C) dst p aC=some (v,A)->(∀j r,Aa aC j=some r->∃r',Aa A j=some r'/\r'.n=r.n/\r'.w=r.w)/\TV.wf [] A v:=λh=>by
  obtain⟨h1,h2⟩:=Qy h;exact⟨λj r D=>⟨r,h1 j r D,rfl,rfl⟩,h2⟩
 cases p
 case rstore id idx sub cs=>
  simp only[mkD]at h;cases h1:Aa aC id with
  |none=>rw[h1]at h;simp at h
  |some r=>
   rw[h1]at h;dsimp only at h;obtain⟨-,h⟩:=Ay h;split at h
   ·rename_i c E;simp only[ag,a8]at h;obtain⟨rfl,rfl⟩:=h;refine⟨λj q D=> ?_,trivial⟩;by_cases e:j=id
    ·subst e;rw[h1]at D;simp only[ag]at D;subst D;exact⟨_,Bn _ _ _ _ h1,by simp[Row.n],rfl⟩
    ·exact⟨q,by rw[AY _ _ _ _ e];exact D,rfl,rfl⟩
   ·simp at h
 all_goals exact key h
theorem F7 {dst:Option Tmp} {aC:List (Nat×Row)} {p:Prim} (h:Prim.isRst (some p)=false):mkD (C:=C) dst p aC=mkI (C:=C) dst p aC:=by
 cases p<;>first|rfl|(simp[Prim.isRst]at h)
theorem TL {ops:List Oper} {o:Oper} {s U:St} {p:Option Prim} (N:WFst s) (h:AI (P:=P) (C:=C) ops o s=some (p,U)):WFst U:=by
 obtain⟨tm,bx,aC⟩:=s;cases X:Prim.isApp p
 ·cases O:Prim.isMk p
  case true=>
   obtain⟨_,q,v,A,_,rfl,Q,rfl⟩:=GQ h O;obtain⟨J,S⟩:=S8 Q;have D:∀a,AC.wf bx aC a->AC.wf bx A a:=λa=>AC.wf_mono (λk b E=>⟨b,E⟩) (λk r E=>J k r E);exact H6 ⟨λu G=>TV.wf_mono D (N.t u G),λk b E a Y=>D a (N.b k b E a Y)⟩ (TV.wf_mono (λa D=>AC.wf_mono (aB:=[]) (aC:=A) (λk b E=>by grind [Aa]) (λk r E=>⟨r,E,rfl,rfl⟩) D) S)
  grind [EF,T3,H6]
 ·obtain⟨_,q,id,v,A,_,rfl,h3,Q,rfl⟩:=IN h X;obtain⟨J,S⟩:=Ti h3 Q;refine H6 ⟨λu G=> ?_,λk b E a D=> ?_⟩ (TV.wf_mono (λa D=>AC.wf_mono (aB:=[]) (aC:=A) (λk b E=>by grind [Aa]) (λk r E=>⟨r,E,rfl,rfl⟩) D) S)
  ·simp only[am]at G;obtain⟨u,G,rfl⟩:=G;have:=N.t u G;cases u with
   |vD=>trivial
   |v g cs=>
    intro a D;simp only[am]at D;obtain⟨c,L,rfl⟩:=D;exact HB J (this c L)
   |tup ps=>
    intro p V a D;simp only[am]at V;obtain⟨q,hq,rfl⟩:=V;simp only[am]at D;obtain⟨c,L,rfl⟩:=D;exact HB J (this q hq c L)
  ·obtain⟨b',T,rfl⟩:=PA E;simp only[Box.kill,am]at D;obtain⟨c,L,rfl⟩:=D;exact HB J (N.b k b' T c L)
theorem Ns {o:Op} {p:Option Prim} (h:Prim.still o p=true):Prim.isMk p=false:=by
 cases p with
 |none=>rfl
 |some q=>cases q<;>first|rfl|(cases o<;>simp[Prim.still,Prim.isLive,Prim.isPtr,Prim.isCallP,Prim.isLoad,Prim.isView]at h)
theorem T_ {d:Option Tmp} {p:Prim} {bx D:List (Nat×Box)} {aC:List (Nat×Row)} {v:TV} (E:Prim.mkStill (some p)=true) (h:Ae (C:=C) d p bx aC=some (v,D)):
  D=bx/\∀A,Ae (C:=C) d p bx A=some (v,bx):=by
 cases p<;>simp[Prim.mkStill]at E
 case val u=>simp_all [Ae]
 case newView e ks l=>simp_all [Ae]
 case load g sz key off=>
  simp only[Ae]at h⊢
  grind
 case call f args=>
  obtain⟨rfl,_⟩:=Eq h;refine⟨rfl,λA=> ?_⟩
  grind [Ae,LB]
 case newRow e ks l=>grind [Ae]
 grind [Ae]
theorem MH {ops:List Oper} {o:Oper} {tm:List TV} {bx D:List (Nat×Box)} {aC:List (Nat×Row)} {p:Option Prim} {v:TV} (G:Prim.mkStill p=true) (h:A6 P C ops o tm bx aC=some (p,v,D)):
  D=bx/\∀A,A6 P C ops o tm bx A=some (p,v,bx):=by
 unfold A6 at h⊢;split at h
 ·cases E:opK P C (Ai tm) o.dst o.op some with
  |none=>grind
  |some q=>
   rw[E]at h;simp only[ak]at h⊢;cases J:Ae (C:=C) o.dst (q.dr false) bx aC with
   |none=>grind
   |some z=>grind [T_]
 ·grind
 grind
theorem R_ {N O:Option Tmp} {J L:Prim} {aC D E:List (Nat×Row)} {T U:TV} (ri:Prim.isRst (some J)=false) (V:Prim.isRst (some L)=false) (G:mkD (C:=C) N J aC=some (T,D)) (X:mkD (C:=C) O L D=some (U,E)):
  ∃A,mkD (C:=C) O L aC=some (U,A)/\mkD (C:=C) N J A=some (T,E):=by
 rw[F7 ri]at G;rw[F7 V]at X;simp only[F7 ri,F7 V];unfold mkI at*;cases Q:mkG (C:=C) N J with
 |none=>grind
 |some Y=>
  obtain⟨v1,o1⟩:=Y;rw[Q]at G;cases S:mkG (C:=C) O L with
  |none=>grind
  |some qj=>
   obtain⟨v2,o2⟩:=qj;rw[S]at X;cases o1 with
   |none=>grind
   |some k1=>
    obtain⟨k,r⟩:=k1;dsimp only at G;split at G
    ·grind
    rename_i hn;simp only[ag,a8]at G;obtain⟨rfl,rfl⟩:=G;cases o2 with
    |none=>grind
    |some k2=>grind [Bs,Bd,H5]
theorem S3 (a7:Ak P C) {ops:Array Oper} {x y:Oper} {s s1 s2:St} {px py:Option Prim} (hw:WFst s) (hy:AI (P:=P) (C:=C) ops.toList y s=some (py,s1)) (hx:AI (P:=P) (C:=C) ops.toList x s1=some (px,s2))
  (c0:Oper.apart ops y x=true) (hm:Prim.meet C.ro py px=false) (A:CY y py x px=true):∃b2,AI (P:=P) (C:=C) ops.toList x s=some (px,b2)/\AI (P:=P) (C:=C) ops.toList y b2=some (py,s2):=by
 obtain⟨a1,a2,a3⟩:=Oper.apart_spec c0;obtain⟨tm,bx,aC⟩:=s;have J:∀(o:Oper) (tm:List TV),o.guard.isNone=true->AH ops.toList o tm=some true:=by
  intro o tm h;unfold AH;rw[Option.isNone_iff_eq_none.1 h]
 have N:∀(o:Oper) (tm:List TV) (d:Option Tmp) (v:TV),(∀t,d=some t->t∉o.looksAt ops)->opK P C (Ai (AT tm d v)) o.dst o.op some=opK P C (Ai tm) o.dst o.op some:=by
  intro o tm d v h;cases d with
  |none=>rfl
  |some t=>
   exact Eb (λx hx => KA (by
    rintro rfl;exact h t rfl (List.mem_append_left _ (List.mem_filterMap.2 ⟨.tmp t,by grind,rfl⟩)))) some
 cases O:Prim.isApp py
 case true=>
  unfold CY at A;rw[O]at A;simp only[ac,af]at A;obtain⟨⟨⟨o1,o2⟩,o3⟩,o4⟩:=A;have Q:Prim.isApp px=false:=by simpa using o1
  obtain⟨_,q,id,vy,Y,hq,rfl,h3,h4,rfl⟩:=IN hy O;obtain⟨vx,a5,D,rfl⟩:=EF hx Q (Ns o4);unfold A6 at D;rw[J x _ o3]at D;dsimp only at D;rw[N x _ _ _ (λt S=>a1 t S)]at D;cases a0:opK P C (Ai (tm.map (TV.kill id))) x.dst x.op some with
  |none=>grind
  |some qx=>
   rw[a0]at D;simp only[ak]at D;cases L:Ae (C:=C) x.dst (qx.dr false) (bx.map λp=>(p.1,p.2.kill id)) Y with
   |none=>grind
   |some zx=>
    rw[L]at D;simp at D;obtain⟨rfl,rfl,rfl⟩:=D;obtain⟨vx,a5⟩:=zx;obtain⟨rfl,u,rfl,b3⟩:=(L3 (bx:=bx) o4).2 L;have c3:=(Ku (P:=P) (C:=C) (id:=id) (tm:=tm) (dst:=x.dst) o4).1 a0;refine⟨⟨AT tm x.dst u,bx,aC⟩,E1 (by grind [A6]),?_⟩;rw[LP (J y _ o2) (by grind) h3 h4 O,La]
    grind [EW]
 case false=>
 cases Q:Prim.isApp px
 case true=>
  unfold CY at A;rw[O,Q]at A;simp only[ac,aj,af]at A;obtain⟨⟨o2,o3⟩,o4⟩:=A;obtain⟨vy,b0,E,rfl⟩:=EF hy O (Ns o4);obtain⟨_,q,id,vx,Y,hq,rfl,h3,h4,rfl⟩:=IN hx Q;rw[N x _ _ _ (λt S=>a1 t S)]at hq;unfold A6 at E;rw[J y _ o2]at E;dsimp only at E;cases a6:opK P C (Ai tm) y.dst y.op some with
  |none=>grind
  |some qy=>
   rw[a6]at E;simp only[ak]at E;cases V:Ae (C:=C) y.dst (qy.dr false) bx aC with
   |none=>grind
   |some zy=>
    rw[V]at E;simp at E;obtain⟨rfl,rfl,rfl⟩:=E;obtain⟨vy,b0⟩:=zy;obtain⟨rfl,b3⟩:=(L3 (id:=id) (bx:=bx) o4).1 V;have b4:=(Ku (P:=P) (C:=C) (id:=id) (tm:=tm) (dst:=y.dst) o4).2 a6;refine⟨_,LP (J x _ o3) hq h3 h4 Q,?_⟩;rw[E1 (p:=some (qy.dr false)) (v:=vy.kill id) (by unfold A6;rw[J y _ o2];dsimp only;rw[N y _ _ _ (λt S=>a3 t S),b4];simp only[ak];rw[b3];rfl)]
    grind [La,EW]
 case false=>
   unfold CY at A;rw[O,Q]at A;simp only[aj]at A;cases T:Prim.isMk py
   case true=>
    rw[T]at A;simp only[ac]at A;obtain⟨c1,qy,vy,c2,c4,rfl,V,rfl⟩:=GQ hy T;cases G:Prim.isMk px
    case true=>
     obtain⟨X,qx,vx,b1,a4,rfl,L,rfl⟩:=GQ hx G;rw[Fx (λt S=>a1 t S)]at X;rw[N x _ _ _ (λt S=>a1 t S)]at a4;rw[G,Bool.and_true,af,Bool.not_eq_true']at A;obtain⟨b6,m1,m2⟩:=R_ A.2 (by cases h:(qx.dr false)<;>first|rfl|(rw[h]at A;exact absurd A.1 (by simp[Prim.mkStill]))) V L;refine⟨_,GI X a4 m1 G,?_⟩
     grind [GI,Fx,EW]
    case false=>
     obtain⟨vx,a5,D,rfl⟩:=EF hx Q G;rw[GK (λt S=>a1 t S)]at D;obtain⟨rfl,b5⟩:=MH ((af _ _).mp A).1 D;refine⟨_,E1 (b5 aC),?_⟩
     grind [GI,Fx,EW]
   case false=>
   rw[T]at A;simp only[aj]at A;cases G:Prim.isMk px
   case true=>
    rw[G]at A;simp only[ac]at A;obtain⟨vy,b0,E,rfl⟩:=EF hy O T;obtain⟨rfl,b5⟩:=MH A E;obtain⟨X,qx,vx,b1,a4,rfl,L,rfl⟩:=GQ hx G;rw[Fx (λt S=>a1 t S)]at X;rw[N x _ _ _ (λt S=>a1 t S)]at a4;refine⟨_,GI X a4 L G,?_⟩
    grind [E1,GK,EW]
   case false=>
   obtain⟨vy,b0,E,rfl⟩:=EF hy O T;obtain⟨vx,a5,D,rfl⟩:=EF hx Q G;rw[GK (λt S=>a1 t S)]at D;have key:∃U,A6 P C ops.toList x tm bx aC=some (px,vx,U)/\A6 P C ops.toList y tm U aC=some (py,vy,a5):=by
    unfold A6 at E D⊢;split at E
    ·rename_i c1;cases a6:opK P C (Ai tm) y.dst y.op some with
     |none=>grind
     |some qy=>
      rw[a6]at E;simp only[ak]at E;cases V:Ae (C:=C) y.dst (qy.dr false) bx aC with
      |none=>grind
      |some zy=>
       rw[V]at E;simp at E;obtain⟨rfl,rfl,rfl⟩:=E;split at D
       ·rename_i X;cases a0:opK P C (Ai tm) x.dst x.op some with
        |none=>grind
        |some qx=>
         rw[a0]at D;simp only[ak]at D;cases L:Ae (C:=C) x.dst (qx.dr false) zy.2 aC with
         |none=>grind
         |some zx=>
          rw[L]at D;simp at D;obtain⟨rfl,rfl,rfl⟩:=D;obtain⟨U,m1,m2⟩:=PM a7 V L hm a2 (HY (Ig (λx=>H8 hw.t x) a0))
          grind
       ·grind
       grind
    ·grind
    ·grind
   obtain⟨U,k1,k2⟩:=key;refine⟨⟨AT tm x.dst vx,U,aC⟩,E1 k1,?_⟩
   grind [E1,GK,EW]
theorem JL (A:Ak P C) {ops:Array Oper} {m:List Nat} {x:Nat×Oper×Option Prim} {post:List (Nat×Oper×Option Prim)} {E:St}:∀(pre:List (Nat×Oper×Option Prim)) (s:St),WFst s->FW P C ops.toList m (pre++x::post) s E->
  (∀y∈pre,A7 ops.toList m x.1=false/\A7 ops.toList m y.1=false/\Oper.apart ops y.2.1 x.2.1=true/\Prim.meet C.ro y.2.2 x.2.2=false/\CY y.2.1 y.2.2 x.2.1 x.2.2=true)->
  ∃s1,CQ P C ops.toList m x.1 x.2.1 s=some (x.2.2,s1)/\FW P C ops.toList m (pre++post) s1 E
 |[],s,D,h,_=>by
  obtain⟨i,o,p⟩:=x;exact h
 |(j,J,L)::pre,s,D,h,G=>by
  obtain⟨N,h1,h2⟩:=h;obtain⟨U,V,q1,q2,O⟩:=G (j,J,L) (by simp);have Q:=h1;unfold CQ at h1;rw[cd (by grind)]at h1;obtain⟨s2,h3,S⟩:=JL A pre N (TL D h1) h2 λy T=>G y (by grind);unfold CQ at h3;rw[cd (by grind)]at h3;obtain⟨s1,X,Y⟩:=S3 A D h1 h3 q1 q2 O;refine⟨s1,by simp_all [CQ],s2,?_,S⟩;simp_all [CQ]
inductive Before (ops : List Oper) : Nat -> Nat -> Prop where
 |one {i:Nat} {o:Oper} {e:Edge} (h:ops[i]? =some o) (he:e∈o.after.toList) (hb:Region.binds .any e=true):Before ops i e.on
 |more {i j:Nat} {o:Oper} {e:Edge} (h:ops[i]? =some o) (he:e∈o.after.toList) (hb:Region.binds .any e=true) (h':Before ops e.on j):Before ops i j
theorem I3 {m:List Nat} {j:Nat}:∀(l:List Edge) (acc:Nat),Nat.testBit (Gj m l acc) j=true->Nat.testBit acc j=true\/∃e∈l,Region.binds .any e=true/\(e.on=j\/Nat.testBit (nth 0 m e.on) j=true)
 |[],acc,h=> .inl h
 |e::l,acc,h=>by
  simp only[Gj]at h;cases hb:Region.binds .any e<;>rw[hb]at h
  ·rcases I3 l _ h with h|⟨A,he,h'⟩
   ·grind
   grind
  ·rcases I3 l _ h with h|⟨A,he,h'⟩
   ·simp only[ac]at h;have:Nat.testBit (acc|||(2^e.on|||nth 0 m e.on)) j=true:=h
    grind
   grind
theorem Qa {α:Type} (n:Nat) (K:Nat->α):M2 n K=K n:=by cases n<;>rfl
theorem KD {α:Type} (d:α):∀(l A:List α) (i:Nat),i<l.length->nth d (l++A) i=nth d l i
 |x::l,A,0,_=>rfl
 |x::l,A,i+1,h=>KD d l A i (by grind)
theorem JZ {α:Type} (d x:α):∀(l:List α),nth d (l++[x]) l.length=x
 |[]=>rfl
 |y::l=>JZ d x l
theorem I8 {α:Type} (d:α):∀(l:List α) (i:Nat),l.length<=i->nth d l i=d
 |[],_,_=>rfl
 |x::l,0,h=>by grind
 |x::l,i+1,h=>I8 d l i (by grind)
theorem LD {ops:List Oper} {K:List Nat->Option R} {r:R}:∀(l pre:List Oper) (m:List Nat),ops=pre++l->m.length=pre.length->(∀i j,i<m.length->Nat.testBit (nth 0 m i) j=true->Before ops i j)->GE l m K=some r->
  ∃Q,K Q=some r/\∀i j,Eo Q i j=true->Before ops i j
 |[],pre,m,he,S,J,h=>⟨m,h,λi j A=>by
   by_cases L:i<m.length
   ·exact J i j L A
   grind [Eo,I8]⟩
 |o::l,pre,m,he,S,J,h=>by
  simp only[GE,Qa,An]at h;refine LD l (pre++[o]) _ (by grind) (by grind) (λi j L A=> ?_) h;by_cases T:i<m.length
  ·grind [KD]
  ·have N:i=m.length:=by simp at L;omega
   subst N;rw[JZ]at A;have E:ops[m.length]? =some o:=by rw[he,S];simp
   rcases I3 _ _ A with D|⟨e,G,hb,D⟩
   ·grind
   ·rcases D with D|D
    ·rw[<-D];exact .one E G hb
    ·by_cases O:e.on<m.length
     ·exact .more E G hb (J _ _ O D)
     grind [I8]
end
open Go.RowKit
section
variable {P:Program} {C:Cfg} {w:World} {R:Type} {Z:Base}
theorem RS (G:Ak P C) {ops:List Oper} {o:Oper} {s A:St} {p:Option Prim} (h:AI (P:=P) (C:=C) ops o s=some (p,A)) (X:Prim.simple p=true) (K:Option Prim->St->Option R):
  BL P C false ops o s K=K p A:=by
 have N:∀s1:St,s1=s->AH ops o s.tmps=some true->(opK P C (Ai s1.tmps) o.dst o.op λp=>Ao C o.dst (p.dr false) s1 λv A=>put A o.dst v (K (some (p.dr false))))=K p A:=by
  rintro s1 rfl E;unfold AI at h;rw[E]at h;dsimp only at h;rw[Fw];cases O:opK P C (Ai s1.tmps) o.dst o.op some with
  |none=>grind
  |some q=>
   rw[O]at h;simp only[ak]at h;cases Y:BE (C:=C) o.dst (q.dr false) s1 with
   |none=>grind
   |some z=>grind [MF,Ew]
 have J:∀s1:St,s1=s->AH ops o s.tmps=some false->put s1 o.dst (.tup []) (K none)=K p A:=by
  rintro s1 rfl E;unfold AI at h;rw[E]at h;simp at h;obtain⟨rfl,rfl⟩:=h;rw[Ew]
 unfold BL Ff;cases Q:o.guard with
 |none=>simp_all [AH]
 |some S=>
  obtain⟨j,want⟩:=S;dsimp only;cases T:ops[j]? with
  |none=>grind [AI,AH]
  |some U=>
   dsimp only;cases V:U.dst with
   |none=>grind [AI,AH]
   |some t=>
    dsimp only;split
    ·rename_i g D;have E:AH ops o s.tmps=some (g==want):=by simp only[AH,Q,T,V,D]
     have L:∀b,g=b->(⟨setL s.tmps t (.c (.bool b)),s.aB,s.aC⟩:St)=s:=by
      rintro b rfl;rw[MG D (by simp)]
     cases g
     ·simp only[aj];rw[Ca];dsimp only;cases want
      ·grind
      grind
     ·simp only[ac];rw[Ca];dsimp only;cases want
      ·grind
      grind
    ·simp_all [AH]
    simp_all [AH,AI]
theorem Rel.wf {s:St} {tmps:Array Value} (h:Rel Z s tmps w):WFst s:=by
 obtain⟨ρ,h⟩:=h;exact⟨h.wt,h.wb⟩
structure Left (P : Program) (C : Cfg) (ops : Array Oper) (m : List Nat) (listed : Array Bool) (rem : List (Nat × Oper × Option Prim)) : Prop where
 sz:listed.size=ops.size
 op:∀x∈rem,ops[x.1]? =some x.2.1/\(A7 ops.toList m x.1||Prim.simple x.2.2)=true/\∀e∈x.2.1.after,Region.binds .any e=true->e.on<x.1
 out:∀i,i<ops.size->(listed.getD i true=false↔∃x∈rem,x.1=i)
 ord:(rem.map (·.1)).Pairwise (· < ·)
 cl:∀j o,ops[j]? =some o->listed.getD j false=true->∀e∈o.after,Region.binds .any e=true->listed.getD e.on false=true
 pr:∀pre x post,rem=pre++x::post->∀y∈pre,Before ops.toList x.1 y.1\/(A7 ops.toList m x.1=false/\A7 ops.toList m y.1=false/\Oper.apart ops y.2.1 x.2.1=true/\Prim.meet C.ro y.2.2 x.2.2=false/\CY y.2.1 y.2.2 x.2.1 x.2.2=true)
theorem Mi (G:Ak P C) (a1:∀t∈C.eqOk,P.stoodInHeld t=false) {ops:Array Oper} {m:List Nat} {Q:Exit->Act->World->Prop} {sf:St} {d0:List Deferred}
  (hq:∀(a:Act) (w:World),Rel Z sf a.tmps w->a.defers=d0->Q .normal a w):
  ∀(fuel:Nat) (listed:Array Bool) (rem:List (Nat×Oper×Option Prim)) (s:St) (a:Act) (w:World),rem.length=fuel->Left P C ops m listed rem->FW P C ops.toList m rem s sf->WFst s->Rel Z s a.tmps w->a.defers=d0->
  wpAny P .any ops Q fuel listed a w
 |0,listed,rem,s,a,w,hl,E,L,a2,hR,hd=>by
  have hr:rem=[]:=bu hl;subst hr;have:s=sf:=L;subst this;refine⟨?_,hq a w hR hd⟩;apply List.eq_nil_iff_forall_not_mem.2;intro i hi;obtain⟨h1,o,h2,_⟩:=mem_ready.1 hi;obtain⟨x,hx,_⟩:=(E.out i (az.1 h2).1).1 h1
  grind
 |fuel+1,listed,rem,s,a,w,hl,E,L,a2,hR,hd=>by
  refine⟨λc5=> ?_,λi hi=> ?_⟩
  ·exfalso;cases rem with
   |nil=>grind
   |cons x rem=>
    obtain⟨h1,_,h2⟩:=E.op x (by simp);have S:x.1<ops.size:=(az.1 h1).1;have:x.1∈Region.ready .any ops listed:=by
     refine mem_ready.2 ⟨(E.out x.1 S).2 ⟨x,by simp,rfl⟩,x.2.1,h1,λe he hb=> ?_⟩;have c6:=h2 e he hb;cases hle:listed.getD e.on false with
     |true=>rfl
     |false=>
      have U:e.on<listed.size:=by rw[E.sz];omega
      have:listed.getD e.on true=false:=by
       rw[Array.getD,dif_pos U]at hle⊢;exact hle
      obtain⟨y,A,d3⟩:=(E.out e.on (by omega)).1 this
      grind [E.ord,List.pairwise_cons]
    grind
  ·obtain⟨h1,o,h2,h3⟩:=mem_ready.1 hi;have a3:i<ops.size:=(az.1 h2).1;obtain⟨x,hx,a7⟩:=(E.out i a3).1 h1;subst a7;obtain⟨a4,b0,d5⟩:=E.op x hx;have b1:o=x.2.1:=by rw[h2]at a4;simpa using a4
   subst b1;obtain⟨pre,post,D⟩:=List.append_of_mem hx;have a5:∀y∈rem,listed.getD y.1 false=false:=by
    intro y A;have S:y.1<ops.size:=(az.1 (E.op y A).1).1;have:=(E.out y.1 S).2 ⟨y,A,rfl⟩;have U:y.1<listed.size:=by rw[E.sz];exact S
    rw[Array.getD,dif_pos U]at this⊢;exact this
   have V:∀y∈pre,A7 ops.toList m x.1=false/\A7 ops.toList m y.1=false/\Oper.apart ops y.2.1 x.2.1=true/\Prim.meet C.ro y.2.2 x.2.2=false/\CY y.2.1 y.2.2 x.2.1 x.2.2=true:=by
    intro y A;rcases E.pr pre x post D y A with hr|hr
    ·exfalso;have d6:=a5 y (by grind);have d1:∀(i j:Nat),Before ops.toList i j->(∀oi,ops[i]? =some oi->∀e∈oi.after,Region.binds .any e=true->listed.getD e.on false=true)->listed.getD j false=true:=by
      intro i j b2;induction b2 with
      |one ho he hb=>grind
      |more ho he hb _ ih=>
       intro b3;have b4:=b3 _ (by simpa using ho) _ (by grind) hb;exact ih λoe b5 e2 b6 c0=>E.cl _ oe b5 b4 e2 b6 c0
     grind
    ·exact hr
   rw[D]at L;obtain⟨s1,X,Y⟩:=JL G pre s a2 L V;have hex:∃b,BL P C b ops.toList x.2.1 s (λpo s'=>(some (po,s'):Option (Option Prim×St)))=some (x.2.2,s1):=by
    unfold CQ at X;cases hw:A7 ops.toList m x.1
    ·rw[cd (by grind)]at X;rw[hw]at b0;exact⟨false,RS G X (by grind) _⟩
    ·grind
   obtain⟨b,hex⟩:=hex;have d7 := Fj (Q := Q) (next := wpAny P .any ops Q fuel (listed.setIfInBounds x.1 true)) G a1 hR hex (λpo s' a' w' hK a6 c1 => by
    simp at hK;obtain⟨rfl,rfl⟩:=hK;refine Mi G a1 hq fuel _ (pre++post) _ a' w' ?_ ?_ Y a6.wf a6 (c1.trans hd)
    ·grind
    ·have T:∀y,y∈pre++post->y∈rem:=by
      intro y A;rw[D];simp at A⊢;rcases A with A|A<;>simp[A]
     have c2:∀y∈pre++post,y.1≠x.1:=by
      intro y A;have O:=E.ord;rw[D]at O;simp only[dh,av,List.pairwise_append,List.pairwise_cons]at O;obtain⟨o1,⟨o2,o3⟩,o4⟩:=O;simp at A;rcases A with A|A
      ·have:=o4 y.1 (List.mem_map_of_mem A) x.1 (by simp);omega
      ·grind [List.mem_map_of_mem]
     have hg:∀(j:Nat) (d:Bool),(listed.setIfInBounds x.1 true).getD j d=if j=x.1 then true else listed.getD j d:=by
      intro j d;by_cases hj:j=x.1
      ·simp_all [E.sz]
      ·rw[cd hj];exact getD_set_ne d (λe=>hj e.symm)
     refine⟨by grind [E.sz],λy A=>E.op y (T y A),λj hj=> ?_,?_,?_,?_⟩
     ·rw[hg];constructor
      ·intro hh;split at hh
       ·grind
       ·rename_i d8;obtain⟨y,A,d9⟩:=(E.out j hj).1 hh
        grind
      ·rintro⟨y,A,rfl⟩;rw[cd (c2 y A)];exact(E.out y.1 hj).2 ⟨y,T y A,rfl⟩
     ·grind [E.ord]
     ·intro j oj hj a0 e he hb;rw[hg]at a0⊢;split
      ·rfl
      ·split at a0
       ·grind
       ·exact E.cl j oj hj a0 e he hb
     ·intro d2 z c3 c4 y A
      have:∃N J,rem=N++z::J/\y∈N:=by
       rcases List.append_eq_append_iff.1 c4 with⟨as,e1,e2⟩|⟨bs,e1,e2⟩
       ·
        grind
       ·cases bs with
        |nil=>grind
        |cons b bs=>grind
      obtain⟨N,J,q1,q2⟩:=this;exact E.pr N z J q1 y q2)
   unfold wpOp
   grind
end
open Go.RowKit
section
variable {P:Program} {C:Cfg} {w:World} {R:Type} {Z:Base}
theorem TE {c a:Bool} (h:(bif c then a else false)=true):c=true/\a=true:=by grind
theorem MT {ops:Array Oper} {m:List Nat}:∀(ps A:List (Nat×Oper×Option Prim)) (i:Nat),ps.map (·.1)=List.range' i ps.length->DI C ops m i A (ps.map (·.2))=true->
  ∀pre x post,ps=pre++x::post->(A7 ops.toList m x.1||Prim.simple x.2.2)=true/\(∀e∈x.2.1.after,Region.binds .any e=true->e.on<x.1)/\
   ∀y∈A++pre,Eo m x.1 y.1=true\/(A7 ops.toList m x.1=false/\A7 ops.toList m y.1=false/\Oper.apart ops y.2.1 x.2.1=true/\Prim.meet C.ro y.2.2 x.2.2=false/\CY y.2.1 y.2.2 x.2.1 x.2.2=true)
 |[],A,i,_,_,pre,x,post,h=>by grind
 |(j,o,p)::ps,A,i,D,E,pre,x,post,h=>by
  simp only[av,dw,List.range'_succ,a9]at D;obtain⟨rfl,D⟩:=D;simp only[av,DI]at E;generalize G:((A7 ops.toList m j||Prim.simple p)&&o.after.toList.all (λe=> !(Region.binds .any e)||Nat.blt e.on j)&&Ab (λy:Nat×Oper×Option Prim=>Eo m j y.1||(!(A7 ops.toList m j)&& !(A7 ops.toList m y.1)&&(Oper.apart ops y.2.1 o&& !(Prim.meet C.ro y.2.2 p)&&CY y.2.1 y.2.2 o p))) A)=c at E;cases c
  ·grind
  ·simp only[ac]at E;simp only[af]at G;obtain⟨⟨L,N⟩,O⟩:=G;cases pre with
   |nil=>
    simp at h;obtain⟨rfl,rfl⟩:=h;refine⟨L,λe he hb=> ?_,λy J=> ?_⟩
    ·have:=List.all_eq_true.1 N e (by grind);simp_all
    ·simp at J;have:=Af.1 O y J
     grind
   |cons q pre=>
    simp at h;obtain⟨rfl,rfl⟩:=h;obtain⟨h1,h2,h3⟩:=MT (pre++x::post) (A++[(j,o,p)]) (j+1) D E pre x post rfl
    grind
theorem JG {ops:Array Oper} {m:List Nat}:∀(l:List (Oper×Option Prim)) (A:List (Nat×Oper×Option Prim)) (i:Nat),DI C ops m i A l=true->∀(j:Nat) (q:Oper×Option Prim),l[j]? =some q->(A7 ops.toList m (i+j)||Prim.simple q.2)=true
 |[],_,_,_,j,q,D=>by grind
 |(o,p)::l,A,i,h,j,q,D=>by
  simp only[DI]at h;obtain⟨E,h⟩:=TE h;simp only[af]at E;cases j with
  |zero=>grind
  |succ j=>
   rw[show i+(j+1)=i+1+j from by omega];exact JG l _ _ h j q (by grind)
theorem Rel.drew {s:St} {tmps:Array Value} (h:Rel Z s tmps w):Rel Z s tmps {w with drawn:=w.drawn+1}:=by
 obtain⟨ρ,h⟩:=h;have A:∀(a:AC) (x:Value),CC ρ w a x->CC ρ {w with drawn:=w.drawn+1} a x:=λa x D=>CC.mono (w:=w) (w':={w with drawn:=w.drawn+1}) (λ_ h=>h) (λ_ _=>rfl) a x (AC.agree_refl rfl rfl rfl a) D;refine⟨ρ,h.tl,λi v G=>TVR.mono A v _ (h.tv i v G),h.wt,h.wb,?_,h.bi,?_,h.ri,h.br,h.ib,h.fr.drew,h.fs,h.i0,h.i1,h.k0⟩
 ·intro k b J;obtain⟨arr,q1,q2,E⟩:=h.bx k b J;exact⟨arr,q1,q2.mono λa _ x D=>A a x D,E⟩
 ·intro id r L;obtain⟨q1,q2,N,xs,E,O⟩:=h.ro id r L;exact⟨q1,q2,N,xs,De E (λ_ _=>rfl),RowC.mono (w:=w) (λ_ h=>h) (λ_ _=>rfl) O⟩
theorem OM (A:Ak P C) (E:∀t∈C.eqOk,P.stoodInHeld t=false) (G:P.follows .mixedOrders=true) {id:Nat} {ops:Array Oper} {draw:Bool} {s:St} {a:Act} (T:Rel Z s a.tmps w) {K:St->Option R} {r:R}
  (h:H0 P C ops draw s K=some r) {Q:Exit->Act->World->Prop} (hq:∀(s':St) (J:Act) (w':World),K s'=some r->Rel Z s' J.tmps w'->J.defers=a.defers->Q .normal J w'):
  (Code.region id ops draw).wp P Q a w:=by
 cases draw
 ·exact wp_region_list (I6 A E _ s a w T h hq)
 ·simp only[H0,ac]at h;refine wp_region_any G ?_;obtain⟨m,h,hm⟩:=LD (ops:=ops.toList) ops.toList [] [] rfl rfl (λi j hi=>by grind) h;rcases H7 A ops.toList 0 s _ r h with⟨ps,sf,q1,q2,q3,U⟩|⟨acc,sf,q1,j,q,q2,q3⟩
  ·cases L:DI C ops m 0 [] (ps.map (·.2))<;>rw[L]at U
   ·grind
   ·simp only[ac]at U;have hlen:ps.length=ops.size:=by have:=de List.length q1;simpa using this
    have D:ps.map (·.1)=List.range' 0 ps.length:=by rw[q2];simp[hlen]
    have V:=MT ps [] 0 D L;have N:∀(i:Nat) (x:Nat×Oper×Option Prim),ps[i]? =some x->x.1=i/\ops[i]? =some x.2.1:=by
     intro i x S;have h1:(ps.map (·.1))[i]? =some x.1:=by simp[S]
     have h2:(ps.map (·.2.1))[i]? =some x.2.1:=by simp[S]
     rw[D,List.getElem?_range']at h1;rw[q1]at h2
     ·grind
     ·grind
    refine Mi A E (m:=m) (sf:=sf) (d0:=a.defers) (λJ w' X Y=>hq sf J w' U X Y) ops.size _ ps s a _ hlen ?_ q3 T.wf T.drew rfl;refine⟨by simp,λx S=> ?_,λi hi=> ?_,?_,?_,?_⟩
    ·obtain⟨pre,post,hs⟩:=List.append_of_mem S
     grind
    ·constructor
     ·intro _;have O:i<ps.length:=by omega
      exact⟨ps[i],bq O,(N i ps[i] (ah O)).1⟩
     ·intro _;simp[Array.getD,hi]
    ·grind [List.pairwise_lt_range']
    ·simp[Array.getD]
    ·intro pre x post hs y hy;rcases(V pre x post hs).2.2 y (by grind)with h1|h1
     ·grind
     grind
  ·cases L:DI C ops m 0 [] acc<;>rw[L]at q1
   ·grind
   ·have:=JG acc [] 0 L j q q2
    grind
def Fc:Ex->Exit
 | .normal=> .normal
 | .exit id=> .exit id
 | .ret=> .ret
def Dq (Z:Base) (K:Ex->St->Option R) (r:R) (d:List Deferred):Exit->Act->World->Prop:=
 λe a w=>∃A s,Fc A=e/\K A s=some r/\Rel Z s a.tmps w/\a.defers=d
theorem NF {step:St->(Ex->St->Option R)->Option R} {body:Code} {K:Ex->St->Option R} {r:R} {d:List Deferred}
  (A:∀(s:St) (a:Act) (w:World) (L:Ex->St->Option R),Rel Z s a.tmps w->a.defers=d->step s L=some r->body.wp P (Dq Z L r d) a w):
  ∀(n:Nat) (s:St) (a:Act) (w:World),Rel Z s a.tmps w->a.defers=d->Fi P C step n s K=some r->Code.rounds P body (Dq Z K r d) n a w
 |0,s,a,w,N,O,h=>by grind [Fi]
 |n+1,s,a,w,N,O,h=>by
  rw[Fi]at h;rw[rounds_succ];refine wp_mono (A s a w _ N O h) ?_;rintro e Q w' ⟨S,s2,rfl,G,D,E⟩;cases S with
  |normal=>
   obtain⟨T,U,J⟩:=FR D G;exact NF A n T Q w' J E U
  |exit id=>exact⟨.exit id,s2,rfl,G,D,E⟩
  |ret=>exact⟨.ret,s2,rfl,G,D,E⟩
def InZ (Z:Base):Prop:=∀k b,Z.K0 k=some b->Bg k=true
def C3 (P:Program) (c:Code) (sk:Sk) (g:CJ):Prop:=
 ∀(Z:Base) (_:InZ Z) (a:Act) (w:World) (vars:List AC) (R:Type) (K:Ex->St->Option R) (r:R),Rel Z (Ag sk vars) a.tmps w->g R vars K=some r->c.wp P (Dq Z K r a.defers) a w
structure SubOK (P : Program) (C : Cfg) (c : Code) (blk : Nat) : Prop where
 l:∀p∈At c blk,∀sk g,C.loops p.1=some (sk,g)->C3 P (.loop p.2) sk g
 b:∀p∈AM c,∀sk g,C.blocks p.1=some (sk,g)->C3 P (.block p.1 p.2) sk g
 c:∀p∈Az c blk,∀sk g,C.conds p.1=some (sk,g)->C3 P (.cond (.tmp p.1) p.2.2.1 p.2.2.2) sk g
theorem Dh:∀(c:Code) (b b':Nat),At c b=At c b'
 | .seq x y,b,b'=>by simp only[At,Dh x b b',Dh y b b']
 | .cond _ x y,b,b'=>by simp only[At,Dh x b b',Dh y b b']
 | .block _ x,b,b'=>by simp only[At,Dh x b b']
 | .loop x,b,b'=>by simp only[At,Dh x b b']
 | .skip,_,_=>rfl
 | .region _ _ _,_,_=>rfl
 | .exit _,_,_=>rfl
 | .ret,_,_=>rfl
 | .rangeFunc _ _ _ _,_,_=>rfl
 | .scope x,b,b'=>by simp only[At,Dh x b b']
 | .label _,_,_=>rfl
 | .goto _,_,_=>rfl
 | .refuse _,_,_=>rfl
theorem DA:∀(c:Code) (b b':Nat),Az c b=Az c b'
 | .seq x y,b,b'=>by simp only[Az,DA x b b',DA y b b']
 | .cond c x y,b,b'=>by cases c<;>simp only[Az,DA x b b',DA y b b']
 | .block _ x,b,b'=>by simp only[Az,DA x b b']
 | .loop x,b,b'=>by simp only[Az,DA x b b']
 | .skip,_,_=>rfl
 | .region _ _ _,_,_=>rfl
 | .exit _,_,_=>rfl
 | .ret,_,_=>rfl
 | .rangeFunc _ _ _ _,_,_=>rfl
 | .scope x,b,b'=>by simp only[Az,DA x b b']
 | .label _,_,_=>rfl
 | .goto _,_,_=>rfl
 | .refuse _,_,_=>rfl
theorem SubOK.any {c:Code} (b:Nat) {b':Nat} (h:SubOK P C c b):SubOK P C c b':=
 ⟨λp A=>h.l p (by grind [Dh]),h.b,λp A=>h.c p (by grind [DA])⟩
theorem Ix {c:Code} {told:Option (Sk×CJ)} {s:St} {a:Act} {K:Ex->St->Option R} {r:R} {d:List Deferred} {run:Option R} (E:InZ Z)
  (J:∀sk g,told=some (sk,g)->C3 P c sk g) (A:Rel Z s a.tmps w) (L:a.defers=d) (h:FP told s K run=some r) (G:run=some r->c.wp P (Dq Z K r d) a w):c.wp P (Dq Z K r d) a w:=by
 unfold FP at h;split at h
 ·grind
 ·rename_i sk g;obtain⟨D,h2⟩:=Ay h;split at h2
  ·rename_i vars N;obtain⟨ρ,A⟩:=A;obtain⟨tm,aB,aC⟩:=s;subst L;exact J sk g rfl Z E a w vars R K r ⟨ρ,A.rebuild E D N⟩ h2
  grind
theorem Nc {ρ:Env} {d:Nat} {a:AC} {x:Value} (h:CC ρ w a x):CC ρ w (a.killP d) x:=by
 cases a with
 |ptr k o=>simp only[AC.killP];cases Nat.beq k d<;>first|exact h|exact h.one
 |bsl k o=>simp only[AC.killP];cases Nat.beq k d<;>first|exact h|exact h.one
 |clo f fs cs=>simp only[AC.killP];cases(Ab (DV d) fs&&Ab (DV d) cs)<;>first|exact h|exact h.one
 |_=>exact h
theorem G_ {ρ:Env} {f:AC->AC} (A:∀(a:AC) (x:Value),CC ρ w a x->CC ρ w (f a) x):∀{l:List AC} {xs:List Value},CL (CC ρ w) l xs->CL (CC ρ w) (l.map f) xs
 |[],[],_=>trivial
 |_::_,_::_,h=>⟨A _ _ h.1,G_ A h.2⟩
 |[],_::_,h=>h.elim
 |_::_,[],h=>h.elim
theorem Uq {ρ:Env} {f:AC->AC} (E:∀(a:AC) (x:Value),CC ρ w a x->CC ρ w (f a) x) {v:TV} {x:Value} (h:TVR ρ w v x):TVR ρ w (v.mapC f) x:=by
 cases v with
 |vD=>trivial
 |tup ps=>
  obtain⟨D,rfl,A⟩:=h;refine⟨D,rfl,?_⟩;generalize D.toList=l at A;induction ps generalizing l with
  |nil=>grind
  |cons p ps G=>
   cases l with
   |nil=>exact A.elim
   |cons y l=>
    obtain⟨g,cs⟩:=p;refine⟨?_,G l A.2⟩;have:=A.1;cases g
    ·grind
    grind [G_]
 |v g cs=>
  cases g
  ·obtain⟨a,rfl,J⟩:=h;exact⟨_,rfl,E _ _ J⟩
  ·obtain⟨D,rfl,A⟩:=h;exact⟨D,rfl,G_ E A⟩
theorem RelE.forget {tm:List TV} {aB:List (Nat×Box)} {aC:List (Nat×Row)} {ρ:Env} {tmps:Array Value} (h:RelE Z tm aB aC ρ tmps w) {d:Nat} (hd:∀b,Z.K0 d≠some b):
  RelE Z (tm.map (TV.mapC (AC.killP d))) ((del d aB).map λp=>(p.1,(⟨p.2.ty,p.2.cells.map (AC.killP d)⟩:Box))) aC ρ tmps w:=by
 have O:∀k,Aa ((del d aB).map λp=>(p.1,(⟨p.2.ty,p.2.cells.map (AC.killP d)⟩:Box))) k=(Aa (del d aB) k).map λb=>⟨b.ty,b.cells.map (AC.killP d)⟩:=λk=>BV (λb:Box=>(⟨b.ty,b.cells.map (AC.killP d)⟩:Box)) _ k;have D:∀(k:Nat) (b:Box),Aa ((del d aB).map λp=>(p.1,(⟨p.2.ty,p.2.cells.map (AC.killP d)⟩:Box))) k=some b->k≠d/\∃b',Aa aB k=some b'/\b=⟨b'.ty,b'.cells.map (AC.killP d)⟩:=by
  intro k b A;rw[O]at A;simp only[ap]at A;obtain⟨b',h1,rfl⟩:=A;obtain⟨h2,h3⟩:=Er h1;exact⟨h2,b',h3,rfl⟩
 have J:∀(k:Nat) (b:Box),k≠d->Aa aB k=some b->∃b',Aa ((del d aB).map λp=>(p.1,(⟨p.2.ty,p.2.cells.map (AC.killP d)⟩:Box))) k=some b':=λk b T A=>⟨_,by rw[O,DQ _ _ _ T,A];rfl⟩;have Q:∀a,DV d a=true->AC.wfP aB a->AC.wfP ((del d aB).map λp=>(p.1,(⟨p.2.ty,p.2.cells.map (AC.killP d)⟩:Box))) a:=by
  intro a Y E;cases a<;>try exact trivial
  rename_i k o;obtain⟨b,hb⟩:=E;simp only[DV,Bool.not_eq_true']at Y;exact J k b (Cn Y) hb
 have L:∀a,AC.wf aB aC a->AC.wf ((del d aB).map λp=>(p.1,(⟨p.2.ty,p.2.cells.map (AC.killP d)⟩:Box))) aC (a.killP d):=by
  intro a E;cases a with
  |ptr k o=>
   simp only[AC.killP];cases A:Nat.beq k d
   ·obtain⟨b,hb⟩:=E;exact J k b (Cn A) hb
   ·exact trivial
  |bsl k o=>
   simp only[AC.killP];cases A:Nat.beq k d
   ·obtain⟨b,hb⟩:=E;exact J k b (Cn A) hb
   ·exact trivial
  |clo f fs cs=>
   simp only[AC.killP];cases G:(Ab (DV d) fs&&Ab (DV d) cs)
   ·exact trivial
   ·simp only[af]at G;exact⟨λa h'=>Q a (Af.1 G.1 a h') (E.1 a h'),λa h'=>Q a (Af.1 G.2 a h') (E.2 a h')⟩
  |_=>exact E
 refine⟨by grind [h.tl],?_,?_,?_,?_,?_,h.ro,h.ri,?_,?_,h.fr,h.fs,h.i0,h.i1,?_⟩
 ·intro i v hi;simp only[bn,ap]at hi;obtain⟨u,U,rfl⟩:=hi;exact Uq (λ_ _=>Nc) (h.tv i u U)
 ·intro v hv;simp only[am]at hv;obtain⟨u,U,rfl⟩:=hv;have:=h.wt u U;cases u with
  |vD=>trivial
  |v g cs=>
   intro a E;simp only[am]at E;obtain⟨c,G,rfl⟩:=E;exact L c (this c G)
  |tup ps=>
   intro p hp a E;simp only[am]at hp;obtain⟨q,V,rfl⟩:=hp;simp only[am]at E;obtain⟨c,G,rfl⟩:=E;exact L c (this q V c G)
 ·intro k b A a E;obtain⟨_,b',N,rfl⟩:=D k b A;simp only[am]at E;obtain⟨c,G,rfl⟩:=E;exact L c (h.wb k b' N c G)
 ·intro k b A;obtain⟨_,b',N,rfl⟩:=D k b A;obtain⟨arr,h1,h2,h3⟩:=h.bx k b' N
  grind [G_,Nc]
 ·intro k k' b b' A X;obtain⟨_,_,S,_⟩:=D k b A;obtain⟨_,_,p2,_⟩:=D k' b' X;exact h.bi k k' _ _ S p2
 ·intro k b j q A V;obtain⟨_,_,S,_⟩:=D k b A;exact h.br k _ j q S V
 ·intro b hb;obtain⟨q1,q2,q3⟩:=h.ib b hb
  grind
 ·intro k b A;obtain⟨S,bo,p2⟩:=h.k0 k b A
  grind
theorem Ih (D:InZ Z) {tmps:Array Value} {K:St->Option R} {r:R}:∀(l:List Nat) (s:St),Rel Z s tmps w->F4 l s K=some r->∃G,K G=some r/\Rel Z G tmps w
 |[],s,A,h=>⟨s,h,A⟩
 |d::l,⟨tm,aB,aC⟩,A,h=>by
  simp only[F4]at h;split at h
  ·exact Ih D l _ A h
  ·cases E:Bg d<;>rw[E]at h
   ·simp only[aj,An]at h;obtain⟨ρ,A⟩:=A;exact Ih D l _ ⟨ρ,A.forget (d:=d) λb hb=>by rw[D d b hb]at E;cases E⟩ h
   grind
theorem Bo (A:Ak P C) (S:∀t∈C.eqOk,P.stoodInHeld t=false) (J:P.follows .mixedOrders=true) (V:InZ Z) {r:R} {d:List Deferred}:
  ∀(c:Code) (L blk:Nat) (s:St) (a:Act) (w:World) (K:Ex->St->Option R),SubOK P C c blk->Rel Z s a.tmps w->a.defers=d->Ax P C L c blk s K=some r->c.wp P (Dq Z K r d) a w
 | .skip,L,blk,s,a,w,K,E,N,O,h=>wp_skip ⟨.normal,s,rfl,h,N,O⟩
 | .region id ops draw,L,blk,s,a,w,K,E,N,O,h=>by
  rw[Ax]at h;obtain⟨s0,h,N⟩:=Ih V _ s N h;exact OM A S J N h λU a' w' T G Q=>⟨.normal,U,rfl,T,G,Q.trans O⟩
 | .seq x y,L,blk,s,a,w,K,E,N,O,h=>by
  rw[Ax]at h;refine wp_seq (wp_mono (Bo A S J V x L blk s a w _ ⟨λp D=>E.l p (by simp[At,D]),λp D=>E.b p (by simp[AM,D]),λp D=>E.c p (by simp[Az,D])⟩ N O h) ?_);rintro e a' w' ⟨Y,U,rfl,T,G,Q⟩;cases Y with
  |normal=>exact Bo A S J V y L blk U a' w' K ⟨λp D=>E.l p (by simp[At,D]),λp D=>E.b p (by simp[AM,D]),λp D=>E.c p (by simp[Az,D])⟩ G Q T
  |exit id=>exact⟨.exit id,U,rfl,T,G,Q⟩
  |ret=>exact⟨.ret,U,rfl,T,G,Q⟩
 | .cond c x y,L,blk,s,a,w,K,E,N,O,h=>by
  have hx:SubOK P C x blk:=⟨λp D=>E.l p (by simp[At,D]),λp D=>E.b p (by simp[AM,D]),λp D=>E.c p (by cases c<;>simp[Az,D])⟩;have hy:SubOK P C y blk:=⟨λp D=>E.l p (by simp[At,D]),λp D=>E.b p (by simp[AM,D]),λp D=>E.c p (by cases c<;>simp[Az,D])⟩;rw[Ax]at h;refine Ix (c:= .cond c x y) V ?_ N O h λh2=> ?_
  ·intro sk g ht;unfold Mv at ht;split at ht
   ·rename_i t;exact E.c (t,0,x,y) (by simp[Az]) sk g ht
   grind
  ·split at h2
   ·rename_i g hg;have hc:a.eval c= .bool g:=by
     obtain⟨ρ,X⟩:=N;have:=Du X c;rw[hg]at this;exact this.bool
    refine wp_cond hc ?_;split at h2
    ·rename_i t;have a0:∀b,g=b->Rel Z ⟨setL s.tmps t (.c (.bool b)),s.aB,s.aC⟩ a.tmps w:=by
      rintro b rfl;obtain⟨ρ,X⟩:=N;exact⟨ρ,X.learn t (by have e:a.tmps.getD t undef= .bool g:=hc;grind [TVR.mkBool]) (B9 _)⟩
     cases g
     ·simp only[aj]at h2;rw[Ca]at h2;exact Bo A S J V y L blk _ a w K hy (a0 false rfl) O h2
     ·simp only[ac]at h2;rw[Ca]at h2;exact Bo A S J V x L blk _ a w K hx (a0 true rfl) O h2
    ·cases g
     ·exact Bo A S J V y L blk s a w K hy N O h2
     ·exact Bo A S J V x L blk s a w K hx N O h2
   grind
 | .block id body,L,blk,s,a,w,K,E,N,O,h=>by
  have hb:SubOK P C body id:=SubOK.any blk ⟨λp D=>E.l p (by simp[At,D]),λp D=>E.b p (by simp[AM,D]),λp D=>E.c p (by simp[Az,D])⟩;rw[Ax]at h;refine Ix (c:= .block id body) V (E.b (id,body) (by simp[AM])) N O h λh2=> ?_;refine wp_block (wp_mono (Bo A S J V body L id s a w _ hb N O h2) ?_);rintro e a' w' ⟨Y,U,rfl,T,G,Q⟩;cases Y with
  |normal=>exact⟨.normal,U,rfl,T,G,Q⟩
  |exit i=>
   simp only[Fc,Exit.inBlock];dsimp only at T;cases hb:Nat.beq i id<;>rw[hb]at T
   ·have:i≠id:=λe=>by simp_all
    rw[cd this];exact⟨.exit i,U,rfl,T,G,Q⟩
   ·rw[cm (ab hb)];exact⟨.normal,U,rfl,T,G,Q⟩
  |ret=>exact⟨.ret,U,rfl,T,G,Q⟩
 | .loop body,L,blk,s,a,w,K,E,N,O,h=>by
  rw[Ax]at h;obtain⟨U,h',G⟩:=Gn _ s a.tmps N _ r h;obtain⟨s1,h1,a1⟩:=FR G h';have hb:SubOK P C body blk:=⟨λp D=>E.l p (by simp[At,D]),λp D=>E.b p (by simp[AM,D]),λp D=>E.c p (by simp[Az,D])⟩;refine Ix (c:= .loop body) V (E.l (Hc body,body) (by simp[At])) a1 O h1 λh2=> ?_;exact wp_loop_rounds L (NF (λs a w K' N O h=>Bo A S J V body L blk s a w K' hb N O h) L s1 a w a1 O h2)
 | .exit id,L,blk,s,a,w,K,E,N,O,h=>wp_exit ⟨.exit id,s,rfl,h,N,O⟩
 | .ret,L,blk,s,a,w,K,E,N,O,h=>wp_ret ⟨.ret,s,rfl,h,N,O⟩
 | .rangeFunc f ps a2 body,L,blk,s,a,w,K,E,N,O,h=>by grind [Ax]
 | .scope b,L,blk,s,a,w,K,E,N,O,h=>by
  rw[Ax]at h;refine wp_scope_straight (wp_mono (Bo A S J V b L blk s a w K ⟨λp D=>E.l p (by simp[At,D]),λp D=>E.b p (by simp[AM,D]),λp D=>E.c p (by simp[Az,D])⟩ N O h) ?_);rintro e a' w' ⟨Y,U,rfl,T,G,Q⟩;cases Y with
  |normal=>exact⟨.normal,U,rfl,T,G,Q⟩
  |exit i=>exact⟨.exit i,U,rfl,T,G,Q⟩
  |ret=>exact⟨.ret,U,rfl,T,G,Q⟩
 | .label l,L,blk,s,a,w,K,E,N,O,h=>by
  rw[Ax]at h;exact wp_label ⟨.normal,s,rfl,h,N,O⟩
 | .goto l,L,blk,s,a,w,K,E,N,O,h=>by grind [Ax]
 | .refuse a3,L,blk,s,a,w,K,E,N,O,h=>by grind [Ax]
theorem TO {e A:Ex} (h:Hm e A=true):e=A:=by
 cases e<;>cases A<;>simp only[Hm]at h<;>first|rfl|simp_all|simp_all
theorem MU {s:St} {E:Ex} {tmps:Array Value} (G:InZ Z) (D:Rel Z s tmps w):∀{A:List (Ex×Sk)} {i n:Nat} {o:List AC},Ek A i E s=some (n,o)->
  i<=n/\∃sk,(∀(R:Type) (K:Ex->St->Option R),Fd o K A i n=K E (Ag sk o))/\Rel Z (Ag sk o) tmps w
 |[],i,n,o,h=>by grind [Ek]
 |(e,sk)::l,i,n,o,h=>by
  simp only[Ek]at h;cases hb:(Hm e E&&sk.okB)<;>rw[hb]at h
  ·simp only[aj]at h;obtain⟨h1,J,h2,h3⟩:=MU G D h
   grind [Fd,DN]
  ·simp only[ac]at h;simp only[af]at hb;split at h
   ·rename_i vars L;simp at h;obtain⟨rfl,rfl⟩:=h;refine⟨bf _,sk,λR K=> ?_,?_⟩
    ·simp only[Fd,Nat.beq_refl,ac];rw[TO hb.1]
    ·obtain⟨ρ,D⟩:=D;obtain⟨tm,aB,aC⟩:=s;exact⟨ρ,D.rebuild G hb.2 L⟩
   grind
theorem Rs (E:Ak P C) (U:∀t∈C.eqOk,P.stoodInHeld t=false) (J:P.follows .mixedOrders=true) {L blk:Nat} {body:Code} {sk:Sk} {A:List (Ex×Sk)} {m:List AC->Option (Nat×List AC)}
  (V:sk.okB=true) (N:SubOK P C body blk) (hm:∀vars o,m vars=some o->∃n,AW (Cm P C L blk body sk A) n vars=some o):C3 P (.loop body) sk (gOf A m):=by
 intro Z X a w vars R K r hR h;simp only[gOf,ai]at h;obtain⟨⟨t,o⟩,h1,h2⟩:=h;obtain⟨n,hn⟩:=hm vars _ h1;have key:∀(n:Nat) (vars:List AC) (O:Act) (w':World),Rel Z (Ag sk vars) O.tmps w'->O.defers=a.defers->AW (Cm P C L blk body sk A) n vars=some (t,o)->Code.rounds P body (Dq Z K r a.defers) n O w':=by
  intro n;induction n with
  |zero=>grind [AW]
  |succ n ih=>
   intro vars O w' Y a0 h;simp only[AW,ai]at h;obtain⟨⟨t',o'⟩,q1,q2⟩:=h;rw[rounds_succ];refine wp_mono (Bo E U J X body L blk _ O w' _ N Y a0 q1) ?_;rintro e a2 w2 ⟨ae,s',rfl,hK,Q,S⟩;have D:∀T:Ex,Ek A 1 T s'=some (t',o')->Dq Z K r a.defers (Fc T) a2 w2:=by
    intro T hx;obtain⟨p1,a1,p2,p3⟩:=MU X Q hx;have ht:t'≠0:=by omega
    dsimp only at q2;rw[cd ht]at q2;simp at q2;obtain⟨rfl,rfl⟩:=q2;rw[p2 R K]at h2;exact⟨T,_,rfl,h2,p3,S⟩
   cases ae with
   |normal=>
    obtain⟨s3,h3,G⟩:=FR Q hK;split at h3
    ·rename_i vars' hv;simp at h3;obtain⟨rfl,rfl⟩:=h3;simp only[cq]at q2;obtain⟨ρ,G⟩:=G;obtain⟨tm,aB,aC⟩:=s3;exact ih _ a2 w2 ⟨ρ,G.rebuild X V hv⟩ S q2
    grind
   |exit i=>exact D _ hK
   |ret=>exact D _ hK
 exact wp_loop_rounds n (key n vars a w hR rfl hn)
end
open Go.RowKit
section
variable {P:Program} {C:Cfg} {w:World} {R:Type} {Z:Base}
theorem RelE.slots {tm D:List TV} {aB:List (Nat×Box)} {aC:List (Nat×Row)} {ρ:Env} {tmps A:Array Value} (h:RelE Z tm aB aC ρ tmps w) (E:D.length=A.size)
  (G:∀(i:Nat) (v:TV),D[i]? =some v->TVR ρ w v (A.getD i undef)) (J:∀v∈D,TV.wf aB aC v):RelE Z D aB aC ρ A w:=
 ⟨E,G,J,h.wb,h.bx,h.bi,h.ro,h.ri,h.br,h.ib,h.fr,h.fs,h.i0,h.i1,h.k0⟩
theorem Mn {s:St} {a:Act} {ρ:Env} (E:RelE Z s.tmps s.aB s.aC ρ a.tmps w):∀(l:List ResultVar) (ps:List (Bool×List AC)),Ea P s l=some ps->
  ∃ xs : List Value, (l.mapM fun
   | .tmp t=>pure (a.tmps.getD t undef)
   | .cell b t=>do loadVar t (<-asAddr (a.tmps.getD b undef)):Sem (List Value)).run P w= .ok xs w/\TP ρ w ps xs/\∀p∈ps,∀c∈p.2,AC.wf s.aB s.aC c
 |[],ps,h=>by simp[Ea]at h;subst h;exact⟨[],rfl,trivial,by simp⟩
 |rv::l,ps,h=>by
  simp only[Ea]at h;split at h
  ·rename_i g cs A;split at h
   ·rename_i L N;simp at h;subst h;obtain⟨xs,h1,h2,h3⟩:=Mn E l L N;have key : ∃ x, ((match rv with
      | .tmp t=>pure (a.tmps.getD t undef)
      | .cell b t=>do loadVar t (<-asAddr (a.tmps.getD b undef)):Sem Value)).run P w= .ok x w/\TVR ρ w (.v g cs) x/\TV.wf s.aB s.aC (.v g cs):=by
     cases rv with
     |tmp t=>
      simp only[Jj]at A;split at A
      ·rename_i X G O;simp at A;obtain⟨rfl,rfl⟩:=A;have Q:t<s.tmps.length:=by
        rcases dl t s.tmps.length with S|T
        ·omega
        ·grind [Au]
       have D:s.tmps[t]? =some (.v X G):=by
        rw[Au,List.getD]at O;rw[ah Q]at O⊢;simpa using O
       exact⟨_,by simp,E.tv t _ D,E.wt _ (ay D)⟩
      grind
     |cell b t=>
      simp only[Jj]at A;split at A
      ·rename_i key off X sz hb Y hs;have U:b<s.tmps.length:=by
        rcases dl b s.tmps.length with S|T
        ·omega
        ·grind [Au]
       have D:s.tmps[b]? =some (.c (.ptr key off)):=by
        rw[Au,List.getD]at hb;rw[ah U]at hb⊢;simpa using hb
       have hc:=(E.tv b _ D).c;simp only[CC]at hc;split at A
       ·rename_i bo J;obtain⟨arr,q1,q2,q3⟩:=E.bx key bo J;obtain ⟨x, q4, q5⟩ := Hp (b := ρ.bx key) (o := 0) Y hs A q2 (λj y hj => by
         simp only[cz];rw[cell_of_row w _ j arr bo.ty (0,0) q1]
         grind)
        rw[cz]at q4;exact⟨x,by grind [asAddr],q5,FL A (E.wb key bo J)⟩
       grind
      grind
    obtain⟨x,k1,k2,k3⟩:=key;refine⟨x::xs,?_,?_,?_⟩
    ·simp_all
    ·refine⟨?_,h2⟩;cases g<;>exact k2
    ·intro p V;simp only[an]at V;rcases V with rfl|V
     ·exact k3
     grind
   grind
  grind
theorem Fl:∀(ks:List Kd) (cs:List AC),(Bc ks cs).length=cs.length
 |[],[]=>rfl
 |[],_::_=>rfl
 | .sl _::_,[]=>rfl
 | .int _::_,[]=>rfl
 | .bool::_,[]=>rfl
 | .raw::_,[]=>rfl
 | .int _::l,_::cs=>by simp[Bc,Fl l cs]
 | .bool::l,_::cs=>by simp[Bc,Fl l cs]
 | .raw::l,_::cs=>by simp[Bc,Fl l cs]
 | .sl _::l,a::cs=>by cases a<;>simp[Bc,Fl l cs]
theorem Kz {ρ:Env}:∀(A:List TypeId) (ps:List (Bool×List AC)) (xs:List Value),TP ρ w ps xs->TP ρ w (Cy P A ps) xs
 |[],ps,xs,h=>by grind [Cy]
 |_::_,[],xs,h=>by grind [Cy]
 |t::A,(g,cs)::ps,[],h=>h.elim
 |t::A,(g,cs)::ps,x::xs,h=>by
  refine⟨?_,Kz A ps xs h.2⟩;have h1:=h.1;cases J:Cg P 8 t with
  |none=>exact h1
  |some ks=>
   cases g
   ·obtain⟨a,rfl,D⟩:=h1;have:=D5 ks [a] [x] ⟨D,trivial⟩;have E:=Fl ks [a];generalize G:Bc ks [a]=l at this E;cases l with
    |nil=>grind
    |cons b l=>
     cases l with
     |nil=>exact⟨b,G,this.1⟩
     |cons=>grind
   grind [D5]
theorem MQ {aB:List (Nat×Box)} {aC:List (Nat×Row)}:∀(D:List TypeId) (ps:List (Bool×List AC)),(∀p∈ps,∀c∈p.2,AC.wf aB aC c)->∀p∈Cy P D ps,∀c∈p.2,AC.wf aB aC c
 |[],ps,h=>by simpa [Cy]using h
 |_::_,[],h=>by simp[Cy]
 |t::D,(g,cs)::ps,h=>by
  intro p A;simp only[Cy,an]at A;rcases A with rfl|A
  ·cases E:Cg P 8 t with
   |none=>simp_all
   |some ks=>exact EL ks cs (h (g,cs) (by simp))
  ·exact MQ D ps (λq G=>h q (by grind)) p A
theorem Lx {ρ:Env}:∀{ps:List (Bool×List AC)} {xs:List Value},TP ρ w ps xs->ps.length=xs.length
 |[],[],_=>rfl
 |_::_,_::_,h=>by simp[Lx h.2]
 |[],_::_,h=>h.elim
 |_::_,[],h=>h.elim
theorem Qg {ρ:Env} {ps:List (Bool×List AC)} {xs:List Value} (h:TP ρ w ps xs):TVR ρ w (D8 ps) (if h:xs.length=1 then xs[0]else .tuple xs.toArray):=by
 have A:=Lx h
 match ps,xs,h with
 |[],[],_=>exact⟨#[],rfl,trivial⟩
 |[(g,cs)],[x],h=>
  simp only[D8,c7,dite_true,List.getElem_cons_zero];have:=h.1;cases g<;>exact this
 |p::q::ps,x::y::xs,h=>
  have: ¬(x::y::xs).length=1:=by simp
  rw[dif_neg this];exact⟨_,rfl,by omega⟩
theorem N1 {keys ids:List Nat} {ps:List (Bool×List AC)} (h:Ab (λp:Bool×List AC=>Ab (AC.inK keys ids) p.2) ps=true):TV.inK keys ids (D8 ps)=true:=by
 match ps,h with
 |[],h=>exact h
 |[(g,cs)],h=>exact Af.1 h (g,cs) (by simp)
 |p::q::ps,h=>exact h
theorem NZ {aB:List (Nat×Box)} {aC:List (Nat×Row)} {ps:List (Bool×List AC)} (h:∀p∈ps,∀c∈p.2,AC.wf aB aC c):TV.wf aB aC (D8 ps):=by
 match ps,h with
 |[],h=>exact h
 |[(g,cs)],h=>exact h (g,cs) (by simp)
 |p::q::ps,h=>exact h
theorem Nb {G:Func} {keys0:List Nat} {s:St} {a:Act} (hR:Rel Z s a.tmps w) (U:∀k b,Z.K0 k=some b->k∈keys0) {K:TV->Mem->Option R} {r:R} (h:E_ P C G keys0 s K=some r):
  ∃x ρ' v m,K v m=some r/\(results G a.tmps).run P w= .ok x w/\RelE Z [v] m.aB m.aC ρ' #[x] w/\(C.keepIn=true->a.tmps.getD 0 undef=ρ'.rv base):=by
 unfold E_ at h;split at h
 ·grind
 ·rename_i ps a1;have h1:∃s1,(CG P C s1 λs1=>match Ea P s1 G.results.toList with
    |none=>none
    |some ps=>match s1 with
     |⟨tm,aB,aC⟩=>
      bif !C.keepIn||IC tm then
      Al (Cy P G.resultTypes.toList ps) λps=>
      Al (Ef aB 4 (As (cat (λp:Bool×List AC=>cat AC.keys p.2) ps) keys0)) λkeys=>
      Al (EO aB (cat (λp:Bool×List AC=>p.2) ps) keys) λids=>
      Al (aB.filter λp=>Am keys p.1) λA=>
      Al (aC.filter λp=>Am ids p.1||Bg p.1) λJ=>
      bif Ab (λp:Bool×List AC=>Ab (AC.inK keys ids) p.2) ps&&Ab (λp:Nat×Box=>Ab (AC.inK keys ids) p.2.cells) A&&Ab (B7 aB) keys0&&Ab (Am keys) keys0 then K (D8 ps) (⟨A,J⟩:Mem)else none else none)=some r/\Rel Z s1 a.tmps w:=by
   cases ho:C.ownRes<;>rw[ho]at h
   ·exact G0 _ s a.tmps hR _ _ h
   ·exact⟨s,h,hR⟩
  obtain⟨s1,h1,V⟩:=h1;obtain⟨s2,h2,ρ,L⟩:=FR V h1;split at h2
  ·grind
  ·rename_i X Q;obtain⟨xs,q1,q2,q3⟩:=Mn L _ _ Q;obtain⟨tm,aB,aC⟩:=s2;dsimp only at h2;obtain⟨D,h2⟩:=NJ h2;have N:C.keepIn=true->a.tmps.getD 0 undef=ρ.rv base:=λY=>by
    rw[Y]at D;simp only[Bool.not_true,Bool.false_or]at D;unfold IC at D;split at D
    ·have e:=ab D;subst e;have:=L.tv 0 _ rfl;obtain⟨y,hy,O⟩:=this;simp only[a9,cy]at hy;subst hy;exact O.1
    grind
   simp only[An]at h2;have a0:=Kz G.resultTypes.toList _ _ q2 (P:=P);have S:=MQ G.resultTypes.toList _ q3 (P:=P);generalize Cy P G.resultTypes.toList X=E at h2 a0 S;generalize Ef aB 4 (As (cat (λp:Bool×List AC=>cat AC.keys p.2) E) keys0)=keys at h2;generalize EO aB (cat (λp:Bool×List AC=>p.2) E) keys=ids at h2;obtain⟨O,h2⟩:=Ay h2;simp only[af]at O;have T:(results G a.tmps).run P w= .ok (if h:xs.length=1 then xs[0]else .tuple xs.toArray) w:=by
    unfold results;rw[Array.mapM_eq_mapM_toList];simp only[Sem.run_bind,Sem.run_map];erw[q1]
    simp only[be,Sem.run_pure];congr 1
   have a2:TV.inK keys ids (D8 E)=true:=N1 O.1.1.1;have a3:TV.wf aB aC (D8 E):=NZ S;refine⟨_,ρ,_,_,h2,T,?_,N⟩;refine L.filter (by simp) (λi v hi=> ?_) (λv hv=> ?_) (by grind [Ab]) O.1.1.2 (λk b Y=>Af.1 O.2 k (U k b Y))
   ·cases i with
    |zero=>simp at hi;subst hi;simp_all [Qg]
    |succ i=>grind
   grind
theorem NE (E:Ak P C) (U:∀t∈C.eqOk,P.stoodInHeld t=false) (N:P.follows .mixedOrders=true) (hZ:InZ Z) {L:Nat} {f:FuncId} {args:List TV} {mem:Mem} {K:TV->Mem->Option R} {r:R}
  (O:∀c,CT P f=some c->SubOK P C c 0) (h:Dy P C L f args mem K=some r) {ρ:Env} {xs:List Value} (A:RelE Z args mem.aB mem.aC ρ xs.toArray w):
  Calls P f xs.toArray w λe w'=>∃x Q v m,e= .returned x/\K v m=some r/\RelE Z [v] m.aB m.aC Q #[x] w':=by
 unfold Dy at h;split at h
 ·rename_i J V;split at h
  ·rename_i c hc;obtain⟨_,h⟩:=Ay h;simp only[An]at h;have S:P.funcs[f]? =some J:=by simpa using V
   have hs:=O c (by grind [CT]);refine calls_of_wp S hc ?_;have hlen:xs.length=args.length:=by simpa using A.tl.symm
   have hR:Rel Z ⟨args++List.replicate (J.ntmps-args.length) TV.vD,mem.aB,mem.aC⟩ (xs.toArray++Array.replicate (J.ntmps-xs.toArray.size) undef) w:=by
    refine⟨ρ,A.slots (by grind) (λi u T=> ?_) (λu G=> ?_)⟩
    ·rw[cb]at T;split at T
     ·rename_i a2;have X:i<xs.length:=by omega
      have e:(xs.toArray++Array.replicate (J.ntmps-xs.toArray.size) undef).getD i undef=xs.toArray.getD i undef:=by
       simp[Array.getD_eq_getD_getElem?,Array.getElem?_append,X]
      rw[e];exact A.tv i u T
     ·have:=ay T;rw[cp]at this;rw[this.2];trivial
    ·rw[bt]at G;rcases G with G|G
     ·exact A.wt u G
     ·rw[cp]at G;rw[G.2];trivial
   refine wp_mono (Bo E U N hZ c L 0 _ ⟨_,[]⟩ w _ hs hR rfl h) ?_;rintro e a' w' ⟨ae,s,rfl,hK,Y,hd⟩;have a0:∀k b,Z.K0 k=some b->k∈mem.aB.map (·.1):=by
    intro k b hk;obtain⟨_,bo,a1⟩:=A.k0 k b hk;exact Ev.2 ⟨bo,a1⟩
   have D:E_ P C J (mem.aB.map (·.1)) s K=some r->a'.defers=[]/\∃x,(results J a'.tmps).run P w'= .ok x w'/\∃y Q v m,Ending.returned x= .returned y/\K v m=some r/\RelE Z [v] m.aB m.aC Q #[y] w':=by
    intro hf;obtain⟨x,Q,v,m,h0,h1,h2,_⟩:=Nb Y a0 hf;exact⟨hd,x,h1,x,Q,v,m,rfl,h0,h2⟩
   cases ae with
   |normal=>
    obtain⟨q1,x,q2,q3⟩:=D hK;exact⟨q1,x,q2,q3⟩
   |ret=>
    obtain⟨q1,x,q2,q3⟩:=D hK;exact⟨q1,x,q2,q3⟩
   |exit id=>grind
  grind
 grind
theorem Sb {L:Nat} {f:FuncId} {args:List TV} {mem:Mem} {K:TV->Mem->Option R} {r:R} (h:Dy P C L f args mem K=some r):Ab (λp:Nat×Box=>Bg p.1) mem.aB=true:=by
 unfold Dy at h
 grind
theorem Fo {F:Nat->Prop} {ρ:Env} {aB:List (Nat×Box)} {E:Gt F w} (h:Ab (λp:Nat×Box=>Bg p.1) aB=true):InZ (BA F w ρ aB E):=by
 intro k b D;simp only[BA,ap]at D;obtain⟨bo,A,_⟩:=D;exact Af.1 h (k,bo) (EY A)
theorem TF (A:Ak P C) (G:∀t∈C.eqOk,P.stoodInHeld t=false) (D:P.follows .mixedOrders=true) {L:Nat} {f:FuncId} {args:List TV} {mem:Mem} {v:TV} {mem':Mem}
  (E:∀c,CT P f=some c->SubOK P C c 0) (h:Dy P C L f args mem (λv m=>some (v,m))=some (v,mem')):PCallM P f args mem v mem':=by
 intro F w N ρ xs J
 grind [NE,Fo,Sb]
theorem FJ {sig osig:Sk} {m:List AC->Option (List AC)} (R:Type) (args:List TV) (mem:Mem) (K:TV->Mem->Option R):Aj sig osig m R args mem K=(Aj sig osig m (TV×Mem) args mem λv m=>some (v,m)).bind λp=>K p.1 p.2:=by
  obtain⟨aB,aC⟩:=mem;simp only[Aj]
  grind
theorem L9 (E:Ak P C) (T:∀t∈C.eqOk,P.stoodInHeld t=false) (J:P.follows .mixedOrders=true) {L:Nat} {f:FuncId} {sig A:Sk} {m:List AC->Option (List AC)} (h1:sig.okB=true) (h2:A.okB=true)
  (N:∀c,CT P f=some c->SubOK P C c 0) (hm:∀vars o,m vars=some o->Bh P C L f sig A vars=some o) {args:List TV} {mem:Mem} {v:TV} {mem':Mem} (h:(Aj sig A m (TV×Mem) args mem λv m=>some (v,m))=some (v,mem')):PCallM P f args mem v mem':=by
  obtain⟨aB,aC⟩:=mem;simp only[Aj]at h;obtain⟨U,h⟩:=Ay h;split at h
  ·rename_i vars hv;simp only[ai]at h;obtain⟨o,ho,h⟩:=h;have D:=hm vars o ho;intro F w hG ρ xs V;have X:InZ (BA F w ρ aB hG):=Fo U;have G:=V.rebuild X h1 hv;unfold Bh at D;generalize hs:Ag sig vars=s1 at D G;obtain⟨Y,S,a0⟩:=s1;dsimp only at D G;refine(NE E T J X N D G).mono ?_;rintro e w' ⟨x,ρ',v',m',he,O,Q⟩;obtain⟨b',r'⟩:=m';dsimp only at O Q;have a1:=Q.rebuild X h2 O
   grind
  grind
theorem Qp (D:Ak P C) (J:∀t∈C.eqOk,P.stoodInHeld t=false) (E:P.follows .mixedOrders=true) {L:Nat} {f:FuncId} (N:Ft P f) {sig A:Sk} {m:List AC->Option (List AC)} (h1:sig.okB=true) (h2:A.okB=true)
  (G:∀c,CT P f=some c->SubOK P C c 0) (O:∀vars o,m vars=some o->Bh P C L f sig A vars=some o):SpecRight P f (Aj sig A m):=
 ⟨FJ,λ_ _ _ _ h=>PCallM.x (L9 D J E h1 h2 G O h) N⟩
end
open Go.RowKit Go.WideShapes Go.ChangeShapes
def FI (P:Program) (g:TypeId->Option (List Kd)):List Field->Nat->Option (List Kd)
 |[],_=>some []
 |f::fs,o=>match g f.type with
  |some ks=>bif Nat.beq f.offset o&&Nat.beq (P.cellsOf f.type) ks.length then(FI P g fs (o+ks.length)).map (ks++ ·)else none
  |none=>none
def CU (P:Program):Nat->TypeId->Option (List Kd)
 |0,_=>none
 |n+1,t=>match P.underlying t with
  |some .bool=>some [.bool]
  |some (.int k)=>some [.int k]
  |some (.slice e)=>(CU P n e).bind λks=>bif Nat.beq (P.cellsOf e) ks.length&&Nat.blt 0 ks.length then some [.sl ks]else none
  |some (.struct fs)=>(FI P (CU P n) fs.toList 0).bind λks=>bif Nat.beq (P.cellsOf t) ks.length then some ks else none
  |some (.array m e)=>(CU P n e).bind λks=>bif Nat.beq (P.cellsOf e) ks.length&&Nat.beq (P.cellsOf t) (m*ks.length)then some (FE ks m)else none
  |_=>none
mutual
def okC:Kd->AC->Prop
 | .int k,a=>k.min<=Ad a/\Ad a<=k.max
 | .bool,_=>True
 | .sl ks,a=>(Aq a).length<=maxLen/\∀c∈Aq a,okR ks c/\Ap ks c=c
 | .raw,_=>True
def okR:List Kd->List AC->Prop
 |[],_=>True
 |_::_,[]=>False
 |k::ks,a::cs=>okC k a/\okR ks cs
end
def Op (w:World) (ks:List Kd) (cs:List Value):Prop:=∃raw,Ap ks raw=raw/\CL (CP (λb=>b<w.heap.size) w) raw cs/\okR ks raw
theorem Mo:∀(A D:List Kd) (E G:List AC),E.length=A.length->Ap (A++D) (E++G)=Ap A E++Ap D G
 |[],D,[],G,_=>rfl
 |k::A,D,a::E,G,h=>by
  simp only[c9];rw[JB,JB,Mo A D E G (by grind)];rfl
 |[],_,_::_,_,h=>by grind
 |_::_,_,[],_,h=>by grind
theorem Le:∀{A E:List Kd} {D G:List AC},D.length=A.length->okR A D->okR E G->okR (A++E) (D++G)
 |[],_,[],_,_,_,h=>h
 |k::A,E,a::D,G,J,h,h'=>by
  simp only[c9,okR]at h⊢;exact⟨h.1,Le (by grind) h.2 h'⟩
 |[],_,_::_,_,h,_,_=>by grind
 |_::_,_,[],_,h,_,_=>by grind
theorem Op.append {w:World} {A D:List Kd} {E G:List Value} (h:Op w A E) (h':Op w D G):Op w (A++D) (E++G):=by
 obtain⟨J,a1,a2,a3⟩:=h;obtain⟨L,b1,b2,b3⟩:=h';have N:J.length=A.length:=by rw[<-a1,GH]
 exact⟨J++L,by grind [Mo],a2.append b2,Le N a3 b3⟩
theorem Op.nil {w:World}:Op w [] []:=⟨[],rfl,trivial,by simp[okR]⟩
section
variable {H:Type} {enc:TypeId×Value->H} {P:Program} {w:World}
theorem L6 {g:TypeId->Option (List Kd)} {m:Nat} (J:∀(t:TypeId) (ks:List Kd) (cs:List Value) (x:DataW H×List MemPlace),g t=some ks->DataW.trod enc P w 0 (λ_=>true) true m t cs=some x->Op w ks cs):
  ∀(fs:List Field) (o:Nat) (ks:List Kd) (cs:List Value),FI P g fs o=some ks->cs.length=o+ks.length->
   (∀f∈fs,∃x,DataW.trod enc P w 0 (λ_=>true) true m f.type ((cs.drop f.offset).take (P.cellsOf f.type))=some x)->Op w ks (cs.drop o)
 |[],o,ks,cs,h,O,_=>by grind [FI,List.drop_eq_nil_of_le,Op.nil]
 |f::fs,o,ks,cs,h,O,L=>by
  simp only[FI]at h;split at h
  ·rename_i A E;cases D:(Nat.beq f.offset o&&Nat.beq (P.cellsOf f.type) A.length)<;>rw[D]at h
   ·grind
   ·simp only[ac,ap]at h;obtain⟨Q,h2,rfl⟩:=h;simp only[af]at D;have e1:f.offset=o:=ab D.1;have e2:P.cellsOf f.type=A.length:=ab D.2;obtain⟨x,G⟩:=L f (by simp);have N:=J _ _ _ _ E G;rw[e1,e2]at N;have S:=L6 J fs (o+A.length) Q cs h2 (by grind) (λT U=>L T (by grind));have:cs.drop o=(cs.drop o).take A.length++cs.drop (o+A.length):=by
     rw[<-dp,List.take_append_drop]
    rw[this];exact N.append S
  grind
theorem KC {ks:List Kd}:∀(m:Nat) (cs:List Value),cs.length=m*ks.length->(∀i,i<m->Op w ks ((cs.drop (i*ks.length)).take ks.length))->Op w (FE ks m) cs
 |0,cs,A,_=>by
  have:cs=[]:=by simpa using A
  subst this;exact Op.nil
 |m+1,cs,A,h=>by
  have D:=h 0 (by omega);simp at D;have:cs=cs.take ks.length++cs.drop ks.length:=(List.take_append_drop _ _).symm;rw[this,FE];refine D.append (KC m _ ?_ λi E=> ?_)
  ·grind
  grind [List.drop_drop,Nat.succ_mul]
theorem Q4 {ks:List Kd} {cs:List Value} {e t:TypeId} {fuel:Nat} {x:DataW H×List MemPlace} (hu:P.underlying t=some (.slice e)) (e1:P.cellsOf e=ks.length) (e2:0<ks.length)
  (hx:DataW.trod enc P w 0 (λ_=>true) true fuel t cs=some x) (ih:∀(m:Nat) (cs:List Value) (x:DataW H×List MemPlace),DataW.trod enc P w 0 (λ_=>true) true m e cs=some x->Op w ks cs):Op w [.sl ks] cs:=by
 rcases Go.Deep.open_slice hu hx with⟨rfl,_⟩|⟨a,len,cap,m,n,D,Pl,rfl,_,hl,a7,hm,_,U⟩
 ·refine⟨[.vC ks []],rfl,⟨Ml ks,trivial⟩,?_⟩;simp[okR,okC,Aq]
 ·have V:m=cap:=by simpa using hm
  subst V
  have hex:∀i,∃(N:List Value) (raw:List AC),i<len->(w.cells? 0 (a.add (i*P.cellsOf e)) (P.cellsOf e)=some N/\Ap ks raw=raw/\CL (CP (λb=>b<w.heap.size) w) raw N/\okR ks raw):=λi=>by
   by_cases G:i<len
   ·obtain⟨X,h1,h2⟩:=U i (by omega);obtain⟨raw,r1,r2,r3⟩:=ih n X _ h2
    grind
   ·exact⟨[],[],λh=>(G h).elim⟩
  let N:Nat->List Value:=λi=>Classical.choose (hex i)
  let A:Nat->List AC:=λi=>Classical.choose (Classical.choose_spec (hex i))
  have J:∀i,i<len->(w.cells? 0 (a.add (i*P.cellsOf e)) (P.cellsOf e)=some (N i)/\Ap ks (A i)=A i/\CL (CP (λb=>b<w.heap.size) w) (A i) (N i)/\okR ks (A i)):=λi=>Classical.choose_spec (Classical.choose_spec (hex i));have hlen:((List.range len).map A).length=len:=by simp
  have S:∀i (U:i<((List.range len).map A).length),((List.range len).map A)[i]=A i:=λi U=>by simp
  have L:∀c∈(List.range len).map A,∃i,i<len/\c=A i:=λc Q=>by
   simp only[am,List.mem_range]at Q;obtain⟨i,h1,h2⟩:=Q;exact⟨i,h1,h2.symm⟩
  refine⟨[.vC ks ((List.range len).map A)],rfl,⟨?_,trivial⟩,?_⟩
  ·rw[CP];refine⟨some a,m,by simp,by omega,λc Q=> ?_,?_⟩
   ·obtain⟨i,h1,rfl⟩:=L c Q;exact(J i h1).2.1
   ·by_cases Y:len=0
    ·subst Y;simp
    ·right;have Y:0<len:=by omega
     obtain⟨a0,r1,r2,_⟩:=J 0 Y;obtain⟨_,a1,T⟩:=World.cells?_some a0;have E:=T 0 (by omega);simp only[Nat.zero_mul]at E;have ea:(a.add 0).add 0=a:=by simp[Addr.add]
     rw[ea,ah (by omega)]at E;have O:a.spot=none/\a.block<w.heap.size:=by
      unfold World.cell? at E;split at E
      ·rename_i hb;split at E
       ·cases E
       ·rename_i a2;refine⟨by simpa using a2,(az.1 hb).1⟩
      ·cases E
     obtain⟨b,o,sp⟩:=a;obtain⟨rfl,hb⟩:=O;refine⟨b,o,rfl,hb,Fs λi G=> ?_⟩;rw[S i G];rw[hlen]at G;obtain⟨a3,a4,a5,_⟩:=J i G;obtain⟨_,hle,a6⟩:=World.cells?_some a3;refine⟨by rw[<-a4];exact GH _ _,Hw _ (N i) b _ a5 λj y hj=> ?_⟩;have b0:j<(N i).length:=(bc.1 hj).1;have:=a6 j (by omega);rw[<-hj,<-this,e1];congr 1;unfold Addr.add;by_cases h1:i*ks.length=0<;>by_cases h2:j=0<;>simp[h1,h2,dv]
  ·simp only[okR,okC,Aq,cy];refine⟨by omega,λc Q=> ?_⟩;obtain⟨i,h1,rfl⟩:=L c Q;exact⟨(J i h1).2.2.2,(J i h1).2.1⟩
theorem FF:∀(n:Nat) (m:Nat) (t:TypeId) (ks:List Kd) (cs:List Value) (x:DataW H×List MemPlace),CU P n t=some ks->DataW.trod enc P w 0 (λ_=>true) true m t cs=some x->Op w ks cs
 |0,_,_,_,_,_,h,_=>by grind [CU]
 |n+1,m,t,ks,cs,x,h,G=>by
  unfold CU at h;split at h
  ·rename_i E;simp at h;subst h;obtain⟨b,rfl,_⟩:=DataW.trod_bool E G;exact⟨[.bool b],rfl,⟨JW _,trivial⟩,by simp[okR,okC]⟩
  ·rename_i k E;simp at h;subst h;obtain⟨i,rfl,_,S⟩:=DataW.trod_int E G;exact⟨[.int k i],rfl,⟨Cj _ _,trivial⟩,by grind [okR,okC,Ad,Lit.wf]⟩
  ·rename_i e E;simp only[ai]at h;obtain⟨D,h1,h2⟩:=h;cases A:(Nat.beq (P.cellsOf e) D.length&&Nat.blt 0 D.length)<;>rw[A]at h2
   ·grind
   ·simp at h2;subst h2;simp only[af]at A;have e1:=ab A.1;have e2:0<D.length:=by have:=A.2;simp[Nat.blt]at this;omega
    exact Q4 E e1 e2 G λm cs x=>FF n m e D cs x h1
  ·rename_i fs E;obtain⟨xs,J,rfl,_,hlen,L,O⟩:=DataW.trod_struct E G;simp only[ai]at h;obtain⟨D,h1,h2⟩:=h;cases A:Nat.beq (P.cellsOf t) D.length<;>rw[A]at h2
   ·grind
   ·simp at h2;subst h2;have e:=ab A;have := L6 (λt ks cs x => FF n J t ks cs x) fs.toList 0 D cs h1 (by omega) (λf N => by
     obtain⟨i,Q⟩:=List.mem_iff_getElem?.1 N
     grind)
    grind
  ·rename_i k e E;obtain⟨xs,J,rfl,_,hlen,L,O⟩:=DataW.trod_array E G;simp only[ai]at h;obtain⟨D,h1,h2⟩:=h;cases A:(Nat.beq (P.cellsOf e) D.length&&Nat.beq (P.cellsOf t) (k*D.length))<;>rw[A]at h2
   ·grind
   ·simp at h2;subst h2;simp only[af]at A;have e1:=ab A.1;have e2:=ab A.2;refine KC k cs (by omega) λi Q=> ?_;have:=O i Q;rw[e1]at this;refine FF n J e D _ (xs[i]'(by omega)) h1 ?_
    grind
  grind
end
structure Ar where
 agg:Bool
 ks:List Kd
 raw:List AC
def Ar.sh (a:Ar):Bool×List Kd:=(a.agg,a.ks)
def Ar.ok (a:Ar):Prop:=okR a.ks a.raw/\Ap a.ks a.raw=a.raw
def Ar.tv (a:Ar):TV:= .v a.agg (Ap a.ks a.raw)
def shK (P:Program) (t:TypeId):Option (Bool×List Kd):=match P.underlying t with
 |some (.struct _)=>(CU P 8 t).map λks=>(true,ks)
 |some (.array _ _)=>(CU P 8 t).map λks=>(true,ks)
 |some .bool=>some (false,[.bool])
 |some (.int k)=>some (false,[.int k])
 |some (.slice _)=>(CU P 8 t).map λks=>(false,ks)
 |_=>none
section
variable {H:Type} {enc:TypeId×Value->H} {P:Program} {W:World}
theorem Re {t:TypeId} {v:Value} {d:DataW H} {p:List MemPlace} {r:Reach} {Q:Nat} {sh:Bool×List Kd} (A:shK P t=some sh) (J:Value.okWide P W r Q t v)
  (h:DataW.Trod enc P W 0 (λ_=>true) true t v d p):∃a:Ar,a.sh=sh/\a.ok/\∀(ρ:Env),ρ.im=(λb=>b<W.heap.size)->TVR ρ W a.tv v:=by
 have agg:∀(ks:List Kd) (cs:Array Value),CU P 8 t=some ks->v= .agg cs->∃a:Ar,a.sh=(true,ks)/\a.ok/\∀(ρ:Env),ρ.im=(λb=>b<W.heap.size)->TVR ρ W a.tv v:=by
  rintro ks cs E rfl;obtain⟨fuel,N⟩:=h;obtain⟨raw,G,L,O⟩:=FF 8 fuel t ks _ _ E N;refine⟨⟨true,ks,raw⟩,rfl,⟨O,G⟩,λρ S=>⟨cs,rfl,?_⟩⟩;rw[G];exact L.mono λa _ x U=>Db (by grind)
 unfold shK at A;split at A
 ·rename_i fs D;simp only[ap]at A;obtain⟨ks,E,rfl⟩:=A;obtain⟨cs,rfl,_⟩:=okWide_struct D J
  grind
 ·rename_i k e D;simp only[ap]at A;obtain⟨ks,E,rfl⟩:=A;obtain⟨cs,rfl,_⟩:∃cs,v= .agg cs/\cs.size=P.cellsOf t:=by grind [Value.okWide]
  grind
 ·rename_i D;simp at A;subst A;obtain⟨n,rfl,_,_⟩:=open_bool D J h;exact⟨⟨false,[.bool],[.bool n]⟩,rfl,⟨by simp[okR,okC],rfl⟩,λρ _=>TVR.mkBool n⟩
 ·rename_i k D;simp at A;subst A;obtain⟨n,rfl,_,_,V⟩:=open_int D J h;exact⟨⟨false,[.int k],[.int k n]⟩,rfl,⟨by grind [okR,okC,Ad,Lit.wf],rfl⟩,λρ _=>TVR.mkInt k n⟩
 ·rename_i e D;simp only[ap]at A;obtain⟨ks,E,rfl⟩:=A;obtain⟨X,len,cap,rfl⟩:=okWide_slice D J;obtain⟨fuel,N⟩:=h;obtain⟨raw,G,L,O⟩:=FF 8 fuel t ks _ _ E N;have T:raw.length=1:=by rw[L.length];simp[Value.cells]
  match raw,T with
  |[a],_=>
   refine⟨⟨false,ks,[a]⟩,rfl,⟨O,G⟩,λρ S=>⟨a,G,?_⟩⟩;have:=L.1
   grind [Db]
 grind
theorem Lo {r:Reach} {b0:Nat}:∀(E:List TypeId) (D:List Value) (J:List (DataW H)) (p:List MemPlace) (A:List (Bool×List Kd)),E.map (shK P)=A.map some->
  (∀(j:Nat) (t:TypeId) (v:Value),E[j]? =some t->D[j]? =some v->Value.okWide P W r b0 t v)->DataW.TrodAll enc P W 0 (λ_=>true) true E D J p->
  ∃as:List Ar,as.map Ar.sh=A/\(∀a∈as,a.ok)/\D.length=as.length/\∀(i:Nat) (a:Ar) (x:Value),as[i]? =some a->D[i]? =some x->∀(ρ:Env),ρ.im=(λb=>b<W.heap.size)->TVR ρ W a.tv x
 |[],D,J,p,A,G,_,h=>by
  obtain⟨rfl,rfl,rfl⟩:=trodAll_nil h;simp_all
 |t::E,D,J,p,A,G,O,h=>by
  obtain⟨v,L,d,N,a,b,rfl,rfl,rfl,h1,h2⟩:=trodAll_cons h;cases A with
  |nil=>grind
  |cons sh A=>
   simp only[av,a9]at G;obtain⟨as,e1,e2,e3,T⟩:=Lo E L N b A G.2 (λj t v U Q=>O (j+1) t v (by grind) (by grind)) h2;obtain⟨a,V,S,X⟩:=Re G.1 (O 0 t v rfl rfl) h1;refine⟨a::as,by grind,?_,by grind,?_⟩
   ·grind
   grind
theorem LM (O:laidOutB P=true) {Q:World} (hb:Below W.heap.size W Q) {S:Nat->Bool}:∀(D:List TypeId) (E:List Value) (G:List (DataW H)) (p:List MemPlace),
  D.all (λt=>P.readableRec t&&decide (t<P.types.size))=true->(∀x∈p,x.block<W.heap.size/\S x.block=true)->DataW.TrodAll enc P W 0 (λ_=>true) true D E G p->
  DataW.TrodAll enc P Q 0 S true D E G p
 |[],E,G,p,_,_,h=>by
  obtain⟨rfl,rfl,rfl⟩:=trodAll_nil h;rfl
 |t::D,E,G,p,J,A,h=>by
  obtain⟨v,L,d,N,a,b,rfl,rfl,rfl,h1,h2⟩:=trodAll_cons h;simp only[List.all_cons,af,bm]at J;refine⟨a,b,WideElems.Trod_stays O J.1.1 J.1.2 h1 (λx T=>hb.same (A x (by grind)).1) (λx T=>(A x (by grind)).2),?_,rfl⟩;exact LM O hb D L N b J.2 (λx T=>A x (by grind)) h2
theorem PP {f:Func} {s:ChangeSpec} {apart fresh handsOn again:Bool} {W J:World} {args:Array Value} {v:Value} {N O:List (DataW H)} {before pa pv:List MemPlace}
  (hW:DataW.Whole enc P f.params.toList s.vars apart W args.toList N O before)
  (E:∀(b:Nat) (G:Nat->Bool) (V:Bool),DataW.TrodAll enc P J b G V f.resultTypes.toList (v.resultList f.resultTypes.size) (s.fn H (N++O)).results [])
  (A:∀G:Nat->Bool,(∀p∈before,G p.block=true)->DataW.TrodAll enc P J 0 G true f.params.toList args.toList (s.fn H (N++O)).args pa)
  (D:∀G:Nat->Bool,(∀p∈before,G p.block=true)->DataW.TrodVars enc P J G s.vars (s.fn H (N++O)).vars pv)
  (S:before=pa++pv) (hb:Below W.heap.size W J)
  (T:∀(j:Nat) (t:TypeId) (r:Value),f.resultTypes[j]? =some t->(v.resultList f.resultTypes.size)[j]? =some r->Value.okWide P J .any 0 t r):
  s.post enc P f apart fresh handsOn again W args v J:=by
 have U:∀p∈before,p.block<W.heap.size:=λp L=>hW.lt p L;have hold:∀p∈before,(λb=>decide (b<W.heap.size)) p.block=true:=λp L=>by grind
 refine⟨N,O,before,[],pa,pv,hW,E _ _ _,A _ hold,D _ hold,World.keptBut_mono (λp L=>⟨L,?_⟩) (hb.frame (· ∈before)),λ_=> ?_⟩
 ·grind
 ·obtain⟨_,_,_,_,_,X,Y⟩:=hW;refine⟨T,_,_,([]++pa)++pv,⟨[]++pa,pv,trodAll_append (A _ (λ_ _=>rfl)) (E _ _ _),D _ (λ_ _=>rfl),rfl,?_,?_⟩,?_⟩
  ·intro b off L;have Q:MemPlace.cell b off∈before:=by rw[S];simpa using L
   rw[hb.frozen (U _ Q)];exact X b off Q
  ·grind
  grind
theorem To {f:FuncId} {G:Func} {s:ChangeSpec} {apart fresh handsOn again:Bool} {tb:TypeId} {shs:List (Bool×List Kd)} {args:Array Value} {J gs:List (DataW H)} {before:List MemPlace} {base:Nat}
  (A:s.vars=[]) (hl:laidOutB P=true) (V:G.resultTypes= #[tb]) (X:P.underlying tb=some .bool)
  (hr:G.params.toList.all (λt=>P.readableRec t&&decide (t<P.types.size))=true) (a5:G.params.toList.map (shK P)=shs.map some)
  (L:∀l:List (DataW H),l.length=shs.length->s.fn H l={results:=[.lit (.bool true)],args:=l})
  (Y:∀as:List Ar,as.map Ar.sh=shs->(∀a∈as,a.ok)->PCallM P f (as.map Ar.tv) ⟨[],[]⟩ (.v false [.bool true]) ⟨[],[]⟩)
  (a0:∀(j:Nat) (t:TypeId) (v:Value),G.params[j]? =some t->args[j]? =some v->Value.okWide P W .any base t v)
  (hW:DataW.Whole enc P G.params.toList s.vars apart W args.toList J gs before) (hG:Gt (λb=>b<W.heap.size) W):
  Calls P f args W λe W'=>∃v,e= .returned v/\s.post enc P G apart fresh handsOn again W args v W':=by
 have a1:=hW;obtain⟨p,q,hA,hV,rfl,a6,a7⟩:=hW;rw[A]at hV;obtain⟨rfl,rfl⟩:=trodVars_none hV;have b1:∀x∈p++[],x.block<W.heap.size:=λx hx=>a1.lt x hx;obtain⟨as,e1,e2,e3,e4⟩:=Lo (r:= .any) (b0:=base) G.params.toList args.toList J p shs a5 (λj t v ht hv=>a0 j t v (by grind) (by grind)) hA;have b2:J.length=shs.length:=by
  have:∀(ts:List TypeId) (vs:List Value) (J:List (DataW H)) (p:List MemPlace),DataW.TrodAll enc P W 0 (λ_=>true) true ts vs J p->J.length=vs.length:=by
   intro ts;induction ts with
   |nil=>grind [trodAll_nil]
   |cons t ts ih=>grind [trodAll_cons]
  rw[this _ _ _ _ hA,e3,<-e1,bj]
 have a2:=L (J++[]) (by grind);have a3:RelE (BA (λb=>b<W.heap.size) W ⟨λ_=>0,λ_=> .slice none 0 0,λ_=>0,λb=>b<W.heap.size⟩ [] hG) (as.map Ar.tv) [] [] ⟨λ_=>0,λ_=> .slice none 0 0,λ_=>0,λb=>b<W.heap.size⟩ args.toList.toArray W:=by
  refine⟨by grind,λi v hi=> ?_,λv hv=> ?_,λk b N=>by grind [Aa],λk b N=>by grind [Aa],λk k' b b' N=>by grind [Aa],λid r hr=>by grind [Aa],
   λid id' r r' g hr=>by grind [Aa],λk b id r N=>by grind [Aa],λb hb=>⟨hb,λk bo N=>by grind [Aa],λid r hr=>by grind [Aa]⟩,Fr.refl _ _,λ_ h=>h,λ_ h=>h,λb h=> .inl h,λk b N=>by grind [BA,Aa]⟩
  ·simp only[bn,ap]at hi;obtain⟨a,O,rfl⟩:=hi;have E:i<args.toList.length:=by rw[e3];exact(bc.1 O).1
   have a4:i<args.size:=by simpa using E
   have e:args.toList.toArray.getD i undef=args.toList[i]:=by simp[Array.getD,a4]
   rw[e];exact e4 i a _ O (ah E) _ rfl
  ·simp only[am]at hv;obtain⟨a,O,rfl⟩:=hv;intro c Q;obtain⟨i,hi⟩:=List.getElem?_of_mem O;have E:i<args.toList.length:=by rw[e3];exact(bc.1 hi).1
   have b3:=e4 i a _ hi (ah E) ⟨λ_=>0,λ_=> .slice none 0 0,λ_=>0,λb=>b<W.heap.size⟩ rfl;have S:∀(ks:List Kd) (cs:List AC) (j:Nat),∀c∈Bl ks cs j,AC.calm c=true:=by
    intro ks;induction ks with
    |nil=>grind [Bl]
    |cons k ks ih=>
     intro cs j c Q;simp only[Bl,an]at Q;rcases Q with rfl|Q
     ·cases k<;>rfl
     grind
   have:=S a.ks a.raw 0 c Q;cases c<;>first|trivial|(simp[AC.calm]at this)
 have D:=Y as e1 e2 _ args.toList a3;have T:args.toList.toArray=args:=by simp
 rw[T]at D;refine D.mono ?_;rintro e W' ⟨x,ρ',rfl,U⟩;have hb:Below W.heap.size W W':=⟨U.fr.os,U.fr.tape,U.fr.output,U.fr.size,λk N=>U.fr.block k N⟩;have hx:x= .bool true:=by
  have:TVR ρ' W' (.c (.bool true)) x:=by simpa using U.tv 0 _ rfl
  obtain⟨a,O,Q⟩:=this;simp at O;subst O;simpa [CC,CP]using Q
 subst hx;refine⟨_,rfl,PP (pa:=p) (pv:=[]) a1 ?_ ?_ ?_ rfl hb (ok_one V rfl (okWide_bool_mk X true))⟩
 ·intro b sp hd;rw[a2,V];exact trodAll_mk1 (shut_bool X true)
 ·grind [LM]
 ·intro sp b4;rw[a2,A];rfl
end
theorem Tc {α:Type 1} {c:Bool} {p:Option α} {q:α} (h:cond c p none=some q):c=true/\p=some q:=by grind
theorem Gi:∀{l:List (Nat×Spec)} {k:Nat} {b:Spec},CE l k=some b->(k,b)∈l
 |[],_,_,h=>by grind [CE]
 |(j,c)::l,k,b,h=>by
  simp only[CE]at h;cases hb:Nat.beq j k<;>rw[hb]at h
  ·simp only[aj]at h;exact dc _ (Gi h)
  simp_all
def CB (P:Program) (f:FuncId):Bool:=match P.funcs[f]? with
 |some fn=> !(fn.name== "runtime.NumGoroutine")&&fn.body.isSome
 |none=>false
theorem DS {P:Program} {f:FuncId} (h:CB P f=true):Ft P f:=by
 unfold CB at h;split at h
 ·rename_i A D;simp only[af,Bool.not_eq_true']at h;exact⟨A,D,h.1,by simp_all⟩
 grind
def Av (P:Program) (p:Nat×Spec):Prop:=SpecRight P p.1 p.2
def AllOK (P:Program):List (Nat×Spec)->Prop
 |[]=>True
 |p::l=>Av P p/\AllOK P l
theorem AllOK.mem {P:Program}:∀{l:List (Nat×Spec)},AllOK P l->∀p∈l,Av P p
 |_::l,h,p,A=>by
  rcases an.1 A with rfl|A
  ·exact h.1
  ·exact AllOK.mem h.2 p A
theorem BY {P:Program} {C:Cfg} {l:List (Nat×Spec)} (D:C.spec=CE l) (h:AllOK P l) (E:C.ro=λ_=>false:=by rfl) (G:C.keepR=λ_=>false:=by rfl):Ak P C:=by
 refine⟨λf g A=> ?_,λf g _ h=> ?_,λf g _ h=>(by grind)⟩
 ·rw[D]at A;exact h.mem _ (Gi A)
 grind
def AllRo (rs:List Nat):List (Nat×Spec)->Prop
 |[]=>True
 |p::l=>(Am rs p.1=false\/IZ p.2)/\AllRo rs l
theorem AllRo.mem {rs:List Nat}:∀{l:List (Nat×Spec)},AllRo rs l->∀p∈l,Am rs p.1=false\/IZ p.2
 |_::l,h,p,A=>by
  rcases an.1 A with rfl|A
  ·exact h.1
  ·exact AllRo.mem h.2 p A
abbrev V:=IntKind.wrap .i64
theorem P2 {P:Program} {C:Cfg} {l:List (Nat×Spec)} {rs:List Nat} (E:C.spec=CE l) (h:AllOK P l) (D:C.ro=λf=>Am rs f) (h2:AllRo rs l) (G:C.keepR=λ_=>false:=by rfl):Ak P C:=by
 refine⟨λf g A=> ?_,λf g A J=> ?_,λf g _ h=>(by grind)⟩
 ·rw[E]at A;exact h.mem _ (Gi A)
 ·rw[E]at A;rw[D]at J;rcases h2.mem _ (Gi A)with h|h
  ·grind
  omega
theorem BW {x:Int} (h: -9223372036854775808<=x/\x<=9223372036854775807:=by omega):V x=x:=by grind [IntKind.wrap,IntKind.signed,IntKind.bits]
section loops
variable {step:List AC->Option (Nat×List AC)}
theorem JE:∀{n:Nat} {vars:List AC} {o:Nat×List AC},AW step n vars=some o->AW step (n+1) vars=some o
 |0,_,_,h=>by grind [AW]
 |n+1,vars,o,h=>by
  rw[AW]at h⊢;simp only[ai]at h⊢;obtain⟨q,h1,h2⟩:=h;refine⟨q,h1,?_⟩;split at h2
  ·rename_i A;rw[cm A];exact JE h2
  grind
theorem Mh {n m:Nat} {vars:List AC} {o:Nat×List AC} (A:n<=m) (h:AW step n vars=some o):AW step m vars=some o:=by
 induction A with
 |refl=>exact h
 |step _ D=>exact JE D
theorem Q8 {n m:Nat} {vars:List AC} {o A:Nat×List AC} (h:AW step n vars=some o) (h':AW step m vars=some A):o=A:=by
 have h1:=Mh (Nat.le_max_left n m) h
 grind [Mh,Nat.le_max_right]
open Classical in
noncomputable def AD (step:List AC->Option (Nat×List AC)) (vars:List AC):Option (Nat×List AC):=
 if h:∃n o,AW step n vars=some o then AW step (Classical.choose h) vars else none
theorem Ge {vars:List AC} {o:Nat×List AC} (h:AD step vars=some o):∃n,AW step n vars=some o:=by
 unfold AD at h;split at h
 ·grind
 grind
theorem Ju {n:Nat} {vars:List AC} {o:Nat×List AC} (h:AW step n vars=some o):AD step vars=some o:=by
 unfold AD;have A:∃n o,AW step n vars=some o:=⟨n,o,h⟩;rw[dif_pos A]
 grind [Q8]
theorem Lg (vars:List AC):AD step vars=(step vars).bind λo=>if o.1=0 then AD step o.2 else some o:=by
 cases J:step vars with
 |none=>
  cases A:AD step vars with
  |none=>rfl
  |some o=>
   obtain⟨n,D⟩:=Ge A;cases n with
   |zero=>grind [AW]
   |succ n=>grind [AW]
 |some q=>
  simp only[ak];by_cases E:q.1=0
  ·rw[cm E];cases A:AD step q.2 with
   |none=>
    cases G:AD step vars with
    |none=>rfl
    |some o=>
     obtain⟨n,D⟩:=Ge G;cases n with
     |zero=>grind [AW]
     |succ n=>
      simp only[AW,J,ak,cm E]at D
      grind [Ju]
   |some o=>
    obtain⟨n,D⟩:=Ge A;exact Ju (n:=n+1) (by simp_all [AW])
  ·rw[cd E];exact Ju (n:=1) (by simp_all [AW])
end loops
theorem DK:∀(c:Code) (b blk:Nat) (body:Code),(blk,body)∈At c b->(∀p∈At body blk,p∈At c b)/\(∀p∈AM body,p∈AM c)/\(∀p∈Az body blk,p∈Az c b)
 | .seq x y,b,blk,body,h=>by
  simp only[At,bt]at h;rcases h with h|h
  ·obtain⟨h1,h2,h3⟩:=DK x b blk body h
   grind [At,AM,Az]
  ·obtain⟨h1,h2,h3⟩:=DK y b blk body h
   grind [At,AM,Az]
 | .cond c x y,b,blk,body,h=>by
  simp only[At,bt]at h;rcases h with h|h
  ·obtain⟨h1,h2,h3⟩:=DK x b blk body h;exact⟨λp A=>by grind [At],λp A=>by grind [AM],λp A=>by cases c<;>simp[Az,h3 p A]⟩
  ·obtain⟨h1,h2,h3⟩:=DK y b blk body h;exact⟨λp A=>by grind [At],λp A=>by grind [AM],λp A=>by cases c<;>simp[Az,h3 p A]⟩
 | .block id x,b,blk,body,h=>by
  simp only[At]at h;obtain⟨h1,h2,h3⟩:=DK x b blk body h
  grind [At,AM,Az]
 | .loop x,b,blk,body,h=>by
  simp only[At,an,a8]at h;rcases h with⟨rfl,rfl⟩|h
  ·grind [Dh,At,AM,DA,Az]
  ·obtain⟨h1,h2,h3⟩:=DK x b blk body h
   grind [At,AM,Az]
 | .skip,_,_,_,h=>by grind [At]
 | .region _ _ _,_,_,_,h=>by grind [At]
 | .exit _,_,_,_,h=>by grind [At]
 | .ret,_,_,_,h=>by grind [At]
 | .rangeFunc _ _ _ _,_,_,_,h=>by grind [At]
 | .scope x,b,blk,body,h=>by
  simp only[At]at h;obtain⟨h1,h2,h3⟩:=DK x b blk body h
  grind [At,AM,Az]
 | .label _,_,_,_,h=>by grind [At]
 | .goto _,_,_,_,h=>by grind [At]
 | .refuse _,_,_,_,h=>by grind [At]
structure FnOK (P : Program) (C : Cfg) (f : FuncId) : Prop where
 l:∀p∈Dm P f,∀sk g,C.loops p.1=some (sk,g)->C3 P (.loop p.2) sk g
 b:∀p∈Fm P f,∀sk g,C.blocks p.1=some (sk,g)->C3 P (.block p.1 p.2) sk g
 c:∀p∈Hs P f,∀sk g,C.conds p.1=some (sk,g)->C3 P (.cond (.tmp p.1) p.2.2.1 p.2.2.2) sk g
theorem FnOK.bare {P:Program} {C:Cfg} {f:FuncId} (h1:C.loops=λ_=>none) (h2:C.blocks=λ_=>none) (h3:C.conds=λ_=>none):FnOK P C f:=
 ⟨λp _ sk g h=>by grind,λp _ sk g h=>by grind,λp _ sk g h=>by grind⟩
theorem FnOK.sub {P:Program} {C:Cfg} {f:FuncId} (h:FnOK P C f) {c:Code} (D:CT P f=some c):SubOK P C c 0:=
 ⟨λp A=>h.l p (by grind [Dm]),λp A=>h.b p (by grind [Fm]),λp A=>h.c p (by grind [Hs])⟩
theorem SD {P:Program} {f blk:Nat} {c:Code} (h:Aa (Dm P f) blk=some c):Ck P f blk=c:=by grind [Ck]
theorem Jl {α:Type}:∀{l:List (Nat×α)} {k:Nat} {b:α},AK (l.map (·.1))=true->(k,b)∈l->Aa l k=some b
 |[],_,_,_,h=>by grind
 |(j,c)::l,k,b,D,h=>by
  have A:=C_.1 D;simp only[av,df]at A;simp only[Aa];rcases an.1 h with h|h
  ·simp_all
  ·have:j≠k:=by rintro rfl;exact A.1 (am.2 ⟨(j,b),h,rfl⟩)
   rw[DN this];exact Jl (C_.2 A.2) h
theorem FnOK.subLoop {P:Program} {C:Cfg} {f:FuncId} (h:FnOK P C f) {blk:Nat} {body:Code} (A:(blk,body)∈Dm P f):SubOK P C body blk:=by
 unfold Dm at A;split at A
 ·rename_i c E;obtain⟨h1,h2,h3⟩:=DK c 0 blk body A;exact⟨λp D=>h.l p (by grind [Dm]),λp D=>h.b p (by grind [Fm]),λp D=>h.c p (by grind [Hs])⟩
 grind
theorem FnOK.loop {P:Program} {C:Cfg} {f:FuncId} (h:FnOK P C f) (D:Ak P C) (N:∀t∈C.eqOk,P.stoodInHeld t=false) (G:P.follows .mixedOrders=true) {L blk:Nat} {sk:Sk} {A:List (Ex×Sk)}
  (T:AK ((Dm P f).map (·.1))=true) (O:sk.okB=true):FnOK P (C.loop blk sk A (AD (Cm P C L blk (Ck P f blk) sk A))) f:=by
 refine⟨λp Q S g J=> ?_,h.b,h.c⟩;simp only[Cfg.loop]at J;cases hb:Nat.beq p.1 blk<;>rw[hb]at J
 ·exact h.l p Q S g J
 ·have e:=ab hb;subst e;simp only[ac,ag,a8]at J;obtain⟨rfl,rfl⟩:=J;have E:=SD (Jl (k:=p.1) (b:=p.2) T Q);rw[E];exact Rs D N G O (h.subLoop Q) λvars o ho=>Ge ho
theorem F0 {P:Program} {C:Cfg} {f:FuncId} {L:Nat} {sig A:Sk} (N:CB P f=true) (h:FnOK P C f) (D:Ak P C) (J:∀t∈C.eqOk,P.stoodInHeld t=false) (G:P.follows .mixedOrders=true)
  (h1:sig.okB=true) (h2:A.okB=true):Av P (f,Aj sig A (Bh P C L f sig A)):=
 Qp D J G (DS N) h1 h2 (λ_ E=>h.sub E) λ_ _ ho=>ho
theorem UA {P:Program} {C:Cfg} {f:FuncId} {L:Nat} {sig A:Sk} (_:CB P f=true) (h:FnOK P C f) (D:Ak P C) (N:∀t∈C.eqOk,P.stoodInHeld t=false) (G:P.follows .mixedOrders=true)
  (h1:sig.okB=true) (h2:A.okB=true) (args:List TV) (v:TV) (mem':Mem) (J:(Aj sig A (Bh P C L f sig A) (TV×Mem) args ⟨[],[]⟩ λv m=>some (v,m))=some (v,mem')):PCallM P f args ⟨[],[]⟩ v mem':=
 L9 D N G h1 h2 (λ_ E=>h.sub E) (λ_ _ ho=>ho) J
theorem TK {P:Program} {f:FuncId} {sig A:Sk}:Av P (f,Aj sig A λ_=>none):=by
 refine⟨FJ,λargs mem v mem' h=> ?_⟩;obtain⟨aB,aC⟩:=mem;simp only[Aj]at h
 grind
mutual
def B6:AC->AC->Bool
 | .int k n, .int k' D=>kEq k k'&&n==D
 | .bool b, .bool b'=>b==b'
 | .nilSl, .nilSl=>true
 | .vC ks l, .vC A E=>AV ks A&&EG l E
 |_,_=>false
def EA:List AC->List AC->Bool
 |[],[]=>true
 |a::l,b::m=>B6 a b&&EA l m
 |_,_=>false
def EG:List (List AC)->List (List AC)->Bool
 |[],[]=>true
 |a::l,b::m=>EA a b&&EG l m
 |_,_=>false
end
mutual
theorem Rt:∀(a b:AC),B6 a b=true->a=b
 | .int k n,b,h=>by cases b<;>simp[B6]at h;grind [Fb]
 | .bool x,b,h=>by cases b<;>simp[B6]at h;rw[h]
 | .nilSl,b,h=>by grind [B6]
 | .vC ks l,b,h=>by cases b<;>simp[B6]at h;rw[Dd h.1,NL _ _ h.2]
 | .vD,b,h=>by grind [B6]
 | .raw _,b,h=>by grind [B6]
 | .ptr _ _,b,h=>by grind [B6]
 | .own _ _ _,b,h=>by grind [B6]
 | .rptr _ _ _,b,h=>by grind [B6]
 | .vptr _ _,b,h=>by grind [B6]
 | .clo _ _ _,b,h=>by grind [B6]
 | .bsl _ _,b,h=>by grind [B6]
theorem Ik:∀(a b:List AC),EA a b=true->a=b
 |[],[],_=>rfl
 |x::l,y::m,h=>by simp[EA]at h;rw[Rt x y h.1,Ik l m h.2]
 |[],_::_,h=>by grind [EA]
 |_::_,[],h=>by grind [EA]
theorem NL:∀(a b:List (List AC)),EG a b=true->a=b
 |[],[],_=>rfl
 |x::l,y::m,h=>by simp[EG]at h;rw[Ik x y h.1,NL l m h.2]
 |[],_::_,h=>by grind [EG]
 |_::_,[],h=>by grind [EG]
end
def E8:List (Nat×Box)->List (Nat×Box)->Bool
 |[],[]=>true
 |(k,b)::l,(k',b')::m=>Nat.beq k k'&&(Nat.beq b.ty b'.ty&&(EA b.cells b'.cells&&E8 l m))
 |_,_=>false
theorem KS:∀{l m:List (Nat×Box)},E8 l m=true->l=m
 |[],[],_=>rfl
 |(k,⟨t,c⟩)::l,(k',⟨A,c'⟩)::m,h=>by
  simp only[E8,af]at h;rw[ab h.1,ab h.2.1,Ik _ _ h.2.2.1,KS h.2.2.2]
 |[],_::_,h=>by grind [E8]
 |_::_,[],h=>by grind [E8]
def F3:Mem->Mem->Bool
 |⟨b,[]⟩,⟨b',[]⟩=>E8 b b'
 |_,_=>false
theorem NR {m A:Mem} (h:F3 m A=true):m=A:=by
 obtain⟨b,r⟩:=m;obtain⟨b',r'⟩:=A;cases r<;>cases r'<;>simp[F3]at h
 rw[KS h]
def DO (P:Program) (A:Cfg) (L:Nat):Nat->FuncId->Option Spec
 |0,f=>A.spec f
 |n+1,f=>match A.spec f with
  |some g=>some g
  | none => bif CB P f then some (λ_ args mem K => match Dy P { A with spec := DO P A L n } L f args mem (λv m => some (v, m)) with
   |some (v,m)=>bif A.ro f then(bif F3 m mem then K v m else none)else K v m
   |none=>none)else none
theorem LC {P:Program} {A:Cfg} {L:Nat} (Q:Ak P A) (h1:A.loops=λ_=>none) (h2:A.blocks=λ_=>none) (h3:A.conds=λ_=>none) (O:∀t∈A.eqOk,P.stoodInHeld t=false) (E:P.follows .mixedOrders=true) (T:A.keepR=λ_=>false:=by rfl):
  ∀n,Ak P {A with spec:=DO P A L n}
 |0=>Q
 |n+1=>by
  have key : ∀ (f : FuncId) (g : Spec), DO P A L (n + 1) f = some g -> (A.spec f = some g) \/ (CB P f = true /\ g = λ_ args mem K => match Dy P { A with spec := DO P A L n } L f args mem (λv m => some (v, m)) with
   |some (v,m)=>bif A.ro f then(bif F3 m mem then K v m else none)else K v m
   |none=>none):=by
   intro f g D;simp only[DO]at D;split at D
   ·grind
   ·obtain⟨S,D⟩:=Tc D;exact .inr ⟨S,(Option.some.inj D).symm⟩
  refine⟨λf g D=> ?_,λf g D G=> ?_,λf g _ h=>(by grind)⟩
  ·rcases key f g D with J|⟨S,rfl⟩
   ·exact Q.1 f g J
   ·refine⟨λR args mem K=> ?_,λargs mem v mem' h=> ?_⟩
    ·grind
    ·refine PCallM.x (v:=v) (mem':=mem') (TF (LC Q h1 h2 h3 O E T n) O E (L:=L) (λc N=>FnOK.sub (C:={A with spec:=DO P A L n}) (FnOK.bare h1 h2 h3) N) ?_) (DS S)
     grind
  ·rcases key f g D with J|⟨S,rfl⟩
   ·exact Q.2.1 f g J G
   ·intro args mem v m h;dsimp only at h G;cases U:Dy P {A with spec:=DO P A L n} L f args mem (λv m=>some (v,m))with
    |none=>grind
    |some p=>
     obtain⟨Y,V⟩:=p;rw[U]at h;dsimp only at h;rw[G]at h;cases X:F3 V mem<;>rw[X]at h
     ·grind
     ·simp only[ac,ag,a8]at h
      grind [NR]
section
variable {H α:Type}
theorem TZ (F G:List (DataW H)->α) (h:∀a,F [a]=G [a]) (l:List (DataW H)) (A:l.length=1):F l=G l:=by
 match l,A with
 |[a],_=>grind
end
theorem QP {l:List Ar} {s:Bool×List Kd} {A:List (Bool×List Kd)} (h:l.map Ar.sh=s::A):∃a D,l=a::D/\a.agg=s.1/\a.ks=s.2/\D.map Ar.sh=A:=by
 cases l with
 |nil=>grind
 |cons a D=>
  simp only[av,a9]at h;refine⟨a,D,rfl,?_,?_,h.2⟩
  ·rw[<-h.1];rfl
  ·rw[<-h.1];rfl
theorem Qs {l:List Ar} (h:l.map Ar.sh=[]):l=[]:=by simp_all
open Go.RowKit
section
variable {P:Program} {C:Cfg} {w:World} {Z:Base} {R:Type}
def Sg (Z:Base) (K:Ex->St->Option R) (r:R) (d:List Deferred) (D:Value):Exit->Act->World->Prop:=
 λe a w=>∃A s,Fc A=e/\K A s=some r/\Rel Z s a.tmps w/\a.defers=d/\a.tmps.getD 0 undef=D
def RK (P:Program) (c:Code) (sk:Sk) (g:CJ):Prop:=
 ∀(Z:Base) (_:InZ Z) (a:Act) (w:World) (vars:List AC) (R:Type) (K:Ex->St->Option R) (r:R),Rel Z (Ag sk vars) a.tmps w->g R vars K=some r->c.wp P (Sg Z K r a.defers (a.tmps.getD 0 undef)) a w
structure KeepOK (P : Program) (C : Cfg) (c : Code) : Prop where
 l:∀p∈At c 0,∃sk g,C.loops p.1=some (sk,g)/\RK P (.loop p.2) sk g
 b:C.blocks=λ_=>none
 c:C.conds=λ_=>none
end
abbrev I (n:Int):AC:= .int .i64 n
abbrev U (n:Int):AC:= .int .u64 n
abbrev B (b:Bool):AC:= .bool b
theorem Me {α:Type} {p:Prop} {inst:Decidable p} {a b:α} (h: ¬p):(bif@decide p inst then a else b)=b:=by grind
theorem Q0 {α:Type} {p:Prop} {inst:Decidable p} {a b:α}:(bif@decide p inst then a else b)=if p then a else b:=by simp
theorem SI {α:Type} {c:Bool} {a b:α}:(bif c then a else b)=if c=true then a else b:=by simp
theorem OP {a b:Bool}:((a&&b)=true)=(a=true/\b=true):=by simp
theorem QM {a b:Bool}:((a||b)=true)=(a=true\/b=true):=by simp
theorem Ob {a:Bool}:((!a)=true)= ¬(a=true):=by simp
theorem SC {p:Prop} {inst:Decidable p}:(@decide p inst=true)=p:=by simp
theorem RC {a b:Int}:((a==b)=true)=(a=b):=by simp
theorem Pj {a b:Int}:((a !=b)=true)=(a≠b):=by simp
theorem Rg {a b:Nat}:(Nat.beq a b=true)=(a=b):=by simp
theorem P_ {a b:Nat}:(Nat.ble a b=true)=(a<=b):=by simp
attribute [go_sem ↓] Q0 SI OP QM Ob SC RC Pj Rg P_
theorem TR {α:Type} (d x:α) (l:List α):nth d (x::l) 0=x:=by rfl
theorem QK (k:IntKind) (n:Int):Ad (.int k n)=n:=by rfl
theorem TJ (b:Bool):Ci (.bool b)=b:=by rfl
theorem TN (ks:List Kd) (l:List (List AC)):Aq (.vC ks l)=l:=by rfl
theorem OR {p q:Prop} {i1:Decidable p} {A:Decidable q}:((@decide p i1== @decide q A)=true)=(p↔q):=by simp
theorem Tw {a b:Nat}:((a==b)=true)=(a=b):=by simp
attribute [go_sem ↓] OR Tw
attribute [go_sem] cq if_false
theorem Tt {α:Type} (d x:α) (l:List α):nth d (x::l) 1=nth d l 0:=by rfl
theorem Rl {α:Type} (d x:α) (l:List α):nth d (x::l) 2=nth d l 1:=by rfl
theorem SX {α:Type} (d x:α) (l:List α):nth d (x::l) 3=nth d l 2:=by rfl
theorem Om {α:Type} (d x:α) (l:List α):nth d (x::l) 4=nth d l 3:=by rfl
theorem Sh {α:Type} (d x:α) (l:List α):nth d (x::l) 5=nth d l 4:=by rfl
theorem Rc {α:Type} (d x:α) (l:List α):nth d (x::l) 6=nth d l 5:=by rfl
theorem QN {α:Type} (d x:α) (l:List α):nth d (x::l) 7=nth d l 6:=by rfl
theorem RY {α:Type} (d x:α) (l:List α):nth d (x::l) 8=nth d l 7:=by rfl
theorem Pq {α:Type} (d x:α) (l:List α):nth d (x::l) 9=nth d l 8:=by rfl
theorem R6 {α:Type} (d x:α) (l:List α):nth d (x::l) 10=nth d l 9:=by rfl
theorem R3 {α:Type} (d x:α) (l:List α):nth d (x::l) 11=nth d l 10:=by rfl
theorem S0 {α:Type} (d x:α) (l:List α):nth d (x::l) 12=nth d l 11:=by rfl
theorem Qo {α:Type} (d x:α) (l:List α):nth d (x::l) 13=nth d l 12:=by rfl
theorem Ri {α:Type} (d x:α) (l:List α):nth d (x::l) 14=nth d l 13:=by rfl
theorem OT {α:Type} (d x:α) (l:List α):nth d (x::l) 15=nth d l 14:=by rfl
theorem Or {α:Type} (d x:α) (l:List α):nth d (x::l) 16=nth d l 15:=by rfl
theorem S2 {α:Type} (d x:α) (l:List α):nth d (x::l) 17=nth d l 16:=by rfl
theorem Q9 {α:Type} (d x:α) (l:List α):nth d (x::l) 18=nth d l 17:=by rfl
theorem TW {α:Type} (d x:α) (l:List α):nth d (x::l) 19=nth d l 18:=by rfl
theorem Uw {α:Type} (d x:α) (l:List α):nth d (x::l) 20=nth d l 19:=by rfl
theorem N5 {α:Type} (d x:α) (l:List α):nth d (x::l) 21=nth d l 20:=by rfl
theorem Of {α:Type} (d x:α) (l:List α):nth d (x::l) 22=nth d l 21:=by rfl
theorem Rv {α:Type} (d x:α) (l:List α):nth d (x::l) 23=nth d l 22:=by rfl
theorem NU {α:Type} (d x:α) (l:List α):nth d (x::l) 24=nth d l 23:=by rfl
theorem Oo {α:Type} (d x:α) (l:List α):nth d (x::l) 25=nth d l 24:=by rfl
theorem SU {α:Type} (d x:α) (l:List α):nth d (x::l) 26=nth d l 25:=by rfl
theorem Ur {α:Type} (d x:α) (l:List α):nth d (x::l) 27=nth d l 26:=by rfl
theorem RA {α:Type} (d x:α) (l:List α):nth d (x::l) 28=nth d l 27:=by rfl
theorem Oi {α:Type} (d x:α) (l:List α):nth d (x::l) 29=nth d l 28:=by rfl
theorem Rm {α:Type} (d x:α) (l:List α):nth d (x::l) 30=nth d l 29:=by rfl
theorem O6 {α:Type} (d x:α) (l:List α):nth d (x::l) 31=nth d l 30:=by rfl
theorem RN {α:Type} (d x:α) (l:List α):nth d (x::l) 32=nth d l 31:=by rfl
theorem P7 {α:Type} (d x:α) (l:List α):nth d (x::l) 33=nth d l 32:=by rfl
theorem Ub {α:Type} (d x:α) (l:List α):nth d (x::l) 34=nth d l 33:=by rfl
theorem QO {α:Type} (d x:α) (l:List α):nth d (x::l) 35=nth d l 34:=by rfl
theorem Uo {α:Type} (d x:α) (l:List α):nth d (x::l) 36=nth d l 35:=by rfl
theorem Qz {α:Type} (d x:α) (l:List α):nth d (x::l) 37=nth d l 36:=by rfl
theorem RD {α:Type} (d x:α) (l:List α):nth d (x::l) 38=nth d l 37:=by rfl
theorem Rk {α:Type} (d x:α) (l:List α):nth d (x::l) 39=nth d l 38:=by rfl
attribute [go_sem] TR Tt Rl SX Om Sh Rc QN RY Pq R6 R3 S0 Qo Ri OT Or S2 Q9 TW Uw N5 Of Rv NU Oo SU Ur RA Oi Rm O6 RN P7 Ub QO Uo Qz RD Rk QK TJ TN ak
theorem EE {step:List AC->Option (Nat×List AC)} {v w:List AC} (h:step v=some (0,w)):AD step v=AD step w:=by grind [Lg]
theorem DF {step:List AC->Option (Nat×List AC)} {v:List AC} {o:Nat×List AC} (h:step v=some o) (A:o.1≠0):AD step v=some o:=by grind [Lg]
theorem Q7 {sig A:Sk} {m:List AC->Option (List AC)} {args:List TV} {vars:List AC} (h1:AN sig ⟨args,[],[]⟩=some vars) (h2:m vars=some [B true]) (h3:Ag A [B true]=⟨[.v false [.bool true]],[],[]⟩):
  (Aj sig A m (TV×Mem) args ⟨[],[]⟩ λv m=>some (v,m))=some (.v false [.bool true],⟨[],[]⟩):=by simp_all [Aj,Ab]
theorem Ar.tv_of {a:Ar} {g:Bool} {ks:List Kd} (h1:a.agg=g) (h2:a.ks=ks):a.tv= .v g (Ap ks a.raw):=by grind [Ar.tv]
def Ct (n:Int):List AC:=[I n]
structure Pt where
 (x y z:Int)
structure Itm where
 (aP block:Int)
 (fr to:Pt)
 (aG:Int)
 (ce:Pt)
 (dir:Int)
 bG:Bool
 aZ:Int
 perRev:Bool
 (side radius bH n aS:Int)
 on:Bool
structure Sgm where
 to:Pt
 (len aU aZ aX:Int)
structure Mrk where
 (at_ aP aU:Int)
structure Pth where
 aQ:Pt
 aF:List Sgm
 aD:List Mrk
structure Axs where
 (step aS bD bE low aY bB aV aO:Int)
 aW:List Int
structure Pce where
 (at_ aR s bC:Int)
 (was aT:Pt)
structure Trk where
 aE:List Pce
 (length aQ:Int)
 aT:Pt
structure Spk where
 (u w r h:Int)
instance:DecidableEq Pt:=λa b=>by
 obtain⟨a1,a2,a3⟩:=a;obtain⟨b1,b2,b3⟩:=b;exact decidable_of_iff (a1=b1/\a2=b2/\a3=b3) (by simp)
instance:DecidableEq Sgm:=λa b=>by
 obtain⟨a1,a2,a3,a4,a5⟩:=a;obtain⟨b1,b2,b3,b4,b5⟩:=b;exact decidable_of_iff (a1=b1/\a2=b2/\a3=b3/\a4=b4/\a5=b5) (by simp)
instance:DecidableEq Mrk:=λa b=>by
 obtain⟨a1,a2,a3⟩:=a;obtain⟨b1,b2,b3⟩:=b;exact decidable_of_iff (a1=b1/\a2=b2/\a3=b3) (by simp)
instance:DecidableEq Pce:=λa b=>by
 obtain⟨a1,a2,a3,a4,a5,a6⟩:=a;obtain⟨b1,b2,b3,b4,b5,b6⟩:=b;exact decidable_of_iff (a1=b1/\a2=b2/\a3=b3/\a4=b4/\a5=b5/\a6=b6) (by simp)
abbrev kI:Kd:= .int .i64
abbrev kB:Kd:= .bool
abbrev kInts:List Kd:=[kI]
abbrev kPt:List Kd:=[kI,kI,kI]
abbrev Bj:List Kd:=[kI,kI,kI,kI,kI,kI,kI,kI,kI,kI,kI,kI,kI,kB,kI,kB,kI,kI,kI,kI,kI,kB]
abbrev A8:List Kd:=[kI,kI,kI,kI,kI,kI,kI]
abbrev B_:List Kd:=[kI,kI,kI,kI,kI,kI,kI,kI,kI,kI]
abbrev Fq (t:Itm):List AC:=[I t.aP,I t.block,I t.fr.x,I t.fr.y,I t.fr.z,I t.to.x,I t.to.y,I t.to.z,I t.aG,I t.ce.x,I t.ce.y,I t.ce.z,I t.dir,B t.bG,I t.aZ,B t.perRev,I t.side,I t.radius,I t.bH,I t.n,I t.aS,B t.on]
abbrev Mj (g:Sgm):List AC:=[I g.to.x,I g.to.y,I g.to.z,I g.len,I g.aU,I g.aZ,I g.aX]
abbrev C2 (m:Mrk):List AC:=[I m.at_,I m.aP,I m.aU]
abbrev EB (c:Pce):List AC:=[I c.at_,I c.aR,I c.s,I c.bC,I c.was.x,I c.was.y,I c.was.z,I c.aT.x,I c.aT.y,I c.aT.z]
abbrev Gv (t:Trk):List AC:=[.vC B_ (t.aE.map EB),I t.length,I t.aQ,I t.aT.x,I t.aT.y,I t.aT.z]
structure Ax3 where
 (a b c:Axs)
abbrev pxt (p:Pth) (x:Ax3) (t:Trk) (l:List AC):List AC:=
 I p.aQ.x::I p.aQ.y::I p.aQ.z:: .vC A8 (p.aF.map Mj):: .vC kPt (p.aD.map C2)::
 I x.a.step::I x.a.aS::I x.a.bD::I x.a.bE::I x.a.low::I x.a.aY::I x.a.bB::I x.a.aV::I x.a.aO:: .vC kInts (x.a.aW.map Ct)::
 I x.b.step::I x.b.aS::I x.b.bD::I x.b.bE::I x.b.low::I x.b.aY::I x.b.bB::I x.b.aV::I x.b.aO:: .vC kInts (x.b.aW.map Ct)::
 I x.c.step::I x.c.aS::I x.c.bD::I x.c.bE::I x.c.low::I x.c.aY::I x.c.bB::I x.c.aV::I x.c.aO:: .vC kInts (x.c.aW.map Ct)::
 .vC B_ (t.aE.map EB)::I t.length::I t.aQ::I t.aT.x::I t.aT.y::I t.aT.z::l
abbrev gA (l:List AC) (k:Nat):Int:=Ad (nth .vD l k)
abbrev jA (l:List AC) (k:Nat):AC:= .int .i64 (Ad (nth .vD l k))
abbrev wA (l:List AC) (k:Nat):List (List AC):=Aq (nth .vD l k)
abbrev bA (l:List AC) (k:Nat):Bool:=Ci (nth .vD l k)
abbrev Fn:=List AC->Option (List AC)
abbrev Lp:=List AC->Option (Nat×List AC)
abbrev Rw:=List (List AC)
abbrev ci:CS:= .int .i64
abbrev tf:List CS->TS:= .v false
abbrev td:TS:= .vD
attribute [go_sem] gA jA wA bA c9 dg
theorem SV (r:List AC):Ap Bj r=[jA r 0,jA r 1,jA r 2,jA r 3,jA r 4,jA r 5,jA r 6,jA r 7,jA r 8,jA r 9,jA r 10,jA r 11,jA r 12,B (bA r 13),jA r 14,B (bA r 15),jA r 16,jA r 17,jA r 18,jA r 19,jA r 20,B (bA r 21)]:=rfl
theorem SH (r:List AC):Ap A8 r=[jA r 0,jA r 1,jA r 2,jA r 3,jA r 4,jA r 5,jA r 6]:=rfl
theorem PS (r:List AC):Ap B_ r=[jA r 0,jA r 1,jA r 2,jA r 3,jA r 4,jA r 5,jA r 6,jA r 7,jA r 8,jA r 9]:=rfl
attribute [go_sem] SV SH PS
end Go.Bm
