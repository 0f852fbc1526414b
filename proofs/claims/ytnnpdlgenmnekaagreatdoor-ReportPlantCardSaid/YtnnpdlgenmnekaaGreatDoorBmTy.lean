/- the abstract machine -/
import Derived.Test.YtnnpdlgenmnekaaGreatDoorBmDraw
import Derived.Orders
import Derived.Test.YtnnpdlgenmnekaaGreatDoorBmFz
import Derived.ProofKit
import Derived.Below
import Derived.OpenShut
import Derived.ChangeSame
import Derived.Deep.Slices
set_option linter.unusedVariables false
set_option linter.defProp false
set_option linter.unusedSimpArgs false
namespace Go.Bm
open Go.RowKit
section
variable {P:Program} {C:Cfg} {w:World} {R:Type} {Z:Base}
theorem UP {G D:Operand->TV}:∀(l:List Operand),(∀x∈l,G x=D x)->B_ G l=B_ D l
 |[],_=>rfl
 |x::l,h=>by simp only[B_];rw[h x (by simp),UP l λy I=>h y (by grind)]
theorem Qgt {G D:Operand->TV}:∀(l:List (Nat×Operand)),(∀p∈l,G p.2=D p.2)->FY G l=FY D l
 |[],_=>rfl
 |x::l,h=>by simp only[FY];rw[h x (by simp),Qgt l λy I=>h y (by grind)]
theorem Zg7 {G D:Operand->TV} (o:Option Operand) (h:∀x,o=some x->G x=D x):Ln G o=Ln D o:=by
 cases o with
 |none=>rfl
 |some x=>simp_all [Ln]
theorem Mj {G D:Operand->TV} {dst:Option Tmp} {o:Op} (h:∀x∈o.operands,G x=D x) (K:Prim->Option R):opK P C G dst o K=opK P C D dst o K:=by
 cases o<;>simp only[Op.operands]at h<;>simp only[opK]
 case move x=>grind
 case assign x=>grind
 case pick c a b=>grind
 case box t x=>grind
 case build t parts=>rw[Qgt parts.toList λp L=>h p.2 (by grind)]
 case buildSlice t n parts=>rw[Qgt parts.toList λp L=>h p.2 (by grind)]
 case makeSlice t a b=>grind
 case makeFunc V a b=>
  rw[UP a.toList λx I=>h x (by grind),UP b.toList λx I=>h x (by grind)]
 case load t a=>grind
 case store t a x=>grind
 case nilCheck x=>grind
 case binOp op t x y _=>grind
 case unOp op t x=>grind
 case convert s d x=>grind
 case fieldAddr t x i=>grind
 case field t x i=>grind
 case indexAddr t x M=>grind
 case index t x M=>grind
 case slice t x lo N mx=>
  rw[h x (by simp),Zg7 lo λy O=>h y (by grind),Zg7 N λy O=>h y (by grind)]
 case extract t i=>grind
 case call c=>
  have X:∀t,c.callee= .value (.tmp t)->G (.tmp t)=D (.tmp t):=λt Y=>h _ (by grind [Call.operands]);have U:B_ G c.args.toList=B_ D c.args.toList:=UP _ λx I=>h x (by grind [Call.operands]);rw[U]
  grind
theorem Qsm {tm:List TV} {d:Nat} {v:TV} {x:Operand} (h:x≠ .tmp d):AL (setL tm d v) x=AL tm x:=by
 cases x with
 |tmp t=>
  have D:d≠t:=λe=>h (by rw[e]);simp_all [AL,Ca,Jc]
 |_=>rfl
def Dc (tm:List TV) (d:Option Tmp) (v:TV):List TV:=
 match d with
 |none=>tm
 |some t=>setL tm t v
theorem LR (tm:List TV) (bx:List (Nat×Box)) (aC:List (Nat×Row)) (d:Option Tmp) (v:TV):T2 ⟨tm,bx,aC⟩ d v=⟨Dc tm d v,bx,aC⟩:=by cases d<;>rfl
theorem P8 {tm:List TV} {d e:Option Tmp} (v u:TV) (h:∀t,d=some t->e≠some t):Dc (Dc tm d v) e u=Dc (Dc tm e u) d v:=by
 cases d with
 |none=>rfl
 |some t=>
  cases e with
  |none=>rfl
  |some q=>simp_all [Dc,Jc,List.set_comm]
def Dt (P:Program) (C:Cfg) (ops:List Oper) (o:Oper) (tm:List TV) (bx:List (Nat×Box)) (aC:List (Nat×Row)):Option (Option Prim×TV×List (Nat×Box)):=
 match Ce ops o tm with
 |some true=>(opK P C (AL tm) o.dst o.op some).bind λp=>(As (C:=C) o.dst (p.dr false) bx aC).bind λq=>some (some (p.dr false),q.1,q.2)
 |some false=>some (none, .tup [],bx)
 |none=>none
theorem Zsy {d:Option Tmp} {p:Prim} {bx:List (Nat×Box)} {aC:List (Nat×Row)} (h:Prim.isApp (some p)=true):As (C:=C) d p bx aC=none:=by
 cases p<;>simp[Prim.isApp]at h
 rfl
theorem Yeb {d:Option Tmp} {p:Prim} {bx:List (Nat×Box)} {aC:List (Nat×Row)} (h:Prim.isMk (some p)=true):As (C:=C) d p bx aC=none:=by
 cases p<;>simp[Prim.isMk]at h<;>rfl
def Zof {ops:List Oper} {o:Oper} {tm:List TV} {bx D:List (Nat×Box)} {aC:List (Nat×Row)} {p:Option Prim} {v:TV} (h:Dt P C ops o tm bx aC=some (p,v,D)):Prim.isMk p=false:=by
 unfold Dt at h;split at h
 ·cases G:opK P C (AL tm) o.dst o.op some with
  |none=>grind
  |some q=>
   cases I:Prim.isMk (some (q.dr false))with
   |true=>grind [Yeb]
   |false=>
    cases L:As (C:=C) o.dst (q.dr false) bx aC with
    |none=>grind
    |some z=>grind
 ·simp at h;rw[<-h.1];rfl
 grind
def Zp8 {ops:List Oper} {o:Oper} {tm:List TV} {bx D:List (Nat×Box)} {aC:List (Nat×Row)} {p:Option Prim} {v:TV} (h:Dt P C ops o tm bx aC=some (p,v,D)):Prim.isApp p=false:=by
 unfold Dt at h;split at h
 ·cases G:opK P C (AL tm) o.dst o.op some with
  |none=>grind
  |some q=>
   cases I:Prim.isApp (some (q.dr false))with
   |true=>grind [Zsy]
   |false=>
    cases L:As (C:=C) o.dst (q.dr false) bx aC with
    |none=>grind
    |some z=>grind
 ·simp at h;rw[<-h.1];rfl
 grind
theorem Qi {ops:List Oper} {o:Oper} {tm:List TV} {bx D:List (Nat×Box)} {aC:List (Nat×Row)} {p:Option Prim} {v:TV} (h:Dt P C ops o tm bx aC=some (p,v,D)):
  Co (P:=P) (C:=C) ops o ⟨tm,bx,aC⟩=some (p,⟨Dc tm o.dst v,D,aC⟩):=by
 have G:=Zp8 h;have I:=Zof h;unfold Dt at h;unfold Co;cases L:Ce ops o tm with
 |none=>grind
 |some b=>
  cases b
  ·grind [LR]
  rw[L]at h;cases M:opK P C (AL tm) o.dst o.op some with
  |none=>grind
  |some q=>
   cases N:As (C:=C) o.dst (q.dr false) bx aC with
   |none=>grind
   |some z=>simp_all [Fb,LR]
theorem Ox {ops:List Oper} {o:Oper} {tm:List TV} {bx:List (Nat×Box)} {aC:List (Nat×Row)} {p:Option Prim} {L:St} (h:Co (P:=P) (C:=C) ops o ⟨tm,bx,aC⟩=some (p,L)) (hn:Prim.isApp p=false) (I:Prim.isMk p=false):
  ∃v D,Dt P C ops o tm bx aC=some (p,v,D)/\L=⟨Dc tm o.dst v,D,aC⟩:=by
 unfold Co at h;unfold Dt;cases M:Ce ops o tm with
 |none=>grind
 |some b=>
  cases b
  ·rw[M]at h;obtain⟨rfl,rfl⟩:=h;simp[LR]
  rw[M]at h;cases N:opK P C (AL tm) o.dst o.op some with
  |none=>grind
  |some q=>
   rw[N]at h;simp at h⊢;cases G:Fb (C:=C) o.dst (q.dr false) ⟨tm,bx,aC⟩with
   |none=>grind
   |some z=>
    rw[G]at h;obtain⟨rfl,rfl⟩:=h;unfold Fb at G;rw[hn,I]at G;simp only[bn,dc]at G;obtain⟨y,O,rfl⟩:=G;simp_all [LR]
def Qeo {ops:List Oper} {o:Oper} {tm:List TV} {bx:List (Nat×Box)} {aC:List (Nat×Row)} {p:Option Prim} {I:St} (h:Co (P:=P) (C:=C) ops o ⟨tm,bx,aC⟩=some (p,I)) (hn:Prim.isApp p=true):
  Ce ops o tm=some true/\∃q id v D,opK P C (AL tm) o.dst o.op some=some q/\p=some (q.dr false)/\La o.dst (q.dr false)=some id/\Lz o.dst aC (q.dr false)=some (v,D)/\I=⟨Dc (tm.map (TV.kill id)) o.dst v,bx.map λp=>(p.1,p.2.kill id),D⟩:=by
 unfold Co at h;cases L:Ce ops o tm with
 |none=>grind
 |some b=>
  cases b
  ·grind [Prim.isApp]
  rw[L]at h;cases M:opK P C (AL tm) o.dst o.op some with
  |none=>grind
  |some q=>
   rw[M]at h;simp at h;cases G:Fb (C:=C) o.dst (q.dr false) ⟨tm,bx,aC⟩with
   |none=>grind
   |some z=>
    rw[G]at h;obtain⟨rfl,rfl⟩:=h;unfold Fb at G;rw[hn]at G;simp at G;split at G
    ·rename_i id hid;simp only[dc]at G;obtain⟨⟨y1,y2⟩,N,rfl⟩:=G;simp_all [YH,LR]
    grind
theorem Q2y {ops:List Oper} {o:Oper} {tm:List TV} {bx:List (Nat×Box)} {aC D:List (Nat×Row)} {q:Prim} {id:Nat} {v:TV} (G:Ce ops o tm=some true) (I:opK P C (AL tm) o.dst o.op some=some q)
  (L:La o.dst (q.dr false)=some id) (M:Lz o.dst aC (q.dr false)=some (v,D)) (N:Prim.isApp (some (q.dr false))=true):
  Co (P:=P) (C:=C) ops o ⟨tm,bx,aC⟩=some (some (q.dr false),⟨Dc (tm.map (TV.kill id)) o.dst v,bx.map λp=>(p.1,p.2.kill id),D⟩):=by simp_all [Co,Fb,YH,LR]
def Wa {ops:List Oper} {o:Oper} {tm:List TV} {bx:List (Nat×Box)} {aC:List (Nat×Row)} {p:Option Prim} {L:St} (h:Co (P:=P) (C:=C) ops o ⟨tm,bx,aC⟩=some (p,L)) (hn:Prim.isMk p=true):
  Ce ops o tm=some true/\∃q v D,opK P C (AL tm) o.dst o.op some=some q/\p=some (q.dr false)/\mkD (C:=C) o.dst (q.dr false) aC=some (v,D)/\L=⟨Dc tm o.dst v,bx,D⟩:=by
 unfold Co at h;cases M:Ce ops o tm with
 |none=>grind
 |some b=>
  cases b
  ·grind [Prim.isMk]
  rw[M]at h;cases N:opK P C (AL tm) o.dst o.op some with
  |none=>grind
  |some q=>
   rw[N]at h;simp at h;cases G:Fb (C:=C) o.dst (q.dr false) ⟨tm,bx,aC⟩with
   |none=>grind
   |some z=>
    rw[G]at h;obtain⟨rfl,rfl⟩:=h;have I:Prim.isApp (some (q.dr false))=false:=by
     generalize q.dr false=O at hn⊢;cases O<;>simp[Prim.isMk]at hn<;>rfl
    unfold Fb at G;rw[I,hn]at G;simp only[bn,am,dc]at G;obtain⟨⟨y1,y2⟩,U,rfl⟩:=G;simp_all [LR]
theorem VK {ops:List Oper} {o:Oper} {tm:List TV} {bx:List (Nat×Box)} {aC D:List (Nat×Row)} {q:Prim} {v:TV} (M:Ce ops o tm=some true) (N:opK P C (AL tm) o.dst o.op some=some q)
  (O:mkD (C:=C) o.dst (q.dr false) aC=some (v,D)) (G:Prim.isMk (some (q.dr false))=true):
  Co (P:=P) (C:=C) ops o ⟨tm,bx,aC⟩=some (some (q.dr false),⟨Dc tm o.dst v,bx,D⟩):=by
 have I:Prim.isApp (some (q.dr false))=false:=by
  generalize q.dr false=L at G⊢;cases L<;>simp[Prim.isMk]at G<;>rfl
 simp_all [Co,Fb,LR]
theorem Zty {id:Nat} {a:AC} (h:a.live=true):a.kill id=a:=by cases a<;>simp[AC.live]at h<;>rfl
theorem Zud {id:Nat} {a:AC} (h:(a.kill id).live=true):a.kill id=a:=by
 cases a<;>simp only[AC.kill]at h⊢<;>try rfl
 all_goals
  grind [AC.live]
theorem Tn {id:Nat}:∀{l:List AC},Al AC.live l=true->l.map (AC.kill id)=l
 |[],_=>rfl
 |a::l,h=>by
  rw[Au]at h;simp only[bz];rw[Zty (h a (by simp)),Tn (Au.2 λx D=>h x (by grind))]
theorem UI {id:Nat}:∀{l:List AC},Al AC.live (l.map (AC.kill id))=true->l.map (AC.kill id)=l
 |[],_=>rfl
 |a::l,h=>by
  rw[Au]at h;simp only[bz]at h⊢;rw[Zud (h _ (by simp)),UI (Au.2 λx D=>h x (by grind))]
theorem Xb (id:Nat):∀(tm:List TV) (t:Nat),nth .vD (tm.map (TV.kill id)) t=(nth .vD tm t).kill id
 |[],_=>rfl
 |_::_,0=>rfl
 |_::tm,t+1=>Xb id tm t
theorem Te {id:Nat} {tm:List TV} {x:Operand} {g:Bool} {cs:List AC} (h:AL tm x= .v g cs) (D:Al AC.live cs=true):AL (tm.map (TV.kill id)) x= .v g cs:=by
 cases x<;>try exact h
 grind [AL,Xb,TV.kill,Tn]
theorem R8 {id:Nat} {tm:List TV} {x:Operand} {g:Bool} {cs:List AC} (h:AL (tm.map (TV.kill id)) x= .v g cs) (G:Al AC.live cs=true):AL tm x= .v g cs:=by
 cases x<;>try exact h
 simp only[AL]at h⊢;rw[Xb]at h;cases I:nth TV.vD tm (by omega)with
 |vD=>grind [TV.kill]
 |tup ps=>grind [TV.kill]
 |v L D=>grind [TV.kill,UI]
def ZP {q:Prim} (h:Prim.isPtr (some (q.dr false))=true):∃k o,q= .val (.v false [.ptr k o]):=by
 cases q<;>simp only[Prim.dr,Prim.isPtr]at h<;>try (simp at h;done)
 case callM f args=>grind
 grind
def Qfe {q:Prim} (h:Prim.isLive (some (q.dr false))=true):∃g cs,q= .val (.v g cs)/\Al AC.live cs=true:=by
 cases q<;>simp only[Prim.dr,Prim.isLive]at h<;>try (simp at h;done)
 case callM f args=>grind
 grind
theorem Z3q {a:AC} (h:a.plain=true):a.live=true:=by cases a<;>simp[AC.plain]at h<;>rfl
theorem UC {l:List AC} (h:Al AC.plain l=true):Al AC.live l=true:=by grind [Au,Z3q]
theorem Z7p {id:Nat}:∀{u:TV},(u.kill id).plainB=true->u.kill id=u
 | .vD,_=>rfl
 | .v g cs,h=>by grind [TV.kill,TV.plainB,UI,UC]
 | .tup ps,h=>by
  simp only[TV.kill,TV.plainB]at h⊢;congr 1;induction ps with
  |nil=>rfl
  |cons p ps D=>
   rw[Au]at h;simp only[bz]at h⊢;rw[UI (UC (h (p.1,p.2.map (AC.kill id)) (by simp))),D (Au.2 λx G=>h x (fj _ G))]
theorem Qb1 {id:Nat}:∀{u:TV},u.plainB=true->u.kill id=u
 | .vD,_=>rfl
 | .v g cs,h=>by grind [TV.kill,TV.plainB,Tn,UC]
 | .tup ps,h=>by
  simp only[TV.kill,TV.plainB]at h⊢;congr 1;induction ps with
  |nil=>rfl
  |cons p ps D=>
   rw[Au]at h;simp only[bz];rw[Tn (UC (h p (by simp))),D (Au.2 λx G=>h x (fj _ G))]
theorem Zq6 {id:Nat} {tm:List TV} {x:Operand} {v:TV} (D:v.plainB=true):AL (tm.map (TV.kill id)) x=v↔AL tm x=v:=by
 cases x<;>try exact Iff.rfl
 grind [AL,Xb,Z7p,Qb1]
theorem Zjp {id:Nat} {tm:List TV}:∀(l:List Operand) {D:List TV},Al TV.plainB D=true->(B_ (AL (tm.map (TV.kill id))) l=D↔B_ (AL tm) l=D)
 |[],D,_=>Iff.rfl
 |x::l,[],_=>by simp[B_]
 |x::l,v::D,h=>by
  rw[Au]at h;simp only[B_,gf];rw[Zq6 (h v (by simp)),Zjp l (Au.2 λy G=>h y (by grind))]
theorem Qxe {q:Prim} (h:Prim.isCallP (some (q.dr false))=true):∃f args,q= .call f args/\Al TV.plainB args=true:=by
 cases q<;>simp only[Prim.dr,Prim.isCallP]at h<;>try (simp at h;done)
 case callM f args=>grind
 grind
theorem Qmm {g:Int->Int->Int} {k:IntKind} {as:List TV} {f:FuncId}:∀{l:List TV} {a:Int},FF g k a l some≠some (.call f as)
 |[],a,h=>by grind [FF]
 |t::l,a,h=>by
  simp only[FF]at h;split at h
  ·rename_i k' b;cases hb:kEq k k'<;>rw[hb]at h
   ·grind
   exact Qmm h
  grind
theorem Z1b {b:Builtin} {D:List TypeId} {args as:List TV} {f:FuncId}:Ko P b D args some≠some (.call f as):=by
 intro h;unfold Ko at h
 repeat' split at h
 all_goals first|(simp at h;done)|skip
 all_goals first|(simp at h;grind)|(simp at h;repeat' split at h)|skip
 all_goals grind [Qmm]
theorem Z0c {D:Operand->TV} {dst:Option Tmp} {c:Call} {f:FuncId} {args:List TV}:
  opK P C D dst (.call c) some=some (.call f args)↔c.callee= .value (.func f)/\C.pure f=true/\B_ D c.args.toList=args:=by
 simp only[opK];split
 ·grind [Z1b]
 ·grind
 ·grind
 grind
def Qwm {q:Prim} (h:Prim.isLoad (some (q.dr false))=true):∃g sz key off,q= .load g sz key off:=by
 cases q<;>simp only[Prim.dr,Prim.isLoad]at h<;>try (simp at h;done)
 case callM f args=>grind
 simp
theorem Zom {D:Operand->TV} {dst:Option Tmp} {t:TypeId} {a:Operand} {g:Bool} {sz key off:Nat} (h:opK P C D dst (.load t a) some=some (.load g sz key off)):D a= .v false [.ptr key off]:=by
 simp only[opK]at h
 grind
theorem Z5t {id:Nat} {g:Bool} {sz off:Nat} {cells:List AC}:DO g sz (cells.map (AC.kill id)) off=(DO g sz cells off).map (TV.kill id):=by
 unfold DO;cases g
 ·simp;cases cells[off]? <;>rfl
 simp;cases Nat.ble (off+sz) cells.length
 ·rfl
 simp[TV.kill,Yao]
theorem Qou {id:Nat}:∀(bx:List (Nat×Box)) (k:Nat),Ab (bx.map λp=>(p.1,p.2.kill id)) k=(Ab bx k).map (Box.kill id)
 |[],_=>rfl
 |(j,b)::bx,k=>by
  simp only[bz,Ab];cases Nat.beq j k
  ·exact Qou bx k
  rfl
theorem Zz8 {k:Kd} {a b:AC} (h:Rp k a=some b):a.live=true:=by
 cases k<;>cases a<;>simp[Rp]at h<;>rfl
theorem Q8e:∀{ks:List Kd} {cs c:List AC},G2 ks cs=some c->Al AC.live cs=true
 |[],[],_,_=>rfl
 |[],_::_,_,h=>by grind [G2]
 |_::_,[],_,h=>by rfl
 |k::ks,a::cs,c,h=>by
  simp only[G2]at h;split at h
  ·rename_i G I;split at h
   ·rename_i c' D;have:=Au.1 (Q8e D)
    grind [Au,Zz8]
   grind
  grind
theorem Zgr:∀{α:Type} (l v:List α),l.length=v.length->splice l 0 v=v
 |_,[],[],_=>rfl
 |_,[],_::_,h=>by grind
 |_,_::_,[],h=>by grind
 |_,x::l,y::v,h=>by simp only[splice];rw[Zgr l v (by grind)]
theorem Zn8 {D:Operand->TV} {dst:Option Tmp} {t:TypeId} {parts:Array (Nat×Operand)} {x:Operand} (L:parts.toList=[(0,x)]) {e:TypeId} {ks:List Kd} {l:List (List AC)}
  (h:opK P C D dst (.buildSlice t 1 parts) some=some (.newView e ks l)):∃g cs,D x= .v g cs/\Al AC.live cs=true:=by
 simp only[opK,L,FY]at h;split at h
 ·split at h
  ·rename_i w z G _ _ _;cases hb:(Nat.beq z.length w&&Nat.beq G.length w&&Nat.ble 1 w&&Nat.ble (1*w) 65536)<;>rw[hb]at h
   ·grind
   simp at h;simp at hb;cases M:D x with
   |vD=>grind [GI,TV.cells]
   |tup ps=>grind [GI,TV.cells]
   |v g cs=>
    rw[M]at h;simp only[GI,TV.cells]at h;cases I:(Nat.beq cs.length w&&Nat.ble (0*w+w) (chunk z 1).length)<;>rw[I]at h
    ·grind
    simp only[am]at h;simp at I;rw[show splice (chunk z 1) (0*w) cs=cs from by simp_all [Zgr,chunk]]at h
    grind [H4,Q8e]
  grind
 grind
def Z1l {l:List (Nat×Operand)} (h:oneP l=true):∃x,l=[(0,x)]:=by
 match l,h with
 |[(0,x)],_=>simp
def Zlg {q:Prim} (h:Prim.isView (some (q.dr false))=true):∃e ks l,q= .newView e ks l:=by
 cases q<;>simp only[Prim.dr,Prim.isView]at h<;>try (simp at h;done)
 case callM f args=>grind
 simp
def Qry {id:Nat} {tm:List TV} {dst:Option Tmp} {o:Op} {q:Prim} (D:Prim.still o (some (q.dr false))=true):
  opK P C (AL (tm.map (TV.kill id))) dst o some=some q↔opK P C (AL tm) dst o some=some q:=by
 cases o<;>simp[Prim.still]at D
 case call c=>grind [Qxe,Z0c,Zjp]
 case build t parts=>
  have key:∀x∈(Op.build t parts).operands,AL (tm.map (TV.kill id)) x=AL tm x:=by
   intro x I;simp only[Op.operands]at I;simp at I;obtain⟨a,N⟩:=I;have:=Au.1 D.1 (a,x) (by grind);cases x<;>simp[Zix]at this
   rfl
  rw[Mj key]
 case load t a=>
  obtain⟨g,sz,key,off,rfl⟩:=Qwm D;have O:Al AC.live [AC.ptr key off]=true:=rfl
  grind [Zom,R8,Mj,Op.operands,Te]
 case buildSlice t n parts=>
  obtain⟨⟨rfl,U⟩,V⟩:=D;obtain⟨x,I⟩:=Z1l U;obtain⟨e,ks,l,rfl⟩:=Zlg V;have X:∀y∈(Op.buildSlice t 1 parts).operands,y=x:=by
   intro y L;simp only[Op.operands]at L;simp at L;obtain⟨a,N⟩:=L;have:(a,y)∈parts.toList:=by simpa using N
   rw[I]at this;simp at this;exact this.2
  grind [Zn8,R8,Mj,Te]
 case move x=>
  obtain⟨g,cs,rfl,D⟩:=Qfe D;simp only[opK,bm,Prim.val.injEq]
  grind [R8,Te]
 case nilCheck x=>
  obtain⟨k,o,rfl⟩:=ZP D;have O:Al AC.live [AC.ptr k o]=true:=rfl;have key:∀G:Operand->TV,opK P C G dst (.nilCheck x) some=some (.val (.v false [.ptr k o]))↔G x= .v false [.ptr k o]:=by
   intro G;simp only[opK];split
   ·grind
   ·grind
   ·grind
   grind
  grind [R8,Te]
 case fieldAddr t x i=>
  obtain⟨k,o,rfl⟩:=ZP D;have key:∀G:Operand->TV,opK P C G dst (.fieldAddr t x i) some=some (.val (.v false [.ptr k o]))->∃k' M,G x= .v false [.ptr k' M]:=by
   intro G h;simp only[opK]at h
   repeat' grind
   all_goals grind
  constructor
  ·intro h;obtain⟨k',M,e⟩:=key _ h;have e2:=R8 e rfl
   grind [Mj,Op.operands]
  intro h;obtain⟨k',M,e⟩:=key _ h;have e2:=Te (id:=id) e rfl
  grind [Mj,Op.operands]
theorem Qxl {id:Nat} {tm:List TV} {d:Option Tmp} {v:TV}:(Dc tm d v).map (TV.kill id)=Dc (tm.map (TV.kill id)) d (v.kill id):=by
 cases d with
 |none=>rfl
 |some t=>grind [Dc,Jc,List.map_set]
theorem RT {ops:Array Oper} {o:Oper} {tm:List TV} {d:Option Tmp} {v:TV} (h:∀t,d=some t->t∉o.looksAt ops):Ce ops.toList o (Dc tm d v)=Ce ops.toList o tm:=by
 cases d with
 |none=>rfl
 |some t=>
  unfold Ce;cases M:o.guard with
  |none=>rfl
  |some G=>
   obtain⟨j,want⟩:=G;dsimp only;cases I:ops.toList[j]? with
   |none=>rfl
   |some D=>
    dsimp only;cases N:D.dst with
    |none=>rfl
    |some q=>
     have L:ops[j]? =some D:=by simpa using I
     simp_all [Oper.looksAt,Dc,Ca,Jc]
theorem VQ {ops:Array Oper} {o:Oper} {tm:List TV} {bx:List (Nat×Box)} {aC:List (Nat×Row)} {d:Option Tmp} {v:TV} (h:∀t,d=some t->t∉o.looksAt ops):
  Dt P C ops.toList o (Dc tm d v) bx aC=Dt P C ops.toList o tm bx aC:=by
 unfold Dt;rw[RT h];cases d with
 |none=>rfl
 |some t=>
  have D:=h t rfl;rw [show opK P C (AL (Dc tm (some t) v)) o.dst o.op some = opK P C (AL tm) o.dst o.op some from Mj (λx G => Qsm (by
   rintro rfl;exact D (List.mem_append_left _ (List.mem_filterMap.2 ⟨.tmp t,by grind,rfl⟩)))) some]
theorem L6 {a b:Nat} (h:a≠b):Nat.beq a b=false:=KS h
theorem X4 {α:Type}:∀(l:List (Nat×α)) (k j:Nat) (x y:α),k≠j->upd (upd l k x) j y=upd (upd l j y) k x
 |[],_,_,_,_,_=>rfl
 |(i,b)::l,k,j,x,y,h=>by
  by_cases D:i=k
  ·simp_all [upd,L6]
  by_cases G:i=j
  ·simp_all [upd,L6]
  simp only[upd,L6 D,L6 G,bn];rw[X4 l k j x y h]
theorem Hr {a b:Nat} (h:a<b):Nat.blt a b=true:=by simp_all
theorem GX {a b:Nat} (h: ¬a<b):Nat.blt a b=false:=by
 cases hb:Nat.blt a b
 ·rfl
 simp at hb;omega
theorem Qah {α:Type}:∀(l:List (Nat×α)) (k j:Nat) (x y:α),k≠j->ins (ins l k x) j y=ins (ins l j y) k x
 |[],k,j,x,y,h=>by
  by_cases D:j<k
  ·simp only[ins,Hr D,am,GX (show¬k<j by omega),bn]
  simp only[ins,GX D,bn,Hr (show k<j by omega),am]
 |(i,b)::l,k,j,x,y,h=>by
  by_cases D:k<i<;>by_cases G:j<i
  ·by_cases I:j<k
   ·simp only[ins,Hr D,Hr G,Hr I,GX (show¬k<j by omega),am,bn]
   simp only[ins,Hr D,Hr G,GX I,Hr (show k<j by omega),am,bn]
  ·simp only[ins,Hr D,GX G,GX (show¬j<k by omega),am,bn]
  ·simp only[ins,GX D,Hr G,GX (show¬k<j by omega),am,bn]
  simp only[ins,GX D,GX G,bn];rw[Qah l k j x y h]
theorem Uw {α:Type}:∀(l:List (Nat×α)) (k j:Nat) (x y:α),k≠j->upd (ins l k x) j y=ins (upd l j y) k x
 |[],k,j,x,y,h=>by simp_all [ins,upd,L6]
 |(i,b)::l,k,j,x,y,h=>by
  by_cases D:k<i<;>by_cases G:i=j
  ·simp_all [ins,upd,Hr,L6]
  ·simp_all [ins,upd,Hr,L6]
  ·simp_all [ins,upd,GX]
  simp only[ins,upd,GX D,L6 G,bn];rw[Uw l k j x y h]
def Nu {d:Option Tmp} {f:FuncId} {args:List TV} {bx D:List (Nat×Box)} {aC:List (Nat×Row)} {v:TV} (h:As (C:=C) d (.call f args) bx aC=some (v,D)):
  D=bx/\∀(I:Option Tmp) (G:List (Nat×Box)),As (C:=C) I (.call f args) G aC=some (v,G):=by
 simp only[As]at h⊢;cases L:C.spec f with
 |none=>grind
 |some g=>grind
theorem Qrl {aC D:List (Nat×Row)}:∀{args:List TV},Al TV.plainB args=true->F1 aC args=F1 D args:=by
 have L:∀{l:List AC},Al AC.plain l=true->EV aC l=EV D l:=by
  intro l;induction l with
  |nil=>intro _;rfl
  |cons a l G=>
   intro h;rw[Au]at h;simp only[EV];rw[G (Au.2 λx M=>h x (by grind))];have I:=h a (by simp);cases a<;>simp[AC.plain]at I<;>rfl
 intro args;induction args with
 |nil=>intro _;rfl
 |cons a l G=>
  intro h;rw[Au]at h;simp only[F1];rw[G (Au.2 λx M=>h x (by grind))];have I:=h a (by simp);have:a.res aC=a.res D:=by
   cases a with
   |vD=>rfl
   |tup ps=>rfl
   |v g cs=>simp only[TV.res];rw[L I]
  grind
theorem Qrp {d:Option Tmp} {f:FuncId} {args:List TV} {bx D:List (Nat×Box)} {aC:List (Nat×Row)} {v:TV} (h:As (C:=C) d (.call f args) bx aC=some (v,D)):v.plainB=true:=by
 simp only[As]at h
 grind
def Qd1 (C:Cfg) (id:Nat) (d:Option Tmp) (bx:List (Nat×Box)) (q:Prim):Prop:=
  (∀{v G aC},As (C:=C) d (q.dr false) bx aC=some (v,G)->G=bx/\∀D,As (C:=C) d (q.dr false) (bx.map λp=>(p.1,p.2.kill id)) D=some (v.kill id,bx.map λp=>(p.1,p.2.kill id)))/\
  ∀{v G aC},As (C:=C) d (q.dr false) (bx.map λp=>(p.1,p.2.kill id)) aC=some (v,G)->G=(bx.map λp=>(p.1,p.2.kill id))/\∃u,u.kill id=v/\∀D,As (C:=C) d (q.dr false) bx D=some (u,bx)
def Q4j {id:Nat} {o:Op} {q:Prim} {d:Option Tmp} {bx:List (Nat×Box)} (G:Prim.still o (some (q.dr false))=true):Qd1 C id d bx q:=by
 have N:∀g cs,q= .val (.v g cs)->Al AC.live cs=true->Qd1 C id d bx q:=by
  rintro g cs rfl L;have e:(TV.v g cs).kill id= .v g cs:=by simp only[TV.kill];rw[Tn L]
  refine⟨fun{v D aC} h=> ?_,fun{v D aC} h=> ?_⟩
  ·simp_all [Prim.dr,As]
  simp_all [Prim.dr,As]
 cases o<;>simp[Prim.still]at G
 case call c=>
  obtain⟨f,args,rfl,O⟩:=Qxe G;refine⟨fun{v D aC} h=> ?_,fun{v D aC} h=> ?_⟩
  ·obtain⟨rfl,M⟩:=Nu h;refine⟨rfl,λI=> ?_⟩;rw[Qb1 (Qrp h)];have:=M d (D.map λp=>(p.1,p.2.kill id));simp only[Prim.dr,As]at this⊢
   grind [Qrl]
  obtain⟨rfl,M⟩:=Nu h;refine⟨rfl,v,Qb1 (Qrp h),λI=> ?_⟩;have:=M d bx;simp only[Prim.dr,As]at this⊢
  grind [Qrl]
 case load t a=>
  obtain⟨g,sz,key,off,rfl⟩:=Qwm G;simp only[Qd1,Prim.dr,As,Qou];cases Ab bx key with
  |none=>simp
  |some b=>
   simp only[Option.map_some,Box.kill,Z5t];cases DO g sz b.cells off with
   |none=>simp
   |some u=>simp
 case move x=>obtain⟨g,cs,rfl,L⟩:=Qfe G;grind
 case build t parts=>obtain⟨g,cs,rfl,L⟩:=Qfe G.2;grind
 case buildSlice t n parts=>
  obtain⟨e,ks,l,rfl⟩:=Zlg G.2;refine⟨fun{v D aC} h=> ?_,fun{v D aC} h=> ?_⟩
  ·simp only[Prim.dr,As,bm,ja]at h;obtain⟨rfl,rfl⟩:=h;exact⟨rfl,λ_=>rfl⟩
  simp only[Prim.dr,As,bm,ja]at h;obtain⟨rfl,rfl⟩:=h;exact⟨rfl,_,rfl,λ_=>rfl⟩
 all_goals
  obtain⟨k,o,rfl⟩:=ZP G;exact N _ _ rfl rfl
def Z6z {d:Option Tmp} {g:Bool} {sz id idx sub:Nat} {bx D:List (Nat×Box)} {aC:List (Nat×Row)} {v:TV} (h:As (C:=C) d (.rload g sz id idx sub) bx aC=some (v,D)):
  D=bx/\∀(G:Option Tmp) (b':List (Nat×Box)),As (C:=C) G (.rload g sz id idx sub) b' aC=some (v,b'):=by
 simp only[As]at h⊢
 repeat' split at h
 all_goals first|(simp at h;done)|skip
 obtain⟨rfl,rfl⟩:=h;exact⟨rfl,λ_ _=>rfl⟩
theorem Q3c {n k:Nat}:∀{l:List Nat},k∈RR n l↔k=n\/k∈l
 |[]=>by simp[RR]
 |m::l=>by
  simp only[RR];cases hb:Nat.beq m n
  ·simp only[bn,be,Q3c]
   grind
  simp_all
theorem Q15 {k:Nat}:∀{D l:List Nat},k∈Bi D l↔k∈D\/k∈l
 |[],l=>by simp[Bi]
 |n::D,l=>by
  simp only[Bi,Q15,Q3c]
  grind
theorem Wv {α β:Type} {g:α->List β} {x:β}:∀{l:List α},x∈cat g l↔∃a∈l,x∈g a
 |[]=>by simp[cat]
 |a::l=>by simp[cat,Wv]
def VD {k:Nat}:∀{l:List AC},k∈AC.keys.keysL l->∃o,AC.ptr k o∈l
 |[],h=>by grind [AC.keys.keysL]
 |a::l,h=>by
  cases a
  case ptr j o=>
   simp only[AC.keys.keysL,be]at h;rcases h with rfl|h
   ·simp
   obtain⟨D,h'⟩:=VD h;grind
  all_goals
   simp only[AC.keys.keysL]at h;obtain⟨D,h'⟩:=VD h
   grind
def Z6q {bx:List (Nat×Box)} {aC:List (Nat×Row)} {args:List TV} (h:∀v∈args,TV.wf bx aC v) {k:Nat} (N:k∈Bi (cat AC.keys (cat TV.cellsOf args)) []):∃b,Ab bx k=some b:=by
 simp only[Q15,List.not_mem_nil,or_false]at N;obtain⟨a,U,D⟩:=Wv.1 N;obtain⟨v,V,I⟩:=Wv.1 U;have O:=h v V;have G:AC.wf bx aC a:=by
  cases v with
  |vD=>grind [TV.cellsOf]
  |v g cs=>exact O a I
  |tup ps=>
   obtain⟨p,X,L⟩:=Wv.1 I;exact O p X a L
 cases a
 case ptr j o=>simp[AC.keys]at D;subst D;exact G
 case bsl j o=>simp[AC.keys]at D;subst D;exact G
 case clo f fs cs=>
  simp only[AC.keys,bt]at D;rcases D with D|D
  ·obtain⟨o,M⟩:=VD D;exact G.1 _ M
  obtain⟨o,M⟩:=VD D;exact G.2 _ M
 all_goals grind [AC.keys]
theorem Zh6 {bx D:List (Nat×Box)} {G ri:Nat->Nat}:∀(keys:List Nat) (b:Nat),(∀k∈keys,Ab D k=Ab bx k)->Dk D G ri b keys=Dk bx G ri b keys
 |[],_,_=>rfl
 |k::keys,b,h=>by
  simp only[Dk];rw[h k (by simp),Zh6 keys (b+1) λj I=>h j (by grind)]
theorem Q9y {α:Type} {p q:α->Bool}:∀{l:List α},(∀x∈l,p x=q x)->Al p l=Al q l
 |[],_=>rfl
 |a::l,h=>by simp only[Al];rw[h a (by simp),Q9y λx D=>h x (by grind)]
theorem NK {keys:List Nat}:∀(m:List (Nat×Box)) (l:List (Nat×Box)) (n:Nat),(∀p∈m,n≠nth 0 keys (p.1-base))->Ab (DH keys m l) n=Ab l n
 |[],_,_,_=>rfl
 |(j,c)::m,l,n,h=>by
  simp only[DH];rw[NK m _ n λp D=>h p (by grind)];simp_all [Dv]
theorem Qdj {keys:List Nat}:∀(m:List (Nat×Box)) (l:List (Nat×Box)) (n:Nat) (x:Box),(∀p∈m,n≠nth 0 keys (p.1-base))->DH keys m (upd l n x)=upd (DH keys m l) n x
 |[],_,_,_,_=>rfl
 |(j,c)::m,l,n,x,h=>by
  simp only[DH];rw[X4 _ _ _ _ _ (h (j,c) (by simp)),Qdj m _ n x λp D=>h p (by grind)]
theorem Qa6 {keys:List Nat}:∀(m:List (Nat×Box)) (l:List (Nat×Box)) (n:Nat) (x:Box),(∀p∈m,n≠nth 0 keys (p.1-base))->DH keys m (ins l n x)=ins (DH keys m l) n x
 |[],_,_,_,_=>rfl
 |(j,c)::m,l,n,x,h=>by
  simp only[DH];rw[Uw _ _ _ _ _ (h (j,c) (by simp)),Qa6 m _ n x λp D=>h p (by grind)]
def WT {d:Option Tmp} {f:FuncId} {args:List TV} {bx L:List (Nat×Box)} {aC:List (Nat×Row)} {v:TV} (h:As (C:=C) d (.callD f args) bx aC=some (v,L)):
  ∃D,L=DH (Bi (cat AC.keys (cat TV.cellsOf args)) []) D bx/\(∀p∈D,nth 0 (Bi (cat AC.keys (cat TV.cellsOf args)) []) (p.1-base)∈Bi (cat AC.keys (cat TV.cellsOf args)) [])/\v.plainB=true/\
   ∀(O:Option Tmp) (G:List (Nat×Box)),(∀k∈Bi (cat AC.keys (cat TV.cellsOf args)) [],Ab G k=Ab bx k)->As (C:=C) O (.callD f args) G aC=some (v,DH (Bi (cat AC.keys (cat TV.cellsOf args)) []) D G):=by
 simp only[As]at h⊢;generalize Bi (cat AC.keys (cat TV.cellsOf args)) []=keys at h⊢;cases U:C.spec f with
 |none=>grind
 |some g=>
  rw[U]at h;dsimp only at h⊢;split at h
  ·rename_i V;split at h
   ·rename_i Y M;split at h
    ·rename_i v' D hg;split at h
     ·rename_i N;obtain⟨rfl,rfl⟩:=h;have I:=N;simp at I;refine⟨D,rfl,λp hp=> ?_,I.2,λO G X=> ?_⟩
      ·grind [VY,Au,K3,GK]
      rw[Q9y (q:=λk=>Al AC.calm (EX bx k)) (λk hk=>by grind [EX]),Zh6 keys base X,M,ac V]
      grind
     grind
    grind
   grind
  grind
def WJ {keys:List Nat}:∀(m:List (Nat×Box)) (l:List (Nat×Box)) {n:Nat} {b:Box},Ab l n=some b->∃b',Ab (DH keys m l) n=some b'
 |[],_,_,b,h=>⟨b,h⟩
 |(j,c)::m,l,n,b,h=>by
  by_cases e:n=nth 0 keys (j-base)
  ·subst e;exact WJ m _ (E4 _ _ _ _ h)
  exact WJ m _ (b:=b) (by grind [Dv])
def Z98 {d:Option Tmp} {f:FuncId} {args:List TV} {bx D:List (Nat×Box)} {aC:List (Nat×Row)} {v:TV} (h:As (C:=C) d (.callD f args) bx aC=some (v,D)):
  ∀k∈Bi (cat AC.keys (cat TV.cellsOf args)) [],∃b,Ab bx k=some b:=by
 simp only[As]at h;generalize Bi (cat AC.keys (cat TV.cellsOf args)) []=keys at h⊢;split at h
 ·split at h
  ·split at h
   ·rename_i L G;intro k I;obtain⟨x,q,_⟩:=(K3 G).1 (pos keys k) (Dl I).1;simp_all [Dl]
   grind
  grind
 grind
theorem Qny {α:Type}:∀(l:List (Nat×α)) (k:Nat) (x:α),Ab l k=some x->upd l k x=l
 |[],_,_,_=>rfl
 |(j,b)::l,k,x,h=>by
  simp only[Ab,upd]at h⊢;cases D:Nat.beq j k
  ·rw[D]at h;simp at h⊢;rw[Qny l k x h]
  grind
def Q0i {keys:List Nat} {bx:List (Nat×Box)} {rk ri:Nat->Nat}:∀(ks pre:List Nat) (G:List (Nat×Box)),keys=pre++ks->Dk bx rk ri (base+pre.length) ks=some G->(∀k∈ks,Al AC.calm (EX bx k)=true)->DH keys G bx=bx
 |[],_,G,_,h,_=>by simp[Dk]at h;subst h;rfl
 |k::ks,pre,G,M,h,I=>by
  simp only[Dk]at h;split at h
  ·rename_i x L;split at h
   ·rename_i l N;simp at h;subst h;simp only[DH];have hn:nth 0 keys (base+pre.length-base)=k:=by
     rw[show base+pre.length-base=pre.length from by omega,Ca,M];simp
    have D:=I k (by simp);unfold EX at D;rw[L]at D;rw[hn,SY D,Qny bx k _ L];exact Q0i (rk:=rk) (ri:=ri) ks (pre++[k]) l (by grind) (by grind) (λj O=>I j (by grind))
   grind
  grind
theorem UJ (D:AK P C) {d:Option Tmp} {f:FuncId} (G:C.ro f=true) {args:List TV} {bx bx1:List (Nat×Box)} {aC:List (Nat×Row)} {v:TV} (h:As (C:=C) d (.callD f args) bx aC=some (v,bx1)):bx1=bx:=by
 simp only[As]at h;generalize Bi (cat AC.keys (cat TV.cellsOf args)) []=keys at h;cases L:C.spec f with
 |none=>grind
 |some g=>
  rw[L]at h;dsimp only at h;split at h
  ·rename_i M;simp at M;split at h
   ·rename_i N I;split at h
    ·rename_i X O U;split at h
     ·simp at h;have e:=D.2.1 f g L G _ _ _ _ U;simp at e;rw[<-h.2,e];exact Q0i keys [] N rfl (by simpa using I) (λk V=>Au.1 M.1.2 k V)
     grind
    grind
   grind
  grind
def Zvx (X:AK P C) {di U:Option Tmp} {pi pj:Prim} {bx bx1 M:List (Nat×Box)} {aC:List (Nat×Row)} {vi vj:TV} (G:As (C:=C) di pi bx aC=some (vi,bx1)) (D:As (C:=C) U pj bx1 aC=some (vj,M))
  (hm:Prim.meet C.ro (some pi) (some pj)=false) (hd:∀t,di=some t->U≠some t) (a4:Prim.wf bx aC pj):
  ∃a2,As (C:=C) U pj bx aC=some (vj,a2)/\As (C:=C) di pi a2 aC=some (vi,M):=by
 have a5:∀{a b:Nat},Nat.beq a b=false->a≠b:=λh e=>by simp_all
 cases pi<;>simp only[As]at G<;>try (simp at G;done)
 case val v=>simp at G;obtain⟨rfl,rfl⟩:=G;exact⟨M,D,rfl⟩
 case newView e ks l=>simp at G;obtain⟨rfl,rfl⟩:=G;exact⟨M,D,rfl⟩
 case rload g sz id idx sub=>grind [As]
 case callD f args=>
  obtain⟨O,rfl,a1,_,hc⟩:=WT (C:=C) (d:=di) (f:=f) (args:=args) (aC:=aC) (by simpa only[As]using G);have I:=hc di bx λ_ _=>rfl;have a6:∀k∈Bi (cat AC.keys (cat TV.cellsOf args)) [],∃b,Ab bx k=some b:=Z98 (C:=C) (d:=di) (f:=f) (v:=vi) (aC:=aC) (by simpa only[As]using I);cases pj<;>simp only[As]at D<;>try (simp at D;done)
  case val v=>simp at D;obtain⟨rfl,rfl⟩:=D;exact⟨bx,rfl,I⟩
  case newView e ks l=>simp at D;obtain⟨rfl,rfl⟩:=D;exact⟨bx,rfl,I⟩
  case rload g sz id idx sub=>grind [As]
  case call f' a7=>
   obtain⟨rfl,b2⟩:=Nu (d:=U) D
   grind
  case load g sz k' o'=>
   cases b0:C.ro f
   case true=>grind [UJ,As]
   have V:k'∉Bi (cat AC.keys (cat TV.cellsOf args)) []:=λe=>by
    have:=FE.2 e;simp_all [Prim.meet]
   grind [NK,As]
  case store k' o' L=>
   have V:k'∉Bi (cat AC.keys (cat TV.cellsOf args)) []:=λe=>by grind [FE,Prim.meet]
   have a8:∀p∈O,k'≠nth 0 (Bi (cat AC.keys (cat TV.cellsOf args)) []) (p.1-base):=λp hp e=>V (by grind);rw[NK _ _ _ a8]at D;cases h2:Ab bx k' with
   |none=>grind
   |some b'=>
    rw[h2]at D;dsimp only at D;split at D
    ·rename_i Y;simp at D;obtain⟨rfl,rfl⟩:=D;refine⟨upd bx k' ⟨b'.ty,splice b'.cells o' L⟩,by simp only[As,h2,Y,ig],?_⟩
     grind [Dv,Qdj]
    grind
  case new ty L=>
   split at D
   ·rename_i d;split at D
    ·grind
    rename_i hn;simp at D;obtain⟨rfl,rfl⟩:=D;have a9:d∉Bi (cat AC.keys (cat TV.cellsOf args)) []:=λe=>by
     obtain⟨b,hb⟩:=a6 d e;obtain⟨b',a0⟩:=WJ (keys:=Bi (cat AC.keys (cat TV.cellsOf args)) []) O bx hb
     grind
    grind [NK,As,Ed,Qa6]
   grind
  case callD f' a7=>
   simp only[Prim.meet,Bool.not_eq_false',ak]at hm;have e1:=UJ X (d:=di) hm.1 (aC:=aC) I;rw[e1]at D I
   grind [UJ,As]
 case call f args=>
  obtain⟨rfl,hc⟩:=Nu (d:=di) G
  grind
 case load g sz key off=>
  cases N:Ab bx key with
  |none=>grind
  |some b=>
   rw[N]at G;dsimp only at G;cases h2:DO g sz b.cells off with
   |none=>grind
   |some v=>
    rw[h2]at G;simp at G;obtain⟨rfl,rfl⟩:=G;refine⟨M,D,?_⟩;have hl:Ab M key=some b:=by
     cases pj<;>simp only[As]at D<;>try (simp at D;done)
     case val=>grind
     case newView=>grind
     case rload=>grind
     case callD f args=>
      cases b0:C.ro f
      case true=>
       rw[UJ X (d:=U) b0 (aC:=aC) (args:=args) (v:=vj) (bx1:=M) (by simpa only[As]using D)];exact N
      obtain⟨O,rfl,a1,_,_⟩:=WT (C:=C) (d:=U) (f:=f) (args:=args) (aC:=aC) (by simpa only[As]using D);rw[NK _ _ _ λp hp e=>by
       have:=FE.2 (a1 p hp);simp_all [Prim.meet]]
      exact N
     case call=>grind
     case load=>grind
     case store k' o' L=>
      split at D
      ·split at D
       ·simp at D;rw[<-D.2,Dv _ _ _ _ (a5 hm)];exact N
       grind
      grind
     case new ty cs=>grind [Ed]
    grind [As]
 case store key off cs=>
  cases N:Ab bx key with
  |none=>grind
  |some b=>
   rw[N]at G;dsimp only at G;split at G
   ·rename_i hle;simp at G;obtain⟨rfl,rfl⟩:=G;cases pj<;>simp only[As]at D<;>try (simp at D;done)
    case val v=>simp_all [As]
    case newView e ks l=>simp_all [As]
    case rload g sz id idx sub=>
     obtain⟨rfl,hc⟩:=Z6z (C:=C) (d:=U) (by simpa only[As]using D);simp_all [As]
    case callD f args=>
     obtain⟨O,rfl,a1,_,hc⟩:=WT (C:=C) (d:=U) (f:=f) (args:=args) (aC:=aC) (by simpa only[As]using D);have V:key∉Bi (cat AC.keys (cat TV.cellsOf args)) []:=λe=>by grind [FE,Prim.meet]
     have a8:∀p∈O,key≠nth 0 (Bi (cat AC.keys (cat TV.cellsOf args)) []) (p.1-base):=λp hp e=>V (by grind);refine⟨_,hc U bx λk b3=>(Dv _ _ _ _ (by grind)).symm,?_⟩;simp only[As];rw[NK _ _ _ a8,N];simp only[hle,ig]
     grind [Qdj]
    case call f args=>
     obtain⟨rfl,hc⟩:=Nu (d:=U) D;simp_all [As]
    case load g sz k' o'=>
     have V:=a5 hm;rw[Dv _ _ _ _ (λe=>V e.symm)]at D;refine⟨bx,?_,?_⟩
     ·grind [As]
     have:M=upd bx key ⟨b.ty,splice b.cells off cs⟩:=by
      repeat' grind
      all_goals grind
     simp_all [As]
    case store k' o' L=>
     have V:=a5 hm;rw[Dv _ _ _ _ (λe=>V e.symm)]at D;cases h2:Ab bx k' with
     |none=>grind
     |some b'=>
      rw[h2]at D;dsimp only at D;split at D
      ·rename_i Y;simp at D;obtain⟨rfl,rfl⟩:=D;refine⟨upd bx k' ⟨b'.ty,splice b'.cells o' L⟩,by simp_all [As],?_⟩;simp only[As];rw[Dv _ _ _ _ V,N];simp only[hle,ig]
       grind [X4]
      grind
    case new ty L=>
     split at D
     ·rename_i d;split at D
      ·grind
      rename_i hn;simp at D;obtain⟨rfl,rfl⟩:=D;have a9:d≠key:=by
       rintro rfl;rw[E4 _ _ _ _ N]at hn;simp at hn
      rw[Dv _ _ _ _ a9]at hn;refine⟨ins bx d ⟨ty,L⟩,by grind [As],?_⟩;simp only[As];rw[Ed _ _ _ _ (λe=>a9 e.symm),N];simp_all [Uw]
     grind
   grind
 case new ty cs=>
  cases b1:di with
  |none=>grind
  |some d=>
   rw[b1]at G;dsimp only at G;cases N:Ab bx d with
   |some _=>grind
   |none=>
    rw[N]at G;simp at G;obtain⟨rfl,rfl⟩:=G;have a3:∀bb,Ab bb d=none->As (C:=C) (some d) (.new ty cs) bb aC=some (.c (.ptr d 0),ins bb d ⟨ty,cs⟩):=by
     intro bb hb;simp only[As,hb]
    cases pj<;>simp only[As]at D<;>try (simp at D;done)
    case val v=>simp at D;obtain⟨rfl,rfl⟩:=D;exact⟨bx,rfl,a3 bx N⟩
    case newView e ks l=>simp at D;obtain⟨rfl,rfl⟩:=D;exact⟨bx,rfl,a3 bx N⟩
    case rload g sz id idx sub=>grind [As]
    case callD f args=>
     obtain⟨O,rfl,a1,_,hc⟩:=WT (C:=C) (d:=U) (f:=f) (args:=args) (aC:=aC) (by simpa only[As]using D);have V:d∉Bi (cat AC.keys (cat TV.cellsOf args)) []:=λe=>by
      obtain⟨b,hb⟩:=Z6q a4 e
      grind
     grind [Ed,NK,Qa6]
    case call f args=>
     obtain⟨rfl,hc⟩:=Nu (d:=U) D
     grind
    case load g sz k' o'=>
     obtain⟨b',a0⟩:=a4
     grind [Ed,As]
    case store k' o' L=>
     obtain⟨⟨b',a0⟩,_⟩:=a4;have V:k'≠d:=by rintro rfl;rw[N]at a0;simp at a0
     rw[Ed _ _ _ _ V,a0]at D;dsimp only at D;split at D
     ·rename_i Y;simp at D;obtain⟨rfl,rfl⟩:=D;refine⟨upd bx k' ⟨b'.ty,splice b'.cells o' L⟩,by simp_all [As],?_⟩
      grind [Dv,Uw]
     grind
    grind [Ed,As,Qah]
end
open Go.RowKit
structure WFst (s : St) : Prop where
 t:∀v∈s.tmps,TV.wf s.aB s.aC v
 b:∀(k:Nat) (b:Box),Ab s.aB k=some b->∀a∈b.cells,AC.wf s.aB s.aC a
section
variable {P:Program} {C:Cfg} {w:World} {R:Type} {Z:Base}
def Ybj {d:Option Tmp} {f:FuncId} {args:List TV} {bx D:List (Nat×Box)} {aC:List (Nat×Row)} {v:TV} (h:As (C:=C) d (.call f args) bx aC=some (v,D)):TV.wf D aC v:=by
 simp only[As]at h;split at h
 ·split at h
  ·split at h
   ·split at h
    ·simp_all [JW]
    grind
   grind
  grind
 grind
def Q7w {bx:List (Nat×Box)} {aC:List (Nat×Row)}:∀(ks:List Kd) (cs:List AC) (j:Nat),∀c∈EZ ks cs j,AC.wf bx aC c
 |[],_,_,c,D=>by grind [EZ]
 |k::ks,cs,j,c,D=>by
  simp only[EZ,be]at D;rcases D with rfl|D
  ·cases k<;>try exact trivial
   generalize nth AC.vD cs j=b;cases b<;>exact trivial
  exact Q7w ks cs _ c D
theorem Q4w {α:Type}:∀(l:List (Nat×α)) (k:Nat) (x:α),Ab l k=none->Ab (upd l k x) k=none
 |[],_,_,_=>rfl
 |(j,c)::l,k,x,h=>by
  simp only[Ab]at h;cases hb:Nat.beq j k<;>rw[hb]at h
  ·simp only[upd,hb,bn,Ab];exact Q4w l k x h
  grind
def Qo3 {keys:List Nat}:∀(m:List (Nat×Box)) (l:List (Nat×Box)) {n:Nat} {b:Box},Ab (DH keys m l) n=some b->Ab l n=some b\/∃p∈m,p.2=b
 |[],_,_,_,h=> .inl h
 |(j,c)::m,l,n,b,h=>by
  rcases Qo3 m _ h with h|⟨p,D,e⟩
  ·by_cases e:n=nth 0 keys (j-base)
   ·subst e;cases G:Ab l (nth 0 keys (j-base))with
    |none=>grind [Q4w]
    |some y=>simp_all [E4]
   grind [Dv]
  grind
def Qp8 {d:Option Tmp} {f:FuncId} {args:List TV} {bx I:List (Nat×Box)} {aC:List (Nat×Row)} {v:TV} (h:As (C:=C) d (.callD f args) bx aC=some (v,I)):
  ∃D,I=DH (Bi (cat AC.keys (cat TV.cellsOf args)) []) D bx/\True/\v.plainB=true/\∀p∈D,Al AC.calm p.2.cells=true:=by
 simp only[As]at h
 repeat' split at h
 all_goals first|(simp at h;done)|skip
 rename_i L D _ G;obtain⟨rfl,rfl⟩:=h;simp at G;exact⟨D,rfl,trivial,G.2,Au.1 G.1.2⟩
theorem Yc0 {ops:List Oper} {o:Oper} {tm:List TV} {bx O:List (Nat×Box)} {aC:List (Nat×Row)} {p:Option Prim} {v:TV} (N:WFst ⟨tm,bx,aC⟩) (h:Dt P C ops o tm bx aC=some (p,v,O)):
  WFst ⟨tm,O,aC⟩/\TV.wf O aC v/\∀q,p=some q->Prim.wf bx aC q:=by
 unfold Dt at h;split at h
 ·cases X:opK P C (AL tm) o.dst o.op some with
  |none=>grind
  |some q=>
   rw[X]at h;simp only[aq]at h;have hq:=ZR (pre:=false) (Qbk (aB:=bx) (aC:=aC) (λx=>Qao N.t x) X);clear X;generalize q.dr false=q at h hq⊢;cases D:As (C:=C) o.dst q bx aC with
   |none=>grind
   |some z=>
    rw[D]at h;simp at h;obtain⟨rfl,rfl,rfl⟩:=h;have L:∀{U:List (Nat×Box)},(∀a,AC.wf bx aC a->AC.wf U aC a)->(∀(k:Nat) (b:Box),Ab U k=some b->∀a∈b.cells,AC.wf bx aC a)->WFst ⟨tm,U,aC⟩:=
     λI hb=>⟨λv Y=>TV.wf_mono I (N.t v Y),λk b G a D=>I a (hb k b G a D)⟩
    refine⟨?_,?_,λq' e=>by grind⟩;all_goals
     cases q<;>simp only[As]at D<;>try (simp at D;done)
    ·grind
    ·grind
    ·rename_i key off cs;split at D
     ·rename_i b hb;split at D
      ·simp at D;subst D;refine L (λa=>AC.wf_mono (λk bo V=>by grind [E4,Dv]) (λk r G=>⟨r,G,rfl,rfl⟩)) ?_;intro k bo G a I;by_cases M:k=key
       ·subst M;rw[E4 _ _ _ _ hb]at G;simp at G;subst G;rcases W9 _ _ _ I with I|I
        ·exact N.b k b hb a I
        exact hq.2 a I
       rw[Dv _ _ _ _ M]at G;exact N.b k bo G a I
      grind
     grind
    ·rename_i ty cs;split at D
     ·rename_i d hd;split at D
      ·grind
      rename_i hn;simp at D;subst D;refine L (λa=>AC.wf_mono (λk bo V=>⟨bo,by grind [Ed]⟩) (λk r G=>⟨r,G,rfl,rfl⟩)) ?_;intro k bo G a I;by_cases M:k=d
      ·subst M;rw[EU _ _ _ hn]at G;simp at G;subst G;exact hq a I
      rw[Ed _ _ _ _ M]at G;exact N.b k bo G a I
     grind
    ·grind
    ·grind
    ·grind
    ·rename_i f args;obtain⟨z1,z2⟩:=z;obtain⟨a0,rfl,a3,_,a2⟩:=Qp8 (C:=C) (d:=o.dst) (f:=f) (args:=args) (aC:=aC) (by simpa only[As]using D);refine L (λa=>AC.wf_mono (λk bo V=>WJ _ _ V) (λk r G=>⟨r,G,rfl,rfl⟩)) ?_;intro k bo G a I;rcases Qo3 _ _ G with G|⟨p,X,rfl⟩
     ·exact N.b k bo G a I
     grind [Qwo]
    ·simp at D;subst D;exact hq
    ·split at D
     ·rename_i b hb;split at D
      ·rename_i v Y;simp at D;subst D;exact SP Y (N.b _ b hb)
      grind
     grind
    ·repeat' split at D
     all_goals first|(simp at D;done)|(simp at D;subst D;trivial)
    ·rename_i ty cs;split at D
     ·rename_i d hd;split at D
      ·grind
      rename_i hn;simp at D;subst D;exact CJ ⟨_,EU _ _ _ hn⟩
     grind
    ·split at D
     ·rename_i r hr;split at D
      ·rename_i v Y;simp at D;subst D;exact SP Y λa I=>Q7w r.ks _ 0 a I
      grind
     grind
    ·simp at D;subst D;exact CJ trivial
    ·rename_i f args;exact Ybj (d:=o.dst) D
    rename_i f args;obtain⟨z1,z2⟩:=z;obtain⟨a0,_,_,a1,_⟩:=Qp8 (C:=C) (d:=o.dst) (f:=f) (args:=args) (aC:=aC) (by simpa only[As]using D);exact JW a1
 ·simp at h;obtain⟨rfl,rfl,rfl⟩:=h;exact⟨N,λp X=>by grind,λq e=>by grind⟩
 grind
theorem Qal {tm:List TV} {bx:List (Nat×Box)} {aC:List (Nat×Row)} {d:Option Tmp} {v:TV} (G:WFst ⟨tm,bx,aC⟩) (I:TV.wf bx aC v):WFst ⟨Dc tm d v,bx,aC⟩:=by
 cases d with
 |none=>exact G
 |some t=>
  refine⟨λu D=> ?_,G.b⟩;simp only[Dc,Jc]at D;rcases gn D with D|rfl
  ·exact G.t u D
  omega
def Zu1 {id:Nat} {bx:List (Nat×Box)} {k:Nat} {b:Box} (h:Ab (bx.map λp=>(p.1,p.2.kill id)) k=some b):∃b',Ab bx k=some b'/\b=b'.kill id:=by
 have:=FM (Box.kill id) bx k;rw[this]at h;simp at h
 grind
def Yt {bx:List (Nat×Box)} {aC D:List (Nat×Row)} {id:Nat} (U:∀j,j≠id->Ab D j=Ab aC j) {a:AC} (h:AC.wf bx aC a):AC.wf (bx.map λp=>(p.1,p.2.kill id)) D (a.kill id):=by
 have hb:∀k b,Ab bx k=some b->∃b',Ab (bx.map λp=>(p.1,p.2.kill id)) k=some b':=λk b V=>⟨b.kill id,by have:=FM (Box.kill id) bx k;grind⟩;have M:∀c,AC.wfP bx c->AC.wfP (bx.map λp=>(p.1,p.2.kill id)) c:=by
  intro c I;cases c<;>try exact trivial
  obtain⟨b,G⟩:=I;exact hb _ _ G
 cases a<;>try exact trivial
 case ptr k o=>
  obtain⟨b,G⟩:=h;exact hb _ _ G
 case bsl k o=>
  obtain⟨b,G⟩:=h;exact hb _ _ G
 case own j w n=>
  simp only[AC.kill];cases N:Nat.beq j id
  ·obtain⟨r,O,L⟩:=h;exact⟨r,by grind [Hh],L⟩
  exact trivial
 case rptr j a b=>
  simp only[AC.kill];cases N:Nat.beq j id
  ·obtain⟨r,O,L⟩:=h;exact⟨r,by grind [Hh],L⟩
  exact trivial
 case vptr cs sub=>exact h
 case clo f fs cs=>exact⟨λc I=>M c (h.1 c I),λc I=>M c (h.2 c I)⟩
def Z87 {dst:Option Tmp} {aC D:List (Nat×Row)} {p:Prim} {id:Nat} {v:TV} (I:La dst p=some id) (G:Lz dst aC p=some (v,D)):(∀j,j≠id->Ab D j=Ab aC j)/\TV.wf [] D v:=by
 cases p<;>simp[La]at I
 rename_i e ks bytes M x;cases M<;>simp at I
 case nilSl=>
  subst I;simp only[Lz,Qgz]at G
  repeat' split at G
  all_goals first|(simp at G;done)|skip
  rename_i hn _ _;obtain⟨rfl,rfl⟩:=G;refine⟨λj L=>Ed _ _ _ _ L,CJ ?_⟩;exact⟨_,EU _ _ _ hn,rfl,rfl⟩
 rename_i id' w n;subst I;simp only[Lz,Qcc]at G
 repeat' split at G
 all_goals first|(simp at G;done)|skip
 rename_i r N _ _;obtain⟨rfl,rfl⟩:=G;refine⟨λj L=>Dv _ _ _ _ L,CJ ?_⟩;exact⟨_,E4 _ _ _ _ N,rfl,rfl⟩
theorem Q09 {aC D:List (Nat×Row)}:∀{args:List TV},Al TV.plainB args=true->F1 aC args=F1 D args
 |[],_=>rfl
 |a::l,h=>by
  simp only[Al]at h;have I:a.plainB=true/\Al TV.plainB l=true:=by cases L:a.plainB<;>rw[L]at h<;>simp at h;exact⟨rfl,h⟩
  have e:a.res aC=a.res D:=by
   cases a with
   |vD=>rfl
   |tup ps=>rfl
   |v g cs=>
    simp only[TV.res];have:EV aC cs=EV D cs:=by
     have G:=I.1;simp only[TV.plainB]at G;clear h I;induction cs with
     |nil=>rfl
     |cons c cs O=>
      simp only[Al]at G;have M:c.plain=true/\Al AC.plain cs=true:=by cases N:c.plain<;>rw[N]at G<;>simp at G;exact⟨rfl,G⟩
      simp only[EV];have:c.res aC=c.res D:=by
       have:=M.1;cases c<;>simp[AC.plain]at this<;>rfl
      grind
    grind
  simp only[F1];rw[e,Q09 I.2]
def Z8g {dst:Option Tmp} {aC D:List (Nat×Row)} {p:Prim} {v:TV} (h:mkD (C:=C) dst p aC=some (v,D)):(∀j r,Ab aC j=some r->Ab D j=some r)/\TV.wf [] D v:=by
 unfold mkD at h;cases G:mkG (C:=C) dst p with
 |none=>grind
 |some q=>
  obtain⟨I,o⟩:=q;rw[G]at h;cases o with
  |none=>
   unfold mkG at G
   grind [JW]
  |some L=>
   dsimp only at h;split at h
   ·grind
   rename_i hn;obtain⟨rfl,rfl⟩:=h;refine⟨λj r' M=>by grind [Ed],?_⟩;unfold mkG at G;split at G
   ·split at G
    ·simp at G;obtain⟨rfl,rfl,rfl⟩:=G;exact CJ ⟨_,EU _ _ _ hn,rfl,rfl⟩
    grind
   ·split at G
    ·split at G
     ·split at G
      ·grind
      ·split at G
       ·simp at G;obtain⟨rfl,rfl,rfl⟩:=G;exact CJ ⟨_,EU _ _ _ hn,rfl,rfl⟩
       grind
      grind
     grind
    grind
   grind
def Ybu {ops:List Oper} {o:Oper} {s s':St} {p:Option Prim} (O:WFst s) (h:Co (P:=P) (C:=C) ops o s=some (p,s')):WFst s':=by
 obtain⟨tm,bx,aC⟩:=s;cases hn:Prim.isApp p
 ·cases U:Prim.isMk p
  case true=>
   obtain⟨_,q,v,I,_,rfl,V,rfl⟩:=Wa h U;obtain⟨M,X⟩:=Z8g V;have D:∀a,AC.wf bx aC a->AC.wf bx I a:=λa=>AC.wf_mono (λk b G=>⟨b,G⟩) (λk r G=>⟨r,M k r G,rfl,rfl⟩);exact Qal ⟨λu L=>TV.wf_mono D (O.t u L),λk b G a hm=>D a (O.b k b G a hm)⟩ (TV.wf_mono (λa D=>AC.wf_mono (λk b G=>by grind [Ab]) (λk r G=>⟨r,G,rfl,rfl⟩) D) X)
  grind [Ox,Yc0,Qal]
 obtain⟨_,q,id,v,I,_,rfl,h3,V,rfl⟩:=Qeo h hn;obtain⟨M,X⟩:=Z87 h3 V;refine Qal ⟨λu L=> ?_,λk b G a D=> ?_⟩ (TV.wf_mono (λa D=>AC.wf_mono (λk b G=>by grind [Ab]) (λk r G=>⟨r,G,rfl,rfl⟩) D) X)
 ·simp at L;obtain⟨u,L,rfl⟩:=L;have:=O.t u L;cases u with
  |vD=>trivial
  |v g cs=>
   intro a D;simp at D;obtain⟨c,N,rfl⟩:=D;exact Yt M (this c N)
  |tup ps=>
   intro p hp a D;simp only[bj]at hp;obtain⟨q,hq,rfl⟩:=hp;simp at D;obtain⟨c,N,rfl⟩:=D;exact Yt M (this q hq c N)
 obtain⟨b',Y,rfl⟩:=Zu1 G;simp only[Box.kill,bj]at D;obtain⟨c,N,rfl⟩:=D;exact Yt M (O.b k b' Y c N)
def Zjd {o:Op} {p:Option Prim} (h:Prim.still o p=true):Prim.isMk p=false:=by
 cases p with
 |none=>rfl
 |some q=>cases q<;>first|rfl|(cases o<;>simp[Prim.still,Prim.isLive,Prim.isPtr,Prim.isCallP,Prim.isLoad,Prim.isView]at h)
theorem Ydi {d:Option Tmp} {p:Prim} {bx G:List (Nat×Box)} {aC:List (Nat×Row)} {v:TV} (I:Prim.mkStill (some p)=true) (h:As (C:=C) d p bx aC=some (v,G)):
  G=bx/\∀D,As (C:=C) d p bx D=some (v,bx):=by
 cases p<;>simp[Prim.mkStill]at I
 case val u=>simp_all [As]
 case newView e ks l=>simp_all [As]
 case load g sz key off=>
  simp only[As]at h⊢
  grind
 case call f args=>
  obtain⟨rfl,_⟩:=Nu h
  grind [As,Q09]
 case newRow e ks l=>grind [As]
 grind [As]
def Zao {ops:List Oper} {o:Oper} {tm:List TV} {bx G:List (Nat×Box)} {aC:List (Nat×Row)} {p:Option Prim} {v:TV} (I:Prim.mkStill p=true) (h:Dt P C ops o tm bx aC=some (p,v,G)):
  G=bx/\∀D,Dt P C ops o tm bx D=some (p,v,bx):=by
 unfold Dt at h⊢;split at h
 ·cases L:opK P C (AL tm) o.dst o.op some with
  |none=>grind
  |some q=>
   cases M:As (C:=C) o.dst (q.dr false) bx aC with
   |none=>grind
   |some z=>grind [Ydi]
 ·grind
 grind
def Z49 {L M:Option Tmp} {N O:Prim} {aC G I:List (Nat×Row)} {X Y:TV} (U:mkD (C:=C) L N aC=some (X,G)) (hj:mkD (C:=C) M O G=some (Y,I)):
  ∃D,mkD (C:=C) M O aC=some (Y,D)/\mkD (C:=C) L N D=some (X,I):=by
 unfold mkD at*;cases V:mkG L N with
 |none=>grind
 |some qi=>
  obtain⟨v1,o1⟩:=qi;rw[V]at U;cases a0:mkG M O with
  |none=>grind
  |some qj=>
   obtain⟨v2,o2⟩:=qj;cases o1 with
   |none=>grind
   |some k1=>
    dsimp only at U;split at U
    ·grind
    rename_i hn;cases o2 with
    |none=>grind
    |some k2=>grind [EU,Ed,Qah]
def Z76 (b1:AK P C) {ops:Array Oper} {x y:Oper} {s s1 s2:St} {px py:Option Prim} (hw:WFst s) (hy:Co (P:=P) (C:=C) ops.toList y s=some (py,s1)) (hx:Co (P:=P) (C:=C) ops.toList x s1=some (px,s2))
  (b9:Oper.apart ops y x=true) (hm:Prim.meet C.ro py px=false) (G:I7 y py x px=true):∃b4,Co (P:=P) (C:=C) ops.toList x s=some (px,b4)/\Co (P:=P) (C:=C) ops.toList y b4=some (py,s2):=by
 obtain⟨a1,a2,a3⟩:=Oper.apart_spec b9;obtain⟨tm,bx,aC⟩:=s;have M:∀(o:Oper) (tm:List TV),o.guard.isNone=true->Ce ops.toList o tm=some true:=by
  intro o tm h;unfold Ce;rw[Option.isNone_iff_eq_none.1 h]
 have O:∀(o:Oper) (tm:List TV) (d:Option Tmp) (v:TV),(∀t,d=some t->t∉o.looksAt ops)->opK P C (AL (Dc tm d v)) o.dst o.op some=opK P C (AL tm) o.dst o.op some:=by
  intro o tm d v h;cases d with
  |none=>rfl
  |some t=>
   exact Mj (λx hx => Qsm (by
    rintro rfl;exact h t rfl (List.mem_append_left _ (List.mem_filterMap.2 ⟨.tmp t,by grind,rfl⟩)))) some
 cases U:Prim.isApp py
 case true=>
  unfold I7 at G;rw[U]at G;simp only[am,ak]at G;obtain⟨⟨⟨o1,o2⟩,o3⟩,o4⟩:=G;have V:Prim.isApp px=false:=by simpa using o1
  obtain⟨_,q,id,vy,a6,hq,rfl,h3,h4,rfl⟩:=Qeo hy U;obtain⟨vx,a9,D,rfl⟩:=Ox hx V (Zjd o4);unfold Dt at D;rw[M x _ o3]at D;dsimp only at D;rw[O x _ _ _ (λt X=>a1 t X)]at D;cases a7:opK P C (AL (tm.map (TV.kill id))) x.dst x.op some with
  |none=>grind
  |some qx=>
   rw[a7]at D;simp only[aq]at D;cases N:As (C:=C) x.dst (qx.dr false) (bx.map λp=>(p.1,p.2.kill id)) a6 with
   |none=>grind
   |some zx=>
    rw[N]at D;simp at D;obtain⟨rfl,rfl,rfl⟩:=D;obtain⟨vx,a9⟩:=zx;obtain⟨rfl,u,rfl,b5⟩:=(Q4j (bx:=bx) o4).2 N;have c2:=(Qry (P:=P) (C:=C) (id:=id) (tm:=tm) (dst:=x.dst) o4).1 a7;refine⟨⟨Dc tm x.dst u,bx,aC⟩,Qi (by grind [Dt]),?_⟩;rw[Q2y (M y _ o2) (by grind) h3 h4 U,Qxl]
    grind [P8]
 case false=>
 cases V:Prim.isApp px
 case true=>
  unfold I7 at G;rw[U,V]at G;simp only[am,bn,ak]at G;obtain⟨⟨o2,o3⟩,o4⟩:=G;obtain⟨vy,b2,I,rfl⟩:=Ox hy U (Zjd o4);obtain⟨_,q,id,vx,a6,hq,rfl,h3,h4,rfl⟩:=Qeo hx V;rw[O x _ _ _ (λt X=>a1 t X)]at hq;unfold Dt at I;rw[M y _ o2]at I;dsimp only at I;cases b0:opK P C (AL tm) y.dst y.op some with
  |none=>grind
  |some qy=>
   rw[b0]at I;simp only[aq]at I;cases a4:As (C:=C) y.dst (qy.dr false) bx aC with
   |none=>grind
   |some zy=>
    rw[a4]at I;simp at I;obtain⟨rfl,rfl,rfl⟩:=I;obtain⟨vy,b2⟩:=zy;obtain⟨rfl,b5⟩:=(Q4j (id:=id) (bx:=bx) o4).1 a4;have b6:=(Qry (P:=P) (C:=C) (id:=id) (tm:=tm) (dst:=y.dst) o4).2 b0;refine⟨_,Q2y (M x _ o3) hq h3 h4 V,?_⟩;rw[Qi (p:=some (qy.dr false)) (v:=vy.kill id) (by unfold Dt;rw[M y _ o2];dsimp only;rw[O y _ _ _ (λt X=>a3 t X),b6];simp only[aq];rw[b5];rfl)]
    grind [Qxl,P8]
 case false=>
   unfold I7 at G;rw[U,V]at G;simp only[bn]at G;cases Y:Prim.isMk py
   case true=>
    rw[Y]at G;simp only[am]at G;obtain⟨c0,qy,vy,c1,c3,rfl,a4,rfl⟩:=Wa hy Y;cases L:Prim.isMk px
    case true=>
     obtain⟨a5,qx,vx,b3,a8,rfl,N,rfl⟩:=Wa hx L;rw[RT (λt X=>a1 t X)]at a5;rw[O x _ _ _ (λt X=>a1 t X)]at a8;obtain⟨b8,m1,m2⟩:=Z49 a4 N;refine⟨_,VK a5 a8 m1 L,?_⟩
     grind [VK,RT,P8]
    case false=>
     obtain⟨vx,a9,D,rfl⟩:=Ox hx V L;rw[VQ (λt X=>a1 t X)]at D;obtain⟨rfl,b7⟩:=Zao G D;refine⟨_,Qi (b7 aC),?_⟩
     grind [VK,RT,P8]
   case false=>
   rw[Y]at G;simp only[bn]at G;cases L:Prim.isMk px
   case true=>
    rw[L]at G;simp only[am]at G;obtain⟨vy,b2,I,rfl⟩:=Ox hy U Y;obtain⟨rfl,b7⟩:=Zao G I;obtain⟨a5,qx,vx,b3,a8,rfl,N,rfl⟩:=Wa hx L;rw[RT (λt X=>a1 t X)]at a5;rw[O x _ _ _ (λt X=>a1 t X)]at a8;refine⟨_,VK a5 a8 N L,?_⟩
    grind [Qi,VQ,P8]
   case false=>
   obtain⟨vy,b2,I,rfl⟩:=Ox hy U Y;obtain⟨vx,a9,D,rfl⟩:=Ox hx V L;rw[VQ (λt X=>a1 t X)]at D;have key:∃a0,Dt P C ops.toList x tm bx aC=some (px,vx,a0)/\Dt P C ops.toList y tm a0 aC=some (py,vy,a9):=by
    unfold Dt at I D⊢;split at I
    ·rename_i c0;cases b0:opK P C (AL tm) y.dst y.op some with
     |none=>grind
     |some qy=>
      rw[b0]at I;simp only[aq]at I;cases a4:As (C:=C) y.dst (qy.dr false) bx aC with
      |none=>grind
      |some zy=>
       rw[a4]at I;simp at I;obtain⟨rfl,rfl,rfl⟩:=I;split at D
       ·rename_i a5;cases a7:opK P C (AL tm) x.dst x.op some with
        |none=>grind
        |some qx=>
         rw[a7]at D;simp only[aq]at D;cases N:As (C:=C) x.dst (qx.dr false) zy.2 aC with
         |none=>grind
         |some zx=>
          rw[N]at D;simp at D;obtain⟨rfl,rfl,rfl⟩:=D;obtain⟨a0,m1,m2⟩:=Zvx b1 a4 N hm a2 (ZR (Qbk (λx=>Qao hw.t x) a7))
          grind
       ·grind
       grind
    ·grind
    grind
   obtain⟨a0,k1,k2⟩:=key;refine⟨⟨Dc tm x.dst vx,a0,aC⟩,Qi k1,?_⟩
   grind [Qi,VQ,P8]
def Qme (D:AK P C) {ops:Array Oper} {m:List Nat} {x:Nat×Oper×Option Prim} {post:List (Nat×Oper×Option Prim)} {M:St}:∀(pre:List (Nat×Oper×Option Prim)) (s:St),WFst s->Ta P C ops.toList m (pre++x::post) s M->
  (∀y∈pre,Dy ops.toList m x.1=false/\Dy ops.toList m y.1=false/\Oper.apart ops y.2.1 x.2.1=true/\Prim.meet C.ro y.2.2 x.2.2=false/\I7 y.2.1 y.2.2 x.2.1 x.2.2=true)->
  ∃s1,IV P C ops.toList m x.1 x.2.1 s=some (x.2.2,s1)/\Ta P C ops.toList m (pre++post) s1 M
 |[],s,I,h,_=>by
  exact h
 |(j,O,U)::pre,s,I,h,N=>by
  obtain⟨V,G,X⟩:=h;obtain⟨w1,w2,Y,q2,q3⟩:=N (j,O,U) (by simp);unfold IV at G;rw[ab (by grind)]at G;obtain⟨s2,L,h4⟩:=Qme D pre V (Ybu I G) X λy a0=>N y (by grind);unfold IV at L;rw[ab (by grind)]at L;obtain⟨s1,h5,h6⟩:=Z76 D I G L Y q2 q3;refine⟨s1,by simp_all [IV],s2,?_,h4⟩;simp_all [IV]
inductive Before (ops : List Oper) : Nat -> Nat -> Prop where
 |one {i:Nat} {o:Oper} {e:Edge} (h:ops[i]? =some o) (he:e∈o.after.toList) (hb:Region.binds .any e=true):Before ops i e.on
 |more {i j:Nat} {o:Oper} {e:Edge} (h:ops[i]? =some o) (he:e∈o.after.toList) (hb:Region.binds .any e=true) (h':Before ops e.on j):Before ops i j
def Qf0 {m:List Nat} {j:Nat}:∀(l:List Edge) (acc:Nat),Nat.testBit (Um m l acc) j=true->Nat.testBit acc j=true\/∃e∈l,Region.binds .any e=true/\(e.on=j\/Nat.testBit (nth 0 m e.on) j=true)
 |[],acc,h=> .inl h
 |e::l,acc,h=>by
  simp only[Um]at h;cases hb:Region.binds .any e<;>rw[hb]at h
  ·rcases Qf0 l _ h with h|⟨D,he,h'⟩
   ·grind
   grind
  rcases Qf0 l _ h with h|⟨D,he,h'⟩
  ·simp only[am]at h;have:Nat.testBit (acc|||(2^e.on|||nth 0 m e.on)) j=true:=h
   grind
  grind
theorem Zxs {α:Type} (n:Nat) (K:Nat->α):Zff n K=K n:=by cases n<;>rfl
theorem Qsz {α:Type} (d:α):∀(l D:List α) (i:Nat),i<l.length->nth d (l++D) i=nth d l i
 |x::l,D,0,_=>rfl
 |x::l,D,i+1,h=>Qsz d l D i (by grind)
theorem Qnp {α:Type} (d x:α):∀(l:List α),nth d (l++[x]) l.length=x
 |[]=>rfl
 |y::l=>Qnp d x l
theorem Qgw {α:Type} (d:α):∀(l:List α) (i:Nat),l.length<=i->nth d l i=d
 |[],_,_=>rfl
 |x::l,0,h=>by grind
 |x::l,i+1,h=>Qgw d l i (by grind)
def Q1d {ops:List Oper} {K:List Nat->Option R} {r:R}:∀(l pre:List Oper) (m:List Nat),ops=pre++l->m.length=pre.length->(∀i j,i<m.length->Nat.testBit (nth 0 m i) j=true->Before ops i j)->Vq l m K=some r->
  ∃V,K V=some r/\∀i j,Nq V i j=true->Before ops i j
 |[],pre,m,he,X,M,h=>⟨m,h,λi j D=>by
   by_cases N:i<m.length
   ·exact M i j N D
   grind [Nq,Qgw]⟩
 |o::l,pre,m,he,X,M,h=>by
  simp only[Vq,Zxs,A8]at h;refine Q1d l (pre++[o]) _ (by grind) (by grind) (λi j N D=> ?_) h;by_cases Y:i<m.length
  ·grind [Qsz]
  have O:i=m.length:=by simp at N;omega
  subst O;rw[Qnp]at D;have I:ops[m.length]? =some o:=by rw[he,X];simp
  rcases Qf0 _ _ D with G|⟨e,L,hb,G⟩
  ·grind
  rcases G with G|G
  ·rw[<-G];exact .one I L hb
  by_cases U:e.on<m.length
  ·exact .more I L hb (M _ _ U G)
  grind [Qgw]
end
open Go.RowKit
section
variable {P:Program} {C:Cfg} {w:World} {R:Type} {Z:Base}
def Z4o (I:AK P C) {ops:List Oper} {o:Oper} {s D:St} {p:Option Prim} (h:Co (P:=P) (C:=C) ops o s=some (p,D)) (hs:Prim.simple p=true) (K:Option Prim->St->Option R):
  FC P C false ops o s K=K p D:=by
 have O:∀s1:St,s1=s->Ce ops o s.tmps=some true->(opK P C (AL s1.tmps) o.dst o.op λp=>Bb C o.dst (p.dr false) s1 λv D=>put D o.dst v (K (some (p.dr false))))=K p D:=by
  rintro s1 rfl L;unfold Co at h;rw[RS];cases U:opK P C (AL s1.tmps) o.dst o.op some with
  |none=>grind
  |some q=>
   rw[U]at h;cases hm:Fb (C:=C) o.dst (q.dr false) s1 with
   |none=>grind
   |some z=>grind [Zag,NN]
 have M:∀s1:St,s1=s->Ce ops o s.tmps=some false->put s1 o.dst (.tup []) (K none)=K p D:=by
  rintro s1 rfl L;unfold Co at h;rw[L]at h;simp at h;obtain⟨rfl,rfl⟩:=h;rw[NN]
 unfold FC Rc;cases V:o.guard with
 |none=>simp_all [Ce]
 |some X=>
  obtain⟨j,want⟩:=X;dsimp only;cases Y:ops[j]? with
  |none=>grind [Co,Ce]
  |some oj=>
   dsimp only;cases ht:oj.dst with
   |none=>grind [Co,Ce]
   |some t=>
    dsimp only;split
    ·rename_i g G;have L:Ce ops o s.tmps=some (g==want):=by simp only[Ce,V,Y,ht,G]
     have N:∀b,g=b->(⟨setL s.tmps t (.c (.bool b)),s.aB,s.aC⟩:St)=s:=by
      rintro b rfl;rw[Zak G (by simp)]
     cases g
     ·simp;rw[FN];dsimp only;cases want
      ·grind
      grind
     simp;rw[FN];dsimp only;cases want
     ·grind
     grind
    ·simp_all [Ce]
    simp_all [Ce,Co]
theorem Rel.wf {s:St} {tmps:Array Value} (h:Rel Z s tmps w):WFst s:=by
 obtain⟨ρ,h⟩:=h;exact⟨h.wt,h.wb⟩
structure Left (P : Program) (C : Cfg) (ops : Array Oper) (m : List Nat) (listed : Array Bool) (rem : List (Nat × Oper × Option Prim)) : Prop where
 sz:listed.size=ops.size
 op:∀x∈rem,ops[x.1]? =some x.2.1/\(Dy ops.toList m x.1||Prim.simple x.2.2)=true/\∀e∈x.2.1.after,Region.binds .any e=true->e.on<x.1
 out:∀i,i<ops.size->(listed.getD i true=false↔∃x∈rem,x.1=i)
 ord:(rem.map (·.1)).Pairwise (· < ·)
 cl:∀j o,ops[j]? =some o->listed.getD j false=true->∀e∈o.after,Region.binds .any e=true->listed.getD e.on false=true
 pr:∀pre x post,rem=pre++x::post->∀y∈pre,Before ops.toList x.1 y.1\/(Dy ops.toList m x.1=false/\Dy ops.toList m y.1=false/\Oper.apart ops y.2.1 x.2.1=true/\Prim.meet C.ro y.2.2 x.2.2=false/\I7 y.2.1 y.2.2 x.2.1 x.2.2=true)
def Q60 (L:AK P C) (a4:∀t∈C.eqOk,P.stoodInHeld t=false) {ops:Array Oper} {m:List Nat} {Q:Exit->Act->World->Prop} {sf:St} {d0:List Deferred}
  (hq:∀(a:Act) (w:World),Rel Z sf a.tmps w->a.defers=d0->Q .normal a w):
  ∀(fuel:Nat) (listed:Array Bool) (rem:List (Nat×Oper×Option Prim)) (s:St) (a:Act) (w:World),rem.length=fuel->Left P C ops m listed rem->Ta P C ops.toList m rem s sf->WFst s->Rel Z s a.tmps w->a.defers=d0->
  wpAny P .any ops Q fuel listed a w
 |0,listed,rem,s,a,w,hl,I,N,a5,hR,hd=>by
  have hr:rem=[]:=jn hl;subst hr;have:s=sf:=N;subst this;refine⟨?_,hq a w hR hd⟩;apply List.eq_nil_iff_forall_not_mem.2;intro i hi;obtain⟨h1,o,h2,_⟩:=mem_ready.1 hi;obtain⟨x,hx,_⟩:=(I.out i (dt.1 h2).1).1 h1
  grind
 |fuel+1,listed,rem,s,a,w,hl,I,N,a5,hR,hd=>by
  refine⟨λc3=> ?_,λi hi=> ?_⟩
  ·exfalso;cases rem with
   |nil=>grind
   |cons x rem=>
    obtain⟨h1,_,h2⟩:=I.op x (by simp);have V:x.1<ops.size:=(dt.1 h1).1;have:x.1∈Region.ready .any ops listed:=by
     refine mem_ready.2 ⟨(I.out x.1 V).2 ⟨x,by simp,rfl⟩,x.2.1,h1,λe he hb=> ?_⟩;have c4:=h2 e he hb;cases hle:listed.getD e.on false with
     |true=>rfl
     |false=>
      have Y:e.on<listed.size:=by rw[I.sz];omega
      have:listed.getD e.on true=false:=by
       rw[Array.getD,dif_pos Y]at hle⊢;exact hle
      obtain⟨y,D,c7⟩:=(I.out e.on (by omega)).1 this
      grind [I.ord,List.pairwise_cons]
    grind
  obtain⟨h1,o,h2,h3⟩:=mem_ready.1 hi;have a6:i<ops.size:=(dt.1 h2).1;obtain⟨x,hx,b0⟩:=(I.out i a6).1 h1;subst b0;obtain⟨a7,b1,c8⟩:=I.op x hx;have b2:o=x.2.1:=by rw[h2]at a7;simpa using a7
  subst b2;obtain⟨pre,post,G⟩:=List.append_of_mem hx;have a8:∀y∈rem,listed.getD y.1 false=false:=by
   intro y D;have V:y.1<ops.size:=(dt.1 (I.op y D).1).1;have:=(I.out y.1 V).2 ⟨y,D,rfl⟩;have Y:y.1<listed.size:=by rw[I.sz];exact V
   rw[Array.getD,dif_pos Y]at this⊢;exact this
  have a0:∀y∈pre,Dy ops.toList m x.1=false/\Dy ops.toList m y.1=false/\Oper.apart ops y.2.1 x.2.1=true/\Prim.meet C.ro y.2.2 x.2.2=false/\I7 y.2.1 y.2.2 x.2.1 x.2.2=true:=by
   intro y D;rcases I.pr pre x post G y D with hr|hr
   ·exfalso;have c9:=a8 y (by grind);have c5:∀(i j:Nat),Before ops.toList i j->(∀oi,ops[i]? =some oi->∀e∈oi.after,Region.binds .any e=true->listed.getD e.on false=true)->listed.getD j false=true:=by
     intro i j b3;induction b3 with
     |one ho he hb=>grind
     |more ho he hb _ ih=>
      intro b4;have b5:=b4 _ (by simpa using ho) _ (by grind) hb;exact ih λoe b6 e2 b7 b8=>I.cl _ oe b6 b5 e2 b7 b8
    grind
   exact hr
  rw[G]at N;obtain⟨s1,a1,a2⟩:=Qme L pre s a5 N a0;have hex:∃b,FC P C b ops.toList x.2.1 s (λpo s'=>(some (po,s'):Option (Option Prim×St)))=some (x.2.2,s1):=by
   unfold IV at a1;cases hw:Dy ops.toList m x.1
   ·rw[ab (by grind)]at a1;rw[hw]at b1;exact⟨false,Z4o L a1 (by grind) _⟩
   grind
  obtain⟨b,hex⟩:=hex;have d1 := Y5 (Q := Q) (next := wpAny P .any ops Q fuel (listed.setIfInBounds x.1 true)) L a4 hR hex (λpo s' a' w' hK a9 b9 => by
   simp at hK;obtain⟨rfl,rfl⟩:=hK;refine Q60 L a4 hq fuel _ (pre++post) _ a' w' ?_ ?_ a2 a9.wf a9 (b9.trans hd)
   ·grind
   have X:∀y,y∈pre++post->y∈rem:=by
    intro y D;rw[G];simp at D⊢;rcases D with D|D<;>simp[D]
   have c0:∀y∈pre++post,y.1≠x.1:=by
    intro y D;have U:=I.ord;rw[G]at U;simp only[d8,bz,List.pairwise_append,List.pairwise_cons]at U;obtain⟨o1,⟨o2,o3⟩,o4⟩:=U;simp at D;rcases D with D|D
    ·have:=o4 y.1 (List.mem_map_of_mem D) x.1 (by simp);omega
    grind [List.mem_map_of_mem]
   have hg:∀(j:Nat) (d:Bool),(listed.setIfInBounds x.1 true).getD j d=if j=x.1 then true else listed.getD j d:=by
    intro j d;by_cases hj:j=x.1
    ·simp_all [I.sz]
    rw[ab hj];exact getD_set_ne d (λe=>hj e.symm)
   refine⟨by grind [I.sz],λy D=>I.op y (X y D),λj hj=> ?_,?_,?_,?_⟩
   ·rw[hg];constructor
    ·intro hh;split at hh
     ·grind
     rename_i d2;obtain⟨y,D,d3⟩:=(I.out j hj).1 hh
     grind
    rintro⟨y,D,rfl⟩;rw[ab (c0 y D)];exact(I.out y.1 hj).2 ⟨y,X y D,rfl⟩
   ·grind [I.ord]
   ·intro j oj hj a3 e he hb;rw[hg]at a3⊢;split
    ·rfl
    split at a3
    ·grind
    exact I.cl j oj hj a3 e he hb
   intro c6 z c1 c2 y D
   have:∃O M,rem=O++z::M/\y∈O:=by
    rcases List.append_eq_append_iff.1 c2 with⟨as,e1,e2⟩|⟨bs,e1,e2⟩
    ·
     grind
    cases bs with
    |nil=>grind
    |cons b bs=>grind
   obtain⟨O,M,q1,q2⟩:=this;exact I.pr O z M q1 y q2)
  unfold wpOp
  grind
end
open Go.RowKit
section
variable {P:Program} {C:Cfg} {w:World} {R:Type} {Z:Base}
def Ya7 {c a:Bool} (h:(bif c then a else false)=true):c=true/\a=true:=by grind
def Zda {ops:Array Oper} {m:List Nat}:∀(ps D:List (Nat×Oper×Option Prim)) (i:Nat),ps.map (·.1)=List.range' i ps.length->KE C ops m i D (ps.map (·.2))=true->
  ∀pre x post,ps=pre++x::post->(Dy ops.toList m x.1||Prim.simple x.2.2)=true/\(∀e∈x.2.1.after,Region.binds .any e=true->e.on<x.1)/\
   ∀y∈D++pre,Nq m x.1 y.1=true\/(Dy ops.toList m x.1=false/\Dy ops.toList m y.1=false/\Oper.apart ops y.2.1 x.2.1=true/\Prim.meet C.ro y.2.2 x.2.2=false/\I7 y.2.1 y.2.2 x.2.1 x.2.2=true)
 |[],D,i,_,_,pre,x,post,h=>by grind
 |(j,o,p)::ps,D,i,G,I,pre,x,post,h=>by
  simp only[bz,gh,List.range'_succ,gf]at G;obtain⟨rfl,G⟩:=G;simp only[bz,KE]at I;generalize L:((Dy ops.toList m j||Prim.simple p)&&o.after.toList.all (λe=> !(Region.binds .any e)||Nat.blt e.on j)&&Al (λy:Nat×Oper×Option Prim=>Nq m j y.1||(!(Dy ops.toList m j)&& !(Dy ops.toList m y.1)&&(Oper.apart ops y.2.1 o&& !(Prim.meet C.ro y.2.2 p)&&I7 y.2.1 y.2.2 o p))) D)=c at I;cases c
  ·grind
  simp only[am]at I;simp only[ak]at L;obtain⟨⟨N,O⟩,U⟩:=L;cases pre with
  |nil=>
   simp at h;obtain⟨rfl,rfl⟩:=h;refine⟨N,λe he hb=> ?_,λy M=> ?_⟩
   ·have:=List.all_eq_true.1 O e (by grind);simp_all
   simp at M;have:=Au.1 U y M
   grind
  |cons q pre=>
   simp at h;obtain⟨rfl,rfl⟩:=h;obtain⟨V,X,Y⟩:=Zda (pre++x::post) (D++[(j,o,p)]) (j+1) G I pre x post rfl
   grind
def Qlh {ops:Array Oper} {m:List Nat}:∀(l:List (Oper×Option Prim)) (D:List (Nat×Oper×Option Prim)) (i:Nat),KE C ops m i D l=true->∀(j:Nat) (q:Oper×Option Prim),l[j]? =some q->(Dy ops.toList m (i+j)||Prim.simple q.2)=true
 |[],_,_,_,j,q,G=>by grind
 |(o,p)::l,D,i,h,j,q,G=>by
  simp only[KE]at h;obtain⟨I,h⟩:=Ya7 h;simp only[ak]at I;cases j with
  |zero=>grind
  |succ j=>
   rw[show i+(j+1)=i+1+j from by omega];exact Qlh l _ _ h j q (by grind)
def Rel.drew {s:St} {tmps:Array Value} (h:Rel Z s tmps w):Rel Z s tmps {w with drawn:=w.drawn+1}:=by
 obtain⟨ρ,h⟩:=h;have D:∀(a:AC) (x:Value),CC ρ w a x->CC ρ {w with drawn:=w.drawn+1} a x:=λa x G=>CC.mono (w:=w) (w':={w with drawn:=w.drawn+1}) (λ_ h=>h) (λ_ _=>rfl) a x (AC.agree_refl rfl rfl rfl a) G;refine⟨ρ,h.tl,λi v N=>TVR.mono D v _ (h.tv i v N),h.wt,h.wb,?_,h.bi,?_,h.ri,h.br,h.ib,h.fr.drew,h.fs,h.i0,h.i1,h.k0⟩
 ·intro k b O;obtain⟨arr,I,L,M⟩:=h.bx k b O;exact⟨arr,I,L.mono λa _ x G=>D a x G,M⟩
 intro id r U;obtain⟨I,L,V,xs,M,X⟩:=h.ro id r U;exact⟨I,L,V,xs,OA M (λ_ _=>rfl),RowC.mono (w:=w) (λ_ h=>h) (λ_ _=>rfl) X⟩
def Zsb (D:AK P C) (I:∀t∈C.eqOk,P.stoodInHeld t=false) (L:P.follows .mixedOrders=true) {id:Nat} {ops:Array Oper} {draw:Bool} {s:St} {a:Act} (X:Rel Z s a.tmps w) {K:St->Option R} {r:R}
  (h:Z3 P C ops draw s K=some r) {Q:Exit->Act->World->Prop} (hq:∀(s':St) (M:Act) (w':World),K s'=some r->Rel Z s' M.tmps w'->M.defers=a.defers->Q .normal M w'):
  (Code.region id ops draw).wp P Q a w:=by
 cases draw
 ·exact wp_region_list (Qgu D I _ s a w X h hq)
 simp only[Z3,am]at h;refine wp_region_any L ?_;obtain⟨m,h,hm⟩:=Q1d (ops:=ops.toList) ops.toList [] [] rfl rfl (λi j hi=>by grind) h;rcases Qam D ops.toList 0 s _ r h with⟨ps,sf,U,Y,q3,q4⟩|⟨acc,sf,U,j,q,Y,q3⟩
 ·cases hd:KE C ops m 0 [] (ps.map (·.2))<;>rw[hd]at q4
  ·grind
  simp only[am]at q4;have hlen:ps.length=ops.size:=by have:=ij List.length U;simpa using this
  have G:ps.map (·.1)=List.range' 0 ps.length:=by rw[Y];simp[hlen]
  have a0:=Zda ps [] 0 G hd;have N:∀(i:Nat) (x:Nat×Oper×Option Prim),ps[i]? =some x->x.1=i/\ops[i]? =some x.2.1:=by
   intro i x V;have h1:(ps.map (·.1))[i]? =some x.1:=by simp[V]
   have h2:(ps.map (·.2.1))[i]? =some x.2.1:=by simp[V]
   rw[G,List.getElem?_range']at h1;rw[U]at h2
   ·grind
   grind
  refine Q60 D I (m:=m) (sf:=sf) (d0:=a.defers) (λM w' a1 a2=>hq sf M w' q4 a1 a2) ops.size _ ps s a _ hlen ?_ q3 X.wf X.drew rfl;refine⟨by simp,λx V=> ?_,λi hi=> ?_,?_,?_,?_⟩
  ·obtain⟨pre,post,hs⟩:=List.append_of_mem V
   grind
  ·constructor
   ·intro _;have O:i<ps.length:=by omega
    exact⟨ps[i],dl O,(N i ps[i] (an O)).1⟩
   intro _;simp[Array.getD,hi]
  ·grind [List.pairwise_lt_range']
  ·simp[Array.getD]
  intro pre x post hs y hy;rcases(a0 pre x post hs).2.2 y (by grind)with h1|h1
  ·grind
  grind
 cases hd:KE C ops m 0 [] acc<;>rw[hd]at U
 ·grind
 have:=Qlh acc [] 0 hd j q Y
 grind
def Mb:Ex->Exit
 | .normal=> .normal
 | .exit id=> .exit id
 | .ret=> .ret
def Lc (Z:Base) (K:Ex->St->Option R) (r:R) (d:List Deferred):Exit->Act->World->Prop:=
 λe a w=>∃D s,Mb D=e/\K D s=some r/\Rel Z s a.tmps w/\a.defers=d
def Zlv {step:St->(Ex->St->Option R)->Option R} {body:Code} {K:Ex->St->Option R} {r:R} {d:List Deferred}
  (D:∀(s:St) (a:Act) (w:World) (N:Ex->St->Option R),Rel Z s a.tmps w->a.defers=d->step s N=some r->body.wp P (Lc Z N r d) a w):
  ∀(n:Nat) (s:St) (a:Act) (w:World),Rel Z s a.tmps w->a.defers=d->Ri P C step n s K=some r->Code.rounds P body (Lc Z K r d) n a w
 |0,s,a,w,O,hd,h=>by grind [Ri]
 |n+1,s,a,w,O,hd,h=>by
  rw[Ri]at h;rw[rounds_succ];refine wp_mono (D s a w _ O hd h) ?_;rintro e U w' ⟨V,s2,rfl,L,G,I⟩;cases V with
  |normal=>
   obtain⟨X,Y,M⟩:=Oa G L;exact Zlv D n X U w' M I Y
  |exit id=>exact⟨.exit id,s2,rfl,L,G,I⟩
  |ret=>exact⟨.ret,s2,rfl,L,G,I⟩
def InZ (Z:Base):Prop:=∀k b,Z.K0 k=some b->D8 k=true
def Lu (P:Program) (c:Code) (sk:Sk) (g:Jw):Prop:=
 ∀(Z:Base) (_:InZ Z) (a:Act) (w:World) (vars:List AC) (R:Type) (K:Ex->St->Option R) (r:R),Rel Z (AG sk vars) a.tmps w->g R vars K=some r->c.wp P (Lc Z K r a.defers) a w
structure SubOK (P : Program) (C : Cfg) (c : Code) (blk : Nat) : Prop where
 l:∀p∈A5 c blk,∀sk g,C.loops p.1=some (sk,g)->Lu P (.loop p.2) sk g
 b:∀p∈CF c,∀sk g,C.blocks p.1=some (sk,g)->Lu P (.block p.1 p.2) sk g
 c:∀p∈BO c blk,∀sk g,C.conds p.1=some (sk,g)->Lu P (.cond (.tmp p.1) p.2.2.1 p.2.2.2) sk g
theorem Jx:∀(c:Code) (b b':Nat),A5 c b=A5 c b'
 | .seq x y,b,b'=>by simp only[A5,Jx x b b',Jx y b b']
 | .cond _ x y,b,b'=>by simp only[A5,Jx x b b',Jx y b b']
 | .block _ x,b,b'=>by simp only[A5,Jx x b b']
 | .loop x,b,b'=>by simp only[A5,Jx x b b']
 | .skip,_,_=>rfl
 | .region _ _ _,_,_=>rfl
 | .exit _,_,_=>rfl
 | .ret,_,_=>rfl
 | .rangeFunc _ _ _ _,_,_=>rfl
 | .scope x,b,b'=>by simp only[A5,Jx x b b']
 | .label _,_,_=>rfl
 | .goto _,_,_=>rfl
 | .refuse _,_,_=>rfl
theorem J9:∀(c:Code) (b b':Nat),BO c b=BO c b'
 | .seq x y,b,b'=>by simp only[BO,J9 x b b',J9 y b b']
 | .cond c x y,b,b'=>by cases c<;>simp only[BO,J9 x b b',J9 y b b']
 | .block _ x,b,b'=>by simp only[BO,J9 x b b']
 | .loop x,b,b'=>by simp only[BO,J9 x b b']
 | .skip,_,_=>rfl
 | .region _ _ _,_,_=>rfl
 | .exit _,_,_=>rfl
 | .ret,_,_=>rfl
 | .rangeFunc _ _ _ _,_,_=>rfl
 | .scope x,b,b'=>by simp only[BO,J9 x b b']
 | .label _,_,_=>rfl
 | .goto _,_,_=>rfl
 | .refuse _,_,_=>rfl
def SubOK.any {c:Code} (b:Nat) {b':Nat} (h:SubOK P C c b):SubOK P C c b':=
 ⟨λp D=>h.l p (by grind [Jx]),h.b,λp D=>h.c p (by grind [J9])⟩
def Qcq {c:Code} {told:Option (Sk×Jw)} {s:St} {a:Act} {K:Ex->St->Option R} {r:R} {d:List Deferred} {run:Option R} (I:InZ Z)
  (N:∀sk g,told=some (sk,g)->Lu P c sk g) (D:Rel Z s a.tmps w) (hd:a.defers=d) (h:LK told s K run=some r) (L:run=some r->c.wp P (Lc Z K r d) a w):c.wp P (Lc Z K r d) a w:=by
 unfold LK at h;split at h
 ·grind
 rename_i sk g;obtain⟨G,M⟩:=BY h;split at M
 ·rename_i vars O;obtain⟨ρ,D⟩:=D;obtain⟨tm,aB,aC⟩:=s;subst hd;exact N sk g rfl Z I a w vars R K r ⟨ρ,D.rebuild I G O⟩ M
 grind
theorem Zg3 {ρ:Env} {d:Nat} {a:AC} {x:Value} (h:CC ρ w a x):CC ρ w (a.killP d) x:=by
 cases a with
 |ptr k o=>simp only[AC.killP];cases Nat.beq k d<;>first|exact h|exact h.one
 |bsl k o=>simp only[AC.killP];cases Nat.beq k d<;>first|exact h|exact h.one
 |clo f fs cs=>simp only[AC.killP];cases(Al (Ll d) fs&&Al (Ll d) cs)<;>first|exact h|exact h.one
 |_=>exact h
theorem Xc {ρ:Env} {f:AC->AC} (hf:∀(a:AC) (x:Value),CC ρ w a x->CC ρ w (f a) x):∀{l:List AC} {xs:List Value},CL (CC ρ w) l xs->CL (CC ρ w) (l.map f) xs
 |[],[],_=>trivial
 |_::_,_::_,h=>⟨hf _ _ h.1,Xc hf h.2⟩
 |[],_::_,h=>h.elim
 |_::_,[],h=>h.elim
def Yeo {ρ:Env} {f:AC->AC} (hf:∀(a:AC) (x:Value),CC ρ w a x->CC ρ w (f a) x) {v:TV} {x:Value} (h:TVR ρ w v x):TVR ρ w (v.mapC f) x:=by
 cases v with
 |vD=>trivial
 |tup ps=>
  obtain⟨G,rfl,D⟩:=h;refine⟨G,rfl,?_⟩;generalize G.toList=l at D;induction ps generalizing l with
  |nil=>grind
  |cons p ps I=>
   cases l with
   |nil=>exact D.elim
   |cons y l=>
    obtain⟨g,cs⟩:=p;refine⟨?_,I l D.2⟩;have:=D.1;cases g
    ·grind
    grind [Xc]
 |v g cs=>
  cases g
  ·obtain⟨a,rfl,L⟩:=h;exact⟨_,rfl,hf _ _ L⟩
  obtain⟨G,rfl,D⟩:=h;exact⟨G,rfl,Xc hf D⟩
def RelE.forget {tm:List TV} {aB:List (Nat×Box)} {aC:List (Nat×Row)} {ρ:Env} {tmps:Array Value} (h:RelE Z tm aB aC ρ tmps w) {d:Nat} (hd:∀b,Z.K0 d≠some b):
  RelE Z (tm.map (TV.mapC (AC.killP d))) ((del d aB).map λp=>(p.1,(⟨p.2.ty,p.2.cells.map (AC.killP d)⟩:Box))) aC ρ tmps w:=by
 have U:∀k,Ab ((del d aB).map λp=>(p.1,(⟨p.2.ty,p.2.cells.map (AC.killP d)⟩:Box))) k=(Ab (del d aB) k).map λb=>⟨b.ty,b.cells.map (AC.killP d)⟩:=λk=>FM (λb:Box=>(⟨b.ty,b.cells.map (AC.killP d)⟩:Box)) _ k;have G:∀(k:Nat) (b:Box),Ab ((del d aB).map λp=>(p.1,(⟨p.2.ty,p.2.cells.map (AC.killP d)⟩:Box))) k=some b->k≠d/\∃b',Ab aB k=some b'/\b=⟨b'.ty,b'.cells.map (AC.killP d)⟩:=by
  intro k b D;rw[U]at D;simp only[dc]at D;obtain⟨b',h1,rfl⟩:=D;obtain⟨h2,h3⟩:=NA h1;exact⟨h2,b',h3,rfl⟩
 have M:∀(k:Nat) (b:Box),k≠d->Ab aB k=some b->∃b',Ab ((del d aB).map λp=>(p.1,(⟨p.2.ty,p.2.cells.map (AC.killP d)⟩:Box))) k=some b':=λk b Y D=>⟨_,by rw[U,K7 _ _ _ Y,D];rfl⟩;have V:∀a,Ll d a=true->AC.wfP aB a->AC.wfP ((del d aB).map λp=>(p.1,(⟨p.2.ty,p.2.cells.map (AC.killP d)⟩:Box))) a:=by
  intro a hn I;cases a<;>try exact trivial
  rename_i k o;obtain⟨b,hb⟩:=I;simp only[Ll,Bool.not_eq_true']at hn;exact M k b (Hh hn) hb
 have N:∀a,AC.wf aB aC a->AC.wf ((del d aB).map λp=>(p.1,(⟨p.2.ty,p.2.cells.map (AC.killP d)⟩:Box))) aC (a.killP d):=by
  intro a I;cases a with
  |ptr k o=>
   simp only[AC.killP];cases D:Nat.beq k d
   ·obtain⟨b,hb⟩:=I;exact M k b (Hh D) hb
   exact trivial
  |bsl k o=>
   simp only[AC.killP];cases D:Nat.beq k d
   ·obtain⟨b,hb⟩:=I;exact M k b (Hh D) hb
   exact trivial
  |clo f fs cs=>
   simp only[AC.killP];cases L:(Al (Ll d) fs&&Al (Ll d) cs)
   ·exact trivial
   simp only[ak]at L;exact⟨λa h'=>V a (Au.1 L.1 a h') (I.1 a h'),λa h'=>V a (Au.1 L.2 a h') (I.2 a h')⟩
  |_=>exact I
 refine⟨by grind [h.tl],?_,?_,?_,?_,?_,h.ro,h.ri,?_,?_,h.fr,h.fs,h.i0,h.i1,?_⟩
 ·intro i v hi;simp only[fq,dc]at hi;obtain⟨u,hu,rfl⟩:=hi;exact Yeo (λ_ _=>Zg3) (h.tv i u hu)
 ·intro v hv;simp only[bj]at hv;obtain⟨u,hu,rfl⟩:=hv;have:=h.wt u hu;cases u with
  |vD=>trivial
  |v g cs=>
   intro a I;simp only[bj]at I;obtain⟨c,L,rfl⟩:=I;exact N c (this c L)
  |tup ps=>
   intro p hp a I;simp only[bj]at hp;obtain⟨q,hq,rfl⟩:=hp;simp only[bj]at I;obtain⟨c,L,rfl⟩:=I;exact N c (this q hq c L)
 ·intro k b D a I;obtain⟨_,b',O,rfl⟩:=G k b D;simp only[bj]at I;obtain⟨c,L,rfl⟩:=I;exact N c (h.wb k b' O c L)
 ·intro k b D;obtain⟨_,b',O,rfl⟩:=G k b D;obtain⟨arr,h1,h2,h3⟩:=h.bx k b' O
  grind [Xc,Zg3]
 ·intro k k' b b' D a0;obtain⟨_,_,X,_⟩:=G k b D;obtain⟨_,_,p2,_⟩:=G k' b' a0;exact h.bi k k' _ _ X p2
 ·intro k b j q D hq;obtain⟨_,_,X,_⟩:=G k b D;exact h.br k _ j q X hq
 ·intro b hb;obtain⟨q1,q2,q3⟩:=h.ib b hb
  grind
 intro k b D;obtain⟨X,bo,p2⟩:=h.k0 k b D
 grind
def Vm (G:InZ Z) {tmps:Array Value} {K:St->Option R} {r:R}:∀(l:List Nat) (s:St),Rel Z s tmps w->Ts l s K=some r->∃I,K I=some r/\Rel Z I tmps w
 |[],s,D,h=>⟨s,h,D⟩
 |d::l,⟨tm,aB,aC⟩,D,h=>by
  simp only[Ts]at h;split at h
  ·exact Vm G l _ D h
  cases hd:D8 d<;>rw[hd]at h
  ·simp only[bn,A8]at h;obtain⟨ρ,D⟩:=D;exact Vm G l _ ⟨ρ,D.forget (d:=d) λb hb=>by rw[G d b hb]at hd;cases hd⟩ h
  grind
theorem Ql8 {α:Type} (d:α):∀(l:List α) (i:Nat),setL l i (nth d l i)=l
 |[],_=>rfl
 |_::_,0=>rfl
 |x::l,i+1=>ij (x:: ·) (Ql8 d l i)
theorem Z7k {α:Type}:∀{l:List (Nat×α)} {k:Nat} {b:α},Ab l k=some b->upd l k b=l:=by
 intro l k b h;induction l with
 |nil=>rfl
 |cons p l D=>grind [Ab,upd]
def Qx8 {F:Int->Option R} {D:Int} {r:R}:∀{n:Nat},W8 F D n=some r->F D=some r
 |0,h=>(by cases h)
 |n+1,h=>by
  unfold W8 at h;by_cases c:D=n
  ·rw[av c,<-c]at h;exact h
  rw[ba c]at h;exact Qx8 h
def Q26 {o:Option (Nat×Nat×Nat)} {s:St} {F:St->Option R} {r:R} (h:Qfp o s F=some r):F s=some r:=by
 unfold Qfp at h;split at h
 ·exact h
 (repeat' split at h)<;>try contradiction
 rename_i hb _ _ _ D;have:=Qx8 h
 rwa [<-D,Ql8,Z7k hb]at this
def F5 (D:AK P C) (V:∀t∈C.eqOk,P.stoodInHeld t=false) (N:P.follows .mixedOrders=true) (hZ:InZ Z) {r:R} {d:List Deferred}:
  ∀(c:Code) (L blk:Nat) (s:St) (a:Act) (w:World) (K:Ex->St->Option R),SubOK P C c blk->Rel Z s a.tmps w->a.defers=d->BC P C L c blk s K=some r->c.wp P (Lc Z K r d) a w
 | .skip,L,blk,s,a,w,K,I,O,hd,h=>wp_skip ⟨.normal,s,rfl,Q26 h,O,hd⟩
 | .region id ops draw,L,blk,s,a,w,K,I,O,hd,h=>by
  rw[BC]at h;obtain⟨s0,h,O⟩:=Vm hZ _ s O h;exact Zsb D V N O h λY a' w' X M U=>⟨.normal,Y,rfl,X,M,U.trans hd⟩
 | .seq x y,L,blk,s,a,w,K,I,O,hd,h=>by
  rw[BC]at h;refine wp_seq (wp_mono (F5 D V N hZ x L blk s a w _ ⟨λp G=>I.l p (by simp[A5,G]),λp G=>I.b p (by simp[CF,G]),λp G=>I.c p (by simp[BO,G])⟩ O hd h) ?_);rintro e a' w' ⟨ae,Y,rfl,X,M,U⟩;cases ae with
  |normal=>exact F5 D V N hZ y L blk Y a' w' K ⟨λp G=>I.l p (by simp[A5,G]),λp G=>I.b p (by simp[CF,G]),λp G=>I.c p (by simp[BO,G])⟩ M U X
  |exit id=>exact⟨.exit id,Y,rfl,X,M,U⟩
  |ret=>exact⟨.ret,Y,rfl,X,M,U⟩
 | .cond c x y,L,blk,s,a,w,K,I,O,hd,h=>by
  have hx:SubOK P C x blk:=⟨λp G=>I.l p (by simp[A5,G]),λp G=>I.b p (by simp[CF,G]),λp G=>I.c p (by cases c<;>simp[BO,G])⟩;have hy:SubOK P C y blk:=⟨λp G=>I.l p (by simp[A5,G]),λp G=>I.b p (by simp[CF,G]),λp G=>I.c p (by cases c<;>simp[BO,G])⟩;rw[BC]at h;refine Qcq (c:= .cond c x y) hZ ?_ O hd h λh2=> ?_
  ·intro sk g ht;unfold Wo at ht;split at ht
   ·rename_i t;exact I.c (t,0,x,y) (by simp[BO]) sk g ht
   grind
  split at h2
  ·rename_i g hg;have hc:a.eval c= .bool g:=by
    obtain⟨ρ,a0⟩:=O;have:=Wn a0 c;rw[hg]at this;exact this.bool
   refine wp_cond hc ?_;split at h2
   ·rename_i t;have a1:∀b,g=b->Rel Z ⟨setL s.tmps t (.c (.bool b)),s.aB,s.aC⟩ a.tmps w:=by
     rintro b rfl;obtain⟨ρ,a0⟩:=O;exact⟨ρ,a0.learn t (by have e:a.tmps.getD t undef= .bool g:=hc;grind [TVR.mkBool]) (F0 _)⟩
    cases g
    ·simp only[bn]at h2;rw[FN]at h2;exact F5 D V N hZ y L blk _ a w K hy (a1 false rfl) hd h2
    simp only[am]at h2;rw[FN]at h2;exact F5 D V N hZ x L blk _ a w K hx (a1 true rfl) hd h2
   cases g
   ·exact F5 D V N hZ y L blk s a w K hy O hd h2
   exact F5 D V N hZ x L blk s a w K hx O hd h2
  grind
 | .block id body,L,blk,s,a,w,K,I,O,hd,h=>by
  have hb:SubOK P C body id:=SubOK.any blk ⟨λp G=>I.l p (by simp[A5,G]),λp G=>I.b p (by simp[CF,G]),λp G=>I.c p (by simp[BO,G])⟩;rw[BC]at h;refine Qcq (c:= .block id body) hZ (I.b (id,body) (by simp[CF])) O hd h λh2=> ?_;refine wp_block (wp_mono (F5 D V N hZ body L id s a w _ hb O hd h2) ?_);rintro e a' w' ⟨ae,Y,rfl,X,M,U⟩;cases ae with
  |normal=>exact⟨.normal,Y,rfl,X,M,U⟩
  |exit i=>
   simp only[Mb,Exit.inBlock];dsimp only at X;cases hb:Nat.beq i id<;>rw[hb]at X
   ·have:i≠id:=λe=>by simp_all
    rw[ab this];exact⟨.exit i,Y,rfl,X,M,U⟩
   rw[ac (ah hb)];exact⟨.normal,Y,rfl,X,M,U⟩
  |ret=>exact⟨.ret,Y,rfl,X,M,U⟩
 | .loop body,L,blk,s,a,w,K,I,O,hd,h=>by
  rw[BC]at h;obtain⟨Y,h',M⟩:=Rz _ s a.tmps O _ r h;obtain⟨s1,h1,a2⟩:=Oa M h';have hb:SubOK P C body blk:=⟨λp G=>I.l p (by simp[A5,G]),λp G=>I.b p (by simp[CF,G]),λp G=>I.c p (by simp[BO,G])⟩;refine Qcq (c:= .loop body) hZ (I.l (Tf body,body) (by simp[A5])) a2 hd h1 λh2=> ?_;exact wp_loop_rounds L (Zlv (λs a w K' O hd h=>F5 D V N hZ body L blk s a w K' hb O hd h) L s1 a w a2 hd h2)
 | .exit id,L,blk,s,a,w,K,I,O,hd,h=>wp_exit ⟨.exit id,s,rfl,h,O,hd⟩
 | .ret,L,blk,s,a,w,K,I,O,hd,h=>wp_ret ⟨.ret,s,rfl,h,O,hd⟩
 | .rangeFunc f ps a3 body,L,blk,s,a,w,K,I,O,hd,h=>by grind [BC]
 | .scope b,L,blk,s,a,w,K,I,O,hd,h=>by
  rw[BC]at h;refine wp_scope_straight (wp_mono (F5 D V N hZ b L blk s a w K ⟨λp G=>I.l p (by simp[A5,G]),λp G=>I.b p (by simp[CF,G]),λp G=>I.c p (by simp[BO,G])⟩ O hd h) ?_);rintro e a' w' ⟨ae,Y,rfl,X,M,U⟩;cases ae with
  |normal=>exact⟨.normal,Y,rfl,X,M,U⟩
  |exit i=>exact⟨.exit i,Y,rfl,X,M,U⟩
  |ret=>exact⟨.ret,Y,rfl,X,M,U⟩
 | .label l,L,blk,s,a,w,K,I,O,hd,h=>by
  rw[BC]at h;exact wp_label ⟨.normal,s,rfl,h,O,hd⟩
 | .goto l,L,blk,s,a,w,K,I,O,hd,h=>by grind [BC]
 | .refuse a4,L,blk,s,a,w,K,I,O,hd,h=>by grind [BC]
theorem Yb6 {e D:Ex} (h:XK e D=true):e=D:=by
 cases e<;>cases D<;>simp only[XK]at h<;>first|rfl|simp_all|simp_all
def Qgm {s:St} {I:Ex} {tmps:Array Value} (L:InZ Z) (G:Rel Z s tmps w):∀{D:List (Ex×Sk)} {i n:Nat} {o:List AC},K8 D i I s=some (n,o)->
  i<=n/\∃sk,(∀(R:Type) (K:Ex->St->Option R),Q4 o K D i n=K I (AG sk o))/\Rel Z (AG sk o) tmps w
 |[],i,n,o,h=>by grind [K8]
 |(e,sk)::l,i,n,o,h=>by
  simp only[K8]at h;cases hb:(XK e I&&sk.okB)<;>rw[hb]at h
  ·simp only[bn]at h;obtain⟨O,M,U,V⟩:=Qgm L G h
   grind [Q4,KS]
  simp only[am]at h;simp only[ak]at hb;split at h
  ·rename_i vars N;simp at h;obtain⟨rfl,rfl⟩:=h;refine⟨dm _,sk,λR K=> ?_,?_⟩
   ·simp only[Q4,Nat.beq_refl,am];rw[Yb6 hb.1]
   obtain⟨ρ,G⟩:=G;obtain⟨tm,aB,aC⟩:=s;exact⟨ρ,G.rebuild L hb.2 N⟩
  grind
def Z3d (I:AK P C) (a0:∀t∈C.eqOk,P.stoodInHeld t=false) (O:P.follows .mixedOrders=true) {L blk:Nat} {body:Code} {sk:Sk} {D:List (Ex×Sk)} {m:List AC->Option (Nat×List AC)}
  (a1:sk.okB=true) (U:SubOK P C body blk) (hm:∀vars o,m vars=some o->∃n,Cf (AR P C L blk body sk D) n vars=some o):Lu P (.loop body) sk (gOf D m):=by
 intro Z hZ a w vars R K r hR h;simp only[gOf,bp]at h;obtain⟨⟨t,o⟩,h1,h2⟩:=h;obtain⟨n,hn⟩:=hm vars _ h1;have key:∀(n:Nat) (vars:List AC) (V:Act) (w':World),Rel Z (AG sk vars) V.tmps w'->V.defers=a.defers->Cf (AR P C L blk body sk D) n vars=some (t,o)->Code.rounds P body (Lc Z K r a.defers) n V w':=by
  intro n;induction n with
  |zero=>grind [Cf]
  |succ n ih=>
   intro vars V w' a3 a4 h;simp only[Cf,bp]at h;obtain⟨⟨t',o'⟩,q1,N⟩:=h;rw[rounds_succ];refine wp_mono (F5 I a0 O hZ body L blk _ V w' _ U a3 a4 q1) ?_;rintro e a2 w2 ⟨ae,s',rfl,hK,X,Y⟩;have G:∀e':Ex,K8 D 1 e' s'=some (t',o')->Lc Z K r a.defers (Mb e') a2 w2:=by
    intro e' hx;obtain⟨p1,a5,p2,p3⟩:=Qgm hZ X hx;have ht:t'≠0:=by omega
    dsimp only at N;rw[ab ht]at N;simp at N;obtain⟨rfl,rfl⟩:=N;rw[p2 R K]at h2;exact⟨e',_,rfl,h2,p3,Y⟩
   cases ae with
   |normal=>
    obtain⟨s3,h3,M⟩:=Oa X hK;split at h3
    ·rename_i vars' hv;simp at h3;obtain⟨rfl,rfl⟩:=h3;simp only[ig]at N;obtain⟨ρ,M⟩:=M;obtain⟨tm,aB,aC⟩:=s3;exact ih _ a2 w2 ⟨ρ,M.rebuild hZ a1 hv⟩ Y N
    grind
   |exit i=>exact G _ hK
   |ret=>exact G _ hK
 exact wp_loop_rounds n (key n vars a w hR rfl hn)
end
open Go.RowKit
section
variable {P:Program} {C:Cfg} {w:World} {R:Type} {Z:Base}
def RelE.slots {tm G:List TV} {aB:List (Nat×Box)} {aC:List (Nat×Row)} {ρ:Env} {tmps D:Array Value} (h:RelE Z tm aB aC ρ tmps w) (I:G.length=D.size)
  (L:∀(i:Nat) (v:TV),G[i]? =some v->TVR ρ w v (D.getD i undef)) (M:∀v∈G,TV.wf aB aC v):RelE Z G aB aC ρ D w:=
 ⟨I,L,M,h.wb,h.bx,h.bi,h.ro,h.ri,h.br,h.ib,h.fr,h.fs,h.i0,h.i1,h.k0⟩
def Q7x {s:St} {a:Act} {ρ:Env} (I:RelE Z s.tmps s.aB s.aC ρ a.tmps w):∀(l:List ResultVar) (ps:List (Bool×List AC)),Mg P s l=some ps->
  ∃ xs : List Value, (l.mapM fun
   | .tmp t=>pure (a.tmps.getD t undef)
   | .cell b t=>do loadVar t (<-asAddr (a.tmps.getD b undef)):Sem (List Value)).run P w= .ok xs w/\TP ρ w ps xs/\∀p∈ps,∀c∈p.2,AC.wf s.aB s.aC c
 |[],ps,h=>by simp[Mg]at h;subst h;exact⟨[],rfl,trivial,by simp⟩
 |rv::l,ps,h=>by
  simp only[Mg]at h;split at h
  ·rename_i g cs D;split at h
   ·rename_i N O;simp at h;subst h;obtain⟨xs,h1,h2,h3⟩:=Q7x I l N O;have key : ∃ x, ((match rv with
      | .tmp t=>pure (a.tmps.getD t undef)
      | .cell b t=>do loadVar t (<-asAddr (a.tmps.getD b undef)):Sem Value)).run P w= .ok x w/\TVR ρ w (.v g cs) x/\TV.wf s.aB s.aC (.v g cs):=by
     cases rv with
     |tmp t=>
      simp only[Qhx]at D;split at D
      ·rename_i g' L U;simp at D;obtain⟨rfl,rfl⟩:=D;have V:t<s.tmps.length:=by
        rcases jy t s.tmps.length with X|Y
        ·omega
        grind [Ca]
       have G:s.tmps[t]? =some (.v g' L):=by
        rw[Ca,List.getD]at U;rw[an V]at U⊢;simpa using U
       exact⟨_,by simp,I.tv t _ G,I.wt _ (df G)⟩
      grind
     |cell b t=>
      simp only[Qhx]at D;split at D
      ·rename_i key off g' sz hb hg hs;have a0:b<s.tmps.length:=by
        rcases jy b s.tmps.length with X|Y
        ·omega
        grind [Ca]
       have G:s.tmps[b]? =some (.c (.ptr key off)):=by
        rw[Ca,List.getD]at hb;rw[an a0]at hb⊢;simpa using hb
       have hc:=(I.tv b _ G).c;simp only[CC]at hc;split at D
       ·rename_i bo M;obtain⟨arr,q1,q2,q3⟩:=I.bx key bo M;obtain ⟨x, q4, q5⟩ := XQ (b := ρ.bx key) (o := 0) hg hs D q2 (λj y hj => by
         simp only[fw];rw[cell_of_row w _ j arr bo.ty (0,0) q1]
         grind)
        rw[fw]at q4;exact⟨x,by grind [asAddr],q5,SP D (I.wb key bo M)⟩
       grind
      grind
    obtain⟨x,k1,k2,k3⟩:=key;refine⟨x::xs,?_,?_,?_⟩
    ·simp_all
    ·refine⟨?_,h2⟩;cases g<;>exact k2
    intro p hp;simp only[be]at hp;rcases hp with rfl|hp
    ·exact k3
    grind
   grind
  grind
theorem Rv:∀(ks:List Kd) (cs:List AC),(DX ks cs).length=cs.length
 |[],[]=>rfl
 |[],_::_=>rfl
 | .sl _::_,[]=>rfl
 | .int _::_,[]=>rfl
 | .bool::_,[]=>rfl
 | .raw::_,[]=>rfl
 | .int _::l,_::cs=>by simp[DX,Rv l cs]
 | .bool::l,_::cs=>by simp[DX,Rv l cs]
 | .raw::l,_::cs=>by simp[DX,Rv l cs]
 | .sl _::l,a::cs=>by cases a<;>simp[DX,Rv l cs]
def Qsk {ρ:Env}:∀(D:List TypeId) (ps:List (Bool×List AC)) (xs:List Value),TP ρ w ps xs->TP ρ w (H8 P D ps) xs
 |[],ps,xs,h=>by grind [H8]
 |_::_,[],xs,h=>by grind [H8]
 |t::D,(g,cs)::ps,[],h=>h.elim
 |t::D,(g,cs)::ps,x::xs,h=>by
  refine⟨?_,Qsk D ps xs h.2⟩;have G:=h.1;cases M:GV P 8 t with
  |none=>exact G
  |some ks=>
   cases g
   ·obtain⟨a,rfl,I⟩:=G;have:=LN ks [a] [x] ⟨I,trivial⟩;have L:=Rv ks [a];generalize hn:DX ks [a]=l at this L;cases l with
    |nil=>grind
    |cons b l=>
     cases l with
     |nil=>exact⟨b,hn,this.1⟩
     |cons=>grind
   grind [LN]
def Zcn {aB:List (Nat×Box)} {aC:List (Nat×Row)}:∀(G:List TypeId) (ps:List (Bool×List AC)),(∀p∈ps,∀c∈p.2,AC.wf aB aC c)->∀p∈H8 P G ps,∀c∈p.2,AC.wf aB aC c
 |[],ps,h=>by simpa [H8]using h
 |_::_,[],h=>by simp[H8]
 |t::G,(g,cs)::ps,h=>by
  intro p D;simp only[H8,be]at D;rcases D with rfl|D
  ·cases I:GV P 8 t with
   |none=>simp_all
   |some ks=>exact O0 ks cs (h (g,cs) (by simp))
  exact Zcn G ps (λq L=>h q (by grind)) p D
theorem Q0t {ρ:Env}:∀{ps:List (Bool×List AC)} {xs:List Value},TP ρ w ps xs->ps.length=xs.length
 |[],[],_=>rfl
 |_::_,_::_,h=>by simp[Q0t h.2]
 |[],_::_,h=>h.elim
 |_::_,[],h=>h.elim
theorem Zye {ρ:Env} {ps:List (Bool×List AC)} {xs:List Value} (h:TP ρ w ps xs):TVR ρ w (L0 ps) (if h:xs.length=1 then xs[0]else .tuple xs.toArray):=by
 have D:=Q0t h
 match ps,xs,h with
 |[],[],_=>exact⟨#[],rfl,trivial⟩
 |[(g,cs)],[x],h=>
  simp only[L0,ip,dite_true,List.getElem_cons_zero];have:=h.1;cases g<;>exact this
 |p::q::ps,x::y::xs,h=>
  have: ¬(x::y::xs).length=1:=by simp
  rw[dif_neg this];exact⟨_,rfl,by omega⟩
def Zov {keys ids:List Nat} {ps:List (Bool×List AC)} (h:Al (λp:Bool×List AC=>Al (AC.inK keys ids) p.2) ps=true):TV.inK keys ids (L0 ps)=true:=by
 match ps,h with
 |[],h=>exact h
 |[(g,cs)],h=>exact Au.1 h (g,cs) (by simp)
 |p::q::ps,h=>exact h
def Zoq {aB:List (Nat×Box)} {aC:List (Nat×Row)} {ps:List (Bool×List AC)} (h:∀p∈ps,∀c∈p.2,AC.wf aB aC c):TV.wf aB aC (L0 ps):=by
 match ps,h with
 |[],h=>exact h
 |[(g,cs)],h=>exact h (g,cs) (by simp)
 |p::q::ps,h=>exact h
def Qhy {M:Func} {keys0:List Nat} {s:St} {a:Act} (hR:Rel Z s a.tmps w) (a1:∀k b,Z.K0 k=some b->k∈keys0) {K:TV->Mem->Option R} {r:R} (h:Oj P C M keys0 s K=some r):
  ∃x ρ' v m,K v m=some r/\(results M a.tmps).run P w= .ok x w/\RelE Z [v] m.aB m.aC ρ' #[x] w/\(C.keepIn=true->a.tmps.getD 0 undef=ρ'.rv base):=by
 unfold Oj at h;split at h
 ·grind
 rename_i ps a5;have h1:∃s1,(Jm P C s1 λs1=>match Mg P s1 M.results.toList with
   |none=>none
   |some ps=>match s1 with
    |⟨tm,aB,aC⟩=>
     bif !C.keepIn||Qdd tm then
     AY (H8 P M.resultTypes.toList ps) λps=>
     AY (M0 aB 4 (Bi (cat (λp:Bool×List AC=>cat AC.keys p.2) ps) keys0)) λkeys=>
     AY (PH aB (cat (λp:Bool×List AC=>p.2) ps) keys) λids=>
     AY (aB.filter λp=>AV keys p.1) λD=>
     AY (aC.filter λp=>AV ids p.1||D8 p.1) λN=>
     bif Al (λp:Bool×List AC=>Al (AC.inK keys ids) p.2) ps&&Al (λp:Nat×Box=>Al (AC.inK keys ids) p.2.cells) D&&Al (Gi aB) keys0&&Al (AV keys) keys0 then K (L0 ps) (⟨D,N⟩:Mem)else none else none)=some r/\Rel Z s1 a.tmps w:=by
  cases ho:C.ownRes<;>rw[ho]at h
  ·exact WD _ s a.tmps hR _ _ h
  exact⟨s,h,hR⟩
 obtain⟨s1,h1,a2⟩:=h1;obtain⟨s2,G,ρ,O⟩:=Oa a2 h1;split at G
 ·grind
 rename_i a3 X;obtain⟨xs,q1,q2,q3⟩:=Q7x O _ _ X;obtain⟨tm,aB,aC⟩:=s2;dsimp only at G;obtain⟨I,G⟩:=Zmg G;have U:C.keepIn=true->a.tmps.getD 0 undef=ρ.rv base:=λhk=>by
  rw[hk]at I;simp only[Bool.not_true,Bool.false_or]at I;unfold Qdd at I;split at I
  ·have e:=ah I;subst e;have:=O.tv 0 _ rfl;obtain⟨y,hy,V⟩:=this;simp only[gf,and_true]at hy;subst hy;exact V.1
  grind
 simp only[A8]at G;have a4:=Qsk M.resultTypes.toList _ _ q2 (P:=P);have Y:=Zcn M.resultTypes.toList _ q3 (P:=P);generalize H8 P M.resultTypes.toList a3=L at G a4 Y;generalize M0 aB 4 (Bi (cat (λp:Bool×List AC=>cat AC.keys p.2) L) keys0)=keys at G;generalize PH aB (cat (λp:Bool×List AC=>p.2) L) keys=ids at G;obtain⟨V,G⟩:=BY G;simp only[ak]at V;have a0:(results M a.tmps).run P w= .ok (if h:xs.length=1 then xs[0]else .tuple xs.toArray) w:=by
  unfold results;rw[Array.mapM_eq_mapM_toList];simp only[Sem.run_bind,Sem.run_map];erw[q1]
  simp only[dv,Sem.run_pure];congr 1
 have a6:TV.inK keys ids (L0 L)=true:=Zov V.1.1.1;have a7:TV.wf aB aC (L0 L):=Zoq Y;refine⟨_,ρ,_,_,G,a0,?_,U⟩;refine O.filter (by simp) (λi v hi=> ?_) (λv hv=> ?_) (by grind [Al]) V.1.1.2 (λk b hk=>Au.1 V.2 k (a1 k b hk))
 ·cases i with
  |zero=>simp at hi;subst hi;simp_all [Zye]
  |succ i=>grind
 grind
def Zlm (I:AK P C) (a0:∀t∈C.eqOk,P.stoodInHeld t=false) (O:P.follows .mixedOrders=true) (hZ:InZ Z) {L:Nat} {f:FuncId} {args:List TV} {mem:Mem} {K:TV->Mem->Option R} {r:R}
  (U:∀c,F4 P f=some c->SubOK P C c 0) (h:Ew P C L f args mem K=some r) {ρ:Env} {xs:List Value} (D:RelE Z args mem.aB mem.aC ρ xs.toArray w):
  Calls P f xs.toArray w λe w'=>∃x V v m,e= .returned x/\K v m=some r/\RelE Z [v] m.aB m.aC V #[x] w':=by
 unfold Ew at h;split at h
 ·rename_i N a1;split at h
  ·rename_i c hc;obtain⟨_,h⟩:=BY h;simp only[A8]at h;have X:P.funcs[f]? =some N:=by simpa using a1
   have hs:=U c (by grind [F4]);refine calls_of_wp X hc ?_;have hlen:xs.length=args.length:=by simpa using D.tl.symm
   have hR:Rel Z ⟨args++List.replicate (N.ntmps-args.length) TV.vD,mem.aB,mem.aC⟩ (xs.toArray++Array.replicate (N.ntmps-xs.toArray.size) undef) w:=by
    refine⟨ρ,D.slots (by grind) (λi u Y=> ?_) (λu M=> ?_)⟩
    ·rw[f6]at Y;split at Y
     ·rename_i a6;have a2:i<xs.length:=by omega
      have e:(xs.toArray++Array.replicate (N.ntmps-xs.toArray.size) undef).getD i undef=xs.toArray.getD i undef:=by
       simp[Array.getD_eq_getD_getElem?,Array.getElem?_append,a2]
      rw[e];exact D.tv i u Y
     have:=df Y;rw[fy]at this;rw[this.2];trivial
    rw[bt]at M;rcases M with M|M
    ·exact D.wt u M
    rw[fy]at M;rw[M.2];trivial
   refine wp_mono (F5 I a0 O hZ c L 0 _ ⟨_,[]⟩ w _ hs hR rfl h) ?_;rintro e a' w' ⟨ae,s,rfl,hK,a3,hd⟩;have a4:∀k b,Z.K0 k=some b->k∈mem.aB.map (·.1):=by
    intro k b hk;obtain⟨_,bo,a5⟩:=D.k0 k b hk;exact Lx.2 ⟨bo,a5⟩
   have G:Oj P C N (mem.aB.map (·.1)) s K=some r->a'.defers=[]/\∃x,(results N a'.tmps).run P w'= .ok x w'/\∃y V v m,Ending.returned x= .returned y/\K v m=some r/\RelE Z [v] m.aB m.aC V #[y] w':=by
    intro hf;obtain⟨x,V,v,m,h0,h1,h2,_⟩:=Qhy a3 a4 hf;exact⟨hd,x,h1,x,V,v,m,rfl,h0,h2⟩
   cases ae with
   |normal=>
    obtain⟨q1,x,q2,q3⟩:=G hK;exact⟨q1,x,q2,q3⟩
   |ret=>
    obtain⟨q1,x,q2,q3⟩:=G hK;exact⟨q1,x,q2,q3⟩
   |exit id=>grind
  grind
 grind
def Pc {F:Nat->Prop} {ρ:Env} {aB:List (Nat×Box)} {I:Gt F w} (h:Al (λp:Nat×Box=>D8 p.1) aB=true):InZ (Em F w ρ aB I):=by
 intro k b G;simp only[Em,dc]at G;obtain⟨bo,D,_⟩:=G;exact Au.1 h (k,bo) (Qc D)
def SM {sig osig:Sk} {m:List AC->Option (List AC)} (R:Type) (args:List TV) (mem:Mem) (K:TV->Mem->Option R):Ah sig osig m R args mem K=(Ah sig osig m (TV×Mem) args mem λv m=>some (v,m)).bind λp=>K p.1 p.2:=by
  obtain⟨aB,aC⟩:=mem;simp only[Ah]
  grind
def Q44 (I:AK P C) (Y:∀t∈C.eqOk,P.stoodInHeld t=false) (N:P.follows .mixedOrders=true) {L:Nat} {f:FuncId} {sig D:Sk} {m:List AC->Option (List AC)} (h1:sig.okB=true) (h2:D.okB=true)
  (O:∀c,F4 P f=some c->SubOK P C c 0) (hm:∀vars o,m vars=some o->Aj P C L f sig D vars=some o) {args:List TV} {mem:Mem} {v:TV} {mem':Mem} (h:(Ah sig D m (TV×Mem) args mem λv m=>some (v,m))=some (v,mem')):PCallM P f args mem v mem':=by
  obtain⟨aB,aC⟩:=mem;simp only[Ah]at h;obtain⟨a0,h⟩:=BY h;split at h
  ·rename_i vars hv;simp only[bp]at h;obtain⟨o,ho,h⟩:=h;have G:=hm vars o ho;intro F w hG ρ xs a1;have hZ:InZ (Em F w ρ aB hG):=Pc a0;have M:=a1.rebuild hZ h1 hv;unfold Aj at G;generalize hs:AG sig vars=s1 at G M;obtain⟨a2,X,a3⟩:=s1;dsimp only at G M;refine(Zlm I Y N hZ O G M).mono ?_;rintro e w' ⟨x,ρ',v',m',he,U,V⟩;obtain⟨b',r'⟩:=m';dsimp only at U V;have a4:=V.rebuild hZ h2 U
   grind
  grind
def Zy2 (G:AK P C) (N:∀t∈C.eqOk,P.stoodInHeld t=false) (I:P.follows .mixedOrders=true) {L:Nat} {f:FuncId} (O:Pr P f) {sig D:Sk} {m:List AC->Option (List AC)} (U:sig.okB=true) (V:D.okB=true)
  (M:∀c,F4 P f=some c->SubOK P C c 0) (X:∀vars o,m vars=some o->Aj P C L f sig D vars=some o):SpecRight P f (Ah sig D m):=
 ⟨SM,λ_ _ _ _ h=>PCallM.x (Q44 G N I U V M X h) O⟩
end
open Go.RowKit Go.WideShapes Go.ChangeShapes
def KY (P:Program):Nat->TypeId->Option (List Kd)
 |0,_=>none
 |n+1,t=>match P.underlying t with
  |some (.int k)=>some [.int k]
  |some (.slice e)=>(KY P n e).bind λks=>bif Nat.beq (P.cellsOf e) ks.length&&Nat.blt 0 ks.length then some [.sl ks]else none
  |_=>none
mutual
def okC:Kd->AC->Prop
 | .int k,a=>k.min<=Af a/\Af a<=k.max
 | .bool,_=>True
 | .sl ks,a=>(BI a).length<=maxLen/\∀c∈BI a,okR ks c/\AX ks c=c
 | .raw,_=>True
def okR:List Kd->List AC->Prop
 |[],_=>True
 |_::_,[]=>False
 |k::ks,a::cs=>okC k a/\okR ks cs
end
def Op (w:World) (ks:List Kd) (cs:List Value):Prop:=∃raw,AX ks raw=raw/\CL (CP (λb=>b<w.heap.size) w) raw cs/\okR ks raw
section
variable {H:Type} {enc:TypeId×Value->H} {P:Program} {w:World}
def Z12 {ks:List Kd} {cs:List Value} {e t:TypeId} {fuel:Nat} {x:DataW H×List MemPlace} (hu:P.underlying t=some (.slice e)) (e1:P.cellsOf e=ks.length) (e2:0<ks.length)
  (hx:DataW.trod enc P w 0 (λ_=>true) true fuel t cs=some x) (ih:∀(m:Nat) (cs:List Value) (x:DataW H×List MemPlace),DataW.trod enc P w 0 (λ_=>true) true m e cs=some x->Op w ks cs):Op w [.sl ks] cs:=by
 rcases Go.Deep.open_slice hu hx with⟨rfl,_⟩|⟨a,len,cap,m,n,D,Pl,rfl,_,hl,b1,hm,_,hi⟩
 ·refine⟨[.vC ks []],rfl,⟨Q7v ks,trivial⟩,?_⟩;simp[okR,okC,BI]
 have a2:m=cap:=by simpa using hm
 subst a2
 have hex:∀i,∃(U:List Value) (raw:List AC),i<len->(w.cells? 0 (a.add (i*P.cellsOf e)) (P.cellsOf e)=some U/\AX ks raw=raw/\CL (CP (λb=>b<w.heap.size) w) raw U/\okR ks raw):=λi=>by
  by_cases L:i<len
  ·obtain⟨a3,N,Y⟩:=hi i (by omega);obtain⟨raw,r1,r2,r3⟩:=ih n a3 _ Y
   grind
  exact⟨[],[],λh=>(L h).elim⟩
 let U:Nat->List Value:=λi=>Classical.choose (hex i)
 let G:Nat->List AC:=λi=>Classical.choose (jl (hex i))
 have M:∀i,i<len->(w.cells? 0 (a.add (i*P.cellsOf e)) (P.cellsOf e)=some (U i)/\AX ks (G i)=G i/\CL (CP (λb=>b<w.heap.size) w) (G i) (U i)/\okR ks (G i)):=λi=>jl (jl (hex i));have hlen:((List.range len).map G).length=len:=by simp
 have a0:∀i (hi:i<((List.range len).map G).length),((List.range len).map G)[i]=G i:=λi hi=>by simp
 have O:∀c∈(List.range len).map G,∃i,i<len/\c=G i:=λc X=>by
  simp at X;obtain⟨i,N,Y⟩:=X;exact⟨i,N,Y.symm⟩
 refine⟨[.vC ks ((List.range len).map G)],rfl,⟨?_,trivial⟩,?_⟩
 ·rw[CP];refine⟨some a,m,by simp,by omega,λc X=> ?_,?_⟩
  ·obtain⟨i,N,rfl⟩:=O c X;exact(M i N).2.1
  by_cases h0:len=0
  ·subst h0;simp
  right;have h0:0<len:=by omega
  obtain⟨a4,r1,r2,_⟩:=M 0 h0;obtain⟨_,a5,a1⟩:=World.cells?_some a4;have I:=a1 0 (by omega);simp only[Nat.zero_mul]at I;have ea:(a.add 0).add 0=a:=by simp[Addr.add]
  rw[ea,an (by omega)]at I;have V:a.spot=none/\a.block<w.heap.size:=by
   unfold World.cell? at I;split at I
   ·rename_i hb;split at I
    ·cases I
    rename_i a6;refine⟨by simpa using a6,(dt.1 hb).1⟩
   cases I
  obtain⟨b,o,sp⟩:=a;obtain⟨rfl,hb⟩:=V;refine⟨b,o,rfl,hb,U0 λi L=> ?_⟩;rw[a0 i L];rw[hlen]at L;obtain⟨a7,a8,a9,_⟩:=M i L;obtain⟨_,hle,b0⟩:=World.cells?_some a7;refine⟨by rw[<-a8];exact Qcl _ _,X9 _ (U i) b _ a9 λj y hj=> ?_⟩;have b2:j<(U i).length:=(fv.1 hj).1;have:=b0 j (by omega);rw[<-hj,<-this,e1];congr 1;unfold Addr.add;by_cases N:i*ks.length=0<;>by_cases Y:j=0<;>simp[N,Y,jd]
 simp only[okR,okC,BI,and_true];refine⟨by omega,λc X=> ?_⟩;obtain⟨i,N,rfl⟩:=O c X;exact⟨(M i N).2.2.2,(M i N).2.1⟩
def Qc3:∀(n:Nat) (m:Nat) (t:TypeId) (ks:List Kd) (cs:List Value) (x:DataW H×List MemPlace),KY P n t=some ks->DataW.trod enc P w 0 (λ_=>true) true m t cs=some x->Op w ks cs
 |0,_,_,_,_,_,h,_=>by grind [KY]
 |n+1,m,t,ks,cs,x,h,M=>by
  unfold KY at h;split at h
  ·rename_i k I;simp at h;subst h;obtain⟨i,rfl,_,O⟩:=DataW.trod_int I M;exact⟨[.int k i],rfl,⟨G0 _ _,trivial⟩,by grind [okR,okC,Af,Lit.wf]⟩
  ·rename_i e I;simp only[bp]at h;obtain⟨D,N,L⟩:=h;cases G:(Nat.beq (P.cellsOf e) D.length&&Nat.blt 0 D.length)<;>rw[G]at L
   ·grind
   simp at L;subst L;simp only[ak]at G;have e1:=ah G.1;have e2:0<D.length:=by have:=G.2;simp at this;omega
   exact Z12 I e1 e2 M λm cs x=>Qc3 n m e D cs x N
  grind
end
structure Ar where
 agg:Bool
 ks:List Kd
 raw:List AC
def Ar.sh (a:Ar):Bool×List Kd:=(a.agg,a.ks)
def Ar.ok (a:Ar):Prop:=okR a.ks a.raw/\AX a.ks a.raw=a.raw
def Ar.tv (a:Ar):TV:= .v a.agg (AX a.ks a.raw)
def shK (P:Program) (t:TypeId):Option (Bool×List Kd):=match P.underlying t with
 |some (.struct _)=>(KY P 8 t).map λks=>(true,ks)
 |some (.array _ _)=>(KY P 8 t).map λks=>(true,ks)
 |some .bool=>some (false,[.bool])
 |some (.int k)=>some (false,[.int k])
 |some (.slice _)=>(KY P 8 t).map λks=>(false,ks)
 |_=>none
section
variable {H:Type} {enc:TypeId×Value->H} {P:Program} {W:World}
def Z2q {t:TypeId} {v:Value} {d:DataW H} {p:List MemPlace} {r:Reach} {U:Nat} {sh:Bool×List Kd} (D:shK P t=some sh) (L:Value.okWide P W r U t v)
  (h:DataW.Trod enc P W 0 (λ_=>true) true t v d p):∃a:Ar,a.sh=sh/\a.ok/\∀(ρ:Env),ρ.im=(λb=>b<W.heap.size)->TVR ρ W a.tv v:=by
 have agg:∀(ks:List Kd) (cs:Array Value),KY P 8 t=some ks->v= .agg cs->∃a:Ar,a.sh=(true,ks)/\a.ok/\∀(ρ:Env),ρ.im=(λb=>b<W.heap.size)->TVR ρ W a.tv v:=by
  rintro ks cs M rfl;obtain⟨fuel,hf⟩:=h;obtain⟨raw,I,N,O⟩:=Qc3 8 fuel t ks _ _ M hf;refine⟨⟨true,ks,raw⟩,rfl,⟨O,I⟩,λρ V=>⟨cs,rfl,?_⟩⟩;rw[I];exact N.mono λa _ x Y=>Jp (by grind)
 unfold shK at D;split at D
 ·rename_i fs G;simp at D;obtain⟨cs,rfl,_⟩:=okWide_struct G L
  grind
 ·rename_i k e G;simp at D;obtain⟨ks,M,rfl⟩:=D;obtain⟨cs,rfl,_⟩:∃cs,v= .agg cs/\cs.size=P.cellsOf t:=by grind [Value.okWide]
  grind
 ·rename_i G;simp at D;subst D;obtain⟨n,rfl,_,_⟩:=open_bool G L h;exact⟨⟨false,[.bool],[.bool n]⟩,rfl,⟨by simp[okR,okC],rfl⟩,λρ _=>TVR.mkBool n⟩
 ·rename_i k G;simp at D;subst D;obtain⟨n,rfl,_,_,hw⟩:=open_int G L h;exact⟨⟨false,[.int k],[.int k n]⟩,rfl,⟨by grind [okR,okC,Af,Lit.wf],rfl⟩,λρ _=>TVR.mkInt k n⟩
 ·rename_i e G;simp at D;obtain⟨ks,M,rfl⟩:=D;obtain⟨a0,len,cap,rfl⟩:=okWide_slice G L;obtain⟨fuel,hf⟩:=h;obtain⟨raw,I,N,O⟩:=Qc3 8 fuel t ks _ _ M hf;have X:raw.length=1:=by rw[N.length];simp[Value.cells]
  match raw,X with
  |[a],_=>
   refine⟨⟨false,ks,[a]⟩,rfl,⟨O,I⟩,λρ V=>⟨a,I,?_⟩⟩;have:=N.1
   grind [Jp]
 grind
def Qzr {r:Reach} {b0:Nat}:∀(I:List TypeId) (G:List Value) (M:List (DataW H)) (p:List MemPlace) (D:List (Bool×List Kd)),I.map (shK P)=D.map some->
  (∀(j:Nat) (t:TypeId) (v:Value),I[j]? =some t->G[j]? =some v->Value.okWide P W r b0 t v)->DataW.TrodAll enc P W 0 (λ_=>true) true I G M p->
  ∃as:List Ar,as.map Ar.sh=D/\(∀a∈as,a.ok)/\G.length=as.length/\∀(i:Nat) (a:Ar) (x:Value),as[i]? =some a->G[i]? =some x->∀(ρ:Env),ρ.im=(λb=>b<W.heap.size)->TVR ρ W a.tv x
 |[],G,M,p,D,L,_,h=>by
  obtain⟨rfl,rfl,rfl⟩:=trodAll_nil h;simp_all
 |t::I,G,M,p,D,L,U,h=>by
  obtain⟨v,N,d,O,a,b,rfl,rfl,rfl,V,X⟩:=trodAll_cons h;cases D with
  |nil=>grind
  |cons sh D=>
   simp at L;obtain⟨as,e1,e2,e3,e4⟩:=Qzr I N O b D L.2 (λj t v ht Y=>U (j+1) t v (by grind) (by grind)) X;obtain⟨a,ha,a0,hp⟩:=Z2q L.1 (U 0 t v rfl rfl) V;refine⟨a::as,by grind,?_,by grind,?_⟩
   ·grind
   grind
theorem Q2l (U:laidOutB P=true) {V:World} (hb:Below W.heap.size W V) {sp:Nat->Bool}:∀(G:List TypeId) (I:List Value) (L:List (DataW H)) (p:List MemPlace),
  G.all (λt=>P.readableRec t&&decide (t<P.types.size))=true->(∀x∈p,x.block<W.heap.size/\sp x.block=true)->DataW.TrodAll enc P W 0 (λ_=>true) true G I L p->
  DataW.TrodAll enc P V 0 sp true G I L p
 |[],I,L,p,_,_,h=>by
  obtain⟨rfl,rfl,rfl⟩:=trodAll_nil h;rfl
 |t::G,I,L,p,M,D,h=>by
  obtain⟨v,N,d,O,a,b,rfl,rfl,rfl,Y,h2⟩:=trodAll_cons h;simp only[List.all_cons,ak,dx]at M;refine⟨a,b,WideElems.Trod_stays U M.1.1 M.1.2 Y (λx X=>hb.same (D x (by grind)).1) (λx X=>(D x (by grind)).2),?_,rfl⟩;exact Q2l U hb G N O b M.2 (λx X=>D x (by grind)) h2
def Zv9 {f:Func} {s:ChangeSpec} {apart fresh handsOn again:Bool} {W L:World} {args:Array Value} {v:Value} {N O:List (DataW H)} {before pa pv:List MemPlace}
  (V:DataW.Whole enc P f.params.toList s.vars apart W args.toList N O before)
  (I:∀(b:Nat) (sp:Nat->Bool) (hd:Bool),DataW.TrodAll enc P L b sp hd f.resultTypes.toList (v.resultList f.resultTypes.size) (s.fn H (N++O)).results [])
  (D:∀sp:Nat->Bool,(∀p∈before,sp p.block=true)->DataW.TrodAll enc P L 0 sp true f.params.toList args.toList (s.fn H (N++O)).args pa)
  (G:∀sp:Nat->Bool,(∀p∈before,sp p.block=true)->DataW.TrodVars enc P L sp s.vars (s.fn H (N++O)).vars pv)
  (X:before=pa++pv) (hb:Below W.heap.size W L)
  (Y:∀(j:Nat) (t:TypeId) (r:Value),f.resultTypes[j]? =some t->(v.resultList f.resultTypes.size)[j]? =some r->Value.okWide P L .any 0 t r):
  s.post enc P f apart fresh handsOn again W args v L:=by
 have a0:=λp M=>V.lt p M;have hold:∀p∈before,(λb=>decide (b<W.heap.size)) p.block=true:=λp M=>by grind
 refine⟨N,O,before,[],pa,pv,V,I _ _ _,D _ hold,G _ hold,World.keptBut_mono (λp M=>⟨M,?_⟩) (hb.frame (· ∈before)),λ_=> ?_⟩
 ·grind
 obtain⟨_,_,_,_,_,hz,hn⟩:=V;refine⟨Y,_,_,([]++pa)++pv,⟨[]++pa,pv,trodAll_append (D _ (λ_ _=>rfl)) (I _ _ _),G _ (λ_ _=>rfl),rfl,?_,?_⟩,?_⟩
 ·intro b off M;have U:MemPlace.cell b off∈before:=by rw[X];simpa using M
  rw[hb.frozen (a0 _ U)];exact hz b off U
 ·grind
 grind
def Z9s {f:FuncId} {L:Func} {s:ChangeSpec} {apart fresh handsOn again:Bool} {tb:TypeId} {shs:List (Bool×List Kd)} {args:Array Value} {M gs:List (DataW H)} {before:List MemPlace} {base:Nat}
  (D:s.vars=[]) (hl:laidOutB P=true) (a0:L.resultTypes= #[tb]) (a1:P.underlying tb=some .bool)
  (hr:L.params.toList.all (λt=>P.readableRec t&&decide (t<P.types.size))=true) (a8:L.params.toList.map (shK P)=shs.map some)
  (N:∀l:List (DataW H),l.length=shs.length->s.fn H l={results:=[.lit (.bool true)],args:=l})
  (a2:∀as:List Ar,as.map Ar.sh=shs->(∀a∈as,a.ok)->PCallM P f (as.map Ar.tv) ⟨[],[]⟩ (.v false [.bool true]) ⟨[],[]⟩)
  (a3:∀(j:Nat) (t:TypeId) (v:Value),L.params[j]? =some t->args[j]? =some v->Value.okWide P W .any base t v)
  (hW:DataW.Whole enc P L.params.toList s.vars apart W args.toList M gs before) (hG:Gt (λb=>b<W.heap.size) W):
  Calls P f args W λe W'=>∃v,e= .returned v/\s.post enc P L apart fresh handsOn again W args v W':=by
 have a4:=hW;obtain⟨p,q,hA,hV,rfl,a9,b1⟩:=hW;rw[D]at hV;obtain⟨rfl,rfl⟩:=trodVars_none hV;have b2:∀x∈p++[],x.block<W.heap.size:=λx hx=>a4.lt x hx;obtain⟨as,e1,e2,e3,e4⟩:=Qzr (r:= .any) (b0:=base) L.params.toList args.toList M p shs a8 (λj t v ht hv=>a3 j t v (by grind) (by grind)) hA;have b3:M.length=shs.length:=by
  have:∀(ts:List TypeId) (vs:List Value) (M:List (DataW H)) (p:List MemPlace),DataW.TrodAll enc P W 0 (λ_=>true) true ts vs M p->M.length=vs.length:=by
   intro ts;induction ts with
   |nil=>grind [trodAll_nil]
   |cons t ts ih=>grind [trodAll_cons]
  rw[this _ _ _ _ hA,e3,<-e1,aj]
 have a5:=N (M++[]) (by grind);have a6:RelE (Em (λb=>b<W.heap.size) W ⟨λ_=>0,λ_=> .slice none 0 0,λ_=>0,λb=>b<W.heap.size⟩ [] hG) (as.map Ar.tv) [] [] ⟨λ_=>0,λ_=> .slice none 0 0,λ_=>0,λb=>b<W.heap.size⟩ args.toList.toArray W:=by
  refine⟨by grind,λi v hi=> ?_,λv hv=> ?_,λk b O=>by grind [Ab],λk b O=>by grind [Ab],λk k' b b' O=>by grind [Ab],λid r hr=>by grind [Ab],
   λid id' r r' g hr=>by grind [Ab],λk b id r O=>by grind [Ab],λb hb=>⟨hb,λk bo O=>by grind [Ab],λid r hr=>by grind [Ab]⟩,Fr.refl _ _,λ_ h=>h,λ_ h=>h,λb h=> .inl h,λk b O=>by grind [Em,Ab]⟩
  ·simp only[fq,dc]at hi;obtain⟨a,U,rfl⟩:=hi;have I:i<args.toList.length:=by rw[e3];exact(fv.1 U).1
   have a7:i<args.size:=by simpa using I
   have e:args.toList.toArray.getD i undef=args.toList[i]:=by simp[Array.getD,a7]
   rw[e];exact e4 i a _ U (an I) _ rfl
  simp only[bj]at hv;obtain⟨a,U,rfl⟩:=hv;intro c V;obtain⟨i,hi⟩:=List.getElem?_of_mem U;have I:i<args.toList.length:=by rw[e3];exact(fv.1 hi).1
  have b4:=e4 i a _ hi (an I) ⟨λ_=>0,λ_=> .slice none 0 0,λ_=>0,λb=>b<W.heap.size⟩ rfl;have X:∀(ks:List Kd) (cs:List AC) (j:Nat),∀c∈EZ ks cs j,AC.calm c=true:=by
   intro ks;induction ks with
   |nil=>grind [EZ]
   |cons k ks ih=>
    intro cs j c V;simp only[EZ,be]at V;rcases V with rfl|V
    ·cases k<;>try rfl
     generalize nth AC.vD cs j=b;cases b<;>rfl
    grind
  have:=X a.ks a.raw 0 c V;cases c<;>first|trivial|(simp[AC.calm]at this)
 have G:=a2 as e1 e2 _ args.toList a6;have Y:args.toList.toArray=args:=by simp
 rw[Y]at G;refine G.mono ?_;rintro e W' ⟨x,ρ',rfl,hR⟩;have hb:Below W.heap.size W W':=⟨hR.fr.os,hR.fr.tape,hR.fr.output,hR.fr.size,λk O=>hR.fr.block k O⟩;have hx:x= .bool true:=by
  have:TVR ρ' W' (.c (.bool true)) x:=by simpa using hR.tv 0 _ rfl
  obtain⟨a,U,V⟩:=this;simp at U;subst U;simpa [CC,CP]using V
 subst hx;refine⟨_,rfl,Zv9 (pa:=p) (pv:=[]) a4 ?_ ?_ ?_ rfl hb (ok_one a0 rfl (okWide_bool_mk a1 true))⟩
 ·intro b sp hd;rw[a5,a0];exact trodAll_mk1 (shut_bool a1 true)
 ·grind [Q2l]
 intro sp b5;rw[a5,D];rfl
end
def O1:∀{l:List (Nat×Spec)} {k:Nat} {b:Spec},GF l k=some b->(k,b)∈l
 |[],_,_,h=>by grind [GF]
 |(j,c)::l,k,b,h=>by
  simp only[GF]at h;cases hb:Nat.beq j k<;>rw[hb]at h
  ·simp at h;exact fj _ (O1 h)
  simp_all
def IY (P:Program) (f:FuncId):Bool:=match P.funcs[f]? with
 |some fn=> !(fn.name== "runtime.NumGoroutine")&&fn.body.isSome
 |none=>false
def JU {P:Program} {f:FuncId} (h:IY P f=true):Pr P f:=by
 unfold IY at h;split at h
 ·rename_i D hf;simp only[ak,Bool.not_eq_true']at h;exact⟨D,hf,h.1,by simp_all⟩
 grind
def Bx (P:Program) (p:Nat×Spec):Prop:=SpecRight P p.1 p.2
def AllOK (P:Program):List (Nat×Spec)->Prop
 |[]=>True
 |p::l=>Bx P p/\AllOK P l
def AllOK.mem {P:Program}:∀{l:List (Nat×Spec)},AllOK P l->∀p∈l,Bx P p
 |_::l,h,p,D=>by
  rcases be.1 D with rfl|D
  ·exact h.1
  exact AllOK.mem h.2 p D
def IA {P:Program} {C:Cfg} {l:List (Nat×Spec)} (G:C.spec=GF l) (h:AllOK P l) (I:C.ro=λ_=>false:=by rfl) (L:C.keepR=λ_=>false:=by rfl):AK P C:=by
 refine⟨λf g D=> ?_,λf g _ h=> ?_,λf g _ h=>(by grind)⟩
 ·rw[G]at D;exact h.mem _ (O1 D)
 grind
def AllRo (rs:List Nat):List (Nat×Spec)->Prop
 |[]=>True
 |p::l=>(AV rs p.1=false\/Ww p.2)/\AllRo rs l
def AllRo.mem {rs:List Nat}:∀{l:List (Nat×Spec)},AllRo rs l->∀p∈l,AV rs p.1=false\/Ww p.2
 |_::l,h,p,D=>by
  rcases be.1 D with rfl|D
  ·exact h.1
  exact AllRo.mem h.2 p D
abbrev O:=IntKind.wrap .i64
def G_ {P:Program} {C:Cfg} {l:List (Nat×Spec)} {rs:List Nat} (G:C.spec=GF l) (h:AllOK P l) (I:C.ro=λf=>AV rs f) (L:AllRo rs l) (M:C.keepR=λ_=>false:=by rfl):AK P C:=by
 refine⟨λf g D=> ?_,λf g D N=> ?_,λf g _ h=>(by grind)⟩
 ·rw[G]at D;exact h.mem _ (O1 D)
 rw[G]at D;rcases L.mem _ (O1 D)with h|h
 ·grind
 omega
theorem Ad {x:Int} (h: -9223372036854775808<=x/\x<=9223372036854775807:=by omega):O x=x:=by grind [IntKind.wrap,IntKind.signed,IntKind.bits]
section loops
variable {step:List AC->Option (Nat×List AC)}
def Qk5:∀{n:Nat} {vars:List AC} {o:Nat×List AC},Cf step n vars=some o->Cf step (n+1) vars=some o
 |0,_,_,h=>by grind [Cf]
 |n+1,vars,o,h=>by
  rw[Cf]at h⊢;simp only[bp]at h⊢;obtain⟨q,G,D⟩:=h;refine⟨q,G,?_⟩;split at D
  ·rename_i I;rw[ac I];exact Qk5 D
  grind
theorem Q6z {n m:Nat} {vars:List AC} {o:Nat×List AC} (D:n<=m) (h:Cf step n vars=some o):Cf step m vars=some o:=by
 induction D with
 |refl=>exact h
 |step _ G=>exact Qk5 G
theorem Z2g {n m:Nat} {vars:List AC} {o D:Nat×List AC} (h:Cf step n vars=some o) (h':Cf step m vars=some D):o=D:=by
 have G:=Q6z (Nat.le_max_left n m) h
 grind [Q6z,Nat.le_max_right]
open Classical in
noncomputable def Ak (step:List AC->Option (Nat×List AC)) (vars:List AC):Option (Nat×List AC):=
 if h:∃n o,Cf step n vars=some o then Cf step (Classical.choose h) vars else none
def OQ {vars:List AC} {o:Nat×List AC} (h:Ak step vars=some o):∃n,Cf step n vars=some o:=by
 unfold Ak at h;split at h
 ·grind
 grind
theorem Qi9 {n:Nat} {vars:List AC} {o:Nat×List AC} (h:Cf step n vars=some o):Ak step vars=some o:=by
 unfold Ak;have D:∃n o,Cf step n vars=some o:=⟨n,o,h⟩
 grind [Z2g]
theorem Vb (vars:List AC):Ak step vars=(step vars).bind λo=>if o.1=0 then Ak step o.2 else some o:=by
 cases L:step vars with
 |none=>
  cases D:Ak step vars with
  |none=>rfl
  |some o=>
   obtain⟨n,hn⟩:=OQ D;cases n with
   |zero=>grind [Cf]
   |succ n=>grind [Cf]
 |some q=>
  simp;by_cases I:q.1=0
  ·rw[ac I];cases D:Ak step q.2 with
   |none=>
    cases G:Ak step vars with
    |none=>rfl
    |some o=>
     obtain⟨n,hn⟩:=OQ G;cases n with
     |zero=>grind [Cf]
     |succ n=>
      simp only[Cf]at hn
      grind [Qi9]
   |some o=>
    obtain⟨n,hn⟩:=OQ D;exact Qi9 (n:=n+1) (by simp_all [Cf])
  rw[ab I];exact Qi9 (n:=1) (by simp_all [Cf])
end loops
def KL:∀(c:Code) (b blk:Nat) (body:Code),(blk,body)∈A5 c b->(∀p∈A5 body blk,p∈A5 c b)/\(∀p∈CF body,p∈CF c)/\(∀p∈BO body blk,p∈BO c b)
 | .seq x y,b,blk,body,h=>by
  simp only[A5,bt]at h;rcases h with h|h
  ·obtain⟨I,L,D⟩:=KL x b blk body h
   grind [A5,CF,BO]
  obtain⟨I,L,D⟩:=KL y b blk body h
  grind [A5,CF,BO]
 | .cond c x y,b,blk,body,h=>by
  simp only[A5,bt]at h;rcases h with h|h
  ·obtain⟨I,L,D⟩:=KL x b blk body h;exact⟨λp G=>by grind [A5],λp G=>by grind [CF],λp G=>by cases c<;>simp[BO,D p G]⟩
  obtain⟨I,L,D⟩:=KL y b blk body h;exact⟨λp G=>by grind [A5],λp G=>by grind [CF],λp G=>by cases c<;>simp[BO,D p G]⟩
 | .block id x,b,blk,body,h=>by
  obtain⟨I,L,D⟩:=KL x b blk body h
  grind [A5,CF,BO]
 | .loop x,b,blk,body,h=>by
  simp only[A5,be,ja]at h;rcases h with⟨rfl,rfl⟩|h
  ·grind [Jx,A5,CF,J9,BO]
  obtain⟨I,L,D⟩:=KL x b blk body h
  grind [A5,CF,BO]
 | .skip,_,_,_,h=>by grind [A5]
 | .region _ _ _,_,_,_,h=>by grind [A5]
 | .exit _,_,_,_,h=>by grind [A5]
 | .ret,_,_,_,h=>by grind [A5]
 | .rangeFunc _ _ _ _,_,_,_,h=>by grind [A5]
 | .scope x,b,blk,body,h=>by
  simp only[A5]at h;obtain⟨I,L,D⟩:=KL x b blk body h
  grind [A5,CF,BO]
 | .label _,_,_,_,h=>by grind [A5]
 | .goto _,_,_,_,h=>by grind [A5]
 | .refuse _,_,_,_,h=>by grind [A5]
structure FnOK (P : Program) (C : Cfg) (f : FuncId) : Prop where
 l:∀p∈G8 P f,∀sk g,C.loops p.1=some (sk,g)->Lu P (.loop p.2) sk g
 b:∀p∈ZN P f,∀sk g,C.blocks p.1=some (sk,g)->Lu P (.block p.1 p.2) sk g
 c:∀p∈X2 P f,∀sk g,C.conds p.1=some (sk,g)->Lu P (.cond (.tmp p.1) p.2.2.1 p.2.2.2) sk g
theorem FnOK.bare {P:Program} {C:Cfg} {f:FuncId} (D:C.loops=λ_=>none) (G:C.blocks=λ_=>none) (I:C.conds=λ_=>none):FnOK P C f:=
 ⟨λp _ sk g h=>by grind,λp _ sk g h=>by grind,λp _ sk g h=>by grind⟩
theorem FnOK.sub {P:Program} {C:Cfg} {f:FuncId} (h:FnOK P C f) {c:Code} (G:F4 P f=some c):SubOK P C c 0:=
 ⟨λp D=>h.l p (by grind [G8]),λp D=>h.b p (by grind [ZN]),λp D=>h.c p (by grind [X2])⟩
def Zbq {P:Program} {f blk:Nat} {c:Code} (h:Ab (G8 P f) blk=some c):AU P f blk=c:=by grind [AU]
def Xd {α:Type}:∀{l:List (Nat×α)} {k:Nat} {b:α},Ck (l.map (·.1))=true->(k,b)∈l->Ab l k=some b
 |[],_,_,_,h=>by grind
 |(j,c)::l,k,b,hd,h=>by
  have D:=Jl.1 hd;simp only[bz,List.nodup_cons]at D;simp only[Ab];rcases be.1 h with h|h
  ·simp_all
  have:j≠k:=by rintro rfl;exact D.1 (bj.2 ⟨(j,b),h,rfl⟩)
  rw[KS this];exact Xd (Jl.2 D.2) h
def FnOK.subLoop {P:Program} {C:Cfg} {f:FuncId} (h:FnOK P C f) {blk:Nat} {body:Code} (D:(blk,body)∈G8 P f):SubOK P C body blk:=by
 unfold G8 at D;split at D
 ·rename_i c I;obtain⟨L,M,N⟩:=KL c 0 blk body D;exact⟨λp G=>h.l p (by grind [G8]),λp G=>h.b p (by grind [ZN]),λp G=>h.c p (by grind [X2])⟩
 grind
theorem FnOK.loop {P:Program} {C:Cfg} {f:FuncId} (h:FnOK P C f) (G:AK P C) (O:∀t∈C.eqOk,P.stoodInHeld t=false) (M:P.follows .mixedOrders=true) {L blk:Nat} {sk:Sk} {D:List (Ex×Sk)}
  (hd:Ck ((G8 P f).map (·.1))=true) (U:sk.okB=true):FnOK P (C.loop blk sk D (Ak (AR P C L blk (AU P f blk) sk D))) f:=by
 refine⟨λp V X g N=> ?_,h.b,h.c⟩;simp only[Cfg.loop]at N;cases hb:Nat.beq p.1 blk<;>rw[hb]at N
 ·exact h.l p V X g N
 have e:=ah hb;subst e;obtain⟨rfl,rfl⟩:=N;have I:=Zbq (Xd hd V);rw[I];exact Z3d G O M U (h.subLoop V) λvars o Y=>OQ Y
def Qir {P:Program} {C:Cfg} {f:FuncId} {L:Nat} {sig D:Sk} (O:IY P f=true) (h:FnOK P C f) (G:AK P C) (N:∀t∈C.eqOk,P.stoodInHeld t=false) (M:P.follows .mixedOrders=true)
  (U:sig.okB=true) (V:D.okB=true):Bx P (f,Ah sig D (Aj P C L f sig D)):=
 Zy2 G N M (JU O) U V (λ_ I=>h.sub I) λ_ _ X=>X
def Yfg {P:Program} {C:Cfg} {f:FuncId} {L:Nat} {sig D:Sk} (_:IY P f=true) (h:FnOK P C f) (G:AK P C) (O:∀t∈C.eqOk,P.stoodInHeld t=false) (M:P.follows .mixedOrders=true)
  (U:sig.okB=true) (V:D.okB=true) (args:List TV) (v:TV) (mem':Mem) (N:(Ah sig D (Aj P C L f sig D) (TV×Mem) args ⟨[],[]⟩ λv m=>some (v,m))=some (v,mem')):PCallM P f args ⟨[],[]⟩ v mem':=
 Q44 G O M U V (λ_ I=>h.sub I) (λ_ _ X=>X) N
def Ybs {P:Program} {f:FuncId} {sig D:Sk}:Bx P (f,Ah sig D λ_=>none):=by
 refine⟨SM,λargs mem v mem' h=> ?_⟩;simp only[Ah]at h
 grind
section
variable {H α:Type}
def Ybk (F G:List (DataW H)->α) (h:∀a b c d e,F [a,b,c,d,e]=G [a,b,c,d,e]) (l:List (DataW H)) (D:l.length=5):F l=G l:=by
 match l,D with
 |[a,b,c,d,e],_=>grind
end
def Sa {l:List Ar} {s:Bool×List Kd} {D:List (Bool×List Kd)} (h:l.map Ar.sh=s::D):∃a G,l=a::G/\a.agg=s.1/\a.ks=s.2/\G.map Ar.sh=D:=by
 cases l with
 |nil=>grind
 |cons a G=>
  simp at h;refine⟨a,G,rfl,?_,?_,h.2⟩
  ·rw[<-h.1];rfl
  rw[<-h.1];rfl
def Zy4 {l:List Ar} (h:l.map Ar.sh=[]):l=[]:=by simp_all
open Go.RowKit
section
variable {P:Program} {C:Cfg} {w:World} {Z:Base} {R:Type}
def Xh (o:Oper):Bool:=match o.dst with
 |some 0=>false
 |_=>true
def kpC:Code->Bool
 | .skip=>true
 | .region _ ops draw=> !draw&&Al Xh ops.toList
 | .seq x y=>kpC x&&kpC y
 | .cond _ x y=>kpC x&&kpC y
 | .block _ b=>kpC b
 | .loop b=>kpC b
 | .exit _=>true
 | .ret=>true
 |_=>false
def Yax {a:Act} {o:Oper} {x:Value} (h:Xh o=true):(a.put o.dst x).tmps.getD 0 undef=a.tmps.getD 0 undef:=by
 unfold Xh at h;cases hd:o.dst with
 |none=>rfl
 |some d=>
  cases d with
  |zero=>grind
  |succ d=>simp[Act.put]
def Ql7 (D:AK P C) (I:∀t∈C.eqOk,P.stoodInHeld t=false) {ops:Array Oper} {Q:Exit->Act->World->Prop} {K:St->Option R} {r:R}:
  ∀(l:List Oper) (s:St) (a:Act) (w:World),Al Xh l=true->Rel Z s a.tmps w->K_ P C ops.toList l s K=some r->
  (∀(L:St) (G:Act) (w':World),K L=some r->Rel Z L G.tmps w'->G.defers=a.defers->G.tmps.getD 0 undef=a.tmps.getD 0 undef->Q .normal G w')->wpList P ops Q l a w
 |[],s,a,w,M,N,h,O=>O s a w h N rfl rfl
 |o::l,s,a,w,M,N,h,O=>by
  rw[Au]at M;have V:=M o (List.mem_cons_self ..);have := Qw6 (Q := Q) D I N h (λpo L G w' X U hd => Ql7 D I l L G w' (Au.2 λx Y => M x (fj _ Y)) U X (λs2 a2 w2 h1 h2 h3 h4 => by
   obtain⟨x,rfl⟩:=hd;exact O s2 a2 w2 h1 h2 (h3.trans (by cases o.dst<;>rfl)) (h4.trans (Yax V))))
  simp only[wpList]
  grind
def Ws (Z:Base) (K:Ex->St->Option R) (r:R) (d:List Deferred) (G:Value):Exit->Act->World->Prop:=
 λe a w=>∃D s,Mb D=e/\K D s=some r/\Rel Z s a.tmps w/\a.defers=d/\a.tmps.getD 0 undef=G
def Q7y (P:Program) (c:Code) (sk:Sk) (g:Jw):Prop:=
 ∀(Z:Base) (_:InZ Z) (a:Act) (w:World) (vars:List AC) (R:Type) (K:Ex->St->Option R) (r:R),Rel Z (AG sk vars) a.tmps w->g R vars K=some r->c.wp P (Ws Z K r a.defers (a.tmps.getD 0 undef)) a w
structure KeepOK (P : Program) (C : Cfg) (c : Code) : Prop where
 l:∀p∈A5 c 0,∃sk g,C.loops p.1=some (sk,g)/\Q7y P (.loop p.2) sk g
 b:C.blocks=λ_=>none
 c:C.conds=λ_=>none
def Kh (D:AK P C) (X:∀t∈C.eqOk,P.stoodInHeld t=false) (N:P.follows .mixedOrders=true) (hZ:InZ Z) {r:R} {d:List Deferred} {x0:Value}:
  ∀(c:Code) (L blk:Nat) (s:St) (a:Act) (w:World) (K:Ex->St->Option R),kpC c=true->KeepOK P C c->Rel Z s a.tmps w->a.defers=d->a.tmps.getD 0 undef=x0->BC P C L c blk s K=some r->c.wp P (Ws Z K r d x0) a w
 | .skip,L,blk,s,a,w,K,O,G,I,hd,U,h=>wp_skip ⟨.normal,s,rfl,Q26 h,I,hd,U⟩
 | .region id ops draw,L,blk,s,a,w,K,O,G,I,hd,U,h=>by
  rw[BC]at h;obtain⟨s0,h,I⟩:=Vm hZ _ s I h;simp only[kpC,ak]at O;cases draw
  ·exact wp_region_list (Ql7 D X _ s0 a w O.2 I h λs' a' w' hK M V h'=>⟨.normal,s',rfl,hK,M,V.trans hd,h'.trans U⟩)
  grind
 | .seq x y,L,blk,s,a,w,K,O,G,I,hd,U,h=>by
  rw[BC]at h;simp only[kpC,ak]at O;refine wp_seq (wp_mono (Kh D X N hZ x L blk s a w _ O.1 ⟨λp hp=>G.l p (by simp[A5,hp]),G.b,G.c⟩ I hd U h) ?_);rintro e a' w' ⟨ae,s',rfl,hK,M,V,Y⟩;cases ae with
  |normal=>exact Kh D X N hZ y L blk s' a' w' K O.2 ⟨λp hp=>G.l p (by simp[A5,hp]),G.b,G.c⟩ M V Y hK
  |exit id=>exact⟨.exit id,s',rfl,hK,M,V,Y⟩
  |ret=>exact⟨.ret,s',rfl,hK,M,V,Y⟩
 | .cond c x y,L,blk,s,a,w,K,O,G,I,hd,U,h=>by
  simp only[kpC,ak]at O;have hx:KeepOK P C x:=⟨λp hp=>G.l p (by simp[A5,hp]),G.b,G.c⟩;have hy:KeepOK P C y:=⟨λp hp=>G.l p (by simp[A5,hp]),G.b,G.c⟩;rw[BC]at h;have hn:Wo C c=none:=by
   unfold Wo;split
   ·rw[G.c]
   rfl
  rw[hn]at h;simp only[LK]at h;split at h
  ·rename_i g hg;have a2:a.eval c= .bool g:=by
    obtain⟨ρ,a0⟩:=I;have:=Wn a0 c;rw[hg]at this;exact this.bool
   refine wp_cond a2 ?_;split at h
   ·rename_i t;have a3:∀b,g=b->Rel Z ⟨setL s.tmps t (.c (.bool b)),s.aB,s.aC⟩ a.tmps w:=by
     rintro b rfl;obtain⟨ρ,a0⟩:=I;exact⟨ρ,a0.learn t (by have e:a.tmps.getD t undef= .bool g:=a2;grind [TVR.mkBool]) (F0 _)⟩
    cases g
    ·simp only[bn]at h;rw[FN]at h;exact Kh D X N hZ y L blk _ a w K O.2 hy (a3 false rfl) hd U h
    simp only[am]at h;rw[FN]at h;exact Kh D X N hZ x L blk _ a w K O.1 hx (a3 true rfl) hd U h
   cases g
   ·exact Kh D X N hZ y L blk s a w K O.2 hy I hd U h
   exact Kh D X N hZ x L blk s a w K O.1 hx I hd U h
  grind
 | .block id body,L,blk,s,a,w,K,O,G,I,hd,U,h=>by
  have hb:KeepOK P C body:=⟨λp hp=>G.l p (by simp[A5,hp]),G.b,G.c⟩;rw[BC]at h;rw[G.b]at h;simp only[LK]at h;refine wp_block (wp_mono (Kh D X N hZ body L id s a w _ O hb I hd U h) ?_);rintro e a' w' ⟨ae,s',rfl,hK,M,V,Y⟩;cases ae with
  |normal=>exact⟨.normal,s',rfl,hK,M,V,Y⟩
  |exit i=>
   simp only[Mb,Exit.inBlock];dsimp only at hK;cases hb:Nat.beq i id<;>rw[hb]at hK
   ·have:i≠id:=λe=>by simp_all
    rw[ab this];exact⟨.exit i,s',rfl,hK,M,V,Y⟩
   rw[ac (ah hb)];exact⟨.normal,s',rfl,hK,M,V,Y⟩
  |ret=>exact⟨.ret,s',rfl,hK,M,V,Y⟩
 | .loop body,L,blk,s,a,w,K,O,G,I,hd,U,h=>by
  rw[BC]at h;obtain⟨s',h',M⟩:=Rz _ s a.tmps I _ r h;obtain⟨s1,h1,a1⟩:=Oa M h';obtain⟨sk,g,hs,a4⟩:=G.l (Tf body,body) (by simp[A5]);rw[hs]at h1;simp only[LK]at h1;obtain⟨a5,h2⟩:=BY h1;split at h2
  ·rename_i vars hv;obtain⟨ρ,a1⟩:=a1;obtain⟨tm,aB,aC⟩:=s1;subst hd;subst U;exact a4 Z hZ a w vars R K r ⟨ρ,a1.rebuild hZ a5 hv⟩ h2
  grind
 | .exit id,L,blk,s,a,w,K,O,G,I,hd,U,h=>wp_exit ⟨.exit id,s,rfl,h,I,hd,U⟩
 | .ret,L,blk,s,a,w,K,O,G,I,hd,U,h=>wp_ret ⟨.ret,s,rfl,h,I,hd,U⟩
 | .rangeFunc f ps a6 body,L,blk,s,a,w,K,O,G,I,hd,U,h=>by grind [BC]
 | .scope b,L,blk,s,a,w,K,O,G,I,hd,U,h=>by grind [kpC]
 | .label l,L,blk,s,a,w,K,O,G,I,hd,U,h=>by grind [kpC]
 | .goto l,L,blk,s,a,w,K,O,G,I,hd,U,h=>by grind [BC]
 | .refuse a7,L,blk,s,a,w,K,O,G,I,hd,U,h=>by grind [BC]
def Zqo (I:AK P C) (a0:∀t∈C.eqOk,P.stoodInHeld t=false) (O:P.follows .mixedOrders=true) {L blk:Nat} {body:Code} {sk:Sk} {D:List (Ex×Sk)} {m:List AC->Option (Nat×List AC)}
  (a1:sk.okB=true) (hc:kpC body=true) (U:KeepOK P C body) (hm:∀vars o,m vars=some o->∃n,Cf (AR P C L blk body sk D) n vars=some o):Q7y P (.loop body) sk (gOf D m):=by
 intro Z hZ a w vars R K r hR h;simp only[gOf,bp]at h;obtain⟨⟨t,o⟩,h1,h2⟩:=h;obtain⟨n,hn⟩:=hm vars _ h1;have key:∀(n:Nat) (vars:List AC) (N:Act) (w':World),Rel Z (AG sk vars) N.tmps w'->N.defers=a.defers->N.tmps.getD 0 undef=a.tmps.getD 0 undef->Cf (AR P C L blk body sk D) n vars=some (t,o)->Code.rounds P body (Ws Z K r a.defers (a.tmps.getD 0 undef)) n N w':=by
  intro n;induction n with
  |zero=>grind [Cf]
  |succ n ih=>
   intro vars N w' a3 a4 a5 h;simp only[Cf,bp]at h;obtain⟨⟨t',o'⟩,q1,q2⟩:=h;refine wp_mono (Kh I a0 O hZ body L blk _ N w' _ hc U a3 a4 a5 q1) ?_;rintro e a2 w2 ⟨ae,s',rfl,hK,V,X,Y⟩;have G:∀e':Ex,K8 D 1 e' s'=some (t',o')->Ws Z K r a.defers (a.tmps.getD 0 undef) (Mb e') a2 w2:=by
    intro e' hx;obtain⟨p1,a6,p2,p3⟩:=Qgm hZ V hx;have ht:t'≠0:=by omega
    rw[ab ht]at q2;obtain⟨rfl,rfl⟩:=q2;rw[p2 R K]at h2;exact⟨e',_,rfl,h2,p3,X,Y⟩
   cases ae with
   |normal=>
    obtain⟨s3,h3,M⟩:=Oa V hK;split at h3
    ·rename_i vars' hv;obtain⟨rfl,rfl⟩:=h3;obtain⟨ρ,M⟩:=M;exact ih _ a2 w2 ⟨ρ,M.rebuild hZ a1 hv⟩ X Y q2
    grind
   |exit i=>exact G _ hK
   |ret=>exact G _ hK
 exact wp_loop_rounds n (key n vars a w hR rfl rfl hn)
def Z6l (N:AK P C) (a0:∀t∈C.eqOk,P.stoodInHeld t=false) (V:P.follows .mixedOrders=true) (hZ:InZ Z) (hk:C.keepIn=true) {L:Nat} {f:FuncId} {args:List TV} {mem:Mem} {K:TV->Mem->Option R} {r:R}
  (X:∀c,F4 P f=some c->kpC c=true/\KeepOK P C c) (h:Ew P C L f args mem K=some r) {ρ:Env} {xs:List Value} (D:RelE Z args mem.aB mem.aC ρ xs.toArray w):
  Calls P f xs.toArray w λe w'=>∃x O v m,e= .returned x/\K v m=some r/\RelE Z [v] m.aB m.aC O #[x] w'/\((xs.toArray++Array.replicate ((match P.funcs[f]? with|some G=>G.ntmps|none=>0)-xs.toArray.size) undef).getD 0 undef)=O.rv base:=by
 unfold Ew at h;split at h
 ·rename_i G a1;split at h
  ·rename_i c hc;obtain⟨_,h⟩:=BY h;simp only[A8]at h;have I:P.funcs[f]? =some G:=by simpa using a1
   have hs:=X c (by grind [F4]);refine calls_of_wp I hc ?_;have hlen:xs.length=args.length:=by simpa using D.tl.symm
   have hR:Rel Z ⟨args++List.replicate (G.ntmps-args.length) TV.vD,mem.aB,mem.aC⟩ (xs.toArray++Array.replicate (G.ntmps-xs.toArray.size) undef) w:=by
    refine⟨ρ,D.slots (by grind) (λi u Y=> ?_) (λu U=> ?_)⟩
    ·rw[f6]at Y;split at Y
     ·rename_i a7;have a2:i<xs.length:=by omega
      have e:(xs.toArray++Array.replicate (G.ntmps-xs.toArray.size) undef).getD i undef=xs.toArray.getD i undef:=by
       simp[Array.getElem?_append,a2]
      rw[e];exact D.tv i u Y
     have:=df Y;rw[fy]at this;rw[this.2];trivial
    rw[bt]at U;rcases U with U|U
    ·exact D.wt u U
    rw[fy]at U;rw[U.2];trivial
   refine wp_mono (Kh N a0 V hZ c L 0 _ ⟨_,[]⟩ w _ hs.1 hs.2 hR rfl rfl h) ?_;rintro e a' w' ⟨ae,s,rfl,hK,a3,hd,h0⟩;have a4:∀k b,Z.K0 k=some b->k∈mem.aB.map (·.1):=by
    intro k b hk;obtain⟨_,bo,a5⟩:=D.k0 k b hk;exact Lx.2 ⟨bo,a5⟩
   have M:Oj P C G (mem.aB.map (·.1)) s K=some r->a'.defers=[]/\∃x,(results G a'.tmps).run P w'= .ok x w'/\∃y O v m,Ending.returned x= .returned y/\K v m=some r/\RelE Z [v] m.aB m.aC O #[y] w'/\((xs.toArray++Array.replicate ((match P.funcs[f]? with|some G=>G.ntmps|none=>0)-xs.toArray.size) undef).getD 0 undef)=O.rv base:=by
    intro hf;obtain⟨x,O,v,m,a6,h1,h2,h3⟩:=Qhy a3 a4 hf;refine⟨hd,x,h1,x,O,v,m,rfl,a6,h2,?_⟩;rw[I];exact h0.symm.trans (h3 hk)
   cases ae with
   |normal=>
    obtain⟨q1,x,q2,q3⟩:=M hK;exact⟨q1,x,q2,q3⟩
   |ret=>
    obtain⟨q1,x,q2,q3⟩:=M hK;exact⟨q1,x,q2,q3⟩
   |exit id=>grind
  grind
 grind
def Zst {sig:Sk} (G:∃w D,sig.tmps= .v false [.own base w]::D) {vars:List AC} {args:List TV} {b:List (Nat×Box)} {r:List (Nat×Row)} (h:AG sig vars=⟨args,b,r⟩):∃w n l,args= .v false [.own base w n]::l:=by grind [AG,E1,H7,D5,DM]
def Zuu (I:AK P C) (Y:∀t∈C.eqOk,P.stoodInHeld t=false) (U:P.follows .mixedOrders=true) (hk:C.keepIn=true) {L:Nat} {f:FuncId} (M:Pr P f) {sig D:Sk} (h1:sig.okB=true) (h2:D.okB=true)
  (h0:∃w ts,sig.tmps= .v false [.own base w]::ts)
  (V:∀c,F4 P f=some c->kpC c=true/\KeepOK P C c):P1 P f (Ah sig D (Aj P C L f sig D)):=by
  intro args mem v mem' h;obtain⟨aB,aC⟩:=mem;obtain⟨a0,h⟩:=BY h;split at h
  ·rename_i vars hv;simp only[bp]at h;obtain⟨o,N,h⟩:=h;intro F w hG ρ xs a1;have hZ:InZ (Em F w ρ aB hG):=Pc a0;have G:=a1.rebuild hZ h1 hv;unfold Aj at N;have X:=λargs b r=>Zst h0 (vars:=vars) (args:=args) (b:=b) (r:=r);generalize hs:AG sig vars=s1 at N G X;obtain⟨w0,n0,l0,ha⟩:=X _ _ _ rfl;have a4:xs.toArray.getD 0 undef=ρ.rv base:=by
    obtain⟨y,hy,hc⟩:=G.tv 0 (.v false [.own base w0 n0]) (by grind);simp at hy;subst hy;exact hc.1
   have hlen:0<xs.length:=by
    have:=G.tl;rw[ha]at this;simp at this;omega
   refine .inl ⟨M,(Z6l I Y U hZ hk V N G).mono ?_⟩;rintro e w' ⟨x,ρ',v',m',he,a2,a3,a5⟩;have O:=a3.rebuild hZ h2 a2;generalize a6:AG D o=s2 at h O;obtain⟨tm,b2,r2⟩:=s2;dsimp only at h O;split at h
   ·simp at h;obtain⟨rfl,rfl⟩:=h;refine⟨x,ρ',he,O,?_⟩;simp_all [Array.getElem?_append]
   grind
  grind
def Z41 (I:AK P C) (U:∀t∈C.eqOk,P.stoodInHeld t=false) (N:P.follows .mixedOrders=true) {f:FuncId} {L blk:Nat} {sk:Sk} {D:List (Ex×Sk)} (hb:C.blocks=λ_=>none) (Y:C.conds=λ_=>none)
  (hl:(G8 P f).map (·.1)=[blk]) (V:sk.okB=true) (hk:(match F4 P f with|some c=>kpC c|none=>false)=true) (O:kpC (AU P f blk)=true) (X:(A5 (AU P f blk) 0).length=0):
  ∀c,F4 P f=some c->kpC c=true/\KeepOK P (C.loop blk sk D (Ak (AR P C L blk (AU P f blk) sk D))) c:=by
 intro c G;rw[G]at hk;refine⟨hk,λp hp=> ?_,hb,Y⟩;have hm:p∈G8 P f:=by unfold G8;rw[G];exact hp
 have h1:p.1=blk:=by
  have:=List.mem_map_of_mem (f:=(·.1)) hm;rw[hl]at this;simpa using this
 subst h1;have M:=Zbq (Xd (by rw[hl];rfl) hm);rw[M]at O X⊢;refine⟨sk,gOf D (Ak (AR P C L p.1 p.2 sk D)),by simp[Cfg.loop],Zqo I U N V O ⟨λq hq=> ?_,hb,Y⟩ λvars o ho=>OQ ho⟩
 grind
def AllKp (P:Program) (ks:List Nat):List (Nat×Spec)->Prop
 |[]=>True
 |p::l=>(AV ks p.1=false\/P1 P p.1 p.2)/\AllKp P ks l
def AllKp.mem {P:Program} {ks:List Nat}:∀{l:List (Nat×Spec)},AllKp P ks l->∀p∈l,AV ks p.1=false\/P1 P p.1 p.2
 |_::l,h,p,D=>by
  rcases be.1 D with rfl|D
  ·exact h.1
  exact AllKp.mem h.2 p D
def Fz {P:Program} {ks:List Nat} {p:Nat×Spec} {l:List (Nat×Spec)} (h:AV ks p.1=false) (D:AllKp P ks l):AllKp P ks (p::l):=⟨.inl h,D⟩
def Yec {P:Program} {ks:List Nat} {p:Nat×Spec} {l:List (Nat×Spec)} (h:P1 P p.1 p.2) (D:AllKp P ks l):AllKp P ks (p::l):=⟨.inr h,D⟩
def Ycp {P:Program} {ks:List Nat}:AllKp P ks []:=trivial
def Yaz {P:Program} {C:Cfg} {l:List (Nat×Spec)} {ks:List Nat} (G:C.spec=GF l) (h:AllOK P l) (I:C.keepR=λf=>AV ks f) (L:AllKp P ks l) (M:C.ro=λ_=>false:=by rfl):AK P C:=by
 refine⟨λf g D=> ?_,λf g _ h=>(by grind),λf g D N=> ?_⟩
 ·rw[G]at D;exact h.mem _ (O1 D)
 rw[G]at D;rcases L.mem _ (O1 D)with h|h
 ·grind
 omega
end
theorem Z1g {rl:Nat->Nat} {c:CS} {a:AC} {v:List AC} (he:Yg c a=true) (h:Ig c a=some v) {l:List AC} {i:Nat} (D:Seg l i v):DM rl l c i=(a,i+v.length):=by
 cases c<;>cases a<;>simp only[Yg]at he<;>try (simp at he;done)
 case int.int k k' n=>
  simp only[Ig,he,am,bm]at h;subst h
  grind [DM,Af,D.one,QX]
 case bool.bool b=>
  simp only[Ig,bm]at h;subst h
  grind [DM,EJ,D.one]
 case sl.vC ks G q=>
  simp only[Ig,he,am,bm]at h;subst h
  grind [DM,BI,D.one,Jq]
 simp_all [Ig,DM]
theorem Zco {rl:Nat->Nat} {l:List AC}:∀{cs:List CS} {as:List AC} {v:List AC},Qx cs as=true->G3 cs as=some v->∀{i},Seg l i v->D5 rl l cs i=(as,i+v.length)
 |[],[],v,_,h,i,_=>by simp[G3]at h;subst h;rfl
 |c::cs,a::as,v,he,h,i,D=>by
  simp only[Qx,ak]at he;simp only[G3]at h;split at h
  ·rename_i L G;split at h
   ·rename_i M I;simp at h;subst h;simp only[D5,Z1g he.1 G D.left,Zco he.2 I D.right,cg,jd]
   grind
  grind
 |[],_::_,_,he,_,_,_=>by grind [Qx]
 |_::_,[],_,he,_,_,_=>by grind [Qx]
theorem Qpa {rl:Nat->Nat} {l:List AC} {aB:List (Nat×Box)}:∀{bs:List (Nat×TypeId×List CS)} {m:List (Nat×Box)} {v:List AC},HY bs m=true->(∀p∈m,Ab aB p.1=some p.2)->
  Kv bs aB=some v->∀{i},Seg l i v->Fy rl l bs i=m
 |[],[],v,_,_,_,i,_=>rfl
 |(k,t,cs)::bs,(k',b)::m,v,he,D,h,i,G=>by
  simp only[HY,ak]at he;obtain⟨e1,e2,e3,I⟩:=he;have e1:=ah e1;subst e1;have hb:=D (k,b) (by simp);simp only[Kv,hb,e2]at h;split at h
  ·rename_i N L;split at h
   ·rename_i O M;simp at h;subst h;simp only[Fy,Zco e3 L G.left,Qpa I (λp U=>D p (by grind)) M G.right];simp_all
   grind
  grind
 |[],_::_,_,he,_,_,_,_=>by grind [HY]
 |_::_,[],_,he,_,_,_,_=>by grind [HY]
theorem Zfp:∀{bs:List (Nat×TypeId×List CS)} {m:List (Nat×Box)},HY bs m=true->m.map (·.1)=bs.map (·.1)
 |[],[],_=>rfl
 |(k,t,cs)::bs,(k',b)::m,he=>by
  simp only[HY,ak]at he;simp only[bz,Zfp he.2.2.2,ah he.1]
 |[],_::_,he=>by grind [HY]
 |_::_,[],he=>by grind [HY]
def Zx2 {sig D:Sk} {m:List AC->Option (List AC)} (R:Type) (args:List TV) (mem:Mem) (K:TV->Mem->Option R):ET sig D m R args mem K=(ET sig D m (TV×Mem) args mem λv m=>some (v,m)).bind λp=>K p.1 p.2:=by
 obtain⟨aB,aC⟩:=mem;simp only[ET];cases(Al (λp:Nat×Box=>D8 p.1) aB&&(HY sig.aB aB&&(aC.isEmpty&&(sig.aC.isEmpty&&Ck (sig.aB.map (·.1))))))
 ·rfl
 simp;cases DU sig ⟨args,aB,aC⟩with
 |none=>rfl
 |some vars=>grind
def Z9q {sig D:Sk} {m:List AC->Option (List AC)}:Ww (ET sig D m):=by
 intro args mem v G h;obtain⟨aB,aC⟩:=mem;simp only[ET]at h
 grind [Option.bind_eq_some_iff]
def Hu {rs:List Nat}:AllRo rs []:=trivial
def Cu {rs:List Nat} {k:Nat} {g:Spec} {l:List (Nat×Spec)} (h:AV rs k=false) (t:AllRo rs l):AllRo rs ((k,g)::l):=⟨.inl h,t⟩
def E6 {rs:List Nat} {k:Nat} {sig D:Sk} {m:List AC->Option (List AC)} {l:List (Nat×Spec)} (t:AllRo rs l):AllRo rs ((k,ET sig D m)::l):=⟨.inr Z9q,t⟩
def Zzo (P:Program) (C:Cfg) (L:Nat) (f:FuncId) (sig:Sk):Prop:=
 ∀(vars:List AC) (R:Type) (K:TV->Mem->Option R),Ew P C L f (AG sig vars).tmps ⟨(AG sig vars).aB,(AG sig vars).aC⟩ K=Ew P C L f (AG sig vars).tmps ⟨(AG sig vars).aB,(AG sig vars).aC⟩ λv _=>K v ⟨(AG sig vars).aB,(AG sig vars).aC⟩
open Classical in
def RE {P:Program} {C:Cfg} {f:FuncId} {L:Nat} {sig G:Sk} (hc:IY P f=true) (h:FnOK P C f) (a4:AK P C) (b4:∀t∈C.eqOk,P.stoodInHeld t=false) (b0:P.follows .mixedOrders=true)
  (h1:sig.okB=true) (h2:G.okB=true) (hl:Zzo P C L f sig):Bx P (f,ET sig G (Nd P C L f sig G)):=by
 refine⟨Zx2,λargs mem v mem' U=>PCallM.x ?_ (JU hc)⟩;obtain⟨aB,aC⟩:=mem;simp only[ET]at U;obtain⟨Y,U⟩:=BY U;simp only[ak]at Y;obtain⟨Y,hex,a5,V,b5⟩:=Y;have a5:aC=[]:=by simpa using a5
 have V:sig.aC=[]:=by simpa using V
 subst a5;split at U
 ·rename_i vars D;simp only[bp]at U;obtain⟨o,ho,U⟩:=U;intro F w hG ρ xs b6;have hZ:InZ (Em F w ρ aB hG):=Pc Y;have a6:=b6.rebuild hZ h1 D
  have M:(AG sig vars).aB=aB:=by
   simp only[DU]at D;obtain⟨_,D⟩:=BY D;rw[V]at D;simp only[Ke]at D;split at D
   ·rename_i b hb;split at D
    ·rename_i c b1;simp only[cq,bm]at D;subst D;simp only[AG,V,Hl];have X:=WO (aB:=aB) (aC:=[]) (ρ:=ρ) (w:=w) (rl:=DY []) ⟨λid r hl=>by grind [Ab]⟩ hb (l:=b++c) (i:=0) (Seg.all _).left;generalize b7:E1 (DY []) (b++c) sig.tmps 0=q at X;obtain⟨tm,i⟩:=q;have hi:i=0+b.length:=X.1;subst hi;have b8:=Zfp hex;refine Qpa hex (λp hp=>Xd (by grind) hp) b1 (Seg.all (b++c)).right
    grind
   grind
  have O:(AG sig vars).aC=[]:=by simp only[AG,V,Hl]
  have a7:=hl vars;unfold Nd at ho;generalize hs:AG sig vars=s1 at ho a6 a7 M O;obtain⟨a8,I,b9⟩:=s1;dsimp only at ho a6 a7 M O;subst M;subst O;have b2:Ew P C L f a8 ⟨I,[]⟩ (λv m=>if m=⟨I,[]⟩then DU G ⟨[v],[],[]⟩else none)=some o:=by
   rw[a7];simp only[ig];exact ho
  refine(Zlm a4 b4 b0 hZ (λ_ a9=>h.sub a9) b2 a6).mono ?_;rintro e w' ⟨x,ρ',v',m',he,N,a0⟩;split at N
  ·rename_i hm;subst hm;dsimp only at a0
   simp only[DU]at N;obtain⟨_,N⟩:=BY N;split at N
   ·rename_i a ha;split at N
    ·rename_i b hb;split at N
     ·rename_i c b1;simp only[bm]at N;subst N;split at U
      ·rename_i tm a1;split at U
       ·rename_i vn;simp only[bm,ja]at U;obtain⟨rfl,rfl⟩:=U;have a2:G.aC=[]:=by
         cases c1:G.aC with
         |nil=>rfl
         |cons p l=>grind [Ke,Ab]
        rw[a2]at ha;simp only[Ke,bm]at ha;subst ha;have X:=WO (aB:=I) (aC:=[]) (ρ:=ρ') (w:=w') (rl:=DY []) ⟨λid r hl=>by grind [Ab]⟩ hb (l:=[]++(b++c)) (i:=0) (show Seg (b++c) 0 b from(Seg.all (b++c)).left);simp only[AG,a2,Hl]at a1;have a3:=Qe4 (B':=I) (R':=[]) (keys:=[]) (rs:=[]) (rl:=DY []) (by simp) (by simp[Ab]) (ts:=G.tmps)
         (by
          have:=h2;simp only[Sk.okB,ak]at this;have c2:G.aB=[]:=by
           cases c3:G.aB with
           |nil=>rfl
           |cons p l=>grind [Kv,Ab]
          grind) ([]++(b++c)) 0
        generalize b7:E1 (DY []) ([]++(b++c)) G.tmps 0=q at X a1 a3;obtain⟨c4,i⟩:=q;simp only[St.mk.injEq]at a1;obtain⟨rfl,_,_⟩:=a1;obtain⟨u,b3,c0⟩:=X.2.2 0 vn rfl;simp only[List.getElem?_cons_zero,bm]at b3;subst b3;refine⟨x,ρ',he,a0.slots (by simp) (λi u hi=> ?_) (λu hu=>a3 u hu)⟩;cases i with
        |zero=>
         simp at hi;subst hi;have:=a0.tv 0 v' rfl;exact c0 _ (a0.wt v' (by simp)) this
        |succ i=>grind
       grind
      grind
     grind
    grind
   grind
  grind
 grind
abbrev I (n:Int):AC:= .int .i64 n
abbrev U (n:Int):AC:= .int .u64 n
abbrev B (b:Bool):AC:= .bool b
theorem In {x:Int} (h:0<=x/\x<=18446744073709551615):IntKind.u64.wrap x=x:=by grind [IntKind.wrap,IntKind.signed,IntKind.bits]
theorem Qap (x:Int):IntKind.u64.wrap x=x%18446744073709551616:=by rfl
theorem Qbe (x:Int):O x=(x+9223372036854775808)%18446744073709551616-9223372036854775808:=by
 simp[O,IntKind.wrap,IntKind.signed,IntKind.bits];omega
def i64 (x:Int):Prop:= -9223372036854775808<=x/\x<=9223372036854775807
def Zx0 (x:Int):i64 (O x):=by grind [Qbe,i64]
theorem GE {α:Type} {c:Bool} {a b:α} (h:c=true):(bif c then a else b)=a:=by grind
theorem CE {α:Type} {c:Bool} {a b:α} (h:c=false):(bif c then a else b)=b:=by grind
theorem E0 {α:Type} {p:Prop} {inst:Decidable p} {a b:α} (h:p):(bif@decide p inst then a else b)=a:=by grind
theorem BX {α:Type} {p:Prop} {inst:Decidable p} {a b:α} (h: ¬p):(bif@decide p inst then a else b)=b:=by grind
theorem Z1w {α:Type} {p:Prop} {inst:Decidable p} {a b:α}:(bif@decide p inst then a else b)=if p then a else b:=by simp
theorem Z64 {α:Type} {c:Bool} {a b:α}:(bif c then a else b)=if c=true then a else b:=by simp
theorem Zsf {a b:Bool}:((a&&b)=true)=(a=true/\b=true):=by simp
theorem Z01 {a b:Bool}:((a||b)=true)=(a=true\/b=true):=by simp
theorem Zpd {a:Bool}:((!a)=true)= ¬(a=true):=by simp
theorem Z6t {p:Prop} {inst:Decidable p}:(@decide p inst=true)=p:=by simp
theorem Z3r {a b:Int}:((a==b)=true)=(a=b):=by simp
theorem Zt8 {a b:Int}:((a !=b)=true)=(a≠b):=by simp
theorem Z2x {a b:Nat}:(Nat.beq a b=true)=(a=b):=by simp
theorem Zxq {a b:Nat}:(Nat.ble a b=true)=(a<=b):=by simp
attribute [go_sem ↓] Z1w Z64 Zsf Z01 Zpd Z6t Z3r Zt8 Z2x Zxq
theorem Iu {α:Type} (d x:α) (l:List α):nth d (x::l) 0=x:=by rfl
theorem Cx {α:Type} (d x:α) (l:List α) (n:Nat):nth d (x::l) (n+1)=nth d l n:=by rfl
theorem Id (k:IntKind) (n:Int):Af (.int k n)=n:=by rfl
theorem Qih (b:Bool):EJ (.bool b)=b:=by rfl
theorem Qiq (ks:List Kd) (l:List (List AC)):BI (.vC ks l)=l:=by rfl
theorem Zsh {p q:Prop} {i1:Decidable p} {D:Decidable q}:((@decide p i1== @decide q D)=true)=(p↔q):=by simp
theorem Yae {a b:Nat}:((a==b)=true)=(a=b):=by simp
attribute [go_sem ↓] Zsh Yae
attribute [go_sem] ig j8
attribute [go_sem] Iu Id Qih Qiq aq Cx
def ZI {S:Type} {step:List AC->Option (Nat×List AC)} (enc:S->List AC) (Inv:S->Prop) (m:S->Nat) (Q:Nat×List AC->Prop)
  (h:∀s,Inv s->(∃D,step (enc s)=some (0,enc D)/\Inv D/\m D<m s)\/∃o,step (enc s)=some o/\o.1≠0/\Q o):
  ∀s,Inv s->∃o,Ak step (enc s)=some o/\o.1≠0/\Q o:=by
 have:∀n s,m s<=n->Inv s->∃o,Ak step (enc s)=some o/\o.1≠0/\Q o:=by
  intro n;induction n with
  |zero=>grind [Vb]
  |succ n I=>grind [Vb]
 intro s G;exact this _ s (dm _) G
theorem Bw {step:List AC->Option (Nat×List AC)} {v w:List AC} (h:step v=some (0,w)):Ak step v=Ak step w:=by grind [Vb]
theorem Bc {step:List AC->Option (Nat×List AC)} {v:List AC} {o:Nat×List AC} (h:step v=some o) (D:o.1≠0):Ak step v=some o:=by grind [Vb]
def Z2a {sig D:Sk} {m:List AC->Option (List AC)} {args:List TV} {vars:List AC} (G:DU sig ⟨args,[],[]⟩=some vars) (I:m vars=some [B true]) (L:AG D [B true]=⟨[.v false [.bool true]],[],[]⟩):
  (Ah sig D m (TV×Mem) args ⟨[],[]⟩ λv m=>some (v,m))=some (.v false [.bool true],⟨[],[]⟩):=by simp_all [Ah,Al]
theorem Ar.tv_of {a:Ar} {g:Bool} {ks:List Kd} (D:a.agg=g) (G:a.ks=ks):a.tv= .v g (AX ks a.raw):=by grind [Ar.tv]
theorem IS {α:Type} (f:α->List AC) (d:List AC):∀(l:List α) (i:Nat) (h:i<l.length),nth d (l.map f) i=f l[i]
 |x::l,0,_=>rfl
 |x::l,i+1,h=>by simp only[bz,nth,List.getElem_cons_succ];exact IS f d l i (by grind)
theorem Fu {α:Type} (d:α):∀(l:List α) (i:Nat) (h:i<l.length),nth d l i=l[i]
 |x::l,0,_=>rfl
 |x::l,i+1,h=>by simp only[nth,List.getElem_cons_succ];exact Fu d l i (by grind)
def Ap (n:Int):List AC:=[I n]
theorem NX {α:Type} (l:List α) (i:Nat) (h:i<l.length):l.drop i=l[i]::l.drop (i+1):=by simp
structure Pt where
 (x y z:Int)
structure Itm where
 (aP block:Int)
 (fr to:Pt)
 (aG:Int)
 (ce:Pt)
 (dir:Int)
 bI:Bool
 aZ:Int
 perRev:Bool
 (side radius bJ n aS:Int)
 on:Bool
structure Sgm where
 to:Pt
 (len aU aZ aX:Int)
structure Mrk where
 (at_ aP aU:Int)
structure Pth where
 aQ:Pt
 aF:List Sgm
 aD:List Mrk
structure Axs where
 (step aS bF bG low aY bB aV aO:Int)
 aW:List Int
structure Pce where
 (at_ aR s bD:Int)
 (was aT:Pt)
structure Trk where
 aE:List Pce
 (length aQ:Int)
 aT:Pt
structure Spk where
 (u w r h:Int)
instance:DecidableEq Pt:=λa b=>by
 obtain⟨a1,a2,a3⟩:=a;obtain⟨b1,b2,b3⟩:=b;exact decidable_of_iff (a1=b1/\a2=b2/\a3=b3) (by simp)
instance:DecidableEq Sgm:=λa b=>by
 obtain⟨a1,a2,a3,a4,a5⟩:=a;obtain⟨b1,b2,b3,b4,b5⟩:=b;exact decidable_of_iff (a1=b1/\a2=b2/\a3=b3/\a4=b4/\a5=b5) (by simp)
instance:DecidableEq Mrk:=λa b=>by
 obtain⟨a1,a2,a3⟩:=a;obtain⟨b1,b2,b3⟩:=b;exact decidable_of_iff (a1=b1/\a2=b2/\a3=b3) (by simp)
instance:DecidableEq Pce:=λa b=>by
 obtain⟨a1,a2,a3,a4,a5,a6⟩:=a;obtain⟨b1,b2,b3,b4,b5,b6⟩:=b;exact decidable_of_iff (a1=b1/\a2=b2/\a3=b3/\a4=b4/\a5=b5/\a6=b6) (by simp)
abbrev kI:Kd:= .int .i64
abbrev kB:Kd:= .bool
abbrev Aa:List Kd:=[kI]
abbrev kPt:List Kd:=[kI,kI,kI]
abbrev Ae:List Kd:=[kI,kI,kI,kI,kI,kI,kI,kI,kI,kI,kI,kI,kI,kB,kI,kB,kI,kI,kI,kI,kI,kB]
abbrev Ai:List Kd:=[kI,kI,kI,kI,kI,kI,kI]
abbrev AN:List Kd:=[kI,kI,kI]
abbrev An:List Kd:=[kI,kI,kI,kI,kI,kI,kI,kI,kI,kI]
abbrev En:List Kd:=[kI,kI,kI,kI]
abbrev ptR (p:Pt):List AC:=[I p.x,I p.y,I p.z]
abbrev Ag (t:Itm):List AC:=[I t.aP,I t.block,I t.fr.x,I t.fr.y,I t.fr.z,I t.to.x,I t.to.y,I t.to.z,I t.aG,I t.ce.x,I t.ce.y,I t.ce.z,I t.dir,B t.bI,I t.aZ,B t.perRev,I t.side,I t.radius,I t.bJ,I t.n,I t.aS,B t.on]
abbrev At (g:Sgm):List AC:=[I g.to.x,I g.to.y,I g.to.z,I g.len,I g.aU,I g.aZ,I g.aX]
abbrev Aq (m:Mrk):List AC:=[I m.at_,I m.aP,I m.aU]
abbrev AT (c:Pce):List AC:=[I c.at_,I c.aR,I c.s,I c.bD,I c.was.x,I c.was.y,I c.was.z,I c.aT.x,I c.aT.y,I c.aT.z]
abbrev Dp (s:Spk):List AC:=[I s.u,I s.w,I s.r,I s.h]
abbrev BG (p:Pth):List AC:=[I p.aQ.x,I p.aQ.y,I p.aQ.z, .vC Ai (p.aF.map At), .vC AN (p.aD.map Aq)]
abbrev BK (x:Axs):List AC:=[I x.step,I x.aS,I x.bF,I x.bG,I x.low,I x.aY,I x.bB,I x.aV,I x.aO, .vC Aa (x.aW.map Ap)]
abbrev Bh (t:Trk):List AC:=[.vC An (t.aE.map AT),I t.length,I t.aQ,I t.aT.x,I t.aT.y,I t.aT.z]
structure Ax3 where
 (a b c:Axs)
abbrev AF (x:Ax3):List AC:=[I x.a.step,I x.a.aS,I x.a.bF,I x.a.bG,I x.a.low,I x.a.aY,I x.a.bB,I x.a.aV,I x.a.aO, .vC Aa (x.a.aW.map Ap),I x.b.step,I x.b.aS,I x.b.bF,I x.b.bG,I x.b.low,I x.b.aY,I x.b.bB,I x.b.aV,I x.b.aO, .vC Aa (x.b.aW.map Ap),I x.c.step,I x.c.aS,I x.c.bF,I x.c.bG,I x.c.low,I x.c.aY,I x.c.bB,I x.c.aV,I x.c.aO, .vC Aa (x.c.aW.map Ap)]
abbrev pxt (p:Pth) (x:Ax3) (t:Trk) (l:List AC):List AC:=
 I p.aQ.x::I p.aQ.y::I p.aQ.z:: .vC Ai (p.aF.map At):: .vC kPt (p.aD.map Aq)::
 I x.a.step::I x.a.aS::I x.a.bF::I x.a.bG::I x.a.low::I x.a.aY::I x.a.bB::I x.a.aV::I x.a.aO:: .vC Aa (x.a.aW.map Ap)::
 I x.b.step::I x.b.aS::I x.b.bF::I x.b.bG::I x.b.low::I x.b.aY::I x.b.bB::I x.b.aV::I x.b.aO:: .vC Aa (x.b.aW.map Ap)::
 I x.c.step::I x.c.aS::I x.c.bF::I x.c.bG::I x.c.low::I x.c.aY::I x.c.bB::I x.c.aV::I x.c.aO:: .vC Aa (x.c.aW.map Ap)::
 .vC An (t.aE.map AT)::I t.length::I t.aQ::I t.aT.x::I t.aT.y::I t.aT.z::l
abbrev Fh (p:Pth) (t:Trk) (l:List AC):List AC:=
 I p.aQ.x::I p.aQ.y::I p.aQ.z:: .vC Ai (p.aF.map At):: .vC kPt (p.aD.map Aq)::
 .vC An (t.aE.map AT)::I t.length::I t.aQ::I t.aT.x::I t.aT.y::I t.aT.z::l
def Zx8 {a:AC} (h:okC kI a):i64 (Af a):=by
 unfold okC at h;unfold i64;exact h
abbrev gA (l:List AC) (k:Nat):Int:=Af (nth .vD l k)
abbrev jA (l:List AC) (k:Nat):AC:= .int .i64 (Af (nth .vD l k))
abbrev wA (l:List AC) (k:Nat):List (List AC):=BI (nth .vD l k)
abbrev bA (l:List AC) (k:Nat):Bool:=EJ (nth .vD l k)
abbrev Fn:=List AC->Option (List AC)
abbrev Lp:=List AC->Option (Nat×List AC)
abbrev Rw:=List (List AC)
abbrev ci:CS:= .int .i64
abbrev tf:List CS->TS:= .v false
abbrev td:TS:= .vD
attribute [go_sem] gA jA wA bA da cq
theorem Z7u (r:List AC):AX Ae r=[jA r 0,jA r 1,jA r 2,jA r 3,jA r 4,jA r 5,jA r 6,jA r 7,jA r 8,jA r 9,jA r 10,jA r 11,jA r 12,B (bA r 13),jA r 14,B (bA r 15),jA r 16,jA r 17,jA r 18,jA r 19,jA r 20,B (bA r 21)]:=rfl
theorem Z63 (r:List AC):AX Ai r=[jA r 0,jA r 1,jA r 2,jA r 3,jA r 4,jA r 5,jA r 6]:=rfl
theorem Zwm (r:List AC):AX An r=[jA r 0,jA r 1,jA r 2,jA r 3,jA r 4,jA r 5,jA r 6,jA r 7,jA r 8,jA r 9]:=rfl
attribute [go_sem] Z7u Z63 Zwm
end Go.Bm
