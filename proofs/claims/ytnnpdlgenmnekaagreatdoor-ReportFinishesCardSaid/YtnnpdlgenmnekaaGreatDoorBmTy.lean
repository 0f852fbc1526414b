/- the abstract machine -/
import Derived.Test.YtnnpdlgenmnekaaGreatDoorBmDraw
import Derived.Orders
import Derived.Test.YtnnpdlgenmnekaaGreatDoorBmFz
import Derived.ProofKit
import Derived.Below
import Derived.OpenShut
import Derived.ChangeSame
import Derived.Deep.Slices
set_option linter.unusedVariables false
set_option linter.unusedSimpArgs false
namespace Go.Bm
open Go.RowKit
section
variable {P:Program} {C:Cfg} {w:World} {R:Type} {Z:Base}
theorem Sx {G D:Operand->TV}:∀(l:List Operand),(∀x∈l,G x=D x)->Cb G l=Cb D l
 |[],_=>rfl
 |x::l,h=>by simp only[Cb];rw[h x (by simp),Sx l λy I=>h y (by grind)]
theorem Qjg {G D:Operand->TV}:∀(l:List (Nat×Operand)),(∀p∈l,G p.2=D p.2)->Fy G l=Fy D l
 |[],_=>rfl
 |x::l,h=>by simp only[Fy];rw[h x (by simp),Qjg l λy I=>h y (by grind)]
theorem Q7j {G D:Operand->TV} (o:Option Operand) (h:∀x,o=some x->G x=D x):Kv G o=Kv D o:=by
 cases o with
 |none=>rfl
 |some x=>simp_all [Kv]
theorem K5 {G D:Operand->TV} {dst:Option Tmp} {o:Op} (h:∀x∈o.operands,G x=D x) (K:Prim->Option R):opK P C G dst o K=opK P C D dst o K:=by
 cases o<;>simp only[Op.operands]at h<;>simp only[opK]
 case move x=>grind
 case assign x=>grind
 case pick c a b=>grind
 case box t x=>grind
 case build t parts=>rw[Qjg parts.toList λp L=>h p.2 (by grind)]
 case buildSlice t n parts=>rw[Qjg parts.toList λp L=>h p.2 (by grind)]
 case makeSlice t a b=>grind
 case makeFunc T a b=>
  rw[Sx a.toList λx I=>h x (by grind),Sx b.toList λx I=>h x (by grind)]
 case load t a=>grind
 case store t a x=>grind
 case nilCheck x=>grind
 case binOp op t x y _=>grind
 case unOp op t x=>grind
 case convert s d x=>grind
 case fieldAddr t x i=>grind
 case field t x i=>grind
 case indexAddr t x ix=>grind
 case index t x ix=>grind
 case slice t x lo M mx=>
  rw[h x (by simp),Q7j lo λy N=>h y (by grind),Q7j M λy N=>h y (by grind)]
 case extract t i=>grind
 case call c=>
  have U:∀t,c.callee= .value (.tmp t)->G (.tmp t)=D (.tmp t):=λt V=>h _ (by grind [Call.operands]);have O:Cb G c.args.toList=Cb D c.args.toList:=Sx _ λx I=>h x (by grind [Call.operands]);rw[O]
  grind
theorem Qtp {tm:List TV} {d:Nat} {v:TV} {x:Operand} (h:x≠ .tmp d):AM (setL tm d v) x=AM tm x:=by
 cases x with
 |tmp t=>
  have D:d≠t:=λe=>h (by rw[e]);simp_all [AM,B8,Iq]
 |_=>rfl
def C1 (tm:List TV) (d:Option Tmp) (v:TV):List TV:=
 match d with
 |none=>tm
 |some t=>setL tm t v
theorem KQ (tm:List TV) (bx:List (Nat×Box)) (aC:List (Nat×Row)) (d:Option Tmp) (v:TV):RR ⟨tm,bx,aC⟩ d v=⟨C1 tm d v,bx,aC⟩:=by cases d<;>rfl
theorem OC {tm:List TV} {d e:Option Tmp} (v u:TV) (h:∀t,d=some t->e≠some t):C1 (C1 tm d v) e u=C1 (C1 tm e u) d v:=by
 cases d with
 |none=>rfl
 |some t=>
  cases e with
  |none=>rfl
  |some q=>simp_all [C1,Iq,List.set_comm]
def Dk (P:Program) (C:Cfg) (ops:List Oper) (o:Oper) (tm:List TV) (bx:List (Nat×Box)) (aC:List (Nat×Row)):Option (Option Prim×TV×List (Nat×Box)):=
 match Cf ops o tm with
 |some true=>(opK P C (AM tm) o.dst o.op some).bind λp=>(Aw (C:=C) o.dst (p.dr false) bx aC).bind λq=>some (some (p.dr false),q.1,q.2)
 |some false=>some (none, .tup [],bx)
 |none=>none
theorem Zh3 {d:Option Tmp} {p:Prim} {bx:List (Nat×Box)} {aC:List (Nat×Row)} (h:Prim.isApp (some p)=true):Aw (C:=C) d p bx aC=none:=by
 cases p<;>simp[Prim.isApp]at h
 rfl
theorem Z8v {d:Option Tmp} {p:Prim} {bx:List (Nat×Box)} {aC:List (Nat×Row)} (h:Prim.isMk (some p)=true):Aw (C:=C) d p bx aC=none:=by
 cases p<;>simp[Prim.isMk]at h<;>rfl
theorem Zcd {ops:List Oper} {o:Oper} {tm:List TV} {bx D:List (Nat×Box)} {aC:List (Nat×Row)} {p:Option Prim} {v:TV} (h:Dk P C ops o tm bx aC=some (p,v,D)):Prim.isMk p=false:=by
 unfold Dk at h;split at h
 ·cases G:opK P C (AM tm) o.dst o.op some with
  |none=>grind
  |some q=>
   rw[G]at h;simp only[am]at h;cases I:Prim.isMk (some (q.dr false))with
   |true=>grind [Z8v]
   |false=>
    cases L:Aw (C:=C) o.dst (q.dr false) bx aC with
    |none=>grind
    |some z=>grind
 ·simp at h;rw[<-h.1];rfl
 grind
theorem Zer {ops:List Oper} {o:Oper} {tm:List TV} {bx D:List (Nat×Box)} {aC:List (Nat×Row)} {p:Option Prim} {v:TV} (h:Dk P C ops o tm bx aC=some (p,v,D)):Prim.isApp p=false:=by
 unfold Dk at h;split at h
 ·cases G:opK P C (AM tm) o.dst o.op some with
  |none=>grind
  |some q=>
   rw[G]at h;simp only[am]at h;cases I:Prim.isApp (some (q.dr false))with
   |true=>grind [Zh3]
   |false=>
    cases L:Aw (C:=C) o.dst (q.dr false) bx aC with
    |none=>grind
    |some z=>grind
 ·simp at h;rw[<-h.1];rfl
 grind
theorem ON {ops:List Oper} {o:Oper} {tm:List TV} {bx D:List (Nat×Box)} {aC:List (Nat×Row)} {p:Option Prim} {v:TV} (h:Dk P C ops o tm bx aC=some (p,v,D)):
  Cp (P:=P) (C:=C) ops o ⟨tm,bx,aC⟩=some (p,⟨C1 tm o.dst v,D,aC⟩):=by
 have G:=Zer h;have I:=Zcd h;unfold Dk at h;unfold Cp;dsimp only;cases L:Cf ops o tm with
 |none=>grind
 |some b=>
  cases b
  ·grind [KQ]
  ·rw[L]at h;dsimp only at h⊢;cases M:opK P C (AM tm) o.dst o.op some with
   |none=>grind
   |some q=>
    rw[M]at h;simp only[am]at h⊢;cases N:Aw (C:=C) o.dst (q.dr false) bx aC with
    |none=>grind
    |some z=>simp_all [EP,KQ]
theorem Mw {ops:List Oper} {o:Oper} {tm:List TV} {bx:List (Nat×Box)} {aC:List (Nat×Row)} {p:Option Prim} {L:St} (h:Cp (P:=P) (C:=C) ops o ⟨tm,bx,aC⟩=some (p,L)) (N:Prim.isApp p=false) (I:Prim.isMk p=false):
  ∃v D,Dk P C ops o tm bx aC=some (p,v,D)/\L=⟨C1 tm o.dst v,D,aC⟩:=by
 unfold Cp at h;unfold Dk;dsimp only at h;cases M:Cf ops o tm with
 |none=>grind
 |some b=>
  cases b
  ·rw[M]at h;simp at h;obtain⟨rfl,rfl⟩:=h;simp[KQ]
  ·rw[M]at h;dsimp only at h⊢;cases O:opK P C (AM tm) o.dst o.op some with
   |none=>grind
   |some q=>
    rw[O]at h;simp only[am]at h⊢;cases G:EP (C:=C) o.dst (q.dr false) ⟨tm,bx,aC⟩with
    |none=>grind
    |some z=>
     rw[G]at h;simp at h;obtain⟨rfl,rfl⟩:=h;unfold EP at G;rw[N,I]at G;simp only[ay,bz]at G;obtain⟨y,T,rfl⟩:=G;simp_all [KQ]
theorem Qf5 {ops:List Oper} {o:Oper} {tm:List TV} {bx:List (Nat×Box)} {aC:List (Nat×Row)} {p:Option Prim} {I:St} (h:Cp (P:=P) (C:=C) ops o ⟨tm,bx,aC⟩=some (p,I)) (L:Prim.isApp p=true):
  Cf ops o tm=some true/\∃q id v D,opK P C (AM tm) o.dst o.op some=some q/\p=some (q.dr false)/\Kl o.dst (q.dr false)=some id/\KD o.dst aC (q.dr false)=some (v,D)/\I=⟨C1 (tm.map (TV.kill id)) o.dst v,bx.map λp=>(p.1,p.2.kill id),D⟩:=by
 unfold Cp at h;dsimp only at h;cases M:Cf ops o tm with
 |none=>grind
 |some b=>
  cases b
  ·grind [Prim.isApp]
  ·rw[M]at h;refine⟨rfl,?_⟩;dsimp only at h;cases N:opK P C (AM tm) o.dst o.op some with
   |none=>grind
   |some q=>
    rw[N]at h;simp only[am]at h;cases G:EP (C:=C) o.dst (q.dr false) ⟨tm,bx,aC⟩with
    |none=>grind
    |some z=>
     rw[G]at h;simp at h;obtain⟨rfl,rfl⟩:=h;unfold EP at G;rw[L]at G;simp only[ak]at G;split at G
     ·rename_i id hid;simp only[bz]at G;obtain⟨⟨y1,y2⟩,O,rfl⟩:=G;simp_all [WC,KQ]
     grind
theorem Qzj {ops:List Oper} {o:Oper} {tm:List TV} {bx:List (Nat×Box)} {aC D:List (Nat×Row)} {q:Prim} {id:Nat} {v:TV} (G:Cf ops o tm=some true) (I:opK P C (AM tm) o.dst o.op some=some q)
  (L:Kl o.dst (q.dr false)=some id) (M:KD o.dst aC (q.dr false)=some (v,D)) (N:Prim.isApp (some (q.dr false))=true):
  Cp (P:=P) (C:=C) ops o ⟨tm,bx,aC⟩=some (some (q.dr false),⟨C1 (tm.map (TV.kill id)) o.dst v,bx.map λp=>(p.1,p.2.kill id),D⟩):=by simp_all [Cp,EP,WC,KQ]
theorem TD {ops:List Oper} {o:Oper} {tm:List TV} {bx:List (Nat×Box)} {aC:List (Nat×Row)} {p:Option Prim} {M:St} (h:Cp (P:=P) (C:=C) ops o ⟨tm,bx,aC⟩=some (p,M)) (I:Prim.isMk p=true):
  Cf ops o tm=some true/\∃q v D,opK P C (AM tm) o.dst o.op some=some q/\p=some (q.dr false)/\mkD (C:=C) o.dst (q.dr false) aC=some (v,D)/\M=⟨C1 tm o.dst v,bx,D⟩:=by
 unfold Cp at h;dsimp only at h;cases N:Cf ops o tm with
 |none=>grind
 |some b=>
  cases b
  ·grind [Prim.isMk]
  ·rw[N]at h;refine⟨rfl,?_⟩;dsimp only at h;cases O:opK P C (AM tm) o.dst o.op some with
   |none=>grind
   |some q=>
    rw[O]at h;simp only[am]at h;cases G:EP (C:=C) o.dst (q.dr false) ⟨tm,bx,aC⟩with
    |none=>grind
    |some z=>
     rw[G]at h;simp at h;obtain⟨rfl,rfl⟩:=h;have L:Prim.isApp (some (q.dr false))=false:=by
      generalize q.dr false=T at I⊢;cases T<;>simp[Prim.isMk]at I<;>rfl
     unfold EP at G;rw[L,I]at G;simp only[ay,ak,bz]at G;obtain⟨⟨y1,y2⟩,U,rfl⟩:=G;simp_all [KQ]
theorem Te {ops:List Oper} {o:Oper} {tm:List TV} {bx:List (Nat×Box)} {aC D:List (Nat×Row)} {q:Prim} {v:TV} (M:Cf ops o tm=some true) (N:opK P C (AM tm) o.dst o.op some=some q)
  (O:mkD (C:=C) o.dst (q.dr false) aC=some (v,D)) (G:Prim.isMk (some (q.dr false))=true):
  Cp (P:=P) (C:=C) ops o ⟨tm,bx,aC⟩=some (some (q.dr false),⟨C1 tm o.dst v,bx,D⟩):=by
 have I:Prim.isApp (some (q.dr false))=false:=by
  generalize q.dr false=L at G⊢;cases L<;>simp[Prim.isMk]at G<;>rfl
 simp_all [Cp,EP,KQ]
theorem Zjd {id:Nat} {a:AC} (h:a.live=true):a.kill id=a:=by cases a<;>simp[AC.live]at h<;>rfl
theorem Zjo {id:Nat} {a:AC} (h:(a.kill id).live=true):a.kill id=a:=by
 cases a<;>simp only[AC.kill]at h⊢<;>try rfl
 all_goals
  grind [AC.live]
theorem Rq {id:Nat}:∀{l:List AC},Al AC.live l=true->l.map (AC.kill id)=l
 |[],_=>rfl
 |a::l,h=>by
  rw[Ax]at h;simp only[bj];rw[Zjd (h a (by simp)),Rq (Ax.2 λx D=>h x (by grind))]
theorem Sp {id:Nat}:∀{l:List AC},Al AC.live (l.map (AC.kill id))=true->l.map (AC.kill id)=l
 |[],_=>rfl
 |a::l,h=>by
  rw[Ax]at h;simp only[bj]at h⊢;rw[Zjo (h _ (by simp)),Sp (Ax.2 λx D=>h x (by grind))]
theorem UE (id:Nat):∀(tm:List TV) (t:Nat),nth .vD (tm.map (TV.kill id)) t=(nth .vD tm t).kill id
 |[],_=>rfl
 |_::_,0=>rfl
 |_::tm,t+1=>UE id tm t
theorem Rk {id:Nat} {tm:List TV} {x:Operand} {g:Bool} {cs:List AC} (h:AM tm x= .v g cs) (D:Al AC.live cs=true):AM (tm.map (TV.kill id)) x= .v g cs:=by
 cases x<;>try exact h
 grind [AM,UE,TV.kill,Rq]
theorem Qx {id:Nat} {tm:List TV} {x:Operand} {g:Bool} {cs:List AC} (h:AM (tm.map (TV.kill id)) x= .v g cs) (G:Al AC.live cs=true):AM tm x= .v g cs:=by
 cases x<;>try exact h
 simp only[AM]at h⊢;rw[UE]at h;cases I:nth TV.vD tm (by omega)with
 |vD=>grind [TV.kill]
 |tup ps=>grind [TV.kill]
 |v L D=>grind [TV.kill,Sp]
theorem YB {q:Prim} (h:Prim.isPtr (some (q.dr false))=true):∃k o,q= .val (.v false [.ptr k o]):=by
 cases q<;>simp only[Prim.dr,Prim.isPtr]at h<;>try (simp at h;done)
 case callM f args=>grind
 grind
theorem Qha {q:Prim} (h:Prim.isLive (some (q.dr false))=true):∃g cs,q= .val (.v g cs)/\Al AC.live cs=true:=by
 cases q<;>simp only[Prim.dr,Prim.isLive]at h<;>try (simp at h;done)
 case callM f args=>grind
 grind
theorem Zvg {a:AC} (h:a.plain=true):a.live=true:=by cases a<;>simp[AC.plain]at h<;>rfl
theorem Sm {l:List AC} (h:Al AC.plain l=true):Al AC.live l=true:=by grind [Ax,Zvg]
theorem Zz9 {id:Nat}:∀{u:TV},(u.kill id).plainB=true->u.kill id=u
 | .vD,_=>rfl
 | .v g cs,h=>by grind [TV.kill,TV.plainB,Sp,Sm]
 | .tup ps,h=>by
  simp only[TV.kill,TV.plainB]at h⊢;congr 1;induction ps with
  |nil=>rfl
  |cons p ps D=>
   rw[Ax]at h;simp only[bj]at h⊢;rw[Sp (Sm (h (p.1,p.2.map (AC.kill id)) (by simp))),D (Ax.2 λx G=>h x (gq _ G))]
theorem Qbg {id:Nat}:∀{u:TV},u.plainB=true->u.kill id=u
 | .vD,_=>rfl
 | .v g cs,h=>by grind [TV.kill,TV.plainB,Rq,Sm]
 | .tup ps,h=>by
  simp only[TV.kill,TV.plainB]at h⊢;congr 1;induction ps with
  |nil=>rfl
  |cons p ps D=>
   rw[Ax]at h;simp only[bj];rw[Rq (Sm (h p (by simp))),D (Ax.2 λx G=>h x (gq _ G))]
theorem Zfx {id:Nat} {tm:List TV} {x:Operand} {v:TV} (D:v.plainB=true):AM (tm.map (TV.kill id)) x=v↔AM tm x=v:=by
 cases x<;>try exact Iff.rfl
 grind [AM,UE,Zz9,Qbg]
theorem Q81 {id:Nat} {tm:List TV}:∀(l:List Operand) {D:List TV},Al TV.plainB D=true->(Cb (AM (tm.map (TV.kill id))) l=D↔Cb (AM tm) l=D)
 |[],D,_=>Iff.rfl
 |x::l,[],_=>by simp[Cb]
 |x::l,v::D,h=>by
  rw[Ax]at h;simp only[Cb,fd];rw[Zfx (h v (by simp)),Q81 l (Ax.2 λy G=>h y (by grind))]
theorem Qwn {q:Prim} (h:Prim.isCallP (some (q.dr false))=true):∃f args,q= .call f args/\Al TV.plainB args=true:=by
 cases q<;>simp only[Prim.dr,Prim.isCallP]at h<;>try (simp at h;done)
 case callM f args=>grind
 grind
theorem Qp9 {g:Int->Int->Int} {k:IntKind} {as:List TV} {f:FuncId}:∀{l:List TV} {a:Int},Fe g k a l some≠some (.call f as)
 |[],a,h=>by grind [Fe]
 |t::l,a,h=>by
  simp only[Fe]at h;split at h
  ·rename_i k' b;cases hb:kEq k k'<;>rw[hb]at h
   ·grind
   ·exact Qp9 h
  grind
theorem Zsh {b:Builtin} {D:List TypeId} {args as:List TV} {f:FuncId}:Jy P b D args some≠some (.call f as):=by
 intro h;unfold Jy at h
 repeat' split at h
 all_goals first|(simp at h;done)|skip
 all_goals first|(simp only[cond_eq_ite]at h;grind)|(simp only[cond_eq_ite]at h;repeat' split at h)|skip
 all_goals grind [Qp9]
theorem Zrm {D:Operand->TV} {dst:Option Tmp} {c:Call} {f:FuncId} {args:List TV}:
  opK P C D dst (.call c) some=some (.call f args)↔c.callee= .value (.func f)/\C.pure f=true/\Cb D c.args.toList=args:=by
 simp only[opK];split
 ·grind [Zsh]
 ·grind
 ·grind
 grind
theorem Qv8 {q:Prim} (h:Prim.isLoad (some (q.dr false))=true):∃g sz key off,q= .load g sz key off:=by
 cases q<;>simp only[Prim.dr,Prim.isLoad]at h<;>try (simp at h;done)
 case callM f args=>grind
 simp
theorem Zco {D:Operand->TV} {dst:Option Tmp} {t:TypeId} {a:Operand} {g:Bool} {sz key off:Nat} (h:opK P C D dst (.load t a) some=some (.load g sz key off)):D a= .v false [.ptr key off]:=by
 simp only[opK]at h
 grind
theorem Zx5 {id:Nat} {g:Bool} {sz off:Nat} {cells:List AC}:Dy g sz (cells.map (AC.kill id)) off=(Dy g sz cells off).map (TV.kill id):=by
 unfold Dy;cases g
 ·simp only[ay,du];cases cells[off]? <;>rfl
 ·simp only[ak,ac];cases Nat.ble (off+sz) cells.length
  ·rfl
  simp[TV.kill,Z36]
theorem Qrn {id:Nat}:∀(bx:List (Nat×Box)) (k:Nat),Ab (bx.map λp=>(p.1,p.2.kill id)) k=(Ab bx k).map (Box.kill id)
 |[],_=>rfl
 |(j,b)::bx,k=>by
  simp only[bj,Ab];cases Nat.beq j k
  ·exact Qrn bx k
  ·rfl
theorem Zrk {k:Kd} {a b:AC} (h:PR k a=some b):a.live=true:=by
 cases k<;>cases a<;>simp[PR]at h<;>rfl
theorem Q2r:∀{ks:List Kd} {cs c:List AC},GH ks cs=some c->Al AC.live cs=true
 |[],[],_,_=>rfl
 |[],_::_,_,h=>by grind [GH]
 |_::_,[],_,h=>by rfl
 |k::ks,a::cs,c,h=>by
  simp only[GH]at h;split at h
  ·rename_i G I;split at h
   ·rename_i c' D;have:=Ax.1 (Q2r D)
    grind [Ax,Zrk]
   grind
  grind
theorem Q67:∀{α:Type} (l v:List α),l.length=v.length->splice l 0 v=v
 |_,[],[],_=>rfl
 |_,[],_::_,h=>by grind
 |_,_::_,[],h=>by grind
 |_,x::l,y::v,h=>by simp only[splice];rw[Q67 l v (by grind)]
theorem Zb2 {D:Operand->TV} {dst:Option Tmp} {t:TypeId} {parts:Array (Nat×Operand)} {x:Operand} (L:parts.toList=[(0,x)]) {e:TypeId} {ks:List Kd} {l:List (List AC)}
  (h:opK P C D dst (.buildSlice t 1 parts) some=some (.newView e ks l)):∃g cs,D x= .v g cs/\Al AC.live cs=true:=by
 simp only[opK,L,Fy]at h;split at h
 ·split at h
  ·rename_i w z G _ _ _;cases hb:(Nat.beq z.length w&&Nat.beq G.length w&&Nat.ble 1 w&&Nat.ble (1*w) 65536)<;>rw[hb]at h
   ·grind
   ·simp only[ak]at h;simp only[aj,Nat.beq_eq]at hb;obtain⟨⟨⟨N,O⟩,_⟩,_⟩:=hb;cases M:D x with
    |vD=>grind [Gl,TV.cells]
    |tup ps=>grind [Gl,TV.cells]
    |v g cs=>
     refine⟨g,cs,rfl,?_⟩;rw[M]at h;simp only[Gl,TV.cells]at h;cases I:(Nat.beq cs.length w&&Nat.ble (0*w+w) (chunk z 1).length)<;>rw[I]at h
     ·grind
     ·simp only[ak]at h;simp only[aj,Nat.beq_eq]at I;rw[show splice (chunk z 1) (0*w) cs=cs from by simp_all [Q67,chunk]]at h
      grind [Hw,Q2r]
  grind
 grind
theorem Zsr {l:List (Nat×Operand)} (h:oneP l=true):∃x,l=[(0,x)]:=by
 match l,h with
 |[(0,x)],_=>simp
theorem Zad {q:Prim} (h:Prim.isView (some (q.dr false))=true):∃e ks l,q= .newView e ks l:=by
 cases q<;>simp only[Prim.dr,Prim.isView]at h<;>try (simp at h;done)
 case callM f args=>grind
 simp
theorem Qtc {id:Nat} {tm:List TV} {dst:Option Tmp} {o:Op} {q:Prim} (D:Prim.still o (some (q.dr false))=true):
  opK P C (AM (tm.map (TV.kill id))) dst o some=some q↔opK P C (AM tm) dst o some=some q:=by
 cases o<;>simp[Prim.still]at D
 case call c=>grind [Qwn,Zrm,Q81]
 case build t parts=>
  have key:∀x∈(Op.build t parts).operands,AM (tm.map (TV.kill id)) x=AM tm x:=by
   intro x I;simp only[Op.operands]at I;simp at I;obtain⟨a,N⟩:=I;have:=Ax.1 D.1 (a,x) (by grind);cases x<;>simp[Q8p]at this
   rfl
  rw[K5 key]
 case load t a=>
  obtain⟨g,sz,key,off,rfl⟩:=Qv8 D;have O:Al AC.live [AC.ptr key off]=true:=rfl
  grind [Zco,Qx,K5,Op.operands,Rk]
 case buildSlice t n parts=>
  obtain⟨⟨rfl,T⟩,U⟩:=D;obtain⟨x,I⟩:=Zsr T;obtain⟨e,ks,l,rfl⟩:=Zad U;have V:∀y∈(Op.buildSlice t 1 parts).operands,y=x:=by
   intro y L;simp only[Op.operands]at L;simp at L;obtain⟨a,N⟩:=L;have:(a,y)∈parts.toList:=by simpa using N
   rw[I]at this;simp at this;exact this.2
  grind [Zb2,Qx,K5,Rk]
 case move x=>
  obtain⟨g,cs,rfl,D⟩:=Qha D;simp only[opK,ap,Prim.val.injEq]
  grind [Qx,Rk]
 case nilCheck x=>
  obtain⟨k,o,rfl⟩:=YB D;have O:Al AC.live [AC.ptr k o]=true:=rfl;have key:∀G:Operand->TV,opK P C G dst (.nilCheck x) some=some (.val (.v false [.ptr k o]))↔G x= .v false [.ptr k o]:=by
   intro G;simp only[opK];split
   ·grind
   ·grind
   ·grind
   ·grind
  grind [Qx,Rk]
 case fieldAddr t x i=>
  obtain⟨k,o,rfl⟩:=YB D;have key:∀G:Operand->TV,opK P C G dst (.fieldAddr t x i) some=some (.val (.v false [.ptr k o]))->∃k' M,G x= .v false [.ptr k' M]:=by
   intro G h;simp only[opK]at h
   repeat' grind
   all_goals grind
  constructor
  ·intro h;obtain⟨k',M,e⟩:=key _ h;have e2:=Qx e rfl
   grind [K5,Op.operands]
  ·intro h;obtain⟨k',M,e⟩:=key _ h;have e2:=Rk (id:=id) e rfl
   grind [K5,Op.operands]
theorem Qwr {id:Nat} {tm:List TV} {d:Option Tmp} {v:TV}:(C1 tm d v).map (TV.kill id)=C1 (tm.map (TV.kill id)) d (v.kill id):=by
 cases d with
 |none=>rfl
 |some t=>grind [C1,Iq,List.map_set]
theorem Qn {ops:Array Oper} {o:Oper} {tm:List TV} {d:Option Tmp} {v:TV} (h:∀t,d=some t->t∉o.looksAt ops):Cf ops.toList o (C1 tm d v)=Cf ops.toList o tm:=by
 cases d with
 |none=>rfl
 |some t=>
  have M:=h t rfl;unfold Cf;cases N:o.guard with
  |none=>rfl
  |some G=>
   obtain⟨j,want⟩:=G;dsimp only;cases I:ops.toList[j]? with
   |none=>rfl
   |some D=>
    dsimp only;cases O:D.dst with
    |none=>rfl
    |some q=>
     dsimp only;have L:ops[j]? =some D:=by simpa using I
     simp_all [Oper.looksAt,C1,B8,Iq]
theorem Tj {ops:Array Oper} {o:Oper} {tm:List TV} {bx:List (Nat×Box)} {aC:List (Nat×Row)} {d:Option Tmp} {v:TV} (h:∀t,d=some t->t∉o.looksAt ops):
  Dk P C ops.toList o (C1 tm d v) bx aC=Dk P C ops.toList o tm bx aC:=by
 unfold Dk;rw[Qn h];cases d with
 |none=>rfl
 |some t=>
  have D:=h t rfl;rw [show opK P C (AM (C1 tm (some t) v)) o.dst o.op some = opK P C (AM tm) o.dst o.op some from K5 (λx G => Qtp (by
   rintro rfl;exact D (List.mem_append_left _ (List.mem_filterMap.2 ⟨.tmp t,by grind,rfl⟩)))) some]
theorem KY {a b:Nat} (h:a≠b):Nat.beq a b=false:=J6 h
theorem Vt {α:Type}:∀(l:List (Nat×α)) (k j:Nat) (x y:α),k≠j->upd (upd l k x) j y=upd (upd l j y) k x
 |[],_,_,_,_,_=>rfl
 |(i,b)::l,k,j,x,y,h=>by
  by_cases D:i=k
  ·simp_all [upd,KY]
  ·by_cases G:i=j
   ·simp_all [upd,KY]
   ·simp only[upd,KY D,KY G,ay];rw[Vt l k j x y h]
theorem GY {a b:Nat} (h:a<b):Nat.blt a b=true:=by simp_all
theorem GE {a b:Nat} (h: ¬a<b):Nat.blt a b=false:=by
 cases hb:Nat.blt a b
 ·rfl
 ·simp at hb;omega
theorem Zg {α:Type}:∀(l:List (Nat×α)) (k j:Nat) (x y:α),k≠j->ins (ins l k x) j y=ins (ins l j y) k x
 |[],k,j,x,y,h=>by
  by_cases D:j<k
  ·simp only[ins,GY D,ak,GE (show¬k<j by omega),ay]
  ·simp only[ins,GE D,ay,GY (show k<j by omega),ak]
 |(i,b)::l,k,j,x,y,h=>by
  by_cases D:k<i<;>by_cases G:j<i
  ·by_cases I:j<k
   ·simp only[ins,GY D,GY G,GY I,GE (show¬k<j by omega),ak,ay]
   ·simp only[ins,GY D,GY G,GE I,GY (show k<j by omega),ak,ay]
  ·simp only[ins,GY D,GE G,GE (show¬j<k by omega),ak,ay]
  ·simp only[ins,GE D,GY G,GE (show¬k<j by omega),ak,ay]
  ·simp only[ins,GE D,GE G,ay];rw[Zg l k j x y h]
theorem Si {α:Type}:∀(l:List (Nat×α)) (k j:Nat) (x y:α),k≠j->upd (ins l k x) j y=ins (upd l j y) k x
 |[],k,j,x,y,h=>by simp_all [ins,upd,KY]
 |(i,b)::l,k,j,x,y,h=>by
  by_cases D:k<i<;>by_cases G:i=j
  ·simp_all [ins,upd,GY,KY]
  ·simp_all [ins,upd,GY,KY]
  ·simp_all [ins,upd,GE]
  ·simp only[ins,upd,GE D,KY G,ay];rw[Si l k j x y h]
theorem LS {d:Option Tmp} {f:FuncId} {args:List TV} {bx D:List (Nat×Box)} {aC:List (Nat×Row)} {v:TV} (h:Aw (C:=C) d (.call f args) bx aC=some (v,D)):
  D=bx/\∀(I:Option Tmp) (G:List (Nat×Box)),Aw (C:=C) I (.call f args) G aC=some (v,G):=by
 simp only[Aw]at h⊢;cases L:C.spec f with
 |none=>grind
 |some g=>grind
theorem Qs8 {aC D:List (Nat×Row)}:∀{args:List TV},Al TV.plainB args=true->FB aC args=FB D args:=by
 have L:∀{l:List AC},Al AC.plain l=true->Ev aC l=Ev D l:=by
  intro l;induction l with
  |nil=>intro _;rfl
  |cons a l G=>
   intro h;rw[Ax]at h;simp only[Ev];rw[G (Ax.2 λx M=>h x (by grind))];have I:=h a (by simp);cases a<;>simp[AC.plain]at I<;>rfl
 intro args;induction args with
 |nil=>intro _;rfl
 |cons a l G=>
  intro h;rw[Ax]at h;simp only[FB];rw[G (Ax.2 λx M=>h x (by grind))];have I:=h a (by simp);have:a.res aC=a.res D:=by
   cases a with
   |vD=>rfl
   |tup ps=>rfl
   |v g cs=>simp only[TV.res];rw[L I]
  grind
theorem Qs9 {d:Option Tmp} {f:FuncId} {args:List TV} {bx D:List (Nat×Box)} {aC:List (Nat×Row)} {v:TV} (h:Aw (C:=C) d (.call f args) bx aC=some (v,D)):v.plainB=true:=by
 simp only[Aw]at h
 grind
def Qel (C:Cfg) (id:Nat) (d:Option Tmp) (bx:List (Nat×Box)) (q:Prim):Prop:=
  (∀{v G aC},Aw (C:=C) d (q.dr false) bx aC=some (v,G)->G=bx/\∀D,Aw (C:=C) d (q.dr false) (bx.map λp=>(p.1,p.2.kill id)) D=some (v.kill id,bx.map λp=>(p.1,p.2.kill id)))/\
  ∀{v G aC},Aw (C:=C) d (q.dr false) (bx.map λp=>(p.1,p.2.kill id)) aC=some (v,G)->G=(bx.map λp=>(p.1,p.2.kill id))/\∃u,u.kill id=v/\∀D,Aw (C:=C) d (q.dr false) bx D=some (u,bx)
theorem Q0h {id:Nat} {o:Op} {q:Prim} {d:Option Tmp} {bx:List (Nat×Box)} (G:Prim.still o (some (q.dr false))=true):Qel C id d bx q:=by
 have N:∀g cs,q= .val (.v g cs)->Al AC.live cs=true->Qel C id d bx q:=by
  rintro g cs rfl L;have e:(TV.v g cs).kill id= .v g cs:=by simp only[TV.kill];rw[Rq L]
  refine⟨fun{v D aC} h=> ?_,fun{v D aC} h=> ?_⟩
  ·simp_all [Prim.dr,Aw]
  ·simp_all [Prim.dr,Aw]
 cases o<;>simp[Prim.still]at G
 case call c=>
  obtain⟨f,args,rfl,O⟩:=Qwn G;refine⟨fun{v D aC} h=> ?_,fun{v D aC} h=> ?_⟩
  ·obtain⟨rfl,M⟩:=LS h;refine⟨rfl,λI=> ?_⟩;rw[Qbg (Qs9 h)];have:=M d (D.map λp=>(p.1,p.2.kill id));simp only[Prim.dr,Aw]at this⊢
   grind [Qs8]
  ·obtain⟨rfl,M⟩:=LS h;refine⟨rfl,v,Qbg (Qs9 h),λI=> ?_⟩;have:=M d bx;simp only[Prim.dr,Aw]at this⊢
   grind [Qs8]
 case load t a=>
  obtain⟨g,sz,key,off,rfl⟩:=Qv8 G;simp only[Qel,Prim.dr,Aw,Qrn];cases Ab bx key with
  |none=>simp
  |some b=>
   simp only[Option.map_some,Box.kill,Zx5];cases Dy g sz b.cells off with
   |none=>simp
   |some u=>simp
 case move x=>obtain⟨g,cs,rfl,L⟩:=Qha G;grind
 case build t parts=>obtain⟨g,cs,rfl,L⟩:=Qha G.2;grind
 case buildSlice t n parts=>
  obtain⟨e,ks,l,rfl⟩:=Zad G.2;refine⟨fun{v D aC} h=> ?_,fun{v D aC} h=> ?_⟩
  ·simp only[Prim.dr,Aw,ap,dq]at h;obtain⟨rfl,rfl⟩:=h;exact⟨rfl,λ_=>rfl⟩
  ·simp only[Prim.dr,Aw,ap,dq]at h;obtain⟨rfl,rfl⟩:=h;exact⟨rfl,_,rfl,λ_=>rfl⟩
 all_goals
  obtain⟨k,o,rfl⟩:=YB G;exact N _ _ rfl rfl
theorem Zzf {d:Option Tmp} {g:Bool} {sz id idx sub:Nat} {bx D:List (Nat×Box)} {aC:List (Nat×Row)} {v:TV} (h:Aw (C:=C) d (.rload g sz id idx sub) bx aC=some (v,D)):
  D=bx/\∀(G:Option Tmp) (b':List (Nat×Box)),Aw (C:=C) G (.rload g sz id idx sub) b' aC=some (v,b'):=by
 simp only[Aw]at h⊢
 repeat' split at h
 all_goals first|(simp at h;done)|skip
 simp at h;obtain⟨rfl,rfl⟩:=h;exact⟨rfl,λ_ _=>rfl⟩
theorem Qzq {n k:Nat}:∀{l:List Nat},k∈Ql n l↔k=n\/k∈l
 |[]=>by simp[Ql]
 |m::l=>by
  simp only[Ql];cases hb:Nat.beq m n
  ·simp only[ay,av,Qzq (l:=l)]
   grind
  simp_all
theorem Qy3 {k:Nat}:∀{ns l:List Nat},k∈Bf ns l↔k∈ns\/k∈l
 |[],l=>by simp[Bf]
 |n::ns,l=>by
  simp only[Bf,Qy3 (ns:=ns),Qzq,av]
  grind
theorem T2 {α β:Type} {g:α->List β} {x:β}:∀{l:List α},x∈cat g l↔∃a∈l,x∈g a
 |[]=>by simp[cat]
 |a::l=>by simp[cat,T2 (l:=l)]
theorem S7 {k:Nat}:∀{l:List AC},k∈AC.keys.keysL l->∃o,AC.ptr k o∈l
 |[],h=>by grind [AC.keys.keysL]
 |a::l,h=>by
  cases a
  case ptr j o=>
   simp only[AC.keys.keysL,av]at h;rcases h with rfl|h
   ·simp
   ·obtain⟨D,h'⟩:=S7 h;grind
  all_goals
   simp only[AC.keys.keysL]at h;obtain⟨D,h'⟩:=S7 h
   grind
theorem Zy5 {bx:List (Nat×Box)} {aC:List (Nat×Row)} {args:List TV} (h:∀v∈args,TV.wf bx aC v) {k:Nat} (N:k∈Bf (cat AC.keys (cat TV.cellsOf args)) []):∃b,Ab bx k=some b:=by
 simp only[Qy3,kh,or_false]at N;obtain⟨a,T,D⟩:=T2.1 N;obtain⟨v,U,I⟩:=T2.1 T;have O:=h v U;have G:AC.wf bx aC a:=by
  cases v with
  |vD=>grind [TV.cellsOf]
  |v g cs=>exact O a I
  |tup ps=>
   simp only[TV.cellsOf]at I;obtain⟨p,V,L⟩:=T2.1 I;exact O p V a L
 cases a
 case ptr j o=>simp[AC.keys]at D;subst D;exact G
 case bsl j o=>simp[AC.keys]at D;subst D;exact G
 case clo f fs cs=>
  simp only[AC.keys,be]at D;rcases D with D|D
  ·obtain⟨o,M⟩:=S7 D;exact G.1 _ M
  ·obtain⟨o,M⟩:=S7 D;exact G.2 _ M
 all_goals grind [AC.keys]
theorem Q78 {bx D:List (Nat×Box)} {G ri:Nat->Nat}:∀(keys:List Nat) (b:Nat),(∀k∈keys,Ab D k=Ab bx k)->C_ D G ri b keys=C_ bx G ri b keys
 |[],_,_=>rfl
 |k::keys,b,h=>by
  simp only[C_];rw[h k (by simp),Q78 keys (b+1) λj I=>h j (by grind)]
theorem Q3o {α:Type} {p q:α->Bool}:∀{l:List α},(∀x∈l,p x=q x)->Al p l=Al q l
 |[],_=>rfl
 |a::l,h=>by simp only[Al];rw[h a (by simp),Q3o (l:=l) λx D=>h x (by grind)]
theorem L5 {keys:List Nat}:∀(m:List (Nat×Box)) (l:List (Nat×Box)) (n:Nat),(∀p∈m,n≠nth 0 keys (p.1-base))->Ab (CY keys m l) n=Ab l n
 |[],_,_,_=>rfl
 |(j,c)::m,l,n,h=>by
  simp only[CY];rw[L5 m _ n λp D=>h p (by grind)];simp_all [Do]
theorem Qd1 {keys:List Nat}:∀(m:List (Nat×Box)) (l:List (Nat×Box)) (n:Nat) (x:Box),(∀p∈m,n≠nth 0 keys (p.1-base))->CY keys m (upd l n x)=upd (CY keys m l) n x
 |[],_,_,_,_=>rfl
 |(j,c)::m,l,n,x,h=>by
  simp only[CY];rw[Vt _ _ _ _ _ (h (j,c) (by simp)),Qd1 m _ n x λp D=>h p (by grind)]
theorem ZX {keys:List Nat}:∀(m:List (Nat×Box)) (l:List (Nat×Box)) (n:Nat) (x:Box),(∀p∈m,n≠nth 0 keys (p.1-base))->CY keys m (ins l n x)=ins (CY keys m l) n x
 |[],_,_,_,_=>rfl
 |(j,c)::m,l,n,x,h=>by
  simp only[CY];rw[Si _ _ _ _ _ (h (j,c) (by simp)),ZX m _ n x λp D=>h p (by grind)]
theorem Uo {d:Option Tmp} {f:FuncId} {args:List TV} {bx L:List (Nat×Box)} {aC:List (Nat×Row)} {v:TV} (h:Aw (C:=C) d (.callD f args) bx aC=some (v,L)):
  ∃D,L=CY (Bf (cat AC.keys (cat TV.cellsOf args)) []) D bx/\(∀p∈D,nth 0 (Bf (cat AC.keys (cat TV.cellsOf args)) []) (p.1-base)∈Bf (cat AC.keys (cat TV.cellsOf args)) [])/\v.plainB=true/\
   ∀(O:Option Tmp) (G:List (Nat×Box)),(∀k∈Bf (cat AC.keys (cat TV.cellsOf args)) [],Ab G k=Ab bx k)->Aw (C:=C) O (.callD f args) G aC=some (v,CY (Bf (cat AC.keys (cat TV.cellsOf args)) []) D G):=by
 simp only[Aw]at h⊢;generalize Bf (cat AC.keys (cat TV.cellsOf args)) []=keys at h⊢;cases T:C.spec f with
 |none=>grind
 |some g=>
  rw[T]at h;dsimp only at h⊢;split at h
  ·rename_i U;split at h
   ·rename_i X M;split at h
    ·rename_i Y D hg;split at h
     ·rename_i N;simp only[ap,dq]at h;obtain⟨rfl,rfl⟩:=h;have I:=N;simp only[aj]at I;refine⟨D,rfl,λp hp=> ?_,I.2,λO G V=> ?_⟩
      ·grind [Tq,Ax,Ke,Gn]
      ·rw[Q3o (q:=λk=>Al AC.calm (Ey bx k)) (λk hk=>by grind [Ey]),Q78 keys base V,M,ab U]
       grind
     grind
    grind
   grind
  grind
theorem Q0 {keys:List Nat}:∀(m:List (Nat×Box)) (l:List (Nat×Box)) {n:Nat} {b:Box},Ab l n=some b->∃b',Ab (CY keys m l) n=some b'
 |[],_,_,b,h=>⟨b,h⟩
 |(j,c)::m,l,n,b,h=>by
  simp only[CY];by_cases e:n=nth 0 keys (j-base)
  ·subst e;exact Q0 m _ (EG _ _ _ _ h)
  ·exact Q0 m _ (b:=b) (by grind [Do])
theorem Z3k {d:Option Tmp} {f:FuncId} {args:List TV} {bx D:List (Nat×Box)} {aC:List (Nat×Row)} {v:TV} (h:Aw (C:=C) d (.callD f args) bx aC=some (v,D)):
  ∀k∈Bf (cat AC.keys (cat TV.cellsOf args)) [],∃b,Ab bx k=some b:=by
 simp only[Aw]at h;generalize Bf (cat AC.keys (cat TV.cellsOf args)) []=keys at h⊢;split at h
 ·split at h
  ·split at h
   ·rename_i L G;intro k I;obtain⟨x,q,_⟩:=(Ke G).1 (pos keys k) (Dc I).1;simp_all [Dc]
   grind
  grind
 grind
theorem Qq1 {α:Type}:∀(l:List (Nat×α)) (k:Nat) (x:α),Ab l k=some x->upd l k x=l
 |[],_,_,_=>rfl
 |(j,b)::l,k,x,h=>by
  simp only[Ab,upd]at h⊢;cases D:Nat.beq j k
  ·rw[D]at h;simp only[ay]at h⊢;rw[Qq1 l k x h]
  grind
theorem Qyb {keys:List Nat} {bx:List (Nat×Box)} {rk ri:Nat->Nat}:∀(ks pre:List Nat) (G:List (Nat×Box)),keys=pre++ks->C_ bx rk ri (base+pre.length) ks=some G->(∀k∈ks,Al AC.calm (Ey bx k)=true)->CY keys G bx=bx
 |[],_,G,_,h,_=>by simp[C_]at h;subst h;rfl
 |k::ks,pre,G,M,h,I=>by
  simp only[C_]at h;split at h
  ·rename_i x L;split at h
   ·rename_i l O;simp only[ap]at h;subst h;simp only[CY];have N:nth 0 keys (base+pre.length-base)=k:=by
     rw[show base+pre.length-base=pre.length from by omega,B8,M];simp
    have D:=I k (by simp);unfold Ey at D;rw[L]at D;rw[N,Q8 D,Qq1 bx k _ L];exact Qyb (rk:=rk) (ri:=ri) ks (pre++[k]) l (by grind) (by grind) (λj T=>I j (by grind))
   grind
  grind
theorem Sr (D:Ak P C) {d:Option Tmp} {f:FuncId} (G:C.ro f=true) {args:List TV} {bx bx1:List (Nat×Box)} {aC:List (Nat×Row)} {v:TV} (h:Aw (C:=C) d (.callD f args) bx aC=some (v,bx1)):bx1=bx:=by
 simp only[Aw]at h;generalize Bf (cat AC.keys (cat TV.cellsOf args)) []=keys at h;cases L:C.spec f with
 |none=>grind
 |some g=>
  rw[L]at h;dsimp only at h;split at h
  ·rename_i M;simp only[aj]at M;split at h
   ·rename_i N I;split at h
    ·rename_i V O T;split at h
     ·simp only[ap,dq]at h;have e:=D.2.1 f g L G _ _ _ _ T;simp only[Mem.mk.injEq,jp]at e;rw[<-h.2,e];exact Qyb keys [] N rfl (by simpa using I) (λk U=>Ax.1 M.1.2 k U)
     grind
    grind
   grind
  grind
theorem Zll (V:Ak P C) {di T:Option Tmp} {pi pj:Prim} {bx bx1 M:List (Nat×Box)} {aC:List (Nat×Row)} {vi vj:TV} (G:Aw (C:=C) di pi bx aC=some (vi,bx1)) (D:Aw (C:=C) T pj bx1 aC=some (vj,M))
  (hm:Prim.meet C.ro (some pi) (some pj)=false) (hd:∀t,di=some t->T≠some t) (a6:Prim.wf bx aC pj):
  ∃a4,Aw (C:=C) T pj bx aC=some (vj,a4)/\Aw (C:=C) di pi a4 aC=some (vi,M):=by
 have a7:∀{a b:Nat},Nat.beq a b=false->a≠b:=λh e=>by simp_all
 cases pi<;>simp only[Aw]at G<;>try (simp at G;done)
 case val v=>simp at G;obtain⟨rfl,rfl⟩:=G;exact⟨M,D,rfl⟩
 case newView e ks l=>simp at G;obtain⟨rfl,rfl⟩:=G;exact⟨M,D,rfl⟩
 case rload g sz id idx sub=>grind [Aw]
 case callD f args=>
  obtain⟨N,rfl,a1,_,hc⟩:=Uo (C:=C) (d:=di) (f:=f) (args:=args) (aC:=aC) (by simpa only[Aw]using G);have I:=hc di bx λ_ _=>rfl;have X:∀k∈Bf (cat AC.keys (cat TV.cellsOf args)) [],∃b,Ab bx k=some b:=Z3k (C:=C) (d:=di) (f:=f) (v:=vi) (aC:=aC) (by simpa only[Aw]using I);cases pj<;>simp only[Aw]at D<;>try (simp at D;done)
  case val v=>simp at D;obtain⟨rfl,rfl⟩:=D;exact⟨bx,rfl,I⟩
  case newView e ks l=>simp at D;obtain⟨rfl,rfl⟩:=D;exact⟨bx,rfl,I⟩
  case rload g sz id idx sub=>grind [Aw]
  case call f' a8=>
   obtain⟨rfl,b2⟩:=LS (d:=T) D
   grind
  case load g sz k' o'=>
   cases b0:C.ro f
   case true=>grind [Sr,Aw]
   have U:k'∉Bf (cat AC.keys (cat TV.cellsOf args)) []:=λe=>by
    have:=Fc.2 e;simp_all [Prim.meet]
   grind [L5,Aw]
  case store k' o' L=>
   have U:k'∉Bf (cat AC.keys (cat TV.cellsOf args)) []:=λe=>by grind [Fc,Prim.meet]
   have a2:∀p∈N,k'≠nth 0 (Bf (cat AC.keys (cat TV.cellsOf args)) []) (p.1-base):=λp hp e=>U (by grind);rw[L5 _ _ _ a2]at D;cases h2:Ab bx k' with
   |none=>grind
   |some b'=>
    rw[h2]at D;dsimp only at D;split at D
    ·rename_i Y;simp at D;obtain⟨rfl,rfl⟩:=D;refine⟨upd bx k' ⟨b'.ty,splice b'.cells o' L⟩,by simp only[Aw,h2,Y,fo],?_⟩
     grind [Do,Qd1]
    grind
  case new ty L=>
   split at D
   ·rename_i d;split at D
    ·grind
    ·rename_i hn;simp at D;obtain⟨rfl,rfl⟩:=D;have a2:∀p∈N,d≠nth 0 (Bf (cat AC.keys (cat TV.cellsOf args)) []) (p.1-base):=λp hp e=>by
      have a3:∃b,Ab bx d=some b:=X d (by grind);obtain⟨b,hb⟩:=a3;have:∃b',Ab (CY (Bf (cat AC.keys (cat TV.cellsOf args)) []) N bx) d=some b':=Q0 _ _ hb
      grind
     have a9:d∉Bf (cat AC.keys (cat TV.cellsOf args)) []:=λe=>by
      obtain⟨b,hb⟩:=X d e;obtain⟨b',a0⟩:=Q0 (keys:=Bf (cat AC.keys (cat TV.cellsOf args)) []) N bx hb
      grind
     grind [L5,Aw,DZ,ZX]
   grind
  case callD f' a8=>
   simp only[Prim.meet,Bool.not_eq_false',aj]at hm;have e1:=Sr V (d:=di) hm.1 (aC:=aC) I;rw[e1]at D I
   grind [Sr,Aw]
 case call f args=>
  obtain⟨rfl,hc⟩:=LS (d:=di) G
  grind
 case load g sz key off=>
  cases O:Ab bx key with
  |none=>grind
  |some b=>
   rw[O]at G;dsimp only at G;cases h2:Dy g sz b.cells off with
   |none=>grind
   |some v=>
    rw[h2]at G;simp at G;obtain⟨rfl,rfl⟩:=G;refine⟨M,D,?_⟩;have hl:Ab M key=some b:=by
     cases pj<;>simp only[Aw]at D<;>try (simp at D;done)
     case val=>grind
     case newView=>grind
     case rload=>grind
     case callD f args=>
      cases b0:C.ro f
      case true=>
       rw[Sr V (d:=T) b0 (aC:=aC) (args:=args) (v:=vj) (bx1:=M) (by simpa only[Aw]using D)];exact O
      obtain⟨N,rfl,a1,_,_⟩:=Uo (C:=C) (d:=T) (f:=f) (args:=args) (aC:=aC) (by simpa only[Aw]using D);rw[L5 _ _ _ λp hp e=>by
       have:=Fc.2 (a1 p hp);simp_all [Prim.meet]]
      exact O
     case call=>grind
     case load=>grind
     case store k' o' L=>
      split at D
      ·split at D
       ·simp at D;rw[<-D.2,Do _ _ _ _ (a7 hm)];exact O
       grind
      grind
     case new ty cs=>grind [DZ]
    grind [Aw]
 case store key off cs=>
  cases O:Ab bx key with
  |none=>grind
  |some b=>
   rw[O]at G;dsimp only at G;split at G
   ·rename_i hle;simp at G;obtain⟨rfl,rfl⟩:=G;cases pj<;>simp only[Aw]at D<;>try (simp at D;done)
    case val v=>simp_all [Aw]
    case newView e ks l=>simp_all [Aw]
    case rload g sz id idx sub=>
     obtain⟨rfl,hc⟩:=Zzf (C:=C) (d:=T) (by simpa only[Aw]using D);simp_all [Aw]
    case callD f args=>
     obtain⟨N,rfl,a1,_,hc⟩:=Uo (C:=C) (d:=T) (f:=f) (args:=args) (aC:=aC) (by simpa only[Aw]using D);have U:key∉Bf (cat AC.keys (cat TV.cellsOf args)) []:=λe=>by grind [Fc,Prim.meet]
     have a2:∀p∈N,key≠nth 0 (Bf (cat AC.keys (cat TV.cellsOf args)) []) (p.1-base):=λp hp e=>U (by grind);refine⟨_,hc T bx λk b3=>(Do _ _ _ _ (by grind)).symm,?_⟩;simp only[Aw];rw[L5 _ _ _ a2,O];simp only[hle,fo]
     grind [Qd1]
    case call f args=>
     obtain⟨rfl,hc⟩:=LS (d:=T) D;simp_all [Aw]
    case load g sz k' o'=>
     have U:=a7 hm;rw[Do _ _ _ _ (λe=>U e.symm)]at D;refine⟨bx,?_,?_⟩
     ·grind [Aw]
     ·have:M=upd bx key ⟨b.ty,splice b.cells off cs⟩:=by
       repeat' grind
       all_goals grind
      simp_all [Aw]
    case store k' o' L=>
     have U:=a7 hm;rw[Do _ _ _ _ (λe=>U e.symm)]at D;cases h2:Ab bx k' with
     |none=>grind
     |some b'=>
      rw[h2]at D;dsimp only at D;split at D
      ·rename_i Y;simp at D;obtain⟨rfl,rfl⟩:=D;refine⟨upd bx k' ⟨b'.ty,splice b'.cells o' L⟩,by simp_all [Aw],?_⟩;simp only[Aw];rw[Do _ _ _ _ U,O];simp only[hle,fo]
       grind [Vt]
      grind
    case new ty L=>
     split at D
     ·rename_i d;split at D
      ·grind
      ·rename_i hn;simp at D;obtain⟨rfl,rfl⟩:=D;have a9:d≠key:=by
        rintro rfl;rw[EG _ _ _ _ O]at hn;simp at hn
       rw[Do _ _ _ _ a9]at hn;refine⟨ins bx d ⟨ty,L⟩,by grind [Aw],?_⟩;simp only[Aw];rw[DZ _ _ _ _ (λe=>a9 e.symm),O];simp_all [Si]
     grind
   grind
 case new ty cs=>
  cases b1:di with
  |none=>grind
  |some d=>
   rw[b1]at G;dsimp only at G;cases O:Ab bx d with
   |some _=>grind
   |none=>
    rw[O]at G;simp at G;obtain⟨rfl,rfl⟩:=G;have a5:∀bb,Ab bb d=none->Aw (C:=C) (some d) (.new ty cs) bb aC=some (.c (.ptr d 0),ins bb d ⟨ty,cs⟩):=by
     intro bb hb;simp only[Aw,hb]
    cases pj<;>simp only[Aw]at D<;>try (simp at D;done)
    case val v=>simp at D;obtain⟨rfl,rfl⟩:=D;exact⟨bx,rfl,a5 bx O⟩
    case newView e ks l=>simp at D;obtain⟨rfl,rfl⟩:=D;exact⟨bx,rfl,a5 bx O⟩
    case rload g sz id idx sub=>grind [Aw]
    case callD f args=>
     obtain⟨N,rfl,a1,_,hc⟩:=Uo (C:=C) (d:=T) (f:=f) (args:=args) (aC:=aC) (by simpa only[Aw]using D);have U:d∉Bf (cat AC.keys (cat TV.cellsOf args)) []:=λe=>by
      obtain⟨b,hb⟩:=Zy5 a6 e
      grind
     grind [DZ,L5,ZX]
    case call f args=>
     obtain⟨rfl,hc⟩:=LS (d:=T) D
     grind
    case load g sz k' o'=>
     obtain⟨b',a0⟩:=a6
     grind [DZ,Aw]
    case store k' o' L=>
     obtain⟨⟨b',a0⟩,_⟩:=a6;have U:k'≠d:=by rintro rfl;rw[O]at a0;simp at a0
     rw[DZ _ _ _ _ U,a0]at D;dsimp only at D;split at D
     ·rename_i Y;simp at D;obtain⟨rfl,rfl⟩:=D;refine⟨upd bx k' ⟨b'.ty,splice b'.cells o' L⟩,by simp_all [Aw],?_⟩
      grind [Do,Si]
     grind
    grind [DZ,Aw,Zg]
end
open Go.RowKit
structure WFst (s : St) : Prop where
 t:∀v∈s.tmps,TV.wf s.aB s.aC v
 b:∀(k:Nat) (b:Box),Ab s.aB k=some b->∀a∈b.cells,AC.wf s.aB s.aC a
section
variable {P:Program} {C:Cfg} {w:World} {R:Type} {Z:Base}
theorem Z5c {d:Option Tmp} {f:FuncId} {args:List TV} {bx D:List (Nat×Box)} {aC:List (Nat×Row)} {v:TV} (h:Aw (C:=C) d (.call f args) bx aC=some (v,D)):TV.wf D aC v:=by
 simp only[Aw]at h;split at h
 ·split at h
  ·split at h
   ·split at h
    ·simp_all [I_]
    grind
   grind
  grind
 grind
theorem Q2h {bx:List (Nat×Box)} {aC:List (Nat×Row)}:∀(ks:List Kd) (cs:List AC) (j:Nat),∀c∈EE ks cs j,AC.wf bx aC c
 |[],_,_,c,D=>by grind [EE]
 |k::ks,cs,j,c,D=>by
  simp only[EE,av]at D;rcases D with rfl|D
  ·cases k<;>try exact trivial
   generalize nth AC.vD cs j=b;cases b<;>exact trivial
  ·exact Q2h ks cs _ c D
theorem Q0q {α:Type}:∀(l:List (Nat×α)) (k:Nat) (x:α),Ab l k=none->Ab (upd l k x) k=none
 |[],_,_,_=>rfl
 |(j,c)::l,k,x,h=>by
  simp only[Ab]at h;cases hb:Nat.beq j k<;>rw[hb]at h
  ·simp only[upd,hb,ay,Ab];exact Q0q l k x h
  grind
theorem Qrp {keys:List Nat}:∀(m:List (Nat×Box)) (l:List (Nat×Box)) {n:Nat} {b:Box},Ab (CY keys m l) n=some b->Ab l n=some b\/∃p∈m,p.2=b
 |[],_,_,_,h=> .inl h
 |(j,c)::m,l,n,b,h=>by
  simp only[CY]at h;rcases Qrp m _ h with h|⟨p,D,e⟩
  ·by_cases e:n=nth 0 keys (j-base)
   ·subst e;cases G:Ab l (nth 0 keys (j-base))with
    |none=>grind [Q0q]
    |some y=>simp_all [EG]
   grind [Do]
  grind
theorem Qr5 {d:Option Tmp} {f:FuncId} {args:List TV} {bx I:List (Nat×Box)} {aC:List (Nat×Row)} {v:TV} (h:Aw (C:=C) d (.callD f args) bx aC=some (v,I)):
  ∃D,I=CY (Bf (cat AC.keys (cat TV.cellsOf args)) []) D bx/\True/\v.plainB=true/\∀p∈D,Al AC.calm p.2.cells=true:=by
 simp only[Aw]at h;generalize Bf (cat AC.keys (cat TV.cellsOf args)) []=keys at h⊢
 repeat' split at h
 all_goals first|(simp at h;done)|skip
 rename_i L D _ G;simp only[ap,dq]at h;obtain⟨rfl,rfl⟩:=h;simp only[aj]at G;exact⟨D,rfl,trivial,G.2,Ax.1 G.1.2⟩
theorem Z66 {ops:List Oper} {o:Oper} {tm:List TV} {bx O:List (Nat×Box)} {aC:List (Nat×Row)} {p:Option Prim} {v:TV} (N:WFst ⟨tm,bx,aC⟩) (h:Dk P C ops o tm bx aC=some (p,v,O)):
  WFst ⟨tm,O,aC⟩/\TV.wf O aC v/\∀q,p=some q->Prim.wf bx aC q:=by
 unfold Dk at h;split at h
 ·cases V:opK P C (AM tm) o.dst o.op some with
  |none=>grind
  |some q=>
   rw[V]at h;simp only[am]at h;have Y:=YF (pre:=false) (Qah (aB:=bx) (aC:=aC) (λx=>Zv N.t x) V);clear V;generalize q.dr false=q at h Y⊢;cases D:Aw (C:=C) o.dst q bx aC with
   |none=>grind
   |some z=>
    rw[D]at h;simp at h;obtain⟨rfl,rfl,rfl⟩:=h;have L:∀{T:List (Nat×Box)},(∀a,AC.wf bx aC a->AC.wf T aC a)->(∀(k:Nat) (b:Box),Ab T k=some b->∀a∈b.cells,AC.wf bx aC a)->WFst ⟨tm,T,aC⟩:=
     λI hb=>⟨λv X=>TV.wf_mono I (N.t v X),λk b G a D=>I a (hb k b G a D)⟩
    refine⟨?_,?_,λq' e=>by grind⟩;all_goals
     cases q<;>simp only[Aw]at D<;>try (simp at D;done)
    ·grind
    ·grind
    ·rename_i key off cs;split at D
     ·rename_i b hb;split at D
      ·simp at D;subst D;refine L (λa=>AC.wf_mono (λk bo U=>by grind [EG,Do]) (λk r G=>⟨r,G,rfl,rfl⟩)) ?_;intro k bo G a I;by_cases M:k=key
       ·subst M;rw[EG _ _ _ _ hb]at G;simp at G;subst G;rcases UA _ _ _ I with I|I
        ·exact N.b k b hb a I
        ·exact Y.2 a I
       ·rw[Do _ _ _ _ M]at G;exact N.b k bo G a I
      grind
     grind
    ·rename_i ty cs;split at D
     ·rename_i d hd;split at D
      ·grind
      ·rename_i hn;simp at D;subst D;refine L (λa=>AC.wf_mono (λk bo U=>⟨bo,by grind [DZ]⟩) (λk r G=>⟨r,G,rfl,rfl⟩)) ?_;intro k bo G a I;by_cases M:k=d
       ·subst M;rw[Eu _ _ _ hn]at G;simp at G;subst G;exact Y a I
       ·rw[DZ _ _ _ _ M]at G;exact N.b k bo G a I
     grind
    ·grind
    ·grind
    ·grind
    ·rename_i f args;obtain⟨z1,z2⟩:=z;obtain⟨a0,rfl,a3,_,a2⟩:=Qr5 (C:=C) (d:=o.dst) (f:=f) (args:=args) (aC:=aC) (by simpa only[Aw]using D);refine L (λa=>AC.wf_mono (λk bo U=>Q0 _ _ U) (λk r G=>⟨r,G,rfl,rfl⟩)) ?_;intro k bo G a I;rcases Qrp _ _ G with G|⟨p,V,rfl⟩
     ·exact N.b k bo G a I
     grind [Qv9]
    ·simp at D;subst D;exact Y
    ·split at D
     ·rename_i b hb;split at D
      ·rename_i v X;simp at D;subst D;exact QX X (N.b _ b hb)
      grind
     grind
    ·repeat' split at D
     all_goals first|(simp at D;done)|(simp at D;subst D;trivial)
    ·rename_i ty cs;split at D
     ·rename_i d hd;split at D
      ·grind
      ·rename_i hn;simp at D;subst D;exact CA ⟨_,Eu _ _ _ hn⟩
     grind
    ·split at D
     ·rename_i r hr;split at D
      ·rename_i v X;simp at D;subst D;exact QX X λa I=>Q2h r.ks _ 0 a I
      grind
     grind
    ·simp at D;subst D;exact CA trivial
    ·rename_i f args;exact Z5c (d:=o.dst) D
    ·rename_i f args;obtain⟨z1,z2⟩:=z;obtain⟨a0,_,_,a1,_⟩:=Qr5 (C:=C) (d:=o.dst) (f:=f) (args:=args) (aC:=aC) (by simpa only[Aw]using D);exact I_ a1
 ·simp at h;obtain⟨rfl,rfl,rfl⟩:=h;exact⟨N,λp V=>by grind,λq e=>by grind⟩
 grind
theorem Zn {tm:List TV} {bx:List (Nat×Box)} {aC:List (Nat×Row)} {d:Option Tmp} {v:TV} (G:WFst ⟨tm,bx,aC⟩) (I:TV.wf bx aC v):WFst ⟨C1 tm d v,bx,aC⟩:=by
 cases d with
 |none=>exact G
 |some t=>
  refine⟨λu D=> ?_,G.b⟩;simp only[C1,Iq]at D;rcases fy D with D|rfl
  ·exact G.t u D
  omega
theorem Zkp {id:Nat} {bx:List (Nat×Box)} {k:Nat} {b:Box} (h:Ab (bx.map λp=>(p.1,p.2.kill id)) k=some b):∃b',Ab bx k=some b'/\b=b'.kill id:=by
 have:=Fl (Box.kill id) bx k;rw[this]at h;simp only[bz]at h
 grind
theorem Wg {bx:List (Nat×Box)} {aC D:List (Nat×Row)} {id:Nat} (T:∀j,j≠id->Ab D j=Ab aC j) {a:AC} (h:AC.wf bx aC a):AC.wf (bx.map λp=>(p.1,p.2.kill id)) D (a.kill id):=by
 have hb:∀k b,Ab bx k=some b->∃b',Ab (bx.map λp=>(p.1,p.2.kill id)) k=some b':=λk b U=>⟨b.kill id,by have:=Fl (Box.kill id) bx k;grind⟩;have M:∀c,AC.wfP bx c->AC.wfP (bx.map λp=>(p.1,p.2.kill id)) c:=by
  intro c I;cases c<;>try exact trivial
  obtain⟨b,G⟩:=I;exact hb _ _ G
 cases a<;>try exact trivial
 case ptr k o=>
  obtain⟨b,G⟩:=h;exact hb _ _ G
 case bsl k o=>
  obtain⟨b,G⟩:=h;exact hb _ _ G
 case own j w n=>
  simp only[AC.kill];cases N:Nat.beq j id
  ·obtain⟨r,O,L⟩:=h;exact⟨r,by grind [GT],L⟩
  ·exact trivial
 case rptr j a b=>
  simp only[AC.kill];cases N:Nat.beq j id
  ·obtain⟨r,O,L⟩:=h;exact⟨r,by grind [GT],L⟩
  ·exact trivial
 case vptr cs sub=>exact h
 case clo f fs cs=>exact⟨λc I=>M c (h.1 c I),λc I=>M c (h.2 c I)⟩
theorem Z2g {dst:Option Tmp} {aC D:List (Nat×Row)} {p:Prim} {id:Nat} {v:TV} (I:Kl dst p=some id) (G:KD dst aC p=some (v,D)):(∀j,j≠id->Ab D j=Ab aC j)/\TV.wf [] D v:=by
 cases p<;>simp[Kl]at I
 rename_i e ks bytes M x;cases M<;>simp at I
 case nilSl=>
  subst I;simp only[KD,Qjp]at G
  repeat' split at G
  all_goals first|(simp at G;done)|skip
  rename_i N _ _;simp only[ap,dq]at G;obtain⟨rfl,rfl⟩:=G;refine⟨λj L=>DZ _ _ _ _ L,CA ?_⟩;exact⟨_,Eu _ _ _ N,rfl,rfl⟩
 rename_i id' w n;subst I;simp only[KD,Qb6]at G
 repeat' split at G
 all_goals first|(simp at G;done)|skip
 rename_i r O _ _;simp only[ap,dq]at G;obtain⟨rfl,rfl⟩:=G;refine⟨λj L=>Do _ _ _ _ L,CA ?_⟩;exact⟨_,EG _ _ _ _ O,rfl,rfl⟩
theorem Qyl {aC D:List (Nat×Row)}:∀{args:List TV},Al TV.plainB args=true->FB aC args=FB D args
 |[],_=>rfl
 |a::l,h=>by
  simp only[Al]at h;have I:a.plainB=true/\Al TV.plainB l=true:=by cases M:a.plainB<;>rw[M]at h<;>simp at h;exact⟨rfl,h⟩
  have e:a.res aC=a.res D:=by
   cases a with
   |vD=>rfl
   |tup ps=>rfl
   |v g cs=>
    simp only[TV.res];have:Ev aC cs=Ev D cs:=by
     have G:=I.1;simp only[TV.plainB]at G;clear h I;induction cs with
     |nil=>rfl
     |cons c cs N=>
      simp only[Al]at G;have L:c.plain=true/\Al AC.plain cs=true:=by cases O:c.plain<;>rw[O]at G<;>simp at G;exact⟨rfl,G⟩
      simp only[Ev];rw[N L.2];have:c.res aC=c.res D:=by
       have:=L.1;cases c<;>simp[AC.plain]at this<;>rfl
      grind
    grind
  simp only[FB];rw[e,Qyl I.2]
theorem Z08 {dst:Option Tmp} {aC D:List (Nat×Row)} {p:Prim} {v:TV} (h:mkD (C:=C) dst p aC=some (v,D)):(∀j r,Ab aC j=some r->Ab D j=some r)/\TV.wf [] D v:=by
 unfold mkD at h;cases G:mkG (C:=C) dst p with
 |none=>grind
 |some q=>
  obtain⟨M,o⟩:=q;rw[G]at h;cases o with
  |none=>
   simp only[ap,dq]at h;obtain⟨rfl,rfl⟩:=h;refine⟨λ_ _ h=>h,?_⟩;unfold mkG at G
   grind [I_]
  |some L=>
   obtain⟨k,r⟩:=L;dsimp only at h;split at h
   ·grind
   ·rename_i I;simp only[ap,dq]at h;obtain⟨rfl,rfl⟩:=h;refine⟨λj r' N=>by grind [DZ],?_⟩;unfold mkG at G;split at G
    ·split at G
     ·simp only[ap,dq]at G;obtain⟨rfl,rfl,rfl⟩:=G;exact CA ⟨_,Eu _ _ _ I,rfl,rfl⟩
     grind
    ·split at G
     ·split at G
      ·split at G
       ·grind
       ·split at G
        ·simp only[ap,dq]at G;obtain⟨rfl,rfl,rfl⟩:=G;exact CA ⟨_,Eu _ _ _ I,rfl,rfl⟩
        grind
       grind
      grind
     grind
    grind
theorem Z5s {ops:List Oper} {o:Oper} {s Y:St} {p:Option Prim} (O:WFst s) (h:Cp (P:=P) (C:=C) ops o s=some (p,Y)):WFst Y:=by
 obtain⟨tm,bx,aC⟩:=s;cases hn:Prim.isApp p
 ·cases T:Prim.isMk p
  case true=>
   obtain⟨_,q,v,D,_,rfl,U,rfl⟩:=TD h T;obtain⟨M,V⟩:=Z08 U;have G:∀a,AC.wf bx aC a->AC.wf bx D a:=λa=>AC.wf_mono (λk b I=>⟨b,I⟩) (λk r I=>⟨r,M k r I,rfl,rfl⟩);exact Zn ⟨λu L=>TV.wf_mono G (O.t u L),λk b I a hm=>G a (O.b k b I a hm)⟩ (TV.wf_mono (λa G=>AC.wf_mono (aB:=[]) (aC:=D) (λk b I=>by grind [Ab]) (λk r I=>⟨r,I,rfl,rfl⟩) G) V)
  grind [Mw,Z66,Zn]
 ·obtain⟨_,q,id,v,D,_,rfl,h3,U,rfl⟩:=Qf5 h hn;obtain⟨M,V⟩:=Z2g h3 U;refine Zn ⟨λu L=> ?_,λk b I a G=> ?_⟩ (TV.wf_mono (λa G=>AC.wf_mono (aB:=[]) (aC:=D) (λk b I=>by grind [Ab]) (λk r I=>⟨r,I,rfl,rfl⟩) G) V)
  ·simp only[bc]at L;obtain⟨u,L,rfl⟩:=L;have:=O.t u L;cases u with
   |vD=>trivial
   |v g cs=>
    intro a G;simp only[bc]at G;obtain⟨c,N,rfl⟩:=G;exact Wg M (this c N)
   |tup ps=>
    intro p hp a G;simp only[bc]at hp;obtain⟨q,hq,rfl⟩:=hp;simp only[bc]at G;obtain⟨c,N,rfl⟩:=G;exact Wg M (this q hq c N)
  ·obtain⟨b',X,rfl⟩:=Zkp I;simp only[Box.kill,bc]at G;obtain⟨c,N,rfl⟩:=G;exact Wg M (O.b k b' X c N)
theorem Q8x {o:Op} {p:Option Prim} (h:Prim.still o p=true):Prim.isMk p=false:=by
 cases p with
 |none=>rfl
 |some q=>cases q<;>first|rfl|(cases o<;>simp[Prim.still,Prim.isLive,Prim.isPtr,Prim.isCallP,Prim.isLoad,Prim.isView]at h)
theorem Z7r {d:Option Tmp} {p:Prim} {bx G:List (Nat×Box)} {aC:List (Nat×Row)} {v:TV} (I:Prim.mkStill (some p)=true) (h:Aw (C:=C) d p bx aC=some (v,G)):
  G=bx/\∀D,Aw (C:=C) d p bx D=some (v,bx):=by
 cases p<;>simp[Prim.mkStill]at I
 case val u=>simp_all [Aw]
 case newView e ks l=>simp_all [Aw]
 case load g sz key off=>
  simp only[Aw]at h⊢
  grind
 case call f args=>
  obtain⟨rfl,_⟩:=LS h;refine⟨rfl,λD=> ?_⟩
  grind [Aw,Qyl]
 case newRow e ks l=>grind [Aw]
 grind [Aw]
theorem Q31 {ops:List Oper} {o:Oper} {tm:List TV} {bx G:List (Nat×Box)} {aC:List (Nat×Row)} {p:Option Prim} {v:TV} (L:Prim.mkStill p=true) (h:Dk P C ops o tm bx aC=some (p,v,G)):
  G=bx/\∀D,Dk P C ops o tm bx D=some (p,v,bx):=by
 unfold Dk at h⊢;split at h
 ·cases I:opK P C (AM tm) o.dst o.op some with
  |none=>grind
  |some q=>
   rw[I]at h;simp only[am]at h⊢;cases M:Aw (C:=C) o.dst (q.dr false) bx aC with
   |none=>grind
   |some z=>grind [Z7r]
 ·grind
 grind
theorem Zxg {M N:Option Tmp} {O T:Prim} {aC G I:List (Nat×Row)} {X Y:TV} (L:mkD (C:=C) M O aC=some (X,G)) (hj:mkD (C:=C) N T G=some (Y,I)):
  ∃D,mkD (C:=C) N T aC=some (Y,D)/\mkD (C:=C) M O D=some (X,I):=by
 unfold mkD at*;cases U:mkG (C:=C) M O with
 |none=>grind
 |some qi=>
  obtain⟨v1,o1⟩:=qi;rw[U]at L;cases V:mkG (C:=C) N T with
  |none=>grind
  |some qj=>
   obtain⟨v2,o2⟩:=qj;rw[V]at hj;cases o1 with
   |none=>grind
   |some k1=>
    obtain⟨k,r⟩:=k1;dsimp only at L;split at L
    ·grind
    rename_i hn;simp only[ap,dq]at L;obtain⟨rfl,rfl⟩:=L;cases o2 with
    |none=>grind
    |some k2=>grind [Eu,DZ,Zg]
theorem Z0t (b0:Ak P C) {ops:Array Oper} {x y:Oper} {s s1 s2:St} {px py:Option Prim} (hw:WFst s) (hy:Cp (P:=P) (C:=C) ops.toList y s=some (py,s1)) (hx:Cp (P:=P) (C:=C) ops.toList x s1=some (px,s2))
  (b8:Oper.apart ops y x=true) (hm:Prim.meet C.ro py px=false) (G:Ii y py x px=true):∃b3,Cp (P:=P) (C:=C) ops.toList x s=some (px,b3)/\Cp (P:=P) (C:=C) ops.toList y b3=some (py,s2):=by
 obtain⟨a1,a2,a3⟩:=Oper.apart_spec b8;obtain⟨tm,bx,aC⟩:=s;have M:∀(o:Oper) (tm:List TV),o.guard.isNone=true->Cf ops.toList o tm=some true:=by
  intro o tm h;unfold Cf;rw[Option.isNone_iff_eq_none.1 h]
 have O:∀(o:Oper) (tm:List TV) (d:Option Tmp) (v:TV),(∀t,d=some t->t∉o.looksAt ops)->opK P C (AM (C1 tm d v)) o.dst o.op some=opK P C (AM tm) o.dst o.op some:=by
  intro o tm d v h;cases d with
  |none=>rfl
  |some t=>
   exact K5 (λx hx => Qtp (by
    rintro rfl;exact h t rfl (List.mem_append_left _ (List.mem_filterMap.2 ⟨.tmp t,by grind,rfl⟩)))) some
 cases T:Prim.isApp py
 case true=>
  unfold Ii at G;rw[T]at G;simp only[ak,aj]at G;obtain⟨⟨⟨o1,o2⟩,o3⟩,o4⟩:=G;have U:Prim.isApp px=false:=by simpa using o1
  obtain⟨_,q,id,vy,a5,hq,rfl,h3,h4,rfl⟩:=Qf5 hy T;obtain⟨vx,a8,D,rfl⟩:=Mw hx U (Q8x o4);unfold Dk at D;rw[M x _ o3]at D;dsimp only at D;rw[O x _ _ _ (λt V=>a1 t V)]at D;cases a6:opK P C (AM (tm.map (TV.kill id))) x.dst x.op some with
  |none=>grind
  |some qx=>
   rw[a6]at D;simp only[am]at D;cases N:Aw (C:=C) x.dst (qx.dr false) (bx.map λp=>(p.1,p.2.kill id)) a5 with
   |none=>grind
   |some zx=>
    rw[N]at D;simp at D;obtain⟨rfl,rfl,rfl⟩:=D;obtain⟨vx,a8⟩:=zx;obtain⟨rfl,u,rfl,b4⟩:=(Q0h (bx:=bx) o4).2 N;have c1:=(Qtc (P:=P) (C:=C) (id:=id) (tm:=tm) (dst:=x.dst) o4).1 a6;refine⟨⟨C1 tm x.dst u,bx,aC⟩,ON (by grind [Dk]),?_⟩;rw[Qzj (M y _ o2) (by grind) h3 h4 T,Qwr]
    grind [OC]
 case false=>
 cases U:Prim.isApp px
 case true=>
  unfold Ii at G;rw[T,U]at G;simp only[ak,ay,aj]at G;obtain⟨⟨o2,o3⟩,o4⟩:=G;obtain⟨vy,b1,I,rfl⟩:=Mw hy T (Q8x o4);obtain⟨_,q,id,vx,a5,hq,rfl,h3,h4,rfl⟩:=Qf5 hx U;rw[O x _ _ _ (λt V=>a1 t V)]at hq;unfold Dk at I;rw[M y _ o2]at I;dsimp only at I;cases a9:opK P C (AM tm) y.dst y.op some with
  |none=>grind
  |some qy=>
   rw[a9]at I;simp only[am]at I;cases a0:Aw (C:=C) y.dst (qy.dr false) bx aC with
   |none=>grind
   |some zy=>
    rw[a0]at I;simp at I;obtain⟨rfl,rfl,rfl⟩:=I;obtain⟨vy,b1⟩:=zy;obtain⟨rfl,b4⟩:=(Q0h (id:=id) (bx:=bx) o4).1 a0;have b5:=(Qtc (P:=P) (C:=C) (id:=id) (tm:=tm) (dst:=y.dst) o4).2 a9;refine⟨_,Qzj (M x _ o3) hq h3 h4 U,?_⟩;rw[ON (p:=some (qy.dr false)) (v:=vy.kill id) (by unfold Dk;rw[M y _ o2];dsimp only;rw[O y _ _ _ (λt V=>a3 t V),b5];simp only[am];rw[b4];rfl)]
    grind [Qwr,OC]
 case false=>
   unfold Ii at G;rw[T,U]at G;simp only[ay]at G;cases X:Prim.isMk py
   case true=>
    rw[X]at G;simp only[ak]at G;obtain⟨b9,qy,vy,c0,c2,rfl,a0,rfl⟩:=TD hy X;cases L:Prim.isMk px
    case true=>
     obtain⟨a4,qx,vx,b2,a7,rfl,N,rfl⟩:=TD hx L;rw[Qn (λt V=>a1 t V)]at a4;rw[O x _ _ _ (λt V=>a1 t V)]at a7;obtain⟨b7,m1,m2⟩:=Zxg a0 N;refine⟨_,Te a4 a7 m1 L,?_⟩
     grind [Te,Qn,OC]
    case false=>
     obtain⟨vx,a8,D,rfl⟩:=Mw hx U L;rw[Tj (λt V=>a1 t V)]at D;obtain⟨rfl,b6⟩:=Q31 G D;refine⟨_,ON (b6 aC),?_⟩
     grind [Te,Qn,OC]
   case false=>
   rw[X]at G;simp only[ay]at G;cases L:Prim.isMk px
   case true=>
    rw[L]at G;simp only[ak]at G;obtain⟨vy,b1,I,rfl⟩:=Mw hy T X;obtain⟨rfl,b6⟩:=Q31 G I;obtain⟨a4,qx,vx,b2,a7,rfl,N,rfl⟩:=TD hx L;rw[Qn (λt V=>a1 t V)]at a4;rw[O x _ _ _ (λt V=>a1 t V)]at a7;refine⟨_,Te a4 a7 N L,?_⟩
    grind [ON,Tj,OC]
   case false=>
   obtain⟨vy,b1,I,rfl⟩:=Mw hy T X;obtain⟨vx,a8,D,rfl⟩:=Mw hx U L;rw[Tj (λt V=>a1 t V)]at D;have key:∃Y,Dk P C ops.toList x tm bx aC=some (px,vx,Y)/\Dk P C ops.toList y tm Y aC=some (py,vy,a8):=by
    unfold Dk at I D⊢;split at I
    ·rename_i b9;cases a9:opK P C (AM tm) y.dst y.op some with
     |none=>grind
     |some qy=>
      rw[a9]at I;simp only[am]at I;cases a0:Aw (C:=C) y.dst (qy.dr false) bx aC with
      |none=>grind
      |some zy=>
       rw[a0]at I;simp at I;obtain⟨rfl,rfl,rfl⟩:=I;split at D
       ·rename_i a4;cases a6:opK P C (AM tm) x.dst x.op some with
        |none=>grind
        |some qx=>
         rw[a6]at D;simp only[am]at D;cases N:Aw (C:=C) x.dst (qx.dr false) zy.2 aC with
         |none=>grind
         |some zx=>
          rw[N]at D;simp at D;obtain⟨rfl,rfl,rfl⟩:=D;obtain⟨Y,m1,m2⟩:=Zll b0 a0 N hm a2 (YF (Qah (λx=>Zv hw.t x) a6))
          grind
       ·grind
       grind
    ·grind
    ·grind
   obtain⟨Y,k1,k2⟩:=key;refine⟨⟨C1 tm x.dst vx,Y,aC⟩,ON k1,?_⟩
   grind [ON,Tj,OC]
theorem Qp7 (D:Ak P C) {ops:Array Oper} {m:List Nat} {x:Nat×Oper×Option Prim} {post:List (Nat×Oper×Option Prim)} {M:St}:∀(pre:List (Nat×Oper×Option Prim)) (s:St),WFst s->Rh P C ops.toList m (pre++x::post) s M->
  (∀y∈pre,Dq ops.toList m x.1=false/\Dq ops.toList m y.1=false/\Oper.apart ops y.2.1 x.2.1=true/\Prim.meet C.ro y.2.2 x.2.2=false/\Ii y.2.1 y.2.2 x.2.1 x.2.2=true)->
  ∃s1,Ic P C ops.toList m x.1 x.2.1 s=some (x.2.2,s1)/\Rh P C ops.toList m (pre++post) s1 M
 |[],s,I,h,_=>by
  obtain⟨i,o,p⟩:=x;exact h
 |(j,O,T)::pre,s,I,h,N=>by
  obtain⟨U,G,V⟩:=h;obtain⟨w1,w2,X,Y,q3⟩:=N (j,O,T) (by simp);have a0:=G;unfold Ic at G;rw[aa (by grind)]at G;obtain⟨s2,L,h4⟩:=Qp7 D pre U (Z5s I G) V λy a1=>N y (by grind);unfold Ic at L;rw[aa (by grind)]at L;obtain⟨s1,h5,h6⟩:=Z0t D I G L X Y q3;refine⟨s1,by simp_all [Ic],s2,?_,h4⟩;simp_all [Ic]
inductive Before (ops : List Oper) : Nat -> Nat -> Prop where
 |one {i:Nat} {o:Oper} {e:Edge} (h:ops[i]? =some o) (he:e∈o.after.toList) (hb:Region.binds .any e=true):Before ops i e.on
 |more {i j:Nat} {o:Oper} {e:Edge} (h:ops[i]? =some o) (he:e∈o.after.toList) (hb:Region.binds .any e=true) (h':Before ops e.on j):Before ops i j
theorem Qh9 {m:List Nat} {j:Nat}:∀(l:List Edge) (acc:Nat),Nat.testBit (Sb m l acc) j=true->Nat.testBit acc j=true\/∃e∈l,Region.binds .any e=true/\(e.on=j\/Nat.testBit (nth 0 m e.on) j=true)
 |[],acc,h=> .inl h
 |e::l,acc,h=>by
  simp only[Sb]at h;cases hb:Region.binds .any e<;>rw[hb]at h
  ·rcases Qh9 l _ h with h|⟨D,he,h'⟩
   ·grind
   grind
  ·rcases Qh9 l _ h with h|⟨D,he,h'⟩
   ·simp only[ak]at h;have:Nat.testBit (acc|||(2^e.on|||nth 0 m e.on)) j=true:=h
    grind
   grind
theorem Zob {α:Type} (n:Nat) (K:Nat->α):Q6f n K=K n:=by cases n<;>rfl
theorem Qtz {α:Type} (d:α):∀(l D:List α) (i:Nat),i<l.length->nth d (l++D) i=nth d l i
 |x::l,D,0,_=>rfl
 |x::l,D,i+1,h=>Qtz d l D i (by grind)
theorem Qqv {α:Type} (d x:α):∀(l:List α),nth d (l++[x]) l.length=x
 |[]=>rfl
 |y::l=>Qqv d x l
theorem Qjl {α:Type} (d:α):∀(l:List α) (i:Nat),l.length<=i->nth d l i=d
 |[],_,_=>rfl
 |x::l,0,h=>by grind
 |x::l,i+1,h=>Qjl d l i (by grind)
theorem Qym {ops:List Oper} {K:List Nat->Option R} {r:R}:∀(l pre:List Oper) (m:List Nat),ops=pre++l->m.length=pre.length->(∀i j,i<m.length->Nat.testBit (nth 0 m i) j=true->Before ops i j)->SZ l m K=some r->
  ∃U,K U=some r/\∀i j,LQ U i j=true->Before ops i j
 |[],pre,m,he,V,M,h=>⟨m,h,λi j D=>by
   by_cases N:i<m.length
   ·exact M i j N D
   grind [LQ,Qjl]⟩
 |o::l,pre,m,he,V,M,h=>by
  simp only[SZ,Zob,Ba]at h;refine Qym l (pre++[o]) _ (by grind) (by grind) (λi j N D=> ?_) h;by_cases X:i<m.length
  ·grind [Qtz]
  ·have O:i=m.length:=by simp at N;omega
   subst O;rw[Qqv]at D;have I:ops[m.length]? =some o:=by rw[he,V];simp
   rcases Qh9 _ _ D with G|⟨e,L,hb,G⟩
   ·grind
   ·rcases G with G|G
    ·rw[<-G];exact .one I L hb
    ·by_cases T:e.on<m.length
     ·exact .more I L hb (M _ _ T G)
     grind [Qjl]
end
open Go.RowKit
section
variable {P:Program} {C:Cfg} {w:World} {R:Type} {Z:Base}
theorem Zwn (L:Ak P C) {ops:List Oper} {o:Oper} {s D:St} {p:Option Prim} (h:Cp (P:=P) (C:=C) ops o s=some (p,D)) (hs:Prim.simple p=true) (K:Option Prim->St->Option R):
  E_ P C false ops o s K=K p D:=by
 have O:∀s1:St,s1=s->Cf ops o s.tmps=some true->(opK P C (AM s1.tmps) o.dst o.op λp=>Be C o.dst (p.dr false) s1 λv D=>put D o.dst v (K (some (p.dr false))))=K p D:=by
  rintro s1 rfl I;unfold Cp at h;rw[I]at h;dsimp only at h;rw[Qm];cases T:opK P C (AM s1.tmps) o.dst o.op some with
  |none=>grind
  |some q=>
   rw[T]at h;simp only[am]at h;cases hm:EP (C:=C) o.dst (q.dr false) s1 with
   |none=>grind
   |some z=>grind [Q3u,L7]
 have M:∀s1:St,s1=s->Cf ops o s.tmps=some false->put s1 o.dst (.tup []) (K none)=K p D:=by
  rintro s1 rfl I;unfold Cp at h;rw[I]at h;simp at h;obtain⟨rfl,rfl⟩:=h;rw[L7]
 unfold E_ PA;cases U:o.guard with
 |none=>simp_all [Cf]
 |some V=>
  obtain⟨j,want⟩:=V;dsimp only;cases X:ops[j]? with
  |none=>grind [Cp,Cf]
  |some Y=>
   dsimp only;cases ht:Y.dst with
   |none=>grind [Cp,Cf]
   |some t=>
    dsimp only;split
    ·rename_i g G;have I:Cf ops o s.tmps=some (g==want):=by simp only[Cf,U,X,ht,G]
     have N:∀b,g=b->(⟨setL s.tmps t (.c (.bool b)),s.aB,s.aC⟩:St)=s:=by
      rintro b rfl;rw[Q3x G (by simp)]
     cases g
     ·simp only[ay];rw[Fo];dsimp only;cases want
      ·grind
      grind
     ·simp only[ak];rw[Fo];dsimp only;cases want
      ·grind
      grind
    ·simp_all [Cf]
    simp_all [Cf,Cp]
theorem Rel.wf {s:St} {tmps:Array Value} (h:Rel Z s tmps w):WFst s:=by
 obtain⟨ρ,h⟩:=h;exact⟨h.wt,h.wb⟩
structure Left (P : Program) (C : Cfg) (ops : Array Oper) (m : List Nat) (listed : Array Bool) (rem : List (Nat × Oper × Option Prim)) : Prop where
 sz:listed.size=ops.size
 op:∀x∈rem,ops[x.1]? =some x.2.1/\(Dq ops.toList m x.1||Prim.simple x.2.2)=true/\∀e∈x.2.1.after,Region.binds .any e=true->e.on<x.1
 out:∀i,i<ops.size->(listed.getD i true=false↔∃x∈rem,x.1=i)
 ord:(rem.map (·.1)).Pairwise (· < ·)
 cl:∀j o,ops[j]? =some o->listed.getD j false=true->∀e∈o.after,Region.binds .any e=true->listed.getD e.on false=true
 pr:∀pre x post,rem=pre++x::post->∀y∈pre,Before ops.toList x.1 y.1\/(Dq ops.toList m x.1=false/\Dq ops.toList m y.1=false/\Oper.apart ops y.2.1 x.2.1=true/\Prim.meet C.ro y.2.2 x.2.2=false/\Ii y.2.1 y.2.2 x.2.1 x.2.2=true)
theorem Q17 (L:Ak P C) (a3:∀t∈C.eqOk,P.stoodInHeld t=false) {ops:Array Oper} {m:List Nat} {Q:Exit->Act->World->Prop} {sf:St} {d0:List Deferred}
  (hq:∀(a:Act) (w:World),Rel Z sf a.tmps w->a.defers=d0->Q .normal a w):
  ∀(fuel:Nat) (listed:Array Bool) (rem:List (Nat×Oper×Option Prim)) (s:St) (a:Act) (w:World),rem.length=fuel->Left P C ops m listed rem->Rh P C ops.toList m rem s sf->WFst s->Rel Z s a.tmps w->a.defers=d0->
  wpAny P .any ops Q fuel listed a w
 |0,listed,rem,s,a,w,hl,I,N,a4,hR,hd=>by
  have hr:rem=[]:=ju hl;subst hr;have:s=sf:=N;subst this;refine⟨?_,hq a w hR hd⟩;apply List.eq_nil_iff_forall_not_mem.2;intro i hi;obtain⟨h1,o,h2,_⟩:=mem_ready.1 hi;obtain⟨x,hx,_⟩:=(I.out i (dc.1 h2).1).1 h1
  grind
 |fuel+1,listed,rem,s,a,w,hl,I,N,a4,hR,hd=>by
  refine⟨λc2=> ?_,λi hi=> ?_⟩
  ·exfalso;cases rem with
   |nil=>grind
   |cons x rem=>
    obtain⟨h1,_,h2⟩:=I.op x (by simp);have U:x.1<ops.size:=(dc.1 h1).1;have:x.1∈Region.ready .any ops listed:=by
     refine mem_ready.2 ⟨(I.out x.1 U).2 ⟨x,by simp,rfl⟩,x.2.1,h1,λe he hb=> ?_⟩;have c3:=h2 e he hb;cases hle:listed.getD e.on false with
     |true=>rfl
     |false=>
      have X:e.on<listed.size:=by rw[I.sz];omega
      have:listed.getD e.on true=false:=by
       rw[Array.getD,jy X]at hle⊢;exact hle
      obtain⟨y,D,c6⟩:=(I.out e.on (by omega)).1 this
      grind [I.ord,List.pairwise_cons]
    grind
  ·obtain⟨h1,o,h2,h3⟩:=mem_ready.1 hi;have a5:i<ops.size:=(dc.1 h2).1;obtain⟨x,hx,a9⟩:=(I.out i a5).1 h1;subst a9;obtain⟨a6,b0,c7⟩:=I.op x hx;have b1:o=x.2.1:=by rw[h2]at a6;simpa using a6
   subst b1;obtain⟨pre,post,G⟩:=List.append_of_mem hx;have a7:∀y∈rem,listed.getD y.1 false=false:=by
    intro y D;have U:y.1<ops.size:=(dc.1 (I.op y D).1).1;have:=(I.out y.1 U).2 ⟨y,D,rfl⟩;have X:y.1<listed.size:=by rw[I.sz];exact U
    rw[Array.getD,jy X]at this⊢;exact this
   have Y:∀y∈pre,Dq ops.toList m x.1=false/\Dq ops.toList m y.1=false/\Oper.apart ops y.2.1 x.2.1=true/\Prim.meet C.ro y.2.2 x.2.2=false/\Ii y.2.1 y.2.2 x.2.1 x.2.2=true:=by
    intro y D;rcases I.pr pre x post G y D with hr|hr
    ·exfalso;have c8:=a7 y (by grind);have c4:∀(i j:Nat),Before ops.toList i j->(∀oi,ops[i]? =some oi->∀e∈oi.after,Region.binds .any e=true->listed.getD e.on false=true)->listed.getD j false=true:=by
      intro i j b2;induction b2 with
      |one ho he hb=>grind
      |more ho he hb _ ih=>
       intro b3;have b4:=b3 _ (by simpa using ho) _ (by grind) hb;exact ih λoe b5 e2 b6 b7=>I.cl _ oe b5 b4 e2 b6 b7
     grind
    ·exact hr
   rw[G]at N;obtain⟨s1,a0,a1⟩:=Qp7 L pre s a4 N Y;have hex:∃b,E_ P C b ops.toList x.2.1 s (λpo s'=>(some (po,s'):Option (Option Prim×St)))=some (x.2.2,s1):=by
    unfold Ic at a0;cases hw:Dq ops.toList m x.1
    ·rw[aa (by grind)]at a0;rw[hw]at b0;exact⟨false,Zwn L a0 (by grind) _⟩
    ·grind
   obtain⟨b,hex⟩:=hex;have c9 := Xf (Q := Q) (next := wpAny P .any ops Q fuel (listed.setIfInBounds x.1 true)) L a3 hR hex (λpo s' a' w' hK a8 b8 => by
    simp at hK;obtain⟨rfl,rfl⟩:=hK;refine Q17 L a3 hq fuel _ (pre++post) _ a' w' ?_ ?_ a1 a8.wf a8 (b8.trans hd)
    ·grind
    ·have V:∀y,y∈pre++post->y∈rem:=by
      intro y D;rw[G];simp at D⊢;rcases D with D|D<;>simp[D]
     have b9:∀y∈pre++post,y.1≠x.1:=by
      intro y D;have T:=I.ord;rw[G]at T;simp only[bt,bj,List.pairwise_append,List.pairwise_cons]at T;obtain⟨o1,⟨o2,o3⟩,o4⟩:=T;simp at D;rcases D with D|D
      ·have:=o4 y.1 (List.mem_map_of_mem D) x.1 (by simp);omega
      ·grind [List.mem_map_of_mem]
     have hg:∀(j:Nat) (d:Bool),(listed.setIfInBounds x.1 true).getD j d=if j=x.1 then true else listed.getD j d:=by
      intro j d;by_cases hj:j=x.1
      ·simp_all [I.sz]
      ·rw[aa hj];exact getD_set_ne d (λe=>hj e.symm)
     refine⟨by grind [I.sz],λy D=>I.op y (V y D),λj hj=> ?_,?_,?_,?_⟩
     ·rw[hg];constructor
      ·intro hh;split at hh
       ·grind
       ·rename_i d1;obtain⟨y,D,d2⟩:=(I.out j hj).1 hh
        grind
      ·rintro⟨y,D,rfl⟩;rw[aa (b9 y D)];exact(I.out y.1 hj).2 ⟨y,V y D,rfl⟩
     ·grind [I.ord]
     ·intro j oj hj a2 e he hb;rw[hg]at a2⊢;split
      ·rfl
      ·split at a2
       ·grind
       ·exact I.cl j oj hj a2 e he hb
     ·intro c5 z c0 c1 y D
      have:∃O M,rem=O++z::M/\y∈O:=by
       rcases List.append_eq_append_iff.1 c1 with⟨as,e1,e2⟩|⟨bs,e1,e2⟩
       ·
        grind
       ·cases bs with
        |nil=>grind
        |cons b bs=>grind
      obtain⟨O,M,q1,q2⟩:=this;exact I.pr O z M q1 y q2)
   unfold wpOp
   grind
end
open Go.RowKit
section
variable {P:Program} {C:Cfg} {w:World} {R:Type} {Z:Base}
theorem Z4v {c a:Bool} (h:(bif c then a else false)=true):c=true/\a=true:=by grind
theorem Q5i {ops:Array Oper} {m:List Nat}:∀(ps D:List (Nat×Oper×Option Prim)) (i:Nat),ps.map (·.1)=List.range' i ps.length->JU C ops m i D (ps.map (·.2))=true->
  ∀pre x post,ps=pre++x::post->(Dq ops.toList m x.1||Prim.simple x.2.2)=true/\(∀e∈x.2.1.after,Region.binds .any e=true->e.on<x.1)/\
   ∀y∈D++pre,LQ m x.1 y.1=true\/(Dq ops.toList m x.1=false/\Dq ops.toList m y.1=false/\Oper.apart ops y.2.1 x.2.1=true/\Prim.meet C.ro y.2.2 x.2.2=false/\Ii y.2.1 y.2.2 x.2.1 x.2.2=true)
 |[],D,i,_,_,pre,x,post,h=>by grind
 |(j,o,p)::ps,D,i,G,I,pre,x,post,h=>by
  simp only[bj,bp,List.range'_succ,fd]at G;obtain⟨rfl,G⟩:=G;simp only[bj,JU]at I;generalize L:((Dq ops.toList m j||Prim.simple p)&&o.after.toList.all (λe=> !(Region.binds .any e)||Nat.blt e.on j)&&Al (λy:Nat×Oper×Option Prim=>LQ m j y.1||(!(Dq ops.toList m j)&& !(Dq ops.toList m y.1)&&(Oper.apart ops y.2.1 o&& !(Prim.meet C.ro y.2.2 p)&&Ii y.2.1 y.2.2 o p))) D)=c at I;cases c
  ·grind
  ·simp only[ak]at I;simp only[aj]at L;obtain⟨⟨N,O⟩,T⟩:=L;cases pre with
   |nil=>
    simp at h;obtain⟨rfl,rfl⟩:=h;refine⟨N,λe he hb=> ?_,λy M=> ?_⟩
    ·have:=List.all_eq_true.1 O e (by grind);simp_all
    ·simp at M;have:=Ax.1 T y M
     grind
   |cons q pre=>
    simp at h;obtain⟨rfl,rfl⟩:=h;obtain⟨U,V,X⟩:=Q5i (pre++x::post) (D++[(j,o,p)]) (j+1) G I pre x post rfl
    grind
theorem Qpt {ops:Array Oper} {m:List Nat}:∀(l:List (Oper×Option Prim)) (D:List (Nat×Oper×Option Prim)) (i:Nat),JU C ops m i D l=true->∀(j:Nat) (q:Oper×Option Prim),l[j]? =some q->(Dq ops.toList m (i+j)||Prim.simple q.2)=true
 |[],_,_,_,j,q,G=>by grind
 |(o,p)::l,D,i,h,j,q,G=>by
  simp only[JU]at h;obtain⟨I,h⟩:=Z4v h;simp only[aj]at I;cases j with
  |zero=>grind
  |succ j=>
   rw[show i+(j+1)=i+1+j from by omega];exact Qpt l _ _ h j q (by grind)
theorem Rel.drew {s:St} {tmps:Array Value} (h:Rel Z s tmps w):Rel Z s tmps {w with drawn:=w.drawn+1}:=by
 obtain⟨ρ,h⟩:=h;have D:∀(a:AC) (x:Value),CC ρ w a x->CC ρ {w with drawn:=w.drawn+1} a x:=λa x G=>CC.mono (w:=w) (w':={w with drawn:=w.drawn+1}) (λ_ h=>h) (λ_ _=>rfl) a x (AC.agree_refl rfl rfl rfl a) G;refine⟨ρ,h.tl,λi v N=>TVR.mono D v _ (h.tv i v N),h.wt,h.wb,?_,h.bi,?_,h.ri,h.br,h.ib,h.fr.drew,h.fs,h.i0,h.i1,h.k0⟩
 ·intro k b O;obtain⟨arr,I,L,M⟩:=h.bx k b O;exact⟨arr,I,L.mono λa _ x G=>D a x G,M⟩
 ·intro id r T;obtain⟨I,L,U,xs,M,V⟩:=h.ro id r T;exact⟨I,L,U,xs,Mx M (λ_ _=>rfl),RowC.mono (w:=w) (λ_ h=>h) (λ_ _=>rfl) V⟩
theorem Zhb (D:Ak P C) (I:∀t∈C.eqOk,P.stoodInHeld t=false) (L:P.follows .mixedOrders=true) {id:Nat} {ops:Array Oper} {draw:Bool} {s:St} {a:Act} (X:Rel Z s a.tmps w) {K:St->Option R} {r:R}
  (h:YW P C ops draw s K=some r) {Q:Exit->Act->World->Prop} (hq:∀(s':St) (M:Act) (w':World),K s'=some r->Rel Z s' M.tmps w'->M.defers=a.defers->Q .normal M w'):
  (Code.region id ops draw).wp P Q a w:=by
 cases draw
 ·exact wp_region_list (Qjh D I _ s a w X h hq)
 ·simp only[YW,ak]at h;refine wp_region_any L ?_;obtain⟨m,h,hm⟩:=Qym (ops:=ops.toList) ops.toList [] [] rfl rfl (λi j hi=>by grind) h;rcases Zp D ops.toList 0 s _ r h with⟨ps,sf,U,Y,q3,q4⟩|⟨acc,sf,U,j,q,Y,q3⟩
  ·cases N:JU C ops m 0 [] (ps.map (·.2))<;>rw[N]at q4
   ·grind
   ·simp only[ak]at q4;have hlen:ps.length=ops.size:=by have:=iz List.length U;simpa using this
    have G:ps.map (·.1)=List.range' 0 ps.length:=by rw[Y];simp[hlen]
    have a0:=Q5i ps [] 0 G N;have O:∀(i:Nat) (x:Nat×Oper×Option Prim),ps[i]? =some x->x.1=i/\ops[i]? =some x.2.1:=by
     intro i x V;have h1:(ps.map (·.1))[i]? =some x.1:=by simp[V]
     have h2:(ps.map (·.2.1))[i]? =some x.2.1:=by simp[V]
     rw[G,List.getElem?_range']at h1;rw[U]at h2
     ·grind
     ·grind
    refine Q17 D I (m:=m) (sf:=sf) (d0:=a.defers) (λM w' a1 a2=>hq sf M w' q4 a1 a2) ops.size _ ps s a _ hlen ?_ q3 X.wf X.drew rfl;refine⟨by simp,λx V=> ?_,λi hi=> ?_,?_,?_,?_⟩
    ·obtain⟨pre,post,hs⟩:=List.append_of_mem V
     grind
    ·constructor
     ·intro _;have T:i<ps.length:=by omega
      exact⟨ps[i],ca T,(O i ps[i] (ag T)).1⟩
     ·intro _;simp[Array.getD,hi]
    ·grind [List.pairwise_lt_range']
    ·simp[Array.getD]
    ·intro pre x post hs y hy;rcases(a0 pre x post hs).2.2 y (by grind)with h1|h1
     ·grind
     grind
  ·cases N:JU C ops m 0 [] acc<;>rw[N]at U
   ·grind
   ·have:=Qpt acc [] 0 N j q Y
    grind
def K2:Ex->Exit
 | .normal=> .normal
 | .exit id=> .exit id
 | .ret=> .ret
def Km (Z:Base) (K:Ex->St->Option R) (r:R) (d:List Deferred):Exit->Act->World->Prop:=
 λe a w=>∃D s,K2 D=e/\K D s=some r/\Rel Z s a.tmps w/\a.defers=d
theorem Zal {step:St->(Ex->St->Option R)->Option R} {body:Code} {K:Ex->St->Option R} {r:R} {d:List Deferred}
  (D:∀(s:St) (a:Act) (w:World) (N:Ex->St->Option R),Rel Z s a.tmps w->a.defers=d->step s N=some r->body.wp P (Km Z N r d) a w):
  ∀(n:Nat) (s:St) (a:Act) (w:World),Rel Z s a.tmps w->a.defers=d->PH P C step n s K=some r->Code.rounds P body (Km Z K r d) n a w
 |0,s,a,w,O,T,h=>by grind [PH]
 |n+1,s,a,w,O,T,h=>by
  rw[PH]at h;rw[rounds_succ];refine wp_mono (D s a w _ O T h) ?_;rintro e U w' ⟨V,s2,rfl,L,G,I⟩;cases V with
  |normal=>
   obtain⟨X,Y,M⟩:=Mg G L;exact Zal D n X U w' M I Y
  |exit id=>exact⟨.exit id,s2,rfl,L,G,I⟩
  |ret=>exact⟨.ret,s2,rfl,L,G,I⟩
def InZ (Z:Base):Prop:=∀k b,Z.K0 k=some b->DT k=true
def KA (P:Program) (c:Code) (sk:Sk) (g:IL):Prop:=
 ∀(Z:Base) (_:InZ Z) (a:Act) (w:World) (vars:List AC) (R:Type) (K:Ex->St->Option R) (r:R),Rel Z (AH sk vars) a.tmps w->g R vars K=some r->c.wp P (Km Z K r a.defers) a w
structure SubOK (P : Program) (C : Cfg) (c : Code) (blk : Nat) : Prop where
 l:∀p∈A5 c blk,∀sk g,C.loops p.1=some (sk,g)->KA P (.loop p.2) sk g
 b:∀p∈Cy c,∀sk g,C.blocks p.1=some (sk,g)->KA P (.block p.1 p.2) sk g
 c:∀p∈BG c blk,∀sk g,C.conds p.1=some (sk,g)->KA P (.cond (.tmp p.1) p.2.2.1 p.2.2.2) sk g
theorem IN:∀(c:Code) (b b':Nat),A5 c b=A5 c b'
 | .seq x y,b,b'=>by simp only[A5,IN x b b',IN y b b']
 | .cond _ x y,b,b'=>by simp only[A5,IN x b b',IN y b b']
 | .block _ x,b,b'=>by simp only[A5,IN x b b']
 | .loop x,b,b'=>by simp only[A5,IN x b b']
 | .skip,_,_=>rfl
 | .region _ _ _,_,_=>rfl
 | .exit _,_,_=>rfl
 | .ret,_,_=>rfl
 | .rangeFunc _ _ _ _,_,_=>rfl
 | .scope x,b,b'=>by simp only[A5,IN x b b']
 | .label _,_,_=>rfl
 | .goto _,_,_=>rfl
 | .refuse _,_,_=>rfl
theorem Jn:∀(c:Code) (b b':Nat),BG c b=BG c b'
 | .seq x y,b,b'=>by simp only[BG,Jn x b b',Jn y b b']
 | .cond c x y,b,b'=>by cases c<;>simp only[BG,Jn x b b',Jn y b b']
 | .block _ x,b,b'=>by simp only[BG,Jn x b b']
 | .loop x,b,b'=>by simp only[BG,Jn x b b']
 | .skip,_,_=>rfl
 | .region _ _ _,_,_=>rfl
 | .exit _,_,_=>rfl
 | .ret,_,_=>rfl
 | .rangeFunc _ _ _ _,_,_=>rfl
 | .scope x,b,b'=>by simp only[BG,Jn x b b']
 | .label _,_,_=>rfl
 | .goto _,_,_=>rfl
 | .refuse _,_,_=>rfl
theorem SubOK.any {c:Code} (b:Nat) {b':Nat} (h:SubOK P C c b):SubOK P C c b':=
 ⟨λp D=>h.l p (by grind [IN]),h.b,λp D=>h.c p (by grind [Jn])⟩
theorem Qcr {c:Code} {told:Option (Sk×IL)} {s:St} {a:Act} {K:Ex->St->Option R} {r:R} {d:List Deferred} {run:Option R} (I:InZ Z)
  (N:∀sk g,told=some (sk,g)->KA P c sk g) (D:Rel Z s a.tmps w) (O:a.defers=d) (h:KK told s K run=some r) (L:run=some r->c.wp P (Km Z K r d) a w):c.wp P (Km Z K r d) a w:=by
 unfold KK at h;split at h
 ·grind
 ·rename_i sk g;obtain⟨G,M⟩:=BO h;split at M
  ·rename_i vars T;obtain⟨ρ,D⟩:=D;obtain⟨tm,aB,aC⟩:=s;subst O;exact N sk g rfl Z I a w vars R K r ⟨ρ,D.rebuild I G T⟩ M
  grind
theorem Q7g {ρ:Env} {d:Nat} {a:AC} {x:Value} (h:CC ρ w a x):CC ρ w (a.killP d) x:=by
 cases a with
 |ptr k o=>simp only[AC.killP];cases Nat.beq k d<;>first|exact h|exact h.one
 |bsl k o=>simp only[AC.killP];cases Nat.beq k d<;>first|exact h|exact h.one
 |clo f fs cs=>simp only[AC.killP];cases(Al (Kr d) fs&&Al (Kr d) cs)<;>first|exact h|exact h.one
 |_=>exact h
theorem UF {ρ:Env} {f:AC->AC} (hf:∀(a:AC) (x:Value),CC ρ w a x->CC ρ w (f a) x):∀{l:List AC} {xs:List Value},CL (CC ρ w) l xs->CL (CC ρ w) (l.map f) xs
 |[],[],_=>trivial
 |_::_,_::_,h=>⟨hf _ _ h.1,UF hf h.2⟩
 |[],_::_,h=>h.elim
 |_::_,[],h=>h.elim
theorem Z9g {ρ:Env} {f:AC->AC} (hf:∀(a:AC) (x:Value),CC ρ w a x->CC ρ w (f a) x) {v:TV} {x:Value} (h:TVR ρ w v x):TVR ρ w (v.mapC f) x:=by
 cases v with
 |vD=>trivial
 |tup ps=>
  obtain⟨G,rfl,D⟩:=h;refine⟨G,rfl,?_⟩;generalize G.toList=l at D;induction ps generalizing l with
  |nil=>grind
  |cons p ps I=>
   cases l with
   |nil=>exact D.elim
   |cons y l=>
    obtain⟨g,cs⟩:=p;refine⟨?_,I l D.2⟩;have:=D.1;cases g
    ·grind
    grind [UF]
 |v g cs=>
  cases g
  ·obtain⟨a,rfl,L⟩:=h;exact⟨_,rfl,hf _ _ L⟩
  ·obtain⟨G,rfl,D⟩:=h;exact⟨G,rfl,UF hf D⟩
theorem RelE.forget {tm:List TV} {aB:List (Nat×Box)} {aC:List (Nat×Row)} {ρ:Env} {tmps:Array Value} (h:RelE Z tm aB aC ρ tmps w) {d:Nat} (hd:∀b,Z.K0 d≠some b):
  RelE Z (tm.map (TV.mapC (AC.killP d))) ((del d aB).map λp=>(p.1,(⟨p.2.ty,p.2.cells.map (AC.killP d)⟩:Box))) aC ρ tmps w:=by
 have T:∀k,Ab ((del d aB).map λp=>(p.1,(⟨p.2.ty,p.2.cells.map (AC.killP d)⟩:Box))) k=(Ab (del d aB) k).map λb=>⟨b.ty,b.cells.map (AC.killP d)⟩:=λk=>Fl (λb:Box=>(⟨b.ty,b.cells.map (AC.killP d)⟩:Box)) _ k;have G:∀(k:Nat) (b:Box),Ab ((del d aB).map λp=>(p.1,(⟨p.2.ty,p.2.cells.map (AC.killP d)⟩:Box))) k=some b->k≠d/\∃b',Ab aB k=some b'/\b=⟨b'.ty,b'.cells.map (AC.killP d)⟩:=by
  intro k b D;rw[T]at D;simp only[bz]at D;obtain⟨b',h1,rfl⟩:=D;obtain⟨h2,h3⟩:=LZ h1;exact⟨h2,b',h3,rfl⟩
 have M:∀(k:Nat) (b:Box),k≠d->Ab aB k=some b->∃b',Ab ((del d aB).map λp=>(p.1,(⟨p.2.ty,p.2.cells.map (AC.killP d)⟩:Box))) k=some b':=λk b X D=>⟨_,by rw[T,Kh _ _ _ X,D];rfl⟩;have U:∀a,Kr d a=true->AC.wfP aB a->AC.wfP ((del d aB).map λp=>(p.1,(⟨p.2.ty,p.2.cells.map (AC.killP d)⟩:Box))) a:=by
  intro a hn I;cases a<;>try exact trivial
  rename_i k o;obtain⟨b,hb⟩:=I;simp only[Kr,Bool.not_eq_true']at hn;exact M k b (GT hn) hb
 have N:∀a,AC.wf aB aC a->AC.wf ((del d aB).map λp=>(p.1,(⟨p.2.ty,p.2.cells.map (AC.killP d)⟩:Box))) aC (a.killP d):=by
  intro a I;cases a with
  |ptr k o=>
   simp only[AC.killP];cases D:Nat.beq k d
   ·obtain⟨b,hb⟩:=I;exact M k b (GT D) hb
   ·exact trivial
  |bsl k o=>
   simp only[AC.killP];cases D:Nat.beq k d
   ·obtain⟨b,hb⟩:=I;exact M k b (GT D) hb
   ·exact trivial
  |clo f fs cs=>
   simp only[AC.killP];cases L:(Al (Kr d) fs&&Al (Kr d) cs)
   ·exact trivial
   ·simp only[aj]at L;exact⟨λa h'=>U a (Ax.1 L.1 a h') (I.1 a h'),λa h'=>U a (Ax.1 L.2 a h') (I.2 a h')⟩
  |_=>exact I
 refine⟨by grind [h.tl],?_,?_,?_,?_,?_,h.ro,h.ri,?_,?_,h.fr,h.fs,h.i0,h.i1,?_⟩
 ·intro i v hi;simp only[du,bz]at hi;obtain⟨u,Y,rfl⟩:=hi;exact Z9g (λ_ _=>Q7g) (h.tv i u Y)
 ·intro v hv;simp only[bc]at hv;obtain⟨u,Y,rfl⟩:=hv;have:=h.wt u Y;cases u with
  |vD=>trivial
  |v g cs=>
   intro a I;simp only[bc]at I;obtain⟨c,L,rfl⟩:=I;exact N c (this c L)
  |tup ps=>
   intro p hp a I;simp only[bc]at hp;obtain⟨q,hq,rfl⟩:=hp;simp only[bc]at I;obtain⟨c,L,rfl⟩:=I;exact N c (this q hq c L)
 ·intro k b D a I;obtain⟨_,b',O,rfl⟩:=G k b D;simp only[bc]at I;obtain⟨c,L,rfl⟩:=I;exact N c (h.wb k b' O c L)
 ·intro k b D;obtain⟨_,b',O,rfl⟩:=G k b D;obtain⟨arr,h1,h2,h3⟩:=h.bx k b' O
  grind [UF,Q7g]
 ·intro k k' b b' D a0;obtain⟨_,_,V,_⟩:=G k b D;obtain⟨_,_,p2,_⟩:=G k' b' a0;exact h.bi k k' _ _ V p2
 ·intro k b j q D hq;obtain⟨_,_,V,_⟩:=G k b D;exact h.br k _ j q V hq
 ·intro b hb;obtain⟨q1,q2,q3⟩:=h.ib b hb
  grind
 ·intro k b D;obtain⟨V,bo,p2⟩:=h.k0 k b D
  grind
theorem SX (G:InZ Z) {tmps:Array Value} {K:St->Option R} {r:R}:∀(l:List Nat) (s:St),Rel Z s tmps w->Rx l s K=some r->∃L,K L=some r/\Rel Z L tmps w
 |[],s,D,h=>⟨s,h,D⟩
 |d::l,⟨tm,aB,aC⟩,D,h=>by
  simp only[Rx]at h;split at h
  ·exact SX G l _ D h
  ·cases I:DT d<;>rw[I]at h
   ·simp only[ay,Ba]at h;obtain⟨ρ,D⟩:=D;exact SX G l _ ⟨ρ,D.forget (d:=d) λb hb=>by rw[G d b hb]at I;cases I⟩ h
   grind
theorem FG (D:Ak P C) (V:∀t∈C.eqOk,P.stoodInHeld t=false) (N:P.follows .mixedOrders=true) (hZ:InZ Z) {r:R} {d:List Deferred}:
  ∀(c:Code) (L blk:Nat) (s:St) (a:Act) (w:World) (K:Ex->St->Option R),SubOK P C c blk->Rel Z s a.tmps w->a.defers=d->BC P C L c blk s K=some r->c.wp P (Km Z K r d) a w
 | .skip,L,blk,s,a,w,K,I,O,T,h=>wp_skip ⟨.normal,s,rfl,h,O,T⟩
 | .region id ops draw,L,blk,s,a,w,K,I,O,T,h=>by
  rw[BC]at h;obtain⟨s0,h,O⟩:=SX hZ _ s O h;exact Zhb D V N O h λY a' w' X M U=>⟨.normal,Y,rfl,X,M,U.trans T⟩
 | .seq x y,L,blk,s,a,w,K,I,O,T,h=>by
  rw[BC]at h;refine wp_seq (wp_mono (FG D V N hZ x L blk s a w _ ⟨λp G=>I.l p (by simp[A5,G]),λp G=>I.b p (by simp[Cy,G]),λp G=>I.c p (by simp[BG,G])⟩ O T h) ?_);rintro e a' w' ⟨ae,Y,rfl,X,M,U⟩;cases ae with
  |normal=>exact FG D V N hZ y L blk Y a' w' K ⟨λp G=>I.l p (by simp[A5,G]),λp G=>I.b p (by simp[Cy,G]),λp G=>I.c p (by simp[BG,G])⟩ M U X
  |exit id=>exact⟨.exit id,Y,rfl,X,M,U⟩
  |ret=>exact⟨.ret,Y,rfl,X,M,U⟩
 | .cond c x y,L,blk,s,a,w,K,I,O,T,h=>by
  have hx:SubOK P C x blk:=⟨λp G=>I.l p (by simp[A5,G]),λp G=>I.b p (by simp[Cy,G]),λp G=>I.c p (by cases c<;>simp[BG,G])⟩;have hy:SubOK P C y blk:=⟨λp G=>I.l p (by simp[A5,G]),λp G=>I.b p (by simp[Cy,G]),λp G=>I.c p (by cases c<;>simp[BG,G])⟩;rw[BC]at h;refine Qcr (c:= .cond c x y) hZ ?_ O T h λh2=> ?_
  ·intro sk g ht;unfold TU at ht;split at ht
   ·rename_i t;exact I.c (t,0,x,y) (by simp[BG]) sk g ht
   grind
  ·split at h2
   ·rename_i g hg;have hc:a.eval c= .bool g:=by
     obtain⟨ρ,a0⟩:=O;have:=TT a0 c;rw[hg]at this;exact this.bool
    refine wp_cond hc ?_;split at h2
    ·rename_i t;have a1:∀b,g=b->Rel Z ⟨setL s.tmps t (.c (.bool b)),s.aB,s.aC⟩ a.tmps w:=by
      rintro b rfl;obtain⟨ρ,a0⟩:=O;exact⟨ρ,a0.learn t (by have e:a.tmps.getD t undef= .bool g:=hc;grind [TVR.mkBool]) (FA _)⟩
     cases g
     ·simp only[ay]at h2;rw[Fo]at h2;exact FG D V N hZ y L blk _ a w K hy (a1 false rfl) T h2
     ·simp only[ak]at h2;rw[Fo]at h2;exact FG D V N hZ x L blk _ a w K hx (a1 true rfl) T h2
    ·cases g
     ·exact FG D V N hZ y L blk s a w K hy O T h2
     ·exact FG D V N hZ x L blk s a w K hx O T h2
   grind
 | .block id body,L,blk,s,a,w,K,I,O,T,h=>by
  have hb:SubOK P C body id:=SubOK.any blk ⟨λp G=>I.l p (by simp[A5,G]),λp G=>I.b p (by simp[Cy,G]),λp G=>I.c p (by simp[BG,G])⟩;rw[BC]at h;refine Qcr (c:= .block id body) hZ (I.b (id,body) (by simp[Cy])) O T h λh2=> ?_;refine wp_block (wp_mono (FG D V N hZ body L id s a w _ hb O T h2) ?_);rintro e a' w' ⟨ae,Y,rfl,X,M,U⟩;cases ae with
  |normal=>exact⟨.normal,Y,rfl,X,M,U⟩
  |exit i=>
   simp only[K2,Exit.inBlock];dsimp only at X;cases hb:Nat.beq i id<;>rw[hb]at X
   ·have:i≠id:=λe=>by simp_all
    rw[aa this];exact⟨.exit i,Y,rfl,X,M,U⟩
   ·rw[ab (ah hb)];exact⟨.normal,Y,rfl,X,M,U⟩
  |ret=>exact⟨.ret,Y,rfl,X,M,U⟩
 | .loop body,L,blk,s,a,w,K,I,O,T,h=>by
  rw[BC]at h;obtain⟨Y,h',M⟩:=P1 _ s a.tmps O _ r h;obtain⟨s1,h1,a2⟩:=Mg M h';have hb:SubOK P C body blk:=⟨λp G=>I.l p (by simp[A5,G]),λp G=>I.b p (by simp[Cy,G]),λp G=>I.c p (by simp[BG,G])⟩;refine Qcr (c:= .loop body) hZ (I.l (Rl body,body) (by simp[A5])) a2 T h1 λh2=> ?_;exact wp_loop_rounds L (Zal (λs a w K' O T h=>FG D V N hZ body L blk s a w K' hb O T h) L s1 a w a2 T h2)
 | .exit id,L,blk,s,a,w,K,I,O,T,h=>wp_exit ⟨.exit id,s,rfl,h,O,T⟩
 | .ret,L,blk,s,a,w,K,I,O,T,h=>wp_ret ⟨.ret,s,rfl,h,O,T⟩
 | .rangeFunc f ps a3 body,L,blk,s,a,w,K,I,O,T,h=>by grind [BC]
 | .scope b,L,blk,s,a,w,K,I,O,T,h=>by
  rw[BC]at h;refine wp_scope_straight (wp_mono (FG D V N hZ b L blk s a w K ⟨λp G=>I.l p (by simp[A5,G]),λp G=>I.b p (by simp[Cy,G]),λp G=>I.c p (by simp[BG,G])⟩ O T h) ?_);rintro e a' w' ⟨ae,Y,rfl,X,M,U⟩;cases ae with
  |normal=>exact⟨.normal,Y,rfl,X,M,U⟩
  |exit i=>exact⟨.exit i,Y,rfl,X,M,U⟩
  |ret=>exact⟨.ret,Y,rfl,X,M,U⟩
 | .label l,L,blk,s,a,w,K,I,O,T,h=>by
  rw[BC]at h;exact wp_label ⟨.normal,s,rfl,h,O,T⟩
 | .goto l,L,blk,s,a,w,K,I,O,T,h=>by grind [BC]
 | .refuse a4,L,blk,s,a,w,K,I,O,T,h=>by grind [BC]
theorem Z56 {e D:Ex} (h:UZ e D=true):e=D:=by
 cases e<;>cases D<;>simp only[UZ]at h<;>first|rfl|simp_all|simp_all
theorem Qi7 {s:St} {I:Ex} {tmps:Array Value} (L:InZ Z) (G:Rel Z s tmps w):∀{D:List (Ex×Sk)} {i n:Nat} {o:List AC},Ki D i I s=some (n,o)->
  i<=n/\∃sk,(∀(R:Type) (K:Ex->St->Option R),Pq o K D i n=K I (AH sk o))/\Rel Z (AH sk o) tmps w
 |[],i,n,o,h=>by grind [Ki]
 |(e,sk)::l,i,n,o,h=>by
  simp only[Ki]at h;cases hb:(UZ e I&&sk.okB)<;>rw[hb]at h
  ·simp only[ay]at h;obtain⟨O,M,T,U⟩:=Qi7 L G h
   grind [Pq,J6]
  ·simp only[ak]at h;simp only[aj]at hb;split at h
   ·rename_i vars N;simp at h;obtain⟨rfl,rfl⟩:=h;refine⟨cm _,sk,λR K=> ?_,?_⟩
    ·simp only[Pq,Nat.beq_refl,ak];rw[Z56 hb.1]
    ·obtain⟨ρ,G⟩:=G;obtain⟨tm,aB,aC⟩:=s;exact⟨ρ,G.rebuild L hb.2 N⟩
   grind
theorem Zus (I:Ak P C) (a0:∀t∈C.eqOk,P.stoodInHeld t=false) (O:P.follows .mixedOrders=true) {L blk:Nat} {body:Code} {sk:Sk} {D:List (Ex×Sk)} {m:List AC->Option (Nat×List AC)}
  (a1:sk.okB=true) (T:SubOK P C body blk) (hm:∀vars o,m vars=some o->∃n,Cu (A1 P C L blk body sk D) n vars=some o):KA P (.loop body) sk (gOf D m):=by
 intro Z hZ a w vars R K r hR h;simp only[gOf,bn]at h;obtain⟨⟨t,o⟩,h1,h2⟩:=h;obtain⟨n,hn⟩:=hm vars _ h1;have key:∀(n:Nat) (vars:List AC) (U:Act) (w':World),Rel Z (AH sk vars) U.tmps w'->U.defers=a.defers->Cu (A1 P C L blk body sk D) n vars=some (t,o)->Code.rounds P body (Km Z K r a.defers) n U w':=by
  intro n;induction n with
  |zero=>grind [Cu]
  |succ n ih=>
   intro vars U w' a3 a4 h;simp only[Cu,bn]at h;obtain⟨⟨t',o'⟩,q1,N⟩:=h;rw[rounds_succ];refine wp_mono (FG I a0 O hZ body L blk _ U w' _ T a3 a4 q1) ?_;rintro e a2 w2 ⟨ae,s',rfl,hK,V,X⟩;have G:∀Y:Ex,Ki D 1 Y s'=some (t',o')->Km Z K r a.defers (K2 Y) a2 w2:=by
    intro Y hx;obtain⟨p1,a5,p2,p3⟩:=Qi7 hZ V hx;have ht:t'≠0:=by omega
    dsimp only at N;rw[aa ht]at N;simp at N;obtain⟨rfl,rfl⟩:=N;rw[p2 R K]at h2;exact⟨Y,_,rfl,h2,p3,X⟩
   cases ae with
   |normal=>
    obtain⟨s3,h3,M⟩:=Mg V hK;split at h3
    ·rename_i vars' hv;simp at h3;obtain⟨rfl,rfl⟩:=h3;simp only[fo]at N;obtain⟨ρ,M⟩:=M;obtain⟨tm,aB,aC⟩:=s3;exact ih _ a2 w2 ⟨ρ,M.rebuild hZ a1 hv⟩ X N
    grind
   |exit i=>exact G _ hK
   |ret=>exact G _ hK
 exact wp_loop_rounds n (key n vars a w hR rfl hn)
end
open Go.RowKit
section
variable {P:Program} {C:Cfg} {w:World} {R:Type} {Z:Base}
theorem RelE.slots {tm G:List TV} {aB:List (Nat×Box)} {aC:List (Nat×Row)} {ρ:Env} {tmps D:Array Value} (h:RelE Z tm aB aC ρ tmps w) (I:G.length=D.size)
  (L:∀(i:Nat) (v:TV),G[i]? =some v->TVR ρ w v (D.getD i undef)) (M:∀v∈G,TV.wf aB aC v):RelE Z G aB aC ρ D w:=
 ⟨I,L,M,h.wb,h.bx,h.bi,h.ro,h.ri,h.br,h.ib,h.fr,h.fs,h.i0,h.i1,h.k0⟩
theorem Q2i {s:St} {a:Act} {ρ:Env} (I:RelE Z s.tmps s.aB s.aC ρ a.tmps w):∀(l:List ResultVar) (ps:List (Bool×List AC)),K4 P s l=some ps->
  ∃ xs : List Value, (l.mapM fun
   | .tmp t=>pure (a.tmps.getD t undef)
   | .cell b t=>do loadVar t (<-asAddr (a.tmps.getD b undef)):Sem (List Value)).run P w= .ok xs w/\TP ρ w ps xs/\∀p∈ps,∀c∈p.2,AC.wf s.aB s.aC c
 |[],ps,h=>by simp[K4]at h;subst h;exact⟨[],rfl,trivial,by simp⟩
 |rv::l,ps,h=>by
  simp only[K4]at h;split at h
  ·rename_i g cs D;split at h
   ·rename_i N O;simp at h;subst h;obtain⟨xs,h1,h2,h3⟩:=Q2i I l N O;have key : ∃ x, ((match rv with
      | .tmp t=>pure (a.tmps.getD t undef)
      | .cell b t=>do loadVar t (<-asAddr (a.tmps.getD b undef)):Sem Value)).run P w= .ok x w/\TVR ρ w (.v g cs) x/\TV.wf s.aB s.aC (.v g cs):=by
     cases rv with
     |tmp t=>
      simp only[Qlc]at D;split at D
      ·rename_i g' L T;simp at D;obtain⟨rfl,rfl⟩:=D;have U:t<s.tmps.length:=by
        rcases j6 t s.tmps.length with V|X
        ·omega
        ·grind [B8]
       have G:s.tmps[t]? =some (.v g' L):=by
        rw[B8,List.getD]at T;rw[ag U]at T⊢;simpa using T
       exact⟨_,by simp,I.tv t _ G,I.wt _ (da G)⟩
      grind
     |cell b t=>
      simp only[Qlc]at D;split at D
      ·rename_i key off g' sz hb hg hs;have Y:b<s.tmps.length:=by
        rcases j6 b s.tmps.length with V|X
        ·omega
        ·grind [B8]
       have G:s.tmps[b]? =some (.c (.ptr key off)):=by
        rw[B8,List.getD]at hb;rw[ag Y]at hb⊢;simpa using hb
       have hc:=(I.tv b _ G).c;simp only[CC]at hc;split at D
       ·rename_i bo M;obtain⟨arr,q1,q2,q3⟩:=I.bx key bo M;obtain ⟨x, q4, q5⟩ := U6 (b := ρ.bx key) (o := 0) hg hs D q2 (λj y hj => by
         simp only[fg];rw[cell_of_row w _ j arr bo.ty (0,0) q1]
         grind)
        rw[fg]at q4;exact⟨x,by grind [asAddr],q5,QX D (I.wb key bo M)⟩
       grind
      grind
    obtain⟨x,k1,k2,k3⟩:=key;refine⟨x::xs,?_,?_,?_⟩
    ·simp_all
    ·refine⟨?_,h2⟩;cases g<;>exact k2
    ·intro p hp;simp only[av]at hp;rcases hp with rfl|hp
     ·exact k3
     grind
   grind
  grind
theorem PZ:∀(ks:List Kd) (cs:List AC),(DN ks cs).length=cs.length
 |[],[]=>rfl
 |[],_::_=>rfl
 | .sl _::_,[]=>rfl
 | .int _::_,[]=>rfl
 | .bool::_,[]=>rfl
 | .raw::_,[]=>rfl
 | .int _::l,_::cs=>by simp[DN,PZ l cs]
 | .bool::l,_::cs=>by simp[DN,PZ l cs]
 | .raw::l,_::cs=>by simp[DN,PZ l cs]
 | .sl _::l,a::cs=>by cases a<;>simp[DN,PZ l cs]
theorem Qto {ρ:Env}:∀(D:List TypeId) (ps:List (Bool×List AC)) (xs:List Value),TP ρ w ps xs->TP ρ w (HC P D ps) xs
 |[],ps,xs,h=>by grind [HC]
 |_::_,[],xs,h=>by grind [HC]
 |t::D,(g,cs)::ps,[],h=>h.elim
 |t::D,(g,cs)::ps,x::xs,h=>by
  refine⟨?_,Qto D ps xs h.2⟩;have G:=h.1;cases N:GA P 8 t with
  |none=>exact G
  |some ks=>
   cases g
   ·obtain⟨a,rfl,I⟩:=G;have:=KO ks [a] [x] ⟨I,trivial⟩;have L:=PZ ks [a];generalize M:DN ks [a]=l at this L;cases l with
    |nil=>grind
    |cons b l=>
     cases l with
     |nil=>exact⟨b,M,this.1⟩
     |cons=>grind
   grind [KO]
theorem Q45 {aB:List (Nat×Box)} {aC:List (Nat×Row)}:∀(G:List TypeId) (ps:List (Bool×List AC)),(∀p∈ps,∀c∈p.2,AC.wf aB aC c)->∀p∈HC P G ps,∀c∈p.2,AC.wf aB aC c
 |[],ps,h=>by simpa [HC]using h
 |_::_,[],h=>by simp[HC]
 |t::G,(g,cs)::ps,h=>by
  intro p D;simp only[HC,av]at D;rcases D with rfl|D
  ·cases I:GA P 8 t with
   |none=>simp_all
   |some ks=>exact Nu ks cs (h (g,cs) (by simp))
  ·exact Q45 G ps (λq L=>h q (by grind)) p D
theorem Qye {ρ:Env}:∀{ps:List (Bool×List AC)} {xs:List Value},TP ρ w ps xs->ps.length=xs.length
 |[],[],_=>rfl
 |_::_,_::_,h=>by simp[Qye h.2]
 |[],_::_,h=>h.elim
 |_::_,[],h=>h.elim
theorem Zo2 {ρ:Env} {ps:List (Bool×List AC)} {xs:List Value} (h:TP ρ w ps xs):TVR ρ w (KU ps) (if h:xs.length=1 then xs[0]else .tuple xs.toArray):=by
 have D:=Qye h
 match ps,xs,h with
 |[],[],_=>exact⟨#[],rfl,trivial⟩
 |[(g,cs)],[x],h=>
  simp only[KU,dh,dite_true,List.getElem_cons_zero];have:=h.1;cases g<;>exact this
 |p::q::ps,x::y::xs,h=>
  have: ¬(x::y::xs).length=1:=by simp
  rw[dif_neg this];exact⟨_,rfl,by omega⟩
theorem Zcz {keys ids:List Nat} {ps:List (Bool×List AC)} (h:Al (λp:Bool×List AC=>Al (AC.inK keys ids) p.2) ps=true):TV.inK keys ids (KU ps)=true:=by
 match ps,h with
 |[],h=>exact h
 |[(g,cs)],h=>exact Ax.1 h (g,cs) (by simp)
 |p::q::ps,h=>exact h
theorem Zcs {aB:List (Nat×Box)} {aC:List (Nat×Row)} {ps:List (Bool×List AC)} (h:∀p∈ps,∀c∈p.2,AC.wf aB aC c):TV.wf aB aC (KU ps):=by
 match ps,h with
 |[],h=>exact h
 |[(g,cs)],h=>exact h (g,cs) (by simp)
 |p::q::ps,h=>exact h
theorem Qlf {M:Func} {keys0:List Nat} {s:St} {a:Act} (hR:Rel Z s a.tmps w) (hk0:∀k b,Z.K0 k=some b->k∈keys0) {K:TV->Mem->Option R} {r:R} (h:Mp P C M keys0 s K=some r):
  ∃x ρ' v m,K v m=some r/\(results M a.tmps).run P w= .ok x w/\RelE Z [v] m.aB m.aC ρ' #[x] w/\(C.keepIn=true->a.tmps.getD 0 undef=ρ'.rv base):=by
 unfold Mp at h;split at h
 ·grind
 ·rename_i ps a3;have h1:∃s1,(HS P C s1 λs1=>match K4 P s1 M.results.toList with
    |none=>none
    |some ps=>match s1 with
     |⟨tm,aB,aC⟩=>
      bif !C.keepIn||Qdz tm then
      AW (HC P M.resultTypes.toList ps) λps=>
      AW (Lr aB 4 (Bf (cat (λp:Bool×List AC=>cat AC.keys p.2) ps) keys0)) λkeys=>
      AW (NW aB (cat (λp:Bool×List AC=>p.2) ps) keys) λids=>
      AW (aB.filter λp=>AQ keys p.1) λD=>
      AW (aC.filter λp=>AQ ids p.1||DT p.1) λN=>
      bif Al (λp:Bool×List AC=>Al (AC.inK keys ids) p.2) ps&&Al (λp:Nat×Box=>Al (AC.inK keys ids) p.2.cells) D&&Al (FU aB) keys0&&Al (AQ keys) keys0 then K (KU ps) (⟨D,N⟩:Mem)else none else none)=some r/\Rel Z s1 a.tmps w:=by
   cases ho:C.ownRes<;>rw[ho]at h
   ·exact T7 _ s a.tmps hR _ _ h
   ·exact⟨s,h,hR⟩
  obtain⟨s1,h1,a0⟩:=h1;obtain⟨s2,G,ρ,O⟩:=Mg a0 h1;split at G
  ·grind
  ·rename_i a1 V;obtain⟨xs,q1,q2,q3⟩:=Q2i O _ _ V;obtain⟨tm,aB,aC⟩:=s2;dsimp only at G;obtain⟨I,G⟩:=Zau G;have T:C.keepIn=true->a.tmps.getD 0 undef=ρ.rv base:=λhk=>by
    rw[hk]at I;simp only[Bool.not_true,Bool.false_or]at I;unfold Qdz at I;split at I
    ·have e:=ah I;subst e;have:=O.tv 0 _ rfl;obtain⟨y,hy,U⟩:=this;simp only[fd,jp]at hy;subst hy;exact U.1
    grind
   simp only[Ba]at G;have a2:=Qto M.resultTypes.toList _ _ q2 (P:=P);have X:=Q45 M.resultTypes.toList _ q3 (P:=P);generalize HC P M.resultTypes.toList a1=L at G a2 X;generalize Lr aB 4 (Bf (cat (λp:Bool×List AC=>cat AC.keys p.2) L) keys0)=keys at G;generalize NW aB (cat (λp:Bool×List AC=>p.2) L) keys=ids at G;obtain⟨U,G⟩:=BO G;simp only[aj]at U;have Y:(results M a.tmps).run P w= .ok (if h:xs.length=1 then xs[0]else .tuple xs.toArray) w:=by
    unfold results;rw[Array.mapM_eq_mapM_toList];simp only[Sem.run_bind,Sem.run_map];erw[q1]
    simp only[dz,Sem.run_pure];congr 1
   have a4:TV.inK keys ids (KU L)=true:=Zcz U.1.1.1;have a5:TV.wf aB aC (KU L):=Zcs X;refine⟨_,ρ,_,_,G,Y,?_,T⟩;refine O.filter (by simp) (λi v hi=> ?_) (λv hv=> ?_) (by grind [Al]) U.1.1.2 (λk b hk=>Ax.1 U.2 k (hk0 k b hk))
   ·cases i with
    |zero=>simp at hi;subst hi;simp_all [Zo2]
    |succ i=>grind
   grind
theorem Zai (I:Ak P C) (Y:∀t∈C.eqOk,P.stoodInHeld t=false) (O:P.follows .mixedOrders=true) (hZ:InZ Z) {L:Nat} {f:FuncId} {args:List TV} {mem:Mem} {K:TV->Mem->Option R} {r:R}
  (T:∀c,FF P f=some c->SubOK P C c 0) (h:EL P C L f args mem K=some r) {ρ:Env} {xs:List Value} (D:RelE Z args mem.aB mem.aC ρ xs.toArray w):
  Calls P f xs.toArray w λe w'=>∃x U v m,e= .returned x/\K v m=some r/\RelE Z [v] m.aB m.aC U #[x] w':=by
 unfold EL at h;split at h
 ·rename_i N a0;split at h
  ·rename_i c hc;obtain⟨_,h⟩:=BO h;simp only[Ba]at h;have V:P.funcs[f]? =some N:=by simpa using a0
   have hs:=T c (by grind [FF]);refine calls_of_wp V hc ?_;have hlen:xs.length=args.length:=by simpa using D.tl.symm
   have hR:Rel Z ⟨args++List.replicate (N.ntmps-args.length) TV.vD,mem.aB,mem.aC⟩ (xs.toArray++Array.replicate (N.ntmps-xs.toArray.size) undef) w:=by
    refine⟨ρ,D.slots (by grind) (λi u X=> ?_) (λu M=> ?_)⟩
    ·rw[gr]at X;split at X
     ·rename_i a4;have a1:i<xs.length:=by omega
      have e:(xs.toArray++Array.replicate (N.ntmps-xs.toArray.size) undef).getD i undef=xs.toArray.getD i undef:=by
       simp[j5,jt,a1]
      rw[e];exact D.tv i u X
     ·have:=da X;rw[gn]at this;rw[this.2];trivial
    ·rw[be]at M;rcases M with M|M
     ·exact D.wt u M
     ·rw[gn]at M;rw[M.2];trivial
   refine wp_mono (FG I Y O hZ c L 0 _ ⟨_,[]⟩ w _ hs hR rfl h) ?_;rintro e a' w' ⟨ae,s,rfl,hK,a2,hd⟩;have hk0:∀k b,Z.K0 k=some b->k∈mem.aB.map (·.1):=by
    intro k b hk;obtain⟨_,bo,a3⟩:=D.k0 k b hk;exact KC.2 ⟨bo,a3⟩
   have G:Mp P C N (mem.aB.map (·.1)) s K=some r->a'.defers=[]/\∃x,(results N a'.tmps).run P w'= .ok x w'/\∃y U v m,Ending.returned x= .returned y/\K v m=some r/\RelE Z [v] m.aB m.aC U #[y] w':=by
    intro hf;obtain⟨x,U,v,m,h0,h1,h2,_⟩:=Qlf a2 hk0 hf;exact⟨hd,x,h1,x,U,v,m,rfl,h0,h2⟩
   cases ae with
   |normal=>
    obtain⟨q1,x,q2,q3⟩:=G hK;exact⟨q1,x,q2,q3⟩
   |ret=>
    obtain⟨q1,x,q2,q3⟩:=G hK;exact⟨q1,x,q2,q3⟩
   |exit id=>grind
  grind
 grind
theorem NE {F:Nat->Prop} {ρ:Env} {aB:List (Nat×Box)} {I:Gt F w} (h:Al (λp:Nat×Box=>DT p.1) aB=true):InZ (Ed F w ρ aB I):=by
 intro k b G;simp only[Ed,bz]at G;obtain⟨bo,D,_⟩:=G;exact Ax.1 h (k,bo) (OH D)
theorem QV {sig osig:Sk} {m:List AC->Option (List AC)} (R:Type) (args:List TV) (mem:Mem) (K:TV->Mem->Option R):Ac sig osig m R args mem K=(Ac sig osig m (TV×Mem) args mem λv m=>some (v,m)).bind λp=>K p.1 p.2:=by
  obtain⟨aB,aC⟩:=mem;simp only[Ac]
  grind
theorem Q0x (I:Ak P C) (X:∀t∈C.eqOk,P.stoodInHeld t=false) (N:P.follows .mixedOrders=true) {L:Nat} {f:FuncId} {sig D:Sk} {m:List AC->Option (List AC)} (h1:sig.okB=true) (h2:D.okB=true)
  (O:∀c,FF P f=some c->SubOK P C c 0) (hm:∀vars o,m vars=some o->Ao P C L f sig D vars=some o) {args:List TV} {mem:Mem} {v:TV} {mem':Mem} (h:(Ac sig D m (TV×Mem) args mem λv m=>some (v,m))=some (v,mem')):PCallM P f args mem v mem':=by
  obtain⟨aB,aC⟩:=mem;simp only[Ac]at h;obtain⟨Y,h⟩:=BO h;split at h
  ·rename_i vars hv;simp only[bn]at h;obtain⟨o,ho,h⟩:=h;have G:=hm vars o ho;intro F w hG ρ xs a0;have hZ:InZ (Ed F w ρ aB hG):=NE Y;have M:=a0.rebuild hZ h1 hv;unfold Ao at G;generalize hs:AH sig vars=s1 at G M;obtain⟨a1,V,a2⟩:=s1;dsimp only at G M;refine(Zai I X N hZ O G M).mono ?_;rintro e w' ⟨x,ρ',v',m',he,T,U⟩;obtain⟨b',r'⟩:=m';dsimp only at T U;have a3:=U.rebuild hZ h2 T
   grind
  grind
theorem Zpv (G:Ak P C) (N:∀t∈C.eqOk,P.stoodInHeld t=false) (I:P.follows .mixedOrders=true) {L:Nat} {f:FuncId} (O:NM P f) {sig D:Sk} {m:List AC->Option (List AC)} (T:sig.okB=true) (U:D.okB=true)
  (M:∀c,FF P f=some c->SubOK P C c 0) (V:∀vars o,m vars=some o->Ao P C L f sig D vars=some o):SpecRight P f (Ac sig D m):=
 ⟨QV,λ_ _ _ _ h=>PCallM.x (Q0x G N I T U M V h) O⟩
end
open Go.RowKit Go.WideShapes Go.ChangeShapes
def QO (P:Program) (g:TypeId->Option (List Kd)):List Field->Nat->Option (List Kd)
 |[],_=>some []
 |f::fs,o=>match g f.type with
  |some ks=>bif Nat.beq f.offset o&&Nat.beq (P.cellsOf f.type) ks.length then(QO P g fs (o+ks.length)).map (ks++ ·)else none
  |none=>none
def Ie (P:Program):Nat->TypeId->Option (List Kd)
 |0,_=>none
 |n+1,t=>match P.underlying t with
  |some .bool=>some [.bool]
  |some (.int k)=>some [.int k]
  |some (.slice e)=>(Ie P n e).bind λks=>bif Nat.beq (P.cellsOf e) ks.length&&Nat.blt 0 ks.length then some [.sl ks]else none
  |some (.struct fs)=>(QO P (Ie P n) fs.toList 0).bind λks=>bif Nat.beq (P.cellsOf t) ks.length then some ks else none
  |some (.array m e)=>(Ie P n e).bind λks=>bif Nat.beq (P.cellsOf e) ks.length&&Nat.beq (P.cellsOf t) (m*ks.length)then some (QE ks m)else none
  |_=>none
mutual
def okC:Kd->AC->Prop
 | .int k,a=>k.min<=Ag a/\Ag a<=k.max
 | .bool,_=>True
 | .sl ks,a=>(BQ a).length<=maxLen/\∀c∈BQ a,okR ks c/\AT ks c=c
 | .raw,_=>True
def okR:List Kd->List AC->Prop
 |[],_=>True
 |_::_,[]=>False
 |k::ks,a::cs=>okC k a/\okR ks cs
end
def Op (w:World) (ks:List Kd) (cs:List Value):Prop:=∃raw,AT ks raw=raw/\CL (CP (λb=>b<w.heap.size) w) raw cs/\okR ks raw
theorem Q2j:∀(D G:List Kd) (I L:List AC),I.length=D.length->AT (D++G) (I++L)=AT D I++AT G L
 |[],G,[],L,_=>rfl
 |k::D,G,a::I,L,h=>by
  simp only[az];rw[Qox,Qox,Q2j D G I L (by grind)];rfl
 |[],_,_::_,_,h=>by grind
 |_::_,_,[],_,h=>by grind
theorem Qwx:∀{D I:List Kd} {G L:List AC},G.length=D.length->okR D G->okR I L->okR (D++I) (G++L)
 |[],_,[],_,_,_,h=>h
 |k::D,I,a::G,L,M,h,h'=>by
  simp only[az,okR]at h⊢;exact⟨h.1,Qwx (by grind) h.2 h'⟩
 |[],_,_::_,_,h,_,_=>by grind
 |_::_,_,[],_,h,_,_=>by grind
theorem Op.append {w:World} {D G:List Kd} {I L:List Value} (h:Op w D I) (h':Op w G L):Op w (D++G) (I++L):=by
 obtain⟨M,a1,a2,a3⟩:=h;obtain⟨N,b1,b2,b3⟩:=h';have O:M.length=D.length:=by rw[<-a1,Tb]
 exact⟨M++N,by grind [Q2j],a2.append b2,Qwx O a3 b3⟩
theorem Op.nil {w:World}:Op w [] []:=⟨[],rfl,trivial,by simp[okR]⟩
section
variable {H:Type} {enc:TypeId×Value->H} {P:Program} {w:World}
theorem Q0s {g:TypeId->Option (List Kd)} {m:Nat} (M:∀(t:TypeId) (ks:List Kd) (cs:List Value) (x:DataW H×List MemPlace),g t=some ks->DataW.trod enc P w 0 (λ_=>true) true m t cs=some x->Op w ks cs):
  ∀(fs:List Field) (o:Nat) (ks:List Kd) (cs:List Value),QO P g fs o=some ks->cs.length=o+ks.length->
   (∀f∈fs,∃x,DataW.trod enc P w 0 (λ_=>true) true m f.type ((cs.drop f.offset).take (P.cellsOf f.type))=some x)->Op w ks (cs.drop o)
 |[],o,ks,cs,h,T,_=>by grind [QO,List.drop_eq_nil_of_le,Op.nil]
 |f::fs,o,ks,cs,h,T,N=>by
  simp only[QO]at h;split at h
  ·rename_i D I;cases G:(Nat.beq f.offset o&&Nat.beq (P.cellsOf f.type) D.length)<;>rw[G]at h
   ·grind
   ·simp only[ak,bz]at h;obtain⟨U,V,rfl⟩:=h;simp only[aj]at G;have e1:f.offset=o:=ah G.1;have e2:P.cellsOf f.type=D.length:=ah G.2;obtain⟨x,L⟩:=N f (by simp);have O:=M _ _ _ _ I L;rw[e1,e2]at O;have X:=Q0s M fs (o+D.length) U cs V (by grind) (λY a0=>N Y (by grind));have:cs.drop o=(cs.drop o).take D.length++cs.drop (o+D.length):=by
     rw[<-jq,List.take_append_drop]
    rw[this];exact O.append X
  grind
theorem Qtx {ks:List Kd}:∀(m:Nat) (cs:List Value),cs.length=m*ks.length->(∀i,i<m->Op w ks ((cs.drop (i*ks.length)).take ks.length))->Op w (QE ks m) cs
 |0,cs,D,_=>by
  have:cs=[]:=by simpa using D
  subst this;exact Op.nil
 |m+1,cs,D,h=>by
  have G:=h 0 (by omega);simp at G;have:cs=cs.take ks.length++cs.drop ks.length:=(List.take_append_drop _ _).symm;rw[this,QE];refine G.append (Qtx m _ ?_ λi I=> ?_)
  ·grind
  grind [List.drop_drop,Nat.succ_mul]
theorem Zs9 {ks:List Kd} {cs:List Value} {e t:TypeId} {fuel:Nat} {x:DataW H×List MemPlace} (hu:P.underlying t=some (.slice e)) (e1:P.cellsOf e=ks.length) (e2:0<ks.length)
  (hx:DataW.trod enc P w 0 (λ_=>true) true fuel t cs=some x) (ih:∀(m:Nat) (cs:List Value) (x:DataW H×List MemPlace),DataW.trod enc P w 0 (λ_=>true) true m e cs=some x->Op w ks cs):Op w [.sl ks] cs:=by
 rcases Go.Deep.open_slice hu hx with⟨rfl,_⟩|⟨a,len,cap,m,n,D,Pl,rfl,_,hl,b0,hm,_,hi⟩
 ·refine⟨[.vC ks []],rfl,⟨Q2g ks,trivial⟩,?_⟩;simp[okR,okC,BQ]
 ·have a1:m=cap:=by simpa using hm
  subst a1
  have hex:∀i,∃(T:List Value) (raw:List AC),i<len->(w.cells? 0 (a.add (i*P.cellsOf e)) (P.cellsOf e)=some T/\AT ks raw=raw/\CL (CP (λb=>b<w.heap.size) w) raw T/\okR ks raw):=λi=>by
   by_cases L:i<len
   ·obtain⟨a2,N,X⟩:=hi i (by omega);obtain⟨raw,r1,r2,r3⟩:=ih n a2 _ X
    grind
   ·exact⟨[],[],λh=>(L h).elim⟩
  let T:Nat->List Value:=λi=>Classical.choose (hex i)
  let G:Nat->List AC:=λi=>Classical.choose (gj (hex i))
  have M:∀i,i<len->(w.cells? 0 (a.add (i*P.cellsOf e)) (P.cellsOf e)=some (T i)/\AT ks (G i)=G i/\CL (CP (λb=>b<w.heap.size) w) (G i) (T i)/\okR ks (G i)):=λi=>gj (gj (hex i));have hlen:((List.range len).map G).length=len:=by simp
  have Y:∀i (hi:i<((List.range len).map G).length),((List.range len).map G)[i]=G i:=λi hi=>by simp
  have O:∀c∈(List.range len).map G,∃i,i<len/\c=G i:=λc V=>by
   simp only[bc,List.mem_range]at V;obtain⟨i,N,X⟩:=V;exact⟨i,N,X.symm⟩
  refine⟨[.vC ks ((List.range len).map G)],rfl,⟨?_,trivial⟩,?_⟩
  ·rw[CP];refine⟨some a,m,by simp,by omega,λc V=> ?_,?_⟩
   ·obtain⟨i,N,rfl⟩:=O c V;exact(M i N).2.1
   ·by_cases h0:len=0
    ·subst h0;simp
    ·right;have h0:0<len:=by omega
     obtain⟨a3,r1,r2,_⟩:=M 0 h0;obtain⟨_,a4,a0⟩:=World.cells?_some a3;have I:=a0 0 (by omega);simp only[Nat.zero_mul]at I;have ea:(a.add 0).add 0=a:=by simp[Addr.add]
     rw[ea,ag (by omega)]at I;have U:a.spot=none/\a.block<w.heap.size:=by
      unfold World.cell? at I;split at I
      ·rename_i hb;split at I
       ·cases I
       ·rename_i a5;refine⟨by simpa using a5,(dc.1 hb).1⟩
      ·cases I
     obtain⟨b,o,sp⟩:=a;obtain⟨rfl,hb⟩:=U;refine⟨b,o,rfl,hb,SD λi L=> ?_⟩;rw[Y i L];rw[hlen]at L;obtain⟨a6,a7,a8,_⟩:=M i L;obtain⟨_,hle,a9⟩:=World.cells?_some a6;refine⟨by rw[<-a7];exact Tb _ _,Vy _ (T i) b _ a8 λj y hj=> ?_⟩;have b1:j<(T i).length:=(f7.1 hj).1;have:=a9 j (by omega);rw[<-hj,<-this,e1];congr 1;unfold Addr.add;by_cases N:i*ks.length=0<;>by_cases X:j=0<;>simp[N,X,jd]
  ·simp only[okR,okC,BQ,jp];refine⟨by omega,λc V=> ?_⟩;obtain⟨i,N,rfl⟩:=O c V;exact⟨(M i N).2.2.2,(M i N).2.1⟩
theorem QF:∀(n:Nat) (m:Nat) (t:TypeId) (ks:List Kd) (cs:List Value) (x:DataW H×List MemPlace),Ie P n t=some ks->DataW.trod enc P w 0 (λ_=>true) true m t cs=some x->Op w ks cs
 |0,_,_,_,_,_,h,_=>by grind [Ie]
 |n+1,m,t,ks,cs,x,h,M=>by
  unfold Ie at h;split at h
  ·rename_i L;simp at h;subst h;obtain⟨b,rfl,_⟩:=DataW.trod_bool L M;exact⟨[.bool b],rfl,⟨Qqn _,trivial⟩,by simp[okR,okC]⟩
  ·rename_i k L;simp at h;subst h;obtain⟨i,rfl,_,X⟩:=DataW.trod_int L M;exact⟨[.int k i],rfl,⟨GG _ _,trivial⟩,by grind [okR,okC,Ag,Lit.wf]⟩
  ·rename_i e L;simp only[bn]at h;obtain⟨G,N,I⟩:=h;cases D:(Nat.beq (P.cellsOf e) G.length&&Nat.blt 0 G.length)<;>rw[D]at I
   ·grind
   ·simp at I;subst I;simp only[aj]at D;have e1:=ah D.1;have e2:0<G.length:=by have:=D.2;simp[Nat.blt]at this;omega
    exact Zs9 L e1 e2 M λm cs x=>QF n m e G cs x N
  ·rename_i fs L;obtain⟨xs,O,rfl,_,hlen,T,hf⟩:=DataW.trod_struct L M;simp only[bn]at h;obtain⟨G,N,I⟩:=h;cases D:Nat.beq (P.cellsOf t) G.length<;>rw[D]at I
   ·grind
   ·simp at I;subst I;have e:=ah D;have := Q0s (λt ks cs x => QF n O t ks cs x) fs.toList 0 G cs N (by omega) (λf U => by
     obtain⟨i,V⟩:=List.mem_iff_getElem?.1 U
     grind)
    grind
  ·rename_i k e L;obtain⟨xs,O,rfl,_,hlen,T,hf⟩:=DataW.trod_array L M;simp only[bn]at h;obtain⟨G,N,I⟩:=h;cases D:(Nat.beq (P.cellsOf e) G.length&&Nat.beq (P.cellsOf t) (k*G.length))<;>rw[D]at I
   ·grind
   ·simp at I;subst I;simp only[aj]at D;have e1:=ah D.1;have e2:=ah D.2;refine Qtx k cs (by omega) λi V=> ?_;have:=hf i V;rw[e1]at this;refine QF n O e G _ (xs[i]'(by omega)) N ?_
    grind
  grind
end
structure Ar where
 agg:Bool
 ks:List Kd
 raw:List AC
def Ar.sh (a:Ar):Bool×List Kd:=(a.agg,a.ks)
def Ar.ok (a:Ar):Prop:=okR a.ks a.raw/\AT a.ks a.raw=a.raw
def Ar.tv (a:Ar):TV:= .v a.agg (AT a.ks a.raw)
def shK (P:Program) (t:TypeId):Option (Bool×List Kd):=match P.underlying t with
 |some (.struct _)=>(Ie P 8 t).map λks=>(true,ks)
 |some (.array _ _)=>(Ie P 8 t).map λks=>(true,ks)
 |some .bool=>some (false,[.bool])
 |some (.int k)=>some (false,[.int k])
 |some (.slice _)=>(Ie P 8 t).map λks=>(false,ks)
 |_=>none
section
variable {H:Type} {enc:TypeId×Value->H} {P:Program} {W:World}
theorem Ztu {t:TypeId} {v:Value} {d:DataW H} {p:List MemPlace} {r:Reach} {T:Nat} {sh:Bool×List Kd} (D:shK P t=some sh) (M:Value.okWide P W r T t v)
  (h:DataW.Trod enc P W 0 (λ_=>true) true t v d p):∃a:Ar,a.sh=sh/\a.ok/\∀(ρ:Env),ρ.im=(λb=>b<W.heap.size)->TVR ρ W a.tv v:=by
 have agg:∀(ks:List Kd) (cs:Array Value),Ie P 8 t=some ks->v= .agg cs->∃a:Ar,a.sh=(true,ks)/\a.ok/\∀(ρ:Env),ρ.im=(λb=>b<W.heap.size)->TVR ρ W a.tv v:=by
  rintro ks cs I rfl;obtain⟨fuel,hf⟩:=h;obtain⟨raw,L,N,O⟩:=QF 8 fuel t ks _ _ I hf;refine⟨⟨true,ks,raw⟩,rfl,⟨O,L⟩,λρ U=>⟨cs,rfl,?_⟩⟩;rw[L];exact N.mono λa _ x X=>IF (by grind)
 unfold shK at D;split at D
 ·rename_i fs G;simp only[bz]at D;obtain⟨ks,I,rfl⟩:=D;obtain⟨cs,rfl,_⟩:=okWide_struct G M
  grind
 ·rename_i k e G;simp only[bz]at D;obtain⟨ks,I,rfl⟩:=D;obtain⟨cs,rfl,_⟩:∃cs,v= .agg cs/\cs.size=P.cellsOf t:=by grind [Value.okWide]
  grind
 ·rename_i G;simp at D;subst D;obtain⟨n,rfl,_,_⟩:=open_bool G M h;exact⟨⟨false,[.bool],[.bool n]⟩,rfl,⟨by simp[okR,okC],rfl⟩,λρ _=>TVR.mkBool n⟩
 ·rename_i k G;simp at D;subst D;obtain⟨n,rfl,_,_,Y⟩:=open_int G M h;exact⟨⟨false,[.int k],[.int k n]⟩,rfl,⟨by grind [okR,okC,Ag,Lit.wf],rfl⟩,λρ _=>TVR.mkInt k n⟩
 ·rename_i e G;simp only[bz]at D;obtain⟨ks,I,rfl⟩:=D;obtain⟨a0,len,cap,rfl⟩:=okWide_slice G M;obtain⟨fuel,hf⟩:=h;obtain⟨raw,L,N,O⟩:=QF 8 fuel t ks _ _ I hf;have V:raw.length=1:=by rw[N.length];simp[Value.cells]
  match raw,V with
  |[a],_=>
   refine⟨⟨false,ks,[a]⟩,rfl,⟨O,L⟩,λρ U=>⟨a,L,?_⟩⟩;have:=N.1
   grind [IF]
 grind
theorem Qxu {r:Reach} {b0:Nat}:∀(I:List TypeId) (G:List Value) (M:List (DataW H)) (p:List MemPlace) (D:List (Bool×List Kd)),I.map (shK P)=D.map some->
  (∀(j:Nat) (t:TypeId) (v:Value),I[j]? =some t->G[j]? =some v->Value.okWide P W r b0 t v)->DataW.TrodAll enc P W 0 (λ_=>true) true I G M p->
  ∃as:List Ar,as.map Ar.sh=D/\(∀a∈as,a.ok)/\G.length=as.length/\∀(i:Nat) (a:Ar) (x:Value),as[i]? =some a->G[i]? =some x->∀(ρ:Env),ρ.im=(λb=>b<W.heap.size)->TVR ρ W a.tv x
 |[],G,M,p,D,L,_,h=>by
  obtain⟨rfl,rfl,rfl⟩:=trodAll_nil h;simp_all
 |t::I,G,M,p,D,L,T,h=>by
  obtain⟨v,N,d,O,a,b,rfl,rfl,rfl,U,V⟩:=trodAll_cons h;cases D with
  |nil=>grind
  |cons sh D=>
   simp only[bj,fd]at L;obtain⟨as,e1,e2,e3,e4⟩:=Qxu I N O b D L.2 (λj t v ht X=>T (j+1) t v (by grind) (by grind)) V;obtain⟨a,ha,Y,hp⟩:=Ztu L.1 (T 0 t v rfl rfl) U;refine⟨a::as,by grind,?_,by grind,?_⟩
   ·grind
   grind
theorem Qzf (T:laidOutB P=true) {U:World} (hb:Below W.heap.size W U) {sp:Nat->Bool}:∀(G:List TypeId) (I:List Value) (L:List (DataW H)) (p:List MemPlace),
  G.all (λt=>P.readableRec t&&decide (t<P.types.size))=true->(∀x∈p,x.block<W.heap.size/\sp x.block=true)->DataW.TrodAll enc P W 0 (λ_=>true) true G I L p->
  DataW.TrodAll enc P U 0 sp true G I L p
 |[],I,L,p,_,_,h=>by
  obtain⟨rfl,rfl,rfl⟩:=trodAll_nil h;rfl
 |t::G,I,L,p,M,D,h=>by
  obtain⟨v,N,d,O,a,b,rfl,rfl,rfl,X,Y⟩:=trodAll_cons h;simp only[List.all_cons,aj,dl]at M;refine⟨a,b,WideElems.Trod_stays T M.1.1 M.1.2 X (λx V=>hb.same (D x (by grind)).1) (λx V=>(D x (by grind)).2),?_,rfl⟩;exact Qzf T hb G N O b M.2 (λx V=>D x (by grind)) Y
theorem Zl4 {f:Func} {s:ChangeSpec} {apart fresh handsOn again:Bool} {W L:World} {args:Array Value} {v:Value} {N O:List (DataW H)} {before pa pv:List MemPlace}
  (U:DataW.Whole enc P f.params.toList s.vars apart W args.toList N O before)
  (I:∀(b:Nat) (sp:Nat->Bool) (hd:Bool),DataW.TrodAll enc P L b sp hd f.resultTypes.toList (v.resultList f.resultTypes.size) (s.fn H (N++O)).results [])
  (D:∀sp:Nat->Bool,(∀p∈before,sp p.block=true)->DataW.TrodAll enc P L 0 sp true f.params.toList args.toList (s.fn H (N++O)).args pa)
  (G:∀sp:Nat->Bool,(∀p∈before,sp p.block=true)->DataW.TrodVars enc P L sp s.vars (s.fn H (N++O)).vars pv)
  (V:before=pa++pv) (hb:Below W.heap.size W L)
  (X:∀(j:Nat) (t:TypeId) (r:Value),f.resultTypes[j]? =some t->(v.resultList f.resultTypes.size)[j]? =some r->Value.okWide P L .any 0 t r):
  s.post enc P f apart fresh handsOn again W args v L:=by
 have Y:∀p∈before,p.block<W.heap.size:=λp M=>U.lt p M;have hold:∀p∈before,(λb=>decide (b<W.heap.size)) p.block=true:=λp M=>by grind
 refine⟨N,O,before,[],pa,pv,U,I _ _ _,D _ hold,G _ hold,World.keptBut_mono (λp M=>⟨M,?_⟩) (hb.frame (· ∈before)),λ_=> ?_⟩
 ·grind
 ·obtain⟨_,_,_,_,_,hz,hn⟩:=U;refine⟨X,_,_,([]++pa)++pv,⟨[]++pa,pv,trodAll_append (D _ (λ_ _=>rfl)) (I _ _ _),G _ (λ_ _=>rfl),rfl,?_,?_⟩,?_⟩
  ·intro b off M;have T:MemPlace.cell b off∈before:=by rw[V];simpa using M
   rw[hb.frozen (Y _ T)];exact hz b off T
  ·grind
  grind
theorem Z2z {f:FuncId} {L:Func} {s:ChangeSpec} {apart fresh handsOn again:Bool} {tb:TypeId} {shs:List (Bool×List Kd)} {args:Array Value} {M gs:List (DataW H)} {before:List MemPlace} {base:Nat}
  (D:s.vars=[]) (hl:laidOutB P=true) (a0:L.resultTypes= #[tb]) (a1:P.underlying tb=some .bool)
  (hr:L.params.toList.all (λt=>P.readableRec t&&decide (t<P.types.size))=true) (a8:L.params.toList.map (shK P)=shs.map some)
  (N:∀l:List (DataW H),l.length=shs.length->s.fn H l={results:=[.lit (.bool true)],args:=l})
  (a2:∀as:List Ar,as.map Ar.sh=shs->(∀a∈as,a.ok)->PCallM P f (as.map Ar.tv) ⟨[],[]⟩ (.v false [.bool true]) ⟨[],[]⟩)
  (a3:∀(j:Nat) (t:TypeId) (v:Value),L.params[j]? =some t->args[j]? =some v->Value.okWide P W .any base t v)
  (hW:DataW.Whole enc P L.params.toList s.vars apart W args.toList M gs before) (hG:Gt (λb=>b<W.heap.size) W):
  Calls P f args W λe W'=>∃v,e= .returned v/\s.post enc P L apart fresh handsOn again W args v W':=by
 have a4:=hW;obtain⟨p,q,hA,hV,rfl,a9,b1⟩:=hW;rw[D]at hV;obtain⟨rfl,rfl⟩:=trodVars_none hV;have b2:∀x∈p++[],x.block<W.heap.size:=λx hx=>a4.lt x hx;obtain⟨as,e1,e2,e3,e4⟩:=Qxu (r:= .any) (b0:=base) L.params.toList args.toList M p shs a8 (λj t v ht hv=>a3 j t v (by grind) (by grind)) hA;have b3:M.length=shs.length:=by
  have:∀(ts:List TypeId) (vs:List Value) (M:List (DataW H)) (p:List MemPlace),DataW.TrodAll enc P W 0 (λ_=>true) true ts vs M p->M.length=vs.length:=by
   intro ts;induction ts with
   |nil=>grind [trodAll_nil]
   |cons t ts ih=>grind [trodAll_cons]
  rw[this _ _ _ _ hA,e3,<-e1,ac]
 have a5:=N (M++[]) (by grind);have a6:RelE (Ed (λb=>b<W.heap.size) W ⟨λ_=>0,λ_=> .slice none 0 0,λ_=>0,λb=>b<W.heap.size⟩ [] hG) (as.map Ar.tv) [] [] ⟨λ_=>0,λ_=> .slice none 0 0,λ_=>0,λb=>b<W.heap.size⟩ args.toList.toArray W:=by
  refine⟨by grind,λi v hi=> ?_,λv hv=> ?_,λk b O=>by grind [Ab],λk b O=>by grind [Ab],λk k' b b' O=>by grind [Ab],λid r hr=>by grind [Ab],
   λid id' r r' g hr=>by grind [Ab],λk b id r O=>by grind [Ab],λb hb=>⟨hb,λk bo O=>by grind [Ab],λid r hr=>by grind [Ab]⟩,Fr.refl _ _,λ_ h=>h,λ_ h=>h,λb h=> .inl h,λk b O=>by grind [Ed,Ab]⟩
  ·simp only[du,bz]at hi;obtain⟨a,T,rfl⟩:=hi;have I:i<args.toList.length:=by rw[e3];exact(f7.1 T).1
   have a7:i<args.size:=by simpa using I
   have e:args.toList.toArray.getD i undef=args.toList[i]:=by simp[Array.getD,a7]
   rw[e];exact e4 i a _ T (ag I) _ rfl
  ·simp only[bc]at hv;obtain⟨a,T,rfl⟩:=hv;intro c U;obtain⟨i,hi⟩:=List.getElem?_of_mem T;have I:i<args.toList.length:=by rw[e3];exact(f7.1 hi).1
   have b4:=e4 i a _ hi (ag I) ⟨λ_=>0,λ_=> .slice none 0 0,λ_=>0,λb=>b<W.heap.size⟩ rfl;have V:∀(ks:List Kd) (cs:List AC) (j:Nat),∀c∈EE ks cs j,AC.calm c=true:=by
    intro ks;induction ks with
    |nil=>grind [EE]
    |cons k ks ih=>
     intro cs j c U;simp only[EE,av]at U;rcases U with rfl|U
     ·cases k<;>try rfl
      generalize nth AC.vD cs j=b;cases b<;>rfl
     grind
   have:=V a.ks a.raw 0 c U;cases c<;>first|trivial|(simp[AC.calm]at this)
 have G:=a2 as e1 e2 _ args.toList a6;have X:args.toList.toArray=args:=by simp
 rw[X]at G;refine G.mono ?_;rintro e W' ⟨x,ρ',rfl,Y⟩;have hb:Below W.heap.size W W':=⟨Y.fr.os,Y.fr.tape,Y.fr.output,Y.fr.size,λk O=>Y.fr.block k O⟩;have hx:x= .bool true:=by
  have:TVR ρ' W' (.c (.bool true)) x:=by simpa using Y.tv 0 _ rfl
  obtain⟨a,T,U⟩:=this;simp at T;subst T;simpa [CC,CP]using U
 subst hx;refine⟨_,rfl,Zl4 (pa:=p) (pv:=[]) a4 ?_ ?_ ?_ rfl hb (ok_one a0 rfl (okWide_bool_mk a1 true))⟩
 ·intro b sp hd;rw[a5,a0];exact trodAll_mk1 (shut_bool a1 true)
 ·grind [Qzf]
 ·intro sp b5;rw[a5,D];rfl
end
theorem Nv:∀{l:List (Nat×Spec)} {k:Nat} {b:Spec},Ge l k=some b->(k,b)∈l
 |[],_,_,h=>by grind [Ge]
 |(j,c)::l,k,b,h=>by
  simp only[Ge]at h;cases hb:Nat.beq j k<;>rw[hb]at h
  ·simp only[ay]at h;exact gq _ (Nv h)
  simp_all
def If (P:Program) (f:FuncId):Bool:=match P.funcs[f]? with
 |some fn=> !(fn.name== "runtime.NumGoroutine")&&fn.body.isSome
 |none=>false
theorem I6 {P:Program} {f:FuncId} (h:If P f=true):NM P f:=by
 unfold If at h;split at h
 ·rename_i D hf;simp only[aj,Bool.not_eq_true']at h;exact⟨D,hf,h.1,by simp_all⟩
 grind
def An (P:Program) (p:Nat×Spec):Prop:=SpecRight P p.1 p.2
def AllOK (P:Program):List (Nat×Spec)->Prop
 |[]=>True
 |p::l=>An P p/\AllOK P l
theorem AllOK.mem {P:Program}:∀{l:List (Nat×Spec)},AllOK P l->∀p∈l,An P p
 |_::l,h,p,D=>by
  rcases av.1 D with rfl|D
  ·exact h.1
  ·exact AllOK.mem h.2 p D
theorem Ap {P:Program} {C:Cfg} {l:List (Nat×Spec)} (G:C.spec=Ge l) (h:AllOK P l) (I:C.ro=λ_=>false:=by rfl) (L:C.keepR=λ_=>false:=by rfl):Ak P C:=by
 refine⟨λf g D=> ?_,λf g _ h=> ?_,λf g _ h=>(by grind)⟩
 ·rw[G]at D;exact h.mem _ (Nv D)
 grind
def AllRo (rs:List Nat):List (Nat×Spec)->Prop
 |[]=>True
 |p::l=>(AQ rs p.1=false\/T4 p.2)/\AllRo rs l
theorem AllRo.mem {rs:List Nat}:∀{l:List (Nat×Spec)},AllRo rs l->∀p∈l,AQ rs p.1=false\/T4 p.2
 |_::l,h,p,D=>by
  rcases av.1 D with rfl|D
  ·exact h.1
  ·exact AllRo.mem h.2 p D
abbrev V:=IntKind.wrap .i64
theorem Lu {P:Program} {C:Cfg} {l:List (Nat×Spec)} {rs:List Nat} (I:C.spec=Ge l) (h:AllOK P l) (G:C.ro=λf=>AQ rs f) (L:AllRo rs l) (M:C.keepR=λ_=>false:=by rfl):Ak P C:=by
 refine⟨λf g D=> ?_,λf g D N=> ?_,λf g _ h=>(by grind)⟩
 ·rw[I]at D;exact h.mem _ (Nv D)
 ·rw[I]at D;rw[G]at N;rcases L.mem _ (Nv D)with h|h
  ·grind
  omega
theorem Ad {x:Int} (h: -9223372036854775808<=x/\x<=9223372036854775807:=by omega):V x=x:=by grind [IntKind.wrap,IntKind.signed,IntKind.bits]
section loops
variable {step:List AC->Option (Nat×List AC)}
theorem Qpo:∀{n:Nat} {vars:List AC} {o:Nat×List AC},Cu step n vars=some o->Cu step (n+1) vars=some o
 |0,_,_,h=>by grind [Cu]
 |n+1,vars,o,h=>by
  rw[Cu]at h⊢;simp only[bn]at h⊢;obtain⟨q,G,D⟩:=h;refine⟨q,G,?_⟩;split at D
  ·rename_i I;rw[ab I];exact Qpo D
  grind
theorem Q16 {n m:Nat} {vars:List AC} {o:Nat×List AC} (D:n<=m) (h:Cu step n vars=some o):Cu step m vars=some o:=by
 induction D with
 |refl=>exact h
 |step _ G=>exact Qpo G
theorem Zth {n m:Nat} {vars:List AC} {o D:Nat×List AC} (h:Cu step n vars=some o) (h':Cu step m vars=some D):o=D:=by
 have G:=Q16 (Nat.le_max_left n m) h
 grind [Q16,Nat.le_max_right]
open Classical in
noncomputable def Am (step:List AC->Option (Nat×List AC)) (vars:List AC):Option (Nat×List AC):=
 if h:∃n o,Cu step n vars=some o then Cu step (Classical.choose h) vars else none
theorem PM {vars:List AC} {o:Nat×List AC} (h:Am step vars=some o):∃n,Cu step n vars=some o:=by
 unfold Am at h;split at h
 ·grind
 grind
theorem Qnh {n:Nat} {vars:List AC} {o:Nat×List AC} (h:Cu step n vars=some o):Am step vars=some o:=by
 unfold Am;have D:∃n o,Cu step n vars=some o:=⟨n,o,h⟩;rw[jy D]
 grind [Zth]
theorem SM (vars:List AC):Am step vars=(step vars).bind λo=>if o.1=0 then Am step o.2 else some o:=by
 cases M:step vars with
 |none=>
  cases D:Am step vars with
  |none=>rfl
  |some o=>
   obtain⟨n,G⟩:=PM D;cases n with
   |zero=>grind [Cu]
   |succ n=>grind [Cu]
 |some q=>
  simp only[am];by_cases I:q.1=0
  ·rw[ab I];cases D:Am step q.2 with
   |none=>
    cases L:Am step vars with
    |none=>rfl
    |some o=>
     obtain⟨n,G⟩:=PM L;cases n with
     |zero=>grind [Cu]
     |succ n=>
      simp only[Cu,M,am,ab I]at G
      grind [Qnh]
   |some o=>
    obtain⟨n,G⟩:=PM D;exact Qnh (n:=n+1) (by simp_all [Cu])
  ·rw[aa I];exact Qnh (n:=1) (by simp_all [Cu])
end loops
theorem J0:∀(c:Code) (b blk:Nat) (body:Code),(blk,body)∈A5 c b->(∀p∈A5 body blk,p∈A5 c b)/\(∀p∈Cy body,p∈Cy c)/\(∀p∈BG body blk,p∈BG c b)
 | .seq x y,b,blk,body,h=>by
  simp only[A5,be]at h;rcases h with h|h
  ·obtain⟨I,L,D⟩:=J0 x b blk body h
   grind [A5,Cy,BG]
  ·obtain⟨I,L,D⟩:=J0 y b blk body h
   grind [A5,Cy,BG]
 | .cond c x y,b,blk,body,h=>by
  simp only[A5,be]at h;rcases h with h|h
  ·obtain⟨I,L,D⟩:=J0 x b blk body h;exact⟨λp G=>by grind [A5],λp G=>by grind [Cy],λp G=>by cases c<;>simp[BG,D p G]⟩
  ·obtain⟨I,L,D⟩:=J0 y b blk body h;exact⟨λp G=>by grind [A5],λp G=>by grind [Cy],λp G=>by cases c<;>simp[BG,D p G]⟩
 | .block id x,b,blk,body,h=>by
  simp only[A5]at h;obtain⟨I,L,D⟩:=J0 x b blk body h
  grind [A5,Cy,BG]
 | .loop x,b,blk,body,h=>by
  simp only[A5,av,dq]at h;rcases h with⟨rfl,rfl⟩|h
  ·grind [IN,A5,Cy,Jn,BG]
  ·obtain⟨I,L,D⟩:=J0 x b blk body h
   grind [A5,Cy,BG]
 | .skip,_,_,_,h=>by grind [A5]
 | .region _ _ _,_,_,_,h=>by grind [A5]
 | .exit _,_,_,_,h=>by grind [A5]
 | .ret,_,_,_,h=>by grind [A5]
 | .rangeFunc _ _ _ _,_,_,_,h=>by grind [A5]
 | .scope x,b,blk,body,h=>by
  simp only[A5]at h;obtain⟨I,L,D⟩:=J0 x b blk body h
  grind [A5,Cy,BG]
 | .label _,_,_,_,h=>by grind [A5]
 | .goto _,_,_,_,h=>by grind [A5]
 | .refuse _,_,_,_,h=>by grind [A5]
structure FnOK (P : Program) (C : Cfg) (f : FuncId) : Prop where
 l:∀p∈GM P f,∀sk g,C.loops p.1=some (sk,g)->KA P (.loop p.2) sk g
 b:∀p∈Yz P f,∀sk g,C.blocks p.1=some (sk,g)->KA P (.block p.1 p.2) sk g
 c:∀p∈Vm P f,∀sk g,C.conds p.1=some (sk,g)->KA P (.cond (.tmp p.1) p.2.2.1 p.2.2.2) sk g
theorem FnOK.bare {P:Program} {C:Cfg} {f:FuncId} (D:C.loops=λ_=>none) (G:C.blocks=λ_=>none) (I:C.conds=λ_=>none):FnOK P C f:=
 ⟨λp _ sk g h=>by grind,λp _ sk g h=>by grind,λp _ sk g h=>by grind⟩
theorem FnOK.sub {P:Program} {C:Cfg} {f:FuncId} (h:FnOK P C f) {c:Code} (G:FF P f=some c):SubOK P C c 0:=
 ⟨λp D=>h.l p (by grind [GM]),λp D=>h.b p (by grind [Yz]),λp D=>h.c p (by grind [Vm])⟩
theorem Q4o {P:Program} {f blk:Nat} {c:Code} (h:Ab (GM P f) blk=some c):A2 P f blk=c:=by grind [A2]
theorem UG {α:Type}:∀{l:List (Nat×α)} {k:Nat} {b:α},Cm (l.map (·.1))=true->(k,b)∈l->Ab l k=some b
 |[],_,_,_,h=>by grind
 |(j,c)::l,k,b,G,h=>by
  have D:=IB.1 G;simp only[bj,j0]at D;simp only[Ab];rcases av.1 h with h|h
  ·simp_all
  ·have:j≠k:=by rintro rfl;exact D.1 (bc.2 ⟨(j,b),h,rfl⟩)
   rw[J6 this];exact UG (IB.2 D.2) h
theorem FnOK.subLoop {P:Program} {C:Cfg} {f:FuncId} (h:FnOK P C f) {blk:Nat} {body:Code} (D:(blk,body)∈GM P f):SubOK P C body blk:=by
 unfold GM at D;split at D
 ·rename_i c I;obtain⟨L,M,N⟩:=J0 c 0 blk body D;exact⟨λp G=>h.l p (by grind [GM]),λp G=>h.b p (by grind [Yz]),λp G=>h.c p (by grind [Vm])⟩
 grind
theorem FnOK.loop {P:Program} {C:Cfg} {f:FuncId} (h:FnOK P C f) (G:Ak P C) (O:∀t∈C.eqOk,P.stoodInHeld t=false) (M:P.follows .mixedOrders=true) {L blk:Nat} {sk:Sk} {D:List (Ex×Sk)}
  (X:Cm ((GM P f).map (·.1))=true) (T:sk.okB=true):FnOK P (C.loop blk sk D (Am (A1 P C L blk (A2 P f blk) sk D))) f:=by
 refine⟨λp U V g N=> ?_,h.b,h.c⟩;simp only[Cfg.loop]at N;cases hb:Nat.beq p.1 blk<;>rw[hb]at N
 ·exact h.l p U V g N
 ·have e:=ah hb;subst e;simp only[ak,ap,dq]at N;obtain⟨rfl,rfl⟩:=N;have I:=Q4o (UG (k:=p.1) (b:=p.2) X U);rw[I];exact Zus G O M T (h.subLoop U) λvars o Y=>PM Y
theorem Qmr {P:Program} {C:Cfg} {f:FuncId} {L:Nat} {sig D:Sk} (O:If P f=true) (h:FnOK P C f) (G:Ak P C) (N:∀t∈C.eqOk,P.stoodInHeld t=false) (M:P.follows .mixedOrders=true)
  (T:sig.okB=true) (U:D.okB=true):An P (f,Ac sig D (Ao P C L f sig D)):=
 Zpv G N M (I6 O) T U (λ_ I=>h.sub I) λ_ _ V=>V
theorem Yaj {P:Program} {C:Cfg} {f:FuncId} {L:Nat} {sig D:Sk} (_:If P f=true) (h:FnOK P C f) (G:Ak P C) (O:∀t∈C.eqOk,P.stoodInHeld t=false) (M:P.follows .mixedOrders=true)
  (T:sig.okB=true) (U:D.okB=true) (args:List TV) (v:TV) (mem':Mem) (N:(Ac sig D (Ao P C L f sig D) (TV×Mem) args ⟨[],[]⟩ λv m=>some (v,m))=some (v,mem')):PCallM P f args ⟨[],[]⟩ v mem':=
 Q0x G O M T U (λ_ I=>h.sub I) (λ_ _ V=>V) N
theorem Mr {P:Program} {f:FuncId} {sig D:Sk}:An P (f,Ac sig D λ_=>none):=by
 refine⟨QV,λargs mem v mem' h=> ?_⟩;obtain⟨aB,aC⟩:=mem;simp only[Ac]at h
 grind
section
variable {H α:Type}
theorem Z97 (F G:List (DataW H)->α) (h:∀a b c d,F [a,b,c,d]=G [a,b,c,d]) (l:List (DataW H)) (D:l.length=4):F l=G l:=by
 match l,D with
 |[a,b,c,d],_=>grind
end
theorem Td {l:List Ar} {s:Bool×List Kd} {D:List (Bool×List Kd)} (h:l.map Ar.sh=s::D):∃a G,l=a::G/\a.agg=s.1/\a.ks=s.2/\G.map Ar.sh=D:=by
 cases l with
 |nil=>grind
 |cons a G=>
  simp only[bj,fd]at h;refine⟨a,G,rfl,?_,?_,h.2⟩
  ·rw[<-h.1];rfl
  ·rw[<-h.1];rfl
theorem Zpx {l:List Ar} (h:l.map Ar.sh=[]):l=[]:=by simp_all
open Go.RowKit
section
variable {P:Program} {C:Cfg} {w:World} {Z:Base} {R:Type}
def UJ (o:Oper):Bool:=match o.dst with
 |some 0=>false
 |_=>true
def kpC:Code->Bool
 | .skip=>true
 | .region _ ops draw=> !draw&&Al UJ ops.toList
 | .seq x y=>kpC x&&kpC y
 | .cond _ x y=>kpC x&&kpC y
 | .block _ b=>kpC b
 | .loop b=>kpC b
 | .exit _=>true
 | .ret=>true
 |_=>false
theorem Z4h {a:Act} {o:Oper} {x:Value} (h:UJ o=true):(a.put o.dst x).tmps.getD 0 undef=a.tmps.getD 0 undef:=by
 unfold UJ at h;cases D:o.dst with
 |none=>rfl
 |some d=>
  rw[D]at h;cases d with
  |zero=>grind
  |succ d=>simp[Act.put]
theorem Qp4 (D:Ak P C) (I:∀t∈C.eqOk,P.stoodInHeld t=false) {ops:Array Oper} {Q:Exit->Act->World->Prop} {K:St->Option R} {r:R}:
  ∀(l:List Oper) (s:St) (a:Act) (w:World),Al UJ l=true->Rel Z s a.tmps w->Ig P C ops.toList l s K=some r->
  (∀(L:St) (G:Act) (w':World),K L=some r->Rel Z L G.tmps w'->G.defers=a.defers->G.tmps.getD 0 undef=a.tmps.getD 0 undef->Q .normal G w')->wpList P ops Q l a w
 |[],s,a,w,M,N,h,O=>O s a w h N rfl rfl
 |o::l,s,a,w,M,N,h,O=>by
  rw[Ax]at M;have U:=M o (List.mem_cons_self ..);simp only[Ig]at h;have := Qwi (next := wpList P ops Q l) (Q := Q) D I N h (λpo L G w' V T X => Qp4 D I l L G w' (Ax.2 λx Y => M x (gq _ Y)) T V (λs2 a2 w2 h1 h2 h3 h4 => by
   obtain⟨x,rfl⟩:=X;exact O s2 a2 w2 h1 h2 (h3.trans (by cases o.dst<;>rfl)) (h4.trans (Z4h U))))
  simp only[wpList]
  grind
def TY (Z:Base) (K:Ex->St->Option R) (r:R) (d:List Deferred) (G:Value):Exit->Act->World->Prop:=
 λe a w=>∃D s,K2 D=e/\K D s=some r/\Rel Z s a.tmps w/\a.defers=d/\a.tmps.getD 0 undef=G
def Q2l (P:Program) (c:Code) (sk:Sk) (g:IL):Prop:=
 ∀(Z:Base) (_:InZ Z) (a:Act) (w:World) (vars:List AC) (R:Type) (K:Ex->St->Option R) (r:R),Rel Z (AH sk vars) a.tmps w->g R vars K=some r->c.wp P (TY Z K r a.defers (a.tmps.getD 0 undef)) a w
structure KeepOK (P : Program) (C : Cfg) (c : Code) : Prop where
 l:∀p∈A5 c 0,∃sk g,C.loops p.1=some (sk,g)/\Q2l P (.loop p.2) sk g
 b:C.blocks=λ_=>none
 c:C.conds=λ_=>none
theorem Ju (D:Ak P C) (X:∀t∈C.eqOk,P.stoodInHeld t=false) (N:P.follows .mixedOrders=true) (hZ:InZ Z) {r:R} {d:List Deferred} {x0:Value}:
  ∀(c:Code) (L blk:Nat) (s:St) (a:Act) (w:World) (K:Ex->St->Option R),kpC c=true->KeepOK P C c->Rel Z s a.tmps w->a.defers=d->a.tmps.getD 0 undef=x0->BC P C L c blk s K=some r->c.wp P (TY Z K r d x0) a w
 | .skip,L,blk,s,a,w,K,O,G,I,T,U,h=>wp_skip ⟨.normal,s,rfl,h,I,T,U⟩
 | .region id ops draw,L,blk,s,a,w,K,O,G,I,T,U,h=>by
  rw[BC]at h;obtain⟨s0,h,I⟩:=SX hZ _ s I h;simp only[kpC,aj]at O;cases draw
  ·exact wp_region_list (Qp4 D X _ s0 a w O.2 I h λs' a' w' hK M V h'=>⟨.normal,s',rfl,hK,M,V.trans T,h'.trans U⟩)
  grind
 | .seq x y,L,blk,s,a,w,K,O,G,I,T,U,h=>by
  rw[BC]at h;simp only[kpC,aj]at O;refine wp_seq (wp_mono (Ju D X N hZ x L blk s a w _ O.1 ⟨λp hp=>G.l p (by simp[A5,hp]),G.b,G.c⟩ I T U h) ?_);rintro e a' w' ⟨ae,s',rfl,hK,M,V,Y⟩;cases ae with
  |normal=>exact Ju D X N hZ y L blk s' a' w' K O.2 ⟨λp hp=>G.l p (by simp[A5,hp]),G.b,G.c⟩ M V Y hK
  |exit id=>exact⟨.exit id,s',rfl,hK,M,V,Y⟩
  |ret=>exact⟨.ret,s',rfl,hK,M,V,Y⟩
 | .cond c x y,L,blk,s,a,w,K,O,G,I,T,U,h=>by
  simp only[kpC,aj]at O;have hx:KeepOK P C x:=⟨λp hp=>G.l p (by simp[A5,hp]),G.b,G.c⟩;have hy:KeepOK P C y:=⟨λp hp=>G.l p (by simp[A5,hp]),G.b,G.c⟩;rw[BC]at h;have hn:TU C c=none:=by
   unfold TU;split
   ·rw[G.c]
   ·rfl
  rw[hn]at h;simp only[KK]at h;split at h
  ·rename_i g hg;have a2:a.eval c= .bool g:=by
    obtain⟨ρ,a0⟩:=I;have:=TT a0 c;rw[hg]at this;exact this.bool
   refine wp_cond a2 ?_;split at h
   ·rename_i t;have a3:∀b,g=b->Rel Z ⟨setL s.tmps t (.c (.bool b)),s.aB,s.aC⟩ a.tmps w:=by
     rintro b rfl;obtain⟨ρ,a0⟩:=I;exact⟨ρ,a0.learn t (by have e:a.tmps.getD t undef= .bool g:=a2;grind [TVR.mkBool]) (FA _)⟩
    cases g
    ·simp only[ay]at h;rw[Fo]at h;exact Ju D X N hZ y L blk _ a w K O.2 hy (a3 false rfl) T U h
    ·simp only[ak]at h;rw[Fo]at h;exact Ju D X N hZ x L blk _ a w K O.1 hx (a3 true rfl) T U h
   ·cases g
    ·exact Ju D X N hZ y L blk s a w K O.2 hy I T U h
    ·exact Ju D X N hZ x L blk s a w K O.1 hx I T U h
  grind
 | .block id body,L,blk,s,a,w,K,O,G,I,T,U,h=>by
  have hb:KeepOK P C body:=⟨λp hp=>G.l p (by simp[A5,hp]),G.b,G.c⟩;rw[BC]at h;rw[G.b]at h;simp only[KK]at h;refine wp_block (wp_mono (Ju D X N hZ body L id s a w _ O hb I T U h) ?_);rintro e a' w' ⟨ae,s',rfl,hK,M,V,Y⟩;cases ae with
  |normal=>exact⟨.normal,s',rfl,hK,M,V,Y⟩
  |exit i=>
   simp only[K2,Exit.inBlock];dsimp only at hK;cases hb:Nat.beq i id<;>rw[hb]at hK
   ·have:i≠id:=λe=>by simp_all
    rw[aa this];exact⟨.exit i,s',rfl,hK,M,V,Y⟩
   ·rw[ab (ah hb)];exact⟨.normal,s',rfl,hK,M,V,Y⟩
  |ret=>exact⟨.ret,s',rfl,hK,M,V,Y⟩
 | .loop body,L,blk,s,a,w,K,O,G,I,T,U,h=>by
  rw[BC]at h;obtain⟨s',h',M⟩:=P1 _ s a.tmps I _ r h;obtain⟨s1,h1,a1⟩:=Mg M h';obtain⟨sk,g,hs,a4⟩:=G.l (Rl body,body) (by simp[A5]);rw[hs]at h1;simp only[KK]at h1;obtain⟨a5,h2⟩:=BO h1;split at h2
  ·rename_i vars hv;obtain⟨ρ,a1⟩:=a1;obtain⟨tm,aB,aC⟩:=s1;subst T;subst U;exact a4 Z hZ a w vars R K r ⟨ρ,a1.rebuild hZ a5 hv⟩ h2
  grind
 | .exit id,L,blk,s,a,w,K,O,G,I,T,U,h=>wp_exit ⟨.exit id,s,rfl,h,I,T,U⟩
 | .ret,L,blk,s,a,w,K,O,G,I,T,U,h=>wp_ret ⟨.ret,s,rfl,h,I,T,U⟩
 | .rangeFunc f ps a6 body,L,blk,s,a,w,K,O,G,I,T,U,h=>by grind [BC]
 | .scope b,L,blk,s,a,w,K,O,G,I,T,U,h=>by grind [kpC]
 | .label l,L,blk,s,a,w,K,O,G,I,T,U,h=>by grind [kpC]
 | .goto l,L,blk,s,a,w,K,O,G,I,T,U,h=>by grind [BC]
 | .refuse a7,L,blk,s,a,w,K,O,G,I,T,U,h=>by grind [BC]
theorem Zfa (G:Ak P C) (a0:∀t∈C.eqOk,P.stoodInHeld t=false) (O:P.follows .mixedOrders=true) {L blk:Nat} {body:Code} {sk:Sk} {exits:List (Ex×Sk)} {m:List AC->Option (Nat×List AC)}
  (a1:sk.okB=true) (hc:kpC body=true) (T:KeepOK P C body) (hm:∀vars o,m vars=some o->∃n,Cu (A1 P C L blk body sk exits) n vars=some o):Q2l P (.loop body) sk (gOf exits m):=by
 intro Z hZ a w vars R K r hR h;simp only[gOf,bn]at h;obtain⟨⟨t,o⟩,h1,h2⟩:=h;obtain⟨n,hn⟩:=hm vars _ h1;have key:∀(n:Nat) (vars:List AC) (M:Act) (w':World),Rel Z (AH sk vars) M.tmps w'->M.defers=a.defers->M.tmps.getD 0 undef=a.tmps.getD 0 undef->Cu (A1 P C L blk body sk exits) n vars=some (t,o)->Code.rounds P body (TY Z K r a.defers (a.tmps.getD 0 undef)) n M w':=by
  intro n;induction n with
  |zero=>grind [Cu]
  |succ n ih=>
   intro vars M w' a3 a4 a5 h;simp only[Cu,bn]at h;obtain⟨⟨t',o'⟩,q1,N⟩:=h;rw[rounds_succ];refine wp_mono (Ju G a0 O hZ body L blk _ M w' _ hc T a3 a4 a5 q1) ?_;rintro e a2 w2 ⟨ae,s',rfl,hK,U,V,X⟩;have D:∀Y:Ex,Ki exits 1 Y s'=some (t',o')->TY Z K r a.defers (a.tmps.getD 0 undef) (K2 Y) a2 w2:=by
    intro Y hx;obtain⟨p1,a6,p2,p3⟩:=Qi7 hZ U hx;have ht:t'≠0:=by omega
    dsimp only at N;rw[aa ht]at N;simp at N;obtain⟨rfl,rfl⟩:=N;rw[p2 R K]at h2;exact⟨Y,_,rfl,h2,p3,V,X⟩
   cases ae with
   |normal=>
    obtain⟨s3,h3,I⟩:=Mg U hK;split at h3
    ·rename_i vars' hv;simp at h3;obtain⟨rfl,rfl⟩:=h3;simp only[fo]at N;obtain⟨ρ,I⟩:=I;obtain⟨tm,aB,aC⟩:=s3;exact ih _ a2 w2 ⟨ρ,I.rebuild hZ a1 hv⟩ V X N
    grind
   |exit i=>exact D _ hK
   |ret=>exact D _ hK
 exact wp_loop_rounds n (key n vars a w hR rfl rfl hn)
theorem Zyw (N:Ak P C) (Y:∀t∈C.eqOk,P.stoodInHeld t=false) (U:P.follows .mixedOrders=true) (hZ:InZ Z) (hk:C.keepIn=true) {L:Nat} {f:FuncId} {args:List TV} {mem:Mem} {K:TV->Mem->Option R} {r:R}
  (V:∀c,FF P f=some c->kpC c=true/\KeepOK P C c) (h:EL P C L f args mem K=some r) {ρ:Env} {xs:List Value} (D:RelE Z args mem.aB mem.aC ρ xs.toArray w):
  Calls P f xs.toArray w λe w'=>∃x O v m,e= .returned x/\K v m=some r/\RelE Z [v] m.aB m.aC O #[x] w'/\((xs.toArray++Array.replicate ((match P.funcs[f]? with|some G=>G.ntmps|none=>0)-xs.toArray.size) undef).getD 0 undef)=O.rv base:=by
 unfold EL at h;split at h
 ·rename_i G a0;split at h
  ·rename_i c hc;obtain⟨_,h⟩:=BO h;simp only[Ba]at h;have I:P.funcs[f]? =some G:=by simpa using a0
   have hs:=V c (by grind [FF]);refine calls_of_wp I hc ?_;have hlen:xs.length=args.length:=by simpa using D.tl.symm
   have hR:Rel Z ⟨args++List.replicate (G.ntmps-args.length) TV.vD,mem.aB,mem.aC⟩ (xs.toArray++Array.replicate (G.ntmps-xs.toArray.size) undef) w:=by
    refine⟨ρ,D.slots (by grind) (λi u X=> ?_) (λu T=> ?_)⟩
    ·rw[gr]at X;split at X
     ·rename_i a5;have a1:i<xs.length:=by omega
      have e:(xs.toArray++Array.replicate (G.ntmps-xs.toArray.size) undef).getD i undef=xs.toArray.getD i undef:=by
       simp[j5,jt,a1]
      rw[e];exact D.tv i u X
     ·have:=da X;rw[gn]at this;rw[this.2];trivial
    ·rw[be]at T;rcases T with T|T
     ·exact D.wt u T
     ·rw[gn]at T;rw[T.2];trivial
   refine wp_mono (Ju N Y U hZ c L 0 _ ⟨_,[]⟩ w _ hs.1 hs.2 hR rfl rfl h) ?_;rintro e a' w' ⟨ae,s,rfl,hK,a2,hd,h0⟩;have hk0:∀k b,Z.K0 k=some b->k∈mem.aB.map (·.1):=by
    intro k b hk;obtain⟨_,bo,a3⟩:=D.k0 k b hk;exact KC.2 ⟨bo,a3⟩
   have M:Mp P C G (mem.aB.map (·.1)) s K=some r->a'.defers=[]/\∃x,(results G a'.tmps).run P w'= .ok x w'/\∃y O v m,Ending.returned x= .returned y/\K v m=some r/\RelE Z [v] m.aB m.aC O #[y] w'/\((xs.toArray++Array.replicate ((match P.funcs[f]? with|some G=>G.ntmps|none=>0)-xs.toArray.size) undef).getD 0 undef)=O.rv base:=by
    intro hf;obtain⟨x,O,v,m,a4,h1,h2,h3⟩:=Qlf a2 hk0 hf;refine⟨hd,x,h1,x,O,v,m,rfl,a4,h2,?_⟩;rw[I];exact h0.symm.trans (h3 hk)
   cases ae with
   |normal=>
    obtain⟨q1,x,q2,q3⟩:=M hK;exact⟨q1,x,q2,q3⟩
   |ret=>
    obtain⟨q1,x,q2,q3⟩:=M hK;exact⟨q1,x,q2,q3⟩
   |exit id=>grind
  grind
 grind
theorem Zhv {sig:Sk} (G:∃w D,sig.tmps= .v false [.own base w]::D) {vars:List AC} {args:List TV} {b:List (Nat×Box)} {r:List (Nat×Row)} (h:AH sig vars=⟨args,b,r⟩):∃w n l,args= .v false [.own base w n]::l:=by grind [AH,EF,HA,DP,Dx]
theorem Zkf (M:Ak P C) (a1:∀t∈C.eqOk,P.stoodInHeld t=false) (T:P.follows .mixedOrders=true) (hk:C.keepIn=true) {L:Nat} {f:FuncId} (N:NM P f) {sig D:Sk} (h1:sig.okB=true) (h2:D.okB=true)
  (h0:∃w ts,sig.tmps= .v false [.own base w]::ts)
  (U:∀c,FF P f=some c->kpC c=true/\KeepOK P C c):Oo P f (Ac sig D (Ao P C L f sig D)):=by
  intro args mem v mem' h;obtain⟨aB,aC⟩:=mem;simp only[Ac]at h;obtain⟨a2,h⟩:=BO h;split at h
  ·rename_i vars hv;simp only[bn]at h;obtain⟨o,I,h⟩:=h;intro F w hG ρ xs a3;have hZ:InZ (Ed F w ρ aB hG):=NE a2;have G:=a3.rebuild hZ h1 hv;unfold Ao at I;have V:=λargs b r=>Zhv h0 (vars:=vars) (args:=args) (b:=b) (r:=r);generalize hs:AH sig vars=s1 at I G V;obtain⟨a4,a0,a5⟩:=s1;obtain⟨w0,n0,l0,ha⟩:=V _ _ _ rfl;dsimp only at I G;have a6:xs.toArray.getD 0 undef=ρ.rv base:=by
    obtain⟨y,hy,hc⟩:=G.tv 0 (.v false [.own base w0 n0]) (by grind);simp only[fd,jp]at hy;subst hy;exact hc.1
   have hlen:0<xs.length:=by
    have:=G.tl;rw[ha]at this;simp at this;omega
   refine .inl ⟨N,(Zyw M a1 T hZ hk U I G).mono ?_⟩;rintro e w' ⟨x,ρ',v',m',he,X,Y,a7⟩;obtain⟨b',r'⟩:=m';dsimp only at X Y;have O:=Y.rebuild hZ h2 X;generalize a8:AH D o=s2 at h O;obtain⟨tm,b2,r2⟩:=s2;dsimp only at h O;split at h
   ·simp only[ap,dq]at h;obtain⟨rfl,rfl⟩:=h;refine⟨x,ρ',he,O,?_⟩;simp_all [jt]
   grind
  grind
theorem Zw4 (I:Ak P C) (T:∀t∈C.eqOk,P.stoodInHeld t=false) (N:P.follows .mixedOrders=true) {f:FuncId} {L blk:Nat} {sk:Sk} {D:List (Ex×Sk)} (hb:C.blocks=λ_=>none) (X:C.conds=λ_=>none)
  (Y:(GM P f).map (·.1)=[blk]) (U:sk.okB=true) (hk:(match FF P f with|some c=>kpC c|none=>false)=true) (O:kpC (A2 P f blk)=true) (V:(A5 (A2 P f blk) 0).length=0):
  ∀c,FF P f=some c->kpC c=true/\KeepOK P (C.loop blk sk D (Am (A1 P C L blk (A2 P f blk) sk D))) c:=by
 intro c G;rw[G]at hk;refine⟨hk,λp hp=> ?_,hb,X⟩;have hm:p∈GM P f:=by unfold GM;rw[G];exact hp
 have h1:p.1=blk:=by
  have:=List.mem_map_of_mem (f:=(·.1)) hm;rw[Y]at this;simpa using this
 subst h1;have M:=Q4o (UG (k:=p.1) (b:=p.2) (by rw[Y];rfl) hm);rw[M]at O V⊢;refine⟨sk,gOf D (Am (A1 P C L p.1 p.2 sk D)),by simp[Cfg.loop],Zfa (L:=L) (blk:=p.1) (exits:=D) I T N U O ⟨λq hq=> ?_,hb,X⟩ λvars o ho=>PM ho⟩
 grind
def AllKp (P:Program) (ks:List Nat):List (Nat×Spec)->Prop
 |[]=>True
 |p::l=>(AQ ks p.1=false\/Oo P p.1 p.2)/\AllKp P ks l
theorem AllKp.mem {P:Program} {ks:List Nat}:∀{l:List (Nat×Spec)},AllKp P ks l->∀p∈l,AQ ks p.1=false\/Oo P p.1 p.2
 |_::l,h,p,D=>by
  rcases av.1 D with rfl|D
  ·exact h.1
  ·exact AllKp.mem h.2 p D
theorem Gv {P:Program} {ks:List Nat} {p:Nat×Spec} {l:List (Nat×Spec)} (h:AQ ks p.1=false) (D:AllKp P ks l):AllKp P ks (p::l):=⟨.inl h,D⟩
theorem Z8w {P:Program} {ks:List Nat} {p:Nat×Spec} {l:List (Nat×Spec)} (h:Oo P p.1 p.2) (D:AllKp P ks l):AllKp P ks (p::l):=⟨.inr h,D⟩
theorem Z6t {P:Program} {ks:List Nat}:AllKp P ks []:=trivial
theorem Z4i {P:Program} {C:Cfg} {l:List (Nat×Spec)} {ks:List Nat} (I:C.spec=Ge l) (h:AllOK P l) (G:C.keepR=λf=>AQ ks f) (L:AllKp P ks l) (M:C.ro=λ_=>false:=by rfl):Ak P C:=by
 refine⟨λf g D=> ?_,λf g _ h=>(by grind),λf g D N=> ?_⟩
 ·rw[I]at D;exact h.mem _ (Nv D)
 ·rw[I]at D;rw[G]at N;rcases L.mem _ (Nv D)with h|h
  ·grind
  omega
end
theorem Zsm {rl:Nat->Nat} {c:CS} {a:AC} {v:List AC} (he:VL c a=true) (h:HK c a=some v) {l:List AC} {i:Nat} (D:Seg l i v):Dx rl l c i=(a,i+v.length):=by
 cases c<;>cases a<;>simp only[VL]at he<;>try (simp at he;done)
 case int.int k k' n=>
  simp only[HK,he,ak,ap]at h;subst h
  grind [Dx,Ag,D.one,Pi]
 case bool.bool b=>
  simp only[HK,ap]at h;subst h
  grind [Dx,Dz,D.one]
 case sl.vC ks G q=>
  simp only[HK,he,ak,ap]at h;subst h
  grind [Dx,BQ,D.one,IH]
 simp_all [HK,Dx]
theorem Q46 {rl:Nat->Nat} {l:List AC}:∀{cs:List CS} {as:List AC} {v:List AC},OR cs as=true->GI cs as=some v->∀{i},Seg l i v->DP rl l cs i=(as,i+v.length)
 |[],[],v,_,h,i,_=>by simp[GI]at h;subst h;rfl
 |c::cs,a::as,v,he,h,i,D=>by
  simp only[OR,aj]at he;simp only[GI]at h;split at h
  ·rename_i L G;split at h
   ·rename_i M I;simp at h;subst h;simp only[DP,Zsm he.1 G D.left,Q46 he.2 I D.right,aq,jd]
   grind
  grind
 |[],_::_,_,he,_,_,_=>by grind [OR]
 |_::_,[],_,he,_,_,_=>by grind [OR]
theorem Qrr {rl:Nat->Nat} {l:List AC} {aB:List (Nat×Box)}:∀{bs:List (Nat×TypeId×List CS)} {m:List (Nat×Box)} {v:List AC},Ho bs m=true->(∀p∈m,Ab aB p.1=some p.2)->
  JJ bs aB=some v->∀{i},Seg l i v->E8 rl l bs i=m
 |[],[],v,_,_,_,i,_=>rfl
 |(k,t,cs)::bs,(k',b)::m,v,he,D,h,i,G=>by
  simp only[Ho,aj]at he;obtain⟨e1,e2,e3,I⟩:=he;have e1:=ah e1;subst e1;have hb:=D (k,b) (by simp);dsimp only at hb;simp only[JJ,hb,e2,ak]at h;split at h
  ·rename_i N L;split at h
   ·rename_i O M;simp at h;subst h;simp only[E8,Q46 e3 L G.left,Qrr I (λp T=>D p (by grind)) M G.right];simp_all
   grind
  grind
 |[],_::_,_,he,_,_,_,_=>by grind [Ho]
 |_::_,[],_,he,_,_,_,_=>by grind [Ho]
theorem Q6k:∀{bs:List (Nat×TypeId×List CS)} {m:List (Nat×Box)},Ho bs m=true->m.map (·.1)=bs.map (·.1)
 |[],[],_=>rfl
 |(k,t,cs)::bs,(k',b)::m,he=>by
  simp only[Ho,aj]at he;simp only[bj,Q6k he.2.2.2,ah he.1]
 |[],_::_,he=>by grind [Ho]
 |_::_,[],he=>by grind [Ho]
theorem Zor {sig D:Sk} {m:List AC->Option (List AC)} (R:Type) (args:List TV) (mem:Mem) (K:TV->Mem->Option R):E3 sig D m R args mem K=(E3 sig D m (TV×Mem) args mem λv m=>some (v,m)).bind λp=>K p.1 p.2:=by
 obtain⟨aB,aC⟩:=mem;simp only[E3];cases(Al (λp:Nat×Box=>DT p.1) aB&&(Ho sig.aB aB&&(aC.isEmpty&&(sig.aC.isEmpty&&Cm (sig.aB.map (·.1))))))
 ·rfl
 ·simp only[ak];cases DI sig ⟨args,aB,aC⟩with
  |none=>rfl
  |some vars=>grind
theorem Z2w {sig D:Sk} {m:List AC->Option (List AC)}:T4 (E3 sig D m):=by
 intro args mem v G h;obtain⟨aB,aC⟩:=mem;simp only[E3]at h;obtain⟨_,h⟩:=BO h
 grind [Option.bind_eq_some_iff]
theorem LU {rs:List Nat}:AllRo rs []:=trivial
theorem DB {rs:List Nat} {k:Nat} {g:Spec} {l:List (Nat×Spec)} (h:AQ rs k=false) (t:AllRo rs l):AllRo rs ((k,g)::l):=⟨.inl h,t⟩
theorem Jo {rs:List Nat} {k:Nat} {sig D:Sk} {m:List AC->Option (List AC)} {l:List (Nat×Spec)} (t:AllRo rs l):AllRo rs ((k,E3 sig D m)::l):=⟨.inr Z2w,t⟩
def Zqn (P:Program) (C:Cfg) (L:Nat) (f:FuncId) (sig:Sk):Prop:=
 ∀(vars:List AC) (R:Type) (K:TV->Mem->Option R),EL P C L f (AH sig vars).tmps ⟨(AH sig vars).aB,(AH sig vars).aC⟩ K=EL P C L f (AH sig vars).tmps ⟨(AH sig vars).aB,(AH sig vars).aC⟩ λv _=>K v ⟨(AH sig vars).aB,(AH sig vars).aC⟩
open Classical in
theorem So {P:Program} {C:Cfg} {f:FuncId} {L:Nat} {sig G:Sk} (hc:If P f=true) (h:FnOK P C f) (a3:Ak P C) (b3:∀t∈C.eqOk,P.stoodInHeld t=false) (a9:P.follows .mixedOrders=true)
  (h1:sig.okB=true) (h2:G.okB=true) (hl:Zqn P C L f sig):An P (f,E3 sig G (Ly P C L f sig G)):=by
 refine⟨Zor,λargs mem v mem' T=>PCallM.x ?_ (I6 hc)⟩;obtain⟨aB,aC⟩:=mem;simp only[E3]at T;obtain⟨X,T⟩:=BO T;simp only[aj]at X;obtain⟨X,hex,a4,U,b4⟩:=X;have a4:aC=[]:=by simpa using a4
 have U:sig.aC=[]:=by simpa using U
 subst a4;split at T
 ·rename_i vars D;simp only[bn]at T;obtain⟨o,ho,T⟩:=T;intro F w hG ρ xs b5;have hZ:InZ (Ed F w ρ aB hG):=NE X;have a5:=b5.rebuild hZ h1 D
  have M:(AH sig vars).aB=aB:=by
   simp only[DI]at D;obtain⟨_,D⟩:=BO D;rw[U]at D;simp only[Jr]at D;split at D
   ·rename_i b hb;split at D
    ·rename_i c b0;simp only[bf,ap]at D;subst D;simp only[AH,U,GV];have V:=Uk (aB:=aB) (aC:=[]) (ρ:=ρ) (w:=w) (rl:=DO []) ⟨λid r hl=>by grind [Ab]⟩ hb (l:=b++c) (i:=0) (Seg.all _).left;generalize b6:EF (DO []) (b++c) sig.tmps 0=q at V;obtain⟨tm,i⟩:=q;have hi:i=0+b.length:=V.1;subst hi;have b7:=Q6k hex;refine Qrr hex (λp hp=>UG (by grind) hp) b0 (Seg.all (b++c)).right
    grind
   ·grind
  have O:(AH sig vars).aC=[]:=by simp only[AH,U,GV]
  have a6:=hl vars;unfold Ly at ho;generalize hs:AH sig vars=s1 at ho a5 a6 M O;obtain⟨a7,I,b8⟩:=s1;dsimp only at ho a5 a6 M O;subst M;subst O;have b1:EL P C L f a7 ⟨I,[]⟩ (λv m=>if m=⟨I,[]⟩then DI G ⟨[v],[],[]⟩else none)=some o:=by
   rw[a6];simp only[fo];exact ho
  refine(Zai a3 b3 a9 hZ (λ_ a8=>h.sub a8) b1 a5).mono ?_;rintro e w' ⟨x,ρ',v',m',he,N,Y⟩;split at N
  ·rename_i hm;subst hm;dsimp only at Y
   simp only[DI]at N;obtain⟨_,N⟩:=BO N;split at N
   ·rename_i a ha;split at N
    ·rename_i b hb;split at N
     ·rename_i c b0;simp only[ap]at N;subst N;split at T
      ·rename_i tm a0;split at T
       ·rename_i vn;simp only[ap,dq]at T;obtain⟨rfl,rfl⟩:=T;have a1:G.aC=[]:=by
         cases c0:G.aC with
         |nil=>rfl
         |cons p l=>grind [Jr,Ab]
        rw[a1]at ha;simp only[Jr,ap]at ha;subst ha;have V:=Uk (aB:=I) (aC:=[]) (ρ:=ρ') (w:=w') (rl:=DO []) ⟨λid r hl=>by grind [Ab]⟩ hb (l:=[]++(b++c)) (i:=0) (show Seg (b++c) 0 b from(Seg.all (b++c)).left);simp only[AH,a1,GV]at a0;have a2:=Qgs (B':=I) (R':=[]) (keys:=[]) (rs:=[]) (rl:=DO []) (by simp) (by simp[Ab]) (ts:=G.tmps)
         (by
          have:=h2;simp only[Sk.okB,aj]at this;have c1:G.aB=[]:=by
           cases c2:G.aB with
           |nil=>rfl
           |cons p l=>grind [JJ,Ab]
          grind) ([]++(b++c)) 0
        generalize b6:EF (DO []) ([]++(b++c)) G.tmps 0=q at V a0 a2;obtain⟨c3,i⟩:=q;simp only[St.mk.injEq]at a0;obtain⟨rfl,_,_⟩:=a0;obtain⟨u,b2,b9⟩:=V.2.2 0 vn rfl;simp only[List.getElem?_cons_zero,ap]at b2;subst b2;refine⟨x,ρ',he,Y.slots (by simp) (λi u hi=> ?_) (λu hu=>a2 u hu)⟩;cases i with
        |zero=>
         simp at hi;subst hi;have:=Y.tv 0 v' rfl;exact b9 _ (Y.wt v' (by simp)) this
        |succ i=>grind
       grind
      grind
     grind
    grind
   grind
  grind
 grind
abbrev I (n:Int):AC:= .int .i64 n
abbrev U (n:Int):AC:= .int .u64 n
abbrev B (b:Bool):AC:= .bool b
theorem HQ {x:Int} (h:0<=x/\x<=18446744073709551615):IntKind.u64.wrap x=x:=by grind [IntKind.wrap,IntKind.signed,IntKind.bits]
theorem NI (x:Int):IntKind.u64.wrap x=x%18446744073709551616:=by rfl
theorem Z_ (x:Int):V x=(x+9223372036854775808)%18446744073709551616-9223372036854775808:=by
 simp[V,IntKind.wrap,IntKind.signed,IntKind.bits];omega
def i64 (x:Int):Prop:= -9223372036854775808<=x/\x<=9223372036854775807
theorem Zoo (x:Int):i64 (V x):=by grind [Z_,i64]
theorem Cj {α:Type} {c:Bool} {a b:α} (h:c=true):(bif c then a else b)=a:=by grind
theorem B4 {α:Type} {c:Bool} {a b:α} (h:c=false):(bif c then a else b)=b:=by grind
theorem Ea {α:Type} {p:Prop} {inst:Decidable p} {a b:α} (h:p):(bif@decide p inst then a else b)=a:=by grind
theorem Bc {α:Type} {p:Prop} {inst:Decidable p} {a b:α} (h: ¬p):(bif@decide p inst then a else b)=b:=by grind
theorem Zs2 {α:Type} {p:Prop} {inst:Decidable p} {a b:α}:(bif@decide p inst then a else b)=if p then a else b:=by simp
theorem Zzl {α:Type} {c:Bool} {a b:α}:(bif c then a else b)=if c=true then a else b:=by simp
theorem Zhf {a b:Bool}:((a&&b)=true)=(a=true/\b=true):=by simp
theorem Zr6 {a b:Bool}:((a||b)=true)=(a=true\/b=true):=by simp
theorem Zdq {a:Bool}:((!a)=true)= ¬(a=true):=by simp
theorem Zy9 {p:Prop} {inst:Decidable p}:(@decide p inst=true)=p:=by simp
theorem Zvh {a b:Int}:((a==b)=true)=(a=b):=by simp
theorem Zjj {a b:Int}:((a !=b)=true)=(a≠b):=by simp
theorem Zt8 {a b:Nat}:(Nat.beq a b=true)=(a=b):=by simp
theorem Zn8 {a b:Nat}:(Nat.ble a b=true)=(a<=b):=by simp
attribute [go_sem ↓] Zs2 Zzl Zhf Zr6 Zdq Zy9 Zvh Zjj Zt8 Zn8
theorem HU {α:Type} (d x:α) (l:List α):nth d (x::l) 0=x:=by rfl
theorem HH (k:IntKind) (n:Int):Ag (.int k n)=n:=by rfl
theorem Qmd (b:Bool):Dz (.bool b)=b:=by rfl
theorem Qmq (ks:List Kd) (l:List (List AC)):BQ (.vC ks l)=l:=by rfl
theorem Zhi {p q:Prop} {i1:Decidable p} {D:Decidable q}:((@decide p i1== @decide q D)=true)=(p↔q):=by simp
theorem Z3v {a b:Nat}:((a==b)=true)=(a=b):=by simp
attribute [go_sem ↓] Zhi Z3v
attribute [go_sem] fo iy
theorem Mk {α:Type} (d x:α) (l:List α):nth d (x::l) 1=nth d l 0:=by rfl
theorem LP {α:Type} (d x:α) (l:List α):nth d (x::l) 2=nth d l 1:=by rfl
theorem Q2 {α:Type} (d x:α) (l:List α):nth d (x::l) 3=nth d l 2:=by rfl
theorem PE {α:Type} (d x:α) (l:List α):nth d (x::l) 4=nth d l 3:=by rfl
theorem TZ {α:Type} (d x:α) (l:List α):nth d (x::l) 5=nth d l 4:=by rfl
theorem Qdu {α:Type} (d x:α) (l:List α):nth d (x::l) 6=nth d l 5:=by rfl
theorem Qch {α:Type} (d x:α) (l:List α):nth d (x::l) 7=nth d l 6:=by rfl
theorem Zww {α:Type} (d x:α) (l:List α):nth d (x::l) 8=nth d l 7:=by rfl
theorem Zjp {α:Type} (d x:α) (l:List α):nth d (x::l) 9=nth d l 8:=by rfl
theorem Zw2 {α:Type} (d x:α) (l:List α):nth d (x::l) 10=nth d l 9:=by rfl
theorem Zw0 {α:Type} (d x:α) (l:List α):nth d (x::l) 11=nth d l 10:=by rfl
theorem Z0m {α:Type} (d x:α) (l:List α):nth d (x::l) 12=nth d l 11:=by rfl
theorem Zpp {α:Type} (d x:α) (l:List α):nth d (x::l) 13=nth d l 12:=by rfl
theorem Zub {α:Type} (d x:α) (l:List α):nth d (x::l) 14=nth d l 13:=by rfl
theorem Zhl {α:Type} (d x:α) (l:List α):nth d (x::l) 15=nth d l 14:=by rfl
theorem Ze0 {α:Type} (d x:α) (l:List α):nth d (x::l) 16=nth d l 15:=by rfl
theorem Z0s {α:Type} (d x:α) (l:List α):nth d (x::l) 17=nth d l 16:=by rfl
theorem Ztk {α:Type} (d x:α) (l:List α):nth d (x::l) 18=nth d l 17:=by rfl
theorem Z6q {α:Type} (d x:α) (l:List α):nth d (x::l) 19=nth d l 18:=by rfl
theorem Yaa {α:Type} (d x:α) (l:List α):nth d (x::l) 20=nth d l 19:=by rfl
theorem Zc1 {α:Type} (d x:α) (l:List α):nth d (x::l) 21=nth d l 20:=by rfl
theorem Zd7 {α:Type} (d x:α) (l:List α):nth d (x::l) 22=nth d l 21:=by rfl
theorem Zu0 {α:Type} (d x:α) (l:List α):nth d (x::l) 23=nth d l 22:=by rfl
theorem Zcb {α:Type} (d x:α) (l:List α):nth d (x::l) 24=nth d l 23:=by rfl
theorem Zeu {α:Type} (d x:α) (l:List α):nth d (x::l) 25=nth d l 24:=by rfl
theorem Z0e {α:Type} (d x:α) (l:List α):nth d (x::l) 26=nth d l 25:=by rfl
theorem Z9l {α:Type} (d x:α) (l:List α):nth d (x::l) 27=nth d l 26:=by rfl
theorem Zvf {α:Type} (d x:α) (l:List α):nth d (x::l) 28=nth d l 27:=by rfl
theorem Zeg {α:Type} (d x:α) (l:List α):nth d (x::l) 29=nth d l 28:=by rfl
theorem Zuk {α:Type} (d x:α) (l:List α):nth d (x::l) 30=nth d l 29:=by rfl
theorem Zh8 {α:Type} (d x:α) (l:List α):nth d (x::l) 31=nth d l 30:=by rfl
theorem Zv8 {α:Type} (d x:α) (l:List α):nth d (x::l) 32=nth d l 31:=by rfl
theorem Znj {α:Type} (d x:α) (l:List α):nth d (x::l) 33=nth d l 32:=by rfl
theorem Z7t {α:Type} (d x:α) (l:List α):nth d (x::l) 34=nth d l 33:=by rfl
theorem Zsd {α:Type} (d x:α) (l:List α):nth d (x::l) 35=nth d l 34:=by rfl
theorem Z9a {α:Type} (d x:α) (l:List α):nth d (x::l) 36=nth d l 35:=by rfl
theorem Zqk {α:Type} (d x:α) (l:List α):nth d (x::l) 37=nth d l 36:=by rfl
theorem Zvk {α:Type} (d x:α) (l:List α):nth d (x::l) 38=nth d l 37:=by rfl
theorem Zuh {α:Type} (d x:α) (l:List α):nth d (x::l) 39=nth d l 38:=by rfl
attribute [go_sem] HU Mk LP Q2 PE TZ Qdu Qch Zww Zjp Zw2 Zw0 Z0m Zpp Zub Zhl Ze0 Z0s Ztk Z6q Yaa Zc1 Zd7 Zu0 Zcb Zeu Z0e Z9l Zvf Zeg Zuk Zh8 Zv8 Znj Z7t Zsd Z9a Zqk Zvk Zuh HH Qmd Qmq am
theorem Qut {S:Type} {step:List AC->Option (Nat×List AC)} (enc:S->List AC) (Inv:S->Prop) (m:S->Nat) (Q:Nat×List AC->Prop)
  (h:∀s,Inv s->(∃D,step (enc s)=some (0,enc D)/\Inv D/\m D<m s)\/∃o,step (enc s)=some o/\o.1≠0/\Q o):
  ∀s,Inv s->∃o,Am step (enc s)=some o/\o.1≠0/\Q o:=by
 have:∀n s,m s<=n->Inv s->∃o,Am step (enc s)=some o/\o.1≠0/\Q o:=by
  intro n;induction n with
  |zero=>grind [SM]
  |succ n I=>grind [SM]
 intro s G;exact this _ s (cm _) G
theorem BB {step:List AC->Option (Nat×List AC)} {v w:List AC} (h:step v=some (0,w)):Am step v=Am step w:=by grind [SM]
theorem Bn {step:List AC->Option (Nat×List AC)} {v:List AC} {o:Nat×List AC} (h:step v=some o) (D:o.1≠0):Am step v=some o:=by grind [SM]
theorem Ztf {sig D:Sk} {m:List AC->Option (List AC)} {args:List TV} {vars:List AC} (G:DI sig ⟨args,[],[]⟩=some vars) (I:m vars=some [B true]) (L:AH D [B true]=⟨[.v false [.bool true]],[],[]⟩):
  (Ac sig D m (TV×Mem) args ⟨[],[]⟩ λv m=>some (v,m))=some (.v false [.bool true],⟨[],[]⟩):=by simp_all [Ac,Al]
theorem Ar.tv_of {a:Ar} {g:Bool} {ks:List Kd} (D:a.agg=g) (G:a.ks=ks):a.tv= .v g (AT ks a.raw):=by grind [Ar.tv]
theorem GO {α:Type} (f:α->List AC) (d:List AC):∀(l:List α) (i:Nat) (h:i<l.length),nth d (l.map f) i=f l[i]
 |x::l,0,_=>rfl
 |x::l,i+1,h=>by simp only[bj,nth,List.getElem_cons_succ];exact GO f d l i (by grind)
theorem E1 {α:Type} (d:α):∀(l:List α) (i:Nat) (h:i<l.length),nth d l i=l[i]
 |x::l,0,_=>rfl
 |x::l,i+1,h=>by simp only[nth,List.getElem_cons_succ];exact E1 d l i (by grind)
def Aj (n:Int):List AC:=[I n]
theorem KF {α:Type} (l:List α) (i:Nat) (h:i<l.length):l.drop i=l[i]::l.drop (i+1):=by simp
structure Pt where
 (x y z:Int)
structure Itm where
 (aP block:Int)
 (fr to:Pt)
 (aG:Int)
 (ce:Pt)
 (dir:Int)
 bG:Bool
 aZ:Int
 perRev:Bool
 (side radius bH n aS:Int)
 on:Bool
structure Sgm where
 to:Pt
 (len aU aZ aX:Int)
structure Mrk where
 (at_ aP aU:Int)
structure Pth where
 aQ:Pt
 aF:List Sgm
 aD:List Mrk
structure Axs where
 (step aS bD bE low aY bB aV aO:Int)
 aW:List Int
structure Pce where
 (at_ aR s bC:Int)
 (was aT:Pt)
structure Trk where
 aE:List Pce
 (length aQ:Int)
 aT:Pt
structure Spk where
 (u w r h:Int)
instance:DecidableEq Pt:=λa b=>by
 obtain⟨a1,a2,a3⟩:=a;obtain⟨b1,b2,b3⟩:=b;exact decidable_of_iff (a1=b1/\a2=b2/\a3=b3) (by simp)
instance:DecidableEq Sgm:=λa b=>by
 obtain⟨a1,a2,a3,a4,a5⟩:=a;obtain⟨b1,b2,b3,b4,b5⟩:=b;exact decidable_of_iff (a1=b1/\a2=b2/\a3=b3/\a4=b4/\a5=b5) (by simp)
instance:DecidableEq Mrk:=λa b=>by
 obtain⟨a1,a2,a3⟩:=a;obtain⟨b1,b2,b3⟩:=b;exact decidable_of_iff (a1=b1/\a2=b2/\a3=b3) (by simp)
instance:DecidableEq Pce:=λa b=>by
 obtain⟨a1,a2,a3,a4,a5,a6⟩:=a;obtain⟨b1,b2,b3,b4,b5,b6⟩:=b;exact decidable_of_iff (a1=b1/\a2=b2/\a3=b3/\a4=b4/\a5=b5/\a6=b6) (by simp)
abbrev kI:Kd:= .int .i64
abbrev kB:Kd:= .bool
abbrev Aa:List Kd:=[kI]
abbrev kPt:List Kd:=[kI,kI,kI]
abbrev Ai:List Kd:=[kI,kI,kI,kI,kI,kI,kI,kI,kI,kI,kI,kI,kI,kB,kI,kB,kI,kI,kI,kI,kI,kB]
abbrev Ah:List Kd:=[kI,kI,kI,kI,kI,kI,kI]
abbrev AL:List Kd:=[kI,kI,kI]
abbrev Au:List Kd:=[kI,kI,kI,kI,kI,kI,kI,kI,kI,kI]
abbrev Ee:List Kd:=[kI,kI,kI,kI]
abbrev ptR (p:Pt):List AC:=[I p.x,I p.y,I p.z]
abbrev Af (t:Itm):List AC:=[I t.aP,I t.block,I t.fr.x,I t.fr.y,I t.fr.z,I t.to.x,I t.to.y,I t.to.z,I t.aG,I t.ce.x,I t.ce.y,I t.ce.z,I t.dir,B t.bG,I t.aZ,B t.perRev,I t.side,I t.radius,I t.bH,I t.n,I t.aS,B t.on]
abbrev AB (g:Sgm):List AC:=[I g.to.x,I g.to.y,I g.to.z,I g.len,I g.aU,I g.aZ,I g.aX]
abbrev Av (m:Mrk):List AC:=[I m.at_,I m.aP,I m.aU]
abbrev A8 (c:Pce):List AC:=[I c.at_,I c.aR,I c.s,I c.bC,I c.was.x,I c.was.y,I c.was.z,I c.aT.x,I c.aT.y,I c.aT.z]
abbrev C5 (s:Spk):List AC:=[I s.u,I s.w,I s.r,I s.h]
abbrev Bl (p:Pth):List AC:=[I p.aQ.x,I p.aQ.y,I p.aQ.z, .vC Ah (p.aF.map AB), .vC AL (p.aD.map Av)]
abbrev Bs (x:Axs):List AC:=[I x.step,I x.aS,I x.bD,I x.bE,I x.low,I x.aY,I x.bB,I x.aV,I x.aO, .vC Aa (x.aW.map Aj)]
abbrev Bw (t:Trk):List AC:=[.vC Au (t.aE.map A8),I t.length,I t.aQ,I t.aT.x,I t.aT.y,I t.aT.z]
structure Ax3 where
 (a b c:Axs)
abbrev AG (x:Ax3):List AC:=[I x.a.step,I x.a.aS,I x.a.bD,I x.a.bE,I x.a.low,I x.a.aY,I x.a.bB,I x.a.aV,I x.a.aO, .vC Aa (x.a.aW.map Aj),I x.b.step,I x.b.aS,I x.b.bD,I x.b.bE,I x.b.low,I x.b.aY,I x.b.bB,I x.b.aV,I x.b.aO, .vC Aa (x.b.aW.map Aj),I x.c.step,I x.c.aS,I x.c.bD,I x.c.bE,I x.c.low,I x.c.aY,I x.c.bB,I x.c.aV,I x.c.aO, .vC Aa (x.c.aW.map Aj)]
abbrev pxt (p:Pth) (x:Ax3) (t:Trk) (l:List AC):List AC:=
 I p.aQ.x::I p.aQ.y::I p.aQ.z:: .vC Ah (p.aF.map AB):: .vC kPt (p.aD.map Av)::
 I x.a.step::I x.a.aS::I x.a.bD::I x.a.bE::I x.a.low::I x.a.aY::I x.a.bB::I x.a.aV::I x.a.aO:: .vC Aa (x.a.aW.map Aj)::
 I x.b.step::I x.b.aS::I x.b.bD::I x.b.bE::I x.b.low::I x.b.aY::I x.b.bB::I x.b.aV::I x.b.aO:: .vC Aa (x.b.aW.map Aj)::
 I x.c.step::I x.c.aS::I x.c.bD::I x.c.bE::I x.c.low::I x.c.aY::I x.c.bB::I x.c.aV::I x.c.aO:: .vC Aa (x.c.aW.map Aj)::
 .vC Au (t.aE.map A8)::I t.length::I t.aQ::I t.aT.x::I t.aT.y::I t.aT.z::l
abbrev De (p:Pth) (t:Trk) (l:List AC):List AC:=
 I p.aQ.x::I p.aQ.y::I p.aQ.z:: .vC Ah (p.aF.map AB):: .vC kPt (p.aD.map Av)::
 .vC Au (t.aE.map A8)::I t.length::I t.aQ::I t.aT.x::I t.aT.y::I t.aT.z::l
theorem Zow {a:AC} (h:okC kI a):i64 (Ag a):=by
 unfold okC at h;unfold i64;exact h
abbrev gA (l:List AC) (k:Nat):Int:=Ag (nth .vD l k)
abbrev jA (l:List AC) (k:Nat):AC:= .int .i64 (Ag (nth .vD l k))
abbrev wA (l:List AC) (k:Nat):List (List AC):=BQ (nth .vD l k)
abbrev bA (l:List AC) (k:Nat):Bool:=Dz (nth .vD l k)
abbrev Fn:=List AC->Option (List AC)
abbrev Lp:=List AC->Option (Nat×List AC)
abbrev Rw:=List (List AC)
abbrev ci:CS:= .int .i64
abbrev tf:List CS->TS:= .v false
abbrev td:TS:= .vD
attribute [go_sem] gA jA wA bA az bf
theorem Z0f (r:List AC):AT Ai r=[jA r 0,jA r 1,jA r 2,jA r 3,jA r 4,jA r 5,jA r 6,jA r 7,jA r 8,jA r 9,jA r 10,jA r 11,jA r 12,B (bA r 13),jA r 14,B (bA r 15),jA r 16,jA r 17,jA r 18,jA r 19,jA r 20,B (bA r 21)]:=rfl
theorem Q4s (r:List AC):AT Ah r=[jA r 0,jA r 1,jA r 2,jA r 3,jA r 4,jA r 5,jA r 6]:=rfl
theorem Zmm (r:List AC):AT Au r=[jA r 0,jA r 1,jA r 2,jA r 3,jA r 4,jA r 5,jA r 6,jA r 7,jA r 8,jA r 9]:=rfl
attribute [go_sem] Z0f Q4s Zmm
end Go.Bm
