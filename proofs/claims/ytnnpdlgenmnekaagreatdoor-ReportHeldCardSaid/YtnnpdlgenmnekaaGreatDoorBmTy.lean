/- the abstract machine -/
import Derived.Test.YtnnpdlgenmnekaaGreatDoorBmDraw
import Derived.Orders
import Derived.Test.YtnnpdlgenmnekaaGreatDoorBmFz
import Derived.ProofKit
import Derived.Below
import Derived.OpenShut
import Derived.ChangeSame
import Derived.Deep.Slices
set_option linter.unusedVariables false
set_option linter.unusedSimpArgs false
namespace Go.Bm
open Go.RowKit
section
variable {P:Program} {C:Cfg} {w:World} {R:Type} {Z:Base}
theorem Tb {G D:Operand->TV}:∀(l:List Operand),(∀x∈l,G x=D x)->BT G l=BT D l
 |[],_=>rfl
 |x::l,h=>by simp only[BT];rw[h x (by simp),Tb l λy I=>h y (by grind)]
theorem Qot {G D:Operand->TV}:∀(l:List (Nat×Operand)),(∀p∈l,G p.2=D p.2)->FC G l=FC D l
 |[],_=>rfl
 |x::l,h=>by simp only[FC];rw[h x (by simp),Qot l λy I=>h y (by grind)]
theorem Ze8 {G D:Operand->TV} (o:Option Operand) (h:∀x,o=some x->G x=D x):KA G o=KA D o:=by
 cases o with
 |none=>rfl
 |some x=>simp_all [KA]
theorem Le {G D:Operand->TV} {dst:Option Tmp} {o:Op} (h:∀x∈o.operands,G x=D x) (K:Prim->Option R):opK P C G dst o K=opK P C D dst o K:=by
 cases o<;>simp only[Op.operands]at h<;>simp only[opK]
 case move x=>grind
 case assign x=>grind
 case pick c a b=>grind
 case box t x=>grind
 case build t parts=>rw[Qot parts.toList λp L=>h p.2 (by grind)]
 case buildSlice t n parts=>rw[Qot parts.toList λp L=>h p.2 (by grind)]
 case makeSlice t a b=>grind
 case makeFunc T a b=>
  rw[Tb a.toList λx I=>h x (by grind),Tb b.toList λx I=>h x (by grind)]
 case load t a=>grind
 case store t a x=>grind
 case nilCheck x=>grind
 case binOp op t x y _=>grind
 case unOp op t x=>grind
 case convert s d x=>grind
 case fieldAddr t x i=>grind
 case field t x i=>grind
 case indexAddr t x M=>grind
 case index t x M=>grind
 case slice t x lo N mx=>
  rw[h x (by simp),Ze8 lo λy O=>h y (by grind),Ze8 N λy O=>h y (by grind)]
 case extract t i=>grind
 case call c=>
  have U:∀t,c.callee= .value (.tmp t)->G (.tmp t)=D (.tmp t):=λt V=>h _ (by grind [Call.operands]);have S:BT G c.args.toList=BT D c.args.toList:=Tb _ λx I=>h x (by grind [Call.operands]);rw[S]
  grind
theorem Q0b {tm:List TV} {d:Nat} {v:TV} {x:Operand} (h:x≠ .tmp d):AL (setL tm d v) x=AL tm x:=by
 cases x with
 |tmp t=>
  have D:d≠t:=λe=>h (by rw[e]);simp_all [AL,B5,IC]
 |_=>rfl
def C0 (tm:List TV) (d:Option Tmp) (v:TV):List TV:=
 match d with
 |none=>tm
 |some t=>setL tm t v
theorem KW (tm:List TV) (bx:List (Nat×Box)) (aC:List (Nat×Row)) (d:Option Tmp) (v:TV):SB ⟨tm,bx,aC⟩ d v=⟨C0 tm d v,bx,aC⟩:=by cases d<;>rfl
theorem OO {tm:List TV} {d e:Option Tmp} (v u:TV) (h:∀t,d=some t->e≠some t):C0 (C0 tm d v) e u=C0 (C0 tm e u) d v:=by
 cases d with
 |none=>rfl
 |some t=>
  cases e with
  |none=>rfl
  |some q=>simp_all [C0,IC,List.set_comm]
def Dk (P:Program) (C:Cfg) (ops:List Oper) (o:Oper) (tm:List TV) (bx:List (Nat×Box)) (aC:List (Nat×Row)):Option (Option Prim×TV×List (Nat×Box)):=
 match BW ops o tm with
 |some true=>(opK P C (AL tm) o.dst o.op some).bind λp=>(Aw (C:=C) o.dst (p.dr false) bx aC).bind λq=>some (some (p.dr false),q.1,q.2)
 |some false=>some (none, .tup [],bx)
 |none=>none
theorem Zqs {d:Option Tmp} {p:Prim} {bx:List (Nat×Box)} {aC:List (Nat×Row)} (h:Prim.isApp (some p)=true):Aw (C:=C) d p bx aC=none:=by
 cases p<;>simp[Prim.isApp]at h
 rfl
theorem Yi4 {d:Option Tmp} {p:Prim} {bx:List (Nat×Box)} {aC:List (Nat×Row)} (h:Prim.isMk (some p)=true):Aw (C:=C) d p bx aC=none:=by
 cases p<;>simp[Prim.isMk]at h<;>rfl
theorem Zkr {ops:List Oper} {o:Oper} {tm:List TV} {bx D:List (Nat×Box)} {aC:List (Nat×Row)} {p:Option Prim} {v:TV} (h:Dk P C ops o tm bx aC=some (p,v,D)):Prim.isMk p=false:=by
 unfold Dk at h;split at h
 ·cases G:opK P C (AL tm) o.dst o.op some with
  |none=>grind
  |some q=>
   rw[G]at h;simp only[am]at h;cases I:Prim.isMk (some (q.dr false))with
   |true=>grind [Yi4]
   |false=>
    cases L:Aw (C:=C) o.dst (q.dr false) bx aC with
    |none=>grind
    |some z=>grind
 ·simp at h;rw[<-h.1];rfl
 grind
theorem Znd {ops:List Oper} {o:Oper} {tm:List TV} {bx D:List (Nat×Box)} {aC:List (Nat×Row)} {p:Option Prim} {v:TV} (h:Dk P C ops o tm bx aC=some (p,v,D)):Prim.isApp p=false:=by
 unfold Dk at h;split at h
 ·cases G:opK P C (AL tm) o.dst o.op some with
  |none=>grind
  |some q=>
   rw[G]at h;simp only[am]at h;cases I:Prim.isApp (some (q.dr false))with
   |true=>grind [Zqs]
   |false=>
    cases L:Aw (C:=C) o.dst (q.dr false) bx aC with
    |none=>grind
    |some z=>grind
 ·simp at h;rw[<-h.1];rfl
 grind
theorem O4 {ops:List Oper} {o:Oper} {tm:List TV} {bx D:List (Nat×Box)} {aC:List (Nat×Row)} {p:Option Prim} {v:TV} (h:Dk P C ops o tm bx aC=some (p,v,D)):
  Cc (P:=P) (C:=C) ops o ⟨tm,bx,aC⟩=some (p,⟨C0 tm o.dst v,D,aC⟩):=by
 have G:=Znd h;have I:=Zkr h;unfold Dk at h;unfold Cc;dsimp only;cases L:BW ops o tm with
 |none=>grind
 |some b=>
  cases b
  ·grind [KW]
  ·rw[L]at h;dsimp only at h⊢;cases M:opK P C (AL tm) o.dst o.op some with
   |none=>grind
   |some q=>
    rw[M]at h;simp only[am]at h⊢;cases N:Aw (C:=C) o.dst (q.dr false) bx aC with
    |none=>grind
    |some z=>simp_all [ET,KW]
theorem M0 {ops:List Oper} {o:Oper} {tm:List TV} {bx:List (Nat×Box)} {aC:List (Nat×Row)} {p:Option Prim} {L:St} (h:Cc (P:=P) (C:=C) ops o ⟨tm,bx,aC⟩=some (p,L)) (N:Prim.isApp p=false) (I:Prim.isMk p=false):
  ∃v D,Dk P C ops o tm bx aC=some (p,v,D)/\L=⟨C0 tm o.dst v,D,aC⟩:=by
 unfold Cc at h;unfold Dk;dsimp only at h;cases M:BW ops o tm with
 |none=>grind
 |some b=>
  cases b
  ·rw[M]at h;simp at h;obtain⟨rfl,rfl⟩:=h;simp[KW]
  ·rw[M]at h;dsimp only at h⊢;cases O:opK P C (AL tm) o.dst o.op some with
   |none=>grind
   |some q=>
    rw[O]at h;simp only[am]at h⊢;cases G:ET (C:=C) o.dst (q.dr false) ⟨tm,bx,aC⟩with
    |none=>grind
    |some z=>
     rw[G]at h;simp at h;obtain⟨rfl,rfl⟩:=h;unfold ET at G;rw[N,I]at G;simp only[aq,bn]at G;obtain⟨y,S,rfl⟩:=G;simp_all [KW]
theorem Qkm {ops:List Oper} {o:Oper} {tm:List TV} {bx:List (Nat×Box)} {aC:List (Nat×Row)} {p:Option Prim} {I:St} (h:Cc (P:=P) (C:=C) ops o ⟨tm,bx,aC⟩=some (p,I)) (L:Prim.isApp p=true):
  BW ops o tm=some true/\∃q id v D,opK P C (AL tm) o.dst o.op some=some q/\p=some (q.dr false)/\Ko o.dst (q.dr false)=some id/\KJ o.dst aC (q.dr false)=some (v,D)/\I=⟨C0 (tm.map (TV.kill id)) o.dst v,bx.map λp=>(p.1,p.2.kill id),D⟩:=by
 unfold Cc at h;dsimp only at h;cases M:BW ops o tm with
 |none=>grind
 |some b=>
  cases b
  ·grind [Prim.isApp]
  ·rw[M]at h;refine⟨rfl,?_⟩;dsimp only at h;cases N:opK P C (AL tm) o.dst o.op some with
   |none=>grind
   |some q=>
    rw[N]at h;simp only[am]at h;cases G:ET (C:=C) o.dst (q.dr false) ⟨tm,bx,aC⟩with
    |none=>grind
    |some z=>
     rw[G]at h;simp at h;obtain⟨rfl,rfl⟩:=h;unfold ET at G;rw[L]at G;simp only[aj]at G;split at G
     ·rename_i id hid;simp only[bn]at G;obtain⟨⟨y1,y2⟩,O,rfl⟩:=G;simp_all [Xo,KW]
     grind
theorem Q6l {ops:List Oper} {o:Oper} {tm:List TV} {bx:List (Nat×Box)} {aC D:List (Nat×Row)} {q:Prim} {id:Nat} {v:TV} (G:BW ops o tm=some true) (I:opK P C (AL tm) o.dst o.op some=some q)
  (L:Ko o.dst (q.dr false)=some id) (M:KJ o.dst aC (q.dr false)=some (v,D)) (N:Prim.isApp (some (q.dr false))=true):
  Cc (P:=P) (C:=C) ops o ⟨tm,bx,aC⟩=some (some (q.dr false),⟨C0 (tm.map (TV.kill id)) o.dst v,bx.map λp=>(p.1,p.2.kill id),D⟩):=by simp_all [Cc,ET,Xo,KW]
theorem Un {ops:List Oper} {o:Oper} {tm:List TV} {bx:List (Nat×Box)} {aC:List (Nat×Row)} {p:Option Prim} {M:St} (h:Cc (P:=P) (C:=C) ops o ⟨tm,bx,aC⟩=some (p,M)) (I:Prim.isMk p=true):
  BW ops o tm=some true/\∃q v D,opK P C (AL tm) o.dst o.op some=some q/\p=some (q.dr false)/\mkD (C:=C) o.dst (q.dr false) aC=some (v,D)/\M=⟨C0 tm o.dst v,bx,D⟩:=by
 unfold Cc at h;dsimp only at h;cases N:BW ops o tm with
 |none=>grind
 |some b=>
  cases b
  ·grind [Prim.isMk]
  ·rw[N]at h;refine⟨rfl,?_⟩;dsimp only at h;cases O:opK P C (AL tm) o.dst o.op some with
   |none=>grind
   |some q=>
    rw[O]at h;simp only[am]at h;cases G:ET (C:=C) o.dst (q.dr false) ⟨tm,bx,aC⟩with
    |none=>grind
    |some z=>
     rw[G]at h;simp at h;obtain⟨rfl,rfl⟩:=h;have L:Prim.isApp (some (q.dr false))=false:=by
      generalize q.dr false=S at I⊢;cases S<;>simp[Prim.isMk]at I<;>rfl
     unfold ET at G;rw[L,I]at G;simp only[aq,aj,bn]at G;obtain⟨⟨y1,y2⟩,T,rfl⟩:=G;simp_all [KW]
theorem T1 {ops:List Oper} {o:Oper} {tm:List TV} {bx:List (Nat×Box)} {aC D:List (Nat×Row)} {q:Prim} {v:TV} (M:BW ops o tm=some true) (N:opK P C (AL tm) o.dst o.op some=some q)
  (O:mkD (C:=C) o.dst (q.dr false) aC=some (v,D)) (G:Prim.isMk (some (q.dr false))=true):
  Cc (P:=P) (C:=C) ops o ⟨tm,bx,aC⟩=some (some (q.dr false),⟨C0 tm o.dst v,bx,D⟩):=by
 have I:Prim.isApp (some (q.dr false))=false:=by
  generalize q.dr false=L at G⊢;cases L<;>simp[Prim.isMk]at G<;>rfl
 simp_all [Cc,ET,KW]
theorem Zr7 {id:Nat} {a:AC} (h:a.live=true):a.kill id=a:=by cases a<;>simp[AC.live]at h<;>rfl
theorem Zso {id:Nat} {a:AC} (h:(a.kill id).live=true):a.kill id=a:=by
 cases a<;>simp only[AC.kill]at h⊢<;>try rfl
 all_goals
  grind [AC.live]
theorem R7 {id:Nat}:∀{l:List AC},Ao AC.live l=true->l.map (AC.kill id)=l
 |[],_=>rfl
 |a::l,h=>by
  rw[Ax]at h;simp only[be];rw[Zr7 (h a (by simp)),R7 (Ax.2 λx D=>h x (by grind))]
theorem S2 {id:Nat}:∀{l:List AC},Ao AC.live (l.map (AC.kill id))=true->l.map (AC.kill id)=l
 |[],_=>rfl
 |a::l,h=>by
  rw[Ax]at h;simp only[be]at h⊢;rw[Zso (h _ (by simp)),S2 (Ax.2 λx D=>h x (by grind))]
theorem Vg (id:Nat):∀(tm:List TV) (t:Nat),nth .vD (tm.map (TV.kill id)) t=(nth .vD tm t).kill id
 |[],_=>rfl
 |_::_,0=>rfl
 |_::tm,t+1=>Vg id tm t
theorem RY {id:Nat} {tm:List TV} {x:Operand} {g:Bool} {cs:List AC} (h:AL tm x= .v g cs) (D:Ao AC.live cs=true):AL (tm.map (TV.kill id)) x= .v g cs:=by
 cases x<;>try exact h
 grind [AL,Vg,TV.kill,R7]
theorem Q7 {id:Nat} {tm:List TV} {x:Operand} {g:Bool} {cs:List AC} (h:AL (tm.map (TV.kill id)) x= .v g cs) (G:Ao AC.live cs=true):AL tm x= .v g cs:=by
 cases x<;>try exact h
 simp only[AL]at h⊢;rw[Vg]at h;cases I:nth TV.vD tm (by omega)with
 |vD=>grind [TV.kill]
 |tup ps=>grind [TV.kill]
 |v L D=>grind [TV.kill,S2]
theorem Z3 {q:Prim} (h:Prim.isPtr (some (q.dr false))=true):∃k o,q= .val (.v false [.ptr k o]):=by
 cases q<;>simp only[Prim.dr,Prim.isPtr]at h<;>try (simp at h;done)
 case callM f args=>grind
 grind
theorem Ql6 {q:Prim} (h:Prim.isLive (some (q.dr false))=true):∃g cs,q= .val (.v g cs)/\Ao AC.live cs=true:=by
 cases q<;>simp only[Prim.dr,Prim.isLive]at h<;>try (simp at h;done)
 case callM f args=>grind
 grind
theorem Z5n {a:AC} (h:a.plain=true):a.live=true:=by cases a<;>simp[AC.plain]at h<;>rfl
theorem SZ {l:List AC} (h:Ao AC.plain l=true):Ao AC.live l=true:=by grind [Ax,Z5n]
theorem Yao {id:Nat}:∀{u:TV},(u.kill id).plainB=true->u.kill id=u
 | .vD,_=>rfl
 | .v g cs,h=>by grind [TV.kill,TV.plainB,S2,SZ]
 | .tup ps,h=>by
  simp only[TV.kill,TV.plainB]at h⊢;congr 1;induction ps with
  |nil=>rfl
  |cons p ps D=>
   rw[Ax]at h;simp only[be]at h⊢;rw[S2 (SZ (h (p.1,p.2.map (AC.kill id)) (by simp))),D (Ax.2 λx G=>h x (ij _ G))]
theorem Qe0 {id:Nat}:∀{u:TV},u.plainB=true->u.kill id=u
 | .vD,_=>rfl
 | .v g cs,h=>by grind [TV.kill,TV.plainB,R7,SZ]
 | .tup ps,h=>by
  simp only[TV.kill,TV.plainB]at h⊢;congr 1;induction ps with
  |nil=>rfl
  |cons p ps D=>
   rw[Ax]at h;simp only[be];rw[R7 (SZ (h p (by simp))),D (Ax.2 λx G=>h x (ij _ G))]
theorem Zop {id:Nat} {tm:List TV} {x:Operand} {v:TV} (D:v.plainB=true):AL (tm.map (TV.kill id)) x=v↔AL tm x=v:=by
 cases x<;>try exact Iff.rfl
 grind [AL,Vg,Yao,Qe0]
theorem Zg2 {id:Nat} {tm:List TV}:∀(l:List Operand) {D:List TV},Ao TV.plainB D=true->(BT (AL (tm.map (TV.kill id))) l=D↔BT (AL tm) l=D)
 |[],D,_=>Iff.rfl
 |x::l,[],_=>by simp[BT]
 |x::l,v::D,h=>by
  rw[Ax]at h;simp only[BT,d6];rw[Zop (h v (by simp)),Zg2 l (Ax.2 λy G=>h y (by grind))]
theorem Q27 {q:Prim} (h:Prim.isCallP (some (q.dr false))=true):∃f args,q= .call f args/\Ao TV.plainB args=true:=by
 cases q<;>simp only[Prim.dr,Prim.isCallP]at h<;>try (simp at h;done)
 case callM f args=>grind
 grind
theorem Qwl {g:Int->Int->Int} {k:IntKind} {as:List TV} {f:FuncId}:∀{l:List TV} {a:Int},Fh g k a l some≠some (.call f as)
 |[],a,h=>by grind [Fh]
 |t::l,a,h=>by
  simp only[Fh]at h;split at h
  ·rename_i k' b;cases hb:kEq k k'<;>rw[hb]at h
   ·grind
   ·exact Qwl h
  grind
theorem Z2i {b:Builtin} {D:List TypeId} {args as:List TV} {f:FuncId}:JJ P b D args some≠some (.call f as):=by
 intro h;unfold JJ at h
 repeat' split at h
 all_goals first|(simp at h;done)|skip
 all_goals first|(simp only[cond_eq_ite]at h;grind)|(simp only[cond_eq_ite]at h;repeat' split at h)|skip
 all_goals grind [Qwl]
theorem Z1m {D:Operand->TV} {dst:Option Tmp} {c:Call} {f:FuncId} {args:List TV}:
  opK P C D dst (.call c) some=some (.call f args)↔c.callee= .value (.func f)/\C.pure f=true/\BT D c.args.toList=args:=by
 simp only[opK];split
 ·grind [Z2i]
 ·grind
 ·grind
 grind
theorem Q2s {q:Prim} (h:Prim.isLoad (some (q.dr false))=true):∃g sz key off,q= .load g sz key off:=by
 cases q<;>simp only[Prim.dr,Prim.isLoad]at h<;>try (simp at h;done)
 case callM f args=>grind
 simp
theorem Zkz {D:Operand->TV} {dst:Option Tmp} {t:TypeId} {a:Operand} {g:Bool} {sz key off:Nat} (h:opK P C D dst (.load t a) some=some (.load g sz key off)):D a= .v false [.ptr key off]:=by
 simp only[opK]at h
 grind
theorem Z8e {id:Nat} {g:Bool} {sz off:Nat} {cells:List AC}:Dw g sz (cells.map (AC.kill id)) off=(Dw g sz cells off).map (TV.kill id):=by
 unfold Dw;cases g
 ·simp only[aq,du];cases cells[off]? <;>rfl
 ·simp only[aj,ac];cases Nat.ble (off+sz) cells.length
  ·rfl
  simp[TV.kill,Yep]
theorem Qx2 {id:Nat}:∀(bx:List (Nat×Box)) (k:Nat),Ac (bx.map λp=>(p.1,p.2.kill id)) k=(Ac bx k).map (Box.kill id)
 |[],_=>rfl
 |(j,b)::bx,k=>by
  simp only[be,Ac];cases Nat.beq j k
  ·exact Qx2 bx k
  ·rfl
theorem Z1j {k:Kd} {a b:AC} (h:Qv k a=some b):a.live=true:=by
 cases k<;>cases a<;>simp[Qv]at h<;>rfl
theorem Q98:∀{ks:List Kd} {cs c:List AC},GU ks cs=some c->Ao AC.live cs=true
 |[],[],_,_=>rfl
 |[],_::_,_,h=>by grind [GU]
 |_::_,[],_,h=>by rfl
 |k::ks,a::cs,c,h=>by
  simp only[GU]at h;split at h
  ·rename_i G I;split at h
   ·rename_i c' D;have:=Ax.1 (Q98 D)
    grind [Ax,Z1j]
   grind
  grind
theorem Zev:∀{α:Type} (l v:List α),l.length=v.length->splice l 0 v=v
 |_,[],[],_=>rfl
 |_,[],_::_,h=>by grind
 |_,_::_,[],h=>by grind
 |_,x::l,y::v,h=>by simp only[splice];rw[Zev l v (by grind)]
theorem Zkg {D:Operand->TV} {dst:Option Tmp} {t:TypeId} {parts:Array (Nat×Operand)} {x:Operand} (L:parts.toList=[(0,x)]) {e:TypeId} {ks:List Kd} {l:List (List AC)}
  (h:opK P C D dst (.buildSlice t 1 parts) some=some (.newView e ks l)):∃g cs,D x= .v g cs/\Ao AC.live cs=true:=by
 simp only[opK,L,FC]at h;split at h
 ·split at h
  ·rename_i w z G _ _ _;cases hb:(Nat.beq z.length w&&Nat.beq G.length w&&Nat.ble 1 w&&Nat.ble (1*w) 65536)<;>rw[hb]at h
   ·grind
   ·simp only[aj]at h;simp only[ak,Nat.beq_eq]at hb;obtain⟨⟨⟨N,O⟩,_⟩,_⟩:=hb;cases M:D x with
    |vD=>grind [Gy,TV.cells]
    |tup ps=>grind [Gy,TV.cells]
    |v g cs=>
     refine⟨g,cs,rfl,?_⟩;rw[M]at h;simp only[Gy,TV.cells]at h;cases I:(Nat.beq cs.length w&&Nat.ble (0*w+w) (chunk z 1).length)<;>rw[I]at h
     ·grind
     ·simp only[aj]at h;simp only[ak,Nat.beq_eq]at I;rw[show splice (chunk z 1) (0*w) cs=cs from by simp_all [Zev,chunk]]at h
      grind [HE,Q98]
  grind
 grind
theorem Z2t {l:List (Nat×Operand)} (h:oneP l=true):∃x,l=[(0,x)]:=by
 match l,h with
 |[(0,x)],_=>simp
theorem Zip {q:Prim} (h:Prim.isView (some (q.dr false))=true):∃e ks l,q= .newView e ks l:=by
 cases q<;>simp only[Prim.dr,Prim.isView]at h<;>try (simp at h;done)
 case callM f args=>grind
 simp
theorem Qzx {id:Nat} {tm:List TV} {dst:Option Tmp} {o:Op} {q:Prim} (D:Prim.still o (some (q.dr false))=true):
  opK P C (AL (tm.map (TV.kill id))) dst o some=some q↔opK P C (AL tm) dst o some=some q:=by
 cases o<;>simp[Prim.still]at D
 case call c=>grind [Q27,Z1m,Zg2]
 case build t parts=>
  have key:∀x∈(Op.build t parts).operands,AL (tm.map (TV.kill id)) x=AL tm x:=by
   intro x I;simp only[Op.operands]at I;simp at I;obtain⟨a,N⟩:=I;have:=Ax.1 D.1 (a,x) (by grind);cases x<;>simp[Zgk]at this
   rfl
  rw[Le key]
 case load t a=>
  obtain⟨g,sz,key,off,rfl⟩:=Q2s D;have O:Ao AC.live [AC.ptr key off]=true:=rfl
  grind [Zkz,Q7,Le,Op.operands,RY]
 case buildSlice t n parts=>
  obtain⟨⟨rfl,S⟩,T⟩:=D;obtain⟨x,I⟩:=Z2t S;obtain⟨e,ks,l,rfl⟩:=Zip T;have U:∀y∈(Op.buildSlice t 1 parts).operands,y=x:=by
   intro y L;simp only[Op.operands]at L;simp at L;obtain⟨a,N⟩:=L;have:(a,y)∈parts.toList:=by simpa using N
   rw[I]at this;simp at this;exact this.2
  grind [Zkg,Q7,Le,RY]
 case move x=>
  obtain⟨g,cs,rfl,D⟩:=Ql6 D;simp only[opK,an,Prim.val.injEq]
  grind [Q7,RY]
 case nilCheck x=>
  obtain⟨k,o,rfl⟩:=Z3 D;have O:Ao AC.live [AC.ptr k o]=true:=rfl;have key:∀G:Operand->TV,opK P C G dst (.nilCheck x) some=some (.val (.v false [.ptr k o]))↔G x= .v false [.ptr k o]:=by
   intro G;simp only[opK];split
   ·grind
   ·grind
   ·grind
   ·grind
  grind [Q7,RY]
 case fieldAddr t x i=>
  obtain⟨k,o,rfl⟩:=Z3 D;have key:∀G:Operand->TV,opK P C G dst (.fieldAddr t x i) some=some (.val (.v false [.ptr k o]))->∃k' M,G x= .v false [.ptr k' M]:=by
   intro G h;simp only[opK]at h
   repeat' grind
   all_goals grind
  constructor
  ·intro h;obtain⟨k',M,e⟩:=key _ h;have e2:=Q7 e rfl
   grind [Le,Op.operands]
  ·intro h;obtain⟨k',M,e⟩:=key _ h;have e2:=RY (id:=id) e rfl
   grind [Le,Op.operands]
theorem Q3b {id:Nat} {tm:List TV} {d:Option Tmp} {v:TV}:(C0 tm d v).map (TV.kill id)=C0 (tm.map (TV.kill id)) d (v.kill id):=by
 cases d with
 |none=>rfl
 |some t=>grind [C0,IC,List.map_set]
theorem QY {ops:Array Oper} {o:Oper} {tm:List TV} {d:Option Tmp} {v:TV} (h:∀t,d=some t->t∉o.looksAt ops):BW ops.toList o (C0 tm d v)=BW ops.toList o tm:=by
 cases d with
 |none=>rfl
 |some t=>
  have M:=h t rfl;unfold BW;cases N:o.guard with
  |none=>rfl
  |some G=>
   obtain⟨j,want⟩:=G;dsimp only;cases I:ops.toList[j]? with
   |none=>rfl
   |some D=>
    dsimp only;cases O:D.dst with
    |none=>rfl
    |some q=>
     dsimp only;have L:ops[j]? =some D:=by simpa using I
     simp_all [Oper.looksAt,C0,B5,IC]
theorem T4 {ops:Array Oper} {o:Oper} {tm:List TV} {bx:List (Nat×Box)} {aC:List (Nat×Row)} {d:Option Tmp} {v:TV} (h:∀t,d=some t->t∉o.looksAt ops):
  Dk P C ops.toList o (C0 tm d v) bx aC=Dk P C ops.toList o tm bx aC:=by
 unfold Dk;rw[QY h];cases d with
 |none=>rfl
 |some t=>
  have D:=h t rfl;rw [show opK P C (AL (C0 tm (some t) v)) o.dst o.op some = opK P C (AL tm) o.dst o.op some from Le (λx G => Q0b (by
   rintro rfl;exact D (List.mem_append_left _ (List.mem_filterMap.2 ⟨.tmp t,by grind,rfl⟩)))) some]
theorem K1 {a b:Nat} (h:a≠b):Nat.beq a b=false:=Ka h
theorem V5 {α:Type}:∀(l:List (Nat×α)) (k j:Nat) (x y:α),k≠j->upd (upd l k x) j y=upd (upd l j y) k x
 |[],_,_,_,_,_=>rfl
 |(i,b)::l,k,j,x,y,h=>by
  by_cases D:i=k
  ·simp_all [upd,K1]
  ·by_cases G:i=j
   ·simp_all [upd,K1]
   ·simp only[upd,K1 D,K1 G,aq];rw[V5 l k j x y h]
theorem G_ {a b:Nat} (h:a<b):Nat.blt a b=true:=by simp_all
theorem GR {a b:Nat} (h: ¬a<b):Nat.blt a b=false:=by
 cases hb:Nat.blt a b
 ·rfl
 ·simp at hb;omega
theorem Qbl {α:Type}:∀(l:List (Nat×α)) (k j:Nat) (x y:α),k≠j->ins (ins l k x) j y=ins (ins l j y) k x
 |[],k,j,x,y,h=>by
  by_cases D:j<k
  ·simp only[ins,G_ D,aj,GR (show¬k<j by omega),aq]
  ·simp only[ins,GR D,aq,G_ (show k<j by omega),aj]
 |(i,b)::l,k,j,x,y,h=>by
  by_cases D:k<i<;>by_cases G:j<i
  ·by_cases I:j<k
   ·simp only[ins,G_ D,G_ G,G_ I,GR (show¬k<j by omega),aj,aq]
   ·simp only[ins,G_ D,G_ G,GR I,G_ (show k<j by omega),aj,aq]
  ·simp only[ins,G_ D,GR G,GR (show¬j<k by omega),aj,aq]
  ·simp only[ins,GR D,G_ G,GR (show¬k<j by omega),aj,aq]
  ·simp only[ins,GR D,GR G,aq];rw[Qbl l k j x y h]
theorem SX {α:Type}:∀(l:List (Nat×α)) (k j:Nat) (x y:α),k≠j->upd (ins l k x) j y=ins (upd l j y) k x
 |[],k,j,x,y,h=>by simp_all [ins,upd,K1]
 |(i,b)::l,k,j,x,y,h=>by
  by_cases D:k<i<;>by_cases G:i=j
  ·simp_all [ins,upd,G_,K1]
  ·simp_all [ins,upd,G_,K1]
  ·simp_all [ins,upd,GR]
  ·simp only[ins,upd,GR D,K1 G,aq];rw[SX l k j x y h]
theorem LZ {d:Option Tmp} {f:FuncId} {args:List TV} {bx D:List (Nat×Box)} {aC:List (Nat×Row)} {v:TV} (h:Aw (C:=C) d (.call f args) bx aC=some (v,D)):
  D=bx/\∀(I:Option Tmp) (G:List (Nat×Box)),Aw (C:=C) I (.call f args) G aC=some (v,G):=by
 simp only[Aw]at h⊢;cases L:C.spec f with
 |none=>grind
 |some g=>grind
theorem Qzq {aC D:List (Nat×Row)}:∀{args:List TV},Ao TV.plainB args=true->FH aC args=FH D args:=by
 have L:∀{l:List AC},Ao AC.plain l=true->Er aC l=Er D l:=by
  intro l;induction l with
  |nil=>intro _;rfl
  |cons a l G=>
   intro h;rw[Ax]at h;simp only[Er];rw[G (Ax.2 λx M=>h x (by grind))];have I:=h a (by simp);cases a<;>simp[AC.plain]at I<;>rfl
 intro args;induction args with
 |nil=>intro _;rfl
 |cons a l G=>
  intro h;rw[Ax]at h;simp only[FH];rw[G (Ax.2 λx M=>h x (by grind))];have I:=h a (by simp);have:a.res aC=a.res D:=by
   cases a with
   |vD=>rfl
   |tup ps=>rfl
   |v g cs=>simp only[TV.res];rw[L I]
  grind
theorem Qzs {d:Option Tmp} {f:FuncId} {args:List TV} {bx D:List (Nat×Box)} {aC:List (Nat×Row)} {v:TV} (h:Aw (C:=C) d (.call f args) bx aC=some (v,D)):v.plainB=true:=by
 simp only[Aw]at h
 grind
def Qit (C:Cfg) (id:Nat) (d:Option Tmp) (bx:List (Nat×Box)) (q:Prim):Prop:=
  (∀{v G aC},Aw (C:=C) d (q.dr false) bx aC=some (v,G)->G=bx/\∀D,Aw (C:=C) d (q.dr false) (bx.map λp=>(p.1,p.2.kill id)) D=some (v.kill id,bx.map λp=>(p.1,p.2.kill id)))/\
  ∀{v G aC},Aw (C:=C) d (q.dr false) (bx.map λp=>(p.1,p.2.kill id)) aC=some (v,G)->G=(bx.map λp=>(p.1,p.2.kill id))/\∃u,u.kill id=v/\∀D,Aw (C:=C) d (q.dr false) bx D=some (u,bx)
theorem Q7r {id:Nat} {o:Op} {q:Prim} {d:Option Tmp} {bx:List (Nat×Box)} (G:Prim.still o (some (q.dr false))=true):Qit C id d bx q:=by
 have N:∀g cs,q= .val (.v g cs)->Ao AC.live cs=true->Qit C id d bx q:=by
  rintro g cs rfl L;have e:(TV.v g cs).kill id= .v g cs:=by simp only[TV.kill];rw[R7 L]
  refine⟨fun{v D aC} h=> ?_,fun{v D aC} h=> ?_⟩
  ·simp_all [Prim.dr,Aw]
  ·simp_all [Prim.dr,Aw]
 cases o<;>simp[Prim.still]at G
 case call c=>
  obtain⟨f,args,rfl,O⟩:=Q27 G;refine⟨fun{v D aC} h=> ?_,fun{v D aC} h=> ?_⟩
  ·obtain⟨rfl,M⟩:=LZ h;refine⟨rfl,λI=> ?_⟩;rw[Qe0 (Qzs h)];have:=M d (D.map λp=>(p.1,p.2.kill id));simp only[Prim.dr,Aw]at this⊢
   grind [Qzq]
  ·obtain⟨rfl,M⟩:=LZ h;refine⟨rfl,v,Qe0 (Qzs h),λI=> ?_⟩;have:=M d bx;simp only[Prim.dr,Aw]at this⊢
   grind [Qzq]
 case load t a=>
  obtain⟨g,sz,key,off,rfl⟩:=Q2s G;simp only[Qit,Prim.dr,Aw,Qx2];cases Ac bx key with
  |none=>simp
  |some b=>
   simp only[Option.map_some,Box.kill,Z8e];cases Dw g sz b.cells off with
   |none=>simp
   |some u=>simp
 case move x=>obtain⟨g,cs,rfl,L⟩:=Ql6 G;grind
 case build t parts=>obtain⟨g,cs,rfl,L⟩:=Ql6 G.2;grind
 case buildSlice t n parts=>
  obtain⟨e,ks,l,rfl⟩:=Zip G.2;refine⟨fun{v D aC} h=> ?_,fun{v D aC} h=> ?_⟩
  ·simp only[Prim.dr,Aw,an,df]at h;obtain⟨rfl,rfl⟩:=h;exact⟨rfl,λ_=>rfl⟩
  ·simp only[Prim.dr,Aw,an,df]at h;obtain⟨rfl,rfl⟩:=h;exact⟨rfl,_,rfl,λ_=>rfl⟩
 all_goals
  obtain⟨k,o,rfl⟩:=Z3 G;exact N _ _ rfl rfl
theorem Z9s {d:Option Tmp} {g:Bool} {sz id idx sub:Nat} {bx D:List (Nat×Box)} {aC:List (Nat×Row)} {v:TV} (h:Aw (C:=C) d (.rload g sz id idx sub) bx aC=some (v,D)):
  D=bx/\∀(G:Option Tmp) (b':List (Nat×Box)),Aw (C:=C) G (.rload g sz id idx sub) b' aC=some (v,b'):=by
 simp only[Aw]at h⊢
 repeat' split at h
 all_goals first|(simp at h;done)|skip
 simp at h;obtain⟨rfl,rfl⟩:=h;exact⟨rfl,λ_ _=>rfl⟩
theorem Q6u {n k:Nat}:∀{l:List Nat},k∈QW n l↔k=n\/k∈l
 |[]=>by simp[QW]
 |m::l=>by
  simp only[QW];cases hb:Nat.beq m n
  ·simp only[aq,av,Q6u (l:=l)]
   grind
  simp_all
theorem Q52 {k:Nat}:∀{ns l:List Nat},k∈A6 ns l↔k∈ns\/k∈l
 |[],l=>by simp[A6]
 |n::ns,l=>by
  simp only[A6,Q52 (ns:=ns),Q6u,av]
  grind
theorem UI {α β:Type} {g:α->List β} {x:β}:∀{l:List α},x∈cat g l↔∃a∈l,x∈g a
 |[]=>by simp[cat]
 |a::l=>by simp[cat,UI (l:=l)]
theorem TT {k:Nat}:∀{l:List AC},k∈AC.keys.keysL l->∃o,AC.ptr k o∈l
 |[],h=>by grind [AC.keys.keysL]
 |a::l,h=>by
  cases a
  case ptr j o=>
   simp only[AC.keys.keysL,av]at h;rcases h with rfl|h
   ·simp
   ·obtain⟨D,h'⟩:=TT h;grind
  all_goals
   simp only[AC.keys.keysL]at h;obtain⟨D,h'⟩:=TT h
   grind
theorem Z9g {bx:List (Nat×Box)} {aC:List (Nat×Row)} {args:List TV} (h:∀v∈args,TV.wf bx aC v) {k:Nat} (N:k∈A6 (cat AC.keys (cat TV.cellsOf args)) []):∃b,Ac bx k=some b:=by
 simp only[Q52,List.not_mem_nil,or_false]at N;obtain⟨a,S,D⟩:=UI.1 N;obtain⟨v,T,I⟩:=UI.1 S;have O:=h v T;have G:AC.wf bx aC a:=by
  cases v with
  |vD=>grind [TV.cellsOf]
  |v g cs=>exact O a I
  |tup ps=>
   simp only[TV.cellsOf]at I;obtain⟨p,U,L⟩:=UI.1 I;exact O p U a L
 cases a
 case ptr j o=>simp[AC.keys]at D;subst D;exact G
 case bsl j o=>simp[AC.keys]at D;subst D;exact G
 case clo f fs cs=>
  simp only[AC.keys,bq]at D;rcases D with D|D
  ·obtain⟨o,M⟩:=TT D;exact G.1 _ M
  ·obtain⟨o,M⟩:=TT D;exact G.2 _ M
 all_goals grind [AC.keys]
theorem Zfz {bx D:List (Nat×Box)} {G ri:Nat->Nat}:∀(keys:List Nat) (b:Nat),(∀k∈keys,Ac D k=Ac bx k)->Da D G ri b keys=Da bx G ri b keys
 |[],_,_=>rfl
 |k::keys,b,h=>by
  simp only[Da];rw[h k (by simp),Zfz keys (b+1) λj I=>h j (by grind)]
theorem Za1 {α:Type} {p q:α->Bool}:∀{l:List α},(∀x∈l,p x=q x)->Ao p l=Ao q l
 |[],_=>rfl
 |a::l,h=>by simp only[Ao];rw[h a (by simp),Za1 (l:=l) λx D=>h x (by grind)]
theorem Ma {keys:List Nat}:∀(m:List (Nat×Box)) (l:List (Nat×Box)) (n:Nat),(∀p∈m,n≠nth 0 keys (p.1-base))->Ac (CW keys m l) n=Ac l n
 |[],_,_,_=>rfl
 |(j,c)::m,l,n,h=>by
  simp only[CW];rw[Ma m _ n λp D=>h p (by grind)];simp_all [Dm]
theorem Qh4 {keys:List Nat}:∀(m:List (Nat×Box)) (l:List (Nat×Box)) (n:Nat) (x:Box),(∀p∈m,n≠nth 0 keys (p.1-base))->CW keys m (upd l n x)=upd (CW keys m l) n x
 |[],_,_,_,_=>rfl
 |(j,c)::m,l,n,x,h=>by
  simp only[CW];rw[V5 _ _ _ _ _ (h (j,c) (by simp)),Qh4 m _ n x λp D=>h p (by grind)]
theorem Qc9 {keys:List Nat}:∀(m:List (Nat×Box)) (l:List (Nat×Box)) (n:Nat) (x:Box),(∀p∈m,n≠nth 0 keys (p.1-base))->CW keys m (ins l n x)=ins (CW keys m l) n x
 |[],_,_,_,_=>rfl
 |(j,c)::m,l,n,x,h=>by
  simp only[CW];rw[SX _ _ _ _ _ (h (j,c) (by simp)),Qc9 m _ n x λp D=>h p (by grind)]
theorem U3 {d:Option Tmp} {f:FuncId} {args:List TV} {bx L:List (Nat×Box)} {aC:List (Nat×Row)} {v:TV} (h:Aw (C:=C) d (.callD f args) bx aC=some (v,L)):
  ∃D,L=CW (A6 (cat AC.keys (cat TV.cellsOf args)) []) D bx/\(∀p∈D,nth 0 (A6 (cat AC.keys (cat TV.cellsOf args)) []) (p.1-base)∈A6 (cat AC.keys (cat TV.cellsOf args)) [])/\v.plainB=true/\
   ∀(O:Option Tmp) (G:List (Nat×Box)),(∀k∈A6 (cat AC.keys (cat TV.cellsOf args)) [],Ac G k=Ac bx k)->Aw (C:=C) O (.callD f args) G aC=some (v,CW (A6 (cat AC.keys (cat TV.cellsOf args)) []) D G):=by
 simp only[Aw]at h⊢;generalize A6 (cat AC.keys (cat TV.cellsOf args)) []=keys at h⊢;cases S:C.spec f with
 |none=>grind
 |some g=>
  rw[S]at h;dsimp only at h⊢;split at h
  ·rename_i T;split at h
   ·rename_i V M;split at h
    ·rename_i X D Y;split at h
     ·rename_i N;simp only[an,df]at h;obtain⟨rfl,rfl⟩:=h;have I:=N;simp only[ak]at I;refine⟨D,rfl,λp hp=> ?_,I.2,λO G U=> ?_⟩
      ·grind [T9,Ax,Kh,Gz]
      ·rw[Za1 (q:=λk=>Ao AC.calm (Ev bx k)) (λk hk=>by grind [Ev]),Zfz keys base U,M,aa T]
       grind
     grind
    grind
   grind
  grind
theorem RD {keys:List Nat}:∀(m:List (Nat×Box)) (l:List (Nat×Box)) {n:Nat} {b:Box},Ac l n=some b->∃b',Ac (CW keys m l) n=some b'
 |[],_,_,b,h=>⟨b,h⟩
 |(j,c)::m,l,n,b,h=>by
  simp only[CW];by_cases e:n=nth 0 keys (j-base)
  ·subst e;exact RD m _ (EF _ _ _ _ h)
  ·exact RD m _ (b:=b) (by grind [Dm])
theorem Yd3 {d:Option Tmp} {f:FuncId} {args:List TV} {bx D:List (Nat×Box)} {aC:List (Nat×Row)} {v:TV} (h:Aw (C:=C) d (.callD f args) bx aC=some (v,D)):
  ∀k∈A6 (cat AC.keys (cat TV.cellsOf args)) [],∃b,Ac bx k=some b:=by
 simp only[Aw]at h;generalize A6 (cat AC.keys (cat TV.cellsOf args)) []=keys at h⊢;split at h
 ·split at h
  ·split at h
   ·rename_i L G;intro k I;obtain⟨x,q,_⟩:=(Kh G).1 (pos keys k) (Df I).1;simp_all [Df]
   grind
  grind
 grind
theorem Qxf {α:Type}:∀(l:List (Nat×α)) (k:Nat) (x:α),Ac l k=some x->upd l k x=l
 |[],_,_,_=>rfl
 |(j,b)::l,k,x,h=>by
  simp only[Ac,upd]at h⊢;cases D:Nat.beq j k
  ·rw[D]at h;simp only[aq]at h⊢;rw[Qxf l k x h]
  grind
theorem Q43 {keys:List Nat} {bx:List (Nat×Box)} {rk ri:Nat->Nat}:∀(ks pre:List Nat) (G:List (Nat×Box)),keys=pre++ks->Da bx rk ri (base+pre.length) ks=some G->(∀k∈ks,Ao AC.calm (Ev bx k)=true)->CW keys G bx=bx
 |[],_,G,_,h,_=>by simp[Da]at h;subst h;rfl
 |k::ks,pre,G,M,h,I=>by
  simp only[Da]at h;split at h
  ·rename_i x L;split at h
   ·rename_i l O;simp only[an]at h;subst h;simp only[CW];have N:nth 0 keys (base+pre.length-base)=k:=by
     rw[show base+pre.length-base=pre.length from by omega,B5,M];simp
    have D:=I k (by simp);unfold Ev at D;rw[L]at D;rw[N,RK D,Qxf bx k _ L];exact Q43 (rk:=rk) (ri:=ri) ks (pre++[k]) l (by grind) (by grind) (λj S=>I j (by grind))
   grind
  grind
theorem S5 (D:Ai P C) {d:Option Tmp} {f:FuncId} (G:C.ro f=true) {args:List TV} {bx bx1:List (Nat×Box)} {aC:List (Nat×Row)} {v:TV} (h:Aw (C:=C) d (.callD f args) bx aC=some (v,bx1)):bx1=bx:=by
 simp only[Aw]at h;generalize A6 (cat AC.keys (cat TV.cellsOf args)) []=keys at h;cases L:C.spec f with
 |none=>grind
 |some g=>
  rw[L]at h;dsimp only at h;split at h
  ·rename_i M;simp only[ak]at M;split at h
   ·rename_i N I;split at h
    ·rename_i U O S;split at h
     ·simp only[an,df]at h;have e:=D.2.1 f g L G _ _ _ _ S;simp only[Mem.mk.injEq,iz]at e;rw[<-h.2,e];exact Q43 keys [] N rfl (by simpa using I) (λk T=>Ax.1 M.1.2 k T)
     grind
    grind
   grind
  grind
theorem Zuw (U:Ai P C) {di S:Option Tmp} {pi pj:Prim} {bx bx1 M:List (Nat×Box)} {aC:List (Nat×Row)} {vi vj:TV} (G:Aw (C:=C) di pi bx aC=some (vi,bx1)) (D:Aw (C:=C) S pj bx1 aC=some (vj,M))
  (hm:Prim.meet C.ro (some pi) (some pj)=false) (hd:∀t,di=some t->S≠some t) (a5:Prim.wf bx aC pj):
  ∃a3,Aw (C:=C) S pj bx aC=some (vj,a3)/\Aw (C:=C) di pi a3 aC=some (vi,M):=by
 have a6:∀{a b:Nat},Nat.beq a b=false->a≠b:=λh e=>by simp_all
 cases pi<;>simp only[Aw]at G<;>try (simp at G;done)
 case val v=>simp at G;obtain⟨rfl,rfl⟩:=G;exact⟨M,D,rfl⟩
 case newView e ks l=>simp at G;obtain⟨rfl,rfl⟩:=G;exact⟨M,D,rfl⟩
 case rload g sz id idx sub=>grind [Aw]
 case callD f args=>
  obtain⟨N,rfl,a0,_,hc⟩:=U3 (C:=C) (d:=di) (f:=f) (args:=args) (aC:=aC) (by simpa only[Aw]using G);have I:=hc di bx λ_ _=>rfl;have V:∀k∈A6 (cat AC.keys (cat TV.cellsOf args)) [],∃b,Ac bx k=some b:=Yd3 (C:=C) (d:=di) (f:=f) (v:=vi) (aC:=aC) (by simpa only[Aw]using I);cases pj<;>simp only[Aw]at D<;>try (simp at D;done)
  case val v=>simp at D;obtain⟨rfl,rfl⟩:=D;exact⟨bx,rfl,I⟩
  case newView e ks l=>simp at D;obtain⟨rfl,rfl⟩:=D;exact⟨bx,rfl,I⟩
  case rload g sz id idx sub=>grind [Aw]
  case call f' a7=>
   obtain⟨rfl,b1⟩:=LZ (d:=S) D
   grind
  case load g sz k' o'=>
   cases a9:C.ro f
   case true=>grind [S5,Aw]
   have T:k'∉A6 (cat AC.keys (cat TV.cellsOf args)) []:=λe=>by
    have:=Fe.2 e;simp_all [Prim.meet]
   grind [Ma,Aw]
  case store k' o' L=>
   have T:k'∉A6 (cat AC.keys (cat TV.cellsOf args)) []:=λe=>by grind [Fe,Prim.meet]
   have a1:∀p∈N,k'≠nth 0 (A6 (cat AC.keys (cat TV.cellsOf args)) []) (p.1-base):=λp hp e=>T (by grind);rw[Ma _ _ _ a1]at D;cases h2:Ac bx k' with
   |none=>grind
   |some b'=>
    rw[h2]at D;dsimp only at D;split at D
    ·rename_i X;simp at D;obtain⟨rfl,rfl⟩:=D;refine⟨upd bx k' ⟨b'.ty,splice b'.cells o' L⟩,by simp only[Aw,h2,X,ew],?_⟩
     grind [Dm,Qh4]
    grind
  case new ty L=>
   split at D
   ·rename_i d;split at D
    ·grind
    ·rename_i hn;simp at D;obtain⟨rfl,rfl⟩:=D;have a1:∀p∈N,d≠nth 0 (A6 (cat AC.keys (cat TV.cellsOf args)) []) (p.1-base):=λp hp e=>by
      have a2:∃b,Ac bx d=some b:=V d (by grind);obtain⟨b,hb⟩:=a2;have:∃b',Ac (CW (A6 (cat AC.keys (cat TV.cellsOf args)) []) N bx) d=some b':=RD _ _ hb
      grind
     have a8:d∉A6 (cat AC.keys (cat TV.cellsOf args)) []:=λe=>by
      obtain⟨b,hb⟩:=V d e;obtain⟨b',Y⟩:=RD (keys:=A6 (cat AC.keys (cat TV.cellsOf args)) []) N bx hb
      grind
     grind [Ma,Aw,DR,Qc9]
   grind
  case callD f' a7=>
   simp only[Prim.meet,Bool.not_eq_false',ak]at hm;have e1:=S5 U (d:=di) hm.1 (aC:=aC) I;rw[e1]at D I
   grind [S5,Aw]
 case call f args=>
  obtain⟨rfl,hc⟩:=LZ (d:=di) G
  grind
 case load g sz key off=>
  cases O:Ac bx key with
  |none=>grind
  |some b=>
   rw[O]at G;dsimp only at G;cases h2:Dw g sz b.cells off with
   |none=>grind
   |some v=>
    rw[h2]at G;simp at G;obtain⟨rfl,rfl⟩:=G;refine⟨M,D,?_⟩;have hl:Ac M key=some b:=by
     cases pj<;>simp only[Aw]at D<;>try (simp at D;done)
     case val=>grind
     case newView=>grind
     case rload=>grind
     case callD f args=>
      cases a9:C.ro f
      case true=>
       rw[S5 U (d:=S) a9 (aC:=aC) (args:=args) (v:=vj) (bx1:=M) (by simpa only[Aw]using D)];exact O
      obtain⟨N,rfl,a0,_,_⟩:=U3 (C:=C) (d:=S) (f:=f) (args:=args) (aC:=aC) (by simpa only[Aw]using D);rw[Ma _ _ _ λp hp e=>by
       have:=Fe.2 (a0 p hp);simp_all [Prim.meet]]
      exact O
     case call=>grind
     case load=>grind
     case store k' o' L=>
      split at D
      ·split at D
       ·simp at D;rw[<-D.2,Dm _ _ _ _ (a6 hm)];exact O
       grind
      grind
     case new ty cs=>grind [DR]
    grind [Aw]
 case store key off cs=>
  cases O:Ac bx key with
  |none=>grind
  |some b=>
   rw[O]at G;dsimp only at G;split at G
   ·rename_i hle;simp at G;obtain⟨rfl,rfl⟩:=G;cases pj<;>simp only[Aw]at D<;>try (simp at D;done)
    case val v=>simp_all [Aw]
    case newView e ks l=>simp_all [Aw]
    case rload g sz id idx sub=>
     obtain⟨rfl,hc⟩:=Z9s (C:=C) (d:=S) (by simpa only[Aw]using D);simp_all [Aw]
    case callD f args=>
     obtain⟨N,rfl,a0,_,hc⟩:=U3 (C:=C) (d:=S) (f:=f) (args:=args) (aC:=aC) (by simpa only[Aw]using D);have T:key∉A6 (cat AC.keys (cat TV.cellsOf args)) []:=λe=>by grind [Fe,Prim.meet]
     have a1:∀p∈N,key≠nth 0 (A6 (cat AC.keys (cat TV.cellsOf args)) []) (p.1-base):=λp hp e=>T (by grind);refine⟨_,hc S bx λk b2=>(Dm _ _ _ _ (by grind)).symm,?_⟩;simp only[Aw];rw[Ma _ _ _ a1,O];simp only[hle,ew]
     grind [Qh4]
    case call f args=>
     obtain⟨rfl,hc⟩:=LZ (d:=S) D;simp_all [Aw]
    case load g sz k' o'=>
     have T:=a6 hm;rw[Dm _ _ _ _ (λe=>T e.symm)]at D;refine⟨bx,?_,?_⟩
     ·grind [Aw]
     ·have:M=upd bx key ⟨b.ty,splice b.cells off cs⟩:=by
       repeat' grind
       all_goals grind
      simp_all [Aw]
    case store k' o' L=>
     have T:=a6 hm;rw[Dm _ _ _ _ (λe=>T e.symm)]at D;cases h2:Ac bx k' with
     |none=>grind
     |some b'=>
      rw[h2]at D;dsimp only at D;split at D
      ·rename_i X;simp at D;obtain⟨rfl,rfl⟩:=D;refine⟨upd bx k' ⟨b'.ty,splice b'.cells o' L⟩,by simp_all [Aw],?_⟩;simp only[Aw];rw[Dm _ _ _ _ T,O];simp only[hle,ew]
       grind [V5]
      grind
    case new ty L=>
     split at D
     ·rename_i d;split at D
      ·grind
      ·rename_i hn;simp at D;obtain⟨rfl,rfl⟩:=D;have a8:d≠key:=by
        rintro rfl;rw[EF _ _ _ _ O]at hn;simp at hn
       rw[Dm _ _ _ _ a8]at hn;refine⟨ins bx d ⟨ty,L⟩,by grind [Aw],?_⟩;simp only[Aw];rw[DR _ _ _ _ (λe=>a8 e.symm),O];simp_all [SX]
     grind
   grind
 case new ty cs=>
  cases b0:di with
  |none=>grind
  |some d=>
   rw[b0]at G;dsimp only at G;cases O:Ac bx d with
   |some _=>grind
   |none=>
    rw[O]at G;simp at G;obtain⟨rfl,rfl⟩:=G;have a4:∀bb,Ac bb d=none->Aw (C:=C) (some d) (.new ty cs) bb aC=some (.c (.ptr d 0),ins bb d ⟨ty,cs⟩):=by
     intro bb hb;simp only[Aw,hb]
    cases pj<;>simp only[Aw]at D<;>try (simp at D;done)
    case val v=>simp at D;obtain⟨rfl,rfl⟩:=D;exact⟨bx,rfl,a4 bx O⟩
    case newView e ks l=>simp at D;obtain⟨rfl,rfl⟩:=D;exact⟨bx,rfl,a4 bx O⟩
    case rload g sz id idx sub=>grind [Aw]
    case callD f args=>
     obtain⟨N,rfl,a0,_,hc⟩:=U3 (C:=C) (d:=S) (f:=f) (args:=args) (aC:=aC) (by simpa only[Aw]using D);have T:d∉A6 (cat AC.keys (cat TV.cellsOf args)) []:=λe=>by
      obtain⟨b,hb⟩:=Z9g a5 e
      grind
     grind [DR,Ma,Qc9]
    case call f args=>
     obtain⟨rfl,hc⟩:=LZ (d:=S) D
     grind
    case load g sz k' o'=>
     obtain⟨b',Y⟩:=a5
     grind [DR,Aw]
    case store k' o' L=>
     obtain⟨⟨b',Y⟩,_⟩:=a5;have T:k'≠d:=by rintro rfl;rw[O]at Y;simp at Y
     rw[DR _ _ _ _ T,Y]at D;dsimp only at D;split at D
     ·rename_i X;simp at D;obtain⟨rfl,rfl⟩:=D;refine⟨upd bx k' ⟨b'.ty,splice b'.cells o' L⟩,by simp_all [Aw],?_⟩
      grind [Dm,SX]
     grind
    grind [DR,Aw,Qbl]
end
open Go.RowKit
structure WFst (s : St) : Prop where
 t:∀v∈s.tmps,TV.wf s.aB s.aC v
 b:∀(k:Nat) (b:Box),Ac s.aB k=some b->∀a∈b.cells,AC.wf s.aB s.aC a
section
variable {P:Program} {C:Cfg} {w:World} {R:Type} {Z:Base}
theorem Yfx {d:Option Tmp} {f:FuncId} {args:List TV} {bx D:List (Nat×Box)} {aC:List (Nat×Row)} {v:TV} (h:Aw (C:=C) d (.call f args) bx aC=some (v,D)):TV.wf D aC v:=by
 simp only[Aw]at h;split at h
 ·split at h
  ·split at h
   ·split at h
    ·simp_all [Jl]
    grind
   grind
  grind
 grind
theorem Q9y {bx:List (Nat×Box)} {aC:List (Nat×Row)}:∀(ks:List Kd) (cs:List AC) (j:Nat),∀c∈EA ks cs j,AC.wf bx aC c
 |[],_,_,c,D=>by grind [EA]
 |k::ks,cs,j,c,D=>by
  simp only[EA,av]at D;rcases D with rfl|D
  ·cases k<;>try exact trivial
   generalize nth AC.vD cs j=b;cases b<;>exact trivial
  ·exact Q9y ks cs _ c D
theorem Q70 {α:Type}:∀(l:List (Nat×α)) (k:Nat) (x:α),Ac l k=none->Ac (upd l k x) k=none
 |[],_,_,_=>rfl
 |(j,c)::l,k,x,h=>by
  simp only[Ac]at h;cases hb:Nat.beq j k<;>rw[hb]at h
  ·simp only[upd,hb,aq,Ac];exact Q70 l k x h
  grind
theorem Qx5 {keys:List Nat}:∀(m:List (Nat×Box)) (l:List (Nat×Box)) {n:Nat} {b:Box},Ac (CW keys m l) n=some b->Ac l n=some b\/∃p∈m,p.2=b
 |[],_,_,_,h=> .inl h
 |(j,c)::m,l,n,b,h=>by
  simp only[CW]at h;rcases Qx5 m _ h with h|⟨p,D,e⟩
  ·by_cases e:n=nth 0 keys (j-base)
   ·subst e;cases G:Ac l (nth 0 keys (j-base))with
    |none=>grind [Q70]
    |some y=>simp_all [EF]
   grind [Dm]
  grind
theorem Qyp {d:Option Tmp} {f:FuncId} {args:List TV} {bx I:List (Nat×Box)} {aC:List (Nat×Row)} {v:TV} (h:Aw (C:=C) d (.callD f args) bx aC=some (v,I)):
  ∃D,I=CW (A6 (cat AC.keys (cat TV.cellsOf args)) []) D bx/\True/\v.plainB=true/\∀p∈D,Ao AC.calm p.2.cells=true:=by
 simp only[Aw]at h;generalize A6 (cat AC.keys (cat TV.cellsOf args)) []=keys at h⊢
 repeat' split at h
 all_goals first|(simp at h;done)|skip
 rename_i L D _ G;simp only[an,df]at h;obtain⟨rfl,rfl⟩:=h;simp only[ak]at G;exact⟨D,rfl,trivial,G.2,Ax.1 G.1.2⟩
theorem Yhi {ops:List Oper} {o:Oper} {tm:List TV} {bx O:List (Nat×Box)} {aC:List (Nat×Row)} {p:Option Prim} {v:TV} (N:WFst ⟨tm,bx,aC⟩) (h:Dk P C ops o tm bx aC=some (p,v,O)):
  WFst ⟨tm,O,aC⟩/\TV.wf O aC v/\∀q,p=some q->Prim.wf bx aC q:=by
 unfold Dk at h;split at h
 ·cases U:opK P C (AL tm) o.dst o.op some with
  |none=>grind
  |some q=>
   rw[U]at h;simp only[am]at h;have X:=Z8 (pre:=false) (Qdw (aB:=bx) (aC:=aC) (λx=>Qb3 N.t x) U);clear U;generalize q.dr false=q at h X⊢;cases D:Aw (C:=C) o.dst q bx aC with
   |none=>grind
   |some z=>
    rw[D]at h;simp at h;obtain⟨rfl,rfl,rfl⟩:=h;have L:∀{S:List (Nat×Box)},(∀a,AC.wf bx aC a->AC.wf S aC a)->(∀(k:Nat) (b:Box),Ac S k=some b->∀a∈b.cells,AC.wf bx aC a)->WFst ⟨tm,S,aC⟩:=
     λI hb=>⟨λv V=>TV.wf_mono I (N.t v V),λk b G a D=>I a (hb k b G a D)⟩
    refine⟨?_,?_,λq' e=>by grind⟩;all_goals
     cases q<;>simp only[Aw]at D<;>try (simp at D;done)
    ·grind
    ·grind
    ·rename_i key off cs;split at D
     ·rename_i b hb;split at D
      ·simp at D;subst D;refine L (λa=>AC.wf_mono (λk bo T=>by grind [EF,Dm]) (λk r G=>⟨r,G,rfl,rfl⟩)) ?_;intro k bo G a I;by_cases M:k=key
       ·subst M;rw[EF _ _ _ _ hb]at G;simp at G;subst G;rcases Vc _ _ _ I with I|I
        ·exact N.b k b hb a I
        ·exact X.2 a I
       ·rw[Dm _ _ _ _ M]at G;exact N.b k bo G a I
      grind
     grind
    ·rename_i ty cs;split at D
     ·rename_i d hd;split at D
      ·grind
      ·rename_i Y;simp at D;subst D;refine L (λa=>AC.wf_mono (λk bo T=>⟨bo,by grind [DR]⟩) (λk r G=>⟨r,G,rfl,rfl⟩)) ?_;intro k bo G a I;by_cases M:k=d
       ·subst M;rw[Ep _ _ _ Y]at G;simp at G;subst G;exact X a I
       ·rw[DR _ _ _ _ M]at G;exact N.b k bo G a I
     grind
    ·grind
    ·grind
    ·grind
    ·rename_i f args;obtain⟨z1,z2⟩:=z;obtain⟨a0,rfl,a3,_,a2⟩:=Qyp (C:=C) (d:=o.dst) (f:=f) (args:=args) (aC:=aC) (by simpa only[Aw]using D);refine L (λa=>AC.wf_mono (λk bo T=>RD _ _ T) (λk r G=>⟨r,G,rfl,rfl⟩)) ?_;intro k bo G a I;rcases Qx5 _ _ G with G|⟨p,U,rfl⟩
     ·exact N.b k bo G a I
     grind [Q2t]
    ·simp at D;subst D;exact X
    ·split at D
     ·rename_i b hb;split at D
      ·rename_i v V;simp at D;subst D;exact Rz V (N.b _ b hb)
      grind
     grind
    ·repeat' split at D
     all_goals first|(simp at D;done)|(simp at D;subst D;trivial)
    ·rename_i ty cs;split at D
     ·rename_i d hd;split at D
      ·grind
      ·rename_i Y;simp at D;subst D;exact Cq ⟨_,Ep _ _ _ Y⟩
     grind
    ·split at D
     ·rename_i r hr;split at D
      ·rename_i v V;simp at D;subst D;exact Rz V λa I=>Q9y r.ks _ 0 a I
      grind
     grind
    ·simp at D;subst D;exact Cq trivial
    ·rename_i f args;exact Yfx (d:=o.dst) D
    ·rename_i f args;obtain⟨z1,z2⟩:=z;obtain⟨a0,_,_,a1,_⟩:=Qyp (C:=C) (d:=o.dst) (f:=f) (args:=args) (aC:=aC) (by simpa only[Aw]using D);exact Jl a1
 ·simp at h;obtain⟨rfl,rfl,rfl⟩:=h;exact⟨N,λp U=>by grind,λq e=>by grind⟩
 grind
theorem Qbt {tm:List TV} {bx:List (Nat×Box)} {aC:List (Nat×Row)} {d:Option Tmp} {v:TV} (G:WFst ⟨tm,bx,aC⟩) (I:TV.wf bx aC v):WFst ⟨C0 tm d v,bx,aC⟩:=by
 cases d with
 |none=>exact G
 |some t=>
  refine⟨λu D=> ?_,G.b⟩;simp only[C0,IC]at D;rcases ff D with D|rfl
  ·exact G.t u D
  omega
theorem Zts {id:Nat} {bx:List (Nat×Box)} {k:Nat} {b:Box} (h:Ac (bx.map λp=>(p.1,p.2.kill id)) k=some b):∃b',Ac bx k=some b'/\b=b'.kill id:=by
 have:=Ft (Box.kill id) bx k;rw[this]at h;simp only[bn]at h
 grind
theorem WZ {bx:List (Nat×Box)} {aC D:List (Nat×Row)} {id:Nat} (S:∀j,j≠id->Ac D j=Ac aC j) {a:AC} (h:AC.wf bx aC a):AC.wf (bx.map λp=>(p.1,p.2.kill id)) D (a.kill id):=by
 have hb:∀k b,Ac bx k=some b->∃b',Ac (bx.map λp=>(p.1,p.2.kill id)) k=some b':=λk b T=>⟨b.kill id,by have:=Ft (Box.kill id) bx k;grind⟩;have M:∀c,AC.wfP bx c->AC.wfP (bx.map λp=>(p.1,p.2.kill id)) c:=by
  intro c I;cases c<;>try exact trivial
  obtain⟨b,G⟩:=I;exact hb _ _ G
 cases a<;>try exact trivial
 case ptr k o=>
  obtain⟨b,G⟩:=h;exact hb _ _ G
 case bsl k o=>
  obtain⟨b,G⟩:=h;exact hb _ _ G
 case own j w n=>
  simp only[AC.kill];cases N:Nat.beq j id
  ·obtain⟨r,O,L⟩:=h;exact⟨r,by grind [G5],L⟩
  ·exact trivial
 case rptr j a b=>
  simp only[AC.kill];cases N:Nat.beq j id
  ·obtain⟨r,O,L⟩:=h;exact⟨r,by grind [G5],L⟩
  ·exact trivial
 case vptr cs sub=>exact h
 case clo f fs cs=>exact⟨λc I=>M c (h.1 c I),λc I=>M c (h.2 c I)⟩
theorem Ycy {dst:Option Tmp} {aC D:List (Nat×Row)} {p:Prim} {id:Nat} {v:TV} (I:Ko dst p=some id) (G:KJ dst aC p=some (v,D)):(∀j,j≠id->Ac D j=Ac aC j)/\TV.wf [] D v:=by
 cases p<;>simp[Ko]at I
 rename_i e ks bytes M x;cases M<;>simp at I
 case nilSl=>
  subst I;simp only[KJ,Qo3]at G
  repeat' split at G
  all_goals first|(simp at G;done)|skip
  rename_i N _ _;simp only[an,df]at G;obtain⟨rfl,rfl⟩:=G;refine⟨λj L=>DR _ _ _ _ L,Cq ?_⟩;exact⟨_,Ep _ _ _ N,rfl,rfl⟩
 rename_i id' w n;subst I;simp only[KJ,Qfo]at G
 repeat' split at G
 all_goals first|(simp at G;done)|skip
 rename_i r O _ _;simp only[an,df]at G;obtain⟨rfl,rfl⟩:=G;refine⟨λj L=>Dm _ _ _ _ L,Cq ?_⟩;exact⟨_,EF _ _ _ _ O,rfl,rfl⟩
theorem Q5h {aC D:List (Nat×Row)}:∀{args:List TV},Ao TV.plainB args=true->FH aC args=FH D args
 |[],_=>rfl
 |a::l,h=>by
  simp only[Ao]at h;have I:a.plainB=true/\Ao TV.plainB l=true:=by cases M:a.plainB<;>rw[M]at h<;>simp at h;exact⟨rfl,h⟩
  have e:a.res aC=a.res D:=by
   cases a with
   |vD=>rfl
   |tup ps=>rfl
   |v g cs=>
    simp only[TV.res];have:Er aC cs=Er D cs:=by
     have G:=I.1;simp only[TV.plainB]at G;clear h I;induction cs with
     |nil=>rfl
     |cons c cs N=>
      simp only[Ao]at G;have L:c.plain=true/\Ao AC.plain cs=true:=by cases O:c.plain<;>rw[O]at G<;>simp at G;exact⟨rfl,G⟩
      simp only[Er];rw[N L.2];have:c.res aC=c.res D:=by
       have:=L.1;cases c<;>simp[AC.plain]at this<;>rfl
      grind
    grind
  simp only[FH];rw[e,Q5h I.2]
theorem Ybp {dst:Option Tmp} {aC D:List (Nat×Row)} {p:Prim} {v:TV} (h:mkD (C:=C) dst p aC=some (v,D)):(∀j r,Ac aC j=some r->Ac D j=some r)/\TV.wf [] D v:=by
 unfold mkD at h;cases G:mkG (C:=C) dst p with
 |none=>grind
 |some q=>
  obtain⟨M,o⟩:=q;rw[G]at h;cases o with
  |none=>
   simp only[an,df]at h;obtain⟨rfl,rfl⟩:=h;refine⟨λ_ _ h=>h,?_⟩;unfold mkG at G
   grind [Jl]
  |some L=>
   obtain⟨k,r⟩:=L;dsimp only at h;split at h
   ·grind
   ·rename_i I;simp only[an,df]at h;obtain⟨rfl,rfl⟩:=h;refine⟨λj r' N=>by grind [DR],?_⟩;unfold mkG at G;split at G
    ·split at G
     ·simp only[an,df]at G;obtain⟨rfl,rfl,rfl⟩:=G;exact Cq ⟨_,Ep _ _ _ I,rfl,rfl⟩
     grind
    ·split at G
     ·split at G
      ·split at G
       ·grind
       ·split at G
        ·simp only[an,df]at G;obtain⟨rfl,rfl,rfl⟩:=G;exact Cq ⟨_,Ep _ _ _ I,rfl,rfl⟩
        grind
       grind
      grind
     grind
    grind
theorem Yf9 {ops:List Oper} {o:Oper} {s X:St} {p:Option Prim} (O:WFst s) (h:Cc (P:=P) (C:=C) ops o s=some (p,X)):WFst X:=by
 obtain⟨tm,bx,aC⟩:=s;cases hn:Prim.isApp p
 ·cases S:Prim.isMk p
  case true=>
   obtain⟨_,q,v,D,_,rfl,T,rfl⟩:=Un h S;obtain⟨M,U⟩:=Ybp T;have G:∀a,AC.wf bx aC a->AC.wf bx D a:=λa=>AC.wf_mono (λk b I=>⟨b,I⟩) (λk r I=>⟨r,M k r I,rfl,rfl⟩);exact Qbt ⟨λu L=>TV.wf_mono G (O.t u L),λk b I a hm=>G a (O.b k b I a hm)⟩ (TV.wf_mono (λa G=>AC.wf_mono (aB:=[]) (aC:=D) (λk b I=>by grind [Ac]) (λk r I=>⟨r,I,rfl,rfl⟩) G) U)
  grind [M0,Yhi,Qbt]
 ·obtain⟨_,q,id,v,D,_,rfl,h3,T,rfl⟩:=Qkm h hn;obtain⟨M,U⟩:=Ycy h3 T;refine Qbt ⟨λu L=> ?_,λk b I a G=> ?_⟩ (TV.wf_mono (λa G=>AC.wf_mono (aB:=[]) (aC:=D) (λk b I=>by grind [Ac]) (λk r I=>⟨r,I,rfl,rfl⟩) G) U)
  ·simp only[ba]at L;obtain⟨u,L,rfl⟩:=L;have:=O.t u L;cases u with
   |vD=>trivial
   |v g cs=>
    intro a G;simp only[ba]at G;obtain⟨c,N,rfl⟩:=G;exact WZ M (this c N)
   |tup ps=>
    intro p Y a G;simp only[ba]at Y;obtain⟨q,hq,rfl⟩:=Y;simp only[ba]at G;obtain⟨c,N,rfl⟩:=G;exact WZ M (this q hq c N)
  ·obtain⟨b',V,rfl⟩:=Zts I;simp only[Box.kill,ba]at G;obtain⟨c,N,rfl⟩:=G;exact WZ M (O.b k b' V c N)
theorem Zgu {o:Op} {p:Option Prim} (h:Prim.still o p=true):Prim.isMk p=false:=by
 cases p with
 |none=>rfl
 |some q=>cases q<;>first|rfl|(cases o<;>simp[Prim.still,Prim.isLive,Prim.isPtr,Prim.isCallP,Prim.isLoad,Prim.isView]at h)
theorem Yh5 {d:Option Tmp} {p:Prim} {bx G:List (Nat×Box)} {aC:List (Nat×Row)} {v:TV} (I:Prim.mkStill (some p)=true) (h:Aw (C:=C) d p bx aC=some (v,G)):
  G=bx/\∀D,Aw (C:=C) d p bx D=some (v,bx):=by
 cases p<;>simp[Prim.mkStill]at I
 case val u=>simp_all [Aw]
 case newView e ks l=>simp_all [Aw]
 case load g sz key off=>
  simp only[Aw]at h⊢
  grind
 case call f args=>
  obtain⟨rfl,_⟩:=LZ h;refine⟨rfl,λD=> ?_⟩
  grind [Aw,Q5h]
 case newRow e ks l=>grind [Aw]
 grind [Aw]
theorem Zbg {ops:List Oper} {o:Oper} {tm:List TV} {bx G:List (Nat×Box)} {aC:List (Nat×Row)} {p:Option Prim} {v:TV} (L:Prim.mkStill p=true) (h:Dk P C ops o tm bx aC=some (p,v,G)):
  G=bx/\∀D,Dk P C ops o tm bx D=some (p,v,bx):=by
 unfold Dk at h⊢;split at h
 ·cases I:opK P C (AL tm) o.dst o.op some with
  |none=>grind
  |some q=>
   rw[I]at h;simp only[am]at h⊢;cases M:Aw (C:=C) o.dst (q.dr false) bx aC with
   |none=>grind
   |some z=>grind [Yh5]
 ·grind
 grind
theorem Z7n {M N:Option Tmp} {O S:Prim} {aC G I:List (Nat×Row)} {V X:TV} (L:mkD (C:=C) M O aC=some (V,G)) (Y:mkD (C:=C) N S G=some (X,I)):
  ∃D,mkD (C:=C) N S aC=some (X,D)/\mkD (C:=C) M O D=some (V,I):=by
 unfold mkD at*;cases T:mkG (C:=C) M O with
 |none=>grind
 |some qi=>
  obtain⟨v1,o1⟩:=qi;rw[T]at L;cases U:mkG (C:=C) N S with
  |none=>grind
  |some qj=>
   obtain⟨v2,o2⟩:=qj;rw[U]at Y;cases o1 with
   |none=>grind
   |some k1=>
    obtain⟨k,r⟩:=k1;dsimp only at L;split at L
    ·grind
    rename_i hn;simp only[an,df]at L;obtain⟨rfl,rfl⟩:=L;cases o2 with
    |none=>grind
    |some k2=>grind [Ep,DR,Qbl]
theorem Ya9 (a9:Ai P C) {ops:Array Oper} {x y:Oper} {s s1 s2:St} {px py:Option Prim} (hw:WFst s) (hy:Cc (P:=P) (C:=C) ops.toList y s=some (py,s1)) (hx:Cc (P:=P) (C:=C) ops.toList x s1=some (px,s2))
  (b7:Oper.apart ops y x=true) (hm:Prim.meet C.ro py px=false) (G:It y py x px=true):∃b2,Cc (P:=P) (C:=C) ops.toList x s=some (px,b2)/\Cc (P:=P) (C:=C) ops.toList y b2=some (py,s2):=by
 obtain⟨a1,a2,a3⟩:=Oper.apart_spec b7;obtain⟨tm,bx,aC⟩:=s;have M:∀(o:Oper) (tm:List TV),o.guard.isNone=true->BW ops.toList o tm=some true:=by
  intro o tm h;unfold BW;rw[Option.isNone_iff_eq_none.1 h]
 have O:∀(o:Oper) (tm:List TV) (d:Option Tmp) (v:TV),(∀t,d=some t->t∉o.looksAt ops)->opK P C (AL (C0 tm d v)) o.dst o.op some=opK P C (AL tm) o.dst o.op some:=by
  intro o tm d v h;cases d with
  |none=>rfl
  |some t=>
   exact Le (λx hx => Q0b (by
    rintro rfl;exact h t rfl (List.mem_append_left _ (List.mem_filterMap.2 ⟨.tmp t,by grind,rfl⟩)))) some
 cases S:Prim.isApp py
 case true=>
  unfold It at G;rw[S]at G;simp only[aj,ak]at G;obtain⟨⟨⟨o1,o2⟩,o3⟩,o4⟩:=G;have T:Prim.isApp px=false:=by simpa using o1
  obtain⟨_,q,id,vy,a4,hq,rfl,h3,h4,rfl⟩:=Qkm hy S;obtain⟨vx,a7,D,rfl⟩:=M0 hx T (Zgu o4);unfold Dk at D;rw[M x _ o3]at D;dsimp only at D;rw[O x _ _ _ (λt U=>a1 t U)]at D;cases a5:opK P C (AL (tm.map (TV.kill id))) x.dst x.op some with
  |none=>grind
  |some qx=>
   rw[a5]at D;simp only[am]at D;cases N:Aw (C:=C) x.dst (qx.dr false) (bx.map λp=>(p.1,p.2.kill id)) a4 with
   |none=>grind
   |some zx=>
    rw[N]at D;simp at D;obtain⟨rfl,rfl,rfl⟩:=D;obtain⟨vx,a7⟩:=zx;obtain⟨rfl,u,rfl,b3⟩:=(Q7r (bx:=bx) o4).2 N;have c0:=(Qzx (P:=P) (C:=C) (id:=id) (tm:=tm) (dst:=x.dst) o4).1 a5;refine⟨⟨C0 tm x.dst u,bx,aC⟩,O4 (by grind [Dk]),?_⟩;rw[Q6l (M y _ o2) (by grind) h3 h4 S,Q3b]
    grind [OO]
 case false=>
 cases T:Prim.isApp px
 case true=>
  unfold It at G;rw[S,T]at G;simp only[aj,aq,ak]at G;obtain⟨⟨o2,o3⟩,o4⟩:=G;obtain⟨vy,b0,I,rfl⟩:=M0 hy S (Zgu o4);obtain⟨_,q,id,vx,a4,hq,rfl,h3,h4,rfl⟩:=Qkm hx T;rw[O x _ _ _ (λt U=>a1 t U)]at hq;unfold Dk at I;rw[M y _ o2]at I;dsimp only at I;cases a8:opK P C (AL tm) y.dst y.op some with
  |none=>grind
  |some qy=>
   rw[a8]at I;simp only[am]at I;cases Y:Aw (C:=C) y.dst (qy.dr false) bx aC with
   |none=>grind
   |some zy=>
    rw[Y]at I;simp at I;obtain⟨rfl,rfl,rfl⟩:=I;obtain⟨vy,b0⟩:=zy;obtain⟨rfl,b3⟩:=(Q7r (id:=id) (bx:=bx) o4).1 Y;have b4:=(Qzx (P:=P) (C:=C) (id:=id) (tm:=tm) (dst:=y.dst) o4).2 a8;refine⟨_,Q6l (M x _ o3) hq h3 h4 T,?_⟩;rw[O4 (p:=some (qy.dr false)) (v:=vy.kill id) (by unfold Dk;rw[M y _ o2];dsimp only;rw[O y _ _ _ (λt U=>a3 t U),b4];simp only[am];rw[b3];rfl)]
    grind [Q3b,OO]
 case false=>
   unfold It at G;rw[S,T]at G;simp only[aq]at G;cases V:Prim.isMk py
   case true=>
    rw[V]at G;simp only[aj]at G;obtain⟨b8,qy,vy,b9,c1,rfl,Y,rfl⟩:=Un hy V;cases L:Prim.isMk px
    case true=>
     obtain⟨a0,qx,vx,b1,a6,rfl,N,rfl⟩:=Un hx L;rw[QY (λt U=>a1 t U)]at a0;rw[O x _ _ _ (λt U=>a1 t U)]at a6;obtain⟨b6,m1,m2⟩:=Z7n Y N;refine⟨_,T1 a0 a6 m1 L,?_⟩
     grind [T1,QY,OO]
    case false=>
     obtain⟨vx,a7,D,rfl⟩:=M0 hx T L;rw[T4 (λt U=>a1 t U)]at D;obtain⟨rfl,b5⟩:=Zbg G D;refine⟨_,O4 (b5 aC),?_⟩
     grind [T1,QY,OO]
   case false=>
   rw[V]at G;simp only[aq]at G;cases L:Prim.isMk px
   case true=>
    rw[L]at G;simp only[aj]at G;obtain⟨vy,b0,I,rfl⟩:=M0 hy S V;obtain⟨rfl,b5⟩:=Zbg G I;obtain⟨a0,qx,vx,b1,a6,rfl,N,rfl⟩:=Un hx L;rw[QY (λt U=>a1 t U)]at a0;rw[O x _ _ _ (λt U=>a1 t U)]at a6;refine⟨_,T1 a0 a6 N L,?_⟩
    grind [O4,T4,OO]
   case false=>
   obtain⟨vy,b0,I,rfl⟩:=M0 hy S V;obtain⟨vx,a7,D,rfl⟩:=M0 hx T L;rw[T4 (λt U=>a1 t U)]at D;have key:∃X,Dk P C ops.toList x tm bx aC=some (px,vx,X)/\Dk P C ops.toList y tm X aC=some (py,vy,a7):=by
    unfold Dk at I D⊢;split at I
    ·rename_i b8;cases a8:opK P C (AL tm) y.dst y.op some with
     |none=>grind
     |some qy=>
      rw[a8]at I;simp only[am]at I;cases Y:Aw (C:=C) y.dst (qy.dr false) bx aC with
      |none=>grind
      |some zy=>
       rw[Y]at I;simp at I;obtain⟨rfl,rfl,rfl⟩:=I;split at D
       ·rename_i a0;cases a5:opK P C (AL tm) x.dst x.op some with
        |none=>grind
        |some qx=>
         rw[a5]at D;simp only[am]at D;cases N:Aw (C:=C) x.dst (qx.dr false) zy.2 aC with
         |none=>grind
         |some zx=>
          rw[N]at D;simp at D;obtain⟨rfl,rfl,rfl⟩:=D;obtain⟨X,m1,m2⟩:=Zuw a9 Y N hm a2 (Z8 (Qdw (λx=>Qb3 hw.t x) a5))
          grind
       ·grind
       grind
    ·grind
    ·grind
   obtain⟨X,k1,k2⟩:=key;refine⟨⟨C0 tm x.dst vx,X,aC⟩,O4 k1,?_⟩
   grind [O4,T4,OO]
theorem Qwi (D:Ai P C) {ops:Array Oper} {m:List Nat} {x:Nat×Oper×Option Prim} {post:List (Nat×Oper×Option Prim)} {M:St}:∀(pre:List (Nat×Oper×Option Prim)) (s:St),WFst s->RV P C ops.toList m (pre++x::post) s M->
  (∀y∈pre,Dn ops.toList m x.1=false/\Dn ops.toList m y.1=false/\Oper.apart ops y.2.1 x.2.1=true/\Prim.meet C.ro y.2.2 x.2.2=false/\It y.2.1 y.2.2 x.2.1 x.2.2=true)->
  ∃s1,Ik P C ops.toList m x.1 x.2.1 s=some (x.2.2,s1)/\RV P C ops.toList m (pre++post) s1 M
 |[],s,I,h,_=>by
  obtain⟨i,o,p⟩:=x;exact h
 |(j,O,S)::pre,s,I,h,N=>by
  obtain⟨T,G,U⟩:=h;obtain⟨w1,w2,V,X,Y⟩:=N (j,O,S) (by simp);have a0:=G;unfold Ik at G;rw[ab (by grind)]at G;obtain⟨s2,L,h4⟩:=Qwi D pre T (Yf9 I G) U λy a1=>N y (by grind);unfold Ik at L;rw[ab (by grind)]at L;obtain⟨s1,h5,h6⟩:=Ya9 D I G L V X Y;refine⟨s1,by simp_all [Ik],s2,?_,h4⟩;simp_all [Ik]
inductive Before (ops : List Oper) : Nat -> Nat -> Prop where
 |one {i:Nat} {o:Oper} {e:Edge} (h:ops[i]? =some o) (he:e∈o.after.toList) (hb:Region.binds .any e=true):Before ops i e.on
 |more {i j:Nat} {o:Oper} {e:Edge} (h:ops[i]? =some o) (he:e∈o.after.toList) (hb:Region.binds .any e=true) (h':Before ops e.on j):Before ops i j
theorem Qm8 {m:List Nat} {j:Nat}:∀(l:List Edge) (acc:Nat),Nat.testBit (SR m l acc) j=true->Nat.testBit acc j=true\/∃e∈l,Region.binds .any e=true/\(e.on=j\/Nat.testBit (nth 0 m e.on) j=true)
 |[],acc,h=> .inl h
 |e::l,acc,h=>by
  simp only[SR]at h;cases hb:Region.binds .any e<;>rw[hb]at h
  ·rcases Qm8 l _ h with h|⟨D,he,h'⟩
   ·grind
   grind
  ·rcases Qm8 l _ h with h|⟨D,he,h'⟩
   ·simp only[aj]at h;have:Nat.testBit (acc|||(2^e.on|||nth 0 m e.on)) j=true:=h
    grind
   grind
theorem Zxr {α:Type} (n:Nat) (K:Nat->α):Zd3 n K=K n:=by cases n<;>rfl
theorem Q0l {α:Type} (d:α):∀(l D:List α) (i:Nat),i<l.length->nth d (l++D) i=nth d l i
 |x::l,D,0,_=>rfl
 |x::l,D,i+1,h=>Q0l d l D i (by grind)
theorem Qw6 {α:Type} (d x:α):∀(l:List α),nth d (l++[x]) l.length=x
 |[]=>rfl
 |y::l=>Qw6 d x l
theorem Qox {α:Type} (d:α):∀(l:List α) (i:Nat),l.length<=i->nth d l i=d
 |[],_,_=>rfl
 |x::l,0,h=>by grind
 |x::l,i+1,h=>Qox d l i (by grind)
theorem Q5i {ops:List Oper} {K:List Nat->Option R} {r:R}:∀(l pre:List Oper) (m:List Nat),ops=pre++l->m.length=pre.length->(∀i j,i<m.length->Nat.testBit (nth 0 m i) j=true->Before ops i j)->TG l m K=some r->
  ∃T,K T=some r/\∀i j,LW T i j=true->Before ops i j
 |[],pre,m,he,U,M,h=>⟨m,h,λi j D=>by
   by_cases N:i<m.length
   ·exact M i j N D
   grind [LW,Qox]⟩
 |o::l,pre,m,he,U,M,h=>by
  simp only[TG,Zxr,A3]at h;refine Q5i l (pre++[o]) _ (by grind) (by grind) (λi j N D=> ?_) h;by_cases V:i<m.length
  ·grind [Q0l]
  ·have O:i=m.length:=by simp at N;omega
   subst O;rw[Qw6]at D;have I:ops[m.length]? =some o:=by rw[he,U];simp
   rcases Qm8 _ _ D with G|⟨e,L,hb,G⟩
   ·grind
   ·rcases G with G|G
    ·rw[<-G];exact .one I L hb
    ·by_cases S:e.on<m.length
     ·exact .more I L hb (M _ _ S G)
     grind [Qox]
end
open Go.RowKit
section
variable {P:Program} {C:Cfg} {w:World} {R:Type} {Z:Base}
theorem Z6z (L:Ai P C) {ops:List Oper} {o:Oper} {s D:St} {p:Option Prim} (h:Cc (P:=P) (C:=C) ops o s=some (p,D)) (hs:Prim.simple p=true) (K:Option Prim->St->Option R):
  E_ P C false ops o s K=K p D:=by
 have O:∀s1:St,s1=s->BW ops o s.tmps=some true->(opK P C (AL s1.tmps) o.dst o.op λp=>A5 C o.dst (p.dr false) s1 λv D=>put D o.dst v (K (some (p.dr false))))=K p D:=by
  rintro s1 rfl I;unfold Cc at h;rw[I]at h;dsimp only at h;rw[QX];cases S:opK P C (AL s1.tmps) o.dst o.op some with
  |none=>grind
  |some q=>
   rw[S]at h;simp only[am]at h;cases hm:ET (C:=C) o.dst (q.dr false) s1 with
   |none=>grind
   |some z=>grind [Zbb,Me]
 have M:∀s1:St,s1=s->BW ops o s.tmps=some false->put s1 o.dst (.tup []) (K none)=K p D:=by
  rintro s1 rfl I;unfold Cc at h;rw[I]at h;simp at h;obtain⟨rfl,rfl⟩:=h;rw[Me]
 unfold E_ P_;cases T:o.guard with
 |none=>simp_all [BW]
 |some U=>
  obtain⟨j,want⟩:=U;dsimp only;cases V:ops[j]? with
  |none=>grind [Cc,BW]
  |some X=>
   dsimp only;cases Y:X.dst with
   |none=>grind [Cc,BW]
   |some t=>
    dsimp only;split
    ·rename_i g G;have I:BW ops o s.tmps=some (g==want):=by simp only[BW,T,V,Y,G]
     have N:∀b,g=b->(⟨setL s.tmps t (.c (.bool b)),s.aB,s.aC⟩:St)=s:=by
      rintro b rfl;rw[Zbd G (by simp)]
     cases g
     ·simp only[aq];rw[Fu];dsimp only;cases want
      ·grind
      grind
     ·simp only[aj];rw[Fu];dsimp only;cases want
      ·grind
      grind
    ·simp_all [BW]
    simp_all [BW,Cc]
theorem Rel.wf {s:St} {tmps:Array Value} (h:Rel Z s tmps w):WFst s:=by
 obtain⟨ρ,h⟩:=h;exact⟨h.wt,h.wb⟩
structure Left (P : Program) (C : Cfg) (ops : Array Oper) (m : List Nat) (listed : Array Bool) (rem : List (Nat × Oper × Option Prim)) : Prop where
 sz:listed.size=ops.size
 op:∀x∈rem,ops[x.1]? =some x.2.1/\(Dn ops.toList m x.1||Prim.simple x.2.2)=true/\∀e∈x.2.1.after,Region.binds .any e=true->e.on<x.1
 out:∀i,i<ops.size->(listed.getD i true=false↔∃x∈rem,x.1=i)
 ord:(rem.map (·.1)).Pairwise (· < ·)
 cl:∀j o,ops[j]? =some o->listed.getD j false=true->∀e∈o.after,Region.binds .any e=true->listed.getD e.on false=true
 pr:∀pre x post,rem=pre++x::post->∀y∈pre,Before ops.toList x.1 y.1\/(Dn ops.toList m x.1=false/\Dn ops.toList m y.1=false/\Oper.apart ops y.2.1 x.2.1=true/\Prim.meet C.ro y.2.2 x.2.2=false/\It y.2.1 y.2.2 x.2.1 x.2.2=true)
theorem Q9o (L:Ai P C) (a2:∀t∈C.eqOk,P.stoodInHeld t=false) {ops:Array Oper} {m:List Nat} {Q:Exit->Act->World->Prop} {sf:St} {d0:List Deferred}
  (hq:∀(a:Act) (w:World),Rel Z sf a.tmps w->a.defers=d0->Q .normal a w):
  ∀(fuel:Nat) (listed:Array Bool) (rem:List (Nat×Oper×Option Prim)) (s:St) (a:Act) (w:World),rem.length=fuel->Left P C ops m listed rem->RV P C ops.toList m rem s sf->WFst s->Rel Z s a.tmps w->a.defers=d0->
  wpAny P .any ops Q fuel listed a w
 |0,listed,rem,s,a,w,hl,I,N,a3,hR,hd=>by
  have hr:rem=[]:=fy hl;subst hr;have:s=sf:=N;subst this;refine⟨?_,hq a w hR hd⟩;apply List.eq_nil_iff_forall_not_mem.2;intro i hi;obtain⟨h1,o,h2,_⟩:=mem_ready.1 hi;obtain⟨x,hx,_⟩:=(I.out i (cq.1 h2).1).1 h1
  grind
 |fuel+1,listed,rem,s,a,w,hl,I,N,a3,hR,hd=>by
  refine⟨λc1=> ?_,λi hi=> ?_⟩
  ·exfalso;cases rem with
   |nil=>grind
   |cons x rem=>
    obtain⟨h1,_,h2⟩:=I.op x (by simp);have T:x.1<ops.size:=(cq.1 h1).1;have:x.1∈Region.ready .any ops listed:=by
     refine mem_ready.2 ⟨(I.out x.1 T).2 ⟨x,by simp,rfl⟩,x.2.1,h1,λe he hb=> ?_⟩;have c2:=h2 e he hb;cases hle:listed.getD e.on false with
     |true=>rfl
     |false=>
      have V:e.on<listed.size:=by rw[I.sz];omega
      have:listed.getD e.on true=false:=by
       rw[Array.getD,jb V]at hle⊢;exact hle
      obtain⟨y,D,c5⟩:=(I.out e.on (by omega)).1 this
      grind [I.ord,List.pairwise_cons]
    grind
  ·obtain⟨h1,o,h2,h3⟩:=mem_ready.1 hi;have a4:i<ops.size:=(cq.1 h2).1;obtain⟨x,hx,a8⟩:=(I.out i a4).1 h1;subst a8;obtain⟨a5,a9,c6⟩:=I.op x hx;have b0:o=x.2.1:=by rw[h2]at a5;simpa using a5
   subst b0;obtain⟨pre,post,G⟩:=List.append_of_mem hx;have a6:∀y∈rem,listed.getD y.1 false=false:=by
    intro y D;have T:y.1<ops.size:=(cq.1 (I.op y D).1).1;have:=(I.out y.1 T).2 ⟨y,D,rfl⟩;have V:y.1<listed.size:=by rw[I.sz];exact T
    rw[Array.getD,jb V]at this⊢;exact this
   have X:∀y∈pre,Dn ops.toList m x.1=false/\Dn ops.toList m y.1=false/\Oper.apart ops y.2.1 x.2.1=true/\Prim.meet C.ro y.2.2 x.2.2=false/\It y.2.1 y.2.2 x.2.1 x.2.2=true:=by
    intro y D;rcases I.pr pre x post G y D with hr|hr
    ·exfalso;have c7:=a6 y (by grind);have c3:∀(i j:Nat),Before ops.toList i j->(∀oi,ops[i]? =some oi->∀e∈oi.after,Region.binds .any e=true->listed.getD e.on false=true)->listed.getD j false=true:=by
      intro i j b1;induction b1 with
      |one ho he hb=>grind
      |more ho he hb _ ih=>
       intro b2;have b3:=b2 _ (by simpa using ho) _ (by grind) hb;exact ih λoe b4 e2 b5 b6=>I.cl _ oe b4 b3 e2 b5 b6
     grind
    ·exact hr
   rw[G]at N;obtain⟨s1,Y,a0⟩:=Qwi L pre s a3 N X;have hex:∃b,E_ P C b ops.toList x.2.1 s (λpo s'=>(some (po,s'):Option (Option Prim×St)))=some (x.2.2,s1):=by
    unfold Ik at Y;cases hw:Dn ops.toList m x.1
    ·rw[ab (by grind)]at Y;rw[hw]at a9;exact⟨false,Z6z L Y (by grind) _⟩
    ·grind
   obtain⟨b,hex⟩:=hex;have c8 := Ye (Q := Q) (next := wpAny P .any ops Q fuel (listed.setIfInBounds x.1 true)) L a2 hR hex (λpo s' a' w' hK a7 b7 => by
    simp at hK;obtain⟨rfl,rfl⟩:=hK;refine Q9o L a2 hq fuel _ (pre++post) _ a' w' ?_ ?_ a0 a7.wf a7 (b7.trans hd)
    ·grind
    ·have U:∀y,y∈pre++post->y∈rem:=by
      intro y D;rw[G];simp at D⊢;rcases D with D|D<;>simp[D]
     have b8:∀y∈pre++post,y.1≠x.1:=by
      intro y D;have S:=I.ord;rw[G]at S;simp only[bp,be,List.pairwise_append,List.pairwise_cons]at S;obtain⟨o1,⟨o2,o3⟩,o4⟩:=S;simp at D;rcases D with D|D
      ·have:=o4 y.1 (List.mem_map_of_mem D) x.1 (by simp);omega
      ·grind [List.mem_map_of_mem]
     have hg:∀(j:Nat) (d:Bool),(listed.setIfInBounds x.1 true).getD j d=if j=x.1 then true else listed.getD j d:=by
      intro j d;by_cases hj:j=x.1
      ·simp_all [I.sz]
      ·rw[ab hj];exact getD_set_ne d (λe=>hj e.symm)
     refine⟨by grind [I.sz],λy D=>I.op y (U y D),λj hj=> ?_,?_,?_,?_⟩
     ·rw[hg];constructor
      ·intro hh;split at hh
       ·grind
       ·rename_i c9;obtain⟨y,D,d1⟩:=(I.out j hj).1 hh
        grind
      ·rintro⟨y,D,rfl⟩;rw[ab (b8 y D)];exact(I.out y.1 hj).2 ⟨y,U y D,rfl⟩
     ·grind [I.ord]
     ·intro j oj hj a1 e he hb;rw[hg]at a1⊢;split
      ·rfl
      ·split at a1
       ·grind
       ·exact I.cl j oj hj a1 e he hb
     ·intro c4 z b9 c0 y D
      have:∃O M,rem=O++z::M/\y∈O:=by
       rcases List.append_eq_append_iff.1 c0 with⟨as,e1,e2⟩|⟨bs,e1,e2⟩
       ·
        grind
       ·cases bs with
        |nil=>grind
        |cons b bs=>grind
      obtain⟨O,M,q1,q2⟩:=this;exact I.pr O z M q1 y q2)
   unfold wpOp
   grind
end
open Go.RowKit
section
variable {P:Program} {C:Cfg} {w:World} {R:Type} {Z:Base}
theorem Yfg {c a:Bool} (h:(bif c then a else false)=true):c=true/\a=true:=by grind
theorem Zc0 {ops:Array Oper} {m:List Nat}:∀(ps D:List (Nat×Oper×Option Prim)) (i:Nat),ps.map (·.1)=List.range' i ps.length->J0 C ops m i D (ps.map (·.2))=true->
  ∀pre x post,ps=pre++x::post->(Dn ops.toList m x.1||Prim.simple x.2.2)=true/\(∀e∈x.2.1.after,Region.binds .any e=true->e.on<x.1)/\
   ∀y∈D++pre,LW m x.1 y.1=true\/(Dn ops.toList m x.1=false/\Dn ops.toList m y.1=false/\Oper.apart ops y.2.1 x.2.1=true/\Prim.meet C.ro y.2.2 x.2.2=false/\It y.2.1 y.2.2 x.2.1 x.2.2=true)
 |[],D,i,_,_,pre,x,post,h=>by grind
 |(j,o,p)::ps,D,i,G,I,pre,x,post,h=>by
  simp only[be,bf,List.range'_succ,d6]at G;obtain⟨rfl,G⟩:=G;simp only[be,J0]at I;generalize L:((Dn ops.toList m j||Prim.simple p)&&o.after.toList.all (λe=> !(Region.binds .any e)||Nat.blt e.on j)&&Ao (λy:Nat×Oper×Option Prim=>LW m j y.1||(!(Dn ops.toList m j)&& !(Dn ops.toList m y.1)&&(Oper.apart ops y.2.1 o&& !(Prim.meet C.ro y.2.2 p)&&It y.2.1 y.2.2 o p))) D)=c at I;cases c
  ·grind
  ·simp only[aj]at I;simp only[ak]at L;obtain⟨⟨N,O⟩,S⟩:=L;cases pre with
   |nil=>
    simp at h;obtain⟨rfl,rfl⟩:=h;refine⟨N,λe he hb=> ?_,λy M=> ?_⟩
    ·have:=List.all_eq_true.1 O e (by grind);simp_all
    ·simp at M;have:=Ax.1 S y M
     grind
   |cons q pre=>
    simp at h;obtain⟨rfl,rfl⟩:=h;obtain⟨T,U,V⟩:=Zc0 (pre++x::post) (D++[(j,o,p)]) (j+1) G I pre x post rfl
    grind
theorem Qv1 {ops:Array Oper} {m:List Nat}:∀(l:List (Oper×Option Prim)) (D:List (Nat×Oper×Option Prim)) (i:Nat),J0 C ops m i D l=true->∀(j:Nat) (q:Oper×Option Prim),l[j]? =some q->(Dn ops.toList m (i+j)||Prim.simple q.2)=true
 |[],_,_,_,j,q,G=>by grind
 |(o,p)::l,D,i,h,j,q,G=>by
  simp only[J0]at h;obtain⟨I,h⟩:=Yfg h;simp only[ak]at I;cases j with
  |zero=>grind
  |succ j=>
   rw[show i+(j+1)=i+1+j from by omega];exact Qv1 l _ _ h j q (by grind)
theorem Rel.drew {s:St} {tmps:Array Value} (h:Rel Z s tmps w):Rel Z s tmps {w with drawn:=w.drawn+1}:=by
 obtain⟨ρ,h⟩:=h;have D:∀(a:AC) (x:Value),CC ρ w a x->CC ρ {w with drawn:=w.drawn+1} a x:=λa x G=>CC.mono (w:=w) (w':={w with drawn:=w.drawn+1}) (λ_ h=>h) (λ_ _=>rfl) a x (AC.agree_refl rfl rfl rfl a) G;refine⟨ρ,h.tl,λi v N=>TVR.mono D v _ (h.tv i v N),h.wt,h.wb,?_,h.bi,?_,h.ri,h.br,h.ib,h.fr.drew,h.fs,h.i0,h.i1,h.k0⟩
 ·intro k b O;obtain⟨arr,I,L,M⟩:=h.bx k b O;exact⟨arr,I,L.mono λa _ x G=>D a x G,M⟩
 ·intro id r S;obtain⟨I,L,T,xs,M,U⟩:=h.ro id r S;exact⟨I,L,T,xs,M8 M (λ_ _=>rfl),RowC.mono (w:=w) (λ_ h=>h) (λ_ _=>rfl) U⟩
theorem Zpz (D:Ai P C) (I:∀t∈C.eqOk,P.stoodInHeld t=false) (L:P.follows .mixedOrders=true) {id:Nat} {ops:Array Oper} {draw:Bool} {s:St} {a:Act} (V:Rel Z s a.tmps w) {K:St->Option R} {r:R}
  (h:Qat P C ops draw s K=some r) {Q:Exit->Act->World->Prop} (hq:∀(s':St) (M:Act) (w':World),K s'=some r->Rel Z s' M.tmps w'->M.defers=a.defers->Q .normal M w'):
  (Code.region id ops draw).wp P Q a w:=by
 cases draw
 ·exact wp_region_list (Qou D I _ s a w V h hq)
 ·simp only[Qat,aj]at h;refine wp_region_any L ?_;obtain⟨m,h,hm⟩:=Q5i (ops:=ops.toList) ops.toList [] [] rfl rfl (λi j hi=>by grind) h;rcases Qbx D ops.toList 0 s _ r h with⟨ps,sf,T,X,q3,Y⟩|⟨acc,sf,T,j,q,X,q3⟩
  ·cases N:J0 C ops m 0 [] (ps.map (·.2))<;>rw[N]at Y
   ·grind
   ·simp only[aj]at Y;have hlen:ps.length=ops.size:=by have:=ie List.length T;simpa using this
    have G:ps.map (·.1)=List.range' 0 ps.length:=by rw[X];simp[hlen]
    have a0:=Zc0 ps [] 0 G N;have O:∀(i:Nat) (x:Nat×Oper×Option Prim),ps[i]? =some x->x.1=i/\ops[i]? =some x.2.1:=by
     intro i x U;have h1:(ps.map (·.1))[i]? =some x.1:=by simp[U]
     have h2:(ps.map (·.2.1))[i]? =some x.2.1:=by simp[U]
     rw[G,List.getElem?_range']at h1;rw[T]at h2
     ·grind
     ·grind
    refine Q9o D I (m:=m) (sf:=sf) (d0:=a.defers) (λM w' a1 a2=>hq sf M w' Y a1 a2) ops.size _ ps s a _ hlen ?_ q3 V.wf V.drew rfl;refine⟨by simp,λx U=> ?_,λi hi=> ?_,?_,?_,?_⟩
    ·obtain⟨pre,post,hs⟩:=List.append_of_mem U
     grind
    ·constructor
     ·intro _;have S:i<ps.length:=by omega
      exact⟨ps[i],bh S,(O i ps[i] (ai S)).1⟩
     ·intro _;simp[Array.getD,hi]
    ·grind [List.pairwise_lt_range']
    ·simp[Array.getD]
    ·intro pre x post hs y hy;rcases(a0 pre x post hs).2.2 y (by grind)with h1|h1
     ·grind
     grind
  ·cases N:J0 C ops m 0 [] acc<;>rw[N]at T
   ·grind
   ·have:=Qv1 acc [] 0 N j q X
    grind
def K9:Ex->Exit
 | .normal=> .normal
 | .exit id=> .exit id
 | .ret=> .ret
def Kr (Z:Base) (K:Ex->St->Option R) (r:R) (d:List Deferred):Exit->Act->World->Prop:=
 λe a w=>∃D s,K9 D=e/\K D s=some r/\Rel Z s a.tmps w/\a.defers=d
theorem Zix {step:St->(Ex->St->Option R)->Option R} {body:Code} {K:Ex->St->Option R} {r:R} {d:List Deferred}
  (D:∀(s:St) (a:Act) (w:World) (N:Ex->St->Option R),Rel Z s a.tmps w->a.defers=d->step s N=some r->body.wp P (Kr Z N r d) a w):
  ∀(n:Nat) (s:St) (a:Act) (w:World),Rel Z s a.tmps w->a.defers=d->Ql P C step n s K=some r->Code.rounds P body (Kr Z K r d) n a w
 |0,s,a,w,O,S,h=>by grind [Ql]
 |n+1,s,a,w,O,S,h=>by
  rw[Ql]at h;rw[rounds_succ];refine wp_mono (D s a w _ O S h) ?_;rintro e T w' ⟨U,s2,rfl,L,G,I⟩;cases U with
  |normal=>
   obtain⟨V,X,M⟩:=Mn G L;exact Zix D n V T w' M I X
  |exit id=>exact⟨.exit id,s2,rfl,L,G,I⟩
  |ret=>exact⟨.ret,s2,rfl,L,G,I⟩
def InZ (Z:Base):Prop:=∀k b,Z.K0 k=some b->DO k=true
def KG (P:Program) (c:Code) (sk:Sk) (g:IU):Prop:=
 ∀(Z:Base) (_:InZ Z) (a:Act) (w:World) (vars:List AC) (R:Type) (K:Ex->St->Option R) (r:R),Rel Z (AF sk vars) a.tmps w->g R vars K=some r->c.wp P (Kr Z K r a.defers) a w
structure SubOK (P : Program) (C : Cfg) (c : Code) (blk : Nat) : Prop where
 l:∀p∈AV c blk,∀sk g,C.loops p.1=some (sk,g)->KG P (.loop p.2) sk g
 b:∀p∈Co c,∀sk g,C.blocks p.1=some (sk,g)->KG P (.block p.1 p.2) sk g
 c:∀p∈By c blk,∀sk g,C.conds p.1=some (sk,g)->KG P (.cond (.tmp p.1) p.2.2.1 p.2.2.2) sk g
theorem IX:∀(c:Code) (b b':Nat),AV c b=AV c b'
 | .seq x y,b,b'=>by simp only[AV,IX x b b',IX y b b']
 | .cond _ x y,b,b'=>by simp only[AV,IX x b b',IX y b b']
 | .block _ x,b,b'=>by simp only[AV,IX x b b']
 | .loop x,b,b'=>by simp only[AV,IX x b b']
 | .skip,_,_=>rfl
 | .region _ _ _,_,_=>rfl
 | .exit _,_,_=>rfl
 | .ret,_,_=>rfl
 | .rangeFunc _ _ _ _,_,_=>rfl
 | .scope x,b,b'=>by simp only[AV,IX x b b']
 | .label _,_,_=>rfl
 | .goto _,_,_=>rfl
 | .refuse _,_,_=>rfl
theorem Jv:∀(c:Code) (b b':Nat),By c b=By c b'
 | .seq x y,b,b'=>by simp only[By,Jv x b b',Jv y b b']
 | .cond c x y,b,b'=>by cases c<;>simp only[By,Jv x b b',Jv y b b']
 | .block _ x,b,b'=>by simp only[By,Jv x b b']
 | .loop x,b,b'=>by simp only[By,Jv x b b']
 | .skip,_,_=>rfl
 | .region _ _ _,_,_=>rfl
 | .exit _,_,_=>rfl
 | .ret,_,_=>rfl
 | .rangeFunc _ _ _ _,_,_=>rfl
 | .scope x,b,b'=>by simp only[By,Jv x b b']
 | .label _,_,_=>rfl
 | .goto _,_,_=>rfl
 | .refuse _,_,_=>rfl
theorem SubOK.any {c:Code} (b:Nat) {b':Nat} (h:SubOK P C c b):SubOK P C c b':=
 ⟨λp D=>h.l p (by grind [IX]),h.b,λp D=>h.c p (by grind [Jv])⟩
theorem Qgi {c:Code} {told:Option (Sk×IU)} {s:St} {a:Act} {K:Ex->St->Option R} {r:R} {d:List Deferred} {run:Option R} (I:InZ Z)
  (N:∀sk g,told=some (sk,g)->KG P c sk g) (D:Rel Z s a.tmps w) (O:a.defers=d) (h:KR told s K run=some r) (L:run=some r->c.wp P (Kr Z K r d) a w):c.wp P (Kr Z K r d) a w:=by
 unfold KR at h;split at h
 ·grind
 ·rename_i sk g;obtain⟨G,M⟩:=BC h;split at M
  ·rename_i vars S;obtain⟨ρ,D⟩:=D;obtain⟨tm,aB,aC⟩:=s;subst O;exact N sk g rfl Z I a w vars R K r ⟨ρ,D.rebuild I G S⟩ M
  grind
theorem Ze7 {ρ:Env} {d:Nat} {a:AC} {x:Value} (h:CC ρ w a x):CC ρ w (a.killP d) x:=by
 cases a with
 |ptr k o=>simp only[AC.killP];cases Nat.beq k d<;>first|exact h|exact h.one
 |bsl k o=>simp only[AC.killP];cases Nat.beq k d<;>first|exact h|exact h.one
 |clo f fs cs=>simp only[AC.killP];cases(Ao (Kx d) fs&&Ao (Kx d) cs)<;>first|exact h|exact h.one
 |_=>exact h
theorem Vh {ρ:Env} {f:AC->AC} (hf:∀(a:AC) (x:Value),CC ρ w a x->CC ρ w (f a) x):∀{l:List AC} {xs:List Value},CL (CC ρ w) l xs->CL (CC ρ w) (l.map f) xs
 |[],[],_=>trivial
 |_::_,_::_,h=>⟨hf _ _ h.1,Vh hf h.2⟩
 |[],_::_,h=>h.elim
 |_::_,[],h=>h.elim
theorem Yjo {ρ:Env} {f:AC->AC} (hf:∀(a:AC) (x:Value),CC ρ w a x->CC ρ w (f a) x) {v:TV} {x:Value} (h:TVR ρ w v x):TVR ρ w (v.mapC f) x:=by
 cases v with
 |vD=>trivial
 |tup ps=>
  obtain⟨G,rfl,D⟩:=h;refine⟨G,rfl,?_⟩;generalize G.toList=l at D;induction ps generalizing l with
  |nil=>grind
  |cons p ps I=>
   cases l with
   |nil=>exact D.elim
   |cons y l=>
    obtain⟨g,cs⟩:=p;refine⟨?_,I l D.2⟩;have:=D.1;cases g
    ·grind
    grind [Vh]
 |v g cs=>
  cases g
  ·obtain⟨a,rfl,L⟩:=h;exact⟨_,rfl,hf _ _ L⟩
  ·obtain⟨G,rfl,D⟩:=h;exact⟨G,rfl,Vh hf D⟩
theorem RelE.forget {tm:List TV} {aB:List (Nat×Box)} {aC:List (Nat×Row)} {ρ:Env} {tmps:Array Value} (h:RelE Z tm aB aC ρ tmps w) {d:Nat} (hd:∀b,Z.K0 d≠some b):
  RelE Z (tm.map (TV.mapC (AC.killP d))) ((del d aB).map λp=>(p.1,(⟨p.2.ty,p.2.cells.map (AC.killP d)⟩:Box))) aC ρ tmps w:=by
 have S:∀k,Ac ((del d aB).map λp=>(p.1,(⟨p.2.ty,p.2.cells.map (AC.killP d)⟩:Box))) k=(Ac (del d aB) k).map λb=>⟨b.ty,b.cells.map (AC.killP d)⟩:=λk=>Ft (λb:Box=>(⟨b.ty,b.cells.map (AC.killP d)⟩:Box)) _ k;have G:∀(k:Nat) (b:Box),Ac ((del d aB).map λp=>(p.1,(⟨p.2.ty,p.2.cells.map (AC.killP d)⟩:Box))) k=some b->k≠d/\∃b',Ac aB k=some b'/\b=⟨b'.ty,b'.cells.map (AC.killP d)⟩:=by
  intro k b D;rw[S]at D;simp only[bn]at D;obtain⟨b',h1,rfl⟩:=D;obtain⟨h2,h3⟩:=L6 h1;exact⟨h2,b',h3,rfl⟩
 have M:∀(k:Nat) (b:Box),k≠d->Ac aB k=some b->∃b',Ac ((del d aB).map λp=>(p.1,(⟨p.2.ty,p.2.cells.map (AC.killP d)⟩:Box))) k=some b':=λk b V D=>⟨_,by rw[S,Kj _ _ _ V,D];rfl⟩;have T:∀a,Kx d a=true->AC.wfP aB a->AC.wfP ((del d aB).map λp=>(p.1,(⟨p.2.ty,p.2.cells.map (AC.killP d)⟩:Box))) a:=by
  intro a hn I;cases a<;>try exact trivial
  rename_i k o;obtain⟨b,hb⟩:=I;simp only[Kx,jo]at hn;exact M k b (G5 hn) hb
 have N:∀a,AC.wf aB aC a->AC.wf ((del d aB).map λp=>(p.1,(⟨p.2.ty,p.2.cells.map (AC.killP d)⟩:Box))) aC (a.killP d):=by
  intro a I;cases a with
  |ptr k o=>
   simp only[AC.killP];cases D:Nat.beq k d
   ·obtain⟨b,hb⟩:=I;exact M k b (G5 D) hb
   ·exact trivial
  |bsl k o=>
   simp only[AC.killP];cases D:Nat.beq k d
   ·obtain⟨b,hb⟩:=I;exact M k b (G5 D) hb
   ·exact trivial
  |clo f fs cs=>
   simp only[AC.killP];cases L:(Ao (Kx d) fs&&Ao (Kx d) cs)
   ·exact trivial
   ·simp only[ak]at L;exact⟨λa h'=>T a (Ax.1 L.1 a h') (I.1 a h'),λa h'=>T a (Ax.1 L.2 a h') (I.2 a h')⟩
  |_=>exact I
 refine⟨by grind [h.tl],?_,?_,?_,?_,?_,h.ro,h.ri,?_,?_,h.fr,h.fs,h.i0,h.i1,?_⟩
 ·intro i v hi;simp only[du,bn]at hi;obtain⟨u,X,rfl⟩:=hi;exact Yjo (λ_ _=>Ze7) (h.tv i u X)
 ·intro v hv;simp only[ba]at hv;obtain⟨u,X,rfl⟩:=hv;have:=h.wt u X;cases u with
  |vD=>trivial
  |v g cs=>
   intro a I;simp only[ba]at I;obtain⟨c,L,rfl⟩:=I;exact N c (this c L)
  |tup ps=>
   intro p hp a I;simp only[ba]at hp;obtain⟨q,Y,rfl⟩:=hp;simp only[ba]at I;obtain⟨c,L,rfl⟩:=I;exact N c (this q Y c L)
 ·intro k b D a I;obtain⟨_,b',O,rfl⟩:=G k b D;simp only[ba]at I;obtain⟨c,L,rfl⟩:=I;exact N c (h.wb k b' O c L)
 ·intro k b D;obtain⟨_,b',O,rfl⟩:=G k b D;obtain⟨arr,h1,h2,h3⟩:=h.bx k b' O
  grind [Vh,Ze7]
 ·intro k k' b b' D a0;obtain⟨_,_,U,_⟩:=G k b D;obtain⟨_,_,p2,_⟩:=G k' b' a0;exact h.bi k k' _ _ U p2
 ·intro k b j q D Y;obtain⟨_,_,U,_⟩:=G k b D;exact h.br k _ j q U Y
 ·intro b hb;obtain⟨q1,q2,q3⟩:=h.ib b hb
  grind
 ·intro k b D;obtain⟨U,bo,p2⟩:=h.k0 k b D
  grind
theorem TD (G:InZ Z) {tmps:Array Value} {K:St->Option R} {r:R}:∀(l:List Nat) (s:St),Rel Z s tmps w->R9 l s K=some r->∃L,K L=some r/\Rel Z L tmps w
 |[],s,D,h=>⟨s,h,D⟩
 |d::l,⟨tm,aB,aC⟩,D,h=>by
  simp only[R9]at h;split at h
  ·exact TD G l _ D h
  ·cases I:DO d<;>rw[I]at h
   ·simp only[aq,A3]at h;obtain⟨ρ,D⟩:=D;exact TD G l _ ⟨ρ,D.forget (d:=d) λb hb=>by rw[G d b hb]at I;cases I⟩ h
   grind
theorem FO (D:Ai P C) (U:∀t∈C.eqOk,P.stoodInHeld t=false) (N:P.follows .mixedOrders=true) (hZ:InZ Z) {r:R} {d:List Deferred}:
  ∀(c:Code) (L blk:Nat) (s:St) (a:Act) (w:World) (K:Ex->St->Option R),SubOK P C c blk->Rel Z s a.tmps w->a.defers=d->Bq P C L c blk s K=some r->c.wp P (Kr Z K r d) a w
 | .skip,L,blk,s,a,w,K,I,O,S,h=>wp_skip ⟨.normal,s,rfl,h,O,S⟩
 | .region id ops draw,L,blk,s,a,w,K,I,O,S,h=>by
  rw[Bq]at h;obtain⟨s0,h,O⟩:=TD hZ _ s O h;exact Zpz D U N O h λX a' w' V M T=>⟨.normal,X,rfl,V,M,T.trans S⟩
 | .seq x y,L,blk,s,a,w,K,I,O,S,h=>by
  rw[Bq]at h;refine wp_seq (wp_mono (FO D U N hZ x L blk s a w _ ⟨λp G=>I.l p (by simp[AV,G]),λp G=>I.b p (by simp[Co,G]),λp G=>I.c p (by simp[By,G])⟩ O S h) ?_);rintro e a' w' ⟨ae,X,rfl,V,M,T⟩;cases ae with
  |normal=>exact FO D U N hZ y L blk X a' w' K ⟨λp G=>I.l p (by simp[AV,G]),λp G=>I.b p (by simp[Co,G]),λp G=>I.c p (by simp[By,G])⟩ M T V
  |exit id=>exact⟨.exit id,X,rfl,V,M,T⟩
  |ret=>exact⟨.ret,X,rfl,V,M,T⟩
 | .cond c x y,L,blk,s,a,w,K,I,O,S,h=>by
  have hx:SubOK P C x blk:=⟨λp G=>I.l p (by simp[AV,G]),λp G=>I.b p (by simp[Co,G]),λp G=>I.c p (by cases c<;>simp[By,G])⟩;have hy:SubOK P C y blk:=⟨λp G=>I.l p (by simp[AV,G]),λp G=>I.b p (by simp[Co,G]),λp G=>I.c p (by cases c<;>simp[By,G])⟩;rw[Bq]at h;refine Qgi (c:= .cond c x y) hZ ?_ O S h λY=> ?_
  ·intro sk g ht;unfold UC at ht;split at ht
   ·rename_i t;exact I.c (t,0,x,y) (by simp[By]) sk g ht
   grind
  ·split at Y
   ·rename_i g hg;have hc:a.eval c= .bool g:=by
     obtain⟨ρ,a0⟩:=O;have:=UB a0 c;rw[hg]at this;exact this.bool
    refine wp_cond hc ?_;split at Y
    ·rename_i t;have a1:∀b,g=b->Rel Z ⟨setL s.tmps t (.c (.bool b)),s.aB,s.aC⟩ a.tmps w:=by
      rintro b rfl;obtain⟨ρ,a0⟩:=O;exact⟨ρ,a0.learn t (by have e:a.tmps.getD t undef= .bool g:=hc;grind [TVR.mkBool]) (FG _)⟩
     cases g
     ·simp only[aq]at Y;rw[Fu]at Y;exact FO D U N hZ y L blk _ a w K hy (a1 false rfl) S Y
     ·simp only[aj]at Y;rw[Fu]at Y;exact FO D U N hZ x L blk _ a w K hx (a1 true rfl) S Y
    ·cases g
     ·exact FO D U N hZ y L blk s a w K hy O S Y
     ·exact FO D U N hZ x L blk s a w K hx O S Y
   grind
 | .block id body,L,blk,s,a,w,K,I,O,S,h=>by
  have hb:SubOK P C body id:=SubOK.any blk ⟨λp G=>I.l p (by simp[AV,G]),λp G=>I.b p (by simp[Co,G]),λp G=>I.c p (by simp[By,G])⟩;rw[Bq]at h;refine Qgi (c:= .block id body) hZ (I.b (id,body) (by simp[Co])) O S h λY=> ?_;refine wp_block (wp_mono (FO D U N hZ body L id s a w _ hb O S Y) ?_);rintro e a' w' ⟨ae,X,rfl,V,M,T⟩;cases ae with
  |normal=>exact⟨.normal,X,rfl,V,M,T⟩
  |exit i=>
   simp only[K9,Exit.inBlock];dsimp only at V;cases hb:Nat.beq i id<;>rw[hb]at V
   ·have:i≠id:=λe=>by simp_all
    rw[ab this];exact⟨.exit i,X,rfl,V,M,T⟩
   ·rw[aa (ag hb)];exact⟨.normal,X,rfl,V,M,T⟩
  |ret=>exact⟨.ret,X,rfl,V,M,T⟩
 | .loop body,L,blk,s,a,w,K,I,O,S,h=>by
  rw[Bq]at h;obtain⟨X,h',M⟩:=QE _ s a.tmps O _ r h;obtain⟨s1,h1,a2⟩:=Mn M h';have hb:SubOK P C body blk:=⟨λp G=>I.l p (by simp[AV,G]),λp G=>I.b p (by simp[Co,G]),λp G=>I.c p (by simp[By,G])⟩;refine Qgi (c:= .loop body) hZ (I.l (RZ body,body) (by simp[AV])) a2 S h1 λY=> ?_;exact wp_loop_rounds L (Zix (λs a w K' O S h=>FO D U N hZ body L blk s a w K' hb O S h) L s1 a w a2 S Y)
 | .exit id,L,blk,s,a,w,K,I,O,S,h=>wp_exit ⟨.exit id,s,rfl,h,O,S⟩
 | .ret,L,blk,s,a,w,K,I,O,S,h=>wp_ret ⟨.ret,s,rfl,h,O,S⟩
 | .rangeFunc f ps a3 body,L,blk,s,a,w,K,I,O,S,h=>by grind [Bq]
 | .scope b,L,blk,s,a,w,K,I,O,S,h=>by
  rw[Bq]at h;refine wp_scope_straight (wp_mono (FO D U N hZ b L blk s a w K ⟨λp G=>I.l p (by simp[AV,G]),λp G=>I.b p (by simp[Co,G]),λp G=>I.c p (by simp[By,G])⟩ O S h) ?_);rintro e a' w' ⟨ae,X,rfl,V,M,T⟩;cases ae with
  |normal=>exact⟨.normal,X,rfl,V,M,T⟩
  |exit i=>exact⟨.exit i,X,rfl,V,M,T⟩
  |ret=>exact⟨.ret,X,rfl,V,M,T⟩
 | .label l,L,blk,s,a,w,K,I,O,S,h=>by
  rw[Bq]at h;exact wp_label ⟨.normal,s,rfl,h,O,S⟩
 | .goto l,L,blk,s,a,w,K,I,O,S,h=>by grind [Bq]
 | .refuse a4,L,blk,s,a,w,K,I,O,S,h=>by grind [Bq]
theorem Ygm {e D:Ex} (h:Vz e D=true):e=D:=by
 cases e<;>cases D<;>simp only[Vz]at h<;>first|rfl|simp_all|simp_all
theorem Qoh {s:St} {I:Ex} {tmps:Array Value} (L:InZ Z) (G:Rel Z s tmps w):∀{D:List (Ex×Sk)} {i n:Nat} {o:List AC},Kk D i I s=some (n,o)->
  i<=n/\∃sk,(∀(R:Type) (K:Ex->St->Option R),P7 o K D i n=K I (AF sk o))/\Rel Z (AF sk o) tmps w
 |[],i,n,o,h=>by grind [Kk]
 |(e,sk)::l,i,n,o,h=>by
  simp only[Kk]at h;cases hb:(Vz e I&&sk.okB)<;>rw[hb]at h
  ·simp only[aq]at h;obtain⟨O,M,S,T⟩:=Qoh L G h
   grind [P7,Ka]
  ·simp only[aj]at h;simp only[ak]at hb;split at h
   ·rename_i vars N;simp at h;obtain⟨rfl,rfl⟩:=h;refine⟨bt _,sk,λR K=> ?_,?_⟩
    ·simp only[P7,Nat.beq_refl,aj];rw[Ygm hb.1]
    ·obtain⟨ρ,G⟩:=G;obtain⟨tm,aB,aC⟩:=s;exact⟨ρ,G.rebuild L hb.2 N⟩
   grind
theorem Z4x (I:Ai P C) (Y:∀t∈C.eqOk,P.stoodInHeld t=false) (O:P.follows .mixedOrders=true) {L blk:Nat} {body:Code} {sk:Sk} {D:List (Ex×Sk)} {m:List AC->Option (Nat×List AC)}
  (a0:sk.okB=true) (S:SubOK P C body blk) (hm:∀vars o,m vars=some o->∃n,Ck (AG P C L blk body sk D) n vars=some o):KG P (.loop body) sk (gOf D m):=by
 intro Z hZ a w vars R K r hR h;simp only[gOf,bm]at h;obtain⟨⟨t,o⟩,h1,h2⟩:=h;obtain⟨n,hn⟩:=hm vars _ h1;have key:∀(n:Nat) (vars:List AC) (T:Act) (w':World),Rel Z (AF sk vars) T.tmps w'->T.defers=a.defers->Ck (AG P C L blk body sk D) n vars=some (t,o)->Code.rounds P body (Kr Z K r a.defers) n T w':=by
  intro n;induction n with
  |zero=>grind [Ck]
  |succ n ih=>
   intro vars T w' a1 a3 h;simp only[Ck,bm]at h;obtain⟨⟨t',o'⟩,q1,N⟩:=h;rw[rounds_succ];refine wp_mono (FO I Y O hZ body L blk _ T w' _ S a1 a3 q1) ?_;rintro e a2 w2 ⟨ae,s',rfl,hK,U,V⟩;have G:∀X:Ex,Kk D 1 X s'=some (t',o')->Kr Z K r a.defers (K9 X) a2 w2:=by
    intro X hx;obtain⟨p1,a4,p2,p3⟩:=Qoh hZ U hx;have ht:t'≠0:=by omega
    dsimp only at N;rw[ab ht]at N;simp at N;obtain⟨rfl,rfl⟩:=N;rw[p2 R K]at h2;exact⟨X,_,rfl,h2,p3,V⟩
   cases ae with
   |normal=>
    obtain⟨s3,h3,M⟩:=Mn U hK;split at h3
    ·rename_i vars' hv;simp at h3;obtain⟨rfl,rfl⟩:=h3;simp only[ew]at N;obtain⟨ρ,M⟩:=M;obtain⟨tm,aB,aC⟩:=s3;exact ih _ a2 w2 ⟨ρ,M.rebuild hZ a0 hv⟩ V N
    grind
   |exit i=>exact G _ hK
   |ret=>exact G _ hK
 exact wp_loop_rounds n (key n vars a w hR rfl hn)
end
open Go.RowKit
section
variable {P:Program} {C:Cfg} {w:World} {R:Type} {Z:Base}
theorem RelE.slots {tm G:List TV} {aB:List (Nat×Box)} {aC:List (Nat×Row)} {ρ:Env} {tmps D:Array Value} (h:RelE Z tm aB aC ρ tmps w) (I:G.length=D.size)
  (L:∀(i:Nat) (v:TV),G[i]? =some v->TVR ρ w v (D.getD i undef)) (M:∀v∈G,TV.wf aB aC v):RelE Z G aB aC ρ D w:=
 ⟨I,L,M,h.wb,h.bx,h.bi,h.ro,h.ri,h.br,h.ib,h.fr,h.fs,h.i0,h.i1,h.k0⟩
theorem Q90 {s:St} {a:Act} {ρ:Env} (I:RelE Z s.tmps s.aB s.aC ρ a.tmps w):∀(l:List ResultVar) (ps:List (Bool×List AC)),Lc P s l=some ps->
  ∃ xs : List Value, (l.mapM fun
   | .tmp t=>pure (a.tmps.getD t undef)
   | .cell b t=>do loadVar t (<-asAddr (a.tmps.getD b undef)):Sem (List Value)).run P w= .ok xs w/\TP ρ w ps xs/\∀p∈ps,∀c∈p.2,AC.wf s.aB s.aC c
 |[],ps,h=>by simp[Lc]at h;subst h;exact⟨[],rfl,trivial,by simp⟩
 |rv::l,ps,h=>by
  simp only[Lc]at h;split at h
  ·rename_i g cs D;split at h
   ·rename_i N O;simp at h;subst h;obtain⟨xs,h1,h2,h3⟩:=Q90 I l N O;have key : ∃ x, ((match rv with
      | .tmp t=>pure (a.tmps.getD t undef)
      | .cell b t=>do loadVar t (<-asAddr (a.tmps.getD b undef)):Sem Value)).run P w= .ok x w/\TVR ρ w (.v g cs) x/\TV.wf s.aB s.aC (.v g cs):=by
     cases rv with
     |tmp t=>
      simp only[Qq8]at D;split at D
      ·rename_i g' L S;simp at D;obtain⟨rfl,rfl⟩:=D;have T:t<s.tmps.length:=by
        rcases jj t s.tmps.length with U|V
        ·omega
        ·grind [B5]
       have G:s.tmps[t]? =some (.v g' L):=by
        rw[B5,List.getD]at S;rw[ai T]at S⊢;simpa using S
       exact⟨_,by simp,I.tv t _ G,I.wt _ (bz G)⟩
      grind
     |cell b t=>
      simp only[Qq8]at D;split at D
      ·rename_i key off g' sz hb hg hs;have X:b<s.tmps.length:=by
        rcases jj b s.tmps.length with U|V
        ·omega
        ·grind [B5]
       have G:s.tmps[b]? =some (.c (.ptr key off)):=by
        rw[B5,List.getD]at hb;rw[ai X]at hb⊢;simpa using hb
       have hc:=(I.tv b _ G).c;simp only[CC]at hc;split at D
       ·rename_i bo M;obtain⟨arr,q1,q2,q3⟩:=I.bx key bo M;obtain ⟨x, q4, q5⟩ := VH (b := ρ.bx key) (o := 0) hg hs D q2 (λj y hj => by
         simp only[dh];rw[cell_of_row w _ j arr bo.ty (0,0) q1]
         grind)
        rw[dh]at q4;exact⟨x,by grind [asAddr],q5,Rz D (I.wb key bo M)⟩
       grind
      grind
    obtain⟨x,k1,k2,k3⟩:=key;refine⟨x::xs,?_,?_,?_⟩
    ·simp_all
    ·refine⟨?_,h2⟩;cases g<;>exact k2
    ·intro p Y;simp only[av]at Y;rcases Y with rfl|Y
     ·exact k3
     grind
   grind
  grind
theorem QB:∀(ks:List Kd) (cs:List AC),(DH ks cs).length=cs.length
 |[],[]=>rfl
 |[],_::_=>rfl
 | .sl _::_,[]=>rfl
 | .int _::_,[]=>rfl
 | .bool::_,[]=>rfl
 | .raw::_,[]=>rfl
 | .int _::l,_::cs=>by simp[DH,QB l cs]
 | .bool::l,_::cs=>by simp[DH,QB l cs]
 | .raw::l,_::cs=>by simp[DH,QB l cs]
 | .sl _::l,a::cs=>by cases a<;>simp[DH,QB l cs]
theorem Q0a {ρ:Env}:∀(D:List TypeId) (ps:List (Bool×List AC)) (xs:List Value),TP ρ w ps xs->TP ρ w (HL P D ps) xs
 |[],ps,xs,h=>by grind [HL]
 |_::_,[],xs,h=>by grind [HL]
 |t::D,(g,cs)::ps,[],h=>h.elim
 |t::D,(g,cs)::ps,x::xs,h=>by
  refine⟨?_,Q0a D ps xs h.2⟩;have G:=h.1;cases N:GO P 8 t with
  |none=>exact G
  |some ks=>
   cases g
   ·obtain⟨a,rfl,I⟩:=G;have:=KT ks [a] [x] ⟨I,trivial⟩;have L:=QB ks [a];generalize M:DH ks [a]=l at this L;cases l with
    |nil=>grind
    |cons b l=>
     cases l with
     |nil=>exact⟨b,M,this.1⟩
     |cons=>grind
   grind [KT]
theorem Zco {aB:List (Nat×Box)} {aC:List (Nat×Row)}:∀(G:List TypeId) (ps:List (Bool×List AC)),(∀p∈ps,∀c∈p.2,AC.wf aB aC c)->∀p∈HL P G ps,∀c∈p.2,AC.wf aB aC c
 |[],ps,h=>by simpa [HL]using h
 |_::_,[],h=>by simp[HL]
 |t::G,(g,cs)::ps,h=>by
  intro p D;simp only[HL,av]at D;rcases D with rfl|D
  ·cases I:GO P 8 t with
   |none=>simp_all
   |some ks=>exact NA ks cs (h (g,cs) (by simp))
  ·exact Zco G ps (λq L=>h q (by grind)) p D
theorem Q48 {ρ:Env}:∀{ps:List (Bool×List AC)} {xs:List Value},TP ρ w ps xs->ps.length=xs.length
 |[],[],_=>rfl
 |_::_,_::_,h=>by simp[Q48 h.2]
 |[],_::_,h=>h.elim
 |_::_,[],h=>h.elim
theorem Zyq {ρ:Env} {ps:List (Bool×List AC)} {xs:List Value} (h:TP ρ w ps xs):TVR ρ w (KY ps) (if h:xs.length=1 then xs[0]else .tuple xs.toArray):=by
 have D:=Q48 h
 match ps,xs,h with
 |[],[],_=>exact⟨#[],rfl,trivial⟩
 |[(g,cs)],[x],h=>
  simp only[KY,fa,dite_true,List.getElem_cons_zero];have:=h.1;cases g<;>exact this
 |p::q::ps,x::y::xs,h=>
  have: ¬(x::y::xs).length=1:=by simp
  rw[dif_neg this];exact⟨_,rfl,by omega⟩
theorem Zlc {keys ids:List Nat} {ps:List (Bool×List AC)} (h:Ao (λp:Bool×List AC=>Ao (AC.inK keys ids) p.2) ps=true):TV.inK keys ids (KY ps)=true:=by
 match ps,h with
 |[],h=>exact h
 |[(g,cs)],h=>exact Ax.1 h (g,cs) (by simp)
 |p::q::ps,h=>exact h
theorem Zk7 {aB:List (Nat×Box)} {aC:List (Nat×Row)} {ps:List (Bool×List AC)} (h:∀p∈ps,∀c∈p.2,AC.wf aB aC c):TV.wf aB aC (KY ps):=by
 match ps,h with
 |[],h=>exact h
 |[(g,cs)],h=>exact h (g,cs) (by simp)
 |p::q::ps,h=>exact h
theorem Qra {M:Func} {keys0:List Nat} {s:St} {a:Act} (hR:Rel Z s a.tmps w) (hk0:∀k b,Z.K0 k=some b->k∈keys0) {K:TV->Mem->Option R} {r:R} (h:Mr P C M keys0 s K=some r):
  ∃x ρ' v m,K v m=some r/\(results M a.tmps).run P w= .ok x w/\RelE Z [v] m.aB m.aC ρ' #[x] w/\(C.keepIn=true->a.tmps.getD 0 undef=ρ'.rv base):=by
 unfold Mr at h;split at h
 ·grind
 ·rename_i ps a3;have Y:∃s1,(H3 P C s1 λs1=>match Lc P s1 M.results.toList with
    |none=>none
    |some ps=>match s1 with
     |⟨tm,aB,aC⟩=>
      bif !C.keepIn||Qhz tm then
      AQ (HL P M.resultTypes.toList ps) λps=>
      AQ (Ly aB 4 (A6 (cat (λp:Bool×List AC=>cat AC.keys p.2) ps) keys0)) λkeys=>
      AQ (Og aB (cat (λp:Bool×List AC=>p.2) ps) keys) λids=>
      AQ (aB.filter λp=>AN keys p.1) λD=>
      AQ (aC.filter λp=>AN ids p.1||DO p.1) λN=>
      bif Ao (λp:Bool×List AC=>Ao (AC.inK keys ids) p.2) ps&&Ao (λp:Nat×Box=>Ao (AC.inK keys ids) p.2.cells) D&&Ao (FZ aB) keys0&&Ao (AN keys) keys0 then K (KY ps) (⟨D,N⟩:Mem)else none else none)=some r/\Rel Z s1 a.tmps w:=by
   cases ho:C.ownRes<;>rw[ho]at h
   ·exact UN _ s a.tmps hR _ _ h
   ·exact⟨s,h,hR⟩
  obtain⟨s1,Y,a0⟩:=Y;obtain⟨s2,G,ρ,O⟩:=Mn a0 Y;split at G
  ·grind
  ·rename_i a1 U;obtain⟨xs,q1,q2,q3⟩:=Q90 O _ _ U;obtain⟨tm,aB,aC⟩:=s2;dsimp only at G;obtain⟨I,G⟩:=Zi6 G;have S:C.keepIn=true->a.tmps.getD 0 undef=ρ.rv base:=λhk=>by
    rw[hk]at I;simp only[Bool.not_true,Bool.false_or]at I;unfold Qhz at I;split at I
    ·have e:=ag I;subst e;have:=O.tv 0 _ rfl;obtain⟨y,hy,T⟩:=this;simp only[d6,iz]at hy;subst hy;exact T.1
    grind
   simp only[A3]at G;have a2:=Q0a M.resultTypes.toList _ _ q2 (P:=P);have V:=Zco M.resultTypes.toList _ q3 (P:=P);generalize HL P M.resultTypes.toList a1=L at G a2 V;generalize Ly aB 4 (A6 (cat (λp:Bool×List AC=>cat AC.keys p.2) L) keys0)=keys at G;generalize Og aB (cat (λp:Bool×List AC=>p.2) L) keys=ids at G;obtain⟨T,G⟩:=BC G;simp only[ak]at T;have X:(results M a.tmps).run P w= .ok (if h:xs.length=1 then xs[0]else .tuple xs.toArray) w:=by
    unfold results;rw[Array.mapM_eq_mapM_toList];simp only[Sem.run_bind,Sem.run_map];erw[q1]
    simp only[dm,Sem.run_pure];congr 1
   have a4:TV.inK keys ids (KY L)=true:=Zlc T.1.1.1;have a5:TV.wf aB aC (KY L):=Zk7 V;refine⟨_,ρ,_,_,G,X,?_,S⟩;refine O.filter (by simp) (λi v hi=> ?_) (λv hv=> ?_) (by grind [Ao]) T.1.1.2 (λk b hk=>Ax.1 T.2 k (hk0 k b hk))
   ·cases i with
    |zero=>simp at hi;subst hi;simp_all [Zyq]
    |succ i=>grind
   grind
theorem Ziu (I:Ai P C) (X:∀t∈C.eqOk,P.stoodInHeld t=false) (O:P.follows .mixedOrders=true) (hZ:InZ Z) {L:Nat} {f:FuncId} {args:List TV} {mem:Mem} {K:TV->Mem->Option R} {r:R}
  (S:∀c,FN P f=some c->SubOK P C c 0) (h:EM P C L f args mem K=some r) {ρ:Env} {xs:List Value} (D:RelE Z args mem.aB mem.aC ρ xs.toArray w):
  Calls P f xs.toArray w λe w'=>∃x T v m,e= .returned x/\K v m=some r/\RelE Z [v] m.aB m.aC T #[x] w':=by
 unfold EM at h;split at h
 ·rename_i N Y;split at h
  ·rename_i c hc;obtain⟨_,h⟩:=BC h;simp only[A3]at h;have U:P.funcs[f]? =some N:=by simpa using Y
   have hs:=S c (by grind [FN]);refine calls_of_wp U hc ?_;have hlen:xs.length=args.length:=by simpa using D.tl.symm
   have hR:Rel Z ⟨args++List.replicate (N.ntmps-args.length) TV.vD,mem.aB,mem.aC⟩ (xs.toArray++Array.replicate (N.ntmps-xs.toArray.size) undef) w:=by
    refine⟨ρ,D.slots (by grind) (λi u V=> ?_) (λu M=> ?_)⟩
    ·rw[f7]at V;split at V
     ·rename_i a3;have a0:i<xs.length:=by omega
      have e:(xs.toArray++Array.replicate (N.ntmps-xs.toArray.size) undef).getD i undef=xs.toArray.getD i undef:=by
       simp[ji,i8,a0]
      rw[e];exact D.tv i u V
     ·have:=bz V;rw[fq]at this;rw[this.2];trivial
    ·rw[bq]at M;rcases M with M|M
     ·exact D.wt u M
     ·rw[fq]at M;rw[M.2];trivial
   refine wp_mono (FO I X O hZ c L 0 _ ⟨_,[]⟩ w _ hs hR rfl h) ?_;rintro e a' w' ⟨ae,s,rfl,hK,a1,hd⟩;have hk0:∀k b,Z.K0 k=some b->k∈mem.aB.map (·.1):=by
    intro k b hk;obtain⟨_,bo,a2⟩:=D.k0 k b hk;exact KI.2 ⟨bo,a2⟩
   have G:Mr P C N (mem.aB.map (·.1)) s K=some r->a'.defers=[]/\∃x,(results N a'.tmps).run P w'= .ok x w'/\∃y T v m,Ending.returned x= .returned y/\K v m=some r/\RelE Z [v] m.aB m.aC T #[y] w':=by
    intro hf;obtain⟨x,T,v,m,h0,h1,h2,_⟩:=Qra a1 hk0 hf;exact⟨hd,x,h1,x,T,v,m,rfl,h0,h2⟩
   cases ae with
   |normal=>
    obtain⟨q1,x,q2,q3⟩:=G hK;exact⟨q1,x,q2,q3⟩
   |ret=>
    obtain⟨q1,x,q2,q3⟩:=G hK;exact⟨q1,x,q2,q3⟩
   |exit id=>grind
  grind
 grind
theorem NR {F:Nat->Prop} {ρ:Env} {aB:List (Nat×Box)} {I:Gt F w} (h:Ao (λp:Nat×Box=>DO p.1) aB=true):InZ (D6 F w ρ aB I):=by
 intro k b G;simp only[D6,bn]at G;obtain⟨bo,D,_⟩:=G;exact Ax.1 h (k,bo) (OX D)
theorem Rx {sig osig:Sk} {m:List AC->Option (List AC)} (R:Type) (args:List TV) (mem:Mem) (K:TV->Mem->Option R):Ab sig osig m R args mem K=(Ab sig osig m (TV×Mem) args mem λv m=>some (v,m)).bind λp=>K p.1 p.2:=by
  obtain⟨aB,aC⟩:=mem;simp only[Ab]
  grind
theorem Q8c (I:Ai P C) (V:∀t∈C.eqOk,P.stoodInHeld t=false) (N:P.follows .mixedOrders=true) {L:Nat} {f:FuncId} {sig D:Sk} {m:List AC->Option (List AC)} (h1:sig.okB=true) (h2:D.okB=true)
  (O:∀c,FN P f=some c->SubOK P C c 0) (hm:∀vars o,m vars=some o->Am P C L f sig D vars=some o) {args:List TV} {mem:Mem} {v:TV} {mem':Mem} (h:(Ab sig D m (TV×Mem) args mem λv m=>some (v,m))=some (v,mem')):PCallM P f args mem v mem':=by
  obtain⟨aB,aC⟩:=mem;simp only[Ab]at h;obtain⟨X,h⟩:=BC h;split at h
  ·rename_i vars hv;simp only[bm]at h;obtain⟨o,ho,h⟩:=h;have G:=hm vars o ho;intro F w hG ρ xs Y;have hZ:InZ (D6 F w ρ aB hG):=NR X;have M:=Y.rebuild hZ h1 hv;unfold Am at G;generalize hs:AF sig vars=s1 at G M;obtain⟨a0,U,a1⟩:=s1;dsimp only at G M;refine(Ziu I V N hZ O G M).mono ?_;rintro e w' ⟨x,ρ',v',m',he,S,T⟩;obtain⟨b',r'⟩:=m';dsimp only at S T;have a2:=T.rebuild hZ h2 S
   grind
  grind
theorem Zzq (G:Ai P C) (N:∀t∈C.eqOk,P.stoodInHeld t=false) (I:P.follows .mixedOrders=true) {L:Nat} {f:FuncId} (O:NY P f) {sig D:Sk} {m:List AC->Option (List AC)} (S:sig.okB=true) (T:D.okB=true)
  (M:∀c,FN P f=some c->SubOK P C c 0) (U:∀vars o,m vars=some o->Am P C L f sig D vars=some o):SpecRight P f (Ab sig D m):=
 ⟨Rx,λ_ _ _ _ h=>PCallM.x (Q8c G N I S T M U h) O⟩
end
open Go.RowKit Go.WideShapes Go.ChangeShapes
def Rq (P:Program) (g:TypeId->Option (List Kd)):List Field->Nat->Option (List Kd)
 |[],_=>some []
 |f::fs,o=>match g f.type with
  |some ks=>bif Nat.beq f.offset o&&Nat.beq (P.cellsOf f.type) ks.length then(Rq P g fs (o+ks.length)).map (ks++ ·)else none
  |none=>none
def Im (P:Program):Nat->TypeId->Option (List Kd)
 |0,_=>none
 |n+1,t=>match P.underlying t with
  |some .bool=>some [.bool]
  |some (.int k)=>some [.int k]
  |some (.slice e)=>(Im P n e).bind λks=>bif Nat.beq (P.cellsOf e) ks.length&&Nat.blt 0 ks.length then some [.sl ks]else none
  |some (.struct fs)=>(Rq P (Im P n) fs.toList 0).bind λks=>bif Nat.beq (P.cellsOf t) ks.length then some ks else none
  |some (.array m e)=>(Im P n e).bind λks=>bif Nat.beq (P.cellsOf e) ks.length&&Nat.beq (P.cellsOf t) (m*ks.length)then some (Re ks m)else none
  |_=>none
mutual
def okC:Kd->AC->Prop
 | .int k,a=>k.min<=Ah a/\Ah a<=k.max
 | .bool,_=>True
 | .sl ks,a=>(AX a).length<=maxLen/\∀c∈AX a,okR ks c/\AE ks c=c
 | .raw,_=>True
def okR:List Kd->List AC->Prop
 |[],_=>True
 |_::_,[]=>False
 |k::ks,a::cs=>okC k a/\okR ks cs
end
def Op (w:World) (ks:List Kd) (cs:List Value):Prop:=∃raw,AE ks raw=raw/\CL (CP (λb=>b<w.heap.size) w) raw cs/\okR ks raw
theorem Q91:∀(D G:List Kd) (I L:List AC),I.length=D.length->AE (D++G) (I++L)=AE D I++AE G L
 |[],G,[],L,_=>rfl
 |k::D,G,a::I,L,h=>by
  simp only[ax];rw[Qu4,Qu4,Q91 D G I L (by grind)];rfl
 |[],_,_::_,_,h=>by grind
 |_::_,_,[],_,h=>by grind
theorem Q3m:∀{D I:List Kd} {G L:List AC},G.length=D.length->okR D G->okR I L->okR (D++I) (G++L)
 |[],_,[],_,_,_,h=>h
 |k::D,I,a::G,L,M,h,h'=>by
  simp only[ax,okR]at h⊢;exact⟨h.1,Q3m (by grind) h.2 h'⟩
 |[],_,_::_,_,h,_,_=>by grind
 |_::_,_,[],_,h,_,_=>by grind
theorem Op.append {w:World} {D G:List Kd} {I L:List Value} (h:Op w D I) (h':Op w G L):Op w (D++G) (I++L):=by
 obtain⟨M,a1,a2,a3⟩:=h;obtain⟨N,b1,b2,b3⟩:=h';have O:M.length=D.length:=by rw[<-a1,TY]
 exact⟨M++N,by grind [Q91],a2.append b2,Q3m O a3 b3⟩
theorem Op.nil {w:World}:Op w [] []:=⟨[],rfl,trivial,by simp[okR]⟩
section
variable {H:Type} {enc:TypeId×Value->H} {P:Program} {w:World}
theorem Q74 {g:TypeId->Option (List Kd)} {m:Nat} (M:∀(t:TypeId) (ks:List Kd) (cs:List Value) (x:DataW H×List MemPlace),g t=some ks->DataW.trod enc P w 0 (λ_=>true) true m t cs=some x->Op w ks cs):
  ∀(fs:List Field) (o:Nat) (ks:List Kd) (cs:List Value),Rq P g fs o=some ks->cs.length=o+ks.length->
   (∀f∈fs,∃x,DataW.trod enc P w 0 (λ_=>true) true m f.type ((cs.drop f.offset).take (P.cellsOf f.type))=some x)->Op w ks (cs.drop o)
 |[],o,ks,cs,h,S,_=>by grind [Rq,List.drop_eq_nil_of_le,Op.nil]
 |f::fs,o,ks,cs,h,S,N=>by
  simp only[Rq]at h;split at h
  ·rename_i D I;cases G:(Nat.beq f.offset o&&Nat.beq (P.cellsOf f.type) D.length)<;>rw[G]at h
   ·grind
   ·simp only[aj,bn]at h;obtain⟨T,U,rfl⟩:=h;simp only[ak]at G;have e1:f.offset=o:=ag G.1;have e2:P.cellsOf f.type=D.length:=ag G.2;obtain⟨x,L⟩:=N f (by simp);have O:=M _ _ _ _ I L;rw[e1,e2]at O;have V:=Q74 M fs (o+D.length) T cs U (by grind) (λX Y=>N X (by grind));have:cs.drop o=(cs.drop o).take D.length++cs.drop (o+D.length):=by
     rw[<-jn,i7]
    rw[this];exact O.append V
  grind
theorem Q0j {ks:List Kd}:∀(m:Nat) (cs:List Value),cs.length=m*ks.length->(∀i,i<m->Op w ks ((cs.drop (i*ks.length)).take ks.length))->Op w (Re ks m) cs
 |0,cs,D,_=>by
  have:cs=[]:=by simpa using D
  subst this;exact Op.nil
 |m+1,cs,D,h=>by
  have G:=h 0 (by omega);simp at G;have:cs=cs.take ks.length++cs.drop ks.length:=(i7 _ _).symm;rw[this,Re];refine G.append (Q0j m _ ?_ λi I=> ?_)
  ·grind
  grind [List.drop_drop,Nat.succ_mul]
theorem Z5c {ks:List Kd} {cs:List Value} {e t:TypeId} {fuel:Nat} {x:DataW H×List MemPlace} (hu:P.underlying t=some (.slice e)) (e1:P.cellsOf e=ks.length) (e2:0<ks.length)
  (hx:DataW.trod enc P w 0 (λ_=>true) true fuel t cs=some x) (ih:∀(m:Nat) (cs:List Value) (x:DataW H×List MemPlace),DataW.trod enc P w 0 (λ_=>true) true m e cs=some x->Op w ks cs):Op w [.sl ks] cs:=by
 rcases Go.Deep.open_slice hu hx with⟨rfl,_⟩|⟨a,len,cap,m,n,D,Pl,rfl,_,hl,a9,hm,_,hi⟩
 ·refine⟨[.vC ks []],rfl,⟨Q9x ks,trivial⟩,?_⟩;simp[okR,okC,AX]
 ·have a0:m=cap:=by simpa using hm
  subst a0
  have hex:∀i,∃(S:List Value) (raw:List AC),i<len->(w.cells? 0 (a.add (i*P.cellsOf e)) (P.cellsOf e)=some S/\AE ks raw=raw/\CL (CP (λb=>b<w.heap.size) w) raw S/\okR ks raw):=λi=>by
   by_cases L:i<len
   ·obtain⟨a1,N,V⟩:=hi i (by omega);obtain⟨raw,r1,r2,r3⟩:=ih n a1 _ V
    grind
   ·exact⟨[],[],λh=>(L h).elim⟩
  let S:Nat->List Value:=λi=>Classical.choose (hex i)
  let G:Nat->List AC:=λi=>Classical.choose (fm (hex i))
  have M:∀i,i<len->(w.cells? 0 (a.add (i*P.cellsOf e)) (P.cellsOf e)=some (S i)/\AE ks (G i)=G i/\CL (CP (λb=>b<w.heap.size) w) (G i) (S i)/\okR ks (G i)):=λi=>fm (fm (hex i));have hlen:((List.range len).map G).length=len:=by simp
  have X:∀i (hi:i<((List.range len).map G).length),((List.range len).map G)[i]=G i:=λi hi=>by simp
  have O:∀c∈(List.range len).map G,∃i,i<len/\c=G i:=λc U=>by
   simp only[ba,List.mem_range]at U;obtain⟨i,N,V⟩:=U;exact⟨i,N,V.symm⟩
  refine⟨[.vC ks ((List.range len).map G)],rfl,⟨?_,trivial⟩,?_⟩
  ·rw[CP];refine⟨some a,m,by simp,by omega,λc U=> ?_,?_⟩
   ·obtain⟨i,N,rfl⟩:=O c U;exact(M i N).2.1
   ·by_cases h0:len=0
    ·subst h0;simp
    ·right;have h0:0<len:=by omega
     obtain⟨a2,r1,r2,_⟩:=M 0 h0;obtain⟨_,a3,Y⟩:=World.cells?_some a2;have I:=Y 0 (by omega);simp only[Nat.zero_mul]at I;have ea:(a.add 0).add 0=a:=by simp[Addr.add]
     rw[ea,ai (by omega)]at I;have T:a.spot=none/\a.block<w.heap.size:=by
      unfold World.cell? at I;split at I
      ·rename_i hb;split at I
       ·cases I
       ·rename_i a4;refine⟨by simpa using a4,(cq.1 hb).1⟩
      ·cases I
     obtain⟨b,o,sp⟩:=a;obtain⟨rfl,hb⟩:=T;refine⟨b,o,rfl,hb,Ti λi L=> ?_⟩;rw[X i L];rw[hlen]at L;obtain⟨a5,a6,a7,_⟩:=M i L;obtain⟨_,hle,a8⟩:=World.cells?_some a5;refine⟨by rw[<-a6];exact TY _ _,Wb _ (S i) b _ a7 λj y hj=> ?_⟩;have b0:j<(S i).length:=(fg.1 hj).1;have:=a8 j (by omega);rw[<-hj,<-this,e1];congr 1;unfold Addr.add;by_cases N:i*ks.length=0<;>by_cases V:j=0<;>simp[N,V,gy]
  ·simp only[okR,okC,AX,iz];refine⟨by omega,λc U=> ?_⟩;obtain⟨i,N,rfl⟩:=O c U;exact⟨(M i N).2.2.2,(M i N).2.1⟩
theorem Rf:∀(n:Nat) (m:Nat) (t:TypeId) (ks:List Kd) (cs:List Value) (x:DataW H×List MemPlace),Im P n t=some ks->DataW.trod enc P w 0 (λ_=>true) true m t cs=some x->Op w ks cs
 |0,_,_,_,_,_,h,_=>by grind [Im]
 |n+1,m,t,ks,cs,x,h,M=>by
  unfold Im at h;split at h
  ·rename_i L;simp at h;subst h;obtain⟨b,rfl,_⟩:=DataW.trod_bool L M;exact⟨[.bool b],rfl,⟨Qwz _,trivial⟩,by simp[okR,okC]⟩
  ·rename_i k L;simp at h;subst h;obtain⟨i,rfl,_,V⟩:=DataW.trod_int L M;exact⟨[.int k i],rfl,⟨GT _ _,trivial⟩,by grind [okR,okC,Ah,Lit.wf]⟩
  ·rename_i e L;simp only[bm]at h;obtain⟨G,N,I⟩:=h;cases D:(Nat.beq (P.cellsOf e) G.length&&Nat.blt 0 G.length)<;>rw[D]at I
   ·grind
   ·simp at I;subst I;simp only[ak]at D;have e1:=ag D.1;have e2:0<G.length:=by have:=D.2;simp[Nat.blt]at this;omega
    exact Z5c L e1 e2 M λm cs x=>Rf n m e G cs x N
  ·rename_i fs L;obtain⟨xs,O,rfl,_,hlen,S,hf⟩:=DataW.trod_struct L M;simp only[bm]at h;obtain⟨G,N,I⟩:=h;cases D:Nat.beq (P.cellsOf t) G.length<;>rw[D]at I
   ·grind
   ·simp at I;subst I;have e:=ag D;have := Q74 (λt ks cs x => Rf n O t ks cs x) fs.toList 0 G cs N (by omega) (λf T => by
     obtain⟨i,U⟩:=List.mem_iff_getElem?.1 T
     grind)
    grind
  ·rename_i k e L;obtain⟨xs,O,rfl,_,hlen,S,hf⟩:=DataW.trod_array L M;simp only[bm]at h;obtain⟨G,N,I⟩:=h;cases D:(Nat.beq (P.cellsOf e) G.length&&Nat.beq (P.cellsOf t) (k*G.length))<;>rw[D]at I
   ·grind
   ·simp at I;subst I;simp only[ak]at D;have e1:=ag D.1;have e2:=ag D.2;refine Q0j k cs (by omega) λi U=> ?_;have:=hf i U;rw[e1]at this;refine Rf n O e G _ (xs[i]'(by omega)) N ?_
    grind
  grind
end
structure Ar where
 agg:Bool
 ks:List Kd
 raw:List AC
def Ar.sh (a:Ar):Bool×List Kd:=(a.agg,a.ks)
def Ar.ok (a:Ar):Prop:=okR a.ks a.raw/\AE a.ks a.raw=a.raw
def Ar.tv (a:Ar):TV:= .v a.agg (AE a.ks a.raw)
def shK (P:Program) (t:TypeId):Option (Bool×List Kd):=match P.underlying t with
 |some (.struct _)=>(Im P 8 t).map λks=>(true,ks)
 |some (.array _ _)=>(Im P 8 t).map λks=>(true,ks)
 |some .bool=>some (false,[.bool])
 |some (.int k)=>some (false,[.int k])
 |some (.slice _)=>(Im P 8 t).map λks=>(false,ks)
 |_=>none
section
variable {H:Type} {enc:TypeId×Value->H} {P:Program} {W:World}
theorem Z3y {t:TypeId} {v:Value} {d:DataW H} {p:List MemPlace} {r:Reach} {S:Nat} {sh:Bool×List Kd} (D:shK P t=some sh) (M:Value.okWide P W r S t v)
  (h:DataW.Trod enc P W 0 (λ_=>true) true t v d p):∃a:Ar,a.sh=sh/\a.ok/\∀(ρ:Env),ρ.im=(λb=>b<W.heap.size)->TVR ρ W a.tv v:=by
 have agg:∀(ks:List Kd) (cs:Array Value),Im P 8 t=some ks->v= .agg cs->∃a:Ar,a.sh=(true,ks)/\a.ok/\∀(ρ:Env),ρ.im=(λb=>b<W.heap.size)->TVR ρ W a.tv v:=by
  rintro ks cs I rfl;obtain⟨fuel,hf⟩:=h;obtain⟨raw,L,N,O⟩:=Rf 8 fuel t ks _ _ I hf;refine⟨⟨true,ks,raw⟩,rfl,⟨O,L⟩,λρ T=>⟨cs,rfl,?_⟩⟩;rw[L];exact N.mono λa _ x V=>IP (by grind)
 unfold shK at D;split at D
 ·rename_i fs G;simp only[bn]at D;obtain⟨ks,I,rfl⟩:=D;obtain⟨cs,rfl,_⟩:=okWide_struct G M
  grind
 ·rename_i k e G;simp only[bn]at D;obtain⟨ks,I,rfl⟩:=D;obtain⟨cs,rfl,_⟩:∃cs,v= .agg cs/\cs.size=P.cellsOf t:=by grind [Value.okWide]
  grind
 ·rename_i G;simp at D;subst D;obtain⟨n,rfl,_,_⟩:=open_bool G M h;exact⟨⟨false,[.bool],[.bool n]⟩,rfl,⟨by simp[okR,okC],rfl⟩,λρ _=>TVR.mkBool n⟩
 ·rename_i k G;simp at D;subst D;obtain⟨n,rfl,_,_,X⟩:=open_int G M h;exact⟨⟨false,[.int k],[.int k n]⟩,rfl,⟨by grind [okR,okC,Ah,Lit.wf],rfl⟩,λρ _=>TVR.mkInt k n⟩
 ·rename_i e G;simp only[bn]at D;obtain⟨ks,I,rfl⟩:=D;obtain⟨Y,len,cap,rfl⟩:=okWide_slice G M;obtain⟨fuel,hf⟩:=h;obtain⟨raw,L,N,O⟩:=Rf 8 fuel t ks _ _ I hf;have U:raw.length=1:=by rw[N.length];simp[Value.cells]
  match raw,U with
  |[a],_=>
   refine⟨⟨false,ks,[a]⟩,rfl,⟨O,L⟩,λρ T=>⟨a,L,?_⟩⟩;have:=N.1
   grind [IP]
 grind
theorem Q4k {r:Reach} {b0:Nat}:∀(I:List TypeId) (G:List Value) (M:List (DataW H)) (p:List MemPlace) (D:List (Bool×List Kd)),I.map (shK P)=D.map some->
  (∀(j:Nat) (t:TypeId) (v:Value),I[j]? =some t->G[j]? =some v->Value.okWide P W r b0 t v)->DataW.TrodAll enc P W 0 (λ_=>true) true I G M p->
  ∃as:List Ar,as.map Ar.sh=D/\(∀a∈as,a.ok)/\G.length=as.length/\∀(i:Nat) (a:Ar) (x:Value),as[i]? =some a->G[i]? =some x->∀(ρ:Env),ρ.im=(λb=>b<W.heap.size)->TVR ρ W a.tv x
 |[],G,M,p,D,L,_,h=>by
  obtain⟨rfl,rfl,rfl⟩:=trodAll_nil h;simp_all
 |t::I,G,M,p,D,L,S,h=>by
  obtain⟨v,N,d,O,a,b,rfl,rfl,rfl,T,U⟩:=trodAll_cons h;cases D with
  |nil=>grind
  |cons sh D=>
   simp only[be,d6]at L;obtain⟨as,e1,e2,e3,Y⟩:=Q4k I N O b D L.2 (λj t v ht V=>S (j+1) t v (by grind) (by grind)) U;obtain⟨a,ha,X,hp⟩:=Z3y L.1 (S 0 t v rfl rfl) T;refine⟨a::as,by grind,?_,by grind,?_⟩
   ·grind
   grind
theorem Q6h (S:laidOutB P=true) {T:World} (hb:Below W.heap.size W T) {U:Nat->Bool}:∀(G:List TypeId) (I:List Value) (L:List (DataW H)) (p:List MemPlace),
  G.all (λt=>P.readableRec t&&decide (t<P.types.size))=true->(∀x∈p,x.block<W.heap.size/\U x.block=true)->DataW.TrodAll enc P W 0 (λ_=>true) true G I L p->
  DataW.TrodAll enc P T 0 U true G I L p
 |[],I,L,p,_,_,h=>by
  obtain⟨rfl,rfl,rfl⟩:=trodAll_nil h;rfl
 |t::G,I,L,p,M,D,h=>by
  obtain⟨v,N,d,O,a,b,rfl,rfl,rfl,X,Y⟩:=trodAll_cons h;simp only[List.all_cons,ak,cg]at M;refine⟨a,b,WideElems.Trod_stays S M.1.1 M.1.2 X (λx V=>hb.same (D x (by grind)).1) (λx V=>(D x (by grind)).2),?_,rfl⟩;exact Q6h S hb G N O b M.2 (λx V=>D x (by grind)) Y
theorem Zvg {f:Func} {s:ChangeSpec} {apart fresh handsOn again:Bool} {W M:World} {args:Array Value} {v:Value} {O S:List (DataW H)} {before pa pv:List MemPlace}
  (U:DataW.Whole enc P f.params.toList s.vars apart W args.toList O S before)
  (I:∀(b:Nat) (L:Nat->Bool) (hd:Bool),DataW.TrodAll enc P M b L hd f.resultTypes.toList (v.resultList f.resultTypes.size) (s.fn H (O++S)).results [])
  (D:∀L:Nat->Bool,(∀p∈before,L p.block=true)->DataW.TrodAll enc P M 0 L true f.params.toList args.toList (s.fn H (O++S)).args pa)
  (G:∀L:Nat->Bool,(∀p∈before,L p.block=true)->DataW.TrodVars enc P M L s.vars (s.fn H (O++S)).vars pv)
  (V:before=pa++pv) (hb:Below W.heap.size W M)
  (X:∀(j:Nat) (t:TypeId) (r:Value),f.resultTypes[j]? =some t->(v.resultList f.resultTypes.size)[j]? =some r->Value.okWide P M .any 0 t r):
  s.post enc P f apart fresh handsOn again W args v M:=by
 have Y:∀p∈before,p.block<W.heap.size:=λp N=>U.lt p N;have hold:∀p∈before,(λb=>decide (b<W.heap.size)) p.block=true:=λp N=>by grind
 refine⟨O,S,before,[],pa,pv,U,I _ _ _,D _ hold,G _ hold,World.keptBut_mono (λp N=>⟨N,?_⟩) (hb.frame (· ∈before)),λ_=> ?_⟩
 ·grind
 ·obtain⟨_,_,_,_,_,hz,hn⟩:=U;refine⟨X,_,_,([]++pa)++pv,⟨[]++pa,pv,trodAll_append (D _ (λ_ _=>rfl)) (I _ _ _),G _ (λ_ _=>rfl),rfl,?_,?_⟩,?_⟩
  ·intro b off N;have T:MemPlace.cell b off∈before:=by rw[V];simpa using N
   rw[hb.frozen (Y _ T)];exact hz b off T
  ·grind
  grind
theorem Ydi {f:FuncId} {L:Func} {s:ChangeSpec} {apart fresh handsOn again:Bool} {tb:TypeId} {shs:List (Bool×List Kd)} {args:Array Value} {M gs:List (DataW H)} {before:List MemPlace} {base:Nat}
  (D:s.vars=[]) (hl:laidOutB P=true) (Y:L.resultTypes= #[tb]) (a0:P.underlying tb=some .bool)
  (hr:L.params.toList.all (λt=>P.readableRec t&&decide (t<P.types.size))=true) (a7:L.params.toList.map (shK P)=shs.map some)
  (N:∀l:List (DataW H),l.length=shs.length->s.fn H l={results:=[.lit (.bool true)],args:=l})
  (a1:∀as:List Ar,as.map Ar.sh=shs->(∀a∈as,a.ok)->PCallM P f (as.map Ar.tv) ⟨[],[]⟩ (.v false [.bool true]) ⟨[],[]⟩)
  (a2:∀(j:Nat) (t:TypeId) (v:Value),L.params[j]? =some t->args[j]? =some v->Value.okWide P W .any base t v)
  (hW:DataW.Whole enc P L.params.toList s.vars apart W args.toList M gs before) (hG:Gt (λb=>b<W.heap.size) W):
  Calls P f args W λe W'=>∃v,e= .returned v/\s.post enc P L apart fresh handsOn again W args v W':=by
 have a3:=hW;obtain⟨p,q,hA,hV,rfl,a8,a9⟩:=hW;rw[D]at hV;obtain⟨rfl,rfl⟩:=trodVars_none hV;have b1:∀x∈p++[],x.block<W.heap.size:=λx hx=>a3.lt x hx;obtain⟨as,e1,e2,e3,e4⟩:=Q4k (r:= .any) (b0:=base) L.params.toList args.toList M p shs a7 (λj t v ht hv=>a2 j t v (by grind) (by grind)) hA;have b2:M.length=shs.length:=by
  have:∀(ts:List TypeId) (vs:List Value) (M:List (DataW H)) (p:List MemPlace),DataW.TrodAll enc P W 0 (λ_=>true) true ts vs M p->M.length=vs.length:=by
   intro ts;induction ts with
   |nil=>grind [trodAll_nil]
   |cons t ts ih=>grind [trodAll_cons]
  rw[this _ _ _ _ hA,e3,<-e1,ac]
 have a4:=N (M++[]) (by grind);have a5:RelE (D6 (λb=>b<W.heap.size) W ⟨λ_=>0,λ_=> .slice none 0 0,λ_=>0,λb=>b<W.heap.size⟩ [] hG) (as.map Ar.tv) [] [] ⟨λ_=>0,λ_=> .slice none 0 0,λ_=>0,λb=>b<W.heap.size⟩ args.toList.toArray W:=by
  refine⟨by grind,λi v hi=> ?_,λv hv=> ?_,λk b O=>by grind [Ac],λk b O=>by grind [Ac],λk k' b b' O=>by grind [Ac],λid r hr=>by grind [Ac],
   λid id' r r' g hr=>by grind [Ac],λk b id r O=>by grind [Ac],λb hb=>⟨hb,λk bo O=>by grind [Ac],λid r hr=>by grind [Ac]⟩,Fr.refl _ _,λ_ h=>h,λ_ h=>h,λb h=> .inl h,λk b O=>by grind [D6,Ac]⟩
  ·simp only[du,bn]at hi;obtain⟨a,S,rfl⟩:=hi;have I:i<args.toList.length:=by rw[e3];exact(fg.1 S).1
   have a6:i<args.size:=by simpa using I
   have e:args.toList.toArray.getD i undef=args.toList[i]:=by simp[Array.getD,a6]
   rw[e];exact e4 i a _ S (ai I) _ rfl
  ·simp only[ba]at hv;obtain⟨a,S,rfl⟩:=hv;intro c T;obtain⟨i,hi⟩:=List.getElem?_of_mem S;have I:i<args.toList.length:=by rw[e3];exact(fg.1 hi).1
   have b3:=e4 i a _ hi (ai I) ⟨λ_=>0,λ_=> .slice none 0 0,λ_=>0,λb=>b<W.heap.size⟩ rfl;have U:∀(ks:List Kd) (cs:List AC) (j:Nat),∀c∈EA ks cs j,AC.calm c=true:=by
    intro ks;induction ks with
    |nil=>grind [EA]
    |cons k ks ih=>
     intro cs j c T;simp only[EA,av]at T;rcases T with rfl|T
     ·cases k<;>try rfl
      generalize nth AC.vD cs j=b;cases b<;>rfl
     grind
   have:=U a.ks a.raw 0 c T;cases c<;>first|trivial|(simp[AC.calm]at this)
 have G:=a1 as e1 e2 _ args.toList a5;have V:args.toList.toArray=args:=by simp
 rw[V]at G;refine G.mono ?_;rintro e W' ⟨x,ρ',rfl,X⟩;have hb:Below W.heap.size W W':=⟨X.fr.os,X.fr.tape,X.fr.output,X.fr.size,λk O=>X.fr.block k O⟩;have hx:x= .bool true:=by
  have:TVR ρ' W' (.c (.bool true)) x:=by simpa using X.tv 0 _ rfl
  obtain⟨a,S,T⟩:=this;simp at S;subst S;simpa [CC,CP]using T
 subst hx;refine⟨_,rfl,Zvg (pa:=p) (pv:=[]) a3 ?_ ?_ ?_ rfl hb (ok_one Y rfl (okWide_bool_mk a0 true))⟩
 ·intro b sp hd;rw[a4,Y];exact trodAll_mk1 (shut_bool a0 true)
 ·grind [Q6h]
 ·intro sp b4;rw[a4,D];rfl
end
theorem NB:∀{l:List (Nat×Spec)} {k:Nat} {b:Spec},FX l k=some b->(k,b)∈l
 |[],_,_,h=>by grind [FX]
 |(j,c)::l,k,b,h=>by
  simp only[FX]at h;cases hb:Nat.beq j k<;>rw[hb]at h
  ·simp only[aq]at h;exact ij _ (NB h)
  simp_all
def In (P:Program) (f:FuncId):Bool:=match P.funcs[f]? with
 |some fn=> !(fn.name== "runtime.NumGoroutine")&&fn.body.isSome
 |none=>false
theorem Jh {P:Program} {f:FuncId} (h:In P f=true):NY P f:=by
 unfold In at h;split at h
 ·rename_i D hf;simp only[ak,jo]at h;exact⟨D,hf,h.1,by simp_all⟩
 grind
def Ak (P:Program) (p:Nat×Spec):Prop:=SpecRight P p.1 p.2
def AllOK (P:Program):List (Nat×Spec)->Prop
 |[]=>True
 |p::l=>Ak P p/\AllOK P l
theorem AllOK.mem {P:Program}:∀{l:List (Nat×Spec)},AllOK P l->∀p∈l,Ak P p
 |_::l,h,p,D=>by
  rcases av.1 D with rfl|D
  ·exact h.1
  ·exact AllOK.mem h.2 p D
theorem An {P:Program} {C:Cfg} {l:List (Nat×Spec)} (G:C.spec=FX l) (h:AllOK P l) (I:C.ro=λ_=>false:=by rfl) (L:C.keepR=λ_=>false:=by rfl):Ai P C:=by
 refine⟨λf g D=> ?_,λf g _ h=> ?_,λf g _ h=>(by grind)⟩
 ·rw[G]at D;exact h.mem _ (NB D)
 grind
def AllRo (rs:List Nat):List (Nat×Spec)->Prop
 |[]=>True
 |p::l=>(AN rs p.1=false\/UK p.2)/\AllRo rs l
theorem AllRo.mem {rs:List Nat}:∀{l:List (Nat×Spec)},AllRo rs l->∀p∈l,AN rs p.1=false\/UK p.2
 |_::l,h,p,D=>by
  rcases av.1 D with rfl|D
  ·exact h.1
  ·exact AllRo.mem h.2 p D
abbrev O:=IntKind.wrap .i64
theorem LD {P:Program} {C:Cfg} {l:List (Nat×Spec)} {rs:List Nat} (I:C.spec=FX l) (h:AllOK P l) (G:C.ro=λf=>AN rs f) (L:AllRo rs l) (M:C.keepR=λ_=>false:=by rfl):Ai P C:=by
 refine⟨λf g D=> ?_,λf g D N=> ?_,λf g _ h=>(by grind)⟩
 ·rw[I]at D;exact h.mem _ (NB D)
 ·rw[I]at D;rw[G]at N;rcases L.mem _ (NB D)with h|h
  ·grind
  omega
theorem Ad {x:Int} (h: -9223372036854775808<=x/\x<=9223372036854775807:=by omega):O x=x:=by grind [IntKind.wrap,IntKind.signed,IntKind.bits]
section loops
variable {step:List AC->Option (Nat×List AC)}
theorem Qvu:∀{n:Nat} {vars:List AC} {o:Nat×List AC},Ck step n vars=some o->Ck step (n+1) vars=some o
 |0,_,_,h=>by grind [Ck]
 |n+1,vars,o,h=>by
  rw[Ck]at h⊢;simp only[bm]at h⊢;obtain⟨q,G,D⟩:=h;refine⟨q,G,?_⟩;split at D
  ·rename_i I;rw[aa I];exact Qvu D
  grind
theorem Q9n {n m:Nat} {vars:List AC} {o:Nat×List AC} (D:n<=m) (h:Ck step n vars=some o):Ck step m vars=some o:=by
 induction D with
 |refl=>exact h
 |step _ G=>exact Qvu G
theorem Z3n {n m:Nat} {vars:List AC} {o D:Nat×List AC} (h:Ck step n vars=some o) (h':Ck step m vars=some D):o=D:=by
 have G:=Q9n (Nat.le_max_left n m) h
 grind [Q9n,Nat.le_max_right]
open Classical in
noncomputable def Al (step:List AC->Option (Nat×List AC)) (vars:List AC):Option (Nat×List AC):=
 if h:∃n o,Ck step n vars=some o then Ck step (Classical.choose h) vars else none
theorem Qq {vars:List AC} {o:Nat×List AC} (h:Al step vars=some o):∃n,Ck step n vars=some o:=by
 unfold Al at h;split at h
 ·grind
 grind
theorem Qtg {n:Nat} {vars:List AC} {o:Nat×List AC} (h:Ck step n vars=some o):Al step vars=some o:=by
 unfold Al;have D:∃n o,Ck step n vars=some o:=⟨n,o,h⟩;rw[jb D]
 grind [Z3n]
theorem Ts (vars:List AC):Al step vars=(step vars).bind λo=>if o.1=0 then Al step o.2 else some o:=by
 cases M:step vars with
 |none=>
  cases D:Al step vars with
  |none=>rfl
  |some o=>
   obtain⟨n,G⟩:=Qq D;cases n with
   |zero=>grind [Ck]
   |succ n=>grind [Ck]
 |some q=>
  simp only[am];by_cases I:q.1=0
  ·rw[aa I];cases D:Al step q.2 with
   |none=>
    cases L:Al step vars with
    |none=>rfl
    |some o=>
     obtain⟨n,G⟩:=Qq L;cases n with
     |zero=>grind [Ck]
     |succ n=>
      simp only[Ck,M,am,aa I]at G
      grind [Qtg]
   |some o=>
    obtain⟨n,G⟩:=Qq D;exact Qtg (n:=n+1) (by simp_all [Ck])
  ·rw[ab I];exact Qtg (n:=1) (by simp_all [Ck])
end loops
theorem J6:∀(c:Code) (b blk:Nat) (body:Code),(blk,body)∈AV c b->(∀p∈AV body blk,p∈AV c b)/\(∀p∈Co body,p∈Co c)/\(∀p∈By body blk,p∈By c b)
 | .seq x y,b,blk,body,h=>by
  simp only[AV,bq]at h;rcases h with h|h
  ·obtain⟨I,L,D⟩:=J6 x b blk body h
   grind [AV,Co,By]
  ·obtain⟨I,L,D⟩:=J6 y b blk body h
   grind [AV,Co,By]
 | .cond c x y,b,blk,body,h=>by
  simp only[AV,bq]at h;rcases h with h|h
  ·obtain⟨I,L,D⟩:=J6 x b blk body h;exact⟨λp G=>by grind [AV],λp G=>by grind [Co],λp G=>by cases c<;>simp[By,D p G]⟩
  ·obtain⟨I,L,D⟩:=J6 y b blk body h;exact⟨λp G=>by grind [AV],λp G=>by grind [Co],λp G=>by cases c<;>simp[By,D p G]⟩
 | .block id x,b,blk,body,h=>by
  simp only[AV]at h;obtain⟨I,L,D⟩:=J6 x b blk body h
  grind [AV,Co,By]
 | .loop x,b,blk,body,h=>by
  simp only[AV,av,df]at h;rcases h with⟨rfl,rfl⟩|h
  ·grind [IX,AV,Co,Jv,By]
  ·obtain⟨I,L,D⟩:=J6 x b blk body h
   grind [AV,Co,By]
 | .skip,_,_,_,h=>by grind [AV]
 | .region _ _ _,_,_,_,h=>by grind [AV]
 | .exit _,_,_,_,h=>by grind [AV]
 | .ret,_,_,_,h=>by grind [AV]
 | .rangeFunc _ _ _ _,_,_,_,h=>by grind [AV]
 | .scope x,b,blk,body,h=>by
  simp only[AV]at h;obtain⟨I,L,D⟩:=J6 x b blk body h
  grind [AV,Co,By]
 | .label _,_,_,_,h=>by grind [AV]
 | .goto _,_,_,_,h=>by grind [AV]
 | .refuse _,_,_,_,h=>by grind [AV]
structure FnOK (P : Program) (C : Cfg) (f : FuncId) : Prop where
 l:∀p∈G0 P f,∀sk g,C.loops p.1=some (sk,g)->KG P (.loop p.2) sk g
 b:∀p∈Z1 P f,∀sk g,C.blocks p.1=some (sk,g)->KG P (.block p.1 p.2) sk g
 c:∀p∈VZ P f,∀sk g,C.conds p.1=some (sk,g)->KG P (.cond (.tmp p.1) p.2.2.1 p.2.2.2) sk g
theorem FnOK.bare {P:Program} {C:Cfg} {f:FuncId} (D:C.loops=λ_=>none) (G:C.blocks=λ_=>none) (I:C.conds=λ_=>none):FnOK P C f:=
 ⟨λp _ sk g h=>by grind,λp _ sk g h=>by grind,λp _ sk g h=>by grind⟩
theorem FnOK.sub {P:Program} {C:Cfg} {f:FuncId} (h:FnOK P C f) {c:Code} (G:FN P f=some c):SubOK P C c 0:=
 ⟨λp D=>h.l p (by grind [G0]),λp D=>h.b p (by grind [Z1]),λp D=>h.c p (by grind [VZ])⟩
theorem Zb3 {P:Program} {f blk:Nat} {c:Code} (h:Ac (G0 P f) blk=some c):AH P f blk=c:=by grind [AH]
theorem Vi {α:Type}:∀{l:List (Nat×α)} {k:Nat} {b:α},B8 (l.map (·.1))=true->(k,b)∈l->Ac l k=some b
 |[],_,_,_,h=>by grind
 |(j,c)::l,k,b,G,h=>by
  have D:=IL.1 G;simp only[be,jf]at D;simp only[Ac];rcases av.1 h with h|h
  ·simp_all
  ·have:j≠k:=by rintro rfl;exact D.1 (ba.2 ⟨(j,b),h,rfl⟩)
   rw[Ka this];exact Vi (IL.2 D.2) h
theorem FnOK.subLoop {P:Program} {C:Cfg} {f:FuncId} (h:FnOK P C f) {blk:Nat} {body:Code} (D:(blk,body)∈G0 P f):SubOK P C body blk:=by
 unfold G0 at D;split at D
 ·rename_i c I;obtain⟨L,M,N⟩:=J6 c 0 blk body D;exact⟨λp G=>h.l p (by grind [G0]),λp G=>h.b p (by grind [Z1]),λp G=>h.c p (by grind [VZ])⟩
 grind
theorem FnOK.loop {P:Program} {C:Cfg} {f:FuncId} (h:FnOK P C f) (G:Ai P C) (O:∀t∈C.eqOk,P.stoodInHeld t=false) (M:P.follows .mixedOrders=true) {L blk:Nat} {sk:Sk} {D:List (Ex×Sk)}
  (V:B8 ((G0 P f).map (·.1))=true) (S:sk.okB=true):FnOK P (C.loop blk sk D (Al (AG P C L blk (AH P f blk) sk D))) f:=by
 refine⟨λp T U g N=> ?_,h.b,h.c⟩;simp only[Cfg.loop]at N;cases hb:Nat.beq p.1 blk<;>rw[hb]at N
 ·exact h.l p T U g N
 ·have e:=ag hb;subst e;simp only[aj,an,df]at N;obtain⟨rfl,rfl⟩:=N;have I:=Zb3 (Vi (k:=p.1) (b:=p.2) V T);rw[I];exact Z4x G O M S (h.subLoop T) λvars o X=>Qq X
theorem Vr {P:Program} {C:Cfg} {f:FuncId} {L:Nat} {sig D:Sk} (O:In P f=true) (h:FnOK P C f) (G:Ai P C) (N:∀t∈C.eqOk,P.stoodInHeld t=false) (M:P.follows .mixedOrders=true)
  (S:sig.okB=true) (T:D.okB=true):Ak P (f,Ab sig D (Am P C L f sig D)):=
 Zzq G N M (Jh O) S T (λ_ I=>h.sub I) λ_ _ U=>U
theorem Ykw {P:Program} {C:Cfg} {f:FuncId} {L:Nat} {sig D:Sk} (_:In P f=true) (h:FnOK P C f) (G:Ai P C) (O:∀t∈C.eqOk,P.stoodInHeld t=false) (M:P.follows .mixedOrders=true)
  (S:sig.okB=true) (T:D.okB=true) (args:List TV) (v:TV) (mem':Mem) (N:(Ab sig D (Am P C L f sig D) (TV×Mem) args ⟨[],[]⟩ λv m=>some (v,m))=some (v,mem')):PCallM P f args ⟨[],[]⟩ v mem':=
 Q8c G O M S T (λ_ I=>h.sub I) (λ_ _ U=>U) N
theorem F0 {P:Program} {f:FuncId} {sig D:Sk}:Ak P (f,Ab sig D λ_=>none):=by
 refine⟨Rx,λargs mem v mem' h=> ?_⟩;obtain⟨aB,aC⟩:=mem;simp only[Ab]at h
 grind
section
variable {H α:Type}
theorem Yfz (F G:List (DataW H)->α) (h:∀a b c d e,F [a,b,c,d,e]=G [a,b,c,d,e]) (l:List (DataW H)) (D:l.length=5):F l=G l:=by
 match l,D with
 |[a,b,c,d,e],_=>grind
end
theorem Q8 {l:List Ar} {s:Bool×List Kd} {D:List (Bool×List Kd)} (h:l.map Ar.sh=s::D):∃a G,l=a::G/\a.agg=s.1/\a.ks=s.2/\G.map Ar.sh=D:=by
 cases l with
 |nil=>grind
 |cons a G=>
  simp only[be,d6]at h;refine⟨a,G,rfl,?_,?_,h.2⟩
  ·rw[<-h.1];rfl
  ·rw[<-h.1];rfl
theorem Zzt {l:List Ar} (h:l.map Ar.sh=[]):l=[]:=by simp_all
open Go.RowKit
section
variable {P:Program} {C:Cfg} {w:World} {Z:Base} {R:Type}
def Vl (o:Oper):Bool:=match o.dst with
 |some 0=>false
 |_=>true
def kpC:Code->Bool
 | .skip=>true
 | .region _ ops draw=> !draw&&Ao Vl ops.toList
 | .seq x y=>kpC x&&kpC y
 | .cond _ x y=>kpC x&&kpC y
 | .block _ b=>kpC b
 | .loop b=>kpC b
 | .exit _=>true
 | .ret=>true
 |_=>false
theorem Ye1 {a:Act} {o:Oper} {x:Value} (h:Vl o=true):(a.put o.dst x).tmps.getD 0 undef=a.tmps.getD 0 undef:=by
 unfold Vl at h;cases D:o.dst with
 |none=>rfl
 |some d=>
  rw[D]at h;cases d with
  |zero=>grind
  |succ d=>simp[Act.put]
theorem Qwf (D:Ai P C) (I:∀t∈C.eqOk,P.stoodInHeld t=false) {ops:Array Oper} {Q:Exit->Act->World->Prop} {K:St->Option R} {r:R}:
  ∀(l:List Oper) (s:St) (a:Act) (w:World),Ao Vl l=true->Rel Z s a.tmps w->Io P C ops.toList l s K=some r->
  (∀(L:St) (G:Act) (w':World),K L=some r->Rel Z L G.tmps w'->G.defers=a.defers->G.tmps.getD 0 undef=a.tmps.getD 0 undef->Q .normal G w')->wpList P ops Q l a w
 |[],s,a,w,M,N,h,O=>O s a w h N rfl rfl
 |o::l,s,a,w,M,N,h,O=>by
  rw[Ax]at M;have T:=M o (List.mem_cons_self ..);simp only[Io]at h;have := Q21 (next := wpList P ops Q l) (Q := Q) D I N h (λpo L G w' U S V => Qwf D I l L G w' (Ax.2 λx X => M x (ij _ X)) S U (λs2 a2 Y h1 h2 h3 h4 => by
   obtain⟨x,rfl⟩:=V;exact O s2 a2 Y h1 h2 (h3.trans (by cases o.dst<;>rfl)) (h4.trans (Ye1 T))))
  simp only[wpList]
  grind
def UF (Z:Base) (K:Ex->St->Option R) (r:R) (d:List Deferred) (G:Value):Exit->Act->World->Prop:=
 λe a w=>∃D s,K9 D=e/\K D s=some r/\Rel Z s a.tmps w/\a.defers=d/\a.tmps.getD 0 undef=G
def Q93 (P:Program) (c:Code) (sk:Sk) (g:IU):Prop:=
 ∀(Z:Base) (_:InZ Z) (a:Act) (w:World) (vars:List AC) (R:Type) (K:Ex->St->Option R) (r:R),Rel Z (AF sk vars) a.tmps w->g R vars K=some r->c.wp P (UF Z K r a.defers (a.tmps.getD 0 undef)) a w
structure KeepOK (P : Program) (C : Cfg) (c : Code) : Prop where
 l:∀p∈AV c 0,∃sk g,C.loops p.1=some (sk,g)/\Q93 P (.loop p.2) sk g
 b:C.blocks=λ_=>none
 c:C.conds=λ_=>none
theorem JC (D:Ai P C) (V:∀t∈C.eqOk,P.stoodInHeld t=false) (N:P.follows .mixedOrders=true) (hZ:InZ Z) {r:R} {d:List Deferred} {x0:Value}:
  ∀(c:Code) (L blk:Nat) (s:St) (a:Act) (w:World) (K:Ex->St->Option R),kpC c=true->KeepOK P C c->Rel Z s a.tmps w->a.defers=d->a.tmps.getD 0 undef=x0->Bq P C L c blk s K=some r->c.wp P (UF Z K r d x0) a w
 | .skip,L,blk,s,a,w,K,O,G,I,S,T,h=>wp_skip ⟨.normal,s,rfl,h,I,S,T⟩
 | .region id ops draw,L,blk,s,a,w,K,O,G,I,S,T,h=>by
  rw[Bq]at h;obtain⟨s0,h,I⟩:=TD hZ _ s I h;simp only[kpC,ak]at O;cases draw
  ·exact wp_region_list (Qwf D V _ s0 a w O.2 I h λs' a' w' Y M U h'=>⟨.normal,s',rfl,Y,M,U.trans S,h'.trans T⟩)
  grind
 | .seq x y,L,blk,s,a,w,K,O,G,I,S,T,h=>by
  rw[Bq]at h;simp only[kpC,ak]at O;refine wp_seq (wp_mono (JC D V N hZ x L blk s a w _ O.1 ⟨λp hp=>G.l p (by simp[AV,hp]),G.b,G.c⟩ I S T h) ?_);rintro e a' w' ⟨ae,s',rfl,Y,M,U,X⟩;cases ae with
  |normal=>exact JC D V N hZ y L blk s' a' w' K O.2 ⟨λp hp=>G.l p (by simp[AV,hp]),G.b,G.c⟩ M U X Y
  |exit id=>exact⟨.exit id,s',rfl,Y,M,U,X⟩
  |ret=>exact⟨.ret,s',rfl,Y,M,U,X⟩
 | .cond c x y,L,blk,s,a,w,K,O,G,I,S,T,h=>by
  simp only[kpC,ak]at O;have hx:KeepOK P C x:=⟨λp hp=>G.l p (by simp[AV,hp]),G.b,G.c⟩;have hy:KeepOK P C y:=⟨λp hp=>G.l p (by simp[AV,hp]),G.b,G.c⟩;rw[Bq]at h;have hn:UC C c=none:=by
   unfold UC;split
   ·rw[G.c]
   ·rfl
  rw[hn]at h;simp only[KR]at h;split at h
  ·rename_i g hg;have a2:a.eval c= .bool g:=by
    obtain⟨ρ,a0⟩:=I;have:=UB a0 c;rw[hg]at this;exact this.bool
   refine wp_cond a2 ?_;split at h
   ·rename_i t;have a3:∀b,g=b->Rel Z ⟨setL s.tmps t (.c (.bool b)),s.aB,s.aC⟩ a.tmps w:=by
     rintro b rfl;obtain⟨ρ,a0⟩:=I;exact⟨ρ,a0.learn t (by have e:a.tmps.getD t undef= .bool g:=a2;grind [TVR.mkBool]) (FG _)⟩
    cases g
    ·simp only[aq]at h;rw[Fu]at h;exact JC D V N hZ y L blk _ a w K O.2 hy (a3 false rfl) S T h
    ·simp only[aj]at h;rw[Fu]at h;exact JC D V N hZ x L blk _ a w K O.1 hx (a3 true rfl) S T h
   ·cases g
    ·exact JC D V N hZ y L blk s a w K O.2 hy I S T h
    ·exact JC D V N hZ x L blk s a w K O.1 hx I S T h
  grind
 | .block id body,L,blk,s,a,w,K,O,G,I,S,T,h=>by
  have hb:KeepOK P C body:=⟨λp hp=>G.l p (by simp[AV,hp]),G.b,G.c⟩;rw[Bq]at h;rw[G.b]at h;simp only[KR]at h;refine wp_block (wp_mono (JC D V N hZ body L id s a w _ O hb I S T h) ?_);rintro e a' w' ⟨ae,s',rfl,Y,M,U,X⟩;cases ae with
  |normal=>exact⟨.normal,s',rfl,Y,M,U,X⟩
  |exit i=>
   simp only[K9,Exit.inBlock];dsimp only at Y;cases hb:Nat.beq i id<;>rw[hb]at Y
   ·have:i≠id:=λe=>by simp_all
    rw[ab this];exact⟨.exit i,s',rfl,Y,M,U,X⟩
   ·rw[aa (ag hb)];exact⟨.normal,s',rfl,Y,M,U,X⟩
  |ret=>exact⟨.ret,s',rfl,Y,M,U,X⟩
 | .loop body,L,blk,s,a,w,K,O,G,I,S,T,h=>by
  rw[Bq]at h;obtain⟨s',h',M⟩:=QE _ s a.tmps I _ r h;obtain⟨s1,h1,a1⟩:=Mn M h';obtain⟨sk,g,hs,a4⟩:=G.l (RZ body,body) (by simp[AV]);rw[hs]at h1;simp only[KR]at h1;obtain⟨a5,h2⟩:=BC h1;split at h2
  ·rename_i vars hv;obtain⟨ρ,a1⟩:=a1;obtain⟨tm,aB,aC⟩:=s1;subst S;subst T;exact a4 Z hZ a w vars R K r ⟨ρ,a1.rebuild hZ a5 hv⟩ h2
  grind
 | .exit id,L,blk,s,a,w,K,O,G,I,S,T,h=>wp_exit ⟨.exit id,s,rfl,h,I,S,T⟩
 | .ret,L,blk,s,a,w,K,O,G,I,S,T,h=>wp_ret ⟨.ret,s,rfl,h,I,S,T⟩
 | .rangeFunc f ps a6 body,L,blk,s,a,w,K,O,G,I,S,T,h=>by grind [Bq]
 | .scope b,L,blk,s,a,w,K,O,G,I,S,T,h=>by grind [kpC]
 | .label l,L,blk,s,a,w,K,O,G,I,S,T,h=>by grind [kpC]
 | .goto l,L,blk,s,a,w,K,O,G,I,S,T,h=>by grind [Bq]
 | .refuse a7,L,blk,s,a,w,K,O,G,I,S,T,h=>by grind [Bq]
theorem Znz (G:Ai P C) (Y:∀t∈C.eqOk,P.stoodInHeld t=false) (O:P.follows .mixedOrders=true) {L blk:Nat} {body:Code} {sk:Sk} {exits:List (Ex×Sk)} {m:List AC->Option (Nat×List AC)}
  (a0:sk.okB=true) (hc:kpC body=true) (S:KeepOK P C body) (hm:∀vars o,m vars=some o->∃n,Ck (AG P C L blk body sk exits) n vars=some o):Q93 P (.loop body) sk (gOf exits m):=by
 intro Z hZ a w vars R K r hR h;simp only[gOf,bm]at h;obtain⟨⟨t,o⟩,h1,h2⟩:=h;obtain⟨n,hn⟩:=hm vars _ h1;have key:∀(n:Nat) (vars:List AC) (M:Act) (w':World),Rel Z (AF sk vars) M.tmps w'->M.defers=a.defers->M.tmps.getD 0 undef=a.tmps.getD 0 undef->Ck (AG P C L blk body sk exits) n vars=some (t,o)->Code.rounds P body (UF Z K r a.defers (a.tmps.getD 0 undef)) n M w':=by
  intro n;induction n with
  |zero=>grind [Ck]
  |succ n ih=>
   intro vars M w' a1 a3 a4 h;simp only[Ck,bm]at h;obtain⟨⟨t',o'⟩,q1,N⟩:=h;rw[rounds_succ];refine wp_mono (JC G Y O hZ body L blk _ M w' _ hc S a1 a3 a4 q1) ?_;rintro e a2 w2 ⟨ae,s',rfl,hK,T,U,V⟩;have D:∀X:Ex,Kk exits 1 X s'=some (t',o')->UF Z K r a.defers (a.tmps.getD 0 undef) (K9 X) a2 w2:=by
    intro X hx;obtain⟨p1,a5,p2,p3⟩:=Qoh hZ T hx;have ht:t'≠0:=by omega
    dsimp only at N;rw[ab ht]at N;simp at N;obtain⟨rfl,rfl⟩:=N;rw[p2 R K]at h2;exact⟨X,_,rfl,h2,p3,U,V⟩
   cases ae with
   |normal=>
    obtain⟨s3,h3,I⟩:=Mn T hK;split at h3
    ·rename_i vars' hv;simp at h3;obtain⟨rfl,rfl⟩:=h3;simp only[ew]at N;obtain⟨ρ,I⟩:=I;obtain⟨tm,aB,aC⟩:=s3;exact ih _ a2 w2 ⟨ρ,I.rebuild hZ a0 hv⟩ U V N
    grind
   |exit i=>exact D _ hK
   |ret=>exact D _ hK
 exact wp_loop_rounds n (key n vars a w hR rfl rfl hn)
theorem Z86 (N:Ai P C) (X:∀t∈C.eqOk,P.stoodInHeld t=false) (T:P.follows .mixedOrders=true) (hZ:InZ Z) (Y:C.keepIn=true) {L:Nat} {f:FuncId} {args:List TV} {mem:Mem} {K:TV->Mem->Option R} {r:R}
  (U:∀c,FN P f=some c->kpC c=true/\KeepOK P C c) (h:EM P C L f args mem K=some r) {ρ:Env} {xs:List Value} (D:RelE Z args mem.aB mem.aC ρ xs.toArray w):
  Calls P f xs.toArray w λe w'=>∃x O v m,e= .returned x/\K v m=some r/\RelE Z [v] m.aB m.aC O #[x] w'/\((xs.toArray++Array.replicate ((match P.funcs[f]? with|some G=>G.ntmps|none=>0)-xs.toArray.size) undef).getD 0 undef)=O.rv base:=by
 unfold EM at h;split at h
 ·rename_i G a0;split at h
  ·rename_i c hc;obtain⟨_,h⟩:=BC h;simp only[A3]at h;have I:P.funcs[f]? =some G:=by simpa using a0
   have hs:=U c (by grind [FN]);refine calls_of_wp I hc ?_;have hlen:xs.length=args.length:=by simpa using D.tl.symm
   have hR:Rel Z ⟨args++List.replicate (G.ntmps-args.length) TV.vD,mem.aB,mem.aC⟩ (xs.toArray++Array.replicate (G.ntmps-xs.toArray.size) undef) w:=by
    refine⟨ρ,D.slots (by grind) (λi u V=> ?_) (λu S=> ?_)⟩
    ·rw[f7]at V;split at V
     ·rename_i a5;have a1:i<xs.length:=by omega
      have e:(xs.toArray++Array.replicate (G.ntmps-xs.toArray.size) undef).getD i undef=xs.toArray.getD i undef:=by
       simp[ji,i8,a1]
      rw[e];exact D.tv i u V
     ·have:=bz V;rw[fq]at this;rw[this.2];trivial
    ·rw[bq]at S;rcases S with S|S
     ·exact D.wt u S
     ·rw[fq]at S;rw[S.2];trivial
   refine wp_mono (JC N X T hZ c L 0 _ ⟨_,[]⟩ w _ hs.1 hs.2 hR rfl rfl h) ?_;rintro e a' w' ⟨ae,s,rfl,hK,a2,hd,h0⟩;have hk0:∀k b,Z.K0 k=some b->k∈mem.aB.map (·.1):=by
    intro k b Y;obtain⟨_,bo,a3⟩:=D.k0 k b Y;exact KI.2 ⟨bo,a3⟩
   have M:Mr P C G (mem.aB.map (·.1)) s K=some r->a'.defers=[]/\∃x,(results G a'.tmps).run P w'= .ok x w'/\∃y O v m,Ending.returned x= .returned y/\K v m=some r/\RelE Z [v] m.aB m.aC O #[y] w'/\((xs.toArray++Array.replicate ((match P.funcs[f]? with|some G=>G.ntmps|none=>0)-xs.toArray.size) undef).getD 0 undef)=O.rv base:=by
    intro hf;obtain⟨x,O,v,m,a4,h1,h2,h3⟩:=Qra a2 hk0 hf;refine⟨hd,x,h1,x,O,v,m,rfl,a4,h2,?_⟩;rw[I];exact h0.symm.trans (h3 Y)
   cases ae with
   |normal=>
    obtain⟨q1,x,q2,q3⟩:=M hK;exact⟨q1,x,q2,q3⟩
   |ret=>
    obtain⟨q1,x,q2,q3⟩:=M hK;exact⟨q1,x,q2,q3⟩
   |exit id=>grind
  grind
 grind
theorem Zqj {sig:Sk} (G:∃w D,sig.tmps= .v false [.own base w]::D) {vars:List AC} {args:List TV} {b:List (Nat×Box)} {r:List (Nat×Row)} (h:AF sig vars=⟨args,b,r⟩):∃w n l,args= .v false [.own base w n]::l:=by grind [AF,EC,HI,DJ,Dv]
theorem Zti (M:Ai P C) (a0:∀t∈C.eqOk,P.stoodInHeld t=false) (S:P.follows .mixedOrders=true) (hk:C.keepIn=true) {L:Nat} {f:FuncId} (N:NY P f) {sig D:Sk} (h1:sig.okB=true) (h2:D.okB=true)
  (h0:∃w ts,sig.tmps= .v false [.own base w]::ts)
  (T:∀c,FN P f=some c->kpC c=true/\KeepOK P C c):OE P f (Ab sig D (Am P C L f sig D)):=by
  intro args mem v mem' h;obtain⟨aB,aC⟩:=mem;simp only[Ab]at h;obtain⟨a1,h⟩:=BC h;split at h
  ·rename_i vars hv;simp only[bm]at h;obtain⟨o,I,h⟩:=h;intro F w hG ρ xs a2;have hZ:InZ (D6 F w ρ aB hG):=NR a1;have G:=a2.rebuild hZ h1 hv;unfold Am at I;have U:=λargs b r=>Zqj h0 (vars:=vars) (args:=args) (b:=b) (r:=r);generalize hs:AF sig vars=s1 at I G U;obtain⟨a3,Y,a4⟩:=s1;obtain⟨w0,n0,l0,ha⟩:=U _ _ _ rfl;dsimp only at I G;have a5:xs.toArray.getD 0 undef=ρ.rv base:=by
    obtain⟨y,hy,hc⟩:=G.tv 0 (.v false [.own base w0 n0]) (by grind);simp only[d6,iz]at hy;subst hy;exact hc.1
   have hlen:0<xs.length:=by
    have:=G.tl;rw[ha]at this;simp at this;omega
   refine .inl ⟨N,(Z86 M a0 S hZ hk T I G).mono ?_⟩;rintro e w' ⟨x,ρ',v',m',he,V,X,a6⟩;obtain⟨b',r'⟩:=m';dsimp only at V X;have O:=X.rebuild hZ h2 V;generalize a7:AF D o=s2 at h O;obtain⟨tm,b2,r2⟩:=s2;dsimp only at h O;split at h
   ·simp only[an,df]at h;obtain⟨rfl,rfl⟩:=h;refine⟨x,ρ',he,O,?_⟩;simp_all [i8]
   grind
  grind
theorem Z7g (I:Ai P C) (S:∀t∈C.eqOk,P.stoodInHeld t=false) (N:P.follows .mixedOrders=true) {f:FuncId} {L blk:Nat} {sk:Sk} {D:List (Ex×Sk)} (hb:C.blocks=λ_=>none) (V:C.conds=λ_=>none)
  (X:(G0 P f).map (·.1)=[blk]) (T:sk.okB=true) (Y:(match FN P f with|some c=>kpC c|none=>false)=true) (O:kpC (AH P f blk)=true) (U:(AV (AH P f blk) 0).length=0):
  ∀c,FN P f=some c->kpC c=true/\KeepOK P (C.loop blk sk D (Al (AG P C L blk (AH P f blk) sk D))) c:=by
 intro c G;rw[G]at Y;refine⟨Y,λp hp=> ?_,hb,V⟩;have hm:p∈G0 P f:=by unfold G0;rw[G];exact hp
 have h1:p.1=blk:=by
  have:=List.mem_map_of_mem (f:=(·.1)) hm;rw[X]at this;simpa using this
 subst h1;have M:=Zb3 (Vi (k:=p.1) (b:=p.2) (by rw[X];rfl) hm);rw[M]at O U⊢;refine⟨sk,gOf D (Al (AG P C L p.1 p.2 sk D)),by simp[Cfg.loop],Znz (L:=L) (blk:=p.1) (exits:=D) I S N T O ⟨λq hq=> ?_,hb,V⟩ λvars o ho=>Qq ho⟩
 grind
def AllKp (P:Program) (ks:List Nat):List (Nat×Spec)->Prop
 |[]=>True
 |p::l=>(AN ks p.1=false\/OE P p.1 p.2)/\AllKp P ks l
theorem AllKp.mem {P:Program} {ks:List Nat}:∀{l:List (Nat×Spec)},AllKp P ks l->∀p∈l,AN ks p.1=false\/OE P p.1 p.2
 |_::l,h,p,D=>by
  rcases av.1 D with rfl|D
  ·exact h.1
  ·exact AllKp.mem h.2 p D
theorem H7 {P:Program} {ks:List Nat} {p:Nat×Spec} {l:List (Nat×Spec)} (h:AN ks p.1=false) (D:AllKp P ks l):AllKp P ks (p::l):=⟨.inl h,D⟩
theorem Yi5 {P:Program} {ks:List Nat} {p:Nat×Spec} {l:List (Nat×Spec)} (h:OE P p.1 p.2) (D:AllKp P ks l):AllKp P ks (p::l):=⟨.inr h,D⟩
theorem Yg5 {P:Program} {ks:List Nat}:AllKp P ks []:=trivial
theorem Ye2 {P:Program} {C:Cfg} {l:List (Nat×Spec)} {ks:List Nat} (I:C.spec=FX l) (h:AllOK P l) (G:C.keepR=λf=>AN ks f) (L:AllKp P ks l) (M:C.ro=λ_=>false:=by rfl):Ai P C:=by
 refine⟨λf g D=> ?_,λf g _ h=>(by grind),λf g D N=> ?_⟩
 ·rw[I]at D;exact h.mem _ (NB D)
 ·rw[I]at D;rw[G]at N;rcases L.mem _ (NB D)with h|h
  ·grind
  omega
end
theorem Z2n {rl:Nat->Nat} {c:CS} {a:AC} {v:List AC} (he:Wt c a=true) (h:HT c a=some v) {l:List AC} {i:Nat} (D:Seg l i v):Dv rl l c i=(a,i+v.length):=by
 cases c<;>cases a<;>simp only[Wt]at he<;>try (simp at he;done)
 case int.int k k' n=>
  simp only[HT,he,aj,an]at h;subst h
  grind [Dv,Ah,D.one,PT]
 case bool.bool b=>
  simp only[HT,an]at h;subst h
  grind [Dv,Fb,D.one]
 case sl.vC ks G q=>
  simp only[HT,he,aj,an]at h;subst h
  grind [Dv,AX,D.one,IQ]
 simp_all [HT,Dv]
theorem Zcp {rl:Nat->Nat} {l:List AC}:∀{cs:List CS} {as:List AC} {v:List AC},Pf cs as=true->GV cs as=some v->∀{i},Seg l i v->DJ rl l cs i=(as,i+v.length)
 |[],[],v,_,h,i,_=>by simp[GV]at h;subst h;rfl
 |c::cs,a::as,v,he,h,i,D=>by
  simp only[Pf,ak]at he;simp only[GV]at h;split at h
  ·rename_i L G;split at h
   ·rename_i M I;simp at h;subst h;simp only[DJ,Z2n he.1 G D.left,Zcp he.2 I D.right,ap,gy]
   grind
  grind
 |[],_::_,_,he,_,_,_=>by grind [Pf]
 |_::_,[],_,he,_,_,_=>by grind [Pf]
theorem Qx8 {rl:Nat->Nat} {l:List AC} {aB:List (Nat×Box)}:∀{bs:List (Nat×TypeId×List CS)} {m:List (Nat×Box)} {v:List AC},HB bs m=true->(∀p∈m,Ac aB p.1=some p.2)->
  JU bs aB=some v->∀{i},Seg l i v->E6 rl l bs i=m
 |[],[],v,_,_,_,i,_=>rfl
 |(k,t,cs)::bs,(k',b)::m,v,he,D,h,i,G=>by
  simp only[HB,ak]at he;obtain⟨e1,e2,e3,I⟩:=he;have e1:=ag e1;subst e1;have hb:=D (k,b) (by simp);dsimp only at hb;simp only[JU,hb,e2,aj]at h;split at h
  ·rename_i N L;split at h
   ·rename_i O M;simp at h;subst h;simp only[E6,Zcp e3 L G.left,Qx8 I (λp S=>D p (by grind)) M G.right];simp_all
   grind
  grind
 |[],_::_,_,he,_,_,_,_=>by grind [HB]
 |_::_,[],_,he,_,_,_,_=>by grind [HB]
theorem Zd7:∀{bs:List (Nat×TypeId×List CS)} {m:List (Nat×Box)},HB bs m=true->m.map (·.1)=bs.map (·.1)
 |[],[],_=>rfl
 |(k,t,cs)::bs,(k',b)::m,he=>by
  simp only[HB,ak]at he;simp only[be,Zd7 he.2.2.2,ag he.1]
 |[],_::_,he=>by grind [HB]
 |_::_,[],he=>by grind [HB]
theorem Zya {sig D:Sk} {m:List AC->Option (List AC)} (R:Type) (args:List TV) (mem:Mem) (K:TV->Mem->Option R):E2 sig D m R args mem K=(E2 sig D m (TV×Mem) args mem λv m=>some (v,m)).bind λp=>K p.1 p.2:=by
 obtain⟨aB,aC⟩:=mem;simp only[E2];cases(Ao (λp:Nat×Box=>DO p.1) aB&&(HB sig.aB aB&&(aC.isEmpty&&(sig.aC.isEmpty&&B8 (sig.aB.map (·.1))))))
 ·rfl
 ·simp only[aj];cases DC sig ⟨args,aB,aC⟩with
  |none=>rfl
  |some vars=>grind
theorem Ydf {sig D:Sk} {m:List AC->Option (List AC)}:UK (E2 sig D m):=by
 intro args mem v G h;obtain⟨aB,aC⟩:=mem;simp only[E2]at h;obtain⟨_,h⟩:=BC h
 grind [Option.bind_eq_some_iff]
theorem L1 {rs:List Nat}:AllRo rs []:=trivial
theorem Dy {rs:List Nat} {k:Nat} {g:Spec} {l:List (Nat×Spec)} (h:AN rs k=false) (t:AllRo rs l):AllRo rs ((k,g)::l):=⟨.inl h,t⟩
theorem Jw {rs:List Nat} {k:Nat} {sig D:Sk} {m:List AC->Option (List AC)} {l:List (Nat×Spec)} (t:AllRo rs l):AllRo rs ((k,E2 sig D m)::l):=⟨.inr Ydf,t⟩
def Z0l (P:Program) (C:Cfg) (L:Nat) (f:FuncId) (sig:Sk):Prop:=
 ∀(vars:List AC) (R:Type) (K:TV->Mem->Option R),EM P C L f (AF sig vars).tmps ⟨(AF sig vars).aB,(AF sig vars).aC⟩ K=EM P C L f (AF sig vars).tmps ⟨(AF sig vars).aB,(AF sig vars).aC⟩ λv _=>K v ⟨(AF sig vars).aB,(AF sig vars).aC⟩
open Classical in
theorem S1 {P:Program} {C:Cfg} {f:FuncId} {L:Nat} {sig G:Sk} (hc:In P f=true) (h:FnOK P C f) (a2:Ai P C) (b2:∀t∈C.eqOk,P.stoodInHeld t=false) (a8:P.follows .mixedOrders=true)
  (h1:sig.okB=true) (h2:G.okB=true) (hl:Z0l P C L f sig):Ak P (f,E2 sig G (Oc P C L f sig G)):=by
 refine⟨Zya,λargs mem v mem' S=>PCallM.x ?_ (Jh hc)⟩;obtain⟨aB,aC⟩:=mem;simp only[E2]at S;obtain⟨V,S⟩:=BC S;simp only[ak]at V;obtain⟨V,hex,a3,T,b3⟩:=V;have a3:aC=[]:=by simpa using a3
 have T:sig.aC=[]:=by simpa using T
 subst a3;split at S
 ·rename_i vars D;simp only[bm]at S;obtain⟨o,ho,S⟩:=S;intro F w hG ρ xs b4;have hZ:InZ (D6 F w ρ aB hG):=NR V;have a4:=b4.rebuild hZ h1 D
  have M:(AF sig vars).aB=aB:=by
   simp only[DC]at D;obtain⟨_,D⟩:=BC D;rw[T]at D;simp only[Jz]at D;split at D
   ·rename_i b hb;split at D
    ·rename_i c a9;simp only[ay,an]at D;subst D;simp only[AF,T,G7];have U:=U1 (aB:=aB) (aC:=[]) (ρ:=ρ) (w:=w) (rl:=DI []) ⟨λid r hl=>by grind [Ac]⟩ hb (l:=b++c) (i:=0) (Seg.all _).left;generalize b5:EC (DI []) (b++c) sig.tmps 0=q at U;obtain⟨tm,i⟩:=q;have hi:i=0+b.length:=U.1;subst hi;have b6:=Zd7 hex;refine Qx8 hex (λp hp=>Vi (by grind) hp) a9 (Seg.all (b++c)).right
    grind
   ·grind
  have O:(AF sig vars).aC=[]:=by simp only[AF,T,G7]
  have a5:=hl vars;unfold Oc at ho;generalize hs:AF sig vars=s1 at ho a4 a5 M O;obtain⟨a6,I,b7⟩:=s1;dsimp only at ho a4 a5 M O;subst M;subst O;have b0:EM P C L f a6 ⟨I,[]⟩ (λv m=>if m=⟨I,[]⟩then DC G ⟨[v],[],[]⟩else none)=some o:=by
   rw[a5];simp only[ew];exact ho
  refine(Ziu a2 b2 a8 hZ (λ_ a7=>h.sub a7) b0 a4).mono ?_;rintro e w' ⟨x,ρ',v',m',he,N,X⟩;split at N
  ·rename_i hm;subst hm;dsimp only at X
   simp only[DC]at N;obtain⟨_,N⟩:=BC N;split at N
   ·rename_i a ha;split at N
    ·rename_i b hb;split at N
     ·rename_i c a9;simp only[an]at N;subst N;split at S
      ·rename_i tm Y;split at S
       ·rename_i vn;simp only[an,df]at S;obtain⟨rfl,rfl⟩:=S;have a0:G.aC=[]:=by
         cases b9:G.aC with
         |nil=>rfl
         |cons p l=>grind [Jz,Ac]
        rw[a0]at ha;simp only[Jz,an]at ha;subst ha;have U:=U1 (aB:=I) (aC:=[]) (ρ:=ρ') (w:=w') (rl:=DI []) ⟨λid r hl=>by grind [Ac]⟩ hb (l:=[]++(b++c)) (i:=0) (show Seg (b++c) 0 b from(Seg.all (b++c)).left);simp only[AF,a0,G7]at Y;have a1:=Qlg (B':=I) (R':=[]) (keys:=[]) (rs:=[]) (rl:=DI []) (by simp) (by simp[Ac]) (ts:=G.tmps)
         (by
          have:=h2;simp only[Sk.okB,ak]at this;have c0:G.aB=[]:=by
           cases c1:G.aB with
           |nil=>rfl
           |cons p l=>grind [JU,Ac]
          grind) ([]++(b++c)) 0
        generalize b5:EC (DI []) ([]++(b++c)) G.tmps 0=q at U Y a1;obtain⟨c2,i⟩:=q;simp only[St.mk.injEq]at Y;obtain⟨rfl,_,_⟩:=Y;obtain⟨u,b1,b8⟩:=U.2.2 0 vn rfl;simp only[List.getElem?_cons_zero,an]at b1;subst b1;refine⟨x,ρ',he,X.slots (by simp) (λi u hi=> ?_) (λu hu=>a1 u hu)⟩;cases i with
        |zero=>
         simp at hi;subst hi;have:=X.tv 0 v' rfl;exact b8 _ (X.wt v' (by simp)) this
        |succ i=>grind
       grind
      grind
     grind
    grind
   grind
  grind
 grind
abbrev I (n:Int):AC:= .int .i64 n
abbrev U (n:Int):AC:= .int .u64 n
abbrev B (b:Bool):AC:= .bool b
theorem B6 {x:Int} (h:0<=x/\x<=18446744073709551615):IntKind.u64.wrap x=x:=by grind [IntKind.wrap,IntKind.signed,IntKind.bits]
theorem LB (x:Int):IntKind.u64.wrap x=x%18446744073709551616:=by rfl
theorem Qdn (x:Int):O x=(x+9223372036854775808)%18446744073709551616-9223372036854775808:=by
 simp[O,IntKind.wrap,IntKind.signed,IntKind.bits];omega
def i64 (x:Int):Prop:= -9223372036854775808<=x/\x<=9223372036854775807
theorem Tr (x:Int):i64 (O x):=by grind [Qdn,i64]
theorem BO {α:Type} {c:Bool} {a b:α} (h:c=true):(bif c then a else b)=a:=by grind
theorem BZ {α:Type} {c:Bool} {a b:α} (h:c=false):(bif c then a else b)=b:=by grind
theorem Cz {α:Type} {p:Prop} {inst:Decidable p} {a b:α} (h:p):(bif@decide p inst then a else b)=a:=by grind
theorem AR {α:Type} {p:Prop} {inst:Decidable p} {a b:α} (h: ¬p):(bif@decide p inst then a else b)=b:=by grind
theorem Z26 {α:Type} {p:Prop} {inst:Decidable p} {a b:α}:(bif@decide p inst then a else b)=if p then a else b:=by simp
theorem Z9z {α:Type} {c:Bool} {a b:α}:(bif c then a else b)=if c=true then a else b:=by simp
theorem Zp8 {a b:Bool}:((a&&b)=true)=(a=true/\b=true):=by simp
theorem Z17 {a b:Bool}:((a||b)=true)=(a=true\/b=true):=by simp
theorem Zma {a:Bool}:((!a)=true)= ¬(a=true):=by simp
theorem Z9k {p:Prop} {inst:Decidable p}:(@decide p inst=true)=p:=by simp
theorem Z5p {a b:Int}:((a==b)=true)=(a=b):=by simp
theorem Zsg {a b:Int}:((a !=b)=true)=(a≠b):=by simp
theorem Z39 {a b:Nat}:(Nat.beq a b=true)=(a=b):=by simp
theorem Zxo {a b:Nat}:(Nat.ble a b=true)=(a<=b):=by simp
attribute [go_sem ↓] Z26 Z9z Zp8 Z17 Zma Z9k Z5p Zsg Z39 Zxo
theorem F1 {α:Type} (d x:α) (l:List α):nth d (x::l) 0=x:=by rfl
theorem FP (k:IntKind) (n:Int):Ah (.int k n)=n:=by rfl
theorem R0 (b:Bool):Fb (.bool b)=b:=by rfl
theorem Vq (ks:List Kd) (l:List (List AC)):AX (.vC ks l)=l:=by rfl
theorem Zqa {p q:Prop} {i1:Decidable p} {D:Decidable q}:((@decide p i1== @decide q D)=true)=(p↔q):=by simp
theorem Yef {a b:Nat}:((a==b)=true)=(a=b):=by simp
attribute [go_sem ↓] Zqa Yef
attribute [go_sem] ew f9
theorem KU {α:Type} (d x:α) (l:List α):nth d (x::l) 1=nth d l 0:=by rfl
theorem Kw {α:Type} (d x:α) (l:List α):nth d (x::l) 2=nth d l 1:=by rfl
theorem O_ {α:Type} (d x:α) (l:List α):nth d (x::l) 3=nth d l 2:=by rfl
theorem Qh {α:Type} (d x:α) (l:List α):nth d (x::l) 4=nth d l 3:=by rfl
theorem UG {α:Type} (d x:α) (l:List α):nth d (x::l) 5=nth d l 4:=by rfl
theorem Qhv {α:Type} (d x:α) (l:List α):nth d (x::l) 6=nth d l 5:=by rfl
theorem Qf2 {α:Type} (d x:α) (l:List α):nth d (x::l) 7=nth d l 6:=by rfl
theorem Z68 {α:Type} (d x:α) (l:List α):nth d (x::l) 8=nth d l 7:=by rfl
theorem Zsq {α:Type} (d x:α) (l:List α):nth d (x::l) 9=nth d l 8:=by rfl
theorem Z7e {α:Type} (d x:α) (l:List α):nth d (x::l) 10=nth d l 9:=by rfl
theorem Z7c {α:Type} (d x:α) (l:List α):nth d (x::l) 11=nth d l 10:=by rfl
theorem Ya2 {α:Type} (d x:α) (l:List α):nth d (x::l) 12=nth d l 11:=by rfl
theorem Zzj {α:Type} (d x:α) (l:List α):nth d (x::l) 13=nth d l 12:=by rfl
theorem Z4d {α:Type} (d x:α) (l:List α):nth d (x::l) 14=nth d l 13:=by rfl
theorem Zqe {α:Type} (d x:α) (l:List α):nth d (x::l) 15=nth d l 14:=by rfl
theorem Zno {α:Type} (d x:α) (l:List α):nth d (x::l) 16=nth d l 15:=by rfl
theorem Ya8 {α:Type} (d x:α) (l:List α):nth d (x::l) 17=nth d l 16:=by rfl
theorem Z3q {α:Type} (d x:α) (l:List α):nth d (x::l) 18=nth d l 17:=by rfl
theorem Yg4 {α:Type} (d x:α) (l:List α):nth d (x::l) 19=nth d l 18:=by rfl
theorem Ykn {α:Type} (d x:α) (l:List α):nth d (x::l) 20=nth d l 19:=by rfl
theorem Zld {α:Type} (d x:α) (l:List α):nth d (x::l) 21=nth d l 20:=by rfl
theorem Zmq {α:Type} (d x:α) (l:List α):nth d (x::l) 22=nth d l 21:=by rfl
theorem Z45 {α:Type} (d x:α) (l:List α):nth d (x::l) 23=nth d l 22:=by rfl
theorem Zkq {α:Type} (d x:α) (l:List α):nth d (x::l) 24=nth d l 23:=by rfl
theorem Znj {α:Type} (d x:α) (l:List α):nth d (x::l) 25=nth d l 24:=by rfl
theorem Yat {α:Type} (d x:α) (l:List α):nth d (x::l) 26=nth d l 25:=by rfl
theorem Yj0 {α:Type} (d x:α) (l:List α):nth d (x::l) 27=nth d l 26:=by rfl
theorem Z5m {α:Type} (d x:α) (l:List α):nth d (x::l) 28=nth d l 27:=by rfl
theorem Zmz {α:Type} (d x:α) (l:List α):nth d (x::l) 29=nth d l 28:=by rfl
theorem Z4p {α:Type} (d x:α) (l:List α):nth d (x::l) 30=nth d l 29:=by rfl
theorem Zqx {α:Type} (d x:α) (l:List α):nth d (x::l) 31=nth d l 30:=by rfl
theorem Z6i {α:Type} (d x:α) (l:List α):nth d (x::l) 32=nth d l 31:=by rfl
theorem Zwz {α:Type} (d x:α) (l:List α):nth d (x::l) 33=nth d l 32:=by rfl
theorem Yh8 {α:Type} (d x:α) (l:List α):nth d (x::l) 34=nth d l 33:=by rfl
theorem Z2d {α:Type} (d x:α) (l:List α):nth d (x::l) 35=nth d l 34:=by rfl
theorem Yjl {α:Type} (d x:α) (l:List α):nth d (x::l) 36=nth d l 35:=by rfl
theorem Z0i {α:Type} (d x:α) (l:List α):nth d (x::l) 37=nth d l 36:=by rfl
theorem Z5t {α:Type} (d x:α) (l:List α):nth d (x::l) 38=nth d l 37:=by rfl
theorem Z4l {α:Type} (d x:α) (l:List α):nth d (x::l) 39=nth d l 38:=by rfl
attribute [go_sem] F1 KU Kw O_ Qh UG Qhv Qf2 Z68 Zsq Z7e Z7c Ya2 Zzj Z4d Zqe Zno Ya8 Z3q Yg4 Ykn Zld Zmq Z45 Zkq Znj Yat Yj0 Z5m Zmz Z4p Zqx Z6i Zwz Yh8 Z2d Yjl Z0i Z5t Z4l FP R0 Vq am
theorem Q1f {S:Type} {step:List AC->Option (Nat×List AC)} (enc:S->List AC) (Inv:S->Prop) (m:S->Nat) (Q:Nat×List AC->Prop)
  (h:∀s,Inv s->(∃D,step (enc s)=some (0,enc D)/\Inv D/\m D<m s)\/∃o,step (enc s)=some o/\o.1≠0/\Q o):
  ∀s,Inv s->∃o,Al step (enc s)=some o/\o.1≠0/\Q o:=by
 have:∀n s,m s<=n->Inv s->∃o,Al step (enc s)=some o/\o.1≠0/\Q o:=by
  intro n;induction n with
  |zero=>grind [Ts]
  |succ n I=>grind [Ts]
 intro s G;exact this _ s (bt _) G
theorem AS {step:List AC->Option (Nat×List AC)} {v w:List AC} (h:step v=some (0,w)):Al step v=Al step w:=by grind [Ts]
theorem AJ {step:List AC->Option (Nat×List AC)} {v:List AC} {o:Nat×List AC} (h:step v=some o) (D:o.1≠0):Al step v=some o:=by grind [Ts]
theorem Z3i {sig D:Sk} {m:List AC->Option (List AC)} {args:List TV} {vars:List AC} (G:DC sig ⟨args,[],[]⟩=some vars) (I:m vars=some [B true]) (L:AF D [B true]=⟨[.v false [.bool true]],[],[]⟩):
  (Ab sig D m (TV×Mem) args ⟨[],[]⟩ λv m=>some (v,m))=some (.v false [.bool true],⟨[],[]⟩):=by simp_all [Ab,Ao]
theorem Ar.tv_of {a:Ar} {g:Bool} {ks:List Kd} (D:a.agg=g) (G:a.ks=ks):a.tv= .v g (AE ks a.raw):=by grind [Ar.tv]
theorem Em {α:Type} (f:α->List AC) (d:List AC):∀(l:List α) (i:Nat) (h:i<l.length),nth d (l.map f) i=f l[i]
 |x::l,0,_=>rfl
 |x::l,i+1,h=>by simp only[be,nth,js];exact Em f d l i (by grind)
theorem Fs {α:Type} (d:α):∀(l:List α) (i:Nat) (h:i<l.length),nth d l i=l[i]
 |x::l,0,_=>rfl
 |x::l,i+1,h=>by simp only[nth,js];exact Fs d l i (by grind)
def At (n:Int):List AC:=[I n]
theorem KM {α:Type} (l:List α) (i:Nat) (h:i<l.length):l.drop i=l[i]::l.drop (i+1):=by simp
structure Pt where
 (x y z:Int)
structure Itm where
 (aP block:Int)
 (fr to:Pt)
 (aG:Int)
 (ce:Pt)
 (dir:Int)
 bG:Bool
 aZ:Int
 perRev:Bool
 (side radius bH n aS:Int)
 on:Bool
structure Sgm where
 to:Pt
 (len aU aZ aX:Int)
structure Mrk where
 (at_ aP aU:Int)
structure Pth where
 aQ:Pt
 aF:List Sgm
 aD:List Mrk
structure Axs where
 (step aS bD bE low aY bB aV aO:Int)
 aW:List Int
structure Pce where
 (at_ aR s bC:Int)
 (was aT:Pt)
structure Trk where
 aE:List Pce
 (length aQ:Int)
 aT:Pt
structure Spk where
 (u w r h:Int)
instance:DecidableEq Pt:=λa b=>by
 obtain⟨a1,a2,a3⟩:=a;obtain⟨b1,b2,b3⟩:=b;exact decidable_of_iff (a1=b1/\a2=b2/\a3=b3) (by simp)
instance:DecidableEq Sgm:=λa b=>by
 obtain⟨a1,a2,a3,a4,a5⟩:=a;obtain⟨b1,b2,b3,b4,b5⟩:=b;exact decidable_of_iff (a1=b1/\a2=b2/\a3=b3/\a4=b4/\a5=b5) (by simp)
instance:DecidableEq Mrk:=λa b=>by
 obtain⟨a1,a2,a3⟩:=a;obtain⟨b1,b2,b3⟩:=b;exact decidable_of_iff (a1=b1/\a2=b2/\a3=b3) (by simp)
instance:DecidableEq Pce:=λa b=>by
 obtain⟨a1,a2,a3,a4,a5,a6⟩:=a;obtain⟨b1,b2,b3,b4,b5,b6⟩:=b;exact decidable_of_iff (a1=b1/\a2=b2/\a3=b3/\a4=b4/\a5=b5/\a6=b6) (by simp)
abbrev kI:Kd:= .int .i64
abbrev kU:Kd:= .int .u64
abbrev kB:Kd:= .bool
abbrev Aa:List Kd:=[kI]
abbrev kPt:List Kd:=[kI,kI,kI]
abbrev Ae:List Kd:=[kI,kI,kI,kI,kI,kI,kI,kI,kI,kI,kI,kI,kI,kB,kI,kB,kI,kI,kI,kI,kI,kB]
abbrev Ag:List Kd:=[kI,kI,kI,kI,kI,kI,kI]
abbrev AA:List Kd:=[kI,kI,kI]
abbrev Ap:List Kd:=[kI,kI,kI,kI,kI,kI,kI,kI,kI,kI]
abbrev BQ:List Kd:=[kI,kI,kI,kI]
abbrev ptR (p:Pt):List AC:=[I p.x,I p.y,I p.z]
abbrev Af (t:Itm):List AC:=[I t.aP,I t.block,I t.fr.x,I t.fr.y,I t.fr.z,I t.to.x,I t.to.y,I t.to.z,I t.aG,I t.ce.x,I t.ce.y,I t.ce.z,I t.dir,B t.bG,I t.aZ,B t.perRev,I t.side,I t.radius,I t.bH,I t.n,I t.aS,B t.on]
abbrev Az (g:Sgm):List AC:=[I g.to.x,I g.to.y,I g.to.z,I g.len,I g.aU,I g.aZ,I g.aX]
abbrev Aq (m:Mrk):List AC:=[I m.at_,I m.aP,I m.aU]
abbrev AZ (c:Pce):List AC:=[I c.at_,I c.aR,I c.s,I c.bC,I c.was.x,I c.was.y,I c.was.z,I c.aT.x,I c.aT.y,I c.aT.z]
abbrev AW (s:Spk):List AC:=[I s.u,I s.w,I s.r,I s.h]
abbrev Bj (p:Pth):List AC:=[I p.aQ.x,I p.aQ.y,I p.aQ.z, .vC Ag (p.aF.map Az), .vC AA (p.aD.map Aq)]
abbrev Bk (x:Axs):List AC:=[I x.step,I x.aS,I x.bD,I x.bE,I x.low,I x.aY,I x.bB,I x.aV,I x.aO, .vC Aa (x.aW.map At)]
abbrev Bt (t:Trk):List AC:=[.vC Ap (t.aE.map AZ),I t.length,I t.aQ,I t.aT.x,I t.aT.y,I t.aT.z]
structure Ax3 where
 (a b c:Axs)
abbrev AK (x:Ax3):List AC:=[I x.a.step,I x.a.aS,I x.a.bD,I x.a.bE,I x.a.low,I x.a.aY,I x.a.bB,I x.a.aV,I x.a.aO, .vC Aa (x.a.aW.map At),I x.b.step,I x.b.aS,I x.b.bD,I x.b.bE,I x.b.low,I x.b.aY,I x.b.bB,I x.b.aV,I x.b.aO, .vC Aa (x.b.aW.map At),I x.c.step,I x.c.aS,I x.c.bD,I x.c.bE,I x.c.low,I x.c.aY,I x.c.bB,I x.c.aV,I x.c.aO, .vC Aa (x.c.aW.map At)]
abbrev pxt (p:Pth) (x:Ax3) (t:Trk) (l:List AC):List AC:=
 I p.aQ.x::I p.aQ.y::I p.aQ.z:: .vC Ag (p.aF.map Az):: .vC kPt (p.aD.map Aq)::
 I x.a.step::I x.a.aS::I x.a.bD::I x.a.bE::I x.a.low::I x.a.aY::I x.a.bB::I x.a.aV::I x.a.aO:: .vC Aa (x.a.aW.map At)::
 I x.b.step::I x.b.aS::I x.b.bD::I x.b.bE::I x.b.low::I x.b.aY::I x.b.bB::I x.b.aV::I x.b.aO:: .vC Aa (x.b.aW.map At)::
 I x.c.step::I x.c.aS::I x.c.bD::I x.c.bE::I x.c.low::I x.c.aY::I x.c.bB::I x.c.aV::I x.c.aO:: .vC Aa (x.c.aW.map At)::
 .vC Ap (t.aE.map AZ)::I t.length::I t.aQ::I t.aT.x::I t.aT.y::I t.aT.z::l
abbrev Fa (p:Pth) (t:Trk) (l:List AC):List AC:=
 I p.aQ.x::I p.aQ.y::I p.aQ.z:: .vC Ag (p.aF.map Az):: .vC kPt (p.aD.map Aq)::
 .vC Ap (t.aE.map AZ)::I t.length::I t.aQ::I t.aT.x::I t.aT.y::I t.aT.z::l
theorem Zyh {a:AC} (h:okC kI a):i64 (Ah a):=by
 unfold okC at h;unfold i64;exact h
abbrev gA (l:List AC) (k:Nat):Int:=Ah (nth .vD l k)
abbrev jA (l:List AC) (k:Nat):AC:= .int .i64 (Ah (nth .vD l k))
abbrev wA (l:List AC) (k:Nat):List (List AC):=AX (nth .vD l k)
abbrev bA (l:List AC) (k:Nat):Bool:=Fb (nth .vD l k)
abbrev Fn:=List AC->Option (List AC)
abbrev Lp:=List AC->Option (Nat×List AC)
abbrev Rw:=List (List AC)
abbrev ci:CS:= .int .i64
abbrev tf:List CS->TS:= .v false
abbrev td:TS:= .vD
attribute [go_sem] gA jA wA bA ax ay
theorem Yaw (r:List AC):AE Ae r=[jA r 0,jA r 1,jA r 2,jA r 3,jA r 4,jA r 5,jA r 6,jA r 7,jA r 8,jA r 9,jA r 10,jA r 11,jA r 12,B (bA r 13),jA r 14,B (bA r 15),jA r 16,jA r 17,jA r 18,jA r 19,jA r 20,B (bA r 21)]:=rfl
theorem Zb9 (r:List AC):AE Ag r=[jA r 0,jA r 1,jA r 2,jA r 3,jA r 4,jA r 5,jA r 6]:=rfl
theorem Zvy (r:List AC):AE Ap r=[jA r 0,jA r 1,jA r 2,jA r 3,jA r 4,jA r 5,jA r 6,jA r 7,jA r 8,jA r 9]:=rfl
attribute [go_sem] Yaw Zb9 Zvy
end Go.Bm
