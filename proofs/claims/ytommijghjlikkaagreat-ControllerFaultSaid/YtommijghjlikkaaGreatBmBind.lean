/- The abstract machine, second form: an operation's primitive does not hang on what follows it; it names only what is there. -/
import Derived.Test.YtommijghjlikkaaGreatBmSt2
set_option linter.unusedVariables false
set_option linter.unusedSimpArgs false
namespace Go.Bm
open Go.RowKit
section
variable {P:Program} {C:Cfg} {R:Type}
theorem Y2 (op:BinOp) (k:IntKind) (a b:Int) (K:AC->Option R):G2 op k a b K=(G2 op k a b some).bind K:=by
 cases op<;>simp only[G2,Option.bind_some]
 all_goals first|(cases decide (b=0)<;>rfl)|(cases decide (b<0)<;>rfl)
theorem Ns {i:Int}:∀(n k:Nat) {R S:Type} (f:Nat->Option R) (K:R->Option S),GI i n k (fun j=>(f j).bind K)=(GI i n k f).bind K
 |0,k,_,_,f,K=>rfl
 |n+1,k,_,_,f,K=>by
  simp only[GI];rw[Ns n (k+1) f K];cases decide (i=(k:Int))<;>rfl
theorem X0 (g:Int->Int->Int) (k:IntKind):∀(l:List TV) (a:Int) (K:Prim->Option R),Fqs g k a l K=(Fqs g k a l some).bind K
 |[],a,K=>by simp[Fqs]
 |t::l,a,K=>by
  unfold Fqs;split
  ·rename_i k' b;cases kEq k k'
   ·rfl
   ·exact X0 g k l (g a b) K
  ·rfl
theorem Zcu (b:Builtin) (ats:List TypeId) (args:List TV) (K:Prim->Option R):LL P b ats args K=(LL P b ats args some).bind K:=by
 unfold LL;split
 case h_6=>exact X0 _ _ _ _ _
 case h_7=>exact X0 _ _ _ _ _
 case h_8=>
  split
  ·split
   ·split
    ·split
     ·cases(Nat.beq _ _&&Nat.beq _ _&&Nat.beq _ _)<;>rfl
     ·rfl
    ·rfl
   ·rfl
  ·rfl
 all_goals
  repeat' split
  all_goals rfl
theorem Is (c:Bool) (p:Prim) (K:Prim->Option R):cond c (K p) none=(cond c (some p) none).bind K:=by cases c<;>rfl
theorem Pz (ev:Operand->TV) (dst:Option Tmp) (o:Op) (K:Prim->Option R):opK P C ev dst o K=(opK P C ev dst o some).bind K:=by
 cases o
 case pick c a b=>
  simp only[opK];split
  ·rename_i g _;cases g<;>rfl
  ·rfl
 case build t parts=>
  simp only[opK];split
  ·cases(Aj _ _)
   ·rfl
   ·simp only[cond_true];split<;>rfl
  ·split
   ·split<;>rfl
   ·rfl
  ·rfl
 case buildSlice t n parts=>
  simp only[opK];split
  ·split
   ·cases(Nat.beq _ _&&Nat.beq _ _&&Nat.ble 1 _&&Nat.ble _ 65536)
    ·rfl
    ·simp only[cond_true];split
     ·split
      ·cases RU C dst _<;>rfl
      ·cases(Aj AC.isClo _&&Nat.beq _ 1)<;>rfl
     ·rfl
   ·rfl
  ·rfl
 case makeSlice t len cap=>
  simp only[opK];split
  ·split
   ·split
    ·cases(Nat.beq _ _&&Nat.ble 1 _&&Nat.ble 1 _)
     ·rfl
     ·simp only[cond_true];exact Is _ _ _
    ·rfl
   ·rfl
  ·rfl
 case makeFunc fn a b=>
  simp only[opK];split
  ·split<;>rfl
  ·rfl
 case store t a x=>
  simp only[opK];split
  ·cases(Nat.beq _ _)
   ·rfl
   ·simp only[cond_true];split<;>rfl
  ·rfl
 case binOp op t x y yt=>
  simp only[opK];split
  ·cases(kEq _ _||Np op)
   ·rfl
   ·simp only[cond_true];rename_i k a k' b _ _;have h2:=Y2 op k a b (fun v=>(some (Prim.val (TV.c v)):Option Prim));rw[Y2,h2];cases G2 op k a b some<;>rfl
  ·split<;>rfl
  ·split<;>rfl
  ·cases(P.eqGuardType P.depth t)
   ·simp only[cond_false];split<;>rfl
   ·rfl
  ·rfl
 case indexAddr t x ix=>
  simp only[opK];split
  ·split
   ·exact Ns _ _ (fun j=>some _) K
   ·exact Ns _ _ (fun j=>some _) K
   ·exact Ns _ _ (fun j=>some _) K
   ·rfl
  ·split
   ·cases(Nat.beq _ _)
    ·rfl
    ·simp only[cond_true];exact Is _ _ _
   ·cases(Nat.beq _ _)
    ·rfl
    ·simp only[cond_true];exact Is _ _ _
   ·cases(Nat.beq _ _)
    ·rfl
    ·simp only[cond_true];exact Ns _ _ (fun j=>some _) K
   ·rfl
  ·rfl
 case index t x ix=>
  simp only[opK];split
  ·split
   ·rename_i m _;rw[<-Ns];congr 1
    funext j
    split<;>rfl
   ·rfl
  ·rfl
 case slice t x lo hi mx=>
  simp only[opK];split
  ·split
   ·cases(Nat.beq _ _)
    ·rfl
    ·simp only[cond_true];split
     ·rfl
     ·exact Is _ _ _
     ·exact Is _ _ _
     ·exact Is _ _ _
   ·split
    ·cases(Nat.beq _ _)
     ·rfl
     ·simp only[cond_true];exact Is _ _ _
    ·rfl
   ·split
    ·rfl
    ·exact Is _ _ _
    ·exact Is _ _ _
    ·exact Is _ _ _
   ·rfl
  ·rfl
 case call c=>
  simp only[opK];split
  ·exact Zcu _ _ _ _
  ·cases C.pure _<;>rfl
  ·split
   ·cases(Aj _ _&&Aj _ _)<;>rfl
   ·rfl
  ·rfl
 all_goals
  simp only[opK]
  repeat' split
  all_goals rfl
end
end Go.Bm
