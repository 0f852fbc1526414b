/- What proofs about models use: loops by invariants, ints within their kind's range, lists of rows. -/
import Derived.Test.YtommijghjlikkaaGreatBmLaw
set_option linter.unusedVariables false
set_option linter.unusedSimpArgs false
namespace Go.Bm
abbrev I (n:Int):AC:= .int .i64 n
abbrev U (n:Int):AC:= .int .u64 n
abbrev B (b:Bool):AC:= .bool b
theorem Hm {x:Int} (h:0<=x/\x<=18446744073709551615):IntKind.u64.wrap x=x:=by
 simp[IntKind.wrap,IntKind.signed,IntKind.bits];omega
theorem NO (x:Int):IntKind.u64.wrap x=x%18446744073709551616:=by
 simp[IntKind.wrap,IntKind.signed,IntKind.bits]
theorem Qeq (x:Int):IntKind.i64.wrap x=(x+9223372036854775808)%18446744073709551616-9223372036854775808:=by
 simp[IntKind.wrap,IntKind.signed,IntKind.bits];omega
def i64 (x:Int):Prop:= -9223372036854775808<=x/\x<=9223372036854775807
theorem Z2m (x:Int):i64 (IntKind.i64.wrap x):=by
 rw[Qeq];unfold i64;omega
theorem Br {α:Type} {c:Bool} {a b:α} (h:c=true):(bif c then a else b)=a:=by rw[h];rfl
theorem Ba {α:Type} {c:Bool} {a b:α} (h:c=false):(bif c then a else b)=b:=by rw[h];rfl
theorem DA {α:Type} {p:Prop} {inst:Decidable p} {a b:α} (h:p):(bif@decide p inst then a else b)=a:=by rw[@decide_eq_true p inst h];rfl
theorem AX {α:Type} {p:Prop} {inst:Decidable p} {a b:α} (h: ¬p):(bif@decide p inst then a else b)=b:=by rw[@decide_eq_false p inst h];rfl
theorem Zcz {α:Type} {p:Prop} {inst:Decidable p} {a b:α}:(bif@decide p inst then a else b)=if p then a else b:=by
 by_cases h:p
 ·rw[DA h,if_pos h]
 ·rw[AX h,if_neg h]
theorem Z3d {α:Type} {c:Bool} {a b:α}:(bif c then a else b)=if c=true then a else b:=by cases c<;>rfl
theorem Zfo {a b:Bool}:((a&&b)=true)=(a=true/\b=true):=by cases a<;>cases b<;>simp
theorem Zq6 {a b:Bool}:((a||b)=true)=(a=true\/b=true):=by cases a<;>cases b<;>simp
theorem Zyd {a:Bool}:((!a)=true)= ¬(a=true):=by cases a<;>simp
theorem Zsl {p:Prop} {inst:Decidable p}:(@decide p inst=true)=p:=by simp
theorem Zbp {a b:Int}:((a==b)=true)=(a=b):=by simp
theorem Zpv {a b:Int}:((a !=b)=true)=(a≠b):=by simp
theorem Zan {a b:Nat}:(Nat.beq a b=true)=(a=b):=by simp
theorem Zch {a b:Nat}:(Nat.ble a b=true)=(a<=b):=by simp
attribute [go_sem ↓] Zcz Z3d Zfo Zq6 Zyd Zsl Zbp Zpv Zan Zch
theorem Hu {α:Type} (d x:α) (l:List α):nth d (x::l) 0=x:=by simp[nth]
theorem HB (k:IntKind) (n:Int):Af (.int k n)=n:=by simp[Af]
theorem Qhh (b:Bool):CV (.bool b)=b:=by simp[CV]
theorem WE (ks:List Kd) (l:List (List AC)):BL (.view ks l)=l:=by simp[BL]
theorem Zd0 {p q:Prop} {i1:Decidable p} {i2:Decidable q}:((@decide p i1== @decide q i2)=true)=(p↔q):=by simp
theorem Zeo {a b:Nat}:((a==b)=true)=(a=b):=by simp
attribute [go_sem ↓] Zd0 Zeo
attribute [go_sem] if_true if_false
theorem KD {α:Type} (d x:α) (l:List α):nth d (x::l) 1=nth d l 0:=by simp[nth]
theorem Lk {α:Type} (d x:α) (l:List α):nth d (x::l) 2=nth d l 1:=by simp[nth]
theorem PQ {α:Type} (d x:α) (l:List α):nth d (x::l) 3=nth d l 2:=by simp[nth]
theorem PR {α:Type} (d x:α) (l:List α):nth d (x::l) 4=nth d l 3:=by simp[nth]
theorem SW {α:Type} (d x:α) (l:List α):nth d (x::l) 5=nth d l 4:=by simp[nth]
theorem Xb {α:Type} (d x:α) (l:List α):nth d (x::l) 6=nth d l 5:=by simp[nth]
theorem Qmb {α:Type} (d x:α) (l:List α):nth d (x::l) 7=nth d l 6:=by simp[nth]
theorem Zmp {α:Type} (d x:α) (l:List α):nth d (x::l) 8=nth d l 7:=by simp[nth]
theorem Z0q {α:Type} (d x:α) (l:List α):nth d (x::l) 9=nth d l 8:=by simp[nth]
theorem Zwp {α:Type} (d x:α) (l:List α):nth d (x::l) 10=nth d l 9:=by simp[nth]
theorem Z0c {α:Type} (d x:α) (l:List α):nth d (x::l) 11=nth d l 10:=by simp[nth]
theorem Ztj {α:Type} (d x:α) (l:List α):nth d (x::l) 12=nth d l 11:=by simp[nth]
theorem Z3r {α:Type} (d x:α) (l:List α):nth d (x::l) 13=nth d l 12:=by simp[nth]
theorem Zqs {α:Type} (d x:α) (l:List α):nth d (x::l) 14=nth d l 13:=by simp[nth]
theorem Zie {α:Type} (d x:α) (l:List α):nth d (x::l) 15=nth d l 14:=by simp[nth]
theorem Q92 {α:Type} (d x:α) (l:List α):nth d (x::l) 16=nth d l 15:=by simp[nth]
theorem Zla {α:Type} (d x:α) (l:List α):nth d (x::l) 17=nth d l 16:=by simp[nth]
theorem Zgm {α:Type} (d x:α) (l:List α):nth d (x::l) 18=nth d l 17:=by simp[nth]
theorem Zz4 {α:Type} (d x:α) (l:List α):nth d (x::l) 19=nth d l 18:=by simp[nth]
theorem Zpl {α:Type} (d x:α) (l:List α):nth d (x::l) 20=nth d l 19:=by simp[nth]
theorem Q90 {α:Type} (d x:α) (l:List α):nth d (x::l) 21=nth d l 20:=by simp[nth]
theorem Zib {α:Type} (d x:α) (l:List α):nth d (x::l) 22=nth d l 21:=by simp[nth]
theorem Zza {α:Type} (d x:α) (l:List α):nth d (x::l) 23=nth d l 22:=by simp[nth]
theorem Zqz {α:Type} (d x:α) (l:List α):nth d (x::l) 24=nth d l 23:=by simp[nth]
theorem Zjt {α:Type} (d x:α) (l:List α):nth d (x::l) 25=nth d l 24:=by simp[nth]
theorem Zhs {α:Type} (d x:α) (l:List α):nth d (x::l) 26=nth d l 25:=by simp[nth]
theorem Zw3 {α:Type} (d x:α) (l:List α):nth d (x::l) 27=nth d l 26:=by simp[nth]
theorem Zwh {α:Type} (d x:α) (l:List α):nth d (x::l) 28=nth d l 27:=by simp[nth]
theorem Zi9 {α:Type} (d x:α) (l:List α):nth d (x::l) 29=nth d l 28:=by simp[nth]
theorem Zf3 {α:Type} (d x:α) (l:List α):nth d (x::l) 30=nth d l 29:=by simp[nth]
theorem Z06 {α:Type} (d x:α) (l:List α):nth d (x::l) 31=nth d l 30:=by simp[nth]
theorem Zkg {α:Type} (d x:α) (l:List α):nth d (x::l) 32=nth d l 31:=by simp[nth]
theorem Zp9 {α:Type} (d x:α) (l:List α):nth d (x::l) 33=nth d l 32:=by simp[nth]
theorem Zlb {α:Type} (d x:α) (l:List α):nth d (x::l) 34=nth d l 33:=by simp[nth]
theorem Zkn {α:Type} (d x:α) (l:List α):nth d (x::l) 35=nth d l 34:=by simp[nth]
theorem Z1s {α:Type} (d x:α) (l:List α):nth d (x::l) 36=nth d l 35:=by simp[nth]
theorem Z0f {α:Type} (d x:α) (l:List α):nth d (x::l) 37=nth d l 36:=by simp[nth]
theorem Z3u {α:Type} (d x:α) (l:List α):nth d (x::l) 38=nth d l 37:=by simp[nth]
theorem Zvh {α:Type} (d x:α) (l:List α):nth d (x::l) 39=nth d l 38:=by simp[nth]
attribute [go_sem] Hu KD Lk PQ PR SW Xb Qmb Zmp Z0q Zwp Z0c Ztj Z3r Zqs Zie Q92 Zla Zgm Zz4 Zpl Q90 Zib Zza Zqz Zjt Zhs Zw3 Zwh Zi9 Zf3 Z06 Zkg Zp9 Zlb Zkn Z1s Z0f Z3u Zvh HB Qhh WE Option.bind_some
theorem Q03 {S:Type} {step:List AC->Option (Nat×List AC)} (enc:S->List AC) (Inv:S->Prop) (m:S->Nat) (Q:Nat×List AC->Prop)
  (h:∀s,Inv s->(∃s',step (enc s)=some (0,enc s')/\Inv s'/\m s'<m s)\/∃o,step (enc s)=some o/\o.1≠0/\Q o):
  ∀s,Inv s->∃o,An step (enc s)=some o/\o.1≠0/\Q o:=by
 have:∀n s,m s<=n->Inv s->∃o,An step (enc s)=some o/\o.1≠0/\Q o:=by
  intro n;induction n with
  |zero=>
   intro s hs hi;rcases h s hi with⟨s',h1,h2,h3⟩|⟨o,h1,h2,h3⟩
   ·omega
   ·refine⟨o,?_,h2,h3⟩;rw[OT,h1];simp[h2]
  |succ n ih=>
   intro s hs hi;rcases h s hi with⟨s',h1,h2,h3⟩|⟨o,h1,h2,h3⟩
   ·obtain⟨o,h4,h5⟩:=ih s' (by omega) h2;refine⟨o,?_,h5⟩;rw[OT,h1];simpa using h4
   ·refine⟨o,?_,h2,h3⟩;rw[OT,h1];simp[h2]
 intro s hi;exact this _ s (Nat.le_refl _) hi
theorem Bv {step:List AC->Option (Nat×List AC)} {v w:List AC} (h:step v=some (0,w)):An step v=An step w:=by
 rw[OT,h];rfl
theorem A5 {step:List AC->Option (Nat×List AC)} {v:List AC} {o:Nat×List AC} (h:step v=some o) (h0:o.1≠0):An step v=some o:=by
 rw[OT,h];simp[h0]
theorem Zcy {sig osig:Sk} {m:List AC->Option (List AC)} {args:List TV} {vars:List AC} (h1:E8 sig ⟨args,[],[]⟩=some vars) (h2:m vars=some [B true]) (h3:Bn osig [B true]=⟨[.v false [.bool true]],[],[]⟩):
  (Ac sig osig m (TV×Mem) args ⟨[],[]⟩ fun v m=>some (v,m))=some (.v false [.bool true],⟨[],[]⟩):=by
 simp only[Ac,Aj,cond_true];rw[h1];dsimp only;rw[h2];simp only[Option.bind_some];rw[h3]
theorem Ar.tv_of {a:Ar} {g:Bool} {ks:List Kd} (h1:a.agg=g) (h2:a.ks=ks):a.tv= .v g (AJ ks a.raw):=by unfold Ar.tv;rw[h1,h2]
theorem IW {α:Type} (f:α->List AC) (d:List AC):∀(l:List α) (i:Nat) (h:i<l.length),nth d (l.map f) i=f l[i]
 |x::l,0,_=>rfl
 |x::l,i+1,h=>by simp only[List.map_cons,nth,List.getElem_cons_succ];exact IW f d l i (by simpa using h)
theorem GX {α:Type} (d:α):∀(l:List α) (i:Nat) (h:i<l.length),nth d l i=l[i]
 |x::l,0,_=>rfl
 |x::l,i+1,h=>by simp only[nth,List.getElem_cons_succ];exact GX d l i (by simpa using h)
def Ap (n:Int):List AC:=[I n]
theorem NB {α:Type} (l:List α) (i:Nat) (h:i<l.length):l.drop i=l[i]::l.drop (i+1):=by simp
end Go.Bm
