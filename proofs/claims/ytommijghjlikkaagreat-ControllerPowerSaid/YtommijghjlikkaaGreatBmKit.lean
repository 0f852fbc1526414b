/- What proofs about models use: loops by invariants, ints within their kind's range, lists of rows. -/
import Derived.Test.YtommijghjlikkaaGreatBmLaw
set_option linter.unusedVariables false
set_option linter.unusedSimpArgs false
namespace Go.Bm

abbrev I (n:Int):AC:= .int .i64 n
abbrev U (n:Int):AC:= .int .u64 n
abbrev B (b:Bool):AC:= .bool b

theorem G2 {x:Int} (h:0<=x/\x<=18446744073709551615):IntKind.u64.wrap x=x:=by
 simp[IntKind.wrap,IntKind.signed,IntKind.bits]
 omega
theorem NH (x:Int):IntKind.u64.wrap x=x%18446744073709551616:=by
 simp[IntKind.wrap,IntKind.signed,IntKind.bits]
theorem Qno (x:Int):IntKind.i64.wrap x=(x+9223372036854775808)%18446744073709551616-9223372036854775808:=by
 simp[IntKind.wrap,IntKind.signed,IntKind.bits]
 omega
def i64 (x:Int):Prop:= -9223372036854775808<=x/\x<=9223372036854775807
theorem Zb2 (x:Int):i64 (IntKind.i64.wrap x):=by
 rw[Qno];unfold i64;omega
theorem Bz {α:Type} {c:Bool} {a b:α} (h:c=true):(bif c then a else b)=a:=by rw[h];rfl
theorem Bl {α:Type} {c:Bool} {a b:α} (h:c=false):(bif c then a else b)=b:=by rw[h];rfl
theorem Du {α:Type} {p:Prop} {inst:Decidable p} {a b:α} (h:p):(bif@decide p inst then a else b)=a:=by rw[@decide_eq_true p inst h];rfl
theorem AW {α:Type} {p:Prop} {inst:Decidable p} {a b:α} (h: ¬p):(bif@decide p inst then a else b)=b:=by rw[@decide_eq_false p inst h];rfl
theorem Zzp {α:Type} {p:Prop} {inst:Decidable p} {a b:α}:(bif@decide p inst then a else b)=if p then a else b:=by
 by_cases h:p
 ·rw[Du h,if_pos h]
 ·rw[AW h,if_neg h]

theorem Zs8 {α:Type} {c:Bool} {a b:α}:(bif c then a else b)=if c=true then a else b:=by cases c<;>rfl
theorem Zj9 {a b:Bool}:((a&&b)=true)=(a=true/\b=true):=by cases a<;>cases b<;>simp
theorem Zrp {a b:Bool}:((a||b)=true)=(a=true\/b=true):=by cases a<;>cases b<;>simp
theorem Zy5 {a:Bool}:((!a)=true)= ¬(a=true):=by cases a<;>simp
theorem Zcv {p:Prop} {inst:Decidable p}:(@decide p inst=true)=p:=by simp
theorem Zyx {a b:Int}:((a==b)=true)=(a=b):=by simp
theorem Zur {a b:Int}:((a !=b)=true)=(a≠b):=by simp
theorem Zzt {a b:Nat}:(Nat.beq a b=true)=(a=b):=by simp
theorem Zgo {a b:Nat}:(Nat.ble a b=true)=(a<=b):=by simp
attribute [go_sem ↓] Zzp Zs8 Zj9 Zrp Zy5 Zcv Zyx Zur Zzt Zgo
theorem G8 {α:Type} (d x:α) (l:List α):nth d (x::l) 0=x:=by simp[nth]
theorem He (k:IntKind) (n:Int):Af (.int k n)=n:=by simp[Af]
theorem Qmr (b:Bool):B6 (.bool b)=b:=by simp[B6]
theorem Qfw (ks:List Kd) (l:List (List AC)):Br (.view ks l)=l:=by simp[Br]
theorem Zlu {p q:Prop} {i1:Decidable p} {i2:Decidable q}:((@decide p i1== @decide q i2)=true)=(p↔q):=by simp
theorem Ziz {a b:Nat}:((a==b)=true)=(a=b):=by simp
attribute [go_sem ↓] Zlu Ziz
attribute [go_sem] if_true if_false
theorem Ke {α:Type} (d x:α) (l:List α):nth d (x::l) 1=nth d l 0:=by simp[nth]
theorem Kn {α:Type} (d x:α) (l:List α):nth d (x::l) 2=nth d l 1:=by simp[nth]
theorem Ou {α:Type} (d x:α) (l:List α):nth d (x::l) 3=nth d l 2:=by simp[nth]
theorem Pf {α:Type} (d x:α) (l:List α):nth d (x::l) 4=nth d l 3:=by simp[nth]
theorem R_ {α:Type} (d x:α) (l:List α):nth d (x::l) 5=nth d l 4:=by simp[nth]
theorem Qe8 {α:Type} (d x:α) (l:List α):nth d (x::l) 6=nth d l 5:=by simp[nth]
theorem YP {α:Type} (d x:α) (l:List α):nth d (x::l) 7=nth d l 6:=by simp[nth]
theorem Zec {α:Type} (d x:α) (l:List α):nth d (x::l) 8=nth d l 7:=by simp[nth]
theorem Zlx {α:Type} (d x:α) (l:List α):nth d (x::l) 9=nth d l 8:=by simp[nth]
theorem Zzm {α:Type} (d x:α) (l:List α):nth d (x::l) 10=nth d l 9:=by simp[nth]
theorem Zr8 {α:Type} (d x:α) (l:List α):nth d (x::l) 11=nth d l 10:=by simp[nth]
theorem Q9x {α:Type} (d x:α) (l:List α):nth d (x::l) 12=nth d l 11:=by simp[nth]
theorem Zev {α:Type} (d x:α) (l:List α):nth d (x::l) 13=nth d l 12:=by simp[nth]
theorem Zk9 {α:Type} (d x:α) (l:List α):nth d (x::l) 14=nth d l 13:=by simp[nth]
theorem Zph {α:Type} (d x:α) (l:List α):nth d (x::l) 15=nth d l 14:=by simp[nth]
theorem Q74 {α:Type} (d x:α) (l:List α):nth d (x::l) 16=nth d l 15:=by simp[nth]
theorem Zbi {α:Type} (d x:α) (l:List α):nth d (x::l) 17=nth d l 16:=by simp[nth]
theorem Zzb {α:Type} (d x:α) (l:List α):nth d (x::l) 18=nth d l 17:=by simp[nth]
theorem Zsh {α:Type} (d x:α) (l:List α):nth d (x::l) 19=nth d l 18:=by simp[nth]
theorem Zq3 {α:Type} (d x:α) (l:List α):nth d (x::l) 20=nth d l 19:=by simp[nth]
theorem Zb1 {α:Type} (d x:α) (l:List α):nth d (x::l) 21=nth d l 20:=by simp[nth]
theorem Q85 {α:Type} (d x:α) (l:List α):nth d (x::l) 22=nth d l 21:=by simp[nth]
theorem Zfa {α:Type} (d x:α) (l:List α):nth d (x::l) 23=nth d l 22:=by simp[nth]
theorem Zt1 {α:Type} (d x:α) (l:List α):nth d (x::l) 24=nth d l 23:=by simp[nth]
theorem Zx9 {α:Type} (d x:α) (l:List α):nth d (x::l) 25=nth d l 24:=by simp[nth]
theorem Zcj {α:Type} (d x:α) (l:List α):nth d (x::l) 26=nth d l 25:=by simp[nth]
theorem Z0g {α:Type} (d x:α) (l:List α):nth d (x::l) 27=nth d l 26:=by simp[nth]
theorem Zdh {α:Type} (d x:α) (l:List α):nth d (x::l) 28=nth d l 27:=by simp[nth]
theorem Zdu {α:Type} (d x:α) (l:List α):nth d (x::l) 29=nth d l 28:=by simp[nth]
theorem Zfb {α:Type} (d x:α) (l:List α):nth d (x::l) 30=nth d l 29:=by simp[nth]
theorem Zpk {α:Type} (d x:α) (l:List α):nth d (x::l) 31=nth d l 30:=by simp[nth]
theorem Zxe {α:Type} (d x:α) (l:List α):nth d (x::l) 32=nth d l 31:=by simp[nth]
theorem Zjg {α:Type} (d x:α) (l:List α):nth d (x::l) 33=nth d l 32:=by simp[nth]
theorem Zrz {α:Type} (d x:α) (l:List α):nth d (x::l) 34=nth d l 33:=by simp[nth]
theorem Zl8 {α:Type} (d x:α) (l:List α):nth d (x::l) 35=nth d l 34:=by simp[nth]
theorem Q6w {α:Type} (d x:α) (l:List α):nth d (x::l) 36=nth d l 35:=by simp[nth]
theorem Zx8 {α:Type} (d x:α) (l:List α):nth d (x::l) 37=nth d l 36:=by simp[nth]
theorem Zx6 {α:Type} (d x:α) (l:List α):nth d (x::l) 38=nth d l 37:=by simp[nth]
theorem Za4 {α:Type} (d x:α) (l:List α):nth d (x::l) 39=nth d l 38:=by simp[nth]
attribute [go_sem] G8 Ke Kn Ou Pf R_ Qe8 YP Zec Zlx Zzm Zr8 Q9x Zev Zk9 Zph Q74 Zbi Zzb Zsh Zq3 Zb1 Q85 Zfa Zt1 Zx9 Zcj Z0g Zdh Zdu Zfb Zpk Zxe Zjg Zrz Zl8 Q6w Zx8 Zx6 Za4 He Qmr Qfw Option.bind_some
theorem Q2u {S:Type} {step:List AC->Option (Nat×List AC)} (enc:S->List AC) (Inv:S->Prop) (m:S->Nat) (Q:Nat×List AC->Prop)
  (h:∀s,Inv s->(∃s',step (enc s)=some (0,enc s')/\Inv s'/\m s'<m s)\/∃o,step (enc s)=some o/\o.1≠0/\Q o):
  ∀s,Inv s->∃o,An step (enc s)=some o/\o.1≠0/\Q o:=by
 have:∀n s,m s<=n->Inv s->∃o,An step (enc s)=some o/\o.1≠0/\Q o:=by
  intro n
  induction n with
  |zero=>
   intro s hs hi
   rcases h s hi with⟨s',h1,h2,h3⟩|⟨o,h1,h2,h3⟩
   ·omega
   ·refine⟨o,?_,h2,h3⟩
    rw[P7,h1];simp[h2]
  |succ n ih=>
   intro s hs hi
   rcases h s hi with⟨s',h1,h2,h3⟩|⟨o,h1,h2,h3⟩
   ·obtain⟨o,h4,h5⟩:=ih s' (by omega) h2
    refine⟨o,?_,h5⟩
    rw[P7,h1];simpa using h4
   ·refine⟨o,?_,h2,h3⟩
    rw[P7,h1];simp[h2]
 intro s hi
 exact this _ s (Nat.le_refl _) hi

theorem Bt {step:List AC->Option (Nat×List AC)} {v w:List AC} (h:step v=some (0,w)):An step v=An step w:=by
 rw[P7,h];rfl
theorem A7 {step:List AC->Option (Nat×List AC)} {v:List AC} {o:Nat×List AC} (h:step v=some o) (h0:o.1≠0):An step v=some o:=by
 rw[P7,h];simp[h0]

theorem Za9 {sig osig:Sk} {m:List AC->Option (List AC)} {args:List TV} {vars:List AC} (h1:EX sig ⟨args,[],[]⟩=some vars) (h2:m vars=some [B true]) (h3:Bf osig [B true]=⟨[.v false [.bool true]],[],[]⟩):
  (Ac sig osig m (TV×Mem) args ⟨[],[]⟩ fun v m=>some (v,m))=some (.v false [.bool true],⟨[],[]⟩):=by
 simp only[Ac,Aj,cond_true]
 rw[h1]
 dsimp only
 rw[h2]
 simp only[Option.bind_some]
 rw[h3]
theorem Ar.tv_of {a:Ar} {g:Bool} {ks:List Kd} (h1:a.agg=g) (h2:a.ks=ks):a.tv= .v g (AK ks a.raw):=by unfold Ar.tv;rw[h1,h2]
theorem Ik {α:Type} (f:α->List AC) (d:List AC):∀(l:List α) (i:Nat) (h:i<l.length),nth d (l.map f) i=f l[i]
 |x::l,0,_=>rfl
 |x::l,i+1,h=>by simp only[List.map_cons,nth,List.getElem_cons_succ];exact Ik f d l i (by simpa using h)
theorem Iu {α:Type} (d:α):∀(l:List α) (i:Nat) (h:i<l.length),nth d l i=l[i]
 |x::l,0,_=>rfl
 |x::l,i+1,h=>by simp only[nth,List.getElem_cons_succ];exact Iu d l i (by simpa using h)
def At (n:Int):List AC:=[I n]
theorem NK {α:Type} (l:List α) (i:Nat) (h:i<l.length):l.drop i=l[i]::l.drop (i+1):=by simp
end Go.Bm
