/- the abstract machine -/
import Derived.Test.YtnnpdlgenmnekaaGreatBmRd
set_option linter.unusedVariables false
set_option linter.unusedSimpArgs false
namespace Go.Bm
abbrev I (n:Int):AC:= .int .i64 n
abbrev U (n:Int):AC:= .int .u64 n
abbrev B (b:Bool):AC:= .bool b
theorem BO {x:Int} (h:0<=x/\x<=18446744073709551615):IntKind.u64.wrap x=x:=by
 simp[O,IntKind.wrap,IntKind.signed,IntKind.bits];omega
theorem Jq (x:Int):IntKind.u64.wrap x=x%18446744073709551616:=by
 simp[O,IntKind.wrap,IntKind.signed,IntKind.bits]
theorem Qrc (x:Int):O x=(x+9223372036854775808)%18446744073709551616-9223372036854775808:=by
 simp[O,IntKind.wrap,IntKind.signed,IntKind.bits];omega
def i64 (x:Int):Prop:= -9223372036854775808<=x/\x<=9223372036854775807
theorem Xu (x:Int):i64 (O x):=by
 rw[Qrc];unfold i64;omega
theorem Dv {α:Type} {c:Bool} {a b:α} (h:c=true):(bif c then a else b)=a:=by rw[h];rfl
theorem Es {α:Type} {c:Bool} {a b:α} (h:c=false):(bif c then a else b)=b:=by rw[h];rfl
theorem B6 {α:Type} {p:Prop} {inst:Decidable p} {a b:α} (h:p):(bif@decide p inst then a else b)=a:=by rw[@ah p inst h];rfl
theorem AM {α:Type} {p:Prop} {inst:Decidable p} {a b:α} (h: ¬p):(bif@decide p inst then a else b)=b:=by rw[@aj p inst h];rfl
theorem Zhn {α:Type} {p:Prop} {inst:Decidable p} {a b:α}:(bif@decide p inst then a else b)=if p then a else b:=by
 by_cases h:p
 ·rw[B6 h,aa h]
 ·rw[AM h,ab h]
theorem Zm4 {α:Type} {c:Bool} {a b:α}:(bif c then a else b)=if c=true then a else b:=by cases c<;>rfl
theorem Q73 {a b:Bool}:((a&&b)=true)=(a=true/\b=true):=by cases a<;>cases b<;>simp
theorem Zgt {a b:Bool}:((a||b)=true)=(a=true\/b=true):=by cases a<;>cases b<;>simp
theorem Q44 {a:Bool}:((!a)=true)= ¬(a=true):=by cases a<;>simp
theorem Zmv {p:Prop} {inst:Decidable p}:(@decide p inst=true)=p:=by simp
theorem Zjm {a b:Int}:((a==b)=true)=(a=b):=by simp
theorem Q91 {a b:Int}:((a !=b)=true)=(a≠b):=by simp
theorem Zie {a b:Nat}:(Nat.beq a b=true)=(a=b):=by simp
theorem Zdr {a b:Nat}:(Nat.ble a b=true)=(a<=b):=by simp
attribute [go_sem ↓] Zhn Zm4 Q73 Zgt Q44 Zmv Zjm Q91 Zie Zdr
theorem E0 {α:Type} (d x:α) (l:List α):nth d (x::l) 0=x:=by simp[nth]
theorem ER (k:IntKind) (n:Int):Ah (.int k n)=n:=by simp[Ah]
theorem Pb (b:Bool):CD (.bool b)=b:=by simp[CD]
theorem RV (ks:List Kd) (l:List (List AC)):Bb (.vC ks l)=l:=by simp[Bb]
theorem Q74 {p q:Prop} {i1:Decidable p} {D:Decidable q}:((@decide p i1== @decide q D)=true)=(p↔q):=by simp
theorem Zqq {a b:Nat}:((a==b)=true)=(a=b):=by simp
attribute [go_sem ↓] Q74 Zqq
attribute [go_sem] dc ez
theorem IT {α:Type} (d x:α) (l:List α):nth d (x::l) 1=nth d l 0:=by simp[nth]
theorem IF {α:Type} (d x:α) (l:List α):nth d (x::l) 2=nth d l 1:=by simp[nth]
theorem L3 {α:Type} (d x:α) (l:List α):nth d (x::l) 3=nth d l 2:=by simp[nth]
theorem NB {α:Type} (d x:α) (l:List α):nth d (x::l) 4=nth d l 3:=by simp[nth]
theorem Rf {α:Type} (d x:α) (l:List α):nth d (x::l) 5=nth d l 4:=by simp[nth]
theorem ZF {α:Type} (d x:α) (l:List α):nth d (x::l) 6=nth d l 5:=by simp[nth]
theorem YK {α:Type} (d x:α) (l:List α):nth d (x::l) 7=nth d l 6:=by simp[nth]
theorem Zkx {α:Type} (d x:α) (l:List α):nth d (x::l) 8=nth d l 7:=by simp[nth]
theorem Q99 {α:Type} (d x:α) (l:List α):nth d (x::l) 9=nth d l 8:=by simp[nth]
theorem Zk4 {α:Type} (d x:α) (l:List α):nth d (x::l) 10=nth d l 9:=by simp[nth]
theorem Zk1 {α:Type} (d x:α) (l:List α):nth d (x::l) 11=nth d l 10:=by simp[nth]
theorem Zn3 {α:Type} (d x:α) (l:List α):nth d (x::l) 12=nth d l 11:=by simp[nth]
theorem Zev {α:Type} (d x:α) (l:List α):nth d (x::l) 13=nth d l 12:=by simp[nth]
theorem Zii {α:Type} (d x:α) (l:List α):nth d (x::l) 14=nth d l 13:=by simp[nth]
theorem Q79 {α:Type} (d x:α) (l:List α):nth d (x::l) 15=nth d l 14:=by simp[nth]
theorem Q50 {α:Type} (d x:α) (l:List α):nth d (x::l) 16=nth d l 15:=by simp[nth]
theorem Zoa {α:Type} (d x:α) (l:List α):nth d (x::l) 17=nth d l 16:=by simp[nth]
theorem Zh1 {α:Type} (d x:α) (l:List α):nth d (x::l) 18=nth d l 17:=by simp[nth]
theorem Zs6 {α:Type} (d x:α) (l:List α):nth d (x::l) 19=nth d l 18:=by simp[nth]
theorem Zvm {α:Type} (d x:α) (l:List α):nth d (x::l) 20=nth d l 19:=by simp[nth]
theorem Q4f {α:Type} (d x:α) (l:List α):nth d (x::l) 21=nth d l 20:=by simp[nth]
theorem Q5c {α:Type} (d x:α) (l:List α):nth d (x::l) 22=nth d l 21:=by simp[nth]
theorem Zi6 {α:Type} (d x:α) (l:List α):nth d (x::l) 23=nth d l 22:=by simp[nth]
theorem Q3t {α:Type} (d x:α) (l:List α):nth d (x::l) 24=nth d l 23:=by simp[nth]
theorem Q5w {α:Type} (d x:α) (l:List α):nth d (x::l) 25=nth d l 24:=by simp[nth]
theorem Znu {α:Type} (d x:α) (l:List α):nth d (x::l) 26=nth d l 25:=by simp[nth]
theorem Zu8 {α:Type} (d x:α) (l:List α):nth d (x::l) 27=nth d l 26:=by simp[nth]
theorem Zjj {α:Type} (d x:α) (l:List α):nth d (x::l) 28=nth d l 27:=by simp[nth]
theorem Q5j {α:Type} (d x:α) (l:List α):nth d (x::l) 29=nth d l 28:=by simp[nth]
theorem Zis {α:Type} (d x:α) (l:List α):nth d (x::l) 30=nth d l 29:=by simp[nth]
theorem Q8q {α:Type} (d x:α) (l:List α):nth d (x::l) 31=nth d l 30:=by simp[nth]
theorem Zke {α:Type} (d x:α) (l:List α):nth d (x::l) 32=nth d l 31:=by simp[nth]
theorem Zdb {α:Type} (d x:α) (l:List α):nth d (x::l) 33=nth d l 32:=by simp[nth]
theorem Zt0 {α:Type} (d x:α) (l:List α):nth d (x::l) 34=nth d l 33:=by simp[nth]
theorem Zg0 {α:Type} (d x:α) (l:List α):nth d (x::l) 35=nth d l 34:=by simp[nth]
theorem Zuy {α:Type} (d x:α) (l:List α):nth d (x::l) 36=nth d l 35:=by simp[nth]
theorem Zfj {α:Type} (d x:α) (l:List α):nth d (x::l) 37=nth d l 36:=by simp[nth]
theorem Zjr {α:Type} (d x:α) (l:List α):nth d (x::l) 38=nth d l 37:=by simp[nth]
theorem Zip {α:Type} (d x:α) (l:List α):nth d (x::l) 39=nth d l 38:=by simp[nth]
attribute [go_sem] E0 IT IF L3 NB Rf ZF YK Zkx Q99 Zk4 Zk1 Zn3 Zev Zii Q79 Q50 Zoa Zh1 Zs6 Zvm Q4f Q5c Zi6 Q3t Q5w Znu Zu8 Zjj Q5j Zis Q8q Zke Zdb Zt0 Zg0 Zuy Zfj Zjr Zip ER Pb RV ak
theorem Qo8 {S:Type} {step:List AC->Option (Nat×List AC)} (enc:S->List AC) (Inv:S->Prop) (m:S->Nat) (Q:Nat×List AC->Prop)
  (h:∀s,Inv s->(∃E,step (enc s)=some (0,enc E)/\Inv E/\m E<m s)\/∃o,step (enc s)=some o/\o.1≠0/\Q o):
  ∀s,Inv s->∃o,An step (enc s)=some o/\o.1≠0/\Q o:=by
 have:∀n s,m s<=n->Inv s->∃o,An step (enc s)=some o/\o.1≠0/\Q o:=by
  intro n;induction n with
  |zero=>
   intro s L I;rcases h s I with⟨E,G,D,J⟩|⟨o,G,D,J⟩
   ·omega
   ·refine⟨o,?_,D,J⟩;rw[Oh,G];simp[D]
  |succ n M=>
   intro s L I;rcases h s I with⟨E,G,D,J⟩|⟨o,G,D,J⟩
   ·obtain⟨o,N,O⟩:=M E (by omega) D;refine⟨o,?_,O⟩;rw[Oh,G];simpa using N
   ·refine⟨o,?_,D,J⟩;rw[Oh,G];simp[D]
 intro s I;exact this _ s (cq _) I
theorem AR {step:List AC->Option (Nat×List AC)} {v w:List AC} (h:step v=some (0,w)):An step v=An step w:=by
 rw[Oh,h];rfl
theorem AG {step:List AC->Option (Nat×List AC)} {v:List AC} {o:Nat×List AC} (h:step v=some o) (D:o.1≠0):An step v=some o:=by
 rw[Oh,h];simp[D]
theorem Zhw {sig D:Sk} {m:List AC->Option (List AC)} {args:List TV} {vars:List AC} (E:Fl sig ⟨args,[],[]⟩=some vars) (G:m vars=some [B true]) (I:Ce D [B true]=⟨[.v false [.bool true]],[],[]⟩):
  (Ad sig D m (TV×Mem) args ⟨[],[]⟩ λv m=>some (v,m))=some (.v false [.bool true],⟨[],[]⟩):=by
 simp only[Ad,Ai,ai];rw[E];dsimp only;rw[G];simp only[ak];rw[I]
theorem Ar.tv_of {a:Ar} {g:Bool} {ks:List Kd} (D:a.agg=g) (E:a.ks=ks):a.tv= .v g (AF ks a.raw):=by unfold Ar.tv;rw[D,E]
theorem DF {α:Type} (f:α->List AC) (d:List AC):∀(l:List α) (i:Nat) (h:i<l.length),nth d (l.map f) i=f l[i]
 |x::l,0,_=>rfl
 |x::l,i+1,h=>by simp only[ba,nth,gb];exact DF f d l i (by simpa using h)
theorem LY {α:Type} (d:α):∀(l:List α) (i:Nat) (h:i<l.length),nth d l i=l[i]
 |x::l,0,_=>rfl
 |x::l,i+1,h=>by simp only[nth,gb];exact LY d l i (by simpa using h)
def AB (n:Int):List AC:=[I n]
theorem Q0q {k:IntKind}:∀{l:List (List AC)},(∀c∈l,AF [Kd.int k] c=c)->l=(l.map λc=>Ah (nth .dead c 0)).map λn=>[AC.int k n]
 |[],_=>rfl
 |c::l,h=>by
  simp only[ba];rw[<-Q0q (l:=l) λc D=>h c (by simp[D])];congr 1;exact(h c (by simp)).symm
theorem L0 {α:Type} (l:List α) (i:Nat) (h:i<l.length):l.drop i=l[i]::l.drop (i+1):=by simp
structure Pt where
 (x y z:Int)
structure Itm where
 (aP block:Int)
 (fr to:Pt)
 (aG:Int)
 (ce:Pt)
 (dir:Int)
 bG:Bool
 aZ:Int
 perRev:Bool
 (side radius bH n aS:Int)
 on:Bool
structure Sgm where
 to:Pt
 (len aU aZ aX:Int)
structure Mrk where
 (at_ aP aU:Int)
structure Pth where
 aQ:Pt
 aF:List Sgm
 aD:List Mrk
structure Axs where
 (step aS bD bE low aY bB aV aO:Int)
 aW:List Int
structure Pce where
 (at_ aR s bC:Int)
 (was aT:Pt)
structure Trk where
 aE:List Pce
 (length aQ:Int)
 aT:Pt
structure Spk where
 (u w r h:Int)
instance:DecidableEq Pt:=λa b=>by
 obtain⟨a1,a2,a3⟩:=a;obtain⟨b1,b2,b3⟩:=b;exact decidable_of_iff (a1=b1/\a2=b2/\a3=b3) (by simp)
instance:DecidableEq Sgm:=λa b=>by
 obtain⟨a1,a2,a3,a4,a5⟩:=a;obtain⟨b1,b2,b3,b4,b5⟩:=b;exact decidable_of_iff (a1=b1/\a2=b2/\a3=b3/\a4=b4/\a5=b5) (by simp)
instance:DecidableEq Mrk:=λa b=>by
 obtain⟨a1,a2,a3⟩:=a;obtain⟨b1,b2,b3⟩:=b;exact decidable_of_iff (a1=b1/\a2=b2/\a3=b3) (by simp)
instance:DecidableEq Pce:=λa b=>by
 obtain⟨a1,a2,a3,a4,a5,a6⟩:=a;obtain⟨b1,b2,b3,b4,b5,b6⟩:=b;exact decidable_of_iff (a1=b1/\a2=b2/\a3=b3/\a4=b4/\a5=b5/\a6=b6) (by simp)
abbrev kI:Kd:= .int .i64
abbrev kU:Kd:= .int .u64
abbrev kB:Kd:= .bool
abbrev Aa:List Kd:=[kI]
abbrev kPt:List Kd:=[kI,kI,kI]
abbrev Ac:List Kd:=[kI,kI,kI,kI,kI,kI,kI,kI,kI,kI,kI,kI,kI,kB,kI,kB,kI,kI,kI,kI,kI,kB]
abbrev Af:List Kd:=[kI,kI,kI,kI,kI,kI,kI]
abbrev Av:List Kd:=[kI,kI,kI]
abbrev Ao:List Kd:=[kI,kI,kI,kI,kI,kI,kI,kI,kI,kI]
abbrev BE:List Kd:=[kI,kI,kI,kI]
abbrev ptR (p:Pt):List AC:=[I p.x,I p.y,I p.z]
abbrev Ag (t:Itm):List AC:=[I t.aP,I t.block,I t.fr.x,I t.fr.y,I t.fr.z,I t.to.x,I t.to.y,I t.to.z,I t.aG,I t.ce.x,I t.ce.y,I t.ce.z,I t.dir,B t.bG,I t.aZ,B t.perRev,I t.side,I t.radius,I t.bH,I t.n,I t.aS,B t.on]
abbrev Ax (g:Sgm):List AC:=[I g.to.x,I g.to.y,I g.to.z,I g.len,I g.aU,I g.aZ,I g.aX]
abbrev A1 (m:Mrk):List AC:=[I m.at_,I m.aP,I m.aU]
abbrev Bh (c:Pce):List AC:=[I c.at_,I c.aR,I c.s,I c.bC,I c.was.x,I c.was.y,I c.was.z,I c.aT.x,I c.aT.y,I c.aT.z]
abbrev AT (s:Spk):List AC:=[I s.u,I s.w,I s.r,I s.h]
abbrev AA (p:Pth):List AC:=[I p.aQ.x,I p.aQ.y,I p.aQ.z, .vC Af (p.aF.map Ax), .vC Av (p.aD.map A1)]
abbrev CH (x:Axs):List AC:=[I x.step,I x.aS,I x.bD,I x.bE,I x.low,I x.aY,I x.bB,I x.aV,I x.aO, .vC Aa (x.aW.map AB)]
abbrev AS (t:Trk):List AC:=[.vC Ao (t.aE.map Bh),I t.length,I t.aQ,I t.aT.x,I t.aT.y,I t.aT.z]
structure Ax3 where
 (a b c:Axs)
abbrev AU (x:Ax3):List AC:=[I x.a.step,I x.a.aS,I x.a.bD,I x.a.bE,I x.a.low,I x.a.aY,I x.a.bB,I x.a.aV,I x.a.aO, .vC Aa (x.a.aW.map AB),I x.b.step,I x.b.aS,I x.b.bD,I x.b.bE,I x.b.low,I x.b.aY,I x.b.bB,I x.b.aV,I x.b.aO, .vC Aa (x.b.aW.map AB),I x.c.step,I x.c.aS,I x.c.bD,I x.c.bE,I x.c.low,I x.c.aY,I x.c.bB,I x.c.aV,I x.c.aO, .vC Aa (x.c.aW.map AB)]
theorem Zd8 {a:AC} (h:okC kI a):i64 (Ah a):=by
 unfold okC at h;unfold i64;exact h
abbrev gA (l:List AC) (k:Nat):Int:=Ah (nth .dead l k)
abbrev jA (l:List AC) (k:Nat):AC:= .int .i64 (Ah (nth .dead l k))
abbrev wA (l:List AC) (k:Nat):List (List AC):=Bb (nth .dead l k)
abbrev bA (l:List AC) (k:Nat):Bool:=CD (nth .dead l k)
abbrev Fn:=List AC->Option (List AC)
abbrev Lp:=List AC->Option (Nat×List AC)
abbrev Rw:=List (List AC)
abbrev ci:CS:= .int .i64
abbrev tf:List CS->TS:= .v false
abbrev td:TS:= .dead
attribute [go_sem] gA jA wA bA aq ay
theorem Zny (r:List AC):AF Ac r=[jA r 0,jA r 1,jA r 2,jA r 3,jA r 4,jA r 5,jA r 6,jA r 7,jA r 8,jA r 9,jA r 10,jA r 11,jA r 12,B (bA r 13),jA r 14,B (bA r 15),jA r 16,jA r 17,jA r 18,jA r 19,jA r 20,B (bA r 21)]:=rfl
theorem Zm3 (r:List AC):AF Af r=[jA r 0,jA r 1,jA r 2,jA r 3,jA r 4,jA r 5,jA r 6]:=rfl
theorem Zcf (r:List AC):AF Ao r=[jA r 0,jA r 1,jA r 2,jA r 3,jA r 4,jA r 5,jA r 6,jA r 7,jA r 8,jA r 9]:=rfl
attribute [go_sem] Zny Zm3 Zcf
end Go.Bm
