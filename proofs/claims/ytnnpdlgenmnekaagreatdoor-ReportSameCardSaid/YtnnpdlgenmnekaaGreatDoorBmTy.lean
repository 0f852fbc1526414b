/- the abstract machine -/
import Derived.Test.YtnnpdlgenmnekaaGreatDoorBmKeep
set_option linter.unusedVariables false
set_option linter.unusedSimpArgs false
namespace Go.Bm
theorem Ztq {rl:Nat->Nat} {c:CS} {a:AC} {v:List AC} (he:VG c a=true) (h:HD c a=some v) {l:List AC} {i:Nat} (D:Seg l i v):Dm rl l c i=(a,i+v.length):=by
 cases c<;>cases a<;>simp only[VG]at he<;>try (simp at he;done)
 case int.int k k' n=>
  simp only[HD,he,ag,am]at h;subst h;simp only[Dm,D.one,Af,O7 he,bm,da]
 case bool.bool b=>
  simp only[HD,am]at h;subst h;simp only[Dm,D.one,Dn,bm,da]
 case sl.vC ks G q=>
  simp only[HD,he,ag,am]at h;subst h;simp only[Dm,D.one,Bq,Iy he,bm,da]
 case ptr.ptr k o k' I=>
  simp only[HD,he,ag,am]at h;subst h;simp only[ai]at he;simp only[Dm,ac he.1,ac he.2,da,jv]
theorem Q6h {rl:Nat->Nat} {l:List AC}:∀{cs:List CS} {as:List AC} {v:List AC},OD cs as=true->Gw cs as=some v->∀{i},Seg l i v->DE rl l cs i=(as,i+v.length)
 |[],[],v,_,h,i,_=>by simp[Gw]at h;subst h;rfl
 |c::cs,a::as,v,he,h,i,D=>by
  simp only[OD,ai]at he;simp only[Gw]at h;split at h
  ·rename_i L G;split at h
   ·rename_i M I;simp at h;subst h;simp only[DE,Ztq he.1 G D.left,Q6h he.2 I D.right,ap,dm]
   ·simp at h
  ·simp at h
 |[],_::_,_,he,_,_,_=>by simp[OD]at he
 |_::_,[],_,he,_,_,_=>by simp[OD]at he
theorem Qtv {rl:Nat->Nat} {l:List AC} {aB:List (Nat×Box)}:∀{bs:List (Nat×TypeId×List CS)} {m:List (Nat×Box)} {v:List AC},Hi bs m=true->(∀p∈m,Ab aB p.1=some p.2)->
  JF bs aB=some v->∀{i},Seg l i v->EW rl l bs i=m
 |[],[],v,_,_,_,i,_=>rfl
 |(k,t,cs)::bs,(k',b)::m,v,he,D,h,i,G=>by
  simp only[Hi,ai]at he;obtain⟨e1,e2,e3,I⟩:=he;have e1:=ac e1;subst e1;have hb:=D (k,b) (by simp);dsimp only at hb;simp only[JF,hb,e2,ag]at h;split at h
  ·rename_i O L;split at h
   ·rename_i S M;simp at h;subst h;simp only[EW,Q6h e3 L G.left,Qtv I (λp N=>D p (by simp[N])) M G.right];obtain⟨ty,cells⟩:=b;simp only[ac e2]
   ·simp at h
  ·simp at h
 |[],_::_,_,he,_,_,_,_=>by simp[Hi]at he
 |_::_,[],_,he,_,_,_,_=>by simp[Hi]at he
theorem Q7u:∀{bs:List (Nat×TypeId×List CS)} {m:List (Nat×Box)},Hi bs m=true->m.map (·.1)=bs.map (·.1)
 |[],[],_=>rfl
 |(k,t,cs)::bs,(k',b)::m,he=>by
  simp only[Hi,ai]at he;simp only[ba,Q7u he.2.2.2,ac he.1]
 |[],_::_,he=>by simp[Hi]at he
 |_::_,[],he=>by simp[Hi]at he
theorem Zpl {sig D:Sk} {m:List AC->Option (List AC)} (R:Type) (args:List TV) (mem:Mem) (K:TV->Mem->Option R):ET sig D m R args mem K=(ET sig D m (TV×Mem) args mem λv m=>some (v,m)).bind λp=>K p.1 p.2:=by
 obtain⟨aB,aC⟩:=mem;simp only[ET];cases(Ak (λp:Nat×Box=>Dd p.1) aB&&(Hi sig.aB aB&&(aC.isEmpty&&(sig.aC.isEmpty&&BH (sig.aB.map (·.1))))))
 ·rfl
 ·simp only[ag];cases Di sig ⟨args,aB,aC⟩with
  |none=>rfl
  |some vars=>
   dsimp only;cases m vars with
   |none=>rfl
   |some o=>
    simp only[af];generalize AA D o=s;obtain⟨tm,b,r⟩:=s;cases b<;>cases r<;>try rfl
    dsimp only;split<;>rfl
theorem Z32 {sig D:Sk} {m:List AC->Option (List AC)}:T4 (ET sig D m):=by
 intro args mem v G h;obtain⟨aB,aC⟩:=mem;simp only[ET]at h;obtain⟨_,h⟩:=Bo h;split at h
 ·simp only[bf]at h;obtain⟨o,_,h⟩:=h;split at h
  ·split at h
   ·simp only[am,cd]at h;exact h.2.symm
   ·simp at h
  ·simp at h
 ·simp at h
theorem HG {rs:List Nat}:AllRo rs []:=trivial
theorem Ci {rs:List Nat} {k:Nat} {g:Spec} {l:List (Nat×Spec)} (h:AH rs k=false) (t:AllRo rs l):AllRo rs ((k,g)::l):=⟨.inl h,t⟩
theorem FE {rs:List Nat} {k:Nat} {sig D:Sk} {m:List AC->Option (List AC)} {l:List (Nat×Spec)} (t:AllRo rs l):AllRo rs ((k,ET sig D m)::l):=⟨.inr Z32,t⟩
def Zrq (P:Program) (C:Cfg) (L:Nat) (f:FuncId) (sig:Sk):Prop:=
 ∀(vars:List AC) (R:Type) (K:TV->Mem->Option R),EB P C L f (AA sig vars).tmps ⟨(AA sig vars).aB,(AA sig vars).aC⟩ K=EB P C L f (AA sig vars).tmps ⟨(AA sig vars).aB,(AA sig vars).aC⟩ λv _=>K v ⟨(AA sig vars).aB,(AA sig vars).aC⟩
open Classical in
theorem Sn {P:Program} {C:Cfg} {f:FuncId} {L:Nat} {sig G:Sk} (hc:H9 P f=true) (h:FnOK P C f) (a3:Ai P C) (b4:∀t∈C.eqOk,P.stoodInHeld t=false) (b1:P.follows .mixedOrders=true)
  (h1:sig.okB=true) (h2:G.okB=true) (hl:Zrq P C L f sig):Al P (f,ET sig G (Lm P C L f sig G)):=by
 refine⟨Zpl,λargs mem v mem' S=>PCallM.x ?_ (IY hc)⟩;obtain⟨aB,aC⟩:=mem;simp only[ET]at S;obtain⟨X,S⟩:=Bo S;simp only[ai]at X;obtain⟨X,hex,a4,T,a5⟩:=X;have a4:aC=[]:=by simpa using a4
 have T:sig.aC=[]:=by simpa using T
 subst a4;split at S
 ·rename_i vars D;simp only[bf]at S;obtain⟨o,ho,S⟩:=S;intro F w hG ρ xs b5;have hZ:InZ (DS F w ρ aB hG):=Nn X;have a6:=b5.rebuild hZ h1 D
  have N:(AA sig vars).aB=aB:=by
   simp only[Di]at D;obtain⟨_,D⟩:=Bo D;rw[T]at D;simp only[Jg]at D;split at D
   ·rename_i b hb;split at D
    ·rename_i c Y;simp only[bc,am]at D;subst D;simp only[AA,T,GL];have U:=Uh (aB:=aB) (aC:=[]) (ρ:=ρ) (w:=w) (rl:=DB []) ⟨λid r hl=>by simp[Ab]at hl⟩ hb (l:=b++c) (i:=0) (Seg.all _).left;generalize b6:Es (DB []) (b++c) sig.tmps 0=q at U;obtain⟨tm,i⟩:=q;have hi:i=0+b.length:=U.1;subst hi;have a7:=Q7u hex;refine Qtv hex (λp hp=>UC (by rw[a7];exact a5) hp) Y (Seg.all (b++c)).right
    ·simp at D
   ·simp at D
  have O:(AA sig vars).aC=[]:=by simp only[AA,T,GL]
  have a8:=hl vars;unfold Lm at ho;generalize hs:AA sig vars=s1 at ho a6 a8 N O;obtain⟨a9,M,b7⟩:=s1;dsimp only at ho a6 a8 N O;subst N;subst O;have b2:EB P C L f a9 ⟨M,[]⟩ (λv m=>if m=⟨M,[]⟩then Di G ⟨[v],[],[]⟩else none)=some o:=by
   rw[a8];simp only[dq];exact ho
  refine(Zbd a3 b4 b1 hZ (λ_ b0=>h.sub b0) b2 a6).mono ?_;rintro e w' ⟨x,ρ',v',m',he,I,a0⟩;split at I
  ·rename_i hm;subst hm;dsimp only at a0
   simp only[Di]at I;obtain⟨_,I⟩:=Bo I;split at I
   ·rename_i a ha;split at I
    ·rename_i b hb;split at I
     ·rename_i c Y;simp only[am]at I;subst I;split at S
      ·rename_i tm a1;split at S
       ·rename_i vn;simp only[am,cd]at S;obtain⟨rfl,rfl⟩:=S;have V:G.aC=[]:=by
         cases b8:G.aC with
         |nil=>rfl
         |cons p l=>obtain⟨k,t,ks⟩:=p;rw[b8]at ha;simp[Jg,Ab]at ha
        rw[V]at ha;simp only[Jg,am]at ha;subst ha;have U:=Uh (aB:=M) (aC:=[]) (ρ:=ρ') (w:=w') (rl:=DB []) ⟨λid r hl=>by simp[Ab]at hl⟩ hb (l:=[]++(b++c)) (i:=0) (show Seg (b++c) 0 b from(Seg.all (b++c)).left);simp only[AA,V,GL]at a1;have a2:=Qhn (B':=M) (R':=[]) (keys:=[]) (rs:=[]) (rl:=DB []) (by simp) (by simp[Ab]) (ts:=G.tmps)
         (by
          have:=h2;simp only[Sk.okB,ai]at this;have b9:G.aB=[]:=by
           cases c0:G.aB with
           |nil=>rfl
           |cons p l=>obtain⟨k,t,ks⟩:=p;rw[c0]at Y;simp[JF,Ab]at Y
          have h3:=this.1.2;rw[b9,V]at h3;exact h3) ([]++(b++c)) 0
        generalize b6:Es (DB []) ([]++(b++c)) G.tmps 0=q at U a1 a2;obtain⟨c2,i⟩:=q;simp only[St.mk.injEq]at a1;obtain⟨rfl,_,_⟩:=a1;obtain⟨u,b3,c1⟩:=U.2.2 0 vn rfl;simp only[List.getElem?_cons_zero,am]at b3;subst b3;refine⟨x,ρ',he,a0.slots (by simp) (λi u hi=> ?_) (λu hu=>a2 u hu)⟩;cases i with
        |zero=>
         simp at hi;subst hi;have:=a0.tv 0 v' rfl;exact c1 _ (a0.wt v' (by simp)) this
        |succ i=>simp at hi
       ·simp at S
      ·simp at S
     ·simp at I
    ·simp at I
   ·simp at I
  ·simp at I
 ·simp at S
abbrev I (n:Int):AC:= .int .i64 n
abbrev U (n:Int):AC:= .int .u64 n
abbrev B (b:Bool):AC:= .bool b
theorem Dh {x:Int} (h:0<=x/\x<=18446744073709551615):IntKind.u64.wrap x=x:=by
 simp[V,IntKind.wrap,IntKind.signed,IntKind.bits];omega
theorem Lg (x:Int):IntKind.u64.wrap x=x%18446744073709551616:=by
 simp[V,IntKind.wrap,IntKind.signed,IntKind.bits]
theorem Qap (x:Int):V x=(x+9223372036854775808)%18446744073709551616-9223372036854775808:=by
 simp[V,IntKind.wrap,IntKind.signed,IntKind.bits];omega
def i64 (x:Int):Prop:= -9223372036854775808<=x/\x<=9223372036854775807
theorem Zpi (x:Int):i64 (V x):=by
 rw[Qap];unfold i64;omega
theorem By {α:Type} {c:Bool} {a b:α} (h:c=true):(bif c then a else b)=a:=by rw[h];rfl
theorem Be {α:Type} {c:Bool} {a b:α} (h:c=false):(bif c then a else b)=b:=by rw[h];rfl
theorem DD {α:Type} {p:Prop} {inst:Decidable p} {a b:α} (h:p):(bif@decide p inst then a else b)=a:=by rw[@aj p inst h];rfl
theorem AZ {α:Type} {p:Prop} {inst:Decidable p} {a b:α} (h: ¬p):(bif@decide p inst then a else b)=b:=by rw[@an p inst h];rfl
theorem Zt3 {α:Type} {p:Prop} {inst:Decidable p} {a b:α}:(bif@decide p inst then a else b)=if p then a else b:=by
 by_cases h:p
 ·rw[DD h,ab h]
 ·rw[AZ h,aa h]
theorem Z0p {α:Type} {c:Bool} {a b:α}:(bif c then a else b)=if c=true then a else b:=by cases c<;>rfl
theorem Zh9 {a b:Bool}:((a&&b)=true)=(a=true/\b=true):=by cases a<;>cases b<;>simp
theorem Zs9 {a b:Bool}:((a||b)=true)=(a=true\/b=true):=by cases a<;>cases b<;>simp
theorem Zek {a:Bool}:((!a)=true)= ¬(a=true):=by cases a<;>simp
theorem Z0c {p:Prop} {inst:Decidable p}:(@decide p inst=true)=p:=by simp
theorem Zwl {a b:Int}:((a==b)=true)=(a=b):=by simp
theorem Zkc {a b:Int}:((a !=b)=true)=(a≠b):=by simp
theorem Zvc {a b:Nat}:(Nat.beq a b=true)=(a=b):=by simp
theorem Zo3 {a b:Nat}:(Nat.ble a b=true)=(a<=b):=by simp
attribute [go_sem ↓] Zt3 Z0p Zh9 Zs9 Zek Z0c Zwl Zkc Zvc Zo3
theorem HQ {α:Type} (d x:α) (l:List α):nth d (x::l) 0=x:=by simp[nth]
theorem HA (k:IntKind) (n:Int):Af (.int k n)=n:=by simp[Af]
theorem Qn4 (b:Bool):Dn (.bool b)=b:=by simp[Dn]
theorem Qog (ks:List Kd) (l:List (List AC)):Bq (.vC ks l)=l:=by simp[Bq]
theorem Zib {p q:Prop} {i1:Decidable p} {D:Decidable q}:((@decide p i1== @decide q D)=true)=(p↔q):=by simp
theorem Z4z {a b:Nat}:((a==b)=true)=(a=b):=by simp
attribute [go_sem ↓] Zib Z4z
attribute [go_sem] dq gq
theorem L1 {α:Type} (d x:α) (l:List α):nth d (x::l) 1=nth d l 0:=by simp[nth]
theorem LA {α:Type} (d x:α) (l:List α):nth d (x::l) 2=nth d l 1:=by simp[nth]
theorem Q0 {α:Type} (d x:α) (l:List α):nth d (x::l) 3=nth d l 2:=by simp[nth]
theorem Pw {α:Type} (d x:α) (l:List α):nth d (x::l) 4=nth d l 3:=by simp[nth]
theorem TZ {α:Type} (d x:α) (l:List α):nth d (x::l) 5=nth d l 4:=by simp[nth]
theorem Qed {α:Type} (d x:α) (l:List α):nth d (x::l) 6=nth d l 5:=by simp[nth]
theorem Qcu {α:Type} (d x:α) (l:List α):nth d (x::l) 7=nth d l 6:=by simp[nth]
theorem Zx1 {α:Type} (d x:α) (l:List α):nth d (x::l) 8=nth d l 7:=by simp[nth]
theorem Zkk {α:Type} (d x:α) (l:List α):nth d (x::l) 9=nth d l 8:=by simp[nth]
theorem Zx8 {α:Type} (d x:α) (l:List α):nth d (x::l) 10=nth d l 9:=by simp[nth]
theorem Zx6 {α:Type} (d x:α) (l:List α):nth d (x::l) 11=nth d l 10:=by simp[nth]
theorem Z1r {α:Type} (d x:α) (l:List α):nth d (x::l) 12=nth d l 11:=by simp[nth]
theorem Zqq {α:Type} (d x:α) (l:List α):nth d (x::l) 13=nth d l 12:=by simp[nth]
theorem Zvf {α:Type} (d x:α) (l:List α):nth d (x::l) 14=nth d l 13:=by simp[nth]
theorem Zif {α:Type} (d x:α) (l:List α):nth d (x::l) 15=nth d l 14:=by simp[nth]
theorem Zft {α:Type} (d x:α) (l:List α):nth d (x::l) 16=nth d l 15:=by simp[nth]
theorem Z1x {α:Type} (d x:α) (l:List α):nth d (x::l) 17=nth d l 16:=by simp[nth]
theorem Zup {α:Type} (d x:α) (l:List α):nth d (x::l) 18=nth d l 17:=by simp[nth]
theorem Z7x {α:Type} (d x:α) (l:List α):nth d (x::l) 19=nth d l 18:=by simp[nth]
theorem Ya9 {α:Type} (d x:α) (l:List α):nth d (x::l) 20=nth d l 19:=by simp[nth]
theorem Zdw {α:Type} (d x:α) (l:List α):nth d (x::l) 21=nth d l 20:=by simp[nth]
theorem Zex {α:Type} (d x:α) (l:List α):nth d (x::l) 22=nth d l 21:=by simp[nth]
theorem Zv0 {α:Type} (d x:α) (l:List α):nth d (x::l) 23=nth d l 22:=by simp[nth]
theorem Zc7 {α:Type} (d x:α) (l:List α):nth d (x::l) 24=nth d l 23:=by simp[nth]
theorem Zfn {α:Type} (d x:α) (l:List α):nth d (x::l) 25=nth d l 24:=by simp[nth]
theorem Z1h {α:Type} (d x:α) (l:List α):nth d (x::l) 26=nth d l 25:=by simp[nth]
theorem Yao {α:Type} (d x:α) (l:List α):nth d (x::l) 27=nth d l 26:=by simp[nth]
theorem Zwi {α:Type} (d x:α) (l:List α):nth d (x::l) 28=nth d l 27:=by simp[nth]
theorem Ze4 {α:Type} (d x:α) (l:List α):nth d (x::l) 29=nth d l 28:=by simp[nth]
theorem Zvn {α:Type} (d x:α) (l:List α):nth d (x::l) 30=nth d l 29:=by simp[nth]
theorem Ziy {α:Type} (d x:α) (l:List α):nth d (x::l) 31=nth d l 30:=by simp[nth]
theorem Zxb {α:Type} (d x:α) (l:List α):nth d (x::l) 32=nth d l 31:=by simp[nth]
theorem Zoj {α:Type} (d x:α) (l:List α):nth d (x::l) 33=nth d l 32:=by simp[nth]
theorem Z82 {α:Type} (d x:α) (l:List α):nth d (x::l) 34=nth d l 33:=by simp[nth]
theorem Ztg {α:Type} (d x:α) (l:List α):nth d (x::l) 35=nth d l 34:=by simp[nth]
theorem Yah {α:Type} (d x:α) (l:List α):nth d (x::l) 36=nth d l 35:=by simp[nth]
theorem Zrn {α:Type} (d x:α) (l:List α):nth d (x::l) 37=nth d l 36:=by simp[nth]
theorem Zwp {α:Type} (d x:α) (l:List α):nth d (x::l) 38=nth d l 37:=by simp[nth]
theorem Zvk {α:Type} (d x:α) (l:List α):nth d (x::l) 39=nth d l 38:=by simp[nth]
attribute [go_sem] HQ L1 LA Q0 Pw TZ Qed Qcu Zx1 Zkk Zx8 Zx6 Z1r Zqq Zvf Zif Zft Z1x Zup Z7x Ya9 Zdw Zex Zv0 Zc7 Zfn Z1h Yao Zwi Ze4 Zvn Ziy Zxb Zoj Z82 Ztg Yah Zrn Zwp Zvk HA Qn4 Qog af
theorem Qwi {S:Type} {step:List AC->Option (Nat×List AC)} (enc:S->List AC) (Inv:S->Prop) (m:S->Nat) (Q:Nat×List AC->Prop)
  (h:∀s,Inv s->(∃G,step (enc s)=some (0,enc G)/\Inv G/\m G<m s)\/∃o,step (enc s)=some o/\o.1≠0/\Q o):
  ∀s,Inv s->∃o,Am step (enc s)=some o/\o.1≠0/\Q o:=by
 have:∀n s,m s<=n->Inv s->∃o,Am step (enc s)=some o/\o.1≠0/\Q o:=by
  intro n;induction n with
  |zero=>
   intro s N L;rcases h s L with⟨G,I,D,M⟩|⟨o,I,D,M⟩
   ·omega
   ·refine⟨o,?_,D,M⟩;rw[Qg,I];simp[D]
  |succ n O=>
   intro s N L;rcases h s L with⟨G,I,D,M⟩|⟨o,I,D,M⟩
   ·obtain⟨o,T,U⟩:=O G (by omega) D;refine⟨o,?_,U⟩;rw[Qg,I];simpa using T
   ·refine⟨o,?_,D,M⟩;rw[Qg,I];simp[D]
 intro s L;exact this _ s (co _) L
theorem Bc {step:List AC->Option (Nat×List AC)} {v w:List AC} (h:step v=some (0,w)):Am step v=Am step w:=by
 rw[Qg,h];rfl
theorem A1 {step:List AC->Option (Nat×List AC)} {v:List AC} {o:Nat×List AC} (h:step v=some o) (D:o.1≠0):Am step v=some o:=by
 rw[Qg,h];simp[D]
theorem Zuh {sig D:Sk} {m:List AC->Option (List AC)} {args:List TV} {vars:List AC} (G:Di sig ⟨args,[],[]⟩=some vars) (I:m vars=some [B true]) (L:AA D [B true]=⟨[.v false [.bool true]],[],[]⟩):
  (Ac sig D m (TV×Mem) args ⟨[],[]⟩ λv m=>some (v,m))=some (.v false [.bool true],⟨[],[]⟩):=by
 simp only[Ac,Ak,ag];rw[G];dsimp only;rw[I];simp only[af];rw[L]
theorem Ar.tv_of {a:Ar} {g:Bool} {ks:List Kd} (D:a.agg=g) (G:a.ks=ks):a.tv= .v g (AM ks a.raw):=by unfold Ar.tv;rw[D,G]
theorem IR {α:Type} (f:α->List AC) (d:List AC):∀(l:List α) (i:Nat) (h:i<l.length),nth d (l.map f) i=f l[i]
 |x::l,0,_=>rfl
 |x::l,i+1,h=>by simp only[ba,nth,jg];exact IR f d l i (by simpa using h)
theorem FC {α:Type} (d:α):∀(l:List α) (i:Nat) (h:i<l.length),nth d l i=l[i]
 |x::l,0,_=>rfl
 |x::l,i+1,h=>by simp only[nth,jg];exact FC d l i (by simpa using h)
def Aq (n:Int):List AC:=[I n]
theorem Ox {α:Type} (l:List α) (i:Nat) (h:i<l.length):l.drop i=l[i]::l.drop (i+1):=by simp
structure Pt where
 (x y z:Int)
structure Itm where
 (aP block:Int)
 (fr to:Pt)
 (aG:Int)
 (ce:Pt)
 (dir:Int)
 bG:Bool
 aZ:Int
 perRev:Bool
 (side radius bH n aS:Int)
 on:Bool
structure Sgm where
 to:Pt
 (len aU aZ aX:Int)
structure Mrk where
 (at_ aP aU:Int)
structure Pth where
 aQ:Pt
 aF:List Sgm
 aD:List Mrk
structure Axs where
 (step aS bD bE low aY bB aV aO:Int)
 aW:List Int
structure Pce where
 (at_ aR s bC:Int)
 (was aT:Pt)
structure Trk where
 aE:List Pce
 (length aQ:Int)
 aT:Pt
structure Spk where
 (u w r h:Int)
instance:DecidableEq Pt:=λa b=>by
 obtain⟨a1,a2,a3⟩:=a;obtain⟨b1,b2,b3⟩:=b;exact decidable_of_iff (a1=b1/\a2=b2/\a3=b3) (by simp)
instance:DecidableEq Sgm:=λa b=>by
 obtain⟨a1,a2,a3,a4,a5⟩:=a;obtain⟨b1,b2,b3,b4,b5⟩:=b;exact decidable_of_iff (a1=b1/\a2=b2/\a3=b3/\a4=b4/\a5=b5) (by simp)
instance:DecidableEq Mrk:=λa b=>by
 obtain⟨a1,a2,a3⟩:=a;obtain⟨b1,b2,b3⟩:=b;exact decidable_of_iff (a1=b1/\a2=b2/\a3=b3) (by simp)
instance:DecidableEq Pce:=λa b=>by
 obtain⟨a1,a2,a3,a4,a5,a6⟩:=a;obtain⟨b1,b2,b3,b4,b5,b6⟩:=b;exact decidable_of_iff (a1=b1/\a2=b2/\a3=b3/\a4=b4/\a5=b5/\a6=b6) (by simp)
abbrev kI:Kd:= .int .i64
abbrev kB:Kd:= .bool
abbrev Aa:List Kd:=[kI]
abbrev kPt:List Kd:=[kI,kI,kI]
abbrev Ah:List Kd:=[kI,kI,kI,kI,kI,kI,kI,kI,kI,kI,kI,kI,kI,kB,kI,kB,kI,kI,kI,kI,kI,kB]
abbrev Aj:List Kd:=[kI,kI,kI,kI,kI,kI,kI]
abbrev AF:List Kd:=[kI,kI,kI]
abbrev As:List Kd:=[kI,kI,kI,kI,kI,kI,kI,kI,kI,kI]
abbrev DT:List Kd:=[kI,kI,kI,kI]
abbrev ptR (p:Pt):List AC:=[I p.x,I p.y,I p.z]
abbrev Ag (t:Itm):List AC:=[I t.aP,I t.block,I t.fr.x,I t.fr.y,I t.fr.z,I t.to.x,I t.to.y,I t.to.z,I t.aG,I t.ce.x,I t.ce.y,I t.ce.z,I t.dir,B t.bG,I t.aZ,B t.perRev,I t.side,I t.radius,I t.bH,I t.n,I t.aS,B t.on]
abbrev Ay (g:Sgm):List AC:=[I g.to.x,I g.to.y,I g.to.z,I g.len,I g.aU,I g.aZ,I g.aX]
abbrev At (m:Mrk):List AC:=[I m.at_,I m.aP,I m.aU]
abbrev AS (c:Pce):List AC:=[I c.at_,I c.aR,I c.s,I c.bC,I c.was.x,I c.was.y,I c.was.z,I c.aT.x,I c.aT.y,I c.aT.z]
abbrev CX (s:Spk):List AC:=[I s.u,I s.w,I s.r,I s.h]
abbrev Bu (p:Pth):List AC:=[I p.aQ.x,I p.aQ.y,I p.aQ.z, .vC Aj (p.aF.map Ay), .vC AF (p.aD.map At)]
abbrev Bl (x:Axs):List AC:=[I x.step,I x.aS,I x.bD,I x.bE,I x.low,I x.aY,I x.bB,I x.aV,I x.aO, .vC Aa (x.aW.map Aq)]
abbrev Br (t:Trk):List AC:=[.vC As (t.aE.map AS),I t.length,I t.aQ,I t.aT.x,I t.aT.y,I t.aT.z]
structure Ax3 where
 (a b c:Axs)
abbrev AE (x:Ax3):List AC:=[I x.a.step,I x.a.aS,I x.a.bD,I x.a.bE,I x.a.low,I x.a.aY,I x.a.bB,I x.a.aV,I x.a.aO, .vC Aa (x.a.aW.map Aq),I x.b.step,I x.b.aS,I x.b.bD,I x.b.bE,I x.b.low,I x.b.aY,I x.b.bB,I x.b.aV,I x.b.aO, .vC Aa (x.b.aW.map Aq),I x.c.step,I x.c.aS,I x.c.bD,I x.c.bE,I x.c.low,I x.c.aY,I x.c.bB,I x.c.aV,I x.c.aO, .vC Aa (x.c.aW.map Aq)]
abbrev pxt (p:Pth) (x:Ax3) (t:Trk) (l:List AC):List AC:=
 I p.aQ.x::I p.aQ.y::I p.aQ.z:: .vC Aj (p.aF.map Ay):: .vC kPt (p.aD.map At)::
 I x.a.step::I x.a.aS::I x.a.bD::I x.a.bE::I x.a.low::I x.a.aY::I x.a.bB::I x.a.aV::I x.a.aO:: .vC Aa (x.a.aW.map Aq)::
 I x.b.step::I x.b.aS::I x.b.bD::I x.b.bE::I x.b.low::I x.b.aY::I x.b.bB::I x.b.aV::I x.b.aO:: .vC Aa (x.b.aW.map Aq)::
 I x.c.step::I x.c.aS::I x.c.bD::I x.c.bE::I x.c.low::I x.c.aY::I x.c.bB::I x.c.aV::I x.c.aO:: .vC Aa (x.c.aW.map Aq)::
 .vC As (t.aE.map AS)::I t.length::I t.aQ::I t.aT.x::I t.aT.y::I t.aT.z::l
abbrev EL (p:Pth) (t:Trk) (l:List AC):List AC:=
 I p.aQ.x::I p.aQ.y::I p.aQ.z:: .vC Aj (p.aF.map Ay):: .vC kPt (p.aD.map At)::
 .vC As (t.aE.map AS)::I t.length::I t.aQ::I t.aT.x::I t.aT.y::I t.aT.z::l
theorem Zpr {a:AC} (h:okC kI a):i64 (Af a):=by
 unfold okC at h;unfold i64;exact h
abbrev gA (l:List AC) (k:Nat):Int:=Af (nth .vD l k)
abbrev jA (l:List AC) (k:Nat):AC:= .int .i64 (Af (nth .vD l k))
abbrev wA (l:List AC) (k:Nat):List (List AC):=Bq (nth .vD l k)
abbrev bA (l:List AC) (k:Nat):Bool:=Dn (nth .vD l k)
abbrev Fn:=List AC->Option (List AC)
abbrev Lp:=List AC->Option (Nat×List AC)
abbrev Rw:=List (List AC)
abbrev ci:CS:= .int .i64
abbrev tf:List CS->TS:= .v false
abbrev td:TS:= .vD
attribute [go_sem] gA jA wA bA az bc
theorem Z1i (r:List AC):AM Ah r=[jA r 0,jA r 1,jA r 2,jA r 3,jA r 4,jA r 5,jA r 6,jA r 7,jA r 8,jA r 9,jA r 10,jA r 11,jA r 12,B (bA r 13),jA r 14,B (bA r 15),jA r 16,jA r 17,jA r 18,jA r 19,jA r 20,B (bA r 21)]:=rfl
theorem Z0m (r:List AC):AM Aj r=[jA r 0,jA r 1,jA r 2,jA r 3,jA r 4,jA r 5,jA r 6]:=rfl
theorem Znl (r:List AC):AM As r=[jA r 0,jA r 1,jA r 2,jA r 3,jA r 4,jA r 5,jA r 6,jA r 7,jA r 8,jA r 9]:=rfl
attribute [go_sem] Z1i Z0m Znl
end Go.Bm
