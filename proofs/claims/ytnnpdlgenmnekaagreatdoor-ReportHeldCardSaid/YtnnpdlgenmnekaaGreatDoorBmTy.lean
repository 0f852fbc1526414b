/- the abstract machine -/
import Derived.Test.YtnnpdlgenmnekaaGreatDoorBmKeep
set_option linter.unusedVariables false
set_option linter.unusedSimpArgs false
namespace Go.Bm
theorem Z2f {rl:Nat->Nat} {c:CS} {a:AC} {v:List AC} (he:WC c a=true) (h:HQ c a=some v) {l:List AC} {i:Nat} (D:Seg l i v):Dz rl l c i=(a,i+v.length):=by
 cases c<;>cases a<;>simp only[WC]at he<;>try (simp at he;done)
 case int.int k k' n=>
  simp only[HQ,he,ah,an]at h;subst h;simp only[Dz,D.one,Ah,PW he,ba,bv]
 case bool.bool b=>
  simp only[HQ,an]at h;subst h;simp only[Dz,D.one,EZ,ba,bv]
 case sl.vC ks G q=>
  simp only[HQ,he,ah,an]at h;subst h;simp only[Dz,D.one,AW,IU he,ba,bv]
 case ptr.ptr k o k' I=>
  simp only[HQ,he,ah,an]at h;subst h;simp only[al]at he;simp only[Dz,af he.1,af he.2,bv,jz]
theorem Zcq {rl:Nat->Nat} {l:List AC}:∀{cs:List CS} {as:List AC} {v:List AC},Ph cs as=true->GT cs as=some v->∀{i},Seg l i v->DL rl l cs i=(as,i+v.length)
 |[],[],v,_,h,i,_=>by simp[GT]at h;subst h;rfl
 |c::cs,a::as,v,he,h,i,D=>by
  simp only[Ph,al]at he;simp only[GT]at h;split at h
  ·rename_i L G;split at h
   ·rename_i M I;simp at h;subst h;simp only[DL,Z2f he.1 G D.left,Zcq he.2 I D.right,ap,dl]
   ·simp at h
  ·simp at h
 |[],_::_,_,he,_,_,_=>by simp[Ph]at he
 |_::_,[],_,he,_,_,_=>by simp[Ph]at he
theorem Qya {rl:Nat->Nat} {l:List AC} {aB:List (Nat×Box)}:∀{bs:List (Nat×TypeId×List CS)} {m:List (Nat×Box)} {v:List AC},HA bs m=true->(∀p∈m,Ab aB p.1=some p.2)->
  JZ bs aB=some v->∀{i},Seg l i v->Fa rl l bs i=m
 |[],[],v,_,_,_,i,_=>rfl
 |(k,t,cs)::bs,(k',b)::m,v,he,D,h,i,G=>by
  simp only[HA,al]at he;obtain⟨e1,e2,e3,I⟩:=he;have e1:=af e1;subst e1;have hb:=D (k,b) (by simp);dsimp only at hb;simp only[JZ,hb,e2,ah]at h;split at h
  ·rename_i O L;split at h
   ·rename_i S M;simp at h;subst h;simp only[Fa,Zcq e3 L G.left,Qya I (λp N=>D p (by simp[N])) M G.right];obtain⟨ty,cells⟩:=b;simp only[af e2]
   ·simp at h
  ·simp at h
 |[],_::_,_,he,_,_,_,_=>by simp[HA]at he
 |_::_,[],_,he,_,_,_,_=>by simp[HA]at he
theorem Zd9:∀{bs:List (Nat×TypeId×List CS)} {m:List (Nat×Box)},HA bs m=true->m.map (·.1)=bs.map (·.1)
 |[],[],_=>rfl
 |(k,t,cs)::bs,(k',b)::m,he=>by
  simp only[HA,al]at he;simp only[be,Zd9 he.2.2.2,af he.1]
 |[],_::_,he=>by simp[HA]at he
 |_::_,[],he=>by simp[HA]at he
theorem Zx4 {sig D:Sk} {m:List AC->Option (List AC)} (R:Type) (args:List TV) (mem:Mem) (K:TV->Mem->Option R):E8 sig D m R args mem K=(E8 sig D m (TV×Mem) args mem λv m=>some (v,m)).bind λp=>K p.1 p.2:=by
 obtain⟨aB,aC⟩:=mem;simp only[E8];cases(Am (λp:Nat×Box=>Ds p.1) aB&&(HA sig.aB aB&&(aC.isEmpty&&(sig.aC.isEmpty&&BG (sig.aB.map (·.1))))))
 ·rfl
 ·simp only[ah];cases Dw sig ⟨args,aB,aC⟩with
  |none=>rfl
  |some vars=>
   dsimp only;cases m vars with
   |none=>rfl
   |some o=>
    simp only[ai];generalize AE D o=s;obtain⟨tm,b,r⟩:=s;cases b<;>cases r<;>try rfl
    dsimp only;split<;>rfl
theorem Yc5 {sig D:Sk} {m:List AC->Option (List AC)}:US (E8 sig D m):=by
 intro args mem v G h;obtain⟨aB,aC⟩:=mem;simp only[E8]at h;obtain⟨_,h⟩:=Bn h;split at h
 ·simp only[bh]at h;obtain⟨o,_,h⟩:=h;split at h
  ·split at h
   ·simp only[an,cm]at h;exact h.2.symm
   ·simp at h
  ·simp at h
 ·simp at h
theorem L1 {rs:List Nat}:AllRo rs []:=trivial
theorem DB {rs:List Nat} {k:Nat} {g:Spec} {l:List (Nat×Spec)} (h:AM rs k=false) (t:AllRo rs l):AllRo rs ((k,g)::l):=⟨.inl h,t⟩
theorem JA {rs:List Nat} {k:Nat} {sig D:Sk} {m:List AC->Option (List AC)} {l:List (Nat×Spec)} (t:AllRo rs l):AllRo rs ((k,E8 sig D m)::l):=⟨.inr Yc5,t⟩
def Z0f (P:Program) (C:Cfg) (L:Nat) (f:FuncId) (sig:Sk):Prop:=
 ∀(vars:List AC) (R:Type) (K:TV->Mem->Option R),EO P C L f (AE sig vars).tmps ⟨(AE sig vars).aB,(AE sig vars).aC⟩ K=EO P C L f (AE sig vars).tmps ⟨(AE sig vars).aB,(AE sig vars).aC⟩ λv _=>K v ⟨(AE sig vars).aB,(AE sig vars).aC⟩
open Classical in
theorem S8 {P:Program} {C:Cfg} {f:FuncId} {L:Nat} {sig G:Sk} (hc:Ir P f=true) (h:FnOK P C f) (a3:Ai P C) (b4:∀t∈C.eqOk,P.stoodInHeld t=false) (b1:P.follows .mixedOrders=true)
  (h1:sig.okB=true) (h2:G.okB=true) (hl:Z0f P C L f sig):Ak P (f,E8 sig G (Od P C L f sig G)):=by
 refine⟨Zx4,λargs mem v mem' S=>PCallM.x ?_ (Jm hc)⟩;obtain⟨aB,aC⟩:=mem;simp only[E8]at S;obtain⟨X,S⟩:=Bn S;simp only[al]at X;obtain⟨X,hex,a4,T,a5⟩:=X;have a4:aC=[]:=by simpa using a4
 have T:sig.aC=[]:=by simpa using T
 subst a4;split at S
 ·rename_i vars D;simp only[bh]at S;obtain⟨o,ho,S⟩:=S;intro F w hG ρ xs b5;have hZ:InZ (D6 F w ρ aB hG):=NS X;have a6:=b5.rebuild hZ h1 D
  have N:(AE sig vars).aB=aB:=by
   simp only[Dw]at D;obtain⟨_,D⟩:=Bn D;rw[T]at D;simp only[JD]at D;split at D
   ·rename_i b hb;split at D
    ·rename_i c Y;simp only[az,an]at D;subst D;simp only[AE,T,G6];have U:=U9 (aB:=aB) (aC:=[]) (ρ:=ρ) (w:=w) (rl:=DK []) ⟨λid r hl=>by simp[Ab]at hl⟩ hb (l:=b++c) (i:=0) (Seg.all _).left;generalize b6:EE (DK []) (b++c) sig.tmps 0=q at U;obtain⟨tm,i⟩:=q;have hi:i=0+b.length:=U.1;subst hi;have a7:=Zd9 hex;refine Qya hex (λp hp=>Vq (by rw[a7];exact a5) hp) Y (Seg.all (b++c)).right
    ·simp at D
   ·simp at D
  have O:(AE sig vars).aC=[]:=by simp only[AE,T,G6]
  have a8:=hl vars;unfold Od at ho;generalize hs:AE sig vars=s1 at ho a6 a8 N O;obtain⟨a9,M,b7⟩:=s1;dsimp only at ho a6 a8 N O;subst N;subst O;have b2:EO P C L f a9 ⟨M,[]⟩ (λv m=>if m=⟨M,[]⟩then Dw G ⟨[v],[],[]⟩else none)=some o:=by
   rw[a8];simp only[dp];exact ho
  refine(Zit a3 b4 b1 hZ (λ_ b0=>h.sub b0) b2 a6).mono ?_;rintro e w' ⟨x,ρ',v',m',he,I,a0⟩;split at I
  ·rename_i hm;subst hm;dsimp only at a0
   simp only[Dw]at I;obtain⟨_,I⟩:=Bn I;split at I
   ·rename_i a ha;split at I
    ·rename_i b hb;split at I
     ·rename_i c Y;simp only[an]at I;subst I;split at S
      ·rename_i tm a1;split at S
       ·rename_i vn;simp only[an,cm]at S;obtain⟨rfl,rfl⟩:=S;have V:G.aC=[]:=by
         cases b8:G.aC with
         |nil=>rfl
         |cons p l=>obtain⟨k,t,ks⟩:=p;rw[b8]at ha;simp[JD,Ab]at ha
        rw[V]at ha;simp only[JD,an]at ha;subst ha;have U:=U9 (aB:=M) (aC:=[]) (ρ:=ρ') (w:=w') (rl:=DK []) ⟨λid r hl=>by simp[Ab]at hl⟩ hb (l:=[]++(b++c)) (i:=0) (show Seg (b++c) 0 b from(Seg.all (b++c)).left);simp only[AE,V,G6]at a1;have a2:=Qlk (B':=M) (R':=[]) (keys:=[]) (rs:=[]) (rl:=DK []) (by simp) (by simp[Ab]) (ts:=G.tmps)
         (by
          have:=h2;simp only[Sk.okB,al]at this;have b9:G.aB=[]:=by
           cases c0:G.aB with
           |nil=>rfl
           |cons p l=>obtain⟨k,t,ks⟩:=p;rw[c0]at Y;simp[JZ,Ab]at Y
          have h3:=this.1.2;rw[b9,V]at h3;exact h3) ([]++(b++c)) 0
        generalize b6:EE (DK []) ([]++(b++c)) G.tmps 0=q at U a1 a2;obtain⟨c2,i⟩:=q;simp only[St.mk.injEq]at a1;obtain⟨rfl,_,_⟩:=a1;obtain⟨u,b3,c1⟩:=U.2.2 0 vn rfl;simp only[List.getElem?_cons_zero,an]at b3;subst b3;refine⟨x,ρ',he,a0.slots (by simp) (λi u hi=> ?_) (λu hu=>a2 u hu)⟩;cases i with
        |zero=>
         simp at hi;subst hi;have:=a0.tv 0 v' rfl;exact c1 _ (a0.wt v' (by simp)) this
        |succ i=>simp at hi
       ·simp at S
      ·simp at S
     ·simp at I
    ·simp at I
   ·simp at I
  ·simp at I
 ·simp at S
abbrev I (n:Int):AC:= .int .i64 n
abbrev U (n:Int):AC:= .int .u64 n
abbrev B (b:Bool):AC:= .bool b
theorem B8 {x:Int} (h:0<=x/\x<=18446744073709551615):IntKind.u64.wrap x=x:=by
 simp[O,IntKind.wrap,IntKind.signed,IntKind.bits];omega
theorem LC (x:Int):IntKind.u64.wrap x=x%18446744073709551616:=by
 simp[O,IntKind.wrap,IntKind.signed,IntKind.bits]
theorem Qdt (x:Int):O x=(x+9223372036854775808)%18446744073709551616-9223372036854775808:=by
 simp[O,IntKind.wrap,IntKind.signed,IntKind.bits];omega
def i64 (x:Int):Prop:= -9223372036854775808<=x/\x<=9223372036854775807
theorem Tz (x:Int):i64 (O x):=by
 rw[Qdt];unfold i64;omega
theorem BP {α:Type} {c:Bool} {a b:α} (h:c=true):(bif c then a else b)=a:=by rw[h];rfl
theorem B0 {α:Type} {c:Bool} {a b:α} (h:c=false):(bif c then a else b)=b:=by rw[h];rfl
theorem Cp {α:Type} {p:Prop} {inst:Decidable p} {a b:α} (h:p):(bif@decide p inst then a else b)=a:=by rw[@ak p inst h];rfl
theorem AQ {α:Type} {p:Prop} {inst:Decidable p} {a b:α} (h: ¬p):(bif@decide p inst then a else b)=b:=by rw[@am p inst h];rfl
theorem Z2x {α:Type} {p:Prop} {inst:Decidable p} {a b:α}:(bif@decide p inst then a else b)=if p then a else b:=by
 by_cases h:p
 ·rw[Cp h,aa h]
 ·rw[AQ h,ab h]
theorem Z9q {α:Type} {c:Bool} {a b:α}:(bif c then a else b)=if c=true then a else b:=by cases c<;>rfl
theorem Zp4 {a b:Bool}:((a&&b)=true)=(a=true/\b=true):=by cases a<;>cases b<;>simp
theorem Z1z {a b:Bool}:((a||b)=true)=(a=true\/b=true):=by cases a<;>cases b<;>simp
theorem Zl7 {a:Bool}:((!a)=true)= ¬(a=true):=by cases a<;>simp
theorem Z9c {p:Prop} {inst:Decidable p}:(@decide p inst=true)=p:=by simp
theorem Z5g {a b:Int}:((a==b)=true)=(a=b):=by simp
theorem Zsb {a b:Int}:((a !=b)=true)=(a≠b):=by simp
theorem Z30 {a b:Nat}:(Nat.beq a b=true)=(a=b):=by simp
theorem Zxi {a b:Nat}:(Nat.ble a b=true)=(a<=b):=by simp
attribute [go_sem ↓] Z2x Z9q Zp4 Z1z Zl7 Z9c Z5g Zsb Z30 Zxi
theorem F0 {α:Type} (d x:α) (l:List α):nth d (x::l) 0=x:=by simp[nth]
theorem FP (k:IntKind) (n:Int):Ah (.int k n)=n:=by simp[Ah]
theorem R7 (b:Bool):EZ (.bool b)=b:=by simp[EZ]
theorem Vz (ks:List Kd) (l:List (List AC)):AW (.vC ks l)=l:=by simp[AW]
theorem Zp6 {p q:Prop} {i1:Decidable p} {D:Decidable q}:((@decide p i1== @decide q D)=true)=(p↔q):=by simp
theorem Yd5 {a b:Nat}:((a==b)=true)=(a=b):=by simp
attribute [go_sem ↓] Zp6 Yd5
attribute [go_sem] dp f9
theorem KX {α:Type} (d x:α) (l:List α):nth d (x::l) 1=nth d l 0:=by simp[nth]
theorem KA {α:Type} (d x:α) (l:List α):nth d (x::l) 2=nth d l 1:=by simp[nth]
theorem Pb {α:Type} (d x:α) (l:List α):nth d (x::l) 3=nth d l 2:=by simp[nth]
theorem Ql {α:Type} (d x:α) (l:List α):nth d (x::l) 4=nth d l 3:=by simp[nth]
theorem UO {α:Type} (d x:α) (l:List α):nth d (x::l) 5=nth d l 4:=by simp[nth]
theorem Qh0 {α:Type} (d x:α) (l:List α):nth d (x::l) 6=nth d l 5:=by simp[nth]
theorem Qf8 {α:Type} (d x:α) (l:List α):nth d (x::l) 7=nth d l 6:=by simp[nth]
theorem Z6z {α:Type} (d x:α) (l:List α):nth d (x::l) 8=nth d l 7:=by simp[nth]
theorem Zsl {α:Type} (d x:α) (l:List α):nth d (x::l) 9=nth d l 8:=by simp[nth]
theorem Z65 {α:Type} (d x:α) (l:List α):nth d (x::l) 10=nth d l 9:=by simp[nth]
theorem Z63 {α:Type} (d x:α) (l:List α):nth d (x::l) 11=nth d l 10:=by simp[nth]
theorem Yat {α:Type} (d x:α) (l:List α):nth d (x::l) 12=nth d l 11:=by simp[nth]
theorem Zzd {α:Type} (d x:α) (l:List α):nth d (x::l) 13=nth d l 12:=by simp[nth]
theorem Z34 {α:Type} (d x:α) (l:List α):nth d (x::l) 14=nth d l 13:=by simp[nth]
theorem Zqa {α:Type} (d x:α) (l:List α):nth d (x::l) 15=nth d l 14:=by simp[nth]
theorem Znk {α:Type} (d x:α) (l:List α):nth d (x::l) 16=nth d l 15:=by simp[nth]
theorem Yaz {α:Type} (d x:α) (l:List α):nth d (x::l) 17=nth d l 16:=by simp[nth]
theorem Z3h {α:Type} (d x:α) (l:List α):nth d (x::l) 18=nth d l 17:=by simp[nth]
theorem Ygu {α:Type} (d x:α) (l:List α):nth d (x::l) 19=nth d l 18:=by simp[nth]
theorem Ykb {α:Type} (d x:α) (l:List α):nth d (x::l) 20=nth d l 19:=by simp[nth]
theorem Zlb {α:Type} (d x:α) (l:List α):nth d (x::l) 21=nth d l 20:=by simp[nth]
theorem Zmn {α:Type} (d x:α) (l:List α):nth d (x::l) 22=nth d l 21:=by simp[nth]
theorem Z4w {α:Type} (d x:α) (l:List α):nth d (x::l) 23=nth d l 22:=by simp[nth]
theorem Zkp {α:Type} (d x:α) (l:List α):nth d (x::l) 24=nth d l 23:=by simp[nth]
theorem Znf {α:Type} (d x:α) (l:List α):nth d (x::l) 25=nth d l 24:=by simp[nth]
theorem Yak {α:Type} (d x:α) (l:List α):nth d (x::l) 26=nth d l 25:=by simp[nth]
theorem Yjq {α:Type} (d x:α) (l:List α):nth d (x::l) 27=nth d l 26:=by simp[nth]
theorem Z5d {α:Type} (d x:α) (l:List α):nth d (x::l) 28=nth d l 27:=by simp[nth]
theorem Zmv {α:Type} (d x:α) (l:List α):nth d (x::l) 29=nth d l 28:=by simp[nth]
theorem Z4g {α:Type} (d x:α) (l:List α):nth d (x::l) 30=nth d l 29:=by simp[nth]
theorem Zqt {α:Type} (d x:α) (l:List α):nth d (x::l) 31=nth d l 30:=by simp[nth]
theorem Z59 {α:Type} (d x:α) (l:List α):nth d (x::l) 32=nth d l 31:=by simp[nth]
theorem Zwt {α:Type} (d x:α) (l:List α):nth d (x::l) 33=nth d l 32:=by simp[nth]
theorem Yhy {α:Type} (d x:α) (l:List α):nth d (x::l) 34=nth d l 33:=by simp[nth]
theorem Z15 {α:Type} (d x:α) (l:List α):nth d (x::l) 35=nth d l 34:=by simp[nth]
theorem Yjb {α:Type} (d x:α) (l:List α):nth d (x::l) 36=nth d l 35:=by simp[nth]
theorem Z0c {α:Type} (d x:α) (l:List α):nth d (x::l) 37=nth d l 36:=by simp[nth]
theorem Z5k {α:Type} (d x:α) (l:List α):nth d (x::l) 38=nth d l 37:=by simp[nth]
theorem Z4c {α:Type} (d x:α) (l:List α):nth d (x::l) 39=nth d l 38:=by simp[nth]
attribute [go_sem] F0 KX KA Pb Ql UO Qh0 Qf8 Z6z Zsl Z65 Z63 Yat Zzd Z34 Zqa Znk Yaz Z3h Ygu Ykb Zlb Zmn Z4w Zkp Znf Yak Yjq Z5d Zmv Z4g Zqt Z59 Zwt Yhy Z15 Yjb Z0c Z5k Z4c FP R7 Vz ai
theorem Q1i {S:Type} {step:List AC->Option (Nat×List AC)} (enc:S->List AC) (Inv:S->Prop) (m:S->Nat) (Q:Nat×List AC->Prop)
  (h:∀s,Inv s->(∃G,step (enc s)=some (0,enc G)/\Inv G/\m G<m s)\/∃o,step (enc s)=some o/\o.1≠0/\Q o):
  ∀s,Inv s->∃o,Al step (enc s)=some o/\o.1≠0/\Q o:=by
 have:∀n s,m s<=n->Inv s->∃o,Al step (enc s)=some o/\o.1≠0/\Q o:=by
  intro n;induction n with
  |zero=>
   intro s N L;rcases h s L with⟨G,I,D,M⟩|⟨o,I,D,M⟩
   ·omega
   ·refine⟨o,?_,D,M⟩;rw[Q2,I];simp[D]
  |succ n O=>
   intro s N L;rcases h s L with⟨G,I,D,M⟩|⟨o,I,D,M⟩
   ·obtain⟨o,T,U⟩:=O G (by omega) D;refine⟨o,?_,U⟩;rw[Q2,I];simpa using T
   ·refine⟨o,?_,D,M⟩;rw[Q2,I];simp[D]
 intro s L;exact this _ s (cg _) L
theorem AS {step:List AC->Option (Nat×List AC)} {v w:List AC} (h:step v=some (0,w)):Al step v=Al step w:=by
 rw[Q2,h];rfl
theorem AJ {step:List AC->Option (Nat×List AC)} {v:List AC} {o:Nat×List AC} (h:step v=some o) (D:o.1≠0):Al step v=some o:=by
 rw[Q2,h];simp[D]
theorem Z29 {sig D:Sk} {m:List AC->Option (List AC)} {args:List TV} {vars:List AC} (G:Dw sig ⟨args,[],[]⟩=some vars) (I:m vars=some [B true]) (L:AE D [B true]=⟨[.v false [.bool true]],[],[]⟩):
  (Ac sig D m (TV×Mem) args ⟨[],[]⟩ λv m=>some (v,m))=some (.v false [.bool true],⟨[],[]⟩):=by
 simp only[Ac,Am,ah];rw[G];dsimp only;rw[I];simp only[ai];rw[L]
theorem Ar.tv_of {a:Ar} {g:Bool} {ks:List Kd} (D:a.agg=g) (G:a.ks=ks):a.tv= .v g (AF ks a.raw):=by unfold Ar.tv;rw[D,G]
theorem Em {α:Type} (f:α->List AC) (d:List AC):∀(l:List α) (i:Nat) (h:i<l.length),nth d (l.map f) i=f l[i]
 |x::l,0,_=>rfl
 |x::l,i+1,h=>by simp only[be,nth,ik];exact Em f d l i (by simpa using h)
theorem Fx {α:Type} (d:α):∀(l:List α) (i:Nat) (h:i<l.length),nth d l i=l[i]
 |x::l,0,_=>rfl
 |x::l,i+1,h=>by simp only[nth,ik];exact Fx d l i (by simpa using h)
def At (n:Int):List AC:=[I n]
theorem KQ {α:Type} (l:List α) (i:Nat) (h:i<l.length):l.drop i=l[i]::l.drop (i+1):=by simp
structure Pt where
 (x y z:Int)
structure Itm where
 (aP block:Int)
 (fr to:Pt)
 (aG:Int)
 (ce:Pt)
 (dir:Int)
 bG:Bool
 aZ:Int
 perRev:Bool
 (side radius bH n aS:Int)
 on:Bool
structure Sgm where
 to:Pt
 (len aU aZ aX:Int)
structure Mrk where
 (at_ aP aU:Int)
structure Pth where
 aQ:Pt
 aF:List Sgm
 aD:List Mrk
structure Axs where
 (step aS bD bE low aY bB aV aO:Int)
 aW:List Int
structure Pce where
 (at_ aR s bC:Int)
 (was aT:Pt)
structure Trk where
 aE:List Pce
 (length aQ:Int)
 aT:Pt
structure Spk where
 (u w r h:Int)
instance:DecidableEq Pt:=λa b=>by
 obtain⟨a1,a2,a3⟩:=a;obtain⟨b1,b2,b3⟩:=b;exact decidable_of_iff (a1=b1/\a2=b2/\a3=b3) (by simp)
instance:DecidableEq Sgm:=λa b=>by
 obtain⟨a1,a2,a3,a4,a5⟩:=a;obtain⟨b1,b2,b3,b4,b5⟩:=b;exact decidable_of_iff (a1=b1/\a2=b2/\a3=b3/\a4=b4/\a5=b5) (by simp)
instance:DecidableEq Mrk:=λa b=>by
 obtain⟨a1,a2,a3⟩:=a;obtain⟨b1,b2,b3⟩:=b;exact decidable_of_iff (a1=b1/\a2=b2/\a3=b3) (by simp)
instance:DecidableEq Pce:=λa b=>by
 obtain⟨a1,a2,a3,a4,a5,a6⟩:=a;obtain⟨b1,b2,b3,b4,b5,b6⟩:=b;exact decidable_of_iff (a1=b1/\a2=b2/\a3=b3/\a4=b4/\a5=b5/\a6=b6) (by simp)
abbrev kI:Kd:= .int .i64
abbrev kU:Kd:= .int .u64
abbrev kB:Kd:= .bool
abbrev Aa:List Kd:=[kI]
abbrev kPt:List Kd:=[kI,kI,kI]
abbrev Ae:List Kd:=[kI,kI,kI,kI,kI,kI,kI,kI,kI,kI,kI,kI,kI,kB,kI,kB,kI,kI,kI,kI,kI,kB]
abbrev Ag:List Kd:=[kI,kI,kI,kI,kI,kI,kI]
abbrev AA:List Kd:=[kI,kI,kI]
abbrev Ap:List Kd:=[kI,kI,kI,kI,kI,kI,kI,kI,kI,kI]
abbrev BS:List Kd:=[kI,kI,kI,kI]
abbrev ptR (p:Pt):List AC:=[I p.x,I p.y,I p.z]
abbrev Af (t:Itm):List AC:=[I t.aP,I t.block,I t.fr.x,I t.fr.y,I t.fr.z,I t.to.x,I t.to.y,I t.to.z,I t.aG,I t.ce.x,I t.ce.y,I t.ce.z,I t.dir,B t.bG,I t.aZ,B t.perRev,I t.side,I t.radius,I t.bH,I t.n,I t.aS,B t.on]
abbrev Az (g:Sgm):List AC:=[I g.to.x,I g.to.y,I g.to.z,I g.len,I g.aU,I g.aZ,I g.aX]
abbrev Aq (m:Mrk):List AC:=[I m.at_,I m.aP,I m.aU]
abbrev AZ (c:Pce):List AC:=[I c.at_,I c.aR,I c.s,I c.bC,I c.was.x,I c.was.y,I c.was.z,I c.aT.x,I c.aT.y,I c.aT.z]
abbrev AX (s:Spk):List AC:=[I s.u,I s.w,I s.r,I s.h]
abbrev Bj (p:Pth):List AC:=[I p.aQ.x,I p.aQ.y,I p.aQ.z, .vC Ag (p.aF.map Az), .vC AA (p.aD.map Aq)]
abbrev Bk (x:Axs):List AC:=[I x.step,I x.aS,I x.bD,I x.bE,I x.low,I x.aY,I x.bB,I x.aV,I x.aO, .vC Aa (x.aW.map At)]
abbrev Bu (t:Trk):List AC:=[.vC Ap (t.aE.map AZ),I t.length,I t.aQ,I t.aT.x,I t.aT.y,I t.aT.z]
structure Ax3 where
 (a b c:Axs)
abbrev AK (x:Ax3):List AC:=[I x.a.step,I x.a.aS,I x.a.bD,I x.a.bE,I x.a.low,I x.a.aY,I x.a.bB,I x.a.aV,I x.a.aO, .vC Aa (x.a.aW.map At),I x.b.step,I x.b.aS,I x.b.bD,I x.b.bE,I x.b.low,I x.b.aY,I x.b.bB,I x.b.aV,I x.b.aO, .vC Aa (x.b.aW.map At),I x.c.step,I x.c.aS,I x.c.bD,I x.c.bE,I x.c.low,I x.c.aY,I x.c.bB,I x.c.aV,I x.c.aO, .vC Aa (x.c.aW.map At)]
abbrev pxt (p:Pth) (x:Ax3) (t:Trk) (l:List AC):List AC:=
 I p.aQ.x::I p.aQ.y::I p.aQ.z:: .vC Ag (p.aF.map Az):: .vC kPt (p.aD.map Aq)::
 I x.a.step::I x.a.aS::I x.a.bD::I x.a.bE::I x.a.low::I x.a.aY::I x.a.bB::I x.a.aV::I x.a.aO:: .vC Aa (x.a.aW.map At)::
 I x.b.step::I x.b.aS::I x.b.bD::I x.b.bE::I x.b.low::I x.b.aY::I x.b.bB::I x.b.aV::I x.b.aO:: .vC Aa (x.b.aW.map At)::
 I x.c.step::I x.c.aS::I x.c.bD::I x.c.bE::I x.c.low::I x.c.aY::I x.c.bB::I x.c.aV::I x.c.aO:: .vC Aa (x.c.aW.map At)::
 .vC Ap (t.aE.map AZ)::I t.length::I t.aQ::I t.aT.x::I t.aT.y::I t.aT.z::l
abbrev Fg (p:Pth) (t:Trk) (l:List AC):List AC:=
 I p.aQ.x::I p.aQ.y::I p.aQ.z:: .vC Ag (p.aF.map Az):: .vC kPt (p.aD.map Aq)::
 .vC Ap (t.aE.map AZ)::I t.length::I t.aQ::I t.aT.x::I t.aT.y::I t.aT.z::l
theorem Zyb {a:AC} (h:okC kI a):i64 (Ah a):=by
 unfold okC at h;unfold i64;exact h
abbrev gA (l:List AC) (k:Nat):Int:=Ah (nth .vD l k)
abbrev jA (l:List AC) (k:Nat):AC:= .int .i64 (Ah (nth .vD l k))
abbrev wA (l:List AC) (k:Nat):List (List AC):=AW (nth .vD l k)
abbrev bA (l:List AC) (k:Nat):Bool:=EZ (nth .vD l k)
abbrev Fn:=List AC->Option (List AC)
abbrev Lp:=List AC->Option (Nat×List AC)
abbrev Rw:=List (List AC)
abbrev ci:CS:= .int .i64
abbrev tf:List CS->TS:= .v false
abbrev td:TS:= .vD
attribute [go_sem] gA jA wA bA ay az
theorem Yan (r:List AC):AF Ae r=[jA r 0,jA r 1,jA r 2,jA r 3,jA r 4,jA r 5,jA r 6,jA r 7,jA r 8,jA r 9,jA r 10,jA r 11,jA r 12,B (bA r 13),jA r 14,B (bA r 15),jA r 16,jA r 17,jA r 18,jA r 19,jA r 20,B (bA r 21)]:=rfl
theorem Zca (r:List AC):AF Ag r=[jA r 0,jA r 1,jA r 2,jA r 3,jA r 4,jA r 5,jA r 6]:=rfl
theorem Zvs (r:List AC):AF Ap r=[jA r 0,jA r 1,jA r 2,jA r 3,jA r 4,jA r 5,jA r 6,jA r 7,jA r 8,jA r 9]:=rfl
attribute [go_sem] Yan Zca Zvs
end Go.Bm
