/- laid together -/
import Derived.Test.YtommijghjlikkaaGreatMx3
import Derived.Test.YtommijghjlikkaaGreatBmTy
set_option linter.unusedVariables false
set_option linter.unusedSimpArgs false
set_option maxRecDepth 100000
open Go.IntKind (wrap)
namespace Go.Bm
theorem HT {x:Int} (h:i64 x):FT [I x]=some [U (x.natAbs:Int)]:=by
  unfold i64 at h;unfold FT;rw[Zmt];by_cases hx:x<0
  · rw[C8 hx,Ae (x:=x+1) (by omega),Ae (x:=0-(x+1)) (by omega),HP (x:=0-(x+1)) (by omega),HP (x:=0-(x+1)+1) (by omega)]
    rw[show 0-(x+1)+1=(x.natAbs:Int) by omega]
  · rw[AM hx,HP (x:=x) (by omega)]
    rw[show x=(x.natAbs:Int) by omega];simp
def sgn (a b:Int):Int:=if a=0 then 0 else if b=0 then 0 else if(a<0↔b<0)then 1 else-1
theorem VA (a b:Int):Ft [I a,I b]=some [I (sgn a b)]:=by
  unfold Ft;rw[Qxg];simp only[go_sem];unfold sgn
  repeat' split
  all_goals rfl
def Gh (a b:Nat):Int:=if a<b then-1 else if a=b then 0 else 1
def LW (a b:Int):Int:=if a<b then-1 else if a=b then 0 else 1
noncomputable def w64:Nat:=Classical.choose (⟨18446744073709551616,rfl⟩:∃n:Nat,n=18446744073709551616)
theorem BC:w64=18446744073709551616:=Classical.choose_spec (⟨18446744073709551616,rfl⟩:∃n:Nat,n=18446744073709551616)
theorem Nz {x:Int} (h:i64 x):x.natAbs<w64:=by unfold i64 at h;have:=BC;omega
theorem Q8m {x y:Nat} (hx:x<w64) (hy:y<w64):H6 [U x,U y]=some [U ((x*y/w64:Nat):Int),U ((x*y%w64:Nat):Int)]:=by
  rw[BC]at hx hy;have hu:∀z:Nat,z<18446744073709551616->inU (z:Int)=true:=by
    intro z hz;have e64:Fp=18446744073709551616:=rfl;simp only[inU,e64,Bool.and_eq_true,decide_eq_true_eq];omega
  show Se (x:Int) (y:Int)=_;unfold Se;rw[hu x hx,hu y hy,BC];rfl
theorem Qz0 {x y:Nat} (hx:x<w64) (hy:y<w64):Ea [U x,U y]=some [U ((x*y/w64:Nat):Int),U ((x*y%w64:Nat):Int)]:=by
  unfold Ea;rw[Zj1,Q8m hx hy];simp only[go_sem]
theorem Qy6 (a b c d:Nat) (hb:b<w64) (hd:d<w64):In [U a,U b,U c,U d]=some [I (Gh (a*w64+b) (c*w64+d))]:=by
  unfold In;rw[Zbc];simp only[go_sem,and_true];unfold Gh;simp only[BC]at*;by_cases h1:a<c
  · rw[if_pos (by omega),if_pos (by omega)]
  · rw[if_neg (by omega)]
    by_cases h2:a=c
    · rw[if_pos (by omega)]
      by_cases h3:b<d
      · rw[if_pos (by omega),if_pos (by omega)]
      · rw[if_neg (by omega)]
        by_cases h4:b=d
        · rw[if_pos (by omega),if_neg (by omega),if_pos (by omega)]
        · rw[if_neg (by omega),if_neg (by omega),if_neg (by omega)]
    · rw[if_neg (by omega),if_neg (by omega),if_neg (by omega),if_neg (by omega)]
theorem RP (a b:Int):sgn a b*((a.natAbs*b.natAbs:Nat):Int)=a*b:=by
  unfold sgn;by_cases h1:a=0
  · subst h1;simp
  · by_cases h2:b=0
    · subst h2;simp
    · rw[if_neg h1,if_neg h2]
      have e:((a.natAbs*b.natAbs:Nat):Int)=(a.natAbs:Int)*(b.natAbs:Int):=by simp
      rw[e];by_cases h3:a<0<;>by_cases h4:b<0
      · rw[if_pos (by simp[h3,h4]),show(a.natAbs:Int)= -a by omega,show(b.natAbs:Int)= -b by omega,Int.neg_mul_neg,Int.one_mul]
      · rw[if_neg (by simp[h3,h4]),show(a.natAbs:Int)= -a by omega,show(b.natAbs:Int)=b by omega,Int.neg_mul,Int.one_mul,Int.neg_mul,Int.neg_neg]
      · rw[if_neg (by simp[h3,h4]),show(a.natAbs:Int)=a by omega,show(b.natAbs:Int)= -b by omega,Int.mul_neg,Int.neg_mul_neg,Int.one_mul]
      · rw[if_pos (by simp[h3,h4]),show(a.natAbs:Int)=a by omega,show(b.natAbs:Int)=b by omega,Int.one_mul]
theorem Sq (a b:Int):(sgn a b=0/\a*b=0)\/(sgn a b=1/\0<a*b)\/(sgn a b= -1/\a*b<0):=by
  have h:=RP a b;by_cases h1:a=0
  · subst h1;left;simp[sgn]
  · by_cases h2:b=0
    · subst h2;left;simp[sgn]
    · have hp:0<a.natAbs*b.natAbs:=Nat.mul_pos (by omega) (by omega)
      generalize a.natAbs*b.natAbs=p at*;generalize a*b=x at*;unfold sgn at h⊢;rw[if_neg h1,if_neg h2]at h⊢;by_cases h3:(a<0↔b<0)
      · rw[if_pos h3]at h⊢;right;left;exact⟨rfl,by omega⟩
      · rw[if_neg h3]at h⊢;right;right;exact⟨rfl,by omega⟩
theorem Z41 {a b c d:Int}:(if sgn a b≠sgn c d then(if sgn a b<sgn c d then-1 else 1)else sgn a b*Gh (a.natAbs*b.natAbs) (c.natAbs*d.natAbs))=LW (a*b) (c*d):=by
  have h1:=RP a b;have h2:=RP c d;have k1:=Sq a b;have k2:=Sq c d;unfold LW Gh;generalize a.natAbs*b.natAbs=p at*;generalize c.natAbs*d.natAbs=q at*;generalize a*b=x at*;generalize c*d=y at*;generalize sgn a b=u at*;generalize sgn c d=v at*;rcases k1 with⟨rfl,g1⟩|⟨rfl,g1⟩|⟨rfl,g1⟩<;>rcases k2 with⟨rfl,g2⟩|⟨rfl,g2⟩|⟨rfl,g2⟩
  · rw[if_neg (by simp),if_neg (show¬x<y by omega),if_pos (show x=y by omega)];exact Int.zero_mul _
  · rw[if_pos (by simp),if_pos (by omega),if_pos (by omega)]
  · rw[if_pos (by simp),if_neg (by omega),if_neg (by omega),if_neg (by omega)]
  · rw[if_pos (by simp),if_neg (by omega),if_neg (by omega),if_neg (by omega)]
  · rw[if_neg (by simp)]
    have e1:(p:Int)=x:=by omega
    have e2:(q:Int)=y:=by omega
    by_cases h:x<y
    · rw[if_pos (by omega),if_pos h];rfl
    · rw[if_neg (by omega),if_neg h]
      by_cases h':x=y
      · rw[if_pos (by omega),if_pos h'];rfl
      · rw[if_neg (by omega),if_neg h'];rfl
  · rw[if_pos (by simp),if_neg (by omega),if_neg (by omega),if_neg (by omega)]
  · rw[if_pos (by simp),if_pos (by omega),if_pos (by omega)]
  · rw[if_pos (by simp),if_pos (by omega),if_pos (by omega)]
  · rw[if_neg (by simp)]
    have e1:(p:Int)= -x:=by omega
    have e2:(q:Int)= -y:=by omega
    by_cases h:x<y
    · rw[if_neg (by omega),if_neg (by omega),if_pos h];rfl
    · rw[if_neg h]
      by_cases h':x=y
      · rw[if_neg (by omega),if_pos (by omega),if_pos h'];rfl
      · rw[if_pos (by omega),if_neg h'];rfl
theorem Qw4 (p:Nat):p/w64*w64+p%w64=p:=by have:=Nat.div_add_mod p w64;rw[Nat.mul_comm]at this;exact this
theorem Qt:0<w64:=by rw[BC];omega
theorem Zvq (p q:Nat): -1<=Gh p q/\Gh p q<=1:=by unfold Gh;(repeat' split)<;>omega
theorem Z2m (a b:Int): -1<=sgn a b/\sgn a b<=1:=by unfold sgn;(repeat' split)<;>omega
theorem Zwy {u v:Int} (hu: -1<=u/\u<=1) (hv: -1<=v/\v<=1): -1<=u*v/\u*v<=1:=by
  have:u= -1\/u=0\/u=1:=by omega
  rcases this with rfl|rfl|rfl<;>omega
theorem NC {x y:Nat} (hx:x<w64) (hy:y<w64):∃hi lo:Nat,Ea [U x,U y]=some [U hi,U lo]/\hi*w64+lo=x*y/\lo<w64:=
  ⟨_,_,Qz0 hx hy,Qw4 _,Nat.mod_lt _ Qt⟩
theorem Z2w {a b c d:Int} (M1 M2 M3 M4:Fn) (h1 l1 h2 l2:Nat)
   (ka:M3 [I a]=some [U a.natAbs]) (kb:M3 [I b]=some [U b.natAbs]) (kc:M3 [I c]=some [U c.natAbs]) (kd:M3 [I d]=some [U d.natAbs])
   (ks:∀a b,M4 [I a,I b]=some [I (sgn a b)])
   (e1:M2 [U a.natAbs,U b.natAbs]=some [U h1,U l1]) (f1:M2 [U c.natAbs,U d.natAbs]=some [U h2,U l2])
   (hcmp:M1 [U h1,U l1,U h2,U l2]=some [I (Gh (a.natAbs*b.natAbs) (c.natAbs*d.natAbs))]):Qg9 M1 M2 M3 M4 [I a,I b,I c,I d]=some [I (LW (a*b) (c*d))]:=by
  have hm:=Zwy (Z2m a b) (Zvq (a.natAbs*b.natAbs) (c.natAbs*d.natAbs));rw[Z6i];simp only[go_sem,ks,ka,kb,kc,kd,e1,f1,hcmp];rw[<-Z41];rw[Ae (by omega)];by_cases h1:sgn a b≠sgn c d
  · rw[if_pos h1,if_pos h1]
    by_cases h2:sgn a b<sgn c d
    · rw[if_pos h2,if_pos h2]
    · rw[if_neg h2,if_neg h2]
  · rw[if_neg h1,if_neg h1]
theorem Zlj {a b c d:Int} (ha:i64 a) (hb:i64 b) (hc:i64 c) (hd:i64 d):OF [I a,I b,I c,I d]=some [I (LW (a*b) (c*d))]:=by
  obtain⟨h1,l1,e1,e2,e3⟩:=NC (Nz ha) (Nz hb);obtain⟨h2,l2,f1,f2,f3⟩:=NC (Nz hc) (Nz hd);have hcmp:=Qy6 h1 l1 h2 l2 e3 f3;rw[e2,f2]at hcmp;unfold OF;exact Z2w _ _ _ _ _ _ _ _ (HT ha) (HT hb) (HT hc) (HT hd) VA e1 f1 hcmp
end Go.Bm
namespace Go.Bm
theorem eB {α β:Type} {a:Option α} {f:α->Option β} {x:α} {r:Option β} (h:a=some x) (g:f x=r):a.bind f=r:=by rw[h];exact g
theorem eT {α:Type} {c:Bool} {a b r:α} (h:c=true) (g:a=r):cond c a b=r:=by rw[h];exact g
theorem eF {α:Type} {c:Bool} {a b r:α} (h:c=false) (g:b=r):cond c a b=r:=by rw[h];exact g
theorem eC {α:Type} {c:Bool} {a b r:α} (h:c=true->a=r) (g:c=false->b=r):cond c a b=r:=by cases c;exact g rfl;exact h rfl
theorem beF {a b:Int} (h:a≠b):(a==b)=false:=by simpa using h
theorem beT {a b:Int} (h:a=b):(a==b)=true:=by simpa using h
theorem bnF {a b:Int} (h:a=b):(a !=b)=false:=by simpa using h
theorem bnT {a b:Int} (h:a≠b):(a !=b)=true:=by simpa using h
theorem E9 {α β:Type} {a:Option α} {f:α->Option β} (h:a.isSome=true) (g:∀o,a=some o->(f o).isSome=true):(a.bind f).isSome=true:=by
 cases a with
 |none=>simp at h
 |some o=>exact g o rfl
theorem BP {α:Type} {c:Bool} {a b:Option α} (h:c=true->a.isSome=true) (g:c=false->b.isSome=true):(cond c a b).isSome=true:=by
 cases c
 ·exact g rfl
 ·exact h rfl
def Out {α:Type} (p:α->Prop) (a:Option α):Prop:=∃o,a=some o/\p o
theorem Out.is {α:Type} {p:α->Prop} {a:Option α} (h:Out p a):a.isSome=true:=by obtain⟨o,h,_⟩:=h;rw[h];rfl
theorem Out.of {α:Type} {a:Option α} (h:a.isSome=true):Out (fun _=>True) a:=by
 cases a with
 |none=>simp at h
 |some o=>exact⟨o,rfl,trivial⟩
theorem Out.bind {α β:Type} {p:α->Prop} {q:β->Prop} {a:Option α} {f:α->Option β} (h:Out p a) (g:∀o,p o->Out q (f o)):Out q (a.bind f):=by
 obtain⟨o,rfl,h⟩:=h;exact g o h
theorem Out.ibind {α β:Type} {q:β->Prop} {a:Option α} {f:α->Option β} (h:a.isSome=true) (g:∀o,a=some o->Out q (f o)):Out q (a.bind f):=by
 cases a with
 |none=>simp at h
 |some o=>exact g o rfl
theorem Out.cond {α:Type} {p:α->Prop} {c:Bool} {a b:Option α} (h:c=true->Out p a) (g:c=false->Out p b):Out p (cond c a b):=by
 cases c
 ·exact g rfl
 ·exact h rfl
theorem Out.some {α:Type} {p:α->Prop} {o:α} (h:p o):Out p (some o):=⟨o,rfl,h⟩
theorem Out.mono {α:Type} {p q:α->Prop} {a:Option α} (h:Out p a) (g:∀o,p o->q o):Out q a:=by obtain⟨o,h,h2⟩:=h;exact⟨o,h,g o h2⟩
theorem CB {S:Type} {step:Lp} (enc:S->List AC) (Inv:S->Prop) (m:S->Nat) (Q:Nat×List AC->Prop)
  (h:∀s,Inv s->Out (fun o=>(o.1=0/\∃s',o.2=enc s'/\Inv s'/\m s'<m s)\/(o.1≠0/\Q o)) (step (enc s))) (s:S) (hs:Inv s):Out Q (An step (enc s)):=by
 obtain ⟨o, h1, _, h2⟩ := Zaq (step := step) enc Inv m Q (fun s hs => by
  obtain⟨o,h1,h2⟩:=h s hs;rcases h2 with⟨h2,s',h3,h4,h5⟩|⟨h2,h3⟩
  ·refine .inl ⟨s',?_,h4,h5⟩;rw[h1,<-h3,<-h2]
  ·exact .inr ⟨o,h1,h2,h3⟩) s hs
 exact⟨o,h1,h2⟩
theorem Bp {p:Prop} [Decidable p] (h:decide p=true):p:=of_decide_eq_true h
theorem Bt {p:Prop} [Decidable p] (h:decide p=false): ¬p:=of_decide_eq_false h
theorem inB {i:Int} {n:Nat} (h0:0<=i) (h1:i<(n:Int)):(decide (0<=i)&&decide (i<(n:Int)))=false->False:=by
 intro h;rcases Bool.and_eq_false_iff.1 h with c|c
 ·exact Bt c h0
 ·exact Bt c h1
theorem B0 {a b:Nat} (h:a<=b):Nat.ble a b=true:=Nat.ble_eq_true_of_le h
theorem Q0h (a b c d:Int):(GO [I a,I b,I c,I d]).isSome=true:=by
 unfold GO;rw[Xi]
 repeat' first|exact rfl|refine BP (fun _=> ?_) (fun _=> ?_)
 rename_i h1 h2;simp at h1 h2;omega
theorem PB (a b c:Int):EL [I a,I b,I c]=some [B (decide (1<=a/\a<=65536/\2<=b/\b<=65536/\1<=c/\c<=16777216))]:=by
 unfold EL;rw[Z25];by_cases h1:1<=a<;>by_cases h2:a<=65536<;>by_cases h3:2<=b<;>by_cases h4:b<=65536<;>by_cases h5:1<=c<;>by_cases h6:c<=16777216<;>simp[h1,h2,h3,h4,h5,h6]
theorem Z47 {M:Fn} (h:∀a b c d,(M [I a,I b,I c,I d]).isSome=true) (a b c v x:Int):(QP M [I a,I b,I c,I v,I x]).isSome=true:=by
 rw[Qjp]
 repeat' first|exact rfl|exact h _ _ _ _|refine BP (fun _=> ?_) (fun _=> ?_)|refine E9 ?_ fun _ _=> ?_
theorem Q1q (a b c v x:Int):(Gu [I a,I b,I c,I v,I x]).isSome=true:=Z47 Q0h a b c v x
theorem Z2p (x:Int): -9223372036854775808<=wrap .i64 x/\wrap .i64 x<=9223372036854775807:=by
 simp[IntKind.wrap,IntKind.signed,IntKind.bits];omega
end Go.Bm
namespace Go.Bm
theorem Zpx {ML MV:Fn} (hL:∀a b c d,(ML [I a,I b,I c,I d]).isSome=true) {v a b c low high:Int} (h1: -9000000000000<=low/\low<=9000000000000) (h2: -9000000000000<=high/\high<=9000000000000):
  Out (fun o=>o.1=1) (An (K1 ML MV) [I v,I low,I high,I a,I b,I c]):=by
 refine CB (fun s:Int×Int=>[I v,I s.1,I s.2,I a,I b,I c]) (fun s=>(-9000000000000<=s.1/\s.1<=9000000000000)/\(-9000000000000<=s.2/\s.2<=9000000000000)) (fun s=>(s.2-s.1).toNat) _ ?_ (low,high) ⟨h1,h2⟩;rintro⟨l,h⟩ ⟨q1,q2⟩;dsimp only at*;rw[Y2];refine .cond (fun c=> ?_) (fun c=> ?_)
 ·have c:=Bp c;have e:wrap .i64 (h-wrap .i64 ((wrap .i64 (h-l)).tdiv 2))=h-(h-l)/2:=by
   rw[Ae (x:=h-l) (by omega),Int.tdiv_eq_ediv_of_nonneg (by omega),Ae (x:=(h-l)/2) (by omega),Ae (by omega)]
  rw[e];refine .ibind (hL _ _ _ _) fun o _=> ?_;refine .cond (fun _=> ?_) (fun _=> ?_)
  ·exact .some (.inl ⟨rfl,(h-(h-l)/2,h),rfl,by dsimp only;omega,by dsimp only;omega⟩)
  ·refine .some (.inl ⟨rfl,(l,h-(h-l)/2-1),?_,by dsimp only;omega,by dsimp only;omega⟩);rw[Ae (x:=h-(h-l)/2-1) (by omega)]
 ·exact .some (.inr ⟨by simp,rfl⟩)
theorem Zkv {ML MV:Fn} (hL:∀a b c d,(ML [I a,I b,I c,I d]).isSome=true) (hV:∀a b c,MV [I a,I b,I c]=some [B (decide (1<=a/\a<=65536/\2<=b/\b<=65536/\1<=c/\c<=16777216))]) (a b c v x:Int):
  (SB ML MV (An (K1 ML MV)) [I a,I b,I c,I v,I x]).isSome=true:=by
 rw[Q5c,hV];simp only[Option.bind_some];refine BP (fun _=>rfl) fun h1=>BP (fun _=>rfl) fun h2=>BP (fun _=>rfl) fun h3=> ?_;simp only[go_sem,Bool.not_eq_false',decide_eq_true_eq]at h1;have h2:=Bt h2;have h3:=Bt h3;have hx: -1099511627776<=x/\x<=1099511627776:=by
  unfold mx at h2;unfold mn at h3;split at h2<;>split at h3<;>omega
 obtain⟨o,h4,h5⟩:=Zpx (MV:=MV) hL (v:=v) (a:=a) (b:=b) (c:=c) (low:=wrap .i64 (wrap .i64 (0-x)-b)) (high:=mn (wrap .i64 (b-x)) a)
  (by rw[Ae (x:=0-x) (by omega),Ae (by omega)];omega) (by rw[Ae (x:=b-x) (by omega)];unfold mn;split<;>omega)
 rw[h4];simp only[Option.bind_some,h5];rfl
theorem Zqh (a b c v x:Int):(EY [I a,I b,I c,I v,I x]).isSome=true:=Zkv Q0h PB a b c v x
theorem Zkq {MB MR MV:Fn} (hB:∀a b c v x,(MB [I a,I b,I c,I v,I x]).isSome=true) {a b c v x:Int}:
  Out (fun o=>o.1=1\/o.1=2/\(wA o.2 0).length<=4096) (An (Is MB MR MV) [.view Aa [],I v,I x,I a,I b,I c]):=by
 refine CB (fun s:Rw×Int×Int=>[.view Aa s.1,I s.2.1,I s.2.2,I a,I b,I c]) (fun s=>s.1.length<=4096) (fun s=>4096-s.1.length) _ ?_ ([],v,x) (by simp);rintro⟨l,v,x⟩ h;dsimp only at*;rw[Pz];refine .cond (fun _=> ?_) (fun _=> ?_)
 ·refine .cond (fun _=> ?_) (fun h2=> ?_)
  ·exact .some (.inr ⟨by simp, .inl rfl⟩)
  ·have h2: ¬((l.length:Int)=4096):=by simpa using h2
   refine .ibind (hB _ _ _ _ _) fun o _=> ?_;refine .cond (fun _=> ?_) (fun h3=> ?_)
   ·exact .some (.inl ⟨rfl,(_,_,_),rfl,by simp;omega,by simp;omega⟩)
   ·rw[B0 (by simp;omega)]at h3;cases h3
 ·exact .some (.inr ⟨by simp, .inr ⟨rfl,h⟩⟩)
theorem Zhq {MB MR MV:Fn} (hB:∀a b c v x,(MB [I a,I b,I c,I v,I x]).isSome=true) (hR:∀a b c v x,(MR [I a,I b,I c,I v,I x]).isSome=true) (hV:∀a b c,MV [I a,I b,I c]=some [B (decide (1<=a/\a<=65536/\2<=b/\b<=65536/\1<=c/\c<=16777216))]) (a b c v x:Int):
  Out (fun o=>(wA o 0).length<=4096) (Qu MB MR MV (An (Is MB MR MV)) [I a,I b,I c,I v,I x]):=by
 rw[Qnw,hV];simp only[Option.bind_some];refine .cond (fun _=> .some (by simp[gA,wA,bA,jA,nth,BI])) fun _=> .ibind (hR _ _ _ _ _) fun o _=> .cond (fun _=> .some (by simp[gA,wA,bA,jA,nth,BI])) fun _=> ?_;refine .bind (Zkq hB) fun o h=> ?_;rcases h with h|⟨h,h2⟩
 ·rw[h];exact .some (by simp[gA,wA,bA,jA,nth,BI])
 ·rw[h];exact .some h2
theorem Zf9 (a b c v x:Int):Out (fun o=>(wA o 0).length<=4096) (Kz [I a,I b,I c,I v,I x]):=Zhq Zqh Q1q PB a b c v x
theorem Q9x {M:Fn} {u:Int} {sp out:Rw} (h0:out.length=sp.length) (h1:sp.length<=4096):
  Out (fun o=>o.1=1/\(wA o.2 0).length=sp.length) (An (Mc M) [.view Aa out,I u, .view Aa sp,I (sp.length:Int),I 0]):=by
 refine CB (fun s:Rw×Int×Nat=>[.view Aa s.1,I s.2.1, .view Aa sp,I (sp.length:Int),I (s.2.2:Int)]) (fun s=>s.1.length=sp.length/\s.2.2<=sp.length) (fun s=>sp.length-s.2.2) _ ?_ (out,u,0) ⟨h0,by simp⟩;rintro⟨l,u,i⟩ ⟨g1,g2⟩;dsimp only at*;rw[Qyk];refine .cond (fun c=> ?_) (fun _=> ?_)
 ·have c:=Bp c;refine .cond (fun _=> ?_) (fun h=> ?_)
  ·refine .cond (fun _=> ?_) (fun h=> ?_)
   ·have e:=Ae (x:=(i:Int)+1) (by omega);rw[e];generalize wrap .i64 (u+gA (nth [] sp (i:Int).toNat) 0)=z;exact .some (.inl ⟨rfl,(l.set (i:Int).toNat [I z],z,i+1),rfl,by simp;omega,by simp;omega⟩)
   ·simp at h;omega
  ·simp at h;omega
 ·exact .some (.inr ⟨by simp,rfl,g1⟩)
theorem Zls {M:Fn} (hS:∀a b c v x,Out (fun o=>(wA o 0).length<=4096) (M [I a,I b,I c,I v,I x])) (a b c x3 x4 x5 x6 x7 x8:Int):
  Out (fun o=>(wA o 0).length<=4096) (PV M (An (Mc M)) [I a,I b,I c,I x3,I x4,I x5,I x6,I x7,I x8]):=by
 rw[Zx];refine .bind (hS _ _ _ _ _) fun o h=> ?_;generalize wA o 0=sp at*;refine .cond (fun _=> .some (by simp[gA,wA,bA,jA,nth,BI])) fun _=> ?_;refine .cond (fun _=> ?_) fun c=>by simp at c
 refine .cond (fun _=> ?_) fun c=>by simp at c;omega
 refine .bind (Q9x (by simp) h) fun o g=> ?_;rw[g.1];exact .some (by show(wA o.2 0).length<=4096;omega)
theorem Qp4 (a b c x3 x4 x5 x6 x7 x8:Int):Out (fun o=>(wA o 0).length<=4096) (E7 [I a,I b,I c,I x3,I x4,I x5,I x6,I x7,I x8]):=Zls Zf9 a b c x3 x4 x5 x6 x7 x8
theorem Zl8 {M:Fn} (hF:∀a b c x3 x4 x5 x6 x7 x8,Out (fun o=>(wA o 0).length<=4096) (M [I a,I b,I c,I x3,I x4,I x5,I x6,I x7,I x8])) (a b c x3 x4 x5 x6 x7 x8:Int):
  (On M [I a,I b,I c,I x3,I x4,I x5,I x6,I x7,I x8]).isSome=true:=by
 rw[Vg];obtain⟨o,h1,h2⟩:=hF a b c x3 x4 x5 x6 x7 x8;rw[h1];simp only[Option.bind_some];generalize wA o 0=sp at*;refine BP (fun _=>rfl) fun _=>BP (fun _=>rfl) fun c=>BP (fun _=>rfl) fun d=> ?_;have c: ¬((sp.length:Int)=0):=by simpa using c
 rw[Ae (by omega)]at d;simp at d;omega
theorem Zm2 (a b c x3 x4 x5 x6 x7 x8:Int):(FB [I a,I b,I c,I x3,I x4,I x5,I x6,I x7,I x8]).isSome=true:=Zl8 Qp4 a b c x3 x4 x5 x6 x7 x8
end Go.Bm
namespace Go.Bm
theorem Z13 {m k:Nat} (h:2^(k+1)*m+2^k<w64):wrap .u64 (((BitVec.ofInt IntKind.u64.bits ((2^(k+1)*m:Nat):Int)|||BitVec.ofInt IntKind.u64.bits ((2^k:Nat):Int)).toNat:Nat):Int)=((2^(k+1)*m+2^k:Nat):Int):=by
 rw[BC]at h;have e:(BitVec.ofInt IntKind.u64.bits ((2^(k+1)*m:Nat):Int)|||BitVec.ofInt IntKind.u64.bits ((2^k:Nat):Int)).toNat=2^(k+1)*m+2^k:=by
  rw[BitVec.toNat_or];have e1:∀v:Nat,v<18446744073709551616->(BitVec.ofInt IntKind.u64.bits (v:Int)).toNat=v:=by
   intro v hv;simp only[IntKind.bits,BitVec.toNat_ofInt];omega
  have hpos:0<2^k:=Nat.two_pow_pos _;generalize hA:2^(k+1)*m=A at*;rw[e1 _ (by omega),e1 _ (by omega),<-hA];exact(Nat.two_pow_add_eq_or_of_lt (Nat.pow_lt_pow_right (by omega) (by omega)) m).symm
 rw[e,HP (by omega)]
theorem Zd8 (k:Nat):((2^(k+1):Nat):Int).fdiv (2^min (Int.toNat 1) IntKind.u64.bits)=((2^k:Nat):Int):=by
 have e:(2^min (Int.toNat 1) IntKind.u64.bits:Int)=2:=rfl;rw[e,Int.fdiv_eq_ediv_of_nonneg _ (by omega),Nat.pow_succ];omega
theorem Z0g:(1:Int).fdiv (2^min (Int.toNat 1) IntKind.u64.bits)=0:=rfl
theorem Q4v {M1 M2:Fn} (hp:∀x y:Nat,x<w64->y<w64->∃hi lo:Nat,M2 [U x,U y]=some [U hi,U lo]/\hi*w64+lo=x*y/\lo<w64)
  (hc:∀a b c d:Nat,b<w64->d<w64->M1 [U a,U b,U c,U d]=some [I (Gh (a*w64+b) (c*w64+d))]) {k m hi lo:Nat} {bit:Int} (hlo:lo<w64) (hb:((2^k:Nat):Int).fdiv (2^min (Int.toNat 1) IntKind.u64.bits)=bit) (h:2^(k+1)*m+2^k<w64):
  Lk M1 M2 [U ((2^(k+1)*m:Nat):Int),U ((2^k:Nat):Int),U hi,U lo]=
   some (0,[U (((if(2^(k+1)*m+2^k)*(2^(k+1)*m+2^k)<=hi*w64+lo then 2^(k+1)*m+2^k else 2^(k+1)*m):Nat):Int),U bit,U hi,U lo]):=by
 obtain⟨h1,l1,e1,e2,e3⟩:=hp _ _ h h;have hcmp:=hc h1 l1 hi lo e3 hlo;rw[e2]at hcmp;have hpos:0<2^k:=Nat.two_pow_pos _;rw[Q0o,Z13 h,hb];simp only[go_sem,e1,hcmp];rw[if_pos (by omega)];generalize(2^(k+1)*m+2^k)*(2^(k+1)*m+2^k)=q at*;unfold Gh;by_cases h1:q<hi*w64+lo
 ·rw[if_pos h1,if_pos (by omega),if_pos (by omega)]
 ·rw[if_neg h1];by_cases h2:q=hi*w64+lo
  ·rw[if_pos h2,if_pos (by omega),if_pos (by omega)]
  ·rw[if_neg h2,if_neg (by omega),if_neg (by omega)]
theorem Ql9 {M1 M2:Fn} (hp:∀x y:Nat,x<w64->y<w64->∃hi lo:Nat,M2 [U x,U y]=some [U hi,U lo]/\hi*w64+lo=x*y/\lo<w64)
  (hc:∀a b c d:Nat,b<w64->d<w64->M1 [U a,U b,U c,U d]=some [I (Gh (a*w64+b) (c*w64+d))]) {hi lo:Nat} (hlo:lo<w64):∀(k m:Nat),2^(k+1)*m+2^(k+1)<=w64->
  (2^(k+1)*m)*(2^(k+1)*m)<=hi*w64+lo->hi*w64+lo<(2^(k+1)*m+2^(k+1))*(2^(k+1)*m+2^(k+1))->
  ∃r:Nat,An (Lk M1 M2) [U ((2^(k+1)*m:Nat):Int),U ((2^k:Nat):Int),U hi,U lo]=some (1,[U r])/\r*r<=hi*w64+lo/\hi*w64+lo<(r+1)*(r+1)/\r<w64
 |0,m,hw,h1,h2=>by
  have hs:=Q4v hp hc (k:=0) (m:=m) (hi:=hi) (bit:=0) hlo Z0g (by simp at hw⊢;omega);rw[Bj hs];have hend:∀r:Nat,An (Lk M1 M2) [U (r:Int),U 0,U hi,U lo]=some (1,[U r]):=by
   intro r;refine A3 ?_ (by simp);rw[Q0o];simp only[go_sem];rw[if_neg (by omega)]
  simp only[Nat.zero_add,Nat.pow_one,Nat.pow_zero]at*;by_cases h:(2*m+1)*(2*m+1)<=hi*w64+lo
  ·rw[if_pos h,hend];exact⟨_,rfl,h,h2,by omega⟩
  ·rw[if_neg h,hend];exact⟨_,rfl,h1,by omega,by omega⟩
 |k+1,m,hw,h1,h2=>by
  have e1:2^(k+1+1)*m=2^(k+1)*(2*m):=by rw[Nat.pow_succ 2 (k+1),Nat.mul_assoc]
  have e2:2^(k+1+1)*m+2^(k+1)=2^(k+1)*(2*m+1):=by rw[e1,Nat.mul_add,Nat.mul_one]
  have e3:2^(k+1+1)=2^(k+1)+2^(k+1):=by rw[Nat.pow_succ 2 (k+1)];omega
  have hpos:0<2^(k+1):=Nat.two_pow_pos _;have hs:=Q4v hp hc (k:=k+1) (m:=m) (hi:=hi) (bit:=((2^k:Nat):Int)) hlo (Zd8 k) (by omega);rw[Bj hs];by_cases h:(2^(k+1+1)*m+2^(k+1))*(2^(k+1+1)*m+2^(k+1))<=hi*w64+lo
  ·rw[if_pos h,e2];rw[e2]at h;refine Ql9 hp hc hlo k (2*m+1) ?_ h ?_
   ·rw[<-e2];omega
   ·rw[<-e2];rw[show 2^(k+1+1)*m+2^(k+1)+2^(k+1)=2^(k+1+1)*m+2^(k+1+1) by omega];exact h2
  ·rw[if_neg h];have h3:hi*w64+lo<(2^(k+1+1)*m+2^(k+1))*(2^(k+1+1)*m+2^(k+1)):=by omega
   have hw':2^(k+1+1)*m+2^(k+1)<=w64:=by omega
   rw[e1]at h1 h3 hw'⊢;exact Ql9 hp hc hlo k (2*m) hw' h1 h3
theorem Ztj {M1 M2:Fn} (hp:∀x y:Nat,x<w64->y<w64->∃hi lo:Nat,M2 [U x,U y]=some [U hi,U lo]/\hi*w64+lo=x*y/\lo<w64)
  (hc:∀a b c d:Nat,b<w64->d<w64->M1 [U a,U b,U c,U d]=some [I (Gh (a*w64+b) (c*w64+d))]) {hi lo:Nat} (hhi:hi<w64) (hlo:lo<w64):
  ∃r:Nat,Qi9 M1 M2 (An (Lk M1 M2)) [U hi,U lo]=some [U r]/\r*r<=hi*w64+lo/\hi*w64+lo<(r+1)*(r+1)/\r<w64:=by
 have hb:hi*w64+lo<w64*w64:=by
  have:hi*w64+w64<=w64*w64:=by rw[<-Nat.succ_mul];exact Nat.mul_le_mul_right _ hhi
  omega
 obtain⟨r,h1,h2,h3,h4⟩:=Ql9 hp hc (hi:=hi) (lo:=lo) hlo 63 0 (by rw[BC];omega) (by simp) (by rw[Nat.mul_zero,Nat.zero_add,show 2^(63+1)=w64 by rw[BC]];exact hb);refine⟨r,?_,h2,h3,h4⟩;rw[Nat.mul_zero]at h1;generalize An (Lk M1 M2)=N at*;have h1':N [AC.int IntKind.u64 0,AC.int IntKind.u64 9223372036854775808,AC.int IntKind.u64 hi,AC.int IntKind.u64 lo]=some (1,[U r]):=h1;rw[Zfd,h1'];simp only[go_sem]
theorem Zaa {hi lo:Nat} (hhi:hi<w64) (hlo:lo<w64):∃r:Nat,JZ [U hi,U lo]=some [U r]/\r*r<=hi*w64+lo/\hi*w64+lo<(r+1)*(r+1)/\r<w64:=
 Ztj (fun _ _ hx hy=>NC hx hy) Qy6 hhi hlo
theorem Qjl {n:Nat} (h:n<9223372036854775808):EQ [U n,B false]=some [I n,B true]:=by
 unfold EQ;rw[Xu];simp only[go_sem];rw[if_neg (by simp),if_pos (by simp),if_pos (by omega),Ae (by omega)]
theorem Zhc {x y b:Nat} (hx:x<w64) (hy:y<w64) (hb:b=0\/b=1):JB [U x,U y,U b]=some [U (((x:Int)-y-b)%Fp),U (if x<y+b then 1 else 0)]:=by
 rw[BC]at hx hy;have e64:Fp=18446744073709551616:=rfl;have hu:∀z:Nat,z<18446744073709551616->inU (z:Int)=true:=by
  intro z hz;simp only[inU,e64,Bool.and_eq_true,decide_eq_true_eq];omega
 have hb':(decide ((b:Int)=0)||decide ((b:Int)=1))=true:=by
  rcases hb with rfl|rfl<;>simp
 unfold JB;simp only[Hn,L7,Lt,Hu,gA,jA,wA,bA];rw[hu x hx,hu y hy,hb'];by_cases h:x<y+b
 ·rw[if_pos h,C8 (p:=(x:Int)<y+b) (by omega)];simp
 ·rw[if_neg h,AM (p:=(x:Int)<y+b) (by omega)];simp
theorem Qzp {x y:Nat} (hx:x<w64) (hyx:y<=x):JB [U x,U y,U 0]=some [U ((x-y:Nat):Int),U 0]:=by
 have:=Zhc (x:=x) (y:=y) (b:=0) hx (by omega) (.inl rfl);have e64:Fp=18446744073709551616:=rfl;rw[BC]at hx;rw[if_neg (by omega),e64,show((x:Int)-y-((0:Nat):Int))%18446744073709551616=((x-y:Nat):Int) by omega]at this;exact this
theorem Zkr {M1 M2 M3 M4:Fn} {n r:Nat} {mode:Int} (hn:n<9223372036854775807) (hrn:r*r<=n) (hr:M4 [U 0,U n]=some [U r]) (hm:M3 [U r,U r]=some [U 0,U ((r*r:Nat):Int)]) (hs1:M2 [U n,U ((r*r:Nat):Int),U 0]=some [U ((n-r*r:Nat):Int),U 0])
  (hs2:M2 [U 0,U 0,U 0]=some [U 0,U 0]) (sg:∀k:Nat,k<9223372036854775808->M1 [U k,B false]=some [I k,B true]) (hmode:mode=1\/mode=2):
  UL M1 M2 M3 M4 [U 0,U n,I mode]=some [I ((if(mode=1/\r*r<n)\/(mode=2/\r*r+r<n)then r+1 else r:Nat):Int),B true]:=by
 have hrr:r<=r*r:=by
  rcases Nat.eq_zero_or_pos r with h|h
  ·subst h;simp
  ·exact Nat.le_mul_of_pos_left r h
 have hw:wrap .u64 ((r:Int)+1)=((r+1:Nat):Int):=by rw[HP (by omega)];omega
 have s1:=sg r (by omega);have s2:=sg (r+1) (by omega);rw[Zmk];simp only[go_sem,hr,hm,hs1,hs2,hw,s1,s2];rcases hmode with rfl|rfl
 ·rw[if_pos rfl,if_neg (by omega)];by_cases h:r*r<n
  ·rw[if_pos (by omega),if_pos (by omega)]
  ·rw[if_neg (by omega),if_neg (by omega),if_neg (by omega)]
 ·rw[if_neg (by omega),if_pos rfl,if_neg (by omega)];by_cases h:r*r+r<n
  ·rw[if_pos (by omega),if_pos (by omega)]
  ·rw[if_neg (by omega),if_neg (by omega)]
theorem Z2n {M1 M2:Fn} {n:Nat} {mode:Int} {k:Int} (hn:n<9223372036854775807) (hk:M2 [I mode]=some [B true]) (hr:M1 [U 0,U n,I mode]=some [I k,B true]):Zc M1 M2 [I n,I mode]=some [I k,B true]:=by
 have hw:wrap .u64 (n:Int)=(n:Int):=HP (by omega);rw[Z5y];simp only[go_sem,hk,hw,hr];rw[if_neg (by omega),if_neg (by simp)]
theorem UR {mode:Int} (h:mode=0\/mode=1\/mode=2):Fi [I mode]=some [B true]:=by
 unfold Fi;rw[Q6z];rcases h with rfl|rfl|rfl<;>rfl
theorem Zai {n:Nat} {mode:Int} (hn:n<9223372036854775807) (hmode:mode=1\/mode=2):
  ∃r:Nat,IX [I n,I mode]=some [I ((if(mode=1/\r*r<n)\/(mode=2/\r*r+r<n)then r+1 else r:Nat):Int),B true]/\r*r<=n/\n<(r+1)*(r+1):=by
 have hnw:n<w64:=by rw[BC];omega
 obtain⟨r,h1,h2,h3,h4⟩:=Zaa (hi:=0) (lo:=n) Qt hnw;rw[Nat.zero_mul,Nat.zero_add]at h2 h3;obtain⟨hi,lo,e1,e2,e3⟩:∃hi lo:Nat,H6 [U r,U r]=some [U hi,U lo]/\hi*w64+lo=r*r/\lo<w64:=⟨_,_,Q8m h4 h4,Qw4 _,Nat.mod_lt _ Qt⟩;have hhi:hi=0:=by
  rcases Nat.eq_zero_or_pos hi with h|h
  ·exact h
  ·have:=Nat.mul_le_mul_right w64 h;omega
 subst hhi;have hlo:lo=r*r:=by omega
 subst hlo;have z:=Qzp (x:=0) (y:=0) Qt (Nat.le_refl _);refine⟨r,?_,h2,h3⟩;exact Z2n hn (UR (.inr hmode)) (Zkr hn h2 h1 e1 (Qzp hnw h2) z (fun k hk=>Qjl hk) hmode)
end Go.Bm
namespace Go.Bm
def A5 (a b:Int):Int:=(2*a+b)/(2*b)
theorem Jn {a b k:Int} (hb:0<b) (h1:k*(2*b)<=2*a+b) (h2:2*a+b<(k+1)*(2*b)):A5 a b=k:=by
 unfold A5;have g1:k<=(2*a+b)/(2*b):=(Int.le_ediv_iff_mul_le (by omega)).2 h1;have g2:(2*a+b)/(2*b)<k+1:=(Int.ediv_lt_iff_lt_mul (by omega)).2 h2;omega
theorem Zqz {a b:Int} (hb:0<b/\b<=1152921504606846976) (ha:a.natAbs<=2305843009213693952):OC [I a,I b]=some [I (A5 a b)]:=by
 unfold OC;rw[Zl3,Ae (x:=2*a) (by omega),Ae (x:=2*a+b) (by omega),Ae (x:=2*b) (by omega)];have hm:=Int.tmod_add_mul_tdiv (2*a+b) (2*b);have h1:=Int.tmod_lt_of_pos (2*a+b) (show 0<2*b by omega);have h2:=Int.lt_tmod_of_pos (2*a+b) (show 0<2*b by omega);have hq:((2*a+b).tdiv (2*b)).natAbs<=(2*a+b).natAbs:=by rw[Int.natAbs_tdiv];exact Nat.div_le_self _ _
 generalize hx:(2*a+b).tdiv (2*b)=q at*;generalize(2*a+b).tmod (2*b)=r at*;have e1:2*b*q=q*(2*b):=Int.mul_comm _ _;rw[AM (by omega),AM (by omega),Ae (x:=q) (by omega)];by_cases h:r<0
 ·rw[C8 h,Ae (by omega),Jn (k:=q-1) hb.1]
  ·rw[Int.sub_mul];omega
  ·rw[Int.sub_add_cancel];omega
 ·rw[AM h,Jn (k:=q) hb.1]
  ·omega
  ·rw[Int.add_mul];omega
theorem Q72 {p c:Nat} (hp:p<w64) (hc:0<c):G8 [U 0,U p,U c]=some [U ((p/c:Nat):Int),U ((p%c:Nat):Int)]:=by
 rw[BC]at hp;have h1:(p:Int).tdiv (c:Int)=((p/c:Nat):Int):=by rw[Int.tdiv_eq_ediv_of_nonneg (by omega)];simp
 have h2:(p:Int).tmod (c:Int)=((p%c:Nat):Int):=by rw[Int.tmod_eq_emod_of_nonneg (by omega)];simp
 have h3:p/c<=p:=Nat.div_le_self _ _;unfold G8;generalize Ic=M;generalize Sa=N1;generalize Qbt=N2;rw[Q1m];rw[A_ (by simp;omega),AM (by omega),Bi (by simp),AM (by omega),AM (by omega),h1,h2];generalize p/c=q at*;rw[HP (by omega)]
theorem Qx9 (more:Int) (some_ neg:Bool):Hg [I 2,I more,B some_,B neg]=some [B (if more>0 then true else if more=0 then !neg else false)]:=by
 unfold Hg;rw[Q9d];simp only[go_sem];rw[if_neg (by omega),if_neg (by omega)]
 repeat' split
 all_goals rfl
theorem Qvy {n:Nat} (h:n<=9223372036854775808):EQ [U n,B true]=some [I (-(n:Int)),B true]:=by
 unfold EQ;rw[Xu];simp only[go_sem];rw[if_pos (by omega),Mk,Qnt];have:((0-(n:Int))%18446744073709551616+9223372036854775808)%18446744073709551616-9223372036854775808= -(n:Int):=by omega
 rw[this]
def GQ (q r c:Nat) (neg:Bool):Nat:=if r>c-r then q+1 else if r<c-r then q else if neg then q else q+1
theorem Zuw {M1 M2 M3 M4 M5 M6 M7:Fn} {a b s:Int} {A C p q r c:Nat} (hc0:0<c) (hc1:c<9223372036854775808) (hr:r<c) (hq:q<9223372036854775807)
  (k1:M7 [I 2]=some [B true]) (k2:M6 [I a]=some [U A]) (k3:M6 [I b]=some [U C]) (k4:M6 [I c]=some [U c]) (k5:M5 [U A,U C]=some [U 0,U p]) (k6:M4 [U 0,U p,U c]=some [U q,U r]) (k7:M3 [I a,I b]=some [I s])
  (k8:∀(more:Int) (some_ neg:Bool),M2 [I 2,I more,B some_,B neg]=some [B (if more>0 then true else if more=0 then !neg else false)])
  (k9:∀k:Nat,k<9223372036854775808->M1 [U k,B false]=some [I k,B true]) (k10:∀k:Nat,k<9223372036854775808->M1 [U k,B true]=some [I (-(k:Int)),B true]):
  RF M1 M2 M3 M4 M5 M6 M7 [I a,I b,I c,I 2]=some [I (if s<0 then-(GQ q r c true:Int)else(GQ q r c false:Int)),B true]:=by
 have w1:wrap .u64 ((c:Int)-(r:Int))=((c-r:Nat):Int):=by rw[HP (by omega)];omega
 have w2:wrap .u64 ((q:Int)+1)=((q+1:Nat):Int):=by rw[HP (by omega)];omega
 have n1:=k9 q (by omega);have n2:=k9 (q+1) (by omega);rw[Za0];simp only[go_sem,k1,k2,k3,k4,k5,k6,k7,k8,w1,w2,n1,n2];rw[if_neg (by omega),if_neg (by simp),if_neg (by omega)];by_cases hs:s<0
 ·rw[if_pos hs];rw[if_pos (show¬(s<0↔(c:Int)<0) by omega)];have hne:(s !=0)=true:=by simp;omega
  rw[hne];unfold GQ;by_cases g1:r>c-r
  ·rw[if_pos g1];rw[if_pos (show(r:Int)>((c-r:Nat):Int) by omega),if_pos (by decide),if_neg (show¬((q+1:Nat):Int)=0 by omega),k10 (q+1) (by omega)];simp only[go_sem]
  ·rw[if_neg g1];rw[if_neg (show¬(r:Int)>((c-r:Nat):Int) by omega)];by_cases g2:r<c-r
   ·rw[if_pos g2];rw[if_pos (show(r:Int)<((c-r:Nat):Int) by omega),if_neg (by decide),k10 q (by omega)];simp only[go_sem]
   ·rw[if_neg g2,if_pos rfl];rw[if_neg (show¬(r:Int)<((c-r:Nat):Int) by omega),if_neg (by decide),k10 q (by omega)];simp only[go_sem]
 ·rw[if_neg hs];rw[if_neg (show¬¬(s<0↔(c:Int)<0) by omega)];unfold GQ;by_cases g1:r>c-r
  ·rw[if_pos g1,if_pos (show(r:Int)>((c-r:Nat):Int) by omega),if_pos (by decide),if_neg (show¬((q+1:Nat):Int)=0 by omega)]
  ·rw[if_neg g1,if_neg (show¬(r:Int)>((c-r:Nat):Int) by omega)];by_cases g2:r<c-r
   ·rw[if_pos g2,if_pos (show(r:Int)<((c-r:Nat):Int) by omega),if_neg (by decide)]
   ·rw[if_neg g2,if_neg (show¬(r:Int)<((c-r:Nat):Int) by omega),if_pos (by decide),if_neg (show¬((q+1:Nat):Int)=0 by omega),if_neg (by decide)]
theorem Z0y (q r c:Nat):GQ q r c false=if r<c-r then q else q+1:=by
 unfold GQ;by_cases h1:r>c-r
 ·rw[if_pos h1,if_neg (by omega)]
 ·rw[if_neg h1];by_cases h2:r<c-r
  ·rw[if_pos h2,if_pos h2]
  ·rw[if_neg h2,if_neg h2,if_neg (by simp)]
theorem Zgt (q r c:Nat):GQ q r c true=if r>c-r then q+1 else q:=by
 unfold GQ;by_cases h1:r>c-r
 ·rw[if_pos h1,if_pos h1]
 ·rw[if_neg h1,if_neg h1];by_cases h2:r<c-r
  ·rw[if_pos h2]
  ·rw[if_neg h2,if_pos rfl]
theorem Qvo {p q r c:Nat} (hc:0<c) (h:p=c*q+r) (hr:r<c):A5 p c=GQ q r c false:=by
 have e:(p:Int)=(c:Int)*q+r:=by rw[h];simp
 have e3:(q:Int)*(2*c)=2*((c:Int)*q):=by grind
 have e4:((q+1:Nat):Int)*(2*c)=2*((c:Int)*q)+2*c:=by grind
 have e5:((q:Int)+1)*(2*c)=2*((c:Int)*q)+2*c:=by grind
 have e6:(((q+1:Nat):Int)+1)*(2*c)=2*((c:Int)*q)+4*c:=by grind
 rw[Z0y];by_cases g:r<c-r
 ·rw[if_pos g];exact Jn (by omega) (by rw[e3];omega) (by rw[e5];omega)
 ·rw[if_neg g];exact Jn (by omega) (by rw[e4];omega) (by rw[e6];omega)
theorem Zpo {p q r c:Nat} (hc:0<c) (h:p=c*q+r) (hr:r<c):A5 (-(p:Int)) c= -(GQ q r c true:Int):=by
 have e:(p:Int)=(c:Int)*q+r:=by rw[h];simp
 have e3: -(q:Int)*(2*c)= -(2*((c:Int)*q)):=by grind
 have e4: -((q+1:Nat):Int)*(2*c)= -(2*((c:Int)*q))-2*c:=by grind
 have e5:(-(q:Int)+1)*(2*c)= -(2*((c:Int)*q))+2*c:=by grind
 have e6:(-((q+1:Nat):Int)+1)*(2*c)= -(2*((c:Int)*q)):=by grind
 rw[Zgt];by_cases g:r>c-r
 ·rw[if_pos g];exact Jn (by omega) (by rw[e4];omega) (by rw[e6];omega)
 ·rw[if_neg g];exact Jn (by omega) (by rw[e3];omega) (by rw[e5];omega)
theorem R6 {a b c:Int} (ha:i64 a) (hb:i64 b) (hc:0<c/\c<9223372036854775808) (hp:a.natAbs*b.natAbs<9223372036854775807):Bn [I a,I b,I c,I 2]=some [I (A5 (a*b) c),B true]:=by
 obtain⟨hi,lo,e1,e2,e3⟩:=NC (Nz ha) (Nz hb);have hm:=RP a b;have hs:=Sq a b;have hz:a*b=0->a.natAbs*b.natAbs=0:=fun h=>by rw[<-Int.natAbs_mul,h];rfl
 generalize a.natAbs*b.natAbs=p at*;have hhi:hi=0:=by
  rcases Nat.eq_zero_or_pos hi with h|h
  ·exact h
  ·have:=Nat.mul_le_mul_right w64 h;have:=BC;omega
 subst hhi;have hlo:lo=p:=by omega
 subst hlo;obtain⟨n,rfl⟩:=Int.eq_ofNat_of_zero_le (show 0<=c by omega);have hn:0<n:=by omega
 have h1:=Nat.div_add_mod lo n;have h2:=Nat.mod_lt lo hn;have h3:lo/n<=lo:=Nat.div_le_self _ _;have hd:=Q72 e3 hn;have hcs:=HT (x:=(n:Int)) (by unfold i64;omega);rw[Int.natAbs_natCast]at hcs;generalize lo/n=q at*;generalize lo%n=r at*;have hmain:=Zuw (M1:=EQ) (M2:=Hg) (M3:=Ft) (M4:=G8) (M5:=Ea) (M6:=FT) (M7:=Fi) hn (by omega) h2 (by omega)
  (UR (.inr (.inr rfl))) (HT ha) (HT hb) hcs e1 hd (VA a b) Qx9 (fun k hk=>Qjl hk) (fun k hk=>Qvy (by omega))
 have hv:(if sgn a b<0 then-(GQ q r n true:Int)else(GQ q r n false:Int))=A5 (a*b) n:=by
  rcases hs with⟨g1,g2⟩|⟨g1,g2⟩|⟨g1,g2⟩
  ·rw[if_neg (by omega),g2];rw[g1]at hm;have:lo=0:=hz g2;rw[<-Qvo hn h1.symm h2,this];rfl
  ·rw[if_neg (by omega),<-Qvo hn h1.symm h2,<-hm,g1,Int.one_mul]
  ·rw[if_pos (by omega),<-Zpo hn h1.symm h2,<-hm,g1,Int.neg_mul,Int.one_mul]
 rw[hv]at hmain;exact hmain
end Go.Bm
namespace Go.Bm
def val:List Nat->Nat
 |[]=>0
 |d::l=>d+65536*val l
def Dig (l:List Nat):Prop:=∀d∈l,d<65536
theorem Dig.sub {l m:List Nat} (h:Dig l) (hs:∀d∈m,d∈l):Dig m:=fun d hd=>h d (hs d hd)
end Go.Bm
namespace Go.Bm
theorem Dig.set {l:List Nat} (h:Dig l) (j d:Nat) (hd:d<65536):Dig (l.set j d):=by
 intro x hx;rcases List.mem_or_eq_of_mem_set hx with h'|rfl
 ·exact h x h'
 ·exact hd
end Go.Bm
namespace Go.Bm
def bd (A:Nat) (p:Pt):Prop:=p.x.natAbs<=A/\p.y.natAbs<=A/\p.z.natAbs<=A
def IU (a b:Pt):Int:=a.x*b.x+a.y*b.y+a.z*b.z
def GF (a b:Pt):Pt:=⟨a.x-b.x,a.y-b.y,a.z-b.z⟩
theorem Gy {x y:Int} {A B:Nat} (hx:x.natAbs<=A) (hy:y.natAbs<=B):(x*y).natAbs<=A*B:=by rw[Int.natAbs_mul];exact Nat.mul_le_mul hx hy
theorem A0 {A B:Nat} {a:Pt} (h:bd A a) (hab:A<=B):bd B a:=⟨Nat.le_trans h.1 hab,Nat.le_trans h.2.1 hab,Nat.le_trans h.2.2 hab⟩
theorem Zl7 (a b:Pt):IU (GF a b) (GF a b)=IU (GF b a) (GF b a):=by
 simp only[IU,GF];have h:∀x y:Int,(x-y)*(x-y)=(y-x)*(y-x):=by intro x y;rw[<-Int.neg_mul_neg,Int.neg_sub]
 rw[h a.x,h a.y,h a.z]
theorem Z3y {x y:Int}:LW x y<=0↔x<=y:=by
 unfold LW;by_cases h:x<y
 ·rw[if_pos h];omega
 ·rw[if_neg h];by_cases h':x=y
  ·rw[if_pos h'];omega
  ·rw[if_neg h'];omega
end Go.Bm
namespace Go.Bm
theorem Qu2 (v:Nat) (h:v<w64):wrap .u64 (((BitVec.ofInt IntKind.u64.bits (v:Int)&&&BitVec.ofInt IntKind.u64.bits 4294967295).toNat:Nat):Int)=((v%4294967296:Nat):Int):=by
 rw[BC]at h;have e:(BitVec.ofInt IntKind.u64.bits (v:Int)&&&BitVec.ofInt IntKind.u64.bits 4294967295).toNat=v%4294967296:=by
  rw[BitVec.toNat_and];have e1:(BitVec.ofInt IntKind.u64.bits (v:Int)).toNat=v:=by
   simp only[IntKind.bits,BitVec.toNat_ofInt];omega
  have e2:(BitVec.ofInt IntKind.u64.bits 4294967295).toNat=2^32-1:=by
   simp only[IntKind.bits,BitVec.toNat_ofInt];rfl
  rw[e1,e2,Nat.and_two_pow_sub_one_eq_mod]
 rw[e,HP (by omega)]
theorem Qv1 (v:Nat):(v:Int).fdiv (2^min (Int.toNat 32) IntKind.u64.bits)=((v/4294967296:Nat):Int):=by
 have e:(2^min (Int.toNat 32) IntKind.u64.bits:Int)=4294967296:=rfl;rw[e,Int.fdiv_eq_ediv_of_nonneg _ (by omega)];omega
def Et (a n:Nat) (down:Bool) (j:Nat):Prop:=
 (j=0\/if down=true then(2*j-1)*(2*j-1)*n<4*(a*a)else(2*j-1)*(2*j-1)*n<=4*(a*a))/\
 (if down=true then 4*(a*a)<=(2*j+1)*(2*j+1)*n else 4*(a*a)<(2*j+1)*(2*j+1)*n)
theorem QT {p q n:Nat} (h:p<=q):p*p*n<=q*q*n:=Nat.mul_le_mul_right _ (Nat.mul_le_mul h h)
theorem Zlc {a n:Nat} {down:Bool} {i j:Nat} (hi:Et a n down i) (hj:Et a n down j):i=j:=by
 have key:∀{i j:Nat},Et a n down i->Et a n down j-> ¬i<j:=by
  rintro i j ⟨-,h2⟩ ⟨h3,-⟩ hlt;have h4:=QT (n:=n) (show 2*i+1<=2*j-1 by omega);rcases h3 with h3|h3
  ·omega
  ·by_cases hd:down=true
   ·rw[if_pos hd]at h2 h3;omega
   ·rw[if_neg hd]at h2 h3;omega
 have h1:=key hi hj;have h2:=key hj hi;omega
open Classical in
noncomputable def rnd (a n:Nat) (down:Bool):Nat:=if h:∃j,Et a n down j then Classical.choose h else 0
theorem Sg {a n:Nat} {down:Bool} {j:Nat} (h:Et a n down j):rnd a n down=j:=by
 have hx:∃j,Et a n down j:=⟨j,h⟩;unfold rnd;rw[dif_pos hx];exact Zlc (Classical.choose_spec hx) h
noncomputable def BX (x r n:Int):Int:=if x<0 then-(rnd (x.natAbs*r.natAbs) n.natAbs true:Int)else(rnd (x.natAbs*r.natAbs) n.natAbs false:Int)
theorem Wq {X R n j:Nat} {down:Bool} (hn:0<n) (hx:X*X<=n) (h:Et (X*R) n down j):j<=R:=by
 by_cases c:j<=R
 ·exact c
 exfalso;have e:4*(X*R*(X*R))=(2*R)*(2*R)*(X*X):=by grind
 have h2:(2*R)*(2*R)*(X*X)<=(2*R)*(2*R)*n:=Nat.mul_le_mul_left _ hx;have h3:(2*R)*(2*R)*n<(2*R+1)*(2*R+1)*n:=Nat.mul_lt_mul_of_pos_right (Nat.mul_self_lt_mul_self (by omega)) hn;have h4:(2*R+1)*(2*R+1)*n<=(2*j-1)*(2*j-1)*n:=QT (by omega);obtain⟨h5,-⟩:=h;rcases h5 with h5|h5
 ·omega
 ·split at h5<;>omega
theorem Zrl {X R n j:Nat} {down:Bool} (hn:0<n) (hx:R*R<=n) (h:Et (X*R) n down j):j<=X:=by
 rw[Nat.mul_comm]at h;exact Wq hn hx h
theorem Z7v {a n q:Nat} (down:Bool) (h1:q*q*n<=a*a) (h2:a*a<(q+1)*(q+1)*n):
  Et a n down (if(if down=true then(2*q+1)*(2*q+1)*n<2*a*(2*a)else(2*q+1)*(2*q+1)*n<=2*a*(2*a))then q+1 else q):=by
 have e4:2*a*(2*a)=4*(a*a):=by grind
 rw[e4];have e1:4*(q*q*n)<=4*(a*a):=Nat.mul_le_mul_left _ h1;have e2:4*(a*a)<4*((q+1)*(q+1)*n):=by omega
 have e5:(2*q-1)*(2*q-1)*n<=(2*q)*(2*q)*n:=QT (by omega);have e6:(2*q)*(2*q)*n=4*(q*q*n):=by grind
 have e7:(2*(q+1))*(2*(q+1))*n=4*((q+1)*(q+1)*n):=by grind
 have e8:(2*(q+1))*(2*(q+1))*n<=(2*(q+1)+1)*(2*(q+1)+1)*n:=QT (by omega);have e9:n=0\/q=0\/(2*q-1)*(2*q-1)*n<(2*q)*(2*q)*n:=by
  by_cases hn:n=0
  ·exact .inl hn
  ·by_cases hq:q=0
   ·exact .inr (.inl hq)
   ·right;right;refine Nat.mul_lt_mul_of_pos_right ?_ (by omega);exact Nat.mul_self_lt_mul_self (by omega)
 have hn:n≠0:=by rintro rfl;simp at h2
 unfold Et;cases down
 ·simp only[Bool.false_eq_true,if_false];by_cases c:(2*q+1)*(2*q+1)*n<=4*(a*a)
  ·rw[if_pos c];refine⟨.inr ?_,by omega⟩;rw[show 2*(q+1)-1=2*q+1 by omega];exact c
  ·rw[if_neg c];exact⟨by omega,by omega⟩
 ·simp only[if_true];by_cases c:(2*q+1)*(2*q+1)*n<4*(a*a)
  ·rw[if_pos c];refine⟨.inr ?_,by omega⟩;rw[show 2*(q+1)-1=2*q+1 by omega];exact c
  ·rw[if_neg c];exact⟨by omega,by omega⟩
theorem Z5n {A N:Nat} (hN:0<N):∃q:Nat,q*q*N<=A*A/\A*A<(q+1)*(q+1)*N:=by
 have key:∀n:Nat,∃r:Nat,r*r<=n/\n<(r+1)*(r+1):=by
  intro n;induction n with
  |zero=>exact⟨0,by simp,by simp⟩
  |succ n ih=>
   obtain⟨r,h1,h2⟩:=ih;by_cases h:n+1<(r+1)*(r+1)
   ·exact⟨r,by omega,h⟩
   ·refine⟨r+1,by omega,?_⟩;have:(r+1+1)*(r+1+1)=(r+1)*(r+1)+2*(r+1)+1:=by grind
    omega
 obtain⟨q,h1,h2⟩:=key (A*A/N);exact⟨q,(Nat.le_div_iff_mul_le hN).1 h1,(Nat.div_lt_iff_lt_mul hN).1 h2⟩
theorem SV {x r n:Int} (hx:x.natAbs<=33554432*4) (hr:0<=r/\r<=33554432*4) (hn:0<n/\n<=4611686018427387904) (hxn:x*x<=n):
  True/\(BX x r n).natAbs<=268435456/\Et (x.natAbs*r.natAbs) n.natAbs (decide (x<0)) (BX x r n).natAbs:=by
 obtain⟨R,rfl⟩:=Int.eq_ofNat_of_zero_le hr.1;obtain⟨N,rfl⟩:=Int.eq_ofNat_of_zero_le (show 0<=n by omega);have hxx:x.natAbs*x.natAbs<=N:=by
  have:((x.natAbs*x.natAbs:Nat):Int)=x*x:=by rw[Int.natAbs_mul_self]
  omega
 simp only[BX,Int.natAbs_natCast];obtain⟨q,l2,l3⟩:=Z5n (A:=x.natAbs*R) (N:=N) (by omega);obtain⟨j,hi⟩:∃j,Et (x.natAbs*R) N (decide (x<0)) j:=⟨_,Z7v (decide (x<0)) l2 l3⟩;have hle:=Wq (X:=x.natAbs) (R:=R) (by omega) hxx hi;have hrr:=Sg hi;by_cases hx0:x<0
 ·have e:=decide_eq_true hx0;rw[e]at hi hrr⊢;rw[if_pos hx0,hrr,Int.natAbs_neg,Int.natAbs_natCast];exact⟨trivial,by omega,hi⟩
 ·have e:=decide_eq_false hx0;rw[e]at hi hrr⊢;rw[if_neg hx0,hrr,Int.natAbs_natCast];exact⟨trivial,by omega,hi⟩
def Io (n k:Int):Prop:=0<=k/\n<=k*k/\(k=0\/(k-1)*(k-1)<n)
theorem Zwf {n i j:Int} (hi:Io n i) (hj:Io n j):i=j:=by
 have key:∀{i j:Int},Io n i->Io n j-> ¬i<j:=by
  rintro i j ⟨h1,h2,-⟩ ⟨h4,h5,h6⟩ hlt;rcases h6 with h6|h6
  ·omega
  ·have:=Int.mul_self_le_mul_self h1 (show i<=j-1 by omega);omega
 have h1:=key hi hj;have h2:=key hj hi;omega
open Classical in
noncomputable def upR (n:Int):Int:=if h:∃j,Io n j then Classical.choose h else 0
theorem Qr2 {n k:Int} (h:Io n k):upR n=k:=by
 have hx:∃j,Io n j:=⟨k,h⟩;unfold upR;rw[dif_pos hx];exact Zwf (Classical.choose_spec hx) h
theorem Q7g {n r:Nat} (h1:r*r<=n) (h2:n<(r+1)*(r+1)):Io n (if r*r<n then r+1 else r:Nat):=by
 unfold Io;by_cases c:r*r<n
 ·rw[if_pos c];have e1:((r+1:Nat):Int)*((r+1:Nat):Int)=(((r+1)*(r+1):Nat):Int):=(Int.natCast_mul _ _).symm;have e2:(((r+1:Nat):Int)-1)*(((r+1:Nat):Int)-1)=((r*r:Nat):Int):=by
   rw[show((r+1:Nat):Int)-1=(r:Int) by omega];exact(Int.natCast_mul _ _).symm
  rw[e1,e2];generalize(r+1)*(r+1)=A at*;generalize r*r=B at*;exact⟨by omega,by omega, .inr (by omega)⟩
 ·rw[if_neg c];have e1:(r:Int)*(r:Int)=((r*r:Nat):Int):=(Int.natCast_mul _ _).symm;rw[e1];refine⟨by omega,by omega,?_⟩;rcases Nat.eq_zero_or_pos r with h|h
  ·left;omega
  ·right;have e2:((r:Int)-1)*((r:Int)-1)=(((r-1)*(r-1):Nat):Int):=by
    rw[show(r:Int)-1=((r-1:Nat):Int) by omega];exact(Int.natCast_mul _ _).symm
   have:=Nat.mul_self_lt_mul_self (show r-1<r by omega);rw[e2];omega
theorem Z6u (k:Nat):((2^(k+1):Nat):Int).fdiv (2^min (Int.toNat 1) IntKind.i64.bits)=((2^k:Nat):Int):=by
 have e:(2^min (Int.toNat 1) IntKind.i64.bits:Int)=2:=rfl;rw[e,Int.fdiv_eq_ediv_of_nonneg _ (by omega),Nat.pow_succ];omega
theorem Zxe:(1:Int).fdiv (2^min (Int.toNat 1) IntKind.i64.bits)=0:=rfl
theorem Z6w:∀n:Nat,∃r:Nat,r*r<=n/\n<(r+1)*(r+1):=by
 intro n;induction n with
 |zero=>exact⟨0,by simp,by simp⟩
 |succ n ih=>
  obtain⟨r,h1,h2⟩:=ih;by_cases h:n+1<(r+1)*(r+1)
  ·exact⟨r,by omega,h⟩
  ·refine⟨r+1,by omega,?_⟩;have:(r+1+1)*(r+1+1)=(r+1)*(r+1)+2*(r+1)+1:=by grind
   omega
theorem Tt {n:Nat} (hn:n<4611686018427387904):∃r:Nat,True/\r*r<=n/\n<(r+1)*(r+1)/\r<2147483648:=by
 obtain⟨r,h1,h2⟩:=Z6w n;refine⟨r,trivial,h1,h2,?_⟩;by_cases c:r<2147483648
 ·exact c
 ·have:=Nat.mul_le_mul (show 2147483648<=r by omega) (show 2147483648<=r by omega);omega
def sqD (a b:Pt):Int:=IU (GF a b) (GF a b)
theorem PF (a b:Pt):0<=sqD a b:=by
 unfold sqD IU;have h:∀u:Int,0<=u*u:=fun u=>by rw[<-Int.natAbs_mul_self];omega
 have:=h (GF a b).x;have:=h (GF a b).y;have:=h (GF a b).z;omega
theorem DE {x:Int} {A:Nat} (h:x.natAbs<=A):0<=x*x/\x*x<=((A*A:Nat):Int):=by
 have:=Nat.mul_le_mul h h;rw[<-Int.natAbs_mul_self];omega
theorem Pp {A:Nat} {a b:Pt} (ha:bd A a) (hb:bd A b) (hA:A<=67108864):sqD a b<=54043195528445952:=by
 have h:∀x y:Int,x.natAbs<=A->y.natAbs<=A->(x-y)*(x-y)<=18014398509481984:=by
  intro x y hx hy;exact(DE (x:=x-y) (A:=134217728) (by omega)).2
 have h1:=h _ _ ha.1 hb.1;have h2:=h _ _ ha.2.1 hb.2.1;have h3:=h _ _ ha.2.2 hb.2.2;unfold sqD IU GF;simp only;omega
noncomputable def AB (a b:Pt):Int:=upR (sqD a b)
theorem XL {a b:Pt} (ha:bd 67108864 a) (hb:bd 67108864 b):True/\Io (sqD a b) (AB a b):=by
 have h0:=PF a b;have h1:=Pp ha hb (Nat.le_refl _);obtain⟨d,hd⟩:=Int.eq_ofNat_of_zero_le h0;unfold AB;rw[hd]at h1⊢;obtain⟨r,-,h2,h3,h4⟩:=Tt (n:=d) (by omega);have hu:=Q7g h2 h3;rw[Qr2 hu];exact⟨trivial,hu⟩
theorem HR {a b:Pt} (ha:bd 67108864 a) (hb:bd 67108864 b):0<=AB a b/\AB a b<=268435456:=by
 obtain⟨-,h1,h2,h3⟩:=XL ha hb;have h4:=Pp ha hb (Nat.le_refl _);refine⟨h1,?_⟩;rcases h3 with h3|h3
 ·omega
 ·by_cases c:AB a b<=268435456
  ·exact c
  ·have:=Int.mul_self_le_mul_self (a:=268435456) (b:=AB a b-1) (by omega) (by omega);omega
def I9 (n k:Int):Prop:=0<=k/\n<=k*(k+1)/\(k=0\/(k-1)*k<n)
end Go.Bm
namespace Go.Bm
theorem FO {x:Int} {A:Nat} (h:x.natAbs<=A) (hA:A<=9223372036854775807):wrap .i64 x=x:=Ae (by omega)
theorem Hj {x y:Int} {A B:Nat} (hx:x.natAbs<=A) (hy:y.natAbs<=B):(x-y).natAbs<=A+B:=by omega
theorem QB {x y:Int} {A B:Nat} (hx:x.natAbs<=A) (hy:y.natAbs<=B):(x+y).natAbs<=A+B:=by omega
theorem Qmr {c u x:Int} {A:Nat} (hc:c.natAbs<=A) (ha:(c+x).natAbs<=A) (h:(0<=x->0<=u/\u<=x)/\(x<=0->x<=u/\u<=0)):(c+u).natAbs<=A:=by
 rcases Int.le_total 0 x with g|g
 ·have:=h.1 g;omega
 ·have:=h.2 g;omega
theorem Zk (a b:Pt):sqD a b=(a.x-b.x)*(a.x-b.x)+(a.y-b.y)*(a.y-b.y)+(a.z-b.z)*(a.z-b.z):=rfl
theorem Fd (u:Int):0<=u*u:=by rw[<-Int.natAbs_mul_self];omega
theorem Qhw {a b:Pt}:sqD a b=0↔a=b:=by
 rw[Zk];obtain⟨a1,a2,a3⟩:=a;obtain⟨b1,b2,b3⟩:=b;have h1:=Fd (a1-b1);have h2:=Fd (a2-b2);have h3:=Fd (a3-b3);constructor
 ·intro h;simp only at h;have e1:(a1-b1)*(a1-b1)=0:=by omega
  have e2:(a2-b2)*(a2-b2)=0:=by omega
  have e3:(a3-b3)*(a3-b3)=0:=by omega
  have z:∀u:Int,u*u=0->u=0:=fun u hu=>by
   rcases Int.mul_eq_zero.1 hu with h|h<;>exact h
  have:=z _ e1;have:=z _ e2;have:=z _ e3;rw[Pt.mk.injEq];omega
 ·intro h;injection h with h4 h5 h6;subst h4 h5 h6;simp
theorem Qsx (a b:Pt):(a.x-b.x)*(a.x-b.x)<=sqD a b/\(a.y-b.y)*(a.y-b.y)<=sqD a b/\(a.z-b.z)*(a.z-b.z)<=sqD a b:=by
 rw[Zk];have h1:=Fd (a.x-b.x);have h2:=Fd (a.y-b.y);have h3:=Fd (a.z-b.z);omega
noncomputable def BG (c a:Pt) (d:Int):Pt:=⟨c.x+BX (a.x-c.x) d (sqD a c),c.y+BX (a.y-c.y) d (sqD a c),c.z+BX (a.z-c.z) d (sqD a c)⟩
abbrev B24:Nat:=16777216
theorem Vd {x r n:Int} (hx:x.natAbs<=33554432*4) (hr:0<=r/\r<=33554432*4) (hn:0<n/\n<=4611686018427387904) (hxn:x*x<=n) (hrn:r*r<=n):
  (0<=x->0<=BX x r n/\BX x r n<=x)/\(x<=0->x<=BX x r n/\BX x r n<=0):=by
 obtain⟨-,h2,h3⟩:=SV hx hr hn hxn;have h4 := Zrl (by omega) (by
  have:((r.natAbs*r.natAbs:Nat):Int)=r*r:=Int.natAbs_mul_self;omega) h3
 unfold BX at*;constructor
 ·intro h;rw[if_neg (by omega)]at h4⊢;omega
 ·intro h;by_cases c:x<0
  ·rw[if_pos c]at h4⊢;omega
  ·rw[if_neg c]at h4⊢;omega
theorem Zse {a b:Pt} (ha:bd B24 a) (hb:bd B24 b):sqD a b<=3377699720527872:=by
 have h:∀x y:Int,x.natAbs<=B24->y.natAbs<=B24->(x-y)*(x-y)<=1125899906842624:=by
  intro x y hx hy;unfold B24 at*;exact(DE (x:=x-y) (A:=33554432) (by omega)).2
 have h1:=h _ _ ha.1 hb.1;have h2:=h _ _ ha.2.1 hb.2.1;have h3:=h _ _ ha.2.2 hb.2.2;rw[Zk];omega
theorem J2 {c a:Pt} {d:Int} (hc:bd B24 c) (ha:bd B24 a) (hne:a≠c) (hd:0<=d/\d<AB a c):bd B24 (BG c a d):=by
 have h0:sqD a c≠0:=fun h=>hne (Qhw.1 h);have h1:=PF a c;have h2:=Pp (A0 ha (by decide)) (A0 hc (by decide)) (show 67108864<=67108864 by omega);obtain⟨-,g1,g2,g3⟩:=XL (A0 ha (show B24<=67108864 by decide)) (A0 hc (show B24<=67108864 by decide));have hl:=HR (A0 ha (show B24<=67108864 by decide)) (A0 hc (show B24<=67108864 by decide));have hdd:d*d<=sqD a c:=by
  have:=Int.mul_self_le_mul_self hd.1 (show d<=AB a c-1 by omega);omega
 have hd2:d<=33554432*4:=by
  by_cases c2:d<=33554432*4
  ·exact c2
  ·exfalso;have h3:=Int.mul_self_le_mul_self (a:=33554432*4+1) (b:=d) (by omega) (by omega);have h4:=Zse ha hc;omega
 obtain⟨q1,q2,q3⟩:=Qsx a c;have hn:0<sqD a c/\sqD a c<=4611686018427387904:=⟨Int.lt_iff_le_and_ne.2 ⟨h1,fun h=>h0 h.symm⟩,Int.le_trans h2 (by decide)⟩;have hd3:0<=d/\d<=33554432*4:=⟨hd.1,hd2⟩;have k1:=Vd (x:=a.x-c.x) (r:=d) (n:=sqD a c) (Nat.le_trans (Hj ha.1 hc.1) (by decide)) hd3 hn q1 hdd;have k2:=Vd (x:=a.y-c.y) (r:=d) (n:=sqD a c) (Nat.le_trans (Hj ha.2.1 hc.2.1) (by decide)) hd3 hn q2 hdd;have k3:=Vd (x:=a.z-c.z) (r:=d) (n:=sqD a c) (Nat.le_trans (Hj ha.2.2 hc.2.2) (by decide)) hd3 hn q3 hdd;have e:∀x y:Int,x+(y-x)=y:=fun x y=>by omega
 exact⟨Qmr hc.1 (by rw[e];exact ha.1) k1,Qmr hc.2.1 (by rw[e];exact ha.2.1) k2,Qmr hc.2.2 (by rw[e];exact ha.2.2) k3⟩
def FC (p c q:Pt):Pt:=⟨p.x-c.x+(q.x-c.x),p.y-c.y+(q.y-c.y),p.z-c.z+(q.z-c.z)⟩
def Hm (p c q:Pt):Int:=IU (FC p c q) (FC p c q)
theorem Zhs {p c q:Pt} (hp:bd B24 p) (hc:bd B24 c) (hq:bd B24 q):bd 67108864 (FC p c q):=by
 unfold bd B24 FC at*;simp only;omega
def GW (a c b:Pt) (tol d:Int):Prop:=d<=mn (AB a c) (AB c b)-2/\Hm (BG c a d) c (BG c b d)<=16*tol*tol
theorem RB (x y:Int):mn x y<=x/\mn x y<=y:=by unfold mn;split<;>omega
theorem Zw7 (a b:Pt):sqD a b=sqD b a:=by
 unfold sqD;exact Zl7 a b
theorem Ts (a b:Pt):AB a b=AB b a:=by unfold AB;rw[Zw7]
open Classical in
noncomputable def Fg (P:Int->Prop):Nat->Int->Int
 |0,d=>if P (d+1)then d+1 else d
 |k+1,d=>Fg P k (if P (d+((2^(k+1):Nat):Int))then d+((2^(k+1):Nat):Int)else d)
open Classical in
theorem Q55 {P:Int->Prop}:∀(k:Nat) (d:Int),d<=Fg P k d/\Fg P k d<d+((2^(k+1):Nat):Int)/\(Fg P k d=d\/P (Fg P k d))
 |0,d=>by
  have e:((2^(0+1):Nat):Int)=2:=rfl;rw[e];unfold Fg;split
  ·rename_i h;exact⟨by omega,by omega, .inr h⟩
  ·exact⟨by omega,by omega, .inl rfl⟩
 |k+1,d=>by
  unfold Fg;have hp:0<2^(k+1):=Nat.two_pow_pos _;have e3:2^(k+1+1)=2^(k+1)+2^(k+1):=by rw[Nat.pow_succ 2 (k+1)];omega
  rw[e3];have hif:(if P (d+((2^(k+1):Nat):Int))then d+((2^(k+1):Nat):Int)else d)=d\/((if P (d+((2^(k+1):Nat):Int))then d+((2^(k+1):Nat):Int)else d)=d+((2^(k+1):Nat):Int)/\P (if P (d+((2^(k+1):Nat):Int))then d+((2^(k+1):Nat):Int)else d)):=by
   split
   ·rename_i h;exact .inr ⟨rfl,h⟩
   ·exact .inl rfl
  generalize(if P (d+((2^(k+1):Nat):Int))then d+((2^(k+1):Nat):Int)else d)=d' at*;obtain⟨h1,h2,h3⟩:=Q55 (P:=P) k d';generalize Fg P k d'=x at*;generalize 2^(k+1)=m at*;rcases hif with hif|⟨hif,hP⟩
  ·subst hif;exact⟨by omega,by omega,h3⟩
  ·refine⟨by omega,by omega, .inr ?_⟩;rcases h3 with h3|h3
   ·rw[h3];exact hP
   ·exact h3
open Classical in
noncomputable def C9 (a c b:Pt) (tol:Int):Int:=if a=c\/b=c then 0 else if Fg (GW a c b tol) 24 0<16 then 0 else Fg (GW a c b tol) 24 0
theorem Vs {a c b:Pt} {tol:Int} (h:C9 a c b tol≠0):a≠c/\b≠c/\16<=C9 a c b tol/\C9 a c b tol<33554432/\GW a c b tol (C9 a c b tol):=by
 unfold C9 at*;split at h
 ·exact absurd rfl h
 ·rename_i h1;rw[if_neg h1];split at h
  ·exact absurd rfl h
  ·rename_i h2;rw[if_neg h2];obtain⟨h3,h4,h5⟩:=Q55 (P:=GW a c b tol) 24 0;have e:((2^(24+1):Nat):Int)=33554432:=rfl;rw[e]at h4;refine⟨fun h=>h1 (.inl h),fun h=>h1 (.inr h),by omega,by omega,?_⟩;rcases h5 with h5|h5
   ·omega
   ·exact h5
theorem DS {a b:Pt}:a=b↔a.x=b.x/\a.y=b.y/\a.z=b.z:=by
 obtain⟨a1,a2,a3⟩:=a;obtain⟨b1,b2,b3⟩:=b;simp
def Ln (bend:Int):Nat->Int->Int
 |0,n=>n
 |k+1,n=>if n<64/\bend>16*n*n*n*n*4*4 then Ln bend k (n*2)else n
def Kg (n:Int):Prop:=n=2\/n=4\/n=8\/n=16\/n=32\/n=64
def K9 (p c q:Pt):Int:=Ln (Hm p c q) 5 2
theorem Qwp (b:Int):∀(k:Nat) (n:Int),Kg n->Kg (Ln b k n)
 |0,n,h=>by unfold Ln;exact h
 |k+1,n,h=>by
  unfold Ln;split
  ·rename_i c;refine Qwp b k (n*2) ?_;rcases h with rfl|rfl|rfl|rfl|rfl|rfl<;>simp[Kg]at c⊢
  ·exact h
theorem Xx {p c q:Pt} (hp:bd B24 p) (hc:bd B24 c) (hq:bd B24 q):True/\Kg (K9 p c q):=⟨trivial,Qwp _ 5 2 (.inl rfl)⟩
def Mq (n i p c q:Int):Int:=c+A5 ((n-i)*(n-i)*(p-c)+i*i*(q-c)) (n*n)
def OP (n i:Int) (p c q:Pt):Pt:=⟨Mq n i p.x c.x q.x,Mq n i p.y c.y q.y,Mq n i p.z c.z q.z⟩
theorem TY {a b n:Int} (hn:0<n) (h:a<=b):A5 a n<=A5 b n:=by
 unfold A5;exact Int.ediv_le_ediv (by omega) (by omega)
theorem T6 {k n:Int} (hn:0<n):A5 (k*n) n=k:=Jn hn (by rw[show k*(2*n)=2*(k*n) by grind];omega) (by rw[show(k+1)*(2*n)=2*(k*n)+2*n by grind];omega)
theorem OE {n i p c q:Int} {A:Nat} (hn:0<n) (hi:0<=i/\i<=n) (hp:p.natAbs<=A) (hc:c.natAbs<=A) (hq:q.natAbs<=A):(Mq n i p c q).natAbs<=A:=by
 have hnn:0<n*n:=Int.mul_pos hn hn;have h1:0<=(n-i)*(n-i):=Fd _;have h2:0<=i*i:=Fd _;have h3:(n-i)*(n-i)+i*i<=n*n:=by
  have:n*n-((n-i)*(n-i)+i*i)=2*(i*(n-i)):=by grind
  have:0<=i*(n-i):=Int.mul_nonneg hi.1 (by omega);omega
 have key:∀s:Int,(s=1\/s= -1)->s*((n-i)*(n-i)*(p-c)+i*i*(q-c))<=(A-s*c)*(n*n):=by
  intro s hs;have hp':s*p<=A:=by rcases hs with rfl|rfl<;>omega
  have hc':s*c<=A:=by rcases hs with rfl|rfl<;>omega
  have hq':s*q<=A:=by rcases hs with rfl|rfl<;>omega
  have g1:(n-i)*(n-i)*(s*p-s*c)<=(n-i)*(n-i)*(A-s*c):=Int.mul_le_mul_of_nonneg_left (by omega) h1;have g2:i*i*(s*q-s*c)<=i*i*(A-s*c):=Int.mul_le_mul_of_nonneg_left (by omega) h2;have g3:((n-i)*(n-i)+i*i)*(A-s*c)<=n*n*(A-s*c):=Int.mul_le_mul_of_nonneg_right h3 (by omega);have e1:s*((n-i)*(n-i)*(p-c)+i*i*(q-c))=(n-i)*(n-i)*(s*p-s*c)+i*i*(s*q-s*c):=by grind
  have e2:((n-i)*(n-i)+i*i)*(A-s*c)=(n-i)*(n-i)*(A-s*c)+i*i*(A-s*c):=Int.add_mul ..;have e3:(A-s*c)*(n*n)=n*n*(A-s*c):=Int.mul_comm ..;omega
 unfold Mq;have k1:=TY hnn (key 1 (.inl rfl)|>fun h=>(by rw[Int.one_mul,Int.one_mul]at h;exact h));rw[T6 hnn]at k1;have k2:=key (-1) (.inr rfl);have k3:(-(A:Int)-c)*(n*n)<=(n-i)*(n-i)*(p-c)+i*i*(q-c):=by
  have e:(-(A:Int)-c)*(n*n)= -((A- -1*c)*(n*n)):=by grind
  omega
 have k4:=TY hnn k3;rw[T6 hnn]at k4;omega
noncomputable def FI (a c b:Pt) (tol:Int):List Pt:=
 if C9 a c b tol=0 then [c]
 else(List.range ((K9 (BG c a (C9 a c b tol)) c (BG c b (C9 a c b tol))).toNat+1)).map fun(i:Nat)=>OP (K9 (BG c a (C9 a c b tol)) c (BG c b (C9 a c b tol))) i (BG c a (C9 a c b tol)) c (BG c b (C9 a c b tol))
theorem Qzq {a c b:Pt} {tol:Int} (ha:bd B24 a) (hc:bd B24 c) (hb:bd B24 b):(∀p∈FI a c b tol,bd B24 p)/\1<=(FI a c b tol).length/\(FI a c b tol).length<=65:=by
 unfold FI;by_cases h:C9 a c b tol=0
 ·rw[if_pos h];simp;exact hc
 ·rw[if_neg h];obtain⟨h1,h2,h3,h4,h5,-⟩:=Vs h;obtain⟨m1,m2⟩:=RB (AB a c) (AB c b);generalize C9 a c b tol=d at*;have k1:bd B24 (BG c a d):=J2 hc ha h1 (by omega);have k2:bd B24 (BG c b d):=J2 hc hb h2 (by rw[Ts b c];omega);have k3:=(Xx k1 hc k2).2;generalize K9 (BG c a d) c (BG c b d)=n at*;have hn:2<=n/\n<=64:=by rcases k3 with rfl|rfl|rfl|rfl|rfl|rfl<;>omega
  refine⟨?_,by simp,by simp;omega⟩;intro p hp;simp only[List.mem_map,List.mem_range]at hp;obtain⟨i,hi,rfl⟩:=hp;exact⟨OE (by omega) (by omega) k1.1 hc.1 k2.1,OE (by omega) (by omega) k1.2.1 hc.2.1 k2.2.1,OE (by omega) (by omega) k1.2.2 hc.2.2 k2.2.2⟩
end Go.Bm
namespace Go.Bm
theorem Qv3 {v n:Int} (_:i64 v) (hn:0<n/\n<=4611686018427387904):HV [I v,I n]=some [I (v%n)]:=by
 unfold HV;rw[Zbo,AM (by omega),AM (by omega)];have h1: -n<v.tmod n/\v.tmod n<n:=by
  have a1:=Int.tmod_lt_of_pos v hn.1;have a2:=Int.lt_tmod_of_pos v hn.1;omega
 rw[Ae (by omega)];have h2:(v.tmod n+n).tmod n=v%n:=by
  rw[Int.tmod_eq_emod_of_nonneg (by omega),Int.add_emod_right];have h3:=Int.tmod_add_mul_tdiv v n;have h4:v%n=(v.tmod n+n*v.tdiv n)%n:=by rw[h3]
  rw[h4,Int.add_mul_emod_self_left]
 rw[h2]
end Go.Bm
namespace Go.Bm
def Src (l:Rw):Prop:=l.length<=9223372036854775807/\∀c∈l,i64 (Af (nth .dead c 0))
theorem Zih {l:Rw} {i:Nat} (h:i<l.length):nth [] l i∈l:=by rw[HI [] l i h];exact List.getElem_mem h
theorem Z32 {M:Fn} (hM:∀v n:Int,i64 v->0<n/\n<=4611686018427387904->M [I v,I n]=some [I (v%n)]) {l:Rw} (hl:Src l) {k:Nat} {n:Int} (hn:0<n/\n<=4611686018427387904):
  ∃(v:Int) (k':Nat),Qfk M [I n, .view Aa l,I k]=some [I v, .view Aa l,I k']/\0<=v/\v<n/\k<=k'/\(k<l.length->k'=k+1)/\(l.length<=k->k'=k):=by
 have hl1:=hl.1;rw[Zgr];by_cases h:k<l.length
 ·have h1:=hM _ n (hl.2 _ (Zih h)) hn;simp only[go_sem,Int.toNat_natCast,h1];rw[if_neg (by omega),if_pos (by omega),Ae (by omega)];exact⟨_,k+1,rfl,Int.emod_nonneg _ (by omega),Int.emod_lt_of_pos _ hn.1,by omega,fun _=>rfl,by omega⟩
 ·simp only[go_sem];rw[if_pos (by omega)];exact⟨0,k,rfl,by omega,hn.1,by omega,by omega,fun _=>rfl⟩
theorem Zvd {l:Rw} (hl:Src l) (k:Nat) {n:Int} (hn:0<n/\n<=4611686018427387904):
  ∃(v:Int) (k':Nat),Bv [I n, .view Aa l,I k]=some [I v, .view Aa l,I k']/\0<=v/\v<n/\k<=k'/\(k<l.length->k'=k+1)/\(l.length<=k->k'=k):=
 Z32 (fun _ _ hv hn=>Qv3 hv hn) hl hn
theorem Q5s (l:Rw) (k:Nat):FV [.view Aa l,I k]=some [B (decide (k<l.length)), .view Aa l,I k]:=by
 unfold FV;rw[Zde];congr 3;simp
theorem Qv (l:Rw):Co [.view Aa l]=some [.view Aa l,I 0]:=by
 unfold Co;rw[Zgn]
def AW (r:Int) (k:Int):Int:=if k%4=0 then r else if k%4=2 then-r else 0
def AV (r:Int) (k:Int):Int:=if k%4=1 then r else if k%4=3 then-r else 0
theorem Zmn {r k:Int} (hr:0<=r/\r<=1000000) (hk:0<=k/\k<=1000):Nv [I r,I k]=some [I (AW r k),I (AV r k)]:=by
 unfold Nv;rw[Zu5,Ae (by omega),Int.tmod_eq_emod_of_nonneg hk.1];have hc:k%4=0\/k%4=1\/k%4=2\/k%4=3:=by omega
 unfold AW AV;rcases hc with h|h|h|h<;>rw[h]<;>simp[nth,Af]
end Go.Bm
namespace Go.Bm
def plU (pl:Int) (p:Pt):Int:=if pl=17 then p.x else if pl=18 then p.z else p.y
def plW (pl:Int) (p:Pt):Int:=if pl=17 then p.y else if pl=18 then p.x else p.z
def plH (pl:Int) (p:Pt):Int:=if pl=17 then p.z else if pl=18 then p.y else p.x
def spP (pl u w h:Int):Pt:=if pl=17 then⟨u,w,h⟩else if pl=18 then⟨w,h,u⟩else⟨h,u,w⟩
def C2 (pl:Int):Prop:=pl=17\/pl=18\/pl=19
theorem Zs1 {p:Pt} {pl:Int} (h:C2 pl):Nf [I p.x,I p.y,I p.z,I pl]=some [I (plU pl p),I (plW pl p),I (plH pl p)]:=by
 unfold Nf;rw[Zhy];rcases h with rfl|rfl|rfl<;>rfl
theorem Zt7 {u w h pl:Int} (hp:C2 pl):Mm [I u,I w,I h,I pl]=some (ptR (spP pl u w h)):=by
 unfold Mm;rw[Zks];rcases hp with rfl|rfl|rfl<;>rfl
theorem Ok {pl u w h:Int} (hp:C2 pl):plU pl (spP pl u w h)=u/\plW pl (spP pl u w h)=w/\plH pl (spP pl u w h)=h:=by
 rcases hp with rfl|rfl|rfl<;>exact⟨rfl,rfl,rfl⟩
structure ArcMade (size : Int) (it : Itm) : Prop where
 kind:it.kind=3
 aG:C2 it.aG
 dir:it.dir=1\/it.dir= -1
 ends:∃r k t g h:Int,8<=r/\r<8+size/\0<=k/\k<=3/\0<=t/\t<=3/\0<=g/\g<=4/\(h=0\/h=7\/h= -12)/\(t=0->g=0)/\it.full=decide (t=0)/\
  it.ce=spP it.aG (plU it.aG it.fr-AW r k) (plW it.aG it.fr-AV r k) (plH it.aG it.fr)/\
  it.to=spP it.aG (plU it.aG it.fr-AW r k+AW (r+g) (k+t)) (plW it.aG it.fr-AV r k+AV (r+g) (k+t)) (plH it.aG it.fr+h)
theorem OS {r k:Int} (hr:0<=r):(-r<=AW r k/\AW r k<=r)/\(-r<=AV r k/\AV r k<=r):=by
 unfold AW AV;constructor<;>constructor<;>split<;>(try split)<;>omega
theorem Zep {r:Int} (hr:1<=r) (k:Int):((AW r k).tdiv r=AW 1 k)/\((AV r k).tdiv r=AV 1 k):=by
 have h1:r.tdiv r=1:=Int.tdiv_self (by omega);have h2:(-r).tdiv r= -1:=by rw[Int.neg_tdiv,h1]
 unfold AW AV;constructor<;>split<;>(try split)<;>simp[h1,h2]
theorem Zfn (r k e f:Int):∃g,(g=e\/g=f)/\AW r k+AW 1 k*e=AW (r+g) k/\AV r k+AV 1 k*f=AV (r+g) k:=by
 unfold AW AV;by_cases h:k%4=0\/k%4=2
 ·refine⟨e, .inl rfl,?_,?_⟩
  ·rcases h with h|h<;>simp[h]<;>omega
  ·rcases h with h|h<;>simp[h]
 ·have hc:k%4=1\/k%4=3:=by omega
  refine⟨f, .inr rfl,?_,?_⟩
  ·rcases hc with h|h<;>simp[h]
  ·rcases hc with h|h<;>simp[h]<;>omega
theorem Hz {pl:Int} {p:Pt} {b:Nat} (h:bd b p):(plU pl p).natAbs<=b/\(plW pl p).natAbs<=b/\(plH pl p).natAbs<=b:=by
 obtain⟨h1,h2,h3⟩:=h;unfold plU plW plH;refine⟨?_,?_,?_⟩<;>split<;>(try split)<;>assumption
def GK (l:Rw) (M:Fn):Prop:=∀(k:Nat) {n:Int},0<n/\n<=4611686018427387904->
  ∃(v:Int) (k':Nat),M [I n, .view Aa l,I k]=some [I v, .view Aa l,I k']/\0<=v/\v<n/\k<=k'/\(k<l.length->k'=k+1)/\(l.length<=k->k'=k)
abbrev Fq (it:Itm):Prop:=it.block=0/\it.side=0/\it.radius=0/\it.speed=0/\it.on=false
theorem Zir {v:Int} (h:0<=v/\v<3):Af (nth .dead (nth [] [[I 17],[I 18],[I 19]] v.toNat) 0)=17+v:=by
 have hc:v=0\/v=1\/v=2:=by omega
 rcases hc with rfl|rfl|rfl<;>rfl
theorem Q8t {v:Int} (h:0<=v/\v<4):∃x,Af (nth .dead (nth [] [[I 0],[I 0],[I 7],[I (-12)]] v.toNat) 0)=x/\(x=0\/x=7\/x= -12):=by
 have hc:v=0\/v=1\/v=2\/v=3:=by omega
 rcases hc with rfl|rfl|rfl|rfl<;>exact⟨_,rfl,by decide⟩
theorem Zo2 {MS MT MP MN:Fn} {l:Rw} (hN:GK l MN)
  (hP:∀{p:Pt} {pl:Int},C2 pl->MP [I p.x,I p.y,I p.z,I pl]=some [I (plU pl p),I (plW pl p),I (plH pl p)])
  (hS:∀{u w h pl:Int},C2 pl->MS [I u,I w,I h,I pl]=some (ptR (spP pl u w h)))
  (hT:∀{r k:Int},(0<=r/\r<=1000000)->(0<=k/\k<=1000)->MT [I r,I k]=some [I (AW r k),I (AV r k)])
  {p:Pt} (hp:bd 100000000 p) {size:Int} (hs:0<size/\size<=100000) (k:Nat):
  ∃(it:Itm) (k':Nat),XA MS MT MP MN [I p.x,I p.y,I p.z,I size, .view Aa l,I k]=some (Ah it++[.view Aa l,I k'])/\k<=k'/\it.fr=p/\ArcMade size it/\
   it.feed=0/\it.perRev=false/\it.blend=0/\it.n=0/\Fq it:=by
 obtain⟨v1,k1,e1,a1,b1,c1,-,-⟩:=hN k (n:=3) (by omega);obtain⟨v2,k2,e2,a2,b2,c2,-,-⟩:=hN k1 (n:=2) (by omega);obtain⟨v3,k3,e3,a3,b3,c3,-,-⟩:=hN k2 (n:=size) (by omega);obtain⟨v4,k4,e4,a4,b4,c4,-,-⟩:=hN k3 (n:=4) (by omega);obtain⟨v5,k5,e5,a5,b5,c5,-,-⟩:=hN k4 (n:=4) (by omega);rw[Zjo];simp only[go_sem,e1,e2,e3,e4,e5];rw[if_pos (by simp;omega)];have hpl:C2 (17+v1):=by unfold C2;omega
 have w1:wrap .i64 (8+v3)=8+v3:=Ae (by omega);have w2:wrap .i64 (v4+v5)=v4+v5:=Ae (by omega);simp only[Zir ⟨a1,b1⟩,hP hpl,go_sem,w1,w2,hT (r:=8+v3) (k:=v4) (by omega) (by omega),hT (r:=8+v3) (k:=v4+v5) (by omega) (by omega),hS hpl];obtain⟨q1,q2,q3⟩:=Hz (pl:=17+v1) hp;obtain⟨⟨r1,r2⟩,r3,r4⟩:=OS (r:=8+v3) (k:=v4) (by omega);obtain⟨⟨r5,r6⟩,r7,r8⟩:=OS (r:=8+v3) (k:=v4+v5) (by omega);obtain⟨d1,d2⟩:=Zep (r:=8+v3) (by omega) (v4+v5);obtain⟨⟨r9,r10⟩,r11,r12⟩:=OS (r:=1) (k:=v4+v5) (by omega);have w3:wrap .i64 (plU (17+v1) p-AW (8+v3) v4)=plU (17+v1) p-AW (8+v3) v4:=Ae (by omega);have w4:wrap .i64 (plW (17+v1) p-AV (8+v3) v4)=plW (17+v1) p-AV (8+v3) v4:=Ae (by omega);have w5:wrap .i64 (1-wrap .i64 (v2*2))=1-v2*2:=by rw[Ae (x:=v2*2) (by omega),Ae (by omega)]
 have w6:wrap .i64 (plU (17+v1) p-AW (8+v3) v4+AW (8+v3) (v4+v5))=plU (17+v1) p-AW (8+v3) v4+AW (8+v3) (v4+v5):=Ae (by omega);have w7:wrap .i64 (plW (17+v1) p-AV (8+v3) v4+AV (8+v3) (v4+v5))=plW (17+v1) p-AV (8+v3) v4+AV (8+v3) (v4+v5):=Ae (by omega);rw[w3,w4,w5,w6,w7];have hdir:1-v2*2=1\/1-v2*2= -1:=by omega
 have fin:∀(g:Int) (u w:Int) (k8:Nat),k5<=k8->0<=g->g<=4->(v5=0->g=0)->u=AW (8+v3+g) (v4+v5)->w=AV (8+v3+g) (v4+v5)->∀v9:Int,0<=v9/\v9<4->
   ∃it:Itm,[I 3,I 0,I p.x,I p.y,I p.z,I (spP (17+v1) (plU (17+v1) p-AW (8+v3) v4+u) (plW (17+v1) p-AV (8+v3) v4+w) (plH (17+v1) p+Af (nth .dead (nth [] [[I 0],[I 0],[I 7],[I (-12)]] v9.toNat) 0))).x,
    I (spP (17+v1) (plU (17+v1) p-AW (8+v3) v4+u) (plW (17+v1) p-AV (8+v3) v4+w) (plH (17+v1) p+Af (nth .dead (nth [] [[I 0],[I 0],[I 7],[I (-12)]] v9.toNat) 0))).y,
    I (spP (17+v1) (plU (17+v1) p-AW (8+v3) v4+u) (plW (17+v1) p-AV (8+v3) v4+w) (plH (17+v1) p+Af (nth .dead (nth [] [[I 0],[I 0],[I 7],[I (-12)]] v9.toNat) 0))).z,
    I (17+v1),I (spP (17+v1) (plU (17+v1) p-AW (8+v3) v4) (plW (17+v1) p-AV (8+v3) v4) (plH (17+v1) p)).x,I (spP (17+v1) (plU (17+v1) p-AW (8+v3) v4) (plW (17+v1) p-AV (8+v3) v4) (plH (17+v1) p)).y,I (spP (17+v1) (plU (17+v1) p-AW (8+v3) v4) (plW (17+v1) p-AV (8+v3) v4) (plH (17+v1) p)).z,
    I (1-v2*2),B (decide (v5=0)),I 0,B false,I 0,I 0,I 0,I 0,I 0,B false, .view Aa l,I k8]=Ah it++[.view Aa l,I k8]/\it.fr=p/\ArcMade size it/\it.feed=0/\it.perRev=false/\it.blend=0/\it.n=0/\Fq it:=by
  intro g u w k8 hk8 hg0 hg4 hg5 hu hw v9 hv9;obtain⟨x,hx,hx3⟩:=Q8t hv9;rw[hx];refine⟨⟨3,0,p,_,17+v1,_,1-v2*2,decide (v5=0),0,false,0,0,0,0,0,false⟩,rfl,rfl,⟨rfl,hpl,hdir,8+v3,v4,v5,g,x,?_⟩,rfl,rfl,rfl,rfl,rfl,rfl,rfl,rfl,rfl⟩;subst hu hw;exact⟨by omega,by omega,by omega,by omega,by omega,by omega,hg0,hg4,hx3,hg5,rfl,rfl,rfl⟩
 have hgh:∀v9:Int,0<=v9/\v9<4->wrap .i64 (plH (17+v1) p+Af (nth .dead (nth [] [[I 0],[I 0],[I 7],[I (-12)]] v9.toNat) 0))=plH (17+v1) p+Af (nth .dead (nth [] [[I 0],[I 0],[I 7],[I (-12)]] v9.toNat) 0):=by
  intro v9 hv9;obtain⟨x,hx,hx3⟩:=Q8t hv9;rw[hx];exact Ae (by omega)
 have hfull:(v5==0)=decide (v5=0):=rfl;by_cases hv5:v5>0
 ·rw[if_pos hv5];obtain⟨v6,k6,e6,a6,b6,c6,-,-⟩:=hN k5 (n:=3) (by omega);simp only[go_sem,e6];by_cases hv6:v6=0
  ·rw[if_pos hv6,if_neg (by omega)];obtain⟨v7,k7,e7,a7,b7,c7,-,-⟩:=hN k6 (n:=5) (by omega);obtain⟨v8,k8,e8,a8,b8,c8,-,-⟩:=hN k7 (n:=5) (by omega);obtain⟨v9,k9,e9,a9,b9,c9,-,-⟩:=hN k8 (n:=4) (by omega);simp only[go_sem,e7,e8,e9];rw[if_neg (by omega),if_pos (by simp;omega),hgh v9 ⟨a9,b9⟩,d1,d2];obtain⟨g,hg,hu,hw⟩:=Zfn (8+v3) (v4+v5) v7 v8;have mu: -4<=AW 1 (v4+v5)*v7/\AW 1 (v4+v5)*v7<=4:=by
    have hc:AW 1 (v4+v5)= -1\/AW 1 (v4+v5)=0\/AW 1 (v4+v5)=1:=by omega
    rcases hc with h|h|h<;>rw[h]<;>omega
   have mw: -4<=AV 1 (v4+v5)*v8/\AV 1 (v4+v5)*v8<=4:=by
    have hc:AV 1 (v4+v5)= -1\/AV 1 (v4+v5)=0\/AV 1 (v4+v5)=1:=by omega
    rcases hc with h|h|h<;>rw[h]<;>omega
   rw[Ae (x:=AW 1 (v4+v5)) (by omega),Ae (x:=AV 1 (v4+v5)) (by omega),Ae (x:=AW 1 (v4+v5)*v7) (by omega),Ae (x:=AV 1 (v4+v5)*v8) (by omega),
    Ae (x:=AW (8+v3) (v4+v5)+_) (by omega),Ae (x:=AV (8+v3) (v4+v5)+_) (by omega),hu,hw]
   obtain⟨⟨s1,s2⟩,s3,s4⟩:=OS (r:=8+v3+g) (k:=v4+v5) (by omega);rw[Ae (x:=_+AW (8+v3+g) (v4+v5)) (by omega),Ae (x:=_+AV (8+v3+g) (v4+v5)) (by omega)];obtain⟨it,h1,h2⟩:=fin g _ _ k9 (by omega) (by omega) (by omega) (by omega) rfl rfl v9 ⟨a9,b9⟩;refine⟨it,k9,?_,by omega,h2⟩;exact congrArg some h1
  ·rw[if_neg hv6];obtain⟨v9,k9,e9,a9,b9,c9,-,-⟩:=hN k6 (n:=4) (by omega);simp only[go_sem,e9];rw[if_pos (by simp;omega),hgh v9 ⟨a9,b9⟩];obtain⟨it,h1,h2⟩:=fin 0 _ _ k9 (by omega) (by omega) (by omega) (by omega) (by rw[Int.add_zero]) (by rw[Int.add_zero]) v9 ⟨a9,b9⟩;refine⟨it,k9,?_,by omega,h2⟩;exact congrArg some h1
 ·rw[if_neg hv5];obtain⟨v9,k9,e9,a9,b9,c9,-,-⟩:=hN k5 (n:=4) (by omega);simp only[go_sem,e9];rw[if_pos (by simp;omega),hgh v9 ⟨a9,b9⟩];obtain⟨it,h1,h2⟩:=fin 0 _ _ k9 (by omega) (by omega) (by omega) (by omega) (by rw[Int.add_zero]) (by rw[Int.add_zero]) v9 ⟨a9,b9⟩;refine⟨it,k9,?_,by omega,h2⟩;exact congrArg some h1
theorem Hv {l:Rw} (hl:Src l):GK l Bv:=fun k _ hn=>Zvd hl k hn
theorem Zvb {l:Rw} (hl:Src l) {p:Pt} (hp:bd 100000000 p) {size:Int} (hs:0<size/\size<=100000) (k:Nat):
  ∃(it:Itm) (k':Nat),Qy [I p.x,I p.y,I p.z,I size, .view Aa l,I k]=some (Ah it++[.view Aa l,I k'])/\k<=k'/\it.fr=p/\ArcMade size it/\
   it.feed=0/\it.perRev=false/\it.blend=0/\it.n=0/\Fq it:=
 Zo2 (Hv hl) Zs1 Zt7 Zmn hp hs k
end Go.Bm
namespace Go.Bm
structure Made (it : Itm) : Prop where
 kind:1<=it.kind/\it.kind<=6
 line:it.kind≠3->(it.to.x-it.fr.x).natAbs<=16/\(it.to.y-it.fr.y).natAbs<=16/\(it.to.z-it.fr.z).natAbs<=16
 arc:it.kind=3->ArcMade 8 it
 feed:it.kind≠1->1<=it.feed/\it.feed<=60000000
 blend:0<=it.blend/\it.blend<=9
 sync:it.kind=5\/it.kind=6->it.blend=0/\it.feed<=60
 free:it.kind<=4->it.perRev=false
 full:it.kind≠3->it.full=false
theorem Q3x {v:Int} (h:0<=v/\v<5):∃x,Af (nth .dead (nth [] [[I 300000],[I 1],[I 60000],[I 2000000],[I 60000000]] v.toNat) 0)=x/\1<=x/\x<=60000000:=by
 have hc:v=0\/v=1\/v=2\/v=3\/v=4:=by omega
 rcases hc with rfl|rfl|rfl|rfl|rfl<;>exact⟨_,rfl,by decide⟩
theorem Q9u {v:Int} (h:0<=v/\v<5):∃x,Af (nth .dead (nth [] [[I 0],[I 1],[I 2],[I 4],[I 9]] v.toNat) 0)=x/\0<=x/\x<=9:=by
 have hc:v=0\/v=1\/v=2\/v=3\/v=4:=by omega
 rcases hc with rfl|rfl|rfl|rfl|rfl<;>exact⟨_,rfl,by decide⟩
theorem Zux {size:Int} {it:Itm} (h:ArcMade size it) (f b:Int) (pr:Bool) (n:Int):ArcMade size {it with feed:=f,blend:=b,perRev:=pr,n:=n}:=⟨h.kind,h.aG,h.dir,h.ends⟩
theorem Zoi {MA MN:Fn} {l:Rw} (hN:GK l MN)
  (hA:∀{p:Pt},bd 100000000 p->∀k:Nat,∃(it:Itm) (k':Nat),MA [I p.x,I p.y,I p.z,I 8, .view Aa l,I k]=some (Ah it++[.view Aa l,I k'])/\k<=k'/\it.fr=p/\ArcMade 8 it/\it.feed=0/\it.perRev=false/\it.blend=0/\it.n=0/\Fq it)
  {p:Pt} (hp:bd 100000000 p) {kind:Int} (hk:1<=kind/\kind<=6) (k:Nat):
  ∃(it:Itm) (k':Nat),Ww MN MA [I p.x,I p.y,I p.z,I kind, .view Aa l,I k]=some (Ah it++[.view Aa l,I k'])/\k<=k'/\it.fr=p/\it.kind=kind/\Made it/\Fq it:=by
 rw[Zy5];obtain⟨hp1,hp2,hp3⟩:=hp;by_cases h3:kind=3
 ·subst h3;obtain⟨it,k1,e1,c1,g1,g2,g3,g4,g5,g6,g7,g8,g9,g10,g11⟩:=hA ⟨hp1,hp2,hp3⟩ k;obtain⟨v2,k2,e2,a2,b2,c2,-,-⟩:=hN k1 (n:=5) (by omega);obtain⟨v3,k3,e3,a3,b3,c3,-,-⟩:=hN k2 (n:=5) (by omega);simp only[go_sem,e1,Ah,List.cons_append,List.nil_append,e2,e3];rw[if_neg (by omega),if_pos (by simp;omega),if_pos (by simp;omega),if_neg (by omega),if_neg (by omega),if_neg (by omega)];obtain⟨f,hf,hf1,hf2⟩:=Q3x ⟨a2,b2⟩;obtain⟨b,hb,hb1,hb2⟩:=Q9u ⟨a3,b3⟩;rw[hf,hb];have hka:=g2.kind;refine⟨{it with feed:=f,blend:=b,perRev:=it.perRev,n:=it.n},k3,rfl,by omega,g1,hka,⟨?_,?_,?_,?_,?_,?_,?_,?_⟩,g7,g8,g9,g10,g11⟩
  ·show 1<=it.kind/\it.kind<=6;omega
  ·exact fun h=>absurd hka h
  ·exact fun _=>Zux g2 f b _ _
  ·exact fun _=>⟨hf1,hf2⟩
  ·exact⟨hb1,hb2⟩
  ·intro h;change it.kind=5\/it.kind=6 at h;omega
  ·exact fun _=>g4
  ·exact fun h=>absurd hka h
 ·simp only[go_sem];rw[if_neg h3];obtain⟨v1,k1,e1,a1,b1,c1,-,-⟩:=hN k (n:=25) (by omega);obtain⟨v2,k2,e2,a2,b2,c2,-,-⟩:=hN k1 (n:=25) (by omega);obtain⟨v3,k3,e3,a3,b3,c3,-,-⟩:=hN k2 (n:=3) (by omega);obtain⟨v4,k4,e4,a4,b4,c4,-,-⟩:=hN k3 (n:=9) (by omega);obtain⟨v5,k5,e5,a5,b5,c5,-,-⟩:=hN k4 (n:=2) (by omega);simp only[go_sem,e1,e2,e3,e4,e5];have hm:0<=v3*v4/\v3*v4<=16:=by
   have hc:v3=0\/v3=1\/v3=2:=by omega
   rcases hc with rfl|rfl|rfl<;>omega
  generalize v3*v4=m at hm;have w1:wrap .i64 (wrap .i64 (p.x+v1)-12)=p.x+v1-12:=by rw[Ae (x:=p.x+v1) (by omega),Ae (by omega)]
  have w2:wrap .i64 (wrap .i64 (p.y+v2)-12)=p.y+v2-12:=by rw[Ae (x:=p.y+v2) (by omega),Ae (by omega)]
  have w3:wrap .i64 (wrap .i64 (p.z+wrap .i64 m)-wrap .i64 (8*v5))=p.z+m-8*v5:=by
   rw[Ae (x:=m) (by omega),Ae (x:=p.z+m) (by omega),Ae (x:=8*v5) (by omega),Ae (by omega)]
  rw[w1,w2,w3]
  have mk:∀(f b n:Int) (pr:Bool),(kind≠1->1<=f/\f<=60000000)->(0<=b/\b<=9)->(kind=5\/kind=6->b=0/\f<=60)->(kind<=4->pr=false)->
    ∃it:Itm,Ah it=[I kind,I 0,I p.x,I p.y,I p.z,I (p.x+v1-12),I (p.y+v2-12),I (p.z+m-8*v5),I 0,I 0,I 0,I 0,I 0,B false,I f,B pr,I 0,I 0,I b,I n,I 0,B false]/\it.fr=p/\it.kind=kind/\Made it/\Fq it:=by
   intro f b n pr h1 h2 h4 h5;refine⟨⟨kind,0,p,⟨p.x+v1-12,p.y+v2-12,p.z+m-8*v5⟩,0,⟨0,0,0⟩,0,false,f,pr,0,0,b,n,0,false⟩,rfl,rfl,rfl,⟨hk,fun _=> ?_,fun h=>absurd h h3,h1,h2,h4,h5,fun _=>rfl⟩,rfl,rfl,rfl,rfl,rfl⟩;show(p.x+v1-12-p.x).natAbs<=16/\(p.y+v2-12-p.y).natAbs<=16/\(p.z+m-8*v5-p.z).natAbs<=16;omega
  have en:∀(f b n:Int) (pr:Bool) (k':Nat),k<=k'->(kind≠1->1<=f/\f<=60000000)->(0<=b/\b<=9)->(kind=5\/kind=6->b=0/\f<=60)->(kind<=4->pr=false)->
    ∃(it:Itm) (k'':Nat),some [I kind,I 0,I p.x,I p.y,I p.z,I (p.x+v1-12),I (p.y+v2-12),I (p.z+m-8*v5),I 0,I 0,I 0,I 0,I 0,B false,I f,B pr,I 0,I 0,I b,I n,I 0,B false, .view Aa l,I k']=some (Ah it++[.view Aa l,I k''])/\k<=k''/\it.fr=p/\it.kind=kind/\Made it/\Fq it:=by
   intro f b n pr k' h0 h1 h2 h4 h5;obtain⟨it,i1,i2⟩:=mk f b n pr h1 h2 h4 h5;refine⟨it,k',?_,h0,i2⟩;rw[i1];rfl
  by_cases h1:kind=1
  ·rw[if_pos h1];exact en _ _ _ _ _ (by omega) (fun h=>absurd h1 h) (by omega) (by omega) (fun _=>rfl)
  ·rw[if_neg h1];obtain⟨v6,k6,e6,a6,b6,c6,-,-⟩:=hN k5 (n:=5) (by omega);obtain⟨v7,k7,e7,a7,b7,c7,-,-⟩:=hN k6 (n:=5) (by omega);obtain⟨v8,k8,e8,a8,b8,c8,-,-⟩:=hN k7 (n:=60) (by omega);obtain⟨v9,k9,e9,a9,b9,c9,-,-⟩:=hN k8 (n:=2) (by omega);simp only[go_sem,e6,e7,e8,e9];rw[if_pos (by simp;omega),if_pos (by simp;omega)];obtain⟨f,hf,hf1,hf2⟩:=Q3x ⟨a6,b6⟩;obtain⟨b,hb,hb1,hb2⟩:=Q9u ⟨a7,b7⟩;rw[hf,hb,Ae (x:=1+v8) (by omega),Ae (x:=3+v9) (by omega)];by_cases h5:kind=5
   ·rw[if_pos h5,if_neg (by omega)];exact en _ _ _ _ _ (by omega) (by omega) (by omega) (by omega) (by omega)
   ·rw[if_neg h5];by_cases h6:kind=6
    ·rw[if_pos h6,if_pos h6];exact en _ _ _ _ _ (by omega) (by omega) (by omega) (by omega) (by omega)
    ·rw[if_neg h6];by_cases h4:kind=4
     ·rw[if_pos h4];exact en _ _ _ _ _ (by omega) (by omega) (by omega) (by omega) (fun _=>rfl)
     ·rw[if_neg h4];exact en _ _ _ _ _ (by omega) (by omega) (by omega) (by omega) (fun _=>rfl)
theorem Z5m {l:Rw} (hl:Src l) {p:Pt} (hp:bd 100000000 p) {kind:Int} (hk:1<=kind/\kind<=6) (k:Nat):
  ∃(it:Itm) (k':Nat),L0 [I p.x,I p.y,I p.z,I kind, .view Aa l,I k]=some (Ah it++[.view Aa l,I k'])/\k<=k'/\it.fr=p/\it.kind=kind/\Made it/\Fq it:=
 Zoi (Hv hl) (fun hp k=>Zvb hl hp (by omega) k) hp hk k
end Go.Bm
namespace Go.Bm
def Qrq:Pt->List Itm->Prop
 |_,[]=>True
 |p,it::l=>it.fr=p/\Qrq it.to l
structure Motions (B : Nat) (p : Pt) (l : List Itm) : Prop where
 ET:Qrq p l
 made:∀it∈l,Made it/\Fq it/\it.kind<=3/\bd B it.fr/\bd B it.to
theorem UZ {size:Int} {b:Nat} {it:Itm} (h:ArcMade size it) (hs:size<=1000) (hf:bd b it.fr):bd (b+2*(12+size.toNat)) it.to/\bd (b+8+size.toNat) it.ce:=by
 obtain⟨r,k,t,g,x,h1,h2,h3,h4,h5,h6,h7,h8,h9,h10,h11,h12,h13⟩:=h.ends;obtain⟨q1,q2,q3⟩:=Hz (pl:=it.aG) hf;obtain⟨⟨r1,r2⟩,r3,r4⟩:=OS (r:=r) (k:=k) (by omega);obtain⟨⟨r5,r6⟩,r7,r8⟩:=OS (r:=r+g) (k:=k+t) (by omega);rw[h12,h13];unfold bd spP;constructor<;>split<;>(try split)<;>refine⟨?_,?_,?_⟩<;>simp only<;>omega
theorem Qxd {b:Nat} {it:Itm} (h:Made it) (hf:bd b it.fr):bd (b+40) it.to:=by
 by_cases h3:it.kind=3
 ·exact A0 (UZ (h.arc h3) (by omega) hf).1 (by omega)
 ·obtain⟨h1,h2,h4⟩:=h.line h3;obtain⟨g1,g2,g3⟩:=hf;exact⟨by omega,by omega,by omega⟩
end Go.Bm
namespace Go.Bm
instance (pl:Int):Decidable (C2 pl):=by unfold C2;infer_instance
instance (A:Nat) (p:Pt):Decidable (bd A p):=by unfold bd;infer_instance
def dU (it:Itm) (p:Pt):Int:=plU it.aG p-plU it.aG it.ce
def dW (it:Itm) (p:Pt):Int:=plW it.aG p-plW it.aG it.ce
def sq2 (u w:Int):Int:=u*u+w*w
def crs (u w x y:Int):Int:=u*y-w*x
def dt2 (u w x y:Int):Int:=u*x+w*y
def qA (it:Itm):Int:=sq2 (dU it it.fr) (dW it it.fr)
def qB (it:Itm):Int:=sq2 (dU it it.to) (dW it it.to)
def cAB (it:Itm):Int:=crs (dU it it.fr) (dW it it.fr) (dU it it.to) (dW it it.to)
def dAB (it:Itm):Int:=dt2 (dU it it.fr) (dW it it.fr) (dU it it.to) (dW it it.to)
def HX (X Y:Int):Prop:=X+Y-16<=0\/(X+Y-16)*(X+Y-16)<=4*X*Y
def Qkn (it:Itm):Prop:=64<=qA it/\64<=qB it/\HX (qA it) (qB it)/\(it.full=true->dU it it.fr=dU it it.to/\dW it it.fr=dW it it.to)/\(it.full=false->cAB it≠0\/dAB it<0)
def Zr2 (it:Itm):Prop:=C2 it.aG/\(it.dir=1\/it.dir= -1)/\bd 1048576 it.ce/\Qkn it
def Dg (it:Itm):Prop:=(1<=it.kind/\it.kind<=6)/\bd 1048576 it.fr/\bd 1048576 it.to/\(it.kind=3->Zr2 it)
theorem Qhg {it:Itm} {p:Pt} {b c:Nat} (hc:bd c it.ce) (h:bd b p):(dU it p).natAbs<=b+c/\(dW it p).natAbs<=b+c:=by
 obtain⟨h1,h2,h3⟩:=Hz (pl:=it.aG) h;obtain⟨g1,g2,g3⟩:=Hz (pl:=it.aG) hc;unfold dU dW;omega
theorem Q26 (x:Int) {b:Nat} (h:x.natAbs<=b):0<=x*x/\x*x<=((b*b:Nat):Int):=by
 have h1:=Gy h h;have h2:0<=x*x:=by rw[<-Int.natAbs_mul_self];omega
 omega
theorem Q4r {u w:Int} {b:Nat} (hu:u.natAbs<=b) (hw:w.natAbs<=b):0<=sq2 u w/\sq2 u w<=((2*(b*b):Nat):Int):=by
 have h1:=Q26 u hu;have h2:=Q26 w hw;unfold sq2;omega
theorem Q2a {u w x y:Int} {b c:Nat} (hu:u.natAbs<=b) (hw:w.natAbs<=b) (hx:x.natAbs<=c) (hy:y.natAbs<=c):(dt2 u w x y).natAbs<=2*(b*c)/\(crs u w x y).natAbs<=2*(b*c):=by
 have h1:=Gy hu hx;have h2:=Gy hw hy;have h3:=Gy hu hy;have h4:=Gy hw hx;unfold dt2 crs;omega
theorem Zzy {X Y:Int} (hX:64<=X) (hY:64<=Y):HX X Y↔(max X Y-min X Y-16<=0\/(max X Y-min X Y-16)*(max X Y-min X Y-16)<=64*min X Y):=by
 unfold HX;have key:∀M m:Int,64<=M->64<=m->m<=M->((M+m-16<=0\/(M+m-16)*(M+m-16)<=4*M*m)↔(M-m-16<=0\/(M-m-16)*(M-m-16)<=64*m)):=by
  intro M m h1 h2 h3;have e:(M-m-16)*(M-m-16)-64*m=(M+m-16)*(M+m-16)-4*M*m:=by grind
  by_cases hk:M-m-16<=0
  ·refine iff_of_true (.inr ?_) (.inl hk);have h5:(16-(M-m))*(M-m+16)>=0:=Int.mul_nonneg (by omega) (by omega);have h6:(M+m-16)*(M+m-16)-4*M*m=512-(16-(M-m))*(M-m+16)-32*(M+m):=by grind
   omega
  ·constructor
   ·rintro(h|h)
    ·omega
    ·exact .inr (by omega)
   ·rintro(h|h)
    ·omega
    ·exact .inr (by omega)
 by_cases h:X<=Y
 ·rw[Int.max_eq_right h,Int.min_eq_left h,<-key Y X hY hX h];have e1:X+Y-16=Y+X-16:=by omega
  have e2:4*X*Y=4*Y*X:=by grind
  rw[e1,e2]
 ·rw[Int.max_eq_left (by omega),Int.min_eq_right (by omega),<-key X Y hX hY (by omega)]
end Go.Bm
namespace Go.Bm
theorem Z4c (p:Pt):O_ [I p.x,I p.y,I p.z]=some [B (decide (bd 1048576 p))]:=by
 unfold O_;rw[Z05];simp only[go_sem];by_cases h:bd 1048576 p
 ·obtain⟨h1,h2,h3⟩:=h;rw[if_neg (by omega),if_neg (by omega),if_neg (by omega),if_neg (by omega),if_neg (by omega),if_neg (by omega)];congr 3;symm;exact decide_eq_true ⟨h1,h2,h3⟩
 ·have e:decide (bd 1048576 p)=false:=decide_eq_false h;rw[e];unfold bd at h;by_cases c1:p.x< -1048576
  ·rw[if_pos c1]
  rw[if_neg c1];by_cases c2:p.x>1048576
  ·rw[if_pos c2]
  rw[if_neg c2];by_cases c3:p.y< -1048576
  ·rw[if_pos c3]
  rw[if_neg c3];by_cases c4:p.y>1048576
  ·rw[if_pos c4]
  rw[if_neg c4];by_cases c5:p.z< -1048576
  ·rw[if_pos c5]
  rw[if_neg c5,if_pos (by omega)]
def axI (pl:Int):Int×Int×Int:=if pl=17 then(0,1,2)else if pl=18 then(2,0,1)else if pl=19 then(1,2,0)else(0,0,0)
theorem Qfw (pl:Int):Ff [I pl]=some [I (axI pl).1,I (axI pl).2.1,I (axI pl).2.2,B (decide (C2 pl))]:=by
 unfold Ff;rw[Zcs];simp only[go_sem];unfold axI C2;by_cases h1:pl=17
 ·rw[if_pos h1,if_pos h1];simp[h1]
 rw[if_neg h1,if_neg h1];by_cases h2:pl=18
 ·rw[if_pos h2,if_pos h2];simp[h2]
 rw[if_neg h2,if_neg h2];by_cases h3:pl=19
 ·rw[if_pos h3,if_pos h3];simp[h3]
 rw[if_neg h3,if_neg h3];simp[h1,h2,h3]
theorem Zjd {M:Fn} (hM:∀pl:Int,M [I pl]=some [I (axI pl).1,I (axI pl).2.1,I (axI pl).2.2,B (decide (C2 pl))]) {p:Pt} {pl:Int} (hp:C2 pl):
  Qda M [I p.x,I p.y,I p.z,I pl]=some [I (plU pl p),I (plW pl p),I (plH pl p)]:=by
 rw[Zwk];simp only[go_sem,hM];rw[if_neg (by simpa using hp)];rcases hp with rfl|rfl|rfl<;>rfl
theorem Quo {p:Pt} {pl:Int} (hp:C2 pl):Im [I p.x,I p.y,I p.z,I pl]=some [I (plU pl p),I (plW pl p),I (plH pl p)]:=Zjd Qfw hp
def Ay (p:Pt):Pt:=⟨p.x*16,p.y*16,p.z*16⟩
theorem E0 {b:Nat} {p:Pt} (h:bd b p):bd (b*16) (Ay p):=by
 obtain⟨h1,h2,h3⟩:=h;unfold Ay;exact⟨by simp only;omega,by simp only;omega,by simp only;omega⟩
theorem Sp (pl:Int) (p:Pt):plU pl (Ay p)=plU pl p*16/\plW pl (Ay p)=plW pl p*16/\plH pl (Ay p)=plH pl p*16:=by
 unfold plU plW plH Ay;refine⟨?_,?_,?_⟩<;>split<;>(try split)<;>rfl
theorem Qwd {p:Pt} (h:bd 100000000 p):Hs [I p.x,I p.y,I p.z]=some (ptR (Ay p)):=by
 unfold Hs;rw[Zdc];obtain⟨h1,h2,h3⟩:=h;rw[Ae (by omega),Ae (by omega),Ae (by omega)];rfl
theorem Zo {u w r h x y s g:Int} (hu:u.natAbs<=1000000000) (hw:w.natAbs<=1000000000) (hx:x.natAbs<=1000000000) (hy:y.natAbs<=1000000000):GS [I u,I w,I r,I h,I x,I y,I s,I g]=some [I (dt2 u w x y)]:=by
 unfold GS;rw[Zvi];have h1:=Gy hu hx;have h2:=Gy hw hy;unfold dt2;rw[Ae (x:=u*x) (by omega),Ae (x:=w*y) (by omega),Ae (by omega)]
theorem Qe6 {u w r h x y s g:Int} (hu:u.natAbs<=1000000000) (hw:w.natAbs<=1000000000) (hx:x.natAbs<=1000000000) (hy:y.natAbs<=1000000000):GI [I u,I w,I r,I h,I x,I y,I s,I g]=some [I (crs u w x y)]:=by
 unfold GI;rw[Zj7];have h1:=Gy hu hy;have h2:=Gy hw hx;unfold crs;rw[Ae (x:=u*y) (by omega),Ae (x:=w*x) (by omega),Ae (by omega)]
theorem Z0k {M:Fn} (hM:∀{a b c d:Int},i64 a->i64 b->i64 c->i64 d->M [I a,I b,I c,I d]=some [I (LW (a*b) (c*d))]) {X Y:Int} (hX:64<=X/\X<=1000000000000000) (hY:64<=Y/\Y<=1000000000000000):
  ∃v,Qfc M [I X,I Y]=some [B v]/\(v=true↔HX X Y):=by
 rw[Z7f,Zzy hX.1 hY.1];have hmx:mx X Y=max X Y:=by unfold mx;rw[Int.max_def];split<;>split<;>omega
 have hmn:mn X Y=min X Y:=by unfold mn;rw[Int.min_def];split<;>split<;>omega
 have hx1:max X Y<=1000000000000000/\64<=max X Y:=by omega
 have hx2:min X Y<=1000000000000000/\64<=min X Y:=by omega
 rw[hmx,hmn];generalize max X Y=a at*;generalize min X Y=b at*;simp only[go_sem];rw[Ae (x:=a-b) (by omega),Ae (x:=a-b-16) (by omega)];by_cases c1:a-b-16<=0
 ·rw[if_pos c1];exact⟨_,rfl,iff_of_true rfl (.inl c1)⟩
 ·rw[if_neg c1,hM (by unfold i64;omega) (by unfold i64;omega) (by unfold i64;omega) (by unfold i64;omega)];refine⟨_,rfl,?_⟩;simp only[go_sem,decide_eq_true_eq,Z3y];exact⟨fun h=> .inr h,fun h=>h.resolve_left c1⟩
theorem Zh2 {X Y:Int} (hX:64<=X/\X<=1000000000000000) (hY:64<=Y/\Y<=1000000000000000):∃v,Pq [I X,I Y]=some [B v]/\(v=true↔HX X Y):=Z0k Zlj hX hY
theorem Z5t {MP MS:Fn} {it:Itm} (hP:∀p:Pt,MP [I p.x,I p.y,I p.z,I it.aG]=some [I (plU it.aG p),I (plW it.aG p),I (plH it.aG p)]) (hS:∀{p:Pt},bd 100000000 p->MS [I p.x,I p.y,I p.z]=some (ptR (Ay p)))
  (h1:bd 1048576 it.fr) (h2:bd 1048576 it.to) (h3:bd 1048576 it.ce):
  Qob MP MS (An (Xw MP MS)) (Ah it)=some [I (dU it it.fr*16),I (dW it it.fr*16),I 0,I (plH it.aG it.fr*16),I (dU it it.to*16),I (dW it it.to*16),I 0,I (plH it.aG it.to*16)]:=by
 rw[Z42];obtain⟨q1,q2,q3⟩:=Hz (pl:=it.aG) h1;obtain⟨q4,q5,q6⟩:=Hz (pl:=it.aG) h2;obtain⟨q7,q8,q9⟩:=Hz (pl:=it.aG) h3;simp only[hS (A0 h3 (by omega)),hP,go_sem];have w0:wrap .i64 (0+1)=1:=Ae (by omega);have w1:wrap .i64 (1+1)=2:=Ae (by omega);have f1:=Sp it.aG it.fr;have f2:=Sp it.aG it.to;have f3:=Sp it.aG it.ce;have u1:wrap .i64 (plU it.aG (Ay it.fr)-plU it.aG (Ay it.ce))=dU it it.fr*16:=by rw[f1.1,f3.1];unfold dU;rw[Ae (by omega)];omega
 have u2:wrap .i64 (plW it.aG (Ay it.fr)-plW it.aG (Ay it.ce))=dW it it.fr*16:=by rw[f1.2.1,f3.2.1];unfold dW;rw[Ae (by omega)];omega
 have u3:wrap .i64 (plU it.aG (Ay it.to)-plU it.aG (Ay it.ce))=dU it it.to*16:=by rw[f2.1,f3.1];unfold dU;rw[Ae (by omega)];omega
 have u4:wrap .i64 (plW it.aG (Ay it.to)-plW it.aG (Ay it.ce))=dW it it.to*16:=by rw[f2.2.1,f3.2.1];unfold dW;rw[Ae (by omega)];omega
 have b1:bd 100000000 it.fr:=A0 h1 (by omega);have b2:bd 100000000 it.to:=A0 h2 (by omega);have e1:=hS b1;have e2:=hS b2;rw[Bj (by rw[Qhn];simp only[go_sem,e1,e2,hP,u1,u2,w0];rfl),Bj (by rw[Qhn];simp only[go_sem,e1,e2,hP,u3,u4,w1];rfl),
  A3 (o:=(1,_)) (by rw[Qhn];simp only[go_sem];rfl) (by simp)]
 simp only[go_sem,f1.2.2,f2.2.2]
theorem Qzl {it:Itm} (hp:C2 it.aG) (h1:bd 1048576 it.fr) (h2:bd 1048576 it.to) (h3:bd 1048576 it.ce):
  J7 (Ah it)=some [I (dU it it.fr*16),I (dW it it.fr*16),I 0,I (plH it.aG it.fr*16),I (dU it it.to*16),I (dW it it.to*16),I 0,I (plH it.aG it.to*16)]:=
 Z5t (fun _=>Quo hp) Qwd h1 h2 h3
theorem Zrc {MN:Fn} {X Y C D au aw bu bw:Int} {full:Bool} (hX:0<=X/\X<=1000000000000000) (hY:0<=Y/\Y<=1000000000000000)
  (hN:∀{X Y:Int},(64<=X/\X<=1000000000000000)->(64<=Y/\Y<=1000000000000000)->∃v,MN [I X,I Y]=some [B v]/\(v=true↔HX X Y)):
  ∃ v, (if X * 256 < wrap .i64 (128 * 128) then some [B false] else if Y * 256 < wrap .i64 (128 * 128) then some [B false] else
   (MN [I (wrap .i64 ((X*256).tdiv 256)),I (wrap .i64 ((Y*256).tdiv 256))]).bind fun o=>
   if¬Dp (nth .dead o 0)=true then some [B false]else if full=true then if au*16=bu*16 then some [B (aw*16==bw*16)]else some [B false]else if C*256≠0 then some [B true]else some [B (decide (D*256<0))])=some [B v]/\
   (v=true↔64<=X/\64<=Y/\HX X Y/\(full=true->au=bu/\aw=bw)/\(full=false->C≠0\/D<0)):=by
 rw[Ae (x:=128*128) (by omega),Int.mul_tdiv_cancel _ (by omega),Int.mul_tdiv_cancel _ (by omega),Ae (x:=X) (by omega),Ae (x:=Y) (by omega)];by_cases c1:X*256<128*128
 ·rw[if_pos c1];exact⟨_,rfl,iff_of_false (by simp) fun h=>by omega⟩
 rw[if_neg c1];by_cases c2:Y*256<128*128
 ·rw[if_pos c2];exact⟨_,rfl,iff_of_false (by simp) fun h=>by omega⟩
 rw[if_neg c2];obtain⟨v,h1,h2⟩:=hN (X:=X) (Y:=Y) (by omega) (by omega);simp only[h1,go_sem];by_cases c3:v=true
 case neg=>rw[if_pos c3];exact⟨_,rfl,iff_of_false (by simp) fun h=>c3 (h2.2 h.2.2.1)⟩
 rw[if_neg (by simpa using c3)];have hn':=h2.1 c3;cases full with
 |true=>
  rw[if_pos rfl];by_cases c4:au*16=bu*16
  ·rw[if_pos c4];refine⟨_,rfl,?_⟩;simp only[beq_iff_eq];exact⟨fun h=>⟨by omega,by omega,hn',fun _=>⟨by omega,by omega⟩,fun h=>by simp at h⟩,fun h=>by have:=(h.2.2.2.1 trivial).2;omega⟩
  ·rw[if_neg c4];exact⟨_,rfl,iff_of_false (by simp) fun h=>c4 (by have:=(h.2.2.2.1 rfl).1;omega)⟩
 |false=>
  rw[if_neg (by simp)];by_cases c4:C*256≠0
  ·rw[if_pos c4];exact⟨_,rfl,iff_of_true rfl ⟨by omega,by omega,hn',fun h=>by simp at h,fun _=> .inl (by omega)⟩⟩
  ·rw[if_neg c4];refine⟨_,rfl,?_⟩;simp only[decide_eq_true_eq];exact⟨fun h=>⟨by omega,by omega,hn',fun h=>by simp at h,fun _=> .inr (by omega)⟩,fun h=>by have:=(h.2.2.2.2 trivial);omega⟩
theorem Q0i (a b c d:Int):dt2 (a*16) (b*16) (c*16) (d*16)=dt2 a b c d*256/\crs (a*16) (b*16) (c*16) (d*16)=crs a b c d*256:=by
 unfold dt2 crs;constructor<;>grind
theorem Zfl {MC MN MD ME MA MW:Fn} (hA:∀pl:Int,MA [I pl]=some [I (axI pl).1,I (axI pl).2.1,I (axI pl).2.2,B (decide (C2 pl))]) (hW:∀p:Pt,MW [I p.x,I p.y,I p.z]=some [B (decide (bd 1048576 p))])
  {it:Itm} (hE:C2 it.aG->bd 1048576 it.fr->bd 1048576 it.to->bd 1048576 it.ce->ME (Ah it)=some [I (dU it it.fr*16),I (dW it it.fr*16),I 0,I (plH it.aG it.fr*16),I (dU it it.to*16),I (dW it it.to*16),I 0,I (plH it.aG it.to*16)])
  (hD:∀{u w r h x y s g:Int},u.natAbs<=1000000000->w.natAbs<=1000000000->x.natAbs<=1000000000->y.natAbs<=1000000000->MD [I u,I w,I r,I h,I x,I y,I s,I g]=some [I (dt2 u w x y)])
  (hX:∀{u w r h x y s g:Int},u.natAbs<=1000000000->w.natAbs<=1000000000->x.natAbs<=1000000000->y.natAbs<=1000000000->MC [I u,I w,I r,I h,I x,I y,I s,I g]=some [I (crs u w x y)])
  (hN:∀{X Y:Int},(64<=X/\X<=1000000000000000)->(64<=Y/\Y<=1000000000000000)->∃v,MN [I X,I Y]=some [B v]/\(v=true↔HX X Y)):
  ∃v,ZN MC MN MD ME MA MW (Ah it)=some [B v]/\(v=true↔Dg it):=by
 rw[Zhz];simp only[go_sem,hW,hA];by_cases c1:it.kind<1
 ·rw[if_pos c1];exact⟨_,rfl,iff_of_false (by simp) fun h=>by have:=h.1;omega⟩
 rw[if_neg c1];by_cases c1':it.kind>6
 ·rw[if_pos c1'];exact⟨_,rfl,iff_of_false (by simp) fun h=>by have:=h.1;omega⟩
 rw[if_neg c1'];by_cases c2:bd 1048576 it.fr
 case neg=>rw[if_pos (by simpa using c2)];exact⟨_,rfl,iff_of_false (by simp) fun h=>c2 h.2.1⟩
 rw[if_neg (by simpa using c2)];by_cases c3:bd 1048576 it.to
 case neg=>rw[if_pos (by simpa using c3)];exact⟨_,rfl,iff_of_false (by simp) fun h=>c3 h.2.2.1⟩
 rw[if_neg (by simpa using c3)];by_cases c4:it.kind=3
 case neg=>rw[if_pos c4];exact⟨_,rfl,iff_of_true rfl ⟨by omega,c2,c3,fun h=>absurd h c4⟩⟩
 rw[if_neg (by simpa using c4)];by_cases c5:C2 it.aG
 case neg=>rw[if_pos (by simpa using c5)];exact⟨_,rfl,iff_of_false (by simp) fun h=>c5 (h.2.2.2 c4).1⟩
 rw[if_neg (by simpa using c5)];by_cases c7:bd 1048576 it.ce
 case neg=>
  refine⟨false,?_,iff_of_false (by simp) fun h=>c7 (h.2.2.2 c4).2.2.1⟩;split
  ·split
   ·rfl
   ·first|rfl|(rw[if_pos c7])
  ·first|rfl|(rw[if_pos c7])
 by_cases c6:it.dir=1\/it.dir= -1
 case neg=>
  rw[if_pos (c:=it.dir≠1) (by omega),if_pos (c:=it.dir≠-1) (by omega)];exact⟨false,rfl,iff_of_false (by simp) fun h=>c6 (h.2.2.2 c4).2.1⟩
 have hE':=hE c5 c2 c3 c7;obtain⟨b1,b2⟩:=Qhg (it:=it) c7 c2;obtain⟨b3,b4⟩:=Qhg (it:=it) c7 c3;simp only[Ah]at hE';have x1:=Q4r b1 b2;have x2:=Q4r b3 b4;have core:Dg it↔64<=qA it/\64<=qB it/\HX (qA it) (qB it)/\(it.full=true->dU it it.fr=dU it it.to/\dW it it.fr=dW it it.to)/\(it.full=false->cAB it≠0\/dAB it<0):=
  ⟨fun h=>(h.2.2.2 c4).2.2.2,fun h=>⟨by omega,c2,c3,fun _=>⟨c5,c6,c7,h⟩⟩⟩
 rw[core];have x1':0<=qA it/\qA it<=1000000000000000:=⟨x1.1,by unfold qA;omega⟩;have x2':0<=qB it/\qB it<=1000000000000000:=⟨x2.1,by unfold qB;omega⟩;have D1:= @hD (dU it it.fr*16) (dW it it.fr*16) 0 (plH it.aG it.fr*16) (dU it it.fr*16) (dW it it.fr*16) 0 (plH it.aG it.fr*16) (by omega) (by omega) (by omega) (by omega);have D2:= @hD (dU it it.to*16) (dW it it.to*16) 0 (plH it.aG it.to*16) (dU it it.to*16) (dW it it.to*16) 0 (plH it.aG it.to*16) (by omega) (by omega) (by omega) (by omega);have D3:= @hD (dU it it.fr*16) (dW it it.fr*16) 0 (plH it.aG it.fr*16) (dU it it.to*16) (dW it it.to*16) 0 (plH it.aG it.to*16) (by omega) (by omega) (by omega) (by omega);have D4:= @hX (dU it it.fr*16) (dW it it.fr*16) 0 (plH it.aG it.fr*16) (dU it it.to*16) (dW it it.to*16) 0 (plH it.aG it.to*16) (by omega) (by omega) (by omega) (by omega);rw[(Q0i _ _ _ _).1]at D1 D2 D3;rw[(Q0i _ _ _ _).2]at D4;have e1:dt2 (dU it it.fr) (dW it it.fr) (dU it it.fr) (dW it it.fr)=qA it:=rfl;have e2:dt2 (dU it it.to) (dW it it.to) (dU it it.to) (dW it it.to)=qB it:=rfl;have e3:dt2 (dU it it.fr) (dW it it.fr) (dU it it.to) (dW it it.to)=dAB it:=rfl;have e4:crs (dU it it.fr) (dW it it.fr) (dU it it.to) (dW it it.to)=cAB it:=rfl;rw[e1]at D1;rw[e2]at D2;rw[e3]at D3;rw[e4]at D4;have T:= @Zrc MN (qA it) (qB it) (cAB it) (dAB it) (dU it it.fr) (dW it it.fr) (dU it it.to) (dW it it.to) it.full x1' x2' hN;have n7: ¬ ¬bd 1048576 it.ce:=fun h=>h c7;by_cases d1:it.dir=1
 ·rw[if_neg (c:=it.dir≠1) (fun h=>h d1),if_neg n7];simp only[hE',go_sem,D1,D2,D3,D4];exact T
 ·rw[if_pos (c:=it.dir≠1) d1,if_neg (c:=it.dir≠-1) (by omega),if_neg n7];simp only[hE',go_sem,D1,D2,D3,D4];exact T
theorem Qj7 (it:Itm):∃v,GE (Ah it)=some [B v]/\(v=true↔Dg it):=
 Zfl Qfw Z4c (fun h1 h2 h3 h4=>Qzl h1 h2 h3 h4) Zo Qe6 Zh2
end Go.Bm
namespace Go.Bm
def okS (s:Spk):Prop:=s.u.natAbs<=50000000/\s.w.natAbs<=50000000/\(0<=s.r/\s.r<=50000000)/\s.h.natAbs<=16777216
def hf (a b:Int):Int:=(a+b+1)/2
def Do (a b:Spk) (dir:Int) (full:Bool):Int×Int:=
 if full=true then(-a.u,-a.w)
 else if 0<dt2 a.u a.w b.u b.w/\0<crs a.u a.w b.u b.w*dir then(a.u+b.u,a.w+b.w)
 else if 0<dt2 a.u a.w b.u b.w then(-(a.u+b.u),-(a.w+b.w))
 else(dir*(b.w-a.w),dir*(a.u-b.u))
noncomputable def HK (a b:Spk) (u w:Int):Spk:=if u=0/\w=0 then⟨0,0,0,0⟩else⟨BX u (hf a.r b.r) (sq2 u w),BX w (hf a.r b.r) (sq2 u w),hf a.r b.r,hf a.h b.h⟩
noncomputable def Ei (a b:Spk) (dir:Int) (full:Bool):Spk:=HK a b (Do a b dir full).1 (Do a b dir full).2
theorem O5 {a b:Spk} (ha:okS a) (hb:okS b) {dir:Int} (hd:dir=1\/dir= -1) (full:Bool):(Do a b dir full).1.natAbs<=100000000/\(Do a b dir full).2.natAbs<=100000000:=by
 obtain⟨a1,a2,-⟩:=ha;obtain⟨b1,b2,-⟩:=hb;unfold Do;split
 ·exact⟨by simp only;omega,by simp only;omega⟩
 ·split
  ·exact⟨by simp only;omega,by simp only;omega⟩
  ·split
   ·exact⟨by simp only;omega,by simp only;omega⟩
   ·rcases hd with rfl|rfl
    ·exact⟨by simp only;omega,by simp only;omega⟩
    ·exact⟨by simp only;omega,by simp only;omega⟩
theorem Q9j (u w:Int):u*u<=sq2 u w/\w*w<=sq2 u w:=by
 have h1:=Fd u;have h2:=Fd w;unfold sq2;omega
theorem Re {u w:Int} (h: ¬(u=0/\w=0)):0<sq2 u w:=by
 have h1:=Fd u;have h2:=Fd w;have z:∀u:Int,u*u=0->u=0:=fun u hu=>by
  rcases Int.mul_eq_zero.1 hu with h|h<;>exact h
 have h3: ¬(u*u=0/\w*w=0):=fun h4=>h ⟨z _ h4.1,z _ h4.2⟩;unfold sq2;omega
theorem Qs1 {a b:Int} (ha:0<=a/\a<=50000000) (hb:0<=b/\b<=50000000):0<=hf a b/\hf a b<=50000000:=by unfold hf;omega
theorem Zzn {a b:Int} (ha:a.natAbs<=16777216) (hb:b.natAbs<=16777216):(hf a b).natAbs<=16777216:=by unfold hf;omega
theorem Q57 {u w r:Int} (hu:u.natAbs<=100000000) (hw:w.natAbs<=100000000) (hr:0<=r/\r<=50000000) (h: ¬(u=0/\w=0)):
  (True/\(BX u r (sq2 u w)).natAbs<=r.natAbs)/\(True/\(BX w r (sq2 u w)).natAbs<=r.natAbs):=by
 have hp:=Re h;have h1:=DE hu;have h2:=DE hw;have h3:sq2 u w<=20000000000000000:=by unfold sq2;omega
 obtain⟨q1,q2⟩:=Q9j u w;have key:∀x:Int,x.natAbs<=100000000->x*x<=sq2 u w->True/\(BX x r (sq2 u w)).natAbs<=r.natAbs:=by
  intro x hx hq;obtain⟨g1,-,g3⟩:=SV (x:=x) (r:=r) (n:=sq2 u w) (Nat.le_trans hx (by decide)) (by omega) (by omega) hq;refine⟨g1,Wq (by omega) ?_ g3⟩;have:((x.natAbs*x.natAbs:Nat):Int)=x*x:=Int.natAbs_mul_self;omega
 exact⟨key u hu q1,key w hw q2⟩
theorem Ztu {a b:Spk} (ha:okS a) (hb:okS b) {u w:Int} (hu:u.natAbs<=100000000) (hw:w.natAbs<=100000000):okS (HK a b u w):=by
 unfold HK;split
 ·exact⟨by simp,by simp,by simp,by simp⟩
 ·rename_i h;have hr:=Qs1 ha.2.2.1 hb.2.2.1;obtain⟨⟨-,n1⟩,-,n2⟩:=Q57 hu hw hr h;exact⟨by simp only;omega,by simp only;omega,hr,Zzn ha.2.2.2 hb.2.2.2⟩
theorem Q49 {a b:Spk} (ha:okS a) (hb:okS b) {dir:Int} (hd:dir=1\/dir= -1) (full:Bool):okS (Ei a b dir full):=
 Ztu ha hb (O5 ha hb hd full).1 (O5 ha hb hd full).2
theorem G1 {x:Int} (h:x.natAbs<=50000000):x.natAbs<=1000000000:=Nat.le_trans h (by decide)
def Ir (a b:Spk) (dir:Int) (full:Bool):Prop:=full=false/\0<crs a.u a.w b.u b.w*dir/\sq2 (a.u-b.u) (a.w-b.w)<=32*mn a.r b.r-64
instance {a b:Spk} {dir:Int} {full:Bool}:Decidable (Ir a b dir full):=by unfold Ir;infer_instance
noncomputable def DD (dir:Int):Nat->Bool->Spk->Spk->List Spk
 |0,_,_,b=>[b]
 |k+1,full,a,b=>if Ir a b dir full then [b]else DD dir k false a (Ei a b dir full)++DD dir k false (Ei a b dir full) b
theorem Ua {dir:Int}:∀(k:Nat) (full:Bool) (a b:Spk),1<=(DD dir k full a b).length/\(DD dir k full a b).length<=2^k
 |0,_,_,b=>by simp[DD]
 |k+1,full,a,b=>by
  have hp:0<2^k:=Nat.two_pow_pos _;have e3:2^(k+1)=2^k+2^k:=by rw[Nat.pow_succ];omega
  unfold DD;split
  ·simp;omega
  ·have h1:=Ua k false a (Ei a b dir full) (dir:=dir);have h2:=Ua k false (Ei a b dir full) b (dir:=dir);rw[List.length_append];omega
theorem Qaa {dir:Int} (hd:dir=1\/dir= -1):∀(k:Nat) (full:Bool) {a b:Spk},okS a->okS b->∀s∈DD dir k full a b,okS s
 |0,_,a,b,_,hb,s,hs=>by simp[DD]at hs;subst hs;exact hb
 |k+1,full,a,b,ha,hb,s,hs=>by
  unfold DD at hs;have hm:=Q49 ha hb hd full;split at hs
  ·simp at hs;subst hs;exact hb
  ·rcases List.mem_append.1 hs with hs|hs
   ·exact Qaa hd k false ha hm s hs
   ·exact Qaa hd k false hm hb s hs
end Go.Bm
namespace Go.Bm
theorem Zul {n i j:Int} (hi:I9 n i) (hj:I9 n j):i=j:=by
 have key:∀{i j:Int},I9 n i->I9 n j-> ¬i<j:=by
  rintro i j ⟨h1,h2,-⟩ ⟨h4,h5,h6⟩ hlt;rcases h6 with h6|h6
  ·omega
  ·have h7:=Int.mul_le_mul (show i<=j-1 by omega) (show i+1<=j by omega) (by omega) (by omega);omega
 have h1:=key hi hj;have h2:=key hj hi;omega
open Classical in
noncomputable def Fu (n:Int):Int:=if h:∃j,I9 n j then Classical.choose h else 0
theorem RN {n k:Int} (h:I9 n k):Fu n=k:=by
 have hx:∃j,I9 n j:=⟨k,h⟩;unfold Fu;rw[dif_pos hx];exact Zul (Classical.choose_spec hx) h
theorem Ul {n r:Nat} (h1:r*r<=n) (h2:n<(r+1)*(r+1)):I9 n (if r*r+r<n then r+1 else r:Nat):=by
 have e0:(r+1)*(r+1)=r*r+r+r+1:=by grind
 unfold I9;by_cases c:r*r+r<n
 ·rw[if_pos c];have e1:((r+1:Nat):Int)*(((r+1:Nat):Int)+1)=((r*r+r+r+r+2:Nat):Int):=by
   have:((r+1:Nat):Int)+1=((r+2:Nat):Int):=by omega
   rw[this,<-Int.natCast_mul];congr 1
   grind
  have e2:(((r+1:Nat):Int)-1)*((r+1:Nat):Int)=((r*r+r:Nat):Int):=by
   rw[show((r+1:Nat):Int)-1=(r:Int) by omega,<-Int.natCast_mul];congr 1
  rw[e1,e2];generalize r*r=A at*;exact⟨by omega,by omega, .inr (by omega)⟩
 ·rw[if_neg c];have e1:(r:Int)*((r:Int)+1)=((r*r+r:Nat):Int):=by
   rw[show(r:Int)+1=((r+1:Nat):Int) by omega,<-Int.natCast_mul];congr 1
  rw[e1];refine⟨by omega,by omega,?_⟩;rcases Nat.eq_zero_or_pos r with h|h
  ·left;omega
  ·right;have e2:((r:Int)-1)*(r:Int)=(((r-1)*r:Nat):Int):=by
    rw[show(r:Int)-1=((r-1:Nat):Int) by omega];exact(Int.natCast_mul _ _).symm
   have:=Nat.mul_lt_mul_of_pos_right (show r-1<r by omega) h;rw[e2];omega
noncomputable def D9 (it:Itm) (p:Pt):Spk:=⟨dU it p*16,dW it p*16,Fu (sq2 (dU it p*16) (dW it p*16)),plH it.aG p*16⟩
theorem Zcu {n:Nat} (hn:n<=2251799813685248):0<=Fu n/\Fu n<=50000000:=by
 obtain⟨r,-,h2,h3,-⟩:=Tt (n:=n) (by omega);have hm:=Ul h2 h3;rw[RN hm];have:r<50000000:=by
  by_cases c:r<50000000
  ·exact c
  ·have:=Nat.mul_le_mul (show 50000000<=r by omega) (show 50000000<=r by omega);omega
 split<;>omega
theorem Qo {it:Itm} {p:Pt} (hc:bd 1048576 it.ce) (hp:bd 1048576 p):(dU it p*16).natAbs<=33554432/\(dW it p*16).natAbs<=33554432/\0<=sq2 (dU it p*16) (dW it p*16)/\sq2 (dU it p*16) (dW it p*16)<=2251799813685248:=by
 obtain⟨h1,h2⟩:=Qhg hc hp;have h3:(dU it p*16).natAbs<=33554432:=by omega
 have h4:(dW it p*16).natAbs<=33554432:=by omega
 have q1:=DE h3;have q2:=DE h4;refine⟨h3,h4,?_⟩;unfold sq2;omega
theorem SY {it:Itm} {p:Pt} (hc:bd 1048576 it.ce) (hp:bd 1048576 p):okS (D9 it p):=by
 obtain⟨h1,h2,h3,h4⟩:=Qo hc hp;have h5:=(Hz (pl:=it.aG) hp).2.2;obtain⟨n,hn⟩:=Int.eq_ofNat_of_zero_le h3;refine⟨Nat.le_trans h1 (by decide),Nat.le_trans h2 (by decide),?_,?_⟩
 ·show 0<=Fu _/\Fu _<=_;rw[hn]at h4⊢;exact Zcu (by omega)
 ·show(plH it.aG p*16).natAbs<=_;omega
noncomputable def DH (it:Itm):List Spk:=D9 it it.fr::DD it.dir 16 it.full (D9 it it.fr) (D9 it it.to)
theorem Qyj {it:Itm} (h:Dg it) (h3:it.kind=3):∀s∈DH it,okS s:=by
 obtain⟨-,h1,h2,ha⟩:=h;obtain⟨hp,hd,hc,-⟩:=ha h3;intro s hs;rcases List.mem_cons.1 hs with rfl|hs
 ·exact SY hc h1
 ·exact Qaa hd 16 _ (SY hc h1) (SY hc h2) s hs
theorem Q4d (it:Itm):2<=(DH it).length/\(DH it).length<=65537:=by
 have:=Ua (dir:=it.dir) 16 it.full (D9 it it.fr) (D9 it it.to);have e:(2:Nat)^16=65536:=rfl;rw[e]at this;unfold DH;rw[List.length_cons];omega
noncomputable def IF (it:Itm) (s:Spk):Pt:=spP it.aG (plU it.aG (Ay it.ce)+s.u) (plW it.aG (Ay it.ce)+s.w) s.h
noncomputable def CJ (it:Itm):List Pt:=if it.kind=3 then(DH it).map (IF it)else [Ay it.fr,Ay it.to]
theorem Q28 {pl u w h:Int} {b:Nat} (hu:u.natAbs<=b) (hw:w.natAbs<=b) (hh:h.natAbs<=b):bd b (spP pl u w h):=by
 unfold spP bd;split
 ·exact⟨hu,hw,hh⟩
 ·split
  ·exact⟨hw,hh,hu⟩
  ·exact⟨hh,hu,hw⟩
theorem Zyj {it:Itm} {s:Spk} (hc:bd 1048576 it.ce) (hs:okS s):bd 67108864 (IF it s):=by
 obtain⟨h1,h2,-⟩:=Hz (pl:=it.aG) (E0 hc);obtain⟨s1,s2,-,s4⟩:=hs;exact Q28 (by omega) (by omega) (by omega)
theorem Qlz {it:Itm} (h:Dg it):∀p∈CJ it,bd 67108864 p:=by
 intro p hp;unfold CJ at hp;split at hp
 ·rename_i h3;simp only[List.mem_map]at hp;obtain⟨s,hs,rfl⟩:=hp;exact Zyj (h.2.2.2 h3).2.2.1 (Qyj h h3 s hs)
 ·simp at hp;rcases hp with rfl|rfl
  ·exact A0 (E0 h.2.1) (by decide)
  ·exact A0 (E0 h.2.2.1) (by decide)
theorem Q85 (it:Itm):2<=(CJ it).length/\(CJ it).length<=65537:=by
 have:=Q4d it;unfold CJ;split<;>simp<;>omega
end Go.Bm
namespace Go.Bm
def HE (t:Itm) (speed:Int):Int:=if t.kind=1 then 0 else mx (A5 (mn (if t.perRev=true then t.feed*mx speed 1 else t.feed) 60000000*4096) 60000) 1
theorem Zhm {f s:Int} (hf:0<=f/\f<=60000000) (hs:0<=s/\s<=30000):0<=f*mx s 1/\f*mx s 1<=1800000000000:=by
 have h1:1<=mx s 1/\mx s 1<=30000:=by unfold mx;split<;>omega
 generalize mx s 1=m at*;have h2:=Int.mul_le_mul hf.2 h1.2 (by omega) (by omega);have h3:=Int.mul_nonneg hf.1 (show 0<=m by omega);omega
theorem Qvm {x:Int} (h:0<=x):0<=mn x 60000000/\mn x 60000000<=60000000:=by unfold mn;split<;>omega
theorem Zsa {M:Fn} {t:Itm} {speed:Int} (hf:0<=t.feed/\t.feed<=60000000) (hs:0<=speed/\speed<=30000)
  (hM:∀a:Int,0<=a/\a<=60000000->M [I a,I 4096,I 60000,I 2]=some [I (A5 (a*4096) 60000),B true]):Wp M (Ah t++[I speed])=some [I (HE t speed)]:=by
 have h1:=Zhm hf hs;have h2:=hM _ (Qvm h1.1);have h3:=hM _ (Qvm hf.1);have h4:wrap .i64 (t.feed*mx speed 1)=t.feed*mx speed 1:=Ae (by omega);simp only[Ah,List.cons_append,List.nil_append];rw[Q9b,h4];simp only[go_sem,h2,h3];unfold HE;by_cases g1:t.kind=1
 ·rw[if_pos g1,if_pos g1]
 ·rw[if_neg g1,if_neg g1];by_cases g2:t.perRev=true
  ·rw[if_pos g2,if_pos g2]
  ·rw[if_neg g2,if_neg g2]
theorem Z6p {t:Itm} {speed:Int} (hf:0<=t.feed/\t.feed<=60000000) (hs:0<=speed/\speed<=30000):JK (Ah t++[I speed])=some [I (HE t speed)]:=
 Zsa hf hs fun a ha=>R6 (by unfold i64;omega) (by unfold i64;omega) (by omega) (by have:a.natAbs*(4096:Int).natAbs<=60000000*4096:=Nat.mul_le_mul (by omega) (by omega);omega)
end Go.Bm
namespace Go.Bm
def it0:Itm:=⟨0,0,⟨0,0,0⟩,⟨0,0,0⟩,0,⟨0,0,0⟩,0,false,0,false,0,0,0,0,0,false⟩
def itA (aA:List Itm) (i:Nat):Itm:=aA.getD i it0
theorem QC {aA:List Itm} {i:Nat} (h:i<aA.length):itA aA i=aA[i]:=by unfold itA;simp[h]
theorem Q00 {aA:List Itm} {i:Nat} (h:i<aA.length):itA aA i∈aA:=by rw[QC h];exact List.getElem_mem h
theorem EW {aA:List Itm} {i:Nat} (h:i<aA.length):nth [] (aA.map Ah) i=Ah (itA aA i):=by rw[QC h];exact I5 _ _ _ _ h
theorem Qli {aA:List Itm} {i:Nat} (h:i<aA.length):aA.drop i=itA aA i::aA.drop (i+1):=by rw[QC h];exact J5 _ _ h
def AG (it:Itm):Prop:=1<=it.kind/\it.kind<=6
def smI (it:Itm):Prop:=it.kind=2/\it.fr≠it.to
def syI (it:Itm):Prop:=it.kind=5\/it.kind=6
instance (it:Itm):Decidable (AG it):=by unfold AG;infer_instance
instance (it:Itm):Decidable (smI it):=by unfold smI;infer_instance
instance (it:Itm):Decidable (syI it):=by unfold syI;infer_instance
def Ba (it:Itm):Pt:=⟨(it.fr.x+it.to.x)*8,(it.fr.y+it.to.y)*8,(it.fr.z+it.to.z)*8⟩
theorem LA {it:Itm} (h1:bd 1048576 it.fr) (h2:bd 1048576 it.to):bd B24 (Ba it):=by
 unfold bd B24 Ba at*;simp only;omega
def Gk:List Itm->Nat->Int
 |[],_=> -1
 |it::l,k=>if it.kind=10 then Gk l (k+1)else if smI it then k else-1
def B6 (aA:List Itm) (i:Nat):Int:=if smI (itA aA i)/\(itA aA i).blend≠0 then Gk (aA.drop (i+1)) (i+1)else-1
theorem Qro:∀(l:List Itm) (k:Nat),Gk l k= -1\/∃j:Nat,Gk l k=((k+j:Nat):Int)/\∃h:j<l.length,smI l[j]/\∀i (hi:i<l.length),i<j->l[i].kind=10
 |[],_=> .inl rfl
 |it::l,k=>by
  unfold Gk;split
  ·rename_i h10;rcases Qro l (k+1)with h|⟨j,h1,h2,h3,h4⟩
   ·exact .inl h
   ·refine .inr ⟨j+1,by rw[h1];omega,by simp;omega,by simpa using h3,?_⟩;intro i hi hij;cases i with
    |zero=>simpa using h10
    |succ i=>simpa using h4 i (by simpa using hi) (by omega)
  ·split
   ·rename_i hs;exact .inr ⟨0,by simp,by simp,by simpa using hs,fun i _ hi=>by omega⟩
   ·exact .inl rfl
theorem Qc4 (aA:List Itm) (i:Nat):B6 aA i= -1\/(smI (itA aA i)/\(itA aA i).blend≠0/\∃k:Nat,B6 aA i=k/\i<k/\k<aA.length/\smI (itA aA k)/\∀j,i<j->j<k->(itA aA j).kind=10):=by
 unfold B6;split
 ·rename_i h;rcases Qro (aA.drop (i+1)) (i+1)with h1|⟨j,h1,h2,h3,h4⟩
  ·exact .inl h1
  ·have h5:i+1+j<aA.length:=by rw[List.length_drop]at h2;omega
   refine .inr ⟨h.1,h.2,i+1+j,h1,by omega,h5,?_,?_⟩
   ·rw[QC h5];rw[List.getElem_drop]at h3;exact h3
   ·intro m hm1 hm2;have:=h4 (m-(i+1)) (by omega) (by omega);rw[List.getElem_drop]at this;rw[QC (by omega)];have e:i+1+(m-(i+1))=m:=by omega
    simp only[e]at this;exact this
 ·exact .inl rfl
def Th (it:Itm):Int:=if it.kind=10 then 5 else if it.kind=13 then 4 else 3
def HJ:List Itm->Int
 |[]=>2
 |it::l=>if AG it then(if syI it then 1 else 2)else HJ l
def Tr (aA:List Itm) (i:Nat):Int:=if(itA aA i).kind=4 then 6 else if(itA aA i).blend=0 then 1 else if syI (itA aA i)then 1 else HJ (aA.drop (i+1))
noncomputable def Hq (aA:List Itm) (i k:Nat):List Pt:=FI (Ba (itA aA i)) (Ay (itA aA i).to) (Ba (itA aA k)) ((itA aA i).blend*16)
def drawn (it:Itm):Prop:=Dg it/\0<=it.blend/\it.blend<=1000
theorem Ld {aA:List Itm} {i k:Nat} (h1:drawn (itA aA i)) (h2:drawn (itA aA k)):(∀p∈Hq aA i k,bd B24 p)/\1<=(Hq aA i k).length/\(Hq aA i k).length<=65:=
 Qzq (LA h1.1.2.1 h1.1.2.2.1) (E0 h1.1.2.2.1) (LA h2.1.2.1 h2.1.2.2.1)
noncomputable def IY (aA:List Itm) (i:Nat) (frm:Int):List Pt:=if 0<=frm then(Hq aA frm.toNat i).drop ((Hq aA frm.toNat i).length/2)else(CJ (itA aA i)).take 1
noncomputable def Lv (aA:List Itm) (i:Nat):List Pt:=if 0<=B6 aA i then(Hq aA i (B6 aA i).toNat).take ((Hq aA i (B6 aA i).toNat).length/2+1)else(CJ (itA aA i)).drop 1
noncomputable def Cp (aA:List Itm) (i:Nat) (frm:Int):List Pt:=if smI (itA aA i)then IY aA i frm++[Ba (itA aA i)]++Lv aA i else CJ (itA aA i)
def LD (aA:List Itm) (i:Nat) (frm:Int):Prop:=frm= -1\/∃f:Nat,frm=f/\f<aA.length/\drawn (itA aA f)
theorem Zfb {aA:List Itm} {i:Nat} {frm:Int} (hd:drawn (itA aA i)) (hf:LD aA i frm):(∀p∈IY aA i frm,bd 67108864 p)/\(IY aA i frm).length<=65:=by
 unfold IY;rcases hf with rfl|⟨f,rfl,hf1,hf2⟩
 ·rw[if_neg (by omega)];exact⟨fun p hp=>Qlz hd.1 p (List.mem_of_mem_take hp),by rw[List.length_take];omega⟩
 ·rw[if_pos (by omega)];obtain⟨h1,h2,h3⟩:=Ld (aA:=aA) (i:=(f:Int).toNat) (k:=i) (by simpa using hf2) hd;exact⟨fun p hp=>A0 (h1 p (List.mem_of_mem_drop hp)) (by decide),by rw[List.length_drop];omega⟩
theorem SD {aA:List Itm} {i:Nat} (hall:∀k<aA.length,AG (itA aA k)->drawn (itA aA k)) (hs:0<=B6 aA i):∃k:Nat,B6 aA i=k/\k<aA.length/\drawn (itA aA k):=by
 rcases Qc4 aA i with h|⟨-,-,k,h1,-,h2,h3,-⟩
 ·omega
 ·exact⟨k,h1,h2,hall k h2 ⟨by have:=h3.1;omega,by have:=h3.1;omega⟩⟩
theorem Zn9 {aA:List Itm} {i:Nat} (hd:drawn (itA aA i)) (h2:(itA aA i).kind≠3) (hall:∀k<aA.length,AG (itA aA k)->drawn (itA aA k)):(∀p∈Lv aA i,bd 67108864 p)/\(Lv aA i).length<=66:=by
 unfold Lv;by_cases h:0<=B6 aA i
 ·rw[if_pos h];obtain⟨k,hk,hk1,hk2⟩:=SD hall h;obtain⟨h1,h2,h3⟩:=Ld (aA:=aA) (i:=i) (k:=(B6 aA i).toNat) hd (by rw[hk];simpa using hk2);exact⟨fun p hp=>A0 (h1 p (List.mem_of_mem_take hp)) (by decide),by rw[List.length_take];omega⟩
 ·rw[if_neg h];refine⟨fun p hp=>Qlz hd.1 p (List.mem_of_mem_drop hp),?_⟩;unfold CJ;rw[if_neg h2];simp
theorem Qh9 {aA:List Itm} {i:Nat} {frm:Int} (hd:drawn (itA aA i)) (hf:LD aA i frm) (hall:∀k<aA.length,AG (itA aA k)->drawn (itA aA k)):
  (∀p∈Cp aA i frm,bd 67108864 p)/\(Cp aA i frm).length<=65537:=by
 unfold Cp;by_cases hs:smI (itA aA i)
 ·rw[if_pos hs];obtain⟨h1,h2⟩:=Zfb hd hf;obtain⟨h3,h4⟩:=Zn9 hd (by have:=hs.1;omega) hall;refine⟨fun p hp=> ?_,by rw[List.length_append,List.length_append];simp;omega⟩;rcases List.mem_append.1 hp with hp|hp
  ·rcases List.mem_append.1 hp with hp|hp
   ·exact h1 p hp
   ·simp at hp;subst hp;exact A0 (LA hd.1.2.1 hd.1.2.2.1) (by decide)
  ·exact h3 p hp
 ·rw[if_neg hs];exact⟨Qlz hd.1,(Q85 _).2⟩
theorem Zah (l:List Pt):List.drop (Int.toNat 1) (l.map ptR)=(l.drop 1).map ptR:=by rw[show Int.toNat 1=1 from rfl,List.map_drop]
theorem Rv (l:List Pt):List.take (Int.toNat 1) (l.map ptR)=(l.take 1).map ptR:=by rw[show Int.toNat 1=1 from rfl,List.map_take]
end Go.Bm
namespace Go.Bm
open Classical
def B8 (it:Itm):Prop:=it.kind<1\/it.kind>14\/(AG it/\(¬Dg it\/(it.kind≠1/\(it.feed<1\/it.feed>60000000))\/it.blend<0\/it.blend>1000))\/(¬AG it/\it.kind=8/\(it.n<3\/it.n>5\/it.speed<0\/it.speed>30000))
noncomputable def Gm (aA:List Itm):Nat->Nat->Int->Int
 |0,_,_=>0
 |k+1,i,last=>if B8 (itA aA i)then 1 else if AG (itA aA i)then(if 0<=last/\(itA aA last.toNat).to≠(itA aA i).fr then 13 else Gm aA k (i+1) i)else Gm aA k (i+1) last
noncomputable def Db (aA:List Itm):Int:=if aA.length>20000 then 10 else Gm aA aA.length 0 (-1)
theorem Qid {aA:List Itm}:∀(k i:Nat) (last:Int),i+k=aA.length->Gm aA k i last=0->∀j,i<=j->j<aA.length-> ¬B8 (itA aA j)
 |0,i,last,hi,_,j,h1,h2=>by omega
 |k+1,i,last,hi,h,j,h1,h2=>by
  unfold Gm at h;split at h
  ·omega
  ·rename_i c;by_cases hij:j=i
   ·subst hij;exact c
   ·split at h
    ·split at h
     ·omega
     ·exact Qid k (i+1) _ (by omega) h j (by omega) h2
    ·exact Qid k (i+1) _ (by omega) h j (by omega) h2
theorem QQ {aA:List Itm} (h:Db aA=0):aA.length<=20000/\∀j,j<aA.length-> ¬B8 (itA aA j):=by
 unfold Db at h;split at h
 ·omega
 ·exact⟨by omega,fun j hj=>Qid _ 0 _ (by omega) h j (by omega) hj⟩
theorem KG {it:Itm} (h: ¬B8 it) (hm:AG it):drawn it/\(it.kind=1\/1<=it.feed/\it.feed<=60000000):=by
 unfold B8 at h;have hv:Dg it:=by
  by_cases c:Dg it
  ·exact c
  ·exact absurd (.inr (.inr (.inl ⟨hm, .inl c⟩))) h
 have h2: ¬((it.kind≠1/\(it.feed<1\/it.feed>60000000))\/it.blend<0\/it.blend>1000):=fun c=>h (.inr (.inr (.inl ⟨hm, .inr c⟩)));exact⟨⟨hv,by omega,by omega⟩,by omega⟩
theorem Zo8 {it:Itm} (h: ¬B8 it) (h8:it.kind=8):0<=it.speed/\it.speed<=30000:=by
 unfold B8 at h;have hm: ¬AG it:=fun c=>by have:=c.2;omega
 have h2: ¬(it.n<3\/it.n>5\/it.speed<0\/it.speed>30000):=fun c=>h (.inr (.inr (.inr ⟨hm,h8,c⟩)));omega
noncomputable def Bb (item feed lead:Int) (s:List Sgm×Int×Pt) (q:Pt):List Sgm×Int×Pt:=if q=s.2.2 then s else(s.1++[⟨q,AB s.2.2 q,item,feed,lead⟩],s.2.1+AB s.2.2 q,q)
theorem RZ {item feed lead:Int}:∀(pts:List Pt) (s:List Sgm×Int×Pt),(∀p∈pts,bd 67108864 p)->bd 67108864 s.2.2->0<=s.2.1->
  (pts.foldl (Bb item feed lead) s).1.length<=s.1.length+pts.length/\s.2.1<=(pts.foldl (Bb item feed lead) s).2.1/\(pts.foldl (Bb item feed lead) s).2.1<=s.2.1+pts.length*268435456/\bd 67108864 (pts.foldl (Bb item feed lead) s).2.2
 |[],s,_,h2,h3=>⟨by simp,by simp,by simp,h2⟩
 |q::pts,s,h1,h2,h3=>by
  rw[List.foldl_cons];have hq:=h1 q (by simp);have hl:=HR h2 hq;have hs:Bb item feed lead s q=s\/Bb item feed lead s q=(s.1++[⟨q,AB s.2.2 q,item,feed,lead⟩],s.2.1+AB s.2.2 q,q):=by unfold Bb;split<;>simp
  rcases hs with hs|hs
  ·rw[hs];obtain⟨a,b,c,d⟩:=RZ pts s (fun p hp=>h1 p (by simp[hp])) h2 h3 (item:=item) (feed:=feed) (lead:=lead);exact⟨by simp;omega,b,by simp;omega,d⟩
  ·rw[hs];obtain⟨a,b,c,d⟩:=RZ pts (s.1++[⟨q,AB s.2.2 q,item,feed,lead⟩],s.2.1+AB s.2.2 q,q) (fun p hp=>h1 p (by simp[hp])) hq (by simp only;omega) (item:=item) (feed:=feed) (lead:=lead);simp only[List.length_append,List.length_cons,List.length_nil]at a b c;exact⟨by simp;omega,by omega,by simp;omega,d⟩
structure BSt where
 aF:List Sgm
 aD:List Mrk
 (len speed frm:Int)
 begun:Bool
 (start at_:Pt)
def Ms (it:Itm):Int:=if syI it then mn (it.feed*16) 16777216 else 0
def P3 (it:Itm) (s:Int):Int:=if it.kind=8/\(it.n=3\/it.n=4)then it.speed else s
noncomputable def Fw (aA:List Itm) (i:Nat) (s:BSt):List Sgm×Int×Pt:=
 (Cp aA i s.frm).foldl (Bb i (HE (itA aA i) s.speed) (Ms (itA aA i))) (s.aF,s.len,if s.begun=true then s.at_ else Ay (itA aA i).fr)
noncomputable def Fy (aA:List Itm) (i:Nat) (s:BSt):BSt:=
 if AG (itA aA i)then
  ⟨(Fw aA i s).1,s.aD++[⟨(Fw aA i s).2.1,Tr aA i,i⟩],(Fw aA i s).2.1,s.speed,if 0<=B6 aA i then i else-1,true,if s.begun=true then s.start else Ay (itA aA i).fr,(Fw aA i s).2.2⟩
 else⟨s.aF,s.aD++[⟨s.len,Th (itA aA i),i⟩],s.len,P3 (itA aA i) s.speed,s.frm,s.begun,s.start,s.at_⟩
noncomputable def Aw (aA:List Itm):Nat->BSt
 |0=>⟨[],[],0,0,-1,false,⟨0,0,0⟩,⟨0,0,0⟩⟩
 |i+1=>Fy aA i (Aw aA i)
structure BOK (aA : List Itm) (i : Nat) (s : BSt) : Prop where
 aF:s.aF.length<=i*65537
 aD:s.aD.length=i
 len:0<=s.len/\s.len<=i*65537*268435456
 speed:0<=s.speed/\s.speed<=30000
 frm:LD aA i s.frm
 at_:s.begun=true->bd 67108864 s.at_
theorem Q6m {aA:List Itm} {i:Nat} {s:BSt} (hi:i<aA.length) (hright:∀j<aA.length,¬B8 (itA aA j)) (h:BOK aA i s):BOK aA (i+1) (Fy aA i s):=by
 have hall:∀k<aA.length,AG (itA aA k)->drawn (itA aA k):=fun k hk hm=>(KG (hright k hk) hm).1;unfold Fy;by_cases hm:AG (itA aA i)
 ·rw[if_pos hm];have hd:=hall i hi hm;obtain⟨p1,p2⟩:=Qh9 hd h.frm hall;have ha:bd 67108864 (if s.begun=true then s.at_ else Ay (itA aA i).fr):=by
   by_cases hb:s.begun=true
   ·rw[if_pos hb];exact h.at_ hb
   ·rw[if_neg hb];exact A0 (E0 hd.1.2.1) (by decide)
  obtain⟨a1,a2,a3,a4⟩:=RZ (item:=i) (feed:=HE (itA aA i) s.speed) (lead:=Ms (itA aA i)) (Cp aA i s.frm) (s.aF,s.len,if s.begun=true then s.at_ else Ay (itA aA i).fr) p1 ha h.len.1;have h1:=h.aF;have h2:=h.len;have e1:(i+1)*65537=i*65537+65537:=by rw[Nat.succ_mul]
  refine⟨?_,?_,?_,h.speed,?_,fun _=>a4⟩
  ·simp only at a1;show(Fw aA i s).1.length<=_;unfold Fw;omega
  ·show(s.aD++[_]).length=_;rw[List.length_append,h.aD];rfl
  ·show 0<=(Fw aA i s).2.1/\(Fw aA i s).2.1<=_;unfold Fw;simp only at a2 a3;have e2:(((i+1:Nat):Int))*65537*268435456=(i:Int)*65537*268435456+65537*268435456:=by
    rw[Int.natCast_add,Int.natCast_one,Int.add_mul,Int.add_mul];rfl
   constructor
   ·omega
   ·rw[e2];omega
  ·show LD aA (i+1) (if 0<=B6 aA i then(i:Int)else-1);split
   ·exact .inr ⟨i,rfl,hi,hd⟩
   ·exact .inl rfl
 ·rw[if_neg hm];have h2:=h.len;have h3:=h.aF;have e1:(i+1)*65537=i*65537+65537:=by rw[Nat.succ_mul]
  refine⟨by show s.aF.length<=_;rw[e1];exact Nat.le_trans h3 (Nat.le_add_right _ _),?_,?_,?_,h.frm,h.at_⟩
  ·show(s.aD++[_]).length=_;rw[List.length_append,h.aD];rfl
  ·have e2:(((i+1:Nat):Int))*65537*268435456=(i:Int)*65537*268435456+65537*268435456:=by
    rw[Int.natCast_add,Int.natCast_one,Int.add_mul,Int.add_mul];rfl
   show 0<=s.len/\s.len<=_;rw[e2];omega
  ·show 0<=P3 (itA aA i) s.speed/\P3 (itA aA i) s.speed<=30000;unfold P3;split
   ·rename_i h8;exact Zo8 (hright i hi) h8.1
   ·exact h.speed
theorem Zq7 (aA:List Itm):BOK aA 0 ⟨[],[],0,0,-1,false,⟨0,0,0⟩,⟨0,0,0⟩⟩:=by
 refine⟨Nat.zero_le _,List.length_nil,⟨Int.le_refl _,?_⟩,⟨Int.le_refl _,?_⟩, .inl rfl,fun h=>by cases h⟩
 ·show(0:Int)<=((0:Nat):Int)*65537*268435456;rw[show((0:Nat):Int)=0 from rfl,Int.zero_mul,Int.zero_mul];exact Int.le_refl _
 ·show(0:Int)<=30000;omega
theorem NK {aA:List Itm} (hright:∀j<aA.length,¬B8 (itA aA j)):∀i,i<=aA.length->BOK aA i (Aw aA i)
 |0,_=>by rw[Aw];exact Zq7 aA
 |i+1,hi=>by rw[Aw];exact Q6m (by omega) hright (NK hright i (by omega))
end Go.Bm
namespace Go.Bm
open Classical
end Go.Bm
namespace Go.Bm
open Classical
noncomputable def A6 (aA:List Itm):Pth:=⟨(Aw aA aA.length).start,(Aw aA aA.length).aF,(Aw aA aA.length).aD⟩
end Go.Bm
namespace Go.Bm
open Classical
def EX:Pt->List Sgm->Pt
 |a,[]=>a
 |_,g::l=>EX g.to l
abbrev B26:Nat:=67108864
def NS:Pt->List Sgm->Prop
 |_,[]=>True
 |a,g::l=>g.len=AB a g.to/\g.to≠a/\bd B26 g.to/\NS g.to l
def AX:List Sgm->Int
 |[]=>0
 |g::l=>g.len+AX l
theorem SF (g:Sgm):∀(a:Pt) (l:List Sgm),EX a (l++[g])=g.to
 |_,[]=>rfl
 |_,h::l=>by simp only[List.cons_append,EX];exact SF g h.to l
theorem Q1g {g:Sgm}:∀{a:Pt} {l:List Sgm},NS a l->g.len=AB (EX a l) g.to->g.to≠EX a l->bd B26 g.to->NS a (l++[g])
 |a,[],_,h1,h2,h3=>⟨h1,h2,h3,trivial⟩
 |a,k::l,h,h1,h2,h3=>⟨h.1,h.2.1,h.2.2.1,Q1g h.2.2.2 h1 h2 h3⟩
theorem Vf (g:Sgm):∀(l:List Sgm),AX (l++[g])=AX l+g.len
 |[]=>by simp[AX]
 |k::l=>by simp only[List.cons_append,AX];rw[Vf g l];omega
def WM (start:Pt) (s:List Sgm×Int×Pt):Prop:=NS start s.1/\EX start s.1=s.2.2/\AX s.1=s.2.1
theorem Qnp {start:Pt} {item feed lead:Int}:∀(pts:List Pt) (s:List Sgm×Int×Pt),(∀p∈pts,bd B26 p)->WM start s->WM start (pts.foldl (Bb item feed lead) s)
 |[],s,_,h=>h
 |q::pts,s,hp,h=>by
  rw[List.foldl_cons];refine Qnp pts _ (fun p hp'=>hp p (by simp[hp'])) ?_;unfold Bb;by_cases c:q=s.2.2
  ·rw[if_pos c];exact h
  ·rw[if_neg c];obtain⟨h1,h2,h3⟩:=h;refine⟨Q1g h1 (by rw[h2]) (by rw[h2];exact c) (hp q (by simp)),SF _ _ _,?_⟩;simp only[Vf,h3]
structure BInv (s : BSt) : Prop where
 begun:s.begun=true->bd B26 s.start/\WM s.start (s.aF,s.len,s.at_)
 empty:s.begun=false->s.aF=[]/\s.len=0/\s.start=⟨0,0,0⟩
theorem Z1r {aA:List Itm} {i:Nat} {s:BSt} (hi:i<aA.length) (hright:∀j<aA.length,¬B8 (itA aA j)) (hok:BOK aA i s) (h:BInv s):BInv (Fy aA i s):=by
 have hall:∀k<aA.length,AG (itA aA k)->drawn (itA aA k):=fun k hk hm=>(KG (hright k hk) hm).1;unfold Fy;by_cases hm:AG (itA aA i)
 ·rw[if_pos hm];have hd:=hall i hi hm;obtain⟨p1,-⟩:=Qh9 hd hok.frm hall;refine⟨fun _=> ?_,fun hb=>(by cases hb)⟩;unfold Fw;by_cases hb:s.begun=true
  ·rw[if_pos hb,if_pos hb];obtain⟨g1,g2⟩:=h.begun hb;exact⟨g1,Qnp _ _ p1 g2⟩
  ·rw[if_neg hb,if_neg hb];obtain⟨g1,g2,g3⟩:=h.empty (by simpa using hb);refine⟨A0 (E0 hd.1.2.1) (by decide),Qnp _ _ p1 ?_⟩;rw[g1,g2];exact⟨trivial,rfl,rfl⟩
 ·rw[if_neg hm];exact⟨h.begun,h.empty⟩
theorem TT {aA:List Itm} (hright:∀j<aA.length,¬B8 (itA aA j)):∀i,i<=aA.length->BInv (Aw aA i)
 |0,_=>by rw[Aw];exact⟨fun h=>(by cases h),fun _=>⟨rfl,rfl,rfl⟩⟩
 |i+1,hi=>by rw[Aw];exact Z1r (by omega) hright (NK hright i (by omega)) (TT hright i (by omega))
structure GoodPath (p : Pth) : Prop where
 start:bd B26 p.start
 aF:NS p.start p.aF
 count:p.aF.length<=983055
theorem Qzm {aA:List Itm} (hlen:aA.length<=15) (hc:Db aA=0):GoodPath (A6 aA):=by
 have hright:=(QQ hc).2;have h1:=NK hright aA.length (Nat.le_refl _);have h2:=TT hright aA.length (Nat.le_refl _);have hs:=h1.aF;unfold A6;by_cases hb:(Aw aA aA.length).begun=true
 ·obtain⟨g1,g2,-⟩:=h2.begun hb;exact⟨g1,g2,by simp only;omega⟩
 ·obtain⟨g1,-,g3⟩:=h2.empty (by simpa using hb);refine⟨?_,?_,?_⟩
  ·simp only[g3];unfold bd;simp
  ·simp only[g1];trivial
  ·simp only[g1];simp
theorem Qst {a b:Pt} (ha:bd B26 a) (hb:bd B26 b) (h:b≠a):1<=AB a b/\AB a b<=268435456:=by
 obtain⟨-,h1,h2,-⟩:=XL ha hb;have h3:sqD a b≠0:=fun e=>h (Qhw.1 e).symm;have h4:=PF a b;have h5:=HR ha hb;refine⟨?_,h5.2⟩;by_cases c:AB a b=0
 ·rw[c]at h2;omega
 ·omega
theorem Wv {a:Pt} {l:List Sgm} (ha:bd B26 a) (h:NS a l):∀g∈l,1<=g.len/\g.len<=268435456/\bd B26 g.to:=by
 induction l generalizing a with
 |nil=>simp
 |cons k l ih=>
  obtain⟨h1,h2,h3,h4⟩:=h;intro g hg;rcases List.mem_cons.1 hg with rfl|hg
  ·rw[h1];exact⟨(Qst ha h3 h2).1,(Qst ha h3 h2).2,h3⟩
  ·exact ih h3 h4 g hg
theorem Wy {l:List Sgm} (h:∀g∈l,1<=g.len/\g.len<=268435456/\bd B26 g.to):(l.length:Int)<=AX l/\AX l<=l.length*268435456:=by
 induction l with
 |nil=>simp[AX]
 |cons k l ih=>
  have:=ih fun g hg=>h g (by simp[hg]);have:=h k (by simp);simp only[AX,List.length_cons];omega
end Go.Bm
namespace Go.Bm
open Classical
def Nt (a:Pt) (g:Sgm) (d:Int):Pt:=⟨a.x+A5 ((g.to.x-a.x)*d) g.len,a.y+A5 ((g.to.y-a.y)*d) g.len,a.z+A5 ((g.to.z-a.z)*d) g.len⟩
def atL:Pt->List Sgm->Int->Pt
 |a,[],_=>a
 |a,g::l,s=>if s<g.len then Nt a g s else atL g.to l (s-g.len)
def atP (p:Pth) (s:Int):Pt:=atL p.start p.aF (max s 0)
def AL:List Sgm->Int->Nat×Int
 |[],s=>(0,s)
 |[g],s=>if s<g.len then(0,s)else(0,g.len)
 |g::h::l,s=>if s<g.len then(0,s)else((AL (h::l) (s-g.len)).1+1,(AL (h::l) (s-g.len)).2)
def Eb (a:Pt) (l:List Sgm) (i:Nat):Pt:=EX a (l.take i)
def sg0:Sgm:=⟨⟨0,0,0⟩,0,0,0,0⟩
def sgA (l:List Sgm) (i:Nat):Sgm:=l.getD i sg0
theorem J9 {l:List Sgm} {i:Nat} (h:i<l.length):sgA l i=l[i]:=by unfold sgA;simp[h]
theorem HL {l:List Sgm} {i:Nat} (h:i<l.length):nth [] (l.map Au) i=Au (sgA l i):=by rw[J9 h];exact I5 _ _ _ _ h
theorem FE {l:List Sgm} {i:Nat} (h:i<l.length):sgA l i∈l:=by rw[J9 h];exact List.getElem_mem h
theorem Jq (a:Pt) (l:List Sgm):Eb a l 0=a:=by unfold Eb;simp[EX]
theorem Qmj (a:Pt) (g:Sgm) (l:List Sgm) (i:Nat):Eb a (g::l) (i+1)=Eb g.to l i:=by unfold Eb;rw[List.take_succ_cons];rfl
theorem ZA (g:Sgm) (l:List Sgm) (i:Nat):sgA (g::l) (i+1)=sgA l i:=by unfold sgA;simp
theorem QA:∀{l:List Sgm} {i:Nat} {a:Pt},i<l.length->Eb a l (i+1)=(sgA l i).to
 |g::l,0,a,_=>by rw[Qmj,Jq];rfl
 |g::l,i+1,a,h=>by rw[Qmj,ZA];exact QA (by simpa using h)
theorem WW {x n:Int} (hn:0<n):A5 (x*n) n=x:=T6 hn
theorem Zgh {a:Pt} {g:Sgm} (h:0<g.len):Nt a g g.len=g.to:=by
 unfold Nt;rw[WW h,WW h,WW h];rw[DS];exact⟨by simp only;omega,by simp only;omega,by simp only;omega⟩
theorem TO:∀{l:List Sgm} {a:Pt} {s:Int},l≠[]->(∀g∈l,1<=g.len)->0<=s->
  (AL l s).1<l.length/\0<=(AL l s).2/\(AL l s).2<=(sgA l (AL l s).1).len/\atL a l s=Nt (Eb a l (AL l s).1) (sgA l (AL l s).1) (AL l s).2
 |[],_,_,h,_,_=>absurd rfl h
 |[g],a,s,_,hg,hs=>by
  have h1:=hg g (by simp);unfold AL;by_cases c:s<g.len
  ·rw[if_pos c];refine⟨by simp,hs,by show s<=g.len;omega,?_⟩;unfold atL;rw[if_pos c,Jq];rfl
  ·rw[if_neg c];refine⟨by simp,by simp only;omega,Int.le_refl _,?_⟩;unfold atL;rw[if_neg c,Jq];show atL g.to [] _=Nt a g g.len;rw[Zgh (by omega)];rfl
 |g::h::l,a,s,_,hg,hs=>by
  have h1:=hg g (by simp);unfold AL;by_cases c:s<g.len
  ·rw[if_pos c];refine⟨by simp,hs,by show s<=g.len;omega,?_⟩;unfold atL;rw[if_pos c,Jq];rfl
  ·rw[if_neg c];obtain⟨k1,k2,k3,k4⟩:=TO (l:=h::l) (a:=g.to) (s:=s-g.len) (by simp) (fun k hk=>hg k (by simp at hk⊢;exact .inr hk)) (by omega);refine⟨by simp at k1⊢;omega,k2,?_,?_⟩
   ·simp only[ZA];exact k3
   ·rw[show atL a (g::h::l) s=atL g.to (h::l) (s-g.len)from by rw[atL,if_neg c]];simp only[Qmj,ZA];exact k4
theorem Qdr {x n:Int} {A:Nat} (hn:0<n) (h: -(A*n)<=x/\x<=A*n):(A5 x n).natAbs<=A:=by
 have m1:=TY hn h.2;have m2:=TY hn h.1;rw[show-((A:Int)*n)= -(A:Int)*n by rw[Int.neg_mul]]at m2;rw[T6 hn]at m1 m2;omega
theorem XZ {D L d:Int} (hL:0<L) (hD:D.natAbs<=134217728) (hd:0<=d/\d<=L):(A5 (D*d) L).natAbs<=134217728:=by
 refine Qdr hL ?_;have h1:D*d<=134217728*d:=Int.mul_le_mul_of_nonneg_right (by omega) hd.1;have h2: -134217728*d<=D*d:=Int.mul_le_mul_of_nonneg_right (by omega) hd.1;have e:((134217728:Nat):Int)=134217728:=rfl;rw[e];omega
structure SegOK (l : List Sgm) : Prop where
 seg:∀g∈l,1<=g.len/\g.len<=268435456/\bd B26 g.to
 count:l.length<=983055
theorem GoodPath.ok {p:Pth} (h:GoodPath p):SegOK p.aF:=⟨Wv h.start h.aF,h.count⟩
theorem Z_ {a:Pt} {l:List Sgm} (ha:bd B26 a) (h:SegOK l) {i:Nat} (hi:i<l.length):bd B26 (Eb a l i):=by
 cases i with
 |zero=>rw[Jq];exact ha
 |succ i=>rw[QA (by omega)];exact(h.seg _ (FE (by omega))).2.2
theorem Q56 {l:List Sgm} (h:SegOK l):∀(k i:Nat) (v:Int),i+k=l.length->0<=v->v+k*268435456<=4000000000000000000->
  An Rd [I v, .view Ag (l.map Au),I l.length,I i]=some (1,[I (v+AX (l.drop i))])
 |0,i,v,hi,_,_=>by
  refine A3 ?_ (by simp);rw[Q47,AM (by omega),List.drop_of_length_le (by omega)];simp[AX]
 |k+1,i,v,hi,h0,h1=>by
  have hlt:i<l.length:=by omega
  have hcn:=h.count;have hg:=h.seg _ (FE hlt);have hst:Rd [I v, .view Ag (l.map Au),I l.length,I i]=some (0,[I (v+(sgA l i).len), .view Ag (l.map Au),I l.length,I (i+1:Nat)]):=by
   rw[Q47];simp only[go_sem,List.length_map,Int.toNat_natCast,HL hlt];rw[if_pos (by omega),if_pos (by omega),Ae (x:=v+_) (by omega),Ae (by omega)];rfl
  rw[Bj hst,Q56 h k (i+1) _ (by omega) (by omega) (by omega)];have e:l.drop i=sgA l i::l.drop (i+1):=by rw[J9 hlt];exact J5 _ _ hlt
  rw[e];simp only[AX,Int.add_assoc]
theorem Q7l {p:Pth} (h:SegOK p.aF):Ja (AH p)=some [I (AX p.aF)]:=by
 have hl:=Q56 h p.aF.length 0 0 (by omega) (by omega) (by have:=h.count;omega);have hl':T1 [I 0, .view Ag (p.aF.map Au),I p.aF.length,I 0]=some (1,[I (0+AX (p.aF.drop 0))]):=hl;rw[List.drop_zero,Int.zero_add]at hl';unfold Ja;generalize T1=N at*;rw[Zf5];simp only[go_sem,List.length_map,hl']
theorem Qcx {g h:Sgm} {l:List Sgm} {s:Int} (c: ¬s<g.len):AL (g::h::l) s=((AL (h::l) (s-g.len)).1+1,(AL (h::l) (s-g.len)).2):=by rw[AL,if_neg c]
theorem Q79 {p:Pth} (h:SegOK p.aF):∀(k i:Nat) (s:Int),i+k=p.aF.length->1<=k->0<=s/\s<=9223372036854775807->
  An Tj (I s:: .view Ag (p.aF.map Au)::I p.aF.length::I i::AH p)=some (1,[I (i+(AL (p.aF.drop i) s).1:Nat),I (AL (p.aF.drop i) s).2])
 |k+1,i,s,hi,_,hs=>by
  have hlt:i<p.aF.length:=by omega
  have hcnt:=h.count;have hg:=h.seg _ (FE hlt);have e:p.aF.drop i=sgA p.aF i::p.aF.drop (i+1):=by rw[J9 hlt];exact J5 _ _ hlt
  have hst:Tj (I s:: .view Ag (p.aF.map Au)::I p.aF.length::I i::AH p)=if s<(sgA p.aF i).len then some (1,[I i,I s])else if k=0 then some (1,[I i,I (sgA p.aF i).len])else some (0,I (s-(sgA p.aF i).len):: .view Ag (p.aF.map Au)::I p.aF.length::I (i+1:Nat)::AH p):=by
   rw[Q82];simp only[go_sem,List.length_map,Int.toNat_natCast,HL hlt];rw[if_pos (by omega),if_pos (by omega),Ae (x:=(p.aF.length:Int)-1) (by omega),Ae (x:=(i:Int)+1) (by omega)];by_cases c:s<(sgA p.aF i).len
   ·rw[if_pos c,if_pos c]
   ·rw[if_neg c,if_neg c];by_cases c2:k=0
    ·rw[if_pos (by omega),if_pos c2]
    ·rw[if_neg (by omega),if_neg c2,Ae (by omega)];rfl
  by_cases c:s<(sgA p.aF i).len
  ·rw[if_pos c]at hst;rw[A3 hst (by simp),e];cases p.aF.drop (i+1)with
   |nil=>rw[AL,if_pos c];rfl
   |cons b l=>rw[AL,if_pos c];rfl
  ·rw[if_neg c]at hst;by_cases c2:k=0
   ·rw[if_pos c2]at hst;rw[A3 hst (by simp),e,List.drop_of_length_le (by omega),AL,if_neg c];rfl
   ·rw[if_neg c2]at hst;rw[Bj hst,Q79 h k (i+1) _ (by omega) (by omega) (by omega),e];have e2:p.aF.drop (i+1)=sgA p.aF (i+1)::p.aF.drop (i+1+1):=by rw[J9 (show i+1<p.aF.length by omega)];exact J5 _ _ (by omega)
    rw[e2,Qcx c,<-e2];simp only;rw[show i+1+(AL (p.aF.drop (i+1)) (s-(sgA p.aF i).len)).1=i+((AL (p.aF.drop (i+1)) (s-(sgA p.aF i).len)).1+1) by omega]
theorem Ya {p:Pth} (h:SegOK p.aF) {s:Int} (hs:i64 s):Es (AH p++[I s])=if p.aF=[]then some [I (-1),I 0]else some [I (AL p.aF (max s 0)).1,I (AL p.aF (max s 0)).2]:=by
 unfold i64 at hs;have hmx:mx s 0=max s 0:=mx_max' s 0;by_cases c:p.aF=[]
 ·rw[if_pos c];have hend:O9 (I (max s 0):: .view Ag []::I 0::I 0::AH p)=some (2,[]):=by
   refine A3 ?_ (by simp);rw[Q82,AM (by omega)]
  unfold Es;generalize O9=N at*;have he:=Qvp N p.start.x p.start.y p.start.z (p.aF.map Au) (p.aD.map At) s;refine Eq.trans he ?_;rw[hmx,c];have hend':N [I (max s 0), .view Ag [],I 0,I 0,I p.start.x,I p.start.y,I p.start.z, .view Ag [], .view AD (p.aD.map At)]=some (2,[]):=by
   have:=hend;unfold AH at this;rw[c]at this;exact this
  simp only[go_sem,List.map_nil,List.length_nil];simp only[Int.natCast_zero];rw[hend'];simp
 ·rw[if_neg c];have hpos:0<p.aF.length:=by
   cases hh:p.aF with
   |nil=>exact absurd hh c
   |cons _ _=>simp
  have hL:=Q79 h p.aF.length 0 (max s 0) (by omega) (by omega) (by omega);have hL':O9 [I (max s 0), .view Ag (p.aF.map Au),I p.aF.length,I 0,I p.start.x,I p.start.y,I p.start.z, .view Ag (p.aF.map Au), .view AD (p.aD.map At)]=some (1,[I (0+(AL (p.aF.drop 0) (max s 0)).1:Nat),I (AL (p.aF.drop 0) (max s 0)).2]):=hL;rw[List.drop_zero,Nat.zero_add]at hL';unfold Es;generalize O9=N at*;have he:=Qvp N p.start.x p.start.y p.start.z (p.aF.map Au) (p.aD.map At) s;refine Eq.trans he ?_;rw[hmx];simp only[go_sem,List.length_map,hL']
 where mx_max' (a b:Int):mx a b=max a b:=by unfold mx;rw[Int.max_def];split<;>split<;>omega
theorem Zhe {MM MF:Fn} {p:Pth} (h:GoodPath p) {s:Int} (hF:MF (AH p++[I s])=if p.aF=[]then some [I (-1),I 0]else some [I (AL p.aF (max s 0)).1,I (AL p.aF (max s 0)).2])
  (hM:∀{a b c:Int},a.natAbs<=134217728->b.natAbs<=268435456->(0<c/\c<=268435456)->MM [I a,I b,I c,I 2]=some [I (A5 (a*b) c),B true]):
  Qip MM MF (AH p++[I s])=some (ptR (atP p s)):=by
 have he:=Zpc (AI:=MM) (Dq:=MF) p.start.x p.start.y p.start.z (p.aF.map Au) (p.aD.map At) s;refine Eq.trans he ?_;simp only[List.cons_append,List.nil_append,AH]at hF;unfold atP;by_cases c:p.aF=[]
 ·rw[if_pos c]at hF;simp only[hF,go_sem];rw[if_pos (by omega),c];rfl
 ·rw[if_neg c]at hF;have hok:=h.ok;obtain⟨f1,f2,f3,f4⟩:=TO (l:=p.aF) (a:=p.start) (s:=max s 0) c (fun g hg=>(hok.seg g hg).1) (by omega);rw[f4];have hg:=hok.seg _ (FE f1);have hv:=Z_ h.start hok f1;have hr:=HL f1;have hcnt:=hok.count;generalize(AL p.aF (max s 0)).1=i at*;generalize(AL p.aF (max s 0)).2=d at*;have hdn:d.natAbs<=268435456:=by omega
  have fin:∀{a:Pt},bd B26 a->(MM [I (wrap .i64 ((sgA p.aF i).to.x-a.x)),I d,I (sgA p.aF i).len,I 2]=some [I (A5 (((sgA p.aF i).to.x-a.x)*d) (sgA p.aF i).len),B true]/\wrap .i64 (a.x+A5 (((sgA p.aF i).to.x-a.x)*d) (sgA p.aF i).len)=a.x+A5 (((sgA p.aF i).to.x-a.x)*d) (sgA p.aF i).len)/\
    (MM [I (wrap .i64 ((sgA p.aF i).to.y-a.y)),I d,I (sgA p.aF i).len,I 2]=some [I (A5 (((sgA p.aF i).to.y-a.y)*d) (sgA p.aF i).len),B true]/\wrap .i64 (a.y+A5 (((sgA p.aF i).to.y-a.y)*d) (sgA p.aF i).len)=a.y+A5 (((sgA p.aF i).to.y-a.y)*d) (sgA p.aF i).len)/\
    (MM [I (wrap .i64 ((sgA p.aF i).to.z-a.z)),I d,I (sgA p.aF i).len,I 2]=some [I (A5 (((sgA p.aF i).to.z-a.z)*d) (sgA p.aF i).len),B true]/\wrap .i64 (a.z+A5 (((sgA p.aF i).to.z-a.z)*d) (sgA p.aF i).len)=a.z+A5 (((sgA p.aF i).to.z-a.z)*d) (sgA p.aF i).len):=by
   intro a ha;have key:∀u v:Int,u.natAbs<=B26->v.natAbs<=B26->MM [I (wrap .i64 (u-v)),I d,I (sgA p.aF i).len,I 2]=some [I (A5 ((u-v)*d) (sgA p.aF i).len),B true]/\wrap .i64 (v+A5 ((u-v)*d) (sgA p.aF i).len)=v+A5 ((u-v)*d) (sgA p.aF i).len:=by
    intro u v hu hv;have h1:=Hj hu hv;rw[FO h1 (by decide)];refine⟨hM (Nat.le_trans h1 (by decide)) hdn (by omega),?_⟩;exact FO (QB hv (XZ (by omega) (Nat.le_trans h1 (by decide)) ⟨f2,f3⟩)) (by decide)
   exact⟨key _ _ hg.2.2.1 ha.1,key _ _ hg.2.2.2.1 ha.2.1,key _ _ hg.2.2.2.2 ha.2.2⟩
  have hin:(0:Int)<=(i:Int)/\(i:Int)<(p.aF.length:Int):=by omega
  simp only[hF,go_sem,List.length_map,Int.toNat_natCast,hr,if_pos hin];rw[if_neg (by omega)];by_cases c0:i=0
  ·subst c0;obtain⟨⟨m1,w1⟩,⟨m2,w2⟩,m3,w3⟩:=fin h.start;rw[if_neg (by omega),Jq];simp only[m1,m2,m3,go_sem,w1,w2,w3];rfl
  ·obtain⟨j,rfl⟩:∃j,i=j+1:=⟨i-1,by omega⟩;have hj:=HL (l:=p.aF) (i:=j) (by omega);have hgj:=hok.seg _ (FE (l:=p.aF) (i:=j) (by omega));obtain⟨⟨m1,w1⟩,⟨m2,w2⟩,m3,w3⟩:=fin hgj.2.2;rw[if_pos (by omega),QA (by omega)];have e1:wrap .i64 (((j+1:Nat):Int)-1)=(j:Int):=by rw[Ae (by omega)];omega
   rw[e1];simp only[Int.toNat_natCast,hj,go_sem];rw[if_pos (by omega)];simp only[m1,m2,m3,go_sem,w1,w2,w3];rfl
theorem Q38 {a b c:Int} (ha:a.natAbs<=134217728) (hb:b.natAbs<=268435456) (hc:0<c/\c<=268435456):Bn [I a,I b,I c,I 2]=some [I (A5 (a*b) c),B true]:=by
 have:=Nat.mul_le_mul ha hb;exact R6 (by unfold i64;omega) (by unfold i64;omega) (by omega) (by omega)
theorem Zhw {p:Pth} (h:GoodPath p) {s:Int} (hs:i64 s):Q2 (AH p++[I s])=some (ptR (atP p s)):=
 Zhe h (Ya h.ok hs) Q38
end Go.Bm
namespace Go.Bm
open Classical
theorem Qr3 {p:Pth} (h:GoodPath p):0<=AX p.aF/\AX p.aF<=263886834032640:=by
 have h1:=Wy h.ok.seg;have h2:=h.count;omega
end Go.Bm
namespace Go.Bm
open Classical
theorem Qu1 {p:Pth} (h:SegOK p.aF):∀(k i:Nat) (s:Int),i+k=p.aF.length->1<=k->0<=s/\s<=9223372036854775807->
  (An OJ (I s:: .view Ag (p.aF.map Au)::I p.aF.length::I i::AH p)=some (1,[I (i+(AL (p.aF.drop i) s).1:Nat),I (AL (p.aF.drop i) s).2]))\/
  (An OJ (I s:: .view Ag (p.aF.map Au)::I p.aF.length::I i::AH p)=some (2,AH p)/\i+(AL (p.aF.drop i) s).1=p.aF.length-1/\(AL (p.aF.drop i) s).2=(sgA p.aF (p.aF.length-1)).len)
 |k+1,i,s,hi,_,hs=>by
  have hlt:i<p.aF.length:=by omega
  have hcnt:=h.count;have hg:=h.seg _ (FE hlt);have e:p.aF.drop i=sgA p.aF i::p.aF.drop (i+1):=by rw[J9 hlt];exact J5 _ _ hlt
  have hst:OJ (I s:: .view Ag (p.aF.map Au)::I p.aF.length::I i::AH p)=if s<(sgA p.aF i).len then some (1,[I i,I s])else some (0,I (s-(sgA p.aF i).len):: .view Ag (p.aF.map Au)::I p.aF.length::I (i+1:Nat)::AH p):=by
   rw[Qzv];simp only[go_sem,List.length_map,Int.toNat_natCast,HL hlt];rw[if_pos (by omega),if_pos (by omega),Ae (x:=(i:Int)+1) (by omega)];by_cases c:s<(sgA p.aF i).len
   ·rw[if_pos c,if_pos c]
   ·rw[if_neg c,if_neg c,Ae (by omega)];rfl
  by_cases c:s<(sgA p.aF i).len
  ·rw[if_pos c]at hst;left;rw[A3 hst (by simp),e];cases p.aF.drop (i+1)with
   |nil=>rw[AL,if_pos c];rfl
   |cons b l=>rw[AL,if_pos c];rfl
  ·rw[if_neg c]at hst;by_cases c2:k=0
   ·right;have hend:OJ (I (s-(sgA p.aF i).len):: .view Ag (p.aF.map Au)::I p.aF.length::I (i+1:Nat)::AH p)=some (2,AH p):=by
     rw[Qzv,AM (by omega)]
    rw[Bj hst,A3 hend (by simp),e,List.drop_of_length_le (by omega),AL,if_neg c];refine⟨rfl,by simp only;omega,?_⟩;rw[show p.aF.length-1=i by omega]
   ·have e2:p.aF.drop (i+1)=sgA p.aF (i+1)::p.aF.drop (i+1+1):=by rw[J9 (show i+1<p.aF.length by omega)];exact J5 _ _ (by omega)
    have ih:=Qu1 h k (i+1) (s-(sgA p.aF i).len) (by omega) (by omega) (by omega);rw[Bj hst,e];rw[e2]at ih⊢;rw[Qcx c];rcases ih with ih|⟨ih,ih2,ih3⟩
    ·left;rw[ih];simp only;rw[show i+1+(AL (sgA p.aF (i+1)::p.aF.drop (i+1+1)) (s-(sgA p.aF i).len)).1=i+((AL (sgA p.aF (i+1)::p.aF.drop (i+1+1)) (s-(sgA p.aF i).len)).1+1) by omega]
    ·right;exact⟨ih,by simp only;omega,ih3⟩
theorem Zum {p:Pth} (h:SegOK p.aF) {s:Int} (hs:i64 s):Lu (AH p++[I s])=if p.aF=[]then some [I (-1),I 0]else some [I (AL p.aF (max s 0)).1,I (AL p.aF (max s 0)).2]:=by
 unfold i64 at hs;have hmx:mx s 0=max s 0:=by unfold mx;rw[Int.max_def];split<;>split<;>omega
 by_cases c:p.aF=[]
 ·rw[if_pos c];unfold Lu;generalize KE=N at*;have he:=Q2w N p.start.x p.start.y p.start.z (p.aF.map Au) (p.aD.map At) s;refine Eq.trans he ?_;rw[c,Bi (by simp)]
 ·rw[if_neg c];have hpos:0<p.aF.length:=by
   cases hh:p.aF with
   |nil=>exact absurd hh c
   |cons _ _=>simp
  have hcnt:=h.count;have hL:=Qu1 h p.aF.length 0 (max s 0) (by omega) (by omega) (by omega);rw[List.drop_zero,Nat.zero_add]at hL;unfold Lu;have he:=Q2w KE p.start.x p.start.y p.start.z (p.aF.map Au) (p.aD.map At) s;refine Eq.trans he ?_;rw[hmx,A_ (by simpa using c)];rcases hL with hL|⟨hL,h2,h3⟩
  ·have hL':KE [I (max s 0), .view Ag (p.aF.map Au),I p.aF.length,I 0,I p.start.x,I p.start.y,I p.start.z, .view Ag (p.aF.map Au), .view AD (p.aD.map At)]=some (1,[I (AL p.aF (max s 0)).1,I (AL p.aF (max s 0)).2]):=hL;generalize KE=N at*;simp only[go_sem,List.length_map,hL']
  ·have hL':KE [I (max s 0), .view Ag (p.aF.map Au),I p.aF.length,I 0,I p.start.x,I p.start.y,I p.start.z, .view Ag (p.aF.map Au), .view AD (p.aD.map At)]=some (2,AH p):=hL;generalize KE=N at*;have e1:wrap .i64 ((p.aF.length:Int)-1)=((p.aF.length-1:Nat):Int):=by rw[Ae (by omega)];omega
   have hin:(0:Int)<=((p.aF.length-1:Nat):Int)/\((p.aF.length-1:Nat):Int)<(p.aF.length:Int):=by omega
   simp only[go_sem,List.length_map,hL',AH,e1,Int.toNat_natCast,HL (show p.aF.length-1<p.aF.length by omega),if_pos hin];simp only[Nat.reduceEqDiff,if_false,h3];rw[show(AL p.aF (max s 0)).1=p.aF.length-1 from h2]
theorem Zc1 {p:Pth} {i:Nat} (hi:i<p.aF.length) (hc:p.aF.length<=983055):Mz (AH p++[I i])=some (ptR (Eb p.start p.aF i)):=by
 have he:=Zf1 p.start.x p.start.y p.start.z (p.aF.map Au) (p.aD.map At) i;unfold Mz;refine Eq.trans he ?_;cases i with
 |zero=>rw[C8 (by omega),Jq]
 |succ j=>
  have e1:wrap .i64 (((j+1:Nat):Int)-1)=(j:Int):=by rw[Ae (by omega)];omega
  have hin:(0:Int)<=(j:Int)/\(j:Int)<(p.aF.length:Int):=by omega
  rw[AM (by omega),e1,QA (by omega)];simp only[go_sem,List.length_map,Int.toNat_natCast,HL (show j<p.aF.length by omega),if_pos hin]
theorem Zt3 {MR MB MF:Fn} {p:Pth} (h:GoodPath p) {s:Int} (hF:MF (AH p++[I s])=if p.aF=[]then some [I (-1),I 0]else some [I (AL p.aF (max s 0)).1,I (AL p.aF (max s 0)).2])
  (hB:∀{i:Nat},i<p.aF.length->MB (AH p++[I i])=some (ptR (Eb p.start p.aF i)))
  (hM:∀{a c:Int},a.natAbs<=36028797018963968->(0<c/\c<=268435456)->MR [I a,I c]=some [I (A5 a c)]):
  Xa MR MB MF (AH p++[I s])=some (ptR (atP p s)):=by
 have he:=Zqy (Jy:=MR) (KS:=MB) (L1:=MF) p.start.x p.start.y p.start.z (p.aF.map Au) (p.aD.map At) s;refine Eq.trans he ?_;simp only[List.cons_append,List.nil_append,AH]at hF hB;unfold atP;by_cases c:p.aF=[]
 ·rw[if_pos c]at hF;simp only[hF,go_sem];rw[if_pos (by omega),c];rfl
 ·rw[if_neg c]at hF;have hok:=h.ok;obtain⟨f1,f2,f3,f4⟩:=TO (l:=p.aF) (a:=p.start) (s:=max s 0) c (fun g hg=>(hok.seg g hg).1) (by omega);rw[f4];have hg:=hok.seg _ (FE f1);have hv:=Z_ h.start hok f1;have hr:=HL f1;have hb:=hB f1;generalize(AL p.aF (max s 0)).1=i at*;generalize(AL p.aF (max s 0)).2=d at*;have hdn:d.natAbs<=268435456:=by omega
  have key:∀u v:Int,u.natAbs<=B26->v.natAbs<=B26->MR [I (wrap .i64 (wrap .i64 (u-v)*d)),I (sgA p.aF i).len]=some [I (A5 ((u-v)*d) (sgA p.aF i).len)]/\wrap .i64 (v+A5 ((u-v)*d) (sgA p.aF i).len)=v+A5 ((u-v)*d) (sgA p.aF i).len:=by
   intro u v hu hv;have h1:=Hj hu hv;have h2:=Gy h1 hdn;rw[FO h1 (by decide),FO h2 (by decide)];refine⟨hM (Nat.le_trans h2 (by decide)) (by omega),?_⟩;exact FO (QB hv (XZ (by omega) (Nat.le_trans h1 (by decide)) ⟨f2,f3⟩)) (by decide)
  obtain⟨m1,w1⟩:=key _ _ hg.2.2.1 hv.1;obtain⟨m2,w2⟩:=key _ _ hg.2.2.2.1 hv.2.1;obtain⟨m3,w3⟩:=key _ _ hg.2.2.2.2 hv.2.2;have hin:(0:Int)<=(i:Int)/\(i:Int)<(p.aF.length:Int):=by omega
  simp only[hF,go_sem,List.length_map,Int.toNat_natCast,hr,hb,if_pos hin];rw[if_neg (by omega)];simp only[m1,m2,m3,go_sem,w1,w2,w3];rfl
theorem Zpz {p:Pth} (h:GoodPath p) {s:Int} (hs:i64 s):QM (AH p++[I s])=some (ptR (atP p s)):=
 Zt3 h (Zum h.ok hs) (fun hi=>Zc1 hi h.count) fun ha hc=>Zqz ⟨hc.1,by omega⟩ (Nat.le_trans ha (by decide))
end Go.Bm
