/- laid together -/
import Derived.Test.YtommijghjlikkaaGreatMx2
import Derived.Test.YtommijghjlikkaaGreatBmTy
set_option linter.unusedVariables false
set_option linter.unusedSimpArgs false
set_option maxRecDepth 100000
namespace Go.Bm
theorem HY {x:Int} (h:i64 x):Gb [I x]=some [U (x.natAbs:Int)]:=by
  unfold i64 at h;unfold Gb;rw[Zc9];by_cases hx:x<0
  · rw[DA hx,Ae (x:=x+1) (by omega),Ae (x:=0-(x+1)) (by omega),Hm (x:=0-(x+1)) (by omega),Hm (x:=0-(x+1)+1) (by omega)]
    rw[show 0-(x+1)+1=(x.natAbs:Int) by omega]
  · rw[AX hx,Hm (x:=x) (by omega)]
    rw[show x=(x.natAbs:Int) by omega];simp
def sgn (a b:Int):Int:=if a=0 then 0 else if b=0 then 0 else if(a<0↔b<0)then 1 else-1
theorem Qb5 (a b:Int):Fz [I a,I b]=some [I (sgn a b)]:=by
  unfold Fz;rw[Q5k];simp only[go_sem];unfold sgn
  repeat' split
  all_goals rfl
def G4 (a b:Nat):Int:=if a<b then-1 else if a=b then 0 else 1
def Ky (a b:Int):Int:=if a<b then-1 else if a=b then 0 else 1
noncomputable def w64:Nat:=Classical.choose (⟨18446744073709551616,rfl⟩:∃n:Nat,n=18446744073709551616)
theorem BI:w64=18446744073709551616:=Classical.choose_spec (⟨18446744073709551616,rfl⟩:∃n:Nat,n=18446744073709551616)
theorem L1 {x:Int} (h:i64 x):x.natAbs<w64:=by unfold i64 at h;have:=BI;omega
theorem Q5t {x y:Nat} (hx:x<w64) (hy:y<w64):Ir [U x,U y]=some [U ((x*y/w64:Nat):Int),U ((x*y%w64:Nat):Int)]:=by
  rw[BI]at hx hy;have hu:∀z:Nat,z<18446744073709551616->inU (z:Int)=true:=by
    intro z hz;have e64:Fx=18446744073709551616:=rfl;simp only[inU,e64,Bool.and_eq_true,decide_eq_true_eq];omega
  show TK (x:Int) (y:Int)=_;unfold TK;rw[hu x hx,hu y hy,BI];rfl
theorem Qty {x y:Nat} (hx:x<w64) (hy:y<w64):Ef [U x,U y]=some [U ((x*y/w64:Nat):Int),U ((x*y%w64:Nat):Int)]:=by
  unfold Ef;rw[Zft,Q5t hx hy];simp only[go_sem]
theorem Qtm (a b c d:Nat) (hb:b<w64) (hd:d<w64):HO [U a,U b,U c,U d]=some [I (G4 (a*w64+b) (c*w64+d))]:=by
  unfold HO;rw[Znt];simp only[go_sem,and_true];unfold G4;simp only[BI]at*;by_cases h1:a<c
  · rw[if_pos (by omega),if_pos (by omega)]
  · rw[if_neg (by omega)]
    by_cases h2:a=c
    · rw[if_pos (by omega)]
      by_cases h3:b<d
      · rw[if_pos (by omega),if_pos (by omega)]
      · rw[if_neg (by omega)]
        by_cases h4:b=d
        · rw[if_pos (by omega),if_neg (by omega),if_pos (by omega)]
        · rw[if_neg (by omega),if_neg (by omega),if_neg (by omega)]
    · rw[if_neg (by omega),if_neg (by omega),if_neg (by omega),if_neg (by omega)]
theorem Rg (a b:Int):sgn a b*((a.natAbs*b.natAbs:Nat):Int)=a*b:=by
  unfold sgn;by_cases h1:a=0
  · subst h1;simp
  · by_cases h2:b=0
    · subst h2;simp
    · rw[if_neg h1,if_neg h2]
      have e:((a.natAbs*b.natAbs:Nat):Int)=(a.natAbs:Int)*(b.natAbs:Int):=by simp
      rw[e];by_cases h3:a<0<;>by_cases h4:b<0
      · rw[if_pos (by simp[h3,h4]),show(a.natAbs:Int)= -a by omega,show(b.natAbs:Int)= -b by omega,Int.neg_mul_neg,Int.one_mul]
      · rw[if_neg (by simp[h3,h4]),show(a.natAbs:Int)= -a by omega,show(b.natAbs:Int)=b by omega,Int.neg_mul,Int.one_mul,Int.neg_mul,Int.neg_neg]
      · rw[if_neg (by simp[h3,h4]),show(a.natAbs:Int)=a by omega,show(b.natAbs:Int)= -b by omega,Int.mul_neg,Int.neg_mul_neg,Int.one_mul]
      · rw[if_pos (by simp[h3,h4]),show(a.natAbs:Int)=a by omega,show(b.natAbs:Int)=b by omega,Int.one_mul]
theorem R2 (a b:Int):(sgn a b=0/\a*b=0)\/(sgn a b=1/\0<a*b)\/(sgn a b= -1/\a*b<0):=by
  have h:=Rg a b;by_cases h1:a=0
  · subst h1;left;simp[sgn]
  · by_cases h2:b=0
    · subst h2;left;simp[sgn]
    · have hp:0<a.natAbs*b.natAbs:=Nat.mul_pos (by omega) (by omega)
      generalize a.natAbs*b.natAbs=p at*;generalize a*b=x at*;unfold sgn at h⊢;rw[if_neg h1,if_neg h2]at h⊢;by_cases h3:(a<0↔b<0)
      · rw[if_pos h3]at h⊢;right;left;exact⟨rfl,by omega⟩
      · rw[if_neg h3]at h⊢;right;right;exact⟨rfl,by omega⟩
theorem Ziz {a b c d:Int}:(if sgn a b≠sgn c d then(if sgn a b<sgn c d then-1 else 1)else sgn a b*G4 (a.natAbs*b.natAbs) (c.natAbs*d.natAbs))=Ky (a*b) (c*d):=by
  have h1:=Rg a b;have h2:=Rg c d;have k1:=R2 a b;have k2:=R2 c d;unfold Ky G4;generalize a.natAbs*b.natAbs=p at*;generalize c.natAbs*d.natAbs=q at*;generalize a*b=x at*;generalize c*d=y at*;generalize sgn a b=u at*;generalize sgn c d=v at*;rcases k1 with⟨rfl,g1⟩|⟨rfl,g1⟩|⟨rfl,g1⟩<;>rcases k2 with⟨rfl,g2⟩|⟨rfl,g2⟩|⟨rfl,g2⟩
  · rw[if_neg (by simp),if_neg (show¬x<y by omega),if_pos (show x=y by omega)];exact Int.zero_mul _
  · rw[if_pos (by simp),if_pos (by omega),if_pos (by omega)]
  · rw[if_pos (by simp),if_neg (by omega),if_neg (by omega),if_neg (by omega)]
  · rw[if_pos (by simp),if_neg (by omega),if_neg (by omega),if_neg (by omega)]
  · rw[if_neg (by simp)]
    have e1:(p:Int)=x:=by omega
    have e2:(q:Int)=y:=by omega
    by_cases h:x<y
    · rw[if_pos (by omega),if_pos h];rfl
    · rw[if_neg (by omega),if_neg h]
      by_cases h':x=y
      · rw[if_pos (by omega),if_pos h'];rfl
      · rw[if_neg (by omega),if_neg h'];rfl
  · rw[if_pos (by simp),if_neg (by omega),if_neg (by omega),if_neg (by omega)]
  · rw[if_pos (by simp),if_pos (by omega),if_pos (by omega)]
  · rw[if_pos (by simp),if_pos (by omega),if_pos (by omega)]
  · rw[if_neg (by simp)]
    have e1:(p:Int)= -x:=by omega
    have e2:(q:Int)= -y:=by omega
    by_cases h:x<y
    · rw[if_neg (by omega),if_neg (by omega),if_pos h];rfl
    · rw[if_neg h]
      by_cases h':x=y
      · rw[if_neg (by omega),if_pos (by omega),if_pos h'];rfl
      · rw[if_pos (by omega),if_neg h'];rfl
theorem Qt2 (p:Nat):p/w64*w64+p%w64=p:=by have:=Nat.div_add_mod p w64;rw[Nat.mul_comm]at this;exact this
theorem OW:0<w64:=by rw[BI];omega
theorem Zr8 (p q:Nat): -1<=G4 p q/\G4 p q<=1:=by unfold G4;(repeat' split)<;>omega
theorem Zvf (a b:Int): -1<=sgn a b/\sgn a b<=1:=by unfold sgn;(repeat' split)<;>omega
theorem Zpd {u v:Int} (hu: -1<=u/\u<=1) (hv: -1<=v/\v<=1): -1<=u*v/\u*v<=1:=by
  have:u= -1\/u=0\/u=1:=by omega
  rcases this with rfl|rfl|rfl<;>omega
theorem NG {x y:Nat} (hx:x<w64) (hy:y<w64):∃hi lo:Nat,Ef [U x,U y]=some [U hi,U lo]/\hi*w64+lo=x*y/\lo<w64:=
  ⟨_,_,Qty hx hy,Qt2 _,Nat.mod_lt _ OW⟩
theorem Zee {a b c d:Int} (M1 M2 M3 M4:Fn) (h1 l1 h2 l2:Nat)
   (ka:M3 [I a]=some [U a.natAbs]) (kb:M3 [I b]=some [U b.natAbs]) (kc:M3 [I c]=some [U c.natAbs]) (kd:M3 [I d]=some [U d.natAbs])
   (ks:∀a b,M4 [I a,I b]=some [I (sgn a b)])
   (e1:M2 [U a.natAbs,U b.natAbs]=some [U h1,U l1]) (f1:M2 [U c.natAbs,U d.natAbs]=some [U h2,U l2])
   (hcmp:M1 [U h1,U l1,U h2,U l2]=some [I (G4 (a.natAbs*b.natAbs) (c.natAbs*d.natAbs))]):Yn M1 M2 M3 M4 [I a,I b,I c,I d]=some [I (Ky (a*b) (c*d))]:=by
  have hm:=Zpd (Zvf a b) (Zr8 (a.natAbs*b.natAbs) (c.natAbs*d.natAbs));rw[Zwk];simp only[go_sem,ks,ka,kb,kc,kd,e1,f1,hcmp];rw[<-Ziz];rw[Ae (by omega)];by_cases h1:sgn a b≠sgn c d
  · rw[if_pos h1,if_pos h1]
    by_cases h2:sgn a b<sgn c d
    · rw[if_pos h2,if_pos h2]
    · rw[if_neg h2,if_neg h2]
  · rw[if_neg h1,if_neg h1]
theorem Z08 {a b c d:Int} (ha:i64 a) (hb:i64 b) (hc:i64 c) (hd:i64 d):N_ [I a,I b,I c,I d]=some [I (Ky (a*b) (c*d))]:=by
  obtain⟨h1,l1,e1,e2,e3⟩:=NG (L1 ha) (L1 hb);obtain⟨h2,l2,f1,f2,f3⟩:=NG (L1 hc) (L1 hd);have hcmp:=Qtm h1 l1 h2 l2 e3 f3;rw[e2,f2]at hcmp;unfold N_;exact Zee _ _ _ _ _ _ _ _ (HY ha) (HY hb) (HY hc) (HY hd) Qb5 e1 f1 hcmp
end Go.Bm
namespace Go.Bm
theorem eB {α β:Type} {a:Option α} {f:α->Option β} {x:α} {r:Option β} (h:a=some x) (g:f x=r):a.bind f=r:=by rw[h];exact g
theorem eT {α:Type} {c:Bool} {a b r:α} (h:c=true) (g:a=r):cond c a b=r:=by rw[h];exact g
theorem eF {α:Type} {c:Bool} {a b r:α} (h:c=false) (g:b=r):cond c a b=r:=by rw[h];exact g
theorem eC {α:Type} {c:Bool} {a b r:α} (h:c=true->a=r) (g:c=false->b=r):cond c a b=r:=by cases c;exact g rfl;exact h rfl
theorem beF {a b:Int} (h:a≠b):(a==b)=false:=by simpa using h
theorem beT {a b:Int} (h:a=b):(a==b)=true:=by simpa using h
theorem bnF {a b:Int} (h:a=b):(a !=b)=false:=by simpa using h
theorem bnT {a b:Int} (h:a≠b):(a !=b)=true:=by simpa using h
theorem Fo {α β:Type} {a:Option α} {f:α->Option β} (h:a.isSome=true) (g:∀o,a=some o->(f o).isSome=true):(a.bind f).isSome=true:=by
 cases a with
 |none=>simp at h
 |some o=>exact g o rfl
theorem BV {α:Type} {c:Bool} {a b:Option α} (h:c=true->a.isSome=true) (g:c=false->b.isSome=true):(cond c a b).isSome=true:=by
 cases c
 ·exact g rfl
 ·exact h rfl
def Out {α:Type} (p:α->Prop) (a:Option α):Prop:=∃o,a=some o/\p o
theorem Out.is {α:Type} {p:α->Prop} {a:Option α} (h:Out p a):a.isSome=true:=by obtain⟨o,h,_⟩:=h;rw[h];rfl
theorem Out.of {α:Type} {a:Option α} (h:a.isSome=true):Out (fun _=>True) a:=by
 cases a with
 |none=>simp at h
 |some o=>exact⟨o,rfl,trivial⟩
theorem Out.bind {α β:Type} {p:α->Prop} {q:β->Prop} {a:Option α} {f:α->Option β} (h:Out p a) (g:∀o,p o->Out q (f o)):Out q (a.bind f):=by
 obtain⟨o,rfl,h⟩:=h;exact g o h
theorem Out.ibind {α β:Type} {q:β->Prop} {a:Option α} {f:α->Option β} (h:a.isSome=true) (g:∀o,a=some o->Out q (f o)):Out q (a.bind f):=by
 cases a with
 |none=>simp at h
 |some o=>exact g o rfl
theorem Out.cond {α:Type} {p:α->Prop} {c:Bool} {a b:Option α} (h:c=true->Out p a) (g:c=false->Out p b):Out p (cond c a b):=by
 cases c
 ·exact g rfl
 ·exact h rfl
theorem Out.some {α:Type} {p:α->Prop} {o:α} (h:p o):Out p (some o):=⟨o,rfl,h⟩
theorem Out.mono {α:Type} {p q:α->Prop} {a:Option α} (h:Out p a) (g:∀o,p o->q o):Out q a:=by obtain⟨o,h,h2⟩:=h;exact⟨o,h,g o h2⟩
theorem Cr {S:Type} {step:Lp} (enc:S->List AC) (Inv:S->Prop) (m:S->Nat) (Q:Nat×List AC->Prop)
  (h:∀s,Inv s->Out (fun o=>(o.1=0/\∃s',o.2=enc s'/\Inv s'/\m s'<m s)\/(o.1≠0/\Q o)) (step (enc s))) (s:S) (hs:Inv s):Out Q (An step (enc s)):=by
 obtain ⟨o, h1, _, h2⟩ := Q03 (step := step) enc Inv m Q (fun s hs => by
  obtain⟨o,h1,h2⟩:=h s hs;rcases h2 with⟨h2,s',h3,h4,h5⟩|⟨h2,h3⟩
  ·refine .inl ⟨s',?_,h4,h5⟩;rw[h1,<-h3,<-h2]
  ·exact .inr ⟨o,h1,h2,h3⟩) s hs
 exact⟨o,h1,h2⟩
theorem Bg {p:Prop} [Decidable p] (h:decide p=true):p:=of_decide_eq_true h
theorem Bf {p:Prop} [Decidable p] (h:decide p=false): ¬p:=of_decide_eq_false h
theorem inB {i:Int} {n:Nat} (h0:0<=i) (h1:i<(n:Int)):(decide (0<=i)&&decide (i<(n:Int)))=false->False:=by
 intro h;rcases Bool.and_eq_false_iff.1 h with c|c
 ·exact Bf c h0
 ·exact Bf c h1
theorem CY {a b:Nat} (h:a<=b):Nat.ble a b=true:=Nat.ble_eq_true_of_le h
theorem Qzz (a b c d:Int):(G3 [I a,I b,I c,I d]).isSome=true:=by
 unfold G3;rw[Ua]
 repeat' first|exact rfl|refine BV (fun _=> ?_) (fun _=> ?_)
 rename_i h1 h2;simp at h1 h2;omega
theorem PC (a b c:Int):E2 [I a,I b,I c]=some [B (decide (1<=a/\a<=65536/\2<=b/\b<=65536/\1<=c/\c<=16777216))]:=by
 unfold E2;rw[Zwf];by_cases h1:1<=a<;>by_cases h2:a<=65536<;>by_cases h3:2<=b<;>by_cases h4:b<=65536<;>by_cases h5:1<=c<;>by_cases h6:c<=16777216<;>simp[h1,h2,h3,h4,h5,h6]
theorem Zz7 {M:Fn} (h:∀a b c d,(M [I a,I b,I c,I d]).isSome=true) (a b c v x:Int):(Ph M [I a,I b,I c,I v,I x]).isSome=true:=by
 rw[Ze]
 repeat' first|exact rfl|exact h _ _ _ _|refine BV (fun _=> ?_) (fun _=> ?_)|refine Fo ?_ fun _ _=> ?_
theorem Qe9 (a b c v x:Int):(GJ [I a,I b,I c,I v,I x]).isSome=true:=Zz7 Qzz a b c v x
theorem Znp (x:Int): -9223372036854775808<=IntKind.i64.wrap x/\IntKind.i64.wrap x<=9223372036854775807:=by
 simp[IntKind.wrap,IntKind.signed,IntKind.bits];omega
end Go.Bm
namespace Go.Bm
theorem Zsj {ML MV:Fn} (hL:∀a b c d,(ML [I a,I b,I c,I d]).isSome=true) {v a b c low high:Int} (h1: -9000000000000<=low/\low<=9000000000000) (h2: -9000000000000<=high/\high<=9000000000000):
  Out (fun o=>o.1=1) (An (Lf ML MV) [I v,I low,I high,I a,I b,I c]):=by
 refine Cr (fun s:Int×Int=>[I v,I s.1,I s.2,I a,I b,I c]) (fun s=>(-9000000000000<=s.1/\s.1<=9000000000000)/\(-9000000000000<=s.2/\s.2<=9000000000000)) (fun s=>(s.2-s.1).toNat) _ ?_ (low,high) ⟨h1,h2⟩;rintro⟨l,h⟩ ⟨q1,q2⟩;dsimp only at*;rw[Qhn];refine .cond (fun c=> ?_) (fun c=> ?_)
 ·have c:=Bg c;have e:IntKind.i64.wrap (h-IntKind.i64.wrap ((IntKind.i64.wrap (h-l)).tdiv 2))=h-(h-l)/2:=by
   rw[Ae (x:=h-l) (by omega),Int.tdiv_eq_ediv_of_nonneg (by omega),Ae (x:=(h-l)/2) (by omega),Ae (by omega)]
  rw[e];refine .ibind (hL _ _ _ _) fun o _=> ?_;refine .cond (fun _=> ?_) (fun _=> ?_)
  ·exact .some (.inl ⟨rfl,(h-(h-l)/2,h),rfl,by dsimp only;omega,by dsimp only;omega⟩)
  ·refine .some (.inl ⟨rfl,(l,h-(h-l)/2-1),?_,by dsimp only;omega,by dsimp only;omega⟩);rw[Ae (x:=h-(h-l)/2-1) (by omega)]
 ·exact .some (.inr ⟨by simp,rfl⟩)
theorem Zp6 {ML MV:Fn} (hL:∀a b c d,(ML [I a,I b,I c,I d]).isSome=true) (hV:∀a b c,MV [I a,I b,I c]=some [B (decide (1<=a/\a<=65536/\2<=b/\b<=65536/\1<=c/\c<=16777216))]) (a b c v x:Int):
  (Th ML MV (An (Lf ML MV)) [I a,I b,I c,I v,I x]).isSome=true:=by
 rw[Qrz,hV];simp only[Option.bind_some];refine BV (fun _=>rfl) fun h1=>BV (fun _=>rfl) fun h2=>BV (fun _=>rfl) fun h3=> ?_;simp only[go_sem,Bool.not_eq_false',decide_eq_true_eq]at h1;have h2:=Bf h2;have h3:=Bf h3;have hx: -1099511627776<=x/\x<=1099511627776:=by
  unfold mx at h2;unfold mn at h3;split at h2<;>split at h3<;>omega
 obtain⟨o,h4,h5⟩:=Zsj (MV:=MV) hL (v:=v) (a:=a) (b:=b) (c:=c) (low:=IntKind.i64.wrap (IntKind.i64.wrap (0-x)-b)) (high:=mn (IntKind.i64.wrap (b-x)) a)
  (by rw[Ae (x:=0-x) (by omega),Ae (by omega)];omega) (by rw[Ae (x:=b-x) (by omega)];unfold mn;split<;>omega)
 rw[h4];simp only[Option.bind_some,h5];rfl
theorem Zlw (a b c v x:Int):(Fm [I a,I b,I c,I v,I x]).isSome=true:=Zp6 Qzz PC a b c v x
theorem Zxh {MB MR MV:Fn} (hB:∀a b c v x,(MB [I a,I b,I c,I v,I x]).isSome=true) {a b c v x:Int}:
  Out (fun o=>o.1=1\/o.1=2/\(wA o.2 0).length<=4096) (An (HM MB MR MV) [.view Aa [],I v,I x,I a,I b,I c]):=by
 refine Cr (fun s:Rw×Int×Int=>[.view Aa s.1,I s.2.1,I s.2.2,I a,I b,I c]) (fun s=>s.1.length<=4096) (fun s=>4096-s.1.length) _ ?_ ([],v,x) (by simp);rintro⟨l,v,x⟩ h;dsimp only at*;rw[P7];refine .cond (fun _=> ?_) (fun _=> ?_)
 ·refine .cond (fun _=> ?_) (fun h2=> ?_)
  ·exact .some (.inr ⟨by simp, .inl rfl⟩)
  ·have h2: ¬((l.length:Int)=4096):=by simpa using h2
   refine .ibind (hB _ _ _ _ _) fun o _=> ?_;refine .cond (fun _=> ?_) (fun h3=> ?_)
   ·exact .some (.inl ⟨rfl,(_,_,_),rfl,by simp;omega,by simp;omega⟩)
   ·rw[CY (by simp;omega)]at h3;cases h3
 ·exact .some (.inr ⟨by simp, .inr ⟨rfl,h⟩⟩)
theorem Zq7 {MB MR MV:Fn} (hB:∀a b c v x,(MB [I a,I b,I c,I v,I x]).isSome=true) (hR:∀a b c v x,(MR [I a,I b,I c,I v,I x]).isSome=true) (hV:∀a b c,MV [I a,I b,I c]=some [B (decide (1<=a/\a<=65536/\2<=b/\b<=65536/\1<=c/\c<=16777216))]) (a b c v x:Int):
  Out (fun o=>(wA o 0).length<=4096) (Qh MB MR MV (An (HM MB MR MV)) [I a,I b,I c,I v,I x]):=by
 rw[Qn9,hV];simp only[Option.bind_some];refine .cond (fun _=> .some (by simp[gA,wA,bA,jA,nth,BL])) fun _=> .ibind (hR _ _ _ _ _) fun o _=> .cond (fun _=> .some (by simp[gA,wA,bA,jA,nth,BL])) fun _=> ?_;refine .bind (Zxh hB) fun o h=> ?_;rcases h with h|⟨h,h2⟩
 ·rw[h];exact .some (by simp[gA,wA,bA,jA,nth,BL])
 ·rw[h];exact .some h2
theorem Zqa (a b c v x:Int):Out (fun o=>(wA o 0).length<=4096) (J8 [I a,I b,I c,I v,I x]):=Zq7 Zlw Qe9 PC a b c v x
theorem Qrc {M:Fn} {u:Int} {sp out:Rw} (h0:out.length=sp.length) (h1:sp.length<=4096):
  Out (fun o=>o.1=1/\(wA o.2 0).length=sp.length) (An (Ht M) [.view Aa out,I u, .view Aa sp,I (sp.length:Int),I 0]):=by
 refine Cr (fun s:Rw×Int×Nat=>[.view Aa s.1,I s.2.1, .view Aa sp,I (sp.length:Int),I (s.2.2:Int)]) (fun s=>s.1.length=sp.length/\s.2.2<=sp.length) (fun s=>sp.length-s.2.2) _ ?_ (out,u,0) ⟨h0,by simp⟩;rintro⟨l,u,i⟩ ⟨g1,g2⟩;dsimp only at*;rw[Qc0];refine .cond (fun c=> ?_) (fun _=> ?_)
 ·have c:=Bg c;refine .cond (fun _=> ?_) (fun h=> ?_)
  ·refine .cond (fun _=> ?_) (fun h=> ?_)
   ·have e:=Ae (x:=(i:Int)+1) (by omega);rw[e];generalize IntKind.i64.wrap (u+gA (nth [] sp (i:Int).toNat) 0)=z;exact .some (.inl ⟨rfl,(l.set (i:Int).toNat [I z],z,i+1),rfl,by simp;omega,by simp;omega⟩)
   ·simp at h;omega
  ·simp at h;omega
 ·exact .some (.inr ⟨by simp,rfl,g1⟩)
theorem Z0o {M:Fn} (hS:∀a b c v x,Out (fun o=>(wA o 0).length<=4096) (M [I a,I b,I c,I v,I x])) (a b c x3 x4 x5 x6 x7 x8:Int):
  Out (fun o=>(wA o 0).length<=4096) (L2 M (An (Ht M)) [I a,I b,I c,I x3,I x4,I x5,I x6,I x7,I x8]):=by
 rw[R8];refine .bind (hS _ _ _ _ _) fun o h=> ?_;generalize wA o 0=sp at*;refine .cond (fun _=> .some (by simp[gA,wA,bA,jA,nth,BL])) fun _=> ?_;refine .cond (fun _=> ?_) fun c=>by simp at c
 refine .cond (fun _=> ?_) fun c=>by simp at c;omega
 refine .bind (Qrc (by simp) h) fun o g=> ?_;rw[g.1];exact .some (by show(wA o.2 0).length<=4096;omega)
theorem SJ (a b c x3 x4 x5 x6 x7 x8:Int):Out (fun o=>(wA o 0).length<=4096) (Do [I a,I b,I c,I x3,I x4,I x5,I x6,I x7,I x8]):=Z0o Zqa a b c x3 x4 x5 x6 x7 x8
theorem Zjn {M:Fn} (hF:∀a b c x3 x4 x5 x6 x7 x8,Out (fun o=>(wA o 0).length<=4096) (M [I a,I b,I c,I x3,I x4,I x5,I x6,I x7,I x8])) (a b c x3 x4 x5 x6 x7 x8:Int):
  (LJ M [I a,I b,I c,I x3,I x4,I x5,I x6,I x7,I x8]).isSome=true:=by
 rw[Sl];obtain⟨o,h1,h2⟩:=hF a b c x3 x4 x5 x6 x7 x8;rw[h1];simp only[Option.bind_some];generalize wA o 0=sp at*;refine BV (fun _=>rfl) fun _=>BV (fun _=>rfl) fun c=>BV (fun _=>rfl) fun d=> ?_;have c: ¬((sp.length:Int)=0):=by simpa using c
 rw[Ae (by omega)]at d;simp at d;omega
theorem Q9z (a b c x3 x4 x5 x6 x7 x8:Int):(DY [I a,I b,I c,I x3,I x4,I x5,I x6,I x7,I x8]).isSome=true:=Zjn SJ a b c x3 x4 x5 x6 x7 x8
end Go.Bm
namespace Go.Bm
theorem Zbk {m k:Nat} (h:2^(k+1)*m+2^k<w64):IntKind.u64.wrap (((BitVec.ofInt IntKind.u64.bits ((2^(k+1)*m:Nat):Int)|||BitVec.ofInt IntKind.u64.bits ((2^k:Nat):Int)).toNat:Nat):Int)=((2^(k+1)*m+2^k:Nat):Int):=by
 rw[BI]at h;have e:(BitVec.ofInt IntKind.u64.bits ((2^(k+1)*m:Nat):Int)|||BitVec.ofInt IntKind.u64.bits ((2^k:Nat):Int)).toNat=2^(k+1)*m+2^k:=by
  rw[BitVec.toNat_or];have e1:∀v:Nat,v<18446744073709551616->(BitVec.ofInt IntKind.u64.bits (v:Int)).toNat=v:=by
   intro v hv;simp only[IntKind.bits,BitVec.toNat_ofInt];omega
  have hpos:0<2^k:=Nat.two_pow_pos _;generalize hA:2^(k+1)*m=A at*;rw[e1 _ (by omega),e1 _ (by omega),<-hA];exact(Nat.two_pow_add_eq_or_of_lt (Nat.pow_lt_pow_right (by omega) (by omega)) m).symm
 rw[e,Hm (by omega)]
theorem Q8r (k:Nat):((2^(k+1):Nat):Int).fdiv (2^min (Int.toNat 1) IntKind.u64.bits)=((2^k:Nat):Int):=by
 have e:(2^min (Int.toNat 1) IntKind.u64.bits:Int)=2:=rfl;rw[e,Int.fdiv_eq_ediv_of_nonneg _ (by omega),Nat.pow_succ];omega
theorem Zwr:(1:Int).fdiv (2^min (Int.toNat 1) IntKind.u64.bits)=0:=rfl
theorem Qzo {M1 M2:Fn} (hp:∀x y:Nat,x<w64->y<w64->∃hi lo:Nat,M2 [U x,U y]=some [U hi,U lo]/\hi*w64+lo=x*y/\lo<w64)
  (hc:∀a b c d:Nat,b<w64->d<w64->M1 [U a,U b,U c,U d]=some [I (G4 (a*w64+b) (c*w64+d))]) {k m hi lo:Nat} {bit:Int} (hlo:lo<w64) (hb:((2^k:Nat):Int).fdiv (2^min (Int.toNat 1) IntKind.u64.bits)=bit) (h:2^(k+1)*m+2^k<w64):
  K7 M1 M2 [U ((2^(k+1)*m:Nat):Int),U ((2^k:Nat):Int),U hi,U lo]=
   some (0,[U (((if(2^(k+1)*m+2^k)*(2^(k+1)*m+2^k)<=hi*w64+lo then 2^(k+1)*m+2^k else 2^(k+1)*m):Nat):Int),U bit,U hi,U lo]):=by
 obtain⟨h1,l1,e1,e2,e3⟩:=hp _ _ h h;have hcmp:=hc h1 l1 hi lo e3 hlo;rw[e2]at hcmp;have hpos:0<2^k:=Nat.two_pow_pos _;rw[Q3f,Zbk h,hb];simp only[go_sem,e1,hcmp];rw[if_pos (by omega)];generalize(2^(k+1)*m+2^k)*(2^(k+1)*m+2^k)=q at*;unfold G4;by_cases h1:q<hi*w64+lo
 ·rw[if_pos h1,if_pos (by omega),if_pos (by omega)]
 ·rw[if_neg h1];by_cases h2:q=hi*w64+lo
  ·rw[if_pos h2,if_pos (by omega),if_pos (by omega)]
  ·rw[if_neg h2,if_neg (by omega),if_neg (by omega)]
theorem Qe3 {M1 M2:Fn} (hp:∀x y:Nat,x<w64->y<w64->∃hi lo:Nat,M2 [U x,U y]=some [U hi,U lo]/\hi*w64+lo=x*y/\lo<w64)
  (hc:∀a b c d:Nat,b<w64->d<w64->M1 [U a,U b,U c,U d]=some [I (G4 (a*w64+b) (c*w64+d))]) {hi lo:Nat} (hlo:lo<w64):∀(k m:Nat),2^(k+1)*m+2^(k+1)<=w64->
  (2^(k+1)*m)*(2^(k+1)*m)<=hi*w64+lo->hi*w64+lo<(2^(k+1)*m+2^(k+1))*(2^(k+1)*m+2^(k+1))->
  ∃r:Nat,An (K7 M1 M2) [U ((2^(k+1)*m:Nat):Int),U ((2^k:Nat):Int),U hi,U lo]=some (1,[U r])/\r*r<=hi*w64+lo/\hi*w64+lo<(r+1)*(r+1)/\r<w64
 |0,m,hw,h1,h2=>by
  have hs:=Qzo hp hc (k:=0) (m:=m) (hi:=hi) (bit:=0) hlo Zwr (by simp at hw⊢;omega);rw[Bv hs];have hend:∀r:Nat,An (K7 M1 M2) [U (r:Int),U 0,U hi,U lo]=some (1,[U r]):=by
   intro r;refine A5 ?_ (by simp);rw[Q3f];simp only[go_sem];rw[if_neg (by omega)]
  simp only[Nat.zero_add,Nat.pow_one,Nat.pow_zero]at*;by_cases h:(2*m+1)*(2*m+1)<=hi*w64+lo
  ·rw[if_pos h,hend];exact⟨_,rfl,h,h2,by omega⟩
  ·rw[if_neg h,hend];exact⟨_,rfl,h1,by omega,by omega⟩
 |k+1,m,hw,h1,h2=>by
  have e1:2^(k+1+1)*m=2^(k+1)*(2*m):=by rw[Nat.pow_succ 2 (k+1),Nat.mul_assoc]
  have e2:2^(k+1+1)*m+2^(k+1)=2^(k+1)*(2*m+1):=by rw[e1,Nat.mul_add,Nat.mul_one]
  have e3:2^(k+1+1)=2^(k+1)+2^(k+1):=by rw[Nat.pow_succ 2 (k+1)];omega
  have hpos:0<2^(k+1):=Nat.two_pow_pos _;have hs:=Qzo hp hc (k:=k+1) (m:=m) (hi:=hi) (bit:=((2^k:Nat):Int)) hlo (Q8r k) (by omega);rw[Bv hs];by_cases h:(2^(k+1+1)*m+2^(k+1))*(2^(k+1+1)*m+2^(k+1))<=hi*w64+lo
  ·rw[if_pos h,e2];rw[e2]at h;refine Qe3 hp hc hlo k (2*m+1) ?_ h ?_
   ·rw[<-e2];omega
   ·rw[<-e2];rw[show 2^(k+1+1)*m+2^(k+1)+2^(k+1)=2^(k+1+1)*m+2^(k+1+1) by omega];exact h2
  ·rw[if_neg h];have h3:hi*w64+lo<(2^(k+1+1)*m+2^(k+1))*(2^(k+1+1)*m+2^(k+1)):=by omega
   have hw':2^(k+1+1)*m+2^(k+1)<=w64:=by omega
   rw[e1]at h1 h3 hw'⊢;exact Qe3 hp hc hlo k (2*m) hw' h1 h3
theorem Zwx {M1 M2:Fn} (hp:∀x y:Nat,x<w64->y<w64->∃hi lo:Nat,M2 [U x,U y]=some [U hi,U lo]/\hi*w64+lo=x*y/\lo<w64)
  (hc:∀a b c d:Nat,b<w64->d<w64->M1 [U a,U b,U c,U d]=some [I (G4 (a*w64+b) (c*w64+d))]) {hi lo:Nat} (hhi:hi<w64) (hlo:lo<w64):
  ∃r:Nat,Uu M1 M2 (An (K7 M1 M2)) [U hi,U lo]=some [U r]/\r*r<=hi*w64+lo/\hi*w64+lo<(r+1)*(r+1)/\r<w64:=by
 have hb:hi*w64+lo<w64*w64:=by
  have:hi*w64+w64<=w64*w64:=by rw[<-Nat.succ_mul];exact Nat.mul_le_mul_right _ hhi
  omega
 obtain⟨r,h1,h2,h3,h4⟩:=Qe3 hp hc (hi:=hi) (lo:=lo) hlo 63 0 (by rw[BI];omega) (by simp) (by rw[Nat.mul_zero,Nat.zero_add,show 2^(63+1)=w64 by rw[BI]];exact hb);refine⟨r,?_,h2,h3,h4⟩;rw[Nat.mul_zero]at h1;generalize An (K7 M1 M2)=N at*;have h1':N [AC.int IntKind.u64 0,AC.int IntKind.u64 9223372036854775808,AC.int IntKind.u64 hi,AC.int IntKind.u64 lo]=some (1,[U r]):=h1;rw[Zg4,h1'];simp only[go_sem]
theorem Q0g {hi lo:Nat} (hhi:hi<w64) (hlo:lo<w64):∃r:Nat,Ke [U hi,U lo]=some [U r]/\r*r<=hi*w64+lo/\hi*w64+lo<(r+1)*(r+1)/\r<w64:=
 Zwx (fun _ _ hx hy=>NG hx hy) Qtm hhi hlo
theorem Qgf {n:Nat} (h:n<9223372036854775808):EV [U n,B false]=some [I n,B true]:=by
 unfold EV;rw[Yf];simp only[go_sem];rw[if_neg (by simp),if_pos (by simp),if_pos (by omega),Ae (by omega)]
theorem Z21 {x y b:Nat} (hx:x<w64) (hy:y<w64) (hb:b=0\/b=1):Ki [U x,U y,U b]=some [U (((x:Int)-y-b)%Fx),U (if x<y+b then 1 else 0)]:=by
 rw[BI]at hx hy;have e64:Fx=18446744073709551616:=rfl;have hu:∀z:Nat,z<18446744073709551616->inU (z:Int)=true:=by
  intro z hz;simp only[inU,e64,Bool.and_eq_true,decide_eq_true_eq];omega
 have hb':(decide ((b:Int)=0)||decide ((b:Int)=1))=true:=by
  rcases hb with rfl|rfl<;>simp
 unfold Ki;simp only[Hu,KD,Lk,HB,gA,jA,wA,bA];rw[hu x hx,hu y hy,hb'];by_cases h:x<y+b
 ·rw[if_pos h,DA (p:=(x:Int)<y+b) (by omega)];simp
 ·rw[if_neg h,AX (p:=(x:Int)<y+b) (by omega)];simp
theorem Q8i {x y:Nat} (hx:x<w64) (hyx:y<=x):Ki [U x,U y,U 0]=some [U ((x-y:Nat):Int),U 0]:=by
 have:=Z21 (x:=x) (y:=y) (b:=0) hx (by omega) (.inl rfl);have e64:Fx=18446744073709551616:=rfl;rw[BI]at hx;rw[if_neg (by omega),e64,show((x:Int)-y-((0:Nat):Int))%18446744073709551616=((x-y:Nat):Int) by omega]at this;exact this
theorem Zx2 {M1 M2 M3 M4:Fn} {n r:Nat} {mode:Int} (hn:n<9223372036854775807) (hrn:r*r<=n) (hr:M4 [U 0,U n]=some [U r]) (hm:M3 [U r,U r]=some [U 0,U ((r*r:Nat):Int)]) (hs1:M2 [U n,U ((r*r:Nat):Int),U 0]=some [U ((n-r*r:Nat):Int),U 0])
  (hs2:M2 [U 0,U 0,U 0]=some [U 0,U 0]) (sg:∀k:Nat,k<9223372036854775808->M1 [U k,B false]=some [I k,B true]) (hmode:mode=1\/mode=2):
  Qf7 M1 M2 M3 M4 [U 0,U n,I mode]=some [I ((if(mode=1/\r*r<n)\/(mode=2/\r*r+r<n)then r+1 else r:Nat):Int),B true]:=by
 have hrr:r<=r*r:=by
  rcases Nat.eq_zero_or_pos r with h|h
  ·subst h;simp
  ·exact Nat.le_mul_of_pos_left r h
 have hw:IntKind.u64.wrap ((r:Int)+1)=((r+1:Nat):Int):=by rw[Hm (by omega)];omega
 have s1:=sg r (by omega);have s2:=sg (r+1) (by omega);rw[Z2f];simp only[go_sem,hr,hm,hs1,hs2,hw,s1,s2];rcases hmode with rfl|rfl
 ·rw[if_pos rfl,if_neg (by omega)];by_cases h:r*r<n
  ·rw[if_pos (by omega),if_pos (by omega)]
  ·rw[if_neg (by omega),if_neg (by omega),if_neg (by omega)]
 ·rw[if_neg (by omega),if_pos rfl,if_neg (by omega)];by_cases h:r*r+r<n
  ·rw[if_pos (by omega),if_pos (by omega)]
  ·rw[if_neg (by omega),if_neg (by omega)]
theorem Ze1 {M1 M2:Fn} {n:Nat} {mode:Int} {k:Int} (hn:n<9223372036854775807) (hk:M2 [I mode]=some [B true]) (hr:M1 [U 0,U n,I mode]=some [I k,B true]):YI M1 M2 [I n,I mode]=some [I k,B true]:=by
 have hw:IntKind.u64.wrap (n:Int)=(n:Int):=Hm (by omega);rw[Za2];simp only[go_sem,hk,hw,hr];rw[if_neg (by omega),if_neg (by simp)]
theorem Qgr {mode:Int} (h:mode=0\/mode=1\/mode=2):Fv [I mode]=some [B true]:=by
 unfold Fv;rw[Qrk];rcases h with rfl|rfl|rfl<;>rfl
theorem Qwg {n:Nat} {mode:Int} (hn:n<9223372036854775807) (hmode:mode=1\/mode=2):
  ∃r:Nat,Jf [I n,I mode]=some [I ((if(mode=1/\r*r<n)\/(mode=2/\r*r+r<n)then r+1 else r:Nat):Int),B true]/\r*r<=n/\n<(r+1)*(r+1):=by
 have hnw:n<w64:=by rw[BI];omega
 obtain⟨r,h1,h2,h3,h4⟩:=Q0g (hi:=0) (lo:=n) OW hnw;rw[Nat.zero_mul,Nat.zero_add]at h2 h3;obtain⟨hi,lo,e1,e2,e3⟩:∃hi lo:Nat,Ir [U r,U r]=some [U hi,U lo]/\hi*w64+lo=r*r/\lo<w64:=⟨_,_,Q5t h4 h4,Qt2 _,Nat.mod_lt _ OW⟩;have hhi:hi=0:=by
  rcases Nat.eq_zero_or_pos hi with h|h
  ·exact h
  ·have:=Nat.mul_le_mul_right w64 h;omega
 subst hhi;have hlo:lo=r*r:=by omega
 subst hlo;have z:=Q8i (x:=0) (y:=0) OW (Nat.le_refl _);refine⟨r,?_,h2,h3⟩;exact Ze1 hn (Qgr (.inr hmode)) (Zx2 hn h2 h1 e1 (Q8i hnw h2) z (fun k hk=>Qgf hk) hmode)
end Go.Bm
namespace Go.Bm
def Bd (a b:Int):Int:=(2*a+b)/(2*b)
theorem Le {a b k:Int} (hb:0<b) (h1:k*(2*b)<=2*a+b) (h2:2*a+b<(k+1)*(2*b)):Bd a b=k:=by
 unfold Bd;have g1:k<=(2*a+b)/(2*b):=(Int.le_ediv_iff_mul_le (by omega)).2 h1;have g2:(2*a+b)/(2*b)<k+1:=(Int.ediv_lt_iff_lt_mul (by omega)).2 h2;omega
theorem Qpv {p c:Nat} (hp:p<w64) (hc:0<c):Gv [U 0,U p,U c]=some [U ((p/c:Nat):Int),U ((p%c:Nat):Int)]:=by
 rw[BI]at hp;have h1:(p:Int).tdiv (c:Int)=((p/c:Nat):Int):=by rw[Int.tdiv_eq_ediv_of_nonneg (by omega)];simp
 have h2:(p:Int).tmod (c:Int)=((p%c:Nat):Int):=by rw[Int.tmod_eq_emod_of_nonneg (by omega)];simp
 have h3:p/c<=p:=Nat.div_le_self _ _;unfold Gv;generalize Ij=M;generalize RK=N1;generalize Qfa=N2;rw[Qqi];rw[Ba (by simp;omega),AX (by omega),Br (by simp),AX (by omega),AX (by omega),h1,h2];generalize p/c=q at*;rw[Hm (by omega)]
theorem Q5j (more:Int) (some_ neg:Bool):He [I 2,I more,B some_,B neg]=some [B (if more>0 then true else if more=0 then !neg else false)]:=by
 unfold He;rw[Qwo];simp only[go_sem];rw[if_neg (by omega),if_neg (by omega)]
 repeat' split
 all_goals rfl
theorem Q1e {n:Nat} (h:n<=9223372036854775808):EV [U n,B true]=some [I (-(n:Int)),B true]:=by
 unfold EV;rw[Yf];simp only[go_sem];rw[if_pos (by omega),NO,Qeq];have:((0-(n:Int))%18446744073709551616+9223372036854775808)%18446744073709551616-9223372036854775808= -(n:Int):=by omega
 rw[this]
def Gf (q r c:Nat) (neg:Bool):Nat:=if r>c-r then q+1 else if r<c-r then q else if neg then q else q+1
theorem Zge {M1 M2 M3 M4 M5 M6 M7:Fn} {a b s:Int} {A C p q r c:Nat} (hc0:0<c) (hc1:c<9223372036854775808) (hr:r<c) (hq:q<9223372036854775807)
  (k1:M7 [I 2]=some [B true]) (k2:M6 [I a]=some [U A]) (k3:M6 [I b]=some [U C]) (k4:M6 [I c]=some [U c]) (k5:M5 [U A,U C]=some [U 0,U p]) (k6:M4 [U 0,U p,U c]=some [U q,U r]) (k7:M3 [I a,I b]=some [I s])
  (k8:∀(more:Int) (some_ neg:Bool),M2 [I 2,I more,B some_,B neg]=some [B (if more>0 then true else if more=0 then !neg else false)])
  (k9:∀k:Nat,k<9223372036854775808->M1 [U k,B false]=some [I k,B true]) (k10:∀k:Nat,k<9223372036854775808->M1 [U k,B true]=some [I (-(k:Int)),B true]):
  Tu M1 M2 M3 M4 M5 M6 M7 [I a,I b,I c,I 2]=some [I (if s<0 then-(Gf q r c true:Int)else(Gf q r c false:Int)),B true]:=by
 have w1:IntKind.u64.wrap ((c:Int)-(r:Int))=((c-r:Nat):Int):=by rw[Hm (by omega)];omega
 have w2:IntKind.u64.wrap ((q:Int)+1)=((q+1:Nat):Int):=by rw[Hm (by omega)];omega
 have n1:=k9 q (by omega);have n2:=k9 (q+1) (by omega);rw[Q1z];simp only[go_sem,k1,k2,k3,k4,k5,k6,k7,k8,w1,w2,n1,n2];rw[if_neg (by omega),if_neg (by simp),if_neg (by omega)];by_cases hs:s<0
 ·rw[if_pos hs];rw[if_pos (show¬(s<0↔(c:Int)<0) by omega)];have hne:(s !=0)=true:=by simp;omega
  rw[hne];unfold Gf;by_cases g1:r>c-r
  ·rw[if_pos g1];rw[if_pos (show(r:Int)>((c-r:Nat):Int) by omega),if_pos (by decide),if_neg (show¬((q+1:Nat):Int)=0 by omega),k10 (q+1) (by omega)];simp only[go_sem]
  ·rw[if_neg g1];rw[if_neg (show¬(r:Int)>((c-r:Nat):Int) by omega)];by_cases g2:r<c-r
   ·rw[if_pos g2];rw[if_pos (show(r:Int)<((c-r:Nat):Int) by omega),if_neg (by decide),k10 q (by omega)];simp only[go_sem]
   ·rw[if_neg g2,if_pos rfl];rw[if_neg (show¬(r:Int)<((c-r:Nat):Int) by omega),if_neg (by decide),k10 q (by omega)];simp only[go_sem]
 ·rw[if_neg hs];rw[if_neg (show¬¬(s<0↔(c:Int)<0) by omega)];unfold Gf;by_cases g1:r>c-r
  ·rw[if_pos g1,if_pos (show(r:Int)>((c-r:Nat):Int) by omega),if_pos (by decide),if_neg (show¬((q+1:Nat):Int)=0 by omega)]
  ·rw[if_neg g1,if_neg (show¬(r:Int)>((c-r:Nat):Int) by omega)];by_cases g2:r<c-r
   ·rw[if_pos g2,if_pos (show(r:Int)<((c-r:Nat):Int) by omega),if_neg (by decide)]
   ·rw[if_neg g2,if_neg (show¬(r:Int)<((c-r:Nat):Int) by omega),if_pos (by decide),if_neg (show¬((q+1:Nat):Int)=0 by omega),if_neg (by decide)]
theorem Zz3 (q r c:Nat):Gf q r c false=if r<c-r then q else q+1:=by
 unfold Gf;by_cases h1:r>c-r
 ·rw[if_pos h1,if_neg (by omega)]
 ·rw[if_neg h1];by_cases h2:r<c-r
  ·rw[if_pos h2,if_pos h2]
  ·rw[if_neg h2,if_neg h2,if_neg (by simp)]
theorem Zvv (q r c:Nat):Gf q r c true=if r>c-r then q+1 else q:=by
 unfold Gf;by_cases h1:r>c-r
 ·rw[if_pos h1,if_pos h1]
 ·rw[if_neg h1,if_neg h1];by_cases h2:r<c-r
  ·rw[if_pos h2]
  ·rw[if_neg h2,if_pos rfl]
theorem Q5z {p q r c:Nat} (hc:0<c) (h:p=c*q+r) (hr:r<c):Bd p c=Gf q r c false:=by
 have e:(p:Int)=(c:Int)*q+r:=by rw[h];simp
 have e3:(q:Int)*(2*c)=2*((c:Int)*q):=by grind
 have e4:((q+1:Nat):Int)*(2*c)=2*((c:Int)*q)+2*c:=by grind
 have e5:((q:Int)+1)*(2*c)=2*((c:Int)*q)+2*c:=by grind
 have e6:(((q+1:Nat):Int)+1)*(2*c)=2*((c:Int)*q)+4*c:=by grind
 rw[Zz3];by_cases g:r<c-r
 ·rw[if_pos g];exact Le (by omega) (by rw[e3];omega) (by rw[e5];omega)
 ·rw[if_neg g];exact Le (by omega) (by rw[e4];omega) (by rw[e6];omega)
theorem Zq2 {p q r c:Nat} (hc:0<c) (h:p=c*q+r) (hr:r<c):Bd (-(p:Int)) c= -(Gf q r c true:Int):=by
 have e:(p:Int)=(c:Int)*q+r:=by rw[h];simp
 have e3: -(q:Int)*(2*c)= -(2*((c:Int)*q)):=by grind
 have e4: -((q+1:Nat):Int)*(2*c)= -(2*((c:Int)*q))-2*c:=by grind
 have e5:(-(q:Int)+1)*(2*c)= -(2*((c:Int)*q))+2*c:=by grind
 have e6:(-((q+1:Nat):Int)+1)*(2*c)= -(2*((c:Int)*q)):=by grind
 rw[Zvv];by_cases g:r>c-r
 ·rw[if_pos g];exact Le (by omega) (by rw[e4];omega) (by rw[e6];omega)
 ·rw[if_neg g];exact Le (by omega) (by rw[e3];omega) (by rw[e5];omega)
theorem SO {a b c:Int} (ha:i64 a) (hb:i64 b) (hc:0<c/\c<9223372036854775808) (hp:a.natAbs*b.natAbs<9223372036854775807):Bq [I a,I b,I c,I 2]=some [I (Bd (a*b) c),B true]:=by
 obtain⟨hi,lo,e1,e2,e3⟩:=NG (L1 ha) (L1 hb);have hm:=Rg a b;have hs:=R2 a b;have hz:a*b=0->a.natAbs*b.natAbs=0:=fun h=>by rw[<-Int.natAbs_mul,h];rfl
 generalize a.natAbs*b.natAbs=p at*;have hhi:hi=0:=by
  rcases Nat.eq_zero_or_pos hi with h|h
  ·exact h
  ·have:=Nat.mul_le_mul_right w64 h;have:=BI;omega
 subst hhi;have hlo:lo=p:=by omega
 subst hlo;obtain⟨n,rfl⟩:=Int.eq_ofNat_of_zero_le (show 0<=c by omega);have hn:0<n:=by omega
 have h1:=Nat.div_add_mod lo n;have h2:=Nat.mod_lt lo hn;have h3:lo/n<=lo:=Nat.div_le_self _ _;have hd:=Qpv e3 hn;have hcs:=HY (x:=(n:Int)) (by unfold i64;omega);rw[Int.natAbs_natCast]at hcs;generalize lo/n=q at*;generalize lo%n=r at*;have hmain:=Zge (M1:=EV) (M2:=He) (M3:=Fz) (M4:=Gv) (M5:=Ef) (M6:=Gb) (M7:=Fv) hn (by omega) h2 (by omega)
  (Qgr (.inr (.inr rfl))) (HY ha) (HY hb) hcs e1 hd (Qb5 a b) Q5j (fun k hk=>Qgf hk) (fun k hk=>Q1e (by omega))
 have hv:(if sgn a b<0 then-(Gf q r n true:Int)else(Gf q r n false:Int))=Bd (a*b) n:=by
  rcases hs with⟨g1,g2⟩|⟨g1,g2⟩|⟨g1,g2⟩
  ·rw[if_neg (by omega),g2];rw[g1]at hm;have:lo=0:=hz g2;rw[<-Q5z hn h1.symm h2,this];rfl
  ·rw[if_neg (by omega),<-Q5z hn h1.symm h2,<-hm,g1,Int.one_mul]
  ·rw[if_pos (by omega),<-Zq2 hn h1.symm h2,<-hm,g1,Int.neg_mul,Int.one_mul]
 rw[hv]at hmain;exact hmain
end Go.Bm
namespace Go.Bm
def val:List Nat->Nat
 |[]=>0
 |d::l=>d+65536*val l
def Dig (l:List Nat):Prop:=∀d∈l,d<65536
theorem Dig.sub {l m:List Nat} (h:Dig l) (hs:∀d∈m,d∈l):Dig m:=fun d hd=>h d (hs d hd)
end Go.Bm
namespace Go.Bm
theorem Dig.set {l:List Nat} (h:Dig l) (j d:Nat) (hd:d<65536):Dig (l.set j d):=by
 intro x hx;rcases List.mem_or_eq_of_mem_set hx with h'|rfl
 ·exact h x h'
 ·exact hd
end Go.Bm
namespace Go.Bm
def bd (A:Nat) (p:Pt):Prop:=p.x.natAbs<=A/\p.y.natAbs<=A/\p.z.natAbs<=A
def ID (a b:Pt):Int:=a.x*b.x+a.y*b.y+a.z*b.z
def GS (a b:Pt):Pt:=⟨a.x-b.x,a.y-b.y,a.z-b.z⟩
theorem Hi {x y:Int} {A B:Nat} (hx:x.natAbs<=A) (hy:y.natAbs<=B):(x*y).natAbs<=A*B:=by rw[Int.natAbs_mul];exact Nat.mul_le_mul hx hy
theorem AV {A B:Nat} {a:Pt} (h:bd A a) (hab:A<=B):bd B a:=⟨Nat.le_trans h.1 hab,Nat.le_trans h.2.1 hab,Nat.le_trans h.2.2 hab⟩
theorem Zdh (a b:Pt):ID (GS a b) (GS a b)=ID (GS b a) (GS b a):=by
 simp only[ID,GS];have h:∀x y:Int,(x-y)*(x-y)=(y-x)*(y-x):=by intro x y;rw[<-Int.neg_mul_neg,Int.neg_sub]
 rw[h a.x,h a.y,h a.z]
theorem Zrv {x y:Int}:Ky x y<=0↔x<=y:=by
 unfold Ky;by_cases h:x<y
 ·rw[if_pos h];omega
 ·rw[if_neg h];by_cases h':x=y
  ·rw[if_pos h'];omega
  ·rw[if_neg h'];omega
end Go.Bm
namespace Go.Bm
theorem Qr0 (v:Nat) (h:v<w64):IntKind.u64.wrap (((BitVec.ofInt IntKind.u64.bits (v:Int)&&&BitVec.ofInt IntKind.u64.bits 4294967295).toNat:Nat):Int)=((v%4294967296:Nat):Int):=by
 rw[BI]at h;have e:(BitVec.ofInt IntKind.u64.bits (v:Int)&&&BitVec.ofInt IntKind.u64.bits 4294967295).toNat=v%4294967296:=by
  rw[BitVec.toNat_and];have e1:(BitVec.ofInt IntKind.u64.bits (v:Int)).toNat=v:=by
   simp only[IntKind.bits,BitVec.toNat_ofInt];omega
  have e2:(BitVec.ofInt IntKind.u64.bits 4294967295).toNat=2^32-1:=by
   simp only[IntKind.bits,BitVec.toNat_ofInt];rfl
  rw[e1,e2,Nat.and_two_pow_sub_one_eq_mod]
 rw[e,Hm (by omega)]
theorem Qvr (v:Nat):(v:Int).fdiv (2^min (Int.toNat 32) IntKind.u64.bits)=((v/4294967296:Nat):Int):=by
 have e:(2^min (Int.toNat 32) IntKind.u64.bits:Int)=4294967296:=rfl;rw[e,Int.fdiv_eq_ediv_of_nonneg _ (by omega)];omega
def Ev (a n:Nat) (down:Bool) (j:Nat):Prop:=
 (j=0\/if down=true then(2*j-1)*(2*j-1)*n<4*(a*a)else(2*j-1)*(2*j-1)*n<=4*(a*a))/\
 (if down=true then 4*(a*a)<=(2*j+1)*(2*j+1)*n else 4*(a*a)<(2*j+1)*(2*j+1)*n)
theorem OL {p q n:Nat} (h:p<=q):p*p*n<=q*q*n:=Nat.mul_le_mul_right _ (Nat.mul_le_mul h h)
theorem Zvl {a n:Nat} {down:Bool} {i j:Nat} (hi:Ev a n down i) (hj:Ev a n down j):i=j:=by
 have key:∀{i j:Nat},Ev a n down i->Ev a n down j-> ¬i<j:=by
  rintro i j ⟨-,h2⟩ ⟨h3,-⟩ hlt;have h4:=OL (n:=n) (show 2*i+1<=2*j-1 by omega);rcases h3 with h3|h3
  ·omega
  ·by_cases hd:down=true
   ·rw[if_pos hd]at h2 h3;omega
   ·rw[if_neg hd]at h2 h3;omega
 have h1:=key hi hj;have h2:=key hj hi;omega
open Classical in
noncomputable def rnd (a n:Nat) (down:Bool):Nat:=if h:∃j,Ev a n down j then Classical.choose h else 0
theorem Rm {a n:Nat} {down:Bool} {j:Nat} (h:Ev a n down j):rnd a n down=j:=by
 have hx:∃j,Ev a n down j:=⟨j,h⟩;unfold rnd;rw[dif_pos hx];exact Zvl (Classical.choose_spec hx) h
noncomputable def BY (x r n:Int):Int:=if x<0 then-(rnd (x.natAbs*r.natAbs) n.natAbs true:Int)else(rnd (x.natAbs*r.natAbs) n.natAbs false:Int)
theorem TX {X R n j:Nat} {down:Bool} (hn:0<n) (hx:X*X<=n) (h:Ev (X*R) n down j):j<=R:=by
 by_cases c:j<=R
 ·exact c
 exfalso;have e:4*(X*R*(X*R))=(2*R)*(2*R)*(X*X):=by grind
 have h2:(2*R)*(2*R)*(X*X)<=(2*R)*(2*R)*n:=Nat.mul_le_mul_left _ hx;have h3:(2*R)*(2*R)*n<(2*R+1)*(2*R+1)*n:=Nat.mul_lt_mul_of_pos_right (Nat.mul_self_lt_mul_self (by omega)) hn;have h4:(2*R+1)*(2*R+1)*n<=(2*j-1)*(2*j-1)*n:=OL (by omega);obtain⟨h5,-⟩:=h;rcases h5 with h5|h5
 ·omega
 ·split at h5<;>omega
theorem Zux {X R n j:Nat} {down:Bool} (hn:0<n) (hx:R*R<=n) (h:Ev (X*R) n down j):j<=X:=by
 rw[Nat.mul_comm]at h;exact TX hn hx h
theorem Zj2 {a n q:Nat} (down:Bool) (h1:q*q*n<=a*a) (h2:a*a<(q+1)*(q+1)*n):
  Ev a n down (if(if down=true then(2*q+1)*(2*q+1)*n<2*a*(2*a)else(2*q+1)*(2*q+1)*n<=2*a*(2*a))then q+1 else q):=by
 have e4:2*a*(2*a)=4*(a*a):=by grind
 rw[e4];have e1:4*(q*q*n)<=4*(a*a):=Nat.mul_le_mul_left _ h1;have e2:4*(a*a)<4*((q+1)*(q+1)*n):=by omega
 have e5:(2*q-1)*(2*q-1)*n<=(2*q)*(2*q)*n:=OL (by omega);have e6:(2*q)*(2*q)*n=4*(q*q*n):=by grind
 have e7:(2*(q+1))*(2*(q+1))*n=4*((q+1)*(q+1)*n):=by grind
 have e8:(2*(q+1))*(2*(q+1))*n<=(2*(q+1)+1)*(2*(q+1)+1)*n:=OL (by omega);have e9:n=0\/q=0\/(2*q-1)*(2*q-1)*n<(2*q)*(2*q)*n:=by
  by_cases hn:n=0
  ·exact .inl hn
  ·by_cases hq:q=0
   ·exact .inr (.inl hq)
   ·right;right;refine Nat.mul_lt_mul_of_pos_right ?_ (by omega);exact Nat.mul_self_lt_mul_self (by omega)
 have hn:n≠0:=by rintro rfl;simp at h2
 unfold Ev;cases down
 ·simp only[Bool.false_eq_true,if_false];by_cases c:(2*q+1)*(2*q+1)*n<=4*(a*a)
  ·rw[if_pos c];refine⟨.inr ?_,by omega⟩;rw[show 2*(q+1)-1=2*q+1 by omega];exact c
  ·rw[if_neg c];exact⟨by omega,by omega⟩
 ·simp only[if_true];by_cases c:(2*q+1)*(2*q+1)*n<4*(a*a)
  ·rw[if_pos c];refine⟨.inr ?_,by omega⟩;rw[show 2*(q+1)-1=2*q+1 by omega];exact c
  ·rw[if_neg c];exact⟨by omega,by omega⟩
theorem Zj0 {A N:Nat} (hN:0<N):∃q:Nat,q*q*N<=A*A/\A*A<(q+1)*(q+1)*N:=by
 have key:∀n:Nat,∃r:Nat,r*r<=n/\n<(r+1)*(r+1):=by
  intro n;induction n with
  |zero=>exact⟨0,by simp,by simp⟩
  |succ n ih=>
   obtain⟨r,h1,h2⟩:=ih;by_cases h:n+1<(r+1)*(r+1)
   ·exact⟨r,by omega,h⟩
   ·refine⟨r+1,by omega,?_⟩;have:(r+1+1)*(r+1+1)=(r+1)*(r+1)+2*(r+1)+1:=by grind
    omega
 obtain⟨q,h1,h2⟩:=key (A*A/N);exact⟨q,(Nat.le_div_iff_mul_le hN).1 h1,(Nat.div_lt_iff_lt_mul hN).1 h2⟩
theorem Qx {x r n:Int} (hx:x.natAbs<=33554432*4) (hr:0<=r/\r<=33554432*4) (hn:0<n/\n<=4611686018427387904) (hxn:x*x<=n):
  True/\(BY x r n).natAbs<=268435456/\Ev (x.natAbs*r.natAbs) n.natAbs (decide (x<0)) (BY x r n).natAbs:=by
 obtain⟨R,rfl⟩:=Int.eq_ofNat_of_zero_le hr.1;obtain⟨N,rfl⟩:=Int.eq_ofNat_of_zero_le (show 0<=n by omega);have hxx:x.natAbs*x.natAbs<=N:=by
  have:((x.natAbs*x.natAbs:Nat):Int)=x*x:=by rw[Int.natAbs_mul_self]
  omega
 simp only[BY,Int.natAbs_natCast];obtain⟨q,l2,l3⟩:=Zj0 (A:=x.natAbs*R) (N:=N) (by omega);obtain⟨j,hi⟩:∃j,Ev (x.natAbs*R) N (decide (x<0)) j:=⟨_,Zj2 (decide (x<0)) l2 l3⟩;have hle:=TX (X:=x.natAbs) (R:=R) (by omega) hxx hi;have hrr:=Rm hi;by_cases hx0:x<0
 ·have e:=decide_eq_true hx0;rw[e]at hi hrr⊢;rw[if_pos hx0,hrr,Int.natAbs_neg,Int.natAbs_natCast];exact⟨trivial,by omega,hi⟩
 ·have e:=decide_eq_false hx0;rw[e]at hi hrr⊢;rw[if_neg hx0,hrr,Int.natAbs_natCast];exact⟨trivial,by omega,hi⟩
def H0 (n k:Int):Prop:=0<=k/\n<=k*k/\(k=0\/(k-1)*(k-1)<n)
theorem Zsy {n i j:Int} (hi:H0 n i) (hj:H0 n j):i=j:=by
 have key:∀{i j:Int},H0 n i->H0 n j-> ¬i<j:=by
  rintro i j ⟨h1,h2,-⟩ ⟨h4,h5,h6⟩ hlt;rcases h6 with h6|h6
  ·omega
  ·have:=Int.mul_self_le_mul_self h1 (show i<=j-1 by omega);omega
 have h1:=key hi hj;have h2:=key hj hi;omega
open Classical in
noncomputable def upR (n:Int):Int:=if h:∃j,H0 n j then Classical.choose h else 0
theorem Qwi {n k:Int} (h:H0 n k):upR n=k:=by
 have hx:∃j,H0 n j:=⟨k,h⟩;unfold upR;rw[dif_pos hx];exact Zsy (Classical.choose_spec hx) h
theorem Q0v {n r:Nat} (h1:r*r<=n) (h2:n<(r+1)*(r+1)):H0 n (if r*r<n then r+1 else r:Nat):=by
 unfold H0;by_cases c:r*r<n
 ·rw[if_pos c];have e1:((r+1:Nat):Int)*((r+1:Nat):Int)=(((r+1)*(r+1):Nat):Int):=(Int.natCast_mul _ _).symm;have e2:(((r+1:Nat):Int)-1)*(((r+1:Nat):Int)-1)=((r*r:Nat):Int):=by
   rw[show((r+1:Nat):Int)-1=(r:Int) by omega];exact(Int.natCast_mul _ _).symm
  rw[e1,e2];generalize(r+1)*(r+1)=A at*;generalize r*r=B at*;exact⟨by omega,by omega, .inr (by omega)⟩
 ·rw[if_neg c];have e1:(r:Int)*(r:Int)=((r*r:Nat):Int):=(Int.natCast_mul _ _).symm;rw[e1];refine⟨by omega,by omega,?_⟩;rcases Nat.eq_zero_or_pos r with h|h
  ·left;omega
  ·right;have e2:((r:Int)-1)*((r:Int)-1)=(((r-1)*(r-1):Nat):Int):=by
    rw[show(r:Int)-1=((r-1:Nat):Int) by omega];exact(Int.natCast_mul _ _).symm
   have:=Nat.mul_self_lt_mul_self (show r-1<r by omega);rw[e2];omega
theorem Zia (k:Nat):((2^(k+1):Nat):Int).fdiv (2^min (Int.toNat 1) IntKind.i64.bits)=((2^k:Nat):Int):=by
 have e:(2^min (Int.toNat 1) IntKind.i64.bits:Int)=2:=rfl;rw[e,Int.fdiv_eq_ediv_of_nonneg _ (by omega),Nat.pow_succ];omega
theorem Zo4:(1:Int).fdiv (2^min (Int.toNat 1) IntKind.i64.bits)=0:=rfl
theorem Zto:∀n:Nat,∃r:Nat,r*r<=n/\n<(r+1)*(r+1):=by
 intro n;induction n with
 |zero=>exact⟨0,by simp,by simp⟩
 |succ n ih=>
  obtain⟨r,h1,h2⟩:=ih;by_cases h:n+1<(r+1)*(r+1)
  ·exact⟨r,by omega,h⟩
  ·refine⟨r+1,by omega,?_⟩;have:(r+1+1)*(r+1+1)=(r+1)*(r+1)+2*(r+1)+1:=by grind
   omega
theorem To {n:Nat} (hn:n<4611686018427387904):∃r:Nat,True/\r*r<=n/\n<(r+1)*(r+1)/\r<2147483648:=by
 obtain⟨r,h1,h2⟩:=Zto n;refine⟨r,trivial,h1,h2,?_⟩;by_cases c:r<2147483648
 ·exact c
 ·have:=Nat.mul_le_mul (show 2147483648<=r by omega) (show 2147483648<=r by omega);omega
def sqD (a b:Pt):Int:=ID (GS a b) (GS a b)
theorem Qa (a b:Pt):0<=sqD a b:=by
 unfold sqD ID;have h:∀u:Int,0<=u*u:=fun u=>by rw[<-Int.natAbs_mul_self];omega
 have:=h (GS a b).x;have:=h (GS a b).y;have:=h (GS a b).z;omega
theorem DM {x:Int} {A:Nat} (h:x.natAbs<=A):0<=x*x/\x*x<=((A*A:Nat):Int):=by
 have:=Nat.mul_le_mul h h;rw[<-Int.natAbs_mul_self];omega
theorem Qe {A:Nat} {a b:Pt} (ha:bd A a) (hb:bd A b) (hA:A<=67108864):sqD a b<=54043195528445952:=by
 have h:∀x y:Int,x.natAbs<=A->y.natAbs<=A->(x-y)*(x-y)<=18014398509481984:=by
  intro x y hx hy;exact(DM (x:=x-y) (A:=134217728) (by omega)).2
 have h1:=h _ _ ha.1 hb.1;have h2:=h _ _ ha.2.1 hb.2.1;have h3:=h _ _ ha.2.2 hb.2.2;unfold sqD ID GS;simp only;omega
noncomputable def AB (a b:Pt):Int:=upR (sqD a b)
theorem Qm9 {a b:Pt} (ha:bd 67108864 a) (hb:bd 67108864 b):True/\H0 (sqD a b) (AB a b):=by
 have h0:=Qa a b;have h1:=Qe ha hb (Nat.le_refl _);obtain⟨d,hd⟩:=Int.eq_ofNat_of_zero_le h0;unfold AB;rw[hd]at h1⊢;obtain⟨r,-,h2,h3,h4⟩:=To (n:=d) (by omega);have hu:=Q0v h2 h3;rw[Qwi hu];exact⟨trivial,hu⟩
theorem Ih {a b:Pt} (ha:bd 67108864 a) (hb:bd 67108864 b):0<=AB a b/\AB a b<=268435456:=by
 obtain⟨-,h1,h2,h3⟩:=Qm9 ha hb;have h4:=Qe ha hb (Nat.le_refl _);refine⟨h1,?_⟩;rcases h3 with h3|h3
 ·omega
 ·by_cases c:AB a b<=268435456
  ·exact c
  ·have:=Int.mul_self_le_mul_self (a:=268435456) (b:=AB a b-1) (by omega) (by omega);omega
def IZ (n k:Int):Prop:=0<=k/\n<=k*(k+1)/\(k=0\/(k-1)*k<n)
end Go.Bm
namespace Go.Bm
theorem H4 {x:Int} {A:Nat} (h:x.natAbs<=A) (hA:A<=9223372036854775807):IntKind.i64.wrap x=x:=Ae (by omega)
theorem In {x y:Int} {A B:Nat} (hx:x.natAbs<=A) (hy:y.natAbs<=B):(x-y).natAbs<=A+B:=by omega
theorem RZ {x y:Int} {A B:Nat} (hx:x.natAbs<=A) (hy:y.natAbs<=B):(x+y).natAbs<=A+B:=by omega
theorem Qms {c u x:Int} {A:Nat} (hc:c.natAbs<=A) (ha:(c+x).natAbs<=A) (h:(0<=x->0<=u/\u<=x)/\(x<=0->x<=u/\u<=0)):(c+u).natAbs<=A:=by
 rcases Int.le_total 0 x with g|g
 ·have:=h.1 g;omega
 ·have:=h.2 g;omega
theorem W1 (a b:Pt):sqD a b=(a.x-b.x)*(a.x-b.x)+(a.y-b.y)*(a.y-b.y)+(a.z-b.z)*(a.z-b.z):=rfl
theorem FI (u:Int):0<=u*u:=by rw[<-Int.natAbs_mul_self];omega
theorem Wd {a b:Pt}:sqD a b=0↔a=b:=by
 rw[W1];obtain⟨a1,a2,a3⟩:=a;obtain⟨b1,b2,b3⟩:=b;have h1:=FI (a1-b1);have h2:=FI (a2-b2);have h3:=FI (a3-b3);constructor
 ·intro h;simp only at h;have e1:(a1-b1)*(a1-b1)=0:=by omega
  have e2:(a2-b2)*(a2-b2)=0:=by omega
  have e3:(a3-b3)*(a3-b3)=0:=by omega
  have z:∀u:Int,u*u=0->u=0:=fun u hu=>by
   rcases Int.mul_eq_zero.1 hu with h|h<;>exact h
  have:=z _ e1;have:=z _ e2;have:=z _ e3;rw[Pt.mk.injEq];omega
 ·intro h;injection h with h4 h5 h6;subst h4 h5 h6;simp
theorem Quv (a b:Pt):(a.x-b.x)*(a.x-b.x)<=sqD a b/\(a.y-b.y)*(a.y-b.y)<=sqD a b/\(a.z-b.z)*(a.z-b.z)<=sqD a b:=by
 rw[W1];have h1:=FI (a.x-b.x);have h2:=FI (a.y-b.y);have h3:=FI (a.z-b.z);omega
noncomputable def BM (c a:Pt) (d:Int):Pt:=⟨c.x+BY (a.x-c.x) d (sqD a c),c.y+BY (a.y-c.y) d (sqD a c),c.z+BY (a.z-c.z) d (sqD a c)⟩
abbrev B24:Nat:=16777216
theorem V4 {x r n:Int} (hx:x.natAbs<=33554432*4) (hr:0<=r/\r<=33554432*4) (hn:0<n/\n<=4611686018427387904) (hxn:x*x<=n) (hrn:r*r<=n):
  (0<=x->0<=BY x r n/\BY x r n<=x)/\(x<=0->x<=BY x r n/\BY x r n<=0):=by
 obtain⟨-,h2,h3⟩:=Qx hx hr hn hxn;have h4 := Zux (by omega) (by
  have:((r.natAbs*r.natAbs:Nat):Int)=r*r:=Int.natAbs_mul_self;omega) h3
 unfold BY at*;constructor
 ·intro h;rw[if_neg (by omega)]at h4⊢;omega
 ·intro h;by_cases c:x<0
  ·rw[if_pos c]at h4⊢;omega
  ·rw[if_neg c]at h4⊢;omega
theorem Q9r {a b:Pt} (ha:bd B24 a) (hb:bd B24 b):sqD a b<=3377699720527872:=by
 have h:∀x y:Int,x.natAbs<=B24->y.natAbs<=B24->(x-y)*(x-y)<=1125899906842624:=by
  intro x y hx hy;unfold B24 at*;exact(DM (x:=x-y) (A:=33554432) (by omega)).2
 have h1:=h _ _ ha.1 hb.1;have h2:=h _ _ ha.2.1 hb.2.1;have h3:=h _ _ ha.2.2 hb.2.2;rw[W1];omega
theorem Jx {c a:Pt} {d:Int} (hc:bd B24 c) (ha:bd B24 a) (hne:a≠c) (hd:0<=d/\d<AB a c):bd B24 (BM c a d):=by
 have h0:sqD a c≠0:=fun h=>hne (Wd.1 h);have h1:=Qa a c;have h2:=Qe (AV ha (by decide)) (AV hc (by decide)) (show 67108864<=67108864 by omega);obtain⟨-,g1,g2,g3⟩:=Qm9 (AV ha (show B24<=67108864 by decide)) (AV hc (show B24<=67108864 by decide));have hl:=Ih (AV ha (show B24<=67108864 by decide)) (AV hc (show B24<=67108864 by decide));have hdd:d*d<=sqD a c:=by
  have:=Int.mul_self_le_mul_self hd.1 (show d<=AB a c-1 by omega);omega
 have hd2:d<=33554432*4:=by
  by_cases c2:d<=33554432*4
  ·exact c2
  ·exfalso;have h3:=Int.mul_self_le_mul_self (a:=33554432*4+1) (b:=d) (by omega) (by omega);have h4:=Q9r ha hc;omega
 obtain⟨q1,q2,q3⟩:=Quv a c;have hn:0<sqD a c/\sqD a c<=4611686018427387904:=⟨Int.lt_iff_le_and_ne.2 ⟨h1,fun h=>h0 h.symm⟩,Int.le_trans h2 (by decide)⟩;have hd3:0<=d/\d<=33554432*4:=⟨hd.1,hd2⟩;have k1:=V4 (x:=a.x-c.x) (r:=d) (n:=sqD a c) (Nat.le_trans (In ha.1 hc.1) (by decide)) hd3 hn q1 hdd;have k2:=V4 (x:=a.y-c.y) (r:=d) (n:=sqD a c) (Nat.le_trans (In ha.2.1 hc.2.1) (by decide)) hd3 hn q2 hdd;have k3:=V4 (x:=a.z-c.z) (r:=d) (n:=sqD a c) (Nat.le_trans (In ha.2.2 hc.2.2) (by decide)) hd3 hn q3 hdd;have e:∀x y:Int,x+(y-x)=y:=fun x y=>by omega
 exact⟨Qms hc.1 (by rw[e];exact ha.1) k1,Qms hc.2.1 (by rw[e];exact ha.2.1) k2,Qms hc.2.2 (by rw[e];exact ha.2.2) k3⟩
def F9 (p c q:Pt):Pt:=⟨p.x-c.x+(q.x-c.x),p.y-c.y+(q.y-c.y),p.z-c.z+(q.z-c.z)⟩
def HC (p c q:Pt):Int:=ID (F9 p c q) (F9 p c q)
theorem Zw2 {p c q:Pt} (hp:bd B24 p) (hc:bd B24 c) (hq:bd B24 q):bd 67108864 (F9 p c q):=by
 unfold bd B24 F9 at*;simp only;omega
def GW (a c b:Pt) (tol d:Int):Prop:=d<=mn (AB a c) (AB c b)-2/\HC (BM c a d) c (BM c b d)<=16*tol*tol
theorem QQ (x y:Int):mn x y<=x/\mn x y<=y:=by unfold mn;split<;>omega
theorem Zhw (a b:Pt):sqD a b=sqD b a:=by
 unfold sqD;exact Zdh a b
theorem Ta (a b:Pt):AB a b=AB b a:=by unfold AB;rw[Zhw]
open Classical in
noncomputable def FN (P:Int->Prop):Nat->Int->Int
 |0,d=>if P (d+1)then d+1 else d
 |k+1,d=>FN P k (if P (d+((2^(k+1):Nat):Int))then d+((2^(k+1):Nat):Int)else d)
open Classical in
theorem Q12 {P:Int->Prop}:∀(k:Nat) (d:Int),d<=FN P k d/\FN P k d<d+((2^(k+1):Nat):Int)/\(FN P k d=d\/P (FN P k d))
 |0,d=>by
  have e:((2^(0+1):Nat):Int)=2:=rfl;rw[e];unfold FN;split
  ·rename_i h;exact⟨by omega,by omega, .inr h⟩
  ·exact⟨by omega,by omega, .inl rfl⟩
 |k+1,d=>by
  unfold FN;have hp:0<2^(k+1):=Nat.two_pow_pos _;have e3:2^(k+1+1)=2^(k+1)+2^(k+1):=by rw[Nat.pow_succ 2 (k+1)];omega
  rw[e3];have hif:(if P (d+((2^(k+1):Nat):Int))then d+((2^(k+1):Nat):Int)else d)=d\/((if P (d+((2^(k+1):Nat):Int))then d+((2^(k+1):Nat):Int)else d)=d+((2^(k+1):Nat):Int)/\P (if P (d+((2^(k+1):Nat):Int))then d+((2^(k+1):Nat):Int)else d)):=by
   split
   ·rename_i h;exact .inr ⟨rfl,h⟩
   ·exact .inl rfl
  generalize(if P (d+((2^(k+1):Nat):Int))then d+((2^(k+1):Nat):Int)else d)=d' at*;obtain⟨h1,h2,h3⟩:=Q12 (P:=P) k d';generalize FN P k d'=x at*;generalize 2^(k+1)=m at*;rcases hif with hif|⟨hif,hP⟩
  ·subst hif;exact⟨by omega,by omega,h3⟩
  ·refine⟨by omega,by omega, .inr ?_⟩;rcases h3 with h3|h3
   ·rw[h3];exact hP
   ·exact h3
open Classical in
noncomputable def Db (a c b:Pt) (tol:Int):Int:=if a=c\/b=c then 0 else if FN (GW a c b tol) 24 0<16 then 0 else FN (GW a c b tol) 24 0
theorem Qae {a c b:Pt} {tol:Int} (h:Db a c b tol≠0):a≠c/\b≠c/\16<=Db a c b tol/\Db a c b tol<33554432/\GW a c b tol (Db a c b tol):=by
 unfold Db at*;split at h
 ·exact absurd rfl h
 ·rename_i h1;rw[if_neg h1];split at h
  ·exact absurd rfl h
  ·rename_i h2;rw[if_neg h2];obtain⟨h3,h4,h5⟩:=Q12 (P:=GW a c b tol) 24 0;have e:((2^(24+1):Nat):Int)=33554432:=rfl;rw[e]at h4;refine⟨fun h=>h1 (.inl h),fun h=>h1 (.inr h),by omega,by omega,?_⟩;rcases h5 with h5|h5
   ·omega
   ·exact h5
theorem D8 {a b:Pt}:a=b↔a.x=b.x/\a.y=b.y/\a.z=b.z:=by
 obtain⟨a1,a2,a3⟩:=a;obtain⟨b1,b2,b3⟩:=b;simp
def Ly (bend:Int):Nat->Int->Int
 |0,n=>n
 |k+1,n=>if n<64/\bend>16*n*n*n*n*4*4 then Ly bend k (n*2)else n
def Kj (n:Int):Prop:=n=2\/n=4\/n=8\/n=16\/n=32\/n=64
def KA (p c q:Pt):Int:=Ly (HC p c q) 5 2
theorem Qve (b:Int):∀(k:Nat) (n:Int),Kj n->Kj (Ly b k n)
 |0,n,h=>by unfold Ly;exact h
 |k+1,n,h=>by
  unfold Ly;split
  ·rename_i c;refine Qve b k (n*2) ?_;rcases h with rfl|rfl|rfl|rfl|rfl|rfl<;>simp[Kj]at c⊢
  ·exact h
theorem Ve {p c q:Pt} (hp:bd B24 p) (hc:bd B24 c) (hq:bd B24 q):True/\Kj (KA p c q):=⟨trivial,Qve _ 5 2 (.inl rfl)⟩
def Og (n i p c q:Int):Int:=c+Bd ((n-i)*(n-i)*(p-c)+i*i*(q-c)) (n*n)
def Ou (n i:Int) (p c q:Pt):Pt:=⟨Og n i p.x c.x q.x,Og n i p.y c.y q.y,Og n i p.z c.z q.z⟩
theorem Se {a b n:Int} (hn:0<n) (h:a<=b):Bd a n<=Bd b n:=by
 unfold Bd;exact Int.ediv_le_ediv (by omega) (by omega)
theorem Q1 {k n:Int} (hn:0<n):Bd (k*n) n=k:=Le hn (by rw[show k*(2*n)=2*(k*n) by grind];omega) (by rw[show(k+1)*(2*n)=2*(k*n)+2*n by grind];omega)
theorem Nc {n i p c q:Int} {A:Nat} (hn:0<n) (hi:0<=i/\i<=n) (hp:p.natAbs<=A) (hc:c.natAbs<=A) (hq:q.natAbs<=A):(Og n i p c q).natAbs<=A:=by
 have hnn:0<n*n:=Int.mul_pos hn hn;have h1:0<=(n-i)*(n-i):=FI _;have h2:0<=i*i:=FI _;have h3:(n-i)*(n-i)+i*i<=n*n:=by
  have:n*n-((n-i)*(n-i)+i*i)=2*(i*(n-i)):=by grind
  have:0<=i*(n-i):=Int.mul_nonneg hi.1 (by omega);omega
 have key:∀s:Int,(s=1\/s= -1)->s*((n-i)*(n-i)*(p-c)+i*i*(q-c))<=(A-s*c)*(n*n):=by
  intro s hs;have hp':s*p<=A:=by rcases hs with rfl|rfl<;>omega
  have hc':s*c<=A:=by rcases hs with rfl|rfl<;>omega
  have hq':s*q<=A:=by rcases hs with rfl|rfl<;>omega
  have g1:(n-i)*(n-i)*(s*p-s*c)<=(n-i)*(n-i)*(A-s*c):=Int.mul_le_mul_of_nonneg_left (by omega) h1;have g2:i*i*(s*q-s*c)<=i*i*(A-s*c):=Int.mul_le_mul_of_nonneg_left (by omega) h2;have g3:((n-i)*(n-i)+i*i)*(A-s*c)<=n*n*(A-s*c):=Int.mul_le_mul_of_nonneg_right h3 (by omega);have e1:s*((n-i)*(n-i)*(p-c)+i*i*(q-c))=(n-i)*(n-i)*(s*p-s*c)+i*i*(s*q-s*c):=by grind
  have e2:((n-i)*(n-i)+i*i)*(A-s*c)=(n-i)*(n-i)*(A-s*c)+i*i*(A-s*c):=Int.add_mul ..;have e3:(A-s*c)*(n*n)=n*n*(A-s*c):=Int.mul_comm ..;omega
 unfold Og;have k1:=Se hnn (key 1 (.inl rfl)|>fun h=>(by rw[Int.one_mul,Int.one_mul]at h;exact h));rw[Q1 hnn]at k1;have k2:=key (-1) (.inr rfl);have k3:(-(A:Int)-c)*(n*n)<=(n-i)*(n-i)*(p-c)+i*i*(q-c):=by
  have e:(-(A:Int)-c)*(n*n)= -((A- -1*c)*(n*n)):=by grind
  omega
 have k4:=Se hnn k3;rw[Q1 hnn]at k4;omega
noncomputable def FQ (a c b:Pt) (tol:Int):List Pt:=
 if Db a c b tol=0 then [c]
 else(List.range ((KA (BM c a (Db a c b tol)) c (BM c b (Db a c b tol))).toNat+1)).map fun(i:Nat)=>Ou (KA (BM c a (Db a c b tol)) c (BM c b (Db a c b tol))) i (BM c a (Db a c b tol)) c (BM c b (Db a c b tol))
theorem Q7d {a c b:Pt} {tol:Int} (ha:bd B24 a) (hc:bd B24 c) (hb:bd B24 b):(∀p∈FQ a c b tol,bd B24 p)/\1<=(FQ a c b tol).length/\(FQ a c b tol).length<=65:=by
 unfold FQ;by_cases h:Db a c b tol=0
 ·rw[if_pos h];simp;exact hc
 ·rw[if_neg h];obtain⟨h1,h2,h3,h4,h5,-⟩:=Qae h;obtain⟨m1,m2⟩:=QQ (AB a c) (AB c b);generalize Db a c b tol=d at*;have k1:bd B24 (BM c a d):=Jx hc ha h1 (by omega);have k2:bd B24 (BM c b d):=Jx hc hb h2 (by rw[Ta b c];omega);have k3:=(Ve k1 hc k2).2;generalize KA (BM c a d) c (BM c b d)=n at*;have hn:2<=n/\n<=64:=by rcases k3 with rfl|rfl|rfl|rfl|rfl|rfl<;>omega
  refine⟨?_,by simp,by simp;omega⟩;intro p hp;simp only[List.mem_map,List.mem_range]at hp;obtain⟨i,hi,rfl⟩:=hp;exact⟨Nc (by omega) (by omega) k1.1 hc.1 k2.1,Nc (by omega) (by omega) k1.2.1 hc.2.1 k2.2.1,Nc (by omega) (by omega) k1.2.2 hc.2.2 k2.2.2⟩
end Go.Bm
namespace Go.Bm
theorem Qxd {v n:Int} (_:i64 v) (hn:0<n/\n<=4611686018427387904):G_ [I v,I n]=some [I (v%n)]:=by
 unfold G_;rw[Zxx,AX (by omega),AX (by omega)];have h1: -n<v.tmod n/\v.tmod n<n:=by
  have a1:=Int.tmod_lt_of_pos v hn.1;have a2:=Int.lt_tmod_of_pos v hn.1;omega
 rw[Ae (by omega)];have h2:(v.tmod n+n).tmod n=v%n:=by
  rw[Int.tmod_eq_emod_of_nonneg (by omega),Int.add_emod_right];have h3:=Int.tmod_add_mul_tdiv v n;have h4:v%n=(v.tmod n+n*v.tdiv n)%n:=by rw[h3]
  rw[h4,Int.add_mul_emod_self_left]
 rw[h2]
end Go.Bm
namespace Go.Bm
def Src (l:Rw):Prop:=l.length<=9223372036854775807/\∀c∈l,i64 (Af (nth .dead c 0))
theorem Zu3 {l:Rw} {i:Nat} (h:i<l.length):nth [] l i∈l:=by rw[GX [] l i h];exact List.getElem_mem h
theorem Z0t {M:Fn} (hM:∀v n:Int,i64 v->0<n/\n<=4611686018427387904->M [I v,I n]=some [I (v%n)]) {l:Rw} (hl:Src l) {k:Nat} {n:Int} (hn:0<n/\n<=4611686018427387904):
  ∃(v:Int) (k':Nat),XU M [I n, .view Aa l,I k]=some [I v, .view Aa l,I k']/\0<=v/\v<n/\k<=k'/\(k<l.length->k'=k+1)/\(l.length<=k->k'=k):=by
 have hl1:=hl.1;rw[Zkw];by_cases h:k<l.length
 ·have h1:=hM _ n (hl.2 _ (Zu3 h)) hn;simp only[go_sem,Int.toNat_natCast,h1];rw[if_neg (by omega),if_pos (by omega),Ae (by omega)];exact⟨_,k+1,rfl,Int.emod_nonneg _ (by omega),Int.emod_lt_of_pos _ hn.1,by omega,fun _=>rfl,by omega⟩
 ·simp only[go_sem];rw[if_pos (by omega)];exact⟨0,k,rfl,by omega,hn.1,by omega,by omega,fun _=>rfl⟩
theorem Zn4 {l:Rw} (hl:Src l) (k:Nat) {n:Int} (hn:0<n/\n<=4611686018427387904):
  ∃(v:Int) (k':Nat),BA [I n, .view Aa l,I k]=some [I v, .view Aa l,I k']/\0<=v/\v<n/\k<=k'/\(k<l.length->k'=k+1)/\(l.length<=k->k'=k):=
 Z0t (fun _ _ hv hn=>Qxd hv hn) hl hn
theorem Q1p (l:Rw) (k:Nat):FP [.view Aa l,I k]=some [B (decide (k<l.length)), .view Aa l,I k]:=by
 unfold FP;rw[Zr5];congr 3;simp
theorem PI (l:Rw):Cs [.view Aa l]=some [.view Aa l,I 0]:=by
 unfold Cs;rw[Zfj]
def AQ (r:Int) (k:Int):Int:=if k%4=0 then r else if k%4=2 then-r else 0
def AR (r:Int) (k:Int):Int:=if k%4=1 then r else if k%4=3 then-r else 0
theorem Zx9 {r k:Int} (hr:0<=r/\r<=1000000) (hk:0<=k/\k<=1000):Mv [I r,I k]=some [I (AQ r k),I (AR r k)]:=by
 unfold Mv;rw[Znu,Ae (by omega),Int.tmod_eq_emod_of_nonneg hk.1];have hc:k%4=0\/k%4=1\/k%4=2\/k%4=3:=by omega
 unfold AQ AR;rcases hc with h|h|h|h<;>rw[h]<;>simp[nth,Af]
end Go.Bm
namespace Go.Bm
def plU (pl:Int) (p:Pt):Int:=if pl=17 then p.x else if pl=18 then p.z else p.y
def plW (pl:Int) (p:Pt):Int:=if pl=17 then p.y else if pl=18 then p.x else p.z
def plH (pl:Int) (p:Pt):Int:=if pl=17 then p.z else if pl=18 then p.y else p.x
def spP (pl u w h:Int):Pt:=if pl=17 then⟨u,w,h⟩else if pl=18 then⟨w,h,u⟩else⟨h,u,w⟩
def C8 (pl:Int):Prop:=pl=17\/pl=18\/pl=19
theorem Zut {p:Pt} {pl:Int} (h:C8 pl):Ot [I p.x,I p.y,I p.z,I pl]=some [I (plU pl p),I (plW pl p),I (plH pl p)]:=by
 unfold Ot;rw[Zst];rcases h with rfl|rfl|rfl<;>rfl
theorem Zdt {u w h pl:Int} (hp:C8 pl):M9 [I u,I w,I h,I pl]=some (ptR (spP pl u w h)):=by
 unfold M9;rw[Zhg];rcases hp with rfl|rfl|rfl<;>rfl
theorem My {pl u w h:Int} (hp:C8 pl):plU pl (spP pl u w h)=u/\plW pl (spP pl u w h)=w/\plH pl (spP pl u w h)=h:=by
 rcases hp with rfl|rfl|rfl<;>exact⟨rfl,rfl,rfl⟩
structure ArcMade (size : Int) (it : Itm) : Prop where
 kind:it.kind=3
 plane:C8 it.plane
 dir:it.dir=1\/it.dir= -1
 ends:∃r k t g h:Int,8<=r/\r<8+size/\0<=k/\k<=3/\0<=t/\t<=3/\0<=g/\g<=4/\(h=0\/h=7\/h= -12)/\(t=0->g=0)/\it.full=decide (t=0)/\
  it.ce=spP it.plane (plU it.plane it.fr-AQ r k) (plW it.plane it.fr-AR r k) (plH it.plane it.fr)/\
  it.to=spP it.plane (plU it.plane it.fr-AQ r k+AQ (r+g) (k+t)) (plW it.plane it.fr-AR r k+AR (r+g) (k+t)) (plH it.plane it.fr+h)
theorem Me {r k:Int} (hr:0<=r):(-r<=AQ r k/\AQ r k<=r)/\(-r<=AR r k/\AR r k<=r):=by
 unfold AQ AR;constructor<;>constructor<;>split<;>(try split)<;>omega
theorem Zi2 {r:Int} (hr:1<=r) (k:Int):((AQ r k).tdiv r=AQ 1 k)/\((AR r k).tdiv r=AR 1 k):=by
 have h1:r.tdiv r=1:=Int.tdiv_self (by omega);have h2:(-r).tdiv r= -1:=by rw[Int.neg_tdiv,h1]
 unfold AQ AR;constructor<;>split<;>(try split)<;>simp[h1,h2]
theorem Q9j (r k e f:Int):∃g,(g=e\/g=f)/\AQ r k+AQ 1 k*e=AQ (r+g) k/\AR r k+AR 1 k*f=AR (r+g) k:=by
 unfold AQ AR;by_cases h:k%4=0\/k%4=2
 ·refine⟨e, .inl rfl,?_,?_⟩
  ·rcases h with h|h<;>simp[h]<;>omega
  ·rcases h with h|h<;>simp[h]
 ·have hc:k%4=1\/k%4=3:=by omega
  refine⟨f, .inr rfl,?_,?_⟩
  ·rcases hc with h|h<;>simp[h]
  ·rcases hc with h|h<;>simp[h]<;>omega
theorem HA {pl:Int} {p:Pt} {b:Nat} (h:bd b p):(plU pl p).natAbs<=b/\(plW pl p).natAbs<=b/\(plH pl p).natAbs<=b:=by
 obtain⟨h1,h2,h3⟩:=h;unfold plU plW plH;refine⟨?_,?_,?_⟩<;>split<;>(try split)<;>assumption
def GA (l:Rw) (M:Fn):Prop:=∀(k:Nat) {n:Int},0<n/\n<=4611686018427387904->
  ∃(v:Int) (k':Nat),M [I n, .view Aa l,I k]=some [I v, .view Aa l,I k']/\0<=v/\v<n/\k<=k'/\(k<l.length->k'=k+1)/\(l.length<=k->k'=k)
abbrev Fs (it:Itm):Prop:=it.block=0/\it.side=0/\it.radius=0/\it.speed=0/\it.on=false
theorem Q83 {v:Int} (h:0<=v/\v<3):Af (nth .dead (nth [] [[I 17],[I 18],[I 19]] v.toNat) 0)=17+v:=by
 have hc:v=0\/v=1\/v=2:=by omega
 rcases hc with rfl|rfl|rfl<;>rfl
theorem Qwt {v:Int} (h:0<=v/\v<4):∃x,Af (nth .dead (nth [] [[I 0],[I 0],[I 7],[I (-12)]] v.toNat) 0)=x/\(x=0\/x=7\/x= -12):=by
 have hc:v=0\/v=1\/v=2\/v=3:=by omega
 rcases hc with rfl|rfl|rfl|rfl<;>exact⟨_,rfl,by decide⟩
theorem Zfl {MS MT MP MN:Fn} {l:Rw} (hN:GA l MN)
  (hP:∀{p:Pt} {pl:Int},C8 pl->MP [I p.x,I p.y,I p.z,I pl]=some [I (plU pl p),I (plW pl p),I (plH pl p)])
  (hS:∀{u w h pl:Int},C8 pl->MS [I u,I w,I h,I pl]=some (ptR (spP pl u w h)))
  (hT:∀{r k:Int},(0<=r/\r<=1000000)->(0<=k/\k<=1000)->MT [I r,I k]=some [I (AQ r k),I (AR r k)])
  {p:Pt} (hp:bd 100000000 p) {size:Int} (hs:0<size/\size<=100000) (k:Nat):
  ∃(it:Itm) (k':Nat),Qk6 MS MT MP MN [I p.x,I p.y,I p.z,I size, .view Aa l,I k]=some (Ag it++[.view Aa l,I k'])/\k<=k'/\it.fr=p/\ArcMade size it/\
   it.feed=0/\it.perRev=false/\it.blend=0/\it.n=0/\Fs it:=by
 obtain⟨v1,k1,e1,a1,b1,c1,-,-⟩:=hN k (n:=3) (by omega);obtain⟨v2,k2,e2,a2,b2,c2,-,-⟩:=hN k1 (n:=2) (by omega);obtain⟨v3,k3,e3,a3,b3,c3,-,-⟩:=hN k2 (n:=size) (by omega);obtain⟨v4,k4,e4,a4,b4,c4,-,-⟩:=hN k3 (n:=4) (by omega);obtain⟨v5,k5,e5,a5,b5,c5,-,-⟩:=hN k4 (n:=4) (by omega);rw[Zy9];simp only[go_sem,e1,e2,e3,e4,e5];rw[if_pos (by simp;omega)];have hpl:C8 (17+v1):=by unfold C8;omega
 have w1:IntKind.i64.wrap (8+v3)=8+v3:=Ae (by omega);have w2:IntKind.i64.wrap (v4+v5)=v4+v5:=Ae (by omega);simp only[Q83 ⟨a1,b1⟩,hP hpl,go_sem,w1,w2,hT (r:=8+v3) (k:=v4) (by omega) (by omega),hT (r:=8+v3) (k:=v4+v5) (by omega) (by omega),hS hpl];obtain⟨q1,q2,q3⟩:=HA (pl:=17+v1) hp;obtain⟨⟨r1,r2⟩,r3,r4⟩:=Me (r:=8+v3) (k:=v4) (by omega);obtain⟨⟨r5,r6⟩,r7,r8⟩:=Me (r:=8+v3) (k:=v4+v5) (by omega);obtain⟨d1,d2⟩:=Zi2 (r:=8+v3) (by omega) (v4+v5);obtain⟨⟨r9,r10⟩,r11,r12⟩:=Me (r:=1) (k:=v4+v5) (by omega);have w3:IntKind.i64.wrap (plU (17+v1) p-AQ (8+v3) v4)=plU (17+v1) p-AQ (8+v3) v4:=Ae (by omega);have w4:IntKind.i64.wrap (plW (17+v1) p-AR (8+v3) v4)=plW (17+v1) p-AR (8+v3) v4:=Ae (by omega);have w5:IntKind.i64.wrap (1-IntKind.i64.wrap (v2*2))=1-v2*2:=by rw[Ae (x:=v2*2) (by omega),Ae (by omega)]
 have w6:IntKind.i64.wrap (plU (17+v1) p-AQ (8+v3) v4+AQ (8+v3) (v4+v5))=plU (17+v1) p-AQ (8+v3) v4+AQ (8+v3) (v4+v5):=Ae (by omega);have w7:IntKind.i64.wrap (plW (17+v1) p-AR (8+v3) v4+AR (8+v3) (v4+v5))=plW (17+v1) p-AR (8+v3) v4+AR (8+v3) (v4+v5):=Ae (by omega);rw[w3,w4,w5,w6,w7];have hdir:1-v2*2=1\/1-v2*2= -1:=by omega
 have fin:∀(g:Int) (u w:Int) (k8:Nat),k5<=k8->0<=g->g<=4->(v5=0->g=0)->u=AQ (8+v3+g) (v4+v5)->w=AR (8+v3+g) (v4+v5)->∀v9:Int,0<=v9/\v9<4->
   ∃it:Itm,[I 3,I 0,I p.x,I p.y,I p.z,I (spP (17+v1) (plU (17+v1) p-AQ (8+v3) v4+u) (plW (17+v1) p-AR (8+v3) v4+w) (plH (17+v1) p+Af (nth .dead (nth [] [[I 0],[I 0],[I 7],[I (-12)]] v9.toNat) 0))).x,
    I (spP (17+v1) (plU (17+v1) p-AQ (8+v3) v4+u) (plW (17+v1) p-AR (8+v3) v4+w) (plH (17+v1) p+Af (nth .dead (nth [] [[I 0],[I 0],[I 7],[I (-12)]] v9.toNat) 0))).y,
    I (spP (17+v1) (plU (17+v1) p-AQ (8+v3) v4+u) (plW (17+v1) p-AR (8+v3) v4+w) (plH (17+v1) p+Af (nth .dead (nth [] [[I 0],[I 0],[I 7],[I (-12)]] v9.toNat) 0))).z,
    I (17+v1),I (spP (17+v1) (plU (17+v1) p-AQ (8+v3) v4) (plW (17+v1) p-AR (8+v3) v4) (plH (17+v1) p)).x,I (spP (17+v1) (plU (17+v1) p-AQ (8+v3) v4) (plW (17+v1) p-AR (8+v3) v4) (plH (17+v1) p)).y,I (spP (17+v1) (plU (17+v1) p-AQ (8+v3) v4) (plW (17+v1) p-AR (8+v3) v4) (plH (17+v1) p)).z,
    I (1-v2*2),B (decide (v5=0)),I 0,B false,I 0,I 0,I 0,I 0,I 0,B false, .view Aa l,I k8]=Ag it++[.view Aa l,I k8]/\it.fr=p/\ArcMade size it/\it.feed=0/\it.perRev=false/\it.blend=0/\it.n=0/\Fs it:=by
  intro g u w k8 hk8 hg0 hg4 hg5 hu hw v9 hv9;obtain⟨x,hx,hx3⟩:=Qwt hv9;rw[hx];refine⟨⟨3,0,p,_,17+v1,_,1-v2*2,decide (v5=0),0,false,0,0,0,0,0,false⟩,rfl,rfl,⟨rfl,hpl,hdir,8+v3,v4,v5,g,x,?_⟩,rfl,rfl,rfl,rfl,rfl,rfl,rfl,rfl,rfl⟩;subst hu hw;exact⟨by omega,by omega,by omega,by omega,by omega,by omega,hg0,hg4,hx3,hg5,rfl,rfl,rfl⟩
 have hgh:∀v9:Int,0<=v9/\v9<4->IntKind.i64.wrap (plH (17+v1) p+Af (nth .dead (nth [] [[I 0],[I 0],[I 7],[I (-12)]] v9.toNat) 0))=plH (17+v1) p+Af (nth .dead (nth [] [[I 0],[I 0],[I 7],[I (-12)]] v9.toNat) 0):=by
  intro v9 hv9;obtain⟨x,hx,hx3⟩:=Qwt hv9;rw[hx];exact Ae (by omega)
 have hfull:(v5==0)=decide (v5=0):=rfl;by_cases hv5:v5>0
 ·rw[if_pos hv5];obtain⟨v6,k6,e6,a6,b6,c6,-,-⟩:=hN k5 (n:=3) (by omega);simp only[go_sem,e6];by_cases hv6:v6=0
  ·rw[if_pos hv6,if_neg (by omega)];obtain⟨v7,k7,e7,a7,b7,c7,-,-⟩:=hN k6 (n:=5) (by omega);obtain⟨v8,k8,e8,a8,b8,c8,-,-⟩:=hN k7 (n:=5) (by omega);obtain⟨v9,k9,e9,a9,b9,c9,-,-⟩:=hN k8 (n:=4) (by omega);simp only[go_sem,e7,e8,e9];rw[if_neg (by omega),if_pos (by simp;omega),hgh v9 ⟨a9,b9⟩,d1,d2];obtain⟨g,hg,hu,hw⟩:=Q9j (8+v3) (v4+v5) v7 v8;have mu: -4<=AQ 1 (v4+v5)*v7/\AQ 1 (v4+v5)*v7<=4:=by
    have hc:AQ 1 (v4+v5)= -1\/AQ 1 (v4+v5)=0\/AQ 1 (v4+v5)=1:=by omega
    rcases hc with h|h|h<;>rw[h]<;>omega
   have mw: -4<=AR 1 (v4+v5)*v8/\AR 1 (v4+v5)*v8<=4:=by
    have hc:AR 1 (v4+v5)= -1\/AR 1 (v4+v5)=0\/AR 1 (v4+v5)=1:=by omega
    rcases hc with h|h|h<;>rw[h]<;>omega
   rw[Ae (x:=AQ 1 (v4+v5)) (by omega),Ae (x:=AR 1 (v4+v5)) (by omega),Ae (x:=AQ 1 (v4+v5)*v7) (by omega),Ae (x:=AR 1 (v4+v5)*v8) (by omega),
    Ae (x:=AQ (8+v3) (v4+v5)+_) (by omega),Ae (x:=AR (8+v3) (v4+v5)+_) (by omega),hu,hw]
   obtain⟨⟨s1,s2⟩,s3,s4⟩:=Me (r:=8+v3+g) (k:=v4+v5) (by omega);rw[Ae (x:=_+AQ (8+v3+g) (v4+v5)) (by omega),Ae (x:=_+AR (8+v3+g) (v4+v5)) (by omega)];obtain⟨it,h1,h2⟩:=fin g _ _ k9 (by omega) (by omega) (by omega) (by omega) rfl rfl v9 ⟨a9,b9⟩;refine⟨it,k9,?_,by omega,h2⟩;exact congrArg some h1
  ·rw[if_neg hv6];obtain⟨v9,k9,e9,a9,b9,c9,-,-⟩:=hN k6 (n:=4) (by omega);simp only[go_sem,e9];rw[if_pos (by simp;omega),hgh v9 ⟨a9,b9⟩];obtain⟨it,h1,h2⟩:=fin 0 _ _ k9 (by omega) (by omega) (by omega) (by omega) (by rw[Int.add_zero]) (by rw[Int.add_zero]) v9 ⟨a9,b9⟩;refine⟨it,k9,?_,by omega,h2⟩;exact congrArg some h1
 ·rw[if_neg hv5];obtain⟨v9,k9,e9,a9,b9,c9,-,-⟩:=hN k5 (n:=4) (by omega);simp only[go_sem,e9];rw[if_pos (by simp;omega),hgh v9 ⟨a9,b9⟩];obtain⟨it,h1,h2⟩:=fin 0 _ _ k9 (by omega) (by omega) (by omega) (by omega) (by rw[Int.add_zero]) (by rw[Int.add_zero]) v9 ⟨a9,b9⟩;refine⟨it,k9,?_,by omega,h2⟩;exact congrArg some h1
theorem Hc {l:Rw} (hl:Src l):GA l BA:=fun k _ hn=>Zn4 hl k hn
theorem Zhe {l:Rw} (hl:Src l) {p:Pt} (hp:bd 100000000 p) {size:Int} (hs:0<size/\size<=100000) (k:Nat):
  ∃(it:Itm) (k':Nat),O0 [I p.x,I p.y,I p.z,I size, .view Aa l,I k]=some (Ag it++[.view Aa l,I k'])/\k<=k'/\it.fr=p/\ArcMade size it/\
   it.feed=0/\it.perRev=false/\it.blend=0/\it.n=0/\Fs it:=
 Zfl (Hc hl) Zut Zdt Zx9 hp hs k
end Go.Bm
