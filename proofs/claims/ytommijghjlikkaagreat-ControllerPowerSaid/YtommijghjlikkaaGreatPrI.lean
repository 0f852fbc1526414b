/- laid together -/
import Derived.Test.YtommijghjlikkaaGreatMx2
import Derived.Test.YtommijghjlikkaaGreatBmTy
set_option linter.unusedVariables false
set_option linter.unusedSimpArgs false
/- what the functions of package wide and of layer 1's reference give -/
set_option maxRecDepth 100000
namespace Go.Bm

theorem Hv {x:Int} (h:i64 x):FF [I x]=some [U (x.natAbs:Int)]:=by
  unfold i64 at h
  unfold FF
  rw[Zqd]
  by_cases hx:x<0
  · rw[Du hx,Ae (x:=x+1) (by omega),Ae (x:=0-(x+1)) (by omega),G2 (x:=0-(x+1)) (by omega),G2 (x:=0-(x+1)+1) (by omega)]
    rw[show 0-(x+1)+1=(x.natAbs:Int) by omega]
  · rw[AW hx,G2 (x:=x) (by omega)]
    rw[show x=(x.natAbs:Int) by omega]
    simp
def sgn (a b:Int):Int:=if a=0 then 0 else if b=0 then 0 else if(a<0↔b<0)then 1 else-1
theorem Y5 (a b:Int):Fi [I a,I b]=some [I (sgn a b)]:=by
  unfold Fi
  rw[Qp9]
  simp only[go_sem]
  unfold sgn
  repeat' split
  all_goals rfl
def GQ (a b:Nat):Int:=if a<b then-1 else if a=b then 0 else 1
def J5 (a b:Int):Int:=if a<b then-1 else if a=b then 0 else 1
noncomputable def w64:Nat:=Classical.choose (⟨18446744073709551616,rfl⟩:∃n:Nat,n=18446744073709551616)
theorem BB:w64=18446744073709551616:=Classical.choose_spec (⟨18446744073709551616,rfl⟩:∃n:Nat,n=18446744073709551616)
theorem Nl {x:Int} (h:i64 x):x.natAbs<w64:=by unfold i64 at h;have:=BB;omega

theorem Qxc {x y:Nat} (hx:x<w64) (hy:y<w64):HH [U x,U y]=some [U ((x*y/w64:Nat):Int),U ((x*y%w64:Nat):Int)]:=by
  rw[BB]at hx hy
  have hu:∀z:Nat,z<18446744073709551616->inU (z:Int)=true:=by
    intro z hz
    have e64:Fv=18446744073709551616:=rfl
    simp only[inU,e64,Bool.and_eq_true,decide_eq_true_eq]
    omega
  show QM (x:Int) (y:Int)=_
  unfold QM
  rw[hu x hx,hu y hy,BB]
  rfl
theorem Qpm {x y:Nat} (hx:x<w64) (hy:y<w64):DV [U x,U y]=some [U ((x*y/w64:Nat):Int),U ((x*y%w64:Nat):Int)]:=by
  unfold DV
  rw[Zkp,Qxc hx hy]
  simp only[go_sem]

theorem Q20 (a b c d:Nat) (hb:b<w64) (hd:d<w64):H2 [U a,U b,U c,U d]=some [I (GQ (a*w64+b) (c*w64+d))]:=by
  unfold H2
  rw[Ziy]
  simp only[go_sem,and_true]
  unfold GQ
  simp only[BB]at*
  by_cases h1:a<c
  · rw[if_pos (by omega),if_pos (by omega)]
  · rw[if_neg (by omega)]
    by_cases h2:a=c
    · rw[if_pos (by omega)]
      by_cases h3:b<d
      · rw[if_pos (by omega),if_pos (by omega)]
      · rw[if_neg (by omega)]
        by_cases h4:b=d
        · rw[if_pos (by omega),if_neg (by omega),if_pos (by omega)]
        · rw[if_neg (by omega),if_neg (by omega),if_neg (by omega)]
    · rw[if_neg (by omega),if_neg (by omega),if_neg (by omega),if_neg (by omega)]

theorem Q_ (a b:Int):sgn a b*((a.natAbs*b.natAbs:Nat):Int)=a*b:=by
  unfold sgn
  by_cases h1:a=0
  · subst h1;simp
  · by_cases h2:b=0
    · subst h2;simp
    · rw[if_neg h1,if_neg h2]
      have e:((a.natAbs*b.natAbs:Nat):Int)=(a.natAbs:Int)*(b.natAbs:Int):=by simp
      rw[e]
      by_cases h3:a<0<;>by_cases h4:b<0
      · rw[if_pos (by simp[h3,h4]),show(a.natAbs:Int)= -a by omega,show(b.natAbs:Int)= -b by omega,Int.neg_mul_neg,Int.one_mul]
      · rw[if_neg (by simp[h3,h4]),show(a.natAbs:Int)= -a by omega,show(b.natAbs:Int)=b by omega,Int.neg_mul,Int.one_mul,Int.neg_mul,Int.neg_neg]
      · rw[if_neg (by simp[h3,h4]),show(a.natAbs:Int)=a by omega,show(b.natAbs:Int)= -b by omega,Int.mul_neg,Int.neg_mul_neg,Int.one_mul]
      · rw[if_pos (by simp[h3,h4]),show(a.natAbs:Int)=a by omega,show(b.natAbs:Int)=b by omega,Int.one_mul]
theorem SO (a b:Int):(sgn a b=0/\a*b=0)\/(sgn a b=1/\0<a*b)\/(sgn a b= -1/\a*b<0):=by
  have h:=Q_ a b
  by_cases h1:a=0
  · subst h1;left;simp[sgn]
  · by_cases h2:b=0
    · subst h2;left;simp[sgn]
    · have hp:0<a.natAbs*b.natAbs:=Nat.mul_pos (by omega) (by omega)
      generalize a.natAbs*b.natAbs=p at*
      generalize a*b=x at*
      unfold sgn at h⊢
      rw[if_neg h1,if_neg h2]at h⊢
      by_cases h3:(a<0↔b<0)
      · rw[if_pos h3]at h⊢;right;left;exact⟨rfl,by omega⟩
      · rw[if_neg h3]at h⊢;right;right;exact⟨rfl,by omega⟩

theorem Zx5 {a b c d:Int}:(if sgn a b≠sgn c d then(if sgn a b<sgn c d then-1 else 1)else sgn a b*GQ (a.natAbs*b.natAbs) (c.natAbs*d.natAbs))=J5 (a*b) (c*d):=by
  have h1:=Q_ a b
  have h2:=Q_ c d
  have k1:=SO a b
  have k2:=SO c d
  unfold J5 GQ
  generalize a.natAbs*b.natAbs=p at*
  generalize c.natAbs*d.natAbs=q at*
  generalize a*b=x at*
  generalize c*d=y at*
  generalize sgn a b=u at*
  generalize sgn c d=v at*
  rcases k1 with⟨rfl,g1⟩|⟨rfl,g1⟩|⟨rfl,g1⟩<;>rcases k2 with⟨rfl,g2⟩|⟨rfl,g2⟩|⟨rfl,g2⟩
  · rw[if_neg (by simp),if_neg (show¬x<y by omega),if_pos (show x=y by omega)];exact Int.zero_mul _
  · rw[if_pos (by simp),if_pos (by omega),if_pos (by omega)]
  · rw[if_pos (by simp),if_neg (by omega),if_neg (by omega),if_neg (by omega)]
  · rw[if_pos (by simp),if_neg (by omega),if_neg (by omega),if_neg (by omega)]
  · rw[if_neg (by simp)]
    have e1:(p:Int)=x:=by omega
    have e2:(q:Int)=y:=by omega
    by_cases h:x<y
    · rw[if_pos (by omega),if_pos h];rfl
    · rw[if_neg (by omega),if_neg h]
      by_cases h':x=y
      · rw[if_pos (by omega),if_pos h'];rfl
      · rw[if_neg (by omega),if_neg h'];rfl
  · rw[if_pos (by simp),if_neg (by omega),if_neg (by omega),if_neg (by omega)]
  · rw[if_pos (by simp),if_pos (by omega),if_pos (by omega)]
  · rw[if_pos (by simp),if_pos (by omega),if_pos (by omega)]
  · rw[if_neg (by simp)]
    have e1:(p:Int)= -x:=by omega
    have e2:(q:Int)= -y:=by omega
    by_cases h:x<y
    · rw[if_neg (by omega),if_neg (by omega),if_pos h];rfl
    · rw[if_neg h]
      by_cases h':x=y
      · rw[if_neg (by omega),if_pos (by omega),if_pos h'];rfl
      · rw[if_pos (by omega),if_neg h'];rfl

theorem Qor (p:Nat):p/w64*w64+p%w64=p:=by have:=Nat.div_add_mod p w64;rw[Nat.mul_comm]at this;exact this
theorem OK:0<w64:=by rw[BB];omega
theorem Zuf (p q:Nat): -1<=GQ p q/\GQ p q<=1:=by unfold GQ;(repeat' split)<;>omega
theorem Zc3 (a b:Int): -1<=sgn a b/\sgn a b<=1:=by unfold sgn;(repeat' split)<;>omega
theorem Zrf {u v:Int} (hu: -1<=u/\u<=1) (hv: -1<=v/\v<=1): -1<=u*v/\u*v<=1:=by
  have:u= -1\/u=0\/u=1:=by omega
  rcases this with rfl|rfl|rfl<;>omega
theorem NA {x y:Nat} (hx:x<w64) (hy:y<w64):∃hi lo:Nat,DV [U x,U y]=some [U hi,U lo]/\hi*w64+lo=x*y/\lo<w64:=
  ⟨_,_,Qpm hx hy,Qor _,Nat.mod_lt _ OK⟩
theorem Zuh {a b c d:Int} (M1 M2 M3 M4:Fn) (h1 l1 h2 l2:Nat)
   (ka:M3 [I a]=some [U a.natAbs]) (kb:M3 [I b]=some [U b.natAbs]) (kc:M3 [I c]=some [U c.natAbs]) (kd:M3 [I d]=some [U d.natAbs])
   (ks:∀a b,M4 [I a,I b]=some [I (sgn a b)])
   (e1:M2 [U a.natAbs,U b.natAbs]=some [U h1,U l1]) (f1:M2 [U c.natAbs,U d.natAbs]=some [U h2,U l2])
   (hcmp:M1 [U h1,U l1,U h2,U l2]=some [I (GQ (a.natAbs*b.natAbs) (c.natAbs*d.natAbs))]):Uj M1 M2 M3 M4 [I a,I b,I c,I d]=some [I (J5 (a*b) (c*d))]:=by
  have hm:=Zrf (Zc3 a b) (Zuf (a.natAbs*b.natAbs) (c.natAbs*d.natAbs))
  rw[Zfi]
  simp only[go_sem,ks,ka,kb,kc,kd,e1,f1,hcmp]
  rw[<-Zx5]
  rw[Ae (by omega)]
  by_cases h1:sgn a b≠sgn c d
  · rw[if_pos h1,if_pos h1]
    by_cases h2:sgn a b<sgn c d
    · rw[if_pos h2,if_pos h2]
    · rw[if_neg h2,if_neg h2]
  · rw[if_neg h1,if_neg h1]
theorem Zip {a b c d:Int} (ha:i64 a) (hb:i64 b) (hc:i64 c) (hd:i64 d):Nx [I a,I b,I c,I d]=some [I (J5 (a*b) (c*d))]:=by
  obtain⟨h1,l1,e1,e2,e3⟩:=NA (Nl ha) (Nl hb)
  obtain⟨h2,l2,f1,f2,f3⟩:=NA (Nl hc) (Nl hd)
  have hcmp:=Q20 h1 l1 h2 l2 e3 f3
  rw[e2,f2]at hcmp
  unfold Nx
  exact Zuh _ _ _ _ _ _ _ _ (Hv ha) (Hv hb) (Hv hc) (Hv hd) Y5 e1 f1 hcmp
end Go.Bm
/- functions of the controller's layers that always answer: speeds -/
set_option maxRecDepth 100000
namespace Go.Bm

theorem EO {α β:Type} {a:Option α} {f:α->Option β} (h:a.isSome=true) (g:∀o,a=some o->(f o).isSome=true):(a.bind f).isSome=true:=by
 cases a with
 |none=>simp at h
 |some o=>exact g o rfl
theorem BL {α:Type} {c:Bool} {a b:Option α} (h:c=true->a.isSome=true) (g:c=false->b.isSome=true):(cond c a b).isSome=true:=by
 cases c
 ·exact g rfl
 ·exact h rfl
def Out {α:Type} (p:α->Prop) (a:Option α):Prop:=∃o,a=some o/\p o
theorem Out.is {α:Type} {p:α->Prop} {a:Option α} (h:Out p a):a.isSome=true:=by obtain⟨o,h,_⟩:=h;rw[h];rfl
theorem Out.of {α:Type} {a:Option α} (h:a.isSome=true):Out (fun _=>True) a:=by
 cases a with
 |none=>simp at h
 |some o=>exact⟨o,rfl,trivial⟩
theorem Out.bind {α β:Type} {p:α->Prop} {q:β->Prop} {a:Option α} {f:α->Option β} (h:Out p a) (g:∀o,p o->Out q (f o)):Out q (a.bind f):=by
 obtain⟨o,rfl,h⟩:=h;exact g o h
theorem Out.ibind {α β:Type} {q:β->Prop} {a:Option α} {f:α->Option β} (h:a.isSome=true) (g:∀o,a=some o->Out q (f o)):Out q (a.bind f):=by
 cases a with
 |none=>simp at h
 |some o=>exact g o rfl
theorem Out.cond {α:Type} {p:α->Prop} {c:Bool} {a b:Option α} (h:c=true->Out p a) (g:c=false->Out p b):Out p (cond c a b):=by
 cases c
 ·exact g rfl
 ·exact h rfl
theorem Out.some {α:Type} {p:α->Prop} {o:α} (h:p o):Out p (some o):=⟨o,rfl,h⟩
theorem Out.mono {α:Type} {p q:α->Prop} {a:Option α} (h:Out p a) (g:∀o,p o->q o):Out q a:=by obtain⟨o,h,h2⟩:=h;exact⟨o,h,g o h2⟩
theorem CI {S:Type} {step:Lp} (enc:S->List AC) (Inv:S->Prop) (m:S->Nat) (Q:Nat×List AC->Prop)
  (h:∀s,Inv s->Out (fun o=>(o.1=0/\∃s',o.2=enc s'/\Inv s'/\m s'<m s)\/(o.1≠0/\Q o)) (step (enc s))) (s:S) (hs:Inv s):Out Q (An step (enc s)):=by
 obtain ⟨o, h1, _, h2⟩ := Q2u (step := step) enc Inv m Q (fun s hs => by
  obtain⟨o,h1,h2⟩:=h s hs
  rcases h2 with⟨h2,s',h3,h4,h5⟩|⟨h2,h3⟩
  ·refine .inl ⟨s',?_,h4,h5⟩
   rw[h1,<-h3,<-h2]
  ·exact .inr ⟨o,h1,h2,h3⟩) s hs
 exact⟨o,h1,h2⟩
theorem BA {p:Prop} [Decidable p] (h:decide p=true):p:=of_decide_eq_true h
theorem BD {p:Prop} [Decidable p] (h:decide p=false): ¬p:=of_decide_eq_false h
theorem CB {a b:Nat} (h:a<=b):Nat.ble a b=true:=Nat.ble_eq_true_of_le h

theorem Vp (a b c d:Int):(GE [I a,I b,I c,I d]).isSome=true:=by
 unfold GE
 rw[Qhf]
 repeat' first|exact rfl|refine BL (fun _=> ?_) (fun _=> ?_)
 rename_i h1 h2
 simp at h1 h2
 omega
theorem NB (a b c:Int):ES [I a,I b,I c]=some [B (decide (1<=a/\a<=65536/\2<=b/\b<=65536/\1<=c/\c<=16777216))]:=by
 unfold ES
 rw[Z0j]
 by_cases h1:1<=a<;>by_cases h2:a<=65536<;>by_cases h3:2<=b<;>by_cases h4:b<=65536<;>by_cases h5:1<=c<;>by_cases h6:c<=16777216<;>simp[h1,h2,h3,h4,h5,h6]
theorem Q8s {M:Fn} (h:∀a b c d,(M [I a,I b,I c,I d]).isSome=true) (a b c v x:Int):(Pv M [I a,I b,I c,I v,I x]).isSome=true:=by
 rw[Xu]
 repeat' first|exact rfl|exact h _ _ _ _|refine BL (fun _=> ?_) (fun _=> ?_)|refine EO ?_ fun _ _=> ?_
theorem Qwv (a b c v x:Int):(F9 [I a,I b,I c,I v,I x]).isSome=true:=Q8s Vp a b c v x
theorem Zxf (x:Int): -9223372036854775808<=IntKind.i64.wrap x/\IntKind.i64.wrap x<=9223372036854775807:=by
 simp[IntKind.wrap,IntKind.signed,IntKind.bits]
 omega
end Go.Bm
/- stop profiles always end -/
set_option maxRecDepth 100000
namespace Go.Bm

theorem Zfo {ML MV:Fn} (hL:∀a b c d,(ML [I a,I b,I c,I d]).isSome=true) {v a b c low high:Int} (h1: -9000000000000<=low/\low<=9000000000000) (h2: -9000000000000<=high/\high<=9000000000000):
  Out (fun o=>o.1=1) (An (Nb ML MV) [I v,I low,I high,I a,I b,I c]):=by
 refine CI (fun s:Int×Int=>[I v,I s.1,I s.2,I a,I b,I c]) (fun s=>(-9000000000000<=s.1/\s.1<=9000000000000)/\(-9000000000000<=s.2/\s.2<=9000000000000)) (fun s=>(s.2-s.1).toNat) _ ?_ (low,high) ⟨h1,h2⟩
 rintro⟨l,h⟩ ⟨q1,q2⟩
 dsimp only at*
 rw[Qy0]
 refine .cond (fun c=> ?_) (fun c=> ?_)
 ·have c:=BA c
  have e:IntKind.i64.wrap (h-IntKind.i64.wrap ((IntKind.i64.wrap (h-l)).tdiv 2))=h-(h-l)/2:=by
   rw[Ae (x:=h-l) (by omega),Int.tdiv_eq_ediv_of_nonneg (by omega),Ae (x:=(h-l)/2) (by omega),Ae (by omega)]
  rw[e]
  refine .ibind (hL _ _ _ _) fun o _=> ?_
  refine .cond (fun _=> ?_) (fun _=> ?_)
  ·exact .some (.inl ⟨rfl,(h-(h-l)/2,h),rfl,by dsimp only;omega,by dsimp only;omega⟩)
  ·refine .some (.inl ⟨rfl,(l,h-(h-l)/2-1),?_,by dsimp only;omega,by dsimp only;omega⟩)
   rw[Ae (x:=h-(h-l)/2-1) (by omega)]
 ·exact .some (.inr ⟨by simp,rfl⟩)
theorem Zqp {ML MV:Fn} (hL:∀a b c d,(ML [I a,I b,I c,I d]).isSome=true) (hV:∀a b c,MV [I a,I b,I c]=some [B (decide (1<=a/\a<=65536/\2<=b/\b<=65536/\1<=c/\c<=16777216))]) (a b c v x:Int):
  (Ru ML MV (An (Nb ML MV)) [I a,I b,I c,I v,I x]).isSome=true:=by
 rw[Q0f,hV]
 simp only[Option.bind_some]
 refine BL (fun _=>rfl) fun h1=>BL (fun _=>rfl) fun h2=>BL (fun _=>rfl) fun h3=> ?_
 simp only[go_sem,Bool.not_eq_false',decide_eq_true_eq]at h1
 have h2:=BD h2
 have h3:=BD h3
 have hx: -1099511627776<=x/\x<=1099511627776:=by
  unfold mx at h2;unfold mn at h3
  split at h2<;>split at h3<;>omega
 obtain⟨o,h4,h5⟩:=Zfo (MV:=MV) hL (v:=v) (a:=a) (b:=b) (c:=c) (low:=IntKind.i64.wrap (IntKind.i64.wrap (0-x)-b)) (high:=mn (IntKind.i64.wrap (b-x)) a)
  (by rw[Ae (x:=0-x) (by omega),Ae (by omega)];omega) (by rw[Ae (x:=b-x) (by omega)];unfold mn;split<;>omega)
 rw[h4]
 simp only[Option.bind_some,h5]
 rfl
theorem Q5d (a b c v x:Int):(Fg [I a,I b,I c,I v,I x]).isSome=true:=Zqp Vp NB a b c v x

theorem Qyd {MB MR MV:Fn} (hB:∀a b c v x,(MB [I a,I b,I c,I v,I x]).isSome=true) {a b c v x:Int}:
  Out (fun o=>o.1=1\/o.1=2/\(wA o.2 0).length<=4096) (An (J4 MB MR MV) [.view Aa [],I v,I x,I a,I b,I c]):=by
 refine CI (fun s:Rw×Int×Int=>[.view Aa s.1,I s.2.1,I s.2.2,I a,I b,I c]) (fun s=>s.1.length<=4096) (fun s=>4096-s.1.length) _ ?_ ([],v,x) (by simp)
 rintro⟨l,v,x⟩ h
 dsimp only at*
 rw[Qxx]
 refine .cond (fun _=> ?_) (fun _=> ?_)
 ·refine .cond (fun _=> ?_) (fun h2=> ?_)
  ·exact .some (.inr ⟨by simp, .inl rfl⟩)
  ·have h2: ¬((l.length:Int)=4096):=by simpa using h2
   refine .ibind (hB _ _ _ _ _) fun o _=> ?_
   refine .cond (fun _=> ?_) (fun h3=> ?_)
   ·exact .some (.inl ⟨rfl,(_,_,_),rfl,by simp;omega,by simp;omega⟩)
   ·rw[CB (by simp;omega)]at h3;cases h3
 ·exact .some (.inr ⟨by simp, .inr ⟨rfl,h⟩⟩)
theorem Zmp {MB MR MV:Fn} (hB:∀a b c v x,(MB [I a,I b,I c,I v,I x]).isSome=true) (hR:∀a b c v x,(MR [I a,I b,I c,I v,I x]).isSome=true) (hV:∀a b c,MV [I a,I b,I c]=some [B (decide (1<=a/\a<=65536/\2<=b/\b<=65536/\1<=c/\c<=16777216))]) (a b c v x:Int):
  Out (fun o=>(wA o 0).length<=4096) (P0 MB MR MV (An (J4 MB MR MV)) [I a,I b,I c,I v,I x]):=by
 rw[Qjv,hV]
 simp only[Option.bind_some]
 refine .cond (fun _=> .some (by simp[gA,wA,bA,jA,nth,Br])) fun _=> .ibind (hR _ _ _ _ _) fun o _=> .cond (fun _=> .some (by simp[gA,wA,bA,jA,nth,Br])) fun _=> ?_
 refine .bind (Qyd hB) fun o h=> ?_
 rcases h with h|⟨h,h2⟩
 ·rw[h];exact .some (by simp[gA,wA,bA,jA,nth,Br])
 ·rw[h];exact .some h2
theorem Zwv (a b c v x:Int):Out (fun o=>(wA o 0).length<=4096) (I7 [I a,I b,I c,I v,I x]):=Zmp Q5d Qwv NB a b c v x

theorem Qus {M:Fn} {u:Int} {sp out:Rw} (h0:out.length=sp.length) (h1:sp.length<=4096):
  Out (fun o=>o.1=1/\(wA o.2 0).length=sp.length) (An (KG M) [.view Aa out,I u, .view Aa sp,I (sp.length:Int),I 0]):=by
 refine CI (fun s:Rw×Int×Nat=>[.view Aa s.1,I s.2.1, .view Aa sp,I (sp.length:Int),I (s.2.2:Int)]) (fun s=>s.1.length=sp.length/\s.2.2<=sp.length) (fun s=>sp.length-s.2.2) _ ?_ (out,u,0) ⟨h0,by simp⟩
 rintro⟨l,u,i⟩ ⟨g1,g2⟩
 dsimp only at*
 rw[Qo0]
 refine .cond (fun c=> ?_) (fun _=> ?_)
 ·have c:=BA c
  refine .cond (fun _=> ?_) (fun h=> ?_)
  ·refine .cond (fun _=> ?_) (fun h=> ?_)
   ·have e:=Ae (x:=(i:Int)+1) (by omega)
    rw[e]
    generalize IntKind.i64.wrap (u+gA (nth [] sp (i:Int).toNat) 0)=z
    exact .some (.inl ⟨rfl,(l.set (i:Int).toNat [I z],z,i+1),rfl,by simp;omega,by simp;omega⟩)
   ·simp at h;omega
  ·simp at h;omega
 ·exact .some (.inr ⟨by simp,rfl,g1⟩)
theorem Zku {M:Fn} (hS:∀a b c v x,Out (fun o=>(wA o 0).length<=4096) (M [I a,I b,I c,I v,I x])) (a b c x3 x4 x5 x6 x7 x8:Int):
  Out (fun o=>(wA o 0).length<=4096) (OG M (An (KG M)) [I a,I b,I c,I x3,I x4,I x5,I x6,I x7,I x8]):=by
 rw[Qje]
 refine .bind (hS _ _ _ _ _) fun o h=> ?_
 generalize wA o 0=sp at*
 refine .cond (fun _=> .some (by simp[gA,wA,bA,jA,nth,Br])) fun _=> ?_
 refine .cond (fun _=> ?_) fun c=>by simp at c
 refine .cond (fun _=> ?_) fun c=>by simp at c;omega
 refine .bind (Qus (by simp) h) fun o g=> ?_
 rw[g.1]
 exact .some (by show(wA o.2 0).length<=4096;omega)
theorem Qfb (a b c x3 x4 x5 x6 x7 x8:Int):Out (fun o=>(wA o 0).length<=4096) (E2 [I a,I b,I c,I x3,I x4,I x5,I x6,I x7,I x8]):=Zku Zwv a b c x3 x4 x5 x6 x7 x8
theorem Zhq {M:Fn} (hF:∀a b c x3 x4 x5 x6 x7 x8,Out (fun o=>(wA o 0).length<=4096) (M [I a,I b,I c,I x3,I x4,I x5,I x6,I x7,I x8])) (a b c x3 x4 x5 x6 x7 x8:Int):
  (Mo M [I a,I b,I c,I x3,I x4,I x5,I x6,I x7,I x8]).isSome=true:=by
 rw[V5]
 obtain⟨o,h1,h2⟩:=hF a b c x3 x4 x5 x6 x7 x8
 rw[h1]
 simp only[Option.bind_some]
 generalize wA o 0=sp at*
 refine BL (fun _=>rfl) fun _=>BL (fun _=>rfl) fun c=>BL (fun _=>rfl) fun d=> ?_
 have c: ¬((sp.length:Int)=0):=by simpa using c
 rw[Ae (by omega)]at d
 simp at d;omega
theorem Zdj (a b c x3 x4 x5 x6 x7 x8:Int):(FJ [I a,I b,I c,I x3,I x4,I x5,I x6,I x7,I x8]).isSome=true:=Zhq Qfb a b c x3 x4 x5 x6 x7 x8
end Go.Bm
/- what the square roots of package wide give -/
set_option maxRecDepth 100000
namespace Go.Bm

theorem Zan {m k:Nat} (h:2^(k+1)*m+2^k<w64):IntKind.u64.wrap (((BitVec.ofInt IntKind.u64.bits ((2^(k+1)*m:Nat):Int)|||BitVec.ofInt IntKind.u64.bits ((2^k:Nat):Int)).toNat:Nat):Int)=((2^(k+1)*m+2^k:Nat):Int):=by
 rw[BB]at h
 have e:(BitVec.ofInt IntKind.u64.bits ((2^(k+1)*m:Nat):Int)|||BitVec.ofInt IntKind.u64.bits ((2^k:Nat):Int)).toNat=2^(k+1)*m+2^k:=by
  rw[BitVec.toNat_or]
  have e1:∀v:Nat,v<18446744073709551616->(BitVec.ofInt IntKind.u64.bits (v:Int)).toNat=v:=by
   intro v hv
   simp only[IntKind.bits,BitVec.toNat_ofInt]
   omega
  have hpos:0<2^k:=Nat.two_pow_pos _
  generalize hA:2^(k+1)*m=A at*
  rw[e1 _ (by omega),e1 _ (by omega),<-hA]
  exact(Nat.two_pow_add_eq_or_of_lt (Nat.pow_lt_pow_right (by omega) (by omega)) m).symm
 rw[e,G2 (by omega)]
theorem Zyr (k:Nat):((2^(k+1):Nat):Int).fdiv (2^min (Int.toNat 1) IntKind.u64.bits)=((2^k:Nat):Int):=by
 have e:(2^min (Int.toNat 1) IntKind.u64.bits:Int)=2:=rfl
 rw[e,Int.fdiv_eq_ediv_of_nonneg _ (by omega),Nat.pow_succ]
 omega
theorem Zoc:(1:Int).fdiv (2^min (Int.toNat 1) IntKind.u64.bits)=0:=rfl

theorem Qoi {M1 M2:Fn} (hp:∀x y:Nat,x<w64->y<w64->∃hi lo:Nat,M2 [U x,U y]=some [U hi,U lo]/\hi*w64+lo=x*y/\lo<w64)
  (hc:∀a b c d:Nat,b<w64->d<w64->M1 [U a,U b,U c,U d]=some [I (GQ (a*w64+b) (c*w64+d))]) {k m hi lo:Nat} {bit:Int} (hlo:lo<w64) (hb:((2^k:Nat):Int).fdiv (2^min (Int.toNat 1) IntKind.u64.bits)=bit) (h:2^(k+1)*m+2^k<w64):
  Lw M1 M2 [U ((2^(k+1)*m:Nat):Int),U ((2^k:Nat):Int),U hi,U lo]=
   some (0,[U (((if(2^(k+1)*m+2^k)*(2^(k+1)*m+2^k)<=hi*w64+lo then 2^(k+1)*m+2^k else 2^(k+1)*m):Nat):Int),U bit,U hi,U lo]):=by
 obtain⟨h1,l1,e1,e2,e3⟩:=hp _ _ h h
 have hcmp:=hc h1 l1 hi lo e3 hlo
 rw[e2]at hcmp
 have hpos:0<2^k:=Nat.two_pow_pos _
 rw[Qqs,Zan h,hb]
 simp only[go_sem,e1,hcmp]
 rw[if_pos (by omega)]
 generalize(2^(k+1)*m+2^k)*(2^(k+1)*m+2^k)=q at*
 unfold GQ
 by_cases h1:q<hi*w64+lo
 ·rw[if_pos h1,if_pos (by omega),if_pos (by omega)]
 ·rw[if_neg h1]
  by_cases h2:q=hi*w64+lo
  ·rw[if_pos h2,if_pos (by omega),if_pos (by omega)]
  ·rw[if_neg h2,if_neg (by omega),if_neg (by omega)]
theorem Qg1 {M1 M2:Fn} (hp:∀x y:Nat,x<w64->y<w64->∃hi lo:Nat,M2 [U x,U y]=some [U hi,U lo]/\hi*w64+lo=x*y/\lo<w64)
  (hc:∀a b c d:Nat,b<w64->d<w64->M1 [U a,U b,U c,U d]=some [I (GQ (a*w64+b) (c*w64+d))]) {hi lo:Nat} (hlo:lo<w64):∀(k m:Nat),2^(k+1)*m+2^(k+1)<=w64->
  (2^(k+1)*m)*(2^(k+1)*m)<=hi*w64+lo->hi*w64+lo<(2^(k+1)*m+2^(k+1))*(2^(k+1)*m+2^(k+1))->
  ∃r:Nat,An (Lw M1 M2) [U ((2^(k+1)*m:Nat):Int),U ((2^k:Nat):Int),U hi,U lo]=some (1,[U r])/\r*r<=hi*w64+lo/\hi*w64+lo<(r+1)*(r+1)/\r<w64
 |0,m,hw,h1,h2=>by
  have hs:=Qoi hp hc (k:=0) (m:=m) (hi:=hi) (bit:=0) hlo Zoc (by simp at hw⊢;omega)
  rw[Bt hs]
  have hend:∀r:Nat,An (Lw M1 M2) [U (r:Int),U 0,U hi,U lo]=some (1,[U r]):=by
   intro r
   refine A7 ?_ (by simp)
   rw[Qqs]
   simp only[go_sem]
   rw[if_neg (by omega)]
  simp only[Nat.zero_add,Nat.pow_one,Nat.pow_zero]at*
  by_cases h:(2*m+1)*(2*m+1)<=hi*w64+lo
  ·rw[if_pos h,hend]
   exact⟨_,rfl,h,h2,by omega⟩
  ·rw[if_neg h,hend]
   exact⟨_,rfl,h1,by omega,by omega⟩
 |k+1,m,hw,h1,h2=>by
  have e1:2^(k+1+1)*m=2^(k+1)*(2*m):=by rw[Nat.pow_succ 2 (k+1),Nat.mul_assoc]
  have e2:2^(k+1+1)*m+2^(k+1)=2^(k+1)*(2*m+1):=by rw[e1,Nat.mul_add,Nat.mul_one]
  have e3:2^(k+1+1)=2^(k+1)+2^(k+1):=by rw[Nat.pow_succ 2 (k+1)];omega
  have hpos:0<2^(k+1):=Nat.two_pow_pos _
  have hs:=Qoi hp hc (k:=k+1) (m:=m) (hi:=hi) (bit:=((2^k:Nat):Int)) hlo (Zyr k) (by omega)
  rw[Bt hs]
  by_cases h:(2^(k+1+1)*m+2^(k+1))*(2^(k+1+1)*m+2^(k+1))<=hi*w64+lo
  ·rw[if_pos h,e2]
   rw[e2]at h
   refine Qg1 hp hc hlo k (2*m+1) ?_ h ?_
   ·rw[<-e2];omega
   ·rw[<-e2]
    rw[show 2^(k+1+1)*m+2^(k+1)+2^(k+1)=2^(k+1+1)*m+2^(k+1+1) by omega]
    exact h2
  ·rw[if_neg h]
   have h3:hi*w64+lo<(2^(k+1+1)*m+2^(k+1))*(2^(k+1+1)*m+2^(k+1)):=by omega
   have hw':2^(k+1+1)*m+2^(k+1)<=w64:=by omega
   rw[e1]at h1 h3 hw'⊢
   exact Qg1 hp hc hlo k (2*m) hw' h1 h3
theorem Zsi {M1 M2:Fn} (hp:∀x y:Nat,x<w64->y<w64->∃hi lo:Nat,M2 [U x,U y]=some [U hi,U lo]/\hi*w64+lo=x*y/\lo<w64)
  (hc:∀a b c d:Nat,b<w64->d<w64->M1 [U a,U b,U c,U d]=some [I (GQ (a*w64+b) (c*w64+d))]) {hi lo:Nat} (hhi:hi<w64) (hlo:lo<w64):
  ∃r:Nat,WT M1 M2 (An (Lw M1 M2)) [U hi,U lo]=some [U r]/\r*r<=hi*w64+lo/\hi*w64+lo<(r+1)*(r+1)/\r<w64:=by
 have hb:hi*w64+lo<w64*w64:=by
  have:hi*w64+w64<=w64*w64:=by rw[<-Nat.succ_mul];exact Nat.mul_le_mul_right _ hhi
  omega
 obtain⟨r,h1,h2,h3,h4⟩:=Qg1 hp hc (hi:=hi) (lo:=lo) hlo 63 0 (by rw[BB];omega) (by simp) (by rw[Nat.mul_zero,Nat.zero_add,show 2^(63+1)=w64 by rw[BB]];exact hb)
 refine⟨r,?_,h2,h3,h4⟩
 rw[Nat.mul_zero]at h1
 generalize An (Lw M1 M2)=N at*
 have h1':N [AC.int IntKind.u64 0,AC.int IntKind.u64 9223372036854775808,AC.int IntKind.u64 hi,AC.int IntKind.u64 lo]=some (1,[U r]):=h1
 rw[Z07,h1']
 simp only[go_sem]
theorem Qrg {hi lo:Nat} (hhi:hi<w64) (hlo:lo<w64):∃r:Nat,Jn [U hi,U lo]=some [U r]/\r*r<=hi*w64+lo/\hi*w64+lo<(r+1)*(r+1)/\r<w64:=
 Zsi (fun _ _ hx hy=>NA hx hy) Q20 hhi hlo

theorem Qjf {n:Nat} (h:n<9223372036854775808):Ew [U n,B false]=some [I n,B true]:=by
 unfold Ew
 rw[WK]
 simp only[go_sem]
 rw[if_neg (by simp),if_pos (by simp),if_pos (by omega),Ae (by omega)]
theorem Zjx {x y b:Nat} (hx:x<w64) (hy:y<w64) (hb:b=0\/b=1):Ji [U x,U y,U b]=some [U (((x:Int)-y-b)%Fv),U (if x<y+b then 1 else 0)]:=by
 rw[BB]at hx hy
 have e64:Fv=18446744073709551616:=rfl
 have hu:∀z:Nat,z<18446744073709551616->inU (z:Int)=true:=by
  intro z hz
  simp only[inU,e64,Bool.and_eq_true,decide_eq_true_eq]
  omega
 have hb':(decide ((b:Int)=0)||decide ((b:Int)=1))=true:=by
  rcases hb with rfl|rfl<;>simp
 unfold Ji
 simp only[G8,Ke,Kn,He,gA,jA,wA,bA]
 rw[hu x hx,hu y hy,hb']
 by_cases h:x<y+b
 ·rw[if_pos h,Du (p:=(x:Int)<y+b) (by omega)];simp
 ·rw[if_neg h,AW (p:=(x:Int)<y+b) (by omega)];simp
theorem Q5w {x y:Nat} (hx:x<w64) (hyx:y<=x):Ji [U x,U y,U 0]=some [U ((x-y:Nat):Int),U 0]:=by
 have:=Zjx (x:=x) (y:=y) (b:=0) hx (by omega) (.inl rfl)
 have e64:Fv=18446744073709551616:=rfl
 rw[BB]at hx
 rw[if_neg (by omega),e64,show((x:Int)-y-((0:Nat):Int))%18446744073709551616=((x-y:Nat):Int) by omega]at this
 exact this
theorem Q6s {M1 M2 M3 M4:Fn} {n r:Nat} {mode:Int} (hn:n<9223372036854775807) (hrn:r*r<=n) (hr:M4 [U 0,U n]=some [U r]) (hm:M3 [U r,U r]=some [U 0,U ((r*r:Nat):Int)]) (hs1:M2 [U n,U ((r*r:Nat):Int),U 0]=some [U ((n-r*r:Nat):Int),U 0])
  (hs2:M2 [U 0,U 0,U 0]=some [U 0,U 0]) (sg:∀k:Nat,k<9223372036854775808->M1 [U k,B false]=some [I k,B true]) (hmode:mode=1\/mode=2):
  Qd2 M1 M2 M3 M4 [U 0,U n,I mode]=some [I ((if(mode=1/\r*r<n)\/(mode=2/\r*r+r<n)then r+1 else r:Nat):Int),B true]:=by
 have hrr:r<=r*r:=by
  rcases Nat.eq_zero_or_pos r with h|h
  ·subst h;simp
  ·exact Nat.le_mul_of_pos_left r h
 have hw:IntKind.u64.wrap ((r:Int)+1)=((r+1:Nat):Int):=by rw[G2 (by omega)];omega
 have s1:=sg r (by omega)
 have s2:=sg (r+1) (by omega)
 rw[Zs1]
 simp only[go_sem,hr,hm,hs1,hs2,hw,s1,s2]
 rcases hmode with rfl|rfl
 ·rw[if_pos rfl,if_neg (by omega)]
  by_cases h:r*r<n
  ·rw[if_pos (by omega),if_pos (by omega)]
  ·rw[if_neg (by omega),if_neg (by omega),if_neg (by omega)]
 ·rw[if_neg (by omega),if_pos rfl,if_neg (by omega)]
  by_cases h:r*r+r<n
  ·rw[if_pos (by omega),if_pos (by omega)]
  ·rw[if_neg (by omega),if_neg (by omega)]
theorem Zr3 {M1 M2:Fn} {n:Nat} {mode:Int} {k:Int} (hn:n<9223372036854775807) (hk:M2 [I mode]=some [B true]) (hr:M1 [U 0,U n,I mode]=some [I k,B true]):Z1 M1 M2 [I n,I mode]=some [I k,B true]:=by
 have hw:IntKind.u64.wrap (n:Int)=(n:Int):=G2 (by omega)
 rw[Zqt]
 simp only[go_sem,hk,hw,hr]
 rw[if_neg (by omega),if_neg (by simp)]
theorem Qam {mode:Int} (h:mode=0\/mode=1\/mode=2):Fd [I mode]=some [B true]:=by
 unfold Fd
 rw[Q1i]
 rcases h with rfl|rfl|rfl<;>rfl
theorem Qu1 {n:Nat} {mode:Int} (hn:n<9223372036854775807) (hmode:mode=1\/mode=2):
  ∃r:Nat,Ij [I n,I mode]=some [I ((if(mode=1/\r*r<n)\/(mode=2/\r*r+r<n)then r+1 else r:Nat):Int),B true]/\r*r<=n/\n<(r+1)*(r+1):=by
 have hnw:n<w64:=by rw[BB];omega
 obtain⟨r,h1,h2,h3,h4⟩:=Qrg (hi:=0) (lo:=n) OK hnw
 rw[Nat.zero_mul,Nat.zero_add]at h2 h3
 obtain⟨hi,lo,e1,e2,e3⟩:∃hi lo:Nat,HH [U r,U r]=some [U hi,U lo]/\hi*w64+lo=r*r/\lo<w64:=⟨_,_,Qxc h4 h4,Qor _,Nat.mod_lt _ OK⟩
 have hhi:hi=0:=by
  rcases Nat.eq_zero_or_pos hi with h|h
  ·exact h
  ·have:=Nat.mul_le_mul_right w64 h
   omega
 subst hhi
 have hlo:lo=r*r:=by omega
 subst hlo
 have z:=Q5w (x:=0) (y:=0) OK (Nat.le_refl _)
 refine⟨r,?_,h2,h3⟩
 exact Zr3 hn (Qam (.inr hmode)) (Q6s hn h2 h1 e1 (Q5w hnw h2) z (fun k hk=>Qjf hk) hmode)
end Go.Bm
/- products divided and rounded: wide.MulDiv and the reference's Rounded -/
set_option maxRecDepth 100000
namespace Go.Bm

def Bb (a b:Int):Int:=(2*a+b)/(2*b)
theorem KK {a b k:Int} (hb:0<b) (h1:k*(2*b)<=2*a+b) (h2:2*a+b<(k+1)*(2*b)):Bb a b=k:=by
 unfold Bb
 have g1:k<=(2*a+b)/(2*b):=(Int.le_ediv_iff_mul_le (by omega)).2 h1
 have g2:(2*a+b)/(2*b)<k+1:=(Int.ediv_lt_iff_lt_mul (by omega)).2 h2
 omega
theorem Qq5 {p c:Nat} (hp:p<w64) (hc:0<c):F6 [U 0,U p,U c]=some [U ((p/c:Nat):Int),U ((p%c:Nat):Int)]:=by
 rw[BB]at hp
 have h1:(p:Int).tdiv (c:Int)=((p/c:Nat):Int):=by rw[Int.tdiv_eq_ediv_of_nonneg (by omega)];simp
 have h2:(p:Int).tmod (c:Int)=((p%c:Nat):Int):=by rw[Int.tmod_eq_emod_of_nonneg (by omega)];simp
 have h3:p/c<=p:=Nat.div_le_self _ _
 unfold F6
 generalize HZ=M
 generalize QE=N1
 generalize Vl=N2
 rw[Qtn]
 rw[Bl (by simp;omega),AW (by omega),Bz (by simp),AW (by omega),AW (by omega),h1,h2]
 generalize p/c=q at*
 rw[G2 (by omega)]
theorem Qw6 (more:Int) (some_ neg:Bool):GZ [I 2,I more,B some_,B neg]=some [B (if more>0 then true else if more=0 then !neg else false)]:=by
 unfold GZ
 rw[Qsc]
 simp only[go_sem]
 rw[if_neg (by omega),if_neg (by omega)]
 repeat' split
 all_goals rfl
theorem Qy3 {n:Nat} (h:n<=9223372036854775808):Ew [U n,B true]=some [I (-(n:Int)),B true]:=by
 unfold Ew
 rw[WK]
 simp only[go_sem]
 rw[if_pos (by omega),NH,Qno]
 have:((0-(n:Int))%18446744073709551616+9223372036854775808)%18446744073709551616-9223372036854775808= -(n:Int):=by omega
 rw[this]

def GC (q r c:Nat) (neg:Bool):Nat:=if r>c-r then q+1 else if r<c-r then q else if neg then q else q+1
theorem Zhu {M1 M2 M3 M4 M5 M6 M7:Fn} {a b s:Int} {A C p q r c:Nat} (hc0:0<c) (hc1:c<9223372036854775808) (hr:r<c) (hq:q<9223372036854775807)
  (k1:M7 [I 2]=some [B true]) (k2:M6 [I a]=some [U A]) (k3:M6 [I b]=some [U C]) (k4:M6 [I c]=some [U c]) (k5:M5 [U A,U C]=some [U 0,U p]) (k6:M4 [U 0,U p,U c]=some [U q,U r]) (k7:M3 [I a,I b]=some [I s])
  (k8:∀(more:Int) (some_ neg:Bool),M2 [I 2,I more,B some_,B neg]=some [B (if more>0 then true else if more=0 then !neg else false)])
  (k9:∀k:Nat,k<9223372036854775808->M1 [U k,B false]=some [I k,B true]) (k10:∀k:Nat,k<9223372036854775808->M1 [U k,B true]=some [I (-(k:Int)),B true]):
  QJ M1 M2 M3 M4 M5 M6 M7 [I a,I b,I c,I 2]=some [I (if s<0 then-(GC q r c true:Int)else(GC q r c false:Int)),B true]:=by
 have w1:IntKind.u64.wrap ((c:Int)-(r:Int))=((c-r:Nat):Int):=by rw[G2 (by omega)];omega
 have w2:IntKind.u64.wrap ((q:Int)+1)=((q+1:Nat):Int):=by rw[G2 (by omega)];omega
 have n1:=k9 q (by omega)
 have n2:=k9 (q+1) (by omega)
 rw[Qot]
 simp only[go_sem,k1,k2,k3,k4,k5,k6,k7,k8,w1,w2,n1,n2]
 rw[if_neg (by omega),if_neg (by simp),if_neg (by omega)]
 by_cases hs:s<0
 ·rw[if_pos hs]
  rw[if_pos (show¬(s<0↔(c:Int)<0) by omega)]
  have hne:(s !=0)=true:=by simp;omega
  rw[hne]
  unfold GC
  by_cases g1:r>c-r
  ·rw[if_pos g1]
   rw[if_pos (show(r:Int)>((c-r:Nat):Int) by omega),if_pos (by decide),if_neg (show¬((q+1:Nat):Int)=0 by omega),k10 (q+1) (by omega)]
   simp only[go_sem]
  ·rw[if_neg g1]
   rw[if_neg (show¬(r:Int)>((c-r:Nat):Int) by omega)]
   by_cases g2:r<c-r
   ·rw[if_pos g2]
    rw[if_pos (show(r:Int)<((c-r:Nat):Int) by omega),if_neg (by decide),k10 q (by omega)]
    simp only[go_sem]
   ·rw[if_neg g2,if_pos rfl]
    rw[if_neg (show¬(r:Int)<((c-r:Nat):Int) by omega),if_neg (by decide),k10 q (by omega)]
    simp only[go_sem]
 ·rw[if_neg hs]
  rw[if_neg (show¬¬(s<0↔(c:Int)<0) by omega)]
  unfold GC
  by_cases g1:r>c-r
  ·rw[if_pos g1,if_pos (show(r:Int)>((c-r:Nat):Int) by omega),if_pos (by decide),if_neg (show¬((q+1:Nat):Int)=0 by omega)]
  ·rw[if_neg g1,if_neg (show¬(r:Int)>((c-r:Nat):Int) by omega)]
   by_cases g2:r<c-r
   ·rw[if_pos g2,if_pos (show(r:Int)<((c-r:Nat):Int) by omega),if_neg (by decide)]
   ·rw[if_neg g2,if_neg (show¬(r:Int)<((c-r:Nat):Int) by omega),if_pos (by decide),if_neg (show¬((q+1:Nat):Int)=0 by omega),if_neg (by decide)]

theorem Zkh (q r c:Nat):GC q r c false=if r<c-r then q else q+1:=by
 unfold GC
 by_cases h1:r>c-r
 ·rw[if_pos h1,if_neg (by omega)]
 ·rw[if_neg h1]
  by_cases h2:r<c-r
  ·rw[if_pos h2,if_pos h2]
  ·rw[if_neg h2,if_neg h2,if_neg (by simp)]
theorem Zu3 (q r c:Nat):GC q r c true=if r>c-r then q+1 else q:=by
 unfold GC
 by_cases h1:r>c-r
 ·rw[if_pos h1,if_pos h1]
 ·rw[if_neg h1,if_neg h1]
  by_cases h2:r<c-r
  ·rw[if_pos h2]
  ·rw[if_neg h2,if_pos rfl]
theorem Q3e {p q r c:Nat} (hc:0<c) (h:p=c*q+r) (hr:r<c):Bb p c=GC q r c false:=by
 have e:(p:Int)=(c:Int)*q+r:=by rw[h];simp
 have e3:(q:Int)*(2*c)=2*((c:Int)*q):=by grind
 have e4:((q+1:Nat):Int)*(2*c)=2*((c:Int)*q)+2*c:=by grind
 have e5:((q:Int)+1)*(2*c)=2*((c:Int)*q)+2*c:=by grind
 have e6:(((q+1:Nat):Int)+1)*(2*c)=2*((c:Int)*q)+4*c:=by grind
 rw[Zkh]
 by_cases g:r<c-r
 ·rw[if_pos g]
  exact KK (by omega) (by rw[e3];omega) (by rw[e5];omega)
 ·rw[if_neg g]
  exact KK (by omega) (by rw[e4];omega) (by rw[e6];omega)
theorem Zep {p q r c:Nat} (hc:0<c) (h:p=c*q+r) (hr:r<c):Bb (-(p:Int)) c= -(GC q r c true:Int):=by
 have e:(p:Int)=(c:Int)*q+r:=by rw[h];simp
 have e3: -(q:Int)*(2*c)= -(2*((c:Int)*q)):=by grind
 have e4: -((q+1:Nat):Int)*(2*c)= -(2*((c:Int)*q))-2*c:=by grind
 have e5:(-(q:Int)+1)*(2*c)= -(2*((c:Int)*q))+2*c:=by grind
 have e6:(-((q+1:Nat):Int)+1)*(2*c)= -(2*((c:Int)*q)):=by grind
 rw[Zu3]
 by_cases g:r>c-r
 ·rw[if_pos g]
  exact KK (by omega) (by rw[e4];omega) (by rw[e6];omega)
 ·rw[if_neg g]
  exact KK (by omega) (by rw[e3];omega) (by rw[e5];omega)
theorem Q2 {a b c:Int} (ha:i64 a) (hb:i64 b) (hc:0<c/\c<9223372036854775808) (hp:a.natAbs*b.natAbs<9223372036854775807):Be [I a,I b,I c,I 2]=some [I (Bb (a*b) c),B true]:=by
 obtain⟨hi,lo,e1,e2,e3⟩:=NA (Nl ha) (Nl hb)
 have hm:=Q_ a b
 have hs:=SO a b
 have hz:a*b=0->a.natAbs*b.natAbs=0:=fun h=>by rw[<-Int.natAbs_mul,h];rfl
 generalize a.natAbs*b.natAbs=p at*
 have hhi:hi=0:=by
  rcases Nat.eq_zero_or_pos hi with h|h
  ·exact h
  ·have:=Nat.mul_le_mul_right w64 h
   have:=BB
   omega
 subst hhi
 have hlo:lo=p:=by omega
 subst hlo
 obtain⟨n,rfl⟩:=Int.eq_ofNat_of_zero_le (show 0<=c by omega)
 have hn:0<n:=by omega
 have h1:=Nat.div_add_mod lo n
 have h2:=Nat.mod_lt lo hn
 have h3:lo/n<=lo:=Nat.div_le_self _ _
 have hd:=Qq5 e3 hn
 have hcs:=Hv (x:=(n:Int)) (by unfold i64;omega)
 rw[Int.natAbs_natCast]at hcs
 generalize lo/n=q at*
 generalize lo%n=r at*
 have hmain:=Zhu (M1:=Ew) (M2:=GZ) (M3:=Fi) (M4:=F6) (M5:=DV) (M6:=FF) (M7:=Fd) hn (by omega) h2 (by omega)
  (Qam (.inr (.inr rfl))) (Hv ha) (Hv hb) hcs e1 hd (Y5 a b) Qw6 (fun k hk=>Qjf hk) (fun k hk=>Qy3 (by omega))
 have hv:(if sgn a b<0 then-(GC q r n true:Int)else(GC q r n false:Int))=Bb (a*b) n:=by
  rcases hs with⟨g1,g2⟩|⟨g1,g2⟩|⟨g1,g2⟩
  ·rw[if_neg (by omega),g2]
   rw[g1]at hm
   have:lo=0:=hz g2
   rw[<-Q3e hn h1.symm h2,this];rfl
  ·rw[if_neg (by omega),<-Q3e hn h1.symm h2,<-hm,g1,Int.one_mul]
  ·rw[if_pos (by omega),<-Zep hn h1.symm h2,<-hm,g1,Int.neg_mul,Int.one_mul]
 rw[hv]at hmain
 exact hmain
end Go.Bm
/- layer 1's reference: numbers as lists of digits to the base 65536 -/
set_option maxRecDepth 100000
namespace Go.Bm

def val:List Nat->Nat
 |[]=>0
 |d::l=>d+65536*val l
def Dig (l:List Nat):Prop:=∀d∈l,d<65536
theorem Dig.sub {l m:List Nat} (h:Dig l) (hs:∀d∈m,d∈l):Dig m:=fun d hd=>h d (hs d hd)

end Go.Bm
/- layer 1's reference: the product of numbers as lists of digits, and the comparison of products -/
set_option maxRecDepth 100000
namespace Go.Bm

theorem Dig.set {l:List Nat} (h:Dig l) (j d:Nat) (hd:d<65536):Dig (l.set j d):=by
 intro x hx
 rcases List.mem_or_eq_of_mem_set hx with h'|rfl
 ·exact h x h'
 ·exact hd
end Go.Bm
/- points as vectors: bounds, inner products, differences; when a point is Bb a straight line -/
set_option maxRecDepth 100000
namespace Go.Bm
def bd (A:Nat) (p:Pt):Prop:=p.x.natAbs<=A/\p.y.natAbs<=A/\p.z.natAbs<=A
def Iw (a b:Pt):Int:=a.x*b.x+a.y*b.y+a.z*b.z
def Gn (a b:Pt):Pt:=⟨a.x-b.x,a.y-b.y,a.z-b.z⟩
theorem GV {x y:Int} {A B:Nat} (hx:x.natAbs<=A) (hy:y.natAbs<=B):(x*y).natAbs<=A*B:=by rw[Int.natAbs_mul];exact Nat.mul_le_mul hx hy
theorem AU {A B:Nat} {a:Pt} (h:bd A a) (hab:A<=B):bd B a:=⟨Nat.le_trans h.1 hab,Nat.le_trans h.2.1 hab,Nat.le_trans h.2.2 hab⟩

theorem Q8g (a b:Pt):Iw (Gn a b) (Gn a b)=Iw (Gn b a) (Gn b a):=by
 simp only[Iw,Gn]
 have h:∀x y:Int,(x-y)*(x-y)=(y-x)*(y-x):=by intro x y;rw[<-Int.neg_mul_neg,Int.neg_sub]
 rw[h a.x,h a.y,h a.z]
theorem Zf7 {x y:Int}:J5 x y<=0↔x<=y:=by
 unfold J5
 by_cases h:x<y
 ·rw[if_pos h];omega
 ·rw[if_neg h]
  by_cases h':x=y
  ·rw[if_pos h'];omega
  ·rw[if_neg h'];omega

end Go.Bm
/- the reference's products of two words, roots, lengths, and x r / sqrt n, rounded -/
set_option maxRecDepth 100000
namespace Go.Bm

theorem Qso (v:Nat) (h:v<w64):IntKind.u64.wrap (((BitVec.ofInt IntKind.u64.bits (v:Int)&&&BitVec.ofInt IntKind.u64.bits 4294967295).toNat:Nat):Int)=((v%4294967296:Nat):Int):=by
 rw[BB]at h
 have e:(BitVec.ofInt IntKind.u64.bits (v:Int)&&&BitVec.ofInt IntKind.u64.bits 4294967295).toNat=v%4294967296:=by
  rw[BitVec.toNat_and]
  have e1:(BitVec.ofInt IntKind.u64.bits (v:Int)).toNat=v:=by
   simp only[IntKind.bits,BitVec.toNat_ofInt]
   omega
  have e2:(BitVec.ofInt IntKind.u64.bits 4294967295).toNat=2^32-1:=by
   simp only[IntKind.bits,BitVec.toNat_ofInt]
   rfl
  rw[e1,e2,Nat.and_two_pow_sub_one_eq_mod]
 rw[e,G2 (by omega)]
theorem Qyc (v:Nat):(v:Int).fdiv (2^min (Int.toNat 32) IntKind.u64.bits)=((v/4294967296:Nat):Int):=by
 have e:(2^min (Int.toNat 32) IntKind.u64.bits:Int)=4294967296:=rfl
 rw[e,Int.fdiv_eq_ediv_of_nonneg _ (by omega)]
 omega
def Ei (a n:Nat) (down:Bool) (j:Nat):Prop:=
 (j=0\/if down=true then(2*j-1)*(2*j-1)*n<4*(a*a)else(2*j-1)*(2*j-1)*n<=4*(a*a))/\
 (if down=true then 4*(a*a)<=(2*j+1)*(2*j+1)*n else 4*(a*a)<(2*j+1)*(2*j+1)*n)
theorem PT {p q n:Nat} (h:p<=q):p*p*n<=q*q*n:=Nat.mul_le_mul_right _ (Nat.mul_le_mul h h)
theorem Zdo {a n:Nat} {down:Bool} {i j:Nat} (hi:Ei a n down i) (hj:Ei a n down j):i=j:=by
 have key:∀{i j:Nat},Ei a n down i->Ei a n down j-> ¬i<j:=by
  rintro i j ⟨-,h2⟩ ⟨h3,-⟩ hlt
  have h4:=PT (n:=n) (show 2*i+1<=2*j-1 by omega)
  rcases h3 with h3|h3
  ·omega
  ·by_cases hd:down=true
   ·rw[if_pos hd]at h2 h3;omega
   ·rw[if_neg hd]at h2 h3;omega
 have h1:=key hi hj
 have h2:=key hj hi
 omega
open Classical in
noncomputable def rnd (a n:Nat) (down:Bool):Nat:=if h:∃j,Ei a n down j then Classical.choose h else 0
theorem R6 {a n:Nat} {down:Bool} {j:Nat} (h:Ei a n down j):rnd a n down=j:=by
 have hx:∃j,Ei a n down j:=⟨j,h⟩
 unfold rnd
 rw[dif_pos hx]
 exact Zdo (Classical.choose_spec hx) h
noncomputable def BN (x r n:Int):Int:=if x<0 then-(rnd (x.natAbs*r.natAbs) n.natAbs true:Int)else(rnd (x.natAbs*r.natAbs) n.natAbs false:Int)

theorem Qjy {X R n j:Nat} {down:Bool} (hn:0<n) (hx:X*X<=n) (h:Ei (X*R) n down j):j<=R:=by
 by_cases c:j<=R
 ·exact c
 exfalso
 have e:4*(X*R*(X*R))=(2*R)*(2*R)*(X*X):=by grind
 have h2:(2*R)*(2*R)*(X*X)<=(2*R)*(2*R)*n:=Nat.mul_le_mul_left _ hx
 have h3:(2*R)*(2*R)*n<(2*R+1)*(2*R+1)*n:=Nat.mul_lt_mul_of_pos_right (Nat.mul_self_lt_mul_self (by omega)) hn
 have h4:(2*R+1)*(2*R+1)*n<=(2*j-1)*(2*j-1)*n:=PT (by omega)
 obtain⟨h5,-⟩:=h
 rcases h5 with h5|h5
 ·omega
 ·split at h5<;>omega
theorem Q7n {X R n j:Nat} {down:Bool} (hn:0<n) (hx:R*R<=n) (h:Ei (X*R) n down j):j<=X:=by
 rw[Nat.mul_comm]at h
 exact Qjy hn hx h
theorem Zml {a n q:Nat} (down:Bool) (h1:q*q*n<=a*a) (h2:a*a<(q+1)*(q+1)*n):
  Ei a n down (if(if down=true then(2*q+1)*(2*q+1)*n<2*a*(2*a)else(2*q+1)*(2*q+1)*n<=2*a*(2*a))then q+1 else q):=by
 have e4:2*a*(2*a)=4*(a*a):=by grind
 rw[e4]
 have e1:4*(q*q*n)<=4*(a*a):=Nat.mul_le_mul_left _ h1
 have e2:4*(a*a)<4*((q+1)*(q+1)*n):=by omega
 have e5:(2*q-1)*(2*q-1)*n<=(2*q)*(2*q)*n:=PT (by omega)
 have e6:(2*q)*(2*q)*n=4*(q*q*n):=by grind
 have e7:(2*(q+1))*(2*(q+1))*n=4*((q+1)*(q+1)*n):=by grind
 have e8:(2*(q+1))*(2*(q+1))*n<=(2*(q+1)+1)*(2*(q+1)+1)*n:=PT (by omega)
 have e9:n=0\/q=0\/(2*q-1)*(2*q-1)*n<(2*q)*(2*q)*n:=by
  by_cases hn:n=0
  ·exact .inl hn
  ·by_cases hq:q=0
   ·exact .inr (.inl hq)
   ·right;right
    refine Nat.mul_lt_mul_of_pos_right ?_ (by omega)
    exact Nat.mul_self_lt_mul_self (by omega)
 have hn:n≠0:=by rintro rfl;simp at h2
 unfold Ei
 cases down
 ·simp only[Bool.false_eq_true,if_false]
  by_cases c:(2*q+1)*(2*q+1)*n<=4*(a*a)
  ·rw[if_pos c]
   refine⟨.inr ?_,by omega⟩
   rw[show 2*(q+1)-1=2*q+1 by omega];exact c
  ·rw[if_neg c]
   exact⟨by omega,by omega⟩
 ·simp only[if_true]
  by_cases c:(2*q+1)*(2*q+1)*n<4*(a*a)
  ·rw[if_pos c]
   refine⟨.inr ?_,by omega⟩
   rw[show 2*(q+1)-1=2*q+1 by omega];exact c
  ·rw[if_neg c]
   exact⟨by omega,by omega⟩
theorem Zs0 {A N:Nat} (hN:0<N):∃q:Nat,q*q*N<=A*A/\A*A<(q+1)*(q+1)*N:=by
 have key:∀n:Nat,∃r:Nat,r*r<=n/\n<(r+1)*(r+1):=by
  intro n
  induction n with
  |zero=>exact⟨0,by simp,by simp⟩
  |succ n ih=>
   obtain⟨r,h1,h2⟩:=ih
   by_cases h:n+1<(r+1)*(r+1)
   ·exact⟨r,by omega,h⟩
   ·refine⟨r+1,by omega,?_⟩
    have:(r+1+1)*(r+1+1)=(r+1)*(r+1)+2*(r+1)+1:=by grind
    omega
 obtain⟨q,h1,h2⟩:=key (A*A/N)
 exact⟨q,(Nat.le_div_iff_mul_le hN).1 h1,(Nat.div_lt_iff_lt_mul hN).1 h2⟩
theorem QU {x r n:Int} (hx:x.natAbs<=33554432*4) (hr:0<=r/\r<=33554432*4) (hn:0<n/\n<=4611686018427387904) (hxn:x*x<=n):
  True/\(BN x r n).natAbs<=268435456/\Ei (x.natAbs*r.natAbs) n.natAbs (decide (x<0)) (BN x r n).natAbs:=by
 obtain⟨R,rfl⟩:=Int.eq_ofNat_of_zero_le hr.1
 obtain⟨N,rfl⟩:=Int.eq_ofNat_of_zero_le (show 0<=n by omega)
 have hxx:x.natAbs*x.natAbs<=N:=by
  have:((x.natAbs*x.natAbs:Nat):Int)=x*x:=by rw[Int.natAbs_mul_self]
  omega
 simp only[BN,Int.natAbs_natCast]
 obtain⟨q,l2,l3⟩:=Zs0 (A:=x.natAbs*R) (N:=N) (by omega)
 obtain⟨j,hi⟩:∃j,Ei (x.natAbs*R) N (decide (x<0)) j:=⟨_,Zml (decide (x<0)) l2 l3⟩
 have hle:=Qjy (X:=x.natAbs) (R:=R) (by omega) hxx hi
 have hrr:=R6 hi
 by_cases hx0:x<0
 ·have e:=decide_eq_true hx0
  rw[e]at hi hrr⊢
  rw[if_pos hx0,hrr,Int.natAbs_neg,Int.natAbs_natCast]
  exact⟨trivial,by omega,hi⟩
 ·have e:=decide_eq_false hx0
  rw[e]at hi hrr⊢
  rw[if_neg hx0,hrr,Int.natAbs_natCast]
  exact⟨trivial,by omega,hi⟩

def HN (n k:Int):Prop:=0<=k/\n<=k*k/\(k=0\/(k-1)*(k-1)<n)
theorem Zef {n i j:Int} (hi:HN n i) (hj:HN n j):i=j:=by
 have key:∀{i j:Int},HN n i->HN n j-> ¬i<j:=by
  rintro i j ⟨h1,h2,-⟩ ⟨h4,h5,h6⟩ hlt
  rcases h6 with h6|h6
  ·omega
  ·have:=Int.mul_self_le_mul_self h1 (show i<=j-1 by omega)
   omega
 have h1:=key hi hj
 have h2:=key hj hi
 omega
open Classical in
noncomputable def upR (n:Int):Int:=if h:∃j,HN n j then Classical.choose h else 0
theorem Qnu {n k:Int} (h:HN n k):upR n=k:=by
 have hx:∃j,HN n j:=⟨k,h⟩
 unfold upR
 rw[dif_pos hx]
 exact Zef (Classical.choose_spec hx) h
theorem Qwa {n r:Nat} (h1:r*r<=n) (h2:n<(r+1)*(r+1)):HN n (if r*r<n then r+1 else r:Nat):=by
 unfold HN
 by_cases c:r*r<n
 ·rw[if_pos c]
  have e1:((r+1:Nat):Int)*((r+1:Nat):Int)=(((r+1)*(r+1):Nat):Int):=(Int.natCast_mul _ _).symm
  have e2:(((r+1:Nat):Int)-1)*(((r+1:Nat):Int)-1)=((r*r:Nat):Int):=by
   rw[show((r+1:Nat):Int)-1=(r:Int) by omega];exact(Int.natCast_mul _ _).symm
  rw[e1,e2]
  generalize(r+1)*(r+1)=A at*
  generalize r*r=B at*
  exact⟨by omega,by omega, .inr (by omega)⟩
 ·rw[if_neg c]
  have e1:(r:Int)*(r:Int)=((r*r:Nat):Int):=(Int.natCast_mul _ _).symm
  rw[e1]
  refine⟨by omega,by omega,?_⟩
  rcases Nat.eq_zero_or_pos r with h|h
  ·left;omega
  ·right
   have e2:((r:Int)-1)*((r:Int)-1)=(((r-1)*(r-1):Nat):Int):=by
    rw[show(r:Int)-1=((r-1:Nat):Int) by omega];exact(Int.natCast_mul _ _).symm
   have:=Nat.mul_self_lt_mul_self (show r-1<r by omega)
   rw[e2];omega

theorem Zd0 (k:Nat):((2^(k+1):Nat):Int).fdiv (2^min (Int.toNat 1) IntKind.i64.bits)=((2^k:Nat):Int):=by
 have e:(2^min (Int.toNat 1) IntKind.i64.bits:Int)=2:=rfl
 rw[e,Int.fdiv_eq_ediv_of_nonneg _ (by omega),Nat.pow_succ]
 omega
theorem Zbp:(1:Int).fdiv (2^min (Int.toNat 1) IntKind.i64.bits)=0:=rfl
theorem Zo0:∀n:Nat,∃r:Nat,r*r<=n/\n<(r+1)*(r+1):=by
 intro n
 induction n with
 |zero=>exact⟨0,by simp,by simp⟩
 |succ n ih=>
  obtain⟨r,h1,h2⟩:=ih
  by_cases h:n+1<(r+1)*(r+1)
  ·exact⟨r,by omega,h⟩
  ·refine⟨r+1,by omega,?_⟩
   have:(r+1+1)*(r+1+1)=(r+1)*(r+1)+2*(r+1)+1:=by grind
   omega
theorem QW {n:Nat} (hn:n<4611686018427387904):∃r:Nat,True/\r*r<=n/\n<(r+1)*(r+1)/\r<2147483648:=by
 obtain⟨r,h1,h2⟩:=Zo0 n
 refine⟨r,trivial,h1,h2,?_⟩
 by_cases c:r<2147483648
 ·exact c
 ·have:=Nat.mul_le_mul (show 2147483648<=r by omega) (show 2147483648<=r by omega)
  omega

def sqD (a b:Pt):Int:=Iw (Gn a b) (Gn a b)
theorem PK (a b:Pt):0<=sqD a b:=by
 unfold sqD Iw
 have h:∀u:Int,0<=u*u:=fun u=>by rw[<-Int.natAbs_mul_self];omega
 have:=h (Gn a b).x
 have:=h (Gn a b).y
 have:=h (Gn a b).z
 omega
theorem Dk {x:Int} {A:Nat} (h:x.natAbs<=A):0<=x*x/\x*x<=((A*A:Nat):Int):=by
 have:=Nat.mul_le_mul h h
 rw[<-Int.natAbs_mul_self]
 omega
theorem Ok {A:Nat} {a b:Pt} (ha:bd A a) (hb:bd A b) (hA:A<=67108864):sqD a b<=54043195528445952:=by
 have h:∀x y:Int,x.natAbs<=A->y.natAbs<=A->(x-y)*(x-y)<=18014398509481984:=by
  intro x y hx hy
  exact(Dk (x:=x-y) (A:=134217728) (by omega)).2
 have h1:=h _ _ ha.1 hb.1
 have h2:=h _ _ ha.2.1 hb.2.1
 have h3:=h _ _ ha.2.2 hb.2.2
 unfold sqD Iw Gn
 simp only
 omega
noncomputable def AA (a b:Pt):Int:=upR (sqD a b)
theorem Qi1 {a b:Pt} (ha:bd 67108864 a) (hb:bd 67108864 b):True/\HN (sqD a b) (AA a b):=by
 have h0:=PK a b
 have h1:=Ok ha hb (Nat.le_refl _)
 obtain⟨d,hd⟩:=Int.eq_ofNat_of_zero_le h0
 unfold AA
 rw[hd]at h1⊢
 obtain⟨r,-,h2,h3,h4⟩:=QW (n:=d) (by omega)
 have hu:=Qwa h2 h3
 rw[Qnu hu]
 exact⟨trivial,hu⟩

theorem HA {a b:Pt} (ha:bd 67108864 a) (hb:bd 67108864 b):0<=AA a b/\AA a b<=268435456:=by
 obtain⟨-,h1,h2,h3⟩:=Qi1 ha hb
 have h4:=Ok ha hb (Nat.le_refl _)
 refine⟨h1,?_⟩
 rcases h3 with h3|h3
 ·omega
 ·by_cases c:AA a b<=268435456
  ·exact c
  ·have:=Int.mul_self_le_mul_self (a:=268435456) (b:=AA a b-1) (by omega) (by omega)
   omega
def Ii (n k:Int):Prop:=0<=k/\n<=k*(k+1)/\(k=0\/(k-1)*k<n)
end Go.Bm
/- the reference's corners -/
set_option maxRecDepth 100000
namespace Go.Bm

theorem Hw {x:Int} {A:Nat} (h:x.natAbs<=A) (hA:A<=9223372036854775807):IntKind.i64.wrap x=x:=Ae (by omega)
theorem HW {x y:Int} {A B:Nat} (hx:x.natAbs<=A) (hy:y.natAbs<=B):(x-y).natAbs<=A+B:=by omega
theorem RC {x y:Int} {A B:Nat} (hx:x.natAbs<=A) (hy:y.natAbs<=B):(x+y).natAbs<=A+B:=by omega
theorem Qdb {c u x:Int} {A:Nat} (hc:c.natAbs<=A) (ha:(c+x).natAbs<=A) (h:(0<=x->0<=u/\u<=x)/\(x<=0->x<=u/\u<=0)):(c+u).natAbs<=A:=by
 rcases Int.le_total 0 x with g|g
 ·have:=h.1 g;omega
 ·have:=h.2 g;omega
theorem Qhh (a b:Pt):sqD a b=(a.x-b.x)*(a.x-b.x)+(a.y-b.y)*(a.y-b.y)+(a.z-b.z)*(a.z-b.z):=rfl
theorem Fk (u:Int):0<=u*u:=by rw[<-Int.natAbs_mul_self];omega
theorem Qay {a b:Pt}:sqD a b=0↔a=b:=by
 rw[Qhh]
 obtain⟨a1,a2,a3⟩:=a
 obtain⟨b1,b2,b3⟩:=b
 have h1:=Fk (a1-b1)
 have h2:=Fk (a2-b2)
 have h3:=Fk (a3-b3)
 constructor
 ·intro h
  simp only at h
  have e1:(a1-b1)*(a1-b1)=0:=by omega
  have e2:(a2-b2)*(a2-b2)=0:=by omega
  have e3:(a3-b3)*(a3-b3)=0:=by omega
  have z:∀u:Int,u*u=0->u=0:=fun u hu=>by
   rcases Int.mul_eq_zero.1 hu with h|h<;>exact h
  have:=z _ e1
  have:=z _ e2
  have:=z _ e3
  rw[Pt.mk.injEq];omega
 ·intro h
  injection h with h4 h5 h6
  subst h4 h5 h6
  simp
theorem Qza (a b:Pt):(a.x-b.x)*(a.x-b.x)<=sqD a b/\(a.y-b.y)*(a.y-b.y)<=sqD a b/\(a.z-b.z)*(a.z-b.z)<=sqD a b:=by
 rw[Qhh]
 have h1:=Fk (a.x-b.x)
 have h2:=Fk (a.y-b.y)
 have h3:=Fk (a.z-b.z)
 omega

noncomputable def BC (c a:Pt) (d:Int):Pt:=⟨c.x+BN (a.x-c.x) d (sqD a c),c.y+BN (a.y-c.y) d (sqD a c),c.z+BN (a.z-c.z) d (sqD a c)⟩
abbrev B24:Nat:=16777216
theorem Qkl {x r n:Int} (hx:x.natAbs<=33554432*4) (hr:0<=r/\r<=33554432*4) (hn:0<n/\n<=4611686018427387904) (hxn:x*x<=n) (hrn:r*r<=n):
  (0<=x->0<=BN x r n/\BN x r n<=x)/\(x<=0->x<=BN x r n/\BN x r n<=0):=by
 obtain⟨-,h2,h3⟩:=QU hx hr hn hxn
 have h4 := Q7n (by omega) (by
  have:((r.natAbs*r.natAbs:Nat):Int)=r*r:=Int.natAbs_mul_self
  omega) h3
 unfold BN at*
 constructor
 ·intro h
  rw[if_neg (by omega)]at h4⊢
  omega
 ·intro h
  by_cases c:x<0
  ·rw[if_pos c]at h4⊢
   omega
  ·rw[if_neg c]at h4⊢
   omega
theorem Zsq {a b:Pt} (ha:bd B24 a) (hb:bd B24 b):sqD a b<=3377699720527872:=by
 have h:∀x y:Int,x.natAbs<=B24->y.natAbs<=B24->(x-y)*(x-y)<=1125899906842624:=by
  intro x y hx hy
  unfold B24 at*
  exact(Dk (x:=x-y) (A:=33554432) (by omega)).2
 have h1:=h _ _ ha.1 hb.1
 have h2:=h _ _ ha.2.1 hb.2.1
 have h3:=h _ _ ha.2.2 hb.2.2
 rw[Qhh]
 omega
theorem Jc {c a:Pt} {d:Int} (hc:bd B24 c) (ha:bd B24 a) (hne:a≠c) (hd:0<=d/\d<AA a c):bd B24 (BC c a d):=by
 have h0:sqD a c≠0:=fun h=>hne (Qay.1 h)
 have h1:=PK a c
 have h2:=Ok (AU ha (by decide)) (AU hc (by decide)) (show 67108864<=67108864 by omega)
 obtain⟨-,g1,g2,g3⟩:=Qi1 (AU ha (show B24<=67108864 by decide)) (AU hc (show B24<=67108864 by decide))
 have hl:=HA (AU ha (show B24<=67108864 by decide)) (AU hc (show B24<=67108864 by decide))
 have hdd:d*d<=sqD a c:=by
  have:=Int.mul_self_le_mul_self hd.1 (show d<=AA a c-1 by omega)
  omega
 have hd2:d<=33554432*4:=by
  by_cases c2:d<=33554432*4
  ·exact c2
  ·exfalso
   have h3:=Int.mul_self_le_mul_self (a:=33554432*4+1) (b:=d) (by omega) (by omega)
   have h4:=Zsq ha hc
   omega
 obtain⟨q1,q2,q3⟩:=Qza a c
 have hn:0<sqD a c/\sqD a c<=4611686018427387904:=⟨Int.lt_iff_le_and_ne.2 ⟨h1,fun h=>h0 h.symm⟩,Int.le_trans h2 (by decide)⟩
 have hd3:0<=d/\d<=33554432*4:=⟨hd.1,hd2⟩
 have k1:=Qkl (x:=a.x-c.x) (r:=d) (n:=sqD a c) (Nat.le_trans (HW ha.1 hc.1) (by decide)) hd3 hn q1 hdd
 have k2:=Qkl (x:=a.y-c.y) (r:=d) (n:=sqD a c) (Nat.le_trans (HW ha.2.1 hc.2.1) (by decide)) hd3 hn q2 hdd
 have k3:=Qkl (x:=a.z-c.z) (r:=d) (n:=sqD a c) (Nat.le_trans (HW ha.2.2 hc.2.2) (by decide)) hd3 hn q3 hdd
 have e:∀x y:Int,x+(y-x)=y:=fun x y=>by omega
 exact⟨Qdb hc.1 (by rw[e];exact ha.1) k1,Qdb hc.2.1 (by rw[e];exact ha.2.1) k2,Qdb hc.2.2 (by rw[e];exact ha.2.2) k3⟩
def FN (p c q:Pt):Pt:=⟨p.x-c.x+(q.x-c.x),p.y-c.y+(q.y-c.y),p.z-c.z+(q.z-c.z)⟩
def Hf (p c q:Pt):Int:=Iw (FN p c q) (FN p c q)
theorem Zvz {p c q:Pt} (hp:bd B24 p) (hc:bd B24 c) (hq:bd B24 q):bd 67108864 (FN p c q):=by
 unfold bd B24 FN at*
 simp only
 omega
def Gp (a c b:Pt) (tol d:Int):Prop:=d<=mn (AA a c) (AA c b)-2/\Hf (BC c a d) c (BC c b d)<=16*tol*tol
theorem S6 (x y:Int):mn x y<=x/\mn x y<=y:=by unfold mn;split<;>omega
theorem Zy7 (a b:Pt):sqD a b=sqD b a:=by
 unfold sqD;exact Q8g a b
theorem S0 (a b:Pt):AA a b=AA b a:=by unfold AA;rw[Zy7]
open Classical in
noncomputable def Fu (P:Int->Prop):Nat->Int->Int
 |0,d=>if P (d+1)then d+1 else d
 |k+1,d=>Fu P k (if P (d+((2^(k+1):Nat):Int))then d+((2^(k+1):Nat):Int)else d)
open Classical in
theorem Qy6 {P:Int->Prop}:∀(k:Nat) (d:Int),d<=Fu P k d/\Fu P k d<d+((2^(k+1):Nat):Int)/\(Fu P k d=d\/P (Fu P k d))
 |0,d=>by
  have e:((2^(0+1):Nat):Int)=2:=rfl
  rw[e]
  unfold Fu
  split
  ·rename_i h;exact⟨by omega,by omega, .inr h⟩
  ·exact⟨by omega,by omega, .inl rfl⟩
 |k+1,d=>by
  unfold Fu
  have hp:0<2^(k+1):=Nat.two_pow_pos _
  have e3:2^(k+1+1)=2^(k+1)+2^(k+1):=by rw[Nat.pow_succ 2 (k+1)];omega
  rw[e3]
  have hif:(if P (d+((2^(k+1):Nat):Int))then d+((2^(k+1):Nat):Int)else d)=d\/((if P (d+((2^(k+1):Nat):Int))then d+((2^(k+1):Nat):Int)else d)=d+((2^(k+1):Nat):Int)/\P (if P (d+((2^(k+1):Nat):Int))then d+((2^(k+1):Nat):Int)else d)):=by
   split
   ·rename_i h;exact .inr ⟨rfl,h⟩
   ·exact .inl rfl
  generalize(if P (d+((2^(k+1):Nat):Int))then d+((2^(k+1):Nat):Int)else d)=d' at*
  obtain⟨h1,h2,h3⟩:=Qy6 (P:=P) k d'
  generalize Fu P k d'=x at*
  generalize 2^(k+1)=m at*
  rcases hif with hif|⟨hif,hP⟩
  ·subst hif
   exact⟨by omega,by omega,h3⟩
  ·refine⟨by omega,by omega, .inr ?_⟩
   rcases h3 with h3|h3
   ·rw[h3];exact hP
   ·exact h3
open Classical in
noncomputable def C2 (a c b:Pt) (tol:Int):Int:=if a=c\/b=c then 0 else if Fu (Gp a c b tol) 24 0<16 then 0 else Fu (Gp a c b tol) 24 0
theorem Qal {a c b:Pt} {tol:Int} (h:C2 a c b tol≠0):a≠c/\b≠c/\16<=C2 a c b tol/\C2 a c b tol<33554432/\Gp a c b tol (C2 a c b tol):=by
 unfold C2 at*
 split at h
 ·exact absurd rfl h
 ·rename_i h1
  rw[if_neg h1]
  split at h
  ·exact absurd rfl h
  ·rename_i h2
   rw[if_neg h2]
   obtain⟨h3,h4,h5⟩:=Qy6 (P:=Gp a c b tol) 24 0
   have e:((2^(24+1):Nat):Int)=33554432:=rfl
   rw[e]at h4
   refine⟨fun h=>h1 (.inl h),fun h=>h1 (.inr h),by omega,by omega,?_⟩
   rcases h5 with h5|h5
   ·omega
   ·exact h5
theorem Dz {a b:Pt}:a=b↔a.x=b.x/\a.y=b.y/\a.z=b.z:=by
 obtain⟨a1,a2,a3⟩:=a
 obtain⟨b1,b2,b3⟩:=b
 simp
def KH (bend:Int):Nat->Int->Int
 |0,n=>n
 |k+1,n=>if n<64/\bend>16*n*n*n*n*4*4 then KH bend k (n*2)else n
def Jw (n:Int):Prop:=n=2\/n=4\/n=8\/n=16\/n=32\/n=64
def Ks (p c q:Pt):Int:=KH (Hf p c q) 5 2
theorem Qs4 (b:Int):∀(k:Nat) (n:Int),Jw n->Jw (KH b k n)
 |0,n,h=>by unfold KH;exact h
 |k+1,n,h=>by
  unfold KH
  split
  ·rename_i c
   refine Qs4 b k (n*2) ?_
   rcases h with rfl|rfl|rfl|rfl|rfl|rfl<;>simp[Jw]at c⊢
  ·exact h
theorem Qhg {p c q:Pt} (hp:bd B24 p) (hc:bd B24 c) (hq:bd B24 q):True/\Jw (Ks p c q):=⟨trivial,Qs4 _ 5 2 (.inl rfl)⟩

def Na (n i p c q:Int):Int:=c+Bb ((n-i)*(n-i)*(p-c)+i*i*(q-c)) (n*n)
def L_ (n i:Int) (p c q:Pt):Pt:=⟨Na n i p.x c.x q.x,Na n i p.y c.y q.y,Na n i p.z c.z q.z⟩
theorem Qg {a b n:Int} (hn:0<n) (h:a<=b):Bb a n<=Bb b n:=by
 unfold Bb
 exact Int.ediv_le_ediv (by omega) (by omega)
theorem Q7 {k n:Int} (hn:0<n):Bb (k*n) n=k:=KK hn (by rw[show k*(2*n)=2*(k*n) by grind];omega) (by rw[show(k+1)*(2*n)=2*(k*n)+2*n by grind];omega)
theorem LP {n i p c q:Int} {A:Nat} (hn:0<n) (hi:0<=i/\i<=n) (hp:p.natAbs<=A) (hc:c.natAbs<=A) (hq:q.natAbs<=A):(Na n i p c q).natAbs<=A:=by
 have hnn:0<n*n:=Int.mul_pos hn hn
 have h1:0<=(n-i)*(n-i):=Fk _
 have h2:0<=i*i:=Fk _
 have h3:(n-i)*(n-i)+i*i<=n*n:=by
  have:n*n-((n-i)*(n-i)+i*i)=2*(i*(n-i)):=by grind
  have:0<=i*(n-i):=Int.mul_nonneg hi.1 (by omega)
  omega
 have key:∀s:Int,(s=1\/s= -1)->s*((n-i)*(n-i)*(p-c)+i*i*(q-c))<=(A-s*c)*(n*n):=by
  intro s hs
  have hp':s*p<=A:=by rcases hs with rfl|rfl<;>omega
  have hc':s*c<=A:=by rcases hs with rfl|rfl<;>omega
  have hq':s*q<=A:=by rcases hs with rfl|rfl<;>omega
  have g1:(n-i)*(n-i)*(s*p-s*c)<=(n-i)*(n-i)*(A-s*c):=Int.mul_le_mul_of_nonneg_left (by omega) h1
  have g2:i*i*(s*q-s*c)<=i*i*(A-s*c):=Int.mul_le_mul_of_nonneg_left (by omega) h2
  have g3:((n-i)*(n-i)+i*i)*(A-s*c)<=n*n*(A-s*c):=Int.mul_le_mul_of_nonneg_right h3 (by omega)
  have e1:s*((n-i)*(n-i)*(p-c)+i*i*(q-c))=(n-i)*(n-i)*(s*p-s*c)+i*i*(s*q-s*c):=by grind
  have e2:((n-i)*(n-i)+i*i)*(A-s*c)=(n-i)*(n-i)*(A-s*c)+i*i*(A-s*c):=Int.add_mul ..
  have e3:(A-s*c)*(n*n)=n*n*(A-s*c):=Int.mul_comm ..
  omega
 unfold Na
 have k1:=Qg hnn (key 1 (.inl rfl)|>fun h=>(by rw[Int.one_mul,Int.one_mul]at h;exact h))
 rw[Q7 hnn]at k1
 have k2:=key (-1) (.inr rfl)
 have k3:(-(A:Int)-c)*(n*n)<=(n-i)*(n-i)*(p-c)+i*i*(q-c):=by
  have e:(-(A:Int)-c)*(n*n)= -((A- -1*c)*(n*n)):=by grind
  omega
 have k4:=Qg hnn k3
 rw[Q7 hnn]at k4
 omega
noncomputable def FH (a c b:Pt) (tol:Int):List Pt:=
 if C2 a c b tol=0 then [c]
 else(List.range ((Ks (BC c a (C2 a c b tol)) c (BC c b (C2 a c b tol))).toNat+1)).map fun(i:Nat)=>L_ (Ks (BC c a (C2 a c b tol)) c (BC c b (C2 a c b tol))) i (BC c a (C2 a c b tol)) c (BC c b (C2 a c b tol))
theorem Q3z {a c b:Pt} {tol:Int} (ha:bd B24 a) (hc:bd B24 c) (hb:bd B24 b):(∀p∈FH a c b tol,bd B24 p)/\1<=(FH a c b tol).length/\(FH a c b tol).length<=65:=by
 unfold FH
 by_cases h:C2 a c b tol=0
 ·rw[if_pos h]
  simp;exact hc
 ·rw[if_neg h]
  obtain⟨h1,h2,h3,h4,h5,-⟩:=Qal h
  obtain⟨m1,m2⟩:=S6 (AA a c) (AA c b)
  generalize C2 a c b tol=d at*
  have k1:bd B24 (BC c a d):=Jc hc ha h1 (by omega)
  have k2:bd B24 (BC c b d):=Jc hc hb h2 (by rw[S0 b c];omega)
  have k3:=(Qhg k1 hc k2).2
  generalize Ks (BC c a d) c (BC c b d)=n at*
  have hn:2<=n/\n<=64:=by rcases k3 with rfl|rfl|rfl|rfl|rfl|rfl<;>omega
  refine⟨?_,by simp,by simp;omega⟩
  intro p hp
  simp only[List.mem_map,List.mem_range]at hp
  obtain⟨i,hi,rfl⟩:=hp
  exact⟨LP (by omega) (by omega) k1.1 hc.1 k2.1,LP (by omega) (by omega) k1.2.1 hc.2.1 k2.2.1,LP (by omega) (by omega) k1.2.2 hc.2.2 k2.2.2⟩
end Go.Bm
/- small points; numbers modulo n -/
set_option maxRecDepth 100000
namespace Go.Bm
theorem Q41 {v n:Int} (_:i64 v) (hn:0<n/\n<=4611686018427387904):HS [I v,I n]=some [I (v%n)]:=by
 unfold HS
 rw[Zv6,AW (by omega),AW (by omega)]
 have h1: -n<v.tmod n/\v.tmod n<n:=by
  have a1:=Int.tmod_lt_of_pos v hn.1
  have a2:=Int.lt_tmod_of_pos v hn.1
  omega
 rw[Ae (by omega)]
 have h2:(v.tmod n+n).tmod n=v%n:=by
  rw[Int.tmod_eq_emod_of_nonneg (by omega),Int.add_emod_right]
  have h3:=Int.tmod_add_mul_tdiv v n
  have h4:v%n=(v.tmod n+n*v.tdiv n)%n:=by rw[h3]
  rw[h4,Int.add_mul_emod_self_left]
 rw[h2]
end Go.Bm
/- what the makers of items give: numbers of a Gr, turned vectors -/
set_option maxRecDepth 100000
namespace Go.Bm

def Src (l:Rw):Prop:=l.length<=9223372036854775807/\∀c∈l,i64 (Af (nth .dead c 0))
theorem Zwk {l:Rw} {i:Nat} (h:i<l.length):nth [] l i∈l:=by rw[Iu [] l i h];exact List.getElem_mem h
theorem Zd2 {M:Fn} (hM:∀v n:Int,i64 v->0<n/\n<=4611686018427387904->M [I v,I n]=some [I (v%n)]) {l:Rw} (hl:Src l) {k:Nat} {n:Int} (hn:0<n/\n<=4611686018427387904):
  ∃(v:Int) (k':Nat),UI M [I n, .view Aa l,I k]=some [I v, .view Aa l,I k']/\0<=v/\v<n/\k<=k'/\(k<l.length->k'=k+1)/\(l.length<=k->k'=k):=by
 have hl1:=hl.1
 rw[Zsl]
 by_cases h:k<l.length
 ·have h1:=hM _ n (hl.2 _ (Zwk h)) hn
  simp only[go_sem,Int.toNat_natCast,h1]
  rw[if_neg (by omega),if_pos (by omega),Ae (by omega)]
  exact⟨_,k+1,rfl,Int.emod_nonneg _ (by omega),Int.emod_lt_of_pos _ hn.1,by omega,fun _=>rfl,by omega⟩
 ·simp only[go_sem]
  rw[if_pos (by omega)]
  exact⟨0,k,rfl,by omega,hn.1,by omega,by omega,fun _=>rfl⟩
theorem Z0i {l:Rw} (hl:Src l) (k:Nat) {n:Int} (hn:0<n/\n<=4611686018427387904):
  ∃(v:Int) (k':Nat),Bs [I n, .view Aa l,I k]=some [I v, .view Aa l,I k']/\0<=v/\v<n/\k<=k'/\(k<l.length->k'=k+1)/\(l.length<=k->k'=k):=
 Zd2 (fun _ _ hv hn=>Q41 hv hn) hl hn
theorem Qtk (l:Rw) (k:Nat):FD [.view Aa l,I k]=some [B (decide (k<l.length)), .view Aa l,I k]:=by
 unfold FD
 rw[Znq]
 congr 3
 simp
theorem OT (l:Rw):Ce [.view Aa l]=some [.view Aa l,I 0]:=by
 unfold Ce
 rw[Zx3]

def AL (r:Int) (k:Int):Int:=if k%4=0 then r else if k%4=2 then-r else 0
def AN (r:Int) (k:Int):Int:=if k%4=1 then r else if k%4=3 then-r else 0
theorem Z02 {r k:Int} (hr:0<=r/\r<=1000000) (hk:0<=k/\k<=1000):Mi [I r,I k]=some [I (AL r k),I (AN r k)]:=by
 unfold Mi
 rw[Q93,Ae (by omega),Int.tmod_eq_emod_of_nonneg hk.1]
 have hc:k%4=0\/k%4=1\/k%4=2\/k%4=3:=by omega
 unfold AL AN
 rcases hc with h|h|h|h<;>rw[h]<;>simp[nth,Af]
end Go.Bm
/- the items that the laws' maker of items gives: arcs, motions, lists of motions -/
set_option maxRecDepth 100000
namespace Go.Bm

def plU (pl:Int) (p:Pt):Int:=if pl=17 then p.x else if pl=18 then p.z else p.y
def plW (pl:Int) (p:Pt):Int:=if pl=17 then p.y else if pl=18 then p.x else p.z
def plH (pl:Int) (p:Pt):Int:=if pl=17 then p.z else if pl=18 then p.y else p.x
def spP (pl u w h:Int):Pt:=if pl=17 then⟨u,w,h⟩else if pl=18 then⟨w,h,u⟩else⟨h,u,w⟩
def CQ (pl:Int):Prop:=pl=17\/pl=18\/pl=19
theorem Zjq {p:Pt} {pl:Int} (h:CQ pl):NZ [I p.x,I p.y,I p.z,I pl]=some [I (plU pl p),I (plW pl p),I (plH pl p)]:=by
 unfold NZ
 rw[Ztd]
 rcases h with rfl|rfl|rfl<;>rfl
theorem Znf {u w h pl:Int} (hp:CQ pl):N0 [I u,I w,I h,I pl]=some (ptR (spP pl u w h)):=by
 unfold N0
 rw[Zhf]
 rcases hp with rfl|rfl|rfl<;>rfl
theorem M0 {pl u w h:Int} (hp:CQ pl):plU pl (spP pl u w h)=u/\plW pl (spP pl u w h)=w/\plH pl (spP pl u w h)=h:=by
 rcases hp with rfl|rfl|rfl<;>exact⟨rfl,rfl,rfl⟩
structure ArcMade (size : Int) (it : Itm) : Prop where
 kind:it.kind=3
 plane:CQ it.plane
 dir:it.dir=1\/it.dir= -1
 ends:∃r k t g h:Int,8<=r/\r<8+size/\0<=k/\k<=3/\0<=t/\t<=3/\0<=g/\g<=4/\(h=0\/h=7\/h= -12)/\(t=0->g=0)/\it.full=decide (t=0)/\
  it.ce=spP it.plane (plU it.plane it.fr-AL r k) (plW it.plane it.fr-AN r k) (plH it.plane it.fr)/\
  it.to=spP it.plane (plU it.plane it.fr-AL r k+AL (r+g) (k+t)) (plW it.plane it.fr-AN r k+AN (r+g) (k+t)) (plH it.plane it.fr+h)

theorem No {r k:Int} (hr:0<=r):(-r<=AL r k/\AL r k<=r)/\(-r<=AN r k/\AN r k<=r):=by
 unfold AL AN
 constructor<;>constructor<;>split<;>(try split)<;>omega
theorem Zfp {r:Int} (hr:1<=r) (k:Int):((AL r k).tdiv r=AL 1 k)/\((AN r k).tdiv r=AN 1 k):=by
 have h1:r.tdiv r=1:=Int.tdiv_self (by omega)
 have h2:(-r).tdiv r= -1:=by rw[Int.neg_tdiv,h1]
 unfold AL AN
 constructor<;>split<;>(try split)<;>simp[h1,h2]
theorem Q8r (r k e f:Int):∃g,(g=e\/g=f)/\AL r k+AL 1 k*e=AL (r+g) k/\AN r k+AN 1 k*f=AN (r+g) k:=by
 unfold AL AN
 by_cases h:k%4=0\/k%4=2
 ·refine⟨e, .inl rfl,?_,?_⟩
  ·rcases h with h|h<;>simp[h]<;>omega
  ·rcases h with h|h<;>simp[h]
 ·have hc:k%4=1\/k%4=3:=by omega
  refine⟨f, .inr rfl,?_,?_⟩
  ·rcases hc with h|h<;>simp[h]
  ·rcases hc with h|h<;>simp[h]<;>omega
theorem Hh {pl:Int} {p:Pt} {b:Nat} (h:bd b p):(plU pl p).natAbs<=b/\(plW pl p).natAbs<=b/\(plH pl p).natAbs<=b:=by
 obtain⟨h1,h2,h3⟩:=h
 unfold plU plW plH
 refine⟨?_,?_,?_⟩<;>split<;>(try split)<;>assumption

def Gz (l:Rw) (M:Fn):Prop:=∀(k:Nat) {n:Int},0<n/\n<=4611686018427387904->
  ∃(v:Int) (k':Nat),M [I n, .view Aa l,I k]=some [I v, .view Aa l,I k']/\0<=v/\v<n/\k<=k'/\(k<l.length->k'=k+1)/\(l.length<=k->k'=k)
abbrev E9 (it:Itm):Prop:=it.block=0/\it.side=0/\it.radius=0/\it.speed=0/\it.on=false
theorem Zfv {v:Int} (h:0<=v/\v<3):Af (nth .dead (nth [] [[I 17],[I 18],[I 19]] v.toNat) 0)=17+v:=by
 have hc:v=0\/v=1\/v=2:=by omega
 rcases hc with rfl|rfl|rfl<;>rfl
theorem Qyf {v:Int} (h:0<=v/\v<4):∃x,Af (nth .dead (nth [] [[I 0],[I 0],[I 7],[I (-12)]] v.toNat) 0)=x/\(x=0\/x=7\/x= -12):=by
 have hc:v=0\/v=1\/v=2\/v=3:=by omega
 rcases hc with rfl|rfl|rfl|rfl<;>exact⟨_,rfl,by decide⟩

theorem Zfw {MS MT MP MN:Fn} {l:Rw} (hN:Gz l MN)
  (hP:∀{p:Pt} {pl:Int},CQ pl->MP [I p.x,I p.y,I p.z,I pl]=some [I (plU pl p),I (plW pl p),I (plH pl p)])
  (hS:∀{u w h pl:Int},CQ pl->MS [I u,I w,I h,I pl]=some (ptR (spP pl u w h)))
  (hT:∀{r k:Int},(0<=r/\r<=1000000)->(0<=k/\k<=1000)->MT [I r,I k]=some [I (AL r k),I (AN r k)])
  {p:Pt} (hp:bd 100000000 p) {size:Int} (hs:0<size/\size<=100000) (k:Nat):
  ∃(it:Itm) (k':Nat),Vb MS MT MP MN [I p.x,I p.y,I p.z,I size, .view Aa l,I k]=some (Ag it++[.view Aa l,I k'])/\k<=k'/\it.fr=p/\ArcMade size it/\
   it.feed=0/\it.perRev=false/\it.blend=0/\it.n=0/\E9 it:=by
 obtain⟨v1,k1,e1,a1,b1,c1,-,-⟩:=hN k (n:=3) (by omega)
 obtain⟨v2,k2,e2,a2,b2,c2,-,-⟩:=hN k1 (n:=2) (by omega)
 obtain⟨v3,k3,e3,a3,b3,c3,-,-⟩:=hN k2 (n:=size) (by omega)
 obtain⟨v4,k4,e4,a4,b4,c4,-,-⟩:=hN k3 (n:=4) (by omega)
 obtain⟨v5,k5,e5,a5,b5,c5,-,-⟩:=hN k4 (n:=4) (by omega)
 rw[Zah]
 simp only[go_sem,e1,e2,e3,e4,e5]
 rw[if_pos (by simp;omega)]
 have hpl:CQ (17+v1):=by unfold CQ;omega
 have w1:IntKind.i64.wrap (8+v3)=8+v3:=Ae (by omega)
 have w2:IntKind.i64.wrap (v4+v5)=v4+v5:=Ae (by omega)
 simp only[Zfv ⟨a1,b1⟩,hP hpl,go_sem,w1,w2,hT (r:=8+v3) (k:=v4) (by omega) (by omega),hT (r:=8+v3) (k:=v4+v5) (by omega) (by omega),hS hpl]
 obtain⟨q1,q2,q3⟩:=Hh (pl:=17+v1) hp
 obtain⟨⟨r1,r2⟩,r3,r4⟩:=No (r:=8+v3) (k:=v4) (by omega)
 obtain⟨⟨r5,r6⟩,r7,r8⟩:=No (r:=8+v3) (k:=v4+v5) (by omega)
 obtain⟨d1,d2⟩:=Zfp (r:=8+v3) (by omega) (v4+v5)
 obtain⟨⟨r9,r10⟩,r11,r12⟩:=No (r:=1) (k:=v4+v5) (by omega)
 have w3:IntKind.i64.wrap (plU (17+v1) p-AL (8+v3) v4)=plU (17+v1) p-AL (8+v3) v4:=Ae (by omega)
 have w4:IntKind.i64.wrap (plW (17+v1) p-AN (8+v3) v4)=plW (17+v1) p-AN (8+v3) v4:=Ae (by omega)
 have w5:IntKind.i64.wrap (1-IntKind.i64.wrap (v2*2))=1-v2*2:=by rw[Ae (x:=v2*2) (by omega),Ae (by omega)]
 have w6:IntKind.i64.wrap (plU (17+v1) p-AL (8+v3) v4+AL (8+v3) (v4+v5))=plU (17+v1) p-AL (8+v3) v4+AL (8+v3) (v4+v5):=Ae (by omega)
 have w7:IntKind.i64.wrap (plW (17+v1) p-AN (8+v3) v4+AN (8+v3) (v4+v5))=plW (17+v1) p-AN (8+v3) v4+AN (8+v3) (v4+v5):=Ae (by omega)
 rw[w3,w4,w5,w6,w7]
 have hdir:1-v2*2=1\/1-v2*2= -1:=by omega

 have fin:∀(g:Int) (u w:Int) (k8:Nat),k5<=k8->0<=g->g<=4->(v5=0->g=0)->u=AL (8+v3+g) (v4+v5)->w=AN (8+v3+g) (v4+v5)->∀v9:Int,0<=v9/\v9<4->
   ∃it:Itm,[I 3,I 0,I p.x,I p.y,I p.z,I (spP (17+v1) (plU (17+v1) p-AL (8+v3) v4+u) (plW (17+v1) p-AN (8+v3) v4+w) (plH (17+v1) p+Af (nth .dead (nth [] [[I 0],[I 0],[I 7],[I (-12)]] v9.toNat) 0))).x,
    I (spP (17+v1) (plU (17+v1) p-AL (8+v3) v4+u) (plW (17+v1) p-AN (8+v3) v4+w) (plH (17+v1) p+Af (nth .dead (nth [] [[I 0],[I 0],[I 7],[I (-12)]] v9.toNat) 0))).y,
    I (spP (17+v1) (plU (17+v1) p-AL (8+v3) v4+u) (plW (17+v1) p-AN (8+v3) v4+w) (plH (17+v1) p+Af (nth .dead (nth [] [[I 0],[I 0],[I 7],[I (-12)]] v9.toNat) 0))).z,
    I (17+v1),I (spP (17+v1) (plU (17+v1) p-AL (8+v3) v4) (plW (17+v1) p-AN (8+v3) v4) (plH (17+v1) p)).x,I (spP (17+v1) (plU (17+v1) p-AL (8+v3) v4) (plW (17+v1) p-AN (8+v3) v4) (plH (17+v1) p)).y,I (spP (17+v1) (plU (17+v1) p-AL (8+v3) v4) (plW (17+v1) p-AN (8+v3) v4) (plH (17+v1) p)).z,
    I (1-v2*2),B (decide (v5=0)),I 0,B false,I 0,I 0,I 0,I 0,I 0,B false, .view Aa l,I k8]=Ag it++[.view Aa l,I k8]/\it.fr=p/\ArcMade size it/\it.feed=0/\it.perRev=false/\it.blend=0/\it.n=0/\E9 it:=by
  intro g u w k8 hk8 hg0 hg4 hg5 hu hw v9 hv9
  obtain⟨x,hx,hx3⟩:=Qyf hv9
  rw[hx]
  refine⟨⟨3,0,p,_,17+v1,_,1-v2*2,decide (v5=0),0,false,0,0,0,0,0,false⟩,rfl,rfl,⟨rfl,hpl,hdir,8+v3,v4,v5,g,x,?_⟩,rfl,rfl,rfl,rfl,rfl,rfl,rfl,rfl,rfl⟩
  subst hu hw
  exact⟨by omega,by omega,by omega,by omega,by omega,by omega,hg0,hg4,hx3,hg5,rfl,rfl,rfl⟩
 have hgh:∀v9:Int,0<=v9/\v9<4->IntKind.i64.wrap (plH (17+v1) p+Af (nth .dead (nth [] [[I 0],[I 0],[I 7],[I (-12)]] v9.toNat) 0))=plH (17+v1) p+Af (nth .dead (nth [] [[I 0],[I 0],[I 7],[I (-12)]] v9.toNat) 0):=by
  intro v9 hv9
  obtain⟨x,hx,hx3⟩:=Qyf hv9
  rw[hx]
  exact Ae (by omega)
 have hfull:(v5==0)=decide (v5=0):=rfl
 by_cases hv5:v5>0
 ·rw[if_pos hv5]
  obtain⟨v6,k6,e6,a6,b6,c6,-,-⟩:=hN k5 (n:=3) (by omega)
  simp only[go_sem,e6]
  by_cases hv6:v6=0
  ·rw[if_pos hv6,if_neg (by omega)]
   obtain⟨v7,k7,e7,a7,b7,c7,-,-⟩:=hN k6 (n:=5) (by omega)
   obtain⟨v8,k8,e8,a8,b8,c8,-,-⟩:=hN k7 (n:=5) (by omega)
   obtain⟨v9,k9,e9,a9,b9,c9,-,-⟩:=hN k8 (n:=4) (by omega)
   simp only[go_sem,e7,e8,e9]
   rw[if_neg (by omega),if_pos (by simp;omega),hgh v9 ⟨a9,b9⟩,d1,d2]
   obtain⟨g,hg,hu,hw⟩:=Q8r (8+v3) (v4+v5) v7 v8
   have mu: -4<=AL 1 (v4+v5)*v7/\AL 1 (v4+v5)*v7<=4:=by
    have hc:AL 1 (v4+v5)= -1\/AL 1 (v4+v5)=0\/AL 1 (v4+v5)=1:=by omega
    rcases hc with h|h|h<;>rw[h]<;>omega
   have mw: -4<=AN 1 (v4+v5)*v8/\AN 1 (v4+v5)*v8<=4:=by
    have hc:AN 1 (v4+v5)= -1\/AN 1 (v4+v5)=0\/AN 1 (v4+v5)=1:=by omega
    rcases hc with h|h|h<;>rw[h]<;>omega
   rw[Ae (x:=AL 1 (v4+v5)) (by omega),Ae (x:=AN 1 (v4+v5)) (by omega),Ae (x:=AL 1 (v4+v5)*v7) (by omega),Ae (x:=AN 1 (v4+v5)*v8) (by omega),
    Ae (x:=AL (8+v3) (v4+v5)+_) (by omega),Ae (x:=AN (8+v3) (v4+v5)+_) (by omega),hu,hw]
   obtain⟨⟨s1,s2⟩,s3,s4⟩:=No (r:=8+v3+g) (k:=v4+v5) (by omega)
   rw[Ae (x:=_+AL (8+v3+g) (v4+v5)) (by omega),Ae (x:=_+AN (8+v3+g) (v4+v5)) (by omega)]
   obtain⟨it,h1,h2⟩:=fin g _ _ k9 (by omega) (by omega) (by omega) (by omega) rfl rfl v9 ⟨a9,b9⟩
   refine⟨it,k9,?_,by omega,h2⟩
   exact congrArg some h1
  ·rw[if_neg hv6]
   obtain⟨v9,k9,e9,a9,b9,c9,-,-⟩:=hN k6 (n:=4) (by omega)
   simp only[go_sem,e9]
   rw[if_pos (by simp;omega),hgh v9 ⟨a9,b9⟩]
   obtain⟨it,h1,h2⟩:=fin 0 _ _ k9 (by omega) (by omega) (by omega) (by omega) (by rw[Int.add_zero]) (by rw[Int.add_zero]) v9 ⟨a9,b9⟩
   refine⟨it,k9,?_,by omega,h2⟩
   exact congrArg some h1
 ·rw[if_neg hv5]
  obtain⟨v9,k9,e9,a9,b9,c9,-,-⟩:=hN k5 (n:=4) (by omega)
  simp only[go_sem,e9]
  rw[if_pos (by simp;omega),hgh v9 ⟨a9,b9⟩]
  obtain⟨it,h1,h2⟩:=fin 0 _ _ k9 (by omega) (by omega) (by omega) (by omega) (by rw[Int.add_zero]) (by rw[Int.add_zero]) v9 ⟨a9,b9⟩
  refine⟨it,k9,?_,by omega,h2⟩
  exact congrArg some h1
theorem GY {l:Rw} (hl:Src l):Gz l Bs:=fun k _ hn=>Z0i hl k hn
theorem Zyy {l:Rw} (hl:Src l) {p:Pt} (hp:bd 100000000 p) {size:Int} (hs:0<size/\size<=100000) (k:Nat):
  ∃(it:Itm) (k':Nat),PE [I p.x,I p.y,I p.z,I size, .view Aa l,I k]=some (Ag it++[.view Aa l,I k'])/\k<=k'/\it.fr=p/\ArcMade size it/\
   it.feed=0/\it.perRev=false/\it.blend=0/\it.n=0/\E9 it:=
 Zfw (GY hl) Zjq Znf Z02 hp hs k
end Go.Bm
