/- laid together -/
import Derived.Test.YtommijghjlikkaaGreatPrPg
import Derived.Test.YtommijghjlikkaaGreatPrAtF
import Derived.Test.YtommijghjlikkaaGreatPrCw
import Derived.Test.YtommijghjlikkaaGreatPrKi
import Derived.Test.YtommijghjlikkaaGreatMx2
import Derived.Test.YtommijghjlikkaaGreatPrMo
import Derived.Test.YtommijghjlikkaaGreatMy1
set_option linter.unusedVariables false
set_option linter.unusedSimpArgs false
/- the program builds the reference's path, and what is settled of it -/
set_option maxRecDepth 100000
namespace Go.Bm
open Classical

theorem Zs2 {it:Itm} {speed:Int} (hf:it.kind=1\/1<=it.feed/\it.feed<=60000000) (hs:0<=speed/\speed<=30000):JJ (Ag it++[I speed])=some [I (Ho it speed)]:=by
 by_cases h1:it.kind=1
 ·unfold JJ Ho
  generalize Be=M
  have h:=Qn8 (AE:=M) it.kind it.block it.fr.x it.fr.y it.fr.z it.to.x it.to.y it.to.z it.plane it.ce.x it.ce.y it.ce.z it.dir it.full it.feed it.perRev it.side it.radius it.blend it.n it.speed it.on speed
  rw[if_pos h1]
  refine Eq.trans h ?_
  rw[Bz (by simp[h1])]
 ·exact Zry (by omega) hs
theorem Zpf {segs:List Sgm} {marks:Rw} {q g st at_:Pt} {gl item feed lead len sp mid:Int} (hat:EK st segs=at_) (h1:bd 67108864 at_) (h2:bd 67108864 q) (hs:segs.length+1<=1048577) (hlen:0<=len/\len<=4000000000000000000):
  Ml [.view Ah (segs.map Ay), .view AB marks,I q.x,I q.y,I q.z,I g.x,I g.y,I g.z,I gl,I item,I feed,I lead,I st.x,I st.y,I st.z,B true,I len,I sp,I mid]=
   some [.view Ah ((A6 item feed lead (segs,len,at_) q).1.map Ay), .view AB marks,I st.x,I st.y,I st.z,B true,I (A6 item feed lead (segs,len,at_) q).2.1,I sp,I mid]:=
 Zu8 hat (Qmj h1 h2) (HA h1 h2) hs hlen
theorem Znl {items:List Itm} (hlen:items.length<=15) (hright:∀j<items.length,¬B1 (itA items j)) {i:Nat} (hi:i<items.length):
  Ot IJ Jx ER Gk Di I2 Pr (pbR items i)=some (0,pbR items (i+1)):=by
 have hb:=NV hright i (by omega)
 have hin:=RQ hright i (by omega)
 have hall:∀k<items.length,AD (itA items k)->drawn (itA items k):=fun k hk hm=>(Kz (hright k hk) hm).1
 have hrm:=Kz (hright i hi)
 refine Zdw hi hlen hb.marks OF (fun L hL=>Qod (by omega) hL) (fun L hL=>TF (by omega) hL) (fun hm=> ?_) (Zdq (by omega) hi (by have:=hb.marks;omega))
 have hd:=(hrm hm).1
 exact Zzd hi hlen hd.1 hb hin (Qc4 hd hb.frm hall) (fun hs=>by have h2:=(hrm hm).2;rcases hs with h|h<;>omega) (Qqj items i) (Rm _) (Sp hd.1.2.1 hd.1.2.2.1) (Q4b _) (Zs2 (hrm hm).2 hb.speed)
  (Z0t (by omega) hi hd hb.frm hall) (fun h1 h2 h3 h4 h5=>Zpf h1 h2 h3 h4 h5) Zk8
theorem Qwi {items:List Itm} (hlen:items.length<=15) (hright:∀j<items.length,¬B1 (itA items j)):∀(k i:Nat),i+k=items.length->
  An (Ot IJ Jx ER Gk Di I2 Pr) (pbR items i)=
   some (2,[.view Ah ((A3 items).segs.map Ay), .view AB ((A3 items).marks.map As),I (A3 items).start.x,I (A3 items).start.y,I (A3 items).start.z,B (Aw items items.length).begun,I (Aw items items.length).len,I (Aw items items.length).speed,I (Cr items items.length)])
 |0,i,hi=>by
  obtain rfl:i=items.length:=by omega
  refine A7 ?_ (by simp)
  unfold pbR A3
  rw[Q3k,AW (by omega)]
 |k+1,i,hi=>by
  rw[Bt (Znl hlen hright (by omega))]
  exact Qwi hlen hright k (i+1) (by omega)
def JO (items:List Itm) (o:List AC):Prop:=
 if C6 items=0 then o=[.view Ah ((A3 items).segs.map Ay), .view AB ((A3 items).marks.map As),I 0,I (A3 items).start.x,I (A3 items).start.y,I (A3 items).start.z,B (Aw items items.length).begun,I (Aw items items.length).len,I (Aw items items.length).speed,I (Cr items items.length)]
 else o=[.view Ah [], .view AB [],I (C6 items),I 0,I 0,I 0,B false,I 0,I 0,I 0]
theorem Zsp {MK MV MN MS MM MC:Fn} {N6 N18:Lp} {items:List Itm} (hlen:items.length<=15)
  (h6 : (N6 [.view Ah [], .view AB [], .view Ak (items.map Ag), I (-1), .view Ak (items.map Ag), I items.length, I 0, I 0, I 0, I 0, B false, I 0, I 0, I 0] = some (1, [.view Ah [], .view AB [], I (C6 items), I 0, I 0, I 0, B false, I 0, I 0, I 0]) /\ C6 items ≠ 0) \/
   (N6 [.view Ah [], .view AB [], .view Ak (items.map Ag),I (-1), .view Ak (items.map Ag),I items.length,I 0,I 0,I 0,I 0,B false,I 0,I 0,I 0]=some (2,[.view Ah [], .view AB [], .view Ak (items.map Ag),I 0,I 0,I 0,B false,I 0,I 0,I 0])/\C6 items=0))
  (h18 : C6 items = 0 -> N18 [.view Ah [], .view AB [], .view Ak (items.map Ag), I (-1), .view Ak (items.map Ag), I items.length, I 0, I 0, I 0, I 0, B false, I 0, I 0, I 0] =
   some (2,[.view Ah ((A3 items).segs.map Ay), .view AB ((A3 items).marks.map As),I (A3 items).start.x,I (A3 items).start.y,I (A3 items).start.z,B (Aw items items.length).begun,I (Aw items items.length).len,I (Aw items items.length).speed,I (Cr items items.length)])):
  ∃o,X8 MK MV MN MS MM MC N6 N18 [.view Ak (items.map Ag)]=some o/\JO items o:=by
 rw[Q7r]
 have hin: ¬((items.length:Int)>20000):=by omega
 rcases h6 with⟨h,hc⟩|⟨h,hc⟩
 ·simp only[go_sem,List.length_map,h,if_neg hin]
  exact⟨_,rfl,by unfold JO;rw[if_neg hc]⟩
 ·have g:=h18 hc
  simp only[go_sem,List.length_map,h,if_neg hin,g]
  rw[if_neg (by decide),if_neg (by decide)]
  exact⟨_,rfl,by unfold JO;rw[if_pos hc]⟩
theorem Q4p {items:List Itm} (hlen:items.length<=15):∃o,IN [.view Ak (items.map Ag)]=some o/\JO items o:=by
 have hc:C6 items=GS items items.length 0 (-1):=by unfold C6;rw[if_neg (by omega)]
 refine Zsp hlen ?_ fun he=>Qwi hlen (Ol he).2 items.length 0 (by omega)
 rw[hc]
 exact Wa OF Z0x (by omega) items.length 0 (-1) (by omega) (.inl rfl)
theorem Zm6 {MB:Fn} {items:List Itm} (h:∃o,MB [.view Ak (items.map Ag)]=some o/\JO items o):
  Qha MB [.view Ak (items.map Ag)]=if C6 items=0 then some (Bo (A3 items)++[I 0])else some [I 0,I 0,I 0, .view Ah [], .view AB [],I (C6 items)]:=by
 obtain⟨o,h1,h2⟩:=h
 rw[Zyk,h1]
 unfold JO at h2
 by_cases c:C6 items=0
 ·rw[if_pos c]at h2⊢
  subst h2
  simp only[go_sem]
  rw[if_neg (by simp)]
  try rfl
 ·rw[if_neg c]at h2⊢
  subst h2
  simp only[go_sem]
  rw[if_pos c]
theorem Zce {items:List Itm} (hlen:items.length<=15):Md [.view Ak (items.map Ag)]=if C6 items=0 then some (Bo (A3 items)++[I 0])else some [I 0,I 0,I 0, .view Ah [], .view AB [],I (C6 items)]:=
 Zm6 (Q4p hlen)
end Go.Bm
/- what is settled of a path -/
set_option maxRecDepth 100000
namespace Go.Bm
open Classical

def JQ (items:List Itm):Nat->Option Nat
 |0=>none
 |i+1=>if(itA items i).kind=10 then JQ items i else some i
noncomputable def IM (items:List Itm):Int:=
 match JQ items items.length with
 |some i=>if smI (itA items i)/\(itA items i).blend≠0 then AR (A3 items).segs-AA (A5 (itA items i)) (Ax (itA items i).to)else AR (A3 items).segs
 |none=>AR (A3 items).segs
theorem Qa3 {items:List Itm} {i:Nat}:∀{n:Nat},JQ items n=some i->i<n/\(itA items i).kind≠10/\∀j,i<j->j<n->(itA items j).kind=10
 |0,h=>by cases h
 |n+1,h=>by
  unfold JQ at h
  split at h
  ·rename_i c
   obtain⟨h1,h2,h3⟩:=Qa3 h
   refine⟨by omega,h2,fun j g1 g2=> ?_⟩
   by_cases e:j=n
   ·rw[e];exact c
   ·exact h3 j g1 (by omega)
  ·rename_i c
   cases h
   exact⟨by omega,c,fun j g1 g2=>by omega⟩
theorem Zeh {items:List Itm} {i:Nat} (h:(itA items i).kind=10):(Aw items (i+1)).len=(Aw items i).len/\Cr items (i+1)=Cr items i:=by
 have hm: ¬AD (itA items i):=fun g=>by have:=g.2;omega
 constructor
 ·rw[Aw];unfold E_;rw[if_neg hm]
 ·rw[Cr,if_neg hm]
theorem Qrh {items:List Itm} {i:Nat}:∀(k:Nat),(∀j,i<=j->j<i+k->(itA items j).kind=10)->(Aw items (i+k)).len=(Aw items i).len/\Cr items (i+k)=Cr items i
 |0,_=>⟨rfl,rfl⟩
 |k+1,h=>by
  obtain⟨h1,h2⟩:=Qrh k fun j g1 g2=>h j g1 (by omega)
  obtain⟨h3,h4⟩:=Zeh (h (i+k) (by omega) (by omega))
  exact⟨h3.trans h1,h4.trans h2⟩
theorem Zqx {items:List Itm} (hright:∀j<items.length,¬B1 (itA items j)):AR (A3 items).segs=(Aw items items.length).len:=by
 have h:=RQ hright items.length (Nat.le_refl _)
 unfold A3
 by_cases hb:(Aw items items.length).begun=true
 ·exact(h.begun hb).2.2.2
 ·obtain⟨g1,g2,-⟩:=h.empty (by simpa using hb)
  simp only[g1,g2]
  rfl
theorem Zdx {it:Itm} (h:it.fr≠it.to):Ax it.to≠A5 it:=by
 intro g
 unfold Ax A5 at g
 injection g with g1 g2 g3
 exact h (Dz.2 ⟨by omega,by omega,by omega⟩)
theorem Q7e (it:Itm) (h:smI it) (item feed lead:Int) (s:(List Sgm×Int×Pt)×Int):
  (Dh it item feed lead (Dh it item feed lead s (A5 it)) (Ax it.to)).2=(Dh it item feed lead (Dh it item feed lead s (A5 it)) (Ax it.to)).1.2.1-AA (A5 it) (Ax it.to):=by
 have hne:=Zdx h.2
 have h1:(Dh it item feed lead s (A5 it)).2=(A6 item feed lead s.1 (A5 it)).2.1:=if_pos ⟨h,rfl⟩
 have h2:(A6 item feed lead s.1 (A5 it)).2.2=A5 it:=by
  unfold A6
  split
  ·rename_i c;exact c.symm
  ·rfl
 have h3:(Dh it item feed lead s (A5 it)).1=A6 item feed lead s.1 (A5 it):=rfl
 generalize Dh it item feed lead s (A5 it)=t at*
 have h4:(Dh it item feed lead t (Ax it.to)).2=t.2:=if_neg fun g=>hne g.2
 have h5:(Dh it item feed lead t (Ax it.to)).1=A6 item feed lead t.1 (Ax it.to):=rfl
 rw[h4,h5,h1,h3]
 rw[<-h2]at hne⊢
 rw[h2]
 generalize A6 item feed lead s.1 (A5 it)=u at*
 have h6:A6 item feed lead u (Ax it.to)=(u.1++[⟨Ax it.to,AA u.2.2 (Ax it.to),item,feed,lead⟩],u.2.1+AA u.2.2 (Ax it.to),Ax it.to):=if_neg hne
 rw[h6,h2]
 simp only
 omega
theorem Z0q {items:List Itm} {i:Nat} (hn:JQ items items.length=some i) (hs:smI (itA items i)):Cr items items.length=(Aw items items.length).len-AA (A5 (itA items i)) (Ax (itA items i).to):=by
 obtain⟨h1,-,h3⟩:=Qa3 hn
 obtain⟨k,hk⟩:∃k,items.length=i+1+k:=⟨items.length-(i+1),by omega⟩
 have hm:AD (itA items i):=⟨by have:=hs.1;omega,by have:=hs.1;omega⟩
 obtain⟨g1,g2⟩:=Qrh (items:=items) (i:=i+1) k fun j e1 e2=>h3 j (by omega) (by omega)
 have hsoft: ¬0<=BR items i:=by
  intro c
  have hx:=QI c
  rcases Qnh items i with h|⟨-,-,m,m1,m2,m3,m4,m5⟩
  ·omega
  ·have:=h3 m m2 m3
   have:=m4.1
   omega
 rw[hk,g1,g2]
 have e1:Cr items (i+1)=(E3 items i (Aw items i) (Cr items i)).2:=if_pos hm
 have e2:(Aw items (i+1)).len=(E3 items i (Aw items i) (Cr items i)).1.2.1:=by
  rw[Qry,Aw];unfold E_;rw[if_pos hm]
 rw[e1,e2]
 unfold E3
 have e3:Ch items i (Aw items i).frm=I4 items i (Aw items i).frm++[A5 (itA items i)]++[Ax (itA items i).to]:=by
  unfold Ch
  rw[if_pos hs]
  unfold Lg
  rw[if_neg hsoft]
  unfold Cs
  rw[if_neg (by have:=hs.1;omega)]
  rfl
 rw[e3,List.foldl_append,List.foldl_append,List.foldl_cons,List.foldl_nil,List.foldl_cons,List.foldl_nil]
 exact Q7e _ hs _ _ _ _
theorem Qv0 {MS MB:Fn} {items:List Itm} {segs marks:Rw} {st:Pt} {b:Bool} {len sp mid:Int} (hl:items.length<=1000) (hS:∀it,MS (Ag it)=some [B (decide (smI it))]):
  ∀n:Nat,n<=items.length->∃o:Nat×List AC,An (L1 MS MB) [.view Ah segs, .view AB marks, .view Ak (items.map Ag),I ((n:Int)-1),I st.x,I st.y,I st.z,B b,I len,I sp,I mid]=some o/\
   match JQ items n with
   |some i=>o=(1,[I (if smI (itA items i)/\(itA items i).blend≠0 then mid else len)])
   |none=>o=(2,[.view Ah segs, .view AB marks,I st.x,I st.y,I st.z,B b,I len,I sp,I mid])
 |0,_=>by
  refine⟨_,A7 (o:=(2,_)) ?_ (by simp),rfl⟩
  rw[Qrs,AW (by omega)]
 |n+1,hn=>by
  have hlt:n<items.length:=by omega
  have hr:=EJ hlt
  have hs:=hS (itA items n)
  simp only[Ag]at hs
  have hin:(0:Int)<=(n:Int)/\(n:Int)<(items.length:Int):=by omega
  have e:((n+1:Nat):Int)-1=n:=by omega
  have hst:L1 MS MB [.view Ah segs, .view AB marks, .view Ak (items.map Ag),I n,I st.x,I st.y,I st.z,B b,I len,I sp,I mid]=
    if(itA items n).kind=10 then some (0,[.view Ah segs, .view AB marks, .view Ak (items.map Ag),I ((n:Int)-1),I st.x,I st.y,I st.z,B b,I len,I sp,I mid])
    else some (1,[I (if smI (itA items n)/\(itA items n).blend≠0 then mid else len)]):=by
   rw[Qrs]
   simp only[go_sem,List.length_map,Int.toNat_natCast,hr,hs,if_pos hin]
   rw[if_pos (by omega),Ae (by omega)]
   by_cases c1:(itA items n).kind=10
   ·rw[if_pos c1,if_pos c1]
   ·rw[if_neg c1,if_neg c1]
    by_cases c2:smI (itA items n)
    ·rw[if_pos c2]
     by_cases c3:(itA items n).blend≠0
     ·rw[if_pos c3,if_pos ⟨c2,c3⟩]
     ·rw[if_neg c3,if_neg (fun g=>c3 g.2)]
    ·rw[if_neg c2,if_neg (fun g=>c2 g.1)]
  rw[e]
  unfold JQ
  by_cases c1:(itA items n).kind=10
  ·rw[if_pos c1]at hst⊢
   rw[Bt hst]
   exact Qv0 hl hS n (by omega)
  ·rw[if_neg c1]at hst⊢
   exact⟨_,A7 hst (by simp),rfl⟩
theorem Zkk {MS MB:Fn} {items:List Itm} (hl:items.length<=15) (hS:∀it,MS (Ag it)=some [B (decide (smI it))]) (h:∃o,MB [.view Ak (items.map Ag)]=some o/\JO items o):
  Vv MS MB (An (L1 MS MB)) [.view Ak (items.map Ag)]=some [I (if C6 items=0 then IM items else 0)]:=by
 obtain⟨o,h1,h2⟩:=h
 unfold JO at h2
 by_cases c:C6 items=0
 ·rw[if_pos c]at h2⊢
  have hright:=(Ol c).2
  have hsum:=Zqx hright
  have hmid:=fun i hn hs=>Z0q (items:=items) (i:=i) hn hs
  have hlp:= @Qv0 MS MB items ((A3 items).segs.map Ay) ((A3 items).marks.map As) (A3 items).start (Aw items items.length).begun (Aw items items.length).len (Aw items items.length).speed (Cr items items.length) (by omega) hS items.length (by omega)
  obtain⟨r,r1,r2⟩:=hlp
  rw[Qow,h1]
  subst h2
  have hw:IntKind.i64.wrap ((items.length:Int)-1)=(items.length:Int)-1:=Ae (by omega)
  unfold IM
  rw[hsum]
  generalize An (L1 MS MB)=N at*
  simp only[go_sem,List.length_map,hw,r1]
  rw[if_neg (by simp)]
  cases hn:JQ items items.length with
  |none=>
   rw[hn]at r2
   simp only at r2
   subst r2
   rfl
  |some i=>
   rw[hn]at r2
   simp only at r2
   subst r2
   simp only[go_sem]
   by_cases c2:smI (itA items i)/\(itA items i).blend≠0
   ·rw[if_pos c2,if_pos c2,hmid i hn c2.1]
   ·rw[if_neg c2,if_neg c2]
 ·rw[if_neg c]at h2⊢
  subst h2
  rw[Qow,h1]
  simp only[go_sem]
  rw[if_pos c]
theorem Zg0 {items:List Itm} (hl:items.length<=15):Mz [.view Ak (items.map Ag)]=some [I (if C6 items=0 then IM items else 0)]:=Zkk hl Rm (Q4p hl)
end Go.Bm
/- the path of the maker's items lies in the travel of its axes -/
set_option maxRecDepth 100000
namespace Go.Bm
open Classical

def okU (s:Spk):Prop:=s.u.natAbs<=1000000/\s.w.natAbs<=1000000/\(0<=s.r/\s.r<=1000000)/\s.h.natAbs<=200000
theorem okU.s {s:Spk} (h:okU s):okS s:=⟨by have:=h.1;omega,by have:=h.2.1;omega,⟨h.2.2.1.1,by have:=h.2.2.1.2;omega⟩,by have:=h.2.2.2;omega⟩
theorem Q68 {a b:Spk} (ha:okU a) (hb:okU b) {u w:Int} (hu:u.natAbs<=100000000) (hw:w.natAbs<=100000000):okU (Hc a b u w):=by
 unfold Hc
 split
 ·exact⟨by simp,by simp,by simp,by simp⟩
 ·rename_i h
  have ha3:=ha.2.2;have hb3:=hb.2.2
  have hr:0<=hf a.r b.r/\hf a.r b.r<=1000000:=by unfold hf;omega
  have hh:(hf a.h b.h).natAbs<=200000:=by unfold hf;omega
  obtain⟨⟨-,n1⟩,-,n2⟩:=Q6h hu hw (r:=hf a.r b.r) (by omega) h
  exact⟨by simp only;omega,by simp only;omega,hr,hh⟩
theorem Zcs {a b:Spk} (ha:okU a) (hb:okU b) {dir:Int} (hd:dir=1\/dir= -1) (full:Bool):okU (Em a b dir full):=
 Q68 ha hb (L0 ha.s hb.s hd full).1 (L0 ha.s hb.s hd full).2
theorem Ub {dir:Int} (hd:dir=1\/dir= -1):∀(k:Nat) (full:Bool) {a b:Spk},okU a->okU b->∀s∈Dp dir k full a b,okU s
 |0,_,a,b,_,hb,s,hs=>by simp[Dp]at hs;subst hs;exact hb
 |k+1,full,a,b,ha,hb,s,hs=>by
  unfold Dp at hs
  have hm:=Zcs ha hb hd full
  split at hs
  ·simp at hs;subst hs;exact hb
  ·rcases List.mem_append.1 hs with hs|hs
   ·exact Ub hd k false ha hm s hs
   ·exact Ub hd k false hm hb s hs
theorem Zu1 {n:Nat} (hn:n<=300000000000):0<=Ff n/\Ff n<=1000000:=by
 obtain⟨r,-,h2,h3,-⟩:=QW (n:=n) (by omega)
 have hm:=Qr h2 h3
 rw[Q8 hm]
 have:r<1000000:=by
  by_cases c:r<1000000
  ·exact c
  ·have:=Nat.mul_le_mul (show 1000000<=r by omega) (show 1000000<=r by omega)
   omega
 split<;>omega
theorem Yr {pl:Int} {p:Pt} {b:Nat} (h:bd b p):(plU pl p).natAbs<=b/\(plW pl p).natAbs<=b/\(plH pl p).natAbs<=b:=Hh h
theorem YX {it:Itm} {p:Pt} (hc:bd 4200 it.ce) (hp:bd 4200 p):okU (DW it p):=by
 obtain⟨c1,c2,c3⟩:=Yr (pl:=it.plane) hc
 obtain⟨p1,p2,p3⟩:=Yr (pl:=it.plane) hp
 have h1:(dU it p*16).natAbs<=134400:=by unfold dU;omega
 have h2:(dW it p*16).natAbs<=134400:=by unfold dW;omega
 have q1:=Dk h1
 have q2:=Dk h2
 obtain⟨-,-,h3,-⟩:=Om (AU hc (by omega)) (AU hp (by omega))
 obtain⟨n,hn⟩:=Int.eq_ofNat_of_zero_le h3
 refine⟨Nat.le_trans h1 (by decide),Nat.le_trans h2 (by decide),?_,?_⟩
 ·show 0<=Ff _/\Ff _<=_
  rw[hn]
  refine Zu1 ?_
  unfold sq2 at hn
  omega
 ·show(plH it.plane p*16).natAbs<=_
  omega
theorem Ztp {it:Itm} {s:Spk} (hc:bd 4200 it.ce) (hs:okU s):bd B24 (IG it s):=by
 obtain⟨h1,h2,-⟩:=Yr (pl:=it.plane) (EP hc)
 obtain⟨s1,s2,-,s4⟩:=hs
 exact Q6j (by unfold B24;omega) (by unfold B24;omega) (by unfold B24;omega)
theorem Zyc {it:Itm} (h:Made it) (hf:bd 4084 it.fr):∀p∈Cs it,bd B24 p:=by
 have ht:=Qwy h hf
 intro p hp
 unfold Cs at hp
 split at hp
 ·rename_i h3
  simp only[List.mem_map]at hp
  obtain⟨s,hs,rfl⟩:=hp
  have hce:bd 4200 it.ce:=AU (Qjc (h.arc h3) (by omega) hf).2 (by omega)
  refine Ztp hce ?_
  rcases List.mem_cons.1 hs with rfl|hs
  ·exact YX hce (AU hf (by omega))
  ·exact Ub (h.arc h3).dir 16 _ (YX hce (AU hf (by omega))) (YX hce (AU ht (by omega))) s hs
 ·simp at hp
  rcases hp with rfl|rfl
  ·exact AU (EP hf) (by decide)
  ·exact AU (EP ht) (by decide)
def RK (n:Nat) (g:Sgm):Prop:=bd B24 g.to/\0<=g.item/\g.item<n/\i64 g.lead
theorem Qx1 {n:Nat} {item feed lead:Int} (h1:0<=item/\item<n) (h2:i64 lead):∀(pts:List Pt) (s:List Sgm×Int×Pt),(∀p∈pts,bd B24 p)->(∀g∈s.1,RK n g)->∀g∈(pts.foldl (A6 item feed lead) s).1,RK n g
 |[],s,_,h=>h
 |q::pts,s,hp,h=>by
  rw[List.foldl_cons]
  refine Qx1 h1 h2 pts _ (fun p hp'=>hp p (by simp[hp'])) ?_
  unfold A6
  split
  ·exact h
  ·intro g hg
   simp only[List.mem_append,List.mem_singleton]at hg
   rcases hg with hg|rfl
   ·exact h g hg
   ·exact⟨hp q (by simp),h1.1,h1.2,h2⟩
structure PIn (n : Nat) (s : BSt) : Prop where
 start:bd B24 s.start
 segs:∀g∈s.segs,RK n g
 marks:∀m∈s.marks,0<=m.item/\m.item<n/\i64 m.at_
theorem Zzw {items:List Itm} {i:Nat} {frm:Int} (hd:drawn (itA items i)) (hf:KM items i frm) (hall:∀k<items.length,AD (itA items k)->drawn (itA items k)) (hc:∀p∈Cs (itA items i),bd B24 p):∀p∈Ch items i frm,bd B24 p:=by
 unfold Ch
 by_cases hs:smI (itA items i)
 ·rw[if_pos hs]
  intro p hp
  rcases List.mem_append.1 hp with hp|hp
  ·rcases List.mem_append.1 hp with hp|hp
   ·unfold I4 at hp
    rcases hf with rfl|⟨f,rfl,hf1,hf2⟩
    ·rw[if_neg (by omega)]at hp
     exact hc p (List.mem_of_mem_take hp)
    ·rw[if_pos (by omega)]at hp
     exact(K7 (items:=items) (i:=(f:Int).toNat) (k:=i) (by simpa using hf2) hd).1 p (List.mem_of_mem_drop hp)
   ·simp at hp;subst hp;exact J_ hd.1.2.1 hd.1.2.2.1
  ·unfold Lg at hp
   by_cases h:0<=BR items i
   ·rw[if_pos h]at hp
    obtain⟨k,hk,hk1,hk2⟩:=QG hall h
    exact(K7 (items:=items) (i:=i) (k:=(BR items i).toNat) hd (by rw[hk];simpa using hk2)).1 p (List.mem_of_mem_take hp)
   ·rw[if_neg h]at hp
    exact hc p (List.mem_of_mem_drop hp)
 ·rw[if_neg hs]
  exact hc
theorem Zy4 {it:Itm} (hf:it.kind=1\/1<=it.feed/\it.feed<=60000000):i64 (LX it):=by
 unfold LX
 split
 ·rename_i h
  unfold syI at h
  unfold mn i64
  split<;>omega
 ·unfold i64;omega
theorem Zt8 {items:List Itm} {i:Nat} {s:BSt} (hi:i<items.length) (hl:items.length<=15) (hright:∀j<items.length,¬B1 (itA items j)) (hch:∀j<items.length,AD (itA items j)->∀p∈Cs (itA items j),bd B24 p) (hok:BOK items i s) (h:PIn items.length s):PIn items.length (E_ items i s):=by
 have hall:∀k<items.length,AD (itA items k)->drawn (itA items k):=fun k hk hm=>(Kz (hright k hk) hm).1
 have hok2:=Qpl hi hright hok
 have hlen:=hok.len
 have hlen2:=hok2.len
 unfold E_ at hlen2⊢
 by_cases hm:AD (itA items i)
 ·rw[if_pos hm]at hlen2⊢
  have hd:=hall i hi hm
  refine⟨?_,Qx1 ⟨by omega,by omega⟩ (Zy4 (Kz (hright i hi) hm).2) _ _ (Zzw hd hok.frm hall (hch i hi hm)) h.segs,?_⟩
  ·show bd B24 (if s.begun=true then s.start else Ax (itA items i).fr)
   split
   ·exact h.start
   ·exact EP hd.1.2.1
  ·intro m hm
   simp only[List.mem_append,List.mem_singleton]at hm
   rcases hm with hm|rfl
   ·exact h.marks m hm
   ·refine⟨by simp only;omega,by simp only;omega,?_⟩
    simp only at hlen2⊢
    unfold i64;omega
 ·rw[if_neg hm]
  refine⟨h.start,h.segs,?_⟩
  intro m hm
  simp only[List.mem_append,List.mem_singleton]at hm
  rcases hm with hm|rfl
  ·exact h.marks m hm
  ·refine⟨by simp only;omega,by simp only;omega,?_⟩
   simp only
   unfold i64;omega
theorem Q1f {items:List Itm} (hl:items.length<=15) (hright:∀j<items.length,¬B1 (itA items j)) (hch:∀j<items.length,AD (itA items j)->∀p∈Cs (itA items j),bd B24 p):∀i,i<=items.length->PIn items.length (Aw items i)
 |0,_=>by rw[Aw];exact⟨by unfold bd;simp,fun g h=>(by cases h),fun g h=>(by cases h)⟩
 |i+1,hi=>by rw[Aw];exact Zt8 (by omega) hl hright hch (NV hright i (by omega)) (Q1f hl hright hch i (by omega))
theorem Q9k {p:Pt} {items:List Itm} (hl:items.length<=15) (h:Items 4084 p items):bd B24 (A3 items).start/\(∀g∈(A3 items).segs,RK items.length g)/\(∀m∈(A3 items).marks,0<=m.item/\m.item<items.length/\i64 m.at_)/\(A3 items).marks.length=items.length:=by
 have hright:=(Ol (Q2i (by omega) h (by omega))).2
 have h1 := Q1f hl hright (fun j hj hm => by
  rcases h.made _ (Qpw hj)with⟨-,g2,-,g4,-⟩|g
  ·exact Zyc g2 g4
  ·exact absurd hm (O4 g)) items.length (Nat.le_refl _)
 exact⟨h1.start,h1.segs,h1.marks,(NV hright items.length (Nat.le_refl _)).marks⟩
theorem Zzl {items:List Itm} (hl:items.length<=15) (hc:C6 items=0):i64 (IM items):=by
 have hg:=Q4k hl hc
 have hs:=U4 (Qcd hg.start hg.segs)
 have hcount:=hg.count
 have hright:=(Ol hc).2
 have h0:i64 (AR (A3 items).segs):=by unfold i64;omega
 unfold IM
 split
 ·rename_i i e
  split
  ·rename_i c
   obtain⟨hi,-,-⟩:=Qa3 e
   have hm:AD (itA items i):=⟨by have:=c.1.1;omega,by have:=c.1.1;omega⟩
   obtain⟨hd,-⟩:=Kz (hright i hi) hm
   have:=HA (AU (J_ hd.1.2.1 hd.1.2.2.1) (by decide)) (AU (EP hd.1.2.2.1) (by decide))
   unfold i64;omega
  ·exact h0
 ·exact h0
end Go.Bm
/- the maker's machine is a machine, and its controller begins -/
set_option maxRecDepth 100000
namespace Go.Bm
open Classical

theorem Qv (n lo hi:Int):Gh [I n,I lo,I hi]=some [B (decide (lo<=n/\n<=hi))]:=by
 show X1 [I n,I lo,I hi]=_
 rw[Q8x]
 by_cases h1:lo<=n<;>by_cases h2:n<=hi<;>simp[h1,h2]
theorem Zsf {M:Fn} (hM:∀n lo hi:Int,M [I n,I lo,I hi]=some [B (decide (lo<=n/\n<=hi))]) {a:Axs} (h:AxOK a) (hne:a.pitch≠[]):
  ∃o,An (Yz M) (.view Aa (a.pitch.map At)::I a.pitch.length::I 0::Bd a)=some o/\o.1=2:=by
 have hsp:=h.spacing hne
 refine(?_:Out (fun o:Nat×List AC=>o.1=2) _)
 refine CI (fun i:Nat=> .view Aa (a.pitch.map At)::I a.pitch.length::I (i:Int)::Bd a) (fun i=>i<=a.pitch.length) (fun i=>a.pitch.length-i) _ ?_ 0 (by simp)
 intro i hi
 have hc:=h.count
 rw[Zfy]
 dsimp only[jA,gA,bA,wA]
 have hv:∀j:Nat,j<a.pitch.length->Af (nth .dead (nth [] (a.pitch.map At) j) 0)=a.pitch.getD j 0:=fun j hj=>by
  have e:nth [] (a.pitch.map At) j=At a.pitch[j]:=by
   rw[Iu [] (a.pitch.map At) j (by rw[List.length_map];exact hj),List.getElem_map]
  rw[e,List.getD,List.getElem?_eq_getElem hj];rfl
 refine .cond (fun k=> ?_) fun _=> .some (.inr ⟨by simp,rfl⟩)
 have k:(i:Int)<(a.pitch.length:Int):=BA k
 have hl:((a.pitch.map At).length:Int)=a.pitch.length:=by rw[List.length_map]
 refine .cond (fun _=> ?_) fun e=>(inB (by omega) (by rw[hl];exact k) e).elim
 have hm: -4096<=a.pitch.getD i 0/\a.pitch.getD i 0<=4096:=by
  refine h.pitch.1 _ ?_
  rw[List.getD,List.getElem?_eq_getElem (by omega)]
  exact List.getElem_mem _
 rw[Int.toNat_natCast,hv i (by omega),hM]
 simp only[Option.bind_some,gA,wA,bA,jA,Cp,B6]
 rw[decide_eq_true hm]
 refine .cond (fun e=>by cases e) fun _=> ?_
 have nx:∀{x:List AC},x= .view Aa (a.pitch.map At)::I a.pitch.length::I ((i:Int)+1)::Bd a->Out (fun o:Nat×List AC=>(o.1=0/\∃s':Nat,o.2= .view Aa (a.pitch.map At)::I a.pitch.length::I (s':Int)::Bd a/\s'<=a.pitch.length/\a.pitch.length-s'<a.pitch.length-i)\/(o.1≠0/\o.1=2)) (some (0,x)):=fun e=>
  .some (.inl ⟨rfl,i+1,by rw[e];rfl,by omega,by omega⟩)
 rw[Ae (x:=(i:Int)+1) (by omega)]
 refine .cond (fun g=> ?_) fun _=>nx rfl
 have g:(i:Int)>0:=BA g
 rw[Ae (x:=(i:Int)-1) (by omega)]
 refine .cond (fun _=> ?_) fun e=>(inB (by omega) (by rw[hl];omega) e).elim
 obtain⟨j,rfl⟩:∃j:Nat,i=j+1:=⟨i-1,by omega⟩
 have hd:=h.pitch.2 j (by omega)
 have hmj: -4096<=a.pitch.getD j 0/\a.pitch.getD j 0<=4096:=by
  refine h.pitch.1 _ ?_
  rw[List.getD,List.getElem?_eq_getElem (by omega)]
  exact List.getElem_mem _
 have ej:(((j+1:Nat):Int)-1).toNat=j:=by omega
 rw[ej,hv j (by omega),hM]
 simp only[Option.bind_some,gA,wA,bA,jA,Cp,B6]
 have q1:a.spacing.tdiv 4=a.spacing/4:=Int.tdiv_eq_ediv_of_nonneg (by omega)
 rw[q1,Ae (x:=a.spacing/4) (by omega),Ae (x:=0-a.spacing/4) (by omega),Ae (x:=a.pitch.getD (j+1) 0-a.pitch.getD j 0) (by omega)]
 refine .cond (fun e=> ?_) fun _=>nx rfl
 rw[decide_eq_true (show 0-a.spacing/4<=a.pitch.getD (j+1) 0-a.pitch.getD j 0/\a.pitch.getD (j+1) 0-a.pitch.getD j 0<=a.spacing/4 by omega)]at e
 cases e
theorem Zzq {M:Fn} {N:Lp} (hM:∀n lo hi:Int,M [I n,I lo,I hi]=some [B (decide (lo<=n/\n<=hi))]) {a:Axs} (h:AxOK a)
  (hN:a.pitch≠[]->∃o,N (.view Aa (a.pitch.map At)::I a.pitch.length::I 0::Bd a)=some o/\o.1=2):Qlj M N (Bd a)=some [B true]:=by
 have hs:=h.spacing;have ho:=h.origin;have hc:=h.count
 rw[Zat]
 by_cases e:a.pitch=[]
 ·rw[e];rfl
 ·have hl:0<a.pitch.length:=List.length_pos_iff.2 e
  obtain⟨o,h1,h2⟩:=hN e
  have hs:=hs e
  have h1':N [.view Aa (a.pitch.map At),I (a.pitch.map At).length,I 0,I a.step,I a.speed,I a.accel,I a.jerk,I a.low,I a.high,I a.back,I a.origin,I a.spacing, .view Aa (a.pitch.map At)]=some o:=by rw[List.length_map];exact h1
  rw[Bl (by rw[List.length_map];simp;omega),Bl (by rw[List.length_map];simp;omega),hM,hM,h1']
  simp only[Option.bind_some,gA,wA,bA,jA,Cp,B6]
  rw[decide_eq_true (show-16777216<=a.origin/\a.origin<=16777216 by omega),decide_eq_true (show 4<=a.spacing/\a.spacing<=16777216 by omega),h2]
  rfl
theorem Zq5 {a:Axs} (h:AxOK a):Oi (Bd a)=some [B true]:=Zzq Qv h fun hne=>Zsf Qv h hne
theorem Zum {M N:Fn} (hN:∀n lo hi:Int,N [I n,I lo,I hi]=some [B (decide (lo<=n/\n<=hi))]) {a:Axs} (h:AxOK a) (hM:M (Bd a)=some [B true]):Qd6 M N (Bd a)=some [B true]:=by
 have hs:=h.step;have hb:=h.back;obtain⟨l1,l2,l3,l4,l5,l6,l7,l8⟩:=h.lim
 rw[Zik]
 simp only[hN,Option.bind_some,Cp,B6]
 rw[decide_eq_true (show 4<=a.step/\a.step<=4096 by omega),decide_eq_true (show 1<=a.speed/\a.speed<=1048576 by omega),decide_eq_true (show 2<=a.accel/\a.accel<=1048576 by omega),decide_eq_true (show 4<=a.jerk/\a.jerk<=1048576 by omega),decide_eq_true (show a.low>= -16777216 by omega),decide_eq_true (show a.high<=16777216 by omega),decide_eq_true (show a.low<=a.high by omega),decide_eq_true (show 0<=a.back/\a.back<=64 by omega)]
 simp only[cond_true]
 rw[hM]
 rfl
theorem Zul {a:Axs} (h:AxOK a):PH (Bd a)=some [B true]:=Zum Qv h (Zq5 h)
theorem Ztg {N:Fn} (hN:∀n lo hi:Int,N [I n,I lo,I hi]=some [B (decide (lo<=n/\n<=hi))]) {a:Axs} (h:AxOK a) {q:Int} (hq:q.natAbs<=B24):Qc7 N (Bd a++[I q])=some [B true]:=by
 obtain⟨-,-,-,-,-,-,l7,l8⟩:=h.lim
 refine Eq.trans (Zcz N ..) ?_
 rw[hN,decide_eq_true (show a.low<=q/\q<=a.high by unfold B24 at hq;omega)]
 rfl
theorem Zu0 {a:Axs} (h:AxOK a) {q:Int} (hq:q.natAbs<=B24):Hq (Bd a++[I q])=some [B true]:=Ztg Qv h hq
theorem Zuo {M:Fn} {x:Ax3} {p:Pth} (hs:bd B24 p.start) (hg:∀g∈p.segs,bd B24 g.to) (hl:p.segs.length<=1000000):
  Out (fun o:Nat×List AC=>o.1=1/\∃pts:List Pt,o.2= .view kPt (pts.map ptR)::AJ x/\(∀q∈pts,bd B24 q)/\pts.length<=1000001) (An (PF M) (.view kPt [ptR p.start]:: .view Ah (p.segs.map Ay)::I (p.segs.map Ay).length::I 0::AJ x)):=by
 refine CI (fun s:Nat×List Pt=> .view kPt (s.2.map ptR):: .view Ah (p.segs.map Ay)::I (p.segs.map Ay).length::I (s.1:Int)::AJ x) (fun s=>s.1<=p.segs.length/\(∀q∈s.2,bd B24 q)/\s.2.length=s.1+1) (fun s=>p.segs.length-s.1) _ ?_ (0,[p.start]) ⟨by simp,by simpa using hs,rfl⟩
 rintro⟨i,pts⟩ ⟨h1,h2,h3⟩
 dsimp only at h1 h2 h3
 refine Out.eqv (Zal M ..) ?_
 have hsl:((p.segs.map Ay).length:Int)=p.segs.length:=by rw[List.length_map]
 refine .cond (fun k=> ?_) fun _=> .some (.inr ⟨by simp,rfl,pts,rfl,h2,by omega⟩)
 have k:(i:Int)<((p.segs.map Ay).length:Int):=BA k
 rw[hsl]at k
 refine .cond (fun _=> ?_) fun e=>(inB (by omega) (by rw[hsl];exact k) e).elim
 have er:nth [] (p.segs.map Ay) (i:Int).toNat=Ay p.segs[i]:=by
  rw[Int.toNat_natCast,Iu [] _ i (by rw[List.length_map];omega),List.getElem_map]
 rw[er]
 have hq:=hg _ (List.getElem_mem (show i<p.segs.length by omega))
 refine .cond (fun _=> ?_) fun e=>by rw[CB (by simp;omega)]at e;cases e
 refine .some (.inl ⟨rfl,(i+1,pts++[p.segs[i].to]),?_,⟨by dsimp only;omega,?_,by simp;omega⟩,by dsimp only;omega⟩)
 ·rw[Ae (x:=(i:Int)+1) (by omega),List.map_append];rfl
 ·intro q hq'
  dsimp only at hq'
  simp only[List.mem_append,List.mem_singleton]at hq'
  rcases hq' with hq'|rfl
  ·exact h2 q hq'
  ·exact hq
theorem Zaj {M:Fn} {N3:Lp} (hM:∀{a:Axs} {q:Int},AxOK a->q.natAbs<=B24->M (Bd a++[I q])=some [B true]) {x:Ax3} (hx:Ax3M x) {pts:List Pt} (hp:∀q∈pts,bd B24 q) (hl:pts.length<=1000001):
  Out (fun o:Nat×List AC=>o.1=2) (An (Si M N3) (.view kPt (pts.map ptR)::I (pts.map ptR).length::I 0::AJ x)):=by
 refine CI (fun i:Nat=> .view kPt (pts.map ptR)::I (pts.map ptR).length::I (i:Int)::AJ x) (fun i=>i<=pts.length) (fun i=>pts.length-i) _ ?_ 0 (by simp)
 intro i h1
 refine Out.eqv (Zlc M N3 ..) ?_
 have hsl:((pts.map ptR).length:Int)=pts.length:=by rw[List.length_map]
 refine .cond (fun k=> ?_) fun _=> .some (.inr ⟨by simp,rfl⟩)
 have k:(i:Int)<((pts.map ptR).length:Int):=BA k
 rw[hsl]at k
 refine .cond (fun _=> ?_) fun e=>(inB (by omega) (by rw[hsl];exact k) e).elim
 have er:nth [] (pts.map ptR) (i:Int).toNat=ptR pts[i]:=by
  rw[Int.toNat_natCast,Iu [] _ i (by rw[List.length_map];omega),List.getElem_map]
 rw[er]
 obtain⟨q1,q2,q3⟩:=hp _ (List.getElem_mem (show i<pts.length by omega))
 refine .bind (p:=fun o=>o=[B true]) ⟨_,hM hx.a q1,rfl⟩ fun o e=> ?_
 subst e
 refine .cond (fun e=>by cases e) fun _=> ?_
 refine .bind (p:=fun o=>o=[B true]) ⟨_,hM hx.b q2,rfl⟩ fun o e=> ?_
 subst e
 refine .cond (fun e=>by cases e) fun _=> ?_
 refine .bind (p:=fun o=>o=[B true]) ⟨_,hM hx.c q3,rfl⟩ fun o e=> ?_
 subst e
 refine .cond (fun e=>by cases e) fun _=> ?_
 exact .some (.inl ⟨rfl,i+1,by rw[Ae (x:=(i:Int)+1) (by omega)];rfl,by omega,by omega⟩)
theorem Zd4 {M:Fn} {N3 N8:Lp} {x:Ax3} {p:Pth}
  (h3:Out (fun o:Nat×List AC=>o.1=1/\∃pts:List Pt,o.2= .view kPt (pts.map ptR)::AJ x/\(∀q∈pts,bd B24 q)/\pts.length<=1000001) (N3 (.view kPt [ptR p.start]:: .view Ah (p.segs.map Ay)::I (p.segs.map Ay).length::I 0::AJ x)))
  (h8:∀{pts:List Pt},(∀q∈pts,bd B24 q)->pts.length<=1000001->Out (fun o:Nat×List AC=>o.1=2) (N8 (.view kPt (pts.map ptR)::I (pts.map ptR).length::I 0::AJ x))):
  Out (fun o=>o=[B true]) (Z9 M N3 N8 (AJ x++Bo p)):=by
 refine Out.eqv (Q9o M N3 N8 ..) ?_
 refine .bind h3 fun o q=> ?_
 obtain⟨o1,o2⟩:=o
 obtain⟨q1,pts,q2,q3,q4⟩:=q
 dsimp only at q1 q2
 subst q1 q2
 refine .cond (fun _=> ?_) fun e=>by cases e
 refine .bind (h8 q3 q4) fun o q=> ?_
 rw[q]
 exact .some rfl
theorem Zet {x:Ax3} {p:Pth} (hx:Ax3M x) (hs:bd B24 p.start) (hg:∀g∈p.segs,bd B24 g.to) (hl:p.segs.length<=1000000):PX (AJ x++Bo p)=some [B true]:=by
 obtain⟨o,h,rfl⟩:=Zd4 (M:=Hq) (N3:=An (PF Hq)) (N8:=An (Si Hq (An (PF Hq)))) (Zuo (x:=x) hs hg hl) (fun h1 h2=>Zaj (fun ha hq=>Zu0 ha hq) hx h1 h2)
 exact h
theorem Zjt:∃v:Int,Es [I 30000]=some [I v]/\60000<=v:=by
 have key:∀{M:Fn} {v:Int},M [I 30000,I 1048576,I 60000,I 2]=some [I v,B true]->Qf M [I 30000]=some [I v]:=fun h=>by
  rw[Q21,h];rfl
 refine⟨_,key (Q2 (by unfold i64;omega) (by unfold i64;omega) (by omega) (by decide)),?_⟩
 unfold Bb
 omega
theorem Zvj {MR MP MV:Fn} {x:Ax3} (hx:Ax3M x) {pa pb pc ramp lag:Int} (hp:Plan3 pa pb pc) (hr:1<=ramp/\ramp<=60000) (hl:0<=lag/\lag<=40)
  (hV:∀{a:Axs},AxOK a->MV (Bd a)=some [B true]) (hP:MP [I pa,I pb,I pc]=some [B true]) (hR:∃v:Int,MR [I 30000]=some [I v]/\60000<=v):Out (fun o=>o=[B true]) (Qkj MR MP MV (AJ x++[I pa,I pb,I pc,I ramp,I lag])):=by
 refine Out.eqv (Q61 MR MP MV ..) ?_
 refine .bind (p:=fun o=>o=[B true]) ⟨_,hV hx.a,rfl⟩ fun o e=> ?_
 subst e
 refine .cond (fun e=>by cases e) fun _=> .bind (p:=fun o=>o=[B true]) ⟨_,hV hx.b,rfl⟩ fun o e=> ?_
 subst e
 refine .cond (fun e=>by cases e) fun _=> .bind (p:=fun o=>o=[B true]) ⟨_,hV hx.c,rfl⟩ fun o e=> ?_
 subst e
 refine .cond (fun e=>by cases e) fun _=> .bind (p:=fun o=>o=[B true]) ⟨_,hP,rfl⟩ fun o e=> ?_
 subst e
 obtain⟨v,h1,h2⟩:=hR
 refine .cond (fun _=> .cond (fun _=> ?_) fun e=>absurd hr.1 (BD e)) fun e=>by cases e
 refine .bind (p:=fun o=>o=[I v]) ⟨_,h1,rfl⟩ fun o e=> ?_
 subst e
 refine .cond (fun _=> .cond (fun _=> ?_) fun e=>absurd hl.1 (BD e)) fun e=>absurd (show ramp<=v by omega) (BD e)
 exact .some (by rw[decide_eq_true (show lag<=1048576 by omega)])
theorem Zxq {x:Ax3} (hx:Ax3M x) {pa pb pc ramp lag:Int} (hp:Plan3 pa pb pc) (hr:1<=ramp/\ramp<=60000) (hl:0<=lag/\lag<=40):PM (AJ x++[I pa,I pb,I pc,I ramp,I lag])=some [B true]:=by
 have hP:ES [I pa,I pb,I pc]=some [B true]:=by rw[NB,decide_eq_true (show 1<=pa/\pa<=65536/\2<=pb/\pb<=65536/\1<=pc/\pc<=16777216 from⟨hp.a.1,hp.a.2,hp.b.1,hp.b.2,hp.c.1,hp.c.2⟩)]
 obtain⟨o,h,rfl⟩:=Zvj hx hp hr hl Zul hP Zjt
 exact h
theorem Zij {x:Ax3} (hx:Ax3M x) (l0 l1 l2 l3 l4:Int):Pw (AJ x++[I l0,I l1,I l2,I l3,I l4])=some (AJ x++[I l0,I l1,I l2,I l3,I l4]):=by
 have ha:=hx.a.count;have hb:=hx.b.count;have hc:=hx.c.count
 have key:Qdw (AJ x++[I l0,I l1,I l2,I l3,I l4])=some (AJ x++[I l0,I l1,I l2,I l3,I l4]):=by
  refine Eq.trans (Znc ..) ?_
  rw[CB (by rw[List.length_map];omega),CB (by rw[List.length_map];omega),CB (by rw[List.length_map];omega)]
  rfl
 exact key
abbrev R4 (K:Kf):Kf:=⟨K.x,K.pa,K.pb,K.pc,K.ramp,K.lag,[],false,⟨⟨0,0,0⟩,[],[]⟩,0,0,⟨[],0,0,⟨0,0,0⟩⟩⟩
abbrev Ro (K:Kf):Kf:=⟨K.x,K.pa,K.pb,K.pc,K.ramp,K.lag,K.items,K.closed,K.p,K.len,K.set,⟨[],0,0,⟨0,0,0⟩⟩⟩
abbrev Cz:Cv:=⟨0,0,0,0,0,0,100,100,false,false,false,0,0,-1,1,0,0,0,0,0,0,0,0,false,0,false,0,false,0,-1,0,0,0,0,0,0,0,false,false,false⟩
noncomputable abbrev kfP (x:Ax3) (pa pb pc ramp lag:Int) (items:List Itm) (closed:Bool):Kf:=⟨x,pa,pb,pc,ramp,lag,items,closed,A3 items,AR (A3 items).segs,IM items,Eo (A3 items) x ⟨1,1,1⟩ 0 (AR (A3 items).segs)⟩
theorem Zbj {MS ML MR MB:Fn} {K:Kf} (hl:K.items.length<=15) (c:Cv)
  (hB:MB [.view Ak (K.items.map Ag)]=some (Bo K.p++[I 0])) (hR:MR (AJ K.x++Bo K.p)=some [B true]) (hL:ML (Bo K.p)=some [I K.len]) (hS:MS [.view Ak (K.items.map Ag)]=some [I K.set]):
  Q1 MS ML MR MB (.view Ak (K.items.map Ag)::B K.closed::Ad (R4 K) c)=some (I 0::Ad (Ro K) c):=by
 have key:Out (fun o=>o=I 0::Ad (Ro K) c) (Q1 MS ML MR MB (.view Ak (K.items.map Ag)::B K.closed::Ad (R4 K) c)):=by
  refine Out.eqv (Zlq MS ML MR MB _ _ (R4 K) c) ?_
  refine .bind (p:=fun o=>o=_) ⟨_,hB,rfl⟩ fun o e=> ?_
  subst e
  refine .cond (fun e=>by cases e) fun _=> ?_
  refine .bind (p:=fun o=>o=_) ⟨_,hR,rfl⟩ fun o e=> ?_
  subst e
  refine .cond (fun e=>by cases e) fun _=> .cond (fun _=> ?_) fun e=>by rw[CB (by rw[List.length_map];omega)]at e;cases e
  refine .bind (p:=fun o=>o=_) ⟨_,hL,rfl⟩ fun o e=> ?_
  subst e
  refine .bind (p:=fun o=>o=_) ⟨_,hS,rfl⟩ fun o e=> ?_
  subst e
  exact .some rfl
 obtain⟨o,h,rfl⟩:=key
 exact h
end Go.Bm
/- the controller begins -/
set_option maxRecDepth 100000
namespace Go.Bm
open Classical

theorem Zta {MS ML ML' MG' MO MC MD:Fn} {K:Kf}
  (hD:MD (AJ K.x++[I K.pa,I K.pb,I K.pc,I K.ramp,I K.lag])=some [B true]) (hC:MC (AJ K.x++[I K.pa,I K.pb,I K.pc,I K.ramp,I K.lag])=some (AJ K.x++[I K.pa,I K.pb,I K.pc,I K.ramp,I K.lag]))
  (hO:MO []=some [I 100,I 100,B false,B false,B false]) (hG:MG' []=some [I 0,I 0,I (-1)])
  (hL:ML' (.view Ak (K.items.map Ag)::B K.closed::Ad (R4 K) Cz)=some (I 0::Ad (Ro K) Cz))
  (hT:ML (Bo K.p++AJ K.x++[I 1,I 1,I 1,I 0,I K.len])=some (Bh K.t)) (hS:MS [I 0]=some [I 0,I 0,I 0,I 0,I 0,I 0]):
  Sf MS ML ML' MG' MO MC MD (AJ K.x++[I K.pa,I K.pb,I K.pc,I K.ramp,I K.lag]++[.view Ak (K.items.map Ag),B K.closed])=some (I 0::Ad K Cz):=by
 have key:Out (fun o=>o=I 0::Ad K Cz) (Sf MS ML ML' MG' MO MC MD (AJ K.x++[I K.pa,I K.pb,I K.pc,I K.ramp,I K.lag]++[.view Ak (K.items.map Ag),B K.closed])):=by
  refine Out.eqv (Zbh MS ML ML' MG' MO MC MD ..) ?_
  refine .bind (p:=fun o=>o=_) ⟨_,hD,rfl⟩ fun o e=> ?_
  subst e
  refine .cond (fun e=>by cases e) fun _=> ?_
  refine .bind (p:=fun o=>o=_) ⟨_,hC,rfl⟩ fun o e=> ?_
  subst e
  refine .bind (p:=fun o=>o=_) ⟨_,hO,rfl⟩ fun o e=> ?_
  subst e
  refine .bind (p:=fun o=>o=_) ⟨_,hG,rfl⟩ fun o e=> ?_
  subst e
  refine .bind (p:=fun o=>o=I 0::Ad (Ro K) Cz) ⟨_,hL,rfl⟩ fun o e=> ?_
  subst e
  refine .cond (fun e=>by cases e) fun _=> ?_
  refine .bind (p:=fun o=>o=_) ⟨_,hT,rfl⟩ fun o e=> ?_
  subst e
  refine .bind (p:=fun o=>o=_) ⟨_,hS,rfl⟩ fun o e=> ?_
  subst e
  exact .some (by kernel_rfl)
 obtain⟨o,h,rfl⟩:=key
 exact h
structure MachOK (x : Ax3) (pa pb pc ramp lag : Int) : Prop where
 x:Ax3M x
 plan:Plan3 pa pb pc
 ramp:1<=ramp/\ramp<=60000
 lag:0<=lag/\lag<=40
theorem Qhs {x:Ax3} {pa pb pc ramp lag:Int} (hm:MachOK x pa pb pc ramp lag) {items:List Itm} (hl:items.length<=15) {p0:Pt} (hi:Items 4084 p0 items) (closed:Bool):
  H8 (AJ x++[I pa,I pb,I pc,I ramp,I lag]++[.view Ak (items.map Ag),B closed])=some (I 0::Ad (kfP x pa pb pc ramp lag items closed) Cz)/\KOK (kfP x pa pb pc ramp lag items closed):=by
 have hc:=Q2i (by omega) hi (show items.length<=20000 by omega)
 have hg:=Q4k hl hc
 obtain⟨i1,i2,i3,i4⟩:=Q9k hl hi
 have hs:=U4 (Qcd hg.start hg.segs)
 have hcount:=hg.count
 refine⟨?_,?_⟩
 ·have hB:Md [.view Ak (items.map Ag)]=some (Bo (A3 items)++[I 0]):=by rw[Zce hl,if_pos hc]
  have hS:Mz [.view Ak (items.map Ag)]=some [I (IM items)]:=by rw[Zg0 hl,if_pos hc]
  have hR:=Zet hm.x i1 (fun g h=>(i2 g h).1) (by omega)
  have hT:=Zvh (d:=⟨1,1,1⟩) (from_:=0) (to:=AR (A3 items).segs) hg hm.x.ok
  have hload:=Zbj (K:=kfP x pa pb pc ramp lag items closed) hl Cz hB hR (Qy9 hg.ok) hS
  have hO:Pj []=some [I 100,I 100,B false,B false,B false]:=by show ZO []=_;rw[Zrx]
  have hG:JC []=some [I 0,I 0,I (-1)]:=by show Q0 []=_;rw[Q2a]
  have hst:GD [I 0]=some [I 0,I 0,I 0,I 0,I 0,I 0]:=Qx0 0
  exact Zta (K:=kfP x pa pb pc ramp lag items closed) (Zxq hm.x hm.plan hm.ramp hm.lag) (Zij hm.x ..) hO hG hload hT hst
 ·refine⟨⟨hg,hm.x,Zkn _ _ _ hm.x.ok hg⟩,hm.plan,fun g h=>(i2 g h).2,i3,?_,?_,?_,Zzl hl hc⟩
  ·show(A3 items).marks.length<=1000000
   omega
  ·intro it hit h8
   rcases hi.made it hit with⟨-,-,g,-⟩|g
   ·rw[g.2.2.2.1];unfold i64;omega
   ·have:=g.spin h8;unfold i64;omega
  ·show i64 (AR (A3 items).segs)
   unfold i64;omega
end Go.Bm
/- the maker's events and machines -/
set_option maxRecDepth 100000
namespace Go.Bm

structure Evn where
 (cycle kind n:Int)
abbrev evR (e:Evn):List AC:=[I e.cycle,I e.kind,I e.n]
structure EvOK (e : Evn) : Prop where
 kind:1<=e.kind/\e.kind<=13
 n: -5<=e.n/\e.n<=4194304
theorem Qnp (E:List Evn) {i:Nat} (h:i<E.length):nth [] (E.map evR) (i:Int).toNat=evR E[i]:=by
 rw[Int.toNat_natCast,Iu [] _ i (by rw[List.length_map];exact h),List.getElem_map]
theorem Zif {α:Type} (P:α->Bool) (E:List α) {i:Nat} (h:i<E.length):(E.take (i+1)).filter P=(E.take i).filter P++(if P E[i]=true then [E[i]]else []):=by
 rw[List.take_add_one,List.filter_append,List.getElem?_eq_getElem h]
 congr 1
 by_cases c:P E[i]=true
 ·rw[if_pos c];simp[c]
 ·rw[if_neg c];simp[c]
theorem Qtw {P:Evn->Bool} {E:List Evn} (hl:E.length<=1000000) {st:Lp} {enc:Rw->Nat->List AC}
  (hs:∀(l:Rw) (i:Nat),i<=E.length->l.length<=i->st (enc l i)=if h:i<E.length then some (0,enc (l++(if P E[i]=true then [evR E[i]]else [])) (i+1))else some (1,[.view kPt l])):
  An st (enc [] 0)=some (1,[.view kPt ((E.filter P).map evR)]):=by
 have key:Out (fun o=>o=(1,[.view kPt ((E.filter P).map evR)])) (An st (enc [] 0)):=by
  refine CI (fun i:Nat=>enc (((E.take i).filter P).map evR) i) (fun i=>i<=E.length) (fun i=>E.length-i) _ ?_ 0 (by simp)
  intro i hi
  rw[hs _ _ hi (by rw[List.length_map];exact Nat.le_trans (List.length_filter_le _ _) (by simp;omega))]
  by_cases h:i<E.length
  ·rw[dif_pos h]
   refine .some (.inl ⟨rfl,i+1,?_,by omega,by omega⟩)
   rw[Zif P E h]
   by_cases c:P E[i]=true
   ·rw[if_pos c,if_pos c,List.map_append];rfl
   ·rw[if_neg c,if_neg c,List.append_nil,List.append_nil]
  ·rw[dif_neg h]
   refine .some (.inr ⟨by simp,?_⟩)
   rw[List.take_of_length_le (by omega)]
 obtain⟨o,h,rfl⟩:=key
 exact h
theorem Qz3 {E:List Evn} (hl:E.length<=1000000) (k:Int):Ld [.view kPt (E.map evR),I k]=some [.view kPt ((E.filter fun e=>e.cycle==k).map evR)]:=by
 have hL:An SP [.view kPt [],I k, .view kPt (E.map evR),I E.length,I ((0:Nat):Int)]=some (1,[.view kPt ((E.filter fun e=>e.cycle==k).map evR)]):=by
  refine Qtw (P:=fun e=>e.cycle==k) hl (enc:=fun l i=>[.view kPt l,I k, .view kPt (E.map evR),I E.length,I (i:Int)]) fun l i hi hll=> ?_
  rw[Zy1]
  by_cases h:i<E.length
  ·rw[dif_pos h,Bz (by simp;omega),Bz (by simp;omega),Qnp E h,Ae (x:=(i:Int)+1) (by omega)]
   by_cases c:(E[i].cycle==k)=true
   ·rw[Bz (show(gA (evR E[i]) 0==k)=true from c),CB (by simp;omega),if_pos c];rfl
   ·rw[Bl (show(gA (evR E[i]) 0==k)=false from Bool.eq_false_iff.2 c),if_neg c,List.append_nil];rfl
  ·rw[dif_neg h,Bl (by simp;omega)]
 show Qfm (An SP) [.view kPt (E.map evR),I k]=_
 rw[Zka,List.length_map]
 rw[show(0:Int)=((0:Nat):Int)from rfl,hL]
 rfl
theorem Zue {E:List Evn} (hl:E.length<=1000000):Mh [.view kPt (E.map evR)]=some [.view kPt ((E.filter fun e=>decide (e.kind<=6)).map evR)]:=by
 have hL:An Qu [.view kPt [], .view kPt (E.map evR),I E.length,I ((0:Nat):Int)]=some (1,[.view kPt ((E.filter fun e=>decide (e.kind<=6)).map evR)]):=by
  refine Qtw (P:=fun e=>decide (e.kind<=6)) hl (enc:=fun l i=>[.view kPt l, .view kPt (E.map evR),I E.length,I (i:Int)]) fun l i hi hll=> ?_
  rw[Zfe]
  by_cases h:i<E.length
  ·rw[dif_pos h,Bz (by simp;omega),Bz (by simp;omega),Qnp E h,Ae (x:=(i:Int)+1) (by omega)]
   by_cases c:decide (E[i].kind<=6)=true
   ·rw[Bz (show decide (gA (evR E[i]) 1<=6)=true from c),CB (by simp;omega),if_pos c];rfl
   ·rw[Bl (show decide (gA (evR E[i]) 1<=6)=false from Bool.eq_false_iff.2 c),if_neg c,List.append_nil];rfl
  ·rw[dif_neg h,Bl (by simp;omega)]
 show Qeb (An Qu) [.view kPt (E.map evR)]=_
 rw[Zn3,List.length_map]
 rw[show(0:Int)=((0:Nat):Int)from rfl,hL]
 rfl
theorem Zva {M:Fn} {l:Rw} (hM:Gz l M) (cycle:Int) (k:Nat):
  ∃(e:Evn) (k':Nat),Qep M [I cycle, .view Aa l,I k]=some (evR e++[.view Aa l,I k'])/\EvOK e/\k<=k':=by
 obtain⟨v,k1,h1,v0,v1,hk,-⟩:=hM k (n:=15) (by omega)
 rw[Zqv,h1]
 simp only[Option.bind_some,P9,gA,wA,bA,jA,Cp,DP,Dd,Br]
 have all:∀(n:Nat),n<15->∃kind:Int,nth [] [[I 4],[I 1],[I 2],[I 3],[I 4],[I 5],[I 6],[I 7],[I 4],[I 8],[I 9],[I 11],[I 12],[I 13],[I 10]] n=[I kind]/\1<=kind/\kind<=13:=by
  intro n hn
  match n,hn with
  |0,_=>exact⟨4,rfl,by omega⟩
  |1,_=>exact⟨1,rfl,by omega⟩
  |2,_=>exact⟨2,rfl,by omega⟩
  |3,_=>exact⟨3,rfl,by omega⟩
  |4,_=>exact⟨4,rfl,by omega⟩
  |5,_=>exact⟨5,rfl,by omega⟩
  |6,_=>exact⟨6,rfl,by omega⟩
  |7,_=>exact⟨7,rfl,by omega⟩
  |8,_=>exact⟨4,rfl,by omega⟩
  |9,_=>exact⟨8,rfl,by omega⟩
  |10,_=>exact⟨9,rfl,by omega⟩
  |11,_=>exact⟨11,rfl,by omega⟩
  |12,_=>exact⟨12,rfl,by omega⟩
  |13,_=>exact⟨13,rfl,by omega⟩
  |14,_=>exact⟨10,rfl,by omega⟩
 obtain⟨kind,hkd,b1,b2⟩:=all v.toNat (by omega)
 have hlen:([[I 4],[I 1],[I 2],[I 3],[I 4],[I 5],[I 6],[I 7],[I 4],[I 8],[I 9],[I 11],[I 12],[I 13],[I 10]]:Rw).length=15:=rfl
 clear all
 generalize([[I 4],[I 1],[I 2],[I 3],[I 4],[I 5],[I 6],[I 7],[I 4],[I 8],[I 9],[I 11],[I 12],[I 13],[I 10]]:Rw)=T at*
 have hv:v<(T.length:Int):=by omega
 simp only[v0,hv,decide_true,Bool.and_self,cond_true,hkd,Cp,Dd]
 have one:∀(n d:Int),0<n/\n<=1000->0<=d/\d<=5->∃(e:Evn) (k':Nat),((M [I n, .view Aa l,I k1]).bind fun o=>some [I cycle,I kind,I (IntKind.i64.wrap (gA o 0-d)), .view Aa (wA o 1),jA o 2])=some (evR e++[.view Aa l,I k'])/\EvOK e/\k<=k':=fun n d hn hd=>by
  obtain⟨w,k2,g1,w0,w1,g2,-⟩:=hM k1 (n:=n) (by omega)
  rw[g1]
  refine⟨⟨cycle,kind,w-d⟩,k2,?_,⟨⟨b1,b2⟩,by simp only;omega⟩,by omega⟩
  simp only[Option.bind_some,gA,wA,jA,Cp,DP,Dd,Br]
  rw[Ae (by omega)]
  rfl
 have two:∀(n:Int),0<n/\n<=1000->∃(e:Evn) (k':Nat),((M [I n, .view Aa l,I k1]).bind fun o=>some [I cycle,I kind,jA o 0, .view Aa (wA o 1),jA o 2])=some (evR e++[.view Aa l,I k'])/\EvOK e/\k<=k':=fun n hn=>by
  obtain⟨w,k2,g1,w0,w1,g2,-⟩:=hM k1 (n:=n) (by omega)
  rw[g1]
  exact⟨⟨cycle,kind,w⟩,k2,rfl,⟨⟨b1,b2⟩,by simp only;omega⟩,by omega⟩
 cases c1:(kind==1)
 ·cases c2:(kind==2)
  ·cases c3:(kind==5)
   ·cases c4:(kind==6)
    ·cases c5:(kind==7)
     ·cases c6:(kind==8)
      ·cases c7:(kind==13)
       ·exact⟨⟨cycle,kind,0⟩,k1,rfl,⟨⟨b1,b2⟩,by simp⟩,by omega⟩
       ·obtain⟨w,k2,g1,w0,w1,g2,-⟩:=hM k1 (n:=4) (by omega)
        obtain⟨y,k3,g3,y0,y1,g4,-⟩:=hM k2 (n:=60) (by omega)
        simp only[cond_false,cond_true]
        rw[g1]
        simp only[Option.bind_some,Cp,DP,Dd]
        rw[g3]
        refine⟨⟨cycle,kind,w*1048576+y⟩,k3,?_,⟨⟨b1,b2⟩,by simp only;omega⟩,by omega⟩
        simp only[Option.bind_some,Cp,DP,Dd]
        rw[Ae (x:=w*1048576) (by omega),Ae (by omega)]
        rfl
      ·exact one 5 1 (by omega) (by omega)
     ·exact one 300 5 (by omega) (by omega)
    ·exact two 3 (by omega)
   ·exact two 3 (by omega)
  ·exact one 220 5 (by omega) (by omega)
 ·exact one 220 5 (by omega) (by omega)
theorem Q64 {ME MN ML MF:Fn} {l:Rw} (hl:l.length<=100000) (hN:Gz l MN) (hL:∀k:Nat,ML [.view Aa l,I k]=some [B (decide (k<l.length)), .view Aa l,I k])
  (hE:∀(cycle:Int) (k:Nat),∃(e:Evn) (k':Nat),ME [I cycle, .view Aa l,I k]=some (evR e++[.view Aa l,I k'])/\EvOK e/\k<=k'):
  Out (fun o=>∃E:List Evn,o=(1,[.view kPt (E.map evR)])/\E.length<=l.length/\∀e∈E,EvOK e) (An (Qhz ME MN ML MF) [.view kPt [],I 0, .view Aa l,I 0]):=by
 refine CI (fun s:List Evn×Int×Nat=>[.view kPt (s.1.map evR),I s.2.1, .view Aa l,I (s.2.2:Int)]) (fun s=>(∀e∈s.1,EvOK e)/\s.1.length<=s.2.2/\s.1.length<=l.length) (fun s=>l.length-s.2.2) _ ?_ ([],0,0) (by simp)
 rintro⟨E,cycle,k⟩ ⟨h1,h2,h3⟩
 dsimp only at h1 h2 h3
 rw[Zqo,hL]
 simp only[Option.bind_some,gA,wA,bA,jA,Cp,DP,Dd,Br,B6]
 by_cases c:k<l.length
 ·rw[decide_eq_true c]
  obtain⟨v,k1,g1,v0,v1,-,g2,-⟩:=hN k (n:=40) (by omega)
  have g2:=g2 c
  rw[cond_true,g1]
  simp only[Option.bind_some,Cp,DP,Dd]
  obtain⟨e,k2,q1,q2,q3⟩:=hE (IntKind.i64.wrap (cycle+v)) k1
  rw[q1]
  simp only[Option.bind_some,List.cons_append,List.nil_append,Cp,DP,Dd]
  rw[CB (by simp;omega)]
  refine .some (.inl ⟨rfl,(E++[e],IntKind.i64.wrap (cycle+v),k2),?_,⟨?_,by simp;omega,by simp;omega⟩,by dsimp only;omega⟩)
  ·rw[List.map_append];rfl
  ·intro x hx
   dsimp only at hx
   rcases List.mem_append.1 hx with hx|hx
   ·exact h1 x hx
   ·rw[List.mem_singleton]at hx;subst hx;exact q2
 ·rw[decide_eq_false c]
  exact .some (.inr ⟨by simp,E,rfl,h3,h1⟩)
theorem Zyo {l:Rw} (hs:Src l) (hl:l.length<=60):∃E:List Evn,N_ [.view Aa l]=some [.view kPt (E.map evR)]/\E.length<=60/\∀e∈E,EvOK e:=by
 obtain⟨o,h1,E,rfl,h2,h3⟩:=Q64 (ME:=Ky) (MF:=Ce) (by omega) (GY hs) (Qtk l) fun cycle k=>Zva (GY hs) cycle k
 refine⟨E,?_,by omega,h3⟩
 show ZS Ky Bs FD Ce (An _) [.view Aa l]=_
 rw[Zcl,OT]
 simp only[Option.bind_some,gA,wA,bA,jA,Cp,DP,Dd,Br]
 rw[h1]
 rfl
theorem Zq1 {MN MF:Fn} {l:Rw} (hN:Gz l MN) (hF:MF [.view Aa l]=some [.view Aa l,I 0]):
  ∃a b c:Int,Qin MN MF [.view Aa l]=some [I a,I b,I c]/\(1<=a/\a<=900)/\(2<=b/\b<=201)/\(1<=c/\c<=16000):=by
 obtain⟨v,k1,g1,v0,v1,-⟩:=hN 0 (n:=900) (by omega)
 obtain⟨w,k2,g2,w0,w1,-⟩:=hN k1 (n:=200) (by omega)
 obtain⟨y,k3,g3,y0,y1,-⟩:=hN k2 (n:=16000) (by omega)
 have g1':MN [I 900, .view Aa l,I 0]=some [I v, .view Aa l,I k1]:=g1
 refine⟨1+v,2+w,1+y,?_,by omega,by omega,by omega⟩
 rw[Zvq,hF]
 simp only[Option.bind_some,gA,wA,bA,jA,Cp,DP,Dd,Br]
 rw[g1']
 simp only[Option.bind_some,Cp,DP,Dd]
 rw[g2]
 simp only[Option.bind_some,Cp,DP,Dd]
 rw[g3]
 simp only[Option.bind_some,Cp,DP,Dd]
 rw[Ae (x:=1+v) (by omega),Ae (x:=2+w) (by omega),Ae (x:=1+y) (by omega)]
theorem Zaa {MN MP MA MF:Fn} {l m:Rw} (hm:Gz m MN) (hF:MF [.view Aa m]=some [.view Aa m,I 0]) {x:Ax3} (hA:MA [.view Aa l]=some (AJ x)) (hx:Ax3M x) {a b c:Int} (hP:MP [.view Aa m]=some [I a,I b,I c]) (h1:1<=a/\a<=900) (h2:2<=b/\b<=201) (h3:1<=c/\c<=16000) (hml:m.length<=100000):
  ∃ramp lag:Int,Qlf MN MP MA MF [.view Aa l, .view Aa m]=some (AJ x++[I a,I b,I c,I ramp,I lag])/\MachOK x a b c ramp lag:=by
 obtain⟨k0,hk0⟩:∃k0:Nat,mn 3 (m.length:Int)=k0:=⟨(mn 3 (m.length:Int)).toNat,by unfold mn;split<;>omega⟩
 obtain⟨v,k1,g1,v0,v1,-⟩:=hm k0 (n:=60000) (by omega)
 obtain⟨w,k2,g2,w0,w1,-⟩:=hm k1 (n:=40) (by omega)
 refine⟨1+v,w,?_,⟨hx,⟨by omega,by omega,by omega⟩,by omega,by omega⟩⟩
 rw[Zcu,hF,hA,hP]
 simp only[Option.bind_some,gA,wA,bA,jA,Cp,DP,Dd,Br]
 rw[hk0,g1]
 simp only[Option.bind_some,Cp,DP,Dd]
 rw[g2]
 simp only[Option.bind_some,Cp,DP,Dd]
 rw[Ae (x:=1+v) (by omega)]
 rfl
theorem Zjh {l m:Rw} (h1:Src l) (h2:Src m) (h3:m.length<=100000):∃(x:Ax3) (a b c ramp lag:Int),Ls [.view Aa l, .view Aa m]=some (AJ x++[I a,I b,I c,I ramp,I lag])/\MachOK x a b c ramp lag:=by
 obtain⟨x,hA,hx⟩:=Zar h1
 obtain⟨a,b,c,hP,p1,p2,p3⟩:=Zq1 (MF:=Ce) (GY h2) (OT m)
 obtain⟨ramp,lag,g1,g2⟩:=Zaa (MP:=OS) (MF:=Ce) (GY h2) (OT m) hA hx hP p1 p2 p3 h3
 exact⟨x,a,b,c,ramp,lag,g1,g2⟩
theorem Q9l (L:List (Rw)) (hl:L.length<=1000):Out (fun o=>o.1=1/\o.2=[B false]\/o.1=2/\∀l∈L,l.length<=60) (An SL [.view [Kd.sl Aa] (L.map fun l=>[.view Aa l]),I L.length,I ((0:Nat):Int)]):=by
 refine CI (fun i:Nat=>[.view [Kd.sl Aa] (L.map fun l=>[.view Aa l]),I L.length,I (i:Int)]) (fun i=>i<=L.length/\∀l∈L.take i,l.length<=60) (fun i=>L.length-i) _ ?_ 0 (by simp)
 rintro i ⟨h1,h2⟩
 rw[Q8q]
 refine .cond (fun c=> ?_) fun c=> .some (.inr ⟨by simp, .inr ⟨rfl,?_⟩⟩)
 ·have c:(i:Int)<(L.length:Int):=BA c
  have hi:i<L.length:=by omega
  refine .cond (fun _=> ?_) fun e=>(inB (by omega) (by rw[List.length_map];exact c) e).elim
  rw[Int.toNat_natCast,Iu [] _ i (by rw[List.length_map];exact hi),List.getElem_map]
  refine .cond (fun _=> .some (.inr ⟨by simp, .inl ⟨rfl,rfl⟩⟩)) fun q=> ?_
  have q: ¬(L[i].length:Int)>60:=BD q
  rw[Ae (x:=(i:Int)+1) (by omega)]
  refine .some (.inl ⟨rfl,i+1,rfl,⟨by omega,?_⟩,by omega⟩)
  intro l hl
  rw[List.take_add_one,List.getElem?_eq_getElem hi]at hl
  rcases List.mem_append.1 hl with hl|hl
  ·exact h2 l hl
  ·simp at hl;subst hl;omega
 ·have c: ¬(i:Int)<(L.length:Int):=BD c
  rw[List.take_of_length_le (by omega)]at h2
  exact h2
theorem Q9s {L:List (Rw)} (hl:L.length<=1000):∃b:Bool,JY [.view [Kd.sl Aa] (L.map fun l=>[.view Aa l])]=some [B b]/\(b=true->∀l∈L,l.length<=60):=by
 obtain⟨o,h1,h2⟩:=Q9l L hl
 have e:JY [.view [Kd.sl Aa] (L.map fun l=>[.view Aa l])]=T0 (An SL) [.view [Kd.sl Aa] (L.map fun l=>[.view Aa l])]:=rfl
 rw[e,Q8b,List.length_map]
 rw[show(0:Int)=((0:Nat):Int)from rfl,h1]
 obtain⟨o1,o2⟩:=o
 rcases h2 with⟨q1,q2⟩|⟨q1,q2⟩
 ·dsimp only at q1 q2
  subst q1 q2
  exact⟨false,rfl,fun h=>by cases h⟩
 ·dsimp only at q1 q2
  subst q1
  exact⟨true,rfl,fun _=>q2⟩
theorem Zyv (a b c d:Rw):∃q:Bool,Nz [.view Aa a, .view Aa b, .view Aa c, .view Aa d]=some [B q]/\(q=true->a.length<=60/\b.length<=60/\c.length<=60/\d.length<=60):=by
 obtain⟨q,h1,h2⟩:=Q9s (L:=[a,b,c,d]) (by simp)
 refine⟨q,?_,fun h=>⟨h2 h a (by simp),h2 h b (by simp),h2 h c (by simp),h2 h d (by simp)⟩⟩
 show Xm JY _=_
 rw[Zgg]
 have h1':JY [.view [Kd.sl Aa] [[.view Aa a],[.view Aa b],[.view Aa c],[.view Aa d]]]=some [B q]:=h1
 rw[h1']
 rfl
end Go.Bm
/- what the controller does in a cycle, as plain functions; its small parts -/
set_option maxRecDepth 100000
namespace Go.Bm

abbrev Zze:Itm:=⟨0,0,⟨0,0,0⟩,⟨0,0,0⟩,0,⟨0,0,0⟩,0,false,0,false,0,0,0,0,0,false⟩
def itK (K:Kf) (i:Int):Itm:=K.items.getD i.toNat Zze
def mkK (K:Kf) (i:Int):Mrk:=K.p.marks.getD i.toNat ⟨0,0,0⟩
theorem IL {K:Kf} {i:Int} (h0:0<=i) (h1:i<K.items.length):nth [] (K.items.map Ag) i.toNat=Ag (itK K i):=by
 have h:i.toNat<K.items.length:=by omega
 rw[Qwq K h]
 unfold itK
 rw[List.getD,List.getElem?_eq_getElem h];rfl
theorem LR {K:Kf} {i:Int} (h0:0<=i) (h1:i<K.p.marks.length):nth [] (K.p.marks.map As) i.toNat=As (mkK K i):=by
 have h:i.toNat<K.p.marks.length:=by omega
 rw[Q9z K h]
 unfold mkK
 rw[List.getD,List.getElem?_eq_getElem h];rfl
theorem SH {K:Kf} (h:KOK K) {i:Int} (h0:0<=i) (h1:i<K.p.marks.length):0<=(mkK K i).item/\(mkK K i).item<K.items.length/\i64 (mkK K i).at_:=by
 have hi:i.toNat<K.p.marks.length:=by omega
 unfold mkK
 rw[List.getD,List.getElem?_eq_getElem hi]
 exact h.marks _ (List.getElem_mem hi)
theorem inR {i:Int} {n:Nat} (h0:0<=i) (h1:i<(n:Int)):(decide (0<=i)&&decide (i<(n:Int)))=true:=by
 rw[decide_eq_true h0,decide_eq_true h1];rfl
theorem eB {α β:Type} {a:Option α} {f:α->Option β} {x:α} {r:Option β} (h:a=some x) (g:f x=r):a.bind f=r:=by rw[h];exact g
theorem eT {α:Type} {c:Bool} {a b r:α} (h:c=true) (g:a=r):cond c a b=r:=by rw[h];exact g
theorem eF {α:Type} {c:Bool} {a b r:α} (h:c=false) (g:b=r):cond c a b=r:=by rw[h];exact g
theorem eC {α:Type} {c:Bool} {a b r:α} (h:c=true->a=r) (g:c=false->b=r):cond c a b=r:=by cases c;exact g rfl;exact h rfl
theorem beF {a b:Int} (h:a≠b):(a==b)=false:=by simpa using h
theorem beT {a b:Int} (h:a=b):(a==b)=true:=by simpa using h
theorem bnF {a b:Int} (h:a=b):(a !=b)=false:=by simpa using h
theorem bnT {a b:Int} (h:a≠b):(a !=b)=true:=by simpa using h
theorem inM {β:Type} {f:β->List AC} {i:Int} {l:List β} (h0:0<=i) (h1:i<(l.length:Int)):(decide (0<=i)&&decide (i<((l.map f).length:Int)))=true:=inR h0 (by rw[List.length_map];exact h1)
def Fo (K:Kf) (c:Cv):Option Sgm:=K.p.segs[(A9 K.p.segs (max (AY K c) 0)).1]?
def sgK (K:Kf) (c:Cv):Sgm:=(Fo K c).getD sg0
theorem Qq8 {K:Kf} {c:Cv} {g:Sgm} (h:Fo K c=some g):g∈K.p.segs:=List.mem_of_getElem? h
theorem Hr {K:Kf} (h:KOK K) {c:Cv} (hl:(sgK K c).lead≠0):0<=(sgK K c).item/\(sgK K c).item<K.items.length/\i64 (sgK K c).lead:=by
 unfold sgK at hl⊢
 cases e:Fo K c with
 |none=>rw[e]at hl;exact absurd rfl hl
 |some g=>exact h.segs g (Qq8 e)
theorem Zeb {MF MP:Fn} {K:Kf} {c:Cv} (hP:MP (Ad K c)=some [I (AY K c)])
  (hF:MF (Bo K.p++[I (AY K c)])=if K.p.segs=[]then some [I (-1),I 0]else some [I (A9 K.p.segs (max (AY K c) 0)).1,I (A9 K.p.segs (max (AY K c) 0)).2]):
  Qc6 MF MP (Ad K c)=some (Ay (sgK K c)++[B (Fo K c).isSome]):=by
 rw[Zpj]
 refine eB hP (Eq.trans (congrArg (fun z=>Option.bind z _) (show MF (Bo K.p++[I (AY K c)])=_ from hF)) ?_)
 by_cases e:K.p.segs=[]
 ·have e2:Fo K c=none:=by unfold Fo;rw[e];rfl
  unfold sgK
  rw[if_pos e,e2]
  rfl
 ·have hl:=Qbh K.p.segs (max (AY K c) 0) e
  have e2:Fo K c=some K.p.segs[(A9 K.p.segs (max (AY K c) 0)).1]:=List.getElem?_eq_getElem hl
  unfold sgK
  rw[if_neg e,e2]
  refine eB rfl (eF (decide_eq_false (show¬((A9 K.p.segs (max (AY K c) 0)).1:Int)<0 by omega)) (eT (inM (f:=Ay) (l:=K.p.segs) (i:=((A9 K.p.segs (max (AY K c) 0)).1:Int)) (by omega) (by omega)) ?_))
  have er:nth [] (K.p.segs.map Ay) ((A9 K.p.segs (max (AY K c) 0)).1:Int).toNat=Ay K.p.segs[(A9 K.p.segs (max (AY K c) 0)).1]:=by
   rw[Int.toNat_natCast,Iu [] _ _ (by rw[List.length_map];exact hl),List.getElem_map]
  show some (AK Ah (nth [] (K.p.segs.map Ay) ((A9 K.p.segs (max (AY K c) 0)).1:Int).toNat)++[B true])=_
  rw[er]
  rfl
theorem Qpo {K:Kf} (h:KOK K) (c:Cv):Ed (Ad K c)=some (Ay (sgK K c)++[B (Fo K c).isSome]):=
 Zeb (Rz h c) (Qm3 h.f.p.ok (Qes h.f _))
def ID (K:Kf) (c:Cv):Bool:=(Fo K c).isSome&&((itK K (sgK K c).item).kind==6&&c.y0==(sgK K c).item)
theorem Zgp {M:Fn} {K:Kf} {c:Cv} (h:KOK K) (hS:M (Ad K c)=some (Ay (sgK K c)++[B (Fo K c).isSome])):VH M (Ad K c)=some [B (ID K c)]:=by
 rw[Zgw,hS]
 unfold ID sgK
 cases e:Fo K c with
 |none=>rfl
 |some g=>
  obtain⟨q1,q2,-⟩:=h.segs g (Qq8 e)
  refine eB rfl (eT rfl (eT (inM (f:=Ag) q1 q2) ?_))
  show cond (gA (nth [] (K.items.map Ag) g.item.toNat) 0==6) (some [B (c.y0==g.item)]) (some [B false])=some [B (true&&((itK K g.item).kind==6&&c.y0==g.item))]
  rw[IL q1 q2]
  show cond ((itK K g.item).kind==6) (some [B (c.y0==g.item)]) (some [B false])=_
  cases((itK K g.item).kind==6)<;>rfl
theorem Znw {K:Kf} (h:KOK K) (c:Cv):KA (Ad K c)=some [B (ID K c)]:=Zgp h (Qpo h c)
def spV (c:Cv) (ramp:Int):Int:=if c.s1<c.s2 then mn (IntKind.i64.wrap (c.s1+ramp)) c.s2 else mx (IntKind.i64.wrap (c.s1-ramp)) c.s2
def spS (c:Cv) (ramp:Int):Cv:={c with s1:=spV c ramp,s3:=IntKind.i64.wrap (c.s3+IntKind.i64.wrap (c.s0*spV c ramp))}
theorem Zux (c:Cv) (ramp:Int):Ln [I c.s0,I c.s1,I c.s2,I c.s3,I ramp]=some [I (spS c ramp).s0,I (spS c ramp).s1,I (spS c ramp).s2,I (spS c ramp).s3]:=by
 show Qkn _=_
 rw[Zb8]
 show _=some [I c.s0,I (spV c ramp),I c.s2,I (IntKind.i64.wrap (c.s3+IntKind.i64.wrap (c.s0*spV c ramp)))]
 unfold spV
 by_cases h:c.s1<c.s2
 ·rw[Bz (decide_eq_true h),if_pos h]
 ·rw[Bl (decide_eq_false h),if_neg h]
def F8 (c:Cv):Bool:=c.m1==0&&(c.m2==0&&(c.m3==c.m0&&c.m4==c.m0))
theorem Znh (c:Cv):HO [I c.m0,I c.m1,I c.m2,I c.m3,I c.m4,I c.m5]=some [B (F8 c)]:=by
 show W8 _=_
 rw[Zvg]
 unfold F8
 cases(c.m1==0)<;>cases(c.m2==0)<;>cases(c.m3==c.m0)<;>rfl
def P8 (b:Bool) (n:Int):Bool:=if n=0 then false else if n=1 then true else b
theorem Zpu (b:Bool) (n:Int):O3 [B b,I n]=some [B (P8 b n)]:=by
 show Qm2 _=_
 rw[Zi8]
 unfold P8
 by_cases h:n=0
 ·rw[if_pos h,Bz (by simpa using h)]
 ·rw[if_neg h,Bl (by simpa using h)]
  by_cases h:n=1
  ·rw[if_pos h,Bz (by simpa using h)]
  ·rw[if_neg h,Bl (by simpa using h)]
def HL (k n:Int):Bool:=k==9||(k==8&&(decide (0<=n)&&decide (n<=2)))
def evC (c:Cv) (k n:Int):Cv:={c with
 o0:=if k=1/\0<=n/\n<=200 then n else c.o0
 o1:=if k=2/\0<=n/\n<=100 then n else c.o1
 o2:=if k=3\/k=11 then true else if k=4 then false else c.o2
 o3:=if k=5 then P8 c.o3 n else c.o3
 o4:=if k=6 then P8 c.o4 n else c.o4
 g0:=if k=10 then 2 else if k=11 then 0 else if HL k n=true then(if c.g0=2 then 2 else 1)else c.g0
 g1:=if k=10 then 22 else if k=11 then 0 else if HL k n=true/\c.g0≠2/\c.g1=0 then(if k=9 then 21 else 20)else c.g1
 g2:=if k=10 then-1 else if k=11 then-1 else if HL k n=true/\c.g0≠2/\c.g1=0 then(if k=9 then-1 else n)else c.g2
 resumed:=if k=4 then true else c.resumed}
theorem Zfn {M:Fn} (hM:∀(b:Bool) (n:Int),M [B b,I n]=some [B (P8 b n)]) (c:Cv) (x k n:Int) (hk:k≠11):
  RF M [I c.o0,I c.o1,B c.o2,B c.o3,B c.o4,I x,I k,I n]=some [I (evC c k n).o0,I (evC c k n).o1,B (evC c k n).o2,B (evC c k n).o3,B (evC c k n).o4]:=by
 rw[Qo4]
 unfold evC
 simp only[hM]
 by_cases h1:k=1
 ·subst h1
  by_cases a:0<=n<;>by_cases b:n<=200<;>simp[a,b]
 ·by_cases h2:k=2
  ·subst h2
   by_cases a:0<=n<;>by_cases b:n<=100<;>simp[a,b]
  ·by_cases h3:k=3
   ·subst h3;simp
   ·by_cases h4:k=4
    ·subst h4;simp
    ·by_cases h5:k=5
     ·subst h5;simp[gA,bA,nth,B6]
     ·by_cases h6:k=6
      ·subst h6;simp[gA,bA,nth,B6]
      ·simp only[beF h1,beF h2,beF h3,beF h4,beF h5,beF h6,cond_false]
       simp[h1,h2,h3,h4,h5,h6,hk]
theorem Q9m {M:Fn} (c:Cv) (x n:Int):
  RF M [I c.o0,I c.o1,B c.o2,B c.o3,B c.o4,I x,I 11,I n]=some [I c.o0,I c.o1,B c.o2,B c.o3,B c.o4]:=by
 rw[Qo4];rfl
theorem Zi0 (a b d e f:Int):O7 [I a,I b,I d,I e,I f]=some (if a=2 then [I a,I b,I d]else if b=0 then [I 1,I e,I f]else [I 1,I b,I d]):=by
 show VJ _=_
 rw[Q9a]
 by_cases h:a=2
 ·rw[if_pos h,Bz (by simpa using h)]
 ·rw[if_neg h,Bl (by simpa using h)]
  by_cases h:b=0
  ·rw[if_pos h,Bz (by simpa using h)]
  ·rw[if_neg h,Bl (by simpa using h)]
theorem Zjd {MS MT:Fn} (hS:MS []=some [I 0,I 0,I (-1)]) (hT:∀a b d e f:Int,MT [I a,I b,I d,I e,I f]=some (if a=2 then [I a,I b,I d]else if b=0 then [I 1,I e,I f]else [I 1,I b,I d])) (c:Cv) (x k n:Int):
  Yu MS MT [I c.g0,I c.g1,I c.g2,I x,I k,I n]=some [I (evC c k n).g0,I (evC c k n).g1,I (evC c k n).g2]:=by
 rw[Zhz]
 unfold evC
 simp only[hT,hS]
 by_cases h1:k=10
 ·subst h1;rfl
 ·by_cases h2:k=9
  ·subst h2
   by_cases a:c.g0=2<;>by_cases b:c.g1=0<;>simp[HL,a,b,gA,jA,nth,Af]
  ·by_cases h3:k=8
   ·subst h3
    by_cases u:0<=n<;>by_cases v:n<=2<;>by_cases a:c.g0=2<;>by_cases b:c.g1=0<;>simp[HL,a,b,u,v,gA,jA,nth,Af]
   ·by_cases h4:k=11
    ·subst h4;rfl
    ·simp only[beF h1,beF h2,beF h3,beF h4,cond_false]
     simp[HL,h1,h2,h3,h4]
theorem Zol {MR MT ML MG' MO:Fn} {K:Kf} (c:Cv) (x:Int) {k:Int} (n:Int) (hk:k≠7/\k≠12/\k≠13)
  (hO:k≠11->MO [I c.o0,I c.o1,B c.o2,B c.o3,B c.o4,I x,I k,I n]=some [I (evC c k n).o0,I (evC c k n).o1,B (evC c k n).o2,B (evC c k n).o3,B (evC c k n).o4])
  (hO2:k=11->MO [I c.o0,I c.o1,B c.o2,B c.o3,B c.o4,I x,I k,I n]=some [I c.o0,I c.o1,B c.o2,B c.o3,B c.o4])
  (hG:MG' [I c.g0,I c.g1,I c.g2,I x,I k,I n]=some [I (evC c k n).g0,I (evC c k n).g1,I (evC c k n).g2]):
  Zz MR MT ML MG' MO (I x::I k::I n::Ad K c)=some (Ad K (evC c k n)):=by
 rw[Zke]
 by_cases h:k=11
 ·rw[hO2 h,hG]
  subst h
  rfl
 ·rw[hO h,hG]
  simp only[Option.bind_some]
  rw[Bl (by simpa using hk.2.2),Bl (by simpa using h),Bl (by simpa using hk.2.1),Bl (by simpa using hk.1)]
  by_cases h4:k=4
  ·subst h4;rfl
  ·rw[Bl (by simpa using h4)]
   have e:(evC c k n).resumed=c.resumed:=by unfold evC;simp[h4]
   rw[<-e]
   rfl
theorem Zwl {K:Kf} (c:Cv) (x:Int) {k:Int} (n:Int) (hk:k≠7/\k≠12/\k≠13):Lt (I x::I k::I n::Ad K c)=some (Ad K (evC c k n)):=
 Zol c x n hk (fun h=>Zfn Zpu c x k n h) (fun h=>by subst h;exact Q9m c x n) (Zjd (by show Q0 []=_;rw[Q2a]) Zi0 c x k n)
end Go.Bm
/- what the controller does in a cycle: its methods -/
set_option maxRecDepth 100000
noncomputable section
namespace Go.Bm

def one (M:Fn) (l:List AC):Int:=gA ((M l).getD []) 0
theorem Qg9 {M:Fn} {l:List AC} {v:Int} (h:M l=some [I v]):M l=some [I (one M l)]:=by
 unfold one;rw[h];rfl
def G7 (k:Int) (c:Cv):Bool:=k==1||(k==3||(k==6||(k==4&&(c.o4||c.o3)||k==2&&c.o3)))
theorem Q4s (at_ k it:Int) (c:Cv):HB [I at_,I k,I it,I c.o0,I c.o1,B c.o2,B c.o3,B c.o4]=some [B (G7 k c)]:=by
 show Vw _=_
 rw[Zd5]
 unfold G7
 by_cases h1:k=1
 ·subst h1;rfl
 by_cases h2:k=3
 ·subst h2;rfl
 by_cases h3:k=6
 ·subst h3;rfl
 by_cases h4:k=4
 ·subst h4;cases c.o4<;>cases c.o3<;>rfl
 by_cases h5:k=2
 ·subst h5;cases c.o3<;>rfl
 simp[beF h1,beF h2,beF h3,beF h4,beF h5]
def F5 (c:Cv) (known frm:Int):List Mrk->Nat->Int×Int
 |[],_=>(known,-1)
 |m::l,i=>if G7 m.kind c=true/\frm<=m.at_/\m.at_<=known then(m.at_,i)else F5 c known frm l (i+1)
def BI (K:Kf) (c:Cv) (known frm:Int):Int×Int:=F5 c known frm (K.p.marks.drop (max c.next 0).toNat) (max c.next 0).toNat
theorem Za6 {M:Fn} {K:Kf} (hl:K.p.marks.length<=1000000) (c:Cv) (hM:∀at_ k it:Int,M [I at_,I k,I it,I c.o0,I c.o1,B c.o2,B c.o3,B c.o4]=some [B (G7 k c)]) (known frm:Int):
  Qfc M (An (QC M)) [.view kPt (K.p.marks.map As),I c.next,I c.o0,I c.o1,B c.o2,B c.o3,B c.o4,I known,I frm]=some [I (BI K c known frm).1,I (BI K c known frm).2]:=by
 rw[Zgs]
 have hmx:mx c.next 0=max c.next 0:=by unfold mx;split<;>omega
 have key:Out (fun o=>(if o.1=1 then o.2=[I (BI K c known frm).1,I (BI K c known frm).2]else o.1=2/\o.2=[I (BI K c known frm).1]/\(BI K c known frm).2= -1)) (An (QC M) [.view kPt (K.p.marks.map As),I known,I frm,I (max c.next 0),I c.o0,I c.o1,B c.o2,B c.o3,B c.o4]):=by
  refine CI (fun s:Int=>[.view kPt (K.p.marks.map As),I known,I frm,I s,I c.o0,I c.o1,B c.o2,B c.o3,B c.o4]) (fun s=>0<=s/\BI K c known frm=F5 c known frm (K.p.marks.drop s.toNat) s.toNat) (fun s=>(K.p.marks.length-s).toNat) _ ?_ (max c.next 0) ⟨by omega,rfl⟩
  rintro i ⟨g,hw⟩
  rw[Q9c]
  refine .cond (fun k=> ?_) fun k=> ?_
  ·have k:i<((K.p.marks.map As).length:Int):=BA k
   rw[List.length_map]at k
   have hi:i.toNat<K.p.marks.length:=by omega
   rw[Ae (x:=i+1) (by have:=hl;omega)]
   have em:mkK K i=K.p.marks[i.toNat]:=by unfold mkK;rw[List.getD,List.getElem?_eq_getElem hi];rfl
   rw[List.drop_eq_getElem_cons hi,<-em]at hw
   unfold F5 at hw
   refine .cond (fun _=> ?_) fun e=>(inB g (by rw[List.length_map];exact k) e).elim
   rw[LR g k]
   refine .bind (p:=fun o=>o=_) ⟨_,hM _ _ _,rfl⟩ fun o e=> ?_
   subst e
   have next:BI K c known frm=F5 c known frm (K.p.marks.drop (i.toNat+1)) (i.toNat+1)->Out (fun o:Nat×List AC=>(o.1=0/\∃s':Int,o.2=[.view kPt (K.p.marks.map As),I known,I frm,I s',I c.o0,I c.o1,B c.o2,B c.o3,B c.o4]/\(0<=s'/\BI K c known frm=F5 c known frm (K.p.marks.drop s'.toNat) s'.toNat)/\(K.p.marks.length-s').toNat<(K.p.marks.length-i).toNat)\/(o.1≠0/\(if o.1=1 then o.2=[I (BI K c known frm).1,I (BI K c known frm).2]else o.1=2/\o.2=[I (BI K c known frm).1]/\(BI K c known frm).2= -1))) (some (0,[.view kPt (K.p.marks.map As),I known,I frm,I (i+1),I c.o0,I c.o1,B c.o2,B c.o3,B c.o4])):=fun e=>
    .some (.inl ⟨rfl,i+1,rfl,⟨by omega,by rw[e,show(i+1).toNat=i.toNat+1 by omega]⟩,by omega⟩)
   refine .cond (fun a=> .cond (fun b=> .cond (fun d=> ?_) fun d=> ?_) fun b=> ?_) fun a=> ?_
   ·have a:G7 (mkK K i).kind c=true:=a
    have b:frm<=(mkK K i).at_:=BA b
    have d:(mkK K i).at_<=known:=BA d
    rw[if_pos ⟨a,b,d⟩]at hw
    refine .some (.inr ⟨by simp,?_⟩)
    rw[if_pos rfl,hw]
    show [I (mkK K i).at_,I i]=[I (mkK K i).at_,I (i.toNat:Int)]
    rw[Int.toNat_of_nonneg g]
   ·have d: ¬(mkK K i).at_<=known:=BD d
    rw[if_neg (fun h=>d h.2.2)]at hw
    exact next hw
   ·have b: ¬frm<=(mkK K i).at_:=BD b
    rw[if_neg (fun h=>b h.2.1)]at hw
    exact next hw
   ·have a:G7 (mkK K i).kind c=false:=a
    rw[if_neg (fun h=>by rw[a]at h;cases h.1)]at hw
    exact next hw
  ·have k: ¬i<((K.p.marks.map As).length:Int):=BD k
   rw[List.length_map]at k
   rw[List.drop_of_length_le (by omega)]at hw
   refine .some (.inr ⟨by simp,?_⟩)
   rw[if_neg (by simp),hw]
   exact⟨rfl,rfl,rfl⟩
 obtain⟨⟨o1,o2⟩,h1,h2⟩:=key
 rw[hmx]
 refine eB h1 ?_
 by_cases e:o1=1
 ·subst e
  have h2:o2=_:=h2
  subst h2
  rfl
 ·rw[if_neg e]at h2
  obtain⟨q1,q2,q3⟩:=h2
  dsimp only at q1 q2
  subst q1 q2
  rw[q3]
  rfl
theorem Zn7 {K:Kf} (h:KOK K) (c:Cv) (known frm:Int):Qc [.view kPt (K.p.marks.map As),I c.next,I c.o0,I c.o1,B c.o2,B c.o3,B c.o4,I known,I frm]=some [I (BI K c known frm).1,I (BI K c known frm).2]:=
 Za6 h.count c (fun at_ k it=>Q4s at_ k it c) known frm
theorem Qrc {c:Cv} {known frm:Int} (hk:i64 known):∀{l:List Mrk} {i:Nat},(∀m∈l,i64 m.at_)->i64 (F5 c known frm l i).1
 |[],_,_=>hk
 |m::l,i,h=>by
  unfold F5
  split
  ·exact h m (by simp)
  ·exact Qrc hk fun q hq=>h q (by simp[hq])
theorem Qt2 {c:Cv} {known frm:Int}:∀{l:List Mrk} {i:Nat},(F5 c known frm l i).2= -1\/((i:Int)<=(F5 c known frm l i).2/\(F5 c known frm l i).2<(i+l.length:Nat))
 |[],_=> .inl rfl
 |m::l,i=>by
  unfold F5
  split
  ·exact .inr ⟨Int.le_refl _,by simp only[List.length_cons];omega⟩
  ·rcases Qt2 (l:=l) (i:=i+1) (c:=c) (known:=known) (frm:=frm)with h|⟨h1,h2⟩
   ·exact .inl h
   ·exact .inr ⟨by omega,by simp only[List.length_cons];omega⟩
theorem Znt {K:Kf} {c:Cv} {known frm:Int}:(BI K c known frm).2= -1\/(0<=(BI K c known frm).2/\c.next<=(BI K c known frm).2/\(BI K c known frm).2<K.p.marks.length):=by
 unfold BI
 rcases Qt2 (c:=c) (known:=known) (frm:=frm) (l:=K.p.marks.drop (max c.next 0).toNat) (i:=(max c.next 0).toNat)with h|⟨h1,h2⟩
 ·exact .inl h
 ·rw[List.length_drop]at h2
  exact .inr ⟨by omega,by omega,by omega⟩
def SQ (K:Kf) (c:Cv):Int:=one FJ [I K.pa,I K.pb,I K.pc,I c.m0,I c.m1,I c.m2,I c.m3,I c.m4,I c.m5]
def E6 (K:Kf):Int:=if K.closed=true then K.len else K.set
def FL (r:Int):Int:=IntKind.i64.wrap ((IntKind.i64.wrap (IntKind.i64.wrap (r+256)-1)).tdiv 256)
def J8 (K:Kf) (r:Int):Int:=if IC K.t (Bn K.t (FL r))≠FL r then IntKind.i64.wrap (Bn K.t (FL r)+1)else Bn K.t (FL r)
def Bi (K:Kf) (c:Cv):Int×Int:=(IC K.t (BI K c (E6 K) (J8 K (SQ K c))).1,(BI K c (E6 K) (J8 K (SQ K c))).2)
theorem Q4i (K:Kf) (c:Cv):(Bi K c).2= -1\/(0<=(Bi K c).2/\c.next<=(Bi K c).2/\(Bi K c).2<K.p.marks.length):=Znt
theorem Zhh {K:Kf} (h:KOK K):i64 (E6 K):=by unfold E6;split;exact h.len;exact h.set
theorem Qw0 {K:Kf} (h:KOK K) {c:Cv} {frm:Int}:i64 (BI K c (E6 K) frm).1:=by
 unfold BI
 exact Qrc (Zhh h) fun m hm=>(h.marks m (List.mem_of_mem_drop hm)).2.2
theorem Zui {MN MW MP MR:Fn} {K:Kf} {c:Cv} {r:Int} {b:Bool} (h:KOK K)
  (hR:MR [I K.pa,I K.pb,I K.pc,I c.m0,I c.m1,I c.m2,I c.m3,I c.m4,I c.m5]=some [I r,B b])
  (hP:∀u,MP (Bh K.t++[I u])=some [I (Bn K.t u)]) (hW:∀{z:Int},i64 z->MW (Bh K.t++[I z])=some [I (IC K.t z)])
  (hN:∀known frm,MN [.view kPt (K.p.marks.map As),I c.next,I c.o0,I c.o1,B c.o2,B c.o3,B c.o4,I known,I frm]=some [I (BI K c known frm).1,I (BI K c known frm).2]):
  TO MN MW MP MR (Ad K c)=some (I (IC K.t (BI K c (E6 K) (J8 K r)).1)::I (BI K c (E6 K) (J8 K r)).2::Ad K c):=by
 have key:∀known:Int,known=E6 K->Sy MR K c MP MW MN (I known)=some (I (IC K.t (BI K c (E6 K) (J8 K r)).1)::I (BI K c (E6 K) (J8 K r)).2::Ad K c):=fun known hk=>by
  subst hk
  refine eB hR (eB (hP (FL r)) (eB (hW (Qes h.f _)) ?_))
  have e1:J8 K r=if IC K.t (Bn K.t (FL r))≠FL r then IntKind.i64.wrap (Bn K.t (FL r)+1)else Bn K.t (FL r):=rfl
  by_cases c1:IC K.t (Bn K.t (FL r))=FL r
  ·rw[if_neg (by simpa using c1)]at e1
   refine eF (bnF c1) ?_
   exact eB (hN (E6 K) (Bn K.t (FL r))) (by rw[<-e1];exact eB (hW (Qw0 h)) rfl)
  ·rw[if_pos c1]at e1
   refine eT (bnT c1) ?_
   exact eB (hN (E6 K) (IntKind.i64.wrap (Bn K.t (FL r)+1))) (by rw[<-e1];exact eB (hW (Qw0 h)) rfl)
 rw[Znv]
 refine eC (fun e=>key _ ?_) fun e=>key _ ?_
 ·unfold E6;rw[if_pos e]
 ·unfold E6;rw[if_neg (by rw[e];simp)]
end Go.Bm
