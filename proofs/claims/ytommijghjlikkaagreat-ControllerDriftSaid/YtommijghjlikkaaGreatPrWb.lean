/- laid together -/
import Derived.Test.YtommijghjlikkaaGreatPrPg
import Derived.Test.YtommijghjlikkaaGreatPrTk
import Derived.Test.YtommijghjlikkaaGreatPrLc
import Derived.Test.YtommijghjlikkaaGreatMx3
import Derived.Test.YtommijghjlikkaaGreatMy1
set_option linter.unusedVariables false
set_option linter.unusedSimpArgs false
set_option maxRecDepth 100000
open Go.IntKind (wrap)
namespace Go.Bm
open Classical
theorem Zsy {it:Itm} {speed:Int} (hf:it.kind=1\/1<=it.feed/\it.feed<=60000000) (hs:0<=speed/\speed<=30000):KP (Ah it++[I speed])=some [I (HV it speed)]:=by
 by_cases h1:it.kind=1
 ·unfold KP HV;generalize Bz=M;have h:=Q7g (AH:=M) it.kind it.block it.fr.x it.fr.y it.fr.z it.to.x it.to.y it.to.z it.aG it.ce.x it.ce.y it.ce.z it.dir it.full it.feed it.perRev it.side it.radius it.blend it.n it.speed it.on speed;rw[aa h1];refine Eq.trans h ?_;rw[BH (by simp[h1])]
 ·exact Zr2 (by omega) hs
theorem Zeb {aF:List Sgm} {aD:Rw} {q g st at_:Pt} {gl item feed lead len sp mid:Int} (hat:Ft st aF=at_) (h1:bd 67108864 at_) (h2:bd 67108864 q) (hs:aF.length+1<=1048577) (hlen:0<=len/\len<=4000000000000000000):
  Od [.view Ag (aF.map Au), .view AE aD,I q.x,I q.y,I q.z,I g.x,I g.y,I g.z,I gl,I item,I feed,I lead,I st.x,I st.y,I st.z,B true,I len,I sp,I mid]=
   some [.view Ag ((Bi item feed lead (aF,len,at_) q).1.map Au), .view AE aD,I st.x,I st.y,I st.z,B true,I (Bi item feed lead (aF,len,at_) q).2.1,I sp,I mid]:=
 Zr6 hat (Qgj h1 h2) (IH h1 h2) hs hlen
theorem Z1a {aA:List Itm} (hlen:aA.length<=15) (hright:∀j<aA.length,¬Ch (itA aA j)) {i:Nat} (hi:i<aA.length):
  Qw Jc Kj Ff GU DQ I2 Rk (pbR aA i)=some (0,pbR aA (i+1)):=by
 have hb:=M_ hright i (by omega);have hin:=Ub hright i (by omega);have hall:∀k<aA.length,AF (itA aA k)->drawn (itA aA k):=λk hk hm=>(L7 (hright k hk) hm).1;have hrm:=L7 (hright i hi);refine Zce hi hlen hb.aD Ro (λL hL=>Q3v (by omega) hL) (λL hL=>Qp8 (by omega) hL) (λhm=> ?_) (Z2o (by omega) hi (by have:=hb.aD;omega));have hd:=(hrm hm).1;exact Zyg hi hlen hd.1 hb hin (Qbg hd hb.frm hall) (λhs=>by have h2:=(hrm hm).2;rcases hs with h|h<;>omega) (Q6q aA i) (To _) (Tq hd.1.2.1 hd.1.2.2.1) (Q8s _) (Zsy (hrm hm).2 hb.speed)
  (Zt6 (by omega) hi hd hb.frm hall) (λh1 h2 h3 h4 h5=>Zeb h1 h2 h3 h4 h5) Ztl
theorem Q4z {aA:List Itm} (hlen:aA.length<=15) (hright:∀j<aA.length,¬Ch (itA aA j)):∀(k i:Nat),i+k=aA.length->
  An (Qw Jc Kj Ff GU DQ I2 Rk) (pbR aA i)=
   some (2,[.view Ag ((Bc aA).aF.map Au), .view AE ((Bc aA).aD.map At),I (Bc aA).start.x,I (Bc aA).start.y,I (Bc aA).start.z,B (Ay aA aA.length).begun,I (Ay aA aA.length).len,I (Ay aA aA.length).speed,I (CX aA aA.length)])
 |0,i,hi=>by
  obtain rfl:i=aA.length:=by omega
  refine A5 ?_ (by simp);unfold pbR Bc;rw[Qr8,A7 (by omega)]
 |k+1,i,hi=>by
  rw[Bn (Z1a hlen hright (by omega))];exact Q4z hlen hright k (i+1) (by omega)
def JS (aA:List Itm) (o:List AC):Prop:=
 if C2 aA=0 then o=[.view Ag ((Bc aA).aF.map Au), .view AE ((Bc aA).aD.map At),I 0,I (Bc aA).start.x,I (Bc aA).start.y,I (Bc aA).start.z,B (Ay aA aA.length).begun,I (Ay aA aA.length).len,I (Ay aA aA.length).speed,I (CX aA aA.length)]
 else o=[.view Ag [], .view AE [],I (C2 aA),I 0,I 0,I 0,B false,I 0,I 0,I 0]
theorem Zdq {MK MV MN MS MM MC:Fn} {N6 N18:Lp} {aA:List Itm} (hlen:aA.length<=15)
  (h6 : (N6 [.view Ag [], .view AE [], .view Aj (aA.map Ah), I (-1), .view Aj (aA.map Ah), I aA.length, I 0, I 0, I 0, I 0, B false, I 0, I 0, I 0] = some (1, [.view Ag [], .view AE [], I (C2 aA), I 0, I 0, I 0, B false, I 0, I 0, I 0]) /\ C2 aA ≠ 0) \/
   (N6 [.view Ag [], .view AE [], .view Aj (aA.map Ah),I (-1), .view Aj (aA.map Ah),I aA.length,I 0,I 0,I 0,I 0,B false,I 0,I 0,I 0]=some (2,[.view Ag [], .view AE [], .view Aj (aA.map Ah),I 0,I 0,I 0,B false,I 0,I 0,I 0])/\C2 aA=0))
  (h18 : C2 aA = 0 -> N18 [.view Ag [], .view AE [], .view Aj (aA.map Ah), I (-1), .view Aj (aA.map Ah), I aA.length, I 0, I 0, I 0, I 0, B false, I 0, I 0, I 0] =
   some (2,[.view Ag ((Bc aA).aF.map Au), .view AE ((Bc aA).aD.map At),I (Bc aA).start.x,I (Bc aA).start.y,I (Bc aA).start.z,B (Ay aA aA.length).begun,I (Ay aA aA.length).len,I (Ay aA aA.length).speed,I (CX aA aA.length)])):
  ∃o,Qeg MK MV MN MS MM MC N6 N18 [.view Aj (aA.map Ah)]=some o/\JS aA o:=by
 rw[Zmp];have hin: ¬((aA.length:Int)>20000):=by omega
 rcases h6 with⟨h,hc⟩|⟨h,hc⟩
 ·simp only[go_sem,ag,h,ab hin];exact⟨_,rfl,by unfold JS;rw[ab hc]⟩
 ·have g:=h18 hc;simp only[go_sem,ag,h,ab hin,g];rw[ab (by decide),ab (by decide)];exact⟨_,rfl,by unfold JS;rw[aa hc]⟩
theorem Q0y {aA:List Itm} (hlen:aA.length<=15):∃o,Jh [.view Aj (aA.map Ah)]=some o/\JS aA o:=by
 have hc:C2 aA=Hk aA aA.length 0 (-1):=by unfold C2;rw[ab (by omega)]
 refine Zdq hlen ?_ λhe=>Q4z hlen (Pp he).2 aA.length 0 (by omega);rw[hc];exact Qkt Ro Z6v (by omega) aA.length 0 (-1) (by omega) (.inl rfl)
theorem Z0q {MB:Fn} {aA:List Itm} (h:∃o,MB [.view Aj (aA.map Ah)]=some o/\JS aA o):
  ZP MB [.view Aj (aA.map Ah)]=if C2 aA=0 then some (Bj (Bc aA)++[I 0])else some [I 0,I 0,I 0, .view Ag [], .view AE [],I (C2 aA)]:=by
 obtain⟨o,h1,h2⟩:=h;rw[Zbd,h1];unfold JS at h2;by_cases c:C2 aA=0
 ·rw[aa c]at h2⊢;subst h2;simp only[go_sem];rw[ab (by simp)];try rfl
 ·rw[ab c]at h2⊢;subst h2;simp only[go_sem];rw[aa c]
theorem Z59 {aA:List Itm} (hlen:aA.length<=15):Oh [.view Aj (aA.map Ah)]=if C2 aA=0 then some (Bj (Bc aA)++[I 0])else some [I 0,I 0,I 0, .view Ag [], .view AE [],I (C2 aA)]:=
 Z0q (Q0y hlen)
def JN (aA:List Itm):Nat->Option Nat
 |0=>none
 |i+1=>if(itA aA i).kind=10 then JN aA i else some i
noncomputable def Js (aA:List Itm):Int:=
 match JN aA aA.length with
 |some i=>if smI (itA aA i)/\(itA aA i).blend≠0 then AJ (Bc aA).aF-AD (Bh (itA aA i)) (Az (itA aA i).to)else AJ (Bc aA).aF
 |none=>AJ (Bc aA).aF
theorem V6 {aA:List Itm} {i:Nat}:∀{n:Nat},JN aA n=some i->i<n/\(itA aA i).kind≠10/\∀j,i<j->j<n->(itA aA j).kind=10
 |0,h=>by cases h
 |n+1,h=>by
  unfold JN at h;split at h
  ·rename_i c;obtain⟨h1,h2,h3⟩:=V6 h;refine⟨by omega,h2,λj g1 g2=> ?_⟩;by_cases e:j=n
   ·rw[e];exact c
   ·exact h3 j g1 (by omega)
  ·rename_i c;cases h
   exact⟨by omega,c,λj g1 g2=>by omega⟩
theorem Zgt {aA:List Itm} {i:Nat} (h:(itA aA i).kind=10):(Ay aA (i+1)).len=(Ay aA i).len/\CX aA (i+1)=CX aA i:=by
 have hm: ¬AF (itA aA i):=λg=>by have:=g.2;omega
 constructor
 ·rw[Ay];unfold FV;rw[ab hm]
 ·rw[CX,ab hm]
theorem Q0m {aA:List Itm} {i:Nat}:∀(k:Nat),(∀j,i<=j->j<i+k->(itA aA j).kind=10)->(Ay aA (i+k)).len=(Ay aA i).len/\CX aA (i+k)=CX aA i
 |0,_=>⟨rfl,rfl⟩
 |k+1,h=>by
  obtain⟨h1,h2⟩:=Q0m k λj g1 g2=>h j g1 (by omega);obtain⟨h3,h4⟩:=Zgt (h (i+k) (by omega) (by omega));exact⟨h3.trans h1,h4.trans h2⟩
theorem Z18 {aA:List Itm} (hright:∀j<aA.length,¬Ch (itA aA j)):AJ (Bc aA).aF=(Ay aA aA.length).len:=by
 have h:=Ub hright aA.length (co _);unfold Bc;by_cases hb:(Ay aA aA.length).begun=true
 ·exact(h.begun hb).2.2.2
 ·obtain⟨g1,g2,-⟩:=h.empty (by simpa using hb);simp only[g1,g2];rfl
theorem Zkm {it:Itm} (h:it.fr≠it.to):Az it.to≠Bh it:=by
 intro g;unfold Az Bh at g;injection g with g1 g2 g3;exact h (Dt.2 ⟨by omega,by omega,by omega⟩)
theorem Zjk (it:Itm) (h:smI it) (item feed lead:Int) (s:(List Sgm×Int×Pt)×Int):
  (DW it item feed lead (DW it item feed lead s (Bh it)) (Az it.to)).2=(DW it item feed lead (DW it item feed lead s (Bh it)) (Az it.to)).1.2.1-AD (Bh it) (Az it.to):=by
 have hne:=Zkm h.2;have h1:(DW it item feed lead s (Bh it)).2=(Bi item feed lead s.1 (Bh it)).2.1:=aa ⟨h,rfl⟩;have h2:(Bi item feed lead s.1 (Bh it)).2.2=Bh it:=by
  unfold Bi;split
  ·rename_i c;exact c.symm
  ·rfl
 have h3:(DW it item feed lead s (Bh it)).1=Bi item feed lead s.1 (Bh it):=rfl;generalize DW it item feed lead s (Bh it)=t at*;have h4:(DW it item feed lead t (Az it.to)).2=t.2:=ab λg=>hne g.2;have h5:(DW it item feed lead t (Az it.to)).1=Bi item feed lead t.1 (Az it.to):=rfl;rw[h4,h5,h1,h3];rw[<-h2]at hne⊢;rw[h2];generalize Bi item feed lead s.1 (Bh it)=u at*;have h6:Bi item feed lead u (Az it.to)=(u.1++[⟨Az it.to,AD u.2.2 (Az it.to),item,feed,lead⟩],u.2.1+AD u.2.2 (Az it.to),Az it.to):=ab hne;rw[h6,h2];simp only;omega
theorem Zi3 {aA:List Itm} {i:Nat} (hn:JN aA aA.length=some i) (hs:smI (itA aA i)):CX aA aA.length=(Ay aA aA.length).len-AD (Bh (itA aA i)) (Az (itA aA i).to):=by
 obtain⟨h1,-,h3⟩:=V6 hn;obtain⟨k,hk⟩:∃k,aA.length=i+1+k:=⟨aA.length-(i+1),by omega⟩;have hm:AF (itA aA i):=⟨by have:=hs.1;omega,by have:=hs.1;omega⟩;obtain⟨g1,g2⟩:=Q0m (aA:=aA) (i:=i+1) k λj e1 e2=>h3 j (by omega) (by omega);have hsoft: ¬0<=Cf aA i:=by
  intro c;have hx:=Tb c;rcases Yq aA i with h|⟨-,-,m,m1,m2,m3,m4,m5⟩
  ·omega
  ·have:=h3 m m2 m3;have:=m4.1;omega
 rw[hk,g1,g2];have e1:CX aA (i+1)=(Fl aA i (Ay aA i) (CX aA i)).2:=aa hm;have e2:(Ay aA (i+1)).len=(Fl aA i (Ay aA i) (CX aA i)).1.2.1:=by
  rw[Qv4,Ay];unfold FV;rw[aa hm]
 rw[e1,e2];unfold Fl;have e3:CD aA i (Ay aA i).frm=Jt aA i (Ay aA i).frm++[Bh (itA aA i)]++[Az (itA aA i).to]:=by
  unfold CD;rw[aa hs];unfold Lt;rw[ab hsoft];unfold Cu;rw[ab (by have:=hs.1;omega)];rfl
 rw[e3,List.foldl_append,List.foldl_append,List.foldl_cons,List.foldl_nil,List.foldl_cons,List.foldl_nil];exact Zjk _ hs _ _ _ _
theorem Q5s {MS MB:Fn} {aA:List Itm} {aF aD:Rw} {st:Pt} {b:Bool} {len sp mid:Int} (hl:aA.length<=1000) (hS:∀it,MS (Ah it)=some [B (decide (smI it))]):
  ∀n:Nat,n<=aA.length->∃o:Nat×List AC,An (NQ MS MB) [.view Ag aF, .view AE aD, .view Aj (aA.map Ah),I ((n:Int)-1),I st.x,I st.y,I st.z,B b,I len,I sp,I mid]=some o/\
   match JN aA n with
   |some i=>o=(1,[I (if smI (itA aA i)/\(itA aA i).blend≠0 then mid else len)])
   |none=>o=(2,[.view Ag aF, .view AE aD,I st.x,I st.y,I st.z,B b,I len,I sp,I mid])
 |0,_=>by
  refine⟨_,A5 (o:=(2,_)) ?_ (by simp),rfl⟩;rw[Q2r,A7 (by omega)]
 |n+1,hn=>by
  have hlt:n<aA.length:=by omega
  have hr:=Fu hlt;have hs:=hS (itA aA n);simp only[Ah]at hs;have hin:(0:Int)<=(n:Int)/\(n:Int)<(aA.length:Int):=by omega
  have e:((n+1:Nat):Int)-1=n:=by omega
  have hst:NQ MS MB [.view Ag aF, .view AE aD, .view Aj (aA.map Ah),I n,I st.x,I st.y,I st.z,B b,I len,I sp,I mid]=
    if(itA aA n).kind=10 then some (0,[.view Ag aF, .view AE aD, .view Aj (aA.map Ah),I ((n:Int)-1),I st.x,I st.y,I st.z,B b,I len,I sp,I mid])
    else some (1,[I (if smI (itA aA n)/\(itA aA n).blend≠0 then mid else len)]):=by
   rw[Q2r];simp only[go_sem,ag,ak,hr,hs,aa hin];rw[aa (by omega),Ae (by omega)];by_cases c1:(itA aA n).kind=10
   ·rw[aa c1,aa c1]
   ·rw[ab c1,ab c1];by_cases c2:smI (itA aA n)
    ·rw[aa c2];by_cases c3:(itA aA n).blend≠0
     ·rw[aa c3,aa ⟨c2,c3⟩]
     ·rw[ab c3,ab (λg=>c3 g.2)]
    ·rw[ab c2,ab (λg=>c2 g.1)]
  rw[e];unfold JN;by_cases c1:(itA aA n).kind=10
  ·rw[aa c1]at hst⊢;rw[Bn hst];exact Q5s hl hS n (by omega)
  ·rw[ab c1]at hst⊢;exact⟨_,A5 hst (by simp),rfl⟩
theorem Zqe {MS MB:Fn} {aA:List Itm} (hl:aA.length<=15) (hS:∀it,MS (Ah it)=some [B (decide (smI it))]) (h:∃o,MB [.view Aj (aA.map Ah)]=some o/\JS aA o):
  Qi9 MS MB (An (NQ MS MB)) [.view Aj (aA.map Ah)]=some [I (if C2 aA=0 then Js aA else 0)]:=by
 obtain⟨o,h1,h2⟩:=h;unfold JS at h2;by_cases c:C2 aA=0
 ·rw[aa c]at h2⊢;have hright:=(Pp c).2;have hsum:=Z18 hright;have hmid:=λi hn hs=>Zi3 (aA:=aA) (i:=i) hn hs;have hlp:= @Q5s MS MB aA ((Bc aA).aF.map Au) ((Bc aA).aD.map At) (Bc aA).start (Ay aA aA.length).begun (Ay aA aA.length).len (Ay aA aA.length).speed (CX aA aA.length) (by omega) hS aA.length (by omega);obtain⟨r,r1,r2⟩:=hlp;rw[Qro,h1];subst h2;have hw:wrap .i64 ((aA.length:Int)-1)=(aA.length:Int)-1:=Ae (by omega);unfold Js;rw[hsum];generalize An (NQ MS MB)=N at*;simp only[go_sem,ag,hw,r1];rw[ab (by simp)];cases hn:JN aA aA.length with
  |none=>
   rw[hn]at r2;simp only at r2;subst r2;rfl
  |some i=>
   rw[hn]at r2;simp only at r2;subst r2;simp only[go_sem];by_cases c2:smI (itA aA i)/\(itA aA i).blend≠0
   ·rw[aa c2,aa c2,hmid i hn c2.1]
   ·rw[ab c2,ab c2]
 ·rw[ab c]at h2⊢;subst h2;rw[Qro,h1];simp only[go_sem];rw[aa c]
theorem Zh0 {aA:List Itm} (hl:aA.length<=15):Nb [.view Aj (aA.map Ah)]=some [I (if C2 aA=0 then Js aA else 0)]:=Zqe hl To (Q0y hl)
def okU (s:Spk):Prop:=s.u.natAbs<=1000000/\s.w.natAbs<=1000000/\(0<=s.r/\s.r<=1000000)/\s.h.natAbs<=200000
theorem okU.s {s:Spk} (h:okU s):okS s:=⟨by have:=h.1;omega,by have:=h.2.1;omega,⟨h.2.2.1.1,by have:=h.2.2.1.2;omega⟩,by have:=h.2.2.2;omega⟩
theorem Zlj {a b:Spk} (ha:okU a) (hb:okU b) {u w:Int} (hu:u.natAbs<=100000000) (hw:w.natAbs<=100000000):okU (H0 a b u w):=by
 unfold H0;split
 ·exact⟨by simp,by simp,by simp,by simp⟩
 ·rename_i h;have ha3:=ha.2.2;have hb3:=hb.2.2
  have hr:0<=hf a.r b.r/\hf a.r b.r<=1000000:=by unfold hf;omega
  have hh:(hf a.h b.h).natAbs<=200000:=by unfold hf;omega
  obtain⟨⟨-,n1⟩,-,n2⟩:=Q2i hu hw (r:=hf a.r b.r) (by omega) h;exact⟨by simp only;omega,by simp only;omega,hr,hh⟩
theorem Zwr {a b:Spk} (ha:okU a) (hb:okU b) {dir:Int} (hd:dir=1\/dir= -1) (full:Bool):okU (EN a b dir full):=
 Zlj ha hb (Nj ha.s hb.s hd full).1 (Nj ha.s hb.s hd full).2
theorem X4 {dir:Int} (hd:dir=1\/dir= -1):∀(k:Nat) (full:Bool) {a b:Spk},okU a->okU b->∀s∈DM dir k full a b,okU s
 |0,_,a,b,_,hb,s,hs=>by simp[DM]at hs;subst hs;exact hb
 |k+1,full,a,b,ha,hb,s,hs=>by
  unfold DM at hs;have hm:=Zwr ha hb hd full;split at hs
  ·simp at hs;subst hs;exact hb
  ·rcases bj.1 hs with hs|hs
   ·exact X4 hd k false ha hm s hs
   ·exact X4 hd k false hm hb s hs
theorem Zpe {n:Nat} (hn:n<=300000000000):0<=FU n/\FU n<=1000000:=by
 obtain⟨r,-,h2,h3,-⟩:=Ta (n:=n) (by omega);have hm:=Sd h2 h3;rw[RY hm];have:r<1000000:=by
  by_cases c:r<1000000
  ·exact c
  ·have:=dl (show 1000000<=r by omega) (show 1000000<=r by omega);omega
 split<;>omega
theorem ZD {pl:Int} {p:Pt} {b:Nat} (h:bd b p):(plU pl p).natAbs<=b/\(plW pl p).natAbs<=b/\(plH pl p).natAbs<=b:=HK h
theorem Zc {it:Itm} {p:Pt} (hc:bd 4200 it.ce) (hp:bd 4200 p):okU (ED it p):=by
 obtain⟨c1,c2,c3⟩:=ZD (pl:=it.aG) hc;obtain⟨p1,p2,p3⟩:=ZD (pl:=it.aG) hp;have h1:(dU it p*16).natAbs<=134400:=by unfold dU;omega
 have h2:(dW it p*16).natAbs<=134400:=by unfold dW;omega
 have q1:=DY h1;have q2:=DY h2;obtain⟨-,-,h3,-⟩:=Rd (A0 hc (by omega)) (A0 hp (by omega));obtain⟨n,hn⟩:=bp h3;refine⟨bv h1 (by decide),bv h2 (by decide),?_,?_⟩
 ·show 0<=FU _/\FU _<=_;rw[hn];refine Zpe ?_;unfold sq2 at hn;omega
 ·show(plH it.aG p*16).natAbs<=_;omega
theorem Zl8 {it:Itm} {s:Spk} (hc:bd 4200 it.ce) (hs:okU s):bd B24 (IW it s):=by
 obtain⟨h1,h2,-⟩:=ZD (pl:=it.aG) (FA hc);obtain⟨s1,s2,-,s4⟩:=hs;exact Qyt (by unfold B24;omega) (by unfold B24;omega) (by unfold B24;omega)
theorem Zd1 {it:Itm} (h:Made it) (hf:bd 4084 it.fr):∀p∈Cu it,bd B24 p:=by
 have ht:=Q54 h hf;intro p hp;unfold Cu at hp;split at hp
 ·rename_i h3;simp only[ba]at hp;obtain⟨s,hs,rfl⟩:=hp;have hce:bd 4200 it.ce:=A0 (Wg (h.arc h3) (by omega) hf).2 (by omega);refine Zl8 hce ?_;rcases aq.1 hs with rfl|hs
  ·exact Zc hce (A0 hf (by omega))
  ·exact X4 (h.arc h3).dir 16 _ (Zc hce (A0 hf (by omega))) (Zc hce (A0 ht (by omega))) s hs
 ·simp at hp;rcases hp with rfl|rfl
  ·exact A0 (FA hf) (by decide)
  ·exact A0 (FA ht) (by decide)
def TT (n:Nat) (g:Sgm):Prop:=bd B24 g.to/\0<=g.item/\g.item<n/\i64 g.lead
theorem Qy4 {n:Nat} {item feed lead:Int} (h1:0<=item/\item<n) (h2:i64 lead):∀(pts:List Pt) (s:List Sgm×Int×Pt),(∀p∈pts,bd B24 p)->(∀g∈s.1,TT n g)->∀g∈(pts.foldl (Bi item feed lead) s).1,TT n g
 |[],s,_,h=>h
 |q::pts,s,hp,h=>by
  rw[List.foldl_cons];refine Qy4 h1 h2 pts _ (λp hp'=>hp p (by simp[hp'])) ?_;unfold Bi;split
  ·exact h
  ·intro g hg;simp only[bj,dg]at hg;rcases hg with hg|rfl
   ·exact h g hg
   ·exact⟨hp q (by simp),h1.1,h1.2,h2⟩
structure PIn (n : Nat) (s : BSt) : Prop where
 start:bd B24 s.start
 aF:∀g∈s.aF,TT n g
 aD:∀m∈s.aD,0<=m.item/\m.item<n/\i64 m.at_
theorem Zte {aA:List Itm} {i:Nat} {frm:Int} (hd:drawn (itA aA i)) (hf:Md aA i frm) (hall:∀k<aA.length,AF (itA aA k)->drawn (itA aA k)) (hc:∀p∈Cu (itA aA i),bd B24 p):∀p∈CD aA i frm,bd B24 p:=by
 unfold CD;by_cases hs:smI (itA aA i)
 ·rw[aa hs];intro p hp;rcases bj.1 hp with hp|hp
  ·rcases bj.1 hp with hp|hp
   ·unfold Jt at hp;rcases hf with rfl|⟨f,rfl,hf1,hf2⟩
    ·rw[ab (by omega)]at hp;exact hc p (dk hp)
    ·rw[aa (by omega)]at hp;exact(L2 (aA:=aA) (i:=(f:Int).toNat) (k:=i) (by simpa using hf2) hd).1 p (de hp)
   ·simp at hp;subst hp;exact Lm hd.1.2.1 hd.1.2.2.1
  ·unfold Lt at hp;by_cases h:0<=Cf aA i
   ·rw[aa h]at hp;obtain⟨k,hk,hk1,hk2⟩:=Td hall h;exact(L2 (aA:=aA) (i:=i) (k:=(Cf aA i).toNat) hd (by rw[hk];simpa using hk2)).1 p (dk hp)
   ·rw[ab h]at hp;exact hc p (de hp)
 ·rw[ab hs];exact hc
theorem Zqc {it:Itm} (hf:it.kind=1\/1<=it.feed/\it.feed<=60000000):i64 (O7 it):=by
 unfold O7;split
 ·rename_i h;unfold syI at h;unfold mn i64;split<;>omega
 ·unfold i64;omega
theorem Zje {aA:List Itm} {i:Nat} {s:BSt} (hi:i<aA.length) (hl:aA.length<=15) (hright:∀j<aA.length,¬Ch (itA aA j)) (hch:∀j<aA.length,AF (itA aA j)->∀p∈Cu (itA aA j),bd B24 p) (hok:BOK aA i s) (h:PIn aA.length s):PIn aA.length (FV aA i s):=by
 have hall:∀k<aA.length,AF (itA aA k)->drawn (itA aA k):=λk hk hm=>(L7 (hright k hk) hm).1;have hok2:=Qse hi hright hok;have hlen:=hok.len;have hlen2:=hok2.len;unfold FV at hlen2⊢;by_cases hm:AF (itA aA i)
 ·rw[aa hm]at hlen2⊢;have hd:=hall i hi hm;refine⟨?_,Qy4 ⟨by omega,by omega⟩ (Zqc (L7 (hright i hi) hm).2) _ _ (Zte hd hok.frm hall (hch i hi hm)) h.aF,?_⟩
  ·show bd B24 (if s.begun=true then s.start else Az (itA aA i).fr);split
   ·exact h.start
   ·exact FA hd.1.2.1
  ·intro m hm;simp only[bj,dg]at hm;rcases hm with hm|rfl
   ·exact h.aD m hm
   ·refine⟨by simp only;omega,by simp only;omega,?_⟩;simp only at hlen2⊢;unfold i64;omega
 ·rw[ab hm];refine⟨h.start,h.aF,?_⟩;intro m hm;simp only[bj,dg]at hm;rcases hm with hm|rfl
  ·exact h.aD m hm
  ·refine⟨by simp only;omega,by simp only;omega,?_⟩;simp only;unfold i64;omega
theorem Qz1 {aA:List Itm} (hl:aA.length<=15) (hright:∀j<aA.length,¬Ch (itA aA j)) (hch:∀j<aA.length,AF (itA aA j)->∀p∈Cu (itA aA j),bd B24 p):∀i,i<=aA.length->PIn aA.length (Ay aA i)
 |0,_=>by rw[Ay];exact⟨by unfold bd;simp,λg h=>(by cases h),λg h=>(by cases h)⟩
 |i+1,hi=>by rw[Ay];exact Zje (by omega) hl hright hch (M_ hright i (by omega)) (Qz1 hl hright hch i (by omega))
theorem Zs4 {aA:List Itm} (hl:aA.length<=15) (hc:C2 aA=0) (hch:∀j<aA.length,AF (itA aA j)->∀p∈Cu (itA aA j),bd B24 p):bd B24 (Bc aA).start/\(∀g∈(Bc aA).aF,TT aA.length g)/\(∀m∈(Bc aA).aD,0<=m.item/\m.item<aA.length/\i64 m.at_)/\(Bc aA).aD.length=aA.length:=by
 have hright:=(Pp hc).2;have h1:=Qz1 hl hright hch aA.length (co _);exact⟨h1.start,h1.aF,h1.aD,(M_ hright aA.length (co _)).aD⟩
theorem Z6c {aA:List Itm} (hl:aA.length<=15) (hc:C2 aA=0):i64 (Js aA):=by
 have hg:=Qz6 hl hc;have hs:=ZC (Qhn hg.start hg.aF);have hcount:=hg.count;have hright:=(Pp hc).2;have h0:i64 (AJ (Bc aA).aF):=by unfold i64;omega
 unfold Js;split
 ·rename_i i e;split
  ·rename_i c;obtain⟨hi,-,-⟩:=V6 e;have hm:AF (itA aA i):=⟨by have:=c.1.1;omega,by have:=c.1.1;omega⟩;obtain⟨hd,-⟩:=L7 (hright i hi) hm;have:=IH (A0 (Lm hd.1.2.1 hd.1.2.2.1) (by decide)) (A0 (FA hd.1.2.2.1) (by decide));unfold i64;omega
  ·exact h0
 ·exact h0
theorem RM (n lo hi:Int):GG [I n,I lo,I hi]=some [B (decide (lo<=n/\n<=hi))]:=by
 show Wo [I n,I lo,I hi]=_;rw[Zwc];by_cases h1:lo<=n<;>by_cases h2:n<=hi<;>simp[h1,h2]
theorem Zev {M:Fn} (hM:∀n lo hi:Int,M [I n,I lo,I hi]=some [B (decide (lo<=n/\n<=hi))]) {a:Axs} (h:AxOK a) (hne:a.pitch≠[]):
  ∃o,An (Qk1 M) (.view Aa (a.pitch.map As)::I a.pitch.length::I 0::Bv a)=some o/\o.1=2:=by
 have hsp:=h.spacing hne;refine(?_:Out (λo:Nat×List AC=>o.1=2) _);refine Cb (λi:Nat=> .view Aa (a.pitch.map As)::I a.pitch.length::I (i:Int)::Bv a) (λi=>i<=a.pitch.length) (λi=>a.pitch.length-i) _ ?_ 0 (by simp);intro i hi;have hc:=h.count;rw[Zoc];dsimp only[jA,gA,bA,wA];have hv:∀j:Nat,j<a.pitch.length->Af (nth .dead (nth [] (a.pitch.map As) j) 0)=a.pitch.getD j 0:=λj hj=>by
  have e:nth [] (a.pitch.map As) j=As a.pitch[j]:=by
   rw[GF [] (a.pitch.map As) j (by rw[ag];exact hj),List.getElem_map]
  rw[e,List.getD,ai hj];rfl
 refine .cond (λk=> ?_) λ_=> .some (.inr ⟨by simp,rfl⟩);have k:(i:Int)<(a.pitch.length:Int):=A6 k;have hl:((a.pitch.map As).length:Int)=a.pitch.length:=by rw[ag]
 refine .cond (λ_=> ?_) λe=>(inB (by omega) (by rw[hl];exact k) e).elim;have hm: -4096<=a.pitch.getD i 0/\a.pitch.getD i 0<=4096:=by
  refine h.pitch.1 _ ?_;rw[List.getD,ai (by omega)];exact bq _
 rw[ak,hv i (by omega),hM];simp only[af,gA,wA,bA,jA,CZ,Dl];rw[al hm];refine .cond (λe=>by cases e) λ_=> ?_;have nx:∀{x:List AC},x= .view Aa (a.pitch.map As)::I a.pitch.length::I ((i:Int)+1)::Bv a->Out (λo:Nat×List AC=>(o.1=0/\∃s':Nat,o.2= .view Aa (a.pitch.map As)::I a.pitch.length::I (s':Int)::Bv a/\s'<=a.pitch.length/\a.pitch.length-s'<a.pitch.length-i)\/(o.1≠0/\o.1=2)) (some (0,x)):=λe=>
  .some (.inl ⟨rfl,i+1,by rw[e];rfl,by omega,by omega⟩)
 rw[Ae (x:=(i:Int)+1) (by omega)];refine .cond (λg=> ?_) λ_=>nx rfl;have g:(i:Int)>0:=A6 g;rw[Ae (x:=(i:Int)-1) (by omega)];refine .cond (λ_=> ?_) λe=>(inB (by omega) (by rw[hl];omega) e).elim;obtain⟨j,rfl⟩:∃j:Nat,i=j+1:=⟨i-1,by omega⟩;have hd:=h.pitch.2 j (by omega);have hmj: -4096<=a.pitch.getD j 0/\a.pitch.getD j 0<=4096:=by
  refine h.pitch.1 _ ?_;rw[List.getD,ai (by omega)];exact bq _
 have ej:(((j+1:Nat):Int)-1).toNat=j:=by omega
 rw[ej,hv j (by omega),hM];simp only[af,gA,wA,bA,jA,CZ,Dl];have q1:a.spacing.tdiv 4=a.spacing/4:=bc (by omega);rw[q1,Ae (x:=a.spacing/4) (by omega),Ae (x:=0-a.spacing/4) (by omega),Ae (x:=a.pitch.getD (j+1) 0-a.pitch.getD j 0) (by omega)];refine .cond (λe=> ?_) λ_=>nx rfl;rw[al (show 0-a.spacing/4<=a.pitch.getD (j+1) 0-a.pitch.getD j 0/\a.pitch.getD (j+1) 0-a.pitch.getD j 0<=a.spacing/4 by omega)]at e;cases e
theorem Zd7 {M:Fn} {N:Lp} (hM:∀n lo hi:Int,M [I n,I lo,I hi]=some [B (decide (lo<=n/\n<=hi))]) {a:Axs} (h:AxOK a)
  (hN:a.pitch≠[]->∃o,N (.view Aa (a.pitch.map As)::I a.pitch.length::I 0::Bv a)=some o/\o.1=2):V_ M N (Bv a)=some [B true]:=by
 have hs:=h.spacing;have ho:=h.origin;have hc:=h.count
 rw[Zvw];by_cases e:a.pitch=[]
 ·rw[e];rfl
 ·have hl:0<a.pitch.length:=List.length_pos_iff.2 e;obtain⟨o,h1,h2⟩:=hN e;have hs:=hs e;have h1':N [.view Aa (a.pitch.map As),I (a.pitch.map As).length,I 0,I a.step,I a.speed,I a.accel,I a.jerk,I a.low,I a.high,I a.back,I a.origin,I a.spacing, .view Aa (a.pitch.map As)]=some o:=by rw[ag];exact h1
  rw[Bw (by rw[ag];simp;omega),Bw (by rw[ag];simp;omega),hM,hM,h1'];simp only[af,gA,wA,bA,jA,CZ,Dl];rw[al (show-16777216<=a.origin/\a.origin<=16777216 by omega),al (show 4<=a.spacing/\a.spacing<=16777216 by omega),h2];rfl
theorem Z3s {a:Axs} (h:AxOK a):QU (Bv a)=some [B true]:=Zd7 RM h λhne=>Zev RM h hne
theorem Z1n {M N:Fn} (hN:∀n lo hi:Int,N [I n,I lo,I hi]=some [B (decide (lo<=n/\n<=hi))]) {a:Axs} (h:AxOK a) (hM:M (Bv a)=some [B true]):Qnb M N (Bv a)=some [B true]:=by
 have hs:=h.step;have hb:=h.back;obtain⟨l1,l2,l3,l4,l5,l6,l7,l8⟩:=h.lim
 rw[Zds];simp only[hN,af,CZ,Dl];rw[al (show 4<=a.step/\a.step<=4096 by omega),al (show 1<=a.speed/\a.speed<=1048576 by omega),al (show 2<=a.accel/\a.accel<=1048576 by omega),al (show 4<=a.jerk/\a.jerk<=1048576 by omega),al (show a.low>= -16777216 by omega),al (show a.high<=16777216 by omega),al (show a.low<=a.high by omega),al (show 0<=a.back/\a.back<=64 by omega)];simp only[ah];rw[hM];rfl
theorem Zry {a:Axs} (h:AxOK a):Qs (Bv a)=some [B true]:=Z1n RM h (Z3s h)
theorem Z5b {N:Fn} (hN:∀n lo hi:Int,N [I n,I lo,I hi]=some [B (decide (lo<=n/\n<=hi))]) {a:Axs} (h:AxOK a) {q:Int} (hq:q.natAbs<=B24):Vo N (Bv a++[I q])=some [B true]:=by
 obtain⟨-,-,-,-,-,-,l7,l8⟩:=h.lim;refine Eq.trans (Zfh N ..) ?_;rw[hN,al (show a.low<=q/\q<=a.high by unfold B24 at hq;omega)];rfl
theorem Zbw {a:Axs} (h:AxOK a) {q:Int} (hq:q.natAbs<=B24):HQ (Bv a++[I q])=some [B true]:=Z5b RM h hq
theorem Zzy {M:Fn} {x:Ax3} {p:Pth} (hs:bd B24 p.start) (hg:∀g∈p.aF,bd B24 g.to) (hl:p.aF.length<=1000000):
  Out (λo:Nat×List AC=>o.1=1/\∃pts:List Pt,o.2= .view kPt (pts.map ptR)::AK x/\(∀q∈pts,bd B24 q)/\pts.length<=1000001) (An (QV M) (.view kPt [ptR p.start]:: .view Ag (p.aF.map Au)::I (p.aF.map Au).length::I 0::AK x)):=by
 refine Cb (λs:Nat×List Pt=> .view kPt (s.2.map ptR):: .view Ag (p.aF.map Au)::I (p.aF.map Au).length::I (s.1:Int)::AK x) (λs=>s.1<=p.aF.length/\(∀q∈s.2,bd B24 q)/\s.2.length=s.1+1) (λs=>p.aF.length-s.1) _ ?_ (0,[p.start]) ⟨by simp,by simpa using hs,rfl⟩;rintro⟨i,pts⟩ ⟨h1,h2,h3⟩;dsimp only at h1 h2 h3;refine Out.eqv (Z67 M ..) ?_;have hsl:((p.aF.map Au).length:Int)=p.aF.length:=by rw[ag]
 refine .cond (λk=> ?_) λ_=> .some (.inr ⟨by simp,rfl,pts,rfl,h2,by omega⟩);have k:(i:Int)<((p.aF.map Au).length:Int):=A6 k;rw[hsl]at k;refine .cond (λ_=> ?_) λe=>(inB (by omega) (by rw[hsl];exact k) e).elim;have er:nth [] (p.aF.map Au) (i:Int).toNat=Au p.aF[i]:=by
  rw[ak,GF [] _ i (by rw[ag];omega),List.getElem_map]
 rw[er];have hq:=hg _ (bq (show i<p.aF.length by omega));refine .cond (λ_=> ?_) λe=>by rw[CK (by simp;omega)]at e;cases e
 refine .some (.inl ⟨rfl,(i+1,pts++[p.aF[i].to]),?_,⟨by dsimp only;omega,?_,by simp;omega⟩,by dsimp only;omega⟩)
 ·rw[Ae (x:=(i:Int)+1) (by omega),bt];rfl
 ·intro q hq';dsimp only at hq';simp only[bj,dg]at hq';rcases hq' with hq'|rfl
  ·exact h2 q hq'
  ·exact hq
theorem Zg9 {M:Fn} {N3:Lp} (hM:∀{a:Axs} {q:Int},AxOK a->q.natAbs<=B24->M (Bv a++[I q])=some [B true]) {x:Ax3} (hx:Ax3M x) {pts:List Pt} (hp:∀q∈pts,bd B24 q) (hl:pts.length<=1000001):
  Out (λo:Nat×List AC=>o.1=2) (An (Ux M N3) (.view kPt (pts.map ptR)::I (pts.map ptR).length::I 0::AK x)):=by
 refine Cb (λi:Nat=> .view kPt (pts.map ptR)::I (pts.map ptR).length::I (i:Int)::AK x) (λi=>i<=pts.length) (λi=>pts.length-i) _ ?_ 0 (by simp);intro i h1;refine Out.eqv (Z4d M N3 ..) ?_;have hsl:((pts.map ptR).length:Int)=pts.length:=by rw[ag]
 refine .cond (λk=> ?_) λ_=> .some (.inr ⟨by simp,rfl⟩);have k:(i:Int)<((pts.map ptR).length:Int):=A6 k;rw[hsl]at k;refine .cond (λ_=> ?_) λe=>(inB (by omega) (by rw[hsl];exact k) e).elim;have er:nth [] (pts.map ptR) (i:Int).toNat=ptR pts[i]:=by
  rw[ak,GF [] _ i (by rw[ag];omega),List.getElem_map]
 rw[er];obtain⟨q1,q2,q3⟩:=hp _ (bq (show i<pts.length by omega));refine .bind (p:=λo=>o=[B true]) ⟨_,hM hx.a q1,rfl⟩ λo e=> ?_;subst e;refine .cond (λe=>by cases e) λ_=> ?_;refine .bind (p:=λo=>o=[B true]) ⟨_,hM hx.b q2,rfl⟩ λo e=> ?_;subst e;refine .cond (λe=>by cases e) λ_=> ?_;refine .bind (p:=λo=>o=[B true]) ⟨_,hM hx.c q3,rfl⟩ λo e=> ?_;subst e;refine .cond (λe=>by cases e) λ_=> ?_;exact .some (.inl ⟨rfl,i+1,by rw[Ae (x:=(i:Int)+1) (by omega)];rfl,by omega,by omega⟩)
theorem Zd6 {M:Fn} {N3 N8:Lp} {x:Ax3} {p:Pth}
  (h3:Out (λo:Nat×List AC=>o.1=1/\∃pts:List Pt,o.2= .view kPt (pts.map ptR)::AK x/\(∀q∈pts,bd B24 q)/\pts.length<=1000001) (N3 (.view kPt [ptR p.start]:: .view Ag (p.aF.map Au)::I (p.aF.map Au).length::I 0::AK x)))
  (h8:∀{pts:List Pt},(∀q∈pts,bd B24 q)->pts.length<=1000001->Out (λo:Nat×List AC=>o.1=2) (N8 (.view kPt (pts.map ptR)::I (pts.map ptR).length::I 0::AK x))):
  Out (λo=>o=[B true]) (W0 M N3 N8 (AK x++Bj p)):=by
 refine Out.eqv (Zsx M N3 N8 ..) ?_;refine .bind h3 λo q=> ?_;obtain⟨o1,o2⟩:=o;obtain⟨q1,pts,q2,q3,q4⟩:=q;dsimp only at q1 q2;subst q1 q2;refine .cond (λ_=> ?_) λe=>by cases e
 refine .bind (h8 q3 q4) λo q=> ?_;rw[q];exact .some rfl
theorem Ze3 {x:Ax3} {p:Pth} (hx:Ax3M x) (hs:bd B24 p.start) (hg:∀g∈p.aF,bd B24 g.to) (hl:p.aF.length<=1000000):QZ (AK x++Bj p)=some [B true]:=by
 obtain⟨o,h,rfl⟩:=Zd6 (M:=HQ) (N3:=An (QV HQ)) (N8:=An (Ux HQ (An (QV HQ)))) (Zzy (x:=x) hs hg hl) (λh1 h2=>Zg9 (λha hq=>Zbw ha hq) hx h1 h2);exact h
theorem Z23:∃v:Int,E9 [I 30000]=some [I v]/\60000<=v:=by
 have key:∀{M:Fn} {v:Int},M [I 30000,I 1048576,I 60000,I 2]=some [I v,B true]->T4 M [I 30000]=some [I v]:=λh=>by
  rw[Qxn,h];rfl
 refine⟨_,key (Sr (by unfold i64;omega) (by unfold i64;omega) (by omega) (by decide)),?_⟩;unfold Br;omega
theorem Z0o {MR MP MV:Fn} {x:Ax3} (hx:Ax3M x) {pa pb pc ramp lag:Int} (hp:Plan3 pa pb pc) (hr:1<=ramp/\ramp<=60000) (hl:0<=lag/\lag<=40)
  (hV:∀{a:Axs},AxOK a->MV (Bv a)=some [B true]) (hP:MP [I pa,I pb,I pc]=some [B true]) (hR:∃v:Int,MR [I 30000]=some [I v]/\60000<=v):Out (λo=>o=[B true]) (Qcl MR MP MV (AK x++[I pa,I pb,I pc,I ramp,I lag])):=by
 refine Out.eqv (Zyp MR MP MV ..) ?_;refine .bind (p:=λo=>o=[B true]) ⟨_,hV hx.a,rfl⟩ λo e=> ?_;subst e;refine .cond (λe=>by cases e) λ_=> .bind (p:=λo=>o=[B true]) ⟨_,hV hx.b,rfl⟩ λo e=> ?_;subst e;refine .cond (λe=>by cases e) λ_=> .bind (p:=λo=>o=[B true]) ⟨_,hV hx.c,rfl⟩ λo e=> ?_;subst e;refine .cond (λe=>by cases e) λ_=> .bind (p:=λo=>o=[B true]) ⟨_,hP,rfl⟩ λo e=> ?_;subst e;obtain⟨v,h1,h2⟩:=hR;refine .cond (λ_=> .cond (λ_=> ?_) λe=>absurd hr.1 (A2 e)) λe=>by cases e
 refine .bind (p:=λo=>o=[I v]) ⟨_,h1,rfl⟩ λo e=> ?_;subst e;refine .cond (λ_=> .cond (λ_=> ?_) λe=>absurd hl.1 (A2 e)) λe=>absurd (show ramp<=v by omega) (A2 e);exact .some (by rw[al (show lag<=1048576 by omega)])
theorem Zvv {x:Ax3} (hx:Ax3M x) {pa pb pc ramp lag:Int} (hp:Plan3 pa pb pc) (hr:1<=ramp/\ramp<=60000) (hl:0<=lag/\lag<=40):Qe (AK x++[I pa,I pb,I pc,I ramp,I lag])=some [B true]:=by
 have hP:EY [I pa,I pb,I pc]=some [B true]:=by rw[PO,al (show 1<=pa/\pa<=65536/\2<=pb/\pb<=65536/\1<=pc/\pc<=16777216 from⟨hp.a.1,hp.a.2,hp.b.1,hp.b.2,hp.c.1,hp.c.2⟩)]
 obtain⟨o,h,rfl⟩:=Z0o hx hp hr hl Zry hP Z23;exact h
theorem Zwo {x:Ax3} (hx:Ax3M x) (l0 l1 l2 l3 l4:Int):Q8 (AK x++[I l0,I l1,I l2,I l3,I l4])=some (AK x++[I l0,I l1,I l2,I l3,I l4]):=by
 have ha:=hx.a.count;have hb:=hx.b.count;have hc:=hx.c.count
 have key:Qfk (AK x++[I l0,I l1,I l2,I l3,I l4])=some (AK x++[I l0,I l1,I l2,I l3,I l4]):=by
  refine Eq.trans (Zpp ..) ?_;rw[CK (by rw[ag];omega),CK (by rw[ag];omega),CK (by rw[ag];omega)];rfl
 exact key
abbrev Zay (K:Kf):Kf:=⟨K.x,K.pa,K.pb,K.pc,K.ramp,K.lag,[],false,⟨⟨0,0,0⟩,[],[]⟩,0,0,⟨[],0,0,⟨0,0,0⟩⟩⟩
abbrev Qbv (K:Kf):Kf:=⟨K.x,K.pa,K.pb,K.pc,K.ramp,K.lag,K.aA,K.closed,K.p,K.len,K.set,⟨[],0,0,⟨0,0,0⟩⟩⟩
abbrev BW:Cv:=⟨0,0,0,0,0,0,100,100,false,false,false,0,0,-1,1,0,0,0,0,0,0,0,0,false,0,false,0,false,0,-1,0,0,0,0,0,0,0,false,false,false⟩
noncomputable abbrev kfP (x:Ax3) (pa pb pc ramp lag:Int) (aA:List Itm) (closed:Bool):Kf:=⟨x,pa,pb,pc,ramp,lag,aA,closed,Bc aA,AJ (Bc aA).aF,Js aA,A1 (Bc aA) x ⟨1,1,1⟩ 0 (AJ (Bc aA).aF)⟩
theorem Zch {MS ML MR MB:Fn} {K:Kf} (hl:K.aA.length<=15) (i0:List Itm) (c0:Bool) (p0:Pth) (l0 s0:Int) (t0:Trk) (c:Cv)
  (hB:MB [.view Aj (K.aA.map Ah)]=some (Bj K.p++[I 0])) (hR:MR (AK K.x++Bj K.p)=some [B true]) (hL:ML (Bj K.p)=some [I K.len]) (hS:MS [.view Aj (K.aA.map Ah)]=some [I K.set]):
  Rb MS ML MR MB (.view Aj (K.aA.map Ah)::B K.closed::Ab ⟨K.x,K.pa,K.pb,K.pc,K.ramp,K.lag,i0,c0,p0,l0,s0,t0⟩ c)=some (I 0::Ab ⟨K.x,K.pa,K.pb,K.pc,K.ramp,K.lag,K.aA,K.closed,K.p,K.len,K.set,t0⟩ c):=by
 have key:Out (λo=>o=I 0::Ab ⟨K.x,K.pa,K.pb,K.pc,K.ramp,K.lag,K.aA,K.closed,K.p,K.len,K.set,t0⟩ c) (Rb MS ML MR MB (.view Aj (K.aA.map Ah)::B K.closed::Ab ⟨K.x,K.pa,K.pb,K.pc,K.ramp,K.lag,i0,c0,p0,l0,s0,t0⟩ c)):=by
  refine Out.eqv (Zx2 MS ML MR MB _ _ ⟨K.x,K.pa,K.pb,K.pc,K.ramp,K.lag,i0,c0,p0,l0,s0,t0⟩ c) ?_;refine .bind (p:=λo=>o=_) ⟨_,hB,rfl⟩ λo e=> ?_;subst e;refine .cond (λe=>by cases e) λ_=> ?_;refine .bind (p:=λo=>o=_) ⟨_,hR,rfl⟩ λo e=> ?_;subst e;refine .cond (λe=>by cases e) λ_=> .cond (λ_=> ?_) λe=>by rw[CK (by rw[ag];omega)]at e;cases e
  refine .bind (p:=λo=>o=_) ⟨_,hL,rfl⟩ λo e=> ?_;subst e;refine .bind (p:=λo=>o=_) ⟨_,hS,rfl⟩ λo e=> ?_;subst e;exact .some rfl
 obtain⟨o,h,rfl⟩:=key;exact h
theorem Z5j {MS ML MR MB:Fn} {K:Kf} (hl:K.aA.length<=15) (c:Cv)
  (hB:MB [.view Aj (K.aA.map Ah)]=some (Bj K.p++[I 0])) (hR:MR (AK K.x++Bj K.p)=some [B true]) (hL:ML (Bj K.p)=some [I K.len]) (hS:MS [.view Aj (K.aA.map Ah)]=some [I K.set]):
  Rb MS ML MR MB (.view Aj (K.aA.map Ah)::B K.closed::Ab (Zay K) c)=some (I 0::Ab (Qbv K) c):=
 Zch hl [] false ⟨⟨0,0,0⟩,[],[]⟩ 0 0 ⟨[],0,0,⟨0,0,0⟩⟩ c hB hR hL hS
theorem Zy5 {MS ML ML' MG' MO MC MD:Fn} {K:Kf}
  (hD:MD (AK K.x++[I K.pa,I K.pb,I K.pc,I K.ramp,I K.lag])=some [B true]) (hC:MC (AK K.x++[I K.pa,I K.pb,I K.pc,I K.ramp,I K.lag])=some (AK K.x++[I K.pa,I K.pb,I K.pc,I K.ramp,I K.lag]))
  (hO:MO []=some [I 100,I 100,B false,B false,B false]) (hG:MG' []=some [I 0,I 0,I (-1)])
  (hL:ML' (.view Aj (K.aA.map Ah)::B K.closed::Ab (Zay K) BW)=some (I 0::Ab (Qbv K) BW))
  (hT:ML (Bj K.p++AK K.x++[I 1,I 1,I 1,I 0,I K.len])=some (AW K.t)) (hS:MS [I 0]=some [I 0,I 0,I 0,I 0,I 0,I 0]):
  Ss MS ML ML' MG' MO MC MD (AK K.x++[I K.pa,I K.pb,I K.pc,I K.ramp,I K.lag]++[.view Aj (K.aA.map Ah),B K.closed])=some (I 0::Ab K BW):=by
 have key:Out (λo=>o=I 0::Ab K BW) (Ss MS ML ML' MG' MO MC MD (AK K.x++[I K.pa,I K.pb,I K.pc,I K.ramp,I K.lag]++[.view Aj (K.aA.map Ah),B K.closed])):=by
  refine Out.eqv (Z6z MS ML ML' MG' MO MC MD ..) ?_;refine .bind (p:=λo=>o=_) ⟨_,hD,rfl⟩ λo e=> ?_;subst e;refine .cond (λe=>by cases e) λ_=> ?_;refine .bind (p:=λo=>o=_) ⟨_,hC,rfl⟩ λo e=> ?_;subst e;refine .bind (p:=λo=>o=_) ⟨_,hO,rfl⟩ λo e=> ?_;subst e;refine .bind (p:=λo=>o=_) ⟨_,hG,rfl⟩ λo e=> ?_;subst e;refine .bind (p:=λo=>o=I 0::Ab (Qbv K) BW) ⟨_,hL,rfl⟩ λo e=> ?_;subst e;refine .cond (λe=>by cases e) λ_=> ?_;refine .bind (p:=λo=>o=_) ⟨_,hT,rfl⟩ λo e=> ?_;subst e;refine .bind (p:=λo=>o=_) ⟨_,hS,rfl⟩ λo e=> ?_;subst e;exact .some (by kernel_rfl)
 obtain⟨o,h,rfl⟩:=key;exact h
structure MachOK (x : Ax3) (pa pb pc ramp lag : Int) : Prop where
 x:Ax3M x
 plan:Plan3 pa pb pc
 ramp:1<=ramp/\ramp<=60000
 lag:0<=lag/\lag<=40
theorem Ztm {x:Ax3} {pa pb pc ramp lag:Int} (hm:MachOK x pa pb pc ramp lag) {aA:List Itm} (hl:aA.length<=15) (hc:C2 aA=0) (hch:∀j<aA.length,AF (itA aA j)->∀p∈Cu (itA aA j),bd B24 p) (hsp:∀it∈aA,it.kind=8->i64 it.speed) (closed:Bool):
  H5 (AK x++[I pa,I pb,I pc,I ramp,I lag]++[.view Aj (aA.map Ah),B closed])=some (I 0::Ab (kfP x pa pb pc ramp lag aA closed) BW)/\KOK (kfP x pa pb pc ramp lag aA closed):=by
 have hg:=Qz6 hl hc;obtain⟨i1,i2,i3,i4⟩:=Zs4 hl hc hch;have hs:=ZC (Qhn hg.start hg.aF);have hcount:=hg.count;refine⟨?_,?_⟩
 ·have hB:Oh [.view Aj (aA.map Ah)]=some (Bj (Bc aA)++[I 0]):=by rw[Z59 hl,aa hc]
  have hS:Nb [.view Aj (aA.map Ah)]=some [I (Js aA)]:=by rw[Zh0 hl,aa hc]
  have hR:=Ze3 hm.x i1 (λg h=>(i2 g h).1) (by omega);have hT:=Qq0 (d:=⟨1,1,1⟩) (from_:=0) (to:=AJ (Bc aA).aF) hg hm.x.ok;have hload:=Z5j (K:=kfP x pa pb pc ramp lag aA closed) hl BW hB hR (Qvd hg.ok) hS;have hO:Q6 []=some [I 100,I 100,B false,B false,B false]:=by show Qkv []=_;rw[Z14]
  have hG:Kt []=some [I 0,I 0,I (-1)]:=by show Pw []=_;rw[Zi]
  have hst:G7 [I 0]=some [I 0,I 0,I 0,I 0,I 0,I 0]:=Qon 0;exact Zy5 (K:=kfP x pa pb pc ramp lag aA closed) (Zvv hm.x hm.plan hm.ramp hm.lag) (Zwo hm.x ..) hO hG hload hT hst
 ·refine⟨⟨hg,hm.x,Q9d _ _ _ hm.x.ok hg⟩,hm.plan,λg h=>(i2 g h).2,i3,?_,?_,?_,Z6c hl hc⟩
  ·show(Bc aA).aD.length<=1000000;omega
  ·exact hsp
  ·show i64 (AJ (Bc aA).aF);unfold i64;omega
theorem ZA {x:Ax3} {pa pb pc ramp lag:Int} (hm:MachOK x pa pb pc ramp lag) {aA:List Itm} (hl:aA.length<=15) {p0:Pt} (hi:Items 4084 p0 aA) (closed:Bool):
  H5 (AK x++[I pa,I pb,I pc,I ramp,I lag]++[.view Aj (aA.map Ah),B closed])=some (I 0::Ab (kfP x pa pb pc ramp lag aA closed) BW)/\KOK (kfP x pa pb pc ramp lag aA closed):=
 Ztm hm hl (Z1s (by omega) hi (show aA.length <= 20000 by omega)) (λj hj hm => by
  rcases hi.made _ (Qwx hj)with⟨-,g2,-,g4,-⟩|g
  ·exact Zd1 g2 g4
  ·exact absurd hm (QX g)) (λit hit h8=>by
  rcases hi.made it hit with⟨-,-,g,-⟩|g
  ·rw[g.2.2.2.1];unfold i64;omega
  ·have:=g.spin h8;unfold i64;omega) closed
end Go.Bm
namespace Go.Bm
structure Evn where
 (cycle kind n:Int)
abbrev evR (e:Evn):List AC:=[I e.cycle,I e.kind,I e.n]
structure EvOK (e : Evn) : Prop where
 kind:1<=e.kind/\e.kind<=13
 n: -5<=e.n/\e.n<=4194304
theorem Qfb (E:List Evn) {i:Nat} (h:i<E.length):nth [] (E.map evR) (i:Int).toNat=evR E[i]:=by
 rw[ak,GF [] _ i (by rw[ag];exact h),List.getElem_map]
theorem Zzg {α:Type} (P:α->Bool) (E:List α) {i:Nat} (h:i<E.length):(E.take (i+1)).filter P=(E.take i).filter P++(if P E[i]=true then [E[i]]else []):=by
 rw[List.take_add_one,List.filter_append,ai h];congr 1;by_cases c:P E[i]=true
 ·rw[aa c];simp[c]
 ·rw[ab c];simp[c]
theorem Zmn {P:Evn->Bool} {E:List Evn} (hl:E.length<=1000000) {st:Lp} {enc:Rw->Nat->List AC}
  (hs:∀(l:Rw) (i:Nat),i<=E.length->l.length<=i->st (enc l i)=if h:i<E.length then some (0,enc (l++(if P E[i]=true then [evR E[i]]else [])) (i+1))else some (1,[.view kPt l])):
  An st (enc [] 0)=some (1,[.view kPt ((E.filter P).map evR)]):=by
 have key:Out (λo=>o=(1,[.view kPt ((E.filter P).map evR)])) (An st (enc [] 0)):=by
  refine Cb (λi:Nat=>enc (((E.take i).filter P).map evR) i) (λi=>i<=E.length) (λi=>E.length-i) _ ?_ 0 (by simp);intro i hi;rw[hs _ _ hi (by rw[ag];exact bv (List.length_filter_le _ _) (by simp;omega))];by_cases h:i<E.length
  ·rw[dif_pos h];refine .some (.inl ⟨rfl,i+1,?_,by omega,by omega⟩);rw[Zzg P E h];by_cases c:P E[i]=true
   ·rw[aa c,aa c,bt];rfl
   ·rw[ab c,ab c,List.append_nil,List.append_nil]
  ·rw[dif_neg h];refine .some (.inr ⟨by simp,?_⟩);rw[List.take_of_length_le (by omega)]
 obtain⟨o,h,rfl⟩:=key;exact h
theorem Qqv {E:List Evn} (hl:E.length<=1000000) (k:Int):K3 [.view kPt (E.map evR),I k]=some [.view kPt ((E.filter λe=>e.cycle==k).map evR)]:=by
 have hL:An T7 [.view kPt [],I k, .view kPt (E.map evR),I E.length,I ((0:Nat):Int)]=some (1,[.view kPt ((E.filter λe=>e.cycle==k).map evR)]):=by
  refine Zmn (P:=λe=>e.cycle==k) hl (enc:=λl i=>[.view kPt l,I k, .view kPt (E.map evR),I E.length,I (i:Int)]) λl i hi hll=> ?_;rw[Zhm];by_cases h:i<E.length
  ·rw[dif_pos h,BH (by simp;omega),BH (by simp;omega),Qfb E h,Ae (x:=(i:Int)+1) (by omega)];by_cases c:(E[i].cycle==k)=true
   ·rw[BH (show(gA (evR E[i]) 0==k)=true from c),CK (by simp;omega),aa c];rfl
   ·rw[Bw (show(gA (evR E[i]) 0==k)=false from Bool.eq_false_iff.2 c),ab c,List.append_nil];rfl
  ·rw[dif_neg h,Bw (by simp;omega)]
 show Qnt (An T7) [.view kPt (E.map evR),I k]=_;rw[Zng,ag];rw[show(0:Int)=((0:Nat):Int)from rfl,hL];rfl
theorem Zic {M:Fn} {l:Rw} (hM:GI l M) (cycle:Int) (k:Nat):
  ∃(e:Evn) (k':Nat),XR M [I cycle, .view Aa l,I k]=some (evR e++[.view Aa l,I k'])/\EvOK e/\k<=k':=by
 obtain⟨v,k1,h1,v0,v1,hk,-⟩:=hM k (n:=15) (by omega);rw[Zho,h1];simp only[af,P9,gA,wA,bA,jA,CZ,Em,Dw,BS];have all:∀(n:Nat),n<15->∃kind:Int,nth [] [[I 4],[I 1],[I 2],[I 3],[I 4],[I 5],[I 6],[I 7],[I 4],[I 8],[I 9],[I 11],[I 12],[I 13],[I 10]] n=[I kind]/\1<=kind/\kind<=13:=by
  intro n hn
  match n,hn with
  |0,_=>exact⟨4,rfl,by omega⟩
  |1,_=>exact⟨1,rfl,by omega⟩
  |2,_=>exact⟨2,rfl,by omega⟩
  |3,_=>exact⟨3,rfl,by omega⟩
  |4,_=>exact⟨4,rfl,by omega⟩
  |5,_=>exact⟨5,rfl,by omega⟩
  |6,_=>exact⟨6,rfl,by omega⟩
  |7,_=>exact⟨7,rfl,by omega⟩
  |8,_=>exact⟨4,rfl,by omega⟩
  |9,_=>exact⟨8,rfl,by omega⟩
  |10,_=>exact⟨9,rfl,by omega⟩
  |11,_=>exact⟨11,rfl,by omega⟩
  |12,_=>exact⟨12,rfl,by omega⟩
  |13,_=>exact⟨13,rfl,by omega⟩
  |14,_=>exact⟨10,rfl,by omega⟩
 obtain⟨kind,hkd,b1,b2⟩:=all v.toNat (by omega);have hlen:([[I 4],[I 1],[I 2],[I 3],[I 4],[I 5],[I 6],[I 7],[I 4],[I 8],[I 9],[I 11],[I 12],[I 13],[I 10]]:Rw).length=15:=rfl;clear all;generalize([[I 4],[I 1],[I 2],[I 3],[I 4],[I 5],[I 6],[I 7],[I 4],[I 8],[I 9],[I 11],[I 12],[I 13],[I 10]]:Rw)=T at*;have hv:v<(T.length:Int):=by omega
 simp only[v0,hv,decide_true,Bool.and_self,ah,hkd,CZ,Dw];have one:∀(n d:Int),0<n/\n<=1000->0<=d/\d<=5->∃(e:Evn) (k':Nat),((M [I n, .view Aa l,I k1]).bind λo=>some [I cycle,I kind,I (wrap .i64 (gA o 0-d)), .view Aa (wA o 1),jA o 2])=some (evR e++[.view Aa l,I k'])/\EvOK e/\k<=k':=λn d hn hd=>by
  obtain⟨w,k2,g1,w0,w1,g2,-⟩:=hM k1 (n:=n) (by omega);rw[g1];refine⟨⟨cycle,kind,w-d⟩,k2,?_,⟨⟨b1,b2⟩,by simp only;omega⟩,by omega⟩;simp only[af,gA,wA,jA,CZ,Em,Dw,BS];rw[Ae (by omega)];rfl
 have two:∀(n:Int),0<n/\n<=1000->∃(e:Evn) (k':Nat),((M [I n, .view Aa l,I k1]).bind λo=>some [I cycle,I kind,jA o 0, .view Aa (wA o 1),jA o 2])=some (evR e++[.view Aa l,I k'])/\EvOK e/\k<=k':=λn hn=>by
  obtain⟨w,k2,g1,w0,w1,g2,-⟩:=hM k1 (n:=n) (by omega);rw[g1];exact⟨⟨cycle,kind,w⟩,k2,rfl,⟨⟨b1,b2⟩,by simp only;omega⟩,by omega⟩
 cases c1:(kind==1)
 ·cases c2:(kind==2)
  ·cases c3:(kind==5)
   ·cases c4:(kind==6)
    ·cases c5:(kind==7)
     ·cases c6:(kind==8)
      ·cases c7:(kind==13)
       ·exact⟨⟨cycle,kind,0⟩,k1,rfl,⟨⟨b1,b2⟩,by simp⟩,by omega⟩
       ·obtain⟨w,k2,g1,w0,w1,g2,-⟩:=hM k1 (n:=4) (by omega);obtain⟨y,k3,g3,y0,y1,g4,-⟩:=hM k2 (n:=60) (by omega);simp only[an,ah];rw[g1];simp only[af,CZ,Em,Dw];rw[g3];refine⟨⟨cycle,kind,w*1048576+y⟩,k3,?_,⟨⟨b1,b2⟩,by simp only;omega⟩,by omega⟩;simp only[af,CZ,Em,Dw];rw[Ae (x:=w*1048576) (by omega),Ae (by omega)];rfl
      ·exact one 5 1 (by omega) (by omega)
     ·exact one 300 5 (by omega) (by omega)
    ·exact two 3 (by omega)
   ·exact two 3 (by omega)
  ·exact one 220 5 (by omega) (by omega)
 ·exact one 220 5 (by omega) (by omega)
theorem Zes {ME MN ML MF:Fn} {l:Rw} (hl:l.length<=100000) (hN:GI l MN) (hL:∀k:Nat,ML [.view Aa l,I k]=some [B (decide (k<l.length)), .view Aa l,I k])
  (hE:∀(cycle:Int) (k:Nat),∃(e:Evn) (k':Nat),ME [I cycle, .view Aa l,I k]=some (evR e++[.view Aa l,I k'])/\EvOK e/\k<=k'):
  Out (λo=>∃E:List Evn,o=(1,[.view kPt (E.map evR)])/\E.length<=l.length/\∀e∈E,EvOK e) (An (Qfy ME MN ML MF) [.view kPt [],I 0, .view Aa l,I 0]):=by
 refine Cb (λs:List Evn×Int×Nat=>[.view kPt (s.1.map evR),I s.2.1, .view Aa l,I (s.2.2:Int)]) (λs=>(∀e∈s.1,EvOK e)/\s.1.length<=s.2.2/\s.1.length<=l.length) (λs=>l.length-s.2.2) _ ?_ ([],0,0) (by simp);rintro⟨E,cycle,k⟩ ⟨h1,h2,h3⟩;dsimp only at h1 h2 h3;rw[Zxu,hL];simp only[af,gA,wA,bA,jA,CZ,Em,Dw,BS,Dl];by_cases c:k<l.length
 ·rw[al c];obtain⟨v,k1,g1,v0,v1,-,g2,-⟩:=hN k (n:=40) (by omega);have g2:=g2 c;rw[ah,g1];simp only[af,CZ,Em,Dw];obtain⟨e,k2,q1,q2,q3⟩:=hE (wrap .i64 (cycle+v)) k1;rw[q1];simp only[af,ay,av,CZ,Em,Dw];rw[CK (by simp;omega)];refine .some (.inl ⟨rfl,(E++[e],wrap .i64 (cycle+v),k2),?_,⟨?_,by simp;omega,by simp;omega⟩,by dsimp only;omega⟩)
  ·rw[bt];rfl
  ·intro x hx;dsimp only at hx;rcases bj.1 hx with hx|hx
   ·exact h1 x hx
   ·rw[dg]at hx;subst hx;exact q2
 ·rw[am c];exact .some (.inr ⟨by simp,E,rfl,h3,h1⟩)
theorem Zt5 {l:Rw} (hs:Src l) (hl:l.length<=60):∃E:List Evn,M0 [.view Aa l]=some [.view kPt (E.map evR)]/\E.length<=60/\∀e∈E,EvOK e:=by
 obtain⟨o,h1,E,rfl,h2,h3⟩:=Zes (ME:=Lk) (MF:=CG) (by omega) (HB hs) (Q9h l) λcycle k=>Zic (HB hs) cycle k;refine⟨E,?_,by omega,h3⟩;show Qi3 Lk BG F5 CG (An _) [.view Aa l]=_;rw[Zue,Ri];simp only[af,gA,wA,bA,jA,CZ,Em,Dw,BS];rw[h1];rfl
theorem Zp5 {MN MF:Fn} {l:Rw} (hN:GI l MN) (hF:MF [.view Aa l]=some [.view Aa l,I 0]):
  ∃a b c:Int,We MN MF [.view Aa l]=some [I a,I b,I c]/\(1<=a/\a<=900)/\(2<=b/\b<=201)/\(1<=c/\c<=16000):=by
 obtain⟨v,k1,g1,v0,v1,-⟩:=hN 0 (n:=900) (by omega);obtain⟨w,k2,g2,w0,w1,-⟩:=hN k1 (n:=200) (by omega);obtain⟨y,k3,g3,y0,y1,-⟩:=hN k2 (n:=16000) (by omega);have g1':MN [I 900, .view Aa l,I 0]=some [I v, .view Aa l,I k1]:=g1;refine⟨1+v,2+w,1+y,?_,by omega,by omega,by omega⟩;rw[Zik,hF];simp only[af,gA,wA,bA,jA,CZ,Em,Dw,BS];rw[g1'];simp only[af,CZ,Em,Dw];rw[g2];simp only[af,CZ,Em,Dw];rw[g3];simp only[af,CZ,Em,Dw];rw[Ae (x:=1+v) (by omega),Ae (x:=2+w) (by omega),Ae (x:=1+y) (by omega)]
theorem Zf0 {MN MP MA MF:Fn} {l m:Rw} (hm:GI m MN) (hF:MF [.view Aa m]=some [.view Aa m,I 0]) {x:Ax3} (hA:MA [.view Aa l]=some (AK x)) (hx:Ax3M x) {a b c:Int} (hP:MP [.view Aa m]=some [I a,I b,I c]) (h1:1<=a/\a<=900) (h2:2<=b/\b<=201) (h3:1<=c/\c<=16000) (hml:m.length<=100000):
  ∃ramp lag:Int,VR MN MP MA MF [.view Aa l, .view Aa m]=some (AK x++[I a,I b,I c,I ramp,I lag])/\MachOK x a b c ramp lag:=by
 obtain⟨k0,hk0⟩:∃k0:Nat,mn 3 (m.length:Int)=k0:=⟨(mn 3 (m.length:Int)).toNat,by unfold mn;split<;>omega⟩;obtain⟨v,k1,g1,v0,v1,-⟩:=hm k0 (n:=60000) (by omega);obtain⟨w,k2,g2,w0,w1,-⟩:=hm k1 (n:=40) (by omega);refine⟨1+v,w,?_,⟨hx,⟨by omega,by omega,by omega⟩,by omega,by omega⟩⟩;rw[Zmq,hF,hA,hP];simp only[af,gA,wA,bA,jA,CZ,Em,Dw,BS];rw[hk0,g1];simp only[af,CZ,Em,Dw];rw[g2];simp only[af,CZ,Em,Dw];rw[Ae (x:=1+v) (by omega)];rfl
theorem Zmk {l m:Rw} (h1:Src l) (h2:Src m) (h3:m.length<=100000):∃(x:Ax3) (a b c ramp lag:Int),Mk [.view Aa l, .view Aa m]=some (AK x++[I a,I b,I c,I ramp,I lag])/\MachOK x a b c ramp lag:=by
 obtain⟨x,hA,hx⟩:=Zhg h1;obtain⟨a,b,c,hP,p1,p2,p3⟩:=Zp5 (MF:=CG) (HB h2) (Ri m);obtain⟨ramp,lag,g1,g2⟩:=Zf0 (MP:=QO) (MF:=CG) (HB h2) (Ri m) hA hx hP p1 p2 p3 h3;exact⟨x,a,b,c,ramp,lag,g1,g2⟩
theorem Zwa (L:List (Rw)) (hl:L.length<=1000):Out (λo=>o.1=1/\o.2=[B false]\/o.1=2/\∀l∈L,l.length<=60) (An T2 [.view [Kd.sl Aa] (L.map λl=>[.view Aa l]),I L.length,I ((0:Nat):Int)]):=by
 refine Cb (λi:Nat=>[.view [Kd.sl Aa] (L.map λl=>[.view Aa l]),I L.length,I (i:Int)]) (λi=>i<=L.length/\∀l∈L.take i,l.length<=60) (λi=>L.length-i) _ ?_ 0 (by simp);rintro i ⟨h1,h2⟩;rw[Zxn];refine .cond (λc=> ?_) λc=> .some (.inr ⟨by simp, .inr ⟨rfl,?_⟩⟩)
 ·have c:(i:Int)<(L.length:Int):=A6 c;have hi:i<L.length:=by omega
  refine .cond (λ_=> ?_) λe=>(inB (by omega) (by rw[ag];exact c) e).elim;rw[ak,GF [] _ i (by rw[ag];exact hi),List.getElem_map];refine .cond (λ_=> .some (.inr ⟨by simp, .inl ⟨rfl,rfl⟩⟩)) λq=> ?_;have q: ¬(L[i].length:Int)>60:=A2 q;rw[Ae (x:=(i:Int)+1) (by omega)];refine .some (.inl ⟨rfl,i+1,rfl,⟨by omega,?_⟩,by omega⟩);intro l hl;rw[List.take_add_one,ai hi]at hl;rcases bj.1 hl with hl|hl
  ·exact h2 l hl
  ·simp at hl;subst hl;omega
 ·have c: ¬(i:Int)<(L.length:Int):=A2 c;rw[List.take_of_length_le (by omega)]at h2;exact h2
theorem Zef {L:List (Rw)} (hl:L.length<=1000):∃b:Bool,KO [.view [Kd.sl Aa] (L.map λl=>[.view Aa l])]=some [B b]/\(b=true->∀l∈L,l.length<=60):=by
 obtain⟨o,h1,h2⟩:=Zwa L hl;have e:KO [.view [Kd.sl Aa] (L.map λl=>[.view Aa l])]=Yy (An T2) [.view [Kd.sl Aa] (L.map λl=>[.view Aa l])]:=rfl;rw[e,Z3l,ag];rw[show(0:Int)=((0:Nat):Int)from rfl,h1];obtain⟨o1,o2⟩:=o;rcases h2 with⟨q1,q2⟩|⟨q1,q2⟩
 ·dsimp only at q1 q2;subst q1 q2;exact⟨false,rfl,λh=>by cases h⟩
 ·dsimp only at q1 q2;subst q1;exact⟨true,rfl,λ_=>q2⟩
theorem Zkp (a b c d:Rw):∃q:Bool,Nl [.view Aa a, .view Aa b, .view Aa c, .view Aa d]=some [B q]/\(q=true->a.length<=60/\b.length<=60/\c.length<=60/\d.length<=60):=by
 obtain⟨q,h1,h2⟩:=Zef (L:=[a,b,c,d]) (by simp);refine⟨q,?_,λh=>⟨h2 h a (by simp),h2 h b (by simp),h2 h c (by simp),h2 h d (by simp)⟩⟩;show Qp6 KO _=_;rw[Z31];have h1':KO [.view [Kd.sl Aa] [[.view Aa a],[.view Aa b],[.view Aa c],[.view Aa d]]]=some [B q]:=h1;rw[h1'];rfl
abbrev Z0g:Itm:=⟨0,0,⟨0,0,0⟩,⟨0,0,0⟩,0,⟨0,0,0⟩,0,false,0,false,0,0,0,0,0,false⟩
def itK (K:Kf) (i:Int):Itm:=K.aA.getD i.toNat Z0g
def mkK (K:Kf) (i:Int):Mrk:=K.p.aD.getD i.toNat ⟨0,0,0⟩
theorem Jd {K:Kf} {i:Int} (h0:0<=i) (h1:i<K.aA.length):nth [] (K.aA.map Ah) i.toNat=Ah (itK K i):=by
 have h:i.toNat<K.aA.length:=by omega
 rw[Qr4 K h];unfold itK;rw[List.getD,ai h];rfl
theorem NK {K:Kf} {i:Int} (h0:0<=i) (h1:i<K.p.aD.length):nth [] (K.p.aD.map At) i.toNat=At (mkK K i):=by
 have h:i.toNat<K.p.aD.length:=by omega
 rw[Zqy K h];unfold mkK;rw[List.getD,ai h];rfl
theorem SS {K:Kf} (h:KOK K) {i:Int} (h0:0<=i) (h1:i<K.p.aD.length):0<=(mkK K i).item/\(mkK K i).item<K.aA.length/\i64 (mkK K i).at_:=by
 have hi:i.toNat<K.p.aD.length:=by omega
 unfold mkK;rw[List.getD,ai hi];exact h.aD _ (bq hi)
theorem inR {i:Int} {n:Nat} (h0:0<=i) (h1:i<(n:Int)):(decide (0<=i)&&decide (i<(n:Int)))=true:=by
 rw[al h0,al h1];rfl
theorem inM {β:Type} {f:β->List AC} {i:Int} {l:List β} (h0:0<=i) (h1:i<(l.length:Int)):(decide (0<=i)&&decide (i<((l.map f).length:Int)))=true:=inR h0 (by rw[ag];exact h1)
def DX (K:Kf) (c:Cv):Option Sgm:=K.p.aF[(Bp K.p.aF (max (AG K c) 0)).1]?
def sgK (K:Kf) (c:Cv):Sgm:=(DX K c).getD sg0
theorem Qid {K:Kf} {c:Cv} {g:Sgm} (h:DX K c=some g):g∈K.p.aF:=bn h
theorem GJ {K:Kf} (h:KOK K) {c:Cv} (hl:(sgK K c).lead≠0):0<=(sgK K c).item/\(sgK K c).item<K.aA.length/\i64 (sgK K c).lead:=by
 unfold sgK at hl⊢;cases e:DX K c with
 |none=>rw[e]at hl;exact absurd rfl hl
 |some g=>exact h.aF g (Qid e)
theorem Zm3 {MF MP:Fn} {K:Kf} {c:Cv} (hP:MP (Ab K c)=some [I (AG K c)])
  (hF:MF (Bj K.p++[I (AG K c)])=if K.p.aF=[]then some [I (-1),I 0]else some [I (Bp K.p.aF (max (AG K c) 0)).1,I (Bp K.p.aF (max (AG K c) 0)).2]):
  WD MF MP (Ab K c)=some (Au (sgK K c)++[B (DX K c).isSome]):=by
 rw[Zxo];refine eB hP (Eq.trans (congrArg (λz=>Option.bind z _) (show MF (Bj K.p++[I (AG K c)])=_ from hF)) ?_);by_cases e:K.p.aF=[]
 ·have e2:DX K c=none:=by unfold DX;rw[e];rfl
  unfold sgK;rw[aa e,e2];rfl
 ·have hl:=Qhw K.p.aF (max (AG K c) 0) e;have e2:DX K c=some K.p.aF[(Bp K.p.aF (max (AG K c) 0)).1]:=ai hl;unfold sgK;rw[ab e,e2];refine eB rfl (eF (am (show¬((Bp K.p.aF (max (AG K c) 0)).1:Int)<0 by omega)) (eT (inM (f:=Au) (l:=K.p.aF) (i:=((Bp K.p.aF (max (AG K c) 0)).1:Int)) (by omega) (by omega)) ?_));have er:nth [] (K.p.aF.map Au) ((Bp K.p.aF (max (AG K c) 0)).1:Int).toNat=Au K.p.aF[(Bp K.p.aF (max (AG K c) 0)).1]:=by
   rw[ak,GF [] _ _ (by rw[ag];exact hl),List.getElem_map]
  show some (AN Ag (nth [] (K.p.aF.map Au) ((Bp K.p.aF (max (AG K c) 0)).1:Int).toNat)++[B true])=_;rw[er];rfl
theorem RU {K:Kf} (h:KOK K) (c:Cv):EP (Ab K c)=some (Au (sgK K c)++[B (DX K c).isSome]):=
 Zm3 (LH h c) (Qpb h.f.p.ok (Qjb h.f _))
def HY (K:Kf) (c:Cv):Bool:=(DX K c).isSome&&((itK K (sgK K c).item).kind==6&&c.y0==(sgK K c).item)
theorem Zjq {M:Fn} {K:Kf} {c:Cv} (h:KOK K) (hS:M (Ab K c)=some (Au (sgK K c)++[B (DX K c).isSome])):Qmk M (Ab K c)=some [B (HY K c)]:=by
 rw[Z0w,hS];unfold HY sgK;cases e:DX K c with
 |none=>rfl
 |some g=>
  obtain⟨q1,q2,-⟩:=h.aF g (Qid e);refine eB rfl (eT rfl (eT (inM (f:=Ah) q1 q2) ?_));show cond (gA (nth [] (K.aA.map Ah) g.item.toNat) 0==6) (some [B (c.y0==g.item)]) (some [B false])=some [B (true&&((itK K g.item).kind==6&&c.y0==g.item))];rw[Jd q1 q2];show cond ((itK K g.item).kind==6) (some [B (c.y0==g.item)]) (some [B false])=_;cases((itK K g.item).kind==6)<;>rfl
theorem Zav {K:Kf} (h:KOK K) (c:Cv):Kx (Ab K c)=some [B (HY K c)]:=Zjq h (RU h c)
def spV (c:Cv) (ramp:Int):Int:=if c.s1<c.s2 then mn (wrap .i64 (c.s1+ramp)) c.s2 else mx (wrap .i64 (c.s1-ramp)) c.s2
def spS (c:Cv) (ramp:Int):Cv:={c with s1:=spV c ramp,s3:=wrap .i64 (c.s3+wrap .i64 (c.s0*spV c ramp))}
theorem Q29 (c:Cv) (ramp:Int):JW [I c.s0,I c.s1,I c.s2,I c.s3,I ramp]=some [I (spS c ramp).s0,I (spS c ramp).s1,I (spS c ramp).s2,I (spS c ramp).s3]:=by
 show Xf _=_;rw[Z01];show _=some [I c.s0,I (spV c ramp),I c.s2,I (wrap .i64 (c.s3+wrap .i64 (c.s0*spV c ramp)))];unfold spV;by_cases h:c.s1<c.s2
 ·rw[BH (al h),aa h]
 ·rw[Bw (am h),ab h]
def C7 (c:Cv):Bool:=c.m1==0&&(c.m2==0&&(c.m3==c.m0&&c.m4==c.m0))
theorem Qbd (c:Cv):Ht [I c.m0,I c.m1,I c.m2,I c.m3,I c.m4,I c.m5]=some [B (C7 c)]:=by
 show Qny _=_;rw[Zv2];unfold C7;cases(c.m1==0)<;>cases(c.m2==0)<;>cases(c.m3==c.m0)<;>rfl
def Qt (b:Bool) (n:Int):Bool:=if n=0 then false else if n=1 then true else b
theorem Qz9 (b:Bool) (n:Int):Qd [B b,I n]=some [B (Qt b n)]:=by
 show Qcg _=_;rw[Zgv];unfold Qt;by_cases h:n=0
 ·rw[aa h,BH (by simpa using h)]
 ·rw[ab h,Bw (by simpa using h)];by_cases h:n=1
  ·rw[aa h,BH (by simpa using h)]
  ·rw[ab h,Bw (by simpa using h)]
def Oz (k n:Int):Bool:=k==9||(k==8&&(decide (0<=n)&&decide (n<=2)))
def evC (c:Cv) (k n:Int):Cv:={c with
 o0:=if k=1/\0<=n/\n<=200 then n else c.o0
 o1:=if k=2/\0<=n/\n<=100 then n else c.o1
 o2:=if k=3\/k=11 then true else if k=4 then false else c.o2
 o3:=if k=5 then Qt c.o3 n else c.o3
 o4:=if k=6 then Qt c.o4 n else c.o4
 g0:=if k=10 then 2 else if k=11 then 0 else if Oz k n=true then(if c.g0=2 then 2 else 1)else c.g0
 g1:=if k=10 then 22 else if k=11 then 0 else if Oz k n=true/\c.g0≠2/\c.g1=0 then(if k=9 then 21 else 20)else c.g1
 g2:=if k=10 then-1 else if k=11 then-1 else if Oz k n=true/\c.g0≠2/\c.g1=0 then(if k=9 then-1 else n)else c.g2
 aJ:=if k=4 then true else c.aJ}
theorem Qxa {M:Fn} (hM:∀(b:Bool) (n:Int),M [B b,I n]=some [B (Qt b n)]) (c:Cv) (x k n:Int) (hk:k≠11):
  UF M [I c.o0,I c.o1,B c.o2,B c.o3,B c.o4,I x,I k,I n]=some [I (evC c k n).o0,I (evC c k n).o1,B (evC c k n).o2,B (evC c k n).o3,B (evC c k n).o4]:=by
 rw[Q95];unfold evC;simp only[hM];by_cases h1:k=1
 ·subst h1;by_cases a:0<=n<;>by_cases b:n<=200<;>simp[a,b]
 ·by_cases h2:k=2
  ·subst h2;by_cases a:0<=n<;>by_cases b:n<=100<;>simp[a,b]
  ·by_cases h3:k=3
   ·subst h3;simp
   ·by_cases h4:k=4
    ·subst h4;simp
    ·by_cases h5:k=5
     ·subst h5;simp[gA,bA,nth,Dl]
     ·by_cases h6:k=6
      ·subst h6;simp[gA,bA,nth,Dl]
      ·simp only[beF h1,beF h2,beF h3,beF h4,beF h5,beF h6,an];simp[h1,h2,h3,h4,h5,h6,hk]
theorem Zpt {M:Fn} (c:Cv) (x n:Int):
  UF M [I c.o0,I c.o1,B c.o2,B c.o3,B c.o4,I x,I 11,I n]=some [I c.o0,I c.o1,B c.o2,B c.o3,B c.o4]:=by
 rw[Q95];rfl
theorem Qyz (a b d e f:Int):Po [I a,I b,I d,I e,I f]=some (if a=2 then [I a,I b,I d]else if b=0 then [I 1,I e,I f]else [I 1,I b,I d]):=by
 show Qpw _=_;rw[Zjp];by_cases h:a=2
 ·rw[aa h,BH (by simpa using h)]
 ·rw[ab h,Bw (by simpa using h)];by_cases h:b=0
  ·rw[aa h,BH (by simpa using h)]
  ·rw[ab h,Bw (by simpa using h)]
theorem Q7k {MS MT:Fn} (hS:MS []=some [I 0,I 0,I (-1)]) (hT:∀a b d e f:Int,MT [I a,I b,I d,I e,I f]=some (if a=2 then [I a,I b,I d]else if b=0 then [I 1,I e,I f]else [I 1,I b,I d])) (c:Cv) (x k n:Int):
  Qoi MS MT [I c.g0,I c.g1,I c.g2,I x,I k,I n]=some [I (evC c k n).g0,I (evC c k n).g1,I (evC c k n).g2]:=by
 rw[Zxb];unfold evC;simp only[hT,hS];by_cases h1:k=10
 ·subst h1;rfl
 ·by_cases h2:k=9
  ·subst h2;by_cases a:c.g0=2<;>by_cases b:c.g1=0<;>simp[Oz,a,b,gA,jA,nth,Af]
  ·by_cases h3:k=8
   ·subst h3;by_cases u:0<=n<;>by_cases v:n<=2<;>by_cases a:c.g0=2<;>by_cases b:c.g1=0<;>simp[Oz,a,b,u,v,gA,jA,nth,Af]
   ·by_cases h4:k=11
    ·subst h4;rfl
    ·simp only[beF h1,beF h2,beF h3,beF h4,an];simp[Oz,h1,h2,h3,h4]
theorem Zcs {MR MT ML MG' MO:Fn} {K:Kf} (c:Cv) (x:Int) {k:Int} (n:Int) (hk:k≠7/\k≠12/\k≠13)
  (hO:k≠11->MO [I c.o0,I c.o1,B c.o2,B c.o3,B c.o4,I x,I k,I n]=some [I (evC c k n).o0,I (evC c k n).o1,B (evC c k n).o2,B (evC c k n).o3,B (evC c k n).o4])
  (hO2:k=11->MO [I c.o0,I c.o1,B c.o2,B c.o3,B c.o4,I x,I k,I n]=some [I c.o0,I c.o1,B c.o2,B c.o3,B c.o4])
  (hG:MG' [I c.g0,I c.g1,I c.g2,I x,I k,I n]=some [I (evC c k n).g0,I (evC c k n).g1,I (evC c k n).g2]):
  Uh MR MT ML MG' MO (I x::I k::I n::Ab K c)=some (Ab K (evC c k n)):=by
 rw[Q1e];by_cases h:k=11
 ·rw[hO2 h,hG];subst h;rfl
 ·rw[hO h,hG];simp only[af];rw[Bw (by simpa using hk.2.2),Bw (by simpa using h),Bw (by simpa using hk.2.1),Bw (by simpa using hk.1)];by_cases h4:k=4
  ·subst h4;rfl
  ·rw[Bw (by simpa using h4)];have e:(evC c k n).aJ=c.aJ:=by unfold evC;simp[h4]
   rw[<-e];rfl
theorem Q3n {K:Kf} (c:Cv) (x:Int) {k:Int} (n:Int) (hk:k≠7/\k≠12/\k≠13):JL (I x::I k::I n::Ab K c)=some (Ab K (evC c k n)):=
 Zcs c x n hk (λh=>Qxa Qz9 c x k n h) (λh=>by subst h;exact Zpt c x n) (Q7k (by show Pw []=_;rw[Zi]) Qyz c x k n)
end Go.Bm
noncomputable section
namespace Go.Bm
def one (M:Fn) (l:List AC):Int:=gA ((M l).getD []) 0
theorem Qdg {M:Fn} {l:List AC} {v:Int} (h:M l=some [I v]):M l=some [I (one M l)]:=by
 unfold one;rw[h];rfl
def HH (k:Int) (c:Cv):Bool:=k==1||(k==3||(k==6||(k==4&&(c.o4||c.o3)||k==2&&c.o3)))
theorem Q84 (at_ k it:Int) (c:Cv):Ir [I at_,I k,I it,I c.o0,I c.o1,B c.o2,B c.o3,B c.o4]=some [B (HH k c)]:=by
 show Zp _=_;rw[Zqo];unfold HH;by_cases h1:k=1
 ·subst h1;rfl
 by_cases h2:k=3
 ·subst h2;rfl
 by_cases h3:k=6
 ·subst h3;rfl
 by_cases h4:k=4
 ·subst h4;cases c.o4<;>cases c.o3<;>rfl
 by_cases h5:k=2
 ·subst h5;cases c.o3<;>rfl
 simp[beF h1,beF h2,beF h3,beF h4,beF h5]
def Hc (c:Cv) (known frm:Int):List Mrk->Nat->Int×Int
 |[],_=>(known,-1)
 |m::l,i=>if HH m.kind c=true/\frm<=m.at_/\m.at_<=known then(m.at_,i)else Hc c known frm l (i+1)
def B1 (K:Kf) (c:Cv) (known frm:Int):Int×Int:=Hc c known frm (K.p.aD.drop (max c.next 0).toNat) (max c.next 0).toNat
theorem Znb {M:Fn} {K:Kf} (hl:K.p.aD.length<=1000000) (c:Cv) (hM:∀at_ k it:Int,M [I at_,I k,I it,I c.o0,I c.o1,B c.o2,B c.o3,B c.o4]=some [B (HH k c)]) (known frm:Int):
  Vg M (An (Sy M)) [.view kPt (K.p.aD.map At),I c.next,I c.o0,I c.o1,B c.o2,B c.o3,B c.o4,I known,I frm]=some [I (B1 K c known frm).1,I (B1 K c known frm).2]:=by
 rw[Zgr];have hmx:mx c.next 0=max c.next 0:=by unfold mx;split<;>omega
 have key:Out (λo=>(if o.1=1 then o.2=[I (B1 K c known frm).1,I (B1 K c known frm).2]else o.1=2/\o.2=[I (B1 K c known frm).1]/\(B1 K c known frm).2= -1)) (An (Sy M) [.view kPt (K.p.aD.map At),I known,I frm,I (max c.next 0),I c.o0,I c.o1,B c.o2,B c.o3,B c.o4]):=by
  refine Cb (λs:Int=>[.view kPt (K.p.aD.map At),I known,I frm,I s,I c.o0,I c.o1,B c.o2,B c.o3,B c.o4]) (λs=>0<=s/\B1 K c known frm=Hc c known frm (K.p.aD.drop s.toNat) s.toNat) (λs=>(K.p.aD.length-s).toNat) _ ?_ (max c.next 0) ⟨by omega,rfl⟩;rintro i ⟨g,hw⟩;rw[Zcp];refine .cond (λk=> ?_) λk=> ?_
  ·have k:i<((K.p.aD.map At).length:Int):=A6 k;rw[ag]at k;have hi:i.toNat<K.p.aD.length:=by omega
   rw[Ae (x:=i+1) (by have:=hl;omega)];have em:mkK K i=K.p.aD[i.toNat]:=by unfold mkK;rw[List.getD,ai hi];rfl
   rw[List.drop_eq_getElem_cons hi,<-em]at hw;unfold Hc at hw;refine .cond (λ_=> ?_) λe=>(inB g (by rw[ag];exact k) e).elim;rw[NK g k];refine .bind (p:=λo=>o=_) ⟨_,hM _ _ _,rfl⟩ λo e=> ?_;subst e;have next:B1 K c known frm=Hc c known frm (K.p.aD.drop (i.toNat+1)) (i.toNat+1)->Out (λo:Nat×List AC=>(o.1=0/\∃s':Int,o.2=[.view kPt (K.p.aD.map At),I known,I frm,I s',I c.o0,I c.o1,B c.o2,B c.o3,B c.o4]/\(0<=s'/\B1 K c known frm=Hc c known frm (K.p.aD.drop s'.toNat) s'.toNat)/\(K.p.aD.length-s').toNat<(K.p.aD.length-i).toNat)\/(o.1≠0/\(if o.1=1 then o.2=[I (B1 K c known frm).1,I (B1 K c known frm).2]else o.1=2/\o.2=[I (B1 K c known frm).1]/\(B1 K c known frm).2= -1))) (some (0,[.view kPt (K.p.aD.map At),I known,I frm,I (i+1),I c.o0,I c.o1,B c.o2,B c.o3,B c.o4])):=λe=>
    .some (.inl ⟨rfl,i+1,rfl,⟨by omega,by rw[e,show(i+1).toNat=i.toNat+1 by omega]⟩,by omega⟩)
   refine .cond (λa=> .cond (λb=> .cond (λd=> ?_) λd=> ?_) λb=> ?_) λa=> ?_
   ·have a:HH (mkK K i).kind c=true:=a;have b:frm<=(mkK K i).at_:=A6 b;have d:(mkK K i).at_<=known:=A6 d;rw[aa ⟨a,b,d⟩]at hw;refine .some (.inr ⟨by simp,?_⟩);rw[aa rfl,hw];show [I (mkK K i).at_,I i]=[I (mkK K i).at_,I (i.toNat:Int)];rw[Int.toNat_of_nonneg g]
   ·have d: ¬(mkK K i).at_<=known:=A2 d;rw[ab (λh=>d h.2.2)]at hw;exact next hw
   ·have b: ¬frm<=(mkK K i).at_:=A2 b;rw[ab (λh=>b h.2.1)]at hw;exact next hw
   ·have a:HH (mkK K i).kind c=false:=a;rw[ab (λh=>by rw[a]at h;cases h.1)]at hw;exact next hw
  ·have k: ¬i<((K.p.aD.map At).length:Int):=A2 k;rw[ag]at k;rw[List.drop_of_length_le (by omega)]at hw;refine .some (.inr ⟨by simp,?_⟩);rw[ab (by simp),hw];exact⟨rfl,rfl,rfl⟩
 obtain⟨⟨o1,o2⟩,h1,h2⟩:=key;rw[hmx];refine eB h1 ?_;by_cases e:o1=1
 ·subst e;have h2:o2=_:=h2;subst h2;rfl
 ·rw[ab e]at h2;obtain⟨q1,q2,q3⟩:=h2;dsimp only at q1 q2;subst q1 q2;rw[q3];rfl
theorem Zd4 {K:Kf} (h:KOK K) (c:Cv) (known frm:Int):PU [.view kPt (K.p.aD.map At),I c.next,I c.o0,I c.o1,B c.o2,B c.o3,B c.o4,I known,I frm]=some [I (B1 K c known frm).1,I (B1 K c known frm).2]:=
 Znb h.count c (λat_ k it=>Q84 at_ k it c) known frm
theorem Qzz {c:Cv} {known frm:Int} (hk:i64 known):∀{l:List Mrk} {i:Nat},(∀m∈l,i64 m.at_)->i64 (Hc c known frm l i).1
 |[],_,_=>hk
 |m::l,i,h=>by
  unfold Hc;split
  ·exact h m (by simp)
  ·exact Qzz hk λq hq=>h q (by simp[hq])
theorem Q5r {c:Cv} {known frm:Int}:∀{l:List Mrk} {i:Nat},(Hc c known frm l i).2= -1\/((i:Int)<=(Hc c known frm l i).2/\(Hc c known frm l i).2<(i+l.length:Nat))
 |[],_=> .inl rfl
 |m::l,i=>by
  unfold Hc;split
  ·exact .inr ⟨df _,by simp only[bh];omega⟩
  ·rcases Q5r (l:=l) (i:=i+1) (c:=c) (known:=known) (frm:=frm)with h|⟨h1,h2⟩
   ·exact .inl h
   ·exact .inr ⟨by omega,by simp only[bh];omega⟩
theorem Zl4 {K:Kf} {c:Cv} {known frm:Int}:(B1 K c known frm).2= -1\/(0<=(B1 K c known frm).2/\c.next<=(B1 K c known frm).2/\(B1 K c known frm).2<K.p.aD.length):=by
 unfold B1;rcases Q5r (c:=c) (known:=known) (frm:=frm) (l:=K.p.aD.drop (max c.next 0).toNat) (i:=(max c.next 0).toNat)with h|⟨h1,h2⟩
 ·exact .inl h
 ·rw[da]at h2;exact .inr ⟨by omega,by omega,by omega⟩
def Th (K:Kf) (c:Cv):Int:=one F2 [I K.pa,I K.pb,I K.pc,I c.m0,I c.m1,I c.m2,I c.m3,I c.m4,I c.m5]
def FC (K:Kf):Int:=if K.closed=true then K.len else K.set
def FY (r:Int):Int:=wrap .i64 ((wrap .i64 (wrap .i64 (r+256)-1)).tdiv 256)
def LJ (K:Kf) (r:Int):Int:=if Je K.t (A_ K.t (FY r))≠FY r then wrap .i64 (A_ K.t (FY r)+1)else A_ K.t (FY r)
def By (K:Kf) (c:Cv):Int×Int:=(Je K.t (B1 K c (FC K) (LJ K (Th K c))).1,(B1 K c (FC K) (LJ K (Th K c))).2)
theorem Qup (K:Kf) (c:Cv):(By K c).2= -1\/(0<=(By K c).2/\c.next<=(By K c).2/\(By K c).2<K.p.aD.length):=Zl4
theorem Zut {K:Kf} (h:KOK K):i64 (FC K):=by unfold FC;split;exact h.len;exact h.set
theorem Qvg {K:Kf} (h:KOK K) {c:Cv} {frm:Int}:i64 (B1 K c (FC K) frm).1:=by
 unfold B1;exact Qzz (Zut h) λm hm=>(h.aD m (de hm)).2.2
theorem Zfp {MN MW MP MR:Fn} {K:Kf} {c:Cv} {r:Int} {b:Bool} (h:KOK K)
  (hR:MR [I K.pa,I K.pb,I K.pc,I c.m0,I c.m1,I c.m2,I c.m3,I c.m4,I c.m5]=some [I r,B b])
  (hP:∀u,MP (AW K.t++[I u])=some [I (A_ K.t u)]) (hW:∀{z:Int},i64 z->MW (AW K.t++[I z])=some [I (Je K.t z)])
  (hN:∀known frm,MN [.view kPt (K.p.aD.map At),I c.next,I c.o0,I c.o1,B c.o2,B c.o3,B c.o4,I known,I frm]=some [I (B1 K c known frm).1,I (B1 K c known frm).2]):
  Xq MN MW MP MR (Ab K c)=some (I (Je K.t (B1 K c (FC K) (LJ K r)).1)::I (B1 K c (FC K) (LJ K r)).2::Ab K c):=by
 have key:∀known:Int,known=FC K->SG MR K c MP MW MN (I known)=some (I (Je K.t (B1 K c (FC K) (LJ K r)).1)::I (B1 K c (FC K) (LJ K r)).2::Ab K c):=λknown hk=>by
  subst hk;refine eB hR (eB (hP (FY r)) (eB (hW (Qjb h.f _)) ?_));have e1:LJ K r=if Je K.t (A_ K.t (FY r))≠FY r then wrap .i64 (A_ K.t (FY r)+1)else A_ K.t (FY r):=rfl;by_cases c1:Je K.t (A_ K.t (FY r))=FY r
  ·rw[ab (by simpa using c1)]at e1;refine eF (bnF c1) ?_;exact eB (hN (FC K) (A_ K.t (FY r))) (by rw[<-e1];exact eB (hW (Qvg h)) rfl)
  ·rw[aa c1]at e1;refine eT (bnT c1) ?_;exact eB (hN (FC K) (wrap .i64 (A_ K.t (FY r)+1))) (by rw[<-e1];exact eB (hW (Qvg h)) rfl)
 rw[Z6q];refine eC (λe=>key _ ?_) λe=>key _ ?_
 ·unfold FC;rw[aa e]
 ·unfold FC;rw[ab (by rw[e];simp)]
theorem Zp0 {M:Fn} {l:List AC} (h:Out (λo=>(wA o 0).length<=4096) (M l)) {x0 x1 x2 x3 x4 x5 x6 x7 x8:Int} (e:l=[I x0,I x1,I x2,I x3,I x4,I x5,I x6,I x7,I x8]):∃(r:Int) (b:Bool),OT M l=some [I r,B b]:=by
 subst e;have key:Out (λo=>∃(r:Int) (b:Bool),o=[I r,B b]) (OT M [I x0,I x1,I x2,I x3,I x4,I x5,I x6,I x7,I x8]):=by
  rw[VF];refine .bind h λo g=> .cond (λ_=> .some ⟨0,false,rfl⟩) λ_=> ?_;generalize wA o 0=sp at*;refine .cond (λ_=> .some ⟨x3,true,rfl⟩) λc=> .cond (λ_=> .some ⟨_,true,rfl⟩) λd=> ?_;have c: ¬((sp.length:Int)=0):=by simpa using c
  rw[Ae (by omega)]at d;simp at d;omega
 obtain⟨o,h1,r,b,rfl⟩:=key;exact⟨r,b,h1⟩
theorem Zge (x0 x1 x2 x3 x4 x5 x6 x7 x8:Int):∃b:Bool,F2 [I x0,I x1,I x2,I x3,I x4,I x5,I x6,I x7,I x8]=some [I (one F2 [I x0,I x1,I x2,I x3,I x4,I x5,I x6,I x7,I x8]),B b]:=by
 obtain⟨r,b,h⟩:=Zp0 (M:=Fz) (Z1 x0 x1 x2 x3 x4 x5 x6 x7 x8) rfl;have h:F2 [I x0,I x1,I x2,I x3,I x4,I x5,I x6,I x7,I x8]=some [I r,B b]:=h;refine⟨b,?_⟩;unfold one;rw[h];rfl
theorem Z08 {K:Kf} (h:KOK K) (c:Cv):Q1 (Ab K c)=some (I (By K c).1::I (By K c).2::Ab K c):=by
 obtain⟨b,hb⟩:=Zge K.pa K.pb K.pc c.m0 c.m1 c.m2 c.m3 c.m4 c.m5;exact Zfp h hb (Rx h.f.t.q) (λhz=>Zj8 h.f.t.q hz) (Zd4 h c)
def Us (c:Cv) (v:Int):Cv:={c with m0:=wrap .i64 (c.m0+v),m1:=v,m2:=wrap .i64 (v-c.m1),m3:=c.m0,m4:=c.m3,m5:=c.m4}
def Df (K:Kf) (c:Cv) (l:Int):Cv:=Us c (nxV K c l)
theorem Tx {K:Kf} {c:Cv} {n:Int} (h:KOK K) (g:Gd K n c) (l:Int):
  FK (nxL K c l)=some (Es c.m0 c.m1 c.m3 c.m4 (nxV K c l))/\((Bo K.pa K.pb (nxV K c l) (wrap .i64 (nxV K c l-c.m1))).2=true\/∃r:Int,nxV K c l=wrap .i64 (c.m1+r)/\r=AI K.pa K.pb c.m1 c.m2):=by
 obtain⟨o,h1,v,rfl,h2⟩:=Qzv h g.mo l c.o2;have h1:FK (nxL K c l)=some (Es c.m0 c.m1 c.m3 c.m4 v):=h1;have e:nxV K c l=v:=by unfold nxV;rw[h1];rfl
 rw[e];exact⟨h1,h2⟩
theorem Zkg {M:Fn} {K:Kf} {c:Cv} {l v:Int} (h:M (nxL K c l)=some (Es c.m0 c.m1 c.m3 c.m4 v)):Qg6 M (I l::Ab K c)=some (Ab K (Us c v)):=by
 rw[Za2];exact eB h rfl
theorem Qbs {K:Kf} {c:Cv} {n:Int} (h:KOK K) (g:Gd K n c) (l:Int):HZ (I l::Ab K c)=some (Ab K (Df K c l)):=Zkg (Tx h g l).1
theorem Qmg {K:Kf} {c:Cv} {n:Int} (h:KOK K) (g:Gd K n c) (hn:0<=n/\n<=10000) (l:Int):Gd K (n+1) (Df K c l):=g.move h hn (Tx h g l).2
def HN (c:Cv):Cv:={c with next:=wrap .i64 (c.idx+1),on:=false,idx:=0,aN:=false,cnt:=0}
def Ow (c:Cv) (n sp:Int):List AC:=(Mh [I c.s0,I c.s1,I c.s2,I c.s3,I n,I sp]).getD []
def I_ (c:Cv) (n sp:Int):Cv:={c with s0:=gA (Ow c n sp) 0,s1:=gA (Ow c n sp) 1,s2:=gA (Ow c n sp) 2,s3:=gA (Ow c n sp) 3}
def Qrx (c:Cv) (n sp:Int):Bool:=bA ((Oj [I c.s0,I c.s1,I c.s2,I c.s3,I n,I sp]).getD []) 0
def GL (K:Kf) (c:Cv):Int×Cv:=
 if c.aN=true then(if c.cnt>1/\c.aJ=true then(3,HN c)else(2,c))
 else if(mkK K c.idx).kind≠3 then(3,HN c)
 else if(itK K (mkK K c.idx).item).kind=7 then(if c.cnt<(itK K (mkK K c.idx).item).n then(3,c)else(3,HN c))
 else if(itK K (mkK K c.idx).item).kind=8 then(if Qrx (I_ c (itK K (mkK K c.idx).item).n (itK K (mkK K c.idx).item).speed) (itK K (mkK K c.idx).item).n (itK K (mkK K c.idx).item).speed=true then(3,HN (I_ c (itK K (mkK K c.idx).item).n (itK K (mkK K c.idx).item).speed))else(3,I_ c (itK K (mkK K c.idx).item).n (itK K (mkK K c.idx).item).speed))
 else if(itK K (mkK K c.idx).item).kind=14 then(7,{c with aI:=7})else(3,HN c)
def CT (c:Cv):Cv:={c with cnt:=wrap .i64 (c.cnt+1)}
def Bx (K:Kf) (c:Cv):Int×Cv:=GL K (CT c)
theorem Zu4 {MR MC MD:Fn} {K:Kf} {c:Cv} (h:KOK K) (h0:0<=c.idx) (h1:c.idx<K.p.aD.length)
  (hD:∀c:Cv,MD (Ab K c)=some (I 3::Ab K (HN c)))
  (hC:∀(c:Cv) (x4 x5:Int),i64 x5->MC [I c.s0,I c.s1,I c.s2,I c.s3,I x4,I x5]=some (Ow c x4 x5)) (hR:∀(c:Cv) (x4 x5:Int),i64 x5->Out (λo=>bA o 0=Qrx c x4 x5) (MR [I c.s0,I c.s1,I c.s2,I c.s3,I x4,I x5])):
  W6 MR MC MD (Ab K c)=some (I (Bx K c).1::Ab K (Bx K c).2):=by
 rw[Zrp];have hm:=SS h h0 h1;unfold Bx GL;refine eC (λa=> ?_) λa=> ?_
 ·rw[aa (show(CT c).aN=true from a)];refine eC (λb=>eC (λe=> ?_) λe=> ?_) λb=> ?_
  ·rw[aa (show(CT c).cnt>1/\(CT c).aJ=true from⟨A6 b,e⟩)];exact eB (hD (CT c)) rfl
  ·rw[ab (show¬((CT c).cnt>1/\(CT c).aJ=true)from λq=>by have:=q.2;rw[show(CT c).aJ=false from e]at this;cases this)];rfl
  ·rw[ab (show¬((CT c).cnt>1/\(CT c).aJ=true)from λq=>A2 b q.1)];rfl
 ·rw[ab (show¬(CT c).aN=true by rw[show(CT c).aN=false from a];simp)];refine eT (inM (f:=At) h0 h1) ?_;rw[NK h0 h1];rw[show(CT c).idx=c.idx from rfl];refine eC (λb=> ?_) λb=> ?_
  ·have b:(mkK K c.idx).kind≠3:=by simpa [gA,nth,Af]using b
   rw[aa b];exact eB (hD (CT c)) rfl
  ·have b:(mkK K c.idx).kind=3:=by simpa [gA,nth,Af]using b
   rw[ab (by rw[b];simp)];refine eT (inM (f:=Ah) (l:=K.aA) (i:=(mkK K c.idx).item) hm.1 hm.2.1) ?_;have er:nth [] (K.aA.map Ah) (gA (At (mkK K c.idx)) 2).toNat=Ah (itK K (mkK K c.idx).item):=Jd hm.1 hm.2.1;rw[er];have hsp:(itK K (mkK K c.idx).item).kind=8->i64 (itK K (mkK K c.idx).item).speed:=λk8=>by
    have:=Ztc h (mkK K c.idx).item.toNat;rw[Jd hm.1 hm.2.1]at this;exact this k8
   generalize itK K (mkK K c.idx).item=it at*;refine eC (λk=> ?_) λk=> ?_
   ·have k:it.kind=7:=eq_of_beq k;rw[aa k];refine eC (λq=> ?_) λq=> ?_
    ·rw[aa (show(CT c).cnt<it.n from A6 q)];rfl
    ·rw[ab (show¬(CT c).cnt<it.n from A2 q)];exact eB (hD (CT c)) rfl
   ·have k:it.kind≠7:=by simpa [gA,nth,Af]using k
    rw[ab k];refine eC (λk8=> ?_) λk8=> ?_
    ·have k8:it.kind=8:=eq_of_beq k8;rw[aa k8];refine eB (hC (CT c) it.n it.speed (hsp k8)) ?_;obtain⟨o,h5,h6⟩:=hR (I_ (CT c) it.n it.speed) it.n it.speed (hsp k8);refine eB h5 ?_;rw[<-h6];refine eC (λq=> ?_) λq=> ?_
     ·rw[ab (show¬bA o 0=true by simpa using q)];rfl
     ·rw[aa (show bA o 0=true by simpa using q)];exact eB (hD (I_ (CT c) it.n it.speed)) rfl
    ·have k8:it.kind≠8:=by simpa [gA,nth,Af]using k8
     rw[ab k8];refine eC (λk=> ?_) λk=> ?_
     ·rw[aa (show it.kind=14 from eq_of_beq k)];rfl
     ·rw[ab (show it.kind≠14 by simpa [gA,nth,Af]using k)];exact eB (hD (CT c)) rfl
theorem W1 {l:Option (List AC)} (h:l.isSome=true):l=some (l.getD []):=by
 cases l with
 |none=>cases h
 |some o=>rfl
theorem Zen (c:Cv) (x4:Int) {x5:Int} (h:i64 x5):Mh [I c.s0,I c.s1,I c.s2,I c.s3,I x4,I x5]=some (Ow c x4 x5):=W1 (Z5c _ _ _ _ _ h)
theorem Z43 (K:Kf) (c:Cv):Nz (Ab K c)=some (I 3::Ab K (HN c)):=Zo4 K c
theorem Qbm {K:Kf} {c:Cv} (h:KOK K) (h0:0<=c.idx) (h1:c.idx<K.p.aD.length):KE (Ab K c)=some (I (Bx K c).1::Ab K (Bx K c).2):=
 Zu4 h h0 h1 (Z43 K) (λc x4 _ h=>Zen c x4 h) λc x4 x5 h=>⟨_,W1 (Zpf _ _ _ _ _ h),rfl⟩
def Gk (K:Kf) (c:Cv) (i:Int):Bool:=
 if(mkK K i).kind=1\/(mkK K i).kind=2\/(mkK K i).kind=6 then c.o3 else if(mkK K i).kind=4 then true
 else if(mkK K i).kind=3 then((itK K (mkK K i).item).kind==11||(itK K (mkK K i).item).kind==12)else false
def E_ (K:Kf) (c:Cv) (i:Int):Int×Cv:=Bx K {c with on:=true,idx:=i,aN:=Gk K c i,cnt:=0}
theorem Z3f {M:Fn} {K:Kf} {c:Cv} {i:Int} (h:KOK K) (h0:0<=i) (h1:i<K.p.aD.length)
  (hW:∀w:Bool,M (Ab K {c with on:=true,idx:=i,aN:=w,cnt:=0})=some (I (Bx K {c with on:=true,idx:=i,aN:=w,cnt:=0}).1::Ab K (Bx K {c with on:=true,idx:=i,aN:=w,cnt:=0}).2)):
  Qgm M (I i::Ab K c)=some (I (E_ K c i).1::Ab K (E_ K c i).2):=by
 rw[Zps];have hm:=SS h h0 h1;unfold E_;refine eT (inM (f:=At) h0 h1) ?_;rw[NK h0 h1];have fin:∀{w:Bool} {f:List AC->List AC},w=Gk K c i->(∀(m:Int) (c:Cv),f (I m::Ab K c)=I m::Ab K c)->((M (Ab K {c with on:=true,idx:=i,aN:=w,cnt:=0})).bind λo=>some (f o))=some (I (Bx K {c with on:=true,idx:=i,aN:=Gk K c i,cnt:=0}).1::Ab K (Bx K {c with on:=true,idx:=i,aN:=Gk K c i,cnt:=0}).2):=λhw hf=>by
  subst hw;refine eB (hW _) ?_;rw[hf]
 have ne:∀{n:Int},(gA (At (mkK K i)) 1==n)=false->(mkK K i).kind≠n:=λe=>by simpa [gA,nth,Af]using e
 have eq:∀{n:Int},(gA (At (mkK K i)) 1==n)=true->(mkK K i).kind=n:=λe=>eq_of_beq e;refine eC (λe=>fin (by unfold Gk;rw[aa (.inl (eq e))]) λ_ _=>rfl) λn1=> ?_;refine eC (λe=>fin (by unfold Gk;rw[aa (.inr (.inl (eq e)))]) λ_ _=>rfl) λn2=> ?_;refine eC (λe=>fin (by unfold Gk;rw[aa (.inr (.inr (eq e)))]) λ_ _=>rfl) λn6=> ?_;have no: ¬((mkK K i).kind=1\/(mkK K i).kind=2\/(mkK K i).kind=6):=by
  intro q;rcases q with q|q|q
  ·exact ne n1 q
  ·exact ne n2 q
  ·exact ne n6 q
 refine eC (λe=>fin (by unfold Gk;rw[ab no,aa (eq e)]) λ_ _=>rfl) λn4=> ?_;refine eC (λe=> ?_) λn3=>fin (by unfold Gk;rw[ab no,ab (ne n4),ab (ne n3)]) λ_ _=>rfl;refine eT (inM (f:=Ah) (l:=K.aA) (i:=(mkK K i).item) hm.1 hm.2.1) ?_;have er:nth [] (K.aA.map Ah) (gA (At (mkK K i)) 2).toNat=Ah (itK K (mkK K i).item):=Jd hm.1 hm.2.1;rw[er];have hw:Gk K c i=((itK K (mkK K i).item).kind==11||(itK K (mkK K i).item).kind==12):=by unfold Gk;rw[ab no,ab (ne n4),aa (eq e)]
 refine eC (λk=>fin (by rw[hw,show((itK K (mkK K i).item).kind==11)=true from k];rfl) λ_ _=>rfl) λk=>fin (by rw[hw,show((itK K (mkK K i).item).kind==11)=false from k];rfl) λ_ _=>rfl
theorem Zq7 {K:Kf} {c:Cv} {i:Int} (h:KOK K) (h0:0<=i) (h1:i<K.p.aD.length):QP (I i::Ab K c)=some (I (E_ K c i).1::Ab K (E_ K c i).2):=
 Z3f h h0 h1 λ_=>Qbm h h0 h1
def E2 (c:Cv):Cv:=if c.g0=0 then{c with o2:=true,g0:=1,g1:=18,g2:= -1}else c
theorem Qf2 (K:Kf) (c:Cv):GZ (Ab K c)=some (Ab K (E2 c)):=Z1w K c
def OZ (c:Cv):Int:=one KT [I c.before,I c.s0]
theorem Zj1 (c:Cv):KT [I c.before,I c.s0]=some [I (OZ c)]:=by
 have key:∃v,KT [I c.before,I c.s0]=some [I v]:=by
  have e:KT [I c.before,I c.s0]=Qe5 JU [I c.before,I c.s0]:=rfl;have h:∀a,(JU [I a,I 1048576]).isSome=true:=λa=>Zg2 (by omega);rw[e,Z02];generalize JU=M at*;have h2:∀a,∃o,M [I a,I 1048576]=some o:=λa=>Option.isSome_iff_exists.1 (h a);cases(c.s0== -1)
  ·obtain⟨o,ho⟩:=h2 (wrap .i64 (0-c.before));exact⟨_,eB ho rfl⟩
  ·obtain⟨o,ho⟩:=h2 c.before;exact⟨_,eB ho rfl⟩
 obtain⟨v,h⟩:=key;exact Qdg h
def goC (K:Kf) (c:Cv) (g:Sgm):Cv:={c with y0:=g.item,y1:=AG K c,y2:=c.s3,e0:=1,e1:=c.m0,e2:=OZ c,e3:=0}
def EH (K:Kf) (c:Cv) (g:Sgm):Bool:=(itK K g.item).kind==6||(c.s1 !=0&& !decide (wrap .i64 (wrap .i64 (c.s3-OZ c)*c.s0)<0))
theorem Zql {MP MI:Fn} {K:Kf} {c:Cv} {s:Sgm} (h0:0<=s.item) (h1:s.item<K.aA.length) (hI:MI [I c.before,I c.s0]=some [I (OZ c)]) (hP:MP (Ab K c)=some [I (AG K c)]):
  X0 MP MI (I s.to.x::I s.to.y::I s.to.z::I s.len::I s.item::I s.feed::I s.lead::Ab K c)=some (B (EH K c s)::Ab K (if EH K c s=true then goC K c s else c)):=by
 rw[Zse];refine eB hI (eT (inM (f:=Ah) h0 h1) ?_);rw[Jd h0 h1];refine eC (λe=> ?_) λe=> ?_
 ·have e:(itK K s.item).kind≠6:=by simpa [gA,nth,Af]using e
  refine eC (λa=> ?_) λa=>eC (λb=> ?_) λb=> ?_
  ·have hm:EH K c s=false:=by unfold EH;rw[beF e,bnF (eq_of_beq a)];rfl
   rw[hm];rfl
  ·have hm:EH K c s=false:=by unfold EH;rw[beF e,show decide (wrap .i64 (wrap .i64 (c.s3-OZ c)*c.s0)<0)=true from b];simp
   rw[hm];rfl
  ·have hm:EH K c s=true:=by
    unfold EH;rw[show decide (wrap .i64 (wrap .i64 (c.s3-OZ c)*c.s0)<0)=false from b];simp only[bne,a];simp
   rw[hm];exact eB hP rfl
 ·have e:(itK K s.item).kind=6:=by simpa [gA,nth,Af]using e
  have hm:EH K c s=true:=by unfold EH;rw[beT e];rfl
  rw[hm];exact eB hP rfl
theorem Zdi {K:Kf} {c:Cv} {s:Sgm} (h:KOK K) (h0:0<=s.item) (h1:s.item<K.aA.length):
  PX (I s.to.x::I s.to.y::I s.to.z::I s.len::I s.item::I s.feed::I s.lead::Ab K c)=some (B (EH K c s)::Ab K (if EH K c s=true then goC K c s else c)):=
 Zql h0 h1 (Zj1 c) (LH h c)
def VM (lead way:Int):Int:=one Km [I lead,I way]
theorem Znz {a b:Int} (ha:i64 a) (hb:i64 b):Km [I a,I b]=some [I (VM a b)]:=by
 have key:∃v,Km [I a,I b]=some [I v]:=by
  have e:Km [I a,I b]=Qbo Bz [I a,I b]:=rfl;have h:=Qig (show i64 4096 by unfold i64;omega) hb ha 0;rw[e,Zi8];generalize Bz=M at*;obtain⟨o,ho⟩:=Option.isSome_iff_exists.1 h;exact⟨_,eB ho rfl⟩
 obtain⟨v,h⟩:=key;exact Qdg h
def Qrc (K:Kf) (d:Cv) (g:Sgm):Int:=wrap .i64 (d.y2+wrap .i64 (wrap .i64 ((if(itK K g.item).n=3 then 1 else-1)*VM g.lead (wrap .i64 (AG K d-d.y1)))*256))
def Ql (K:Kf) (c:Cv) (l:Int) (g:Sgm):Cv:={Df K c l with s3:=Qrc K (Df K c l) g}
theorem Zfb {MA MP ML:Fn} {K:Kf} {c:Cv} {l:Int} {s:Sgm} (h0:0<=s.item) (h1:s.item<K.aA.length)
  (hA:∀v,i64 v->MA [I s.lead,I v]=some [I (VM s.lead v)]) (hP:∀c,MP (Ab K c)=some [I (AG K c)]) (hL:ML (I l::Ab K c)=some (Ab K (Df K c l))):
  WZ MA MP ML (I l::I s.to.x::I s.to.y::I s.to.z::I s.len::I s.item::I s.feed::I s.lead::Ab K c)=some (Ab K (Ql K c l s)):=by
 rw[Z6e];unfold Ql;generalize Df K c l=d at*;refine eB hL (eT (inM (f:=Ah) h0 h1) ?_);show cond (gA (nth [] (K.aA.map Ah) s.item.toNat) 19==3) _ _=_;rw[Jd h0 h1];unfold Qrc;refine eC (λe=> ?_) λe=> ?_
 ·rw[aa (show(itK K s.item).n=3 from eq_of_beq e)];exact eB (hP d) (eB (hA _ (S8 _)) rfl)
 ·rw[ab (show(itK K s.item).n≠3 by simpa [gA,nth,Af]using e)];exact eB (hP d) (eB (hA _ (S8 _)) rfl)
theorem Quh {K:Kf} {c:Cv} {n:Int} (h:KOK K) (g:Gd K n c) (hn:0<=n/\n<=10000) (l:Int) {s:Sgm} (hs:0<=s.item/\s.item<K.aA.length/\i64 s.lead):
  Qc (I l::I s.to.x::I s.to.y::I s.to.z::I s.len::I s.item::I s.feed::I s.lead::Ab K c)=some (Ab K (Ql K c l s)):=
 Zfb hs.1 hs.2.1 (λv hv=>Znz hs.2.2 hv) (LH h) (Qbs h g l)
def thL (K:Kf) (c:Cv) (l lead:Int):List AC:=pxt K.p K.x K.t [I K.pa,I K.pb,I K.pc,I c.o0,I c.o1,B c.o2,B c.o3,B c.o4,I c.m0,I c.m1,I c.m2,I c.m3,I c.m4,I c.m5,I l,I lead,I c.e0,I c.e1,I c.e2,I c.e3,I c.before,I c.s3]
def thO (K:Kf) (c:Cv) (l lead:Int):List AC:=(KD (thL K c l lead)).getD []
def Lf (c:Cv) (o:List AC):Cv:={Us c (gA o 1)with e0:=gA o 6,e1:=gA o 7,e2:=gA o 8,e3:=gA o 9}
def L4 (K:Kf) (c:Cv) (l lead:Int):Cv:=
 if c.g0≠0 then{Df K c l with e0:=3}else if gA (thO K c l lead) 10≠0 then E2 (Lf c (thO K c l lead))else Lf c (thO K c l lead)
theorem Qj1 {K:Kf} {c:Cv} {n:Int} (h:KOK K) (g:Gd K n c) (l:Int) {lead:Int} (hl:i64 lead):
  KD (thL K c l lead)=some (thO K c l lead)/\∃v s b z y e:Int,thO K c l lead=Es c.m0 c.m1 c.m3 c.m4 v++[I s,I b,I z,I y,I e]/\((Bo K.pa K.pb v (wrap .i64 (v-c.m1))).2=true\/∃r:Int,v=wrap .i64 (c.m1+r)/\r=AI K.pa K.pb c.m1 c.m2):=by
 obtain⟨o,h1,v,s,b,z,y,e,rfl,h2⟩:=Zm2 h g.mo l hl;have h1:KD (thL K c l lead)=some (Es c.m0 c.m1 c.m3 c.m4 v++[I s,I b,I z,I y,I e]):=h1;have e2:thO K c l lead=Es c.m0 c.m1 c.m3 c.m4 v++[I s,I b,I z,I y,I e]:=by unfold thO;rw[h1];rfl
 rw[e2];exact⟨h1,v,s,b,z,y,e,rfl,h2⟩
theorem Zhy {MF MT ML:Fn} {K:Kf} {c:Cv} {l:Int} {s:Sgm} (hF:∀c,MF (Ab K c)=some (Ab K (E2 c)))
  (hT:MT (thL K c l s.lead)=some (thO K c l s.lead)) (hS:∃v s' b z y e:Int,thO K c l s.lead=Es c.m0 c.m1 c.m3 c.m4 v++[I s',I b,I z,I y,I e]) (hL:ML (I l::Ab K c)=some (Ab K (Df K c l))):
  Qms MF MT ML (I l::I s.to.x::I s.to.y::I s.to.z::I s.len::I s.item::I s.feed::I s.lead::Ab K c)=some (Ab K (L4 K c l s.lead)):=by
 rw[Z0j];unfold L4;refine eC (λe=> ?_) λe=> ?_
 ·rw[aa (show c.g0≠0 by simpa using e)];generalize Df K c l=d at*;exact eB hL rfl
 ·rw[ab (show¬c.g0≠0 by simpa using e)];obtain⟨v,s',b,z,y,e',hs⟩:=hS;generalize thO K c l s.lead=o at*;subst hs;refine eB hT ?_;refine eC (λq=> ?_) λq=> ?_
  ·rw[aa (show gA (Es c.m0 c.m1 c.m3 c.m4 v++[I s',I b,I z,I y,I e']) 10≠0 by simpa using q)];refine Eq.trans (congrArg (λz=>Option.bind z _) (hF (Lf c (Es c.m0 c.m1 c.m3 c.m4 v++[I s',I b,I z,I y,I e'])))) rfl
  ·rw[ab (show¬gA (Es c.m0 c.m1 c.m3 c.m4 v++[I s',I b,I z,I y,I e']) 10≠0 by simpa using q)];rfl
theorem Qud {K:Kf} {c:Cv} {n:Int} (h:KOK K) (g:Gd K n c) (hn:0<=n/\n<=10000) (l:Int) {s:Sgm} (hs:i64 s.lead):
  P5 (I l::I s.to.x::I s.to.y::I s.to.z::I s.len::I s.item::I s.feed::I s.lead::Ab K c)=some (Ab K (L4 K c l s.lead)):=by
 obtain⟨h1,v,s',b,z,y,e,h2,-⟩:=Qj1 h g l hs;exact Zhy (Qf2 K) h1 ⟨v,s',b,z,y,e,h2⟩ (Qbs h g l)
def Hx (K:Kf) (c:Cv) (l:Int) (g:Sgm):Cv:=if(itK K g.item).kind=6 then Ql K c l g else L4 K c l g.lead
def HM (K:Kf) (c:Cv) (l:Int):Cv:=
 if(sgK K c).lead=0\/(c.o2=true/\c.y0≠(sgK K c).item)then Df K c l
 else if c.y0=(sgK K c).item then Hx K c l (sgK K c)
 else if EH K c (sgK K c)=true then Hx K (goC K c (sgK K c)) l (sgK K c)
 else if c.s1=0 then E2 c else c
theorem Gd.go {K:Kf} {n:Int} {c:Cv} (g:Gd K n c) (s:Sgm):Gd K n (goC K c s):=⟨g.way,g.pass,g.task,g.mo,g.m0⟩
theorem Zxw {MH MT MF MS ML MG':Fn} {K:Kf} {c:Cv} {l:Int} (hok:(sgK K c).lead≠0->0<=(sgK K c).item/\(sgK K c).item<K.aA.length)
  (hG:MG' (Ab K c)=some (Au (sgK K c)++[B (DX K c).isSome])) (hL:ML (I l::Ab K c)=some (Ab K (Df K c l)))
  (hS:(sgK K c).lead≠0->MS (I (sgK K c).to.x::I (sgK K c).to.y::I (sgK K c).to.z::I (sgK K c).len::I (sgK K c).item::I (sgK K c).feed::I (sgK K c).lead::Ab K c)=some (B (EH K c (sgK K c))::Ab K (if EH K c (sgK K c)=true then goC K c (sgK K c)else c)))
  (hF:MF (Ab K c)=some (Ab K (E2 c)))
  (hT:(sgK K c).lead≠0->∀d,d=c\/d=goC K c (sgK K c)->MT (I l::I (sgK K c).to.x::I (sgK K c).to.y::I (sgK K c).to.z::I (sgK K c).len::I (sgK K c).item::I (sgK K c).feed::I (sgK K c).lead::Ab K d)=some (Ab K (Ql K d l (sgK K c))))
  (hH:(sgK K c).lead≠0->∀d,d=c\/d=goC K c (sgK K c)->MH (I l::I (sgK K c).to.x::I (sgK K c).to.y::I (sgK K c).to.z::I (sgK K c).len::I (sgK K c).item::I (sgK K c).feed::I (sgK K c).lead::Ab K d)=some (Ab K (L4 K d l (sgK K c).lead))):
  Y1 MH MT MF MS ML MG' (I l::Ab K c)=some (Ab K (HM K c l)):=by
 rw[Zfa];unfold HM;generalize sgK K c=s at*;refine eB hG ?_;refine eC (λe=> ?_) λe=> ?_
 ·rw[aa (.inl (show s.lead=0 from eq_of_beq e))];generalize Df K c l=d at*;exact eB hL rfl
 ·have e:s.lead≠0:=by simpa [gA,nth,Af]using e
  obtain⟨q0,q1⟩:=hok e;have hS:=hS e;have hT:=hT e;have hH:=hH e
  have syn:∀{d:Cv} {f1 f2:List AC->List AC},d=c\/d=goC K c s->(∀c,f1 (Ab K c)=Ab K c)->(∀c,f2 (Ab K c)=Ab K c)->
    (bif decide (0<=s.item)&&decide (s.item<((K.aA.map Ah).length:Int))then(bif gA (nth [] (K.aA.map Ah) s.item.toNat) 0==6 then(MT (I l::I s.to.x::I s.to.y::I s.to.z::I s.len::I s.item::I s.feed::I s.lead::Ab K d)).bind λo=>some (f1 o)else(MH (I l::I s.to.x::I s.to.y::I s.to.z::I s.len::I s.item::I s.feed::I s.lead::Ab K d)).bind λo=>some (f2 o))else none)=some (Ab K (Hx K d l s)):=λhd h1 h2=>by
   refine eT (inM (f:=Ah) q0 q1) ?_;rw[Jd q0 q1];unfold Hx;refine eC (λk=> ?_) λk=> ?_
   ·rw[aa (show(itK K s.item).kind=6 from eq_of_beq k)];exact eB (hT _ hd) (congrArg some (h1 _))
   ·rw[ab (show(itK K s.item).kind≠6 by simpa [gA,nth,Af]using k)];exact eB (hH _ hd) (congrArg some (h2 _))
  have hg:SB c (Au s++[B (DX K c).isSome]) MS K MF MT l MH=some (Ab K (if c.y0=s.item then Hx K c l s else if EH K c s=true then Hx K (goC K c s) l s else if c.s1=0 then E2 c else c)):=by
   refine eC (λy=> ?_) λy=> ?_
   ·have y:c.y0≠s.item:=by simpa [gA,nth,Af]using y
    rw[ab y];refine eB hS ?_;cases hm:EH K c s
    ·refine eT rfl ?_;rw[ab (by simp),ab (by simp)];refine eC (λz=> ?_) λz=> ?_
     ·rw[aa (show c.s1=0 from eq_of_beq z)];generalize E2 c=d at*;exact eB hF rfl
     ·rw[ab (show c.s1≠0 by simpa [gA,nth,Af]using z)];rfl
    ·refine eF rfl ?_;rw[aa rfl,aa rfl];have h:=syn (d:=goC K c s) (f1:=λo=>cR 0 o) (f2:=λo=>cR 0 o) (.inr rfl) (λ_=>rfl) (λ_=>rfl);generalize goC K c s=d at*;exact h
   ·have y:c.y0=s.item:=by simpa [gA,nth,Af]using y
    rw[aa y];exact syn (f1:=λo=>cR 0 o) (f2:=λo=>cR 0 o) (.inl rfl) (λ_=>rfl) (λ_=>rfl)
  refine eC (λa=>eC (λb=> ?_) λb=> ?_) λa=> ?_
  ·have b:c.y0≠s.item:=by simpa [gA,nth,Af]using b
   rw[aa (.inr ⟨a,b⟩)];generalize Df K c l=d at*;exact eB hL rfl
  ·have b:c.y0=s.item:=by simpa [gA,nth,Af]using b
   rw[ab (λq=>by rcases q with q|q;exact e q;exact q.2 b)];exact hg
  ·rw[ab (λq=>by rcases q with q|q;exact e q;rw[a]at q;cases q.1)];exact hg
theorem Z0t {K:Kf} {c:Cv} {n:Int} (h:KOK K) (g:Gd K n c) (hn:0<=n/\n<=10000) (l:Int):QT (I l::Ab K c)=some (Ab K (HM K c l)):=
 Zxw (λe=>⟨(GJ h e).1,(GJ h e).2.1⟩) (RU h c) (Qbs h g l) (λe=>Zdi h (GJ h e).1 (GJ h e).2.1) (Qf2 K c)
  (λe d hd=>by rcases hd with rfl|rfl;exact Quh h g hn l (GJ h e);exact Quh h (g.go _) hn l (GJ h e))
  (λe d hd=>by rcases hd with rfl|rfl;exact Qud h g hn l (GJ h e).2.2;exact Qud h (g.go _) hn l (GJ h e).2.2)
end Go.Bm
namespace Go.Bm
open Classical
def sT (K:Kf) (t:Trk):Kf:=⟨K.x,K.pa,K.pb,K.pc,K.ramp,K.lag,K.aA,K.closed,K.p,K.len,K.set,t⟩
theorem KOK.sT {K:Kf} (h:KOK K) {t:Trk} (ht:TH t):KOK (Go.Bm.sT K t):=⟨⟨h.f.p,h.f.x,ht⟩,h.plan,h.aF,h.aD,h.count,h.speed,h.len,h.set⟩
def JI:List Pce->Int->Pt->Pt
 |[],_,d=>d
 |c::l,u,d=>if u>c.at_+c.units then JI l u d else if c.move≠0\/u=c.at_+c.units then c.dirs else c.was
def Fq (t:Trk) (u:Int):Pt:=JI t.aE (clT t u) t.dirs
theorem Zvb {t:Trk} (h:TQ t) (u:Int):WG (An SF) (AW t++[I u])=some (ptR (Fq t u)):=by
 refine Eq.trans (Z44 _ (t.aE.map AB) t.length t.start t.dirs.x t.dirs.y t.dirs.z u) ?_;have ec:mx 0 (mn u t.length)=clT t u:=by
  unfold mx mn clT Bq
  (repeat' split)<;>omega
 rw[ec];have key:Out (λo=>o=(1,ptR (Fq t u))\/(o=(2, .view Ap (t.aE.map AB)::I t.length::I t.start::I t.dirs.x::I t.dirs.y::I t.dirs.z::[I 0,I 0,I 0])/\Fq t u=t.dirs))
   (An SF [I (clT t u), .view Ap (t.aE.map AB),I ((t.aE.map AB).length:Int),I ((0:Nat):Int), .view Ap (t.aE.map AB),I t.length,I t.start,I t.dirs.x,I t.dirs.y,I t.dirs.z,I 0,I 0,I 0]):=by
  refine Cb (λi:Nat=>[I (clT t u), .view Ap (t.aE.map AB),I ((t.aE.map AB).length:Int),I (i:Int), .view Ap (t.aE.map AB),I t.length,I t.start,I t.dirs.x,I t.dirs.y,I t.dirs.z,I 0,I 0,I 0])
   (λi=>i<=t.aE.length/\Fq t u=JI (t.aE.drop i) (clT t u) t.dirs) (λi=>t.aE.length-i) _ ?_ 0 ⟨Nat.zero_le _,rfl⟩
  rintro i ⟨hi,hf⟩;rw[Zzx];have el:((t.aE.map AB).length:Int)=t.aE.length:=by rw[ag]
  refine .cond (λc1=> ?_) λc1=> ?_
  ·have c1:=A6 c1;have hlt:i<t.aE.length:=by omega
   refine .cond (λ_=> ?_) λe=>(inB (by omega) c1 e).elim;rw[ak,NF hlt];have hc:=h.count;have hp:=h.pos i hlt;have hl:=h.len;have he:eI t.aE i=(pcA t.aE i).at_+(pcA t.aE i).units:=rfl;rw[List.drop_eq_getElem_cons hlt]at hf;have ea:t.aE[i]=pcA t.aE i:=by unfold pcA;rw[List.getD,ai hlt];rfl
   rw[ea]at hf;unfold JI at hf;generalize pcA t.aE i=c at*;have w1:wrap .i64 (gA (AB c) 0+gA (AB c) 1)=c.at_+c.units:=by
    show wrap .i64 (c.at_+c.units)=_;exact Ae (by omega)
   rw[w1,Ae (x:=(i:Int)+1) (by omega)];refine .cond (λa=> ?_) λa=> ?_
   ·have a:=A6 a;rw[aa a]at hf;exact .some (.inl ⟨rfl,i+1,rfl,⟨by omega,hf⟩,by omega⟩)
   ·have a:=A2 a;rw[ab a]at hf;refine .cond (λb=> ?_) λb=> .cond (λb2=> ?_) λb2=> ?_
    ·have b:c.move≠0:=by simpa [gA,nth,Af]using b
     rw[aa (.inl b)]at hf;exact .some (.inr ⟨by simp, .inl (by rw[hf];rfl)⟩)
    ·have b2:clT t u=c.at_+c.units:=eq_of_beq b2;rw[aa (.inr b2)]at hf;exact .some (.inr ⟨by simp, .inl (by rw[hf];rfl)⟩)
    ·have b:c.move=0:=by simpa [gA,nth,Af]using b
     have b2:clT t u≠c.at_+c.units:=λe=>by rw[beT e]at b2;cases b2
     rw[ab (λq=>by rcases q with q|q;exact q b;exact b2 q)]at hf;exact .some (.inr ⟨by simp, .inl (by rw[hf];rfl)⟩)
  ·have c1:=A2 c1;rw[List.drop_of_length_le (by omega)]at hf;exact .some (.inr ⟨by simp, .inr ⟨rfl,hf⟩⟩)
 obtain⟨o,h1,h2⟩:=key;refine eB h1 ?_;rcases h2 with rfl|⟨rfl,h2⟩
 ·exact eT rfl rfl
 ·rw[h2];exact eF rfl (eT rfl rfl)
def Er (K:Kf) (c:Cv):Bool:=C7 c&& !decide (Hu K.t (Aw c))
def Do (K:Kf) (c:Cv) (to:Int):Trk:=A1 K.p K.x (Fq K.t (Aw c)) (AG K c) to
def J1 (K:Kf) (c:Cv) (to:Int):List AC:=if Er K c=true then AW (Do K c to)++[I 0,I 0,I 0,I 0,I 0,I 0,B true]else [.view Ap [],I 0,I 0,I 0,I 0,I 0,I 0,I 0,I 0,I 0,I 0,I 0,B false]
theorem Zq5 {MS ML MP MF MO MI:Fn} {K:Kf} {c:Cv} {to:Int} (hI:MI [I c.m0,I c.m1,I c.m2,I c.m3,I c.m4,I c.m5]=some [B (C7 c)]) (hO:MO (AW K.t++[I (Aw c)])=some [B (decide (Hu K.t (Aw c)))])
  (hF:MF (AW K.t++[I (Aw c)])=some (ptR (Fq K.t (Aw c)))) (hP:MP (AW K.t++[I (Aw c)])=some [I (AG K c)])
  (hL:∀(d:Pt) (a b:Int),ML (Bj K.p++AK K.x++[I d.x,I d.y,I d.z,I a,I b])=some (AW (A1 K.p K.x d a b))) (hS:MS [I 0]=some [I 0,I 0,I 0,I 0,I 0,I 0]):
  Qlp MS ML MP MF MO MI (pxt K.p K.x K.t [I c.m0,I c.m1,I c.m2,I c.m3,I c.m4,I c.m5,I to])=some (J1 K c to):=by
 rw[Zgw];refine eB hI ?_;unfold J1 Er Do;cases hs:C7 c
 ·exact eT rfl rfl
 ·refine eF rfl (eB hO ?_);cases hl:decide (Hu K.t (Aw c))
  ·refine eF rfl (eB hF (eB hP (eB (hL (Fq K.t (Aw c)) (AG K c) to) (eB hS ?_))));rw[aa (show(true&& !false)=true from rfl)];rfl
  ·exact eT rfl rfl
theorem Qxd {K:Kf} (h:KOK K) (c:Cv) (to:Int):J3 (pxt K.p K.x K.t [I c.m0,I c.m1,I c.m2,I c.m3,I c.m4,I c.m5,I to])=some (J1 K c to):=
 Zq5 (Qbd c) (Zum h.f.t.q _) (Zvb h.f.t.q _) (Rx h.f.t.q _) (λd a b=>Qq0 h.f.p h.f.x.ok) (Qon 0)
theorem Q6h {K:Kf} (h:KOK K) (c:Cv) (to:Int):TH (Do K c to):=Q9d _ _ _ h.f.x.ok h.f.p
def zM (c:Cv):Cv:={c with m0:=0,m1:=0,m2:=0,m3:=0,m4:=0,m5:=0}
def E8 (c d:Cv):Prop:=d=c\/∃a:Int,c.g0=0/\d={c with g0:=1,g1:=19,g2:=a}
def KW (K:Kf) (c:Cv) (n:Int):Cv:={c with g0:=gA ((I3 (I n::Ab K c)).getD []) 61,g1:=gA ((I3 (I n::Ab K c)).getD []) 62,g2:=gA ((I3 (I n::Ab K c)).getD []) 63}
theorem brD {c:Cv} {F:Cv->Option (List AC)} {p:Prop} [Decidable p] {X Y:Option (List AC)} (hx:p->∃d:Cv,E8 c d/\X=F d) (hy: ¬p->∃d:Cv,E8 c d/\Y=F d):∃d:Cv,E8 c d/\(bif decide p then X else Y)=F d:=by
 by_cases h:p
 ·rw[al h];exact hx h
 ·rw[am h];exact hy h
theorem bdE {c:Cv} {F:Cv->Option (List AC)} {m:Option (List AC)} {f:Fn} {o:List AC} (h:m=some o) (hf:∃d:Cv,E8 c d/\f o=F d):∃d:Cv,E8 c d/\m.bind f=F d:=by
 rw[h];exact hf
theorem Zd2 (c:Cv) (l a0 a1 a2 b0 b1 b2:Int):∃d:Cv,E8 c d/\OJ [I c.g0,I c.g1,I c.g2,I l,I a0,I a1,I a2,I b0,I b1,I b2]=some [I d.g0,I d.g1,I d.g2]:=by
 show∃d:Cv,E8 c d/\Qmf _=_;rw[Z0r];by_cases h:c.g0=0
 ·have st:∀a:Int,∃d:Cv,E8 c d/\some [I 1,I 19,I a]=some [I d.g0,I d.g1,I d.g2]:=λa=>⟨{c with g0:=1,g1:=19,g2:=a}, .inr ⟨a,h,rfl⟩,rfl⟩;have no:∃d:Cv,E8 c d/\some [I c.g0,I c.g1,I c.g2]=some [I d.g0,I d.g1,I d.g2]:=⟨c, .inl rfl,rfl⟩;rw[bnF h];exact brD (F:=λd=>some [I d.g0,I d.g1,I d.g2]) (λ_=>st 0) λ_=>brD (F:=λd=>some [I d.g0,I d.g1,I d.g2]) (λ_=>st 0) λ_=>brD (F:=λd=>some [I d.g0,I d.g1,I d.g2]) (λ_=>st _) λ_=>brD (F:=λd=>some [I d.g0,I d.g1,I d.g2]) (λ_=>st _) λ_=>brD (F:=λd=>some [I d.g0,I d.g1,I d.g2]) (λ_=>st _) λ_=>brD (F:=λd=>some [I d.g0,I d.g1,I d.g2]) (λ_=>st _) λ_=>no
 ·exact⟨c, .inl rfl,by rw[bnT h];rfl⟩
theorem Zro {MC MM MU:Fn} {K:Kf} {c:Cv} {n:Int} (hn:n<=4194304) (hU:MU (Ab K c)=some [I (Aw c)]) (hM:∀u,MM (pxt K.p K.x K.t [I u])=some (ptR (Bg K.p K.x K.t u)))
  (hC:∀a0 a1 a2 b0 b1 b2:Int,∃d:Cv,E8 c d/\MC [I c.g0,I c.g1,I c.g2,I K.lag,I a0,I a1,I a2,I b0,I b1,I b2]=some [I d.g0,I d.g1,I d.g2]):
  ∃d:Cv,E8 c d/\Qls MC MM MU (I n::Ab K c)=some (Ab K d):=by
 rw[Zxz];unfold Px;have no:∃d:Cv,E8 c d/\some (Ab K c)=some (Ab K d):=⟨c, .inl rfl,rfl⟩;have ck:∀a0 a1 a2 b0 b1 b2:Int,∃d:Cv,E8 c d/\((MC [I c.g0,I c.g1,I c.g2,I K.lag,I a0,I a1,I a2,I b0,I b1,I b2]).bind λo=>some (Ab K {c with g0:=gA o 0,g1:=gA o 1,g2:=gA o 2}))=some (Ab K d):=λa0 a1 a2 b0 b1 b2=>by
  obtain⟨d,hd,e⟩:=hC a0 a1 a2 b0 b1 b2;rcases hd with rfl|⟨a,h0,rfl⟩
  ·exact⟨d, .inl rfl,eB e rfl⟩
  ·exact⟨_, .inr ⟨a,h0,rfl⟩,eB e rfl⟩
 have hq: ¬n<0->0<=wrap .i64 (n.tdiv 1048576):=λh=>by
  rw[bc (by omega),Ae (by omega)];omega
 generalize wrap .i64 (n.tdiv 1048576)=q at*;have F:Cv->Option (List AC):=λd=>some (Ab K d);refine brD (F:=λd=>some (Ab K d)) (λ_=>no) λh1=>brD (F:=λd=>some (Ab K d)) (λ_=>no) λh2=> ?_;refine bdE (F:=λd=>some (Ab K d)) hU (bdE (F:=λd=>some (Ab K d)) (hM (Aw c)) ?_);refine brD (F:=λd=>some (Ab K d)) (λh3=>brD (F:=λd=>some (Ab K d)) (λ_=>ck ..) λe=>absurd h3 e) λh3=> ?_;refine brD (F:=λd=>some (Ab K d)) (λh4=>brD (F:=λd=>some (Ab K d)) (λe=>absurd e h3) λ_=>brD (F:=λd=>some (Ab K d)) (λ_=>ck ..) λe=>absurd h4 e) λh4=> ?_;refine brD (F:=λd=>some (Ab K d)) (λh5=>brD (F:=λd=>some (Ab K d)) (λe=>absurd e h3) λ_=>brD (F:=λd=>some (Ab K d)) (λe=>absurd e h4) λ_=>brD (F:=λd=>some (Ab K d)) (λ_=>ck ..) λe=>absurd h5 e) λh5=> ?_;have:=hq h1;omega
theorem Qca {K:Kf} (h:KOK K) (c:Cv) {n:Int} (hn:n<=4194304):I3 (I n::Ab K c)=some (Ab K (KW K c n))/\E8 c (KW K c n):=by
 obtain⟨d,h1,h2⟩:=Zro (MC:=OJ) (MM:=C8) hn (Mm K c) (Ki h.f) (λa0 a1 a2 b0 b1 b2=>Zd2 c K.lag a0 a1 a2 b0 b1 b2);have h2:I3 (I n::Ab K c)=some (Ab K d):=h2;have e:KW K c n=d:=by
  unfold KW;rw[h2];rcases h1 with rfl|⟨a,h0,rfl⟩<;>rfl
 rw[e];exact⟨h2,h1⟩
def KR (K:Kf) (c:Cv):Cv:={c with aH:=bA ((L5 (Ab K c)).getD []) 77}
def P4 (K:Kf) (c:Cv) (s:Int):Int:=gA ((Mc (I s::Ab K c)).getD []) 0
end Go.Bm
namespace Go.Bm
def DR (K:Kf) (c:Cv):Int×Cv:=
 if c.aM=true/\c.m0=wrap .i64 ((By K c).1*256)then
  (if 0 <= (By K c).2 then
   (if(mkK K (By K c).2).item=(E_ K c (By K c).2).2.y0/\(itK K (mkK K (By K c).2).item).kind=5/\(E_ K c (By K c).2).2.e0=1 then((E_ K c (By K c).2).1,E2 (E_ K c (By K c).2).2)else E_ K c (By K c).2)
  else if K.closed=true then(7,{c with aI:=7})else(1,c))
 else(if c.g0≠0/\c.aM=true then 6 else 1,HM K c (By K c).1)
theorem Zxm {MM MF MB ML:Fn} {K:Kf} {c:Cv} (h:KOK K) (hi:(By K c).2= -1\/0<=(By K c).2/\c.next<=(By K c).2/\(By K c).2<K.p.aD.length)
  (hL:ML (Ab K c)=some (I (By K c).1::I (By K c).2::Ab K c)) (hB:0<=(By K c).2->(By K c).2<K.p.aD.length->MB (I (By K c).2::Ab K c)=some (I (E_ K c (By K c).2).1::Ab K (E_ K c (By K c).2).2))
  (hF:∀c,MF (Ab K c)=some (Ab K (E2 c))) (hM:MM (I (By K c).1::Ab K c)=some (Ab K (HM K c (By K c).1))):
  X7 MM MF MB ML (Ab K c)=some (I (DR K c).1::Ab K (DR K c).2):=by
 rw[Zfj];unfold DR;generalize HM K c (By K c).1=mv at*;have hbb:=hB;generalize hb:E_ K c (By K c).2=bg at*;clear hb;generalize By K c=li at*;refine eB hL ?_;have mov:∀{a:Prop} [Decidable a],¬(c.aM=true/\c.m0=wrap .i64 (li.1*256))->∀{x:Option (List AC)},x=some (I (if c.g0≠0/\c.aM=true then 6 else 1)::Ab K mv)->
   x=some (I (if c.aM=true/\c.m0=wrap .i64 (li.1*256)then(if 0<=li.2 then(if(mkK K li.2).item=bg.2.y0/\(itK K (mkK K li.2).item).kind=5/\bg.2.e0=1 then(bg.1,E2 bg.2)else bg)else if K.closed=true then(7,{c with aI:=7})else(1,c))else(if c.g0≠0/\c.aM=true then 6 else 1,mv)).1::Ab K (if c.aM=true/\c.m0=wrap .i64 (li.1*256)then(if 0<=li.2 then(if(mkK K li.2).item=bg.2.y0/\(itK K (mkK K li.2).item).kind=5/\bg.2.e0=1 then(bg.1,E2 bg.2)else bg)else if K.closed=true then(7,{c with aI:=7})else(1,c))else(if c.g0≠0/\c.aM=true then 6 else 1,mv)).2):=λhn _ hx=>by
  rw[ab hn];exact hx
 refine eC (λs=>eC (λe=> ?_) λe=> ?_) λs=> ?_
 ·have s:c.aM=true:=s;have e:c.m0=wrap .i64 (li.1*256):=eq_of_beq e;rw[aa ⟨s,e⟩];refine eC (λk=> ?_) λk=> ?_
  ·have k:0<=li.2:=A6 k;rw[aa k];have k2:li.2<K.p.aD.length:=by
    rcases hi with hi|hi
    ·omega
    ·exact hi.2.2
   have hm:=SS h k k2;refine eB (hB k k2) (eT (inM (f:=At) k k2) ?_);have er:nth [] (K.p.aD.map At) li.2.toNat=At (mkK K li.2):=NK k k2;have er2:nth [] (K.aA.map Ah) (mkK K li.2).item.toNat=Ah (itK K (mkK K li.2).item):=Jd hm.1 hm.2.1;refine eC (λy=> ?_) λy=> ?_
   ·have y:(mkK K li.2).item=bg.2.y0:=by
     have:=eq_of_beq (show(gA (nth [] (K.p.aD.map At) li.2.toNat) 2==bg.2.y0)=true from y);rw[er]at this;exact this
    refine eT (show(decide (0<=gA (nth [] (K.p.aD.map At) li.2.toNat) 2)&&decide (gA (nth [] (K.p.aD.map At) li.2.toNat) 2<((K.aA.map Ah).length:Int)))=true by rw[er];exact inM (f:=Ah) (l:=K.aA) (i:=(mkK K li.2).item) hm.1 hm.2.1) ?_;have ek:gA (nth [] (K.aA.map Ah) (gA (nth [] (K.p.aD.map At) li.2.toNat) 2).toNat) 0=(itK K (mkK K li.2).item).kind:=by
     rw[er];show gA (nth [] (K.aA.map Ah) (mkK K li.2).item.toNat) 0=_;rw[er2];rfl
    refine eC (λq=> ?_) λq=> ?_
    ·have q:(itK K (mkK K li.2).item).kind=5:=by rw[<-ek];exact eq_of_beq q
     refine eC (λz=> ?_) λz=> ?_
     ·have z:bg.2.e0=1:=eq_of_beq z;rw[aa ⟨y,q,z⟩];exact eB (hF bg.2) rfl
     ·have z:bg.2.e0≠1:=λe=>by have:(bg.2.e0==1)=false:=z;rw[beT e]at this;cases this
      rw[ab (λw=>z w.2.2)];rfl
    ·have q:(itK K (mkK K li.2).item).kind≠5:=λe=>by
      have:(gA (nth [] (K.aA.map Ah) (gA (nth [] (K.p.aD.map At) li.2.toNat) 2).toNat) 0==5)=false:=q;rw[ek,beT e]at this;cases this
     rw[ab (λw=>q w.2.1)];rfl
   ·have y:(mkK K li.2).item≠bg.2.y0:=λe=>by
     have:(gA (nth [] (K.p.aD.map At) li.2.toNat) 2==bg.2.y0)=false:=y;rw[er]at this;rw[show(gA (At (mkK K li.2)) 2==bg.2.y0)=true from beT e]at this;cases this
    rw[ab (λw=>y w.1)];rfl
  ·have k: ¬0<=li.2:=A2 k;rw[ab k];refine eC (λq=> ?_) λq=> ?_
   ·rw[aa (show K.closed=true from q)];rfl
   ·rw[ab (show¬K.closed=true by rw[show K.closed=false from q];simp)];rfl
 ·have e:c.m0≠wrap .i64 (li.1*256):=λe'=>by
   have:(c.m0==wrap .i64 (li.1*256))=false:=e;rw[beT e']at this;cases this
  refine mov (a:=True) (λw=>e w.2) ?_;refine eC (λq=> ?_) λq=> ?_
  ·have q:c.g0≠0:=λe=>by
    have:(c.g0 !=0)=true:=q;rw[bnF e]at this;cases this
   refine eB hM (eT (show c.aM=true from s) ?_);rw[aa ⟨q,show c.aM=true from s⟩];rfl
  ·have q:c.g0=0:=Decidable.byContradiction λe=>by
    have:(c.g0 !=0)=false:=q;rw[bnT e]at this;cases this
   refine eB hM ?_;rw[ab (λw=>w.1 q)];rfl
 ·have s:c.aM=false:=s;refine mov (a:=True) (λw=>by rw[s]at w;cases w.1) ?_;refine eC (λq=> ?_) λq=> ?_
  ·refine eB hM (eF (show c.aM=false from s) ?_);rw[ab (λw=>by rw[s]at w;cases w.2)];rfl
  ·refine eB hM ?_;rw[ab (λw=>by rw[s]at w;cases w.2)];rfl
theorem Qrd {K:Kf} {c:Cv} {n:Int} (h:KOK K) (g:Gd K n c) (hn:0<=n/\n<=10000):JT (Ab K c)=some (I (DR K c).1::Ab K (DR K c).2):=
 Zxm h (Qup K c) (Z08 h c) (λh0 h1=>Zq7 h h0 h1) (Qf2 K) (Z0t h g hn _)
def swI (s:Int) (it:Itm):Int:=one Kh (I s::Ah it)
theorem Z07 (s:Int) (it:Itm):Kh (I s::Ah it)=some [I (swI s it)]:=by
 have key:∃v,Kh (I s::Ah it)=some [I v]:=by
  show∃v,Qg5 (I s::Ah it)=some [I v];rw[Z3h];by_cases h1:it.kind=10
  ·rw[Bw (bnF h1)];by_cases h2:it.n<0
   ·rw[BH (al h2)];exact⟨_,rfl⟩
   ·rw[Bw (am h2)];by_cases h3:it.n>=16
    ·rw[BH (al h3)];exact⟨_,rfl⟩
    ·rw[Bw (am h3),Bw (am (by simp[IntKind.wrap,IntKind.signed,IntKind.bits];omega))];cases it.on<;>exact⟨_,rfl⟩
  ·rw[BH (bnT h1)];exact⟨_,rfl⟩
 obtain⟨v,h⟩:=key;exact Qdg h
def Eo (K:Kf) (s:Int):List Mrk->Cv->List Int×Cv
 |[],c=>([],c)
 |m::l,c=>if m.at_>s\/(m.at_=s/\c.next<=c.aK/\HH m.kind c=true)then([],c)
  else if m.kind=5 then(m.item::(Eo K s l {c with outs:=swI c.outs (itK K m.item),aK:=c.aK+1}).1,(Eo K s l {c with outs:=swI c.outs (itK K m.item),aK:=c.aK+1}).2)
  else Eo K s l {c with aK:=c.aK+1}
def BE (K:Kf) (c:Cv) (s:Int):List Int×Cv:=Eo K s (K.p.aD.drop c.aK.toNat) c
theorem Zim {MS MA:Fn} {K:Kf} {c:Cv} (h:KOK K) (hp:0<=c.aK/\c.aK<=K.p.aD.length) (s:Int)
  (hA:∀(c:Cv) (at_ k it:Int),MA [I at_,I k,I it,I c.o0,I c.o1,B c.o2,B c.o3,B c.o4]=some [B (HH k c)]) (hS:∀(s:Int) (it:Itm),MS (I s::Ah it)=some [I (swI s it)]):
  Qmo MS MA (An (RD MS MA)) (I s::Ab K c)=some (.view Aa ((BE K c s).1.map As)::Ab K (BE K c s).2):=by
 rw[Zof];have key:Out (λo=>o=(1, .view Aa ((BE K c s).1.map As)::Ab K (BE K c s).2)) (An (RD MS MA) (.view Aa (([]:List Int).map As)::I s::Ab K c)):=by
  have hc:=h.count;refine Cb (λz:List Int×Cv=> .view Aa (z.1.map As)::I s::Ab K z.2)
   (λz=>0<=z.2.aK/\z.2.aK<=K.p.aD.length/\(z.1.length:Int)<=z.2.aK/\(BE K c s).1=z.1++(Eo K s (K.p.aD.drop z.2.aK.toNat) z.2).1/\(BE K c s).2=(Eo K s (K.p.aD.drop z.2.aK.toNat) z.2).2)
   (λz=>(K.p.aD.length-z.2.aK).toNat) _ ?_ ([],c) ⟨hp.1,hp.2,by simp;omega,rfl,rfl⟩
  rintro⟨l,d⟩ ⟨g1,g2,g3,g4,g5⟩;dsimp only at g1 g2 g3 g4 g5;refine Out.eqv (Zts MS MA _ _ K d) ?_;refine .cond (λk=> ?_) λk=> ?_
  ·have k:d.aK<((K.p.aD.map At).length:Int):=A6 k;rw[ag]at k;have hi:d.aK.toNat<K.p.aD.length:=by omega
   have em:mkK K d.aK=K.p.aD[d.aK.toNat]:=by unfold mkK;rw[List.getD,ai hi];rfl
   have hm:=SS h g1 k;rw[List.drop_eq_getElem_cons hi,<-em]at g4 g5;unfold Eo at g4 g5;refine .cond (λ_=> ?_) λe=>(inB g1 (by rw[ag];exact k) e).elim;rw[NK g1 k];generalize hmk:mkK K d.aK=m at*;have wp:wrap .i64 (d.aK+1)=d.aK+1:=Ae (by omega);have np:(d.aK+1).toNat=d.aK.toNat+1:=by omega
   have stop:(m.at_>s\/(m.at_=s/\d.next<=d.aK/\HH m.kind d=true))->∀{x:List AC},x= .view Aa (l.map As)::Ab K d->Out (λo:Nat×List AC=>(o.1=0/\∃s':List Int×Cv,o.2= .view Aa (s'.1.map As)::I s::Ab K s'.2/\(0<=s'.2.aK/\s'.2.aK<=K.p.aD.length/\(s'.1.length:Int)<=s'.2.aK/\(BE K c s).1=s'.1++(Eo K s (K.p.aD.drop s'.2.aK.toNat) s'.2).1/\(BE K c s).2=(Eo K s (K.p.aD.drop s'.2.aK.toNat) s'.2).2)/\(K.p.aD.length-s'.2.aK).toNat<(K.p.aD.length-d.aK).toNat)\/(o.1≠0/\o=(1, .view Aa ((BE K c s).1.map As)::Ab K (BE K c s).2))) (some (1,x)):=λhs _ hx=>by
    rw[aa hs]at g4 g5;subst hx;refine .some (.inr ⟨by simp,?_⟩);rw[g4,g5,List.append_nil]
   have go: ¬(m.at_>s\/(m.at_=s/\d.next<=d.aK/\HH m.kind d=true))->Out (λo:Nat×List AC=>(o.1=0/\∃s':List Int×Cv,o.2= .view Aa (s'.1.map As)::I s::Ab K s'.2/\(0<=s'.2.aK/\s'.2.aK<=K.p.aD.length/\(s'.1.length:Int)<=s'.2.aK/\(BE K c s).1=s'.1++(Eo K s (K.p.aD.drop s'.2.aK.toNat) s'.2).1/\(BE K c s).2=(Eo K s (K.p.aD.drop s'.2.aK.toNat) s'.2).2)/\(K.p.aD.length-s'.2.aK).toNat<(K.p.aD.length-d.aK).toNat)\/(o.1≠0/\o=(1, .view Aa ((BE K c s).1.map As)::Ab K (BE K c s).2))) (Nx K d (l.map As) MS s):=λhs=>by
    rw[ab hs]at g4 g5;unfold Nx;rw[NK g1 k,hmk,wp];refine .cond (λq=> ?_) λq=> ?_
    ·have q:m.kind=5:=eq_of_beq q;rw[aa q]at g4 g5;refine .cond (λ_=> ?_) λe=>by rw[CK (by simp;omega)]at e;cases e
     refine .cond (λ_=> ?_) λe=>(inB (show 0<=gA (At m) 2 from hm.1) (show gA (At m) 2<((K.aA.map Ah).length:Int) by rw[ag];exact hm.2.1) e).elim;rw[show nth [] (K.aA.map Ah) (gA (At m) 2).toNat=Ah (itK K m.item)from Jd hm.1 hm.2.1];refine .bind (p:=λo=>o=_) ⟨_,hS d.outs (itK K m.item),rfl⟩ λo e=> ?_;subst e;refine .some (.inl ⟨rfl,(l++[m.item],{d with outs:=swI d.outs (itK K m.item),aK:=d.aK+1}),?_,⟨by dsimp only;omega,by dsimp only;omega,by simp;omega,?_,?_⟩,by dsimp only;omega⟩)
     ·rw[bt];rfl
     ·dsimp only;rw[g4,np];simp
     ·dsimp only;rw[g5,np]
    ·have q:m.kind≠5:=by simpa [gA,nth,Af]using q
     rw[ab q]at g4 g5;refine .some (.inl ⟨rfl,(l,{d with aK:=d.aK+1}),rfl,⟨by dsimp only;omega,by dsimp only;omega,by dsimp only;omega,?_,?_⟩,by dsimp only;omega⟩)
     ·dsimp only;rw[g4,np]
     ·dsimp only;rw[g5,np]
   refine .cond (λa=>stop (.inl (A6 a)) rfl) λa=> ?_;have a: ¬m.at_>s:=A2 a;refine .cond (λb=> .cond (λe=> ?_) λe=>go λw=> ?_) λb=>go λw=> ?_
   ·refine .bind (p:=λo=>o=_) ⟨_,hA d _ _ _,rfl⟩ λo q=> ?_;subst q;refine .cond (λq=>stop (.inr ⟨eq_of_beq b,A6 e,q⟩) rfl) λq=>go λw=> ?_;have q:HH m.kind d=false:=q;rcases w with w|w
    ·exact a w
    ·rw[q]at w;cases w.2.2
   ·rcases w with w|w
    ·exact a w
    ·exact A2 e w.2.1
   ·rcases w with w|w
    ·exact a w
    ·have:(m.at_==s)=false:=b;rw[beT w.1]at this;cases this
  ·have k: ¬d.aK<((K.p.aD.map At).length:Int):=A2 k;rw[ag]at k;rw[List.drop_of_length_le (by omega)]at g4 g5;refine .some (.inr ⟨by simp,?_⟩);rw[g4,g5];simp[Eo]
 obtain⟨o,h1,rfl⟩:=key;exact eB h1 rfl
theorem Qq9 {K:Kf} {c:Cv} (h:KOK K) (hp:0<=c.aK/\c.aK<=K.p.aD.length) (s:Int):OV (I s::Ab K c)=some (.view Aa ((BE K c s).1.map As)::Ab K (BE K c s).2):=
 Zim h hp s (λc at_ k it=>Q84 at_ k it c) Z07
def Bu (K:Kf) (c:Cv):Int×Cv:=
 if c.g0=2 then(6,stand c)else if c.aI≠0 then(c.aI,c)
 else if c.aH=true/\c.aM=true then(8,{c with aI:=8})else if c.on=true then Bx K c else(0,c)
theorem Zzb (K:Kf) (c:Cv):(GL K c).1≠0:=by
 unfold GL
 (repeat' split)<;>simp
theorem Za3 (K:Kf) (c:Cv):(Bx K c).1≠0:=Zzb K (CT c)
abbrev Cp (K:Kf) (frm i:Int) (c:Cv):List AC:=I frm::I 5::I i::(BX++(BX++Ab K c))
abbrev LF (K:Kf) (frm mode:Int) (c:Cv):List AC:=I frm::(BX++([.view kPt [], .view Aa [],I mode,I 0,I 0,I 0,I 0,I 0,I 0]++Ab K c))
theorem Zsq {N3:Lp} {ME MR MG' MB MP MO MU MS MN MX MT MV:Fn} {K:Kf} {c:Cv} (frm:Int)
  (hU:MU (Ab K c)=some (if c.g0=2 then I 6::B true::Ab K (stand c)else I 0::B false::Ab K c))
  (hO:MO (Ab K c)=some (I c.aI::B (c.aI !=0)::Ab K c))
  (hP:MP (Ab K c)=some (if c.aH=true/\c.aM=true then I 8::B true::Ab K {c with aI:=8}else I 0::B false::Ab K c))
  (hB:MB (Ab K c)=some (if c.on=true then I (Bx K c).1::B true::Ab K (Bx K c).2 else I 0::B false::Ab K c))
  (hG:MG' (Ab K c)=some (I 0::B false::Ab K c)):
  An (EO ME MR MG' MB MP MO MU MS MN MX MT MV N3) (Cp K frm 0 c)=some (1,LF K frm (Bu K c).1 (Bu K c).2):=by
 have w:∀i:Int,0<=i->i<5->wrap .i64 (i+1)=i+1:=λi _ _=>Ae (by omega);have e:=λi=>Qtu ME MR MG' MB MP MO MU MS MN MX MT MV N3 frm 5 i [] [] 0 0 0 0 0 0 0 [] [] 0 0 0 0 0 0 0 K c;have s0:c.g0≠2->EO ME MR MG' MB MP MO MU MS MN MX MT MV N3 (Cp K frm 0 c)=some (0,Cp K frm 1 c):=λh=>by
  refine Eq.trans (e 0) (eT rfl (eT rfl (eB hU ?_)));rw[ab h];rfl
 have s1:c.aI=0->EO ME MR MG' MB MP MO MU MS MN MX MT MV N3 (Cp K frm 1 c)=some (0,Cp K frm 2 c):=λh=>by
  refine Eq.trans (e 1) (eT rfl (eF rfl (eT rfl (eB hO ?_))));rw[h];rfl
 have s2: ¬(c.aH=true/\c.aM=true)->EO ME MR MG' MB MP MO MU MS MN MX MT MV N3 (Cp K frm 2 c)=some (0,Cp K frm 3 c):=λh=>by
  refine Eq.trans (e 2) (eT rfl (eF rfl (eF rfl (eT rfl (eB hP ?_)))));rw[ab h];rfl
 have s3:c.on=false->EO ME MR MG' MB MP MO MU MS MN MX MT MV N3 (Cp K frm 3 c)=some (0,Cp K frm 4 c):=λh=>by
  refine Eq.trans (e 3) (eT rfl (eF rfl (eF rfl (eF rfl (eT rfl (eB hB ?_))))));rw[ab (by rw[h];simp)];rfl
 have s4:EO ME MR MG' MB MP MO MU MS MN MX MT MV N3 (Cp K frm 4 c)=some (0,Cp K frm 5 c):=by
  refine Eq.trans (e 4) (eT rfl (eF rfl (eF rfl (eF rfl (eF rfl (eT rfl (eB hG ?_)))))));rfl
 have s5:EO ME MR MG' MB MP MO MU MS MN MX MT MV N3 (Cp K frm 5 c)=some (1,LF K frm 0 c):=by
  exact Eq.trans (e 5) (eF rfl rfl)
 unfold Bu;by_cases h:c.g0=2
 ·rw[aa h];refine A5 (Eq.trans (e 0) (eT rfl (eT rfl (eB hU ?_)))) (by simp);rw[aa h];rfl
 rw[ab h,Bn (s0 h)];by_cases h:c.aI=0
 ·rw[ab (by simpa using h),Bn (s1 h)];by_cases h:c.aH=true/\c.aM=true
  ·rw[aa h];refine A5 (Eq.trans (e 2) (eT rfl (eF rfl (eF rfl (eT rfl (eB hP ?_)))))) (by simp);rw[aa h];rfl
  ·rw[ab h,Bn (s2 h)];cases h:c.on
   ·rw[ab (by simp),Bn (s3 h),Bn s4];exact A5 s5 (by simp)
   ·rw[aa rfl];refine A5 (Eq.trans (e 3) (eT rfl (eF rfl (eF rfl (eF rfl (eT rfl (eB hB ?_))))))) (by simp);rw[aa h];generalize Bx K c=wk;rfl
 ·rw[aa h];refine A5 (Eq.trans (e 1) (eT rfl (eF rfl (eT rfl (eB hO ?_))))) (by simp);rw[bnT h];rfl
theorem Z3t {K:Kf} {c:Cv} {n:Int} (h:KOK K) (g:Gd K n c):Kn (Ab K c)=some (if c.on=true then I (Bx K c).1::B true::Ab K (Bx K c).2 else I 0::B false::Ab K c):=by
 have key:∀{M:Fn},(c.on=true->M (Ab K c)=some (I (Bx K c).1::Ab K (Bx K c).2))->T6 M (Ab K c)=some (if c.on=true then I (Bx K c).1::B true::Ab K (Bx K c).2 else I 0::B false::Ab K c):=by
  intro M hM;rw[Qui];cases e:c.on
  ·rw[ab (by simp)];rfl
  ·rw[aa rfl];have hM:=hM e;generalize Bx K c=wk at*;exact eB hM rfl
 exact key λe=>Qbm h (g.task e).1 (g.task e).2
abbrev F_ (c:Cv):Cv:={c with aJ:=false,aL:=false}
def DH (c:Cv) (E:List Evn):Cv:=E.foldl (λc e=>evC c e.kind e.n) (F_ c)
def Yx (E:List Evn):Prop:=E.length<=1000000/\∀e∈E,e.kind≠7/\e.kind≠12/\e.kind≠13
theorem Zvu {ME MR MG' MB MP MO MU MS MN MX MT MV:Fn} {K:Kf} {c:Cv} {E:List Evn} (hE:Yx E)
  (hV:∀(c:Cv) (x:Int) {k:Int} (n:Int),k≠7/\k≠12/\k≠13->MV (I x::I k::I n::Ab K c)=some (Ab K (evC c k n))):
  An (O8 ME MR MG' MB MP MO MU MS MN MX MT MV) (.view kPt (E.map evR)::I (E.map evR).length::I 0::(BX++Ab K (F_ c)))=some (1,BX++Ab K (DH c E)):=by
 have key:Out (λo=>o=(1,BX++Ab K (DH c E))) (An (O8 ME MR MG' MB MP MO MU MS MN MX MT MV) (.view kPt (E.map evR)::I (E.map evR).length::I ((0:Nat):Int)::(BX++Ab K (DH c (E.take 0))))):=by
  refine Cb (λi:Nat=> .view kPt (E.map evR)::I (E.map evR).length::I (i:Int)::(BX++Ab K (DH c (E.take i)))) (λi=>i<=E.length) (λi=>E.length-i) _ ?_ 0 (by simp);intro i hi;have hl:=hE.1;refine Out.eqv (Q0v ME MR MG' MB MP MO MU MS MN MX MT MV (E.map evR) (E.map evR).length i [] [] 0 0 0 0 0 0 0 K (DH c (E.take i))) ?_;refine .cond (λk=> ?_) λk=> ?_
  ·have k:(i:Int)<((E.map evR).length:Int):=A6 k;have hi:i<E.length:=by rw[ag]at k;omega
   refine .cond (λ_=> ?_) λe=>(inB (by omega) k e).elim;rw[Qfb E hi];refine .bind (p:=λo=>o=_) ⟨_,hV (DH c (E.take i)) E[i].cycle E[i].n (hE.2 _ (bq hi)),rfl⟩ λo e=> ?_;subst e;have e1:DH c (E.take (i+1))=evC (DH c (E.take i)) E[i].kind E[i].n:=by
    unfold DH;rw[List.take_add_one,ai hi,List.foldl_append];rfl
   rw[Ae (x:=(i:Int)+1) (by omega)];refine .some (.inl ⟨rfl,i+1,?_,by omega,by omega⟩);rw[e1];have st:∀d:Cv,BX++cR 0 (Ab K d)=BX++Ab K d:=λ_=>rfl;exact congrArg (λz=>AC.view kPt (E.map evR)::I (E.map evR).length::I ((i:Int)+1)::z) (st (evC (DH c (E.take i)) E[i].kind E[i].n))
  ·have k: ¬(i:Int)<((E.map evR).length:Int):=A2 k;rw[ag]at k;rw[List.take_of_length_le (by omega)];generalize DH c E=d;exact .some (.inr ⟨by simp,rfl⟩)
 obtain⟨o,h1,rfl⟩:=key;exact h1
def Ju (K:Kf) (frm u:Int):Rw:=wA ((IZ (pxt K.p K.x K.t [I frm,I u])).getD []) 0
theorem Q1u {K:Kf} (h:KOK K) (frm u:Int) (hd:u-frm<=1000000000000):Out (λo=>wA o 0=Ju K frm u) (IZ (pxt K.p K.x K.t [I frm,I u])):=
 ⟨_,W1 (Z0n h.f frm u hd),rfl⟩
abbrev AM (K:Kf) (c:Cv):Pt:=Bg K.p K.x K.t (Aw c)
theorem Zlt {MM MP MB MO MU:Fn} {K:Kf} {c:Cv} (hw:c.way=0) (hc:c.aL=false) {frm mode:Int}
  (hU:MU (Ab K c)=some [I (Aw c)]) (hO:MO (Ab K c)=some [I (AG K c)]) (hB:Out (λo=>wA o 0=Ju K frm (Aw c)) (MB (pxt K.p K.x K.t [I frm,I (Aw c)])))
  (hP:∀s,MP (I s::Ab K c)=some (.view Aa ((BE K c s).1.map As)::Ab K (BE K c s).2)) (hQ:∀s,∃n q:Int,(BE K c s).2={c with aK:=n,outs:=q}) (hM:∀u,MM (pxt K.p K.x K.t [I u])=some (ptR (Bg K.p K.x K.t u))):
  Up MM MP MB MO MU (I frm::(Ab K c++[.view kPt [], .view Aa [],I mode,I 0,I 0,I 0,I 0,I 0,I 0]))=
   some (Ab K (BE K c (AG K c)).2++HX (Ju K frm (Aw c)) ((BE K c (AG K c)).1.map As) mode (AG K c) (AM K c) c.s3 c.g1):=by
 refine Eq.trans (Q14 MM MP MB MO MU frm [] [] mode 0 0 0 0 0 0 K c) ?_;obtain⟨o,hB,ho⟩:=hB;rw[<-ho];refine eB hU (eB hO (eT (show(!c.aL)=true by rw[hc];rfl) (eB hB (eT (show(c.way==0)=true from beT hw) ?_))));have hP:=hP (AG K c);obtain⟨n,q,hq⟩:=hQ (AG K c);generalize BE K c (AG K c)=ps at*;refine eB hP ?_;rw[hq];refine eB (hM (Aw c)) ?_;rw[show AM K c=Bg K.p K.x K.t (Aw c)from rfl];generalize Bg K.p K.x K.t (Aw c)=mt;rfl
theorem Qcm (K:Kf) (s:Int):∀(l:List Mrk) (c:Cv),∃n q:Int,(Eo K s l c).2={c with aK:=n,outs:=q}
 |[],c=>⟨c.aK,c.outs,rfl⟩
 |m::l,c=>by
  unfold Eo;split
  ·exact⟨c.aK,c.outs,rfl⟩
  ·split
   ·obtain⟨n,q,h⟩:=Qcm K s l {c with outs:=swI c.outs (itK K m.item),aK:=c.aK+1};exact⟨n,q,h⟩
   ·obtain⟨n,q,h⟩:=Qcm K s l {c with aK:=c.aK+1};exact⟨n,q,h⟩
theorem Rj (K:Kf) (c:Cv) (s:Int):∃n q:Int,(BE K c s).2={c with aK:=n,outs:=q}:=Qcm K s _ c
theorem Zln {K:Kf} {c:Cv} {n:Int} (h:KOK K) (g:Gd K n c) (hn:0<=n/\n<=10010) (hc:c.aL=false) {frm mode:Int} (hf: -300000000000<=frm/\frm<=300000000000):
  KL (I frm::(Ab K c++[.view kPt [], .view Aa [],I mode,I 0,I 0,I 0,I 0,I 0,I 0]))=
   some (Ab K (BE K c (AG K c)).2++HX (Ju K frm (Aw c)) ((BE K c (AG K c)).1.map As) mode (AG K c) (AM K c) c.s3 c.g1):=
 Zlt g.way hc (Mm K c) (LH h c) (Q1u h frm (Aw c) (by have:=Qjm g hn;omega)) (λs=>Qq9 h g.pass s) (Rj K c) (Ki h.f)
def Ew (c:Cv):Cv:=if c.aH=true\/c.g0≠0 then{c with o2:=true}else c
def A8 (c:Cv):Cv:={c with before:=c.s3}
def EU (K:Kf) (c:Cv):Cv:=if HY K c=true then c else spS c K.ramp
def FR (c:Cv):Cv:={c with aM:=C7 c}
def Ic (K:Kf) (c:Cv) (E:List Evn):Cv:=FR (EU K (A8 (Ew (DH c E))))
def stC (K:Kf) (c:Cv) (E:List Evn):Int×Cv:=if(Bu K (Ic K c E)).1=0 then DR K (Bu K (Ic K c E)).2 else Bu K (Ic K c E)
def KI (K:Kf) (c:Cv) (E:List Evn):Cv:=(BE K (stC K c E).2 (AG K (stC K c E).2)).2
def Zf7 (K:Kf) (c:Cv) (E:List Evn):List Int:=(BE K (stC K c E).2 (AG K (stC K c E).2)).1
def tkC (K:Kf) (c:Cv) (E:List Evn):List AC:=
 HX (Ju K (Aw (DH c E)) (Aw (stC K c E).2)) ((Zf7 K c E).map As) (stC K c E).1 (AG K (stC K c E).2) (AM K (stC K c E).2) (stC K c E).2.s3 (stC K c E).2.g1
theorem Zmi {N16:Lp} {MR ME:Fn} {K:Kf} {d:Cv} {frm:Int} {o:Nat×List AC} (ho:∃e,o.2=BX++Ab K e)
  (h16:N16 (Cp K frm 0 d)=some (1,LF K frm (Bu K d).1 (Bu K d).2))
  (hR:(Bu K d).1=0->MR (Ab K (Bu K d).2)=some (I (DR K (Bu K d).2).1::Ab K (DR K (Bu K d).2).2))
  {s:Int×Cv} (hs:s=if(Bu K d).1=0 then DR K (Bu K d).2 else Bu K d)
  {pul outs:Rw} {pos sp ft:Int} {mt:Pt} {q:Cv}
  (hE:ME (I frm::(Ab K s.2++[.view kPt [], .view Aa [],I s.1,I 0,I 0,I 0,I 0,I 0,I 0]))=some (Ab K q++HX pul outs s.1 pos mt sp ft)):
  Gl N16 o MR ME (I frm) (Ab K d)=some (HX pul outs s.1 pos mt sp ft++Ab K q):=by
 obtain⟨o1,o2⟩:=o;obtain⟨e,ho⟩:=ho;dsimp only at ho;subst ho;refine eB h16 (eT rfl ?_);generalize Bu K d=r at*;generalize DR K r.2=w at*;by_cases h:r.1=0
 ·rw[aa h]at hs;subst hs;refine eT (show(r.1==0)=true from beT h) (eB (hR h) (eB hE rfl))
 ·rw[ab h]at hs;subst hs;exact eF (show(s.1==0)=false from beF h) (eB hE rfl)
theorem Z2d {ME MR MG' MB MP MO MU MS MN MX MT MV:Fn} {N3 N16:Lp} {K:Kf} {c:Cv} {E:List Evn}
  (h3:N3 (.view kPt (E.map evR)::I (E.map evR).length::I 0::(BX++Ab K (F_ c)))=some (1,BX++Ab K (DH c E)))
  (hT:∀c,MT (Ab K c)=some [B (HY K c)]) (hX:∀(c:Cv) (ramp:Int),MX [I c.s0,I c.s1,I c.s2,I c.s3,I ramp]=some [I (spS c ramp).s0,I (spS c ramp).s1,I (spS c ramp).s2,I (spS c ramp).s3])
  (hN:∀c,MN (Ab K c)=some [I (Aw c)]) (hS:∀c:Cv,MS [I c.m0,I c.m1,I c.m2,I c.m3,I c.m4,I c.m5]=some [B (C7 c)])
  (h1:∀o:Nat×List AC,(∃e,o.2=BX++Ab K e)->Gl N16 o MR ME (I (Aw (DH c E))) (Ab K (Ic K c E))=some (tkC K c E++Ab K (KI K c E))):
  RI ME MR MG' MB MP MO MU MS MN MX MT MV N3 N16 (.view kPt (E.map evR)::Ab K c)=some (tkC K c E++Ab K (KI K c E)):=by
 refine Eq.trans (Q75 ME MR MG' MB MP MO MU MS MN MX MT MV N3 N16 (E.map evR) K c) ?_;refine eB h3 (eT rfl ?_);unfold Ic at h1;generalize tkC K c E=tk at*;generalize KI K c E=sc at*;generalize DH c E=d at*
 have rest:∀b:Cv,Ew d=b->Aw b=Aw d->C7 b=C7 d->
   ((MT (Ab K (A8 b))).bind λo => bif !bA o 0 then (MX [I b.s0, I b.s1, I b.s2, I b.s3, I K.ramp]).bind λo2 => (MN (Ab K { A8 b with s0 := gA o2 0, s1 := gA o2 1, s2 := gA o2 2, s3 := gA o2 3 })).bind λo3 => (MS [I d.m0, I d.m1, I d.m2, I d.m3, I d.m4, I d.m5]).bind λo4 => Gl N16 (1, BX ++ Ab K d) MR ME (jA o3 0) (Ab K { A8 b with s0 := gA o2 0, s1 := gA o2 1, s2 := gA o2 2, s3 := gA o2 3, aM := bA o4 0 })
    else(MN (Ab K (A8 b))).bind λo3=>(MS [I d.m0,I d.m1,I d.m2,I d.m3,I d.m4,I d.m5]).bind λo4=>Gl N16 (1,BX++Ab K d) MR ME (jA o3 0) (Ab K {A8 b with aM:=bA o4 0}))=some (tk++Ab K sc):=λb hb hu hs=>by
  have h1:=h1 (1,BX++Ab K d) ⟨d,rfl⟩;rw[hb]at h1;refine eB (hT (A8 b)) ?_;cases ht:HY K (A8 b)
  ·have e1:EU K (A8 b)=spS (A8 b) K.ramp:=by unfold EU;rw[ab (by rw[ht];simp)]
   rw[e1]at h1;refine eT rfl (eB (hX b K.ramp) ?_);refine Eq.trans (congrArg (λz=>Option.bind z _) (hN (spS (A8 b) K.ramp))) (eB rfl (eB (hS d) ?_));have e2:Aw (spS (A8 b) K.ramp)=Aw d:=hu;have e3:({spS (A8 b) K.ramp with aM:=C7 d}:Cv)=FR (spS (A8 b) K.ramp):=by
    unfold FR;rw[show C7 (spS (A8 b) K.ramp)=C7 b from rfl,hs]
   rw[<-e3,<-e2]at h1;exact h1
  ·have e1:EU K (A8 b)=A8 b:=by unfold EU;rw[aa ht]
   rw[e1]at h1;refine eF rfl ?_;refine Eq.trans (congrArg (λz=>Option.bind z _) (hN (A8 b))) (eB rfl (eB (hS d) ?_));have e2:Aw (A8 b)=Aw d:=hu;have e3:({A8 b with aM:=C7 d}:Cv)=FR (A8 b):=by
    unfold FR;rw[show C7 (A8 b)=C7 b from rfl,hs]
   rw[<-e3,<-e2]at h1;exact h1
 refine eC (λt=> ?_) λt=>eC (λq=> ?_) λq=> ?_
 ·have t:d.aH=true:=t;exact rest {d with o2:=true} (by unfold Ew;rw[aa (.inl t)]) rfl rfl
 ·have q:d.g0≠0:=λe=>by
   have:(d.g0 !=0)=true:=q;rw[bnF e]at this;cases this
  exact rest {d with o2:=true} (by unfold Ew;rw[aa (.inr q)]) rfl rfl
 ·have t:d.aH=false:=t;have q:d.g0=0:=Decidable.byContradiction λe=>by
   have:(d.g0 !=0)=false:=q;rw[bnT e]at this;cases this
  exact rest d (by unfold Ew;rw[ab (λw=>by rcases w with w|w;rw[t]at w;cases w;exact w q)]) rfl rfl
structure Kp (c d : Cv) : Prop where
 way:d.way=c.way
 aL:d.aL=c.aL
 aK:d.aK=c.aK
 outs:d.outs=c.outs
theorem Kp.rfl {c:Cv}:Kp c c:=⟨Eq.refl _,Eq.refl _,Eq.refl _,Eq.refl _⟩
theorem Kp.trans {a b c:Cv} (h:Kp a b) (g:Kp b c):Kp a c:=⟨g.way.trans h.way,g.aL.trans h.aL,g.aK.trans h.aK,g.outs.trans h.outs⟩
structure Sm (c d : Cv) : Prop where
 kp:Kp c d
 m0:d.m0=c.m0
 m1:d.m1=c.m1
 m2:d.m2=c.m2
 m3:d.m3=c.m3
 m4:d.m4=c.m4
 on:d.on=c.on
 idx:d.idx=c.idx
 aI:d.aI=c.aI
 aH:d.aH=c.aH
 next:d.next=c.next
theorem Sm.trans {a b c:Cv} (h:Sm a b) (g:Sm b c):Sm a c:=
 ⟨h.kp.trans g.kp,g.m0.trans h.m0,g.m1.trans h.m1,g.m2.trans h.m2,g.m3.trans h.m3,g.m4.trans h.m4,g.on.trans h.on,g.idx.trans h.idx,g.aI.trans h.aI,g.aH.trans h.aH,g.next.trans h.next⟩
theorem Sm.rfl {c:Cv}:Sm c c:=⟨Kp.rfl,Eq.refl _,Eq.refl _,Eq.refl _,Eq.refl _,Eq.refl _,Eq.refl _,Eq.refl _,Eq.refl _,Eq.refl _,Eq.refl _⟩
theorem Gd.sm {K:Kf} {n:Int} {c d:Cv} (g:Gd K n c) (h:Sm c d):Gd K n d:=g.same h.kp.way h.kp.aK h.on h.idx h.m0 h.m1 h.m2
theorem Qip (c:Cv) (k n:Int):Sm c (evC c k n):=⟨⟨Eq.refl _,Eq.refl _,Eq.refl _,Eq.refl _⟩,Eq.refl _,Eq.refl _,Eq.refl _,Eq.refl _,Eq.refl _,Eq.refl _,Eq.refl _,Eq.refl _,Eq.refl _,Eq.refl _⟩
theorem Q7o:∀(E:List Evn) (c:Cv),Sm c (E.foldl (λc e=>evC c e.kind e.n) c)
 |[],_=>Sm.rfl
 |e::E,c=>(Qip c e.kind e.n).trans (Q7o E _)
theorem Q58 (c:Cv) (E:List Evn):Sm (F_ c) (DH c E):=Q7o E _
theorem Q6m (c:Cv):Sm c (Ew c):=by
 unfold Ew;split
 ·exact⟨⟨rfl,rfl,rfl,rfl⟩,rfl,rfl,rfl,rfl,rfl,rfl,rfl,rfl,rfl,rfl⟩
 ·exact Sm.rfl
theorem Q1q (K:Kf) (c:Cv):Sm c (EU K c):=by
 unfold EU;split
 ·exact Sm.rfl
 ·exact⟨⟨rfl,rfl,rfl,rfl⟩,rfl,rfl,rfl,rfl,rfl,rfl,rfl,rfl,rfl,rfl⟩
theorem Qwe (K:Kf) (c:Cv) (E:List Evn):Sm (F_ c) (Ic K c E):=
 (Q58 c E).trans ((Q6m _).trans (Sm.trans (b:=A8 (Ew (DH c E))) ⟨⟨rfl,rfl,rfl,rfl⟩,rfl,rfl,rfl,rfl,rfl,rfl,rfl,rfl,rfl,rfl⟩ ((Q1q K _).trans ⟨⟨rfl,rfl,rfl,rfl⟩,rfl,rfl,rfl,rfl,rfl,rfl,rfl,rfl,rfl,rfl⟩)))
theorem Gd.clear {K:Kf} {n:Int} {c:Cv} (g:Gd K n c):Gd K n (F_ c):=⟨g.way,g.pass,g.task,g.mo,g.m0⟩
theorem Q4o {K:Kf} {n:Int} {c:Cv} (g:Gd K n c) (E:List Evn):Gd K n (Ic K c E):=g.clear.sm (Qwe K c E)
theorem Z5v {K:Kf} {n:Int} {c:Cv} (g:Gd K n c):Gd K n (GL K c).2/\Kp c (GL K c).2:=by
 have done:∀d:Cv,Gd K n d->Kp c d->Gd K n (HN d)/\Kp c (HN d):=λd g k=>⟨⟨g.way,g.pass,λh=>(by cases h),g.mo,g.m0⟩,k.trans ⟨rfl,rfl,rfl,rfl⟩⟩;have cmd:∀n' sp:Int,Gd K n (I_ c n' sp)/\Kp c (I_ c n' sp):=λn' sp=>⟨⟨g.way,g.pass,g.task,g.mo,g.m0⟩,⟨rfl,rfl,rfl,rfl⟩⟩;unfold GL;split
 ·split
  ·exact done c g Kp.rfl
  ·exact⟨g,Kp.rfl⟩
 ·split
  ·exact done c g Kp.rfl
  ·split
   ·split
    ·exact⟨g,Kp.rfl⟩
    ·exact done c g Kp.rfl
   ·split
    ·split
     ·exact done _ (cmd _ _).1 (cmd _ _).2
     ·exact cmd _ _
    ·split
     ·exact⟨⟨g.way,g.pass,g.task,g.mo,g.m0⟩,⟨rfl,rfl,rfl,rfl⟩⟩
     ·exact done c g Kp.rfl
theorem Qxt {K:Kf} {n:Int} {c:Cv} (g:Gd K n c):Gd K n (Bx K c).2/\Kp c (Bx K c).2:=by
 have h:=Z5v (K:=K) (c:=CT c) ⟨g.way,g.pass,g.task,g.mo,g.m0⟩;exact⟨h.1,h.2.way,h.2.aL,h.2.aK,h.2.outs⟩
theorem Zks {K:Kf} {n:Int} {c:Cv} (g:Gd K n c) {i:Int} (h0:0<=i) (h1:i<K.p.aD.length):Gd K n (E_ K c i).2/\Kp c (E_ K c i).2:=by
 have h:=Qxt (K:=K) (c:={c with on:=true,idx:=i,aN:=Gk K c i,cnt:=0}) ⟨g.way,g.pass,λ_=>⟨h0,h1⟩,g.mo,g.m0⟩;exact⟨h.1,⟨h.2.way,h.2.aL,h.2.aK,h.2.outs⟩⟩
theorem NU {K:Kf} {n:Int} {c:Cv} (g:Gd K n c):Gd K n (E2 c)/\Kp c (E2 c):=by
 unfold E2;split
 ·exact⟨⟨g.way,g.pass,g.task,g.mo,g.m0⟩,⟨rfl,rfl,rfl,rfl⟩⟩
 ·exact⟨g,Kp.rfl⟩
theorem Zdr (K:Kf) (c:Cv) (l:Int):Kp c (Df K c l):=⟨rfl,rfl,rfl,rfl⟩
theorem Gd.e0 {K:Kf} {n:Int} {c:Cv} (g:Gd K n c) (x:Int):Gd K n {c with e0:=x}:=⟨g.way,g.pass,g.task,g.mo,g.m0⟩
theorem Gd.s3 {K:Kf} {n:Int} {c:Cv} (g:Gd K n c) (x:Int):Gd K n {c with s3:=x}:=⟨g.way,g.pass,g.task,g.mo,g.m0⟩
theorem Qsk {K:Kf} {n:Int} {c:Cv} (h:KOK K) (g:Gd K n c) (hn:0<=n/\n<=10000) (l:Int) {s:Sgm} (hs:i64 s.lead):Gd K (n+1) (Hx K c l s)/\Kp c (Hx K c l s):=by
 have gp:=Qmg h g hn l;unfold Hx;split
 ·exact⟨gp.s3 _,⟨rfl,rfl,rfl,rfl⟩⟩
 ·obtain⟨-,v,s',b,z,y,e,h2,h3⟩:=Qj1 h g l hs;have gm:Gd K (n+1) (Lf c (thO K c l s.lead)):=by
   have e1:gA (thO K c l s.lead) 1=v:=by rw[h2];rfl
   have:=g.move h hn h3;unfold Lf Us;rw[e1];generalize thO K c l s.lead=o;exact this.same rfl rfl rfl rfl rfl rfl rfl
  unfold L4;split
  ·exact⟨gp.e0 3,⟨rfl,rfl,rfl,rfl⟩⟩
  ·split
   ·exact⟨(NU gm).1,Kp.trans (b:=Lf c (thO K c l s.lead)) ⟨rfl,rfl,rfl,rfl⟩ (NU gm).2⟩
   ·exact⟨gm,⟨rfl,rfl,rfl,rfl⟩⟩
theorem Zf1 {K:Kf} {n:Int} {c:Cv} (h:KOK K) (g:Gd K n c) (hn:0<=n/\n<=10000) (l:Int):Gd K (n+1) (HM K c l)/\Kp c (HM K c l):=by
 unfold HM;split
 ·exact⟨Qmg h g hn l,Zdr K c l⟩
 ·rename_i hx;have hl:(sgK K c).lead≠0:=λe=>hx (.inl e);split
  ·exact Qsk h g hn l (GJ h hl).2.2
  ·split
   ·have:=Qsk h (g.go (sgK K c)) hn l (GJ h hl).2.2;exact⟨this.1,Kp.trans (b:=goC K c (sgK K c)) ⟨rfl,rfl,rfl,rfl⟩ this.2⟩
   ·split
    ·exact⟨(NU (g.up hn.1)).1,(NU g).2⟩
    ·exact⟨g.up hn.1,Kp.rfl⟩
theorem Qnr {K:Kf} {n:Int} {c:Cv} (h:KOK K) (g:Gd K n c) (hn:0<=n/\n<=10000):Gd K (n+1) (DR K c).2/\Kp c (DR K c).2:=by
 have hi:=Qup K c;unfold DR;split
 ·split
  ·rename_i k;have k2:(By K c).2<K.p.aD.length:=by
    rcases hi with hi|hi
    ·omega
    ·exact hi.2.2
   have gb:=Zks (g.up hn.1) k k2;split
   ·exact⟨(NU gb.1).1,gb.2.trans (NU gb.1).2⟩
   ·exact gb
  ·split
   ·exact⟨⟨g.way,g.pass,g.task,(g.up hn.1).mo,(g.up hn.1).m0⟩,⟨rfl,rfl,rfl,rfl⟩⟩
   ·exact⟨g.up hn.1,Kp.rfl⟩
 ·exact Zf1 h g hn _
theorem Q61 {K:Kf} {n:Int} {c:Cv} (h:KOK K) (g:Gd K n c) (hn:0<=n/\n<=10000):Gd K n (Bu K c).2/\Kp c (Bu K c).2:=by
 unfold Bu;split
 ·exact⟨(g.stand h hn).1,⟨rfl,rfl,rfl,rfl⟩⟩
 ·split
  ·exact⟨g,Kp.rfl⟩
  ·split
   ·exact⟨⟨g.way,g.pass,g.task,g.mo,g.m0⟩,⟨rfl,rfl,rfl,rfl⟩⟩
   ·split
    ·exact Qxt g
    ·exact⟨g,Kp.rfl⟩
theorem Q0o {K:Kf} {n:Int} {c:Cv} (h:KOK K) (g:Gd K n c) (hn:0<=n/\n<=10000) (E:List Evn):Gd K (n+1) (stC K c E).2/\Kp (F_ c) (stC K c E).2:=by
 have gr:=Q61 h (Q4o g E) hn;have kp:=(Qwe K c E).kp.trans gr.2;unfold stC;split
 ·have:=Qnr h gr.1 hn;exact⟨this.1,kp.trans this.2⟩
 ·exact⟨gr.1.up hn.1,kp⟩
theorem Uw (K:Kf) (s:Int):∀(l:List Mrk) (c:Cv),c.aK<=(Eo K s l c).2.aK/\(Eo K s l c).2.aK<=c.aK+l.length
 |[],c=>by simp[Eo]
 |m::l,c=>by
  unfold Eo;split
  ·simp only[bh];omega
  ·split
   ·have:=Uw K s l {c with outs:=swI c.outs (itK K m.item),aK:=c.aK+1};simp only[bh]at this⊢;omega
   ·have:=Uw K s l {c with aK:=c.aK+1};simp only[bh]at this⊢;omega
theorem Zph {K:Kf} {n:Int} {c:Cv} (h:KOK K) (g:Gd K n c) (hn:0<=n/\n<=10000) (E:List Evn):Gd K (n+1) (KI K c E):=by
 have gs:=(Q0o h g hn E).1;unfold KI;generalize(stC K c E).2=d at*;obtain⟨n',q,e⟩:=Rj K d (AG K d);have hb:=Uw K (AG K d) (K.p.aD.drop d.aK.toNat) d;rw[da]at hb;have hb:d.aK<=(BE K d (AG K d)).2.aK/\(BE K d (AG K d)).2.aK<=d.aK+((K.p.aD.length-d.aK.toNat:Nat):Int):=hb;rw[e]at hb⊢;have hp:=gs.pass;exact⟨gs.way,by dsimp only at hb⊢;omega,gs.task,gs.mo,gs.m0⟩
theorem Qqj {K:Kf} {c:Cv} {n:Int} (h:KOK K) (g:Gd K n c) (hn:0<=n/\n<=10000) {E:List Evn} (hE:Yx E):
  HR (.view kPt (E.map evR)::Ab K c)=some (tkC K c E++Ab K (KI K c E)):=by
 have gp:=Q4o g E;have gr:=Q61 h gp hn;have gs:=Q0o h g hn E;have hf: -300000000000<=Aw (DH c E)/\Aw (DH c E)<=300000000000:=Qjm (g.clear.sm (Q58 c E)) (by omega);refine Z2d (Zvu hE Q3n) (Zav h) Q29 (Mm K) Qbd λo ho=> ?_;refine Zmi (s:=stC K c E) ho (Zsq _ (Q23 K _) (Q9r K _) (Q8t K _) (Z3t h gp) (Q5q gp.way)) (λ_=>Qrd h gr.1 hn) rfl ?_;exact Zln h gs.1 (by omega) gs.2.aL hf
theorem Zmz (K:Kf) (c:Cv) (hs:K.p.aF.length<=1000000) (i:Int):∃v:Int,Nt (I i::Ab K c)=some (I v::Ab K c):=by
 have key:Out (λo=>∃v:Int,o=(1,I v::Ab K c)) (An TO (I i::I 0:: .view Ag (K.p.aF.map Au)::I ((K.p.aF.map Au).length:Int)::I ((0:Nat):Int)::Ab K c)):=by
  refine Cb (λs:Int×Nat=>I i::I s.1:: .view Ag (K.p.aF.map Au)::I ((K.p.aF.map Au).length:Int)::I (s.2:Int)::Ab K c) (λs=>s.2<=K.p.aF.length) (λs=>K.p.aF.length-s.2) _ ?_ (0,0) (Nat.zero_le _);rintro⟨v,k⟩ hk;dsimp only at hk;refine Out.eqv (Zmu i v (K.p.aF.map Au) ((K.p.aF.map Au).length:Int) k K c) ?_;have el:((K.p.aF.map Au).length:Int)=K.p.aF.length:=by rw[ag]
  refine .cond (λc1=> ?_) λ_=> .some (.inr ⟨by simp,v,rfl⟩);have c1:=A6 c1;refine .cond (λ_=> ?_) λe=>(inB (by omega) c1 e).elim;refine .cond (λ_=> .some (.inr ⟨by simp,v,rfl⟩)) λ_=> ?_;rw[Ae (x:=(k:Int)+1) (by omega)];exact .some (.inl ⟨rfl,(_,k+1),rfl,by dsimp only;omega,by dsimp only;omega⟩)
 obtain⟨o,h1,v,rfl⟩:=key;refine⟨v,?_⟩;show Qn5 (An TO) _=_;rw[Zmy];exact eB h1 (eT rfl rfl)
theorem Zz6 (K:Kf) (c:Cv) (hs:K.p.aF.length<=1000000) (s:Int):Mc (I s::Ab K c)=some [I (P4 K c s)]:=by
 have key:Out (λo=>∃v:Int,o=(1,I v::Ab K c)) (An Ks (I s::I 0::I 0:: .view Ag (K.p.aF.map Au)::I ((K.p.aF.map Au).length:Int)::I ((0:Nat):Int)::Ab K c)):=by
  refine Cb (λz:Int×Int×Nat=>I s::I z.1::I z.2.1:: .view Ag (K.p.aF.map Au)::I ((K.p.aF.map Au).length:Int)::I (z.2.2:Int)::Ab K c) (λz=>z.2.2<=K.p.aF.length) (λz=>K.p.aF.length-z.2.2) _ ?_ (0,0,0) (Nat.zero_le _);rintro⟨v,w,k⟩ hk;dsimp only at hk;refine Out.eqv (Zsa s v w (K.p.aF.map Au) ((K.p.aF.map Au).length:Int) k K c) ?_;have el:((K.p.aF.map Au).length:Int)=K.p.aF.length:=by rw[ag]
  refine .cond (λc1=> ?_) λ_=> .some (.inr ⟨by simp,w,rfl⟩);have c1:=A6 c1;refine .cond (λ_=> ?_) λe=>(inB (by omega) c1 e).elim;rw[Ae (x:=(k:Int)+1) (by omega)];refine .cond (λ_=> .cond (λ_=> ?_) λ_=> ?_) λ_=> ?_;all_goals exact .some (.inl ⟨rfl,(_,_,k+1),rfl,by dsimp only;omega,by dsimp only;omega⟩)
 obtain⟨o,h1,v,rfl⟩:=key;have hv:Mc (I s::Ab K c)=some [I v]:=by
  show Qmh (An Ks) _=_;refine(Zjn _ s K c).trans ?_;exact eB h1 rfl
 have e:P4 K c s=v:=by unfold P4;rw[hv];rfl
 rw[e];exact hv
theorem Z0c {MB MP MS:Fn} {K:Kf} {c:Cv} (h:KOK K) (hS:MS (Ab K c)=some (Au (sgK K c)++[B (DX K c).isSome])) (hP:MP (Ab K c)=some [I (AG K c)]) (hB:∀i,∃v:Int,MB (I i::Ab K c)=some (I v::Ab K c)):
  ∃b:Bool,(c.aH=true->b=true)/\Qah MB MP MS (Ab K c)=some (Ab K {c with aH:=b}):=by
 have no:∃b:Bool,(c.aH=true->b=true)/\some (Ab K c)=some (Ab K {c with aH:=b}):=⟨c.aH,id,rfl⟩;have bE:∀{m:Option (List AC)} {f:Fn} {o:List AC},m=some o->(∃b:Bool,(c.aH=true->b=true)/\f o=some (Ab K {c with aH:=b}))->∃b:Bool,(c.aH=true->b=true)/\m.bind f=some (Ab K {c with aH:=b}):=λh hf=>by rw[h];exact hf
 have bC:∀{b:Bool} {X Y:Option (List AC)},(b=true->∃d:Bool,(c.aH=true->d=true)/\X=some (Ab K {c with aH:=d}))->(b=false->∃d:Bool,(c.aH=true->d=true)/\Y=some (Ab K {c with aH:=d}))->∃d:Bool,(c.aH=true->d=true)/\(bif b then X else Y)=some (Ab K {c with aH:=d}):=fun{b} _ _ hx hy=>by
  cases b
  ·exact hy rfl
  ·exact hx rfl
 rw[Zvr];refine bE hS (bC (λh1=>bC (λ_=>bC (λ_=>bC (λ_=>bE hP ?_) λ_=>no) λe=> ?_) λ_=>no) λ_=>no)
 ·obtain⟨v,hv⟩:=hB (sgK K c).item;refine bE hv (bC (λ_=>⟨true,λ_=>rfl,rfl⟩) λ_=>⟨c.aH,id,rfl⟩)
 ·cases hs:DX K c with
  |none=>rw[hs]at h1;cases h1
  |some g=>
   obtain⟨q1,q2,-⟩:=h.aF g (Qid hs);have eg:sgK K c=g:=by unfold sgK;rw[hs];rfl
   have e:(decide (0<=(sgK K c).item)&&decide ((sgK K c).item<((K.aA.map Ah).length:Int)))=false:=e;rw[eg,inM (f:=Ah) q1 q2]at e;cases e
theorem Zcz {K:Kf} (h:KOK K) (c:Cv):L5 (Ab K c)=some (Ab K (KR K c))/\(c.aH=true->(KR K c).aH=true):=by
 obtain⟨b,hb,h1⟩:=Z0c (MB:=Nt) h (RU h c) (LH h c) (Zmz K c (by have:=h.f.p.count;omega));have h1:L5 (Ab K c)=some (Ab K {c with aH:=b}):=h1;have e:KR K c={c with aH:=b}:=by unfold KR;rw[h1];rfl
 rw[e];exact⟨h1,hb⟩
def Fj (K:Kf) (c:Cv) (n:Int):Bool:=(DX K c).isSome&&decide (0<n)&&decide (c.way=0)&& !c.on&&decide (c.aI=0)&&c.o2&&decide ((sgK K c).lead=0)&&Er K c
def PB (K:Kf) (c:Cv) (n:Int):Int:=mx (mx 0 (wrap .i64 (AG K c-n))) (P4 K c (AG K c))
def Ec (K:Kf) (c:Cv) (n:Int):Kf×Cv:=if Fj K c n=true then(sT K (Do K c (PB K c n)),{zM c with o2:=false,way:=1,home:=AG K c})else(K,c)
theorem Za9 {MT MY MP MS:Fn} {K:Kf} {c:Cv} {n:Int} (hS:MS (Ab K c)=some (Au (sgK K c)++[B (DX K c).isSome])) (hP:MP (Ab K c)=some [I (AG K c)])
  (hY:∀s,MY (I s::Ab K c)=some [I (P4 K c s)]) (hT:∀to,MT (pxt K.p K.x K.t [I c.m0,I c.m1,I c.m2,I c.m3,I c.m4,I c.m5,I to])=some (J1 K c to)):
  Xj MT MY MP MS (I n::Ab K c)=some (Ab (Ec K c n).1 (Ec K c n).2):=by
 rw[Z2j];have no:Fj K c n=false->some (Ab K c)=some (Ab (Ec K c n).1 (Ec K c n).2):=λe=>by unfold Ec;rw[ab (by rw[e];simp)]
 refine eB hS ?_;refine eC (λe=> ?_) λe1=> ?_
 ·have e:(!(DX K c).isSome)=true:=e;exact no (by unfold Fj;rw[Bool.not_eq_true']at e;rw[e];rfl)
 have e1:(DX K c).isSome=true:=by simpa [bA,nth,Dl]using e1
 refine eC (λe=>no ?_) λe2=> ?_
 ·unfold Fj;rw[am (show¬0<n by have:=A6 e;omega)];simp
 have e2:0<n:=by have:=A2 e2;omega
 refine eC (λe=>no ?_) λe3=> ?_
 ·unfold Fj;rw[am (show¬c.way=0 by simpa using e)];simp
 have e3:c.way=0:=by simpa using e3
 refine eC (λe=>no ?_) λe4=> ?_
 ·unfold Fj;rw[show c.on=true from e];simp
 have e4:c.on=false:=e4;refine eC (λe=>no ?_) λe5=> ?_
 ·unfold Fj;rw[am (show¬c.aI=0 by simpa using e)];simp
 have e5:c.aI=0:=by simpa using e5
 refine eC (λe=>no ?_) λe6=> ?_
 ·unfold Fj;rw[show c.o2=false by simpa using e];simp
 have e6:c.o2=true:=by simpa using e6
 refine eC (λe=>no ?_) λe7=> ?_
 ·unfold Fj;rw[am (show¬(sgK K c).lead=0 by simpa [gA,nth,Af]using e)];simp
 have e7:(sgK K c).lead=0:=by simpa [gA,nth,Af]using e7
 have hall:Fj K c n=Er K c:=by
  unfold Fj;rw[e1,al e2,al e3,e4,al e5,e6,al e7];rfl
 refine eB hP (eB (hY (AG K c)) ?_);have hT:=hT (PB K c n);unfold J1 at hT;unfold Ec;rw[hall];cases hb:Er K c
 ·rw[hb,ab (by simp)]at hT;exact eB hT (eT rfl rfl)
 ·rw[hb,aa rfl]at hT;rw[aa rfl];generalize Do K c (PB K c n)=t at*;exact eB hT (eF rfl (by kernel_rfl))
theorem Z51 {K:Kf} (h:KOK K) (c:Cv) (n:Int):Q3 (I n::Ab K c)=some (Ab (Ec K c n).1 (Ec K c n).2):=
 Za9 (RU h c) (LH h c) (Zz6 K c (by have:=h.f.p.count;omega)) (Qxd h c)
def evA (s:Kf×Cv) (k n:Int):Kf×Cv:=
 if k=13 then(s.1,KW s.1 (evC s.2 k n) n)else if k=12 then(s.1,KR s.1 (evC s.2 k n))else if k=7 then Ec s.1 (evC s.2 k n) n else(s.1,evC s.2 k n)
theorem Zir {MR MT ML MG' MO:Fn} {K:Kf} (c:Cv) (x:Int) {k:Int} (n:Int)
  (hO:k≠11->MO [I c.o0,I c.o1,B c.o2,B c.o3,B c.o4,I x,I k,I n]=some [I (evC c k n).o0,I (evC c k n).o1,B (evC c k n).o2,B (evC c k n).o3,B (evC c k n).o4])
  (hG:MG' [I c.g0,I c.g1,I c.g2,I x,I k,I n]=some [I (evC c k n).g0,I (evC c k n).g1,I (evC c k n).g2])
  (h1:k=13->ML (I n::Ab K (evC c k n))=some (Ab K (KW K (evC c k n) n))) (h2:k=12->MT (Ab K (evC c k n))=some (Ab K (KR K (evC c k n))))
  (h3:k=7->MR (I n::Ab K (evC c k n))=some (Ab (Ec K (evC c k n) n).1 (Ec K (evC c k n) n).2)) (hk:k=13\/k=12\/k=7):
  Uh MR MT ML MG' MO (I x::I k::I n::Ab K c)=some (Ab (evA (K,c) k n).1 (evA (K,c) k n).2):=by
 rw[Q1e];have hr:(evC c k n).aJ=c.aJ:=by
  show(if k=4 then true else c.aJ)=c.aJ;rw[ab (by omega)]
 have ee:({c with o0:=(evC c k n).o0,o1:=(evC c k n).o1,o2:=(evC c k n).o2,o3:=(evC c k n).o3,o4:=(evC c k n).o4,g0:=(evC c k n).g0,g1:=(evC c k n).g1,g2:=(evC c k n).g2}:Cv)=evC c k n:=by
  have e:(evC c k n)={c with o0:=(evC c k n).o0,o1:=(evC c k n).o1,o2:=(evC c k n).o2,o3:=(evC c k n).o3,o4:=(evC c k n).o4,g0:=(evC c k n).g0,g1:=(evC c k n).g1,g2:=(evC c k n).g2,aJ:=(evC c k n).aJ}:=rfl;rw[hr]at e;exact e.symm
 refine eB (hO (by omega)) (eB hG ?_);show cond (k==13) ((ML (I n::Ab K {c with o0:=(evC c k n).o0,o1:=(evC c k n).o1,o2:=(evC c k n).o2,o3:=(evC c k n).o3,o4:=(evC c k n).o4,g0:=(evC c k n).g0,g1:=(evC c k n).g1,g2:=(evC c k n).g2})).bind _) (cond (k==11) _ (cond (k==12) ((MT (Ab K {c with o0:=(evC c k n).o0,o1:=(evC c k n).o1,o2:=(evC c k n).o2,o3:=(evC c k n).o3,o4:=(evC c k n).o4,g0:=(evC c k n).g0,g1:=(evC c k n).g1,g2:=(evC c k n).g2})).bind _) (cond (k==7) ((MR (I n::Ab K {c with o0:=(evC c k n).o0,o1:=(evC c k n).o1,o2:=(evC c k n).o2,o3:=(evC c k n).o3,o4:=(evC c k n).o4,g0:=(evC c k n).g0,g1:=(evC c k n).g1,g2:=(evC c k n).g2})).bind _) _)))=_;rw[ee];unfold evA;dsimp only;generalize evC c k n=d at*;rcases hk with hk|hk|hk
 ·rw[aa hk];have h1:=h1 hk;generalize KW K d n=e at*;exact eT (beT hk) (eB h1 rfl)
 ·rw[ab (by omega),aa hk];have h2:=h2 hk;generalize KR K d=e at*;exact eF (beF (by omega)) (eF (beF (by omega)) (eT (beT hk) (eB h2 rfl)))
 ·rw[ab (by omega),ab (by omega),aa hk];have h3:=h3 hk;generalize Ec K d n=e at*;exact eF (beF (by omega)) (eF (beF (by omega)) (eF (beF (by omega)) (eT (beT hk) (eB h3 rfl))))
theorem Zcn {K:Kf} (h:KOK K) (c:Cv) (x k:Int) {n:Int} (hn:n<=4194304):JL (I x::I k::I n::Ab K c)=some (Ab (evA (K,c) k n).1 (evA (K,c) k n).2):=by
 by_cases hk:k≠7/\k≠12/\k≠13
 ·have e:evA (K,c) k n=(K,evC c k n):=by
   unfold evA;rw[ab hk.2.2,ab hk.2.1,ab hk.1]
  rw[e];exact Q3n c x n hk
 ·exact Zir c x n (λh=>Qxa Qz9 c x k n h) (Q7k (by show Pw []=_;rw[Zi]) Qyz c x k n) (λ_=>(Qca h _ hn).1) (λ_=>(Zcz h _).1) (λ_=>Z51 h _ n) (by omega)
end Go.Bm
