/- laid together -/
import Derived.Test.YtommijghjlikkaaGreatPrSt
import Derived.Test.YtommijghjlikkaaGreatPrTk4
import Derived.Test.YtommijghjlikkaaGreatPrLd
import Derived.Test.YtommijghjlikkaaGreatMx3
import Derived.Test.YtommijghjlikkaaGreatMy1
set_option linter.unusedVariables false
set_option linter.unusedSimpArgs false
set_option maxRecDepth 100000
open Go.IntKind (wrap)
namespace Go.Bm
open Classical
def okU (s:Spk):Prop:=s.u.natAbs<=1000000/\s.w.natAbs<=1000000/\(0<=s.r/\s.r<=1000000)/\s.h.natAbs<=200000
theorem okU.s {s:Spk} (h:okU s):okS s:=⟨by have:=h.1;omega,by have:=h.2.1;omega,⟨h.2.2.1.1,by have:=h.2.2.1.2;omega⟩,by have:=h.2.2.2;omega⟩
theorem Zh2 {a b:Spk} (ha:okU a) (hb:okU b) {u w:Int} (hu:u.natAbs<=100000000) (hw:w.natAbs<=100000000):okU (Hd a b u w):=by
 unfold Hd;split
 ·exact⟨by simp,by simp,by simp,by simp⟩
 ·rename_i h;have ha3:=ha.2.2;have hb3:=hb.2.2
  have hr:0<=hf a.r b.r/\hf a.r b.r<=1000000:=by unfold hf;omega
  have hh:(hf a.h b.h).natAbs<=200000:=by unfold hf;omega
  obtain⟨⟨-,n1⟩,-,n2⟩:=Q5o hu hw (r:=hf a.r b.r) (by omega) h;exact⟨by simp only;omega,by simp only;omega,hr,hh⟩
theorem Z0l {a b:Spk} (ha:okU a) (hb:okU b) {dir:Int} (hd:dir=1\/dir= -1) (full:Bool):okU (EC a b dir full):=
 Zh2 ha hb (Ok ha.s hb.s hd full).1 (Ok ha.s hb.s hd full).2
theorem Qdk {dir:Int} (hd:dir=1\/dir= -1):∀(k:Nat) (full:Bool) {a b:Spk},okU a->okU b->∀s∈DI dir k full a b,okU s
 |0,_,a,b,_,hb,s,hs=>by simp[DI]at hs;subst hs;exact hb
 |k+1,full,a,b,ha,hb,s,hs=>by
  unfold DI at hs;have hm:=Z0l ha hb hd full;split at hs
  ·simp at hs;subst hs;exact hb
  ·rcases List.mem_append.1 hs with hs|hs
   ·exact Qdk hd k false ha hm s hs
   ·exact Qdk hd k false hm hb s hs
theorem Z1y {n:Nat} (hn:n<=300000000000):0<=FE n/\FE n<=1000000:=by
 obtain⟨r,-,h2,h3,-⟩:=Sq (n:=n) (by omega);have hm:=S3 h2 h3;rw[Rb hm];have:r<1000000:=by
  by_cases c:r<1000000
  ·exact c
  ·have:=Nat.mul_le_mul (show 1000000<=r by omega) (show 1000000<=r by omega);omega
 split<;>omega
theorem Qdq {pl:Int} {p:Pt} {b:Nat} (h:bd b p):(plU pl p).natAbs<=b/\(plW pl p).natAbs<=b/\(plH pl p).natAbs<=b:=Ir h
theorem Vd {it:Itm} {p:Pt} (hc:bd 4200 it.ce) (hp:bd 4200 p):okU (Ev it p):=by
 obtain⟨c1,c2,c3⟩:=Qdq (pl:=it.aG) hc;obtain⟨p1,p2,p3⟩:=Qdq (pl:=it.aG) hp;have h1:(dU it p*16).natAbs<=134400:=by unfold dU;omega
 have h2:(dW it p*16).natAbs<=134400:=by unfold dW;omega
 have q1:=DG h1;have q2:=DG h2;obtain⟨-,-,h3,-⟩:=Qe (A7 hc (by omega)) (A7 hp (by omega));obtain⟨n,hn⟩:=Int.eq_ofNat_of_zero_le h3;refine⟨Nat.le_trans h1 (by decide),Nat.le_trans h2 (by decide),?_,?_⟩
 ·show 0<=FE _/\FE _<=_;rw[hn];refine Z1y ?_;unfold sq2 at hn;omega
 ·show(plH it.aG p*16).natAbs<=_;omega
theorem Z0a {it:Itm} {s:Spk} (hc:bd 4200 it.ce) (hs:okU s):bd B24 (I7 it s):=by
 obtain⟨h1,h2,-⟩:=Qdq (pl:=it.aG) (Ff hc);obtain⟨s1,s2,-,s4⟩:=hs;exact Qz4 (by unfold B24;omega) (by unfold B24;omega) (by unfold B24;omega)
theorem Zxn {it:Itm} (h:Made it) (hf:bd 4084 it.fr):∀p∈B0 it,bd B24 p:=by
 have ht:=Q8z h hf;intro p hp;unfold B0 at hp;split at hp
 ·rename_i h3;simp only[List.mem_map]at hp;obtain⟨s,hs,rfl⟩:=hp;have hce:bd 4200 it.ce:=A7 (Qcv (h.arc h3) (by omega) hf).2 (by omega);refine Z0a hce ?_;rcases List.mem_cons.1 hs with rfl|hs
  ·exact Vd hce (A7 hf (by omega))
  ·exact Qdk (h.arc h3).dir 16 _ (Vd hce (A7 hf (by omega))) (Vd hce (A7 ht (by omega))) s hs
 ·simp at hp;rcases hp with rfl|rfl
  ·exact A7 (Ff hf) (by decide)
  ·exact A7 (Ff ht) (by decide)
def QB (n:Nat) (g:Sgm):Prop:=bd B24 g.to/\0<=g.item/\g.item<n/\i64 g.lead
theorem Qzz {n:Nat} {item feed lead:Int} (h1:0<=item/\item<n) (h2:i64 lead):∀(pts:List Pt) (s:List Sgm×Int×Pt),(∀p∈pts,bd B24 p)->(∀g∈s.1,QB n g)->∀g∈(pts.foldl (AW item feed lead) s).1,QB n g
 |[],s,_,h=>h
 |q::pts,s,hp,h=>by
  rw[List.foldl_cons];refine Qzz h1 h2 pts _ (fun p hp'=>hp p (by simp[hp'])) ?_;unfold AW;split
  ·exact h
  ·intro g hg;simp only[List.mem_append,List.mem_singleton]at hg;rcases hg with hg|rfl
   ·exact h g hg
   ·exact⟨hp q (by simp),h1.1,h1.2,h2⟩
structure PIn (n : Nat) (s : BSt) : Prop where
 start:bd B24 s.start
 aF:∀g∈s.aF,QB n g
 aD:∀m∈s.aD,0<=m.item/\m.item<n/\i64 m.at_
theorem Ztu {aA:List Itm} {i:Nat} {frm:Int} (hd:drawn (itA aA i)) (hf:Li aA i frm) (hall:∀k<aA.length,AG (itA aA k)->drawn (itA aA k)) (hc:∀p∈B0 (itA aA i),bd B24 p):∀p∈Cg aA i frm,bd B24 p:=by
 unfold Cg;by_cases hs:smI (itA aA i)
 ·rw[if_pos hs];intro p hp;rcases List.mem_append.1 hp with hp|hp
  ·rcases List.mem_append.1 hp with hp|hp
   ·unfold IZ at hp;rcases hf with rfl|⟨f,rfl,hf1,hf2⟩
    ·rw[if_neg (by omega)]at hp;exact hc p (List.mem_of_mem_take hp)
    ·rw[if_pos (by omega)]at hp;exact(Kz (aA:=aA) (i:=(f:Int).toNat) (k:=i) (by simpa using hf2) hd).1 p (List.mem_of_mem_drop hp)
   ·simp at hp;subst hp;exact LM hd.1.2.1 hd.1.2.2.1
  ·unfold LF at hp;by_cases h:0<=BV aA i
   ·rw[if_pos h]at hp;obtain⟨k,hk,hk1,hk2⟩:=TO hall h;exact(Kz (aA:=aA) (i:=i) (k:=(BV aA i).toNat) hd (by rw[hk];simpa using hk2)).1 p (List.mem_of_mem_take hp)
   ·rw[if_neg h]at hp;exact hc p (List.mem_of_mem_drop hp)
 ·rw[if_neg hs];exact hc
theorem Zsg {it:Itm} (hf:it.kind=1\/1<=it.feed/\it.feed<=60000000):i64 (JP it):=by
 unfold JP;split
 ·rename_i h;unfold syI at h;unfold mn i64;split<;>omega
 ·unfold i64;omega
theorem Q89 {aA:List Itm} {i:Nat} {s:BSt} (hi:i<aA.length) (hl:aA.length<=15) (hright:∀j<aA.length,¬BF (itA aA j)) (hch:∀j<aA.length,AG (itA aA j)->∀p∈B0 (itA aA j),bd B24 p) (hok:BOK aA i s) (h:PIn aA.length s):PIn aA.length (Cw aA i s):=by
 have hall:∀k<aA.length,AG (itA aA k)->drawn (itA aA k):=fun k hk hm=>(K_ (hright k hk) hm).1;have hok2:=Qx7 hi hright hok;have hlen:=hok.len;have hlen2:=hok2.len;unfold Cw at hlen2⊢;by_cases hm:AG (itA aA i)
 ·rw[if_pos hm]at hlen2⊢;have hd:=hall i hi hm;refine⟨?_,Qzz ⟨by omega,by omega⟩ (Zsg (K_ (hright i hi) hm).2) _ _ (Ztu hd hok.frm hall (hch i hi hm)) h.aF,?_⟩
  ·show bd B24 (if s.begun=true then s.start else Ax (itA aA i).fr);split
   ·exact h.start
   ·exact Ff hd.1.2.1
  ·intro m hm;simp only[List.mem_append,List.mem_singleton]at hm;rcases hm with hm|rfl
   ·exact h.aD m hm
   ·refine⟨by simp only;omega,by simp only;omega,?_⟩;simp only at hlen2⊢;unfold i64;omega
 ·rw[if_neg hm];refine⟨h.start,h.aF,?_⟩;intro m hm;simp only[List.mem_append,List.mem_singleton]at hm;rcases hm with hm|rfl
  ·exact h.aD m hm
  ·refine⟨by simp only;omega,by simp only;omega,?_⟩;simp only;unfold i64;omega
theorem Qqi {aA:List Itm} (hl:aA.length<=15) (hright:∀j<aA.length,¬BF (itA aA j)) (hch:∀j<aA.length,AG (itA aA j)->∀p∈B0 (itA aA j),bd B24 p):∀i,i<=aA.length->PIn aA.length (Aq aA i)
 |0,_=>by rw[Aq];exact⟨by unfold bd;simp,fun g h=>(by cases h),fun g h=>(by cases h)⟩
 |i+1,hi=>by rw[Aq];exact Q89 (by omega) hl hright hch (Mr hright i (by omega)) (Qqi hl hright hch i (by omega))
theorem Zea {aA:List Itm} (hl:aA.length<=15) (hc:Cu aA=0) (hch:∀j<aA.length,AG (itA aA j)->∀p∈B0 (itA aA j),bd B24 p):bd B24 (AR aA).start/\(∀g∈(AR aA).aF,QB aA.length g)/\(∀m∈(AR aA).aD,0<=m.item/\m.item<aA.length/\i64 m.at_)/\(AR aA).aD.length=aA.length:=by
 have hright:=(Ol hc).2;have h1:=Qqi hl hright hch aA.length (Nat.le_refl _);exact⟨h1.start,h1.aF,h1.aD,(Mr hright aA.length (Nat.le_refl _)).aD⟩
theorem Ztg {aA:List Itm} (hl:aA.length<=15) (hc:Cu aA=0):i64 (IA aA):=by
 have hg:=Qmo hl hc;have hs:=Vk (S6 hg.start hg.aF);have hcount:=hg.count;have hright:=(Ol hc).2;have h0:i64 (AF (AR aA).aF):=by unfold i64;omega
 unfold IA;split
 ·rename_i i e;split
  ·rename_i c;obtain⟨hi,-,-⟩:=Qcu e;have hm:AG (itA aA i):=⟨by have:=c.1.1;omega,by have:=c.1.1;omega⟩;obtain⟨hd,-⟩:=K_ (hright i hi) hm;have:=HW (A7 (LM hd.1.2.1 hd.1.2.2.1) (by decide)) (A7 (Ff hd.1.2.2.1) (by decide));unfold i64;omega
  ·exact h0
 ·exact h0
end Go.Bm
namespace Go.Bm
open Classical
theorem Rp (n lo hi:Int):Gj [I n,I lo,I hi]=some [B (decide (lo<=n/\n<=hi))]:=by
 show XF [I n,I lo,I hi]=_;rw[Zq9];by_cases h1:lo<=n<;>by_cases h2:n<=hi<;>simp[h1,h2]
theorem Zkp {M:Fn} (hM:∀n lo hi:Int,M [I n,I lo,I hi]=some [B (decide (lo<=n/\n<=hi))]) {a:Axs} (h:AxOK a) (hne:a.pitch≠[]):
  ∃o,Am (Y2 M) (.view Aa (a.pitch.map Ao)::I a.pitch.length::I 0::Bk a)=some o/\o.1=2:=by
 have hsp:=h.spacing hne;refine(?_:Out (fun o:Nat×List AC=>o.1=2) _);refine CT (fun i:Nat=> .view Aa (a.pitch.map Ao)::I a.pitch.length::I (i:Int)::Bk a) (fun i=>i<=a.pitch.length) (fun i=>a.pitch.length-i) _ ?_ 0 (by simp);intro i hi;have hc:=h.count;rw[Zci];dsimp only[jA,gA,bA,wA];have hv:∀j:Nat,j<a.pitch.length->Af (nth .dead (nth [] (a.pitch.map Ao) j) 0)=a.pitch.getD j 0:=fun j hj=>by
  have e:nth [] (a.pitch.map Ao) j=Ao a.pitch[j]:=by
   rw[G3 [] (a.pitch.map Ao) j (by rw[List.length_map];exact hj),List.getElem_map]
  rw[e,List.getD,List.getElem?_eq_getElem hj];rfl
 refine .cond (fun k=> ?_) fun _=> .some (.inr ⟨by simp,rfl⟩);have k:(i:Int)<(a.pitch.length:Int):=Br k;have hl:((a.pitch.map Ao).length:Int)=a.pitch.length:=by rw[List.length_map]
 refine .cond (fun _=> ?_) fun e=>(inB (by omega) (by rw[hl];exact k) e).elim;have hm: -4096<=a.pitch.getD i 0/\a.pitch.getD i 0<=4096:=by
  refine h.pitch.1 _ ?_;rw[List.getD,List.getElem?_eq_getElem (by omega)];exact List.getElem_mem _
 rw[Int.toNat_natCast,hv i (by omega),hM];simp only[Option.bind_some,gA,wA,bA,jA,CV,CM];rw[decide_eq_true hm];refine .cond (fun e=>by cases e) fun _=> ?_;have nx:∀{x:List AC},x= .view Aa (a.pitch.map Ao)::I a.pitch.length::I ((i:Int)+1)::Bk a->Out (fun o:Nat×List AC=>(o.1=0/\∃s':Nat,o.2= .view Aa (a.pitch.map Ao)::I a.pitch.length::I (s':Int)::Bk a/\s'<=a.pitch.length/\a.pitch.length-s'<a.pitch.length-i)\/(o.1≠0/\o.1=2)) (some (0,x)):=fun e=>
  .some (.inl ⟨rfl,i+1,by rw[e];rfl,by omega,by omega⟩)
 rw[Ae (x:=(i:Int)+1) (by omega)];refine .cond (fun g=> ?_) fun _=>nx rfl;have g:(i:Int)>0:=Br g;rw[Ae (x:=(i:Int)-1) (by omega)];refine .cond (fun _=> ?_) fun e=>(inB (by omega) (by rw[hl];omega) e).elim;obtain⟨j,rfl⟩:∃j:Nat,i=j+1:=⟨i-1,by omega⟩;have hd:=h.pitch.2 j (by omega);have hmj: -4096<=a.pitch.getD j 0/\a.pitch.getD j 0<=4096:=by
  refine h.pitch.1 _ ?_;rw[List.getD,List.getElem?_eq_getElem (by omega)];exact List.getElem_mem _
 have ej:(((j+1:Nat):Int)-1).toNat=j:=by omega
 rw[ej,hv j (by omega),hM];simp only[Option.bind_some,gA,wA,bA,jA,CV,CM];have q1:a.spacing.tdiv 4=a.spacing/4:=Int.tdiv_eq_ediv_of_nonneg (by omega);rw[q1,Ae (x:=a.spacing/4) (by omega),Ae (x:=0-a.spacing/4) (by omega),Ae (x:=a.pitch.getD (j+1) 0-a.pitch.getD j 0) (by omega)];refine .cond (fun e=> ?_) fun _=>nx rfl;rw[decide_eq_true (show 0-a.spacing/4<=a.pitch.getD (j+1) 0-a.pitch.getD j 0/\a.pitch.getD (j+1) 0-a.pitch.getD j 0<=a.spacing/4 by omega)]at e;cases e
theorem Z08 {M:Fn} {N:Lp} (hM:∀n lo hi:Int,M [I n,I lo,I hi]=some [B (decide (lo<=n/\n<=hi))]) {a:Axs} (h:AxOK a)
  (hN:a.pitch≠[]->∃o,N (.view Aa (a.pitch.map Ao)::I a.pitch.length::I 0::Bk a)=some o/\o.1=2):ZL M N (Bk a)=some [B true]:=by
 have hs:=h.spacing;have ho:=h.origin;have hc:=h.count
 rw[Zxu];by_cases e:a.pitch=[]
 ·rw[e];rfl
 ·have hl:0<a.pitch.length:=List.length_pos_iff.2 e;obtain⟨o,h1,h2⟩:=hN e;have hs:=hs e;have h1':N [.view Aa (a.pitch.map Ao),I (a.pitch.map Ao).length,I 0,I a.step,I a.speed,I a.accel,I a.jerk,I a.low,I a.high,I a.back,I a.origin,I a.spacing, .view Aa (a.pitch.map Ao)]=some o:=by rw[List.length_map];exact h1
  rw[Bf (by rw[List.length_map];simp;omega),Bf (by rw[List.length_map];simp;omega),hM,hM,h1'];simp only[Option.bind_some,gA,wA,bA,jA,CV,CM];rw[decide_eq_true (show-16777216<=a.origin/\a.origin<=16777216 by omega),decide_eq_true (show 4<=a.spacing/\a.spacing<=16777216 by omega),h2];rfl
theorem Zgm {a:Axs} (h:AxOK a):Qf (Bk a)=some [B true]:=Z08 Rp h fun hne=>Zkp Rp h hne
theorem Zp5 {M N:Fn} (hN:∀n lo hi:Int,N [I n,I lo,I hi]=some [B (decide (lo<=n/\n<=hi))]) {a:Axs} (h:AxOK a) (hM:M (Bk a)=some [B true]):UB M N (Bk a)=some [B true]:=by
 have hs:=h.step;have hb:=h.back;obtain⟨l1,l2,l3,l4,l5,l6,l7,l8⟩:=h.lim
 rw[Zsm];simp only[hN,Option.bind_some,CV,CM];rw[decide_eq_true (show 4<=a.step/\a.step<=4096 by omega),decide_eq_true (show 1<=a.speed/\a.speed<=1048576 by omega),decide_eq_true (show 2<=a.accel/\a.accel<=1048576 by omega),decide_eq_true (show 4<=a.jerk/\a.jerk<=1048576 by omega),decide_eq_true (show a.low>= -16777216 by omega),decide_eq_true (show a.high<=16777216 by omega),decide_eq_true (show a.low<=a.high by omega),decide_eq_true (show 0<=a.back/\a.back<=64 by omega)];simp only[cond_true];rw[hM];rfl
theorem Q79 {a:Axs} (h:AxOK a):Ph (Bk a)=some [B true]:=Zp5 Rp h (Zgm h)
theorem Zs5 {N:Fn} (hN:∀n lo hi:Int,N [I n,I lo,I hi]=some [B (decide (lo<=n/\n<=hi))]) {a:Axs} (h:AxOK a) {q:Int} (hq:q.natAbs<=B24):Y_ N (Bk a++[I q])=some [B true]:=by
 obtain⟨-,-,-,-,-,-,l7,l8⟩:=h.lim;refine Eq.trans (Zt1 N ..) ?_;rw[hN,decide_eq_true (show a.low<=q/\q<=a.high by unfold B24 at hq;omega)];rfl
theorem Zy9 {a:Axs} (h:AxOK a) {q:Int} (hq:q.natAbs<=B24):HB (Bk a++[I q])=some [B true]:=Zs5 Rp h hq
theorem Zs3 {M:Fn} {x:Ax3} {p:Pth} (hs:bd B24 p.start) (hg:∀g∈p.aF,bd B24 g.to) (hl:p.aF.length<=1000000):
  Out (fun o:Nat×List AC=>o.1=1/\∃pts:List Pt,o.2= .view kPt (pts.map ptR)::AO x/\(∀q∈pts,bd B24 q)/\pts.length<=1000001) (Am (P_ M) (.view kPt [ptR p.start]:: .view Ag (p.aF.map Ay)::I (p.aF.map Ay).length::I 0::AO x)):=by
 refine CT (fun s:Nat×List Pt=> .view kPt (s.2.map ptR):: .view Ag (p.aF.map Ay)::I (p.aF.map Ay).length::I (s.1:Int)::AO x) (fun s=>s.1<=p.aF.length/\(∀q∈s.2,bd B24 q)/\s.2.length=s.1+1) (fun s=>p.aF.length-s.1) _ ?_ (0,[p.start]) ⟨by simp,by simpa using hs,rfl⟩;rintro⟨i,pts⟩ ⟨h1,h2,h3⟩;dsimp only at h1 h2 h3;refine Out.eqv (Q74 M ..) ?_;have hsl:((p.aF.map Ay).length:Int)=p.aF.length:=by rw[List.length_map]
 refine .cond (fun k=> ?_) fun _=> .some (.inr ⟨by simp,rfl,pts,rfl,h2,by omega⟩);have k:(i:Int)<((p.aF.map Ay).length:Int):=Br k;rw[hsl]at k;refine .cond (fun _=> ?_) fun e=>(inB (by omega) (by rw[hsl];exact k) e).elim;have er:nth [] (p.aF.map Ay) (i:Int).toNat=Ay p.aF[i]:=by
  rw[Int.toNat_natCast,G3 [] _ i (by rw[List.length_map];omega),List.getElem_map]
 rw[er];have hq:=hg _ (List.getElem_mem (show i<p.aF.length by omega));refine .cond (fun _=> ?_) fun e=>by rw[Cq (by simp;omega)]at e;cases e
 refine .some (.inl ⟨rfl,(i+1,pts++[p.aF[i].to]),?_,⟨by dsimp only;omega,?_,by simp;omega⟩,by dsimp only;omega⟩)
 ·rw[Ae (x:=(i:Int)+1) (by omega),List.map_append];rfl
 ·intro q hq';dsimp only at hq';simp only[List.mem_append,List.mem_singleton]at hq';rcases hq' with hq'|rfl
  ·exact h2 q hq'
  ·exact hq
theorem Zco {M:Fn} {N3:Lp} (hM:∀{a:Axs} {q:Int},AxOK a->q.natAbs<=B24->M (Bk a++[I q])=some [B true]) {x:Ax3} (hx:Ax3M x) {pts:List Pt} (hp:∀q∈pts,bd B24 q) (hl:pts.length<=1000001):
  Out (fun o:Nat×List AC=>o.1=2) (Am (RW M N3) (.view kPt (pts.map ptR)::I (pts.map ptR).length::I 0::AO x)):=by
 refine CT (fun i:Nat=> .view kPt (pts.map ptR)::I (pts.map ptR).length::I (i:Int)::AO x) (fun i=>i<=pts.length) (fun i=>pts.length-i) _ ?_ 0 (by simp);intro i h1;refine Out.eqv (Zvi M N3 ..) ?_;have hsl:((pts.map ptR).length:Int)=pts.length:=by rw[List.length_map]
 refine .cond (fun k=> ?_) fun _=> .some (.inr ⟨by simp,rfl⟩);have k:(i:Int)<((pts.map ptR).length:Int):=Br k;rw[hsl]at k;refine .cond (fun _=> ?_) fun e=>(inB (by omega) (by rw[hsl];exact k) e).elim;have er:nth [] (pts.map ptR) (i:Int).toNat=ptR pts[i]:=by
  rw[Int.toNat_natCast,G3 [] _ i (by rw[List.length_map];omega),List.getElem_map]
 rw[er];obtain⟨q1,q2,q3⟩:=hp _ (List.getElem_mem (show i<pts.length by omega));refine .bind (p:=fun o=>o=[B true]) ⟨_,hM hx.a q1,rfl⟩ fun o e=> ?_;subst e;refine .cond (fun e=>by cases e) fun _=> ?_;refine .bind (p:=fun o=>o=[B true]) ⟨_,hM hx.b q2,rfl⟩ fun o e=> ?_;subst e;refine .cond (fun e=>by cases e) fun _=> ?_;refine .bind (p:=fun o=>o=[B true]) ⟨_,hM hx.c q3,rfl⟩ fun o e=> ?_;subst e;refine .cond (fun e=>by cases e) fun _=> ?_;exact .some (.inl ⟨rfl,i+1,by rw[Ae (x:=(i:Int)+1) (by omega)];rfl,by omega,by omega⟩)
theorem Zie {M:Fn} {N3 N8:Lp} {x:Ax3} {p:Pth}
  (h3:Out (fun o:Nat×List AC=>o.1=1/\∃pts:List Pt,o.2= .view kPt (pts.map ptR)::AO x/\(∀q∈pts,bd B24 q)/\pts.length<=1000001) (N3 (.view kPt [ptR p.start]:: .view Ag (p.aF.map Ay)::I (p.aF.map Ay).length::I 0::AO x)))
  (h8:∀{pts:List Pt},(∀q∈pts,bd B24 q)->pts.length<=1000001->Out (fun o:Nat×List AC=>o.1=2) (N8 (.view kPt (pts.map ptR)::I (pts.map ptR).length::I 0::AO x))):
  Out (fun o=>o=[B true]) (W3 M N3 N8 (AO x++Bp p)):=by
 refine Out.eqv (Zpw M N3 N8 ..) ?_;refine .bind h3 fun o q=> ?_;obtain⟨o1,o2⟩:=o;obtain⟨q1,pts,q2,q3,q4⟩:=q;dsimp only at q1 q2;subst q1 q2;refine .cond (fun _=> ?_) fun e=>by cases e
 refine .bind (h8 q3 q4) fun o q=> ?_;rw[q];exact .some rfl
theorem Q91 {x:Ax3} {p:Pth} (hx:Ax3M x) (hs:bd B24 p.start) (hg:∀g∈p.aF,bd B24 g.to) (hl:p.aF.length<=1000000):Px (AO x++Bp p)=some [B true]:=by
 obtain⟨o,h,rfl⟩:=Zie (M:=HB) (N3:=Am (P_ HB)) (N8:=Am (RW HB (Am (P_ HB)))) (Zs3 (x:=x) hs hg hl) (fun h1 h2=>Zco (fun ha hq=>Zy9 ha hq) hx h1 h2);exact h
theorem Zy2:∃v:Int,EW [I 30000]=some [I v]/\60000<=v:=by
 have key:∀{M:Fn} {v:Int},M [I 30000,I 1048576,I 60000,I 2]=some [I v,B true]->TK M [I 30000]=some [I v]:=fun h=>by
  rw[Q3q,h];rfl
 refine⟨_,key (Rl (by unfold i64;omega) (by unfold i64;omega) (by omega) (by decide)),?_⟩;unfold Bh;omega
theorem Zec {MR MP MV:Fn} {x:Ax3} (hx:Ax3M x) {pa pb pc ramp lag:Int} (hp:Plan3 pa pb pc) (hr:1<=ramp/\ramp<=60000) (hl:0<=lag/\lag<=40)
  (hV:∀{a:Axs},AxOK a->MV (Bk a)=some [B true]) (hP:MP [I pa,I pb,I pc]=some [B true]) (hR:∃v:Int,MR [I 30000]=some [I v]/\60000<=v):Out (fun o=>o=[B true]) (Qin MR MP MV (AO x++[I pa,I pb,I pc,I ramp,I lag])):=by
 refine Out.eqv (Zgg MR MP MV ..) ?_;refine .bind (p:=fun o=>o=[B true]) ⟨_,hV hx.a,rfl⟩ fun o e=> ?_;subst e;refine .cond (fun e=>by cases e) fun _=> .bind (p:=fun o=>o=[B true]) ⟨_,hV hx.b,rfl⟩ fun o e=> ?_;subst e;refine .cond (fun e=>by cases e) fun _=> .bind (p:=fun o=>o=[B true]) ⟨_,hV hx.c,rfl⟩ fun o e=> ?_;subst e;refine .cond (fun e=>by cases e) fun _=> .bind (p:=fun o=>o=[B true]) ⟨_,hP,rfl⟩ fun o e=> ?_;subst e;obtain⟨v,h1,h2⟩:=hR;refine .cond (fun _=> .cond (fun _=> ?_) fun e=>absurd hr.1 (Bn e)) fun e=>by cases e
 refine .bind (p:=fun o=>o=[I v]) ⟨_,h1,rfl⟩ fun o e=> ?_;subst e;refine .cond (fun _=> .cond (fun _=> ?_) fun e=>absurd hl.1 (Bn e)) fun e=>absurd (show ramp<=v by omega) (Bn e);exact .some (by rw[decide_eq_true (show lag<=1048576 by omega)])
theorem Zxp {x:Ax3} (hx:Ax3M x) {pa pb pc ramp lag:Int} (hp:Plan3 pa pb pc) (hr:1<=ramp/\ramp<=60000) (hl:0<=lag/\lag<=40):OH (AO x++[I pa,I pb,I pc,I ramp,I lag])=some [B true]:=by
 have hP:EV [I pa,I pb,I pc]=some [B true]:=by rw[PO,decide_eq_true (show 1<=pa/\pa<=65536/\2<=pb/\pb<=65536/\1<=pc/\pc<=16777216 from⟨hp.a.1,hp.a.2,hp.b.1,hp.b.2,hp.c.1,hp.c.2⟩)]
 obtain⟨o,h,rfl⟩:=Zec hx hp hr hl Q79 hP Zy2;exact h
theorem Zyx {x:Ax3} (hx:Ax3M x) (l0 l1 l2 l3 l4:Int):Pb (AO x++[I l0,I l1,I l2,I l3,I l4])=some (AO x++[I l0,I l1,I l2,I l3,I l4]):=by
 have ha:=hx.a.count;have hb:=hx.b.count;have hc:=hx.c.count
 have key:Qk5 (AO x++[I l0,I l1,I l2,I l3,I l4])=some (AO x++[I l0,I l1,I l2,I l3,I l4]):=by
  refine Eq.trans (Zqg ..) ?_;rw[Cq (by rw[List.length_map];omega),Cq (by rw[List.length_map];omega),Cq (by rw[List.length_map];omega)];rfl
 exact key
abbrev Q69 (K:Kf):Kf:=⟨K.x,K.pa,K.pb,K.pc,K.ramp,K.lag,[],false,⟨⟨0,0,0⟩,[],[]⟩,0,0,⟨[],0,0,⟨0,0,0⟩⟩⟩
abbrev Ud (K:Kf):Kf:=⟨K.x,K.pa,K.pb,K.pc,K.ramp,K.lag,K.aA,K.closed,K.p,K.len,K.set,⟨[],0,0,⟨0,0,0⟩⟩⟩
abbrev BY:Cv:=⟨0,0,0,0,0,0,100,100,false,false,false,0,0,-1,1,0,0,0,0,0,0,0,0,false,0,false,0,false,0,-1,0,0,0,0,0,0,0,false,false,false⟩
noncomputable abbrev kfP (x:Ax3) (pa pb pc ramp lag:Int) (aA:List Itm) (closed:Bool):Kf:=⟨x,pa,pb,pc,ramp,lag,aA,closed,AR aA,AF (AR aA).aF,IA aA,Ee (AR aA) x ⟨1,1,1⟩ 0 (AF (AR aA).aF)⟩
theorem Zq6 {MS ML MR MB:Fn} {K:Kf} (hl:K.aA.length<=15) (i0:List Itm) (c0:Bool) (p0:Pth) (l0 s0:Int) (t0:Trk) (c:Cv)
  (hB:MB [.view Al (K.aA.map Ah)]=some (Bp K.p++[I 0])) (hR:MR (AO K.x++Bp K.p)=some [B true]) (hL:ML (Bp K.p)=some [I K.len]) (hS:MS [.view Al (K.aA.map Ah)]=some [I K.set]):
  PM MS ML MR MB (.view Al (K.aA.map Ah)::B K.closed::Ad ⟨K.x,K.pa,K.pb,K.pc,K.ramp,K.lag,i0,c0,p0,l0,s0,t0⟩ c)=some (I 0::Ad ⟨K.x,K.pa,K.pb,K.pc,K.ramp,K.lag,K.aA,K.closed,K.p,K.len,K.set,t0⟩ c):=by
 have key:Out (fun o=>o=I 0::Ad ⟨K.x,K.pa,K.pb,K.pc,K.ramp,K.lag,K.aA,K.closed,K.p,K.len,K.set,t0⟩ c) (PM MS ML MR MB (.view Al (K.aA.map Ah)::B K.closed::Ad ⟨K.x,K.pa,K.pb,K.pc,K.ramp,K.lag,i0,c0,p0,l0,s0,t0⟩ c)):=by
  refine Out.eqv (Ze4 MS ML MR MB _ _ ⟨K.x,K.pa,K.pb,K.pc,K.ramp,K.lag,i0,c0,p0,l0,s0,t0⟩ c) ?_;refine .bind (p:=fun o=>o=_) ⟨_,hB,rfl⟩ fun o e=> ?_;subst e;refine .cond (fun e=>by cases e) fun _=> ?_;refine .bind (p:=fun o=>o=_) ⟨_,hR,rfl⟩ fun o e=> ?_;subst e;refine .cond (fun e=>by cases e) fun _=> .cond (fun _=> ?_) fun e=>by rw[Cq (by rw[List.length_map];omega)]at e;cases e
  refine .bind (p:=fun o=>o=_) ⟨_,hL,rfl⟩ fun o e=> ?_;subst e;refine .bind (p:=fun o=>o=_) ⟨_,hS,rfl⟩ fun o e=> ?_;subst e;exact .some rfl
 obtain⟨o,h,rfl⟩:=key;exact h
theorem Zc9 {MS ML MR MB:Fn} {K:Kf} (hl:K.aA.length<=15) (c:Cv)
  (hB:MB [.view Al (K.aA.map Ah)]=some (Bp K.p++[I 0])) (hR:MR (AO K.x++Bp K.p)=some [B true]) (hL:ML (Bp K.p)=some [I K.len]) (hS:MS [.view Al (K.aA.map Ah)]=some [I K.set]):
  PM MS ML MR MB (.view Al (K.aA.map Ah)::B K.closed::Ad (Q69 K) c)=some (I 0::Ad (Ud K) c):=
 Zq6 hl [] false ⟨⟨0,0,0⟩,[],[]⟩ 0 0 ⟨[],0,0,⟨0,0,0⟩⟩ c hB hR hL hS
end Go.Bm
namespace Go.Bm
open Classical
theorem Z06 {MS ML ML' MG' MO MC MD:Fn} {K:Kf}
  (hD:MD (AO K.x++[I K.pa,I K.pb,I K.pc,I K.ramp,I K.lag])=some [B true]) (hC:MC (AO K.x++[I K.pa,I K.pb,I K.pc,I K.ramp,I K.lag])=some (AO K.x++[I K.pa,I K.pb,I K.pc,I K.ramp,I K.lag]))
  (hO:MO []=some [I 100,I 100,B false,B false,B false]) (hG:MG' []=some [I 0,I 0,I (-1)])
  (hL:ML' (.view Al (K.aA.map Ah)::B K.closed::Ad (Q69 K) BY)=some (I 0::Ad (Ud K) BY))
  (hT:ML (Bp K.p++AO K.x++[I 1,I 1,I 1,I 0,I K.len])=some (Bo K.t)) (hS:MS [I 0]=some [I 0,I 0,I 0,I 0,I 0,I 0]):
  S5 MS ML ML' MG' MO MC MD (AO K.x++[I K.pa,I K.pb,I K.pc,I K.ramp,I K.lag]++[.view Al (K.aA.map Ah),B K.closed])=some (I 0::Ad K BY):=by
 have key:Out (fun o=>o=I 0::Ad K BY) (S5 MS ML ML' MG' MO MC MD (AO K.x++[I K.pa,I K.pb,I K.pc,I K.ramp,I K.lag]++[.view Al (K.aA.map Ah),B K.closed])):=by
  refine Out.eqv (Z0b MS ML ML' MG' MO MC MD ..) ?_;refine .bind (p:=fun o=>o=_) ⟨_,hD,rfl⟩ fun o e=> ?_;subst e;refine .cond (fun e=>by cases e) fun _=> ?_;refine .bind (p:=fun o=>o=_) ⟨_,hC,rfl⟩ fun o e=> ?_;subst e;refine .bind (p:=fun o=>o=_) ⟨_,hO,rfl⟩ fun o e=> ?_;subst e;refine .bind (p:=fun o=>o=_) ⟨_,hG,rfl⟩ fun o e=> ?_;subst e;refine .bind (p:=fun o=>o=I 0::Ad (Ud K) BY) ⟨_,hL,rfl⟩ fun o e=> ?_;subst e;refine .cond (fun e=>by cases e) fun _=> ?_;refine .bind (p:=fun o=>o=_) ⟨_,hT,rfl⟩ fun o e=> ?_;subst e;refine .bind (p:=fun o=>o=_) ⟨_,hS,rfl⟩ fun o e=> ?_;subst e;exact .some (by kernel_rfl)
 obtain⟨o,h,rfl⟩:=key;exact h
structure MachOK (x : Ax3) (pa pb pc ramp lag : Int) : Prop where
 x:Ax3M x
 plan:Plan3 pa pb pc
 ramp:1<=ramp/\ramp<=60000
 lag:0<=lag/\lag<=40
theorem Qo1 {x:Ax3} {pa pb pc ramp lag:Int} (hm:MachOK x pa pb pc ramp lag) {aA:List Itm} (hl:aA.length<=15) (hc:Cu aA=0) (hch:∀j<aA.length,AG (itA aA j)->∀p∈B0 (itA aA j),bd B24 p) (hsp:∀it∈aA,it.kind=8->i64 it.speed) (closed:Bool):
  Hk (AO x++[I pa,I pb,I pc,I ramp,I lag]++[.view Al (aA.map Ah),B closed])=some (I 0::Ad (kfP x pa pb pc ramp lag aA closed) BY)/\KOK (kfP x pa pb pc ramp lag aA closed):=by
 have hg:=Qmo hl hc;obtain⟨i1,i2,i3,i4⟩:=Zea hl hc hch;have hs:=Vk (S6 hg.start hg.aF);have hcount:=hg.count;refine⟨?_,?_⟩
 ·have hB:L1 [.view Al (aA.map Ah)]=some (Bp (AR aA)++[I 0]):=by rw[Q7l hl,if_pos hc]
  have hS:OA [.view Al (aA.map Ah)]=some [I (IA aA)]:=by rw[Z0j hl,if_pos hc]
  have hR:=Q91 hm.x i1 (fun g h=>(i2 g h).1) (by omega);have hT:=Zkd (d:=⟨1,1,1⟩) (from_:=0) (to:=AF (AR aA).aF) hg hm.x.ok;have hload:=Zc9 (K:=kfP x pa pb pc ramp lag aA closed) hl BY hB hR (Q2k hg.ok) hS;have hO:OO []=some [I 100,I 100,B false,B false,B false]:=by show UJ []=_;rw[Ztx]
  have hG:JT []=some [I 0,I 0,I (-1)]:=by show SF []=_;rw[Qrr]
  have hst:IK [I 0]=some [I 0,I 0,I 0,I 0,I 0,I 0]:=Q04 0;exact Z06 (K:=kfP x pa pb pc ramp lag aA closed) (Zxp hm.x hm.plan hm.ramp hm.lag) (Zyx hm.x ..) hO hG hload hT hst
 ·refine⟨⟨hg,hm.x,Zrl _ _ _ hm.x.ok hg⟩,hm.plan,fun g h=>(i2 g h).2,i3,?_,?_,?_,Ztg hl hc⟩
  ·show(AR aA).aD.length<=1000000;omega
  ·exact hsp
  ·show i64 (AF (AR aA).aF);unfold i64;omega
theorem Qv7 {x:Ax3} {pa pb pc ramp lag:Int} (hm:MachOK x pa pb pc ramp lag) {aA:List Itm} (hl:aA.length<=15) {p0:Pt} (hi:Items 4084 p0 aA) (closed:Bool):
  Hk (AO x++[I pa,I pb,I pc,I ramp,I lag]++[.view Al (aA.map Ah),B closed])=some (I 0::Ad (kfP x pa pb pc ramp lag aA closed) BY)/\KOK (kfP x pa pb pc ramp lag aA closed):=
 Qo1 hm hl (Zkk (by omega) hi (show aA.length <= 20000 by omega)) (fun j hj hm => by
  rcases hi.made _ (Q45 hj)with⟨-,g2,-,g4,-⟩|g
  ·exact Zxn g2 g4
  ·exact absurd hm (Md g)) (fun it hit h8=>by
  rcases hi.made it hit with⟨-,-,g,-⟩|g
  ·rw[g.2.2.2.1];unfold i64;omega
  ·have:=g.spin h8;unfold i64;omega) closed
end Go.Bm
namespace Go.Bm
structure Evn where
 (cycle kind n:Int)
abbrev evR (e:Evn):List AC:=[I e.cycle,I e.kind,I e.n]
structure EvOK (e : Evn) : Prop where
 kind:1<=e.kind/\e.kind<=13
 n: -5<=e.n/\e.n<=4194304
theorem Ue (E:List Evn) {i:Nat} (h:i<E.length):nth [] (E.map evR) (i:Int).toNat=evR E[i]:=by
 rw[Int.toNat_natCast,G3 [] _ i (by rw[List.length_map];exact h),List.getElem_map]
theorem Zz3 {α:Type} (P:α->Bool) (E:List α) {i:Nat} (h:i<E.length):(E.take (i+1)).filter P=(E.take i).filter P++(if P E[i]=true then [E[i]]else []):=by
 rw[List.take_add_one,List.filter_append,List.getElem?_eq_getElem h];congr 1;by_cases c:P E[i]=true
 ·rw[if_pos c];simp[c]
 ·rw[if_neg c];simp[c]
theorem Q4t {P:Evn->Bool} {E:List Evn} (hl:E.length<=1000000) {st:Lp} {enc:Rw->Nat->List AC}
  (hs:∀(l:Rw) (i:Nat),i<=E.length->l.length<=i->st (enc l i)=if h:i<E.length then some (0,enc (l++(if P E[i]=true then [evR E[i]]else [])) (i+1))else some (1,[.view kPt l])):
  Am st (enc [] 0)=some (1,[.view kPt ((E.filter P).map evR)]):=by
 have key:Out (fun o=>o=(1,[.view kPt ((E.filter P).map evR)])) (Am st (enc [] 0)):=by
  refine CT (fun i:Nat=>enc (((E.take i).filter P).map evR) i) (fun i=>i<=E.length) (fun i=>E.length-i) _ ?_ 0 (by simp);intro i hi;rw[hs _ _ hi (by rw[List.length_map];exact Nat.le_trans (List.length_filter_le _ _) (by simp;omega))];by_cases h:i<E.length
  ·rw[dif_pos h];refine .some (.inl ⟨rfl,i+1,?_,by omega,by omega⟩);rw[Zz3 P E h];by_cases c:P E[i]=true
   ·rw[if_pos c,if_pos c,List.map_append];rfl
   ·rw[if_neg c,if_neg c,List.append_nil,List.append_nil]
  ·rw[dif_neg h];refine .some (.inr ⟨by simp,?_⟩);rw[List.take_of_length_le (by omega)]
 obtain⟨o,h,rfl⟩:=key;exact h
theorem Q1p {E:List Evn} (hl:E.length<=1000000) (k:Int):K9 [.view kPt (E.map evR),I k]=some [.view kPt ((E.filter fun e=>e.cycle==k).map evR)]:=by
 have hL:Am Rq [.view kPt [],I k, .view kPt (E.map evR),I E.length,I ((0:Nat):Int)]=some (1,[.view kPt ((E.filter fun e=>e.cycle==k).map evR)]):=by
  refine Q4t (P:=fun e=>e.cycle==k) hl (enc:=fun l i=>[.view kPt l,I k, .view kPt (E.map evR),I E.length,I (i:Int)]) fun l i hi hll=> ?_;rw[Zbr];by_cases h:i<E.length
  ·rw[dif_pos h,Bu (by simp;omega),Bu (by simp;omega),Ue E h,Ae (x:=(i:Int)+1) (by omega)];by_cases c:(E[i].cycle==k)=true
   ·rw[Bu (show(gA (evR E[i]) 0==k)=true from c),Cq (by simp;omega),if_pos c];rfl
   ·rw[Bf (show(gA (evR E[i]) 0==k)=false from Bool.eq_false_iff.2 c),if_neg c,List.append_nil];rfl
  ·rw[dif_neg h,Bf (by simp;omega)]
 show Qgi (Am Rq) [.view kPt (E.map evR),I k]=_;rw[Zxh,List.length_map];rw[show(0:Int)=((0:Nat):Int)from rfl,hL];rfl
theorem Q9c {E:List Evn} (hl:E.length<=1000000):L6 [.view kPt (E.map evR)]=some [.view kPt ((E.filter fun e=>decide (e.kind<=6)).map evR)]:=by
 have hL:Am S1 [.view kPt [], .view kPt (E.map evR),I E.length,I ((0:Nat):Int)]=some (1,[.view kPt ((E.filter fun e=>decide (e.kind<=6)).map evR)]):=by
  refine Q4t (P:=fun e=>decide (e.kind<=6)) hl (enc:=fun l i=>[.view kPt l, .view kPt (E.map evR),I E.length,I (i:Int)]) fun l i hi hll=> ?_;rw[Zuo];by_cases h:i<E.length
  ·rw[dif_pos h,Bu (by simp;omega),Bu (by simp;omega),Ue E h,Ae (x:=(i:Int)+1) (by omega)];by_cases c:decide (E[i].kind<=6)=true
   ·rw[Bu (show decide (gA (evR E[i]) 1<=6)=true from c),Cq (by simp;omega),if_pos c];rfl
   ·rw[Bf (show decide (gA (evR E[i]) 1<=6)=false from Bool.eq_false_iff.2 c),if_neg c,List.append_nil];rfl
  ·rw[dif_neg h,Bf (by simp;omega)]
 show Qjm (Am S1) [.view kPt (E.map evR)]=_;rw[Q7u,List.length_map];rw[show(0:Int)=((0:Nat):Int)from rfl,hL];rfl
theorem Zo7 {M:Fn} {l:Rw} (hM:LI l M) (cycle:Int) (k:Nat):
  ∃(e:Evn) (k':Nat),Qly M [I cycle, .view Aa l,I k]=some (evR e++[.view Aa l,I k'])/\EvOK e/\k<=k':=by
 obtain⟨v,k1,h1,v0,v1,hk,-⟩:=hM k (n:=15) (by omega);rw[Zf8,h1];simp only[Option.bind_some,PW,gA,wA,bA,jA,CV,El,Dp,BR];have all:∀(n:Nat),n<15->∃kind:Int,nth [] [[I 4],[I 1],[I 2],[I 3],[I 4],[I 5],[I 6],[I 7],[I 4],[I 8],[I 9],[I 11],[I 12],[I 13],[I 10]] n=[I kind]/\1<=kind/\kind<=13:=by
  intro n hn
  match n,hn with
  |0,_=>exact⟨4,rfl,by omega⟩
  |1,_=>exact⟨1,rfl,by omega⟩
  |2,_=>exact⟨2,rfl,by omega⟩
  |3,_=>exact⟨3,rfl,by omega⟩
  |4,_=>exact⟨4,rfl,by omega⟩
  |5,_=>exact⟨5,rfl,by omega⟩
  |6,_=>exact⟨6,rfl,by omega⟩
  |7,_=>exact⟨7,rfl,by omega⟩
  |8,_=>exact⟨4,rfl,by omega⟩
  |9,_=>exact⟨8,rfl,by omega⟩
  |10,_=>exact⟨9,rfl,by omega⟩
  |11,_=>exact⟨11,rfl,by omega⟩
  |12,_=>exact⟨12,rfl,by omega⟩
  |13,_=>exact⟨13,rfl,by omega⟩
  |14,_=>exact⟨10,rfl,by omega⟩
 obtain⟨kind,hkd,b1,b2⟩:=all v.toNat (by omega);have hlen:([[I 4],[I 1],[I 2],[I 3],[I 4],[I 5],[I 6],[I 7],[I 4],[I 8],[I 9],[I 11],[I 12],[I 13],[I 10]]:Rw).length=15:=rfl;clear all;generalize([[I 4],[I 1],[I 2],[I 3],[I 4],[I 5],[I 6],[I 7],[I 4],[I 8],[I 9],[I 11],[I 12],[I 13],[I 10]]:Rw)=T at*;have hv:v<(T.length:Int):=by omega
 simp only[v0,hv,decide_true,Bool.and_self,cond_true,hkd,CV,Dp];have one:∀(n d:Int),0<n/\n<=1000->0<=d/\d<=5->∃(e:Evn) (k':Nat),((M [I n, .view Aa l,I k1]).bind fun o=>some [I cycle,I kind,I (wrap .i64 (gA o 0-d)), .view Aa (wA o 1),jA o 2])=some (evR e++[.view Aa l,I k'])/\EvOK e/\k<=k':=fun n d hn hd=>by
  obtain⟨w,k2,g1,w0,w1,g2,-⟩:=hM k1 (n:=n) (by omega);rw[g1];refine⟨⟨cycle,kind,w-d⟩,k2,?_,⟨⟨b1,b2⟩,by simp only;omega⟩,by omega⟩;simp only[Option.bind_some,gA,wA,jA,CV,El,Dp,BR];rw[Ae (by omega)];rfl
 have two:∀(n:Int),0<n/\n<=1000->∃(e:Evn) (k':Nat),((M [I n, .view Aa l,I k1]).bind fun o=>some [I cycle,I kind,jA o 0, .view Aa (wA o 1),jA o 2])=some (evR e++[.view Aa l,I k'])/\EvOK e/\k<=k':=fun n hn=>by
  obtain⟨w,k2,g1,w0,w1,g2,-⟩:=hM k1 (n:=n) (by omega);rw[g1];exact⟨⟨cycle,kind,w⟩,k2,rfl,⟨⟨b1,b2⟩,by simp only;omega⟩,by omega⟩
 cases c1:(kind==1)
 ·cases c2:(kind==2)
  ·cases c3:(kind==5)
   ·cases c4:(kind==6)
    ·cases c5:(kind==7)
     ·cases c6:(kind==8)
      ·cases c7:(kind==13)
       ·exact⟨⟨cycle,kind,0⟩,k1,rfl,⟨⟨b1,b2⟩,by simp⟩,by omega⟩
       ·obtain⟨w,k2,g1,w0,w1,g2,-⟩:=hM k1 (n:=4) (by omega);obtain⟨y,k3,g3,y0,y1,g4,-⟩:=hM k2 (n:=60) (by omega);simp only[cond_false,cond_true];rw[g1];simp only[Option.bind_some,CV,El,Dp];rw[g3];refine⟨⟨cycle,kind,w*1048576+y⟩,k3,?_,⟨⟨b1,b2⟩,by simp only;omega⟩,by omega⟩;simp only[Option.bind_some,CV,El,Dp];rw[Ae (x:=w*1048576) (by omega),Ae (by omega)];rfl
      ·exact one 5 1 (by omega) (by omega)
     ·exact one 300 5 (by omega) (by omega)
    ·exact two 3 (by omega)
   ·exact two 3 (by omega)
  ·exact one 220 5 (by omega) (by omega)
 ·exact one 220 5 (by omega) (by omega)
theorem Zh5 {ME MN ML MF:Fn} {l:Rw} (hl:l.length<=100000) (hN:LI l MN) (hL:∀k:Nat,ML [.view Aa l,I k]=some [B (decide (k<l.length)), .view Aa l,I k])
  (hE:∀(cycle:Int) (k:Nat),∃(e:Evn) (k':Nat),ME [I cycle, .view Aa l,I k]=some (evR e++[.view Aa l,I k'])/\EvOK e/\k<=k'):
  Out (fun o=>∃E:List Evn,o=(1,[.view kPt (E.map evR)])/\E.length<=l.length/\∀e∈E,EvOK e) (Am (Yh ME MN ML MF) [.view kPt [],I 0, .view Aa l,I 0]):=by
 refine CT (fun s:List Evn×Int×Nat=>[.view kPt (s.1.map evR),I s.2.1, .view Aa l,I (s.2.2:Int)]) (fun s=>(∀e∈s.1,EvOK e)/\s.1.length<=s.2.2/\s.1.length<=l.length) (fun s=>l.length-s.2.2) _ ?_ ([],0,0) (by simp);rintro⟨E,cycle,k⟩ ⟨h1,h2,h3⟩;dsimp only at h1 h2 h3;rw[Zy6,hL];simp only[Option.bind_some,gA,wA,bA,jA,CV,El,Dp,BR,CM];by_cases c:k<l.length
 ·rw[decide_eq_true c];obtain⟨v,k1,g1,v0,v1,-,g2,-⟩:=hN k (n:=40) (by omega);have g2:=g2 c;rw[cond_true,g1];simp only[Option.bind_some,CV,El,Dp];obtain⟨e,k2,q1,q2,q3⟩:=hE (wrap .i64 (cycle+v)) k1;rw[q1];simp only[Option.bind_some,List.cons_append,List.nil_append,CV,El,Dp];rw[Cq (by simp;omega)];refine .some (.inl ⟨rfl,(E++[e],wrap .i64 (cycle+v),k2),?_,⟨?_,by simp;omega,by simp;omega⟩,by dsimp only;omega⟩)
  ·rw[List.map_append];rfl
  ·intro x hx;dsimp only at hx;rcases List.mem_append.1 hx with hx|hx
   ·exact h1 x hx
   ·rw[List.mem_singleton]at hx;subst hx;exact q2
 ·rw[decide_eq_false c];exact .some (.inr ⟨by simp,E,rfl,h3,h1⟩)
theorem Zga {l:Rw} (hs:Src l) (hl:l.length<=60):∃E:List Evn,MJ [.view Aa l]=some [.view kPt (E.map evR)]/\E.length<=60/\∀e∈E,EvOK e:=by
 obtain⟨o,h1,E,rfl,h2,h3⟩:=Zh5 (ME:=LB) (MF:=Dw) (by omega) (Mf hs) (Zkw l) fun cycle k=>Zo7 (Mf hs) cycle k;refine⟨E,?_,by omega,h3⟩;show WF LB Df J0 Dw (Am _) [.view Aa l]=_;rw[Zte,RL];simp only[Option.bind_some,gA,wA,bA,jA,CV,El,Dp,BR];rw[h1];rfl
theorem Zqu {MN MF:Fn} {l:Rw} (hN:LI l MN) (hF:MF [.view Aa l]=some [.view Aa l,I 0]):
  ∃a b c:Int,W_ MN MF [.view Aa l]=some [I a,I b,I c]/\(1<=a/\a<=900)/\(2<=b/\b<=201)/\(1<=c/\c<=16000):=by
 obtain⟨v,k1,g1,v0,v1,-⟩:=hN 0 (n:=900) (by omega);obtain⟨w,k2,g2,w0,w1,-⟩:=hN k1 (n:=200) (by omega);obtain⟨y,k3,g3,y0,y1,-⟩:=hN k2 (n:=16000) (by omega);have g1':MN [I 900, .view Aa l,I 0]=some [I v, .view Aa l,I k1]:=g1;refine⟨1+v,2+w,1+y,?_,by omega,by omega,by omega⟩;rw[Zfg,hF];simp only[Option.bind_some,gA,wA,bA,jA,CV,El,Dp,BR];rw[g1'];simp only[Option.bind_some,CV,El,Dp];rw[g2];simp only[Option.bind_some,CV,El,Dp];rw[g3];simp only[Option.bind_some,CV,El,Dp];rw[Ae (x:=1+v) (by omega),Ae (x:=2+w) (by omega),Ae (x:=1+y) (by omega)]
theorem Zis {MN MP MA MF:Fn} {l m:Rw} (hm:LI m MN) (hF:MF [.view Aa m]=some [.view Aa m,I 0]) {x:Ax3} (hA:MA [.view Aa l]=some (AO x)) (hx:Ax3M x) {a b c:Int} (hP:MP [.view Aa m]=some [I a,I b,I c]) (h1:1<=a/\a<=900) (h2:2<=b/\b<=201) (h3:1<=c/\c<=16000) (hml:m.length<=100000):
  ∃ramp lag:Int,Qf4 MN MP MA MF [.view Aa l, .view Aa m]=some (AO x++[I a,I b,I c,I ramp,I lag])/\MachOK x a b c ramp lag:=by
 obtain⟨k0,hk0⟩:∃k0:Nat,mn 3 (m.length:Int)=k0:=⟨(mn 3 (m.length:Int)).toNat,by unfold mn;split<;>omega⟩;obtain⟨v,k1,g1,v0,v1,-⟩:=hm k0 (n:=60000) (by omega);obtain⟨w,k2,g2,w0,w1,-⟩:=hm k1 (n:=40) (by omega);refine⟨1+v,w,?_,⟨hx,⟨by omega,by omega,by omega⟩,by omega,by omega⟩⟩;rw[Zoy,hF,hA,hP];simp only[Option.bind_some,gA,wA,bA,jA,CV,El,Dp,BR];rw[hk0,g1];simp only[Option.bind_some,CV,El,Dp];rw[g2];simp only[Option.bind_some,CV,El,Dp];rw[Ae (x:=1+v) (by omega)];rfl
theorem Zjk {l m:Rw} (h1:Src l) (h2:Src m) (h3:m.length<=100000):∃(x:Ax3) (a b c ramp lag:Int),Lc [.view Aa l, .view Aa m]=some (AO x++[I a,I b,I c,I ramp,I lag])/\MachOK x a b c ramp lag:=by
 obtain⟨x,hA,hx⟩:=Zcu h1;obtain⟨a,b,c,hP,p1,p2,p3⟩:=Zqu (MF:=Dw) (Mf h2) (RL m);obtain⟨ramp,lag,g1,g2⟩:=Zis (MP:=OY) (MF:=Dw) (Mf h2) (RL m) hA hx hP p1 p2 p3 h3;exact⟨x,a,b,c,ramp,lag,g1,g2⟩
theorem Zfk (L:List (Rw)) (hl:L.length<=1000):Out (fun o=>o.1=1/\o.2=[B false]\/o.1=2/\∀l∈L,l.length<=60) (Am Rk [.view [Kd.sl Aa] (L.map fun l=>[.view Aa l]),I L.length,I ((0:Nat):Int)]):=by
 refine CT (fun i:Nat=>[.view [Kd.sl Aa] (L.map fun l=>[.view Aa l]),I L.length,I (i:Int)]) (fun i=>i<=L.length/\∀l∈L.take i,l.length<=60) (fun i=>L.length-i) _ ?_ 0 (by simp);rintro i ⟨h1,h2⟩;rw[Zc0];refine .cond (fun c=> ?_) fun c=> .some (.inr ⟨by simp, .inr ⟨rfl,?_⟩⟩)
 ·have c:(i:Int)<(L.length:Int):=Br c;have hi:i<L.length:=by omega
  refine .cond (fun _=> ?_) fun e=>(inB (by omega) (by rw[List.length_map];exact c) e).elim;rw[Int.toNat_natCast,G3 [] _ i (by rw[List.length_map];exact hi),List.getElem_map];refine .cond (fun _=> .some (.inr ⟨by simp, .inl ⟨rfl,rfl⟩⟩)) fun q=> ?_;have q: ¬(L[i].length:Int)>60:=Bn q;rw[Ae (x:=(i:Int)+1) (by omega)];refine .some (.inl ⟨rfl,i+1,rfl,⟨by omega,?_⟩,by omega⟩);intro l hl;rw[List.take_add_one,List.getElem?_eq_getElem hi]at hl;rcases List.mem_append.1 hl with hl|hl
  ·exact h2 l hl
  ·simp at hl;subst hl;omega
 ·have c: ¬(i:Int)<(L.length:Int):=Bn c;rw[List.take_of_length_le (by omega)]at h2;exact h2
theorem Zrs {L:List (Rw)} (hl:L.length<=1000):∃b:Bool,JJ [.view [Kd.sl Aa] (L.map fun l=>[.view Aa l])]=some [B b]/\(b=true->∀l∈L,l.length<=60):=by
 obtain⟨o,h1,h2⟩:=Zfk L hl;have e:JJ [.view [Kd.sl Aa] (L.map fun l=>[.view Aa l])]=Qfi (Am Rk) [.view [Kd.sl Aa] (L.map fun l=>[.view Aa l])]:=rfl;rw[e,Zi1,List.length_map];rw[show(0:Int)=((0:Nat):Int)from rfl,h1];obtain⟨o1,o2⟩:=o;rcases h2 with⟨q1,q2⟩|⟨q1,q2⟩
 ·dsimp only at q1 q2;subst q1 q2;exact⟨false,rfl,fun h=>by cases h⟩
 ·dsimp only at q1 q2;subst q1;exact⟨true,rfl,fun _=>q2⟩
theorem Zct (a b c d:Rw):∃q:Bool,Mg [.view Aa a, .view Aa b, .view Aa c, .view Aa d]=some [B q]/\(q=true->a.length<=60/\b.length<=60/\c.length<=60/\d.length<=60):=by
 obtain⟨q,h1,h2⟩:=Zrs (L:=[a,b,c,d]) (by simp);refine⟨q,?_,fun h=>⟨h2 h a (by simp),h2 h b (by simp),h2 h c (by simp),h2 h d (by simp)⟩⟩;show Yz JJ _=_;rw[Zrd];have h1':JJ [.view [Kd.sl Aa] [[.view Aa a],[.view Aa b],[.view Aa c],[.view Aa d]]]=some [B q]:=h1;rw[h1'];rfl
end Go.Bm
namespace Go.Bm
abbrev Q98:Itm:=⟨0,0,⟨0,0,0⟩,⟨0,0,0⟩,0,⟨0,0,0⟩,0,false,0,false,0,0,0,0,0,false⟩
def itK (K:Kf) (i:Int):Itm:=K.aA.getD i.toNat Q98
def mkK (K:Kf) (i:Int):Mrk:=K.p.aD.getD i.toNat ⟨0,0,0⟩
theorem IN {K:Kf} {i:Int} (h0:0<=i) (h1:i<K.aA.length):nth [] (K.aA.map Ah) i.toNat=Ah (itK K i):=by
 have h:i.toNat<K.aA.length:=by omega
 rw[Q5c K h];unfold itK;rw[List.getD,List.getElem?_eq_getElem h];rfl
theorem Ox {K:Kf} {i:Int} (h0:0<=i) (h1:i<K.p.aD.length):nth [] (K.p.aD.map At) i.toNat=At (mkK K i):=by
 have h:i.toNat<K.p.aD.length:=by omega
 rw[Zqn K h];unfold mkK;rw[List.getD,List.getElem?_eq_getElem h];rfl
theorem Q8 {K:Kf} (h:KOK K) {i:Int} (h0:0<=i) (h1:i<K.p.aD.length):0<=(mkK K i).item/\(mkK K i).item<K.aA.length/\i64 (mkK K i).at_:=by
 have hi:i.toNat<K.p.aD.length:=by omega
 unfold mkK;rw[List.getD,List.getElem?_eq_getElem hi];exact h.aD _ (List.getElem_mem hi)
theorem inR {i:Int} {n:Nat} (h0:0<=i) (h1:i<(n:Int)):(decide (0<=i)&&decide (i<(n:Int)))=true:=by
 rw[decide_eq_true h0,decide_eq_true h1];rfl
theorem inM {β:Type} {f:β->List AC} {i:Int} {l:List β} (h0:0<=i) (h1:i<(l.length:Int)):(decide (0<=i)&&decide (i<((l.map f).length:Int)))=true:=inR h0 (by rw[List.length_map];exact h1)
def E9 (K:Kf) (c:Cv):Option Sgm:=K.p.aF[(A9 K.p.aF (max (Av K c) 0)).1]?
def sgK (K:Kf) (c:Cv):Sgm:=(E9 K c).getD sg0
theorem Qr2 {K:Kf} {c:Cv} {g:Sgm} (h:E9 K c=some g):g∈K.p.aF:=List.mem_of_getElem? h
theorem Gf {K:Kf} (h:KOK K) {c:Cv} (hl:(sgK K c).lead≠0):0<=(sgK K c).item/\(sgK K c).item<K.aA.length/\i64 (sgK K c).lead:=by
 unfold sgK at hl⊢;cases e:E9 K c with
 |none=>rw[e]at hl;exact absurd rfl hl
 |some g=>exact h.aF g (Qr2 e)
theorem Zm2 {MF MP:Fn} {K:Kf} {c:Cv} (hP:MP (Ad K c)=some [I (Av K c)])
  (hF:MF (Bp K.p++[I (Av K c)])=if K.p.aF=[]then some [I (-1),I 0]else some [I (A9 K.p.aF (max (Av K c) 0)).1,I (A9 K.p.aF (max (Av K c) 0)).2]):
  Qey MF MP (Ad K c)=some (Ay (sgK K c)++[B (E9 K c).isSome]):=by
 rw[Zh6];refine eB hP (Eq.trans (congrArg (fun z=>Option.bind z _) (show MF (Bp K.p++[I (Av K c)])=_ from hF)) ?_);by_cases e:K.p.aF=[]
 ·have e2:E9 K c=none:=by unfold E9;rw[e];rfl
  unfold sgK;rw[if_pos e,e2];rfl
 ·have hl:=Qdj K.p.aF (max (Av K c) 0) e;have e2:E9 K c=some K.p.aF[(A9 K.p.aF (max (Av K c) 0)).1]:=List.getElem?_eq_getElem hl;unfold sgK;rw[if_neg e,e2];refine eB rfl (eF (decide_eq_false (show¬((A9 K.p.aF (max (Av K c) 0)).1:Int)<0 by omega)) (eT (inM (f:=Ay) (l:=K.p.aF) (i:=((A9 K.p.aF (max (Av K c) 0)).1:Int)) (by omega) (by omega)) ?_));have er:nth [] (K.p.aF.map Ay) ((A9 K.p.aF (max (Av K c) 0)).1:Int).toNat=Ay K.p.aF[(A9 K.p.aF (max (Av K c) 0)).1]:=by
   rw[Int.toNat_natCast,G3 [] _ _ (by rw[List.length_map];exact hl),List.getElem_map]
  show some (AJ Ag (nth [] (K.p.aF.map Ay) ((A9 K.p.aF (max (Av K c) 0)).1:Int).toNat)++[B true])=_;rw[er];rfl
theorem Quz {K:Kf} (h:KOK K) (c:Cv):Hj (Ad K c)=some (Ay (sgK K c)++[B (E9 K c).isSome]):=
 Zm2 (SX h c) (Qgy h.f.p.ok (TR h.f _))
def I5 (K:Kf) (c:Cv):Bool:=(E9 K c).isSome&&((itK K (sgK K c).item).kind==6&&c.y0==(sgK K c).item)
theorem Zje {M:Fn} {K:Kf} {c:Cv} (h:KOK K) (hS:M (Ad K c)=some (Ay (sgK K c)++[B (E9 K c).isSome])):ZX M (Ad K c)=some [B (I5 K c)]:=by
 rw[Zy3,hS];unfold I5 sgK;cases e:E9 K c with
 |none=>rfl
 |some g=>
  obtain⟨q1,q2,-⟩:=h.aF g (Qr2 e);refine eB rfl (eT rfl (eT (inM (f:=Ah) q1 q2) ?_));show cond (gA (nth [] (K.aA.map Ah) g.item.toNat) 0==6) (some [B (c.y0==g.item)]) (some [B false])=some [B (true&&((itK K g.item).kind==6&&c.y0==g.item))];rw[IN q1 q2];show cond ((itK K g.item).kind==6) (some [B (c.y0==g.item)]) (some [B false])=_;cases((itK K g.item).kind==6)<;>rfl
theorem Zio {K:Kf} (h:KOK K) (c:Cv):Lu (Ad K c)=some [B (I5 K c)]:=Zje h (Quz h c)
def spV (c:Cv) (ramp:Int):Int:=if c.s1<c.s2 then mn (wrap .i64 (c.s1+ramp)) c.s2 else mx (wrap .i64 (c.s1-ramp)) c.s2
def spS (c:Cv) (ramp:Int):Cv:={c with s1:=spV c ramp,s3:=wrap .i64 (c.s3+wrap .i64 (c.s0*spV c ramp))}
theorem Q70 (c:Cv) (ramp:Int):Lk [I c.s0,I c.s1,I c.s2,I c.s3,I ramp]=some [I (spS c ramp).s0,I (spS c ramp).s1,I (spS c ramp).s2,I (spS c ramp).s3]:=by
 show Qaq _=_;rw[Zzo];show _=some [I c.s0,I (spV c ramp),I c.s2,I (wrap .i64 (c.s3+wrap .i64 (c.s0*spV c ramp)))];unfold spV;by_cases h:c.s1<c.s2
 ·rw[Bu (decide_eq_true h),if_pos h]
 ·rw[Bf (decide_eq_false h),if_neg h]
def E1 (c:Cv):Bool:=c.m1==0&&(c.m2==0&&(c.m3==c.m0&&c.m4==c.m0))
theorem Zbb (c:Cv):LN [I c.m0,I c.m1,I c.m2,I c.m3,I c.m4,I c.m5]=some [B (E1 c)]:=by
 show Qnc _=_;rw[Zl8];unfold E1;cases(c.m1==0)<;>cases(c.m2==0)<;>cases(c.m3==c.m0)<;>rfl
def OQ (b:Bool) (n:Int):Bool:=if n=0 then false else if n=1 then true else b
theorem Zky (b:Bool) (n:Int):Pc [B b,I n]=some [B (OQ b n)]:=by
 show Vj _=_;rw[Q9q];unfold OQ;by_cases h:n=0
 ·rw[if_pos h,Bu (by simpa using h)]
 ·rw[if_neg h,Bf (by simpa using h)];by_cases h:n=1
  ·rw[if_pos h,Bu (by simpa using h)]
  ·rw[if_neg h,Bf (by simpa using h)]
def Hy (k n:Int):Bool:=k==9||(k==8&&(decide (0<=n)&&decide (n<=2)))
def evC (c:Cv) (k n:Int):Cv:={c with
 o0:=if k=1/\0<=n/\n<=200 then n else c.o0
 o1:=if k=2/\0<=n/\n<=100 then n else c.o1
 o2:=if k=3\/k=11 then true else if k=4 then false else c.o2
 o3:=if k=5 then OQ c.o3 n else c.o3
 o4:=if k=6 then OQ c.o4 n else c.o4
 g0:=if k=10 then 2 else if k=11 then 0 else if Hy k n=true then(if c.g0=2 then 2 else 1)else c.g0
 g1:=if k=10 then 22 else if k=11 then 0 else if Hy k n=true/\c.g0≠2/\c.g1=0 then(if k=9 then 21 else 20)else c.g1
 g2:=if k=10 then-1 else if k=11 then-1 else if Hy k n=true/\c.g0≠2/\c.g1=0 then(if k=9 then-1 else n)else c.g2
 aJ:=if k=4 then true else c.aJ}
theorem Zwf {M:Fn} (hM:∀(b:Bool) (n:Int),M [B b,I n]=some [B (OQ b n)]) (c:Cv) (x k n:Int) (hk:k≠11):
  Q3 M [I c.o0,I c.o1,B c.o2,B c.o3,B c.o4,I x,I k,I n]=some [I (evC c k n).o0,I (evC c k n).o1,B (evC c k n).o2,B (evC c k n).o3,B (evC c k n).o4]:=by
 rw[Qv1];unfold evC;simp only[hM];by_cases h1:k=1
 ·subst h1;by_cases a:0<=n<;>by_cases b:n<=200<;>simp[a,b]
 ·by_cases h2:k=2
  ·subst h2;by_cases a:0<=n<;>by_cases b:n<=100<;>simp[a,b]
  ·by_cases h3:k=3
   ·subst h3;simp
   ·by_cases h4:k=4
    ·subst h4;simp
    ·by_cases h5:k=5
     ·subst h5;simp[gA,bA,nth,CM]
     ·by_cases h6:k=6
      ·subst h6;simp[gA,bA,nth,CM]
      ·simp only[beF h1,beF h2,beF h3,beF h4,beF h5,beF h6,cond_false];simp[h1,h2,h3,h4,h5,h6,hk]
theorem Zkl {M:Fn} (c:Cv) (x n:Int):
  Q3 M [I c.o0,I c.o1,B c.o2,B c.o3,B c.o4,I x,I 11,I n]=some [I c.o0,I c.o1,B c.o2,B c.o3,B c.o4]:=by
 rw[Qv1];rfl
theorem Zyb (a b d e f:Int):Pm [I a,I b,I d,I e,I f]=some (if a=2 then [I a,I b,I d]else if b=0 then [I 1,I e,I f]else [I 1,I b,I d]):=by
 show Qmu _=_;rw[Zu6];by_cases h:a=2
 ·rw[if_pos h,Bu (by simpa using h)]
 ·rw[if_neg h,Bf (by simpa using h)];by_cases h:b=0
  ·rw[if_pos h,Bu (by simpa using h)]
  ·rw[if_neg h,Bf (by simpa using h)]
theorem Zxe {MS MT:Fn} (hS:MS []=some [I 0,I 0,I (-1)]) (hT:∀a b d e f:Int,MT [I a,I b,I d,I e,I f]=some (if a=2 then [I a,I b,I d]else if b=0 then [I 1,I e,I f]else [I 1,I b,I d])) (c:Cv) (x k n:Int):
  V6 MS MT [I c.g0,I c.g1,I c.g2,I x,I k,I n]=some [I (evC c k n).g0,I (evC c k n).g1,I (evC c k n).g2]:=by
 rw[Zko];unfold evC;simp only[hT,hS];by_cases h1:k=10
 ·subst h1;rfl
 ·by_cases h2:k=9
  ·subst h2;by_cases a:c.g0=2<;>by_cases b:c.g1=0<;>simp[Hy,a,b,gA,jA,nth,Af]
  ·by_cases h3:k=8
   ·subst h3;by_cases u:0<=n<;>by_cases v:n<=2<;>by_cases a:c.g0=2<;>by_cases b:c.g1=0<;>simp[Hy,a,b,u,v,gA,jA,nth,Af]
   ·by_cases h4:k=11
    ·subst h4;rfl
    ·simp only[beF h1,beF h2,beF h3,beF h4,cond_false];simp[Hy,h1,h2,h3,h4]
theorem Zh1 {MR MT ML MG' MO:Fn} {K:Kf} (c:Cv) (x:Int) {k:Int} (n:Int) (hk:k≠7/\k≠12/\k≠13)
  (hO:k≠11->MO [I c.o0,I c.o1,B c.o2,B c.o3,B c.o4,I x,I k,I n]=some [I (evC c k n).o0,I (evC c k n).o1,B (evC c k n).o2,B (evC c k n).o3,B (evC c k n).o4])
  (hO2:k=11->MO [I c.o0,I c.o1,B c.o2,B c.o3,B c.o4,I x,I k,I n]=some [I c.o0,I c.o1,B c.o2,B c.o3,B c.o4])
  (hG:MG' [I c.g0,I c.g1,I c.g2,I x,I k,I n]=some [I (evC c k n).g0,I (evC c k n).g1,I (evC c k n).g2]):
  Yw MR MT ML MG' MO (I x::I k::I n::Ad K c)=some (Ad K (evC c k n)):=by
 rw[Zah];by_cases h:k=11
 ·rw[hO2 h,hG];subst h;rfl
 ·rw[hO h,hG];simp only[Option.bind_some];rw[Bf (by simpa using hk.2.2),Bf (by simpa using h),Bf (by simpa using hk.2.1),Bf (by simpa using hk.1)];by_cases h4:k=4
  ·subst h4;rfl
  ·rw[Bf (by simpa using h4)];have e:(evC c k n).aJ=c.aJ:=by unfold evC;simp[h4]
   rw[<-e];rfl
theorem Zz7 {K:Kf} (c:Cv) (x:Int) {k:Int} (n:Int) (hk:k≠7/\k≠12/\k≠13):Lx (I x::I k::I n::Ad K c)=some (Ad K (evC c k n)):=
 Zh1 c x n hk (fun h=>Zwf Zky c x k n h) (fun h=>by subst h;exact Zkl c x n) (Zxe (by show SF []=_;rw[Qrr]) Zyb c x k n)
end Go.Bm
noncomputable section
namespace Go.Bm
def one (M:Fn) (l:List AC):Int:=gA ((M l).getD []) 0
theorem YA {M:Fn} {l:List AC} {v:Int} (h:M l=some [I v]):M l=some [I (one M l)]:=by
 unfold one;rw[h];rfl
def Ct (k:Int) (c:Cv):Bool:=k==1||(k==3||(k==6||(k==4&&(c.o4||c.o3)||k==2&&c.o3)))
theorem Qv0 (at_ k it:Int) (c:Cv):Ih [I at_,I k,I it,I c.o0,I c.o1,B c.o2,B c.o3,B c.o4]=some [B (Ct k c)]:=by
 show Qhb _=_;rw[Zit];unfold Ct;by_cases h1:k=1
 ·subst h1;rfl
 by_cases h2:k=3
 ·subst h2;rfl
 by_cases h3:k=6
 ·subst h3;rfl
 by_cases h4:k=4
 ·subst h4;cases c.o4<;>cases c.o3<;>rfl
 by_cases h5:k=2
 ·subst h5;cases c.o3<;>rfl
 simp[beF h1,beF h2,beF h3,beF h4,beF h5]
def Fd (c:Cv) (known frm:Int):List Mrk->Nat->Int×Int
 |[],_=>(known,-1)
 |m::l,i=>if Ct m.kind c=true/\frm<=m.at_/\m.at_<=known then(m.at_,i)else Fd c known frm l (i+1)
def BK (K:Kf) (c:Cv) (known frm:Int):Int×Int:=Fd c known frm (K.p.aD.drop (max c.next 0).toNat) (max c.next 0).toNat
theorem Zri {M:Fn} {K:Kf} (hl:K.p.aD.length<=1000000) (c:Cv) (hM:∀at_ k it:Int,M [I at_,I k,I it,I c.o0,I c.o1,B c.o2,B c.o3,B c.o4]=some [B (Ct k c)]) (known frm:Int):
  YG M (Am (Sc M)) [.view kPt (K.p.aD.map At),I c.next,I c.o0,I c.o1,B c.o2,B c.o3,B c.o4,I known,I frm]=some [I (BK K c known frm).1,I (BK K c known frm).2]:=by
 rw[Zjl];have hmx:mx c.next 0=max c.next 0:=by unfold mx;split<;>omega
 have key:Out (fun o=>(if o.1=1 then o.2=[I (BK K c known frm).1,I (BK K c known frm).2]else o.1=2/\o.2=[I (BK K c known frm).1]/\(BK K c known frm).2= -1)) (Am (Sc M) [.view kPt (K.p.aD.map At),I known,I frm,I (max c.next 0),I c.o0,I c.o1,B c.o2,B c.o3,B c.o4]):=by
  refine CT (fun s:Int=>[.view kPt (K.p.aD.map At),I known,I frm,I s,I c.o0,I c.o1,B c.o2,B c.o3,B c.o4]) (fun s=>0<=s/\BK K c known frm=Fd c known frm (K.p.aD.drop s.toNat) s.toNat) (fun s=>(K.p.aD.length-s).toNat) _ ?_ (max c.next 0) ⟨by omega,rfl⟩;rintro i ⟨g,hw⟩;rw[Zuc];refine .cond (fun k=> ?_) fun k=> ?_
  ·have k:i<((K.p.aD.map At).length:Int):=Br k;rw[List.length_map]at k;have hi:i.toNat<K.p.aD.length:=by omega
   rw[Ae (x:=i+1) (by have:=hl;omega)];have em:mkK K i=K.p.aD[i.toNat]:=by unfold mkK;rw[List.getD,List.getElem?_eq_getElem hi];rfl
   rw[List.drop_eq_getElem_cons hi,<-em]at hw;unfold Fd at hw;refine .cond (fun _=> ?_) fun e=>(inB g (by rw[List.length_map];exact k) e).elim;rw[Ox g k];refine .bind (p:=fun o=>o=_) ⟨_,hM _ _ _,rfl⟩ fun o e=> ?_;subst e;have next:BK K c known frm=Fd c known frm (K.p.aD.drop (i.toNat+1)) (i.toNat+1)->Out (fun o:Nat×List AC=>(o.1=0/\∃s':Int,o.2=[.view kPt (K.p.aD.map At),I known,I frm,I s',I c.o0,I c.o1,B c.o2,B c.o3,B c.o4]/\(0<=s'/\BK K c known frm=Fd c known frm (K.p.aD.drop s'.toNat) s'.toNat)/\(K.p.aD.length-s').toNat<(K.p.aD.length-i).toNat)\/(o.1≠0/\(if o.1=1 then o.2=[I (BK K c known frm).1,I (BK K c known frm).2]else o.1=2/\o.2=[I (BK K c known frm).1]/\(BK K c known frm).2= -1))) (some (0,[.view kPt (K.p.aD.map At),I known,I frm,I (i+1),I c.o0,I c.o1,B c.o2,B c.o3,B c.o4])):=fun e=>
    .some (.inl ⟨rfl,i+1,rfl,⟨by omega,by rw[e,show(i+1).toNat=i.toNat+1 by omega]⟩,by omega⟩)
   refine .cond (fun a=> .cond (fun b=> .cond (fun d=> ?_) fun d=> ?_) fun b=> ?_) fun a=> ?_
   ·have a:Ct (mkK K i).kind c=true:=a;have b:frm<=(mkK K i).at_:=Br b;have d:(mkK K i).at_<=known:=Br d;rw[if_pos ⟨a,b,d⟩]at hw;refine .some (.inr ⟨by simp,?_⟩);rw[if_pos rfl,hw];show [I (mkK K i).at_,I i]=[I (mkK K i).at_,I (i.toNat:Int)];rw[Int.toNat_of_nonneg g]
   ·have d: ¬(mkK K i).at_<=known:=Bn d;rw[if_neg (fun h=>d h.2.2)]at hw;exact next hw
   ·have b: ¬frm<=(mkK K i).at_:=Bn b;rw[if_neg (fun h=>b h.2.1)]at hw;exact next hw
   ·have a:Ct (mkK K i).kind c=false:=a;rw[if_neg (fun h=>by rw[a]at h;cases h.1)]at hw;exact next hw
  ·have k: ¬i<((K.p.aD.map At).length:Int):=Bn k;rw[List.length_map]at k;rw[List.drop_of_length_le (by omega)]at hw;refine .some (.inr ⟨by simp,?_⟩);rw[if_neg (by simp),hw];exact⟨rfl,rfl,rfl⟩
 obtain⟨⟨o1,o2⟩,h1,h2⟩:=key;rw[hmx];refine eB h1 ?_;by_cases e:o1=1
 ·subst e;have h2:o2=_:=h2;subst h2;rfl
 ·rw[if_neg e]at h2;obtain⟨q1,q2,q3⟩:=h2;dsimp only at q1 q2;subst q1 q2;rw[q3];rfl
theorem Zdy {K:Kf} (h:KOK K) (c:Cv) (known frm:Int):Qw [.view kPt (K.p.aD.map At),I c.next,I c.o0,I c.o1,B c.o2,B c.o3,B c.o4,I known,I frm]=some [I (BK K c known frm).1,I (BK K c known frm).2]:=
 Zri h.count c (fun at_ k it=>Qv0 at_ k it c) known frm
theorem Qz3 {c:Cv} {known frm:Int} (hk:i64 known):∀{l:List Mrk} {i:Nat},(∀m∈l,i64 m.at_)->i64 (Fd c known frm l i).1
 |[],_,_=>hk
 |m::l,i,h=>by
  unfold Fd;split
  ·exact h m (by simp)
  ·exact Qz3 hk fun q hq=>h q (by simp[hq])
theorem Qwc {c:Cv} {known frm:Int}:∀{l:List Mrk} {i:Nat},(Fd c known frm l i).2= -1\/((i:Int)<=(Fd c known frm l i).2/\(Fd c known frm l i).2<(i+l.length:Nat))
 |[],_=> .inl rfl
 |m::l,i=>by
  unfold Fd;split
  ·exact .inr ⟨Int.le_refl _,by simp only[List.length_cons];omega⟩
  ·rcases Qwc (l:=l) (i:=i+1) (c:=c) (known:=known) (frm:=frm)with h|⟨h1,h2⟩
   ·exact .inl h
   ·exact .inr ⟨by omega,by simp only[List.length_cons];omega⟩
theorem Zw2 {K:Kf} {c:Cv} {known frm:Int}:(BK K c known frm).2= -1\/(0<=(BK K c known frm).2/\c.next<=(BK K c known frm).2/\(BK K c known frm).2<K.p.aD.length):=by
 unfold BK;rcases Qwc (c:=c) (known:=known) (frm:=frm) (l:=K.p.aD.drop (max c.next 0).toNat) (i:=(max c.next 0).toNat)with h|⟨h1,h2⟩
 ·exact .inl h
 ·rw[List.length_drop]at h2;exact .inr ⟨by omega,by omega,by omega⟩
def Nd (K:Kf) (c:Cv):Int:=one FB [I K.pa,I K.pb,I K.pc,I c.m0,I c.m1,I c.m2,I c.m3,I c.m4,I c.m5]
def E8 (K:Kf):Int:=if K.closed=true then K.len else K.set
def DC (r:Int):Int:=wrap .i64 ((wrap .i64 (wrap .i64 (r+256)-1)).tdiv 256)
def H1 (K:Kf) (r:Int):Int:=if BI K.t (AQ K.t (DC r))≠DC r then wrap .i64 (AQ K.t (DC r)+1)else AQ K.t (DC r)
def AS (K:Kf) (c:Cv):Int×Int:=(BI K.t (BK K c (E8 K) (H1 K (Nd K c))).1,(BK K c (E8 K) (H1 K (Nd K c))).2)
theorem Qpp (K:Kf) (c:Cv):(AS K c).2= -1\/(0<=(AS K c).2/\c.next<=(AS K c).2/\(AS K c).2<K.p.aD.length):=Zw2
theorem Zfm {K:Kf} (h:KOK K):i64 (E8 K):=by unfold E8;split;exact h.len;exact h.set
theorem Qvq {K:Kf} (h:KOK K) {c:Cv} {frm:Int}:i64 (BK K c (E8 K) frm).1:=by
 unfold BK;exact Qz3 (Zfm h) fun m hm=>(h.aD m (List.mem_of_mem_drop hm)).2.2
theorem Zo6 {MN MW MP MR:Fn} {K:Kf} {c:Cv} {r:Int} {b:Bool} (h:KOK K)
  (hR:MR [I K.pa,I K.pb,I K.pc,I c.m0,I c.m1,I c.m2,I c.m3,I c.m4,I c.m5]=some [I r,B b])
  (hP:∀u,MP (Bo K.t++[I u])=some [I (AQ K.t u)]) (hW:∀{z:Int},i64 z->MW (Bo K.t++[I z])=some [I (BI K.t z)])
  (hN:∀known frm,MN [.view kPt (K.p.aD.map At),I c.next,I c.o0,I c.o1,B c.o2,B c.o3,B c.o4,I known,I frm]=some [I (BK K c known frm).1,I (BK K c known frm).2]):
  Qbz MN MW MP MR (Ad K c)=some (I (BI K.t (BK K c (E8 K) (H1 K r)).1)::I (BK K c (E8 K) (H1 K r)).2::Ad K c):=by
 have key:∀known:Int,known=E8 K->QA MR K c MP MW MN (I known)=some (I (BI K.t (BK K c (E8 K) (H1 K r)).1)::I (BK K c (E8 K) (H1 K r)).2::Ad K c):=fun known hk=>by
  subst hk;refine eB hR (eB (hP (DC r)) (eB (hW (TR h.f _)) ?_));have e1:H1 K r=if BI K.t (AQ K.t (DC r))≠DC r then wrap .i64 (AQ K.t (DC r)+1)else AQ K.t (DC r):=rfl;by_cases c1:BI K.t (AQ K.t (DC r))=DC r
  ·rw[if_neg (by simpa using c1)]at e1;refine eF (bnF c1) ?_;exact eB (hN (E8 K) (AQ K.t (DC r))) (by rw[<-e1];exact eB (hW (Qvq h)) rfl)
  ·rw[if_pos c1]at e1;refine eT (bnT c1) ?_;exact eB (hN (E8 K) (wrap .i64 (AQ K.t (DC r)+1))) (by rw[<-e1];exact eB (hW (Qvq h)) rfl)
 rw[Q7v];refine eC (fun e=>key _ ?_) fun e=>key _ ?_
 ·unfold E8;rw[if_pos e]
 ·unfold E8;rw[if_neg (by rw[e];simp)]
end Go.Bm
noncomputable section
namespace Go.Bm
theorem Zn0 {M:Fn} {l:List AC} (h:Out (fun o=>(wA o 0).length<=4096) (M l)) {x0 x1 x2 x3 x4 x5 x6 x7 x8:Int} (e:l=[I x0,I x1,I x2,I x3,I x4,I x5,I x6,I x7,I x8]):∃(r:Int) (b:Bool),Kr M l=some [I r,B b]:=by
 subst e;have key:Out (fun o=>∃(r:Int) (b:Bool),o=[I r,B b]) (Kr M [I x0,I x1,I x2,I x3,I x4,I x5,I x6,I x7,I x8]):=by
  rw[TM];refine .bind h fun o g=> .cond (fun _=> .some ⟨0,false,rfl⟩) fun _=> ?_;generalize wA o 0=sp at*;refine .cond (fun _=> .some ⟨x3,true,rfl⟩) fun c=> .cond (fun _=> .some ⟨_,true,rfl⟩) fun d=> ?_;have c: ¬((sp.length:Int)=0):=by simpa using c
  rw[Ae (by omega)]at d;simp at d;omega
 obtain⟨o,h1,r,b,rfl⟩:=key;exact⟨r,b,h1⟩
theorem Zjt (x0 x1 x2 x3 x4 x5 x6 x7 x8:Int):∃b:Bool,FB [I x0,I x1,I x2,I x3,I x4,I x5,I x6,I x7,I x8]=some [I (one FB [I x0,I x1,I x2,I x3,I x4,I x5,I x6,I x7,I x8]),B b]:=by
 obtain⟨r,b,h⟩:=Zn0 (M:=EE) (QH x0 x1 x2 x3 x4 x5 x6 x7 x8) rfl;have h:FB [I x0,I x1,I x2,I x3,I x4,I x5,I x6,I x7,I x8]=some [I r,B b]:=h;refine⟨b,?_⟩;unfold one;rw[h];rfl
theorem Zsv {K:Kf} (h:KOK K) (c:Cv):P7 (Ad K c)=some (I (AS K c).1::I (AS K c).2::Ad K c):=by
 obtain⟨b,hb⟩:=Zjt K.pa K.pb K.pc c.m0 c.m1 c.m2 c.m3 c.m4 c.m5;exact Zo6 h hb (OK h.f.t.q) (fun hz=>Zij h.f.t.q hz) (Zdy h c)
def Tb (c:Cv) (v:Int):Cv:={c with m0:=wrap .i64 (c.m0+v),m1:=v,m2:=wrap .i64 (v-c.m1),m3:=c.m0,m4:=c.m3,m5:=c.m4}
def C8 (K:Kf) (c:Cv) (l:Int):Cv:=Tb c (nxV K c l)
theorem Vw {K:Kf} {c:Cv} {n:Int} (h:KOK K) (g:Gd K n c) (l:Int):
  EK (nxL K c l)=some (Eh c.m0 c.m1 c.m3 c.m4 (nxV K c l))/\((AH K.pa K.pb (nxV K c l) (wrap .i64 (nxV K c l-c.m1))).2=true\/∃r:Int,nxV K c l=wrap .i64 (c.m1+r)/\r=AD K.pa K.pb c.m1 c.m2):=by
 obtain⟨o,h1,v,rfl,h2⟩:=Q2r h g.mo l c.o2;have h1:EK (nxL K c l)=some (Eh c.m0 c.m1 c.m3 c.m4 v):=h1;have e:nxV K c l=v:=by unfold nxV;rw[h1];rfl
 rw[e];exact⟨h1,h2⟩
theorem Zwm {M:Fn} {K:Kf} {c:Cv} {l v:Int} (h:M (nxL K c l)=some (Eh c.m0 c.m1 c.m3 c.m4 v)):Uk M (I l::Ad K c)=some (Ad K (Tb c v)):=by
 rw[Q9y];exact eB h rfl
theorem Vl {K:Kf} {c:Cv} {n:Int} (h:KOK K) (g:Gd K n c) (l:Int):Hp (I l::Ad K c)=some (Ad K (C8 K c l)):=Zwm (Vw h g l).1
theorem Q4i {K:Kf} {c:Cv} {n:Int} (h:KOK K) (g:Gd K n c) (hn:0<=n/\n<=10000) (l:Int):Gd K (n+1) (C8 K c l):=g.move h hn (Vw h g l).2
def HA (c:Cv):Cv:={c with next:=wrap .i64 (c.idx+1),on:=false,idx:=0,aN:=false,cnt:=0}
def Ny (c:Cv) (n sp:Int):List AC:=(Kq [I c.s0,I c.s1,I c.s2,I c.s3,I n,I sp]).getD []
def JX (c:Cv) (n sp:Int):Cv:={c with s0:=gA (Ny c n sp) 0,s1:=gA (Ny c n sp) 1,s2:=gA (Ny c n sp) 2,s3:=gA (Ny c n sp) 3}
def Qo2 (c:Cv) (n sp:Int):Bool:=bA ((Oe [I c.s0,I c.s1,I c.s2,I c.s3,I n,I sp]).getD []) 0
def HJ (K:Kf) (c:Cv):Int×Cv:=
 if c.aN=true then(if c.cnt>1/\c.aJ=true then(3,HA c)else(2,c))
 else if(mkK K c.idx).kind≠3 then(3,HA c)
 else if(itK K (mkK K c.idx).item).kind=7 then(if c.cnt<(itK K (mkK K c.idx).item).n then(3,c)else(3,HA c))
 else if(itK K (mkK K c.idx).item).kind=8 then(if Qo2 (JX c (itK K (mkK K c.idx).item).n (itK K (mkK K c.idx).item).speed) (itK K (mkK K c.idx).item).n (itK K (mkK K c.idx).item).speed=true then(3,HA (JX c (itK K (mkK K c.idx).item).n (itK K (mkK K c.idx).item).speed))else(3,JX c (itK K (mkK K c.idx).item).n (itK K (mkK K c.idx).item).speed))
 else if(itK K (mkK K c.idx).item).kind=14 then(7,{c with aI:=7})else(3,HA c)
def CG (c:Cv):Cv:={c with cnt:=wrap .i64 (c.cnt+1)}
def By (K:Kf) (c:Cv):Int×Cv:=HJ K (CG c)
theorem Zyq {MR MC MD:Fn} {K:Kf} {c:Cv} (h:KOK K) (h0:0<=c.idx) (h1:c.idx<K.p.aD.length)
  (hD:∀c:Cv,MD (Ad K c)=some (I 3::Ad K (HA c)))
  (hC:∀(c:Cv) (x4 x5:Int),i64 x5->MC [I c.s0,I c.s1,I c.s2,I c.s3,I x4,I x5]=some (Ny c x4 x5)) (hR:∀(c:Cv) (x4 x5:Int),i64 x5->Out (fun o=>bA o 0=Qo2 c x4 x5) (MR [I c.s0,I c.s1,I c.s2,I c.s3,I x4,I x5])):
  U1 MR MC MD (Ad K c)=some (I (By K c).1::Ad K (By K c).2):=by
 rw[Zkq];have hm:=Q8 h h0 h1;unfold By HJ;refine eC (fun a=> ?_) fun a=> ?_
 ·rw[if_pos (show(CG c).aN=true from a)];refine eC (fun b=>eC (fun e=> ?_) fun e=> ?_) fun b=> ?_
  ·rw[if_pos (show(CG c).cnt>1/\(CG c).aJ=true from⟨Br b,e⟩)];exact eB (hD (CG c)) rfl
  ·rw[if_neg (show¬((CG c).cnt>1/\(CG c).aJ=true)from fun q=>by have:=q.2;rw[show(CG c).aJ=false from e]at this;cases this)];rfl
  ·rw[if_neg (show¬((CG c).cnt>1/\(CG c).aJ=true)from fun q=>Bn b q.1)];rfl
 ·rw[if_neg (show¬(CG c).aN=true by rw[show(CG c).aN=false from a];simp)];refine eT (inM (f:=At) h0 h1) ?_;rw[Ox h0 h1];rw[show(CG c).idx=c.idx from rfl];refine eC (fun b=> ?_) fun b=> ?_
  ·have b:(mkK K c.idx).kind≠3:=by simpa [gA,nth,Af]using b
   rw[if_pos b];exact eB (hD (CG c)) rfl
  ·have b:(mkK K c.idx).kind=3:=by simpa [gA,nth,Af]using b
   rw[if_neg (by rw[b];simp)];refine eT (inM (f:=Ah) (l:=K.aA) (i:=(mkK K c.idx).item) hm.1 hm.2.1) ?_;have er:nth [] (K.aA.map Ah) (gA (At (mkK K c.idx)) 2).toNat=Ah (itK K (mkK K c.idx).item):=IN hm.1 hm.2.1;rw[er];have hsp:(itK K (mkK K c.idx).item).kind=8->i64 (itK K (mkK K c.idx).item).speed:=fun k8=>by
    have:=Zrf h (mkK K c.idx).item.toNat;rw[IN hm.1 hm.2.1]at this;exact this k8
   generalize itK K (mkK K c.idx).item=it at*;refine eC (fun k=> ?_) fun k=> ?_
   ·have k:it.kind=7:=eq_of_beq k;rw[if_pos k];refine eC (fun q=> ?_) fun q=> ?_
    ·rw[if_pos (show(CG c).cnt<it.n from Br q)];rfl
    ·rw[if_neg (show¬(CG c).cnt<it.n from Bn q)];exact eB (hD (CG c)) rfl
   ·have k:it.kind≠7:=by simpa [gA,nth,Af]using k
    rw[if_neg k];refine eC (fun k8=> ?_) fun k8=> ?_
    ·have k8:it.kind=8:=eq_of_beq k8;rw[if_pos k8];refine eB (hC (CG c) it.n it.speed (hsp k8)) ?_;obtain⟨o,h5,h6⟩:=hR (JX (CG c) it.n it.speed) it.n it.speed (hsp k8);refine eB h5 ?_;rw[<-h6];refine eC (fun q=> ?_) fun q=> ?_
     ·rw[if_neg (show¬bA o 0=true by simpa using q)];rfl
     ·rw[if_pos (show bA o 0=true by simpa using q)];exact eB (hD (JX (CG c) it.n it.speed)) rfl
    ·have k8:it.kind≠8:=by simpa [gA,nth,Af]using k8
     rw[if_neg k8];refine eC (fun k=> ?_) fun k=> ?_
     ·rw[if_pos (show it.kind=14 from eq_of_beq k)];rfl
     ·rw[if_neg (show it.kind≠14 by simpa [gA,nth,Af]using k)];exact eB (hD (CG c)) rfl
theorem Xz {l:Option (List AC)} (h:l.isSome=true):l=some (l.getD []):=by
 cases l with
 |none=>cases h
 |some o=>rfl
theorem Zmc (c:Cv) (x4:Int) {x5:Int} (h:i64 x5):Kq [I c.s0,I c.s1,I c.s2,I c.s3,I x4,I x5]=some (Ny c x4 x5):=Xz (Zlf _ _ _ _ _ h)
theorem Zp7 (K:Kf) (c:Cv):L5 (Ad K c)=some (I 3::Ad K (HA c)):=Ziv K c
theorem Qpy {K:Kf} {c:Cv} (h:KOK K) (h0:0<=c.idx) (h1:c.idx<K.p.aD.length):JM (Ad K c)=some (I (By K c).1::Ad K (By K c).2):=
 Zyq h h0 h1 (Zp7 K) (fun c x4 _ h=>Zmc c x4 h) fun c x4 x5 h=>⟨_,Xz (Zeb _ _ _ _ _ h),rfl⟩
def E4 (K:Kf) (c:Cv) (i:Int):Bool:=
 if(mkK K i).kind=1\/(mkK K i).kind=2\/(mkK K i).kind=6 then c.o3 else if(mkK K i).kind=4 then true
 else if(mkK K i).kind=3 then((itK K (mkK K i).item).kind==11||(itK K (mkK K i).item).kind==12)else false
def Dr (K:Kf) (c:Cv) (i:Int):Int×Cv:=By K {c with on:=true,idx:=i,aN:=E4 K c i,cnt:=0}
theorem Q8y {M:Fn} {K:Kf} {c:Cv} {i:Int} (h:KOK K) (h0:0<=i) (h1:i<K.p.aD.length)
  (hW:∀w:Bool,M (Ad K {c with on:=true,idx:=i,aN:=w,cnt:=0})=some (I (By K {c with on:=true,idx:=i,aN:=w,cnt:=0}).1::Ad K (By K {c with on:=true,idx:=i,aN:=w,cnt:=0}).2)):
  ZF M (I i::Ad K c)=some (I (Dr K c i).1::Ad K (Dr K c i).2):=by
 rw[Q9m];have hm:=Q8 h h0 h1;unfold Dr;refine eT (inM (f:=At) h0 h1) ?_;rw[Ox h0 h1];have fin:∀{w:Bool} {f:List AC->List AC},w=E4 K c i->(∀(m:Int) (c:Cv),f (I m::Ad K c)=I m::Ad K c)->((M (Ad K {c with on:=true,idx:=i,aN:=w,cnt:=0})).bind fun o=>some (f o))=some (I (By K {c with on:=true,idx:=i,aN:=E4 K c i,cnt:=0}).1::Ad K (By K {c with on:=true,idx:=i,aN:=E4 K c i,cnt:=0}).2):=fun hw hf=>by
  subst hw;refine eB (hW _) ?_;rw[hf]
 have ne:∀{n:Int},(gA (At (mkK K i)) 1==n)=false->(mkK K i).kind≠n:=fun e=>by simpa [gA,nth,Af]using e
 have eq:∀{n:Int},(gA (At (mkK K i)) 1==n)=true->(mkK K i).kind=n:=fun e=>eq_of_beq e;refine eC (fun e=>fin (by unfold E4;rw[if_pos (.inl (eq e))]) fun _ _=>rfl) fun n1=> ?_;refine eC (fun e=>fin (by unfold E4;rw[if_pos (.inr (.inl (eq e)))]) fun _ _=>rfl) fun n2=> ?_;refine eC (fun e=>fin (by unfold E4;rw[if_pos (.inr (.inr (eq e)))]) fun _ _=>rfl) fun n6=> ?_;have no: ¬((mkK K i).kind=1\/(mkK K i).kind=2\/(mkK K i).kind=6):=by
  intro q;rcases q with q|q|q
  ·exact ne n1 q
  ·exact ne n2 q
  ·exact ne n6 q
 refine eC (fun e=>fin (by unfold E4;rw[if_neg no,if_pos (eq e)]) fun _ _=>rfl) fun n4=> ?_;refine eC (fun e=> ?_) fun n3=>fin (by unfold E4;rw[if_neg no,if_neg (ne n4),if_neg (ne n3)]) fun _ _=>rfl;refine eT (inM (f:=Ah) (l:=K.aA) (i:=(mkK K i).item) hm.1 hm.2.1) ?_;have er:nth [] (K.aA.map Ah) (gA (At (mkK K i)) 2).toNat=Ah (itK K (mkK K i).item):=IN hm.1 hm.2.1;rw[er];have hw:E4 K c i=((itK K (mkK K i).item).kind==11||(itK K (mkK K i).item).kind==12):=by unfold E4;rw[if_neg no,if_neg (ne n4),if_pos (eq e)]
 refine eC (fun k=>fin (by rw[hw,show((itK K (mkK K i).item).kind==11)=true from k];rfl) fun _ _=>rfl) fun k=>fin (by rw[hw,show((itK K (mkK K i).item).kind==11)=false from k];rfl) fun _ _=>rfl
theorem Zfp {K:Kf} {c:Cv} {i:Int} (h:KOK K) (h0:0<=i) (h1:i<K.p.aD.length):OI (I i::Ad K c)=some (I (Dr K c i).1::Ad K (Dr K c i).2):=
 Q8y h h0 h1 fun _=>Qpy h h0 h1
end Go.Bm
noncomputable section
namespace Go.Bm
def Cn (c:Cv):Cv:=if c.g0=0 then{c with o2:=true,g0:=1,g1:=18,g2:= -1}else c
theorem Ub (K:Kf) (c:Cv):GT (Ad K c)=some (Ad K (Cn c)):=Zmk K c
def Me (c:Cv):Int:=one JI [I c.before,I c.s0]
theorem Zvf (c:Cv):JI [I c.before,I c.s0]=some [I (Me c)]:=by
 have key:∃v,JI [I c.before,I c.s0]=some [I v]:=by
  have e:JI [I c.before,I c.s0]=Yy JO [I c.before,I c.s0]:=rfl;have h:∀a,(JO [I a,I 1048576]).isSome=true:=fun a=>Zqd (by omega);rw[e,Zny];generalize JO=M at*;have h2:∀a,∃o,M [I a,I 1048576]=some o:=fun a=>Option.isSome_iff_exists.1 (h a);cases(c.s0== -1)
  ·obtain⟨o,ho⟩:=h2 (wrap .i64 (0-c.before));exact⟨_,eB ho rfl⟩
  ·obtain⟨o,ho⟩:=h2 c.before;exact⟨_,eB ho rfl⟩
 obtain⟨v,h⟩:=key;exact YA h
def goC (K:Kf) (c:Cv) (g:Sgm):Cv:={c with y0:=g.item,y1:=Av K c,y2:=c.s3,e0:=1,e1:=c.m0,e2:=Me c,e3:=0}
def Ed (K:Kf) (c:Cv) (g:Sgm):Bool:=(itK K g.item).kind==6||(c.s1 !=0&& !decide (wrap .i64 (wrap .i64 (c.s3-Me c)*c.s0)<0))
theorem Zkj {MP MI:Fn} {K:Kf} {c:Cv} {s:Sgm} (h0:0<=s.item) (h1:s.item<K.aA.length) (hI:MI [I c.before,I c.s0]=some [I (Me c)]) (hP:MP (Ad K c)=some [I (Av K c)]):
  Qm9 MP MI (I s.to.x::I s.to.y::I s.to.z::I s.len::I s.item::I s.feed::I s.lead::Ad K c)=some (B (Ed K c s)::Ad K (if Ed K c s=true then goC K c s else c)):=by
 rw[Q9v];refine eB hI (eT (inM (f:=Ah) h0 h1) ?_);rw[IN h0 h1];refine eC (fun e=> ?_) fun e=> ?_
 ·have e:(itK K s.item).kind≠6:=by simpa [gA,nth,Af]using e
  refine eC (fun a=> ?_) fun a=>eC (fun b=> ?_) fun b=> ?_
  ·have hm:Ed K c s=false:=by unfold Ed;rw[beF e,bnF (eq_of_beq a)];rfl
   rw[hm];rfl
  ·have hm:Ed K c s=false:=by unfold Ed;rw[beF e,show decide (wrap .i64 (wrap .i64 (c.s3-Me c)*c.s0)<0)=true from b];simp
   rw[hm];rfl
  ·have hm:Ed K c s=true:=by
    unfold Ed;rw[show decide (wrap .i64 (wrap .i64 (c.s3-Me c)*c.s0)<0)=false from b];simp only[bne,a];simp
   rw[hm];exact eB hP rfl
 ·have e:(itK K s.item).kind=6:=by simpa [gA,nth,Af]using e
  have hm:Ed K c s=true:=by unfold Ed;rw[beT e];rfl
  rw[hm];exact eB hP rfl
theorem Zi5 {K:Kf} {c:Cv} {s:Sgm} (h:KOK K) (h0:0<=s.item) (h1:s.item<K.aA.length):
  Pk (I s.to.x::I s.to.y::I s.to.z::I s.len::I s.item::I s.feed::I s.lead::Ad K c)=some (B (Ed K c s)::Ad K (if Ed K c s=true then goC K c s else c)):=
 Zkj h0 h1 (Zvf c) (SX h c)
def DD (lead way:Int):Int:=one Fu [I lead,I way]
theorem Qnk {a b:Int} (ha:i64 a) (hb:i64 b):Fu [I a,I b]=some [I (DD a b)]:=by
 have key:∃v,Fu [I a,I b]=some [I v]:=by
  have e:Fu [I a,I b]=QR Bi [I a,I b]:=rfl;have h:=Y6 (show i64 4096 by unfold i64;omega) hb ha 0;rw[e,Q2v];generalize Bi=M at*;obtain⟨o,ho⟩:=Option.isSome_iff_exists.1 h;exact⟨_,eB ho rfl⟩
 obtain⟨v,h⟩:=key;exact YA h
def Qob (K:Kf) (d:Cv) (g:Sgm):Int:=wrap .i64 (d.y2+wrap .i64 (wrap .i64 ((if(itK K g.item).n=3 then 1 else-1)*DD g.lead (wrap .i64 (Av K d-d.y1)))*256))
def FC (K:Kf) (c:Cv) (l:Int) (g:Sgm):Cv:={C8 K c l with s3:=Qob K (C8 K c l) g}
theorem Zgz {MA MP ML:Fn} {K:Kf} {c:Cv} {l:Int} {s:Sgm} (h0:0<=s.item) (h1:s.item<K.aA.length)
  (hA:∀v,i64 v->MA [I s.lead,I v]=some [I (DD s.lead v)]) (hP:∀c,MP (Ad K c)=some [I (Av K c)]) (hL:ML (I l::Ad K c)=some (Ad K (C8 K c l))):
  Qi2 MA MP ML (I l::I s.to.x::I s.to.y::I s.to.z::I s.len::I s.item::I s.feed::I s.lead::Ad K c)=some (Ad K (FC K c l s)):=by
 rw[Zwo];unfold FC;generalize C8 K c l=d at*;refine eB hL (eT (inM (f:=Ah) h0 h1) ?_);show cond (gA (nth [] (K.aA.map Ah) s.item.toNat) 19==3) _ _=_;rw[IN h0 h1];unfold Qob;refine eC (fun e=> ?_) fun e=> ?_
 ·rw[if_pos (show(itK K s.item).n=3 from eq_of_beq e)];exact eB (hP d) (eB (hA _ (PS _)) rfl)
 ·rw[if_neg (show(itK K s.item).n≠3 by simpa [gA,nth,Af]using e)];exact eB (hP d) (eB (hA _ (PS _)) rfl)
theorem Qvr {K:Kf} {c:Cv} {n:Int} (h:KOK K) (g:Gd K n c) (hn:0<=n/\n<=10000) (l:Int) {s:Sgm} (hs:0<=s.item/\s.item<K.aA.length/\i64 s.lead):
  Qj (I l::I s.to.x::I s.to.y::I s.to.z::I s.len::I s.item::I s.feed::I s.lead::Ad K c)=some (Ad K (FC K c l s)):=
 Zgz hs.1 hs.2.1 (fun v hv=>Qnk hs.2.2 hv) (SX h) (Vl h g l)
def thL (K:Kf) (c:Cv) (l lead:Int):List AC:=pxt K.p K.x K.t [I K.pa,I K.pb,I K.pc,I c.o0,I c.o1,B c.o2,B c.o3,B c.o4,I c.m0,I c.m1,I c.m2,I c.m3,I c.m4,I c.m5,I l,I lead,I c.e0,I c.e1,I c.e2,I c.e3,I c.before,I c.s3]
def thO (K:Kf) (c:Cv) (l lead:Int):List AC:=(H6 (thL K c l lead)).getD []
def G_ (c:Cv) (o:List AC):Cv:={Tb c (gA o 1)with e0:=gA o 6,e1:=gA o 7,e2:=gA o 8,e3:=gA o 9}
def Hf (K:Kf) (c:Cv) (l lead:Int):Cv:=
 if c.g0≠0 then{C8 K c l with e0:=3}else if gA (thO K c l lead) 10≠0 then Cn (G_ c (thO K c l lead))else G_ c (thO K c l lead)
theorem Qe0 {K:Kf} {c:Cv} {n:Int} (h:KOK K) (g:Gd K n c) (l:Int) {lead:Int} (hl:i64 lead):
  H6 (thL K c l lead)=some (thO K c l lead)/\∃v s b z y e:Int,thO K c l lead=Eh c.m0 c.m1 c.m3 c.m4 v++[I s,I b,I z,I y,I e]/\((AH K.pa K.pb v (wrap .i64 (v-c.m1))).2=true\/∃r:Int,v=wrap .i64 (c.m1+r)/\r=AD K.pa K.pb c.m1 c.m2):=by
 obtain⟨o,h1,v,s,b,z,y,e,rfl,h2⟩:=Zz9 h g.mo l hl;have h1:H6 (thL K c l lead)=some (Eh c.m0 c.m1 c.m3 c.m4 v++[I s,I b,I z,I y,I e]):=h1;have e2:thO K c l lead=Eh c.m0 c.m1 c.m3 c.m4 v++[I s,I b,I z,I y,I e]:=by unfold thO;rw[h1];rfl
 rw[e2];exact⟨h1,v,s,b,z,y,e,rfl,h2⟩
theorem Zpc {MF MT ML:Fn} {K:Kf} {c:Cv} {l:Int} {s:Sgm} (hF:∀c,MF (Ad K c)=some (Ad K (Cn c)))
  (hT:MT (thL K c l s.lead)=some (thO K c l s.lead)) (hS:∃v s' b z y e:Int,thO K c l s.lead=Eh c.m0 c.m1 c.m3 c.m4 v++[I s',I b,I z,I y,I e]) (hL:ML (I l::Ad K c)=some (Ad K (C8 K c l))):
  Yg MF MT ML (I l::I s.to.x::I s.to.y::I s.to.z::I s.len::I s.item::I s.feed::I s.lead::Ad K c)=some (Ad K (Hf K c l s.lead)):=by
 rw[Z1a];unfold Hf;refine eC (fun e=> ?_) fun e=> ?_
 ·rw[if_pos (show c.g0≠0 by simpa using e)];generalize C8 K c l=d at*;exact eB hL rfl
 ·rw[if_neg (show¬c.g0≠0 by simpa using e)];obtain⟨v,s',b,z,y,e',hs⟩:=hS;generalize thO K c l s.lead=o at*;subst hs;refine eB hT ?_;refine eC (fun q=> ?_) fun q=> ?_
  ·rw[if_pos (show gA (Eh c.m0 c.m1 c.m3 c.m4 v++[I s',I b,I z,I y,I e']) 10≠0 by simpa using q)];refine Eq.trans (congrArg (fun z=>Option.bind z _) (hF (G_ c (Eh c.m0 c.m1 c.m3 c.m4 v++[I s',I b,I z,I y,I e'])))) rfl
  ·rw[if_neg (show¬gA (Eh c.m0 c.m1 c.m3 c.m4 v++[I s',I b,I z,I y,I e']) 10≠0 by simpa using q)];rfl
theorem Qqu {K:Kf} {c:Cv} {n:Int} (h:KOK K) (g:Gd K n c) (hn:0<=n/\n<=10000) (l:Int) {s:Sgm} (hs:i64 s.lead):
  O3 (I l::I s.to.x::I s.to.y::I s.to.z::I s.len::I s.item::I s.feed::I s.lead::Ad K c)=some (Ad K (Hf K c l s.lead)):=by
 obtain⟨h1,v,s',b,z,y,e,h2,-⟩:=Qe0 h g l hs;exact Zpc (Ub K) h1 ⟨v,s',b,z,y,e,h2⟩ (Vl h g l)
def DZ (K:Kf) (c:Cv) (l:Int) (g:Sgm):Cv:=if(itK K g.item).kind=6 then FC K c l g else Hf K c l g.lead
def AV (K:Kf) (c:Cv) (l:Int):Cv:=
 if(sgK K c).lead=0\/(c.o2=true/\c.y0≠(sgK K c).item)then C8 K c l
 else if c.y0=(sgK K c).item then DZ K c l (sgK K c)
 else if Ed K c (sgK K c)=true then DZ K (goC K c (sgK K c)) l (sgK K c)
 else if c.s1=0 then Cn c else c
theorem Gd.go {K:Kf} {n:Int} {c:Cv} (g:Gd K n c) (s:Sgm):Gd K n (goC K c s):=⟨g.way,g.pass,g.task,g.mo,g.m0⟩
theorem Z0t {MH MT MF MS ML MG':Fn} {K:Kf} {c:Cv} {l:Int} (hok:(sgK K c).lead≠0->0<=(sgK K c).item/\(sgK K c).item<K.aA.length)
  (hG:MG' (Ad K c)=some (Ay (sgK K c)++[B (E9 K c).isSome])) (hL:ML (I l::Ad K c)=some (Ad K (C8 K c l)))
  (hS:(sgK K c).lead≠0->MS (I (sgK K c).to.x::I (sgK K c).to.y::I (sgK K c).to.z::I (sgK K c).len::I (sgK K c).item::I (sgK K c).feed::I (sgK K c).lead::Ad K c)=some (B (Ed K c (sgK K c))::Ad K (if Ed K c (sgK K c)=true then goC K c (sgK K c)else c)))
  (hF:MF (Ad K c)=some (Ad K (Cn c)))
  (hT:(sgK K c).lead≠0->∀d,d=c\/d=goC K c (sgK K c)->MT (I l::I (sgK K c).to.x::I (sgK K c).to.y::I (sgK K c).to.z::I (sgK K c).len::I (sgK K c).item::I (sgK K c).feed::I (sgK K c).lead::Ad K d)=some (Ad K (FC K d l (sgK K c))))
  (hH:(sgK K c).lead≠0->∀d,d=c\/d=goC K c (sgK K c)->MH (I l::I (sgK K c).to.x::I (sgK K c).to.y::I (sgK K c).to.z::I (sgK K c).len::I (sgK K c).item::I (sgK K c).feed::I (sgK K c).lead::Ad K d)=some (Ad K (Hf K d l (sgK K c).lead))):
  Qlm MH MT MF MS ML MG' (I l::Ad K c)=some (Ad K (AV K c l)):=by
 rw[Zz2];unfold AV;generalize sgK K c=s at*;refine eB hG ?_;refine eC (fun e=> ?_) fun e=> ?_
 ·rw[if_pos (.inl (show s.lead=0 from eq_of_beq e))];generalize C8 K c l=d at*;exact eB hL rfl
 ·have e:s.lead≠0:=by simpa [gA,nth,Af]using e
  obtain⟨q0,q1⟩:=hok e;have hS:=hS e;have hT:=hT e;have hH:=hH e
  have syn:∀{d:Cv} {f1 f2:List AC->List AC},d=c\/d=goC K c s->(∀c,f1 (Ad K c)=Ad K c)->(∀c,f2 (Ad K c)=Ad K c)->
    (bif decide (0<=s.item)&&decide (s.item<((K.aA.map Ah).length:Int))then(bif gA (nth [] (K.aA.map Ah) s.item.toNat) 0==6 then(MT (I l::I s.to.x::I s.to.y::I s.to.z::I s.len::I s.item::I s.feed::I s.lead::Ad K d)).bind fun o=>some (f1 o)else(MH (I l::I s.to.x::I s.to.y::I s.to.z::I s.len::I s.item::I s.feed::I s.lead::Ad K d)).bind fun o=>some (f2 o))else none)=some (Ad K (DZ K d l s)):=fun hd h1 h2=>by
   refine eT (inM (f:=Ah) q0 q1) ?_;rw[IN q0 q1];unfold DZ;refine eC (fun k=> ?_) fun k=> ?_
   ·rw[if_pos (show(itK K s.item).kind=6 from eq_of_beq k)];exact eB (hT _ hd) (congrArg some (h1 _))
   ·rw[if_neg (show(itK K s.item).kind≠6 by simpa [gA,nth,Af]using k)];exact eB (hH _ hd) (congrArg some (h2 _))
  have hg:Sy c (Ay s++[B (E9 K c).isSome]) MS K MF MT l MH=some (Ad K (if c.y0=s.item then DZ K c l s else if Ed K c s=true then DZ K (goC K c s) l s else if c.s1=0 then Cn c else c)):=by
   refine eC (fun y=> ?_) fun y=> ?_
   ·have y:c.y0≠s.item:=by simpa [gA,nth,Af]using y
    rw[if_neg y];refine eB hS ?_;cases hm:Ed K c s
    ·refine eT rfl ?_;rw[if_neg (by simp),if_neg (by simp)];refine eC (fun z=> ?_) fun z=> ?_
     ·rw[if_pos (show c.s1=0 from eq_of_beq z)];generalize Cn c=d at*;exact eB hF rfl
     ·rw[if_neg (show c.s1≠0 by simpa [gA,nth,Af]using z)];rfl
    ·refine eF rfl ?_;rw[if_pos rfl,if_pos rfl];have h:=syn (d:=goC K c s) (f1:=fun o=>cR 0 o) (f2:=fun o=>cR 0 o) (.inr rfl) (fun _=>rfl) (fun _=>rfl);generalize goC K c s=d at*;exact h
   ·have y:c.y0=s.item:=by simpa [gA,nth,Af]using y
    rw[if_pos y];exact syn (f1:=fun o=>cR 0 o) (f2:=fun o=>cR 0 o) (.inl rfl) (fun _=>rfl) (fun _=>rfl)
  refine eC (fun a=>eC (fun b=> ?_) fun b=> ?_) fun a=> ?_
  ·have b:c.y0≠s.item:=by simpa [gA,nth,Af]using b
   rw[if_pos (.inr ⟨a,b⟩)];generalize C8 K c l=d at*;exact eB hL rfl
  ·have b:c.y0=s.item:=by simpa [gA,nth,Af]using b
   rw[if_neg (fun q=>by rcases q with q|q;exact e q;exact q.2 b)];exact hg
  ·rw[if_neg (fun q=>by rcases q with q|q;exact e q;rw[a]at q;cases q.1)];exact hg
theorem Z0y {K:Kf} {c:Cv} {n:Int} (h:KOK K) (g:Gd K n c) (hn:0<=n/\n<=10000) (l:Int):O8 (I l::Ad K c)=some (Ad K (AV K c l)):=
 Z0t (fun e=>⟨(Gf h e).1,(Gf h e).2.1⟩) (Quz h c) (Vl h g l) (fun e=>Zi5 h (Gf h e).1 (Gf h e).2.1) (Ub K c)
  (fun e d hd=>by rcases hd with rfl|rfl;exact Qvr h g hn l (Gf h e);exact Qvr h (g.go _) hn l (Gf h e))
  (fun e d hd=>by rcases hd with rfl|rfl;exact Qqu h g hn l (Gf h e).2.2;exact Qqu h (g.go _) hn l (Gf h e).2.2)
end Go.Bm
noncomputable section
namespace Go.Bm
def Cs (K:Kf) (c:Cv):Int×Cv:=
 if c.aM=true/\c.m0=wrap .i64 ((AS K c).1*256)then
  (if 0 <= (AS K c).2 then
   (if(mkK K (AS K c).2).item=(Dr K c (AS K c).2).2.y0/\(itK K (mkK K (AS K c).2).item).kind=5/\(Dr K c (AS K c).2).2.e0=1 then((Dr K c (AS K c).2).1,Cn (Dr K c (AS K c).2).2)else Dr K c (AS K c).2)
  else if K.closed=true then(7,{c with aI:=7})else(1,c))
 else(if c.g0≠0/\c.aM=true then 6 else 1,AV K c (AS K c).1)
theorem Zak {MM MF MB ML:Fn} {K:Kf} {c:Cv} (h:KOK K) (hi:(AS K c).2= -1\/0<=(AS K c).2/\c.next<=(AS K c).2/\(AS K c).2<K.p.aD.length)
  (hL:ML (Ad K c)=some (I (AS K c).1::I (AS K c).2::Ad K c)) (hB:0<=(AS K c).2->(AS K c).2<K.p.aD.length->MB (I (AS K c).2::Ad K c)=some (I (Dr K c (AS K c).2).1::Ad K (Dr K c (AS K c).2).2))
  (hF:∀c,MF (Ad K c)=some (Ad K (Cn c))) (hM:MM (I (AS K c).1::Ad K c)=some (Ad K (AV K c (AS K c).1))):
  XM MM MF MB ML (Ad K c)=some (I (Cs K c).1::Ad K (Cs K c).2):=by
 rw[Zui];unfold Cs;generalize AV K c (AS K c).1=mv at*;have hbb:=hB;generalize hb:Dr K c (AS K c).2=bg at*;clear hb;generalize AS K c=li at*;refine eB hL ?_;have mov:∀{a:Prop} [Decidable a],¬(c.aM=true/\c.m0=wrap .i64 (li.1*256))->∀{x:Option (List AC)},x=some (I (if c.g0≠0/\c.aM=true then 6 else 1)::Ad K mv)->
   x=some (I (if c.aM=true/\c.m0=wrap .i64 (li.1*256)then(if 0<=li.2 then(if(mkK K li.2).item=bg.2.y0/\(itK K (mkK K li.2).item).kind=5/\bg.2.e0=1 then(bg.1,Cn bg.2)else bg)else if K.closed=true then(7,{c with aI:=7})else(1,c))else(if c.g0≠0/\c.aM=true then 6 else 1,mv)).1::Ad K (if c.aM=true/\c.m0=wrap .i64 (li.1*256)then(if 0<=li.2 then(if(mkK K li.2).item=bg.2.y0/\(itK K (mkK K li.2).item).kind=5/\bg.2.e0=1 then(bg.1,Cn bg.2)else bg)else if K.closed=true then(7,{c with aI:=7})else(1,c))else(if c.g0≠0/\c.aM=true then 6 else 1,mv)).2):=fun hn _ hx=>by
  rw[if_neg hn];exact hx
 refine eC (fun s=>eC (fun e=> ?_) fun e=> ?_) fun s=> ?_
 ·have s:c.aM=true:=s;have e:c.m0=wrap .i64 (li.1*256):=eq_of_beq e;rw[if_pos ⟨s,e⟩];refine eC (fun k=> ?_) fun k=> ?_
  ·have k:0<=li.2:=Br k;rw[if_pos k];have k2:li.2<K.p.aD.length:=by
    rcases hi with hi|hi
    ·omega
    ·exact hi.2.2
   have hm:=Q8 h k k2;refine eB (hB k k2) (eT (inM (f:=At) k k2) ?_);have er:nth [] (K.p.aD.map At) li.2.toNat=At (mkK K li.2):=Ox k k2;have er2:nth [] (K.aA.map Ah) (mkK K li.2).item.toNat=Ah (itK K (mkK K li.2).item):=IN hm.1 hm.2.1;refine eC (fun y=> ?_) fun y=> ?_
   ·have y:(mkK K li.2).item=bg.2.y0:=by
     have:=eq_of_beq (show(gA (nth [] (K.p.aD.map At) li.2.toNat) 2==bg.2.y0)=true from y);rw[er]at this;exact this
    refine eT (show(decide (0<=gA (nth [] (K.p.aD.map At) li.2.toNat) 2)&&decide (gA (nth [] (K.p.aD.map At) li.2.toNat) 2<((K.aA.map Ah).length:Int)))=true by rw[er];exact inM (f:=Ah) (l:=K.aA) (i:=(mkK K li.2).item) hm.1 hm.2.1) ?_;have ek:gA (nth [] (K.aA.map Ah) (gA (nth [] (K.p.aD.map At) li.2.toNat) 2).toNat) 0=(itK K (mkK K li.2).item).kind:=by
     rw[er];show gA (nth [] (K.aA.map Ah) (mkK K li.2).item.toNat) 0=_;rw[er2];rfl
    refine eC (fun q=> ?_) fun q=> ?_
    ·have q:(itK K (mkK K li.2).item).kind=5:=by rw[<-ek];exact eq_of_beq q
     refine eC (fun z=> ?_) fun z=> ?_
     ·have z:bg.2.e0=1:=eq_of_beq z;rw[if_pos ⟨y,q,z⟩];exact eB (hF bg.2) rfl
     ·have z:bg.2.e0≠1:=fun e=>by have:(bg.2.e0==1)=false:=z;rw[beT e]at this;cases this
      rw[if_neg (fun w=>z w.2.2)];rfl
    ·have q:(itK K (mkK K li.2).item).kind≠5:=fun e=>by
      have:(gA (nth [] (K.aA.map Ah) (gA (nth [] (K.p.aD.map At) li.2.toNat) 2).toNat) 0==5)=false:=q;rw[ek,beT e]at this;cases this
     rw[if_neg (fun w=>q w.2.1)];rfl
   ·have y:(mkK K li.2).item≠bg.2.y0:=fun e=>by
     have:(gA (nth [] (K.p.aD.map At) li.2.toNat) 2==bg.2.y0)=false:=y;rw[er]at this;rw[show(gA (At (mkK K li.2)) 2==bg.2.y0)=true from beT e]at this;cases this
    rw[if_neg (fun w=>y w.1)];rfl
  ·have k: ¬0<=li.2:=Bn k;rw[if_neg k];refine eC (fun q=> ?_) fun q=> ?_
   ·rw[if_pos (show K.closed=true from q)];rfl
   ·rw[if_neg (show¬K.closed=true by rw[show K.closed=false from q];simp)];rfl
 ·have e:c.m0≠wrap .i64 (li.1*256):=fun e'=>by
   have:(c.m0==wrap .i64 (li.1*256))=false:=e;rw[beT e']at this;cases this
  refine mov (a:=True) (fun w=>e w.2) ?_;refine eC (fun q=> ?_) fun q=> ?_
  ·have q:c.g0≠0:=fun e=>by
    have:(c.g0 !=0)=true:=q;rw[bnF e]at this;cases this
   refine eB hM (eT (show c.aM=true from s) ?_);rw[if_pos ⟨q,show c.aM=true from s⟩];rfl
  ·have q:c.g0=0:=Decidable.byContradiction fun e=>by
    have:(c.g0 !=0)=false:=q;rw[bnT e]at this;cases this
   refine eB hM ?_;rw[if_neg (fun w=>w.1 q)];rfl
 ·have s:c.aM=false:=s;refine mov (a:=True) (fun w=>by rw[s]at w;cases w.1) ?_;refine eC (fun q=> ?_) fun q=> ?_
  ·refine eB hM (eF (show c.aM=false from s) ?_);rw[if_neg (fun w=>by rw[s]at w;cases w.2)];rfl
  ·refine eB hM ?_;rw[if_neg (fun w=>by rw[s]at w;cases w.2)];rfl
theorem Zfv {K:Kf} {c:Cv} {n:Int} (h:KOK K) (g:Gd K n c) (hn:0<=n/\n<=10000):K1 (Ad K c)=some (I (Cs K c).1::Ad K (Cs K c).2):=
 Zak h (Qpp K c) (Zsv h c) (fun h0 h1=>Zfp h h0 h1) (Ub K) (Z0y h g hn _)
def swI (s:Int) (it:Itm):Int:=one JF (I s::Ah it)
theorem Zrv (s:Int) (it:Itm):JF (I s::Ah it)=some [I (swI s it)]:=by
 have key:∃v,JF (I s::Ah it)=some [I v]:=by
  show∃v,Qe4 (I s::Ah it)=some [I v];rw[Zld];by_cases h1:it.kind=10
  ·rw[Bf (bnF h1)];by_cases h2:it.n<0
   ·rw[Bu (decide_eq_true h2)];exact⟨_,rfl⟩
   ·rw[Bf (decide_eq_false h2)];by_cases h3:it.n>=16
    ·rw[Bu (decide_eq_true h3)];exact⟨_,rfl⟩
    ·rw[Bf (decide_eq_false h3),Bf (decide_eq_false (by simp[IntKind.wrap,IntKind.signed,IntKind.bits];omega))];cases it.on<;>exact⟨_,rfl⟩
  ·rw[Bu (bnT h1)];exact⟨_,rfl⟩
 obtain⟨v,h⟩:=key;exact YA h
def En (K:Kf) (s:Int):List Mrk->Cv->List Int×Cv
 |[],c=>([],c)
 |m::l,c=>if m.at_>s\/(m.at_=s/\c.next<=c.aK/\Ct m.kind c=true)then([],c)
  else if m.kind=5 then(m.item::(En K s l {c with outs:=swI c.outs (itK K m.item),aK:=c.aK+1}).1,(En K s l {c with outs:=swI c.outs (itK K m.item),aK:=c.aK+1}).2)
  else En K s l {c with aK:=c.aK+1}
def Ce (K:Kf) (c:Cv) (s:Int):List Int×Cv:=En K s (K.p.aD.drop c.aK.toNat) c
theorem Zv1 {MS MA:Fn} {K:Kf} {c:Cv} (h:KOK K) (hp:0<=c.aK/\c.aK<=K.p.aD.length) (s:Int)
  (hA:∀(c:Cv) (at_ k it:Int),MA [I at_,I k,I it,I c.o0,I c.o1,B c.o2,B c.o3,B c.o4]=some [B (Ct k c)]) (hS:∀(s:Int) (it:Itm),MS (I s::Ah it)=some [I (swI s it)]):
  Qeu MS MA (Am (R7 MS MA)) (I s::Ad K c)=some (.view Aa ((Ce K c s).1.map Ao)::Ad K (Ce K c s).2):=by
 rw[Zok];have key:Out (fun o=>o=(1, .view Aa ((Ce K c s).1.map Ao)::Ad K (Ce K c s).2)) (Am (R7 MS MA) (.view Aa (([]:List Int).map Ao)::I s::Ad K c)):=by
  have hc:=h.count;refine CT (fun z:List Int×Cv=> .view Aa (z.1.map Ao)::I s::Ad K z.2)
   (fun z=>0<=z.2.aK/\z.2.aK<=K.p.aD.length/\(z.1.length:Int)<=z.2.aK/\(Ce K c s).1=z.1++(En K s (K.p.aD.drop z.2.aK.toNat) z.2).1/\(Ce K c s).2=(En K s (K.p.aD.drop z.2.aK.toNat) z.2).2)
   (fun z=>(K.p.aD.length-z.2.aK).toNat) _ ?_ ([],c) ⟨hp.1,hp.2,by simp;omega,rfl,rfl⟩
  rintro⟨l,d⟩ ⟨g1,g2,g3,g4,g5⟩;dsimp only at g1 g2 g3 g4 g5;refine Out.eqv (Zr2 MS MA _ _ K d) ?_;refine .cond (fun k=> ?_) fun k=> ?_
  ·have k:d.aK<((K.p.aD.map At).length:Int):=Br k;rw[List.length_map]at k;have hi:d.aK.toNat<K.p.aD.length:=by omega
   have em:mkK K d.aK=K.p.aD[d.aK.toNat]:=by unfold mkK;rw[List.getD,List.getElem?_eq_getElem hi];rfl
   have hm:=Q8 h g1 k;rw[List.drop_eq_getElem_cons hi,<-em]at g4 g5;unfold En at g4 g5;refine .cond (fun _=> ?_) fun e=>(inB g1 (by rw[List.length_map];exact k) e).elim;rw[Ox g1 k];generalize hmk:mkK K d.aK=m at*;have wp:wrap .i64 (d.aK+1)=d.aK+1:=Ae (by omega);have np:(d.aK+1).toNat=d.aK.toNat+1:=by omega
   have stop:(m.at_>s\/(m.at_=s/\d.next<=d.aK/\Ct m.kind d=true))->∀{x:List AC},x= .view Aa (l.map Ao)::Ad K d->Out (fun o:Nat×List AC=>(o.1=0/\∃s':List Int×Cv,o.2= .view Aa (s'.1.map Ao)::I s::Ad K s'.2/\(0<=s'.2.aK/\s'.2.aK<=K.p.aD.length/\(s'.1.length:Int)<=s'.2.aK/\(Ce K c s).1=s'.1++(En K s (K.p.aD.drop s'.2.aK.toNat) s'.2).1/\(Ce K c s).2=(En K s (K.p.aD.drop s'.2.aK.toNat) s'.2).2)/\(K.p.aD.length-s'.2.aK).toNat<(K.p.aD.length-d.aK).toNat)\/(o.1≠0/\o=(1, .view Aa ((Ce K c s).1.map Ao)::Ad K (Ce K c s).2))) (some (1,x)):=fun hs _ hx=>by
    rw[if_pos hs]at g4 g5;subst hx;refine .some (.inr ⟨by simp,?_⟩);rw[g4,g5,List.append_nil]
   have go: ¬(m.at_>s\/(m.at_=s/\d.next<=d.aK/\Ct m.kind d=true))->Out (fun o:Nat×List AC=>(o.1=0/\∃s':List Int×Cv,o.2= .view Aa (s'.1.map Ao)::I s::Ad K s'.2/\(0<=s'.2.aK/\s'.2.aK<=K.p.aD.length/\(s'.1.length:Int)<=s'.2.aK/\(Ce K c s).1=s'.1++(En K s (K.p.aD.drop s'.2.aK.toNat) s'.2).1/\(Ce K c s).2=(En K s (K.p.aD.drop s'.2.aK.toNat) s'.2).2)/\(K.p.aD.length-s'.2.aK).toNat<(K.p.aD.length-d.aK).toNat)\/(o.1≠0/\o=(1, .view Aa ((Ce K c s).1.map Ao)::Ad K (Ce K c s).2))) (Oz K d (l.map Ao) MS s):=fun hs=>by
    rw[if_neg hs]at g4 g5;unfold Oz;rw[Ox g1 k,hmk,wp];refine .cond (fun q=> ?_) fun q=> ?_
    ·have q:m.kind=5:=eq_of_beq q;rw[if_pos q]at g4 g5;refine .cond (fun _=> ?_) fun e=>by rw[Cq (by simp;omega)]at e;cases e
     refine .cond (fun _=> ?_) fun e=>(inB (show 0<=gA (At m) 2 from hm.1) (show gA (At m) 2<((K.aA.map Ah).length:Int) by rw[List.length_map];exact hm.2.1) e).elim;rw[show nth [] (K.aA.map Ah) (gA (At m) 2).toNat=Ah (itK K m.item)from IN hm.1 hm.2.1];refine .bind (p:=fun o=>o=_) ⟨_,hS d.outs (itK K m.item),rfl⟩ fun o e=> ?_;subst e;refine .some (.inl ⟨rfl,(l++[m.item],{d with outs:=swI d.outs (itK K m.item),aK:=d.aK+1}),?_,⟨by dsimp only;omega,by dsimp only;omega,by simp;omega,?_,?_⟩,by dsimp only;omega⟩)
     ·rw[List.map_append];rfl
     ·dsimp only;rw[g4,np];simp
     ·dsimp only;rw[g5,np]
    ·have q:m.kind≠5:=by simpa [gA,nth,Af]using q
     rw[if_neg q]at g4 g5;refine .some (.inl ⟨rfl,(l,{d with aK:=d.aK+1}),rfl,⟨by dsimp only;omega,by dsimp only;omega,by dsimp only;omega,?_,?_⟩,by dsimp only;omega⟩)
     ·dsimp only;rw[g4,np]
     ·dsimp only;rw[g5,np]
   refine .cond (fun a=>stop (.inl (Br a)) rfl) fun a=> ?_;have a: ¬m.at_>s:=Bn a;refine .cond (fun b=> .cond (fun e=> ?_) fun e=>go fun w=> ?_) fun b=>go fun w=> ?_
   ·refine .bind (p:=fun o=>o=_) ⟨_,hA d _ _ _,rfl⟩ fun o q=> ?_;subst q;refine .cond (fun q=>stop (.inr ⟨eq_of_beq b,Br e,q⟩) rfl) fun q=>go fun w=> ?_;have q:Ct m.kind d=false:=q;rcases w with w|w
    ·exact a w
    ·rw[q]at w;cases w.2.2
   ·rcases w with w|w
    ·exact a w
    ·exact Bn e w.2.1
   ·rcases w with w|w
    ·exact a w
    ·have:(m.at_==s)=false:=b;rw[beT w.1]at this;cases this
  ·have k: ¬d.aK<((K.p.aD.map At).length:Int):=Bn k;rw[List.length_map]at k;rw[List.drop_of_length_le (by omega)]at g4 g5;refine .some (.inr ⟨by simp,?_⟩);rw[g4,g5];simp[En]
 obtain⟨o,h1,rfl⟩:=key;exact eB h1 rfl
theorem Ztc {K:Kf} {c:Cv} (h:KOK K) (hp:0<=c.aK/\c.aK<=K.p.aD.length) (s:Int):PB (I s::Ad K c)=some (.view Aa ((Ce K c s).1.map Ao)::Ad K (Ce K c s).2):=
 Zv1 h hp s (fun c at_ k it=>Qv0 at_ k it c) Zrv
end Go.Bm
noncomputable section
namespace Go.Bm
def Cx (K:Kf) (c:Cv):Int×Cv:=
 if c.g0=2 then(6,stand c)else if c.aI≠0 then(c.aI,c)
 else if c.aH=true/\c.aM=true then(8,{c with aI:=8})else if c.on=true then By K c else(0,c)
theorem Q49 (K:Kf) (c:Cv):(HJ K c).1≠0:=by
 unfold HJ
 (repeat' split)<;>simp
theorem Qr4 (K:Kf) (c:Cv):(By K c).1≠0:=Q49 K (CG c)
abbrev F6 (K:Kf) (frm i:Int) (c:Cv):List AC:=I frm::I 5::I i::(EP++(EP++Ad K c))
abbrev Vh (K:Kf) (frm mode:Int) (c:Cv):List AC:=I frm::(EP++([.view kPt [], .view Aa [],I mode,I 0,I 0,I 0,I 0,I 0,I 0]++Ad K c))
theorem Zj9 {N3:Lp} {ME MR MG' MB MP MO MU MS MN MX MT MV:Fn} {K:Kf} {c:Cv} (frm:Int)
  (hU:MU (Ad K c)=some (if c.g0=2 then I 6::B true::Ad K (stand c)else I 0::B false::Ad K c))
  (hO:MO (Ad K c)=some (I c.aI::B (c.aI !=0)::Ad K c))
  (hP:MP (Ad K c)=some (if c.aH=true/\c.aM=true then I 8::B true::Ad K {c with aI:=8}else I 0::B false::Ad K c))
  (hB:MB (Ad K c)=some (if c.on=true then I (By K c).1::B true::Ad K (By K c).2 else I 0::B false::Ad K c))
  (hG:MG' (Ad K c)=some (I 0::B false::Ad K c)):
  Am (IQ ME MR MG' MB MP MO MU MS MN MX MT MV N3) (F6 K frm 0 c)=some (1,Vh K frm (Cx K c).1 (Cx K c).2):=by
 have w:∀i:Int,0<=i->i<5->wrap .i64 (i+1)=i+1:=fun i _ _=>Ae (by omega);have e:=fun i=>Zb7 ME MR MG' MB MP MO MU MS MN MX MT MV N3 frm 5 i [] [] 0 0 0 0 0 0 0 [] [] 0 0 0 0 0 0 0 K c;have s0:c.g0≠2->IQ ME MR MG' MB MP MO MU MS MN MX MT MV N3 (F6 K frm 0 c)=some (0,F6 K frm 1 c):=fun h=>by
  refine Eq.trans (e 0) (eT rfl (eT rfl (eB hU ?_)));rw[if_neg h];rfl
 have s1:c.aI=0->IQ ME MR MG' MB MP MO MU MS MN MX MT MV N3 (F6 K frm 1 c)=some (0,F6 K frm 2 c):=fun h=>by
  refine Eq.trans (e 1) (eT rfl (eF rfl (eT rfl (eB hO ?_))));rw[h];rfl
 have s2: ¬(c.aH=true/\c.aM=true)->IQ ME MR MG' MB MP MO MU MS MN MX MT MV N3 (F6 K frm 2 c)=some (0,F6 K frm 3 c):=fun h=>by
  refine Eq.trans (e 2) (eT rfl (eF rfl (eF rfl (eT rfl (eB hP ?_)))));rw[if_neg h];rfl
 have s3:c.on=false->IQ ME MR MG' MB MP MO MU MS MN MX MT MV N3 (F6 K frm 3 c)=some (0,F6 K frm 4 c):=fun h=>by
  refine Eq.trans (e 3) (eT rfl (eF rfl (eF rfl (eF rfl (eT rfl (eB hB ?_))))));rw[if_neg (by rw[h];simp)];rfl
 have s4:IQ ME MR MG' MB MP MO MU MS MN MX MT MV N3 (F6 K frm 4 c)=some (0,F6 K frm 5 c):=by
  refine Eq.trans (e 4) (eT rfl (eF rfl (eF rfl (eF rfl (eF rfl (eT rfl (eB hG ?_)))))));rfl
 have s5:IQ ME MR MG' MB MP MO MU MS MN MX MT MV N3 (F6 K frm 5 c)=some (1,Vh K frm 0 c):=by
  exact Eq.trans (e 5) (eF rfl rfl)
 unfold Cx;by_cases h:c.g0=2
 ·rw[if_pos h];refine Bb (Eq.trans (e 0) (eT rfl (eT rfl (eB hU ?_)))) (by simp);rw[if_pos h];rfl
 rw[if_neg h,Bw (s0 h)];by_cases h:c.aI=0
 ·rw[if_neg (by simpa using h),Bw (s1 h)];by_cases h:c.aH=true/\c.aM=true
  ·rw[if_pos h];refine Bb (Eq.trans (e 2) (eT rfl (eF rfl (eF rfl (eT rfl (eB hP ?_)))))) (by simp);rw[if_pos h];rfl
  ·rw[if_neg h,Bw (s2 h)];cases h:c.on
   ·rw[if_neg (by simp),Bw (s3 h),Bw s4];exact Bb s5 (by simp)
   ·rw[if_pos rfl];refine Bb (Eq.trans (e 3) (eT rfl (eF rfl (eF rfl (eF rfl (eT rfl (eB hB ?_))))))) (by simp);rw[if_pos h];generalize By K c=wk;rfl
 ·rw[if_pos h];refine Bb (Eq.trans (e 1) (eT rfl (eF rfl (eT rfl (eB hO ?_))))) (by simp);rw[bnT h];rfl
theorem Zme {K:Kf} {c:Cv} {n:Int} (h:KOK K) (g:Gd K n c):KP (Ad K c)=some (if c.on=true then I (By K c).1::B true::Ad K (By K c).2 else I 0::B false::Ad K c):=by
 have key:∀{M:Fn},(c.on=true->M (Ad K c)=some (I (By K c).1::Ad K (By K c).2))->XH M (Ad K c)=some (if c.on=true then I (By K c).1::B true::Ad K (By K c).2 else I 0::B false::Ad K c):=by
  intro M hM;rw[Zt8];cases e:c.on
  ·rw[if_neg (by simp)];rfl
  ·rw[if_pos rfl];have hM:=hM e;generalize By K c=wk at*;exact eB hM rfl
 exact key fun e=>Qpy h (g.task e).1 (g.task e).2
abbrev Id (c:Cv):Cv:={c with aJ:=false,aL:=false}
def BG (c:Cv) (E:List Evn):Cv:=E.foldl (fun c e=>evC c e.kind e.n) (Id c)
def NE (E:List Evn):Prop:=E.length<=1000000/\∀e∈E,e.kind≠7/\e.kind≠12/\e.kind≠13
theorem Zek {ME MR MG' MB MP MO MU MS MN MX MT MV:Fn} {K:Kf} {c:Cv} {E:List Evn} (hE:NE E)
  (hV:∀(c:Cv) (x:Int) {k:Int} (n:Int),k≠7/\k≠12/\k≠13->MV (I x::I k::I n::Ad K c)=some (Ad K (evC c k n))):
  Am (S_ ME MR MG' MB MP MO MU MS MN MX MT MV) (.view kPt (E.map evR)::I (E.map evR).length::I 0::(EP++Ad K (Id c)))=some (1,EP++Ad K (BG c E)):=by
 have key:Out (fun o=>o=(1,EP++Ad K (BG c E))) (Am (S_ ME MR MG' MB MP MO MU MS MN MX MT MV) (.view kPt (E.map evR)::I (E.map evR).length::I ((0:Nat):Int)::(EP++Ad K (BG c (E.take 0))))):=by
  refine CT (fun i:Nat=> .view kPt (E.map evR)::I (E.map evR).length::I (i:Int)::(EP++Ad K (BG c (E.take i)))) (fun i=>i<=E.length) (fun i=>E.length-i) _ ?_ 0 (by simp);intro i hi;have hl:=hE.1;refine Out.eqv (Q82 ME MR MG' MB MP MO MU MS MN MX MT MV (E.map evR) (E.map evR).length i [] [] 0 0 0 0 0 0 0 K (BG c (E.take i))) ?_;refine .cond (fun k=> ?_) fun k=> ?_
  ·have k:(i:Int)<((E.map evR).length:Int):=Br k;have hi:i<E.length:=by rw[List.length_map]at k;omega
   refine .cond (fun _=> ?_) fun e=>(inB (by omega) k e).elim;rw[Ue E hi];refine .bind (p:=fun o=>o=_) ⟨_,hV (BG c (E.take i)) E[i].cycle E[i].n (hE.2 _ (List.getElem_mem hi)),rfl⟩ fun o e=> ?_;subst e;have e1:BG c (E.take (i+1))=evC (BG c (E.take i)) E[i].kind E[i].n:=by
    unfold BG;rw[List.take_add_one,List.getElem?_eq_getElem hi,List.foldl_append];rfl
   rw[Ae (x:=(i:Int)+1) (by omega)];refine .some (.inl ⟨rfl,i+1,?_,by omega,by omega⟩);rw[e1];have st:∀d:Cv,EP++cR 0 (Ad K d)=EP++Ad K d:=fun _=>rfl;exact congrArg (fun z=>AC.view kPt (E.map evR)::I (E.map evR).length::I ((i:Int)+1)::z) (st (evC (BG c (E.take i)) E[i].kind E[i].n))
  ·have k: ¬(i:Int)<((E.map evR).length:Int):=Bn k;rw[List.length_map]at k;rw[List.take_of_length_le (by omega)];generalize BG c E=d;exact .some (.inr ⟨by simp,rfl⟩)
 obtain⟨o,h1,rfl⟩:=key;exact h1
def OZ (K:Kf) (frm u:Int):Rw:=wA ((KA (pxt K.p K.x K.t [I frm,I u])).getD []) 0
theorem Zi7 {K:Kf} (h:KOK K) (frm u:Int) (hd:u-frm<=1000000000000):Out (fun o=>wA o 0=OZ K frm u) (KA (pxt K.p K.x K.t [I frm,I u])):=
 ⟨_,Xz (Zze h.f frm u hd),rfl⟩
abbrev SV (K:Kf) (c:Cv):Pt:=J6 K.p K.x K.t (A6 c)
theorem Ze3 {MM MP MB MO MU:Fn} {K:Kf} {c:Cv} (hw:c.way=0) (hc:c.aL=false) {frm mode:Int}
  (hU:MU (Ad K c)=some [I (A6 c)]) (hO:MO (Ad K c)=some [I (Av K c)]) (hB:Out (fun o=>wA o 0=OZ K frm (A6 c)) (MB (pxt K.p K.x K.t [I frm,I (A6 c)])))
  (hP:∀s,MP (I s::Ad K c)=some (.view Aa ((Ce K c s).1.map Ao)::Ad K (Ce K c s).2)) (hQ:∀s,∃n q:Int,(Ce K c s).2={c with aK:=n,outs:=q}) (hM:∀u,MM (pxt K.p K.x K.t [I u])=some (ptR (J6 K.p K.x K.t u))):
  Qa9 MM MP MB MO MU (I frm::(Ad K c++[.view kPt [], .view Aa [],I mode,I 0,I 0,I 0,I 0,I 0,I 0]))=
   some (Ad K (Ce K c (Av K c)).2++NT (OZ K frm (A6 c)) ((Ce K c (Av K c)).1.map Ao) mode (Av K c) (SV K c) c.s3 c.g1):=by
 refine Eq.trans (Zbi MM MP MB MO MU frm [] [] mode 0 0 0 0 0 0 K c) ?_;obtain⟨o,hB,ho⟩:=hB;rw[<-ho];refine eB hU (eB hO (eT (show(!c.aL)=true by rw[hc];rfl) (eB hB (eT (show(c.way==0)=true from beT hw) ?_))));have hP:=hP (Av K c);obtain⟨n,q,hq⟩:=hQ (Av K c);generalize Ce K c (Av K c)=ps at*;refine eB hP ?_;rw[hq];refine eB (hM (A6 c)) ?_;rw[show SV K c=J6 K.p K.x K.t (A6 c)from rfl];generalize J6 K.p K.x K.t (A6 c)=mt;rfl
theorem UX (K:Kf) (s:Int):∀(l:List Mrk) (c:Cv),∃n q:Int,(En K s l c).2={c with aK:=n,outs:=q}
 |[],c=>⟨c.aK,c.outs,rfl⟩
 |m::l,c=>by
  unfold En;split
  ·exact⟨c.aK,c.outs,rfl⟩
  ·split
   ·obtain⟨n,q,h⟩:=UX K s l {c with outs:=swI c.outs (itK K m.item),aK:=c.aK+1};exact⟨n,q,h⟩
   ·obtain⟨n,q,h⟩:=UX K s l {c with aK:=c.aK+1};exact⟨n,q,h⟩
theorem Qq (K:Kf) (c:Cv) (s:Int):∃n q:Int,(Ce K c s).2={c with aK:=n,outs:=q}:=UX K s _ c
theorem Zr3 {K:Kf} {c:Cv} {n:Int} (h:KOK K) (g:Gd K n c) (hn:0<=n/\n<=10010) (hc:c.aL=false) {frm mode:Int} (hf: -300000000000<=frm/\frm<=300000000000):
  KQ (I frm::(Ad K c++[.view kPt [], .view Aa [],I mode,I 0,I 0,I 0,I 0,I 0,I 0]))=
   some (Ad K (Ce K c (Av K c)).2++NT (OZ K frm (A6 c)) ((Ce K c (Av K c)).1.map Ao) mode (Av K c) (SV K c) c.s3 c.g1):=
 Ze3 g.way hc (T1 K c) (SX h c) (Zi7 h frm (A6 c) (by have:=Qu1 g hn;omega)) (fun s=>Ztc h g.pass s) (Qq K c) (T_ h.f)
def CX (c:Cv):Cv:=if c.aH=true\/c.g0≠0 then{c with o2:=true}else c
def BL (c:Cv):Cv:={c with before:=c.s3}
def C6 (K:Kf) (c:Cv):Cv:=if I5 K c=true then c else spS c K.ramp
def IR (c:Cv):Cv:={c with aM:=E1 c}
def Ba (K:Kf) (c:Cv) (E:List Evn):Cv:=IR (C6 K (BL (CX (BG c E))))
def stC (K:Kf) (c:Cv) (E:List Evn):Int×Cv:=if(Cx K (Ba K c E)).1=0 then Cs K (Cx K (Ba K c E)).2 else Cx K (Ba K c E)
def D8 (K:Kf) (c:Cv) (E:List Evn):Cv:=(Ce K (stC K c E).2 (Av K (stC K c E).2)).2
def Zdx (K:Kf) (c:Cv) (E:List Evn):List Int:=(Ce K (stC K c E).2 (Av K (stC K c E).2)).1
def tkC (K:Kf) (c:Cv) (E:List Evn):List AC:=
 NT (OZ K (A6 (BG c E)) (A6 (stC K c E).2)) ((Zdx K c E).map Ao) (stC K c E).1 (Av K (stC K c E).2) (SV K (stC K c E).2) (stC K c E).2.s3 (stC K c E).2.g1
theorem Zsb {N16:Lp} {MR ME:Fn} {K:Kf} {d:Cv} {frm:Int} {o:Nat×List AC} (ho:∃e,o.2=EP++Ad K e)
  (h16:N16 (F6 K frm 0 d)=some (1,Vh K frm (Cx K d).1 (Cx K d).2))
  (hR:(Cx K d).1=0->MR (Ad K (Cx K d).2)=some (I (Cs K (Cx K d).2).1::Ad K (Cs K (Cx K d).2).2))
  {s:Int×Cv} (hs:s=if(Cx K d).1=0 then Cs K (Cx K d).2 else Cx K d)
  {pul outs:Rw} {pos sp ft:Int} {mt:Pt} {q:Cv}
  (hE:ME (I frm::(Ad K s.2++[.view kPt [], .view Aa [],I s.1,I 0,I 0,I 0,I 0,I 0,I 0]))=some (Ad K q++NT pul outs s.1 pos mt sp ft)):
  IH N16 o MR ME (I frm) (Ad K d)=some (NT pul outs s.1 pos mt sp ft++Ad K q):=by
 obtain⟨o1,o2⟩:=o;obtain⟨e,ho⟩:=ho;dsimp only at ho;subst ho;refine eB h16 (eT rfl ?_);generalize Cx K d=r at*;generalize Cs K r.2=w at*;by_cases h:r.1=0
 ·rw[if_pos h]at hs;subst hs;refine eT (show(r.1==0)=true from beT h) (eB (hR h) (eB hE rfl))
 ·rw[if_neg h]at hs;subst hs;exact eF (show(s.1==0)=false from beF h) (eB hE rfl)
end Go.Bm
noncomputable section
namespace Go.Bm
theorem Zum {ME MR MG' MB MP MO MU MS MN MX MT MV:Fn} {N3 N16:Lp} {K:Kf} {c:Cv} {E:List Evn}
  (h3:N3 (.view kPt (E.map evR)::I (E.map evR).length::I 0::(EP++Ad K (Id c)))=some (1,EP++Ad K (BG c E)))
  (hT:∀c,MT (Ad K c)=some [B (I5 K c)]) (hX:∀(c:Cv) (ramp:Int),MX [I c.s0,I c.s1,I c.s2,I c.s3,I ramp]=some [I (spS c ramp).s0,I (spS c ramp).s1,I (spS c ramp).s2,I (spS c ramp).s3])
  (hN:∀c,MN (Ad K c)=some [I (A6 c)]) (hS:∀c:Cv,MS [I c.m0,I c.m1,I c.m2,I c.m3,I c.m4,I c.m5]=some [B (E1 c)])
  (h1:∀o:Nat×List AC,(∃e,o.2=EP++Ad K e)->IH N16 o MR ME (I (A6 (BG c E))) (Ad K (Ba K c E))=some (tkC K c E++Ad K (D8 K c E))):
  Qje ME MR MG' MB MP MO MU MS MN MX MT MV N3 N16 (.view kPt (E.map evR)::Ad K c)=some (tkC K c E++Ad K (D8 K c E)):=by
 refine Eq.trans (Zzx ME MR MG' MB MP MO MU MS MN MX MT MV N3 N16 (E.map evR) K c) ?_;refine eB h3 (eT rfl ?_);unfold Ba at h1;generalize tkC K c E=tk at*;generalize D8 K c E=sc at*;generalize BG c E=d at*
 have rest:∀b:Cv,CX d=b->A6 b=A6 d->E1 b=E1 d->
   ((MT (Ad K (BL b))).bind fun o => bif !bA o 0 then (MX [I b.s0, I b.s1, I b.s2, I b.s3, I K.ramp]).bind fun o2 => (MN (Ad K { BL b with s0 := gA o2 0, s1 := gA o2 1, s2 := gA o2 2, s3 := gA o2 3 })).bind fun o3 => (MS [I d.m0, I d.m1, I d.m2, I d.m3, I d.m4, I d.m5]).bind fun o4 => IH N16 (1, EP ++ Ad K d) MR ME (jA o3 0) (Ad K { BL b with s0 := gA o2 0, s1 := gA o2 1, s2 := gA o2 2, s3 := gA o2 3, aM := bA o4 0 })
    else(MN (Ad K (BL b))).bind fun o3=>(MS [I d.m0,I d.m1,I d.m2,I d.m3,I d.m4,I d.m5]).bind fun o4=>IH N16 (1,EP++Ad K d) MR ME (jA o3 0) (Ad K {BL b with aM:=bA o4 0}))=some (tk++Ad K sc):=fun b hb hu hs=>by
  have h1:=h1 (1,EP++Ad K d) ⟨d,rfl⟩;rw[hb]at h1;refine eB (hT (BL b)) ?_;cases ht:I5 K (BL b)
  ·have e1:C6 K (BL b)=spS (BL b) K.ramp:=by unfold C6;rw[if_neg (by rw[ht];simp)]
   rw[e1]at h1;refine eT rfl (eB (hX b K.ramp) ?_);refine Eq.trans (congrArg (fun z=>Option.bind z _) (hN (spS (BL b) K.ramp))) (eB rfl (eB (hS d) ?_));have e2:A6 (spS (BL b) K.ramp)=A6 d:=hu;have e3:({spS (BL b) K.ramp with aM:=E1 d}:Cv)=IR (spS (BL b) K.ramp):=by
    unfold IR;rw[show E1 (spS (BL b) K.ramp)=E1 b from rfl,hs]
   rw[<-e3,<-e2]at h1;exact h1
  ·have e1:C6 K (BL b)=BL b:=by unfold C6;rw[if_pos ht]
   rw[e1]at h1;refine eF rfl ?_;refine Eq.trans (congrArg (fun z=>Option.bind z _) (hN (BL b))) (eB rfl (eB (hS d) ?_));have e2:A6 (BL b)=A6 d:=hu;have e3:({BL b with aM:=E1 d}:Cv)=IR (BL b):=by
    unfold IR;rw[show E1 (BL b)=E1 b from rfl,hs]
   rw[<-e3,<-e2]at h1;exact h1
 refine eC (fun t=> ?_) fun t=>eC (fun q=> ?_) fun q=> ?_
 ·have t:d.aH=true:=t;exact rest {d with o2:=true} (by unfold CX;rw[if_pos (.inl t)]) rfl rfl
 ·have q:d.g0≠0:=fun e=>by
   have:(d.g0 !=0)=true:=q;rw[bnF e]at this;cases this
  exact rest {d with o2:=true} (by unfold CX;rw[if_pos (.inr q)]) rfl rfl
 ·have t:d.aH=false:=t;have q:d.g0=0:=Decidable.byContradiction fun e=>by
   have:(d.g0 !=0)=false:=q;rw[bnT e]at this;cases this
  exact rest d (by unfold CX;rw[if_neg (fun w=>by rcases w with w|w;rw[t]at w;cases w;exact w q)]) rfl rfl
structure Kp (c d : Cv) : Prop where
 way:d.way=c.way
 aL:d.aL=c.aL
 aK:d.aK=c.aK
 outs:d.outs=c.outs
theorem Kp.rfl {c:Cv}:Kp c c:=⟨Eq.refl _,Eq.refl _,Eq.refl _,Eq.refl _⟩
theorem Kp.trans {a b c:Cv} (h:Kp a b) (g:Kp b c):Kp a c:=⟨g.way.trans h.way,g.aL.trans h.aL,g.aK.trans h.aK,g.outs.trans h.outs⟩
structure Sm (c d : Cv) : Prop where
 kp:Kp c d
 m0:d.m0=c.m0
 m1:d.m1=c.m1
 m2:d.m2=c.m2
 m3:d.m3=c.m3
 m4:d.m4=c.m4
 on:d.on=c.on
 idx:d.idx=c.idx
 aI:d.aI=c.aI
 aH:d.aH=c.aH
 next:d.next=c.next
theorem Sm.trans {a b c:Cv} (h:Sm a b) (g:Sm b c):Sm a c:=
 ⟨h.kp.trans g.kp,g.m0.trans h.m0,g.m1.trans h.m1,g.m2.trans h.m2,g.m3.trans h.m3,g.m4.trans h.m4,g.on.trans h.on,g.idx.trans h.idx,g.aI.trans h.aI,g.aH.trans h.aH,g.next.trans h.next⟩
theorem Sm.rfl {c:Cv}:Sm c c:=⟨Kp.rfl,Eq.refl _,Eq.refl _,Eq.refl _,Eq.refl _,Eq.refl _,Eq.refl _,Eq.refl _,Eq.refl _,Eq.refl _,Eq.refl _⟩
theorem Gd.sm {K:Kf} {n:Int} {c d:Cv} (g:Gd K n c) (h:Sm c d):Gd K n d:=g.same h.kp.way h.kp.aK h.on h.idx h.m0 h.m1 h.m2
theorem Zr5 (c:Cv) (k n:Int):Sm c (evC c k n):=⟨⟨Eq.refl _,Eq.refl _,Eq.refl _,Eq.refl _⟩,Eq.refl _,Eq.refl _,Eq.refl _,Eq.refl _,Eq.refl _,Eq.refl _,Eq.refl _,Eq.refl _,Eq.refl _,Eq.refl _⟩
theorem Q6r:∀(E:List Evn) (c:Cv),Sm c (E.foldl (fun c e=>evC c e.kind e.n) c)
 |[],_=>Sm.rfl
 |e::E,c=>(Zr5 c e.kind e.n).trans (Q6r E _)
theorem Qzh (c:Cv) (E:List Evn):Sm (Id c) (BG c E):=Q6r E _
theorem Zkb (c:Cv):Sm c (CX c):=by
 unfold CX;split
 ·exact⟨⟨rfl,rfl,rfl,rfl⟩,rfl,rfl,rfl,rfl,rfl,rfl,rfl,rfl,rfl,rfl⟩
 ·exact Sm.rfl
theorem Zj5 (K:Kf) (c:Cv):Sm c (C6 K c):=by
 unfold C6;split
 ·exact Sm.rfl
 ·exact⟨⟨rfl,rfl,rfl,rfl⟩,rfl,rfl,rfl,rfl,rfl,rfl,rfl,rfl,rfl,rfl⟩
theorem XT (K:Kf) (c:Cv) (E:List Evn):Sm (Id c) (Ba K c E):=
 (Qzh c E).trans ((Zkb _).trans (Sm.trans (b:=BL (CX (BG c E))) ⟨⟨rfl,rfl,rfl,rfl⟩,rfl,rfl,rfl,rfl,rfl,rfl,rfl,rfl,rfl,rfl⟩ ((Zj5 K _).trans ⟨⟨rfl,rfl,rfl,rfl⟩,rfl,rfl,rfl,rfl,rfl,rfl,rfl,rfl,rfl,rfl⟩)))
theorem Gd.clear {K:Kf} {n:Int} {c:Cv} (g:Gd K n c):Gd K n (Id c):=⟨g.way,g.pass,g.task,g.mo,g.m0⟩
theorem RS {K:Kf} {n:Int} {c:Cv} (g:Gd K n c) (E:List Evn):Gd K n (Ba K c E):=g.clear.sm (XT K c E)
theorem Zrh {K:Kf} {n:Int} {c:Cv} (g:Gd K n c):Gd K n (HJ K c).2/\Kp c (HJ K c).2:=by
 have done:∀d:Cv,Gd K n d->Kp c d->Gd K n (HA d)/\Kp c (HA d):=fun d g k=>⟨⟨g.way,g.pass,fun h=>(by cases h),g.mo,g.m0⟩,k.trans ⟨rfl,rfl,rfl,rfl⟩⟩;have cmd:∀n' sp:Int,Gd K n (JX c n' sp)/\Kp c (JX c n' sp):=fun n' sp=>⟨⟨g.way,g.pass,g.task,g.mo,g.m0⟩,⟨rfl,rfl,rfl,rfl⟩⟩;unfold HJ;split
 ·split
  ·exact done c g Kp.rfl
  ·exact⟨g,Kp.rfl⟩
 ·split
  ·exact done c g Kp.rfl
  ·split
   ·split
    ·exact⟨g,Kp.rfl⟩
    ·exact done c g Kp.rfl
   ·split
    ·split
     ·exact done _ (cmd _ _).1 (cmd _ _).2
     ·exact cmd _ _
    ·split
     ·exact⟨⟨g.way,g.pass,g.task,g.mo,g.m0⟩,⟨rfl,rfl,rfl,rfl⟩⟩
     ·exact done c g Kp.rfl
theorem Qqv {K:Kf} {n:Int} {c:Cv} (g:Gd K n c):Gd K n (By K c).2/\Kp c (By K c).2:=by
 have h:=Zrh (K:=K) (c:=CG c) ⟨g.way,g.pass,g.task,g.mo,g.m0⟩;exact⟨h.1,h.2.way,h.2.aL,h.2.aK,h.2.outs⟩
theorem Zch {K:Kf} {n:Int} {c:Cv} (g:Gd K n c) {i:Int} (h0:0<=i) (h1:i<K.p.aD.length):Gd K n (Dr K c i).2/\Kp c (Dr K c i).2:=by
 have h:=Qqv (K:=K) (c:={c with on:=true,idx:=i,aN:=E4 K c i,cnt:=0}) ⟨g.way,g.pass,fun _=>⟨h0,h1⟩,g.mo,g.m0⟩;exact⟨h.1,⟨h.2.way,h.2.aL,h.2.aK,h.2.outs⟩⟩
theorem Mm {K:Kf} {n:Int} {c:Cv} (g:Gd K n c):Gd K n (Cn c)/\Kp c (Cn c):=by
 unfold Cn;split
 ·exact⟨⟨g.way,g.pass,g.task,g.mo,g.m0⟩,⟨rfl,rfl,rfl,rfl⟩⟩
 ·exact⟨g,Kp.rfl⟩
theorem Zk8 (K:Kf) (c:Cv) (l:Int):Kp c (C8 K c l):=⟨rfl,rfl,rfl,rfl⟩
theorem Gd.e0 {K:Kf} {n:Int} {c:Cv} (g:Gd K n c) (x:Int):Gd K n {c with e0:=x}:=⟨g.way,g.pass,g.task,g.mo,g.m0⟩
theorem Gd.s3 {K:Kf} {n:Int} {c:Cv} (g:Gd K n c) (x:Int):Gd K n {c with s3:=x}:=⟨g.way,g.pass,g.task,g.mo,g.m0⟩
theorem Qwj {K:Kf} {n:Int} {c:Cv} (h:KOK K) (g:Gd K n c) (hn:0<=n/\n<=10000) (l:Int) {s:Sgm} (hs:i64 s.lead):Gd K (n+1) (DZ K c l s)/\Kp c (DZ K c l s):=by
 have gp:=Q4i h g hn l;unfold DZ;split
 ·exact⟨gp.s3 _,⟨rfl,rfl,rfl,rfl⟩⟩
 ·obtain⟨-,v,s',b,z,y,e,h2,h3⟩:=Qe0 h g l hs;have gm:Gd K (n+1) (G_ c (thO K c l s.lead)):=by
   have e1:gA (thO K c l s.lead) 1=v:=by rw[h2];rfl
   have:=g.move h hn h3;unfold G_ Tb;rw[e1];generalize thO K c l s.lead=o;exact this.same rfl rfl rfl rfl rfl rfl rfl
  unfold Hf;split
  ·exact⟨gp.e0 3,⟨rfl,rfl,rfl,rfl⟩⟩
  ·split
   ·exact⟨(Mm gm).1,Kp.trans (b:=G_ c (thO K c l s.lead)) ⟨rfl,rfl,rfl,rfl⟩ (Mm gm).2⟩
   ·exact⟨gm,⟨rfl,rfl,rfl,rfl⟩⟩
theorem Q2f {K:Kf} {n:Int} {c:Cv} (h:KOK K) (g:Gd K n c) (hn:0<=n/\n<=10000) (l:Int):Gd K (n+1) (AV K c l)/\Kp c (AV K c l):=by
 unfold AV;split
 ·exact⟨Q4i h g hn l,Zk8 K c l⟩
 ·rename_i hx;have hl:(sgK K c).lead≠0:=fun e=>hx (.inl e);split
  ·exact Qwj h g hn l (Gf h hl).2.2
  ·split
   ·have:=Qwj h (g.go (sgK K c)) hn l (Gf h hl).2.2;exact⟨this.1,Kp.trans (b:=goC K c (sgK K c)) ⟨rfl,rfl,rfl,rfl⟩ this.2⟩
   ·split
    ·exact⟨(Mm (g.up hn.1)).1,(Mm g).2⟩
    ·exact⟨g.up hn.1,Kp.rfl⟩
theorem Zth {K:Kf} {n:Int} {c:Cv} (h:KOK K) (g:Gd K n c) (hn:0<=n/\n<=10000):Gd K (n+1) (Cs K c).2/\Kp c (Cs K c).2:=by
 have hi:=Qpp K c;unfold Cs;split
 ·split
  ·rename_i k;have k2:(AS K c).2<K.p.aD.length:=by
    rcases hi with hi|hi
    ·omega
    ·exact hi.2.2
   have gb:=Zch (g.up hn.1) k k2;split
   ·exact⟨(Mm gb.1).1,gb.2.trans (Mm gb.1).2⟩
   ·exact gb
  ·split
   ·exact⟨⟨g.way,g.pass,g.task,(g.up hn.1).mo,(g.up hn.1).m0⟩,⟨rfl,rfl,rfl,rfl⟩⟩
   ·exact⟨g.up hn.1,Kp.rfl⟩
 ·exact Q2f h g hn _
theorem Qtb {K:Kf} {n:Int} {c:Cv} (h:KOK K) (g:Gd K n c) (hn:0<=n/\n<=10000):Gd K n (Cx K c).2/\Kp c (Cx K c).2:=by
 unfold Cx;split
 ·exact⟨(g.stand h hn).1,⟨rfl,rfl,rfl,rfl⟩⟩
 ·split
  ·exact⟨g,Kp.rfl⟩
  ·split
   ·exact⟨⟨g.way,g.pass,g.task,g.mo,g.m0⟩,⟨rfl,rfl,rfl,rfl⟩⟩
   ·split
    ·exact Qqv g
    ·exact⟨g,Kp.rfl⟩
theorem Qy3 {K:Kf} {n:Int} {c:Cv} (h:KOK K) (g:Gd K n c) (hn:0<=n/\n<=10000) (E:List Evn):Gd K (n+1) (stC K c E).2/\Kp (Id c) (stC K c E).2:=by
 have gr:=Qtb h (RS g E) hn;have kp:=(XT K c E).kp.trans gr.2;unfold stC;split
 ·have:=Zth h gr.1 hn;exact⟨this.1,kp.trans this.2⟩
 ·exact⟨gr.1.up hn.1,kp⟩
theorem Qf3 (K:Kf) (s:Int):∀(l:List Mrk) (c:Cv),c.aK<=(En K s l c).2.aK/\(En K s l c).2.aK<=c.aK+l.length
 |[],c=>by simp[En]
 |m::l,c=>by
  unfold En;split
  ·simp only[List.length_cons];omega
  ·split
   ·have:=Qf3 K s l {c with outs:=swI c.outs (itK K m.item),aK:=c.aK+1};simp only[List.length_cons]at this⊢;omega
   ·have:=Qf3 K s l {c with aK:=c.aK+1};simp only[List.length_cons]at this⊢;omega
theorem Q2b {K:Kf} {n:Int} {c:Cv} (h:KOK K) (g:Gd K n c) (hn:0<=n/\n<=10000) (E:List Evn):Gd K (n+1) (D8 K c E):=by
 have gs:=(Qy3 h g hn E).1;unfold D8;generalize(stC K c E).2=d at*;obtain⟨n',q,e⟩:=Qq K d (Av K d);have hb:=Qf3 K (Av K d) (K.p.aD.drop d.aK.toNat) d;rw[List.length_drop]at hb;have hb:d.aK<=(Ce K d (Av K d)).2.aK/\(Ce K d (Av K d)).2.aK<=d.aK+((K.p.aD.length-d.aK.toNat:Nat):Int):=hb;rw[e]at hb⊢;have hp:=gs.pass;exact⟨gs.way,by dsimp only at hb⊢;omega,gs.task,gs.mo,gs.m0⟩
theorem PL {K:Kf} {c:Cv} {n:Int} (h:KOK K) (g:Gd K n c) (hn:0<=n/\n<=10000) {E:List Evn} (hE:NE E):
  Ik (.view kPt (E.map evR)::Ad K c)=some (tkC K c E++Ad K (D8 K c E)):=by
 have gp:=RS g E;have gr:=Qtb h gp hn;have gs:=Qy3 h g hn E;have hf: -300000000000<=A6 (BG c E)/\A6 (BG c E)<=300000000000:=Qu1 (g.clear.sm (Qzh c E)) (by omega);refine Zum (Zek hE Zz7) (Zio h) Q70 (T1 K) Zbb fun o ho=> ?_;refine Zsb (s:=stC K c E) ho (Zj9 _ (Zki K _) (Zgs K _) (Zcx K _) (Zme h gp) (Zu3 gp.way)) (fun _=>Zfv h gr.1 hn) rfl ?_;exact Zr3 h gs.1 (by omega) gs.2.aL hf
end Go.Bm
noncomputable section
namespace Go.Bm
theorem Zeg (a b c:Int) {d:Int} (h:d<=0):G4 [I a,I b,I c,I d]=some [I 0]:=by
 show QY _=_;rw[Qiu,Bu (decide_eq_true h)]
theorem Q84 {a b c:Int} (h:Plan3 a b c):Gm [I a,I b,I c,I 0,I 0]=some [B true]:=by
 have key:∀{M:Fn},(∀d:Int,d<=0->M [I a,I b,I c,I d]=some [I 0])->Qr M [I a,I b,I c,I 0,I 0]=some [B true]:=by
  intro M hM;have ha:=h.a;have hb:=h.b
  rw[YD,Ae (x:=0-a) (by omega)];refine eF (decide_eq_false (by omega)) (eF (decide_eq_false (by omega)) (eT rfl (eF (decide_eq_false (by omega)) ?_)));refine eB (hM _ (by decide)) (eT rfl (eB (hM 0 (by omega)) ?_));rfl
 exact key fun d hd=>Zeg a b c hd
theorem Q72 {a b c:Int} (h:Plan3 a b c):Kl [I a,I b,I c,I 0,I 0]=some [.view Aa [],B true]:=by
 have key:∀{MB MR MV:Fn},MV [I a,I b,I c]=some [B true]->MR [I a,I b,I c,I 0,I 0]=some [B true]->Pa MB MR MV (Am (H2 MB MR MV)) [I a,I b,I c,I 0,I 0]=some [.view Aa [],B true]:=by
  intro MB MR MV h1 h2;rw[Qbv];refine eB h1 (eF rfl (eB h2 (eF rfl ?_)));have hs:H2 MB MR MV [.view Aa [],I 0,I 0,I a,I b,I c]=some (2,[.view Aa []]):=by
   rw[PY];rfl
  exact eB (Bb hs (by simp)) rfl
 refine key ?_ (Q84 h);rw[PO,decide_eq_true];exact⟨h.a.1,h.a.2,h.b.1,h.b.2,h.c.1,h.c.2⟩
theorem Zlw {a b c:Int} (h:Plan3 a b c) (x3 x6 x7 x8:Int):EE [I a,I b,I c,I x3,I 0,I 0,I x6,I x7,I x8]=some [.view Aa [],B true]:=by
 have key:∀{M:Fn},M [I a,I b,I c,I 0,I 0]=some [.view Aa [],B true]->Om M (Am (Hm M)) [I a,I b,I c,I x3,I 0,I 0,I x6,I x7,I x8]=some [.view Aa [],B true]:=by
  intro M h1;rw[Tw];have hs:Hm M [.view Aa [],I x3, .view Aa [],I 0,I 0]=some (1,[.view Aa []]):=by
   rw[Qfn];rfl
  exact eB h1 (eF rfl (eT rfl (eT rfl (eB (Bb hs (by simp)) rfl))))
 exact key (Q72 h)
theorem Zr9 {K:Kf} (h:Plan3 K.pa K.pb K.pc) {c:Cv} (h1:c.m1=0) (h2:c.m2=0):Nd K c=c.m0:=by
 have key:∀{M:Fn},M [I K.pa,I K.pb,I K.pc,I c.m0,I 0,I 0,I c.m3,I c.m4,I c.m5]=some [.view Aa [],B true]->Kr M [I K.pa,I K.pb,I K.pc,I c.m0,I 0,I 0,I c.m3,I c.m4,I c.m5]=some [I c.m0,B true]:=by
  intro M hM;rw[TM];exact eB hM (eF rfl (eT rfl rfl))
 have e:FB [I K.pa,I K.pb,I K.pc,I c.m0,I 0,I 0,I c.m3,I c.m4,I c.m5]=some [I c.m0,B true]:=key (Zlw h _ _ _ _);unfold Nd one;rw[h1,h2,e];rfl
abbrev Ty:Axs:=⟨8,10,10,10,-16777216,16777216,0,0,0,[]⟩
theorem Yb:AxOK Ty:=⟨by decide,by decide,by decide,fun h=>absurd rfl h,⟨fun x h=>(by cases h),fun i h=>(by simp at h)⟩,by decide,by decide⟩
abbrev LC:Ax3:=⟨Ty,Ty,Ty⟩
theorem machX:MachOK LC 9 3 100 1 0:=⟨⟨Yb,Yb,Yb⟩,⟨by decide,by decide,by decide⟩,by decide,by decide⟩
abbrev B3:Itm:=⟨12,0,⟨0,0,0⟩,⟨0,0,0⟩,0,⟨0,0,0⟩,0,false,0,false,0,0,0,0,0,false⟩
theorem Qo9:Items 4084 ⟨0,0,0⟩ []:=⟨trivial,fun it h=>by cases h⟩
theorem Zvp:Items 4084 ⟨0,0,0⟩ [B3]:=by
 have h:=Zqh Qo9 (it:=B3) (fun h=>by unfold AG at h;simp at h) (.inr ⟨by decide,fun h=>by simp at h,fun h=>by simp at h,fun h=>by simp at h⟩);exact h
abbrev kX (l:List Itm):Kf:=kfP LC 9 3 100 1 0 l true
theorem Qe7 {l:List Itm} (h:(AR l).aF=[]) (c:Cv):I5 (kX l) c=false:=by
 unfold I5 E9;rw[h];rfl
theorem gd0 (l:List Itm):Gd (kX l) 0 BY:=⟨rfl,⟨by decide,by simp⟩,fun h=>(by cases h),RH machX.plan,by decide⟩
theorem Qln:AR []=⟨⟨0,0,0⟩,[],[]⟩:=rfl
theorem RF:AR [B3]=⟨⟨0,0,0⟩,[],[⟨0,3,0⟩]⟩:=by
 have e:Aq [B3] 1=⟨[],[⟨0,3,0⟩],0,0,-1,false,⟨0,0,0⟩,⟨0,0,0⟩⟩:=by
  rw[Aq,Aq];unfold Cw;rw[if_neg (by decide)];rfl
 show Pth.mk (Aq [B3] 1).start (Aq [B3] 1).aF (Aq [B3] 1).aD=_;rw[e]
theorem Q4s {p:Pth} (h:p.aF=[]):Ee p LC ⟨1,1,1⟩ 0 (AF p.aF)=⟨[],0,0,⟨1,1,1⟩⟩:=by
 unfold Ee;rw[h];rfl
theorem kX0:kX []=⟨LC,9,3,100,1,0,[],true,⟨⟨0,0,0⟩,[],[]⟩,0,IA [],⟨[],0,0,⟨1,1,1⟩⟩⟩:=by
 show Kf.mk _ _ _ _ _ _ _ _ _ _ _ _=_;rw[Q4s (p:=AR []) (by rw[Qln]),Qln];rfl
theorem kX1:kX [B3]=⟨LC,9,3,100,1,0,[B3],true,⟨⟨0,0,0⟩,[],[⟨0,3,0⟩]⟩,0,IA [B3],⟨[],0,0,⟨1,1,1⟩⟩⟩:=by
 show Kf.mk _ _ _ _ _ _ _ _ _ _ _ _=_;rw[Q4s (p:=AR [B3]) (by rw[RF]),RF];rfl
abbrev I6:Cv:={BY with aM:=true}
theorem Qqf {K:Kf} (ht:∀c,I5 K c=false) (hr:K.ramp=1):Ba K BY []=I6:=by
 show IR (C6 K (BL (CX BY)))=_;unfold C6;rw[if_neg (by rw[ht];simp),hr];rfl
theorem Zon:(stC (kX []) BY []).1=7:=by
 have e:=Qqf (Qe7 (l:=[]) (by rw[Qln])) rfl;have er:Cx (kX []) I6=(0,I6):=rfl;unfold stC;rw[e,er,if_pos rfl];have el:AS (kX []) I6=(0,-1):=by
  rw[kX0];unfold AS BK;rfl
 unfold Cs;rw[el];rfl
abbrev J4:Cv:={I6 with on:=true,idx:=0,aN:=true,cnt:=1}
theorem st1:stC (kX [B3]) BY []=(2,J4):=by
 have e:=Qqf (Qe7 (l:=[B3]) (by rw[RF])) rfl;have er:Cx (kX [B3]) I6=(0,I6):=rfl;unfold stC;rw[e,er,if_pos rfl];have el:AS (kX [B3]) I6=(0,0):=by
  have e2:=Zr9 (K:=kX [B3]) machX.plan (c:=I6) rfl rfl;unfold AS;rw[e2,kX1];rfl
 unfold Cs;rw[el,kX1];rfl
theorem Q29:D8 (kX [B3]) BY []=J4:=by
 unfold D8;rw[st1,kX1];rfl
theorem Zp2:(stC (kX [B3]) J4 [⟨0,4,0⟩]).1=3:=by
 have ht:=Qe7 (l:=[B3]) (by rw[RF]);have e:Ba (kX [B3]) J4 [⟨0,4,0⟩]=IR (spS (BL (CX (BG J4 [⟨0,4,0⟩]))) 1):=by
  unfold Ba C6;rw[if_neg (by rw[ht];simp)]
 unfold stC;rw[e,kX1];rfl
theorem Q37 (K:Kf) (c:Cv) (E:List Evn) (l:List AC):gA (tkC K c E++l) 2=(stC K c E).1:=rfl
theorem Q63:NE []:=⟨by simp,fun e h=>by cases h⟩
theorem Zxb {MS MN:Fn}
  (h0:MN (AO LC++[I 9,I 3,I 100,I 1,I 0]++[.view Al (([]:List Itm).map Ah),B true])=some (I 0::Ad (kX []) BY))
  (h1:MN (AO LC++[I 9,I 3,I 100,I 1,I 0]++[.view Al ([B3].map Ah),B true])=some (I 0::Ad (kX [B3]) BY))
  (hs0:∃l,MS (.view kPt (([]:List Evn).map evR)::Ad (kX []) BY)=some l/\gA l 2=7)
  (hs1:∃l,MS (.view kPt (([]:List Evn).map evR)::Ad (kX [B3]) BY)=some (l++Ad (kX [B3]) J4)/\l.length=9/\gA l 2=2)
  (hs2:∃l,MS (.view kPt ([(⟨0,4,0⟩:Evn)].map evR)::Ad (kX [B3]) J4)=some l/\gA l 2=3):
  Ye MS MN []=some [B true]:=by
 rw[Zcn];obtain⟨l0,s0,m0⟩:=hs0;obtain⟨l1,s1,n1,m1⟩:=hs1;obtain⟨l2,s2,m2⟩:=hs2
 match l1,n1 with
 |[a0,a1,a2,a3,a4,a5,a6,a7,a8],_=>
  refine eB h0 (eB h1 (eF rfl (eF rfl (eB s0 (eT (beT m0) (eB s1 (eT (beT m1) (eB s2 ?_))))))));rw[m2];rfl
theorem Q0v:NZ []=some [B true]:=by
 have n0:=Qv7 machX (aA:=[]) (by simp) Qo9 true;have n1:=Qv7 machX (aA:=[B3]) (by simp) Zvp true;have z0:=PL n0.2 (gd0 []) (by omega) Q63;have z1:=PL n1.2 (gd0 [B3]) (by omega) Q63;have g1:Gd (kX [B3]) 1 J4:=by
  have:=Q2b n1.2 (gd0 [B3]) (by omega) [];rw[Q29]at this;exact this
 have z2:=PL n1.2 g1 (by omega) (E:=[⟨0,4,0⟩]) ⟨by simp,fun e h=>by simp at h;subst h;simp⟩;rw[Q29]at z1;exact Zxb n0.1 n1.1 ⟨_,z0,(Q37 _ _ _ _).trans Zon⟩ ⟨_,z1,rfl,by show(stC (kX [B3]) BY []).1=2;rw[st1]⟩ ⟨_,z2,(Q37 _ _ _ _).trans Zp2⟩
end Go.Bm
noncomputable section
namespace Go.Bm
abbrev atE (E:List Evn) (k:Int):List Evn:=E.filter fun e=>e.cycle==k
theorem Zwu {E:List Evn} {k:Int} {e:Evn} (h:e∈atE E k):e∈E:=(List.mem_filter.1 h).1
theorem Q8f (E:List Evn) (k:Int):(atE E k).length<=E.length:=List.length_filter_le _ _
structure Tk (K : Kf) (o : List AC) (c : Cv) (s : Int) (m : Pt) : Prop where
 ex:∃(pul outs:Rw) (mode sp ft:Int),o=NT pul outs mode s m sp ft++Ad K c
theorem gdK {K:Kf} (h:KOK K):Gd K 0 BY:=⟨rfl,⟨by decide,by simp⟩,fun h=>(by cases h),RH h.plan,by decide⟩
end Go.Bm
noncomputable section
namespace Go.Bm
structure Cm (c : Cv) : Prop where
 on:c.on=true->c.m1=0
 aI:c.aI≠0->c.m1=0
 aH:c.aH=false
structure Mt (c d : Cv) : Prop where
 m0:d.m0=c.m0
 m1:d.m1=c.m1
 m2:d.m2=c.m2
 aH:d.aH=c.aH
 g0:d.g0=c.g0
 g1:d.g1=c.g1
 g2:d.g2=c.g2
 o2:d.o2=c.o2
theorem Mt.rfl {c:Cv}:Mt c c:=⟨Eq.refl _,Eq.refl _,Eq.refl _,Eq.refl _,Eq.refl _,Eq.refl _,Eq.refl _,Eq.refl _⟩
theorem Mt.trans {a b c:Cv} (h:Mt a b) (g:Mt b c):Mt a c:=
 ⟨g.m0.trans h.m0,g.m1.trans h.m1,g.m2.trans h.m2,g.aH.trans h.aH,g.g0.trans h.g0,g.g1.trans h.g1,g.g2.trans h.g2,g.o2.trans h.o2⟩
theorem Mt.cm {c d:Cv} (h:Mt c d) (h1:c.m1=0) (ht:c.aH=false):Cm d:=
 ⟨fun _=>h.m1.trans h1,fun _=>h.m1.trans h1,h.aH.trans ht⟩
theorem Zji (K:Kf) (c:Cv):Mt c (HJ K c).2:=by
 have done:∀d:Cv,Mt c d->Mt c (HA d):=fun d k=>k.trans ⟨rfl,rfl,rfl,rfl,rfl,rfl,rfl,rfl⟩;have cmd:∀n' sp:Int,Mt c (JX c n' sp):=fun n' sp=>⟨rfl,rfl,rfl,rfl,rfl,rfl,rfl,rfl⟩;unfold HJ;split
 ·split
  ·exact done c Mt.rfl
  ·exact Mt.rfl
 ·split
  ·exact done c Mt.rfl
  ·split
   ·split
    ·exact Mt.rfl
    ·exact done c Mt.rfl
   ·split
    ·split
     ·exact done _ (cmd _ _)
     ·exact cmd _ _
    ·split
     ·exact⟨rfl,rfl,rfl,rfl,rfl,rfl,rfl,rfl⟩
     ·exact done c Mt.rfl
theorem Q6 (K:Kf) (c:Cv):Mt c (By K c).2:=Mt.trans (b:=CG c) ⟨rfl,rfl,rfl,rfl,rfl,rfl,rfl,rfl⟩ (Zji K _)
theorem ZS (K:Kf) (c:Cv) (i:Int):Mt c (Dr K c i).2:=Mt.trans (b:={c with on:=true,idx:=i,aN:=E4 K c i,cnt:=0}) ⟨rfl,rfl,rfl,rfl,rfl,rfl,rfl,rfl⟩ (Q6 K _)
structure Os (c d : Cv) : Prop where
 on:d.on=c.on
 aI:d.aI=c.aI
 aH:d.aH=c.aH
 gu:(d.g0=c.g0/\d.g1=c.g1/\d.g2=c.g2)\/(c.g0=0/\d.g0=1/\d.g1=18)
theorem Os.trans {a b c:Cv} (h:Os a b) (g:Os b c):Os a c:=by
 refine⟨g.on.trans h.on,g.aI.trans h.aI,g.aH.trans h.aH,?_⟩;rcases h.gu with⟨h0,h1,h2⟩|⟨h0,h1,h2⟩<;>rcases g.gu with⟨k0,k1,k2⟩|⟨k0,k1,k2⟩
 ·exact .inl ⟨k0.trans h0,k1.trans h1,k2.trans h2⟩
 ·exact .inr ⟨h0.symm.trans k0,k1,k2⟩
 ·exact .inr ⟨h0,k0.trans h1,k1.trans h2⟩
 ·omega
theorem Qi5 (c:Cv):Os c (Cn c):=by
 unfold Cn;split
 ·rename_i h;exact⟨rfl,rfl,rfl, .inr ⟨h,rfl,rfl⟩⟩
 ·exact⟨rfl,rfl,rfl, .inl ⟨rfl,rfl,rfl⟩⟩
theorem Zb (K:Kf) (c:Cv) (l:Int):Os c (C8 K c l):=⟨rfl,rfl,rfl, .inl ⟨rfl,rfl,rfl⟩⟩
theorem Q6h (c:Cv) (o:List AC):Os c (G_ c o):=⟨rfl,rfl,rfl, .inl ⟨rfl,rfl,rfl⟩⟩
theorem Q6l (K:Kf) (c:Cv) (l:Int) (s:Sgm):Os c (DZ K c l s):=by
 unfold DZ;split
 ·exact(Zb K c l).trans ⟨rfl,rfl,rfl, .inl ⟨rfl,rfl,rfl⟩⟩
 ·unfold Hf;split
  ·exact(Zb K c l).trans ⟨rfl,rfl,rfl, .inl ⟨rfl,rfl,rfl⟩⟩
  ·split
   ·exact(Q6h c _).trans (Qi5 _)
   ·exact Q6h c _
theorem Q3a (K:Kf) (c:Cv) (l:Int):Os c (AV K c l):=by
 unfold AV;split
 ·exact Zb K c l
 ·split
  ·exact Q6l K c l _
  ·split
   ·exact Os.trans (b:=goC K c (sgK K c)) ⟨rfl,rfl,rfl, .inl ⟨rfl,rfl,rfl⟩⟩ (Q6l K _ l _)
   ·split
    ·exact Qi5 c
    ·exact⟨rfl,rfl,rfl, .inl ⟨rfl,rfl,rfl⟩⟩
def Gg (c:Cv):Prop:=(c.g0=0/\c.g1=0/\c.g2= -1)\/(c.g0=1/\c.g1=18)
theorem Os.gg {c d:Cv} (h:Os c d) (g:Gg c):Gg d:=by
 rcases h.gu with⟨h0,h1,h2⟩|⟨h0,h1,h2⟩
 ·unfold Gg;rw[h0,h1,h2];exact g
 ·exact .inr ⟨h1,h2⟩
theorem Mt.gg {c d:Cv} (h:Mt c d) (g:Gg c):Gg d:=by unfold Gg;rw[h.g0,h.g1,h.g2];exact g
theorem Os.cm {c d:Cv} (h:Os c d) (h1:c.on=false) (h2:c.aI=0) (ht:c.aH=false):Cm d:=
 ⟨fun e=>(by rw[h.on,h1]at e;cases e),fun e=>absurd (h.aI.trans h2) e,h.aH.trans ht⟩
theorem Zix (K:Kf) {c:Cv} (hs:c.aM=true->c.m1=0) (h1:c.on=false) (h2:c.aI=0) (ht:c.aH=false):Cm (Cs K c).2/\(Gg c->Gg (Cs K c).2):=by
 unfold Cs;split
 ·rename_i h;have m:=hs h.1;split
  ·split
   ·have b:=ZS K c (AS K c).2;have f:=Qi5 (Dr K c (AS K c).2).2;refine⟨?_,fun g=>f.gg (b.gg g)⟩;have e:(Cn (Dr K c (AS K c).2).2).m1=0:=by
     unfold Cn;split
     ·exact b.m1.trans m
     ·exact b.m1.trans m
    exact⟨fun _=>e,fun _=>e,f.aH.trans (b.aH.trans ht)⟩
   ·have b:=ZS K c (AS K c).2;exact⟨b.cm m ht,b.gg⟩
  ·split
   ·exact⟨⟨fun _=>m,fun _=>m,ht⟩,id⟩
   ·exact⟨⟨fun _=>m,fun _=>m,ht⟩,id⟩
 ·have o:=Q3a K c (AS K c).1;exact⟨o.cm h1 h2 ht,o.gg⟩
theorem Zw7 (K:Kf) (c:Cv) (E:List Evn):(Ba K c E).aM=true->(Ba K c E).m1=0:=by
 unfold Ba IR;generalize C6 K (BL (CX (BG c E)))=d;intro h;have h:E1 d=true:=h;unfold E1 at h;rw[Bool.and_eq_true]at h;exact eq_of_beq h.1
theorem Zde {K:Kf} {c:Cv} (h:Cm c) (E:List Evn):Cm (Ba K c E):=by
 have s:=XT K c E;exact⟨fun e=>s.m1.trans (h.on (s.on.symm.trans e)),fun e=>s.m1.trans (h.aI fun q=>e (s.aI.trans q)),s.aH.trans h.aH⟩
theorem Za6 {K:Kf} {c:Cv} (h:Cm c) (E:List Evn):Cm (stC K c E).2/\(Gg (Ba K c E)->Gg (stC K c E).2):=by
 have hp:=Zde (K:=K) h E;have hs:=Zw7 K c E;unfold stC;generalize Ba K c E=d at*;unfold Cx;by_cases c1:d.g0=2
 ·rw[if_pos c1,if_neg (by simp)];exact⟨⟨fun _=>rfl,fun _=>rfl,hp.aH⟩,id⟩
 ·rw[if_neg c1];by_cases c2:d.aI≠0
  ·rw[if_pos c2,if_neg c2];exact⟨hp,id⟩
  ·rw[if_neg c2,if_neg (show¬(d.aH=true/\d.aM=true)from fun w=>by have:=w.1;rw[hp.aH]at this;cases this)];by_cases c3:d.on=true
   ·rw[if_pos c3,if_neg (show¬(By K d).1=0 from Q49 K _)];exact⟨(Q6 K d).cm (hp.on c3) hp.aH,(Q6 K d).gg⟩
   ·rw[if_neg c3,if_pos rfl];exact Zix K hs (by simpa using c3) (Decidable.not_not.1 c2) hp.aH
theorem Zbd {K:Kf} {c:Cv} (h:Cm c) (E:List Evn):Cm (D8 K c E)/\(Gg (Ba K c E)->Gg (D8 K c E)):=by
 have hs:=Za6 (K:=K) h E;unfold D8;generalize(stC K c E).2=d at*;obtain⟨n,q,e⟩:=Qq K d (Av K d);rw[e];exact⟨⟨hs.1.on,hs.1.aI,hs.1.aH⟩,hs.2⟩
theorem Q95 {c:Cv} {k n:Int} (hk:k<=6):(evC c k n).g0=c.g0/\(evC c k n).g1=c.g1/\(evC c k n).g2=c.g2:=by
 have hs:Hy k n=false:=by
  unfold Hy;rw[beF (show k≠9 by omega),beF (show k≠8 by omega)];rfl
 refine⟨?_,?_,?_⟩
 ·show(if k=10 then 2 else if k=11 then 0 else if Hy k n=true then(if c.g0=2 then 2 else 1)else c.g0)=_;rw[if_neg (by omega),if_neg (by omega),if_neg (by rw[hs];simp)]
 ·show(if k=10 then 22 else if k=11 then 0 else if Hy k n=true/\c.g0≠2/\c.g1=0 then(if k=9 then 21 else 20)else c.g1)=_;rw[if_neg (by omega),if_neg (by omega),if_neg (by rw[hs];simp)]
 ·show(if k=10 then-1 else if k=11 then-1 else if Hy k n=true/\c.g0≠2/\c.g1=0 then(if k=9 then-1 else n)else c.g2)=_;rw[if_neg (by omega),if_neg (by omega),if_neg (by rw[hs];simp)]
theorem Q7b:∀(E:List Evn) (c:Cv),(∀e∈E,e.kind<=6)->(E.foldl (fun c e=>evC c e.kind e.n) c).g0=c.g0/\(E.foldl (fun c e=>evC c e.kind e.n) c).g1=c.g1/\(E.foldl (fun c e=>evC c e.kind e.n) c).g2=c.g2
 |[],c,_=>⟨rfl,rfl,rfl⟩
 |e::E,c,hk=>by
  have h:=Q7b E (evC c e.kind e.n) fun x hx=>hk x (by simp[hx]);have g:=Q95 (c:=c) (k:=e.kind) (n:=e.n) (hk e (by simp));exact⟨h.1.trans g.1,h.2.1.trans g.2.1,h.2.2.trans g.2.2⟩
theorem Zzr (K:Kf) (c:Cv) (E:List Evn):(Ba K c E).g0=(BG c E).g0/\(Ba K c E).g1=(BG c E).g1/\(Ba K c E).g2=(BG c E).g2/\((BG c E).g0≠0->(Ba K c E).o2=true):=by
 unfold Ba;generalize BG c E=d;have h1:(CX d).g0=d.g0/\(CX d).g1=d.g1/\(CX d).g2=d.g2/\(d.g0≠0->(CX d).o2=true):=by
  unfold CX;split
  ·exact⟨rfl,rfl,rfl,fun _=>rfl⟩
  ·rename_i h;exact⟨rfl,rfl,rfl,fun e=>absurd (.inr e) h⟩
 have h2:∀d:Cv,(C6 K d).g0=d.g0/\(C6 K d).g1=d.g1/\(C6 K d).g2=d.g2/\(C6 K d).o2=d.o2:=fun d=>by
  unfold C6;split
  ·exact⟨rfl,rfl,rfl,rfl⟩
  ·exact⟨rfl,rfl,rfl,rfl⟩
 have h3:=h2 (BL (CX d));exact⟨h3.1.trans h1.1,h3.2.1.trans h1.2.1,h3.2.2.1.trans h1.2.2.1,fun e=>h3.2.2.2.trans (h1.2.2.2 e)⟩
theorem Zs1 {K:Kf} {c:Cv} {E:List Evn} (hk:∀e∈E,e.kind<=6) (h:Gg c):Gg (Ba K c E):=by
 have g:=Zzr K c E;have f:=Q7b E (Id c) hk;unfold Gg;rw[g.1,g.2.1,g.2.2.1];unfold BG;rw[f.1,f.2.1,f.2.2];exact h
def Sp (c:Cv):Prop:=c.g0=1/\c.g1=21/\c.g2= -1/\c.o2=true
theorem cm0:Cm BY:=⟨fun h=>(by cases h),fun _=>rfl,rfl⟩
end Go.Bm
noncomputable section
namespace Go.Bm
theorem Q0o {a k c v x:Int} (hp:Plan3 a k c) (hr:Ci a k v x) (c0:v<=0):AD a k v x=0:=by
 have hc:=closed hp hr;have hrg:=EB hp hc.1;have hv:v=0:=by have:=EB hp hr;omega
 obtain⟨B,hB⟩:∃B,B=bs k v 20 (-x-k) (min (k-x) a):=⟨_,rfl⟩;obtain⟨q1,q2,q3,q4,q5,q6⟩:=Qy hp hr hB;have:=Hl (k:=k) (b:=B) (by have:=hp.b;omega);have hx:=hr.2.2.2.2 hv;have ha:=hp.a;have e:AD a k v x= -B:=by unfold AD;rw[hB]
 rw[e];rcases q5 with q5|q5
 ·omega
 ·by_cases hn:B+1<=0
  ·rw[HR hn]at q5;omega
  ·omega
def stL (K:Kf) (c:Cv):List Int:=(AH K.pa K.pb c.m1 c.m2).1
theorem Quy {K:Kf} (h:Plan3 K.pa K.pb K.pc) {c:Cv} (hz:Mo K c) (h1:c.m1<=0):stL K c=[]:=by
 unfold stL;rw[(TW h hz).2,if_pos h1]
theorem Nk {K:Kf} {c d:Cv} (h1:d.m1=c.m1) (h2:d.m2=c.m2):stL K d=stL K c:=by unfold stL;rw[h1,h2]
def Nx (K:Kf) (c e:Cv):Prop:=(stL K c=[]/\stL K e=[]/\e.m0=c.m0)\/(stL K c=e.m1::stL K e/\e.m0=c.m0+e.m1)
theorem Nx.still {K:Kf} (hp:Plan3 K.pa K.pb K.pc) {c e:Cv} (hz:Mo K c) (h:c.m1=0) (m:Mt c e):Nx K c e:=by
 have h0:=Quy hp hz (by omega);exact .inl ⟨h0,(Nk m.m1 m.m2).trans h0,m.m0⟩
theorem Sp.mt {c d:Cv} (h:Sp c) (m:Mt c d):Sp d:=⟨m.g0.trans h.1,m.g1.trans h.2.1,m.g2.trans h.2.2.1,m.o2.trans h.2.2.2⟩
theorem Zkx {a k c:Int} (hp:Plan3 a k c) {u:Int} (hu: -1000000000000000<=u/\u<=1000000000000000) {v x:Int} (hz:(AH a k v x).2=true) (x6 x7 x8:Int):
  FB [I a,I k,I c,I u,I v,I x,I x6,I x7,I x8]=some [I (B_ u (AH a k v x).1),B true]:=by
 have key:∀{M:Fn},M [I a,I k,I c,I u,I v,I x,I x6,I x7,I x8]=some [.view Aa ((BB u (AH a k v x).1).map Ao),B (AH a k v x).2]->Kr M [I a,I k,I c,I u,I v,I x,I x6,I x7,I x8]=some [I (B_ u (AH a k v x).1),B true]:=by
  intro M hM;have hb:=O2 hp v x;rw[hz]at hM;rw[TM];generalize(AH a k v x).1=l at*;refine eB hM (eF rfl ?_);show cond ((((BB u l).map Ao).length:Int)==0) _ (cond (decide (0<=wrap .i64 ((((BB u l).map Ao).length:Int)-1))&&decide (wrap .i64 ((((BB u l).map Ao).length:Int)-1)<(((BB u l).map Ao).length:Int))) (some [I (Af (nth .dead (nth [] ((BB u l).map Ao) (wrap .i64 ((((BB u l).map Ao).length:Int)-1)).toNat) 0)),B true]) none)=_;have el:((BB u l).map Ao).length=l.length:=by rw[List.length_map,Jz]
  rw[el];refine eC (fun e=> ?_) fun e=> ?_
  ·have e:(l.length:Int)=0:=eq_of_beq e;have:l=[]:=List.length_eq_zero_iff.1 (by omega);subst this;rfl
  ·have e:(l.length:Int)≠0:=by simpa using e
   rw[Ae (x:=(l.length:Int)-1) (by omega)];refine eT (by simp;omega) ?_;have hl:=U3 u l (by intro q;rw[q]at e;simp at e);rw[Jz]at hl;have en:((l.length:Int)-1).toNat=l.length-1:=by omega
   have er:nth [] ((BB u l).map Ao) (l.length-1)=Ao (B_ u l):=by
    rw[BN,List.getD,List.getElem?_map,hl];rfl
   rw[en,er];rfl
 exact key (Qvt hp hu v x x6 x7 x8)
end Go.Bm
noncomputable section
namespace Go.Bm
theorem Zjr {MS MF:Fn} {p:Pth} {x:Ax3} {t:Trk} (hS:∀{way:Rw},way.length<=100000->(MS (pxt p x t [.view Aa way])).isSome=true)
  {a b c m0 m1 m2 m3 m4 m5 l:Int} {L:List Int} (hL:L.length<=4096) (hF:MF [I a,I b,I c,I m0,I m1,I m2,I m3,I m4,I m5]=some [.view Aa ((BB m0 L).map Ao),B true]):
  Out (fun o=>bA o 0=true->B_ m0 L<=wrap .i64 (l*256)) (Ra MS MF (pxt p x t [I a,I b,I c,I m0,I m1,I m2,I m3,I m4,I m5,I l])):=by
 rw[Q5g];refine .bind (p:=fun o=>o=_) ⟨_,hF,rfl⟩ fun o e=> ?_;subst e;have no:∀{X:List AC},X=[B false]->bA X 0=true->B_ m0 L<=wrap .i64 (l*256):=fun e h=>by subst e;simp[bA,nth,CM]at h
 have ew:wA [AC.view Aa ((BB m0 L).map Ao),B true] 0=(BB m0 L).map Ao:=rfl;rw[ew];have el:((BB m0 L).map Ao).length=L.length:=by rw[List.length_map,Jz]
 have ee:0<L.length->Af (nth .dead (nth [] ((BB m0 L).map Ao) ((((BB m0 L).map Ao).length:Int)-1).toNat) 0)=B_ m0 L:=fun hp=>by
  rw[el];have hl:=U3 m0 L (by intro q;rw[q]at hp;simp at hp);rw[Jz]at hl;have en:((L.length:Int)-1).toNat=L.length-1:=by omega
  have er:nth [] ((BB m0 L).map Ao) (L.length-1)=Ao (B_ m0 L):=by
   rw[BN,List.getD,List.getElem?_map,hl];rfl
  rw[en,er];rfl
 have e0:L.length=0->B_ m0 L=m0:=fun h=>by rw[List.length_eq_zero_iff.1 h];rfl
 generalize(BB m0 L).map Ao=sp at*;refine .cond (fun _=> .some (no rfl)) fun _=> ?_;refine .cond (fun c=> ?_) fun c=> ?_
 ·have c:=Br c;rw[Ae (x:=(sp.length:Int)-1) (by omega)];refine .cond (fun _=> ?_) fun c=>by simp at c;omega
  rw[ee (by omega)];refine .cond (fun _=> .some (no rfl)) fun c2=> ?_;have c2:=Bn c2;refine .cond (fun _=> ?_) fun c=>by rw[Cq (by simp;omega)]at c;cases c
  refine .cond (fun _=> ?_) fun c=>by rw[Cq (by simp;omega)]at c;cases c
  exact .ibind (hS (by simp;omega)) fun _ _=> .some fun _=>by omega
 ·have c:=Bn c;have e1:=e0 (by omega);refine .cond (fun _=> .some (no rfl)) fun c2=> ?_;have c2:=Bn c2;refine .cond (fun _=> ?_) fun c=>by rw[Cq (by simp;omega)]at c;cases c
  refine .cond (fun _=> ?_) fun c=>by rw[Cq (by simp;omega)]at c;cases c
  exact .ibind (hS (by simp;omega)) fun _ _=> .some fun _=>by omega
def Te (pa pb m0 v x l:Int):Prop:=(AH pa pb v x).2=true/\B_ m0 (AH pa pb v x).1<=wrap .i64 (l*256)
theorem Qp1 {p:Pth} {x:Ax3} {t:Trk} (h:Fix p x t) {a b c:Int} (hp:Plan3 a b c) {m0:Int} (v z m3 m4 m5 l:Int) (hm:(AH a b v z).2=true-> -1000000000000000<=m0/\m0<=1000000000000000):
  Out (fun o=>bA o 0=true->Te a b m0 v z l) (HP (pxt p x t [I a,I b,I c,I m0,I v,I z,I m3,I m4,I m5,I l])):=by
 by_cases hz:(AH a b v z).2=true
 ·have hF:=Qvt hp (hm hz) v z m3 m4 m5;rw[hz]at hF;have:=Zjr (MS:=Na) (MF:=EE) (l:=l) (Q6v h) (O2 hp v z).1 hF;exact this.mono fun o ho hb=>⟨hz,ho hb⟩
 ·exact(SS h hp m0 v z m3 m4 m5 l).mono fun o ho hb=>absurd (ho hb) hz
theorem Q1g {K:Kf} (h:KOK K) {c:Cv} (hz:Mo K c) (hm: -300000000000<=c.m0/\c.m0<=300000000000) (l:Int) (b0:Bool):Out (LX c.m0 c.m1 c.m3 c.m4 (fun v=>Te K.pa K.pb (wrap .i64 (c.m0+v)) v (wrap .i64 (v-c.m1)) l) fun r=>r=AD K.pa K.pb c.m1 c.m2)
  (EK (pxt K.p K.x K.t [I K.pa,I K.pb,I K.pc,I c.o0,I c.o1,B b0,B c.o3,B c.o4,I c.m0,I c.m1,I c.m2,I c.m3,I c.m4,I c.m5,I l])):=
 Qfp (F := fun _ => True) (by have := h.plan.b; omega) (O0 h.plan hz) (fun v _ _ _ => Qp1 h.f h.plan _ _ _ _ _ _ fun hs => by
  have:=EB h.plan (F_.1 hs).1;rw[Ae (by omega)];omega) (fun v=>Qxf h.f ..) PH RO (fun _ hj=>Yo hj)
theorem Zdn {K:Kf} (h:KOK K) {c:Cv} (hz:Mo K c) (hm: -300000000000<=c.m0/\c.m0<=300000000000) (l:Int) {lead:Int} (hl:i64 lead):Out (Pj c.m0 c.m1 c.m3 c.m4 (fun v=>Te K.pa K.pb (wrap .i64 (c.m0+v)) v (wrap .i64 (v-c.m1)) l) fun r=>r=AD K.pa K.pb c.m1 c.m2)
  (H6 (pxt K.p K.x K.t [I K.pa,I K.pb,I K.pc,I c.o0,I c.o1,B c.o2,B c.o3,B c.o4,I c.m0,I c.m1,I c.m2,I c.m3,I c.m4,I c.m5,I l,I lead,I c.e0,I c.e1,I c.e2,I c.e3,I c.before,I c.s3])):=
 Qtf (Q1g h hz hm l false) (O0 h.plan hz) Qrg (fun v => Qp1 h.f h.plan _ _ _ _ _ _ fun hs => by
  have:=EB h.plan (F_.1 hs).1;rw[Ae (by omega)];omega) PH (fun _ hv=>Qpd hl hv) Qzt
def endC (K:Kf) (c:Cv):Int:=B_ c.m0 (stL K c)
theorem Mt.endC {K:Kf} {c d:Cv} (h:Mt c d):endC K d=endC K c:=by
 unfold Go.Bm.endC;rw[Nk h.m1 h.m2,h.m0]
theorem Zq1 {K:Kf} (h:KOK K) {n:Int} {c e:Cv} (g:Gd K n c) (hn:0<=n/\n<=10000) {v:Int} (hv:v=wrap .i64 (c.m1+AD K.pa K.pb c.m1 c.m2)) (e0:e.m0=wrap .i64 (c.m0+v)) (e1:e.m1=v) (e2:e.m2=wrap .i64 (v-c.m1)):endC K e=endC K c:=by
 obtain⟨b1,b2,b3⟩:=Z7 h.plan g.mo hv;have hr:=EB h.plan (F_.1 b3).1;have h0:=g.m0;rw[Ae (by omega)]at e0;obtain⟨-,s2⟩:=TW h.plan g.mo;unfold endC stL;rw[e0,e1,e2,b2,s2,<-b1];by_cases c0:c.m1<=0
 ·rw[if_pos c0];have hb:=Q0o h.plan g.mo.ready c0;have hr2:=EB h.plan g.mo.ready;have v0:v=0:=by omega
  have hq:(AH K.pa K.pb v (AD K.pa K.pb c.m1 c.m2)).1=[]:=by
   have hz:(AH K.pa K.pb v (AD K.pa K.pb c.m1 c.m2)).2=true:=by rw[<-b2];exact b3
   rw[(TW h.plan hz).2,if_pos (by omega)]
  rw[hq,v0];show c.m0+0=c.m0;omega
 ·rw[if_neg c0];show _=B_ (c.m0+v) _;rfl
def EndQ (K:Kf) (c d:Cv) (l:Int):Prop:=endC K d<=wrap .i64 (l*256)\/endC K d=endC K c
theorem EndQ.of {K:Kf} (h:KOK K) {n:Int} {c e:Cv} (g:Gd K n c) (hn:0<=n/\n<=10000) {v l:Int} (hv:Te K.pa K.pb (wrap .i64 (c.m0+v)) v (wrap .i64 (v-c.m1)) l\/∃r:Int,v=wrap .i64 (c.m1+r)/\r=AD K.pa K.pb c.m1 c.m2)
  (e0:e.m0=wrap .i64 (c.m0+v)) (e1:e.m1=v) (e2:e.m2=wrap .i64 (v-c.m1)):EndQ K c e l:=by
 rcases hv with hv|⟨r,hv,rfl⟩
 ·refine .inl ?_;unfold endC stL;rw[e0,e1,e2];exact hv.2
 ·exact .inr (Zq1 h g hn hv e0 e1 e2)
theorem Qlf {K:Kf} {n:Int} {c:Cv} (g:Gd K n c) (hn:0<=n/\n<=10000): -300000000000<=c.m0/\c.m0<=300000000000:=by have:=g.m0;omega
theorem Ru {K:Kf} (h:KOK K) {n:Int} {c:Cv} (g:Gd K n c) (hn:0<=n/\n<=10000) (l:Int):EndQ K c (C8 K c l) l:=
 EndQ.of h g hn (v:=nxV K c l) (Qw8 (Q1g h g.mo (Qlf g hn) l c.o2)) rfl rfl rfl
theorem EndQ.same {K:Kf} {c d e:Cv} {l:Int} (h:EndQ K c d l) (e0:e.m0=d.m0) (e1:e.m1=d.m1) (e2:e.m2=d.m2):EndQ K c e l:=by
 unfold EndQ at*;have:endC K e=endC K d:=by unfold endC;rw[Nk e1 e2,e0]
 rw[this];exact h
theorem Zj (c:Cv):(Cn c).m0=c.m0/\(Cn c).m1=c.m1/\(Cn c).m2=c.m2:=by unfold Cn;split<;>exact⟨rfl,rfl,rfl⟩
theorem Zza {K:Kf} (h:KOK K) {n:Int} {c:Cv} (g:Gd K n c) (hn:0<=n/\n<=10000) (l:Int) {lead:Int} (hl:i64 lead):EndQ K c (Hf K c l lead) l:=by
 unfold Hf;split
 ·exact(Ru h g hn l).same rfl rfl rfl
 ·have key:EndQ K c (G_ c (thO K c l lead)) l:=by
   obtain⟨o,h1,v,s,b,z,y,e,rfl,h2⟩:=Zdn h g.mo (Qlf g hn) l hl;have h1:H6 (thL K c l lead)=some (Eh c.m0 c.m1 c.m3 c.m4 v++[I s,I b,I z,I y,I e]):=h1;have e2:thO K c l lead=Eh c.m0 c.m1 c.m3 c.m4 v++[I s,I b,I z,I y,I e]:=by unfold thO;rw[h1];rfl
   rw[e2];exact EndQ.of h g hn h2 rfl rfl rfl
  split
  ·have:=Zj (G_ c (thO K c l lead));exact key.same this.1 this.2.1 this.2.2
  ·exact key
theorem Q5p {K:Kf} (h:KOK K) {n:Int} {c:Cv} (g:Gd K n c) (hn:0<=n/\n<=10000) (l:Int) {s:Sgm} (hs:i64 s.lead):EndQ K c (DZ K c l s) l:=by
 unfold DZ;split
 ·exact(Ru h g hn l).same rfl rfl rfl
 ·exact Zza h g hn l hs
theorem Zac {K:Kf} (h:KOK K) {n:Int} {c:Cv} (g:Gd K n c) (hn:0<=n/\n<=10000) (l:Int):EndQ K c (AV K c l) l:=by
 unfold AV;by_cases e:(sgK K c).lead=0
 ·rw[if_pos (.inl e)];exact Ru h g hn l
 ·have hs:=(Gf h e).2.2;split
  ·exact Ru h g hn l
  ·split
   ·exact Q5p h g hn l hs
   ·split
    ·exact Q5p h (g.go (sgK K c)) hn l hs
    ·split
     ·have:=Zj c;refine .inr ?_;unfold endC;rw[Nk this.2.1 this.2.2,this.1]
     ·exact .inr rfl
end Go.Bm
noncomputable section
namespace Go.Bm
structure MarksOK (K : Kf) : Prop where
 fw:Fw K.t K.len
 closed:K.closed=true
 at_:∀i:Int,0<=i->i<K.p.aD.length->0<=(mkK K i).at_/\(mkK K i).at_<=K.len
 mono:∀i j:Int,0<=i->i<=j->j<K.p.aD.length->(mkK K i).at_<=(mkK K j).at_
theorem Q13 {A:Int->Bool} {c:Cv} {known frm:Int} (hA:∀k,A k=true->Ct k c=true):∀(l:List Mrk) (i:Nat),(∀m∈l,A m.kind=true->frm<=m.at_/\m.at_<=known)->
  (Fd c known frm l i=(known,-1)/\∀m∈l,A m.kind=false)\/∃j,∃hj:j<l.length,Fd c known frm l i=(l[j].at_,((i+j:Nat):Int))/\Ct l[j].kind c=true/\∀k,∀hk:k<j,A (l[k]'(by omega)).kind=false
 |[],_,_=> .inl ⟨rfl,fun m hm=>by cases hm⟩
 |m::l,i,h=>by
  unfold Fd;by_cases hc:Ct m.kind c=true/\frm<=m.at_/\m.at_<=known
  ·rw[if_pos hc];exact .inr ⟨0,by simp,rfl,hc.1,fun k hk=>by omega⟩
  ·rw[if_neg hc];have ha:A m.kind=false:=by
    cases e:A m.kind
    ·rfl
    ·exact absurd ⟨hA _ e,h m (by simp) e⟩ hc
   rcases Q13 hA l (i+1) fun q hq=>h q (by simp[hq])with⟨h1,h2⟩|⟨j,hj,h1,h2,h3⟩
   ·refine .inl ⟨h1,fun q hq=> ?_⟩;rcases List.mem_cons.1 hq with rfl|hq
    ·exact ha
    ·exact h2 q hq
   ·refine .inr ⟨j+1,by simpa using hj,?_,by simpa using h2,fun k hk=> ?_⟩
    ·rw[h1];have:i+1+j=i+(j+1):=by omega
     rw[this];rfl
    ·cases k with
     |zero=>exact ha
     |succ k=>exact h3 k (by omega)
theorem Q92 {A:Int->Bool} {K:Kf} {c:Cv} {known frm:Int} (hA:∀k,A k=true->Ct k c=true) (hn:0<=c.next) (hm:∀i:Int,c.next<=i->i<K.p.aD.length->A (mkK K i).kind=true->frm<=(mkK K i).at_/\(mkK K i).at_<=known):
  (BK K c known frm=(known,-1)/\∀i:Int,c.next<=i->i<K.p.aD.length->A (mkK K i).kind=false)\/
  ∃j:Int,BK K c known frm=((mkK K j).at_,j)/\c.next<=j/\j<K.p.aD.length/\Ct (mkK K j).kind c=true/\∀i:Int,c.next<=i->i<j->A (mkK K i).kind=false:=by
 have hmx:(max c.next 0).toNat=c.next.toNat:=by rw[Int.max_eq_left hn]
 have ek:∀(k:Nat) (hk:k<(K.p.aD.drop c.next.toNat).length),(K.p.aD.drop c.next.toNat)[k]=mkK K ((c.next.toNat+k:Nat):Int):=fun k hk=>by
  rw[List.getElem_drop];unfold mkK;rw[Int.toNat_natCast,List.getD,List.getElem?_eq_getElem (by rw[List.length_drop]at hk;omega)];rfl
 have em:∀{i:Int},c.next<=i->i<K.p.aD.length->∃k,∃hk:k<(K.p.aD.drop c.next.toNat).length,mkK K i=(K.p.aD.drop c.next.toNat)[k]/\(k:Int)=i-c.next:=fun{i} h1 h2=>by
  refine⟨(i-c.next).toNat,by rw[List.length_drop];omega,?_,by omega⟩;rw[ek];have:((c.next.toNat+(i-c.next).toNat:Nat):Int)=i:=by omega
  rw[this]
 have hall:∀m∈K.p.aD.drop c.next.toNat,A m.kind=true->frm<=m.at_/\m.at_<=known:=fun m hm' ha=>by
  obtain⟨k,hk,rfl⟩:=List.mem_iff_getElem.1 hm';rw[ek k hk]at ha⊢;rw[List.length_drop]at hk;exact hm _ (by omega) (by omega) ha
 unfold BK;rw[hmx];rcases Q13 hA _ c.next.toNat hall with⟨h1,h2⟩|⟨j,hj,h1,h2,h3⟩
 ·refine .inl ⟨h1,fun i i1 i2=> ?_⟩;obtain⟨k,hk,e,-⟩:=em i1 i2;rw[e];exact h2 _ (List.getElem_mem hk)
 ·rw[ek j hj]at h1 h2;have hj2:=hj;rw[List.length_drop]at hj2;refine .inr ⟨_,h1,by omega,by omega,h2,fun i i1 i2=> ?_⟩;obtain⟨k,hk,e,e2⟩:=em (i:=i) i1 (by omega);rw[e];exact h3 k (by omega)
theorem Q01 {K:Kf} (h:KOK K) (c:Cv):c.m0<=endC K c:=(Qka c.m0 (stL K c) (O2 h.plan c.m1 c.m2).2).1
theorem Zjv {K:Kf} (h:KOK K) {n:Int} {c:Cv} (g:Gd K n c) (hn:0<=n/\n<=10000):Nd K c=endC K c:=by
 have:=Qlf g hn;unfold Nd one;rw[Zkx h.plan (by omega) g.mo];rfl
def Jm (A:Int->Bool) (K:Kf) (c:Cv):Prop:=∀i:Int,c.next<=i->i<K.p.aD.length->A (mkK K i).kind=true->endC K c<=256*BI K.t (mkK K i).at_
theorem Zvl {K:Kf} (h:KOK K) (mk:MarksOK K) {r z:Int} (h0:0<=r) (z0:0<=z) (z1:z<=K.len) (hr:r<=256*BI K.t z):H1 K r<=z:=by
 have hw:=mk.fw.wh z z0 z1;have hl:=mk.fw.len;have hi:i64 K.len:=h.len;unfold i64 at hi;have hu:DC r=(r+255)/256:=by
  unfold DC;rw[Ae (x:=r+256) (by omega),Ae (x:=r+256-1) (by omega),Int.tdiv_eq_ediv_of_nonneg (by omega)];rw[Ae (by omega)];omega
 have u0:0<=DC r:=by omega
 have u1:DC r<=BI K.t z:=by omega
 have hp:=mk.fw.le z0 z1 u1;unfold H1;split
 ·next hne=>
  have hlt:AQ K.t (DC r)<z:=by
   apply Decidable.byContradiction;intro q;have e:AQ K.t (DC r)=z:=by omega
   have:=mk.fw.ge z0 z1 u0 (by omega);rw[e]at hne;omega
  rw[Ae (by have:=(mk.fw.rg (DC r)).1;omega)];omega
 ·exact hp
theorem Qbu {A:Int->Bool} {K:Kf} (h:KOK K) (mk:MarksOK K) {n:Int} {c:Cv} (g:Gd K n c) (hn:0<=n/\n<=10000) (hA:∀k,A k=true->Ct k c=true) (h0:0<=c.m0) (hx:0<=c.next) (hj:Jm A K c):
  (AS K c=(BI K.t K.len,-1)/\∀i:Int,c.next<=i->i<K.p.aD.length->A (mkK K i).kind=false)\/
  ∃j:Int,AS K c=(BI K.t (mkK K j).at_,j)/\c.next<=j/\j<K.p.aD.length/\Ct (mkK K j).kind c=true/\∀i:Int,c.next<=i->i<j->A (mkK K i).kind=false:=by
 have hk:E8 K=K.len:=by unfold E8;rw[if_pos mk.closed]
 have he:=Q01 h c;unfold AS;rw[Zjv h g hn,hk];have hw:=Q92 (K:=K) (known:=K.len) (frm:=H1 K (endC K c)) hA hx fun i i1 i2 ha=>by
  have hm:=mk.at_ i (by omega) i2;exact⟨Zvl h mk (by omega) hm.1 hm.2 (hj i i1 i2 ha),hm.2⟩
 rcases hw with⟨h1,h2⟩|⟨j,h1,h2⟩
 ·rw[h1];exact .inl ⟨rfl,h2⟩
 ·rw[h1];exact .inr ⟨j,rfl,h2⟩
theorem Jm.move {A:Int->Bool} {K:Kf} (h:KOK K) (mk:MarksOK K) {n:Int} {c e:Cv} (g:Gd K n c) (hn:0<=n/\n<=10000) (hA:∀k,A k=true->Ct k c=true) (h0:0<=c.m0) (hx:0<=c.next) (hj:Jm A K c)
  (he:EndQ K c e (AS K c).1) (hne:e.next=c.next):Jm A K e:=by
 intro i i1 i2 ha;rw[hne]at i1;rcases he with he|he
 ·rcases Qbu h mk g hn hA h0 hx hj with⟨h1,h2⟩|⟨j,h1,h2,h3,h4,h5⟩
  ·rw[h2 i i1 i2]at ha;cases ha
  ·rw[h1]at he;dsimp only at he;have hji:j<=i:=by
    apply Decidable.byContradiction;intro q;rw[h5 i i1 (by omega)]at ha;cases ha
   have hmj:=mk.at_ j (by omega) h3;have hmi:=mk.at_ i (by omega) i2;have hw:=mk.fw.wh _ hmj.1 hmj.2;have hl:=mk.fw.len;have:=mk.fw.wmono hmj.1 (mk.mono j i (by omega) hji i2) hmi.2;rw[Ae (by omega)]at he;omega
 ·rw[he];exact hj i i1 i2 ha
theorem Zx5 {K:Kf} (h:KOK K) (mk:MarksOK K) {c:Cv} (h0:0<=c.m0) {z:Int} (z0:0<=z) (z1:z<=K.len) (he:endC K c<=256*BI K.t z):Av K c<=z:=by
 have:=Q01 h c;have hw:=mk.fw.wh z z0 z1;have hl:=mk.fw.len;refine mk.fw.le z0 z1 ?_;unfold A6;rw[Int.tdiv_eq_ediv_of_nonneg h0,Ae (by omega)];omega
end Go.Bm
noncomputable section
namespace Go.Bm
end Go.Bm
noncomputable section
namespace Go.Bm
theorem Qqm {K:Kf} (h:KOK K) {n:Int} {c:Cv} (g:Gd K n c) (hn:0<=n/\n<=10000) {v:Int} (hv:(AH K.pa K.pb v (wrap .i64 (v-c.m1))).2=true\/∃r:Int,v=wrap .i64 (c.m1+r)/\r=AD K.pa K.pb c.m1 c.m2):c.m0<=wrap .i64 (c.m0+v):=by
 have h0:=g.m0;have hr:=EB h.plan (F_.1 (Qws h g.mo hv)).1;rw[Ae (by omega)];omega
theorem Q5y {K:Kf} (h:KOK K) {n:Int} {c:Cv} (g:Gd K n c) (hn:0<=n/\n<=10000) (l:Int):c.m0<=(C8 K c l).m0:=Qqm h g hn (Vw h g l).2
theorem VV (c:Cv):(Cn c).m0=c.m0:=by unfold Cn;split<;>rfl
theorem Qny {K:Kf} (h:KOK K) {n:Int} {c:Cv} (g:Gd K n c) (hn:0<=n/\n<=10000) (l:Int) {s:Sgm} (hs:i64 s.lead):c.m0<=(DZ K c l s).m0:=by
 have gp:=Q5y h g hn l;unfold DZ;split
 ·exact gp
 ·unfold Hf;split
  ·exact gp
  ·obtain⟨-,v,s',b,z,y,e,h2,h3⟩:=Qe0 h g l hs;have e1:gA (thO K c l s.lead) 1=v:=by rw[h2];rfl
   have up:=Qqm h g hn h3;have e2:(G_ c (thO K c l s.lead)).m0=wrap .i64 (c.m0+v):=by
    show wrap .i64 (c.m0+gA (thO K c l s.lead) 1)=_;rw[e1]
   split
   ·rw[VV,e2];exact up
   ·rw[e2];exact up
theorem Qnx {K:Kf} (h:KOK K) {n:Int} {c:Cv} (g:Gd K n c) (hn:0<=n/\n<=10000) (l:Int):c.m0<=(AV K c l).m0:=by
 unfold AV;split
 ·exact Q5y h g hn l
 ·rename_i hx;have hl:(sgK K c).lead≠0:=fun e=>hx (.inl e);split
  ·exact Qny h g hn l (Gf h hl).2.2
  ·split
   ·exact Qny h (g.go (sgK K c)) hn l (Gf h hl).2.2
   ·split
    ·rw[VV];exact Int.le_refl _
    ·exact Int.le_refl _
theorem Zba {K:Kf} (h:KOK K) {n:Int} {c:Cv} (g:Gd K n c) (hn:0<=n/\n<=10000):c.m0<=(Cs K c).2.m0:=by
 unfold Cs;split
 ·have b:=ZS K c (AS K c).2;split
  ·split
   ·rw[VV,b.m0];exact Int.le_refl _
   ·rw[b.m0];exact Int.le_refl _
  ·split
   ·exact Int.le_refl _
   ·exact Int.le_refl _
 ·exact Qnx h g hn _
theorem Gg.ne2 {c:Cv} (h:Gg c):c.g0≠2:=by rcases h with h|h<;>omega
theorem Zmv {K:Kf} {n m:Int} {c d:Cv} (gc:Gd K n c) (gd:Gd K m d) (hn:0<=n/\n<=10000) (hm:0<=m/\m<=10000) (h0:0<=c.m0) (h:c.m0<=d.m0):0<=A6 c/\A6 c<=A6 d/\A6 d<=65536*m:=by
 have h1:=gc.m0;have h2:=gd.m0;have e1:A6 c=c.m0/256:=by
  show wrap .i64 (c.m0.tdiv 256)=_;rw[Int.tdiv_eq_ediv_of_nonneg h0,Ae (by omega)]
 have e2:A6 d=d.m0/256:=by
  show wrap .i64 (d.m0.tdiv 256)=_;rw[Int.tdiv_eq_ediv_of_nonneg (by omega),Ae (by omega)]
 omega
end Go.Bm
