/- laid together -/
import Derived.Test.YtommijghjlikkaaGreatPrOv
import Derived.Test.YtommijghjlikkaaGreatPrAtF
import Derived.Test.YtommijghjlikkaaGreatMx2
set_option linter.unusedVariables false
set_option linter.unusedSimpArgs false
set_option maxRecDepth 100000
open Go.IntKind (wrap)
namespace Go.Bm
theorem Qs0 {a b:Pt} (ha:bd 67108864 a) (hb:bd 67108864 b):
    wrap .i64 (wrap .i64 (wrap .i64 (0+wrap .i64 (wrap .i64 (a.x-b.x)*wrap .i64 (a.x-b.x)))+wrap .i64 (wrap .i64 (a.y-b.y)*wrap .i64 (a.y-b.y)))+wrap .i64 (wrap .i64 (a.z-b.z)*wrap .i64 (a.z-b.z)))=sqD a b:=by
  have h:∀x y:Int,x.natAbs<=67108864->y.natAbs<=67108864->0<=(x-y)*(x-y)/\(x-y)*(x-y)<=18014398509481984:=by
    intro x y hx hy;exact DM (x:=x-y) (A:=134217728) (by omega)
  have h1:=h _ _ ha.1 hb.1;have h2:=h _ _ ha.2.1 hb.2.1;have h3:=h _ _ ha.2.2 hb.2.2;obtain⟨a1,a2,a3⟩:=ha;obtain⟨b1,b2,b3⟩:=hb;rw[Ae (x:=a.x-b.x) (by omega),Ae (x:=a.y-b.y) (by omega),Ae (x:=a.z-b.z) (by omega)];unfold sqD ID GS;simp only;generalize(a.x-b.x)*(a.x-b.x)=u at*;generalize(a.y-b.y)*(a.y-b.y)=v at*;generalize(a.z-b.z)*(a.z-b.z)=w at*;rw[Ae (x:=u) (by omega),Ae (x:=0+u) (by omega),Ae (x:=v) (by omega),Ae (x:=0+u+v) (by omega),Ae (x:=w) (by omega),Ae (by omega),Int.zero_add]
theorem Zo1 {M:Fn} {a b:Pt} {n:Nat} (ha:bd 67108864 a) (hb:bd 67108864 b) (hn:sqD a b=n)
    (hM:∃r:Nat,M [I n,I 1]=some [I ((if((1:Int)=1/\r*r<n)\/((1:Int)=2/\r*r+r<n)then r+1 else r:Nat):Int),B true]/\r*r<=n/\n<(r+1)*(r+1)):
    Qgn M [I a.x,I a.y,I a.z,I b.x,I b.y,I b.z]=some [I (AB a b)]:=by
  obtain⟨r,h1,h2,h3⟩:=hM;have hu:=Q0v h2 h3;rw[Z0s,Qs0 ha hb,hn];simp only[go_sem,h1];unfold AB;rw[hn,Qwi hu];congr 3;by_cases c:r*r<n
  · rw[if_pos (.inl ⟨trivial,c⟩),if_pos c]
  · rw[if_neg (by simp[c]),if_neg c]
theorem U4 {a b:Pt} (ha:bd 67108864 a) (hb:bd 67108864 b):IC [I a.x,I a.y,I a.z,I b.x,I b.y,I b.z]=some [I (AB a b)]:=by
  have h0:=Qa a b;have h1:=Qe ha hb (Nat.le_refl _);obtain⟨n,hn⟩:=Int.eq_ofNat_of_zero_le h0;exact Zo1 ha hb hn (Qwg (by omega) (.inl rfl))
theorem Zx6 {MO:Fn} {a b:Spk} {u w:Int} (ha:okS a) (hb:okS b) (hu:u.natAbs<=100000000) (hw:w.natAbs<=100000000)
    (hO: ¬(u=0/\w=0)->MO [I u,I (hf a.r b.r),I (sq2 u w),I 2]=some [I (BY u (hf a.r b.r) (sq2 u w)),B true]/\MO [I w,I (hf a.r b.r),I (sq2 u w),I 2]=some [I (BY w (hf a.r b.r) (sq2 u w)),B true]):
    (bif u == 0 then
      bif w==0 then some [AC.int IntKind.i64 0,AC.int IntKind.i64 0,AC.int IntKind.i64 0,AC.int IntKind.i64 0,AC.bool false]
      else(MO [AC.int IntKind.i64 u,AC.int IntKind.i64 ((wrap .i64 (wrap .i64 (a.r+b.r)+1)).fdiv (2^min (Int.toNat 1) IntKind.i64.bits)),AC.int IntKind.i64 (wrap .i64 (wrap .i64 (u*u)+wrap .i64 (w*w))),AC.int IntKind.i64 2]).bind fun o36=>
       (MO [AC.int IntKind.i64 w,AC.int IntKind.i64 ((wrap .i64 (wrap .i64 (a.r+b.r)+1)).fdiv (2^min (Int.toNat 1) IntKind.i64.bits)),AC.int IntKind.i64 (wrap .i64 (wrap .i64 (u*u)+wrap .i64 (w*w))),AC.int IntKind.i64 2]).bind fun o37=>
       some [AC.int IntKind.i64 (Af (nth AC.dead o36 0)),AC.int IntKind.i64 (Af (nth AC.dead o37 0)),AC.int IntKind.i64 ((wrap .i64 (wrap .i64 (a.r+b.r)+1)).fdiv (2^min (Int.toNat 1) IntKind.i64.bits)),AC.int IntKind.i64 ((wrap .i64 (wrap .i64 (a.h+b.h)+1)).fdiv (2^min (Int.toNat 1) IntKind.i64.bits)),AC.bool true]
     else(MO [AC.int IntKind.i64 u,AC.int IntKind.i64 ((wrap .i64 (wrap .i64 (a.r+b.r)+1)).fdiv (2^min (Int.toNat 1) IntKind.i64.bits)),AC.int IntKind.i64 (wrap .i64 (wrap .i64 (u*u)+wrap .i64 (w*w))),AC.int IntKind.i64 2]).bind fun o36=>
       (MO [AC.int IntKind.i64 w,AC.int IntKind.i64 ((wrap .i64 (wrap .i64 (a.r+b.r)+1)).fdiv (2^min (Int.toNat 1) IntKind.i64.bits)),AC.int IntKind.i64 (wrap .i64 (wrap .i64 (u*u)+wrap .i64 (w*w))),AC.int IntKind.i64 2]).bind fun o37=>
       some [AC.int IntKind.i64 (Af (nth AC.dead o36 0)),AC.int IntKind.i64 (Af (nth AC.dead o37 0)),AC.int IntKind.i64 ((wrap .i64 (wrap .i64 (a.r+b.r)+1)).fdiv (2^min (Int.toNat 1) IntKind.i64.bits)),AC.int IntKind.i64 ((wrap .i64 (wrap .i64 (a.h+b.h)+1)).fdiv (2^min (Int.toNat 1) IntKind.i64.bits)),AC.bool true])=
    some (CU (G9 a b u w)++[B (decide (¬(u=0/\w=0)))]):=by
  have q1:=DM hu;have q2:=DM hw;have e:wrap .i64 (wrap .i64 (u*u)+wrap .i64 (w*w))=sq2 u w:=by
    unfold sq2;generalize u*u=x at*;generalize w*w=y at*;rw[Ae (x:=x) (by omega),Ae (x:=y) (by omega),Ae (by omega)]
  have er:(wrap .i64 (wrap .i64 (a.r+b.r)+1)).fdiv (2^min (Int.toNat 1) IntKind.i64.bits)=hf a.r b.r:=by
    have h1:=ha.2.2.1;have h2:=hb.2.2.1;rw[Ae (x:=a.r+b.r) (by omega),Ae (x:=a.r+b.r+1) (by omega),show(2^min (Int.toNat 1) IntKind.i64.bits:Int)=2 from rfl,Int.fdiv_eq_ediv_of_nonneg _ (by omega)];rfl
  have eh:(wrap .i64 (wrap .i64 (a.h+b.h)+1)).fdiv (2^min (Int.toNat 1) IntKind.i64.bits)=hf a.h b.h:=by
    have h1:=ha.2.2.2;have h2:=hb.2.2.2;rw[Ae (x:=a.h+b.h) (by omega),Ae (x:=a.h+b.h+1) (by omega),show(2^min (Int.toNat 1) IntKind.i64.bits:Int)=2 from rfl,Int.fdiv_eq_ediv_of_nonneg _ (by omega)];rfl
  simp only[er,eh,e];simp only[go_sem];unfold G9;by_cases h:u=0/\w=0
  · rw[if_pos h.1,if_pos h.2,if_pos h]
    simp[h]
  · obtain⟨n1,n2⟩:=hO h
    rw[if_neg h];simp only[n1,n2,go_sem];have hd:decide (¬(u=0/\w=0))=true:=decide_eq_true h;rw[hd];by_cases hu0:u=0
    · rw[if_pos hu0,if_neg (fun hw0=>h ⟨hu0,hw0⟩)];try rfl
    · rw[if_neg hu0];try rfl
theorem Zig {MO MC MD:Fn} {a b:Spk} (ha:okS a) (hb:okS b) {dir:Int} (hd:dir=1\/dir= -1) (full:Bool)
    (hO:∀{u w:Int},u.natAbs<=100000000->w.natAbs<=100000000-> ¬(u=0/\w=0)->MO [I u,I (hf a.r b.r),I (sq2 u w),I 2]=some [I (BY u (hf a.r b.r) (sq2 u w)),B true]/\MO [I w,I (hf a.r b.r),I (sq2 u w),I 2]=some [I (BY w (hf a.r b.r) (sq2 u w)),B true])
    (hC:MC [I a.u,I a.w,I a.r,I a.h,I b.u,I b.w,I b.r,I b.h]=some [I (crs a.u a.w b.u b.w)]) (hD:MD [I a.u,I a.w,I a.r,I a.h,I b.u,I b.w,I b.r,I b.h]=some [I (dt2 a.u a.w b.u b.w)])
    (hcb:(crs a.u a.w b.u b.w).natAbs<=5000000000000000):
    Qak MO MC MD [I a.u,I a.w,I a.r,I a.h,I b.u,I b.w,I b.r,I b.h,I dir,B full]=some (CU (EL a b dir full)++[B (decide (¬((Dk a b dir full).1=0/\(Dk a b dir full).2=0)))]):=by
  have key:=fun{u w:Int} (hu:u.natAbs<=100000000) (hw:w.natAbs<=100000000)=>Zx6 (MO:=MO) (a:=a) (b:=b) ha hb hu hw (hO hu hw);have hbd:=Nn ha hb hd full;obtain⟨a1,a2,-⟩:=ha;obtain⟨b1,b2,-⟩:=hb;have w1:wrap .i64 (0-a.u)= -a.u:=by rw[Ae (by omega)];omega
  have w2:wrap .i64 (0-a.w)= -a.w:=by rw[Ae (by omega)];omega
  have w3:wrap .i64 (a.u+b.u)=a.u+b.u:=Ae (by omega);have w4:wrap .i64 (a.w+b.w)=a.w+b.w:=Ae (by omega);have w5:wrap .i64 (0-(a.u+b.u))= -(a.u+b.u):=by rw[Ae (by omega)];omega
  have w6:wrap .i64 (0-(a.w+b.w))= -(a.w+b.w):=by rw[Ae (by omega)];omega
  have w7:wrap .i64 (b.w-a.w)=b.w-a.w:=Ae (by omega);have w8:wrap .i64 (a.u-b.u)=a.u-b.u:=Ae (by omega);have w9:wrap .i64 (dir*(b.w-a.w))=dir*(b.w-a.w):=by rcases hd with rfl|rfl<;>exact Ae (by omega)
  have w10:wrap .i64 (dir*(a.u-b.u))=dir*(a.u-b.u):=by rcases hd with rfl|rfl<;>exact Ae (by omega)
  have w11:wrap .i64 (crs a.u a.w b.u b.w*dir)=crs a.u a.w b.u b.w*dir:=by rcases hd with rfl|rfl<;>exact Ae (by omega)
  rw[Zbi];try dsimp only[go_sem]
  unfold EL;simp only[w1,w2,w3,w4,w5,w6,w7,w8,w9,w10,hC,hD,Option.bind_some,Hu,HB,gA,jA,wA,bA,w11];have fin:∀{x:Option (List AC)},x=some (CU (G9 a b (Dk a b dir full).1 (Dk a b dir full).2)++[B (decide (¬((Dk a b dir full).1=0/\(Dk a b dir full).2=0)))])->
      (bif dir !=1 then bif dir != -1 then some [AC.int IntKind.i64 0,AC.int IntKind.i64 0,AC.int IntKind.i64 0,AC.int IntKind.i64 0,AC.bool false]else x else x)=some (CU (G9 a b (Dk a b dir full).1 (Dk a b dir full).2)++[B (decide (¬((Dk a b dir full).1=0/\(Dk a b dir full).2=0)))]):=by
    intro x hx;rcases hd with rfl|rfl
    · rw[Ba (by decide)];exact hx
    · rw[Br (by decide),Ba (by decide)];exact hx
  refine fin ?_;have hk:=key hbd.1 hbd.2;unfold Dk at*;cases full
  · simp only[cond_false,Bool.false_eq_true,if_false]at hk⊢
    by_cases c1:0<dt2 a.u a.w b.u b.w
    · rw[AX (show¬dt2 a.u a.w b.u b.w<=0 by omega)]
      by_cases c2:0<crs a.u a.w b.u b.w*dir
      · rw[AX (show¬crs a.u a.w b.u b.w*dir<=0 by omega)]
        rw[if_pos ⟨c1,c2⟩]at hk⊢;exact hk
      · rw[DA (show crs a.u a.w b.u b.w*dir<=0 by omega)]
        rw[if_neg (fun h=>c2 h.2),if_pos c1]at hk⊢;exact hk
    · rw[DA (show dt2 a.u a.w b.u b.w<=0 by omega)]
      rw[if_neg (fun h=>c1 h.1),if_neg c1]at hk⊢;exact hk
  · simp only[cond_true,if_true]at hk⊢
    exact hk
theorem Zjm {u w r:Int} (hu:u.natAbs<=100000000) (hw:w.natAbs<=100000000) (hr:0<=r/\r<=50000000) (h: ¬(u=0/\w=0)):
    H6 [I u,I r,I (sq2 u w),I 2]=some [I (BY u r (sq2 u w)),B true]/\H6 [I w,I r,I (sq2 u w),I 2]=some [I (BY w r (sq2 u w)),B true]:=by
  have hp:=QE h;have h1:=DM hu;have h2:=DM hw;have h3:sq2 u w<=20000000000000000:=by unfold sq2;omega
  exact⟨Qjo (by omega) (by omega) (by omega),Qjo (by omega) (by omega) (by omega)⟩
theorem Zmj {a b:Spk} (ha:okS a) (hb:okS b) {dir:Int} (hd:dir=1\/dir= -1) (full:Bool):
    KW [I a.u,I a.w,I a.r,I a.h,I b.u,I b.w,I b.r,I b.h,I dir,B full]=some (CU (EL a b dir full)++[B (decide (¬((Dk a b dir full).1=0/\(Dk a b dir full).2=0)))]):=by
  have hc:=(Qu6 ha.1 ha.2.1 hb.1 hb.2.1).2;exact Zig ha hb hd full (fun hu hw h=>Zjm hu hw (Qvj ha.2.2.1 hb.2.2.1) h)
    (Qe0 (Gj ha.1) (Gj ha.2.1) (Gj hb.1) (Gj hb.2.1)) (Ql1 (Gj ha.1) (Gj ha.2.1) (Gj hb.1) (Gj hb.2.1)) hc
def okT (s:Spk):Prop:=okS s/\ ¬(s.u=0/\s.w=0)/\1<=s.r
theorem Q8o {a b:Spk} (ha: ¬(a.u=0/\a.w=0)) (hb: ¬(b.u=0/\b.w=0)) {dir:Int} (hd:dir=1\/dir= -1) (full:Bool): ¬((Dk a b dir full).1=0/\(Dk a b dir full).2=0):=by
  have hp:=QE ha;unfold sq2 at hp;unfold Dk;split
  · simp only;omega
  · rename_i hf
    have key:0<dt2 a.u a.w b.u b.w-> ¬(a.u+b.u=0/\a.w+b.w=0):=by
      intro h1 ⟨h2,h3⟩;have e1:b.u= -a.u:=by omega
      have e2:b.w= -a.w:=by omega
      unfold dt2 at h1;rw[e1,e2,Int.mul_neg,Int.mul_neg]at h1;omega
    split
    · rename_i c;exact key c.1
    · split
      · rename_i c1 c2
        have:=key c2;simp only;omega
      · rename_i c1 c2
        simp only;rintro⟨h2,h3⟩;have e1:b.w=a.w/\a.u=b.u:=by rcases hd with rfl|rfl<;>omega
        unfold dt2 at c2;rw[e1.1,<-e1.2]at c2;omega
theorem Zys {u w r:Int} (hu:u.natAbs<=100000000) (hw:w.natAbs<=100000000) (hr:1<=r/\r<=50000000) (h: ¬(u=0/\w=0)): ¬(BY u r (sq2 u w)=0/\BY w r (sq2 u w)=0):=by
  have hp:=QE h;have h1:=DM hu;have h2:=DM hw;have h3:sq2 u w<=20000000000000000:=by unfold sq2;omega
  obtain⟨q1,q2⟩:=Qpi u w;have key:∀x:Int,x.natAbs<=100000000->x*x<=sq2 u w->BY x r (sq2 u w)=0->4*(x*x)<=sq2 u w:=by
    intro x hx hq h0;obtain⟨-,-,g3⟩:=Qx (x:=x) (r:=r) (n:=sq2 u w) (Nat.le_trans hx (by decide)) (by omega) (by omega) hq;rw[h0]at g3;obtain⟨-,g3⟩:=g3;have g4:4*(x.natAbs*r.natAbs*(x.natAbs*r.natAbs))<=(sq2 u w).natAbs:=by
      rw[show(0:Int).natAbs=0 from rfl]at g3;split at g3<;>omega
    have e1:x.natAbs*r.natAbs*(x.natAbs*r.natAbs)=x.natAbs*x.natAbs*(r.natAbs*r.natAbs):=by grind
    have g5:x.natAbs*x.natAbs*1<=x.natAbs*x.natAbs*(r.natAbs*r.natAbs):=Nat.mul_le_mul_left _ (Nat.mul_le_mul (show 1<=r.natAbs by omega) (show 1<=r.natAbs by omega));have e2:((x.natAbs*x.natAbs:Nat):Int)=x*x:=Int.natAbs_mul_self;omega
  rintro⟨g1,g2⟩;have k1:=key u hu q1 g1;have k2:=key w hw q2 g2;unfold sq2 at*;omega
theorem Zxt {a b:Spk} (ha:okT a) (hb:okT b) {dir:Int} (hd:dir=1\/dir= -1) (full:Bool):okT (EL a b dir full):=by
  have hn:=Q8o ha.2.1 hb.2.1 hd full;have hbd:=Nn ha.1 hb.1 hd full;have h1:=ha.1.2.2.1;have h2:=hb.1.2.2.1;have h3:=ha.2.2;have h4:=hb.2.2;have hh:1<=hf a.r b.r/\hf a.r b.r<=50000000:=by unfold hf;omega
  refine⟨Q7f ha.1 hb.1 hd full,?_,?_⟩
  · unfold EL G9
    rw[if_neg hn];exact Zys hbd.1 hbd.2 hh hn
  · unfold EL G9
    rw[if_neg hn];exact hh.1
theorem Zpa {r n:Int} (hr:0<=r/\r<=50000000):Mb [I r,I n]=some [B (decide (n<=32*r-64))]:=by
  unfold Mb;rw[Zdd,Ae (x:=8*r) (by omega),Ae (x:=8*r*4) (by omega),Ae (x:=8*r*4-64) (by omega),show 8*r*4-64=32*r-64 by omega]
theorem Zin {MF MC:Fn} {out:Rw} {a b:Spk} (ha:okS a) (hb:okS b) {dir:Int} (hd:dir=1\/dir= -1) (full:Bool)
    (hF:∀{r n:Int},(0<=r/\r<=50000000)->MF [I r,I n]=some [B (decide (n<=32*r-64))])
    (hC:MC [I a.u,I a.w,I a.r,I a.h,I b.u,I b.w,I b.r,I b.h]=some [I (crs a.u a.w b.u b.w)]) (hcb:(crs a.u a.w b.u b.w).natAbs<=5000000000000000):
    Qfv MF MC [.view DV out,I a.u,I a.w,I a.r,I a.h,I b.u,I b.w,I b.r,I b.h,B full,I dir]=some [.view DV out,B (decide (HX a b dir full)),I dir]:=by
  have hr:0<=mn a.r b.r/\mn a.r b.r<=50000000:=by
    have h1:=ha.2.2.1;have h2:=hb.2.2.1;unfold mn;split<;>omega
  obtain⟨a1,a2,-⟩:=ha;obtain⟨b1,b2,-⟩:=hb;have x1:=In a1 b1;have x2:=In a2 b2;have q1:=DM x1;have q2:=DM x2;have e:wrap .i64 (wrap .i64 ((a.u-b.u)*(a.u-b.u))+wrap .i64 ((a.w-b.w)*(a.w-b.w)))=sq2 (a.u-b.u) (a.w-b.w):=by
    unfold sq2;generalize(a.u-b.u)*(a.u-b.u)=x at*;generalize(a.w-b.w)*(a.w-b.w)=y at*;rw[Ae (x:=x) (by omega),Ae (x:=y) (by omega),Ae (by omega)]
  have w11:wrap .i64 (crs a.u a.w b.u b.w*dir)=crs a.u a.w b.u b.w*dir:=by rcases hd with rfl|rfl<;>exact Ae (by omega)
  rw[Zfa,H4 x1 (by decide),H4 x2 (by decide),e];cases full
  · simp only[Bool.not_false,cond_true,hC,Option.bind_some,Hu,HB,gA,jA,wA,bA,w11,hF hr,Qhh]
    by_cases c:0<crs a.u a.w b.u b.w*dir
    · rw[DA (show crs a.u a.w b.u b.w*dir>0 from c)]
      by_cases c2:sq2 (a.u-b.u) (a.w-b.w)<=32*mn a.r b.r-64
      · rw[decide_eq_true c2,decide_eq_true (show HX a b dir false from⟨rfl,c,c2⟩)]
      · rw[decide_eq_false c2,decide_eq_false (fun h:HX a b dir false=>c2 h.2.2)]
    · rw[AX (show¬crs a.u a.w b.u b.w*dir>0 from c),decide_eq_false (fun h:HX a b dir false=>c h.2.1)]
  · simp only[Bool.not_true,cond_false]
    rw[decide_eq_false (fun h:HX a b dir true=>by cases h.1)]
theorem Zs8 {out:Rw} {a b:Spk} (ha:okS a) (hb:okS b) {dir:Int} (hd:dir=1\/dir= -1) (full:Bool):
    Lj [.view DV out,I a.u,I a.w,I a.r,I a.h,I b.u,I b.w,I b.r,I b.h,B full,I dir]=some [.view DV out,B (decide (HX a b dir full)),I dir]:=
  Zin ha hb hd full Zpa (Qe0 (Gj ha.1) (Gj ha.2.1) (Gj hb.1) (Gj hb.2.1)) (Qu6 ha.1 ha.2.1 hb.1 hb.2.1).2
theorem Qke {dir:Int} (hd:dir=1\/dir= -1):∀(n k:Nat) (full:Bool) (a b:Spk) (out:List Spk),k<=16->k<n->okT a->okT b->out.length+2^k<=1000000->
    Mi n [.view DV (out.map CU),I a.u,I a.w,I a.r,I a.h,I b.u,I b.w,I b.r,I b.h,B full,I (16-k:Int),I dir]=some [.view DV ((out++DK dir k full a b).map CU),I dir]
  |0,k,_,_,_,_,_,hk,_,_,_=>by omega
  |n+1,0,full,a,b,out,_,_,ha,hb,ho=>by
    show QI _ _ _ _=_;rw[Qs8,AX (by omega),Br]
    · unfold DK
      rw[List.map_append];rfl
    · exact Nat.ble_eq_true_of_le (by simp only[List.length_append,List.length_map,List.length_cons,List.length_nil];omega)
  |n+1,k+1,full,a,b,out,hk,hn,ha,hb,ho=>by
    have hm:=Zxt ha hb hd full;have hz:=Q8o ha.2.1 hb.2.1 hd full;have e3:2^(k+1)=2^k+2^k:=by rw[Nat.pow_succ];omega
    have hp:0<2^k:=Nat.two_pow_pos _;have l1:=(Tj k false a (EL a b dir full) (dir:=dir)).2;have i1:=Qke hd n k false a (EL a b dir full) out (by omega) (by omega) ha hm (by omega);have i2:=Qke hd n k false (EL a b dir full) b (out++DK dir k false a (EL a b dir full)) (by omega) (by omega) hm hb (by rw[List.length_append];omega);have e1:=Zs8 (out:=out.map CU) ha.1 hb.1 hd full;have e2:=Zmj ha.1 hb.1 hd full;rw[decide_eq_true hz]at e2;show QI (Mi n) KW Lj _=_;generalize Mi n=MP at*;generalize KW=MM at*;generalize Lj=MS at*;rw[Qs8,DA (by omega),Ae (by omega),show(16-((k+1:Nat):Int)+1)=16-(k:Int) by omega];unfold DK;generalize EL a b dir full=m at*;generalize DK dir k false a m=p1 at*;generalize DK dir k false m b=p2 at*;simp only[List.cons_append,List.nil_append,CU]at e2;simp only[e1,e2,Option.bind_some,Hu,KD,Lk,PQ,PR,HB,gA,jA,wA,bA,Qhh,i1,i2,WE];by_cases c:HX a b dir full
    · rw[if_pos c,Ba (by simp[c]),Br]
      · rw[List.map_append];rfl
      · exact Nat.ble_eq_true_of_le (by simp only[List.length_append,List.length_map,List.length_cons,List.length_nil];omega)
    · rw[if_neg c,Br (by simp[c]),cond_true,List.append_assoc]
end Go.Bm
namespace Go.Bm
theorem Q60 {it:Itm} {p:Pt} (hc:bd 1048576 it.ce) (hp:bd 1048576 p) (hq:64<=sq2 (dU it p) (dW it p)):okT (Ed it p):=by
 obtain⟨h1,h2,h3,h4⟩:=Qr hc hp;have e:sq2 (dU it p*16) (dW it p*16)=256*sq2 (dU it p) (dW it p):=by unfold sq2;grind
 refine⟨RC hc hp,?_,?_⟩
 ·show¬(dU it p*16=0/\dW it p*16=0);rintro⟨g1,g2⟩;rw[show dU it p=0 by omega,show dW it p=0 by omega]at hq;simp[sq2]at hq
 ·show 1<=FF _;obtain⟨n,hn⟩:=Int.eq_ofNat_of_zero_le h3;rw[hn]at h4⊢;obtain⟨r,-,r2,r3,-⟩:=To (n:=n) (by omega);rw[Q6 (Rp r2 r3)];have:1<=r:=by
   rcases Nat.eq_zero_or_pos r with h|h
   ·subst h;omega
   ·exact h
  split<;>omega
theorem Zno {n:Nat} (hn:n<=2251799813685248):Jf [I n,I 2]=some [I (FF n),B true]:=by
 obtain⟨r,h1,h2,h3⟩:=Qwg (n:=n) (mode:=2) (by omega) (.inr rfl);rw[h1,Q6 (Rp h2 h3)];congr 3;by_cases c:r*r+r<n
 ·rw[if_pos (.inr ⟨rfl,c⟩),if_pos c]
 ·rw[if_neg (by simp;omega),if_neg c]
theorem Zde {MP MQ MD ME MV:Fn} {it:Itm} (hV:∃v,MV (Ag it)=some [B v]/\(v=true↔Dp it)) (h:Dp it)
  (hE:it.kind=3->ME (Ag it)=some [I (dU it it.fr*16),I (dW it it.fr*16),I 0,I (plH it.plane it.fr*16),I (dU it it.to*16),I (dW it it.to*16),I 0,I (plH it.plane it.to*16)])
  (hD:∀p:Pt,it.kind=3->(p=it.fr\/p=it.to)->MD [I (dU it p*16),I (dW it p*16),I 0,I (plH it.plane p*16),I (dU it p*16),I (dW it p*16),I 0,I (plH it.plane p*16)]=some [I (sq2 (dU it p*16) (dW it p*16))])
  (hQ:∀p:Pt,it.kind=3->(p=it.fr\/p=it.to)->MQ [I (sq2 (dU it p*16) (dW it p*16)),I 2]=some [I (FF (sq2 (dU it p*16) (dW it p*16))),B true])
  (hP:it.kind=3->MP (.view DV [CU (Ed it it.fr)]::CU (Ed it it.fr)++CU (Ed it it.to)++[B it.full,I 0,I it.dir])=some [.view DV ((DO it).map CU),I it.dir]):
  Qip MP MQ MD ME MV (Ag it)=if it.kind=3 then some [.view DV ((DO it).map CU),B true]else some [.view DV [],B false]:=by
 obtain⟨v,hv,hvv⟩:=hV;rw[Zt2];by_cases h3:it.kind=3
 ·have e:=hE h3;have p:=hP h3;have d1:=hD it.fr h3 (.inl rfl);have d2:=hD it.to h3 (.inr rfl);have q1:=hQ it.fr h3 (.inl rfl);have q2:=hQ it.to h3 (.inr rfl);simp only[List.cons_append,List.nil_append,Ed,CU]at p;simp only[go_sem,hv,e,d1,d2,q1,q2,p];rw[if_neg (by simp[h3]),if_neg (by simp[hvv.2 h]),if_pos h3]
 ·simp only[go_sem];rw[if_pos h3,if_neg h3]
theorem Zi0 {it:Itm} (h:Dp it):Mx (Ag it)=if it.kind=3 then some [.view DV ((DO it).map CU),B true]else some [.view DV [],B false]:=by
 have hb:it.kind=3->∀p:Pt,(p=it.fr\/p=it.to)->bd 1048576 it.ce/\bd 1048576 p:=by
  intro h3 p hp;obtain⟨-,h1,h2,ha⟩:=h;obtain⟨-,-,hc,-⟩:=ha h3;rcases hp with rfl|rfl
  ·exact⟨hc,h1⟩
  ·exact⟨hc,h2⟩
 refine Zde (Qm5 it) h (fun h3=> ?_) (fun p h3 hp=> ?_) (fun p h3 hp=> ?_) fun h3=> ?_
 ·obtain⟨-,h1,h2,ha⟩:=h;obtain⟨hp,-,hc,-⟩:=ha h3;exact Qqs hp h1 h2 hc
 ·obtain⟨hc,hp2⟩:=hb h3 p hp;obtain⟨g1,g2,-⟩:=Qr hc hp2;exact Ql1 (Nat.le_trans g1 (by decide)) (Nat.le_trans g2 (by decide)) (Nat.le_trans g1 (by decide)) (Nat.le_trans g2 (by decide))
 ·obtain⟨hc,hp2⟩:=hb h3 p hp;obtain⟨-,-,g3,g4⟩:=Qr hc hp2;obtain⟨n,hn⟩:=Int.eq_ofNat_of_zero_le g3;rw[hn]at g4⊢;exact Zno (by omega)
 ·obtain⟨-,h1,h2,ha⟩:=h;obtain⟨hp,hd,hc,t1,t2,-⟩:=ha h3;have:=Qke hd 20 16 it.full (Ed it it.fr) (Ed it it.to) [Ed it it.fr] (by omega) (by omega) (Q60 hc h1 t1) (Q60 hc h2 t2) (show 1+2^16<=1000000 by decide);exact this
theorem Zzp {u w h pl:Int} (hp:C8 pl):Nw [I u,I w,I h,I pl]=some (ptR (spP pl u w h)):=by
 show Qeo FK _=_;have h1:=Ql9 pl;generalize FK=M at*;rw[Zct];rcases hp with rfl|rfl|rfl
 ·have e:axI 17=(0,1,2):=rfl;rw[e]at h1;rw[h1];rfl
 ·have e:axI 18=(2,0,1):=rfl;rw[e]at h1;rw[h1];rfl
 ·have e:axI 19=(1,2,0):=rfl;rw[e]at h1;rw[h1];rfl
theorem Zxi {α:Type} (pre rest:List α) (x z:α):(pre++x::rest).set pre.length z=(pre++[z])++rest:=by
 rw[List.set_append_right _ _ (Nat.le_refl _),Nat.sub_self];simp
def Ek {α:Type} (f:Nat->α) (z:α) (n i:Nat):List α:=(List.range i).map f++List.replicate (n-i) z
theorem Quw {α:Type} (f:Nat->α) (z:α) {n i:Nat} (h:i<=n):(Ek f z n i).length=n:=by unfold Ek;simp;omega
theorem Quf {α:Type} (f:Nat->α) (z:α) {n i:Nat} (h:i<n):(Ek f z n i).set i (f i)=Ek f z n (i+1):=by
 unfold Ek;have e:n-i=(n-(i+1))+1:=by omega
 rw[e,List.replicate_succ];have:=Zxi ((List.range i).map f) (List.replicate (n-(i+1)) z) z (f i);rw[List.length_map,List.length_range]at this;rw[this,List.range_succ,List.map_append];rfl
theorem Q0i {α:Type} (f:Nat->α) (z:α) (n:Nat):Ek f z n n=(List.range n).map f:=by unfold Ek;simp
theorem Z1x {α:Type} (l:List α) (d:α):(List.range l.length).map (fun i=>l.getD i d)=l:=by
 apply List.ext_getElem
 ·simp
 ·intro i h1 h2;simp[h2]
def J2:Spk:=⟨0,0,0,0⟩
theorem Qqz {MS MP MF MK MV:Fn} {it:Itm} {l:List Spk} {cu cw:Int} (hl:l.length<=65537) (hcu:cu.natAbs<=16777216) (hcw:cw.natAbs<=16777216) (hok:∀s∈l,okS s)
  (hS:∀{u w h:Int},MS [I u,I w,I h,I it.plane]=some (ptR (spP it.plane u w h))) {f:Nat->List AC} (hf:∀i,f i=ptR (spP it.plane (cu+(l.getD i J2).u) (cw+(l.getD i J2).w) (l.getD i J2).h)):
  ∀(k i:Nat),i+k=l.length->An (Oe MS MP MF MK MV) (.view kPt (Ek f [I 0,I 0,I 0] l.length i)::I cu::I cw:: .view DV (l.map CU)::I l.length::I i::Ag it)=
   some (1,[.view kPt ((List.range l.length).map f)])
 |0,i,hi=>by
  refine A5 ?_ (by simp);rw[Qrn];simp only[go_sem];rw[if_neg (by omega),show i=l.length by omega,Q0i]
 |k+1,i,hi=>by
  have hlt:i<l.length:=by omega
  have hs:Oe MS MP MF MK MV (.view kPt (Ek f [I 0,I 0,I 0] l.length i)::I cu::I cw:: .view DV (l.map CU)::I l.length::I i::Ag it)=
    some (0, .view kPt (Ek f [I 0,I 0,I 0] l.length (i+1))::I cu::I cw:: .view DV (l.map CU)::I l.length::I (i+1:Nat)::Ag it):=by
   rw[Qrn];have hr:nth [] (l.map CU) i=CU l[i]:=IW _ _ _ _ hlt;have ho:=hok _ (List.getElem_mem hlt);have hfl:=Quw f [I 0,I 0,I 0] (show i<=l.length by omega);have hfi:=hf i;rw[show l.getD i J2=l[i] by simp[hlt]]at hfi;have hset:=Quf f [I 0,I 0,I 0] hlt;rw[hfi]at hset;generalize l[i]=s at*;obtain⟨s1,s2,-⟩:=ho;simp only[go_sem,Int.toNat_natCast,List.length_map,hr];rw[if_pos (by omega),if_pos (by omega),Ae (x:=cu+s.u) (by omega),Ae (x:=cw+s.w) (by omega),Ae (x:=(i:Int)+1) (by omega)];simp only[hS,go_sem,hfl];rw[if_pos (by omega),hset];rfl
  rw[Bv hs];exact Qqz hl hcu hcw hok hS hf k (i+1) (by omega)
theorem Zp1 {MS MP MF MK MV:Fn} {N:Lp} {it:Itm} {S:List Spk} {C:Rw} {f:Pt} {u w h:Int} (hv:MV (Ag it)=some [B true])
  (hK:MK (Ag it)=some [.view DV (S.map CU),B true]) (hf:MF [I it.ce.x,I it.ce.y,I it.ce.z]=some (ptR f)) (hpp:MP [I f.x,I f.y,I f.z,I it.plane]=some [I u,I w,I h]) (hS:S.length<=65537)
  (hN:N [.view kPt (List.replicate S.length [I 0,I 0,I 0]),I u,I w, .view DV (S.map CU),I S.length,I 0,I it.kind,I it.block,I it.fr.x,I it.fr.y,I it.fr.z,I it.to.x,I it.to.y,I it.to.z,I it.plane,I it.ce.x,I it.ce.y,I it.ce.z,I it.dir,B it.full,I it.feed,B it.perRev,I it.side,I it.radius,I it.blend,I it.n,I it.speed,B it.on]=some (1,[.view kPt C])):
  Tw MS MP MF MK MV N (Ag it)=some [.view kPt C,B true]:=by
 rw[Y_];simp only[go_sem,hv,hK,hf,hpp,List.length_map,Int.toNat_natCast,hN];rw[if_neg (by simp),if_neg (by simp),if_pos (by omega)]
theorem Zzy {MS MP MF MK MV:Fn} {it:Itm} (hV:∃v,MV (Ag it)=some [B v]/\(v=true↔Dp it)) (h:Dp it)
  (hK:MK (Ag it)=if it.kind=3 then some [.view DV ((DO it).map CU),B true]else some [.view DV [],B false])
  (hF:∀{p:Pt},bd 100000000 p->MF [I p.x,I p.y,I p.z]=some (ptR (Ax p))) (hP:C8 it.plane->∀{p:Pt},MP [I p.x,I p.y,I p.z,I it.plane]=some [I (plU it.plane p),I (plW it.plane p),I (plH it.plane p)])
  (hS:C8 it.plane->∀{u w h:Int},MS [I u,I w,I h,I it.plane]=some (ptR (spP it.plane u w h))):
  Tw MS MP MF MK MV (An (Oe MS MP MF MK MV)) (Ag it)=some [.view kPt ((CM it).map ptR),B true]:=by
 obtain⟨v,hv,hvv⟩:=hV;rw[Y_];have hv1:=hvv.2 h;subst hv1;obtain⟨-,h1,h2,ha⟩:=id h;by_cases h3:it.kind=3
 ·obtain⟨hp,hd,hc,-⟩:=ha h3;rw[if_pos h3]at hK;obtain⟨c1,c2,c3⟩:=HA (pl:=it.plane) (Ff hc);have hsl:=(Q55 it).2;have hl:=Qqz (MS:=MS) (MP:=MP) (MF:=MF) (MK:=MK) (MV:=MV) (it:=it) (l:=DO it) (cu:=plU it.plane (Ax it.ce)) (cw:=plW it.plane (Ax it.ce)) hsl c1 c2 (Qrv h h3) (hS hp)
   (f:=fun i=>ptR (IX it ((DO it).getD i J2))) (fun _=>rfl) (DO it).length 0 (by omega)
  have hres:(List.range (DO it).length).map (fun i=>ptR (IX it ((DO it).getD i J2)))=((DO it).map (IX it)).map ptR:=by
   rw[List.map_map]
   conv=>rhs;rw[<-Z1x (DO it) J2]
   rw[List.map_map];rfl
  rw[hres]at hl;have hf0:Ek (fun i=>ptR (IX it ((DO it).getD i J2))) [I 0,I 0,I 0] (DO it).length 0=List.replicate (DO it).length [I 0,I 0,I 0]:=by unfold Ek;simp
  rw[hf0]at hl;have hf:=hF (AV hc (by decide));have hpp:= @hP hp (Ax it.ce);have:=Zp1 (MS:=MS) (N:=An (Oe MS MP MF MK MV)) hv hK hf hpp hsl hl;rw[Y_]at this;unfold CM;rw[if_pos h3];exact this
 ·rw[if_neg h3]at hK;have f1:=hF (AV h1 (by decide));have f2:=hF (AV h2 (by decide));unfold CM;rw[if_neg h3];simp only[go_sem,hv,hK,f1,f2];simp
theorem Zps {it:Itm} (h:Dp it):OS (Ag it)=some [.view kPt ((CM it).map ptR),B true]:=
 Zzy (Qm5 it) h (Zi0 h) Q8j (fun hp=>Qsf hp) (fun hp=>Zzp hp)
end Go.Bm
namespace Go.Bm
theorem Zyq {MO:Fn} {c a:Pt} {d:Int} (hc:bd B24 c) (ha:bd B24 a) (hne:a≠c) (hd:0<=d/\d<=33554432)
  (hN:∀{x:Int},x.natAbs<=33554432*4->x*x<=sqD a c->MO [I x,I d,I (sqD a c),I 2]=some [I (BY x d (sqD a c)),B true]/\(BY x d (sqD a c)).natAbs<=268435456):
  Xj MO [I c.x,I c.y,I c.z,I a.x,I a.y,I a.z,I d]=some (ptR (BM c a d)++[B true]):=by
 obtain⟨q1,q2,q3⟩:=Quv a c;have x1:=In ha.1 hc.1;have x2:=In ha.2.1 hc.2.1;have x3:=In ha.2.2 hc.2.2;obtain⟨n1,b1⟩:=hN (x:=a.x-c.x) (Nat.le_trans x1 (by decide)) q1;obtain⟨n2,b2⟩:=hN (x:=a.y-c.y) (Nat.le_trans x2 (by decide)) q2;obtain⟨n3,b3⟩:=hN (x:=a.z-c.z) (Nat.le_trans x3 (by decide)) q3;have h6: ¬d<0:=Int.not_lt.2 hd.1;have h7: ¬d>33554432:=Int.not_lt.2 hd.2;rw[Zzn,Qs0 (AV ha (by decide)) (AV hc (by decide)),H4 x1 (by decide),H4 x2 (by decide),H4 x3 (by decide)];simp only[go_sem,n1,n2,n3];rw[if_neg (fun h=>hne (D8.2 ⟨h.1,h.2.1,h.2.2.1⟩)),if_neg h6,if_neg h7];rw[H4 (RZ hc.1 b1) (by decide),H4 (RZ hc.2.1 b2) (by decide),H4 (RZ hc.2.2 b3) (by decide)];rfl
theorem Qc8 {c a:Pt} {d:Int} (hc:bd B24 c) (ha:bd B24 a) (hne:a≠c) (hd:0<=d/\d<=33554432):
  GU [I c.x,I c.y,I c.z,I a.x,I a.y,I a.z,I d]=some (ptR (BM c a d)++[B true]):=by
 have h0:sqD a c≠0:=fun h=>hne (Wd.1 h);have h1:=Qa a c;have h2:=Qe (AV ha (by decide)) (AV hc (by decide)) (show 67108864<=67108864 by omega);refine Zyq hc ha hne hd fun{x} hx hq=> ?_;obtain⟨-,g2,-⟩:=Qx hx (r:=d) (by omega) (n:=sqD a c) (by omega) hq;exact⟨Qjo (Nat.le_trans hx (by decide)) (by omega) (by omega),g2⟩
theorem Q5i {p c q:Pt} (hp:bd B24 p) (hc:bd B24 c) (hq:bd B24 q):Gq [I p.x,I p.y,I p.z,I c.x,I c.y,I c.z,I q.x,I q.y,I q.z]=some [I (HC p c q)]:=by
 have hb:=Zw2 hp hc hq;have g1:=DM hb.1;have g2:=DM hb.2.1;have g3:=DM hb.2.2;unfold Gq;unfold bd B24 at hp hc hq;have w:∀u v c:Int,u.natAbs<=16777216->v.natAbs<=16777216->c.natAbs<=16777216->wrap .i64 (wrap .i64 (u+v)-wrap .i64 (2*c))=u-c+(v-c):=by
  intro u v c h1 h2 h3;rw[Ae (x:=u+v) (by omega),Ae (x:=2*c) (by omega),Ae (by omega)];omega
 rw[Zth,w _ _ _ hp.1 hq.1 hc.1,w _ _ _ hp.2.1 hq.2.1 hc.2.1,w _ _ _ hp.2.2 hq.2.2 hc.2.2];have e1:p.x-c.x+(q.x-c.x)=(F9 p c q).x:=rfl;have e2:p.y-c.y+(q.y-c.y)=(F9 p c q).y:=rfl;have e3:p.z-c.z+(q.z-c.z)=(F9 p c q).z:=rfl;rw[e1,e2,e3];unfold HC ID;generalize(F9 p c q).x*(F9 p c q).x=u at*;generalize(F9 p c q).y*(F9 p c q).y=v at*;generalize(F9 p c q).z*(F9 p c q).z=w at*;rw[Ae (x:=u) (by omega),Ae (x:=0+u) (by omega),Ae (x:=v) (by omega),Ae (x:=0+u+v) (by omega),Ae (x:=w) (by omega),Ae (by omega),Int.zero_add]
open Classical in
theorem Zl7 {MB MT ML:Fn} {a c b:Pt} {tol d e bit:Int} (ha:bd B24 a) (hc:bd B24 c) (hb:bd B24 b) (hac:a≠c) (hbc:b≠c) (ht:0<=tol/\tol<=16000) (hd:0<=d/\d+e<=33554432) (he:0<e) (hbit:e.fdiv (2^min (Int.toNat 1) IntKind.i64.bits)=bit)
  (l3:0<=AB a c/\AB a c<=268435456) (l4:0<=AB c b/\AB c b<=268435456)
  (hT:∀{a:Pt} {d:Int},bd B24 a->a≠c->0<=d/\d<=33554432->MT [I c.x,I c.y,I c.z,I a.x,I a.y,I a.z,I d]=some (ptR (BM c a d)++[B true]))
  (hB:∀{p q:Pt},bd B24 p->bd B24 q->MB [I p.x,I p.y,I p.z,I c.x,I c.y,I c.z,I q.x,I q.y,I q.z]=some [I (HC p c q)]):
  L6 MB MT ML [I tol,I (mn (AB a c) (AB c b)-2),I d,I e,I a.x,I a.y,I a.z,I c.x,I c.y,I c.z,I b.x,I b.y,I b.z]=
   some (0,[I tol,I (mn (AB a c) (AB c b)-2),I (if GW a c b tol (d+e)then d+e else d),I bit,I a.x,I a.y,I a.z,I c.x,I c.y,I c.z,I b.x,I b.y,I b.z]):=by
 obtain⟨m1,m2⟩:=QQ (AB a c) (AB c b);have ht2:0<=16*tol*tol/\16*tol*tol<=4096000000:=by
  have:=Int.mul_le_mul (show 16*tol<=256000 by omega) ht.2 ht.1 (by omega);exact⟨Int.mul_nonneg (by omega) ht.1,by omega⟩
 rw[Qzs,hbit,Ae (x:=d+e) (by omega),DA he,Ae (x:=16*tol) (by omega),Ae (x:=16*tol*tol) (by omega)];by_cases h:d+e>mn (AB a c) (AB c b)-2
 ·rw[DA h,if_neg (fun h3:GW a c b tol (d+e)=>by have:=h3.1;omega)]
 ·rw[AX h];have k1:bd B24 (BM c a (d+e)):=Jx hc ha hac (by omega);have k2:bd B24 (BM c b (d+e)):=Jx hc hb hbc (by rw[Ta b c];omega);have t1:=hT (d:=d+e) ha hac (by omega);have t2:=hT (d:=d+e) hb hbc (by omega);simp only[List.cons_append,List.nil_append,ptR]at t1 t2;simp only[t1,t2,go_sem,hB k1 k2];by_cases h2:HC (BM c a (d+e)) c (BM c b (d+e))<=16*tol*tol
  ·rw[if_pos h2,if_pos (show GW a c b tol (d+e)from⟨by omega,h2⟩)]
  ·rw[if_neg h2,if_neg (fun h3:GW a c b tol (d+e)=>h2 h3.2)]
open Classical in
theorem Qww {MB MT ML:Fn} {a c b:Pt} {tol m:Int}
  (hst : ∀ {d e bit : Int}, 0 <= d /\ d + e <= 33554432 -> 0 < e -> e.fdiv (2 ^ min (Int.toNat 1) IntKind.i64.bits) = bit -> L6 MB MT ML [I tol, I m, I d, I e, I a.x, I a.y, I a.z, I c.x, I c.y, I c.z, I b.x, I b.y, I b.z] =
   some (0,[I tol,I m,I (if GW a c b tol (d+e)then d+e else d),I bit,I a.x,I a.y,I a.z,I c.x,I c.y,I c.z,I b.x,I b.y,I b.z])):
  ∀(k:Nat) (d:Int),0<=d/\d+((2^(k+1):Nat):Int)<=33554432->
  An (L6 MB MT ML) [I tol,I m,I d,I ((2^k:Nat):Int),I a.x,I a.y,I a.z,I c.x,I c.y,I c.z,I b.x,I b.y,I b.z]=some (1,[I (FN (GW a c b tol) k d)])
 |0,d,hd=>by
  simp only[Nat.zero_add,Nat.pow_one]at hd;have hend:∀d:Int,An (L6 MB MT ML) [I tol,I m,I d,I 0,I a.x,I a.y,I a.z,I c.x,I c.y,I c.z,I b.x,I b.y,I b.z]=some (1,[I d]):=by
   intro d;refine A5 ?_ (by simp);rw[Qzs];rw[AX (by omega)]
  have hs:=hst (d:=d) (e:=1) (by omega) (by omega) Zo4;have e:((2^0:Nat):Int)=1:=rfl;rw[e,Bv hs,hend];rfl
 |k+1,d,hd=>by
  have hp:0<2^(k+1):=Nat.two_pow_pos _;have e3:2^(k+1+1)=2^(k+1)+2^(k+1):=by rw[Nat.pow_succ 2 (k+1)];omega
  rw[e3]at hd;have hs:=hst (d:=d) (e:=((2^(k+1):Nat):Int)) (by omega) (by omega) (Zia k);rw[Bv hs];unfold FN;refine Qww hst k _ ?_;split<;>omega
theorem Q9e {ML:Fn} {N:Lp} {MB MT:Fn} {a c b:Pt} {tol:Int}
  (l1:ML [I a.x,I a.y,I a.z,I c.x,I c.y,I c.z]=some [I (AB a c)]) (l2:ML [I c.x,I c.y,I c.z,I b.x,I b.y,I b.z]=some [I (AB c b)])
  (l3:0<=AB a c/\AB a c<=268435456) (l4:0<=AB c b/\AB c b<=268435456)
  (hN:a≠c->b≠c->N [I tol,I (mn (AB a c) (AB c b)-2),I 0,I 16777216,I a.x,I a.y,I a.z,I c.x,I c.y,I c.z,I b.x,I b.y,I b.z]=some (1,[I (FN (GW a c b tol) 24 0)])):
  Qos MB MT ML N [I a.x,I a.y,I a.z,I c.x,I c.y,I c.z,I b.x,I b.y,I b.z,I tol]=some [I (Db a c b tol)]:=by
 rw[Zsi];have m3:0<=mn (AB a c) (AB c b)/\mn (AB a c) (AB c b)<=268435456:=by unfold mn;split<;>omega
 unfold Db;by_cases h1:a=c
 ·rw[if_pos (.inl h1)];have h2:=D8.1 h1;simp only[go_sem];rw[if_pos ⟨h2.1,h2.2.1,h2.2.2,trivial⟩]
 ·by_cases h2:b=c
  ·rw[if_pos (.inr h2)];have h3:=D8.1 h2;simp only[go_sem];rw[if_neg (fun h=>h1 (D8.2 ⟨h.1,h.2.1,h.2.2.1⟩)),if_pos ⟨h3.1,h3.2.1,h3.2.2,trivial⟩]
  ·have hl':=hN h1 h2;simp only[go_sem,l1,l2];rw[Ae (by omega)];simp only[hl',go_sem];rw[if_neg (fun h=>h1 (D8.2 ⟨h.1,h.2.1,h.2.2.1⟩)),if_neg (fun h=>h2 (D8.2 ⟨h.1,h.2.1,h.2.2.1⟩)),if_neg (show¬(a=c\/b=c)from fun h=>h.elim h1 h2)];by_cases h3:FN (GW a c b tol) 24 0<16
   ·rw[if_pos h3,if_pos h3]
   ·rw[if_neg h3,if_neg h3]
theorem Zx7 {a c b:Pt} {tol:Int} (ha:bd B24 a) (hc:bd B24 c) (hb:bd B24 b) (ht:0<=tol/\tol<=16000):
  K_ [I a.x,I a.y,I a.z,I c.x,I c.y,I c.z,I b.x,I b.y,I b.z,I tol]=some [I (Db a c b tol)]:=by
 have A:=AV ha (show B24<=67108864 by decide);have C:=AV hc (show B24<=67108864 by decide);have D:=AV hb (show B24<=67108864 by decide);exact Q9e (U4 A C) (U4 C D) (Ih A C) (Ih C D)
  fun h1 h2=>Qww (fun hd he hbit=>Zl7 ha hc hb h1 h2 ht hd he hbit (Ih A C) (Ih C D) (fun hb hn hd=>Qc8 hc hb hn hd) fun hp hq=>Q5i hp hc hq) 24 0 (by decide)
theorem Zd2 {M:Fn} {p c q:Pt} (hM:M [I p.x,I p.y,I p.z,I c.x,I c.y,I c.z,I q.x,I q.y,I q.z]=some [I (HC p c q)]):
  ∀(k:Nat) (n:Int),Kj n->64<=n*2^k->An (Pc M) [I n,I p.x,I p.y,I p.z,I c.x,I c.y,I c.z,I q.x,I q.y,I q.z]=some (1,[I (Ly (HC p c q) k n)]):=by
 have hst:∀n:Int,Kj n->Pc M [I n,I p.x,I p.y,I p.z,I c.x,I c.y,I c.z,I q.x,I q.y,I q.z]=if n<64/\HC p c q>16*n*n*n*n*4*4 then some (0,[I (n*2),I p.x,I p.y,I p.z,I c.x,I c.y,I c.z,I q.x,I q.y,I q.z])else some (1,[I n]):=by
  intro n hn;rw[Zv7];simp only[go_sem,hM];have hw:wrap .i64 (wrap .i64 (wrap .i64 (wrap .i64 (wrap .i64 (wrap .i64 (16*n)*n)*n)*n)*4)*4)=16*n*n*n*n*4*4/\wrap .i64 (n*2)=n*2:=by
   rcases hn with rfl|rfl|rfl|rfl|rfl|rfl<;>decide
  rw[hw.1,hw.2];by_cases h1:n<64
  ·rw[if_pos h1];by_cases h2:HC p c q>16*n*n*n*n*4*4
   ·rw[if_pos h2,if_pos ⟨h1,h2⟩]
   ·rw[if_neg h2,if_neg (fun h=>h2 h.2)]
  ·rw[if_neg h1,if_neg (fun h=>h1 h.1)]
 intro k;induction k with
 |zero=>
  intro n hn h64;have:n=64:=by rcases hn with rfl|rfl|rfl|rfl|rfl|rfl<;>simp at h64⊢
  subst this;refine A5 ?_ (by simp);rw[hst _ hn,if_neg (by omega)];rfl
 |succ k ih=>
  intro n hn h64;unfold Ly;by_cases h:n<64/\HC p c q>16*n*n*n*n*4*4
  ·rw[if_pos h];have hs:=hst n hn;rw[if_pos h]at hs;rw[Bv hs];refine ih (n*2) ?_ ?_
   ·rcases hn with rfl|rfl|rfl|rfl|rfl|rfl<;>simp[Kj]at h⊢
   ·rw[Int.pow_succ]at h64;rw[Int.mul_assoc,Int.mul_comm 2];exact h64
  ·rw[if_neg h];refine A5 ?_ (by simp);rw[hst _ hn,if_neg h]
theorem Z2t {p c q:Pt} (hp:bd B24 p) (hc:bd B24 c) (hq:bd B24 q):J5 [I p.x,I p.y,I p.z,I c.x,I c.y,I c.z,I q.x,I q.y,I q.z]=some [I (KA p c q)]:=by
 have h1:=Zd2 (Q5i hp hc hq) 5 2 (.inl rfl) (by decide);show U_ _ (An (Pc _)) _=_;generalize Gq=M at*;rw[Zfh];simp only[go_sem,h1];rfl
theorem Qyd {α:Type} (d x:α):∀(l:List α) (i:Nat),i<l.length->nth d (l.set i x) i=x
 |a::l,0,_=>rfl
 |a::l,i+1,h=>by simp only[List.set_cons_succ,nth];exact Qyd d x l i (by simpa using h)
theorem Zur {n i p c q:Int} (hn:2<=n/\n<=64) (hi:0<=i/\i<=n) (hp:p.natAbs<=B24) (hc:c.natAbs<=B24) (hq:q.natAbs<=B24):
  Bq [I (wrap .i64 (wrap .i64 (wrap .i64 (wrap .i64 (n-i)*wrap .i64 (n-i))*wrap .i64 (p-c))+wrap .i64 (wrap .i64 (i*i)*wrap .i64 (q-c)))),I 1,I (wrap .i64 (n*n)),I 2]=some [I (Bd ((n-i)*(n-i)*(p-c)+i*i*(q-c)) (n*n)),B true]:=by
 have n1:0<n*n/\n*n<=4096:=⟨Int.mul_pos (by omega) (by omega),by have:=Int.mul_le_mul hn.2 hn.2 (by omega) (by omega);omega⟩;have n2:0<=(n-i)*(n-i)/\(n-i)*(n-i)<=4096:=⟨FI _,by have:=Int.mul_le_mul (show n-i<=64 by omega) (show n-i<=64 by omega) (by omega) (by omega);omega⟩;have n3:0<=i*i/\i*i<=4096:=⟨FI _,by have:=Int.mul_le_mul (show i<=64 by omega) (show i<=64 by omega) (by omega) (by omega);omega⟩;unfold B24 at*;rw[Ae (x:=n-i) (by omega),Ae (x:=(n-i)*(n-i)) (by omega),Ae (x:=p-c) (by omega),Ae (x:=i*i) (by omega),Ae (x:=q-c) (by omega),Ae (x:=n*n) (by omega)];have m1:=Hi (x:=(n-i)*(n-i)) (y:=p-c) (A:=4096) (B:=33554432) (by omega) (by omega);have m2:=Hi (x:=i*i) (y:=q-c) (A:=4096) (B:=33554432) (by omega) (by omega);generalize(n-i)*(n-i)*(p-c)=u at*;generalize i*i*(q-c)=v at*;rw[Ae (x:=u) (by omega),Ae (x:=v) (by omega),Ae (by omega)];have h:=SO (a:=u+v) (b:=1) (c:=n*n) (by unfold i64;omega) (by unfold i64;omega) (by omega) (by rw[show(1:Int).natAbs=1 from rfl,Nat.mul_one];omega);rw[Int.mul_one]at h;exact h
theorem Qu7 {MR MP MT MC:Fn} {p c q:Pt} {N:Nat} (hN:2<=N/\N<=64) (hp:bd B24 p) (hc:bd B24 c) (hq:bd B24 q)
  (hR:∀{i p c q:Int},(0<=i/\i<=N)->p.natAbs<=B24->c.natAbs<=B24->q.natAbs<=B24->MR [I (wrap .i64 (wrap .i64 (wrap .i64 (wrap .i64 ((N:Int)-i)*wrap .i64 ((N:Int)-i))*wrap .i64 (p-c))+wrap .i64 (wrap .i64 (i*i)*wrap .i64 (q-c)))),I 1,I (wrap .i64 ((N:Int)*(N:Int))),I 2]=some [I (Bd (((N:Int)-i)*((N:Int)-i)*(p-c)+i*i*(q-c)) ((N:Int)*(N:Int))),B true])
  {f:Nat->List AC} (hf:∀i:Nat,f i=ptR (Ou N i p c q)):
  ∀(k i:Nat),i+k=N+1->An (NM MR MP MT MC) [.view kPt (Ek f [I 0,I 0,I 0] (N+1) i),I N,I (N+1:Nat),I i,I c.x,I c.y,I c.z,I p.x,I p.y,I p.z,I q.x,I q.y,I q.z]=
   some (1,[.view kPt ((List.range (N+1)).map f)])
 |0,i,hi=>by
  obtain rfl:i=N+1:=by omega
  refine A5 ?_ (by simp);rw[Qpe,Q0i,AX (by omega)]
 |k+1,i,hi=>by
  have b1:=Nc (n:=N) (i:=i) (A:=B24) (by omega) (by omega) hp.1 hc.1 hq.1;have b2:=Nc (n:=N) (i:=i) (A:=B24) (by omega) (by omega) hp.2.1 hc.2.1 hq.2.1;have b3:=Nc (n:=N) (i:=i) (A:=B24) (by omega) (by omega) hp.2.2 hc.2.2 hq.2.2;have r1:=hR (i:=i) (by omega) hp.1 hc.1 hq.1;have r2:=hR (i:=i) (by omega) hp.2.1 hc.2.1 hq.2.1;have r3:=hR (i:=i) (by omega) hp.2.2 hc.2.2 hq.2.2;have hs:NM MR MP MT MC [.view kPt (Ek f [I 0,I 0,I 0] (N+1) i),I N,I (N+1:Nat),I i,I c.x,I c.y,I c.z,I p.x,I p.y,I p.z,I q.x,I q.y,I q.z]=
    some (0,[.view kPt (Ek f [I 0,I 0,I 0] (N+1) (i+1)),I N,I (N+1:Nat),I (i+1:Nat),I c.x,I c.y,I c.z,I p.x,I p.y,I p.z,I q.x,I q.y,I q.z]):=by
   have hlen:=Quw f [I 0,I 0,I 0] (show i<=N+1 by omega);have hset:=Quf f [I 0,I 0,I 0] (show i<N+1 by omega);rw[hf i]at hset;generalize Ek f [I 0,I 0,I 0] (N+1) i=l at*;have hself:∀x:List AC,nth [] (l.set i x) i=x:=fun x=>Qyd _ _ _ _ (by omega);rw[Qpe];have hin:(0:Int)<=(i:Int)/\(i:Int)<((N+1:Nat):Int):=by omega
   simp only[go_sem,r1,r2,r3,Int.toNat_natCast,hlen,if_pos hin,List.set_set,hself,List.length_set];rw[if_pos (by omega)];unfold Og B24 at b1 b2 b3;rw[Ae (x:=c.x+_) (by omega),Ae (x:=c.y+_) (by omega),Ae (x:=c.z+_) (by omega),Ae (x:=(i:Int)+1) (by omega)];rw[<-hset];rfl
  rw[Bv hs];exact Qu7 hN hp hc hq hR hf k (i+1) (by omega)
theorem Z1c {a c b:Pt} {tol:Int} (ha:bd B24 a) (hc:bd B24 c) (hb:bd B24 b) (ht:0<=tol/\tol<=16000):
  Qk [I a.x,I a.y,I a.z,I c.x,I c.y,I c.z,I b.x,I b.y,I b.z,I tol]=some [.view kPt ((FQ a c b tol).map ptR)]:=by
 show Qiq _ _ _ _ (An (NM _ _ _ _)) _=_;have e1:=Zx7 ha hc hb ht;have hR:= @Zur;generalize K_=MC at*;unfold FQ;by_cases h:Db a c b tol=0
 ·rw[if_pos h];rw[Q09];simp only[go_sem,e1];rw[if_pos h];rfl
 ·rw[if_neg h];obtain⟨h1,h2,h3,h4,h5,-⟩:=Qae h;obtain⟨m1,m2⟩:=QQ (AB a c) (AB c b);have h0: ¬Db a c b tol=0:=h;generalize Db a c b tol=d at*;have k1:bd B24 (BM c a d):=Jx hc ha h1 (by omega);have k2:bd B24 (BM c b d):=Jx hc hb h2 (by rw[Ta b c];omega);have t1:=Qc8 hc ha h1 (d:=d) (by omega);have t2:=Qc8 hc hb h2 (d:=d) (by omega);have p1:=Z2t k1 hc k2;have p2:=(Ve k1 hc k2).2;generalize KA (BM c a d) c (BM c b d)=n at*;obtain⟨N,rfl⟩:∃N:Nat,n=N:=⟨n.toNat,by rcases p2 with rfl|rfl|rfl|rfl|rfl|rfl<;>rfl⟩;have hN:2<=N/\N<=64:=by unfold Kj at p2;omega
  have hl:=Qu7 (MR:=Bq) (MP:=J5) (MT:=GU) (MC:=MC) hN k1 hc k2 (fun hi hp hc hq=>hR (by omega) hi hp hc hq) (f:=fun i=>ptR (Ou N i (BM c a d) c (BM c b d))) (fun _=>rfl) (N+1) 0 (by omega);have hf0:∀f:Nat->List AC,Ek f [I 0,I 0,I 0] (N+1) 0=List.replicate (N+1) [I 0,I 0,I 0]:=fun f=>by unfold Ek;rw[List.range_zero,List.map_nil,List.nil_append,Nat.sub_zero]
  rw[hf0]at hl;generalize Bq=MR at*;generalize J5=MP at*;generalize GU=MT at*;generalize BM c a d=p at*;generalize BM c b d=q at*;rw[Q09];simp only[List.cons_append,List.nil_append,ptR]at t1 t2;have hres:(List.range (N+1)).map (fun(i:Nat)=>ptR (Ou N i p c q))=((List.range ((N:Int).toNat+1)).map fun(i:Nat)=>Ou N i p c q).map ptR:=by rw[List.map_map,Int.toNat_natCast];rfl
  rw[hres]at hl;generalize((List.range ((N:Int).toNat+1)).map fun(i:Nat)=>Ou N i p c q).map ptR=C at*;generalize An (NM MR MP MT MC)=L at*;have hl':L [.view kPt (List.replicate (N+1) [I 0,I 0,I 0]),I N,I (N+1:Nat),I 0,I c.x,I c.y,I c.z,I p.x,I p.y,I p.z,I q.x,I q.y,I q.z]=some (1,[.view kPt C]):=hl;have w1:wrap .i64 ((N:Int)+1)=((N+1:Nat):Int):=by rw[Ae (by omega)];rfl
  simp only[e1,t1,t2,p1,w1,Option.bind_some,Hu,KD,Lk,HB,gA,jA,wA,bA,Int.toNat_natCast,List.length_replicate,WE];rw[Ba (by simpa using h0),DA trivial,Br (by simp;omega),hl'];rfl
end Go.Bm
namespace Go.Bm
open Classical
theorem OQ (k:Int):DH [I k]=some [B (decide (1<=k/\k<=6))]:=by
 unfold DH;rw[Z0p];by_cases h:1<=k
 ·rw[DA (show k>=1 from h)];by_cases h2:k<=6
  ·rw[decide_eq_true h2,decide_eq_true ⟨h,h2⟩]
  ·rw[decide_eq_false h2,decide_eq_false fun h3=>h2 h3.2]
 ·rw[AX (show¬k>=1 from h),decide_eq_false fun h3=>h h3.1]
theorem SN (it:Itm):EC (Ag it)=some [B (decide (smI it))]:=by
 unfold EC;rw[Zvw];by_cases h:it.kind=2
 ·rw[Br (by simp[h])];congr 2;by_cases h2:it.fr=it.to
  ·have h3:=D8.1 h2;rw[decide_eq_false (fun hs:smI it=>hs.2 h2)];simp[h3.1,h3.2.1,h3.2.2]
  ·rw[decide_eq_true (show smI it from⟨h,h2⟩)];have h3: ¬(it.fr.x=it.to.x/\it.fr.y=it.to.y/\it.fr.z=it.to.z):=fun h3=>h2 (D8.2 h3);simp only[B,AC.bool.injEq,Bool.not_eq_true',Bool.and_true];by_cases a:it.fr.x=it.to.x<;>by_cases b:it.fr.y=it.to.y<;>by_cases c:it.fr.z=it.to.z<;>simp[a,b,c]at h3⊢
 ·rw[Ba (by simp[h]),decide_eq_false (fun hs:smI it=>h hs.1)]
theorem Si {it:Itm} (h1:bd 1048576 it.fr) (h2:bd 1048576 it.to):FX (Ag it)=some (ptR (A9 it)):=by
 obtain⟨a1,a2,a3⟩:=h1;obtain⟨b1,b2,b3⟩:=h2;unfold FX;rw[Zpr,Ae (x:=it.fr.x+it.to.x) (by omega),Ae (x:=(it.fr.x+it.to.x)*8) (by omega),Ae (x:=it.fr.y+it.to.y) (by omega),Ae (x:=(it.fr.y+it.to.y)*8) (by omega),Ae (x:=it.fr.z+it.to.z) (by omega),Ae (x:=(it.fr.z+it.to.z)*8) (by omega)];rfl
theorem Ztz {p:Pt} (h:bd 100000000 p):NP [I p.x,I p.y,I p.z]=some (ptR (Ax p)):=by
 unfold NP;rw[Zgr];obtain⟨h1,h2,h3⟩:=h;rw[Ae (by omega),Ae (by omega),Ae (by omega)];rfl
theorem Q63 (it:Itm):Hk (Ag it)=some [B (decide (syI it))]:=by
 unfold Hk;rw[Z3x];by_cases h5:it.kind=5
 ·rw[Br (by simp[h5]),decide_eq_true (show syI it from .inl h5)]
 ·rw[Ba (by simp[h5])];by_cases h6:it.kind=6
  ·rw[decide_eq_true (show syI it from .inr h6)];simp[h6]
  ·rw[decide_eq_false (show¬syI it from fun h=>h.elim h5 h6)];simp[h6]
theorem Z2i {MV MM:Fn} {it:Itm} (hM:MM [I it.kind]=some [B (decide (1<=it.kind/\it.kind<=6))]) (hV:∃v,MV (Ag it)=some [B v]/\(v=true↔Dp it)):
  Qol MV MM (Ag it)=some [I (if Cd it then 1 else 0)]:=by
 obtain⟨v,hv,hvv⟩:=hV;have hr:∀{x:Int},(Cd it->x=1)->(¬Cd it->x=0)->some [I x]=some [I (if Cd it then 1 else 0)]:=by
  intro x h1 h2;by_cases c:Cd it
  ·rw[if_pos c,h1 c]
  ·rw[if_neg c,h2 c]
 rw[Zzd];simp only[go_sem,hM,hv];unfold Cd AF at hr⊢;have one:∀{P:Prop},P->(P->(1:Int)=1)/\(¬P->(1:Int)=0):=fun h=>⟨fun _=>rfl,fun g=>absurd h g⟩;have zero:∀{P:Prop},¬P->(P->(0:Int)=1)/\(¬P->(0:Int)=0):=fun h=>⟨fun g=>absurd g h,fun _=>rfl⟩;by_cases c1:it.kind<1
 ·rw[if_pos c1];exact hr (fun _=>rfl) fun g=>absurd (.inl c1) g
 rw[if_neg c1];by_cases c2:it.kind>14
 ·rw[if_pos c2];exact hr (fun _=>rfl) fun g=>absurd (.inr (.inl c2)) g
 rw[if_neg c2];by_cases c3:1<=it.kind/\it.kind<=6
 ·simp only[if_pos c3];have hk8:it.kind≠8:=by omega
  simp only[if_neg hk8];by_cases c4:Dp it
  ·rw[if_neg (by simp[hvv.2 c4])];by_cases c5:it.blend<0
   ·rw[if_pos c5];exact hr (fun _=>rfl) fun g=>absurd (.inr (.inr (.inl ⟨c3, .inr (.inr (.inl c5))⟩))) g
   rw[if_neg c5];by_cases c6:it.blend>1000
   ·rw[if_pos c6];exact hr (fun _=>rfl) fun g=>absurd (.inr (.inr (.inl ⟨c3, .inr (.inr (.inr c6))⟩))) g
   rw[if_neg c6];by_cases c7:it.kind=1
   ·rw[if_neg (show¬it.kind≠1 by omega)];refine hr (fun g=> ?_) fun _=>rfl;rcases g with g|g|⟨-,g|g|g|g⟩|g
    ·omega
    ·omega
    ·exact absurd c4 g
    ·omega
    ·omega
    ·omega
    ·omega
   ·rw[if_pos c7];by_cases c8:it.feed<1
    ·rw[if_pos c8];exact hr (fun _=>rfl) fun g=>absurd (.inr (.inr (.inl ⟨c3, .inr (.inl ⟨c7, .inl c8⟩)⟩))) g
    rw[if_neg c8];by_cases c9:it.feed>60000000
    ·rw[if_pos c9];exact hr (fun _=>rfl) fun g=>absurd (.inr (.inr (.inl ⟨c3, .inr (.inl ⟨c7, .inr c9⟩)⟩))) g
    rw[if_neg c9];refine hr (fun g=> ?_) fun _=>rfl;rcases g with g|g|⟨-,g|g|g|g⟩|g
    ·omega
    ·omega
    ·exact absurd c4 g
    ·omega
    ·omega
    ·omega
    ·omega
  ·rw[if_pos (fun h=>c4 (hvv.1 h))];exact hr (fun _=>rfl) fun g=>absurd (.inr (.inr (.inl ⟨c3, .inl c4⟩))) g
 ·simp only[if_neg c3];by_cases c4:it.kind=8
  ·rw[if_pos c4];by_cases d1:it.n<3
   ·rw[if_pos d1];exact hr (fun _=>rfl) fun g=>absurd (.inr (.inr (.inr ⟨c3,c4, .inl d1⟩))) g
   rw[if_neg d1];by_cases d2:it.n>5
   ·rw[if_pos d2];exact hr (fun _=>rfl) fun g=>absurd (.inr (.inr (.inr ⟨c3,c4, .inr (.inl d2)⟩))) g
   rw[if_neg d2];by_cases d3:it.speed<0
   ·rw[if_pos d3];exact hr (fun _=>rfl) fun g=>absurd (.inr (.inr (.inr ⟨c3,c4, .inr (.inr (.inl d3))⟩))) g
   rw[if_neg d3];by_cases d4:it.speed>30000
   ·rw[if_pos d4];exact hr (fun _=>rfl) fun g=>absurd (.inr (.inr (.inr ⟨c3,c4, .inr (.inr (.inr d4))⟩))) g
   rw[if_neg d4];refine hr (fun g=> ?_) fun _=>rfl;rcases g with g|g|⟨g,-⟩|⟨-,-,g⟩
   ·omega
   ·omega
   ·exact absurd g c3
   ·omega
  ·rw[if_neg c4];refine hr (fun g=> ?_) fun _=>rfl;rcases g with g|g|⟨g,-⟩|⟨-,g,-⟩
   ·omega
   ·omega
   ·exact absurd g c3
   ·omega
theorem Z3e (it:Itm):Ix (Ag it)=some [I (if Cd it then 1 else 0)]:=Z2i (OQ _) (Qm5 it)
def CQ:List Itm->Nat->Nat
 |[],k=>k
 |it::l,k=>if it.kind=10 then CQ l (k+1)else k
def C_ (items:List Itm) (i:Nat):Nat:=CQ (items.drop (i+1)) (i+1)
theorem Qnq:∀(l:List Itm) (k:Nat),k<=CQ l k/\CQ l k<=k+l.length
 |[],k=>by simp[CQ]
 |it::l,k=>by
  unfold CQ;split
  ·have:=Qnq l (k+1);simp;omega
  ·simp
theorem Q27:∀(l:List Itm) (k:Nat),G1 l k=if CQ l k-k<l.length/\smI (l.getD (CQ l k-k) it0)then(CQ l k:Int)else-1
 |[],k=>by simp[G1]
 |it::l,k=>by
  have hs:=Qnq l (k+1);by_cases h10:it.kind=10
  ·have e1:G1 (it::l) k=G1 l (k+1):=by rw[G1,if_pos h10]
   have e2:CQ (it::l) k=CQ l (k+1):=by rw[CQ,if_pos h10]
   rw[e1,e2,Q27 l (k+1)];have e3:CQ l (k+1)-k=(CQ l (k+1)-(k+1))+1:=by omega
   rw[e3,List.getD_cons_succ];by_cases c:CQ l (k+1)-(k+1)<l.length
   ·have c2:CQ l (k+1)-(k+1)+1<(it::l).length:=by simp;omega
    by_cases c3:smI (l.getD (CQ l (k+1)-(k+1)) it0)
    ·rw[if_pos ⟨c,c3⟩,if_pos ⟨c2,c3⟩]
    ·rw[if_neg (fun g=>c3 g.2),if_neg (fun g=>c3 g.2)]
   ·rw[if_neg (fun g=>c g.1),if_neg (fun g=>c (by have:=g.1;simp at this;omega))]
  ·have e1:G1 (it::l) k=if smI it then(k:Int)else-1:=by rw[G1,if_neg h10]
   have e2:CQ (it::l) k=k:=by rw[CQ,if_neg h10]
   rw[e1,e2,Nat.sub_self,List.getD_cons_zero];by_cases c:smI it
   ·rw[if_pos c,if_pos ⟨by simp,c⟩]
   ·rw[if_neg c,if_neg (fun g=>c g.2)]
theorem Qyz {items:List Itm} (hl:items.length<=1000000):∀(k i:Nat),i+k=items.length->
  An Qq [.view Ak (items.map Ag),I i]=some (1,[I (CQ (items.drop i) i)])
 |0,i,hi=>by
  refine A5 ?_ (by simp);rw[Q7t];simp only[go_sem,List.length_map];rw[if_neg (by omega),List.drop_of_length_le (by omega)];rfl
 |k+1,i,hi=>by
  have hlt:i<items.length:=by omega
  have hr:=E_ hlt;rw[Zj hlt];have hst:Qq [.view Ak (items.map Ag),I i]=if(itA items i).kind=10 then some (0,[.view Ak (items.map Ag),I (i+1:Nat)])else some (1,[I i]):=by
   rw[Q7t];have hin:(0:Int)<=(i:Int)/\(i:Int)<(items.length:Int):=by omega
   simp only[go_sem,List.length_map,Int.toNat_natCast,hr,if_pos hin];rw[if_pos (by omega),Ae (by omega)];rfl
  unfold CQ;by_cases h10:(itA items i).kind=10
  ·rw[if_pos h10]at hst⊢;rw[Bv hst];exact Qyz hl k (i+1) (by omega)
  ·rw[if_neg h10]at hst⊢;exact A5 hst (by simp)
theorem Qml {items:List Itm} (hl:items.length<=1000000) {i:Nat} (hi:i<items.length):Fc [.view Ak (items.map Ag),I i]=some [I (C_ items i)]:=by
 show Qe1 (An Qq) _=_;have h:=Qyz hl (items.length-(i+1)) (i+1) (by omega);rw[Z10,Ae (by omega),show(i:Int)+1=((i+1:Nat):Int) by omega,h];rfl
theorem Qql {items:List Itm} {i:Nat}:B8 items i=if smI (itA items i)/\(itA items i).blend≠0/\C_ items i<items.length/\smI (itA items (C_ items i))then(C_ items i:Int)else-1:=by
 unfold B8;by_cases h:smI (itA items i)/\(itA items i).blend≠0
 ·rw[if_pos h,Q27];have hs:=Qnq (items.drop (i+1)) (i+1);rw[List.length_drop]at hs;have e:(items.drop (i+1)).getD (CQ (items.drop (i+1)) (i+1)-(i+1)) it0=itA items (C_ items i):=by
   unfold itA;rw[List.getD_eq_getElem?_getD,List.getElem?_drop,List.getD_eq_getElem?_getD];have:i+1+(CQ (items.drop (i+1)) (i+1)-(i+1))=C_ items i:=by unfold C_;omega
   rw[this]
  rw[e,List.length_drop];have e2:CQ (items.drop (i+1)) (i+1)=C_ items i:=rfl;rw[e2]at hs⊢;by_cases c:C_ items i<items.length/\smI (itA items (C_ items i))
  ·rw[if_pos ⟨by omega,c.2⟩,if_pos ⟨h.1,h.2,c⟩]
  ·rw[if_neg (fun g=>c ⟨by have:=g.1;omega,g.2⟩),if_neg (fun g=>c g.2.2)]
 ·rw[if_neg h,if_neg (fun g=>h ⟨g.1,g.2.1⟩)]
theorem Zfq {MS MN:Fn} {items:List Itm} (hS:∀it,MS (Ag it)=some [B (decide (smI it))]) {i:Nat} (hi:i<items.length) (hN:MN [.view Ak (items.map Ag),I i]=some [I (C_ items i)]):
  Qb2 MS MN [.view Ak (items.map Ag),I i]=some [B (decide (0<=B8 items i))]:=by
 have hr:=E_ hi;have hs:=hS (itA items i);rw[Zbs,Qql];simp only[Ag]at hs;have hin:(0:Int)<=(i:Int)/\(i:Int)<(items.length:Int):=by omega
 simp only[go_sem,List.length_map,Int.toNat_natCast,hr,hs,hN,if_pos hin];by_cases h1:smI (itA items i)
 case neg=>rw[if_neg h1,if_neg (fun g=>h1 g.1)];simp
 rw[if_pos h1];by_cases h2:(itA items i).blend=0
 ·rw[if_neg (by simp[h2]),if_neg (fun g=>g.2.1 h2)];simp
 rw[if_pos h2];by_cases h3:C_ items i<items.length
 ·have hr2:=E_ h3;have hs2:=hS (itA items (C_ items i));simp only[Ag]at hs2;have hin2:(0:Int)<=(C_ items i:Int)/\(C_ items i:Int)<(items.length:Int):=by omega
  rw[if_pos (by omega),if_pos hin2];simp only[go_sem,hr2,hs2];by_cases h4:smI (itA items (C_ items i))
  ·rw[decide_eq_true h4,if_pos ⟨h1,h2,h3,h4⟩,decide_eq_true (by omega)]
  ·rw[decide_eq_false h4,if_neg (fun g=>h4 g.2.2.2)];simp
 ·rw[if_neg (by omega),if_neg (fun g=>h3 g.2.2.1)];simp
theorem Qye {items:List Itm} (hl:items.length<=1000000) {i:Nat} (hi:i<items.length):GP [.view Ak (items.map Ag),I i]=some [B (decide (0<=B8 items i))]:=
 Zfq SN hi (Qml hl hi)
theorem Rt {items:List Itm} {i:Nat} (h:0<=B8 items i):B8 items i=C_ items i:=by
 rw[Qql]at h⊢;split at h
 ·rename_i c;rw[if_pos c]
 ·omega
theorem Zaz {a c b:Pt} {tol:Int} (ha:bd B24 a) (hc:bd B24 c) (hb:bd B24 b):(FQ a c b tol).length%2=1:=by
 unfold FQ;by_cases h:Db a c b tol=0
 ·rw[if_pos h];rfl
 ·rw[if_neg h];obtain⟨h1,h2,h3,h4,h5,-⟩:=Qae h;obtain⟨m1,m2⟩:=QQ (AB a c) (AB c b);generalize Db a c b tol=d at*;have k1:bd B24 (BM c a d):=Jx hc ha h1 (by omega);have k2:bd B24 (BM c b d):=Jx hc hb h2 (by rw[Ta b c];omega);have k3:=(Ve k1 hc k2).2;generalize KA (BM c a d) c (BM c b d)=n at*;rw[List.length_map,List.length_range];rcases k3 with rfl|rfl|rfl|rfl|rfl|rfl<;>rfl
theorem Zit {MC MF MM:Fn} {a b:Itm} {l:List Pt} (hbl:0<=a.blend/\a.blend<=1000) (hl:1<=l.length/\l.length<=65) (hodd:l.length%2=1)
  (c1:MM (Ag a)=some (ptR (A9 a))) (c2:MM (Ag b)=some (ptR (A9 b))) (f1:MF [I a.to.x,I a.to.y,I a.to.z]=some (ptR (Ax a.to)))
  (hC:MC (ptR (A9 a)++ptR (Ax a.to)++ptR (A9 b)++[I (a.blend*16)])=some [.view kPt (l.map ptR)]):
  Qjk MC MF MM (Ag a++Ag b)=some [.view kPt ((l.take (l.length/2+1)).map ptR), .view kPt ((l.drop (l.length/2)).map ptR)]:=by
 simp only[Ag,List.cons_append,List.nil_append]at c1 c2⊢;rw[Zak];simp only[ptR,List.cons_append,List.nil_append]at hC;simp only[go_sem,c1,c2,f1];rw[Ae (by omega)];simp only[hC,go_sem,List.length_map];have e:wrap .i64 ((wrap .i64 ((l.length:Int)-1)).tdiv 2)=((l.length/2:Nat):Int):=by
  rw[Ae (x:=(l.length:Int)-1) (by omega),Int.tdiv_eq_ediv_of_nonneg (by omega),Ae (by omega)];omega
 have e2:wrap .i64 (((l.length/2:Nat):Int)+1)=((l.length/2+1:Nat):Int):=by rw[Ae (by omega)];omega
 simp only[e,e2,Int.toNat_natCast];rw[if_pos (by omega),if_pos (by omega),List.map_take,List.map_drop]
theorem Z3q {a b:Itm} (h1:drawn a) (h2:drawn b):
  Qo (Ag a++Ag b)=some [.view kPt (((FQ (A9 a) (Ax a.to) (A9 b) (a.blend*16)).take ((FQ (A9 a) (Ax a.to) (A9 b) (a.blend*16)).length/2+1)).map ptR), .view kPt (((FQ (A9 a) (Ax a.to) (A9 b) (a.blend*16)).drop ((FQ (A9 a) (Ax a.to) (A9 b) (a.blend*16)).length/2)).map ptR)]:=
 have k1:=KG h1.1.2.1 h1.1.2.2.1;have k2:=Ff h1.1.2.2.1;have k3:=KG h2.1.2.1 h2.1.2.2.1
 Zit h1.2 (Q7d k1 k2 k3).2 (Zaz k1 k2 k3) (Si h1.1.2.1 h1.1.2.2.1) (Si h2.1.2.1 h2.1.2.2.1) (Ztz (AV h1.1.2.2.1 (by decide))) (Z1c k1 k2 k3 (by have:=h1.2;omega))
end Go.Bm
namespace Go.Bm
open Classical
theorem Z18 {MM MN MS MC MSm MK:Fn} {items:List Itm} {i:Nat} {frm:Int} (hi:i<items.length) (hd:drawn (itA items i)) (hf:LU items i frm) (hall:∀k<items.length,AF (itA items k)->drawn (itA items k))
  (hK:MK (Ag (itA items i))=some [.view kPt ((CM (itA items i)).map ptR),B true]) (hM:MSm (Ag (itA items i))=some [B (decide (smI (itA items i)))])
  (hJ:∀{i k:Nat},i<items.length->k<items.length->drawn (itA items i)->drawn (itA items k)->MC (Ag (itA items i)++Ag (itA items k))=some [.view kPt (((Hr items i k).take ((Hr items i k).length/2+1)).map ptR), .view kPt (((Hr items i k).drop ((Hr items i k).length/2)).map ptR)])
  (hS:MS [.view Ak (items.map Ag),I i]=some [B (decide (0<=B8 items i))]) (hN:MN [.view Ak (items.map Ag),I i]=some [I (C_ items i)]) (hC:MM (Ag (itA items i))=some (ptR (A9 (itA items i)))):
  Z2 MM MN MS MC MSm MK [.view Ak (items.map Ag),I i,I frm]=some [.view kPt ((Cn items i frm).map ptR)]:=by
 have r1:=E_ hi;obtain⟨hcl1,hcl2⟩:=Qqt (itA items i);rw[Zgh];simp only[Ag,List.cons_append,List.nil_append]at hK hM hC hJ;have hin:(0:Int)<=(i:Int)/\(i:Int)<(items.length:Int):=by omega
 simp only[go_sem,List.length_map,Int.toNat_natCast,r1,hK,hM,hC,hS,hN,List.nil_append,if_pos hin];unfold Cn;by_cases hs:smI (itA items i)
 case neg=>rw[if_pos (by simp[hs]),if_neg hs]
 rw[if_neg (by simp[hs]),if_pos hs];have hk3:(itA items i).kind≠3:=by have:=hs.1;omega
 have hcl3:(CM (itA items i)).length=2:=by unfold CM;rw[if_neg hk3];rfl
 have w1:wrap .i64 (((CM (itA items i)).length:Int)-1)=1:=by rw[hcl3];rfl
 rw[w1,hcl3,if_pos (by omega),if_pos (by omega)];unfold KB;rcases hf with rfl|⟨f,rfl,hf1,hf2⟩
 ·rw[if_neg (show¬(-1:Int)>=0 by omega)];unfold II;rw[if_neg (show¬(0:Int)<= -1 by omega)];by_cases hpos:0<=B8 items i
  ·obtain⟨k,hk,hk1,hk2⟩:=RM hall hpos;have hnx:=Rt hpos;rw[hk]at hnx;have hnk:C_ items i=k:=by omega
   obtain⟨j1,j2,j3⟩:=Lh (items:=items) (i:=i) (k:=k) hd hk2;have hj:=hJ hi hk1 hd hk2;have r2:=E_ hk1;have hin2:(0:Int)<=(k:Int)/\(k:Int)<(items.length:Int):=by omega
   rw[if_pos hpos,if_pos hpos,hk,hnk,Int.toNat_natCast,if_pos hin2];simp only[go_sem,Int.toNat_natCast,r2,hj];rw[if_pos (by simp[SH];omega),if_pos (by simp;omega),if_pos (by simp;omega)];simp only[SH,List.map_append,List.map_cons,List.map_nil]
  ·rw[if_neg hpos,if_neg hpos,if_pos (by simp[SH];omega),if_pos (by simp;omega),if_pos (by simp;omega)];simp only[SH,Qpl,List.map_append,List.map_cons,List.map_nil]
 ·have hjf:=hJ hf1 hi hf2 hd;obtain⟨f1,f2,f3⟩:=Lh (items:=items) (i:=f) (k:=i) hf2 hd;have rf:=E_ hf1;have hinf:(0:Int)<=(f:Int)/\(f:Int)<(items.length:Int):=by omega
  rw[if_pos (show(f:Int)>=0 by omega),if_pos hinf];unfold II;rw[if_pos (show(0:Int)<=(f:Int) by omega),Int.toNat_natCast];simp only[rf,go_sem,hjf,Int.toNat_natCast];by_cases hpos:0<=B8 items i
  ·obtain⟨k,hk,hk1,hk2⟩:=RM hall hpos;have hnx:=Rt hpos;rw[hk]at hnx;have hnk:C_ items i=k:=by omega
   obtain⟨j1,j2,j3⟩:=Lh (items:=items) (i:=i) (k:=k) hd hk2;have hj:=hJ hi hk1 hd hk2;have r2:=E_ hk1;have hin2:(0:Int)<=(k:Int)/\(k:Int)<(items.length:Int):=by omega
   rw[if_pos hpos,if_pos hpos,hk,hnk,Int.toNat_natCast,if_pos hin2];simp only[go_sem,Int.toNat_natCast,r2,hj];rw[if_pos (by simp;omega),if_pos (by simp;omega),if_pos (by simp;omega)];simp only[List.map_append,List.map_cons,List.map_nil]
  ·rw[if_neg hpos,if_neg hpos,if_pos (by simp;omega),if_pos (by simp;omega),if_pos (by simp;omega)];simp only[Qpl,List.map_append,List.map_cons,List.map_nil]
theorem Q87 {items:List Itm} (hl:items.length<=1000000) {i:Nat} {frm:Int} (hi:i<items.length) (hd:drawn (itA items i)) (hf:LU items i frm) (hall:∀k<items.length,AF (itA items k)->drawn (itA items k)):
  Oz [.view Ak (items.map Ag),I i,I frm]=some [.view kPt ((Cn items i frm).map ptR)]:=
 Z18 hi hd hf hall (Zps hd.1) (SN _) (fun h1 h2 h3 h4=>Z3q h3 h4) (Qye hl hi) (Qml hl hi) (Si hd.1.2.1 hd.1.2.2.1)
theorem Q23 {MM MS:Fn} {l:List Itm} (hM:∀k:Int,MM [I k]=some [B (decide (1<=k/\k<=6))]) (hS:∀it,MS (Ag it)=some [B (decide (syI it))]) (hl:l.length<=1000000):∀(k i:Nat),i+k=l.length->
  (An (Lz MM MS) [.view Ak (l.map Ag),I l.length,I i]=some (1,[B (decide (Hn (l.drop i)=1))]))\/(An (Lz MM MS) [.view Ak (l.map Ag),I l.length,I i]=some (2,[])/\Hn (l.drop i)=2)
 |0,i,hi=>by
  right;refine⟨A5 ?_ (by simp),by rw[List.drop_of_length_le (by omega)];rfl⟩;rw[Q3c];simp only[go_sem];rw[if_neg (by omega)]
 |k+1,i,hi=>by
  have hlt:i<l.length:=by omega
  have hr:=E_ hlt;rw[Zj hlt];have hs:=hS (itA l i);have hm:=hM (itA l i).kind;have hst:Lz MM MS [.view Ak (l.map Ag),I l.length,I i]=if AF (itA l i)then some (1,[B (decide (syI (itA l i)))])else some (0,[.view Ak (l.map Ag),I l.length,I (i+1:Nat)]):=by
   rw[Q3c];simp only[Ag]at hs;have hin:(0:Int)<=(i:Int)/\(i:Int)<(l.length:Int):=by omega
   simp only[go_sem,List.length_map,Int.toNat_natCast,hr,hs,hm,if_pos hin];rw[if_pos (by omega),Ae (by omega)];by_cases h1:AF (itA l i)
   ·rw[if_pos (show 1<=(itA l i).kind/\(itA l i).kind<=6 from h1),if_pos h1]
   ·rw[if_neg (show¬(1<=(itA l i).kind/\(itA l i).kind<=6)from h1),if_neg h1];rfl
  unfold Hn;by_cases h10:AF (itA l i)
  ·rw[if_pos h10]at hst⊢;left;rw[A5 hst (by simp)];by_cases hsm:syI (itA l i)
   ·rw[if_pos hsm,decide_eq_true hsm];rfl
   ·rw[if_neg hsm,decide_eq_false hsm];rfl
  ·rw[if_neg h10]at hst⊢;rw[Bv hst];exact Q23 hM hS hl k (i+1) (by omega)
def I9 (items:List Itm) (i:Nat):Prop:=(itA items i).blend=0\/syI (itA items i)\/Hn (items.drop (i+1))=1
theorem Zlq {MM MS:Fn} {items:List Itm} (hM:∀k:Int,MM [I k]=some [B (decide (1<=k/\k<=6))]) (hS:∀it,MS (Ag it)=some [B (decide (syI it))]) (hl:items.length<=1000000) {i:Nat} (hi:i<items.length):
  XZ MM MS (An (Lz MM MS)) [.view Ak (items.map Ag),I i]=some [B (decide (I9 items i))]:=by
 have hr:=E_ hi;have hs:=hS (itA items i);have hL:=Q23 hM hS (l:=items.drop (i+1)) (by rw[List.length_drop];omega) (items.drop (i+1)).length 0 (by omega);rw[List.drop_zero]at hL;rw[Zb0];simp only[Ag]at hs;have hw:wrap .i64 ((i:Int)+1)=((i+1:Nat):Int):=by rw[Ae (by omega)];omega
 have hin:(0:Int)<=(i:Int)/\(i:Int)<(items.length:Int):=by omega
 have hin3:(0:Int)<=((i+1:Nat):Int)/\((i+1:Nat):Int)<=(items.length:Int):=by omega
 have hdl:(List.drop (i+1) (items.map Ag)).length=(items.drop (i+1)).length:=by rw[List.length_drop,List.length_drop,List.length_map]
 generalize An (Lz MM MS)=N at*;simp only[go_sem,List.length_map,Int.toNat_natCast,hr,hs,hw,if_pos hin,if_pos hin3,hdl];rw[<-List.map_drop];by_cases h2:(itA items i).blend=0
 ·rw[if_pos h2,decide_eq_true (show I9 items i from .inl h2)]
 ·rw[if_neg h2];by_cases h3:syI (itA items i)
  ·rw[if_pos h3,decide_eq_true (show I9 items i from .inr (.inl h3))]
  ·rw[if_neg h3];rcases hL with hL|⟨hL,hn⟩
   ·have hL':N [.view Ak ((items.drop (i+1)).map Ag),I (items.drop (i+1)).length,I 0]=some (1,[B (decide (Hn (items.drop (i+1))=1))]):=hL;simp only[hL',go_sem];by_cases h4:Hn (items.drop (i+1))=1
    ·rw[decide_eq_true h4,decide_eq_true (show I9 items i from .inr (.inr h4))]
    ·rw[decide_eq_false h4,decide_eq_false (show¬I9 items i from fun h=>h.elim h2 fun h=>h.elim h3 h4)]
   ·have hL':N [.view Ak ((items.drop (i+1)).map Ag),I (items.drop (i+1)).length,I 0]=some (2,[]):=hL;simp only[hL',go_sem];rw[decide_eq_false (show¬I9 items i from fun h=>h.elim h2 fun h=>h.elim h3 fun h=>by rw[hn]at h;cases h)];simp
theorem Zeh {items:List Itm} (hl:items.length<=1000000) {i:Nat} (hi:i<items.length):OP [.view Ak (items.map Ag),I i]=some [B (decide (I9 items i))]:=Zlq OQ Q63 hl hi
def JT (items:List Itm) (i:Nat):Int:=if AF (itA items i)then Sd items i else SQ (itA items i)
theorem Zdw {ME MM:Fn} {items:List Itm} {i:Nat} {segs:Rw} {marks:List Mrk} {st:Pt} {b:Bool} {len sp mid:Int} (hi:i<items.length) (hml:marks.length<=1000000)
  (hM:MM [I (itA items i).kind]=some [B (decide (AF (itA items i)))]) (hE:ME [.view Ak (items.map Ag),I i]=some [B (decide (I9 items i))]):
  Qew ME MM [.view Ah segs, .view AD (marks.map At), .view Ak (items.map Ag),I i,I st.x,I st.y,I st.z,B b,I len,I sp,I mid]=
   some [.view Ah segs, .view AD ((marks++[(⟨len,JT items i,i⟩:Mrk)]).map At),I st.x,I st.y,I st.z,B b,I len,I sp,I mid]:=by
 have hr:=E_ hi;have hin:(0:Int)<=(i:Int)/\(i:Int)<(items.length:Int):=by omega
 have hb:(marks.length+1)*24<=140737488355328:=by omega
 have e:∀k:Int,marks.map At++[[I len,I k,I i]]=(marks++[(⟨len,k,i⟩:Mrk)]).map At:=fun k=>by rw[List.map_append];rfl
 rw[Zg3];simp only[go_sem,List.length_map,Int.toNat_natCast,hr,if_pos hin,hM,hE,List.length_append,List.length_cons,List.length_nil,if_pos hb];have fin:∀{k:Int},k=JT items i->some [AC.view Ah segs, .view AD (marks.map At++[[I len,I k,I i]]),I st.x,I st.y,I st.z,B b,I len,I sp,I mid]=some [.view Ah segs, .view AD ((marks++[(⟨len,JT items i,i⟩:Mrk)]).map At),I st.x,I st.y,I st.z,B b,I len,I sp,I mid]:=by
  intro k hk;rw[e,hk]
 unfold JT Sd SQ at fin⊢;by_cases c4:(itA items i).kind=4
 ·rw[if_pos c4];have hm:AF (itA items i):=⟨by omega,by omega⟩;exact fin (by rw[if_pos hm,if_pos c4])
 ·rw[if_neg c4];by_cases hm:AF (itA items i)
  ·rw[if_pos hm];by_cases hx:I9 items i
   ·rw[if_pos hx];refine fin ?_;rw[if_pos hm,if_neg c4];rcases hx with h|h|h
    ·rw[if_pos h]
    ·by_cases h2:(itA items i).blend=0
     ·rw[if_pos h2]
     ·rw[if_neg h2,if_pos h]
    ·by_cases h2:(itA items i).blend=0
     ·rw[if_pos h2]
     ·rw[if_neg h2];by_cases h3:syI (itA items i)
      ·rw[if_pos h3]
      ·rw[if_neg h3,h]
   ·rw[if_neg hx,if_pos hm];refine fin ?_;rw[if_pos hm,if_neg c4,if_neg (fun h=>hx (.inl h)),if_neg (fun h=>hx (.inr (.inl h)))];have hns:∀l:List Itm,Hn l=1\/Hn l=2:=by
     intro l;induction l with
     |nil=>right;rfl
     |cons it l ih=>
      unfold Hn;split
      ·split<;>simp
      ·exact ih
    rcases hns (items.drop (i+1))with h|h
    ·exact absurd (.inr (.inr h)) hx
    ·rw[h]
  ·rw[if_neg hm,if_neg hm];by_cases c10:(itA items i).kind=10
   ·rw[if_pos c10];exact fin (by rw[if_neg hm,if_pos c10])
   ·rw[if_neg c10];by_cases c13:(itA items i).kind=13
    ·rw[if_pos c13];exact fin (by rw[if_neg hm,if_neg c10,if_pos c13])
    ·rw[if_neg c13];exact fin (by rw[if_neg hm,if_neg c10,if_neg c13])
theorem Zy1 {items:List Itm} (hl:items.length<=1000000) {i:Nat} {segs:Rw} {marks:List Mrk} {st:Pt} {b:Bool} {len sp mid:Int} (hi:i<items.length) (hml:marks.length<=1000000):
  IL [.view Ah segs, .view AD (marks.map At), .view Ak (items.map Ag),I i,I st.x,I st.y,I st.z,B b,I len,I sp,I mid]=
   some [.view Ah segs, .view AD ((marks++[(⟨len,JT items i,i⟩:Mrk)]).map At),I st.x,I st.y,I st.z,B b,I len,I sp,I mid]:=
 Zdw hi hml (OQ _) (Zeh hl hi)
end Go.Bm
