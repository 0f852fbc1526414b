/- laid together -/
import Derived.Test.YtnnpdlgenmnekaaGreatDoorPrOv
import Derived.Test.YtnnpdlgenmnekaaGreatDoorPrTf
import Derived.Test.YtnnpdlgenmnekaaGreatDoorMx3
import Derived.Test.YtnnpdlgenmnekaaGreatDoorPrHi
import Derived.Test.YtnnpdlgenmnekaaGreatDoorMy1
set_option linter.unusedVariables false
set_option linter.defProp false
set_option linter.unusedSimpArgs false
set_option maxRecDepth 100000
open Go.IntKind (wrap)
variable {K:Go.Bm.Kf} {a u b k v y e r:Int} {p:Go.Bm.Pth} {i A j:Nat} {M Z V P H G F:Go.Bm.Fn} {l T:Go.Bm.Rw} {d q h:Go.Bm.Pt} {g:Go.Bm.Sgm} {N:Go.Bm.Lp} {o:List Go.Bm.AC}
namespace Go.Bm
theorem Zgg (D:bd 67108864 d) (hb:bd 67108864 q):
    O (O (O (0+O (O (d.x-q.x)*O (d.x-q.x)))+O (O (d.y-q.y)*O (d.y-q.y)))+O (O (d.z-q.z)*O (d.z-q.z)))=sqD d q:=by
  have h:∀x y:Int,x.natAbs<=67108864->y.natAbs<=67108864->0<=(x-y)*(x-y)/\(x-y)*(x-y)<=18014398509481984:=by
    intro x y G I;exact B3 (A:=134217728) (by omega)
  have L:=h _ _ D.1 hb.1;have M:=h _ _ D.2.1 hb.2.1;have N:=h _ _ D.2.2 hb.2.2;obtain⟨a1,a2,a3⟩:=D;obtain⟨b1,b2,b3⟩:=hb;rw[Ad (x:=d.x-q.x),Ad (x:=d.y-q.y),Ad (x:=d.z-q.z)];unfold sqD Bf Ax;simp only;generalize(d.x-q.x)*(d.x-q.x)=u at*;generalize(d.y-q.y)*(d.y-q.y)=v at*;generalize(d.z-q.z)*(d.z-q.z)=w at*;rw[Ad (x:=u),Ad (x:=0+u),Ad (x:=v),Ad (x:=0+u+v),Ad (x:=w),Ad,Int.zero_add]
def Zrp {n:Nat} (D:bd 67108864 d) (hb:bd 67108864 q) (hn:sqD d q=n)
    (G:∃r:Nat,M [I n,I 1]=some [I ((if((1:Int)=1/\r*r<n)\/((1:Int)=2/\r*r+r<n)then r+1 else r:Nat):Int),B true]/\r*r<=n/\n<(r+1)*(r+1)):
    YA M [I d.x,I d.y,I d.z,I q.x,I q.y,I q.z]=some [I (AB d q)]:=by
  obtain⟨r,L,N,O⟩:=G;have U:=Q4i N O;rw[Z4a,Zgg D hb,hn];simp only[go_sem,L];unfold AB;rw[hn,Zmn U];simp
def Qce (D:bd 67108864 d) (hb:bd 67108864 q):Nn [I d.x,I d.y,I d.z,I q.x,I q.y,I q.z]=some [I (AB d q)]:=by
  have G:=KK d q;have L:=Un D hb (dm _);obtain⟨n,hn⟩:=bh G;exact Zrp D hb hn (Qtk (by omega) (.inl rfl))
def Ydf {MO:Fn} {a b:Spk} {u w:Int} (L:okS a) (hb:okS b) (M:u.natAbs<=100000000) (N:w.natAbs<=100000000)
    (U: ¬(u=0/\w=0)->MO [I u,I (hf a.r b.r),I (sq2 u w),I 2]=some [I (AM u (hf a.r b.r) (sq2 u w)),B true]/\MO [I w,I (hf a.r b.r),I (sq2 u w),I 2]=some [I (AM w (hf a.r b.r) (sq2 u w)),B true]):
    (bif u == 0 then
      bif w==0 then some [AC.int IntKind.i64 0,AC.int IntKind.i64 0,AC.int IntKind.i64 0,AC.int IntKind.i64 0,AC.bool false]
      else(MO [AC.int IntKind.i64 u,AC.int IntKind.i64 ((O (O (a.r+b.r)+1)).fdiv (2^min (Int.toNat 1) IntKind.i64.bits)),AC.int IntKind.i64 (O (O (u*u)+O (w*w))),AC.int IntKind.i64 2]).bind λD=>
       (MO [AC.int IntKind.i64 w,AC.int IntKind.i64 ((O (O (a.r+b.r)+1)).fdiv (2^min (Int.toNat 1) IntKind.i64.bits)),AC.int IntKind.i64 (O (O (u*u)+O (w*w))),AC.int IntKind.i64 2]).bind λG=>
       some [AC.int IntKind.i64 (Af (nth AC.vD D 0)),AC.int IntKind.i64 (Af (nth AC.vD G 0)),AC.int IntKind.i64 ((O (O (a.r+b.r)+1)).fdiv (2^min (Int.toNat 1) IntKind.i64.bits)),AC.int IntKind.i64 ((O (O (a.h+b.h)+1)).fdiv (2^min (Int.toNat 1) IntKind.i64.bits)),AC.bool true]
     else(MO [AC.int IntKind.i64 u,AC.int IntKind.i64 ((O (O (a.r+b.r)+1)).fdiv (2^min (Int.toNat 1) IntKind.i64.bits)),AC.int IntKind.i64 (O (O (u*u)+O (w*w))),AC.int IntKind.i64 2]).bind λD=>
       (MO [AC.int IntKind.i64 w,AC.int IntKind.i64 ((O (O (a.r+b.r)+1)).fdiv (2^min (Int.toNat 1) IntKind.i64.bits)),AC.int IntKind.i64 (O (O (u*u)+O (w*w))),AC.int IntKind.i64 2]).bind λG=>
       some [AC.int IntKind.i64 (Af (nth AC.vD D 0)),AC.int IntKind.i64 (Af (nth AC.vD G 0)),AC.int IntKind.i64 ((O (O (a.r+b.r)+1)).fdiv (2^min (Int.toNat 1) IntKind.i64.bits)),AC.int IntKind.i64 ((O (O (a.h+b.h)+1)).fdiv (2^min (Int.toNat 1) IntKind.i64.bits)),AC.bool true])=
    some (Dp (DC a b u w)++[B (decide (¬(u=0/\w=0)))]):=by
  have q1:=B3 M;have q2:=B3 N;have e:O (O (u*u)+O (w*w))=sq2 u w:=by
    unfold sq2;generalize u*u=x at*;generalize w*w=y at*;rw[Ad (x:=x),Ad (x:=y),Ad]
  have V:(O (O (a.r+b.r)+1)).fdiv (2^min (Int.toNat 1) IntKind.i64.bits)=hf a.r b.r:=by
    have X:=L.2.2.1;have Y:=hb.2.2.1;rw[Ad (x:=a.r+b.r),Ad,show(2^min (Int.toNat 1) IntKind.i64.bits:Int)=2 from rfl,Int.fdiv_eq_ediv_of_nonneg _ (by omega)];rfl
  have eh:(O (O (a.h+b.h)+1)).fdiv (2^min (Int.toNat 1) IntKind.i64.bits)=hf a.h b.h:=by
    have X:=L.2.2.2;have Y:=hb.2.2.2;rw[Ad (x:=a.h+b.h),Ad,show(2^min (Int.toNat 1) IntKind.i64.bits:Int)=2 from rfl,Int.fdiv_eq_ediv_of_nonneg _ (by omega)];rfl
  simp only[V,eh,e];unfold DC;by_cases h:u=0/\w=0
  · grind
  obtain⟨n1,n2⟩:=U h
  simp only[n1,n2,go_sem]
  grind
def Zs8 {a b:Spk} (N:okS a) (hb:okS b) {dir:Int} (hd:dir=1\/dir= -1) (bI:Bool)
    (hO:∀{u w:Int},u.natAbs<=100000000->w.natAbs<=100000000-> ¬(u=0/\w=0)->M [I u,I (hf a.r b.r),I (sq2 u w),I 2]=some [I (AM u (hf a.r b.r) (sq2 u w)),B true]/\M [I w,I (hf a.r b.r),I (sq2 u w),I 2]=some [I (AM w (hf a.r b.r) (sq2 u w)),B true])
    (hC:Z [I a.u,I a.w,I a.r,I a.h,I b.u,I b.w,I b.r,I b.h]=some [I (crs a.u a.w b.u b.w)]) (hD:V [I a.u,I a.w,I a.r,I a.h,I b.u,I b.w,I b.r,I b.h]=some [I (dt2 a.u a.w b.u b.w)])
    (a0:(crs a.u a.w b.u b.w).natAbs<=5000000000000000):
    Qc4 M Z V [I a.u,I a.w,I a.r,I a.h,I b.u,I b.w,I b.r,I b.h,I dir,B bI]=some (Dp (AS a b dir bI)++[B (decide (¬((BR a b dir bI).1=0/\(BR a b dir bI).2=0)))]):=by
  have key:=fun{u w:Int} (Y:u.natAbs<=100000000) (hw:w.natAbs<=100000000)=>Ydf (MO:=M) (a:=a) (b:=b) N hb Y hw (hO Y hw);have G:=NE N hb hd bI;obtain⟨a1,a2,-⟩:=N;obtain⟨b1,b2,-⟩:=hb;have w1:O (0-a.u)= -a.u:=by rw[Ad];omega
  have w2:O (0-a.w)= -a.w:=by rw[Ad];omega
  have w3:O (a.u+b.u)=a.u+b.u:=Ad;have w4:O (a.w+b.w)=a.w+b.w:=Ad;have w5:O (0-(a.u+b.u))= -(a.u+b.u):=by rw[Ad];omega
  have w6:O (0-(a.w+b.w))= -(a.w+b.w):=by rw[Ad];omega
  have w7:O (b.w-a.w)=b.w-a.w:=Ad;have w8:O (a.u-b.u)=a.u-b.u:=Ad;have w9:O (dir*(b.w-a.w))=dir*(b.w-a.w):=by rcases hd with rfl|rfl<;>exact Ad
  have U:O (dir*(a.u-b.u))=dir*(a.u-b.u):=by rcases hd with rfl|rfl<;>exact Ad
  have X:O (crs a.u a.w b.u b.w*dir)=crs a.u a.w b.u b.w*dir:=by rcases hd with rfl|rfl<;>exact Ad
  rw[Zw9];try dsimp only[go_sem]
  unfold AS;simp only[w1,w2,w3,w4,w5,w6,w7,w8,w9,U,hC,hD,aq,Iu,Id,gA,jA,wA,bA,X];have fin:∀{x:Option (List AC)},x=some (Dp (DC a b (BR a b dir bI).1 (BR a b dir bI).2)++[B (decide (¬((BR a b dir bI).1=0/\(BR a b dir bI).2=0)))])->
      (bif dir !=1 then bif dir != -1 then some [AC.int IntKind.i64 0,AC.int IntKind.i64 0,AC.int IntKind.i64 0,AC.int IntKind.i64 0,AC.bool false]else x else x)=some (Dp (DC a b (BR a b dir bI).1 (BR a b dir bI).2)++[B (decide (¬((BR a b dir bI).1=0/\(BR a b dir bI).2=0)))]):=by
    intro x hx;rcases hd with rfl|rfl
    · grind
    grind
  refine fin ?_;have D:=key G.1 G.2;unfold BR at*;cases bI
  · simp only[bn,j6,j8]at D⊢
    by_cases L:0<dt2 a.u a.w b.u b.w
    · rw[BX (show¬dt2 a.u a.w b.u b.w<=0 by omega)]
      by_cases c2:0<crs a.u a.w b.u b.w*dir
      · rw[BX (show¬crs a.u a.w b.u b.w*dir<=0 by omega)]
        rw[ac ⟨L,c2⟩]at D⊢;exact D
      rw[E0 (show crs a.u a.w b.u b.w*dir<=0 by omega)]
      rw[ab (λh=>c2 h.2),ac L]at D⊢;exact D
    rw[E0 (show dt2 a.u a.w b.u b.w<=0 by omega)]
    rw[ab (λh=>L h.1),ab L]at D⊢;exact D
  simp only[am,ig]at D⊢
  exact D
def Ybx {u w r:Int} (D:u.natAbs<=100000000) (G:w.natAbs<=100000000) (L:0<=r/\r<=50000000) (h: ¬(u=0/\w=0)):
    Ly [I u,I r,I (sq2 u w),I 2]=some [I (AM u r (sq2 u w)),B true]/\Ly [I w,I r,I (sq2 u w),I 2]=some [I (AM w r (sq2 u w)),B true]:=by
  have M:=KA h;have N:=B3 D;have O:=B3 G
  grind [sq2,Qr3]
def Zt6 {a b:Spk} (D:okS a) (hb:okS b) {dir:Int} (hd:dir=1\/dir= -1) (bI:Bool):
    Ov [I a.u,I a.w,I a.r,I a.h,I b.u,I b.w,I b.r,I b.h,I dir,B bI]=some (Dp (AS a b dir bI)++[B (decide (¬((BR a b dir bI).1=0/\(BR a b dir bI).2=0)))]):=by
  have G:=(Qdn D.1 D.2.1 hb.1 hb.2.1).2;exact Zs8 D hb hd bI (λL M h=>Ybx L M (Qee D.2.2.1 hb.2.2.1) h)
    (Qhd (HT D.1) (HT D.2.1) (HT hb.1) (HT hb.2.1)) (Qfo (HT D.1) (HT D.2.1) (HT hb.1) (HT hb.2.1)) G
def okT (s:Spk):Prop:=okS s/\ ¬(s.u=0/\s.w=0)/\1<=s.r
def Qkq {a b:Spk} (G: ¬(a.u=0/\a.w=0)) (hb: ¬(b.u=0/\b.w=0)) {dir:Int} (hd:dir=1\/dir= -1) (bI:Bool): ¬((BR a b dir bI).1=0/\(BR a b dir bI).2=0):=by
  have I:=KA G;unfold sq2 at I;unfold BR;split
  · omega
  rename_i hf
  have key:0<dt2 a.u a.w b.u b.w-> ¬(a.u+b.u=0/\a.w+b.w=0):=by
    intro D ⟨L,M⟩;have e1:b.u= -a.u:=by omega
    have e2:b.w= -a.w:=by omega
    unfold dt2 at D;rw[e1,e2,Int.mul_neg,Int.mul_neg]at D;omega
  split
  · omega
  split
  · omega
  rename_i N O
  rintro⟨L,M⟩
  grind [dt2]
theorem Yba {u w r:Int} (G:u.natAbs<=100000000) (I:w.natAbs<=100000000) (O:1<=r/\r<=50000000) (h: ¬(u=0/\w=0)): ¬(AM u r (sq2 u w)=0/\AM w r (sq2 u w)=0):=by
  have U:=KA h;have V:=B3 G;have X:=B3 I;have Y:sq2 u w<=20000000000000000:=by unfold sq2;omega
  have key:∀x:Int,x.natAbs<=100000000->x*x<=sq2 u w->AM x r (sq2 u w)=0->4*(x*x)<=sq2 u w:=by
    intro x L M N;obtain⟨-,D⟩:=To (r:=r) (co L (by decide)) (by omega) (by omega) M;rw[N]at D;obtain⟨-,D⟩:=D;have g4:4*(x.natAbs*r.natAbs*(x.natAbs*r.natAbs))<=(sq2 u w).natAbs:=by
      rw[show(0:Int).natAbs=0 from rfl]at D;split at D<;>omega
    have e1:x.natAbs*r.natAbs*(x.natAbs*r.natAbs)=x.natAbs*x.natAbs*(r.natAbs*r.natAbs):=by grind
    have g5:x.natAbs*x.natAbs*1<=x.natAbs*x.natAbs*(r.natAbs*r.natAbs):=Nat.mul_le_mul_left _ (d9 (show 1<=r.natAbs by omega) (show 1<=r.natAbs by omega));have e2:((x.natAbs*x.natAbs:Nat):Int)=x*x:=bv;omega
  grind [sq2]
def Z8v {a b:Spk} (D:okT a) (hb:okT b) {dir:Int} (hd:dir=1\/dir= -1) (bI:Bool):okT (AS a b dir bI):=by
  have hn:=Qkq D.2.1 hb.2.1 hd bI;have G:=NE D.1 hb.1 hd bI;have I:=D.1.2.2.1;have L:=hb.1.2.2.1;have M:=hb.2.2;have N:1<=hf a.r b.r/\hf a.r b.r<=50000000:=by unfold hf;omega
  refine⟨Qax D.1 hb.1 hd bI,?_,?_⟩
  · simp_all [AS,DC,ab,Yba]
  simp_all [AS,DC,ab]
def Z6b {r n:Int} (D:0<=r/\r<=50000000):Sj [I r,I n]=some [B (decide (n<=32*r-64))]:=by
  unfold Sj;rw[Z5x,Ad (x:=8*r),Ad (x:=8*r*4),Ad,show 8*r*4-64=32*r-64 by omega]
def Zsu {a b:Spk} (G:okS a) (hb:okS b) {dir:Int} (hd:dir=1\/dir= -1) (bI:Bool)
    (U:∀{r n:Int},(0<=r/\r<=50000000)->M [I r,I n]=some [B (decide (n<=32*r-64))])
    (V:Z [I a.u,I a.w,I a.r,I a.h,I b.u,I b.w,I b.r,I b.h]=some [I (crs a.u a.w b.u b.w)]) (X:(crs a.u a.w b.u b.w).natAbs<=5000000000000000):
    Qeq M Z [.vC En l,I a.u,I a.w,I a.r,I a.h,I b.u,I b.w,I b.r,I b.h,B bI,I dir]=some [.vC En l,B (decide (EN a b dir bI)),I dir]:=by
  have Y:0<=mn a.r b.r/\mn a.r b.r<=50000000:=by
    have h1:=G.2.2.1;have h2:=hb.2.2.1;unfold mn;split<;>omega
  obtain⟨a1,a2,-⟩:=G;obtain⟨b1,b2,-⟩:=hb;have L:=I2 a1 b1;have N:=I2 a2 b2;have q1:=B3 L;have q2:=B3 N;have e:O (O ((a.u-b.u)*(a.u-b.u))+O ((a.w-b.w)*(a.w-b.w)))=sq2 (a.u-b.u) (a.w-b.w):=by
    unfold sq2;generalize(a.u-b.u)*(a.u-b.u)=x at*;generalize(a.w-b.w)*(a.w-b.w)=y at*;rw[Ad (x:=x),Ad (x:=y),Ad]
  have D:O (crs a.u a.w b.u b.w*dir)=crs a.u a.w b.u b.w*dir:=by rcases hd with rfl|rfl<;>exact Ad
  rw[Zq3,Jr L (by decide),Jr N (by decide),e];cases bI
  · simp only[Bool.not_false,am,V,aq,Iu,Id,gA,jA,wA,bA,D,U Y,Qih]
    by_cases c:0<crs a.u a.w b.u b.w*dir
    · rw[E0 (show crs a.u a.w b.u b.w*dir>0 from c)]
      by_cases c2:sq2 (a.u-b.u) (a.w-b.w)<=32*mn a.r b.r-64
      · simp_all [EN]
      grind [EN]
    simp_all [ba,EN]
  rfl
def Zpw {out:Rw} {a b:Spk} (D:okS a) (hb:okS b) {dir:Int} (hd:dir=1\/dir= -1) (bI:Bool):
    Nc [.vC En out,I a.u,I a.w,I a.r,I a.h,I b.u,I b.w,I b.r,I b.h,B bI,I dir]=some [.vC En out,B (decide (EN a b dir bI)),I dir]:=
  Zsu D hb hd bI Z6b (Qhd (HT D.1) (HT D.2.1) (HT hb.1) (HT hb.2.1)) (Qdn D.1 D.2.1 hb.1 hb.2.1).2
def Qjp {dir:Int} (hd:dir=1\/dir= -1):∀(n k:Nat) (bI:Bool) (a b:Spk) (out:List Spk),k<=16->k<n->okT a->okT b->out.length+2^k<=1000000->
    P2 n [.vC En (out.map Dp),I a.u,I a.w,I a.r,I a.h,I b.u,I b.w,I b.r,I b.h,B bI,I (16-k:Int),I dir]=some [.vC En ((out++A0 dir k bI a b).map Dp),I dir]
  |0,k,_,_,_,_,_,L,_,_,_=>by omega
  |n+1,0,bI,a,b,out,_,_,D,hb,M=>by
    show W0 _ _ _ _=_;rw[Qlv,BX (by omega),GE]
    · grind [A0]
    grind [Nat.ble_eq_true_of_le]
  |n+1,k+1,bI,a,b,out,L,hn,D,hb,M=>by
    have G:=Z8v D hb hd bI;have N:=Qkq D.2.1 hb.2.1 hd bI;have e3:2^(k+1)=2^k+2^k:=by rw[Nat.pow_succ];omega
    have U:0<2^k:=f8 _;have V:=(XF k false a (AS a b dir bI) (dir:=dir)).2;have i1:=Qjp hd n k false a (AS a b dir bI) out (by omega) (by omega) D G (by omega);have O:=Qjp hd n k false (AS a b dir bI) b (out++A0 dir k false a (AS a b dir bI)) (by omega) (by omega) G hb (by grind);have e1:=Zpw (out:=out.map Dp) D.1 hb.1 hd bI;have e2:=Zt6 D.1 hb.1 hd bI;rw[av N]at e2;show W0 (P2 n) Ov Nc _=_;generalize P2 n=X at*;generalize Ov=Y at*;generalize Nc=MS at*;rw[Qlv,E0 (by omega),Ad,show(16-((k+1:Nat):Int)+1)=16-(k:Int) by omega];unfold A0;generalize AS a b dir bI=m at*;generalize A0 dir k false a m=p1 at*;generalize A0 dir k false m b=p2 at*;simp only[da,cq,Dp]at e2;simp only[e1,e2,aq,Iu,Cx,Cx,Cx,Cx,Id,gA,jA,wA,bA,Qih,i1,O,Qiq];by_cases c:EN a b dir bI
    · rw[ac c,CE (by simp[c]),GE]
      · simp
      grind [Nat.ble_eq_true_of_le]
    grind
def Q49 {it:Itm} (D:bd 1048576 it.ce) (G:bd 1048576 d) (O:64<=sq2 (dU it d) (dW it d)):okT (Av it d):=by
 obtain⟨U,V,I,L⟩:=PP D G;have e:sq2 (dU it d*16) (dW it d*16)=256*sq2 (dU it d) (dW it d):=by unfold sq2;grind
 refine⟨P6 D G,?_,?_⟩
 ·show¬(dU it d*16=0/\dW it d*16=0)
  grind
 show 1<=Fo _;obtain⟨n,hn⟩:=bh I;rw[hn]at L⊢;obtain⟨r,M,N⟩:=LT n;rw[Pu (Sh M N)]
 grind
theorem Znq {n:Nat} (hn:n<=2251799813685248):Me [I n,I 2]=some [I (Fo n),B true]:=by
 obtain⟨r,D,G,L⟩:=Qtk (n:=n) (by omega) (.inr rfl);rw[D,Pu (Sh G L)];simp
def Z7b {it:Itm} (hV:∃v,H (Ag it)=some [B v]/\(v=true↔Cb it)) (h:Cb it)
  (N:it.aP=3->P (Ag it)=some [I (dU it it.fr*16),I (dW it it.fr*16),I 0,I (plH it.aG it.fr*16),I (dU it it.to*16),I (dW it it.to*16),I 0,I (plH it.aG it.to*16)])
  (G:∀p:Pt,it.aP=3->(p=it.fr\/p=it.to)->V [I (dU it p*16),I (dW it p*16),I 0,I (plH it.aG p*16),I (dU it p*16),I (dW it p*16),I 0,I (plH it.aG p*16)]=some [I (sq2 (dU it p*16) (dW it p*16))])
  (L:∀p:Pt,it.aP=3->(p=it.fr\/p=it.to)->Z [I (sq2 (dU it p*16) (dW it p*16)),I 2]=some [I (Fo (sq2 (dU it p*16) (dW it p*16))),B true])
  (O:it.aP=3->M (.vC En [Dp (Av it it.fr)]::Dp (Av it it.fr)++Dp (Av it it.to)++[B it.bI,I 0,I it.dir])=some [.vC En ((Dh it).map Dp),I it.dir]):
  Qh8 M Z V P H (Ag it)=if it.aP=3 then some [.vC En ((Dh it).map Dp),B true]else some [.vC En [],B false]:=by
 obtain⟨v,U,X⟩:=hV;rw[Z7s];by_cases D:it.aP=3
 ·have e:=N D;have p:=O D;have Y:=G it.fr D (.inl rfl);have d2:=G it.to D (.inr rfl);have q1:=L it.fr D (.inl rfl);have q2:=L it.to D (.inr rfl);simp only[da,cq,Av]at p;simp only[go_sem,U,e,Y,d2,q1,q2,p]
  grind
 grind
def Zot {it:Itm} (h:Cb it):SW (Ag it)=if it.aP=3 then some [.vC En ((Dh it).map Dp),B true]else some [.vC En [],B false]:=by
 have hb:it.aP=3->∀p:Pt,(p=it.fr\/p=it.to)->bd 1048576 it.ce/\bd 1048576 p:=by
  intro D p I;obtain⟨-,N,O,M⟩:=h;obtain⟨-,-,G,-⟩:=M D;rcases I with rfl|rfl
  ·grind
  grind
 refine Z7b (Td it) h (λD=> ?_) (λp D I=> ?_) (λp D I=> ?_) λD=> ?_
 ·obtain⟨-,N,O,M⟩:=h;obtain⟨I,-,G,-⟩:=M D
  grind [Zkr]
 ·obtain⟨G,L⟩:=hb D p I;obtain⟨g1,g2,-⟩:=PP G L;exact Qfo (co g1 (by decide)) (co g2 (by decide)) (co g1 (by decide)) (co g2 (by decide))
 ·obtain⟨G,L⟩:=hb D p I;obtain⟨-,-,X,Y⟩:=PP G L
  grind [Int.eq_ofNat_of_zero_le,Znq]
 obtain⟨-,N,O,M⟩:=h;obtain⟨I,hd,G,U,V,-⟩:=M D;have:=Qjp hd 20 16 it.bI (Av it it.fr) (Av it it.to) [Av it it.fr] (by omega) (by omega) (Q49 G N U) (Q49 G O V) (show 1+2^16<=1000000 by decide);exact this
def Z2i {u w h pl:Int} (G:CU pl):Q6 [I u,I w,I h,I pl]=some (ptR (spP pl u w h)):=by
 show Qez IF _=_;have D:=Qd2 pl;rw[Z26];rcases G with rfl|rfl|rfl
 ·have e:axI 17=(0,1,2):=rfl;rw[D];rfl
 ·have e:axI 18=(2,0,1):=rfl;rw[e]at D;rw[D];rfl
 have e:axI 19=(1,2,0):=rfl;rw[D];rfl
theorem Zq2 {α:Type} (pre rest:List α) (x z:α):(pre++x::rest).set pre.length z=(pre++[z])++rest:=by simp
def EY {α:Type} (f:Nat->α) (z:α) (n i:Nat):List α:=(List.range i).map f++List.replicate (n-i) z
def Zfv {α:Type} (f:Nat->α) (z:α) {n i:Nat} (h:i<=n):(EY f z n i).length=n:=by grind [EY]
def Q5t {α:Type} (f:Nat->α) (z:α) {n i:Nat} (h:i<n):(EY f z n i).set i (f i)=EY f z n (i+1):=by
 unfold EY;have e:n-i=(n-(i+1))+1:=by omega
 grind [Zq2,List.range_succ]
theorem Qq5 {α:Type} (f:Nat->α) (z:α) (n:Nat):EY f z n n=(List.range n).map f:=by grind [EY]
theorem Zqz {α:Type} (l:List α) (d:α):(List.range l.length).map (λi=>l.getD i d)=l:=by
 apply List.ext_getElem
 ·simp
 grind
def Ky:Spk:=⟨0,0,0,0⟩
def Qqy {MS MP MF MK MV:Fn} {it:Itm} {l:List Spk} {L M:Int} (X:l.length<=65537) (U:L.natAbs<=16777216) (V:M.natAbs<=16777216) (N:∀s∈l,okS s)
  (hS:∀{u w h:Int},MS [I u,I w,I h,I it.aG]=some (ptR (spP it.aG u w h))) {f:Nat->List AC} (hf:∀i,f i=ptR (spP it.aG (L+(l.getD i Ky).u) (M+(l.getD i Ky).w) (l.getD i Ky).h)):
  ∀(k i:Nat),i+k=l.length->Ak (Sp MS MP MF MK MV) (.vC kPt (EY f [I 0,I 0,I 0] l.length i)::I L::I M:: .vC En (l.map Dp)::I l.length::I i::Ag it)=
   some (1,[.vC kPt ((List.range l.length).map f)])
 |0,i,Y=>by simp_all [Bc,Q3j,Qq5]
 |k+1,i,Y=>by
  have G:i<l.length:=by omega
  have hs:Sp MS MP MF MK MV (.vC kPt (EY f [I 0,I 0,I 0] l.length i)::I L::I M:: .vC En (l.map Dp)::I l.length::I i::Ag it)=
    some (0, .vC kPt (EY f [I 0,I 0,I 0] l.length (i+1))::I L::I M:: .vC En (l.map Dp)::I l.length::I (i+1:Nat)::Ag it):=by
   rw[Q3j];have hr:nth [] (l.map Dp) i=Dp l[i]:=IS _ _ _ _ G;have ho:=N _ (dl G);have a0:=Zfv f [I 0,I 0,I 0] (show i<=l.length by omega);have O:=hf i;rw[show l.getD i Ky=l[i] by grind]at O;have D:=Q5t f [I 0,I 0,I 0] G;rw[O]at D;generalize l[i]=s at*;obtain⟨s1,s2,-⟩:=ho;simp only[go_sem,ag,aj,hr];rw[ac,ac,Ad,Ad,Ad];simp only[hS,go_sem];rw[ac,D];rfl
  rw[Bw hs];exact Qqy X U V N hS hf k (i+1) (by omega)
def Z34 {MS G L MK M:Fn} {it:Itm} {S:List Spk} {f:Pt} {u w h:Int} (O:M (Ag it)=some [B true])
  (U:MK (Ag it)=some [.vC En (S.map Dp),B true]) (hf:L [I it.ce.x,I it.ce.y,I it.ce.z]=some (ptR f)) (D:G [I f.x,I f.y,I f.z,I it.aG]=some [I u,I w,I h]) (hS:S.length<=65537)
  (V:N [.vC kPt (List.replicate S.length [I 0,I 0,I 0]),I u,I w, .vC En (S.map Dp),I S.length,I 0,I it.aP,I it.block,I it.fr.x,I it.fr.y,I it.fr.z,I it.to.x,I it.to.y,I it.to.z,I it.aG,I it.ce.x,I it.ce.y,I it.ce.z,I it.dir,B it.bI,I it.aZ,B it.perRev,I it.side,I it.radius,I it.bJ,I it.n,I it.aS,B it.on]=some (1,[.vC kPt l])):
  WF MS G L MK M N (Ag it)=some [.vC kPt l,B true]:=by
 rw[Yi];simp only[go_sem,O,U,hf,D,aj,ag,V]
 grind
def Ybn {it:Itm} (hV:∃v,H (Ag it)=some [B v]/\(v=true↔Cb it)) (h:Cb it)
  (L:P (Ag it)=if it.aP=3 then some [.vC En ((Dh it).map Dp),B true]else some [.vC En [],B false])
  (N:∀{p:Pt},bd 100000000 p->V [I p.x,I p.y,I p.z]=some (ptR (Am p))) (hP:CU it.aG->∀{p:Pt},Z [I p.x,I p.y,I p.z,I it.aG]=some [I (plU it.aG p),I (plW it.aG p),I (plH it.aG p)])
  (hS:CU it.aG->∀{u w h:Int},M [I u,I w,I h,I it.aG]=some (ptR (spP it.aG u w h))):
  WF M Z V P H (Ak (Sp M Z V P H)) (Ag it)=some [.vC kPt ((BE it).map ptR),B true]:=by
 obtain⟨v,Y,O⟩:=hV;rw[Yi];have U:=O.2 h;subst U;obtain⟨-,h1,h2,ha⟩:=id h;by_cases D:it.aP=3
 ·obtain⟨hp,hd,hc,-⟩:=ha D;rw[ac D]at L;obtain⟨c1,c2,c3⟩:=FL (C7 hc);have G:=(Quz it).2;have hl:=Qqy (MP:=Z) (MF:=V) (MK:=P) (MV:=H) G c1 c2 (Zcb h D) (hS hp)
   (f:=λi=>ptR (Bo it ((Dh it).getD i Ky))) (λ_=>rfl) (Dh it).length 0 (by omega)
  have a0:(List.range (Dh it).length).map (λi=>ptR (Bo it ((Dh it).getD i Ky)))=((Dh it).map (Bo it)).map ptR:=by
   rw[List.map_map]
   conv=>rhs;rw[<-Zqz (Dh it) Ky]
   rw[List.map_map];rfl
  have a1:EY (λi=>ptR (Bo it ((Dh it).getD i Ky))) [I 0,I 0,I 0] (Dh it).length 0=List.replicate (Dh it).length [I 0,I 0,I 0]:=by unfold EY;simp
  have hf:=N (AH hc (by decide));have X:= @hP hp (Am it.ce);have:=Z34 (MS:=M) Y L hf X G hl;simp_all [Yi,BE]
 rw[ab D]at L;have f1:=N (AH h1 (by decide));have f2:=N (AH h2 (by decide));unfold BE;rw[ab D];simp only[go_sem,Y,L,f1,f2];simp
def Yc5 {it:Itm} (h:Cb it):Uc (Ag it)=some [.vC kPt ((BE it).map ptR),B true]:=
 Ybn (Td it) h (Zot h) Q5f (λD=>Zu D) (λD=>Z2i D)
def Z8a {c a:Pt} (D:bd B24 c) (G:bd B24 a) (L:a≠c) (hd:0<=u/\u<=33554432)
  (N:∀{x:Int},x.natAbs<=33554432*4->x*x<=sqD a c->M [I x,I u,I (sqD a c),I 2]=some [I (AM x u (sqD a c)),B true]/\(AM x u (sqD a c)).natAbs<=268435456):
  Qjo M [I c.x,I c.y,I c.z,I a.x,I a.y,I a.z,I u]=some (ptR (AE c a u)++[B true]):=by
 obtain⟨X,Y,q3⟩:=W7 a c;have O:=I2 G.1 D.1;have U:=I2 G.2.1 D.2.1;have V:=I2 G.2.2 D.2.2;obtain⟨n1,b1⟩:=N (co O (by decide)) X;obtain⟨n2,b2⟩:=N (co U (by decide)) Y;obtain⟨n3,b3⟩:=N (co V (by decide)) q3;have h6:=Int.not_lt.2 hd.1;have h7:=Int.not_lt.2 hd.2;rw[Zqh,Zgg (AH G (by decide)) (AH D (by decide)),Jr O (by decide),Jr U (by decide),Jr V (by decide)];simp only[go_sem,n1,n2,n3];rw[ab (λh=>L (If.2 ⟨h.1,h.2.1,h.2.2.1⟩)),ab h6,ab h7];rw[Jr (Wd D.1 b1) (by decide),Jr (Wd D.2.1 b2) (by decide),Jr (Wd D.2.2 b3) (by decide)];rfl
def ZE {c a:Pt} {d:Int} (G:bd B24 c) (L:bd B24 a) (D:a≠c) (hd:0<=d/\d<=33554432):
  IX [I c.x,I c.y,I c.z,I a.x,I a.y,I a.z,I d]=some (ptR (AE c a d)++[B true]):=by
 have M:=λh=>D (VW.1 h);have N:=KK a c;have O:=Un (AH L (by decide)) (AH G (by decide)) (show 67108864<=67108864 by omega);refine Z8a G L D hd fun{x} U V=> ?_
 grind [To,Qr3]
def Qqm {p c q:Pt} (D:bd B24 p) (G:bd B24 c) (L:bd B24 q):JY [I p.x,I p.y,I p.z,I c.x,I c.y,I c.z,I q.x,I q.y,I q.z]=some [I (H2 p c q)]:=by
 have hb:=Zy7 D G L;have g1:=B3 hb.1;have g2:=B3 hb.2.1;have M:=B3 hb.2.2;unfold JY;have w:∀u v c:Int,u.natAbs<=16777216->v.natAbs<=16777216->c.natAbs<=16777216->O (O (u+v)-O (2*c))=u-c+(v-c):=by
  intro u v c N U V;rw[Ad (x:=u+v),Ad (x:=2*c),Ad];omega
 rw[Z5h,w _ _ _ D.1 L.1 G.1,w _ _ _ D.2.1 L.2.1 G.2.1,w _ _ _ D.2.2 L.2.2 G.2.2];have e1:p.x-c.x+(q.x-c.x)=(GH p c q).x:=rfl;have e2:p.y-c.y+(q.y-c.y)=(GH p c q).y:=rfl;have e3:p.z-c.z+(q.z-c.z)=(GH p c q).z:=rfl;rw[e1,e2,e3];unfold H2 Bf;generalize(GH p c q).x*(GH p c q).x=u at*;generalize(GH p c q).y*(GH p c q).y=v at*;generalize(GH p c q).z*(GH p c q).z=w at*;rw[Ad (x:=u),Ad (x:=0+u),Ad (x:=v),Ad (x:=0+u+v),Ad (x:=w),Ad,Int.zero_add]
open Classical in
def Z0t {a c b:Pt} {tol d e bit:Int} (O:bd B24 a) (U:bd B24 c) (hb:bd B24 b) (D:a≠c) (G:b≠c) (N:0<=tol/\tol<=16000) (hd:0<=d/\d+e<=33554432) (he:0<e) (L:e.fdiv (2^min (Int.toNat 1) IntKind.i64.bits)=bit)
  (l3:0<=AB a c/\AB a c<=268435456) (l4:0<=AB c b/\AB c b<=268435456)
  (hT:∀{a:Pt} {d:Int},bd B24 a->a≠c->0<=d/\d<=33554432->Z [I c.x,I c.y,I c.z,I a.x,I a.y,I a.z,I d]=some (ptR (AE c a d)++[B true]))
  (hB:∀{p q:Pt},bd B24 p->bd B24 q->M [I p.x,I p.y,I p.z,I c.x,I c.y,I c.z,I q.x,I q.y,I q.z]=some [I (H2 p c q)]):
  Pk M Z V [I tol,I (mn (AB a c) (AB c b)-2),I d,I e,I a.x,I a.y,I a.z,I c.x,I c.y,I c.z,I b.x,I b.y,I b.z]=
   some (0,[I tol,I (mn (AB a c) (AB c b)-2),I (if Iq a c b tol (d+e)then d+e else d),I bit,I a.x,I a.y,I a.z,I c.x,I c.y,I c.z,I b.x,I b.y,I b.z]):=by
 obtain⟨m1,m2⟩:=Tl (AB a c) (AB c b);have X:0<=16*tol*tol/\16*tol*tol<=4096000000:=by
  have:=cv (show 16*tol<=256000 by omega) N.2 N.1;exact⟨al (by omega) N.1,by omega⟩
 rw[Zad,L,Ad (x:=d+e),E0 he,Ad (x:=16*tol),Ad (x:=16*tol*tol)];by_cases h:d+e>mn (AB a c) (AB c b)-2
 ·rw[E0 h,ab (λY:Iq a c b tol (d+e)=>by have:=Y.1;omega)]
 rw[BX h];have k1:bd B24 (AE c a (d+e)):=QM U O D (by omega);have k2:bd B24 (AE c b (d+e)):=QM U hb G (by grind [Vs]);have t1:=hT (d:=d+e) O D (by omega);have t2:=hT (d:=d+e) hb G (by omega);simp only[t1,t2,go_sem,hB k1 k2];by_cases h2:H2 (AE c a (d+e)) c (AE c b (d+e))<=16*tol*tol
 ·simp_all [Iq]
 simp_all [ab,Iq]
open Classical in
def Qnu {L M ML:Fn} {a c b:Pt} {tol m:Int}
  (D : ∀ {d e bit : Int}, 0 <= d /\ d + e <= 33554432 -> 0 < e -> e.fdiv (2 ^ min (Int.toNat 1) IntKind.i64.bits) = bit -> Pk L M ML [I tol, I m, I d, I e, I a.x, I a.y, I a.z, I c.x, I c.y, I c.z, I b.x, I b.y, I b.z] =
   some (0,[I tol,I m,I (if Iq a c b tol (d+e)then d+e else d),I bit,I a.x,I a.y,I a.z,I c.x,I c.y,I c.z,I b.x,I b.y,I b.z])):
  ∀(k:Nat) (d:Int),0<=d/\d+((2^(k+1):Nat):Int)<=33554432->
  Ak (Pk L M ML) [I tol,I m,I d,I ((2^k:Nat):Int),I a.x,I a.y,I a.z,I c.x,I c.y,I c.z,I b.x,I b.y,I b.z]=some (1,[I (Ii (Iq a c b tol) k d)])
 |0,d,hd=>by
  have G:∀d:Int,Ak (Pk L M ML) [I tol,I m,I d,I 0,I a.x,I a.y,I a.z,I c.x,I c.y,I c.z,I b.x,I b.y,I b.z]=some (1,[I d]):=by
   intro d;refine Bc ?_ (by simp);rw[Zad];rw[BX (by omega)]
  have N:=D (d:=d) (by omega) (by omega) Ybv;have e:((2^0:Nat):Int)=1:=rfl;rw[e,Bw N,G];rfl
 |k+1,d,hd=>by
  have O:0<2^(k+1):=f8 _;have e3:2^(k+1+1)=2^(k+1)+2^(k+1):=by rw[Nat.pow_succ 2 (k+1)];omega
  have N:=D (d:=d) (by omega) (by omega) (Zp2 k);rw[Bw N];refine Qnu D k _ ?_;omega
def Z5p {a c b:Pt}
  (O:M [I a.x,I a.y,I a.z,I c.x,I c.y,I c.z]=some [I (AB a c)]) (U:M [I c.x,I c.y,I c.z,I b.x,I b.y,I b.z]=some [I (AB c b)])
  (Y:0<=AB a c/\AB a c<=268435456) (l4:0<=AB c b/\AB c b<=268435456)
  (X:a≠c->b≠c->N [I u,I (mn (AB a c) (AB c b)-2),I 0,I 16777216,I a.x,I a.y,I a.z,I c.x,I c.y,I c.z,I b.x,I b.y,I b.z]=some (1,[I (Ii (Iq a c b u) 24 0)])):
  Qhl Z V M N [I a.x,I a.y,I a.z,I c.x,I c.y,I c.z,I b.x,I b.y,I b.z,I u]=some [I (Cp a c b u)]:=by
 rw[Zvd];have m3:0<=mn (AB a c) (AB c b)/\mn (AB a c) (AB c b)<=268435456:=by unfold mn;split<;>omega
 unfold Cp;by_cases D:a=c
 ·grind
 by_cases G:b=c
 ·grind
 have L:=X D G;simp only[go_sem,O,U];rw[Ad];simp only[L,go_sem];rw[ab (λh=>D (If.2 ⟨h.1,h.2.1,h.2.2.1⟩)),ab (λh=>G (If.2 ⟨h.1,h.2.1,h.2.2.1⟩)),ab (show¬(a=c\/b=c)from λh=>h.elim D G)]
 grind
def Yaa {a c b:Pt} (M:bd B24 a) (L:bd B24 c) (hb:bd B24 b) (N:0<=u/\u<=16000):
  PW [I a.x,I a.y,I a.z,I c.x,I c.y,I c.z,I b.x,I b.y,I b.z,I u]=some [I (Cp a c b u)]:=by
 have A:=AH M (show B24<=67108864 by decide);have C:=AH L (show B24<=67108864 by decide);have D:=AH hb (show B24<=67108864 by decide);exact Z5p (Qce A C) (Qce C D) (Ib A C) (Ib C D)
  λO U=>Qnu (λhd he G=>Z0t M L hb O U N hd he G (Ib A C) (Ib C D) (λhb hn hd=>ZE L hb hn hd) λV X=>Qqm V L X) 24 0 (by decide)
def Zx9 {p c q:Pt} (U:M [I p.x,I p.y,I p.z,I c.x,I c.y,I c.z,I q.x,I q.y,I q.z]=some [I (H2 p c q)]):
  ∀(k:Nat) (n:Int),JM n->64<=n*2^k->Ak (Si M) [I n,I p.x,I p.y,I p.z,I c.x,I c.y,I c.z,I q.x,I q.y,I q.z]=some (1,[I (OZ (H2 p c q) k n)]):=by
 have G:∀n:Int,JM n->Si M [I n,I p.x,I p.y,I p.z,I c.x,I c.y,I c.z,I q.x,I q.y,I q.z]=if n<64/\H2 p c q>16*n*n*n*n*4*4 then some (0,[I (n*2),I p.x,I p.y,I p.z,I c.x,I c.y,I c.z,I q.x,I q.y,I q.z])else some (1,[I n]):=by
  intro n hn;rw[Yaj];simp only[go_sem,U];have L:O (O (O (O (O (O (16*n)*n)*n)*n)*4)*4)=16*n*n*n*n*4*4/\O (n*2)=n*2:=by
   rcases hn with rfl|rfl|rfl|rfl|rfl|rfl<;>decide
  rw[L.1,L.2];by_cases X:n<64
  ·grind
  grind
 intro k;induction k with
 |zero=>
  intro n hn D;have:n=64:=by rcases hn with rfl|rfl|rfl|rfl|rfl|rfl<;>simp at D⊢
  subst this;refine Bc ?_ (by simp);rfl
 |succ k V=>
  intro n hn D;unfold OZ;by_cases h:n<64/\H2 p c q>16*n*n*n*n*4*4
  ·rw[ac h];have N:=G n hn;rw[ac h]at N;rw[Bw N];refine V (n*2) ?_ ?_
   ·grind [JM]
   grind [Int.mul_assoc,Int.mul_comm]
  rw[ab h];refine Bc ?_ (by simp)
  grind
def Yb9 {p c q:Pt} (D:bd B24 p) (G:bd B24 c) (L:bd B24 q):Nw [I p.x,I p.y,I p.z,I c.x,I c.y,I c.z,I q.x,I q.y,I q.z]=some [I (JQ p c q)]:=by
 have M:=Zx9 (Qqm D G L) 5 2 (.inl rfl) (by decide);show Qat _ (Ak (Si _)) _=_;rw[Zub];simp only[M];rfl
def Zkb {α:Type} (d x:α):∀(l:List α) (i:Nat),i<l.length->nth d (l.set i x) i=x
 |a::l,0,_=>rfl
 |a::l,i+1,h=>by simp;exact Zkb d x l i (by grind)
def Z04 {n i p c q:Int} (hn:2<=n/\n<=64) (D:0<=i/\i<=n) (G:p.natAbs<=B24) (L:c.natAbs<=B24) (M:q.natAbs<=B24):
  Cy [I (O (O (O (O (n-i)*O (n-i))*O (p-c))+O (O (i*i)*O (q-c)))),I 1,I (O (n*n)),I 2]=some [I (AA ((n-i)*(n-i)*(p-c)+i*i*(q-c)) (n*n)),B true]:=by
 have N:0<n*n/\n*n<=4096:=⟨dk,by have:=cv hn.2 hn.2;omega⟩;have U:0<=(n-i)*(n-i)/\(n-i)*(n-i)<=4096:=⟨Bj _,by have:=cv (show n-i<=64 by omega) (show n-i<=64 by omega);omega⟩;have V:0<=i*i/\i*i<=4096:=⟨Bj _,by have:=cv (show i<=64 by omega) (show i<=64 by omega);omega⟩;unfold B24 at*;rw[Ad (x:=n-i),Ad (x:=(n-i)*(n-i)),Ad (x:=p-c),Ad (x:=i*i),Ad (x:=q-c),Ad (x:=n*n)];have m1:=EF (x:=(n-i)*(n-i)) (y:=p-c) (A:=4096) (B:=33554432) (by omega) (by omega);have m2:=EF (x:=i*i) (y:=q-c) (A:=4096) (B:=33554432) (by omega) (by omega);generalize(n-i)*(n-i)*(p-c)=u at*;generalize i*i*(q-c)=v at*;rw[Ad (x:=u),Ad (x:=v),Ad];have h:=VR (a:=u+v) (b:=1) (c:=n*n) (by grind [i64]) (by grind [i64]) (by omega) (by grind)
 grind
def Za0 {MR MP MT MC:Fn} {p c q:Pt} {N:Nat} (Y:2<=N/\N<=64) (G:bd B24 p) (L:bd B24 c) (M:bd B24 q)
  (V:∀{i p c q:Int},(0<=i/\i<=N)->p.natAbs<=B24->c.natAbs<=B24->q.natAbs<=B24->MR [I (O (O (O (O ((N:Int)-i)*O ((N:Int)-i))*O (p-c))+O (O (i*i)*O (q-c)))),I 1,I (O ((N:Int)*(N:Int))),I 2]=some [I (AA (((N:Int)-i)*((N:Int)-i)*(p-c)+i*i*(q-c)) ((N:Int)*(N:Int))),B true])
  {f:Nat->List AC} (hf:∀i:Nat,f i=ptR (Ih N i p c q)):
  ∀(k i:Nat),i+k=N+1->Ak (Qr MR MP MT MC) [.vC kPt (EY f [I 0,I 0,I 0] (N+1) i),I N,I (N+1:Nat),I i,I c.x,I c.y,I c.z,I p.x,I p.y,I p.z,I q.x,I q.y,I q.z]=
   some (1,[.vC kPt ((List.range (N+1)).map f)])
 |0,i,hi=>by simp_all [Bc,Qk4,Qq5]
 |k+1,i,hi=>by
  have b1:=O9 (n:=N) (i:=i) (A:=B24) (by omega) (by omega) G.1 L.1 M.1;have b2:=O9 (n:=N) (i:=i) (A:=B24) (by omega) (by omega) G.2.1 L.2.1 M.2.1;have b3:=O9 (n:=N) (i:=i) (A:=B24) (by omega) (by omega) G.2.2 L.2.2 M.2.2;have r1:=V (i:=i) (by omega) G.1 L.1 M.1;have r2:=V (i:=i) (by omega) G.2.1 L.2.1 M.2.1;have r3:=V (i:=i) (by omega) G.2.2 L.2.2 M.2.2;have hs:Qr MR MP MT MC [.vC kPt (EY f [I 0,I 0,I 0] (N+1) i),I N,I (N+1:Nat),I i,I c.x,I c.y,I c.z,I p.x,I p.y,I p.z,I q.x,I q.y,I q.z]=
    some (0,[.vC kPt (EY f [I 0,I 0,I 0] (N+1) (i+1)),I N,I (N+1:Nat),I (i+1:Nat),I c.x,I c.y,I c.z,I p.x,I p.y,I p.z,I q.x,I q.y,I q.z]):=by
   have hlen:=Zfv f [I 0,I 0,I 0] (show i<=N+1 by omega);have D:=Q5t f [I 0,I 0,I 0] (show i<N+1 by omega);rw[hf i]at D;generalize EY f [I 0,I 0,I 0] (N+1) i=l at*;have U:∀x:List AC,nth [] (l.set i x) i=x:=λx=>Zkb _ _ _ _ (by omega);rw[Qk4];have X:(0:Int)<=(i:Int)/\(i:Int)<((N+1:Nat):Int):=by omega
   simp only[go_sem,r1,r2,r3,ag,hlen,ac X,List.set_set,U];rw[ac];unfold Lv B24 at b1 b2 b3;rw[Ad (x:=c.x+_),Ad (x:=c.y+_),Ad (x:=c.z+_),Ad];rw[<-D];rfl
  rw[Bw hs];exact Za0 Y G L M V hf k (i+1) (by omega)
def Zz6 {a c b:Pt} (M:bd B24 a) (D:bd B24 c) (hb:bd B24 b) (ht:0<=u/\u<=16000):
  TE [I a.x,I a.y,I a.z,I c.x,I c.y,I c.z,I b.x,I b.y,I b.z,I u]=some [.vC kPt ((Ea a c b u).map ptR)]:=by
 show Qgq _ _ _ _ (Ak (Qr _ _ _ _)) _=_;have e1:=Yaa M D hb ht;have hR:= @Z04;generalize PW=Y at*;unfold Ea;by_cases h:Cp a c b u=0
 ·rw[ac h];rw[Q5y];simp only[go_sem,e1]
  grind
 rw[ab h];obtain⟨h1,h2,h3,h4,h5,-⟩:=Xn h;obtain⟨m1,m2⟩:=Tl (AB a c) (AB c b);have h0: ¬Cp a c b u=0:=h;generalize Cp a c b u=d at*;have k1:bd B24 (AE c a d):=QM D M h1 (by omega);have k2:bd B24 (AE c b d):=QM D hb h2 (by grind [Vs]);have t1:=ZE D M h1 (d:=d) (by omega);have t2:=ZE D hb h2 (d:=d) (by omega);have p1:=Yb9 k1 D k2;have p2:=RW (AE c a d) c (AE c b d);generalize JQ (AE c a d) c (AE c b d)=n at*;obtain⟨N,rfl⟩:∃N:Nat,n=N:=⟨n.toNat,by rcases p2 with rfl|rfl|rfl|rfl|rfl|rfl<;>rfl⟩;have hN:2<=N/\N<=64:=by unfold JM at p2;omega
 have U:=Za0 (MR:=Cy) (MP:=Nw) (MT:=IX) (MC:=Y) hN k1 D k2 (λhi hp D hq=>hR (by omega) hi hp D hq) (f:=λi=>ptR (Ih N i (AE c a d) c (AE c b d))) (λ_=>rfl) (N+1) 0 (by omega);have V:∀f:Nat->List AC,EY f [I 0,I 0,I 0] (N+1) 0=List.replicate (N+1) [I 0,I 0,I 0]:=λf=>by rfl
 rw[V]at U;generalize Cy=MR at*;generalize Nw=MP at*;generalize IX=MT at*;generalize AE c a d=p at*;generalize AE c b d=q at*;rw[Q5y];simp only[da,cq,ptR]at t1 t2;have G:(List.range (N+1)).map (fun(i:Nat)=>ptR (Ih N i p c q))=((List.range ((N:Int).toNat+1)).map fun(i:Nat)=>Ih N i p c q).map ptR:=by rw[List.map_map,ag];rfl
 rw[G]at U;generalize((List.range ((N:Int).toNat+1)).map fun(i:Nat)=>Ih N i p c q).map ptR=C at*;generalize Ak (Qr MR MP MT Y)=L at*;have X:L [.vC kPt (List.replicate (N+1) [I 0,I 0,I 0]),I N,I (N+1:Nat),I 0,I c.x,I c.y,I c.z,I p.x,I p.y,I p.z,I q.x,I q.y,I q.z]=some (1,[.vC kPt C]):=U;have w1:O ((N:Int)+1)=((N+1:Nat):Int):=by rw[Ad];rfl
 simp only[e1,t1,t2,p1,w1,aq,Iu,Cx,Cx,Id,gA,jA,wA,bA,ag,List.length_replicate,Qiq];rw[CE (by grind),E0 trivial,GE (by grind),X];rfl
end Go.Bm
namespace Go.Bm
open Classical
def SV (k:Int):Fa [I k]=some [B (decide (1<=k/\k<=6))]:=by
 unfold Fa;rw[Yd0]
 grind
def WM (it:Itm):GP (Ag it)=some [B (decide (smI it))]:=by
 unfold GP;rw[Ydd];by_cases h:it.aP=2
 ·rw[GE (by simp[h])];congr 2;by_cases D:it.fr=it.to
  ·grind [smI]
  rw[av (⟨h,D⟩)];have G:=λG=>D (If.2 G)
  grind
 simp_all [CE,smI]
def Vv {it:Itm} (D:bd 1048576 it.fr) (G:bd 1048576 it.to):I6 (Ag it)=some (ptR (AQ it)):=by
 obtain⟨a1,a2,a3⟩:=D;obtain⟨b1,b2,b3⟩:=G;unfold I6;rw[Zv6,Ad (x:=it.fr.x+it.to.x),Ad,Ad (x:=it.fr.y+it.to.y),Ad,Ad (x:=it.fr.z+it.to.z),Ad];rfl
def Ydv (h:bd 100000000 d):Ss [I d.x,I d.y,I d.z]=some (ptR (Am d)):=by
 unfold Ss;rw[Zvi];obtain⟨D,G,L⟩:=h;rw[Ad,Ad,Ad];rfl
def Qr6 (it:Itm):JT (Ag it)=some [B (decide (syI it))]:=by
 unfold JT;rw[Zz1];by_cases D:it.aP=5
 ·simp_all [syI]
 rw[CE (by grind)];by_cases G:it.aP=6
 ·grind [syI]
 grind [syI]
def Zzz {it:Itm} (D:Z [I it.aP]=some [B (decide (1<=it.aP/\it.aP<=6))]) (hV:∃v,M (Ag it)=some [B v]/\(v=true↔Cb it)):
  Qe7 M Z (Ag it)=some [I (if Ci it then 1 else 0)]:=by
 obtain⟨v,G,L⟩:=hV;have N:∀{x:Int},(Ci it->x=1)->(¬Ci it->x=0)->some [I x]=some [I (if Ci it then 1 else 0)]:=by
  by_cases c:Ci it
  ·grind
  grind
 rw[Zxt];simp only[go_sem,D,G];unfold Ci Aw at N⊢
 grind
def Yc4 (it:Itm):Lf (Ag it)=some [I (if Ci it then 1 else 0)]:=Zzz (SV _) (Td it)
def EQ:List Itm->Nat->Nat
 |[],k=>k
 |it::l,k=>if it.aP=10 then EQ l (k+1)else k
def DN (aA:List Itm) (i:Nat):Nat:=EQ (aA.drop (i+1)) (i+1)
def Qh4:∀(l:List Itm) (k:Nat),k<=EQ l k/\EQ l k<=k+l.length
 |[],k=>by simp[EQ]
 |it::l,k=>by
  unfold EQ;split
  ·have:=Qh4 l (k+1);grind
  simp
theorem Q1v:∀(l:List Itm) (k:Nat),II l k=if EQ l k-k<l.length/\smI (l.getD (EQ l k-k) it0)then(EQ l k:Int)else-1
 |[],k=>by rfl
 |it::l,k=>by
  have G:=Qh4 l (k+1);by_cases D:it.aP=10
  ·have e1:II (it::l) k=II l (k+1):=by rw[II,ac D]
   have e2:EQ (it::l) k=EQ l (k+1):=by rw[EQ,ac D]
   rw[e1,e2,Q1v l (k+1)]
   grind
  simp_all [II,EQ]
def Q35 {aA:List Itm} (N:aA.length<=1000000):∀(k i:Nat),i+k=aA.length->
  Ak Rt [.vC Ae (aA.map Ag),I i]=some (1,[I (EQ (aA.drop i) i)])
 |0,i,O=>by
  refine Bc ?_ (by simp);rw[Zdm];simp only[go_sem,aj];rw[ab,fc (by omega)];rfl
 |k+1,i,O=>by
  have D:i<aA.length:=by omega
  have U:=Fq D;rw[Xa D];have G:Rt [.vC Ae (aA.map Ag),I i]=if(vE aA i).aP=10 then some (0,[.vC Ae (aA.map Ag),I (i+1:Nat)])else some (1,[I i]):=by
   rw[Zdm];have L:(0:Int)<=(i:Int)/\(i:Int)<(aA.length:Int):=by omega
   simp only[go_sem,aj,ag,U,ac L];rw[ac,Ad];rfl
  unfold EQ;by_cases M:(vE aA i).aP=10
  ·rw[ac M]at G⊢;rw[Bw G];exact Q35 N k (i+1) (by omega)
  simp_all [Bc]
def Qb0 {aA:List Itm} (D:aA.length<=1000000) {i:Nat} (G:i<aA.length):Hv [.vC Ae (aA.map Ag),I i]=some [I (DN aA i)]:=by
 show Qc7 (Ak Rt) _=_;have h:=Q35 D (aA.length-(i+1)) (i+1) (by omega);rw[Zx4,Ad,show(i:Int)+1=((i+1:Nat):Int) by omega,h];rfl
theorem Q45 {aA:List Itm}:BP aA i=if smI (vE aA i)/\(vE aA i).bJ≠0/\DN aA i<aA.length/\smI (vE aA (DN aA i))then(DN aA i:Int)else-1:=by
 unfold BP;by_cases h:smI (vE aA i)/\(vE aA i).bJ≠0
 ·rw[ac h,Q1v];have D:=Qh4 (aA.drop (i+1)) (i+1);have e:(aA.drop (i+1)).getD (EQ (aA.drop (i+1)) (i+1)-(i+1)) it0=vE aA (DN aA i):=by
   unfold vE;rw[jx,fg,jx];have:i+1+(EQ (aA.drop (i+1)) (i+1)-(i+1))=DN aA i:=by unfold DN;omega
   rw[this]
  have e2:EQ (aA.drop (i+1)) (i+1)=DN aA i:=rfl
  grind
 grind
def Z2z {aA:List Itm} (hS:∀it,M (Ag it)=some [B (decide (smI it))]) {i:Nat} (U:i<aA.length) (V:Z [.vC Ae (aA.map Ag),I i]=some [I (DN aA i)]):
  Y6 M Z [.vC Ae (aA.map Ag),I i]=some [B (decide (0<=BP aA i))]:=by
 have X:=Fq U;have Y:=hS (vE aA i);rw[Z6o,Q45];have D:(0:Int)<=(i:Int)/\(i:Int)<(aA.length:Int):=by omega
 simp only[go_sem,aj,ag,X,Y,V,ac D];by_cases h1:smI (vE aA i)
 case neg=>simp_all
 rw[ac h1];by_cases h2:(vE aA i).bJ=0
 ·simp_all
 rw[ac h2];by_cases N:DN aA i<aA.length
 ·have G:=Fq N;have L:=hS (vE aA (DN aA i));have O:(0:Int)<=(DN aA i:Int)/\(DN aA i:Int)<(aA.length:Int):=by omega
  simp only[go_sem,G,L];by_cases h4:smI (vE aA (DN aA i))
  ·grind
  simp_all
 rw[ab,ab (λg=>N g.2.2.1)];simp
def Qk0 {aA:List Itm} (G:aA.length<=1000000) {i:Nat} (D:i<aA.length):Ji [.vC Ae (aA.map Ag),I i]=some [B (decide (0<=BP aA i))]:=
 Z2z WM D (Qb0 G D)
def Qc6 {aA:List Itm} (h:0<=BP aA i):BP aA i=DN aA i:=by
 rw[Q45]at h⊢;omega
def Zv2 {a c b:Pt} (G:bd B24 a) (I:bd B24 c) (hb:bd B24 b):(Ea a c b u).length%2=1:=by
 unfold Ea;by_cases h:Cp a c b u=0
 ·grind
 rw[ab h];generalize Cp a c b u=d at*;have D:=RW (AE c a d) c (AE c b d);generalize JQ (AE c a d) c (AE c b d)=n at*;rw[aj,List.length_range];rcases D with rfl|rfl|rfl|rfl|rfl|rfl<;>rfl
def Z0j {a b:Itm} {l:List Pt} (U:0<=a.bJ/\a.bJ<=1000) (Y:1<=l.length/\l.length<=65) (D:l.length%2=1)
  (G:V (Ag a)=some (ptR (AQ a))) (L:V (Ag b)=some (ptR (AQ b))) (X:Z [I a.to.x,I a.to.y,I a.to.z]=some (ptR (Am a.to)))
  (N:M (ptR (AQ a)++ptR (Am a.to)++ptR (AQ b)++[I (a.bJ*16)])=some [.vC kPt (l.map ptR)]):
  Qe2 M Z V (Ag a++Ag b)=some [.vC kPt ((l.take (l.length/2+1)).map ptR), .vC kPt ((l.drop (l.length/2)).map ptR)]:=by
 simp only[da,cq]at G L⊢;rw[Ydy];simp at N;simp only[G,L,X];rw[Ad];simp only[N,go_sem,aj];have e:O ((O ((l.length:Int)-1)).tdiv 2)=((l.length/2:Nat):Int):=by
  rw[Ad (x:=(l.length:Int)-1),dg (by omega),Ad];omega
 have e2:O (((l.length/2:Nat):Int)+1)=((l.length/2+1:Nat):Int):=by rw[Ad];omega
 simp only[e,e2,ag];rw[ac,ac,List.map_take,List.map_drop]
def Zup {a b:Itm} (D:drawn a) (G:drawn b):
  WP (Ag a++Ag b)=some [.vC kPt (((Ea (AQ a) (Am a.to) (AQ b) (a.bJ*16)).take ((Ea (AQ a) (Am a.to) (AQ b) (a.bJ*16)).length/2+1)).map ptR), .vC kPt (((Ea (AQ a) (Am a.to) (AQ b) (a.bJ*16)).drop ((Ea (AQ a) (Am a.to) (AQ b) (a.bJ*16)).length/2)).map ptR)]:=
 have I:=KN D.1.2.1 D.1.2.2.1;have L:=C7 D.1.2.2.1;have M:=KN G.1.2.1 G.1.2.2.1
 Z0j D.2 (Q01 I L M).2 (Zv2 I L M) (Vv D.1.2.1 D.1.2.2.1) (Vv G.1.2.1 G.1.2.2.1) (Ydv (AH D.1.2.2.1 (by decide))) (Zz6 I L M (by have:=D.2;omega))
def Z4n {aA:List Itm} (hi:i<aA.length) (hd:drawn (vE aA i)) (hf:Lq aA i a) (X:∀k<aA.length,Aw (vE aA k)->drawn (vE aA k))
  (hK:G (Ag (vE aA i))=some [.vC kPt ((BE (vE aA i)).map ptR),B true]) (hM:H (Ag (vE aA i))=some [B (decide (smI (vE aA i)))])
  (hJ:∀{i k:Nat},i<aA.length->k<aA.length->drawn (vE aA i)->drawn (vE aA k)->P (Ag (vE aA i)++Ag (vE aA k))=some [.vC kPt (((Fm aA i k).take ((Fm aA i k).length/2+1)).map ptR), .vC kPt (((Fm aA i k).drop ((Fm aA i k).length/2)).map ptR)])
  (hS:V [.vC Ae (aA.map Ag),I i]=some [B (decide (0<=BP aA i))]) (hN:Z [.vC Ae (aA.map Ag),I i]=some [I (DN aA i)]) (hC:M (Ag (vE aA i))=some (ptR (AQ (vE aA i)))):
  YB M Z V P H G [.vC Ae (aA.map Ag),I i,I a]=some [.vC kPt ((BL aA i a).map ptR)]:=by
 have r1:=Fq hi;obtain⟨a8,a9⟩:=Qw3 (vE aA i);rw[Zu0];simp only[Ag,da,cq]at hK hM hC hJ;have a5:(0:Int)<=(i:Int)/\(i:Int)<(aA.length:Int):=by omega
 simp only[go_sem,aj,ag,r1,hK,hM,hC,hS,hN,cq,ac a5];unfold BL;by_cases hs:smI (vE aA i)
 case neg=>grind
 rw[ab (by grind),ac hs];have a6:(vE aA i).aP≠3:=by have:=hs.1;omega
 have Y:(BE (vE aA i)).length=2:=by unfold BE;rw[ab a6];rfl
 have w1:O (((BE (vE aA i)).length:Int)-1)=1:=by rw[Y];rfl
 rw[w1,Y,ac,ac];unfold GJ;rcases hf with rfl|⟨f,rfl,a2,a3⟩
 ·rw[ab (show¬(-1:Int)>=0 by omega)];unfold Hq;rw[ab (show¬(0:Int)<= -1 by omega)];by_cases D:0<=BP aA i
  ·obtain⟨k,hk,L,N⟩:=Tx X D;have a0:=Qc6 D;rw[hk]at a0;have a1:DN aA i=k:=by omega
   obtain⟨j1,j2,j3⟩:=JL (aA:=aA) (i:=i) (k:=k) hd N;have hj:=hJ hi L hd N;have r2:=Fq L;have U:(0:Int)<=(k:Int)/\(k:Int)<(aA.length:Int):=by omega
   rw[ac D,ac D,hk,a1,ag,ac U];simp only[go_sem,ag,r2,hj];rw[ac (by grind),ac (by grind),ac (by simp;omega)];simp
  simp_all [ab]
 have a7:=hJ a2 hi a3 hd;obtain⟨f1,f2,f3⟩:=JL (aA:=aA) (i:=f) (k:=i) a3 hd;have rf:=Fq a2;have a4:(0:Int)<=(f:Int)/\(f:Int)<(aA.length:Int):=by omega
 rw[ac (show(f:Int)>=0 by omega),ac a4];unfold Hq;rw[ac (show(0:Int)<=(f:Int) by omega),ag];simp only[rf,go_sem,a7,ag];by_cases D:0<=BP aA i
 ·obtain⟨k,hk,L,N⟩:=Tx X D;have a0:=Qc6 D;rw[hk]at a0;have a1:DN aA i=k:=by omega
  obtain⟨j1,j2,j3⟩:=JL (aA:=aA) (i:=i) (k:=k) hd N;have hj:=hJ hi L hd N;have r2:=Fq L;have U:(0:Int)<=(k:Int)/\(k:Int)<(aA.length:Int):=by omega
  rw[ac D,ac D,hk,a1,ag,ac U];simp only[go_sem,ag,r2,hj];rw[ac (by simp;omega),ac (by simp;omega),ac (by simp;omega)];simp
 rw[ab D,ab D,ac (by grind),ac (by simp;omega),ac (by simp;omega)];simp
def Z5r {aA:List Itm} (L:aA.length<=1000000) {i:Nat} {frm:Int} (G:i<aA.length) (hd:drawn (vE aA i)) (hf:Lq aA i frm) (D:∀k<aA.length,Aw (vE aA k)->drawn (vE aA k)):
  Rd [.vC Ae (aA.map Ag),I i,I frm]=some [.vC kPt ((BL aA i frm).map ptR)]:=
 Z4n G hd hf D (Yc5 hd.1) (WM _) (λO U M N=>Zup M N) (Qk0 L G) (Qb0 L G) (Vv hd.1.2.1 hd.1.2.2.1)
def Qz7 {L MS:Fn} {l:List Itm} (O:∀k:Int,L [I k]=some [B (decide (1<=k/\k<=6))]) (hS:∀it,MS (Ag it)=some [B (decide (syI it))]) (V:l.length<=1000000):∀(k i:Nat),i+k=l.length->
  (Ak (Mm L MS) [.vC Ae (l.map Ag),I l.length,I i]=some (1,[B (decide (Gu (l.drop i)=1))]))\/(Ak (Mm L MS) [.vC Ae (l.map Ag),I l.length,I i]=some (2,[])/\Gu (l.drop i)=2)
 |0,i,X=>by
  right;refine⟨Bc ?_ (by simp),by rw[fc (by omega)];rfl⟩;simp_all [Qwi]
 |k+1,i,X=>by
  have D:i<l.length:=by omega
  have Y:=Fq D;rw[Xa D];have U:=hS (vE l i);have hm:=O (vE l i).aP;have G:Mm L MS [.vC Ae (l.map Ag),I l.length,I i]=if Aw (vE l i)then some (1,[B (decide (syI (vE l i)))])else some (0,[.vC Ae (l.map Ag),I l.length,I (i+1:Nat)]):=by
   rw[Qwi];simp only[Ag]at U;have M:(0:Int)<=(i:Int)/\(i:Int)<(l.length:Int):=by omega
   simp only[go_sem,aj,ag,Y,U,hm,ac M];rw[ac,Ad];by_cases h1:Aw (vE l i)
   ·rfl
   rfl
  unfold Gu;by_cases N:Aw (vE l i)
  ·simp_all [Bc,vE]
  rw[ab N]at G⊢;rw[Bw G];exact Qz7 O hS V k (i+1) (by omega)
def KI (aA:List Itm) (i:Nat):Prop:=(vE aA i).bJ=0\/syI (vE aA i)\/Gu (aA.drop (i+1))=1
def Z8f {aA:List Itm} (Y:∀k:Int,M [I k]=some [B (decide (1<=k/\k<=6))]) (hS:∀it,Z (Ag it)=some [B (decide (syI it))]) (hl:aA.length<=1000000) {i:Nat} (hi:i<aA.length):
  Qjc M Z (Ak (Mm M Z)) [.vC Ae (aA.map Ag),I i]=some [B (decide (KI aA i))]:=by
 have hr:=Fq hi;have X:=hS (vE aA i);have D:=Qz7 Y hS (l:=aA.drop (i+1)) (by grind) (aA.drop (i+1)).length 0 (by omega);rw[iy]at D;rw[Z43];simp only[Ag]at X;have hw:O ((i:Int)+1)=((i+1:Nat):Int):=by rw[Ad];omega
 have L:(0:Int)<=(i:Int)/\(i:Int)<(aA.length:Int):=by omega
 have G:(0:Int)<=((i+1:Nat):Int)/\((i+1:Nat):Int)<=(aA.length:Int):=by omega
 have U:(List.drop (i+1) (aA.map Ag)).length=(aA.drop (i+1)).length:=by rw[fo,fo,aj]
 generalize Ak (Mm M Z)=N at*;simp only[go_sem,aj,ag,hr,X,hw,ac L,ac G,U];rw[<-List.map_drop];by_cases h2:(vE aA i).bJ=0
 ·simp_all [KI]
 rw[ab h2];by_cases h3:syI (vE aA i)
 ·simp_all [KI]
 rw[ab h3];rcases D with D|⟨D,hn⟩
 ·have V:N [.vC Ae ((aA.drop (i+1)).map Ag),I (aA.drop (i+1)).length,I 0]=some (1,[B (decide (Gu (aA.drop (i+1))=1))]):=D;simp only[V,go_sem]
  grind [KI]
 simp_all [KI]
def Ydt {aA:List Itm} (D:aA.length<=1000000) {i:Nat} (G:i<aA.length):XE [.vC Ae (aA.map Ag),I i]=some [B (decide (KI aA i))]:=Z8f SV Qr6 D G
def Ku (aA:List Itm) (i:Nat):Int:=if Aw (vE aA i)then Of aA i else Ni (vE aA i)
def Yez {aA:List Itm} {aD:List Mrk} {b:Bool} (U:i<aA.length) (V:aD.length<=1000000)
  (X:Z [I (vE aA i).aP]=some [B (decide (Aw (vE aA i)))]) (Y:M [.vC Ae (aA.map Ag),I i]=some [B (decide (KI aA i))]):
  Qfn M Z [.vC Ai T, .vC AN (aD.map Aq), .vC Ae (aA.map Ag),I i,I d.x,I d.y,I d.z,B b,I a,I u,I v]=
   some [.vC Ai T, .vC AN ((aD++[(⟨a,Ku aA i,i⟩:Mrk)]).map Aq),I d.x,I d.y,I d.z,B b,I a,I u,I v]:=by
 have hr:=Fq U;have L:(0:Int)<=(i:Int)/\(i:Int)<(aA.length:Int):=by omega
 have hb:(aD.length+1)*24<=140737488355328:=by omega
 have e:∀k:Int,aD.map Aq++[[I a,I k,I i]]=(aD++[(⟨a,k,i⟩:Mrk)]).map Aq:=λk=>by simp
 rw[Yd3];simp only[go_sem,aj,ag,hr,ac L,X,Y,cg,gh,ff,ac hb];have fin:∀{k:Int},k=Ku aA i->some [AC.vC Ai T, .vC AN (aD.map Aq++[[I a,I k,I i]]),I d.x,I d.y,I d.z,B b,I a,I u,I v]=some [.vC Ai T, .vC AN ((aD++[(⟨a,Ku aA i,i⟩:Mrk)]).map Aq),I d.x,I d.y,I d.z,B b,I a,I u,I v]:=by
  intro k hk;rw[e,hk]
 unfold Ku Of Ni at fin⊢;by_cases N:(vE aA i).aP=4
 ·simp_all [Aw]
 rw[ab N];by_cases G:Aw (vE aA i)
 ·rw[ac G];by_cases D:KI aA i
  ·rw[ac D];refine fin ?_;rw[ac G,ab N];rcases D with h|h|h
   ·omega
   ·grind
   omega
  rw[ab D,ac G];refine fin ?_;rw[ac G,ab N,ab (λh=>D (.inl h)),ab (λh=>D (.inr (.inl h)))];have O:∀l:List Itm,Gu l=1\/Gu l=2:=by
   intro l;induction l with
   |nil=>right;rfl
   |cons it l ih=>
    unfold Gu;omega
  rcases O (aA.drop (i+1))with h|h
  ·exact absurd (.inr (.inr h)) D
  omega
 grind
def Zz9 {aA:List Itm} (N:aA.length<=1000000) {i:Nat} {aF:Rw} {aD:List Mrk} {D:Pt} {b:Bool} {len sp G:Int} (M:i<aA.length) (L:aD.length<=1000000):
  K5 [.vC Ai aF, .vC AN (aD.map Aq), .vC Ae (aA.map Ag),I i,I D.x,I D.y,I D.z,B b,I len,I sp,I G]=
   some [.vC Ai aF, .vC AN ((aD++[(⟨len,Ku aA i,i⟩:Mrk)]).map Aq),I D.x,I D.y,I D.z,B b,I len,I sp,I G]:=
 Yez M L (SV _) (Ydt N M)
def Zxp (a:Pt) (aF:List Sgm):aF=[]\/∃l g,aF=l++[g]/\Eb a aF=g.to/\((aF.length:Int)>0)/\nth [] (aF.map At) (aF.length-1)=At g:=by
 rcases List.eq_nil_or_concat aF with h|⟨l,g,h⟩
 ·grind
 right;rw[List.concat_eq_append]at h;refine⟨l,g,h,?_,?_,?_⟩
 ·grind [Pa]
 ·grind
 have D:aF.length-1<aF.length:=by rw[h];simp
 grind [IS]
def Zy9:
  Va M [.vC Ai [], .vC AN l,I q.x,I q.y,I q.z,I d.x,I d.y,I d.z,I a,I u,I b,I k,I h.x,I h.y,I h.z,B false,I v,I y,I e]=
   some [.vC Ai [], .vC AN l,I q.x,I q.y,I q.z,B true,I v,I y,I e]:=by grind [Zgw]
def Zss {aF:List Sgm} {q g D at_:Pt} (G:Eb D aF=at_)
  (U:M [I at_.x,I at_.y,I at_.z,I q.x,I q.y,I q.z]=some [I (AB at_ q)]) (hl:0<=AB at_ q/\AB at_ q<=268435456) (hs:aF.length+1<=1048577) (hlen:0<=v/\v<=4000000000000000000):
  Va M [.vC Ai (aF.map At), .vC AN T,I q.x,I q.y,I q.z,I g.x,I g.y,I g.z,I a,I u,I b,I k,I D.x,I D.y,I D.z,B true,I v,I y,I e]=
   some [.vC Ai ((Bd u b k (aF,v,at_) q).1.map At), .vC AN T,I D.x,I D.y,I D.z,B true,I (Bd u b k (aF,v,at_) q).2.1,I y,I e]:=by
 have L:(aF.map At++[[I q.x,I q.y,I q.z,I (AB at_ q),I u,I b,I k]])=(aF++[(⟨q,AB at_ q,u,b,k⟩:Sgm)]).map At:=by rw[d8];rfl
 rw[Zgw];try dsimp only[go_sem]
 rcases Zxp D aF with h|⟨l,s,Y,X,h3,h4⟩
 ·subst h;have N:D=at_:=G;subst N;simp only[fx];rw[BX (by decide),Bool.not_true,bn];by_cases c:q=D
  ·simp_all [Bd]
  rw[CE,U]
  ·simp only[aq,Iu,Id,gA,jA,wA,bA,cq,gh];rw[GE (by decide),show Bd u b k ([],v,D) q=([⟨q,AB D q,u,b,k⟩],v+AB D q,q)from ab c,Ad];rfl
  simp_all [If]
 rw[G]at X;have w1:O ((aF.length:Int)-1)=((aF.length-1:Nat):Int):=by rw[Ad];omega
 have V:(0:Int)<=((aF.length-1:Nat):Int)/\((aF.length-1:Nat):Int)<(aF.length:Int):=by omega
 rw[X]at U L⊢;clear Y;simp only[go_sem,aj,w1,ag,h4,ac h3,ac V,U,cg,gh,ff];rw[ab (by simp)];by_cases c:q=s.to
 ·simp_all [Bd]
 rw[ab (λg=>c (If.2 ⟨g.1,g.2.1,g.2.2.1⟩)),ac,show Bd u b k (aF,v,s.to) q=(aF++[⟨q,AB s.to q,u,b,k⟩],v+AB s.to q,q)from ab c,Ad (by grind),L]
noncomputable def FV (it:Itm) (aU aZ aX:Int) (s:(List Sgm×Int×Pt)×Int) (q:Pt):(List Sgm×Int×Pt)×Int:=
 (Bd aU aZ aX s.1 q,if smI it/\q=AQ it then(Bd aU aZ aX s.1 q).2.1 else s.2)
theorem Qii {it:Itm} {aU aZ aX:Int}:∀(D:List Pt) (s:(List Sgm×Int×Pt)×Int),(D.foldl (FV it aU aZ aX) s).1=D.foldl (Bd aU aZ aX) s.1
 |[],_=>rfl
 |q::D,s=>by rw[iq,iq,Qii D];rfl
def Qln {Y V MA MP MG MR:Fn} {it:Itm} {D:List Pt} (hj:j<D.length) (a0:D.length<=1000000) {aF L:Rw} {aD:Rw} {g U G:Pt} {b b':Bool} {X aU aZ aX len M sp N:Int}
  (hM:V (Ag it)=some [B (decide (smI it))]) (hC:Y (Ag it)=some (ptR (AQ it)))
  (hA:MA [.vC Ai aF, .vC AN aD,I D[j].x,I D[j].y,I D[j].z,I g.x,I g.y,I g.z,I X,I aU,I aZ,I aX,I U.x,I U.y,I U.z,B b,I len,I sp,I N]=some [.vC Ai L, .vC AN aD,I G.x,I G.y,I G.z,B b',I M,I sp,I N]):
  NZ Y V MA MP MG MR (.vC Ai aF:: .vC AN aD:: .vC kPt (D.map ptR)::I D.length::I j::(Ag it++[I g.x,I g.y,I g.z,I X,I aU,I aZ,I aX,I U.x,I U.y,I U.z,B b,I len,I sp,I N]))=
   some (0, .vC Ai L:: .vC AN aD:: .vC kPt (D.map ptR)::I D.length::I (j+1:Nat)::(Ag it++[I g.x,I g.y,I g.z,I X,I aU,I aZ,I aX,I G.x,I G.y,I G.z,B b',I M,I sp,I (if smI it/\D[j]=AQ it then M else N)])):=by
 have hr:nth [] (D.map ptR) j=ptR D[j]:=IS _ _ _ _ hj;have a1:(0:Int)<=(j:Int)/\(j:Int)<(D.length:Int):=by omega
 have hw:O ((j:Int)+1)=((j+1:Nat):Int):=by rw[Ad];omega
 generalize D[j]=q at*;simp;rw[Zm7];simp only[go_sem,ag,hr,hA,hM,hC];by_cases c:smI it
 ·rw[ac c];by_cases c2:q=AQ it
  ·grind
  simp_all [ab,If]
 grind
def Qdq {MM U MA MP MG MR:Fn} {it:Itm} {D:List Pt} (V:D.length<=1000000) {aD:Rw} {g G:Pt} {gl aU aZ aX sp:Int} (X:bd 67108864 G) (L:∀p∈D,bd 67108864 p)
  (hM:U (Ag it)=some [B (decide (smI it))]) (hC:MM (Ag it)=some (ptR (AQ it)))
  (hA : ∀ {aF : List Sgm} {q at_ : Pt} {len mid : Int}, Eb G aF = at_ -> bd 67108864 at_ -> bd 67108864 q -> aF.length + 1 <= 1048577 -> (0 <= len /\ len <= 4000000000000000000) ->
   MA [.vC Ai (aF.map At), .vC AN aD,I q.x,I q.y,I q.z,I g.x,I g.y,I g.z,I gl,I aU,I aZ,I aX,I G.x,I G.y,I G.z,B true,I len,I sp,I mid]=
   some [.vC Ai ((Bd aU aZ aX (aF,len,at_) q).1.map At), .vC AN aD,I G.x,I G.y,I G.z,B true,I (Bd aU aZ aX (aF,len,at_) q).2.1,I sp,I mid]):
  ∀(k j:Nat) (s:List Sgm×Int×Pt) (mid:Int),j+k=D.length->s.1.length+k<=1048576->0<=s.2.1->s.2.1+k*268435456<=4000000000000000000->bd 67108864 s.2.2->Eb G s.1=s.2.2->
  Ak (NZ MM U MA MP MG MR) (.vC Ai (s.1.map At):: .vC AN aD:: .vC kPt (D.map ptR)::I D.length::I j::(Ag it++[I g.x,I g.y,I g.z,I gl,I aU,I aZ,I aX,I G.x,I G.y,I G.z,B true,I s.2.1,I sp,I mid]))=
   some (1,[.vC Ai (((D.drop j).foldl (FV it aU aZ aX) (s,mid)).1.1.map At), .vC AN aD,I G.x,I G.y,I G.z,B true,I ((D.drop j).foldl (FV it aU aZ aX) (s,mid)).1.2.1,I sp,I ((D.drop j).foldl (FV it aU aZ aX) (s,mid)).2])
 |0,j,s,mid,hj,_,_,_,_,_=>by simp_all [Bc,Zm7]
 |k+1,j,s,mid,hj,hs,Y,a0,M,he=>by
  have N:j<D.length:=by omega
  have hq:=L _ (dl N);obtain⟨aF,len,at_⟩:=s;simp only at hs Y a0 M he;have ha:=hA (mid:=mid) he M hq (by omega) (by constructor<;>omega);have O:=Qln (MP:=MP) (MG:=MG) (MR:=MR) N V hM hC ha;have hinv:Eb G (Bd aU aZ aX (aF,len,at_) D[j]).1=(Bd aU aZ aX (aF,len,at_) D[j]).2.2/\bd 67108864 (Bd aU aZ aX (aF,len,at_) D[j]).2.2/\
    (Bd aU aZ aX (aF,len,at_) D[j]).1.length<=aF.length+1/\0<=(Bd aU aZ aX (aF,len,at_) D[j]).2.1/\(Bd aU aZ aX (aF,len,at_) D[j]).2.1<=len+268435456:=by
   have hl:=Ib M hq;unfold Bd;split
   ·grind
   refine⟨Pa _ _ _,hq,by simp,?_,?_⟩<;>simp only<;>omega
  rw[Bw O];obtain⟨i1,i2,i3,i4,i5⟩:=hinv;have:=Qdq (MP:=MP) (MG:=MG) (MR:=MR) V X L hM hC hA k (j+1) (Bd aU aZ aX (aF,len,at_) D[j]) (if smI it/\D[j]=AQ it then(Bd aU aZ aX (aF,len,at_) D[j]).2.1 else mid) (by omega) (by omega) i4 (by omega) i2 i1;rw[this,NX D j N,iq];rfl
def Zvb {it:Itm} (h:Cb it):∃l,BE it=Am it.fr::l:=by
 unfold BE;by_cases D:it.aP=3
 ·rw[ac D];unfold Dh;refine⟨(A0 it.dir 16 it.bI (Av it it.fr) (Av it it.to)).map (Bo it),?_⟩;congr 1;obtain⟨G,I,L⟩:=FK it.aG it.ce;unfold Bo Av;unfold dU dW
  grind [spP,plU,plW,plH,Am]
 simp_all
def Ycd {aA:List Itm} (h:Cb (vE aA i)):∃l,BL aA i (-1)=Am (vE aA i).fr::l:=by
 obtain⟨l,D⟩:=Zvb h;unfold BL;split
 ·simp_all [Hq]
 grind
noncomputable def FQ (aA:List Itm) (i:Nat) (s:BSt) (D:Int):(List Sgm×Int×Pt)×Int:=
 (BL aA i s.frm).foldl (FV (vE aA i) i (Ge (vE aA i) s.aS) (Kb (vE aA i))) ((s.aF,s.len,if s.bK=true then s.at_ else Am (vE aA i).fr),D)
theorem Zku (aA:List Itm) (i:Nat) (s:BSt) (D:Int):(FQ aA i s D).1=Eo aA i s:=by grind [FQ,Eo,Qii]
def Yds {aA:List Itm} {s:BSt} {mid:Int} (hi:i<aA.length) (hlen:aA.length<=15) (hv:Cb (vE aA i)) (O:BOK aA i s) (hinv:BInv s)
  (D:(∀p∈BL aA i s.frm,bd 67108864 p)/\(BL aA i s.frm).length<=65537)
  (X:syI (vE aA i)->0<=(vE aA i).aZ/\(vE aA i).aZ<=60000000) (a3:s.bK=false->s.frm= -1)
  (hM:Z (Ag (vE aA i))=some [B (decide (smI (vE aA i)))]) (hC:M (Ag (vE aA i))=some (ptR (AQ (vE aA i))))
  (hG:H (Ag (vE aA i))=some [B (decide (syI (vE aA i)))]) (hR:G (Ag (vE aA i)++[I s.aS])=some [I (Ge (vE aA i) s.aS)])
  (hP:P [.vC Ae (aA.map Ag),I i,I s.frm]=some [.vC kPt ((BL aA i s.frm).map ptR)])
  (hA : ∀ {aF : List Sgm} {q g st at_ : Pt} {gl aU aZ aX len mid : Int}, Eb st aF = at_ -> bd 67108864 at_ -> bd 67108864 q -> aF.length + 1 <= 1048577 -> (0 <= len /\ len <= 4000000000000000000) ->
   V [.vC Ai (aF.map At), .vC AN T,I q.x,I q.y,I q.z,I g.x,I g.y,I g.z,I gl,I aU,I aZ,I aX,I st.x,I st.y,I st.z,B true,I len,I s.aS,I mid]=
   some [.vC Ai ((Bd aU aZ aX (aF,len,at_) q).1.map At), .vC AN T,I st.x,I st.y,I st.z,B true,I (Bd aU aZ aX (aF,len,at_) q).2.1,I s.aS,I mid])
  (a5 : ∀ {q g st : Pt} {gl aU aZ aX len mid : Int}, V [.vC Ai [], .vC AN T, I q.x, I q.y, I q.z, I g.x, I g.y, I g.z, I gl, I aU, I aZ, I aX, I st.x, I st.y, I st.z, B false, I len, I s.aS, I mid] =
   some [.vC Ai [], .vC AN T,I q.x,I q.y,I q.z,B true,I len,I s.aS,I mid]):
  Qgx M Z V P H G (Ak (NZ M Z V P H G)) [.vC Ai (s.aF.map At), .vC AN T, .vC Ae (aA.map Ag),I i,I s.frm,I s.aQ.x,I s.aQ.y,I s.aQ.z,B s.bK,I s.len,I s.aS,I mid]=
   some [.vC Ai ((FQ aA i s mid).1.1.map At), .vC AN T,B true,I (if s.bK=true then s.aQ else Am (vE aA i).fr).x,I (if s.bK=true then s.aQ else Am (vE aA i).fr).y,I (if s.bK=true then s.aQ else Am (vE aA i).fr).z,B true,I (FQ aA i s mid).1.2.1,I s.aS,I (FQ aA i s mid).2]:=by
 have hr:=Fq hi;have a6:(0:Int)<=(i:Int)/\(i:Int)<(aA.length:Int):=by omega
 have a9:=O.aF;have Y:=O.len
 have a0:∀aX aZ:Int,Ak (NZ M Z V P H G) (.vC Ai (s.aF.map At):: .vC AN T:: .vC kPt ((BL aA i s.frm).map ptR)::I (BL aA i s.frm).length::I (0:Nat)::(Ag (vE aA i)++[I (⟨0,0,0⟩:Pt).x,I (⟨0,0,0⟩:Pt).y,I (⟨0,0,0⟩:Pt).z,I 0,I i,I aZ,I aX,I s.aQ.x,I s.aQ.y,I s.aQ.z,B s.bK,I s.len,I s.aS,I mid]))=
   some (1, [.vC Ai (((BL aA i s.frm).foldl (FV (vE aA i) i aZ aX) ((s.aF, s.len, if s.bK = true then s.at_ else Am (vE aA i).fr), mid)).1.1.map At), .vC AN T, I (if s.bK = true then s.aQ else Am (vE aA i).fr).x, I (if s.bK = true then s.aQ else Am (vE aA i).fr).y, I (if s.bK = true then s.aQ else Am (vE aA i).fr).z, B true,
    I ((BL aA i s.frm).foldl (FV (vE aA i) i aZ aX) ((s.aF,s.len,if s.bK=true then s.at_ else Am (vE aA i).fr),mid)).1.2.1,I s.aS,I ((BL aA i s.frm).foldl (FV (vE aA i) i aZ aX) ((s.aF,s.len,if s.bK=true then s.at_ else Am (vE aA i).fr),mid)).2]):=by
  intro aX aZ;by_cases hb:s.bK=true
  ·obtain⟨g1,g2⟩:=hinv.bK hb;obtain⟨g3,g4,g5⟩:=g2;rw[ac hb,ac hb,hb];have:=Qdq (MP:=P) (MG:=H) (MR:=G) (g:=⟨0,0,0⟩) (gl:=0) (aU:=i) (aZ:=aZ) (aX:=aX) (by omega) g1 D.1 hM hC (λh1 h2 h3 h4 h5=>hA h1 h2 h3 h4 h5) (BL aA i s.frm).length 0 (s.aF,s.len,s.at_) mid (by omega) (by grind) Y.1 (by grind) (O.at_ hb) g4;simp_all
  have a1:s.bK=false:=by simpa using hb
  obtain⟨e1,e2,e3⟩:=hinv.empty a1;obtain⟨l,hl⟩:=Ycd hv;have a4:bd 67108864 (Am (vE aA i).fr):=AH (C7 hv.2.1) (by decide);rw[ab hb,ab hb,a1,e1];rw[a3 a1,hl]at D⊢;have h0:0<(Am (vE aA i).fr::l).length:=by simp
  have a2:=Qln (MP:=P) (MG:=H) (MR:=G) h0 (by omega) hM hC (a5 (q:=Am (vE aA i).fr) (g:=⟨0,0,0⟩) (st:=s.aQ) (gl:=0) (aU:=i) (aZ:=aZ) (aX:=aX) (len:=s.len) (mid:=mid));rw[fx,Bw a2];have:=Qdq (MP:=P) (MG:=H) (MR:=G) (g:=⟨0,0,0⟩) (gl:=0) (aU:=i) (aZ:=aZ) (aX:=aX) (by omega) a4 D.1 hM hC (λh1 h2 h3 h4 h5=>hA h1 h2 h3 h4 h5) l.length 1 ([],s.len,Am (vE aA i).fr) (if smI (vE aA i)/\Am (vE aA i).fr=AQ (vE aA i)then s.len else mid) (by simp;omega) (by simp only[ff];simp at D;omega) Y.1 (by simp only;simp at D;omega) a4 rfl;simp_all [FV,Bd]
 have L:∀aX aZ:Int,((BL aA i s.frm).foldl (FV (vE aA i) i aZ aX) ((s.aF,s.len,if s.bK=true then s.at_ else Am (vE aA i).fr),mid)).1.1.length<=1048576:=by
  intro aX aZ;rw[Qii];have a7:bd 67108864 (if s.bK=true then s.at_ else Am (vE aA i).fr):=by
   split
   ·rename_i hb;exact O.at_ hb
   exact AH (C7 hv.2.1) (by decide)
  have:=(R_ (aU:=i) (aZ:=aZ) (aX:=aX) (BL aA i s.frm) (s.aF,s.len,if s.bK=true then s.at_ else Am (vE aA i).fr) D.1 a7 Y.1).1;simp only at this⊢;omega
 generalize Ak (NZ M Z V P H G)=N at*;have U:=λaX aZ=>a0 aX aZ;simp only[Ag,da,cq]at hG hR U;rw[Yer];simp only[go_sem,aj,ag,hr,ac a6,hG,hR,hP];have a8:((0:Nat):Int)=0:=rfl;simp only[a8]at U;unfold FQ Kb;by_cases hs:syI (vE aA i)
 ·have hf:=X hs;rw[ac hs];simp only[ac hs];rw[Ad];simp only[U,go_sem,aj];rw[av (show((_:Nat):Int)<=1048576 from by have:=L (mn ((vE aA i).aZ*16) 16777216) (Ge (vE aA i) s.aS);omega)]
 rw[ab hs];simp only[ab hs];simp only[U,go_sem,aj];rw[av (show((_:Nat):Int)<=1048576 from by have:=L 0 (Ge (vE aA i) s.aS);omega)]
def Qb8 {MK U V MS N O:Fn} {aA:List Itm} (X:∀k:Int,N [I k]=some [B (decide (1<=k/\k<=6))]) (Y:∀it,O (Ag it)=some [I (if Ci it then 1 else 0)]) (hl:aA.length<=1000000):
  ∀(k i:Nat) (last:Int),i+k=aA.length->(last= -1\/(0<=last/\last<i))->
  (Ak (RN MK U V MS N O) [.vC Ai [], .vC AN [], .vC Ae (aA.map Ag),I last, .vC Ae (aA.map Ag),I aA.length,I i,I 0,I 0,I 0,B false,I 0,I 0,I 0]=some (1,[.vC Ai [], .vC AN [],I (GZ aA k i last),I 0,I 0,I 0,B false,I 0,I 0,I 0])/\GZ aA k i last≠0)\/
  (Ak (RN MK U V MS N O) [.vC Ai [], .vC AN [], .vC Ae (aA.map Ag),I last, .vC Ae (aA.map Ag),I aA.length,I i,I 0,I 0,I 0,B false,I 0,I 0,I 0]=some (2,[.vC Ai [], .vC AN [], .vC Ae (aA.map Ag),I 0,I 0,I 0,B false,I 0,I 0,I 0])/\GZ aA k i last=0)
 |0,i,last,hi,_=>by
  right;refine⟨Bc ?_ (by simp),rfl⟩;simp_all [Q9l]
 |k+1,i,last,hi,a0=>by
  have a1:i<aA.length:=by omega
  have hr:=Fq a1;have hw:=Y (vE aA i);have hm:=X (vE aA i).aP;have a2:(0:Int)<=(i:Int)/\(i:Int)<(aA.length:Int):=by omega
  have D:RN MK U V MS N O [.vC Ai [], .vC AN [], .vC Ae (aA.map Ag),I last, .vC Ae (aA.map Ag),I aA.length,I i,I 0,I 0,I 0,B false,I 0,I 0,I 0]=
    if Ci (vE aA i)then some (1,[.vC Ai [], .vC AN [],I 1,I 0,I 0,I 0,B false,I 0,I 0,I 0])else if Aw (vE aA i)then(if 0<=last/\(vE aA last.toNat).to≠(vE aA i).fr then some (1,[.vC Ai [], .vC AN [],I 13,I 0,I 0,I 0,B false,I 0,I 0,I 0])else some (0,[.vC Ai [], .vC AN [], .vC Ae (aA.map Ag),I i, .vC Ae (aA.map Ag),I aA.length,I (i+1:Nat),I 0,I 0,I 0,B false,I 0,I 0,I 0]))
    else some (0,[.vC Ai [], .vC AN [], .vC Ae (aA.map Ag),I last, .vC Ae (aA.map Ag),I aA.length,I (i+1:Nat),I 0,I 0,I 0,B false,I 0,I 0,I 0]):=by
   rw[Q9l];simp only[Ag]at hw;simp only[go_sem,aj,ag,hr,hw,hm,ac a2];rw[ac,Ad];by_cases c1:Ci (vE aA i)
   ·grind
   simp only[ab c1];rw[ab (by simp)];by_cases G:Aw (vE aA i)
   ·rw[ab (λh=>h G),ac G];rcases a0 with rfl|⟨h1,h2⟩
    ·rfl
    obtain⟨L,rfl⟩:=bh h1;have hL:L<aA.length:=by omega
    have M:(0:Int)<=(L:Int)/\(L:Int)<(aA.length:Int):=by omega
    have a3:=Fq hL;simp only[ag,a3,go_sem,ac M];simp[If]
   rw[ac (show¬(1<=(vE aA i).aP/\(vE aA i).aP<=6)from G),ab G];rfl
  unfold GZ;by_cases c1:Ci (vE aA i)
  ·simp_all [Bc]
  rw[ab c1]at D⊢;by_cases G:Aw (vE aA i)
  ·rw[ac G]at D⊢;by_cases c3:0<=last/\(vE aA last.toNat).to≠(vE aA i).fr
   ·simp_all [Bc]
   rw[ab c3]at D⊢;rw[Bw D];exact Qb8 X Y hl k (i+1) i (by omega) (.inr (by omega))
  rw[ab G]at D⊢;rw[Bw D];exact Qb8 X Y hl k (i+1) last (by omega) (by omega)
noncomputable def HF (aA:List Itm):Nat->Int
 |0=> -1
 |i+1=>if Aw (vE aA i)then i else HF aA i
def Qqp (aA:List Itm):∀i,HF aA i= -1\/∃L:Nat,HF aA i=L/\L<i/\Aw (vE aA L)/\∀j,L<j->j<i-> ¬Aw (vE aA j)
 |0=> .inl rfl
 |i+1=>by
  unfold HF;by_cases c:Aw (vE aA i)
  ·grind
  rw[ab c];rcases Qqp aA i with h|⟨L,D,G,I,M⟩
  ·omega
  grind
def Qqg (aA:List Itm):∀i,(Ay aA i).frm=if 0<=HF aA i/\0<=BP aA (HF aA i).toNat then HF aA i else-1
 |0=>by rfl
 |i+1=>by
  rw[Ay,HF];unfold E3;by_cases c:Aw (vE aA i)
  ·grind
  rw[ab c,ab c];exact Qqg aA i
def Zw6 {aA:List Itm} (I:A<i) (V:i<aA.length) (L:Aw (vE aA i)) (D:∀j,A<j->j<i-> ¬Aw (vE aA j)) (M:0<=BP aA A):DN aA A=i:=by
 have X:=Qc6 M;rcases KQ aA A with h|⟨-,-,k,Y,N,k3,G,O⟩
 ·omega
 have U:DN aA A=k:=by omega
 rw[U];rcases Nat.lt_trichotomy k i with h|h|h
 ·exact absurd ⟨by have:=G.1;omega,by have:=G.1;omega⟩ (D k N h)
 ·exact h
 have:=O i I h;have:=L.2;omega
noncomputable def Da (aA:List Itm):Nat->Int
 |0=>0
 |i+1=>if Aw (vE aA i)then(FQ aA i (Ay aA i) (Da aA i)).2 else Da aA i
def Qnr (aA:List Itm):∀i,(Ay aA i).bK=false->(Ay aA i).frm= -1
 |0,_=>by rfl
 |i+1,h=>by
  rw[Ay]at h⊢;unfold E3 at h⊢;by_cases c:Aw (vE aA i)
  ·grind
  rw[ab c]at h⊢;exact Qnr aA i h
noncomputable abbrev pbR (aA:List Itm) (i:Nat):List AC:=
 [.vC Ai ((Ay aA i).aF.map At), .vC AN ((Ay aA i).aD.map Aq), .vC Ae (aA.map Ag),I (HF aA i), .vC Ae (aA.map Ag),I aA.length,I i,I (Ay aA i).aQ.x,I (Ay aA i).aQ.y,I (Ay aA i).aQ.z,B (Ay aA i).bK,I (Ay aA i).len,I (Ay aA i).aS,I (Da aA i)]
def Zo3 {aA:List Itm} (hi:i<aA.length) (hlen:aA.length<=15) (a5:(Ay aA i).aD.length=i)
  (hM:∀k:Int,H [I k]=some [B (decide (1<=k/\k<=6))]) (hS:∀L:Nat,L<aA.length->P [.vC Ae (aA.map Ag),I L]=some [B (decide (0<=BP aA L))]) (hN:∀L:Nat,L<aA.length->V [.vC Ae (aA.map Ag),I L]=some [I (DN aA L)])
  (hV : Aw (vE aA i) -> Z [.vC Ai ((Ay aA i).aF.map At), .vC AN ((Ay aA i).aD.map Aq), .vC Ae (aA.map Ag), I i, I (Ay aA i).frm, I (Ay aA i).aQ.x, I (Ay aA i).aQ.y, I (Ay aA i).aQ.z, B (Ay aA i).bK, I (Ay aA i).len, I (Ay aA i).aS, I (Da aA i)] =
   some [.vC Ai ((FQ aA i (Ay aA i) (Da aA i)).1.1.map At), .vC AN ((Ay aA i).aD.map Aq),B true,I (if(Ay aA i).bK=true then(Ay aA i).aQ else Am (vE aA i).fr).x,I (if(Ay aA i).bK=true then(Ay aA i).aQ else Am (vE aA i).fr).y,I (if(Ay aA i).bK=true then(Ay aA i).aQ else Am (vE aA i).fr).z,B true,
    I (FQ aA i (Ay aA i) (Da aA i)).1.2.1,I (Ay aA i).aS,I (FQ aA i (Ay aA i) (Da aA i)).2])
  (hK : ∀ {aF : Rw} {st : Pt} {b : Bool} {len sp X : Int}, M [.vC Ai aF, .vC AN ((Ay aA i).aD.map Aq), .vC Ae (aA.map Ag), I i, I st.x, I st.y, I st.z, B b, I len, I sp, I X] =
   some [.vC Ai aF, .vC AN (((Ay aA i).aD++[(⟨len,Ku aA i,i⟩:Mrk)]).map Aq),I st.x,I st.y,I st.z,B b,I len,I sp,I X]):
  Rn M Z V P H G N (pbR aA i)=some (0,pbR aA (i+1)):=by
 have hr:=Fq hi;have a2:(0:Int)<=(i:Int)/\(i:Int)<(aA.length:Int):=by omega
 have hw:O ((i:Int)+1)=((i+1:Nat):Int):=by rw[Ad];omega
 have hf:=Qqg aA i;have a0:=Qqp aA i;have a3:=Zku aA i (Ay aA i) (Da aA i);have e1:HF aA (i+1)=if Aw (vE aA i)then(i:Int)else HF aA i:=rfl;have e2:Da aA (i+1)=if Aw (vE aA i)then(FQ aA i (Ay aA i) (Da aA i)).2 else Da aA i:=rfl;have e3:Ay aA (i+1)=E3 aA i (Ay aA i):=rfl;unfold pbR;rw[e1,e2,e3];generalize Ay aA i=s at*;generalize HF aA i=last at*;generalize a6:Da aA i=X at*;unfold E3;rw[Zfw];by_cases U:Aw (vE aA i)
 ·have h8: ¬(vE aA i).aP=8:=λh=>by have:=U.2;omega
  have hV:=hV U;have D:Ku aA i=Of aA i:=ac U;rw[ac U,ac U,ac U];rw[a3]at hV;have a1:H [I (vE aA i).aP]=some [B true]:=by rw[hM,av (show 1<=(vE aA i).aP/\(vE aA i).aP<=6 from U)]
  simp only[go_sem,aj,ag,hr,ac a2,a1];rw[ac,ab h8];have Y:∀{x:Option (Nat×List AC)} {frm:Int},s.frm=frm->(Z [.vC Ai (s.aF.map At), .vC AN (s.aD.map Aq), .vC Ae (aA.map Ag),I i,I frm,I s.aQ.x,I s.aQ.y,I s.aQ.z,B s.bK,I s.len,I s.aS,I X])=
    some [.vC Ai ((Eo aA i s).1.map At), .vC AN (s.aD.map Aq),B true,I (if s.bK=true then s.aQ else Am (vE aA i).fr).x,I (if s.bK=true then s.aQ else Am (vE aA i).fr).y,I (if s.bK=true then s.aQ else Am (vE aA i).fr).z,B true,I (Eo aA i s).2.1,I s.aS,I (FQ aA i s X).2]:=by
   intro x frm h;rw[<-h];exact hV
  rcases a0 with a0|⟨L,h1,h2,h3,h4⟩
  ·rw[a0];rw[a0,ab]at hf;rw[ab (show¬(-1:Int)>=0 by omega)];have hv:=Y (x:=none) hf;simp only[hv,go_sem,hK,hw,D];simp
  rw[h1]at hf⊢;rw[ag]at hf;have hs:=hS L (by omega);have hn:=hN L (by omega);rw[ac (show(L:Int)>=0 by omega)];by_cases c:0<=BP aA L
  ·have a4:=Zw6 h2 hi U h4 c;rw[ac ⟨by omega,c⟩]at hf;rw[a4]at hn;rw[av c]at hs;have hv:=Y (x:=none) hf;simp only[hs,hn,go_sem];simp only[hv,go_sem,hK,hw,D];simp
  rw[ab (λh=>c h.2)]at hf;rw[ba c]at hs;have hv:=Y (x:=none) hf;simp only[hs,go_sem];simp only[hv,go_sem,hK,hw,D];simp
 have D:Ku aA i=Ni (vE aA i):=ab U;rw[ab U,ab U,ab U];have a1:H [I (vE aA i).aP]=some [B false]:=by rw[hM,ba (show¬(1<=(vE aA i).aP/\(vE aA i).aP<=6)from U)]
 unfold SI;simp only[go_sem,aj,ag,hr,ac a2,a1,hK,hw,D];rw[ac];by_cases h8:(vE aA i).aP=8
 ·by_cases h3:(vE aA i).n=3
  ·grind
  grind
 grind
def Zoy {it:Itm} (hf:it.aP=1\/1<=it.aZ/\it.aZ<=60000000) (D:0<=a/\a<=30000):L_ (Ag it++[I a])=some [I (Ge it a)]:=by
 by_cases G:it.aP=1
 ·unfold L_ Ge;generalize Cy=M;have h:=Qwu (AW:=M) it.aP it.block it.fr.x it.fr.y it.fr.z it.to.x it.to.y it.to.z it.aG it.ce.x it.ce.y it.ce.z it.dir it.bI it.aZ it.perRev it.side it.radius it.bJ it.n it.aS it.on a;simp_all
 grind [Zpu]
def Z95 {aF:List Sgm} {q g D at_:Pt} (G:Eb D aF=at_) (L:bd 67108864 at_) (M:bd 67108864 q) (N:aF.length+1<=1048577) (hlen:0<=v/\v<=4000000000000000000):
  Tw [.vC Ai (aF.map At), .vC AN l,I q.x,I q.y,I q.z,I g.x,I g.y,I g.z,I a,I u,I b,I k,I D.x,I D.y,I D.z,B true,I v,I y,I e]=
   some [.vC Ai ((Bd u b k (aF,v,at_) q).1.map At), .vC AN l,I D.x,I D.y,I D.z,B true,I (Bd u b k (aF,v,at_) q).2.1,I y,I e]:=
 Zss G (Qce L M) (Ib L M) N hlen
theorem Znp {aA:List Itm} (hlen:aA.length<=15) (D:∀j<aA.length,¬Ci (vE aA j)) {i:Nat} (M:i<aA.length):
  Rn K5 Nk Hv Ji Fa Lf SL (pbR aA i)=some (0,pbR aA (i+1)):=by
 have hb:=Nr D i (by omega);have O:=Po D i (by omega);have G:=λk X N=>(Ia (D k X) N).1;have I:=Ia (D i M);refine Zo3 M hlen hb.aD SV (λL U=>Qk0 (by omega) U) (λL U=>Qb0 (by omega) U) (λN=> ?_) (Zz9 (by omega) M (by grind [hb.aD]));have hd:=(I N).1;exact Yds M hlen hd.1 hb O (T0 hd hb.frm G) (λY=>by have V:=(I N).2;rcases Y with h|h<;>omega) (Qnr aA i) (WM _) (Vv hd.1.2.1 hd.1.2.2.1) (Qr6 _) (Zoy (I N).2 hb.aS)
  (Z5r (by omega) M hd hb.frm G) (λh1 V h3 h4 h5=>Z95 h1 V h3 h4 h5) Zy9
def Zmv {aA:List Itm} (hlen:aA.length<=15) (D:∀j<aA.length,¬Ci (vE aA j)):∀(k i:Nat),i+k=aA.length->
  Ak (Rn K5 Nk Hv Ji Fa Lf SL) (pbR aA i)=
   some (2,[.vC Ai ((A7 aA).aF.map At), .vC AN ((A7 aA).aD.map Aq),I (A7 aA).aQ.x,I (A7 aA).aQ.y,I (A7 aA).aQ.z,B (Ay aA aA.length).bK,I (Ay aA aA.length).len,I (Ay aA aA.length).aS,I (Da aA aA.length)])
 |0,i,G=>by simp_all [Bc,A7,Zfw]
 |k+1,i,G=>by
  rw[Bw (Znp hlen D (by omega))];exact Zmv hlen D k (i+1) (by omega)
def Kz (aA:List Itm) (o:List AC):Prop:=
 if Df aA=0 then o=[.vC Ai ((A7 aA).aF.map At), .vC AN ((A7 aA).aD.map Aq),I 0,I (A7 aA).aQ.x,I (A7 aA).aQ.y,I (A7 aA).aQ.z,B (Ay aA aA.length).bK,I (Ay aA aA.length).len,I (Ay aA aA.length).aS,I (Da aA aA.length)]
 else o=[.vC Ai [], .vC AN [],I (Df aA),I 0,I 0,I 0,B false,I 0,I 0,I 0]
def Z0g {L D:Lp} {aA:List Itm} (hlen:aA.length<=15)
  (X : (L [.vC Ai [], .vC AN [], .vC Ae (aA.map Ag), I (-1), .vC Ae (aA.map Ag), I aA.length, I 0, I 0, I 0, I 0, B false, I 0, I 0, I 0] = some (1, [.vC Ai [], .vC AN [], I (Df aA), I 0, I 0, I 0, B false, I 0, I 0, I 0]) /\ Df aA ≠ 0) \/
   (L [.vC Ai [], .vC AN [], .vC Ae (aA.map Ag),I (-1), .vC Ae (aA.map Ag),I aA.length,I 0,I 0,I 0,I 0,B false,I 0,I 0,I 0]=some (2,[.vC Ai [], .vC AN [], .vC Ae (aA.map Ag),I 0,I 0,I 0,B false,I 0,I 0,I 0])/\Df aA=0))
  (N : Df aA = 0 -> D [.vC Ai [], .vC AN [], .vC Ae (aA.map Ag), I (-1), .vC Ae (aA.map Ag), I aA.length, I 0, I 0, I 0, I 0, B false, I 0, I 0, I 0] =
   some (2,[.vC Ai ((A7 aA).aF.map At), .vC AN ((A7 aA).aD.map Aq),I (A7 aA).aQ.x,I (A7 aA).aQ.y,I (A7 aA).aQ.z,B (Ay aA aA.length).bK,I (Ay aA aA.length).len,I (Ay aA aA.length).aS,I (Da aA aA.length)])):
  ∃o,Qgc M Z V P H G L D [.vC Ae (aA.map Ag)]=some o/\Kz aA o:=by
 rw[Zzv];have O: ¬((aA.length:Int)>20000):=by omega
 rcases X with⟨h,U⟩|⟨h,U⟩
 ·simp only[go_sem,aj,h,ab O];simp_all [Kz]
 have g:=N U;simp only[go_sem,aj,h,g];simp_all [Kz]
def Zm6 {aA:List Itm} (hlen:aA.length<=15):∃o,Mk [.vC Ae (aA.map Ag)]=some o/\Kz aA o:=by
 have D:Df aA=GZ aA aA.length 0 (-1):=by unfold Df;rw[ab]
 refine Z0g hlen ?_ λhe=>Zmv hlen (L9 he).2 aA.length 0 (by omega);rw[D];exact Qb8 SV Yc4 (by omega) aA.length 0 (-1) (by omega) (.inl rfl)
def Zqs {aA:List Itm} (h:∃o,M [.vC Ae (aA.map Ag)]=some o/\Kz aA o):
  Qev M [.vC Ae (aA.map Ag)]=if Df aA=0 then some (BG (A7 aA)++[I 0])else some [I 0,I 0,I 0, .vC Ai [], .vC AN [],I (Df aA)]:=by
 obtain⟨o,G,D⟩:=h;rw[Z2p,G];unfold Kz at D;by_cases c:Df aA=0
 ·rw[ac c]at D⊢;subst D;rfl
 rw[ab c]at D⊢;subst D;simp only[go_sem]
 grind
theorem Q1k {aA:List Itm} (hlen:aA.length<=15):JF [.vC Ae (aA.map Ag)]=if Df aA=0 then some (BG (A7 aA)++[I 0])else some [I 0,I 0,I 0, .vC Ai [], .vC AN [],I (Df aA)]:=
 Zqs (Zm6 hlen)
def Lr (aA:List Itm):Nat->Option Nat
 |0=>none
 |i+1=>if(vE aA i).aP=10 then Lr aA i else some i
noncomputable def NL (aA:List Itm):Int:=
 match Lr aA aA.length with
 |some i=>if smI (vE aA i)/\(vE aA i).bJ≠0 then AJ (A7 aA).aF-AB (AQ (vE aA i)) (Am (vE aA i).to)else AJ (A7 aA).aF
 |none=>AJ (A7 aA).aF
def Qck {aA:List Itm} {i:Nat}:∀{n:Nat},Lr aA n=some i->i<n/\(vE aA i).aP≠10/\∀j,i<j->j<n->(vE aA j).aP=10
 |0,h=>by cases h
 |n+1,h=>by
  unfold Lr at h;split at h
  ·rename_i c;obtain⟨D,G,I⟩:=Qck h
   grind
  grind
theorem Zzy {aA:List Itm} (h:(vE aA i).aP=10):(Ay aA (i+1)).len=(Ay aA i).len/\Da aA (i+1)=Da aA i:=by simp_all [Aw,Ay,E3,Da]
def Q3a {aA:List Itm} {i:Nat}:∀(k:Nat),(∀j,i<=j->j<i+k->(vE aA j).aP=10)->(Ay aA (i+k)).len=(Ay aA i).len/\Da aA (i+k)=Da aA i
 |0,_=>⟨rfl,rfl⟩
 |k+1,h=>by
  obtain⟨D,G⟩:=Q3a k λj g1 g2=>h j g1 (by omega)
  grind [Zzy]
def Qtp {aA:List Itm} (D:∀j<aA.length,¬Ci (vE aA j)):AJ (A7 aA).aF=(Ay aA aA.length).len:=by
 have h:=Po D aA.length (dm _);unfold A7;by_cases hb:(Ay aA aA.length).bK=true
 ·exact(h.bK hb).2.2.2
 obtain⟨g1,g2,-⟩:=h.empty (by grind);simp only[g1,g2];rfl
def Zw0 {it:Itm} (h:it.fr≠it.to):Am it.to≠AQ it:=by grind [Am,AQ,If]
theorem Zvp (it:Itm) (h:smI it) (aU aZ aX:Int) (s:(List Sgm×Int×Pt)×Int):
  (FV it aU aZ aX (FV it aU aZ aX s (AQ it)) (Am it.to)).2=(FV it aU aZ aX (FV it aU aZ aX s (AQ it)) (Am it.to)).1.2.1-AB (AQ it) (Am it.to):=by
 have D:=Zw0 h.2;have G:(Bd aU aZ aX s.1 (AQ it)).2.2=AQ it:=by
  unfold Bd;split
  ·grind
  rfl
 simp_all [FV,Bd]
def Z80 {aA:List Itm} (hn:Lr aA aA.length=some i) (G:smI (vE aA i)):Da aA aA.length=(Ay aA aA.length).len-AB (AQ (vE aA i)) (Am (vE aA i).to):=by
 obtain⟨N,-,I⟩:=Qck hn;obtain⟨k,M⟩:∃k,aA.length=i+1+k:=⟨aA.length-(i+1),by omega⟩;have L:Aw (vE aA i):=⟨by have:=G.1;omega,by have:=G.1;omega⟩;obtain⟨g1,g2⟩:=Q3a (i:=i+1) k λj e1 e2=>I j (by omega) (by omega);have D: ¬0<=BP aA i:=by
  rcases KQ aA i with h|⟨-,-,m,m1,m2,m3,m4,m5⟩
  ·omega
  have:=I m m2 m3;have:=m4.1;omega
 rw[M,g1,g2];have e1:Da aA (i+1)=(FQ aA i (Ay aA i) (Da aA i)).2:=ac L;have e2:(Ay aA (i+1)).len=(FQ aA i (Ay aA i) (Da aA i)).1.2.1:=by
  rw[Zku,Ay];unfold E3;rw[ac L]
 rw[e1,e2];unfold FQ;have e3:BL aA i (Ay aA i).frm=Hq aA i (Ay aA i).frm++[AQ (vE aA i)]++[Am (vE aA i).to]:=by
  unfold BL;rw[ac G];unfold GJ;rw[ab D];unfold BE;rw[ab (by have:=G.1;omega)];rfl
 grind [Zvp]
def Q8a {MS O:Fn} {aA:List Itm} {aF aD:Rw} {G:Pt} {b:Bool} {len sp D:Int} (V:aA.length<=1000) (hS:∀it,MS (Ag it)=some [B (decide (smI it))]):
  ∀n:Nat,n<=aA.length->∃o:Nat×List AC,Ak (Ty MS O) [.vC Ai aF, .vC AN aD, .vC Ae (aA.map Ag),I ((n:Int)-1),I G.x,I G.y,I G.z,B b,I len,I sp,I D]=some o/\
   match Lr aA n with
   |some i=>o=(1,[I (if smI (vE aA i)/\(vE aA i).bJ≠0 then D else len)])
   |none=>o=(2,[.vC Ai aF, .vC AN aD,I G.x,I G.y,I G.z,B b,I len,I sp,I D])
 |0,_=>by
  refine⟨_,Bc (o:=(2,_)) ?_ (by simp),rfl⟩;rfl
 |n+1,hn=>by
  have M:n<aA.length:=by omega
  have X:=Fq M;have Y:=hS (vE aA n);have N:(0:Int)<=(n:Int)/\(n:Int)<(aA.length:Int):=by omega
  have e:((n+1:Nat):Int)-1=n:=by omega
  have L:Ty MS O [.vC Ai aF, .vC AN aD, .vC Ae (aA.map Ag),I n,I G.x,I G.y,I G.z,B b,I len,I sp,I D]=
    if(vE aA n).aP=10 then some (0,[.vC Ai aF, .vC AN aD, .vC Ae (aA.map Ag),I ((n:Int)-1),I G.x,I G.y,I G.z,B b,I len,I sp,I D])
    else some (1,[I (if smI (vE aA n)/\(vE aA n).bJ≠0 then D else len)]):=by
   rw[Z9d];simp only[go_sem,ag,X,Y,ac N];rw[ac,Ad];by_cases U:(vE aA n).aP=10
   ·grind
   grind
  rw[e];unfold Lr;by_cases U:(vE aA n).aP=10
  ·rw[ac U]at L⊢;rw[Bw L];exact Q8a V hS n (by omega)
  simp_all [Bc]
def Z1c {aA:List Itm} (hl:aA.length<=15) (hS:∀it,M (Ag it)=some [B (decide (smI it))]) (h:∃o,Z [.vC Ae (aA.map Ag)]=some o/\Kz aA o):
  Qgg M Z (Ak (Ty M Z)) [.vC Ae (aA.map Ag)]=some [I (if Df aA=0 then NL aA else 0)]:=by
 obtain⟨o,V,G⟩:=h;unfold Kz at G;by_cases c:Df aA=0
 ·rw[ac c]at G⊢;have D:=(L9 c).2;have L:=Qtp D;have X:=λi hn Y=>Z80 (aA:=aA) (i:=i) hn Y;have U:= @Q8a M Z aA ((A7 aA).aF.map At) ((A7 aA).aD.map Aq) (A7 aA).aQ (Ay aA aA.length).bK (Ay aA aA.length).len (Ay aA aA.length).aS (Da aA aA.length) (by omega) hS aA.length (by omega);obtain⟨r,r1,N⟩:=U;rw[Zg0,V];subst G;have hw:O ((aA.length:Int)-1)=(aA.length:Int)-1:=Ad;unfold NL;rw[L];simp only[go_sem,aj,hw,r1];cases hn:Lr aA aA.length with
  |none=>
   rw[hn]at N;subst N;rfl
  |some i=>
   rw[hn]at N;simp only at N;subst N;simp only[go_sem]
   grind
 rw[ab c]at G⊢;subst G;rw[Zg0,V];simp only[go_sem]
 grind
theorem Zwv {aA:List Itm} (D:aA.length<=15):RA [.vC Ae (aA.map Ag)]=some [I (if Df aA=0 then NL aA else 0)]:=Z1c D WM (Zm6 D)
def okU (s:Spk):Prop:=s.u.natAbs<=1000000/\s.w.natAbs<=1000000/\(0<=s.r/\s.r<=1000000)/\s.h.natAbs<=200000
theorem okU.s {s:Spk} (h:okU s):okS s:=⟨by have:=h.1;omega,by have:=h.2.1;omega,⟨h.2.2.1.1,by have:=h.2.2.1.2;omega⟩,by have:=h.2.2.2;omega⟩
def Z1t {a b:Spk} (D:okU a) (hb:okU b) {u w:Int} (G:u.natAbs<=100000000) (I:w.natAbs<=100000000):okU (DC a b u w):=by
 unfold DC;split
 ·exact⟨by simp,by simp,by simp,by simp⟩
 rename_i h;have L:=D.2.2;have M:=hb.2.2
 have N:0<=hf a.r b.r/\hf a.r b.r<=1000000:=by unfold hf;omega
 have O:(hf a.h b.h).natAbs<=200000:=by unfold hf;omega
 obtain⟨U,V⟩:=Qep G I (r:=hf a.r b.r) (by omega) h;exact⟨by grind,by grind,N,O⟩
def Zoc {a b:Spk} (D:okU a) (hb:okU b) {dir:Int} (hd:dir=1\/dir= -1) (bI:Bool):okU (AS a b dir bI):=
 Z1t D hb (NE D.s hb.s hd bI).1 (NE D.s hb.s hd bI).2
def Y7 {dir:Int} (hd:dir=1\/dir= -1):∀(k:Nat) (bI:Bool) {a b:Spk},okU a->okU b->∀s∈A0 dir k bI a b,okU s
 |0,_,a,b,_,hb,s,D=>by grind [A0]
 |k+1,bI,a,b,G,hb,s,D=>by
  unfold A0 at D;have I:=Zoc G hb hd bI;split at D
  ·grind
  rcases bt.1 D with D|D
  ·exact Y7 hd k false G I s D
  exact Y7 hd k false I hb s D
def Yav {n:Nat} (hn:n<=300000000000):0<=Fo n/\Fo n<=1000000:=by
 obtain⟨r,D,G⟩:=LT n;have I:=Sh D G;rw[Pu I];have:r<1000000:=by
  by_cases c:r<1000000
  ·exact c
  have:=d9 (show 1000000<=r by omega) (show 1000000<=r by omega);omega
 grind
def Qf2 {pl:Int} (h:bd i d):(plU pl d).natAbs<=i/\(plW pl d).natAbs<=i/\(plH pl d).natAbs<=i:=FL h
theorem Qi1 {it:Itm} (D:bd 4200 it.ce) (G:bd 4200 d):okU (Av it d):=by
 obtain⟨N,O,U⟩:=Qf2 (pl:=it.aG) D;obtain⟨V,X,Y⟩:=Qf2 (pl:=it.aG) G;have I:(dU it d*16).natAbs<=134400:=by unfold dU;omega
 have L:(dW it d*16).natAbs<=134400:=by unfold dW;omega
 have q1:=B3 I;have q2:=B3 L;obtain⟨-,-,M,-⟩:=PP (AH D (by omega)) (AH G (by omega));obtain⟨n,hn⟩:=bh M;refine⟨co I (by decide),co L (by decide),?_,?_⟩
 ·show 0<=Fo _/\Fo _<=_;rw[hn];refine Yav ?_
  grind [sq2]
 show(plH it.aG d*16).natAbs<=_;omega
def Ybc {it:Itm} {s:Spk} (D:bd 4200 it.ce) (G:okU s):bd B24 (Bo it s):=by
 obtain⟨I,L,-⟩:=Qf2 (pl:=it.aG) (C7 D);obtain⟨s1,s2,-,M⟩:=G;exact Qgp (by grind) (by grind) (by grind)
theorem Z3o {it:Itm} (h:Made it) (hf:bd 4084 it.fr):∀p∈BE it,bd B24 p:=by
 have L:=Qpo h hf;intro p G;unfold BE at G;split at G
 ·rename_i M;simp at G;obtain⟨s,I,rfl⟩:=G;have D:bd 4200 it.ce:=AH (WI (h.arc M) (by omega) hf).2 (by omega);refine Ybc D ?_;rcases be.1 I with rfl|I
  ·grind [Qi1,AH]
  exact Y7 (h.arc M).dir 16 _ (Qi1 D (AH hf (by omega))) (Qi1 D (AH L (by omega))) s I
 simp at G;rcases G with rfl|rfl
 ·exact AH (C7 hf) (by decide)
 exact AH (C7 L) (by decide)
def XN (n:Nat) (g:Sgm):Prop:=bd B24 g.to/\0<=g.aU/\g.aU<n/\i64 g.aX
def Zce {n:Nat} {aU aZ aX:Int} (G:0<=aU/\aU<n) (L:i64 aX):∀(D:List Pt) (s:List Sgm×Int×Pt),(∀p∈D,bd B24 p)->(∀g∈s.1,XN n g)->∀g∈(D.foldl (Bd aU aZ aX) s).1,XN n g
 |[],s,_,h=>h
 |q::D,s,M,h=>by
  refine Zce G L D _ (λp N=>M p (by grind)) ?_;unfold Bd;split
  ·exact h
  intro g I;simp at I;rcases I with I|rfl
  ·grind
  exact⟨M q (by simp),G.1,G.2,L⟩
structure PIn (n : Nat) (s : BSt) : Prop where
 aQ:bd B24 s.aQ
 aF:∀g∈s.aF,XN n g
 aD:∀m∈s.aD,0<=m.aU/\m.aU<n/\i64 m.at_
def Z4g {aA:List Itm} (hd:drawn (vE aA i)) (hf:Lq aA i a) (G:∀k<aA.length,Aw (vE aA k)->drawn (vE aA k)) (N:∀p∈BE (vE aA i),bd B24 p):∀p∈BL aA i a,bd B24 p:=by
 unfold BL;by_cases I:smI (vE aA i)
 ·rw[ac I];intro p D;rcases bt.1 D with D|D
  ·rcases bt.1 D with D|D
   ·unfold Hq at D;rcases hf with rfl|⟨f,rfl,L,M⟩
    ·grind
    rw[ac]at D
    grind [JL]
   simp at D;subst D;exact KN hd.1.2.1 hd.1.2.2.1
  unfold GJ at D;by_cases h:0<=BP aA i
  ·rw[ac h]at D
   grind [Tx,JL]
  grind
 grind
def Yce {it:Itm} (hf:it.aP=1\/1<=it.aZ/\it.aZ<=60000000):i64 (Kb it):=by grind [Kb,syI,mn,i64]
def Yc3 {aA:List Itm} {s:BSt} (O:i<aA.length) (X:aA.length<=15) (D:∀j<aA.length,¬Ci (vE aA j)) (U:∀j<aA.length,Aw (vE aA j)->∀p∈BE (vE aA j),bd B24 p) (M:BOK aA i s) (h:PIn aA.length s):PIn aA.length (E3 aA i s):=by
 have L:=λk V G=>(Ia (D k V) G).1;have N:=Zj5 O D M;have I:=N.len;unfold E3 at I⊢;by_cases G:Aw (vE aA i)
 ·rw[ac G]at I⊢;have hd:=L i O G;refine⟨?_,Zce ⟨by omega,by omega⟩ (Yce (Ia (D i O) G).2) _ _ (Z4g hd M.frm L (U i O G)) h.aF,?_⟩
  ·show bd B24 (if s.bK=true then s.aQ else Am (vE aA i).fr);split
   ·exact h.aQ
   exact C7 hd.1.2.1
  intro m G;simp at G;rcases G with G|rfl
  ·exact h.aD m G
  grind [i64]
 rw[ab G];refine⟨h.aQ,h.aF,?_⟩;intro m G;simp at G;rcases G with G|rfl
 ·exact h.aD m G
 grind [i64]
def Q3e {aA:List Itm} (I:aA.length<=15) (D:∀j<aA.length,¬Ci (vE aA j)) (G:∀j<aA.length,Aw (vE aA j)->∀p∈BE (vE aA j),bd B24 p):∀i,i<=aA.length->PIn aA.length (Ay aA i)
 |0,_=>by rw[Ay];exact⟨by grind [bd],λg h=>(by cases h),λg h=>(by cases h)⟩
 |i+1,L=>by rw[Ay];exact Yc3 (by omega) I D G (Nr D i (by omega)) (Q3e I D G i (by omega))
def Z0x {aA:List Itm} (L:aA.length<=15) (M:Df aA=0) (G:∀j<aA.length,Aw (vE aA j)->∀p∈BE (vE aA j),bd B24 p):bd B24 (A7 aA).aQ/\(∀g∈(A7 aA).aF,XN aA.length g)/\(∀m∈(A7 aA).aD,0<=m.aU/\m.aU<aA.length/\i64 m.at_)/\(A7 aA).aD.length=aA.length:=by
 have D:=(L9 M).2;have I:=Q3e L D G aA.length (dm _);exact⟨I.aQ,I.aF,I.aD,(Nr D aA.length (dm _)).aD⟩
def Zxb {aA:List Itm} (M:aA.length<=15) (L:Df aA=0):i64 (NL aA):=by
 have I:=Ye M L;have U:=Qi6 (WV I.aQ I.aF);have G:=I.count;have D:=(L9 L).2;have V:i64 (AJ (A7 aA).aF):=by unfold i64;omega
 unfold NL;split
 ·rename_i i e;split
  ·rename_i c;obtain⟨N,-,-⟩:=Qck e;have O:Aw (vE aA i):=⟨by have:=c.1.1;omega,by have:=c.1.1;omega⟩;obtain⟨hd,-⟩:=Ia (D i N) O;have:=Ib (AH (KN hd.1.2.1 hd.1.2.2.1) (by decide)) (AH (C7 hd.1.2.2.1) (by decide))
   grind [i64]
  omega
 omega
def Wf (n lo D:Int):JX [I n,I lo,I D]=some [B (decide (lo<=n/\n<=D))]:=by
 show Qbi [I n,I lo,I D]=_
 grind [Zo5]
def Zrq (N:∀n lo D:Int,M [I n,I lo,I D]=some [B (decide (lo<=n/\n<=D))]) {a:Axs} (h:AxOK a) (G:a.aW≠[]):
  ∃o,Ak (Qak M) (.vC Aa (a.aW.map Ap)::I a.aW.length::I 0::BK a)=some o/\o.1=2:=by
 have U:=h.aO G;refine Ch (λi:Nat=> .vC Aa (a.aW.map Ap)::I a.aW.length::I (i:Int)::BK a) (λi=>i<=a.aW.length) (λi=>a.aW.length-i) _ ?_ 0 (by simp);intro i D;have hc:=h.count;rw[Zws];dsimp only[jA,gA,bA,wA];have O:∀j:Nat,j<a.aW.length->Af (nth .vD (nth [] (a.aW.map Ap) j) 0)=a.aW.getD j 0:=λj V=>by
  have e:nth [] (a.aW.map Ap) j=Ap a.aW[j]:=by
   rw[Fu [] (a.aW.map Ap) j (by grind),i7]
  rw[e,List.getD,an V];rfl
 refine .cond (λk=> ?_) λ_=> .some (.inr ⟨by simp,rfl⟩);have k:(i:Int)<(a.aW.length:Int):=Ba k;have hl:((a.aW.map Ap).length:Int)=a.aW.length:=by rw[aj]
 refine .cond (λ_=> ?_) λe=>(inB (by omega) (by omega) e).elim;have X: -4096<=a.aW.getD i 0/\a.aW.getD i 0<=4096:=by
  refine h.aW.1 _ ?_;rw[List.getD,an (by omega)];exact dl _
 rw[ag,O i (by omega),N];simp only[aq,gA,wA,bA,jA,FH,EJ];rw[av X];refine .cond (λe=>by cases e) λ_=> ?_;have Y:∀{x:List AC},x= .vC Aa (a.aW.map Ap)::I a.aW.length::I ((i:Int)+1)::BK a->Out (λo:Nat×List AC=>(o.1=0/\∃L:Nat,o.2= .vC Aa (a.aW.map Ap)::I a.aW.length::I (L:Int)::BK a/\L<=a.aW.length/\a.aW.length-L<a.aW.length-i)\/(o.1≠0/\o.1=2)) (some (0,x)):=λe=>
  .some (.inl ⟨rfl,i+1,by grind,by omega,by omega⟩)
 rw[Ad (x:=(i:Int)+1)];refine .cond (λg=> ?_) λ_=>Y rfl;have g:(i:Int)>0:=Ba g;rw[Ad (x:=(i:Int)-1)];obtain⟨j,rfl⟩:∃j:Nat,i=j+1:=⟨i-1,by omega⟩;have hd:=h.aW.2 j (by omega);have ej:(((j+1:Nat):Int)-1).toNat=j:=by omega
 rw[ej,O j (by omega),N];simp only[aq,gA,wA,bA,jA,FH,EJ];have q1:a.aO.tdiv 4=a.aO/4:=dg (by omega);rw[q1,Ad (x:=a.aO/4),Ad (x:=0-a.aO/4),Ad]
 grind
def Yff (G:∀n lo L:Int,M [I n,I lo,I L]=some [B (decide (lo<=n/\n<=L))]) {a:Axs} (h:AxOK a)
  (U:a.aW≠[]->∃o,N (.vC Aa (a.aW.map Ap)::I a.aW.length::I 0::BK a)=some o/\o.1=2):Z_ M N (BK a)=some [B true]:=by
 have O:=h.aO;have Y:=h.aV;have hc:=h.count
 rw[Zt1];by_cases e:a.aW=[]
 ·grind
 have hl:=js.2 e;obtain⟨o,V,X⟩:=U e;have O:=O e;have D:N [.vC Aa (a.aW.map Ap),I (a.aW.map Ap).length,I 0,I a.step,I a.aS,I a.bF,I a.bG,I a.low,I a.aY,I a.bB,I a.aV,I a.aO, .vC Aa (a.aW.map Ap)]=some o:=by rw[aj];exact V
 rw[CE (by grind),CE (by grind),G,G,D];simp only[aq];rw[av (by omega),av (by omega),X];rfl
def Z08 {a:Axs} (h:AxOK a):U7 (BK a)=some [B true]:=Yff Wf h λD=>Zrq Wf h D
def Zui (G:∀n lo D:Int,Z [I n,I lo,I D]=some [B (decide (lo<=n/\n<=D))]) {a:Axs} (h:AxOK a) (L:M (BK a)=some [B true]):Qcy M Z (BK a)=some [B true]:=by
 have N:=h.step;have hb:=h.bB;obtain⟨O,U,V,X,Y,l6,l7,l8⟩:=h.lim
 rw[Ydp];simp only[G];rw[av (by omega),av (by omega),av (by omega),av (show 4<=a.bG/\a.bG<=1048576 by omega),av (by omega),av (by omega),av (by omega),av (by omega)];rw[L];rfl
def Zqb {a:Axs} (h:AxOK a):Vw (BK a)=some [B true]:=Zui Wf h (Z08 h)
def Zwt (G:∀n lo D:Int,M [I n,I lo,I D]=some [B (decide (lo<=n/\n<=D))]) {a:Axs} (h:AxOK a) {q:Int} (L:q.natAbs<=B24):Qfv M (BK a++[I q])=some [B true]:=by
 obtain⟨-,-,-,-,-,-,N,O⟩:=h.lim;refine de (Zr0 M ..) ?_;rw[G,av (by grind)];rfl
def Ztu {a:Axs} (h:AxOK a) {q:Int} (D:q.natAbs<=B24):PN (BK a++[I q])=some [B true]:=Zwt Wf h D
def Zr5 {x:Ax3} (V:bd B24 p.aQ) (X:∀g∈p.aF,bd B24 g.to) (Y:p.aF.length<=1000000):
  Out (λo:Nat×List AC=>o.1=1/\∃D:List Pt,o.2= .vC kPt (D.map ptR)::AF x/\(∀q∈D,bd B24 q)/\D.length<=1000001) (Ak (Qai M) (.vC kPt [ptR p.aQ]:: .vC Ai (p.aF.map At)::I (p.aF.map At).length::I 0::AF x)):=by
 refine Ch (λs:Nat×List Pt=> .vC kPt (s.2.map ptR):: .vC Ai (p.aF.map At)::I (p.aF.map At).length::I (s.1:Int)::AF x) (λs=>s.1<=p.aF.length/\(∀q∈s.2,bd B24 q)/\s.2.length=s.1+1) (λs=>p.aF.length-s.1) _ ?_ (0,[p.aQ]) ⟨by simp,by grind,rfl⟩;rintro⟨i,D⟩ ⟨L,G,N⟩;dsimp only at L G N;refine Out.eqv (Z10 M ..) ?_;have O:((p.aF.map At).length:Int)=p.aF.length:=by rw[aj]
 refine .cond (λk=> ?_) λ_=> .some (.inr ⟨by simp,rfl,D,rfl,G,by omega⟩);have k:=Ba k;refine .cond (λ_=> ?_) λe=>(inB (by omega) (by omega) e).elim;have U:nth [] (p.aF.map At) (i:Int).toNat=At p.aF[i]:=by
  rw[ag,Fu [] _ i (by omega),i7]
 rw[U];refine .cond (λ_=> ?_) λe=>by grind [Dd]
 refine .some (.inl ⟨rfl,(i+1,D++[p.aF[i].to]),?_,⟨by omega,?_,by grind⟩,by omega⟩)
 ·rw[Ad,d8];rfl
 grind
def Zzi (G:∀{a:Axs} {q:Int},AxOK a->q.natAbs<=B24->M (BK a++[I q])=some [B true]) {x:Ax3} (L:Ax3M x) {D:List Pt} (O:∀q∈D,bd B24 q) (hl:D.length<=1000001):
  Out (λo:Nat×List AC=>o.1=2) (Ak (Qhz M N) (.vC kPt (D.map ptR)::I (D.map ptR).length::I 0::AF x)):=by
 refine Ch (λi:Nat=> .vC kPt (D.map ptR)::I (D.map ptR).length::I (i:Int)::AF x) (λi=>i<=D.length) (λi=>D.length-i) _ ?_ 0 (by simp);intro i h1;refine Out.eqv (Z4k M N ..) ?_;have U:((D.map ptR).length:Int)=D.length:=by rw[aj]
 refine .cond (λk=> ?_) λ_=> .some (.inr ⟨by simp,rfl⟩);have k:=Ba k;refine .cond (λ_=> ?_) λe=>(inB (by omega) (by omega) e).elim;have V:nth [] (D.map ptR) (i:Int).toNat=ptR D[i]:=by
  rw[ag,Fu [] _ i (by omega),i7]
 rw[V];obtain⟨X,Y,q3⟩:=O _ (dl (show i<D.length by omega));refine .bind ⟨_,G L.a X,rfl⟩ λo e=> ?_;subst e;refine .bind ⟨_,G L.b Y,rfl⟩ λo e=> ?_;subst e;refine .cond (λe=>by cases e) λ_=> ?_;refine .bind ⟨_,G L.c q3,rfl⟩ λo e=> ?_;subst e;exact .some (.inl ⟨rfl,i+1,by grind [Ad],by omega,by omega⟩)
def Zy3 {G L:Lp} {x:Ax3}
  (N:Out (λo:Nat×List AC=>o.1=1/\∃D:List Pt,o.2= .vC kPt (D.map ptR)::AF x/\(∀q∈D,bd B24 q)/\D.length<=1000001) (G (.vC kPt [ptR p.aQ]:: .vC Ai (p.aF.map At)::I (p.aF.map At).length::I 0::AF x)))
  (O:∀{D:List Pt},(∀q∈D,bd B24 q)->D.length<=1000001->Out (λo:Nat×List AC=>o.1=2) (L (.vC kPt (D.map ptR)::I (D.map ptR).length::I 0::AF x))):
  Out (λo=>o=[B true]) (Z5 M G L (AF x++BG p)):=by
 refine Out.eqv (Z05 M G L ..) ?_;refine .bind N λo q=> ?_;obtain⟨o1,o2⟩:=o;obtain⟨U,D,V,X,Y⟩:=q;subst U V;refine .bind (O X Y) λo q=> ?_;rw[q];exact .some rfl
def Zow {x:Ax3} (D:Ax3M x) (G:bd B24 p.aQ) (I:∀g∈p.aF,bd B24 g.to) (L:p.aF.length<=1000000):Uk (AF x++BG p)=some [B true]:=by
 obtain⟨o,h,rfl⟩:=Zy3 (Zr5 G I L) (λM N=>Zzi (λO U=>Ztu O U) D M N);exact h
def Ycy:∃v:Int,GG [I 30000]=some [I v]/\60000<=v:=by
 have key:∀{M:Fn} {v:Int},M [I 30000,I 1048576,I 60000,I 2]=some [I v,B true]->VT M [I 30000]=some [I v]:=λh=>by
  rw[Q5b,h];rfl
 refine⟨_,key (VR (by grind [i64]) (by grind [i64]) (by omega) (by decide)),?_⟩
 grind [AA]
def Zwe {x:Ax3} (D:Ax3M x) {pa pb pc bH lag:Int} (X:Plan3 pa pb pc) (G:1<=bH/\bH<=60000) (L:0<=lag/\lag<=40)
  (hV:∀{a:Axs},AxOK a->V (BK a)=some [B true]) (N:Z [I pa,I pb,I pc]=some [B true]) (O:∃v:Int,M [I 30000]=some [I v]/\60000<=v):Out (λo=>o=[B true]) (Ys M Z V (AF x++[I pa,I pb,I pc,I bH,I lag])):=by
 refine Out.eqv (Z6g M Z V ..) ?_;refine .bind ⟨_,hV D.a,rfl⟩ λo e=> ?_;subst e;refine .cond (λe=>by cases e) λ_=> .bind ⟨_,hV D.b,rfl⟩ λo e=> ?_;subst e;refine .cond (λe=>by cases e) λ_=> .bind (p:=λo=>o=[B true]) ⟨_,hV D.c,rfl⟩ λo e=> ?_;subst e;refine .cond (λe=>by cases e) λ_=> .bind (p:=λo=>o=[B true]) ⟨_,N,rfl⟩ λo e=> ?_;subst e;obtain⟨v,U,Y⟩:=O;refine .cond (λ_=> .cond (λ_=> ?_) λe=>absurd G.1 (B0 e)) λe=>by cases e
 refine .bind ⟨_,U,rfl⟩ λo e=> ?_;subst e;refine .cond (λ_=> .cond (λ_=> ?_) λe=>absurd L.1 (B0 e)) λe=>absurd (show bH<=v by omega) (B0 e);exact .some (by grind)
def Z5q {x:Ax3} (G:Ax3M x) {pa pb pc bH lag:Int} (D:Plan3 pa pb pc) (L:1<=bH/\bH<=60000) (M:0<=lag/\lag<=40):WZ (AF x++[I pa,I pb,I pc,I bH,I lag])=some [B true]:=by
 have N:GC [I pa,I pb,I pc]=some [B true]:=by rw[VF,av (⟨D.a.1,D.a.2,D.b.1,D.b.2,D.c.1,D.c.2⟩)]
 obtain⟨o,h,rfl⟩:=Zwe G D L M Zqb N Ycy;exact h
def Z8e {x:Ax3} (O:Ax3M x) (D G L M N:Int):US (AF x++[I D,I G,I L,I M,I N])=some (AF x++[I D,I G,I L,I M,I N]):=by
 have U:=O.a.count;have hb:=O.b.count;have V:=O.c.count
 have key:Qbb (AF x++[I D,I G,I L,I M,I N])=some (AF x++[I D,I G,I L,I M,I N]):=by
  refine de (Zoa ..) ?_;rw[Dd (by grind),Dd (by grind),Dd (by grind)];rfl
 exact key
abbrev Qz3 (K:Kf):Kf:=⟨K.x,K.pa,K.pb,K.pc,K.bH,K.lag,[],false,⟨⟨0,0,0⟩,[],[]⟩,0,0,⟨[],0,0,⟨0,0,0⟩⟩⟩
abbrev Qrz (K:Kf):Kf:=⟨K.x,K.pa,K.pb,K.pc,K.bH,K.lag,K.aA,K.closed,K.p,K.len,K.set,⟨[],0,0,⟨0,0,0⟩⟩⟩
abbrev Ev:Cv:=⟨0,0,0,0,0,0,100,100,false,false,false,0,0,-1,1,0,0,0,0,0,0,0,0,false,0,false,0,false,0,-1,0,0,0,0,0,0,0,false,false,false⟩
noncomputable abbrev kfP (x:Ax3) (pa pb pc bH lag:Int) (aA:List Itm) (closed:Bool):Kf:=⟨x,pa,pb,pc,bH,lag,aA,closed,A7 aA,AJ (A7 aA).aF,NL aA,Bg (A7 aA) x ⟨1,1,1⟩ 0 (AJ (A7 aA).aF)⟩
theorem Z09 (U:K.aA.length<=15) (i0:List Itm) (G:Bool) (p0:Pth) (L s0:Int) (D:Trk) (c:Cv)
  (hB:P [.vC Ae (K.aA.map Ag)]=some (BG K.p++[I 0])) (N:V (AF K.x++BG K.p)=some [B true]) (O:Z (BG K.p)=some [I K.len]) (hS:M [.vC Ae (K.aA.map Ag)]=some [I K.set]):
  RX M Z V P (.vC Ae (K.aA.map Ag)::B K.closed::Ac ⟨K.x,K.pa,K.pb,K.pc,K.bH,K.lag,i0,G,p0,L,s0,D⟩ c)=some (I 0::Ac ⟨K.x,K.pa,K.pb,K.pc,K.bH,K.lag,K.aA,K.closed,K.p,K.len,K.set,D⟩ c):=by
 have key:Out (λo=>o=I 0::Ac ⟨K.x,K.pa,K.pb,K.pc,K.bH,K.lag,K.aA,K.closed,K.p,K.len,K.set,D⟩ c) (RX M Z V P (.vC Ae (K.aA.map Ag)::B K.closed::Ac ⟨K.x,K.pa,K.pb,K.pc,K.bH,K.lag,i0,G,p0,L,s0,D⟩ c)):=by
  refine Out.eqv (Zq5 M Z V P _ _ ⟨K.x,K.pa,K.pb,K.pc,K.bH,K.lag,i0,G,p0,L,s0,D⟩ c) ?_;refine .bind ⟨_,hB,rfl⟩ λo e=> ?_;subst e;refine .bind ⟨_,N,rfl⟩ λo e=> ?_;subst e;refine .cond (λe=>by cases e) λ_=> .cond (λ_=> ?_) λe=>by grind [Dd]
  refine .bind ⟨_,O,rfl⟩ λo e=> ?_;subst e;refine .bind ⟨_,hS,rfl⟩ λo e=> ?_;subst e;exact .some rfl
 obtain⟨o,h,rfl⟩:=key;exact h
def Zny (D:K.aA.length<=15) (c:Cv)
  (hB:P [.vC Ae (K.aA.map Ag)]=some (BG K.p++[I 0])) (G:V (AF K.x++BG K.p)=some [B true]) (L:Z (BG K.p)=some [I K.len]) (hS:M [.vC Ae (K.aA.map Ag)]=some [I K.set]):
  RX M Z V P (.vC Ae (K.aA.map Ag)::B K.closed::Ac (Qz3 K) c)=some (I 0::Ac (Qrz K) c):=
 by simp_all [Z09]
def Z0y
  (D:F (AF K.x++[I K.pa,I K.pb,I K.pc,I K.bH,I K.lag])=some [B true]) (L:G (AF K.x++[I K.pa,I K.pb,I K.pc,I K.bH,I K.lag])=some (AF K.x++[I K.pa,I K.pb,I K.pc,I K.bH,I K.lag]))
  (N:H []=some [I 100,I 100,B false,B false,B false]) (O:P []=some [I 0,I 0,I (-1)])
  (U:V (.vC Ae (K.aA.map Ag)::B K.closed::Ac (Qz3 K) Ev)=some (I 0::Ac (Qrz K) Ev))
  (hT:Z (BG K.p++AF K.x++[I 1,I 1,I 1,I 0,I K.len])=some (Bh K.t)) (hS:M [I 0]=some [I 0,I 0,I 0,I 0,I 0,I 0]):
  U2 M Z V P H G F (AF K.x++[I K.pa,I K.pb,I K.pc,I K.bH,I K.lag]++[.vC Ae (K.aA.map Ag),B K.closed])=some (I 0::Ac K Ev):=by
 have key:Out (λo=>o=I 0::Ac K Ev) (U2 M Z V P H G F (AF K.x++[I K.pa,I K.pb,I K.pc,I K.bH,I K.lag]++[.vC Ae (K.aA.map Ag),B K.closed])):=by
  refine Out.eqv (Zoo M Z V P H G F ..) ?_;refine .bind ⟨_,D,rfl⟩ λo e=> ?_;subst e;refine .bind ⟨_,L,rfl⟩ λo e=> ?_;subst e;refine .bind ⟨_,N,rfl⟩ λo e=> ?_;subst e;refine .bind ⟨_,O,rfl⟩ λo e=> ?_;subst e;refine .bind ⟨_,U,rfl⟩ λo e=> ?_;subst e;refine .cond (λe=>by cases e) λ_=> ?_;refine .bind ⟨_,hT,rfl⟩ λo e=> ?_;subst e;refine .bind ⟨_,hS,rfl⟩ λo e=> ?_;subst e;exact .some (by kernel_rfl)
 obtain⟨o,h,rfl⟩:=key;exact h
structure MachOK (x : Ax3) (pa pb pc bH lag : Int) : Prop where
 x:Ax3M x
 plan:Plan3 pa pb pc
 bH:1<=bH/\bH<=60000
 lag:0<=lag/\lag<=40
def Ybl {x:Ax3} (D:MachOK x a u b k v) {aA:List Itm} (M:aA.length<=15) (N:Df aA=0) (U:∀j<aA.length,Aw (vE aA j)->∀p∈BE (vE aA j),bd B24 p) (Y:∀it∈aA,it.aP=8->i64 it.aS) (closed:Bool):
  Mn (AF x++[I a,I u,I b,I k,I v]++[.vC Ae (aA.map Ag),B closed])=some (I 0::Ac (kfP x a u b k v aA closed) Ev)/\KOK (kfP x a u b k v aA closed):=by
 have G:=Ye M N;obtain⟨i1,X,i3,i4⟩:=Z0x M N U;have hs:=Qi6 (WV G.aQ G.aF);have O:=G.count;refine⟨?_,?_⟩
 ·have hB:JF [.vC Ae (aA.map Ag)]=some (BG (A7 aA)++[I 0]):=by rw[Q1k M,ac N]
  have hS:RA [.vC Ae (aA.map Ag)]=some [I (NL aA)]:=by rw[Zwv M,ac N]
  have hR:=Zow D.x i1 (λg h=>(X g h).1) (by omega);have hT:=Zf1 (d:=⟨1,1,1⟩) (from_:=0) (to:=AJ (A7 aA).aF) G D.x.ok;have L:=Zny (K:=kfP x a u b k v aA closed) M Ev hB hR (Ze1 G.ok) hS;have hO:UL []=some [I 100,I 100,B false,B false,B false]:=by show Qdw []=_;rw[Z9u]
  have hG:O2 []=some [I 0,I 0,I (-1)]:=by show Yy []=_;rw[Zqw]
  have V:=Qbu 0;exact Z0y (K:=kfP x a u b k v aA closed) (Z5q D.x D.plan D.bH D.lag) (Z8e D.x ..) hO hG L hT V
 refine⟨⟨G,D.x,UV _ _ _ D.x.ok G⟩,D.plan,λg h=>(X g h).2,i3,?_,?_,?_,Zxb M N⟩
 ·grind
 ·omega
 grind [i64]
def Zj2 {x:Ax3} (L:MachOK x a u b k v) {aA:List Itm} (M:aA.length<=15) {p0:Pt} (D:Items 4084 p0 aA) (closed:Bool):
  Mn (AF x++[I a,I u,I b,I k,I v]++[.vC Ae (aA.map Ag),B closed])=some (I 0::Ac (kfP x a u b k v aA closed) Ev)/\KOK (kfP x a u b k v aA closed):=
 Ybl L M (Wt (by omega) D (by omega)) (λj N L => by
  rcases D.made _ (Tu N)with⟨-,g2,-,U,-⟩|g
  ·grind [Z3o]
  grind [Pf]) (λit G O=>by
  rcases D.made it G with⟨-,-,g,-⟩|g
  ·grind [i64]
  have:=g.spin O;grind [i64]) closed
end Go.Bm
namespace Go.Bm
structure Evn where
 (cycle aP n:Int)
abbrev evR (e:Evn):List AC:=[I e.cycle,I e.aP,I e.n]
structure EvOK (e : Evn) : Prop where
 aP:1<=e.aP/\e.aP<=13
 n: -5<=e.n/\e.n<=1073741824
theorem Qdv (E:List Evn) {i:Nat} (h:i<E.length):nth [] (E.map evR) (i:Int).toNat=evR E[i]:=by grind [Fu]
theorem Zr6 {α:Type} (P:α->Bool) (E:List α) {i:Nat} (h:i<E.length):(E.take (i+1)).filter P=(E.take i).filter P++(if P E[i]=true then [E[i]]else []):=by
 rw[gz,List.filter_append,an h]
 grind
def Zvw {P:Evn->Bool} {E:List Evn} (L:E.length<=1000000) {D:Lp} {enc:Rw->Nat->List AC}
  (G:∀(l:Rw) (i:Nat),i<=E.length->l.length<=i->D (enc l i)=if h:i<E.length then some (0,enc (l++(if P E[i]=true then [evR E[i]]else [])) (i+1))else some (1,[.vC kPt l])):
  Ak D (enc [] 0)=some (1,[.vC kPt ((E.filter P).map evR)]):=by
 have key:Out (λo=>o=(1,[.vC kPt ((E.filter P).map evR)])) (Ak D (enc [] 0)):=by
  refine Ch (λi:Nat=>enc (((E.take i).filter P).map evR) i) (λi=>i<=E.length) (λi=>E.length-i) _ ?_ 0 (by simp);intro i I;rw[G _ _ I (by grind)];by_cases h:i<E.length
  ·rw[dif_pos h];refine .some (.inl ⟨rfl,i+1,?_,by omega,by omega⟩);rw[Zr6 P E h];by_cases c:P E[i]=true
   ·grind
   grind
  rw[dif_neg h];refine .some (.inr ⟨by simp,?_⟩)
  grind
 obtain⟨o,h,rfl⟩:=key;exact h
structure Ord (E : List Evn) (p q : Int) : Prop where
 pw:E.Pairwise λa b=>a.cycle<=b.cycle
 rg:∀e∈E,p<=e.cycle/\e.cycle<=q
def Zv3:Ord [] a u:=⟨.nil,λe he=>by cases he⟩
theorem Ord.up {E:List Evn} (h:Ord E a u) (g:u<=r):Ord E a r:=⟨h.pw,λe he=>⟨(h.rg e he).1,dh (h.rg e he).2 g⟩⟩
def Zuj {E:List Evn} {p q:Int} {e:Evn} (h:Ord E p q) (I:p<=e.cycle) (G:q<=e.cycle/\e.cycle<=q):Ord (E++[e]) p q:=by
 refine⟨List.pairwise_append.2 ⟨h.pw,List.pairwise_singleton _ _,λa D b hb=> ?_⟩,λa D=> ?_⟩
 ·rw[jz]at hb;subst hb;exact dh (h.rg a D).2 G.1
 rcases bt.1 D with q|q
 ·exact h.rg a q
 grind
def Yei (G:He l M) (cycle:Int) (k:Nat):
  ∃(e:Evn) (k':Nat),Zl M [I cycle, .vC Aa l,I k]=some (evR e++[.vC Aa l,I k'])/\EvOK e/\k<=k'/\e.cycle=cycle:=by
 obtain⟨v,D,V,X,v1,hk,-⟩:=G k (n:=15) (by omega);rw[Zu5,V];simp only[aq,S8,gA,wA,bA,jA,FH,I5,HV,BI];have all:∀(n:Nat),n<15->∃aP:Int,nth [] [[I 4],[I 1],[I 2],[I 3],[I 4],[I 5],[I 6],[I 7],[I 4],[I 8],[I 9],[I 11],[I 12],[I 13],[I 10]] n=[I aP]/\1<=aP/\aP<=13:=by
  intro n hn
  match n,hn with
  |0,_=>exact⟨4,rfl,by omega⟩
  |1,_=>exact⟨1,rfl,by omega⟩
  |2,_=>exact⟨2,rfl,by omega⟩
  |3,_=>exact⟨3,rfl,by omega⟩
  |4,_=>exact⟨4,rfl,by omega⟩
  |5,_=>exact⟨5,rfl,by omega⟩
  |6,_=>exact⟨6,rfl,by omega⟩
  |7,_=>exact⟨7,rfl,by omega⟩
  |8,_=>exact⟨4,rfl,by omega⟩
  |9,_=>exact⟨8,rfl,by omega⟩
  |10,_=>exact⟨9,rfl,by omega⟩
  |11,_=>exact⟨11,rfl,by omega⟩
  |12,_=>exact⟨12,rfl,by omega⟩
  |13,_=>exact⟨13,rfl,by omega⟩
  |14,_=>exact⟨10,rfl,by omega⟩
 obtain⟨aP,N,b1,b2⟩:=all v.toNat (by omega);have hlen:([[I 4],[I 1],[I 2],[I 3],[I 4],[I 5],[I 6],[I 7],[I 4],[I 8],[I 9],[I 11],[I 12],[I 13],[I 10]]:Rw).length=15:=rfl;clear all;generalize([[I 4],[I 1],[I 2],[I 3],[I 4],[I 5],[I 6],[I 7],[I 4],[I 8],[I 9],[I 11],[I 12],[I 13],[I 10]]:Rw)=T at*;have Y:v<(T.length:Int):=by omega
 simp only[X,Y,decide_true,Bool.and_self,am,N,FH,HV];have one:∀(n d:Int),0<n/\n<=1000->0<=d/\d<=5->∃(e:Evn) (k':Nat),((M [I n, .vC Aa l,I D]).bind λo=>some [I cycle,I aP,I (O (gA o 0-d)), .vC Aa (wA o 1),jA o 2])=some (evR e++[.vC Aa l,I k'])/\EvOK e/\k<=k'/\e.cycle=cycle:=λn d hn hd=>by
  obtain⟨w,L,g1,w0,U,g2,-⟩:=G D (n:=n) (by omega);rw[g1];refine⟨⟨cycle,aP,w-d⟩,L,?_,⟨⟨b1,b2⟩,by grind⟩,by omega,rfl⟩;simp only[aq,gA,wA,jA,FH,I5,HV,BI]
  grind [Ad]
 have two:∀(n:Int),0<n/\n<=1000->∃(e:Evn) (k':Nat),((M [I n, .vC Aa l,I D]).bind λo=>some [I cycle,I aP,jA o 0, .vC Aa (wA o 1),jA o 2])=some (evR e++[.vC Aa l,I k'])/\EvOK e/\k<=k'/\e.cycle=cycle:=λn hn=>by
  obtain⟨w,L,g1,w0,U,g2,-⟩:=G D (n:=n) (by omega);rw[g1];exact⟨⟨cycle,aP,w⟩,L,rfl,⟨⟨b1,b2⟩,by grind⟩,by omega,rfl⟩
 cases c1:(aP==1)
 ·cases c2:(aP==2)
  ·cases c3:(aP==5)
   ·cases c4:(aP==6)
    ·cases c5:(aP==7)
     ·cases c6:(aP==8)
      ·cases c7:(aP==13)
       ·exact⟨⟨cycle,aP,0⟩,D,rfl,⟨⟨b1,b2⟩,by simp⟩,by omega,rfl⟩
       obtain⟨w,L,g1,w0,U,g2,-⟩:=G D (n:=4) (by omega);obtain⟨y,k3,g3,y0,y1,g4,-⟩:=G L (n:=60) (by omega);simp only[bn,am];rw[g1];simp only[aq,FH,I5,HV];rw[g3];refine⟨⟨cycle,aP,w*1048576+y⟩,k3,?_,⟨⟨b1,b2⟩,by grind⟩,by omega,rfl⟩
       grind [FH,I5,HV,Ad]
      exact one 5 1 (by omega) (by omega)
     exact one 300 5 (by omega) (by omega)
    exact two 3 (by omega)
   exact two 3 (by omega)
  exact one 220 5 (by omega) (by omega)
 exact one 220 5 (by omega) (by omega)
def Z3n {ME G ML MF:Fn} (hl:l.length<=100000) (N:He l G) (O:∀k:Nat,ML [.vC Aa l,I k]=some [B (decide (k<l.length)), .vC Aa l,I k])
  (U:∀(cycle:Int) (k:Nat),∃(e:Evn) (k':Nat),ME [I cycle, .vC Aa l,I k]=some (evR e++[.vC Aa l,I k'])/\EvOK e/\k<=k'/\e.cycle=cycle):
  Out (λo=>∃E:List Evn,o=(1,[.vC kPt (E.map evR)])/\E.length<=l.length/\(∀e∈E,EvOK e)/\Ord E 0 (40*l.length)) (Ak (Qiz ME G ML MF) [.vC kPt [],I 0, .vC Aa l,I 0]):=by
 refine Ch (λs:List Evn×Int×Nat=>[.vC kPt (s.1.map evR),I s.2.1, .vC Aa l,I (s.2.2:Int)]) (λs=>(∀e∈s.1,EvOK e)/\s.1.length<=s.2.2/\s.1.length<=l.length/\Ord s.1 0 s.2.1/\0<=s.2.1/\s.2.1<=40*s.1.length) (λs=>l.length-s.2.2) _ ?_ ([],0,0) ⟨by simp,by simp,by simp,Zv3,by simp,by simp⟩;rintro⟨E,cycle,k⟩ ⟨L,V,M,D,X,Y⟩;dsimp only at L V M D X Y;rw[Zww,O];simp only[aq,gA,wA,bA,jA,FH,I5,HV,BI,EJ];by_cases c:k<l.length
 ·rw[av c];obtain⟨v,k1,g1,v0,v1,-,g2,-⟩:=N k (n:=40) (by omega);rw[am,g1];simp only[aq,FH,I5,HV];rw[Ad];obtain⟨e,k2,q1,q2,q3,q4⟩:=U (cycle+v) k1;rw[q1];simp only[aq,da,cq,FH,I5,HV];rw[Dd (by grind)];refine .some (.inl ⟨rfl,(E++[e],cycle+v,k2),?_,⟨?_,by grind,by grind,Zuj (q:=cycle+v) (D.up (by omega)) (by omega) (by omega),by grind,by grind⟩,by grind⟩)
  ·simp
  grind
 rw[ba c];exact .some (.inr ⟨by simp,E,rfl,M,L,D.up (by omega)⟩)
def Ybf (D:Src l) (L:l.length<=60):∃E:List Evn,Pv [.vC Aa l]=some [.vC kPt (E.map evR)]/\E.length<=60/\(∀e∈E,EvOK e)/\Ord E 0 2400:=by
 obtain⟨o,M,E,rfl,N,G,I⟩:=Z3n (ME:=Qp) (MF:=DR) (by omega) (HX D) (Qpv l) λcycle k=>Yei (HX D) cycle k;refine⟨E,?_,by omega,G,I.up (by omega)⟩;show Qdh Qp C0 IK DR (Ak _) [.vC Aa l]=_;simp_all [Ycw,RZ,wA,jA,FH,I5,HV,BI]
def Zur {G MF:Fn} (D:He l G) (L:MF [.vC Aa l]=some [.vC Aa l,I 0]):
  ∃a b c:Int,X3 G MF [.vC Aa l]=some [I a,I b,I c]/\(1<=a/\a<=900)/\(2<=b/\b<=201)/\(1<=c/\c<=16000):=by
 obtain⟨v,M,g1,O,U,-⟩:=D 0 (n:=900) (by omega);obtain⟨w,N,g2,w0,V,-⟩:=D M (n:=200) (by omega);obtain⟨y,X,Y,y0,y1,-⟩:=D N (n:=16000) (by omega);refine⟨1+v,2+w,1+y,?_,by omega,by omega,by omega⟩;rw[Z5v,L];simp only[wA,BI]
 grind [FH,I5,HV,Ad]
def Zsr {G MP L MF:Fn} (M:He T G) (N:MF [.vC Aa T]=some [.vC Aa T,I 0]) {x:Ax3} (O:L [.vC Aa l]=some (AF x)) (U:Ax3M x) {a b c:Int} (V:MP [.vC Aa T]=some [I a,I b,I c]) (h1:1<=a/\a<=900) (h2:2<=b/\b<=201) (h3:1<=c/\c<=16000) (X:T.length<=100000):
  ∃bH lag:Int,Zq G MP L MF [.vC Aa l, .vC Aa T]=some (AF x++[I a,I b,I c,I bH,I lag])/\MachOK x a b c bH lag:=by
 obtain⟨k0,D⟩:∃k0:Nat,mn 3 (T.length:Int)=k0:=⟨(mn 3 (T.length:Int)).toNat,by grind [mn]⟩;obtain⟨v,Y,g1,v0,v1,-⟩:=M k0 (n:=60000) (by omega);obtain⟨w,k2,g2,w0,w1,-⟩:=M Y (n:=40) (by omega);refine⟨1+v,w,?_,⟨U,⟨by omega,by omega,by omega⟩,by omega,by omega⟩⟩;rw[Z5m,N,O,V];simp only[aq,gA,wA,jA,FH,BI];rw[D,g1];simp only[aq,FH,I5,HV];rw[g2];rw[Ad];rfl
def Z91 (L:List (Rw)) (D:L.length<=1000):Out (λo=>o.1=1/\o.2=[B false]\/o.1=2/\∀l∈L,l.length<=60) (Ak VG [.vC [Kd.sl Aa] (L.map λl=>[.vC Aa l]),I L.length,I ((0:Nat):Int)]):=by
 refine Ch (λi:Nat=>[.vC [Kd.sl Aa] (L.map λl=>[.vC Aa l]),I L.length,I (i:Int)]) (λi=>i<=L.length/\∀l∈L.take i,l.length<=60) (λi=>L.length-i) _ ?_ 0 (by simp);rintro i ⟨G,M⟩;rw[Z6e];refine .cond (λc=> ?_) λc=> .some (.inr ⟨by simp, .inr ⟨rfl,?_⟩⟩)
 ·have c:=Ba c;refine .cond (λ_=> ?_) λe=>(inB (by omega) (by grind) e).elim;rw[ag,Fu [] _ i (by grind),i7];refine .cond (λ_=> .some (.inr ⟨by simp, .inl ⟨rfl,rfl⟩⟩)) λq=> ?_;have q: ¬(L[i].length:Int)>60:=B0 q;rw[Ad];refine .some (.inl ⟨rfl,i+1,rfl,⟨by omega,?_⟩,by omega⟩)
  grind [List.take_add_one]
 grind
def Z9l {L:List (Rw)} (I:L.length<=1000):∃b:Bool,NP [.vC [Kd.sl Aa] (L.map λl=>[.vC Aa l])]=some [B b]/\(b=true->∀l∈L,l.length<=60):=by
 obtain⟨o,M,N⟩:=Z91 L I;have e:NP [.vC [Kd.sl Aa] (L.map λl=>[.vC Aa l])]=Yp (Ak VG) [.vC [Kd.sl Aa] (L.map λl=>[.vC Aa l])]:=rfl;rw[e,Z5i,aj];rw[show(0:Int)=((0:Nat):Int)from rfl,M];obtain⟨o1,o2⟩:=o;rcases N with⟨D,G⟩|⟨D,G⟩
 ·dsimp only at D G;subst D G;exact⟨false,rfl,λh=>by cases h⟩
 dsimp only at D G;subst D;exact⟨true,rfl,λ_=>G⟩
abbrev Zwg:Itm:=⟨0,0,⟨0,0,0⟩,⟨0,0,0⟩,0,⟨0,0,0⟩,0,false,0,false,0,0,0,0,0,false⟩
def itK (K:Kf) (i:Int):Itm:=K.aA.getD i.toNat Zwg
def mkK (K:Kf) (i:Int):Mrk:=K.p.aD.getD i.toNat ⟨0,0,0⟩
theorem Km (D:0<=a) (G:a<K.aA.length):nth [] (K.aA.map Ag) a.toNat=Ag (itK K a):=by simp_all [Qy0,itK]
theorem O4 (D:0<=a) (G:a<K.p.aD.length):nth [] (K.p.aD.map Aq) a.toNat=Aq (mkK K a):=by simp_all [Z9t,mkK]
def W6 (h:KOK K) {i:Int} (G:0<=i) (I:i<K.p.aD.length):0<=(mkK K i).aU/\(mkK K i).aU<K.aA.length/\i64 (mkK K i).at_:=by
 have D:i.toNat<K.p.aD.length:=by omega
 unfold mkK;rw[List.getD,an D];exact h.aD _ (dl D)
def inM {β:Type} {f:β->List AC} {i:Int} {l:List β} (D:0<=i) (G:i<(l.length:Int)):(decide (0<=i)&&decide (i<((l.map f).length:Int)))=true:=by grind
def Eu (K:Kf) (c:Cv):Option Sgm:=K.p.aF[(By K.p.aF (max (Bk K c) 0)).1]?
def vF (K:Kf) (c:Cv):Sgm:=(Eu K c).getD sg0
def Yl {c:Cv} (h:Eu K c=some g):g∈K.p.aF:=df h
def G5 (h:KOK K) {c:Cv} (D:(vF K c).aX≠0):0<=(vF K c).aU/\(vF K c).aU<K.aA.length/\i64 (vF K c).aX:=by
 unfold vF at D⊢;cases e:Eu K c with
 |none=>rw[e]at D;exact absurd rfl D
 |some g=>exact h.aF g (Yl e)
def Z9v {c:Cv} (D:Z (Ac K c)=some [I (Bk K c)])
  (G:M (BG K.p++[I (Bk K c)])=if K.p.aF=[]then some [I (-1),I 0]else some [I (By K.p.aF (max (Bk K c) 0)).1,I (By K.p.aF (max (Bk K c) 0)).2]):
  Qju M Z (Ac K c)=some (At (vF K c)++[B (Eu K c).isSome]):=by
 rw[Zs9];refine eB D (de (ij (λz=>Option.bind z _) (G)) ?_);by_cases e:K.p.aF=[]
 ·have e2:Eu K c=none:=by unfold Eu;rw[e];rfl
  unfold vF;rw[ac e,e2];rfl
 have L:=Qa5 K.p.aF (max (Bk K c) 0) e;have e2:Eu K c=some K.p.aF[(By K.p.aF (max (Bk K c) 0)).1]:=an L;unfold vF;rw[ab e,e2];refine eB rfl (eF (ba (show¬((By K.p.aF (max (Bk K c) 0)).1:Int)<0 by omega)) (eT (inM (i:=((By K.p.aF (max (Bk K c) 0)).1:Int)) (by omega) (by omega)) ?_));have N:nth [] (K.p.aF.map At) ((By K.p.aF (max (Bk K c) 0)).1:Int).toNat=At K.p.aF[(By K.p.aF (max (Bk K c) 0)).1]:=by
  rw[ag,Fu [] _ _ (by grind),i7]
 show some (AX Ai (nth [] (K.p.aF.map At) ((By K.p.aF (max (Bk K c) 0)).1:Int).toNat)++[B true])=_;rw[N];rfl
def Xi (h:KOK K) (c:Cv):ER (Ac K c)=some (At (vF K c)++[B (Eu K c).isSome]):=
 Z9v (QI h c) (X0 h.f.p.ok (Qi4 h.f _))
def OT (K:Kf) (c:Cv):Bool:=(Eu K c).isSome&&((itK K (vF K c).aU).aP==6&&c.y0==(vF K c).aU)
def Zoj {c:Cv} (h:KOK K) (hS:M (Ac K c)=some (At (vF K c)++[B (Eu K c).isSome])):XS M (Ac K c)=some [B (OT K c)]:=by
 rw[Zn6,hS];unfold OT vF;cases e:Eu K c with
 |none=>rfl
 |some g=>
  obtain⟨D,G,-⟩:=h.aF g (Yl e);refine eB rfl (eT rfl (eT (inM D G) ?_));show cond (gA (nth [] (K.aA.map Ag) g.aU.toNat) 0==6) (some [B (c.y0==g.aU)]) (some [B false])=some [B (true&&((itK K g.aU).aP==6&&c.y0==g.aU))];rw[Km D G];show cond ((itK K g.aU).aP==6) (some [B (c.y0==g.aU)]) (some [B false])=_
  grind
def Z5n (h:KOK K) (c:Cv):Ki (Ac K c)=some [B (OT K c)]:=Zoj h (Xi h c)
def spV (c:Cv) (bH:Int):Int:=if c.s1<c.s2 then mn (O (c.s1+bH)) c.s2 else mx (O (c.s1-bH)) c.s2
def spS (c:Cv) (bH:Int):Cv:={c with s1:=spV c bH,s3:=O (c.s3+O (c.s0*spV c bH))}
def Z6r (c:Cv) (bH:Int):KF [I c.s0,I c.s1,I c.s2,I c.s3,I bH]=some [I (spS c bH).s0,I (spS c bH).s1,I (spS c bH).s2,I (spS c bH).s3]:=by
 show Zi _=_;rw[Zz7];show _=some [I c.s0,I (spV c bH),I c.s2,I (O (c.s3+O (c.s0*spV c bH)))];unfold spV
 grind
def FA (c:Cv):Bool:=c.m1==0&&(c.m2==0&&(c.m3==c.m0&&c.m4==c.m0))
def Za3 (c:Cv):IM [I c.m0,I c.m1,I c.m2,I c.m3,I c.m4,I c.m5]=some [B (FA c)]:=by
 show Qbs _=_;rw[Z62];unfold FA
 grind
def Q5 (b:Bool) (n:Int):Bool:=if n=0 then false else if n=1 then true else b
def Qkh (b:Bool) (n:Int):T4 [B b,I n]=some [B (Q5 b n)]:=by
 show ZA _=_;rw[Zrx];unfold Q5
 grind
def O5 (k n:Int):Bool:=k==9||(k==8&&(decide (0<=n)&&decide (n<=2)))
def evC (c:Cv) (k n:Int):Cv:={c with
 o0:=if k=1/\0<=n/\n<=200 then n else c.o0
 o1:=if k=2/\0<=n/\n<=100 then n else c.o1
 o2:=if k=3\/k=11 then true else if k=4 then false else c.o2
 o3:=if k=5 then Q5 c.o3 n else c.o3
 o4:=if k=6 then Q5 c.o4 n else c.o4
 g0:=if k=10 then 2 else if k=11 then 0 else if O5 k n=true then(if c.g0=2 then 2 else 1)else c.g0
 g1:=if k=10 then 22 else if k=11 then 0 else if O5 k n=true/\c.g0≠2/\c.g1=0 then(if k=9 then 21 else 20)else c.g1
 g2:=if k=10 then-1 else if k=11 then-1 else if O5 k n=true/\c.g0≠2/\c.g1=0 then(if k=9 then-1 else n)else c.g2
 aJ:=if k=4 then true else c.aJ}
def Qmb (D:∀(b:Bool) (n:Int),M [B b,I n]=some [B (Q5 b n)]) (c:Cv) (x k n:Int) (G:k≠11):
  T8 M [I c.o0,I c.o1,B c.o2,B c.o3,B c.o4,I x,I k,I n]=some [I (evC c k n).o0,I (evC c k n).o1,B (evC c k n).o2,B (evC c k n).o3,B (evC c k n).o4]:=by
 rw[Q2u];unfold evC;simp only[D];by_cases L:k=1
 ·grind
 by_cases N:k=2
 ·grind
 by_cases O:k=3
 ·grind
 by_cases U:k=4
 ·grind
 by_cases V:k=5
 ·simp_all [bA,nth,EJ]
 by_cases X:k=6
 ·simp_all [bA,nth,EJ]
 grind
def Yed (c:Cv) (x n:Int):
  T8 M [I c.o0,I c.o1,B c.o2,B c.o3,B c.o4,I x,I 11,I n]=some [I c.o0,I c.o1,B c.o2,B c.o3,B c.o4]:=by
 rw[Q2u];rfl
def Q7t (a b d e f:Int):Vn [I a,I b,I d,I e,I f]=some (if a=2 then [I a,I b,I d]else if b=0 then [I 1,I e,I f]else [I 1,I b,I d]):=by
 show Zo _=_;rw[Z0n]
 grind
def Qno (hS:M []=some [I 0,I 0,I (-1)]) (hT:∀a b d e f:Int,Z [I a,I b,I d,I e,I f]=some (if a=2 then [I a,I b,I d]else if b=0 then [I 1,I e,I f]else [I 1,I b,I d])) (c:Cv) (x k n:Int):
  Qd5 M Z [I c.g0,I c.g1,I c.g2,I x,I k,I n]=some [I (evC c k n).g0,I (evC c k n).g1,I (evC c k n).g2]:=by
 rw[Zrs];unfold evC;simp only[hT,hS];by_cases N:k=10
 ·grind
 by_cases D:k=9
 ·subst D;by_cases a:c.g0=2<;>by_cases b:c.g1=0<;>simp[O5,a,b,gA,jA,nth,Af]
 by_cases G:k=8
 ·subst G;by_cases u:0<=n<;>by_cases v:n<=2<;>by_cases a:c.g0=2<;>by_cases b:c.g1=0<;>simp[O5,a,b,u,v,gA,jA,nth,Af]
 by_cases L:k=11
 ·subst L;rfl
 simp_all [beF,O5]
def Z5g (c:Cv) (x:Int) {k:Int} (n:Int) (O:k≠7/\k≠12/\k≠13)
  (N:k≠11->H [I c.o0,I c.o1,B c.o2,B c.o3,B c.o4,I x,I k,I n]=some [I (evC c k n).o0,I (evC c k n).o1,B (evC c k n).o2,B (evC c k n).o3,B (evC c k n).o4])
  (D:k=11->H [I c.o0,I c.o1,B c.o2,B c.o3,B c.o4,I x,I k,I n]=some [I c.o0,I c.o1,B c.o2,B c.o3,B c.o4])
  (G:P [I c.g0,I c.g1,I c.g2,I x,I k,I n]=some [I (evC c k n).g0,I (evC c k n).g1,I (evC c k n).g2]):
  Uq M Z V P H (I x::I k::I n::Ac K c)=some (Ac K (evC c k n)):=by
 rw[Quq];by_cases h:k=11
 ·rw[D h,G];subst h;rfl
 rw[N h,G];simp;rw[CE (by grind),CE (by grind),CE (by grind),CE (by grind)];by_cases L:k=4
 ·subst L;rfl
 rw[CE (by grind)];have e:(evC c k n).aJ=c.aJ:=by unfold evC;simp[L]
 rw[<-e];rfl
theorem Zq8 (c:Cv) (x:Int) {k:Int} (n:Int) (D:k≠7/\k≠12/\k≠13):JR (I x::I k::I n::Ac K c)=some (Ac K (evC c k n)):=
 Z5g c x n D (λh=>Qmb Qkh c x k n h) (λh=>by subst h;exact Yed c x n) (Qno (by rfl) Q7t c x k n)
end Go.Bm
noncomputable section
namespace Go.Bm
def one (M:Fn) (l:List AC):Int:=gA ((M l).getD []) 0
def Qgn (h:M o=some [I v]):M o=some [I (one M o)]:=by
 unfold one;rw[h];rfl
def Ij (k:Int) (c:Cv):Bool:=k==1||(k==3||(k==6||(k==4&&(c.o4||c.o3)||k==2&&c.o3)))
def Qso (at_ k it:Int) (c:Cv):LD [I at_,I k,I it,I c.o0,I c.o1,B c.o2,B c.o3,B c.o4]=some [B (Ij k c)]:=by
 show Qg6 _=_;rw[Yc9];unfold Ij;by_cases G:k=1
 ·grind
 by_cases L:k=3
 ·grind
 by_cases M:k=6
 ·grind
 by_cases D:k=4
 ·subst D;grind
 grind
def HA (c:Cv) (known frm:Int):List Mrk->Nat->Int×Int
 |[],_=>(known,-1)
 |m::l,i=>if Ij m.aP c=true/\frm<=m.at_/\m.at_<=known then(m.at_,i)else HA c known frm l (i+1)
def Cl (K:Kf) (c:Cv) (known frm:Int):Int×Int:=HA c known frm (K.p.aD.drop (max c.next 0).toNat) (max c.next 0).toNat
def Zra (hl:K.p.aD.length<=1000000) (c:Cv) (X:∀at_ k it:Int,M [I at_,I k,I it,I c.o0,I c.o1,B c.o2,B c.o3,B c.o4]=some [B (Ij k c)]) (known frm:Int):
  Qdr M (Ak (TF M)) [.vC kPt (K.p.aD.map Aq),I c.next,I c.o0,I c.o1,B c.o2,B c.o3,B c.o4,I known,I frm]=some [I (Cl K c known frm).1,I (Cl K c known frm).2]:=by
 rw[Zq0];have N:mx c.next 0=max c.next 0:=by unfold mx;split<;>omega
 have key:Out (λo=>(if o.1=1 then o.2=[I (Cl K c known frm).1,I (Cl K c known frm).2]else o.1=2/\o.2=[I (Cl K c known frm).1]/\(Cl K c known frm).2= -1)) (Ak (TF M) [.vC kPt (K.p.aD.map Aq),I known,I frm,I (max c.next 0),I c.o0,I c.o1,B c.o2,B c.o3,B c.o4]):=by
  refine Ch (λs:Int=>[.vC kPt (K.p.aD.map Aq),I known,I frm,I s,I c.o0,I c.o1,B c.o2,B c.o3,B c.o4]) (λs=>0<=s/\Cl K c known frm=HA c known frm (K.p.aD.drop s.toNat) s.toNat) (λs=>(K.p.aD.length-s).toNat) _ ?_ (max c.next 0) ⟨by omega,rfl⟩;rintro i ⟨g,D⟩;rw[Zwj];refine .cond (λk=> ?_) λk=> ?_
  ·have k:=Ba k;rw[aj]at k;have O:i.toNat<K.p.aD.length:=by omega
   rw[Ad (x:=i+1)];have em:mkK K i=K.p.aD[i.toNat]:=by unfold mkK;rw[List.getD,an O];rfl
   rw[dy O,<-em]at D;unfold HA at D;refine .cond (λ_=> ?_) λe=>(inB g (by grind) e).elim;rw[O4 g k];refine .bind (p:=λo=>o=_) ⟨_,X _ _ _,rfl⟩ λo e=> ?_;subst e;have next:Cl K c known frm=HA c known frm (K.p.aD.drop (i.toNat+1)) (i.toNat+1)->Out (λo:Nat×List AC=>(o.1=0/\∃G:Int,o.2=[.vC kPt (K.p.aD.map Aq),I known,I frm,I G,I c.o0,I c.o1,B c.o2,B c.o3,B c.o4]/\(0<=G/\Cl K c known frm=HA c known frm (K.p.aD.drop G.toNat) G.toNat)/\(K.p.aD.length-G).toNat<(K.p.aD.length-i).toNat)\/(o.1≠0/\(if o.1=1 then o.2=[I (Cl K c known frm).1,I (Cl K c known frm).2]else o.1=2/\o.2=[I (Cl K c known frm).1]/\(Cl K c known frm).2= -1))) (some (0,[.vC kPt (K.p.aD.map Aq),I known,I frm,I (i+1),I c.o0,I c.o1,B c.o2,B c.o3,B c.o4])):=λe=>
    .some (.inl ⟨rfl,i+1,rfl,⟨by omega,by grind⟩,by omega⟩)
   refine .cond (λa=> .cond (λb=> .cond (λd=> ?_) λd=> ?_) λb=> ?_) λa=> ?_
   ·have a:Ij (mkK K i).aP c=true:=a;have b:frm<=(mkK K i).at_:=Ba b;have d:(mkK K i).at_<=known:=Ba d;rw[ac ⟨a,b,d⟩]at D;refine .some (.inr ⟨by simp,?_⟩);rw[ac rfl,D];show [I (mkK K i).at_,I i]=[I (mkK K i).at_,I (i.toNat:Int)]
    grind
   ·have d: ¬(mkK K i).at_<=known:=B0 d
    grind
   ·have b: ¬frm<=(mkK K i).at_:=B0 b
    grind
   have a:Ij (mkK K i).aP c=false:=a
   grind
  have k:=B0 k;rw[aj]at k;rw[fc (by omega)]at D;refine .some (.inr ⟨by simp,?_⟩);rw[ab (by simp),D];exact⟨rfl,rfl,rfl⟩
 obtain⟨⟨o1,o2⟩,Y,L⟩:=key;rw[N];refine eB Y ?_;by_cases e:o1=1
 ·subst e;have L:o2=_:=L;subst L;rfl
 rw[ab e]at L;obtain⟨U,V,q3⟩:=L;dsimp only at U V;subst U V;rw[q3];rfl
def Z8t (h:KOK K) (c:Cv) (known frm:Int):Uo [.vC kPt (K.p.aD.map Aq),I c.next,I c.o0,I c.o1,B c.o2,B c.o3,B c.o4,I known,I frm]=some [I (Cl K c known frm).1,I (Cl K c known frm).2]:=
 Zra h.count c (λat_ k it=>Qso at_ k it c) known frm
def Q5w {c:Cv} {known frm:Int} (D:i64 known):∀{l:List Mrk} {i:Nat},(∀m∈l,i64 m.at_)->i64 (HA c known frm l i).1
 |[],_,_=>D
 |m::l,i,h=>by
  unfold HA;split
  ·grind
  exact Q5w D λq G=>h q (by grind)
def Zbt {c:Cv} {known frm:Int}:∀{l:List Mrk} {i:Nat},(HA c known frm l i).2= -1\/((i:Int)<=(HA c known frm l i).2/\(HA c known frm l i).2<(i+l.length:Nat))
 |[],_=> .inl rfl
 |m::l,i=>by
  unfold HA;split
  ·grind
  rcases Zbt (l:=l) (i:=i+1) (c:=c) (known:=known) (frm:=frm)with h|⟨D,G⟩
  ·omega
  grind
def Z1h {c:Cv} {known frm:Int}:(Cl K c known frm).2= -1\/(0<=(Cl K c known frm).2/\c.next<=(Cl K c known frm).2/\(Cl K c known frm).2<K.p.aD.length):=by
 unfold Cl;rcases Zbt (c:=c) (known:=known) (frm:=frm) (l:=K.p.aD.drop (max c.next 0).toNat) (i:=(max c.next 0).toNat)with h|⟨D,G⟩
 ·omega
 grind
def Qre (K:Kf) (c:Cv):Int:=one IN [I K.pa,I K.pb,I K.pc,I c.m0,I c.m1,I c.m2,I c.m3,I c.m4,I c.m5]
def Gc (K:Kf):Int:=if K.closed=true then K.len else K.set
def Gm (r:Int):Int:=O ((O (O (r+256)-1)).tdiv 256)
def Ms (K:Kf) (r:Int):Int:=if J2 K.t (AD K.t (Gm r))≠Gm r then O (AD K.t (Gm r)+1)else AD K.t (Gm r)
def BS (K:Kf) (c:Cv):Int×Int:=(J2 K.t (Cl K c (Gc K) (Ms K (Qre K c))).1,(Cl K c (Gc K) (Ms K (Qre K c))).2)
def Qpr (K:Kf) (c:Cv):(BS K c).2= -1\/(0<=(BS K c).2/\c.next<=(BS K c).2/\(BS K c).2<K.p.aD.length):=Z1h
def Yai (h:KOK K):i64 (Gc K):=by grind [Gc,h.len,h.set]
def Qpw (h:KOK K) {c:Cv} {frm:Int}:i64 (Cl K c (Gc K) frm).1:=by
 exact Q5w (Yai h) λm D=>(h.aD m (fh D)).2.2
def Zq1 {c:Cv} {b:Bool} (h:KOK K)
  (N:P [I K.pa,I K.pb,I K.pc,I c.m0,I c.m1,I c.m2,I c.m3,I c.m4,I c.m5]=some [I r,B b])
  (U:∀u,V (Bh K.t++[I u])=some [I (AD K.t u)]) (D:∀{z:Int},i64 z->Z (Bh K.t++[I z])=some [I (J2 K.t z)])
  (L:∀known frm,M [.vC kPt (K.p.aD.map Aq),I c.next,I c.o0,I c.o1,B c.o2,B c.o3,B c.o4,I known,I frm]=some [I (Cl K c known frm).1,I (Cl K c known frm).2]):
  Qae M Z V P (Ac K c)=some (I (J2 K.t (Cl K c (Gc K) (Ms K r)).1)::I (Cl K c (Gc K) (Ms K r)).2::Ac K c):=by
 have key:∀known:Int,known=Gc K->WE P K c V Z M (I known)=some (I (J2 K.t (Cl K c (Gc K) (Ms K r)).1)::I (Cl K c (Gc K) (Ms K r)).2::Ac K c):=λknown X=>by
  subst X;refine eB N (eB (U (Gm r)) (eB (D (Qi4 h.f _)) ?_));have e1:Ms K r=if J2 K.t (AD K.t (Gm r))≠Gm r then O (AD K.t (Gm r)+1)else AD K.t (Gm r):=rfl;by_cases G:J2 K.t (AD K.t (Gm r))=Gm r
  ·rw[ab]at e1;refine eF (bnF G) ?_;exact eB (L (Gc K) (AD K.t (Gm r))) (by rw[<-e1];exact eB (D (Qpw h)) rfl)
  rw[ac G]at e1;refine eT (bnT G) ?_;exact eB (L (Gc K) (O (AD K.t (Gm r)+1))) (by rw[<-e1];exact eB (D (Qpw h)) rfl)
 rw[Yee];refine eC (λe=>key _ ?_) λe=>key _ ?_
 ·simp_all [Gc]
 simp_all [Gc]
def Z8x {l:List AC} (h:Out (λo=>(wA o 0).length<=4096) (M l)) {G L N D O U V X Y:Int} (e:l=[I G,I L,I N,I D,I O,I U,I V,I X,I Y]):∃(r:Int) (b:Bool),Ra M l=some [I r,B b]:=by
 subst e;have key:Out (λo=>∃(r:Int) (b:Bool),o=[I r,B b]) (Ra M [I G,I L,I N,I D,I O,I U,I V,I X,I Y]):=by
  rw[Zj0];refine .bind h λo g=> .cond (λ_=> .some ⟨0,false,rfl⟩) λ_=> ?_;generalize wA o 0=sp at*;refine .cond (λ_=> .some ⟨D,true,rfl⟩) λc=> .cond (λ_=> .some ⟨_,true,rfl⟩) λd=> ?_;have c: ¬((sp.length:Int)=0):=by simpa using c
  rw[Ad]at d;simp at d;omega
 obtain⟨o,h1,r,b,rfl⟩:=key
 grind
def Z2o (D G L N O U V X Y:Int):∃b:Bool,IN [I D,I G,I L,I N,I O,I U,I V,I X,I Y]=some [I (one IN [I D,I G,I L,I N,I O,I U,I V,I X,I Y]),B b]:=by
 obtain⟨r,b,h⟩:=Z8x (M:=Is) (Qjk D G L N O U V X Y) rfl;have h:IN [I D,I G,I L,I N,I O,I U,I V,I X,I Y]=some [I r,B b]:=h;refine⟨b,?_⟩;unfold one;rw[h];rfl
def Z2t (h:KOK K) (c:Cv):Wg (Ac K c)=some (I (BS K c).1::I (BS K c).2::Ac K c):=by
 obtain⟨b,hb⟩:=Z2o K.pa K.pb K.pc c.m0 c.m1 c.m2 c.m3 c.m4 c.m5;exact Zq1 h hb (Tq h.f.t.q) (λD=>Zrh h.f.t.q D) (Z8t h c)
def WB (c:Cv) (v:Int):Cv:={c with m0:=O (c.m0+v),m1:=v,m2:=O (v-c.m1),m3:=c.m0,m4:=c.m3,m5:=c.m4}
def DI (K:Kf) (c:Cv) (l:Int):Cv:=WB c (nxV K c l)
def WQ {c:Cv} {n:Int} (h:KOK K) (g:Gd K n c) (l:Int):
  H3 (nxL K c l)=some (Fc c.m0 c.m1 c.m3 c.m4 (nxV K c l))/\((BH K.pa K.pb (nxV K c l) (O (nxV K c l-c.m1))).2=true\/∃r:Int,nxV K c l=O (c.m1+r)/\r=A3 K.pa K.pb c.m1 c.m2):=by
 obtain⟨o,D,v,rfl,G⟩:=Q9b h g.mo l c.o2;have D:H3 (nxL K c l)=some (Fc c.m0 c.m1 c.m3 c.m4 v):=D;have e:nxV K c l=v:=by unfold nxV;rw[D];rfl
 grind
def Zn7 {c:Cv} (h:M (nxL K c a)=some (Fc c.m0 c.m1 c.m3 c.m4 v)):Qj2 M (I a::Ac K c)=some (Ac K (WB c v)):=by
 rw[Zr2];exact eB h rfl
def Qdg {c:Cv} {n:Int} (h:KOK K) (g:Gd K n c) (l:Int):I8 (I l::Ac K c)=some (Ac K (DI K c l)):=Zn7 (WQ h g l).1
theorem ZH {c:Cv} {n:Int} (h:KOK K) (g:Gd K n c) (hn:0<=n/\n<=10000) (l:Int):Gd K (n+1) (DI K c l):=g.bD h hn (WQ h g l).2
def Im (c:Cv):Cv:={c with next:=O (c.idx+1),on:=false,idx:=0,aN:=false,cnt:=0}
def Q0 (c:Cv) (n sp:Int):List AC:=(OG [I c.s0,I c.s1,I c.s2,I c.s3,I n,I sp]).getD []
def Jt (c:Cv) (n sp:Int):Cv:={c with s0:=gA (Q0 c n sp) 0,s1:=gA (Q0 c n sp) 1,s2:=gA (Q0 c n sp) 2,s3:=gA (Q0 c n sp) 3}
def Zh4 (c:Cv) (n sp:Int):Bool:=bA ((Q8 [I c.s0,I c.s1,I c.s2,I c.s3,I n,I sp]).getD []) 0
def Hf (K:Kf) (c:Cv):Int×Cv:=
 if c.aN=true then(if c.cnt>1/\c.aJ=true then(3,Im c)else(2,c))
 else if(mkK K c.idx).aP≠3 then(3,Im c)
 else if(itK K (mkK K c.idx).aU).aP=7 then(if c.cnt<(itK K (mkK K c.idx).aU).n then(3,c)else(3,Im c))
 else if(itK K (mkK K c.idx).aU).aP=8 then(if Zh4 (Jt c (itK K (mkK K c.idx).aU).n (itK K (mkK K c.idx).aU).aS) (itK K (mkK K c.idx).aU).n (itK K (mkK K c.idx).aU).aS=true then(3,Im (Jt c (itK K (mkK K c.idx).aU).n (itK K (mkK K c.idx).aU).aS))else(3,Jt c (itK K (mkK K c.idx).aU).n (itK K (mkK K c.idx).aU).aS))
 else if(itK K (mkK K c.idx).aU).aP=14 then(7,{c with aI:=7})else(3,Im c)
def Dz (c:Cv):Cv:={c with cnt:=O (c.cnt+1)}
def CN (K:Kf) (c:Cv):Int×Cv:=Hf K (Dz c)
def Yak {c:Cv} (h:KOK K) (X:0<=c.idx) (Y:c.idx<K.p.aD.length)
  (N:∀c:Cv,V (Ac K c)=some (I 3::Ac K (Im c)))
  (hC:∀(c:Cv) (O G:Int),i64 G->Z [I c.s0,I c.s1,I c.s2,I c.s3,I O,I G]=some (Q0 c O G)) (hR:∀(c:Cv) (O G:Int),i64 G->Out (λo=>bA o 0=Zh4 c O G) (M [I c.s0,I c.s1,I c.s2,I c.s3,I O,I G])):
  Yo M Z V (Ac K c)=some (I (CN K c).1::Ac K (CN K c).2):=by
 rw[Z00];have L:=W6 h X Y;unfold CN Hf;refine eC (λa=> ?_) λa=> ?_
 ·rw[ac (show(Dz c).aN=true from a)];refine eC (λb=>eC (λe=> ?_) λe=> ?_) λb=> ?_
  ·rw[ac (show(Dz c).cnt>1/\(Dz c).aJ=true from⟨Ba b,e⟩)];exact eB (N (Dz c)) rfl
  ·simp_all [Dz]
  rw[ab (show¬((Dz c).cnt>1/\(Dz c).aJ=true)from λq=>B0 b q.1)];rfl
 rw[ab (show¬(Dz c).aN=true by simp_all [Dz])];refine eT (inM (f:=Aq) X Y) ?_;rw[O4 X Y];rw[show(Dz c).idx=c.idx from rfl];refine eC (λb=> ?_) λb=> ?_
 ·have b:(mkK K c.idx).aP≠3:=by simpa [gA,nth,Af]using b
  rw[ac b];exact eB (N (Dz c)) rfl
 have b:(mkK K c.idx).aP=3:=by simpa [gA,nth,Af]using b
 rw[ab];refine eT (inM (f:=Ag) (l:=K.aA) (i:=(mkK K c.idx).aU) L.1 L.2.1) ?_;have er:nth [] (K.aA.map Ag) (gA (Aq (mkK K c.idx)) 2).toNat=Ag (itK K (mkK K c.idx).aU):=Km L.1 L.2.1;rw[er];have U:(itK K (mkK K c.idx).aU).aP=8->i64 (itK K (mkK K c.idx).aU).aS:=λD=>by
  have:=Zyy h (mkK K c.idx).aU.toNat;rw[Km L.1 L.2.1]at this;exact this D
 generalize itK K (mkK K c.idx).aU=it at*;refine eC (λk=> ?_) λk=> ?_
 ·have k:it.aP=7:=eq_of_beq k;rw[ac k];refine eC (λq=> ?_) λq=> ?_
  ·rw[ac (show(Dz c).cnt<it.n from Ba q)];rfl
  rw[ab (show¬(Dz c).cnt<it.n from B0 q)];exact eB (N (Dz c)) rfl
 have k:it.aP≠7:=by simpa [gA,nth,Af]using k
 rw[ab k];refine eC (λD=> ?_) λD=> ?_
 ·have D:it.aP=8:=eq_of_beq D;rw[ac D];refine eB (hC (Dz c) it.n it.aS (U D)) ?_;obtain⟨o,h5,h6⟩:=hR (Jt (Dz c) it.n it.aS) it.n it.aS (U D);refine eB h5 ?_;rw[<-h6];refine eC (λq=> ?_) λq=> ?_
  ·rw[ab (show¬bA o 0=true by simp_all)];rfl
  rw[ac (show bA o 0=true by simp_all)];exact eB (N (Jt (Dz c) it.n it.aS)) rfl
 have D:it.aP≠8:=by simpa [gA,nth,Af]using D
 rw[ab D];refine eC (λk=> ?_) λk=> ?_
 ·rw[ac (show it.aP=14 from eq_of_beq k)];rfl
 rw[ab (show it.aP≠14 by simp_all [gA,nth,Af])];exact eB (N (Dz c)) rfl
def Qdz {l:Option (List AC)} (h:l.isSome=true):l=some (l.getD []):=by
 cases l with
 |none=>cases h
 |some o=>rfl
def Zv8 (c:Cv) (G:Int) {D:Int} (h:i64 D):OG [I c.s0,I c.s1,I c.s2,I c.s3,I G,I D]=some (Q0 c G D):=Qdz (Zte _ _ _ _ _ h)
def Z1k (K:Kf) (c:Cv):SN (Ac K c)=some (I 3::Ac K (Im c)):=Z06 K c
def Qwk {c:Cv} (h:KOK K) (G:0<=c.idx) (L:c.idx<K.p.aD.length):PM (Ac K c)=some (I (CN K c).1::Ac K (CN K c).2):=
 Yak h G L (Z1k K) (λc D _ h=>Zv8 c D h) λc D M h=>⟨_,Qdz (Yca _ _ _ _ _ h),rfl⟩
def Ft (K:Kf) (c:Cv) (i:Int):Bool:=
 if(mkK K i).aP=1\/(mkK K i).aP=2\/(mkK K i).aP=6 then c.o3 else if(mkK K i).aP=4 then true
 else if(mkK K i).aP=3 then((itK K (mkK K i).aU).aP==11||(itK K (mkK K i).aU).aP==12)else false
def Fx (K:Kf) (c:Cv) (i:Int):Int×Cv:=CN K {c with on:=true,idx:=i,aN:=Ft K c i,cnt:=0}
def Z7l {c:Cv} (h:KOK K) (G:0<=a) (L:a<K.p.aD.length)
  (Y:M (Ac K {c with on:=true,idx:=a,aN:=Ft K c a,cnt:=0})=some (I (CN K {c with on:=true,idx:=a,aN:=Ft K c a,cnt:=0}).1::Ac K (CN K {c with on:=true,idx:=a,aN:=Ft K c a,cnt:=0}).2)):
  Qed M (I a::Ac K c)=some (I (Fx K c a).1::Ac K (Fx K c a).2):=by
 rw[Yd9];have D:=W6 h G L;unfold Fx;refine eT (inM (f:=Aq) G L) ?_;rw[O4 G L];have fin:∀{w:Bool} {f:List AC->List AC},w=Ft K c a->(∀(m:Int) (c:Cv),f (I m::Ac K c)=I m::Ac K c)->((M (Ac K {c with on:=true,idx:=a,aN:=w,cnt:=0})).bind λo=>some (f o))=some (I (CN K {c with on:=true,idx:=a,aN:=Ft K c a,cnt:=0}).1::Ac K (CN K {c with on:=true,idx:=a,aN:=Ft K c a,cnt:=0}).2):=λN hf=>by grind
 have ne:∀{n:Int},(gA (Aq (mkK K a)) 1==n)=false->(mkK K a).aP≠n:=λe=>by simp_all [gA,nth,Af]
 have O:∀{n:Int},(gA (Aq (mkK K a)) 1==n)=true->(mkK K a).aP=n:=λe=>eq_of_beq e;refine eC (λe=>fin (by simp_all [Ft]) λ_ _=>rfl) λn1=> ?_;refine eC (λe=>fin (by simp_all [Ft]) λ_ _=>rfl) λn2=> ?_;refine eC (λe=>fin (by simp_all [Ft]) λ_ _=>rfl) λn6=> ?_;have U: ¬((mkK K a).aP=1\/(mkK K a).aP=2\/(mkK K a).aP=6):=by
  intro q;rcases q with q|q|q
  ·simp_all
  ·simp_all
  simp_all
 refine eC (λe=>fin (by simp_all [Ft]) λ_ _=>rfl) λV=> ?_;refine eC (λe=> ?_) λn3=>fin (by simp_all [Ft]) λ_ _=>rfl;refine eT (inM (f:=Ag) (l:=K.aA) (i:=(mkK K a).aU) D.1 D.2.1) ?_;have X:nth [] (K.aA.map Ag) (gA (Aq (mkK K a)) 2).toNat=Ag (itK K (mkK K a).aU):=Km D.1 D.2.1;rw[X];have N:Ft K c a=((itK K (mkK K a).aU).aP==11||(itK K (mkK K a).aU).aP==12):=by unfold Ft;rw[ab U,ab (ne V),ac (O e)]
 refine eC (λk=>fin (by rw[N,show((itK K (mkK K a).aU).aP==11)=true from k];rfl) λ_ _=>rfl) λk=>fin (by rw[N,show((itK K (mkK K a).aU).aP==11)=false from k];rfl) λ_ _=>rfl
def Z2n {c:Cv} (h:KOK K) (D:0<=a) (G:a<K.p.aD.length):TJ (I a::Ac K c)=some (I (Fx K c a).1::Ac K (Fx K c a).2):=
 Z7l h D G (Qwk h D G)
end Go.Bm
