/- laid together -/
import Derived.Test.YtnnpdlgenmnekaaGreatDoorPrV
import Derived.Test.YtnnpdlgenmnekaaGreatDoorMx3
set_option linter.unusedVariables false
set_option linter.unusedSimpArgs false
set_option maxRecDepth 100000
open Go.IntKind (wrap)
variable {i A j:Nat} {M Z W V T S H:Go.Bm.Fn} {a b q:Go.Bm.Pt} {p:Go.Bm.Pth} {t:Go.Bm.Trk} {u d r X Y:Int} {Q:Int->Go.Bm.Pt->Prop} {N:Go.Bm.Lp} {z o:List Go.Bm.Itm}
namespace Go.Bm
theorem Zv7 (p:Pt):NT [I p.x,I p.y,I p.z]=some [B (decide (bd 1048576 p))]:=by
 unfold NT;rw[Zwn];simp only[go_sem];by_cases h:bd 1048576 p
 ·obtain⟨O,S,T⟩:=h;rw[ab,ab,ab,ab,ab,ab];congr 3;symm;exact ah ⟨O,S,T⟩
 ·have e:decide (bd 1048576 p)=false:=al h;rw[e];unfold bd at h;by_cases D:p.x< -1048576
  ·rw[aa D]
  rw[ab D];by_cases G:p.x>1048576
  ·rw[aa G]
  rw[ab G];by_cases L:p.y< -1048576
  ·rw[aa L]
  rw[ab L];by_cases M:p.y>1048576
  ·rw[aa M]
  rw[ab M];by_cases N:p.z< -1048576
  ·rw[aa N]
  rw[ab N,aa]
def axI (pl:Int):Int×Int×Int:=if pl=17 then(0,1,2)else if pl=18 then(2,0,1)else if pl=19 then(1,2,0)else(0,0,0)
theorem Qiu (pl:Int):FE [I pl]=some [I (axI pl).1,I (axI pl).2.1,I (axI pl).2.2,B (decide (BX pl))]:=by
 unfold FE;rw[Ybd];simp only[go_sem];unfold axI BX;by_cases D:pl=17
 ·rw[aa D,aa D];simp[D]
 rw[ab D,ab D];by_cases G:pl=18
 ·rw[aa G,aa G];simp[G]
 rw[ab G,ab G];by_cases L:pl=19
 ·rw[aa L,aa L];simp[L]
 rw[ab L,ab L];simp[D,G,L]
theorem Ygw (G:∀pl:Int,M [I pl]=some [I (axI pl).1,I (axI pl).2.1,I (axI pl).2.2,B (decide (BX pl))]) {p:Pt} {pl:Int} (D:BX pl):
  VQ M [I p.x,I p.y,I p.z,I pl]=some [I (plU pl p),I (plW pl p),I (plH pl p)]:=by
 rw[Yiq];simp only[go_sem,G];rw[ab (by simpa using D)];rcases D with rfl|rfl|rfl<;>rfl
theorem Q0f (D:BX u):H9 [I a.x,I a.y,I a.z,I u]=some [I (plU u a),I (plW u a),I (plH u a)]:=Ygw Qiu D
def Av (p:Pt):Pt:=⟨p.x*16,p.y*16,p.z*16⟩
theorem DA (h:bd i a):bd (i*16) (Av a):=by
 obtain⟨D,G,I⟩:=h;unfold Av;exact⟨by simp only;omega,by simp only;omega,by simp only;omega⟩
theorem Ut (pl:Int) (p:Pt):plU pl (Av p)=plU pl p*16/\plW pl (Av p)=plW pl p*16/\plH pl (Av p)=plH pl p*16:=by
 unfold plU plW plH Av;refine⟨?_,?_,?_⟩<;>split<;>(try split)<;>rfl
theorem Q8o (h:bd 100000000 a):HD [I a.x,I a.y,I a.z]=some (ptR (Av a)):=by
 unfold HD;rw[Zum];obtain⟨D,G,L⟩:=h;rw[Ad,Ad,Ad];rfl
theorem Qf4 (h:bd 100000000 a):Ek [I a.x,I a.y,I a.z]=some (ptR (Av a)):=by
 unfold Ek;rw[Zqd];obtain⟨D,G,L⟩:=h;rw[Ad,Ad,Ad];rfl
theorem Qmr {u w r h x y s g:Int} (D:u.natAbs<=1000000000) (G:w.natAbs<=1000000000) (L:x.natAbs<=1000000000) (M:y.natAbs<=1000000000):GQ [I u,I w,I r,I h,I x,I y,I s,I g]=some [I (dt2 u w x y)]:=by
 unfold GQ;rw[Z6s];have N:=ER D L;have O:=ER G M;unfold dt2;rw[Ad (x:=u*x),Ad (x:=w*y),Ad]
theorem Qp7 {u w r h x y s g:Int} (D:u.natAbs<=1000000000) (G:w.natAbs<=1000000000) (L:x.natAbs<=1000000000) (M:y.natAbs<=1000000000):Hc [I u,I w,I r,I h,I x,I y,I s,I g]=some [I (crs u w x y)]:=by
 unfold Hc;rw[Zuq];have N:=ER D M;have O:=ER G L;unfold crs;rw[Ad (x:=u*y),Ad (x:=w*x),Ad]
theorem Zms (N:∀{a b c d:Int},i64 a->i64 b->i64 c->i64 d->M [I a,I b,I c,I d]=some [I (FF (a*b) (c*d))]) {X Y:Int} (O:64<=X/\X<=1000000000000000) (S:64<=Y/\Y<=1000000000000000):
  ∃v,Y0 M [I X,I Y]=some [B v]/\(v=true↔Ff X Y):=by
 rw[Zy8,Zmk O.1 S.1];have G:mx X Y=max X Y:=by unfold mx;rw[Int.max_def];split<;>split<;>omega
 have L:mn X Y=min X Y:=by unfold mn;rw[Int.min_def];split<;>split<;>omega
 have T:max X Y<=1000000000000000/\64<=max X Y:=by omega
 have U:min X Y<=1000000000000000/\64<=min X Y:=by omega
 rw[G,L];generalize max X Y=a at*;generalize min X Y=b at*;simp only[go_sem];rw[Ad (x:=a-b),Ad (x:=a-b-16)];by_cases D:a-b-16<=0
 ·rw[aa D];exact⟨_,rfl,fv rfl (.inl D)⟩
 ·rw[ab D,N (by unfold i64;omega) (by unfold i64;omega) (by unfold i64;omega) (by unfold i64;omega)];refine⟨_,rfl,?_⟩;simp only[go_sem,cg,Za7];exact⟨λh=> .inr h,λh=>h.resolve_left D⟩
theorem Zqc (D:64<=X/\X<=1000000000000000) (G:64<=Y/\Y<=1000000000000000):∃v,QH [I X,I Y]=some [B v]/\(v=true↔Ff X Y):=Zms Yeb D G
theorem Z9o {it:Itm} (G:∀p:Pt,M [I p.x,I p.y,I p.z,I it.aG]=some [I (plU it.aG p),I (plW it.aG p),I (plH it.aG p)]) (L:∀{p:Pt},bd 100000000 p->Z [I p.x,I p.y,I p.z]=some (ptR (Av p)))
  (T:bd 1048576 it.fr) (U:bd 1048576 it.to) (V:bd 1048576 it.ce):
  Zg M Z (Al (Qt9 M Z)) (Af it)=some [I (dU it it.fr*16),I (dW it it.fr*16),I 0,I (plH it.aG it.fr*16),I (dU it it.to*16),I (dW it it.to*16),I 0,I (plH it.aG it.to*16)]:=by
 rw[Z46];obtain⟨q1,q2,q3⟩:=D8 (pl:=it.aG) T;obtain⟨q4,q5,q6⟩:=D8 (pl:=it.aG) U;obtain⟨q7,q8,q9⟩:=D8 (pl:=it.aG) V;simp only[L (AI V (by omega)),G,go_sem];have w0:O (0+1)=1:=Ad;have X:O (1+1)=2:=Ad;have N:=Ut it.aG it.fr;have S:=Ut it.aG it.to;have D:=Ut it.aG it.ce;have Y:O (plU it.aG (Av it.fr)-plU it.aG (Av it.ce))=dU it it.fr*16:=by rw[N.1,D.1];unfold dU;rw[Ad];omega
 have u2:O (plW it.aG (Av it.fr)-plW it.aG (Av it.ce))=dW it it.fr*16:=by rw[N.2.1,D.2.1];unfold dW;rw[Ad];omega
 have u3:O (plU it.aG (Av it.to)-plU it.aG (Av it.ce))=dU it it.to*16:=by rw[S.1,D.1];unfold dU;rw[Ad];omega
 have u4:O (plW it.aG (Av it.to)-plW it.aG (Av it.ce))=dW it it.to*16:=by rw[S.2.1,D.2.1];unfold dW;rw[Ad];omega
 have b1:bd 100000000 it.fr:=AI T (by omega);have b2:bd 100000000 it.to:=AI U (by omega);have e1:=L b1;have e2:=L b2;rw[AS (by rw[Qsh];simp only[go_sem,e1,e2,G,Y,u2,w0];rfl),AS (by rw[Qsh];simp only[go_sem,e1,e2,G,u3,u4,X];rfl),
  AJ (o:=(1,_)) (by rw[Qsh];simp only[go_sem];rfl) (by simp)]
 simp only[go_sem,N.2.2,S.2.2]
theorem Zh5 {it:Itm} (D:BX it.aG) (G:bd 1048576 it.fr) (L:bd 1048576 it.to) (M:bd 1048576 it.ce):
  KH (Af it)=some [I (dU it it.fr*16),I (dW it it.fr*16),I 0,I (plH it.aG it.fr*16),I (dU it it.to*16),I (dW it it.to*16),I 0,I (plH it.aG it.to*16)]:=
 Z9o (λ_=>Q0f D) Q8o G L M
theorem Yjg {T:Fn} {X Y C D N U S V:Int} {bG:Bool} (hX:0<=X/\X<=1000000000000000) (hY:0<=Y/\Y<=1000000000000000)
  (hN:∀{X Y:Int},(64<=X/\X<=1000000000000000)->(64<=Y/\Y<=1000000000000000)->∃v,T [I X,I Y]=some [B v]/\(v=true↔Ff X Y)):
  ∃ v, (if X * 256 < O (128 * 128) then some [B false] else if Y * 256 < O (128 * 128) then some [B false] else
   (T [I (O ((X*256).tdiv 256)),I (O ((Y*256).tdiv 256))]).bind λo=>
   if¬Fb (nth .vD o 0)=true then some [B false]else if bG=true then if N*16=S*16 then some [B (U*16==V*16)]else some [B false]else if C*256≠0 then some [B true]else some [B (decide (D*256<0))])=some [B v]/\
   (v=true↔64<=X/\64<=Y/\Ff X Y/\(bG=true->N=S/\U=V)/\(bG=false->C≠0\/D<0)):=by
 rw[Ad (x:=128*128),Int.mul_tdiv_cancel _ (by omega),Int.mul_tdiv_cancel _ (by omega),Ad (x:=X),Ad (x:=Y)];by_cases c1:X*256<128*128
 ·rw[aa c1];exact⟨_,rfl,dg (by simp) λh=>by omega⟩
 rw[ab c1];by_cases c2:Y*256<128*128
 ·rw[aa c2];exact⟨_,rfl,dg (by simp) λh=>by omega⟩
 rw[ab c2];obtain⟨v,h1,h2⟩:=hN (X:=X) (Y:=Y) (by omega) (by omega);simp only[h1,go_sem];by_cases M:v=true
 case neg=>rw[aa M];exact⟨_,rfl,dg (by simp) λh=>M (h2.2 h.2.2.1)⟩
 rw[ab (by simpa using M)];have G:=h2.1 M;cases bG with
 |true=>
  rw[aa rfl];by_cases L:N*16=S*16
  ·rw[aa L];refine⟨_,rfl,?_⟩;simp only[beq_iff_eq];exact⟨λh=>⟨by omega,by omega,G,λ_=>⟨by omega,by omega⟩,λh=>by simp at h⟩,λh=>by have:=(h.2.2.2.1 trivial).2;omega⟩
  ·rw[ab L];exact⟨_,rfl,dg (by simp) λh=>L (by have:=(h.2.2.2.1 rfl).1;omega)⟩
 |false=>
  rw[ab (by simp)];by_cases L:C*256≠0
  ·rw[aa L];exact⟨_,rfl,fv rfl ⟨by omega,by omega,G,λh=>by simp at h,λ_=> .inl (by omega)⟩⟩
  ·rw[ab L];refine⟨_,rfl,?_⟩;simp only[cg];exact⟨λh=>⟨by omega,by omega,G,λh=>by simp at h,λ_=> .inr (by omega)⟩,λh=>by have:=(h.2.2.2.2 trivial);omega⟩
theorem Zak (a b c d:Int):dt2 (a*16) (b*16) (c*16) (d*16)=dt2 a b c d*256/\crs (a*16) (b*16) (c*16) (d*16)=crs a b c d*256:=by
 unfold dt2 crs;constructor<;>grind
theorem Zsy (hA:∀pl:Int,S [I pl]=some [I (axI pl).1,I (axI pl).2.1,I (axI pl).2.2,B (decide (BX pl))]) (hW:∀p:Pt,H [I p.x,I p.y,I p.z]=some [B (decide (bd 1048576 p))])
  {it:Itm} (hE:BX it.aG->bd 1048576 it.fr->bd 1048576 it.to->bd 1048576 it.ce->V (Af it)=some [I (dU it it.fr*16),I (dW it it.fr*16),I 0,I (plH it.aG it.fr*16),I (dU it it.to*16),I (dW it it.to*16),I 0,I (plH it.aG it.to*16)])
  (hD:∀{u w r h x y s g:Int},u.natAbs<=1000000000->w.natAbs<=1000000000->x.natAbs<=1000000000->y.natAbs<=1000000000->W [I u,I w,I r,I h,I x,I y,I s,I g]=some [I (dt2 u w x y)])
  (hX:∀{u w r h x y s g:Int},u.natAbs<=1000000000->w.natAbs<=1000000000->x.natAbs<=1000000000->y.natAbs<=1000000000->M [I u,I w,I r,I h,I x,I y,I s,I g]=some [I (crs u w x y)])
  (hN:∀{X Y:Int},(64<=X/\X<=1000000000000000)->(64<=Y/\Y<=1000000000000000)->∃v,Z [I X,I Y]=some [B v]/\(v=true↔Ff X Y)):
  ∃v,Qsd M Z W V S H (Af it)=some [B v]/\(v=true↔BI it):=by
 rw[Z5r];simp only[go_sem,hW,hA];by_cases c1:it.aP<1
 ·rw[aa c1];exact⟨_,rfl,dg (by simp) λh=>by have:=h.1;omega⟩
 rw[ab c1];by_cases U:it.aP>6
 ·rw[aa U];exact⟨_,rfl,dg (by simp) λh=>by have:=h.1;omega⟩
 rw[ab U];by_cases G:bd 1048576 it.fr
 case neg=>rw[aa (by simpa using G)];exact⟨_,rfl,dg (by simp) λh=>G h.2.1⟩
 rw[ab (by simpa using G)];by_cases L:bd 1048576 it.to
 case neg=>rw[aa (by simpa using L)];exact⟨_,rfl,dg (by simp) λh=>L h.2.2.1⟩
 rw[ab (by simpa using L)];by_cases N:it.aP=3
 case neg=>rw[aa N];exact⟨_,rfl,fv rfl ⟨by omega,G,L,λh=>absurd h N⟩⟩
 rw[ab (by simpa using N)];by_cases c5:BX it.aG
 case neg=>rw[aa (by simpa using c5)];exact⟨_,rfl,dg (by simp) λh=>c5 (h.2.2.2 N).1⟩
 rw[ab (by simpa using c5)];by_cases D:bd 1048576 it.ce
 case neg=>
  refine⟨false,?_,dg (by simp) λh=>D (h.2.2.2 N).2.2.1⟩;split
  ·split
   ·rfl
   ·first|rfl|(rw[aa D])
  ·first|rfl|(rw[aa D])
 by_cases c6:it.dir=1\/it.dir= -1
 case neg=>
  rw[aa (c:=it.dir≠1),aa (c:=it.dir≠-1)];exact⟨false,rfl,dg (by simp) λh=>c6 (h.2.2.2 N).2.1⟩
 have O:=hE c5 G L D;obtain⟨b1,b2⟩:=Oi (it:=it) D G;obtain⟨b3,b4⟩:=Oi (it:=it) D L;simp only[Af]at O;have x1:=VB b1 b2;have x2:=VB b3 b4;have core:BI it↔64<=qA it/\64<=qB it/\Ff (qA it) (qB it)/\(it.bG=true->dU it it.fr=dU it it.to/\dW it it.fr=dW it it.to)/\(it.bG=false->cAB it≠0\/dAB it<0):=
  ⟨λh=>(h.2.2.2 N).2.2.2,λh=>⟨by omega,G,L,λ_=>⟨c5,c6,D,h⟩⟩⟩
 rw[core];have a0:0<=qA it/\qA it<=1000000000000000:=⟨x1.1,by unfold qA;omega⟩;have a1:0<=qB it/\qB it<=1000000000000000:=⟨x2.1,by unfold qB;omega⟩;have D1:= @hD (dU it it.fr*16) (dW it it.fr*16) 0 (plH it.aG it.fr*16) (dU it it.fr*16) (dW it it.fr*16) 0 (plH it.aG it.fr*16) (by omega) (by omega) (by omega) (by omega);have D2:= @hD (dU it it.to*16) (dW it it.to*16) 0 (plH it.aG it.to*16) (dU it it.to*16) (dW it it.to*16) 0 (plH it.aG it.to*16) (by omega) (by omega) (by omega) (by omega);have D3:= @hD (dU it it.fr*16) (dW it it.fr*16) 0 (plH it.aG it.fr*16) (dU it it.to*16) (dW it it.to*16) 0 (plH it.aG it.to*16) (by omega) (by omega) (by omega) (by omega);have D4:= @hX (dU it it.fr*16) (dW it it.fr*16) 0 (plH it.aG it.fr*16) (dU it it.to*16) (dW it it.to*16) 0 (plH it.aG it.to*16) (by omega) (by omega) (by omega) (by omega);rw[(Zak _ _ _ _).1]at D1 D2 D3;rw[(Zak _ _ _ _).2]at D4;have e1:dt2 (dU it it.fr) (dW it it.fr) (dU it it.fr) (dW it it.fr)=qA it:=rfl;have e2:dt2 (dU it it.to) (dW it it.to) (dU it it.to) (dW it it.to)=qB it:=rfl;have e3:dt2 (dU it it.fr) (dW it it.fr) (dU it it.to) (dW it it.to)=dAB it:=rfl;have e4:crs (dU it it.fr) (dW it it.fr) (dU it it.to) (dW it it.to)=cAB it:=rfl;rw[e1]at D1;rw[e2]at D2;rw[e3]at D3;rw[e4]at D4;have T:= @Yjg Z (qA it) (qB it) (cAB it) (dAB it) (dU it it.fr) (dW it it.fr) (dU it it.to) (dW it it.to) it.bG a0 a1 hN;have n7: ¬ ¬bd 1048576 it.ce:=λh=>h D;by_cases d1:it.dir=1
 ·rw[ab (c:=it.dir≠1) (λh=>h d1),ab n7];simp only[O,go_sem,D1,D2,D3,D4];exact T
 ·rw[aa (c:=it.dir≠1) d1,ab (c:=it.dir≠-1),ab n7];simp only[O,go_sem,D1,D2,D3,D4];exact T
theorem Qr5 (it:Itm):∃v,G1 (Af it)=some [B v]/\(v=true↔BI it):=
 Zsy Qiu Zv7 (λD G I L=>Zh5 D G I L) Qmr Qp7 Zqc
def okS (s:Spk):Prop:=s.u.natAbs<=50000000/\s.w.natAbs<=50000000/\(0<=s.r/\s.r<=50000000)/\s.h.natAbs<=16777216
def hf (a b:Int):Int:=(a+b+1)/2
theorem Zdk (D:u.natAbs<=100000000) (hb:d.natAbs<=100000000):NF [I u,I d]=some [I (hf u d)]:=by
  unfold NF;rw[Zlx,Ad (x:=u+d),Ad (x:=u+d+1)];have e:(2^min (Int.toNat 1) IntKind.i64.bits:Int)=2:=rfl;rw[e,dq _ (by omega)];rfl
def BE (a b:Spk) (dir:Int) (bG:Bool):Int×Int:=
  if bG=true then(-a.u,-a.w)
  else if 0<dt2 a.u a.w b.u b.w/\0<crs a.u a.w b.u b.w*dir then(a.u+b.u,a.w+b.w)
  else if 0<dt2 a.u a.w b.u b.w then(-(a.u+b.u),-(a.w+b.w))
  else(dir*(b.w-a.w),dir*(a.u-b.u))
noncomputable def ED (a b:Spk) (u w:Int):Spk:=if u=0/\w=0 then⟨0,0,0,0⟩else⟨A9 u (hf a.r b.r) (sq2 u w),A9 w (hf a.r b.r) (sq2 u w),hf a.r b.r,hf a.h b.h⟩
noncomputable def B9 (a b:Spk) (dir:Int) (bG:Bool):Spk:=ED a b (BE a b dir bG).1 (BE a b dir bG).2
theorem KD {a b:Spk} (D:okS a) (hb:okS b) {dir:Int} (G:dir=1\/dir= -1) (bG:Bool):(BE a b dir bG).1.natAbs<=100000000/\(BE a b dir bG).2.natAbs<=100000000:=by
  obtain⟨a1,a2,-⟩:=D;obtain⟨b1,b2,-⟩:=hb;unfold BE;split
  · exact⟨by simp only;omega,by simp only;omega⟩
  · split
    · exact⟨by simp only;omega,by simp only;omega⟩
    · split
      · exact⟨by simp only;omega,by simp only;omega⟩
      · rcases G with rfl|rfl
        · exact⟨by simp only;omega,by simp only;omega⟩
        · exact⟨by simp only;omega,by simp only;omega⟩
theorem Qrb (u w:Int):u*u<=sq2 u w/\w*w<=sq2 u w:=by
  have D:=EY u;have G:=EY w;unfold sq2;omega
theorem Qg {u w:Int} (h: ¬(u=0/\w=0)):0<sq2 u w:=by
  have I:=EY u;have L:=EY w;have z:∀u:Int,u*u=0->u=0:=λu G=>by
    rcases Int.mul_eq_zero.1 G with h|h<;>exact h
  have M: ¬(u*u=0/\w*w=0):=λD=>h ⟨z _ D.1,z _ D.2⟩;unfold sq2;omega
theorem TM (D:0<=u/\u<=50000000) (hb:0<=d/\d<=50000000):0<=hf u d/\hf u d<=50000000:=by unfold hf;omega
theorem Zod (D:u.natAbs<=16777216) (hb:d.natAbs<=16777216):(hf u d).natAbs<=16777216:=by unfold hf;omega
theorem Ykh {u w r:Int} (D:u.natAbs<=100000000) (G:w.natAbs<=100000000) (T:0<=r/\r<=50000000) (h: ¬(u=0/\w=0)):
    (HX [I u,I r,I (sq2 u w)]=some [I (A9 u r (sq2 u w))]/\(A9 u r (sq2 u w)).natAbs<=r.natAbs)/\(HX [I w,I r,I (sq2 u w)]=some [I (A9 w r (sq2 u w))]/\(A9 w r (sq2 u w)).natAbs<=r.natAbs):=by
  have U:=Qg h;have V:=B7 D;have X:=B7 G;have Y:sq2 u w<=20000000000000000:=by unfold sq2;omega
  obtain⟨L,M⟩:=Qrb u w;have key:∀x:Int,x.natAbs<=100000000->x*x<=sq2 u w->HX [I x,I r,I (sq2 u w)]=some [I (A9 x r (sq2 u w))]/\(A9 x r (sq2 u w)).natAbs<=r.natAbs:=by
    intro x N O;obtain⟨g1,-,S⟩:=Q6b (x:=x) (r:=r) (n:=sq2 u w) (bj N (by decide)) (by omega) (by omega) O;refine⟨g1,X4 (by omega) ?_ S⟩;have:((x.natAbs*x.natAbs:Nat):Int)=x*x:=d7;omega
  exact⟨key u D L,key w G M⟩
theorem Qkp {u w r:Int} (D:u.natAbs<=100000000) (G:w.natAbs<=100000000) (S:0<=r/\r<=50000000) (h: ¬(u=0/\w=0)):(A9 u r (sq2 u w)).natAbs<=r.natAbs/\(A9 w r (sq2 u w)).natAbs<=r.natAbs:=by
  have T:=Qg h;have U:=B7 D;have V:=B7 G;have X:sq2 u w<=20000000000000000:=by unfold sq2;omega
  obtain⟨I,L⟩:=Qrb u w;have key:∀x:Int,x.natAbs<=100000000->x*x<=sq2 u w->(A9 x r (sq2 u w)).natAbs<=r.natAbs:=by
    intro x M N;have O:=(VA (x:=x) (r:=r) (n:=sq2 u w) (bj M (by decide)) (by omega) (by omega) N).2;refine X4 (by omega) ?_ O;have:((x.natAbs*x.natAbs:Nat):Int)=x*x:=d7;omega
  exact⟨key u D I,key w G L⟩
theorem Zm6 {a b:Spk} (D:okS a) (hb:okS b) {u w:Int} (I:u.natAbs<=100000000) (L:w.natAbs<=100000000):okS (ED a b u w):=by
  unfold ED;split
  · exact⟨by simp,by simp,by simp,by simp⟩
  · rename_i h
    have G:=TM D.2.2.1 hb.2.2.1;obtain⟨M,N⟩:=Qkp I L G h;exact⟨by simp only;omega,by simp only;omega,G,Zod D.2.2.2 hb.2.2.2⟩
theorem Tn {a b:Spk} (D:okS a) (hb:okS b) {dir:Int} (G:dir=1\/dir= -1) (bG:Bool):okS (B9 a b dir bG):=
  Zm6 D hb (KD D hb G bG).1 (KD D hb G bG).2
theorem Ycs {MN MH:Fn} {a b:Spk} {u w:Int} (T:u.natAbs<=100000000) (U:w.natAbs<=100000000) (V:MH [I a.r,I b.r]=some [I (hf a.r b.r)]) (X:MH [I a.h,I b.h]=some [I (hf a.h b.h)])
    (Y: ¬(u=0/\w=0)->MN [I u,I (hf a.r b.r),I (sq2 u w)]=some [I (A9 u (hf a.r b.r) (sq2 u w))]/\MN [I w,I (hf a.r b.r),I (sq2 u w)]=some [I (A9 w (hf a.r b.r) (sq2 u w))]):
    (bif u == 0 then
      bif w==0 then some [AC.int IntKind.i64 0,AC.int IntKind.i64 0,AC.int IntKind.i64 0,AC.int IntKind.i64 0,AC.bool false]
      else(MH [AC.int IntKind.i64 a.r,AC.int IntKind.i64 b.r]).bind λD=>
       (MN [AC.int IntKind.i64 u,AC.int IntKind.i64 (Ah (nth AC.vD D 0)),AC.int IntKind.i64 (O (O (u*u)+O (w*w)))]).bind λG=>
       (MN [AC.int IntKind.i64 w,AC.int IntKind.i64 (Ah (nth AC.vD D 0)),AC.int IntKind.i64 (O (O (u*u)+O (w*w)))]).bind λL=>
       (MH [AC.int IntKind.i64 a.h,AC.int IntKind.i64 b.h]).bind λM=>
       some [AC.int IntKind.i64 (Ah (nth AC.vD G 0)),AC.int IntKind.i64 (Ah (nth AC.vD L 0)),AC.int IntKind.i64 (Ah (nth AC.vD D 0)),AC.int IntKind.i64 (Ah (nth AC.vD M 0)),AC.bool true]
     else(MH [AC.int IntKind.i64 a.r,AC.int IntKind.i64 b.r]).bind λD=>
       (MN [AC.int IntKind.i64 u,AC.int IntKind.i64 (Ah (nth AC.vD D 0)),AC.int IntKind.i64 (O (O (u*u)+O (w*w)))]).bind λG=>
       (MN [AC.int IntKind.i64 w,AC.int IntKind.i64 (Ah (nth AC.vD D 0)),AC.int IntKind.i64 (O (O (u*u)+O (w*w)))]).bind λL=>
       (MH [AC.int IntKind.i64 a.h,AC.int IntKind.i64 b.h]).bind λM=>
       some [AC.int IntKind.i64 (Ah (nth AC.vD G 0)),AC.int IntKind.i64 (Ah (nth AC.vD L 0)),AC.int IntKind.i64 (Ah (nth AC.vD D 0)),AC.int IntKind.i64 (Ah (nth AC.vD M 0)),AC.bool true])=
    some (AW (ED a b u w)++[B (decide (¬(u=0/\w=0)))]):=by
  have q1:=B7 T;have q2:=B7 U;have e:O (O (u*u)+O (w*w))=sq2 u w:=by
    unfold sq2;generalize u*u=x at*;generalize w*w=y at*;rw[Ad (x:=x),Ad (x:=y),Ad]
  simp only[go_sem,e,V,X];unfold ED;by_cases h:u=0/\w=0
  · rw[aa h.1,aa h.2,aa h]
    simp[h]
  · obtain⟨n1,n2⟩:=Y h
    rw[ab h];simp only[n1,n2,go_sem];have hd:decide (¬(u=0/\w=0))=true:=ah h;rw[hd];by_cases N:u=0
    · rw[aa N,ab (λS=>h ⟨N,S⟩)];try rfl
    · rw[ab N];try rfl
theorem Z5y {a b:Spk} (X:okS a) (hb:okS b) {dir:Int} (L:dir=1\/dir= -1) (bG:Bool)
    (h1:Z [I a.r,I b.r]=some [I (hf a.r b.r)]) (h2:Z [I a.h,I b.h]=some [I (hf a.h b.h)])
    (hN:∀{u w:Int},u.natAbs<=100000000->w.natAbs<=100000000-> ¬(u=0/\w=0)->M [I u,I (hf a.r b.r),I (sq2 u w)]=some [I (A9 u (hf a.r b.r) (sq2 u w))]/\M [I w,I (hf a.r b.r),I (sq2 u w)]=some [I (A9 w (hf a.r b.r) (sq2 u w))])
    (hC:W [I a.u,I a.w,I a.r,I a.h,I b.u,I b.w,I b.r,I b.h]=some [I (crs a.u a.w b.u b.w)]) (hD:V [I a.u,I a.w,I a.r,I a.h,I b.u,I b.w,I b.r,I b.h]=some [I (dt2 a.u a.w b.u b.w)])
    (a0:(crs a.u a.w b.u b.w).natAbs<=5000000000000000):
    Qqo M Z W V [I a.u,I a.w,I a.r,I a.h,I b.u,I b.w,I b.r,I b.h,I dir,B bG]=some (AW (B9 a b dir bG)++[B (decide (¬((BE a b dir bG).1=0/\(BE a b dir bG).2=0)))]):=by
  have key:=fun{u w:Int} (Y:u.natAbs<=100000000) (hw:w.natAbs<=100000000)=>Ycs (MN:=M) (MH:=Z) (a:=a) (b:=b) Y hw h1 h2 (hN Y hw);have N:=KD X hb L bG;obtain⟨a1,a2,-⟩:=X;obtain⟨b1,b2,-⟩:=hb;have w1:O (0-a.u)= -a.u:=by rw[Ad];omega
  have w2:O (0-a.w)= -a.w:=by rw[Ad];omega
  have w3:O (a.u+b.u)=a.u+b.u:=Ad;have w4:O (a.w+b.w)=a.w+b.w:=Ad;have w5:O (0-(a.u+b.u))= -(a.u+b.u):=by rw[Ad];omega
  have w6:O (0-(a.w+b.w))= -(a.w+b.w):=by rw[Ad];omega
  have w7:O (b.w-a.w)=b.w-a.w:=Ad;have w8:O (a.u-b.u)=a.u-b.u:=Ad;have w9:O (dir*(b.w-a.w))=dir*(b.w-a.w):=by rcases L with rfl|rfl<;>exact Ad
  have T:O (dir*(a.u-b.u))=dir*(a.u-b.u):=by rcases L with rfl|rfl<;>exact Ad
  have U:O (crs a.u a.w b.u b.w*dir)=crs a.u a.w b.u b.w*dir:=by rcases L with rfl|rfl<;>exact Ad
  rw[Zun];try dsimp only[go_sem]
  unfold B9;simp only[w1,w2,w3,w4,w5,w6,w7,w8,w9,T,hC,hD,am,F1,FP,gA,jA,wA,bA,U];have fin:∀{x:Option (List AC)},x=some (AW (ED a b (BE a b dir bG).1 (BE a b dir bG).2)++[B (decide (¬((BE a b dir bG).1=0/\(BE a b dir bG).2=0)))])->
      (bif dir !=1 then bif dir != -1 then some [AC.int IntKind.i64 0,AC.int IntKind.i64 0,AC.int IntKind.i64 0,AC.int IntKind.i64 0,AC.bool false]else x else x)=some (AW (ED a b (BE a b dir bG).1 (BE a b dir bG).2)++[B (decide (¬((BE a b dir bG).1=0/\(BE a b dir bG).2=0)))]):=by
    intro x hx;rcases L with rfl|rfl
    · rw[BZ (by decide)];exact hx
    · rw[BO (by decide),BZ (by decide)];exact hx
  refine fin ?_;have D:=key N.1 N.2;unfold BE at*;cases bG
  · simp only[aq,de,f9]at D⊢
    by_cases G:0<dt2 a.u a.w b.u b.w
    · rw[Cz (show dt2 a.u a.w b.u b.w>0 from G)]
      by_cases S:0<crs a.u a.w b.u b.w*dir
      · rw[Cz (show crs a.u a.w b.u b.w*dir>0 from S)]
        rw[aa ⟨G,S⟩]at D⊢;exact D
      · rw[AR (show¬crs a.u a.w b.u b.w*dir>0 from S),Cz (show dt2 a.u a.w b.u b.w>0 from G)]
        rw[ab (λh=>S h.2),aa G]at D⊢;exact D
    · rw[AR (show¬dt2 a.u a.w b.u b.w>0 from G),AR (show¬dt2 a.u a.w b.u b.w>0 from G)]
      rw[ab (λh=>G h.1),ab G]at D⊢;exact D
  · simp only[aj,ew]at D⊢
    exact D
theorem Dc {x:Int} (h:x.natAbs<=50000000):x.natAbs<=1000000000:=bj h (by decide)
theorem Z8h {a b:Spk} (D:okS a) (hb:okS b) {dir:Int} (G:dir=1\/dir= -1) (bG:Bool):
    Mx [I a.u,I a.w,I a.r,I a.h,I b.u,I b.w,I b.r,I b.h,I dir,B bG]=some (AW (B9 a b dir bG)++[B (decide (¬((BE a b dir bG).1=0/\(BE a b dir bG).2=0)))]):=by
  have L:=(Ui D.1 D.2.1 hb.1 hb.2.1).2;exact Z5y D hb G bG (Zdk (by have:=D.2.2.1;omega) (by have:=hb.2.2.1;omega)) (Zdk (bj D.2.2.2 (by decide)) (bj hb.2.2.2 (by decide)))
    (λM N h=>by obtain⟨⟨g1,-⟩,g2,-⟩:=Ykh M N (TM D.2.2.1 hb.2.2.1) h;exact⟨g1,g2⟩)
    (Qfu (Dc D.1) (Dc D.2.1) (Dc hb.1) (Dc hb.2.1)) (Qog (Dc D.1) (Dc D.2.1) (Dc hb.1) (Dc hb.2.1)) L
def EI (a b:Spk) (dir:Int) (bG:Bool):Prop:=bG=false/\0<crs a.u a.w b.u b.w*dir/\sq2 (a.u-b.u) (a.w-b.w)<=32*mn a.r b.r-64
theorem Z4c {r n:Int} (D:0<=r/\r<=50000000):NC [I r,I n]=some [B (decide (n<=32*r-64))]:=by
  unfold NC;rw[Zlh,Ad (x:=8*r),Ad (x:=8*r*4),Ad (x:=8*r*4-64),show 8*r*4-64=32*r-64 by omega]
instance {a b:Spk} {dir:Int} {bG:Bool}:Decidable (EI a b dir bG):=by unfold EI;infer_instance
theorem Yeg {a b:Spk} (L:okS a) (hb:okS b) {dir:Int} (T:dir=1\/dir= -1) (bG:Bool)
    (U:∀{r n:Int},(0<=r/\r<=50000000)->M [I r,I n]=some [B (decide (n<=32*r-64))])
    (V:Z [I a.u,I a.w,I a.r,I a.h,I b.u,I b.w,I b.r,I b.h]=some [I (crs a.u a.w b.u b.w)]) (X:(crs a.u a.w b.u b.w).natAbs<=5000000000000000):
    Qll M Z [I a.u,I a.w,I a.r,I a.h,I b.u,I b.w,I b.r,I b.h,I dir,B bG]=some [B (decide (EI a b dir bG))]:=by
  have Y:0<=mn a.r b.r/\mn a.r b.r<=50000000:=by
    have h1:=L.2.2.1;have h2:=hb.2.2.1;unfold mn;split<;>omega
  obtain⟨a1,a2,-⟩:=L;obtain⟨b1,b2,-⟩:=hb;have N:=Fk a1 b1;have S:=Fk a2 b2;have q1:=B7 N;have q2:=B7 S;have e:O (O ((a.u-b.u)*(a.u-b.u))+O ((a.w-b.w)*(a.w-b.w)))=sq2 (a.u-b.u) (a.w-b.w):=by
    unfold sq2;generalize(a.u-b.u)*(a.u-b.u)=x at*;generalize(a.w-b.w)*(a.w-b.w)=y at*;rw[Ad (x:=x),Ad (x:=y),Ad]
  have G:O (crs a.u a.w b.u b.w*dir)=crs a.u a.w b.u b.w*dir:=by rcases T with rfl|rfl<;>exact Ad
  rw[Zq0,Ey N (by decide),Ey S (by decide),e];cases bG
  · simp only[Bool.not_false,aj,V,am,F1,FP,gA,jA,wA,bA,G,U Y,R0]
    by_cases c:0<crs a.u a.w b.u b.w*dir
    · rw[Cz (show crs a.u a.w b.u b.w*dir>0 from c)]
      by_cases D:sq2 (a.u-b.u) (a.w-b.w)<=32*mn a.r b.r-64
      · rw[ah D,ah (show EI a b dir false from⟨rfl,c,D⟩)]
      · rw[al D,al (λh:EI a b dir false=>D h.2.2)]
    · rw[AR (show¬crs a.u a.w b.u b.w*dir>0 from c),al (λh:EI a b dir false=>c h.2.1)]
  · simp only[Bool.not_true,aq]
    rw[al (λh:EI a b dir true=>by cases h.1)]
theorem Znh {a b:Spk} (D:okS a) (hb:okS b) {dir:Int} (G:dir=1\/dir= -1) (bG:Bool):
    K6 [I a.u,I a.w,I a.r,I a.h,I b.u,I b.w,I b.r,I b.h,I dir,B bG]=some [B (decide (EI a b dir bG))]:=
  Yeg D hb G bG Z4c (Qfu (Dc D.1) (Dc D.2.1) (Dc hb.1) (Dc hb.2.1)) (Ui D.1 D.2.1 hb.1 hb.2.1).2
noncomputable def BM (dir:Int):Nat->Bool->Spk->Spk->List Spk
  |0,_,_,b=>[b]
  |k+1,bG,a,b=>if EI a b dir bG then [b]else BM dir k false a (B9 a b dir bG)++BM dir k false (B9 a b dir bG) b
theorem PO {dir:Int}:∀(k:Nat) (bG:Bool) (a b:Spk),1<=(BM dir k bG a b).length/\(BM dir k bG a b).length<=2^k
  |0,_,_,b=>by simp[BM]
  |k+1,bG,a,b=>by
    have D:0<2^k:=dv _;have e3:2^(k+1)=2^k+2^k:=by rw[dw];omega
    unfold BM;split
    · simp;omega
    · have G:=PO k false a (B9 a b dir bG) (dir:=dir)
      have I:=PO k false (B9 a b dir bG) b (dir:=dir);rw[ap];omega
theorem Wc {dir:Int} (G:dir=1\/dir= -1):∀(k:Nat) (bG:Bool) {a b:Spk},okS a->okS b->∀s∈BM dir k bG a b,okS s
  |0,_,a,b,_,hb,s,D=>by simp[BM]at D;subst D;exact hb
  |k+1,bG,a,b,I,hb,s,D=>by
    unfold BM at D;have L:=Tn I hb G bG;split at D
    · simp at D;subst D;exact hb
    · rcases bq.1 D with D|D
      · exact Wc G k false I L s D
      · exact Wc G k false L hb s D
theorem Qfc {dir:Int} (D:dir=1\/dir= -1):∀(n k:Nat) (bG:Bool) (a b:Spk),k<=16->k<n->okS a->okS b->
    M_ n [I a.u,I a.w,I a.r,I a.h,I b.u,I b.w,I b.r,I b.h,I dir,B bG,I (16-k:Int)]=some [.vC BQ ((BM dir k bG a b).map AW)]
  |0,k,_,_,_,_,M,_,_=>by omega
  |n+1,0,bG,a,b,_,_,G,hb=>by
    show Ue _ _ _ _=_;rw[Ziz,Cz (by omega)];rfl
  |n+1,k+1,bG,a,b,M,T,G,hb=>by
    have L:=Tn G hb D bG;have i1:=Qfc D n k false a (B9 a b dir bG) (by omega) (by omega) G L;have N:=Qfc D n k false (B9 a b dir bG) b (by omega) (by omega) L hb;have e1:=Znh G hb D bG;have e2:=Z8h G hb D bG;show Ue (M_ n) Mx K6 _=_;generalize M_ n=U at*;generalize Mx=V at*;generalize K6=MS at*;have X:=(PO k false a (B9 a b dir bG) (dir:=dir)).2;have Y:=(PO k false (B9 a b dir bG) b (dir:=dir)).2;have l3:2^k<=2^16:=Nat.pow_le_pow_right (by omega) (by omega);rw[Ziz,AR (by omega),Ad,show(16-((k+1:Nat):Int)+1)=16-(k:Int) by omega];unfold BM;generalize B9 a b dir bG=m at*;generalize BM dir k false a m=O at*;generalize BM dir k false m b=S at*;simp only[ax,ay,AW]at e2;simp only[e1,e2,am,F1,KU,Kw,O_,FP,gA,jA,wA,bA,R0,i1,N,Vq];by_cases c:EI a b dir bG
    · rw[aa c,BO (ah c)];rfl
    · rw[ab c,BZ (al c),BO]
      · rw[bp]
      · have e:((List.map AW O++List.map AW S).length*32)<=140737488355328:=by
          simp only[ap,ac];have:(2:Nat)^16=65536:=rfl;omega
        exact ez e
theorem Zsw {n i j:Int} (G:Jx n i) (I:Jx n j):i=j:=by
 have key:∀{i j:Int},Jx n i->Jx n j-> ¬i<j:=by
  rintro i j ⟨L,M,-⟩ ⟨O,S,D⟩ N;rcases D with D|D
  ·omega
  ·have T:=d8 (show i<=j-1 by omega) (show i+1<=j by omega) (by omega) (by omega);omega
 have L:=key G I;have M:=key I G;omega
open Classical in
noncomputable def EG (n:Int):Int:=if h:∃j,Jx n j then Classical.choose h else 0
theorem NZ {n k:Int} (h:Jx n k):EG n=k:=by
 have D:∃j,Jx n j:=⟨k,h⟩;unfold EG;rw[jb D];exact Zsw (fm D) h
theorem On {n r:Nat} (D:r*r<=n) (G:n<(r+1)*(r+1)):Jx n (if r*r+r<n then r+1 else r:Nat):=by
 have e0:(r+1)*(r+1)=r*r+r+r+1:=by grind
 unfold Jx;by_cases c:r*r+r<n
 ·rw[aa c];have e1:((r+1:Nat):Int)*(((r+1:Nat):Int)+1)=((r*r+r+r+r+2:Nat):Int):=by
   have:((r+1:Nat):Int)+1=((r+2:Nat):Int):=by omega
   rw[this,<-cm];congr 1
   grind
  have e2:(((r+1:Nat):Int)-1)*((r+1:Nat):Int)=((r*r+r:Nat):Int):=by
   rw[show((r+1:Nat):Int)-1=(r:Int) by omega,<-cm];congr 1
  rw[e1,e2];generalize r*r=A at*;exact⟨by omega,by omega, .inr (by omega)⟩
 ·rw[ab c];have e1:(r:Int)*((r:Int)+1)=((r*r+r:Nat):Int):=by
   rw[show(r:Int)+1=((r+1:Nat):Int) by omega,<-cm];congr 1
  rw[e1];refine⟨by omega,by omega,?_⟩;rcases dp r with h|h
  ·left;omega
  ·right;have e2:((r:Int)-1)*(r:Int)=(((r-1)*r:Nat):Int):=by
    rw[show(r:Int)-1=((r-1:Nat):Int) by omega];exact(cm _ _).symm
   have:=dx (show r-1<r by omega) h;rw[e2];omega
noncomputable def Bv (it:Itm) (p:Pt):Spk:=⟨dU it p*16,dW it p*16,EG (sq2 (dU it p*16) (dW it p*16)),plH it.aG p*16⟩
theorem Zxz {n:Nat} (L:n<=2251799813685248):0<=EG n/\EG n<=50000000:=by
 obtain⟨r,D,G⟩:=Mu n;have I:=On D G;rw[NZ I];have:r<50000000:=by
  by_cases c:r<50000000
  ·exact c
  ·have:=cd (show 50000000<=r by omega) (show 50000000<=r by omega);omega
 split<;>omega
theorem LS {it:Itm} (I:bd 1048576 it.ce) (L:bd 1048576 a):(dU it a*16).natAbs<=33554432/\(dW it a*16).natAbs<=33554432/\0<=sq2 (dU it a*16) (dW it a*16)/\sq2 (dU it a*16) (dW it a*16)<=2251799813685248:=by
 obtain⟨M,N⟩:=Oi I L;have D:(dU it a*16).natAbs<=33554432:=by omega
 have G:(dW it a*16).natAbs<=33554432:=by omega
 have O:=B7 D;have S:=B7 G;refine⟨D,G,?_⟩;unfold sq2;omega
theorem L7 {it:Itm} (G:bd 1048576 it.ce) (D:bd 1048576 a):okS (Bv it a):=by
 obtain⟨I,L,M,N⟩:=LS G D;have S:=(D8 (pl:=it.aG) D).2.2;obtain⟨n,O⟩:=bc M;refine⟨bj I (by decide),bj L (by decide),?_,?_⟩
 ·show 0<=EG _/\EG _<=_;rw[O]at N⊢;exact Zxz (by omega)
 ·show(plH it.aG a*16).natAbs<=_;omega
theorem Zw3 {MR MD:Fn} {u w h:Int} {n r:Nat} (X:u.natAbs<=100000000) (Y:w.natAbs<=100000000) (hh:h.natAbs<=100000000) (D:sq2 (u*16) (w*16)=n) (G:n<=2251799813685248)
  (L:MD [I (u*16),I (w*16),I 0,I (h*16),I (u*16),I (w*16),I 0,I (h*16)]=some [I (sq2 (u*16) (w*16))]) (M:MR [I n]=some [I r]) (N:r*r<=n) (S:n<(r+1)*(r+1)):
  ZD MR MD [I u,I w,I 0,I h]=some (AW ⟨u*16,w*16,EG n,h*16⟩):=by
 have T:=On N S;rw[NZ T];rw[Z27,Ad (x:=u*16),Ad (x:=w*16),Ad (x:=h*16)];have hr:r<=r*r:=by
  rcases dp r with h|h
  ·subst h;simp
  ·exact Nat.le_mul_of_pos_left r h
 have e1:(r:Int)*((r:Int)+1)=((r*r+r:Nat):Int):=by
  rw[show(r:Int)+1=((r+1:Nat):Int) by omega,<-cm];congr 1
 have U:O ((r:Int)*((r+1:Nat):Int))=((r*r+r:Nat):Int):=by
  rw[show((r+1:Nat):Int)=(r:Int)+1 by omega,e1,Ad]
 have V:O ((r:Int)+1)=((r+1:Nat):Int):=by rw[Ad];omega
 simp only[go_sem,L,D,M,U,V];by_cases c:r*r+r<n
 ·rw[aa,aa c]
 ·rw[ab,ab c]
theorem Qw8 {it:Itm} (L:bd 1048576 it.ce) (D:bd 1048576 a):R_ [I (dU it a),I (dW it a),I 0,I (plH it.aG a)]=some (AW (Bv it a)):=by
 obtain⟨M,N,O,S⟩:=LS L D;obtain⟨n,G⟩:=bc O;have Y:=(D8 (pl:=it.aG) D).2.2;have h6:=Oi L D;have T:=Qog (r:=0) (h:=plH it.aG a*16) (s:=0) (g:=plH it.aG a*16) (bj M (by decide)) (bj N (by decide)) (bj M (by decide)) (bj N (by decide));rw[G]at S;obtain⟨r,U,V,X,-⟩:=Zg0 (n:=n) (by omega);have:=Zw3 (MR:=Jn) (MD:=Ga) (u:=dU it a) (w:=dW it a) (h:=plH it.aG a) (by omega) (by omega) (by omega) G (by omega) T U V X;rw[show Bv it a=⟨dU it a*16,dW it a*16,EG n,plH it.aG a*16⟩from by unfold Bv;rw[G]];exact this
theorem Zrk {it:Itm} (D:Z (Af it)=some [I (dU it it.fr),I (dW it it.fr),I 0,I (plH it.aG it.fr),I (dU it it.to),I (dW it it.to),I 0,I (plH it.aG it.to)])
  (G:M [I (dU it it.fr),I (dW it it.fr),I 0,I (plH it.aG it.fr)]=some (AW (Bv it it.fr))) (L:M [I (dU it it.to),I (dW it it.to),I 0,I (plH it.aG it.to)]=some (AW (Bv it it.to))):
  Qec M Z (Af it)=some (AW (Bv it it.fr)++AW (Bv it it.to)):=by
 rw[Z56];simp only[go_sem,D,G,L];try rfl
theorem Z3d {it:Itm} (h:BI it) (L:it.aP=3):Qj (Af it)=some (AW (Bv it it.fr)++AW (Bv it it.to)):=by
 obtain⟨-,G,I,M⟩:=h;obtain⟨N,-,D,-⟩:=M L;exact Zrk (Q09 N (by decide) G I D) (Qw8 D G) (Qw8 D I)
noncomputable def B0 (it:Itm):List Spk:=Bv it it.fr::BM it.dir 16 it.bG (Bv it it.fr) (Bv it it.to)
theorem Qni {it:Itm} (h:BI it) (L:it.aP=3):∀s∈B0 it,okS s:=by
 obtain⟨-,I,M,N⟩:=h;obtain⟨S,O,D,-⟩:=N L;intro s G;rcases av.1 G with rfl|G
 ·exact L7 D I
 ·exact Wc O 16 _ (L7 D I) (L7 D M) s G
theorem Tc (it:Itm):2<=(B0 it).length/\(B0 it).length<=65537:=by
 have:=PO (dir:=it.dir) 16 it.bG (Bv it it.fr) (Bv it it.to);have e:(2:Nat)^16=65536:=rfl;rw[e]at this;unfold B0;rw[bf];omega
theorem Zwc {it:Itm} (hV:∃v,W (Af it)=some [B v]/\(v=true↔BI it)) (h:BI it)
  (N:it.aP=3->Z (Af it)=some (AW (Bv it it.fr)++AW (Bv it it.to)))
  (O:it.aP=3->M (AW (Bv it it.fr)++AW (Bv it it.to)++[I it.dir,B it.bG,I 0])=some [.vC BQ ((BM it.dir 16 it.bG (Bv it it.fr) (Bv it it.to)).map AW)]):
  Qj5 M Z W (Af it)=if it.aP=3 then some [.vC BQ ((B0 it).map AW),B true]else some [.vC BQ [],B false]:=by
 obtain⟨v,S,G⟩:=hV;rw[Zuv];by_cases D:it.aP=3
 ·have e:=N D;have p:=O D;have L:=(Tc it).2;unfold B0 at L⊢;generalize Bv it it.fr=a at*;generalize Bv it it.to=b at*;generalize BM it.dir 16 it.bG a b=l at*;simp only[ax,ay]at e p;simp only[go_sem,S,e,p];rw[ab (by simp[D]),ab (by simp[G.2 h]),aa (by simp at L⊢;omega),aa D];rfl
 ·simp only[go_sem];rw[aa D,ab D]
theorem Z4g {it:Itm} (h:BI it):Ps (Af it)=if it.aP=3 then some [.vC BQ ((B0 it).map AW),B true]else some [.vC BQ [],B false]:=by
 refine Zwc (Yq it) h (λD=>Z3d h D) λD=> ?_;obtain⟨-,I,L,M⟩:=h;obtain⟨O,N,G,-⟩:=M D;exact Qfc N 20 16 it.bG _ _ (by omega) (by omega) (L7 G I) (L7 G L)
noncomputable def II (it:Itm) (s:Spk):Pt:=spP it.aG (plU it.aG (Av it.ce)+s.u) (plW it.aG (Av it.ce)+s.w) s.h
noncomputable def Bs (it:Itm):List Pt:=if it.aP=3 then(B0 it).map (II it)else [Av it.fr,Av it.to]
theorem Qop {pl u w h:Int} (D:u.natAbs<=i) (G:w.natAbs<=i) (I:h.natAbs<=i):bd i (spP pl u w h):=by
 unfold spP bd;split
 ·exact⟨D,G,I⟩
 ·split
  ·exact⟨G,I,D⟩
  ·exact⟨I,D,G⟩
theorem Zss {it:Itm} {s:Spk} (D:bd 1048576 it.ce) (G:okS s):bd 67108864 (II it s):=by
 obtain⟨I,L,-⟩:=D8 (pl:=it.aG) (DA D);obtain⟨s1,s2,-,M⟩:=G;exact Qop (by omega) (by omega) (by omega)
theorem Qgf {it:Itm} (h:BI it):∀p∈Bs it,bd 67108864 p:=by
 intro p D;unfold Bs at D;split at D
 ·rename_i G;simp only[ba]at D;obtain⟨s,I,rfl⟩:=D;exact Zss (h.2.2.2 G).2.2.1 (Qni h G s I)
 ·simp at D;rcases D with rfl|rfl
  ·exact AI (DA h.2.1) (by decide)
  ·exact AI (DA h.2.2.1) (by decide)
theorem Qcm (it:Itm):2<=(Bs it).length/\(Bs it).length<=65537:=by
 have:=Tc it;unfold Bs;split<;>simp<;>omega
theorem Qx7 {MS MP MF MK MV:Fn} {it:Itm} {l:List Spk} {cu cw:Int} (O:l.length<=65537) (L:cu.natAbs<=16777216) (M:cw.natAbs<=16777216) (G:∀s∈l,okS s)
  (N:∀{u w h:Int},MS [I u,I w,I h,I it.aG]=some (ptR (spP it.aG u w h))):
  ∀(k i:Nat),i+k=l.length->Al (NE MS MP MF MK MV) (.vC kPt (((l.take i).map λs=>spP it.aG (cu+s.u) (cw+s.w) s.h).map ptR)::I cu::I cw:: .vC BQ (l.map AW)::I l.length::I i::Af it)=
   some (1,[.vC kPt ((l.map λs=>spP it.aG (cu+s.u) (cw+s.w) s.h).map ptR)])
 |0,i,S=>by
  refine AJ ?_ (by simp);rw[Qw9];simp only[go_sem];rw[ab,ia (by omega)]
 |k+1,i,S=>by
  have D:i<l.length:=by omega
  have T:NE MS MP MF MK MV (.vC kPt (((l.take i).map λs=>spP it.aG (cu+s.u) (cw+s.w) s.h).map ptR)::I cu::I cw:: .vC BQ (l.map AW)::I l.length::I i::Af it)=
    some (0, .vC kPt (((l.take (i+1)).map λs=>spP it.aG (cu+s.u) (cw+s.w) s.h).map ptR)::I cu::I cw:: .vC BQ (l.map AW)::I l.length::I (i+1:Nat)::Af it):=by
   rw[Qw9];have U:nth [] (l.map AW) i=AW l[i]:=Em _ _ _ _ D;have V:=G _ (bh D);have X:l.take (i+1)=l.take i++[l[i]]:=by rw[ig,ai D];rfl
   rw[X];generalize l[i]=s at*;obtain⟨s1,s2,-⟩:=V;simp only[go_sem,af,ac,U];rw[aa,aa,Ad (x:=cu+s.u),Ad (x:=cw+s.w),Ad (x:=(i:Int)+1)];simp only[N,go_sem];rw[aa (by simp only[ap,ac,fx,bf,bv];omega),bp,bp];rfl
  rw[AS T];exact Qx7 O L M G N k (i+1) (by omega)
theorem Zm4 {it:Itm} (hV:∃v,T (Af it)=some [B v]/\(v=true↔BI it)) (h:BI it)
  (G:V (Af it)=if it.aP=3 then some [.vC BQ ((B0 it).map AW),B true]else some [.vC BQ [],B false])
  (L:∀{p:Pt},bd 100000000 p->W [I p.x,I p.y,I p.z]=some (ptR (Av p))) (hP:BX it.aG->∀{p:Pt},Z [I p.x,I p.y,I p.z,I it.aG]=some [I (plU it.aG p),I (plW it.aG p),I (plH it.aG p)])
  (hS:BX it.aG->∀{u w h:Int},M [I u,I w,I h,I it.aG]=some (ptR (spP it.aG u w h))):
  XA M Z W V T (Al (NE M Z W V T)) (Af it)=some [.vC kPt ((Bs it).map ptR),B true]:=by
 obtain⟨v,X,N⟩:=hV;rw[Zmf];have O:=N.2 h;subst O;obtain⟨-,h1,h2,ha⟩:=id h;by_cases D:it.aP=3
 ·obtain⟨Y,hd,hc,-⟩:=ha D;rw[aa D]at G;obtain⟨c1,c2,c3⟩:=D8 (pl:=it.aG) (DA hc);have hl:=Qx7 (MS:=M) (MP:=Z) (MF:=W) (MK:=V) (MV:=T) (it:=it) (l:=B0 it) (cu:=plU it.aG (Av it.ce)) (cw:=plW it.aG (Av it.ce)) (Tc it).2 c1 c2 (Qni h D) (hS Y) (B0 it).length 0 (by omega);have S:Al (NE M Z W V T) [.vC kPt [],I (plU it.aG (Av it.ce)),I (plW it.aG (Av it.ce)), .vC BQ ((B0 it).map AW),I (B0 it).length,I 0,I it.aP,I it.block,I it.fr.x,I it.fr.y,I it.fr.z,I it.to.x,I it.to.y,I it.to.z,I it.aG,I it.ce.x,I it.ce.y,I it.ce.z,I it.dir,B it.bG,I it.aZ,B it.perRev,I it.side,I it.radius,I it.bH,I it.n,I it.aS,B it.on]=
   some (1,[.vC kPt (((B0 it).map λs=>spP it.aG (plU it.aG (Av it.ce)+s.u) (plW it.aG (Av it.ce)+s.w) s.h).map ptR)]):=hl
  have hf:=L (AI hc (by decide));unfold Bs;rw[aa D];have U:= @hP Y (Av it.ce);simp only[go_sem,X,G,hf,U,ac,S];simp only[iu,f9];rfl
 ·rw[ab D]at G;have f1:=L (AI h1 (by decide));have f2:=L (AI h2 (by decide));unfold Bs;rw[ab D];simp only[go_sem,X,G,f1,f2];simp
theorem Zol {it:Itm} (h:BI it):RI (Af it)=some [.vC kPt ((Bs it).map ptR),B true]:=
 Zm4 (Yq it) h (Z4g h) Qf4 (λD=>Qkz D) (λD=>Zij D)
def Es (t:Itm) (aS:Int):Int:=if t.aP=1 then 0 else mx (Bb (mn (if t.perRev=true then t.aZ*mx aS 1 else t.aZ) 60000000*4096) 60000) 1
theorem Q1w {f s:Int} (hf:0<=f/\f<=60000000) (G:0<=s/\s<=30000):0<=f*mx s 1/\f*mx s 1<=1800000000000:=by
 have D:1<=mx s 1/\mx s 1<=30000:=by unfold mx;split<;>omega
 generalize mx s 1=m at*;have I:=d8 hf.2 D.2 (by omega) (by omega);have L:=gz hf.1 (show 0<=m by omega);omega
theorem Ud {x:Int} (h:0<=x):0<=mn x 60000000/\mn x 60000000<=60000000:=by unfold mn;split<;>omega
theorem Z66 {t:Itm} (hf:0<=t.aZ/\t.aZ<=60000000) (G:0<=u/\u<=30000)
  (D:∀a:Int,0<=a/\a<=60000000->M [I a,I 4096,I 60000,I 2]=some [I (Bb (a*4096) 60000),B true]):Wj M (Af t++[I u])=some [I (Es t u)]:=by
 have L:=Q1w hf G;have N:=D _ (Ud L.1);have S:=D _ (Ud hf.1);have T:O (t.aZ*mx u 1)=t.aZ*mx u 1:=Ad;simp only[Af,ax,ay];rw[Q2v,T];simp only[go_sem,N,S];unfold Es;by_cases g1:t.aP=1
 ·rw[aa g1,aa g1]
 ·rw[ab g1,ab g1];by_cases g2:t.perRev=true
  ·rw[aa g2,aa g2]
  ·rw[ab g2,ab g2]
theorem Z8j {t:Itm} (hf:0<=t.aZ/\t.aZ<=60000000) (L:0<=u/\u<=30000)
  (D:∀a:Int,0<=a/\a<=60000000->M [I (a*4096),I 60000]=some [I (Bb (a*4096) 60000)]):Qg4 M (Af t++[I u])=some [I (Es t u)]:=by
 have N:=Q1w hf L;have b2:=Ud N.1;have b3:=Ud hf.1;have S:=D _ b2;have T:=D _ b3;have U:O (t.aZ*mx u 1)=t.aZ*mx u 1:=Ad;have G:∀a:Int,0<=a/\a<=60000000->O (O (a*16)*256)=a*4096:=by
  intro a V;rw[Ad (x:=a*16),Ad];omega
 simp only[Af,ax,ay];rw[Zgy,U,G _ b2,G _ b3];simp only[go_sem,S,T];unfold Es;by_cases g1:t.aP=1
 ·rw[aa g1,aa g1]
 ·rw[ab g1,ab g1];by_cases g2:t.perRev=true
  ·rw[aa g2,aa g2]
  ·rw[ab g2,ab g2]
theorem Zmu {t:Itm} (hf:0<=t.aZ/\t.aZ<=60000000) (D:0<=u/\u<=30000):JT (Af t++[I u])=some [I (Es t u)]:=
 Z66 hf D λa G=>T5 (by unfold i64;omega) (by unfold i64;omega) (by omega) (by have:a.natAbs*(4096:Int).natAbs<=60000000*4096:=cd (by omega) (by omega);omega)
theorem Yga {t:Itm} (hf:0<=t.aZ/\t.aZ<=60000000) (D:0<=u/\u<=30000):GS (Af t++[I u])=some [I (Es t u)]:=
 Z8j hf D λa G=>Zdz (by omega) (by omega)
def it0:Itm:=⟨0,0,⟨0,0,0⟩,⟨0,0,0⟩,0,⟨0,0,0⟩,0,false,0,false,0,0,0,0,0,false⟩
def vE (aA:List Itm) (i:Nat):Itm:=aA.getD i it0
theorem Rb (h:i<z.length):vE z i=z[i]:=by unfold vE;simp[h]
theorem Zjd (h:i<z.length):vE z i∈z:=by rw[Rb h];exact bh h
theorem CO (h:i<z.length):nth [] (z.map Af) i=Af (vE z i):=by rw[Rb h];exact Em _ _ _ _ h
theorem RS (h:i<z.length):z.drop i=vE z i::z.drop (i+1):=by rw[Rb h];exact KM _ _ h
def AB (it:Itm):Prop:=1<=it.aP/\it.aP<=6
def smI (it:Itm):Prop:=it.aP=2/\it.fr≠it.to
def syI (it:Itm):Prop:=it.aP=5\/it.aP=6
instance (it:Itm):Decidable (AB it):=by unfold AB;infer_instance
instance (it:Itm):Decidable (smI it):=by unfold smI;infer_instance
instance (it:Itm):Decidable (syI it):=by unfold syI;infer_instance
theorem Q3i (it:Itm):Iu (Af it)=some [B (decide (smI it))]:=by
 unfold Iu;rw[Zlz];by_cases h:it.aP=2
 ·rw[BO (by simp[h])];congr 2;by_cases G:it.fr=it.to
  ·have D:=B2.1 G;rw[al (λI:smI it=>I.2 G)];simp[D.1,D.2.1,D.2.2]
  ·rw[ah (show smI it from⟨h,G⟩)];have D: ¬(it.fr.x=it.to.x/\it.fr.y=it.to.y/\it.fr.z=it.to.z):=λD=>G (B2.2 D);simp only[B,AC.bool.injEq,jo,Bool.and_true];by_cases a:it.fr.x=it.to.x<;>by_cases b:it.fr.y=it.to.y<;>by_cases c:it.fr.z=it.to.z<;>simp[a,b,c]at D⊢
 ·rw[BZ (by simp[h]),al (λI:smI it=>h I.1)]
def A2 (it:Itm):Pt:=⟨(it.fr.x+it.to.x)*8,(it.fr.y+it.to.y)*8,(it.fr.z+it.to.z)*8⟩
theorem I_ {it:Itm} (D:bd 1048576 it.fr) (G:bd 1048576 it.to):bd B24 (A2 it):=by
 unfold bd B24 A2 at*;simp only;omega
theorem Qso {it:Itm} (D:bd 1048576 it.fr) (G:bd 1048576 it.to):JI (Af it)=some (ptR (A2 it)):=by
 obtain⟨a1,a2,a3⟩:=D;obtain⟨b1,b2,b3⟩:=G;unfold JI;rw[Zkl,Ad (x:=it.fr.x+it.to.x),Ad (x:=(it.fr.x+it.to.x)*8),Ad (x:=it.fr.y+it.to.y),Ad (x:=(it.fr.y+it.to.y)*8),Ad (x:=it.fr.z+it.to.z),Ad (x:=(it.fr.z+it.to.z)*8)];rfl
def E9:List Itm->Nat->Int
 |[],_=> -1
 |it::l,k=>if it.aP=10 then E9 l (k+1)else if smI it then k else-1
def Bf (aA:List Itm) (i:Nat):Int:=if smI (vE aA i)/\(vE aA i).bH≠0 then E9 (aA.drop (i+1)) (i+1)else-1
theorem Qx1:∀(l:List Itm) (k:Nat),E9 l k= -1\/∃j:Nat,E9 l k=((k+j:Nat):Int)/\∃h:j<l.length,smI l[j]/\∀i (D:i<l.length),i<j->l[i].aP=10
 |[],_=> .inl rfl
 |it::l,k=>by
  unfold E9;split
  ·rename_i G;rcases Qx1 l (k+1)with h|⟨j,I,S,L,M⟩
   ·exact .inl h
   ·refine .inr ⟨j+1,by rw[I];omega,by simp;omega,by simpa using L,?_⟩;intro i D N;cases i with
    |zero=>simpa using G
    |succ i=>simpa using M i (by simpa using D) (by omega)
  ·split
   ·rename_i O;exact .inr ⟨0,by simp,by simp,by simpa using O,λi _ D=>by omega⟩
   ·exact .inl rfl
theorem Qa0 (aA:List Itm) (i:Nat):Bf aA i= -1\/(smI (vE aA i)/\(vE aA i).bH≠0/\∃k:Nat,Bf aA i=k/\i<k/\k<aA.length/\smI (vE aA k)/\∀j,i<j->j<k->(vE aA j).aP=10):=by
 unfold Bf;split
 ·rename_i h;rcases Qx1 (aA.drop (i+1)) (i+1)with D|⟨j,D,L,G,M⟩
  ·exact .inl D
  ·have I:i+1+j<aA.length:=by rw[dc]at L;omega
   refine .inr ⟨h.1,h.2,i+1+j,D,by omega,I,?_,?_⟩
   ·rw[Rb I];rw[List.getElem_drop]at G;exact G
   ·intro m N O;have:=M (m-(i+1)) (by omega) (by omega);rw[List.getElem_drop]at this;rw[Rb (by omega)];have e:i+1+(m-(i+1))=m:=by omega
    simp only[e]at this;exact this
 ·exact .inl rfl
theorem Qvh {M:Fn} {aA:List Itm} (S:∀it,M (Af it)=some [B (decide (smI it))]) (U:aA.length<=1000000):∀(k i:Nat),i+k=aA.length->
  (Al (OV M) [.vC Ae (aA.map Af),I i]=some (1,[I (E9 (aA.drop i) i)]))\/(Al (OV M) [.vC Ae (aA.map Af),I i]=some (2,[])/\E9 (aA.drop i) i= -1)
 |0,i,V=>by
  right;refine⟨AJ ?_ (by simp),by rw[cz (by omega)];rfl⟩;rw[Q45];simp only[go_sem,ac];rw[ab]
 |k+1,i,V=>by
  have G:i<aA.length:=by omega
  have X:=CO G;rw[RS G];have T:=S (vE aA i);have D:OV M [.vC Ae (aA.map Af),I i]=if(vE aA i).aP=10 then some (0,[.vC Ae (aA.map Af),I (i+1:Nat)])else if smI (vE aA i)then some (1,[I i])else some (1,[I (-1)]):=by
   rw[Q45];simp only[Af]at T;have O:(0:Int)<=(i:Int)/\(i:Int)<(aA.length:Int):=by omega
   simp only[go_sem,ac,af,X,T,aa O];rw[aa,Ad];rfl
  unfold E9;by_cases L:(vE aA i).aP=10
  ·rw[aa L]at D⊢;rw[AS D];exact Qvh S U k (i+1) (by omega)
  ·rw[ab L]at D⊢;left;by_cases N:smI (vE aA i)
   ·rw[aa N]at D⊢;exact AJ D (by simp)
   ·rw[ab N]at D⊢;exact AJ D (by simp)
theorem Ztd (S:∀it,M (Af it)=some [B (decide (smI it))]) (U:z.length<=1000000) {i:Nat} (V:i<z.length):
  Qu1 M (Al (OV M)) [.vC Ae (z.map Af),I i]=some [I (Bf z i)]:=by
 have X:=CO V;have T:=S (vE z i);have D:=Qvh S U (z.length-(i+1)) (i+1) (by omega);rw[Yc5];simp only[Af]at T;have Y:O ((i:Int)+1)=((i+1:Nat):Int):=by rw[Ad];omega
 unfold Bf;have N:(0:Int)<=(i:Int)/\(i:Int)<(z.length:Int):=by omega
 simp only[go_sem,ac,af,X,T,Y,aa N];by_cases G:smI (vE z i)
 ·rw[ab (by simp[G])];by_cases L:(vE z i).bH=0
  ·rw[aa L,ab (λh=>h.2 L)]
  ·rw[ab L,aa ⟨G,L⟩];rcases D with D|⟨D,hn⟩
   ·simp only[D,go_sem]
   ·simp only[D,go_sem,hn];simp
 ·rw[aa (by simp[G]),ab (λh=>G h.1)]
theorem Zbe (D:z.length<=1000000) {i:Nat} (G:i<z.length):F9 [.vC Ae (z.map Af),I i]=some [I (Bf z i)]:=Ztd Q3i D G
theorem Ze9 (it:Itm):Fz (Af it)=some [B (decide (syI it))]:=by
 unfold Fz;rw[Zrf];by_cases D:it.aP=5
 ·rw[BO (by simp[D]),ah (show syI it from .inl D)]
 ·rw[BZ (by simp[D])];by_cases G:it.aP=6
  ·rw[ah (show syI it from .inr G)];simp[G]
  ·rw[al (show¬syI it from λh=>h.elim D G)];simp[G]
def Kl (it:Itm):Int:=if it.aP=10 then 5 else if it.aP=13 then 4 else 3
theorem Z88 (it:Itm):H0 (Af it)=some [I (Kl it)]:=by
 unfold H0 Kl;rw[Yam];simp only[go_sem];split
 ·rfl
 ·split<;>rfl
def EE:List Itm->Int
 |[]=>2
 |it::l=>if AB it then(if syI it then 1 else 2)else EE l
def E5 (aA:List Itm) (i:Nat):Int:=if(vE aA i).aP=4 then 6 else if(vE aA i).bH=0 then 1 else if syI (vE aA i)then 1 else EE (aA.drop (i+1))
theorem Q8l {N MS:Fn} {aA:List Itm} (T:∀k:Int,N [I k]=some [B (decide (1<=k/\k<=6))]) (U:∀it,MS (Af it)=some [B (decide (syI it))]) (X:aA.length<=1000000):∀(k i:Nat),i+k=aA.length->
  (Al (PF N MS) [.vC Ae (aA.map Af),I i]=some (1,[I (EE (aA.drop i))]))\/(Al (PF N MS) [.vC Ae (aA.map Af),I i]=some (2,[])/\EE (aA.drop i)=2)
 |0,i,Y=>by
  right;refine⟨AJ ?_ (by simp),by rw[cz (by omega)];rfl⟩;rw[Zf5];simp only[go_sem,ac];rw[ab]
 |k+1,i,Y=>by
  have G:i<aA.length:=by omega
  have hr:=CO G;rw[RS G];have V:=U (vE aA i);have hm:=T (vE aA i).aP;have D:PF N MS [.vC Ae (aA.map Af),I i]=if AB (vE aA i)then(if syI (vE aA i)then some (1,[I 1])else some (2,[]))else some (0,[.vC Ae (aA.map Af),I (i+1:Nat)]):=by
   rw[Zf5];simp only[Af]at V;have S:(0:Int)<=(i:Int)/\(i:Int)<(aA.length:Int):=by omega
   simp only[go_sem,ac,af,hr,V,hm,aa S];rw[aa,Ad];by_cases O:AB (vE aA i)
   ·rw[aa (show 1<=(vE aA i).aP/\(vE aA i).aP<=6 from O),aa O]
   ·rw[ab (show¬(1<=(vE aA i).aP/\(vE aA i).aP<=6)from O),ab O];rfl
  unfold EE;by_cases L:AB (vE aA i)
  ·rw[aa L]at D⊢;by_cases M:syI (vE aA i)
   ·rw[aa M]at D⊢;exact .inl (AJ D (by simp))
   ·rw[ab M]at D⊢;exact .inr ⟨AJ D (by simp),rfl⟩
  ·rw[ab L]at D⊢;rw[AS D];exact Q8l T U X k (i+1) (by omega)
theorem Znt (V:∀k:Int,M [I k]=some [B (decide (1<=k/\k<=6))]) (S:∀it,Z (Af it)=some [B (decide (syI it))]) (X:z.length<=1000000) {i:Nat} (Y:i<z.length):
  Qep M Z (Al (PF M Z)) [.vC Ae (z.map Af),I i]=some [I (E5 z i)]:=by
 have hr:=CO Y;have T:=S (vE z i);have D:=Q8l V S X (z.length-(i+1)) (i+1) (by omega);rw[Z0m];simp only[Af]at T;have hw:O ((i:Int)+1)=((i+1:Nat):Int):=by rw[Ad];omega
 unfold E5;have N:(0:Int)<=(i:Int)/\(i:Int)<(z.length:Int):=by omega
 simp only[go_sem,ac,af,hr,T,hw,aa N];by_cases G:(vE z i).aP=4
 ·rw[aa G,aa G]
 ·rw[ab G,ab G];by_cases L:(vE z i).bH=0
  ·rw[aa L,aa L]
  ·rw[ab L,ab L];by_cases U:syI (vE z i)
   ·simp only[aa U]
   ·simp only[ab U];rcases D with D|⟨D,hn⟩
    ·simp only[D,go_sem]
    ·simp only[D,go_sem,hn];simp
theorem Yav (D:z.length<=1000000) {i:Nat} (G:i<z.length):Is [.vC Ae (z.map Af),I i]=some [I (E5 z i)]:=Znt RR Ze9 D G
noncomputable def C5 (aA:List Itm) (i k:Nat):List Pt:=Fl (A2 (vE aA i)) (Av (vE aA i).to) (A2 (vE aA k)) ((vE aA i).bH*16)
def drawn (it:Itm):Prop:=BI it/\0<=it.bH/\it.bH<=1000
theorem Yim (S:i<z.length) (T:A<z.length) (U:drawn (vE z i))
  (L:W (Af (vE z i))=some (ptR (A2 (vE z i)))) (N:W (Af (vE z A))=some (ptR (A2 (vE z A)))) (V:Z [I (vE z i).to.x,I (vE z i).to.y,I (vE z i).to.z]=some (ptR (Av (vE z i).to)))
  (O:M (ptR (A2 (vE z i))++ptR (Av (vE z i).to)++ptR (A2 (vE z A))++[I ((vE z i).bH*16)])=some [.vC kPt ((C5 z i A).map ptR)]):
  XR M Z W [.vC Ae (z.map Af),I i,I A]=some [.vC kPt ((C5 z i A).map ptR)]:=by
 have X:=CO S;have Y:=CO T;obtain⟨-,b1,b2⟩:=U;rw[Zvc];simp only[Af]at L N;simp only[ptR,ax,ay]at O;have G:(0:Int)<=(i:Int)/\(i:Int)<(z.length:Int):=by omega
 have D:(0:Int)<=(A:Int)/\(A:Int)<(z.length:Int):=by omega
 simp only[go_sem,ac,af,X,Y,L,N,V,aa G,aa D];rw[Ad];simp only[O,go_sem]
theorem Yac (L:i<z.length) (M:A<z.length) (D:drawn (vE z i)) (G:drawn (vE z A)):
  Qf [.vC Ae (z.map Af),I i,I A]=some [.vC kPt ((C5 z i A).map ptR)]:=
 Yim L M D (Qso D.1.2.1 D.1.2.2.1) (Qso G.1.2.1 G.1.2.2.1) (Qf4 (AI D.1.2.2.1 (by decide)))
  (Zk2 (I_ D.1.2.1 D.1.2.2.1) (DA D.1.2.2.1) (I_ G.1.2.1 G.1.2.2.1) (by have:=D.2;omega))
theorem Ig {aA:List Itm} {i k:Nat} (D:drawn (vE aA i)) (G:drawn (vE aA k)):(∀p∈C5 aA i k,bd B24 p)/\1<=(C5 aA i k).length/\(C5 aA i k).length<=65:=
 Q5d (I_ D.1.2.1 D.1.2.2.1) (DA D.1.2.2.1) (I_ G.1.2.1 G.1.2.2.1)
noncomputable def HQ (aA:List Itm) (i:Nat) (frm:Int):List Pt:=if 0<=frm then(C5 aA frm.toNat i).drop ((C5 aA frm.toNat i).length/2)else(Bs (vE aA i)).take 1
noncomputable def JE (aA:List Itm) (i:Nat):List Pt:=if 0<=Bf aA i then(C5 aA i (Bf aA i).toNat).take ((C5 aA i (Bf aA i).toNat).length/2+1)else(Bs (vE aA i)).drop 1
noncomputable def Bo (aA:List Itm) (i:Nat) (frm:Int):List Pt:=if smI (vE aA i)then HQ aA i frm++[A2 (vE aA i)]++JE aA i else Bs (vE aA i)
def Jq (aA:List Itm) (i:Nat) (frm:Int):Prop:=frm= -1\/∃f:Nat,frm=f/\f<aA.length/\drawn (vE aA f)
theorem Z3j (I:drawn (vE z i)) (hf:Jq z i u):(∀p∈HQ z i u,bd 67108864 p)/\(HQ z i u).length<=65:=by
 unfold HQ;rcases hf with rfl|⟨f,rfl,L,D⟩
 ·rw[ab];exact⟨λp G=>Qgf I.1 p (dk G),by rw[fx];omega⟩
 ·rw[aa];obtain⟨M,N,O⟩:=Ig (aA:=z) (i:=(f:Int).toNat) (k:=i) (by simpa using D) I;exact⟨λp G=>AI (M p (dl G)) (by decide),by rw[dc];omega⟩
theorem P0 (D:∀k<z.length,AB (vE z k)->drawn (vE z k)) (M:0<=Bf z i):∃k:Nat,Bf z i=k/\k<z.length/\drawn (vE z k):=by
 rcases Qa0 z i with h|⟨-,-,k,L,-,G,I,-⟩
 ·omega
 ·exact⟨k,L,G,D k G ⟨by have:=I.1;omega,by have:=I.1;omega⟩⟩
theorem Z1y (L:drawn (vE z i)) (M:(vE z i).aP≠3) (D:∀k<z.length,AB (vE z k)->drawn (vE z k)):(∀p∈JE z i,bd 67108864 p)/\(JE z i).length<=66:=by
 unfold JE;by_cases h:0<=Bf z i
 ·rw[aa h];obtain⟨k,N,O,G⟩:=P0 D h;obtain⟨S,M,T⟩:=Ig (aA:=z) (i:=i) (k:=(Bf z i).toNat) L (by rw[N];simpa using G);exact⟨λp I=>AI (S p (dk I)) (by decide),by rw[fx];omega⟩
 ·rw[ab h];refine⟨λp I=>Qgf L.1 p (dl I),?_⟩;unfold Bs;rw[ab M];simp
theorem Sy (G:drawn (vE z i)) (hf:Jq z i u) (I:∀k<z.length,AB (vE z k)->drawn (vE z k)):
  (∀p∈Bo z i u,bd 67108864 p)/\(Bo z i u).length<=65537:=by
 unfold Bo;by_cases L:smI (vE z i)
 ·rw[aa L];obtain⟨M,O⟩:=Z3j G hf;obtain⟨N,S⟩:=Z1y G (by have:=L.1;omega) I;refine⟨λp D=> ?_,by rw[ap,ap];simp;omega⟩;rcases bq.1 D with D|D
  ·rcases bq.1 D with D|D
   ·exact M p D
   ·simp at D;subst D;exact AI (I_ G.1.2.1 G.1.2.2.1) (by decide)
  ·exact N p D
 ·rw[ab L];exact⟨Qgf G.1,(Qcm _).2⟩
theorem UA (l:List Pt):List.drop (Int.toNat 1) (l.map ptR)=(l.drop 1).map ptR:=by rw[show Int.toNat 1=1 from rfl,jq]
theorem Lk (l:List Pt):List.take (Int.toNat 1) (l.map ptR)=(l.take 1).map ptR:=by rw[show Int.toNat 1=1 from rfl,jp]
theorem Zt (n:Nat) (h:n<=1000000):O ((n:Int).tdiv 2)=((n/2:Nat):Int):=by
 rw[co (by omega),Ad];omega
theorem Zyz (hi:i<z.length) (S:drawn (vE z i)) (hf:Jq z i u) (N:∀k<z.length,AB (vE z k)->drawn (vE z k))
  (hK:T (Af (vE z i))=some [.vC kPt ((Bs (vE z i)).map ptR),B true]) (hM:V (Af (vE z i))=some [B (decide (smI (vE z i)))])
  (hJ:∀{i k:Nat},i<z.length->k<z.length->drawn (vE z i)->drawn (vE z k)->W [.vC Ae (z.map Af),I i,I k]=some [.vC kPt ((C5 z i k).map ptR)])
  (hS:Z [.vC Ae (z.map Af),I i]=some [I (Bf z i)]) (hC:M (Af (vE z i))=some (ptR (A2 (vE z i)))):
  Qcw M Z W V T [.vC Ae (z.map Af),I i,I u]=some [.vC kPt ((Bo z i u).map ptR)]:=by
 have r1:=CO hi;obtain⟨a6,a7⟩:=Qcm (vE z i);rw[Zmp];simp only[Af]at hK hM hC;have a2:(0:Int)<=(i:Int)/\(i:Int)<(z.length:Int):=by omega
 simp only[go_sem,ac,af,r1,hK,hM,hC,hS,ay,aa a2];unfold Bo;by_cases U:smI (vE z i)
 case neg=>rw[aa (by simp[U]),ab U]
 rw[ab (by simp[U]),aa U];have Y:(0:Nat)<=1/\(1:Int)<=((Bs (vE z i)).length:Int):=by omega
 rw[aa Y,aa Y];have a3:(vE z i).aP≠3:=by have:=U.1;omega
 have a8:(Bs (vE z i)).length=2:=by unfold Bs;rw[ab a3];rfl
 have G:∀(X:List Pt),X.length<=100->∀{c:Option (List AC)},(Bf z i<0->c=some [.vC kPt ((X++[A2 (vE z i)]++(Bs (vE z i)).drop 1).map ptR)])->
   ((h:0<=Bf z i)->c=some [.vC kPt ((X++[A2 (vE z i)]++(C5 z i (Bf z i).toNat).take ((C5 z i (Bf z i).toNat).length/2+1)).map ptR)])->c=some [.vC kPt ((X++[A2 (vE z i)]++JE z i).map ptR)]:=by
  intro X _ c h1 h2;unfold JE;by_cases h:0<=Bf z i
  ·rw[aa h];exact h2 h
  ·rw[ab h];exact h1 (by omega)
 rcases hf with rfl|⟨f,rfl,a4,a0⟩
 ·rw[ab (show¬(-1:Int)>=0 by omega)];unfold HQ;rw[ab (show¬(0:Int)<= -1 by omega)];refine G _ (by rw[fx];omega) (λa1=> ?_) (λD=> ?_)
  ·rw[ab,aa (by simp[Lk];omega),aa (by simp;omega),aa (by simp;omega)];simp only[Lk,UA,bp,be,da]
  ·obtain⟨k,hk,O,L⟩:=P0 N D;obtain⟨j1,j2,j3⟩:=Ig (aA:=z) (i:=i) (k:=k) S L;have hj:=hJ hi O S L;rw[hk]at D⊢;rw[aa];simp only[hj,go_sem,ac,af];rw[Zt _ (by omega),Ad];rw[aa,aa (by simp;omega),aa (by simp;omega),aa (by simp;omega)];have e:((((C5 z i k).length/2:Nat):Int)+1).toNat=(C5 z i k).length/2+1:=by omega
   simp only[Lk,e,bp,be,da,jp]
 ·have a5:=hJ a4 hi a0 S;obtain⟨f1,f2,f3⟩:=Ig (aA:=z) (i:=f) (k:=i) a0 S;rw[aa];simp only[a5,go_sem,ac,af];unfold HQ;rw[aa (show(0:Int)<=(f:Int) by omega),af,Zt _ (by omega),aa (show(0:Int)<=(((C5 z f i).length/2:Nat):Int)/\(((C5 z f i).length/2:Nat):Int)<=((C5 z f i).length:Int) by omega),af];refine G _ (by rw[dc];omega) (λa1=> ?_) (λD=> ?_)
  ·rw[ab,aa (by simp;omega),aa (by simp;omega),aa (by simp;omega)];simp only[UA,bp,be,da,jq]
  ·obtain⟨k,hk,O,L⟩:=P0 N D;obtain⟨j1,j2,j3⟩:=Ig (aA:=z) (i:=i) (k:=k) S L;have hj:=hJ hi O S L;rw[hk]at D⊢;rw[aa];simp only[hj,go_sem,ac,af];rw[Zt _ (by omega),Ad];rw[aa,aa (by simp;omega),aa (by simp;omega),aa (by simp;omega)];have e:((((C5 z i k).length/2:Nat):Int)+1).toNat=(C5 z i k).length/2+1:=by omega
   simp only[e,bp,be,da,jp,jq]
theorem Ykf (M:z.length<=1000000) {i:Nat} {frm:Int} (L:i<z.length) (G:drawn (vE z i)) (hf:Jq z i frm) (D:∀k<z.length,AB (vE z k)->drawn (vE z k)):
  Iw [.vC Ae (z.map Af),I i,I frm]=some [.vC kPt ((Bo z i frm).map ptR)]:=
 Zyz L G hf D (Zol G.1) (Q3i _) (λN O S T=>Yac N O S T) (Zbe M L) (Qso G.1.2.1 G.1.2.2.1)
end Go.Bm
namespace Go.Bm
open Classical
def Bp (it:Itm):Prop:=it.aP<1\/it.aP>14\/(AB it/\(¬BI it\/(it.aP≠1/\(it.aZ<1\/it.aZ>60000000))\/it.bH<0\/it.bH>1000))\/(¬AB it/\it.aP=8/\(it.n<3\/it.n>5\/it.aS<0\/it.aS>30000))
theorem Zwe {it:Itm} (hM:Z [I it.aP]=some [B (decide (1<=it.aP/\it.aP<=6))]) (hV:∃v,M (Af it)=some [B v]/\(v=true↔BI it)):
  ∃v,Qiy M Z (Af it)=some [B v]/\(v=true↔Bp it):=by
 obtain⟨v,hv,G⟩:=hV;rw[Z0f];simp only[go_sem,hM,hv];unfold Bp AB;by_cases N:it.aP<1
 ·rw[aa N];exact⟨_,rfl,by simp[N]⟩
 rw[ab N];by_cases S:it.aP>14
 ·rw[aa S];exact⟨_,rfl,by simp;omega⟩
 rw[ab S];by_cases O:1<=it.aP/\it.aP<=6
 ·rw[aa O];by_cases D:BI it
  ·rw[ab (by simp[G.2 D])];have a0:it.aP≠8:=by omega
   by_cases c5:it.aP=1
   ·rw[ab];by_cases L:it.bH<0
    ·rw[aa L];exact⟨_,rfl,fv rfl (by omega)⟩
    ·rw[ab L];refine⟨_,rfl,?_⟩;rw[cg];constructor
     ·intro h;omega
     ·rintro(h|h|⟨-,h|h|h|h⟩|h)
      ·omega
      ·omega
      ·exact absurd D h
      ·omega
      ·omega
      ·exact h
      ·omega
   ·rw[aa];by_cases T:it.aZ<1
    ·rw[aa T];exact⟨_,rfl,fv rfl (by omega)⟩
    rw[ab T];by_cases U:it.aZ>60000000
    ·rw[aa U];exact⟨_,rfl,fv rfl (by omega)⟩
    rw[ab U];by_cases L:it.bH<0
    ·rw[aa L];exact⟨_,rfl,fv rfl (by omega)⟩
    ·rw[ab L];refine⟨_,rfl,?_⟩;rw[cg];constructor
     ·intro h;omega
     ·rintro(h|h|⟨-,h|h|h|h⟩|h)
      ·omega
      ·omega
      ·exact absurd D h
      ·omega
      ·omega
      ·exact h
      ·omega
  ·rw[aa (λh=>D (G.1 h))];exact⟨_,rfl,fv rfl (.inr (.inr (.inl ⟨O, .inl D⟩)))⟩
 ·rw[ab O];by_cases D:it.aP=8
  ·rw[aa D];by_cases V:it.n<3
   ·rw[aa V];exact⟨_,rfl,fv rfl (by omega)⟩
   rw[ab V];by_cases X:it.n>5
   ·rw[aa X];exact⟨_,rfl,fv rfl (by omega)⟩
   rw[ab X];by_cases Y:it.aS<0
   ·rw[aa Y];exact⟨_,rfl,fv rfl (by omega)⟩
   rw[ab Y];refine⟨_,rfl,?_⟩;rw[cg];omega
  ·rw[ab D];exact⟨_,rfl,dg (by simp) (by omega)⟩
theorem Zwa (it:Itm):∃v,LU (Af it)=some [B v]/\(v=true↔Bp it):=Zwe (RR _) (Yq it)
theorem Yev (it:Itm):LU (Af it)=some [B (decide (Bp it))]:=by
 obtain⟨v,G,D⟩:=Zwa it;rw[G];congr 2;by_cases c:Bp it
 ·rw[ah c,D.2 c]
 ·rw[al c];cases v
  ·rfl
  ·exact absurd (D.1 rfl) c
noncomputable def EB (aA:List Itm):Nat->Nat->Int->Int
 |0,_,_=>0
 |k+1,i,last=>if Bp (vE aA i)then 1 else if AB (vE aA i)then(if 0<=last/\(vE aA last.toNat).to≠(vE aA i).fr then 13 else EB aA k (i+1) i)else EB aA k (i+1) last
theorem Qkc {S T:Fn} {aA:List Itm} (U:∀k:Int,S [I k]=some [B (decide (1<=k/\k<=6))]) (V:∀it,T (Af it)=some [B (decide (Bp it))]) (hl:aA.length<=1000000):
  ∀(k i:Nat) (last:Int),i+k=aA.length->(last= -1\/(0<=last/\last<i))->
  (Al (Ku S T) [.vC Ae (aA.map Af),I last, .vC Ae (aA.map Af),I aA.length,I i]=some (1,[I (EB aA k i last)])/\EB aA k i last≠0)\/
  (Al (Ku S T) [.vC Ae (aA.map Af),I last, .vC Ae (aA.map Af),I aA.length,I i]=some (2,[])/\EB aA k i last=0)
 |0,i,last,hi,_=>by
  right;refine⟨AJ ?_ (by simp),rfl⟩;rw[Qxo];simp only[go_sem];rw[ab]
 |k+1,i,last,hi,X=>by
  have Y:i<aA.length:=by omega
  have hr:=CO Y;have hw:=V (vE aA i);have hm:=U (vE aA i).aP;have a0:(0:Int)<=(i:Int)/\(i:Int)<(aA.length:Int):=by omega
  have D:Ku S T [.vC Ae (aA.map Af),I last, .vC Ae (aA.map Af),I aA.length,I i]=if Bp (vE aA i)then some (1,[I 1])else if AB (vE aA i)then(if 0<=last/\(vE aA last.toNat).to≠(vE aA i).fr then some (1,[I 13])else some (0,[.vC Ae (aA.map Af),I i, .vC Ae (aA.map Af),I aA.length,I (i+1:Nat)]))else some (0,[.vC Ae (aA.map Af),I last, .vC Ae (aA.map Af),I aA.length,I (i+1:Nat)]):=by
   rw[Qxo];simp only[Af]at hw;simp only[go_sem,ac,af,hr,hw,hm,aa a0];rw[aa,Ad];by_cases G:Bp (vE aA i)
   ·rw[aa G,aa G]
   rw[ab G,ab G];by_cases M:AB (vE aA i)
   ·rw[ab (λh=>h M),aa M];rcases X with rfl|⟨h1,h2⟩
    ·rw[ab (show¬(-1:Int)>=0 by omega),ab (λh=>by omega)];rfl
    ·obtain⟨L,rfl⟩:=bc h1;have hL:L<aA.length:=by omega
     have O:(0:Int)<=(L:Int)/\(L:Int)<(aA.length:Int):=by omega
     have a1:=CO hL;simp only[af,a1,go_sem,aa O];rw[aa];by_cases N:(vE aA L).to=(vE aA i).fr
     ·have c4:=B2.1 N;rw[ab (λh=>h ⟨c4.1,c4.2.1,c4.2.2,trivial⟩),ab (λh=>h.2 N)];rfl
     ·rw[aa (λh=>N (B2.2 ⟨h.1,h.2.1,h.2.2.1⟩)),aa ⟨h1,N⟩]
   ·rw[aa (show¬(1<=(vE aA i).aP/\(vE aA i).aP<=6)from M),ab M];rfl
  unfold EB;by_cases G:Bp (vE aA i)
  ·rw[aa G]at D⊢;exact .inl ⟨AJ D (by simp),by simp⟩
  ·rw[ab G]at D⊢;by_cases M:AB (vE aA i)
   ·rw[aa M]at D⊢;by_cases N:0<=last/\(vE aA last.toNat).to≠(vE aA i).fr
    ·rw[aa N]at D⊢;exact .inl ⟨AJ D (by simp),by simp⟩
    ·rw[ab N]at D⊢;rw[AS D];exact Qkc U V hl k (i+1) i (by omega) (.inr (by omega))
   ·rw[ab M]at D⊢;rw[AS D];exact Qkc U V hl k (i+1) last (by omega) (by omega)
noncomputable def BY (aA:List Itm):Int:=if aA.length>20000 then 10 else EB aA aA.length 0 (-1)
theorem Ycj {aA:List Itm} (G:∀k:Int,M [I k]=some [B (decide (1<=k/\k<=6))]) (L:∀it,Z (Af it)=some [B (decide (Bp it))]):
  ZY M Z (Al (Ku M Z)) [.vC Ae (aA.map Af)]=some [I (BY aA)]:=by
 rw[Zs7];simp only[go_sem,ac];unfold BY;by_cases D:aA.length>20000
 ·rw[aa,aa D]
 ·rw[ab,ab D];rcases Qkc G L (aA:=aA) (by omega) aA.length 0 (-1) (by omega) (.inl rfl)with⟨h,-⟩|⟨h,N⟩
  ·have h':Al (Ku M Z) [.vC Ae (aA.map Af),I (-1), .vC Ae (aA.map Af),I aA.length,I 0]=some (1,[I (EB aA aA.length 0 (-1))]):=h;simp only[h',go_sem]
  ·have h':Al (Ku M Z) [.vC Ae (aA.map Af),I (-1), .vC Ae (aA.map Af),I aA.length,I 0]=some (2,[]):=h;simp only[h',go_sem,N];simp
theorem Z9l (aA:List Itm):H6 [.vC Ae (aA.map Af)]=some [I (BY aA)]:=Ycj RR Yev
theorem XL {aA:List Itm}:∀(k i:Nat) (last:Int),i+k=aA.length->EB aA k i last=0->∀j,i<=j->j<aA.length-> ¬Bp (vE aA j)
 |0,i,last,I,_,j,L,D=>by omega
 |k+1,i,last,I,h,j,L,D=>by
  unfold EB at h;split at h
  ·omega
  ·rename_i c;by_cases G:j=i
   ·subst G;exact c
   ·split at h
    ·split at h
     ·omega
     ·exact XL k (i+1) _ (by omega) h j (by omega) D
    ·exact XL k (i+1) _ (by omega) h j (by omega) D
theorem Nb (h:BY z=0):z.length<=20000/\∀j,j<z.length-> ¬Bp (vE z j):=by
 unfold BY at h;split at h
 ·omega
 ·exact⟨by omega,λj D=>XL _ 0 _ (by omega) h j (by omega) D⟩
theorem Jc {it:Itm} (h: ¬Bp it) (D:AB it):drawn it/\(it.aP=1\/1<=it.aZ/\it.aZ<=60000000):=by
 unfold Bp at h;have G:BI it:=by
  by_cases c:BI it
  ·exact c
  ·exact absurd (.inr (.inr (.inl ⟨D, .inl c⟩))) h
 have I: ¬((it.aP≠1/\(it.aZ<1\/it.aZ>60000000))\/it.bH<0\/it.bH>1000):=λc=>h (.inr (.inr (.inl ⟨D, .inr c⟩)));exact⟨⟨G,by omega,by omega⟩,by omega⟩
theorem Z5v {it:Itm} (h: ¬Bp it) (D:it.aP=8):0<=it.aS/\it.aS<=30000:=by
 unfold Bp at h;have G: ¬AB it:=λc=>by have:=c.2;omega
 have I: ¬(it.n<3\/it.n>5\/it.aS<0\/it.aS>30000):=λc=>h (.inr (.inr (.inr ⟨G,D,c⟩)));omega
noncomputable def AP (aU aZ aX:Int) (s:List Sgm×Int×Pt) (q:Pt):List Sgm×Int×Pt:=if q=s.2.2 then s else(s.1++[⟨q,Au s.2.2 q,aU,aZ,aX⟩],s.2.1+Au s.2.2 q,q)
theorem Qo4 {MK MSo ML MP MSy MR MF MO MM MC:Fn} {aA:List Itm} {pts:List Pt} (V:∀{a b:Pt},bd 67108864 a->bd 67108864 b->ML [I a.x,I a.y,I a.z,I b.x,I b.y,I b.z]=some [I (Au a b)]/\0<=Au a b/\Au a b<=268435456)
  (D:∀p∈pts,bd 67108864 p) (S:pts.length<=1000000) {aD:List Mrk} {aS i i2 n aU aZ aX:Int} {bI:Bool} {st:Pt}:
  ∀(k j:Nat) (s:List Sgm×Int×Pt) (g:Pt) (G:Int),j+k=pts.length->s.1.length+k<=1048576->0<=s.2.1->s.2.1+k*268435456<=4000000000000000000->bd 67108864 s.2.2->
  Al (RA MK MSo ML MP MSy MR MF MO MM MC) [.vC Ag (s.1.map Az), .vC AA (aD.map Aq), .vC Ae (aA.map Af),I s.2.1,I aS,B bI,I i, .vC Ae (aA.map Af),I n,I i2, .vC kPt (pts.map ptR),I pts.length,I j,I 0,I 0,I 0, .vC Ag [], .vC AA [],I st.x,I st.y,I st.z,I s.2.2.x,I s.2.2.y,I s.2.2.z,I g.x,I g.y,I g.z,I G,I aU,I aZ,I aX]=
   some (2,[.vC Ag (((pts.drop j).foldl (AP aU aZ aX) s).1.map Az), .vC AA (aD.map Aq), .vC Ae (aA.map Af),I ((pts.drop j).foldl (AP aU aZ aX) s).2.1,I aS,B bI,I i, .vC Ae (aA.map Af),I n,I i2,I 0,I 0,I 0, .vC Ag [], .vC AA [],I st.x,I st.y,I st.z,I ((pts.drop j).foldl (AP aU aZ aX) s).2.2.x,I ((pts.drop j).foldl (AP aU aZ aX) s).2.2.y,I ((pts.drop j).foldl (AP aU aZ aX) s).2.2.z])
 |0,j,s,g,G,hj,_,_,_,_=>by
  refine AJ ?_ (by simp);rw[XB];simp only[go_sem];rw[ab,cz (by omega)];rfl
 |k+1,j,s,g,G,hj,hs,T,X,L=>by
  have M:j<pts.length:=by omega
  have hr:nth [] (pts.map ptR) j=ptR pts[j]:=Em _ _ _ _ M;have hq:=D _ (bh M);have U:(0:Int)<=(j:Int)/\(j:Int)<(pts.length:Int):=by omega
  rw[KM pts j M,dz];generalize pts[j]=q at*;obtain⟨aF,len,at_⟩:=s;simp only at hs T X L;obtain⟨e1,e2,e3⟩:=V L hq;have hw:O ((j:Int)+1)=((j+1:Nat):Int):=by rw[Ad];omega
  by_cases c:q=at_
  ·have N:RA MK MSo ML MP MSy MR MF MO MM MC [.vC Ag (aF.map Az), .vC AA (aD.map Aq), .vC Ae (aA.map Af),I len,I aS,B bI,I i, .vC Ae (aA.map Af),I n,I i2, .vC kPt (pts.map ptR),I pts.length,I j,I 0,I 0,I 0, .vC Ag [], .vC AA [],I st.x,I st.y,I st.z,I at_.x,I at_.y,I at_.z,I g.x,I g.y,I g.z,I G,I aU,I aZ,I aX]=
     some (0,[.vC Ag (aF.map Az), .vC AA (aD.map Aq), .vC Ae (aA.map Af),I len,I aS,B bI,I i, .vC Ae (aA.map Af),I n,I i2, .vC kPt (pts.map ptR),I pts.length,I (j+1:Nat),I 0,I 0,I 0, .vC Ag [], .vC AA [],I st.x,I st.y,I st.z,I at_.x,I at_.y,I at_.z,I g.x,I g.y,I g.z,I G,I aU,I aZ,I aX]):=by
    have Y:=B2.1 c;rw[XB];simp only[go_sem,ac,af,hr,aa U,hw];rw[aa,aa ⟨Y.1,Y.2.1,Y.2.2,trivial⟩]
   rw[AS N];have:=Qo4 (MK:=MK) (MSo:=MSo) (ML:=ML) (MP:=MP) (MSy:=MSy) (MR:=MR) (MF:=MF) (MO:=MO) (MM:=MM) (MC:=MC) (aA:=aA) V D S (aD:=aD) (aS:=aS) (i:=i) (i2:=i2) (n:=n) (aU:=aU) (aZ:=aZ) (aX:=aX) (bI:=bI) (st:=st) k (j+1) (aF,len,at_) g G (by omega) (by simp only;omega) T (by simp only;omega) L;rw[this];have e:AP aU aZ aX (aF,len,at_) q=(aF,len,at_):=aa c;rw[e]
  ·have N:RA MK MSo ML MP MSy MR MF MO MM MC [.vC Ag (aF.map Az), .vC AA (aD.map Aq), .vC Ae (aA.map Af),I len,I aS,B bI,I i, .vC Ae (aA.map Af),I n,I i2, .vC kPt (pts.map ptR),I pts.length,I j,I 0,I 0,I 0, .vC Ag [], .vC AA [],I st.x,I st.y,I st.z,I at_.x,I at_.y,I at_.z,I g.x,I g.y,I g.z,I G,I aU,I aZ,I aX]=
     some (0,[.vC Ag ((aF++[(⟨q,Au at_ q,aU,aZ,aX⟩:Sgm)]).map Az), .vC AA (aD.map Aq), .vC Ae (aA.map Af),I (len+Au at_ q),I aS,B bI,I i, .vC Ae (aA.map Af),I n,I i2, .vC kPt (pts.map ptR),I pts.length,I (j+1:Nat),I 0,I 0,I 0, .vC Ag [], .vC AA [],I st.x,I st.y,I st.z,I q.x,I q.y,I q.z,I q.x,I q.y,I q.z,I (Au at_ q),I aU,I aZ,I aX]):=by
    have a0:(aF.map Az++[[AC.int IntKind.i64 q.x,AC.int IntKind.i64 q.y,AC.int IntKind.i64 q.z,AC.int IntKind.i64 (Au at_ q),AC.int IntKind.i64 aU,AC.int IntKind.i64 aZ,AC.int IntKind.i64 aX]])=(aF++[(⟨q,Au at_ q,aU,aZ,aX⟩:Sgm)]).map Az:=by rw[bp];rfl
    rw[XB];simp only[go_sem,ac,af,hr,aa U,hw,e1];rw[aa,ab (λh=>c (B2.2 ⟨h.1,h.2.1,h.2.2.1⟩)),a0,aa (by simp;omega),ab (by simp;omega),Ad]
   rw[AS N];have:=Qo4 (MK:=MK) (MSo:=MSo) (ML:=ML) (MP:=MP) (MSy:=MSy) (MR:=MR) (MF:=MF) (MO:=MO) (MM:=MM) (MC:=MC) (aA:=aA) V D S (aD:=aD) (aS:=aS) (i:=i) (i2:=i2) (n:=n) (aU:=aU) (aZ:=aZ) (aX:=aX) (bI:=bI) (st:=st) k (j+1) (aF++[⟨q,Au at_ q,aU,aZ,aX⟩],len+Au at_ q,q) q (Au at_ q) (by omega) (by simp;omega) (by simp only;omega) (by simp only;omega) hq;have e:AP aU aZ aX (aF,len,at_) q=(aF++[⟨q,Au at_ q,aU,aZ,aX⟩],len+Au at_ q,q):=ab c;rw[e];exact this
theorem T0 {aU aZ aX:Int}:∀(D:List Pt) (s:List Sgm×Int×Pt),(∀p∈D,bd 67108864 p)->bd 67108864 s.2.2->0<=s.2.1->
  (D.foldl (AP aU aZ aX) s).1.length<=s.1.length+D.length/\s.2.1<=(D.foldl (AP aU aZ aX) s).2.1/\(D.foldl (AP aU aZ aX) s).2.1<=s.2.1+D.length*268435456/\bd 67108864 (D.foldl (AP aU aZ aX) s).2.2
 |[],s,_,I,N=>⟨by simp,by simp,by simp,I⟩
 |q::D,s,L,I,N=>by
  rw[dz];have O:=L q (by simp);have S:=Gf I O;have G:AP aU aZ aX s q=s\/AP aU aZ aX s q=(s.1++[⟨q,Au s.2.2 q,aU,aZ,aX⟩],s.2.1+Au s.2.2 q,q):=by unfold AP;split<;>simp
  rcases G with G|G
  ·rw[G];obtain⟨a,b,c,d⟩:=T0 D s (λp M=>L p (by simp[M])) I N (aU:=aU) (aZ:=aZ) (aX:=aX);exact⟨by simp;omega,b,by simp;omega,d⟩
  ·rw[G];obtain⟨a,b,c,d⟩:=T0 D (s.1++[⟨q,Au s.2.2 q,aU,aZ,aX⟩],s.2.1+Au s.2.2 q,q) (λp M=>L p (by simp[M])) O (by simp only;omega) (aU:=aU) (aZ:=aZ) (aX:=aX);simp only[ap,bf,bv]at a b c;exact⟨by simp;omega,by omega,by simp;omega,d⟩
structure BSt where
 aF:List Sgm
 aD:List Mrk
 (len aS frm:Int)
 bI:Bool
 (aQ at_:Pt)
def Gs (it:Itm):Int:=if syI it then mn (it.aZ*16) 16777216 else 0
def OT (it:Itm) (s:Int):Int:=if it.aP=8/\(it.n=3\/it.n=4)then it.aS else s
noncomputable def Fi (aA:List Itm) (i:Nat) (s:BSt):List Sgm×Int×Pt:=
 (Bo aA i s.frm).foldl (AP i (Es (vE aA i) s.aS) (Gs (vE aA i))) (s.aF,s.len,if s.bI=true then s.at_ else Av (vE aA i).fr)
noncomputable def Dz (aA:List Itm) (i:Nat) (s:BSt):BSt:=
 if AB (vE aA i)then
  ⟨(Fi aA i s).1,s.aD++[⟨(Fi aA i s).2.1,E5 aA i,i⟩],(Fi aA i s).2.1,s.aS,if 0<=Bf aA i then i else-1,true,if s.bI=true then s.aQ else Av (vE aA i).fr,(Fi aA i s).2.2⟩
 else⟨s.aF,s.aD++[⟨s.len,Kl (vE aA i),i⟩],s.len,OT (vE aA i) s.aS,s.frm,s.bI,s.aQ,s.at_⟩
noncomputable def As (aA:List Itm):Nat->BSt
 |0=>⟨[],[],0,0,-1,false,⟨0,0,0⟩,⟨0,0,0⟩⟩
 |i+1=>Dz aA i (As aA i)
abbrev J5 (aA:List Itm) (i:Nat) (s:BSt):List AC:=
 [.vC Ag (s.aF.map Az), .vC AA (s.aD.map Aq), .vC Ae (aA.map Af),I s.len,I s.aS,I s.frm,B s.bI, .vC Ae (aA.map Af),I aA.length,I i,I 0,I 0,I 0, .vC Ag [], .vC AA [],I s.aQ.x,I s.aQ.y,I s.aQ.z,I s.at_.x,I s.at_.y,I s.at_.z]
structure BOK (aA : List Itm) (i : Nat) (s : BSt) : Prop where
 aF:s.aF.length<=i*65537
 aD:s.aD.length=i
 len:0<=s.len/\s.len<=i*65537*268435456
 aS:0<=s.aS/\s.aS<=30000
 frm:Jq aA i s.frm
 at_:s.bI=true->bd 67108864 s.at_
theorem Zhg {s:BSt} (L:i<z.length) (D:∀j<z.length,¬Bp (vE z j)) (h:BOK z i s):BOK z (i+1) (Dz z i s):=by
 have G:∀k<z.length,AB (vE z k)->drawn (vE z k):=λk N I=>(Jc (D k N) I).1;unfold Dz;by_cases I:AB (vE z i)
 ·rw[aa I];have M:=G i L I;obtain⟨O,X⟩:=Sy M h.frm G;have S:bd 67108864 (if s.bI=true then s.at_ else Av (vE z i).fr):=by
   by_cases hb:s.bI=true
   ·rw[aa hb];exact h.at_ hb
   ·rw[ab hb];exact AI (DA M.1.2.1) (by decide)
  obtain⟨a1,a2,a3,a4⟩:=T0 (aU:=i) (aZ:=Es (vE z i) s.aS) (aX:=Gs (vE z i)) (Bo z i s.frm) (s.aF,s.len,if s.bI=true then s.at_ else Av (vE z i).fr) O S h.len.1;have Y:=h.aF;have T:=h.len;have e1:(i+1)*65537=i*65537+65537:=by rw[gi]
  refine⟨?_,?_,?_,h.aS,?_,λ_=>a4⟩
  ·simp only at a1;show(Fi z i s).1.length<=_;unfold Fi;omega
  ·show(s.aD++[_]).length=_;rw[ap,h.aD];rfl
  ·show 0<=(Fi z i s).2.1/\(Fi z i s).2.1<=_;unfold Fi;simp only at a2 a3;have e2:(((i+1:Nat):Int))*65537*268435456=(i:Int)*65537*268435456+65537*268435456:=by
    rw[gv,jg,jh,jh];rfl
   constructor
   ·omega
   ·rw[e2];omega
  ·show Jq z (i+1) (if 0<=Bf z i then(i:Int)else-1);split
   ·exact .inr ⟨i,rfl,L,M⟩
   ·exact .inl rfl
 ·rw[ab I];have T:=h.len;have U:=h.aF;have e1:(i+1)*65537=i*65537+65537:=by rw[gi]
  refine⟨by show s.aF.length<=_;rw[e1];exact bj U (Nat.le_add_right _ _),?_,?_,?_,h.frm,h.at_⟩
  ·show(s.aD++[_]).length=_;rw[ap,h.aD];rfl
  ·have e2:(((i+1:Nat):Int))*65537*268435456=(i:Int)*65537*268435456+65537*268435456:=by
    rw[gv,jg,jh,jh];rfl
   show 0<=s.len/\s.len<=_;rw[e2];omega
  ·show 0<=OT (vE z i) s.aS/\OT (vE z i) s.aS<=30000;unfold OT;split
   ·rename_i V;exact Z5v (D i L) V.1
   ·exact h.aS
theorem Yhu (aA:List Itm):BOK aA 0 ⟨[],[],0,0,-1,false,⟨0,0,0⟩,⟨0,0,0⟩⟩:=by
 refine⟨Nat.zero_le _,bv,⟨f6 _,?_⟩,⟨f6 _,?_⟩, .inl rfl,λh=>by cases h⟩
 ·show(0:Int)<=((0:Nat):Int)*65537*268435456;rw[show((0:Nat):Int)=0 from rfl,jk,jk];exact f6 _
 ·show(0:Int)<=30000;omega
theorem LX {aA:List Itm} (D:∀j<aA.length,¬Bp (vE aA j)):∀i,i<=aA.length->BOK aA i (As aA i)
 |0,_=>by rw[As];exact Yhu aA
 |i+1,G=>by rw[As];exact Zhg (by omega) D (LX D i (by omega))
theorem Qr (aD:List Mrk) (a k i:Int):aD.map Aq++[[AC.int IntKind.i64 a,AC.int IntKind.i64 k,AC.int IntKind.i64 i]]=(aD++[(⟨a,k,i⟩:Mrk)]).map Aq:=by rw[bp];rfl
theorem Zr0 {MK a1 ML MP a2 MR MF MO MM MC:Fn} {s:BSt} (hi:i<o.length) (hlen:o.length<=1000) (a8:s.aD.length=i)
  (hM:MM [I (vE o i).aP]=some [B (decide (AB (vE o i)))]) (hO:MO (Af (vE o i))=some [I (Kl (vE o i))])
  (hF:AB (vE o i)->MF [I (vE o i).fr.x,I (vE o i).fr.y,I (vE o i).fr.z]=some (ptR (Av (vE o i).fr)))
  (Y:AB (vE o i)->MR (Af (vE o i)++[I s.aS])=some [I (Es (vE o i) s.aS)])
  (G:a2 (Af (vE o i))=some [B (decide (syI (vE o i)))])
  (S:syI (vE o i)->0<=(vE o i).aZ/\(vE o i).aZ<=60000000)
  (hP:AB (vE o i)->MP [.vC Ae (o.map Af),I i,I s.frm]=some [.vC kPt ((Bo o i s.frm).map ptR)])
  (X:a1 [.vC Ae (o.map Af),I i]=some [I (Bf o i)]) (hK:MK [.vC Ae (o.map Af),I i]=some [I (E5 o i)])
  (a6:s.bI=true->bd 67108864 s.at_) (a7:AB (vE o i)->bd 67108864 (Av (vE o i).fr))
  (hN : AB (vE o i) -> ∀ (b : Bool) (st a : Pt) (aZ aX : Int), bd 67108864 a -> N [.vC Ag (s.aF.map Az), .vC AA (s.aD.map Aq), .vC Ae (o.map Af), I s.len, I s.aS, B b, I i, .vC Ae (o.map Af), I o.length, I i, .vC kPt ((Bo o i s.frm).map ptR), I (Bo o i s.frm).length, I 0, I 0, I 0, I 0, .vC Ag [], .vC AA [], I st.x, I st.y, I st.z, I a.x, I a.y, I a.z, I 0, I 0, I 0, I 0, I i, I aZ, I aX] =
   some (2,[.vC Ag (((Bo o i s.frm).foldl (AP i aZ aX) (s.aF,s.len,a)).1.map Az), .vC AA (s.aD.map Aq), .vC Ae (o.map Af),I ((Bo o i s.frm).foldl (AP i aZ aX) (s.aF,s.len,a)).2.1,I s.aS,B b,I i, .vC Ae (o.map Af),I o.length,I i,I 0,I 0,I 0, .vC Ag [], .vC AA [],I st.x,I st.y,I st.z,I ((Bo o i s.frm).foldl (AP i aZ aX) (s.aF,s.len,a)).2.2.x,I ((Bo o i s.frm).foldl (AP i aZ aX) (s.aF,s.len,a)).2.2.y,I ((Bo o i s.frm).foldl (AP i aZ aX) (s.aF,s.len,a)).2.2.z])):
  P4 MK a1 ML MP a2 MR MF MO MM MC N (J5 o i s)=some (0,J5 o (i+1) (Dz o i s)):=by
 have hr:=CO hi;have a3:(0:Int)<=(i:Int)/\(i:Int)<(o.length:Int):=by omega
 have hw:O ((i:Int)+1)=((i+1:Nat):Int):=by rw[Ad];omega
 have hb:(s.aD.length+1)*24<=140737488355328:=by omega
 unfold J5;rw[Zhh];simp only[Af,ax,ay]at hO Y G;by_cases V:AB (vE o i)
 ·have hF:=hF V;have Y:=Y V;have hP:=hP V;have hN:=hN V;have h8: ¬(vE o i).aP=8:=λh=>by have:=V.2;omega
  have hd:=ah V;rw[hd]at hM;unfold Dz Fi;rw[aa V];simp only[go_sem,ac,af,hr,aa a3,hw,hM];rw[aa,ab h8];have a4:∀f:Int,0<=f/\f<=60000000->O (f*16)=f*16:=λf hf=>Ad;by_cases a0:s.bI=true
  ·have T:=fun(aZ aX:Int)=>hN true s.aQ s.at_ aZ aX (a6 a0);rw[a0]at*;by_cases U:syI (vE o i)
   ·have L:=ah U;rw[L]at G;have M:Gs (vE o i)=mn ((vE o i).aZ*16) 16777216:=aa U;simp only[go_sem,Y,G,hP,a4 _ (S U),ac,T,X,hK,ap,ac,bf,bv,Qr,hw,aa hb,M];by_cases D:0<=Bf o i
    ·simp[D]
    ·simp[D]
   ·have L:=al U;rw[L]at G;have M:Gs (vE o i)=0:=ab U;simp only[go_sem,Y,G,hP,ac,T,X,hK,ap,ac,bf,bv,Qr,hw,aa hb,M];by_cases D:0<=Bf o i
    ·simp[D]
    ·simp[D]
  ·have a5:s.bI=false:=by simpa using a0
   have T:=fun(aZ aX:Int)=>hN true (Av (vE o i).fr) (Av (vE o i).fr) aZ aX (a7 V);rw[a5];by_cases U:syI (vE o i)
   ·have L:=ah U;rw[L]at G;have M:Gs (vE o i)=mn ((vE o i).aZ*16) 16777216:=aa U;simp only[go_sem,hF,Y,G,hP,a4 _ (S U),ac,T,X,hK,ap,ac,bf,bv,Qr,hw,aa hb,M];by_cases D:0<=Bf o i
    ·simp[D]
    ·simp[D]
   ·have L:=al U;rw[L]at G;have M:Gs (vE o i)=0:=ab U;simp only[go_sem,hF,Y,G,hP,ac,T,X,hK,ap,ac,bf,bv,Qr,hw,aa hb,M];by_cases D:0<=Bf o i
    ·simp[D]
    ·simp[D]
 ·have hd:=al V;rw[hd]at hM;unfold Dz OT;rw[ab V];simp only[go_sem,ac,af,hr,aa a3,hw,hM,hO,ap,bf,bv,Qr,aa hb];rw[aa];by_cases h8:(vE o i).aP=8
  ·by_cases h3:(vE o i).n=3
   ·simp[h8,h3]
   ·by_cases h4:(vE o i).n=4
    ·simp[h8,h4]
    ·simp[h8,h3,h4]
  ·simp[h8]
theorem Zov {it:Itm} (hf:it.aP=1\/1<=it.aZ/\it.aZ<=60000000) (G:0<=u/\u<=30000):GS (Af it++[I u])=some [I (Es it u)]:=by
 by_cases D:it.aP=1
 ·unfold GS Es;generalize F3=M;have h:=Zgy (Dj:=M) it.aP it.block it.fr.x it.fr.y it.fr.z it.to.x it.to.y it.to.z it.aG it.ce.x it.ce.y it.ce.z it.dir it.bG it.aZ it.perRev it.side it.radius it.bH it.n it.aS it.on u;rw[aa D];refine cy h ?_;rw[BO (by simp[D])]
 ·exact Yga (by omega) G
noncomputable def AM (aA:List Itm):Pth:=⟨(As aA aA.length).aQ,(As aA aA.length).aF,(As aA aA.length).aD⟩
theorem Zut (hlen:z.length<=15) (D:∀j<z.length,¬Bp (vE z j)) {i:Nat} (M:i<z.length):
  P4 Is F9 Gg Iw Fz GS Ek H0 CT H6 P5 (J5 z i (As z i))=some (0,J5 z (i+1) (As z (i+1))):=by
 have hb:=LX D i (by omega);have L:∀k<z.length,AB (vE z k)->drawn (vE z k):=λk V G=>(Jc (D k V) G).1;have I:=Jc (D i M);rw[As];generalize As z i=s at*;refine Zr0 M (by omega) hb.aD (RR _) (Z88 _) (λG=>Qf4 (AI (I G).1.1.2.1 (by decide))) (λG=>Zov (I G).2 hb.aS) (Ze9 _) (λS=> ?_)
  (λG=>Ykf (by omega) M (I G).1 hb.frm L) (Zbe (by omega) M) (Yav (by omega) M) hb.at_ (λG=>AI (DA (I G).1.1.2.1) (by decide)) λG b st a aZ aX X=> ?_
 ·have G:AB (vE z i):=by rcases S with h|h<;>exact⟨by omega,by omega⟩
  have N:=(I G).2;rcases S with h|h<;>omega
 ·obtain⟨Y,p2⟩:=Sy (I G).1 hb.frm L;have T:=hb.aF;have O:=hb.len;have key:=Qo4 (MK:=Is) (MSo:=F9) (ML:=Gg) (MP:=Iw) (MSy:=Fz) (MR:=GS) (MF:=Ek) (MO:=H0) (MM:=CT) (MC:=H6)
   (aA:=z) (pts:=Bo z i s.frm) (λU N=>⟨(ZK U N).1,Gf U N⟩) Y (by omega) (aD:=s.aD) (aS:=s.aS) (i:=i) (i2:=i) (n:=z.length) (aU:=i) (aZ:=aZ) (aX:=aX) (bI:=b) (st:=st)
   (Bo z i s.frm).length 0 (s.aF,s.len,a) ⟨0,0,0⟩ 0 (by omega) (by simp only;omega) O.1 (by simp only;omega) X
  rw[fh]at key;exact key
theorem Q99 {aA:List Itm} (hlen:aA.length<=15) (D:∀j<aA.length,¬Bp (vE aA j)):∀(k i:Nat),i+k=aA.length->
  Al (P4 Is F9 Gg Iw Fz GS Ek H0 CT H6 P5) (J5 aA i (As aA i))=
   some (2,[.vC Ag ((AM aA).aF.map Az), .vC AA ((AM aA).aD.map Aq),I 0,I 0,I 0, .vC Ag [], .vC AA [],I (AM aA).aQ.x,I (AM aA).aQ.y,I (AM aA).aQ.z])
 |0,i,G=>by
  obtain rfl:i=aA.length:=by omega
  refine AJ ?_ (by simp);unfold J5 AM;rw[Zhh,AR (by omega)]
 |k+1,i,G=>by
  rw[AS (Zut hlen D (by omega))];exact Q99 hlen D k (i+1) (by omega)
theorem Z59 {MK D ML O G S T U V N:Fn} {L M:Lp} (X:N [.vC Ae (z.map Af)]=some [I u])
  (Y:u=0->M (J5 z 0 (As z 0))=some (2,[.vC Ag ((AM z).aF.map Az), .vC AA ((AM z).aD.map Aq),I 0,I 0,I 0, .vC Ag [], .vC AA [],I (AM z).aQ.x,I (AM z).aQ.y,I (AM z).aQ.z])):
  W6 MK D ML O G S T U V N L M [.vC Ae (z.map Af)]=if u=0 then some (Bj (AM z)++[I 0])else some [I 0,I 0,I 0, .vC Ag [], .vC AA [],I u]:=by
 rw[Znw];simp only[go_sem,X,ac];by_cases he:u=0
 ·have h:=Y he;have h':M [.vC Ag [], .vC AA [], .vC Ae (z.map Af),I 0,I 0,I (-1),B false, .vC Ae (z.map Af),I z.length,I 0,I 0,I 0,I 0, .vC Ag [], .vC AA [],I 0,I 0,I 0,I 0,I 0,I 0]=_:=h;rw[ab (by simp[he]),aa he,h'];simp only[go_sem];rfl
 ·rw[aa he,ab he]
theorem Zrm (hlen:z.length<=15):QC [.vC Ae (z.map Af)]=if BY z=0 then some (Bj (AM z)++[I 0])else some [I 0,I 0,I 0, .vC Ag [], .vC AA [],I (BY z)]:=
 Z59 (Z9l z) λhe=>Q99 hlen (Nb he).2 z.length 0 (by omega)
def Fp:Pt->List Sgm->Pt
 |a,[]=>a
 |_,g::l=>Fp g.to l
abbrev B26:Nat:=67108864
def Pu:Pt->List Sgm->Prop
 |_,[]=>True
 |a,g::l=>g.len=Au a g.to/\g.to≠a/\bd B26 g.to/\Pu g.to l
def AT:List Sgm->Int
 |[]=>0
 |g::l=>g.len+AT l
theorem S8 (g:Sgm):∀(a:Pt) (l:List Sgm),Fp a (l++[g])=g.to
 |_,[]=>rfl
 |_,h::l=>by simp only[ax,Fp];exact S8 g h.to l
theorem Q9q {g:Sgm}:∀{a:Pt} {l:List Sgm},Pu a l->g.len=Au (Fp a l) g.to->g.to≠Fp a l->bd B26 g.to->Pu a (l++[g])
 |a,[],_,D,G,I=>⟨D,G,I,trivial⟩
 |a,k::l,h,D,G,I=>⟨h.1,h.2.1,h.2.2.1,Q9q h.2.2.2 D G I⟩
theorem Qib (g:Sgm):∀(l:List Sgm),AT (l++[g])=AT l+g.len
 |[]=>by simp[AT]
 |k::l=>by simp only[ax,AT];rw[Qib g l];omega
def Qce (aQ:Pt) (s:List Sgm×Int×Pt):Prop:=Pu aQ s.1/\Fp aQ s.1=s.2.2/\AT s.1=s.2.1
theorem Qs9 {aQ:Pt} {aU aZ aX:Int}:∀(D:List Pt) (s:List Sgm×Int×Pt),(∀p∈D,bd B26 p)->Qce aQ s->Qce aQ (D.foldl (AP aU aZ aX) s)
 |[],s,_,h=>h
 |q::D,s,I,h=>by
  rw[dz];refine Qs9 D _ (λp G=>I p (by simp[G])) ?_;unfold AP;by_cases c:q=s.2.2
  ·rw[aa c];exact h
  ·rw[ab c];obtain⟨M,L,N⟩:=h;refine⟨Q9q M (by rw[L]) (by rw[L];exact c) (I q (by simp)),S8 _ _ _,?_⟩;simp only[Qib,N]
structure BInv (s : BSt) : Prop where
 bI:s.bI=true->bd B26 s.aQ/\Qce s.aQ (s.aF,s.len,s.at_)
 empty:s.bI=false->s.aF=[]/\s.len=0/\s.aQ=⟨0,0,0⟩
theorem Yem {s:BSt} (O:i<z.length) (D:∀j<z.length,¬Bp (vE z j)) (L:BOK z i s) (h:BInv s):BInv (Dz z i s):=by
 have G:∀k<z.length,AB (vE z k)->drawn (vE z k):=λk S I=>(Jc (D k S) I).1;unfold Dz;by_cases I:AB (vE z i)
 ·rw[aa I];have M:=G i O I;obtain⟨N,-⟩:=Sy M L.frm G;refine⟨λ_=> ?_,λhb=>(by cases hb)⟩;unfold Fi;by_cases hb:s.bI=true
  ·rw[aa hb,aa hb];obtain⟨g1,g2⟩:=h.bI hb;exact⟨g1,Qs9 _ _ N g2⟩
  ·rw[ab hb,ab hb];obtain⟨g1,g2,T⟩:=h.empty (by simpa using hb);refine⟨AI (DA M.1.2.1) (by decide),Qs9 _ _ N ?_⟩;rw[g1,g2];exact⟨trivial,rfl,rfl⟩
 ·rw[ab I];exact⟨h.bI,h.empty⟩
theorem To {aA:List Itm} (D:∀j<aA.length,¬Bp (vE aA j)):∀i,i<=aA.length->BInv (As aA i)
 |0,_=>by rw[As];exact⟨λh=>(by cases h),λ_=>⟨rfl,rfl,rfl⟩⟩
 |i+1,G=>by rw[As];exact Yem (by omega) D (LX D i (by omega)) (To D i (by omega))
structure GoodPath (p : Pth) : Prop where
 aQ:bd B26 p.aQ
 aF:Pu p.aQ p.aF
 count:p.aF.length<=983055
theorem Sg {aA:List Itm} (hlen:aA.length<=15) (I:BY aA=0):GoodPath (AM aA):=by
 have D:=(Nb I).2;have L:=LX D aA.length (bt _);have G:=To D aA.length (bt _);have N:=L.aF;unfold AM;by_cases hb:(As aA aA.length).bI=true
 ·obtain⟨g1,g2,-⟩:=G.bI hb;exact⟨g1,g2,by simp only;omega⟩
 ·obtain⟨g1,-,M⟩:=G.empty (by simpa using hb);refine⟨?_,?_,?_⟩
  ·simp only[M];unfold bd;simp
  ·simp only[g1];trivial
  ·simp only[g1];simp
theorem Zde (D:bd B26 a) (hb:bd B26 b) (h:b≠a):1<=Au a b/\Au a b<=268435456:=by
 obtain⟨L,G,-⟩:=XM D hb;have M:sqD a b≠0:=λe=>h (Rd.1 e).symm;have N:=Lt a b;have I:=Gf D hb;refine⟨?_,I.2⟩;by_cases c:Au a b=0
 ·rw[c]at G;omega
 ·omega
theorem Qpa {l:List Sgm} (I:bd B26 a) (h:Pu a l):∀g∈l,1<=g.len/\g.len<=268435456/\bd B26 g.to:=by
 induction l generalizing a with
 |nil=>simp
 |cons k l M=>
  obtain⟨N,L,D,O⟩:=h;intro g G;rcases av.1 G with rfl|G
  ·rw[N];exact⟨(Zde I D L).1,(Zde I D L).2,D⟩
  ·exact M D O g G
theorem Vu {l:List Sgm} (h:∀g∈l,1<=g.len/\g.len<=268435456/\bd B26 g.to):(l.length:Int)<=AT l/\AT l<=l.length*268435456:=by
 induction l with
 |nil=>simp[AT]
 |cons k l D=>
  have:=D λg G=>h g (by simp[G]);have:=h k (by simp);simp only[AT,bf];omega
def Pw (a:Pt) (g:Sgm) (d:Int):Pt:=⟨a.x+Bb ((g.to.x-a.x)*d) g.len,a.y+Bb ((g.to.y-a.y)*d) g.len,a.z+Bb ((g.to.z-a.z)*d) g.len⟩
def atL:Pt->List Sgm->Int->Pt
 |a,[],_=>a
 |a,g::l,s=>if s<g.len then Pw a g s else atL g.to l (s-g.len)
def atP (p:Pth) (s:Int):Pt:=atL p.aQ p.aF (max s 0)
def Bh:List Sgm->Int->Nat×Int
 |[],s=>(0,s)
 |[g],s=>if s<g.len then(0,s)else(0,g.len)
 |g::h::l,s=>if s<g.len then(0,s)else((Bh (h::l) (s-g.len)).1+1,(Bh (h::l) (s-g.len)).2)
def E4 (a:Pt) (l:List Sgm) (i:Nat):Pt:=Fp a (l.take i)
def sg0:Sgm:=⟨⟨0,0,0⟩,0,0,0,0⟩
def sgA (l:List Sgm) (i:Nat):Sgm:=l.getD i sg0
theorem OQ {l:List Sgm} (h:i<l.length):sgA l i=l[i]:=by unfold sgA;simp[h]
theorem La {l:List Sgm} (h:i<l.length):nth [] (l.map Az) i=Az (sgA l i):=by rw[OQ h];exact Em _ _ _ _ h
theorem H4 {l:List Sgm} (h:i<l.length):sgA l i∈l:=by rw[OQ h];exact bh h
theorem JX (a:Pt) (l:List Sgm):E4 a l 0=a:=by unfold E4;simp[Fp]
theorem WF (a:Pt) (g:Sgm) (l:List Sgm) (i:Nat):E4 a (g::l) (i+1)=E4 g.to l i:=by unfold E4;rw[List.take_succ_cons];rfl
theorem Qkx (g:Sgm) (l:List Sgm) (i:Nat):sgA (g::l) (i+1)=sgA l i:=by unfold sgA;simp
theorem TZ:∀{l:List Sgm} {i:Nat} {a:Pt},i<l.length->E4 a l (i+1)=(sgA l i).to
 |g::l,0,a,_=>by rw[WF,JX];rfl
 |g::l,i+1,a,h=>by rw[WF,Qkx];exact TZ (by simpa using h)
theorem Qny {x n:Int} (D:0<n):Bb (x*n) n=x:=U2 D
theorem Zmr {g:Sgm} (h:0<g.len):Pw a g g.len=g.to:=by
 unfold Pw;rw[Qny h,Qny h,Qny h];rw[B2];exact⟨by simp only;omega,by simp only;omega,by simp only;omega⟩
theorem Qli:∀{l:List Sgm} {a:Pt} {s:Int},l≠[]->(∀g∈l,1<=g.len)->0<=s->
  (Bh l s).1<l.length/\0<=(Bh l s).2/\(Bh l s).2<=(sgA l (Bh l s).1).len/\atL a l s=Pw (E4 a l (Bh l s).1) (sgA l (Bh l s).1) (Bh l s).2
 |[],_,_,h,_,_=>absurd rfl h
 |[g],a,s,_,D,G=>by
  have L:=D g (by simp);unfold Bh;by_cases c:s<g.len
  ·rw[aa c];refine⟨by simp,G,by show s<=g.len;omega,?_⟩;unfold atL;rw[aa c,JX];rfl
  ·rw[ab c];refine⟨by simp,by simp only;omega,f6 _,?_⟩;unfold atL;rw[ab c,JX];show atL g.to [] _=Pw a g g.len;rw[Zmr (by omega)];rfl
 |g::h::l,a,s,_,D,G=>by
  have L:=D g (by simp);unfold Bh;by_cases c:s<g.len
  ·rw[aa c];refine⟨by simp,G,by show s<=g.len;omega,?_⟩;unfold atL;rw[aa c,JX];rfl
  ·rw[ab c];obtain⟨M,N,O,S⟩:=Qli (l:=h::l) (a:=g.to) (s:=s-g.len) (by simp) (λk I=>D k (by simp at I⊢;exact .inr I)) (by omega);refine⟨by simp at M⊢;omega,N,?_,?_⟩
   ·simp only[Qkx];exact O
   ·rw[show atL a (g::h::l) s=atL g.to (h::l) (s-g.len)from by rw[atL,ab c]];simp only[WF,Qkx];exact S
theorem Qhs {x n:Int} (D:0<n) (h: -(A*n)<=x/\x<=A*n):(Bb x n).natAbs<=A:=by
 have m1:=SI D h.2;have m2:=SI D h.1;rw[show-((A:Int)*n)= -(A:Int)*n by rw[Int.neg_mul]]at m2;rw[U2 D]at m1 m2;omega
theorem Q1c {D L d:Int} (I:0<L) (M:D.natAbs<=134217728) (G:0<=d/\d<=L):(Bb (D*d) L).natAbs<=134217728:=by
 refine Qhs I ?_;have N:D*d<=134217728*d:=fj (by omega) G.1;have O: -134217728*d<=D*d:=fj (by omega) G.1;have e:((134217728:Nat):Int)=134217728:=rfl;rw[e];omega
structure SegOK (l : List Sgm) : Prop where
 seg:∀g∈l,1<=g.len/\g.len<=268435456/\bd B26 g.to
 count:l.length<=983055
theorem GoodPath.ok (h:GoodPath p):SegOK p.aF:=⟨Qpa h.aQ h.aF,h.count⟩
theorem Zi3 {l:List Sgm} (D:bd B26 a) (h:SegOK l) {i:Nat} (G:i<l.length):bd B26 (E4 a l i):=by
 cases i with
 |zero=>rw[JX];exact D
 |succ i=>rw[TZ (by omega)];exact(h.seg _ (H4 (by omega))).2.2
theorem Q0s {l:List Sgm} (h:SegOK l):∀(k i:Nat) (v:Int),i+k=l.length->0<=v->v+k*268435456<=4000000000000000000->
  Al Sv [I v, .vC Ag (l.map Az),I l.length,I i]=some (1,[I (v+AT (l.drop i))])
 |0,i,v,L,_,_=>by
  refine AJ ?_ (by simp);rw[Q7x,AR (by omega),cz (by omega)];simp[AT]
 |k+1,i,v,L,N,O=>by
  have D:i<l.length:=by omega
  have M:=h.count;have S:=h.seg _ (H4 D);have G:Sv [I v, .vC Ag (l.map Az),I l.length,I i]=some (0,[I (v+(sgA l i).len), .vC Ag (l.map Az),I l.length,I (i+1:Nat)]):=by
   rw[Q7x];simp only[go_sem,ac,af,La D];rw[aa,aa,Ad (x:=v+_),Ad];rfl
  rw[AS G,Q0s h k (i+1) _ (by omega) (by omega) (by omega)];have e:l.drop i=sgA l i::l.drop (i+1):=by rw[OQ D];exact KM _ _ D
  rw[e];simp only[AT,Int.add_assoc]
theorem Zdw (h:SegOK p.aF):JH (Bj p)=some [I (AT p.aF)]:=by
 have G:=Q0s h p.aF.length 0 0 (by omega) (by omega) (by have:=h.count;omega);have D:SJ [I 0, .vC Ag (p.aF.map Az),I p.aF.length,I 0]=some (1,[I (0+AT (p.aF.drop 0))]):=G;rw[fh,Int.zero_add]at D;unfold JH;generalize SJ=N at*;rw[Zwi];simp only[go_sem,ac,D]
theorem Zge {g h:Sgm} {l:List Sgm} {s:Int} (c: ¬s<g.len):Bh (g::h::l) s=((Bh (h::l) (s-g.len)).1+1,(Bh (h::l) (s-g.len)).2):=by rw[Bh,ab c]
theorem Q1z {p:Pth} (h:SegOK p.aF):∀(k i:Nat) (s:Int),i+k=p.aF.length->1<=k->0<=s/\s<=9223372036854775807->
  Al SW (I s:: .vC Ag (p.aF.map Az)::I p.aF.length::I i::Bj p)=some (1,[I (i+(Bh (p.aF.drop i) s).1:Nat),I (Bh (p.aF.drop i) s).2])
 |k+1,i,s,N,_,O=>by
  have G:i<p.aF.length:=by omega
  have M:=h.count;have S:=h.seg _ (H4 G);have e:p.aF.drop i=sgA p.aF i::p.aF.drop (i+1):=by rw[OQ G];exact KM _ _ G
  have D:SW (I s:: .vC Ag (p.aF.map Az)::I p.aF.length::I i::Bj p)=if s<(sgA p.aF i).len then some (1,[I i,I s])else if k=0 then some (1,[I i,I (sgA p.aF i).len])else some (0,I (s-(sgA p.aF i).len):: .vC Ag (p.aF.map Az)::I p.aF.length::I (i+1:Nat)::Bj p):=by
   rw[Zd4];simp only[go_sem,ac,af,La G];rw[aa,aa,Ad (x:=(p.aF.length:Int)-1),Ad (x:=(i:Int)+1)];by_cases c:s<(sgA p.aF i).len
   ·rw[aa c,aa c]
   ·rw[ab c,ab c];by_cases L:k=0
    ·rw[aa,aa L]
    ·rw[ab,ab L,Ad];rfl
  by_cases c:s<(sgA p.aF i).len
  ·rw[aa c]at D;rw[AJ D (by simp),e];cases p.aF.drop (i+1)with
   |nil=>rw[Bh,aa c];rfl
   |cons b l=>rw[Bh,aa c];rfl
  ·rw[ab c]at D;by_cases L:k=0
   ·rw[aa L]at D;rw[AJ D (by simp),e,cz (by omega),Bh,ab c];rfl
   ·rw[ab L]at D;rw[AS D,Q1z h k (i+1) _ (by omega) (by omega) (by omega),e];have e2:p.aF.drop (i+1)=sgA p.aF (i+1)::p.aF.drop (i+1+1):=by rw[OQ (show i+1<p.aF.length by omega)];exact KM _ _ (by omega)
    rw[e2,Zge c,<-e2];simp only;rw[show i+1+(Bh (p.aF.drop (i+1)) (s-(sgA p.aF i).len)).1=i+((Bh (p.aF.drop (i+1)) (s-(sgA p.aF i).len)).1+1) by omega]
theorem VX (h:SegOK p.aF) {s:Int} (hs:i64 s):EJ (Bj p++[I s])=if p.aF=[]then some [I (-1),I 0]else some [I (Bh p.aF (max s 0)).1,I (Bh p.aF (max s 0)).2]:=by
 unfold i64 at hs;have hmx:mx s 0=max s 0:=mx_max' s 0;by_cases c:p.aF=[]
 ·rw[aa c];have hend:Nw (I (max s 0):: .vC Ag []::I 0::I 0::Bj p)=some (2,[]):=by
   refine AJ ?_ (by simp);rw[Zd4,AR (by omega)]
  unfold EJ;generalize Nw=N at*;have he:=Qz8 N p.aQ.x p.aQ.y p.aQ.z (p.aF.map Az) (p.aD.map Aq) s;refine cy he ?_;rw[hmx,c];have hend':N [I (max s 0), .vC Ag [],I 0,I 0,I p.aQ.x,I p.aQ.y,I p.aQ.z, .vC Ag [], .vC AA (p.aD.map Aq)]=some (2,[]):=by
   have:=hend;unfold Bj at this;rw[c]at this;exact this
  simp only[go_sem,da,bv];simp only[jr];rw[hend'];simp
 ·rw[ab c];have hpos:0<p.aF.length:=by
   cases hh:p.aF with
   |nil=>exact absurd hh c
   |cons _ _=>simp
  have hL:=Q1z h p.aF.length 0 (max s 0) (by omega) (by omega) (by omega);have hL':Nw [I (max s 0), .vC Ag (p.aF.map Az),I p.aF.length,I 0,I p.aQ.x,I p.aQ.y,I p.aQ.z, .vC Ag (p.aF.map Az), .vC AA (p.aD.map Aq)]=some (1,[I (0+(Bh (p.aF.drop 0) (max s 0)).1:Nat),I (Bh (p.aF.drop 0) (max s 0)).2]):=hL;rw[fh,dh]at hL';unfold EJ;generalize Nw=N at*;have he:=Qz8 N p.aQ.x p.aQ.y p.aQ.z (p.aF.map Az) (p.aD.map Aq) s;refine cy he ?_;rw[hmx];simp only[go_sem,ac,hL']
 where mx_max' (a b:Int):mx a b=max a b:=by unfold mx;rw[Int.max_def];split<;>split<;>omega
theorem Z9u (h:GoodPath p) {s:Int} (G:Z (Bj p++[I s])=if p.aF=[]then some [I (-1),I 0]else some [I (Bh p.aF (max s 0)).1,I (Bh p.aF (max s 0)).2])
  (hM:∀{a b c:Int},a.natAbs<=134217728->b.natAbs<=268435456->(0<c/\c<=268435456)->M [I a,I b,I c,I 2]=some [I (Bb (a*b) c),B true]):
  Qes M Z (Bj p++[I s])=some (ptR (atP p s)):=by
 have he:=Zx0 (A8:=M) (Dx:=Z) p.aQ.x p.aQ.y p.aQ.z (p.aF.map Az) (p.aD.map Aq) s;refine cy he ?_;simp only[ax,ay,Bj]at G;unfold atP;by_cases c:p.aF=[]
 ·rw[aa c]at G;simp only[G,go_sem];rw[aa,c];rfl
 ·rw[ab c]at G;have D:=h.ok;obtain⟨N,f2,f3,f4⟩:=Qli (l:=p.aF) (a:=p.aQ) (s:=max s 0) c (λg L=>(D.seg g L).1) (by omega);rw[f4];have L:=D.seg _ (H4 N);have S:=Zi3 h.aQ D N;have hr:=La N;have a1:=D.count;generalize(Bh p.aF (max s 0)).1=i at*;generalize(Bh p.aF (max s 0)).2=d at*;have T:d.natAbs<=268435456:=by omega
  have fin:∀{a:Pt},bd B26 a->(M [I (O ((sgA p.aF i).to.x-a.x)),I d,I (sgA p.aF i).len,I 2]=some [I (Bb (((sgA p.aF i).to.x-a.x)*d) (sgA p.aF i).len),B true]/\O (a.x+Bb (((sgA p.aF i).to.x-a.x)*d) (sgA p.aF i).len)=a.x+Bb (((sgA p.aF i).to.x-a.x)*d) (sgA p.aF i).len)/\
    (M [I (O ((sgA p.aF i).to.y-a.y)),I d,I (sgA p.aF i).len,I 2]=some [I (Bb (((sgA p.aF i).to.y-a.y)*d) (sgA p.aF i).len),B true]/\O (a.y+Bb (((sgA p.aF i).to.y-a.y)*d) (sgA p.aF i).len)=a.y+Bb (((sgA p.aF i).to.y-a.y)*d) (sgA p.aF i).len)/\
    (M [I (O ((sgA p.aF i).to.z-a.z)),I d,I (sgA p.aF i).len,I 2]=some [I (Bb (((sgA p.aF i).to.z-a.z)*d) (sgA p.aF i).len),B true]/\O (a.z+Bb (((sgA p.aF i).to.z-a.z)*d) (sgA p.aF i).len)=a.z+Bb (((sgA p.aF i).to.z-a.z)*d) (sgA p.aF i).len):=by
   intro a U;have key:∀u v:Int,u.natAbs<=B26->v.natAbs<=B26->M [I (O (u-v)),I d,I (sgA p.aF i).len,I 2]=some [I (Bb ((u-v)*d) (sgA p.aF i).len),B true]/\O (v+Bb ((u-v)*d) (sgA p.aF i).len)=v+Bb ((u-v)*d) (sgA p.aF i).len:=by
    intro u v hu S;have V:=Fk hu S;rw[Ey V (by decide)];refine⟨hM (bj V (by decide)) T (by omega),?_⟩;exact Ey (L3 S (Q1c (by omega) (bj V (by decide)) ⟨f2,f3⟩)) (by decide)
   exact⟨key _ _ L.2.2.1 U.1,key _ _ L.2.2.2.1 U.2.1,key _ _ L.2.2.2.2 U.2.2⟩
  have X:(0:Int)<=(i:Int)/\(i:Int)<(p.aF.length:Int):=by omega
  simp only[G,go_sem,ac,af,hr,aa X];rw[ab];by_cases c0:i=0
  ·subst c0;obtain⟨⟨m1,Y⟩,⟨m2,w2⟩,m3,w3⟩:=fin h.aQ;rw[ab,JX];simp only[m1,m2,m3,go_sem,Y,w2,w3];rfl
  ·obtain⟨j,rfl⟩:∃j,i=j+1:=⟨i-1,by omega⟩;have hj:=La (l:=p.aF) (i:=j) (by omega);have a0:=D.seg _ (H4 (l:=p.aF) (i:=j) (by omega));obtain⟨⟨m1,Y⟩,⟨m2,w2⟩,m3,w3⟩:=fin a0.2.2;rw[aa,TZ (by omega)];have e1:O (((j+1:Nat):Int)-1)=(j:Int):=by rw[Ad];omega
   rw[e1];simp only[af,hj,go_sem];rw[aa];simp only[m1,m2,m3,go_sem,Y,w2,w3];rfl
theorem Zeb {a b c:Int} (D:a.natAbs<=134217728) (hb:b.natAbs<=268435456) (G:0<c/\c<=268435456):CU [I a,I b,I c,I 2]=some [I (Bb (a*b) c),B true]:=by
 have:=cd D hb;exact T5 (by unfold i64;omega) (by unfold i64;omega) (by omega) (by omega)
theorem Ye6 (h:GoodPath p) {s:Int} (D:i64 s):RN (Bj p++[I s])=some (ptR (atP p s)):=
 Z9u h (VX h.ok D) Zeb
theorem UX (h:GoodPath p):0<=AT p.aF/\AT p.aF<=263886834032640:=by
 have D:=Vu h.ok.seg;have G:=h.count;omega
theorem Z0q {α:Type} (d x:α) (l:List α):nth d (x::l) 40=nth d l 39:=by simp[nth]
theorem Z6g {α:Type} (d x:α) (l:List α):nth d (x::l) 41=nth d l 40:=by simp[nth]
theorem Yel {α:Type} (d x:α) (l:List α):nth d (x::l) 42=nth d l 41:=by simp[nth]
theorem Zyv {α:Type} (d x:α) (l:List α):nth d (x::l) 43=nth d l 42:=by simp[nth]
theorem Ybc {α:Type} (d x:α) (l:List α):nth d (x::l) 44=nth d l 43:=by simp[nth]
theorem Zsr {α:Type} (d x:α) (l:List α):nth d (x::l) 45=nth d l 44:=by simp[nth]
theorem Z10 {α:Type} (d x:α) (l:List α):nth d (x::l) 46=nth d l 45:=by simp[nth]
theorem Zzk {α:Type} (d x:α) (l:List α):nth d (x::l) 47=nth d l 46:=by simp[nth]
theorem Zwx {α:Type} (d x:α) (l:List α):nth d (x::l) 48=nth d l 47:=by simp[nth]
theorem Z78 {α:Type} (d x:α) (l:List α):nth d (x::l) 49=nth d l 48:=by simp[nth]
theorem Ydg {α:Type} (d x:α) (l:List α):nth d (x::l) 50=nth d l 49:=by simp[nth]
theorem Z3z {α:Type} (d x:α) (l:List α):nth d (x::l) 51=nth d l 50:=by simp[nth]
theorem Yfi {α:Type} (d x:α) (l:List α):nth d (x::l) 52=nth d l 51:=by simp[nth]
theorem Yfh {α:Type} (d x:α) (l:List α):nth d (x::l) 53=nth d l 52:=by simp[nth]
theorem Yct {α:Type} (d x:α) (l:List α):nth d (x::l) 54=nth d l 53:=by simp[nth]
theorem Yfr {α:Type} (d x:α) (l:List α):nth d (x::l) 55=nth d l 54:=by simp[nth]
attribute [go_sem] Z0q Z6g Yel Zyv Ybc Zsr Z10 Zzk Zwx Z78 Ydg Z3z Yfi Yfh Yct Yfr
theorem Kg (a b:Int):mn a b=min a b:=by unfold mn;rw[Int.min_def];split<;>split<;>omega
theorem Ot (a b:Int):mx a b=max a b:=by unfold mx;rw[Int.max_def];split<;>split<;>omega
def Uc (now a b mv:Int):Int:=if b>a then mv else if b<a then-mv else now
def D9 (now a b:Pt) (mv:Int):Pt:=⟨Uc now.x a.x b.x mv,Uc now.y a.y b.y mv,Uc now.z a.z b.z mv⟩
def slk (was aT n v:Int):Int:=if was=aT then v else max v n
def C3 (x:Ax3) (was aT:Pt):Int:=slk was.z aT.z x.c.bB (slk was.y aT.y x.b.bB (slk was.x aT.x x.a.bB 0))
def pc0:Pce:=⟨0,0,0,0,⟨0,0,0⟩,⟨0,0,0⟩⟩
def Bg (l:List Pce):Pce:=l.getD (l.length-1) pc0
def FV (t:Trk) (c:Pce):Trk:=
 if t.aE≠[]/\c.bC≠0/\(Bg t.aE).bC=c.bC/\(Bg t.aE).aT=c.aT then
  {t with aE:=t.aE.set (t.aE.length-1) {Bg t.aE with aR:=(Bg t.aE).aR+c.aR},length:=t.length+c.aR}
 else{t with aE:=t.aE++[{c with at_:=t.length}],length:=t.length+c.aR}
def AD (l:List Sgm) (i:Nat):Int:=AT (l.take i)
def CA (x:Ax3) (mv:Int) (a b:Pt) (s aR:Int) (D:Trk×Pt):Trk×Pt:=
 (FV (if C3 x D.2 (D9 D.2 a b mv) > 0 then FV D.1 ⟨0, C3 x D.2 (D9 D.2 a b mv), s, 0, D.2, D9 D.2 a b mv⟩ else D.1)
  ⟨0,aR,s,mv,D9 D.2 a b mv,D9 D.2 a b mv⟩,D9 D.2 a b mv)
def IR (p:Pth) (x:Ax3) (mv lo D:Int) (i:Nat) (s:Trk×Pt):Trk×Pt:=
 if max (AD p.aF i) lo<min (AD p.aF (i+1)) D then
  CA x mv (E4 p.aQ p.aF i) (sgA p.aF i).to (if mv<0 then min (AD p.aF (i+1)) D else max (AD p.aF i) lo) (min (AD p.aF (i+1)) D-max (AD p.aF i) lo) s
 else s
def Ez (n:Nat) (mv:Int) (j:Nat):Nat:=if mv<0 then n-1-j else j
def CF (p:Pth) (x:Ax3) (mv lo D:Int) (G:Trk×Pt):Nat->Trk×Pt
 |0=>G
 |j+1=>IR p x mv lo D (Ez p.aF.length mv j) (CF p x mv lo D G j)
def BB (n D:Int):Int:=max 0 (min n D)
def EK (p:Pth) (x:Ax3) (d:Pt) (from_ to:Int):Trk:=
 let n:=AT p.aF
 let f:=BB from_ n
 let t:=BB to n
 (CF p x (if f>t then-1 else 1) (min f t) (max f t) (⟨[],0,f,d⟩,d) p.aF.length).1
structure Ax3OK (x : Ax3) : Prop where
 a:0<=x.a.bB/\x.a.bB<=1000
 b:0<=x.b.bB/\x.b.bB<=1000
 c:0<=x.c.bB/\x.c.bB<=1000
theorem TN {x:Ax3} (h:Ax3OK x) (a b:Pt):0<=C3 x a b/\C3 x a b<=1000:=by
 obtain⟨D,G,I⟩:=h;unfold C3 slk
 (repeat' split)<;>omega
structure TB (t : Trk) (n m : Int) : Prop where
 count:(t.aE.length:Int)<=n
 len:0<=t.length/\t.length<=m
 each:∀c∈t.aE,0<=c.aR/\c.aR<=t.length
theorem Q7d {l:List Pce} (h:l≠[]):Bg l∈l:=by
 have G:0<l.length:=by cases l with
  |nil=>exact absurd rfl h
  |cons _ _=>simp
 have D:l.length-1<l.length:=by omega
 unfold Bg;rw[eg,ai D,Option.getD_some];exact bh _
theorem Qut {n m:Int} (h:TB t n m) {c:Pce} {k:Int} (I:0<=c.aR/\c.aR<=k):TB (FV t c) (n+1) (m+k):=by
 obtain⟨L,M,G⟩:=h;unfold FV;by_cases g:t.aE≠[]/\c.bC≠0/\(Bg t.aE).bC=c.bC/\(Bg t.aE).aT=c.aT
 ·rw[aa g];refine⟨by simp only[List.length_set];omega,by simp only;omega,?_⟩;intro q D;rcases ff D with D|rfl
  ·have:=G q D;simp only;omega
  ·have:=G _ (Q7d g.1);simp only;omega
 ·rw[ab g];refine⟨by simp only[ap,bf,bv];omega,by simp only;omega,?_⟩;intro q D;rcases bq.1 D with D|D
  ·have:=G q D;simp only;omega
  ·rw[eu]at D;subst D;simp only;omega
theorem Zae (t:Trk) (c:Pce):(FV t c).aQ=t.aQ/\(FV t c).aT=t.aT:=by
 unfold FV;split<;>exact⟨rfl,rfl⟩
theorem T3 (l:List Sgm):AD l 0=0:=by unfold AD;rw[List.take_zero];rfl
theorem QT {l:List Sgm} (h:i<l.length):AD l (i+1)=AD l i+(sgA l i).len:=by
 unfold AD;rw[ig,ai h,Option.toList_some,Qib,OQ h]
theorem Zd8 (l:List Sgm):AD l l.length=AT l:=by unfold AD;rw[gf]
theorem Qok {l:List Sgm} (h:SegOK l):∀i,i<=l.length->0<=AD l i/\AD l i<=i*268435456
 |0,_=>by rw[T3];simp
 |i+1,D=>by
  have:=Qok h i (by omega);have:=h.seg _ (H4 (show i<l.length by omega));rw[QT (by omega)];omega
theorem Zo5 {x:Ax3} {mv lo hi:Int} {s:Trk×Pt} {n m:Int} (I:Ax3OK x) (L:SegOK p.aF) (D:i<p.aF.length) (h:TB s.1 n m):TB (IR p x mv lo hi i s).1 (n+2) (m+268436456):=by
 have M:=L.seg _ (H4 D);have e:=QT D;unfold IR;by_cases c:max (AD p.aF i) lo<min (AD p.aF (i+1)) hi
 ·rw[aa c];unfold CA;have N:=TN I s.2 (D9 s.2 (E4 p.aQ p.aF i) (sgA p.aF i).to mv);have e1:n+2=n+1+1:=by omega
  have e2:m+268436456=m+1000+268435456:=by omega
  rw[e1,e2];refine Qut ?_ (by simp only;omega);by_cases G:C3 x s.2 (D9 s.2 (E4 p.aQ p.aF i) (sgA p.aF i).to mv)>0
  ·rw[aa G];exact Qut h (by simp only;omega)
  ·rw[ab G];exact⟨by have:=h.count;omega,by have:=h.len;omega,h.each⟩
 ·rw[ab c];exact⟨by have:=h.count;omega,by have:=h.len;omega,h.each⟩
theorem X6 {n j:Nat} (mv:Int) (h:j<n):Ez n mv j<n:=by unfold Ez;split<;>omega
theorem ZG {p:Pth} {x:Ax3} {mv lo hi f:Int} {d:Pt} (D:Ax3OK x) (G:SegOK p.aF):∀j,j<=p.aF.length->TB (CF p x mv lo hi (⟨[],0,f,d⟩,d) j).1 (j*2) (j*268436456)
 |0,_=>⟨by simp[CF],by simp[CF],by simp[CF]⟩
 |j+1,I=>by
  have h:=Zo5 (mv:=mv) (lo:=lo) (hi:=hi) D G (X6 mv (show j<p.aF.length by omega)) (ZG (mv:=mv) (lo:=lo) (hi:=hi) (f:=f) (d:=d) D G j (by omega));rw[CF];have e1:((j+1:Nat):Int)*2=j*2+2:=by omega
  have e2:((j+1:Nat):Int)*268436456=j*268436456+268436456:=by omega
  rw[e1,e2];exact h
theorem Zex {x:Ax3} (s:Trk×Pt):(IR p x u d r i s).1.aQ=s.1.aQ/\(IR p x u d r i s).1.aT=s.1.aT:=by
 unfold IR;by_cases c:max (AD p.aF i) d<min (AD p.aF (i+1)) r
 ·rw[aa c];unfold CA;simp only[Zae];by_cases D:C3 x s.2 (D9 s.2 (E4 p.aQ p.aF i) (sgA p.aF i).to u)>0
  ·rw[aa D];simp only[Zae];exact⟨trivial,trivial⟩
  ·rw[ab D];exact⟨rfl,rfl⟩
 ·rw[ab c];exact⟨rfl,rfl⟩
def chain (x:Ax3) (mv:Int) (Q:Int->Pt->Prop):Int->Int->Pt->List Pce->Prop
 |_,_,_,[]=>True
 |at_,s,d,c::l=>c.at_=at_/\c.s=s/\1<=c.aR/\((c.bC=mv/\c.was=c.aT/\C3 x d c.aT=0/\∀k,0<=k->k<c.aR->Q (s+mv*k) c.aT)\/(c.bC=0/\c.was=d/\c.aR=C3 x d c.aT))/\chain x mv Q (at_+c.aR) (s+c.bC*c.aR) c.aT l
def CX:Int->List Pce->Int
 |a,[]=>a
 |a,c::l=>CX (a+c.aR) l
def C7:Int->List Pce->Int
 |s,[]=>s
 |s,c::l=>C7 (s+c.bC*c.aR) l
def IM:Pt->List Pce->Pt
 |d,[]=>d
 |_,c::l=>IM c.aT l
theorem Tv (c:Pce):∀(a:Int) (l:List Pce),CX a (l++[c])=CX a l+c.aR
 |_,[]=>rfl
 |_,k::l=>Tv c _ l
theorem TF (c:Pce):∀(s:Int) (l:List Pce),C7 s (l++[c])=C7 s l+c.bC*c.aR
 |_,[]=>rfl
 |_,k::l=>TF c _ l
theorem Ug (c:Pce):∀(d:Pt) (l:List Pce),IM d (l++[c])=c.aT
 |_,[]=>rfl
 |_,k::l=>Ug c _ l
theorem T8 {x:Ax3} {mv:Int} {Q:Int->Pt->Prop} {c:Pce}:∀{at_ s:Int} {d:Pt} {l:List Pce},
  chain x mv Q at_ s d (l++[c])↔chain x mv Q at_ s d l/\c.at_=CX at_ l/\c.s=C7 s l/\1<=c.aR/\((c.bC=mv/\c.was=c.aT/\C3 x (IM d l) c.aT=0/\∀k,0<=k->k<c.aR->Q (C7 s l+mv*k) c.aT)\/(c.bC=0/\c.was=IM d l/\c.aR=C3 x (IM d l) c.aT))
 |at_,s,d,[]=>by
  simp only[ay,chain,CX,C7,IM,iz,true_and]
 |at_,s,d,k::l=>by
  simp only[ax,chain,CX,C7,IM];rw[T8];constructor
  ·rintro⟨D,G,I,L,M,N⟩;exact⟨⟨D,G,I,L,M⟩,N⟩
  ·rintro⟨⟨D,G,I,L,M⟩,N⟩;exact⟨D,G,I,L,M,N⟩
theorem Zmo {l:List Pce} (h:l≠[]) (v:Pce):l.set (l.length-1) v=l.dropLast++[v]:=by
 have e:=List.dropLast_concat_getLast h;have D:l.length-1=l.dropLast.length:=by rw[List.length_dropLast]
 conv=>lhs;arg 1;rw[<-e]
 rw[D,List.set_append_right _ _ (bt _),i6];rfl
theorem Zl2 {l:List Pce} (h:l≠[]):l.dropLast++[Bg l]=l:=by
 have e:=List.dropLast_concat_getLast h;have I:0<l.length:=by
  cases l with
  |nil=>exact absurd rfl h
  |cons _ _=>simp
 have D:l.length-1<l.length:=by omega
 have G:Bg l=l.getLast h:=by
  unfold Bg;rw[eg,ai D,Option.getD_some,List.getLast_eq_getElem]
 rw[G];exact e
structure TC (x : Ax3) (mv : Int) (Q : Int -> Pt -> Prop) (t : Trk) (s : Int) (d : Pt) : Prop where
 ch:chain x mv Q 0 t.aQ t.aT t.aE
 len:CX 0 t.aE=t.length
 s:C7 t.aQ t.aE=s
 d:IM t.aT t.aE=d
theorem Qnp {x:Ax3} {s:Int} (hm:u≠0) (h:TC x u Q t s a) {c:Pce} (hs:c.s=s) (hu:1<=c.aR)
  (G:(c.bC=u/\c.was=c.aT/\C3 x a c.aT=0/\∀k,0<=k->k<c.aR->Q (s+u*k) c.aT)\/(c.bC=0/\c.was=a/\c.aR=C3 x a c.aT)):TC x u Q (FV t c) (s+c.bC*c.aR) c.aT:=by
 obtain⟨M,N,D,O⟩:=h;unfold FV;by_cases g:t.aE≠[]/\c.bC≠0/\(Bg t.aE).bC=c.bC/\(Bg t.aE).aT=c.aT
 ·rw[aa g];obtain⟨g1,g2,V,X⟩:=g;have e:=Zl2 g1;rw[Zmo g1];rw[<-e]at M N D O;rw[T8]at M;rw[Tv]at N;rw[TF]at D;rw[Ug]at O;generalize t.aE.dropLast=I at*;generalize Bg t.aE=L at*;obtain⟨k0,k1,k2,k4,S⟩:=M
  replace G:=G.resolve_right λh=>g2 h.1
  replace S:=S.resolve_right λh=>g2 (V▸h.1)
  obtain⟨c1,c2,-,c3⟩:=G;obtain⟨Y,q2,q4,q3⟩:=S;refine⟨?_,?_,?_,?_⟩
  ·show chain x u Q 0 t.aQ t.aT (I++[_]);rw[T8];refine⟨k0,k1,k2,by simp only;omega, .inl ⟨Y,q2,q4,?_⟩⟩;intro k hk0 T;simp only at T;by_cases U:k<L.aR
   ·exact q3 k hk0 U
   ·have:=c3 (k-L.aR) (by omega) (by omega);rw[<-D,Y,<-X]at this;have ea:C7 t.aQ I+u*L.aR+u*(k-L.aR)=C7 t.aQ I+u*k:=by rw[Int.mul_sub];omega
    rw[ea]at this;exact this
  ·show CX 0 (I++[_])=t.length+c.aR;rw[Tv];simp only;omega
  ·show C7 t.aQ (I++[_])=s+c.bC*c.aR;rw[TF];simp only;rw[V]at D⊢;rw[Int.mul_add];omega
  ·show IM t.aT (I++[_])=c.aT;rw[Ug];exact X
 ·rw[ab g];refine⟨?_,?_,?_,?_⟩
  ·show chain x u Q 0 t.aQ t.aT (t.aE++[_]);rw[T8];refine⟨M,N.symm,by rw[D];exact hs,hu,?_⟩;rw[D,O];exact G
  ·show CX 0 (t.aE++[_])=t.length+c.aR;rw[Tv,N]
  ·show C7 t.aQ (t.aE++[_])=s+c.bC*c.aR;rw[TF,D]
  ·show IM t.aT (t.aE++[_])=c.aT;rw[Ug]
theorem Zpv (x:Ax3) (d:Pt):C3 x d d=0:=by unfold C3 slk;simp
theorem Q06 {x:Ax3} {s aR:Int} (G:u≠0) (N:∀w q,0<=C3 x w q) (h:TC x u Q t s q) (I:1<=aR) (L:∀k,0<=k->k<aR->Q (s+u*k) (D9 q a b u)):
  TC x u Q (CA x u a b s aR (t,q)).1 (s+u*aR) (D9 q a b u):=by
 unfold CA;simp only;generalize D9 q a b u=D at*;by_cases c:C3 x q D>0
 ·rw[aa c];have M:=Qnp G h (c:=⟨0,C3 x q D,s,0,q,D⟩) rfl (by simp only;omega) (.inr ⟨rfl,rfl,rfl⟩);simp only[jk,ip]at M;exact Qnp G M (c:=⟨0,aR,s,u,D,D⟩) rfl I (.inl ⟨rfl,rfl,Zpv x D,L⟩)
 ·rw[ab c];have:=N q D;exact Qnp G h (c:=⟨0,aR,s,u,D,D⟩) rfl I (.inl ⟨rfl,rfl,by simp only;omega,L⟩)
def Kc (l:List Sgm) (mv lo D:Int) (j:Nat):Int:=if mv<0 then min (max (AD l (l.length-j)) lo) D else min (max (AD l j) lo) D
def Qy0 (p:Pth) (mv:Int) (Q:Int->Pt->Prop):Prop:=∀i,i<p.aF.length->∀(d:Pt) (s:Int),AD p.aF i<=s->s<=AD p.aF (i+1)->AD p.aF i<=s+mv->s+mv<=AD p.aF (i+1)->Q s (D9 d (E4 p.aQ p.aF i) (sgA p.aF i).to mv)
theorem Zdv {p:Pth} {x:Ax3} {mv lo hi f:Int} {d:Pt} {Q:Int->Pt->Prop} (S:mv=1\/mv= -1) (M:Ax3OK x) (T:SegOK p.aF) (N:0<=lo/\lo<=hi/\hi<=AT p.aF) (hf:(mv=1/\f=lo)\/(mv= -1/\f=hi)) (U:Qy0 p mv Q):
  ∀j,j<=p.aF.length->TC x mv Q (CF p x mv lo hi (⟨[],0,f,d⟩,d) j).1 (Kc p.aF mv lo hi j) (CF p x mv lo hi (⟨[],0,f,d⟩,d) j).2
 |0,_=>by
  have X:Kc p.aF mv lo hi 0=f:=by
   unfold Kc;have:=Zd8 p.aF;rcases hf with⟨rfl,rfl⟩|⟨rfl,rfl⟩
   ·rw[ab,T3];omega
   ·rw[aa,Nat.sub_zero,this];omega
  rw[X];exact⟨trivial,rfl,rfl,rfl⟩
 |j+1,hj=>by
  have G:=Zdv S M T N hf U (f:=f) (d:=d) j (by omega);have L:=X6 mv (show j<p.aF.length by omega);have hg:=T.seg _ (H4 L);have O:=QT L;have V:=U _ L;rw[CF];unfold IR;have D:(mv=1/\Ez p.aF.length mv j=j)\/(mv= -1/\Ez p.aF.length mv j=p.aF.length-1-j):=by
   unfold Ez;rcases S with rfl|rfl
   ·exact .inl ⟨rfl,ab⟩
   ·exact .inr ⟨rfl,aa⟩
  have I:Kc p.aF mv lo hi j=(if mv<0 then min (max (AD p.aF (Ez p.aF.length mv j+1)) lo) hi else min (max (AD p.aF (Ez p.aF.length mv j)) lo) hi)/\
    Kc p.aF mv lo hi (j+1)=(if mv<0 then min (max (AD p.aF (Ez p.aF.length mv j)) lo) hi else min (max (AD p.aF (Ez p.aF.length mv j+1)) lo) hi):=by
   unfold Kc;rcases D with⟨rfl,e⟩|⟨rfl,e⟩
   ·rw[e,ab,ab,ab,ab];exact⟨rfl,rfl⟩
   ·rw[e,aa,aa,aa,aa,show p.aF.length-1-j+1=p.aF.length-j by omega,show p.aF.length-(j+1)=p.aF.length-1-j by omega];exact⟨rfl,rfl⟩
  rw[I.1]at G;rw[I.2];generalize Ez p.aF.length mv j=i at*;generalize CF p x mv lo hi (⟨[],0,f,d⟩,d) j=w at*;obtain⟨t,dn⟩:=w;simp only at G⊢;by_cases c:max (AD p.aF i) lo<min (AD p.aF (i+1)) hi
  ·rw[aa c];rcases D with⟨rfl,-⟩|⟨rfl,-⟩
   ·rw[ab]at G⊢;rw[ab];have e1:min (max (AD p.aF i) lo) hi=max (AD p.aF i) lo:=by omega
    rw[e1]at G;have:=Q06 (a:=E4 p.aQ p.aF i) (b:=(sgA p.aF i).to) (aR:=min (AD p.aF (i+1)) hi-max (AD p.aF i) lo) (by omega) (λw d=>(TN M w d).1) G (by omega) (λk Y h1=>V dn _ (by omega) (by omega) (by omega) (by omega));have e2:max (AD p.aF i) lo+1*(min (AD p.aF (i+1)) hi-max (AD p.aF i) lo)=min (max (AD p.aF (i+1)) lo) hi:=by omega
    rw[e2]at this;exact this
   ·rw[aa]at G⊢;rw[aa];have e1:min (max (AD p.aF (i+1)) lo) hi=min (AD p.aF (i+1)) hi:=by omega
    rw[e1]at G;have:=Q06 (a:=E4 p.aQ p.aF i) (b:=(sgA p.aF i).to) (aR:=min (AD p.aF (i+1)) hi-max (AD p.aF i) lo) (by omega) (λw d=>(TN M w d).1) G (by omega) (λk Y h1=>V dn _ (by omega) (by omega) (by omega) (by omega));have e2:min (AD p.aF (i+1)) hi+ -1*(min (AD p.aF (i+1)) hi-max (AD p.aF i) lo)=min (max (AD p.aF i) lo) hi:=by omega
    rw[e2]at this;exact this
  ·rw[ab c];have e:(if mv<0 then min (max (AD p.aF (i+1)) lo) hi else min (max (AD p.aF i) lo) hi)=(if mv<0 then min (max (AD p.aF i) lo) hi else min (max (AD p.aF (i+1)) lo) hi):=by
    split<;>omega
   rw[<-e];exact G
theorem Yc0 {l:List Pce} (h:l≠[]):nth [] (l.map AZ) (l.length-1)=AZ (Bg l):=by
 have G:0<l.length:=by cases l with
  |nil=>exact absurd rfl h
  |cons _ _=>simp
 unfold Bg;have D:l.length-1<l.length:=by omega
 rw[Em _ _ _ _ D,eg,ai D,Option.getD_some]
theorem Zgm:a=b↔a.x=b.x/\a.y=b.y/\a.z=b.z:=B2
theorem Z63 {c:Pce} {n m k:Int} (h:TB t n m) (hn:n<=10000000) (hm:m<=1000000000000000000) (hk:k<=1000000000000000000) (hc:0<=c.aR/\c.aR<=k):
  VR [.vC Ap (t.aE.map AZ),I c.at_,I c.aR,I c.s,I c.bC,I c.was.x,I c.was.y,I c.was.z,I c.aT.x,I c.aT.y,I c.aT.z,I t.length,I t.aQ,I t.aT.x,I t.aT.y,I t.aT.z]=some (Bt (FV t c)):=by
 obtain⟨h1,h2,X⟩:=h;have V:O (t.length+c.aR)=t.length+c.aR:=Ad;have D:((t.aE.map AZ++[[I t.length,I c.aR,I c.s,I c.bC,I c.was.x,I c.was.y,I c.was.z,I c.aT.x,I c.aT.y,I c.aT.z]]).length*80).ble 140737488355328=true:=by
  rw[Nat.ble_eq,ap,ac];simp only[bf,bv];omega
 have L:(t.aE.map AZ++[[I t.length,I c.aR,I c.s,I c.bC,I c.was.x,I c.was.y,I c.was.z,I c.aT.x,I c.aT.y,I c.aT.z]]).length*80<=140737488355328:=az D;have G:some [AC.vC Ap (t.aE.map AZ++[[I t.length,I c.aR,I c.s,I c.bC,I c.was.x,I c.was.y,I c.was.z,I c.aT.x,I c.aT.y,I c.aT.z]]),I (t.length+c.aR),I t.aQ,I t.aT.x,I t.aT.y,I t.aT.z]=
   some (Bt {t with aE:=t.aE++[{c with at_:=t.length}],length:=t.length+c.aR}):=by
  simp only[Bt,bp,be,da]
 by_cases M:t.aE=[]
 ·have Y: ¬(t.aE≠[]/\c.bC≠0/\(Bg t.aE).bC=c.bC/\(Bg t.aE).aT=c.aT):=λg=>g.1 M;unfold FV;rw[ab Y,<-G];rw[Zga,ac,AR (by rw[M];simp),BO D,V]
 ·have hp:0<t.aE.length:=by
   cases hh:t.aE with
   |nil=>exact absurd hh M
   |cons _ _=>simp
  have e1:O ((t.aE.length:Int)-1)=((t.aE.length-1:Nat):Int):=by rw[Ad];omega
  have T:(0:Int)<=((t.aE.length-1:Nat):Int)/\((t.aE.length-1:Nat):Int)<(t.aE.length:Int):=by omega
  have hl:=X _ (Q7d M);have U:O ((Bg t.aE).aR+c.aR)=(Bg t.aE).aR+c.aR:=Ad;have N:some [AC.vC Ap ((t.aE.map AZ).set (t.aE.length-1) [I (Bg t.aE).at_,I ((Bg t.aE).aR+c.aR),I (Bg t.aE).s,I (Bg t.aE).bC,I (Bg t.aE).was.x,I (Bg t.aE).was.y,I (Bg t.aE).was.z,I (Bg t.aE).aT.x,I (Bg t.aE).aT.y,I (Bg t.aE).aT.z]),I (t.length+c.aR),I t.aQ,I t.aT.x,I t.aT.y,I t.aT.z]=
   some (Bt {t with aE:=t.aE.set (t.aE.length-1) {Bg t.aE with aR:=(Bg t.aE).aR+c.aR},length:=t.length+c.aR}):=by
   simp only[Bt,List.map_set]
  have hr:=Yc0 M;have main : ∀ R, R = (if c.bC ≠ 0 then if (Bg t.aE).bC = c.bC then if (Bg t.aE).aT.x = c.aT.x /\ (Bg t.aE).aT.y = c.aT.y /\ (Bg t.aE).aT.z = c.aT.z then
    some (Bt {t with aE:=t.aE.set (t.aE.length-1) {Bg t.aE with aR:=(Bg t.aE).aR+c.aR},length:=t.length+c.aR})
    else some (Bt {t with aE:=t.aE++[{c with at_:=t.length}],length:=t.length+c.aR})else some (Bt {t with aE:=t.aE++[{c with at_:=t.length}],length:=t.length+c.aR})else some (Bt {t with aE:=t.aE++[{c with at_:=t.length}],length:=t.length+c.aR}))->R=some (Bt (FV t c)):=by
   intro R hR;rw[hR];unfold FV;by_cases g1:c.bC≠0
   ·by_cases g2:(Bg t.aE).bC=c.bC
    ·by_cases S:(Bg t.aE).aT.x=c.aT.x/\(Bg t.aE).aT.y=c.aT.y/\(Bg t.aE).aT.z=c.aT.z
     ·rw[aa g1,aa g2,aa S,aa ⟨M,g1,g2,Zgm.2 S⟩]
     ·rw[aa g1,aa g2,ab S,ab λg=>S (Zgm.1 g.2.2.2)]
    ·rw[aa g1,ab g2,ab λg=>g2 g.2.2.1]
   ·rw[ab g1,ab λg=>g1 g.2.1]
  refine main _ ?_;rw[<-G,<-N];rw[Zga,ac,e1,af,hr];simp only[go_sem,V,U,aa T,aa L];rw[aa];simp only[iz]
theorem Zqy (x:Ax3) (w d:Pt):Ns (AK x++[I w.x,I w.y,I w.z,I d.x,I d.y,I d.z])=some [I (C3 x w d)]:=by
 have he:=Zlp x.a.step x.a.aS x.a.bD x.a.bE x.a.low x.a.aY x.a.bB x.a.aV x.a.aO (x.a.aW.map At) x.b.step x.b.aS x.b.bD x.b.bE x.b.low x.b.aY x.b.bB x.b.aV x.b.aO (x.b.aW.map At) x.c.step x.c.aS x.c.bD x.c.bE x.c.low x.c.aY x.c.bB x.c.aV x.c.aO (x.c.aW.map At) w.x w.y w.z d.x d.y d.z;unfold Ns;refine cy he ?_;unfold C3 slk;simp only[go_sem,Ot]
 (repeat' split)<;>first|rfl|(exfalso;omega)
theorem Ykx (n a b:Pt) {mv:Int} (D:mv=1\/mv= -1):OF [I n.x,I n.y,I n.z,I a.x,I a.y,I a.z,I b.x,I b.y,I b.z,I mv]=some (ptR (D9 n a b mv)):=by
 unfold OF;rw[Zn6];have e:O (0-mv)= -mv:=by rw[Ad];omega
 unfold D9 Uc;simp only[go_sem,e]
 (repeat' split)<;>first|rfl|(exfalso;omega)
theorem V3 {n D:Int}:Hu [I n,I D]=some [I (BB n D)]:=by
 unfold Hu;rw[Zzw];simp only[Kg,Ot];rfl
theorem Zkd {x:Ax3} {s aR:Int} {n m k:Int} (T:Ax3OK x) (h:TB t n m) (X:n<=9000000) (Y:m<=900000000000000000) (hk:k<=900000000000000000) (O:0<=aR/\aR<=k)
  (U:Z [I q.x,I q.y,I q.z,I a.x,I a.y,I a.z,I b.x,I b.y,I b.z,I u]=some (ptR (D9 q a b u))) (V:∀w d:Pt,M (AK x++[I w.x,I w.y,I w.z,I d.x,I d.y,I d.z])=some [I (C3 x w d)])
  (N : ∀ {t : Trk} {c : Pce} {n m k : Int}, TB t n m -> n <= 10000000 -> m <= 1000000000000000000 -> k <= 1000000000000000000 -> (0 <= c.aR /\ c.aR <= k) ->
   W [.vC Ap (t.aE.map AZ),I c.at_,I c.aR,I c.s,I c.bC,I c.was.x,I c.was.y,I c.was.z,I c.aT.x,I c.aT.y,I c.aT.z,I t.length,I t.aQ,I t.aT.x,I t.aT.y,I t.aT.z]=some (Bt (FV t c))):
  Qtn M Z W (.vC Ap (t.aE.map AZ)::I a.x::I a.y::I a.z::I b.x::I b.y::I b.z::I s::I aR::I q.x::I q.y::I q.z::I u::(AK x++[I t.length,I t.aQ,I t.aT.x,I t.aT.y,I t.aT.z]))=
   some (.vC Ap ((CA x u a b s aR (t, q)).1.aE.map AZ) :: I (CA x u a b s aR (t, q)).2.x :: I (CA x u a b s aR (t, q)).2.y :: I (CA x u a b s aR (t, q)).2.z :: I u :: (AK x ++
    [I (CA x u a b s aR (t,q)).1.length,I (CA x u a b s aR (t,q)).1.aQ,I (CA x u a b s aR (t,q)).1.aT.x,I (CA x u a b s aR (t,q)).1.aT.y,I (CA x u a b s aR (t,q)).1.aT.z])):=by
 have he:=Yba M Z W (t.aE.map AZ) a.x a.y a.z b.x b.y b.z s aR q.x q.y q.z u x.a.step x.a.aS x.a.bD x.a.bE x.a.low x.a.aY x.a.bB x.a.aV x.a.aO (x.a.aW.map At) x.b.step x.b.aS x.b.bD x.b.bE x.b.low x.b.aY x.b.bB x.b.aV x.b.aO (x.b.aW.map At) x.c.step x.c.aS x.c.bD x.c.bE x.c.low x.c.aY x.c.bB x.c.aV x.c.aO (x.c.aW.map At) t.length t.aQ t.aT.x t.aT.y t.aT.z;refine cy he ?_;have hs:=TN T q (D9 q a b u);have G:=V q (D9 q a b u);simp only[AK,ax,ay]at G⊢;unfold CA;simp only;generalize D9 q a b u=D at*;simp only[U,go_sem,G];by_cases c:C3 x q D>0
 ·have S:=N (c:=⟨0,C3 x q D,s,0,q,D⟩) h (by omega) (by omega) (k:=1000) (by omega) (by simp only;omega);have hb:=Qut (k:=1000) h (c:=⟨0,C3 x q D,s,0,q,D⟩) (by simp only;omega);have L:=N (c:=⟨0,aR,s,u,D,D⟩) hb (by omega) (by omega) (k:=k) (by omega) O;simp only at S L;rw[aa c,aa c];simp only[S,Bt,go_sem,L]
 ·have L:=N (c:=⟨0,aR,s,u,D,D⟩) h (by omega) (by omega) (k:=k) (by omega) O;simp only at L;rw[ab c,ab c];simp only[L,Bt,go_sem]
theorem Z4m {x:Ax3} {s aR:Int} {n m k:Int} (D:u=1\/u= -1) (G:Ax3OK x) (h:TB t n m) (L:n<=9000000) (M:m<=900000000000000000) (N:k<=900000000000000000) (O:0<=aR/\aR<=k):
  FW (.vC Ap (t.aE.map AZ)::I a.x::I a.y::I a.z::I b.x::I b.y::I b.z::I s::I aR::I q.x::I q.y::I q.z::I u::(AK x++[I t.length,I t.aQ,I t.aT.x,I t.aT.y,I t.aT.z]))=
   some (.vC Ap ((CA x u a b s aR (t, q)).1.aE.map AZ) :: I (CA x u a b s aR (t, q)).2.x :: I (CA x u a b s aR (t, q)).2.y :: I (CA x u a b s aR (t, q)).2.z :: I u :: (AK x ++
    [I (CA x u a b s aR (t,q)).1.length,I (CA x u a b s aR (t,q)).1.aQ,I (CA x u a b s aR (t,q)).1.aT.x,I (CA x u a b s aR (t,q)).1.aT.y,I (CA x u a b s aR (t,q)).1.aT.z])):=
 Zkd G h L M N O (Ykx q a b D) (Zqy x) λS T U V X=>Z63 S T U V X
def Fv (l:List Sgm) (j:Nat):Rw:=(List.range j).map λi=>[I (AD l i)]
theorem Tf (l:List Sgm) (j:Nat):(Fv l j).length=j:=by simp[Fv]
theorem Ztt (l:List Sgm) (j:Nat):Fv l (j+1)=Fv l j++[[I (AD l j)]]:=by unfold Fv;rw[List.range_succ,bp];rfl
theorem Ygf {l:List Sgm} {n i:Nat} (h:i<n):nth [] (Fv l n) i=[I (AD l i)]:=by
 have D:i<(Fv l n).length:=by rw[Tf];exact h
 rw[Fs [] _ i D];simp[Fv]
abbrev Rs (p:Pth) (x:Ax3) (lo D mv:Int) (t:Trk) (now:Pt) (at_:Int) (G:Rw) (j:Nat):List AC:=
 [.vC Aa G, .vC Ap (t.aE.map AZ),I lo,I D,I mv,I at_, .vC Ag (p.aF.map Az),I p.aF.length,I j,I p.aQ.x,I p.aQ.y,I p.aQ.z, .vC Ag (p.aF.map Az), .vC AA (p.aD.map Aq),I now.x,I now.y,I now.z,I mv,I x.a.step,I x.a.aS,I x.a.bD,I x.a.bE,I x.a.low,I x.a.aY,I x.a.bB,I x.a.aV,I x.a.aO, .vC Aa (x.a.aW.map At),I x.b.step,I x.b.aS,I x.b.bD,I x.b.bE,I x.b.low,I x.b.aY,I x.b.bB,I x.b.aV,I x.b.aO, .vC Aa (x.b.aW.map At),I x.c.step,I x.c.aS,I x.c.bD,I x.c.bE,I x.c.low,I x.c.aY,I x.c.bB,I x.c.aV,I x.c.aO, .vC Aa (x.c.aW.map At),I t.length,I t.aQ,I t.aT.x,I t.aT.y,I t.aT.z]
theorem Q9c {M:Fn} {p:Pth} {x:Ax3} {lo hi mv:Int} {t:Trk} {now:Pt} (h:SegOK p.aF):∀(k j:Nat),j+k=p.aF.length->
  Al (U0 M) (Rs p x lo hi mv t now (AD p.aF j) (Fv p.aF j) j)=some (1,[.vC Aa (Fv p.aF p.aF.length), .vC Ap (t.aE.map AZ),I lo,I hi,I mv,I p.aQ.x,I p.aQ.y,I p.aQ.z, .vC Ag (p.aF.map Az), .vC AA (p.aD.map Aq),I now.x,I now.y,I now.z,I mv,I x.a.step,I x.a.aS,I x.a.bD,I x.a.bE,I x.a.low,I x.a.aY,I x.a.bB,I x.a.aV,I x.a.aO, .vC Aa (x.a.aW.map At),I x.b.step,I x.b.aS,I x.b.bD,I x.b.bE,I x.b.low,I x.b.aY,I x.b.bB,I x.b.aV,I x.b.aO, .vC Aa (x.b.aW.map At),I x.c.step,I x.c.aS,I x.c.bD,I x.c.bE,I x.c.low,I x.c.aY,I x.c.bB,I x.c.aV,I x.c.aO, .vC Aa (x.c.aW.map At),I t.length,I t.aQ,I t.aT.x,I t.aT.y,I t.aT.z])
 |0,j,T=>by
  have G:j=p.aF.length:=by omega
  refine AJ (o:=(1,_)) ?_ (by simp);rw[Q4l,AR (by omega),G]
 |k+1,j,T=>by
  have D:j<p.aF.length:=by omega
  have N:=h.count;have S:=Qok h j (by omega);have U:=h.seg _ (H4 D);have L:U0 M (Rs p x lo hi mv t now (AD p.aF j) (Fv p.aF j) j)=some (0,Rs p x lo hi mv t now (AD p.aF (j+1)) (Fv p.aF (j+1)) (j+1)):=by
   have hle:(Fv p.aF j++[[I (AD p.aF j)]]).length*8<=140737488355328:=by rw[ap,Tf];simp only[bf,bv];omega
   have e1:O ((j:Int)+1)=((j+1:Nat):Int):=by rw[Ad];omega
   rw[Q4l];simp only[go_sem,ac,af,La D,aa hle,e1,Ztt];rw[aa,aa,Ad (x:=AD p.aF j+(sgA p.aF j).len),QT D]
  rw[AS L];exact Q9c h k (j+1) (by omega)
abbrev P9 (p:Pth) (x:Ax3) (lo D mv:Int) (t:Trk) (now:Pt) (j:Nat):List AC:=
 [.vC Aa (Fv p.aF p.aF.length), .vC Ap (t.aE.map AZ),I lo,I D,I mv,I p.aF.length,I j,I p.aQ.x,I p.aQ.y,I p.aQ.z, .vC Ag (p.aF.map Az), .vC AA (p.aD.map Aq),I now.x,I now.y,I now.z,I mv,I x.a.step,I x.a.aS,I x.a.bD,I x.a.bE,I x.a.low,I x.a.aY,I x.a.bB,I x.a.aV,I x.a.aO, .vC Aa (x.a.aW.map At),I x.b.step,I x.b.aS,I x.b.bD,I x.b.bE,I x.b.low,I x.b.aY,I x.b.bB,I x.b.aV,I x.b.aO, .vC Aa (x.b.aW.map At),I x.c.step,I x.c.aS,I x.c.bD,I x.c.bE,I x.c.low,I x.c.aY,I x.c.bB,I x.c.aV,I x.c.aO, .vC Aa (x.c.aW.map At),I t.length,I t.aQ,I t.aT.x,I t.aT.y,I t.aT.z]
abbrev F6 (x:Ax3) (mv:Int) (t:Trk) (now:Pt):List AC:=[.vC Ap (t.aE.map AZ),I now.x,I now.y,I now.z,I mv,I x.a.step,I x.a.aS,I x.a.bD,I x.a.bE,I x.a.low,I x.a.aY,I x.a.bB,I x.a.aV,I x.a.aO, .vC Aa (x.a.aW.map At),I x.b.step,I x.b.aS,I x.b.bD,I x.b.bE,I x.b.low,I x.b.aY,I x.b.bB,I x.b.aV,I x.b.aO, .vC Aa (x.b.aW.map At),I x.c.step,I x.c.aS,I x.c.bD,I x.c.bE,I x.c.low,I x.c.aY,I x.c.bB,I x.c.aV,I x.c.aO, .vC Aa (x.c.aW.map At),I t.length,I t.aQ,I t.aT.x,I t.aT.y,I t.aT.z]
theorem Z8n {MV:Fn} {x:Ax3} {lo hi mv:Int} {now:Pt} {n m:Int} (hv:mv=1\/mv= -1) (hp:GoodPath p) (hx:Ax3OK x) (h:TB t n m) (hn:n<=9000000) (hm:m<=900000000000000000)
  (hj:j<p.aF.length)
  (hV:∀{a b:Pt} {s aR:Int},(0<=aR/\aR<=268435456)->MV [.vC Ap (t.aE.map AZ),I a.x,I a.y,I a.z,I b.x,I b.y,I b.z,I s,I aR,I now.x,I now.y,I now.z,I mv,I x.a.step,I x.a.aS,I x.a.bD,I x.a.bE,I x.a.low,I x.a.aY,I x.a.bB,I x.a.aV,I x.a.aO, .vC Aa (x.a.aW.map At),I x.b.step,I x.b.aS,I x.b.bD,I x.b.bE,I x.b.low,I x.b.aY,I x.b.bB,I x.b.aV,I x.b.aO, .vC Aa (x.b.aW.map At),I x.c.step,I x.c.aS,I x.c.bD,I x.c.bE,I x.c.low,I x.c.aY,I x.c.bB,I x.c.aV,I x.c.aO, .vC Aa (x.c.aW.map At),I t.length,I t.aQ,I t.aT.x,I t.aT.y,I t.aT.z]=some (F6 x mv (CA x mv a b s aR (t,now)).1 (CA x mv a b s aR (t,now)).2)):
  Vk MV N (P9 p x lo hi mv t now j)=some (0,P9 p x lo hi mv (IR p x mv lo hi (Ez p.aF.length mv j) (t,now)).1 (IR p x mv lo hi (Ez p.aF.length mv j) (t,now)).2 (j+1)):=by
 have T:=hp.ok;have a1:=T.count;have M:=X6 mv hj;have G:(mv=1/\Ez p.aF.length mv j=j)\/(mv= -1/\Ez p.aF.length mv j=p.aF.length-1-j):=by
  unfold Ez;rcases hv with rfl|rfl
  ·exact .inl ⟨rfl,ab⟩
  ·exact .inr ⟨rfl,aa⟩
 obtain⟨i,a0⟩:∃i,Ez p.aF.length mv j=i:=⟨_,rfl⟩;rw[a0]at M G⊢;have L:i<p.aF.length:=M;have hg:=T.seg _ (H4 L);have hr:=La L;have hb:=Ygf (l:=p.aF) L;have a2:=Qok T i (by omega);have U:=QT L;have V:(0:Int)<=(i:Nat)/\(i:Int)<(p.aF.length:Int):=by omega
 have S:(j:Int)<(p.aF.length:Int):=by omega
 have e1:O ((j:Int)+1)=((j+1:Nat):Int):=by rw[Ad];omega
 have hI:O (O ((p.aF.length:Int)-1)-(j:Int))=((p.aF.length-1-j:Nat):Int):=by rw[Ad (x:=(p.aF.length:Int)-1),Ad];omega
 have hw:O (AD p.aF i+(sgA p.aF i).len)=AD p.aF (i+1):=by rw[U,Ad]
 have X:max (AD p.aF i) lo<min (AD p.aF (i+1)) hi->O (min (AD p.aF (i+1)) hi-max (AD p.aF i) lo)=min (AD p.aF (i+1)) hi-max (AD p.aF i) lo:=λ_=>Ad;have hd:max (AD p.aF i) lo<min (AD p.aF (i+1)) hi->0<=min (AD p.aF (i+1)) hi-max (AD p.aF i) lo/\min (AD p.aF (i+1)) hi-max (AD p.aF i) lo<=268435456:=λ_=>by omega
 have Y:i≠0->O ((i:Int)-1)=((i-1:Nat):Int)/\((0:Int)<=((i-1:Nat):Int)/\((i-1:Nat):Int)<(p.aF.length:Int))/\nth [] (p.aF.map Az) (i-1)=Az (sgA p.aF (i-1))/\E4 p.aQ p.aF i=(sgA p.aF (i-1)).to:=by
  intro h0;refine⟨by rw[Ad];omega,by omega,La (by omega),?_⟩;obtain⟨q,rfl⟩:∃q,i=q+1:=⟨i-1,by omega⟩;exact TZ (by omega)
 unfold IR;rw[Zei];rcases G with⟨rfl,rfl⟩|⟨rfl,ei⟩
 ·simp only[go_sem,ac,Tf,af,hr,hb,aa V,aa S,Ot,Kg,hw,e1];rw[ab];by_cases c:max (AD p.aF i) lo<min (AD p.aF (i+1)) hi
  ·rw[ab,aa c,X c];by_cases c0:i=0
   ·rw[ab];have D:=hV (a:=p.aQ) (b:=(sgA p.aF i).to) (s:=max (AD p.aF i) lo) (hd c);subst c0;rw[JX];rw[ab,D];simp only[F6,go_sem];rfl
   ·obtain⟨k1,k2,k3,k4⟩:=Y c0;rw[aa,k1];have D:=hV (a:=(sgA p.aF (i-1)).to) (b:=(sgA p.aF i).to) (s:=max (AD p.aF i) lo) (hd c);rw[k4];simp only[af,k3,go_sem,aa k2];rw[ab,D];simp only[F6,go_sem];rfl
  ·rw[aa,ab c]
 ·rw[<-ei]at hI;simp only[go_sem,ac,Tf,hI,af,hr,hb,aa V,aa S,Ot,Kg,hw,e1];rw[aa];by_cases c:max (AD p.aF i) lo<min (AD p.aF (i+1)) hi
  ·rw[ab,aa c,X c];by_cases c0:i=0
   ·rw[ab];have D:=hV (a:=p.aQ) (b:=(sgA p.aF i).to) (s:=min (AD p.aF (i+1)) hi) (hd c);subst c0;rw[JX];rw[aa,D];simp only[F6,go_sem];rfl
   ·obtain⟨k1,k2,k3,k4⟩:=Y c0;rw[aa,k1];have D:=hV (a:=(sgA p.aF (i-1)).to) (b:=(sgA p.aF i).to) (s:=min (AD p.aF (i+1)) hi) (hd c);rw[k4];simp only[af,k3,go_sem,aa k2];rw[aa,D];simp only[F6,go_sem];rfl
  ·rw[aa,ab c]
end Go.Bm
