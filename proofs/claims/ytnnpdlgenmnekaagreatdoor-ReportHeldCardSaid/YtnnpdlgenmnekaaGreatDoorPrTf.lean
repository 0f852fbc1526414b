/- laid together -/
import Derived.Test.YtnnpdlgenmnekaaGreatDoorPrV
import Derived.Test.YtnnpdlgenmnekaaGreatDoorMx3
set_option linter.unusedVariables false
set_option linter.unusedSimpArgs false
set_option maxRecDepth 100000
open Go.IntKind (wrap)
variable {i A j:Nat} {M Z W V T S H:Go.Bm.Fn} {p:Go.Bm.Pth} {a b q:Go.Bm.Pt} {t:Go.Bm.Trk} {u d v X Y:Int} {Q:Int->Go.Bm.Pt->Prop} {N:Go.Bm.Lp} {z o:List Go.Bm.Itm}
namespace Go.Bm
theorem Zv1 (p:Pt):NU [I p.x,I p.y,I p.z]=some [B (decide (bd 1048576 p))]:=by
 unfold NU;rw[Zwh];simp only[go_sem];by_cases h:bd 1048576 p
 ·obtain⟨O,S,T⟩:=h;rw[ab,ab,ab,ab,ab,ab];congr 3;symm;exact ak ⟨O,S,T⟩
 ·have e:decide (bd 1048576 p)=false:=am h;rw[e];unfold bd at h;by_cases D:p.x< -1048576
  ·rw[aa D]
  rw[ab D];by_cases G:p.x>1048576
  ·rw[aa G]
  rw[ab G];by_cases L:p.y< -1048576
  ·rw[aa L]
  rw[ab L];by_cases M:p.y>1048576
  ·rw[aa M]
  rw[ab M];by_cases N:p.z< -1048576
  ·rw[aa N]
  rw[ab N,aa]
def axI (pl:Int):Int×Int×Int:=if pl=17 then(0,1,2)else if pl=18 then(2,0,1)else if pl=19 then(1,2,0)else(0,0,0)
theorem Qiz (pl:Int):FG [I pl]=some [I (axI pl).1,I (axI pl).2.1,I (axI pl).2.2,B (decide (BY pl))]:=by
 unfold FG;rw[Ya4];simp only[go_sem];unfold axI BY;by_cases D:pl=17
 ·rw[aa D,aa D];simp[D]
 rw[ab D,ab D];by_cases G:pl=18
 ·rw[aa G,aa G];simp[G]
 rw[ab G,ab G];by_cases L:pl=19
 ·rw[aa L,aa L];simp[L]
 rw[ab L,ab L];simp[D,G,L]
theorem Ygm (G:∀pl:Int,M [I pl]=some [I (axI pl).1,I (axI pl).2.1,I (axI pl).2.2,B (decide (BY pl))]) {p:Pt} {pl:Int} (D:BY pl):
  VZ M [I p.x,I p.y,I p.z,I pl]=some [I (plU pl p),I (plW pl p),I (plH pl p)]:=by
 rw[Yig];simp only[go_sem,G];rw[ab (by simpa using D)];rcases D with rfl|rfl|rfl<;>rfl
theorem Q0i (D:BY u):H9 [I a.x,I a.y,I a.z,I u]=some [I (plU u a),I (plW u a),I (plH u a)]:=Ygm Qiz D
def Aw (p:Pt):Pt:=⟨p.x*16,p.y*16,p.z*16⟩
theorem DD (h:bd i a):bd (i*16) (Aw a):=by
 obtain⟨D,G,I⟩:=h;unfold Aw;exact⟨by simp only;omega,by simp only;omega,by simp only;omega⟩
theorem UA (pl:Int) (p:Pt):plU pl (Aw p)=plU pl p*16/\plW pl (Aw p)=plW pl p*16/\plH pl (Aw p)=plH pl p*16:=by
 unfold plU plW plH Aw;refine⟨?_,?_,?_⟩<;>split<;>(try split)<;>rfl
theorem Q8s (h:bd 100000000 a):HC [I a.x,I a.y,I a.z]=some (ptR (Aw a)):=by
 unfold HC;rw[Zug];obtain⟨D,G,L⟩:=h;rw[Ad,Ad,Ad];rfl
theorem Qga (h:bd 100000000 a):Ek [I a.x,I a.y,I a.z]=some (ptR (Aw a)):=by
 unfold Ek;rw[Zp9];obtain⟨D,G,L⟩:=h;rw[Ad,Ad,Ad];rfl
theorem Qmv {u w r h x y s g:Int} (D:u.natAbs<=1000000000) (G:w.natAbs<=1000000000) (L:x.natAbs<=1000000000) (M:y.natAbs<=1000000000):GP [I u,I w,I r,I h,I x,I y,I s,I g]=some [I (dt2 u w x y)]:=by
 unfold GP;rw[Z6j];have N:=EU D L;have O:=EU G M;unfold dt2;rw[Ad (x:=u*x),Ad (x:=w*y),Ad]
theorem Qqa {u w r h x y s g:Int} (D:u.natAbs<=1000000000) (G:w.natAbs<=1000000000) (L:x.natAbs<=1000000000) (M:y.natAbs<=1000000000):Hb [I u,I w,I r,I h,I x,I y,I s,I g]=some [I (crs u w x y)]:=by
 unfold Hb;rw[Zuk];have N:=EU D M;have O:=EU G L;unfold crs;rw[Ad (x:=u*y),Ad (x:=w*x),Ad]
theorem Zmp (N:∀{a b c d:Int},i64 a->i64 b->i64 c->i64 d->M [I a,I b,I c,I d]=some [I (FH (a*b) (c*d))]) {X Y:Int} (O:64<=X/\X<=1000000000000000) (S:64<=Y/\Y<=1000000000000000):
  ∃v,Y9 M [I X,I Y]=some [B v]/\(v=true↔Fk X Y):=by
 rw[Zy2,Zmh O.1 S.1];have G:mx X Y=max X Y:=by unfold mx;rw[Int.max_def];split<;>split<;>omega
 have L:mn X Y=min X Y:=by unfold mn;rw[Int.min_def];split<;>split<;>omega
 have T:max X Y<=1000000000000000/\64<=max X Y:=by omega
 have U:min X Y<=1000000000000000/\64<=min X Y:=by omega
 rw[G,L];generalize max X Y=a at*;generalize min X Y=b at*;simp only[go_sem];rw[Ad (x:=a-b),Ad (x:=a-b-16)];by_cases D:a-b-16<=0
 ·rw[aa D];exact⟨_,rfl,gh rfl (.inl D)⟩
 ·rw[ab D,N (by unfold i64;omega) (by unfold i64;omega) (by unfold i64;omega) (by unfold i64;omega)];refine⟨_,rfl,?_⟩;simp only[go_sem,bz,Za9];exact⟨λh=> .inr h,λh=>h.resolve_left D⟩
theorem Zp8 (D:64<=X/\X<=1000000000000000) (G:64<=Y/\Y<=1000000000000000):∃v,QK [I X,I Y]=some [B v]/\(v=true↔Fk X Y):=Zmp Yd1 D G
theorem Z9g {it:Itm} (G:∀p:Pt,M [I p.x,I p.y,I p.z,I it.aG]=some [I (plU it.aG p),I (plW it.aG p),I (plH it.aG p)]) (L:∀{p:Pt},bd 100000000 p->Z [I p.x,I p.y,I p.z]=some (ptR (Aw p)))
  (T:bd 1048576 it.fr) (U:bd 1048576 it.to) (V:bd 1048576 it.ce):
  Zq M Z (Al (Qub M Z)) (Af it)=some [I (dU it it.fr*16),I (dW it it.fr*16),I 0,I (plH it.aG it.fr*16),I (dU it it.to*16),I (dW it it.to*16),I 0,I (plH it.aG it.to*16)]:=by
 rw[Z4x];obtain⟨q1,q2,q3⟩:=D8 (pl:=it.aG) T;obtain⟨q4,q5,q6⟩:=D8 (pl:=it.aG) U;obtain⟨q7,q8,q9⟩:=D8 (pl:=it.aG) V;simp only[L (AI V (by omega)),G,go_sem];have w0:O (0+1)=1:=Ad;have X:O (1+1)=2:=Ad;have N:=UA it.aG it.fr;have S:=UA it.aG it.to;have D:=UA it.aG it.ce;have Y:O (plU it.aG (Aw it.fr)-plU it.aG (Aw it.ce))=dU it it.fr*16:=by rw[N.1,D.1];unfold dU;rw[Ad];omega
 have u2:O (plW it.aG (Aw it.fr)-plW it.aG (Aw it.ce))=dW it it.fr*16:=by rw[N.2.1,D.2.1];unfold dW;rw[Ad];omega
 have u3:O (plU it.aG (Aw it.to)-plU it.aG (Aw it.ce))=dU it it.to*16:=by rw[S.1,D.1];unfold dU;rw[Ad];omega
 have u4:O (plW it.aG (Aw it.to)-plW it.aG (Aw it.ce))=dW it it.to*16:=by rw[S.2.1,D.2.1];unfold dW;rw[Ad];omega
 have b1:bd 100000000 it.fr:=AI T (by omega);have b2:bd 100000000 it.to:=AI U (by omega);have e1:=L b1;have e2:=L b2;rw[AS (by rw[Qsj];simp only[go_sem,e1,e2,G,Y,u2,w0];rfl),AS (by rw[Qsj];simp only[go_sem,e1,e2,G,u3,u4,X];rfl),
  AJ (o:=(1,_)) (by rw[Qsj];simp only[go_sem];rfl) (by simp)]
 simp only[go_sem,N.2.2,S.2.2]
theorem Zh5 {it:Itm} (D:BY it.aG) (G:bd 1048576 it.fr) (L:bd 1048576 it.to) (M:bd 1048576 it.ce):
  KL (Af it)=some [I (dU it it.fr*16),I (dW it it.fr*16),I 0,I (plH it.aG it.fr*16),I (dU it it.to*16),I (dW it it.to*16),I 0,I (plH it.aG it.to*16)]:=
 Z9g (λ_=>Q0i D) Q8s G L M
theorem Yi6 {T:Fn} {X Y C D N U S V:Int} {bG:Bool} (hX:0<=X/\X<=1000000000000000) (hY:0<=Y/\Y<=1000000000000000)
  (hN:∀{X Y:Int},(64<=X/\X<=1000000000000000)->(64<=Y/\Y<=1000000000000000)->∃v,T [I X,I Y]=some [B v]/\(v=true↔Fk X Y)):
  ∃ v, (if X * 256 < O (128 * 128) then some [B false] else if Y * 256 < O (128 * 128) then some [B false] else
   (T [I (O ((X*256).tdiv 256)),I (O ((Y*256).tdiv 256))]).bind λo=>
   if¬EZ (nth .vD o 0)=true then some [B false]else if bG=true then if N*16=S*16 then some [B (U*16==V*16)]else some [B false]else if C*256≠0 then some [B true]else some [B (decide (D*256<0))])=some [B v]/\
   (v=true↔64<=X/\64<=Y/\Fk X Y/\(bG=true->N=S/\U=V)/\(bG=false->C≠0\/D<0)):=by
 rw[Ad (x:=128*128),Int.mul_tdiv_cancel _ (by omega),Int.mul_tdiv_cancel _ (by omega),Ad (x:=X),Ad (x:=Y)];by_cases c1:X*256<128*128
 ·rw[aa c1];exact⟨_,rfl,dq (by simp) λh=>by omega⟩
 rw[ab c1];by_cases c2:Y*256<128*128
 ·rw[aa c2];exact⟨_,rfl,dq (by simp) λh=>by omega⟩
 rw[ab c2];obtain⟨v,h1,h2⟩:=hN (X:=X) (Y:=Y) (by omega) (by omega);simp only[h1,go_sem];by_cases M:v=true
 case neg=>rw[aa M];exact⟨_,rfl,dq (by simp) λh=>M (h2.2 h.2.2.1)⟩
 rw[ab (by simpa using M)];have G:=h2.1 M;cases bG with
 |true=>
  rw[aa rfl];by_cases L:N*16=S*16
  ·rw[aa L];refine⟨_,rfl,?_⟩;simp only[beq_iff_eq];exact⟨λh=>⟨by omega,by omega,G,λ_=>⟨by omega,by omega⟩,λh=>by simp at h⟩,λh=>by have:=(h.2.2.2.1 trivial).2;omega⟩
  ·rw[ab L];exact⟨_,rfl,dq (by simp) λh=>L (by have:=(h.2.2.2.1 rfl).1;omega)⟩
 |false=>
  rw[ab (by simp)];by_cases L:C*256≠0
  ·rw[aa L];exact⟨_,rfl,gh rfl ⟨by omega,by omega,G,λh=>by simp at h,λ_=> .inl (by omega)⟩⟩
  ·rw[ab L];refine⟨_,rfl,?_⟩;simp only[bz];exact⟨λh=>⟨by omega,by omega,G,λh=>by simp at h,λ_=> .inr (by omega)⟩,λh=>by have:=(h.2.2.2.2 trivial);omega⟩
theorem Zam (a b c d:Int):dt2 (a*16) (b*16) (c*16) (d*16)=dt2 a b c d*256/\crs (a*16) (b*16) (c*16) (d*16)=crs a b c d*256:=by
 unfold dt2 crs;constructor<;>grind
theorem Zst (hA:∀pl:Int,S [I pl]=some [I (axI pl).1,I (axI pl).2.1,I (axI pl).2.2,B (decide (BY pl))]) (hW:∀p:Pt,H [I p.x,I p.y,I p.z]=some [B (decide (bd 1048576 p))])
  {it:Itm} (hE:BY it.aG->bd 1048576 it.fr->bd 1048576 it.to->bd 1048576 it.ce->V (Af it)=some [I (dU it it.fr*16),I (dW it it.fr*16),I 0,I (plH it.aG it.fr*16),I (dU it it.to*16),I (dW it it.to*16),I 0,I (plH it.aG it.to*16)])
  (hD:∀{u w r h x y s g:Int},u.natAbs<=1000000000->w.natAbs<=1000000000->x.natAbs<=1000000000->y.natAbs<=1000000000->W [I u,I w,I r,I h,I x,I y,I s,I g]=some [I (dt2 u w x y)])
  (hX:∀{u w r h x y s g:Int},u.natAbs<=1000000000->w.natAbs<=1000000000->x.natAbs<=1000000000->y.natAbs<=1000000000->M [I u,I w,I r,I h,I x,I y,I s,I g]=some [I (crs u w x y)])
  (hN:∀{X Y:Int},(64<=X/\X<=1000000000000000)->(64<=Y/\Y<=1000000000000000)->∃v,Z [I X,I Y]=some [B v]/\(v=true↔Fk X Y)):
  ∃v,Qsf M Z W V S H (Af it)=some [B v]/\(v=true↔BK it):=by
 rw[Z5i];simp only[go_sem,hW,hA];by_cases c1:it.aP<1
 ·rw[aa c1];exact⟨_,rfl,dq (by simp) λh=>by have:=h.1;omega⟩
 rw[ab c1];by_cases U:it.aP>6
 ·rw[aa U];exact⟨_,rfl,dq (by simp) λh=>by have:=h.1;omega⟩
 rw[ab U];by_cases G:bd 1048576 it.fr
 case neg=>rw[aa (by simpa using G)];exact⟨_,rfl,dq (by simp) λh=>G h.2.1⟩
 rw[ab (by simpa using G)];by_cases L:bd 1048576 it.to
 case neg=>rw[aa (by simpa using L)];exact⟨_,rfl,dq (by simp) λh=>L h.2.2.1⟩
 rw[ab (by simpa using L)];by_cases N:it.aP=3
 case neg=>rw[aa N];exact⟨_,rfl,gh rfl ⟨by omega,G,L,λh=>absurd h N⟩⟩
 rw[ab (by simpa using N)];by_cases c5:BY it.aG
 case neg=>rw[aa (by simpa using c5)];exact⟨_,rfl,dq (by simp) λh=>c5 (h.2.2.2 N).1⟩
 rw[ab (by simpa using c5)];by_cases D:bd 1048576 it.ce
 case neg=>
  refine⟨false,?_,dq (by simp) λh=>D (h.2.2.2 N).2.2.1⟩;split
  ·split
   ·rfl
   ·first|rfl|(rw[aa D])
  ·first|rfl|(rw[aa D])
 by_cases c6:it.dir=1\/it.dir= -1
 case neg=>
  rw[aa (c:=it.dir≠1),aa (c:=it.dir≠-1)];exact⟨false,rfl,dq (by simp) λh=>c6 (h.2.2.2 N).2.1⟩
 have O:=hE c5 G L D;obtain⟨b1,b2⟩:=Oj (it:=it) D G;obtain⟨b3,b4⟩:=Oj (it:=it) D L;simp only[Af]at O;have x1:=VK b1 b2;have x2:=VK b3 b4;have core:BK it↔64<=qA it/\64<=qB it/\Fk (qA it) (qB it)/\(it.bG=true->dU it it.fr=dU it it.to/\dW it it.fr=dW it it.to)/\(it.bG=false->cAB it≠0\/dAB it<0):=
  ⟨λh=>(h.2.2.2 N).2.2.2,λh=>⟨by omega,G,L,λ_=>⟨c5,c6,D,h⟩⟩⟩
 rw[core];have a0:0<=qA it/\qA it<=1000000000000000:=⟨x1.1,by unfold qA;omega⟩;have a1:0<=qB it/\qB it<=1000000000000000:=⟨x2.1,by unfold qB;omega⟩;have D1:= @hD (dU it it.fr*16) (dW it it.fr*16) 0 (plH it.aG it.fr*16) (dU it it.fr*16) (dW it it.fr*16) 0 (plH it.aG it.fr*16) (by omega) (by omega) (by omega) (by omega);have D2:= @hD (dU it it.to*16) (dW it it.to*16) 0 (plH it.aG it.to*16) (dU it it.to*16) (dW it it.to*16) 0 (plH it.aG it.to*16) (by omega) (by omega) (by omega) (by omega);have D3:= @hD (dU it it.fr*16) (dW it it.fr*16) 0 (plH it.aG it.fr*16) (dU it it.to*16) (dW it it.to*16) 0 (plH it.aG it.to*16) (by omega) (by omega) (by omega) (by omega);have D4:= @hX (dU it it.fr*16) (dW it it.fr*16) 0 (plH it.aG it.fr*16) (dU it it.to*16) (dW it it.to*16) 0 (plH it.aG it.to*16) (by omega) (by omega) (by omega) (by omega);rw[(Zam _ _ _ _).1]at D1 D2 D3;rw[(Zam _ _ _ _).2]at D4;have e1:dt2 (dU it it.fr) (dW it it.fr) (dU it it.fr) (dW it it.fr)=qA it:=rfl;have e2:dt2 (dU it it.to) (dW it it.to) (dU it it.to) (dW it it.to)=qB it:=rfl;have e3:dt2 (dU it it.fr) (dW it it.fr) (dU it it.to) (dW it it.to)=dAB it:=rfl;have e4:crs (dU it it.fr) (dW it it.fr) (dU it it.to) (dW it it.to)=cAB it:=rfl;rw[e1]at D1;rw[e2]at D2;rw[e3]at D3;rw[e4]at D4;have T:= @Yi6 Z (qA it) (qB it) (cAB it) (dAB it) (dU it it.fr) (dW it it.fr) (dU it it.to) (dW it it.to) it.bG a0 a1 hN;have n7: ¬ ¬bd 1048576 it.ce:=λh=>h D;by_cases d1:it.dir=1
 ·rw[ab (c:=it.dir≠1) (λh=>h d1),ab n7];simp only[O,go_sem,D1,D2,D3,D4];exact T
 ·rw[aa (c:=it.dir≠1) d1,ab (c:=it.dir≠-1),ab n7];simp only[O,go_sem,D1,D2,D3,D4];exact T
theorem Qr7 (it:Itm):∃v,GZ (Af it)=some [B v]/\(v=true↔BK it):=
 Zst Qiz Zv1 (λD G I L=>Zh5 D G I L) Qmv Qqa Zp8
def okS (s:Spk):Prop:=s.u.natAbs<=50000000/\s.w.natAbs<=50000000/\(0<=s.r/\s.r<=50000000)/\s.h.natAbs<=16777216
def hf (a b:Int):Int:=(a+b+1)/2
theorem Zdl (D:u.natAbs<=100000000) (hb:d.natAbs<=100000000):NE [I u,I d]=some [I (hf u d)]:=by
  unfold NE;rw[Zlv,Ad (x:=u+d),Ad (x:=u+d+1)];have e:(2^min (Int.toNat 1) IntKind.i64.bits:Int)=2:=rfl;rw[e,dy _ (by omega)];rfl
def BE (a b:Spk) (dir:Int) (bG:Bool):Int×Int:=
  if bG=true then(-a.u,-a.w)
  else if 0<dt2 a.u a.w b.u b.w/\0<crs a.u a.w b.u b.w*dir then(a.u+b.u,a.w+b.w)
  else if 0<dt2 a.u a.w b.u b.w then(-(a.u+b.u),-(a.w+b.w))
  else(dir*(b.w-a.w),dir*(a.u-b.u))
noncomputable def EF (a b:Spk) (u w:Int):Spk:=if u=0/\w=0 then⟨0,0,0,0⟩else⟨Bf u (hf a.r b.r) (sq2 u w),Bf w (hf a.r b.r) (sq2 u w),hf a.r b.r,hf a.h b.h⟩
noncomputable def B9 (a b:Spk) (dir:Int) (bG:Bool):Spk:=EF a b (BE a b dir bG).1 (BE a b dir bG).2
theorem KH {a b:Spk} (D:okS a) (hb:okS b) {dir:Int} (G:dir=1\/dir= -1) (bG:Bool):(BE a b dir bG).1.natAbs<=100000000/\(BE a b dir bG).2.natAbs<=100000000:=by
  obtain⟨a1,a2,-⟩:=D;obtain⟨b1,b2,-⟩:=hb;unfold BE;split
  · exact⟨by simp only;omega,by simp only;omega⟩
  · split
    · exact⟨by simp only;omega,by simp only;omega⟩
    · split
      · exact⟨by simp only;omega,by simp only;omega⟩
      · rcases G with rfl|rfl
        · exact⟨by simp only;omega,by simp only;omega⟩
        · exact⟨by simp only;omega,by simp only;omega⟩
theorem Ze6 (u w:Int):u*u<=sq2 u w/\w*w<=sq2 u w:=by
  have D:=E3 u;have G:=E3 w;unfold sq2;omega
theorem SE {u w:Int} (h: ¬(u=0/\w=0)):0<sq2 u w:=by
  have I:=E3 u;have L:=E3 w;have z:∀u:Int,u*u=0->u=0:=λu G=>by
    rcases Int.mul_eq_zero.1 G with h|h<;>exact h
  have M: ¬(u*u=0/\w*w=0):=λD=>h ⟨z _ D.1,z _ D.2⟩;unfold sq2;omega
theorem TX (D:0<=u/\u<=50000000) (hb:0<=d/\d<=50000000):0<=hf u d/\hf u d<=50000000:=by unfold hf;omega
theorem Zn9 (D:u.natAbs<=16777216) (hb:d.natAbs<=16777216):(hf u d).natAbs<=16777216:=by unfold hf;omega
theorem VQ {u w r:Int} (D:u.natAbs<=100000000) (G:w.natAbs<=100000000) (T:0<=r/\r<=50000000) (h: ¬(u=0/\w=0)):
    (HU [I u,I r,I (sq2 u w)]=some [I (Bf u r (sq2 u w))]/\(Bf u r (sq2 u w)).natAbs<=r.natAbs)/\(HU [I w,I r,I (sq2 u w)]=some [I (Bf w r (sq2 u w))]/\(Bf w r (sq2 u w)).natAbs<=r.natAbs):=by
  have U:=SE h;have V:=Cn D;have X:=Cn G;have Y:sq2 u w<=20000000000000000:=by unfold sq2;omega
  obtain⟨L,M⟩:=Ze6 u w;have key:∀x:Int,x.natAbs<=100000000->x*x<=sq2 u w->HU [I x,I r,I (sq2 u w)]=some [I (Bf x r (sq2 u w))]/\(Bf x r (sq2 u w)).natAbs<=r.natAbs:=by
    intro x N O;obtain⟨g1,-,S⟩:=Ra (x:=x) (r:=r) (n:=sq2 u w) (bm N (by decide)) (by omega) (by omega) O;refine⟨g1,Qyw (by omega) ?_ S⟩;have:((x.natAbs*x.natAbs:Nat):Int)=x*x:=f8;omega
  exact⟨key u D L,key w G M⟩
theorem Zm2 {a b:Spk} (D:okS a) (hb:okS b) {u w:Int} (I:u.natAbs<=100000000) (L:w.natAbs<=100000000):okS (EF a b u w):=by
  unfold EF;split
  · exact⟨by simp,by simp,by simp,by simp⟩
  · rename_i h
    have G:=TX D.2.2.1 hb.2.2.1;obtain⟨⟨-,M⟩,-,N⟩:=VQ I L G h;exact⟨by simp only;omega,by simp only;omega,G,Zn9 D.2.2.2 hb.2.2.2⟩
theorem Tv {a b:Spk} (D:okS a) (hb:okS b) {dir:Int} (G:dir=1\/dir= -1) (bG:Bool):okS (B9 a b dir bG):=
  Zm2 D hb (KH D hb G bG).1 (KH D hb G bG).2
theorem Yci {MN MH:Fn} {a b:Spk} {u w:Int} (T:u.natAbs<=100000000) (U:w.natAbs<=100000000) (V:MH [I a.r,I b.r]=some [I (hf a.r b.r)]) (X:MH [I a.h,I b.h]=some [I (hf a.h b.h)])
    (Y: ¬(u=0/\w=0)->MN [I u,I (hf a.r b.r),I (sq2 u w)]=some [I (Bf u (hf a.r b.r) (sq2 u w))]/\MN [I w,I (hf a.r b.r),I (sq2 u w)]=some [I (Bf w (hf a.r b.r) (sq2 u w))]):
    (bif u == 0 then
      bif w==0 then some [AC.int IntKind.i64 0,AC.int IntKind.i64 0,AC.int IntKind.i64 0,AC.int IntKind.i64 0,AC.bool false]
      else(MH [AC.int IntKind.i64 a.r,AC.int IntKind.i64 b.r]).bind λD=>
       (MN [AC.int IntKind.i64 u,AC.int IntKind.i64 (Ah (nth AC.vD D 0)),AC.int IntKind.i64 (O (O (u*u)+O (w*w)))]).bind λG=>
       (MN [AC.int IntKind.i64 w,AC.int IntKind.i64 (Ah (nth AC.vD D 0)),AC.int IntKind.i64 (O (O (u*u)+O (w*w)))]).bind λL=>
       (MH [AC.int IntKind.i64 a.h,AC.int IntKind.i64 b.h]).bind λM=>
       some [AC.int IntKind.i64 (Ah (nth AC.vD G 0)),AC.int IntKind.i64 (Ah (nth AC.vD L 0)),AC.int IntKind.i64 (Ah (nth AC.vD D 0)),AC.int IntKind.i64 (Ah (nth AC.vD M 0)),AC.bool true]
     else(MH [AC.int IntKind.i64 a.r,AC.int IntKind.i64 b.r]).bind λD=>
       (MN [AC.int IntKind.i64 u,AC.int IntKind.i64 (Ah (nth AC.vD D 0)),AC.int IntKind.i64 (O (O (u*u)+O (w*w)))]).bind λG=>
       (MN [AC.int IntKind.i64 w,AC.int IntKind.i64 (Ah (nth AC.vD D 0)),AC.int IntKind.i64 (O (O (u*u)+O (w*w)))]).bind λL=>
       (MH [AC.int IntKind.i64 a.h,AC.int IntKind.i64 b.h]).bind λM=>
       some [AC.int IntKind.i64 (Ah (nth AC.vD G 0)),AC.int IntKind.i64 (Ah (nth AC.vD L 0)),AC.int IntKind.i64 (Ah (nth AC.vD D 0)),AC.int IntKind.i64 (Ah (nth AC.vD M 0)),AC.bool true])=
    some (AX (EF a b u w)++[B (decide (¬(u=0/\w=0)))]):=by
  have q1:=Cn T;have q2:=Cn U;have e:O (O (u*u)+O (w*w))=sq2 u w:=by
    unfold sq2;generalize u*u=x at*;generalize w*w=y at*;rw[Ad (x:=x),Ad (x:=y),Ad]
  simp only[go_sem,e,V,X];unfold EF;by_cases h:u=0/\w=0
  · rw[aa h.1,aa h.2,aa h]
    simp[h]
  · obtain⟨n1,n2⟩:=Y h
    rw[ab h];simp only[n1,n2,go_sem];have hd:decide (¬(u=0/\w=0))=true:=ak h;rw[hd];by_cases N:u=0
    · rw[aa N,ab (λS=>h ⟨N,S⟩)];try rfl
    · rw[ab N];try rfl
theorem Z5p {a b:Spk} (X:okS a) (hb:okS b) {dir:Int} (L:dir=1\/dir= -1) (bG:Bool)
    (h1:Z [I a.r,I b.r]=some [I (hf a.r b.r)]) (h2:Z [I a.h,I b.h]=some [I (hf a.h b.h)])
    (hN:∀{u w:Int},u.natAbs<=100000000->w.natAbs<=100000000-> ¬(u=0/\w=0)->M [I u,I (hf a.r b.r),I (sq2 u w)]=some [I (Bf u (hf a.r b.r) (sq2 u w))]/\M [I w,I (hf a.r b.r),I (sq2 u w)]=some [I (Bf w (hf a.r b.r) (sq2 u w))])
    (hC:W [I a.u,I a.w,I a.r,I a.h,I b.u,I b.w,I b.r,I b.h]=some [I (crs a.u a.w b.u b.w)]) (hD:V [I a.u,I a.w,I a.r,I a.h,I b.u,I b.w,I b.r,I b.h]=some [I (dt2 a.u a.w b.u b.w)])
    (a0:(crs a.u a.w b.u b.w).natAbs<=5000000000000000):
    Qqr M Z W V [I a.u,I a.w,I a.r,I a.h,I b.u,I b.w,I b.r,I b.h,I dir,B bG]=some (AX (B9 a b dir bG)++[B (decide (¬((BE a b dir bG).1=0/\(BE a b dir bG).2=0)))]):=by
  have key:=fun{u w:Int} (Y:u.natAbs<=100000000) (hw:w.natAbs<=100000000)=>Yci (MN:=M) (MH:=Z) (a:=a) (b:=b) Y hw h1 h2 (hN Y hw);have N:=KH X hb L bG;obtain⟨a1,a2,-⟩:=X;obtain⟨b1,b2,-⟩:=hb;have w1:O (0-a.u)= -a.u:=by rw[Ad];omega
  have w2:O (0-a.w)= -a.w:=by rw[Ad];omega
  have w3:O (a.u+b.u)=a.u+b.u:=Ad;have w4:O (a.w+b.w)=a.w+b.w:=Ad;have w5:O (0-(a.u+b.u))= -(a.u+b.u):=by rw[Ad];omega
  have w6:O (0-(a.w+b.w))= -(a.w+b.w):=by rw[Ad];omega
  have w7:O (b.w-a.w)=b.w-a.w:=Ad;have w8:O (a.u-b.u)=a.u-b.u:=Ad;have w9:O (dir*(b.w-a.w))=dir*(b.w-a.w):=by rcases L with rfl|rfl<;>exact Ad
  have T:O (dir*(a.u-b.u))=dir*(a.u-b.u):=by rcases L with rfl|rfl<;>exact Ad
  have U:O (crs a.u a.w b.u b.w*dir)=crs a.u a.w b.u b.w*dir:=by rcases L with rfl|rfl<;>exact Ad
  rw[Zuh];try dsimp only[go_sem]
  unfold B9;simp only[w1,w2,w3,w4,w5,w6,w7,w8,w9,T,hC,hD,ai,F0,FP,gA,jA,wA,bA,U];have fin:∀{x:Option (List AC)},x=some (AX (EF a b (BE a b dir bG).1 (BE a b dir bG).2)++[B (decide (¬((BE a b dir bG).1=0/\(BE a b dir bG).2=0)))])->
      (bif dir !=1 then bif dir != -1 then some [AC.int IntKind.i64 0,AC.int IntKind.i64 0,AC.int IntKind.i64 0,AC.int IntKind.i64 0,AC.bool false]else x else x)=some (AX (EF a b (BE a b dir bG).1 (BE a b dir bG).2)++[B (decide (¬((BE a b dir bG).1=0/\(BE a b dir bG).2=0)))]):=by
    intro x hx;rcases L with rfl|rfl
    · rw[B0 (by decide)];exact hx
    · rw[BP (by decide),B0 (by decide)];exact hx
  refine fin ?_;have D:=key N.1 N.2;unfold BE at*;cases bG
  · simp only[aq,df,f9]at D⊢
    by_cases G:0<dt2 a.u a.w b.u b.w
    · rw[Cp (show dt2 a.u a.w b.u b.w>0 from G)]
      by_cases S:0<crs a.u a.w b.u b.w*dir
      · rw[Cp (show crs a.u a.w b.u b.w*dir>0 from S)]
        rw[aa ⟨G,S⟩]at D⊢;exact D
      · rw[AQ (show¬crs a.u a.w b.u b.w*dir>0 from S),Cp (show dt2 a.u a.w b.u b.w>0 from G)]
        rw[ab (λh=>S h.2),aa G]at D⊢;exact D
    · rw[AQ (show¬dt2 a.u a.w b.u b.w>0 from G),AQ (show¬dt2 a.u a.w b.u b.w>0 from G)]
      rw[ab (λh=>G h.1),ab G]at D⊢;exact D
  · simp only[ah,dp]at D⊢
    exact D
theorem De {x:Int} (h:x.natAbs<=50000000):x.natAbs<=1000000000:=bm h (by decide)
theorem Z78 {a b:Spk} (D:okS a) (hb:okS b) {dir:Int} (G:dir=1\/dir= -1) (bG:Bool):
    Mw [I a.u,I a.w,I a.r,I a.h,I b.u,I b.w,I b.r,I b.h,I dir,B bG]=some (AX (B9 a b dir bG)++[B (decide (¬((BE a b dir bG).1=0/\(BE a b dir bG).2=0)))]):=by
  have L:=(Up D.1 D.2.1 hb.1 hb.2.1).2;exact Z5p D hb G bG (Zdl (by have:=D.2.2.1;omega) (by have:=hb.2.2.1;omega)) (Zdl (bm D.2.2.2 (by decide)) (bm hb.2.2.2 (by decide)))
    (λM N h=>by obtain⟨⟨g1,-⟩,g2,-⟩:=VQ M N (TX D.2.2.1 hb.2.2.1) h;exact⟨g1,g2⟩)
    (Qf0 (De D.1) (De D.2.1) (De hb.1) (De hb.2.1)) (Qok (De D.1) (De D.2.1) (De hb.1) (De hb.2.1)) L
def EK (a b:Spk) (dir:Int) (bG:Bool):Prop:=bG=false/\0<crs a.u a.w b.u b.w*dir/\sq2 (a.u-b.u) (a.w-b.w)<=32*mn a.r b.r-64
theorem Z33 {r n:Int} (D:0<=r/\r<=50000000):NB [I r,I n]=some [B (decide (n<=32*r-64))]:=by
  unfold NB;rw[Zlf,Ad (x:=8*r),Ad (x:=8*r*4),Ad (x:=8*r*4-64),show 8*r*4-64=32*r-64 by omega]
instance {a b:Spk} {dir:Int} {bG:Bool}:Decidable (EK a b dir bG):=by unfold EK;infer_instance
theorem Yd6 {a b:Spk} (L:okS a) (hb:okS b) {dir:Int} (T:dir=1\/dir= -1) (bG:Bool)
    (U:∀{r n:Int},(0<=r/\r<=50000000)->M [I r,I n]=some [B (decide (n<=32*r-64))])
    (V:Z [I a.u,I a.w,I a.r,I a.h,I b.u,I b.w,I b.r,I b.h]=some [I (crs a.u a.w b.u b.w)]) (X:(crs a.u a.w b.u b.w).natAbs<=5000000000000000):
    Qlp M Z [I a.u,I a.w,I a.r,I a.h,I b.u,I b.w,I b.r,I b.h,I dir,B bG]=some [B (decide (EK a b dir bG))]:=by
  have Y:0<=mn a.r b.r/\mn a.r b.r<=50000000:=by
    have h1:=L.2.2.1;have h2:=hb.2.2.1;unfold mn;split<;>omega
  obtain⟨a1,a2,-⟩:=L;obtain⟨b1,b2,-⟩:=hb;have N:=Fp a1 b1;have S:=Fp a2 b2;have q1:=Cn N;have q2:=Cn S;have e:O (O ((a.u-b.u)*(a.u-b.u))+O ((a.w-b.w)*(a.w-b.w)))=sq2 (a.u-b.u) (a.w-b.w):=by
    unfold sq2;generalize(a.u-b.u)*(a.u-b.u)=x at*;generalize(a.w-b.w)*(a.w-b.w)=y at*;rw[Ad (x:=x),Ad (x:=y),Ad]
  have G:O (crs a.u a.w b.u b.w*dir)=crs a.u a.w b.u b.w*dir:=by rcases T with rfl|rfl<;>exact Ad
  rw[Zqw,Ez N (by decide),Ez S (by decide),e];cases bG
  · simp only[Bool.not_false,ah,V,ai,F0,FP,gA,jA,wA,bA,G,U Y,R7]
    by_cases c:0<crs a.u a.w b.u b.w*dir
    · rw[Cp (show crs a.u a.w b.u b.w*dir>0 from c)]
      by_cases D:sq2 (a.u-b.u) (a.w-b.w)<=32*mn a.r b.r-64
      · rw[ak D,ak (show EK a b dir false from⟨rfl,c,D⟩)]
      · rw[am D,am (λh:EK a b dir false=>D h.2.2)]
    · rw[AQ (show¬crs a.u a.w b.u b.w*dir>0 from c),am (λh:EK a b dir false=>c h.2.1)]
  · simp only[j9,aq]
    rw[am (λh:EK a b dir true=>by cases h.1)]
theorem Znd {a b:Spk} (D:okS a) (hb:okS b) {dir:Int} (G:dir=1\/dir= -1) (bG:Bool):
    K7 [I a.u,I a.w,I a.r,I a.h,I b.u,I b.w,I b.r,I b.h,I dir,B bG]=some [B (decide (EK a b dir bG))]:=
  Yd6 D hb G bG Z33 (Qf0 (De D.1) (De D.2.1) (De hb.1) (De hb.2.1)) (Up D.1 D.2.1 hb.1 hb.2.1).2
noncomputable def BN (dir:Int):Nat->Bool->Spk->Spk->List Spk
  |0,_,_,b=>[b]
  |k+1,bG,a,b=>if EK a b dir bG then [b]else BN dir k false a (B9 a b dir bG)++BN dir k false (B9 a b dir bG) b
theorem PR {dir:Int}:∀(k:Nat) (bG:Bool) (a b:Spk),1<=(BN dir k bG a b).length/\(BN dir k bG a b).length<=2^k
  |0,_,_,b=>by simp[BN]
  |k+1,bG,a,b=>by
    have D:0<2^k:=eg _;have e3:2^(k+1)=2^k+2^k:=by rw[eu];omega
    unfold BN;split
    · simp;omega
    · have G:=PR k false a (B9 a b dir bG) (dir:=dir)
      have I:=PR k false (B9 a b dir bG) b (dir:=dir);rw[ap];omega
theorem Wl {dir:Int} (G:dir=1\/dir= -1):∀(k:Nat) (bG:Bool) {a b:Spk},okS a->okS b->∀s∈BN dir k bG a b,okS s
  |0,_,a,b,_,hb,s,D=>by simp[BN]at D;subst D;exact hb
  |k+1,bG,a,b,I,hb,s,D=>by
    unfold BN at D;have L:=Tv I hb G bG;split at D
    · simp at D;subst D;exact hb
    · rcases bt.1 D with D|D
      · exact Wl G k false I L s D
      · exact Wl G k false L hb s D
theorem Qfi {dir:Int} (D:dir=1\/dir= -1):∀(n k:Nat) (bG:Bool) (a b:Spk),k<=16->k<n->okS a->okS b->
    M9 n [I a.u,I a.w,I a.r,I a.h,I b.u,I b.w,I b.r,I b.h,I dir,B bG,I (16-k:Int)]=some [.vC BS ((BN dir k bG a b).map AX)]
  |0,k,_,_,_,_,M,_,_=>by omega
  |n+1,0,bG,a,b,_,_,G,hb=>by
    show Ul _ _ _ _=_;rw[Ziy,Cp (by omega)];rfl
  |n+1,k+1,bG,a,b,M,T,G,hb=>by
    have L:=Tv G hb D bG;have i1:=Qfi D n k false a (B9 a b dir bG) (by omega) (by omega) G L;have N:=Qfi D n k false (B9 a b dir bG) b (by omega) (by omega) L hb;have e1:=Znd G hb D bG;have e2:=Z78 G hb D bG;show Ul (M9 n) Mw K7 _=_;generalize M9 n=U at*;generalize Mw=V at*;generalize K7=MS at*;have X:=(PR k false a (B9 a b dir bG) (dir:=dir)).2;have Y:=(PR k false (B9 a b dir bG) b (dir:=dir)).2;have l3:2^k<=2^16:=Nat.pow_le_pow_right (by omega) (by omega);rw[Ziy,AQ (by omega),Ad,show(16-((k+1:Nat):Int)+1)=16-(k:Int) by omega];unfold BN;generalize B9 a b dir bG=m at*;generalize BN dir k false a m=O at*;generalize BN dir k false m b=S at*;simp only[ay,az,AX]at e2;simp only[e1,e2,ai,F0,KX,KA,Pb,FP,gA,jA,wA,bA,R7,i1,N,Vz];by_cases c:EK a b dir bG
    · rw[aa c,BP (ak c)];rfl
    · rw[ab c,B0 (am c),BP]
      · rw[bn]
      · have e:((List.map AX O++List.map AX S).length*32)<=140737488355328:=by
          simp only[ap,ac];have:(2:Nat)^16=65536:=rfl;omega
        exact fo e
theorem Zsr {n i j:Int} (G:JB n i) (I:JB n j):i=j:=by
 have key:∀{i j:Int},JB n i->JB n j-> ¬i<j:=by
  rintro i j ⟨L,M,-⟩ ⟨O,S,D⟩ N;rcases D with D|D
  ·omega
  ·have T:=fc (show i<=j-1 by omega) (show i+1<=j by omega) (by omega) (by omega);omega
 have L:=key G I;have M:=key I G;omega
open Classical in
noncomputable def EI (n:Int):Int:=if h:∃j,JB n j then Classical.choose h else 0
theorem N0 {n k:Int} (h:JB n k):EI n=k:=by
 have D:∃j,JB n j:=⟨k,h⟩;unfold EI;rw[jn D];exact Zsr (fa D) h
theorem Oo {n r:Nat} (D:r*r<=n) (G:n<(r+1)*(r+1)):JB n (if r*r+r<n then r+1 else r:Nat):=by
 have e0:(r+1)*(r+1)=r*r+r+r+1:=by grind
 unfold JB;by_cases c:r*r+r<n
 ·rw[aa c];have e1:((r+1:Nat):Int)*(((r+1:Nat):Int)+1)=((r*r+r+r+r+2:Nat):Int):=by
   have:((r+1:Nat):Int)+1=((r+2:Nat):Int):=by omega
   rw[this,<-cq];congr 1
   grind
  have e2:(((r+1:Nat):Int)-1)*((r+1:Nat):Int)=((r*r+r:Nat):Int):=by
   rw[show((r+1:Nat):Int)-1=(r:Int) by omega,<-cq];congr 1
  rw[e1,e2];generalize r*r=A at*;exact⟨by omega,by omega, .inr (by omega)⟩
 ·rw[ab c];have e1:(r:Int)*((r:Int)+1)=((r*r+r:Nat):Int):=by
   rw[show(r:Int)+1=((r+1:Nat):Int) by omega,<-cq];congr 1
  rw[e1];refine⟨by omega,by omega,?_⟩;rcases dx r with h|h
  ·left;omega
  ·right;have e2:((r:Int)-1)*(r:Int)=(((r-1)*r:Nat):Int):=by
    rw[show(r:Int)-1=((r-1:Nat):Int) by omega];exact(cq _ _).symm
   have:=ew (show r-1<r by omega) h;rw[e2];omega
noncomputable def Bx (it:Itm) (p:Pt):Spk:=⟨dU it p*16,dW it p*16,EI (sq2 (dU it p*16) (dW it p*16)),plH it.aG p*16⟩
theorem Zxt {n:Nat} (L:n<=2251799813685248):0<=EI n/\EI n<=50000000:=by
 obtain⟨r,-,D,G,-⟩:=PJ (n:=n) (by omega);have I:=Oo D G;rw[N0 I];have:r<50000000:=by
  by_cases c:r<50000000
  ·exact c
  ·have:=cy (show 50000000<=r by omega) (show 50000000<=r by omega);omega
 split<;>omega
theorem LT {it:Itm} (I:bd 1048576 it.ce) (L:bd 1048576 a):(dU it a*16).natAbs<=33554432/\(dW it a*16).natAbs<=33554432/\0<=sq2 (dU it a*16) (dW it a*16)/\sq2 (dU it a*16) (dW it a*16)<=2251799813685248:=by
 obtain⟨M,N⟩:=Oj I L;have D:(dU it a*16).natAbs<=33554432:=by omega
 have G:(dW it a*16).natAbs<=33554432:=by omega
 have O:=Cn D;have S:=Cn G;refine⟨D,G,?_⟩;unfold sq2;omega
theorem L7 {it:Itm} (G:bd 1048576 it.ce) (D:bd 1048576 a):okS (Bx it a):=by
 obtain⟨I,L,M,N⟩:=LT G D;have S:=(D8 (pl:=it.aG) D).2.2;obtain⟨n,O⟩:=bj M;refine⟨bm I (by decide),bm L (by decide),?_,?_⟩
 ·show 0<=EI _/\EI _<=_;rw[O]at N⊢;exact Zxt (by omega)
 ·show(plH it.aG a*16).natAbs<=_;omega
theorem Zwx {MR MD:Fn} {u w h:Int} {n r:Nat} (X:u.natAbs<=100000000) (Y:w.natAbs<=100000000) (hh:h.natAbs<=100000000) (D:sq2 (u*16) (w*16)=n) (G:n<=2251799813685248)
  (L:MD [I (u*16),I (w*16),I 0,I (h*16),I (u*16),I (w*16),I 0,I (h*16)]=some [I (sq2 (u*16) (w*16))]) (M:MR [I n]=some [I r]) (N:r*r<=n) (S:n<(r+1)*(r+1)):
  ZM MR MD [I u,I w,I 0,I h]=some (AX ⟨u*16,w*16,EI n,h*16⟩):=by
 have T:=Oo N S;rw[N0 T];rw[Z2y,Ad (x:=u*16),Ad (x:=w*16),Ad (x:=h*16)];have hr:r<=r*r:=by
  rcases dx r with h|h
  ·subst h;simp
  ·exact Nat.le_mul_of_pos_left r h
 have e1:(r:Int)*((r:Int)+1)=((r*r+r:Nat):Int):=by
  rw[show(r:Int)+1=((r+1:Nat):Int) by omega,<-cq];congr 1
 have U:O ((r:Int)*((r+1:Nat):Int))=((r*r+r:Nat):Int):=by
  rw[show((r+1:Nat):Int)=(r:Int)+1 by omega,e1,Ad]
 have V:O ((r:Int)+1)=((r+1:Nat):Int):=by rw[Ad];omega
 simp only[go_sem,L,D,M,U,V];by_cases c:r*r+r<n
 ·rw[aa,aa c]
 ·rw[ab,ab c]
theorem Qxa {it:Itm} (L:bd 1048576 it.ce) (D:bd 1048576 a):Se [I (dU it a),I (dW it a),I 0,I (plH it.aG a)]=some (AX (Bx it a)):=by
 obtain⟨M,N,O,S⟩:=LT L D;obtain⟨n,G⟩:=bj O;have Y:=(D8 (pl:=it.aG) D).2.2;have h6:=Oj L D;have T:=Qok (r:=0) (h:=plH it.aG a*16) (s:=0) (g:=plH it.aG a*16) (bm M (by decide)) (bm N (by decide)) (bm M (by decide)) (bm N (by decide));rw[G]at S;obtain⟨r,U,V,X,-⟩:=PJ (n:=n) (by omega);have:=Zwx (MR:=Jr) (MD:=Ga) (u:=dU it a) (w:=dW it a) (h:=plH it.aG a) (by omega) (by omega) (by omega) G (by omega) T U V X;rw[show Bx it a=⟨dU it a*16,dW it a*16,EI n,plH it.aG a*16⟩from by unfold Bx;rw[G]];exact this
theorem Zrf {it:Itm} (D:Z (Af it)=some [I (dU it it.fr),I (dW it it.fr),I 0,I (plH it.aG it.fr),I (dU it it.to),I (dW it it.to),I 0,I (plH it.aG it.to)])
  (G:M [I (dU it it.fr),I (dW it it.fr),I 0,I (plH it.aG it.fr)]=some (AX (Bx it it.fr))) (L:M [I (dU it it.to),I (dW it it.to),I 0,I (plH it.aG it.to)]=some (AX (Bx it it.to))):
  Qei M Z (Af it)=some (AX (Bx it it.fr)++AX (Bx it it.to)):=by
 rw[Z5x];simp only[go_sem,D,G,L];try rfl
theorem Z24 {it:Itm} (h:BK it) (L:it.aP=3):Qn (Af it)=some (AX (Bx it it.fr)++AX (Bx it it.to)):=by
 obtain⟨-,G,I,M⟩:=h;obtain⟨N,-,D,-⟩:=M L;exact Zrf (Q1c N (by decide) G I D) (Qxa D G) (Qxa D I)
noncomputable def B3 (it:Itm):List Spk:=Bx it it.fr::BN it.dir 16 it.bG (Bx it it.fr) (Bx it it.to)
theorem Qnm {it:Itm} (h:BK it) (L:it.aP=3):∀s∈B3 it,okS s:=by
 obtain⟨-,I,M,N⟩:=h;obtain⟨S,O,D,-⟩:=N L;intro s G;rcases ax.1 G with rfl|G
 ·exact L7 D I
 ·exact Wl O 16 _ (L7 D I) (L7 D M) s G
theorem Tk (it:Itm):2<=(B3 it).length/\(B3 it).length<=65537:=by
 have:=PR (dir:=it.dir) 16 it.bG (Bx it it.fr) (Bx it it.to);have e:(2:Nat)^16=65536:=rfl;rw[e]at this;unfold B3;rw[ba];omega
theorem Zv6 {it:Itm} (hV:∃v,W (Af it)=some [B v]/\(v=true↔BK it)) (h:BK it)
  (N:it.aP=3->Z (Af it)=some (AX (Bx it it.fr)++AX (Bx it it.to)))
  (O:it.aP=3->M (AX (Bx it it.fr)++AX (Bx it it.to)++[I it.dir,B it.bG,I 0])=some [.vC BS ((BN it.dir 16 it.bG (Bx it it.fr) (Bx it it.to)).map AX)]):
  Qka M Z W (Af it)=if it.aP=3 then some [.vC BS ((B3 it).map AX),B true]else some [.vC BS [],B false]:=by
 obtain⟨v,S,G⟩:=hV;rw[Zup];by_cases D:it.aP=3
 ·have e:=N D;have p:=O D;have L:=(Tk it).2;unfold B3 at L⊢;generalize Bx it it.fr=a at*;generalize Bx it it.to=b at*;generalize BN it.dir 16 it.bG a b=l at*;simp only[ay,az]at e p;simp only[go_sem,S,e,p];rw[ab (by simp[D]),ab (by simp[G.2 h]),aa (by simp at L⊢;omega),aa D];rfl
 ·simp only[go_sem];rw[aa D,ab D]
theorem Z37 {it:Itm} (h:BK it):Pv (Af it)=if it.aP=3 then some [.vC BS ((B3 it).map AX),B true]else some [.vC BS [],B false]:=by
 refine Zv6 (Yy it) h (λD=>Z24 h D) λD=> ?_;obtain⟨-,I,L,M⟩:=h;obtain⟨O,N,G,-⟩:=M D;exact Qfi N 20 16 it.bG _ _ (by omega) (by omega) (L7 G I) (L7 G L)
noncomputable def IL (it:Itm) (s:Spk):Pt:=spP it.aG (plU it.aG (Aw it.ce)+s.u) (plW it.aG (Aw it.ce)+s.w) s.h
noncomputable def Bt (it:Itm):List Pt:=if it.aP=3 then(B3 it).map (IL it)else [Aw it.fr,Aw it.to]
theorem Qot {pl u w h:Int} (D:u.natAbs<=i) (G:w.natAbs<=i) (I:h.natAbs<=i):bd i (spP pl u w h):=by
 unfold spP bd;split
 ·exact⟨D,G,I⟩
 ·split
  ·exact⟨G,I,D⟩
  ·exact⟨I,D,G⟩
theorem Zsn {it:Itm} {s:Spk} (D:bd 1048576 it.ce) (G:okS s):bd 67108864 (IL it s):=by
 obtain⟨I,L,-⟩:=D8 (pl:=it.aG) (DD D);obtain⟨s1,s2,-,M⟩:=G;exact Qot (by omega) (by omega) (by omega)
theorem Qgl {it:Itm} (h:BK it):∀p∈Bt it,bd 67108864 p:=by
 intro p D;unfold Bt at D;split at D
 ·rename_i G;simp only[av]at D;obtain⟨s,I,rfl⟩:=D;exact Zsn (h.2.2.2 G).2.2.1 (Qnm h G s I)
 ·simp at D;rcases D with rfl|rfl
  ·exact AI (DD h.2.1) (by decide)
  ·exact AI (DD h.2.2.1) (by decide)
theorem Qct (it:Itm):2<=(Bt it).length/\(Bt it).length<=65537:=by
 have:=Tk it;unfold Bt;split<;>simp<;>omega
theorem Qx9 {MS MP MF MK MV:Fn} {it:Itm} {l:List Spk} {cu cw:Int} (O:l.length<=65537) (L:cu.natAbs<=16777216) (M:cw.natAbs<=16777216) (G:∀s∈l,okS s)
  (N:∀{u w h:Int},MS [I u,I w,I h,I it.aG]=some (ptR (spP it.aG u w h))):
  ∀(k i:Nat),i+k=l.length->Al (ND MS MP MF MK MV) (.vC kPt (((l.take i).map λs=>spP it.aG (cu+s.u) (cw+s.w) s.h).map ptR)::I cu::I cw:: .vC BS (l.map AX)::I l.length::I i::Af it)=
   some (1,[.vC kPt ((l.map λs=>spP it.aG (cu+s.u) (cw+s.w) s.h).map ptR)])
 |0,i,S=>by
  refine AJ ?_ (by simp);rw[Qxb];simp only[go_sem];rw[ab,ij (by omega)]
 |k+1,i,S=>by
  have D:i<l.length:=by omega
  have T:ND MS MP MF MK MV (.vC kPt (((l.take i).map λs=>spP it.aG (cu+s.u) (cw+s.w) s.h).map ptR)::I cu::I cw:: .vC BS (l.map AX)::I l.length::I i::Af it)=
    some (0, .vC kPt (((l.take (i+1)).map λs=>spP it.aG (cu+s.u) (cw+s.w) s.h).map ptR)::I cu::I cw:: .vC BS (l.map AX)::I l.length::I (i+1:Nat)::Af it):=by
   rw[Qxb];have U:nth [] (l.map AX) i=AX l[i]:=Em _ _ _ _ D;have V:=G _ (bf D);have X:l.take (i+1)=l.take i++[l[i]]:=by rw[iw,aj D];rfl
   rw[X];generalize l[i]=s at*;obtain⟨s1,s2,-⟩:=V;simp only[go_sem,ag,ac,U];rw[aa,aa,Ad (x:=cu+s.u),Ad (x:=cw+s.w),Ad (x:=(i:Int)+1)];simp only[N,go_sem];rw[aa (by simp only[ap,ac,f7,ba,bv];omega),bn,bn];rfl
  rw[AS T];exact Qx9 O L M G N k (i+1) (by omega)
theorem Zm0 {it:Itm} (hV:∃v,T (Af it)=some [B v]/\(v=true↔BK it)) (h:BK it)
  (G:V (Af it)=if it.aP=3 then some [.vC BS ((B3 it).map AX),B true]else some [.vC BS [],B false])
  (L:∀{p:Pt},bd 100000000 p->W [I p.x,I p.y,I p.z]=some (ptR (Aw p))) (hP:BY it.aG->∀{p:Pt},Z [I p.x,I p.y,I p.z,I it.aG]=some [I (plU it.aG p),I (plW it.aG p),I (plH it.aG p)])
  (hS:BY it.aG->∀{u w h:Int},M [I u,I w,I h,I it.aG]=some (ptR (spP it.aG u w h))):
  XK M Z W V T (Al (ND M Z W V T)) (Af it)=some [.vC kPt ((Bt it).map ptR),B true]:=by
 obtain⟨v,X,N⟩:=hV;rw[Zmc];have O:=N.2 h;subst O;obtain⟨-,h1,h2,ha⟩:=id h;by_cases D:it.aP=3
 ·obtain⟨Y,hd,hc,-⟩:=ha D;rw[aa D]at G;obtain⟨c1,c2,c3⟩:=D8 (pl:=it.aG) (DD hc);have hl:=Qx9 (MS:=M) (MP:=Z) (MF:=W) (MK:=V) (MV:=T) (it:=it) (l:=B3 it) (cu:=plU it.aG (Aw it.ce)) (cw:=plW it.aG (Aw it.ce)) (Tk it).2 c1 c2 (Qnm h D) (hS Y) (B3 it).length 0 (by omega);have S:Al (ND M Z W V T) [.vC kPt [],I (plU it.aG (Aw it.ce)),I (plW it.aG (Aw it.ce)), .vC BS ((B3 it).map AX),I (B3 it).length,I 0,I it.aP,I it.block,I it.fr.x,I it.fr.y,I it.fr.z,I it.to.x,I it.to.y,I it.to.z,I it.aG,I it.ce.x,I it.ce.y,I it.ce.z,I it.dir,B it.bG,I it.aZ,B it.perRev,I it.side,I it.radius,I it.bH,I it.n,I it.aS,B it.on]=
   some (1,[.vC kPt (((B3 it).map λs=>spP it.aG (plU it.aG (Aw it.ce)+s.u) (plW it.aG (Aw it.ce)+s.w) s.h).map ptR)]):=hl
  have hf:=L (AI hc (by decide));unfold Bt;rw[aa D];have U:= @hP Y (Aw it.ce);simp only[go_sem,X,G,hf,U,ac,S];simp only[je,f9];rfl
 ·rw[ab D]at G;have f1:=L (AI h1 (by decide));have f2:=L (AI h2 (by decide));unfold Bt;rw[ab D];simp only[go_sem,X,G,f1,f2];simp
theorem Zoh {it:Itm} (h:BK it):RN (Af it)=some [.vC kPt ((Bt it).map ptR),B true]:=
 Zm0 (Yy it) h (Z37 h) Qga (λD=>Qk3 D) (λD=>Zij D)
def Et (t:Itm) (aS:Int):Int:=if t.aP=1 then 0 else mx (Bb (mn (if t.perRev=true then t.aZ*mx aS 1 else t.aZ) 60000000*4096) 60000) 1
theorem Q1z {f s:Int} (hf:0<=f/\f<=60000000) (G:0<=s/\s<=30000):0<=f*mx s 1/\f*mx s 1<=1800000000000:=by
 have D:1<=mx s 1/\mx s 1<=30000:=by unfold mx;split<;>omega
 generalize mx s 1=m at*;have I:=fc hf.2 D.2 (by omega) (by omega);have L:=ii hf.1 (show 0<=m by omega);omega
theorem Uk {x:Int} (h:0<=x):0<=mn x 60000000/\mn x 60000000<=60000000:=by unfold mn;split<;>omega
theorem Z6x {t:Itm} (hf:0<=t.aZ/\t.aZ<=60000000) (G:0<=u/\u<=30000)
  (D:∀a:Int,0<=a/\a<=60000000->M [I a,I 4096,I 60000,I 2]=some [I (Bb (a*4096) 60000),B true]):Ws M (Af t++[I u])=some [I (Et t u)]:=by
 have L:=Q1z hf G;have N:=D _ (Uk L.1);have S:=D _ (Uk hf.1);have T:O (t.aZ*mx u 1)=t.aZ*mx u 1:=Ad;simp only[Af,ay,az];rw[Q2y,T];simp only[go_sem,N,S];unfold Et;by_cases g1:t.aP=1
 ·rw[aa g1,aa g1]
 ·rw[ab g1,ab g1];by_cases g2:t.perRev=true
  ·rw[aa g2,aa g2]
  ·rw[ab g2,ab g2]
theorem Z8a {t:Itm} (hf:0<=t.aZ/\t.aZ<=60000000) (L:0<=u/\u<=30000)
  (D:∀a:Int,0<=a/\a<=60000000->M [I (a*4096),I 60000]=some [I (Bb (a*4096) 60000)]):Qha M (Af t++[I u])=some [I (Et t u)]:=by
 have N:=Q1z hf L;have b2:=Uk N.1;have b3:=Uk hf.1;have S:=D _ b2;have T:=D _ b3;have U:O (t.aZ*mx u 1)=t.aZ*mx u 1:=Ad;have G:∀a:Int,0<=a/\a<=60000000->O (O (a*16)*256)=a*4096:=by
  intro a V;rw[Ad (x:=a*16),Ad];omega
 simp only[Af,ay,az];rw[Zg0,U,G _ b2,G _ b3];simp only[go_sem,S,T];unfold Et;by_cases g1:t.aP=1
 ·rw[aa g1,aa g1]
 ·rw[ab g1,ab g1];by_cases g2:t.perRev=true
  ·rw[aa g2,aa g2]
  ·rw[ab g2,ab g2]
theorem Zmr {t:Itm} (hf:0<=t.aZ/\t.aZ<=60000000) (D:0<=u/\u<=30000):JY (Af t++[I u])=some [I (Et t u)]:=
 Z6x hf D λa G=>Uc (by unfold i64;omega) (by unfold i64;omega) (by omega) (by have:a.natAbs*(4096:Int).natAbs<=60000000*4096:=cy (by omega) (by omega);omega)
theorem Yf0 {t:Itm} (hf:0<=t.aZ/\t.aZ<=60000000) (D:0<=u/\u<=30000):GR (Af t++[I u])=some [I (Et t u)]:=
 Z8a hf D λa G=>Zd0 (by omega) (by omega)
def it0:Itm:=⟨0,0,⟨0,0,0⟩,⟨0,0,0⟩,0,⟨0,0,0⟩,0,false,0,false,0,0,0,0,0,false⟩
def vE (aA:List Itm) (i:Nat):Itm:=aA.getD i it0
theorem Rf (h:i<z.length):vE z i=z[i]:=by unfold vE;simp[h]
theorem Zjc (h:i<z.length):vE z i∈z:=by rw[Rf h];exact bf h
theorem CU (h:i<z.length):nth [] (z.map Af) i=Af (vE z i):=by rw[Rf h];exact Em _ _ _ _ h
theorem RY (h:i<z.length):z.drop i=vE z i::z.drop (i+1):=by rw[Rf h];exact KQ _ _ h
def AB (it:Itm):Prop:=1<=it.aP/\it.aP<=6
def smI (it:Itm):Prop:=it.aP=2/\it.fr≠it.to
def syI (it:Itm):Prop:=it.aP=5\/it.aP=6
instance (it:Itm):Decidable (AB it):=by unfold AB;infer_instance
instance (it:Itm):Decidable (smI it):=by unfold smI;infer_instance
instance (it:Itm):Decidable (syI it):=by unfold syI;infer_instance
theorem Q3l (it:Itm):Iz (Af it)=some [B (decide (smI it))]:=by
 unfold Iz;rw[Zlx];by_cases h:it.aP=2
 ·rw[BP (by simp[h])];congr 2;by_cases G:it.fr=it.to
  ·have D:=B4.1 G;rw[am (λI:smI it=>I.2 G)];simp[D.1,D.2.1,D.2.2]
  ·rw[ak (show smI it from⟨h,G⟩)];have D: ¬(it.fr.x=it.to.x/\it.fr.y=it.to.y/\it.fr.z=it.to.z):=λD=>G (B4.2 D);simp only[B,AC.bool.injEq,ji,Bool.and_true];by_cases a:it.fr.x=it.to.x<;>by_cases b:it.fr.y=it.to.y<;>by_cases c:it.fr.z=it.to.z<;>simp[a,b,c]at D⊢
 ·rw[B0 (by simp[h]),am (λI:smI it=>h I.1)]
def A2 (it:Itm):Pt:=⟨(it.fr.x+it.to.x)*8,(it.fr.y+it.to.y)*8,(it.fr.z+it.to.z)*8⟩
theorem Jb {it:Itm} (D:bd 1048576 it.fr) (G:bd 1048576 it.to):bd B24 (A2 it):=by
 unfold bd B24 A2 at*;simp only;omega
theorem Qsq {it:Itm} (D:bd 1048576 it.fr) (G:bd 1048576 it.to):JM (Af it)=some (ptR (A2 it)):=by
 obtain⟨a1,a2,a3⟩:=D;obtain⟨b1,b2,b3⟩:=G;unfold JM;rw[Zkk,Ad (x:=it.fr.x+it.to.x),Ad (x:=(it.fr.x+it.to.x)*8),Ad (x:=it.fr.y+it.to.y),Ad (x:=(it.fr.y+it.to.y)*8),Ad (x:=it.fr.z+it.to.z),Ad (x:=(it.fr.z+it.to.z)*8)];rfl
def Fe:List Itm->Nat->Int
 |[],_=> -1
 |it::l,k=>if it.aP=10 then Fe l (k+1)else if smI it then k else-1
def Bg (aA:List Itm) (i:Nat):Int:=if smI (vE aA i)/\(vE aA i).bH≠0 then Fe (aA.drop (i+1)) (i+1)else-1
theorem Qx3:∀(l:List Itm) (k:Nat),Fe l k= -1\/∃j:Nat,Fe l k=((k+j:Nat):Int)/\∃h:j<l.length,smI l[j]/\∀i (D:i<l.length),i<j->l[i].aP=10
 |[],_=> .inl rfl
 |it::l,k=>by
  unfold Fe;split
  ·rename_i G;rcases Qx3 l (k+1)with h|⟨j,I,S,L,M⟩
   ·exact .inl h
   ·refine .inr ⟨j+1,by rw[I];omega,by simp;omega,by simpa using L,?_⟩;intro i D N;cases i with
    |zero=>simpa using G
    |succ i=>simpa using M i (by simpa using D) (by omega)
  ·split
   ·rename_i O;exact .inr ⟨0,by simp,by simp,by simpa using O,λi _ D=>by omega⟩
   ·exact .inl rfl
theorem Qa7 (aA:List Itm) (i:Nat):Bg aA i= -1\/(smI (vE aA i)/\(vE aA i).bH≠0/\∃k:Nat,Bg aA i=k/\i<k/\k<aA.length/\smI (vE aA k)/\∀j,i<j->j<k->(vE aA j).aP=10):=by
 unfold Bg;split
 ·rename_i h;rcases Qx3 (aA.drop (i+1)) (i+1)with D|⟨j,D,L,G,M⟩
  ·exact .inl D
  ·have I:i+1+j<aA.length:=by rw[da]at L;omega
   refine .inr ⟨h.1,h.2,i+1+j,D,by omega,I,?_,?_⟩
   ·rw[Rf I];rw[List.getElem_drop]at G;exact G
   ·intro m N O;have:=M (m-(i+1)) (by omega) (by omega);rw[List.getElem_drop]at this;rw[Rf (by omega)];have e:i+1+(m-(i+1))=m:=by omega
    simp only[e]at this;exact this
 ·exact .inl rfl
theorem Qvi {M:Fn} {aA:List Itm} (S:∀it,M (Af it)=some [B (decide (smI it))]) (U:aA.length<=1000000):∀(k i:Nat),i+k=aA.length->
  (Al (OX M) [.vC Ae (aA.map Af),I i]=some (1,[I (Fe (aA.drop i) i)]))\/(Al (OX M) [.vC Ae (aA.map Af),I i]=some (2,[])/\Fe (aA.drop i) i= -1)
 |0,i,V=>by
  right;refine⟨AJ ?_ (by simp),by rw[dg (by omega)];rfl⟩;rw[Q48];simp only[go_sem,ac];rw[ab]
 |k+1,i,V=>by
  have G:i<aA.length:=by omega
  have X:=CU G;rw[RY G];have T:=S (vE aA i);have D:OX M [.vC Ae (aA.map Af),I i]=if(vE aA i).aP=10 then some (0,[.vC Ae (aA.map Af),I (i+1:Nat)])else if smI (vE aA i)then some (1,[I i])else some (1,[I (-1)]):=by
   rw[Q48];simp only[Af]at T;have O:(0:Int)<=(i:Int)/\(i:Int)<(aA.length:Int):=by omega
   simp only[go_sem,ac,ag,X,T,aa O];rw[aa,Ad];rfl
  unfold Fe;by_cases L:(vE aA i).aP=10
  ·rw[aa L]at D⊢;rw[AS D];exact Qvi S U k (i+1) (by omega)
  ·rw[ab L]at D⊢;left;by_cases N:smI (vE aA i)
   ·rw[aa N]at D⊢;exact AJ D (by simp)
   ·rw[ab N]at D⊢;exact AJ D (by simp)
theorem Zs8 (S:∀it,M (Af it)=some [B (decide (smI it))]) (U:z.length<=1000000) {i:Nat} (V:i<z.length):
  Qu2 M (Al (OX M)) [.vC Ae (z.map Af),I i]=some [I (Bg z i)]:=by
 have X:=CU V;have T:=S (vE z i);have D:=Qvi S U (z.length-(i+1)) (i+1) (by omega);rw[Ycv];simp only[Af]at T;have Y:O ((i:Int)+1)=((i+1:Nat):Int):=by rw[Ad];omega
 unfold Bg;have N:(0:Int)<=(i:Int)/\(i:Int)<(z.length:Int):=by omega
 simp only[go_sem,ac,ag,X,T,Y,aa N];by_cases G:smI (vE z i)
 ·rw[ab (by simp[G])];by_cases L:(vE z i).bH=0
  ·rw[aa L,ab (λh=>h.2 L)]
  ·rw[ab L,aa ⟨G,L⟩];rcases D with D|⟨D,hn⟩
   ·simp only[D,go_sem]
   ·simp only[D,go_sem,hn];simp
 ·rw[aa (by simp[G]),ab (λh=>G h.1)]
theorem Zbg (D:z.length<=1000000) {i:Nat} (G:i<z.length):F8 [.vC Ae (z.map Af),I i]=some [I (Bg z i)]:=Zs8 Q3l D G
theorem Zfb (it:Itm):FC (Af it)=some [B (decide (syI it))]:=by
 unfold FC;rw[Zra];by_cases D:it.aP=5
 ·rw[BP (by simp[D]),ak (show syI it from .inl D)]
 ·rw[B0 (by simp[D])];by_cases G:it.aP=6
  ·rw[ak (show syI it from .inr G)];simp[G]
  ·rw[am (show¬syI it from λh=>h.elim D G)];simp[G]
def Kr (it:Itm):Int:=if it.aP=10 then 5 else if it.aP=13 then 4 else 3
theorem Z80 (it:Itm):HY (Af it)=some [I (Kr it)]:=by
 unfold HY Kr;rw[Yad];simp only[go_sem];split
 ·rfl
 ·split<;>rfl
def EG:List Itm->Int
 |[]=>2
 |it::l=>if AB it then(if syI it then 1 else 2)else EG l
def E_ (aA:List Itm) (i:Nat):Int:=if(vE aA i).aP=4 then 6 else if(vE aA i).bH=0 then 1 else if syI (vE aA i)then 1 else EG (aA.drop (i+1))
theorem Q8p {N MS:Fn} {aA:List Itm} (T:∀k:Int,N [I k]=some [B (decide (1<=k/\k<=6))]) (U:∀it,MS (Af it)=some [B (decide (syI it))]) (X:aA.length<=1000000):∀(k i:Nat),i+k=aA.length->
  (Al (PI N MS) [.vC Ae (aA.map Af),I i]=some (1,[I (EG (aA.drop i))]))\/(Al (PI N MS) [.vC Ae (aA.map Af),I i]=some (2,[])/\EG (aA.drop i)=2)
 |0,i,Y=>by
  right;refine⟨AJ ?_ (by simp),by rw[dg (by omega)];rfl⟩;rw[Zf7];simp only[go_sem,ac];rw[ab]
 |k+1,i,Y=>by
  have G:i<aA.length:=by omega
  have hr:=CU G;rw[RY G];have V:=U (vE aA i);have hm:=T (vE aA i).aP;have D:PI N MS [.vC Ae (aA.map Af),I i]=if AB (vE aA i)then(if syI (vE aA i)then some (1,[I 1])else some (2,[]))else some (0,[.vC Ae (aA.map Af),I (i+1:Nat)]):=by
   rw[Zf7];simp only[Af]at V;have S:(0:Int)<=(i:Int)/\(i:Int)<(aA.length:Int):=by omega
   simp only[go_sem,ac,ag,hr,V,hm,aa S];rw[aa,Ad];by_cases O:AB (vE aA i)
   ·rw[aa (show 1<=(vE aA i).aP/\(vE aA i).aP<=6 from O),aa O]
   ·rw[ab (show¬(1<=(vE aA i).aP/\(vE aA i).aP<=6)from O),ab O];rfl
  unfold EG;by_cases L:AB (vE aA i)
  ·rw[aa L]at D⊢;by_cases M:syI (vE aA i)
   ·rw[aa M]at D⊢;exact .inl (AJ D (by simp))
   ·rw[ab M]at D⊢;exact .inr ⟨AJ D (by simp),rfl⟩
  ·rw[ab L]at D⊢;rw[AS D];exact Q8p T U X k (i+1) (by omega)
theorem Znp (V:∀k:Int,M [I k]=some [B (decide (1<=k/\k<=6))]) (S:∀it,Z (Af it)=some [B (decide (syI it))]) (X:z.length<=1000000) {i:Nat} (Y:i<z.length):
  Qev M Z (Al (PI M Z)) [.vC Ae (z.map Af),I i]=some [I (E_ z i)]:=by
 have hr:=CU Y;have T:=S (vE z i);have D:=Q8p V S X (z.length-(i+1)) (i+1) (by omega);rw[Z0g];simp only[Af]at T;have hw:O ((i:Int)+1)=((i+1:Nat):Int):=by rw[Ad];omega
 unfold E_;have N:(0:Int)<=(i:Int)/\(i:Int)<(z.length:Int):=by omega
 simp only[go_sem,ac,ag,hr,T,hw,aa N];by_cases G:(vE z i).aP=4
 ·rw[aa G,aa G]
 ·rw[ab G,ab G];by_cases L:(vE z i).bH=0
  ·rw[aa L,aa L]
  ·rw[ab L,ab L];by_cases U:syI (vE z i)
   ·simp only[aa U]
   ·simp only[ab U];rcases D with D|⟨D,hn⟩
    ·simp only[D,go_sem]
    ·simp only[D,go_sem,hn];simp
theorem Yam (D:z.length<=1000000) {i:Nat} (G:i<z.length):Iw [.vC Ae (z.map Af),I i]=some [I (E_ z i)]:=Znp RX Zfb D G
noncomputable def C8 (aA:List Itm) (i k:Nat):List Pt:=Fq (A2 (vE aA i)) (Aw (vE aA i).to) (A2 (vE aA k)) ((vE aA i).bH*16)
def drawn (it:Itm):Prop:=BK it/\0<=it.bH/\it.bH<=1000
theorem Yic (S:i<z.length) (T:A<z.length) (U:drawn (vE z i))
  (L:W (Af (vE z i))=some (ptR (A2 (vE z i)))) (N:W (Af (vE z A))=some (ptR (A2 (vE z A)))) (V:Z [I (vE z i).to.x,I (vE z i).to.y,I (vE z i).to.z]=some (ptR (Aw (vE z i).to)))
  (O:M (ptR (A2 (vE z i))++ptR (Aw (vE z i).to)++ptR (A2 (vE z A))++[I ((vE z i).bH*16)])=some [.vC kPt ((C8 z i A).map ptR)]):
  X0 M Z W [.vC Ae (z.map Af),I i,I A]=some [.vC kPt ((C8 z i A).map ptR)]:=by
 have X:=CU S;have Y:=CU T;obtain⟨-,b1,b2⟩:=U;rw[Zu6];simp only[Af]at L N;simp only[ptR,ay,az]at O;have G:(0:Int)<=(i:Int)/\(i:Int)<(z.length:Int):=by omega
 have D:(0:Int)<=(A:Int)/\(A:Int)<(z.length:Int):=by omega
 simp only[go_sem,ac,ag,X,Y,L,N,V,aa G,aa D];rw[Ad];simp only[O,go_sem]
theorem Z93 (L:i<z.length) (M:A<z.length) (D:drawn (vE z i)) (G:drawn (vE z A)):
  Qk [.vC Ae (z.map Af),I i,I A]=some [.vC kPt ((C8 z i A).map ptR)]:=
 Yic L M D (Qsq D.1.2.1 D.1.2.2.1) (Qsq G.1.2.1 G.1.2.2.1) (Qga (AI D.1.2.2.1 (by decide)))
  (Zk0 (Jb D.1.2.1 D.1.2.2.1) (DD D.1.2.2.1) (Jb G.1.2.1 G.1.2.2.1) (by have:=D.2;omega))
theorem Ij {aA:List Itm} {i k:Nat} (D:drawn (vE aA i)) (G:drawn (vE aA k)):(∀p∈C8 aA i k,bd B24 p)/\1<=(C8 aA i k).length/\(C8 aA i k).length<=65:=
 Q5g (Jb D.1.2.1 D.1.2.2.1) (DD D.1.2.2.1) (Jb G.1.2.1 G.1.2.2.1)
noncomputable def HN (aA:List Itm) (i:Nat) (frm:Int):List Pt:=if 0<=frm then(C8 aA frm.toNat i).drop ((C8 aA frm.toNat i).length/2)else(Bt (vE aA i)).take 1
noncomputable def JI (aA:List Itm) (i:Nat):List Pt:=if 0<=Bg aA i then(C8 aA i (Bg aA i).toNat).take ((C8 aA i (Bg aA i).toNat).length/2+1)else(Bt (vE aA i)).drop 1
noncomputable def Bp (aA:List Itm) (i:Nat) (frm:Int):List Pt:=if smI (vE aA i)then HN aA i frm++[A2 (vE aA i)]++JI aA i else Bt (vE aA i)
def Ju (aA:List Itm) (i:Nat) (frm:Int):Prop:=frm= -1\/∃f:Nat,frm=f/\f<aA.length/\drawn (vE aA f)
theorem Z3a (I:drawn (vE z i)) (hf:Ju z i u):(∀p∈HN z i u,bd 67108864 p)/\(HN z i u).length<=65:=by
 unfold HN;rcases hf with rfl|⟨f,rfl,L,D⟩
 ·rw[ab];exact⟨λp G=>Qgl I.1 p (dv G),by rw[f7];omega⟩
 ·rw[aa];obtain⟨M,N,O⟩:=Ij (aA:=z) (i:=(f:Int).toNat) (k:=i) (by simpa using D) I;exact⟨λp G=>AI (M p (dw G)) (by decide),by rw[da];omega⟩
theorem P4 (D:∀k<z.length,AB (vE z k)->drawn (vE z k)) (M:0<=Bg z i):∃k:Nat,Bg z i=k/\k<z.length/\drawn (vE z k):=by
 rcases Qa7 z i with h|⟨-,-,k,L,-,G,I,-⟩
 ·omega
 ·exact⟨k,L,G,D k G ⟨by have:=I.1;omega,by have:=I.1;omega⟩⟩
theorem Z1q (L:drawn (vE z i)) (M:(vE z i).aP≠3) (D:∀k<z.length,AB (vE z k)->drawn (vE z k)):(∀p∈JI z i,bd 67108864 p)/\(JI z i).length<=66:=by
 unfold JI;by_cases h:0<=Bg z i
 ·rw[aa h];obtain⟨k,N,O,G⟩:=P4 D h;obtain⟨S,M,T⟩:=Ij (aA:=z) (i:=i) (k:=(Bg z i).toNat) L (by rw[N];simpa using G);exact⟨λp I=>AI (S p (dv I)) (by decide),by rw[f7];omega⟩
 ·rw[ab h];refine⟨λp I=>Qgl L.1 p (dw I),?_⟩;unfold Bt;rw[ab M];simp
theorem SF (G:drawn (vE z i)) (hf:Ju z i u) (I:∀k<z.length,AB (vE z k)->drawn (vE z k)):
  (∀p∈Bp z i u,bd 67108864 p)/\(Bp z i u).length<=65537:=by
 unfold Bp;by_cases L:smI (vE z i)
 ·rw[aa L];obtain⟨M,O⟩:=Z3a G hf;obtain⟨N,S⟩:=Z1q G (by have:=L.1;omega) I;refine⟨λp D=> ?_,by rw[ap,ap];simp;omega⟩;rcases bt.1 D with D|D
  ·rcases bt.1 D with D|D
   ·exact M p D
   ·simp at D;subst D;exact AI (Jb G.1.2.1 G.1.2.2.1) (by decide)
  ·exact N p D
 ·rw[ab L];exact⟨Qgl G.1,(Qct _).2⟩
theorem UI (l:List Pt):List.drop (Int.toNat 1) (l.map ptR)=(l.drop 1).map ptR:=by rw[show Int.toNat 1=1 from rfl,j8]
theorem Lm (l:List Pt):List.take (Int.toNat 1) (l.map ptR)=(l.take 1).map ptR:=by rw[show Int.toNat 1=1 from rfl,j7]
theorem ZC (n:Nat) (h:n<=1000000):O ((n:Int).tdiv 2)=((n/2:Nat):Int):=by
 rw[cz (by omega),Ad];omega
theorem Zyt (hi:i<z.length) (S:drawn (vE z i)) (hf:Ju z i u) (N:∀k<z.length,AB (vE z k)->drawn (vE z k))
  (hK:T (Af (vE z i))=some [.vC kPt ((Bt (vE z i)).map ptR),B true]) (hM:V (Af (vE z i))=some [B (decide (smI (vE z i)))])
  (hJ:∀{i k:Nat},i<z.length->k<z.length->drawn (vE z i)->drawn (vE z k)->W [.vC Ae (z.map Af),I i,I k]=some [.vC kPt ((C8 z i k).map ptR)])
  (hS:Z [.vC Ae (z.map Af),I i]=some [I (Bg z i)]) (hC:M (Af (vE z i))=some (ptR (A2 (vE z i)))):
  Qc3 M Z W V T [.vC Ae (z.map Af),I i,I u]=some [.vC kPt ((Bp z i u).map ptR)]:=by
 have r1:=CU hi;obtain⟨a6,a7⟩:=Qct (vE z i);rw[Zmm];simp only[Af]at hK hM hC;have a2:(0:Int)<=(i:Int)/\(i:Int)<(z.length:Int):=by omega
 simp only[go_sem,ac,ag,r1,hK,hM,hC,hS,az,aa a2];unfold Bp;by_cases U:smI (vE z i)
 case neg=>rw[aa (by simp[U]),ab U]
 rw[ab (by simp[U]),aa U];have Y:(0:Nat)<=1/\(1:Int)<=((Bt (vE z i)).length:Int):=by omega
 rw[aa Y,aa Y];have a3:(vE z i).aP≠3:=by have:=U.1;omega
 have a8:(Bt (vE z i)).length=2:=by unfold Bt;rw[ab a3];rfl
 have G:∀(X:List Pt),X.length<=100->∀{c:Option (List AC)},(Bg z i<0->c=some [.vC kPt ((X++[A2 (vE z i)]++(Bt (vE z i)).drop 1).map ptR)])->
   ((h:0<=Bg z i)->c=some [.vC kPt ((X++[A2 (vE z i)]++(C8 z i (Bg z i).toNat).take ((C8 z i (Bg z i).toNat).length/2+1)).map ptR)])->c=some [.vC kPt ((X++[A2 (vE z i)]++JI z i).map ptR)]:=by
  intro X _ c h1 h2;unfold JI;by_cases h:0<=Bg z i
  ·rw[aa h];exact h2 h
  ·rw[ab h];exact h1 (by omega)
 rcases hf with rfl|⟨f,rfl,a4,a0⟩
 ·rw[ab (show¬(-1:Int)>=0 by omega)];unfold HN;rw[ab (show¬(0:Int)<= -1 by omega)];refine G _ (by rw[f7];omega) (λa1=> ?_) (λD=> ?_)
  ·rw[ab,aa (by simp[Lm];omega),aa (by simp;omega),aa (by simp;omega)];simp only[Lm,UI,bn,be,db]
  ·obtain⟨k,hk,O,L⟩:=P4 N D;obtain⟨j1,j2,j3⟩:=Ij (aA:=z) (i:=i) (k:=k) S L;have hj:=hJ hi O S L;rw[hk]at D⊢;rw[aa];simp only[hj,go_sem,ac,ag];rw[ZC _ (by omega),Ad];rw[aa,aa (by simp;omega),aa (by simp;omega),aa (by simp;omega)];have e:((((C8 z i k).length/2:Nat):Int)+1).toNat=(C8 z i k).length/2+1:=by omega
   simp only[Lm,e,bn,be,db,j7]
 ·have a5:=hJ a4 hi a0 S;obtain⟨f1,f2,f3⟩:=Ij (aA:=z) (i:=f) (k:=i) a0 S;rw[aa];simp only[a5,go_sem,ac,ag];unfold HN;rw[aa (show(0:Int)<=(f:Int) by omega),ag,ZC _ (by omega),aa (show(0:Int)<=(((C8 z f i).length/2:Nat):Int)/\(((C8 z f i).length/2:Nat):Int)<=((C8 z f i).length:Int) by omega),ag];refine G _ (by rw[da];omega) (λa1=> ?_) (λD=> ?_)
  ·rw[ab,aa (by simp;omega),aa (by simp;omega),aa (by simp;omega)];simp only[UI,bn,be,db,j8]
  ·obtain⟨k,hk,O,L⟩:=P4 N D;obtain⟨j1,j2,j3⟩:=Ij (aA:=z) (i:=i) (k:=k) S L;have hj:=hJ hi O S L;rw[hk]at D⊢;rw[aa];simp only[hj,go_sem,ac,ag];rw[ZC _ (by omega),Ad];rw[aa,aa (by simp;omega),aa (by simp;omega),aa (by simp;omega)];have e:((((C8 z i k).length/2:Nat):Int)+1).toNat=(C8 z i k).length/2+1:=by omega
   simp only[e,bn,be,db,j7,j8]
theorem Yj4 (M:z.length<=1000000) {i:Nat} {frm:Int} (L:i<z.length) (G:drawn (vE z i)) (hf:Ju z i frm) (D:∀k<z.length,AB (vE z k)->drawn (vE z k)):
  IB [.vC Ae (z.map Af),I i,I frm]=some [.vC kPt ((Bp z i frm).map ptR)]:=
 Zyt L G hf D (Zoh G.1) (Q3l _) (λN O S T=>Z93 N O S T) (Zbg M L) (Qsq G.1.2.1 G.1.2.2.1)
end Go.Bm
namespace Go.Bm
open Classical
def Bq (it:Itm):Prop:=it.aP<1\/it.aP>14\/(AB it/\(¬BK it\/(it.aP≠1/\(it.aZ<1\/it.aZ>60000000))\/it.bH<0\/it.bH>1000))\/(¬AB it/\it.aP=8/\(it.n<3\/it.n>5\/it.aS<0\/it.aS>30000))
theorem Zv8 {it:Itm} (hM:Z [I it.aP]=some [B (decide (1<=it.aP/\it.aP<=6))]) (hV:∃v,M (Af it)=some [B v]/\(v=true↔BK it)):
  ∃v,Qi3 M Z (Af it)=some [B v]/\(v=true↔Bq it):=by
 obtain⟨v,hv,G⟩:=hV;rw[Zz9];simp only[go_sem,hM,hv];unfold Bq AB;by_cases N:it.aP<1
 ·rw[aa N];exact⟨_,rfl,by simp[N]⟩
 rw[ab N];by_cases S:it.aP>14
 ·rw[aa S];exact⟨_,rfl,by simp;omega⟩
 rw[ab S];by_cases O:1<=it.aP/\it.aP<=6
 ·rw[aa O];by_cases D:BK it
  ·rw[ab (by simp[G.2 D])];have a0:it.aP≠8:=by omega
   by_cases c5:it.aP=1
   ·rw[ab];by_cases L:it.bH<0
    ·rw[aa L];exact⟨_,rfl,gh rfl (by omega)⟩
    ·rw[ab L];refine⟨_,rfl,?_⟩;rw[bz];constructor
     ·intro h;omega
     ·rintro(h|h|⟨-,h|h|h|h⟩|h)
      ·omega
      ·omega
      ·exact absurd D h
      ·omega
      ·omega
      ·exact h
      ·omega
   ·rw[aa];by_cases T:it.aZ<1
    ·rw[aa T];exact⟨_,rfl,gh rfl (by omega)⟩
    rw[ab T];by_cases U:it.aZ>60000000
    ·rw[aa U];exact⟨_,rfl,gh rfl (by omega)⟩
    rw[ab U];by_cases L:it.bH<0
    ·rw[aa L];exact⟨_,rfl,gh rfl (by omega)⟩
    ·rw[ab L];refine⟨_,rfl,?_⟩;rw[bz];constructor
     ·intro h;omega
     ·rintro(h|h|⟨-,h|h|h|h⟩|h)
      ·omega
      ·omega
      ·exact absurd D h
      ·omega
      ·omega
      ·exact h
      ·omega
  ·rw[aa (λh=>D (G.1 h))];exact⟨_,rfl,gh rfl (.inr (.inr (.inl ⟨O, .inl D⟩)))⟩
 ·rw[ab O];by_cases D:it.aP=8
  ·rw[aa D];by_cases V:it.n<3
   ·rw[aa V];exact⟨_,rfl,gh rfl (by omega)⟩
   rw[ab V];by_cases X:it.n>5
   ·rw[aa X];exact⟨_,rfl,gh rfl (by omega)⟩
   rw[ab X];by_cases Y:it.aS<0
   ·rw[aa Y];exact⟨_,rfl,gh rfl (by omega)⟩
   rw[ab Y];refine⟨_,rfl,?_⟩;rw[bz];omega
  ·rw[ab D];exact⟨_,rfl,dq (by simp) (by omega)⟩
theorem Zv4 (it:Itm):∃v,LV (Af it)=some [B v]/\(v=true↔Bq it):=Zv8 (RX _) (Yy it)
theorem Yel (it:Itm):LV (Af it)=some [B (decide (Bq it))]:=by
 obtain⟨v,G,D⟩:=Zv4 it;rw[G];congr 2;by_cases c:Bq it
 ·rw[ak c,D.2 c]
 ·rw[am c];cases v
  ·rfl
  ·exact absurd (D.1 rfl) c
noncomputable def EC (aA:List Itm):Nat->Nat->Int->Int
 |0,_,_=>0
 |k+1,i,last=>if Bq (vE aA i)then 1 else if AB (vE aA i)then(if 0<=last/\(vE aA last.toNat).to≠(vE aA i).fr then 13 else EC aA k (i+1) i)else EC aA k (i+1) last
theorem Qkh {S T:Fn} {aA:List Itm} (U:∀k:Int,S [I k]=some [B (decide (1<=k/\k<=6))]) (V:∀it,T (Af it)=some [B (decide (Bq it))]) (hl:aA.length<=1000000):
  ∀(k i:Nat) (last:Int),i+k=aA.length->(last= -1\/(0<=last/\last<i))->
  (Al (Ky S T) [.vC Ae (aA.map Af),I last, .vC Ae (aA.map Af),I aA.length,I i]=some (1,[I (EC aA k i last)])/\EC aA k i last≠0)\/
  (Al (Ky S T) [.vC Ae (aA.map Af),I last, .vC Ae (aA.map Af),I aA.length,I i]=some (2,[])/\EC aA k i last=0)
 |0,i,last,hi,_=>by
  right;refine⟨AJ ?_ (by simp),rfl⟩;rw[Qxq];simp only[go_sem];rw[ab]
 |k+1,i,last,hi,X=>by
  have Y:i<aA.length:=by omega
  have hr:=CU Y;have hw:=V (vE aA i);have hm:=U (vE aA i).aP;have a0:(0:Int)<=(i:Int)/\(i:Int)<(aA.length:Int):=by omega
  have D:Ky S T [.vC Ae (aA.map Af),I last, .vC Ae (aA.map Af),I aA.length,I i]=if Bq (vE aA i)then some (1,[I 1])else if AB (vE aA i)then(if 0<=last/\(vE aA last.toNat).to≠(vE aA i).fr then some (1,[I 13])else some (0,[.vC Ae (aA.map Af),I i, .vC Ae (aA.map Af),I aA.length,I (i+1:Nat)]))else some (0,[.vC Ae (aA.map Af),I last, .vC Ae (aA.map Af),I aA.length,I (i+1:Nat)]):=by
   rw[Qxq];simp only[Af]at hw;simp only[go_sem,ac,ag,hr,hw,hm,aa a0];rw[aa,Ad];by_cases G:Bq (vE aA i)
   ·rw[aa G,aa G]
   rw[ab G,ab G];by_cases M:AB (vE aA i)
   ·rw[ab (λh=>h M),aa M];rcases X with rfl|⟨h1,h2⟩
    ·rw[ab (show¬(-1:Int)>=0 by omega),ab (λh=>by omega)];rfl
    ·obtain⟨L,rfl⟩:=bj h1;have hL:L<aA.length:=by omega
     have O:(0:Int)<=(L:Int)/\(L:Int)<(aA.length:Int):=by omega
     have a1:=CU hL;simp only[ag,a1,go_sem,aa O];rw[aa];by_cases N:(vE aA L).to=(vE aA i).fr
     ·have c4:=B4.1 N;rw[ab (λh=>h ⟨c4.1,c4.2.1,c4.2.2,trivial⟩),ab (λh=>h.2 N)];rfl
     ·rw[aa (λh=>N (B4.2 ⟨h.1,h.2.1,h.2.2.1⟩)),aa ⟨h1,N⟩]
   ·rw[aa (show¬(1<=(vE aA i).aP/\(vE aA i).aP<=6)from M),ab M];rfl
  unfold EC;by_cases G:Bq (vE aA i)
  ·rw[aa G]at D⊢;exact .inl ⟨AJ D (by simp),by simp⟩
  ·rw[ab G]at D⊢;by_cases M:AB (vE aA i)
   ·rw[aa M]at D⊢;by_cases N:0<=last/\(vE aA last.toNat).to≠(vE aA i).fr
    ·rw[aa N]at D⊢;exact .inl ⟨AJ D (by simp),by simp⟩
    ·rw[ab N]at D⊢;rw[AS D];exact Qkh U V hl k (i+1) i (by omega) (.inr (by omega))
   ·rw[ab M]at D⊢;rw[AS D];exact Qkh U V hl k (i+1) last (by omega) (by omega)
noncomputable def BZ (aA:List Itm):Int:=if aA.length>20000 then 10 else EC aA aA.length 0 (-1)
theorem Yca {aA:List Itm} (G:∀k:Int,M [I k]=some [B (decide (1<=k/\k<=6))]) (L:∀it,Z (Af it)=some [B (decide (Bq it))]):
  Z7 M Z (Al (Ky M Z)) [.vC Ae (aA.map Af)]=some [I (BZ aA)]:=by
 rw[Zs2];simp only[go_sem,ac];unfold BZ;by_cases D:aA.length>20000
 ·rw[aa,aa D]
 ·rw[ab,ab D];rcases Qkh G L (aA:=aA) (by omega) aA.length 0 (-1) (by omega) (.inl rfl)with⟨h,-⟩|⟨h,N⟩
  ·have h':Al (Ky M Z) [.vC Ae (aA.map Af),I (-1), .vC Ae (aA.map Af),I aA.length,I 0]=some (1,[I (EC aA aA.length 0 (-1))]):=h;simp only[h',go_sem]
  ·have h':Al (Ky M Z) [.vC Ae (aA.map Af),I (-1), .vC Ae (aA.map Af),I aA.length,I 0]=some (2,[]):=h;simp only[h',go_sem,N];simp
theorem Z9d (aA:List Itm):H6 [.vC Ae (aA.map Af)]=some [I (BZ aA)]:=Yca RX Yel
theorem XV {aA:List Itm}:∀(k i:Nat) (last:Int),i+k=aA.length->EC aA k i last=0->∀j,i<=j->j<aA.length-> ¬Bq (vE aA j)
 |0,i,last,I,_,j,L,D=>by omega
 |k+1,i,last,I,h,j,L,D=>by
  unfold EC at h;split at h
  ·omega
  ·rename_i c;by_cases G:j=i
   ·subst G;exact c
   ·split at h
    ·split at h
     ·omega
     ·exact XV k (i+1) _ (by omega) h j (by omega) D
    ·exact XV k (i+1) _ (by omega) h j (by omega) D
theorem Na (h:BZ z=0):z.length<=20000/\∀j,j<z.length-> ¬Bq (vE z j):=by
 unfold BZ at h;split at h
 ·omega
 ·exact⟨by omega,λj D=>XV _ 0 _ (by omega) h j (by omega) D⟩
theorem Jf {it:Itm} (h: ¬Bq it) (D:AB it):drawn it/\(it.aP=1\/1<=it.aZ/\it.aZ<=60000000):=by
 unfold Bq at h;have G:BK it:=by
  by_cases c:BK it
  ·exact c
  ·exact absurd (.inr (.inr (.inl ⟨D, .inl c⟩))) h
 have I: ¬((it.aP≠1/\(it.aZ<1\/it.aZ>60000000))\/it.bH<0\/it.bH>1000):=λc=>h (.inr (.inr (.inl ⟨D, .inr c⟩)));exact⟨⟨G,by omega,by omega⟩,by omega⟩
theorem Z5m {it:Itm} (h: ¬Bq it) (D:it.aP=8):0<=it.aS/\it.aS<=30000:=by
 unfold Bq at h;have G: ¬AB it:=λc=>by have:=c.2;omega
 have I: ¬(it.n<3\/it.n>5\/it.aS<0\/it.aS>30000):=λc=>h (.inr (.inr (.inr ⟨G,D,c⟩)));omega
noncomputable def AP (aU aZ aX:Int) (s:List Sgm×Int×Pt) (q:Pt):List Sgm×Int×Pt:=if q=s.2.2 then s else(s.1++[⟨q,Ax s.2.2 q,aU,aZ,aX⟩],s.2.1+Ax s.2.2 q,q)
theorem Qo8 {MK MSo ML MP MSy MR MF MO MM MC:Fn} {aA:List Itm} {pts:List Pt} (V:∀{a b:Pt},bd 67108864 a->bd 67108864 b->ML [I a.x,I a.y,I a.z,I b.x,I b.y,I b.z]=some [I (Ax a b)]/\0<=Ax a b/\Ax a b<=268435456)
  (D:∀p∈pts,bd 67108864 p) (S:pts.length<=1000000) {aD:List Mrk} {aS i i2 n aU aZ aX:Int} {bI:Bool} {st:Pt}:
  ∀(k j:Nat) (s:List Sgm×Int×Pt) (g:Pt) (G:Int),j+k=pts.length->s.1.length+k<=1048576->0<=s.2.1->s.2.1+k*268435456<=4000000000000000000->bd 67108864 s.2.2->
  Al (RF MK MSo ML MP MSy MR MF MO MM MC) [.vC Ag (s.1.map Az), .vC AA (aD.map Aq), .vC Ae (aA.map Af),I s.2.1,I aS,B bI,I i, .vC Ae (aA.map Af),I n,I i2, .vC kPt (pts.map ptR),I pts.length,I j,I 0,I 0,I 0, .vC Ag [], .vC AA [],I st.x,I st.y,I st.z,I s.2.2.x,I s.2.2.y,I s.2.2.z,I g.x,I g.y,I g.z,I G,I aU,I aZ,I aX]=
   some (2,[.vC Ag (((pts.drop j).foldl (AP aU aZ aX) s).1.map Az), .vC AA (aD.map Aq), .vC Ae (aA.map Af),I ((pts.drop j).foldl (AP aU aZ aX) s).2.1,I aS,B bI,I i, .vC Ae (aA.map Af),I n,I i2,I 0,I 0,I 0, .vC Ag [], .vC AA [],I st.x,I st.y,I st.z,I ((pts.drop j).foldl (AP aU aZ aX) s).2.2.x,I ((pts.drop j).foldl (AP aU aZ aX) s).2.2.y,I ((pts.drop j).foldl (AP aU aZ aX) s).2.2.z])
 |0,j,s,g,G,hj,_,_,_,_=>by
  refine AJ ?_ (by simp);rw[XL];simp only[go_sem];rw[ab,dg (by omega)];rfl
 |k+1,j,s,g,G,hj,hs,T,X,L=>by
  have M:j<pts.length:=by omega
  have hr:nth [] (pts.map ptR) j=ptR pts[j]:=Em _ _ _ _ M;have hq:=D _ (bf M);have U:(0:Int)<=(j:Int)/\(j:Int)<(pts.length:Int):=by omega
  rw[KQ pts j M,ez];generalize pts[j]=q at*;obtain⟨aF,len,at_⟩:=s;simp only at hs T X L;obtain⟨e1,e2,e3⟩:=V L hq;have hw:O ((j:Int)+1)=((j+1:Nat):Int):=by rw[Ad];omega
  by_cases c:q=at_
  ·have N:RF MK MSo ML MP MSy MR MF MO MM MC [.vC Ag (aF.map Az), .vC AA (aD.map Aq), .vC Ae (aA.map Af),I len,I aS,B bI,I i, .vC Ae (aA.map Af),I n,I i2, .vC kPt (pts.map ptR),I pts.length,I j,I 0,I 0,I 0, .vC Ag [], .vC AA [],I st.x,I st.y,I st.z,I at_.x,I at_.y,I at_.z,I g.x,I g.y,I g.z,I G,I aU,I aZ,I aX]=
     some (0,[.vC Ag (aF.map Az), .vC AA (aD.map Aq), .vC Ae (aA.map Af),I len,I aS,B bI,I i, .vC Ae (aA.map Af),I n,I i2, .vC kPt (pts.map ptR),I pts.length,I (j+1:Nat),I 0,I 0,I 0, .vC Ag [], .vC AA [],I st.x,I st.y,I st.z,I at_.x,I at_.y,I at_.z,I g.x,I g.y,I g.z,I G,I aU,I aZ,I aX]):=by
    have Y:=B4.1 c;rw[XL];simp only[go_sem,ac,ag,hr,aa U,hw];rw[aa,aa ⟨Y.1,Y.2.1,Y.2.2,trivial⟩]
   rw[AS N];have:=Qo8 (MK:=MK) (MSo:=MSo) (ML:=ML) (MP:=MP) (MSy:=MSy) (MR:=MR) (MF:=MF) (MO:=MO) (MM:=MM) (MC:=MC) (aA:=aA) V D S (aD:=aD) (aS:=aS) (i:=i) (i2:=i2) (n:=n) (aU:=aU) (aZ:=aZ) (aX:=aX) (bI:=bI) (st:=st) k (j+1) (aF,len,at_) g G (by omega) (by simp only;omega) T (by simp only;omega) L;rw[this];have e:AP aU aZ aX (aF,len,at_) q=(aF,len,at_):=aa c;rw[e]
  ·have N:RF MK MSo ML MP MSy MR MF MO MM MC [.vC Ag (aF.map Az), .vC AA (aD.map Aq), .vC Ae (aA.map Af),I len,I aS,B bI,I i, .vC Ae (aA.map Af),I n,I i2, .vC kPt (pts.map ptR),I pts.length,I j,I 0,I 0,I 0, .vC Ag [], .vC AA [],I st.x,I st.y,I st.z,I at_.x,I at_.y,I at_.z,I g.x,I g.y,I g.z,I G,I aU,I aZ,I aX]=
     some (0,[.vC Ag ((aF++[(⟨q,Ax at_ q,aU,aZ,aX⟩:Sgm)]).map Az), .vC AA (aD.map Aq), .vC Ae (aA.map Af),I (len+Ax at_ q),I aS,B bI,I i, .vC Ae (aA.map Af),I n,I i2, .vC kPt (pts.map ptR),I pts.length,I (j+1:Nat),I 0,I 0,I 0, .vC Ag [], .vC AA [],I st.x,I st.y,I st.z,I q.x,I q.y,I q.z,I q.x,I q.y,I q.z,I (Ax at_ q),I aU,I aZ,I aX]):=by
    have a0:(aF.map Az++[[AC.int IntKind.i64 q.x,AC.int IntKind.i64 q.y,AC.int IntKind.i64 q.z,AC.int IntKind.i64 (Ax at_ q),AC.int IntKind.i64 aU,AC.int IntKind.i64 aZ,AC.int IntKind.i64 aX]])=(aF++[(⟨q,Ax at_ q,aU,aZ,aX⟩:Sgm)]).map Az:=by rw[bn];rfl
    rw[XL];simp only[go_sem,ac,ag,hr,aa U,hw,e1];rw[aa,ab (λh=>c (B4.2 ⟨h.1,h.2.1,h.2.2.1⟩)),a0,aa (by simp;omega),ab (by simp;omega),Ad]
   rw[AS N];have:=Qo8 (MK:=MK) (MSo:=MSo) (ML:=ML) (MP:=MP) (MSy:=MSy) (MR:=MR) (MF:=MF) (MO:=MO) (MM:=MM) (MC:=MC) (aA:=aA) V D S (aD:=aD) (aS:=aS) (i:=i) (i2:=i2) (n:=n) (aU:=aU) (aZ:=aZ) (aX:=aX) (bI:=bI) (st:=st) k (j+1) (aF++[⟨q,Ax at_ q,aU,aZ,aX⟩],len+Ax at_ q,q) q (Ax at_ q) (by omega) (by simp;omega) (by simp only;omega) (by simp only;omega) hq;have e:AP aU aZ aX (aF,len,at_) q=(aF++[⟨q,Ax at_ q,aU,aZ,aX⟩],len+Ax at_ q,q):=ab c;rw[e];exact this
theorem T8 {aU aZ aX:Int}:∀(D:List Pt) (s:List Sgm×Int×Pt),(∀p∈D,bd 67108864 p)->bd 67108864 s.2.2->0<=s.2.1->
  (D.foldl (AP aU aZ aX) s).1.length<=s.1.length+D.length/\s.2.1<=(D.foldl (AP aU aZ aX) s).2.1/\(D.foldl (AP aU aZ aX) s).2.1<=s.2.1+D.length*268435456/\bd 67108864 (D.foldl (AP aU aZ aX) s).2.2
 |[],s,_,I,N=>⟨by simp,by simp,by simp,I⟩
 |q::D,s,L,I,N=>by
  rw[ez];have O:=L q (by simp);have S:=Gg I O;have G:AP aU aZ aX s q=s\/AP aU aZ aX s q=(s.1++[⟨q,Ax s.2.2 q,aU,aZ,aX⟩],s.2.1+Ax s.2.2 q,q):=by unfold AP;split<;>simp
  rcases G with G|G
  ·rw[G];obtain⟨a,b,c,d⟩:=T8 D s (λp M=>L p (by simp[M])) I N (aU:=aU) (aZ:=aZ) (aX:=aX);exact⟨by simp;omega,b,by simp;omega,d⟩
  ·rw[G];obtain⟨a,b,c,d⟩:=T8 D (s.1++[⟨q,Ax s.2.2 q,aU,aZ,aX⟩],s.2.1+Ax s.2.2 q,q) (λp M=>L p (by simp[M])) O (by simp only;omega) (aU:=aU) (aZ:=aZ) (aX:=aX);simp only[ap,ba,bv]at a b c;exact⟨by simp;omega,by omega,by simp;omega,d⟩
structure BSt where
 aF:List Sgm
 aD:List Mrk
 (len aS frm:Int)
 bI:Bool
 (aQ at_:Pt)
def Gu (it:Itm):Int:=if syI it then mn (it.aZ*16) 16777216 else 0
def OV (it:Itm) (s:Int):Int:=if it.aP=8/\(it.n=3\/it.n=4)then it.aS else s
noncomputable def Fm (aA:List Itm) (i:Nat) (s:BSt):List Sgm×Int×Pt:=
 (Bp aA i s.frm).foldl (AP i (Et (vE aA i) s.aS) (Gu (vE aA i))) (s.aF,s.len,if s.bI=true then s.at_ else Aw (vE aA i).fr)
noncomputable def DC (aA:List Itm) (i:Nat) (s:BSt):BSt:=
 if AB (vE aA i)then
  ⟨(Fm aA i s).1,s.aD++[⟨(Fm aA i s).2.1,E_ aA i,i⟩],(Fm aA i s).2.1,s.aS,if 0<=Bg aA i then i else-1,true,if s.bI=true then s.aQ else Aw (vE aA i).fr,(Fm aA i s).2.2⟩
 else⟨s.aF,s.aD++[⟨s.len,Kr (vE aA i),i⟩],s.len,OV (vE aA i) s.aS,s.frm,s.bI,s.aQ,s.at_⟩
noncomputable def As (aA:List Itm):Nat->BSt
 |0=>⟨[],[],0,0,-1,false,⟨0,0,0⟩,⟨0,0,0⟩⟩
 |i+1=>DC aA i (As aA i)
abbrev J_ (aA:List Itm) (i:Nat) (s:BSt):List AC:=
 [.vC Ag (s.aF.map Az), .vC AA (s.aD.map Aq), .vC Ae (aA.map Af),I s.len,I s.aS,I s.frm,B s.bI, .vC Ae (aA.map Af),I aA.length,I i,I 0,I 0,I 0, .vC Ag [], .vC AA [],I s.aQ.x,I s.aQ.y,I s.aQ.z,I s.at_.x,I s.at_.y,I s.at_.z]
structure BOK (aA : List Itm) (i : Nat) (s : BSt) : Prop where
 aF:s.aF.length<=i*65537
 aD:s.aD.length=i
 len:0<=s.len/\s.len<=i*65537*268435456
 aS:0<=s.aS/\s.aS<=30000
 frm:Ju aA i s.frm
 at_:s.bI=true->bd 67108864 s.at_
theorem Zhh {s:BSt} (L:i<z.length) (D:∀j<z.length,¬Bq (vE z j)) (h:BOK z i s):BOK z (i+1) (DC z i s):=by
 have G:∀k<z.length,AB (vE z k)->drawn (vE z k):=λk N I=>(Jf (D k N) I).1;unfold DC;by_cases I:AB (vE z i)
 ·rw[aa I];have M:=G i L I;obtain⟨O,X⟩:=SF M h.frm G;have S:bd 67108864 (if s.bI=true then s.at_ else Aw (vE z i).fr):=by
   by_cases hb:s.bI=true
   ·rw[aa hb];exact h.at_ hb
   ·rw[ab hb];exact AI (DD M.1.2.1) (by decide)
  obtain⟨a1,a2,a3,a4⟩:=T8 (aU:=i) (aZ:=Et (vE z i) s.aS) (aX:=Gu (vE z i)) (Bp z i s.frm) (s.aF,s.len,if s.bI=true then s.at_ else Aw (vE z i).fr) O S h.len.1;have Y:=h.aF;have T:=h.len;have e1:(i+1)*65537=i*65537+65537:=by rw[gn]
  refine⟨?_,?_,?_,h.aS,?_,λ_=>a4⟩
  ·simp only at a1;show(Fm z i s).1.length<=_;unfold Fm;omega
  ·show(s.aD++[_]).length=_;rw[ap,h.aD];rfl
  ·show 0<=(Fm z i s).2.1/\(Fm z i s).2.1<=_;unfold Fm;simp only at a2 a3;have e2:(((i+1:Nat):Int))*65537*268435456=(i:Int)*65537*268435456+65537*268435456:=by
    rw[ic,ju,jv,jv];rfl
   constructor
   ·omega
   ·rw[e2];omega
  ·show Ju z (i+1) (if 0<=Bg z i then(i:Int)else-1);split
   ·exact .inr ⟨i,rfl,L,M⟩
   ·exact .inl rfl
 ·rw[ab I];have T:=h.len;have U:=h.aF;have e1:(i+1)*65537=i*65537+65537:=by rw[gn]
  refine⟨by show s.aF.length<=_;rw[e1];exact bm U (Nat.le_add_right _ _),?_,?_,?_,h.frm,h.at_⟩
  ·show(s.aD++[_]).length=_;rw[ap,h.aD];rfl
  ·have e2:(((i+1:Nat):Int))*65537*268435456=(i:Int)*65537*268435456+65537*268435456:=by
    rw[ic,ju,jv,jv];rfl
   show 0<=s.len/\s.len<=_;rw[e2];omega
  ·show 0<=OV (vE z i) s.aS/\OV (vE z i) s.aS<=30000;unfold OV;split
   ·rename_i V;exact Z5m (D i L) V.1
   ·exact h.aS
theorem Yhk (aA:List Itm):BOK aA 0 ⟨[],[],0,0,-1,false,⟨0,0,0⟩,⟨0,0,0⟩⟩:=by
 refine⟨Nat.zero_le _,bv,⟨gk _,?_⟩,⟨gk _,?_⟩, .inl rfl,λh=>by cases h⟩
 ·show(0:Int)<=((0:Nat):Int)*65537*268435456;rw[show((0:Nat):Int)=0 from rfl,j4,j4];exact gk _
 ·show(0:Int)<=30000;omega
theorem LY {aA:List Itm} (D:∀j<aA.length,¬Bq (vE aA j)):∀i,i<=aA.length->BOK aA i (As aA i)
 |0,_=>by rw[As];exact Yhk aA
 |i+1,G=>by rw[As];exact Zhh (by omega) D (LY D i (by omega))
theorem Qv (aD:List Mrk) (a k i:Int):aD.map Aq++[[AC.int IntKind.i64 a,AC.int IntKind.i64 k,AC.int IntKind.i64 i]]=(aD++[(⟨a,k,i⟩:Mrk)]).map Aq:=by rw[bn];rfl
theorem Zrv {MK a1 ML MP a2 MR MF MO MM MC:Fn} {s:BSt} (hi:i<o.length) (hlen:o.length<=1000) (a8:s.aD.length=i)
  (hM:MM [I (vE o i).aP]=some [B (decide (AB (vE o i)))]) (hO:MO (Af (vE o i))=some [I (Kr (vE o i))])
  (hF:AB (vE o i)->MF [I (vE o i).fr.x,I (vE o i).fr.y,I (vE o i).fr.z]=some (ptR (Aw (vE o i).fr)))
  (Y:AB (vE o i)->MR (Af (vE o i)++[I s.aS])=some [I (Et (vE o i) s.aS)])
  (G:a2 (Af (vE o i))=some [B (decide (syI (vE o i)))])
  (S:syI (vE o i)->0<=(vE o i).aZ/\(vE o i).aZ<=60000000)
  (hP:AB (vE o i)->MP [.vC Ae (o.map Af),I i,I s.frm]=some [.vC kPt ((Bp o i s.frm).map ptR)])
  (X:a1 [.vC Ae (o.map Af),I i]=some [I (Bg o i)]) (hK:MK [.vC Ae (o.map Af),I i]=some [I (E_ o i)])
  (a6:s.bI=true->bd 67108864 s.at_) (a7:AB (vE o i)->bd 67108864 (Aw (vE o i).fr))
  (hN : AB (vE o i) -> ∀ (b : Bool) (st a : Pt) (aZ aX : Int), bd 67108864 a -> N [.vC Ag (s.aF.map Az), .vC AA (s.aD.map Aq), .vC Ae (o.map Af), I s.len, I s.aS, B b, I i, .vC Ae (o.map Af), I o.length, I i, .vC kPt ((Bp o i s.frm).map ptR), I (Bp o i s.frm).length, I 0, I 0, I 0, I 0, .vC Ag [], .vC AA [], I st.x, I st.y, I st.z, I a.x, I a.y, I a.z, I 0, I 0, I 0, I 0, I i, I aZ, I aX] =
   some (2,[.vC Ag (((Bp o i s.frm).foldl (AP i aZ aX) (s.aF,s.len,a)).1.map Az), .vC AA (s.aD.map Aq), .vC Ae (o.map Af),I ((Bp o i s.frm).foldl (AP i aZ aX) (s.aF,s.len,a)).2.1,I s.aS,B b,I i, .vC Ae (o.map Af),I o.length,I i,I 0,I 0,I 0, .vC Ag [], .vC AA [],I st.x,I st.y,I st.z,I ((Bp o i s.frm).foldl (AP i aZ aX) (s.aF,s.len,a)).2.2.x,I ((Bp o i s.frm).foldl (AP i aZ aX) (s.aF,s.len,a)).2.2.y,I ((Bp o i s.frm).foldl (AP i aZ aX) (s.aF,s.len,a)).2.2.z])):
  P8 MK a1 ML MP a2 MR MF MO MM MC N (J_ o i s)=some (0,J_ o (i+1) (DC o i s)):=by
 have hr:=CU hi;have a3:(0:Int)<=(i:Int)/\(i:Int)<(o.length:Int):=by omega
 have hw:O ((i:Int)+1)=((i+1:Nat):Int):=by rw[Ad];omega
 have hb:(s.aD.length+1)*24<=140737488355328:=by omega
 unfold J_;rw[Zhi];simp only[Af,ay,az]at hO Y G;by_cases V:AB (vE o i)
 ·have hF:=hF V;have Y:=Y V;have hP:=hP V;have hN:=hN V;have h8: ¬(vE o i).aP=8:=λh=>by have:=V.2;omega
  have hd:=ak V;rw[hd]at hM;unfold DC Fm;rw[aa V];simp only[go_sem,ac,ag,hr,aa a3,hw,hM];rw[aa,ab h8];have a4:∀f:Int,0<=f/\f<=60000000->O (f*16)=f*16:=λf hf=>Ad;by_cases a0:s.bI=true
  ·have T:=fun(aZ aX:Int)=>hN true s.aQ s.at_ aZ aX (a6 a0);rw[a0]at*;by_cases U:syI (vE o i)
   ·have L:=ak U;rw[L]at G;have M:Gu (vE o i)=mn ((vE o i).aZ*16) 16777216:=aa U;simp only[go_sem,Y,G,hP,a4 _ (S U),ac,T,X,hK,ap,ac,ba,bv,Qv,hw,aa hb,M];by_cases D:0<=Bg o i
    ·simp[D]
    ·simp[D]
   ·have L:=am U;rw[L]at G;have M:Gu (vE o i)=0:=ab U;simp only[go_sem,Y,G,hP,ac,T,X,hK,ap,ac,ba,bv,Qv,hw,aa hb,M];by_cases D:0<=Bg o i
    ·simp[D]
    ·simp[D]
  ·have a5:s.bI=false:=by simpa using a0
   have T:=fun(aZ aX:Int)=>hN true (Aw (vE o i).fr) (Aw (vE o i).fr) aZ aX (a7 V);rw[a5];by_cases U:syI (vE o i)
   ·have L:=ak U;rw[L]at G;have M:Gu (vE o i)=mn ((vE o i).aZ*16) 16777216:=aa U;simp only[go_sem,hF,Y,G,hP,a4 _ (S U),ac,T,X,hK,ap,ac,ba,bv,Qv,hw,aa hb,M];by_cases D:0<=Bg o i
    ·simp[D]
    ·simp[D]
   ·have L:=am U;rw[L]at G;have M:Gu (vE o i)=0:=ab U;simp only[go_sem,hF,Y,G,hP,ac,T,X,hK,ap,ac,ba,bv,Qv,hw,aa hb,M];by_cases D:0<=Bg o i
    ·simp[D]
    ·simp[D]
 ·have hd:=am V;rw[hd]at hM;unfold DC OV;rw[ab V];simp only[go_sem,ac,ag,hr,aa a3,hw,hM,hO,ap,ba,bv,Qv,aa hb];rw[aa];by_cases h8:(vE o i).aP=8
  ·by_cases h3:(vE o i).n=3
   ·simp[h8,h3]
   ·by_cases h4:(vE o i).n=4
    ·simp[h8,h4]
    ·simp[h8,h3,h4]
  ·simp[h8]
theorem Zor {it:Itm} (hf:it.aP=1\/1<=it.aZ/\it.aZ<=60000000) (G:0<=u/\u<=30000):GR (Af it++[I u])=some [I (Et it u)]:=by
 by_cases D:it.aP=1
 ·unfold GR Et;generalize F2=M;have h:=Zg0 (Dk:=M) it.aP it.block it.fr.x it.fr.y it.fr.z it.to.x it.to.y it.to.z it.aG it.ce.x it.ce.y it.ce.z it.dir it.bG it.aZ it.perRev it.side it.radius it.bH it.n it.aS it.on u;rw[aa D];refine dc h ?_;rw[BP (by simp[D])]
 ·exact Yf0 (by omega) G
noncomputable def AN (aA:List Itm):Pth:=⟨(As aA aA.length).aQ,(As aA aA.length).aF,(As aA aA.length).aD⟩
theorem Zun (hlen:z.length<=15) (D:∀j<z.length,¬Bq (vE z j)) {i:Nat} (M:i<z.length):
  P8 Iw F8 Gh IB FC GR Ek HY CX H6 P9 (J_ z i (As z i))=some (0,J_ z (i+1) (As z (i+1))):=by
 have hb:=LY D i (by omega);have L:∀k<z.length,AB (vE z k)->drawn (vE z k):=λk V G=>(Jf (D k V) G).1;have I:=Jf (D i M);rw[As];generalize As z i=s at*;refine Zrv M (by omega) hb.aD (RX _) (Z80 _) (λG=>Qga (AI (I G).1.1.2.1 (by decide))) (λG=>Zor (I G).2 hb.aS) (Zfb _) (λS=> ?_)
  (λG=>Yj4 (by omega) M (I G).1 hb.frm L) (Zbg (by omega) M) (Yam (by omega) M) hb.at_ (λG=>AI (DD (I G).1.1.2.1) (by decide)) λG b st a aZ aX X=> ?_
 ·have G:AB (vE z i):=by rcases S with h|h<;>exact⟨by omega,by omega⟩
  have N:=(I G).2;rcases S with h|h<;>omega
 ·obtain⟨Y,p2⟩:=SF (I G).1 hb.frm L;have T:=hb.aF;have O:=hb.len;have key:=Qo8 (MK:=Iw) (MSo:=F8) (ML:=Gh) (MP:=IB) (MSy:=FC) (MR:=GR) (MF:=Ek) (MO:=HY) (MM:=CX) (MC:=H6)
   (aA:=z) (pts:=Bp z i s.frm) (λU N=>⟨(NN U N).1,Gg U N⟩) Y (by omega) (aD:=s.aD) (aS:=s.aS) (i:=i) (i2:=i) (n:=z.length) (aU:=i) (aZ:=aZ) (aX:=aX) (bI:=b) (st:=st)
   (Bp z i s.frm).length 0 (s.aF,s.len,a) ⟨0,0,0⟩ 0 (by omega) (by simp only;omega) O.1 (by simp only;omega) X
  rw[fj]at key;exact key
theorem Zab {aA:List Itm} (hlen:aA.length<=15) (D:∀j<aA.length,¬Bq (vE aA j)):∀(k i:Nat),i+k=aA.length->
  Al (P8 Iw F8 Gh IB FC GR Ek HY CX H6 P9) (J_ aA i (As aA i))=
   some (2,[.vC Ag ((AN aA).aF.map Az), .vC AA ((AN aA).aD.map Aq),I 0,I 0,I 0, .vC Ag [], .vC AA [],I (AN aA).aQ.x,I (AN aA).aQ.y,I (AN aA).aQ.z])
 |0,i,G=>by
  obtain rfl:i=aA.length:=by omega
  refine AJ ?_ (by simp);unfold J_ AN;rw[Zhi,AQ (by omega)]
 |k+1,i,G=>by
  rw[AS (Zun hlen D (by omega))];exact Zab hlen D k (i+1) (by omega)
theorem Z50 {MK D ML O G S T U V N:Fn} {L M:Lp} (X:N [.vC Ae (z.map Af)]=some [I u])
  (Y:u=0->M (J_ z 0 (As z 0))=some (2,[.vC Ag ((AN z).aF.map Az), .vC AA ((AN z).aD.map Aq),I 0,I 0,I 0, .vC Ag [], .vC AA [],I (AN z).aQ.x,I (AN z).aQ.y,I (AN z).aQ.z])):
  Xe MK D ML O G S T U V N L M [.vC Ae (z.map Af)]=if u=0 then some (Bj (AN z)++[I 0])else some [I 0,I 0,I 0, .vC Ag [], .vC AA [],I u]:=by
 rw[Zns];simp only[go_sem,X,ac];by_cases he:u=0
 ·have h:=Y he;have h':M [.vC Ag [], .vC AA [], .vC Ae (z.map Af),I 0,I 0,I (-1),B false, .vC Ae (z.map Af),I z.length,I 0,I 0,I 0,I 0, .vC Ag [], .vC AA [],I 0,I 0,I 0,I 0,I 0,I 0]=_:=h;rw[ab (by simp[he]),aa he,h'];simp only[go_sem];rfl
 ·rw[aa he,ab he]
theorem Zrh (hlen:z.length<=15):QF [.vC Ae (z.map Af)]=if BZ z=0 then some (Bj (AN z)++[I 0])else some [I 0,I 0,I 0, .vC Ag [], .vC AA [],I (BZ z)]:=
 Z50 (Z9d z) λhe=>Zab hlen (Na he).2 z.length 0 (by omega)
def Fu:Pt->List Sgm->Pt
 |a,[]=>a
 |_,g::l=>Fu g.to l
abbrev B26:Nat:=67108864
def Pw:Pt->List Sgm->Prop
 |_,[]=>True
 |a,g::l=>g.len=Ax a g.to/\g.to≠a/\bd B26 g.to/\Pw g.to l
def AT:List Sgm->Int
 |[]=>0
 |g::l=>g.len+AT l
theorem Tf (g:Sgm):∀(a:Pt) (l:List Sgm),Fu a (l++[g])=g.to
 |_,[]=>rfl
 |_,h::l=>by simp only[ay,Fu];exact Tf g h.to l
theorem Q9u {g:Sgm}:∀{a:Pt} {l:List Sgm},Pw a l->g.len=Ax (Fu a l) g.to->g.to≠Fu a l->bd B26 g.to->Pw a (l++[g])
 |a,[],_,D,G,I=>⟨D,G,I,trivial⟩
 |a,k::l,h,D,G,I=>⟨h.1,h.2.1,h.2.2.1,Q9u h.2.2.2 D G I⟩
theorem Qig (g:Sgm):∀(l:List Sgm),AT (l++[g])=AT l+g.len
 |[]=>by simp[AT]
 |k::l=>by simp only[ay,AT];rw[Qig g l];omega
def Qcl (aQ:Pt) (s:List Sgm×Int×Pt):Prop:=Pw aQ s.1/\Fu aQ s.1=s.2.2/\AT s.1=s.2.1
theorem Qtb {aQ:Pt} {aU aZ aX:Int}:∀(D:List Pt) (s:List Sgm×Int×Pt),(∀p∈D,bd B26 p)->Qcl aQ s->Qcl aQ (D.foldl (AP aU aZ aX) s)
 |[],s,_,h=>h
 |q::D,s,I,h=>by
  rw[ez];refine Qtb D _ (λp G=>I p (by simp[G])) ?_;unfold AP;by_cases c:q=s.2.2
  ·rw[aa c];exact h
  ·rw[ab c];obtain⟨M,L,N⟩:=h;refine⟨Q9u M (by rw[L]) (by rw[L];exact c) (I q (by simp)),Tf _ _ _,?_⟩;simp only[Qig,N]
structure BInv (s : BSt) : Prop where
 bI:s.bI=true->bd B26 s.aQ/\Qcl s.aQ (s.aF,s.len,s.at_)
 empty:s.bI=false->s.aF=[]/\s.len=0/\s.aQ=⟨0,0,0⟩
theorem Yec {s:BSt} (O:i<z.length) (D:∀j<z.length,¬Bq (vE z j)) (L:BOK z i s) (h:BInv s):BInv (DC z i s):=by
 have G:∀k<z.length,AB (vE z k)->drawn (vE z k):=λk S I=>(Jf (D k S) I).1;unfold DC;by_cases I:AB (vE z i)
 ·rw[aa I];have M:=G i O I;obtain⟨N,-⟩:=SF M L.frm G;refine⟨λ_=> ?_,λhb=>(by cases hb)⟩;unfold Fm;by_cases hb:s.bI=true
  ·rw[aa hb,aa hb];obtain⟨g1,g2⟩:=h.bI hb;exact⟨g1,Qtb _ _ N g2⟩
  ·rw[ab hb,ab hb];obtain⟨g1,g2,T⟩:=h.empty (by simpa using hb);refine⟨AI (DD M.1.2.1) (by decide),Qtb _ _ N ?_⟩;rw[g1,g2];exact⟨trivial,rfl,rfl⟩
 ·rw[ab I];exact⟨h.bI,h.empty⟩
theorem Tw {aA:List Itm} (D:∀j<aA.length,¬Bq (vE aA j)):∀i,i<=aA.length->BInv (As aA i)
 |0,_=>by rw[As];exact⟨λh=>(by cases h),λ_=>⟨rfl,rfl,rfl⟩⟩
 |i+1,G=>by rw[As];exact Yec (by omega) D (LY D i (by omega)) (Tw D i (by omega))
structure GoodPath (p : Pth) : Prop where
 aQ:bd B26 p.aQ
 aF:Pw p.aQ p.aF
 count:p.aF.length<=983055
theorem Sm {aA:List Itm} (hlen:aA.length<=15) (I:BZ aA=0):GoodPath (AN aA):=by
 have D:=(Na I).2;have L:=LY D aA.length (cg _);have G:=Tw D aA.length (cg _);have N:=L.aF;unfold AN;by_cases hb:(As aA aA.length).bI=true
 ·obtain⟨g1,g2,-⟩:=G.bI hb;exact⟨g1,g2,by simp only;omega⟩
 ·obtain⟨g1,-,M⟩:=G.empty (by simpa using hb);refine⟨?_,?_,?_⟩
  ·simp only[M];unfold bd;simp
  ·simp only[g1];trivial
  ·simp only[g1];simp
theorem Zdf (D:bd B26 a) (hb:bd B26 b) (h:b≠a):1<=Ax a b/\Ax a b<=268435456:=by
 obtain⟨-,L,G,-⟩:=NN D hb;have M:sqD a b≠0:=λe=>h (Rh.1 e).symm;have N:=NP a b;have I:=Gg D hb;refine⟨?_,I.2⟩;by_cases c:Ax a b=0
 ·rw[c]at G;omega
 ·omega
theorem Qpe {l:List Sgm} (I:bd B26 a) (h:Pw a l):∀g∈l,1<=g.len/\g.len<=268435456/\bd B26 g.to:=by
 induction l generalizing a with
 |nil=>simp
 |cons k l M=>
  obtain⟨N,L,D,O⟩:=h;intro g G;rcases ax.1 G with rfl|G
  ·rw[N];exact⟨(Zdf I D L).1,(Zdf I D L).2,D⟩
  ·exact M D O g G
theorem VD {l:List Sgm} (h:∀g∈l,1<=g.len/\g.len<=268435456/\bd B26 g.to):(l.length:Int)<=AT l/\AT l<=l.length*268435456:=by
 induction l with
 |nil=>simp[AT]
 |cons k l D=>
  have:=D λg G=>h g (by simp[G]);have:=h k (by simp);simp only[AT,ba];omega
def Py (a:Pt) (g:Sgm) (d:Int):Pt:=⟨a.x+Bb ((g.to.x-a.x)*d) g.len,a.y+Bb ((g.to.y-a.y)*d) g.len,a.z+Bb ((g.to.z-a.z)*d) g.len⟩
def atL:Pt->List Sgm->Int->Pt
 |a,[],_=>a
 |a,g::l,s=>if s<g.len then Py a g s else atL g.to l (s-g.len)
def atP (p:Pth) (s:Int):Pt:=atL p.aQ p.aF (max s 0)
def Bi:List Sgm->Int->Nat×Int
 |[],s=>(0,s)
 |[g],s=>if s<g.len then(0,s)else(0,g.len)
 |g::h::l,s=>if s<g.len then(0,s)else((Bi (h::l) (s-g.len)).1+1,(Bi (h::l) (s-g.len)).2)
def E9 (a:Pt) (l:List Sgm) (i:Nat):Pt:=Fu a (l.take i)
def sg0:Sgm:=⟨⟨0,0,0⟩,0,0,0,0⟩
def sgA (l:List Sgm) (i:Nat):Sgm:=l.getD i sg0
theorem OS {l:List Sgm} (h:i<l.length):sgA l i=l[i]:=by unfold sgA;simp[h]
theorem Lb {l:List Sgm} (h:i<l.length):nth [] (l.map Az) i=Az (sgA l i):=by rw[OS h];exact Em _ _ _ _ h
theorem H4 {l:List Sgm} (h:i<l.length):sgA l i∈l:=by rw[OS h];exact bf h
theorem J2 (a:Pt) (l:List Sgm):E9 a l 0=a:=by unfold E9;simp[Fu]
theorem WO (a:Pt) (g:Sgm) (l:List Sgm) (i:Nat):E9 a (g::l) (i+1)=E9 g.to l i:=by unfold E9;rw[List.take_succ_cons];rfl
theorem Qk1 (g:Sgm) (l:List Sgm) (i:Nat):sgA (g::l) (i+1)=sgA l i:=by unfold sgA;simp
theorem T7:∀{l:List Sgm} {i:Nat} {a:Pt},i<l.length->E9 a l (i+1)=(sgA l i).to
 |g::l,0,a,_=>by rw[WO,J2];rfl
 |g::l,i+1,a,h=>by rw[WO,Qk1];exact T7 (by simpa using h)
theorem Qn2 {x n:Int} (D:0<n):Bb (x*n) n=x:=U_ D
theorem Zmo {g:Sgm} (h:0<g.len):Py a g g.len=g.to:=by
 unfold Py;rw[Qn2 h,Qn2 h,Qn2 h];rw[B4];exact⟨by simp only;omega,by simp only;omega,by simp only;omega⟩
theorem Qlm:∀{l:List Sgm} {a:Pt} {s:Int},l≠[]->(∀g∈l,1<=g.len)->0<=s->
  (Bi l s).1<l.length/\0<=(Bi l s).2/\(Bi l s).2<=(sgA l (Bi l s).1).len/\atL a l s=Py (E9 a l (Bi l s).1) (sgA l (Bi l s).1) (Bi l s).2
 |[],_,_,h,_,_=>absurd rfl h
 |[g],a,s,_,D,G=>by
  have L:=D g (by simp);unfold Bi;by_cases c:s<g.len
  ·rw[aa c];refine⟨by simp,G,by show s<=g.len;omega,?_⟩;unfold atL;rw[aa c,J2];rfl
  ·rw[ab c];refine⟨by simp,by simp only;omega,gk _,?_⟩;unfold atL;rw[ab c,J2];show atL g.to [] _=Py a g g.len;rw[Zmo (by omega)];rfl
 |g::h::l,a,s,_,D,G=>by
  have L:=D g (by simp);unfold Bi;by_cases c:s<g.len
  ·rw[aa c];refine⟨by simp,G,by show s<=g.len;omega,?_⟩;unfold atL;rw[aa c,J2];rfl
  ·rw[ab c];obtain⟨M,N,O,S⟩:=Qlm (l:=h::l) (a:=g.to) (s:=s-g.len) (by simp) (λk I=>D k (by simp at I⊢;exact .inr I)) (by omega);refine⟨by simp at M⊢;omega,N,?_,?_⟩
   ·simp only[Qk1];exact O
   ·rw[show atL a (g::h::l) s=atL g.to (h::l) (s-g.len)from by rw[atL,ab c]];simp only[WO,Qk1];exact S
theorem Qhx {x n:Int} (D:0<n) (h: -(A*n)<=x/\x<=A*n):(Bb x n).natAbs<=A:=by
 have m1:=SP D h.2;have m2:=SP D h.1;rw[show-((A:Int)*n)= -(A:Int)*n by rw[Int.neg_mul]]at m2;rw[U_ D]at m1 m2;omega
theorem Q1f {D L d:Int} (I:0<L) (M:D.natAbs<=134217728) (G:0<=d/\d<=L):(Bb (D*d) L).natAbs<=134217728:=by
 refine Qhx I ?_;have N:D*d<=134217728*d:=gf (by omega) G.1;have O: -134217728*d<=D*d:=gf (by omega) G.1;have e:((134217728:Nat):Int)=134217728:=rfl;rw[e];omega
structure SegOK (l : List Sgm) : Prop where
 seg:∀g∈l,1<=g.len/\g.len<=268435456/\bd B26 g.to
 count:l.length<=983055
theorem GoodPath.ok (h:GoodPath p):SegOK p.aF:=⟨Qpe h.aQ h.aF,h.count⟩
theorem Zi2 {l:List Sgm} (D:bd B26 a) (h:SegOK l) {i:Nat} (G:i<l.length):bd B26 (E9 a l i):=by
 cases i with
 |zero=>rw[J2];exact D
 |succ i=>rw[T7 (by omega)];exact(h.seg _ (H4 (by omega))).2.2
theorem Q0v {l:List Sgm} (h:SegOK l):∀(k i:Nat) (v:Int),i+k=l.length->0<=v->v+k*268435456<=4000000000000000000->
  Al SB [I v, .vC Ag (l.map Az),I l.length,I i]=some (1,[I (v+AT (l.drop i))])
 |0,i,v,L,_,_=>by
  refine AJ ?_ (by simp);rw[Q71,AQ (by omega),dg (by omega)];simp[AT]
 |k+1,i,v,L,N,O=>by
  have D:i<l.length:=by omega
  have M:=h.count;have S:=h.seg _ (H4 D);have G:SB [I v, .vC Ag (l.map Az),I l.length,I i]=some (0,[I (v+(sgA l i).len), .vC Ag (l.map Az),I l.length,I (i+1:Nat)]):=by
   rw[Q71];simp only[go_sem,ac,ag,Lb D];rw[aa,aa,Ad (x:=v+_),Ad];rfl
  rw[AS G,Q0v h k (i+1) _ (by omega) (by omega) (by omega)];have e:l.drop i=sgA l i::l.drop (i+1):=by rw[OS D];exact KQ _ _ D
  rw[e];simp only[AT,Int.add_assoc]
theorem Zdx (h:SegOK p.aF):JL (Bj p)=some [I (AT p.aF)]:=by
 have G:=Q0v h p.aF.length 0 0 (by omega) (by omega) (by have:=h.count;omega);have D:SQ [I 0, .vC Ag (p.aF.map Az),I p.aF.length,I 0]=some (1,[I (0+AT (p.aF.drop 0))]):=G;rw[fj,Int.zero_add]at D;unfold JL;generalize SQ=N at*;rw[Zwc];simp only[go_sem,ac,D]
theorem Zgg {g h:Sgm} {l:List Sgm} {s:Int} (c: ¬s<g.len):Bi (g::h::l) s=((Bi (h::l) (s-g.len)).1+1,(Bi (h::l) (s-g.len)).2):=by rw[Bi,ab c]
theorem Q12 {p:Pth} (h:SegOK p.aF):∀(k i:Nat) (s:Int),i+k=p.aF.length->1<=k->0<=s/\s<=9223372036854775807->
  Al S3 (I s:: .vC Ag (p.aF.map Az)::I p.aF.length::I i::Bj p)=some (1,[I (i+(Bi (p.aF.drop i) s).1:Nat),I (Bi (p.aF.drop i) s).2])
 |k+1,i,s,N,_,O=>by
  have G:i<p.aF.length:=by omega
  have M:=h.count;have S:=h.seg _ (H4 G);have e:p.aF.drop i=sgA p.aF i::p.aF.drop (i+1):=by rw[OS G];exact KQ _ _ G
  have D:S3 (I s:: .vC Ag (p.aF.map Az)::I p.aF.length::I i::Bj p)=if s<(sgA p.aF i).len then some (1,[I i,I s])else if k=0 then some (1,[I i,I (sgA p.aF i).len])else some (0,I (s-(sgA p.aF i).len):: .vC Ag (p.aF.map Az)::I p.aF.length::I (i+1:Nat)::Bj p):=by
   rw[Zd6];simp only[go_sem,ac,ag,Lb G];rw[aa,aa,Ad (x:=(p.aF.length:Int)-1),Ad (x:=(i:Int)+1)];by_cases c:s<(sgA p.aF i).len
   ·rw[aa c,aa c]
   ·rw[ab c,ab c];by_cases L:k=0
    ·rw[aa,aa L]
    ·rw[ab,ab L,Ad];rfl
  by_cases c:s<(sgA p.aF i).len
  ·rw[aa c]at D;rw[AJ D (by simp),e];cases p.aF.drop (i+1)with
   |nil=>rw[Bi,aa c];rfl
   |cons b l=>rw[Bi,aa c];rfl
  ·rw[ab c]at D;by_cases L:k=0
   ·rw[aa L]at D;rw[AJ D (by simp),e,dg (by omega),Bi,ab c];rfl
   ·rw[ab L]at D;rw[AS D,Q12 h k (i+1) _ (by omega) (by omega) (by omega),e];have e2:p.aF.drop (i+1)=sgA p.aF (i+1)::p.aF.drop (i+1+1):=by rw[OS (show i+1<p.aF.length by omega)];exact KQ _ _ (by omega)
    rw[e2,Zgg c,<-e2];simp only;rw[show i+1+(Bi (p.aF.drop (i+1)) (s-(sgA p.aF i).len)).1=i+((Bi (p.aF.drop (i+1)) (s-(sgA p.aF i).len)).1+1) by omega]
theorem V6 (h:SegOK p.aF) {s:Int} (hs:i64 s):EL (Bj p++[I s])=if p.aF=[]then some [I (-1),I 0]else some [I (Bi p.aF (max s 0)).1,I (Bi p.aF (max s 0)).2]:=by
 unfold i64 at hs;have hmx:mx s 0=max s 0:=mx_max' s 0;by_cases c:p.aF=[]
 ·rw[aa c];have hend:Nv (I (max s 0):: .vC Ag []::I 0::I 0::Bj p)=some (2,[]):=by
   refine AJ ?_ (by simp);rw[Zd6,AQ (by omega)]
  unfold EL;generalize Nv=N at*;have he:=Q0b N p.aQ.x p.aQ.y p.aQ.z (p.aF.map Az) (p.aD.map Aq) s;refine dc he ?_;rw[hmx,c];have hend':N [I (max s 0), .vC Ag [],I 0,I 0,I p.aQ.x,I p.aQ.y,I p.aQ.z, .vC Ag [], .vC AA (p.aD.map Aq)]=some (2,[]):=by
   have:=hend;unfold Bj at this;rw[c]at this;exact this
  simp only[go_sem,db,bv];simp only[ke];rw[hend'];simp
 ·rw[ab c];have hpos:0<p.aF.length:=by
   cases hh:p.aF with
   |nil=>exact absurd hh c
   |cons _ _=>simp
  have hL:=Q12 h p.aF.length 0 (max s 0) (by omega) (by omega) (by omega);have hL':Nv [I (max s 0), .vC Ag (p.aF.map Az),I p.aF.length,I 0,I p.aQ.x,I p.aQ.y,I p.aQ.z, .vC Ag (p.aF.map Az), .vC AA (p.aD.map Aq)]=some (1,[I (0+(Bi (p.aF.drop 0) (max s 0)).1:Nat),I (Bi (p.aF.drop 0) (max s 0)).2]):=hL;rw[fj,dt]at hL';unfold EL;generalize Nv=N at*;have he:=Q0b N p.aQ.x p.aQ.y p.aQ.z (p.aF.map Az) (p.aD.map Aq) s;refine dc he ?_;rw[hmx];simp only[go_sem,ac,hL']
 where mx_max' (a b:Int):mx a b=max a b:=by unfold mx;rw[Int.max_def];split<;>split<;>omega
theorem Z9l (h:GoodPath p) {s:Int} (G:Z (Bj p++[I s])=if p.aF=[]then some [I (-1),I 0]else some [I (Bi p.aF (max s 0)).1,I (Bi p.aF (max s 0)).2])
  (hM:∀{a b c:Int},a.natAbs<=134217728->b.natAbs<=268435456->(0<c/\c<=268435456)->M [I a,I b,I c,I 2]=some [I (Bb (a*b) c),B true]):
  Qey M Z (Bj p++[I s])=some (ptR (atP p s)):=by
 have he:=Zxu (A7:=M) (DA:=Z) p.aQ.x p.aQ.y p.aQ.z (p.aF.map Az) (p.aD.map Aq) s;refine dc he ?_;simp only[ay,az,Bj]at G;unfold atP;by_cases c:p.aF=[]
 ·rw[aa c]at G;simp only[G,go_sem];rw[aa,c];rfl
 ·rw[ab c]at G;have D:=h.ok;obtain⟨N,f2,f3,f4⟩:=Qlm (l:=p.aF) (a:=p.aQ) (s:=max s 0) c (λg L=>(D.seg g L).1) (by omega);rw[f4];have L:=D.seg _ (H4 N);have S:=Zi2 h.aQ D N;have hr:=Lb N;have a1:=D.count;generalize(Bi p.aF (max s 0)).1=i at*;generalize(Bi p.aF (max s 0)).2=d at*;have T:d.natAbs<=268435456:=by omega
  have fin:∀{a:Pt},bd B26 a->(M [I (O ((sgA p.aF i).to.x-a.x)),I d,I (sgA p.aF i).len,I 2]=some [I (Bb (((sgA p.aF i).to.x-a.x)*d) (sgA p.aF i).len),B true]/\O (a.x+Bb (((sgA p.aF i).to.x-a.x)*d) (sgA p.aF i).len)=a.x+Bb (((sgA p.aF i).to.x-a.x)*d) (sgA p.aF i).len)/\
    (M [I (O ((sgA p.aF i).to.y-a.y)),I d,I (sgA p.aF i).len,I 2]=some [I (Bb (((sgA p.aF i).to.y-a.y)*d) (sgA p.aF i).len),B true]/\O (a.y+Bb (((sgA p.aF i).to.y-a.y)*d) (sgA p.aF i).len)=a.y+Bb (((sgA p.aF i).to.y-a.y)*d) (sgA p.aF i).len)/\
    (M [I (O ((sgA p.aF i).to.z-a.z)),I d,I (sgA p.aF i).len,I 2]=some [I (Bb (((sgA p.aF i).to.z-a.z)*d) (sgA p.aF i).len),B true]/\O (a.z+Bb (((sgA p.aF i).to.z-a.z)*d) (sgA p.aF i).len)=a.z+Bb (((sgA p.aF i).to.z-a.z)*d) (sgA p.aF i).len):=by
   intro a U;have key:∀u v:Int,u.natAbs<=B26->v.natAbs<=B26->M [I (O (u-v)),I d,I (sgA p.aF i).len,I 2]=some [I (Bb ((u-v)*d) (sgA p.aF i).len),B true]/\O (v+Bb ((u-v)*d) (sgA p.aF i).len)=v+Bb ((u-v)*d) (sgA p.aF i).len:=by
    intro u v hu S;have V:=Fp hu S;rw[Ez V (by decide)];refine⟨hM (bm V (by decide)) T (by omega),?_⟩;exact Ez (L3 S (Q1f (by omega) (bm V (by decide)) ⟨f2,f3⟩)) (by decide)
   exact⟨key _ _ L.2.2.1 U.1,key _ _ L.2.2.2.1 U.2.1,key _ _ L.2.2.2.2 U.2.2⟩
  have X:(0:Int)<=(i:Int)/\(i:Int)<(p.aF.length:Int):=by omega
  simp only[G,go_sem,ac,ag,hr,aa X];rw[ab];by_cases c0:i=0
  ·subst c0;obtain⟨⟨m1,Y⟩,⟨m2,w2⟩,m3,w3⟩:=fin h.aQ;rw[ab,J2];simp only[m1,m2,m3,go_sem,Y,w2,w3];rfl
  ·obtain⟨j,rfl⟩:∃j,i=j+1:=⟨i-1,by omega⟩;have hj:=Lb (l:=p.aF) (i:=j) (by omega);have a0:=D.seg _ (H4 (l:=p.aF) (i:=j) (by omega));obtain⟨⟨m1,Y⟩,⟨m2,w2⟩,m3,w3⟩:=fin a0.2.2;rw[aa,T7 (by omega)];have e1:O (((j+1:Nat):Int)-1)=(j:Int):=by rw[Ad];omega
   rw[e1];simp only[ag,hj,go_sem];rw[aa];simp only[m1,m2,m3,go_sem,Y,w2,w3];rfl
theorem Zed {a b c:Int} (D:a.natAbs<=134217728) (hb:b.natAbs<=268435456) (G:0<c/\c<=268435456):CY [I a,I b,I c,I 2]=some [I (Bb (a*b) c),B true]:=by
 have:=cy D hb;exact Uc (by unfold i64;omega) (by unfold i64;omega) (by omega) (by omega)
theorem Yew (h:GoodPath p) {s:Int} (D:i64 s):RT (Bj p++[I s])=some (ptR (atP p s)):=
 Z9l h (V6 h.ok D) Zed
theorem U5 (h:GoodPath p):0<=AT p.aF/\AT p.aF<=263886834032640:=by
 have D:=VD h.ok.seg;have G:=h.count;omega
theorem Z0k {α:Type} (d x:α) (l:List α):nth d (x::l) 40=nth d l 39:=by simp[nth]
theorem Z57 {α:Type} (d x:α) (l:List α):nth d (x::l) 41=nth d l 40:=by simp[nth]
theorem Yeb {α:Type} (d x:α) (l:List α):nth d (x::l) 42=nth d l 41:=by simp[nth]
theorem Zyp {α:Type} (d x:α) (l:List α):nth d (x::l) 43=nth d l 42:=by simp[nth]
theorem Ya3 {α:Type} (d x:α) (l:List α):nth d (x::l) 44=nth d l 43:=by simp[nth]
theorem Zsm {α:Type} (d x:α) (l:List α):nth d (x::l) 45=nth d l 44:=by simp[nth]
theorem Z1s {α:Type} (d x:α) (l:List α):nth d (x::l) 46=nth d l 45:=by simp[nth]
theorem Zze {α:Type} (d x:α) (l:List α):nth d (x::l) 47=nth d l 46:=by simp[nth]
theorem Zwr {α:Type} (d x:α) (l:List α):nth d (x::l) 48=nth d l 47:=by simp[nth]
theorem Z7z {α:Type} (d x:α) (l:List α):nth d (x::l) 49=nth d l 48:=by simp[nth]
theorem Yc6 {α:Type} (d x:α) (l:List α):nth d (x::l) 50=nth d l 49:=by simp[nth]
theorem Z3q {α:Type} (d x:α) (l:List α):nth d (x::l) 51=nth d l 50:=by simp[nth]
theorem Ye8 {α:Type} (d x:α) (l:List α):nth d (x::l) 52=nth d l 51:=by simp[nth]
theorem Ye7 {α:Type} (d x:α) (l:List α):nth d (x::l) 53=nth d l 52:=by simp[nth]
theorem Ycj {α:Type} (d x:α) (l:List α):nth d (x::l) 54=nth d l 53:=by simp[nth]
theorem Yfh {α:Type} (d x:α) (l:List α):nth d (x::l) 55=nth d l 54:=by simp[nth]
attribute [go_sem] Z0k Z57 Yeb Zyp Ya3 Zsm Z1s Zze Zwr Z7z Yc6 Z3q Ye8 Ye7 Ycj Yfh
theorem Kl (a b:Int):mn a b=min a b:=by unfold mn;rw[Int.min_def];split<;>split<;>omega
theorem Ow (a b:Int):mx a b=max a b:=by unfold mx;rw[Int.max_def];split<;>split<;>omega
def Uj (now a b mv:Int):Int:=if b>a then mv else if b<a then-mv else now
def D9 (now a b:Pt) (mv:Int):Pt:=⟨Uj now.x a.x b.x mv,Uj now.y a.y b.y mv,Uj now.z a.z b.z mv⟩
def slk (was aT n v:Int):Int:=if was=aT then v else max v n
def C6 (x:Ax3) (was aT:Pt):Int:=slk was.z aT.z x.c.bB (slk was.y aT.y x.b.bB (slk was.x aT.x x.a.bB 0))
def pc0:Pce:=⟨0,0,0,0,⟨0,0,0⟩,⟨0,0,0⟩⟩
def Bh (l:List Pce):Pce:=l.getD (l.length-1) pc0
def FV (t:Trk) (c:Pce):Trk:=
 if t.aE≠[]/\c.bC≠0/\(Bh t.aE).bC=c.bC/\(Bh t.aE).aT=c.aT then
  {t with aE:=t.aE.set (t.aE.length-1) {Bh t.aE with aR:=(Bh t.aE).aR+c.aR},length:=t.length+c.aR}
 else{t with aE:=t.aE++[{c with at_:=t.length}],length:=t.length+c.aR}
def AD (l:List Sgm) (i:Nat):Int:=AT (l.take i)
def CE (x:Ax3) (mv:Int) (a b:Pt) (s aR:Int) (D:Trk×Pt):Trk×Pt:=
 (FV (if C6 x D.2 (D9 D.2 a b mv) > 0 then FV D.1 ⟨0, C6 x D.2 (D9 D.2 a b mv), s, 0, D.2, D9 D.2 a b mv⟩ else D.1)
  ⟨0,aR,s,mv,D9 D.2 a b mv,D9 D.2 a b mv⟩,D9 D.2 a b mv)
def IV (p:Pth) (x:Ax3) (mv lo D:Int) (i:Nat) (s:Trk×Pt):Trk×Pt:=
 if max (AD p.aF i) lo<min (AD p.aF (i+1)) D then
  CE x mv (E9 p.aQ p.aF i) (sgA p.aF i).to (if mv<0 then min (AD p.aF (i+1)) D else max (AD p.aF i) lo) (min (AD p.aF (i+1)) D-max (AD p.aF i) lo) s
 else s
def EA (n:Nat) (mv:Int) (j:Nat):Nat:=if mv<0 then n-1-j else j
def CI (p:Pth) (x:Ax3) (mv lo D:Int) (G:Trk×Pt):Nat->Trk×Pt
 |0=>G
 |j+1=>IV p x mv lo D (EA p.aF.length mv j) (CI p x mv lo D G j)
def BC (n D:Int):Int:=max 0 (min n D)
def EM (p:Pth) (x:Ax3) (d:Pt) (from_ to:Int):Trk:=
 let n:=AT p.aF
 let f:=BC from_ n
 let t:=BC to n
 (CI p x (if f>t then-1 else 1) (min f t) (max f t) (⟨[],0,f,d⟩,d) p.aF.length).1
structure Ax3OK (x : Ax3) : Prop where
 a:0<=x.a.bB/\x.a.bB<=1000
 b:0<=x.b.bB/\x.b.bB<=1000
 c:0<=x.c.bB/\x.c.bB<=1000
theorem TY {x:Ax3} (h:Ax3OK x) (a b:Pt):0<=C6 x a b/\C6 x a b<=1000:=by
 obtain⟨D,G,I⟩:=h;unfold C6 slk
 (repeat' split)<;>omega
structure TB (t : Trk) (n m : Int) : Prop where
 count:(t.aE.length:Int)<=n
 len:0<=t.length/\t.length<=m
 each:∀c∈t.aE,0<=c.aR/\c.aR<=t.length
theorem Q7g {l:List Pce} (h:l≠[]):Bh l∈l:=by
 have G:0<l.length:=by cases l with
  |nil=>exact absurd rfl h
  |cons _ _=>simp
 have D:l.length-1<l.length:=by omega
 unfold Bh;rw[fe,aj D,Option.getD_some];exact bf _
theorem Quu {n m:Int} (h:TB t n m) {c:Pce} {k:Int} (I:0<=c.aR/\c.aR<=k):TB (FV t c) (n+1) (m+k):=by
 obtain⟨L,M,G⟩:=h;unfold FV;by_cases g:t.aE≠[]/\c.bC≠0/\(Bh t.aE).bC=c.bC/\(Bh t.aE).aT=c.aT
 ·rw[aa g];refine⟨by simp only[iv];omega,by simp only;omega,?_⟩;intro q D;rcases fg D with D|rfl
  ·have:=G q D;simp only;omega
  ·have:=G _ (Q7g g.1);simp only;omega
 ·rw[ab g];refine⟨by simp only[ap,ba,bv];omega,by simp only;omega,?_⟩;intro q D;rcases bt.1 D with D|D
  ·have:=G q D;simp only;omega
  ·rw[ff]at D;subst D;simp only;omega
theorem Zag (t:Trk) (c:Pce):(FV t c).aQ=t.aQ/\(FV t c).aT=t.aT:=by
 unfold FV;split<;>exact⟨rfl,rfl⟩
theorem Ua (l:List Sgm):AD l 0=0:=by unfold AD;rw[List.take_zero];rfl
theorem QW {l:List Sgm} (h:i<l.length):AD l (i+1)=AD l i+(sgA l i).len:=by
 unfold AD;rw[iw,aj h,Option.toList_some,Qig,OS h]
theorem Zea (l:List Sgm):AD l l.length=AT l:=by unfold AD;rw[gj]
theorem Qoo {l:List Sgm} (h:SegOK l):∀i,i<=l.length->0<=AD l i/\AD l i<=i*268435456
 |0,_=>by rw[Ua];simp
 |i+1,D=>by
  have:=Qoo h i (by omega);have:=h.seg _ (H4 (show i<l.length by omega));rw[QW (by omega)];omega
theorem Zo1 {x:Ax3} {mv lo hi:Int} {s:Trk×Pt} {n m:Int} (I:Ax3OK x) (L:SegOK p.aF) (D:i<p.aF.length) (h:TB s.1 n m):TB (IV p x mv lo hi i s).1 (n+2) (m+268436456):=by
 have M:=L.seg _ (H4 D);have e:=QW D;unfold IV;by_cases c:max (AD p.aF i) lo<min (AD p.aF (i+1)) hi
 ·rw[aa c];unfold CE;have N:=TY I s.2 (D9 s.2 (E9 p.aQ p.aF i) (sgA p.aF i).to mv);have e1:n+2=n+1+1:=by omega
  have e2:m+268436456=m+1000+268435456:=by omega
  rw[e1,e2];refine Quu ?_ (by simp only;omega);by_cases G:C6 x s.2 (D9 s.2 (E9 p.aQ p.aF i) (sgA p.aF i).to mv)>0
  ·rw[aa G];exact Quu h (by simp only;omega)
  ·rw[ab G];exact⟨by have:=h.count;omega,by have:=h.len;omega,h.each⟩
 ·rw[ab c];exact⟨by have:=h.count;omega,by have:=h.len;omega,h.each⟩
theorem Yd {n j:Nat} (mv:Int) (h:j<n):EA n mv j<n:=by unfold EA;split<;>omega
theorem ZP {p:Pth} {x:Ax3} {mv lo hi f:Int} {d:Pt} (D:Ax3OK x) (G:SegOK p.aF):∀j,j<=p.aF.length->TB (CI p x mv lo hi (⟨[],0,f,d⟩,d) j).1 (j*2) (j*268436456)
 |0,_=>⟨by simp[CI],by simp[CI],by simp[CI]⟩
 |j+1,I=>by
  have h:=Zo1 (mv:=mv) (lo:=lo) (hi:=hi) D G (Yd mv (show j<p.aF.length by omega)) (ZP (mv:=mv) (lo:=lo) (hi:=hi) (f:=f) (d:=d) D G j (by omega));rw[CI];have e1:((j+1:Nat):Int)*2=j*2+2:=by omega
  have e2:((j+1:Nat):Int)*268436456=j*268436456+268436456:=by omega
  rw[e1,e2];exact h
theorem Zey {x:Ax3} (s:Trk×Pt):(IV p x u d v i s).1.aQ=s.1.aQ/\(IV p x u d v i s).1.aT=s.1.aT:=by
 unfold IV;by_cases c:max (AD p.aF i) d<min (AD p.aF (i+1)) v
 ·rw[aa c];unfold CE;simp only[Zag];by_cases D:C6 x s.2 (D9 s.2 (E9 p.aQ p.aF i) (sgA p.aF i).to u)>0
  ·rw[aa D];simp only[Zag];exact⟨trivial,trivial⟩
  ·rw[ab D];exact⟨rfl,rfl⟩
 ·rw[ab c];exact⟨rfl,rfl⟩
def chain (x:Ax3) (mv:Int) (Q:Int->Pt->Prop):Int->Int->Pt->List Pce->Prop
 |_,_,_,[]=>True
 |at_,s,d,c::l=>c.at_=at_/\c.s=s/\1<=c.aR/\((c.bC=mv/\c.was=c.aT/\C6 x d c.aT=0/\∀k,0<=k->k<c.aR->Q (s+mv*k) c.aT)\/(c.bC=0/\c.was=d/\c.aR=C6 x d c.aT))/\chain x mv Q (at_+c.aR) (s+c.bC*c.aR) c.aT l
def C0:Int->List Pce->Int
 |a,[]=>a
 |a,c::l=>C0 (a+c.aR) l
def C9:Int->List Pce->Int
 |s,[]=>s
 |s,c::l=>C9 (s+c.bC*c.aR) l
def IR:Pt->List Pce->Pt
 |d,[]=>d
 |_,c::l=>IR c.aT l
theorem TE (c:Pce):∀(a:Int) (l:List Pce),C0 a (l++[c])=C0 a l+c.aR
 |_,[]=>rfl
 |_,k::l=>TE c _ l
theorem TN (c:Pce):∀(s:Int) (l:List Pce),C9 s (l++[c])=C9 s l+c.bC*c.aR
 |_,[]=>rfl
 |_,k::l=>TN c _ l
theorem Un (c:Pce):∀(d:Pt) (l:List Pce),IR d (l++[c])=c.aT
 |_,[]=>rfl
 |_,k::l=>Un c _ l
theorem Uf {x:Ax3} {mv:Int} {Q:Int->Pt->Prop} {c:Pce}:∀{at_ s:Int} {d:Pt} {l:List Pce},
  chain x mv Q at_ s d (l++[c])↔chain x mv Q at_ s d l/\c.at_=C0 at_ l/\c.s=C9 s l/\1<=c.aR/\((c.bC=mv/\c.was=c.aT/\C6 x (IR d l) c.aT=0/\∀k,0<=k->k<c.aR->Q (C9 s l+mv*k) c.aT)\/(c.bC=0/\c.was=IR d l/\c.aR=C6 x (IR d l) c.aT))
 |at_,s,d,[]=>by
  simp only[az,chain,C0,C9,IR,jb,true_and]
 |at_,s,d,k::l=>by
  simp only[ay,chain,C0,C9,IR];rw[Uf];constructor
  ·rintro⟨D,G,I,L,M,N⟩;exact⟨⟨D,G,I,L,M⟩,N⟩
  ·rintro⟨⟨D,G,I,L,M⟩,N⟩;exact⟨D,G,I,L,M,N⟩
theorem Zml {l:List Pce} (h:l≠[]) (v:Pce):l.set (l.length-1) v=l.dropLast++[v]:=by
 have e:=List.dropLast_concat_getLast h;have D:l.length-1=l.dropLast.length:=by rw[List.length_dropLast]
 conv=>lhs;arg 1;rw[<-e]
 rw[D,List.set_append_right _ _ (cg _),iu];rfl
theorem Zl0 {l:List Pce} (h:l≠[]):l.dropLast++[Bh l]=l:=by
 have e:=List.dropLast_concat_getLast h;have I:0<l.length:=by
  cases l with
  |nil=>exact absurd rfl h
  |cons _ _=>simp
 have D:l.length-1<l.length:=by omega
 have G:Bh l=l.getLast h:=by
  unfold Bh;rw[fe,aj D,Option.getD_some,List.getLast_eq_getElem]
 rw[G];exact e
structure TC (x : Ax3) (mv : Int) (Q : Int -> Pt -> Prop) (t : Trk) (s : Int) (d : Pt) : Prop where
 ch:chain x mv Q 0 t.aQ t.aT t.aE
 len:C0 0 t.aE=t.length
 s:C9 t.aQ t.aE=s
 d:IR t.aT t.aE=d
theorem Qnt {x:Ax3} {s:Int} (hm:u≠0) (h:TC x u Q t s a) {c:Pce} (hs:c.s=s) (hu:1<=c.aR)
  (G:(c.bC=u/\c.was=c.aT/\C6 x a c.aT=0/\∀k,0<=k->k<c.aR->Q (s+u*k) c.aT)\/(c.bC=0/\c.was=a/\c.aR=C6 x a c.aT)):TC x u Q (FV t c) (s+c.bC*c.aR) c.aT:=by
 obtain⟨M,N,D,O⟩:=h;unfold FV;by_cases g:t.aE≠[]/\c.bC≠0/\(Bh t.aE).bC=c.bC/\(Bh t.aE).aT=c.aT
 ·rw[aa g];obtain⟨g1,g2,V,X⟩:=g;have e:=Zl0 g1;rw[Zml g1];rw[<-e]at M N D O;rw[Uf]at M;rw[TE]at N;rw[TN]at D;rw[Un]at O;generalize t.aE.dropLast=I at*;generalize Bh t.aE=L at*;obtain⟨k0,k1,k2,k4,S⟩:=M
  replace G:=G.resolve_right λh=>g2 h.1
  replace S:=S.resolve_right λh=>g2 (V▸h.1)
  obtain⟨c1,c2,-,c3⟩:=G;obtain⟨Y,q2,q4,q3⟩:=S;refine⟨?_,?_,?_,?_⟩
  ·show chain x u Q 0 t.aQ t.aT (I++[_]);rw[Uf];refine⟨k0,k1,k2,by simp only;omega, .inl ⟨Y,q2,q4,?_⟩⟩;intro k hk0 T;simp only at T;by_cases U:k<L.aR
   ·exact q3 k hk0 U
   ·have:=c3 (k-L.aR) (by omega) (by omega);rw[<-D,Y,<-X]at this;have ea:C9 t.aQ I+u*L.aR+u*(k-L.aR)=C9 t.aQ I+u*k:=by rw[Int.mul_sub];omega
    rw[ea]at this;exact this
  ·show C0 0 (I++[_])=t.length+c.aR;rw[TE];simp only;omega
  ·show C9 t.aQ (I++[_])=s+c.bC*c.aR;rw[TN];simp only;rw[V]at D⊢;rw[Int.mul_add];omega
  ·show IR t.aT (I++[_])=c.aT;rw[Un];exact X
 ·rw[ab g];refine⟨?_,?_,?_,?_⟩
  ·show chain x u Q 0 t.aQ t.aT (t.aE++[_]);rw[Uf];refine⟨M,N.symm,by rw[D];exact hs,hu,?_⟩;rw[D,O];exact G
  ·show C0 0 (t.aE++[_])=t.length+c.aR;rw[TE,N]
  ·show C9 t.aQ (t.aE++[_])=s+c.bC*c.aR;rw[TN,D]
  ·show IR t.aT (t.aE++[_])=c.aT;rw[Un]
theorem Zpr (x:Ax3) (d:Pt):C6 x d d=0:=by unfold C6 slk;simp
theorem Q09 {x:Ax3} {s aR:Int} (G:u≠0) (N:∀w q,0<=C6 x w q) (h:TC x u Q t s q) (I:1<=aR) (L:∀k,0<=k->k<aR->Q (s+u*k) (D9 q a b u)):
  TC x u Q (CE x u a b s aR (t,q)).1 (s+u*aR) (D9 q a b u):=by
 unfold CE;simp only;generalize D9 q a b u=D at*;by_cases c:C6 x q D>0
 ·rw[aa c];have M:=Qnt G h (c:=⟨0,C6 x q D,s,0,q,D⟩) rfl (by simp only;omega) (.inr ⟨rfl,rfl,rfl⟩);simp only[j4,ja]at M;exact Qnt G M (c:=⟨0,aR,s,u,D,D⟩) rfl I (.inl ⟨rfl,rfl,Zpr x D,L⟩)
 ·rw[ab c];have:=N q D;exact Qnt G h (c:=⟨0,aR,s,u,D,D⟩) rfl I (.inl ⟨rfl,rfl,by simp only;omega,L⟩)
def Kj (l:List Sgm) (mv lo D:Int) (j:Nat):Int:=if mv<0 then min (max (AD l (l.length-j)) lo) D else min (max (AD l j) lo) D
def Qy3 (p:Pth) (mv:Int) (Q:Int->Pt->Prop):Prop:=∀i,i<p.aF.length->∀(d:Pt) (s:Int),AD p.aF i<=s->s<=AD p.aF (i+1)->AD p.aF i<=s+mv->s+mv<=AD p.aF (i+1)->Q s (D9 d (E9 p.aQ p.aF i) (sgA p.aF i).to mv)
theorem Zdw {p:Pth} {x:Ax3} {mv lo hi f:Int} {d:Pt} {Q:Int->Pt->Prop} (S:mv=1\/mv= -1) (M:Ax3OK x) (T:SegOK p.aF) (N:0<=lo/\lo<=hi/\hi<=AT p.aF) (hf:(mv=1/\f=lo)\/(mv= -1/\f=hi)) (U:Qy3 p mv Q):
  ∀j,j<=p.aF.length->TC x mv Q (CI p x mv lo hi (⟨[],0,f,d⟩,d) j).1 (Kj p.aF mv lo hi j) (CI p x mv lo hi (⟨[],0,f,d⟩,d) j).2
 |0,_=>by
  have X:Kj p.aF mv lo hi 0=f:=by
   unfold Kj;have:=Zea p.aF;rcases hf with⟨rfl,rfl⟩|⟨rfl,rfl⟩
   ·rw[ab,Ua];omega
   ·rw[aa,Nat.sub_zero,this];omega
  rw[X];exact⟨trivial,rfl,rfl,rfl⟩
 |j+1,hj=>by
  have G:=Zdw S M T N hf U (f:=f) (d:=d) j (by omega);have L:=Yd mv (show j<p.aF.length by omega);have hg:=T.seg _ (H4 L);have O:=QW L;have V:=U _ L;rw[CI];unfold IV;have D:(mv=1/\EA p.aF.length mv j=j)\/(mv= -1/\EA p.aF.length mv j=p.aF.length-1-j):=by
   unfold EA;rcases S with rfl|rfl
   ·exact .inl ⟨rfl,ab⟩
   ·exact .inr ⟨rfl,aa⟩
  have I:Kj p.aF mv lo hi j=(if mv<0 then min (max (AD p.aF (EA p.aF.length mv j+1)) lo) hi else min (max (AD p.aF (EA p.aF.length mv j)) lo) hi)/\
    Kj p.aF mv lo hi (j+1)=(if mv<0 then min (max (AD p.aF (EA p.aF.length mv j)) lo) hi else min (max (AD p.aF (EA p.aF.length mv j+1)) lo) hi):=by
   unfold Kj;rcases D with⟨rfl,e⟩|⟨rfl,e⟩
   ·rw[e,ab,ab,ab,ab];exact⟨rfl,rfl⟩
   ·rw[e,aa,aa,aa,aa,show p.aF.length-1-j+1=p.aF.length-j by omega,show p.aF.length-(j+1)=p.aF.length-1-j by omega];exact⟨rfl,rfl⟩
  rw[I.1]at G;rw[I.2];generalize EA p.aF.length mv j=i at*;generalize CI p x mv lo hi (⟨[],0,f,d⟩,d) j=w at*;obtain⟨t,dn⟩:=w;simp only at G⊢;by_cases c:max (AD p.aF i) lo<min (AD p.aF (i+1)) hi
  ·rw[aa c];rcases D with⟨rfl,-⟩|⟨rfl,-⟩
   ·rw[ab]at G⊢;rw[ab];have e1:min (max (AD p.aF i) lo) hi=max (AD p.aF i) lo:=by omega
    rw[e1]at G;have:=Q09 (a:=E9 p.aQ p.aF i) (b:=(sgA p.aF i).to) (aR:=min (AD p.aF (i+1)) hi-max (AD p.aF i) lo) (by omega) (λw d=>(TY M w d).1) G (by omega) (λk Y h1=>V dn _ (by omega) (by omega) (by omega) (by omega));have e2:max (AD p.aF i) lo+1*(min (AD p.aF (i+1)) hi-max (AD p.aF i) lo)=min (max (AD p.aF (i+1)) lo) hi:=by omega
    rw[e2]at this;exact this
   ·rw[aa]at G⊢;rw[aa];have e1:min (max (AD p.aF (i+1)) lo) hi=min (AD p.aF (i+1)) hi:=by omega
    rw[e1]at G;have:=Q09 (a:=E9 p.aQ p.aF i) (b:=(sgA p.aF i).to) (aR:=min (AD p.aF (i+1)) hi-max (AD p.aF i) lo) (by omega) (λw d=>(TY M w d).1) G (by omega) (λk Y h1=>V dn _ (by omega) (by omega) (by omega) (by omega));have e2:min (AD p.aF (i+1)) hi+ -1*(min (AD p.aF (i+1)) hi-max (AD p.aF i) lo)=min (max (AD p.aF i) lo) hi:=by omega
    rw[e2]at this;exact this
  ·rw[ab c];have e:(if mv<0 then min (max (AD p.aF (i+1)) lo) hi else min (max (AD p.aF i) lo) hi)=(if mv<0 then min (max (AD p.aF i) lo) hi else min (max (AD p.aF (i+1)) lo) hi):=by
    split<;>omega
   rw[<-e];exact G
theorem Ycq {l:List Pce} (h:l≠[]):nth [] (l.map AZ) (l.length-1)=AZ (Bh l):=by
 have G:0<l.length:=by cases l with
  |nil=>exact absurd rfl h
  |cons _ _=>simp
 unfold Bh;have D:l.length-1<l.length:=by omega
 rw[Em _ _ _ _ D,fe,aj D,Option.getD_some]
theorem Zgo:a=b↔a.x=b.x/\a.y=b.y/\a.z=b.z:=B4
theorem Z6u {c:Pce} {n m k:Int} (h:TB t n m) (hn:n<=10000000) (hm:m<=1000000000000000000) (hk:k<=1000000000000000000) (hc:0<=c.aR/\c.aR<=k):
  V0 [.vC Ap (t.aE.map AZ),I c.at_,I c.aR,I c.s,I c.bC,I c.was.x,I c.was.y,I c.was.z,I c.aT.x,I c.aT.y,I c.aT.z,I t.length,I t.aQ,I t.aT.x,I t.aT.y,I t.aT.z]=some (Bu (FV t c)):=by
 obtain⟨h1,h2,X⟩:=h;have V:O (t.length+c.aR)=t.length+c.aR:=Ad;have D:((t.aE.map AZ++[[I t.length,I c.aR,I c.s,I c.bC,I c.was.x,I c.was.y,I c.was.z,I c.aT.x,I c.aT.y,I c.aT.z]]).length*80).ble 140737488355328=true:=by
  rw[Nat.ble_eq,ap,ac];simp only[ba,bv];omega
 have L:(t.aE.map AZ++[[I t.length,I c.aR,I c.s,I c.bC,I c.was.x,I c.was.y,I c.was.z,I c.aT.x,I c.aT.y,I c.aT.z]]).length*80<=140737488355328:=bc D;have G:some [AC.vC Ap (t.aE.map AZ++[[I t.length,I c.aR,I c.s,I c.bC,I c.was.x,I c.was.y,I c.was.z,I c.aT.x,I c.aT.y,I c.aT.z]]),I (t.length+c.aR),I t.aQ,I t.aT.x,I t.aT.y,I t.aT.z]=
   some (Bu {t with aE:=t.aE++[{c with at_:=t.length}],length:=t.length+c.aR}):=by
  simp only[Bu,bn,be,db]
 by_cases M:t.aE=[]
 ·have Y: ¬(t.aE≠[]/\c.bC≠0/\(Bh t.aE).bC=c.bC/\(Bh t.aE).aT=c.aT):=λg=>g.1 M;unfold FV;rw[ab Y,<-G];rw[Zgc,ac,AQ (by rw[M];simp),BP D,V]
 ·have hp:0<t.aE.length:=by
   cases hh:t.aE with
   |nil=>exact absurd hh M
   |cons _ _=>simp
  have e1:O ((t.aE.length:Int)-1)=((t.aE.length-1:Nat):Int):=by rw[Ad];omega
  have T:(0:Int)<=((t.aE.length-1:Nat):Int)/\((t.aE.length-1:Nat):Int)<(t.aE.length:Int):=by omega
  have hl:=X _ (Q7g M);have U:O ((Bh t.aE).aR+c.aR)=(Bh t.aE).aR+c.aR:=Ad;have N:some [AC.vC Ap ((t.aE.map AZ).set (t.aE.length-1) [I (Bh t.aE).at_,I ((Bh t.aE).aR+c.aR),I (Bh t.aE).s,I (Bh t.aE).bC,I (Bh t.aE).was.x,I (Bh t.aE).was.y,I (Bh t.aE).was.z,I (Bh t.aE).aT.x,I (Bh t.aE).aT.y,I (Bh t.aE).aT.z]),I (t.length+c.aR),I t.aQ,I t.aT.x,I t.aT.y,I t.aT.z]=
   some (Bu {t with aE:=t.aE.set (t.aE.length-1) {Bh t.aE with aR:=(Bh t.aE).aR+c.aR},length:=t.length+c.aR}):=by
   simp only[Bu,List.map_set]
  have hr:=Ycq M;have main : ∀ R, R = (if c.bC ≠ 0 then if (Bh t.aE).bC = c.bC then if (Bh t.aE).aT.x = c.aT.x /\ (Bh t.aE).aT.y = c.aT.y /\ (Bh t.aE).aT.z = c.aT.z then
    some (Bu {t with aE:=t.aE.set (t.aE.length-1) {Bh t.aE with aR:=(Bh t.aE).aR+c.aR},length:=t.length+c.aR})
    else some (Bu {t with aE:=t.aE++[{c with at_:=t.length}],length:=t.length+c.aR})else some (Bu {t with aE:=t.aE++[{c with at_:=t.length}],length:=t.length+c.aR})else some (Bu {t with aE:=t.aE++[{c with at_:=t.length}],length:=t.length+c.aR}))->R=some (Bu (FV t c)):=by
   intro R hR;rw[hR];unfold FV;by_cases g1:c.bC≠0
   ·by_cases g2:(Bh t.aE).bC=c.bC
    ·by_cases S:(Bh t.aE).aT.x=c.aT.x/\(Bh t.aE).aT.y=c.aT.y/\(Bh t.aE).aT.z=c.aT.z
     ·rw[aa g1,aa g2,aa S,aa ⟨M,g1,g2,Zgo.2 S⟩]
     ·rw[aa g1,aa g2,ab S,ab λg=>S (Zgo.1 g.2.2.2)]
    ·rw[aa g1,ab g2,ab λg=>g2 g.2.2.1]
   ·rw[ab g1,ab λg=>g1 g.2.1]
  refine main _ ?_;rw[<-G,<-N];rw[Zgc,ac,e1,ag,hr];simp only[go_sem,V,U,aa T,aa L];rw[aa];simp only[jb]
theorem Zqu (x:Ax3) (w d:Pt):Nr (AK x++[I w.x,I w.y,I w.z,I d.x,I d.y,I d.z])=some [I (C6 x w d)]:=by
 have he:=Zln x.a.step x.a.aS x.a.bD x.a.bE x.a.low x.a.aY x.a.bB x.a.aV x.a.aO (x.a.aW.map At) x.b.step x.b.aS x.b.bD x.b.bE x.b.low x.b.aY x.b.bB x.b.aV x.b.aO (x.b.aW.map At) x.c.step x.c.aS x.c.bD x.c.bE x.c.low x.c.aY x.c.bB x.c.aV x.c.aO (x.c.aW.map At) w.x w.y w.z d.x d.y d.z;unfold Nr;refine dc he ?_;unfold C6 slk;simp only[go_sem,Ow]
 (repeat' split)<;>first|rfl|(exfalso;omega)
theorem Ykl (n a b:Pt) {mv:Int} (D:mv=1\/mv= -1):OH [I n.x,I n.y,I n.z,I a.x,I a.y,I a.z,I b.x,I b.y,I b.z,I mv]=some (ptR (D9 n a b mv)):=by
 unfold OH;rw[Zn2];have e:O (0-mv)= -mv:=by rw[Ad];omega
 unfold D9 Uj;simp only[go_sem,e]
 (repeat' split)<;>first|rfl|(exfalso;omega)
theorem Wb {n D:Int}:Ht [I n,I D]=some [I (BC n D)]:=by
 unfold Ht;rw[Zzq];simp only[Kl,Ow];rfl
theorem Zkd {x:Ax3} {s aR:Int} {n m k:Int} (T:Ax3OK x) (h:TB t n m) (X:n<=9000000) (Y:m<=900000000000000000) (hk:k<=900000000000000000) (O:0<=aR/\aR<=k)
  (U:Z [I q.x,I q.y,I q.z,I a.x,I a.y,I a.z,I b.x,I b.y,I b.z,I u]=some (ptR (D9 q a b u))) (V:∀w d:Pt,M (AK x++[I w.x,I w.y,I w.z,I d.x,I d.y,I d.z])=some [I (C6 x w d)])
  (N : ∀ {t : Trk} {c : Pce} {n m k : Int}, TB t n m -> n <= 10000000 -> m <= 1000000000000000000 -> k <= 1000000000000000000 -> (0 <= c.aR /\ c.aR <= k) ->
   W [.vC Ap (t.aE.map AZ),I c.at_,I c.aR,I c.s,I c.bC,I c.was.x,I c.was.y,I c.was.z,I c.aT.x,I c.aT.y,I c.aT.z,I t.length,I t.aQ,I t.aT.x,I t.aT.y,I t.aT.z]=some (Bu (FV t c))):
  Qtp M Z W (.vC Ap (t.aE.map AZ)::I a.x::I a.y::I a.z::I b.x::I b.y::I b.z::I s::I aR::I q.x::I q.y::I q.z::I u::(AK x++[I t.length,I t.aQ,I t.aT.x,I t.aT.y,I t.aT.z]))=
   some (.vC Ap ((CE x u a b s aR (t, q)).1.aE.map AZ) :: I (CE x u a b s aR (t, q)).2.x :: I (CE x u a b s aR (t, q)).2.y :: I (CE x u a b s aR (t, q)).2.z :: I u :: (AK x ++
    [I (CE x u a b s aR (t,q)).1.length,I (CE x u a b s aR (t,q)).1.aQ,I (CE x u a b s aR (t,q)).1.aT.x,I (CE x u a b s aR (t,q)).1.aT.y,I (CE x u a b s aR (t,q)).1.aT.z])):=by
 have he:=Ya1 M Z W (t.aE.map AZ) a.x a.y a.z b.x b.y b.z s aR q.x q.y q.z u x.a.step x.a.aS x.a.bD x.a.bE x.a.low x.a.aY x.a.bB x.a.aV x.a.aO (x.a.aW.map At) x.b.step x.b.aS x.b.bD x.b.bE x.b.low x.b.aY x.b.bB x.b.aV x.b.aO (x.b.aW.map At) x.c.step x.c.aS x.c.bD x.c.bE x.c.low x.c.aY x.c.bB x.c.aV x.c.aO (x.c.aW.map At) t.length t.aQ t.aT.x t.aT.y t.aT.z;refine dc he ?_;have hs:=TY T q (D9 q a b u);have G:=V q (D9 q a b u);simp only[AK,ay,az]at G⊢;unfold CE;simp only;generalize D9 q a b u=D at*;simp only[U,go_sem,G];by_cases c:C6 x q D>0
 ·have S:=N (c:=⟨0,C6 x q D,s,0,q,D⟩) h (by omega) (by omega) (k:=1000) (by omega) (by simp only;omega);have hb:=Quu (k:=1000) h (c:=⟨0,C6 x q D,s,0,q,D⟩) (by simp only;omega);have L:=N (c:=⟨0,aR,s,u,D,D⟩) hb (by omega) (by omega) (k:=k) (by omega) O;simp only at S L;rw[aa c,aa c];simp only[S,Bu,go_sem,L]
 ·have L:=N (c:=⟨0,aR,s,u,D,D⟩) h (by omega) (by omega) (k:=k) (by omega) O;simp only at L;rw[ab c,ab c];simp only[L,Bu,go_sem]
theorem Z4d {x:Ax3} {s aR:Int} {n m k:Int} (D:u=1\/u= -1) (G:Ax3OK x) (h:TB t n m) (L:n<=9000000) (M:m<=900000000000000000) (N:k<=900000000000000000) (O:0<=aR/\aR<=k):
  FW (.vC Ap (t.aE.map AZ)::I a.x::I a.y::I a.z::I b.x::I b.y::I b.z::I s::I aR::I q.x::I q.y::I q.z::I u::(AK x++[I t.length,I t.aQ,I t.aT.x,I t.aT.y,I t.aT.z]))=
   some (.vC Ap ((CE x u a b s aR (t, q)).1.aE.map AZ) :: I (CE x u a b s aR (t, q)).2.x :: I (CE x u a b s aR (t, q)).2.y :: I (CE x u a b s aR (t, q)).2.z :: I u :: (AK x ++
    [I (CE x u a b s aR (t,q)).1.length,I (CE x u a b s aR (t,q)).1.aQ,I (CE x u a b s aR (t,q)).1.aT.x,I (CE x u a b s aR (t,q)).1.aT.y,I (CE x u a b s aR (t,q)).1.aT.z])):=
 Zkd G h L M N O (Ykl q a b D) (Zqu x) λS T U V X=>Z6u S T U V X
def Fz (l:List Sgm) (j:Nat):Rw:=(List.range j).map λi=>[I (AD l i)]
theorem Tn (l:List Sgm) (j:Nat):(Fz l j).length=j:=by simp[Fz]
theorem Zto (l:List Sgm) (j:Nat):Fz l (j+1)=Fz l j++[[I (AD l j)]]:=by unfold Fz;rw[List.range_succ,bn];rfl
theorem Yf5 {l:List Sgm} {n i:Nat} (h:i<n):nth [] (Fz l n) i=[I (AD l i)]:=by
 have D:i<(Fz l n).length:=by rw[Tn];exact h
 rw[Fx [] _ i D];simp[Fz]
abbrev Rx (p:Pth) (x:Ax3) (lo D mv:Int) (t:Trk) (now:Pt) (at_:Int) (G:Rw) (j:Nat):List AC:=
 [.vC Aa G, .vC Ap (t.aE.map AZ),I lo,I D,I mv,I at_, .vC Ag (p.aF.map Az),I p.aF.length,I j,I p.aQ.x,I p.aQ.y,I p.aQ.z, .vC Ag (p.aF.map Az), .vC AA (p.aD.map Aq),I now.x,I now.y,I now.z,I mv,I x.a.step,I x.a.aS,I x.a.bD,I x.a.bE,I x.a.low,I x.a.aY,I x.a.bB,I x.a.aV,I x.a.aO, .vC Aa (x.a.aW.map At),I x.b.step,I x.b.aS,I x.b.bD,I x.b.bE,I x.b.low,I x.b.aY,I x.b.bB,I x.b.aV,I x.b.aO, .vC Aa (x.b.aW.map At),I x.c.step,I x.c.aS,I x.c.bD,I x.c.bE,I x.c.low,I x.c.aY,I x.c.bB,I x.c.aV,I x.c.aO, .vC Aa (x.c.aW.map At),I t.length,I t.aQ,I t.aT.x,I t.aT.y,I t.aT.z]
theorem Q9g {M:Fn} {p:Pth} {x:Ax3} {lo hi mv:Int} {t:Trk} {now:Pt} (h:SegOK p.aF):∀(k j:Nat),j+k=p.aF.length->
  Al (U8 M) (Rx p x lo hi mv t now (AD p.aF j) (Fz p.aF j) j)=some (1,[.vC Aa (Fz p.aF p.aF.length), .vC Ap (t.aE.map AZ),I lo,I hi,I mv,I p.aQ.x,I p.aQ.y,I p.aQ.z, .vC Ag (p.aF.map Az), .vC AA (p.aD.map Aq),I now.x,I now.y,I now.z,I mv,I x.a.step,I x.a.aS,I x.a.bD,I x.a.bE,I x.a.low,I x.a.aY,I x.a.bB,I x.a.aV,I x.a.aO, .vC Aa (x.a.aW.map At),I x.b.step,I x.b.aS,I x.b.bD,I x.b.bE,I x.b.low,I x.b.aY,I x.b.bB,I x.b.aV,I x.b.aO, .vC Aa (x.b.aW.map At),I x.c.step,I x.c.aS,I x.c.bD,I x.c.bE,I x.c.low,I x.c.aY,I x.c.bB,I x.c.aV,I x.c.aO, .vC Aa (x.c.aW.map At),I t.length,I t.aQ,I t.aT.x,I t.aT.y,I t.aT.z])
 |0,j,T=>by
  have G:j=p.aF.length:=by omega
  refine AJ (o:=(1,_)) ?_ (by simp);rw[Q4o,AQ (by omega),G]
 |k+1,j,T=>by
  have D:j<p.aF.length:=by omega
  have N:=h.count;have S:=Qoo h j (by omega);have U:=h.seg _ (H4 D);have L:U8 M (Rx p x lo hi mv t now (AD p.aF j) (Fz p.aF j) j)=some (0,Rx p x lo hi mv t now (AD p.aF (j+1)) (Fz p.aF (j+1)) (j+1)):=by
   have hle:(Fz p.aF j++[[I (AD p.aF j)]]).length*8<=140737488355328:=by rw[ap,Tn];simp only[ba,bv];omega
   have e1:O ((j:Int)+1)=((j+1:Nat):Int):=by rw[Ad];omega
   rw[Q4o];simp only[go_sem,ac,ag,Lb D,aa hle,e1,Zto];rw[aa,aa,Ad (x:=AD p.aF j+(sgA p.aF j).len),QW D]
  rw[AS L];exact Q9g h k (j+1) (by omega)
abbrev Qc (p:Pth) (x:Ax3) (lo D mv:Int) (t:Trk) (now:Pt) (j:Nat):List AC:=
 [.vC Aa (Fz p.aF p.aF.length), .vC Ap (t.aE.map AZ),I lo,I D,I mv,I p.aF.length,I j,I p.aQ.x,I p.aQ.y,I p.aQ.z, .vC Ag (p.aF.map Az), .vC AA (p.aD.map Aq),I now.x,I now.y,I now.z,I mv,I x.a.step,I x.a.aS,I x.a.bD,I x.a.bE,I x.a.low,I x.a.aY,I x.a.bB,I x.a.aV,I x.a.aO, .vC Aa (x.a.aW.map At),I x.b.step,I x.b.aS,I x.b.bD,I x.b.bE,I x.b.low,I x.b.aY,I x.b.bB,I x.b.aV,I x.b.aO, .vC Aa (x.b.aW.map At),I x.c.step,I x.c.aS,I x.c.bD,I x.c.bE,I x.c.low,I x.c.aY,I x.c.bB,I x.c.aV,I x.c.aO, .vC Aa (x.c.aW.map At),I t.length,I t.aQ,I t.aT.x,I t.aT.y,I t.aT.z]
abbrev F5 (x:Ax3) (mv:Int) (t:Trk) (now:Pt):List AC:=[.vC Ap (t.aE.map AZ),I now.x,I now.y,I now.z,I mv,I x.a.step,I x.a.aS,I x.a.bD,I x.a.bE,I x.a.low,I x.a.aY,I x.a.bB,I x.a.aV,I x.a.aO, .vC Aa (x.a.aW.map At),I x.b.step,I x.b.aS,I x.b.bD,I x.b.bE,I x.b.low,I x.b.aY,I x.b.bB,I x.b.aV,I x.b.aO, .vC Aa (x.b.aW.map At),I x.c.step,I x.c.aS,I x.c.bD,I x.c.bE,I x.c.low,I x.c.aY,I x.c.bB,I x.c.aV,I x.c.aO, .vC Aa (x.c.aW.map At),I t.length,I t.aQ,I t.aT.x,I t.aT.y,I t.aT.z]
theorem Z8e {MV:Fn} {x:Ax3} {lo hi mv:Int} {now:Pt} {n m:Int} (hv:mv=1\/mv= -1) (hp:GoodPath p) (hx:Ax3OK x) (h:TB t n m) (hn:n<=9000000) (hm:m<=900000000000000000)
  (hj:j<p.aF.length)
  (hV:∀{a b:Pt} {s aR:Int},(0<=aR/\aR<=268435456)->MV [.vC Ap (t.aE.map AZ),I a.x,I a.y,I a.z,I b.x,I b.y,I b.z,I s,I aR,I now.x,I now.y,I now.z,I mv,I x.a.step,I x.a.aS,I x.a.bD,I x.a.bE,I x.a.low,I x.a.aY,I x.a.bB,I x.a.aV,I x.a.aO, .vC Aa (x.a.aW.map At),I x.b.step,I x.b.aS,I x.b.bD,I x.b.bE,I x.b.low,I x.b.aY,I x.b.bB,I x.b.aV,I x.b.aO, .vC Aa (x.b.aW.map At),I x.c.step,I x.c.aS,I x.c.bD,I x.c.bE,I x.c.low,I x.c.aY,I x.c.bB,I x.c.aV,I x.c.aO, .vC Aa (x.c.aW.map At),I t.length,I t.aQ,I t.aT.x,I t.aT.y,I t.aT.z]=some (F5 x mv (CE x mv a b s aR (t,now)).1 (CE x mv a b s aR (t,now)).2)):
  Vs MV N (Qc p x lo hi mv t now j)=some (0,Qc p x lo hi mv (IV p x mv lo hi (EA p.aF.length mv j) (t,now)).1 (IV p x mv lo hi (EA p.aF.length mv j) (t,now)).2 (j+1)):=by
 have T:=hp.ok;have a1:=T.count;have M:=Yd mv hj;have G:(mv=1/\EA p.aF.length mv j=j)\/(mv= -1/\EA p.aF.length mv j=p.aF.length-1-j):=by
  unfold EA;rcases hv with rfl|rfl
  ·exact .inl ⟨rfl,ab⟩
  ·exact .inr ⟨rfl,aa⟩
 obtain⟨i,a0⟩:∃i,EA p.aF.length mv j=i:=⟨_,rfl⟩;rw[a0]at M G⊢;have L:i<p.aF.length:=M;have hg:=T.seg _ (H4 L);have hr:=Lb L;have hb:=Yf5 (l:=p.aF) L;have a2:=Qoo T i (by omega);have U:=QW L;have V:(0:Int)<=(i:Nat)/\(i:Int)<(p.aF.length:Int):=by omega
 have S:(j:Int)<(p.aF.length:Int):=by omega
 have e1:O ((j:Int)+1)=((j+1:Nat):Int):=by rw[Ad];omega
 have hI:O (O ((p.aF.length:Int)-1)-(j:Int))=((p.aF.length-1-j:Nat):Int):=by rw[Ad (x:=(p.aF.length:Int)-1),Ad];omega
 have hw:O (AD p.aF i+(sgA p.aF i).len)=AD p.aF (i+1):=by rw[U,Ad]
 have X:max (AD p.aF i) lo<min (AD p.aF (i+1)) hi->O (min (AD p.aF (i+1)) hi-max (AD p.aF i) lo)=min (AD p.aF (i+1)) hi-max (AD p.aF i) lo:=λ_=>Ad;have hd:max (AD p.aF i) lo<min (AD p.aF (i+1)) hi->0<=min (AD p.aF (i+1)) hi-max (AD p.aF i) lo/\min (AD p.aF (i+1)) hi-max (AD p.aF i) lo<=268435456:=λ_=>by omega
 have Y:i≠0->O ((i:Int)-1)=((i-1:Nat):Int)/\((0:Int)<=((i-1:Nat):Int)/\((i-1:Nat):Int)<(p.aF.length:Int))/\nth [] (p.aF.map Az) (i-1)=Az (sgA p.aF (i-1))/\E9 p.aQ p.aF i=(sgA p.aF (i-1)).to:=by
  intro h0;refine⟨by rw[Ad];omega,by omega,Lb (by omega),?_⟩;obtain⟨q,rfl⟩:∃q,i=q+1:=⟨i-1,by omega⟩;exact T7 (by omega)
 unfold IV;rw[Zek];rcases G with⟨rfl,rfl⟩|⟨rfl,ei⟩
 ·simp only[go_sem,ac,Tn,ag,hr,hb,aa V,aa S,Ow,Kl,hw,e1];rw[ab];by_cases c:max (AD p.aF i) lo<min (AD p.aF (i+1)) hi
  ·rw[ab,aa c,X c];by_cases c0:i=0
   ·rw[ab];have D:=hV (a:=p.aQ) (b:=(sgA p.aF i).to) (s:=max (AD p.aF i) lo) (hd c);subst c0;rw[J2];rw[ab,D];simp only[F5,go_sem];rfl
   ·obtain⟨k1,k2,k3,k4⟩:=Y c0;rw[aa,k1];have D:=hV (a:=(sgA p.aF (i-1)).to) (b:=(sgA p.aF i).to) (s:=max (AD p.aF i) lo) (hd c);rw[k4];simp only[ag,k3,go_sem,aa k2];rw[ab,D];simp only[F5,go_sem];rfl
  ·rw[aa,ab c]
 ·rw[<-ei]at hI;simp only[go_sem,ac,Tn,hI,ag,hr,hb,aa V,aa S,Ow,Kl,hw,e1];rw[aa];by_cases c:max (AD p.aF i) lo<min (AD p.aF (i+1)) hi
  ·rw[ab,aa c,X c];by_cases c0:i=0
   ·rw[ab];have D:=hV (a:=p.aQ) (b:=(sgA p.aF i).to) (s:=min (AD p.aF (i+1)) hi) (hd c);subst c0;rw[J2];rw[aa,D];simp only[F5,go_sem];rfl
   ·obtain⟨k1,k2,k3,k4⟩:=Y c0;rw[aa,k1];have D:=hV (a:=(sgA p.aF (i-1)).to) (b:=(sgA p.aF i).to) (s:=min (AD p.aF (i+1)) hi) (hd c);rw[k4];simp only[ag,k3,go_sem,aa k2];rw[aa,D];simp only[F5,go_sem];rfl
  ·rw[aa,ab c]
def pcA (l:List Pce) (i:Nat):Pce:=l.getD i pc0
def eI (l:List Pce) (i:Nat):Int:=(pcA l i).at_+(pcA l i).aR
def fI:List Pce->Int->Nat
 |[],_=>0
 |c::l,u=>if u<=c.at_+c.aR then 0 else fI l u+1
theorem HK (c:Pce) (l:List Pce) (i:Nat):pcA (c::l) (i+1)=pcA l i:=by unfold pcA;simp
theorem J6 (c:Pce) (l:List Pce):pcA (c::l) 0=c:=by unfold pcA;simp
theorem Us {l:List Pce} (h:i<l.length):nth [] (l.map AZ) i=AZ (pcA l i):=by
 have e:pcA l i=l[i]:=by unfold pcA;simp[h]
 rw[e];exact Em _ _ _ _ h
theorem U0:∀{l:List Pce} {u:Int} {j:Nat},j<l.length->u<=eI l j->fI l u<=j
 |c::l,u,0,_,h=>by
  unfold eI at h;rw[J6]at h;unfold fI;rw[aa h];exact cg _
 |c::l,u,j+1,G,h=>by
  unfold fI;by_cases D:u<=c.at_+c.aR
  ·rw[aa D];omega
  ·rw[ab D];have:fI l u<=j:=U0 (by simpa using G) (by unfold eI at h⊢;rw[HK]at h;exact h);omega
theorem Q69:∀{l:List Pce} {u:Int},fI l u<l.length->u<=eI l (fI l u)
 |[],_,h=>by simp at h
 |c::l,u,h=>by
  unfold fI at h⊢;by_cases D:u<=c.at_+c.aR
  ·rw[aa D];unfold eI;rw[J6];exact D
  ·rw[ab D]at h⊢;have:=Q69 (l:=l) (u:=u) (by simpa using h);unfold eI at this⊢;rw[HK];exact this
structure TQ (t : Trk) : Prop where
 count:t.aE.length<=10000000
 len:0<=t.length/\t.length<=900000000000000
 pos:∀i,i<t.aE.length->0<=(pcA t.aE i).at_/\1<=(pcA t.aE i).aR/\eI t.aE i<=t.length
 mono:∀i j,i<=j->j<t.aE.length->eI t.aE i<=eI t.aE j
 last:t.aE≠[]->eI t.aE (t.aE.length-1)=t.length
 aQ:0<=t.aQ/\t.aQ<=263886834032640
 s:∀i,i<t.aE.length-> -900000000000000<=(pcA t.aE i).s/\(pcA t.aE i).s<=2000000000000000
 bC:∀i,i<t.aE.length->(pcA t.aE i).bC=0\/(pcA t.aE i).bC=1\/(pcA t.aE i).bC= -1
def clT (t:Trk) (u:Int):Int:=BC u t.length
theorem OP (h:TQ t) (u:Int):0<=clT t u/\clT t u<=t.length:=by have:=h.len;unfold clT BC;omega
def iT (t:Trk) (u:Int):Nat:=fI t.aE (clT t u)
theorem Mm (h:TQ t) (u:Int) (D:t.aE≠[]):iT t u<t.aE.length:=by
 have I:0<t.aE.length:=by
  cases G:t.aE with
  |nil=>exact absurd G D
  |cons _ _=>simp
 have:=U0 (l:=t.aE) (u:=clT t u) (j:=t.aE.length-1) (by omega) (by rw[h.last D];exact(OP h u).2);unfold iT;omega
def A6 (t:Trk) (u:Int):Int:=if t.aE=[]then t.aQ else(pcA t.aE (iT t u)).s+(pcA t.aE (iT t u)).bC*(clT t u-(pcA t.aE (iT t u)).at_)
theorem Qcb {t:Trk} (h:TQ t) {u:Int} (D:fI t.aE u<t.aE.length):∀(k lo D:Nat),D-lo<=k->lo<=fI t.aE u->fI t.aE u<=D->D<t.aE.length->
  Al Ti [I u,I lo,I D, .vC Ap (t.aE.map AZ),I t.length,I t.aQ,I t.aT.x,I t.aT.y,I t.aT.z]=some (1,[I (fI t.aE u)])
 |k,lo,D,hk,U,V,X=>by
  have T:=h.count;have hl:=h.len;by_cases c:lo<D
  ·have em:O ((O ((lo:Int)+D)).tdiv 2)=(((lo+D)/2:Nat):Int):=by
    rw[Ad (x:=(lo:Int)+D),cz (by omega),Ad];omega
   have Y:lo<=(lo+D)/2/\(lo+D)/2<D:=by omega
   generalize(lo+D)/2=m at*;have G:m<t.aE.length:=by omega
   have M:=h.pos m G;have S:(0:Int)<=(m:Int)/\(m:Int)<(t.aE.length:Int):=by omega
   have hw:O ((pcA t.aE m).at_+(pcA t.aE m).aR)=eI t.aE m:=by unfold eI at M⊢;exact Ad
   have L:Ti [I u,I lo,I D, .vC Ap (t.aE.map AZ),I t.length,I t.aQ,I t.aT.x,I t.aT.y,I t.aT.z]=if u<=eI t.aE m then some (0,[I u,I lo,I m, .vC Ap (t.aE.map AZ),I t.length,I t.aQ,I t.aT.x,I t.aT.y,I t.aT.z])else some (0,[I u,I (m+1:Nat),I D, .vC Ap (t.aE.map AZ),I t.length,I t.aQ,I t.aT.x,I t.aT.y,I t.aT.z]):=by
    rw[Qgq,em];simp only[go_sem,ac,ag,Us G,aa S,hw,Ad (x:=(m:Int)+1)];rw[aa];rfl
   by_cases N:u<=eI t.aE m
   ·rw[aa N]at L;rw[AS L];cases k with
    |zero=>omega
    |succ k=>exact Qcb h (by omega) k lo m (by omega) U (U0 G N) G
   ·rw[ab N]at L;rw[AS L];have a0:m<fI t.aE u:=by
     by_cases c3:fI t.aE u<=m
     ·exact absurd (Int.le_trans (Q69 (by omega)) (h.mono _ _ c3 G)) N
     ·omega
    cases k with
    |zero=>omega
    |succ k=>exact Qcb h (by omega) k (m+1) D (by omega) (by omega) V X
  ·refine AJ (o:=(1,_)) ?_ (by simp);rw[Qgq,AQ (by omega),show fI t.aE u=D by omega]
theorem Q3b (h:TQ t) (u:Int):Jg (Bu t++[I (clT t u)])=some [I (if t.aE=[]then-1 else(iT t u:Int))]:=by
 have he:=Yil Mt (t.aE.map AZ) t.length t.aQ t.aT.x t.aT.y t.aT.z (clT t u);unfold Jg;refine dc he ?_;rw[ac];have L:=h.count;by_cases c:t.aE=[]
 ·have D:Mt [I (clT t u),I 0,I (-1), .vC Ap (t.aE.map AZ),I t.length,I t.aQ,I t.aT.x,I t.aT.y,I t.aT.z]=some (1,[I (-1)]):=by
   refine AJ (o:=(1,_)) ?_ (by simp);rw[Qgq,AQ (by omega)]
  have e1:O ((t.aE.length:Int)-1)= -1:=by rw[c];rfl
  rw[aa c,e1];generalize Mt=N at*;simp only[D,go_sem]
 ·have T:0<t.aE.length:=by
   cases S:t.aE with
   |nil=>exact absurd S c
   |cons _ _=>simp
  have M:=Mm h u c;have D:=Qcb h (u:=clT t u) M t.aE.length 0 (t.aE.length-1) (by omega) (by omega) (by unfold iT at M;omega) (by omega);have G:Mt [I (clT t u),I 0,I (t.aE.length-1:Nat), .vC Ap (t.aE.map AZ),I t.length,I t.aQ,I t.aT.x,I t.aT.y,I t.aT.z]=some (1,[I (iT t u:Int)]):=D;have e1:O ((t.aE.length:Int)-1)=((t.aE.length-1:Nat):Int):=by rw[Ad];omega
  rw[ab c,e1];generalize Mt=N at*;simp only[G,go_sem]
theorem Z26 (h:TQ t) (u:Int) (D:t.aE≠[]):
  O ((pcA t.aE (iT t u)).s+O ((pcA t.aE (iT t u)).bC*O (clT t u-(pcA t.aE (iT t u)).at_)))=A6 t u:=by
 have I:=Mm h u D;have L:=h.pos _ I;have M:=h.s _ I;have G:=h.bC _ I;have N:=OP h u;have S:=h.len;unfold A6 eI at*;rw[ab D,Ad (x:=clT t u-_)];generalize pcA t.aE (iT t u)=c at*;have hb:(-900000000000000<=c.bC*(clT t u-c.at_)/\c.bC*(clT t u-c.at_)<=900000000000000):=by
  rcases G with G|G|G<;>rw[G]<;>omega
 rw[Ad (x:=c.bC*_),Ad]
theorem Zmd (h:TQ t) {u:Int} (L:Z [I u,I t.length]=some [I (clT t u)]) (D:M (Bu t++[I (clT t u)])=some [I (if t.aE=[]then-1 else(iT t u:Int))]):Qqg M Z (Bu t++[I u])=some [I (A6 t u)]:=by
 have he:=Z1d M Z (t.aE.map AZ) t.length t.aQ t.aT.x t.aT.y t.aT.z u;refine dc he ?_;simp only[Bu,ay,az]at D;by_cases c:t.aE=[]
 ·rw[aa c]at D;simp only[L,D,go_sem];rw[aa];unfold A6;rw[aa c]
 ·have O:=Mm h u c;have N:=h.count;have G:(0:Int)<=(iT t u:Int)/\(iT t u:Int)<(t.aE.length:Int):=by omega
  rw[ab c]at D;simp only[L,D,go_sem,ac,aa G,ag,Us O,Z26 h u c];rw[ab]
theorem VL (h:TQ t) (u:Int):ES (Bu t++[I u])=some [I (A6 t u)]:=Zmd h Wb (Q3b h u)
end Go.Bm
