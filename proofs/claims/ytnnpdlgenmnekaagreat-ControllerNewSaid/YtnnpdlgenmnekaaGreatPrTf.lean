/- laid together -/
import Derived.Test.YtnnpdlgenmnekaaGreatPrV
import Derived.Test.YtnnpdlgenmnekaaGreatMx2
set_option linter.unusedVariables false
set_option linter.unusedSimpArgs false
set_option maxRecDepth 100000
open Go.IntKind (wrap)
variable {i A j:Nat} {a b q:Go.Bm.Pt} {p:Go.Bm.Pth} {M Z Y W V S Q:Go.Bm.Fn} {k u v r:Int} {N:Go.Bm.Lp} {t:Go.Bm.Trk} {L:List Go.Bm.Itm} {D:Go.Bm.Itm}
namespace Go.Bm
theorem Zcn (p:Pt):KY [I p.x,I p.y,I p.z]=some [B (decide (bd 1048576 p))]:=by
 unfold KY;rw[Zc0];simp only[go_sem];by_cases h:bd 1048576 p
 ·obtain⟨M,N,O⟩:=h;rw[ab,ab,ab,ab,ab,ab];congr 3;symm;exact ah ⟨M,N,O⟩
 ·have e:decide (bd 1048576 p)=false:=aj h;rw[e];unfold bd at h;by_cases D:p.x< -1048576
  ·rw[aa D]
  rw[ab D];by_cases E:p.x>1048576
  ·rw[aa E]
  rw[ab E];by_cases G:p.y< -1048576
  ·rw[aa G]
  rw[ab G];by_cases J:p.y>1048576
  ·rw[aa J]
  rw[ab J];by_cases L:p.z< -1048576
  ·rw[aa L]
  rw[ab L,aa]
def axI (pl:Int):Int×Int×Int:=if pl=17 then(0,1,2)else if pl=18 then(2,0,1)else if pl=19 then(1,2,0)else(0,0,0)
theorem Qad (pl:Int):EL [I pl]=some [I (axI pl).1,I (axI pl).2.1,I (axI pl).2.2,B (decide (BL pl))]:=by
 unfold EL;rw[Zog];simp only[go_sem];unfold axI BL;by_cases D:pl=17
 ·rw[aa D,aa D];simp[D]
 rw[ab D,ab D];by_cases E:pl=18
 ·rw[aa E,aa E];simp[E]
 rw[ab E,ab E];by_cases G:pl=19
 ·rw[aa G,aa G];simp[G]
 rw[ab G,ab G];simp[D,E,G]
theorem Zs0 (E:∀pl:Int,M [I pl]=some [I (axI pl).1,I (axI pl).2.1,I (axI pl).2.2,B (decide (BL pl))]) {p:Pt} {pl:Int} (D:BL pl):
  Sl M [I p.x,I p.y,I p.z,I pl]=some [I (plU pl p),I (plW pl p),I (plH pl p)]:=by
 rw[Zuf];simp only[go_sem,E];rw[ab (by simpa using D)];rcases D with rfl|rfl|rfl<;>rfl
theorem Qog (D:BL k):GL [I a.x,I a.y,I a.z,I k]=some [I (plU k a),I (plW k a),I (plH k a)]:=Zs0 Qad D
def At (p:Pt):Pt:=⟨p.x*16,p.y*16,p.z*16⟩
theorem Fb (h:bd i a):bd (i*16) (At a):=by
 obtain⟨D,E,G⟩:=h;unfold At;exact⟨by simp only;omega,by simp only;omega,by simp only;omega⟩
theorem Q5 (pl:Int) (p:Pt):plU pl (At p)=plU pl p*16/\plW pl (At p)=plW pl p*16/\plH pl (At p)=plH pl p*16:=by
 unfold plU plW plH At;refine⟨?_,?_,?_⟩<;>split<;>(try split)<;>rfl
theorem Quu (h:bd 100000000 a):Gl [I a.x,I a.y,I a.z]=some (ptR (At a)):=by
 unfold Gl;rw[Zbk];obtain⟨D,E,G⟩:=h;rw[Ae,Ae,Ae];rfl
theorem YL (h:bd 100000000 a):DE [I a.x,I a.y,I a.z]=some (ptR (At a)):=by
 unfold DE;rw[Q78];obtain⟨D,E,G⟩:=h;rw[Ae,Ae,Ae];rfl
theorem Qdk {u w r h x y s g:Int} (D:u.natAbs<=1000000000) (E:w.natAbs<=1000000000) (G:x.natAbs<=1000000000) (J:y.natAbs<=1000000000):Fz [I u,I w,I r,I h,I x,I y,I s,I g]=some [I (dt2 u w x y)]:=by
 unfold Fz;rw[Zkj];have L:=D6 D G;have M:=D6 E J;unfold dt2;rw[Ae (x:=u*x),Ae (x:=w*y),Ae]
theorem Qf0 {u w r h x y s g:Int} (D:u.natAbs<=1000000000) (E:w.natAbs<=1000000000) (G:x.natAbs<=1000000000) (J:y.natAbs<=1000000000):FW [I u,I w,I r,I h,I x,I y,I s,I g]=some [I (crs u w x y)]:=by
 unfold FW;rw[Zbo];have L:=D6 D J;have M:=D6 E G;unfold crs;rw[Ae (x:=u*y),Ae (x:=w*x),Ae]
theorem Q5d (J:∀{a b c d:Int},i64 a->i64 b->i64 c->i64 d->M [I a,I b,I c,I d]=some [I (EM (a*b) (c*d))]) {X Y:Int} (L:64<=X/\X<=1000000000000000) (N:64<=Y/\Y<=1000000000000000):
  ∃v,U0 M [I X,I Y]=some [B v]/\(v=true↔Er X Y):=by
 rw[Zeq,Q49 L.1 N.1];have E:mx X Y=max X Y:=by unfold mx;rw[Int.max_def];split<;>split<;>omega
 have G:mn X Y=min X Y:=by unfold mn;rw[Int.min_def];split<;>split<;>omega
 have O:max X Y<=1000000000000000/\64<=max X Y:=by omega
 have S:min X Y<=1000000000000000/\64<=min X Y:=by omega
 rw[E,G];generalize max X Y=a at*;generalize min X Y=b at*;simp only[go_sem];rw[Ae (x:=a-b),Ae (x:=a-b-16)];by_cases D:a-b-16<=0
 ·rw[aa D];exact⟨_,rfl,fj rfl (.inl D)⟩
 ·rw[ab D,J (by unfold i64;omega) (by unfold i64;omega) (by unfold i64;omega) (by unfold i64;omega)];refine⟨_,rfl,?_⟩;simp only[go_sem,bp,Qwn];exact⟨λh=> .inr h,λh=>h.resolve_left D⟩
theorem Q77 (D:64<=k/\k<=1000000000000000) (E:64<=u/\u<=1000000000000000):∃v,NU [I k,I u]=some [B v]/\(v=true↔Er k u):=Q5d Zqm D E
theorem Zmy (G:∀p:Pt,M [I p.x,I p.y,I p.z,I D.aG]=some [I (plU D.aG p),I (plW D.aG p),I (plH D.aG p)]) (J:∀{p:Pt},bd 100000000 p->Z [I p.x,I p.y,I p.z]=some (ptR (At p)))
  (S:bd 1048576 D.fr) (T:bd 1048576 D.to) (U:bd 1048576 D.ce):
  Vh M Z (An (Qjh M Z)) (Ag D)=some [I (dU D D.fr*16),I (dW D D.fr*16),I 0,I (plH D.aG D.fr*16),I (dU D D.to*16),I (dW D D.to*16),I 0,I (plH D.aG D.to*16)]:=by
 rw[Zi8];obtain⟨q1,q2,q3⟩:=EC (pl:=D.aG) S;obtain⟨q4,q5,q6⟩:=EC (pl:=D.aG) T;obtain⟨q7,q8,q9⟩:=EC (pl:=D.aG) U;simp only[J (AP U (by omega)),G,go_sem];have w0:O (0+1)=1:=Ae;have V:O (1+1)=2:=Ae;have L:=Q5 D.aG D.fr;have N:=Q5 D.aG D.to;have E:=Q5 D.aG D.ce;have X:O (plU D.aG (At D.fr)-plU D.aG (At D.ce))=dU D D.fr*16:=by rw[L.1,E.1];unfold dU;rw[Ae];omega
 have Y:O (plW D.aG (At D.fr)-plW D.aG (At D.ce))=dW D D.fr*16:=by rw[L.2.1,E.2.1];unfold dW;rw[Ae];omega
 have u3:O (plU D.aG (At D.to)-plU D.aG (At D.ce))=dU D D.to*16:=by rw[N.1,E.1];unfold dU;rw[Ae];omega
 have u4:O (plW D.aG (At D.to)-plW D.aG (At D.ce))=dW D D.to*16:=by rw[N.2.1,E.2.1];unfold dW;rw[Ae];omega
 have b1:bd 100000000 D.fr:=AP S (by omega);have b2:bd 100000000 D.to:=AP T (by omega);have e1:=J b1;have e2:=J b2;rw[AR (by rw[Qhx];simp only[go_sem,e1,e2,G,X,Y,w0];rfl),AR (by rw[Qhx];simp only[go_sem,e1,e2,G,u3,u4,V];rfl),
  AG (o:=(1,_)) (by rw[Qhx];simp only[go_sem];rfl) (by simp)]
 simp only[go_sem,L.2.2,N.2.2]
theorem Q1q (E:BL D.aG) (G:bd 1048576 D.fr) (J:bd 1048576 D.to) (L:bd 1048576 D.ce):
  IK (Ag D)=some [I (dU D D.fr*16),I (dW D D.fr*16),I 0,I (plH D.aG D.fr*16),I (dU D D.to*16),I (dW D D.to*16),I 0,I (plH D.aG D.to*16)]:=
 Zmy (λ_=>Qog E) Quu G J L
theorem Zuw {N:Fn} {X Y C D L S M T:Int} {bG:Bool} (hX:0<=X/\X<=1000000000000000) (hY:0<=Y/\Y<=1000000000000000)
  (hN:∀{X Y:Int},(64<=X/\X<=1000000000000000)->(64<=Y/\Y<=1000000000000000)->∃v,N [I X,I Y]=some [B v]/\(v=true↔Er X Y)):
  ∃ v, (if X * 256 < O (128 * 128) then some [B false] else if Y * 256 < O (128 * 128) then some [B false] else
   (N [I (O ((X*256).tdiv 256)),I (O ((Y*256).tdiv 256))]).bind λo=>
   if¬CD (nth .dead o 0)=true then some [B false]else if bG=true then if L*16=M*16 then some [B (S*16==T*16)]else some [B false]else if C*256≠0 then some [B true]else some [B (decide (D*256<0))])=some [B v]/\
   (v=true↔64<=X/\64<=Y/\Er X Y/\(bG=true->L=M/\S=T)/\(bG=false->C≠0\/D<0)):=by
 rw[Ae (x:=128*128),Int.mul_tdiv_cancel _ (by omega),Int.mul_tdiv_cancel _ (by omega),Ae (x:=X),Ae (x:=Y)];by_cases U:X*256<128*128
 ·rw[aa U];exact⟨_,rfl,df (by simp) λh=>by omega⟩
 rw[ab U];by_cases V:Y*256<128*128
 ·rw[aa V];exact⟨_,rfl,df (by simp) λh=>by omega⟩
 rw[ab V];obtain⟨v,h1,h2⟩:=hN (X:=X) (Y:=Y) (by omega) (by omega);simp only[h1,go_sem];by_cases J:v=true
 case neg=>rw[aa J];exact⟨_,rfl,df (by simp) λh=>J (h2.2 h.2.2.1)⟩
 rw[ab (by simpa using J)];have E:=h2.1 J;cases bG with
 |true=>
  rw[aa rfl];by_cases G:L*16=M*16
  ·rw[aa G];refine⟨_,rfl,?_⟩;simp only[beq_iff_eq];exact⟨λh=>⟨by omega,by omega,E,λ_=>⟨by omega,by omega⟩,λh=>by simp at h⟩,λh=>by have:=(h.2.2.2.1 trivial).2;omega⟩
  ·rw[ab G];exact⟨_,rfl,df (by simp) λh=>G (by have:=(h.2.2.2.1 rfl).1;omega)⟩
 |false=>
  rw[ab (by simp)];by_cases G:C*256≠0
  ·rw[aa G];exact⟨_,rfl,fj rfl ⟨by omega,by omega,E,λh=>by simp at h,λ_=> .inl (by omega)⟩⟩
  ·rw[ab G];refine⟨_,rfl,?_⟩;simp only[bp];exact⟨λh=>⟨by omega,by omega,E,λh=>by simp at h,λ_=> .inr (by omega)⟩,λh=>by have:=(h.2.2.2.2 trivial);omega⟩
theorem Qv7 (a b c d:Int):dt2 (a*16) (b*16) (c*16) (d*16)=dt2 a b c d*256/\crs (a*16) (b*16) (c*16) (d*16)=crs a b c d*256:=by
 unfold dt2 crs;constructor<;>grind
theorem Zah (hA:∀pl:Int,S [I pl]=some [I (axI pl).1,I (axI pl).2.1,I (axI pl).2.2,B (decide (BL pl))]) (hW:∀p:Pt,Q [I p.x,I p.y,I p.z]=some [B (decide (bd 1048576 p))])
  {it:Itm} (hE:BL it.aG->bd 1048576 it.fr->bd 1048576 it.to->bd 1048576 it.ce->V (Ag it)=some [I (dU it it.fr*16),I (dW it it.fr*16),I 0,I (plH it.aG it.fr*16),I (dU it it.to*16),I (dW it it.to*16),I 0,I (plH it.aG it.to*16)])
  (hD:∀{u w r h x y s g:Int},u.natAbs<=1000000000->w.natAbs<=1000000000->x.natAbs<=1000000000->y.natAbs<=1000000000->W [I u,I w,I r,I h,I x,I y,I s,I g]=some [I (dt2 u w x y)])
  (hX:∀{u w r h x y s g:Int},u.natAbs<=1000000000->w.natAbs<=1000000000->x.natAbs<=1000000000->y.natAbs<=1000000000->M [I u,I w,I r,I h,I x,I y,I s,I g]=some [I (crs u w x y)])
  (hN:∀{X Y:Int},(64<=X/\X<=1000000000000000)->(64<=Y/\Y<=1000000000000000)->∃v,Z [I X,I Y]=some [B v]/\(v=true↔Er X Y)):
  ∃v,Qht M Z W V S Q (Ag it)=some [B v]/\(v=true↔By it):=by
 rw[Zjp];simp only[go_sem,hW,hA];by_cases c1:it.aP<1
 ·rw[aa c1];exact⟨_,rfl,df (by simp) λh=>by have:=h.1;omega⟩
 rw[ab c1];by_cases N:it.aP>6
 ·rw[aa N];exact⟨_,rfl,df (by simp) λh=>by have:=h.1;omega⟩
 rw[ab N];by_cases E:bd 1048576 it.fr
 case neg=>rw[aa (by simpa using E)];exact⟨_,rfl,df (by simp) λh=>E h.2.1⟩
 rw[ab (by simpa using E)];by_cases G:bd 1048576 it.to
 case neg=>rw[aa (by simpa using G)];exact⟨_,rfl,df (by simp) λh=>G h.2.2.1⟩
 rw[ab (by simpa using G)];by_cases J:it.aP=3
 case neg=>rw[aa J];exact⟨_,rfl,fj rfl ⟨by omega,E,G,λh=>absurd h J⟩⟩
 rw[ab (by simpa using J)];by_cases O:BL it.aG
 case neg=>rw[aa (by simpa using O)];exact⟨_,rfl,df (by simp) λh=>O (h.2.2.2 J).1⟩
 rw[ab (by simpa using O)];by_cases D:bd 1048576 it.ce
 case neg=>
  refine⟨false,?_,df (by simp) λh=>D (h.2.2.2 J).2.2.1⟩;split
  ·split
   ·rfl
   ·first|rfl|(rw[aa D])
  ·first|rfl|(rw[aa D])
 by_cases c6:it.dir=1\/it.dir= -1
 case neg=>
  rw[aa (c:=it.dir≠1),aa (c:=it.dir≠-1)];exact⟨false,rfl,df (by simp) λh=>c6 (h.2.2.2 J).2.1⟩
 have L:=hE O E G D;obtain⟨b1,b2⟩:=Lh (it:=it) D E;obtain⟨b3,b4⟩:=Lh (it:=it) D G;simp only[Ag]at L;have x1:=Sb b1 b2;have x2:=Sb b3 b4;have core:By it↔64<=qA it/\64<=qB it/\Er (qA it) (qB it)/\(it.bG=true->dU it it.fr=dU it it.to/\dW it it.fr=dW it it.to)/\(it.bG=false->cAB it≠0\/dAB it<0):=
  ⟨λh=>(h.2.2.2 J).2.2.2,λh=>⟨by omega,E,G,λ_=>⟨O,c6,D,h⟩⟩⟩
 rw[core];have a0:0<=qA it/\qA it<=1000000000000000:=⟨x1.1,by unfold qA;omega⟩;have a1:0<=qB it/\qB it<=1000000000000000:=⟨x2.1,by unfold qB;omega⟩;have U:= @hD (dU it it.fr*16) (dW it it.fr*16) 0 (plH it.aG it.fr*16) (dU it it.fr*16) (dW it it.fr*16) 0 (plH it.aG it.fr*16) (by omega) (by omega) (by omega) (by omega);have D2:= @hD (dU it it.to*16) (dW it it.to*16) 0 (plH it.aG it.to*16) (dU it it.to*16) (dW it it.to*16) 0 (plH it.aG it.to*16) (by omega) (by omega) (by omega) (by omega);have D3:= @hD (dU it it.fr*16) (dW it it.fr*16) 0 (plH it.aG it.fr*16) (dU it it.to*16) (dW it it.to*16) 0 (plH it.aG it.to*16) (by omega) (by omega) (by omega) (by omega);have D4:= @hX (dU it it.fr*16) (dW it it.fr*16) 0 (plH it.aG it.fr*16) (dU it it.to*16) (dW it it.to*16) 0 (plH it.aG it.to*16) (by omega) (by omega) (by omega) (by omega);rw[(Qv7 _ _ _ _).1]at U D2 D3;rw[(Qv7 _ _ _ _).2]at D4;have e1:dt2 (dU it it.fr) (dW it it.fr) (dU it it.fr) (dW it it.fr)=qA it:=rfl;have e2:dt2 (dU it it.to) (dW it it.to) (dU it it.to) (dW it it.to)=qB it:=rfl;have e3:dt2 (dU it it.fr) (dW it it.fr) (dU it it.to) (dW it it.to)=dAB it:=rfl;have e4:crs (dU it it.fr) (dW it it.fr) (dU it it.to) (dW it it.to)=cAB it:=rfl;rw[e1]at U;rw[e2]at D2;rw[e3]at D3;rw[e4]at D4;have T:= @Zuw Z (qA it) (qB it) (cAB it) (dAB it) (dU it it.fr) (dW it it.fr) (dU it it.to) (dW it it.to) it.bG a0 a1 hN;have n7: ¬ ¬bd 1048576 it.ce:=λh=>h D;by_cases d1:it.dir=1
 ·rw[ab (c:=it.dir≠1) (λh=>h d1),ab n7];simp only[L,go_sem,U,D2,D3,D4];exact T
 ·rw[aa (c:=it.dir≠1) d1,ab (c:=it.dir≠-1),ab n7];simp only[L,go_sem,U,D2,D3,D4];exact T
theorem Qhm (it:Itm):∃v,FH (Ag it)=some [B v]/\(v=true↔By it):=
 Zah Qad Zcn (λD E G I=>Q1q D E G I) Qdk Qf0 Q77
def okS (s:Spk):Prop:=s.u.natAbs<=50000000/\s.w.natAbs<=50000000/\(0<=s.r/\s.r<=50000000)/\s.h.natAbs<=16777216
def hf (a b:Int):Int:=(a+b+1)/2
theorem Qyo (D:k.natAbs<=100000000) (hb:u.natAbs<=100000000):KM [I k,I u]=some [I (hf k u)]:=by
  unfold KM;rw[Q4w,Ae (x:=k+u),Ae (x:=k+u+1)];have e:(2^min (Int.toNat 1) IntKind.i64.bits:Int)=2:=rfl;rw[e,dp _ (by omega)];rfl
def Bs (a b:Spk) (dir:Int) (bG:Bool):Int×Int:=
  if bG=true then(-a.u,-a.w)
  else if 0<dt2 a.u a.w b.u b.w/\0<crs a.u a.w b.u b.w*dir then(a.u+b.u,a.w+b.w)
  else if 0<dt2 a.u a.w b.u b.w then(-(a.u+b.u),-(a.w+b.w))
  else(dir*(b.w-a.w),dir*(a.u-b.u))
noncomputable def Fa (a b:Spk) (u w:Int):Spk:=if u=0/\w=0 then⟨0,0,0,0⟩else⟨Bd u (hf a.r b.r) (sq2 u w),Bd w (hf a.r b.r) (sq2 u w),hf a.r b.r,hf a.h b.h⟩
noncomputable def CF (a b:Spk) (dir:Int) (bG:Bool):Spk:=Fa a b (Bs a b dir bG).1 (Bs a b dir bG).2
theorem OH {a b:Spk} (D:okS a) (hb:okS b) {dir:Int} (E:dir=1\/dir= -1) (bG:Bool):(Bs a b dir bG).1.natAbs<=100000000/\(Bs a b dir bG).2.natAbs<=100000000:=by
  obtain⟨a1,a2,-⟩:=D;obtain⟨b1,b2,-⟩:=hb;unfold Bs;split
  · exact⟨by simp only;omega,by simp only;omega⟩
  · split
    · exact⟨by simp only;omega,by simp only;omega⟩
    · split
      · exact⟨by simp only;omega,by simp only;omega⟩
      · rcases E with rfl|rfl
        · exact⟨by simp only;omega,by simp only;omega⟩
        · exact⟨by simp only;omega,by simp only;omega⟩
theorem Qzn (u w:Int):u*u<=sq2 u w/\w*w<=sq2 u w:=by
  have D:=Ec u;have E:=Ec w;unfold sq2;omega
theorem PC {u w:Int} (h: ¬(u=0/\w=0)):0<sq2 u w:=by
  have G:=Ec u;have I:=Ec w;have z:∀u:Int,u*u=0->u=0:=λu E=>by
    rcases Int.mul_eq_zero.1 E with h|h<;>exact h
  have J: ¬(u*u=0/\w*w=0):=λD=>h ⟨z _ D.1,z _ D.2⟩;unfold sq2;omega
theorem Qbg (D:0<=k/\k<=50000000) (hb:0<=u/\u<=50000000):0<=hf k u/\hf k u<=50000000:=by unfold hf;omega
theorem Q6m (D:k.natAbs<=16777216) (hb:u.natAbs<=16777216):(hf k u).natAbs<=16777216:=by unfold hf;omega
theorem Q2v {u w r:Int} (D:u.natAbs<=100000000) (E:w.natAbs<=100000000) (O:0<=r/\r<=50000000) (h: ¬(u=0/\w=0)):
    (Gz [I u,I r,I (sq2 u w)]=some [I (Bd u r (sq2 u w))]/\(Bd u r (sq2 u w)).natAbs<=r.natAbs)/\(Gz [I w,I r,I (sq2 u w)]=some [I (Bd w r (sq2 u w))]/\(Bd w r (sq2 u w)).natAbs<=r.natAbs):=by
  have S:=PC h;have T:=CN D;have U:=CN E;have V:sq2 u w<=20000000000000000:=by unfold sq2;omega
  obtain⟨G,J⟩:=Qzn u w;have key:∀x:Int,x.natAbs<=100000000->x*x<=sq2 u w->Gz [I x,I r,I (sq2 u w)]=some [I (Bd x r (sq2 u w))]/\(Bd x r (sq2 u w)).natAbs<=r.natAbs:=by
    intro x L M;obtain⟨g1,-,N⟩:=Ov (x:=x) (r:=r) (n:=sq2 u w) (bn L (by decide)) (by omega) (by omega) M;refine⟨g1,Qm4 (by omega) ?_ N⟩;have:((x.natAbs*x.natAbs:Nat):Int)=x*x:=fc;omega
  exact⟨key u D G,key w E J⟩
theorem Q5n {a b:Spk} (D:okS a) (hb:okS b) {u w:Int} (G:u.natAbs<=100000000) (I:w.natAbs<=100000000):okS (Fa a b u w):=by
  unfold Fa;split
  · exact⟨by simp,by simp,by simp,by simp⟩
  · rename_i h
    have E:=Qbg D.2.2.1 hb.2.2.1;obtain⟨⟨-,J⟩,-,L⟩:=Q2v G I E h;exact⟨by simp only;omega,by simp only;omega,E,Q6m D.2.2.2 hb.2.2.2⟩
theorem Xe {a b:Spk} (D:okS a) (hb:okS b) {dir:Int} (E:dir=1\/dir= -1) (bG:Bool):okS (CF a b dir bG):=
  Q5n D hb (OH D hb E bG).1 (OH D hb E bG).2
theorem Zpf {MN MH:Fn} {a b:Spk} {u w:Int} (N:u.natAbs<=100000000) (S:w.natAbs<=100000000) (T:MH [I a.r,I b.r]=some [I (hf a.r b.r)]) (U:MH [I a.h,I b.h]=some [I (hf a.h b.h)])
    (V: ¬(u=0/\w=0)->MN [I u,I (hf a.r b.r),I (sq2 u w)]=some [I (Bd u (hf a.r b.r) (sq2 u w))]/\MN [I w,I (hf a.r b.r),I (sq2 u w)]=some [I (Bd w (hf a.r b.r) (sq2 u w))]):
    (bif u == 0 then
      bif w==0 then some [AC.int IntKind.i64 0,AC.int IntKind.i64 0,AC.int IntKind.i64 0,AC.int IntKind.i64 0,AC.bool false]
      else(MH [AC.int IntKind.i64 a.r,AC.int IntKind.i64 b.r]).bind λD=>
       (MN [AC.int IntKind.i64 u,AC.int IntKind.i64 (Ah (nth AC.dead D 0)),AC.int IntKind.i64 (O (O (u*u)+O (w*w)))]).bind λE=>
       (MN [AC.int IntKind.i64 w,AC.int IntKind.i64 (Ah (nth AC.dead D 0)),AC.int IntKind.i64 (O (O (u*u)+O (w*w)))]).bind λG=>
       (MH [AC.int IntKind.i64 a.h,AC.int IntKind.i64 b.h]).bind λJ=>
       some [AC.int IntKind.i64 (Ah (nth AC.dead E 0)),AC.int IntKind.i64 (Ah (nth AC.dead G 0)),AC.int IntKind.i64 (Ah (nth AC.dead D 0)),AC.int IntKind.i64 (Ah (nth AC.dead J 0)),AC.bool true]
     else(MH [AC.int IntKind.i64 a.r,AC.int IntKind.i64 b.r]).bind λD=>
       (MN [AC.int IntKind.i64 u,AC.int IntKind.i64 (Ah (nth AC.dead D 0)),AC.int IntKind.i64 (O (O (u*u)+O (w*w)))]).bind λE=>
       (MN [AC.int IntKind.i64 w,AC.int IntKind.i64 (Ah (nth AC.dead D 0)),AC.int IntKind.i64 (O (O (u*u)+O (w*w)))]).bind λG=>
       (MH [AC.int IntKind.i64 a.h,AC.int IntKind.i64 b.h]).bind λJ=>
       some [AC.int IntKind.i64 (Ah (nth AC.dead E 0)),AC.int IntKind.i64 (Ah (nth AC.dead G 0)),AC.int IntKind.i64 (Ah (nth AC.dead D 0)),AC.int IntKind.i64 (Ah (nth AC.dead J 0)),AC.bool true])=
    some (AT (Fa a b u w)++[B (decide (¬(u=0/\w=0)))]):=by
  have q1:=CN N;have q2:=CN S;have e:O (O (u*u)+O (w*w))=sq2 u w:=by
    unfold sq2;generalize u*u=x at*;generalize w*w=y at*;rw[Ae (x:=x),Ae (x:=y),Ae]
  simp only[go_sem,e,T,U];unfold Fa;by_cases h:u=0/\w=0
  · rw[aa h.1,aa h.2,aa h]
    simp[h]
  · obtain⟨X,Y⟩:=V h
    rw[ab h];simp only[X,Y,go_sem];have hd:decide (¬(u=0/\w=0))=true:=ah h;rw[hd];by_cases L:u=0
    · rw[aa L,ab (λM=>h ⟨L,M⟩)];try rfl
    · rw[ab L];try rfl
theorem Zjx {a b:Spk} (T:okS a) (hb:okS b) {dir:Int} (G:dir=1\/dir= -1) (bG:Bool)
    (h1:Z [I a.r,I b.r]=some [I (hf a.r b.r)]) (h2:Z [I a.h,I b.h]=some [I (hf a.h b.h)])
    (hN:∀{u w:Int},u.natAbs<=100000000->w.natAbs<=100000000-> ¬(u=0/\w=0)->M [I u,I (hf a.r b.r),I (sq2 u w)]=some [I (Bd u (hf a.r b.r) (sq2 u w))]/\M [I w,I (hf a.r b.r),I (sq2 u w)]=some [I (Bd w (hf a.r b.r) (sq2 u w))])
    (hC:Y [I a.u,I a.w,I a.r,I a.h,I b.u,I b.w,I b.r,I b.h]=some [I (crs a.u a.w b.u b.w)]) (hD:W [I a.u,I a.w,I a.r,I a.h,I b.u,I b.w,I b.r,I b.h]=some [I (dt2 a.u a.w b.u b.w)])
    (a0:(crs a.u a.w b.u b.w).natAbs<=5000000000000000):
    Qgd M Z Y W [I a.u,I a.w,I a.r,I a.h,I b.u,I b.w,I b.r,I b.h,I dir,B bG]=some (AT (CF a b dir bG)++[B (decide (¬((Bs a b dir bG).1=0/\(Bs a b dir bG).2=0)))]):=by
  have key:=fun{u w:Int} (U:u.natAbs<=100000000) (V:w.natAbs<=100000000)=>Zpf (MN:=M) (MH:=Z) (a:=a) (b:=b) U V h1 h2 (hN U V);have J:=OH T hb G bG;obtain⟨a1,a2,-⟩:=T;obtain⟨b1,b2,-⟩:=hb;have w1:O (0-a.u)= -a.u:=by rw[Ae];omega
  have w2:O (0-a.w)= -a.w:=by rw[Ae];omega
  have w3:O (a.u+b.u)=a.u+b.u:=Ae;have w4:O (a.w+b.w)=a.w+b.w:=Ae;have w5:O (0-(a.u+b.u))= -(a.u+b.u):=by rw[Ae];omega
  have w6:O (0-(a.w+b.w))= -(a.w+b.w):=by rw[Ae];omega
  have w7:O (b.w-a.w)=b.w-a.w:=Ae;have w8:O (a.u-b.u)=a.u-b.u:=Ae;have w9:O (dir*(b.w-a.w))=dir*(b.w-a.w):=by rcases G with rfl|rfl<;>exact Ae
  have N:O (dir*(a.u-b.u))=dir*(a.u-b.u):=by rcases G with rfl|rfl<;>exact Ae
  have S:O (crs a.u a.w b.u b.w*dir)=crs a.u a.w b.u b.w*dir:=by rcases G with rfl|rfl<;>exact Ae
  rw[Zbl];try dsimp only[go_sem]
  unfold CF;simp only[w1,w2,w3,w4,w5,w6,w7,w8,w9,N,hC,hD,ak,E0,ER,gA,jA,wA,bA,S];have fin:∀{x:Option (List AC)},x=some (AT (Fa a b (Bs a b dir bG).1 (Bs a b dir bG).2)++[B (decide (¬((Bs a b dir bG).1=0/\(Bs a b dir bG).2=0)))])->
      (bif dir !=1 then bif dir != -1 then some [AC.int IntKind.i64 0,AC.int IntKind.i64 0,AC.int IntKind.i64 0,AC.int IntKind.i64 0,AC.bool false]else x else x)=some (AT (Fa a b (Bs a b dir bG).1 (Bs a b dir bG).2)++[B (decide (¬((Bs a b dir bG).1=0/\(Bs a b dir bG).2=0)))]):=by
    intro x X;rcases G with rfl|rfl
    · rw[Es (by decide)];exact X
    · rw[Dv (by decide),Es (by decide)];exact X
  refine fin ?_;have D:=key J.1 J.2;unfold Bs at*;cases bG
  · simp only[ao,cv,ez]at D⊢
    by_cases E:0<dt2 a.u a.w b.u b.w
    · rw[B6 (show dt2 a.u a.w b.u b.w>0 from E)]
      by_cases L:0<crs a.u a.w b.u b.w*dir
      · rw[B6 (show crs a.u a.w b.u b.w*dir>0 from L)]
        rw[aa ⟨E,L⟩]at D⊢;exact D
      · rw[AM (show¬crs a.u a.w b.u b.w*dir>0 from L),B6 (show dt2 a.u a.w b.u b.w>0 from E)]
        rw[ab (λh=>L h.2),aa E]at D⊢;exact D
    · rw[AM (show¬dt2 a.u a.w b.u b.w>0 from E),AM (show¬dt2 a.u a.w b.u b.w>0 from E)]
      rw[ab (λh=>E h.1),ab E]at D⊢;exact D
  · simp only[ai,dc]at D⊢
    exact D
theorem CM {x:Int} (h:x.natAbs<=50000000):x.natAbs<=1000000000:=bn h (by decide)
theorem Zl1 {a b:Spk} (D:okS a) (hb:okS b) {dir:Int} (E:dir=1\/dir= -1) (bG:Bool):
    J_ [I a.u,I a.w,I a.r,I a.h,I b.u,I b.w,I b.r,I b.h,I dir,B bG]=some (AT (CF a b dir bG)++[B (decide (¬((Bs a b dir bG).1=0/\(Bs a b dir bG).2=0)))]):=by
  have G:=(QX D.1 D.2.1 hb.1 hb.2.1).2;exact Zjx D hb E bG (Qyo (by have:=D.2.2.1;omega) (by have:=hb.2.2.1;omega)) (Qyo (bn D.2.2.2 (by decide)) (bn hb.2.2.2 (by decide)))
    (λJ L h=>by obtain⟨⟨g1,-⟩,g2,-⟩:=Q2v J L (Qbg D.2.2.1 hb.2.2.1) h;exact⟨g1,g2⟩)
    (YE (CM D.1) (CM D.2.1) (CM hb.1) (CM hb.2.1)) (Qet (CM D.1) (CM D.2.1) (CM hb.1) (CM hb.2.1)) G
def DX (a b:Spk) (dir:Int) (bG:Bool):Prop:=bG=false/\0<crs a.u a.w b.u b.w*dir/\sq2 (a.u-b.u) (a.w-b.w)<=32*mn a.r b.r-64
theorem Zih {r n:Int} (D:0<=r/\r<=50000000):KK [I r,I n]=some [B (decide (n<=32*r-64))]:=by
  unfold KK;rw[Q4i,Ae (x:=8*r),Ae (x:=8*r*4),Ae (x:=8*r*4-64),show 8*r*4-64=32*r-64 by omega]
instance {a b:Spk} {dir:Int} {bG:Bool}:Decidable (DX a b dir bG):=by unfold DX;infer_instance
theorem Zqr {a b:Spk} (G:okS a) (hb:okS b) {dir:Int} (N:dir=1\/dir= -1) (bG:Bool)
    (S:∀{r n:Int},(0<=r/\r<=50000000)->M [I r,I n]=some [B (decide (n<=32*r-64))])
    (T:Z [I a.u,I a.w,I a.r,I a.h,I b.u,I b.w,I b.r,I b.h]=some [I (crs a.u a.w b.u b.w)]) (U:(crs a.u a.w b.u b.w).natAbs<=5000000000000000):
    Qce M Z [I a.u,I a.w,I a.r,I a.h,I b.u,I b.w,I b.r,I b.h,I dir,B bG]=some [B (decide (DX a b dir bG))]:=by
  have V:0<=mn a.r b.r/\mn a.r b.r<=50000000:=by
    have X:=G.2.2.1;have Y:=hb.2.2.1;unfold mn;split<;>omega
  obtain⟨a1,a2,-⟩:=G;obtain⟨b1,b2,-⟩:=hb;have J:=ES a1 b1;have L:=ES a2 b2;have q1:=CN J;have q2:=CN L;have e:O (O ((a.u-b.u)*(a.u-b.u))+O ((a.w-b.w)*(a.w-b.w)))=sq2 (a.u-b.u) (a.w-b.w):=by
    unfold sq2;generalize(a.u-b.u)*(a.u-b.u)=x at*;generalize(a.w-b.w)*(a.w-b.w)=y at*;rw[Ae (x:=x),Ae (x:=y),Ae]
  have E:O (crs a.u a.w b.u b.w*dir)=crs a.u a.w b.u b.w*dir:=by rcases N with rfl|rfl<;>exact Ae
  rw[Q8t,D8 J (by decide),D8 L (by decide),e];cases bG
  · simp only[Bool.not_false,ai,T,ak,E0,ER,gA,jA,wA,bA,E,S V,Pb]
    by_cases c:0<crs a.u a.w b.u b.w*dir
    · rw[B6 (show crs a.u a.w b.u b.w*dir>0 from c)]
      by_cases D:sq2 (a.u-b.u) (a.w-b.w)<=32*mn a.r b.r-64
      · rw[ah D,ah (show DX a b dir false from⟨rfl,c,D⟩)]
      · rw[aj D,aj (λh:DX a b dir false=>D h.2.2)]
    · rw[AM (show¬crs a.u a.w b.u b.w*dir>0 from c),aj (λh:DX a b dir false=>c h.2.1)]
  · simp only[i9,ao]
    rw[aj (λh:DX a b dir true=>by cases h.1)]
theorem Q5v {a b:Spk} (D:okS a) (hb:okS b) {dir:Int} (E:dir=1\/dir= -1) (bG:Bool):
    I7 [I a.u,I a.w,I a.r,I a.h,I b.u,I b.w,I b.r,I b.h,I dir,B bG]=some [B (decide (DX a b dir bG))]:=
  Zqr D hb E bG Zih (YE (CM D.1) (CM D.2.1) (CM hb.1) (CM hb.2.1)) (QX D.1 D.2.1 hb.1 hb.2.1).2
noncomputable def CW (dir:Int):Nat->Bool->Spk->Spk->List Spk
  |0,_,_,b=>[b]
  |k+1,bG,a,b=>if DX a b dir bG then [b]else CW dir k false a (CF a b dir bG)++CW dir k false (CF a b dir bG) b
theorem Mx {dir:Int}:∀(k:Nat) (bG:Bool) (a b:Spk),1<=(CW dir k bG a b).length/\(CW dir k bG a b).length<=2^k
  |0,_,_,b=>by simp[CW]
  |k+1,bG,a,b=>by
    have D:0<2^k:=dw _;have e3:2^(k+1)=2^k+2^k:=by rw[dx];omega
    unfold CW;split
    · simp;omega
    · have E:=Mx k false a (CF a b dir bG) (dir:=dir)
      have G:=Mx k false (CF a b dir bG) b (dir:=dir);rw[am];omega
theorem SD {dir:Int} (E:dir=1\/dir= -1):∀(k:Nat) (bG:Bool) {a b:Spk},okS a->okS b->∀s∈CW dir k bG a b,okS s
  |0,_,a,b,_,hb,s,D=>by simp[CW]at D;subst D;exact hb
  |k+1,bG,a,b,G,hb,s,D=>by
    unfold CW at D;have I:=Xe G hb E bG;split at D
    · simp at D;subst D;exact hb
    · rcases co.1 D with D|D
      · exact SD E k false G I s D
      · exact SD E k false I hb s D
theorem Yp {dir:Int} (D:dir=1\/dir= -1):∀(n k:Nat) (bG:Bool) (a b:Spk),k<=16->k<n->okS a->okS b->
    Kn n [I a.u,I a.w,I a.r,I a.h,I b.u,I b.w,I b.r,I b.h,I dir,B bG,I (16-k:Int)]=some [.vC BE ((CW dir k bG a b).map AT)]
  |0,k,_,_,_,_,J,_,_=>by omega
  |n+1,0,bG,a,b,_,_,E,hb=>by
    show QU _ _ _ _=_;rw[Q2e,B6 (by omega)];rfl
  |n+1,k+1,bG,a,b,J,O,E,hb=>by
    have G:=Xe E hb D bG;have i1:=Yp D n k false a (CF a b dir bG) (by omega) (by omega) E G;have L:=Yp D n k false (CF a b dir bG) b (by omega) (by omega) G hb;have e1:=Q5v E hb D bG;have e2:=Zl1 E hb D bG;show QU (Kn n) J_ I7 _=_;generalize Kn n=S at*;generalize J_=T at*;generalize I7=U at*;have V:=(Mx k false a (CF a b dir bG) (dir:=dir)).2;have X:=(Mx k false (CF a b dir bG) b (dir:=dir)).2;have Y:2^k<=2^16:=Nat.pow_le_pow_right (by omega) (by omega);rw[Q2e,AM (by omega),Ae,show(16-((k+1:Nat):Int)+1)=16-(k:Int) by omega];unfold CW;generalize CF a b dir bG=m at*;generalize CW dir k false a m=M at*;generalize CW dir k false m b=N at*;simp only[aq,ay,AT]at e2;simp only[e1,e2,ak,E0,IT,IF,L3,ER,gA,jA,wA,bA,Pb,i1,L,RV];by_cases c:DX a b dir bG
    · rw[aa c,Dv (ah c)];rfl
    · rw[ab c,Es (aj c),Dv]
      · rw[bh]
      · have e:((List.map AT M++List.map AT N).length*32)<=140737488355328:=by
          simp only[am,af];have:(2:Nat)^16=65536:=rfl;omega
        exact ef e
theorem Zaf {n i j:Int} (E:HZ n i) (G:HZ n j):i=j:=by
 have key:∀{i j:Int},HZ n i->HZ n j-> ¬i<j:=by
  rintro i j ⟨I,J,-⟩ ⟨M,N,D⟩ L;rcases D with D|D
  ·omega
  ·have O:=d6 (show i<=j-1 by omega) (show i+1<=j by omega) (by omega) (by omega);omega
 have I:=key E G;have J:=key G E;omega
open Classical in
noncomputable def FI (n:Int):Int:=if h:∃j,HZ n j then Classical.choose h else 0
theorem Qs {n k:Int} (h:HZ n k):FI n=k:=by
 have D:∃j,HZ n j:=⟨k,h⟩;unfold FI;rw[dif_pos D];exact Zaf (dz D) h
theorem QO {n r:Nat} (D:r*r<=n) (E:n<(r+1)*(r+1)):HZ n (if r*r+r<n then r+1 else r:Nat):=by
 have e0:(r+1)*(r+1)=r*r+r+r+1:=by grind
 unfold HZ;by_cases c:r*r+r<n
 ·rw[aa c];have e1:((r+1:Nat):Int)*(((r+1:Nat):Int)+1)=((r*r+r+r+r+2:Nat):Int):=by
   have:((r+1:Nat):Int)+1=((r+2:Nat):Int):=by omega
   rw[this,<-bz];congr 1
   grind
  have e2:(((r+1:Nat):Int)-1)*((r+1:Nat):Int)=((r*r+r:Nat):Int):=by
   rw[show((r+1:Nat):Int)-1=(r:Int) by omega,<-bz];congr 1
  rw[e1,e2];generalize r*r=A at*;exact⟨by omega,by omega, .inr (by omega)⟩
 ·rw[ab c];have e1:(r:Int)*((r:Int)+1)=((r*r+r:Nat):Int):=by
   rw[show(r:Int)+1=((r+1:Nat):Int) by omega,<-bz];congr 1
  rw[e1];refine⟨by omega,by omega,?_⟩;rcases dn r with h|h
  ·left;omega
  ·right;have e2:((r:Int)-1)*(r:Int)=(((r-1)*r:Nat):Int):=by
    rw[show(r:Int)-1=((r-1:Nat):Int) by omega];exact(bz _ _).symm
   have:=dy (show r-1<r by omega) h;rw[e2];omega
noncomputable def Bu (it:Itm) (p:Pt):Spk:=⟨dU it p*16,dW it p*16,FI (sq2 (dU it p*16) (dW it p*16)),plH it.aG p*16⟩
theorem Zdy {n:Nat} (I:n<=2251799813685248):0<=FI n/\FI n<=50000000:=by
 obtain⟨r,-,D,E,-⟩:=RW (n:=n) (by omega);have G:=QO D E;rw[Qs G];have:r<50000000:=by
  by_cases c:r<50000000
  ·exact c
  ·have:=cx (show 50000000<=r by omega) (show 50000000<=r by omega);omega
 split<;>omega
theorem Oy (I:bd 1048576 D.ce) (J:bd 1048576 a):(dU D a*16).natAbs<=33554432/\(dW D a*16).natAbs<=33554432/\0<=sq2 (dU D a*16) (dW D a*16)/\sq2 (dU D a*16) (dW D a*16)<=2251799813685248:=by
 obtain⟨L,M⟩:=Lh I J;have E:(dU D a*16).natAbs<=33554432:=by omega
 have G:(dW D a*16).natAbs<=33554432:=by omega
 have N:=CN E;have O:=CN G;refine⟨E,G,?_⟩;unfold sq2;omega
theorem LH (G:bd 1048576 D.ce) (E:bd 1048576 a):okS (Bu D a):=by
 obtain⟨I,J,L,M⟩:=Oy G E;have O:=(EC (pl:=D.aG) E).2.2;obtain⟨n,N⟩:=bj L;refine⟨bn I (by decide),bn J (by decide),?_,?_⟩
 ·show 0<=FI _/\FI _<=_;rw[N]at M⊢;exact Zdy (by omega)
 ·show(plH D.aG a*16).natAbs<=_;omega
theorem Zdf {MR MD:Fn} {u w h:Int} {n r:Nat} (U:u.natAbs<=100000000) (V:w.natAbs<=100000000) (X:h.natAbs<=100000000) (D:sq2 (u*16) (w*16)=n) (E:n<=2251799813685248)
  (G:MD [I (u*16),I (w*16),I 0,I (h*16),I (u*16),I (w*16),I 0,I (h*16)]=some [I (sq2 (u*16) (w*16))]) (J:MR [I n]=some [I r]) (L:r*r<=n) (M:n<(r+1)*(r+1)):
  Vz MR MD [I u,I w,I 0,I h]=some (AT ⟨u*16,w*16,FI n,h*16⟩):=by
 have N:=QO L M;rw[Qs N];rw[Zhp,Ae (x:=u*16),Ae (x:=w*16),Ae (x:=h*16)];have Y:r<=r*r:=by
  rcases dn r with h|h
  ·subst h;simp
  ·exact Nat.le_mul_of_pos_left r h
 have e1:(r:Int)*((r:Int)+1)=((r*r+r:Nat):Int):=by
  rw[show(r:Int)+1=((r+1:Nat):Int) by omega,<-bz];congr 1
 have S:O ((r:Int)*((r+1:Nat):Int))=((r*r+r:Nat):Int):=by
  rw[show((r+1:Nat):Int)=(r:Int)+1 by omega,e1,Ae]
 have T:O ((r:Int)+1)=((r+1:Nat):Int):=by rw[Ae];omega
 simp only[go_sem,G,D,J,S,T];by_cases c:r*r+r<n
 ·rw[aa,aa c]
 ·rw[ab,ab c]
theorem Qlw (J:bd 1048576 D.ce) (E:bd 1048576 a):Ph [I (dU D a),I (dW D a),I 0,I (plH D.aG a)]=some (AT (Bu D a)):=by
 obtain⟨L,M,N,O⟩:=Oy J E;obtain⟨n,G⟩:=bj N;have X:=(EC (pl:=D.aG) E).2.2;have Y:=Lh J E;have S:=Qet (r:=0) (h:=plH D.aG a*16) (s:=0) (g:=plH D.aG a*16) (bn L (by decide)) (bn M (by decide)) (bn L (by decide)) (bn M (by decide));rw[G]at O;obtain⟨r,T,U,V,-⟩:=RW (n:=n) (by omega);have:=Zdf (MR:=HR) (MD:=E7) (u:=dU D a) (w:=dW D a) (h:=plH D.aG a) (by omega) (by omega) (by omega) G (by omega) S T U V;rw[show Bu D a=⟨dU D a*16,dW D a*16,FI n,plH D.aG a*16⟩from by unfold Bu;rw[G]];exact this
theorem Q89 (E:Z (Ag D)=some [I (dU D D.fr),I (dW D D.fr),I 0,I (plH D.aG D.fr),I (dU D D.to),I (dW D D.to),I 0,I (plH D.aG D.to)])
  (G:M [I (dU D D.fr),I (dW D D.fr),I 0,I (plH D.aG D.fr)]=some (AT (Bu D D.fr))) (J:M [I (dU D D.to),I (dW D D.to),I 0,I (plH D.aG D.to)]=some (AT (Bu D D.to))):
  XW M Z (Ag D)=some (AT (Bu D D.fr)++AT (Bu D D.to)):=by
 rw[Zj6];simp only[go_sem,E,G,J];try rfl
theorem Zht (h:By D) (J:D.aP=3):NE (Ag D)=some (AT (Bu D D.fr)++AT (Bu D D.to)):=by
 obtain⟨-,G,I,L⟩:=h;obtain⟨M,-,E,-⟩:=L J;exact Q89 (Qo4 M (by decide) G I E) (Qlw E G) (Qlw E I)
noncomputable def BS (it:Itm):List Spk:=Bu it it.fr::CW it.dir 16 it.bG (Bu it it.fr) (Bu it it.to)
theorem Qd1 (h:By D) (J:D.aP=3):∀s∈BS D,okS s:=by
 obtain⟨-,I,L,M⟩:=h;obtain⟨O,N,E,-⟩:=M J;intro s G;rcases az.1 G with rfl|G
 ·exact LH E I
 ·exact SD N 16 _ (LH E I) (LH E L) s G
theorem Qe (it:Itm):2<=(BS it).length/\(BS it).length<=65537:=by
 have:=Mx (dir:=it.dir) 16 it.bG (Bu it it.fr) (Bu it it.to);have e:(2:Nat)^16=65536:=rfl;rw[e]at this;unfold BS;rw[bf];omega
theorem Zcs (L:∃v,Y (Ag D)=some [B v]/\(v=true↔By D)) (h:By D)
  (N:D.aP=3->Z (Ag D)=some (AT (Bu D D.fr)++AT (Bu D D.to)))
  (O:D.aP=3->M (AT (Bu D D.fr)++AT (Bu D D.to)++[I D.dir,B D.bG,I 0])=some [.vC BE ((CW D.dir 16 D.bG (Bu D D.fr) (Bu D D.to)).map AT)]):
  Qbj M Z Y (Ag D)=if D.aP=3 then some [.vC BE ((BS D).map AT),B true]else some [.vC BE [],B false]:=by
 obtain⟨v,S,G⟩:=L;rw[Zbu];by_cases E:D.aP=3
 ·have e:=N E;have p:=O E;have J:=(Qe D).2;unfold BS at J⊢;generalize Bu D D.fr=a at*;generalize Bu D D.to=b at*;generalize CW D.dir 16 D.bG a b=l at*;simp only[aq,ay]at e p;simp only[go_sem,S,e,p];rw[ab (by simp[E]),ab (by simp[G.2 h]),aa (by simp at J⊢;omega),aa E];rfl
 ·simp only[go_sem];rw[aa E,ab E]
theorem Zil (h:By D):Mh (Ag D)=if D.aP=3 then some [.vC BE ((BS D).map AT),B true]else some [.vC BE [],B false]:=by
 refine Zcs (Uw D) h (λE=>Zht h E) λE=> ?_;obtain⟨-,I,J,L⟩:=h;obtain⟨N,M,G,-⟩:=L E;exact Yp M 20 16 D.bG _ _ (by omega) (by omega) (LH G I) (LH G J)
noncomputable def IR (it:Itm) (s:Spk):Pt:=spP it.aG (plU it.aG (At it.ce)+s.u) (plW it.aG (At it.ce)+s.w) s.h
noncomputable def BR (it:Itm):List Pt:=if it.aP=3 then(BS it).map (IR it)else [At it.fr,At it.to]
theorem Zop {pl u w h:Int} (D:u.natAbs<=i) (E:w.natAbs<=i) (G:h.natAbs<=i):bd i (spP pl u w h):=by
 unfold spP bd;split
 ·exact⟨D,E,G⟩
 ·split
  ·exact⟨E,G,D⟩
  ·exact⟨G,D,E⟩
theorem Zab {s:Spk} (E:bd 1048576 D.ce) (G:okS s):bd 67108864 (IR D s):=by
 obtain⟨I,J,-⟩:=EC (pl:=D.aG) (Fb E);obtain⟨s1,s2,-,L⟩:=G;exact Zop (by omega) (by omega) (by omega)
theorem YW (h:By D):∀p∈BR D,bd 67108864 p:=by
 intro p E;unfold BR at E;split at E
 ·rename_i G;simp only[av]at E;obtain⟨s,I,rfl⟩:=E;exact Zab (h.2.2.2 G).2.2.1 (Qd1 h G s I)
 ·simp at E;rcases E with rfl|rfl
  ·exact AP (Fb h.2.1) (by decide)
  ·exact AP (Fb h.2.2.1) (by decide)
theorem W8 (it:Itm):2<=(BR it).length/\(BR it).length<=65537:=by
 have:=Qe it;unfold BR;split<;>simp<;>omega
theorem Qmn {MS MP MF MK MV:Fn} {it:Itm} {l:List Spk} {cu cw:Int} (M:l.length<=65537) (G:cu.natAbs<=16777216) (J:cw.natAbs<=16777216) (E:∀s∈l,okS s)
  (L:∀{u w h:Int},MS [I u,I w,I h,I it.aG]=some (ptR (spP it.aG u w h))):
  ∀(k i:Nat),i+k=l.length->An (KL MS MP MF MK MV) (.vC kPt (((l.take i).map λs=>spP it.aG (cu+s.u) (cw+s.w) s.h).map ptR)::I cu::I cw:: .vC BE (l.map AT)::I l.length::I i::Ag it)=
   some (1,[.vC kPt ((l.map λs=>spP it.aG (cu+s.u) (cw+s.w) s.h).map ptR)])
 |0,i,N=>by
  refine AG ?_ (by simp);rw[Qlx];simp only[go_sem];rw[ab,ja (by omega)]
 |k+1,i,N=>by
  have D:i<l.length:=by omega
  have O:KL MS MP MF MK MV (.vC kPt (((l.take i).map λs=>spP it.aG (cu+s.u) (cw+s.w) s.h).map ptR)::I cu::I cw:: .vC BE (l.map AT)::I l.length::I i::Ag it)=
    some (0, .vC kPt (((l.take (i+1)).map λs=>spP it.aG (cu+s.u) (cw+s.w) s.h).map ptR)::I cu::I cw:: .vC BE (l.map AT)::I l.length::I (i+1:Nat)::Ag it):=by
   rw[Qlx];have S:nth [] (l.map AT) i=AT l[i]:=DF _ _ _ _ D;have T:=E _ (bv D);have U:l.take (i+1)=l.take i++[l[i]]:=by rw[iz,an D];rfl
   rw[U];generalize l[i]=s at*;obtain⟨s1,s2,-⟩:=T;simp only[go_sem,ag,af,S];rw[aa,aa,Ae (x:=cu+s.u),Ae (x:=cw+s.w),Ae (x:=(i:Int)+1)];simp only[L,go_sem];rw[aa (by simp only[am,af,fq,bf,bm];omega),bh,bh];rfl
  rw[AR O];exact Qmn M G J E L k (i+1) (by omega)
theorem Q5l (hV:∃v,V (Ag D)=some [B v]/\(v=true↔By D)) (h:By D)
  (G:W (Ag D)=if D.aP=3 then some [.vC BE ((BS D).map AT),B true]else some [.vC BE [],B false])
  (J:∀{p:Pt},bd 100000000 p->Y [I p.x,I p.y,I p.z]=some (ptR (At p))) (hP:BL D.aG->∀{p:Pt},Z [I p.x,I p.y,I p.z,I D.aG]=some [I (plU D.aG p),I (plW D.aG p),I (plH D.aG p)])
  (hS:BL D.aG->∀{u w h:Int},M [I u,I w,I h,I D.aG]=some (ptR (spP D.aG u w h))):
  TR M Z Y W V (An (KL M Z Y W V)) (Ag D)=some [.vC kPt ((BR D).map ptR),B true]:=by
 obtain⟨v,T,L⟩:=hV;rw[Q47];have N:=L.2 h;subst N;obtain⟨-,h1,h2,ha⟩:=id h;by_cases E:D.aP=3
 ·obtain⟨U,hd,X,-⟩:=ha E;rw[aa E]at G;obtain⟨c1,c2,c3⟩:=EC (pl:=D.aG) (Fb X);have hl:=Qmn (MS:=M) (MP:=Z) (MF:=Y) (MK:=W) (MV:=V) (it:=D) (l:=BS D) (cu:=plU D.aG (At D.ce)) (cw:=plW D.aG (At D.ce)) (Qe D).2 c1 c2 (Qd1 h E) (hS U) (BS D).length 0 (by omega);have O:An (KL M Z Y W V) [.vC kPt [],I (plU D.aG (At D.ce)),I (plW D.aG (At D.ce)), .vC BE ((BS D).map AT),I (BS D).length,I 0,I D.aP,I D.block,I D.fr.x,I D.fr.y,I D.fr.z,I D.to.x,I D.to.y,I D.to.z,I D.aG,I D.ce.x,I D.ce.y,I D.ce.z,I D.dir,B D.bG,I D.aZ,B D.perRev,I D.side,I D.radius,I D.bH,I D.n,I D.aS,B D.on]=
   some (1,[.vC kPt (((BS D).map λs=>spP D.aG (plU D.aG (At D.ce)+s.u) (plW D.aG (At D.ce)+s.w) s.h).map ptR)]):=hl
  have hf:=J (AP X (by decide));unfold BR;rw[aa E];have S:= @hP U (At D.ce);simp only[go_sem,T,G,hf,S,af,O];simp only[gu,ez];rfl
 ·rw[ab E]at G;have f1:=J (AP h1 (by decide));have f2:=J (AP h2 (by decide));unfold BR;rw[ab E];simp only[go_sem,T,G,f1,f2];simp
theorem Q6t (h:By D):OW (Ag D)=some [.vC kPt ((BR D).map ptR),B true]:=
 Q5l (Uw D) h (Zil h) YL (λE=>Qbz E) (λE=>Q10 E)
def D0 (t:Itm) (aS:Int):Int:=if t.aP=1 then 0 else mx (C9 (mn (if t.perRev=true then t.aZ*mx aS 1 else t.aZ) 60000000*4096) 60000) 1
theorem Qpe {f s:Int} (hf:0<=f/\f<=60000000) (E:0<=s/\s<=30000):0<=f*mx s 1/\f*mx s 1<=1800000000000:=by
 have D:1<=mx s 1/\mx s 1<=30000:=by unfold mx;split<;>omega
 generalize mx s 1=m at*;have G:=d6 hf.2 D.2 (by omega) (by omega);have I:=ga hf.1 (show 0<=m by omega);omega
theorem QT {x:Int} (h:0<=x):0<=mn x 60000000/\mn x 60000000<=60000000:=by unfold mn;split<;>omega
theorem Zku (hf:0<=D.aZ/\D.aZ<=60000000) (G:0<=k/\k<=30000)
  (E:∀a:Int,0<=a/\a<=60000000->M [I a,I 4096,I 60000,I 2]=some [I (C9 (a*4096) 60000),B true]):SJ M (Ag D++[I k])=some [I (D0 D k)]:=by
 have J:=Qpe hf G;have L:=E _ (QT J.1);have N:=E _ (QT hf.1);have S:O (D.aZ*mx k 1)=D.aZ*mx k 1:=Ae;simp only[Ag,aq,ay];rw[Qqj,S];simp only[go_sem,L,N];unfold D0;by_cases g1:D.aP=1
 ·rw[aa g1,aa g1]
 ·rw[ab g1,ab g1];by_cases g2:D.perRev=true
  ·rw[aa g2,aa g2]
  ·rw[ab g2,ab g2]
theorem Zl3 (hf:0<=D.aZ/\D.aZ<=60000000) (J:0<=k/\k<=30000)
  (E:∀a:Int,0<=a/\a<=60000000->M [I (a*4096),I 60000]=some [I (C9 (a*4096) 60000)]):Zi M (Ag D++[I k])=some [I (D0 D k)]:=by
 have L:=Qpe hf J;have b2:=QT L.1;have b3:=QT hf.1;have N:=E _ b2;have S:=E _ b3;have T:O (D.aZ*mx k 1)=D.aZ*mx k 1:=Ae;have G:∀a:Int,0<=a/\a<=60000000->O (O (a*16)*256)=a*4096:=by
  intro a U;rw[Ae (x:=a*16),Ae];omega
 simp only[Ag,aq,ay];rw[Q0w,T,G _ b2,G _ b3];simp only[go_sem,N,S];unfold D0;by_cases g1:D.aP=1
 ·rw[aa g1,aa g1]
 ·rw[ab g1,ab g1];by_cases g2:D.perRev=true
  ·rw[aa g2,aa g2]
  ·rw[ab g2,ab g2]
theorem Q5e (hf:0<=D.aZ/\D.aZ<=60000000) (E:0<=k/\k<=30000):Ie (Ag D++[I k])=some [I (D0 D k)]:=
 Zku hf E λa G=>Y8 (by unfold i64;omega) (by unfold i64;omega) (by omega) (by have:a.natAbs*(4096:Int).natAbs<=60000000*4096:=cx (by omega) (by omega);omega)
theorem Zsf (hf:0<=D.aZ/\D.aZ<=60000000) (E:0<=k/\k<=30000):FC (Ag D++[I k])=some [I (D0 D k)]:=
 Zl3 hf E λa G=>Qyx (by omega) (by omega)
def it0:Itm:=⟨0,0,⟨0,0,0⟩,⟨0,0,0⟩,0,⟨0,0,0⟩,0,false,0,false,0,0,0,0,0,false⟩
def vD (aA:List Itm) (i:Nat):Itm:=aA.getD i it0
theorem Oz (h:i<L.length):vD L i=L[i]:=by unfold vD;simp[h]
theorem Zu7 (h:i<L.length):vD L i∈L:=by rw[Oz h];exact bv h
theorem Cs (h:i<L.length):nth [] (L.map Ag) i=Ag (vD L i):=by rw[Oz h];exact DF _ _ _ _ h
theorem O6 (h:i<L.length):L.drop i=vD L i::L.drop (i+1):=by rw[Oz h];exact L0 _ _ h
def Az (it:Itm):Prop:=1<=it.aP/\it.aP<=6
def smI (it:Itm):Prop:=it.aP=2/\it.fr≠it.to
def syI (it:Itm):Prop:=it.aP=5\/it.aP=6
instance (it:Itm):Decidable (Az it):=by unfold Az;infer_instance
instance (it:Itm):Decidable (smI it):=by unfold smI;infer_instance
instance (it:Itm):Decidable (syI it):=by unfold syI;infer_instance
theorem Qq2 (it:Itm):Hb (Ag it)=some [B (decide (smI it))]:=by
 unfold Hb;rw[Q4y];by_cases h:it.aP=2
 ·rw[Dv (by simp[h])];congr 2;by_cases E:it.fr=it.to
  ·have D:=BU.1 E;rw[aj (λG:smI it=>G.2 E)];simp[D.1,D.2.1,D.2.2]
  ·rw[ah (show smI it from⟨h,E⟩)];have D: ¬(it.fr.x=it.to.x/\it.fr.y=it.to.y/\it.fr.z=it.to.z):=λD=>E (BU.2 D);simp only[B,AC.bool.injEq,gx,Bool.and_true];by_cases a:it.fr.x=it.to.x<;>by_cases b:it.fr.y=it.to.y<;>by_cases c:it.fr.z=it.to.z<;>simp[a,b,c]at D⊢
 ·rw[Es (by simp[h]),aj (λG:smI it=>h G.1)]
def AY (it:Itm):Pt:=⟨(it.fr.x+it.to.x)*8,(it.fr.y+it.to.y)*8,(it.fr.z+it.to.z)*8⟩
theorem Jm (E:bd 1048576 D.fr) (G:bd 1048576 D.to):bd B24 (AY D):=by
 unfold bd B24 AY at*;simp only;omega
theorem Qh4 (E:bd 1048576 D.fr) (G:bd 1048576 D.to):H6 (Ag D)=some (ptR (AY D)):=by
 obtain⟨a1,a2,a3⟩:=E;obtain⟨b1,b2,b3⟩:=G;unfold H6;rw[Q3o,Ae (x:=D.fr.x+D.to.x),Ae (x:=(D.fr.x+D.to.x)*8),Ae (x:=D.fr.y+D.to.y),Ae (x:=(D.fr.y+D.to.y)*8),Ae (x:=D.fr.z+D.to.z),Ae (x:=(D.fr.z+D.to.z)*8)];rfl
def Em:List Itm->Nat->Int
 |[],_=> -1
 |it::l,k=>if it.aP=10 then Em l (k+1)else if smI it then k else-1
def Be (aA:List Itm) (i:Nat):Int:=if smI (vD aA i)/\(vD aA i).bH≠0 then Em (aA.drop (i+1)) (i+1)else-1
theorem Qmh:∀(l:List Itm) (k:Nat),Em l k= -1\/∃j:Nat,Em l k=((k+j:Nat):Int)/\∃h:j<l.length,smI l[j]/\∀i (D:i<l.length),i<j->l[i].aP=10
 |[],_=> .inl rfl
 |it::l,k=>by
  unfold Em;split
  ·rename_i E;rcases Qmh l (k+1)with h|⟨j,G,N,I,J⟩
   ·exact .inl h
   ·refine .inr ⟨j+1,by rw[G];omega,by simp;omega,by simpa using I,?_⟩;intro i D L;cases i with
    |zero=>simpa using E
    |succ i=>simpa using J i (by simpa using D) (by omega)
  ·split
   ·rename_i M;exact .inr ⟨0,by simp,by simp,by simpa using M,λi _ D=>by omega⟩
   ·exact .inl rfl
theorem Wk (aA:List Itm) (i:Nat):Be aA i= -1\/(smI (vD aA i)/\(vD aA i).bH≠0/\∃k:Nat,Be aA i=k/\i<k/\k<aA.length/\smI (vD aA k)/\∀j,i<j->j<k->(vD aA j).aP=10):=by
 unfold Be;split
 ·rename_i h;rcases Qmh (aA.drop (i+1)) (i+1)with D|⟨j,D,I,E,J⟩
  ·exact .inl D
  ·have G:i+1+j<aA.length:=by rw[dk]at I;omega
   refine .inr ⟨h.1,h.2,i+1+j,D,by omega,G,?_,?_⟩
   ·rw[Oz G];rw[List.getElem_drop]at E;exact E
   ·intro m L M;have:=J (m-(i+1)) (by omega) (by omega);rw[List.getElem_drop]at this;rw[Oz (by omega)];have e:i+1+(m-(i+1))=m:=by omega
    simp only[e]at this;exact this
 ·exact .inl rfl
theorem Qkb {M:Fn} {aA:List Itm} (N:∀it,M (Ag it)=some [B (decide (smI it))]) (S:aA.length<=1000000):∀(k i:Nat),i+k=aA.length->
  (An (LR M) [.vC Ac (aA.map Ag),I i]=some (1,[I (Em (aA.drop i) i)]))\/(An (LR M) [.vC Ac (aA.map Ag),I i]=some (2,[])/\Em (aA.drop i) i= -1)
 |0,i,T=>by
  right;refine⟨AG ?_ (by simp),by rw[du (by omega)];rfl⟩;rw[Qr4];simp only[go_sem,af];rw[ab]
 |k+1,i,T=>by
  have E:i<aA.length:=by omega
  have U:=Cs E;rw[O6 E];have O:=N (vD aA i);have D:LR M [.vC Ac (aA.map Ag),I i]=if(vD aA i).aP=10 then some (0,[.vC Ac (aA.map Ag),I (i+1:Nat)])else if smI (vD aA i)then some (1,[I i])else some (1,[I (-1)]):=by
   rw[Qr4];simp only[Ag]at O;have L:(0:Int)<=(i:Int)/\(i:Int)<(aA.length:Int):=by omega
   simp only[go_sem,af,ag,U,O,aa L];rw[aa,Ae];rfl
  unfold Em;by_cases G:(vD aA i).aP=10
  ·rw[aa G]at D⊢;rw[AR D];exact Qkb N S k (i+1) (by omega)
  ·rw[ab G]at D⊢;left;by_cases J:smI (vD aA i)
   ·rw[aa J]at D⊢;exact AG D (by simp)
   ·rw[ab J]at D⊢;exact AG D (by simp)
theorem Zar (N:∀it,M (Ag it)=some [B (decide (smI it))]) (T:L.length<=1000000) {i:Nat} (U:i<L.length):
  Qj0 M (An (LR M)) [.vC Ac (L.map Ag),I i]=some [I (Be L i)]:=by
 have V:=Cs U;have S:=N (vD L i);have D:=Qkb N T (L.length-(i+1)) (i+1) (by omega);rw[Zpr];simp only[Ag]at S;have X:O ((i:Int)+1)=((i+1:Nat):Int):=by rw[Ae];omega
 unfold Be;have J:(0:Int)<=(i:Int)/\(i:Int)<(L.length:Int):=by omega
 simp only[go_sem,af,ag,V,S,X,aa J];by_cases E:smI (vD L i)
 ·rw[ab (by simp[E])];by_cases G:(vD L i).bH=0
  ·rw[aa G,ab (λh=>h.2 G)]
  ·rw[ab G,aa ⟨E,G⟩];rcases D with D|⟨D,Y⟩
   ·simp only[D,go_sem]
   ·simp only[D,go_sem,Y];simp
 ·rw[aa (by simp[E]),ab (λh=>E h.1)]
theorem Qwy (D:L.length<=1000000) {i:Nat} (E:i<L.length):E5 [.vC Ac (L.map Ag),I i]=some [I (Be L i)]:=Zar Qq2 D E
theorem Qzs (it:Itm):EI (Ag it)=some [B (decide (syI it))]:=by
 unfold EI;rw[Q81];by_cases D:it.aP=5
 ·rw[Dv (by simp[D]),ah (show syI it from .inl D)]
 ·rw[Es (by simp[D])];by_cases E:it.aP=6
  ·rw[ah (show syI it from .inr E)];simp[E]
  ·rw[aj (show¬syI it from λh=>h.elim D E)];simp[E]
def JB (it:Itm):Int:=if it.aP=10 then 5 else if it.aP=13 then 4 else 3
theorem Zmm (it:Itm):GC (Ag it)=some [I (JB it)]:=by
 unfold GC JB;rw[Znm];simp only[go_sem];split
 ·rfl
 ·split<;>rfl
def EQ:List Itm->Int
 |[]=>2
 |it::l=>if Az it then(if syI it then 1 else 2)else EQ l
def IU (aA:List Itm) (i:Nat):Int:=if(vD aA i).aP=4 then 6 else if(vD aA i).bH=0 then 1 else if syI (vD aA i)then 1 else EQ (aA.drop (i+1))
theorem Qut {L M:Fn} {aA:List Itm} (S:∀k:Int,L [I k]=some [B (decide (1<=k/\k<=6))]) (T:∀it,M (Ag it)=some [B (decide (syI it))]) (V:aA.length<=1000000):∀(k i:Nat),i+k=aA.length->
  (An (Mr L M) [.vC Ac (aA.map Ag),I i]=some (1,[I (EQ (aA.drop i))]))\/(An (Mr L M) [.vC Ac (aA.map Ag),I i]=some (2,[])/\EQ (aA.drop i)=2)
 |0,i,X=>by
  right;refine⟨AG ?_ (by simp),by rw[du (by omega)];rfl⟩;rw[Q0a];simp only[go_sem,af];rw[ab]
 |k+1,i,X=>by
  have E:i<aA.length:=by omega
  have Y:=Cs E;rw[O6 E];have U:=T (vD aA i);have hm:=S (vD aA i).aP;have D:Mr L M [.vC Ac (aA.map Ag),I i]=if Az (vD aA i)then(if syI (vD aA i)then some (1,[I 1])else some (2,[]))else some (0,[.vC Ac (aA.map Ag),I (i+1:Nat)]):=by
   rw[Q0a];simp only[Ag]at U;have O:(0:Int)<=(i:Int)/\(i:Int)<(aA.length:Int):=by omega
   simp only[go_sem,af,ag,Y,U,hm,aa O];rw[aa,Ae];by_cases N:Az (vD aA i)
   ·rw[aa (show 1<=(vD aA i).aP/\(vD aA i).aP<=6 from N),aa N]
   ·rw[ab (show¬(1<=(vD aA i).aP/\(vD aA i).aP<=6)from N),ab N];rfl
  unfold EQ;by_cases G:Az (vD aA i)
  ·rw[aa G]at D⊢;by_cases J:syI (vD aA i)
   ·rw[aa J]at D⊢;exact .inl (AG D (by simp))
   ·rw[ab J]at D⊢;exact .inr ⟨AG D (by simp),rfl⟩
  ·rw[ab G]at D⊢;rw[AR D];exact Qut S T V k (i+1) (by omega)
theorem Q56 (U:∀k:Int,M [I k]=some [B (decide (1<=k/\k<=6))]) (N:∀it,Z (Ag it)=some [B (decide (syI it))]) (V:L.length<=1000000) {i:Nat} (X:i<L.length):
  X5 M Z (An (Mr M Z)) [.vC Ac (L.map Ag),I i]=some [I (IU L i)]:=by
 have Y:=Cs X;have S:=N (vD L i);have D:=Qut U N V (L.length-(i+1)) (i+1) (by omega);rw[Zfl];simp only[Ag]at S;have hw:O ((i:Int)+1)=((i+1:Nat):Int):=by rw[Ae];omega
 unfold IU;have J:(0:Int)<=(i:Int)/\(i:Int)<(L.length:Int):=by omega
 simp only[go_sem,af,ag,Y,S,hw,aa J];by_cases E:(vD L i).aP=4
 ·rw[aa E,aa E]
 ·rw[ab E,ab E];by_cases G:(vD L i).bH=0
  ·rw[aa G,aa G]
  ·rw[ab G,ab G];by_cases T:syI (vD L i)
   ·simp only[aa T]
   ·simp only[ab T];rcases D with D|⟨D,hn⟩
    ·simp only[D,go_sem]
    ·simp only[D,go_sem,hn];simp
theorem Znw (D:L.length<=1000000) {i:Nat} (E:i<L.length):G8 [.vC Ac (L.map Ag),I i]=some [I (IU L i)]:=Q56 O4 Qzs D E
noncomputable def CE (aA:List Itm) (i k:Nat):List Pt:=Ez (AY (vD aA i)) (At (vD aA i).to) (AY (vD aA k)) ((vD aA i).bH*16)
def drawn (it:Itm):Prop:=By it/\0<=it.bH/\it.bH<=1000
theorem Zub (O:i<L.length) (S:A<L.length) (T:drawn (vD L i))
  (G:Y (Ag (vD L i))=some (ptR (AY (vD L i)))) (J:Y (Ag (vD L A))=some (ptR (AY (vD L A)))) (U:Z [I (vD L i).to.x,I (vD L i).to.y,I (vD L i).to.z]=some (ptR (At (vD L i).to)))
  (N:M (ptR (AY (vD L i))++ptR (At (vD L i).to)++ptR (AY (vD L A))++[I ((vD L i).bH*16)])=some [.vC kPt ((CE L i A).map ptR)]):
  T5 M Z Y [.vC Ac (L.map Ag),I i,I A]=some [.vC kPt ((CE L i A).map ptR)]:=by
 have V:=Cs O;have X:=Cs S;obtain⟨-,b1,b2⟩:=T;rw[Zb5];simp only[Ag]at G J;simp only[ptR,aq,ay]at N;have E:(0:Int)<=(i:Int)/\(i:Int)<(L.length:Int):=by omega
 have D:(0:Int)<=(A:Int)/\(A:Int)<(L.length:Int):=by omega
 simp only[go_sem,af,ag,V,X,G,J,U,aa E,aa D];rw[Ae];simp only[N,go_sem]
theorem Zne (G:i<L.length) (J:A<L.length) (D:drawn (vD L i)) (E:drawn (vD L A)):
  NA [.vC Ac (L.map Ag),I i,I A]=some [.vC kPt ((CE L i A).map ptR)]:=
 Zub G J D (Qh4 D.1.2.1 D.1.2.2.1) (Qh4 E.1.2.1 E.1.2.2.1) (YL (AP D.1.2.2.1 (by decide)))
  (Q35 (Jm D.1.2.1 D.1.2.2.1) (Fb D.1.2.2.1) (Jm E.1.2.1 E.1.2.2.1) (by have:=D.2;omega))
theorem Iu {aA:List Itm} {i k:Nat} (D:drawn (vD aA i)) (E:drawn (vD aA k)):(∀p∈CE aA i k,bd B24 p)/\1<=(CE aA i k).length/\(CE aA i k).length<=65:=
 Qsa (Jm D.1.2.1 D.1.2.2.1) (Fb D.1.2.2.1) (Jm E.1.2.1 E.1.2.2.1)
noncomputable def G2 (aA:List Itm) (i:Nat) (frm:Int):List Pt:=if 0<=frm then(CE aA frm.toNat i).drop ((CE aA frm.toNat i).length/2)else(BR (vD aA i)).take 1
noncomputable def IW (aA:List Itm) (i:Nat):List Pt:=if 0<=Be aA i then(CE aA i (Be aA i).toNat).take ((CE aA i (Be aA i).toNat).length/2+1)else(BR (vD aA i)).drop 1
noncomputable def Bq (aA:List Itm) (i:Nat) (frm:Int):List Pt:=if smI (vD aA i)then G2 aA i frm++[AY (vD aA i)]++IW aA i else BR (vD aA i)
def IJ (aA:List Itm) (i:Nat) (frm:Int):Prop:=frm= -1\/∃f:Nat,frm=f/\f<aA.length/\drawn (vD aA f)
theorem Zhx (G:drawn (vD L i)) (hf:IJ L i u):(∀p∈G2 L i u,bd 67108864 p)/\(G2 L i u).length<=65:=by
 unfold G2;rcases hf with rfl|⟨f,rfl,I,D⟩
 ·rw[ab];exact⟨λp E=>YW G.1 p (d7 E),by rw[fq];omega⟩
 ·rw[aa];obtain⟨J,M,N⟩:=Iu (aA:=L) (i:=(f:Int).toNat) (k:=i) (by simpa using D) G;exact⟨λp E=>AP (J p (eu E)) (by decide),by rw[dk];omega⟩
theorem Pi (D:∀k<L.length,Az (vD L k)->drawn (vD L k)) (J:0<=Be L i):∃k:Nat,Be L i=k/\k<L.length/\drawn (vD L k):=by
 rcases Wk L i with h|⟨-,-,k,I,-,E,G,-⟩
 ·omega
 ·exact⟨k,I,E,D k E ⟨by have:=G.1;omega,by have:=G.1;omega⟩⟩
theorem Zgm (I:drawn (vD L i)) (J:(vD L i).aP≠3) (D:∀k<L.length,Az (vD L k)->drawn (vD L k)):(∀p∈IW L i,bd 67108864 p)/\(IW L i).length<=66:=by
 unfold IW;by_cases h:0<=Be L i
 ·rw[aa h];obtain⟨k,M,N,E⟩:=Pi D h;obtain⟨O,J,S⟩:=Iu (aA:=L) (i:=i) (k:=(Be L i).toNat) I (by rw[M];simpa using E);exact⟨λp G=>AP (O p (d7 G)) (by decide),by rw[fq];omega⟩
 ·rw[ab h];refine⟨λp G=>YW I.1 p (eu G),?_⟩;unfold BR;rw[ab J];simp
theorem PD (E:drawn (vD L i)) (hf:IJ L i u) (G:∀k<L.length,Az (vD L k)->drawn (vD L k)):
  (∀p∈Bq L i u,bd 67108864 p)/\(Bq L i u).length<=65537:=by
 unfold Bq;by_cases I:smI (vD L i)
 ·rw[aa I];obtain⟨J,N⟩:=Zhx E hf;obtain⟨M,O⟩:=Zgm E (by have:=I.1;omega) G;refine⟨λp D=> ?_,by rw[am,am];simp;omega⟩;rcases co.1 D with D|D
  ·rcases co.1 D with D|D
   ·exact J p D
   ·simp at D;subst D;exact AP (Jm E.1.2.1 E.1.2.2.1) (by decide)
  ·exact M p D
 ·rw[ab I];exact⟨YW E.1,(W8 _).2⟩
theorem Rb (l:List Pt):List.drop (Int.toNat 1) (l.map ptR)=(l.drop 1).map ptR:=by rw[show Int.toNat 1=1 from rfl,i8]
theorem Jf (l:List Pt):List.take (Int.toNat 1) (l.map ptR)=(l.take 1).map ptR:=by rw[show Int.toNat 1=1 from rfl,i7]
theorem Vt (n:Nat) (h:n<=1000000):O ((n:Int).tdiv 2)=((n/2:Nat):Int):=by
 rw[dh (by omega),Ae];omega
theorem Zej (hi:i<L.length) (O:drawn (vD L i)) (hf:IJ L i u) (J:∀k<L.length,Az (vD L k)->drawn (vD L k))
  (hK:V (Ag (vD L i))=some [.vC kPt ((BR (vD L i)).map ptR),B true]) (hM:W (Ag (vD L i))=some [B (decide (smI (vD L i)))])
  (hJ:∀{i k:Nat},i<L.length->k<L.length->drawn (vD L i)->drawn (vD L k)->Y [.vC Ac (L.map Ag),I i,I k]=some [.vC kPt ((CE L i k).map ptR)])
  (hS:Z [.vC Ac (L.map Ag),I i]=some [I (Be L i)]) (hC:M (Ag (vD L i))=some (ptR (AY (vD L i)))):
  Xg M Z Y W V [.vC Ac (L.map Ag),I i,I u]=some [.vC kPt ((Bq L i u).map ptR)]:=by
 have r1:=Cs hi;obtain⟨a5,a6⟩:=W8 (vD L i);rw[Q5b];simp only[Ag]at hK hM hC;have a1:(0:Int)<=(i:Int)/\(i:Int)<(L.length:Int):=by omega
 simp only[go_sem,af,ag,r1,hK,hM,hC,hS,ay,aa a1];unfold Bq;by_cases S:smI (vD L i)
 case neg=>rw[aa (by simp[S]),ab S]
 rw[ab (by simp[S]),aa S];have T:(0:Nat)<=1/\(1:Int)<=((BR (vD L i)).length:Int):=by omega
 rw[aa T,aa T];have a2:(vD L i).aP≠3:=by have:=S.1;omega
 have a7:(BR (vD L i)).length=2:=by unfold BR;rw[ab a2];rfl
 have E:∀(X:List Pt),X.length<=100->∀{c:Option (List AC)},(Be L i<0->c=some [.vC kPt ((X++[AY (vD L i)]++(BR (vD L i)).drop 1).map ptR)])->
   ((h:0<=Be L i)->c=some [.vC kPt ((X++[AY (vD L i)]++(CE L i (Be L i).toNat).take ((CE L i (Be L i).toNat).length/2+1)).map ptR)])->c=some [.vC kPt ((X++[AY (vD L i)]++IW L i).map ptR)]:=by
  intro X _ c h1 h2;unfold IW;by_cases h:0<=Be L i
  ·rw[aa h];exact h2 h
  ·rw[ab h];exact h1 (by omega)
 rcases hf with rfl|⟨f,rfl,a3,U⟩
 ·rw[ab (show¬(-1:Int)>=0 by omega)];unfold G2;rw[ab (show¬(0:Int)<= -1 by omega)];refine E _ (by rw[fq];omega) (λa0=> ?_) (λD=> ?_)
  ·rw[ab,aa (by simp[Jf];omega),aa (by simp;omega),aa (by simp;omega)];simp only[Jf,Rb,bh,ba,cm]
  ·obtain⟨k,hk,N,G⟩:=Pi J D;obtain⟨j1,j2,j3⟩:=Iu (aA:=L) (i:=i) (k:=k) O G;have hj:=hJ hi N O G;rw[hk]at D⊢;rw[aa];simp only[hj,go_sem,af,ag];rw[Vt _ (by omega),Ae];rw[aa,aa (by simp;omega),aa (by simp;omega),aa (by simp;omega)];have e:((((CE L i k).length/2:Nat):Int)+1).toNat=(CE L i k).length/2+1:=by omega
   simp only[Jf,e,bh,ba,cm,i7]
 ·have a4:=hJ a3 hi U O;obtain⟨f1,f2,f3⟩:=Iu (aA:=L) (i:=f) (k:=i) U O;rw[aa];simp only[a4,go_sem,af,ag];unfold G2;rw[aa (show(0:Int)<=(f:Int) by omega),ag,Vt _ (by omega),aa (show(0:Int)<=(((CE L f i).length/2:Nat):Int)/\(((CE L f i).length/2:Nat):Int)<=((CE L f i).length:Int) by omega),ag];refine E _ (by rw[dk];omega) (λa0=> ?_) (λD=> ?_)
  ·rw[ab,aa (by simp;omega),aa (by simp;omega),aa (by simp;omega)];simp only[Rb,bh,ba,cm,i8]
  ·obtain⟨k,hk,N,G⟩:=Pi J D;obtain⟨j1,j2,j3⟩:=Iu (aA:=L) (i:=i) (k:=k) O G;have hj:=hJ hi N O G;rw[hk]at D⊢;rw[aa];simp only[hj,go_sem,af,ag];rw[Vt _ (by omega),Ae];rw[aa,aa (by simp;omega),aa (by simp;omega),aa (by simp;omega)];have e:((((CE L i k).length/2:Nat):Int)+1).toNat=(CE L i k).length/2+1:=by omega
   simp only[e,bh,ba,cm,i7,i8]
theorem Zvh (J:L.length<=1000000) {i:Nat} {frm:Int} (G:i<L.length) (E:drawn (vD L i)) (hf:IJ L i frm) (D:∀k<L.length,Az (vD L k)->drawn (vD L k)):
  Hc [.vC Ac (L.map Ag),I i,I frm]=some [.vC kPt ((Bq L i frm).map ptR)]:=
 Zej G E hf D (Q6t E.1) (Qq2 _) (λM N O S=>Zne M N O S) (Qwy J G) (Qh4 E.1.2.1 E.1.2.2.1)
end Go.Bm
namespace Go.Bm
open Classical
def Bo (it:Itm):Prop:=it.aP<1\/it.aP>14\/(Az it/\(¬By it\/(it.aP≠1/\(it.aZ<1\/it.aZ>60000000))\/it.bH<0\/it.bH>1000))\/(¬Az it/\it.aP=8/\(it.n<3\/it.n>5\/it.aS<0\/it.aS>30000))
theorem Zcu (Y:Z [I D.aP]=some [B (decide (1<=D.aP/\D.aP<=6))]) (hV:∃v,M (Ag D)=some [B v]/\(v=true↔By D)):
  ∃v,Qah M Z (Ag D)=some [B v]/\(v=true↔Bo D):=by
 obtain⟨v,hv,G⟩:=hV;rw[Zfg];simp only[go_sem,Y,hv];unfold Bo Az;by_cases L:D.aP<1
 ·rw[aa L];exact⟨_,rfl,by simp[L]⟩
 rw[ab L];by_cases O:D.aP>14
 ·rw[aa O];exact⟨_,rfl,by simp;omega⟩
 rw[ab O];by_cases N:1<=D.aP/\D.aP<=6
 ·rw[aa N];by_cases E:By D
  ·rw[ab (by simp[G.2 E])];have a0:D.aP≠8:=by omega
   by_cases c5:D.aP=1
   ·rw[ab];by_cases J:D.bH<0
    ·rw[aa J];exact⟨_,rfl,fj rfl (by omega)⟩
    ·rw[ab J];refine⟨_,rfl,?_⟩;rw[bp];constructor
     ·intro h;omega
     ·rintro(h|h|⟨-,h|h|h|h⟩|h)
      ·omega
      ·omega
      ·exact absurd E h
      ·omega
      ·omega
      ·exact h
      ·omega
   ·rw[aa];by_cases S:D.aZ<1
    ·rw[aa S];exact⟨_,rfl,fj rfl (by omega)⟩
    rw[ab S];by_cases T:D.aZ>60000000
    ·rw[aa T];exact⟨_,rfl,fj rfl (by omega)⟩
    rw[ab T];by_cases J:D.bH<0
    ·rw[aa J];exact⟨_,rfl,fj rfl (by omega)⟩
    ·rw[ab J];refine⟨_,rfl,?_⟩;rw[bp];constructor
     ·intro h;omega
     ·rintro(h|h|⟨-,h|h|h|h⟩|h)
      ·omega
      ·omega
      ·exact absurd E h
      ·omega
      ·omega
      ·exact h
      ·omega
  ·rw[aa (λh=>E (G.1 h))];exact⟨_,rfl,fj rfl (.inr (.inr (.inl ⟨N, .inl E⟩)))⟩
 ·rw[ab N];by_cases E:D.aP=8
  ·rw[aa E];by_cases U:D.n<3
   ·rw[aa U];exact⟨_,rfl,fj rfl (by omega)⟩
   rw[ab U];by_cases V:D.n>5
   ·rw[aa V];exact⟨_,rfl,fj rfl (by omega)⟩
   rw[ab V];by_cases X:D.aS<0
   ·rw[aa X];exact⟨_,rfl,fj rfl (by omega)⟩
   rw[ab X];refine⟨_,rfl,?_⟩;rw[bp];omega
  ·rw[ab E];exact⟨_,rfl,df (by simp) (by omega)⟩
theorem Zcq (it:Itm):∃v,JH (Ag it)=some [B v]/\(v=true↔Bo it):=Zcu (O4 _) (Uw it)
theorem Zq2 (it:Itm):JH (Ag it)=some [B (decide (Bo it))]:=by
 obtain⟨v,E,D⟩:=Zcq it;rw[E];congr 2;by_cases c:Bo it
 ·rw[ah c,D.2 c]
 ·rw[aj c];cases v
  ·rfl
  ·exact absurd (D.1 rfl) c
noncomputable def DR (aA:List Itm):Nat->Nat->Int->Int
 |0,_,_=>0
 |k+1,i,last=>if Bo (vD aA i)then 1 else if Az (vD aA i)then(if 0<=last/\(vD aA last.toNat).to≠(vD aA i).fr then 13 else DR aA k (i+1) i)else DR aA k (i+1) last
theorem Qbo {N O:Fn} {aA:List Itm} (S:∀k:Int,N [I k]=some [B (decide (1<=k/\k<=6))]) (T:∀it,O (Ag it)=some [B (decide (Bo it))]) (hl:aA.length<=1000000):
  ∀(k i:Nat) (last:Int),i+k=aA.length->(last= -1\/(0<=last/\last<i))->
  (An (ID N O) [.vC Ac (aA.map Ag),I last, .vC Ac (aA.map Ag),I aA.length,I i]=some (1,[I (DR aA k i last)])/\DR aA k i last≠0)\/
  (An (ID N O) [.vC Ac (aA.map Ag),I last, .vC Ac (aA.map Ag),I aA.length,I i]=some (2,[])/\DR aA k i last=0)
 |0,i,last,hi,_=>by
  right;refine⟨AG ?_ (by simp),rfl⟩;rw[Ql8];simp only[go_sem];rw[ab]
 |k+1,i,last,hi,U=>by
  have V:i<aA.length:=by omega
  have hr:=Cs V;have hw:=T (vD aA i);have hm:=S (vD aA i).aP;have X:(0:Int)<=(i:Int)/\(i:Int)<(aA.length:Int):=by omega
  have D:ID N O [.vC Ac (aA.map Ag),I last, .vC Ac (aA.map Ag),I aA.length,I i]=if Bo (vD aA i)then some (1,[I 1])else if Az (vD aA i)then(if 0<=last/\(vD aA last.toNat).to≠(vD aA i).fr then some (1,[I 13])else some (0,[.vC Ac (aA.map Ag),I i, .vC Ac (aA.map Ag),I aA.length,I (i+1:Nat)]))else some (0,[.vC Ac (aA.map Ag),I last, .vC Ac (aA.map Ag),I aA.length,I (i+1:Nat)]):=by
   rw[Ql8];simp only[Ag]at hw;simp only[go_sem,af,ag,hr,hw,hm,aa X];rw[aa,Ae];by_cases E:Bo (vD aA i)
   ·rw[aa E,aa E]
   rw[ab E,ab E];by_cases G:Az (vD aA i)
   ·rw[ab (λh=>h G),aa G];rcases U with rfl|⟨h1,h2⟩
    ·rw[ab (show¬(-1:Int)>=0 by omega),ab (λh=>by omega)];rfl
    ·obtain⟨L,rfl⟩:=bj h1;have hL:L<aA.length:=by omega
     have M:(0:Int)<=(L:Int)/\(L:Int)<(aA.length:Int):=by omega
     have Y:=Cs hL;simp only[ag,Y,go_sem,aa M];rw[aa];by_cases J:(vD aA L).to=(vD aA i).fr
     ·have c4:=BU.1 J;rw[ab (λh=>h ⟨c4.1,c4.2.1,c4.2.2,trivial⟩),ab (λh=>h.2 J)];rfl
     ·rw[aa (λh=>J (BU.2 ⟨h.1,h.2.1,h.2.2.1⟩)),aa ⟨h1,J⟩]
   ·rw[aa (show¬(1<=(vD aA i).aP/\(vD aA i).aP<=6)from G),ab G];rfl
  unfold DR;by_cases E:Bo (vD aA i)
  ·rw[aa E]at D⊢;exact .inl ⟨AG D (by simp),by simp⟩
  ·rw[ab E]at D⊢;by_cases G:Az (vD aA i)
   ·rw[aa G]at D⊢;by_cases J:0<=last/\(vD aA last.toNat).to≠(vD aA i).fr
    ·rw[aa J]at D⊢;exact .inl ⟨AG D (by simp),by simp⟩
    ·rw[ab J]at D⊢;rw[AR D];exact Qbo S T hl k (i+1) i (by omega) (.inr (by omega))
   ·rw[ab G]at D⊢;rw[AR D];exact Qbo S T hl k (i+1) last (by omega) (by omega)
noncomputable def BM (aA:List Itm):Int:=if aA.length>20000 then 10 else DR aA aA.length 0 (-1)
theorem Zpa {aA:List Itm} (E:∀k:Int,M [I k]=some [B (decide (1<=k/\k<=6))]) (G:∀it,Z (Ag it)=some [B (decide (Bo it))]):
  VQ M Z (An (ID M Z)) [.vC Ac (aA.map Ag)]=some [I (BM aA)]:=by
 rw[Zan];simp only[go_sem,af];unfold BM;by_cases D:aA.length>20000
 ·rw[aa,aa D]
 ·rw[ab,ab D];rcases Qbo E G (aA:=aA) (by omega) aA.length 0 (-1) (by omega) (.inl rfl)with⟨h,-⟩|⟨h,J⟩
  ·have h':An (ID M Z) [.vC Ac (aA.map Ag),I (-1), .vC Ac (aA.map Ag),I aA.length,I 0]=some (1,[I (DR aA aA.length 0 (-1))]):=h;simp only[h',go_sem]
  ·have h':An (ID M Z) [.vC Ac (aA.map Ag),I (-1), .vC Ac (aA.map Ag),I aA.length,I 0]=some (2,[]):=h;simp only[h',go_sem,J];simp
theorem Zmw (aA:List Itm):GK [.vC Ac (aA.map Ag)]=some [I (BM aA)]:=Zpa O4 Zq2
theorem T1 {aA:List Itm}:∀(k i:Nat) (last:Int),i+k=aA.length->DR aA k i last=0->∀j,i<=j->j<aA.length-> ¬Bo (vD aA j)
 |0,i,last,G,_,j,I,D=>by omega
 |k+1,i,last,G,h,j,I,D=>by
  unfold DR at h;split at h
  ·omega
  ·rename_i c;by_cases E:j=i
   ·subst E;exact c
   ·split at h
    ·split at h
     ·omega
     ·exact T1 k (i+1) _ (by omega) h j (by omega) D
    ·exact T1 k (i+1) _ (by omega) h j (by omega) D
theorem Nt (h:BM L=0):L.length<=20000/\∀j,j<L.length-> ¬Bo (vD L j):=by
 unfold BM at h;split at h
 ·omega
 ·exact⟨by omega,λj D=>T1 _ 0 _ (by omega) h j (by omega) D⟩
theorem K7 (h: ¬Bo D) (E:Az D):drawn D/\(D.aP=1\/1<=D.aZ/\D.aZ<=60000000):=by
 unfold Bo at h;have G:By D:=by
  by_cases c:By D
  ·exact c
  ·exact absurd (.inr (.inr (.inl ⟨E, .inl c⟩))) h
 have I: ¬((D.aP≠1/\(D.aZ<1\/D.aZ>60000000))\/D.bH<0\/D.bH>1000):=λc=>h (.inr (.inr (.inl ⟨E, .inr c⟩)));exact⟨⟨G,by omega,by omega⟩,by omega⟩
theorem Zjt (h: ¬Bo D) (E:D.aP=8):0<=D.aS/\D.aS<=30000:=by
 unfold Bo at h;have G: ¬Az D:=λc=>by have:=c.2;omega
 have I: ¬(D.n<3\/D.n>5\/D.aS<0\/D.aS>30000):=λc=>h (.inr (.inr (.inr ⟨G,E,c⟩)));omega
noncomputable def AV (aU aZ aX:Int) (s:List Sgm×Int×Pt) (q:Pt):List Sgm×Int×Pt:=if q=s.2.2 then s else(s.1++[⟨q,Au s.2.2 q,aU,aZ,aX⟩],s.2.1+Au s.2.2 q,q)
theorem Qfc {MK MSo ML MP MSy MR MF MO MM MC:Fn} {aA:List Itm} {pts:List Pt} (T:∀{a b:Pt},bd 67108864 a->bd 67108864 b->ML [I a.x,I a.y,I a.z,I b.x,I b.y,I b.z]=some [I (Au a b)]/\0<=Au a b/\Au a b<=268435456)
  (D:∀p∈pts,bd 67108864 p) (M:pts.length<=1000000) {aD:List Mrk} {aS i i2 n aU aZ aX:Int} {bI:Bool} {st:Pt}:
  ∀(k j:Nat) (s:List Sgm×Int×Pt) (g:Pt) (E:Int),j+k=pts.length->s.1.length+k<=1048576->0<=s.2.1->s.2.1+k*268435456<=4000000000000000000->bd 67108864 s.2.2->
  An (OP MK MSo ML MP MSy MR MF MO MM MC) [.vC Af (s.1.map Ax), .vC Av (aD.map A1), .vC Ac (aA.map Ag),I s.2.1,I aS,B bI,I i, .vC Ac (aA.map Ag),I n,I i2, .vC kPt (pts.map ptR),I pts.length,I j,I 0,I 0,I 0, .vC Af [], .vC Av [],I st.x,I st.y,I st.z,I s.2.2.x,I s.2.2.y,I s.2.2.z,I g.x,I g.y,I g.z,I E,I aU,I aZ,I aX]=
   some (2,[.vC Af (((pts.drop j).foldl (AV aU aZ aX) s).1.map Ax), .vC Av (aD.map A1), .vC Ac (aA.map Ag),I ((pts.drop j).foldl (AV aU aZ aX) s).2.1,I aS,B bI,I i, .vC Ac (aA.map Ag),I n,I i2,I 0,I 0,I 0, .vC Af [], .vC Av [],I st.x,I st.y,I st.z,I ((pts.drop j).foldl (AV aU aZ aX) s).2.2.x,I ((pts.drop j).foldl (AV aU aZ aX) s).2.2.y,I ((pts.drop j).foldl (AV aU aZ aX) s).2.2.z])
 |0,j,s,g,E,hj,_,_,_,_=>by
  refine AG ?_ (by simp);rw[TT];simp only[go_sem];rw[ab,du (by omega)];rfl
 |k+1,j,s,g,E,hj,hs,N,U,G=>by
  have J:j<pts.length:=by omega
  have Y:nth [] (pts.map ptR) j=ptR pts[j]:=DF _ _ _ _ J;have hq:=D _ (bv J);have S:(0:Int)<=(j:Int)/\(j:Int)<(pts.length:Int):=by omega
  rw[L0 pts j J,fg];generalize pts[j]=q at*;obtain⟨aF,len,at_⟩:=s;simp only at hs N U G;obtain⟨e1,e2,e3⟩:=T G hq;have hw:O ((j:Int)+1)=((j+1:Nat):Int):=by rw[Ae];omega
  by_cases c:q=at_
  ·have L:OP MK MSo ML MP MSy MR MF MO MM MC [.vC Af (aF.map Ax), .vC Av (aD.map A1), .vC Ac (aA.map Ag),I len,I aS,B bI,I i, .vC Ac (aA.map Ag),I n,I i2, .vC kPt (pts.map ptR),I pts.length,I j,I 0,I 0,I 0, .vC Af [], .vC Av [],I st.x,I st.y,I st.z,I at_.x,I at_.y,I at_.z,I g.x,I g.y,I g.z,I E,I aU,I aZ,I aX]=
     some (0,[.vC Af (aF.map Ax), .vC Av (aD.map A1), .vC Ac (aA.map Ag),I len,I aS,B bI,I i, .vC Ac (aA.map Ag),I n,I i2, .vC kPt (pts.map ptR),I pts.length,I (j+1:Nat),I 0,I 0,I 0, .vC Af [], .vC Av [],I st.x,I st.y,I st.z,I at_.x,I at_.y,I at_.z,I g.x,I g.y,I g.z,I E,I aU,I aZ,I aX]):=by
    have V:=BU.1 c;rw[TT];simp only[go_sem,af,ag,Y,aa S,hw];rw[aa,aa ⟨V.1,V.2.1,V.2.2,trivial⟩]
   rw[AR L];have:=Qfc (MK:=MK) (MSo:=MSo) (ML:=ML) (MP:=MP) (MSy:=MSy) (MR:=MR) (MF:=MF) (MO:=MO) (MM:=MM) (MC:=MC) (aA:=aA) T D M (aD:=aD) (aS:=aS) (i:=i) (i2:=i2) (n:=n) (aU:=aU) (aZ:=aZ) (aX:=aX) (bI:=bI) (st:=st) k (j+1) (aF,len,at_) g E (by omega) (by simp only;omega) N (by simp only;omega) G;rw[this];have e:AV aU aZ aX (aF,len,at_) q=(aF,len,at_):=aa c;rw[e]
  ·have L:OP MK MSo ML MP MSy MR MF MO MM MC [.vC Af (aF.map Ax), .vC Av (aD.map A1), .vC Ac (aA.map Ag),I len,I aS,B bI,I i, .vC Ac (aA.map Ag),I n,I i2, .vC kPt (pts.map ptR),I pts.length,I j,I 0,I 0,I 0, .vC Af [], .vC Av [],I st.x,I st.y,I st.z,I at_.x,I at_.y,I at_.z,I g.x,I g.y,I g.z,I E,I aU,I aZ,I aX]=
     some (0,[.vC Af ((aF++[(⟨q,Au at_ q,aU,aZ,aX⟩:Sgm)]).map Ax), .vC Av (aD.map A1), .vC Ac (aA.map Ag),I (len+Au at_ q),I aS,B bI,I i, .vC Ac (aA.map Ag),I n,I i2, .vC kPt (pts.map ptR),I pts.length,I (j+1:Nat),I 0,I 0,I 0, .vC Af [], .vC Av [],I st.x,I st.y,I st.z,I q.x,I q.y,I q.z,I q.x,I q.y,I q.z,I (Au at_ q),I aU,I aZ,I aX]):=by
    have X:(aF.map Ax++[[AC.int IntKind.i64 q.x,AC.int IntKind.i64 q.y,AC.int IntKind.i64 q.z,AC.int IntKind.i64 (Au at_ q),AC.int IntKind.i64 aU,AC.int IntKind.i64 aZ,AC.int IntKind.i64 aX]])=(aF++[(⟨q,Au at_ q,aU,aZ,aX⟩:Sgm)]).map Ax:=by rw[bh];rfl
    rw[TT];simp only[go_sem,af,ag,Y,aa S,hw,e1];rw[aa,ab (λh=>c (BU.2 ⟨h.1,h.2.1,h.2.2.1⟩)),X,aa (by simp;omega),ab (by simp;omega),Ae]
   rw[AR L];have:=Qfc (MK:=MK) (MSo:=MSo) (ML:=ML) (MP:=MP) (MSy:=MSy) (MR:=MR) (MF:=MF) (MO:=MO) (MM:=MM) (MC:=MC) (aA:=aA) T D M (aD:=aD) (aS:=aS) (i:=i) (i2:=i2) (n:=n) (aU:=aU) (aZ:=aZ) (aX:=aX) (bI:=bI) (st:=st) k (j+1) (aF++[⟨q,Au at_ q,aU,aZ,aX⟩],len+Au at_ q,q) q (Au at_ q) (by omega) (by simp;omega) (by simp only;omega) (by simp only;omega) hq;have e:AV aU aZ aX (aF,len,at_) q=(aF++[⟨q,Au at_ q,aU,aZ,aX⟩],len+Au at_ q,q):=ab c;rw[e];exact this
theorem QJ {aU aZ aX:Int}:∀(D:List Pt) (s:List Sgm×Int×Pt),(∀p∈D,bd 67108864 p)->bd 67108864 s.2.2->0<=s.2.1->
  (D.foldl (AV aU aZ aX) s).1.length<=s.1.length+D.length/\s.2.1<=(D.foldl (AV aU aZ aX) s).2.1/\(D.foldl (AV aU aZ aX) s).2.1<=s.2.1+D.length*268435456/\bd 67108864 (D.foldl (AV aU aZ aX) s).2.2
 |[],s,_,G,L=>⟨by simp,by simp,by simp,G⟩
 |q::D,s,I,G,L=>by
  rw[fg];have M:=I q (by simp);have N:=FM G M;have E:AV aU aZ aX s q=s\/AV aU aZ aX s q=(s.1++[⟨q,Au s.2.2 q,aU,aZ,aX⟩],s.2.1+Au s.2.2 q,q):=by unfold AV;split<;>simp
  rcases E with E|E
  ·rw[E];obtain⟨a,b,c,d⟩:=QJ D s (λp J=>I p (by simp[J])) G L (aU:=aU) (aZ:=aZ) (aX:=aX);exact⟨by simp;omega,b,by simp;omega,d⟩
  ·rw[E];obtain⟨a,b,c,d⟩:=QJ D (s.1++[⟨q,Au s.2.2 q,aU,aZ,aX⟩],s.2.1+Au s.2.2 q,q) (λp J=>I p (by simp[J])) M (by simp only;omega) (aU:=aU) (aZ:=aZ) (aX:=aX);simp only[am,bf,bm]at a b c;exact⟨by simp;omega,by omega,by simp;omega,d⟩
structure BSt where
 aF:List Sgm
 aD:List Mrk
 (len aS frm:Int)
 bI:Bool
 (aQ at_:Pt)
def IN (it:Itm):Int:=if syI it then mn (it.aZ*16) 16777216 else 0
def LP (it:Itm) (s:Int):Int:=if it.aP=8/\(it.n=3\/it.n=4)then it.aS else s
noncomputable def Ew (aA:List Itm) (i:Nat) (s:BSt):List Sgm×Int×Pt:=
 (Bq aA i s.frm).foldl (AV i (D0 (vD aA i) s.aS) (IN (vD aA i))) (s.aF,s.len,if s.bI=true then s.at_ else At (vD aA i).fr)
noncomputable def Et (aA:List Itm) (i:Nat) (s:BSt):BSt:=
 if Az (vD aA i)then
  ⟨(Ew aA i s).1,s.aD++[⟨(Ew aA i s).2.1,IU aA i,i⟩],(Ew aA i s).2.1,s.aS,if 0<=Be aA i then i else-1,true,if s.bI=true then s.aQ else At (vD aA i).fr,(Ew aA i s).2.2⟩
 else⟨s.aF,s.aD++[⟨s.len,JB (vD aA i),i⟩],s.len,LP (vD aA i) s.aS,s.frm,s.bI,s.aQ,s.at_⟩
noncomputable def Aw (aA:List Itm):Nat->BSt
 |0=>⟨[],[],0,0,-1,false,⟨0,0,0⟩,⟨0,0,0⟩⟩
 |i+1=>Et aA i (Aw aA i)
abbrev Im (aA:List Itm) (i:Nat) (s:BSt):List AC:=
 [.vC Af (s.aF.map Ax), .vC Av (s.aD.map A1), .vC Ac (aA.map Ag),I s.len,I s.aS,I s.frm,B s.bI, .vC Ac (aA.map Ag),I aA.length,I i,I 0,I 0,I 0, .vC Af [], .vC Av [],I s.aQ.x,I s.aQ.y,I s.aQ.z,I s.at_.x,I s.at_.y,I s.at_.z]
structure BOK (aA : List Itm) (i : Nat) (s : BSt) : Prop where
 aF:s.aF.length<=i*65537
 aD:s.aD.length=i
 len:0<=s.len/\s.len<=i*65537*268435456
 aS:0<=s.aS/\s.aS<=30000
 frm:IJ aA i s.frm
 at_:s.bI=true->bd 67108864 s.at_
theorem Zs8 {s:BSt} (I:i<L.length) (D:∀j<L.length,¬Bo (vD L j)) (h:BOK L i s):BOK L (i+1) (Et L i s):=by
 have E:∀k<L.length,Az (vD L k)->drawn (vD L k):=λk M G=>(K7 (D k M) G).1;unfold Et;by_cases G:Az (vD L i)
 ·rw[aa G];have J:=E i I G;obtain⟨N,V⟩:=PD J h.frm E;have O:bd 67108864 (if s.bI=true then s.at_ else At (vD L i).fr):=by
   by_cases hb:s.bI=true
   ·rw[aa hb];exact h.at_ hb
   ·rw[ab hb];exact AP (Fb J.1.2.1) (by decide)
  obtain⟨a1,a2,a3,a4⟩:=QJ (aU:=i) (aZ:=D0 (vD L i) s.aS) (aX:=IN (vD L i)) (Bq L i s.frm) (s.aF,s.len,if s.bI=true then s.at_ else At (vD L i).fr) N O h.len.1;have X:=h.aF;have S:=h.len;have e1:(i+1)*65537=i*65537+65537:=by rw[fu]
  refine⟨?_,?_,?_,h.aS,?_,λ_=>a4⟩
  ·simp only at a1;show(Ew L i s).1.length<=_;unfold Ew;omega
  ·show(s.aD++[_]).length=_;rw[am,h.aD];rfl
  ·show 0<=(Ew L i s).2.1/\(Ew L i s).2.1<=_;unfold Ew;simp only at a2 a3;have e2:(((i+1:Nat):Int))*65537*268435456=(i:Int)*65537*268435456+65537*268435456:=by
    rw[f7,Int.natCast_one,il,il];rfl
   constructor
   ·omega
   ·rw[e2];omega
  ·show IJ L (i+1) (if 0<=Be L i then(i:Int)else-1);split
   ·exact .inr ⟨i,rfl,I,J⟩
   ·exact .inl rfl
 ·rw[ab G];have S:=h.len;have T:=h.aF;have e1:(i+1)*65537=i*65537+65537:=by rw[fu]
  refine⟨by show s.aF.length<=_;rw[e1];exact bn T (Nat.le_add_right _ _),?_,?_,?_,h.frm,h.at_⟩
  ·show(s.aD++[_]).length=_;rw[am,h.aD];rfl
  ·have e2:(((i+1:Nat):Int))*65537*268435456=(i:Int)*65537*268435456+65537*268435456:=by
    rw[f7,Int.natCast_one,il,il];rfl
   show 0<=s.len/\s.len<=_;rw[e2];omega
  ·show 0<=LP (vD L i) s.aS/\LP (vD L i) s.aS<=30000;unfold LP;split
   ·rename_i U;exact Zjt (D i I) U.1
   ·exact h.aS
theorem Ztn (aA:List Itm):BOK aA 0 ⟨[],[],0,0,-1,false,⟨0,0,0⟩,⟨0,0,0⟩⟩:=by
 refine⟨Nat.zero_le _,bm,⟨Int.le_refl _,?_⟩,⟨Int.le_refl _,?_⟩, .inl rfl,λh=>by cases h⟩
 ·show(0:Int)<=((0:Nat):Int)*65537*268435456;rw[show((0:Nat):Int)=0 from rfl,Int.zero_mul,Int.zero_mul];exact Int.le_refl _
 ·show(0:Int)<=30000;omega
theorem Ly {aA:List Itm} (D:∀j<aA.length,¬Bo (vD aA j)):∀i,i<=aA.length->BOK aA i (Aw aA i)
 |0,_=>by rw[Aw];exact Ztn aA
 |i+1,E=>by rw[Aw];exact Zs8 (by omega) D (Ly D i (by omega))
theorem NM (aD:List Mrk) (a k i:Int):aD.map A1++[[AC.int IntKind.i64 a,AC.int IntKind.i64 k,AC.int IntKind.i64 i]]=(aD++[(⟨a,k,i⟩:Mrk)]).map A1:=by rw[bh];rfl
theorem Q9n {MK a0 ML MP a1 MR MF MO MM MC:Fn} {s:BSt} (hi:i<L.length) (hlen:L.length<=1000) (a7:s.aD.length=i)
  (hM:MM [I (vD L i).aP]=some [B (decide (Az (vD L i)))]) (hO:MO (Ag (vD L i))=some [I (JB (vD L i))])
  (hF:Az (vD L i)->MF [I (vD L i).fr.x,I (vD L i).fr.y,I (vD L i).fr.z]=some (ptR (At (vD L i).fr)))
  (X:Az (vD L i)->MR (Ag (vD L i)++[I s.aS])=some [I (D0 (vD L i) s.aS)])
  (E:a1 (Ag (vD L i))=some [B (decide (syI (vD L i)))])
  (M:syI (vD L i)->0<=(vD L i).aZ/\(vD L i).aZ<=60000000)
  (hP:Az (vD L i)->MP [.vC Ac (L.map Ag),I i,I s.frm]=some [.vC kPt ((Bq L i s.frm).map ptR)])
  (V:a0 [.vC Ac (L.map Ag),I i]=some [I (Be L i)]) (hK:MK [.vC Ac (L.map Ag),I i]=some [I (IU L i)])
  (a5:s.bI=true->bd 67108864 s.at_) (a6:Az (vD L i)->bd 67108864 (At (vD L i).fr))
  (hN : Az (vD L i) -> ∀ (b : Bool) (st a : Pt) (aZ aX : Int), bd 67108864 a -> N [.vC Af (s.aF.map Ax), .vC Av (s.aD.map A1), .vC Ac (L.map Ag), I s.len, I s.aS, B b, I i, .vC Ac (L.map Ag), I L.length, I i, .vC kPt ((Bq L i s.frm).map ptR), I (Bq L i s.frm).length, I 0, I 0, I 0, I 0, .vC Af [], .vC Av [], I st.x, I st.y, I st.z, I a.x, I a.y, I a.z, I 0, I 0, I 0, I 0, I i, I aZ, I aX] =
   some (2,[.vC Af (((Bq L i s.frm).foldl (AV i aZ aX) (s.aF,s.len,a)).1.map Ax), .vC Av (s.aD.map A1), .vC Ac (L.map Ag),I ((Bq L i s.frm).foldl (AV i aZ aX) (s.aF,s.len,a)).2.1,I s.aS,B b,I i, .vC Ac (L.map Ag),I L.length,I i,I 0,I 0,I 0, .vC Af [], .vC Av [],I st.x,I st.y,I st.z,I ((Bq L i s.frm).foldl (AV i aZ aX) (s.aF,s.len,a)).2.2.x,I ((Bq L i s.frm).foldl (AV i aZ aX) (s.aF,s.len,a)).2.2.y,I ((Bq L i s.frm).foldl (AV i aZ aX) (s.aF,s.len,a)).2.2.z])):
  Nm MK a0 ML MP a1 MR MF MO MM MC N (Im L i s)=some (0,Im L (i+1) (Et L i s)):=by
 have hr:=Cs hi;have a2:(0:Int)<=(i:Int)/\(i:Int)<(L.length:Int):=by omega
 have hw:O ((i:Int)+1)=((i+1:Nat):Int):=by rw[Ae];omega
 have hb:(s.aD.length+1)*24<=140737488355328:=by omega
 unfold Im;rw[Q1a];simp only[Ag,aq,ay]at hO X E;by_cases U:Az (vD L i)
 ·have hF:=hF U;have X:=X U;have hP:=hP U;have hN:=hN U;have h8: ¬(vD L i).aP=8:=λh=>by have:=U.2;omega
  have hd:=ah U;rw[hd]at hM;unfold Et Ew;rw[aa U];simp only[go_sem,af,ag,hr,aa a2,hw,hM];rw[aa,ab h8];have a3:∀f:Int,0<=f/\f<=60000000->O (f*16)=f*16:=λf hf=>Ae;by_cases Y:s.bI=true
  ·have S:=fun(aZ aX:Int)=>hN true s.aQ s.at_ aZ aX (a5 Y);rw[Y]at*;by_cases T:syI (vD L i)
   ·have G:=ah T;rw[G]at E;have J:IN (vD L i)=mn ((vD L i).aZ*16) 16777216:=aa T;simp only[go_sem,X,E,hP,a3 _ (M T),af,S,V,hK,am,af,bf,bm,NM,hw,aa hb,J];by_cases D:0<=Be L i
    ·simp[D]
    ·simp[D]
   ·have G:=aj T;rw[G]at E;have J:IN (vD L i)=0:=ab T;simp only[go_sem,X,E,hP,af,S,V,hK,am,af,bf,bm,NM,hw,aa hb,J];by_cases D:0<=Be L i
    ·simp[D]
    ·simp[D]
  ·have a4:s.bI=false:=by simpa using Y
   have S:=fun(aZ aX:Int)=>hN true (At (vD L i).fr) (At (vD L i).fr) aZ aX (a6 U);rw[a4];by_cases T:syI (vD L i)
   ·have G:=ah T;rw[G]at E;have J:IN (vD L i)=mn ((vD L i).aZ*16) 16777216:=aa T;simp only[go_sem,hF,X,E,hP,a3 _ (M T),af,S,V,hK,am,af,bf,bm,NM,hw,aa hb,J];by_cases D:0<=Be L i
    ·simp[D]
    ·simp[D]
   ·have G:=aj T;rw[G]at E;have J:IN (vD L i)=0:=ab T;simp only[go_sem,hF,X,E,hP,af,S,V,hK,am,af,bf,bm,NM,hw,aa hb,J];by_cases D:0<=Be L i
    ·simp[D]
    ·simp[D]
 ·have hd:=aj U;rw[hd]at hM;unfold Et LP;rw[ab U];simp only[go_sem,af,ag,hr,aa a2,hw,hM,hO,am,bf,bm,NM,aa hb];rw[aa];by_cases h8:(vD L i).aP=8
  ·by_cases h3:(vD L i).n=3
   ·simp[h8,h3]
   ·by_cases h4:(vD L i).n=4
    ·simp[h8,h4]
    ·simp[h8,h3,h4]
  ·simp[h8]
theorem Q6y (hf:D.aP=1\/1<=D.aZ/\D.aZ<=60000000) (G:0<=k/\k<=30000):FC (Ag D++[I k])=some [I (D0 D k)]:=by
 by_cases E:D.aP=1
 ·unfold FC D0;generalize E2=M;have h:=Q0w (CV:=M) D.aP D.block D.fr.x D.fr.y D.fr.z D.to.x D.to.y D.to.z D.aG D.ce.x D.ce.y D.ce.z D.dir D.bG D.aZ D.perRev D.side D.radius D.bH D.n D.aS D.on k;rw[aa E];refine dg h ?_;rw[Dv (by simp[E])]
 ·exact Zsf (by omega) G
noncomputable def AE (aA:List Itm):Pth:=⟨(Aw aA aA.length).aQ,(Aw aA aA.length).aF,(Aw aA aA.length).aD⟩
theorem Zbt (hlen:L.length<=15) (D:∀j<L.length,¬Bo (vD L j)) {i:Nat} (J:i<L.length):
  Nm G8 E5 Fd Hc EI FC DE GC Ct GK No (Im L i (Aw L i))=some (0,Im L (i+1) (Aw L (i+1))):=by
 have hb:=Ly D i (by omega);have I:∀k<L.length,Az (vD L k)->drawn (vD L k):=λk U E=>(K7 (D k U) E).1;have G:=K7 (D i J);rw[Aw];generalize Aw L i=s at*;refine Q9n J (by omega) hb.aD (O4 _) (Zmm _) (λE=>YL (AP (G E).1.1.2.1 (by decide))) (λE=>Q6y (G E).2 hb.aS) (Qzs _) (λO=> ?_)
  (λE=>Zvh (by omega) J (G E).1 hb.frm I) (Qwy (by omega) J) (Znw (by omega) J) hb.at_ (λE=>AP (Fb (G E).1.1.2.1) (by decide)) λE b st a aZ aX V=> ?_
 ·have E:Az (vD L i):=by rcases O with h|h<;>exact⟨by omega,by omega⟩
  have M:=(G E).2;rcases O with h|h<;>omega
 ·obtain⟨X,Y⟩:=PD (G E).1 hb.frm I;have S:=hb.aF;have N:=hb.len;have key:=Qfc (MK:=G8) (MSo:=E5) (ML:=Fd) (MP:=Hc) (MSy:=EI) (MR:=FC) (MF:=DE) (MO:=GC) (MM:=Ct) (MC:=GK)
   (aA:=L) (pts:=Bq L i s.frm) (λT M=>⟨(KV T M).1,FM T M⟩) X (by omega) (aD:=s.aD) (aS:=s.aS) (i:=i) (i2:=i) (n:=L.length) (aU:=i) (aZ:=aZ) (aX:=aX) (bI:=b) (st:=st)
   (Bq L i s.frm).length 0 (s.aF,s.len,a) ⟨0,0,0⟩ 0 (by omega) (by simp only;omega) N.1 (by simp only;omega) V
  rw[fd]at key;exact key
theorem Qz1 {aA:List Itm} (hlen:aA.length<=15) (D:∀j<aA.length,¬Bo (vD aA j)):∀(k i:Nat),i+k=aA.length->
  An (Nm G8 E5 Fd Hc EI FC DE GC Ct GK No) (Im aA i (Aw aA i))=
   some (2,[.vC Af ((AE aA).aF.map Ax), .vC Av ((AE aA).aD.map A1),I 0,I 0,I 0, .vC Af [], .vC Av [],I (AE aA).aQ.x,I (AE aA).aQ.y,I (AE aA).aQ.z])
 |0,i,E=>by
  obtain rfl:i=aA.length:=by omega
  refine AG ?_ (by simp);unfold Im AE;rw[Q1a,AM (by omega)]
 |k+1,i,E=>by
  rw[AR (Zbt hlen D (by omega))];exact Qz1 hlen D k (i+1) (by omega)
theorem Zj8 {N D O S E T U V X M:Fn} {G J:Lp} (Y:M [.vC Ac (L.map Ag)]=some [I k])
  (hN:k=0->J (Im L 0 (Aw L 0))=some (2,[.vC Af ((AE L).aF.map Ax), .vC Av ((AE L).aD.map A1),I 0,I 0,I 0, .vC Af [], .vC Av [],I (AE L).aQ.x,I (AE L).aQ.y,I (AE L).aQ.z])):
  Tk N D O S E T U V X M G J [.vC Ac (L.map Ag)]=if k=0 then some (AA (AE L)++[I 0])else some [I 0,I 0,I 0, .vC Af [], .vC Av [],I k]:=by
 rw[Q59];simp only[go_sem,Y,af];by_cases he:k=0
 ·have h:=hN he;have h':J [.vC Af [], .vC Av [], .vC Ac (L.map Ag),I 0,I 0,I (-1),B false, .vC Ac (L.map Ag),I L.length,I 0,I 0,I 0,I 0, .vC Af [], .vC Av [],I 0,I 0,I 0,I 0,I 0,I 0]=_:=h;rw[ab (by simp[he]),aa he,h'];simp only[go_sem];rfl
 ·rw[aa he,ab he]
theorem Qmi (hlen:L.length<=15):KP [.vC Ac (L.map Ag)]=if BM L=0 then some (AA (AE L)++[I 0])else some [I 0,I 0,I 0, .vC Af [], .vC Av [],I (BM L)]:=
 Zj8 (Zmw L) λhe=>Qz1 hlen (Nt he).2 L.length 0 (by omega)
def EB:Pt->List Sgm->Pt
 |a,[]=>a
 |_,g::l=>EB g.to l
abbrev B26:Nat:=67108864
def Mj:Pt->List Sgm->Prop
 |_,[]=>True
 |a,g::l=>g.len=Au a g.to/\g.to≠a/\bd B26 g.to/\Mj g.to l
def AO:List Sgm->Int
 |[]=>0
 |g::l=>g.len+AO l
theorem Qb (g:Sgm):∀(a:Pt) (l:List Sgm),EB a (l++[g])=g.to
 |_,[]=>rfl
 |_,h::l=>by simp only[aq,EB];exact Qb g h.to l
theorem Qvj {g:Sgm}:∀{a:Pt} {l:List Sgm},Mj a l->g.len=Au (EB a l) g.to->g.to≠EB a l->bd B26 g.to->Mj a (l++[g])
 |a,[],_,D,E,G=>⟨D,E,G,trivial⟩
 |a,k::l,h,D,E,G=>⟨h.1,h.2.1,h.2.2.1,Qvj h.2.2.2 D E G⟩
theorem ZU (g:Sgm):∀(l:List Sgm),AO (l++[g])=AO l+g.len
 |[]=>by simp[AO]
 |k::l=>by simp only[aq,AO];rw[ZU g l];omega
def W3 (aQ:Pt) (s:List Sgm×Int×Pt):Prop:=Mj aQ s.1/\EB aQ s.1=s.2.2/\AO s.1=s.2.1
theorem Qil {aQ:Pt} {aU aZ aX:Int}:∀(D:List Pt) (s:List Sgm×Int×Pt),(∀p∈D,bd B26 p)->W3 aQ s->W3 aQ (D.foldl (AV aU aZ aX) s)
 |[],s,_,h=>h
 |q::D,s,G,h=>by
  rw[fg];refine Qil D _ (λp E=>G p (by simp[E])) ?_;unfold AV;by_cases c:q=s.2.2
  ·rw[aa c];exact h
  ·rw[ab c];obtain⟨J,I,L⟩:=h;refine⟨Qvj J (by rw[I]) (by rw[I];exact c) (G q (by simp)),Qb _ _ _,?_⟩;simp only[ZU,L]
structure BInv (s : BSt) : Prop where
 bI:s.bI=true->bd B26 s.aQ/\W3 s.aQ (s.aF,s.len,s.at_)
 empty:s.bI=false->s.aF=[]/\s.len=0/\s.aQ=⟨0,0,0⟩
theorem Zqw {s:BSt} (N:i<L.length) (D:∀j<L.length,¬Bo (vD L j)) (I:BOK L i s) (h:BInv s):BInv (Et L i s):=by
 have E:∀k<L.length,Az (vD L k)->drawn (vD L k):=λk O G=>(K7 (D k O) G).1;unfold Et;by_cases G:Az (vD L i)
 ·rw[aa G];have J:=E i N G;obtain⟨M,-⟩:=PD J I.frm E;refine⟨λ_=> ?_,λhb=>(by cases hb)⟩;unfold Ew;by_cases hb:s.bI=true
  ·rw[aa hb,aa hb];obtain⟨g1,g2⟩:=h.bI hb;exact⟨g1,Qil _ _ M g2⟩
  ·rw[ab hb,ab hb];obtain⟨g1,g2,S⟩:=h.empty (by simpa using hb);refine⟨AP (Fb J.1.2.1) (by decide),Qil _ _ M ?_⟩;rw[g1,g2];exact⟨trivial,rfl,rfl⟩
 ·rw[ab G];exact⟨h.bI,h.empty⟩
theorem Qq {aA:List Itm} (D:∀j<aA.length,¬Bo (vD aA j)):∀i,i<=aA.length->BInv (Aw aA i)
 |0,_=>by rw[Aw];exact⟨λh=>(by cases h),λ_=>⟨rfl,rfl,rfl⟩⟩
 |i+1,E=>by rw[Aw];exact Zqw (by omega) D (Ly D i (by omega)) (Qq D i (by omega))
structure GoodPath (p : Pth) : Prop where
 aQ:bd B26 p.aQ
 aF:Mj p.aQ p.aF
 count:p.aF.length<=983055
theorem SL (hlen:L.length<=15) (G:BM L=0):GoodPath (AE L):=by
 have D:=(Nt G).2;have I:=Ly D L.length (cq _);have E:=Qq D L.length (cq _);have M:=I.aF;unfold AE;by_cases hb:(Aw L L.length).bI=true
 ·obtain⟨g1,g2,-⟩:=E.bI hb;exact⟨g1,g2,by simp only;omega⟩
 ·obtain⟨g1,-,J⟩:=E.empty (by simpa using hb);refine⟨?_,?_,?_⟩
  ·simp only[J];unfold bd;simp
  ·simp only[g1];trivial
  ·simp only[g1];simp
theorem Qyj (D:bd B26 a) (hb:bd B26 b) (h:b≠a):1<=Au a b/\Au a b<=268435456:=by
 obtain⟨-,I,E,-⟩:=KV D hb;have J:sqD a b≠0:=λe=>h (OB.1 e).symm;have L:=KW a b;have G:=FM D hb;refine⟨?_,G.2⟩;by_cases c:Au a b=0
 ·rw[c]at E;omega
 ·omega
theorem Zo3 {l:List Sgm} (G:bd B26 a) (h:Mj a l):∀g∈l,1<=g.len/\g.len<=268435456/\bd B26 g.to:=by
 induction l generalizing a with
 |nil=>simp
 |cons k l J=>
  obtain⟨L,I,D,M⟩:=h;intro g E;rcases az.1 E with rfl|E
  ·rw[L];exact⟨(Qyj G D I).1,(Qyj G D I).2,D⟩
  ·exact J D M g E
theorem Ztb {l:List Sgm} (h:∀g∈l,1<=g.len/\g.len<=268435456/\bd B26 g.to):(l.length:Int)<=AO l/\AO l<=l.length*268435456:=by
 induction l with
 |nil=>simp[AO]
 |cons k l D=>
  have:=D λg E=>h g (by simp[E]);have:=h k (by simp);simp only[AO,bf];omega
def C8 (a:Pt) (l:List Sgm) (i:Nat):Pt:=EB a (l.take i)
def sg0:Sgm:=⟨⟨0,0,0⟩,0,0,0,0⟩
def sgA (l:List Sgm) (i:Nat):Sgm:=l.getD i sg0
theorem JQ {l:List Sgm} (h:i<l.length):sgA l i=l[i]:=by unfold sgA;simp[h]
theorem GN {l:List Sgm} (h:i<l.length):nth [] (l.map Ax) i=Ax (sgA l i):=by rw[JQ h];exact DF _ _ _ _ h
theorem H7 {l:List Sgm} (h:i<l.length):sgA l i∈l:=by rw[JQ h];exact bv h
theorem NC (a:Pt) (l:List Sgm):C8 a l 0=a:=by unfold C8;simp[EB]
theorem Qk8 (a:Pt) (g:Sgm) (l:List Sgm) (i:Nat):C8 a (g::l) (i+1)=C8 g.to l i:=by unfold C8;rw[List.take_succ_cons];rfl
theorem Zk6 (g:Sgm) (l:List Sgm) (i:Nat):sgA (g::l) (i+1)=sgA l i:=by unfold sgA;simp
theorem QI:∀{l:List Sgm} {i:Nat} {a:Pt},i<l.length->C8 a l (i+1)=(sgA l i).to
 |g::l,0,a,_=>by rw[Qk8,NC];rfl
 |g::l,i+1,a,h=>by rw[Qk8,Zk6];exact QI (by simpa using h)
structure SegOK (l : List Sgm) : Prop where
 seg:∀g∈l,1<=g.len/\g.len<=268435456/\bd B26 g.to
 count:l.length<=983055
theorem GoodPath.ok (h:GoodPath p):SegOK p.aF:=⟨Zo3 h.aQ h.aF,h.count⟩
theorem Zu0 {l:List Sgm} (D:bd B26 a) (h:SegOK l) {i:Nat} (E:i<l.length):bd B26 (C8 a l i):=by
 cases i with
 |zero=>rw[NC];exact D
 |succ i=>rw[QI (by omega)];exact(h.seg _ (H7 (by omega))).2.2
theorem Qoq {l:List Sgm} (h:SegOK l):∀(k i:Nat) (v:Int),i+k=l.length->0<=v->v+k*268435456<=4000000000000000000->
  An Pz [I v, .vC Af (l.map Ax),I l.length,I i]=some (1,[I (v+AO (l.drop i))])
 |0,i,v,G,_,_=>by
  refine AG ?_ (by simp);rw[Que,AM (by omega),du (by omega)];simp[AO]
 |k+1,i,v,G,L,M=>by
  have D:i<l.length:=by omega
  have J:=h.count;have N:=h.seg _ (H7 D);have E:Pz [I v, .vC Af (l.map Ax),I l.length,I i]=some (0,[I (v+(sgA l i).len), .vC Af (l.map Ax),I l.length,I (i+1:Nat)]):=by
   rw[Que];simp only[go_sem,af,ag,GN D];rw[aa,aa,Ae (x:=v+_),Ae];rfl
  rw[AR E,Qoq h k (i+1) _ (by omega) (by omega) (by omega)];have e:l.drop i=sgA l i::l.drop (i+1):=by rw[JQ D];exact L0 _ _ D
  rw[e];simp only[AO,Int.add_assoc]
theorem Qyu (h:SegOK p.aF):H5 (AA p)=some [I (AO p.aF)]:=by
 have hl:=Qoq h p.aF.length 0 0 (by omega) (by omega) (by have:=h.count;omega);have hl':PL [I 0, .vC Af (p.aF.map Ax),I p.aF.length,I 0]=some (1,[I (0+AO (p.aF.drop 0))]):=hl;rw[fd,Int.zero_add]at hl';unfold H5;generalize PL=N at*;rw[Zcy];simp only[go_sem,af,hl']
 where mx_max' (a b:Int):mx a b=max a b:=by unfold mx;rw[Int.max_def];split<;>split<;>omega
theorem Qp2 {l:List Sgm} (h:SegOK l):∀(k i:Nat) (v:Int),i+k=l.length->0<=v->v+k*268435456<=4000000000000000000->
  An RY [I v, .vC Af (l.map Ax),I l.length,I i]=some (1,[I (v+AO (l.drop i))])
 |0,i,v,G,_,_=>by
  refine AG ?_ (by simp);rw[Qwv,AM (by omega),du (by omega)];simp[AO]
 |k+1,i,v,G,L,M=>by
  have D:i<l.length:=by omega
  have J:=h.count;have N:=h.seg _ (H7 D);have E:RY [I v, .vC Af (l.map Ax),I l.length,I i]=some (0,[I (v+(sgA l i).len), .vC Af (l.map Ax),I l.length,I (i+1:Nat)]):=by
   rw[Qwv];simp only[go_sem,af,ag,GN D];rw[aa,aa,Ae (x:=v+_),Ae];rfl
  rw[AR E,Qp2 h k (i+1) _ (by omega) (by omega) (by omega)];have e:l.drop i=sgA l i::l.drop (i+1):=by rw[JQ D];exact L0 _ _ D
  rw[e];simp only[AO,Int.add_assoc]
theorem Qrd (h:SegOK p.aF):Gu (AA p)=some [I (AO p.aF)]:=by
 have E:=Qp2 h p.aF.length 0 0 (by omega) (by omega) (by have:=h.count;omega);have D:P3 [I 0, .vC Af (p.aF.map Ax),I p.aF.length,I 0]=some (1,[I (0+AO (p.aF.drop 0))]):=E;rw[fd,Int.zero_add]at D;unfold Gu;generalize P3=N at*;rw[Zs2];simp only[go_sem,af,D]
theorem Zn0 (h:GoodPath p):0<=AO p.aF/\AO p.aF<=263886834032640:=by
 have D:=Ztb h.ok.seg;have E:=h.count;omega
theorem Zvo (E:i<p.aF.length) (G:p.aF.length<=983055):KR (AA p++[I i])=some (ptR (C8 p.aQ p.aF i)):=by
 have he:=Zde p.aQ.x p.aQ.y p.aQ.z (p.aF.map Ax) (p.aD.map A1) i;unfold KR;refine dg he ?_;cases i with
 |zero=>rw[B6 (by omega),NC]
 |succ j=>
  have e1:O (((j+1:Nat):Int)-1)=(j:Int):=by rw[Ae];omega
  have D:(0:Int)<=(j:Int)/\(j:Int)<(p.aF.length:Int):=by omega
  rw[AM (by omega),e1,QI (by omega)];simp only[go_sem,af,ag,GN (show j<p.aF.length by omega),aa D]
theorem Zfo {α:Type} (d x:α) (l:List α):nth d (x::l) 40=nth d l 39:=by simp[nth]
theorem Zkc {α:Type} (d x:α) (l:List α):nth d (x::l) 41=nth d l 40:=by simp[nth]
theorem Zqv {α:Type} (d x:α) (l:List α):nth d (x::l) 42=nth d l 41:=by simp[nth]
theorem Zeh {α:Type} (d x:α) (l:List α):nth d (x::l) 43=nth d l 42:=by simp[nth]
theorem Zof {α:Type} (d x:α) (l:List α):nth d (x::l) 44=nth d l 43:=by simp[nth]
theorem Zaa {α:Type} (d x:α) (l:List α):nth d (x::l) 45=nth d l 44:=by simp[nth]
theorem Zgo {α:Type} (d x:α) (l:List α):nth d (x::l) 46=nth d l 45:=by simp[nth]
theorem Zew {α:Type} (d x:α) (l:List α):nth d (x::l) 47=nth d l 46:=by simp[nth]
theorem Zc9 {α:Type} (d x:α) (l:List α):nth d (x::l) 48=nth d l 47:=by simp[nth]
theorem Zlw {α:Type} (d x:α) (l:List α):nth d (x::l) 49=nth d l 48:=by simp[nth]
theorem Zp1 {α:Type} (d x:α) (l:List α):nth d (x::l) 50=nth d l 49:=by simp[nth]
theorem Zh7 {α:Type} (d x:α) (l:List α):nth d (x::l) 51=nth d l 50:=by simp[nth]
theorem Zrg {α:Type} (d x:α) (l:List α):nth d (x::l) 52=nth d l 51:=by simp[nth]
theorem Zrf {α:Type} (d x:α) (l:List α):nth d (x::l) 53=nth d l 52:=by simp[nth]
theorem Zpg {α:Type} (d x:α) (l:List α):nth d (x::l) 54=nth d l 53:=by simp[nth]
theorem Zrq {α:Type} (d x:α) (l:List α):nth d (x::l) 55=nth d l 54:=by simp[nth]
attribute [go_sem] Zfo Zkc Zqv Zeh Zof Zaa Zgo Zew Zc9 Zlw Zp1 Zh7 Zrg Zrf Zpg Zrq
theorem Iw (a b:Int):mn a b=min a b:=by unfold mn;rw[Int.min_def];split<;>split<;>omega
theorem G6 (a b:Int):mx a b=max a b:=by unfold mx;rw[Int.max_def];split<;>split<;>omega
def Lq (now a b mv:Int):Int:=if b>a then mv else if b<a then-mv else now
def C3 (now a b:Pt) (mv:Int):Pt:=⟨Lq now.x a.x b.x mv,Lq now.y a.y b.y mv,Lq now.z a.z b.z mv⟩
def slk (was aT n v:Int):Int:=if was=aT then v else max v n
def BA (x:Ax3) (was aT:Pt):Int:=slk was.z aT.z x.c.bB (slk was.y aT.y x.b.bB (slk was.x aT.x x.a.bB 0))
def pc0:Pce:=⟨0,0,0,0,⟨0,0,0⟩,⟨0,0,0⟩⟩
def AJ (l:List Pce):Pce:=l.getD (l.length-1) pc0
def B_ (t:Trk) (c:Pce):Trk:=
 if t.aE≠[]/\c.bC≠0/\(AJ t.aE).bC=c.bC/\(AJ t.aE).aT=c.aT then
  {t with aE:=t.aE.set (t.aE.length-1) {AJ t.aE with aR:=(AJ t.aE).aR+c.aR},length:=t.length+c.aR}
 else{t with aE:=t.aE++[{c with at_:=t.length}],length:=t.length+c.aR}
def Ay (l:List Sgm) (i:Nat):Int:=AO (l.take i)
def Cq (x:Ax3) (mv:Int) (a b:Pt) (s aR:Int) (D:Trk×Pt):Trk×Pt:=
 (B_ (if BA x D.2 (C3 D.2 a b mv) > 0 then B_ D.1 ⟨0, BA x D.2 (C3 D.2 a b mv), s, 0, D.2, C3 D.2 a b mv⟩ else D.1)
  ⟨0,aR,s,mv,C3 D.2 a b mv,C3 D.2 a b mv⟩,C3 D.2 a b mv)
def Gh (p:Pth) (x:Ax3) (mv D E:Int) (i:Nat) (s:Trk×Pt):Trk×Pt:=
 if max (Ay p.aF i) D<min (Ay p.aF (i+1)) E then
  Cq x mv (C8 p.aQ p.aF i) (sgA p.aF i).to (if mv<0 then min (Ay p.aF (i+1)) E else max (Ay p.aF i) D) (min (Ay p.aF (i+1)) E-max (Ay p.aF i) D) s
 else s
def Eh (n:Nat) (mv:Int) (j:Nat):Nat:=if mv<0 then n-1-j else j
def BG (p:Pth) (x:Ax3) (mv D E:Int) (G:Trk×Pt):Nat->Trk×Pt
 |0=>G
 |j+1=>Gh p x mv D E (Eh p.aF.length mv j) (BG p x mv D E G j)
def CZ (n D:Int):Int:=max 0 (min n D)
def FX (p:Pth) (x:Ax3) (d:Pt) (from_ to:Int):Trk:=
 let n:=AO p.aF
 let f:=CZ from_ n
 let t:=CZ to n
 (BG p x (if f>t then-1 else 1) (min f t) (max f t) (⟨[],0,f,d⟩,d) p.aF.length).1
structure Ax3OK (x : Ax3) : Prop where
 a:0<=x.a.bB/\x.a.bB<=1000
 b:0<=x.b.bB/\x.b.bB<=1000
 c:0<=x.c.bB/\x.c.bB<=1000
theorem Ys {x:Ax3} (h:Ax3OK x) (a b:Pt):0<=BA x a b/\BA x a b<=1000:=by
 obtain⟨D,E,G⟩:=h;unfold BA slk
 (repeat' split)<;>omega
structure TB (t : Trk) (n m : Int) : Prop where
 count:(t.aE.length:Int)<=n
 len:0<=t.length/\t.length<=m
 each:∀c∈t.aE,0<=c.aR/\c.aR<=t.length
theorem Zm {l:List Pce} (h:l≠[]):AJ l∈l:=by
 have E:0<l.length:=by cases l with
  |nil=>exact absurd rfl h
  |cons _ _=>simp
 have D:l.length-1<l.length:=by omega
 unfold AJ;rw[fa,an D,Option.getD_some];exact bv _
theorem Sd {n m:Int} (h:TB t n m) {c:Pce} {k:Int} (G:0<=c.aR/\c.aR<=k):TB (B_ t c) (n+1) (m+k):=by
 obtain⟨I,J,E⟩:=h;unfold B_;by_cases g:t.aE≠[]/\c.bC≠0/\(AJ t.aE).bC=c.bC/\(AJ t.aE).aT=c.aT
 ·rw[aa g];refine⟨by simp only[gd];omega,by simp only;omega,?_⟩;intro q D;rcases d8 D with D|rfl
  ·have:=E q D;simp only;omega
  ·have:=E _ (Zm g.1);simp only;omega
 ·rw[ab g];refine⟨by simp only[am,bf,bm];omega,by simp only;omega,?_⟩;intro q D;rcases co.1 D with D|D
  ·have:=E q D;simp only;omega
  ·rw[gp]at D;subst D;simp only;omega
theorem Qvz (t:Trk) (c:Pce):(B_ t c).aQ=t.aQ/\(B_ t c).aT=t.aT:=by
 unfold B_;split<;>exact⟨rfl,rfl⟩
theorem Y4 (l:List Sgm):Ay l 0=0:=by unfold Ay;rw[List.take_zero];rfl
theorem N_ {l:List Sgm} (h:i<l.length):Ay l (i+1)=Ay l i+(sgA l i).len:=by
 unfold Ay;rw[iz,an h,Option.toList_some,ZU,JQ h]
theorem Zpk (l:List Sgm):Ay l l.length=AO l:=by unfold Ay;rw[fo]
theorem Ru {l:List Sgm} (h:SegOK l):∀i,i<=l.length->0<=Ay l i/\Ay l i<=i*268435456
 |0,_=>by rw[Y4];simp
 |i+1,D=>by
  have:=Ru h i (by omega);have:=h.seg _ (H7 (show i<l.length by omega));rw[N_ (by omega)];omega
theorem Q68 {x:Ax3} {mv lo hi:Int} {s:Trk×Pt} {n m:Int} (G:Ax3OK x) (I:SegOK p.aF) (D:i<p.aF.length) (h:TB s.1 n m):TB (Gh p x mv lo hi i s).1 (n+2) (m+268436456):=by
 have J:=I.seg _ (H7 D);have e:=N_ D;unfold Gh;by_cases c:max (Ay p.aF i) lo<min (Ay p.aF (i+1)) hi
 ·rw[aa c];unfold Cq;have L:=Ys G s.2 (C3 s.2 (C8 p.aQ p.aF i) (sgA p.aF i).to mv);have e1:n+2=n+1+1:=by omega
  have e2:m+268436456=m+1000+268435456:=by omega
  rw[e1,e2];refine Sd ?_ (by simp only;omega);by_cases E:BA x s.2 (C3 s.2 (C8 p.aQ p.aF i) (sgA p.aF i).to mv)>0
  ·rw[aa E];exact Sd h (by simp only;omega)
  ·rw[ab E];exact⟨by have:=h.count;omega,by have:=h.len;omega,h.each⟩
 ·rw[ab c];exact⟨by have:=h.count;omega,by have:=h.len;omega,h.each⟩
theorem Ug {n j:Nat} (mv:Int) (h:j<n):Eh n mv j<n:=by unfold Eh;split<;>omega
theorem P8 {p:Pth} {x:Ax3} {mv lo hi f:Int} {d:Pt} (D:Ax3OK x) (E:SegOK p.aF):∀j,j<=p.aF.length->TB (BG p x mv lo hi (⟨[],0,f,d⟩,d) j).1 (j*2) (j*268436456)
 |0,_=>⟨by simp[BG],by simp[BG],by simp[BG]⟩
 |j+1,G=>by
  have h:=Q68 (mv:=mv) (lo:=lo) (hi:=hi) D E (Ug mv (show j<p.aF.length by omega)) (P8 (mv:=mv) (lo:=lo) (hi:=hi) (f:=f) (d:=d) D E j (by omega));rw[BG];have e1:((j+1:Nat):Int)*2=j*2+2:=by omega
  have e2:((j+1:Nat):Int)*268436456=j*268436456+268436456:=by omega
  rw[e1,e2];exact h
theorem RF {x:Ax3} (s:Trk×Pt):(Gh p x k u v i s).1.aQ=s.1.aQ/\(Gh p x k u v i s).1.aT=s.1.aT:=by
 unfold Gh;by_cases c:max (Ay p.aF i) u<min (Ay p.aF (i+1)) v
 ·rw[aa c];unfold Cq;simp only[Qvz];by_cases D:BA x s.2 (C3 s.2 (C8 p.aQ p.aF i) (sgA p.aF i).to k)>0
  ·rw[aa D];simp only[Qvz];exact⟨trivial,trivial⟩
  ·rw[ab D];exact⟨rfl,rfl⟩
 ·rw[ab c];exact⟨rfl,rfl⟩
def Zb (x:Ax3) (mv:Int) (Q:Int->Pt->Prop):Int->Int->Pt->List Pce->Prop
 |_,_,_,[]=>True
 |at_,s,d,c::l=>c.at_=at_/\c.s=s/\1<=c.aR/\((c.bC=mv/\c.was=c.aT/\BA x d c.aT=0/\∀k,0<=k->k<c.aR->Q (s+mv*k) c.aT)\/(c.bC=0/\c.was=d/\c.aR=BA x d c.aT))/\Zb x mv Q (at_+c.aR) (s+c.bC*c.aR) c.aT l
def Qzz:Int->List Pce->Int
 |a,[]=>a
 |a,c::l=>Qzz (a+c.aR) l
def Qu2:Int->List Pce->Int
 |s,[]=>s
 |s,c::l=>Qu2 (s+c.bC*c.aR) l
def Q0y:Pt->List Pce->Pt
 |d,[]=>d
 |_,c::l=>Q0y c.aT l
structure TC (x : Ax3) (mv : Int) (Q : Int -> Pt -> Prop) (t : Trk) (s : Int) (d : Pt) : Prop where
 ch:Zb x mv Q 0 t.aQ t.aT t.aE
 len:Qzz 0 t.aE=t.length
 s:Qu2 t.aQ t.aE=s
 d:Q0y t.aT t.aE=d
theorem Qy3 {l:List Pce} (h:l≠[]):nth [] (l.map Bh) (l.length-1)=Bh (AJ l):=by
 have E:0<l.length:=by cases l with
  |nil=>exact absurd rfl h
  |cons _ _=>simp
 unfold AJ;have D:l.length-1<l.length:=by omega
 rw[DF _ _ _ _ D,fa,an D,Option.getD_some]
theorem RS:a=b↔a.x=b.x/\a.y=b.y/\a.z=b.z:=BU
theorem Zf7 {c:Pce} {n m k:Int} (h:TB t n m) (hn:n<=10000000) (hm:m<=1000000000000000000) (hk:k<=1000000000000000000) (hc:0<=c.aR/\c.aR<=k):
  ST [.vC Ao (t.aE.map Bh),I c.at_,I c.aR,I c.s,I c.bC,I c.was.x,I c.was.y,I c.was.z,I c.aT.x,I c.aT.y,I c.aT.z,I t.length,I t.aQ,I t.aT.x,I t.aT.y,I t.aT.z]=some (AS (B_ t c)):=by
 obtain⟨h1,h2,U⟩:=h;have T:O (t.length+c.aR)=t.length+c.aR:=Ae;have D:((t.aE.map Bh++[[I t.length,I c.aR,I c.s,I c.bC,I c.was.x,I c.was.y,I c.was.z,I c.aT.x,I c.aT.y,I c.aT.z]]).length*80).ble 140737488355328=true:=by
  rw[Nat.ble_eq,am,af];simp only[bf,bm];omega
 have G:(t.aE.map Bh++[[I t.length,I c.aR,I c.s,I c.bC,I c.was.x,I c.was.y,I c.was.z,I c.aT.x,I c.aT.y,I c.aT.z]]).length*80<=140737488355328:=bc D;have E:some [AC.vC Ao (t.aE.map Bh++[[I t.length,I c.aR,I c.s,I c.bC,I c.was.x,I c.was.y,I c.was.z,I c.aT.x,I c.aT.y,I c.aT.z]]),I (t.length+c.aR),I t.aQ,I t.aT.x,I t.aT.y,I t.aT.z]=
   some (AS {t with aE:=t.aE++[{c with at_:=t.length}],length:=t.length+c.aR}):=by
  simp only[AS,bh,ba,cm]
 by_cases J:t.aE=[]
 ·have V: ¬(t.aE≠[]/\c.bC≠0/\(AJ t.aE).bC=c.bC/\(AJ t.aE).aT=c.aT):=λg=>g.1 J;unfold B_;rw[ab V,<-E];rw[Qn7,af,AM (by rw[J];simp),Dv D,T]
 ·have hp:0<t.aE.length:=by
   cases X:t.aE with
   |nil=>exact absurd X J
   |cons _ _=>simp
  have e1:O ((t.aE.length:Int)-1)=((t.aE.length-1:Nat):Int):=by rw[Ae];omega
  have N:(0:Int)<=((t.aE.length-1:Nat):Int)/\((t.aE.length-1:Nat):Int)<(t.aE.length:Int):=by omega
  have hl:=U _ (Zm J);have S:O ((AJ t.aE).aR+c.aR)=(AJ t.aE).aR+c.aR:=Ae;have L:some [AC.vC Ao ((t.aE.map Bh).set (t.aE.length-1) [I (AJ t.aE).at_,I ((AJ t.aE).aR+c.aR),I (AJ t.aE).s,I (AJ t.aE).bC,I (AJ t.aE).was.x,I (AJ t.aE).was.y,I (AJ t.aE).was.z,I (AJ t.aE).aT.x,I (AJ t.aE).aT.y,I (AJ t.aE).aT.z]),I (t.length+c.aR),I t.aQ,I t.aT.x,I t.aT.y,I t.aT.z]=
   some (AS {t with aE:=t.aE.set (t.aE.length-1) {AJ t.aE with aR:=(AJ t.aE).aR+c.aR},length:=t.length+c.aR}):=by
   simp only[AS,List.map_set]
  have Y:=Qy3 J;have main : ∀ R, R = (if c.bC ≠ 0 then if (AJ t.aE).bC = c.bC then if (AJ t.aE).aT.x = c.aT.x /\ (AJ t.aE).aT.y = c.aT.y /\ (AJ t.aE).aT.z = c.aT.z then
    some (AS {t with aE:=t.aE.set (t.aE.length-1) {AJ t.aE with aR:=(AJ t.aE).aR+c.aR},length:=t.length+c.aR})
    else some (AS {t with aE:=t.aE++[{c with at_:=t.length}],length:=t.length+c.aR})else some (AS {t with aE:=t.aE++[{c with at_:=t.length}],length:=t.length+c.aR})else some (AS {t with aE:=t.aE++[{c with at_:=t.length}],length:=t.length+c.aR}))->R=some (AS (B_ t c)):=by
   intro R hR;rw[hR];unfold B_;by_cases g1:c.bC≠0
   ·by_cases g2:(AJ t.aE).bC=c.bC
    ·by_cases M:(AJ t.aE).aT.x=c.aT.x/\(AJ t.aE).aT.y=c.aT.y/\(AJ t.aE).aT.z=c.aT.z
     ·rw[aa g1,aa g2,aa M,aa ⟨J,g1,g2,RS.2 M⟩]
     ·rw[aa g1,aa g2,ab M,ab λg=>M (RS.1 g.2.2.2)]
    ·rw[aa g1,ab g2,ab λg=>g2 g.2.2.1]
   ·rw[ab g1,ab λg=>g1 g.2.1]
  refine main _ ?_;rw[<-E,<-L];rw[Qn7,af,e1,ag,Y];simp only[go_sem,T,S,aa N,aa G];rw[aa];simp only[i6]
theorem Zkt {c:Pce} {n m k:Int} (h:TB t n m) (hn:n<=10000000) (hm:m<=1000000000000000000) (hk:k<=1000000000000000000) (hc:0<=c.aR/\c.aR<=k):
  Sm [.vC Ao (t.aE.map Bh),I c.at_,I c.aR,I c.s,I c.bC,I c.was.x,I c.was.y,I c.was.z,I c.aT.x,I c.aT.y,I c.aT.z,I t.length,I t.aQ,I t.aT.x,I t.aT.y,I t.aT.z]=some (AS (B_ t c)):=by
 obtain⟨h1,h2,U⟩:=h;have T:O (t.length+c.aR)=t.length+c.aR:=Ae;have D:((t.aE.map Bh++[[I t.length,I c.aR,I c.s,I c.bC,I c.was.x,I c.was.y,I c.was.z,I c.aT.x,I c.aT.y,I c.aT.z]]).length*80).ble 140737488355328=true:=by
  rw[Nat.ble_eq,am,af];simp only[bf,bm];omega
 have G:(t.aE.map Bh++[[I t.length,I c.aR,I c.s,I c.bC,I c.was.x,I c.was.y,I c.was.z,I c.aT.x,I c.aT.y,I c.aT.z]]).length*80<=140737488355328:=bc D;have E:some [AC.vC Ao (t.aE.map Bh++[[I t.length,I c.aR,I c.s,I c.bC,I c.was.x,I c.was.y,I c.was.z,I c.aT.x,I c.aT.y,I c.aT.z]]),I (t.length+c.aR),I t.aQ,I t.aT.x,I t.aT.y,I t.aT.z]=
   some (AS {t with aE:=t.aE++[{c with at_:=t.length}],length:=t.length+c.aR}):=by
  simp only[AS,bh,ba,cm]
 by_cases J:t.aE=[]
 ·have V: ¬(t.aE≠[]/\c.bC≠0/\(AJ t.aE).bC=c.bC/\(AJ t.aE).aT=c.aT):=λg=>g.1 J;unfold B_;rw[ab V,<-E];rw[Q0d,af,AM (by rw[J];simp),Dv D,T]
 ·have hp:0<t.aE.length:=by
   cases X:t.aE with
   |nil=>exact absurd X J
   |cons _ _=>simp
  have e1:O ((t.aE.length:Int)-1)=((t.aE.length-1:Nat):Int):=by rw[Ae];omega
  have N:(0:Int)<=((t.aE.length-1:Nat):Int)/\((t.aE.length-1:Nat):Int)<(t.aE.length:Int):=by omega
  have hl:=U _ (Zm J);have S:O ((AJ t.aE).aR+c.aR)=(AJ t.aE).aR+c.aR:=Ae;have L:some [AC.vC Ao ((t.aE.map Bh).set (t.aE.length-1) [I (AJ t.aE).at_,I ((AJ t.aE).aR+c.aR),I (AJ t.aE).s,I (AJ t.aE).bC,I (AJ t.aE).was.x,I (AJ t.aE).was.y,I (AJ t.aE).was.z,I (AJ t.aE).aT.x,I (AJ t.aE).aT.y,I (AJ t.aE).aT.z]),I (t.length+c.aR),I t.aQ,I t.aT.x,I t.aT.y,I t.aT.z]=
   some (AS {t with aE:=t.aE.set (t.aE.length-1) {AJ t.aE with aR:=(AJ t.aE).aR+c.aR},length:=t.length+c.aR}):=by
   simp only[AS,List.map_set]
  have Y:=Qy3 J;have main : ∀ R, R = (if c.bC ≠ 0 then if (AJ t.aE).bC = c.bC then if (AJ t.aE).aT.x = c.aT.x /\ (AJ t.aE).aT.y = c.aT.y /\ (AJ t.aE).aT.z = c.aT.z then
    some (AS {t with aE:=t.aE.set (t.aE.length-1) {AJ t.aE with aR:=(AJ t.aE).aR+c.aR},length:=t.length+c.aR})
    else some (AS {t with aE:=t.aE++[{c with at_:=t.length}],length:=t.length+c.aR})else some (AS {t with aE:=t.aE++[{c with at_:=t.length}],length:=t.length+c.aR})else some (AS {t with aE:=t.aE++[{c with at_:=t.length}],length:=t.length+c.aR}))->R=some (AS (B_ t c)):=by
   intro R hR;rw[hR];unfold B_;by_cases g1:c.bC≠0
   ·by_cases g2:(AJ t.aE).bC=c.bC
    ·by_cases M:(AJ t.aE).aT.x=c.aT.x/\(AJ t.aE).aT.y=c.aT.y/\(AJ t.aE).aT.z=c.aT.z
     ·rw[aa g1,aa g2,aa M,aa ⟨J,g1,g2,RS.2 M⟩]
     ·rw[aa g1,aa g2,ab M,ab λg=>M (RS.1 g.2.2.2)]
    ·rw[aa g1,ab g2,ab λg=>g2 g.2.2.1]
   ·rw[ab g1,ab λg=>g1 g.2.1]
  refine main _ ?_;rw[<-E,<-L];rw[Q0d,af,e1,ag,Y];simp only[go_sem,T,S,aa N,aa G];rw[aa];simp only[i6]
theorem Q6e (x:Ax3) (w d:Pt):H3 (AU x++[I w.x,I w.y,I w.z,I d.x,I d.y,I d.z])=some [I (BA x w d)]:=by
 have he:=Q9k x.a.step x.a.aS x.a.bD x.a.bE x.a.low x.a.aY x.a.bB x.a.aV x.a.aO (x.a.aW.map AB) x.b.step x.b.aS x.b.bD x.b.bE x.b.low x.b.aY x.b.bB x.b.aV x.b.aO (x.b.aW.map AB) x.c.step x.c.aS x.c.bD x.c.bE x.c.low x.c.aY x.c.bB x.c.aV x.c.aO (x.c.aW.map AB) w.x w.y w.z d.x d.y d.z;unfold H3;refine dg he ?_;unfold BA slk;simp only[go_sem,G6]
 (repeat' split)<;>first|rfl|(exfalso;omega)
theorem Q8r (x:Ax3) (w d:Pt):KE (AU x++[I w.x,I w.y,I w.z,I d.x,I d.y,I d.z])=some [I (BA x w d)]:=by
 have he:=Q4p x.a.step x.a.aS x.a.bD x.a.bE x.a.low x.a.aY x.a.bB x.a.aV x.a.aO (x.a.aW.map AB) x.b.step x.b.aS x.b.bD x.b.bE x.b.low x.b.aY x.b.bB x.b.aV x.b.aO (x.b.aW.map AB) x.c.step x.c.aS x.c.bD x.c.bE x.c.low x.c.aY x.c.bB x.c.aV x.c.aO (x.c.aW.map AB) w.x w.y w.z d.x d.y d.z;unfold KE;refine dg he ?_;unfold BA slk;simp only[go_sem,G6]
 (repeat' split)<;>first|rfl|(exfalso;omega)
theorem Zvq (n a b:Pt) {mv:Int} (D:mv=1\/mv= -1):LB [I n.x,I n.y,I n.z,I a.x,I a.y,I a.z,I b.x,I b.y,I b.z,I mv]=some (ptR (C3 n a b mv)):=by
 unfold LB;rw[Q6h];have e:O (0-mv)= -mv:=by rw[Ae];omega
 unfold C3 Lq;simp only[go_sem,e]
 (repeat' split)<;>first|rfl|(exfalso;omega)
theorem Q3u {n D:Int}:Mn [I n,I D]=some [I (CZ n D)]:=by
 unfold Mn;rw[Ze7];simp only[Iw,G6];rfl
theorem Q29 (N:GoodPath p) {i:Nat} (G:i<p.aF.length) (d:Pt) {mv:Int} (S:mv=1\/mv= -1) (T:M (AA p++[I i])=some (ptR (C8 p.aQ p.aF i))):
  Zx M (AA p++[I d.x,I d.y,I d.z,I i,I mv])=some (ptR (C3 d (C8 p.aQ p.aF i) (sgA p.aF i).to mv)):=by
 have he:=Zsr M p.aQ.x p.aQ.y p.aQ.z (p.aF.map Ax) (p.aD.map A1) d.x d.y d.z i mv;refine dg he ?_;simp only[aq,ay,AA]at T;have D:=N.ok;have J:=(D.seg _ (H7 G)).2.2;have E:=Zu0 N.aQ D G;have Y:=D.count;have L:(0:Int)<=(i:Int)/\(i:Int)<(p.aF.length:Int):=by omega
 have key:∀u v:Int,u.natAbs<=B26->v.natAbs<=B26->O (O (u-v)*mv)=(u-v)*mv:=by
  intro u v V E;have U:=ES V E;rw[D8 U (by decide)];have h2:(u-v).natAbs<=134217728:=bn U (by decide);rcases S with rfl|rfl<;>rw[Ae]
 have X:∀n u v:Int,Lq n v u mv=if(u-v)*mv>0 then 1 else if(u-v)*mv<0 then-1 else n:=by
  intro n u v;unfold Lq;rcases S with rfl|rfl<;>(repeat' split)<;>omega
 simp only[T,go_sem,af,ag,GN G,aa L];generalize C8 p.aQ p.aF i=a at*;generalize(sgA p.aF i).to=b at*;rw[key _ _ J.1 E.1,key _ _ J.2.1 E.2.1,key _ _ J.2.2 E.2.2];unfold C3;simp only[X,ptR]
 (repeat' split)<;>first|rfl|(exfalso;omega)
theorem Zru (D:GoodPath p) {i:Nat} (E:i<p.aF.length) (d:Pt) {mv:Int} (G:mv=1\/mv= -1):
  Ic (AA p++[I d.x,I d.y,I d.z,I i,I mv])=some (ptR (C3 d (C8 p.aQ p.aF i) (sgA p.aF i).to mv)):=Q29 D E d G (Zvo E D.count)
theorem Q3k {x:Ax3} {s aR:Int} {n m k:Int} (O:Ax3OK x) (h:TB t n m) (U:n<=9000000) (V:m<=900000000000000000) (X:k<=900000000000000000) (L:0<=aR/\aR<=k)
  (S:Z [I q.x,I q.y,I q.z,I a.x,I a.y,I a.z,I b.x,I b.y,I b.z,I u]=some (ptR (C3 q a b u))) (T:∀w d:Pt,M (AU x++[I w.x,I w.y,I w.z,I d.x,I d.y,I d.z])=some [I (BA x w d)])
  (J : ∀ {t : Trk} {c : Pce} {n m k : Int}, TB t n m -> n <= 10000000 -> m <= 1000000000000000000 -> k <= 1000000000000000000 -> (0 <= c.aR /\ c.aR <= k) ->
   Y [.vC Ao (t.aE.map Bh),I c.at_,I c.aR,I c.s,I c.bC,I c.was.x,I c.was.y,I c.was.z,I c.aT.x,I c.aT.y,I c.aT.z,I t.length,I t.aQ,I t.aT.x,I t.aT.y,I t.aT.z]=some (AS (B_ t c))):
  Qix M Z Y (.vC Ao (t.aE.map Bh)::I a.x::I a.y::I a.z::I b.x::I b.y::I b.z::I s::I aR::I q.x::I q.y::I q.z::I u::(AU x++[I t.length,I t.aQ,I t.aT.x,I t.aT.y,I t.aT.z]))=
   some (.vC Ao ((Cq x u a b s aR (t, q)).1.aE.map Bh) :: I (Cq x u a b s aR (t, q)).2.x :: I (Cq x u a b s aR (t, q)).2.y :: I (Cq x u a b s aR (t, q)).2.z :: I u :: (AU x ++
    [I (Cq x u a b s aR (t,q)).1.length,I (Cq x u a b s aR (t,q)).1.aQ,I (Cq x u a b s aR (t,q)).1.aT.x,I (Cq x u a b s aR (t,q)).1.aT.y,I (Cq x u a b s aR (t,q)).1.aT.z])):=by
 have he:=Zod M Z Y (t.aE.map Bh) a.x a.y a.z b.x b.y b.z s aR q.x q.y q.z u x.a.step x.a.aS x.a.bD x.a.bE x.a.low x.a.aY x.a.bB x.a.aV x.a.aO (x.a.aW.map AB) x.b.step x.b.aS x.b.bD x.b.bE x.b.low x.b.aY x.b.bB x.b.aV x.b.aO (x.b.aW.map AB) x.c.step x.c.aS x.c.bD x.c.bE x.c.low x.c.aY x.c.bB x.c.aV x.c.aO (x.c.aW.map AB) t.length t.aQ t.aT.x t.aT.y t.aT.z;refine dg he ?_;have hs:=Ys O q (C3 q a b u);have E:=T q (C3 q a b u);simp only[AU,aq,ay]at E⊢;unfold Cq;simp only;generalize C3 q a b u=D at*;simp only[S,go_sem,E];by_cases c:BA x q D>0
 ·have N:=J (c:=⟨0,BA x q D,s,0,q,D⟩) h (by omega) (by omega) (k:=1000) (by omega) (by simp only;omega);have hb:=Sd (k:=1000) h (c:=⟨0,BA x q D,s,0,q,D⟩) (by simp only;omega);have G:=J (c:=⟨0,aR,s,u,D,D⟩) hb (by omega) (by omega) (k:=k) (by omega) L;simp only at N G;rw[aa c,aa c];simp only[N,AS,go_sem,G]
 ·have G:=J (c:=⟨0,aR,s,u,D,D⟩) h (by omega) (by omega) (k:=k) (by omega) L;simp only at G;rw[ab c,ab c];simp only[G,AS,go_sem]
theorem Ziq {x:Ax3} {s aR:Int} {n m k:Int} (D:u=1\/u= -1) (E:Ax3OK x) (h:TB t n m) (G:n<=9000000) (J:m<=900000000000000000) (L:k<=900000000000000000) (M:0<=aR/\aR<=k):
  EX (.vC Ao (t.aE.map Bh)::I a.x::I a.y::I a.z::I b.x::I b.y::I b.z::I s::I aR::I q.x::I q.y::I q.z::I u::(AU x++[I t.length,I t.aQ,I t.aT.x,I t.aT.y,I t.aT.z]))=
   some (.vC Ao ((Cq x u a b s aR (t, q)).1.aE.map Bh) :: I (Cq x u a b s aR (t, q)).2.x :: I (Cq x u a b s aR (t, q)).2.y :: I (Cq x u a b s aR (t, q)).2.z :: I u :: (AU x ++
    [I (Cq x u a b s aR (t,q)).1.length,I (Cq x u a b s aR (t,q)).1.aQ,I (Cq x u a b s aR (t,q)).1.aT.x,I (Cq x u a b s aR (t,q)).1.aT.y,I (Cq x u a b s aR (t,q)).1.aT.z])):=
 Q3k E h G J L M (Zvq q a b D) (Q8r x) λN O S T U=>Zkt N O S T U
def Zrk (D:Fn):Prop:=∀{t:Trk} {c:Pce} {n m k:Int},TB t n m->n<=10000000->m<=1000000000000000000->k<=1000000000000000000->(0<=c.aR/\c.aR<=k)->
 D [.vC Ao (t.aE.map Bh),I c.at_,I c.aR,I c.s,I c.bC,I c.was.x,I c.was.y,I c.was.z,I c.aT.x,I c.aT.y,I c.aT.z,I t.length,I t.aQ,I t.aT.x,I t.aT.y,I t.aT.z]=some (AS (B_ t c))
abbrev KG (p:Pth) (x:Ax3) (f to mv:Int) (t:Trk) (now:Pt) (b:Int) (j:Nat):List AC:=
 [.vC Ao [], .vC Ao (t.aE.map Bh),I f,I to,I mv,I b,I p.aF.length,I j,I p.aQ.x,I p.aQ.y,I p.aQ.z, .vC Af (p.aF.map Ax), .vC Av (p.aD.map A1),I x.a.step,I x.a.aS,I x.a.bD,I x.a.bE,I x.a.low,I x.a.aY,I x.a.bB,I x.a.aV,I x.a.aO, .vC Aa (x.a.aW.map AB),I x.b.step,I x.b.aS,I x.b.bD,I x.b.bE,I x.b.low,I x.b.aY,I x.b.bB,I x.b.aV,I x.b.aO, .vC Aa (x.b.aW.map AB),I x.c.step,I x.c.aS,I x.c.bD,I x.c.bE,I x.c.low,I x.c.aY,I x.c.bB,I x.c.aV,I x.c.aO, .vC Aa (x.c.aW.map AB),I 0,I 0,I 0,I 0,I 0,I t.length,I t.aQ,I t.aT.x,I t.aT.y,I t.aT.z,I now.x,I now.y,I now.z]
def Ev (l:List Sgm) (mv:Int) (j:Nat):Int:=if mv<0 then Ay l (l.length-j)else Ay l j
theorem Zjy {MA MS MF ML:Fn} {x:Ax3} {f to mv:Int} {now:Pt} {n m:Int} (hv:mv=1\/mv= -1) (hp:GoodPath p) (hx:Ax3OK x) (h:TB t n m) (hn:n<=9000000) (hm:m<=900000000000000000)
  (hf:0<=f/\f<=263886834032640) (ht:0<=to/\to<=263886834032640) (hj:j<p.aF.length) (hA:Zrk MA) (hS:∀w d:Pt,MS (AU x++[I w.x,I w.y,I w.z,I d.x,I d.y,I d.z])=some [I (BA x w d)])
  (hF:∀{i:Nat} (d:Pt),i<p.aF.length->MF (AA p++[I d.x,I d.y,I d.z,I i,I mv])=some (ptR (C3 d (C8 p.aQ p.aF i) (sgA p.aF i).to mv))):
  Rc MA MS MF ML (KG p x f to mv t now (Ev p.aF mv j) j)=some (0,KG p x f to mv (Gh p x mv (min f to) (max f to) (Eh p.aF.length mv j) (t,now)).1 (Gh p x mv (min f to) (max f to) (Eh p.aF.length mv j) (t,now)).2 (Ev p.aF mv (j+1)) (j+1)):=by
 have U:=hp.ok;have a6:=U.count;have M:=Ug mv hj;have G:(mv=1/\Eh p.aF.length mv j=j)\/(mv= -1/\Eh p.aF.length mv j=p.aF.length-1-j):=by
  unfold Eh;rcases hv with rfl|rfl
  ·exact .inl ⟨rfl,ab⟩
  ·exact .inr ⟨rfl,aa⟩
 obtain⟨i,hi⟩:∃i,Eh p.aF.length mv j=i:=⟨_,rfl⟩;rw[hi]at M G⊢;have L:i<p.aF.length:=M;have hg:=U.seg _ (H7 L);have hr:=GN L;have a7:=Ru U i (by omega);have J:=N_ L;have V:=hF now L;have a0:(0:Int)<=(i:Nat)/\((i:Nat):Int)<(p.aF.length:Int):=by omega
 have N:(j:Int)<(p.aF.length:Int):=by omega
 have e1:O ((j:Int)+1)=((j+1:Nat):Int):=by rw[Ae];omega
 have eB:O (Ev p.aF mv j+O (mv*(sgA p.aF i).len))=Ev p.aF mv (j+1)/\max (min (Ev p.aF mv j) (Ev p.aF mv (j+1))) (min f to)=max (Ay p.aF i) (min f to)/\
   min (max (Ev p.aF mv j) (Ev p.aF mv (j+1))) (max f to)=min (Ay p.aF (i+1)) (max f to):=by
  unfold Ev;rcases G with⟨rfl,rfl⟩|⟨rfl,ei⟩
  ·rw[ab,ab,gf,J,Ae (x:=(sgA p.aF i).len),Ae];refine⟨rfl,?_,?_⟩<;>omega
  ·rw[aa,aa,show p.aF.length-j=i+1 by omega,show p.aF.length-(j+1)=i by omega,J,Ae (x:= -1*(sgA p.aF i).len),Ae];refine⟨by omega,?_,?_⟩<;>omega
 obtain⟨eB,eL,eH⟩:=eB;have hI:O (O ((p.aF.length:Int)-1)-(j:Int))=((p.aF.length-1-j:Nat):Int):=by rw[Ae (x:=(p.aF.length:Int)-1),Ae];omega
 have X:=hS now (C3 now (C8 p.aQ p.aF i) (sgA p.aF i).to mv);have hb:=Ys hx now (C3 now (C8 p.aQ p.aF i) (sgA p.aF i).to mv);unfold Gh Cq;simp only[AU,AA,aq,ay]at X V⊢;rw[Qs6];have fin:∀(E:Int),E=(if mv<0 then min (Ay p.aF (i+1)) (max f to)else max (Ay p.aF i) (min f to))->max (Ay p.aF i) (min f to)<min (Ay p.aF (i+1)) (max f to)->∀D,D=C3 now (C8 p.aQ p.aF i) (sgA p.aF i).to mv->True:=λ_ _ _ _ _=>trivial;clear fin;generalize C3 now (C8 p.aQ p.aF i) (sgA p.aF i).to mv=D at*;have hd:min (Ay p.aF (i+1)) (max f to)-max (Ay p.aF i) (min f to)<=268435456:=by omega
 have a3:max (Ay p.aF i) (min f to)<min (Ay p.aF (i+1)) (max f to)->O (min (Ay p.aF (i+1)) (max f to)-max (Ay p.aF i) (min f to))=min (Ay p.aF (i+1)) (max f to)-max (Ay p.aF i) (min f to):=λ_=>Ae;have S:∀E:Int,max (Ay p.aF i) (min f to)<min (Ay p.aF (i+1)) (max f to)->BA x now D>0->
   MA [.vC Ao (t.aE.map Bh),I 0,I (BA x now D),I E,I 0,I now.x,I now.y,I now.z,I D.x,I D.y,I D.z,I t.length,I t.aQ,I t.aT.x,I t.aT.y,I t.aT.z]=some (AS (B_ t ⟨0,BA x now D,E,0,now,D⟩))/\
   MA [.vC Ao ((B_ t ⟨0,BA x now D,E,0,now,D⟩).aE.map Bh),I 0,I (min (Ay p.aF (i+1)) (max f to)-max (Ay p.aF i) (min f to)),I E,I mv,I D.x,I D.y,I D.z,I D.x,I D.y,I D.z,I (B_ t ⟨0,BA x now D,E,0,now,D⟩).length,I (B_ t ⟨0,BA x now D,E,0,now,D⟩).aQ,I (B_ t ⟨0,BA x now D,E,0,now,D⟩).aT.x,I (B_ t ⟨0,BA x now D,E,0,now,D⟩).aT.y,I (B_ t ⟨0,BA x now D,E,0,now,D⟩).aT.z]=
    some (AS (B_ (B_ t ⟨0,BA x now D,E,0,now,D⟩) ⟨0,min (Ay p.aF (i+1)) (max f to)-max (Ay p.aF i) (min f to),E,mv,D,D⟩)):=by
  intro E a4 hs;have a5:=Sd (k:=1000) h (c:=⟨0,BA x now D,E,0,now,D⟩) (by simp only;omega);exact⟨hA (c:=⟨0,BA x now D,E,0,now,D⟩) h (by omega) (by omega) (k:=1000) (by omega) (by simp only;omega),hA (c:=⟨0,_,E,mv,D,D⟩) a5 (by omega) (by omega) (k:=268435456) (by omega) (by simp only;omega)⟩
 have T:∀E:Int,max (Ay p.aF i) (min f to)<min (Ay p.aF (i+1)) (max f to)->
   MA [.vC Ao (t.aE.map Bh),I 0,I (min (Ay p.aF (i+1)) (max f to)-max (Ay p.aF i) (min f to)),I E,I mv,I D.x,I D.y,I D.z,I D.x,I D.y,I D.z,I t.length,I t.aQ,I t.aT.x,I t.aT.y,I t.aT.z]=
    some (AS (B_ t ⟨0,min (Ay p.aF (i+1)) (max f to)-max (Ay p.aF i) (min f to),E,mv,D,D⟩)):=by
  intro E a4;exact hA (c:=⟨0,_,E,mv,D,D⟩) h (by omega) (by omega) (k:=268435456) (by omega) (by simp only;omega)
 rcases G with⟨rfl,rfl⟩|⟨rfl,ei⟩
 ·generalize max (Ay p.aF i) (min f to)=first at*
  generalize min (Ay p.aF (i+1)) (max f to)=last at*;simp only[go_sem,af,ag,hr,aa a0,aa N,V,X,G6,Iw,↓eB,eL,eH,e1];rw[ab];by_cases c:first<last
  ·rw[aa c,aa c,a3 c];by_cases Y:BA x now D>0
   ·obtain⟨a1,a2⟩:=S first c Y
    simp only[aa Y,a1,AS,go_sem,a2];rfl
   ·have a1:=T first c
    simp only[ab Y,a1,AS,go_sem];rfl
  ·rw[ab c,ab c]
 ·rw[<-ei]at hI;generalize max (Ay p.aF i) (min f to)=first at*
  generalize min (Ay p.aF (i+1)) (max f to)=last at*;simp only[go_sem,af,hI,ag,hr,aa a0,aa N,V,X,G6,Iw,↓eB,eL,eH,e1];rw[aa];by_cases c:first<last
  ·rw[aa c,aa c,a3 c];by_cases Y:BA x now D>0
   ·obtain⟨a1,a2⟩:=S last c Y;simp only[aa Y,a1,AS,go_sem,a2];rfl
   ·have a1:=T last c;simp only[ab Y,a1,AS,go_sem];rfl
  ·rw[ab c,ab c]
theorem Qvl {p:Pth} {x:Ax3} {f to mv:Int} {d:Pt} (G:mv=1\/mv= -1) (D:GoodPath p) (J:Ax3OK x) (hf:0<=f/\f<=263886834032640) (N:0<=to/\to<=263886834032640):∀(k j:Nat),j+k=p.aF.length->∀w,w=BG p x mv (min f to) (max f to) (⟨[],0,f,d⟩,d) j->
  An (Rc I5 H3 Ic Gu) (KG p x f to mv w.1 w.2 (Ev p.aF mv j) j)=some (1, .vC Ao []:: .vC Ao ((BG p x mv (min f to) (max f to) (⟨[],0,f,d⟩,d) p.aF.length).1.aE.map Bh)::I 0::I 0::I 0::I 0::I 0::[I (BG p x mv (min f to) (max f to) (⟨[],0,f,d⟩,d) p.aF.length).1.length,I f,I d.x,I d.y,I d.z])
 |0,j,S,w,E=>by
  have L:j=p.aF.length:=by omega
  refine AG (o:=(1,_)) ?_ (by simp);rw[Qs6,AM (by omega)];have T:∀j,(BG p x mv (min f to) (max f to) (⟨[],0,f,d⟩,d) j).1.aQ=f/\(BG p x mv (min f to) (max f to) (⟨[],0,f,d⟩,d) j).1.aT=d:=by
   intro j;induction j with
   |zero=>exact⟨rfl,rfl⟩
   |succ j U=>rw[BG,(RF _).1,(RF _).2];exact U
  obtain⟨V,X⟩:=T j;rw[E,V,X,L]
 |k+1,j,S,w,E=>by
  have O:=D.count;have hb:=P8 (mv:=mv) (lo:=min f to) (hi:=max f to) (f:=f) (d:=d) J D.ok j (by omega);rw[<-E]at hb;have M:=Zjy (MA:=I5) (MS:=H3) (MF:=Ic) (ML:=Gu) (f:=f) (to:=to) (now:=w.2) (j:=j) G D J hb (by omega) (by omega) hf N (by omega) (λY h2 h3 h4 h5=>Zf7 Y h2 h3 h4 h5) (Q6e x) (λd hi=>Zru D hi d G);rw[AR M];exact Qvl G D J hf N k (j+1) (by omega) _ (by rw[BG,<-E])
theorem Zmb {x:Ax3} (X:0<=AO p.aF) (L:W (AA p)=some [I (AO p.aF)])
  (O:∀{f r mv:Int},(mv=1\/mv= -1)->(0<=f/\f<=AO p.aF)->(0<=r/\r<=AO p.aF)->N (KG p x f r mv ⟨[],0,f,a⟩ a (Ev p.aF mv 0) 0)=some (1, .vC Ao []:: .vC Ao ((BG p x mv (min f r) (max f r) (⟨[],0,f,a⟩,a) p.aF.length).1.aE.map Bh)::I 0::I 0::I 0::I 0::I 0::[I (BG p x mv (min f r) (max f r) (⟨[],0,f,a⟩,a) p.aF.length).1.length,I f,I a.x,I a.y,I a.z])):
  Vj M Z Y W N (AA p++AU x++[I a.x,I a.y,I a.z,I u,I r])=some (AS (FX p x a u r)):=by
 have he:=Zkr M Z Y W N p.aQ.x p.aQ.y p.aQ.z (p.aF.map Ax) (p.aD.map A1) x.a.step x.a.aS x.a.bD x.a.bE x.a.low x.a.aY x.a.bB x.a.aV x.a.aO (x.a.aW.map AB) x.b.step x.b.aS x.b.bD x.b.bE x.b.low x.b.aY x.b.bB x.b.aV x.b.aO (x.b.aW.map AB) x.c.step x.c.aS x.c.bD x.c.bE x.c.low x.c.aY x.c.bB x.c.aV x.c.aO (x.c.aW.map AB) a.x a.y a.z u r;refine dg he ?_;have U:∀v:Int,mn (mx v 0) (AO p.aF)=CZ v (AO p.aF):=by intro v;rw[Iw,G6];unfold CZ;omega
 have hf:0<=CZ u (AO p.aF)/\CZ u (AO p.aF)<=AO p.aF:=by unfold CZ;omega
 have S:0<=CZ r (AO p.aF)/\CZ r (AO p.aF)<=AO p.aF:=by unfold CZ;omega
 have T:∀mv D E f j,(BG p x mv D E (⟨[],0,f,a⟩,a) j).1.aQ=f/\(BG p x mv D E (⟨[],0,f,a⟩,a) j).1.aT=a:=by
  intro mv D E f j;induction j with
  |zero=>exact⟨rfl,rfl⟩
  |succ j V=>rw[BG,(RF _).1,(RF _).2];exact V
 have G:=O (mv:=1) (.inl rfl) hf S;have J:=O (mv:= -1) (.inr rfl) hf S;have e1:Ev p.aF 1 0=0:=by unfold Ev;rw[ab,Y4]
 have e2:Ev p.aF (-1) 0=AO p.aF:=by unfold Ev;rw[aa,Nat.sub_zero,Zpk]
 rw[e1]at G;rw[e2]at J;unfold FX;simp only[AA]at L;simp only[L,go_sem,U,af];generalize CZ u (AO p.aF)=f at*;generalize CZ r (AO p.aF)=t at*;by_cases c:t<f
 ·have k:=T (-1) (min f t) (max f t) f p.aF.length;rw[aa c];simp only[AS,k.1,k.2];simp only[KG,cm,gr]at J;simp only[J,go_sem,c,dc,k.1,k.2]
 ·have k:=T 1 (min f t) (max f t) f p.aF.length;rw[ab c];simp only[AS,k.1,k.2];simp only[KG,cm,gr]at G;simp only[G,go_sem,c,ez,k.1,k.2]
theorem Q7p {x:Ax3} {d:Pt} {from_ to:Int} (D:GoodPath p) (E:Ax3OK x):Qy (AA p++AU x++[I d.x,I d.y,I d.z,I from_,I to])=some (AS (FX p x d from_ to)):=by
 have G:=Zn0 D;exact Zmb (N:=Yw) G.1 (Qrd D.ok) fun{f to mv} J hf L=>Qvl (d:=d) J D E (by omega) (by omega) p.aF.length 0 (by omega) _ rfl
def EF (l:List Sgm) (j:Nat):Rw:=(List.range j).map λi=>[I (Ay l i)]
theorem Ql (l:List Sgm) (j:Nat):(EF l j).length=j:=by simp[EF]
theorem Za0 (l:List Sgm) (j:Nat):EF l (j+1)=EF l j++[[I (Ay l j)]]:=by unfold EF;rw[List.range_succ,bh];rfl
theorem Zsj {l:List Sgm} {n i:Nat} (h:i<n):nth [] (EF l n) i=[I (Ay l i)]:=by
 have D:i<(EF l n).length:=by rw[Ql];exact h
 rw[LY [] _ i D];simp[EF]
abbrev OK (p:Pth) (x:Ax3) (D E mv:Int) (t:Trk) (now:Pt) (at_:Int) (G:Rw) (j:Nat):List AC:=
 [.vC Aa G, .vC Ao (t.aE.map Bh),I D,I E,I mv,I at_, .vC Af (p.aF.map Ax),I p.aF.length,I j,I p.aQ.x,I p.aQ.y,I p.aQ.z, .vC Af (p.aF.map Ax), .vC Av (p.aD.map A1),I now.x,I now.y,I now.z,I mv,I x.a.step,I x.a.aS,I x.a.bD,I x.a.bE,I x.a.low,I x.a.aY,I x.a.bB,I x.a.aV,I x.a.aO, .vC Aa (x.a.aW.map AB),I x.b.step,I x.b.aS,I x.b.bD,I x.b.bE,I x.b.low,I x.b.aY,I x.b.bB,I x.b.aV,I x.b.aO, .vC Aa (x.b.aW.map AB),I x.c.step,I x.c.aS,I x.c.bD,I x.c.bE,I x.c.low,I x.c.aY,I x.c.bB,I x.c.aV,I x.c.aO, .vC Aa (x.c.aW.map AB),I t.length,I t.aQ,I t.aT.x,I t.aT.y,I t.aT.z]
theorem Qvc {M:Fn} {p:Pth} {x:Ax3} {lo hi mv:Int} {t:Trk} {now:Pt} (h:SegOK p.aF):∀(k j:Nat),j+k=p.aF.length->
  An (Rt M) (OK p x lo hi mv t now (Ay p.aF j) (EF p.aF j) j)=some (1,[.vC Aa (EF p.aF p.aF.length), .vC Ao (t.aE.map Bh),I lo,I hi,I mv,I p.aQ.x,I p.aQ.y,I p.aQ.z, .vC Af (p.aF.map Ax), .vC Av (p.aD.map A1),I now.x,I now.y,I now.z,I mv,I x.a.step,I x.a.aS,I x.a.bD,I x.a.bE,I x.a.low,I x.a.aY,I x.a.bB,I x.a.aV,I x.a.aO, .vC Aa (x.a.aW.map AB),I x.b.step,I x.b.aS,I x.b.bD,I x.b.bE,I x.b.low,I x.b.aY,I x.b.bB,I x.b.aV,I x.b.aO, .vC Aa (x.b.aW.map AB),I x.c.step,I x.c.aS,I x.c.bD,I x.c.bE,I x.c.low,I x.c.aY,I x.c.bB,I x.c.aV,I x.c.aO, .vC Aa (x.c.aW.map AB),I t.length,I t.aQ,I t.aT.x,I t.aT.y,I t.aT.z])
 |0,j,N=>by
  have E:j=p.aF.length:=by omega
  refine AG (o:=(1,_)) ?_ (by simp);rw[Qrs,AM (by omega),E]
 |k+1,j,N=>by
  have D:j<p.aF.length:=by omega
  have J:=h.count;have L:=Ru h j (by omega);have S:=h.seg _ (H7 D);have G:Rt M (OK p x lo hi mv t now (Ay p.aF j) (EF p.aF j) j)=some (0,OK p x lo hi mv t now (Ay p.aF (j+1)) (EF p.aF (j+1)) (j+1)):=by
   have hle:(EF p.aF j++[[I (Ay p.aF j)]]).length*8<=140737488355328:=by rw[am,Ql];simp only[bf,bm];omega
   have e1:O ((j:Int)+1)=((j+1:Nat):Int):=by rw[Ae];omega
   rw[Qrs];simp only[go_sem,af,ag,GN D,aa hle,e1,Za0];rw[aa,aa,Ae (x:=Ay p.aF j+(sgA p.aF j).len),N_ D]
  rw[AR G];exact Qvc h k (j+1) (by omega)
abbrev Nw (p:Pth) (x:Ax3) (D E mv:Int) (t:Trk) (now:Pt) (j:Nat):List AC:=
 [.vC Aa (EF p.aF p.aF.length), .vC Ao (t.aE.map Bh),I D,I E,I mv,I p.aF.length,I j,I p.aQ.x,I p.aQ.y,I p.aQ.z, .vC Af (p.aF.map Ax), .vC Av (p.aD.map A1),I now.x,I now.y,I now.z,I mv,I x.a.step,I x.a.aS,I x.a.bD,I x.a.bE,I x.a.low,I x.a.aY,I x.a.bB,I x.a.aV,I x.a.aO, .vC Aa (x.a.aW.map AB),I x.b.step,I x.b.aS,I x.b.bD,I x.b.bE,I x.b.low,I x.b.aY,I x.b.bB,I x.b.aV,I x.b.aO, .vC Aa (x.b.aW.map AB),I x.c.step,I x.c.aS,I x.c.bD,I x.c.bE,I x.c.low,I x.c.aY,I x.c.bB,I x.c.aV,I x.c.aO, .vC Aa (x.c.aW.map AB),I t.length,I t.aQ,I t.aT.x,I t.aT.y,I t.aT.z]
abbrev E3 (x:Ax3) (mv:Int) (t:Trk) (now:Pt):List AC:=[.vC Ao (t.aE.map Bh),I now.x,I now.y,I now.z,I mv,I x.a.step,I x.a.aS,I x.a.bD,I x.a.bE,I x.a.low,I x.a.aY,I x.a.bB,I x.a.aV,I x.a.aO, .vC Aa (x.a.aW.map AB),I x.b.step,I x.b.aS,I x.b.bD,I x.b.bE,I x.b.low,I x.b.aY,I x.b.bB,I x.b.aV,I x.b.aO, .vC Aa (x.b.aW.map AB),I x.c.step,I x.c.aS,I x.c.bD,I x.c.bE,I x.c.low,I x.c.aY,I x.c.bB,I x.c.aV,I x.c.aO, .vC Aa (x.c.aW.map AB),I t.length,I t.aQ,I t.aT.x,I t.aT.y,I t.aT.z]
theorem Zl5 {MV:Fn} {x:Ax3} {lo hi mv:Int} {now:Pt} {n m:Int} (hv:mv=1\/mv= -1) (hp:GoodPath p) (hx:Ax3OK x) (h:TB t n m) (hn:n<=9000000) (hm:m<=900000000000000000)
  (hj:j<p.aF.length)
  (Y:∀{a b:Pt} {s aR:Int},(0<=aR/\aR<=268435456)->MV [.vC Ao (t.aE.map Bh),I a.x,I a.y,I a.z,I b.x,I b.y,I b.z,I s,I aR,I now.x,I now.y,I now.z,I mv,I x.a.step,I x.a.aS,I x.a.bD,I x.a.bE,I x.a.low,I x.a.aY,I x.a.bB,I x.a.aV,I x.a.aO, .vC Aa (x.a.aW.map AB),I x.b.step,I x.b.aS,I x.b.bD,I x.b.bE,I x.b.low,I x.b.aY,I x.b.bB,I x.b.aV,I x.b.aO, .vC Aa (x.b.aW.map AB),I x.c.step,I x.c.aS,I x.c.bD,I x.c.bE,I x.c.low,I x.c.aY,I x.c.bB,I x.c.aV,I x.c.aO, .vC Aa (x.c.aW.map AB),I t.length,I t.aQ,I t.aT.x,I t.aT.y,I t.aT.z]=some (E3 x mv (Cq x mv a b s aR (t,now)).1 (Cq x mv a b s aR (t,now)).2)):
  RL MV N (Nw p x lo hi mv t now j)=some (0,Nw p x lo hi mv (Gh p x mv lo hi (Eh p.aF.length mv j) (t,now)).1 (Gh p x mv lo hi (Eh p.aF.length mv j) (t,now)).2 (j+1)):=by
 have M:=hp.ok;have a1:=M.count;have J:=Ug mv hj;have E:(mv=1/\Eh p.aF.length mv j=j)\/(mv= -1/\Eh p.aF.length mv j=p.aF.length-1-j):=by
  unfold Eh;rcases hv with rfl|rfl
  ·exact .inl ⟨rfl,ab⟩
  ·exact .inr ⟨rfl,aa⟩
 obtain⟨i,a0⟩:∃i,Eh p.aF.length mv j=i:=⟨_,rfl⟩;rw[a0]at J E⊢;have G:i<p.aF.length:=J;have hg:=M.seg _ (H7 G);have hr:=GN G;have hb:=Zsj (l:=p.aF) G;have a2:=Ru M i (by omega);have S:=N_ G;have T:(0:Int)<=(i:Nat)/\(i:Int)<(p.aF.length:Int):=by omega
 have L:(j:Int)<(p.aF.length:Int):=by omega
 have e1:O ((j:Int)+1)=((j+1:Nat):Int):=by rw[Ae];omega
 have hI:O (O ((p.aF.length:Int)-1)-(j:Int))=((p.aF.length-1-j:Nat):Int):=by rw[Ae (x:=(p.aF.length:Int)-1),Ae];omega
 have hw:O (Ay p.aF i+(sgA p.aF i).len)=Ay p.aF (i+1):=by rw[S,Ae]
 have U:max (Ay p.aF i) lo<min (Ay p.aF (i+1)) hi->O (min (Ay p.aF (i+1)) hi-max (Ay p.aF i) lo)=min (Ay p.aF (i+1)) hi-max (Ay p.aF i) lo:=λ_=>Ae;have hd:max (Ay p.aF i) lo<min (Ay p.aF (i+1)) hi->0<=min (Ay p.aF (i+1)) hi-max (Ay p.aF i) lo/\min (Ay p.aF (i+1)) hi-max (Ay p.aF i) lo<=268435456:=λ_=>by omega
 have V:i≠0->O ((i:Int)-1)=((i-1:Nat):Int)/\((0:Int)<=((i-1:Nat):Int)/\((i-1:Nat):Int)<(p.aF.length:Int))/\nth [] (p.aF.map Ax) (i-1)=Ax (sgA p.aF (i-1))/\C8 p.aQ p.aF i=(sgA p.aF (i-1)).to:=by
  intro h0;refine⟨by rw[Ae];omega,by omega,GN (by omega),?_⟩;obtain⟨q,rfl⟩:∃q,i=q+1:=⟨i-1,by omega⟩;exact QI (by omega)
 unfold Gh;rw[Qza];rcases E with⟨rfl,rfl⟩|⟨rfl,ei⟩
 ·simp only[go_sem,af,Ql,ag,hr,hb,aa T,aa L,G6,Iw,hw,e1];rw[ab];by_cases c:max (Ay p.aF i) lo<min (Ay p.aF (i+1)) hi
  ·rw[ab,aa c,U c];by_cases X:i=0
   ·rw[ab];have D:=Y (a:=p.aQ) (b:=(sgA p.aF i).to) (s:=max (Ay p.aF i) lo) (hd c);subst X;rw[NC];rw[ab,D];simp only[E3,go_sem];rfl
   ·obtain⟨k1,k2,k3,k4⟩:=V X;rw[aa,k1];have D:=Y (a:=(sgA p.aF (i-1)).to) (b:=(sgA p.aF i).to) (s:=max (Ay p.aF i) lo) (hd c);rw[k4];simp only[ag,k3,go_sem,aa k2];rw[ab,D];simp only[E3,go_sem];rfl
  ·rw[aa,ab c]
 ·rw[<-ei]at hI;simp only[go_sem,af,Ql,hI,ag,hr,hb,aa T,aa L,G6,Iw,hw,e1];rw[aa];by_cases c:max (Ay p.aF i) lo<min (Ay p.aF (i+1)) hi
  ·rw[ab,aa c,U c];by_cases X:i=0
   ·rw[ab];have D:=Y (a:=p.aQ) (b:=(sgA p.aF i).to) (s:=min (Ay p.aF (i+1)) hi) (hd c);subst X;rw[NC];rw[aa,D];simp only[E3,go_sem];rfl
   ·obtain⟨k1,k2,k3,k4⟩:=V X;rw[aa,k1];have D:=Y (a:=(sgA p.aF (i-1)).to) (b:=(sgA p.aF i).to) (s:=min (Ay p.aF (i+1)) hi) (hd c);rw[k4];simp only[ag,k3,go_sem,aa k2];rw[aa,D];simp only[E3,go_sem];rfl
  ·rw[aa,ab c]
def pcA (l:List Pce) (i:Nat):Pce:=l.getD i pc0
def eI (l:List Pce) (i:Nat):Int:=(pcA l i).at_+(pcA l i).aR
structure TQ (t : Trk) : Prop where
 count:t.aE.length<=10000000
 len:0<=t.length/\t.length<=900000000000000
 pos:∀i,i<t.aE.length->0<=(pcA t.aE i).at_/\1<=(pcA t.aE i).aR/\eI t.aE i<=t.length
 mono:∀i j,i<=j->j<t.aE.length->eI t.aE i<=eI t.aE j
 last:t.aE≠[]->eI t.aE (t.aE.length-1)=t.length
 aQ:0<=t.aQ/\t.aQ<=263886834032640
 s:∀i,i<t.aE.length-> -900000000000000<=(pcA t.aE i).s/\(pcA t.aE i).s<=2000000000000000
 bC:∀i,i<t.aE.length->(pcA t.aE i).bC=0\/(pcA t.aE i).bC=1\/(pcA t.aE i).bC= -1
end Go.Bm
