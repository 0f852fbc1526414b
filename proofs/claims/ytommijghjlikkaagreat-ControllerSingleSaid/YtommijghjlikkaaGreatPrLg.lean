/- laid together -/
import Derived.Test.YtommijghjlikkaaGreatPrPe
import Derived.Test.YtommijghjlikkaaGreatPrTc
import Derived.Test.YtommijghjlikkaaGreatPrLb
import Derived.Test.YtommijghjlikkaaGreatMx3
import Derived.Test.YtommijghjlikkaaGreatMy1
set_option linter.unusedVariables false
set_option linter.unusedSimpArgs false
set_option maxRecDepth 100000
open Go.IntKind (wrap)
namespace Go.Bm
open Classical
theorem Qd3 {MK MV MN MS MM MC:Fn} {aA:List Itm} (hM:∀k:Int,MM [I k]=some [B (decide (1<=k/\k<=6))]) (hW:∀it,MC (Ag it)=some [I (if BL it then 1 else 0)]) (hl:aA.length<=1000000):
  ∀(k i:Nat) (last:Int),i+k=aA.length->(last= -1\/(0<=last/\last<i))->
  (An (Pi MK MV MN MS MM MC) [.view Ah [], .view AF [], .view Ai (aA.map Ag),I last, .view Ai (aA.map Ag),I aA.length,I i,I 0,I 0,I 0,B false,I 0,I 0,I 0]=some (1,[.view Ah [], .view AF [],I (GW aA k i last),I 0,I 0,I 0,B false,I 0,I 0,I 0])/\GW aA k i last≠0)\/
  (An (Pi MK MV MN MS MM MC) [.view Ah [], .view AF [], .view Ai (aA.map Ag),I last, .view Ai (aA.map Ag),I aA.length,I i,I 0,I 0,I 0,B false,I 0,I 0,I 0]=some (2,[.view Ah [], .view AF [], .view Ai (aA.map Ag),I 0,I 0,I 0,B false,I 0,I 0,I 0])/\GW aA k i last=0)
 |0,i,last,hi,_=>by
  right;refine⟨A_ ?_ (by simp),rfl⟩;rw[Q23,AZ (by omega)]
 |k+1,i,last,hi,hla=>by
  have hlt:i<aA.length:=by omega
  have hr:=E4 hlt;have hw:=hW (itA aA i);have hm:=hM (itA aA i).kind;have hin:(0:Int)<=(i:Int)/\(i:Int)<(aA.length:Int):=by omega
  have hst:Pi MK MV MN MS MM MC [.view Ah [], .view AF [], .view Ai (aA.map Ag),I last, .view Ai (aA.map Ag),I aA.length,I i,I 0,I 0,I 0,B false,I 0,I 0,I 0]=
    if BL (itA aA i)then some (1,[.view Ah [], .view AF [],I 1,I 0,I 0,I 0,B false,I 0,I 0,I 0])else if AB (itA aA i)then(if 0<=last/\(itA aA last.toNat).to≠(itA aA i).fr then some (1,[.view Ah [], .view AF [],I 13,I 0,I 0,I 0,B false,I 0,I 0,I 0])else some (0,[.view Ah [], .view AF [], .view Ai (aA.map Ag),I i, .view Ai (aA.map Ag),I aA.length,I (i+1:Nat),I 0,I 0,I 0,B false,I 0,I 0,I 0]))
    else some (0,[.view Ah [], .view AF [], .view Ai (aA.map Ag),I last, .view Ai (aA.map Ag),I aA.length,I (i+1:Nat),I 0,I 0,I 0,B false,I 0,I 0,I 0]):=by
   rw[Q23];simp only[Ag]at hw;simp only[go_sem,List.length_map,Int.toNat_natCast,hr,hw,hm,if_pos hin];rw[if_pos (by omega),Ae (by omega)];by_cases c1:BL (itA aA i)
   ·simp only[if_pos c1];rw[if_pos (by omega)]
   simp only[if_neg c1];rw[if_neg (by simp)];by_cases c2:AB (itA aA i)
   ·rw[if_neg (fun h=>h c2),if_pos c2];rcases hla with rfl|⟨h1,h2⟩
    ·rw[if_neg (show¬(-1:Int)>=0 by omega),if_neg (fun h=>by omega)];rfl
    ·obtain⟨L,rfl⟩:=Int.eq_ofNat_of_zero_le h1;have hL:L<aA.length:=by omega
     have hin2:(0:Int)<=(L:Int)/\(L:Int)<(aA.length:Int):=by omega
     have hr2:=E4 hL;simp only[Int.toNat_natCast,hr2,go_sem,if_pos hin2];rw[if_pos (by omega)];by_cases c3:(itA aA L).to=(itA aA i).fr
     ·have c4:=DS.1 c3;rw[if_neg (fun h=>h ⟨c4.1,c4.2.1,c4.2.2,trivial⟩),if_neg (fun h=>h.2 c3)];rfl
     ·rw[if_pos (fun h=>c3 (DS.2 ⟨h.1,h.2.1,h.2.2.1⟩)),if_pos ⟨h1,c3⟩]
   ·rw[if_pos (show¬(1<=(itA aA i).kind/\(itA aA i).kind<=6)from c2),if_neg c2];rfl
  unfold GW;by_cases c1:BL (itA aA i)
  ·rw[if_pos c1]at hst⊢;exact .inl ⟨A_ hst (by simp),by simp⟩
  ·rw[if_neg c1]at hst⊢;by_cases c2:AB (itA aA i)
   ·rw[if_pos c2]at hst⊢;by_cases c3:0<=last/\(itA aA last.toNat).to≠(itA aA i).fr
    ·rw[if_pos c3]at hst⊢;exact .inl ⟨A_ hst (by simp),by simp⟩
    ·rw[if_neg c3]at hst⊢;rw[Bt hst];exact Qd3 hM hW hl k (i+1) i (by omega) (.inr (by omega))
   ·rw[if_neg c2]at hst⊢;rw[Bt hst];exact Qd3 hM hW hl k (i+1) last (by omega) (by omega)
noncomputable def F6 (aA:List Itm):Nat->Int
 |0=> -1
 |i+1=>if AB (itA aA i)then i else F6 aA i
theorem Qys (aA:List Itm):∀i,F6 aA i= -1\/∃L:Nat,F6 aA i=L/\L<i/\AB (itA aA L)/\∀j,L<j->j<i-> ¬AB (itA aA j)
 |0=> .inl rfl
 |i+1=>by
  unfold F6;by_cases c:AB (itA aA i)
  ·rw[if_pos c];exact .inr ⟨i,rfl,by omega,c,fun j h1 h2=>by omega⟩
  ·rw[if_neg c];rcases Qys aA i with h|⟨L,h1,h2,h3,h4⟩
   ·exact .inl h
   ·refine .inr ⟨L,h1,by omega,h3,fun j g1 g2=> ?_⟩;by_cases e:j=i
    ·rw[e];exact c
    ·exact h4 j g1 (by omega)
theorem Qty (aA:List Itm):∀i,(Au aA i).frm=if 0<=F6 aA i/\0<=Cb aA (F6 aA i).toNat then F6 aA i else-1
 |0=>by rw[Au,F6,if_neg (by omega)]
 |i+1=>by
  rw[Au,F6];unfold DB;by_cases c:AB (itA aA i)
  ·rw[if_pos c,if_pos c];simp only[Int.toNat_natCast];by_cases c2:0<=Cb aA i
   ·rw[if_pos c2,if_pos ⟨by omega,c2⟩]
   ·rw[if_neg c2,if_neg (fun h=>c2 h.2)]
  ·rw[if_neg c,if_neg c];exact Qty aA i
theorem Zuk {aA:List Itm} {i L:Nat} (hL:L<i) (hi:i<aA.length) (hm:AB (itA aA i)) (hno:∀j,L<j->j<i-> ¬AB (itA aA j)) (hs:0<=Cb aA L):C7 aA L=i:=by
 have h1:=RQ hs;rcases Qck aA L with h|⟨-,-,k,k1,k2,k3,k4,k5⟩
 ·omega
 ·have hk:C7 aA L=k:=by omega
  rw[hk];rcases Nat.lt_trichotomy k i with h|h|h
  ·exact absurd ⟨by have:=k4.1;omega,by have:=k4.1;omega⟩ (hno k k2 h)
  ·exact h
  ·have:=k5 i hL h;have:=hm.2;omega
noncomputable def CM (aA:List Itm):Nat->Int
 |0=>0
 |i+1=>if AB (itA aA i)then(Ff aA i (Au aA i) (CM aA i)).2 else CM aA i
theorem Qy5 (aA:List Itm):∀i,(Au aA i).begun=false->(Au aA i).frm= -1
 |0,_=>by rw[Au]
 |i+1,h=>by
  rw[Au]at h⊢;unfold DB at h⊢;by_cases c:AB (itA aA i)
  ·rw[if_pos c]at h;cases h
  ·rw[if_neg c]at h⊢;exact Qy5 aA i h
noncomputable abbrev pbR (aA:List Itm) (i:Nat):List AC:=
 [.view Ah ((Au aA i).aF.map Ay), .view AF ((Au aA i).aD.map Aq), .view Ai (aA.map Ag),I (F6 aA i), .view Ai (aA.map Ag),I aA.length,I i,I (Au aA i).start.x,I (Au aA i).start.y,I (Au aA i).start.z,B (Au aA i).begun,I (Au aA i).len,I (Au aA i).speed,I (CM aA i)]
theorem Z1g {MK MV MN MS MM MC:Fn} {N6:Lp} {aA:List Itm} {i:Nat} (hi:i<aA.length) (hlen:aA.length<=15) (hmk:(Au aA i).aD.length=i)
  (hM:∀k:Int,MM [I k]=some [B (decide (1<=k/\k<=6))]) (hS:∀L:Nat,L<aA.length->MS [.view Ai (aA.map Ag),I L]=some [B (decide (0<=Cb aA L))]) (hN:∀L:Nat,L<aA.length->MN [.view Ai (aA.map Ag),I L]=some [I (C7 aA L)])
  (hV : AB (itA aA i) -> MV [.view Ah ((Au aA i).aF.map Ay), .view AF ((Au aA i).aD.map Aq), .view Ai (aA.map Ag), I i, I (Au aA i).frm, I (Au aA i).start.x, I (Au aA i).start.y, I (Au aA i).start.z, B (Au aA i).begun, I (Au aA i).len, I (Au aA i).speed, I (CM aA i)] =
   some [.view Ah ((Ff aA i (Au aA i) (CM aA i)).1.1.map Ay), .view AF ((Au aA i).aD.map Aq),B true,I (if(Au aA i).begun=true then(Au aA i).start else Ax (itA aA i).fr).x,I (if(Au aA i).begun=true then(Au aA i).start else Ax (itA aA i).fr).y,I (if(Au aA i).begun=true then(Au aA i).start else Ax (itA aA i).fr).z,B true,
    I (Ff aA i (Au aA i) (CM aA i)).1.2.1,I (Au aA i).speed,I (Ff aA i (Au aA i) (CM aA i)).2])
  (hK : ∀ {aF : Rw} {st : Pt} {b : Bool} {len sp mid : Int}, MK [.view Ah aF, .view AF ((Au aA i).aD.map Aq), .view Ai (aA.map Ag), I i, I st.x, I st.y, I st.z, B b, I len, I sp, I mid] =
   some [.view Ah aF, .view AF (((Au aA i).aD++[(⟨len,Ka aA i,i⟩:Mrk)]).map Aq),I st.x,I st.y,I st.z,B b,I len,I sp,I mid]):
  OX MK MV MN MS MM MC N6 (pbR aA i)=some (0,pbR aA (i+1)):=by
 have hr:=E4 hi;have hin:(0:Int)<=(i:Int)/\(i:Int)<(aA.length:Int):=by omega
 have hw:wrap .i64 ((i:Int)+1)=((i+1:Nat):Int):=by rw[Ae (by omega)];omega
 have hf:=Qty aA i;have hls:=Qys aA i;have hfst:=Qom aA i (Au aA i) (CM aA i);have e1:F6 aA (i+1)=if AB (itA aA i)then(i:Int)else F6 aA i:=rfl;have e2:CM aA (i+1)=if AB (itA aA i)then(Ff aA i (Au aA i) (CM aA i)).2 else CM aA i:=rfl;have e3:Au aA (i+1)=DB aA i (Au aA i):=rfl;unfold pbR;rw[e1,e2,e3];generalize Au aA i=s at*;generalize F6 aA i=last at*;generalize hmi:CM aA i=mid at*;unfold DB;rw[Q5n];by_cases hm:AB (itA aA i)
 ·have h8: ¬(itA aA i).kind=8:=fun h=>by have:=hm.2;omega
  have hV:=hV hm;have hmk2:Ka aA i=H6 aA i:=if_pos hm;rw[if_pos hm,if_pos hm,if_pos hm];rw[hfst]at hV;have hM2:MM [I (itA aA i).kind]=some [B true]:=by rw[hM,decide_eq_true (show 1<=(itA aA i).kind/\(itA aA i).kind<=6 from hm)]
  simp only[go_sem,List.length_map,Int.toNat_natCast,hr,if_pos hin,hM2];rw[if_pos (by omega),if_neg h8];have hbef:∀{x:Option (Nat×List AC)} {frm:Int},s.frm=frm->(MV [.view Ah (s.aF.map Ay), .view AF (s.aD.map Aq), .view Ai (aA.map Ag),I i,I frm,I s.start.x,I s.start.y,I s.start.z,B s.begun,I s.len,I s.speed,I mid])=
    some [.view Ah ((Fv aA i s).1.map Ay), .view AF (s.aD.map Aq),B true,I (if s.begun=true then s.start else Ax (itA aA i).fr).x,I (if s.begun=true then s.start else Ax (itA aA i).fr).y,I (if s.begun=true then s.start else Ax (itA aA i).fr).z,B true,I (Fv aA i s).2.1,I s.speed,I (Ff aA i s mid).2]:=by
   intro x frm h;rw[<-h];exact hV
  rcases hls with hls|⟨L,h1,h2,h3,h4⟩
  ·rw[hls];rw[hls,if_neg (by omega)]at hf;rw[if_neg (show¬(-1:Int)>=0 by omega)];have hv:=hbef (x:=none) hf;simp only[hv,go_sem,hK,hw,hmk2];simp
  ·rw[h1]at hf⊢;rw[Int.toNat_natCast]at hf;have hs:=hS L (by omega);have hn:=hN L (by omega);rw[if_pos (show(L:Int)>=0 by omega)];by_cases c:0<=Cb aA L
   ·have hnx:=Zuk h2 hi hm h4 c;rw[if_pos ⟨by omega,c⟩]at hf;rw[hnx]at hn;rw[decide_eq_true c]at hs;have hv:=hbef (x:=none) hf;simp only[hs,hn,go_sem];simp only[hv,go_sem,hK,hw,hmk2];simp
   ·rw[if_neg (fun h=>c h.2)]at hf;rw[decide_eq_false c]at hs;have hv:=hbef (x:=none) hf;simp only[hs,go_sem];simp only[hv,go_sem,hK,hw,hmk2];simp
 ·have hmk2:Ka aA i=KE (itA aA i):=if_neg hm;rw[if_neg hm,if_neg hm,if_neg hm];have hM2:MM [I (itA aA i).kind]=some [B false]:=by rw[hM,decide_eq_false (show¬(1<=(itA aA i).kind/\(itA aA i).kind<=6)from hm)]
  unfold P5;simp only[go_sem,List.length_map,Int.toNat_natCast,hr,if_pos hin,hM2,hK,hw,hmk2];rw[if_pos (by omega)];by_cases h8:(itA aA i).kind=8
  ·by_cases h3:(itA aA i).n=3
   ·simp[h8,h3]
   ·by_cases h4:(itA aA i).n=4
    ·simp[h8,h4]
    ·simp[h8,h3,h4]
  ·simp[h8]
end Go.Bm
namespace Go.Bm
open Classical
theorem Zxu {it:Itm} {speed:Int} (hf:it.kind=1\/1<=it.feed/\it.feed<=60000000) (hs:0<=speed/\speed<=30000):JX (Ag it++[I speed])=some [I (Hd it speed)]:=by
 by_cases h1:it.kind=1
 ·unfold JX Hd;generalize Bs=M;have h:=Q2m (AH:=M) it.kind it.block it.fr.x it.fr.y it.fr.z it.to.x it.to.y it.to.z it.aG it.ce.x it.ce.y it.ce.z it.dir it.full it.feed it.perRev it.side it.radius it.blend it.n it.speed it.on speed;rw[if_pos h1];refine Eq.trans h ?_;rw[BO (by simp[h1])]
 ·exact Q75 (by omega) hs
theorem Zen {aF:List Sgm} {aD:Rw} {q g st at_:Pt} {gl item feed lead len sp mid:Int} (hat:E_ st aF=at_) (h1:bd 67108864 at_) (h2:bd 67108864 q) (hs:aF.length+1<=1048577) (hlen:0<=len/\len<=4000000000000000000):
  Oq [.view Ah (aF.map Ay), .view AF aD,I q.x,I q.y,I q.z,I g.x,I g.y,I g.z,I gl,I item,I feed,I lead,I st.x,I st.y,I st.z,B true,I len,I sp,I mid]=
   some [.view Ah ((A6 item feed lead (aF,len,at_) q).1.map Ay), .view AF aD,I st.x,I st.y,I st.z,B true,I (A6 item feed lead (aF,len,at_) q).2.1,I sp,I mid]:=
 Zzm hat (Qdr h1 h2) (HL h1 h2) hs hlen
theorem Z11 {aA:List Itm} (hlen:aA.length<=15) (hright:∀j<aA.length,¬BL (itA aA j)) {i:Nat} (hi:i<aA.length):
  OX Je J_ Fd Gj DG IJ Pg (pbR aA i)=some (0,pbR aA (i+1)):=by
 have hb:=Mr hright i (by omega);have hin:=Jq hright i (by omega);have hall:∀k<aA.length,AB (itA aA k)->drawn (itA aA k):=fun k hk hm=>(Le (hright k hk) hm).1;have hrm:=Le (hright i hi);refine Z1g hi hlen hb.aD Pv (fun L hL=>Qtb (by omega) hL) (fun L hL=>UC (by omega) hL) (fun hm=> ?_) (Zob (by omega) hi (by have:=hb.aD;omega));have hd:=(hrm hm).1;exact Zf1 hi hlen hd.1 hb hin (Ul hd hb.frm hall) (fun hs=>by have h2:=(hrm hm).2;rcases hs with h|h<;>omega) (Qy5 aA i) (Sj _) (Qy hd.1.2.1 hd.1.2.2.1) (Q12 _) (Zxu (hrm hm).2 hb.speed)
  (Q86 (by omega) hi hd hb.frm hall) (fun h1 h2 h3 h4 h5=>Zen h1 h2 h3 h4 h5) Zgb
theorem Qw0 {aA:List Itm} (hlen:aA.length<=15) (hright:∀j<aA.length,¬BL (itA aA j)):∀(k i:Nat),i+k=aA.length->
  An (OX Je J_ Fd Gj DG IJ Pg) (pbR aA i)=
   some (2,[.view Ah ((AP aA).aF.map Ay), .view AF ((AP aA).aD.map Aq),I (AP aA).start.x,I (AP aA).start.y,I (AP aA).start.z,B (Au aA aA.length).begun,I (Au aA aA.length).len,I (Au aA aA.length).speed,I (CM aA aA.length)])
 |0,i,hi=>by
  obtain rfl:i=aA.length:=by omega
  refine A_ ?_ (by simp);unfold pbR AP;rw[Q5n,AZ (by omega)]
 |k+1,i,hi=>by
  rw[Bt (Z11 hlen hright (by omega))];exact Qw0 hlen hright k (i+1) (by omega)
def Jt (aA:List Itm) (o:List AC):Prop:=
 if C3 aA=0 then o=[.view Ah ((AP aA).aF.map Ay), .view AF ((AP aA).aD.map Aq),I 0,I (AP aA).start.x,I (AP aA).start.y,I (AP aA).start.z,B (Au aA aA.length).begun,I (Au aA aA.length).len,I (Au aA aA.length).speed,I (CM aA aA.length)]
 else o=[.view Ah [], .view AF [],I (C3 aA),I 0,I 0,I 0,B false,I 0,I 0,I 0]
theorem Q7o {MK MV MN MS MM MC:Fn} {N6 N18:Lp} {aA:List Itm} (hlen:aA.length<=15)
  (h6 : (N6 [.view Ah [], .view AF [], .view Ai (aA.map Ag), I (-1), .view Ai (aA.map Ag), I aA.length, I 0, I 0, I 0, I 0, B false, I 0, I 0, I 0] = some (1, [.view Ah [], .view AF [], I (C3 aA), I 0, I 0, I 0, B false, I 0, I 0, I 0]) /\ C3 aA ≠ 0) \/
   (N6 [.view Ah [], .view AF [], .view Ai (aA.map Ag),I (-1), .view Ai (aA.map Ag),I aA.length,I 0,I 0,I 0,I 0,B false,I 0,I 0,I 0]=some (2,[.view Ah [], .view AF [], .view Ai (aA.map Ag),I 0,I 0,I 0,B false,I 0,I 0,I 0])/\C3 aA=0))
  (h18 : C3 aA = 0 -> N18 [.view Ah [], .view AF [], .view Ai (aA.map Ag), I (-1), .view Ai (aA.map Ag), I aA.length, I 0, I 0, I 0, I 0, B false, I 0, I 0, I 0] =
   some (2,[.view Ah ((AP aA).aF.map Ay), .view AF ((AP aA).aD.map Aq),I (AP aA).start.x,I (AP aA).start.y,I (AP aA).start.z,B (Au aA aA.length).begun,I (Au aA aA.length).len,I (Au aA aA.length).speed,I (CM aA aA.length)])):
  ∃o,Qeh MK MV MN MS MM MC N6 N18 [.view Ai (aA.map Ag)]=some o/\Jt aA o:=by
 rw[Zkj];have hin: ¬((aA.length:Int)>20000):=by omega
 rcases h6 with⟨h,hc⟩|⟨h,hc⟩
 ·simp only[go_sem,List.length_map,h,if_neg hin];exact⟨_,rfl,by unfold Jt;rw[if_neg hc]⟩
 ·have g:=h18 hc;simp only[go_sem,List.length_map,h,if_neg hin,g];rw[if_neg (by decide),if_neg (by decide)];exact⟨_,rfl,by unfold Jt;rw[if_pos hc]⟩
theorem Q6a {aA:List Itm} (hlen:aA.length<=15):∃o,IR [.view Ai (aA.map Ag)]=some o/\Jt aA o:=by
 have hc:C3 aA=GW aA aA.length 0 (-1):=by unfold C3;rw[if_neg (by omega)]
 refine Q7o hlen ?_ fun he=>Qw0 hlen (Mu he).2 aA.length 0 (by omega);rw[hc];exact Qd3 Pv Zde (by omega) aA.length 0 (-1) (by omega) (.inl rfl)
theorem Zzu {MB:Fn} {aA:List Itm} (h:∃o,MB [.view Ai (aA.map Ag)]=some o/\Jt aA o):
  Qfq MB [.view Ai (aA.map Ag)]=if C3 aA=0 then some (Br (AP aA)++[I 0])else some [I 0,I 0,I 0, .view Ah [], .view AF [],I (C3 aA)]:=by
 obtain⟨o,h1,h2⟩:=h;rw[Zmz,h1];unfold Jt at h2;by_cases c:C3 aA=0
 ·rw[if_pos c]at h2⊢;subst h2;simp only[go_sem];rw[if_neg (by simp)];try rfl
 ·rw[if_neg c]at h2⊢;subst h2;simp only[go_sem];rw[if_pos c]
theorem Ziz {aA:List Itm} (hlen:aA.length<=15):L6 [.view Ai (aA.map Ag)]=if C3 aA=0 then some (Br (AP aA)++[I 0])else some [I 0,I 0,I 0, .view Ah [], .view AF [],I (C3 aA)]:=
 Zzu (Q6a hlen)
end Go.Bm
namespace Go.Bm
open Classical
def Jx (aA:List Itm):Nat->Option Nat
 |0=>none
 |i+1=>if(itA aA i).kind=10 then Jx aA i else some i
noncomputable def IU (aA:List Itm):Int:=
 match Jx aA aA.length with
 |some i=>if smI (itA aA i)/\(itA aA i).blend≠0 then AA (AP aA).aF-AE (Ba (itA aA i)) (Ax (itA aA i).to)else AA (AP aA).aF
 |none=>AA (AP aA).aF
theorem Vf {aA:List Itm} {i:Nat}:∀{n:Nat},Jx aA n=some i->i<n/\(itA aA i).kind≠10/\∀j,i<j->j<n->(itA aA j).kind=10
 |0,h=>by cases h
 |n+1,h=>by
  unfold Jx at h;split at h
  ·rename_i c;obtain⟨h1,h2,h3⟩:=Vf h;refine⟨by omega,h2,fun j g1 g2=> ?_⟩;by_cases e:j=n
   ·rw[e];exact c
   ·exact h3 j g1 (by omega)
  ·rename_i c;cases h
   exact⟨by omega,c,fun j g1 g2=>by omega⟩
theorem Ztz {aA:List Itm} {i:Nat} (h:(itA aA i).kind=10):(Au aA (i+1)).len=(Au aA i).len/\CM aA (i+1)=CM aA i:=by
 have hm: ¬AB (itA aA i):=fun g=>by have:=g.2;omega
 constructor
 ·rw[Au];unfold DB;rw[if_neg hm]
 ·rw[CM,if_neg hm]
theorem Q2x {aA:List Itm} {i:Nat}:∀(k:Nat),(∀j,i<=j->j<i+k->(itA aA j).kind=10)->(Au aA (i+k)).len=(Au aA i).len/\CM aA (i+k)=CM aA i
 |0,_=>⟨rfl,rfl⟩
 |k+1,h=>by
  obtain⟨h1,h2⟩:=Q2x k fun j g1 g2=>h j g1 (by omega);obtain⟨h3,h4⟩:=Ztz (h (i+k) (by omega) (by omega));exact⟨h3.trans h1,h4.trans h2⟩
theorem Q71 {aA:List Itm} (hright:∀j<aA.length,¬BL (itA aA j)):AA (AP aA).aF=(Au aA aA.length).len:=by
 have h:=Jq hright aA.length (Nat.le_refl _);unfold AP;by_cases hb:(Au aA aA.length).begun=true
 ·exact(h.begun hb).2.2.2
 ·obtain⟨g1,g2,-⟩:=h.empty (by simpa using hb);simp only[g1,g2];rfl
theorem Zeu {it:Itm} (h:it.fr≠it.to):Ax it.to≠Ba it:=by
 intro g;unfold Ax Ba at g;injection g with g1 g2 g3;exact h (DS.2 ⟨by omega,by omega,by omega⟩)
theorem Zyj (it:Itm) (h:smI it) (item feed lead:Int) (s:(List Sgm×Int×Pt)×Int):
  (DJ it item feed lead (DJ it item feed lead s (Ba it)) (Ax it.to)).2=(DJ it item feed lead (DJ it item feed lead s (Ba it)) (Ax it.to)).1.2.1-AE (Ba it) (Ax it.to):=by
 have hne:=Zeu h.2;have h1:(DJ it item feed lead s (Ba it)).2=(A6 item feed lead s.1 (Ba it)).2.1:=if_pos ⟨h,rfl⟩;have h2:(A6 item feed lead s.1 (Ba it)).2.2=Ba it:=by
  unfold A6;split
  ·rename_i c;exact c.symm
  ·rfl
 have h3:(DJ it item feed lead s (Ba it)).1=A6 item feed lead s.1 (Ba it):=rfl;generalize DJ it item feed lead s (Ba it)=t at*;have h4:(DJ it item feed lead t (Ax it.to)).2=t.2:=if_neg fun g=>hne g.2;have h5:(DJ it item feed lead t (Ax it.to)).1=A6 item feed lead t.1 (Ax it.to):=rfl;rw[h4,h5,h1,h3];rw[<-h2]at hne⊢;rw[h2];generalize A6 item feed lead s.1 (Ba it)=u at*;have h6:A6 item feed lead u (Ax it.to)=(u.1++[⟨Ax it.to,AE u.2.2 (Ax it.to),item,feed,lead⟩],u.2.1+AE u.2.2 (Ax it.to),Ax it.to):=if_neg hne;rw[h6,h2];simp only;omega
theorem Zx6 {aA:List Itm} {i:Nat} (hn:Jx aA aA.length=some i) (hs:smI (itA aA i)):CM aA aA.length=(Au aA aA.length).len-AE (Ba (itA aA i)) (Ax (itA aA i).to):=by
 obtain⟨h1,-,h3⟩:=Vf hn;obtain⟨k,hk⟩:∃k,aA.length=i+1+k:=⟨aA.length-(i+1),by omega⟩;have hm:AB (itA aA i):=⟨by have:=hs.1;omega,by have:=hs.1;omega⟩;obtain⟨g1,g2⟩:=Q2x (aA:=aA) (i:=i+1) k fun j e1 e2=>h3 j (by omega) (by omega);have hsoft: ¬0<=Cb aA i:=by
  intro c;have hx:=RQ c;rcases Qck aA i with h|⟨-,-,m,m1,m2,m3,m4,m5⟩
  ·omega
  ·have:=h3 m m2 m3;have:=m4.1;omega
 rw[hk,g1,g2];have e1:CM aA (i+1)=(Ff aA i (Au aA i) (CM aA i)).2:=if_pos hm;have e2:(Au aA (i+1)).len=(Ff aA i (Au aA i) (CM aA i)).1.2.1:=by
  rw[Qom,Au];unfold DB;rw[if_pos hm]
 rw[e1,e2];unfold Ff;have e3:Cs aA i (Au aA i).frm=I1 aA i (Au aA i).frm++[Ba (itA aA i)]++[Ax (itA aA i).to]:=by
  unfold Cs;rw[if_pos hs];unfold La;rw[if_neg hsoft];unfold Ch;rw[if_neg (by have:=hs.1;omega)];rfl
 rw[e3,List.foldl_append,List.foldl_append,List.foldl_cons,List.foldl_nil,List.foldl_cons,List.foldl_nil];exact Zyj _ hs _ _ _ _
theorem Qof {MS MB:Fn} {aA:List Itm} {aF aD:Rw} {st:Pt} {b:Bool} {len sp mid:Int} (hl:aA.length<=1000) (hS:∀it,MS (Ag it)=some [B (decide (smI it))]):
  ∀n:Nat,n<=aA.length->∃o:Nat×List AC,An (ND MS MB) [.view Ah aF, .view AF aD, .view Ai (aA.map Ag),I ((n:Int)-1),I st.x,I st.y,I st.z,B b,I len,I sp,I mid]=some o/\
   match Jx aA n with
   |some i=>o=(1,[I (if smI (itA aA i)/\(itA aA i).blend≠0 then mid else len)])
   |none=>o=(2,[.view Ah aF, .view AF aD,I st.x,I st.y,I st.z,B b,I len,I sp,I mid])
 |0,_=>by
  refine⟨_,A_ (o:=(2,_)) ?_ (by simp),rfl⟩;rw[Qpa,AZ (by omega)]
 |n+1,hn=>by
  have hlt:n<aA.length:=by omega
  have hr:=E4 hlt;have hs:=hS (itA aA n);simp only[Ag]at hs;have hin:(0:Int)<=(n:Int)/\(n:Int)<(aA.length:Int):=by omega
  have e:((n+1:Nat):Int)-1=n:=by omega
  have hst:ND MS MB [.view Ah aF, .view AF aD, .view Ai (aA.map Ag),I n,I st.x,I st.y,I st.z,B b,I len,I sp,I mid]=
    if(itA aA n).kind=10 then some (0,[.view Ah aF, .view AF aD, .view Ai (aA.map Ag),I ((n:Int)-1),I st.x,I st.y,I st.z,B b,I len,I sp,I mid])
    else some (1,[I (if smI (itA aA n)/\(itA aA n).blend≠0 then mid else len)]):=by
   rw[Qpa];simp only[go_sem,List.length_map,Int.toNat_natCast,hr,hs,if_pos hin];rw[if_pos (by omega),Ae (by omega)];by_cases c1:(itA aA n).kind=10
   ·rw[if_pos c1,if_pos c1]
   ·rw[if_neg c1,if_neg c1];by_cases c2:smI (itA aA n)
    ·rw[if_pos c2];by_cases c3:(itA aA n).blend≠0
     ·rw[if_pos c3,if_pos ⟨c2,c3⟩]
     ·rw[if_neg c3,if_neg (fun g=>c3 g.2)]
    ·rw[if_neg c2,if_neg (fun g=>c2 g.1)]
  rw[e];unfold Jx;by_cases c1:(itA aA n).kind=10
  ·rw[if_pos c1]at hst⊢;rw[Bt hst];exact Qof hl hS n (by omega)
  ·rw[if_neg c1]at hst⊢;exact⟨_,A_ hst (by simp),rfl⟩
theorem Zau {MS MB:Fn} {aA:List Itm} (hl:aA.length<=15) (hS:∀it,MS (Ag it)=some [B (decide (smI it))]) (h:∃o,MB [.view Ai (aA.map Ag)]=some o/\Jt aA o):
  Qaq MS MB (An (ND MS MB)) [.view Ai (aA.map Ag)]=some [I (if C3 aA=0 then IU aA else 0)]:=by
 obtain⟨o,h1,h2⟩:=h;unfold Jt at h2;by_cases c:C3 aA=0
 ·rw[if_pos c]at h2⊢;have hright:=(Mu c).2;have hsum:=Q71 hright;have hmid:=fun i hn hs=>Zx6 (aA:=aA) (i:=i) hn hs;have hlp:= @Qof MS MB aA ((AP aA).aF.map Ay) ((AP aA).aD.map Aq) (AP aA).start (Au aA aA.length).begun (Au aA aA.length).len (Au aA aA.length).speed (CM aA aA.length) (by omega) hS aA.length (by omega);obtain⟨r,r1,r2⟩:=hlp;rw[Q0r,h1];subst h2;have hw:wrap .i64 ((aA.length:Int)-1)=(aA.length:Int)-1:=Ae (by omega);unfold IU;rw[hsum];generalize An (ND MS MB)=N at*;simp only[go_sem,List.length_map,hw,r1];rw[if_neg (by simp)];cases hn:Jx aA aA.length with
  |none=>
   rw[hn]at r2;simp only at r2;subst r2;rfl
  |some i=>
   rw[hn]at r2;simp only at r2;subst r2;simp only[go_sem];by_cases c2:smI (itA aA i)/\(itA aA i).blend≠0
   ·rw[if_pos c2,if_pos c2,hmid i hn c2.1]
   ·rw[if_neg c2,if_neg c2]
 ·rw[if_neg c]at h2⊢;subst h2;rw[Q0r,h1];simp only[go_sem];rw[if_pos c]
theorem Zh7 {aA:List Itm} (hl:aA.length<=15):Mi [.view Ai (aA.map Ag)]=some [I (if C3 aA=0 then IU aA else 0)]:=Zau hl Sj (Q6a hl)
end Go.Bm
namespace Go.Bm
open Classical
def okU (s:Spk):Prop:=s.u.natAbs<=1000000/\s.w.natAbs<=1000000/\(0<=s.r/\s.r<=1000000)/\s.h.natAbs<=200000
theorem okU.s {s:Spk} (h:okU s):okS s:=⟨by have:=h.1;omega,by have:=h.2.1;omega,⟨h.2.2.1.1,by have:=h.2.2.1.2;omega⟩,by have:=h.2.2.2;omega⟩
theorem Zjf {a b:Spk} (ha:okU a) (hb:okU b) {u w:Int} (hu:u.natAbs<=100000000) (hw:w.natAbs<=100000000):okU (HB a b u w):=by
 unfold HB;split
 ·exact⟨by simp,by simp,by simp,by simp⟩
 ·rename_i h;have ha3:=ha.2.2;have hb3:=hb.2.2
  have hr:0<=hf a.r b.r/\hf a.r b.r<=1000000:=by unfold hf;omega
  have hh:(hf a.h b.h).natAbs<=200000:=by unfold hf;omega
  obtain⟨⟨-,n1⟩,-,n2⟩:=Qri hu hw (r:=hf a.r b.r) (by omega) h;exact⟨by simp only;omega,by simp only;omega,hr,hh⟩
theorem Zot {a b:Spk} (ha:okU a) (hb:okU b) {dir:Int} (hd:dir=1\/dir= -1) (full:Bool):okU (EH a b dir full):=
 Zjf ha hb (NV ha.s hb.s hd full).1 (NV ha.s hb.s hd full).2
theorem UY {dir:Int} (hd:dir=1\/dir= -1):∀(k:Nat) (full:Bool) {a b:Spk},okU a->okU b->∀s∈Du dir k full a b,okU s
 |0,_,a,b,_,hb,s,hs=>by simp[Du]at hs;subst hs;exact hb
 |k+1,full,a,b,ha,hb,s,hs=>by
  unfold Du at hs;have hm:=Zot ha hb hd full;split at hs
  ·simp at hs;subst hs;exact hb
  ·rcases List.mem_append.1 hs with hs|hs
   ·exact UY hd k false ha hm s hs
   ·exact UY hd k false hm hb s hs
theorem Zbn {n:Nat} (hn:n<=300000000000):0<=FI n/\FI n<=1000000:=by
 obtain⟨r,-,h2,h3,-⟩:=TJ (n:=n) (by omega);have hm:=Sl h2 h3;rw[Rh hm];have:r<1000000:=by
  by_cases c:r<1000000
  ·exact c
  ·have:=Nat.mul_le_mul (show 1000000<=r by omega) (show 1000000<=r by omega);omega
 split<;>omega
theorem Zy {pl:Int} {p:Pt} {b:Nat} (h:bd b p):(plU pl p).natAbs<=b/\(plW pl p).natAbs<=b/\(plH pl p).natAbs<=b:=Hg h
theorem Qcz {it:Itm} {p:Pt} (hc:bd 4200 it.ce) (hp:bd 4200 p):okU (Eo it p):=by
 obtain⟨c1,c2,c3⟩:=Zy (pl:=it.aG) hc;obtain⟨p1,p2,p3⟩:=Zy (pl:=it.aG) hp;have h1:(dU it p*16).natAbs<=134400:=by unfold dU;omega
 have h2:(dW it p*16).natAbs<=134400:=by unfold dW;omega
 have q1:=Dv h1;have q2:=Dv h2;obtain⟨-,-,h3,-⟩:=OM (AW hc (by omega)) (AW hp (by omega));obtain⟨n,hn⟩:=Int.eq_ofNat_of_zero_le h3;refine⟨Nat.le_trans h1 (by decide),Nat.le_trans h2 (by decide),?_,?_⟩
 ·show 0<=FI _/\FI _<=_;rw[hn];refine Zbn ?_;unfold sq2 at hn;omega
 ·show(plH it.aG p*16).natAbs<=_;omega
theorem Z0a {it:Itm} {s:Spk} (hc:bd 4200 it.ce) (hs:okU s):bd B24 (IG it s):=by
 obtain⟨h1,h2,-⟩:=Zy (pl:=it.aG) (Fg hc);obtain⟨s1,s2,-,s4⟩:=hs;exact Qvy (by unfold B24;omega) (by unfold B24;omega) (by unfold B24;omega)
theorem Zdb {it:Itm} (h:Made it) (hf:bd 4084 it.fr):∀p∈Ch it,bd B24 p:=by
 have ht:=Qye h hf;intro p hp;unfold Ch at hp;split at hp
 ·rename_i h3;simp only[List.mem_map]at hp;obtain⟨s,hs,rfl⟩:=hp;have hce:bd 4200 it.ce:=AW (Qas (h.arc h3) (by omega) hf).2 (by omega);refine Z0a hce ?_;rcases List.mem_cons.1 hs with rfl|hs
  ·exact Qcz hce (AW hf (by omega))
  ·exact UY (h.arc h3).dir 16 _ (Qcz hce (AW hf (by omega))) (Qcz hce (AW ht (by omega))) s hs
 ·simp at hp;rcases hp with rfl|rfl
  ·exact AW (Fg hf) (by decide)
  ·exact AW (Fg ht) (by decide)
def TK (n:Nat) (g:Sgm):Prop:=bd B24 g.to/\0<=g.item/\g.item<n/\i64 g.lead
theorem Qy8 {n:Nat} {item feed lead:Int} (h1:0<=item/\item<n) (h2:i64 lead):∀(pts:List Pt) (s:List Sgm×Int×Pt),(∀p∈pts,bd B24 p)->(∀g∈s.1,TK n g)->∀g∈(pts.foldl (A6 item feed lead) s).1,TK n g
 |[],s,_,h=>h
 |q::pts,s,hp,h=>by
  rw[List.foldl_cons];refine Qy8 h1 h2 pts _ (fun p hp'=>hp p (by simp[hp'])) ?_;unfold A6;split
  ·exact h
  ·intro g hg;simp only[List.mem_append,List.mem_singleton]at hg;rcases hg with hg|rfl
   ·exact h g hg
   ·exact⟨hp q (by simp),h1.1,h1.2,h2⟩
structure PIn (n : Nat) (s : BSt) : Prop where
 start:bd B24 s.start
 aF:∀g∈s.aF,TK n g
 aD:∀m∈s.aD,0<=m.item/\m.item<n/\i64 m.at_
theorem Zky {aA:List Itm} {i:Nat} {frm:Int} (hd:drawn (itA aA i)) (hf:Ll aA i frm) (hall:∀k<aA.length,AB (itA aA k)->drawn (itA aA k)) (hc:∀p∈Ch (itA aA i),bd B24 p):∀p∈Cs aA i frm,bd B24 p:=by
 unfold Cs;by_cases hs:smI (itA aA i)
 ·rw[if_pos hs];intro p hp;rcases List.mem_append.1 hp with hp|hp
  ·rcases List.mem_append.1 hp with hp|hp
   ·unfold I1 at hp;rcases hf with rfl|⟨f,rfl,hf1,hf2⟩
    ·rw[if_neg (by omega)]at hp;exact hc p (List.mem_of_mem_take hp)
    ·rw[if_pos (by omega)]at hp;exact(LB (aA:=aA) (i:=(f:Int).toNat) (k:=i) (by simpa using hf2) hd).1 p (List.mem_of_mem_drop hp)
   ·simp at hp;subst hp;exact KN hd.1.2.1 hd.1.2.2.1
  ·unfold La at hp;by_cases h:0<=Cb aA i
   ·rw[if_pos h]at hp;obtain⟨k,hk,hk1,hk2⟩:=RD hall h;exact(LB (aA:=aA) (i:=i) (k:=(Cb aA i).toNat) hd (by rw[hk];simpa using hk2)).1 p (List.mem_of_mem_take hp)
   ·rw[if_neg h]at hp;exact hc p (List.mem_of_mem_drop hp)
 ·rw[if_neg hs];exact hc
theorem Q7y {it:Itm} (hf:it.kind=1\/1<=it.feed/\it.feed<=60000000):i64 (Nl it):=by
 unfold Nl;split
 ·rename_i h;unfold syI at h;unfold mn i64;split<;>omega
 ·unfold i64;omega
theorem Znp {aA:List Itm} {i:Nat} {s:BSt} (hi:i<aA.length) (hl:aA.length<=15) (hright:∀j<aA.length,¬BL (itA aA j)) (hch:∀j<aA.length,AB (itA aA j)->∀p∈Ch (itA aA j),bd B24 p) (hok:BOK aA i s) (h:PIn aA.length s):PIn aA.length (DB aA i s):=by
 have hall:∀k<aA.length,AB (itA aA k)->drawn (itA aA k):=fun k hk hm=>(Le (hright k hk) hm).1;have hok2:=Qpp hi hright hok;have hlen:=hok.len;have hlen2:=hok2.len;unfold DB at hlen2⊢;by_cases hm:AB (itA aA i)
 ·rw[if_pos hm]at hlen2⊢;have hd:=hall i hi hm;refine⟨?_,Qy8 ⟨by omega,by omega⟩ (Q7y (Le (hright i hi) hm).2) _ _ (Zky hd hok.frm hall (hch i hi hm)) h.aF,?_⟩
  ·show bd B24 (if s.begun=true then s.start else Ax (itA aA i).fr);split
   ·exact h.start
   ·exact Fg hd.1.2.1
  ·intro m hm;simp only[List.mem_append,List.mem_singleton]at hm;rcases hm with hm|rfl
   ·exact h.aD m hm
   ·refine⟨by simp only;omega,by simp only;omega,?_⟩;simp only at hlen2⊢;unfold i64;omega
 ·rw[if_neg hm];refine⟨h.start,h.aF,?_⟩;intro m hm;simp only[List.mem_append,List.mem_singleton]at hm;rcases hm with hm|rfl
  ·exact h.aD m hm
  ·refine⟨by simp only;omega,by simp only;omega,?_⟩;simp only;unfold i64;omega
theorem Qq1 {aA:List Itm} (hl:aA.length<=15) (hright:∀j<aA.length,¬BL (itA aA j)) (hch:∀j<aA.length,AB (itA aA j)->∀p∈Ch (itA aA j),bd B24 p):∀i,i<=aA.length->PIn aA.length (Au aA i)
 |0,_=>by rw[Au];exact⟨by unfold bd;simp,fun g h=>(by cases h),fun g h=>(by cases h)⟩
 |i+1,hi=>by rw[Au];exact Znp (by omega) hl hright hch (Mr hright i (by omega)) (Qq1 hl hright hch i (by omega))
theorem Zev {aA:List Itm} (hl:aA.length<=15) (hc:C3 aA=0) (hch:∀j<aA.length,AB (itA aA j)->∀p∈Ch (itA aA j),bd B24 p):bd B24 (AP aA).start/\(∀g∈(AP aA).aF,TK aA.length g)/\(∀m∈(AP aA).aD,0<=m.item/\m.item<aA.length/\i64 m.at_)/\(AP aA).aD.length=aA.length:=by
 have hright:=(Mu hc).2;have h1:=Qq1 hl hright hch aA.length (Nat.le_refl _);exact⟨h1.start,h1.aF,h1.aD,(Mr hright aA.length (Nat.le_refl _)).aD⟩
theorem Z2o {aA:List Itm} (hl:aA.length<=15) (hc:C3 aA=0):i64 (IU aA):=by
 have hg:=Qk3 hl hc;have hs:=WH (RZ hg.start hg.aF);have hcount:=hg.count;have hright:=(Mu hc).2;have h0:i64 (AA (AP aA).aF):=by unfold i64;omega
 unfold IU;split
 ·rename_i i e;split
  ·rename_i c;obtain⟨hi,-,-⟩:=Vf e;have hm:AB (itA aA i):=⟨by have:=c.1.1;omega,by have:=c.1.1;omega⟩;obtain⟨hd,-⟩:=Le (hright i hi) hm;have:=HL (AW (KN hd.1.2.1 hd.1.2.2.1) (by decide)) (AW (Fg hd.1.2.2.1) (by decide));unfold i64;omega
  ·exact h0
 ·exact h0
end Go.Bm
namespace Go.Bm
open Classical
theorem R3 (n lo hi:Int):Gv [I n,I lo,I hi]=some [B (decide (lo<=n/\n<=hi))]:=by
 show Qkw [I n,I lo,I hi]=_;rw[Zzx];by_cases h1:lo<=n<;>by_cases h2:n<=hi<;>simp[h1,h2]
theorem Zx2 {M:Fn} (hM:∀n lo hi:Int,M [I n,I lo,I hi]=some [B (decide (lo<=n/\n<=hi))]) {a:Axs} (h:AxOK a) (hne:a.pitch≠[]):
  ∃o,An (ZY M) (.view Aa (a.pitch.map Ap)::I a.pitch.length::I 0::Bk a)=some o/\o.1=2:=by
 have hsp:=h.spacing hne;refine(?_:Out (fun o:Nat×List AC=>o.1=2) _);refine C9 (fun i:Nat=> .view Aa (a.pitch.map Ap)::I a.pitch.length::I (i:Int)::Bk a) (fun i=>i<=a.pitch.length) (fun i=>a.pitch.length-i) _ ?_ 0 (by simp);intro i hi;have hc:=h.count;rw[Zs0];dsimp only[jA,gA,bA,wA];have hv:∀j:Nat,j<a.pitch.length->Af (nth .dead (nth [] (a.pitch.map Ap) j) 0)=a.pitch.getD j 0:=fun j hj=>by
  have e:nth [] (a.pitch.map Ap) j=Ap a.pitch[j]:=by
   rw[GP [] (a.pitch.map Ap) j (by rw[List.length_map];exact hj),List.getElem_map]
  rw[e,List.getD,List.getElem?_eq_getElem hj];rfl
 refine .cond (fun k=> ?_) fun _=> .some (.inr ⟨by simp,rfl⟩);have k:(i:Int)<(a.pitch.length:Int):=Bg k;have hl:((a.pitch.map Ap).length:Int)=a.pitch.length:=by rw[List.length_map]
 refine .cond (fun _=> ?_) fun e=>(inB (by omega) (by rw[hl];exact k) e).elim;have hm: -4096<=a.pitch.getD i 0/\a.pitch.getD i 0<=4096:=by
  refine h.pitch.1 _ ?_;rw[List.getD,List.getElem?_eq_getElem (by omega)];exact List.getElem_mem _
 rw[Int.toNat_natCast,hv i (by omega),hM];simp only[Option.bind_some,gA,wA,bA,jA,EP,C5];rw[decide_eq_true hm];refine .cond (fun e=>by cases e) fun _=> ?_;have nx:∀{x:List AC},x= .view Aa (a.pitch.map Ap)::I a.pitch.length::I ((i:Int)+1)::Bk a->Out (fun o:Nat×List AC=>(o.1=0/\∃s':Nat,o.2= .view Aa (a.pitch.map Ap)::I a.pitch.length::I (s':Int)::Bk a/\s'<=a.pitch.length/\a.pitch.length-s'<a.pitch.length-i)\/(o.1≠0/\o.1=2)) (some (0,x)):=fun e=>
  .some (.inl ⟨rfl,i+1,by rw[e];rfl,by omega,by omega⟩)
 rw[Ae (x:=(i:Int)+1) (by omega)];refine .cond (fun g=> ?_) fun _=>nx rfl;have g:(i:Int)>0:=Bg g;rw[Ae (x:=(i:Int)-1) (by omega)];refine .cond (fun _=> ?_) fun e=>(inB (by omega) (by rw[hl];omega) e).elim;obtain⟨j,rfl⟩:∃j:Nat,i=j+1:=⟨i-1,by omega⟩;have hd:=h.pitch.2 j (by omega);have hmj: -4096<=a.pitch.getD j 0/\a.pitch.getD j 0<=4096:=by
  refine h.pitch.1 _ ?_;rw[List.getD,List.getElem?_eq_getElem (by omega)];exact List.getElem_mem _
 have ej:(((j+1:Nat):Int)-1).toNat=j:=by omega
 rw[ej,hv j (by omega),hM];simp only[Option.bind_some,gA,wA,bA,jA,EP,C5];have q1:a.spacing.tdiv 4=a.spacing/4:=Int.tdiv_eq_ediv_of_nonneg (by omega);rw[q1,Ae (x:=a.spacing/4) (by omega),Ae (x:=0-a.spacing/4) (by omega),Ae (x:=a.pitch.getD (j+1) 0-a.pitch.getD j 0) (by omega)];refine .cond (fun e=> ?_) fun _=>nx rfl;rw[decide_eq_true (show 0-a.spacing/4<=a.pitch.getD (j+1) 0-a.pitch.getD j 0/\a.pitch.getD (j+1) 0-a.pitch.getD j 0<=a.spacing/4 by omega)]at e;cases e
theorem Zla {M:Fn} {N:Lp} (hM:∀n lo hi:Int,M [I n,I lo,I hi]=some [B (decide (lo<=n/\n<=hi))]) {a:Axs} (h:AxOK a)
  (hN:a.pitch≠[]->∃o,N (.view Aa (a.pitch.map Ap)::I a.pitch.length::I 0::Bk a)=some o/\o.1=2):Xo M N (Bk a)=some [B true]:=by
 have hs:=h.spacing;have ho:=h.origin;have hc:=h.count
 rw[Zem];by_cases e:a.pitch=[]
 ·rw[e];rfl
 ·have hl:0<a.pitch.length:=List.length_pos_iff.2 e;obtain⟨o,h1,h2⟩:=hN e;have hs:=hs e;have h1':N [.view Aa (a.pitch.map Ap),I (a.pitch.map Ap).length,I 0,I a.step,I a.speed,I a.accel,I a.jerk,I a.low,I a.high,I a.back,I a.origin,I a.spacing, .view Aa (a.pitch.map Ap)]=some o:=by rw[List.length_map];exact h1
  rw[Bn (by rw[List.length_map];simp;omega),Bn (by rw[List.length_map];simp;omega),hM,hM,h1'];simp only[Option.bind_some,gA,wA,bA,jA,EP,C5];rw[decide_eq_true (show-16777216<=a.origin/\a.origin<=16777216 by omega),decide_eq_true (show 4<=a.spacing/\a.spacing<=16777216 by omega),h2];rfl
theorem Zu3 {a:Axs} (h:AxOK a):O6 (Bk a)=some [B true]:=Zla R3 h fun hne=>Zx2 R3 h hne
theorem Zas {M N:Fn} (hN:∀n lo hi:Int,N [I n,I lo,I hi]=some [B (decide (lo<=n/\n<=hi))]) {a:Axs} (h:AxOK a) (hM:M (Bk a)=some [B true]):Qhi M N (Bk a)=some [B true]:=by
 have hs:=h.step;have hb:=h.back;obtain⟨l1,l2,l3,l4,l5,l6,l7,l8⟩:=h.lim
 rw[Zir];simp only[hN,Option.bind_some,EP,C5];rw[decide_eq_true (show 4<=a.step/\a.step<=4096 by omega),decide_eq_true (show 1<=a.speed/\a.speed<=1048576 by omega),decide_eq_true (show 2<=a.accel/\a.accel<=1048576 by omega),decide_eq_true (show 4<=a.jerk/\a.jerk<=1048576 by omega),decide_eq_true (show a.low>= -16777216 by omega),decide_eq_true (show a.high<=16777216 by omega),decide_eq_true (show a.low<=a.high by omega),decide_eq_true (show 0<=a.back/\a.back<=64 by omega)];simp only[cond_true];rw[hM];rfl
theorem Z1p {a:Axs} (h:AxOK a):PI (Bk a)=some [B true]:=Zas R3 h (Zu3 h)
theorem Zcr {N:Fn} (hN:∀n lo hi:Int,N [I n,I lo,I hi]=some [B (decide (lo<=n/\n<=hi))]) {a:Axs} (h:AxOK a) {q:Int} (hq:q.natAbs<=B24):Qdz N (Bk a++[I q])=some [B true]:=by
 obtain⟨-,-,-,-,-,-,l7,l8⟩:=h.lim;refine Eq.trans (Zry N ..) ?_;rw[hN,decide_eq_true (show a.low<=q/\q<=a.high by unfold B24 at hq;omega)];rfl
theorem Ztr {a:Axs} (h:AxOK a) {q:Int} (hq:q.natAbs<=B24):G4 (Bk a++[I q])=some [B true]:=Zcr R3 h hq
theorem Q78 {M:Fn} {x:Ax3} {p:Pth} (hs:bd B24 p.start) (hg:∀g∈p.aF,bd B24 g.to) (hl:p.aF.length<=1000000):
  Out (fun o:Nat×List AC=>o.1=1/\∃pts:List Pt,o.2= .view kPt (pts.map ptR)::AO x/\(∀q∈pts,bd B24 q)/\pts.length<=1000001) (An (Qb M) (.view kPt [ptR p.start]:: .view Ah (p.aF.map Ay)::I (p.aF.map Ay).length::I 0::AO x)):=by
 refine C9 (fun s:Nat×List Pt=> .view kPt (s.2.map ptR):: .view Ah (p.aF.map Ay)::I (p.aF.map Ay).length::I (s.1:Int)::AO x) (fun s=>s.1<=p.aF.length/\(∀q∈s.2,bd B24 q)/\s.2.length=s.1+1) (fun s=>p.aF.length-s.1) _ ?_ (0,[p.start]) ⟨by simp,by simpa using hs,rfl⟩;rintro⟨i,pts⟩ ⟨h1,h2,h3⟩;dsimp only at h1 h2 h3;refine Out.eqv (Za7 M ..) ?_;have hsl:((p.aF.map Ay).length:Int)=p.aF.length:=by rw[List.length_map]
 refine .cond (fun k=> ?_) fun _=> .some (.inr ⟨by simp,rfl,pts,rfl,h2,by omega⟩);have k:(i:Int)<((p.aF.map Ay).length:Int):=Bg k;rw[hsl]at k;refine .cond (fun _=> ?_) fun e=>(inB (by omega) (by rw[hsl];exact k) e).elim;have er:nth [] (p.aF.map Ay) (i:Int).toNat=Ay p.aF[i]:=by
  rw[Int.toNat_natCast,GP [] _ i (by rw[List.length_map];omega),List.getElem_map]
 rw[er];have hq:=hg _ (List.getElem_mem (show i<p.aF.length by omega));refine .cond (fun _=> ?_) fun e=>by rw[Cw (by simp;omega)]at e;cases e
 refine .some (.inl ⟨rfl,(i+1,pts++[p.aF[i].to]),?_,⟨by dsimp only;omega,?_,by simp;omega⟩,by dsimp only;omega⟩)
 ·rw[Ae (x:=(i:Int)+1) (by omega),List.map_append];rfl
 ·intro q hq';dsimp only at hq';simp only[List.mem_append,List.mem_singleton]at hq';rcases hq' with hq'|rfl
  ·exact h2 q hq'
  ·exact hq
theorem Ziy {M:Fn} {N3:Lp} (hM:∀{a:Axs} {q:Int},AxOK a->q.natAbs<=B24->M (Bk a++[I q])=some [B true]) {x:Ax3} (hx:Ax3M x) {pts:List Pt} (hp:∀q∈pts,bd B24 q) (hl:pts.length<=1000001):
  Out (fun o:Nat×List AC=>o.1=2) (An (TL M N3) (.view kPt (pts.map ptR)::I (pts.map ptR).length::I 0::AO x)):=by
 refine C9 (fun i:Nat=> .view kPt (pts.map ptR)::I (pts.map ptR).length::I (i:Int)::AO x) (fun i=>i<=pts.length) (fun i=>pts.length-i) _ ?_ 0 (by simp);intro i h1;refine Out.eqv (Zrh M N3 ..) ?_;have hsl:((pts.map ptR).length:Int)=pts.length:=by rw[List.length_map]
 refine .cond (fun k=> ?_) fun _=> .some (.inr ⟨by simp,rfl⟩);have k:(i:Int)<((pts.map ptR).length:Int):=Bg k;rw[hsl]at k;refine .cond (fun _=> ?_) fun e=>(inB (by omega) (by rw[hsl];exact k) e).elim;have er:nth [] (pts.map ptR) (i:Int).toNat=ptR pts[i]:=by
  rw[Int.toNat_natCast,GP [] _ i (by rw[List.length_map];omega),List.getElem_map]
 rw[er];obtain⟨q1,q2,q3⟩:=hp _ (List.getElem_mem (show i<pts.length by omega));refine .bind (p:=fun o=>o=[B true]) ⟨_,hM hx.a q1,rfl⟩ fun o e=> ?_;subst e;refine .cond (fun e=>by cases e) fun _=> ?_;refine .bind (p:=fun o=>o=[B true]) ⟨_,hM hx.b q2,rfl⟩ fun o e=> ?_;subst e;refine .cond (fun e=>by cases e) fun _=> ?_;refine .bind (p:=fun o=>o=[B true]) ⟨_,hM hx.c q3,rfl⟩ fun o e=> ?_;subst e;refine .cond (fun e=>by cases e) fun _=> ?_;exact .some (.inl ⟨rfl,i+1,by rw[Ae (x:=(i:Int)+1) (by omega)];rfl,by omega,by omega⟩)
theorem Zak {M:Fn} {N3 N8:Lp} {x:Ax3} {p:Pth}
  (h3:Out (fun o:Nat×List AC=>o.1=1/\∃pts:List Pt,o.2= .view kPt (pts.map ptR)::AO x/\(∀q∈pts,bd B24 q)/\pts.length<=1000001) (N3 (.view kPt [ptR p.start]:: .view Ah (p.aF.map Ay)::I (p.aF.map Ay).length::I 0::AO x)))
  (h8:∀{pts:List Pt},(∀q∈pts,bd B24 q)->pts.length<=1000001->Out (fun o:Nat×List AC=>o.1=2) (N8 (.view kPt (pts.map ptR)::I (pts.map ptR).length::I 0::AO x))):
  Out (fun o=>o=[B true]) (T8 M N3 N8 (AO x++Br p)):=by
 refine Out.eqv (Z2h M N3 N8 ..) ?_;refine .bind h3 fun o q=> ?_;obtain⟨o1,o2⟩:=o;obtain⟨q1,pts,q2,q3,q4⟩:=q;dsimp only at q1 q2;subst q1 q2;refine .cond (fun _=> ?_) fun e=>by cases e
 refine .bind (h8 q3 q4) fun o q=> ?_;rw[q];exact .some rfl
theorem Zms {x:Ax3} {p:Pth} (hx:Ax3M x) (hs:bd B24 p.start) (hg:∀g∈p.aF,bd B24 g.to) (hl:p.aF.length<=1000000):Qg (AO x++Br p)=some [B true]:=by
 obtain⟨o,h,rfl⟩:=Zak (M:=G4) (N3:=An (Qb G4)) (N8:=An (TL G4 (An (Qb G4)))) (Q78 (x:=x) hs hg hl) (fun h1 h2=>Ziy (fun ha hq=>Ztr ha hq) hx h1 h2);exact h
theorem Zpp:∃v:Int,EZ [I 30000]=some [I v]/\60000<=v:=by
 have key:∀{M:Fn} {v:Int},M [I 30000,I 1048576,I 60000,I 2]=some [I v,B true]->Se M [I 30000]=some [I v]:=fun h=>by
  rw[Qt7,h];rfl
 refine⟨_,key (Sv (by unfold i64;omega) (by unfold i64;omega) (by omega) (by decide)),?_⟩;unfold Bh;omega
theorem Zag {MR MP MV:Fn} {x:Ax3} (hx:Ax3M x) {pa pb pc ramp lag:Int} (hp:Plan3 pa pb pc) (hr:1<=ramp/\ramp<=60000) (hl:0<=lag/\lag<=40)
  (hV:∀{a:Axs},AxOK a->MV (Bk a)=some [B true]) (hP:MP [I pa,I pb,I pc]=some [B true]) (hR:∃v:Int,MR [I 30000]=some [I v]/\60000<=v):Out (fun o=>o=[B true]) (UE MR MP MV (AO x++[I pa,I pb,I pc,I ramp,I lag])):=by
 refine Out.eqv (Z1t MR MP MV ..) ?_;refine .bind (p:=fun o=>o=[B true]) ⟨_,hV hx.a,rfl⟩ fun o e=> ?_;subst e;refine .cond (fun e=>by cases e) fun _=> .bind (p:=fun o=>o=[B true]) ⟨_,hV hx.b,rfl⟩ fun o e=> ?_;subst e;refine .cond (fun e=>by cases e) fun _=> .bind (p:=fun o=>o=[B true]) ⟨_,hV hx.c,rfl⟩ fun o e=> ?_;subst e;refine .cond (fun e=>by cases e) fun _=> .bind (p:=fun o=>o=[B true]) ⟨_,hP,rfl⟩ fun o e=> ?_;subst e;obtain⟨v,h1,h2⟩:=hR;refine .cond (fun _=> .cond (fun _=> ?_) fun e=>absurd hr.1 (Bj e)) fun e=>by cases e
 refine .bind (p:=fun o=>o=[I v]) ⟨_,h1,rfl⟩ fun o e=> ?_;subst e;refine .cond (fun _=> .cond (fun _=> ?_) fun e=>absurd hl.1 (Bj e)) fun e=>absurd (show ramp<=v by omega) (Bj e);exact .some (by rw[decide_eq_true (show lag<=1048576 by omega)])
theorem Zrp {x:Ax3} (hx:Ax3M x) {pa pb pc ramp lag:Int} (hp:Plan3 pa pb pc) (hr:1<=ramp/\ramp<=60000) (hl:0<=lag/\lag<=40):O2 (AO x++[I pa,I pb,I pc,I ramp,I lag])=some [B true]:=by
 have hP:EL [I pa,I pb,I pc]=some [B true]:=by rw[PE,decide_eq_true (show 1<=pa/\pa<=65536/\2<=pb/\pb<=65536/\1<=pc/\pc<=16777216 from⟨hp.a.1,hp.a.2,hp.b.1,hp.b.2,hp.c.1,hp.c.2⟩)]
 obtain⟨o,h,rfl⟩:=Zag hx hp hr hl Z1p hP Zpp;exact h
theorem Zc2 {x:Ax3} (hx:Ax3M x) (l0 l1 l2 l3 l4:Int):PS (AO x++[I l0,I l1,I l2,I l3,I l4])=some (AO x++[I l0,I l1,I l2,I l3,I l4]):=by
 have ha:=hx.a.count;have hb:=hx.b.count;have hc:=hx.c.count
 have key:Yh (AO x++[I l0,I l1,I l2,I l3,I l4])=some (AO x++[I l0,I l1,I l2,I l3,I l4]):=by
  refine Eq.trans (Zeh ..) ?_;rw[Cw (by rw[List.length_map];omega),Cw (by rw[List.length_map];omega),Cw (by rw[List.length_map];omega)];rfl
 exact key
abbrev QU (K:Kf):Kf:=⟨K.x,K.pa,K.pb,K.pc,K.ramp,K.lag,[],false,⟨⟨0,0,0⟩,[],[]⟩,0,0,⟨[],0,0,⟨0,0,0⟩⟩⟩
abbrev RE (K:Kf):Kf:=⟨K.x,K.pa,K.pb,K.pc,K.ramp,K.lag,K.aA,K.closed,K.p,K.len,K.set,⟨[],0,0,⟨0,0,0⟩⟩⟩
abbrev BM:Cv:=⟨0,0,0,0,0,0,100,100,false,false,false,0,0,-1,1,0,0,0,0,0,0,0,0,false,0,false,0,false,0,-1,0,0,0,0,0,0,0,false,false,false⟩
noncomputable abbrev kfP (x:Ax3) (pa pb pc ramp lag:Int) (aA:List Itm) (closed:Bool):Kf:=⟨x,pa,pb,pc,ramp,lag,aA,closed,AP aA,AA (AP aA).aF,IU aA,Ej (AP aA) x ⟨1,1,1⟩ 0 (AA (AP aA).aF)⟩
theorem Zdu {MS ML MR MB:Fn} {K:Kf} (hl:K.aA.length<=15) (c:Cv)
  (hB:MB [.view Ai (K.aA.map Ag)]=some (Br K.p++[I 0])) (hR:MR (AO K.x++Br K.p)=some [B true]) (hL:ML (Br K.p)=some [I K.len]) (hS:MS [.view Ai (K.aA.map Ag)]=some [I K.set]):
  RN MS ML MR MB (.view Ai (K.aA.map Ag)::B K.closed::Ad (QU K) c)=some (I 0::Ad (RE K) c):=by
 have key:Out (fun o=>o=I 0::Ad (RE K) c) (RN MS ML MR MB (.view Ai (K.aA.map Ag)::B K.closed::Ad (QU K) c)):=by
  refine Out.eqv (Q77 MS ML MR MB _ _ (QU K) c) ?_;refine .bind (p:=fun o=>o=_) ⟨_,hB,rfl⟩ fun o e=> ?_;subst e;refine .cond (fun e=>by cases e) fun _=> ?_;refine .bind (p:=fun o=>o=_) ⟨_,hR,rfl⟩ fun o e=> ?_;subst e;refine .cond (fun e=>by cases e) fun _=> .cond (fun _=> ?_) fun e=>by rw[Cw (by rw[List.length_map];omega)]at e;cases e
  refine .bind (p:=fun o=>o=_) ⟨_,hL,rfl⟩ fun o e=> ?_;subst e;refine .bind (p:=fun o=>o=_) ⟨_,hS,rfl⟩ fun o e=> ?_;subst e;exact .some rfl
 obtain⟨o,h,rfl⟩:=key;exact h
end Go.Bm
namespace Go.Bm
open Classical
theorem Zf2 {MS ML ML' MG' MO MC MD:Fn} {K:Kf}
  (hD:MD (AO K.x++[I K.pa,I K.pb,I K.pc,I K.ramp,I K.lag])=some [B true]) (hC:MC (AO K.x++[I K.pa,I K.pb,I K.pc,I K.ramp,I K.lag])=some (AO K.x++[I K.pa,I K.pb,I K.pc,I K.ramp,I K.lag]))
  (hO:MO []=some [I 100,I 100,B false,B false,B false]) (hG:MG' []=some [I 0,I 0,I (-1)])
  (hL:ML' (.view Ai (K.aA.map Ag)::B K.closed::Ad (QU K) BM)=some (I 0::Ad (RE K) BM))
  (hT:ML (Br K.p++AO K.x++[I 1,I 1,I 1,I 0,I K.len])=some (Bq K.t)) (hS:MS [I 0]=some [I 0,I 0,I 0,I 0,I 0,I 0]):
  S4 MS ML ML' MG' MO MC MD (AO K.x++[I K.pa,I K.pb,I K.pc,I K.ramp,I K.lag]++[.view Ai (K.aA.map Ag),B K.closed])=some (I 0::Ad K BM):=by
 have key:Out (fun o=>o=I 0::Ad K BM) (S4 MS ML ML' MG' MO MC MD (AO K.x++[I K.pa,I K.pb,I K.pc,I K.ramp,I K.lag]++[.view Ai (K.aA.map Ag),B K.closed])):=by
  refine Out.eqv (Zbk MS ML ML' MG' MO MC MD ..) ?_;refine .bind (p:=fun o=>o=_) ⟨_,hD,rfl⟩ fun o e=> ?_;subst e;refine .cond (fun e=>by cases e) fun _=> ?_;refine .bind (p:=fun o=>o=_) ⟨_,hC,rfl⟩ fun o e=> ?_;subst e;refine .bind (p:=fun o=>o=_) ⟨_,hO,rfl⟩ fun o e=> ?_;subst e;refine .bind (p:=fun o=>o=_) ⟨_,hG,rfl⟩ fun o e=> ?_;subst e;refine .bind (p:=fun o=>o=I 0::Ad (RE K) BM) ⟨_,hL,rfl⟩ fun o e=> ?_;subst e;refine .cond (fun e=>by cases e) fun _=> ?_;refine .bind (p:=fun o=>o=_) ⟨_,hT,rfl⟩ fun o e=> ?_;subst e;refine .bind (p:=fun o=>o=_) ⟨_,hS,rfl⟩ fun o e=> ?_;subst e;exact .some (by kernel_rfl)
 obtain⟨o,h,rfl⟩:=key;exact h
structure MachOK (x : Ax3) (pa pb pc ramp lag : Int) : Prop where
 x:Ax3M x
 plan:Plan3 pa pb pc
 ramp:1<=ramp/\ramp<=60000
 lag:0<=lag/\lag<=40
theorem Zvw {x:Ax3} {pa pb pc ramp lag:Int} (hm:MachOK x pa pb pc ramp lag) {aA:List Itm} (hl:aA.length<=15) (hc:C3 aA=0) (hch:∀j<aA.length,AB (itA aA j)->∀p∈Ch (itA aA j),bd B24 p) (hsp:∀it∈aA,it.kind=8->i64 it.speed) (closed:Bool):
  GG (AO x++[I pa,I pb,I pc,I ramp,I lag]++[.view Ai (aA.map Ag),B closed])=some (I 0::Ad (kfP x pa pb pc ramp lag aA closed) BM)/\KOK (kfP x pa pb pc ramp lag aA closed):=by
 have hg:=Qk3 hl hc;obtain⟨i1,i2,i3,i4⟩:=Zev hl hc hch;have hs:=WH (RZ hg.start hg.aF);have hcount:=hg.count;refine⟨?_,?_⟩
 ·have hB:L6 [.view Ai (aA.map Ag)]=some (Br (AP aA)++[I 0]):=by rw[Ziz hl,if_pos hc]
  have hS:Mi [.view Ai (aA.map Ag)]=some [I (IU aA)]:=by rw[Zh7 hl,if_pos hc]
  have hR:=Zms hm.x i1 (fun g h=>(i2 g h).1) (by omega);have hT:=Zcw (d:=⟨1,1,1⟩) (from_:=0) (to:=AA (AP aA).aF) hg hm.x.ok;have hload:=Zdu (K:=kfP x pa pb pc ramp lag aA closed) hl BM hB hR (Q65 hg.ok) hS;have hO:OJ []=some [I 100,I 100,B false,B false,B false]:=by show Qgi []=_;rw[Zne]
  have hG:Kg []=some [I 0,I 0,I (-1)]:=by show R6 []=_;rw[Q6x]
  have hst:Jd [I 0]=some [I 0,I 0,I 0,I 0,I 0,I 0]:=Qvc 0;exact Zf2 (K:=kfP x pa pb pc ramp lag aA closed) (Zrp hm.x hm.plan hm.ramp hm.lag) (Zc2 hm.x ..) hO hG hload hT hst
 ·refine⟨⟨hg,hm.x,Zmi _ _ _ hm.x.ok hg⟩,hm.plan,fun g h=>(i2 g h).2,i3,?_,?_,?_,Z2o hl hc⟩
  ·show(AP aA).aD.length<=1000000;omega
  ·exact hsp
  ·show i64 (AA (AP aA).aF);unfold i64;omega
theorem Uj {x:Ax3} {pa pb pc ramp lag:Int} (hm:MachOK x pa pb pc ramp lag) {aA:List Itm} (hl:aA.length<=15) {p0:Pt} (hi:Items 4084 p0 aA) (closed:Bool):
  GG (AO x++[I pa,I pb,I pc,I ramp,I lag]++[.view Ai (aA.map Ag),B closed])=some (I 0::Ad (kfP x pa pb pc ramp lag aA closed) BM)/\KOK (kfP x pa pb pc ramp lag aA closed):=
 Zvw hm hl (Q1e (by omega) hi (show aA.length <= 20000 by omega)) (fun j hj hm => by
  rcases hi.made _ (Q4q hj)with⟨-,g2,-,g4,-⟩|g
  ·exact Zdb g2 g4
  ·exact absurd hm (OR g)) (fun it hit h8=>by
  rcases hi.made it hit with⟨-,-,g,-⟩|g
  ·rw[g.2.2.2.1];unfold i64;omega
  ·have:=g.spin h8;unfold i64;omega) closed
end Go.Bm
namespace Go.Bm
structure Evn where
 (cycle kind n:Int)
abbrev evR (e:Evn):List AC:=[I e.cycle,I e.kind,I e.n]
structure EvOK (e : Evn) : Prop where
 kind:1<=e.kind/\e.kind<=13
 n: -5<=e.n/\e.n<=4194304
theorem Zb9 (E:List Evn) {i:Nat} (h:i<E.length):nth [] (E.map evR) (i:Int).toNat=evR E[i]:=by
 rw[Int.toNat_natCast,GP [] _ i (by rw[List.length_map];exact h),List.getElem_map]
theorem Zpb {MN MF:Fn} {l:Rw} (hN:HI l MN) (hF:MF [.view Aa l]=some [.view Aa l,I 0]):
  ∃a b c:Int,XO MN MF [.view Aa l]=some [I a,I b,I c]/\(1<=a/\a<=900)/\(2<=b/\b<=201)/\(1<=c/\c<=16000):=by
 obtain⟨v,k1,g1,v0,v1,-⟩:=hN 0 (n:=900) (by omega);obtain⟨w,k2,g2,w0,w1,-⟩:=hN k1 (n:=200) (by omega);obtain⟨y,k3,g3,y0,y1,-⟩:=hN k2 (n:=16000) (by omega);have g1':MN [I 900, .view Aa l,I 0]=some [I v, .view Aa l,I k1]:=g1;refine⟨1+v,2+w,1+y,?_,by omega,by omega,by omega⟩;rw[Z0q,hF];simp only[Option.bind_some,gA,wA,bA,jA,EP,H4,Gx,Ce];rw[g1'];simp only[Option.bind_some,EP,H4,Gx];rw[g2];simp only[Option.bind_some,EP,H4,Gx];rw[g3];simp only[Option.bind_some,EP,H4,Gx];rw[Ae (x:=1+v) (by omega),Ae (x:=2+w) (by omega),Ae (x:=1+y) (by omega)]
theorem Zju {MN MP MA MF:Fn} {l m:Rw} (hm:HI m MN) (hF:MF [.view Aa m]=some [.view Aa m,I 0]) {x:Ax3} (hA:MA [.view Aa l]=some (AO x)) (hx:Ax3M x) {a b c:Int} (hP:MP [.view Aa m]=some [I a,I b,I c]) (h1:1<=a/\a<=900) (h2:2<=b/\b<=201) (h3:1<=c/\c<=16000) (hml:m.length<=100000):
  ∃ramp lag:Int,Qcf MN MP MA MF [.view Aa l, .view Aa m]=some (AO x++[I a,I b,I c,I ramp,I lag])/\MachOK x a b c ramp lag:=by
 obtain⟨k0,hk0⟩:∃k0:Nat,mn 3 (m.length:Int)=k0:=⟨(mn 3 (m.length:Int)).toNat,by unfold mn;split<;>omega⟩;obtain⟨v,k1,g1,v0,v1,-⟩:=hm k0 (n:=60000) (by omega);obtain⟨w,k2,g2,w0,w1,-⟩:=hm k1 (n:=40) (by omega);refine⟨1+v,w,?_,⟨hx,⟨by omega,by omega,by omega⟩,by omega,by omega⟩⟩;rw[Zcl,hF,hA,hP];simp only[Option.bind_some,gA,wA,bA,jA,EP,H4,Gx,Ce];rw[hk0,g1];simp only[Option.bind_some,EP,H4,Gx];rw[g2];simp only[Option.bind_some,EP,H4,Gx];rw[Ae (x:=1+v) (by omega)];rfl
theorem Q7u {l m:Rw} (h1:Src l) (h2:Src m) (h3:m.length<=100000):∃(x:Ax3) (a b c ramp lag:Int),Ki [.view Aa l, .view Aa m]=some (AO x++[I a,I b,I c,I ramp,I lag])/\MachOK x a b c ramp lag:=by
 obtain⟨x,hA,hx⟩:=Znb h1;obtain⟨a,b,c,hP,p1,p2,p3⟩:=Zpb (MF:=DA) (Jc h2) (RF m);obtain⟨ramp,lag,g1,g2⟩:=Zju (MP:=PK) (MF:=DA) (Jc h2) (RF m) hA hx hP p1 p2 p3 h3;exact⟨x,a,b,c,ramp,lag,g1,g2⟩
theorem Zjc (L:List (Rw)) (hl:L.length<=1000):Out (fun o=>o.1=1/\o.2=[B false]\/o.1=2/\∀l∈L,l.length<=60) (An SQ [.view [Kd.sl Aa] (L.map fun l=>[.view Aa l]),I L.length,I ((0:Nat):Int)]):=by
 refine C9 (fun i:Nat=>[.view [Kd.sl Aa] (L.map fun l=>[.view Aa l]),I L.length,I (i:Int)]) (fun i=>i<=L.length/\∀l∈L.take i,l.length<=60) (fun i=>L.length-i) _ ?_ 0 (by simp);rintro i ⟨h1,h2⟩;rw[Q8m];refine .cond (fun c=> ?_) fun c=> .some (.inr ⟨by simp, .inr ⟨rfl,?_⟩⟩)
 ·have c:(i:Int)<(L.length:Int):=Bg c;have hi:i<L.length:=by omega
  refine .cond (fun _=> ?_) fun e=>(inB (by omega) (by rw[List.length_map];exact c) e).elim;rw[Int.toNat_natCast,GP [] _ i (by rw[List.length_map];exact hi),List.getElem_map];refine .cond (fun _=> .some (.inr ⟨by simp, .inl ⟨rfl,rfl⟩⟩)) fun q=> ?_;have q: ¬(L[i].length:Int)>60:=Bj q;rw[Ae (x:=(i:Int)+1) (by omega)];refine .some (.inl ⟨rfl,i+1,rfl,⟨by omega,?_⟩,by omega⟩);intro l hl;rw[List.take_add_one,List.getElem?_eq_getElem hi]at hl;rcases List.mem_append.1 hl with hl|hl
  ·exact h2 l hl
  ·simp at hl;subst hl;omega
 ·have c: ¬(i:Int)<(L.length:Int):=Bj c;rw[List.take_of_length_le (by omega)]at h2;exact h2
theorem Zgz {L:List (Rw)} (hl:L.length<=1000):∃b:Bool,JL [.view [Kd.sl Aa] (L.map fun l=>[.view Aa l])]=some [B b]/\(b=true->∀l∈L,l.length<=60):=by
 obtain⟨o,h1,h2⟩:=Zjc L hl;have e:JL [.view [Kd.sl Aa] (L.map fun l=>[.view Aa l])]=Xf (An SQ) [.view [Kd.sl Aa] (L.map fun l=>[.view Aa l])]:=rfl;rw[e,Zbi,List.length_map];rw[show(0:Int)=((0:Nat):Int)from rfl,h1];obtain⟨o1,o2⟩:=o;rcases h2 with⟨q1,q2⟩|⟨q1,q2⟩
 ·dsimp only at q1 q2;subst q1 q2;exact⟨false,rfl,fun h=>by cases h⟩
 ·dsimp only at q1 q2;subst q1;exact⟨true,rfl,fun _=>q2⟩
theorem Zqs (a b c d:Rw):∃q:Bool,KX [.view Aa a, .view Aa b, .view Aa c, .view Aa d]=some [B q]/\(q=true->a.length<=60/\b.length<=60/\c.length<=60/\d.length<=60):=by
 obtain⟨q,h1,h2⟩:=Zgz (L:=[a,b,c,d]) (by simp);refine⟨q,?_,fun h=>⟨h2 h a (by simp),h2 h b (by simp),h2 h c (by simp),h2 h d (by simp)⟩⟩;show ZO JL _=_;rw[Q84];have h1':JL [.view [Kd.sl Aa] [[.view Aa a],[.view Aa b],[.view Aa c],[.view Aa d]]]=some [B q]:=h1;rw[h1'];rfl
end Go.Bm
namespace Go.Bm
abbrev Qxj:Itm:=⟨0,0,⟨0,0,0⟩,⟨0,0,0⟩,0,⟨0,0,0⟩,0,false,0,false,0,0,0,0,0,false⟩
def itK (K:Kf) (i:Int):Itm:=K.aA.getD i.toNat Qxj
def mkK (K:Kf) (i:Int):Mrk:=K.p.aD.getD i.toNat ⟨0,0,0⟩
theorem HW {K:Kf} {i:Int} (h0:0<=i) (h1:i<K.aA.length):nth [] (K.aA.map Ag) i.toNat=Ag (itK K i):=by
 have h:i.toNat<K.aA.length:=by omega
 rw[Qp8 K h];unfold itK;rw[List.getD,List.getElem?_eq_getElem h];rfl
theorem KP {K:Kf} {i:Int} (h0:0<=i) (h1:i<K.p.aD.length):nth [] (K.p.aD.map Aq) i.toNat=Aq (mkK K i):=by
 have h:i.toNat<K.p.aD.length:=by omega
 rw[Zqm K h];unfold mkK;rw[List.getD,List.getElem?_eq_getElem h];rfl
theorem Rc {K:Kf} (h:KOK K) {i:Int} (h0:0<=i) (h1:i<K.p.aD.length):0<=(mkK K i).item/\(mkK K i).item<K.aA.length/\i64 (mkK K i).at_:=by
 have hi:i.toNat<K.p.aD.length:=by omega
 unfold mkK;rw[List.getD,List.getElem?_eq_getElem hi];exact h.aD _ (List.getElem_mem hi)
theorem inR {i:Int} {n:Nat} (h0:0<=i) (h1:i<(n:Int)):(decide (0<=i)&&decide (i<(n:Int)))=true:=by
 rw[decide_eq_true h0,decide_eq_true h1];rfl
theorem inM {β:Type} {f:β->List AC} {i:Int} {l:List β} (h0:0<=i) (h1:i<(l.length:Int)):(decide (0<=i)&&decide (i<((l.map f).length:Int)))=true:=inR h0 (by rw[List.length_map];exact h1)
def FE (K:Kf) (c:Cv):Option Sgm:=K.p.aF[(Bf K.p.aF (max (A5 K c) 0)).1]?
def sgK (K:Kf) (c:Cv):Sgm:=(FE K c).getD sg0
theorem Qv7 {K:Kf} {c:Cv} {g:Sgm} (h:FE K c=some g):g∈K.p.aF:=List.mem_of_getElem? h
theorem FX {K:Kf} (h:KOK K) {c:Cv} (hl:(sgK K c).lead≠0):0<=(sgK K c).item/\(sgK K c).item<K.aA.length/\i64 (sgK K c).lead:=by
 unfold sgK at hl⊢;cases e:FE K c with
 |none=>rw[e]at hl;exact absurd rfl hl
 |some g=>exact h.aF g (Qv7 e)
theorem Zyc {MF MP:Fn} {K:Kf} {c:Cv} (hP:MP (Ad K c)=some [I (A5 K c)])
  (hF:MF (Br K.p++[I (A5 K c)])=if K.p.aF=[]then some [I (-1),I 0]else some [I (Bf K.p.aF (max (A5 K c) 0)).1,I (Bf K.p.aF (max (A5 K c) 0)).2]):
  Qm6 MF MP (Ad K c)=some (Ay (sgK K c)++[B (FE K c).isSome]):=by
 rw[Zpm];refine eB hP (Eq.trans (congrArg (fun z=>Option.bind z _) (show MF (Br K.p++[I (A5 K c)])=_ from hF)) ?_);by_cases e:K.p.aF=[]
 ·have e2:FE K c=none:=by unfold FE;rw[e];rfl
  unfold sgK;rw[if_pos e,e2];rfl
 ·have hl:=Qm9 K.p.aF (max (A5 K c) 0) e;have e2:FE K c=some K.p.aF[(Bf K.p.aF (max (A5 K c) 0)).1]:=List.getElem?_eq_getElem hl;unfold sgK;rw[if_neg e,e2];refine eB rfl (eF (decide_eq_false (show¬((Bf K.p.aF (max (A5 K c) 0)).1:Int)<0 by omega)) (eT (inM (f:=Ay) (l:=K.p.aF) (i:=((Bf K.p.aF (max (A5 K c) 0)).1:Int)) (by omega) (by omega)) ?_));have er:nth [] (K.p.aF.map Ay) ((Bf K.p.aF (max (A5 K c) 0)).1:Int).toNat=Ay K.p.aF[(Bf K.p.aF (max (A5 K c) 0)).1]:=by
   rw[Int.toNat_natCast,GP [] _ _ (by rw[List.length_map];exact hl),List.getElem_map]
  show some (AK Ah (nth [] (K.p.aF.map Ay) ((Bf K.p.aF (max (A5 K c) 0)).1:Int).toNat)++[B true])=_;rw[er];rfl
theorem Qs6 {K:Kf} (h:KOK K) (c:Cv):Hj (Ad K c)=some (Ay (sgK K c)++[B (FE K c).isSome]):=
 Zyc (Rk h c) (Un h.f.p.ok (Qjt h.f _))
def IN (K:Kf) (c:Cv):Bool:=(FE K c).isSome&&((itK K (sgK K c).item).kind==6&&c.y0==(sgK K c).item)
theorem Zfy {M:Fn} {K:Kf} {c:Cv} (h:KOK K) (hS:M (Ad K c)=some (Ay (sgK K c)++[B (FE K c).isSome])):T9 M (Ad K c)=some [B (IN K c)]:=by
 rw[Zze,hS];unfold IN sgK;cases e:FE K c with
 |none=>rfl
 |some g=>
  obtain⟨q1,q2,-⟩:=h.aF g (Qv7 e);refine eB rfl (eT rfl (eT (inM (f:=Ag) q1 q2) ?_));show cond (gA (nth [] (K.aA.map Ag) g.item.toNat) 0==6) (some [B (c.y0==g.item)]) (some [B false])=some [B (true&&((itK K g.item).kind==6&&c.y0==g.item))];rw[HW q1 q2];show cond ((itK K g.item).kind==6) (some [B (c.y0==g.item)]) (some [B false])=_;cases((itK K g.item).kind==6)<;>rfl
theorem Zo7 {K:Kf} (h:KOK K) (c:Cv):LC (Ad K c)=some [B (IN K c)]:=Zfy h (Qs6 h c)
def spV (c:Cv) (ramp:Int):Int:=if c.s1<c.s2 then mn (wrap .i64 (c.s1+ramp)) c.s2 else mx (wrap .i64 (c.s1-ramp)) c.s2
def spS (c:Cv) (ramp:Int):Cv:={c with s1:=spV c ramp,s3:=wrap .i64 (c.s3+wrap .i64 (c.s0*spV c ramp))}
theorem Zni (c:Cv) (ramp:Int):K5 [I c.s0,I c.s1,I c.s2,I c.s3,I ramp]=some [I (spS c ramp).s0,I (spS c ramp).s1,I (spS c ramp).s2,I (spS c ramp).s3]:=by
 show Qgz _=_;rw[Zar];show _=some [I c.s0,I (spV c ramp),I c.s2,I (wrap .i64 (c.s3+wrap .i64 (c.s0*spV c ramp)))];unfold spV;by_cases h:c.s1<c.s2
 ·rw[BO (decide_eq_true h),if_pos h]
 ·rw[Bn (decide_eq_false h),if_neg h]
def Fl (c:Cv):Bool:=c.m1==0&&(c.m2==0&&(c.m3==c.m0&&c.m4==c.m0))
theorem Zf4 (c:Cv):LF [I c.m0,I c.m1,I c.m2,I c.m3,I c.m4,I c.m5]=some [B (Fl c)]:=by
 show Qll _=_;rw[Znq];unfold Fl;cases(c.m1==0)<;>cases(c.m2==0)<;>cases(c.m3==c.m0)<;>rfl
def Qt (b:Bool) (n:Int):Bool:=if n=0 then false else if n=1 then true else b
theorem Z00 (b:Bool) (n:Int):Qw [B b,I n]=some [B (Qt b n)]:=by
 show TY _=_;rw[Zgn];unfold Qt;by_cases h:n=0
 ·rw[if_pos h,BO (by simpa using h)]
 ·rw[if_neg h,Bn (by simpa using h)];by_cases h:n=1
  ·rw[if_pos h,BO (by simpa using h)]
  ·rw[if_neg h,Bn (by simpa using h)]
def G7 (k n:Int):Bool:=k==9||(k==8&&(decide (0<=n)&&decide (n<=2)))
def evC (c:Cv) (k n:Int):Cv:={c with
 o0:=if k=1/\0<=n/\n<=200 then n else c.o0
 o1:=if k=2/\0<=n/\n<=100 then n else c.o1
 o2:=if k=3\/k=11 then true else if k=4 then false else c.o2
 o3:=if k=5 then Qt c.o3 n else c.o3
 o4:=if k=6 then Qt c.o4 n else c.o4
 g0:=if k=10 then 2 else if k=11 then 0 else if G7 k n=true then(if c.g0=2 then 2 else 1)else c.g0
 g1:=if k=10 then 22 else if k=11 then 0 else if G7 k n=true/\c.g0≠2/\c.g1=0 then(if k=9 then 21 else 20)else c.g1
 g2:=if k=10 then-1 else if k=11 then-1 else if G7 k n=true/\c.g0≠2/\c.g1=0 then(if k=9 then-1 else n)else c.g2
 aJ:=if k=4 then true else c.aJ}
theorem Zu7 {M:Fn} (hM:∀(b:Bool) (n:Int),M [B b,I n]=some [B (Qt b n)]) (c:Cv) (x k n:Int) (hk:k≠11):
  RP M [I c.o0,I c.o1,B c.o2,B c.o3,B c.o4,I x,I k,I n]=some [I (evC c k n).o0,I (evC c k n).o1,B (evC c k n).o2,B (evC c k n).o3,B (evC c k n).o4]:=by
 rw[Qwv];unfold evC;simp only[hM];by_cases h1:k=1
 ·subst h1;by_cases a:0<=n<;>by_cases b:n<=200<;>simp[a,b]
 ·by_cases h2:k=2
  ·subst h2;by_cases a:0<=n<;>by_cases b:n<=100<;>simp[a,b]
  ·by_cases h3:k=3
   ·subst h3;simp
   ·by_cases h4:k=4
    ·subst h4;simp
    ·by_cases h5:k=5
     ·subst h5;simp[gA,bA,nth,C5]
     ·by_cases h6:k=6
      ·subst h6;simp[gA,bA,nth,C5]
      ·simp only[beF h1,beF h2,beF h3,beF h4,beF h5,beF h6,cond_false];simp[h1,h2,h3,h4,h5,h6,hk]
theorem Zo5 {M:Fn} (c:Cv) (x n:Int):
  RP M [I c.o0,I c.o1,B c.o2,B c.o3,B c.o4,I x,I 11,I n]=some [I c.o0,I c.o1,B c.o2,B c.o3,B c.o4]:=by
 rw[Qwv];rfl
theorem Zfv (a b d e f:Int):P9 [I a,I b,I d,I e,I f]=some (if a=2 then [I a,I b,I d]else if b=0 then [I 1,I e,I f]else [I 1,I b,I d]):=by
 show Qbj _=_;rw[Zof];by_cases h:a=2
 ·rw[if_pos h,BO (by simpa using h)]
 ·rw[if_neg h,Bn (by simpa using h)];by_cases h:b=0
  ·rw[if_pos h,BO (by simpa using h)]
  ·rw[if_neg h,Bn (by simpa using h)]
theorem Zy1 {MS MT:Fn} (hS:MS []=some [I 0,I 0,I (-1)]) (hT:∀a b d e f:Int,MT [I a,I b,I d,I e,I f]=some (if a=2 then [I a,I b,I d]else if b=0 then [I 1,I e,I f]else [I 1,I b,I d])) (c:Cv) (x k n:Int):
  Qkd MS MT [I c.g0,I c.g1,I c.g2,I x,I k,I n]=some [I (evC c k n).g0,I (evC c k n).g1,I (evC c k n).g2]:=by
 rw[Zsg];unfold evC;simp only[hT,hS];by_cases h1:k=10
 ·subst h1;rfl
 ·by_cases h2:k=9
  ·subst h2;by_cases a:c.g0=2<;>by_cases b:c.g1=0<;>simp[G7,a,b,gA,jA,nth,Af]
  ·by_cases h3:k=8
   ·subst h3;by_cases u:0<=n<;>by_cases v:n<=2<;>by_cases a:c.g0=2<;>by_cases b:c.g1=0<;>simp[G7,a,b,u,v,gA,jA,nth,Af]
   ·by_cases h4:k=11
    ·subst h4;rfl
    ·simp only[beF h1,beF h2,beF h3,beF h4,cond_false];simp[G7,h1,h2,h3,h4]
theorem Zh6 {MR MT ML MG' MO:Fn} {K:Kf} (c:Cv) (x:Int) {k:Int} (n:Int) (hk:k≠7/\k≠12/\k≠13)
  (hO:k≠11->MO [I c.o0,I c.o1,B c.o2,B c.o3,B c.o4,I x,I k,I n]=some [I (evC c k n).o0,I (evC c k n).o1,B (evC c k n).o2,B (evC c k n).o3,B (evC c k n).o4])
  (hO2:k=11->MO [I c.o0,I c.o1,B c.o2,B c.o3,B c.o4,I x,I k,I n]=some [I c.o0,I c.o1,B c.o2,B c.o3,B c.o4])
  (hG:MG' [I c.g0,I c.g1,I c.g2,I x,I k,I n]=some [I (evC c k n).g0,I (evC c k n).g1,I (evC c k n).g2]):
  Qhh MR MT ML MG' MO (I x::I k::I n::Ad K c)=some (Ad K (evC c k n)):=by
 rw[Zk8];by_cases h:k=11
 ·rw[hO2 h,hG];subst h;rfl
 ·rw[hO h,hG];simp only[Option.bind_some];rw[Bn (by simpa using hk.2.2),Bn (by simpa using h),Bn (by simpa using hk.2.1),Bn (by simpa using hk.1)];by_cases h4:k=4
  ·subst h4;rfl
  ·rw[Bn (by simpa using h4)];have e:(evC c k n).aJ=c.aJ:=by unfold evC;simp[h4]
   rw[<-e];rfl
theorem Zux {K:Kf} (c:Cv) (x:Int) {k:Int} (n:Int) (hk:k≠7/\k≠12/\k≠13):LM (I x::I k::I n::Ad K c)=some (Ad K (evC c k n)):=
 Zh6 c x n hk (fun h=>Zu7 Z00 c x k n h) (fun h=>by subst h;exact Zo5 c x n) (Zy1 (by show R6 []=_;rw[Q6x]) Zfv c x k n)
end Go.Bm
noncomputable section
namespace Go.Bm
def one (M:Fn) (l:List AC):Int:=gA ((M l).getD []) 0
theorem TW {M:Fn} {l:List AC} {v:Int} (h:M l=some [I v]):M l=some [I (one M l)]:=by
 unfold one;rw[h];rfl
def Cx (k:Int) (c:Cv):Bool:=k==1||(k==3||(k==6||(k==4&&(c.o4||c.o3)||k==2&&c.o3)))
theorem Q7a (at_ k it:Int) (c:Cv):HV [I at_,I k,I it,I c.o0,I c.o1,B c.o2,B c.o3,B c.o4]=some [B (Cx k c)]:=by
 show Qjc _=_;rw[Zur];unfold Cx;by_cases h1:k=1
 ·subst h1;rfl
 by_cases h2:k=3
 ·subst h2;rfl
 by_cases h3:k=6
 ·subst h3;rfl
 by_cases h4:k=4
 ·subst h4;cases c.o4<;>cases c.o3<;>rfl
 by_cases h5:k=2
 ·subst h5;cases c.o3<;>rfl
 simp[beF h1,beF h2,beF h3,beF h4,beF h5]
def E8 (c:Cv) (known frm:Int):List Mrk->Nat->Int×Int
 |[],_=>(known,-1)
 |m::l,i=>if Cx m.kind c=true/\frm<=m.at_/\m.at_<=known then(m.at_,i)else E8 c known frm l (i+1)
def BD (K:Kf) (c:Cv) (known frm:Int):Int×Int:=E8 c known frm (K.p.aD.drop (max c.next 0).toNat) (max c.next 0).toNat
theorem Q7n {M:Fn} {K:Kf} (hl:K.p.aD.length<=1000000) (c:Cv) (hM:∀at_ k it:Int,M [I at_,I k,I it,I c.o0,I c.o1,B c.o2,B c.o3,B c.o4]=some [B (Cx k c)]) (known frm:Int):
  Wu M (An (Qx M)) [.view kPt (K.p.aD.map Aq),I c.next,I c.o0,I c.o1,B c.o2,B c.o3,B c.o4,I known,I frm]=some [I (BD K c known frm).1,I (BD K c known frm).2]:=by
 rw[Znd];have hmx:mx c.next 0=max c.next 0:=by unfold mx;split<;>omega
 have key:Out (fun o=>(if o.1=1 then o.2=[I (BD K c known frm).1,I (BD K c known frm).2]else o.1=2/\o.2=[I (BD K c known frm).1]/\(BD K c known frm).2= -1)) (An (Qx M) [.view kPt (K.p.aD.map Aq),I known,I frm,I (max c.next 0),I c.o0,I c.o1,B c.o2,B c.o3,B c.o4]):=by
  refine C9 (fun s:Int=>[.view kPt (K.p.aD.map Aq),I known,I frm,I s,I c.o0,I c.o1,B c.o2,B c.o3,B c.o4]) (fun s=>0<=s/\BD K c known frm=E8 c known frm (K.p.aD.drop s.toNat) s.toNat) (fun s=>(K.p.aD.length-s).toNat) _ ?_ (max c.next 0) ⟨by omega,rfl⟩;rintro i ⟨g,hw⟩;rw[Zci];refine .cond (fun k=> ?_) fun k=> ?_
  ·have k:i<((K.p.aD.map Aq).length:Int):=Bg k;rw[List.length_map]at k;have hi:i.toNat<K.p.aD.length:=by omega
   rw[Ae (x:=i+1) (by have:=hl;omega)];have em:mkK K i=K.p.aD[i.toNat]:=by unfold mkK;rw[List.getD,List.getElem?_eq_getElem hi];rfl
   rw[List.drop_eq_getElem_cons hi,<-em]at hw;unfold E8 at hw;refine .cond (fun _=> ?_) fun e=>(inB g (by rw[List.length_map];exact k) e).elim;rw[KP g k];refine .bind (p:=fun o=>o=_) ⟨_,hM _ _ _,rfl⟩ fun o e=> ?_;subst e;have next:BD K c known frm=E8 c known frm (K.p.aD.drop (i.toNat+1)) (i.toNat+1)->Out (fun o:Nat×List AC=>(o.1=0/\∃s':Int,o.2=[.view kPt (K.p.aD.map Aq),I known,I frm,I s',I c.o0,I c.o1,B c.o2,B c.o3,B c.o4]/\(0<=s'/\BD K c known frm=E8 c known frm (K.p.aD.drop s'.toNat) s'.toNat)/\(K.p.aD.length-s').toNat<(K.p.aD.length-i).toNat)\/(o.1≠0/\(if o.1=1 then o.2=[I (BD K c known frm).1,I (BD K c known frm).2]else o.1=2/\o.2=[I (BD K c known frm).1]/\(BD K c known frm).2= -1))) (some (0,[.view kPt (K.p.aD.map Aq),I known,I frm,I (i+1),I c.o0,I c.o1,B c.o2,B c.o3,B c.o4])):=fun e=>
    .some (.inl ⟨rfl,i+1,rfl,⟨by omega,by rw[e,show(i+1).toNat=i.toNat+1 by omega]⟩,by omega⟩)
   refine .cond (fun a=> .cond (fun b=> .cond (fun d=> ?_) fun d=> ?_) fun b=> ?_) fun a=> ?_
   ·have a:Cx (mkK K i).kind c=true:=a;have b:frm<=(mkK K i).at_:=Bg b;have d:(mkK K i).at_<=known:=Bg d;rw[if_pos ⟨a,b,d⟩]at hw;refine .some (.inr ⟨by simp,?_⟩);rw[if_pos rfl,hw];show [I (mkK K i).at_,I i]=[I (mkK K i).at_,I (i.toNat:Int)];rw[Int.toNat_of_nonneg g]
   ·have d: ¬(mkK K i).at_<=known:=Bj d;rw[if_neg (fun h=>d h.2.2)]at hw;exact next hw
   ·have b: ¬frm<=(mkK K i).at_:=Bj b;rw[if_neg (fun h=>b h.2.1)]at hw;exact next hw
   ·have a:Cx (mkK K i).kind c=false:=a;rw[if_neg (fun h=>by rw[a]at h;cases h.1)]at hw;exact next hw
  ·have k: ¬i<((K.p.aD.map Aq).length:Int):=Bj k;rw[List.length_map]at k;rw[List.drop_of_length_le (by omega)]at hw;refine .some (.inr ⟨by simp,?_⟩);rw[if_neg (by simp),hw];exact⟨rfl,rfl,rfl⟩
 obtain⟨⟨o1,o2⟩,h1,h2⟩:=key;rw[hmx];refine eB h1 ?_;by_cases e:o1=1
 ·subst e;have h2:o2=_:=h2;subst h2;rfl
 ·rw[if_neg e]at h2;obtain⟨q1,q2,q3⟩:=h2;dsimp only at q1 q2;subst q1 q2;rw[q3];rfl
theorem Z0n {K:Kf} (h:KOK K) (c:Cv) (known frm:Int):Pq [.view kPt (K.p.aD.map Aq),I c.next,I c.o0,I c.o1,B c.o2,B c.o3,B c.o4,I known,I frm]=some [I (BD K c known frm).1,I (BD K c known frm).2]:=
 Q7n h.count c (fun at_ k it=>Q7a at_ k it c) known frm
theorem Qve {c:Cv} {known frm:Int} (hk:i64 known):∀{l:List Mrk} {i:Nat},(∀m∈l,i64 m.at_)->i64 (E8 c known frm l i).1
 |[],_,_=>hk
 |m::l,i,h=>by
  unfold E8;split
  ·exact h m (by simp)
  ·exact Qve hk fun q hq=>h q (by simp[hq])
theorem Q34 {c:Cv} {known frm:Int}:∀{l:List Mrk} {i:Nat},(E8 c known frm l i).2= -1\/((i:Int)<=(E8 c known frm l i).2/\(E8 c known frm l i).2<(i+l.length:Nat))
 |[],_=> .inl rfl
 |m::l,i=>by
  unfold E8;split
  ·exact .inr ⟨Int.le_refl _,by simp only[List.length_cons];omega⟩
  ·rcases Q34 (l:=l) (i:=i+1) (c:=c) (known:=known) (frm:=frm)with h|⟨h1,h2⟩
   ·exact .inl h
   ·exact .inr ⟨by omega,by simp only[List.length_cons];omega⟩
theorem Zzr {K:Kf} {c:Cv} {known frm:Int}:(BD K c known frm).2= -1\/(0<=(BD K c known frm).2/\c.next<=(BD K c known frm).2/\(BD K c known frm).2<K.p.aD.length):=by
 unfold BD;rcases Q34 (c:=c) (known:=known) (frm:=frm) (l:=K.p.aD.drop (max c.next 0).toNat) (i:=(max c.next 0).toNat)with h|⟨h1,h2⟩
 ·exact .inl h
 ·rw[List.length_drop]at h2;exact .inr ⟨by omega,by omega,by omega⟩
def L2 (K:Kf) (c:Cv):Int:=one Fm [I K.pa,I K.pb,I K.pc,I c.m0,I c.m1,I c.m2,I c.m3,I c.m4,I c.m5]
def EM (K:Kf):Int:=if K.closed=true then K.len else K.set
def Dy (r:Int):Int:=wrap .i64 ((wrap .i64 (wrap .i64 (r+256)-1)).tdiv 256)
def HE (K:Kf) (r:Int):Int:=if B1 K.t (AT K.t (Dy r))≠Dy r then wrap .i64 (AT K.t (Dy r)+1)else AT K.t (Dy r)
def AU (K:Kf) (c:Cv):Int×Int:=(B1 K.t (BD K c (EM K) (HE K (L2 K c))).1,(BD K c (EM K) (HE K (L2 K c))).2)
theorem Qbg (K:Kf) (c:Cv):(AU K c).2= -1\/(0<=(AU K c).2/\c.next<=(AU K c).2/\(AU K c).2<K.p.aD.length):=Zzr
theorem Zly {K:Kf} (h:KOK K):i64 (EM K):=by unfold EM;split;exact h.len;exact h.set
theorem Qqm {K:Kf} (h:KOK K) {c:Cv} {frm:Int}:i64 (BD K c (EM K) frm).1:=by
 unfold BD;exact Qve (Zly h) fun m hm=>(h.aD m (List.mem_of_mem_drop hm)).2.2
theorem Z0k {MN MW MP MR:Fn} {K:Kf} {c:Cv} {r:Int} {b:Bool} (h:KOK K)
  (hR:MR [I K.pa,I K.pb,I K.pc,I c.m0,I c.m1,I c.m2,I c.m3,I c.m4,I c.m5]=some [I r,B b])
  (hP:∀u,MP (Bq K.t++[I u])=some [I (AT K.t u)]) (hW:∀{z:Int},i64 z->MW (Bq K.t++[I z])=some [I (B1 K.t z)])
  (hN:∀known frm,MN [.view kPt (K.p.aD.map Aq),I c.next,I c.o0,I c.o1,B c.o2,B c.o3,B c.o4,I known,I frm]=some [I (BD K c known frm).1,I (BD K c known frm).2]):
  Qiv MN MW MP MR (Ad K c)=some (I (B1 K.t (BD K c (EM K) (HE K r)).1)::I (BD K c (EM K) (HE K r)).2::Ad K c):=by
 have key:∀known:Int,known=EM K->R5 MR K c MP MW MN (I known)=some (I (B1 K.t (BD K c (EM K) (HE K r)).1)::I (BD K c (EM K) (HE K r)).2::Ad K c):=fun known hk=>by
  subst hk;refine eB hR (eB (hP (Dy r)) (eB (hW (Qjt h.f _)) ?_));have e1:HE K r=if B1 K.t (AT K.t (Dy r))≠Dy r then wrap .i64 (AT K.t (Dy r)+1)else AT K.t (Dy r):=rfl;by_cases c1:B1 K.t (AT K.t (Dy r))=Dy r
  ·rw[if_neg (by simpa using c1)]at e1;refine eF (bnF c1) ?_;exact eB (hN (EM K) (AT K.t (Dy r))) (by rw[<-e1];exact eB (hW (Qqm h)) rfl)
  ·rw[if_pos c1]at e1;refine eT (bnT c1) ?_;exact eB (hN (EM K) (wrap .i64 (AT K.t (Dy r)+1))) (by rw[<-e1];exact eB (hW (Qqm h)) rfl)
 rw[Zld];refine eC (fun e=>key _ ?_) fun e=>key _ ?_
 ·unfold EM;rw[if_pos e]
 ·unfold EM;rw[if_neg (by rw[e];simp)]
end Go.Bm
noncomputable section
namespace Go.Bm
theorem Zm7 {M:Fn} {l:List AC} (h:Out (fun o=>(wA o 0).length<=4096) (M l)) {x0 x1 x2 x3 x4 x5 x6 x7 x8:Int} (e:l=[I x0,I x1,I x2,I x3,I x4,I x5,I x6,I x7,I x8]):∃(r:Int) (b:Bool),LJ M l=some [I r,B b]:=by
 subst e;have key:Out (fun o=>∃(r:Int) (b:Bool),o=[I r,B b]) (LJ M [I x0,I x1,I x2,I x3,I x4,I x5,I x6,I x7,I x8]):=by
  rw[S3];refine .bind h fun o g=> .cond (fun _=> .some ⟨0,false,rfl⟩) fun _=> ?_;generalize wA o 0=sp at*;refine .cond (fun _=> .some ⟨x3,true,rfl⟩) fun c=> .cond (fun _=> .some ⟨_,true,rfl⟩) fun d=> ?_;have c: ¬((sp.length:Int)=0):=by simpa using c
  rw[Ae (by omega)]at d;simp at d;omega
 obtain⟨o,h1,r,b,rfl⟩:=key;exact⟨r,b,h1⟩
theorem Zbq (x0 x1 x2 x3 x4 x5 x6 x7 x8:Int):∃b:Bool,Fm [I x0,I x1,I x2,I x3,I x4,I x5,I x6,I x7,I x8]=some [I (one Fm [I x0,I x1,I x2,I x3,I x4,I x5,I x6,I x7,I x8]),B b]:=by
 obtain⟨r,b,h⟩:=Zm7 (M:=EE) (Qfe x0 x1 x2 x3 x4 x5 x6 x7 x8) rfl;have h:Fm [I x0,I x1,I x2,I x3,I x4,I x5,I x6,I x7,I x8]=some [I r,B b]:=h;refine⟨b,?_⟩;unfold one;rw[h];rfl
theorem Q7x {K:Kf} (h:KOK K) (c:Cv):Qf (Ad K c)=some (I (AU K c).1::I (AU K c).2::Ad K c):=by
 obtain⟨b,hb⟩:=Zbq K.pa K.pb K.pc c.m0 c.m1 c.m2 c.m3 c.m4 c.m5;exact Z0k h hb (QG h.f.t.q) (fun hz=>Ze2 h.f.t.q hz) (Z0n h c)
def Ss (c:Cv) (v:Int):Cv:={c with m0:=wrap .i64 (c.m0+v),m1:=v,m2:=wrap .i64 (v-c.m1),m3:=c.m0,m4:=c.m3,m5:=c.m4}
def ED (K:Kf) (c:Cv) (l:Int):Cv:=Ss c (nxV K c l)
theorem Qdv {K:Kf} {c:Cv} {n:Int} (h:KOK K) (g:Gd K n c) (l:Int):
  EV (nxL K c l)=some (D7 c.m0 c.m1 c.m3 c.m4 (nxV K c l))/\((AG K.pa K.pb (nxV K c l) (wrap .i64 (nxV K c l-c.m1))).2=true\/∃r:Int,nxV K c l=wrap .i64 (c.m1+r)/\r=AD K.pa K.pb c.m1 c.m2):=by
 obtain⟨o,h1,v,rfl,h2⟩:=Qvf h g.mo l c.o2;have h1:EV (nxL K c l)=some (D7 c.m0 c.m1 c.m3 c.m4 v):=h1;have e:nxV K c l=v:=by unfold nxV;rw[h1];rfl
 rw[e];exact⟨h1,h2⟩
theorem Zdn {M:Fn} {K:Kf} {c:Cv} {l v:Int} (h:M (nxL K c l)=some (D7 c.m0 c.m1 c.m3 c.m4 v)):Qae M (I l::Ad K c)=some (Ad K (Ss c v)):=by
 rw[Q79];exact eB h rfl
theorem XL {K:Kf} {c:Cv} {n:Int} (h:KOK K) (g:Gd K n c) (l:Int):Hb (I l::Ad K c)=some (Ad K (ED K c l)):=Zdn (Qdv h g l).1
theorem Qrf {K:Kf} {c:Cv} {n:Int} (h:KOK K) (g:Gd K n c) (hn:0<=n/\n<=10000) (l:Int):Gd K (n+1) (ED K c l):=g.move h hn (Qdv h g l).2
def HS (c:Cv):Cv:={c with next:=wrap .i64 (c.idx+1),on:=false,idx:=0,aN:=false,cnt:=0}
def Nd (c:Cv) (n sp:Int):List AC:=(Lk [I c.s0,I c.s1,I c.s2,I c.s3,I n,I sp]).getD []
def Ju (c:Cv) (n sp:Int):Cv:={c with s0:=gA (Nd c n sp) 0,s1:=gA (Nd c n sp) 1,s2:=gA (Nd c n sp) 2,s3:=gA (Nd c n sp) 3}
def Q1g (c:Cv) (n sp:Int):Bool:=bA ((Mn [I c.s0,I c.s1,I c.s2,I c.s3,I n,I sp]).getD []) 0
def Ig (K:Kf) (c:Cv):Int×Cv:=
 if c.aN=true then(if c.cnt>1/\c.aJ=true then(3,HS c)else(2,c))
 else if(mkK K c.idx).kind≠3 then(3,HS c)
 else if(itK K (mkK K c.idx).item).kind=7 then(if c.cnt<(itK K (mkK K c.idx).item).n then(3,c)else(3,HS c))
 else if(itK K (mkK K c.idx).item).kind=8 then(if Q1g (Ju c (itK K (mkK K c.idx).item).n (itK K (mkK K c.idx).item).speed) (itK K (mkK K c.idx).item).n (itK K (mkK K c.idx).item).speed=true then(3,HS (Ju c (itK K (mkK K c.idx).item).n (itK K (mkK K c.idx).item).speed))else(3,Ju c (itK K (mkK K c.idx).item).n (itK K (mkK K c.idx).item).speed))
 else if(itK K (mkK K c.idx).item).kind=14 then(7,{c with aI:=7})else(3,HS c)
def C0 (c:Cv):Cv:={c with cnt:=wrap .i64 (c.cnt+1)}
def Bx (K:Kf) (c:Cv):Int×Cv:=Ig K (C0 c)
theorem Zvb {MR MC MD:Fn} {K:Kf} {c:Cv} (h:KOK K) (h0:0<=c.idx) (h1:c.idx<K.p.aD.length)
  (hD:∀c:Cv,MD (Ad K c)=some (I 3::Ad K (HS c)))
  (hC:∀(c:Cv) (x4 x5:Int),i64 x5->MC [I c.s0,I c.s1,I c.s2,I c.s3,I x4,I x5]=some (Nd c x4 x5)) (hR:∀(c:Cv) (x4 x5:Int),i64 x5->Out (fun o=>bA o 0=Q1g c x4 x5) (MR [I c.s0,I c.s1,I c.s2,I c.s3,I x4,I x5])):
  Qfu MR MC MD (Ad K c)=some (I (Bx K c).1::Ad K (Bx K c).2):=by
 rw[Zd4];have hm:=Rc h h0 h1;unfold Bx Ig;refine eC (fun a=> ?_) fun a=> ?_
 ·rw[if_pos (show(C0 c).aN=true from a)];refine eC (fun b=>eC (fun e=> ?_) fun e=> ?_) fun b=> ?_
  ·rw[if_pos (show(C0 c).cnt>1/\(C0 c).aJ=true from⟨Bg b,e⟩)];exact eB (hD (C0 c)) rfl
  ·rw[if_neg (show¬((C0 c).cnt>1/\(C0 c).aJ=true)from fun q=>by have:=q.2;rw[show(C0 c).aJ=false from e]at this;cases this)];rfl
  ·rw[if_neg (show¬((C0 c).cnt>1/\(C0 c).aJ=true)from fun q=>Bj b q.1)];rfl
 ·rw[if_neg (show¬(C0 c).aN=true by rw[show(C0 c).aN=false from a];simp)];refine eT (inM (f:=Aq) h0 h1) ?_;rw[KP h0 h1];rw[show(C0 c).idx=c.idx from rfl];refine eC (fun b=> ?_) fun b=> ?_
  ·have b:(mkK K c.idx).kind≠3:=by simpa [gA,nth,Af]using b
   rw[if_pos b];exact eB (hD (C0 c)) rfl
  ·have b:(mkK K c.idx).kind=3:=by simpa [gA,nth,Af]using b
   rw[if_neg (by rw[b];simp)];refine eT (inM (f:=Ag) (l:=K.aA) (i:=(mkK K c.idx).item) hm.1 hm.2.1) ?_;have er:nth [] (K.aA.map Ag) (gA (Aq (mkK K c.idx)) 2).toNat=Ag (itK K (mkK K c.idx).item):=HW hm.1 hm.2.1;rw[er];have hsp:(itK K (mkK K c.idx).item).kind=8->i64 (itK K (mkK K c.idx).item).speed:=fun k8=>by
    have:=Zsw h (mkK K c.idx).item.toNat;rw[HW hm.1 hm.2.1]at this;exact this k8
   generalize itK K (mkK K c.idx).item=it at*;refine eC (fun k=> ?_) fun k=> ?_
   ·have k:it.kind=7:=eq_of_beq k;rw[if_pos k];refine eC (fun q=> ?_) fun q=> ?_
    ·rw[if_pos (show(C0 c).cnt<it.n from Bg q)];rfl
    ·rw[if_neg (show¬(C0 c).cnt<it.n from Bj q)];exact eB (hD (C0 c)) rfl
   ·have k:it.kind≠7:=by simpa [gA,nth,Af]using k
    rw[if_neg k];refine eC (fun k8=> ?_) fun k8=> ?_
    ·have k8:it.kind=8:=eq_of_beq k8;rw[if_pos k8];refine eB (hC (C0 c) it.n it.speed (hsp k8)) ?_;obtain⟨o,h5,h6⟩:=hR (Ju (C0 c) it.n it.speed) it.n it.speed (hsp k8);refine eB h5 ?_;rw[<-h6];refine eC (fun q=> ?_) fun q=> ?_
     ·rw[if_neg (show¬bA o 0=true by simpa using q)];rfl
     ·rw[if_pos (show bA o 0=true by simpa using q)];exact eB (hD (Ju (C0 c) it.n it.speed)) rfl
    ·have k8:it.kind≠8:=by simpa [gA,nth,Af]using k8
     rw[if_neg k8];refine eC (fun k=> ?_) fun k=> ?_
     ·rw[if_pos (show it.kind=14 from eq_of_beq k)];rfl
     ·rw[if_neg (show it.kind≠14 by simpa [gA,nth,Af]using k)];exact eB (hD (C0 c)) rfl
theorem Qlm {l:Option (List AC)} (h:l.isSome=true):l=some (l.getD []):=by
 cases l with
 |none=>cases h
 |some o=>rfl
theorem Q9s (c:Cv) (x4:Int) {x5:Int} (h:i64 x5):Lk [I c.s0,I c.s1,I c.s2,I c.s3,I x4,I x5]=some (Nd c x4 x5):=Qlm (Zmg _ _ _ _ _ h)
theorem Zs9 (K:Kf) (c:Cv):Oc (Ad K c)=some (I 3::Ad K (HS c)):=Zrq K c
theorem Q0j {K:Kf} {c:Cv} (h:KOK K) (h0:0<=c.idx) (h1:c.idx<K.p.aD.length):J9 (Ad K c)=some (I (Bx K c).1::Ad K (Bx K c).2):=
 Zvb h h0 h1 (Zs9 K) (fun c x4 _ h=>Q9s c x4 h) fun c x4 x5 h=>⟨_,Qlm (Zyh _ _ _ _ _ h),rfl⟩
def Ea (K:Kf) (c:Cv) (i:Int):Bool:=
 if(mkK K i).kind=1\/(mkK K i).kind=2\/(mkK K i).kind=6 then c.o3 else if(mkK K i).kind=4 then true
 else if(mkK K i).kind=3 then((itK K (mkK K i).item).kind==11||(itK K (mkK K i).item).kind==12)else false
def CY (K:Kf) (c:Cv) (i:Int):Int×Cv:=Bx K {c with on:=true,idx:=i,aN:=Ea K c i,cnt:=0}
theorem Zmu {M:Fn} {K:Kf} {c:Cv} {i:Int} (h:KOK K) (h0:0<=i) (h1:i<K.p.aD.length)
  (hW:∀w:Bool,M (Ad K {c with on:=true,idx:=i,aN:=w,cnt:=0})=some (I (Bx K {c with on:=true,idx:=i,aN:=w,cnt:=0}).1::Ad K (Bx K {c with on:=true,idx:=i,aN:=w,cnt:=0}).2)):
  Qfc M (I i::Ad K c)=some (I (CY K c i).1::Ad K (CY K c i).2):=by
 rw[Zpv];have hm:=Rc h h0 h1;unfold CY;refine eT (inM (f:=Aq) h0 h1) ?_;rw[KP h0 h1];have fin:∀{w:Bool} {f:List AC->List AC},w=Ea K c i->(∀(m:Int) (c:Cv),f (I m::Ad K c)=I m::Ad K c)->((M (Ad K {c with on:=true,idx:=i,aN:=w,cnt:=0})).bind fun o=>some (f o))=some (I (Bx K {c with on:=true,idx:=i,aN:=Ea K c i,cnt:=0}).1::Ad K (Bx K {c with on:=true,idx:=i,aN:=Ea K c i,cnt:=0}).2):=fun hw hf=>by
  subst hw;refine eB (hW _) ?_;rw[hf]
 have ne:∀{n:Int},(gA (Aq (mkK K i)) 1==n)=false->(mkK K i).kind≠n:=fun e=>by simpa [gA,nth,Af]using e
 have eq:∀{n:Int},(gA (Aq (mkK K i)) 1==n)=true->(mkK K i).kind=n:=fun e=>eq_of_beq e;refine eC (fun e=>fin (by unfold Ea;rw[if_pos (.inl (eq e))]) fun _ _=>rfl) fun n1=> ?_;refine eC (fun e=>fin (by unfold Ea;rw[if_pos (.inr (.inl (eq e)))]) fun _ _=>rfl) fun n2=> ?_;refine eC (fun e=>fin (by unfold Ea;rw[if_pos (.inr (.inr (eq e)))]) fun _ _=>rfl) fun n6=> ?_;have no: ¬((mkK K i).kind=1\/(mkK K i).kind=2\/(mkK K i).kind=6):=by
  intro q;rcases q with q|q|q
  ·exact ne n1 q
  ·exact ne n2 q
  ·exact ne n6 q
 refine eC (fun e=>fin (by unfold Ea;rw[if_neg no,if_pos (eq e)]) fun _ _=>rfl) fun n4=> ?_;refine eC (fun e=> ?_) fun n3=>fin (by unfold Ea;rw[if_neg no,if_neg (ne n4),if_neg (ne n3)]) fun _ _=>rfl;refine eT (inM (f:=Ag) (l:=K.aA) (i:=(mkK K i).item) hm.1 hm.2.1) ?_;have er:nth [] (K.aA.map Ag) (gA (Aq (mkK K i)) 2).toNat=Ag (itK K (mkK K i).item):=HW hm.1 hm.2.1;rw[er];have hw:Ea K c i=((itK K (mkK K i).item).kind==11||(itK K (mkK K i).item).kind==12):=by unfold Ea;rw[if_neg no,if_neg (ne n4),if_pos (eq e)]
 refine eC (fun k=>fin (by rw[hw,show((itK K (mkK K i).item).kind==11)=true from k];rfl) fun _ _=>rfl) fun k=>fin (by rw[hw,show((itK K (mkK K i).item).kind==11)=false from k];rfl) fun _ _=>rfl
theorem Q8n {K:Kf} {c:Cv} {i:Int} (h:KOK K) (h0:0<=i) (h1:i<K.p.aD.length):Pu (I i::Ad K c)=some (I (CY K c i).1::Ad K (CY K c i).2):=
 Zmu h h0 h1 fun _=>Q0j h h0 h1
end Go.Bm
noncomputable section
namespace Go.Bm
def Co (c:Cv):Cv:=if c.g0=0 then{c with o2:=true,g0:=1,g1:=18,g2:= -1}else c
theorem Ql6 (K:Kf) (c:Cv):GH (Ad K c)=some (Ad K (Co c)):=Zj9 K c
def NB (c:Cv):Int:=one Kc [I c.before,I c.s0]
theorem Zeq (c:Cv):Kc [I c.before,I c.s0]=some [I (NB c)]:=by
 have key:∃v,Kc [I c.before,I c.s0]=some [I v]:=by
  have e:Kc [I c.before,I c.s0]=Yt JB [I c.before,I c.s0]:=rfl;have h:∀a,(JB [I a,I 1048576]).isSome=true:=fun a=>Zaz (by omega);rw[e,Zp1];generalize JB=M at*;have h2:∀a,∃o,M [I a,I 1048576]=some o:=fun a=>Option.isSome_iff_exists.1 (h a);cases(c.s0== -1)
  ·obtain⟨o,ho⟩:=h2 (wrap .i64 (0-c.before));exact⟨_,eB ho rfl⟩
  ·obtain⟨o,ho⟩:=h2 c.before;exact⟨_,eB ho rfl⟩
 obtain⟨v,h⟩:=key;exact TW h
def goC (K:Kf) (c:Cv) (g:Sgm):Cv:={c with y0:=g.item,y1:=A5 K c,y2:=c.s3,e0:=1,e1:=c.m0,e2:=NB c,e3:=0}
def EB (K:Kf) (c:Cv) (g:Sgm):Bool:=(itK K g.item).kind==6||(c.s1 !=0&& !decide (wrap .i64 (wrap .i64 (c.s3-NB c)*c.s0)<0))
theorem Zzf {MP MI:Fn} {K:Kf} {c:Cv} {s:Sgm} (h0:0<=s.item) (h1:s.item<K.aA.length) (hI:MI [I c.before,I c.s0]=some [I (NB c)]) (hP:MP (Ad K c)=some [I (A5 K c)]):
  Qm8 MP MI (I s.to.x::I s.to.y::I s.to.z::I s.len::I s.item::I s.feed::I s.lead::Ad K c)=some (B (EB K c s)::Ad K (if EB K c s=true then goC K c s else c)):=by
 rw[Zlz];refine eB hI (eT (inM (f:=Ag) h0 h1) ?_);rw[HW h0 h1];refine eC (fun e=> ?_) fun e=> ?_
 ·have e:(itK K s.item).kind≠6:=by simpa [gA,nth,Af]using e
  refine eC (fun a=> ?_) fun a=>eC (fun b=> ?_) fun b=> ?_
  ·have hm:EB K c s=false:=by unfold EB;rw[beF e,bnF (eq_of_beq a)];rfl
   rw[hm];rfl
  ·have hm:EB K c s=false:=by unfold EB;rw[beF e,show decide (wrap .i64 (wrap .i64 (c.s3-NB c)*c.s0)<0)=true from b];simp
   rw[hm];rfl
  ·have hm:EB K c s=true:=by
    unfold EB;rw[show decide (wrap .i64 (wrap .i64 (c.s3-NB c)*c.s0)<0)=false from b];simp only[bne,a];simp
   rw[hm];exact eB hP rfl
 ·have e:(itK K s.item).kind=6:=by simpa [gA,nth,Af]using e
  have hm:EB K c s=true:=by unfold EB;rw[beT e];rfl
  rw[hm];exact eB hP rfl
theorem Zda {K:Kf} {c:Cv} {s:Sgm} (h:KOK K) (h0:0<=s.item) (h1:s.item<K.aA.length):
  Qc (I s.to.x::I s.to.y::I s.to.z::I s.len::I s.item::I s.feed::I s.lead::Ad K c)=some (B (EB K c s)::Ad K (if EB K c s=true then goC K c s else c)):=
 Zzf h0 h1 (Zeq c) (Rk h c)
def Z6 (lead way:Int):Int:=one Jr [I lead,I way]
theorem Zsz {a b:Int} (ha:i64 a) (hb:i64 b):Jr [I a,I b]=some [I (Z6 a b)]:=by
 have key:∃v,Jr [I a,I b]=some [I v]:=by
  have e:Jr [I a,I b]=Qb2 Bs [I a,I b]:=rfl;have h:=Qlk (show i64 4096 by unfold i64;omega) hb ha 0;rw[e,Q9f];generalize Bs=M at*;obtain⟨o,ho⟩:=Option.isSome_iff_exists.1 h;exact⟨_,eB ho rfl⟩
 obtain⟨v,h⟩:=key;exact TW h
def Qro (K:Kf) (d:Cv) (g:Sgm):Int:=wrap .i64 (d.y2+wrap .i64 (wrap .i64 ((if(itK K g.item).n=3 then 1 else-1)*Z6 g.lead (wrap .i64 (A5 K d-d.y1)))*256))
def PX (K:Kf) (c:Cv) (l:Int) (g:Sgm):Cv:={ED K c l with s3:=Qro K (ED K c l) g}
theorem Zno {MA MP ML:Fn} {K:Kf} {c:Cv} {l:Int} {s:Sgm} (h0:0<=s.item) (h1:s.item<K.aA.length)
  (hA:∀v,i64 v->MA [I s.lead,I v]=some [I (Z6 s.lead v)]) (hP:∀c,MP (Ad K c)=some [I (A5 K c)]) (hL:ML (I l::Ad K c)=some (Ad K (ED K c l))):
  Qkx MA MP ML (I l::I s.to.x::I s.to.y::I s.to.z::I s.len::I s.item::I s.feed::I s.lead::Ad K c)=some (Ad K (PX K c l s)):=by
 rw[Ze1];unfold PX;generalize ED K c l=d at*;refine eB hL (eT (inM (f:=Ag) h0 h1) ?_);show cond (gA (nth [] (K.aA.map Ag) s.item.toNat) 19==3) _ _=_;rw[HW h0 h1];unfold Qro;refine eC (fun e=> ?_) fun e=> ?_
 ·rw[if_pos (show(itK K s.item).n=3 from eq_of_beq e)];exact eB (hP d) (eB (hA _ (QB _)) rfl)
 ·rw[if_neg (show(itK K s.item).n≠3 by simpa [gA,nth,Af]using e)];exact eB (hP d) (eB (hA _ (QB _)) rfl)
theorem Qqg {K:Kf} {c:Cv} {n:Int} (h:KOK K) (g:Gd K n c) (hn:0<=n/\n<=10000) (l:Int) {s:Sgm} (hs:0<=s.item/\s.item<K.aA.length/\i64 s.lead):
  Qh (I l::I s.to.x::I s.to.y::I s.to.z::I s.len::I s.item::I s.feed::I s.lead::Ad K c)=some (Ad K (PX K c l s)):=
 Zno hs.1 hs.2.1 (fun v hv=>Zsz hs.2.2 hv) (Rk h) (XL h g l)
def thL (K:Kf) (c:Cv) (l lead:Int):List AC:=pxt K.p K.x K.t [I K.pa,I K.pb,I K.pc,I c.o0,I c.o1,B c.o2,B c.o3,B c.o4,I c.m0,I c.m1,I c.m2,I c.m3,I c.m4,I c.m5,I l,I lead,I c.e0,I c.e1,I c.e2,I c.e3,I c.before,I c.s3]
def thO (K:Kf) (c:Cv) (l lead:Int):List AC:=(HX (thL K c l lead)).getD []
def Ho (c:Cv) (o:List AC):Cv:={Ss c (gA o 1)with e0:=gA o 6,e1:=gA o 7,e2:=gA o 8,e3:=gA o 9}
def HA (K:Kf) (c:Cv) (l lead:Int):Cv:=
 if c.g0≠0 then{ED K c l with e0:=3}else if gA (thO K c l lead) 10≠0 then Co (Ho c (thO K c l lead))else Ho c (thO K c l lead)
theorem Qhc {K:Kf} {c:Cv} {n:Int} (h:KOK K) (g:Gd K n c) (l:Int) {lead:Int} (hl:i64 lead):
  HX (thL K c l lead)=some (thO K c l lead)/\∃v s b z y e:Int,thO K c l lead=D7 c.m0 c.m1 c.m3 c.m4 v++[I s,I b,I z,I y,I e]/\((AG K.pa K.pb v (wrap .i64 (v-c.m1))).2=true\/∃r:Int,v=wrap .i64 (c.m1+r)/\r=AD K.pa K.pb c.m1 c.m2):=by
 obtain⟨o,h1,v,s,b,z,y,e,rfl,h2⟩:=Zpd h g.mo l hl;have h1:HX (thL K c l lead)=some (D7 c.m0 c.m1 c.m3 c.m4 v++[I s,I b,I z,I y,I e]):=h1;have e2:thO K c l lead=D7 c.m0 c.m1 c.m3 c.m4 v++[I s,I b,I z,I y,I e]:=by unfold thO;rw[h1];rfl
 rw[e2];exact⟨h1,v,s,b,z,y,e,rfl,h2⟩
theorem Zba {MF MT ML:Fn} {K:Kf} {c:Cv} {l:Int} {s:Sgm} (hF:∀c,MF (Ad K c)=some (Ad K (Co c)))
  (hT:MT (thL K c l s.lead)=some (thO K c l s.lead)) (hS:∃v s' b z y e:Int,thO K c l s.lead=D7 c.m0 c.m1 c.m3 c.m4 v++[I s',I b,I z,I y,I e]) (hL:ML (I l::Ad K c)=some (Ad K (ED K c l))):
  Qcq MF MT ML (I l::I s.to.x::I s.to.y::I s.to.z::I s.len::I s.item::I s.feed::I s.lead::Ad K c)=some (Ad K (HA K c l s.lead)):=by
 rw[Zc5];unfold HA;refine eC (fun e=> ?_) fun e=> ?_
 ·rw[if_pos (show c.g0≠0 by simpa using e)];generalize ED K c l=d at*;exact eB hL rfl
 ·rw[if_neg (show¬c.g0≠0 by simpa using e)];obtain⟨v,s',b,z,y,e',hs⟩:=hS;generalize thO K c l s.lead=o at*;subst hs;refine eB hT ?_;refine eC (fun q=> ?_) fun q=> ?_
  ·rw[if_pos (show gA (D7 c.m0 c.m1 c.m3 c.m4 v++[I s',I b,I z,I y,I e']) 10≠0 by simpa using q)];refine Eq.trans (congrArg (fun z=>Option.bind z _) (hF (Ho c (D7 c.m0 c.m1 c.m3 c.m4 v++[I s',I b,I z,I y,I e'])))) rfl
  ·rw[if_neg (show¬gA (D7 c.m0 c.m1 c.m3 c.m4 v++[I s',I b,I z,I y,I e']) 10≠0 by simpa using q)];rfl
theorem Q3b {K:Kf} {c:Cv} {n:Int} (h:KOK K) (g:Gd K n c) (hn:0<=n/\n<=10000) (l:Int) {s:Sgm} (hs:i64 s.lead):
  Pw (I l::I s.to.x::I s.to.y::I s.to.z::I s.len::I s.item::I s.feed::I s.lead::Ad K c)=some (Ad K (HA K c l s.lead)):=by
 obtain⟨h1,v,s',b,z,y,e,h2,-⟩:=Qhc h g l hs;exact Zba (Ql6 K) h1 ⟨v,s',b,z,y,e,h2⟩ (XL h g l)
def EK (K:Kf) (c:Cv) (l:Int) (g:Sgm):Cv:=if(itK K g.item).kind=6 then PX K c l g else HA K c l g.lead
def EJ (K:Kf) (c:Cv) (l:Int):Cv:=
 if(sgK K c).lead=0\/(c.o2=true/\c.y0≠(sgK K c).item)then ED K c l
 else if c.y0=(sgK K c).item then EK K c l (sgK K c)
 else if EB K c (sgK K c)=true then EK K (goC K c (sgK K c)) l (sgK K c)
 else if c.s1=0 then Co c else c
theorem Gd.go {K:Kf} {n:Int} {c:Cv} (g:Gd K n c) (s:Sgm):Gd K n (goC K c s):=⟨g.way,g.pass,g.task,g.mo,g.m0⟩
theorem Zwo {MH MT MF MS ML MG':Fn} {K:Kf} {c:Cv} {l:Int} (hok:(sgK K c).lead≠0->0<=(sgK K c).item/\(sgK K c).item<K.aA.length)
  (hG:MG' (Ad K c)=some (Ay (sgK K c)++[B (FE K c).isSome])) (hL:ML (I l::Ad K c)=some (Ad K (ED K c l)))
  (hS:(sgK K c).lead≠0->MS (I (sgK K c).to.x::I (sgK K c).to.y::I (sgK K c).to.z::I (sgK K c).len::I (sgK K c).item::I (sgK K c).feed::I (sgK K c).lead::Ad K c)=some (B (EB K c (sgK K c))::Ad K (if EB K c (sgK K c)=true then goC K c (sgK K c)else c)))
  (hF:MF (Ad K c)=some (Ad K (Co c)))
  (hT:(sgK K c).lead≠0->∀d,d=c\/d=goC K c (sgK K c)->MT (I l::I (sgK K c).to.x::I (sgK K c).to.y::I (sgK K c).to.z::I (sgK K c).len::I (sgK K c).item::I (sgK K c).feed::I (sgK K c).lead::Ad K d)=some (Ad K (PX K d l (sgK K c))))
  (hH:(sgK K c).lead≠0->∀d,d=c\/d=goC K c (sgK K c)->MH (I l::I (sgK K c).to.x::I (sgK K c).to.y::I (sgK K c).to.z::I (sgK K c).len::I (sgK K c).item::I (sgK K c).feed::I (sgK K c).lead::Ad K d)=some (Ad K (HA K d l (sgK K c).lead))):
  Qks MH MT MF MS ML MG' (I l::Ad K c)=some (Ad K (EJ K c l)):=by
 rw[Zkp];unfold EJ;generalize sgK K c=s at*;refine eB hG ?_;refine eC (fun e=> ?_) fun e=> ?_
 ·rw[if_pos (.inl (show s.lead=0 from eq_of_beq e))];generalize ED K c l=d at*;exact eB hL rfl
 ·have e:s.lead≠0:=by simpa [gA,nth,Af]using e
  obtain⟨q0,q1⟩:=hok e;have hS:=hS e;have hT:=hT e;have hH:=hH e
  have syn:∀{d:Cv} {f1 f2:List AC->List AC},d=c\/d=goC K c s->(∀c,f1 (Ad K c)=Ad K c)->(∀c,f2 (Ad K c)=Ad K c)->
    (bif decide (0<=s.item)&&decide (s.item<((K.aA.map Ag).length:Int))then(bif gA (nth [] (K.aA.map Ag) s.item.toNat) 0==6 then(MT (I l::I s.to.x::I s.to.y::I s.to.z::I s.len::I s.item::I s.feed::I s.lead::Ad K d)).bind fun o=>some (f1 o)else(MH (I l::I s.to.x::I s.to.y::I s.to.z::I s.len::I s.item::I s.feed::I s.lead::Ad K d)).bind fun o=>some (f2 o))else none)=some (Ad K (EK K d l s)):=fun hd h1 h2=>by
   refine eT (inM (f:=Ag) q0 q1) ?_;rw[HW q0 q1];unfold EK;refine eC (fun k=> ?_) fun k=> ?_
   ·rw[if_pos (show(itK K s.item).kind=6 from eq_of_beq k)];exact eB (hT _ hd) (congrArg some (h1 _))
   ·rw[if_neg (show(itK K s.item).kind≠6 by simpa [gA,nth,Af]using k)];exact eB (hH _ hd) (congrArg some (h2 _))
  have hg:Q4 c (Ay s++[B (FE K c).isSome]) MS K MF MT l MH=some (Ad K (if c.y0=s.item then EK K c l s else if EB K c s=true then EK K (goC K c s) l s else if c.s1=0 then Co c else c)):=by
   refine eC (fun y=> ?_) fun y=> ?_
   ·have y:c.y0≠s.item:=by simpa [gA,nth,Af]using y
    rw[if_neg y];refine eB hS ?_;cases hm:EB K c s
    ·refine eT rfl ?_;rw[if_neg (by simp),if_neg (by simp)];refine eC (fun z=> ?_) fun z=> ?_
     ·rw[if_pos (show c.s1=0 from eq_of_beq z)];generalize Co c=d at*;exact eB hF rfl
     ·rw[if_neg (show c.s1≠0 by simpa [gA,nth,Af]using z)];rfl
    ·refine eF rfl ?_;rw[if_pos rfl,if_pos rfl];have h:=syn (d:=goC K c s) (f1:=fun o=>cR 0 o) (f2:=fun o=>cR 0 o) (.inr rfl) (fun _=>rfl) (fun _=>rfl);generalize goC K c s=d at*;exact h
   ·have y:c.y0=s.item:=by simpa [gA,nth,Af]using y
    rw[if_pos y];exact syn (f1:=fun o=>cR 0 o) (f2:=fun o=>cR 0 o) (.inl rfl) (fun _=>rfl) (fun _=>rfl)
  refine eC (fun a=>eC (fun b=> ?_) fun b=> ?_) fun a=> ?_
  ·have b:c.y0≠s.item:=by simpa [gA,nth,Af]using b
   rw[if_pos (.inr ⟨a,b⟩)];generalize ED K c l=d at*;exact eB hL rfl
  ·have b:c.y0=s.item:=by simpa [gA,nth,Af]using b
   rw[if_neg (fun q=>by rcases q with q|q;exact e q;exact q.2 b)];exact hg
  ·rw[if_neg (fun q=>by rcases q with q|q;exact e q;rw[a]at q;cases q.1)];exact hg
theorem Zct {K:Kf} {c:Cv} {n:Int} (h:KOK K) (g:Gd K n c) (hn:0<=n/\n<=10000) (l:Int):ON (I l::Ad K c)=some (Ad K (EJ K c l)):=
 Zwo (fun e=>⟨(FX h e).1,(FX h e).2.1⟩) (Qs6 h c) (XL h g l) (fun e=>Zda h (FX h e).1 (FX h e).2.1) (Ql6 K c)
  (fun e d hd=>by rcases hd with rfl|rfl;exact Qqg h g hn l (FX h e);exact Qqg h (g.go _) hn l (FX h e))
  (fun e d hd=>by rcases hd with rfl|rfl;exact Q3b h g hn l (FX h e).2.2;exact Q3b h (g.go _) hn l (FX h e).2.2)
end Go.Bm
noncomputable section
namespace Go.Bm
def CH (K:Kf) (c:Cv):Int×Cv:=
 if c.aM=true/\c.m0=wrap .i64 ((AU K c).1*256)then
  (if 0 <= (AU K c).2 then
   (if(mkK K (AU K c).2).item=(CY K c (AU K c).2).2.y0/\(itK K (mkK K (AU K c).2).item).kind=5/\(CY K c (AU K c).2).2.e0=1 then((CY K c (AU K c).2).1,Co (CY K c (AU K c).2).2)else CY K c (AU K c).2)
  else if K.closed=true then(7,{c with aI:=7})else(1,c))
 else(if c.g0≠0/\c.aM=true then 6 else 1,EJ K c (AU K c).1)
theorem Q7z {MM MF MB ML:Fn} {K:Kf} {c:Cv} (h:KOK K) (hi:(AU K c).2= -1\/0<=(AU K c).2/\c.next<=(AU K c).2/\(AU K c).2<K.p.aD.length)
  (hL:ML (Ad K c)=some (I (AU K c).1::I (AU K c).2::Ad K c)) (hB:0<=(AU K c).2->(AU K c).2<K.p.aD.length->MB (I (AU K c).2::Ad K c)=some (I (CY K c (AU K c).2).1::Ad K (CY K c (AU K c).2).2))
  (hF:∀c,MF (Ad K c)=some (Ad K (Co c))) (hM:MM (I (AU K c).1::Ad K c)=some (Ad K (EJ K c (AU K c).1))):
  XP MM MF MB ML (Ad K c)=some (I (CH K c).1::Ad K (CH K c).2):=by
 rw[Zd5];unfold CH;generalize EJ K c (AU K c).1=mv at*;have hbb:=hB;generalize hb:CY K c (AU K c).2=bg at*;clear hb;generalize AU K c=li at*;refine eB hL ?_;have mov:∀{a:Prop} [Decidable a],¬(c.aM=true/\c.m0=wrap .i64 (li.1*256))->∀{x:Option (List AC)},x=some (I (if c.g0≠0/\c.aM=true then 6 else 1)::Ad K mv)->
   x=some (I (if c.aM=true/\c.m0=wrap .i64 (li.1*256)then(if 0<=li.2 then(if(mkK K li.2).item=bg.2.y0/\(itK K (mkK K li.2).item).kind=5/\bg.2.e0=1 then(bg.1,Co bg.2)else bg)else if K.closed=true then(7,{c with aI:=7})else(1,c))else(if c.g0≠0/\c.aM=true then 6 else 1,mv)).1::Ad K (if c.aM=true/\c.m0=wrap .i64 (li.1*256)then(if 0<=li.2 then(if(mkK K li.2).item=bg.2.y0/\(itK K (mkK K li.2).item).kind=5/\bg.2.e0=1 then(bg.1,Co bg.2)else bg)else if K.closed=true then(7,{c with aI:=7})else(1,c))else(if c.g0≠0/\c.aM=true then 6 else 1,mv)).2):=fun hn _ hx=>by
  rw[if_neg hn];exact hx
 refine eC (fun s=>eC (fun e=> ?_) fun e=> ?_) fun s=> ?_
 ·have s:c.aM=true:=s;have e:c.m0=wrap .i64 (li.1*256):=eq_of_beq e;rw[if_pos ⟨s,e⟩];refine eC (fun k=> ?_) fun k=> ?_
  ·have k:0<=li.2:=Bg k;rw[if_pos k];have k2:li.2<K.p.aD.length:=by
    rcases hi with hi|hi
    ·omega
    ·exact hi.2.2
   have hm:=Rc h k k2;refine eB (hB k k2) (eT (inM (f:=Aq) k k2) ?_);have er:nth [] (K.p.aD.map Aq) li.2.toNat=Aq (mkK K li.2):=KP k k2;have er2:nth [] (K.aA.map Ag) (mkK K li.2).item.toNat=Ag (itK K (mkK K li.2).item):=HW hm.1 hm.2.1;refine eC (fun y=> ?_) fun y=> ?_
   ·have y:(mkK K li.2).item=bg.2.y0:=by
     have:=eq_of_beq (show(gA (nth [] (K.p.aD.map Aq) li.2.toNat) 2==bg.2.y0)=true from y);rw[er]at this;exact this
    refine eT (show(decide (0<=gA (nth [] (K.p.aD.map Aq) li.2.toNat) 2)&&decide (gA (nth [] (K.p.aD.map Aq) li.2.toNat) 2<((K.aA.map Ag).length:Int)))=true by rw[er];exact inM (f:=Ag) (l:=K.aA) (i:=(mkK K li.2).item) hm.1 hm.2.1) ?_;have ek:gA (nth [] (K.aA.map Ag) (gA (nth [] (K.p.aD.map Aq) li.2.toNat) 2).toNat) 0=(itK K (mkK K li.2).item).kind:=by
     rw[er];show gA (nth [] (K.aA.map Ag) (mkK K li.2).item.toNat) 0=_;rw[er2];rfl
    refine eC (fun q=> ?_) fun q=> ?_
    ·have q:(itK K (mkK K li.2).item).kind=5:=by rw[<-ek];exact eq_of_beq q
     refine eC (fun z=> ?_) fun z=> ?_
     ·have z:bg.2.e0=1:=eq_of_beq z;rw[if_pos ⟨y,q,z⟩];exact eB (hF bg.2) rfl
     ·have z:bg.2.e0≠1:=fun e=>by have:(bg.2.e0==1)=false:=z;rw[beT e]at this;cases this
      rw[if_neg (fun w=>z w.2.2)];rfl
    ·have q:(itK K (mkK K li.2).item).kind≠5:=fun e=>by
      have:(gA (nth [] (K.aA.map Ag) (gA (nth [] (K.p.aD.map Aq) li.2.toNat) 2).toNat) 0==5)=false:=q;rw[ek,beT e]at this;cases this
     rw[if_neg (fun w=>q w.2.1)];rfl
   ·have y:(mkK K li.2).item≠bg.2.y0:=fun e=>by
     have:(gA (nth [] (K.p.aD.map Aq) li.2.toNat) 2==bg.2.y0)=false:=y;rw[er]at this;rw[show(gA (Aq (mkK K li.2)) 2==bg.2.y0)=true from beT e]at this;cases this
    rw[if_neg (fun w=>y w.1)];rfl
  ·have k: ¬0<=li.2:=Bj k;rw[if_neg k];refine eC (fun q=> ?_) fun q=> ?_
   ·rw[if_pos (show K.closed=true from q)];rfl
   ·rw[if_neg (show¬K.closed=true by rw[show K.closed=false from q];simp)];rfl
 ·have e:c.m0≠wrap .i64 (li.1*256):=fun e'=>by
   have:(c.m0==wrap .i64 (li.1*256))=false:=e;rw[beT e']at this;cases this
  refine mov (a:=True) (fun w=>e w.2) ?_;refine eC (fun q=> ?_) fun q=> ?_
  ·have q:c.g0≠0:=fun e=>by
    have:(c.g0 !=0)=true:=q;rw[bnF e]at this;cases this
   refine eB hM (eT (show c.aM=true from s) ?_);rw[if_pos ⟨q,show c.aM=true from s⟩];rfl
  ·have q:c.g0=0:=Decidable.byContradiction fun e=>by
    have:(c.g0 !=0)=false:=q;rw[bnT e]at this;cases this
   refine eB hM ?_;rw[if_neg (fun w=>w.1 q)];rfl
 ·have s:c.aM=false:=s;refine mov (a:=True) (fun w=>by rw[s]at w;cases w.1) ?_;refine eC (fun q=> ?_) fun q=> ?_
  ·refine eB hM (eF (show c.aM=false from s) ?_);rw[if_neg (fun w=>by rw[s]at w;cases w.2)];rfl
  ·refine eB hM ?_;rw[if_neg (fun w=>by rw[s]at w;cases w.2)];rfl
theorem Zle {K:Kf} {c:Cv} {n:Int} (h:KOK K) (g:Gd K n c) (hn:0<=n/\n<=10000):KM (Ad K c)=some (I (CH K c).1::Ad K (CH K c).2):=
 Q7z h (Qbg K c) (Q7x h c) (fun h0 h1=>Q8n h h0 h1) (Ql6 K) (Zct h g hn _)
def swI (s:Int) (it:Itm):Int:=one JA (I s::Ag it)
theorem Zhl (s:Int) (it:Itm):JA (I s::Ag it)=some [I (swI s it)]:=by
 have key:∃v,JA (I s::Ag it)=some [I v]:=by
  show∃v,Qi5 (I s::Ag it)=some [I v];rw[Zc1];by_cases h1:it.kind=10
  ·rw[Bn (bnF h1)];by_cases h2:it.n<0
   ·rw[BO (decide_eq_true h2)];exact⟨_,rfl⟩
   ·rw[Bn (decide_eq_false h2)];by_cases h3:it.n>=16
    ·rw[BO (decide_eq_true h3)];exact⟨_,rfl⟩
    ·rw[Bn (decide_eq_false h3),Bn (decide_eq_false (by simp[IntKind.wrap,IntKind.signed,IntKind.bits];omega))];cases it.on<;>exact⟨_,rfl⟩
  ·rw[BO (bnT h1)];exact⟨_,rfl⟩
 obtain⟨v,h⟩:=key;exact TW h
def D9 (K:Kf) (s:Int):List Mrk->Cv->List Int×Cv
 |[],c=>([],c)
 |m::l,c=>if m.at_>s\/(m.at_=s/\c.next<=c.aK/\Cx m.kind c=true)then([],c)
  else if m.kind=5 then(m.item::(D9 K s l {c with outs:=swI c.outs (itK K m.item),aK:=c.aK+1}).1,(D9 K s l {c with outs:=swI c.outs (itK K m.item),aK:=c.aK+1}).2)
  else D9 K s l {c with aK:=c.aK+1}
def B_ (K:Kf) (c:Cv) (s:Int):List Int×Cv:=D9 K s (K.p.aD.drop c.aK.toNat) c
theorem Zol {MS MA:Fn} {K:Kf} {c:Cv} (h:KOK K) (hp:0<=c.aK/\c.aK<=K.p.aD.length) (s:Int)
  (hA:∀(c:Cv) (at_ k it:Int),MA [I at_,I k,I it,I c.o0,I c.o1,B c.o2,B c.o3,B c.o4]=some [B (Cx k c)]) (hS:∀(s:Int) (it:Itm),MS (I s::Ag it)=some [I (swI s it)]):
  Qgu MS MA (An (QY MS MA)) (I s::Ad K c)=some (.view Aa ((B_ K c s).1.map Ap)::Ad K (B_ K c s).2):=by
 rw[Zan];have key:Out (fun o=>o=(1, .view Aa ((B_ K c s).1.map Ap)::Ad K (B_ K c s).2)) (An (QY MS MA) (.view Aa (([]:List Int).map Ap)::I s::Ad K c)):=by
  have hc:=h.count;refine C9 (fun z:List Int×Cv=> .view Aa (z.1.map Ap)::I s::Ad K z.2)
   (fun z=>0<=z.2.aK/\z.2.aK<=K.p.aD.length/\(z.1.length:Int)<=z.2.aK/\(B_ K c s).1=z.1++(D9 K s (K.p.aD.drop z.2.aK.toNat) z.2).1/\(B_ K c s).2=(D9 K s (K.p.aD.drop z.2.aK.toNat) z.2).2)
   (fun z=>(K.p.aD.length-z.2.aK).toNat) _ ?_ ([],c) ⟨hp.1,hp.2,by simp;omega,rfl,rfl⟩
  rintro⟨l,d⟩ ⟨g1,g2,g3,g4,g5⟩;dsimp only at g1 g2 g3 g4 g5;refine Out.eqv (Zv4 MS MA _ _ K d) ?_;refine .cond (fun k=> ?_) fun k=> ?_
  ·have k:d.aK<((K.p.aD.map Aq).length:Int):=Bg k;rw[List.length_map]at k;have hi:d.aK.toNat<K.p.aD.length:=by omega
   have em:mkK K d.aK=K.p.aD[d.aK.toNat]:=by unfold mkK;rw[List.getD,List.getElem?_eq_getElem hi];rfl
   have hm:=Rc h g1 k;rw[List.drop_eq_getElem_cons hi,<-em]at g4 g5;unfold D9 at g4 g5;refine .cond (fun _=> ?_) fun e=>(inB g1 (by rw[List.length_map];exact k) e).elim;rw[KP g1 k];generalize hmk:mkK K d.aK=m at*;have wp:wrap .i64 (d.aK+1)=d.aK+1:=Ae (by omega);have np:(d.aK+1).toNat=d.aK.toNat+1:=by omega
   have stop:(m.at_>s\/(m.at_=s/\d.next<=d.aK/\Cx m.kind d=true))->∀{x:List AC},x= .view Aa (l.map Ap)::Ad K d->Out (fun o:Nat×List AC=>(o.1=0/\∃s':List Int×Cv,o.2= .view Aa (s'.1.map Ap)::I s::Ad K s'.2/\(0<=s'.2.aK/\s'.2.aK<=K.p.aD.length/\(s'.1.length:Int)<=s'.2.aK/\(B_ K c s).1=s'.1++(D9 K s (K.p.aD.drop s'.2.aK.toNat) s'.2).1/\(B_ K c s).2=(D9 K s (K.p.aD.drop s'.2.aK.toNat) s'.2).2)/\(K.p.aD.length-s'.2.aK).toNat<(K.p.aD.length-d.aK).toNat)\/(o.1≠0/\o=(1, .view Aa ((B_ K c s).1.map Ap)::Ad K (B_ K c s).2))) (some (1,x)):=fun hs _ hx=>by
    rw[if_pos hs]at g4 g5;subst hx;refine .some (.inr ⟨by simp,?_⟩);rw[g4,g5,List.append_nil]
   have go: ¬(m.at_>s\/(m.at_=s/\d.next<=d.aK/\Cx m.kind d=true))->Out (fun o:Nat×List AC=>(o.1=0/\∃s':List Int×Cv,o.2= .view Aa (s'.1.map Ap)::I s::Ad K s'.2/\(0<=s'.2.aK/\s'.2.aK<=K.p.aD.length/\(s'.1.length:Int)<=s'.2.aK/\(B_ K c s).1=s'.1++(D9 K s (K.p.aD.drop s'.2.aK.toNat) s'.2).1/\(B_ K c s).2=(D9 K s (K.p.aD.drop s'.2.aK.toNat) s'.2).2)/\(K.p.aD.length-s'.2.aK).toNat<(K.p.aD.length-d.aK).toNat)\/(o.1≠0/\o=(1, .view Aa ((B_ K c s).1.map Ap)::Ad K (B_ K c s).2))) (OC K d (l.map Ap) MS s):=fun hs=>by
    rw[if_neg hs]at g4 g5;unfold OC;rw[KP g1 k,hmk,wp];refine .cond (fun q=> ?_) fun q=> ?_
    ·have q:m.kind=5:=eq_of_beq q;rw[if_pos q]at g4 g5;refine .cond (fun _=> ?_) fun e=>by rw[Cw (by simp;omega)]at e;cases e
     refine .cond (fun _=> ?_) fun e=>(inB (show 0<=gA (Aq m) 2 from hm.1) (show gA (Aq m) 2<((K.aA.map Ag).length:Int) by rw[List.length_map];exact hm.2.1) e).elim;rw[show nth [] (K.aA.map Ag) (gA (Aq m) 2).toNat=Ag (itK K m.item)from HW hm.1 hm.2.1];refine .bind (p:=fun o=>o=_) ⟨_,hS d.outs (itK K m.item),rfl⟩ fun o e=> ?_;subst e;refine .some (.inl ⟨rfl,(l++[m.item],{d with outs:=swI d.outs (itK K m.item),aK:=d.aK+1}),?_,⟨by dsimp only;omega,by dsimp only;omega,by simp;omega,?_,?_⟩,by dsimp only;omega⟩)
     ·rw[List.map_append];rfl
     ·dsimp only;rw[g4,np];simp
     ·dsimp only;rw[g5,np]
    ·have q:m.kind≠5:=by simpa [gA,nth,Af]using q
     rw[if_neg q]at g4 g5;refine .some (.inl ⟨rfl,(l,{d with aK:=d.aK+1}),rfl,⟨by dsimp only;omega,by dsimp only;omega,by dsimp only;omega,?_,?_⟩,by dsimp only;omega⟩)
     ·dsimp only;rw[g4,np]
     ·dsimp only;rw[g5,np]
   refine .cond (fun a=>stop (.inl (Bg a)) rfl) fun a=> ?_;have a: ¬m.at_>s:=Bj a;refine .cond (fun b=> .cond (fun e=> ?_) fun e=>go fun w=> ?_) fun b=>go fun w=> ?_
   ·refine .bind (p:=fun o=>o=_) ⟨_,hA d _ _ _,rfl⟩ fun o q=> ?_;subst q;refine .cond (fun q=>stop (.inr ⟨eq_of_beq b,Bg e,q⟩) rfl) fun q=>go fun w=> ?_;have q:Cx m.kind d=false:=q;rcases w with w|w
    ·exact a w
    ·rw[q]at w;cases w.2.2
   ·rcases w with w|w
    ·exact a w
    ·exact Bj e w.2.1
   ·rcases w with w|w
    ·exact a w
    ·have:(m.at_==s)=false:=b;rw[beT w.1]at this;cases this
  ·have k: ¬d.aK<((K.p.aD.map Aq).length:Int):=Bj k;rw[List.length_map]at k;rw[List.drop_of_length_le (by omega)]at g4 g5;refine .some (.inr ⟨by simp,?_⟩);rw[g4,g5];simp[D9]
 obtain⟨o,h1,rfl⟩:=key;exact eB h1 rfl
theorem Zut {K:Kf} {c:Cv} (h:KOK K) (hp:0<=c.aK/\c.aK<=K.p.aD.length) (s:Int):OO (I s::Ad K c)=some (.view Aa ((B_ K c s).1.map Ap)::Ad K (B_ K c s).2):=
 Zol h hp s (fun c at_ k it=>Q7a at_ k it c) Zhl
end Go.Bm
noncomputable section
namespace Go.Bm
def Cz (K:Kf) (c:Cv):Int×Cv:=
 if c.g0=2 then(6,stand c)else if c.aI≠0 then(c.aI,c)
 else if c.aH=true/\c.aM=true then(8,{c with aI:=8})else if c.on=true then Bx K c else(0,c)
theorem Q36 (K:Kf) (c:Cv):(Ig K c).1≠0:=by
 unfold Ig
 (repeat' split)<;>simp
theorem Q6g (K:Kf) (c:Cv):(Bx K c).1≠0:=Q36 K (C0 c)
abbrev F8 (K:Kf) (frm i:Int) (c:Cv):List AC:=I frm::I 5::I i::(Ey++(Ey++Ad K c))
abbrev ZI (K:Kf) (frm mode:Int) (c:Cv):List AC:=I frm::(Ey++([.view kPt [], .view Aa [],I mode,I 0,I 0,I 0,I 0,I 0,I 0]++Ad K c))
theorem Zzc {N3:Lp} {ME MR MG' MB MP MO MU MS MN MX MT MV:Fn} {K:Kf} {c:Cv} (frm:Int)
  (hU:MU (Ad K c)=some (if c.g0=2 then I 6::B true::Ad K (stand c)else I 0::B false::Ad K c))
  (hO:MO (Ad K c)=some (I c.aI::B (c.aI !=0)::Ad K c))
  (hP:MP (Ad K c)=some (if c.aH=true/\c.aM=true then I 8::B true::Ad K {c with aI:=8}else I 0::B false::Ad K c))
  (hB:MB (Ad K c)=some (if c.on=true then I (Bx K c).1::B true::Ad K (Bx K c).2 else I 0::B false::Ad K c))
  (hG:MG' (Ad K c)=some (I 0::B false::Ad K c)):
  An (Iz ME MR MG' MB MP MO MU MS MN MX MT MV N3) (F8 K frm 0 c)=some (1,ZI K frm (Cz K c).1 (Cz K c).2):=by
 have w:∀i:Int,0<=i->i<5->wrap .i64 (i+1)=i+1:=fun i _ _=>Ae (by omega);have e:=fun i=>Q9k ME MR MG' MB MP MO MU MS MN MX MT MV N3 frm 5 i [] [] 0 0 0 0 0 0 0 [] [] 0 0 0 0 0 0 0 K c;have s0:c.g0≠2->Iz ME MR MG' MB MP MO MU MS MN MX MT MV N3 (F8 K frm 0 c)=some (0,F8 K frm 1 c):=fun h=>by
  refine Eq.trans (e 0) (eT rfl (eT rfl (eB hU ?_)));rw[if_neg h];rfl
 have s1:c.aI=0->Iz ME MR MG' MB MP MO MU MS MN MX MT MV N3 (F8 K frm 1 c)=some (0,F8 K frm 2 c):=fun h=>by
  refine Eq.trans (e 1) (eT rfl (eF rfl (eT rfl (eB hO ?_))));rw[h];rfl
 have s2: ¬(c.aH=true/\c.aM=true)->Iz ME MR MG' MB MP MO MU MS MN MX MT MV N3 (F8 K frm 2 c)=some (0,F8 K frm 3 c):=fun h=>by
  refine Eq.trans (e 2) (eT rfl (eF rfl (eF rfl (eT rfl (eB hP ?_)))));rw[if_neg h];rfl
 have s3:c.on=false->Iz ME MR MG' MB MP MO MU MS MN MX MT MV N3 (F8 K frm 3 c)=some (0,F8 K frm 4 c):=fun h=>by
  refine Eq.trans (e 3) (eT rfl (eF rfl (eF rfl (eF rfl (eT rfl (eB hB ?_))))));rw[if_neg (by rw[h];simp)];rfl
 have s4:Iz ME MR MG' MB MP MO MU MS MN MX MT MV N3 (F8 K frm 4 c)=some (0,F8 K frm 5 c):=by
  refine Eq.trans (e 4) (eT rfl (eF rfl (eF rfl (eF rfl (eF rfl (eT rfl (eB hG ?_)))))));rfl
 have s5:Iz ME MR MG' MB MP MO MU MS MN MX MT MV N3 (F8 K frm 5 c)=some (1,ZI K frm 0 c):=by
  exact Eq.trans (e 5) (eF rfl rfl)
 unfold Cz;by_cases h:c.g0=2
 ·rw[if_pos h];refine A_ (Eq.trans (e 0) (eT rfl (eT rfl (eB hU ?_)))) (by simp);rw[if_pos h];rfl
 rw[if_neg h,Bt (s0 h)];by_cases h:c.aI=0
 ·rw[if_neg (by simpa using h),Bt (s1 h)];by_cases h:c.aH=true/\c.aM=true
  ·rw[if_pos h];refine A_ (Eq.trans (e 2) (eT rfl (eF rfl (eF rfl (eT rfl (eB hP ?_)))))) (by simp);rw[if_pos h];rfl
  ·rw[if_neg h,Bt (s2 h)];cases h:c.on
   ·rw[if_neg (by simp),Bt (s3 h),Bt s4];exact A_ s5 (by simp)
   ·rw[if_pos rfl];refine A_ (Eq.trans (e 3) (eT rfl (eF rfl (eF rfl (eF rfl (eT rfl (eB hB ?_))))))) (by simp);rw[if_pos h];generalize Bx K c=wk;rfl
 ·rw[if_pos h];refine A_ (Eq.trans (e 1) (eT rfl (eF rfl (eT rfl (eB hO ?_))))) (by simp);rw[bnT h];rfl
theorem Zta {K:Kf} {c:Cv} {n:Int} (h:KOK K) (g:Gd K n c):Lh (Ad K c)=some (if c.on=true then I (Bx K c).1::B true::Ad K (Bx K c).2 else I 0::B false::Ad K c):=by
 have key:∀{M:Fn},(c.on=true->M (Ad K c)=some (I (Bx K c).1::Ad K (Bx K c).2))->Qdb M (Ad K c)=some (if c.on=true then I (Bx K c).1::B true::Ad K (Bx K c).2 else I 0::B false::Ad K c):=by
  intro M hM;rw[Zv7];cases e:c.on
  ·rw[if_neg (by simp)];rfl
  ·rw[if_pos rfl];have hM:=hM e;generalize Bx K c=wk at*;exact eB hM rfl
 exact key fun e=>Q0j h (g.task e).1 (g.task e).2
abbrev I2 (c:Cv):Cv:={c with aJ:=false,aL:=false}
def Bc (c:Cv) (E:List Evn):Cv:=E.foldl (fun c e=>evC c e.kind e.n) (I2 c)
def NT (E:List Evn):Prop:=E.length<=1000000/\∀e∈E,e.kind≠7/\e.kind≠12/\e.kind≠13
theorem Zkv {ME MR MG' MB MP MO MU MS MN MX MT MV:Fn} {K:Kf} {c:Cv} {E:List Evn} (hE:NT E)
  (hV:∀(c:Cv) (x:Int) {k:Int} (n:Int),k≠7/\k≠12/\k≠13->MV (I x::I k::I n::Ad K c)=some (Ad K (evC c k n))):
  An (QV ME MR MG' MB MP MO MU MS MN MX MT MV) (.view kPt (E.map evR)::I (E.map evR).length::I 0::(Ey++Ad K (I2 c)))=some (1,Ey++Ad K (Bc c E)):=by
 have key:Out (fun o=>o=(1,Ey++Ad K (Bc c E))) (An (QV ME MR MG' MB MP MO MU MS MN MX MT MV) (.view kPt (E.map evR)::I (E.map evR).length::I ((0:Nat):Int)::(Ey++Ad K (Bc c (E.take 0))))):=by
  refine C9 (fun i:Nat=> .view kPt (E.map evR)::I (E.map evR).length::I (i:Int)::(Ey++Ad K (Bc c (E.take i)))) (fun i=>i<=E.length) (fun i=>E.length-i) _ ?_ 0 (by simp);intro i hi;have hl:=hE.1;refine Out.eqv (Zj5 ME MR MG' MB MP MO MU MS MN MX MT MV (E.map evR) (E.map evR).length i [] [] 0 0 0 0 0 0 0 K (Bc c (E.take i))) ?_;refine .cond (fun k=> ?_) fun k=> ?_
  ·have k:(i:Int)<((E.map evR).length:Int):=Bg k;have hi:i<E.length:=by rw[List.length_map]at k;omega
   refine .cond (fun _=> ?_) fun e=>(inB (by omega) k e).elim;rw[Zb9 E hi];refine .bind (p:=fun o=>o=_) ⟨_,hV (Bc c (E.take i)) E[i].cycle E[i].n (hE.2 _ (List.getElem_mem hi)),rfl⟩ fun o e=> ?_;subst e;have e1:Bc c (E.take (i+1))=evC (Bc c (E.take i)) E[i].kind E[i].n:=by
    unfold Bc;rw[List.take_add_one,List.getElem?_eq_getElem hi,List.foldl_append];rfl
   rw[Ae (x:=(i:Int)+1) (by omega)];refine .some (.inl ⟨rfl,i+1,?_,by omega,by omega⟩);rw[e1];have st:∀d:Cv,Ey++cR 0 (Ad K d)=Ey++Ad K d:=fun _=>rfl;exact congrArg (fun z=>AC.view kPt (E.map evR)::I (E.map evR).length::I ((i:Int)+1)::z) (st (evC (Bc c (E.take i)) E[i].kind E[i].n))
  ·have k: ¬(i:Int)<((E.map evR).length:Int):=Bj k;rw[List.length_map]at k;rw[List.take_of_length_le (by omega)];generalize Bc c E=d;exact .some (.inr ⟨by simp,rfl⟩)
 obtain⟨o,h1,rfl⟩:=key;exact h1
def Qq (K:Kf) (frm u:Int):Rw:=wA ((Kv (pxt K.p K.x K.t [I frm,I u])).getD []) 0
theorem Zye {K:Kf} (h:KOK K) (frm u:Int) (hd:u-frm<=1000000000000):Out (fun o=>wA o 0=Qq K frm u) (Kv (pxt K.p K.x K.t [I frm,I u])):=
 ⟨_,Qlm (Zoq h.f frm u hd),rfl⟩
abbrev My (K:Kf) (c:Cv):Pt:=Jl K.p K.x K.t (Bl c)
theorem Q7l {MM MP MB MO MU:Fn} {K:Kf} {c:Cv} (hw:c.way=0) (hc:c.aL=false) {frm mode:Int}
  (hU:MU (Ad K c)=some [I (Bl c)]) (hO:MO (Ad K c)=some [I (A5 K c)]) (hB:Out (fun o=>wA o 0=Qq K frm (Bl c)) (MB (pxt K.p K.x K.t [I frm,I (Bl c)])))
  (hP:∀s,MP (I s::Ad K c)=some (.view Aa ((B_ K c s).1.map Ap)::Ad K (B_ K c s).2)) (hQ:∀s,∃n q:Int,(B_ K c s).2={c with aK:=n,outs:=q}) (hM:∀u,MM (pxt K.p K.x K.t [I u])=some (ptR (Jl K.p K.x K.t u))):
  Qgt MM MP MB MO MU (I frm::(Ad K c++[.view kPt [], .view Aa [],I mode,I 0,I 0,I 0,I 0,I 0,I 0]))=
   some (Ad K (B_ K c (A5 K c)).2++Ma (Qq K frm (Bl c)) ((B_ K c (A5 K c)).1.map Ap) mode (A5 K c) (My K c) c.s3 c.g1):=by
 refine Eq.trans (Zjz MM MP MB MO MU frm [] [] mode 0 0 0 0 0 0 K c) ?_;obtain⟨o,hB,ho⟩:=hB;rw[<-ho];refine eB hU (eB hO (eT (show(!c.aL)=true by rw[hc];rfl) (eB hB (eT (show(c.way==0)=true from beT hw) ?_))));have hP:=hP (A5 K c);obtain⟨n,q,hq⟩:=hQ (A5 K c);generalize B_ K c (A5 K c)=ps at*;refine eB hP ?_;rw[hq];refine eB (hM (Bl c)) ?_;rw[show My K c=Jl K.p K.x K.t (Bl c)from rfl];generalize Jl K.p K.x K.t (Bl c)=mt;rfl
theorem Ve (K:Kf) (s:Int):∀(l:List Mrk) (c:Cv),∃n q:Int,(D9 K s l c).2={c with aK:=n,outs:=q}
 |[],c=>⟨c.aK,c.outs,rfl⟩
 |m::l,c=>by
  unfold D9;split
  ·exact⟨c.aK,c.outs,rfl⟩
  ·split
   ·obtain⟨n,q,h⟩:=Ve K s l {c with outs:=swI c.outs (itK K m.item),aK:=c.aK+1};exact⟨n,q,h⟩
   ·obtain⟨n,q,h⟩:=Ve K s l {c with aK:=c.aK+1};exact⟨n,q,h⟩
theorem NJ (K:Kf) (c:Cv) (s:Int):∃n q:Int,(B_ K c s).2={c with aK:=n,outs:=q}:=Ve K s _ c
theorem Zr2 {K:Kf} {c:Cv} {n:Int} (h:KOK K) (g:Gd K n c) (hn:0<=n/\n<=10010) (hc:c.aL=false) {frm mode:Int} (hf: -300000000000<=frm/\frm<=300000000000):
  Lu (I frm::(Ad K c++[.view kPt [], .view Aa [],I mode,I 0,I 0,I 0,I 0,I 0,I 0]))=
   some (Ad K (B_ K c (A5 K c)).2++Ma (Qq K frm (Bl c)) ((B_ K c (A5 K c)).1.map Ap) mode (A5 K c) (My K c) c.s3 c.g1):=
 Q7l g.way hc (QA K c) (Rk h c) (Zye h frm (Bl c) (by have:=Qs1 g hn;omega)) (fun s=>Zut h g.pass s) (NJ K c) (X_ h.f)
def CV (c:Cv):Cv:=if c.aH=true\/c.g0≠0 then{c with o2:=true}else c
def BV (c:Cv):Cv:={c with before:=c.s3}
def Di (K:Kf) (c:Cv):Cv:=if IN K c=true then c else spS c K.ramp
def JY (c:Cv):Cv:={c with aM:=Fl c}
def A8 (K:Kf) (c:Cv) (E:List Evn):Cv:=JY (Di K (BV (CV (Bc c E))))
def stC (K:Kf) (c:Cv) (E:List Evn):Int×Cv:=if(Cz K (A8 K c E)).1=0 then CH K (Cz K (A8 K c E)).2 else Cz K (A8 K c E)
def B4 (K:Kf) (c:Cv) (E:List Evn):Cv:=(B_ K (stC K c E).2 (A5 K (stC K c E).2)).2
def Z09 (K:Kf) (c:Cv) (E:List Evn):List Int:=(B_ K (stC K c E).2 (A5 K (stC K c E).2)).1
def tkC (K:Kf) (c:Cv) (E:List Evn):List AC:=
 Ma (Qq K (Bl (Bc c E)) (Bl (stC K c E).2)) ((Z09 K c E).map Ap) (stC K c E).1 (A5 K (stC K c E).2) (My K (stC K c E).2) (stC K c E).2.s3 (stC K c E).2.g1
theorem Z0m {N16:Lp} {MR ME:Fn} {K:Kf} {d:Cv} {frm:Int} {o:Nat×List AC} (ho:∃e,o.2=Ey++Ad K e)
  (h16:N16 (F8 K frm 0 d)=some (1,ZI K frm (Cz K d).1 (Cz K d).2))
  (hR:(Cz K d).1=0->MR (Ad K (Cz K d).2)=some (I (CH K (Cz K d).2).1::Ad K (CH K (Cz K d).2).2))
  {s:Int×Cv} (hs:s=if(Cz K d).1=0 then CH K (Cz K d).2 else Cz K d)
  {pul outs:Rw} {pos sp ft:Int} {mt:Pt} {q:Cv}
  (hE:ME (I frm::(Ad K s.2++[.view kPt [], .view Aa [],I s.1,I 0,I 0,I 0,I 0,I 0,I 0]))=some (Ad K q++Ma pul outs s.1 pos mt sp ft)):
  I3 N16 o MR ME (I frm) (Ad K d)=some (Ma pul outs s.1 pos mt sp ft++Ad K q):=by
 obtain⟨o1,o2⟩:=o;obtain⟨e,ho⟩:=ho;dsimp only at ho;subst ho;refine eB h16 (eT rfl ?_);generalize Cz K d=r at*;generalize CH K r.2=w at*;by_cases h:r.1=0
 ·rw[if_pos h]at hs;subst hs;refine eT (show(r.1==0)=true from beT h) (eB (hR h) (eB hE rfl))
 ·rw[if_neg h]at hs;subst hs;exact eF (show(s.1==0)=false from beF h) (eB hE rfl)
end Go.Bm
noncomputable section
namespace Go.Bm
theorem Zt7 {ME MR MG' MB MP MO MU MS MN MX MT MV:Fn} {N3 N16:Lp} {K:Kf} {c:Cv} {E:List Evn}
  (h3:N3 (.view kPt (E.map evR)::I (E.map evR).length::I 0::(Ey++Ad K (I2 c)))=some (1,Ey++Ad K (Bc c E)))
  (hT:∀c,MT (Ad K c)=some [B (IN K c)]) (hX:∀(c:Cv) (ramp:Int),MX [I c.s0,I c.s1,I c.s2,I c.s3,I ramp]=some [I (spS c ramp).s0,I (spS c ramp).s1,I (spS c ramp).s2,I (spS c ramp).s3])
  (hN:∀c,MN (Ad K c)=some [I (Bl c)]) (hS:∀c:Cv,MS [I c.m0,I c.m1,I c.m2,I c.m3,I c.m4,I c.m5]=some [B (Fl c)])
  (h1:∀o:Nat×List AC,(∃e,o.2=Ey++Ad K e)->I3 N16 o MR ME (I (Bl (Bc c E))) (Ad K (A8 K c E))=some (tkC K c E++Ad K (B4 K c E))):
  Qen ME MR MG' MB MP MO MU MS MN MX MT MV N3 N16 (.view kPt (E.map evR)::Ad K c)=some (tkC K c E++Ad K (B4 K c E)):=by
 refine Eq.trans (Zlt ME MR MG' MB MP MO MU MS MN MX MT MV N3 N16 (E.map evR) K c) ?_;refine eB h3 (eT rfl ?_);unfold A8 at h1;generalize tkC K c E=tk at*;generalize B4 K c E=sc at*;generalize Bc c E=d at*
 have rest:∀b:Cv,CV d=b->Bl b=Bl d->Fl b=Fl d->
   ((MT (Ad K (BV b))).bind fun o => bif !bA o 0 then (MX [I b.s0, I b.s1, I b.s2, I b.s3, I K.ramp]).bind fun o2 => (MN (Ad K { BV b with s0 := gA o2 0, s1 := gA o2 1, s2 := gA o2 2, s3 := gA o2 3 })).bind fun o3 => (MS [I d.m0, I d.m1, I d.m2, I d.m3, I d.m4, I d.m5]).bind fun o4 => I3 N16 (1, Ey ++ Ad K d) MR ME (jA o3 0) (Ad K { BV b with s0 := gA o2 0, s1 := gA o2 1, s2 := gA o2 2, s3 := gA o2 3, aM := bA o4 0 })
    else(MN (Ad K (BV b))).bind fun o3=>(MS [I d.m0,I d.m1,I d.m2,I d.m3,I d.m4,I d.m5]).bind fun o4=>I3 N16 (1,Ey++Ad K d) MR ME (jA o3 0) (Ad K {BV b with aM:=bA o4 0}))=some (tk++Ad K sc):=fun b hb hu hs=>by
  have h1:=h1 (1,Ey++Ad K d) ⟨d,rfl⟩;rw[hb]at h1;refine eB (hT (BV b)) ?_;cases ht:IN K (BV b)
  ·have e1:Di K (BV b)=spS (BV b) K.ramp:=by unfold Di;rw[if_neg (by rw[ht];simp)]
   rw[e1]at h1;refine eT rfl (eB (hX b K.ramp) ?_);refine Eq.trans (congrArg (fun z=>Option.bind z _) (hN (spS (BV b) K.ramp))) (eB rfl (eB (hS d) ?_));have e2:Bl (spS (BV b) K.ramp)=Bl d:=hu;have e3:({spS (BV b) K.ramp with aM:=Fl d}:Cv)=JY (spS (BV b) K.ramp):=by
    unfold JY;rw[show Fl (spS (BV b) K.ramp)=Fl b from rfl,hs]
   rw[<-e3,<-e2]at h1;exact h1
  ·have e1:Di K (BV b)=BV b:=by unfold Di;rw[if_pos ht]
   rw[e1]at h1;refine eF rfl ?_;refine Eq.trans (congrArg (fun z=>Option.bind z _) (hN (BV b))) (eB rfl (eB (hS d) ?_));have e2:Bl (BV b)=Bl d:=hu;have e3:({BV b with aM:=Fl d}:Cv)=JY (BV b):=by
    unfold JY;rw[show Fl (BV b)=Fl b from rfl,hs]
   rw[<-e3,<-e2]at h1;exact h1
 refine eC (fun t=> ?_) fun t=>eC (fun q=> ?_) fun q=> ?_
 ·have t:d.aH=true:=t;exact rest {d with o2:=true} (by unfold CV;rw[if_pos (.inl t)]) rfl rfl
 ·have q:d.g0≠0:=fun e=>by
   have:(d.g0 !=0)=true:=q;rw[bnF e]at this;cases this
  exact rest {d with o2:=true} (by unfold CV;rw[if_pos (.inr q)]) rfl rfl
 ·have t:d.aH=false:=t;have q:d.g0=0:=Decidable.byContradiction fun e=>by
   have:(d.g0 !=0)=false:=q;rw[bnT e]at this;cases this
  exact rest d (by unfold CV;rw[if_neg (fun w=>by rcases w with w|w;rw[t]at w;cases w;exact w q)]) rfl rfl
structure Kp (c d : Cv) : Prop where
 way:d.way=c.way
 aL:d.aL=c.aL
 aK:d.aK=c.aK
 outs:d.outs=c.outs
theorem Kp.rfl {c:Cv}:Kp c c:=⟨Eq.refl _,Eq.refl _,Eq.refl _,Eq.refl _⟩
theorem Kp.trans {a b c:Cv} (h:Kp a b) (g:Kp b c):Kp a c:=⟨g.way.trans h.way,g.aL.trans h.aL,g.aK.trans h.aK,g.outs.trans h.outs⟩
structure Sm (c d : Cv) : Prop where
 kp:Kp c d
 m0:d.m0=c.m0
 m1:d.m1=c.m1
 m2:d.m2=c.m2
 m3:d.m3=c.m3
 m4:d.m4=c.m4
 on:d.on=c.on
 idx:d.idx=c.idx
 aI:d.aI=c.aI
 aH:d.aH=c.aH
 next:d.next=c.next
theorem Sm.trans {a b c:Cv} (h:Sm a b) (g:Sm b c):Sm a c:=
 ⟨h.kp.trans g.kp,g.m0.trans h.m0,g.m1.trans h.m1,g.m2.trans h.m2,g.m3.trans h.m3,g.m4.trans h.m4,g.on.trans h.on,g.idx.trans h.idx,g.aI.trans h.aI,g.aH.trans h.aH,g.next.trans h.next⟩
theorem Sm.rfl {c:Cv}:Sm c c:=⟨Kp.rfl,Eq.refl _,Eq.refl _,Eq.refl _,Eq.refl _,Eq.refl _,Eq.refl _,Eq.refl _,Eq.refl _,Eq.refl _,Eq.refl _⟩
theorem Gd.sm {K:Kf} {n:Int} {c d:Cv} (g:Gd K n c) (h:Sm c d):Gd K n d:=g.same h.kp.way h.kp.aK h.on h.idx h.m0 h.m1 h.m2
theorem Zai (c:Cv) (k n:Int):Sm c (evC c k n):=⟨⟨Eq.refl _,Eq.refl _,Eq.refl _,Eq.refl _⟩,Eq.refl _,Eq.refl _,Eq.refl _,Eq.refl _,Eq.refl _,Eq.refl _,Eq.refl _,Eq.refl _,Eq.refl _,Eq.refl _⟩
theorem Q6u:∀(E:List Evn) (c:Cv),Sm c (E.foldl (fun c e=>evC c e.kind e.n) c)
 |[],_=>Sm.rfl
 |e::E,c=>(Zai c e.kind e.n).trans (Q6u E _)
theorem Q1h (c:Cv) (E:List Evn):Sm (I2 c) (Bc c E):=Q6u E _
theorem Zvx (c:Cv):Sm c (CV c):=by
 unfold CV;split
 ·exact⟨⟨rfl,rfl,rfl,rfl⟩,rfl,rfl,rfl,rfl,rfl,rfl,rfl,rfl,rfl,rfl⟩
 ·exact Sm.rfl
theorem Zhq (K:Kf) (c:Cv):Sm c (Di K c):=by
 unfold Di;split
 ·exact Sm.rfl
 ·exact⟨⟨rfl,rfl,rfl,rfl⟩,rfl,rfl,rfl,rfl,rfl,rfl,rfl,rfl,rfl,rfl⟩
theorem Qez (K:Kf) (c:Cv) (E:List Evn):Sm (I2 c) (A8 K c E):=
 (Q1h c E).trans ((Zvx _).trans (Sm.trans (b:=BV (CV (Bc c E))) ⟨⟨rfl,rfl,rfl,rfl⟩,rfl,rfl,rfl,rfl,rfl,rfl,rfl,rfl,rfl,rfl⟩ ((Zhq K _).trans ⟨⟨rfl,rfl,rfl,rfl⟩,rfl,rfl,rfl,rfl,rfl,rfl,rfl,rfl,rfl,rfl⟩)))
theorem Gd.clear {K:Kf} {n:Int} {c:Cv} (g:Gd K n c):Gd K n (I2 c):=⟨g.way,g.pass,g.task,g.mo,g.m0⟩
theorem Qft {K:Kf} {n:Int} {c:Cv} (g:Gd K n c) (E:List Evn):Gd K n (A8 K c E):=g.clear.sm (Qez K c E)
theorem Zx5 {K:Kf} {n:Int} {c:Cv} (g:Gd K n c):Gd K n (Ig K c).2/\Kp c (Ig K c).2:=by
 have done:∀d:Cv,Gd K n d->Kp c d->Gd K n (HS d)/\Kp c (HS d):=fun d g k=>⟨⟨g.way,g.pass,fun h=>(by cases h),g.mo,g.m0⟩,k.trans ⟨rfl,rfl,rfl,rfl⟩⟩;have cmd:∀n' sp:Int,Gd K n (Ju c n' sp)/\Kp c (Ju c n' sp):=fun n' sp=>⟨⟨g.way,g.pass,g.task,g.mo,g.m0⟩,⟨rfl,rfl,rfl,rfl⟩⟩;unfold Ig;split
 ·split
  ·exact done c g Kp.rfl
  ·exact⟨g,Kp.rfl⟩
 ·split
  ·exact done c g Kp.rfl
  ·split
   ·split
    ·exact⟨g,Kp.rfl⟩
    ·exact done c g Kp.rfl
   ·split
    ·split
     ·exact done _ (cmd _ _).1 (cmd _ _).2
     ·exact cmd _ _
    ·split
     ·exact⟨⟨g.way,g.pass,g.task,g.mo,g.m0⟩,⟨rfl,rfl,rfl,rfl⟩⟩
     ·exact done c g Kp.rfl
theorem Qyu {K:Kf} {n:Int} {c:Cv} (g:Gd K n c):Gd K n (Bx K c).2/\Kp c (Bx K c).2:=by
 have h:=Zx5 (K:=K) (c:=C0 c) ⟨g.way,g.pass,g.task,g.mo,g.m0⟩;exact⟨h.1,h.2.way,h.2.aL,h.2.aK,h.2.outs⟩
theorem Q9o {K:Kf} {n:Int} {c:Cv} (g:Gd K n c) {i:Int} (h0:0<=i) (h1:i<K.p.aD.length):Gd K n (CY K c i).2/\Kp c (CY K c i).2:=by
 have h:=Qyu (K:=K) (c:={c with on:=true,idx:=i,aN:=Ea K c i,cnt:=0}) ⟨g.way,g.pass,fun _=>⟨h0,h1⟩,g.mo,g.m0⟩;exact⟨h.1,⟨h.2.way,h.2.aL,h.2.aK,h.2.outs⟩⟩
theorem NL {K:Kf} {n:Int} {c:Cv} (g:Gd K n c):Gd K n (Co c)/\Kp c (Co c):=by
 unfold Co;split
 ·exact⟨⟨g.way,g.pass,g.task,g.mo,g.m0⟩,⟨rfl,rfl,rfl,rfl⟩⟩
 ·exact⟨g,Kp.rfl⟩
theorem Zl4 (K:Kf) (c:Cv) (l:Int):Kp c (ED K c l):=⟨rfl,rfl,rfl,rfl⟩
theorem Gd.e0 {K:Kf} {n:Int} {c:Cv} (g:Gd K n c) (x:Int):Gd K n {c with e0:=x}:=⟨g.way,g.pass,g.task,g.mo,g.m0⟩
theorem Gd.s3 {K:Kf} {n:Int} {c:Cv} (g:Gd K n c) (x:Int):Gd K n {c with s3:=x}:=⟨g.way,g.pass,g.task,g.mo,g.m0⟩
theorem Q0n {K:Kf} {n:Int} {c:Cv} (h:KOK K) (g:Gd K n c) (hn:0<=n/\n<=10000) (l:Int) {s:Sgm} (hs:i64 s.lead):Gd K (n+1) (EK K c l s)/\Kp c (EK K c l s):=by
 have gp:=Qrf h g hn l;unfold EK;split
 ·exact⟨gp.s3 _,⟨rfl,rfl,rfl,rfl⟩⟩
 ·obtain⟨-,v,s',b,z,y,e,h2,h3⟩:=Qhc h g l hs;have gm:Gd K (n+1) (Ho c (thO K c l s.lead)):=by
   have e1:gA (thO K c l s.lead) 1=v:=by rw[h2];rfl
   have:=g.move h hn h3;unfold Ho Ss;rw[e1];generalize thO K c l s.lead=o;exact this.same rfl rfl rfl rfl rfl rfl rfl
  unfold HA;split
  ·exact⟨gp.e0 3,⟨rfl,rfl,rfl,rfl⟩⟩
  ·split
   ·exact⟨(NL gm).1,Kp.trans (b:=Ho c (thO K c l s.lead)) ⟨rfl,rfl,rfl,rfl⟩ (NL gm).2⟩
   ·exact⟨gm,⟨rfl,rfl,rfl,rfl⟩⟩
theorem Q9r {K:Kf} {n:Int} {c:Cv} (h:KOK K) (g:Gd K n c) (hn:0<=n/\n<=10000) (l:Int):Gd K (n+1) (EJ K c l)/\Kp c (EJ K c l):=by
 unfold EJ;split
 ·exact⟨Qrf h g hn l,Zl4 K c l⟩
 ·rename_i hx;have hl:(sgK K c).lead≠0:=fun e=>hx (.inl e);split
  ·exact Q0n h g hn l (FX h hl).2.2
  ·split
   ·have:=Q0n h (g.go (sgK K c)) hn l (FX h hl).2.2;exact⟨this.1,Kp.trans (b:=goC K c (sgK K c)) ⟨rfl,rfl,rfl,rfl⟩ this.2⟩
   ·split
    ·exact⟨(NL (g.up hn.1)).1,(NL g).2⟩
    ·exact⟨g.up hn.1,Kp.rfl⟩
theorem Zdg {K:Kf} {n:Int} {c:Cv} (h:KOK K) (g:Gd K n c) (hn:0<=n/\n<=10000):Gd K (n+1) (CH K c).2/\Kp c (CH K c).2:=by
 have hi:=Qbg K c;unfold CH;split
 ·split
  ·rename_i k;have k2:(AU K c).2<K.p.aD.length:=by
    rcases hi with hi|hi
    ·omega
    ·exact hi.2.2
   have gb:=Q9o (g.up hn.1) k k2;split
   ·exact⟨(NL gb.1).1,gb.2.trans (NL gb.1).2⟩
   ·exact gb
  ·split
   ·exact⟨⟨g.way,g.pass,g.task,(g.up hn.1).mo,(g.up hn.1).m0⟩,⟨rfl,rfl,rfl,rfl⟩⟩
   ·exact⟨g.up hn.1,Kp.rfl⟩
 ·exact Q9r h g hn _
theorem Qrc {K:Kf} {n:Int} {c:Cv} (h:KOK K) (g:Gd K n c) (hn:0<=n/\n<=10000):Gd K n (Cz K c).2/\Kp c (Cz K c).2:=by
 unfold Cz;split
 ·exact⟨(g.stand h hn).1,⟨rfl,rfl,rfl,rfl⟩⟩
 ·split
  ·exact⟨g,Kp.rfl⟩
  ·split
   ·exact⟨⟨g.way,g.pass,g.task,g.mo,g.m0⟩,⟨rfl,rfl,rfl,rfl⟩⟩
   ·split
    ·exact Qyu g
    ·exact⟨g,Kp.rfl⟩
theorem Qpw {K:Kf} {n:Int} {c:Cv} (h:KOK K) (g:Gd K n c) (hn:0<=n/\n<=10000) (E:List Evn):Gd K (n+1) (stC K c E).2/\Kp (I2 c) (stC K c E).2:=by
 have gr:=Qrc h (Qft g E) hn;have kp:=(Qez K c E).kp.trans gr.2;unfold stC;split
 ·have:=Zdg h gr.1 hn;exact⟨this.1,kp.trans this.2⟩
 ·exact⟨gr.1.up hn.1,kp⟩
theorem Qbl (K:Kf) (s:Int):∀(l:List Mrk) (c:Cv),c.aK<=(D9 K s l c).2.aK/\(D9 K s l c).2.aK<=c.aK+l.length
 |[],c=>by simp[D9]
 |m::l,c=>by
  unfold D9;split
  ·simp only[List.length_cons];omega
  ·split
   ·have:=Qbl K s l {c with outs:=swI c.outs (itK K m.item),aK:=c.aK+1};simp only[List.length_cons]at this⊢;omega
   ·have:=Qbl K s l {c with aK:=c.aK+1};simp only[List.length_cons]at this⊢;omega
theorem Q5c {K:Kf} {n:Int} {c:Cv} (h:KOK K) (g:Gd K n c) (hn:0<=n/\n<=10000) (E:List Evn):Gd K (n+1) (B4 K c E):=by
 have gs:=(Qpw h g hn E).1;unfold B4;generalize(stC K c E).2=d at*;obtain⟨n',q,e⟩:=NJ K d (A5 K d);have hb:=Qbl K (A5 K d) (K.p.aD.drop d.aK.toNat) d;rw[List.length_drop]at hb;have hb:d.aK<=(B_ K d (A5 K d)).2.aK/\(B_ K d (A5 K d)).2.aK<=d.aK+((K.p.aD.length-d.aK.toNat:Nat):Int):=hb;rw[e]at hb⊢;have hp:=gs.pass;exact⟨gs.way,by dsimp only at hb⊢;omega,gs.task,gs.mo,gs.m0⟩
theorem Ql {K:Kf} {c:Cv} {n:Int} (h:KOK K) (g:Gd K n c) (hn:0<=n/\n<=10000) {E:List Evn} (hE:NT E):
  Hm (.view kPt (E.map evR)::Ad K c)=some (tkC K c E++Ad K (B4 K c E)):=by
 have gp:=Qft g E;have gr:=Qrc h gp hn;have gs:=Qpw h g hn E;have hf: -300000000000<=Bl (Bc c E)/\Bl (Bc c E)<=300000000000:=Qs1 (g.clear.sm (Q1h c E)) (by omega);refine Zt7 (Zkv hE Zux) (Zo7 h) Zni (QA K) Zf4 fun o ho=> ?_;refine Z0m (s:=stC K c E) ho (Zzc _ (Zkw K _) (Zyo K _) (Zoo K _) (Zta h gp) (Zov gp.way)) (fun _=>Zle h gr.1 hn) rfl ?_;exact Zr2 h gs.1 (by omega) gs.2.aL hf
end Go.Bm
noncomputable section
namespace Go.Bm
theorem Zod (a b c:Int) {d:Int} (h:d<=0):Gq [I a,I b,I c,I d]=some [I 0]:=by
 show SW _=_;rw[Y7,BO (decide_eq_true h)]
theorem Zqv {a b c:Int} (h:Plan3 a b c):Gc [I a,I b,I c,I 0,I 0]=some [B true]:=by
 have key:∀{M:Fn},(∀d:Int,d<=0->M [I a,I b,I c,I d]=some [I 0])->P4 M [I a,I b,I c,I 0,I 0]=some [B true]:=by
  intro M hM;have ha:=h.a;have hb:=h.b
  rw[Qbt,Ae (x:=0-a) (by omega)];refine eF (decide_eq_false (by omega)) (eF (decide_eq_false (by omega)) (eT rfl (eF (decide_eq_false (by omega)) ?_)));refine eB (hM _ (by decide)) (eT rfl (eB (hM 0 (by omega)) ?_));rfl
 exact key fun d hd=>Zod a b c hd
theorem Zy6 {a b c:Int} (h:Plan3 a b c):Jv [I a,I b,I c,I 0,I 0]=some [.view Aa [],B true]:=by
 have key:∀{MB MR MV:Fn},MV [I a,I b,I c]=some [B true]->MR [I a,I b,I c,I 0,I 0]=some [B true]->OP MB MR MV (An (Ie MB MR MV)) [I a,I b,I c,I 0,I 0]=some [.view Aa [],B true]:=by
  intro MB MR MV h1 h2;rw[Qmh];refine eB h1 (eF rfl (eB h2 (eF rfl ?_)));have hs:Ie MB MR MV [.view Aa [],I 0,I 0,I a,I b,I c]=some (2,[.view Aa []]):=by
   rw[OU];rfl
  exact eB (A_ hs (by simp)) rfl
 refine key ?_ (Zqv h);rw[PE,decide_eq_true];exact⟨h.a.1,h.a.2,h.b.1,h.b.2,h.c.1,h.c.2⟩
theorem Zpq {a b c:Int} (h:Plan3 a b c) (x3 x6 x7 x8:Int):EE [I a,I b,I c,I x3,I 0,I 0,I x6,I x7,I x8]=some [.view Aa [],B true]:=by
 have key:∀{M:Fn},M [I a,I b,I c,I 0,I 0]=some [.view Aa [],B true]->L5 M (An (G5 M)) [I a,I b,I c,I x3,I 0,I 0,I x6,I x7,I x8]=some [.view Aa [],B true]:=by
  intro M h1;rw[Sd];have hs:G5 M [.view Aa [],I x3, .view Aa [],I 0,I 0]=some (1,[.view Aa []]):=by
   rw[ZX];rfl
  exact eB h1 (eF rfl (eT rfl (eT rfl (eB (A_ hs (by simp)) rfl))))
 exact key (Zy6 h)
theorem Zok {K:Kf} (h:Plan3 K.pa K.pb K.pc) {c:Cv} (h1:c.m1=0) (h2:c.m2=0):L2 K c=c.m0:=by
 have key:∀{M:Fn},M [I K.pa,I K.pb,I K.pc,I c.m0,I 0,I 0,I c.m3,I c.m4,I c.m5]=some [.view Aa [],B true]->LJ M [I K.pa,I K.pb,I K.pc,I c.m0,I 0,I 0,I c.m3,I c.m4,I c.m5]=some [I c.m0,B true]:=by
  intro M hM;rw[S3];exact eB hM (eF rfl (eT rfl rfl))
 have e:Fm [I K.pa,I K.pb,I K.pc,I c.m0,I 0,I 0,I c.m3,I c.m4,I c.m5]=some [I c.m0,B true]:=key (Zpq h _ _ _ _);unfold L2 one;rw[h1,h2,e];rfl
abbrev Sa:Axs:=⟨8,10,10,10,-16777216,16777216,0,0,0,[]⟩
theorem XU:AxOK Sa:=⟨by decide,by decide,by decide,fun h=>absurd rfl h,⟨fun x h=>(by cases h),fun i h=>(by simp at h)⟩,by decide,by decide⟩
abbrev KB:Ax3:=⟨Sa,Sa,Sa⟩
theorem machX:MachOK KB 9 3 100 1 0:=⟨⟨XU,XU,XU⟩,⟨by decide,by decide,by decide⟩,by decide,by decide⟩
abbrev B3:Itm:=⟨12,0,⟨0,0,0⟩,⟨0,0,0⟩,0,⟨0,0,0⟩,0,false,0,false,0,0,0,0,0,false⟩
theorem Q48:Items 4084 ⟨0,0,0⟩ []:=⟨trivial,fun it h=>by cases h⟩
theorem Z15:Items 4084 ⟨0,0,0⟩ [B3]:=by
 have h:=Ol Q48 (it:=B3) (fun h=>by unfold AB at h;simp at h) (.inr ⟨by decide,fun h=>by simp at h,fun h=>by simp at h,fun h=>by simp at h⟩);exact h
abbrev kX (l:List Itm):Kf:=kfP KB 9 3 100 1 0 l true
theorem Qij {l:List Itm} (h:(AP l).aF=[]) (c:Cv):IN (kX l) c=false:=by
 unfold IN FE;rw[h];rfl
theorem gd0 (l:List Itm):Gd (kX l) 0 BM:=⟨rfl,⟨by decide,by simp⟩,fun h=>(by cases h),Rx machX.plan,by decide⟩
theorem Qeu:AP []=⟨⟨0,0,0⟩,[],[]⟩:=rfl
theorem Q3:AP [B3]=⟨⟨0,0,0⟩,[],[⟨0,3,0⟩]⟩:=by
 have e:Au [B3] 1=⟨[],[⟨0,3,0⟩],0,0,-1,false,⟨0,0,0⟩,⟨0,0,0⟩⟩:=by
  rw[Au,Au];unfold DB;rw[if_neg (by decide)];rfl
 show Pth.mk (Au [B3] 1).start (Au [B3] 1).aF (Au [B3] 1).aD=_;rw[e]
theorem Qw4 {p:Pth} (h:p.aF=[]):Ej p KB ⟨1,1,1⟩ 0 (AA p.aF)=⟨[],0,0,⟨1,1,1⟩⟩:=by
 unfold Ej;rw[h];rfl
theorem kX0:kX []=⟨KB,9,3,100,1,0,[],true,⟨⟨0,0,0⟩,[],[]⟩,0,IU [],⟨[],0,0,⟨1,1,1⟩⟩⟩:=by
 show Kf.mk _ _ _ _ _ _ _ _ _ _ _ _=_;rw[Qw4 (p:=AP []) (by rw[Qeu]),Qeu];rfl
theorem kX1:kX [B3]=⟨KB,9,3,100,1,0,[B3],true,⟨⟨0,0,0⟩,[],[⟨0,3,0⟩]⟩,0,IU [B3],⟨[],0,0,⟨1,1,1⟩⟩⟩:=by
 show Kf.mk _ _ _ _ _ _ _ _ _ _ _ _=_;rw[Qw4 (p:=AP [B3]) (by rw[Q3]),Q3];rfl
abbrev IS:Cv:={BM with aM:=true}
theorem Q4w {K:Kf} (ht:∀c,IN K c=false) (hr:K.ramp=1):A8 K BM []=IS:=by
 show JY (Di K (BV (CV BM)))=_;unfold Di;rw[if_neg (by rw[ht];simp),hr];rfl
theorem Zlp:(stC (kX []) BM []).1=7:=by
 have e:=Q4w (Qij (l:=[]) (by rw[Qeu])) rfl;have er:Cz (kX []) IS=(0,IS):=rfl;unfold stC;rw[e,er,if_pos rfl];have el:AU (kX []) IS=(0,-1):=by
  rw[kX0];unfold AU BD;rfl
 unfold CH;rw[el];rfl
abbrev JR:Cv:={IS with on:=true,idx:=0,aN:=true,cnt:=1}
theorem st1:stC (kX [B3]) BM []=(2,JR):=by
 have e:=Q4w (Qij (l:=[B3]) (by rw[Q3])) rfl;have er:Cz (kX [B3]) IS=(0,IS):=rfl;unfold stC;rw[e,er,if_pos rfl];have el:AU (kX [B3]) IS=(0,0):=by
  have e2:=Zok (K:=kX [B3]) machX.plan (c:=IS) rfl rfl;unfold AU;rw[e2,kX1];rfl
 unfold CH;rw[el,kX1];rfl
theorem Qy2:B4 (kX [B3]) BM []=JR:=by
 unfold B4;rw[st1,kX1];rfl
theorem Ziv:(stC (kX [B3]) JR [⟨0,4,0⟩]).1=3:=by
 have ht:=Qij (l:=[B3]) (by rw[Q3]);have e:A8 (kX [B3]) JR [⟨0,4,0⟩]=JY (spS (BV (CV (Bc JR [⟨0,4,0⟩]))) 1):=by
  unfold A8 Di;rw[if_neg (by rw[ht];simp)]
 unfold stC;rw[e,kX1];rfl
theorem Q5p (K:Kf) (c:Cv) (E:List Evn) (l:List AC):gA (tkC K c E++l) 2=(stC K c E).1:=rfl
theorem Q7f:NT []:=⟨by simp,fun e h=>by cases h⟩
theorem Zwm {MS MN:Fn}
  (h0:MN (AO KB++[I 9,I 3,I 100,I 1,I 0]++[.view Ai (([]:List Itm).map Ag),B true])=some (I 0::Ad (kX []) BM))
  (h1:MN (AO KB++[I 9,I 3,I 100,I 1,I 0]++[.view Ai ([B3].map Ag),B true])=some (I 0::Ad (kX [B3]) BM))
  (hs0:∃l,MS (.view kPt (([]:List Evn).map evR)::Ad (kX []) BM)=some l/\gA l 2=7)
  (hs1:∃l,MS (.view kPt (([]:List Evn).map evR)::Ad (kX [B3]) BM)=some (l++Ad (kX [B3]) JR)/\l.length=9/\gA l 2=2)
  (hs2:∃l,MS (.view kPt ([(⟨0,4,0⟩:Evn)].map evR)::Ad (kX [B3]) JR)=some l/\gA l 2=3):
  Qe0 MS MN []=some [B true]:=by
 rw[Zz4];obtain⟨l0,s0,m0⟩:=hs0;obtain⟨l1,s1,n1,m1⟩:=hs1;obtain⟨l2,s2,m2⟩:=hs2
 match l1,n1 with
 |[a0,a1,a2,a3,a4,a5,a6,a7,a8],_=>
  refine eB h0 (eB h1 (eF rfl (eF rfl (eB s0 (eT (beT m0) (eB s1 (eT (beT m1) (eB s2 ?_))))))));rw[m2];rfl
theorem Qyz:KC []=some [B true]:=by
 have n0:=Uj machX (aA:=[]) (by simp) Q48 true;have n1:=Uj machX (aA:=[B3]) (by simp) Z15 true;have z0:=Ql n0.2 (gd0 []) (by omega) Q7f;have z1:=Ql n1.2 (gd0 [B3]) (by omega) Q7f;have g1:Gd (kX [B3]) 1 JR:=by
  have:=Q5c n1.2 (gd0 [B3]) (by omega) [];rw[Qy2]at this;exact this
 have z2:=Ql n1.2 g1 (by omega) (E:=[⟨0,4,0⟩]) ⟨by simp,fun e h=>by simp at h;subst h;simp⟩;rw[Qy2]at z1;exact Zwm n0.1 n1.1 ⟨_,z0,(Q5p _ _ _ _).trans Zlp⟩ ⟨_,z1,rfl,by show(stC (kX [B3]) BM []).1=2;rw[st1]⟩ ⟨_,z2,(Q5p _ _ _ _).trans Ziv⟩
end Go.Bm
noncomputable section
namespace Go.Bm
theorem Zg5 (K:Kf) (c:Cv) (E:List Evn):A5 K (B4 K c E)=A5 K (stC K c E).2/\My K (B4 K c E)=My K (stC K c E).2/\(B4 K c E).g0=(stC K c E).2.g0/\(B4 K c E).g1=(stC K c E).2.g1/\(B4 K c E).m0=(stC K c E).2.m0:=by
 unfold B4;obtain⟨n,q,e⟩:=NJ K (stC K c E).2 (A5 K (stC K c E).2);rw[e];exact⟨rfl,rfl,rfl,rfl,rfl⟩
structure Tk (K : Kf) (o : List AC) (c : Cv) (s : Int) (m : Pt) : Prop where
 ex:∃(pul outs:Rw) (mode sp ft:Int),o=Ma pul outs mode s m sp ft++Ad K c
theorem gdK {K:Kf} (h:KOK K):Gd K 0 BM:=⟨rfl,⟨by decide,by simp⟩,fun h=>(by cases h),Rx h.plan,by decide⟩
end Go.Bm
noncomputable section
namespace Go.Bm
structure Cm (c : Cv) : Prop where
 on:c.on=true->c.m1=0
 aI:c.aI≠0->c.m1=0
 aH:c.aH=false
structure Mt (c d : Cv) : Prop where
 m0:d.m0=c.m0
 m1:d.m1=c.m1
 m2:d.m2=c.m2
 aH:d.aH=c.aH
 g0:d.g0=c.g0
 g1:d.g1=c.g1
 g2:d.g2=c.g2
 o2:d.o2=c.o2
theorem Mt.rfl {c:Cv}:Mt c c:=⟨Eq.refl _,Eq.refl _,Eq.refl _,Eq.refl _,Eq.refl _,Eq.refl _,Eq.refl _,Eq.refl _⟩
theorem Mt.trans {a b c:Cv} (h:Mt a b) (g:Mt b c):Mt a c:=
 ⟨g.m0.trans h.m0,g.m1.trans h.m1,g.m2.trans h.m2,g.aH.trans h.aH,g.g0.trans h.g0,g.g1.trans h.g1,g.g2.trans h.g2,g.o2.trans h.o2⟩
theorem Mt.cm {c d:Cv} (h:Mt c d) (h1:c.m1=0) (ht:c.aH=false):Cm d:=
 ⟨fun _=>h.m1.trans h1,fun _=>h.m1.trans h1,h.aH.trans ht⟩
theorem Zsx (K:Kf) (c:Cv):Mt c (Ig K c).2:=by
 have done:∀d:Cv,Mt c d->Mt c (HS d):=fun d k=>k.trans ⟨rfl,rfl,rfl,rfl,rfl,rfl,rfl,rfl⟩;have cmd:∀n' sp:Int,Mt c (Ju c n' sp):=fun n' sp=>⟨rfl,rfl,rfl,rfl,rfl,rfl,rfl,rfl⟩;unfold Ig;split
 ·split
  ·exact done c Mt.rfl
  ·exact Mt.rfl
 ·split
  ·exact done c Mt.rfl
  ·split
   ·split
    ·exact Mt.rfl
    ·exact done c Mt.rfl
   ·split
    ·split
     ·exact done _ (cmd _ _)
     ·exact cmd _ _
    ·split
     ·exact⟨rfl,rfl,rfl,rfl,rfl,rfl,rfl,rfl⟩
     ·exact done c Mt.rfl
theorem Sn (K:Kf) (c:Cv):Mt c (Bx K c).2:=Mt.trans (b:=C0 c) ⟨rfl,rfl,rfl,rfl,rfl,rfl,rfl,rfl⟩ (Zsx K _)
theorem Qnb (K:Kf) (c:Cv) (i:Int):Mt c (CY K c i).2:=Mt.trans (b:={c with on:=true,idx:=i,aN:=Ea K c i,cnt:=0}) ⟨rfl,rfl,rfl,rfl,rfl,rfl,rfl,rfl⟩ (Sn K _)
structure Os (c d : Cv) : Prop where
 on:d.on=c.on
 aI:d.aI=c.aI
 aH:d.aH=c.aH
 gu:(d.g0=c.g0/\d.g1=c.g1/\d.g2=c.g2)\/(c.g0=0/\d.g0=1/\d.g1=18)
theorem Os.trans {a b c:Cv} (h:Os a b) (g:Os b c):Os a c:=by
 refine⟨g.on.trans h.on,g.aI.trans h.aI,g.aH.trans h.aH,?_⟩;rcases h.gu with⟨h0,h1,h2⟩|⟨h0,h1,h2⟩<;>rcases g.gu with⟨k0,k1,k2⟩|⟨k0,k1,k2⟩
 ·exact .inl ⟨k0.trans h0,k1.trans h1,k2.trans h2⟩
 ·exact .inr ⟨h0.symm.trans k0,k1,k2⟩
 ·exact .inr ⟨h0,k0.trans h1,k1.trans h2⟩
 ·omega
theorem VK (c:Cv):Os c (Co c):=by
 unfold Co;split
 ·rename_i h;exact⟨rfl,rfl,rfl, .inr ⟨h,rfl,rfl⟩⟩
 ·exact⟨rfl,rfl,rfl, .inl ⟨rfl,rfl,rfl⟩⟩
theorem Qey (K:Kf) (c:Cv) (l:Int):Os c (ED K c l):=⟨rfl,rfl,rfl, .inl ⟨rfl,rfl,rfl⟩⟩
theorem Qv8 (c:Cv) (o:List AC):Os c (Ho c o):=⟨rfl,rfl,rfl, .inl ⟨rfl,rfl,rfl⟩⟩
theorem Qpk (K:Kf) (c:Cv) (l:Int) (s:Sgm):Os c (EK K c l s):=by
 unfold EK;split
 ·exact(Qey K c l).trans ⟨rfl,rfl,rfl, .inl ⟨rfl,rfl,rfl⟩⟩
 ·unfold HA;split
  ·exact(Qey K c l).trans ⟨rfl,rfl,rfl, .inl ⟨rfl,rfl,rfl⟩⟩
  ·split
   ·exact(Qv8 c _).trans (VK _)
   ·exact Qv8 c _
theorem Zl2 (K:Kf) (c:Cv) (l:Int):Os c (EJ K c l):=by
 unfold EJ;split
 ·exact Qey K c l
 ·split
  ·exact Qpk K c l _
  ·split
   ·exact Os.trans (b:=goC K c (sgK K c)) ⟨rfl,rfl,rfl, .inl ⟨rfl,rfl,rfl⟩⟩ (Qpk K _ l _)
   ·split
    ·exact VK c
    ·exact⟨rfl,rfl,rfl, .inl ⟨rfl,rfl,rfl⟩⟩
def Gg (c:Cv):Prop:=(c.g0=0/\c.g1=0/\c.g2= -1)\/(c.g0=1/\c.g1=18)
theorem Os.gg {c d:Cv} (h:Os c d) (g:Gg c):Gg d:=by
 rcases h.gu with⟨h0,h1,h2⟩|⟨h0,h1,h2⟩
 ·unfold Gg;rw[h0,h1,h2];exact g
 ·exact .inr ⟨h1,h2⟩
theorem Mt.gg {c d:Cv} (h:Mt c d) (g:Gg c):Gg d:=by unfold Gg;rw[h.g0,h.g1,h.g2];exact g
theorem Os.cm {c d:Cv} (h:Os c d) (h1:c.on=false) (h2:c.aI=0) (ht:c.aH=false):Cm d:=
 ⟨fun e=>(by rw[h.on,h1]at e;cases e),fun e=>absurd (h.aI.trans h2) e,h.aH.trans ht⟩
theorem Zv5 (K:Kf) {c:Cv} (hs:c.aM=true->c.m1=0) (h1:c.on=false) (h2:c.aI=0) (ht:c.aH=false):Cm (CH K c).2/\(Gg c->Gg (CH K c).2):=by
 unfold CH;split
 ·rename_i h;have m:=hs h.1;split
  ·split
   ·have b:=Qnb K c (AU K c).2;have f:=VK (CY K c (AU K c).2).2;refine⟨?_,fun g=>f.gg (b.gg g)⟩;have e:(Co (CY K c (AU K c).2).2).m1=0:=by
     unfold Co;split
     ·exact b.m1.trans m
     ·exact b.m1.trans m
    exact⟨fun _=>e,fun _=>e,f.aH.trans (b.aH.trans ht)⟩
   ·have b:=Qnb K c (AU K c).2;exact⟨b.cm m ht,b.gg⟩
  ·split
   ·exact⟨⟨fun _=>m,fun _=>m,ht⟩,id⟩
   ·exact⟨⟨fun _=>m,fun _=>m,ht⟩,id⟩
 ·have o:=Zl2 K c (AU K c).1;exact⟨o.cm h1 h2 ht,o.gg⟩
theorem Zeo (K:Kf) (c:Cv) (E:List Evn):(A8 K c E).aM=true->(A8 K c E).m1=0:=by
 unfold A8 JY;generalize Di K (BV (CV (Bc c E)))=d;intro h;have h:Fl d=true:=h;unfold Fl at h;rw[Bool.and_eq_true]at h;exact eq_of_beq h.1
theorem Q83 {K:Kf} {c:Cv} (h:Cm c) (E:List Evn):Cm (A8 K c E):=by
 have s:=Qez K c E;exact⟨fun e=>s.m1.trans (h.on (s.on.symm.trans e)),fun e=>s.m1.trans (h.aI fun q=>e (s.aI.trans q)),s.aH.trans h.aH⟩
theorem Zlx {K:Kf} {c:Cv} (h:Cm c) (E:List Evn):Cm (stC K c E).2/\(Gg (A8 K c E)->Gg (stC K c E).2):=by
 have hp:=Q83 (K:=K) h E;have hs:=Zeo K c E;unfold stC;generalize A8 K c E=d at*;unfold Cz;by_cases c1:d.g0=2
 ·rw[if_pos c1,if_neg (by simp)];exact⟨⟨fun _=>rfl,fun _=>rfl,hp.aH⟩,id⟩
 ·rw[if_neg c1];by_cases c2:d.aI≠0
  ·rw[if_pos c2,if_neg c2];exact⟨hp,id⟩
  ·rw[if_neg c2,if_neg (show¬(d.aH=true/\d.aM=true)from fun w=>by have:=w.1;rw[hp.aH]at this;cases this)];by_cases c3:d.on=true
   ·rw[if_pos c3,if_neg (show¬(Bx K d).1=0 from Q36 K _)];exact⟨(Sn K d).cm (hp.on c3) hp.aH,(Sn K d).gg⟩
   ·rw[if_neg c3,if_pos rfl];exact Zv5 K hs (by simpa using c3) (Decidable.not_not.1 c2) hp.aH
theorem Z0i {K:Kf} {c:Cv} (h:Cm c) (E:List Evn):Cm (B4 K c E)/\(Gg (A8 K c E)->Gg (B4 K c E)):=by
 have hs:=Zlx (K:=K) h E;unfold B4;generalize(stC K c E).2=d at*;obtain⟨n,q,e⟩:=NJ K d (A5 K d);rw[e];exact⟨⟨hs.1.on,hs.1.aI,hs.1.aH⟩,hs.2⟩
theorem Za5 {c:Cv} {k n:Int} (hk:k<=6):(evC c k n).g0=c.g0/\(evC c k n).g1=c.g1/\(evC c k n).g2=c.g2:=by
 have hs:G7 k n=false:=by
  unfold G7;rw[beF (show k≠9 by omega),beF (show k≠8 by omega)];rfl
 refine⟨?_,?_,?_⟩
 ·show(if k=10 then 2 else if k=11 then 0 else if G7 k n=true then(if c.g0=2 then 2 else 1)else c.g0)=_;rw[if_neg (by omega),if_neg (by omega),if_neg (by rw[hs];simp)]
 ·show(if k=10 then 22 else if k=11 then 0 else if G7 k n=true/\c.g0≠2/\c.g1=0 then(if k=9 then 21 else 20)else c.g1)=_;rw[if_neg (by omega),if_neg (by omega),if_neg (by rw[hs];simp)]
 ·show(if k=10 then-1 else if k=11 then-1 else if G7 k n=true/\c.g0≠2/\c.g1=0 then(if k=9 then-1 else n)else c.g2)=_;rw[if_neg (by omega),if_neg (by omega),if_neg (by rw[hs];simp)]
theorem Qwu:∀(E:List Evn) (c:Cv),(∀e∈E,e.kind<=6)->(E.foldl (fun c e=>evC c e.kind e.n) c).g0=c.g0/\(E.foldl (fun c e=>evC c e.kind e.n) c).g1=c.g1/\(E.foldl (fun c e=>evC c e.kind e.n) c).g2=c.g2
 |[],c,_=>⟨rfl,rfl,rfl⟩
 |e::E,c,hk=>by
  have h:=Qwu E (evC c e.kind e.n) fun x hx=>hk x (by simp[hx]);have g:=Za5 (c:=c) (k:=e.kind) (n:=e.n) (hk e (by simp));exact⟨h.1.trans g.1,h.2.1.trans g.2.1,h.2.2.trans g.2.2⟩
theorem Zu5 (K:Kf) (c:Cv) (E:List Evn):(A8 K c E).g0=(Bc c E).g0/\(A8 K c E).g1=(Bc c E).g1/\(A8 K c E).g2=(Bc c E).g2/\((Bc c E).g0≠0->(A8 K c E).o2=true):=by
 unfold A8;generalize Bc c E=d;have h1:(CV d).g0=d.g0/\(CV d).g1=d.g1/\(CV d).g2=d.g2/\(d.g0≠0->(CV d).o2=true):=by
  unfold CV;split
  ·exact⟨rfl,rfl,rfl,fun _=>rfl⟩
  ·rename_i h;exact⟨rfl,rfl,rfl,fun e=>absurd (.inr e) h⟩
 have h2:∀d:Cv,(Di K d).g0=d.g0/\(Di K d).g1=d.g1/\(Di K d).g2=d.g2/\(Di K d).o2=d.o2:=fun d=>by
  unfold Di;split
  ·exact⟨rfl,rfl,rfl,rfl⟩
  ·exact⟨rfl,rfl,rfl,rfl⟩
 have h3:=h2 (BV (CV d));exact⟨h3.1.trans h1.1,h3.2.1.trans h1.2.1,h3.2.2.1.trans h1.2.2.1,fun e=>h3.2.2.2.trans (h1.2.2.2 e)⟩
theorem Zht {K:Kf} {c:Cv} {E:List Evn} (hk:∀e∈E,e.kind<=6) (h:Gg c):Gg (A8 K c E):=by
 have g:=Zu5 K c E;have f:=Qwu E (I2 c) hk;unfold Gg;rw[g.1,g.2.1,g.2.2.1];unfold Bc;rw[f.1,f.2.1,f.2.2];exact h
def Sp (c:Cv):Prop:=c.g0=1/\c.g1=21/\c.g2= -1/\c.o2=true
theorem cm0:Cm BM:=⟨fun h=>(by cases h),fun _=>rfl,rfl⟩
end Go.Bm
noncomputable section
namespace Go.Bm
theorem Ztg {a k c v x:Int} (hp:Plan3 a k c) (hr:Cq a k v x) (c0:v<=0):AD a k v x=0:=by
 have hc:=closed hp hr;have hrg:=E3 hp hc.1;have hv:v=0:=by have:=E3 hp hr;omega
 obtain⟨B,hB⟩:∃B,B=bs k v 20 (-x-k) (min (k-x) a):=⟨_,rfl⟩;obtain⟨q1,q2,q3,q4,q5,q6⟩:=Qnq hp hr hB;have:=JS (k:=k) (b:=B) (by have:=hp.b;omega);have hx:=hr.2.2.2.2 hv;have ha:=hp.a;have e:AD a k v x= -B:=by unfold AD;rw[hB]
 rw[e];rcases q5 with q5|q5
 ·omega
 ·by_cases hn:B+1<=0
  ·rw[IT hn]at q5;omega
  ·omega
def stL (K:Kf) (c:Cv):List Int:=(AG K.pa K.pb c.m1 c.m2).1
theorem Qqs {K:Kf} (h:Plan3 K.pa K.pb K.pc) {c:Cv} (hz:Mo K c) (h1:c.m1<=0):stL K c=[]:=by
 unfold stL;rw[(S_ h hz).2,if_pos h1]
theorem Mm {K:Kf} {c d:Cv} (h1:d.m1=c.m1) (h2:d.m2=c.m2):stL K d=stL K c:=by unfold stL;rw[h1,h2]
def Nx (K:Kf) (c e:Cv):Prop:=(stL K c=[]/\stL K e=[]/\e.m0=c.m0)\/(stL K c=e.m1::stL K e/\e.m0=c.m0+e.m1)
theorem Nx.still {K:Kf} (hp:Plan3 K.pa K.pb K.pc) {c e:Cv} (hz:Mo K c) (h:c.m1=0) (m:Mt c e):Nx K c e:=by
 have h0:=Qqs hp hz (by omega);exact .inl ⟨h0,(Mm m.m1 m.m2).trans h0,m.m0⟩
theorem Sp.mt {c d:Cv} (h:Sp c) (m:Mt c d):Sp d:=⟨m.g0.trans h.1,m.g1.trans h.2.1,m.g2.trans h.2.2.1,m.o2.trans h.2.2.2⟩
theorem Zbb {a k c:Int} (hp:Plan3 a k c) {u:Int} (hu: -1000000000000000<=u/\u<=1000000000000000) {v x:Int} (hz:(AG a k v x).2=true) (x6 x7 x8:Int):
  Fm [I a,I k,I c,I u,I v,I x,I x6,I x7,I x8]=some [I (B6 u (AG a k v x).1),B true]:=by
 have key:∀{M:Fn},M [I a,I k,I c,I u,I v,I x,I x6,I x7,I x8]=some [.view Aa ((Bw u (AG a k v x).1).map Ap),B (AG a k v x).2]->LJ M [I a,I k,I c,I u,I v,I x,I x6,I x7,I x8]=some [I (B6 u (AG a k v x).1),B true]:=by
  intro M hM;have hb:=P8 hp v x;rw[hz]at hM;rw[S3];generalize(AG a k v x).1=l at*;refine eB hM (eF rfl ?_);show cond ((((Bw u l).map Ap).length:Int)==0) _ (cond (decide (0<=wrap .i64 ((((Bw u l).map Ap).length:Int)-1))&&decide (wrap .i64 ((((Bw u l).map Ap).length:Int)-1)<(((Bw u l).map Ap).length:Int))) (some [I (Af (nth .dead (nth [] ((Bw u l).map Ap) (wrap .i64 ((((Bw u l).map Ap).length:Int)-1)).toNat) 0)),B true]) none)=_;have el:((Bw u l).map Ap).length=l.length:=by rw[List.length_map,Kk]
  rw[el];refine eC (fun e=> ?_) fun e=> ?_
  ·have e:(l.length:Int)=0:=eq_of_beq e;have:l=[]:=List.length_eq_zero_iff.1 (by omega);subst this;rfl
  ·have e:(l.length:Int)≠0:=by simpa using e
   rw[Ae (x:=(l.length:Int)-1) (by omega)];refine eT (by simp;omega) ?_;have hl:=YM u l (by intro q;rw[q]at e;simp at e);rw[Kk]at hl;have en:((l.length:Int)-1).toNat=l.length-1:=by omega
   have er:nth [] ((Bw u l).map Ap) (l.length-1)=Ap (B6 u l):=by
    rw[BG,List.getD,List.getElem?_map,hl];rfl
   rw[en,er];rfl
 exact key (Qsx hp hu v x x6 x7 x8)
end Go.Bm
