/- laid together -/
import Derived.Test.YtnnpdlgenmnekaaGreatPrPd
import Derived.Test.YtnnpdlgenmnekaaGreatPrTf
import Derived.Test.YtnnpdlgenmnekaaGreatMx2
import Derived.Test.YtnnpdlgenmnekaaGreatMy1
import Derived.Test.YtnnpdlgenmnekaaGreatPrV
set_option linter.unusedVariables false
set_option linter.unusedSimpArgs false
set_option maxRecDepth 100000
open Go.IntKind (wrap)
variable {i A j:Nat} {a b q g:Go.Bm.Pt} {p:Go.Bm.Pth} {M Z Y W V T S Q:Go.Bm.Fn} {k u v r d y h m:Int} {l o:Go.Bm.Rw} {K:Go.Bm.Kf} {N:Go.Bm.Lp} {E:Prop} {L H:List Go.Bm.Itm} {D:Go.Bm.Itm}
namespace Go.Bm
open Classical
theorem Zdq (a:Pt) (aF:List Sgm):aF=[]\/∃l g,aF=l++[g]/\EB a aF=g.to/\((aF.length:Int)>0)/\nth [] (aF.map Ax) (aF.length-1)=Ax g:=by
 rcases List.eq_nil_or_concat aF with h|⟨l,g,h⟩
 ·exact .inl h
 ·right;rw[List.concat_eq_append]at h;refine⟨l,g,h,?_,?_,?_⟩
  ·rw[h];exact Qb g a l
  ·rw[h];simp
  ·have D:aF.length-1<aF.length:=by rw[h];simp
   rw[DF _ _ _ _ D];congr 1;subst h;simp
theorem Ze9:
  Qt M [.vC Af [], .vC Av l,I q.x,I q.y,I q.z,I g.x,I g.y,I g.z,I k,I u,I v,I r,I a.x,I a.y,I a.z,B false,I d,I y,I h]=
   some [.vC Af [], .vC Av l,I q.x,I q.y,I q.z,B true,I d,I y,I h]:=by
 rw[Qzl];simp
theorem Q8b {aF:List Sgm} (E:EB a aF=b)
  (L:M [I b.x,I b.y,I b.z,I q.x,I q.y,I q.z]=some [I (Au b q)]) (Y:0<=Au b q/\Au b q<=268435456) (hs:aF.length+1<=1048577) (hlen:0<=d/\d<=4000000000000000000):
  Qt M [.vC Af (aF.map Ax), .vC Av o,I q.x,I q.y,I q.z,I g.x,I g.y,I g.z,I k,I u,I v,I r,I a.x,I a.y,I a.z,B true,I d,I y,I m]=
   some [.vC Af ((AV u v r (aF,d,b) q).1.map Ax), .vC Av o,I a.x,I a.y,I a.z,B true,I (AV u v r (aF,d,b) q).2.1,I y,I m]:=by
 have G:(aF.map Ax++[[I q.x,I q.y,I q.z,I (Au b q),I u,I v,I r]])=(aF++[(⟨q,Au b q,u,v,r⟩:Sgm)]).map Ax:=by rw[bh];rfl
 rw[Qzl];try dsimp only[go_sem]
 rcases Zdq a aF with h|⟨l,s,T,N,U,V⟩
 ·subst h;have J:a=b:=E;subst J;simp only[cm,bm];rw[AM (by decide),i9,ao];by_cases c:q=a
  ·have D:=BU.1 c;rw[Dv (by simp[D.1,D.2.1,D.2.2]),show AV u v r ([],d,a) q=([],d,a)from aa c];rfl
  ·rw[Es,L]
   ·simp only[ak,E0,ER,gA,jA,wA,bA,ay,bf,bm];rw[Dv (by decide),show AV u v r ([],d,a) q=([⟨q,Au a q,u,v,r⟩],d+Au a q,q)from ab c,Ae];rfl
   ·have c2: ¬(q.x=a.x/\q.y=a.y/\q.z=a.z):=λg=>c (BU.2 g);simp only[Bool.and_true,Bool.and_eq_false_iff,beq_eq_false_iff_ne];omega
 ·rw[E]at N;have X:O ((aF.length:Int)-1)=((aF.length-1:Nat):Int):=by rw[Ae];omega
  have S:(0:Int)<=((aF.length-1:Nat):Int)/\((aF.length-1:Nat):Int)<(aF.length:Int):=by omega
  rw[N]at L G⊢;clear T;simp only[go_sem,af,X,ag,V,aa U,aa S,L,am,bf,bm];rw[ab (by simp)];by_cases c:q=s.to
  ·have D:=BU.1 c;rw[aa ⟨D.1,D.2.1,D.2.2,trivial⟩,show AV u v r (aF,d,s.to) q=(aF,d,s.to)from aa c]
  ·rw[ab (λg=>c (BU.2 ⟨g.1,g.2.1,g.2.2.1⟩)),aa,show AV u v r (aF,d,s.to) q=(aF++[⟨q,Au s.to q,u,v,r⟩],d+Au s.to q,q)from ab c,Ae (by rw[<-N]at*;omega),G]
noncomputable def Ds (it:Itm) (aU aZ aX:Int) (s:(List Sgm×Int×Pt)×Int) (q:Pt):(List Sgm×Int×Pt)×Int:=
 (AV aU aZ aX s.1 q,if smI it/\q=AY it then(AV aU aZ aX s.1 q).2.1 else s.2)
theorem Qhr {it:Itm} {aU aZ aX:Int}:∀(D:List Pt) (s:(List Sgm×Int×Pt)×Int),(D.foldl (Ds it aU aZ aX) s).1=D.foldl (AV aU aZ aX) s.1
 |[],_=>rfl
 |q::D,s=>by rw[fg,fg,Qhr D];rfl
theorem Qky {MM S MA MP MG MR:Fn} {E:List Pt} (hj:j<E.length) (a0:E.length<=1000000) {aF J:Rw} {aD:Rw} {g N G:Pt} {b b':Bool} {V aU aZ aX len L T M:Int}
  (hM:S (Ag D)=some [B (decide (smI D))]) (hC:MM (Ag D)=some (ptR (AY D)))
  (hA:MA [.vC Af aF, .vC Av aD,I E[j].x,I E[j].y,I E[j].z,I g.x,I g.y,I g.z,I V,I aU,I aZ,I aX,I N.x,I N.y,I N.z,B b,I len,I T,I M]=some [.vC Af J, .vC Av aD,I G.x,I G.y,I G.z,B b',I L,I T,I M]):
  J2 MM S MA MP MG MR (.vC Af aF:: .vC Av aD:: .vC kPt (E.map ptR)::I E.length::I j::(Ag D++[I g.x,I g.y,I g.z,I V,I aU,I aZ,I aX,I N.x,I N.y,I N.z,B b,I len,I T,I M]))=
   some (0, .vC Af J:: .vC Av aD:: .vC kPt (E.map ptR)::I E.length::I (j+1:Nat)::(Ag D++[I g.x,I g.y,I g.z,I V,I aU,I aZ,I aX,I G.x,I G.y,I G.z,B b',I L,I T,I (if smI D/\E[j]=AY D then L else M)])):=by
 have hr:nth [] (E.map ptR) j=ptR E[j]:=DF _ _ _ _ hj;have X:(0:Int)<=(j:Int)/\(j:Int)<(E.length:Int):=by omega
 have hw:O ((j:Int)+1)=((j+1:Nat):Int):=by rw[Ae];omega
 generalize E[j]=q at*;simp only[Ag]at hM hC;simp only[Ag,aq,ay];rw[Q2y];simp only[go_sem,af,ag,hr,aa X,hA,hM,hC,hw];rw[aa];by_cases c:smI D
 ·rw[aa c];by_cases U:q=AY D
  ·have Y:=BU.1 U;rw[aa ⟨Y.1,Y.2.1,Y.2.2,trivial⟩,aa ⟨c,U⟩]
  ·rw[ab (λh=>U (BU.2 ⟨h.1,h.2.1,h.2.2.1⟩)),ab (λh=>U h.2)]
 ·rw[ab c,ab (λh=>c h.1)]
theorem ZY {Y N MA MP MG MR:Fn} {it:Itm} {D:List Pt} (O:D.length<=1000000) {aD:Rw} {g E:Pt} {gl aU aZ aX T:Int} (U:bd 67108864 E) (J:∀p∈D,bd 67108864 p)
  (hM:N (Ag it)=some [B (decide (smI it))]) (hC:Y (Ag it)=some (ptR (AY it)))
  (hA : ∀ {aF : List Sgm} {q at_ : Pt} {len mid : Int}, EB E aF = at_ -> bd 67108864 at_ -> bd 67108864 q -> aF.length + 1 <= 1048577 -> (0 <= len /\ len <= 4000000000000000000) ->
   MA [.vC Af (aF.map Ax), .vC Av aD,I q.x,I q.y,I q.z,I g.x,I g.y,I g.z,I gl,I aU,I aZ,I aX,I E.x,I E.y,I E.z,B true,I len,I T,I mid]=
   some [.vC Af ((AV aU aZ aX (aF,len,at_) q).1.map Ax), .vC Av aD,I E.x,I E.y,I E.z,B true,I (AV aU aZ aX (aF,len,at_) q).2.1,I T,I mid]):
  ∀(k j:Nat) (s:List Sgm×Int×Pt) (mid:Int),j+k=D.length->s.1.length+k<=1048576->0<=s.2.1->s.2.1+k*268435456<=4000000000000000000->bd 67108864 s.2.2->EB E s.1=s.2.2->
  An (J2 Y N MA MP MG MR) (.vC Af (s.1.map Ax):: .vC Av aD:: .vC kPt (D.map ptR)::I D.length::I j::(Ag it++[I g.x,I g.y,I g.z,I gl,I aU,I aZ,I aX,I E.x,I E.y,I E.z,B true,I s.2.1,I T,I mid]))=
   some (1,[.vC Af (((D.drop j).foldl (Ds it aU aZ aX) (s,mid)).1.1.map Ax), .vC Av aD,I E.x,I E.y,I E.z,B true,I ((D.drop j).foldl (Ds it aU aZ aX) (s,mid)).1.2.1,I T,I ((D.drop j).foldl (Ds it aU aZ aX) (s,mid)).2])
 |0,j,s,mid,hj,_,_,_,_,_=>by
  refine AG ?_ (by simp);simp only[Ag,aq,ay];rw[Q2y,AM (by omega),du (by omega)];rfl
 |k+1,j,s,mid,hj,hs,S,V,G,he=>by
  have L:j<D.length:=by omega
  have X:=J _ (bv L);obtain⟨aF,len,at_⟩:=s;simp only at hs S V G he;have ha:=hA (q:=D[j]) (mid:=mid) he G X (by omega) (by constructor<;>omega);have M:=Qky (MP:=MP) (MG:=MG) (MR:=MR) L O hM hC ha;have hinv:EB E (AV aU aZ aX (aF,len,at_) D[j]).1=(AV aU aZ aX (aF,len,at_) D[j]).2.2/\bd 67108864 (AV aU aZ aX (aF,len,at_) D[j]).2.2/\
    (AV aU aZ aX (aF,len,at_) D[j]).1.length<=aF.length+1/\0<=(AV aU aZ aX (aF,len,at_) D[j]).2.1/\(AV aU aZ aX (aF,len,at_) D[j]).2.1<=len+268435456:=by
   have hl:=FM G X;unfold AV;split
   ·exact⟨he,G,by simp,S,by simp only;omega⟩
   ·refine⟨Qb _ _ _,X,by simp,?_,?_⟩<;>simp only<;>omega
  rw[AR M];obtain⟨i1,i2,i3,i4,i5⟩:=hinv;have:=ZY (MP:=MP) (MG:=MG) (MR:=MR) O U J hM hC hA k (j+1) (AV aU aZ aX (aF,len,at_) D[j]) (if smI it/\D[j]=AY it then(AV aU aZ aX (aF,len,at_) D[j]).2.1 else mid) (by omega) (by omega) i4 (by omega) i2 i1;rw[this,L0 D j L,fg];rfl
theorem Za7 (h:By D):∃l,BR D=At D.fr::l:=by
 unfold BR;by_cases G:D.aP=3
 ·rw[aa G];unfold BS;rw[ba];refine⟨(CW D.dir 16 D.bG (Bu D D.fr) (Bu D D.to)).map (IR D),?_⟩;congr 1;obtain⟨E,-,L,-⟩:=h.2.2.2 G;obtain⟨I,J,M⟩:=Q5 D.aG D.ce;unfold IR Bu;simp only[I,J];unfold dU dW;have e1:plU D.aG D.ce*16+(plU D.aG D.fr-plU D.aG D.ce)*16=plU D.aG D.fr*16:=by omega
  have e2:plW D.aG D.ce*16+(plW D.aG D.fr-plW D.aG D.ce)*16=plW D.aG D.fr*16:=by omega
  rw[e1,e2];unfold spP plU plW plH At;rcases E with E|E|E<;>rw[E]<;>rfl
 ·rw[ab G];exact⟨_,rfl⟩
theorem Zsy (h:By (vD L i)):∃l,Bq L i (-1)=At (vD L i).fr::l:=by
 obtain⟨l,D⟩:=Za7 h;unfold Bq;split
 ·unfold G2;rw[ab,D];exact⟨_,rfl⟩
 ·exact⟨l,D⟩
noncomputable def EG (aA:List Itm) (i:Nat) (s:BSt) (D:Int):(List Sgm×Int×Pt)×Int:=
 (Bq aA i s.frm).foldl (Ds (vD aA i) i (D0 (vD aA i) s.aS) (IN (vD aA i))) ((s.aF,s.len,if s.bI=true then s.at_ else At (vD aA i).fr),D)
theorem Q1t (aA:List Itm) (i:Nat) (s:BSt) (D:Int):(EG aA i s D).1=Ew aA i s:=by
 unfold EG Ew;rw[Qhr]
theorem Zua {s:BSt} {mid:Int} (hi:i<L.length) (hlen:L.length<=15) (hv:By (vD L i)) (G:BOK L i s) (hinv:BInv s)
  (D:(∀p∈Bq L i s.frm,bd 67108864 p)/\(Bq L i s.frm).length<=65537)
  (O:syI (vD L i)->0<=(vD L i).aZ/\(vD L i).aZ<=60000000) (a1:s.bI=false->s.frm= -1)
  (hM:Z (Ag (vD L i))=some [B (decide (smI (vD L i)))]) (hC:M (Ag (vD L i))=some (ptR (AY (vD L i))))
  (hG:V (Ag (vD L i))=some [B (decide (syI (vD L i)))]) (hR:T (Ag (vD L i)++[I s.aS])=some [I (D0 (vD L i) s.aS)])
  (hP:W [.vC Ac (L.map Ag),I i,I s.frm]=some [.vC kPt ((Bq L i s.frm).map ptR)])
  (hA : ∀ {aF : List Sgm} {q g st at_ : Pt} {gl aU aZ aX len mid : Int}, EB st aF = at_ -> bd 67108864 at_ -> bd 67108864 q -> aF.length + 1 <= 1048577 -> (0 <= len /\ len <= 4000000000000000000) ->
   Y [.vC Af (aF.map Ax), .vC Av o,I q.x,I q.y,I q.z,I g.x,I g.y,I g.z,I gl,I aU,I aZ,I aX,I st.x,I st.y,I st.z,B true,I len,I s.aS,I mid]=
   some [.vC Af ((AV aU aZ aX (aF,len,at_) q).1.map Ax), .vC Av o,I st.x,I st.y,I st.z,B true,I (AV aU aZ aX (aF,len,at_) q).2.1,I s.aS,I mid])
  (a3 : ∀ {q g st : Pt} {gl aU aZ aX len mid : Int}, Y [.vC Af [], .vC Av o, I q.x, I q.y, I q.z, I g.x, I g.y, I g.z, I gl, I aU, I aZ, I aX, I st.x, I st.y, I st.z, B false, I len, I s.aS, I mid] =
   some [.vC Af [], .vC Av o,I q.x,I q.y,I q.z,B true,I len,I s.aS,I mid]):
  Qe7 M Z Y W V T (An (J2 M Z Y W V T)) [.vC Af (s.aF.map Ax), .vC Av o, .vC Ac (L.map Ag),I i,I s.frm,I s.aQ.x,I s.aQ.y,I s.aQ.z,B s.bI,I s.len,I s.aS,I mid]=
   some [.vC Af ((EG L i s mid).1.1.map Ax), .vC Av o,B true,I (if s.bI=true then s.aQ else At (vD L i).fr).x,I (if s.bI=true then s.aQ else At (vD L i).fr).y,I (if s.bI=true then s.aQ else At (vD L i).fr).z,B true,I (EG L i s mid).1.2.1,I s.aS,I (EG L i s mid).2]:=by
 have hr:=Cs hi;have a4:(0:Int)<=(i:Int)/\(i:Int)<(L.length:Int):=by omega
 have a7:=G.aF;have S:=G.len
 have U:∀aX aZ:Int,An (J2 M Z Y W V T) (.vC Af (s.aF.map Ax):: .vC Av o:: .vC kPt ((Bq L i s.frm).map ptR)::I (Bq L i s.frm).length::I (0:Nat)::(Ag (vD L i)++[I (⟨0,0,0⟩:Pt).x,I (⟨0,0,0⟩:Pt).y,I (⟨0,0,0⟩:Pt).z,I 0,I i,I aZ,I aX,I s.aQ.x,I s.aQ.y,I s.aQ.z,B s.bI,I s.len,I s.aS,I mid]))=
   some (1, [.vC Af (((Bq L i s.frm).foldl (Ds (vD L i) i aZ aX) ((s.aF, s.len, if s.bI = true then s.at_ else At (vD L i).fr), mid)).1.1.map Ax), .vC Av o, I (if s.bI = true then s.aQ else At (vD L i).fr).x, I (if s.bI = true then s.aQ else At (vD L i).fr).y, I (if s.bI = true then s.aQ else At (vD L i).fr).z, B true,
    I ((Bq L i s.frm).foldl (Ds (vD L i) i aZ aX) ((s.aF,s.len,if s.bI=true then s.at_ else At (vD L i).fr),mid)).1.2.1,I s.aS,I ((Bq L i s.frm).foldl (Ds (vD L i) i aZ aX) ((s.aF,s.len,if s.bI=true then s.at_ else At (vD L i).fr),mid)).2]):=by
  intro aX aZ;by_cases hb:s.bI=true
  ·obtain⟨g1,g2⟩:=hinv.bI hb;obtain⟨g3,g4,g5⟩:=g2;rw[aa hb,aa hb,hb];have:=ZY (MP:=W) (MG:=V) (MR:=T) (g:=⟨0,0,0⟩) (gl:=0) (aU:=i) (aZ:=aZ) (aX:=aX) (by omega) g1 D.1 hM hC (λh1 h2 h3 h4 h5=>hA h1 h2 h3 h4 h5) (Bq L i s.frm).length 0 (s.aF,s.len,s.at_) mid (by omega) (by simp only;omega) S.1 (by simp only;omega) (G.at_ hb) g4;rw[fd]at this;exact this
  ·have X:s.bI=false:=by simpa using hb
   obtain⟨e1,e2,e3⟩:=hinv.empty X;obtain⟨l,hl⟩:=Zsy hv;have a2:bd 67108864 (At (vD L i).fr):=AP (Fb hv.2.1) (by decide);rw[ab hb,ab hb,X,e1];rw[a1 X,hl]at D⊢;have h0:0<(At (vD L i).fr::l).length:=by simp
   have a0:=Qky (MP:=W) (MG:=V) (MR:=T) h0 (by omega) hM hC (a3 (q:=At (vD L i).fr) (g:=⟨0,0,0⟩) (st:=s.aQ) (gl:=0) (aU:=i) (aZ:=aZ) (aX:=aX) (len:=s.len) (mid:=mid));rw[cm,AR a0];have:=ZY (MP:=W) (MG:=V) (MR:=T) (g:=⟨0,0,0⟩) (gl:=0) (aU:=i) (aZ:=aZ) (aX:=aX) (by omega) a2 D.1 hM hC (λh1 h2 h3 h4 h5=>hA h1 h2 h3 h4 h5) l.length 1 ([],s.len,At (vD L i).fr) (if smI (vD L i)/\At (vD L i).fr=AY (vD L i)then s.len else mid) (by simp;omega) (by simp only[bm];simp at D;omega) S.1 (by simp only;simp at D;omega) a2 rfl;rw[List.drop_succ_cons,fd]at this;rw[fg];have e4:Ds (vD L i) i aZ aX (([],s.len,At (vD L i).fr),mid) (At (vD L i).fr)=(([],s.len,At (vD L i).fr),if smI (vD L i)/\At (vD L i).fr=AY (vD L i)then s.len else mid):=by
    unfold Ds;rw[show AV i aZ aX ([],s.len,At (vD L i).fr) (At (vD L i).fr)=([],s.len,At (vD L i).fr)from aa rfl]
   rw[e4];exact this
 have E:∀aX aZ:Int,((Bq L i s.frm).foldl (Ds (vD L i) i aZ aX) ((s.aF,s.len,if s.bI=true then s.at_ else At (vD L i).fr),mid)).1.1.length<=1048576:=by
  intro aX aZ;rw[Qhr];have a5:bd 67108864 (if s.bI=true then s.at_ else At (vD L i).fr):=by
   split
   ·rename_i hb;exact G.at_ hb
   ·exact AP (Fb hv.2.1) (by decide)
  have:=(QJ (aU:=i) (aZ:=aZ) (aX:=aX) (Bq L i s.frm) (s.aF,s.len,if s.bI=true then s.at_ else At (vD L i).fr) D.1 a5 S.1).1;simp only at this⊢;omega
 generalize An (J2 M Z Y W V T)=N at*;have J:=λaX aZ=>U aX aZ;simp only[Ag,aq,ay]at hG hR J;rw[Zu6];simp only[go_sem,af,ag,hr,aa a4,hG,hR,hP];have a6:((0:Nat):Int)=0:=rfl;simp only[a6]at J;unfold EG IN;by_cases hs:syI (vD L i)
 ·have hf:=O hs;rw[aa hs];simp only[aa hs];rw[Ae];simp only[J,go_sem,af];rw[ah (show((_:Nat):Int)<=1048576 from by have:=E (mn ((vD L i).aZ*16) 16777216) (D0 (vD L i) s.aS);omega)]
 ·rw[ab hs];simp only[ab hs];simp only[J,go_sem,af];rw[ah (show((_:Nat):Int)<=1048576 from by have:=E 0 (D0 (vD L i) s.aS);omega)]
theorem Yu {S T U V N O:Fn} {aA:List Itm} (X:∀k:Int,N [I k]=some [B (decide (1<=k/\k<=6))]) (Y:∀it,O (Ag it)=some [I (if Bo it then 1 else 0)]) (hl:aA.length<=1000000):
  ∀(k i:Nat) (last:Int),i+k=aA.length->(last= -1\/(0<=last/\last<i))->
  (An (NY S T U V N O) [.vC Af [], .vC Av [], .vC Ac (aA.map Ag),I last, .vC Ac (aA.map Ag),I aA.length,I i,I 0,I 0,I 0,B false,I 0,I 0,I 0]=some (1,[.vC Af [], .vC Av [],I (DR aA k i last),I 0,I 0,I 0,B false,I 0,I 0,I 0])/\DR aA k i last≠0)\/
  (An (NY S T U V N O) [.vC Af [], .vC Av [], .vC Ac (aA.map Ag),I last, .vC Ac (aA.map Ag),I aA.length,I i,I 0,I 0,I 0,B false,I 0,I 0,I 0]=some (2,[.vC Af [], .vC Av [], .vC Ac (aA.map Ag),I 0,I 0,I 0,B false,I 0,I 0,I 0])/\DR aA k i last=0)
 |0,i,last,hi,_=>by
  right;refine⟨AG ?_ (by simp),rfl⟩;rw[Qwb,AM (by omega)]
 |k+1,i,last,hi,a0=>by
  have a1:i<aA.length:=by omega
  have hr:=Cs a1;have hw:=Y (vD aA i);have hm:=X (vD aA i).aP;have a2:(0:Int)<=(i:Int)/\(i:Int)<(aA.length:Int):=by omega
  have D:NY S T U V N O [.vC Af [], .vC Av [], .vC Ac (aA.map Ag),I last, .vC Ac (aA.map Ag),I aA.length,I i,I 0,I 0,I 0,B false,I 0,I 0,I 0]=
    if Bo (vD aA i)then some (1,[.vC Af [], .vC Av [],I 1,I 0,I 0,I 0,B false,I 0,I 0,I 0])else if Az (vD aA i)then(if 0<=last/\(vD aA last.toNat).to≠(vD aA i).fr then some (1,[.vC Af [], .vC Av [],I 13,I 0,I 0,I 0,B false,I 0,I 0,I 0])else some (0,[.vC Af [], .vC Av [], .vC Ac (aA.map Ag),I i, .vC Ac (aA.map Ag),I aA.length,I (i+1:Nat),I 0,I 0,I 0,B false,I 0,I 0,I 0]))
    else some (0,[.vC Af [], .vC Av [], .vC Ac (aA.map Ag),I last, .vC Ac (aA.map Ag),I aA.length,I (i+1:Nat),I 0,I 0,I 0,B false,I 0,I 0,I 0]):=by
   rw[Qwb];simp only[Ag]at hw;simp only[go_sem,af,ag,hr,hw,hm,aa a2];rw[aa,Ae];by_cases J:Bo (vD aA i)
   ·simp only[aa J];rw[aa]
   simp only[ab J];rw[ab (by simp)];by_cases E:Az (vD aA i)
   ·rw[ab (λh=>h E),aa E];rcases a0 with rfl|⟨h1,h2⟩
    ·rw[ab (show¬(-1:Int)>=0 by omega),ab (λh=>by omega)];rfl
    ·obtain⟨L,rfl⟩:=bj h1;have hL:L<aA.length:=by omega
     have M:(0:Int)<=(L:Int)/\(L:Int)<(aA.length:Int):=by omega
     have a3:=Cs hL;simp only[ag,a3,go_sem,aa M];rw[aa];by_cases G:(vD aA L).to=(vD aA i).fr
     ·have c4:=BU.1 G;rw[ab (λh=>h ⟨c4.1,c4.2.1,c4.2.2,trivial⟩),ab (λh=>h.2 G)];rfl
     ·rw[aa (λh=>G (BU.2 ⟨h.1,h.2.1,h.2.2.1⟩)),aa ⟨h1,G⟩]
   ·rw[aa (show¬(1<=(vD aA i).aP/\(vD aA i).aP<=6)from E),ab E];rfl
  unfold DR;by_cases J:Bo (vD aA i)
  ·rw[aa J]at D⊢;exact .inl ⟨AG D (by simp),by simp⟩
  ·rw[ab J]at D⊢;by_cases E:Az (vD aA i)
   ·rw[aa E]at D⊢;by_cases G:0<=last/\(vD aA last.toNat).to≠(vD aA i).fr
    ·rw[aa G]at D⊢;exact .inl ⟨AG D (by simp),by simp⟩
    ·rw[ab G]at D⊢;rw[AR D];exact Yu X Y hl k (i+1) i (by omega) (.inr (by omega))
   ·rw[ab E]at D⊢;rw[AR D];exact Yu X Y hl k (i+1) last (by omega) (by omega)
noncomputable def Fk (aA:List Itm):Nat->Int
 |0=> -1
 |i+1=>if Az (vD aA i)then i else Fk aA i
theorem Qnd (aA:List Itm):∀i,Fk aA i= -1\/∃L:Nat,Fk aA i=L/\L<i/\Az (vD aA L)/\∀j,L<j->j<i-> ¬Az (vD aA j)
 |0=> .inl rfl
 |i+1=>by
  unfold Fk;by_cases c:Az (vD aA i)
  ·rw[aa c];exact .inr ⟨i,rfl,by omega,c,λj D E=>by omega⟩
  ·rw[ab c];rcases Qnd aA i with h|⟨L,D,E,G,I⟩
   ·exact .inl h
   ·refine .inr ⟨L,D,by omega,G,λj g1 g2=> ?_⟩;by_cases e:j=i
    ·rw[e];exact c
    ·exact I j g1 (by omega)
theorem Qm7 (aA:List Itm):∀i,(Aw aA i).frm=if 0<=Fk aA i/\0<=Be aA (Fk aA i).toNat then Fk aA i else-1
 |0=>by rw[Aw,Fk,ab]
 |i+1=>by
  rw[Aw,Fk];unfold Et;by_cases c:Az (vD aA i)
  ·rw[aa c,aa c];simp only[ag];by_cases D:0<=Be aA i
   ·rw[aa D,aa ⟨by omega,D⟩]
   ·rw[ab D,ab (λh=>D h.2)]
  ·rw[ab c,ab c];exact Qm7 aA i
theorem Zc4 (G:A<i) (O:i<H.length) (I:Az (vD H i)) (D:∀j,A<j->j<i-> ¬Az (vD H j)) (J:0<=Be H A):CQ H A=i:=by
 have S:=QS J;rcases Wk H A with h|⟨-,-,k,T,L,U,E,M⟩
 ·omega
 ·have N:CQ H A=k:=by omega
  rw[N];rcases Nat.lt_trichotomy k i with h|h|h
  ·exact absurd ⟨by have:=E.1;omega,by have:=E.1;omega⟩ (D k L h)
  ·exact h
  ·have:=M i G h;have:=I.2;omega
noncomputable def Cw (aA:List Itm):Nat->Int
 |0=>0
 |i+1=>if Az (vD aA i)then(EG aA i (Aw aA i) (Cw aA i)).2 else Cw aA i
theorem Qlv (aA:List Itm):∀i,(Aw aA i).bI=false->(Aw aA i).frm= -1
 |0,_=>by rw[Aw]
 |i+1,h=>by
  rw[Aw]at h⊢;unfold Et at h⊢;by_cases c:Az (vD aA i)
  ·rw[aa c]at h;cases h
  ·rw[ab c]at h⊢;exact Qlv aA i h
noncomputable abbrev pbR (aA:List Itm) (i:Nat):List AC:=
 [.vC Af ((Aw aA i).aF.map Ax), .vC Av ((Aw aA i).aD.map A1), .vC Ac (aA.map Ag),I (Fk aA i), .vC Ac (aA.map Ag),I aA.length,I i,I (Aw aA i).aQ.x,I (Aw aA i).aQ.y,I (Aw aA i).aQ.z,B (Aw aA i).bI,I (Aw aA i).len,I (Aw aA i).aS,I (Cw aA i)]
theorem Q4r (hi:i<H.length) (hlen:H.length<=15) (a3:(Aw H i).aD.length=i)
  (hM:∀k:Int,V [I k]=some [B (decide (1<=k/\k<=6))]) (hS:∀L:Nat,L<H.length->W [.vC Ac (H.map Ag),I L]=some [B (decide (0<=Be H L))]) (hN:∀L:Nat,L<H.length->Y [.vC Ac (H.map Ag),I L]=some [I (CQ H L)])
  (hV : Az (vD H i) -> Z [.vC Af ((Aw H i).aF.map Ax), .vC Av ((Aw H i).aD.map A1), .vC Ac (H.map Ag), I i, I (Aw H i).frm, I (Aw H i).aQ.x, I (Aw H i).aQ.y, I (Aw H i).aQ.z, B (Aw H i).bI, I (Aw H i).len, I (Aw H i).aS, I (Cw H i)] =
   some [.vC Af ((EG H i (Aw H i) (Cw H i)).1.1.map Ax), .vC Av ((Aw H i).aD.map A1),B true,I (if(Aw H i).bI=true then(Aw H i).aQ else At (vD H i).fr).x,I (if(Aw H i).bI=true then(Aw H i).aQ else At (vD H i).fr).y,I (if(Aw H i).bI=true then(Aw H i).aQ else At (vD H i).fr).z,B true,
    I (EG H i (Aw H i) (Cw H i)).1.2.1,I (Aw H i).aS,I (EG H i (Aw H i) (Cw H i)).2])
  (hK : ∀ {aF : Rw} {X : Pt} {b : Bool} {len sp G : Int}, M [.vC Af aF, .vC Av ((Aw H i).aD.map A1), .vC Ac (H.map Ag), I i, I X.x, I X.y, I X.z, B b, I len, I sp, I G] =
   some [.vC Af aF, .vC Av (((Aw H i).aD++[(⟨len,Ia H i,i⟩:Mrk)]).map A1),I X.x,I X.y,I X.z,B b,I len,I sp,I G]):
  NK M Z Y W V T N (pbR H i)=some (0,pbR H (i+1)):=by
 have hr:=Cs hi;have a0:(0:Int)<=(i:Int)/\(i:Int)<(H.length:Int):=by omega
 have hw:O ((i:Int)+1)=((i+1:Nat):Int):=by rw[Ae];omega
 have hf:=Qm7 H i;have S:=Qnd H i;have a1:=Q1t H i (Aw H i) (Cw H i);have e1:Fk H (i+1)=if Az (vD H i)then(i:Int)else Fk H i:=rfl;have e2:Cw H (i+1)=if Az (vD H i)then(EG H i (Aw H i) (Cw H i)).2 else Cw H i:=rfl;have e3:Aw H (i+1)=Et H i (Aw H i):=rfl;unfold pbR;rw[e1,e2,e3];generalize Aw H i=s at*;generalize Fk H i=last at*;generalize a4:Cw H i=G at*;unfold Et;rw[Qy7];by_cases E:Az (vD H i)
 ·have h8: ¬(vD H i).aP=8:=λh=>by have:=E.2;omega
  have hV:=hV E;have D:Ia H i=IU H i:=aa E;rw[aa E,aa E,aa E];rw[a1]at hV;have U:V [I (vD H i).aP]=some [B true]:=by rw[hM,ah (show 1<=(vD H i).aP/\(vD H i).aP<=6 from E)]
  simp only[go_sem,af,ag,hr,aa a0,U];rw[aa,ab h8];have J:∀{x:Option (Nat×List AC)} {frm:Int},s.frm=frm->(Z [.vC Af (s.aF.map Ax), .vC Av (s.aD.map A1), .vC Ac (H.map Ag),I i,I frm,I s.aQ.x,I s.aQ.y,I s.aQ.z,B s.bI,I s.len,I s.aS,I G])=
    some [.vC Af ((Ew H i s).1.map Ax), .vC Av (s.aD.map A1),B true,I (if s.bI=true then s.aQ else At (vD H i).fr).x,I (if s.bI=true then s.aQ else At (vD H i).fr).y,I (if s.bI=true then s.aQ else At (vD H i).fr).z,B true,I (Ew H i s).2.1,I s.aS,I (EG H i s G).2]:=by
   intro x frm h;rw[<-h];exact hV
  rcases S with S|⟨L,h1,h2,h3,h4⟩
  ·rw[S];rw[S,ab]at hf;rw[ab (show¬(-1:Int)>=0 by omega)];have hv:=J (x:=none) hf;simp only[hv,go_sem,hK,hw,D];simp
  ·rw[h1]at hf⊢;rw[ag]at hf;have hs:=hS L (by omega);have hn:=hN L (by omega);rw[aa (show(L:Int)>=0 by omega)];by_cases c:0<=Be H L
   ·have a2:=Zc4 h2 hi E h4 c;rw[aa ⟨by omega,c⟩]at hf;rw[a2]at hn;rw[ah c]at hs;have hv:=J (x:=none) hf;simp only[hs,hn,go_sem];simp only[hv,go_sem,hK,hw,D];simp
   ·rw[ab (λh=>c h.2)]at hf;rw[aj c]at hs;have hv:=J (x:=none) hf;simp only[hs,go_sem];simp only[hv,go_sem,hK,hw,D];simp
 ·have D:Ia H i=JB (vD H i):=ab E;rw[ab E,ab E,ab E];have U:V [I (vD H i).aP]=some [B false]:=by rw[hM,aj (show¬(1<=(vD H i).aP/\(vD H i).aP<=6)from E)]
  unfold LP;simp only[go_sem,af,ag,hr,aa a0,U,hK,hw,D];rw[aa];by_cases h8:(vD H i).aP=8
  ·by_cases h3:(vD H i).n=3
   ·simp[h8,h3]
   ·by_cases h4:(vD H i).n=4
    ·simp[h8,h4]
    ·simp[h8,h3,h4]
  ·simp[h8]
theorem Q4k (hf:D.aP=1\/1<=D.aZ/\D.aZ<=60000000) (G:0<=k/\k<=30000):Ie (Ag D++[I k])=some [I (D0 D k)]:=by
 by_cases E:D.aP=1
 ·unfold Ie D0;generalize Ee=M;have h:=Qqj (BP:=M) D.aP D.block D.fr.x D.fr.y D.fr.z D.to.x D.to.y D.to.z D.aG D.ce.x D.ce.y D.ce.z D.dir D.bG D.aZ D.perRev D.side D.radius D.bH D.n D.aS D.on k;rw[aa E];refine dg h ?_;rw[Dv (by simp[E])]
 ·exact Q5e (by omega) G
theorem Zqc {aF:List Sgm} (D:EB a aF=b) (E:bd 67108864 b) (G:bd 67108864 q) (J:aF.length+1<=1048577) (hlen:0<=d/\d<=4000000000000000000):
  Nd [.vC Af (aF.map Ax), .vC Av l,I q.x,I q.y,I q.z,I g.x,I g.y,I g.z,I k,I u,I v,I r,I a.x,I a.y,I a.z,B true,I d,I y,I h]=
   some [.vC Af ((AV u v r (aF,d,b) q).1.map Ax), .vC Av l,I a.x,I a.y,I a.z,B true,I (AV u v r (aF,d,b) q).2.1,I y,I h]:=
 Q8b D (YB E G) (FM E G) J hlen
theorem Q27 (hlen:H.length<=15) (D:∀j<H.length,¬Bo (vD H j)) {i:Nat} (I:i<H.length):
  NK HG IA EA F9 De HQ OL (pbR H i)=some (0,pbR H (i+1)):=by
 have hb:=Ly D i (by omega);have N:=Qq D i (by omega);have E:∀k<H.length,Az (vD H k)->drawn (vD H k):=λk T J=>(K7 (D k T) J).1;have G:=K7 (D i I);refine Q4r I hlen hb.aD OS (λL O=>Qkk (by omega) O) (λL O=>Yc (by omega) O) (λJ=> ?_) (Zgb (by omega) I (by have:=hb.aD;omega));have M:=(G J).1;exact Zua I hlen M.1 hb N (PD M hb.frm E) (λU=>by have S:=(G J).2;rcases U with h|h<;>omega) (Qlv H i) (Rs _) (QA M.1.2.1 M.1.2.2.1) (Qn6 _) (Q4k (G J).2 hb.aS)
  (Zg7 (by omega) I M hb.frm E) (λV S X Y h5=>Zqc V S X Y h5) Ze9
theorem Q2q {aA:List Itm} (hlen:aA.length<=15) (D:∀j<aA.length,¬Bo (vD aA j)):∀(k i:Nat),i+k=aA.length->
  An (NK HG IA EA F9 De HQ OL) (pbR aA i)=
   some (2,[.vC Af ((AE aA).aF.map Ax), .vC Av ((AE aA).aD.map A1),I (AE aA).aQ.x,I (AE aA).aQ.y,I (AE aA).aQ.z,B (Aw aA aA.length).bI,I (Aw aA aA.length).len,I (Aw aA aA.length).aS,I (Cw aA aA.length)])
 |0,i,E=>by
  obtain rfl:i=aA.length:=by omega
  refine AG ?_ (by simp);unfold pbR AE;rw[Qy7,AM (by omega)]
 |k+1,i,E=>by
  rw[AR (Q27 hlen D (by omega))];exact Q2q hlen D k (i+1) (by omega)
def Ih (aA:List Itm) (o:List AC):Prop:=
 if BM aA=0 then o=[.vC Af ((AE aA).aF.map Ax), .vC Av ((AE aA).aD.map A1),I 0,I (AE aA).aQ.x,I (AE aA).aQ.y,I (AE aA).aQ.z,B (Aw aA aA.length).bI,I (Aw aA aA.length).len,I (Aw aA aA.length).aS,I (Cw aA aA.length)]
 else o=[.vC Af [], .vC Av [],I (BM aA),I 0,I 0,I 0,B false,I 0,I 0,I 0]
theorem Zge {J D:Lp} (hlen:L.length<=15)
  (O : (J [.vC Af [], .vC Av [], .vC Ac (L.map Ag), I (-1), .vC Ac (L.map Ag), I L.length, I 0, I 0, I 0, I 0, B false, I 0, I 0, I 0] = some (1, [.vC Af [], .vC Av [], I (BM L), I 0, I 0, I 0, B false, I 0, I 0, I 0]) /\ BM L ≠ 0) \/
   (J [.vC Af [], .vC Av [], .vC Ac (L.map Ag),I (-1), .vC Ac (L.map Ag),I L.length,I 0,I 0,I 0,I 0,B false,I 0,I 0,I 0]=some (2,[.vC Af [], .vC Av [], .vC Ac (L.map Ag),I 0,I 0,I 0,B false,I 0,I 0,I 0])/\BM L=0))
  (N : BM L = 0 -> D [.vC Af [], .vC Av [], .vC Ac (L.map Ag), I (-1), .vC Ac (L.map Ag), I L.length, I 0, I 0, I 0, I 0, B false, I 0, I 0, I 0] =
   some (2,[.vC Af ((AE L).aF.map Ax), .vC Av ((AE L).aD.map A1),I (AE L).aQ.x,I (AE L).aQ.y,I (AE L).aQ.z,B (Aw L L.length).bI,I (Aw L L.length).len,I (Aw L L.length).aS,I (Cw L L.length)])):
  ∃o,Qeb M Z Y W V T J D [.vC Ac (L.map Ag)]=some o/\Ih L o:=by
 rw[Zfx];have E: ¬((L.length:Int)>20000):=by omega
 rcases O with⟨h,G⟩|⟨h,G⟩
 ·simp only[go_sem,af,h,ab E];exact⟨_,rfl,by unfold Ih;rw[ab G]⟩
 ·have g:=N G;simp only[go_sem,af,h,ab E,g];rw[ab (by decide),ab (by decide)];exact⟨_,rfl,by unfold Ih;rw[aa G]⟩
theorem Q2w (hlen:L.length<=15):∃o,Hw [.vC Ac (L.map Ag)]=some o/\Ih L o:=by
 have D:BM L=DR L L.length 0 (-1):=by unfold BM;rw[ab]
 refine Zge hlen ?_ λhe=>Q2q hlen (Nt he).2 L.length 0 (by omega);rw[D];exact Yu OS Ztj (by omega) L.length 0 (-1) (by omega) (.inl rfl)
theorem Q6g (h:∃o,M [.vC Ac (L.map Ag)]=some o/\Ih L o):
  Qby M [.vC Ac (L.map Ag)]=if BM L=0 then some (AA (AE L)++[I 0])else some [I 0,I 0,I 0, .vC Af [], .vC Av [],I (BM L)]:=by
 obtain⟨o,E,D⟩:=h;rw[Zh6,E];unfold Ih at D;by_cases c:BM L=0
 ·rw[aa c]at D⊢;subst D;simp only[go_sem];rw[ab (by simp)];try rfl
 ·rw[ab c]at D⊢;subst D;simp only[go_sem];rw[aa c]
theorem Qsl (hlen:L.length<=15):Jg [.vC Ac (L.map Ag)]=if BM L=0 then some (AA (AE L)++[I 0])else some [I 0,I 0,I 0, .vC Af [], .vC Av [],I (BM L)]:=
 Q6g (Q2w hlen)
def Gy (aA:List Itm):Nat->Option Nat
 |0=>none
 |i+1=>if(vD aA i).aP=10 then Gy aA i else some i
noncomputable def HY (aA:List Itm):Int:=
 match Gy aA aA.length with
 |some i=>if smI (vD aA i)/\(vD aA i).bH≠0 then AO (AE aA).aF-Au (AY (vD aA i)) (At (vD aA i).to)else AO (AE aA).aF
 |none=>AO (AE aA).aF
theorem Qpx {aA:List Itm} {i:Nat}:∀{n:Nat},Gy aA n=some i->i<n/\(vD aA i).aP≠10/\∀j,i<j->j<n->(vD aA j).aP=10
 |0,h=>by cases h
 |n+1,h=>by
  unfold Gy at h;split at h
  ·rename_i c;obtain⟨G,D,E⟩:=Qpx h;refine⟨by omega,D,λj g1 g2=> ?_⟩;by_cases e:j=n
   ·rw[e];exact c
   ·exact E j g1 (by omega)
  ·rename_i c;cases h
   exact⟨by omega,c,λj g1 g2=>by omega⟩
theorem Zfz (h:(vD L i).aP=10):(Aw L (i+1)).len=(Aw L i).len/\Cw L (i+1)=Cw L i:=by
 have D: ¬Az (vD L i):=λg=>by have:=g.2;omega
 constructor
 ·rw[Aw];unfold Et;rw[ab D]
 ·rw[Cw,ab D]
theorem Qtf {aA:List Itm} {i:Nat}:∀(k:Nat),(∀j,i<=j->j<i+k->(vD aA j).aP=10)->(Aw aA (i+k)).len=(Aw aA i).len/\Cw aA (i+k)=Cw aA i
 |0,_=>⟨rfl,rfl⟩
 |k+1,h=>by
  obtain⟨D,E⟩:=Qtf k λj g1 g2=>h j g1 (by omega);obtain⟨G,I⟩:=Zfz (h (i+k) (by omega) (by omega));exact⟨G.trans D,I.trans E⟩
theorem Zad (D:∀j<L.length,¬Bo (vD L j)):AO (AE L).aF=(Aw L L.length).len:=by
 have h:=Qq D L.length (cq _);unfold AE;by_cases hb:(Aw L L.length).bI=true
 ·exact(h.bI hb).2.2.2
 ·obtain⟨g1,g2,-⟩:=h.empty (by simpa using hb);simp only[g1,g2];rfl
theorem Zcw (h:D.fr≠D.to):At D.to≠AY D:=by
 intro g;unfold At AY at g;injection g with g1 g2 E;exact h (BU.2 ⟨by omega,by omega,by omega⟩)
theorem Zbm (it:Itm) (h:smI it) (aU aZ aX:Int) (s:(List Sgm×Int×Pt)×Int):
  (Ds it aU aZ aX (Ds it aU aZ aX s (AY it)) (At it.to)).2=(Ds it aU aZ aX (Ds it aU aZ aX s (AY it)) (At it.to)).1.2.1-Au (AY it) (At it.to):=by
 have D:=Zcw h.2;have G:(Ds it aU aZ aX s (AY it)).2=(AV aU aZ aX s.1 (AY it)).2.1:=aa ⟨h,rfl⟩;have E:(AV aU aZ aX s.1 (AY it)).2.2=AY it:=by
  unfold AV;split
  ·rename_i c;exact c.symm
  ·rfl
 have I:(Ds it aU aZ aX s (AY it)).1=AV aU aZ aX s.1 (AY it):=rfl;generalize Ds it aU aZ aX s (AY it)=t at*;have J:(Ds it aU aZ aX t (At it.to)).2=t.2:=ab λg=>D g.2;have L:(Ds it aU aZ aX t (At it.to)).1=AV aU aZ aX t.1 (At it.to):=rfl;rw[J,L,G,I];rw[<-E]at D⊢;rw[E];generalize AV aU aZ aX s.1 (AY it)=u at*;have M:AV aU aZ aX u (At it.to)=(u.1++[⟨At it.to,Au u.2.2 (At it.to),aU,aZ,aX⟩],u.2.1+Au u.2.2 (At it.to),At it.to):=ab D;rw[M,E];simp only;omega
theorem Zpe {aA:List Itm} (J:Gy aA aA.length=some i) (E:smI (vD aA i)):Cw aA aA.length=(Aw aA aA.length).len-Au (AY (vD aA i)) (At (vD aA i).to):=by
 obtain⟨M,-,G⟩:=Qpx J;obtain⟨k,L⟩:∃k,aA.length=i+1+k:=⟨aA.length-(i+1),by omega⟩;have I:Az (vD aA i):=⟨by have:=E.1;omega,by have:=E.1;omega⟩;obtain⟨g1,g2⟩:=Qtf (aA:=aA) (i:=i+1) k λj e1 e2=>G j (by omega) (by omega);have D: ¬0<=Be aA i:=by
  intro c;have N:=QS c;rcases Wk aA i with h|⟨-,-,m,m1,m2,m3,m4,m5⟩
  ·omega
  ·have:=G m m2 m3;have:=m4.1;omega
 rw[L,g1,g2];have e1:Cw aA (i+1)=(EG aA i (Aw aA i) (Cw aA i)).2:=aa I;have e2:(Aw aA (i+1)).len=(EG aA i (Aw aA i) (Cw aA i)).1.2.1:=by
  rw[Q1t,Aw];unfold Et;rw[aa I]
 rw[e1,e2];unfold EG;have e3:Bq aA i (Aw aA i).frm=G2 aA i (Aw aA i).frm++[AY (vD aA i)]++[At (vD aA i).to]:=by
  unfold Bq;rw[aa E];unfold IW;rw[ab D];unfold BR;rw[ab (by have:=E.1;omega)];rfl
 rw[e3,List.foldl_append,List.foldl_append,fg,List.foldl_nil,fg,List.foldl_nil];exact Zbm _ E _ _ _ _
theorem Qvv {O U:Fn} {aA:List Itm} {aF aD:Rw} {E:Pt} {b:Bool} {len L D:Int} (Y:aA.length<=1000) (V:∀it,O (Ag it)=some [B (decide (smI it))]):
  ∀n:Nat,n<=aA.length->∃o:Nat×List AC,An (Nj O U) [.vC Af aF, .vC Av aD, .vC Ac (aA.map Ag),I ((n:Int)-1),I E.x,I E.y,I E.z,B b,I len,I L,I D]=some o/\
   match Gy aA n with
   |some i=>o=(1,[I (if smI (vD aA i)/\(vD aA i).bH≠0 then D else len)])
   |none=>o=(2,[.vC Af aF, .vC Av aD,I E.x,I E.y,I E.z,B b,I len,I L,I D])
 |0,_=>by
  refine⟨_,AG (o:=(2,_)) ?_ (by simp),rfl⟩;rw[Qy6,AM (by omega)]
 |n+1,hn=>by
  have S:n<aA.length:=by omega
  have hr:=Cs S;have X:=V (vD aA n);simp only[Ag]at X;have T:(0:Int)<=(n:Int)/\(n:Int)<(aA.length:Int):=by omega
  have e:((n+1:Nat):Int)-1=n:=by omega
  have G:Nj O U [.vC Af aF, .vC Av aD, .vC Ac (aA.map Ag),I n,I E.x,I E.y,I E.z,B b,I len,I L,I D]=
    if(vD aA n).aP=10 then some (0,[.vC Af aF, .vC Av aD, .vC Ac (aA.map Ag),I ((n:Int)-1),I E.x,I E.y,I E.z,B b,I len,I L,I D])
    else some (1,[I (if smI (vD aA n)/\(vD aA n).bH≠0 then D else len)]):=by
   rw[Qy6];simp only[go_sem,af,ag,hr,X,aa T];rw[aa,Ae];by_cases J:(vD aA n).aP=10
   ·rw[aa J,aa J]
   ·rw[ab J,ab J];by_cases M:smI (vD aA n)
    ·rw[aa M];by_cases N:(vD aA n).bH≠0
     ·rw[aa N,aa ⟨M,N⟩]
     ·rw[ab N,ab (λg=>N g.2)]
    ·rw[ab M,ab (λg=>M g.1)]
  rw[e];unfold Gy;by_cases J:(vD aA n).aP=10
  ·rw[aa J]at G⊢;rw[AR G];exact Qvv Y V n (by omega)
  ·rw[ab J]at G⊢;exact⟨_,AG G (by simp),rfl⟩
theorem Zg6 (hl:L.length<=15) (Y:∀it,M (Ag it)=some [B (decide (smI it))]) (h:∃o,Z [.vC Ac (L.map Ag)]=some o/\Ih L o):
  Qei M Z (An (Nj M Z)) [.vC Ac (L.map Ag)]=some [I (if BM L=0 then HY L else 0)]:=by
 obtain⟨o,X,G⟩:=h;unfold Ih at G;by_cases c:BM L=0
 ·rw[aa c]at G⊢;have D:=(Nt c).2;have J:=Zad D;have S:=λi T hs=>Zpe (aA:=L) (i:=i) T hs;have V:= @Qvv M Z L ((AE L).aF.map Ax) ((AE L).aD.map A1) (AE L).aQ (Aw L L.length).bI (Aw L L.length).len (Aw L L.length).aS (Cw L L.length) (by omega) Y L.length (by omega);obtain⟨r,r1,E⟩:=V;rw[Qzm,X];subst G;have hw:O ((L.length:Int)-1)=(L.length:Int)-1:=Ae;unfold HY;rw[J];generalize An (Nj M Z)=N at*;simp only[go_sem,af,hw,r1];rw[ab (by simp)];cases T:Gy L L.length with
  |none=>
   rw[T]at E;simp only at E;subst E;rfl
  |some i=>
   rw[T]at E;simp only at E;subst E;simp only[go_sem];by_cases U:smI (vD L i)/\(vD L i).bH≠0
   ·rw[aa U,aa U,S i T U.1]
   ·rw[ab U,ab U]
 ·rw[ab c]at G⊢;subst G;rw[Qzm,X];simp only[go_sem];rw[aa c]
theorem Zcr (D:L.length<=15):KS [.vC Ac (L.map Ag)]=some [I (if BM L=0 then HY L else 0)]:=Zg6 D Rs (Q2w D)
def okU (s:Spk):Prop:=s.u.natAbs<=1000000/\s.w.natAbs<=1000000/\(0<=s.r/\s.r<=1000000)/\s.h.natAbs<=200000
theorem okU.s {s:Spk} (h:okU s):okS s:=⟨by have:=h.1;omega,by have:=h.2.1;omega,⟨h.2.2.1.1,by have:=h.2.2.1.2;omega⟩,by have:=h.2.2.2;omega⟩
def Zut (n:Nat) (g:Sgm):Prop:=bd B24 g.to/\0<=g.aU/\g.aU<n/\i64 g.aX
structure PIn (n : Nat) (s : BSt) : Prop where
 aQ:bd B24 s.aQ
 aF:∀g∈s.aF,Zut n g
 aD:∀m∈s.aD,0<=m.aU/\m.aU<n/\i64 m.at_
theorem Q3 (n D E:Int):FU [I n,I D,I E]=some [B (decide (D<=n/\n<=E))]:=by
 show XI [I n,I D,I E]=_;rw[Q4t];by_cases G:D<=n<;>by_cases J:n<=E<;>simp[G,J]
abbrev Jw (K:Kf):Kf:=⟨K.x,K.pa,K.pb,K.pc,K.bF,K.lag,[],false,⟨⟨0,0,0⟩,[],[]⟩,0,0,⟨[],0,0,⟨0,0,0⟩⟩⟩
abbrev US (K:Kf):Kf:=⟨K.x,K.pa,K.pb,K.pc,K.bF,K.lag,K.aA,K.closed,K.p,K.len,K.set,⟨[],0,0,⟨0,0,0⟩⟩⟩
abbrev Bl:Cv:=⟨0,0,0,0,0,0,100,100,false,false,false,0,0,-1,1,0,0,0,0,0,0,0,0,false,0,false,0,false,0,-1,0,0,0,0,0,0,0,false,false,false⟩
noncomputable abbrev kfP (x:Ax3) (pa pb pc bF lag:Int) (aA:List Itm) (closed:Bool):Kf:=⟨x,pa,pb,pc,bF,lag,aA,closed,AE aA,AO (AE aA).aF,HY aA,FX (AE aA) x ⟨1,1,1⟩ 0 (AO (AE aA).aF)⟩
theorem Zg3 (T:K.aA.length<=15) (i0:List Itm) (E:Bool) (G:Pth) (J s0:Int) (D:Trk) (c:Cv)
  (L:W [.vC Ac (K.aA.map Ag)]=some (AA K.p++[I 0])) (N:Y (AU K.x++AA K.p)=some [B true]) (O:Z (AA K.p)=some [I K.len]) (S:M [.vC Ac (K.aA.map Ag)]=some [I K.set]):
  K8 M Z Y W (.vC Ac (K.aA.map Ag)::B K.closed::AD ⟨K.x,K.pa,K.pb,K.pc,K.bF,K.lag,i0,E,G,J,s0,D⟩ c)=some (I 0::AD ⟨K.x,K.pa,K.pb,K.pc,K.bF,K.lag,K.aA,K.closed,K.p,K.len,K.set,D⟩ c):=by
 have key:Out (λo=>o=I 0::AD ⟨K.x,K.pa,K.pb,K.pc,K.bF,K.lag,K.aA,K.closed,K.p,K.len,K.set,D⟩ c) (K8 M Z Y W (.vC Ac (K.aA.map Ag)::B K.closed::AD ⟨K.x,K.pa,K.pb,K.pc,K.bF,K.lag,i0,E,G,J,s0,D⟩ c)):=by
  refine Out.eqv (Qms M Z Y W _ _ ⟨K.x,K.pa,K.pb,K.pc,K.bF,K.lag,i0,E,G,J,s0,D⟩ c) ?_;refine .bind (p:=λo=>o=_) ⟨_,L,rfl⟩ λo e=> ?_;subst e;refine .cond (λe=>by cases e) λ_=> ?_;refine .bind (p:=λo=>o=_) ⟨_,N,rfl⟩ λo e=> ?_;subst e;refine .cond (λe=>by cases e) λ_=> .cond (λ_=> ?_) λe=>by rw[Hu (by rw[af];omega)]at e;cases e
  refine .bind (p:=λo=>o=_) ⟨_,O,rfl⟩ λo e=> ?_;subst e;refine .bind (p:=λo=>o=_) ⟨_,S,rfl⟩ λo e=> ?_;subst e;exact .some rfl
 obtain⟨o,h,rfl⟩:=key;exact h
theorem Q3h (D:K.aA.length<=15) (c:Cv)
  (E:W [.vC Ac (K.aA.map Ag)]=some (AA K.p++[I 0])) (G:Y (AU K.x++AA K.p)=some [B true]) (J:Z (AA K.p)=some [I K.len]) (L:M [.vC Ac (K.aA.map Ag)]=some [I K.set]):
  K8 M Z Y W (.vC Ac (K.aA.map Ag)::B K.closed::AD (Jw K) c)=some (I 0::AD (US K) c):=
 Zg3 D [] false ⟨⟨0,0,0⟩,[],[]⟩ 0 0 ⟨[],0,0,⟨0,0,0⟩⟩ c E G J L
end Go.Bm
noncomputable section
namespace Go.Bm
open Classical
def knA (a:Axs) (j:Nat):Prop:=(-4096<=Cd a j/\Cd a j<=4096)/\(0<j-> -(a.aO/4)<=Cd a j-Cd a (j-1)/\Cd a j-Cd a (j-1)<=a.aO/4)
def GI (a:Axs):Prop:=a.aW=[]\/(a.aW.length<=64/\(-16777216<=a.aV/\a.aV<=16777216)/\(4<=a.aO/\a.aO<=16777216)/\∀j<a.aW.length,knA a j)
def axV (a:Axs):Prop:=((4<=a.step/\a.step<=4096)/\(1<=a.aS/\a.aS<=1048576)/\(2<=a.bD/\a.bD<=1048576)/\(4<=a.bE/\a.bE<=1048576))/\(-16777216<=a.low/\a.aY<=16777216/\a.low<=a.aY)/\(0<=a.bB/\a.bB<=64)/\GI a
theorem Nr {a:Axs} (D:j<a.aW.length):gA (nth [] (a.aW.map AB) j) 0=Cd a j:=by
 have e:nth [] (a.aW.map AB) j=AB a.aW[j]:=by
  rw[LY [] (a.aW.map AB) j (by rw[af];exact D),List.getElem_map]
 rw[e,Cd,List.getD,an D];rfl
theorem Zak {a:Axs} (D:j<a.aW.length):Ah (nth .dead (nth [] (a.aW.map AB) j) 0)=Cd a j:=Nr D
theorem Q6r (J:∀n N D:Int,M [I n,I N,I D]=some [B (decide (N<=n/\n<=D))]) {a:Axs} (V:4<=a.aO/\a.aO<=16777216) (X:a.aW.length<=64) {i:Nat} (D:i<a.aW.length) (T:∀j<i,knA a j):
  WJ M (.vC Aa (a.aW.map AB)::I a.aW.length::I (i:Int)::CH a)=some (if knA a i then(0, .vC Aa (a.aW.map AB)::I a.aW.length::I ((i+1:Nat):Int)::CH a)else(1,[B false])):=by
 have E:((a.aW.map AB).length:Int)=a.aW.length:=by rw[af]
 rw[Qqe];dsimp only[jA];refine eT (ah (by omega)) (eT (by rw[E,ah (by omega),ah (by omega)];rfl) ?_);rw[ag,Zak D,Ae (x:=(i:Int)+1)];by_cases G: -4096<=Cd a i/\Cd a i<=4096
 ·refine eB (J _ _ _) (eF (by simp only[bA,CX,CD];rw[ah G];rfl) ?_);by_cases S:0<i
  ·refine eT (ah (by omega)) ?_;have e1:O ((i:Int)-1)=((i-1:Nat):Int):=by rw[Ae];omega
   rw[e1];refine eT (by rw[E,ah (by omega),ah (by omega)];rfl) ?_;rw[ag,Nr (show i-1<a.aW.length by omega)];try rw[Nr D]
   have Y:=(T (i-1) (by omega)).1;have U:a.aO.tdiv 4=a.aO/4:=dh (by omega);rw[U,Ae (x:=a.aO/4),Ae (x:=0-a.aO/4),Ae (x:=Cd a i-Cd a (i-1))];by_cases L:0-a.aO/4<=Cd a i-Cd a (i-1)/\Cd a i-Cd a (i-1)<=a.aO/4
   ·refine eB (J _ _ _) (eF (by simp only[bA,CX,CD];rw[ah L];rfl) ?_);rw[aa (show knA a i from⟨G,λ_=>by omega⟩)];rfl
   ·refine eB (J _ _ _) (eT (by simp only[bA,CX,CD];rw[aj L];rfl) ?_);rw[ab λh:knA a i=>L (by have:=h.2 S;omega)]
  ·refine eF (aj (by omega)) ?_;rw[aa (show knA a i from⟨G,λh=>absurd h S⟩)];rfl
 ·refine eB (J _ _ _) (eT (by simp only[bA,CX,CD];rw[aj G];rfl) ?_);rw[ab λh:knA a i=>G h.1]
theorem Zmp {a:Axs} (U:4<=a.aO/\a.aO<=16777216) (V:a.aW.length<=64) {i:Nat} (N:i<a.aW.length) (S:∀j<i,knA a j):
  VC (.vC Aa (a.aW.map AB)::I a.aW.length::I (i:Int)::CH a)=some (if knA a i then(0, .vC Aa (a.aW.map AB)::I a.aW.length::I ((i+1:Nat):Int)::CH a)else(1,[B false])):=by
 have D:((a.aW.map AB).length:Int)=a.aW.length:=by rw[af]
 rw[Qll];refine eT (ah (by omega)) (eT (by rw[D,ah (by omega),ah (by omega)];rfl) ?_);rw[ag,Nr N,Ae (x:=(i:Int)+1)];by_cases G:Cd a i< -4096
 ·refine eT (ah G) ?_;rw[ab λh:knA a i=>by have:=h.1;omega]
 refine eF (aj G) ?_;by_cases J:Cd a i>4096
 ·refine eT (ah J) ?_;rw[ab λh:knA a i=>by have:=h.1;omega]
 refine eF (aj J) ?_;by_cases E:0<i
 ·refine eT (ah (by omega)) ?_;have e1:O ((i:Int)-1)=((i-1:Nat):Int):=by rw[Ae];omega
  rw[e1];refine eT (by rw[D,ah (by omega),ah (by omega)];rfl) ?_;rw[ag,Nr (show i-1<a.aW.length by omega)];have X:=(S (i-1) (by omega)).1;have T:a.aO.tdiv 4=a.aO/4:=dh (by omega);rw[T,Ae (x:=a.aO/4),Ae (x:=Cd a i-Cd a (i-1)),Ae (x:=Cd a (i-1)-Cd a i)];by_cases L:Cd a i-Cd a (i-1)>a.aO/4
  ·refine eT (ah L) ?_;rw[ab λh:knA a i=>by have:=h.2 E;omega]
  refine eF (aj L) (eT (by rw[D,ah (by omega),ah (by omega)];rfl) ?_);by_cases M:Cd a (i-1)-Cd a i>a.aO/4
  ·refine eT (ah M) ?_;rw[ab λh:knA a i=>by have:=h.2 E;omega]
  refine eF (aj M) ?_;rw[aa (show knA a i from⟨by omega,λ_=>by omega⟩)];rfl
 ·refine eF (aj (by omega)) ?_;rw[aa (show knA a i from⟨by omega,λh=>absurd h E⟩)];rfl
theorem NT {G:Lp} {enc:Nat->List AC} {P:Nat->Prop} {n:Nat} (I:∀i<n,(∀j<i,P j)->G (enc i)=some (if P i then(0,enc (i+1))else(1,[B false]))) (J:G (enc n)=some (2,[])):∀m i:Nat,i+m=n->(∀j<i,P j)->
  An G (enc i)=some (if∀j<n,P j then(2,[])else(1,[B false]))
 |0,i,e,D=>by
  have e:i=n:=by omega
  subst e;rw[aa D];exact AG J (by decide)
 |m+1,i,e,D=>by
  have E:=I i (by omega) D;by_cases c:P i
  ·rw[aa c]at E;rw[AR E];exact NT I J m (i+1) (by omega) λj L=>if q:j<i then D j q else by
    have:j=i:=by omega
    subst this;exact c
  ·rw[ab c]at E;rw[ab λh=>c (h i (by omega))];exact AG E (by decide)
theorem Q7i (L:∀n O S:Int,M [I n,I O,I S]=some [B (decide (O<=n/\n<=S))]) {a:Axs}
  (U:(4<=a.aO/\a.aO<=16777216)->a.aW.length<=64->N (.vC Aa (a.aW.map AB)::I a.aW.length::I 0::CH a)=some (if∀j<a.aW.length,knA a j then(2,[])else(1,[B false]))):Ws M N (CH a)=some [B (decide (GI a))]:=by
 have J:((a.aW.map AB).length:Int)=a.aW.length:=by rw[af]
 rw[Q9v,J];by_cases e:a.aW=[]
 ·refine eT (by rw[e];rfl) ?_;rw[ah (show GI a from .inl e)]
 have V:a.aW.length≠0:=λh=>e (cz h);refine eF (beF (by omega)) ?_;by_cases T:(a.aW.length:Int)>64
 ·refine eT (ah T) ?_;rw[aj λh:GI a=>by rcases h with h|h;exact e h;have:=h.1;omega]
 refine eF (aj T) (eB (L _ _ _) ?_);by_cases E: -16777216<=a.aV/\a.aV<=16777216
 ·refine eF (by simp only[bA,CX,CD];rw[ah E];rfl) (eB (L _ _ _) ?_);by_cases D:4<=a.aO/\a.aO<=16777216
  ·refine eF (by simp only[bA,CX,CD];rw[ah D];rfl) (eB (U D (by omega)) ?_);by_cases G:∀j<a.aW.length,knA a j
   ·rw[aa G,ah (show GI a from .inr ⟨by omega,E,D,G⟩)];rfl
   ·rw[ab G,aj λh:GI a=>by rcases h with h|h;exact e h;exact G h.2.2.2];rfl
  ·refine eT (by simp only[bA,CX,CD];rw[aj D];rfl) ?_;rw[aj λh:GI a=>by rcases h with h|h;exact e h;exact D h.2.2.1]
 ·refine eT (by simp only[bA,CX,CD];rw[aj E];rfl) ?_;rw[aj λh:GI a=>by rcases h with h|h;exact e h;exact E h.2.1]
theorem Q5h (a:Axs):Oa (CH a)=some [B (decide (GI a))]:=Q7i Q3 λD E=>
 NT (enc:=λi:Nat=> .vC Aa (a.aW.map AB)::I a.aW.length::I (i:Int)::CH a) (P:=knA a) (λi G J=>Q6r Q3 D E G J) (by rw[Qqe];exact eF (aj (by omega)) rfl) a.aW.length 0 (by omega) λj L=>by omega
theorem Zl6 (G:∀n D E:Int,Z [I n,I D,I E]=some [B (decide (D<=n/\n<=E))]) {a:Axs} (J:M (CH a)=some [B (decide (GI a))]):Zd M Z (CH a)=some [B (decide (axV a))]:=by
 rw[Zt7];simp only[G,J,ak,CX,CD,bA,gA,jA];unfold axV;by_cases L:4<=a.step/\a.step<=4096<;>by_cases N:1<=a.aS/\a.aS<=1048576<;>by_cases O:2<=a.bD/\a.bD<=1048576<;>by_cases S:4<=a.bE/\a.bE<=1048576<;>by_cases T:a.low>= -16777216<;>by_cases U:a.aY<=16777216<;>
  by_cases V:a.low<=a.aY<;>by_cases X:0<=a.bB/\a.bB<=64<;>simp[L,N,O,S,T,U,V,X]
theorem Zrs (a:Axs):On (CH a)=some [B (decide (axV a))]:=Zl6 Q3 (Q5h a)
theorem eN {p q:Prop} [Decidable p] [Decidable q] {b:Option (List AC)} (h:p-> ¬q) (g: ¬p->b=some [B (decide q)]):cond (decide p) (some [B false]) b=some [B (decide q)]:=by
 by_cases c:p
 ·rw[ah c,aj (h c)];rfl
 ·rw[aj c];exact g c
theorem Zoy {a:Axs} (L:(4<=a.aO/\a.aO<=16777216)->a.aW.length<=64->N (.vC Aa (a.aW.map AB)::I a.aW.length::I 0::CH a)=some (if∀j<a.aW.length,knA a j then(2,[])else(1,[B false]))):Qew N (CH a)=some [B (decide (axV a))]:=by
 have G:((a.aW.map AB).length:Int)=a.aW.length:=by rw[af]
 have D:axV a->a.aW≠[]->a.aW.length<=64/\(-16777216<=a.aV/\a.aV<=16777216)/\(4<=a.aO/\a.aO<=16777216)/\∀j<a.aW.length,knA a j:=λq n=>by
  rcases q.2.2.2 with h|h
  ·exact absurd h n
  ·exact h
 rw[Zk0,G];refine eN (λh q=>by have:=q.1.1;omega) λc1=>eN (λh q=>by have:=q.1.1;omega) λc2=>eN (λh q=>by have:=q.1.2.1;omega) λc3=>eN (λh q=>by have:=q.1.2.1;omega) λE=> ?_;refine eN (λh q=>by have:=q.1.2.2.1;omega) λc5=>eN (λh q=>by have:=q.1.2.2.1;omega) λc6=>eN (λh q=>by have:=q.1.2.2.2;omega) λc7=>eN (λh q=>by have:=q.1.2.2.2;omega) λc8=> ?_;refine eN (λh q=>by have:=q.2.1;omega) λc9=>eN (λh q=>by have:=q.2.1;omega) λM=>eN (λh q=>by have:=q.2.1;omega) λO=>eN (λh q=>by have:=q.2.2.1;omega) λS=>eN (λh q=>by have:=q.2.2.1;omega) λT=> ?_;have J:GI a->axV a:=λh=>⟨⟨by omega,by omega,by omega,by omega⟩,⟨by omega,by omega,by omega⟩,by omega,h⟩;refine eN (λh q => by
  by_cases e:a.aW=[]
  ·rw[e]at h;simp at h
  ·have:=(D q e).1;omega) λU=> ?_
 by_cases e:a.aW=[]
 ·refine eT (by rw[e];rfl) ?_;rw[ah (J (.inl e))]
 have hp:a.aW.length≠0:=λh=>e (cz h);refine eF (beF (by omega)) ?_;refine eN (λh q=>by have:=(D q e).2.1;omega) λV=>eN (λh q=>by have:=(D q e).2.1;omega) λX=>eN (λh q=>by have:=(D q e).2.2.1;omega) λY=>eN (λh q=>by have:=(D q e).2.2.1;omega) λa0=> ?_;refine eB (L (by omega) (by omega)) ?_;by_cases E:∀j<a.aW.length,knA a j
 ·rw[aa E,ah (J (.inr ⟨by omega,by omega,by omega,E⟩))];rfl
 ·rw[ab E,aj λq=>E (D q e).2.2.2];rfl
theorem Zbj (a:Axs):Pa (CH a)=some [B (decide (axV a))]:=Zoy λD E=>
 NT (enc:=λi:Nat=> .vC Aa (a.aW.map AB)::I a.aW.length::I (i:Int)::CH a) (P:=knA a) (λi G J=>Zmp D E G J) (by rw[Qll];exact eF (aj (by omega)) rfl) a.aW.length 0 (by omega) λj L=>by omega
def Fi (x:Ax3) (pa pb pc bF lag:Int):Prop:=(axV x.a/\axV x.b/\axV x.c)/\(1<=pa/\pa<=65536/\2<=pb/\pb<=65536/\1<=pc/\pc<=16777216)/\(1<=bF/\bF<=524288)/\(0<=lag/\lag<=1048576)
theorem eNn {p q:Prop} [Decidable p] [Decidable q] {b:Option (List AC)} (h: ¬p-> ¬q) (g:p->b=some [B (decide q)]):cond (!decide p) (some [B false]) b=some [B (decide q)]:=by
 by_cases c:p
 ·rw[ah c];exact g c
 ·rw[aj c,aj (h c)];rfl
theorem eP {p q:Prop} [Decidable p] [Decidable q] {b:Option (List AC)} (h: ¬p-> ¬q) (g:p->b=some [B (decide q)]):cond (decide p) b (some [B false])=some [B (decide q)]:=by
 by_cases c:p
 ·rw[ah c];exact g c
 ·rw[aj c,aj (h c)];rfl
theorem Qlm {x:Ax3} (D:∀a:Axs,Y (CH a)=some [B (decide (axV a))]) (U:Z [I k,I u,I v]=some [B (decide (1<=k/\k<=65536/\2<=u/\u<=65536/\1<=v/\v<=16777216))]) (V:M [I 30000]=some [I 524288]):
  Tf M Z Y (AU x++[I k,I u,I v,I r,I d])=some [B (decide (Fi x k u v r d))]/\UP M Z Y (AU x++[I k,I u,I v,I r,I d])=some [B (decide (Fi x k u v r d))]:=by
 have last:(d<=1048576->Fi x k u v r d)->some [B (decide (d<=1048576))]=some [B (decide (Fi x k u v r d))]:=λh=>by
  by_cases c:d<=1048576
  ·rw[ah c,ah (h c)]
  ·rw[aj c,aj λq:Fi x k u v r d=>c q.2.2.2.2]
 constructor
 ·refine dg (Zmk M Z Y ..) (eB (D x.a) (eNn (λh q=>h q.1.1) λE=>eB (D x.b) (eNn (λh q=>h q.1.2.1) λG=>eB (D x.c) (eNn (λh q=>h q.1.2.2) λJ=>eB U (eP (λh q=>h q.2.1) λL=> ?_)))));refine eP (λh q=>h q.2.2.1.1) λN=>eB V (eP (λh q=>h q.2.2.1.2) λO=>eP (λh q=>h q.2.2.2.1) λS=>last λT=>⟨⟨E,G,J⟩,L,⟨N,O⟩,S,T⟩)
 ·refine dg (Zjk M Z Y ..) (eB (D x.a) (eNn (λh q=>h q.1.1) λE=>eB (D x.b) (eNn (λh q=>h q.1.2.1) λG=>eB (D x.c) (eNn (λh q=>h q.1.2.2) λJ=>eB U (eP (λh q=>h q.2.1) λL=> ?_)))));refine eP (λh q=>h q.2.2.1.1) λN=>eB V (eP (λh q=>h q.2.2.1.2) λO=>eP (λh q=>h q.2.2.2.1) λS=>last λT=>⟨⟨E,G,J⟩,L,⟨N,O⟩,S,T⟩)
theorem Zt2:OU [I 30000]=some [I 524288]:=by
 have key:∀{M:Fn} {v:Int},M [I 30000,I 1048576,I 60000,I 2]=some [I v,B true]->Zc M [I 30000]=some [I v]:=λh=>by
  rw[Zik,h];rfl
 have e:C9 (30000*1048576) 60000=524288:=by unfold C9;omega
 have h:=key (Y8 (a:=30000) (b:=1048576) (c:=60000) (by unfold i64;omega) (by unfold i64;omega) (by omega) (by decide));rw[e]at h;exact h
theorem Zg1:NV [I 30000]=some [I 524288]:=by
 have key:∀{M:Fn},M [I 62914620000,I 120000]=some [I 524288]->Ue M [I 30000]=some [I 524288]:=λh=>by
  rw[Zst];rw[Ae (x:=2*30000),Ae (x:=2*30000*4096),Ae (x:=2*30000*4096*256),Ae (x:=2*30000*4096*256+60000)];exact eB h rfl
 refine key ?_;show XJ _=_;rw[Q9w];have e1:(62914620000:Int).tmod 120000=60000:=by decide
 have e2:(62914620000:Int).tdiv 120000=524288:=by decide
 rw[e1,e2,Ae (x:=(524288:Int))];rfl
theorem Q6f (a b c:Int):NI [I a,I b,I c]=some [B (decide (1<=a/\a<=65536/\2<=b/\b<=65536/\1<=c/\c<=16777216))]:=by
 show Um _=_;rw[Zoj];by_cases D:1<=a<;>by_cases E:a<=65536<;>by_cases G:2<=b<;>by_cases J:b<=65536<;>by_cases L:1<=c<;>by_cases M:c<=16777216<;>simp[D,E,G,J,L,M]
theorem Qxb (x:Ax3) (pa pb pc bF lag:Int):RB (AU x++[I pa,I pb,I pc,I bF,I lag])=some [B (decide (Fi x pa pb pc bF lag))]:=(Qlm Zrs (Zgn pa pb pc) Zt2).1
theorem Q23 (x:Ax3) (pa pb pc bF lag:Int):Ps (AU x++[I pa,I pb,I pc,I bF,I lag])=some [B (decide (Fi x pa pb pc bF lag))]:=(Qlm Zbj (Q6f pa pb pc) Zg1).2
def G3 (a:Axs) (q:Int):Prop:=a.low<=q/\q<=a.aY
def FE (x:Ax3) (q:Pt):Prop:=G3 x.a q.x/\G3 x.b q.y/\G3 x.c q.z
def ptN (p:Pth):Nat->Pt
 |0=>p.aQ
 |j+1=>(sgA p.aF j).to
def Gw (x:Ax3) (p:Pth):Prop:=∀j<p.aF.length+1,FE x (ptN p j)
def C1 (p:Pth) (i:Nat):List Pt:=p.aQ::(p.aF.take i).map Sgm.to
theorem Zbr (D:j<p.aF.length+1):nth [] ((C1 p p.aF.length).map ptR) j=ptR (ptN p j):=by
 cases j with
 |zero=>rfl
 |succ j=>
  have D:j<p.aF.length:=by omega
  unfold C1;rw[fo];show nth [] ((p.aF.map Sgm.to).map ptR) j=_;rw[LY [] _ j (by simpa using D)];simp only[List.getElem_map,ptN,JQ D]
theorem Qks {M:Fn} {x:Ax3} {p:Pth} (E:p.aF.length<=1000000):∀m i:Nat,i+m=p.aF.length->
  An (Qo M) (.vC kPt ((C1 p i).map ptR):: .vC Af (p.aF.map Ax)::I (p.aF.map Ax).length::I (i:Int)::AU x)=some (1, .vC kPt ((C1 p p.aF.length).map ptR)::AU x)
 |0,i,e=>by
  have e:i=p.aF.length:=by omega
  subst e;refine AG ?_ (by simp);refine dg (Qtv M ..) (eF (aj (by rw[af];omega)) rfl)
 |m+1,i,e=>by
  have D:i<p.aF.length:=by omega
  have G:Qo M (.vC kPt ((C1 p i).map ptR):: .vC Af (p.aF.map Ax)::I (p.aF.map Ax).length::I (i:Int)::AU x)=some (0, .vC kPt ((C1 p (i+1)).map ptR):: .vC Af (p.aF.map Ax)::I (p.aF.map Ax).length::I ((i+1:Nat):Int)::AU x):=by
   refine dg (Qtv M ..) (eT (ah (by rw[af];omega)) (eT (by rw[af,ah (by omega),ah (by omega)];rfl) ?_));rw[ag,GN D,Ae (x:=(i:Int)+1)];refine eT (Hu ?_) ?_
   ·simp only[am,af,bf,C1,fq,bm];omega
   ·have e2:(C1 p (i+1)).map ptR=(C1 p i).map ptR++[[I (sgA p.aF i).to.x,I (sgA p.aF i).to.y,I (sgA p.aF i).to.z]]:=by
     unfold C1;rw[iz,an D,JQ D];simp only[Option.toList_some,bh,ba,cm,aq]
    rw[e2];rfl
  rw[AR G];exact Qks E m (i+1) (by omega)
theorem Q52 (L:∀(a:Axs) (q:Int),M (CH a++[I q])=some [B (decide (G3 a q))]) {x:Ax3} {p:Pth} (S:p.aF.length<=1000000) {i:Nat} (O:i<p.aF.length+1):
  Qgz M N (.vC kPt ((C1 p p.aF.length).map ptR)::I ((C1 p p.aF.length).map ptR).length::I (i:Int)::AU x)=some (if FE x (ptN p i)then(0, .vC kPt ((C1 p p.aF.length).map ptR)::I ((C1 p p.aF.length).map ptR).length::I ((i+1:Nat):Int)::AU x)else(1,[B false])):=by
 have D:(((C1 p p.aF.length).map ptR).length:Int)=p.aF.length+1:=by simp[C1]
 refine dg (Qvw M N ..) (eT (ah (by rw[D];omega)) (eT (by rw[D,ah (by omega),ah (by omega)];rfl) ?_));rw[ag,Zbr O,Ae (x:=(i:Int)+1)];refine eB (L x.a (ptN p i).x) ?_;by_cases E:G3 x.a (ptN p i).x
 ·refine eF (by simp only[bA,CX,CD];rw[ah E];rfl) (eB (L x.b (ptN p i).y) ?_);by_cases G:G3 x.b (ptN p i).y
  ·refine eF (by simp only[bA,CX,CD];rw[ah G];rfl) (eB (L x.c (ptN p i).z) ?_);by_cases J:G3 x.c (ptN p i).z
   ·refine eF (by simp only[bA,CX,CD];rw[ah J];rfl) ?_;rw[aa (show FE x (ptN p i)from⟨E,G,J⟩)];rfl
   ·refine eT (by simp only[bA,CX,CD];rw[aj J];rfl) ?_;rw[ab λh:FE x (ptN p i)=>J h.2.2]
  ·refine eT (by simp only[bA,CX,CD];rw[aj G];rfl) ?_;rw[ab λh:FE x (ptN p i)=>G h.2.1]
 ·refine eT (by simp only[bA,CX,CD];rw[aj E];rfl) ?_;rw[ab λh:FE x (ptN p i)=>E h.1]
theorem Zuo (G:∀n D E:Int,M [I n,I D,I E]=some [B (decide (D<=n/\n<=E))]) (a:Axs) (q:Int):Qdq M (CH a++[I q])=some [B (decide (G3 a q))]:=
 dg (Q7o M ..) (eB (G _ _ _) (ie (λb=>some [B b]) (decide_eq_decide.2 (show(a.low<=q/\q<=a.aY)↔G3 a q from Iff.rfl))))
theorem Zrj (a:Axs) (q:Int):JF (CH a++[I q])=some [B (decide (G3 a q))]:=Zuo Q3 a q
theorem Qo3 {α:Type} (i1 D:Decidable E) {a b:α}: @ite α E i1 a b= @ite α E D a b:=by congr
theorem Q86 {D E:Lp} {x:Ax3} (G:D (.vC kPt ((C1 p 0).map ptR):: .vC Af (p.aF.map Ax)::I (p.aF.map Ax).length::I ((0:Nat):Int)::AU x)=some (1, .vC kPt ((C1 p p.aF.length).map ptR)::AU x))
  (J:E (.vC kPt ((C1 p p.aF.length).map ptR)::I ((C1 p p.aF.length).map ptR).length::I ((0:Nat):Int)::AU x)=some (if Gw x p then(2,[])else(1,[B false]))):
  Wn M D E (AU x++AA p)=some [B (decide (Gw x p))]:=by
 refine dg (Zgz M D E ..) (eB G (eT rfl (eB J ?_)));by_cases c:Gw x p
 ·rw[aa c,ah c];rfl
 ·rw[ab c,aj c];rfl
theorem Qmz (x:Ax3) {p:Pth} (D:p.aF.length<=1000000):NP (AU x++AA p)=some [B (decide (Gw x p))]:=
 Q86 (Qks D p.aF.length 0 (by omega))
  (dg (NT (enc := λi : Nat => .vC kPt ((C1 p p.aF.length).map ptR) :: I ((C1 p p.aF.length).map ptR).length :: I (i : Int) :: AU x) (P := λj => FE x (ptN p j)) (λi E _ => Q52 Zrj D E)
   (dg (Qvw _ _ ..) (eF (aj (by simp[C1])) rfl)) (p.aF.length+1) 0 (by omega) λj G=>by omega) (ie some (Qo3 _ _)))
theorem eL [Decidable E] {q:Prop} [Decidable q] {a b:Nat×List AC} {r:Option (Nat×List AC)} (h:E-> ¬q) (g: ¬E->r=some (if q then a else b)):cond (decide E) (some b) r=some (if q then a else b):=by
 by_cases c:E
 ·rw[ah c,ab (h c)];rfl
 ·rw[aj c];exact g c
theorem Zt9 {x:Ax3} (U:p.aF.length<=1000000) {i:Nat} (E:i<p.aF.length+1):
  Wd (I ((i:Int)-1)::(AU x++[I p.aQ.x,I p.aQ.y,I p.aQ.z, .vC Af (p.aF.map Ax), .vC kPt (p.aD.map A1)]))=
   some (if FE x (ptN p i)then(0,I (((i+1:Nat):Int)-1)::(AU x++[I p.aQ.x,I p.aQ.y,I p.aQ.z, .vC Af (p.aF.map Ax), .vC kPt (p.aD.map A1)]))else(1,[B false])):=by
 have D:((p.aF.map Ax).length:Int)=p.aF.length:=by rw[af]
 refine dg (Qrz ..) (eT (ah (by rw[D];omega)) ?_);have T:O ((i:Int)-1+1)=((i+1:Nat):Int)-1:=by rw[Ae];omega
 rw[T];cases i with
 |zero=>
  refine eF (aj (by omega)) ?_;refine eL (λh q=>by have:=q.1.1;simp only[ptN]at this;omega) λG=>eL (λh q=>by have:=q.1.2;simp only[ptN]at this;omega) λJ=>eL (λh q=>by have:=q.2.1.1;simp only[ptN]at this;omega) λL=>
   eL (λh q=>by have:=q.2.1.2;simp only[ptN]at this;omega) λM=>eL (λh q=>by have:=q.2.2.1;simp only[ptN]at this;omega) λN=>eL (λh q=>by have:=q.2.2.2;simp only[ptN]at this;omega) λS=> ?_
  rw[aa (show FE x (ptN p 0)from⟨⟨by simp only[ptN];omega,by simp only[ptN];omega⟩,⟨by simp only[ptN];omega,by simp only[ptN];omega⟩,by simp only[ptN];omega,by simp only[ptN];omega⟩)];rfl
 |succ i=>
  have E:i<p.aF.length:=by omega
  refine eT (ah (by omega)) (eT (by rw[D,ah (by omega),ah (by omega)];rfl) ?_);rw[show(((i+1:Nat):Int)-1).toNat=i by omega,GN E];dsimp only[jA,gA,bA,wA,CX,Ah];refine eL (λh q=>by have:=q.1.1;simp only[ptN]at this;exact absurd this (Int.not_le.2 h)) λG=>eL (λh q=>by have:=q.1.2;simp only[ptN]at this;exact absurd this (Int.not_le.2 h)) λJ=>eL (λh q=>by have:=q.2.1.1;simp only[ptN]at this;exact absurd this (Int.not_le.2 h)) λL=>
   eL (λh q=>by have:=q.2.1.2;simp only[ptN]at this;exact absurd this (Int.not_le.2 h)) λM=>eL (λh q=>by have:=q.2.2.1;simp only[ptN]at this;exact absurd this (Int.not_le.2 h)) λN=>eL (λh q=>by have:=q.2.2.2;simp only[ptN]at this;exact absurd this (Int.not_le.2 h)) λS=> ?_
  rw[aa (show FE x (ptN p (i+1))from⟨⟨gm.1 G,gm.1 J⟩,⟨gm.1 L,gm.1 M⟩,gm.1 N,gm.1 S⟩)];rfl
theorem Zek {x:Ax3} (h:N (I (((0:Nat):Int)-1)::(AU x++[I p.aQ.x,I p.aQ.y,I p.aQ.z, .vC Af (p.aF.map Ax), .vC kPt (p.aD.map A1)]))=some (if Gw x p then(2,[])else(1,[B false]))):
  Z5 N (AU x++AA p)=some [B (decide (Gw x p))]:=by
 refine dg (Q8y N ..) (eB h ?_);by_cases c:Gw x p
 ·rw[aa c,ah c];rfl
 ·rw[ab c,aj c];rfl
theorem Qly (x:Ax3) {p:Pth} (D:p.aF.length<=1000000):Ri (AU x++AA p)=some [B (decide (Gw x p))]:=
 Zek (dg (NT (enc := λi : Nat => I ((i : Int) - 1) :: (AU x ++ [I p.aQ.x, I p.aQ.y, I p.aQ.z, .vC Af (p.aF.map Ax), .vC kPt (p.aD.map A1)])) (P := λj => FE x (ptN p j)) (λi E _ => Zt9 D E)
  (dg (Qrz ..) (eF (aj (by rw[af];omega)) rfl)) (p.aF.length+1) 0 (by omega) λj G=>by omega) (ie some (Qo3 _ _)))
theorem Zgr
  (D:S (AU K.x++[I K.pa,I K.pb,I K.pc,I K.bF,I K.lag])=some [B true]) (E:T (AU K.x++[I K.pa,I K.pb,I K.pc,I K.bF,I K.lag])=some (AU K.x++[I K.pa,I K.pb,I K.pc,I K.bF,I K.lag]))
  (G:V []=some [I 100,I 100,B false,B false,B false]) (J:W []=some [I 0,I 0,I (-1)])
  (L:Y (.vC Ac (K.aA.map Ag)::B K.closed::AD (Jw K) Bl)=some (I 0::AD (US K) Bl))
  (N:Z (AA K.p++AU K.x++[I 1,I 1,I 1,I 0,I K.len])=some (AS K.t)) (O:M [I 0]=some [I 0,I 0,I 0,I 0,I 0,I 0]):
  NZ M Z Y W V T S (AU K.x++[I K.pa,I K.pb,I K.pc,I K.bF,I K.lag]++[.vC Ac (K.aA.map Ag),B K.closed])=some (I 0::AD K Bl):=by
 have key:Out (λo=>o=I 0::AD K Bl) (NZ M Z Y W V T S (AU K.x++[I K.pa,I K.pb,I K.pc,I K.bF,I K.lag]++[.vC Ac (K.aA.map Ag),B K.closed])):=by
  refine Out.eqv (SB M Z Y W V T S ..) ?_;refine .bind (p:=λo=>o=_) ⟨_,D,rfl⟩ λo e=> ?_;subst e;refine .cond (λe=>by cases e) λ_=> ?_;refine .bind (p:=λo=>o=_) ⟨_,E,rfl⟩ λo e=> ?_;subst e;refine .bind (p:=λo=>o=_) ⟨_,G,rfl⟩ λo e=> ?_;subst e;refine .bind (p:=λo=>o=_) ⟨_,J,rfl⟩ λo e=> ?_;subst e;refine .bind (p:=λo=>o=I 0::AD (US K) Bl) ⟨_,L,rfl⟩ λo e=> ?_;subst e;refine .cond (λe=>by cases e) λ_=> ?_;refine .bind (p:=λo=>o=_) ⟨_,N,rfl⟩ λo e=> ?_;subst e;refine .bind (p:=λo=>o=_) ⟨_,O,rfl⟩ λo e=> ?_;subst e;exact .some (by kernel_rfl)
 obtain⟨o,h,rfl⟩:=key;exact h
structure MachOK (x : Ax3) (pa pb pc bF lag : Int) : Prop where
 x:Ax3M x
 plan:Plan3 pa pb pc
 bF:1<=bF/\bF<=60000
 lag:0<=lag/\lag<=40
theorem Zqn {l:List Sgm} (h:i<l.length):nth [] (l.map Ax) i=Ax l[i]:=DF _ _ _ _ h
theorem Zrh {l:List Mrk} (h:i<l.length):nth [] (l.map A1) i=A1 l[i]:=DF _ _ _ _ h
theorem Qtg {p:Pth} (J:p.aF.length<=1000000):∀(k i:Nat),i+k=p.aF.length->
  An R7 (I p.aF.length::I i::(AA p++AA p))=some (2,AA p++AA p)
 |0,i,L=>by
  refine AG ?_ (by simp);simp only[AA,aq,ay];rw[Q2n,AM (by omega)]
 |k+1,i,L=>by
  have D:i<p.aF.length:=by omega
  have M:=Zqn D;have E:(0:Int)<=(i:Int)/\(i:Int)<(p.aF.length:Int):=by omega
  have G:R7 (I p.aF.length::I i::(AA p++AA p))=some (0,I p.aF.length::I (i+1:Nat)::(AA p++AA p)):=by
   simp only[AA,aq,ay];rw[Q2n];simp only[go_sem,af,ag,M,aa E];rw[aa,ab (by simp),Ae];rfl
  rw[AR G];exact Qtg J k (i+1) (by omega)
theorem Qqg {N:Lp} {p:Pth} (J:p.aD.length<=1000000):∀(k i:Nat),i+k=p.aD.length->
  An (QY N) (I p.aD.length::I i::(AA p++AA p))=some (2,[])
 |0,i,L=>by
  refine AG ?_ (by simp);simp only[AA,aq,ay];rw[Qsq,AM (by omega)]
 |k+1,i,L=>by
  have D:i<p.aD.length:=by omega
  have M:=Zrh D;have E:(0:Int)<=(i:Int)/\(i:Int)<(p.aD.length:Int):=by omega
  have G:QY N (I p.aD.length::I i::(AA p++AA p))=some (0,I p.aD.length::I (i+1:Nat)::(AA p++AA p)):=by
   simp only[AA,aq,ay];rw[Qsq];simp only[go_sem,af,ag,M,aa E];rw[aa,ab (by simp),Ae];rfl
  rw[AR G];exact Qqg J k (i+1) (by omega)
theorem Zsb {N4 N10:Lp} (E:N4 (I p.aF.length::I 0::(AA p++AA p))=some (2,AA p++AA p)) (D:N10 (I p.aD.length::I 0::(AA p++AA p))=some (2,[])):
  Vd N4 N10 (AA p++AA p)=some [B true]:=by
 simp only[AA,aq,ay]at E D⊢;rw[Zgd];simp only[go_sem,af,E,D];rw[ab (by simp),ab (by simp),ab (by simp),ab (by decide),ab (by decide)]
theorem Q3p (D:p.aF.length<=1000000) (E:p.aD.length<=1000000):N0 (AA p++AA p)=some [B true]:=
 Zsb (N4:=RP) (N10:=Yj) (Qtg D p.aF.length 0 (by omega)) (Qqg E p.aD.length 0 (by omega))
abbrev CB (x:Ax3) (pa pb pc bF lag:Int):List AC:=AU x++[I pa,I pb,I pc,I bF,I lag]
abbrev Kc (K:Kf):List AC:=AU K.x++[I K.pa,I K.pb,I K.pc,I K.bF,I K.lag,B K.closed]++AA K.p++AS K.t++[I 0,I 0,I 0,I 0,I 0,I 0,I 100,I 100,B false,B false,B false,I 0,I 0,I (-1),I 1,I 0,I 0,I 0,I 0,I 0,I 0,I 0,I 0,I (-1),B false,I 0,B false,I 0,I (-1),I 0,I 0,I 0,I 0,I 0,I 0]
theorem V0 {a:Axs} (h:axV a):a.aW.length<=64:=by
 rcases h.2.2.2 with e|e
 ·rw[e];simp
 ·exact e.1
theorem Qea {x:Ax3} (h:Fi x k u v r d):Ax3OK x:=
 ⟨⟨h.1.1.2.2.1.1,by have:=h.1.1.2.2.1.2;omega⟩,⟨h.1.2.1.2.2.1.1,by have:=h.1.2.1.2.2.1.2;omega⟩,⟨h.1.2.2.2.2.1.1,by have:=h.1.2.2.2.2.1.2;omega⟩⟩
theorem Qzx {x:Ax3} (h:Fi x k u v r d):Qj (CB x k u v r d)=some (CB x k u v r d):=by
 have D:=V0 h.1.1;have hb:=V0 h.1.2.1;have E:=V0 h.1.2.2
 have key:Xz (CB x k u v r d)=some (CB x k u v r d):=by
  refine dg (Q3n ..) ?_;rw[Hu (by rw[af];omega),Hu (by rw[af];omega),Hu (by rw[af];omega)];rfl
 exact key
theorem Q4n (c:Cv) (D:W [.vC Ac (K.aA.map Ag)]=some (AA K.p++[I 0])) (E:Y (AU K.x++AA K.p)=some [B false]):
  K8 M Z Y W (.vC Ac (K.aA.map Ag)::B K.closed::AD (Jw K) c)=some (I 17::AD (Jw K) c):=
 dg (Qms M Z Y W _ _ (Jw K) c) (eB D (eF rfl (eB E (eT rfl rfl))))
theorem Qu5 (he:k≠0)
  (D : S (CB K.x K.pa K.pb K.pc K.bF K.lag) = some [B false] /\ k = 1 \/ S (CB K.x K.pa K.pb K.pc K.bF K.lag) = some [B true] /\ T (CB K.x K.pa K.pb K.pc K.bF K.lag) = some (CB K.x K.pa K.pb K.pc K.bF K.lag) /\
   V []=some [I 100,I 100,B false,B false,B false]/\W []=some [I 0,I 0,I (-1)]/\Y (.vC Ac (K.aA.map Ag)::B K.closed::AD (Jw K) Bl)=some (I k::AD (Jw K) Bl)):
  NZ M Z Y W V T S (CB K.x K.pa K.pb K.pc K.bF K.lag++[.vC Ac (K.aA.map Ag),B K.closed])=some [I k]:=by
 rcases D with⟨D,rfl⟩|⟨D,E,G,J,L⟩
 ·exact dg (SB M Z Y W V T S ..) (eB D (eT rfl rfl))
 ·exact dg (SB M Z Y W V T S ..) (eB D (eF rfl (eB E (eB G (eB J (eB L (eT (bnT he) rfl)))))))
theorem Q6c (D:S (CB K.x K.pa K.pb K.pc K.bF K.lag)=some [B false]):
  Pm M Z Y W V T S (CB K.x K.pa K.pb K.pc K.bF K.lag++[.vC Ac (K.aA.map Ag),B K.closed])=some [I 1]:=
 dg (TG M Z Y W V T S ..) (eB D (eT rfl rfl))
theorem Zf9 (D:S (CB K.x K.pa K.pb K.pc K.bF K.lag)=some [B true]) (E:T [.vC Ac (K.aA.map Ag)]=some (AA K.p++[I 0])) (G:V (AU K.x++AA K.p)=some [B false]):
  Pm M Z Y W V T S (CB K.x K.pa K.pb K.pc K.bF K.lag++[.vC Ac (K.aA.map Ag),B K.closed])=some [I 17]:=
 dg (TG M Z Y W V T S ..) (eB D (eF rfl (eB E (eF rfl (eB G (eT rfl rfl))))))
theorem Zta (U:K.aA.length<=15) (E:S (CB K.x K.pa K.pb K.pc K.bF K.lag)=some [B true]) (G:T [.vC Ac (K.aA.map Ag)]=some (AA K.p++[I 0])) (J:V (AU K.x++AA K.p)=some [B true])
  (L:W []=some [I 100,I 100,B false,B false,B false]) (N:Y []=some [I 0,I 0,I (-1)]) (D:Z (AA K.p)=some [I K.len]) (O:M (AA K.p++AU K.x++[I 1,I 1,I 1,I 0,I K.len])=some (AS K.t)):
  Pm M Z Y W V T S (CB K.x K.pa K.pb K.pc K.bF K.lag++[.vC Ac (K.aA.map Ag),B K.closed])=some (.vC Ac ([]++K.aA.map Ag)::I 0::Kc K):=
 dg (TG M Z Y W V T S ..) (eB E (eF rfl (eB G (eF rfl (eB J (eF rfl (eT (Hu (by simp;omega)) (eB L (eB N (eB D (eB O rfl)))))))))))
theorem Qk0:(Qc []=some [I 100,I 100,B false,B false,B false]/\PT []=some [I 0,I 0,I (-1)])/\Pu []=some [I 100,I 100,B false,B false,B false]/\PW []=some [I 0,I 0,I (-1)]:=
 ⟨⟨by show Z7 []=_;rw[Zp4],by show Tr []=_;rw[Q6j]⟩,by show WR []=_;rw[Q9f],by show Qed []=_;rw[Zch]⟩
theorem S9 {x:Ax3} {aA:List Itm} (E:aA.length<=15) (J:BM aA=0) (cl:Bool) (L:Fi x k u v r y) (c2:Gw x (AE aA)):
  FA (CB x k u v r y++[.vC Ac (aA.map Ag),B cl])=some (I 0::AD (kfP x k u v r y aA cl) Bl)/\
   HL (CB x k u v r y++[.vC Ac (aA.map Ag),B cl])=some (.vC Ac ([]++aA.map Ag)::I 0::Kc (kfP x k u v r y aA cl)):=by
 have G:=SL E J;have M:=G.count;have U:=Qxb x k u v r y;have V:=Q23 x k u v r y;obtain⟨⟨hO,hG⟩,N,O⟩:=Qk0;have hB:Jg [.vC Ac (aA.map Ag)]=some (AA (AE aA)++[I 0]):=by rw[Qsl E,aa J]
 have S:KP [.vC Ac (aA.map Ag)]=some (AA (AE aA)++[I 0]):=by rw[Qmi E,aa J]
 have X:=Qmz x (p:=AE aA) (by omega);have Y:=Qly x (p:=AE aA) (by omega);rw[ah L]at U V;rw[ah c2]at X Y;have hC:=Qzx L;have hS:KS [.vC Ac (aA.map Ag)]=some [I (HY aA)]:=by rw[Zcr E,aa J]
 have hT:=Zpv (d:=⟨1,1,1⟩) (from_:=0) (to:=AO (AE aA).aF) G (Qea L);have T:=Q7p (d:=⟨1,1,1⟩) (from_:=0) (to:=AO (AE aA).aF) G (Qea L);have D:=Q3h (K:=kfP x k u v r y aA cl) E Bl hB X (Qyu G.ok) hS;exact⟨Zgr (K:=kfP x k u v r y aA cl) U hC hO hG D hT (Zfi 0),Zta (K:=kfP x k u v r y aA cl) E V S Y N O (Qrd G.ok) T⟩
theorem Zm6 (x:Ax3) (pa pb pc bF lag:Int) {aA:List Itm} (E:aA.length<=15) (G:BM aA=0) (cl:Bool):
  (∃e:Int,FA (CB x pa pb pc bF lag++[.vC Ac (aA.map Ag),B cl])=some [I e]/\HL (CB x pa pb pc bF lag++[.vC Ac (aA.map Ag),B cl])=some [I e])\/
  (Fi x pa pb pc bF lag /\ FA (CB x pa pb pc bF lag ++ [.vC Ac (aA.map Ag), B cl]) = some (I 0 :: AD (kfP x pa pb pc bF lag aA cl) Bl) /\
   HL (CB x pa pb pc bF lag++[.vC Ac (aA.map Ag),B cl])=some (.vC Ac ([]++aA.map Ag)::I 0::Kc (kfP x pa pb pc bF lag aA cl))):=by
 have U:=SL E G;have J:=U.count;have L:=Qxb x pa pb pc bF lag;have M:=Q23 x pa pb pc bF lag;obtain⟨⟨V,X⟩,Y,a0⟩:=Qk0;by_cases D:Fi x pa pb pc bF lag
 ·by_cases O:Gw x (AE aA)
  ·exact .inr ⟨D,S9 E G cl D O⟩
  ·have hB:Jg [.vC Ac (aA.map Ag)]=some (AA (AE aA)++[I 0]):=by rw[Qsl E,aa G]
   have N:KP [.vC Ac (aA.map Ag)]=some (AA (AE aA)++[I 0]):=by rw[Qmi E,aa G]
   have S:=Qmz x (p:=AE aA) (by omega);have T:=Qly x (p:=AE aA) (by omega);rw[ah D]at L M;rw[aj O]at S T;exact .inl ⟨17,Qu5 (K:=kfP x pa pb pc bF lag aA cl) (by decide) (.inr ⟨L,Qzx D,V,X,Q4n (K:=kfP x pa pb pc bF lag aA cl) Bl hB S⟩),Zf9 (K:=kfP x pa pb pc bF lag aA cl) M N T⟩
 ·rw[aj D]at L M;exact .inl ⟨1,Qu5 (K:=kfP x pa pb pc bF lag aA cl) (by decide) (.inl ⟨L,rfl⟩),Q6c (K:=kfP x pa pb pc bF lag aA cl) M⟩
theorem Zs7 {D E G J L M N O S:Fn} {w:Rw} (T:S (AD K Bl)=some (AA K.p++AD K Bl)) (U:O (AA K.p++AA K.p)=some [B true]) (V:N (AD K Bl)=some (AS K.t++AD K Bl)) (X:M (AS K.t++AS K.t)=some [B true])
  (Y:L (AD K Bl)=some (I 0::I 0::I 0::I 0::I 0::I 0::AD K Bl)) (h4:J (AD K Bl)=some (I 100::I 100::B false::B false::B false::AD K Bl)) (h3:G (AD K Bl)=some (I 0::I 0::I (-1)::AD K Bl))
  (h2:E (AD K Bl)=some (I 1::I 0::I 0::I 0::AD K Bl)) (h1:D (AD K Bl)=some (I 0::AD K Bl)):
  ∃o,TM D E G J L M N O S (.vC Ac w::(AD K Bl++Kc K))=some o/\bA o 1=true:=by
 refine⟨_,dg (Q5y D E G J L M N O S ..) (eB T (eB U (eT rfl (eB V (eB X (eT rfl (eB Y (eT rfl (eB h4 (eT rfl (eB h3 (eT rfl (eB h2 (eT rfl (eB h1 rfl))))))))))))))),rfl⟩
theorem Zr8 (w:Rw) (D:K.p.aF.length<=1000000) (E:K.p.aD.length<=1000000) (G:K.t.aE.length<=10000000):∃o,J5 (.vC Ac w::(AD K Bl++Kc K))=some o/\bA o 1=true:=
 Zs7 (by
  show ZP _=_;rw[Zjv];exact eT (Hu (by rw[af];omega)) (eT (Hu (by rw[af];omega)) rfl)) (Q3p D E) (by
  show Qbb _=_;rw[Zig];exact eT (Hu (by rw[af];omega)) rfl) (Zix G) (by show U8 _=_;rw[Zmd]) (by show Zp _=_;rw[Zuc])
  (by show Xr _=_;rw[Q8u]) (by show Vr _=_;rw[Zex]) (by show Qeq _=_;rw[Zsk])
end Go.Bm
namespace Go.Bm
abbrev Rm:Axs:=⟨8,10,10,10,-16777216,16777216,0,0,0,[]⟩
abbrev HE:Ax3:=⟨Rm,Rm,Rm⟩
abbrev EK:Itm:=⟨12,0,⟨0,0,0⟩,⟨0,0,0⟩,0,⟨0,0,0⟩,0,false,0,false,0,0,0,0,0,false⟩
abbrev R_:Cv:={Bl with on:=true,aN:=true,cnt:=1,aM:=true}
abbrev k0N:Kf:=⟨HE,9,3,100,1,0,[],true,⟨⟨0,0,0⟩,[],[]⟩,0,0,⟨[],0,0,⟨1,1,1⟩⟩⟩
abbrev k1N:Kf:=⟨HE,9,3,100,1,0,[EK],true,⟨⟨0,0,0⟩,[],[⟨0,3,0⟩]⟩,0,0,⟨[],0,0,⟨1,1,1⟩⟩⟩
theorem Zic:Ji (.vC kPt []::AD k0N Bl)=some ([.vC kPt [], .vC Aa [],I 7,I 0,I 0,I 0,I 0,I 0,I 0]++AD k0N {Bl with aI:=7,aM:=true}):=by kernel_rfl
theorem Ztp:Ji (.vC kPt []::AD k1N Bl)=some ([.vC kPt [], .vC Aa [],I 2,I 0,I 0,I 0,I 0,I 0,I 0]++AD k1N R_):=by kernel_rfl
theorem Zph:(Ji (.vC kPt [[I 0,I 4,I 0]]::AD k1N R_)).map (λo=>gA o 2)=some 3:=by kernel_rfl
theorem Qmx:Fi HE 9 3 100 1 0:=by
 have h:axV Rm:=⟨⟨by decide,by decide,by decide,by decide⟩,⟨by decide,by decide,by decide⟩,by decide, .inl rfl⟩;exact⟨⟨h,h,h⟩,by decide,by decide,by decide⟩
theorem Ry:AE []=⟨⟨0,0,0⟩,[],[]⟩:=rfl
theorem Nn:AE [EK]=⟨⟨0,0,0⟩,[],[⟨0,3,0⟩]⟩:=by
 have e:Aw [EK] 1=⟨[],[⟨0,3,0⟩],0,0,-1,false,⟨0,0,0⟩,⟨0,0,0⟩⟩:=by
  rw[Aw,Aw];unfold Et;rw[ab (by decide)];rfl
 show Pth.mk (Aw [EK] 1).aQ (Aw [EK] 1).aF (Aw [EK] 1).aD=_;rw[e]
theorem inN (E:p.aQ=⟨0,0,0⟩) (h:p.aF=[]):Gw HE p:=λj D=>by
 rw[h]at D;have:j=0:=by simpa using D
 subst this;show FE HE p.aQ;rw[E];exact⟨⟨by decide,by decide⟩,⟨by decide,by decide⟩,by decide,by decide⟩
theorem kfN (h:(AE L).aF=[]) (D:HY L=0):kfP HE 9 3 100 1 0 L true=⟨HE,9,3,100,1,0,L,true,AE L,0,0,⟨[],0,0,⟨1,1,1⟩⟩⟩:=by
 show Kf.mk _ _ _ _ _ _ _ _ _ _ _ _=_;rw[D];unfold FX;rw[h];rfl
theorem Zni:HY []=0:=rfl
theorem Zju:HY [EK]=0:=by
 unfold HY;have e:Gy [EK] [EK].length=some 0:=by
  show Gy [EK] 1=_;unfold Gy;rw[ab (by decide)]
 rw[e];dsimp only;rw[ab λh=>by have:=h.1.1;revert this;decide,Nn];rfl
theorem Znk:BM []=0:=rfl
theorem Zk3:Items 4084 ⟨0,0,0⟩ [EK]:=by
 have h:=KQ (show Items 4084 ⟨0,0,0⟩ []from⟨trivial,λit h=>by cases h⟩) (it:=EK) (λh=>by unfold Az at h;simp at h) (.inr ⟨by decide,λh=>by simp at h,λh=>by simp at h,λh=>by simp at h⟩);exact h
theorem Q9b {o:List AC} (D:Z (CB HE 9 3 100 1 0++[.vC Ac (([]:List Itm).map Ag),B true])=some (I 0::AD k0N Bl)) (E:Z (CB HE 9 3 100 1 0++[.vC Ac ([EK].map Ag),B true])=some (I 0::AD k1N Bl))
  (s0:M (.vC kPt []::AD k0N Bl)=some ([.vC kPt [], .vC Aa [],I 7,I 0,I 0,I 0,I 0,I 0,I 0]++AD k0N {Bl with aI:=7,aM:=true}))
  (s1:M (.vC kPt []::AD k1N Bl)=some ([.vC kPt [], .vC Aa [],I 2,I 0,I 0,I 0,I 0,I 0,I 0]++AD k1N R_)) (s2:M (.vC kPt [[I 0,I 4,I 0]]::AD k1N R_)=some o) (s3:gA o 2=3):
  Ur M Z []=some [B true]:=by
 rw[Zj3];refine eB D (eT rfl (eB E (eT rfl (eF rfl (eF rfl (eB s0 (eT rfl (eB s1 (eT rfl (eB s2 ?_))))))))));show some [B (gA o 2==3)]=_;rw[s3];rfl
theorem Znx:Le []=some [B true]:=by
 obtain⟨o,s2,s3⟩:=bg.1 Zph;have D:=(S9 (aA:=[]) (by simp) Znk true Qmx (inN (by rw[Ry]) (by rw[Ry]))).1;have E:=(S9 (aA:=[EK]) (by simp) (Qwk (by omega) Zk3 (by simp)) true Qmx (inN (by rw[Nn]) (by rw[Nn]))).1;rw[kfN (by rw[Ry]) Zni,Ry]at D;rw[kfN (by rw[Nn]) Zju,Nn]at E;exact Q9b D E Zic Ztp s2 s3
structure Evn where
 (cycle aP n:Int)
structure EvOK (e : Evn) : Prop where
 aP:1<=e.aP/\e.aP<=13
 n: -5<=e.n/\e.n<=4194304
theorem Zaq {D MF:Fn} (E:GZ l D) (L:MF [.vC Aa l]=some [.vC Aa l,I 0]):
  ∃a b c:Int,Sr D MF [.vC Aa l]=some [I a,I b,I c]/\(1<=a/\a<=900)/\(2<=b/\b<=201)/\(1<=c/\c<=16000):=by
 obtain⟨v,J,g1,v0,O,-⟩:=E 0 (n:=900) (by omega);obtain⟨w,M,g2,w0,S,-⟩:=E J (n:=200) (by omega);obtain⟨y,T,N,y0,y1,-⟩:=E M (n:=16000) (by omega);have G:D [I 900, .vC Aa l,I 0]=some [I v, .vC Aa l,I J]:=g1;refine⟨1+v,2+w,1+y,?_,by omega,by omega,by omega⟩;rw[Zlz,L];simp only[ak,gA,wA,bA,jA,CX,JG,Kh,Bb];rw[G];simp only[ak,CX,JG,Kh];rw[g2];simp only[ak,CX,JG,Kh];rw[N];simp only[ak,CX,JG,Kh];rw[Ae (x:=1+v),Ae (x:=2+w),Ae (x:=1+y)]
theorem Q8c {E MP G MF:Fn} (J:GZ o E) (L:MF [.vC Aa o]=some [.vC Aa o,I 0]) {x:Ax3} (M:G [.vC Aa l]=some (AU x)) (N:Ax3M x) {a b c:Int} (O:MP [.vC Aa o]=some [I a,I b,I c]) (U:1<=a/\a<=900) (V:2<=b/\b<=201) (X:1<=c/\c<=16000) (S:o.length<=100000):
  ∃bF lag:Int,UT E MP G MF [.vC Aa l, .vC Aa o]=some (AU x++[I a,I b,I c,I bF,I lag])/\MachOK x a b c bF lag:=by
 obtain⟨k0,D⟩:∃k0:Nat,mn 3 (o.length:Int)=k0:=⟨(mn 3 (o.length:Int)).toNat,by unfold mn;split<;>omega⟩;obtain⟨v,T,g1,v0,Y,-⟩:=J k0 (n:=60000) (by omega);obtain⟨w,k2,g2,w0,w1,-⟩:=J T (n:=40) (by omega);refine⟨1+v,w,?_,⟨N,⟨by omega,by omega,by omega⟩,by omega,by omega⟩⟩;rw[Zlr,L,M,O];simp only[ak,gA,wA,bA,jA,CX,JG,Kh,Bb];rw[D,g1];simp only[ak,CX,JG,Kh];rw[g2];simp only[ak,CX,JG,Kh];rw[Ae (x:=1+v)];rfl
theorem Q5x (E:Src l) (D:Src o) (G:o.length<=100000):∃(x:Ax3) (a b c bF lag:Int),K9 [.vC Aa l, .vC Aa o]=some (AU x++[I a,I b,I c,I bF,I lag])/\MachOK x a b c bF lag:=by
 obtain⟨x,J,L⟩:=Zl7 E;obtain⟨a,b,c,M,N,O,S⟩:=Zaq (MF:=Dj) (Hr D) (Qv o);obtain⟨bF,lag,g1,g2⟩:=Q8c (MP:=Pf) (MF:=Dj) (Hr D) (Qv o) J L M N O S G;exact⟨x,a,b,c,bF,lag,g1,g2⟩
theorem Zp8 (L:List (Rw)) (D:L.length<=1000):Out (λo=>o.1=1/\o.2=[B false]\/o.1=2/\∀l∈L,l.length<=60) (An QG [.vC [Kd.sl Aa] (L.map λl=>[.vC Aa l]),I L.length,I ((0:Nat):Int)]):=by
 refine Ztw (λi:Nat=>[.vC [Kd.sl Aa] (L.map λl=>[.vC Aa l]),I L.length,I (i:Int)]) (λi=>i<=L.length/\∀l∈L.take i,l.length<=60) (λi=>L.length-i) _ ?_ 0 (by simp);rintro i ⟨J,E⟩;rw[Zmj];refine .cond (λc=> ?_) λc=> .some (.inr ⟨by simp, .inr ⟨rfl,?_⟩⟩)
 ·have c:(i:Int)<(L.length:Int):=Zj0 c;have G:i<L.length:=by omega
  refine .cond (λ_=> ?_) λe=>(inB (by omega) (by rw[af];exact c) e).elim;rw[ag,LY [] _ i (by rw[af];exact G),List.getElem_map];refine .cond (λ_=> .some (.inr ⟨by simp, .inl ⟨rfl,rfl⟩⟩)) λq=> ?_;have q: ¬(L[i].length:Int)>60:=Q2 q;rw[Ae (x:=(i:Int)+1)];refine .some (.inl ⟨rfl,i+1,rfl,⟨by omega,?_⟩,by omega⟩);intro l D;rw[iz,an G]at D;rcases co.1 D with D|D
  ·exact E l D
  ·simp at D;subst D;omega
 ·have c: ¬(i:Int)<(L.length:Int):=Q2 c;rw[ja (by omega)]at E;exact E
theorem Zpy {L:List (Rw)} (G:L.length<=1000):∃b:Bool,IM [.vC [Kd.sl Aa] (L.map λl=>[.vC Aa l])]=some [B b]/\(b=true->∀l∈L,l.length<=60):=by
 obtain⟨o,I,J⟩:=Zp8 L G;have e:IM [.vC [Kd.sl Aa] (L.map λl=>[.vC Aa l])]=S5 (An QG) [.vC [Kd.sl Aa] (L.map λl=>[.vC Aa l])]:=rfl;rw[e,Zlq,af];rw[show(0:Int)=((0:Nat):Int)from rfl,I];obtain⟨o1,o2⟩:=o;rcases J with⟨D,E⟩|⟨D,E⟩
 ·dsimp only at D E;subst D E;exact⟨false,rfl,λh=>by cases h⟩
 ·dsimp only at D E;subst D;exact⟨true,rfl,λ_=>E⟩
theorem Q3w (a b c d:Rw):∃q:Bool,M0 [.vC Aa a, .vC Aa b, .vC Aa c, .vC Aa d]=some [B q]/\(q=true->a.length<=60/\b.length<=60/\c.length<=60/\d.length<=60):=by
 obtain⟨q,G,D⟩:=Zpy (L:=[a,b,c,d]) (by simp);refine⟨q,?_,λh=>⟨D h a (by simp),D h b (by simp),D h c (by simp),D h d (by simp)⟩⟩;show Qho IM _=_;rw[Zla];have E:IM [.vC [Kd.sl Aa] [[.vC Aa a],[.vC Aa b],[.vC Aa c],[.vC Aa d]]]=some [B q]:=G;rw[E];rfl
end Go.Bm
namespace Go.Bm
open Classical
structure Mc where
 x:Ax3
 (a b c bF lag:Int)
abbrev mcR (m:Mc):List AC:=CB m.x m.a m.b m.c m.bF m.lag
def Oj (D E G:Fn) (cl:Bool) (w:Rw) (m:Mc):Prop:=
 (∃e:Int,D (mcR m++[.vC Ac w,B cl])=some [I e]/\E (mcR m++[.vC Ac w,B cl])=some [I e])\/
 ∃K:Kf,D (mcR m++[.vC Ac w,B cl])=some (I 0::AD K Bl)/\E (mcR m++[.vC Ac w,B cl])=some (.vC Ac ([]++w)::I 0::Kc K)/\∃o,G (.vC Ac ([]++w)::(AD K Bl++Kc K))=some o/\bA o 1=true
abbrev Iq (cl:Bool) (w:Rw) (m1 m2 m3:Mc) (k:Int):List AC:=B cl:: .vC Ac w::(mcR m1++mcR m2++mcR m3++[I k])
theorem Zf8 {cl:Bool} {w:Rw} (m1 m2 m3:Mc) (h:Oj Y Z M cl w m1):L8 M Z Y W V T S Q (Iq cl w m1 m2 m3 0)=some (0,Iq cl w m1 m2 m3 1):=by
 refine dg (R6 M Z Y W V T S Q ..) (eT rfl (eT rfl ?_));rcases h with⟨e,D,E⟩|⟨K,D,E,o,G,I⟩
 ·exact eB D (eF rfl (eB E (eF rfl (eF (bnF rfl) (by rw[Ae (x:=(0:Int)+1)];rfl)))))
 ·exact eB D (eT rfl (eB E (eT rfl (eF rfl (eB G (eF (by rw[I];rfl) (by rw[Ae (x:=(0:Int)+1)];rfl)))))))
theorem Zlm {cl:Bool} {w:Rw} (m1 m2 m3:Mc) (h:Oj Y Z M cl w m2):L8 M Z Y W V T S Q (Iq cl w m1 m2 m3 1)=some (0,Iq cl w m1 m2 m3 2):=by
 refine dg (R6 M Z Y W V T S Q ..) (eT rfl (eF rfl (eT rfl ?_)));rcases h with⟨e,D,E⟩|⟨K,D,E,o,G,I⟩
 ·exact eB D (eF rfl (eB E (eF rfl (eF (bnF rfl) (by rw[Ae (x:=(1:Int)+1)];rfl)))))
 ·exact eB D (eT rfl (eB E (eT rfl (eF rfl (eB G (eF (by rw[I];rfl) (by rw[Ae (x:=(1:Int)+1)];rfl)))))))
theorem Q8i {cl:Bool} {w:Rw} (m1 m2 m3:Mc) (h:Oj Y Z M cl w m3):L8 M Z Y W V T S Q (Iq cl w m1 m2 m3 2)=some (0,Iq cl w m1 m2 m3 3):=by
 refine dg (R6 M Z Y W V T S Q ..) (eT rfl (eF rfl (eF rfl (eT rfl ?_))));rcases h with⟨e,D,E⟩|⟨K,D,E,o,G,I⟩
 ·exact eB D (eF rfl (eB E (eF rfl (eF (bnF rfl) (by rw[Ae (x:=(2:Int)+1)];rfl)))))
 ·exact eB D (eT rfl (eB E (eT rfl (eF rfl (eB G (eF (by rw[I];rfl) (by rw[Ae (x:=(2:Int)+1)];rfl)))))))
theorem Ze4 {cl:Bool} {w:Rw} (h:∀m,Oj Y Z M cl w m) (m1 m2 m3:Mc):An (L8 M Z Y W V T S Q) (Iq cl w m1 m2 m3 0)=some (2,[]):=by
 rw[AR (Zf8 m1 m2 m3 (h m1)),AR (Zlm m1 m2 m3 (h m2)),AR (Q8i m1 m2 m3 (h m3))];exact AG (dg (R6 M Z Y W V T S Q ..) (eF rfl rfl)) (by decide)
theorem Zbs {l J pl:Rw} {cl q:Bool} (m0:Mc) (U:Q []=some [B true]) (X:S [.vC Aa l, .vC Aa J, .vC Aa pl, .vC Aa []]=some [B q])
  (w : q = true -> ∃ (u : Rw) (m : Mc) (k D E : Int), T [.vC Aa l, I 4, B false] = some [.vC Ac u] /\ V [.vC Aa J, .vC Aa pl] = some (mcR m) /\ W [I v, I 3] = some [I k] /\ (0 <= k /\ k < 3) /\ W [I v, I 400] = some [I D] /\ W [I r, I 400] = some [I E] /\
   ∀m1 m2 m3:Mc,N (Iq cl u m1 m2 m3 0)=some (2,[])):
  Wp M Z Y W V T S Q N (mcR m0++[.vC Aa l, .vC Aa J, .vC Aa pl,I v,I r,B cl])=some [B true]:=by
 refine dg (Zto M Z Y W V T S Q N ..) (eB U (eF rfl (eB X ?_)));cases q
 ·exact eT rfl rfl
 refine eF rfl ?_;refine eC (λ_=>rfl) λ_=> ?_;obtain⟨u,m,k,D,E,h1,G,h3,hk,h4,h5,L⟩:=w rfl;refine eB h1 (eB G (eB h3 (eB h4 (eB h5 ?_))));obtain rfl|rfl|rfl:k=0\/k=1\/k=2:=by omega
 ·refine eT rfl (eT rfl (eB G (eB (L m0 ⟨⟨{m.x.a with low:=O (0-D),aY:=E},m.x.b,m.x.c⟩,m.a,m.b,m.c,m.bF,m.lag⟩ m) rfl)))
 ·refine eF rfl (eT rfl (eF rfl (eT rfl (eB G (eB (L m0 ⟨⟨m.x.a,{m.x.b with low:=O (0-D),aY:=E},m.x.c⟩,m.a,m.b,m.c,m.bF,m.lag⟩ m) rfl)))))
 ·refine eF rfl (eF rfl (eT rfl (eF rfl (eF rfl (eT rfl (eB G (eB (L m0 ⟨⟨m.x.a,m.x.b,{m.x.c with low:=O (0-D),aY:=E}⟩,m.a,m.b,m.c,m.bF,m.lag⟩ m) rfl)))))))
theorem Zhs (J:L.length<=15) (E:BM L=0) (cl:Bool) (m:Mc):Oj FA HL J5 cl (L.map Ag) m:=by
 rcases Zm6 m.x m.a m.b m.c m.bF m.lag J E cl with⟨e,G,I⟩|⟨N,G,I⟩
 ·exact .inl ⟨e,G,I⟩
 ·have M:=SL J E;have D:=M.count;have O:(AE L).aD.length=L.length:=(Ly (Nt E).2 L.length (cq _)).aD;have S:=(Zvn (x:=m.x) ⟨1,1,1⟩ 0 (AO (AE L).aF) M (Qea N)).1;obtain⟨o,T,U⟩:=Zr8 (K:=kfP m.x m.a m.b m.c m.bF m.lag L cl) ([]++L.map Ag) (by show(AE L).aF.length<=_;omega) (by show(AE L).aD.length<=_;omega) S;exact .inr ⟨_,G,I,o,T,U⟩
theorem Zgv {l D pl:Rw} (cl:Bool) (m0:Mc) (L:Src l) (M:Src D) (N:Src pl) (J:i64 k) (O:i64 u):
  WF (mcR m0++[.vC Aa l, .vC Aa D, .vC Aa pl,I k,I u,B cl])=some [B true]:=by
 obtain⟨q,S,T⟩:=Q3w l D pl [];refine Zbs m0 Znx S λE=> ?_;obtain⟨Y,l1,l2,-⟩:=T E;obtain⟨p,aA,U,G,-,-,hlen⟩:=Zle L (most:=4) (by omega) false;have hlen:=hlen rfl;have V:=Qwk (by omega) G (show aA.length<=20000 by omega);obtain⟨x,a,b,c,bF,lag,X,-⟩:=Q5x M N (by omega);exact⟨aA.map Ag,⟨x,a,b,c,bF,lag⟩,k%3,k%400,u%400,U,X,Q8 J (by omega),⟨Int.emod_nonneg _ (by decide),Int.emod_lt_of_pos _ (by decide)⟩,Q8 J (by omega),Q8 O (by omega),Ze4 (Zhs (by omega) V cl)⟩
end Go.Bm
namespace Go.Bm
theorem UD {r:List AC} (h:okR Aa r):i64 (Ah (nth .dead r 0)):=by
 match r,h with
 |[],h=>exact h.elim
 |a::_,h=>exact Zd8 h.1
theorem Qf3 {r:List AC} (h:okR [Kd.sl Aa] r):Src (Bb (nth .dead r 0)):=by
 match r,h with
 |[],h=>exact h.elim
 |a::_,h=>
  have D:=h.1;unfold okC at D;refine⟨?_,λc E=>UD (D.2 c E).1⟩;have G:=D.1;simp only[maxLen]at G;show(Bb a).length<=_;omega
abbrev Qra:List Kd:=[kI,kI,kI,kI,kI,kI,kI,kI,kI,Kd.sl Aa,kI,kI,kI,kI,kI,kI,kI,kI,kI,Kd.sl Aa,kI,kI,kI,kI,kI,kI,kI,kI,kI,Kd.sl Aa,kI,kI,kI,kI,kI]
theorem Q4:∀{ks:List Kd} {r:List AC},okR ks r->∀(i:Nat) (k:Kd),ks[i]? =some k->okC k (nth .dead r i)
 |[],_,_,i,k,e=>by simp at e
 |_::_,[],h,_,_,_=>h.elim
 |k0::ks,a::r,h,0,k,e=>by
  simp only[List.getElem?_cons_zero,ap]at e;subst e;exact h.1
 |k0::ks,a::r,h,i+1,k,e=>Q4 h.2 i k (by simpa using e)
def Qr (r:List AC) (i:Nat):List Int:=(Bb (nth .dead r i)).map λc=>Ah (nth .dead c 0)
theorem Wm {r:List AC} (h:okC (Kd.sl Aa) (nth .dead r i)):Bb (nth .dead r i)=(Qr r i).map AB:=by
 unfold okC at h;exact Q0q λc D=>(h.2 c D).2
def mcO (r:List AC):Mc:=⟨⟨⟨Ah (nth .dead r 0),Ah (nth .dead r 1),Ah (nth .dead r 2),Ah (nth .dead r 3),Ah (nth .dead r 4),Ah (nth .dead r 5),Ah (nth .dead r 6),Ah (nth .dead r 7),Ah (nth .dead r 8),Qr r 9⟩,⟨Ah (nth .dead r 10),Ah (nth .dead r 11),Ah (nth .dead r 12),Ah (nth .dead r 13),Ah (nth .dead r 14),Ah (nth .dead r 15),Ah (nth .dead r 16),Ah (nth .dead r 17),Ah (nth .dead r 18),Qr r 19⟩,⟨Ah (nth .dead r 20),Ah (nth .dead r 21),Ah (nth .dead r 22),Ah (nth .dead r 23),Ah (nth .dead r 24),Ah (nth .dead r 25),Ah (nth .dead r 26),Ah (nth .dead r 27),Ah (nth .dead r 28),Qr r 29⟩⟩,Ah (nth .dead r 30),Ah (nth .dead r 31),Ah (nth .dead r 32),Ah (nth .dead r 33),Ah (nth .dead r 34)⟩
theorem Zfy {r:List AC} (h:okR Qra r) {l D pl:Rw} {E G:Int} (cl:Bool) (J:Src l) (L:Src D) (M:Src pl) (N:i64 E) (O:i64 G):
  WF [I (Ah (nth .dead r 0)),I (Ah (nth .dead r 1)),I (Ah (nth .dead r 2)),I (Ah (nth .dead r 3)),I (Ah (nth .dead r 4)),I (Ah (nth .dead r 5)),I (Ah (nth .dead r 6)),I (Ah (nth .dead r 7)),I (Ah (nth .dead r 8)), .vC Aa (Bb (nth .dead r 9)),I (Ah (nth .dead r 10)),I (Ah (nth .dead r 11)),I (Ah (nth .dead r 12)),I (Ah (nth .dead r 13)),I (Ah (nth .dead r 14)),I (Ah (nth .dead r 15)),I (Ah (nth .dead r 16)),I (Ah (nth .dead r 17)),I (Ah (nth .dead r 18)), .vC Aa (Bb (nth .dead r 19)),I (Ah (nth .dead r 20)),I (Ah (nth .dead r 21)),I (Ah (nth .dead r 22)),I (Ah (nth .dead r 23)),I (Ah (nth .dead r 24)),I (Ah (nth .dead r 25)),I (Ah (nth .dead r 26)),I (Ah (nth .dead r 27)),I (Ah (nth .dead r 28)), .vC Aa (Bb (nth .dead r 29)),I (Ah (nth .dead r 30)),I (Ah (nth .dead r 31)),I (Ah (nth .dead r 32)),I (Ah (nth .dead r 33)),I (Ah (nth .dead r 34)), .vC Aa l, .vC Aa D, .vC Aa pl,I E,I G,B cl]=some [B true]:=by
 have e:=Zgv cl (mcO r) J L M N O;rw[Wm (Q4 h 9 _ rfl),Wm (Q4 h 19 _ rfl),Wm (Q4 h 29 _ rfl)];exact e
end Go.Bm
