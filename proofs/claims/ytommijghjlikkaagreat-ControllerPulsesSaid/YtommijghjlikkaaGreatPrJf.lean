/- laid together -/
import Derived.Test.YtommijghjlikkaaGreatPrPd
import Derived.Test.YtommijghjlikkaaGreatPrAtF
import Derived.Test.YtommijghjlikkaaGreatPrKj
import Derived.Test.YtommijghjlikkaaGreatMx3
import Derived.Test.YtommijghjlikkaaGreatMy1
set_option linter.unusedVariables false
set_option linter.unusedSimpArgs false
set_option maxRecDepth 100000
open Go.IntKind (wrap)
namespace Go.Bm
open Classical
theorem Zzw (a:Pt) (aF:List Sgm):aF=[]\/∃l g,aF=l++[g]/\EX a aF=g.to/\((aF.length:Int)>0)/\nth [] (aF.map Au) (aF.length-1)=Au g:=by
 rcases List.eq_nil_or_concat aF with h|⟨l,g,h⟩
 ·exact .inl h
 ·right;rw[List.concat_eq_append]at h;refine⟨l,g,h,?_,?_,?_⟩
  ·rw[h];exact SF g a l
  ·rw[h];simp
  ·have hl:aF.length-1<aF.length:=by rw[h];simp
   rw[I5 _ _ _ _ hl];congr 1;subst h;simp
theorem Zo3 {ML:Fn} {aD:Rw} {q g st:Pt} {gl item feed lead len sp mid:Int}:
  S_ ML [.view Ag [], .view AD aD,I q.x,I q.y,I q.z,I g.x,I g.y,I g.z,I gl,I item,I feed,I lead,I st.x,I st.y,I st.z,B false,I len,I sp,I mid]=
   some [.view Ag [], .view AD aD,I q.x,I q.y,I q.z,B true,I len,I sp,I mid]:=by
 rw[Q2x];simp
theorem Z0t {ML:Fn} {aF:List Sgm} {aD:Rw} {q g st at_:Pt} {gl item feed lead len sp mid:Int} (hat:EX st aF=at_)
  (hL:ML [I at_.x,I at_.y,I at_.z,I q.x,I q.y,I q.z]=some [I (AB at_ q)]) (hl:0<=AB at_ q/\AB at_ q<=268435456) (hs:aF.length+1<=1048577) (hlen:0<=len/\len<=4000000000000000000):
  S_ ML [.view Ag (aF.map Au), .view AD aD,I q.x,I q.y,I q.z,I g.x,I g.y,I g.z,I gl,I item,I feed,I lead,I st.x,I st.y,I st.z,B true,I len,I sp,I mid]=
   some [.view Ag ((Bb item feed lead (aF,len,at_) q).1.map Au), .view AD aD,I st.x,I st.y,I st.z,B true,I (Bb item feed lead (aF,len,at_) q).2.1,I sp,I mid]:=by
 have hap:(aF.map Au++[[I q.x,I q.y,I q.z,I (AB at_ q),I item,I feed,I lead]])=(aF++[(⟨q,AB at_ q,item,feed,lead⟩:Sgm)]).map Au:=by rw[List.map_append];rfl
 rw[Q2x];try dsimp only[go_sem]
 rcases Zzw st aF with h|⟨l,s,h1,h2,h3,h4⟩
 ·subst h;have hat':st=at_:=hat;subst hat';simp only[List.map_nil,List.length_nil];rw[AM (by decide),Bool.not_true,cond_false];by_cases c:q=st
  ·have c4:=DS.1 c;rw[Bi (by simp[c4.1,c4.2.1,c4.2.2]),show Bb item feed lead ([],len,st) q=([],len,st)from if_pos c];rfl
  ·rw[A_,hL]
   ·simp only[Option.bind_some,Hn,Hu,gA,jA,wA,bA,List.nil_append,List.length_cons,List.length_nil];rw[Bi (by decide),show Bb item feed lead ([],len,st) q=([⟨q,AB st q,item,feed,lead⟩],len+AB st q,q)from if_neg c,Ae (by omega)];rfl
   ·have c2: ¬(q.x=st.x/\q.y=st.y/\q.z=st.z):=fun g=>c (DS.2 g);simp only[Bool.and_true,Bool.and_eq_false_iff,beq_eq_false_iff_ne];omega
 ·rw[hat]at h2;have w1:wrap .i64 ((aF.length:Int)-1)=((aF.length-1:Nat):Int):=by rw[Ae (by omega)];omega
  have hin:(0:Int)<=((aF.length-1:Nat):Int)/\((aF.length-1:Nat):Int)<(aF.length:Int):=by omega
  rw[h2]at hL hap⊢;clear h1;simp only[go_sem,List.length_map,w1,Int.toNat_natCast,h4,if_pos h3,if_pos hin,hL,List.length_append,List.length_cons,List.length_nil];rw[if_neg (by simp)];by_cases c:q=s.to
  ·have c4:=DS.1 c;rw[if_pos ⟨c4.1,c4.2.1,c4.2.2,trivial⟩,show Bb item feed lead (aF,len,s.to) q=(aF,len,s.to)from if_pos c]
  ·rw[if_neg (fun g=>c (DS.2 ⟨g.1,g.2.1,g.2.2.1⟩)),if_pos (by omega),show Bb item feed lead (aF,len,s.to) q=(aF++[⟨q,AB s.to q,item,feed,lead⟩],len+AB s.to q,q)from if_neg c,Ae (by rw[<-h2]at*;omega),hap]
noncomputable def Dy (it:Itm) (item feed lead:Int) (s:(List Sgm×Int×Pt)×Int) (q:Pt):(List Sgm×Int×Pt)×Int:=
 (Bb item feed lead s.1 q,if smI it/\q=Ba it then(Bb item feed lead s.1 q).2.1 else s.2)
theorem Qoj {it:Itm} {item feed lead:Int}:∀(pts:List Pt) (s:(List Sgm×Int×Pt)×Int),(pts.foldl (Dy it item feed lead) s).1=pts.foldl (Bb item feed lead) s.1
 |[],_=>rfl
 |q::pts,s=>by rw[List.foldl_cons,List.foldl_cons,Qoj pts];rfl
theorem Q6v {MM MSm MA MP MG MR:Fn} {it:Itm} {pts:List Pt} {j:Nat} (hj:j<pts.length) (hpl:pts.length<=1000000) {aF segs':Rw} {aD:Rw} {g st st':Pt} {b b':Bool} {gl item feed lead len len' sp mid:Int}
  (hM:MSm (Ah it)=some [B (decide (smI it))]) (hC:MM (Ah it)=some (ptR (Ba it)))
  (hA:MA [.view Ag aF, .view AD aD,I pts[j].x,I pts[j].y,I pts[j].z,I g.x,I g.y,I g.z,I gl,I item,I feed,I lead,I st.x,I st.y,I st.z,B b,I len,I sp,I mid]=some [.view Ag segs', .view AD aD,I st'.x,I st'.y,I st'.z,B b',I len',I sp,I mid]):
  Mf MM MSm MA MP MG MR (.view Ag aF:: .view AD aD:: .view kPt (pts.map ptR)::I pts.length::I j::(Ah it++[I g.x,I g.y,I g.z,I gl,I item,I feed,I lead,I st.x,I st.y,I st.z,B b,I len,I sp,I mid]))=
   some (0, .view Ag segs':: .view AD aD:: .view kPt (pts.map ptR)::I pts.length::I (j+1:Nat)::(Ah it++[I g.x,I g.y,I g.z,I gl,I item,I feed,I lead,I st'.x,I st'.y,I st'.z,B b',I len',I sp,I (if smI it/\pts[j]=Ba it then len' else mid)])):=by
 have hr:nth [] (pts.map ptR) j=ptR pts[j]:=I5 _ _ _ _ hj;have hin:(0:Int)<=(j:Int)/\(j:Int)<(pts.length:Int):=by omega
 have hw:wrap .i64 ((j:Int)+1)=((j+1:Nat):Int):=by rw[Ae (by omega)];omega
 generalize pts[j]=q at*;simp only[Ah]at hM hC;simp only[Ah,List.cons_append,List.nil_append];rw[Qub];simp only[go_sem,List.length_map,Int.toNat_natCast,hr,if_pos hin,hA,hM,hC,hw];rw[if_pos (by omega)];by_cases c:smI it
 ·rw[if_pos c];by_cases c2:q=Ba it
  ·have c3:=DS.1 c2;rw[if_pos ⟨c3.1,c3.2.1,c3.2.2,trivial⟩,if_pos ⟨c,c2⟩]
  ·rw[if_neg (fun h=>c2 (DS.2 ⟨h.1,h.2.1,h.2.2.1⟩)),if_neg (fun h=>c2 h.2)]
 ·rw[if_neg c,if_neg (fun h=>c h.1)]
theorem Ze {MM MSm MA MP MG MR:Fn} {it:Itm} {pts:List Pt} (hpl:pts.length<=1000000) {aD:Rw} {g st:Pt} {gl item feed lead sp:Int} (hst:bd 67108864 st) (hpts:∀p∈pts,bd 67108864 p)
  (hM:MSm (Ah it)=some [B (decide (smI it))]) (hC:MM (Ah it)=some (ptR (Ba it)))
  (hA : ∀ {aF : List Sgm} {q at_ : Pt} {len mid : Int}, EX st aF = at_ -> bd 67108864 at_ -> bd 67108864 q -> aF.length + 1 <= 1048577 -> (0 <= len /\ len <= 4000000000000000000) ->
   MA [.view Ag (aF.map Au), .view AD aD,I q.x,I q.y,I q.z,I g.x,I g.y,I g.z,I gl,I item,I feed,I lead,I st.x,I st.y,I st.z,B true,I len,I sp,I mid]=
   some [.view Ag ((Bb item feed lead (aF,len,at_) q).1.map Au), .view AD aD,I st.x,I st.y,I st.z,B true,I (Bb item feed lead (aF,len,at_) q).2.1,I sp,I mid]):
  ∀(k j:Nat) (s:List Sgm×Int×Pt) (mid:Int),j+k=pts.length->s.1.length+k<=1048576->0<=s.2.1->s.2.1+k*268435456<=4000000000000000000->bd 67108864 s.2.2->EX st s.1=s.2.2->
  An (Mf MM MSm MA MP MG MR) (.view Ag (s.1.map Au):: .view AD aD:: .view kPt (pts.map ptR)::I pts.length::I j::(Ah it++[I g.x,I g.y,I g.z,I gl,I item,I feed,I lead,I st.x,I st.y,I st.z,B true,I s.2.1,I sp,I mid]))=
   some (1,[.view Ag (((pts.drop j).foldl (Dy it item feed lead) (s,mid)).1.1.map Au), .view AD aD,I st.x,I st.y,I st.z,B true,I ((pts.drop j).foldl (Dy it item feed lead) (s,mid)).1.2.1,I sp,I ((pts.drop j).foldl (Dy it item feed lead) (s,mid)).2])
 |0,j,s,mid,hj,_,_,_,_,_=>by
  refine A3 ?_ (by simp);simp only[Ah,List.cons_append,List.nil_append];rw[Qub,AM (by omega),List.drop_of_length_le (by omega)];rfl
 |k+1,j,s,mid,hj,hs,hl0,hl1,hat,he=>by
  have hlt:j<pts.length:=by omega
  have hq:=hpts _ (List.getElem_mem hlt);obtain⟨aF,len,at_⟩:=s;simp only at hs hl0 hl1 hat he;have ha:=hA (q:=pts[j]) (mid:=mid) he hat hq (by omega) (by constructor<;>omega);have hstep:=Q6v (MP:=MP) (MG:=MG) (MR:=MR) hlt hpl hM hC ha;have hinv:EX st (Bb item feed lead (aF,len,at_) pts[j]).1=(Bb item feed lead (aF,len,at_) pts[j]).2.2/\bd 67108864 (Bb item feed lead (aF,len,at_) pts[j]).2.2/\
    (Bb item feed lead (aF,len,at_) pts[j]).1.length<=aF.length+1/\0<=(Bb item feed lead (aF,len,at_) pts[j]).2.1/\(Bb item feed lead (aF,len,at_) pts[j]).2.1<=len+268435456:=by
   have hl:=HR hat hq;unfold Bb;split
   ·exact⟨he,hat,by simp,hl0,by simp only;omega⟩
   ·refine⟨SF _ _ _,hq,by simp,?_,?_⟩<;>simp only<;>omega
  rw[Bj hstep];obtain⟨i1,i2,i3,i4,i5⟩:=hinv;have:=Ze (MP:=MP) (MG:=MG) (MR:=MR) hpl hst hpts hM hC hA k (j+1) (Bb item feed lead (aF,len,at_) pts[j]) (if smI it/\pts[j]=Ba it then(Bb item feed lead (aF,len,at_) pts[j]).2.1 else mid) (by omega) (by omega) i4 (by omega) i2 i1;rw[this,J5 pts j hlt,List.foldl_cons];rfl
theorem Zcp {it:Itm} (h:Dg it):∃l,CJ it=Ay it.fr::l:=by
 unfold CJ;by_cases h3:it.kind=3
 ·rw[if_pos h3];unfold DH;rw[List.map_cons];refine⟨(DD it.dir 16 it.full (D9 it it.fr) (D9 it it.to)).map (IF it),?_⟩;congr 1;obtain⟨hp,-,hc,-⟩:=h.2.2.2 h3;obtain⟨f1,f2,f3⟩:=Sp it.aG it.ce;unfold IF D9;simp only[f1,f2];unfold dU dW;have e1:plU it.aG it.ce*16+(plU it.aG it.fr-plU it.aG it.ce)*16=plU it.aG it.fr*16:=by omega
  have e2:plW it.aG it.ce*16+(plW it.aG it.fr-plW it.aG it.ce)*16=plW it.aG it.fr*16:=by omega
  rw[e1,e2];unfold spP plU plW plH Ay;rcases hp with hp|hp|hp<;>rw[hp]<;>rfl
 ·rw[if_neg h3];exact⟨_,rfl⟩
theorem Zvy {aA:List Itm} {i:Nat} (h:Dg (itA aA i)):∃l,Cp aA i (-1)=Ay (itA aA i).fr::l:=by
 obtain⟨l,hl⟩:=Zcp h;unfold Cp;split
 ·unfold IY;rw[if_neg (by omega),hl];exact⟨_,rfl⟩
 ·exact⟨l,hl⟩
noncomputable def E_ (aA:List Itm) (i:Nat) (s:BSt) (mid:Int):(List Sgm×Int×Pt)×Int:=
 (Cp aA i s.frm).foldl (Dy (itA aA i) i (HE (itA aA i) s.speed) (Ms (itA aA i))) ((s.aF,s.len,if s.begun=true then s.at_ else Ay (itA aA i).fr),mid)
theorem Qrr (aA:List Itm) (i:Nat) (s:BSt) (mid:Int):(E_ aA i s mid).1=Fw aA i s:=by
 unfold E_ Fw;rw[Qoj]
theorem Zqk {MM MSm MA MP MG MR:Fn} {aA:List Itm} {i:Nat} {s:BSt} {aD:Rw} {mid:Int} (hi:i<aA.length) (hlen:aA.length<=15) (hv:Dg (itA aA i)) (hok:BOK aA i s) (hinv:BInv s)
  (hpts:(∀p∈Cp aA i s.frm,bd 67108864 p)/\(Cp aA i s.frm).length<=65537)
  (hfeed:syI (itA aA i)->0<=(itA aA i).feed/\(itA aA i).feed<=60000000) (hfrm:s.begun=false->s.frm= -1)
  (hM:MSm (Ah (itA aA i))=some [B (decide (smI (itA aA i)))]) (hC:MM (Ah (itA aA i))=some (ptR (Ba (itA aA i))))
  (hG:MG (Ah (itA aA i))=some [B (decide (syI (itA aA i)))]) (hR:MR (Ah (itA aA i)++[I s.speed])=some [I (HE (itA aA i) s.speed)])
  (hP:MP [.view Al (aA.map Ah),I i,I s.frm]=some [.view kPt ((Cp aA i s.frm).map ptR)])
  (hA : ∀ {aF : List Sgm} {q g st at_ : Pt} {gl item feed lead len mid : Int}, EX st aF = at_ -> bd 67108864 at_ -> bd 67108864 q -> aF.length + 1 <= 1048577 -> (0 <= len /\ len <= 4000000000000000000) ->
   MA [.view Ag (aF.map Au), .view AD aD,I q.x,I q.y,I q.z,I g.x,I g.y,I g.z,I gl,I item,I feed,I lead,I st.x,I st.y,I st.z,B true,I len,I s.speed,I mid]=
   some [.view Ag ((Bb item feed lead (aF,len,at_) q).1.map Au), .view AD aD,I st.x,I st.y,I st.z,B true,I (Bb item feed lead (aF,len,at_) q).2.1,I s.speed,I mid])
  (hA0 : ∀ {q g st : Pt} {gl item feed lead len mid : Int}, MA [.view Ag [], .view AD aD, I q.x, I q.y, I q.z, I g.x, I g.y, I g.z, I gl, I item, I feed, I lead, I st.x, I st.y, I st.z, B false, I len, I s.speed, I mid] =
   some [.view Ag [], .view AD aD,I q.x,I q.y,I q.z,B true,I len,I s.speed,I mid]):
  W6 MM MSm MA MP MG MR (An (Mf MM MSm MA MP MG MR)) [.view Ag (s.aF.map Au), .view AD aD, .view Al (aA.map Ah),I i,I s.frm,I s.start.x,I s.start.y,I s.start.z,B s.begun,I s.len,I s.speed,I mid]=
   some [.view Ag ((E_ aA i s mid).1.1.map Au), .view AD aD,B true,I (if s.begun=true then s.start else Ay (itA aA i).fr).x,I (if s.begun=true then s.start else Ay (itA aA i).fr).y,I (if s.begun=true then s.start else Ay (itA aA i).fr).z,B true,I (E_ aA i s mid).1.2.1,I s.speed,I (E_ aA i s mid).2]:=by
 have hr:=EW hi;have hin:(0:Int)<=(i:Int)/\(i:Int)<(aA.length:Int):=by omega
 have hsg:=hok.aF;have hln:=hok.len
 have hloop:∀lead feed:Int,An (Mf MM MSm MA MP MG MR) (.view Ag (s.aF.map Au):: .view AD aD:: .view kPt ((Cp aA i s.frm).map ptR)::I (Cp aA i s.frm).length::I (0:Nat)::(Ah (itA aA i)++[I (⟨0,0,0⟩:Pt).x,I (⟨0,0,0⟩:Pt).y,I (⟨0,0,0⟩:Pt).z,I 0,I i,I feed,I lead,I s.start.x,I s.start.y,I s.start.z,B s.begun,I s.len,I s.speed,I mid]))=
   some (1, [.view Ag (((Cp aA i s.frm).foldl (Dy (itA aA i) i feed lead) ((s.aF, s.len, if s.begun = true then s.at_ else Ay (itA aA i).fr), mid)).1.1.map Au), .view AD aD, I (if s.begun = true then s.start else Ay (itA aA i).fr).x, I (if s.begun = true then s.start else Ay (itA aA i).fr).y, I (if s.begun = true then s.start else Ay (itA aA i).fr).z, B true,
    I ((Cp aA i s.frm).foldl (Dy (itA aA i) i feed lead) ((s.aF,s.len,if s.begun=true then s.at_ else Ay (itA aA i).fr),mid)).1.2.1,I s.speed,I ((Cp aA i s.frm).foldl (Dy (itA aA i) i feed lead) ((s.aF,s.len,if s.begun=true then s.at_ else Ay (itA aA i).fr),mid)).2]):=by
  intro lead feed;by_cases hb:s.begun=true
  ·obtain⟨g1,g2⟩:=hinv.begun hb;obtain⟨g3,g4,g5⟩:=g2;rw[if_pos hb,if_pos hb,hb];have:=Ze (MP:=MP) (MG:=MG) (MR:=MR) (g:=⟨0,0,0⟩) (gl:=0) (item:=i) (feed:=feed) (lead:=lead) (by omega) g1 hpts.1 hM hC (fun h1 h2 h3 h4 h5=>hA h1 h2 h3 h4 h5) (Cp aA i s.frm).length 0 (s.aF,s.len,s.at_) mid (by omega) (by simp only;omega) hln.1 (by simp only;omega) (hok.at_ hb) g4;rw[List.drop_zero]at this;exact this
  ·have hb2:s.begun=false:=by simpa using hb
   obtain⟨e1,e2,e3⟩:=hinv.empty hb2;obtain⟨l,hl⟩:=Zvy hv;have hfr:bd 67108864 (Ay (itA aA i).fr):=A0 (E0 hv.2.1) (by decide);rw[if_neg hb,if_neg hb,hb2,e1];rw[hfrm hb2,hl]at hpts⊢;have h0:0<(Ay (itA aA i).fr::l).length:=by simp
   have hstep:=Q6v (MP:=MP) (MG:=MG) (MR:=MR) h0 (by omega) hM hC (hA0 (q:=Ay (itA aA i).fr) (g:=⟨0,0,0⟩) (st:=s.start) (gl:=0) (item:=i) (feed:=feed) (lead:=lead) (len:=s.len) (mid:=mid));rw[List.map_nil,Bj hstep];have:=Ze (MP:=MP) (MG:=MG) (MR:=MR) (g:=⟨0,0,0⟩) (gl:=0) (item:=i) (feed:=feed) (lead:=lead) (by omega) hfr hpts.1 hM hC (fun h1 h2 h3 h4 h5=>hA h1 h2 h3 h4 h5) l.length 1 ([],s.len,Ay (itA aA i).fr) (if smI (itA aA i)/\Ay (itA aA i).fr=Ba (itA aA i)then s.len else mid) (by simp;omega) (by simp only[List.length_nil];simp at hpts;omega) hln.1 (by simp only;simp at hpts;omega) hfr rfl;rw[List.drop_succ_cons,List.drop_zero]at this;rw[List.foldl_cons];have e4:Dy (itA aA i) i feed lead (([],s.len,Ay (itA aA i).fr),mid) (Ay (itA aA i).fr)=(([],s.len,Ay (itA aA i).fr),if smI (itA aA i)/\Ay (itA aA i).fr=Ba (itA aA i)then s.len else mid):=by
    unfold Dy;rw[show Bb i feed lead ([],s.len,Ay (itA aA i).fr) (Ay (itA aA i).fr)=([],s.len,Ay (itA aA i).fr)from if_pos rfl]
   rw[e4];exact this
 have hcount:∀lead feed:Int,((Cp aA i s.frm).foldl (Dy (itA aA i) i feed lead) ((s.aF,s.len,if s.begun=true then s.at_ else Ay (itA aA i).fr),mid)).1.1.length<=1048576:=by
  intro lead feed;rw[Qoj];have hat:bd 67108864 (if s.begun=true then s.at_ else Ay (itA aA i).fr):=by
   split
   ·rename_i hb;exact hok.at_ hb
   ·exact A0 (E0 hv.2.1) (by decide)
  have:=(RZ (item:=i) (feed:=feed) (lead:=lead) (Cp aA i s.frm) (s.aF,s.len,if s.begun=true then s.at_ else Ay (itA aA i).fr) hpts.1 hat hln.1).1;simp only at this⊢;omega
 generalize An (Mf MM MSm MA MP MG MR)=N at*;have hlp:=fun lead feed=>hloop lead feed;simp only[Ah,List.cons_append,List.nil_append]at hG hR hlp;rw[Zel];simp only[go_sem,List.length_map,Int.toNat_natCast,hr,if_pos hin,hG,hR,hP];have h00:((0:Nat):Int)=0:=rfl;simp only[h00]at hlp;unfold E_ Ms;by_cases hs:syI (itA aA i)
 ·have hf:=hfeed hs;rw[if_pos hs];simp only[if_pos hs];rw[Ae (by omega)];simp only[hlp,go_sem,List.length_map];rw[decide_eq_true (show((_:Nat):Int)<=1048576 from by have:=hcount (mn ((itA aA i).feed*16) 16777216) (HE (itA aA i) s.speed);omega)]
 ·rw[if_neg hs];simp only[if_neg hs];simp only[hlp,go_sem,List.length_map];rw[decide_eq_true (show((_:Nat):Int)<=1048576 from by have:=hcount 0 (HE (itA aA i) s.speed);omega)]
end Go.Bm
namespace Go.Bm
open Classical
theorem Qoo {MK MV MN MS MM MC:Fn} {aA:List Itm} (hM:∀k:Int,MM [I k]=some [B (decide (1<=k/\k<=6))]) (hW:∀it,MC (Ah it)=some [I (if B8 it then 1 else 0)]) (hl:aA.length<=1000000):
  ∀(k i:Nat) (last:Int),i+k=aA.length->(last= -1\/(0<=last/\last<i))->
  (An (Qq MK MV MN MS MM MC) [.view Ag [], .view AD [], .view Al (aA.map Ah),I last, .view Al (aA.map Ah),I aA.length,I i,I 0,I 0,I 0,B false,I 0,I 0,I 0]=some (1,[.view Ag [], .view AD [],I (Gm aA k i last),I 0,I 0,I 0,B false,I 0,I 0,I 0])/\Gm aA k i last≠0)\/
  (An (Qq MK MV MN MS MM MC) [.view Ag [], .view AD [], .view Al (aA.map Ah),I last, .view Al (aA.map Ah),I aA.length,I i,I 0,I 0,I 0,B false,I 0,I 0,I 0]=some (2,[.view Ag [], .view AD [], .view Al (aA.map Ah),I 0,I 0,I 0,B false,I 0,I 0,I 0])/\Gm aA k i last=0)
 |0,i,last,hi,_=>by
  right;refine⟨A3 ?_ (by simp),rfl⟩;rw[Qv5,AM (by omega)]
 |k+1,i,last,hi,hla=>by
  have hlt:i<aA.length:=by omega
  have hr:=EW hlt;have hw:=hW (itA aA i);have hm:=hM (itA aA i).kind;have hin:(0:Int)<=(i:Int)/\(i:Int)<(aA.length:Int):=by omega
  have hst:Qq MK MV MN MS MM MC [.view Ag [], .view AD [], .view Al (aA.map Ah),I last, .view Al (aA.map Ah),I aA.length,I i,I 0,I 0,I 0,B false,I 0,I 0,I 0]=
    if B8 (itA aA i)then some (1,[.view Ag [], .view AD [],I 1,I 0,I 0,I 0,B false,I 0,I 0,I 0])else if AG (itA aA i)then(if 0<=last/\(itA aA last.toNat).to≠(itA aA i).fr then some (1,[.view Ag [], .view AD [],I 13,I 0,I 0,I 0,B false,I 0,I 0,I 0])else some (0,[.view Ag [], .view AD [], .view Al (aA.map Ah),I i, .view Al (aA.map Ah),I aA.length,I (i+1:Nat),I 0,I 0,I 0,B false,I 0,I 0,I 0]))
    else some (0,[.view Ag [], .view AD [], .view Al (aA.map Ah),I last, .view Al (aA.map Ah),I aA.length,I (i+1:Nat),I 0,I 0,I 0,B false,I 0,I 0,I 0]):=by
   rw[Qv5];simp only[Ah]at hw;simp only[go_sem,List.length_map,Int.toNat_natCast,hr,hw,hm,if_pos hin];rw[if_pos (by omega),Ae (by omega)];by_cases c1:B8 (itA aA i)
   ·simp only[if_pos c1];rw[if_pos (by omega)]
   simp only[if_neg c1];rw[if_neg (by simp)];by_cases c2:AG (itA aA i)
   ·rw[if_neg (fun h=>h c2),if_pos c2];rcases hla with rfl|⟨h1,h2⟩
    ·rw[if_neg (show¬(-1:Int)>=0 by omega),if_neg (fun h=>by omega)];rfl
    ·obtain⟨L,rfl⟩:=Int.eq_ofNat_of_zero_le h1;have hL:L<aA.length:=by omega
     have hin2:(0:Int)<=(L:Int)/\(L:Int)<(aA.length:Int):=by omega
     have hr2:=EW hL;simp only[Int.toNat_natCast,hr2,go_sem,if_pos hin2];rw[if_pos (by omega)];by_cases c3:(itA aA L).to=(itA aA i).fr
     ·have c4:=DS.1 c3;rw[if_neg (fun h=>h ⟨c4.1,c4.2.1,c4.2.2,trivial⟩),if_neg (fun h=>h.2 c3)];rfl
     ·rw[if_pos (fun h=>c3 (DS.2 ⟨h.1,h.2.1,h.2.2.1⟩)),if_pos ⟨h1,c3⟩]
   ·rw[if_pos (show¬(1<=(itA aA i).kind/\(itA aA i).kind<=6)from c2),if_neg c2];rfl
  unfold Gm;by_cases c1:B8 (itA aA i)
  ·rw[if_pos c1]at hst⊢;exact .inl ⟨A3 hst (by simp),by simp⟩
  ·rw[if_neg c1]at hst⊢;by_cases c2:AG (itA aA i)
   ·rw[if_pos c2]at hst⊢;by_cases c3:0<=last/\(itA aA last.toNat).to≠(itA aA i).fr
    ·rw[if_pos c3]at hst⊢;exact .inl ⟨A3 hst (by simp),by simp⟩
    ·rw[if_neg c3]at hst⊢;rw[Bj hst];exact Qoo hM hW hl k (i+1) i (by omega) (.inr (by omega))
   ·rw[if_neg c2]at hst⊢;rw[Bj hst];exact Qoo hM hW hl k (i+1) last (by omega) (by omega)
noncomputable def FD (aA:List Itm):Nat->Int
 |0=> -1
 |i+1=>if AG (itA aA i)then i else FD aA i
theorem Qw1 (aA:List Itm):∀i,FD aA i= -1\/∃L:Nat,FD aA i=L/\L<i/\AG (itA aA L)/\∀j,L<j->j<i-> ¬AG (itA aA j)
 |0=> .inl rfl
 |i+1=>by
  unfold FD;by_cases c:AG (itA aA i)
  ·rw[if_pos c];exact .inr ⟨i,rfl,by omega,c,fun j h1 h2=>by omega⟩
  ·rw[if_neg c];rcases Qw1 aA i with h|⟨L,h1,h2,h3,h4⟩
   ·exact .inl h
   ·refine .inr ⟨L,h1,by omega,h3,fun j g1 g2=> ?_⟩;by_cases e:j=i
    ·rw[e];exact c
    ·exact h4 j g1 (by omega)
theorem Q61 (aA:List Itm):∀i,(Aw aA i).frm=if 0<=FD aA i/\0<=B6 aA (FD aA i).toNat then FD aA i else-1
 |0=>by rw[Aw,FD,if_neg (by omega)]
 |i+1=>by
  rw[Aw,FD];unfold Fy;by_cases c:AG (itA aA i)
  ·rw[if_pos c,if_pos c];simp only[Int.toNat_natCast];by_cases c2:0<=B6 aA i
   ·rw[if_pos c2,if_pos ⟨by omega,c2⟩]
   ·rw[if_neg c2,if_neg (fun h=>c2 h.2)]
  ·rw[if_neg c,if_neg c];exact Q61 aA i
theorem Z28 {aA:List Itm} {i L:Nat} (hL:L<i) (hi:i<aA.length) (hm:AG (itA aA i)) (hno:∀j,L<j->j<i-> ¬AG (itA aA j)) (hs:0<=B6 aA L):C1 aA L=i:=by
 have h1:=Tx hs;rcases Qc4 aA L with h|⟨-,-,k,k1,k2,k3,k4,k5⟩
 ·omega
 ·have hk:C1 aA L=k:=by omega
  rw[hk];rcases Nat.lt_trichotomy k i with h|h|h
  ·exact absurd ⟨by have:=k4.1;omega,by have:=k4.1;omega⟩ (hno k k2 h)
  ·exact h
  ·have:=k5 i hL h;have:=hm.2;omega
noncomputable def CF (aA:List Itm):Nat->Int
 |0=>0
 |i+1=>if AG (itA aA i)then(E_ aA i (Aw aA i) (CF aA i)).2 else CF aA i
theorem Qy5 (aA:List Itm):∀i,(Aw aA i).begun=false->(Aw aA i).frm= -1
 |0,_=>by rw[Aw]
 |i+1,h=>by
  rw[Aw]at h⊢;unfold Fy at h⊢;by_cases c:AG (itA aA i)
  ·rw[if_pos c]at h;cases h
  ·rw[if_neg c]at h⊢;exact Qy5 aA i h
noncomputable abbrev pbR (aA:List Itm) (i:Nat):List AC:=
 [.view Ag ((Aw aA i).aF.map Au), .view AD ((Aw aA i).aD.map At), .view Al (aA.map Ah),I (FD aA i), .view Al (aA.map Ah),I aA.length,I i,I (Aw aA i).start.x,I (Aw aA i).start.y,I (Aw aA i).start.z,B (Aw aA i).begun,I (Aw aA i).len,I (Aw aA i).speed,I (CF aA i)]
theorem Znl {MK MV MN MS MM MC:Fn} {N6:Lp} {aA:List Itm} {i:Nat} (hi:i<aA.length) (hlen:aA.length<=15) (hmk:(Aw aA i).aD.length=i)
  (hM:∀k:Int,MM [I k]=some [B (decide (1<=k/\k<=6))]) (hS:∀L:Nat,L<aA.length->MS [.view Al (aA.map Ah),I L]=some [B (decide (0<=B6 aA L))]) (hN:∀L:Nat,L<aA.length->MN [.view Al (aA.map Ah),I L]=some [I (C1 aA L)])
  (hV : AG (itA aA i) -> MV [.view Ag ((Aw aA i).aF.map Au), .view AD ((Aw aA i).aD.map At), .view Al (aA.map Ah), I i, I (Aw aA i).frm, I (Aw aA i).start.x, I (Aw aA i).start.y, I (Aw aA i).start.z, B (Aw aA i).begun, I (Aw aA i).len, I (Aw aA i).speed, I (CF aA i)] =
   some [.view Ag ((E_ aA i (Aw aA i) (CF aA i)).1.1.map Au), .view AD ((Aw aA i).aD.map At),B true,I (if(Aw aA i).begun=true then(Aw aA i).start else Ay (itA aA i).fr).x,I (if(Aw aA i).begun=true then(Aw aA i).start else Ay (itA aA i).fr).y,I (if(Aw aA i).begun=true then(Aw aA i).start else Ay (itA aA i).fr).z,B true,
    I (E_ aA i (Aw aA i) (CF aA i)).1.2.1,I (Aw aA i).speed,I (E_ aA i (Aw aA i) (CF aA i)).2])
  (hK : ∀ {aF : Rw} {st : Pt} {b : Bool} {len sp mid : Int}, MK [.view Ag aF, .view AD ((Aw aA i).aD.map At), .view Al (aA.map Ah), I i, I st.x, I st.y, I st.z, B b, I len, I sp, I mid] =
   some [.view Ag aF, .view AD (((Aw aA i).aD++[(⟨len,JC aA i,i⟩:Mrk)]).map At),I st.x,I st.y,I st.z,B b,I len,I sp,I mid]):
  Ph MK MV MN MS MM MC N6 (pbR aA i)=some (0,pbR aA (i+1)):=by
 have hr:=EW hi;have hin:(0:Int)<=(i:Int)/\(i:Int)<(aA.length:Int):=by omega
 have hw:wrap .i64 ((i:Int)+1)=((i+1:Nat):Int):=by rw[Ae (by omega)];omega
 have hf:=Q61 aA i;have hls:=Qw1 aA i;have hfst:=Qrr aA i (Aw aA i) (CF aA i);have e1:FD aA (i+1)=if AG (itA aA i)then(i:Int)else FD aA i:=rfl;have e2:CF aA (i+1)=if AG (itA aA i)then(E_ aA i (Aw aA i) (CF aA i)).2 else CF aA i:=rfl;have e3:Aw aA (i+1)=Fy aA i (Aw aA i):=rfl;unfold pbR;rw[e1,e2,e3];generalize Aw aA i=s at*;generalize FD aA i=last at*;generalize hmi:CF aA i=mid at*;unfold Fy;rw[Q9r];by_cases hm:AG (itA aA i)
 ·have h8: ¬(itA aA i).kind=8:=fun h=>by have:=hm.2;omega
  have hV:=hV hm;have hmk2:JC aA i=Tr aA i:=if_pos hm;rw[if_pos hm,if_pos hm,if_pos hm];rw[hfst]at hV;have hM2:MM [I (itA aA i).kind]=some [B true]:=by rw[hM,decide_eq_true (show 1<=(itA aA i).kind/\(itA aA i).kind<=6 from hm)]
  simp only[go_sem,List.length_map,Int.toNat_natCast,hr,if_pos hin,hM2];rw[if_pos (by omega),if_neg h8];have hbef:∀{x:Option (Nat×List AC)} {frm:Int},s.frm=frm->(MV [.view Ag (s.aF.map Au), .view AD (s.aD.map At), .view Al (aA.map Ah),I i,I frm,I s.start.x,I s.start.y,I s.start.z,B s.begun,I s.len,I s.speed,I mid])=
    some [.view Ag ((Fw aA i s).1.map Au), .view AD (s.aD.map At),B true,I (if s.begun=true then s.start else Ay (itA aA i).fr).x,I (if s.begun=true then s.start else Ay (itA aA i).fr).y,I (if s.begun=true then s.start else Ay (itA aA i).fr).z,B true,I (Fw aA i s).2.1,I s.speed,I (E_ aA i s mid).2]:=by
   intro x frm h;rw[<-h];exact hV
  rcases hls with hls|⟨L,h1,h2,h3,h4⟩
  ·rw[hls];rw[hls,if_neg (by omega)]at hf;rw[if_neg (show¬(-1:Int)>=0 by omega)];have hv:=hbef (x:=none) hf;simp only[hv,go_sem,hK,hw,hmk2];simp
  ·rw[h1]at hf⊢;rw[Int.toNat_natCast]at hf;have hs:=hS L (by omega);have hn:=hN L (by omega);rw[if_pos (show(L:Int)>=0 by omega)];by_cases c:0<=B6 aA L
   ·have hnx:=Z28 h2 hi hm h4 c;rw[if_pos ⟨by omega,c⟩]at hf;rw[hnx]at hn;rw[decide_eq_true c]at hs;have hv:=hbef (x:=none) hf;simp only[hs,hn,go_sem];simp only[hv,go_sem,hK,hw,hmk2];simp
   ·rw[if_neg (fun h=>c h.2)]at hf;rw[decide_eq_false c]at hs;have hv:=hbef (x:=none) hf;simp only[hs,go_sem];simp only[hv,go_sem,hK,hw,hmk2];simp
 ·have hmk2:JC aA i=Th (itA aA i):=if_neg hm;rw[if_neg hm,if_neg hm,if_neg hm];have hM2:MM [I (itA aA i).kind]=some [B false]:=by rw[hM,decide_eq_false (show¬(1<=(itA aA i).kind/\(itA aA i).kind<=6)from hm)]
  unfold P3;simp only[go_sem,List.length_map,Int.toNat_natCast,hr,if_pos hin,hM2,hK,hw,hmk2];rw[if_pos (by omega)];by_cases h8:(itA aA i).kind=8
  ·by_cases h3:(itA aA i).n=3
   ·simp[h8,h3]
   ·by_cases h4:(itA aA i).n=4
    ·simp[h8,h4]
    ·simp[h8,h3,h4]
  ·simp[h8]
end Go.Bm
namespace Go.Bm
open Classical
theorem Ziy {it:Itm} {speed:Int} (hf:it.kind=1\/1<=it.feed/\it.feed<=60000000) (hs:0<=speed/\speed<=30000):JK (Ah it++[I speed])=some [I (HE it speed)]:=by
 by_cases h1:it.kind=1
 ·unfold JK HE;generalize Bn=M;have h:=Q9b (AI:=M) it.kind it.block it.fr.x it.fr.y it.fr.z it.to.x it.to.y it.to.z it.aG it.ce.x it.ce.y it.ce.z it.dir it.full it.feed it.perRev it.side it.radius it.blend it.n it.speed it.on speed;rw[if_pos h1];refine Eq.trans h ?_;rw[Bi (by simp[h1])]
 ·exact Z6p (by omega) hs
theorem Zd5 {aF:List Sgm} {aD:Rw} {q g st at_:Pt} {gl item feed lead len sp mid:Int} (hat:EX st aF=at_) (h1:bd 67108864 at_) (h2:bd 67108864 q) (hs:aF.length+1<=1048577) (hlen:0<=len/\len<=4000000000000000000):
  OW [.view Ag (aF.map Au), .view AD aD,I q.x,I q.y,I q.z,I g.x,I g.y,I g.z,I gl,I item,I feed,I lead,I st.x,I st.y,I st.z,B true,I len,I sp,I mid]=
   some [.view Ag ((Bb item feed lead (aF,len,at_) q).1.map Au), .view AD aD,I st.x,I st.y,I st.z,B true,I (Bb item feed lead (aF,len,at_) q).2.1,I sp,I mid]:=
 Z0t hat (WC h1 h2) (HR h1 h2) hs hlen
theorem Zp6 {aA:List Itm} (hlen:aA.length<=15) (hright:∀j<aA.length,¬B8 (itA aA j)) {i:Nat} (hi:i<aA.length):
  Ph Jd JQ E1 GY Du Jw QS (pbR aA i)=some (0,pbR aA (i+1)):=by
 have hb:=NK hright i (by omega);have hin:=TT hright i (by omega);have hall:∀k<aA.length,AG (itA aA k)->drawn (itA aA k):=fun k hk hm=>(KG (hright k hk) hm).1;have hrm:=KG (hright i hi);refine Znl hi hlen hb.aD Ql (fun L hL=>Q6e (by omega) hL) (fun L hL=>UP (by omega) hL) (fun hm=> ?_) (Zzg (by omega) hi (by have:=hb.aD;omega));have hd:=(hrm hm).1;exact Zqk hi hlen hd.1 hb hin (Qh9 hd hb.frm hall) (fun hs=>by have h2:=(hrm hm).2;rcases hs with h|h<;>omega) (Qy5 aA i) (T7 _) (RD hd.1.2.1 hd.1.2.2.1) (Qxk _) (Ziy (hrm hm).2 hb.speed)
  (Zgw (by omega) hi hd hb.frm hall) (fun h1 h2 h3 h4 h5=>Zd5 h1 h2 h3 h4 h5) Zo3
theorem Q32 {aA:List Itm} (hlen:aA.length<=15) (hright:∀j<aA.length,¬B8 (itA aA j)):∀(k i:Nat),i+k=aA.length->
  An (Ph Jd JQ E1 GY Du Jw QS) (pbR aA i)=
   some (2,[.view Ag ((A6 aA).aF.map Au), .view AD ((A6 aA).aD.map At),I (A6 aA).start.x,I (A6 aA).start.y,I (A6 aA).start.z,B (Aw aA aA.length).begun,I (Aw aA aA.length).len,I (Aw aA aA.length).speed,I (CF aA aA.length)])
 |0,i,hi=>by
  obtain rfl:i=aA.length:=by omega
  refine A3 ?_ (by simp);unfold pbR A6;rw[Q9r,AM (by omega)]
 |k+1,i,hi=>by
  rw[Bj (Zp6 hlen hright (by omega))];exact Q32 hlen hright k (i+1) (by omega)
def Kh (aA:List Itm) (o:List AC):Prop:=
 if Db aA=0 then o=[.view Ag ((A6 aA).aF.map Au), .view AD ((A6 aA).aD.map At),I 0,I (A6 aA).start.x,I (A6 aA).start.y,I (A6 aA).start.z,B (Aw aA aA.length).begun,I (Aw aA aA.length).len,I (Aw aA aA.length).speed,I (CF aA aA.length)]
 else o=[.view Ag [], .view AD [],I (Db aA),I 0,I 0,I 0,B false,I 0,I 0,I 0]
theorem Zmg {MK MV MN MS MM MC:Fn} {N6 N18:Lp} {aA:List Itm} (hlen:aA.length<=15)
  (h6 : (N6 [.view Ag [], .view AD [], .view Al (aA.map Ah), I (-1), .view Al (aA.map Ah), I aA.length, I 0, I 0, I 0, I 0, B false, I 0, I 0, I 0] = some (1, [.view Ag [], .view AD [], I (Db aA), I 0, I 0, I 0, B false, I 0, I 0, I 0]) /\ Db aA ≠ 0) \/
   (N6 [.view Ag [], .view AD [], .view Al (aA.map Ah),I (-1), .view Al (aA.map Ah),I aA.length,I 0,I 0,I 0,I 0,B false,I 0,I 0,I 0]=some (2,[.view Ag [], .view AD [], .view Al (aA.map Ah),I 0,I 0,I 0,B false,I 0,I 0,I 0])/\Db aA=0))
  (h18 : Db aA = 0 -> N18 [.view Ag [], .view AD [], .view Al (aA.map Ah), I (-1), .view Al (aA.map Ah), I aA.length, I 0, I 0, I 0, I 0, B false, I 0, I 0, I 0] =
   some (2,[.view Ag ((A6 aA).aF.map Au), .view AD ((A6 aA).aD.map At),I (A6 aA).start.x,I (A6 aA).start.y,I (A6 aA).start.z,B (Aw aA aA.length).begun,I (Aw aA aA.length).len,I (Aw aA aA.length).speed,I (CF aA aA.length)])):
  ∃o,Qa6 MK MV MN MS MM MC N6 N18 [.view Al (aA.map Ah)]=some o/\Kh aA o:=by
 rw[Zns];have hin: ¬((aA.length:Int)>20000):=by omega
 rcases h6 with⟨h,hc⟩|⟨h,hc⟩
 ·simp only[go_sem,List.length_map,h,if_neg hin];exact⟨_,rfl,by unfold Kh;rw[if_neg hc]⟩
 ·have g:=h18 hc;simp only[go_sem,List.length_map,h,if_neg hin,g];rw[if_neg (by decide),if_neg (by decide)];exact⟨_,rfl,by unfold Kh;rw[if_pos hc]⟩
theorem Q1u {aA:List Itm} (hlen:aA.length<=15):∃o,I8 [.view Al (aA.map Ah)]=some o/\Kh aA o:=by
 have hc:Db aA=Gm aA aA.length 0 (-1):=by unfold Db;rw[if_neg (by omega)]
 refine Zmg hlen ?_ fun he=>Q32 hlen (QQ he).2 aA.length 0 (by omega);rw[hc];exact Qoo Ql Zts (by omega) aA.length 0 (-1) (by omega) (.inl rfl)
theorem Zsz {MB:Fn} {aA:List Itm} (h:∃o,MB [.view Al (aA.map Ah)]=some o/\Kh aA o):
  Xm MB [.view Al (aA.map Ah)]=if Db aA=0 then some (AH (A6 aA)++[I 0])else some [I 0,I 0,I 0, .view Ag [], .view AD [],I (Db aA)]:=by
 obtain⟨o,h1,h2⟩:=h;rw[Zyu,h1];unfold Kh at h2;by_cases c:Db aA=0
 ·rw[if_pos c]at h2⊢;subst h2;simp only[go_sem];rw[if_neg (by simp)];try rfl
 ·rw[if_neg c]at h2⊢;subst h2;simp only[go_sem];rw[if_pos c]
theorem Zi7 {aA:List Itm} (hlen:aA.length<=15):Nd [.view Al (aA.map Ah)]=if Db aA=0 then some (AH (A6 aA)++[I 0])else some [I 0,I 0,I 0, .view Ag [], .view AD [],I (Db aA)]:=
 Zsz (Q1u hlen)
end Go.Bm
namespace Go.Bm
open Classical
def JU (aA:List Itm):Nat->Option Nat
 |0=>none
 |i+1=>if(itA aA i).kind=10 then JU aA i else some i
noncomputable def Jh (aA:List Itm):Int:=
 match JU aA aA.length with
 |some i=>if smI (itA aA i)/\(itA aA i).blend≠0 then AX (A6 aA).aF-AB (Ba (itA aA i)) (Ay (itA aA i).to)else AX (A6 aA).aF
 |none=>AX (A6 aA).aF
theorem Qmc {aA:List Itm} {i:Nat}:∀{n:Nat},JU aA n=some i->i<n/\(itA aA i).kind≠10/\∀j,i<j->j<n->(itA aA j).kind=10
 |0,h=>by cases h
 |n+1,h=>by
  unfold JU at h;split at h
  ·rename_i c;obtain⟨h1,h2,h3⟩:=Qmc h;refine⟨by omega,h2,fun j g1 g2=> ?_⟩;by_cases e:j=n
   ·rw[e];exact c
   ·exact h3 j g1 (by omega)
  ·rename_i c;cases h
   exact⟨by omega,c,fun j g1 g2=>by omega⟩
theorem Zoy {aA:List Itm} {i:Nat} (h:(itA aA i).kind=10):(Aw aA (i+1)).len=(Aw aA i).len/\CF aA (i+1)=CF aA i:=by
 have hm: ¬AG (itA aA i):=fun g=>by have:=g.2;omega
 constructor
 ·rw[Aw];unfold Fy;rw[if_neg hm]
 ·rw[CF,if_neg hm]
theorem Qu8 {aA:List Itm} {i:Nat}:∀(k:Nat),(∀j,i<=j->j<i+k->(itA aA j).kind=10)->(Aw aA (i+k)).len=(Aw aA i).len/\CF aA (i+k)=CF aA i
 |0,_=>⟨rfl,rfl⟩
 |k+1,h=>by
  obtain⟨h1,h2⟩:=Qu8 k fun j g1 g2=>h j g1 (by omega);obtain⟨h3,h4⟩:=Zoy (h (i+k) (by omega) (by omega));exact⟨h3.trans h1,h4.trans h2⟩
theorem Zrm {aA:List Itm} (hright:∀j<aA.length,¬B8 (itA aA j)):AX (A6 aA).aF=(Aw aA aA.length).len:=by
 have h:=TT hright aA.length (Nat.le_refl _);unfold A6;by_cases hb:(Aw aA aA.length).begun=true
 ·exact(h.begun hb).2.2.2
 ·obtain⟨g1,g2,-⟩:=h.empty (by simpa using hb);simp only[g1,g2];rfl
theorem Zgi {it:Itm} (h:it.fr≠it.to):Ay it.to≠Ba it:=by
 intro g;unfold Ay Ba at g;injection g with g1 g2 g3;exact h (DS.2 ⟨by omega,by omega,by omega⟩)
theorem Zou (it:Itm) (h:smI it) (item feed lead:Int) (s:(List Sgm×Int×Pt)×Int):
  (Dy it item feed lead (Dy it item feed lead s (Ba it)) (Ay it.to)).2=(Dy it item feed lead (Dy it item feed lead s (Ba it)) (Ay it.to)).1.2.1-AB (Ba it) (Ay it.to):=by
 have hne:=Zgi h.2;have h1:(Dy it item feed lead s (Ba it)).2=(Bb item feed lead s.1 (Ba it)).2.1:=if_pos ⟨h,rfl⟩;have h2:(Bb item feed lead s.1 (Ba it)).2.2=Ba it:=by
  unfold Bb;split
  ·rename_i c;exact c.symm
  ·rfl
 have h3:(Dy it item feed lead s (Ba it)).1=Bb item feed lead s.1 (Ba it):=rfl;generalize Dy it item feed lead s (Ba it)=t at*;have h4:(Dy it item feed lead t (Ay it.to)).2=t.2:=if_neg fun g=>hne g.2;have h5:(Dy it item feed lead t (Ay it.to)).1=Bb item feed lead t.1 (Ay it.to):=rfl;rw[h4,h5,h1,h3];rw[<-h2]at hne⊢;rw[h2];generalize Bb item feed lead s.1 (Ba it)=u at*;have h6:Bb item feed lead u (Ay it.to)=(u.1++[⟨Ay it.to,AB u.2.2 (Ay it.to),item,feed,lead⟩],u.2.1+AB u.2.2 (Ay it.to),Ay it.to):=if_neg hne;rw[h6,h2];simp only;omega
theorem Zei {aA:List Itm} {i:Nat} (hn:JU aA aA.length=some i) (hs:smI (itA aA i)):CF aA aA.length=(Aw aA aA.length).len-AB (Ba (itA aA i)) (Ay (itA aA i).to):=by
 obtain⟨h1,-,h3⟩:=Qmc hn;obtain⟨k,hk⟩:∃k,aA.length=i+1+k:=⟨aA.length-(i+1),by omega⟩;have hm:AG (itA aA i):=⟨by have:=hs.1;omega,by have:=hs.1;omega⟩;obtain⟨g1,g2⟩:=Qu8 (aA:=aA) (i:=i+1) k fun j e1 e2=>h3 j (by omega) (by omega);have hsoft: ¬0<=B6 aA i:=by
  intro c;have hx:=Tx c;rcases Qc4 aA i with h|⟨-,-,m,m1,m2,m3,m4,m5⟩
  ·omega
  ·have:=h3 m m2 m3;have:=m4.1;omega
 rw[hk,g1,g2];have e1:CF aA (i+1)=(E_ aA i (Aw aA i) (CF aA i)).2:=if_pos hm;have e2:(Aw aA (i+1)).len=(E_ aA i (Aw aA i) (CF aA i)).1.2.1:=by
  rw[Qrr,Aw];unfold Fy;rw[if_pos hm]
 rw[e1,e2];unfold E_;have e3:Cp aA i (Aw aA i).frm=IY aA i (Aw aA i).frm++[Ba (itA aA i)]++[Ay (itA aA i).to]:=by
  unfold Cp;rw[if_pos hs];unfold Lv;rw[if_neg hsoft];unfold CJ;rw[if_neg (by have:=hs.1;omega)];rfl
 rw[e3,List.foldl_append,List.foldl_append,List.foldl_cons,List.foldl_nil,List.foldl_cons,List.foldl_nil];exact Zou _ hs _ _ _ _
theorem Q87 {MS MB:Fn} {aA:List Itm} {aF aD:Rw} {st:Pt} {b:Bool} {len sp mid:Int} (hl:aA.length<=1000) (hS:∀it,MS (Ah it)=some [B (decide (smI it))]):
  ∀n:Nat,n<=aA.length->∃o:Nat×List AC,An (Ny MS MB) [.view Ag aF, .view AD aD, .view Al (aA.map Ah),I ((n:Int)-1),I st.x,I st.y,I st.z,B b,I len,I sp,I mid]=some o/\
   match JU aA n with
   |some i=>o=(1,[I (if smI (itA aA i)/\(itA aA i).blend≠0 then mid else len)])
   |none=>o=(2,[.view Ag aF, .view AD aD,I st.x,I st.y,I st.z,B b,I len,I sp,I mid])
 |0,_=>by
  refine⟨_,A3 (o:=(2,_)) ?_ (by simp),rfl⟩;rw[Qyf,AM (by omega)]
 |n+1,hn=>by
  have hlt:n<aA.length:=by omega
  have hr:=EW hlt;have hs:=hS (itA aA n);simp only[Ah]at hs;have hin:(0:Int)<=(n:Int)/\(n:Int)<(aA.length:Int):=by omega
  have e:((n+1:Nat):Int)-1=n:=by omega
  have hst:Ny MS MB [.view Ag aF, .view AD aD, .view Al (aA.map Ah),I n,I st.x,I st.y,I st.z,B b,I len,I sp,I mid]=
    if(itA aA n).kind=10 then some (0,[.view Ag aF, .view AD aD, .view Al (aA.map Ah),I ((n:Int)-1),I st.x,I st.y,I st.z,B b,I len,I sp,I mid])
    else some (1,[I (if smI (itA aA n)/\(itA aA n).blend≠0 then mid else len)]):=by
   rw[Qyf];simp only[go_sem,List.length_map,Int.toNat_natCast,hr,hs,if_pos hin];rw[if_pos (by omega),Ae (by omega)];by_cases c1:(itA aA n).kind=10
   ·rw[if_pos c1,if_pos c1]
   ·rw[if_neg c1,if_neg c1];by_cases c2:smI (itA aA n)
    ·rw[if_pos c2];by_cases c3:(itA aA n).blend≠0
     ·rw[if_pos c3,if_pos ⟨c2,c3⟩]
     ·rw[if_neg c3,if_neg (fun g=>c3 g.2)]
    ·rw[if_neg c2,if_neg (fun g=>c2 g.1)]
  rw[e];unfold JU;by_cases c1:(itA aA n).kind=10
  ·rw[if_pos c1]at hst⊢;rw[Bj hst];exact Q87 hl hS n (by omega)
  ·rw[if_neg c1]at hst⊢;exact⟨_,A3 hst (by simp),rfl⟩
theorem Zjq {MS MB:Fn} {aA:List Itm} (hl:aA.length<=15) (hS:∀it,MS (Ah it)=some [B (decide (smI it))]) (h:∃o,MB [.view Al (aA.map Ah)]=some o/\Kh aA o):
  Qoq MS MB (An (Ny MS MB)) [.view Al (aA.map Ah)]=some [I (if Db aA=0 then Jh aA else 0)]:=by
 obtain⟨o,h1,h2⟩:=h;unfold Kh at h2;by_cases c:Db aA=0
 ·rw[if_pos c]at h2⊢;have hright:=(QQ c).2;have hsum:=Zrm hright;have hmid:=fun i hn hs=>Zei (aA:=aA) (i:=i) hn hs;have hlp:= @Q87 MS MB aA ((A6 aA).aF.map Au) ((A6 aA).aD.map At) (A6 aA).start (Aw aA aA.length).begun (Aw aA aA.length).len (Aw aA aA.length).speed (CF aA aA.length) (by omega) hS aA.length (by omega);obtain⟨r,r1,r2⟩:=hlp;rw[Qsd,h1];subst h2;have hw:wrap .i64 ((aA.length:Int)-1)=(aA.length:Int)-1:=Ae (by omega);unfold Jh;rw[hsum];generalize An (Ny MS MB)=N at*;simp only[go_sem,List.length_map,hw,r1];rw[if_neg (by simp)];cases hn:JU aA aA.length with
  |none=>
   rw[hn]at r2;simp only at r2;subst r2;rfl
  |some i=>
   rw[hn]at r2;simp only at r2;subst r2;simp only[go_sem];by_cases c2:smI (itA aA i)/\(itA aA i).blend≠0
   ·rw[if_pos c2,if_pos c2,hmid i hn c2.1]
   ·rw[if_neg c2,if_neg c2]
 ·rw[if_neg c]at h2⊢;subst h2;rw[Qsd,h1];simp only[go_sem];rw[if_pos c]
theorem Za6 {aA:List Itm} (hl:aA.length<=15):N0 [.view Al (aA.map Ah)]=some [I (if Db aA=0 then Jh aA else 0)]:=Zjq hl T7 (Q1u hl)
end Go.Bm
namespace Go.Bm
open Classical
def okU (s:Spk):Prop:=s.u.natAbs<=1000000/\s.w.natAbs<=1000000/\(0<=s.r/\s.r<=1000000)/\s.h.natAbs<=200000
theorem okU.s {s:Spk} (h:okU s):okS s:=⟨by have:=h.1;omega,by have:=h.2.1;omega,⟨h.2.2.1.1,by have:=h.2.2.1.2;omega⟩,by have:=h.2.2.2;omega⟩
theorem Z24 {a b:Spk} (ha:okU a) (hb:okU b) {u w:Int} (hu:u.natAbs<=100000000) (hw:w.natAbs<=100000000):okU (HK a b u w):=by
 unfold HK;split
 ·exact⟨by simp,by simp,by simp,by simp⟩
 ·rename_i h;have ha3:=ha.2.2;have hb3:=hb.2.2
  have hr:0<=hf a.r b.r/\hf a.r b.r<=1000000:=by unfold hf;omega
  have hh:(hf a.h b.h).natAbs<=200000:=by unfold hf;omega
  obtain⟨⟨-,n1⟩,-,n2⟩:=Q57 hu hw (r:=hf a.r b.r) (by omega) h;exact⟨by simp only;omega,by simp only;omega,hr,hh⟩
theorem Z1x {a b:Spk} (ha:okU a) (hb:okU b) {dir:Int} (hd:dir=1\/dir= -1) (full:Bool):okU (Ei a b dir full):=
 Z24 ha hb (O5 ha.s hb.s hd full).1 (O5 ha.s hb.s hd full).2
theorem Uz {dir:Int} (hd:dir=1\/dir= -1):∀(k:Nat) (full:Bool) {a b:Spk},okU a->okU b->∀s∈DD dir k full a b,okU s
 |0,_,a,b,_,hb,s,hs=>by simp[DD]at hs;subst hs;exact hb
 |k+1,full,a,b,ha,hb,s,hs=>by
  unfold DD at hs;have hm:=Z1x ha hb hd full;split at hs
  ·simp at hs;subst hs;exact hb
  ·rcases List.mem_append.1 hs with hs|hs
   ·exact Uz hd k false ha hm s hs
   ·exact Uz hd k false hm hb s hs
theorem Zwe {n:Nat} (hn:n<=300000000000):0<=Fu n/\Fu n<=1000000:=by
 obtain⟨r,-,h2,h3,-⟩:=Tt (n:=n) (by omega);have hm:=Ul h2 h3;rw[RN hm];have:r<1000000:=by
  by_cases c:r<1000000
  ·exact c
  ·have:=Nat.mul_le_mul (show 1000000<=r by omega) (show 1000000<=r by omega);omega
 split<;>omega
theorem Qn5 {pl:Int} {p:Pt} {b:Nat} (h:bd b p):(plU pl p).natAbs<=b/\(plW pl p).natAbs<=b/\(plH pl p).natAbs<=b:=Hz h
theorem Qi7 {it:Itm} {p:Pt} (hc:bd 4200 it.ce) (hp:bd 4200 p):okU (D9 it p):=by
 obtain⟨c1,c2,c3⟩:=Qn5 (pl:=it.aG) hc;obtain⟨p1,p2,p3⟩:=Qn5 (pl:=it.aG) hp;have h1:(dU it p*16).natAbs<=134400:=by unfold dU;omega
 have h2:(dW it p*16).natAbs<=134400:=by unfold dW;omega
 have q1:=DE h1;have q2:=DE h2;obtain⟨-,-,h3,-⟩:=Qo (A0 hc (by omega)) (A0 hp (by omega));obtain⟨n,hn⟩:=Int.eq_ofNat_of_zero_le h3;refine⟨Nat.le_trans h1 (by decide),Nat.le_trans h2 (by decide),?_,?_⟩
 ·show 0<=Fu _/\Fu _<=_;rw[hn];refine Zwe ?_;unfold sq2 at hn;omega
 ·show(plH it.aG p*16).natAbs<=_;omega
theorem Ziz {it:Itm} {s:Spk} (hc:bd 4200 it.ce) (hs:okU s):bd B24 (IF it s):=by
 obtain⟨h1,h2,-⟩:=Qn5 (pl:=it.aG) (E0 hc);obtain⟨s1,s2,-,s4⟩:=hs;exact Q28 (by unfold B24;omega) (by unfold B24;omega) (by unfold B24;omega)
theorem Zkk {it:Itm} (h:Made it) (hf:bd 4084 it.fr):∀p∈CJ it,bd B24 p:=by
 have ht:=Qxd h hf;intro p hp;unfold CJ at hp;split at hp
 ·rename_i h3;simp only[List.mem_map]at hp;obtain⟨s,hs,rfl⟩:=hp;have hce:bd 4200 it.ce:=A0 (UZ (h.arc h3) (by omega) hf).2 (by omega);refine Ziz hce ?_;rcases List.mem_cons.1 hs with rfl|hs
  ·exact Qi7 hce (A0 hf (by omega))
  ·exact Uz (h.arc h3).dir 16 _ (Qi7 hce (A0 hf (by omega))) (Qi7 hce (A0 ht (by omega))) s hs
 ·simp at hp;rcases hp with rfl|rfl
  ·exact A0 (E0 hf) (by decide)
  ·exact A0 (E0 ht) (by decide)
def Rm (n:Nat) (g:Sgm):Prop:=bd B24 g.to/\0<=g.item/\g.item<n/\i64 g.lead
theorem Qq2 {n:Nat} {item feed lead:Int} (h1:0<=item/\item<n) (h2:i64 lead):∀(pts:List Pt) (s:List Sgm×Int×Pt),(∀p∈pts,bd B24 p)->(∀g∈s.1,Rm n g)->∀g∈(pts.foldl (Bb item feed lead) s).1,Rm n g
 |[],s,_,h=>h
 |q::pts,s,hp,h=>by
  rw[List.foldl_cons];refine Qq2 h1 h2 pts _ (fun p hp'=>hp p (by simp[hp'])) ?_;unfold Bb;split
  ·exact h
  ·intro g hg;simp only[List.mem_append,List.mem_singleton]at hg;rcases hg with hg|rfl
   ·exact h g hg
   ·exact⟨hp q (by simp),h1.1,h1.2,h2⟩
structure PIn (n : Nat) (s : BSt) : Prop where
 start:bd B24 s.start
 aF:∀g∈s.aF,Rm n g
 aD:∀m∈s.aD,0<=m.item/\m.item<n/\i64 m.at_
theorem Zso {aA:List Itm} {i:Nat} {frm:Int} (hd:drawn (itA aA i)) (hf:LD aA i frm) (hall:∀k<aA.length,AG (itA aA k)->drawn (itA aA k)) (hc:∀p∈CJ (itA aA i),bd B24 p):∀p∈Cp aA i frm,bd B24 p:=by
 unfold Cp;by_cases hs:smI (itA aA i)
 ·rw[if_pos hs];intro p hp;rcases List.mem_append.1 hp with hp|hp
  ·rcases List.mem_append.1 hp with hp|hp
   ·unfold IY at hp;rcases hf with rfl|⟨f,rfl,hf1,hf2⟩
    ·rw[if_neg (by omega)]at hp;exact hc p (List.mem_of_mem_take hp)
    ·rw[if_pos (by omega)]at hp;exact(Ld (aA:=aA) (i:=(f:Int).toNat) (k:=i) (by simpa using hf2) hd).1 p (List.mem_of_mem_drop hp)
   ·simp at hp;subst hp;exact LA hd.1.2.1 hd.1.2.2.1
  ·unfold Lv at hp;by_cases h:0<=B6 aA i
   ·rw[if_pos h]at hp;obtain⟨k,hk,hk1,hk2⟩:=SD hall h;exact(Ld (aA:=aA) (i:=i) (k:=(B6 aA i).toNat) hd (by rw[hk];simpa using hk2)).1 p (List.mem_of_mem_take hp)
   ·rw[if_neg h]at hp;exact hc p (List.mem_of_mem_drop hp)
 ·rw[if_neg hs];exact hc
theorem Zil {it:Itm} (hf:it.kind=1\/1<=it.feed/\it.feed<=60000000):i64 (Ms it):=by
 unfold Ms;split
 ·rename_i h;unfold syI at h;unfold mn i64;split<;>omega
 ·unfold i64;omega
theorem Zbe {aA:List Itm} {i:Nat} {s:BSt} (hi:i<aA.length) (hl:aA.length<=15) (hright:∀j<aA.length,¬B8 (itA aA j)) (hch:∀j<aA.length,AG (itA aA j)->∀p∈CJ (itA aA j),bd B24 p) (hok:BOK aA i s) (h:PIn aA.length s):PIn aA.length (Fy aA i s):=by
 have hall:∀k<aA.length,AG (itA aA k)->drawn (itA aA k):=fun k hk hm=>(KG (hright k hk) hm).1;have hok2:=Q6m hi hright hok;have hlen:=hok.len;have hlen2:=hok2.len;unfold Fy at hlen2⊢;by_cases hm:AG (itA aA i)
 ·rw[if_pos hm]at hlen2⊢;have hd:=hall i hi hm;refine⟨?_,Qq2 ⟨by omega,by omega⟩ (Zil (KG (hright i hi) hm).2) _ _ (Zso hd hok.frm hall (hch i hi hm)) h.aF,?_⟩
  ·show bd B24 (if s.begun=true then s.start else Ay (itA aA i).fr);split
   ·exact h.start
   ·exact E0 hd.1.2.1
  ·intro m hm;simp only[List.mem_append,List.mem_singleton]at hm;rcases hm with hm|rfl
   ·exact h.aD m hm
   ·refine⟨by simp only;omega,by simp only;omega,?_⟩;simp only at hlen2⊢;unfold i64;omega
 ·rw[if_neg hm];refine⟨h.start,h.aF,?_⟩;intro m hm;simp only[List.mem_append,List.mem_singleton]at hm;rcases hm with hm|rfl
  ·exact h.aD m hm
  ·refine⟨by simp only;omega,by simp only;omega,?_⟩;simp only;unfold i64;omega
theorem Qzi {aA:List Itm} (hl:aA.length<=15) (hright:∀j<aA.length,¬B8 (itA aA j)) (hch:∀j<aA.length,AG (itA aA j)->∀p∈CJ (itA aA j),bd B24 p):∀i,i<=aA.length->PIn aA.length (Aw aA i)
 |0,_=>by rw[Aw];exact⟨by unfold bd;simp,fun g h=>(by cases h),fun g h=>(by cases h)⟩
 |i+1,hi=>by rw[Aw];exact Zbe (by omega) hl hright hch (NK hright i (by omega)) (Qzi hl hright hch i (by omega))
theorem Z3v {p:Pt} {aA:List Itm} (hl:aA.length<=15) (h:Items 4084 p aA):bd B24 (A6 aA).start/\(∀g∈(A6 aA).aF,Rm aA.length g)/\(∀m∈(A6 aA).aD,0<=m.item/\m.item<aA.length/\i64 m.at_)/\(A6 aA).aD.length=aA.length:=by
 have hright:=(QQ (Qtc (by omega) h (by omega))).2;have h1 := Qzi hl hright (fun j hj hm => by
  rcases h.made _ (Q00 hj)with⟨-,g2,-,g4,-⟩|g
  ·exact Zkk g2 g4
  ·exact absurd hm (Pj g)) aA.length (Nat.le_refl _)
 exact⟨h1.start,h1.aF,h1.aD,(NK hright aA.length (Nat.le_refl _)).aD⟩
theorem Z2h {aA:List Itm} (hl:aA.length<=15) (hc:Db aA=0):i64 (Jh aA):=by
 have hg:=Qzm hl hc;have hs:=Wy (Wv hg.start hg.aF);have hcount:=hg.count;have hright:=(QQ hc).2;have h0:i64 (AX (A6 aA).aF):=by unfold i64;omega
 unfold Jh;split
 ·rename_i i e;split
  ·rename_i c;obtain⟨hi,-,-⟩:=Qmc e;have hm:AG (itA aA i):=⟨by have:=c.1.1;omega,by have:=c.1.1;omega⟩;obtain⟨hd,-⟩:=KG (hright i hi) hm;have:=HR (A0 (LA hd.1.2.1 hd.1.2.2.1) (by decide)) (A0 (E0 hd.1.2.2.1) (by decide));unfold i64;omega
  ·exact h0
 ·exact h0
end Go.Bm
namespace Go.Bm
open Classical
theorem S1 (n lo hi:Int):G_ [I n,I lo,I hi]=some [B (decide (lo<=n/\n<=hi))]:=by
 show Qhe [I n,I lo,I hi]=_;rw[Zod];by_cases h1:lo<=n<;>by_cases h2:n<=hi<;>simp[h1,h2]
theorem Zzk {M:Fn} (hM:∀n lo hi:Int,M [I n,I lo,I hi]=some [B (decide (lo<=n/\n<=hi))]) {a:Axs} (h:AxOK a) (hne:a.pitch≠[]):
  ∃o,An (Qf8 M) (.view Aa (a.pitch.map As)::I a.pitch.length::I 0::AJ a)=some o/\o.1=2:=by
 have hsp:=h.spacing hne;refine(?_:Out (fun o:Nat×List AC=>o.1=2) _);refine CB (fun i:Nat=> .view Aa (a.pitch.map As)::I a.pitch.length::I (i:Int)::AJ a) (fun i=>i<=a.pitch.length) (fun i=>a.pitch.length-i) _ ?_ 0 (by simp);intro i hi;have hc:=h.count;rw[Z6t];dsimp only[jA,gA,bA,wA];have hv:∀j:Nat,j<a.pitch.length->Af (nth .dead (nth [] (a.pitch.map As) j) 0)=a.pitch.getD j 0:=fun j hj=>by
  have e:nth [] (a.pitch.map As) j=As a.pitch[j]:=by
   rw[HI [] (a.pitch.map As) j (by rw[List.length_map];exact hj),List.getElem_map]
  rw[e,List.getD,List.getElem?_eq_getElem hj];rfl
 refine .cond (fun k=> ?_) fun _=> .some (.inr ⟨by simp,rfl⟩);have k:(i:Int)<(a.pitch.length:Int):=Bp k;have hl:((a.pitch.map As).length:Int)=a.pitch.length:=by rw[List.length_map]
 refine .cond (fun _=> ?_) fun e=>(inB (by omega) (by rw[hl];exact k) e).elim;have hm: -4096<=a.pitch.getD i 0/\a.pitch.getD i 0<=4096:=by
  refine h.pitch.1 _ ?_;rw[List.getD,List.getElem?_eq_getElem (by omega)];exact List.getElem_mem _
 rw[Int.toNat_natCast,hv i (by omega),hM];simp only[Option.bind_some,gA,wA,bA,jA,CI,Dp];rw[decide_eq_true hm];refine .cond (fun e=>by cases e) fun _=> ?_;have nx:∀{x:List AC},x= .view Aa (a.pitch.map As)::I a.pitch.length::I ((i:Int)+1)::AJ a->Out (fun o:Nat×List AC=>(o.1=0/\∃s':Nat,o.2= .view Aa (a.pitch.map As)::I a.pitch.length::I (s':Int)::AJ a/\s'<=a.pitch.length/\a.pitch.length-s'<a.pitch.length-i)\/(o.1≠0/\o.1=2)) (some (0,x)):=fun e=>
  .some (.inl ⟨rfl,i+1,by rw[e];rfl,by omega,by omega⟩)
 rw[Ae (x:=(i:Int)+1) (by omega)];refine .cond (fun g=> ?_) fun _=>nx rfl;have g:(i:Int)>0:=Bp g;rw[Ae (x:=(i:Int)-1) (by omega)];refine .cond (fun _=> ?_) fun e=>(inB (by omega) (by rw[hl];omega) e).elim;obtain⟨j,rfl⟩:∃j:Nat,i=j+1:=⟨i-1,by omega⟩;have hd:=h.pitch.2 j (by omega);have hmj: -4096<=a.pitch.getD j 0/\a.pitch.getD j 0<=4096:=by
  refine h.pitch.1 _ ?_;rw[List.getD,List.getElem?_eq_getElem (by omega)];exact List.getElem_mem _
 have ej:(((j+1:Nat):Int)-1).toNat=j:=by omega
 rw[ej,hv j (by omega),hM];simp only[Option.bind_some,gA,wA,bA,jA,CI,Dp];have q1:a.spacing.tdiv 4=a.spacing/4:=Int.tdiv_eq_ediv_of_nonneg (by omega);rw[q1,Ae (x:=a.spacing/4) (by omega),Ae (x:=0-a.spacing/4) (by omega),Ae (x:=a.pitch.getD (j+1) 0-a.pitch.getD j 0) (by omega)];refine .cond (fun e=> ?_) fun _=>nx rfl;rw[decide_eq_true (show 0-a.spacing/4<=a.pitch.getD (j+1) 0-a.pitch.getD j 0/\a.pitch.getD (j+1) 0-a.pitch.getD j 0<=a.spacing/4 by omega)]at e;cases e
theorem Zjr {M:Fn} {N:Lp} (hM:∀n lo hi:Int,M [I n,I lo,I hi]=some [B (decide (lo<=n/\n<=hi))]) {a:Axs} (h:AxOK a)
  (hN:a.pitch≠[]->∃o,N (.view Aa (a.pitch.map As)::I a.pitch.length::I 0::AJ a)=some o/\o.1=2):Qlh M N (AJ a)=some [B true]:=by
 have hs:=h.spacing;have ho:=h.origin;have hc:=h.count
 rw[Z65];by_cases e:a.pitch=[]
 ·rw[e];rfl
 ·have hl:0<a.pitch.length:=List.length_pos_iff.2 e;obtain⟨o,h1,h2⟩:=hN e;have hs:=hs e;have h1':N [.view Aa (a.pitch.map As),I (a.pitch.map As).length,I 0,I a.step,I a.speed,I a.accel,I a.jerk,I a.low,I a.high,I a.back,I a.origin,I a.spacing, .view Aa (a.pitch.map As)]=some o:=by rw[List.length_map];exact h1
  rw[A_ (by rw[List.length_map];simp;omega),A_ (by rw[List.length_map];simp;omega),hM,hM,h1'];simp only[Option.bind_some,gA,wA,bA,jA,CI,Dp];rw[decide_eq_true (show-16777216<=a.origin/\a.origin<=16777216 by omega),decide_eq_true (show 4<=a.spacing/\a.spacing<=16777216 by omega),h2];rfl
theorem Z4f {a:Axs} (h:AxOK a):Pm (AJ a)=some [B true]:=Zjr S1 h fun hne=>Zzk S1 h hne
theorem Zsy {M N:Fn} (hN:∀n lo hi:Int,N [I n,I lo,I hi]=some [B (decide (lo<=n/\n<=hi))]) {a:Axs} (h:AxOK a) (hM:M (AJ a)=some [B true]):ZH M N (AJ a)=some [B true]:=by
 have hs:=h.step;have hb:=h.back;obtain⟨l1,l2,l3,l4,l5,l6,l7,l8⟩:=h.lim
 rw[Zpj];simp only[hN,Option.bind_some,CI,Dp];rw[decide_eq_true (show 4<=a.step/\a.step<=4096 by omega),decide_eq_true (show 1<=a.speed/\a.speed<=1048576 by omega),decide_eq_true (show 2<=a.accel/\a.accel<=1048576 by omega),decide_eq_true (show 4<=a.jerk/\a.jerk<=1048576 by omega),decide_eq_true (show a.low>= -16777216 by omega),decide_eq_true (show a.high<=16777216 by omega),decide_eq_true (show a.low<=a.high by omega),decide_eq_true (show 0<=a.back/\a.back<=64 by omega)];simp only[cond_true];rw[hM];rfl
theorem Zdd {a:Axs} (h:AxOK a):P2 (AJ a)=some [B true]:=Zsy S1 h (Z4f h)
theorem Zyp {N:Fn} (hN:∀n lo hi:Int,N [I n,I lo,I hi]=some [B (decide (lo<=n/\n<=hi))]) {a:Axs} (h:AxOK a) {q:Int} (hq:q.natAbs<=B24):Qqw N (AJ a++[I q])=some [B true]:=by
 obtain⟨-,-,-,-,-,-,l7,l8⟩:=h.lim;refine Eq.trans (Znz N ..) ?_;rw[hN,decide_eq_true (show a.low<=q/\q<=a.high by unfold B24 at hq;omega)];rfl
theorem Zbf {a:Axs} (h:AxOK a) {q:Int} (hq:q.natAbs<=B24):Hr (AJ a++[I q])=some [B true]:=Zyp S1 h hq
theorem Z1o {M:Fn} {x:Ax3} {p:Pth} (hs:bd B24 p.start) (hg:∀g∈p.aF,bd B24 g.to) (hl:p.aF.length<=1000000):
  Out (fun o:Nat×List AC=>o.1=1/\∃pts:List Pt,o.2= .view kPt (pts.map ptR)::AF x/\(∀q∈pts,bd B24 q)/\pts.length<=1000001) (An (QY M) (.view kPt [ptR p.start]:: .view Ag (p.aF.map Au)::I (p.aF.map Au).length::I 0::AF x)):=by
 refine CB (fun s:Nat×List Pt=> .view kPt (s.2.map ptR):: .view Ag (p.aF.map Au)::I (p.aF.map Au).length::I (s.1:Int)::AF x) (fun s=>s.1<=p.aF.length/\(∀q∈s.2,bd B24 q)/\s.2.length=s.1+1) (fun s=>p.aF.length-s.1) _ ?_ (0,[p.start]) ⟨by simp,by simpa using hs,rfl⟩;rintro⟨i,pts⟩ ⟨h1,h2,h3⟩;dsimp only at h1 h2 h3;refine Out.eqv (Zk2 M ..) ?_;have hsl:((p.aF.map Au).length:Int)=p.aF.length:=by rw[List.length_map]
 refine .cond (fun k=> ?_) fun _=> .some (.inr ⟨by simp,rfl,pts,rfl,h2,by omega⟩);have k:(i:Int)<((p.aF.map Au).length:Int):=Bp k;rw[hsl]at k;refine .cond (fun _=> ?_) fun e=>(inB (by omega) (by rw[hsl];exact k) e).elim;have er:nth [] (p.aF.map Au) (i:Int).toNat=Au p.aF[i]:=by
  rw[Int.toNat_natCast,HI [] _ i (by rw[List.length_map];omega),List.getElem_map]
 rw[er];have hq:=hg _ (List.getElem_mem (show i<p.aF.length by omega));refine .cond (fun _=> ?_) fun e=>by rw[B0 (by simp;omega)]at e;cases e
 refine .some (.inl ⟨rfl,(i+1,pts++[p.aF[i].to]),?_,⟨by dsimp only;omega,?_,by simp;omega⟩,by dsimp only;omega⟩)
 ·rw[Ae (x:=(i:Int)+1) (by omega),List.map_append];rfl
 ·intro q hq';dsimp only at hq';simp only[List.mem_append,List.mem_singleton]at hq';rcases hq' with hq'|rfl
  ·exact h2 q hq'
  ·exact hq
theorem Zjw {M:Fn} {N3:Lp} (hM:∀{a:Axs} {q:Int},AxOK a->q.natAbs<=B24->M (AJ a++[I q])=some [B true]) {x:Ax3} (hx:Ax3M x) {pts:List Pt} (hp:∀q∈pts,bd B24 q) (hl:pts.length<=1000001):
  Out (fun o:Nat×List AC=>o.1=2) (An (SU M N3) (.view kPt (pts.map ptR)::I (pts.map ptR).length::I 0::AF x)):=by
 refine CB (fun i:Nat=> .view kPt (pts.map ptR)::I (pts.map ptR).length::I (i:Int)::AF x) (fun i=>i<=pts.length) (fun i=>pts.length-i) _ ?_ 0 (by simp);intro i h1;refine Out.eqv (Zrn M N3 ..) ?_;have hsl:((pts.map ptR).length:Int)=pts.length:=by rw[List.length_map]
 refine .cond (fun k=> ?_) fun _=> .some (.inr ⟨by simp,rfl⟩);have k:(i:Int)<((pts.map ptR).length:Int):=Bp k;rw[hsl]at k;refine .cond (fun _=> ?_) fun e=>(inB (by omega) (by rw[hsl];exact k) e).elim;have er:nth [] (pts.map ptR) (i:Int).toNat=ptR pts[i]:=by
  rw[Int.toNat_natCast,HI [] _ i (by rw[List.length_map];omega),List.getElem_map]
 rw[er];obtain⟨q1,q2,q3⟩:=hp _ (List.getElem_mem (show i<pts.length by omega));refine .bind (p:=fun o=>o=[B true]) ⟨_,hM hx.a q1,rfl⟩ fun o e=> ?_;subst e;refine .cond (fun e=>by cases e) fun _=> ?_;refine .bind (p:=fun o=>o=[B true]) ⟨_,hM hx.b q2,rfl⟩ fun o e=> ?_;subst e;refine .cond (fun e=>by cases e) fun _=> ?_;refine .bind (p:=fun o=>o=[B true]) ⟨_,hM hx.c q3,rfl⟩ fun o e=> ?_;subst e;refine .cond (fun e=>by cases e) fun _=> ?_;exact .some (.inl ⟨rfl,i+1,by rw[Ae (x:=(i:Int)+1) (by omega)];rfl,by omega,by omega⟩)
theorem Zlz {M:Fn} {N3 N8:Lp} {x:Ax3} {p:Pth}
  (h3:Out (fun o:Nat×List AC=>o.1=1/\∃pts:List Pt,o.2= .view kPt (pts.map ptR)::AF x/\(∀q∈pts,bd B24 q)/\pts.length<=1000001) (N3 (.view kPt [ptR p.start]:: .view Ag (p.aF.map Au)::I (p.aF.map Au).length::I 0::AF x)))
  (h8:∀{pts:List Pt},(∀q∈pts,bd B24 q)->pts.length<=1000001->Out (fun o:Nat×List AC=>o.1=2) (N8 (.view kPt (pts.map ptR)::I (pts.map ptR).length::I 0::AF x))):
  Out (fun o=>o=[B true]) (WE M N3 N8 (AF x++AH p)):=by
 refine Out.eqv (Zem M N3 N8 ..) ?_;refine .bind h3 fun o q=> ?_;obtain⟨o1,o2⟩:=o;obtain⟨q1,pts,q2,q3,q4⟩:=q;dsimp only at q1 q2;subst q1 q2;refine .cond (fun _=> ?_) fun e=>by cases e
 refine .bind (h8 q3 q4) fun o q=> ?_;rw[q];exact .some rfl
theorem Zzh {x:Ax3} {p:Pth} (hx:Ax3M x) (hs:bd B24 p.start) (hg:∀g∈p.aF,bd B24 g.to) (hl:p.aF.length<=1000000):Qf (AF x++AH p)=some [B true]:=by
 obtain⟨o,h,rfl⟩:=Zlz (M:=Hr) (N3:=An (QY Hr)) (N8:=An (SU Hr (An (QY Hr)))) (Z1o (x:=x) hs hg hl) (fun h1 h2=>Zjw (fun ha hq=>Zbf ha hq) hx h1 h2);exact h
theorem Zef:∃v:Int,EB [I 30000]=some [I v]/\60000<=v:=by
 have key:∀{M:Fn} {v:Int},M [I 30000,I 1048576,I 60000,I 2]=some [I v,B true]->Rp M [I 30000]=some [I v]:=fun h=>by
  rw[Za2,h];rfl
 refine⟨_,key (R6 (by unfold i64;omega) (by unfold i64;omega) (by omega) (by decide)),?_⟩;unfold A5;omega
theorem Z5e {MR MP MV:Fn} {x:Ax3} (hx:Ax3M x) {pa pb pc ramp lag:Int} (hp:Plan3 pa pb pc) (hr:1<=ramp/\ramp<=60000) (hl:0<=lag/\lag<=40)
  (hV:∀{a:Axs},AxOK a->MV (AJ a)=some [B true]) (hP:MP [I pa,I pb,I pc]=some [B true]) (hR:∃v:Int,MR [I 30000]=some [I v]/\60000<=v):Out (fun o=>o=[B true]) (Qee MR MP MV (AF x++[I pa,I pb,I pc,I ramp,I lag])):=by
 refine Out.eqv (Zvx MR MP MV ..) ?_;refine .bind (p:=fun o=>o=[B true]) ⟨_,hV hx.a,rfl⟩ fun o e=> ?_;subst e;refine .cond (fun e=>by cases e) fun _=> .bind (p:=fun o=>o=[B true]) ⟨_,hV hx.b,rfl⟩ fun o e=> ?_;subst e;refine .cond (fun e=>by cases e) fun _=> .bind (p:=fun o=>o=[B true]) ⟨_,hV hx.c,rfl⟩ fun o e=> ?_;subst e;refine .cond (fun e=>by cases e) fun _=> .bind (p:=fun o=>o=[B true]) ⟨_,hP,rfl⟩ fun o e=> ?_;subst e;obtain⟨v,h1,h2⟩:=hR;refine .cond (fun _=> .cond (fun _=> ?_) fun e=>absurd hr.1 (Bt e)) fun e=>by cases e
 refine .bind (p:=fun o=>o=[I v]) ⟨_,h1,rfl⟩ fun o e=> ?_;subst e;refine .cond (fun _=> .cond (fun _=> ?_) fun e=>absurd hl.1 (Bt e)) fun e=>absurd (show ramp<=v by omega) (Bt e);exact .some (by rw[decide_eq_true (show lag<=1048576 by omega)])
theorem Z6y {x:Ax3} (hx:Ax3M x) {pa pb pc ramp lag:Int} (hp:Plan3 pa pb pc) (hr:1<=ramp/\ramp<=60000) (hl:0<=lag/\lag<=40):PQ (AF x++[I pa,I pb,I pc,I ramp,I lag])=some [B true]:=by
 have hP:EL [I pa,I pb,I pc]=some [B true]:=by rw[PB,decide_eq_true (show 1<=pa/\pa<=65536/\2<=pb/\pb<=65536/\1<=pc/\pc<=16777216 from⟨hp.a.1,hp.a.2,hp.b.1,hp.b.2,hp.c.1,hp.c.2⟩)]
 obtain⟨o,h,rfl⟩:=Z5e hx hp hr hl Zdd hP Zef;exact h
theorem Zms {x:Ax3} (hx:Ax3M x) (l0 l1 l2 l3 l4:Int):PO (AF x++[I l0,I l1,I l2,I l3,I l4])=some (AF x++[I l0,I l1,I l2,I l3,I l4]):=by
 have ha:=hx.a.count;have hb:=hx.b.count;have hc:=hx.c.count
 have key:Qoc (AF x++[I l0,I l1,I l2,I l3,I l4])=some (AF x++[I l0,I l1,I l2,I l3,I l4]):=by
  refine Eq.trans (Zxc ..) ?_;rw[B0 (by rw[List.length_map];omega),B0 (by rw[List.length_map];omega),B0 (by rw[List.length_map];omega)];rfl
 exact key
abbrev Sr (K:Kf):Kf:=⟨K.x,K.pa,K.pb,K.pc,K.ramp,K.lag,[],false,⟨⟨0,0,0⟩,[],[]⟩,0,0,⟨[],0,0,⟨0,0,0⟩⟩⟩
abbrev RQ (K:Kf):Kf:=⟨K.x,K.pa,K.pb,K.pc,K.ramp,K.lag,K.aA,K.closed,K.p,K.len,K.set,⟨[],0,0,⟨0,0,0⟩⟩⟩
abbrev Cn:Cv:=⟨0,0,0,0,0,0,100,100,false,false,false,0,0,-1,1,0,0,0,0,0,0,0,0,false,0,false,0,false,0,-1,0,0,0,0,0,0,0,false,false,false⟩
noncomputable abbrev kfP (x:Ax3) (pa pb pc ramp lag:Int) (aA:List Itm) (closed:Bool):Kf:=⟨x,pa,pb,pc,ramp,lag,aA,closed,A6 aA,AX (A6 aA).aF,Jh aA,ER (A6 aA) x ⟨1,1,1⟩ 0 (AX (A6 aA).aF)⟩
theorem Z52 {MS ML MR MB:Fn} {K:Kf} (hl:K.aA.length<=15) (c:Cv)
  (hB:MB [.view Al (K.aA.map Ah)]=some (AH K.p++[I 0])) (hR:MR (AF K.x++AH K.p)=some [B true]) (hL:ML (AH K.p)=some [I K.len]) (hS:MS [.view Al (K.aA.map Ah)]=some [I K.set]):
  Sb MS ML MR MB (.view Al (K.aA.map Ah)::B K.closed::Ad (Sr K) c)=some (I 0::Ad (RQ K) c):=by
 have key:Out (fun o=>o=I 0::Ad (RQ K) c) (Sb MS ML MR MB (.view Al (K.aA.map Ah)::B K.closed::Ad (Sr K) c)):=by
  refine Out.eqv (Z5v MS ML MR MB _ _ (Sr K) c) ?_;refine .bind (p:=fun o=>o=_) ⟨_,hB,rfl⟩ fun o e=> ?_;subst e;refine .cond (fun e=>by cases e) fun _=> ?_;refine .bind (p:=fun o=>o=_) ⟨_,hR,rfl⟩ fun o e=> ?_;subst e;refine .cond (fun e=>by cases e) fun _=> .cond (fun _=> ?_) fun e=>by rw[B0 (by rw[List.length_map];omega)]at e;cases e
  refine .bind (p:=fun o=>o=_) ⟨_,hL,rfl⟩ fun o e=> ?_;subst e;refine .bind (p:=fun o=>o=_) ⟨_,hS,rfl⟩ fun o e=> ?_;subst e;exact .some rfl
 obtain⟨o,h,rfl⟩:=key;exact h
end Go.Bm
namespace Go.Bm
open Classical
theorem Zsw {MS ML ML' MG' MO MC MD:Fn} {K:Kf}
  (hD:MD (AF K.x++[I K.pa,I K.pb,I K.pc,I K.ramp,I K.lag])=some [B true]) (hC:MC (AF K.x++[I K.pa,I K.pb,I K.pc,I K.ramp,I K.lag])=some (AF K.x++[I K.pa,I K.pb,I K.pc,I K.ramp,I K.lag]))
  (hO:MO []=some [I 100,I 100,B false,B false,B false]) (hG:MG' []=some [I 0,I 0,I (-1)])
  (hL:ML' (.view Al (K.aA.map Ah)::B K.closed::Ad (Sr K) Cn)=some (I 0::Ad (RQ K) Cn))
  (hT:ML (AH K.p++AF K.x++[I 1,I 1,I 1,I 0,I K.len])=some (AS K.t)) (hS:MS [I 0]=some [I 0,I 0,I 0,I 0,I 0,I 0]):
  Sw MS ML ML' MG' MO MC MD (AF K.x++[I K.pa,I K.pb,I K.pc,I K.ramp,I K.lag]++[.view Al (K.aA.map Ah),B K.closed])=some (I 0::Ad K Cn):=by
 have key:Out (fun o=>o=I 0::Ad K Cn) (Sw MS ML ML' MG' MO MC MD (AF K.x++[I K.pa,I K.pb,I K.pc,I K.ramp,I K.lag]++[.view Al (K.aA.map Ah),B K.closed])):=by
  refine Out.eqv (Zvp MS ML ML' MG' MO MC MD ..) ?_;refine .bind (p:=fun o=>o=_) ⟨_,hD,rfl⟩ fun o e=> ?_;subst e;refine .cond (fun e=>by cases e) fun _=> ?_;refine .bind (p:=fun o=>o=_) ⟨_,hC,rfl⟩ fun o e=> ?_;subst e;refine .bind (p:=fun o=>o=_) ⟨_,hO,rfl⟩ fun o e=> ?_;subst e;refine .bind (p:=fun o=>o=_) ⟨_,hG,rfl⟩ fun o e=> ?_;subst e;refine .bind (p:=fun o=>o=I 0::Ad (RQ K) Cn) ⟨_,hL,rfl⟩ fun o e=> ?_;subst e;refine .cond (fun e=>by cases e) fun _=> ?_;refine .bind (p:=fun o=>o=_) ⟨_,hT,rfl⟩ fun o e=> ?_;subst e;refine .bind (p:=fun o=>o=_) ⟨_,hS,rfl⟩ fun o e=> ?_;subst e;exact .some (by kernel_rfl)
 obtain⟨o,h,rfl⟩:=key;exact h
structure MachOK (x : Ax3) (pa pb pc ramp lag : Int) : Prop where
 x:Ax3M x
 plan:Plan3 pa pb pc
 ramp:1<=ramp/\ramp<=60000
 lag:0<=lag/\lag<=40
theorem Qbs {x:Ax3} {pa pb pc ramp lag:Int} (hm:MachOK x pa pb pc ramp lag) {aA:List Itm} (hl:aA.length<=15) {p0:Pt} (hi:Items 4084 p0 aA) (closed:Bool):
  Ie (AF x++[I pa,I pb,I pc,I ramp,I lag]++[.view Al (aA.map Ah),B closed])=some (I 0::Ad (kfP x pa pb pc ramp lag aA closed) Cn)/\KOK (kfP x pa pb pc ramp lag aA closed):=by
 have hc:=Qtc (by omega) hi (show aA.length<=20000 by omega);have hg:=Qzm hl hc;obtain⟨i1,i2,i3,i4⟩:=Z3v hl hi;have hs:=Wy (Wv hg.start hg.aF);have hcount:=hg.count;refine⟨?_,?_⟩
 ·have hB:Nd [.view Al (aA.map Ah)]=some (AH (A6 aA)++[I 0]):=by rw[Zi7 hl,if_pos hc]
  have hS:N0 [.view Al (aA.map Ah)]=some [I (Jh aA)]:=by rw[Za6 hl,if_pos hc]
  have hR:=Zzh hm.x i1 (fun g h=>(i2 g h).1) (by omega);have hT:=Zvg (d:=⟨1,1,1⟩) (from_:=0) (to:=AX (A6 aA).aF) hg hm.x.ok;have hload:=Z52 (K:=kfP x pa pb pc ramp lag aA closed) hl Cn hB hR (Q7l hg.ok) hS;have hO:PY []=some [I 100,I 100,B false,B false,B false]:=by show UC []=_;rw[Zlx]
  have hG:JN []=some [I 0,I 0,I (-1)]:=by show Uh []=_;rw[Q78]
  have hst:IZ [I 0]=some [I 0,I 0,I 0,I 0,I 0,I 0]:=Qyq 0;exact Zsw (K:=kfP x pa pb pc ramp lag aA closed) (Z6y hm.x hm.plan hm.ramp hm.lag) (Zms hm.x ..) hO hG hload hT hst
 ·refine⟨⟨hg,hm.x,Zoa _ _ _ hm.x.ok hg⟩,hm.plan,fun g h=>(i2 g h).2,i3,?_,?_,?_,Z2h hl hc⟩
  ·show(A6 aA).aD.length<=1000000;omega
  ·intro it hit h8;rcases hi.made it hit with⟨-,-,g,-⟩|g
   ·rw[g.2.2.2.1];unfold i64;omega
   ·have:=g.spin h8;unfold i64;omega
  ·show i64 (AX (A6 aA).aF);unfold i64;omega
end Go.Bm
namespace Go.Bm
structure Evn where
 (cycle kind n:Int)
abbrev evR (e:Evn):List AC:=[I e.cycle,I e.kind,I e.n]
structure EvOK (e : Evn) : Prop where
 kind:1<=e.kind/\e.kind<=13
 n: -5<=e.n/\e.n<=4194304
theorem WX (E:List Evn) {i:Nat} (h:i<E.length):nth [] (E.map evR) (i:Int).toNat=evR E[i]:=by
 rw[Int.toNat_natCast,HI [] _ i (by rw[List.length_map];exact h),List.getElem_map]
theorem Zz7 {α:Type} (P:α->Bool) (E:List α) {i:Nat} (h:i<E.length):(E.take (i+1)).filter P=(E.take i).filter P++(if P E[i]=true then [E[i]]else []):=by
 rw[List.take_add_one,List.filter_append,List.getElem?_eq_getElem h];congr 1;by_cases c:P E[i]=true
 ·rw[if_pos c];simp[c]
 ·rw[if_neg c];simp[c]
theorem Qq9 {P:Evn->Bool} {E:List Evn} (hl:E.length<=1000000) {st:Lp} {enc:Rw->Nat->List AC}
  (hs:∀(l:Rw) (i:Nat),i<=E.length->l.length<=i->st (enc l i)=if h:i<E.length then some (0,enc (l++(if P E[i]=true then [evR E[i]]else [])) (i+1))else some (1,[.view kPt l])):
  An st (enc [] 0)=some (1,[.view kPt ((E.filter P).map evR)]):=by
 have key:Out (fun o=>o=(1,[.view kPt ((E.filter P).map evR)])) (An st (enc [] 0)):=by
  refine CB (fun i:Nat=>enc (((E.take i).filter P).map evR) i) (fun i=>i<=E.length) (fun i=>E.length-i) _ ?_ 0 (by simp);intro i hi;rw[hs _ _ hi (by rw[List.length_map];exact Nat.le_trans (List.length_filter_le _ _) (by simp;omega))];by_cases h:i<E.length
  ·rw[dif_pos h];refine .some (.inl ⟨rfl,i+1,?_,by omega,by omega⟩);rw[Zz7 P E h];by_cases c:P E[i]=true
   ·rw[if_pos c,if_pos c,List.map_append];rfl
   ·rw[if_neg c,if_neg c,List.append_nil,List.append_nil]
  ·rw[dif_neg h];refine .some (.inr ⟨by simp,?_⟩);rw[List.take_of_length_le (by omega)]
 obtain⟨o,h,rfl⟩:=key;exact h
theorem Q08 {E:List Evn} (hl:E.length<=1000000) (k:Int):LF [.view kPt (E.map evR),I k]=some [.view kPt ((E.filter fun e=>e.cycle==k).map evR)]:=by
 have hL:An Ty [.view kPt [],I k, .view kPt (E.map evR),I E.length,I ((0:Nat):Int)]=some (1,[.view kPt ((E.filter fun e=>e.cycle==k).map evR)]):=by
  refine Qq9 (P:=fun e=>e.cycle==k) hl (enc:=fun l i=>[.view kPt l,I k, .view kPt (E.map evR),I E.length,I (i:Int)]) fun l i hi hll=> ?_;rw[Zsk];by_cases h:i<E.length
  ·rw[dif_pos h,Bi (by simp;omega),Bi (by simp;omega),WX E h,Ae (x:=(i:Int)+1) (by omega)];by_cases c:(E[i].cycle==k)=true
   ·rw[Bi (show(gA (evR E[i]) 0==k)=true from c),B0 (by simp;omega),if_pos c];rfl
   ·rw[A_ (show(gA (evR E[i]) 0==k)=false from Bool.eq_false_iff.2 c),if_neg c,List.append_nil];rfl
  ·rw[dif_neg h,A_ (by simp;omega)]
 show Qis (An Ty) [.view kPt (E.map evR),I k]=_;rw[Zwo,List.length_map];rw[show(0:Int)=((0:Nat):Int)from rfl,hL];rfl
theorem Ztf {E:List Evn} (hl:E.length<=1000000):Mn [.view kPt (E.map evR)]=some [.view kPt ((E.filter fun e=>decide (e.kind<=6)).map evR)]:=by
 have hL:An Rl [.view kPt [], .view kPt (E.map evR),I E.length,I ((0:Nat):Int)]=some (1,[.view kPt ((E.filter fun e=>decide (e.kind<=6)).map evR)]):=by
  refine Qq9 (P:=fun e=>decide (e.kind<=6)) hl (enc:=fun l i=>[.view kPt l, .view kPt (E.map evR),I E.length,I (i:Int)]) fun l i hi hll=> ?_;rw[Z4a];by_cases h:i<E.length
  ·rw[dif_pos h,Bi (by simp;omega),Bi (by simp;omega),WX E h,Ae (x:=(i:Int)+1) (by omega)];by_cases c:decide (E[i].kind<=6)=true
   ·rw[Bi (show decide (gA (evR E[i]) 1<=6)=true from c),B0 (by simp;omega),if_pos c];rfl
   ·rw[A_ (show decide (gA (evR E[i]) 1<=6)=false from Bool.eq_false_iff.2 c),if_neg c,List.append_nil];rfl
  ·rw[dif_neg h,A_ (by simp;omega)]
 show Qqz (An Rl) [.view kPt (E.map evR)]=_;rw[Zhu,List.length_map];rw[show(0:Int)=((0:Nat):Int)from rfl,hL];rfl
theorem Zy7 {M:Fn} {l:Rw} (hM:GK l M) (cycle:Int) (k:Nat):
  ∃(e:Evn) (k':Nat),Qha M [I cycle, .view Aa l,I k]=some (evR e++[.view Aa l,I k'])/\EvOK e/\k<=k':=by
 obtain⟨v,k1,h1,v0,v1,hk,-⟩:=hM k (n:=15) (by omega);rw[Z09,h1];simp only[Option.bind_some,Q5,gA,wA,bA,jA,CI,D7,Dh,BI];have all:∀(n:Nat),n<15->∃kind:Int,nth [] [[I 4],[I 1],[I 2],[I 3],[I 4],[I 5],[I 6],[I 7],[I 4],[I 8],[I 9],[I 11],[I 12],[I 13],[I 10]] n=[I kind]/\1<=kind/\kind<=13:=by
  intro n hn
  match n,hn with
  |0,_=>exact⟨4,rfl,by omega⟩
  |1,_=>exact⟨1,rfl,by omega⟩
  |2,_=>exact⟨2,rfl,by omega⟩
  |3,_=>exact⟨3,rfl,by omega⟩
  |4,_=>exact⟨4,rfl,by omega⟩
  |5,_=>exact⟨5,rfl,by omega⟩
  |6,_=>exact⟨6,rfl,by omega⟩
  |7,_=>exact⟨7,rfl,by omega⟩
  |8,_=>exact⟨4,rfl,by omega⟩
  |9,_=>exact⟨8,rfl,by omega⟩
  |10,_=>exact⟨9,rfl,by omega⟩
  |11,_=>exact⟨11,rfl,by omega⟩
  |12,_=>exact⟨12,rfl,by omega⟩
  |13,_=>exact⟨13,rfl,by omega⟩
  |14,_=>exact⟨10,rfl,by omega⟩
 obtain⟨kind,hkd,b1,b2⟩:=all v.toNat (by omega);have hlen:([[I 4],[I 1],[I 2],[I 3],[I 4],[I 5],[I 6],[I 7],[I 4],[I 8],[I 9],[I 11],[I 12],[I 13],[I 10]]:Rw).length=15:=rfl;clear all;generalize([[I 4],[I 1],[I 2],[I 3],[I 4],[I 5],[I 6],[I 7],[I 4],[I 8],[I 9],[I 11],[I 12],[I 13],[I 10]]:Rw)=T at*;have hv:v<(T.length:Int):=by omega
 simp only[v0,hv,decide_true,Bool.and_self,cond_true,hkd,CI,Dh];have one:∀(n d:Int),0<n/\n<=1000->0<=d/\d<=5->∃(e:Evn) (k':Nat),((M [I n, .view Aa l,I k1]).bind fun o=>some [I cycle,I kind,I (wrap .i64 (gA o 0-d)), .view Aa (wA o 1),jA o 2])=some (evR e++[.view Aa l,I k'])/\EvOK e/\k<=k':=fun n d hn hd=>by
  obtain⟨w,k2,g1,w0,w1,g2,-⟩:=hM k1 (n:=n) (by omega);rw[g1];refine⟨⟨cycle,kind,w-d⟩,k2,?_,⟨⟨b1,b2⟩,by simp only;omega⟩,by omega⟩;simp only[Option.bind_some,gA,wA,jA,CI,D7,Dh,BI];rw[Ae (by omega)];rfl
 have two:∀(n:Int),0<n/\n<=1000->∃(e:Evn) (k':Nat),((M [I n, .view Aa l,I k1]).bind fun o=>some [I cycle,I kind,jA o 0, .view Aa (wA o 1),jA o 2])=some (evR e++[.view Aa l,I k'])/\EvOK e/\k<=k':=fun n hn=>by
  obtain⟨w,k2,g1,w0,w1,g2,-⟩:=hM k1 (n:=n) (by omega);rw[g1];exact⟨⟨cycle,kind,w⟩,k2,rfl,⟨⟨b1,b2⟩,by simp only;omega⟩,by omega⟩
 cases c1:(kind==1)
 ·cases c2:(kind==2)
  ·cases c3:(kind==5)
   ·cases c4:(kind==6)
    ·cases c5:(kind==7)
     ·cases c6:(kind==8)
      ·cases c7:(kind==13)
       ·exact⟨⟨cycle,kind,0⟩,k1,rfl,⟨⟨b1,b2⟩,by simp⟩,by omega⟩
       ·obtain⟨w,k2,g1,w0,w1,g2,-⟩:=hM k1 (n:=4) (by omega);obtain⟨y,k3,g3,y0,y1,g4,-⟩:=hM k2 (n:=60) (by omega);simp only[cond_false,cond_true];rw[g1];simp only[Option.bind_some,CI,D7,Dh];rw[g3];refine⟨⟨cycle,kind,w*1048576+y⟩,k3,?_,⟨⟨b1,b2⟩,by simp only;omega⟩,by omega⟩;simp only[Option.bind_some,CI,D7,Dh];rw[Ae (x:=w*1048576) (by omega),Ae (by omega)];rfl
      ·exact one 5 1 (by omega) (by omega)
     ·exact one 300 5 (by omega) (by omega)
    ·exact two 3 (by omega)
   ·exact two 3 (by omega)
  ·exact one 220 5 (by omega) (by omega)
 ·exact one 220 5 (by omega) (by omega)
theorem Zqn {ME MN ML MF:Fn} {l:Rw} (hl:l.length<=100000) (hN:GK l MN) (hL:∀k:Nat,ML [.view Aa l,I k]=some [B (decide (k<l.length)), .view Aa l,I k])
  (hE:∀(cycle:Int) (k:Nat),∃(e:Evn) (k':Nat),ME [I cycle, .view Aa l,I k]=some (evR e++[.view Aa l,I k'])/\EvOK e/\k<=k'):
  Out (fun o=>∃E:List Evn,o=(1,[.view kPt (E.map evR)])/\E.length<=l.length/\∀e∈E,EvOK e) (An (Qiy ME MN ML MF) [.view kPt [],I 0, .view Aa l,I 0]):=by
 refine CB (fun s:List Evn×Int×Nat=>[.view kPt (s.1.map evR),I s.2.1, .view Aa l,I (s.2.2:Int)]) (fun s=>(∀e∈s.1,EvOK e)/\s.1.length<=s.2.2/\s.1.length<=l.length) (fun s=>l.length-s.2.2) _ ?_ ([],0,0) (by simp);rintro⟨E,cycle,k⟩ ⟨h1,h2,h3⟩;dsimp only at h1 h2 h3;rw[Ze0,hL];simp only[Option.bind_some,gA,wA,bA,jA,CI,D7,Dh,BI,Dp];by_cases c:k<l.length
 ·rw[decide_eq_true c];obtain⟨v,k1,g1,v0,v1,-,g2,-⟩:=hN k (n:=40) (by omega);have g2:=g2 c;rw[cond_true,g1];simp only[Option.bind_some,CI,D7,Dh];obtain⟨e,k2,q1,q2,q3⟩:=hE (wrap .i64 (cycle+v)) k1;rw[q1];simp only[Option.bind_some,List.cons_append,List.nil_append,CI,D7,Dh];rw[B0 (by simp;omega)];refine .some (.inl ⟨rfl,(E++[e],wrap .i64 (cycle+v),k2),?_,⟨?_,by simp;omega,by simp;omega⟩,by dsimp only;omega⟩)
  ·rw[List.map_append];rfl
  ·intro x hx;dsimp only at hx;rcases List.mem_append.1 hx with hx|hx
   ·exact h1 x hx
   ·rw[List.mem_singleton]at hx;subst hx;exact q2
 ·rw[decide_eq_false c];exact .some (.inr ⟨by simp,E,rfl,h3,h1⟩)
theorem Zxd {l:Rw} (hs:Src l) (hl:l.length<=60):∃E:List Evn,O8 [.view Aa l]=some [.view kPt (E.map evR)]/\E.length<=60/\∀e∈E,EvOK e:=by
 obtain⟨o,h1,E,rfl,h2,h3⟩:=Zqn (ME:=Lw) (MF:=Co) (by omega) (Hv hs) (Q5s l) fun cycle k=>Zy7 (Hv hs) cycle k;refine⟨E,?_,by omega,h3⟩;show Qmz Lw Bv FV Co (An _) [.view Aa l]=_;rw[Zjs,Qv];simp only[Option.bind_some,gA,wA,bA,jA,CI,D7,Dh,BI];rw[h1];rfl
theorem Zkc {MN MF:Fn} {l:Rw} (hN:GK l MN) (hF:MF [.view Aa l]=some [.view Aa l,I 0]):
  ∃a b c:Int,ZC MN MF [.view Aa l]=some [I a,I b,I c]/\(1<=a/\a<=900)/\(2<=b/\b<=201)/\(1<=c/\c<=16000):=by
 obtain⟨v,k1,g1,v0,v1,-⟩:=hN 0 (n:=900) (by omega);obtain⟨w,k2,g2,w0,w1,-⟩:=hN k1 (n:=200) (by omega);obtain⟨y,k3,g3,y0,y1,-⟩:=hN k2 (n:=16000) (by omega);have g1':MN [I 900, .view Aa l,I 0]=some [I v, .view Aa l,I k1]:=g1;refine⟨1+v,2+w,1+y,?_,by omega,by omega,by omega⟩;rw[Z4m,hF];simp only[Option.bind_some,gA,wA,bA,jA,CI,D7,Dh,BI];rw[g1'];simp only[Option.bind_some,CI,D7,Dh];rw[g2];simp only[Option.bind_some,CI,D7,Dh];rw[g3];simp only[Option.bind_some,CI,D7,Dh];rw[Ae (x:=1+v) (by omega),Ae (x:=2+w) (by omega),Ae (x:=1+y) (by omega)]
theorem Z3j {MN MP MA MF:Fn} {l m:Rw} (hm:GK m MN) (hF:MF [.view Aa m]=some [.view Aa m,I 0]) {x:Ax3} (hA:MA [.view Aa l]=some (AF x)) (hx:Ax3M x) {a b c:Int} (hP:MP [.view Aa m]=some [I a,I b,I c]) (h1:1<=a/\a<=900) (h2:2<=b/\b<=201) (h3:1<=c/\c<=16000) (hml:m.length<=100000):
  ∃ramp lag:Int,Qnb MN MP MA MF [.view Aa l, .view Aa m]=some (AF x++[I a,I b,I c,I ramp,I lag])/\MachOK x a b c ramp lag:=by
 obtain⟨k0,hk0⟩:∃k0:Nat,mn 3 (m.length:Int)=k0:=⟨(mn 3 (m.length:Int)).toNat,by unfold mn;split<;>omega⟩;obtain⟨v,k1,g1,v0,v1,-⟩:=hm k0 (n:=60000) (by omega);obtain⟨w,k2,g2,w0,w1,-⟩:=hm k1 (n:=40) (by omega);refine⟨1+v,w,?_,⟨hx,⟨by omega,by omega,by omega⟩,by omega,by omega⟩⟩;rw[Z1i,hF,hA,hP];simp only[Option.bind_some,gA,wA,bA,jA,CI,D7,Dh,BI];rw[hk0,g1];simp only[Option.bind_some,CI,D7,Dh];rw[g2];simp only[Option.bind_some,CI,D7,Dh];rw[Ae (x:=1+v) (by omega)];rfl
theorem Z7j {l m:Rw} (h1:Src l) (h2:Src m) (h3:m.length<=100000):∃(x:Ax3) (a b c ramp lag:Int),LX [.view Aa l, .view Aa m]=some (AF x++[I a,I b,I c,I ramp,I lag])/\MachOK x a b c ramp lag:=by
 obtain⟨x,hA,hx⟩:=Z0j h1;obtain⟨a,b,c,hP,p1,p2,p3⟩:=Zkc (MF:=Co) (Hv h2) (Qv m);obtain⟨ramp,lag,g1,g2⟩:=Z3j (MP:=PI) (MF:=Co) (Hv h2) (Qv m) hA hx hP p1 p2 p3 h3;exact⟨x,a,b,c,ramp,lag,g1,g2⟩
theorem Z21 (L:List (Rw)) (hl:L.length<=1000):Out (fun o=>o.1=1/\o.2=[B false]\/o.1=2/\∀l∈L,l.length<=60) (An To [.view [Kd.sl Aa] (L.map fun l=>[.view Aa l]),I L.length,I ((0:Nat):Int)]):=by
 refine CB (fun i:Nat=>[.view [Kd.sl Aa] (L.map fun l=>[.view Aa l]),I L.length,I (i:Int)]) (fun i=>i<=L.length/\∀l∈L.take i,l.length<=60) (fun i=>L.length-i) _ ?_ 0 (by simp);rintro i ⟨h1,h2⟩;rw[Zph];refine .cond (fun c=> ?_) fun c=> .some (.inr ⟨by simp, .inr ⟨rfl,?_⟩⟩)
 ·have c:(i:Int)<(L.length:Int):=Bp c;have hi:i<L.length:=by omega
  refine .cond (fun _=> ?_) fun e=>(inB (by omega) (by rw[List.length_map];exact c) e).elim;rw[Int.toNat_natCast,HI [] _ i (by rw[List.length_map];exact hi),List.getElem_map];refine .cond (fun _=> .some (.inr ⟨by simp, .inl ⟨rfl,rfl⟩⟩)) fun q=> ?_;have q: ¬(L[i].length:Int)>60:=Bt q;rw[Ae (x:=(i:Int)+1) (by omega)];refine .some (.inl ⟨rfl,i+1,rfl,⟨by omega,?_⟩,by omega⟩);intro l hl;rw[List.take_add_one,List.getElem?_eq_getElem hi]at hl;rcases List.mem_append.1 hl with hl|hl
  ·exact h2 l hl
  ·simp at hl;subst hl;omega
 ·have c: ¬(i:Int)<(L.length:Int):=Bt c;rw[List.take_of_length_le (by omega)]at h2;exact h2
theorem Z6v {L:List (Rw)} (hl:L.length<=1000):∃b:Bool,KC [.view [Kd.sl Aa] (L.map fun l=>[.view Aa l])]=some [B b]/\(b=true->∀l∈L,l.length<=60):=by
 obtain⟨o,h1,h2⟩:=Z21 L hl;have e:KC [.view [Kd.sl Aa] (L.map fun l=>[.view Aa l])]=Y0 (An To) [.view [Kd.sl Aa] (L.map fun l=>[.view Aa l])]:=rfl;rw[e,Zrb,List.length_map];rw[show(0:Int)=((0:Nat):Int)from rfl,h1];obtain⟨o1,o2⟩:=o;rcases h2 with⟨q1,q2⟩|⟨q1,q2⟩
 ·dsimp only at q1 q2;subst q1 q2;exact⟨false,rfl,fun h=>by cases h⟩
 ·dsimp only at q1 q2;subst q1;exact⟨true,rfl,fun _=>q2⟩
theorem Zce (a b c d:Rw):∃q:Bool,OH [.view Aa a, .view Aa b, .view Aa c, .view Aa d]=some [B q]/\(q=true->a.length<=60/\b.length<=60/\c.length<=60/\d.length<=60):=by
 obtain⟨q,h1,h2⟩:=Z6v (L:=[a,b,c,d]) (by simp);refine⟨q,?_,fun h=>⟨h2 h a (by simp),h2 h b (by simp),h2 h c (by simp),h2 h d (by simp)⟩⟩;show Qps KC _=_;rw[Zqc];have h1':KC [.view [Kd.sl Aa] [[.view Aa a],[.view Aa b],[.view Aa c],[.view Aa d]]]=some [B q]:=h1;rw[h1'];rfl
end Go.Bm
namespace Go.Bm
abbrev Zxr:Itm:=⟨0,0,⟨0,0,0⟩,⟨0,0,0⟩,0,⟨0,0,0⟩,0,false,0,false,0,0,0,0,0,false⟩
def itK (K:Kf) (i:Int):Itm:=K.aA.getD i.toNat Zxr
def mkK (K:Kf) (i:Int):Mrk:=K.p.aD.getD i.toNat ⟨0,0,0⟩
theorem IC {K:Kf} {i:Int} (h0:0<=i) (h1:i<K.aA.length):nth [] (K.aA.map Ah) i.toNat=Ah (itK K i):=by
 have h:i.toNat<K.aA.length:=by omega
 rw[Q0s K h];unfold itK;rw[List.getD,List.getElem?_eq_getElem h];rfl
theorem NV {K:Kf} {i:Int} (h0:0<=i) (h1:i<K.p.aD.length):nth [] (K.p.aD.map At) i.toNat=At (mkK K i):=by
 have h:i.toNat<K.p.aD.length:=by omega
 rw[Zzu K h];unfold mkK;rw[List.getD,List.getElem?_eq_getElem h];rfl
theorem RR {K:Kf} (h:KOK K) {i:Int} (h0:0<=i) (h1:i<K.p.aD.length):0<=(mkK K i).item/\(mkK K i).item<K.aA.length/\i64 (mkK K i).at_:=by
 have hi:i.toNat<K.p.aD.length:=by omega
 unfold mkK;rw[List.getD,List.getElem?_eq_getElem hi];exact h.aD _ (List.getElem_mem hi)
theorem inR {i:Int} {n:Nat} (h0:0<=i) (h1:i<(n:Int)):(decide (0<=i)&&decide (i<(n:Int)))=true:=by
 rw[decide_eq_true h0,decide_eq_true h1];rfl
theorem inM {β:Type} {f:β->List AC} {i:Int} {l:List β} (h0:0<=i) (h1:i<(l.length:Int)):(decide (0<=i)&&decide (i<((l.map f).length:Int)))=true:=inR h0 (by rw[List.length_map];exact h1)
def Fv (K:Kf) (c:Cv):Option Sgm:=K.p.aF[(AL K.p.aF (max (Bl K c) 0)).1]?
def sgK (K:Kf) (c:Cv):Sgm:=(Fv K c).getD sg0
theorem Q25 {K:Kf} {c:Cv} {g:Sgm} (h:Fv K c=some g):g∈K.p.aF:=List.mem_of_getElem? h
theorem GC {K:Kf} (h:KOK K) {c:Cv} (hl:(sgK K c).lead≠0):0<=(sgK K c).item/\(sgK K c).item<K.aA.length/\i64 (sgK K c).lead:=by
 unfold sgK at hl⊢;cases e:Fv K c with
 |none=>rw[e]at hl;exact absurd rfl hl
 |some g=>exact h.aF g (Q25 e)
theorem Zqg {MF MP:Fn} {K:Kf} {c:Cv} (hP:MP (Ad K c)=some [I (Bl K c)])
  (hF:MF (AH K.p++[I (Bl K c)])=if K.p.aF=[]then some [I (-1),I 0]else some [I (AL K.p.aF (max (Bl K c) 0)).1,I (AL K.p.aF (max (Bl K c) 0)).2]):
  Qkb MF MP (Ad K c)=some (Au (sgK K c)++[B (Fv K c).isSome]):=by
 rw[Zrs];refine eB hP (Eq.trans (congrArg (fun z=>Option.bind z _) (show MF (AH K.p++[I (Bl K c)])=_ from hF)) ?_);by_cases e:K.p.aF=[]
 ·have e2:Fv K c=none:=by unfold Fv;rw[e];rfl
  unfold sgK;rw[if_pos e,e2];rfl
 ·have hl:=Yy K.p.aF (max (Bl K c) 0) e;have e2:Fv K c=some K.p.aF[(AL K.p.aF (max (Bl K c) 0)).1]:=List.getElem?_eq_getElem hl;unfold sgK;rw[if_neg e,e2];refine eB rfl (eF (decide_eq_false (show¬((AL K.p.aF (max (Bl K c) 0)).1:Int)<0 by omega)) (eT (inM (f:=Au) (l:=K.p.aF) (i:=((AL K.p.aF (max (Bl K c) 0)).1:Int)) (by omega) (by omega)) ?_));have er:nth [] (K.p.aF.map Au) ((AL K.p.aF (max (Bl K c) 0)).1:Int).toNat=Au K.p.aF[(AL K.p.aF (max (Bl K c) 0)).1]:=by
   rw[Int.toNat_natCast,HI [] _ _ (by rw[List.length_map];exact hl),List.getElem_map]
  show some (AO Ag (nth [] (K.p.aF.map Au) ((AL K.p.aF (max (Bl K c) 0)).1:Int).toNat)++[B true])=_;rw[er];rfl
theorem Qvh {K:Kf} (h:KOK K) (c:Cv):HA (Ad K c)=some (Au (sgK K c)++[B (Fv K c).isSome]):=
 Zqg (Sh h c) (Ya h.f.p.ok (VW h.f _))
def IH (K:Kf) (c:Cv):Bool:=(Fv K c).isSome&&((itK K (sgK K c).item).kind==6&&c.y0==(sgK K c).item)
theorem Z1g {M:Fn} {K:Kf} {c:Cv} (h:KOK K) (hS:M (Ad K c)=some (Au (sgK K c)++[B (Fv K c).isSome])):Qfl M (Ad K c)=some [B (IH K c)]:=by
 rw[Zu2,hS];unfold IH sgK;cases e:Fv K c with
 |none=>rfl
 |some g=>
  obtain⟨q1,q2,-⟩:=h.aF g (Q25 e);refine eB rfl (eT rfl (eT (inM (f:=Ah) q1 q2) ?_));show cond (gA (nth [] (K.aA.map Ah) g.item.toNat) 0==6) (some [B (c.y0==g.item)]) (some [B false])=some [B (true&&((itK K g.item).kind==6&&c.y0==g.item))];rw[IC q1 q2];show cond ((itK K g.item).kind==6) (some [B (c.y0==g.item)]) (some [B false])=_;cases((itK K g.item).kind==6)<;>rfl
theorem Zen {K:Kf} (h:KOK K) (c:Cv):LP (Ad K c)=some [B (IH K c)]:=Z1g h (Qvh h c)
def spV (c:Cv) (ramp:Int):Int:=if c.s1<c.s2 then mn (wrap .i64 (c.s1+ramp)) c.s2 else mx (wrap .i64 (c.s1-ramp)) c.s2
def spS (c:Cv) (ramp:Int):Cv:={c with s1:=spV c ramp,s3:=wrap .i64 (c.s3+wrap .i64 (c.s0*spV c ramp))}
theorem Zr8 (c:Cv) (ramp:Int):Mb [I c.s0,I c.s1,I c.s2,I c.s3,I ramp]=some [I (spS c ramp).s0,I (spS c ramp).s1,I (spS c ramp).s2,I (spS c ramp).s3]:=by
 show Qk6 _=_;rw[Zu4];show _=some [I c.s0,I (spV c ramp),I c.s2,I (wrap .i64 (c.s3+wrap .i64 (c.s0*spV c ramp)))];unfold spV;by_cases h:c.s1<c.s2
 ·rw[Bi (decide_eq_true h),if_pos h]
 ·rw[A_ (decide_eq_false h),if_neg h]
def FA (c:Cv):Bool:=c.m1==0&&(c.m2==0&&(c.m3==c.m0&&c.m4==c.m0))
theorem Z10 (c:Cv):K7 [I c.m0,I c.m1,I c.m2,I c.m3,I c.m4,I c.m5]=some [B (FA c)]:=by
 show Qk5 _=_;rw[Z4g];unfold FA;cases(c.m1==0)<;>cases(c.m2==0)<;>cases(c.m3==c.m0)<;>rfl
def QV (b:Bool) (n:Int):Bool:=if n=0 then false else if n=1 then true else b
theorem Zet (b:Bool) (n:Int):PK [B b,I n]=some [B (QV b n)]:=by
 show Yw _=_;rw[Z6z];unfold QV;by_cases h:n=0
 ·rw[if_pos h,Bi (by simpa using h)]
 ·rw[if_neg h,A_ (by simpa using h)];by_cases h:n=1
  ·rw[if_pos h,Bi (by simpa using h)]
  ·rw[if_neg h,A_ (by simpa using h)]
def Hw (k n:Int):Bool:=k==9||(k==8&&(decide (0<=n)&&decide (n<=2)))
def evC (c:Cv) (k n:Int):Cv:={c with
 o0:=if k=1/\0<=n/\n<=200 then n else c.o0
 o1:=if k=2/\0<=n/\n<=100 then n else c.o1
 o2:=if k=3\/k=11 then true else if k=4 then false else c.o2
 o3:=if k=5 then QV c.o3 n else c.o3
 o4:=if k=6 then QV c.o4 n else c.o4
 g0:=if k=10 then 2 else if k=11 then 0 else if Hw k n=true then(if c.g0=2 then 2 else 1)else c.g0
 g1:=if k=10 then 22 else if k=11 then 0 else if Hw k n=true/\c.g0≠2/\c.g1=0 then(if k=9 then 21 else 20)else c.g1
 g2:=if k=10 then-1 else if k=11 then-1 else if Hw k n=true/\c.g0≠2/\c.g1=0 then(if k=9 then-1 else n)else c.g2
 aJ:=if k=4 then true else c.aJ}
theorem Zws {M:Fn} (hM:∀(b:Bool) (n:Int),M [B b,I n]=some [B (QV b n)]) (c:Cv) (x k n:Int) (hk:k≠11):
  RE M [I c.o0,I c.o1,B c.o2,B c.o3,B c.o4,I x,I k,I n]=some [I (evC c k n).o0,I (evC c k n).o1,B (evC c k n).o2,B (evC c k n).o3,B (evC c k n).o4]:=by
 rw[Q29];unfold evC;simp only[hM];by_cases h1:k=1
 ·subst h1;by_cases a:0<=n<;>by_cases b:n<=200<;>simp[a,b]
 ·by_cases h2:k=2
  ·subst h2;by_cases a:0<=n<;>by_cases b:n<=100<;>simp[a,b]
  ·by_cases h3:k=3
   ·subst h3;simp
   ·by_cases h4:k=4
    ·subst h4;simp
    ·by_cases h5:k=5
     ·subst h5;simp[gA,bA,nth,Dp]
     ·by_cases h6:k=6
      ·subst h6;simp[gA,bA,nth,Dp]
      ·simp only[beF h1,beF h2,beF h3,beF h4,beF h5,beF h6,cond_false];simp[h1,h2,h3,h4,h5,h6,hk]
theorem Z29 {M:Fn} (c:Cv) (x n:Int):
  RE M [I c.o0,I c.o1,B c.o2,B c.o3,B c.o4,I x,I 11,I n]=some [I c.o0,I c.o1,B c.o2,B c.o3,B c.o4]:=by
 rw[Q29];rfl
theorem Z2y (a b d e f:Int):Qp [I a,I b,I d,I e,I f]=some (if a=2 then [I a,I b,I d]else if b=0 then [I 1,I e,I f]else [I 1,I b,I d]):=by
 show Qh6 _=_;rw[Zy1];by_cases h:a=2
 ·rw[if_pos h,Bi (by simpa using h)]
 ·rw[if_neg h,A_ (by simpa using h)];by_cases h:b=0
  ·rw[if_pos h,Bi (by simpa using h)]
  ·rw[if_neg h,A_ (by simpa using h)]
theorem Zfe {MS MT:Fn} (hS:MS []=some [I 0,I 0,I (-1)]) (hT:∀a b d e f:Int,MT [I a,I b,I d,I e,I f]=some (if a=2 then [I a,I b,I d]else if b=0 then [I 1,I e,I f]else [I 1,I b,I d])) (c:Cv) (x k n:Int):
  V_ MS MT [I c.g0,I c.g1,I c.g2,I x,I k,I n]=some [I (evC c k n).g0,I (evC c k n).g1,I (evC c k n).g2]:=by
 rw[Zm9];unfold evC;simp only[hT,hS];by_cases h1:k=10
 ·subst h1;rfl
 ·by_cases h2:k=9
  ·subst h2;by_cases a:c.g0=2<;>by_cases b:c.g1=0<;>simp[Hw,a,b,gA,jA,nth,Af]
  ·by_cases h3:k=8
   ·subst h3;by_cases u:0<=n<;>by_cases v:n<=2<;>by_cases a:c.g0=2<;>by_cases b:c.g1=0<;>simp[Hw,a,b,u,v,gA,jA,nth,Af]
   ·by_cases h4:k=11
    ·subst h4;rfl
    ·simp only[beF h1,beF h2,beF h3,beF h4,cond_false];simp[Hw,h1,h2,h3,h4]
theorem Z1c {MR MT ML MG' MO:Fn} {K:Kf} (c:Cv) (x:Int) {k:Int} (n:Int) (hk:k≠7/\k≠12/\k≠13)
  (hO:k≠11->MO [I c.o0,I c.o1,B c.o2,B c.o3,B c.o4,I x,I k,I n]=some [I (evC c k n).o0,I (evC c k n).o1,B (evC c k n).o2,B (evC c k n).o3,B (evC c k n).o4])
  (hO2:k=11->MO [I c.o0,I c.o1,B c.o2,B c.o3,B c.o4,I x,I k,I n]=some [I c.o0,I c.o1,B c.o2,B c.o3,B c.o4])
  (hG:MG' [I c.g0,I c.g1,I c.g2,I x,I k,I n]=some [I (evC c k n).g0,I (evC c k n).g1,I (evC c k n).g2]):
  Qml MR MT ML MG' MO (I x::I k::I n::Ad K c)=some (Ad K (evC c k n)):=by
 rw[Zf2];by_cases h:k=11
 ·rw[hO2 h,hG];subst h;rfl
 ·rw[hO h,hG];simp only[Option.bind_some];rw[A_ (by simpa using hk.2.2),A_ (by simpa using h),A_ (by simpa using hk.2.1),A_ (by simpa using hk.1)];by_cases h4:k=4
  ·subst h4;rfl
  ·rw[A_ (by simpa using h4)];have e:(evC c k n).aJ=c.aJ:=by unfold evC;simp[h4]
   rw[<-e];rfl
theorem Zyr {K:Kf} (c:Cv) (x:Int) {k:Int} (n:Int) (hk:k≠7/\k≠12/\k≠13):LK (I x::I k::I n::Ad K c)=some (Ad K (evC c k n)):=
 Z1c c x n hk (fun h=>Zws Zet c x k n h) (fun h=>by subst h;exact Z29 c x n) (Zfe (by show Uh []=_;rw[Q78]) Z2y c x k n)
end Go.Bm
noncomputable section
namespace Go.Bm
def one (M:Fn) (l:List AC):Int:=gA ((M l).getD []) 0
theorem Z3 {M:Fn} {l:List AC} {v:Int} (h:M l=some [I v]):M l=some [I (one M l)]:=by
 unfold one;rw[h];rfl
def Hx (k:Int) (c:Cv):Bool:=k==1||(k==3||(k==6||(k==4&&(c.o4||c.o3)||k==2&&c.o3)))
theorem Qzj (at_ k it:Int) (c:Cv):Iq [I at_,I k,I it,I c.o0,I c.o1,B c.o2,B c.o3,B c.o4]=some [B (Hx k c)]:=by
 show Qlo _=_;rw[Zjl];unfold Hx;by_cases h1:k=1
 ·subst h1;rfl
 by_cases h2:k=3
 ·subst h2;rfl
 by_cases h3:k=6
 ·subst h3;rfl
 by_cases h4:k=4
 ·subst h4;cases c.o4<;>cases c.o3<;>rfl
 by_cases h5:k=2
 ·subst h5;cases c.o3<;>rfl
 simp[beF h1,beF h2,beF h3,beF h4,beF h5]
def G4 (c:Cv) (known frm:Int):List Mrk->Nat->Int×Int
 |[],_=>(known,-1)
 |m::l,i=>if Hx m.kind c=true/\frm<=m.at_/\m.at_<=known then(m.at_,i)else G4 c known frm l (i+1)
def BO (K:Kf) (c:Cv) (known frm:Int):Int×Int:=G4 c known frm (K.p.aD.drop (max c.next 0).toNat) (max c.next 0).toNat
theorem Zub {M:Fn} {K:Kf} (hl:K.p.aD.length<=1000000) (c:Cv) (hM:∀at_ k it:Int,M [I at_,I k,I it,I c.o0,I c.o1,B c.o2,B c.o3,B c.o4]=some [B (Hx k c)]) (known frm:Int):
  Qg6 M (An (Sf M)) [.view kPt (K.p.aD.map At),I c.next,I c.o0,I c.o1,B c.o2,B c.o3,B c.o4,I known,I frm]=some [I (BO K c known frm).1,I (BO K c known frm).2]:=by
 rw[Zr5];have hmx:mx c.next 0=max c.next 0:=by unfold mx;split<;>omega
 have key:Out (fun o=>(if o.1=1 then o.2=[I (BO K c known frm).1,I (BO K c known frm).2]else o.1=2/\o.2=[I (BO K c known frm).1]/\(BO K c known frm).2= -1)) (An (Sf M) [.view kPt (K.p.aD.map At),I known,I frm,I (max c.next 0),I c.o0,I c.o1,B c.o2,B c.o3,B c.o4]):=by
  refine CB (fun s:Int=>[.view kPt (K.p.aD.map At),I known,I frm,I s,I c.o0,I c.o1,B c.o2,B c.o3,B c.o4]) (fun s=>0<=s/\BO K c known frm=G4 c known frm (K.p.aD.drop s.toNat) s.toNat) (fun s=>(K.p.aD.length-s).toNat) _ ?_ (max c.next 0) ⟨by omega,rfl⟩;rintro i ⟨g,hw⟩;rw[Ze3];refine .cond (fun k=> ?_) fun k=> ?_
  ·have k:i<((K.p.aD.map At).length:Int):=Bp k;rw[List.length_map]at k;have hi:i.toNat<K.p.aD.length:=by omega
   rw[Ae (x:=i+1) (by have:=hl;omega)];have em:mkK K i=K.p.aD[i.toNat]:=by unfold mkK;rw[List.getD,List.getElem?_eq_getElem hi];rfl
   rw[List.drop_eq_getElem_cons hi,<-em]at hw;unfold G4 at hw;refine .cond (fun _=> ?_) fun e=>(inB g (by rw[List.length_map];exact k) e).elim;rw[NV g k];refine .bind (p:=fun o=>o=_) ⟨_,hM _ _ _,rfl⟩ fun o e=> ?_;subst e;have next:BO K c known frm=G4 c known frm (K.p.aD.drop (i.toNat+1)) (i.toNat+1)->Out (fun o:Nat×List AC=>(o.1=0/\∃s':Int,o.2=[.view kPt (K.p.aD.map At),I known,I frm,I s',I c.o0,I c.o1,B c.o2,B c.o3,B c.o4]/\(0<=s'/\BO K c known frm=G4 c known frm (K.p.aD.drop s'.toNat) s'.toNat)/\(K.p.aD.length-s').toNat<(K.p.aD.length-i).toNat)\/(o.1≠0/\(if o.1=1 then o.2=[I (BO K c known frm).1,I (BO K c known frm).2]else o.1=2/\o.2=[I (BO K c known frm).1]/\(BO K c known frm).2= -1))) (some (0,[.view kPt (K.p.aD.map At),I known,I frm,I (i+1),I c.o0,I c.o1,B c.o2,B c.o3,B c.o4])):=fun e=>
    .some (.inl ⟨rfl,i+1,rfl,⟨by omega,by rw[e,show(i+1).toNat=i.toNat+1 by omega]⟩,by omega⟩)
   refine .cond (fun a=> .cond (fun b=> .cond (fun d=> ?_) fun d=> ?_) fun b=> ?_) fun a=> ?_
   ·have a:Hx (mkK K i).kind c=true:=a;have b:frm<=(mkK K i).at_:=Bp b;have d:(mkK K i).at_<=known:=Bp d;rw[if_pos ⟨a,b,d⟩]at hw;refine .some (.inr ⟨by simp,?_⟩);rw[if_pos rfl,hw];show [I (mkK K i).at_,I i]=[I (mkK K i).at_,I (i.toNat:Int)];rw[Int.toNat_of_nonneg g]
   ·have d: ¬(mkK K i).at_<=known:=Bt d;rw[if_neg (fun h=>d h.2.2)]at hw;exact next hw
   ·have b: ¬frm<=(mkK K i).at_:=Bt b;rw[if_neg (fun h=>b h.2.1)]at hw;exact next hw
   ·have a:Hx (mkK K i).kind c=false:=a;rw[if_neg (fun h=>by rw[a]at h;cases h.1)]at hw;exact next hw
  ·have k: ¬i<((K.p.aD.map At).length:Int):=Bt k;rw[List.length_map]at k;rw[List.drop_of_length_le (by omega)]at hw;refine .some (.inr ⟨by simp,?_⟩);rw[if_neg (by simp),hw];exact⟨rfl,rfl,rfl⟩
 obtain⟨⟨o1,o2⟩,h1,h2⟩:=key;rw[hmx];refine eB h1 ?_;by_cases e:o1=1
 ·subst e;have h2:o2=_:=h2;subst h2;rfl
 ·rw[if_neg e]at h2;obtain⟨q1,q2,q3⟩:=h2;dsimp only at q1 q2;subst q1 q2;rw[q3];rfl
theorem Z3d {K:Kf} (h:KOK K) (c:Cv) (known frm:Int):QH [.view kPt (K.p.aD.map At),I c.next,I c.o0,I c.o1,B c.o2,B c.o3,B c.o4,I known,I frm]=some [I (BO K c known frm).1,I (BO K c known frm).2]:=
 Zub h.count c (fun at_ k it=>Qzj at_ k it c) known frm
theorem Q6g {c:Cv} {known frm:Int} (hk:i64 known):∀{l:List Mrk} {i:Nat},(∀m∈l,i64 m.at_)->i64 (G4 c known frm l i).1
 |[],_,_=>hk
 |m::l,i,h=>by
  unfold G4;split
  ·exact h m (by simp)
  ·exact Q6g hk fun q hq=>h q (by simp[hq])
theorem Q2v {c:Cv} {known frm:Int}:∀{l:List Mrk} {i:Nat},(G4 c known frm l i).2= -1\/((i:Int)<=(G4 c known frm l i).2/\(G4 c known frm l i).2<(i+l.length:Nat))
 |[],_=> .inl rfl
 |m::l,i=>by
  unfold G4;split
  ·exact .inr ⟨Int.le_refl _,by simp only[List.length_cons];omega⟩
  ·rcases Q2v (l:=l) (i:=i+1) (c:=c) (known:=known) (frm:=frm)with h|⟨h1,h2⟩
   ·exact .inl h
   ·exact .inr ⟨by omega,by simp only[List.length_cons];omega⟩
theorem Zyt {K:Kf} {c:Cv} {known frm:Int}:(BO K c known frm).2= -1\/(0<=(BO K c known frm).2/\c.next<=(BO K c known frm).2/\(BO K c known frm).2<K.p.aD.length):=by
 unfold BO;rcases Q2v (c:=c) (known:=known) (frm:=frm) (l:=K.p.aD.drop (max c.next 0).toNat) (i:=(max c.next 0).toNat)with h|⟨h1,h2⟩
 ·exact .inl h
 ·rw[List.length_drop]at h2;exact .inr ⟨by omega,by omega,by omega⟩
def SZ (K:Kf) (c:Cv):Int:=one FB [I K.pa,I K.pb,I K.pc,I c.m0,I c.m1,I c.m2,I c.m3,I c.m4,I c.m5]
def Fo (K:Kf):Int:=if K.closed=true then K.len else K.set
def Gc (r:Int):Int:=wrap .i64 ((wrap .i64 (wrap .i64 (r+256)-1)).tdiv 256)
def L5 (K:Kf) (r:Int):Int:=if I6 K.t (Be K.t (Gc r))≠Gc r then wrap .i64 (Be K.t (Gc r)+1)else Be K.t (Gc r)
def Bf (K:Kf) (c:Cv):Int×Int:=(I6 K.t (BO K c (Fo K) (L5 K (SZ K c))).1,(BO K c (Fo K) (L5 K (SZ K c))).2)
theorem Qxu (K:Kf) (c:Cv):(Bf K c).2= -1\/(0<=(Bf K c).2/\c.next<=(Bf K c).2/\(Bf K c).2<K.p.aD.length):=Zyt
theorem Zth {K:Kf} (h:KOK K):i64 (Fo K):=by unfold Fo;split;exact h.len;exact h.set
theorem Q9m {K:Kf} (h:KOK K) {c:Cv} {frm:Int}:i64 (BO K c (Fo K) frm).1:=by
 unfold BO;exact Q6g (Zth h) fun m hm=>(h.aD m (List.mem_of_mem_drop hm)).2.2
theorem Zmu {MN MW MP MR:Fn} {K:Kf} {c:Cv} {r:Int} {b:Bool} (h:KOK K)
  (hR:MR [I K.pa,I K.pb,I K.pc,I c.m0,I c.m1,I c.m2,I c.m3,I c.m4,I c.m5]=some [I r,B b])
  (hP:∀u,MP (AS K.t++[I u])=some [I (Be K.t u)]) (hW:∀{z:Int},i64 z->MW (AS K.t++[I z])=some [I (I6 K.t z)])
  (hN:∀known frm,MN [.view kPt (K.p.aD.map At),I c.next,I c.o0,I c.o1,B c.o2,B c.o3,B c.o4,I known,I frm]=some [I (BO K c known frm).1,I (BO K c known frm).2]):
  Ye MN MW MP MR (Ad K c)=some (I (I6 K.t (BO K c (Fo K) (L5 K r)).1)::I (BO K c (Fo K) (L5 K r)).2::Ad K c):=by
 have key:∀known:Int,known=Fo K->Uc MR K c MP MW MN (I known)=some (I (I6 K.t (BO K c (Fo K) (L5 K r)).1)::I (BO K c (Fo K) (L5 K r)).2::Ad K c):=fun known hk=>by
  subst hk;refine eB hR (eB (hP (Gc r)) (eB (hW (VW h.f _)) ?_));have e1:L5 K r=if I6 K.t (Be K.t (Gc r))≠Gc r then wrap .i64 (Be K.t (Gc r)+1)else Be K.t (Gc r):=rfl;by_cases c1:I6 K.t (Be K.t (Gc r))=Gc r
  ·rw[if_neg (by simpa using c1)]at e1;refine eF (bnF c1) ?_;exact eB (hN (Fo K) (Be K.t (Gc r))) (by rw[<-e1];exact eB (hW (Q9m h)) rfl)
  ·rw[if_pos c1]at e1;refine eT (bnT c1) ?_;exact eB (hN (Fo K) (wrap .i64 (Be K.t (Gc r)+1))) (by rw[<-e1];exact eB (hW (Q9m h)) rfl)
 rw[Zu8];refine eC (fun e=>key _ ?_) fun e=>key _ ?_
 ·unfold Fo;rw[if_pos e]
 ·unfold Fo;rw[if_neg (by rw[e];simp)]
end Go.Bm
noncomputable section
namespace Go.Bm
theorem Zyd {M:Fn} {l:List AC} (h:Out (fun o=>(wA o 0).length<=4096) (M l)) {x0 x1 x2 x3 x4 x5 x6 x7 x8:Int} (e:l=[I x0,I x1,I x2,I x3,I x4,I x5,I x6,I x7,I x8]):∃(r:Int) (b:Bool),On M l=some [I r,B b]:=by
 subst e;have key:Out (fun o=>∃(r:Int) (b:Bool),o=[I r,B b]) (On M [I x0,I x1,I x2,I x3,I x4,I x5,I x6,I x7,I x8]):=by
  rw[Vg];refine .bind h fun o g=> .cond (fun _=> .some ⟨0,false,rfl⟩) fun _=> ?_;generalize wA o 0=sp at*;refine .cond (fun _=> .some ⟨x3,true,rfl⟩) fun c=> .cond (fun _=> .some ⟨_,true,rfl⟩) fun d=> ?_;have c: ¬((sp.length:Int)=0):=by simpa using c
  rw[Ae (by omega)]at d;simp at d;omega
 obtain⟨o,h1,r,b,rfl⟩:=key;exact⟨r,b,h1⟩
theorem Ziv (x0 x1 x2 x3 x4 x5 x6 x7 x8:Int):∃b:Bool,FB [I x0,I x1,I x2,I x3,I x4,I x5,I x6,I x7,I x8]=some [I (one FB [I x0,I x1,I x2,I x3,I x4,I x5,I x6,I x7,I x8]),B b]:=by
 obtain⟨r,b,h⟩:=Zyd (M:=E7) (Qp4 x0 x1 x2 x3 x4 x5 x6 x7 x8) rfl;have h:FB [I x0,I x1,I x2,I x3,I x4,I x5,I x6,I x7,I x8]=some [I r,B b]:=h;refine⟨b,?_⟩;unfold one;rw[h];rfl
theorem Zs4 {K:Kf} (h:KOK K) (c:Cv):P1 (Ad K c)=some (I (Bf K c).1::I (Bf K c).2::Ad K c):=by
 obtain⟨b,hb⟩:=Ziv K.pa K.pb K.pc c.m0 c.m1 c.m2 c.m3 c.m4 c.m5;exact Zmu h hb (S8 h.f.t.q) (fun hz=>Zib h.f.t.q hz) (Z3d h c)
def RY (c:Cv) (v:Int):Cv:={c with m0:=wrap .i64 (c.m0+v),m1:=v,m2:=wrap .i64 (v-c.m1),m3:=c.m0,m4:=c.m3,m5:=c.m4}
def EM (K:Kf) (c:Cv) (l:Int):Cv:=RY c (nxV K c l)
theorem Qpv {K:Kf} {c:Cv} {n:Int} (h:KOK K) (g:Gd K n c) (l:Int):
  Fa (nxL K c l)=some (En c.m0 c.m1 c.m3 c.m4 (nxV K c l))/\((Bg K.pa K.pb (nxV K c l) (wrap .i64 (nxV K c l-c.m1))).2=true\/∃r:Int,nxV K c l=wrap .i64 (c.m1+r)/\r=AK K.pa K.pb c.m1 c.m2):=by
 obtain⟨o,h1,v,rfl,h2⟩:=Qr4 h g.mo l c.o2;have h1:Fa (nxL K c l)=some (En c.m0 c.m1 c.m3 c.m4 v):=h1;have e:nxV K c l=v:=by unfold nxV;rw[h1];rfl
 rw[e];exact⟨h1,h2⟩
theorem Ztb {M:Fn} {K:Kf} {c:Cv} {l v:Int} (h:M (nxL K c l)=some (En c.m0 c.m1 c.m3 c.m4 v)):Qi4 M (I l::Ad K c)=some (Ad K (RY c v)):=by
 rw[Zlt];exact eB h rfl
theorem Zb {K:Kf} {c:Cv} {n:Int} (h:KOK K) (g:Gd K n c) (l:Int):HM (I l::Ad K c)=some (Ad K (EM K c l)):=Ztb (Qpv h g l).1
theorem Qq7 {K:Kf} {c:Cv} {n:Int} (h:KOK K) (g:Gd K n c) (hn:0<=n/\n<=10000) (l:Int):Gd K (n+1) (EM K c l):=g.move h hn (Qpv h g l).2
def H0 (c:Cv):Cv:={c with next:=wrap .i64 (c.idx+1),on:=false,idx:=0,aN:=false,cnt:=0}
def O3 (c:Cv) (n sp:Int):List AC:=(Ly [I c.s0,I c.s1,I c.s2,I c.s3,I n,I sp]).getD []
def Kw (c:Cv) (n sp:Int):Cv:={c with s0:=gA (O3 c n sp) 0,s1:=gA (O3 c n sp) 1,s2:=gA (O3 c n sp) 2,s3:=gA (O3 c n sp) 3}
def Q35 (c:Cv) (n sp:Int):Bool:=bA ((Mw [I c.s0,I c.s1,I c.s2,I c.s3,I n,I sp]).getD []) 0
def Iz (K:Kf) (c:Cv):Int×Cv:=
 if c.aN=true then(if c.cnt>1/\c.aJ=true then(3,H0 c)else(2,c))
 else if(mkK K c.idx).kind≠3 then(3,H0 c)
 else if(itK K (mkK K c.idx).item).kind=7 then(if c.cnt<(itK K (mkK K c.idx).item).n then(3,c)else(3,H0 c))
 else if(itK K (mkK K c.idx).item).kind=8 then(if Q35 (Kw c (itK K (mkK K c.idx).item).n (itK K (mkK K c.idx).item).speed) (itK K (mkK K c.idx).item).n (itK K (mkK K c.idx).item).speed=true then(3,H0 (Kw c (itK K (mkK K c.idx).item).n (itK K (mkK K c.idx).item).speed))else(3,Kw c (itK K (mkK K c.idx).item).n (itK K (mkK K c.idx).item).speed))
 else if(itK K (mkK K c.idx).item).kind=14 then(7,{c with aI:=7})else(3,H0 c)
def CZ (c:Cv):Cv:={c with cnt:=wrap .i64 (c.cnt+1)}
def Ck (K:Kf) (c:Cv):Int×Cv:=Iz K (CZ c)
theorem Zec {MR MC MD:Fn} {K:Kf} {c:Cv} (h:KOK K) (h0:0<=c.idx) (h1:c.idx<K.p.aD.length)
  (hD:∀c:Cv,MD (Ad K c)=some (I 3::Ad K (H0 c)))
  (hC:∀(c:Cv) (x4 x5:Int),i64 x5->MC [I c.s0,I c.s1,I c.s2,I c.s3,I x4,I x5]=some (O3 c x4 x5)) (hR:∀(c:Cv) (x4 x5:Int),i64 x5->Out (fun o=>bA o 0=Q35 c x4 x5) (MR [I c.s0,I c.s1,I c.s2,I c.s3,I x4,I x5])):
  Qkf MR MC MD (Ad K c)=some (I (Ck K c).1::Ad K (Ck K c).2):=by
 rw[Zi8];have hm:=RR h h0 h1;unfold Ck Iz;refine eC (fun a=> ?_) fun a=> ?_
 ·rw[if_pos (show(CZ c).aN=true from a)];refine eC (fun b=>eC (fun e=> ?_) fun e=> ?_) fun b=> ?_
  ·rw[if_pos (show(CZ c).cnt>1/\(CZ c).aJ=true from⟨Bp b,e⟩)];exact eB (hD (CZ c)) rfl
  ·rw[if_neg (show¬((CZ c).cnt>1/\(CZ c).aJ=true)from fun q=>by have:=q.2;rw[show(CZ c).aJ=false from e]at this;cases this)];rfl
  ·rw[if_neg (show¬((CZ c).cnt>1/\(CZ c).aJ=true)from fun q=>Bt b q.1)];rfl
 ·rw[if_neg (show¬(CZ c).aN=true by rw[show(CZ c).aN=false from a];simp)];refine eT (inM (f:=At) h0 h1) ?_;rw[NV h0 h1];rw[show(CZ c).idx=c.idx from rfl];refine eC (fun b=> ?_) fun b=> ?_
  ·have b:(mkK K c.idx).kind≠3:=by simpa [gA,nth,Af]using b
   rw[if_pos b];exact eB (hD (CZ c)) rfl
  ·have b:(mkK K c.idx).kind=3:=by simpa [gA,nth,Af]using b
   rw[if_neg (by rw[b];simp)];refine eT (inM (f:=Ah) (l:=K.aA) (i:=(mkK K c.idx).item) hm.1 hm.2.1) ?_;have er:nth [] (K.aA.map Ah) (gA (At (mkK K c.idx)) 2).toNat=Ah (itK K (mkK K c.idx).item):=IC hm.1 hm.2.1;rw[er];have hsp:(itK K (mkK K c.idx).item).kind=8->i64 (itK K (mkK K c.idx).item).speed:=fun k8=>by
    have:=Zme h (mkK K c.idx).item.toNat;rw[IC hm.1 hm.2.1]at this;exact this k8
   generalize itK K (mkK K c.idx).item=it at*;refine eC (fun k=> ?_) fun k=> ?_
   ·have k:it.kind=7:=eq_of_beq k;rw[if_pos k];refine eC (fun q=> ?_) fun q=> ?_
    ·rw[if_pos (show(CZ c).cnt<it.n from Bp q)];rfl
    ·rw[if_neg (show¬(CZ c).cnt<it.n from Bt q)];exact eB (hD (CZ c)) rfl
   ·have k:it.kind≠7:=by simpa [gA,nth,Af]using k
    rw[if_neg k];refine eC (fun k8=> ?_) fun k8=> ?_
    ·have k8:it.kind=8:=eq_of_beq k8;rw[if_pos k8];refine eB (hC (CZ c) it.n it.speed (hsp k8)) ?_;obtain⟨o,h5,h6⟩:=hR (Kw (CZ c) it.n it.speed) it.n it.speed (hsp k8);refine eB h5 ?_;rw[<-h6];refine eC (fun q=> ?_) fun q=> ?_
     ·rw[if_neg (show¬bA o 0=true by simpa using q)];rfl
     ·rw[if_pos (show bA o 0=true by simpa using q)];exact eB (hD (Kw (CZ c) it.n it.speed)) rfl
    ·have k8:it.kind≠8:=by simpa [gA,nth,Af]using k8
     rw[if_neg k8];refine eC (fun k=> ?_) fun k=> ?_
     ·rw[if_pos (show it.kind=14 from eq_of_beq k)];rfl
     ·rw[if_neg (show it.kind≠14 by simpa [gA,nth,Af]using k)];exact eB (hD (CZ c)) rfl
theorem Un {l:Option (List AC)} (h:l.isSome=true):l=some (l.getD []):=by
 cases l with
 |none=>cases h
 |some o=>rfl
theorem Zxv (c:Cv) (x4:Int) {x5:Int} (h:i64 x5):Ly [I c.s0,I c.s1,I c.s2,I c.s3,I x4,I x5]=some (O3 c x4 x5):=Un (Zko _ _ _ _ _ h)
theorem Ztr (K:Kf) (c:Cv):Ob (Ad K c)=some (I 3::Ad K (H0 c)):=Z26 K c
theorem Q7i {K:Kf} {c:Cv} (h:KOK K) (h0:0<=c.idx) (h1:c.idx<K.p.aD.length):Ke (Ad K c)=some (I (Ck K c).1::Ad K (Ck K c).2):=
 Zec h h0 h1 (Ztr K) (fun c x4 _ h=>Zxv c x4 h) fun c x4 x5 h=>⟨_,Un (Zta _ _ _ _ _ h),rfl⟩
def F9 (K:Kf) (c:Cv) (i:Int):Bool:=
 if(mkK K i).kind=1\/(mkK K i).kind=2\/(mkK K i).kind=6 then c.o3 else if(mkK K i).kind=4 then true
 else if(mkK K i).kind=3 then((itK K (mkK K i).item).kind==11||(itK K (mkK K i).item).kind==12)else false
def D0 (K:Kf) (c:Cv) (i:Int):Int×Cv:=Ck K {c with on:=true,idx:=i,aN:=F9 K c i,cnt:=0}
theorem Zk5 {M:Fn} {K:Kf} {c:Cv} {i:Int} (h:KOK K) (h0:0<=i) (h1:i<K.p.aD.length)
  (hW:∀w:Bool,M (Ad K {c with on:=true,idx:=i,aN:=w,cnt:=0})=some (I (Ck K {c with on:=true,idx:=i,aN:=w,cnt:=0}).1::Ad K (Ck K {c with on:=true,idx:=i,aN:=w,cnt:=0}).2)):
  Wm M (I i::Ad K c)=some (I (D0 K c i).1::Ad K (D0 K c i).2):=by
 rw[Z59];have hm:=RR h h0 h1;unfold D0;refine eT (inM (f:=At) h0 h1) ?_;rw[NV h0 h1];have fin:∀{w:Bool} {f:List AC->List AC},w=F9 K c i->(∀(m:Int) (c:Cv),f (I m::Ad K c)=I m::Ad K c)->((M (Ad K {c with on:=true,idx:=i,aN:=w,cnt:=0})).bind fun o=>some (f o))=some (I (Ck K {c with on:=true,idx:=i,aN:=F9 K c i,cnt:=0}).1::Ad K (Ck K {c with on:=true,idx:=i,aN:=F9 K c i,cnt:=0}).2):=fun hw hf=>by
  subst hw;refine eB (hW _) ?_;rw[hf]
 have ne:∀{n:Int},(gA (At (mkK K i)) 1==n)=false->(mkK K i).kind≠n:=fun e=>by simpa [gA,nth,Af]using e
 have eq:∀{n:Int},(gA (At (mkK K i)) 1==n)=true->(mkK K i).kind=n:=fun e=>eq_of_beq e;refine eC (fun e=>fin (by unfold F9;rw[if_pos (.inl (eq e))]) fun _ _=>rfl) fun n1=> ?_;refine eC (fun e=>fin (by unfold F9;rw[if_pos (.inr (.inl (eq e)))]) fun _ _=>rfl) fun n2=> ?_;refine eC (fun e=>fin (by unfold F9;rw[if_pos (.inr (.inr (eq e)))]) fun _ _=>rfl) fun n6=> ?_;have no: ¬((mkK K i).kind=1\/(mkK K i).kind=2\/(mkK K i).kind=6):=by
  intro q;rcases q with q|q|q
  ·exact ne n1 q
  ·exact ne n2 q
  ·exact ne n6 q
 refine eC (fun e=>fin (by unfold F9;rw[if_neg no,if_pos (eq e)]) fun _ _=>rfl) fun n4=> ?_;refine eC (fun e=> ?_) fun n3=>fin (by unfold F9;rw[if_neg no,if_neg (ne n4),if_neg (ne n3)]) fun _ _=>rfl;refine eT (inM (f:=Ah) (l:=K.aA) (i:=(mkK K i).item) hm.1 hm.2.1) ?_;have er:nth [] (K.aA.map Ah) (gA (At (mkK K i)) 2).toNat=Ah (itK K (mkK K i).item):=IC hm.1 hm.2.1;rw[er];have hw:F9 K c i=((itK K (mkK K i).item).kind==11||(itK K (mkK K i).item).kind==12):=by unfold F9;rw[if_neg no,if_neg (ne n4),if_pos (eq e)]
 refine eC (fun k=>fin (by rw[hw,show((itK K (mkK K i).item).kind==11)=true from k];rfl) fun _ _=>rfl) fun k=>fin (by rw[hw,show((itK K (mkK K i).item).kind==11)=false from k];rfl) fun _ _=>rfl
theorem Zk7 {K:Kf} {c:Cv} {i:Int} (h:KOK K) (h0:0<=i) (h1:i<K.p.aD.length):QK (I i::Ad K c)=some (I (D0 K c i).1::Ad K (D0 K c i).2):=
 Zk5 h h0 h1 fun _=>Q7i h h0 h1
end Go.Bm
noncomputable section
namespace Go.Bm
def Ds (c:Cv):Cv:=if c.g0=0 then{c with o2:=true,g0:=1,g1:=18,g2:= -1}else c
theorem Qpa (K:Kf) (c:Cv):GN (Ad K c)=some (Ad K (Ds c)):=Zt6 K c
def OT (c:Cv):Int:=one KA [I c.before,I c.s0]
theorem Zol (c:Cv):KA [I c.before,I c.s0]=some [I (OT c)]:=by
 have key:∃v,KA [I c.before,I c.s0]=some [I v]:=by
  have e:KA [I c.before,I c.s0]=Qpt Ka [I c.before,I c.s0]:=rfl;have h:∀a,(Ka [I a,I 1048576]).isSome=true:=fun a=>Zm5 (by omega);rw[e,Zya];generalize Ka=M at*;have h2:∀a,∃o,M [I a,I 1048576]=some o:=fun a=>Option.isSome_iff_exists.1 (h a);cases(c.s0== -1)
  ·obtain⟨o,ho⟩:=h2 (wrap .i64 (0-c.before));exact⟨_,eB ho rfl⟩
  ·obtain⟨o,ho⟩:=h2 c.before;exact⟨_,eB ho rfl⟩
 obtain⟨v,h⟩:=key;exact Z3 h
def goC (K:Kf) (c:Cv) (g:Sgm):Cv:={c with y0:=g.item,y1:=Bl K c,y2:=c.s3,e0:=1,e1:=c.m0,e2:=OT c,e3:=0}
def Ey (K:Kf) (c:Cv) (g:Sgm):Bool:=(itK K g.item).kind==6||(c.s1 !=0&& !decide (wrap .i64 (wrap .i64 (c.s3-OT c)*c.s0)<0))
theorem Zsg {MP MI:Fn} {K:Kf} {c:Cv} {s:Sgm} (h0:0<=s.item) (h1:s.item<K.aA.length) (hI:MI [I c.before,I c.s0]=some [I (OT c)]) (hP:MP (Ad K c)=some [I (Bl K c)]):
  Qa4 MP MI (I s.to.x::I s.to.y::I s.to.z::I s.len::I s.item::I s.feed::I s.lead::Ad K c)=some (B (Ey K c s)::Ad K (if Ey K c s=true then goC K c s else c)):=by
 rw[Zbm];refine eB hI (eT (inM (f:=Ah) h0 h1) ?_);rw[IC h0 h1];refine eC (fun e=> ?_) fun e=> ?_
 ·have e:(itK K s.item).kind≠6:=by simpa [gA,nth,Af]using e
  refine eC (fun a=> ?_) fun a=>eC (fun b=> ?_) fun b=> ?_
  ·have hm:Ey K c s=false:=by unfold Ey;rw[beF e,bnF (eq_of_beq a)];rfl
   rw[hm];rfl
  ·have hm:Ey K c s=false:=by unfold Ey;rw[beF e,show decide (wrap .i64 (wrap .i64 (c.s3-OT c)*c.s0)<0)=true from b];simp
   rw[hm];rfl
  ·have hm:Ey K c s=true:=by
    unfold Ey;rw[show decide (wrap .i64 (wrap .i64 (c.s3-OT c)*c.s0)<0)=false from b];simp only[bne,a];simp
   rw[hm];exact eB hP rfl
 ·have e:(itK K s.item).kind=6:=by simpa [gA,nth,Af]using e
  have hm:Ey K c s=true:=by unfold Ey;rw[beT e];rfl
  rw[hm];exact eB hP rfl
theorem Z5z {K:Kf} {c:Cv} {s:Sgm} (h:KOK K) (h0:0<=s.item) (h1:s.item<K.aA.length):
  P0 (I s.to.x::I s.to.y::I s.to.z::I s.len::I s.item::I s.feed::I s.lead::Ad K c)=some (B (Ey K c s)::Ad K (if Ey K c s=true then goC K c s else c)):=
 Zsg h0 h1 (Zol c) (Sh h c)
def Yb (lead way:Int):Int:=one JX [I lead,I way]
theorem Zsi {a b:Int} (ha:i64 a) (hb:i64 b):JX [I a,I b]=some [I (Yb a b)]:=by
 have key:∃v,JX [I a,I b]=some [I v]:=by
  have e:JX [I a,I b]=YD Bn [I a,I b]:=rfl;have h:=Vy (show i64 4096 by unfold i64;omega) hb ha 0;rw[e,Z35];generalize Bn=M at*;obtain⟨o,ho⟩:=Option.isSome_iff_exists.1 h;exact⟨_,eB ho rfl⟩
 obtain⟨v,h⟩:=key;exact Z3 h
def Q7b (K:Kf) (d:Cv) (g:Sgm):Int:=wrap .i64 (d.y2+wrap .i64 (wrap .i64 ((if(itK K g.item).n=3 then 1 else-1)*Yb g.lead (wrap .i64 (Bl K d-d.y1)))*256))
def Q0 (K:Kf) (c:Cv) (l:Int) (g:Sgm):Cv:={EM K c l with s3:=Q7b K (EM K c l) g}
theorem Z0u {MA MP ML:Fn} {K:Kf} {c:Cv} {l:Int} {s:Sgm} (h0:0<=s.item) (h1:s.item<K.aA.length)
  (hA:∀v,i64 v->MA [I s.lead,I v]=some [I (Yb s.lead v)]) (hP:∀c,MP (Ad K c)=some [I (Bl K c)]) (hL:ML (I l::Ad K c)=some (Ad K (EM K c l))):
  XI MA MP ML (I l::I s.to.x::I s.to.y::I s.to.z::I s.len::I s.item::I s.feed::I s.lead::Ad K c)=some (Ad K (Q0 K c l s)):=by
 rw[Zza];unfold Q0;generalize EM K c l=d at*;refine eB hL (eT (inM (f:=Ah) h0 h1) ?_);show cond (gA (nth [] (K.aA.map Ah) s.item.toNat) 19==3) _ _=_;rw[IC h0 h1];unfold Q7b;refine eC (fun e=> ?_) fun e=> ?_
 ·rw[if_pos (show(itK K s.item).n=3 from eq_of_beq e)];exact eB (hP d) (eB (hA _ (RM _)) rfl)
 ·rw[if_neg (show(itK K s.item).n≠3 by simpa [gA,nth,Af]using e)];exact eB (hP d) (eB (hA _ (RM _)) rfl)
theorem Qye {K:Kf} {c:Cv} {n:Int} (h:KOK K) (g:Gd K n c) (hn:0<=n/\n<=10000) (l:Int) {s:Sgm} (hs:0<=s.item/\s.item<K.aA.length/\i64 s.lead):
  Qm (I l::I s.to.x::I s.to.y::I s.to.z::I s.len::I s.item::I s.feed::I s.lead::Ad K c)=some (Ad K (Q0 K c l s)):=
 Z0u hs.1 hs.2.1 (fun v hv=>Zsi hs.2.2 hv) (Sh h) (Zb h g l)
def thL (K:Kf) (c:Cv) (l lead:Int):List AC:=pxt K.p K.x K.t [I K.pa,I K.pb,I K.pc,I c.o0,I c.o1,B c.o2,B c.o3,B c.o4,I c.m0,I c.m1,I c.m2,I c.m3,I c.m4,I c.m5,I l,I lead,I c.e0,I c.e1,I c.e2,I c.e3,I c.before,I c.s3]
def thO (K:Kf) (c:Cv) (l lead:Int):List AC:=(JD (thL K c l lead)).getD []
def Kx (c:Cv) (o:List AC):Cv:={RY c (gA o 1)with e0:=gA o 6,e1:=gA o 7,e2:=gA o 8,e3:=gA o 9}
def J4 (K:Kf) (c:Cv) (l lead:Int):Cv:=
 if c.g0≠0 then{EM K c l with e0:=3}else if gA (thO K c l lead) 10≠0 then Ds (Kx c (thO K c l lead))else Kx c (thO K c l lead)
theorem Qcq {K:Kf} {c:Cv} {n:Int} (h:KOK K) (g:Gd K n c) (l:Int) {lead:Int} (hl:i64 lead):
  JD (thL K c l lead)=some (thO K c l lead)/\∃v s b z y e:Int,thO K c l lead=En c.m0 c.m1 c.m3 c.m4 v++[I s,I b,I z,I y,I e]/\((Bg K.pa K.pb v (wrap .i64 (v-c.m1))).2=true\/∃r:Int,v=wrap .i64 (c.m1+r)/\r=AK K.pa K.pb c.m1 c.m2):=by
 obtain⟨o,h1,v,s,b,z,y,e,rfl,h2⟩:=Z7x h g.mo l hl;have h1:JD (thL K c l lead)=some (En c.m0 c.m1 c.m3 c.m4 v++[I s,I b,I z,I y,I e]):=h1;have e2:thO K c l lead=En c.m0 c.m1 c.m3 c.m4 v++[I s,I b,I z,I y,I e]:=by unfold thO;rw[h1];rfl
 rw[e2];exact⟨h1,v,s,b,z,y,e,rfl,h2⟩
theorem Zvo {MF MT ML:Fn} {K:Kf} {c:Cv} {l:Int} {s:Sgm} (hF:∀c,MF (Ad K c)=some (Ad K (Ds c)))
  (hT:MT (thL K c l s.lead)=some (thO K c l s.lead)) (hS:∃v s' b z y e:Int,thO K c l s.lead=En c.m0 c.m1 c.m3 c.m4 v++[I s',I b,I z,I y,I e]) (hL:ML (I l::Ad K c)=some (Ad K (EM K c l))):
  XR MF MT ML (I l::I s.to.x::I s.to.y::I s.to.z::I s.len::I s.item::I s.feed::I s.lead::Ad K c)=some (Ad K (J4 K c l s.lead)):=by
 rw[Z0o];unfold J4;refine eC (fun e=> ?_) fun e=> ?_
 ·rw[if_pos (show c.g0≠0 by simpa using e)];generalize EM K c l=d at*;exact eB hL rfl
 ·rw[if_neg (show¬c.g0≠0 by simpa using e)];obtain⟨v,s',b,z,y,e',hs⟩:=hS;generalize thO K c l s.lead=o at*;subst hs;refine eB hT ?_;refine eC (fun q=> ?_) fun q=> ?_
  ·rw[if_pos (show gA (En c.m0 c.m1 c.m3 c.m4 v++[I s',I b,I z,I y,I e']) 10≠0 by simpa using q)];refine Eq.trans (congrArg (fun z=>Option.bind z _) (hF (Kx c (En c.m0 c.m1 c.m3 c.m4 v++[I s',I b,I z,I y,I e'])))) rfl
  ·rw[if_neg (show¬gA (En c.m0 c.m1 c.m3 c.m4 v++[I s',I b,I z,I y,I e']) 10≠0 by simpa using q)];rfl
theorem Qrs {K:Kf} {c:Cv} {n:Int} (h:KOK K) (g:Gd K n c) (hn:0<=n/\n<=10000) (l:Int) {s:Sgm} (hs:i64 s.lead):
  Qx (I l::I s.to.x::I s.to.y::I s.to.z::I s.len::I s.item::I s.feed::I s.lead::Ad K c)=some (Ad K (J4 K c l s.lead)):=by
 obtain⟨h1,v,s',b,z,y,e,h2,-⟩:=Qcq h g l hs;exact Zvo (Qpa K) h1 ⟨v,s',b,z,y,e,h2⟩ (Zb h g l)
def F1 (K:Kf) (c:Cv) (l:Int) (g:Sgm):Cv:=if(itK K g.item).kind=6 then Q0 K c l g else J4 K c l g.lead
def F7 (K:Kf) (c:Cv) (l:Int):Cv:=
 if(sgK K c).lead=0\/(c.o2=true/\c.y0≠(sgK K c).item)then EM K c l
 else if c.y0=(sgK K c).item then F1 K c l (sgK K c)
 else if Ey K c (sgK K c)=true then F1 K (goC K c (sgK K c)) l (sgK K c)
 else if c.s1=0 then Ds c else c
theorem Gd.go {K:Kf} {n:Int} {c:Cv} (g:Gd K n c) (s:Sgm):Gd K n (goC K c s):=⟨g.way,g.pass,g.task,g.mo,g.m0⟩
theorem Zxa {MH MT MF MS ML MG':Fn} {K:Kf} {c:Cv} {l:Int} (hok:(sgK K c).lead≠0->0<=(sgK K c).item/\(sgK K c).item<K.aA.length)
  (hG:MG' (Ad K c)=some (Au (sgK K c)++[B (Fv K c).isSome])) (hL:ML (I l::Ad K c)=some (Ad K (EM K c l)))
  (hS:(sgK K c).lead≠0->MS (I (sgK K c).to.x::I (sgK K c).to.y::I (sgK K c).to.z::I (sgK K c).len::I (sgK K c).item::I (sgK K c).feed::I (sgK K c).lead::Ad K c)=some (B (Ey K c (sgK K c))::Ad K (if Ey K c (sgK K c)=true then goC K c (sgK K c)else c)))
  (hF:MF (Ad K c)=some (Ad K (Ds c)))
  (hT:(sgK K c).lead≠0->∀d,d=c\/d=goC K c (sgK K c)->MT (I l::I (sgK K c).to.x::I (sgK K c).to.y::I (sgK K c).to.z::I (sgK K c).len::I (sgK K c).item::I (sgK K c).feed::I (sgK K c).lead::Ad K d)=some (Ad K (Q0 K d l (sgK K c))))
  (hH:(sgK K c).lead≠0->∀d,d=c\/d=goC K c (sgK K c)->MH (I l::I (sgK K c).to.x::I (sgK K c).to.y::I (sgK K c).to.z::I (sgK K c).len::I (sgK K c).item::I (sgK K c).feed::I (sgK K c).lead::Ad K d)=some (Ad K (J4 K d l (sgK K c).lead))):
  X4 MH MT MF MS ML MG' (I l::Ad K c)=some (Ad K (F7 K c l)):=by
 rw[Zur];unfold F7;generalize sgK K c=s at*;refine eB hG ?_;refine eC (fun e=> ?_) fun e=> ?_
 ·rw[if_pos (.inl (show s.lead=0 from eq_of_beq e))];generalize EM K c l=d at*;exact eB hL rfl
 ·have e:s.lead≠0:=by simpa [gA,nth,Af]using e
  obtain⟨q0,q1⟩:=hok e;have hS:=hS e;have hT:=hT e;have hH:=hH e
  have syn:∀{d:Cv} {f1 f2:List AC->List AC},d=c\/d=goC K c s->(∀c,f1 (Ad K c)=Ad K c)->(∀c,f2 (Ad K c)=Ad K c)->
    (bif decide (0<=s.item)&&decide (s.item<((K.aA.map Ah).length:Int))then(bif gA (nth [] (K.aA.map Ah) s.item.toNat) 0==6 then(MT (I l::I s.to.x::I s.to.y::I s.to.z::I s.len::I s.item::I s.feed::I s.lead::Ad K d)).bind fun o=>some (f1 o)else(MH (I l::I s.to.x::I s.to.y::I s.to.z::I s.len::I s.item::I s.feed::I s.lead::Ad K d)).bind fun o=>some (f2 o))else none)=some (Ad K (F1 K d l s)):=fun hd h1 h2=>by
   refine eT (inM (f:=Ah) q0 q1) ?_;rw[IC q0 q1];unfold F1;refine eC (fun k=> ?_) fun k=> ?_
   ·rw[if_pos (show(itK K s.item).kind=6 from eq_of_beq k)];exact eB (hT _ hd) (congrArg some (h1 _))
   ·rw[if_neg (show(itK K s.item).kind≠6 by simpa [gA,nth,Af]using k)];exact eB (hH _ hd) (congrArg some (h2 _))
  have hg:SK c (Au s++[B (Fv K c).isSome]) MS K MF MT l MH=some (Ad K (if c.y0=s.item then F1 K c l s else if Ey K c s=true then F1 K (goC K c s) l s else if c.s1=0 then Ds c else c)):=by
   refine eC (fun y=> ?_) fun y=> ?_
   ·have y:c.y0≠s.item:=by simpa [gA,nth,Af]using y
    rw[if_neg y];refine eB hS ?_;cases hm:Ey K c s
    ·refine eT rfl ?_;rw[if_neg (by simp),if_neg (by simp)];refine eC (fun z=> ?_) fun z=> ?_
     ·rw[if_pos (show c.s1=0 from eq_of_beq z)];generalize Ds c=d at*;exact eB hF rfl
     ·rw[if_neg (show c.s1≠0 by simpa [gA,nth,Af]using z)];rfl
    ·refine eF rfl ?_;rw[if_pos rfl,if_pos rfl];have h:=syn (d:=goC K c s) (f1:=fun o=>cR 0 o) (f2:=fun o=>cR 0 o) (.inr rfl) (fun _=>rfl) (fun _=>rfl);generalize goC K c s=d at*;exact h
   ·have y:c.y0=s.item:=by simpa [gA,nth,Af]using y
    rw[if_pos y];exact syn (f1:=fun o=>cR 0 o) (f2:=fun o=>cR 0 o) (.inl rfl) (fun _=>rfl) (fun _=>rfl)
  refine eC (fun a=>eC (fun b=> ?_) fun b=> ?_) fun a=> ?_
  ·have b:c.y0≠s.item:=by simpa [gA,nth,Af]using b
   rw[if_pos (.inr ⟨a,b⟩)];generalize EM K c l=d at*;exact eB hL rfl
  ·have b:c.y0=s.item:=by simpa [gA,nth,Af]using b
   rw[if_neg (fun q=>by rcases q with q|q;exact e q;exact q.2 b)];exact hg
  ·rw[if_neg (fun q=>by rcases q with q|q;exact e q;rw[a]at q;cases q.1)];exact hg
theorem Z18 {K:Kf} {c:Cv} {n:Int} (h:KOK K) (g:Gd K n c) (hn:0<=n/\n<=10000) (l:Int):PM (I l::Ad K c)=some (Ad K (F7 K c l)):=
 Zxa (fun e=>⟨(GC h e).1,(GC h e).2.1⟩) (Qvh h c) (Zb h g l) (fun e=>Z5z h (GC h e).1 (GC h e).2.1) (Qpa K c)
  (fun e d hd=>by rcases hd with rfl|rfl;exact Qye h g hn l (GC h e);exact Qye h (g.go _) hn l (GC h e))
  (fun e d hd=>by rcases hd with rfl|rfl;exact Qrs h g hn l (GC h e).2.2;exact Qrs h (g.go _) hn l (GC h e).2.2)
end Go.Bm
noncomputable section
namespace Go.Bm
def Dw (K:Kf) (c:Cv):Int×Cv:=
 if c.aM=true/\c.m0=wrap .i64 ((Bf K c).1*256)then
  (if 0 <= (Bf K c).2 then
   (if(mkK K (Bf K c).2).item=(D0 K c (Bf K c).2).2.y0/\(itK K (mkK K (Bf K c).2).item).kind=5/\(D0 K c (Bf K c).2).2.e0=1 then((D0 K c (Bf K c).2).1,Ds (D0 K c (Bf K c).2).2)else D0 K c (Bf K c).2)
  else if K.closed=true then(7,{c with aI:=7})else(1,c))
 else(if c.g0≠0/\c.aM=true then 6 else 1,F7 K c (Bf K c).1)
theorem Zxl {MM MF MB ML:Fn} {K:Kf} {c:Cv} (h:KOK K) (hi:(Bf K c).2= -1\/0<=(Bf K c).2/\c.next<=(Bf K c).2/\(Bf K c).2<K.p.aD.length)
  (hL:ML (Ad K c)=some (I (Bf K c).1::I (Bf K c).2::Ad K c)) (hB:0<=(Bf K c).2->(Bf K c).2<K.p.aD.length->MB (I (Bf K c).2::Ad K c)=some (I (D0 K c (Bf K c).2).1::Ad K (D0 K c (Bf K c).2).2))
  (hF:∀c,MF (Ad K c)=some (Ad K (Ds c))) (hM:MM (I (Bf K c).1::Ad K c)=some (Ad K (F7 K c (Bf K c).1))):
  Qi6 MM MF MB ML (Ad K c)=some (I (Dw K c).1::Ad K (Dw K c).2):=by
 rw[Zgp];unfold Dw;generalize F7 K c (Bf K c).1=mv at*;have hbb:=hB;generalize hb:D0 K c (Bf K c).2=bg at*;clear hb;generalize Bf K c=li at*;refine eB hL ?_;have mov:∀{a:Prop} [Decidable a],¬(c.aM=true/\c.m0=wrap .i64 (li.1*256))->∀{x:Option (List AC)},x=some (I (if c.g0≠0/\c.aM=true then 6 else 1)::Ad K mv)->
   x=some (I (if c.aM=true/\c.m0=wrap .i64 (li.1*256)then(if 0<=li.2 then(if(mkK K li.2).item=bg.2.y0/\(itK K (mkK K li.2).item).kind=5/\bg.2.e0=1 then(bg.1,Ds bg.2)else bg)else if K.closed=true then(7,{c with aI:=7})else(1,c))else(if c.g0≠0/\c.aM=true then 6 else 1,mv)).1::Ad K (if c.aM=true/\c.m0=wrap .i64 (li.1*256)then(if 0<=li.2 then(if(mkK K li.2).item=bg.2.y0/\(itK K (mkK K li.2).item).kind=5/\bg.2.e0=1 then(bg.1,Ds bg.2)else bg)else if K.closed=true then(7,{c with aI:=7})else(1,c))else(if c.g0≠0/\c.aM=true then 6 else 1,mv)).2):=fun hn _ hx=>by
  rw[if_neg hn];exact hx
 refine eC (fun s=>eC (fun e=> ?_) fun e=> ?_) fun s=> ?_
 ·have s:c.aM=true:=s;have e:c.m0=wrap .i64 (li.1*256):=eq_of_beq e;rw[if_pos ⟨s,e⟩];refine eC (fun k=> ?_) fun k=> ?_
  ·have k:0<=li.2:=Bp k;rw[if_pos k];have k2:li.2<K.p.aD.length:=by
    rcases hi with hi|hi
    ·omega
    ·exact hi.2.2
   have hm:=RR h k k2;refine eB (hB k k2) (eT (inM (f:=At) k k2) ?_);have er:nth [] (K.p.aD.map At) li.2.toNat=At (mkK K li.2):=NV k k2;have er2:nth [] (K.aA.map Ah) (mkK K li.2).item.toNat=Ah (itK K (mkK K li.2).item):=IC hm.1 hm.2.1;refine eC (fun y=> ?_) fun y=> ?_
   ·have y:(mkK K li.2).item=bg.2.y0:=by
     have:=eq_of_beq (show(gA (nth [] (K.p.aD.map At) li.2.toNat) 2==bg.2.y0)=true from y);rw[er]at this;exact this
    refine eT (show(decide (0<=gA (nth [] (K.p.aD.map At) li.2.toNat) 2)&&decide (gA (nth [] (K.p.aD.map At) li.2.toNat) 2<((K.aA.map Ah).length:Int)))=true by rw[er];exact inM (f:=Ah) (l:=K.aA) (i:=(mkK K li.2).item) hm.1 hm.2.1) ?_;have ek:gA (nth [] (K.aA.map Ah) (gA (nth [] (K.p.aD.map At) li.2.toNat) 2).toNat) 0=(itK K (mkK K li.2).item).kind:=by
     rw[er];show gA (nth [] (K.aA.map Ah) (mkK K li.2).item.toNat) 0=_;rw[er2];rfl
    refine eC (fun q=> ?_) fun q=> ?_
    ·have q:(itK K (mkK K li.2).item).kind=5:=by rw[<-ek];exact eq_of_beq q
     refine eC (fun z=> ?_) fun z=> ?_
     ·have z:bg.2.e0=1:=eq_of_beq z;rw[if_pos ⟨y,q,z⟩];exact eB (hF bg.2) rfl
     ·have z:bg.2.e0≠1:=fun e=>by have:(bg.2.e0==1)=false:=z;rw[beT e]at this;cases this
      rw[if_neg (fun w=>z w.2.2)];rfl
    ·have q:(itK K (mkK K li.2).item).kind≠5:=fun e=>by
      have:(gA (nth [] (K.aA.map Ah) (gA (nth [] (K.p.aD.map At) li.2.toNat) 2).toNat) 0==5)=false:=q;rw[ek,beT e]at this;cases this
     rw[if_neg (fun w=>q w.2.1)];rfl
   ·have y:(mkK K li.2).item≠bg.2.y0:=fun e=>by
     have:(gA (nth [] (K.p.aD.map At) li.2.toNat) 2==bg.2.y0)=false:=y;rw[er]at this;rw[show(gA (At (mkK K li.2)) 2==bg.2.y0)=true from beT e]at this;cases this
    rw[if_neg (fun w=>y w.1)];rfl
  ·have k: ¬0<=li.2:=Bt k;rw[if_neg k];refine eC (fun q=> ?_) fun q=> ?_
   ·rw[if_pos (show K.closed=true from q)];rfl
   ·rw[if_neg (show¬K.closed=true by rw[show K.closed=false from q];simp)];rfl
 ·have e:c.m0≠wrap .i64 (li.1*256):=fun e'=>by
   have:(c.m0==wrap .i64 (li.1*256))=false:=e;rw[beT e']at this;cases this
  refine mov (a:=True) (fun w=>e w.2) ?_;refine eC (fun q=> ?_) fun q=> ?_
  ·have q:c.g0≠0:=fun e=>by
    have:(c.g0 !=0)=true:=q;rw[bnF e]at this;cases this
   refine eB hM (eT (show c.aM=true from s) ?_);rw[if_pos ⟨q,show c.aM=true from s⟩];rfl
  ·have q:c.g0=0:=Decidable.byContradiction fun e=>by
    have:(c.g0 !=0)=false:=q;rw[bnT e]at this;cases this
   refine eB hM ?_;rw[if_neg (fun w=>w.1 q)];rfl
 ·have s:c.aM=false:=s;refine mov (a:=True) (fun w=>by rw[s]at w;cases w.1) ?_;refine eC (fun q=> ?_) fun q=> ?_
  ·refine eB hM (eF (show c.aM=false from s) ?_);rw[if_neg (fun w=>by rw[s]at w;cases w.2)];rfl
  ·refine eB hM ?_;rw[if_neg (fun w=>by rw[s]at w;cases w.2)];rfl
theorem Zd7 {K:Kf} {c:Cv} {n:Int} (h:KOK K) (g:Gd K n c) (hn:0<=n/\n<=10000):LU (Ad K c)=some (I (Dw K c).1::Ad K (Dw K c).2):=
 Zxl h (Qxu K c) (Zs4 h c) (fun h0 h1=>Zk7 h h0 h1) (Qpa K) (Z18 h g hn _)
def swI (s:Int) (it:Itm):Int:=one Kt (I s::Ah it)
theorem Z4y (s:Int) (it:Itm):Kt (I s::Ah it)=some [I (swI s it)]:=by
 have key:∃v,Kt (I s::Ah it)=some [I v]:=by
  show∃v,Qmh (I s::Ah it)=some [I v];rw[Zsp];by_cases h1:it.kind=10
  ·rw[A_ (bnF h1)];by_cases h2:it.n<0
   ·rw[Bi (decide_eq_true h2)];exact⟨_,rfl⟩
   ·rw[A_ (decide_eq_false h2)];by_cases h3:it.n>=16
    ·rw[Bi (decide_eq_true h3)];exact⟨_,rfl⟩
    ·rw[A_ (decide_eq_false h3),A_ (decide_eq_false (by simp[IntKind.wrap,IntKind.signed,IntKind.bits];omega))];cases it.on<;>exact⟨_,rfl⟩
  ·rw[Bi (bnT h1)];exact⟨_,rfl⟩
 obtain⟨v,h⟩:=key;exact Z3 h
def Ed (K:Kf) (s:Int):List Mrk->Cv->List Int×Cv
 |[],c=>([],c)
 |m::l,c=>if m.at_>s\/(m.at_=s/\c.next<=c.aK/\Hx m.kind c=true)then([],c)
  else if m.kind=5 then(m.item::(Ed K s l {c with outs:=swI c.outs (itK K m.item),aK:=c.aK+1}).1,(Ed K s l {c with outs:=swI c.outs (itK K m.item),aK:=c.aK+1}).2)
  else Ed K s l {c with aK:=c.aK+1}
def B1 (K:Kf) (c:Cv) (s:Int):List Int×Cv:=Ed K s (K.p.aD.drop c.aK.toNat) c
theorem Zro {MS MA:Fn} {K:Kf} {c:Cv} (h:KOK K) (hp:0<=c.aK/\c.aK<=K.p.aD.length) (s:Int)
  (hA:∀(c:Cv) (at_ k it:Int),MA [I at_,I k,I it,I c.o0,I c.o1,B c.o2,B c.o3,B c.o4]=some [B (Hx k c)]) (hS:∀(s:Int) (it:Itm),MS (I s::Ah it)=some [I (swI s it)]):
  UA MS MA (An (Rb MS MA)) (I s::Ad K c)=some (.view Aa ((B1 K c s).1.map As)::Ad K (B1 K c s).2):=by
 rw[Z5b];have key:Out (fun o=>o=(1, .view Aa ((B1 K c s).1.map As)::Ad K (B1 K c s).2)) (An (Rb MS MA) (.view Aa (([]:List Int).map As)::I s::Ad K c)):=by
  have hc:=h.count;refine CB (fun z:List Int×Cv=> .view Aa (z.1.map As)::I s::Ad K z.2)
   (fun z=>0<=z.2.aK/\z.2.aK<=K.p.aD.length/\(z.1.length:Int)<=z.2.aK/\(B1 K c s).1=z.1++(Ed K s (K.p.aD.drop z.2.aK.toNat) z.2).1/\(B1 K c s).2=(Ed K s (K.p.aD.drop z.2.aK.toNat) z.2).2)
   (fun z=>(K.p.aD.length-z.2.aK).toNat) _ ?_ ([],c) ⟨hp.1,hp.2,by simp;omega,rfl,rfl⟩
  rintro⟨l,d⟩ ⟨g1,g2,g3,g4,g5⟩;dsimp only at g1 g2 g3 g4 g5;refine Out.eqv (Z5o MS MA _ _ K d) ?_;refine .cond (fun k=> ?_) fun k=> ?_
  ·have k:d.aK<((K.p.aD.map At).length:Int):=Bp k;rw[List.length_map]at k;have hi:d.aK.toNat<K.p.aD.length:=by omega
   have em:mkK K d.aK=K.p.aD[d.aK.toNat]:=by unfold mkK;rw[List.getD,List.getElem?_eq_getElem hi];rfl
   have hm:=RR h g1 k;rw[List.drop_eq_getElem_cons hi,<-em]at g4 g5;unfold Ed at g4 g5;refine .cond (fun _=> ?_) fun e=>(inB g1 (by rw[List.length_map];exact k) e).elim;rw[NV g1 k];generalize hmk:mkK K d.aK=m at*;have wp:wrap .i64 (d.aK+1)=d.aK+1:=Ae (by omega);have np:(d.aK+1).toNat=d.aK.toNat+1:=by omega
   have stop:(m.at_>s\/(m.at_=s/\d.next<=d.aK/\Hx m.kind d=true))->∀{x:List AC},x= .view Aa (l.map As)::Ad K d->Out (fun o:Nat×List AC=>(o.1=0/\∃s':List Int×Cv,o.2= .view Aa (s'.1.map As)::I s::Ad K s'.2/\(0<=s'.2.aK/\s'.2.aK<=K.p.aD.length/\(s'.1.length:Int)<=s'.2.aK/\(B1 K c s).1=s'.1++(Ed K s (K.p.aD.drop s'.2.aK.toNat) s'.2).1/\(B1 K c s).2=(Ed K s (K.p.aD.drop s'.2.aK.toNat) s'.2).2)/\(K.p.aD.length-s'.2.aK).toNat<(K.p.aD.length-d.aK).toNat)\/(o.1≠0/\o=(1, .view Aa ((B1 K c s).1.map As)::Ad K (B1 K c s).2))) (some (1,x)):=fun hs _ hx=>by
    rw[if_pos hs]at g4 g5;subst hx;refine .some (.inr ⟨by simp,?_⟩);rw[g4,g5,List.append_nil]
   have go: ¬(m.at_>s\/(m.at_=s/\d.next<=d.aK/\Hx m.kind d=true))->Out (fun o:Nat×List AC=>(o.1=0/\∃s':List Int×Cv,o.2= .view Aa (s'.1.map As)::I s::Ad K s'.2/\(0<=s'.2.aK/\s'.2.aK<=K.p.aD.length/\(s'.1.length:Int)<=s'.2.aK/\(B1 K c s).1=s'.1++(Ed K s (K.p.aD.drop s'.2.aK.toNat) s'.2).1/\(B1 K c s).2=(Ed K s (K.p.aD.drop s'.2.aK.toNat) s'.2).2)/\(K.p.aD.length-s'.2.aK).toNat<(K.p.aD.length-d.aK).toNat)\/(o.1≠0/\o=(1, .view Aa ((B1 K c s).1.map As)::Ad K (B1 K c s).2))) (Mp K d (l.map As) MS s):=fun hs=>by
    rw[if_neg hs]at g4 g5;unfold Mp;rw[NV g1 k,hmk,wp];refine .cond (fun q=> ?_) fun q=> ?_
    ·have q:m.kind=5:=eq_of_beq q;rw[if_pos q]at g4 g5;refine .cond (fun _=> ?_) fun e=>by rw[B0 (by simp;omega)]at e;cases e
     refine .cond (fun _=> ?_) fun e=>(inB (show 0<=gA (At m) 2 from hm.1) (show gA (At m) 2<((K.aA.map Ah).length:Int) by rw[List.length_map];exact hm.2.1) e).elim;rw[show nth [] (K.aA.map Ah) (gA (At m) 2).toNat=Ah (itK K m.item)from IC hm.1 hm.2.1];refine .bind (p:=fun o=>o=_) ⟨_,hS d.outs (itK K m.item),rfl⟩ fun o e=> ?_;subst e;refine .some (.inl ⟨rfl,(l++[m.item],{d with outs:=swI d.outs (itK K m.item),aK:=d.aK+1}),?_,⟨by dsimp only;omega,by dsimp only;omega,by simp;omega,?_,?_⟩,by dsimp only;omega⟩)
     ·rw[List.map_append];rfl
     ·dsimp only;rw[g4,np];simp
     ·dsimp only;rw[g5,np]
    ·have q:m.kind≠5:=by simpa [gA,nth,Af]using q
     rw[if_neg q]at g4 g5;refine .some (.inl ⟨rfl,(l,{d with aK:=d.aK+1}),rfl,⟨by dsimp only;omega,by dsimp only;omega,by dsimp only;omega,?_,?_⟩,by dsimp only;omega⟩)
     ·dsimp only;rw[g4,np]
     ·dsimp only;rw[g5,np]
   refine .cond (fun a=>stop (.inl (Bp a)) rfl) fun a=> ?_;have a: ¬m.at_>s:=Bt a;refine .cond (fun b=> .cond (fun e=> ?_) fun e=>go fun w=> ?_) fun b=>go fun w=> ?_
   ·refine .bind (p:=fun o=>o=_) ⟨_,hA d _ _ _,rfl⟩ fun o q=> ?_;subst q;refine .cond (fun q=>stop (.inr ⟨eq_of_beq b,Bp e,q⟩) rfl) fun q=>go fun w=> ?_;have q:Hx m.kind d=false:=q;rcases w with w|w
    ·exact a w
    ·rw[q]at w;cases w.2.2
   ·rcases w with w|w
    ·exact a w
    ·exact Bt e w.2.1
   ·rcases w with w|w
    ·exact a w
    ·have:(m.at_==s)=false:=b;rw[beT w.1]at this;cases this
  ·have k: ¬d.aK<((K.p.aD.map At).length:Int):=Bt k;rw[List.length_map]at k;rw[List.drop_of_length_le (by omega)]at g4 g5;refine .some (.inr ⟨by simp,?_⟩);rw[g4,g5];simp[Ed]
 obtain⟨o,h1,rfl⟩:=key;exact eB h1 rfl
theorem Z7s {K:Kf} {c:Cv} (h:KOK K) (hp:0<=c.aK/\c.aK<=K.p.aD.length) (s:Int):QN (I s::Ad K c)=some (.view Aa ((B1 K c s).1.map As)::Ad K (B1 K c s).2):=
 Zro h hp s (fun c at_ k it=>Qzj at_ k it c) Z4y
end Go.Bm
noncomputable section
namespace Go.Bm
def C6 (K:Kf) (c:Cv):Int×Cv:=
 if c.g0=2 then(6,stand c)else if c.aI≠0 then(c.aI,c)
 else if c.aH=true/\c.aM=true then(8,{c with aI:=8})else if c.on=true then Ck K c else(0,c)
theorem Qwv (K:Kf) (c:Cv):(Iz K c).1≠0:=by
 unfold Iz
 (repeat' split)<;>simp
abbrev F4 (K:Kf) (frm i:Int) (c:Cv):List AC:=I frm::I 5::I i::(Ej++(Ej++Ad K c))
abbrev Ql6 (K:Kf) (frm mode:Int) (c:Cv):List AC:=I frm::(Ej++([.view kPt [], .view Aa [],I mode,I 0,I 0,I 0,I 0,I 0,I 0]++Ad K c))
theorem Zmq {N3:Lp} {ME MR MG' MB MP MO MU MS MN MX MT MV:Fn} {K:Kf} {c:Cv} (frm:Int)
  (hU:MU (Ad K c)=some (if c.g0=2 then I 6::B true::Ad K (stand c)else I 0::B false::Ad K c))
  (hO:MO (Ad K c)=some (I c.aI::B (c.aI !=0)::Ad K c))
  (hP:MP (Ad K c)=some (if c.aH=true/\c.aM=true then I 8::B true::Ad K {c with aI:=8}else I 0::B false::Ad K c))
  (hB:MB (Ad K c)=some (if c.on=true then I (Ck K c).1::B true::Ad K (Ck K c).2 else I 0::B false::Ad K c))
  (hG:MG' (Ad K c)=some (I 0::B false::Ad K c)):
  An (I_ ME MR MG' MB MP MO MU MS MN MX MT MV N3) (F4 K frm 0 c)=some (1,Ql6 K frm (C6 K c).1 (C6 K c).2):=by
 have w:∀i:Int,0<=i->i<5->wrap .i64 (i+1)=i+1:=fun i _ _=>Ae (by omega);have e:=fun i=>Zre ME MR MG' MB MP MO MU MS MN MX MT MV N3 frm 5 i [] [] 0 0 0 0 0 0 0 [] [] 0 0 0 0 0 0 0 K c;have s0:c.g0≠2->I_ ME MR MG' MB MP MO MU MS MN MX MT MV N3 (F4 K frm 0 c)=some (0,F4 K frm 1 c):=fun h=>by
  refine Eq.trans (e 0) (eT rfl (eT rfl (eB hU ?_)));rw[if_neg h];rfl
 have s1:c.aI=0->I_ ME MR MG' MB MP MO MU MS MN MX MT MV N3 (F4 K frm 1 c)=some (0,F4 K frm 2 c):=fun h=>by
  refine Eq.trans (e 1) (eT rfl (eF rfl (eT rfl (eB hO ?_))));rw[h];rfl
 have s2: ¬(c.aH=true/\c.aM=true)->I_ ME MR MG' MB MP MO MU MS MN MX MT MV N3 (F4 K frm 2 c)=some (0,F4 K frm 3 c):=fun h=>by
  refine Eq.trans (e 2) (eT rfl (eF rfl (eF rfl (eT rfl (eB hP ?_)))));rw[if_neg h];rfl
 have s3:c.on=false->I_ ME MR MG' MB MP MO MU MS MN MX MT MV N3 (F4 K frm 3 c)=some (0,F4 K frm 4 c):=fun h=>by
  refine Eq.trans (e 3) (eT rfl (eF rfl (eF rfl (eF rfl (eT rfl (eB hB ?_))))));rw[if_neg (by rw[h];simp)];rfl
 have s4:I_ ME MR MG' MB MP MO MU MS MN MX MT MV N3 (F4 K frm 4 c)=some (0,F4 K frm 5 c):=by
  refine Eq.trans (e 4) (eT rfl (eF rfl (eF rfl (eF rfl (eF rfl (eT rfl (eB hG ?_)))))));rfl
 have s5:I_ ME MR MG' MB MP MO MU MS MN MX MT MV N3 (F4 K frm 5 c)=some (1,Ql6 K frm 0 c):=by
  exact Eq.trans (e 5) (eF rfl rfl)
 unfold C6;by_cases h:c.g0=2
 ·rw[if_pos h];refine A3 (Eq.trans (e 0) (eT rfl (eT rfl (eB hU ?_)))) (by simp);rw[if_pos h];rfl
 rw[if_neg h,Bj (s0 h)];by_cases h:c.aI=0
 ·rw[if_neg (by simpa using h),Bj (s1 h)];by_cases h:c.aH=true/\c.aM=true
  ·rw[if_pos h];refine A3 (Eq.trans (e 2) (eT rfl (eF rfl (eF rfl (eT rfl (eB hP ?_)))))) (by simp);rw[if_pos h];rfl
  ·rw[if_neg h,Bj (s2 h)];cases h:c.on
   ·rw[if_neg (by simp),Bj (s3 h),Bj s4];exact A3 s5 (by simp)
   ·rw[if_pos rfl];refine A3 (Eq.trans (e 3) (eT rfl (eF rfl (eF rfl (eF rfl (eT rfl (eB hB ?_))))))) (by simp);rw[if_pos h];generalize Ck K c=wk;rfl
 ·rw[if_pos h];refine A3 (Eq.trans (e 1) (eT rfl (eF rfl (eT rfl (eB hO ?_))))) (by simp);rw[bnT h];rfl
theorem Z4u {K:Kf} {c:Cv} {n:Int} (h:KOK K) (g:Gd K n c):LH (Ad K c)=some (if c.on=true then I (Ck K c).1::B true::Ad K (Ck K c).2 else I 0::B false::Ad K c):=by
 have key:∀{M:Fn},(c.on=true->M (Ad K c)=some (I (Ck K c).1::Ad K (Ck K c).2))->Qjz M (Ad K c)=some (if c.on=true then I (Ck K c).1::B true::Ad K (Ck K c).2 else I 0::B false::Ad K c):=by
  intro M hM;rw[Ztl];cases e:c.on
  ·rw[if_neg (by simp)];rfl
  ·rw[if_pos rfl];have hM:=hM e;generalize Ck K c=wk at*;exact eB hM rfl
 exact key fun e=>Q7i h (g.task e).1 (g.task e).2
abbrev IB (c:Cv):Cv:={c with aJ:=false,aL:=false}
def BY (c:Cv) (E:List Evn):Cv:=E.foldl (fun c e=>evC c e.kind e.n) (IB c)
def O4 (E:List Evn):Prop:=E.length<=1000000/\∀e∈E,e.kind≠7/\e.kind≠12/\e.kind≠13
theorem Zhp {ME MR MG' MB MP MO MU MS MN MX MT MV:Fn} {K:Kf} {c:Cv} {E:List Evn} (hE:O4 E)
  (hV:∀(c:Cv) (x:Int) {k:Int} (n:Int),k≠7/\k≠12/\k≠13->MV (I x::I k::I n::Ad K c)=some (Ad K (evC c k n))):
  An (Si ME MR MG' MB MP MO MU MS MN MX MT MV) (.view kPt (E.map evR)::I (E.map evR).length::I 0::(Ej++Ad K (IB c)))=some (1,Ej++Ad K (BY c E)):=by
 have key:Out (fun o=>o=(1,Ej++Ad K (BY c E))) (An (Si ME MR MG' MB MP MO MU MS MN MX MT MV) (.view kPt (E.map evR)::I (E.map evR).length::I ((0:Nat):Int)::(Ej++Ad K (BY c (E.take 0))))):=by
  refine CB (fun i:Nat=> .view kPt (E.map evR)::I (E.map evR).length::I (i:Int)::(Ej++Ad K (BY c (E.take i)))) (fun i=>i<=E.length) (fun i=>E.length-i) _ ?_ 0 (by simp);intro i hi;have hl:=hE.1;refine Out.eqv (Z00 ME MR MG' MB MP MO MU MS MN MX MT MV (E.map evR) (E.map evR).length i [] [] 0 0 0 0 0 0 0 K (BY c (E.take i))) ?_;refine .cond (fun k=> ?_) fun k=> ?_
  ·have k:(i:Int)<((E.map evR).length:Int):=Bp k;have hi:i<E.length:=by rw[List.length_map]at k;omega
   refine .cond (fun _=> ?_) fun e=>(inB (by omega) k e).elim;rw[WX E hi];refine .bind (p:=fun o=>o=_) ⟨_,hV (BY c (E.take i)) E[i].cycle E[i].n (hE.2 _ (List.getElem_mem hi)),rfl⟩ fun o e=> ?_;subst e;have e1:BY c (E.take (i+1))=evC (BY c (E.take i)) E[i].kind E[i].n:=by
    unfold BY;rw[List.take_add_one,List.getElem?_eq_getElem hi,List.foldl_append];rfl
   rw[Ae (x:=(i:Int)+1) (by omega)];refine .some (.inl ⟨rfl,i+1,?_,by omega,by omega⟩);rw[e1];have st:∀d:Cv,Ej++cR 0 (Ad K d)=Ej++Ad K d:=fun _=>rfl;exact congrArg (fun z=>AC.view kPt (E.map evR)::I (E.map evR).length::I ((i:Int)+1)::z) (st (evC (BY c (E.take i)) E[i].kind E[i].n))
  ·have k: ¬(i:Int)<((E.map evR).length:Int):=Bt k;rw[List.length_map]at k;rw[List.take_of_length_le (by omega)];generalize BY c E=d;exact .some (.inr ⟨by simp,rfl⟩)
 obtain⟨o,h1,rfl⟩:=key;exact h1
def JF (K:Kf) (frm u:Int):Rw:=wA ((G0 (pxt K.p K.x K.t [I frm,I u])).getD []) 0
theorem Zx0 {K:Kf} (h:KOK K) (frm u:Int) (hd:u-frm<=1000000000000):Out (fun o=>wA o 0=JF K frm u) (G0 (pxt K.p K.x K.t [I frm,I u])):=
 ⟨_,Un (Z2i h.f frm u hd),rfl⟩
abbrev Nc (K:Kf) (c:Cv):Pt:=B4 K.p K.x K.t (AE c)
theorem Zud {MM MP MB MO MU:Fn} {K:Kf} {c:Cv} (hw:c.way=0) (hc:c.aL=false) {frm mode:Int}
  (hU:MU (Ad K c)=some [I (AE c)]) (hO:MO (Ad K c)=some [I (Bl K c)]) (hB:Out (fun o=>wA o 0=JF K frm (AE c)) (MB (pxt K.p K.x K.t [I frm,I (AE c)])))
  (hP:∀s,MP (I s::Ad K c)=some (.view Aa ((B1 K c s).1.map As)::Ad K (B1 K c s).2)) (hQ:∀s,∃n q:Int,(B1 K c s).2={c with aK:=n,outs:=q}) (hM:∀u,MM (pxt K.p K.x K.t [I u])=some (ptR (B4 K.p K.x K.t u))):
  VZ MM MP MB MO MU (I frm::(Ad K c++[.view kPt [], .view Aa [],I mode,I 0,I 0,I 0,I 0,I 0,I 0]))=
   some (Ad K (B1 K c (Bl K c)).2++O7 (JF K frm (AE c)) ((B1 K c (Bl K c)).1.map As) mode (Bl K c) (Nc K c) c.s3 c.g1):=by
 refine Eq.trans (Zk6 MM MP MB MO MU frm [] [] mode 0 0 0 0 0 0 K c) ?_;obtain⟨o,hB,ho⟩:=hB;rw[<-ho];refine eB hU (eB hO (eT (show(!c.aL)=true by rw[hc];rfl) (eB hB (eT (show(c.way==0)=true from beT hw) ?_))));have hP:=hP (Bl K c);obtain⟨n,q,hq⟩:=hQ (Bl K c);generalize B1 K c (Bl K c)=ps at*;refine eB hP ?_;rw[hq];refine eB (hM (AE c)) ?_;rw[show Nc K c=B4 K.p K.x K.t (AE c)from rfl];generalize B4 K.p K.x K.t (AE c)=mt;rfl
theorem ZD (K:Kf) (s:Int):∀(l:List Mrk) (c:Cv),∃n q:Int,(Ed K s l c).2={c with aK:=n,outs:=q}
 |[],c=>⟨c.aK,c.outs,rfl⟩
 |m::l,c=>by
  unfold Ed;split
  ·exact⟨c.aK,c.outs,rfl⟩
  ·split
   ·obtain⟨n,q,h⟩:=ZD K s l {c with outs:=swI c.outs (itK K m.item),aK:=c.aK+1};exact⟨n,q,h⟩
   ·obtain⟨n,q,h⟩:=ZD K s l {c with aK:=c.aK+1};exact⟨n,q,h⟩
theorem RA (K:Kf) (c:Cv) (s:Int):∃n q:Int,(B1 K c s).2={c with aK:=n,outs:=q}:=ZD K s _ c
theorem Z7a {K:Kf} {c:Cv} {n:Int} (h:KOK K) (g:Gd K n c) (hn:0<=n/\n<=10010) (hc:c.aL=false) {frm mode:Int} (hf: -300000000000<=frm/\frm<=300000000000):
  KM (I frm::(Ad K c++[.view kPt [], .view Aa [],I mode,I 0,I 0,I 0,I 0,I 0,I 0]))=
   some (Ad K (B1 K c (Bl K c)).2++O7 (JF K frm (AE c)) ((B1 K c (Bl K c)).1.map As) mode (Bl K c) (Nc K c) c.s3 c.g1):=
 Zud g.way hc (TX K c) (Sh h c) (Zx0 h frm (AE c) (by have:=Rg g hn;omega)) (fun s=>Z7s h g.pass s) (RA K c) (S9 h.f)
def El (c:Cv):Cv:=if c.aH=true\/c.g0≠0 then{c with o2:=true}else c
def Ce (c:Cv):Cv:={c with before:=c.s3}
def EN (K:Kf) (c:Cv):Cv:=if IH K c=true then c else spS c K.ramp
def J6 (c:Cv):Cv:={c with aM:=FA c}
def CA (K:Kf) (c:Cv) (E:List Evn):Cv:=J6 (EN K (Ce (El (BY c E))))
def stC (K:Kf) (c:Cv) (E:List Evn):Int×Cv:=if(C6 K (CA K c E)).1=0 then Dw K (C6 K (CA K c E)).2 else C6 K (CA K c E)
def Ch (K:Kf) (c:Cv) (E:List Evn):Cv:=(B1 K (stC K c E).2 (Bl K (stC K c E).2)).2
def Zt5 (K:Kf) (c:Cv) (E:List Evn):List Int:=(B1 K (stC K c E).2 (Bl K (stC K c E).2)).1
def tkC (K:Kf) (c:Cv) (E:List Evn):List AC:=
 O7 (JF K (AE (BY c E)) (AE (stC K c E).2)) ((Zt5 K c E).map As) (stC K c E).1 (Bl K (stC K c E).2) (Nc K (stC K c E).2) (stC K c E).2.s3 (stC K c E).2.g1
theorem Zrj {N16:Lp} {MR ME:Fn} {K:Kf} {d:Cv} {frm:Int} {o:Nat×List AC} (ho:∃e,o.2=Ej++Ad K e)
  (h16:N16 (F4 K frm 0 d)=some (1,Ql6 K frm (C6 K d).1 (C6 K d).2))
  (hR:(C6 K d).1=0->MR (Ad K (C6 K d).2)=some (I (Dw K (C6 K d).2).1::Ad K (Dw K (C6 K d).2).2))
  {s:Int×Cv} (hs:s=if(C6 K d).1=0 then Dw K (C6 K d).2 else C6 K d)
  {pul outs:Rw} {pos sp ft:Int} {mt:Pt} {q:Cv}
  (hE:ME (I frm::(Ad K s.2++[.view kPt [], .view Aa [],I s.1,I 0,I 0,I 0,I 0,I 0,I 0]))=some (Ad K q++O7 pul outs s.1 pos mt sp ft)):
  ID N16 o MR ME (I frm) (Ad K d)=some (O7 pul outs s.1 pos mt sp ft++Ad K q):=by
 obtain⟨o1,o2⟩:=o;obtain⟨e,ho⟩:=ho;dsimp only at ho;subst ho;refine eB h16 (eT rfl ?_);generalize C6 K d=r at*;generalize Dw K r.2=w at*;by_cases h:r.1=0
 ·rw[if_pos h]at hs;subst hs;refine eT (show(r.1==0)=true from beT h) (eB (hR h) (eB hE rfl))
 ·rw[if_neg h]at hs;subst hs;exact eF (show(s.1==0)=false from beF h) (eB hE rfl)
end Go.Bm
