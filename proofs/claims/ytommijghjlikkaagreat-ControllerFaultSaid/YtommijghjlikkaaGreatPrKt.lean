/- laid together -/
import Derived.Test.YtommijghjlikkaaGreatPrPd
import Derived.Test.YtommijghjlikkaaGreatPrAtF
import Derived.Test.YtommijghjlikkaaGreatPrOv
import Derived.Test.YtommijghjlikkaaGreatPrLb
import Derived.Test.YtommijghjlikkaaGreatMx2
import Derived.Test.YtommijghjlikkaaGreatPrMo
set_option linter.unusedVariables false
set_option linter.unusedSimpArgs false
set_option maxRecDepth 100000
namespace Go.Bm
open Classical
theorem Zol (a:Pt) (segs:List Sgm):segs=[]\/∃l g,segs=l++[g]/\Fb a segs=g.to/\((segs.length:Int)>0)/\nth [] (segs.map Ay) (segs.length-1)=Ay g:=by
 rcases List.eq_nil_or_concat segs with h|⟨l,g,h⟩
 ·exact .inl h
 ·right;rw[List.concat_eq_append]at h;refine⟨l,g,h,?_,?_,?_⟩
  ·rw[h];exact RB g a l
  ·rw[h];simp
  ·have hl:segs.length-1<segs.length:=by rw[h];simp
   rw[IW _ _ _ _ hl];congr 1;subst h;simp
theorem Q82 {ML:Fn} {marks:Rw} {q g st:Pt} {gl item feed lead len sp mid:Int}:
  Tt ML [.view Ah [], .view AD marks,I q.x,I q.y,I q.z,I g.x,I g.y,I g.z,I gl,I item,I feed,I lead,I st.x,I st.y,I st.z,B false,I len,I sp,I mid]=
   some [.view Ah [], .view AD marks,I q.x,I q.y,I q.z,B true,I len,I sp,I mid]:=by
 rw[Qw1];simp
theorem Zbo {ML:Fn} {segs:List Sgm} {marks:Rw} {q g st at_:Pt} {gl item feed lead len sp mid:Int} (hat:Fb st segs=at_)
  (hL:ML [I at_.x,I at_.y,I at_.z,I q.x,I q.y,I q.z]=some [I (AB at_ q)]) (hl:0<=AB at_ q/\AB at_ q<=268435456) (hs:segs.length+1<=1048577) (hlen:0<=len/\len<=4000000000000000000):
  Tt ML [.view Ah (segs.map Ay), .view AD marks,I q.x,I q.y,I q.z,I g.x,I g.y,I g.z,I gl,I item,I feed,I lead,I st.x,I st.y,I st.z,B true,I len,I sp,I mid]=
   some [.view Ah ((A7 item feed lead (segs,len,at_) q).1.map Ay), .view AD marks,I st.x,I st.y,I st.z,B true,I (A7 item feed lead (segs,len,at_) q).2.1,I sp,I mid]:=by
 have hap:(segs.map Ay++[[I q.x,I q.y,I q.z,I (AB at_ q),I item,I feed,I lead]])=(segs++[(⟨q,AB at_ q,item,feed,lead⟩:Sgm)]).map Ay:=by rw[List.map_append];rfl
 rw[Qw1];try dsimp only[go_sem]
 rcases Zol st segs with h|⟨l,s,h1,h2,h3,h4⟩
 ·subst h;have hat':st=at_:=hat;subst hat';simp only[List.map_nil,List.length_nil];rw[AX (by decide),Bool.not_true,cond_false];by_cases c:q=st
  ·have c4:=D8.1 c;rw[Br (by simp[c4.1,c4.2.1,c4.2.2]),show A7 item feed lead ([],len,st) q=([],len,st)from if_pos c];rfl
  ·rw[Ba,hL]
   ·simp only[Option.bind_some,Hu,HB,gA,jA,wA,bA,List.nil_append,List.length_cons,List.length_nil];rw[Br (by decide),show A7 item feed lead ([],len,st) q=([⟨q,AB st q,item,feed,lead⟩],len+AB st q,q)from if_neg c,Ae (by omega)];rfl
   ·have c2: ¬(q.x=st.x/\q.y=st.y/\q.z=st.z):=fun g=>c (D8.2 g);simp only[Bool.and_true,Bool.and_eq_false_iff,beq_eq_false_iff_ne];omega
 ·rw[hat]at h2;have w1:IntKind.i64.wrap ((segs.length:Int)-1)=((segs.length-1:Nat):Int):=by rw[Ae (by omega)];omega
  have hin:(0:Int)<=((segs.length-1:Nat):Int)/\((segs.length-1:Nat):Int)<(segs.length:Int):=by omega
  rw[h2]at hL hap⊢;clear h1;simp only[go_sem,List.length_map,w1,Int.toNat_natCast,h4,if_pos h3,if_pos hin,hL,List.length_append,List.length_cons,List.length_nil];rw[if_neg (by simp)];by_cases c:q=s.to
  ·have c4:=D8.1 c;rw[if_pos ⟨c4.1,c4.2.1,c4.2.2,trivial⟩,show A7 item feed lead (segs,len,s.to) q=(segs,len,s.to)from if_pos c]
  ·rw[if_neg (fun g=>c (D8.2 ⟨g.1,g.2.1,g.2.2.1⟩)),if_pos (by omega),show A7 item feed lead (segs,len,s.to) q=(segs++[⟨q,AB s.to q,item,feed,lead⟩],len+AB s.to q,q)from if_neg c,Ae (by rw[<-h2]at*;omega),hap]
noncomputable def DE (it:Itm) (item feed lead:Int) (s:(List Sgm×Int×Pt)×Int) (q:Pt):(List Sgm×Int×Pt)×Int:=
 (A7 item feed lead s.1 q,if smI it/\q=A9 it then(A7 item feed lead s.1 q).2.1 else s.2)
theorem Qkn {it:Itm} {item feed lead:Int}:∀(pts:List Pt) (s:(List Sgm×Int×Pt)×Int),(pts.foldl (DE it item feed lead) s).1=pts.foldl (A7 item feed lead) s.1
 |[],_=>rfl
 |q::pts,s=>by rw[List.foldl_cons,List.foldl_cons,Qkn pts];rfl
theorem Qw3 {MM MSm MA MP MG MR:Fn} {it:Itm} {pts:List Pt} {j:Nat} (hj:j<pts.length) (hpl:pts.length<=1000000) {segs segs':Rw} {marks:Rw} {g st st':Pt} {b b':Bool} {gl item feed lead len len' sp mid:Int}
  (hM:MSm (Ag it)=some [B (decide (smI it))]) (hC:MM (Ag it)=some (ptR (A9 it)))
  (hA:MA [.view Ah segs, .view AD marks,I pts[j].x,I pts[j].y,I pts[j].z,I g.x,I g.y,I g.z,I gl,I item,I feed,I lead,I st.x,I st.y,I st.z,B b,I len,I sp,I mid]=some [.view Ah segs', .view AD marks,I st'.x,I st'.y,I st'.z,B b',I len',I sp,I mid]):
  Lc MM MSm MA MP MG MR (.view Ah segs:: .view AD marks:: .view kPt (pts.map ptR)::I pts.length::I j::(Ag it++[I g.x,I g.y,I g.z,I gl,I item,I feed,I lead,I st.x,I st.y,I st.z,B b,I len,I sp,I mid]))=
   some (0, .view Ah segs':: .view AD marks:: .view kPt (pts.map ptR)::I pts.length::I (j+1:Nat)::(Ag it++[I g.x,I g.y,I g.z,I gl,I item,I feed,I lead,I st'.x,I st'.y,I st'.z,B b',I len',I sp,I (if smI it/\pts[j]=A9 it then len' else mid)])):=by
 have hr:nth [] (pts.map ptR) j=ptR pts[j]:=IW _ _ _ _ hj;have hin:(0:Int)<=(j:Int)/\(j:Int)<(pts.length:Int):=by omega
 have hw:IntKind.i64.wrap ((j:Int)+1)=((j+1:Nat):Int):=by rw[Ae (by omega)];omega
 generalize pts[j]=q at*;simp only[Ag]at hM hC;simp only[Ag,List.cons_append,List.nil_append];rw[Q15];simp only[go_sem,List.length_map,Int.toNat_natCast,hr,if_pos hin,hA,hM,hC,hw];rw[if_pos (by omega)];by_cases c:smI it
 ·rw[if_pos c];by_cases c2:q=A9 it
  ·have c3:=D8.1 c2;rw[if_pos ⟨c3.1,c3.2.1,c3.2.2,trivial⟩,if_pos ⟨c,c2⟩]
  ·rw[if_neg (fun h=>c2 (D8.2 ⟨h.1,h.2.1,h.2.2.1⟩)),if_neg (fun h=>c2 h.2)]
 ·rw[if_neg c,if_neg (fun h=>c h.1)]
theorem Yy {MM MSm MA MP MG MR:Fn} {it:Itm} {pts:List Pt} (hpl:pts.length<=1000000) {marks:Rw} {g st:Pt} {gl item feed lead sp:Int} (hst:bd 67108864 st) (hpts:∀p∈pts,bd 67108864 p)
  (hM:MSm (Ag it)=some [B (decide (smI it))]) (hC:MM (Ag it)=some (ptR (A9 it)))
  (hA : ∀ {segs : List Sgm} {q at_ : Pt} {len mid : Int}, Fb st segs = at_ -> bd 67108864 at_ -> bd 67108864 q -> segs.length + 1 <= 1048577 -> (0 <= len /\ len <= 4000000000000000000) ->
   MA [.view Ah (segs.map Ay), .view AD marks,I q.x,I q.y,I q.z,I g.x,I g.y,I g.z,I gl,I item,I feed,I lead,I st.x,I st.y,I st.z,B true,I len,I sp,I mid]=
   some [.view Ah ((A7 item feed lead (segs,len,at_) q).1.map Ay), .view AD marks,I st.x,I st.y,I st.z,B true,I (A7 item feed lead (segs,len,at_) q).2.1,I sp,I mid]):
  ∀(k j:Nat) (s:List Sgm×Int×Pt) (mid:Int),j+k=pts.length->s.1.length+k<=1048576->0<=s.2.1->s.2.1+k*268435456<=4000000000000000000->bd 67108864 s.2.2->Fb st s.1=s.2.2->
  An (Lc MM MSm MA MP MG MR) (.view Ah (s.1.map Ay):: .view AD marks:: .view kPt (pts.map ptR)::I pts.length::I j::(Ag it++[I g.x,I g.y,I g.z,I gl,I item,I feed,I lead,I st.x,I st.y,I st.z,B true,I s.2.1,I sp,I mid]))=
   some (1,[.view Ah (((pts.drop j).foldl (DE it item feed lead) (s,mid)).1.1.map Ay), .view AD marks,I st.x,I st.y,I st.z,B true,I ((pts.drop j).foldl (DE it item feed lead) (s,mid)).1.2.1,I sp,I ((pts.drop j).foldl (DE it item feed lead) (s,mid)).2])
 |0,j,s,mid,hj,_,_,_,_,_=>by
  refine A5 ?_ (by simp);simp only[Ag,List.cons_append,List.nil_append];rw[Q15,AX (by omega),List.drop_of_length_le (by omega)];rfl
 |k+1,j,s,mid,hj,hs,hl0,hl1,hat,he=>by
  have hlt:j<pts.length:=by omega
  have hq:=hpts _ (List.getElem_mem hlt);obtain⟨segs,len,at_⟩:=s;simp only at hs hl0 hl1 hat he;have ha:=hA (q:=pts[j]) (mid:=mid) he hat hq (by omega) (by constructor<;>omega);have hstep:=Qw3 (MP:=MP) (MG:=MG) (MR:=MR) hlt hpl hM hC ha;have hinv:Fb st (A7 item feed lead (segs,len,at_) pts[j]).1=(A7 item feed lead (segs,len,at_) pts[j]).2.2/\bd 67108864 (A7 item feed lead (segs,len,at_) pts[j]).2.2/\
    (A7 item feed lead (segs,len,at_) pts[j]).1.length<=segs.length+1/\0<=(A7 item feed lead (segs,len,at_) pts[j]).2.1/\(A7 item feed lead (segs,len,at_) pts[j]).2.1<=len+268435456:=by
   have hl:=Ih hat hq;unfold A7;split
   ·exact⟨he,hat,by simp,hl0,by simp only;omega⟩
   ·refine⟨RB _ _ _,hq,by simp,?_,?_⟩<;>simp only<;>omega
  rw[Bv hstep];obtain⟨i1,i2,i3,i4,i5⟩:=hinv;have:=Yy (MP:=MP) (MG:=MG) (MR:=MR) hpl hst hpts hM hC hA k (j+1) (A7 item feed lead (segs,len,at_) pts[j]) (if smI it/\pts[j]=A9 it then(A7 item feed lead (segs,len,at_) pts[j]).2.1 else mid) (by omega) (by omega) i4 (by omega) i2 i1;rw[this,NB pts j hlt,List.foldl_cons];rfl
theorem Ze0 {it:Itm} (h:Dp it):∃l,CM it=Ax it.fr::l:=by
 unfold CM;by_cases h3:it.kind=3
 ·rw[if_pos h3];unfold DO;rw[List.map_cons];refine⟨(DK it.dir 16 it.full (Ed it it.fr) (Ed it it.to)).map (IX it),?_⟩;congr 1;obtain⟨hp,-,hc,-⟩:=h.2.2.2 h3;obtain⟨f1,f2,f3⟩:=Tl it.plane it.ce;unfold IX Ed;simp only[f1,f2];unfold dU dW;have e1:plU it.plane it.ce*16+(plU it.plane it.fr-plU it.plane it.ce)*16=plU it.plane it.fr*16:=by omega
  have e2:plW it.plane it.ce*16+(plW it.plane it.fr-plW it.plane it.ce)*16=plW it.plane it.fr*16:=by omega
  rw[e1,e2];unfold spP plU plW plH Ax;rcases hp with hp|hp|hp<;>rw[hp]<;>rfl
 ·rw[if_neg h3];exact⟨_,rfl⟩
theorem Zlo {items:List Itm} {i:Nat} (h:Dp (itA items i)):∃l,Cn items i (-1)=Ax (itA items i).fr::l:=by
 obtain⟨l,hl⟩:=Ze0 h;unfold Cn;split
 ·unfold II;rw[if_neg (by omega),hl];exact⟨_,rfl⟩
 ·exact⟨l,hl⟩
noncomputable def Fe (items:List Itm) (i:Nat) (s:BSt) (mid:Int):(List Sgm×Int×Pt)×Int:=
 (Cn items i s.frm).foldl (DE (itA items i) i (Hz (itA items i) s.speed) (NX (itA items i))) ((s.segs,s.len,if s.begun=true then s.at_ else Ax (itA items i).fr),mid)
theorem Qts (items:List Itm) (i:Nat) (s:BSt) (mid:Int):(Fe items i s mid).1=FM items i s:=by
 unfold Fe FM;rw[Qkn]
theorem Zzx {MM MSm MA MP MG MR:Fn} {items:List Itm} {i:Nat} {s:BSt} {marks:Rw} {mid:Int} (hi:i<items.length) (hlen:items.length<=15) (hv:Dp (itA items i)) (hok:BOK items i s) (hinv:BInv s)
  (hpts:(∀p∈Cn items i s.frm,bd 67108864 p)/\(Cn items i s.frm).length<=65537)
  (hfeed:syI (itA items i)->0<=(itA items i).feed/\(itA items i).feed<=60000000) (hfrm:s.begun=false->s.frm= -1)
  (hM:MSm (Ag (itA items i))=some [B (decide (smI (itA items i)))]) (hC:MM (Ag (itA items i))=some (ptR (A9 (itA items i))))
  (hG:MG (Ag (itA items i))=some [B (decide (syI (itA items i)))]) (hR:MR (Ag (itA items i)++[I s.speed])=some [I (Hz (itA items i) s.speed)])
  (hP:MP [.view Ak (items.map Ag),I i,I s.frm]=some [.view kPt ((Cn items i s.frm).map ptR)])
  (hA : ∀ {segs : List Sgm} {q g st at_ : Pt} {gl item feed lead len mid : Int}, Fb st segs = at_ -> bd 67108864 at_ -> bd 67108864 q -> segs.length + 1 <= 1048577 -> (0 <= len /\ len <= 4000000000000000000) ->
   MA [.view Ah (segs.map Ay), .view AD marks,I q.x,I q.y,I q.z,I g.x,I g.y,I g.z,I gl,I item,I feed,I lead,I st.x,I st.y,I st.z,B true,I len,I s.speed,I mid]=
   some [.view Ah ((A7 item feed lead (segs,len,at_) q).1.map Ay), .view AD marks,I st.x,I st.y,I st.z,B true,I (A7 item feed lead (segs,len,at_) q).2.1,I s.speed,I mid])
  (hA0 : ∀ {q g st : Pt} {gl item feed lead len mid : Int}, MA [.view Ah [], .view AD marks, I q.x, I q.y, I q.z, I g.x, I g.y, I g.z, I gl, I item, I feed, I lead, I st.x, I st.y, I st.z, B false, I len, I s.speed, I mid] =
   some [.view Ah [], .view AD marks,I q.x,I q.y,I q.z,B true,I len,I s.speed,I mid]):
  VL MM MSm MA MP MG MR (An (Lc MM MSm MA MP MG MR)) [.view Ah (s.segs.map Ay), .view AD marks, .view Ak (items.map Ag),I i,I s.frm,I s.start.x,I s.start.y,I s.start.z,B s.begun,I s.len,I s.speed,I mid]=
   some [.view Ah ((Fe items i s mid).1.1.map Ay), .view AD marks,B true,I (if s.begun=true then s.start else Ax (itA items i).fr).x,I (if s.begun=true then s.start else Ax (itA items i).fr).y,I (if s.begun=true then s.start else Ax (itA items i).fr).z,B true,I (Fe items i s mid).1.2.1,I s.speed,I (Fe items i s mid).2]:=by
 have hr:=E_ hi;have hin:(0:Int)<=(i:Int)/\(i:Int)<(items.length:Int):=by omega
 have hsg:=hok.segs;have hln:=hok.len
 have hloop:∀lead feed:Int,An (Lc MM MSm MA MP MG MR) (.view Ah (s.segs.map Ay):: .view AD marks:: .view kPt ((Cn items i s.frm).map ptR)::I (Cn items i s.frm).length::I (0:Nat)::(Ag (itA items i)++[I (⟨0,0,0⟩:Pt).x,I (⟨0,0,0⟩:Pt).y,I (⟨0,0,0⟩:Pt).z,I 0,I i,I feed,I lead,I s.start.x,I s.start.y,I s.start.z,B s.begun,I s.len,I s.speed,I mid]))=
   some (1, [.view Ah (((Cn items i s.frm).foldl (DE (itA items i) i feed lead) ((s.segs, s.len, if s.begun = true then s.at_ else Ax (itA items i).fr), mid)).1.1.map Ay), .view AD marks, I (if s.begun = true then s.start else Ax (itA items i).fr).x, I (if s.begun = true then s.start else Ax (itA items i).fr).y, I (if s.begun = true then s.start else Ax (itA items i).fr).z, B true,
    I ((Cn items i s.frm).foldl (DE (itA items i) i feed lead) ((s.segs,s.len,if s.begun=true then s.at_ else Ax (itA items i).fr),mid)).1.2.1,I s.speed,I ((Cn items i s.frm).foldl (DE (itA items i) i feed lead) ((s.segs,s.len,if s.begun=true then s.at_ else Ax (itA items i).fr),mid)).2]):=by
  intro lead feed;by_cases hb:s.begun=true
  ·obtain⟨g1,g2⟩:=hinv.begun hb;obtain⟨g3,g4,g5⟩:=g2;rw[if_pos hb,if_pos hb,hb];have:=Yy (MP:=MP) (MG:=MG) (MR:=MR) (g:=⟨0,0,0⟩) (gl:=0) (item:=i) (feed:=feed) (lead:=lead) (by omega) g1 hpts.1 hM hC (fun h1 h2 h3 h4 h5=>hA h1 h2 h3 h4 h5) (Cn items i s.frm).length 0 (s.segs,s.len,s.at_) mid (by omega) (by simp only;omega) hln.1 (by simp only;omega) (hok.at_ hb) g4;rw[List.drop_zero]at this;exact this
  ·have hb2:s.begun=false:=by simpa using hb
   obtain⟨e1,e2,e3⟩:=hinv.empty hb2;obtain⟨l,hl⟩:=Zlo hv;have hfr:bd 67108864 (Ax (itA items i).fr):=AV (Ff hv.2.1) (by decide);rw[if_neg hb,if_neg hb,hb2,e1];rw[hfrm hb2,hl]at hpts⊢;have h0:0<(Ax (itA items i).fr::l).length:=by simp
   have hstep:=Qw3 (MP:=MP) (MG:=MG) (MR:=MR) h0 (by omega) hM hC (hA0 (q:=Ax (itA items i).fr) (g:=⟨0,0,0⟩) (st:=s.start) (gl:=0) (item:=i) (feed:=feed) (lead:=lead) (len:=s.len) (mid:=mid));rw[List.map_nil,Bv hstep];have:=Yy (MP:=MP) (MG:=MG) (MR:=MR) (g:=⟨0,0,0⟩) (gl:=0) (item:=i) (feed:=feed) (lead:=lead) (by omega) hfr hpts.1 hM hC (fun h1 h2 h3 h4 h5=>hA h1 h2 h3 h4 h5) l.length 1 ([],s.len,Ax (itA items i).fr) (if smI (itA items i)/\Ax (itA items i).fr=A9 (itA items i)then s.len else mid) (by simp;omega) (by simp only[List.length_nil];simp at hpts;omega) hln.1 (by simp only;simp at hpts;omega) hfr rfl;rw[List.drop_succ_cons,List.drop_zero]at this;rw[List.foldl_cons];have e4:DE (itA items i) i feed lead (([],s.len,Ax (itA items i).fr),mid) (Ax (itA items i).fr)=(([],s.len,Ax (itA items i).fr),if smI (itA items i)/\Ax (itA items i).fr=A9 (itA items i)then s.len else mid):=by
    unfold DE;rw[show A7 i feed lead ([],s.len,Ax (itA items i).fr) (Ax (itA items i).fr)=([],s.len,Ax (itA items i).fr)from if_pos rfl]
   rw[e4];exact this
 have hcount:∀lead feed:Int,((Cn items i s.frm).foldl (DE (itA items i) i feed lead) ((s.segs,s.len,if s.begun=true then s.at_ else Ax (itA items i).fr),mid)).1.1.length<=1048576:=by
  intro lead feed;rw[Qkn];have hat:bd 67108864 (if s.begun=true then s.at_ else Ax (itA items i).fr):=by
   split
   ·rename_i hb;exact hok.at_ hb
   ·exact AV (Ff hv.2.1) (by decide)
  have:=(S4 (item:=i) (feed:=feed) (lead:=lead) (Cn items i s.frm) (s.segs,s.len,if s.begun=true then s.at_ else Ax (itA items i).fr) hpts.1 hat hln.1).1;simp only at this⊢;omega
 generalize An (Lc MM MSm MA MP MG MR)=N at*;have hlp:=fun lead feed=>hloop lead feed;simp only[Ag,List.cons_append,List.nil_append]at hG hR hlp;rw[Zhu];simp only[go_sem,List.length_map,Int.toNat_natCast,hr,if_pos hin,hG,hR,hP];have h00:((0:Nat):Int)=0:=rfl;simp only[h00]at hlp;unfold Fe NX;by_cases hs:syI (itA items i)
 ·have hf:=hfeed hs;rw[if_pos hs];simp only[if_pos hs];rw[Ae (by omega)];simp only[hlp,go_sem,List.length_map];rw[decide_eq_true (show((_:Nat):Int)<=1048576 from by have:=hcount (mn ((itA items i).feed*16) 16777216) (Hz (itA items i) s.speed);omega)]
 ·rw[if_neg hs];simp only[if_neg hs];simp only[hlp,go_sem,List.length_map];rw[decide_eq_true (show((_:Nat):Int)<=1048576 from by have:=hcount 0 (Hz (itA items i) s.speed);omega)]
end Go.Bm
namespace Go.Bm
open Classical
theorem WU {MK MV MN MS MM MC:Fn} {items:List Itm} (hM:∀k:Int,MM [I k]=some [B (decide (1<=k/\k<=6))]) (hW:∀it,MC (Ag it)=some [I (if Cd it then 1 else 0)]) (hl:items.length<=1000000):
  ∀(k i:Nat) (last:Int),i+k=items.length->(last= -1\/(0<=last/\last<i))->
  (An (Pv MK MV MN MS MM MC) [.view Ah [], .view AD [], .view Ak (items.map Ag),I last, .view Ak (items.map Ag),I items.length,I i,I 0,I 0,I 0,B false,I 0,I 0,I 0]=some (1,[.view Ah [], .view AD [],I (Gn items k i last),I 0,I 0,I 0,B false,I 0,I 0,I 0])/\Gn items k i last≠0)\/
  (An (Pv MK MV MN MS MM MC) [.view Ah [], .view AD [], .view Ak (items.map Ag),I last, .view Ak (items.map Ag),I items.length,I i,I 0,I 0,I 0,B false,I 0,I 0,I 0]=some (2,[.view Ah [], .view AD [], .view Ak (items.map Ag),I 0,I 0,I 0,B false,I 0,I 0,I 0])/\Gn items k i last=0)
 |0,i,last,hi,_=>by
  right;refine⟨A5 ?_ (by simp),rfl⟩;rw[Q2k,AX (by omega)]
 |k+1,i,last,hi,hla=>by
  have hlt:i<items.length:=by omega
  have hr:=E_ hlt;have hw:=hW (itA items i);have hm:=hM (itA items i).kind;have hin:(0:Int)<=(i:Int)/\(i:Int)<(items.length:Int):=by omega
  have hst:Pv MK MV MN MS MM MC [.view Ah [], .view AD [], .view Ak (items.map Ag),I last, .view Ak (items.map Ag),I items.length,I i,I 0,I 0,I 0,B false,I 0,I 0,I 0]=
    if Cd (itA items i)then some (1,[.view Ah [], .view AD [],I 1,I 0,I 0,I 0,B false,I 0,I 0,I 0])else if AF (itA items i)then(if 0<=last/\(itA items last.toNat).to≠(itA items i).fr then some (1,[.view Ah [], .view AD [],I 13,I 0,I 0,I 0,B false,I 0,I 0,I 0])else some (0,[.view Ah [], .view AD [], .view Ak (items.map Ag),I i, .view Ak (items.map Ag),I items.length,I (i+1:Nat),I 0,I 0,I 0,B false,I 0,I 0,I 0]))
    else some (0,[.view Ah [], .view AD [], .view Ak (items.map Ag),I last, .view Ak (items.map Ag),I items.length,I (i+1:Nat),I 0,I 0,I 0,B false,I 0,I 0,I 0]):=by
   rw[Q2k];simp only[Ag]at hw;simp only[go_sem,List.length_map,Int.toNat_natCast,hr,hw,hm,if_pos hin];rw[if_pos (by omega),Ae (by omega)];by_cases c1:Cd (itA items i)
   ·simp only[if_pos c1];rw[if_pos (by omega)]
   simp only[if_neg c1];rw[if_neg (by simp)];by_cases c2:AF (itA items i)
   ·rw[if_neg (fun h=>h c2),if_pos c2];rcases hla with rfl|⟨h1,h2⟩
    ·rw[if_neg (show¬(-1:Int)>=0 by omega),if_neg (fun h=>by omega)];rfl
    ·obtain⟨L,rfl⟩:=Int.eq_ofNat_of_zero_le h1;have hL:L<items.length:=by omega
     have hin2:(0:Int)<=(L:Int)/\(L:Int)<(items.length:Int):=by omega
     have hr2:=E_ hL;simp only[Int.toNat_natCast,hr2,go_sem,if_pos hin2];rw[if_pos (by omega)];by_cases c3:(itA items L).to=(itA items i).fr
     ·have c4:=D8.1 c3;rw[if_neg (fun h=>h ⟨c4.1,c4.2.1,c4.2.2,trivial⟩),if_neg (fun h=>h.2 c3)];rfl
     ·rw[if_pos (fun h=>c3 (D8.2 ⟨h.1,h.2.1,h.2.2.1⟩)),if_pos ⟨h1,c3⟩]
   ·rw[if_pos (show¬(1<=(itA items i).kind/\(itA items i).kind<=6)from c2),if_neg c2];rfl
  unfold Gn;by_cases c1:Cd (itA items i)
  ·rw[if_pos c1]at hst⊢;exact .inl ⟨A5 hst (by simp),by simp⟩
  ·rw[if_neg c1]at hst⊢;by_cases c2:AF (itA items i)
   ·rw[if_pos c2]at hst⊢;by_cases c3:0<=last/\(itA items last.toNat).to≠(itA items i).fr
    ·rw[if_pos c3]at hst⊢;exact .inl ⟨A5 hst (by simp),by simp⟩
    ·rw[if_neg c3]at hst⊢;rw[Bv hst];exact WU hM hW hl k (i+1) i (by omega) (.inr (by omega))
   ·rw[if_neg c2]at hst⊢;rw[Bv hst];exact WU hM hW hl k (i+1) last (by omega) (by omega)
noncomputable def F7 (items:List Itm):Nat->Int
 |0=> -1
 |i+1=>if AF (itA items i)then i else F7 items i
theorem Qv7 (items:List Itm):∀i,F7 items i= -1\/∃L:Nat,F7 items i=L/\L<i/\AF (itA items L)/\∀j,L<j->j<i-> ¬AF (itA items j)
 |0=> .inl rfl
 |i+1=>by
  unfold F7;by_cases c:AF (itA items i)
  ·rw[if_pos c];exact .inr ⟨i,rfl,by omega,c,fun j h1 h2=>by omega⟩
  ·rw[if_neg c];rcases Qv7 items i with h|⟨L,h1,h2,h3,h4⟩
   ·exact .inl h
   ·refine .inr ⟨L,h1,by omega,h3,fun j g1 g2=> ?_⟩;by_cases e:j=i
    ·rw[e];exact c
    ·exact h4 j g1 (by omega)
theorem Qtt (items:List Itm):∀i,(Aw items i).frm=if 0<=F7 items i/\0<=B8 items (F7 items i).toNat then F7 items i else-1
 |0=>by rw[Aw,F7,if_neg (by omega)]
 |i+1=>by
  rw[Aw,F7];unfold FG;by_cases c:AF (itA items i)
  ·rw[if_pos c,if_pos c];simp only[Int.toNat_natCast];by_cases c2:0<=B8 items i
   ·rw[if_pos c2,if_pos ⟨by omega,c2⟩]
   ·rw[if_neg c2,if_neg (fun h=>c2 h.2)]
  ·rw[if_neg c,if_neg c];exact Qtt items i
theorem Z3i {items:List Itm} {i L:Nat} (hL:L<i) (hi:i<items.length) (hm:AF (itA items i)) (hno:∀j,L<j->j<i-> ¬AF (itA items j)) (hs:0<=B8 items L):C_ items L=i:=by
 have h1:=Rt hs;rcases Qe4 items L with h|⟨-,-,k,k1,k2,k3,k4,k5⟩
 ·omega
 ·have hk:C_ items L=k:=by omega
  rw[hk];rcases Nat.lt_trichotomy k i with h|h|h
  ·exact absurd ⟨by have:=k4.1;omega,by have:=k4.1;omega⟩ (hno k k2 h)
  ·exact h
  ·have:=k5 i hL h;have:=hm.2;omega
noncomputable def CG (items:List Itm):Nat->Int
 |0=>0
 |i+1=>if AF (itA items i)then(Fe items i (Aw items i) (CG items i)).2 else CG items i
theorem Qui (items:List Itm):∀i,(Aw items i).begun=false->(Aw items i).frm= -1
 |0,_=>by rw[Aw]
 |i+1,h=>by
  rw[Aw]at h⊢;unfold FG at h⊢;by_cases c:AF (itA items i)
  ·rw[if_pos c]at h;cases h
  ·rw[if_neg c]at h⊢;exact Qui items i h
noncomputable abbrev pbR (items:List Itm) (i:Nat):List AC:=
 [.view Ah ((Aw items i).segs.map Ay), .view AD ((Aw items i).marks.map At), .view Ak (items.map Ag),I (F7 items i), .view Ak (items.map Ag),I items.length,I i,I (Aw items i).start.x,I (Aw items i).start.y,I (Aw items i).start.z,B (Aw items i).begun,I (Aw items i).len,I (Aw items i).speed,I (CG items i)]
theorem Z3z {MK MV MN MS MM MC:Fn} {N6:Lp} {items:List Itm} {i:Nat} (hi:i<items.length) (hlen:items.length<=15) (hmk:(Aw items i).marks.length=i)
  (hM:∀k:Int,MM [I k]=some [B (decide (1<=k/\k<=6))]) (hS:∀L:Nat,L<items.length->MS [.view Ak (items.map Ag),I L]=some [B (decide (0<=B8 items L))]) (hN:∀L:Nat,L<items.length->MN [.view Ak (items.map Ag),I L]=some [I (C_ items L)])
  (hV : AF (itA items i) -> MV [.view Ah ((Aw items i).segs.map Ay), .view AD ((Aw items i).marks.map At), .view Ak (items.map Ag), I i, I (Aw items i).frm, I (Aw items i).start.x, I (Aw items i).start.y, I (Aw items i).start.z, B (Aw items i).begun, I (Aw items i).len, I (Aw items i).speed, I (CG items i)] =
   some [.view Ah ((Fe items i (Aw items i) (CG items i)).1.1.map Ay), .view AD ((Aw items i).marks.map At),B true,I (if(Aw items i).begun=true then(Aw items i).start else Ax (itA items i).fr).x,I (if(Aw items i).begun=true then(Aw items i).start else Ax (itA items i).fr).y,I (if(Aw items i).begun=true then(Aw items i).start else Ax (itA items i).fr).z,B true,
    I (Fe items i (Aw items i) (CG items i)).1.2.1,I (Aw items i).speed,I (Fe items i (Aw items i) (CG items i)).2])
  (hK : ∀ {segs : Rw} {st : Pt} {b : Bool} {len sp mid : Int}, MK [.view Ah segs, .view AD ((Aw items i).marks.map At), .view Ak (items.map Ag), I i, I st.x, I st.y, I st.z, B b, I len, I sp, I mid] =
   some [.view Ah segs, .view AD (((Aw items i).marks++[(⟨len,JT items i,i⟩:Mrk)]).map At),I st.x,I st.y,I st.z,B b,I len,I sp,I mid]):
  Pp MK MV MN MS MM MC N6 (pbR items i)=some (0,pbR items (i+1)):=by
 have hr:=E_ hi;have hin:(0:Int)<=(i:Int)/\(i:Int)<(items.length:Int):=by omega
 have hw:IntKind.i64.wrap ((i:Int)+1)=((i+1:Nat):Int):=by rw[Ae (by omega)];omega
 have hf:=Qtt items i;have hls:=Qv7 items i;have hfst:=Qts items i (Aw items i) (CG items i);have e1:F7 items (i+1)=if AF (itA items i)then(i:Int)else F7 items i:=rfl;have e2:CG items (i+1)=if AF (itA items i)then(Fe items i (Aw items i) (CG items i)).2 else CG items i:=rfl;have e3:Aw items (i+1)=FG items i (Aw items i):=rfl;unfold pbR;rw[e1,e2,e3];generalize Aw items i=s at*;generalize F7 items i=last at*;generalize hmi:CG items i=mid at*;unfold FG;rw[Qvv];by_cases hm:AF (itA items i)
 ·have h8: ¬(itA items i).kind=8:=fun h=>by have:=hm.2;omega
  have hV:=hV hm;have hmk2:JT items i=Sd items i:=if_pos hm;rw[if_pos hm,if_pos hm,if_pos hm];rw[hfst]at hV;have hM2:MM [I (itA items i).kind]=some [B true]:=by rw[hM,decide_eq_true (show 1<=(itA items i).kind/\(itA items i).kind<=6 from hm)]
  simp only[go_sem,List.length_map,Int.toNat_natCast,hr,if_pos hin,hM2];rw[if_pos (by omega),if_neg h8];have hbef:∀{x:Option (Nat×List AC)} {frm:Int},s.frm=frm->(MV [.view Ah (s.segs.map Ay), .view AD (s.marks.map At), .view Ak (items.map Ag),I i,I frm,I s.start.x,I s.start.y,I s.start.z,B s.begun,I s.len,I s.speed,I mid])=
    some [.view Ah ((FM items i s).1.map Ay), .view AD (s.marks.map At),B true,I (if s.begun=true then s.start else Ax (itA items i).fr).x,I (if s.begun=true then s.start else Ax (itA items i).fr).y,I (if s.begun=true then s.start else Ax (itA items i).fr).z,B true,I (FM items i s).2.1,I s.speed,I (Fe items i s mid).2]:=by
   intro x frm h;rw[<-h];exact hV
  rcases hls with hls|⟨L,h1,h2,h3,h4⟩
  ·rw[hls];rw[hls,if_neg (by omega)]at hf;rw[if_neg (show¬(-1:Int)>=0 by omega)];have hv:=hbef (x:=none) hf;simp only[hv,go_sem,hK,hw,hmk2];simp
  ·rw[h1]at hf⊢;rw[Int.toNat_natCast]at hf;have hs:=hS L (by omega);have hn:=hN L (by omega);rw[if_pos (show(L:Int)>=0 by omega)];by_cases c:0<=B8 items L
   ·have hnx:=Z3i h2 hi hm h4 c;rw[if_pos ⟨by omega,c⟩]at hf;rw[hnx]at hn;rw[decide_eq_true c]at hs;have hv:=hbef (x:=none) hf;simp only[hs,hn,go_sem];simp only[hv,go_sem,hK,hw,hmk2];simp
   ·rw[if_neg (fun h=>c h.2)]at hf;rw[decide_eq_false c]at hs;have hv:=hbef (x:=none) hf;simp only[hs,go_sem];simp only[hv,go_sem,hK,hw,hmk2];simp
 ·have hmk2:JT items i=SQ (itA items i):=if_neg hm;rw[if_neg hm,if_neg hm,if_neg hm];have hM2:MM [I (itA items i).kind]=some [B false]:=by rw[hM,decide_eq_false (show¬(1<=(itA items i).kind/\(itA items i).kind<=6)from hm)]
  unfold Pi;simp only[go_sem,List.length_map,Int.toNat_natCast,hr,if_pos hin,hM2,hK,hw,hmk2];rw[if_pos (by omega)];by_cases h8:(itA items i).kind=8
  ·by_cases h3:(itA items i).n=3
   ·simp[h8,h3]
   ·by_cases h4:(itA items i).n=4
    ·simp[h8,h4]
    ·simp[h8,h3,h4]
  ·simp[h8]
end Go.Bm
namespace Go.Bm
open Classical
theorem Zdv {it:Itm} {speed:Int} (hf:it.kind=1\/1<=it.feed/\it.feed<=60000000) (hs:0<=speed/\speed<=30000):JH (Ag it++[I speed])=some [I (Hz it speed)]:=by
 by_cases h1:it.kind=1
 ·unfold JH Hz;generalize Bq=M;have h:=Qzf (AG:=M) it.kind it.block it.fr.x it.fr.y it.fr.z it.to.x it.to.y it.to.z it.plane it.ce.x it.ce.y it.ce.z it.dir it.full it.feed it.perRev it.side it.radius it.blend it.n it.speed it.on speed;rw[if_pos h1];refine Eq.trans h ?_;rw[Br (by simp[h1])]
 ·exact Zrt (by omega) hs
theorem Zpt {segs:List Sgm} {marks:Rw} {q g st at_:Pt} {gl item feed lead len sp mid:Int} (hat:Fb st segs=at_) (h1:bd 67108864 at_) (h2:bd 67108864 q) (hs:segs.length+1<=1048577) (hlen:0<=len/\len<=4000000000000000000):
  NN [.view Ah (segs.map Ay), .view AD marks,I q.x,I q.y,I q.z,I g.x,I g.y,I g.z,I gl,I item,I feed,I lead,I st.x,I st.y,I st.z,B true,I len,I sp,I mid]=
   some [.view Ah ((A7 item feed lead (segs,len,at_) q).1.map Ay), .view AD marks,I st.x,I st.y,I st.z,B true,I (A7 item feed lead (segs,len,at_) q).2.1,I sp,I mid]:=
 Zbo hat (U4 h1 h2) (Ih h1 h2) hs hlen
theorem Zny {items:List Itm} (hlen:items.length<=15) (hright:∀j<items.length,¬Cd (itA items j)) {i:Nat} (hi:i<items.length):
  Pp IL Js Fc GP DH Ix P2 (pbR items i)=some (0,pbR items (i+1)):=by
 have hb:=Nb hright i (by omega);have hin:=Rj hright i (by omega);have hall:∀k<items.length,AF (itA items k)->drawn (itA items k):=fun k hk hm=>(LS (hright k hk) hm).1;have hrm:=LS (hright i hi);refine Z3z hi hlen hb.marks OQ (fun L hL=>Qye (by omega) hL) (fun L hL=>Qml (by omega) hL) (fun hm=> ?_) (Zy1 (by omega) hi (by have:=hb.marks;omega));have hd:=(hrm hm).1;exact Zzx hi hlen hd.1 hb hin (Qmk hd hb.frm hall) (fun hs=>by have h2:=(hrm hm).2;rcases hs with h|h<;>omega) (Qui items i) (SN _) (Si hd.1.2.1 hd.1.2.2.1) (Q63 _) (Zdv (hrm hm).2 hb.speed)
  (Q87 (by omega) hi hd hb.frm hall) (fun h1 h2 h3 h4 h5=>Zpt h1 h2 h3 h4 h5) Q82
theorem Qse {items:List Itm} (hlen:items.length<=15) (hright:∀j<items.length,¬Cd (itA items j)):∀(k i:Nat),i+k=items.length->
  An (Pp IL Js Fc GP DH Ix P2) (pbR items i)=
   some (2,[.view Ah ((A3 items).segs.map Ay), .view AD ((A3 items).marks.map At),I (A3 items).start.x,I (A3 items).start.y,I (A3 items).start.z,B (Aw items items.length).begun,I (Aw items items.length).len,I (Aw items items.length).speed,I (CG items items.length)])
 |0,i,hi=>by
  obtain rfl:i=items.length:=by omega
  refine A5 ?_ (by simp);unfold pbR A3;rw[Qvv,AX (by omega)]
 |k+1,i,hi=>by
  rw[Bv (Zny hlen hright (by omega))];exact Qse hlen hright k (i+1) (by omega)
def Kb (items:List Itm) (o:List AC):Prop:=
 if Dd items=0 then o=[.view Ah ((A3 items).segs.map Ay), .view AD ((A3 items).marks.map At),I 0,I (A3 items).start.x,I (A3 items).start.y,I (A3 items).start.z,B (Aw items items.length).begun,I (Aw items items.length).len,I (Aw items items.length).speed,I (CG items items.length)]
 else o=[.view Ah [], .view AD [],I (Dd items),I 0,I 0,I 0,B false,I 0,I 0,I 0]
theorem Ztk {MK MV MN MS MM MC:Fn} {N6 N18:Lp} {items:List Itm} (hlen:items.length<=15)
  (h6 : (N6 [.view Ah [], .view AD [], .view Ak (items.map Ag), I (-1), .view Ak (items.map Ag), I items.length, I 0, I 0, I 0, I 0, B false, I 0, I 0, I 0] = some (1, [.view Ah [], .view AD [], I (Dd items), I 0, I 0, I 0, B false, I 0, I 0, I 0]) /\ Dd items ≠ 0) \/
   (N6 [.view Ah [], .view AD [], .view Ak (items.map Ag),I (-1), .view Ak (items.map Ag),I items.length,I 0,I 0,I 0,I 0,B false,I 0,I 0,I 0]=some (2,[.view Ah [], .view AD [], .view Ak (items.map Ag),I 0,I 0,I 0,B false,I 0,I 0,I 0])/\Dd items=0))
  (h18 : Dd items = 0 -> N18 [.view Ah [], .view AD [], .view Ak (items.map Ag), I (-1), .view Ak (items.map Ag), I items.length, I 0, I 0, I 0, I 0, B false, I 0, I 0, I 0] =
   some (2,[.view Ah ((A3 items).segs.map Ay), .view AD ((A3 items).marks.map At),I (A3 items).start.x,I (A3 items).start.y,I (A3 items).start.z,B (Aw items items.length).begun,I (Aw items items.length).len,I (Aw items items.length).speed,I (CG items items.length)])):
  ∃o,Qa2 MK MV MN MS MM MC N6 N18 [.view Ak (items.map Ag)]=some o/\Kb items o:=by
 rw[Zlt];have hin: ¬((items.length:Int)>20000):=by omega
 rcases h6 with⟨h,hc⟩|⟨h,hc⟩
 ·simp only[go_sem,List.length_map,h,if_neg hin];exact⟨_,rfl,by unfold Kb;rw[if_neg hc]⟩
 ·have g:=h18 hc;simp only[go_sem,List.length_map,h,if_neg hin,g];rw[if_neg (by decide),if_neg (by decide)];exact⟨_,rfl,by unfold Kb;rw[if_pos hc]⟩
theorem Q56 {items:List Itm} (hlen:items.length<=15):∃o,IT [.view Ak (items.map Ag)]=some o/\Kb items o:=by
 have hc:Dd items=Gn items items.length 0 (-1):=by unfold Dd;rw[if_neg (by omega)]
 refine Ztk hlen ?_ fun he=>Qse hlen (O2 he).2 items.length 0 (by omega);rw[hc];exact WU OQ Z3e (by omega) items.length 0 (-1) (by omega) (.inl rfl)
theorem Zhk {MB:Fn} {items:List Itm} (h:∃o,MB [.view Ak (items.map Ag)]=some o/\Kb items o):
  Qoz MB [.view Ak (items.map Ag)]=if Dd items=0 then some (By (A3 items)++[I 0])else some [I 0,I 0,I 0, .view Ah [], .view AD [],I (Dd items)]:=by
 obtain⟨o,h1,h2⟩:=h;rw[Zm2,h1];unfold Kb at h2;by_cases c:Dd items=0
 ·rw[if_pos c]at h2⊢;subst h2;simp only[go_sem];rw[if_neg (by simp)];try rfl
 ·rw[if_neg c]at h2⊢;subst h2;simp only[go_sem];rw[if_pos c]
theorem Zx8 {items:List Itm} (hlen:items.length<=15):No [.view Ak (items.map Ag)]=if Dd items=0 then some (By (A3 items)++[I 0])else some [I 0,I 0,I 0, .view Ah [], .view AD [],I (Dd items)]:=
 Zhk (Q56 hlen)
end Go.Bm
namespace Go.Bm
open Classical
def J1 (items:List Itm):Nat->Option Nat
 |0=>none
 |i+1=>if(itA items i).kind=10 then J1 items i else some i
noncomputable def I3 (items:List Itm):Int:=
 match J1 items items.length with
 |some i=>if smI (itA items i)/\(itA items i).blend≠0 then AT (A3 items).segs-AB (A9 (itA items i)) (Ax (itA items i).to)else AT (A3 items).segs
 |none=>AT (A3 items).segs
theorem Xy {items:List Itm} {i:Nat}:∀{n:Nat},J1 items n=some i->i<n/\(itA items i).kind≠10/\∀j,i<j->j<n->(itA items j).kind=10
 |0,h=>by cases h
 |n+1,h=>by
  unfold J1 at h;split at h
  ·rename_i c;obtain⟨h1,h2,h3⟩:=Xy h;refine⟨by omega,h2,fun j g1 g2=> ?_⟩;by_cases e:j=n
   ·rw[e];exact c
   ·exact h3 j g1 (by omega)
  ·rename_i c;cases h
   exact⟨by omega,c,fun j g1 g2=>by omega⟩
theorem Zkc {items:List Itm} {i:Nat} (h:(itA items i).kind=10):(Aw items (i+1)).len=(Aw items i).len/\CG items (i+1)=CG items i:=by
 have hm: ¬AF (itA items i):=fun g=>by have:=g.2;omega
 constructor
 ·rw[Aw];unfold FG;rw[if_neg hm]
 ·rw[CG,if_neg hm]
theorem Q5l {items:List Itm} {i:Nat}:∀(k:Nat),(∀j,i<=j->j<i+k->(itA items j).kind=10)->(Aw items (i+k)).len=(Aw items i).len/\CG items (i+k)=CG items i
 |0,_=>⟨rfl,rfl⟩
 |k+1,h=>by
  obtain⟨h1,h2⟩:=Q5l k fun j g1 g2=>h j g1 (by omega);obtain⟨h3,h4⟩:=Zkc (h (i+k) (by omega) (by omega));exact⟨h3.trans h1,h4.trans h2⟩
theorem Zd4 {items:List Itm} (hright:∀j<items.length,¬Cd (itA items j)):AT (A3 items).segs=(Aw items items.length).len:=by
 have h:=Rj hright items.length (Nat.le_refl _);unfold A3;by_cases hb:(Aw items items.length).begun=true
 ·exact(h.begun hb).2.2.2
 ·obtain⟨g1,g2,-⟩:=h.empty (by simpa using hb);simp only[g1,g2];rfl
theorem Zdn {it:Itm} (h:it.fr≠it.to):Ax it.to≠A9 it:=by
 intro g;unfold Ax A9 at g;injection g with g1 g2 g3;exact h (D8.2 ⟨by omega,by omega,by omega⟩)
theorem Zs1 (it:Itm) (h:smI it) (item feed lead:Int) (s:(List Sgm×Int×Pt)×Int):
  (DE it item feed lead (DE it item feed lead s (A9 it)) (Ax it.to)).2=(DE it item feed lead (DE it item feed lead s (A9 it)) (Ax it.to)).1.2.1-AB (A9 it) (Ax it.to):=by
 have hne:=Zdn h.2;have h1:(DE it item feed lead s (A9 it)).2=(A7 item feed lead s.1 (A9 it)).2.1:=if_pos ⟨h,rfl⟩;have h2:(A7 item feed lead s.1 (A9 it)).2.2=A9 it:=by
  unfold A7;split
  ·rename_i c;exact c.symm
  ·rfl
 have h3:(DE it item feed lead s (A9 it)).1=A7 item feed lead s.1 (A9 it):=rfl;generalize DE it item feed lead s (A9 it)=t at*;have h4:(DE it item feed lead t (Ax it.to)).2=t.2:=if_neg fun g=>hne g.2;have h5:(DE it item feed lead t (Ax it.to)).1=A7 item feed lead t.1 (Ax it.to):=rfl;rw[h4,h5,h1,h3];rw[<-h2]at hne⊢;rw[h2];generalize A7 item feed lead s.1 (A9 it)=u at*;have h6:A7 item feed lead u (Ax it.to)=(u.1++[⟨Ax it.to,AB u.2.2 (Ax it.to),item,feed,lead⟩],u.2.1+AB u.2.2 (Ax it.to),Ax it.to):=if_neg hne;rw[h6,h2];simp only;omega
theorem Zsz {items:List Itm} {i:Nat} (hn:J1 items items.length=some i) (hs:smI (itA items i)):CG items items.length=(Aw items items.length).len-AB (A9 (itA items i)) (Ax (itA items i).to):=by
 obtain⟨h1,-,h3⟩:=Xy hn;obtain⟨k,hk⟩:∃k,items.length=i+1+k:=⟨items.length-(i+1),by omega⟩;have hm:AF (itA items i):=⟨by have:=hs.1;omega,by have:=hs.1;omega⟩;obtain⟨g1,g2⟩:=Q5l (items:=items) (i:=i+1) k fun j e1 e2=>h3 j (by omega) (by omega);have hsoft: ¬0<=B8 items i:=by
  intro c;have hx:=Rt c;rcases Qe4 items i with h|⟨-,-,m,m1,m2,m3,m4,m5⟩
  ·omega
  ·have:=h3 m m2 m3;have:=m4.1;omega
 rw[hk,g1,g2];have e1:CG items (i+1)=(Fe items i (Aw items i) (CG items i)).2:=if_pos hm;have e2:(Aw items (i+1)).len=(Fe items i (Aw items i) (CG items i)).1.2.1:=by
  rw[Qts,Aw];unfold FG;rw[if_pos hm]
 rw[e1,e2];unfold Fe;have e3:Cn items i (Aw items i).frm=II items i (Aw items i).frm++[A9 (itA items i)]++[Ax (itA items i).to]:=by
  unfold Cn;rw[if_pos hs];unfold KB;rw[if_neg hsoft];unfold CM;rw[if_neg (by have:=hs.1;omega)];rfl
 rw[e3,List.foldl_append,List.foldl_append,List.foldl_cons,List.foldl_nil,List.foldl_cons,List.foldl_nil];exact Zs1 _ hs _ _ _ _
theorem Qpz {MS MB:Fn} {items:List Itm} {segs marks:Rw} {st:Pt} {b:Bool} {len sp mid:Int} (hl:items.length<=1000) (hS:∀it,MS (Ag it)=some [B (decide (smI it))]):
  ∀n:Nat,n<=items.length->∃o:Nat×List AC,An (NK MS MB) [.view Ah segs, .view AD marks, .view Ak (items.map Ag),I ((n:Int)-1),I st.x,I st.y,I st.z,B b,I len,I sp,I mid]=some o/\
   match J1 items n with
   |some i=>o=(1,[I (if smI (itA items i)/\(itA items i).blend≠0 then mid else len)])
   |none=>o=(2,[.view Ah segs, .view AD marks,I st.x,I st.y,I st.z,B b,I len,I sp,I mid])
 |0,_=>by
  refine⟨_,A5 (o:=(2,_)) ?_ (by simp),rfl⟩;rw[Qx4,AX (by omega)]
 |n+1,hn=>by
  have hlt:n<items.length:=by omega
  have hr:=E_ hlt;have hs:=hS (itA items n);simp only[Ag]at hs;have hin:(0:Int)<=(n:Int)/\(n:Int)<(items.length:Int):=by omega
  have e:((n+1:Nat):Int)-1=n:=by omega
  have hst:NK MS MB [.view Ah segs, .view AD marks, .view Ak (items.map Ag),I n,I st.x,I st.y,I st.z,B b,I len,I sp,I mid]=
    if(itA items n).kind=10 then some (0,[.view Ah segs, .view AD marks, .view Ak (items.map Ag),I ((n:Int)-1),I st.x,I st.y,I st.z,B b,I len,I sp,I mid])
    else some (1,[I (if smI (itA items n)/\(itA items n).blend≠0 then mid else len)]):=by
   rw[Qx4];simp only[go_sem,List.length_map,Int.toNat_natCast,hr,hs,if_pos hin];rw[if_pos (by omega),Ae (by omega)];by_cases c1:(itA items n).kind=10
   ·rw[if_pos c1,if_pos c1]
   ·rw[if_neg c1,if_neg c1];by_cases c2:smI (itA items n)
    ·rw[if_pos c2];by_cases c3:(itA items n).blend≠0
     ·rw[if_pos c3,if_pos ⟨c2,c3⟩]
     ·rw[if_neg c3,if_neg (fun g=>c3 g.2)]
    ·rw[if_neg c2,if_neg (fun g=>c2 g.1)]
  rw[e];unfold J1;by_cases c1:(itA items n).kind=10
  ·rw[if_pos c1]at hst⊢;rw[Bv hst];exact Qpz hl hS n (by omega)
  ·rw[if_neg c1]at hst⊢;exact⟨_,A5 hst (by simp),rfl⟩
theorem Zai {MS MB:Fn} {items:List Itm} (hl:items.length<=15) (hS:∀it,MS (Ag it)=some [B (decide (smI it))]) (h:∃o,MB [.view Ak (items.map Ag)]=some o/\Kb items o):
  VF MS MB (An (NK MS MB)) [.view Ak (items.map Ag)]=some [I (if Dd items=0 then I3 items else 0)]:=by
 obtain⟨o,h1,h2⟩:=h;unfold Kb at h2;by_cases c:Dd items=0
 ·rw[if_pos c]at h2⊢;have hright:=(O2 c).2;have hsum:=Zd4 hright;have hmid:=fun i hn hs=>Zsz (items:=items) (i:=i) hn hs;have hlp:= @Qpz MS MB items ((A3 items).segs.map Ay) ((A3 items).marks.map At) (A3 items).start (Aw items items.length).begun (Aw items items.length).len (Aw items items.length).speed (CG items items.length) (by omega) hS items.length (by omega);obtain⟨r,r1,r2⟩:=hlp;rw[Q30,h1];subst h2;have hw:IntKind.i64.wrap ((items.length:Int)-1)=(items.length:Int)-1:=Ae (by omega);unfold I3;rw[hsum];generalize An (NK MS MB)=N at*;simp only[go_sem,List.length_map,hw,r1];rw[if_neg (by simp)];cases hn:J1 items items.length with
  |none=>
   rw[hn]at r2;simp only at r2;subst r2;rfl
  |some i=>
   rw[hn]at r2;simp only at r2;subst r2;simp only[go_sem];by_cases c2:smI (itA items i)/\(itA items i).blend≠0
   ·rw[if_pos c2,if_pos c2,hmid i hn c2.1]
   ·rw[if_neg c2,if_neg c2]
 ·rw[if_neg c]at h2⊢;subst h2;rw[Q30,h1];simp only[go_sem];rw[if_pos c]
theorem Zgu {items:List Itm} (hl:items.length<=15):Oy [.view Ak (items.map Ag)]=some [I (if Dd items=0 then I3 items else 0)]:=Zai hl SN (Q56 hl)
end Go.Bm
namespace Go.Bm
open Classical
def okU (s:Spk):Prop:=s.u.natAbs<=1000000/\s.w.natAbs<=1000000/\(0<=s.r/\s.r<=1000000)/\s.h.natAbs<=200000
theorem okU.s {s:Spk} (h:okU s):okS s:=⟨by have:=h.1;omega,by have:=h.2.1;omega,⟨h.2.2.1.1,by have:=h.2.2.1.2;omega⟩,by have:=h.2.2.2;omega⟩
theorem Z1i {a b:Spk} (ha:okU a) (hb:okU b) {u w:Int} (hu:u.natAbs<=100000000) (hw:w.natAbs<=100000000):okU (G9 a b u w):=by
 unfold G9;split
 ·exact⟨by simp,by simp,by simp,by simp⟩
 ·rename_i h;have ha3:=ha.2.2;have hb3:=hb.2.2
  have hr:0<=hf a.r b.r/\hf a.r b.r<=1000000:=by unfold hf;omega
  have hh:(hf a.h b.h).natAbs<=200000:=by unfold hf;omega
  obtain⟨⟨-,n1⟩,-,n2⟩:=Qt4 hu hw (r:=hf a.r b.r) (by omega) h;exact⟨by simp only;omega,by simp only;omega,hr,hh⟩
theorem Zt7 {a b:Spk} (ha:okU a) (hb:okU b) {dir:Int} (hd:dir=1\/dir= -1) (full:Bool):okU (EL a b dir full):=
 Z1i ha hb (Nn ha.s hb.s hd full).1 (Nn ha.s hb.s hd full).2
theorem Qkx {dir:Int} (hd:dir=1\/dir= -1):∀(k:Nat) (full:Bool) {a b:Spk},okU a->okU b->∀s∈DK dir k full a b,okU s
 |0,_,a,b,_,hb,s,hs=>by simp[DK]at hs;subst hs;exact hb
 |k+1,full,a,b,ha,hb,s,hs=>by
  unfold DK at hs;have hm:=Zt7 ha hb hd full;split at hs
  ·simp at hs;subst hs;exact hb
  ·rcases List.mem_append.1 hs with hs|hs
   ·exact Qkx hd k false ha hm s hs
   ·exact Qkx hd k false hm hb s hs
theorem Zp0 {n:Nat} (hn:n<=300000000000):0<=FF n/\FF n<=1000000:=by
 obtain⟨r,-,h2,h3,-⟩:=To (n:=n) (by omega);have hm:=Rp h2 h3;rw[Q6 hm];have:r<1000000:=by
  by_cases c:r<1000000
  ·exact c
  ·have:=Nat.mul_le_mul (show 1000000<=r by omega) (show 1000000<=r by omega);omega
 split<;>omega
theorem Yb {pl:Int} {p:Pt} {b:Nat} (h:bd b p):(plU pl p).natAbs<=b/\(plW pl p).natAbs<=b/\(plH pl p).natAbs<=b:=HA h
theorem Wv {it:Itm} {p:Pt} (hc:bd 4200 it.ce) (hp:bd 4200 p):okU (Ed it p):=by
 obtain⟨c1,c2,c3⟩:=Yb (pl:=it.plane) hc;obtain⟨p1,p2,p3⟩:=Yb (pl:=it.plane) hp;have h1:(dU it p*16).natAbs<=134400:=by unfold dU;omega
 have h2:(dW it p*16).natAbs<=134400:=by unfold dW;omega
 have q1:=DM h1;have q2:=DM h2;obtain⟨-,-,h3,-⟩:=Qr (AV hc (by omega)) (AV hp (by omega));obtain⟨n,hn⟩:=Int.eq_ofNat_of_zero_le h3;refine⟨Nat.le_trans h1 (by decide),Nat.le_trans h2 (by decide),?_,?_⟩
 ·show 0<=FF _/\FF _<=_;rw[hn];refine Zp0 ?_;unfold sq2 at hn;omega
 ·show(plH it.plane p*16).natAbs<=_;omega
theorem Zvp {it:Itm} {s:Spk} (hc:bd 4200 it.ce) (hs:okU s):bd B24 (IX it s):=by
 obtain⟨h1,h2,-⟩:=Yb (pl:=it.plane) (Ff hc);obtain⟨s1,s2,-,s4⟩:=hs;exact Q7r (by unfold B24;omega) (by unfold B24;omega) (by unfold B24;omega)
theorem Zm6 {it:Itm} (h:Made it) (hf:bd 4084 it.fr):∀p∈CM it,bd B24 p:=by
 have ht:=Qzk h hf;intro p hp;unfold CM at hp;split at hp
 ·rename_i h3;simp only[List.mem_map]at hp;obtain⟨s,hs,rfl⟩:=hp;have hce:bd 4200 it.ce:=AV (Qdl (h.arc h3) (by omega) hf).2 (by omega);refine Zvp hce ?_;rcases List.mem_cons.1 hs with rfl|hs
  ·exact Wv hce (AV hf (by omega))
  ·exact Qkx (h.arc h3).dir 16 _ (Wv hce (AV hf (by omega))) (Wv hce (AV ht (by omega))) s hs
 ·simp at hp;rcases hp with rfl|rfl
  ·exact AV (Ff hf) (by decide)
  ·exact AV (Ff ht) (by decide)
def SR (n:Nat) (g:Sgm):Prop:=bd B24 g.to/\0<=g.item/\g.item<n/\i64 g.lead
theorem Q1g {n:Nat} {item feed lead:Int} (h1:0<=item/\item<n) (h2:i64 lead):∀(pts:List Pt) (s:List Sgm×Int×Pt),(∀p∈pts,bd B24 p)->(∀g∈s.1,SR n g)->∀g∈(pts.foldl (A7 item feed lead) s).1,SR n g
 |[],s,_,h=>h
 |q::pts,s,hp,h=>by
  rw[List.foldl_cons];refine Q1g h1 h2 pts _ (fun p hp'=>hp p (by simp[hp'])) ?_;unfold A7;split
  ·exact h
  ·intro g hg;simp only[List.mem_append,List.mem_singleton]at hg;rcases hg with hg|rfl
   ·exact h g hg
   ·exact⟨hp q (by simp),h1.1,h1.2,h2⟩
structure PIn (n : Nat) (s : BSt) : Prop where
 start:bd B24 s.start
 segs:∀g∈s.segs,SR n g
 marks:∀m∈s.marks,0<=m.item/\m.item<n/\i64 m.at_
theorem Zqq {items:List Itm} {i:Nat} {frm:Int} (hd:drawn (itA items i)) (hf:LU items i frm) (hall:∀k<items.length,AF (itA items k)->drawn (itA items k)) (hc:∀p∈CM (itA items i),bd B24 p):∀p∈Cn items i frm,bd B24 p:=by
 unfold Cn;by_cases hs:smI (itA items i)
 ·rw[if_pos hs];intro p hp;rcases List.mem_append.1 hp with hp|hp
  ·rcases List.mem_append.1 hp with hp|hp
   ·unfold II at hp;rcases hf with rfl|⟨f,rfl,hf1,hf2⟩
    ·rw[if_neg (by omega)]at hp;exact hc p (List.mem_of_mem_take hp)
    ·rw[if_pos (by omega)]at hp;exact(Lh (items:=items) (i:=(f:Int).toNat) (k:=i) (by simpa using hf2) hd).1 p (List.mem_of_mem_drop hp)
   ·simp at hp;subst hp;exact KG hd.1.2.1 hd.1.2.2.1
  ·unfold KB at hp;by_cases h:0<=B8 items i
   ·rw[if_pos h]at hp;obtain⟨k,hk,hk1,hk2⟩:=RM hall h;exact(Lh (items:=items) (i:=i) (k:=(B8 items i).toNat) hd (by rw[hk];simpa using hk2)).1 p (List.mem_of_mem_take hp)
   ·rw[if_neg h]at hp;exact hc p (List.mem_of_mem_drop hp)
 ·rw[if_neg hs];exact hc
theorem Zws {it:Itm} (hf:it.kind=1\/1<=it.feed/\it.feed<=60000000):i64 (NX it):=by
 unfold NX;split
 ·rename_i h;unfold syI at h;unfold mn i64;split<;>omega
 ·unfold i64;omega
theorem Znx {items:List Itm} {i:Nat} {s:BSt} (hi:i<items.length) (hl:items.length<=15) (hright:∀j<items.length,¬Cd (itA items j)) (hch:∀j<items.length,AF (itA items j)->∀p∈CM (itA items j),bd B24 p) (hok:BOK items i s) (h:PIn items.length s):PIn items.length (FG items i s):=by
 have hall:∀k<items.length,AF (itA items k)->drawn (itA items k):=fun k hk hm=>(LS (hright k hk) hm).1;have hok2:=Qw7 hi hright hok;have hlen:=hok.len;have hlen2:=hok2.len;unfold FG at hlen2⊢;by_cases hm:AF (itA items i)
 ·rw[if_pos hm]at hlen2⊢;have hd:=hall i hi hm;refine⟨?_,Q1g ⟨by omega,by omega⟩ (Zws (LS (hright i hi) hm).2) _ _ (Zqq hd hok.frm hall (hch i hi hm)) h.segs,?_⟩
  ·show bd B24 (if s.begun=true then s.start else Ax (itA items i).fr);split
   ·exact h.start
   ·exact Ff hd.1.2.1
  ·intro m hm;simp only[List.mem_append,List.mem_singleton]at hm;rcases hm with hm|rfl
   ·exact h.marks m hm
   ·refine⟨by simp only;omega,by simp only;omega,?_⟩;simp only at hlen2⊢;unfold i64;omega
 ·rw[if_neg hm];refine⟨h.start,h.segs,?_⟩;intro m hm;simp only[List.mem_append,List.mem_singleton]at hm;rcases hm with hm|rfl
  ·exact h.marks m hm
  ·refine⟨by simp only;omega,by simp only;omega,?_⟩;simp only;unfold i64;omega
theorem Qyh {items:List Itm} (hl:items.length<=15) (hright:∀j<items.length,¬Cd (itA items j)) (hch:∀j<items.length,AF (itA items j)->∀p∈CM (itA items j),bd B24 p):∀i,i<=items.length->PIn items.length (Aw items i)
 |0,_=>by rw[Aw];exact⟨by unfold bd;simp,fun g h=>(by cases h),fun g h=>(by cases h)⟩
 |i+1,hi=>by rw[Aw];exact Znx (by omega) hl hright hch (Nb hright i (by omega)) (Qyh hl hright hch i (by omega))
theorem Zo6 {p:Pt} {items:List Itm} (hl:items.length<=15) (h:Items 4084 p items):bd B24 (A3 items).start/\(∀g∈(A3 items).segs,SR items.length g)/\(∀m∈(A3 items).marks,0<=m.item/\m.item<items.length/\i64 m.at_)/\(A3 items).marks.length=items.length:=by
 have hright:=(O2 (Q19 (by omega) h (by omega))).2;have h1 := Qyh hl hright (fun j hj hm => by
  rcases h.made _ (Q14 hj)with⟨-,g2,-,g4,-⟩|g
  ·exact Zm6 g2 g4
  ·exact absurd hm (Qv g)) items.length (Nat.le_refl _)
 exact⟨h1.start,h1.segs,h1.marks,(Nb hright items.length (Nat.le_refl _)).marks⟩
theorem Z2u {items:List Itm} (hl:items.length<=15) (hc:Dd items=0):i64 (I3 items):=by
 have hg:=Qtk hl hc;have hs:=YK (Qh5 hg.start hg.segs);have hcount:=hg.count;have hright:=(O2 hc).2;have h0:i64 (AT (A3 items).segs):=by unfold i64;omega
 unfold I3;split
 ·rename_i i e;split
  ·rename_i c;obtain⟨hi,-,-⟩:=Xy e;have hm:AF (itA items i):=⟨by have:=c.1.1;omega,by have:=c.1.1;omega⟩;obtain⟨hd,-⟩:=LS (hright i hi) hm;have:=Ih (AV (KG hd.1.2.1 hd.1.2.2.1) (by decide)) (AV (Ff hd.1.2.2.1) (by decide));unfold i64;omega
  ·exact h0
 ·exact h0
end Go.Bm
namespace Go.Bm
open Classical
theorem TR (n lo hi:Int):GF [I n,I lo,I hi]=some [B (decide (lo<=n/\n<=hi))]:=by
 show Uf [I n,I lo,I hi]=_;rw[Zev];by_cases h1:lo<=n<;>by_cases h2:n<=hi<;>simp[h1,h2]
theorem Zpn {M:Fn} (hM:∀n lo hi:Int,M [I n,I lo,I hi]=some [B (decide (lo<=n/\n<=hi))]) {a:Axs} (h:AxOK a) (hne:a.pitch≠[]):
  ∃o,An (Qlr M) (.view Aa (a.pitch.map Ap)::I a.pitch.length::I 0::Bh a)=some o/\o.1=2:=by
 have hsp:=h.spacing hne;refine(?_:Out (fun o:Nat×List AC=>o.1=2) _);refine Cr (fun i:Nat=> .view Aa (a.pitch.map Ap)::I a.pitch.length::I (i:Int)::Bh a) (fun i=>i<=a.pitch.length) (fun i=>a.pitch.length-i) _ ?_ 0 (by simp);intro i hi;have hc:=h.count;rw[Zac];dsimp only[jA,gA,bA,wA];have hv:∀j:Nat,j<a.pitch.length->Af (nth .dead (nth [] (a.pitch.map Ap) j) 0)=a.pitch.getD j 0:=fun j hj=>by
  have e:nth [] (a.pitch.map Ap) j=Ap a.pitch[j]:=by
   rw[GX [] (a.pitch.map Ap) j (by rw[List.length_map];exact hj),List.getElem_map]
  rw[e,List.getD,List.getElem?_eq_getElem hj];rfl
 refine .cond (fun k=> ?_) fun _=> .some (.inr ⟨by simp,rfl⟩);have k:(i:Int)<(a.pitch.length:Int):=Bg k;have hl:((a.pitch.map Ap).length:Int)=a.pitch.length:=by rw[List.length_map]
 refine .cond (fun _=> ?_) fun e=>(inB (by omega) (by rw[hl];exact k) e).elim;have hm: -4096<=a.pitch.getD i 0/\a.pitch.getD i 0<=4096:=by
  refine h.pitch.1 _ ?_;rw[List.getD,List.getElem?_eq_getElem (by omega)];exact List.getElem_mem _
 rw[Int.toNat_natCast,hv i (by omega),hM];simp only[Option.bind_some,gA,wA,bA,jA,CI,CV];rw[decide_eq_true hm];refine .cond (fun e=>by cases e) fun _=> ?_;have nx:∀{x:List AC},x= .view Aa (a.pitch.map Ap)::I a.pitch.length::I ((i:Int)+1)::Bh a->Out (fun o:Nat×List AC=>(o.1=0/\∃s':Nat,o.2= .view Aa (a.pitch.map Ap)::I a.pitch.length::I (s':Int)::Bh a/\s'<=a.pitch.length/\a.pitch.length-s'<a.pitch.length-i)\/(o.1≠0/\o.1=2)) (some (0,x)):=fun e=>
  .some (.inl ⟨rfl,i+1,by rw[e];rfl,by omega,by omega⟩)
 rw[Ae (x:=(i:Int)+1) (by omega)];refine .cond (fun g=> ?_) fun _=>nx rfl;have g:(i:Int)>0:=Bg g;rw[Ae (x:=(i:Int)-1) (by omega)];refine .cond (fun _=> ?_) fun e=>(inB (by omega) (by rw[hl];omega) e).elim;obtain⟨j,rfl⟩:∃j:Nat,i=j+1:=⟨i-1,by omega⟩;have hd:=h.pitch.2 j (by omega);have hmj: -4096<=a.pitch.getD j 0/\a.pitch.getD j 0<=4096:=by
  refine h.pitch.1 _ ?_;rw[List.getD,List.getElem?_eq_getElem (by omega)];exact List.getElem_mem _
 have ej:(((j+1:Nat):Int)-1).toNat=j:=by omega
 rw[ej,hv j (by omega),hM];simp only[Option.bind_some,gA,wA,bA,jA,CI,CV];have q1:a.spacing.tdiv 4=a.spacing/4:=Int.tdiv_eq_ediv_of_nonneg (by omega);rw[q1,Ae (x:=a.spacing/4) (by omega),Ae (x:=0-a.spacing/4) (by omega),Ae (x:=a.pitch.getD (j+1) 0-a.pitch.getD j 0) (by omega)];refine .cond (fun e=> ?_) fun _=>nx rfl;rw[decide_eq_true (show 0-a.spacing/4<=a.pitch.getD (j+1) 0-a.pitch.getD j 0/\a.pitch.getD (j+1) 0-a.pitch.getD j 0<=a.spacing/4 by omega)]at e;cases e
theorem Z1d {M:Fn} {N:Lp} (hM:∀n lo hi:Int,M [I n,I lo,I hi]=some [B (decide (lo<=n/\n<=hi))]) {a:Axs} (h:AxOK a)
  (hN:a.pitch≠[]->∃o,N (.view Aa (a.pitch.map Ap)::I a.pitch.length::I 0::Bh a)=some o/\o.1=2):Qf4 M N (Bh a)=some [B true]:=by
 have hs:=h.spacing;have ho:=h.origin;have hc:=h.count
 rw[Zxv];by_cases e:a.pitch=[]
 ·rw[e];rfl
 ·have hl:0<a.pitch.length:=List.length_pos_iff.2 e;obtain⟨o,h1,h2⟩:=hN e;have hs:=hs e;have h1':N [.view Aa (a.pitch.map Ap),I (a.pitch.map Ap).length,I 0,I a.step,I a.speed,I a.accel,I a.jerk,I a.low,I a.high,I a.back,I a.origin,I a.spacing, .view Aa (a.pitch.map Ap)]=some o:=by rw[List.length_map];exact h1
  rw[Ba (by rw[List.length_map];simp;omega),Ba (by rw[List.length_map];simp;omega),hM,hM,h1'];simp only[Option.bind_some,gA,wA,bA,jA,CI,CV];rw[decide_eq_true (show-16777216<=a.origin/\a.origin<=16777216 by omega),decide_eq_true (show 4<=a.spacing/\a.spacing<=16777216 by omega),h2];rfl
theorem Zh8 {a:Axs} (h:AxOK a):Py (Bh a)=some [B true]:=Z1d TR h fun hne=>Zpn TR h hne
theorem Zcx {M N:Fn} (hN:∀n lo hi:Int,N [I n,I lo,I hi]=some [B (decide (lo<=n/\n<=hi))]) {a:Axs} (h:AxOK a) (hM:M (Bh a)=some [B true]):Xn M N (Bh a)=some [B true]:=by
 have hs:=h.step;have hb:=h.back;obtain⟨l1,l2,l3,l4,l5,l6,l7,l8⟩:=h.lim
 rw[Zg8];simp only[hN,Option.bind_some,CI,CV];rw[decide_eq_true (show 4<=a.step/\a.step<=4096 by omega),decide_eq_true (show 1<=a.speed/\a.speed<=1048576 by omega),decide_eq_true (show 2<=a.accel/\a.accel<=1048576 by omega),decide_eq_true (show 4<=a.jerk/\a.jerk<=1048576 by omega),decide_eq_true (show a.low>= -16777216 by omega),decide_eq_true (show a.high<=16777216 by omega),decide_eq_true (show a.low<=a.high by omega),decide_eq_true (show 0<=a.back/\a.back<=64 by omega)];simp only[cond_true];rw[hM];rfl
theorem Zwe {a:Axs} (h:AxOK a):O4 (Bh a)=some [B true]:=Zcx TR h (Zh8 h)
theorem Ze4 {N:Fn} (hN:∀n lo hi:Int,N [I n,I lo,I hi]=some [B (decide (lo<=n/\n<=hi))]) {a:Axs} (h:AxOK a) {q:Int} (hq:q.natAbs<=B24):YR N (Bh a++[I q])=some [B true]:=by
 obtain⟨-,-,-,-,-,-,l7,l8⟩:=h.lim;refine Eq.trans (Zji N ..) ?_;rw[hN,decide_eq_true (show a.low<=q/\q<=a.high by unfold B24 at hq;omega)];rfl
theorem Zio {a:Axs} (h:AxOK a) {q:Int} (hq:q.natAbs<=B24):HD (Bh a++[I q])=some [B true]:=Ze4 TR h hq
theorem Zhm {M:Fn} {x:Ax3} {p:Pth} (hs:bd B24 p.start) (hg:∀g∈p.segs,bd B24 g.to) (hl:p.segs.length<=1000000):
  Out (fun o:Nat×List AC=>o.1=1/\∃pts:List Pt,o.2= .view kPt (pts.map ptR)::AI x/\(∀q∈pts,bd B24 q)/\pts.length<=1000001) (An (Qm M) (.view kPt [ptR p.start]:: .view Ah (p.segs.map Ay)::I (p.segs.map Ay).length::I 0::AI x)):=by
 refine Cr (fun s:Nat×List Pt=> .view kPt (s.2.map ptR):: .view Ah (p.segs.map Ay)::I (p.segs.map Ay).length::I (s.1:Int)::AI x) (fun s=>s.1<=p.segs.length/\(∀q∈s.2,bd B24 q)/\s.2.length=s.1+1) (fun s=>p.segs.length-s.1) _ ?_ (0,[p.start]) ⟨by simp,by simpa using hs,rfl⟩;rintro⟨i,pts⟩ ⟨h1,h2,h3⟩;dsimp only at h1 h2 h3;refine Out.eqv (Z33 M ..) ?_;have hsl:((p.segs.map Ay).length:Int)=p.segs.length:=by rw[List.length_map]
 refine .cond (fun k=> ?_) fun _=> .some (.inr ⟨by simp,rfl,pts,rfl,h2,by omega⟩);have k:(i:Int)<((p.segs.map Ay).length:Int):=Bg k;rw[hsl]at k;refine .cond (fun _=> ?_) fun e=>(inB (by omega) (by rw[hsl];exact k) e).elim;have er:nth [] (p.segs.map Ay) (i:Int).toNat=Ay p.segs[i]:=by
  rw[Int.toNat_natCast,GX [] _ i (by rw[List.length_map];omega),List.getElem_map]
 rw[er];have hq:=hg _ (List.getElem_mem (show i<p.segs.length by omega));refine .cond (fun _=> ?_) fun e=>by rw[CY (by simp;omega)]at e;cases e
 refine .some (.inl ⟨rfl,(i+1,pts++[p.segs[i].to]),?_,⟨by dsimp only;omega,?_,by simp;omega⟩,by dsimp only;omega⟩)
 ·rw[Ae (x:=(i:Int)+1) (by omega),List.map_append];rfl
 ·intro q hq';dsimp only at hq';simp only[List.mem_append,List.mem_singleton]at hq';rcases hq' with hq'|rfl
  ·exact h2 q hq'
  ·exact hq
theorem Zo3 {M:Fn} {N3:Lp} (hM:∀{a:Axs} {q:Int},AxOK a->q.natAbs<=B24->M (Bh a++[I q])=some [B true]) {x:Ax3} (hx:Ax3M x) {pts:List Pt} (hp:∀q∈pts,bd B24 q) (hl:pts.length<=1000001):
  Out (fun o:Nat×List AC=>o.1=2) (An (RP M N3) (.view kPt (pts.map ptR)::I (pts.map ptR).length::I 0::AI x)):=by
 refine Cr (fun i:Nat=> .view kPt (pts.map ptR)::I (pts.map ptR).length::I (i:Int)::AI x) (fun i=>i<=pts.length) (fun i=>pts.length-i) _ ?_ 0 (by simp);intro i h1;refine Out.eqv (Zwi M N3 ..) ?_;have hsl:((pts.map ptR).length:Int)=pts.length:=by rw[List.length_map]
 refine .cond (fun k=> ?_) fun _=> .some (.inr ⟨by simp,rfl⟩);have k:(i:Int)<((pts.map ptR).length:Int):=Bg k;rw[hsl]at k;refine .cond (fun _=> ?_) fun e=>(inB (by omega) (by rw[hsl];exact k) e).elim;have er:nth [] (pts.map ptR) (i:Int).toNat=ptR pts[i]:=by
  rw[Int.toNat_natCast,GX [] _ i (by rw[List.length_map];omega),List.getElem_map]
 rw[er];obtain⟨q1,q2,q3⟩:=hp _ (List.getElem_mem (show i<pts.length by omega));refine .bind (p:=fun o=>o=[B true]) ⟨_,hM hx.a q1,rfl⟩ fun o e=> ?_;subst e;refine .cond (fun e=>by cases e) fun _=> ?_;refine .bind (p:=fun o=>o=[B true]) ⟨_,hM hx.b q2,rfl⟩ fun o e=> ?_;subst e;refine .cond (fun e=>by cases e) fun _=> ?_;refine .bind (p:=fun o=>o=[B true]) ⟨_,hM hx.c q3,rfl⟩ fun o e=> ?_;subst e;refine .cond (fun e=>by cases e) fun _=> ?_;exact .some (.inl ⟨rfl,i+1,by rw[Ae (x:=(i:Int)+1) (by omega)];rfl,by omega,by omega⟩)
theorem Zg9 {M:Fn} {N3 N8:Lp} {x:Ax3} {p:Pth}
  (h3:Out (fun o:Nat×List AC=>o.1=1/\∃pts:List Pt,o.2= .view kPt (pts.map ptR)::AI x/\(∀q∈pts,bd B24 q)/\pts.length<=1000001) (N3 (.view kPt [ptR p.start]:: .view Ah (p.segs.map Ay)::I (p.segs.map Ay).length::I 0::AI x)))
  (h8:∀{pts:List Pt},(∀q∈pts,bd B24 q)->pts.length<=1000001->Out (fun o:Nat×List AC=>o.1=2) (N8 (.view kPt (pts.map ptR)::I (pts.map ptR).length::I 0::AI x))):
  Out (fun o=>o=[B true]) (WG M N3 N8 (AI x++By p)):=by
 refine Out.eqv (Zfy M N3 N8 ..) ?_;refine .bind h3 fun o q=> ?_;obtain⟨o1,o2⟩:=o;obtain⟨q1,pts,q2,q3,q4⟩:=q;dsimp only at q1 q2;subst q1 q2;refine .cond (fun _=> ?_) fun e=>by cases e
 refine .bind (h8 q3 q4) fun o q=> ?_;rw[q];exact .some rfl
theorem Zru {x:Ax3} {p:Pth} (hx:Ax3M x) (hs:bd B24 p.start) (hg:∀g∈p.segs,bd B24 g.to) (hl:p.segs.length<=1000000):Pj (AI x++By p)=some [B true]:=by
 obtain⟨o,h,rfl⟩:=Zg9 (M:=HD) (N3:=An (Qm HD)) (N8:=An (RP HD (An (Qm HD)))) (Zhm (x:=x) hs hg hl) (fun h1 h2=>Zo3 (fun ha hq=>Zio ha hq) hx h1 h2);exact h
theorem Zi1:∃v:Int,E4 [I 30000]=some [I v]/\60000<=v:=by
 have key:∀{M:Fn} {v:Int},M [I 30000,I 1048576,I 60000,I 2]=some [I v,B true]->RL M [I 30000]=some [I v]:=fun h=>by
  rw[Qu8,h];rfl
 refine⟨_,key (SO (by unfold i64;omega) (by unfold i64;omega) (by omega) (by decide)),?_⟩;unfold Bd;omega
theorem Z2x {MR MP MV:Fn} {x:Ax3} (hx:Ax3M x) {pa pb pc ramp lag:Int} (hp:Plan3 pa pb pc) (hr:1<=ramp/\ramp<=60000) (hl:0<=lag/\lag<=40)
  (hV:∀{a:Axs},AxOK a->MV (Bh a)=some [B true]) (hP:MP [I pa,I pb,I pc]=some [B true]) (hR:∃v:Int,MR [I 30000]=some [I v]/\60000<=v):Out (fun o=>o=[B true]) (Qe2 MR MP MV (AI x++[I pa,I pb,I pc,I ramp,I lag])):=by
 refine Out.eqv (Zso MR MP MV ..) ?_;refine .bind (p:=fun o=>o=[B true]) ⟨_,hV hx.a,rfl⟩ fun o e=> ?_;subst e;refine .cond (fun e=>by cases e) fun _=> .bind (p:=fun o=>o=[B true]) ⟨_,hV hx.b,rfl⟩ fun o e=> ?_;subst e;refine .cond (fun e=>by cases e) fun _=> .bind (p:=fun o=>o=[B true]) ⟨_,hV hx.c,rfl⟩ fun o e=> ?_;subst e;refine .cond (fun e=>by cases e) fun _=> .bind (p:=fun o=>o=[B true]) ⟨_,hP,rfl⟩ fun o e=> ?_;subst e;obtain⟨v,h1,h2⟩:=hR;refine .cond (fun _=> .cond (fun _=> ?_) fun e=>absurd hr.1 (Bf e)) fun e=>by cases e
 refine .bind (p:=fun o=>o=[I v]) ⟨_,h1,rfl⟩ fun o e=> ?_;subst e;refine .cond (fun _=> .cond (fun _=> ?_) fun e=>absurd hl.1 (Bf e)) fun e=>absurd (show ramp<=v by omega) (Bf e);exact .some (by rw[decide_eq_true (show lag<=1048576 by omega)])
theorem Zb8 {x:Ax3} (hx:Ax3M x) {pa pb pc ramp lag:Int} (hp:Plan3 pa pb pc) (hr:1<=ramp/\ramp<=60000) (hl:0<=lag/\lag<=40):O8 (AI x++[I pa,I pb,I pc,I ramp,I lag])=some [B true]:=by
 have hP:E2 [I pa,I pb,I pc]=some [B true]:=by rw[PC,decide_eq_true (show 1<=pa/\pa<=65536/\2<=pb/\pb<=65536/\1<=pc/\pc<=16777216 from⟨hp.a.1,hp.a.2,hp.b.1,hp.b.2,hp.c.1,hp.c.2⟩)]
 obtain⟨o,h,rfl⟩:=Z2x hx hp hr hl Zwe hP Zi1;exact h
theorem Zaa {x:Ax3} (hx:Ax3M x) (l0 l1 l2 l3 l4:Int):OD (AI x++[I l0,I l1,I l2,I l3,I l4])=some (AI x++[I l0,I l1,I l2,I l3,I l4]):=by
 have ha:=hx.a.count;have hb:=hx.b.count;have hc:=hx.c.count
 have key:Qmx (AI x++[I l0,I l1,I l2,I l3,I l4])=some (AI x++[I l0,I l1,I l2,I l3,I l4]):=by
  refine Eq.trans (Z3k ..) ?_;rw[CY (by rw[List.length_map];omega),CY (by rw[List.length_map];omega),CY (by rw[List.length_map];omega)];rfl
 exact key
abbrev SI (K:Kf):Kf:=⟨K.x,K.pa,K.pb,K.pc,K.ramp,K.lag,[],false,⟨⟨0,0,0⟩,[],[]⟩,0,0,⟨[],0,0,⟨0,0,0⟩⟩⟩
abbrev S1 (K:Kf):Kf:=⟨K.x,K.pa,K.pb,K.pc,K.ramp,K.lag,K.items,K.closed,K.p,K.len,K.set,⟨[],0,0,⟨0,0,0⟩⟩⟩
abbrev CT:Cv:=⟨0,0,0,0,0,0,100,100,false,false,false,0,0,-1,1,0,0,0,0,0,0,0,0,false,0,false,0,false,0,-1,0,0,0,0,0,0,0,false,false,false⟩
noncomputable abbrev kfP (x:Ax3) (pa pb pc ramp lag:Int) (items:List Itm) (closed:Bool):Kf:=⟨x,pa,pb,pc,ramp,lag,items,closed,A3 items,AT (A3 items).segs,I3 items,EZ (A3 items) x ⟨1,1,1⟩ 0 (AT (A3 items).segs)⟩
theorem Ziq {MS ML MR MB:Fn} {K:Kf} (hl:K.items.length<=15) (c:Cv)
  (hB:MB [.view Ak (K.items.map Ag)]=some (By K.p++[I 0])) (hR:MR (AI K.x++By K.p)=some [B true]) (hL:ML (By K.p)=some [I K.len]) (hS:MS [.view Ak (K.items.map Ag)]=some [I K.set]):
  TJ MS ML MR MB (.view Ak (K.items.map Ag)::B K.closed::Ad (SI K) c)=some (I 0::Ad (S1 K) c):=by
 have key:Out (fun o=>o=I 0::Ad (S1 K) c) (TJ MS ML MR MB (.view Ak (K.items.map Ag)::B K.closed::Ad (SI K) c)):=by
  refine Out.eqv (Zdg MS ML MR MB _ _ (SI K) c) ?_;refine .bind (p:=fun o=>o=_) ⟨_,hB,rfl⟩ fun o e=> ?_;subst e;refine .cond (fun e=>by cases e) fun _=> ?_;refine .bind (p:=fun o=>o=_) ⟨_,hR,rfl⟩ fun o e=> ?_;subst e;refine .cond (fun e=>by cases e) fun _=> .cond (fun _=> ?_) fun e=>by rw[CY (by rw[List.length_map];omega)]at e;cases e
  refine .bind (p:=fun o=>o=_) ⟨_,hL,rfl⟩ fun o e=> ?_;subst e;refine .bind (p:=fun o=>o=_) ⟨_,hS,rfl⟩ fun o e=> ?_;subst e;exact .some rfl
 obtain⟨o,h,rfl⟩:=key;exact h
end Go.Bm
namespace Go.Bm
open Classical
theorem Zqj {MS ML ML' MG' MO MC MD:Fn} {K:Kf}
  (hD:MD (AI K.x++[I K.pa,I K.pb,I K.pc,I K.ramp,I K.lag])=some [B true]) (hC:MC (AI K.x++[I K.pa,I K.pb,I K.pc,I K.ramp,I K.lag])=some (AI K.x++[I K.pa,I K.pb,I K.pc,I K.ramp,I K.lag]))
  (hO:MO []=some [I 100,I 100,B false,B false,B false]) (hG:MG' []=some [I 0,I 0,I (-1)])
  (hL:ML' (.view Ak (K.items.map Ag)::B K.closed::Ad (SI K) CT)=some (I 0::Ad (S1 K) CT))
  (hT:ML (By K.p++AI K.x++[I 1,I 1,I 1,I 0,I K.len])=some (Bj K.t)) (hS:MS [I 0]=some [I 0,I 0,I 0,I 0,I 0,I 0]):
  RO MS ML ML' MG' MO MC MD (AI K.x++[I K.pa,I K.pb,I K.pc,I K.ramp,I K.lag]++[.view Ak (K.items.map Ag),B K.closed])=some (I 0::Ad K CT):=by
 have key:Out (fun o=>o=I 0::Ad K CT) (RO MS ML ML' MG' MO MC MD (AI K.x++[I K.pa,I K.pb,I K.pc,I K.ramp,I K.lag]++[.view Ak (K.items.map Ag),B K.closed])):=by
  refine Out.eqv (Zju MS ML ML' MG' MO MC MD ..) ?_;refine .bind (p:=fun o=>o=_) ⟨_,hD,rfl⟩ fun o e=> ?_;subst e;refine .cond (fun e=>by cases e) fun _=> ?_;refine .bind (p:=fun o=>o=_) ⟨_,hC,rfl⟩ fun o e=> ?_;subst e;refine .bind (p:=fun o=>o=_) ⟨_,hO,rfl⟩ fun o e=> ?_;subst e;refine .bind (p:=fun o=>o=_) ⟨_,hG,rfl⟩ fun o e=> ?_;subst e;refine .bind (p:=fun o=>o=I 0::Ad (S1 K) CT) ⟨_,hL,rfl⟩ fun o e=> ?_;subst e;refine .cond (fun e=>by cases e) fun _=> ?_;refine .bind (p:=fun o=>o=_) ⟨_,hT,rfl⟩ fun o e=> ?_;subst e;refine .bind (p:=fun o=>o=_) ⟨_,hS,rfl⟩ fun o e=> ?_;subst e;exact .some (by kernel_rfl)
 obtain⟨o,h,rfl⟩:=key;exact h
structure MachOK (x : Ax3) (pa pb pc ramp lag : Int) : Prop where
 x:Ax3M x
 plan:Plan3 pa pb pc
 ramp:1<=ramp/\ramp<=60000
 lag:0<=lag/\lag<=40
theorem Un {x:Ax3} {pa pb pc ramp lag:Int} (hm:MachOK x pa pb pc ramp lag) {items:List Itm} (hl:items.length<=15) {p0:Pt} (hi:Items 4084 p0 items) (closed:Bool):
  HF (AI x++[I pa,I pb,I pc,I ramp,I lag]++[.view Ak (items.map Ag),B closed])=some (I 0::Ad (kfP x pa pb pc ramp lag items closed) CT)/\KOK (kfP x pa pb pc ramp lag items closed):=by
 have hc:=Q19 (by omega) hi (show items.length<=20000 by omega);have hg:=Qtk hl hc;obtain⟨i1,i2,i3,i4⟩:=Zo6 hl hi;have hs:=YK (Qh5 hg.start hg.segs);have hcount:=hg.count;refine⟨?_,?_⟩
 ·have hB:No [.view Ak (items.map Ag)]=some (By (A3 items)++[I 0]):=by rw[Zx8 hl,if_pos hc]
  have hS:Oy [.view Ak (items.map Ag)]=some [I (I3 items)]:=by rw[Zgu hl,if_pos hc]
  have hR:=Zru hm.x i1 (fun g h=>(i2 g h).1) (by omega);have hT:=Zkt (d:=⟨1,1,1⟩) (from_:=0) (to:=AT (A3 items).segs) hg hm.x.ok;have hload:=Ziq (K:=kfP x pa pb pc ramp lag items closed) hl CT hB hR (Qt5 hg.ok) hS;have hO:OX []=some [I 100,I 100,B false,B false,B false]:=by show Qgq []=_;rw[Z2a]
  have hG:Ka []=some [I 0,I 0,I (-1)]:=by show Sh []=_;rw[Q4u]
  have hst:Gk [I 0]=some [I 0,I 0,I 0,I 0,I 0,I 0]:=Q2v 0;exact Zqj (K:=kfP x pa pb pc ramp lag items closed) (Zb8 hm.x hm.plan hm.ramp hm.lag) (Zaa hm.x ..) hO hG hload hT hst
 ·refine⟨⟨hg,hm.x,Z23 _ _ _ hm.x.ok hg⟩,hm.plan,fun g h=>(i2 g h).2,i3,?_,?_,?_,Z2u hl hc⟩
  ·show(A3 items).marks.length<=1000000;omega
  ·intro it hit h8;rcases hi.made it hit with⟨-,-,g,-⟩|g
   ·rw[g.2.2.2.1];unfold i64;omega
   ·have:=g.spin h8;unfold i64;omega
  ·show i64 (AT (A3 items).segs);unfold i64;omega
end Go.Bm
