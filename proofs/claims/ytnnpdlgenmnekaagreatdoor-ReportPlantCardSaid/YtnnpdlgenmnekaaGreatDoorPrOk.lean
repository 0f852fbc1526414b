/- laid together -/
import Derived.Test.YtnnpdlgenmnekaaGreatDoorPrEnds
import Derived.Test.YtnnpdlgenmnekaaGreatDoorPrHi
import Derived.Test.YtnnpdlgenmnekaaGreatDoorPrJc
import Derived.Test.YtnnpdlgenmnekaaGreatDoorPrTf
import Derived.Test.YtnnpdlgenmnekaaGreatDoorPrOv
import Derived.Test.YtnnpdlgenmnekaaGreatDoorMx3
import Derived.Test.YtnnpdlgenmnekaaGreatDoorMy1
set_option linter.unusedVariables false
set_option linter.defProp false
set_option linter.unusedSimpArgs false
set_option maxRecDepth 100000
variable {K:Go.Bm.Kf} {a u b W:Int} {p:Go.Bm.Pth} {i A:Nat} {M Z V P:Go.Bm.Fn} {l T:Go.Bm.Rw} {d q:Go.Bm.Pt} {E:List Go.Bm.Evn} {o:List Go.Bm.AC}
namespace Go.Bm
open Classical
def Kj (aA:List Itm) (W:Int):Pt->List Sgm->Prop
 |_,[]=>True
 |a,g::l=>(∃it∈aA,MotOK it W/\K1 it W a g.to)/\Kj aA W g.to l
def Q6x {aA:List Itm} {W:Int} {g:Sgm}:∀{a:Pt} {l:List Sgm},Kj aA W a l->(∃it∈aA,MotOK it W/\K1 it W (Eb a l) g.to)->Kj aA W a (l++[g])
 |_,[],_,h=>⟨h,trivial⟩
 |_,_::_,D,G=>⟨D.1,Q6x D.2 G⟩
def Qh3 {aA:List Itm} {W aU aZ aX:Int} {it:Itm} {a:Pt} (G:it∈aA) (I:MotOK it W):∀(D:List Pt) (p:Pt) (s:List Sgm×Int×Pt),prs (K1 it W) p D->s.2.2=p->Kj aA W a s.1->Eb a s.1=p->
  Kj aA W a (D.foldl (Bd aU aZ aX) s).1/\Eb a (D.foldl (Bd aU aZ aX) s).1=(D.foldl (Bd aU aZ aX) s).2.2
 |[],p,s,_,N,L,M=>by grind
 |q::D,p,s,h,N,L,M=>by
  rw[iq];unfold Bd;by_cases c:q=s.2.2
  ·rw[ac c];exact Qh3 G I D q s h.2 c.symm L (by grind)
  rw[ab c];refine Qh3 G I D q _ h.2 rfl (Q6x L ⟨it,G,I,?_⟩) (Pa _ _ _);rw[M];exact h.1
theorem UO:∀{l:List Itm} {p:Pt},DZ p l->∀i,i<l.length->Aw (vE l i)->(vE l i).fr=Dg p (l.take i)
 |[],_,_,i,G,_=>by grind
 |it::l,p,h,0,_,D=>by
  unfold DZ at h;rw[ac (show Aw it from D)]at h;exact h.1
 |it::l,p,h,i+1,G,D=>by
  have e:vE (it::l) (i+1)=vE l i:=by simp[vE]
  rw[e]at D⊢;rw[List.take_succ_cons];unfold DZ at h;unfold Dg;by_cases c:Aw it
  ·rw[ac c]at h⊢;exact UO h.2 i (by grind) D
  rw[ab c]at h⊢;exact UO h i (by grind) D
theorem Qbz {aA:List Itm} {p:Pt} (h:i<aA.length):Dg p (aA.take (i+1))=if Aw (vE aA i)then(vE aA i).to else Dg p (aA.take i):=by grind [List.take_succ_eq_append_getElem,IZ,PQ]
def Qqj {aA:List Itm} {p:Pt} {i:Nat}:∀k,i+k<=aA.length->(∀j,i<=j->j<i+k->(vE aA j).aP=10)->Dg p (aA.take (i+k))=Dg p (aA.take i)
 |0,_,_=>rfl
 |k+1,h,D=>by
  have:=Qbz (p:=p) (show i+k<aA.length by omega);rw[show i+(k+1)=i+k+1 by omega,this,ab (λc:Aw _=>by have:=c.2;grind)];exact Qqj k (by omega) λj a b=>D j a (by omega)
structure PInv (aA : List Itm) (p0 : Pt) (W : Int) (i : Nat) (s : BSt) : Prop where
 aF:s.bK=true->Kj aA W s.aQ s.aF/\Eb s.aQ s.aF=s.at_
 stand:s.bK=true->(s.frm= -1/\s.at_=Am (Dg p0 (aA.take i)))\/(∃f k:Nat,s.frm=f/\f<i/\BP aA f=k/\i<=k/\s.at_=Lb (Fm aA f k)/\(vE aA f).to=Dg p0 (aA.take i))
 none:s.bK=false->s.frm= -1/\s.aF=[]
theorem Wl {it:Itm} (h:smI it):Aw it:=⟨by have:=h.1;omega,by have:=h.1;omega⟩
def Z19 {aA:List Itm} (L:DZ d aA) (D:∀j<aA.length,Aw (vE aA j)->MotOK (vE aA j) W) {i:Nat} (O:i<aA.length) (U:Aw (vE aA i)):∀k:Nat,BP aA i=k->MotOK (vE aA k) W/\(vE aA k).fr=(vE aA i).to:=by
 intro k V;rcases KQ aA i with h|⟨-,-,k',X,Y,G,I,M⟩
 ·omega
 have e:k'=k:=by omega
 subst e;refine⟨D _ G (Wl I),?_⟩;rw[UO L k' G (Wl I)];have N:=Qqj (aA:=aA) (p:=d) (i:=i+1) (k'-(i+1)) (by omega) λj a b=>M j (by omega) (by omega);rw[show i+1+(k'-(i+1))=k' by omega]at N;simp_all [Qbz]
def Z3b {aA:List Itm} (X:DZ d aA) (I:∀j<aA.length,Aw (vE aA j)->MotOK (vE aA j) W) {i:Nat} (O:i<aA.length) {s:BSt} (h:PInv aA d W i s):PInv aA d W (i+1) (E3 aA i s):=by
 have D:=Qbz (p:=d) O;unfold E3;by_cases N:Aw (vE aA i)
 ·rw[ac N]at D⊢;have L:=I i O N;have a0:=UO X i O N
  have G:(if s.bK=true then s.at_ else Am (vE aA i).fr)=IT aA i s.frm/\(∀f:Nat,s.frm=f->MotOK (vE aA f) W/\(vE aA i).fr=(vE aA f).to):=by
   by_cases hb:s.bK=true
   ·rw[ac hb];rcases h.stand hb with⟨Y,h2⟩|⟨f,k,Y,h2,h3,h4,h5,h6⟩
    ·simp_all [IT]
    rcases KQ aA f with g|⟨g1,-,k',g2,g3,g4,g5,g6⟩
    ·omega
    have e:k'=k:=by omega
    subst e;have e2:k'=i:=by
     by_cases c:i<k'
     ·have:=g6 i (by omega) c;have:=N.2;omega
     omega
    subst e2;refine⟨?_,λf' a1=> ?_⟩
    ·simp_all [IT]
    grind [Wl]
   rw[ab hb];have:=(h.none (by grind)).1;simp_all [IT]
  obtain⟨rest,hp,U⟩:=Z1r L G.2 (Z19 X I O N);have M:Kj aA W (if s.bK=true then s.aQ else Am (vE aA i).fr) (Eo aA i s).1/\Eb (if s.bK=true then s.aQ else Am (vE aA i).fr) (Eo aA i s).1=(Eo aA i s).2.2:=by
   unfold Eo;rw[hp,G.1,iq];have e:Bd i (Ge (vE aA i) s.aS) (Kb (vE aA i)) (s.aF,s.len,IT aA i s.frm) (IT aA i s.frm)=(s.aF,s.len,IT aA i s.frm):=ac rfl;rw[e];refine Qh3 (Tu O) L rest _ _ U rfl ?_ ?_
   ·by_cases hb:s.bK=true
    ·rw[ac hb];exact(h.aF hb).1
    rw[(h.none (by grind)).2];trivial
   by_cases hb:s.bK=true
   ·rw[ac hb];have:=G.1;rw[ac hb]at this;rw[<-this];exact(h.aF hb).2
   have:=G.1;rw[ab hb]at this;rw[(h.none (by grind)).2,ab hb];exact this
  refine⟨λ_=>M,λ_=> ?_,λhb=>by cases hb⟩;simp only;by_cases c:0<=BP aA i
  ·right;obtain⟨l,V⟩:=Yc7 (frm:=s.frm) c;rcases KQ aA i with g|⟨-,-,k,g2,g3,-⟩
   ·omega
   refine⟨i,k,by omega,by omega,g2,by omega,?_,by rw[D]⟩
   grind [Eo,Zea]
  left;obtain⟨l,V⟩:=Ye8 (frm:=s.frm) L.valid c;refine⟨by omega,?_⟩
  grind [Eo,Zea]
 rw[ab N]at D⊢;refine⟨h.aF,λhb=> ?_,h.none⟩;simp only;rw[D];rcases h.stand hb with g|⟨f,k,Y,h2,h3,h4,h5,h6⟩
 ·grind
 grind [KQ,Wl]
def Qkf {aA:List Itm} {p0:Pt} {W:Int} (G:DZ p0 aA) (D:∀j<aA.length,Aw (vE aA j)->MotOK (vE aA j) W):∀i,i<=aA.length->PInv aA p0 W i (Ay aA i)
 |0,_=>⟨λh=>(by cases h),λh=>(by cases h),λ_=>⟨rfl,rfl⟩⟩
 |i+1,I=>Z3b G D (by omega) (Qkf G D i (by omega))
def Qoc {it:Itm} {a p:Pt} {L s:Int} (hW:0<=W) (U:MotOK it W) (h:K1 it W a p) (G:0<L) (hs:0<=s/\s<=L) {q:Pt}
  (V:q=⟨a.x+AA ((p.x-a.x)*s) L,a.y+AA ((p.y-a.y)*s) L,a.z+AA ((p.z-a.z)*s) L⟩) (h7:7<=W+3):FR it q (W+3):=by
 have I:=LY (s:=(p.x-a.x)*s) G;have M:=LY (s:=(p.y-a.y)*s) G;have N:=LY (s:=(p.z-a.z)*s) G;have qx:q.x-a.x=AA ((p.x-a.x)*s) L:=by rw[V];simp only;omega
 have qy:q.y-a.y=AA ((p.y-a.y)*s) L:=by rw[V];simp only;omega
 have qz:q.z-a.z=AA ((p.z-a.z)*s) L:=by rw[V];simp only;omega
 rw[<-qx]at I;rw[<-qy]at M;rw[<-qz]at N;refine⟨U.valid,?_⟩;rcases h with⟨O,m,k,k',g1,g2⟩|⟨O,x,y,X,rfl,rfl⟩
 ·rw[ab O];exact Zpr (Jb (by omega) (Ztf hW g1 g2 G hs I M N) (by omega))
 rw[ac O];obtain⟨hp,hd,R0,R1,he,Y⟩:=U.arc O;have c1:∀s:Spk,plU it.aG (Bo it s)=plU it.aG (Am it.ce)+s.u:=λs=>by grind [Bo,CI]
 have c2:∀s:Spk,plW it.aG (Bo it s)=plW it.aG (Am it.ce)+s.w:=λs=>by grind [Bo,CI]
 have c3:∀s:Spk,plH it.aG (Bo it s)=s.h:=λs=>by grind [Bo,CI]
 have key:(-L<=2*(L*(plU it.aG q-plU it.aG (Bo it x))-(plU it.aG (Bo it y)-plU it.aG (Bo it x))*s)/\2*(L*(plU it.aG q-plU it.aG (Bo it x))-(plU it.aG (Bo it y)-plU it.aG (Bo it x))*s)<=L)/\
   (-L<=2*(L*(plW it.aG q-plW it.aG (Bo it x))-(plW it.aG (Bo it y)-plW it.aG (Bo it x))*s)/\2*(L*(plW it.aG q-plW it.aG (Bo it x))-(plW it.aG (Bo it y)-plW it.aG (Bo it x))*s)<=L)/\
   (-L<=2*(L*(plH it.aG q-plH it.aG (Bo it x))-(plH it.aG (Bo it y)-plH it.aG (Bo it x))*s)/\2*(L*(plH it.aG q-plH it.aG (Bo it x))-(plH it.aG (Bo it y)-plH it.aG (Bo it x))*s)<=L):=by
  generalize Bo it x=u at*;generalize Bo it y=v at*;generalize it.aG=pl at*;rcases hp with rfl|rfl|rfl
  ·exact⟨I,M,N⟩
  ·exact⟨N,I,M⟩
  exact⟨M,N,I⟩
 obtain⟨k1,k2,k3⟩:=key;rw[c1,c1]at k1;rw[c2,c2]at k2;rw[c3,c3]at k3;have z1:∀c u v:Int,c+v-(c+u)=v-u:=λc u v=>by omega
 rw[z1]at k1 k2;have a0:=Z03 hp hd he Y X G hs (q:=q) (by unfold pU;grind) (by unfold pW;grind) k3;have D:FR it q 7:=⟨U.valid,by grind⟩;have:=(Z5j (by omega) h7 D).2
 grind
def Zvk {it:Itm} (D:0<=W) (G:MotOK it W) (h:K1 it W d q) (I:7<=W+3):FR it q (W+3):=by
 refine Qoc (L:=1) (s:=1) D G h (by omega) (by omega) ?_ I;have e:∀u v:Int,u+AA ((v-u)*1) 1=v:=λu v=>by rw[Qs (by omega)];omega
 simp_all
def Zc8 {aA:List Itm} {W:Int} (I:0<=W) (M:7<=W+3):∀{l:List Sgm} {a:Pt} {s:Int},Kj aA W a l->(∀g∈l,1<=g.len)->0<=s->l≠[]->∃it∈aA,FR it (atL a l s) (W+3)
 |[],_,_,_,_,_,h=>absurd rfl h
 |g::l,a,s,h,N,V,_=>by
  obtain⟨⟨it,O,U,G⟩,D⟩:=h;have Y:=N g (by simp);unfold atL;by_cases c:s<g.len
  ·rw[ac c];exact⟨it,O,Qoc (L:=g.len) (s:=s) I U G (by omega) ⟨V,by omega⟩ rfl M⟩
  rw[ab c];cases l with
  |nil=>exact⟨it,O,Zvk I U G M⟩
  |cons g' l'=>exact Zc8 I M D (λk X=>N k (fj _ X)) (by omega) (by simp)
def E7:List Itm->Int->Int
 |[],v=>v
 |it::l,v=>E7 l (if Aw it then mx v it.bJ else v)
def Zua (a b:Int):a<=mx a b/\b<=mx a b:=by grind [mx]
def Qbw:∀{l:List Itm} {v:Int},v<=E7 l v/\∀it∈l,Aw it->it.bJ<=E7 l v
 |[],v=>⟨fa _,by simp⟩
 |k::l,v=>by
  obtain⟨D,G⟩:=Qbw (l:=l) (v:=if Aw k then mx v k.bJ else v);have I:=Zua v k.bJ;unfold E7
  grind
def Zlp {C:Int}:∀{l:List Itm} {v:Int},v<=C->(∀it∈l,Aw it->it.bJ<=C)->E7 l v<=C
 |[],_,h,_=>h
 |k::l,v,h,hb=>by
  unfold E7;refine Zlp ?_ λit D=>hb it (by grind)
  grind [mx]
def Zq4 (it:Itm):Pn (Ag it)=some [B (decide (Aw it))]:=by
 unfold Pn;rw[Z81];unfold Aw
 grind
def Qq6 {G:Fn} {aA:List Itm} (M:∀it,G (Ag it)=some [B (decide (Aw it))]) (N:aA.length<=1000000):∀(k i:Nat) (v:Int),i+k=aA.length->
  Ak (UH G) [I v, .vC Ae (aA.map Ag),I aA.length,I i]=some (1,[I (E7 (aA.drop i) v)])
 |0,i,v,U=>by
  rw[fc (by omega)];refine Bc ?_ (by simp);rw[Zjy,BX (by omega)];rfl
 |k+1,i,v,U=>by
  have D:i<aA.length:=by omega
  have V:=Fq D;have X:(0:Int)<=(i:Int)/\(i:Int)<(aA.length:Int):=by omega
  have hw:O ((i:Int)+1)=((i+1:Nat):Int):=by rw[Ad];omega
  have Y:=M (vE aA i);rw[Xa D];have L:UH G [I v, .vC Ae (aA.map Ag),I aA.length,I i]=some (0,[I (if Aw (vE aA i)then mx v (vE aA i).bJ else v), .vC Ae (aA.map Ag),I aA.length,I (i+1:Nat)]):=by
   generalize vE aA i=it at*;rw[Zjy];simp only[go_sem,ag,V,Y];by_cases c:Aw it
   ·grind
   grind
  rw[Bw L];exact Qq6 M N k (i+1) _ (by omega)
def Zqr {aA:List Itm} (G:aA.length<=1000) (hb:E7 aA 0<=1000):Ns [.vC Ae (aA.map Ag)]=some [I (7+16*E7 aA 0)]:=by
 have h:=Qq6 (aA:=aA) Zq4 (by omega) aA.length 0 0 (by omega);have D:=(Qbw (l:=aA) (v:=0)).1;have h':Qi7 [I 0, .vC Ae (aA.map Ag),I aA.length,I 0]=some (1,[I (E7 aA 0)]):=h;unfold Ns;rw[Z2d];simp only[go_sem,aj,h',Ad (x:=16*E7 aA 0),Ad (x:=7+16*E7 aA 0)]
def Qbd {u v L s:Int} {B:Nat} (M:u.natAbs<=B) (N:v.natAbs<=B) (G:0<L) (D:0<=s/\s<=L):(u+AA ((v-u)*s) L).natAbs<=B:=by
 have O:=LY (s:=(v-u)*s) G;generalize AA ((v-u)*s) L=r at*;have U:(L-s)*u<=(L-s)*B:=af;have V:s*v<=s*B:=af (by omega) D.1;have X:(L-s)* -B<=(L-s)*u:=af;have Y:s* -B<=s*v:=af (by omega) D.1;have e1:(L-s)*u+s*v=L*u+(v-u)*s:=by grind
 have e2:(L-s)*(B:Int)+s*B=L*B:=by grind
 have e3:(L-s)* -(B:Int)+s* -B= -(L*B):=by grind
 have up:L*(u+r)<L*(B+1):=by
  have e:L*(u+r)=L*u+L*r:=by grind
  have I:L*((B:Int)+1)=L*B+L:=by grind
  omega
 have lo:L*(-(B:Int)-1)<L*(u+r):=by
  have e:L*(u+r)=L*u+L*r:=by grind
  have I:L*(-(B:Int)-1)= -(L*B)-L:=by grind
  omega
 have:=gv up (by omega);have:=gv lo (by omega);omega
def Q0m {aU:Int}:∀{l:List Sgm} {a:Pt} {aU s:Int},bd B24 a->LB aU a l->(∀g∈l,1<=g.len)->0<=s->bd B24 (atL a l s)
 |[],a,_,_,D,_,_,_=>D
 |g::l,a,_,s,D,h,L,G=>by
  obtain⟨⟨I,-⟩,M⟩:=h;unfold atL;by_cases c:s<g.len
  ·rw[ac c];obtain⟨a1,a2,a3⟩:=D;obtain⟨b1,b2,b3⟩:=I;exact⟨Qbd a1 b1 (by omega) ⟨G,by omega⟩,Qbd a2 b2 (by omega) ⟨G,by omega⟩,Qbd a3 b3 (by omega) ⟨G,by omega⟩⟩
  rw[ab c];exact Q0m (aU:=aU) I M (λk N=>L k (fj _ N)) (by omega)
def Qxt {aA:List Itm} (g2:Items 4084 d aA):E7 aA 0<=9:=Zlp (by omega) λit G I=>by
 rcases g2.made it G with⟨-,D,-⟩|h
 ·exact D.bJ.2
 have:=h.aP;have:=I.2;omega
def Z8w {aA:List Itm} (g2:Items 4084 d aA) (hlen:aA.length<=15) (M:(A7 aA).aF≠[]) {s:Int} (U:0<=s):
  NH [.vC Ae (aA.map Ag),I (atP (A7 aA) s).x,I (atP (A7 aA) s).y,I (atP (A7 aA) s).z,I (7+16*E7 aA 0)]=some [B true]:=by
 have V:=Qtl g2 (show 4084<=40004 by omega);have hc:=Wt (by omega) V (by omega);have G:=(L9 hc).2;have hg:=Ye hlen hc;have L:=Zz5 V hlen;have X:=Qxt g2;obtain⟨a3,a4⟩:=Qbw (l:=aA) (v:=0);have N:∀j<aA.length,Aw (vE aA j)->MotOK (vE aA j) (16*E7 aA 0+4):=λj hj hm=>by
  have hd:=(Ia (G j hj) hm).1;have hi:=Tu hj;rcases g2.made _ hi with⟨-,O,-,f1,f2⟩|h
  ·refine⟨hd.1,AH f1 (by omega),AH f2 (by omega),⟨O.bJ.1,by grind⟩,λh3=> ?_⟩;have Y:=O.arc h3;obtain⟨R0,R1,he⟩:=Zso Y hd.1
   grind [Y.aG,Y.dir,Yau]
  have:=h.aP;have:=hm.2;omega
 have hinv:=Qkf V.link N aA.length (dm _);have hb:(Ay aA aA.length).bK=true:=by
  by_cases hb:(Ay aA aA.length).bK=true
  ·exact hb
  exact absurd (hinv.none (by grind)).2 M
 have a0:Kj aA (16*E7 aA 0+4) (A7 aA).aQ (A7 aA).aF:=(hinv.aF hb).1;have D:=λg a1=>(hg.ok.seg g a1).1;have a5:atP (A7 aA) s=atL (A7 aA).aQ (A7 aA).aF s:=by unfold atP;rw[jt U]
 obtain⟨it,hi,a6⟩:=Zc8 (by omega) (by omega) a0 D U M;have a2:=Q0m (aU:=0) L.1 L.2.1 D U;obtain⟨v,e1,e2⟩:=Yan (aA:=aA) (AH a2 (by decide)) (e:=7+16*E7 aA 0) (by omega) (by omega)
 grind
end Go.Bm
noncomputable section
namespace Go.Bm
def ok1 (r:Nat) (a b t:Int):Bool:=bif decide (0<=a)then decide (a*r+b<=t)else bif Nat.beq r 1 then decide (a+5*max (b-t) 0<=0)else decide (a*(r-1)+b<=t)
end Go.Bm
namespace Go.Bm
open Classical
end Go.Bm
namespace Go.Bm
end Go.Bm
namespace Go.Bm
open Classical
end Go.Bm
namespace Go.Bm
end Go.Bm
namespace Go.Bm
open Classical
end Go.Bm
namespace Go.Bm
end Go.Bm
namespace Go.Bm
open Classical
def Z9a (N:Src l) (D:Src T) (O:T.length<=100000):∃(x:Ax3) (a b c bH lag:Int),Px [.vC Aa l, .vC Aa T]=some (AF x++[I a,I b,I c,I bH,I lag])/\MachOK x (a+50) (b+10) (c+2000) bH lag/\(1<=a/\a<=900)/\(2<=b/\b<=201)/\(1<=c/\c<=16000):=by
 obtain⟨x,U,V⟩:=Z52 N;obtain⟨a,b,c,X,G,L,M⟩:=Zur (MF:=DR) (HX D) (RZ T);obtain⟨bH,lag,g1,g2⟩:=Zsr (MP:=XL) (MF:=DR) (HX D) (RZ T) U V X G L M O;exact⟨x,a,b,c,bH,lag,g1,⟨g2.x,⟨by omega,by omega,by omega⟩,g2.bH,g2.lag⟩,G,L,M⟩
end Go.Bm
namespace Go.Bm
def qI (it:Itm):Itm:=if it.aP=2\/it.aP=3 then{it with aZ:=2000000}else it
abbrev Mw:List AC:=[I 0,I 0,I 0,I 0,I 0,I 0,I 0,I 0,I 0, .vC Aa [],I 0,I 0,I 0,I 0,I 0,I 0,I 0,I 0,I 0, .vC Aa [],I 0,I 0,I 0,I 0,I 0,I 0,I 0,I 0,I 0, .vC Aa [],I 0,I 0,I 0,I 0,I 0]
def Ya3 {aA:List Itm} (hl:aA.length<=100000) {x:Ax3} {p0 p1 p2 p3 p4:Int}:
  Out (λo=>o=(1, .vC Ae ((aA.map qI).map Ag)::(AF x++([I p0,I p1,I p2,I p3,I p4]++Mw))))
   (Ak Qe0 (.vC Ae (((aA.take 0).map qI++aA.drop 0).map Ag)::I ((aA.map Ag).length:Int)::I ((0:Nat):Int)::(AF x++([I p0,I p1,I p2,I p3,I p4]++Mw)))):=by
 refine Ch (λk:Nat=> .vC Ae (((aA.take k).map qI++aA.drop k).map Ag)::I ((aA.map Ag).length:Int)::I (k:Int)::(AF x++([I p0,I p1,I p2,I p3,I p4]++Mw)))
  (λk=>k<=aA.length) (λk=>aA.length-k) _ ?_ 0 (i8 _)
 intro k hk;refine Out.eqv (Z5y ..) ?_;have el:((aA.map Ag).length:Int)=aA.length:=by rw[aj]
 have ll:(((aA.take k).map qI++aA.drop k).map Ag).length=aA.length:=by
  rw[aj,cg,aj,jm,fo];omega
 refine .cond (λL=> ?_) λL=> ?_
 ·have L:=Ba L;have M:k<aA.length:=by omega
  have V:aA.drop k=aA[k]::aA.drop (k+1):=dy M;have ta:((aA.take k).map qI).length=k:=by rw[aj,jm];omega
  have N:nth [] (((aA.take k).map qI++aA.drop k).map Ag) (k:Int).toNat=Ag aA[k]:=by
   rw[ag,Fu [] _ k (by omega),i7,List.getElem_append_right (by omega)];simp only[ta,Nat.sub_self,V,List.getElem_cons_zero]
  have Y:(aA.take (k+1)).map qI++aA.drop (k+1)=(aA.take k).map qI++qI aA[k]::aA.drop (k+1):=by
   rw[gz,an M,d8,ic];rfl
  have es:∀it:Itm,(((aA.take k).map qI++aA.drop k).map Ag).set (k:Int).toNat (Ag it)=((aA.take k).map qI++it::aA.drop (k+1)).map Ag:=λit=>by
   rw[V,d8,bz,d8,bz,ag];have:=Ybh (((aA.take k).map qI).map Ag) (Ag aA[k]) (Ag it) ((aA.drop (k+1)).map Ag)
   grind
  have fin:(aA[k].aP=2\/aA[k].aP=3)->Out (λo=>(o.1=0/\∃U:Nat,o.2= .vC Ae (((aA.take U).map qI++aA.drop U).map Ag)::I ((aA.map Ag).length:Int)::I (U:Int)::(AF x++([I p0,I p1,I p2,I p3,I p4]++Mw))/\U<=aA.length/\aA.length-U<aA.length-k)\/o.1≠0/\o=(1, .vC Ae ((aA.map qI).map Ag)::(AF x++([I p0,I p1,I p2,I p3,I p4]++Mw))))
    (bif decide (0<=(k:Int))&&decide ((k:Int)<((((aA.take k).map qI++aA.drop k).map Ag).length:Int))then some ((0:Nat), .vC Ae ((((aA.take k).map qI++aA.drop k).map Ag).set (k:Int).toNat (Ag {aA[k]with aZ:=2000000}))::I ((aA.map Ag).length:Int)::I (O ((k:Int)+1))::(AF x++([I p0,I p1,I p2,I p3,I p4]++Mw)))else none):=λhq=>by
   refine .cond (λ_=> ?_) λe=>(inB (by omega) (by omega) e).elim;have X:qI aA[k]={aA[k]with aZ:=2000000}:=by unfold qI;rw[ac hq]
   rw[Ad (x:=(k:Int)+1),es,<-X,<-Y];exact .some (.inl ⟨rfl,k+1,rfl,by omega,by omega⟩)
  refine .cond (λ_=> ?_) λe=>(inB (by omega) (by omega) e).elim;refine .cond (λD=> ?_) λD=> ?_
  ·rw[N]at D;have D:(aA[k].aP==2)=true:=D;refine Out.eqv ?_ (fin (.inl (by grind)));show(bif _ then _ else _)=_;rw[N];rfl
  refine .cond (λ_=> ?_) λe=>(inB (by omega) (by omega) e).elim;refine .cond (λG=> ?_) λG=> ?_
  ·rw[N]at G;have G:(aA[k].aP==3)=true:=G;refine Out.eqv ?_ (fin (.inr (by grind)));show(bif _ then _ else _)=_;rw[N];rfl
  rw[N]at D G;have D:(aA[k].aP==2)=false:=D;have G:(aA[k].aP==3)=false:=G;have X:qI aA[k]=aA[k]:=by unfold qI;rw[ab (by grind)]
  refine .some (.inl ⟨rfl,k+1,?_,by omega,by omega⟩);dsimp only;rw[Y,X,<-V,Ad (x:=(k:Int)+1)];rfl
 have L:=B0 L;have e:k=aA.length:=by omega
 refine .some (.inr ⟨by simp,?_⟩);simp_all
def Ydj {aA:List Itm} (G:aA.length<=100000) (x:Ax3) {p0 p1 p2:Int} (p3 p4:Int) (L:0<=p0/\p0<=1000000) (M:0<=p1/\p1<=1000000) (N:0<=p2/\p2<=1000000):
  Oi (.vC Ae (aA.map Ag)::(AF x++[I p0,I p1,I p2,I p3,I p4]))=some (.vC Ae ((aA.map qI).map Ag)::(AF x++[I (p0+50),I (p1+10),I (p2+2000),I p3,I p4])):=by
 obtain⟨o,D,rfl⟩:=Ya3 G (x:=x) (p0:=p0) (p1:=p1) (p2:=p2) (p3:=p3) (p4:=p4);refine de (Ycq ..) ?_;have D:W1 (.vC Ae (aA.map Ag)::I ((aA.map Ag).length:Int)::I 0::(AF x++([I p0,I p1,I p2,I p3,I p4]++Mw)))=_:=D;refine eB D (eT rfl ?_);rw[<-Ad (x:=p0+50),<-Ad (x:=p1+10),<-Ad (x:=p2+2000)];rfl
def Qg (m:Int):Bool:=m==7||m==8
def GL (E:List Evn):Nat->Nat->Kf->Cv->Rw
 |0,_,_,_=>[]
 |n+1,k,K,c=>tkA K c (atE E k)::if Qg (stA K c (atE E k)).1=true then []else GL E n (k+1) (Ef K c (atE E k)).1 (Ef K c (atE E k)).2
def Zdr (E:List Evn):∀(n k:Nat) (K:Kf) (c:Cv),(GL E n k K c).length<=n
 |0,_,_,_=>dm _
 |n+1,k,K,c=>by
  have:=Zdr E n (k+1) (Ef K c (atE E k)).1 (Ef K c (atE E k)).2;unfold GL;split
  ·simp
  simpa using this
abbrev tV (l:Rw):AC:= .vC [Kd.sl kPt,Kd.sl Aa,kI,kI,kI,kI,kI,kI,kI] l
def Zxg (D:E.length<=1000000) (k:Int):Ti [.vC kPt (E.map evR),I k]=some [.vC kPt ((atE E k).map evR)]:=by
 have G:Ak W3 [.vC kPt [],I k, .vC kPt (E.map evR),I E.length,I ((0:Nat):Int)]=some (1,[.vC kPt ((E.filter λe=>e.cycle==k).map evR)]):=by
  refine Zvw D (enc:=λl i=>[.vC kPt l,I k, .vC kPt (E.map evR),I E.length,I (i:Int)]) λl i M L=> ?_;rw[Zsz];by_cases h:i<E.length
  ·rw[dif_pos h,GE (by grind),GE (by grind),Qdv E h,Ad];by_cases c:(E[i].cycle==k)=true
   ·rw[GE (show(gA (evR E[i]) 0==k)=true from c),Dd (by grind),ac c];rfl
   rw[CE (show(gA (evR E[i]) 0==k)=false from Bool.eq_false_iff.2 c),ab c,List.append_nil];rfl
  grind
 show Qkd (Ak W3) [.vC kPt (E.map evR),I k]=_;rw[Ydo,aj];rw[show(0:Int)=((0:Nat):Int)from rfl,G];rfl
def VE:Int->List Evn->Prop
 |_,[]=>True
 |p,e::l=>(p<=e.cycle/\e.cycle<=1073741824/\1<=e.aP/\e.aP<=13/\ -1073741824<=e.n/\e.n<=1073741824)/\VE e.cycle l
def Qsy {E:List Evn} (L:E.length<=2000):∀(m i:Nat) (p:Int),i+m=E.length->VE p (E.drop i)->Ak OI [I p, .vC kPt (E.map evR),I E.length,I (i:Int)]=some (2,[])
 |0,i,p,h,_=>by
  have e:OI [I p, .vC kPt (E.map evR),I E.length,I (i:Int)]=some (2,[]):=by
   rw[Zkn];exact eF (ba (by omega)) rfl
  grind [Bc]
 |m+1,i,p,h,D=>by
  have G:i<E.length:=by omega
  rw[dy G]at D;obtain⟨⟨M,N,O,U,V,X⟩,D⟩:=D;have e:OI [I p, .vC kPt (E.map evR),I E.length,I (i:Int)]=some (0,[I E[i].cycle, .vC kPt (E.map evR),I E.length,I ((i+1:Nat):Int)]):=by
   rw[Zkn];refine eT (av (by omega)) (eT (by grind) ?_);rw[Qdv E G,Ad];exact eF (ba (show¬E[i].cycle<p by omega)) (eF (ba (show¬E[i].cycle>1073741824 by omega)) (eF (ba (show¬E[i].aP<1 by omega)) (eF (ba (show¬E[i].aP>13 by omega)) (eF (ba (show¬E[i].n< -1073741824 by omega)) (eF (ba (show¬E[i].n>1073741824 by omega)) rfl)))))
  rw[Bw e];exact Qsy L m (i+1) _ (by omega) D
def Zy5 (D:E.length<=2000) (h:VE 0 E):SZ [.vC kPt (E.map evR)]=some [B true]:=by
 show Qhe (Ak OI) [.vC kPt (E.map evR)]=_;rw[Z4c,aj];exact eF (ba (by omega)) (eB (Qsy D E.length 0 0 (by omega) h) rfl)
structure RunI (MS : Fn) (E : List Evn) (n0 : Nat) (J : Nat -> Kf -> Cv -> Prop) : Prop where
 step:∀(k:Nat) (K:Kf) (c:Cv),J k K c->k<n0->MS (.vC kPt ((atE E k).map evR)::Ac K c)=some (tkA K c (atE E k)++Ac (Ef K c (atE E k)).1 (Ef K c (atE E k)).2)
 next:∀(k:Nat) (K:Kf) (c:Cv),J k K c->k<n0->Qg (stA K c (atE E k)).1=false->J (k+1) (Ef K c (atE E k)).1 (Ef K c (atE E k)).2
theorem Zl4 {MS D MN MV:Fn} {E:List Evn} {n0:Nat} (hn:n0<=1073741824) {J:Nat->Kf->Cv->Prop} (L:RunI MS E n0 J) (M:∀k:Nat,D [.vC kPt (E.map evR),I k]=some [.vC kPt ((atE E k).map evR)]):
  ∀(n k:Nat) (acc:Rw) (K:Kf) (c:Cv),k+n=n0->acc.length<=k->J k K c->
   Ak (Qh MS D MN MV) (tV acc:: .vC kPt (E.map evR)::I n0::I k::Ac K c)=some (1,[tV (acc++GL E n k K c)])
 |0,k,acc,K,c,h,_,_=>by
  have e:Qh MS D MN MV (tV acc:: .vC kPt (E.map evR)::I n0::I k::Ac K c)=some (1,[tV acc]):=by
   rw[Zei];exact eF (ba (by omega)) rfl
  grind [Bc,GL]
 |n+1,k,acc,K,c,h,V,N=>by
  have U:=L.step k K c N (by omega);have hb:Nat.ble ((acc++[tkA K c (atE E k)]).length*104) 140737488355328=true:=Dd (by grind);have key:∀{r:Option (Nat×List AC)},(bif(stA K c (atE E k)).1==7 then some (1,[tV (acc++[tkA K c (atE E k)])])else bif(stA K c (atE E k)).1==8 then some (1,[tV (acc++[tkA K c (atE E k)])])else some (0,tV (acc++[tkA K c (atE E k)]):: .vC kPt (E.map evR)::I n0::I ((k+1:Nat):Int)::Ac (Ef K c (atE E k)).1 (Ef K c (atE E k)).2))=r->
    Qh MS D MN MV (tV acc:: .vC kPt (E.map evR)::I n0::I k::Ac K c)=r:=by
   rintro r rfl;rw[Zei];refine eT (av (by omega)) (eB (M k) (eB U (eT hb ?_)));rw[Ad (x:=(k:Int)+1)];rfl
  rw[GL];cases G:Qg (stA K c (atE E k)).1
  ·have O:((stA K c (atE E k)).1==7)=false/\((stA K c (atE E k)).1==8)=false:=by unfold Qg at G;simpa using G
   rw[Bw (key (by rw[O.1,O.2];rfl)),ab (by simp),Zl4 hn L M n (k+1) _ _ _ (by omega) (by grind) (L.next k K c N (by omega) G),ic];rfl
  rw[ac rfl];refine Bc (key ?_) (by simp);unfold Qg at G
  grind
def Zrt (hn:i<=1073741824) {J:Nat->Kf->Cv->Prop} (U:RunI M E i J) (X:∀k:Nat,Z [.vC kPt (E.map evR),I k]=some [.vC kPt ((atE E k).map evR)])
  (hV:P [.vC kPt (E.map evR)]=some [B true]) {x:Ax3} {p0 G L N O:Int} {D:Rw} {K:Kf} {c:Cv} (Y:V (AF x++[I p0,I G,I L,I N,I O]++[.vC Ae D,B true])=some (I 0::Ac K c)) (h0:J 0 K c):
  Qfm M Z V P (Ak (Qh M Z V P)) (AF x++[I p0,I G,I L,I N,I O]++[.vC Ae D, .vC kPt (E.map evR),I (i:Int)])=some [tV (GL E i 0 K c),I 0]:=by
 refine de (Zxv ..) ?_;have hl:=Zl4 (MN:=V) (MV:=P) hn U X i 0 [] K c (by omega) (dm _) h0;exact eB hV (eF rfl (eF (ba (by omega)) (eB Y (eF rfl (eB hl (eT rfl rfl))))))
def Qvr (O:E.length<=2000) (U:VE 0 E) {n0:Nat} (hn:n0<=1073741824) {J:Nat->Kf->Cv->Prop} (V:RunI KG E n0 J)
  {x:Ax3} {p0 G L M N:Int} {D:Rw} {K:Kf} {c:Cv} (X:Mn (AF x++[I p0,I G,I L,I M,I N]++[.vC Ae D,B true])=some (I 0::Ac K c)) (Y:J 0 K c):
  LZ (AF x++[I p0,I G,I L,I M,I N]++[.vC Ae D, .vC kPt (E.map evR),I (n0:Int)])=some [tV (GL E n0 0 K c),I 0]:=
 Zrt hn V (λk=>Zxg (by omega) k) (Zy5 O U) X Y
def Q9v {n0:Nat} (hn:n0<=10000) (D:∀k:Nat,EvE (atE E k)):RunI KG E n0 λk K c=>KOK K/\Ga K (k:Int) c:=
 ⟨λk K c h G=>Zpb h.1 h.2 (by omega) (D k),λk K c h G _=>⟨Q0e h.1 c _,Q0x h.1 h.2 (by omega) (D k)⟩⟩
theorem Z7r {c:Cv} (h:Vk E):BW K c E=(K,U_ c E):=by
 have key:∀(E:List Evn) (d:Cv),(∀e∈E,e.aP≠7/\e.aP≠12/\e.aP≠13)->E.foldl (λs e=>evA s e.aP e.n) (K,d)=(K,E.foldl (λc e=>evC c e.aP e.n) d):=by
  intro E;induction E with
  |nil=>simp
  |cons e E D=>
   intro d h;have he:=h e (by simp);have G:evA (K,d) e.aP e.n=(K,evC d e.aP e.n):=by
    unfold evA;rw[ab he.2.2,ab he.2.1,ab he.1]
   grind
 exact key E (JZ c) h.2
theorem Zv4 {c:Cv} (h:Vk E):A9 K c E=(K,H9 K c E):=by grind [A9,H9,Z7r]
theorem Z2e {c:Cv} (h:(Cr K c).1=0):(Cr K c).2=c:=by
 unfold Cr at h⊢;by_cases D:c.g0=2
 ·grind
 rw[ab D]at h⊢;by_cases G:c.aI≠0
 ·grind
 rw[ab G]at h⊢;by_cases I:c.aH=true/\c.aM=true
 ·grind
 rw[ab I]at h⊢;by_cases L:c.on=true
 ·simp_all [Zg9]
 grind
theorem Zzm {n:Int} {c:Cv} (g:Gd K n c) {E:List Evn} (h:Vk E):stA K c E=((stC K c E).1,K,(stC K c E).2):=by
 have D:=Z5o g E;have e:B8 K (H9 K c E)=((Cr K (H9 K c E)).1,K,(Cr K (H9 K c E)).2):=by
  unfold B8;by_cases G:(Cr K (H9 K c E)).1≠0
  ·grind
  rw[ab G,ab (by simp[D.way])]
  grind [Z2e]
 unfold stA stC;rw[Zv4 h]
 grind
def DL:Rw->Rw
 |[]=>[]
 |t::l=>wA t 0++DL l
def Z0z (E:List Evn) (n k:Nat) (K:Kf) (c:Cv):0<n->(GL E n k K c).length≠0:=by
 intro hn;cases n with
 |zero=>omega
 |succ n=>unfold GL;simp
def Ya0 (l:Rw) (t:List AC) (D:l.length<=1073741824):UQ [tV (l++[t])]=some [B (gA t 2==7)]:=by
 show ZS _=_;rw[Z1y];have e:((l++[t]).length:Int)=l.length+1:=by rw[cg,ip];omega
 rw[e,Ad,show(l.length:Int)+1-1=l.length by omega];refine eT (av (by omega)) (eT (by grind) ?_);simp[Fu]
theorem Ycr:KO 0=⟨#[48]⟩:=by simp[KO,Lib.itoa,Lib.decDigits]
theorem Z31:KO 7=⟨#[55]⟩:=by simp[KO,Lib.itoa,Lib.decDigits]
theorem Z13:KO 160=⟨#[49,54,48]⟩:=by simp[KO,Lib.itoa,Lib.decDigits]
theorem Qcb {n:Int} (h: -9223372036854775808<=n/\n<=9223372036854775807):LA [I n]=some [.raw (.string (KO n))]:=by
 show cond (decide (-9223372036854775808<=n)&&decide (n<=9223372036854775807)) _ _=_;rw[av h.1,av h.2];rfl
def Zpn (D:M [I 0]=some [.raw (.string ⟨#[48]⟩)]) (G:M [I 7]=some [.raw (.string ⟨#[55]⟩)]) (L:M [I 160]=some [.raw (.string ⟨#[49,54,48]⟩)]):
  Zn M (Ak (TO M)) [I 0, .vC kPt [], .vC Aa [],I 7,I 160,I 0,I 0,I 0,I 0,I 0]=some [.raw (.string ⟨#[48,32,109,111,100,101,55,32,97,116,49,54,48,32,102,97,117,108,116,48,10]⟩)]:=by
 have N:TO M [AC.raw (Go.Value.string ⟨#[48,32,109,111,100,101,55,32,97,116,49,54,48,32,102,97,117,108,116,48]⟩), .vC Aa [],I 0,I 0]=some (1,[AC.raw (Value.string ⟨#[48,32,109,111,100,101,55,32,97,116,49,54,48,32,102,97,117,108,116,48]⟩)]):=by
  rw[Z0l];rfl
 rw[Z2r];exact eB D (eT rfl (eB G (eT rfl (eT rfl (eB L (eT rfl (eT rfl (eB D (eT rfl (eB (Bc N (by simp)) (eT rfl (eT rfl rfl))))))))))))
def Yew:Qbt [I 0, .vC kPt [], .vC Aa [],I 7,I 160,I 0,I 0,I 0,I 0,I 0]=some [.raw (.string ⟨#[48,32,109,111,100,101,55,32,97,116,49,54,48,32,102,97,117,108,116,48,10]⟩)]:=
 Zpn (by grind [Qcb,Ycr]) (by grind [Qcb,Z31]) (by grind [Qcb,Z13])
def Ydr {b:ByteArray} (h:M [I 0, .vC kPt [], .vC Aa [],I 7,I 160,I 0,I 0,I 0,I 0,I 0]=some [.raw (.string b)]) (hb:b.size<=1000):
  RV M [tV [[.vC (Aa++(Aa++(Aa++[]))) [], .vC Aa [],I 7,I 160,I 0,I 0,I 0,I 0,I 0]]]=some [.raw (.string ⟨b.data.toList.toArray⟩)]:=by
 have e:Gx M [[.vC (Aa++(Aa++(Aa++[]))) [], .vC Aa [],I 7,I 160,I 0,I 0,I 0,I 0,I 0]] 1=some b.data.toList:=by
  refine eB rfl (eT rfl (eB h (eT (Dd ?_) rfl)));show 0+b.size<=_;omega
 exact eB e rfl
def Z4q:RH [tV [[.vC (Aa++(Aa++(Aa++[]))) [], .vC Aa [],I 7,I 160,I 0,I 0,I 0,I 0,I 0]]]=some [.raw (.string ⟨#[48,32,109,111,100,101,55,32,97,116,49,54,48,32,102,97,117,108,116,48,10]⟩)]:=
 Ydr Yew (by decide)
def Yaf (D:V (AF ZB++[I 9,I 3,I 100,I 1,I 0]++[.vC Ae (([]:List Itm).map Ag), .vC kPt (([]:List Evn).map evR),I ((5:Nat):Int)])=some [tV [o],I 0]) (G:Z [tV [o]]=some [B true])
  (L:M [tV [[.vC (Aa++(Aa++(Aa++[]))) [], .vC Aa [],I 7,I 160,I 0,I 0,I 0,I 0,I 0]]]=some [.raw (.string ⟨#[48,32,109,111,100,101,55,32,97,116,49,54,48,32,102,97,117,108,116,48,10]⟩)]):
  Qes M Z V []=some [B true]:=by
 rw[Ydq];exact eB D (eT rfl (eT rfl (eB G (eT rfl (eB L (ij (λq=>some [B q]) (beq_self_eq_true (ByteArray.toList ⟨#[48,32,109,111,100,101,55,32,97,116,49,54,48,32,102,97,117,108,116,48,10]⟩))))))))
theorem Qhh:∀a b:Rw,DL (a++b)=DL a++DL b
 |[],_=>rfl
 |t::a,b=>by
  show wA t 0++DL (a++b)=wA t 0++DL a++DL b;rw[Qhh a b,ic]
theorem Z4f (h:i<l.length):DL (l.take (i+1))=DL (l.take i)++wA l[i] 0:=by
 rw[gz,an h,Qhh];show _++(wA l[i] 0++[])=_;rw[List.append_nil]
def Yay (l:Rw) (i:Nat):(DL (l.take i)).length<=(DL l).length:=by
 have:=ij List.length (Qhh (l.take i) (l.drop i));rw[List.take_append_drop,cg]at this;omega
def Zdi {l:Rw} (G:l.length<=1073741824) (L:(DL l).length<=5000000000000):∀(m i:Nat),i+m=l.length->
  Ak Qv [.vC kPt (DL (l.take i)),tV l,I l.length,I (i:Int)]=some (1,[.vC kPt (DL l)])
 |0,i,h=>by
  have e:Qv [.vC kPt (DL (l.take i)),tV l,I l.length,I (i:Int)]=some (1,[.vC kPt (DL (l.take i))]):=by
   rw[Q48];exact eF (ba (by omega)) rfl
  rw[Bc e (by simp),kg (by omega)]
 |m+1,i,h=>by
  have D:i<l.length:=by omega
  have M:=Yay l (i+1);have e:Qv [.vC kPt (DL (l.take i)),tV l,I l.length,I (i:Int)]=some (0,[.vC kPt (DL (l.take (i+1))),tV l,I l.length,I ((i+1:Nat):Int)]):=by
   rw[Q48];refine eT (av (by omega)) (eT (by rw[av (by omega),av (by omega)];rfl) ?_);rw[ag,Fu [] l i D,<-Z4f D,Ad (x:=(i:Int)+1)];exact eT (Dd (by omega)) rfl
  rw[Bw e];exact Zdi G L m (i+1) (by omega)
def Zo9 (D:l.length<=1073741824) (G:(DL l).length<=5000000000000):PY [tV l]=some [.vC kPt (DL l)]:=by
 show Zw (Ak Qv) [tV l]=_;rw[Zyw];exact eB (Zdi D G l.length 0 (by omega)) rfl
end Go.Bm
namespace Go.Bm
open Classical
end Go.Bm
namespace Go.Bm
def Z7g (a b c d:Rw):∃q:Bool,O7 [.vC Aa a, .vC Aa b, .vC Aa c, .vC Aa d]=some [B q]/\(q=true->a.length<=60/\b.length<=60/\c.length<=60/\d.length<=60):=by
 obtain⟨q,I,D⟩:=Z9l (L:=[a,b,c,d]) (by simp);refine⟨q,?_,λh=>⟨D h a (by simp),D h b (by simp),D h c (by simp),D h d (by simp)⟩⟩;show Qa0 NP _=_;rw[Zpc];have G:NP [.vC [Kd.sl Aa] [[.vC Aa a],[.vC Aa b],[.vC Aa c],[.vC Aa d]]]=some [B q]:=I;rw[G];rfl
def Z89:P4 []=some [B true]:=by
 have n0:=Zj2 machX (by simp) Z2s true;have D:=Qvr (E:=[]) (by simp) trivial (by omega) (Q9v (n0:=5) (by omega) λk=>⟨i8 _,λe h=>by cases h⟩) n0.1 ⟨n0.2,(gd0 []).ga⟩;have hd:=Ya0 [] (tkA (kX []) Ev []) (by simp);have G:(gA (tkA (kX []) Ev []) 2==7)=true:=by
  show((stA (kX []) Ev []).1==7)=true;rw[Zzm (gd0 []) Ybo];rw[show(stC (kX []) Ev []).1=7 from Zqc];rfl
 exact Yaf D hd Z4q
def Zal:∀{l:List Evn} {p:Int},l.Pairwise (λa b=>a.cycle<=b.cycle)->(∀e∈l,p<=e.cycle/\e.cycle<=1073741824/\1<=e.aP/\e.aP<=13/\ -1073741824<=e.n/\e.n<=1073741824)->VE p l
 |[],_,_,_=>trivial
 |e::l,p,D,hb=>by
  rw[List.pairwise_cons]at D;refine⟨hb e (by simp),Zal D.2 λa G=> ?_⟩;have:=hb a (by simp[G]);exact⟨D.1 a G,this.2⟩
def Zj6 (it:Itm):qI it=it\/(it.aP=2\/it.aP=3)/\qI it={it with aZ:=2000000}:=by
 unfold qI
 grind
def Qfx:∀{l:List Itm} {p:Pt},DZ p l->DZ p (l.map qI)
 |[],_,_=>trivial
 |it::l,p,h=>by
  have e:(qI it).aP=it.aP/\(qI it).fr=it.fr/\(qI it).to=it.to:=by
   rcases Zj6 it with q|⟨-,q⟩<;>rw[q]<;>exact⟨rfl,rfl,rfl⟩
  have m:Aw (qI it)↔Aw it:=by unfold Aw;rw[e.1]
  unfold DZ at h;show DZ p (qI it::l.map qI);unfold DZ;by_cases c:Aw it
  ·rw[ac c]at h;rw[ac (m.2 c),e.2.1,e.2.2];exact⟨h.1,Qfx h.2⟩
  rw[ab c]at h;rw[ab λx=>c (m.1 x)];exact Qfx h
def Z2w {p:Pt} {l:List Itm} (h:Items A p l):Items A p (l.map qI):=by
 refine⟨Qfx h.link,λit D=> ?_⟩;obtain⟨a,G,rfl⟩:=bj.1 D;have I:=h.made a G;rcases Zj6 a with q|⟨c,q⟩
 ·grind
 rw[q];rcases I with⟨m,d,b,f,t⟩|o
 ·refine .inl ⟨m,⟨d.aP,d.line,λq=> ?_,λ_=>(show(1:Int)<=2000000/\(2000000:Int)<=60000000 from⟨by decide,by decide⟩),d.bJ,λq=> ?_,d.free,d.bI⟩,b,f,t⟩
  ·have a:=d.arc q;exact⟨a.aP,a.aG,a.dir,a.ends⟩
  grind
 grind [o.aP]
end Go.Bm
namespace Go.Bm
open Classical
def Z0b {x:Ax3} (G:GoodPath p) (D:Ax3M x) (s:Int) (w:Pt):∃v:Pt,Ql (AF x++(ptR w++ptR (Bv p x s)))=some (ptR v)/\
  (v.x-(atP p s).x<=x.a.step/\(atP p s).x-v.x<=x.a.step)/\(v.y-(atP p s).y<=x.b.step/\(atP p s).y-v.y<=x.b.step)/\(v.z-(atP p s).z<=x.c.step/\(atP p s).z-v.z<=x.c.step):=by
 obtain⟨b1,b2,b3⟩:=Q1i G s;obtain⟨I,e1,L⟩:=YP D.a (q:=(atP p s).x) (by omega);obtain⟨M,e2,N⟩:=YP D.b (q:=(atP p s).y) (by omega);obtain⟨O,e3,U⟩:=YP D.c (q:=(atP p s).z) (by omega);refine⟨⟨I,M,O⟩,?_,L,N,U⟩;refine de (Z07 ..) ?_;exact eB e1 (eB e2 (eB e3 rfl))
def Z3l {x:Ax3} (G:GoodPath p) (D:Ax3M x):QC (AF x++ptR p.aQ)=some (ptR (Bv p x 0)++ptR (Bv p x 0)):=by
 have e0:atP p 0=p.aQ:=by
  unfold atP;exact Qiw λg I=>(G.ok.seg g I).1
 have o:=Qjl G 0;rw[e0]at o;have L:Bv p x 0=⟨A1 x.a p.aQ.x,A1 x.b p.aQ.y,A1 x.c p.aQ.z⟩:=by unfold Bv;rw[e0]
 rw[L];refine de (Z11 ..) ?_;exact eB (Xo D.a o.1) (eB (Xo D.b o.2.1) (eB (Xo D.c o.2.2) rfl))
def Z3e {x:Ax3} (G:GoodPath p) (D:Ax3M x):atT p x (Bg p x ⟨1,1,1⟩ 0 (AJ p.aF)) 0=(Bv p x 0,Bv p x 0):=by
 have hd:okD (⟨1,1,1⟩:Pt):=⟨.inl rfl, .inl rfl, .inl rfl⟩;obtain⟨L,I,M,N⟩:=Lw (Q:=λ_ _=>True) D.ok G (λ_ _ _ _ _ _ _ _=>trivial);have hT:=Rh ⟨1,1,1⟩ 0 (AJ p.aF) D.ok G;have e:=(Qy5 (p:=p) D (QH p 0 (AJ p.aF)) I hT (by grind) (Xe hd)).1;have O:Be 0 (AJ p.aF)=0:=by unfold Be;omega
 simp_all [atT,Q72,D.ok,BT]
def PF (E:List Evn) (K:Kf) (T:Rw) (i:Nat) (q:Pt×Pt):Prop:=∃(n k:Nat) (L:Kf) (c:Cv),T.drop i=GL E n k L c/\q=plC L c/\Dr L k c/\Ot K L/\k+n<=9999
def Zbh (Y:∀k:Nat,EvE (atE E k)) {K:Kf} {T:Rw} {i:Nat} {q:Pt×Pt} (h:PF E K T i q) (hi:i<T.length):
  ∃(D b:Rw) (m sp f s:Int) (w:Pt),T[i]=[.vC kPt D, .vC Aa b,I m,I s,I w.x,I w.y,I w.z,I sp,I f]/\D.length<=10000000000000/\(∀r∈D,LF r)/\(K.p.aF=[]->D=[])/\
   0<=s/\s<=AJ K.p.aF/\(plF K.x q D).2=Bv K.p K.x s/\PF E K T (i+1) (plF K.x q D):=by
 obtain⟨n,k,L,c,O,rfl,r,hK,hk⟩:=h;rw[dy hi]at O;cases n with
 |zero=>cases O
 |succ n=>
  obtain⟨e1,e2⟩:=List.cons.inj O;obtain⟨⟨X,M⟩,d3,d4,U,d6,d7⟩:=Z8n r (by omega) (Y k);obtain⟨y1,y2⟩:=hK;rw[y1]at U;have N:=Xu r.k c (atE E k);have G:Ot L (stA L c (atE E k)).2.1:=M;have V:GD (stA L c (atE E k)).2.1:=X.l;obtain⟨d,a,b,-,ht⟩:=V;have pl:=Qht (d:=d) (a:=a) (b:=b) N.f.x.ok N.f.p (AI (stA L c (atE E k)).2.2);rw[<-ht]at pl;rw[e1];refine⟨_,_,_,_,_,Bk (stA L c (atE E k)).2.1 (stA L c (atE E k)).2.2,_,rfl,d4,d6,λh0=>d7 (by grind),pl.1,?_,?_,?_⟩
  ·rw[<-y2,<-G.2];grind
  ·rw[U];show Bv (stA L c (atE E k)).2.1.p (stA L c (atE E k)).2.1.x _=_;rw[G.1,G.2,y1,y2]
  have dd:=X;rw[U,<-d3];by_cases he:Qg (stA L c (atE E k)).1=true
  ·rw[ac he]at e2;exact⟨0,k+1,_,_,e2,rfl,dd,⟨M.1.trans y1,M.2.trans y2⟩,by omega⟩
  rw[ab he]at e2;exact⟨n,k+1,_,_,e2,rfl,dd,⟨M.1.trans y1,M.2.trans y2⟩,by omega⟩
def Qwf {E:List Evn} (D:∀k:Nat,EvE (atE E k)) {K:Kf} {T:Rw} (G:K.p.aF=[]):∀(m i:Nat) (q:Pt×Pt),i+m=T.length->PF E K T i q->DL (T.drop i)=[]
 |0,i,q,h,_=>by rw[fc (by omega)];rfl
 |m+1,i,q,h,I=>by
  obtain⟨L,b,O,sp,f,s,w,e,-,-,M,-,-,-,N⟩:=Zbh D I (by omega);rw[dy (by omega),e,M G];exact Qwf D G m (i+1) _ (by omega) N
def dev (h:a-b<=u/\b-a<=u) (D:u<=64): ¬O (a-b)>u/\ ¬O (0-O (a-b))>u:=by grind [Ad]
abbrev plE (K:Kf) (D T:Rw) (s:Nat×Pt×Pt):List AC:=[.vC Ae D,tV T,I (T.length:Int),I (s.1:Int)]++(AF K.x++[I K.pa,I K.pb,I K.pc,I K.bH,I K.lag]++(BG K.p++(ptR s.2.1++ptR s.2.2)))
def Zpa {MO ML MA MP MS M5 M6 M7 M8 M9 N O U V X Y:Fn} {T D:Rw} {q0:Pt×Pt} (hx:Ax3M K.x) (hE:∀k:Nat,EvE (atE E k)) (hT:T.length<=100)
  (hS:∀(s:Pt×Pt) (l:Rw),l.length<=1000000000000000->(∀r∈l,LF r)->MS (AF K.x++(ptR s.1++ptR s.2++[.vC kPt l]))=some (ptR (plF K.x s l).1++ptR (plF K.x s l).2))
  (hP:∀(s:Int) (w:Pt),∃v:Pt,MP (AF K.x++(ptR w++ptR (Bv K.p K.x s)))=some (ptR v)/\(v.x-(atP K.p s).x<=K.x.a.step/\(atP K.p s).x-v.x<=K.x.a.step)/\(v.y-(atP K.p s).y<=K.x.b.step/\(atP K.p s).y-v.y<=K.x.b.step)/\(v.z-(atP K.p s).z<=K.x.c.step/\(atP K.p s).z-v.z<=K.x.c.step))
  (hA:∀s:Int,0<=s->s<=AJ K.p.aF->MA (BG K.p++[I s])=some (ptR (atP K.p s))) (hL:ML [.vC Ae D]=some [I a])
  (hO:∀s:Int,0<=s->MO [.vC Ae D,I (atP K.p s).x,I (atP K.p s).y,I (atP K.p s).z,I a]=some [B true]) (h0:PF E K T 0 q0):
  Out (λo=>o=(2,[])) (Ak (Sc MO ML MA MP MS M5 M6 M7 M8 M9 N O U V X Y) (plE K D T (0,q0))):=by
 refine Ch (plE K D T) (λs=>s.1<=T.length/\PF E K T s.1 s.2) (λs=>T.length-s.1) _ ?_ (0,q0) ⟨i8 _,h0⟩;rintro⟨i,q⟩ ⟨hi,hr⟩;dsimp only at hi hr;refine Out.eqv (Zp6 ..) ?_;refine .cond (λM=> ?_) λ_=> .some (.inr ⟨by simp,rfl⟩);have L:i<T.length:=by have:=Ba M;omega
 refine .cond (λ_=> ?_) λe=>(inB (by omega) (Ba M) e).elim;obtain⟨G,b,m,sp,f,s,w,er,h1,h2,-,h4,h5,h6,h7⟩:=Zbh hE hr L;rw[ag,Fu [] T i L,er,Ad (x:=(i:Int)+1)];refine .bind (p:=λo=>o=_) ⟨_,hS q G (by omega) h2,rfl⟩ λo e=> ?_;subst e;obtain⟨v,hv,d1,d2,d3⟩:=hP s (plF K.x q G).1;rw[<-h6]at hv;refine .bind (p:=λo=>o=_) ⟨_,hv,rfl⟩ λo e=> ?_;subst e;refine .bind (p:=λo=>o=_) ⟨_,hA s h4 h5,rfl⟩ λo e=> ?_;subst e;refine .bind (p:=λo=>o=_) ⟨_,hL,rfl⟩ λo e=> ?_;subst e;refine .bind (p:=λo=>o=_) ⟨_,hO s h4,rfl⟩ λo e=> ?_;subst e;obtain⟨a1,a2⟩:=dev d1 hx.a.step.2;obtain⟨b1,b2⟩:=dev d2 hx.b.step.2;obtain⟨M,c2⟩:=dev d3 hx.c.step.2;refine .cond (λe=>(by cases e)) λ_=> .cond (λe=>absurd (Ba e) a1) λ_=> .cond (λe=>absurd (Ba e) a2) λ_=> .cond (λe=>absurd (Ba e) b1) λ_=> .cond (λe=>absurd (Ba e) b2) λ_=> .cond (λe=>absurd (Ba e) M) λ_=> .cond (λe=>absurd (Ba e) c2) λ_=> ?_;exact .some (.inl ⟨rfl,(i+1,plF K.x q G),rfl,⟨by omega,h7⟩,by omega⟩)
def Zzn {MO ML MA MP MS L MU M N O U V X Y MF MW:Fn} {x0 x1 x2 x3:Rw} {q:Bool} (hW:MW []=some [B true]) (hF:MF [.vC Aa x0, .vC Aa x1, .vC Aa x2, .vC Aa x3]=some [B q])
  (w : q = true -> ∃ (K : Kf) (p0 p1 p2 p3 p4 m : Int) (i0 D G T : Rw) (n : Pt), Y [I a, I 6] = some [I m] /\ X [.vC Aa x0, I m, B true] = some [.vC Ae i0] /\ V [.vC Aa x1, .vC Aa x2] = some (AF K.x ++ [I p0, I p1, I p2, I p3, I p4]) /\
   U (.vC Ae i0::(AF K.x++[I p0,I p1,I p2,I p3,I p4]))=some (.vC Ae D::(AF K.x++[I K.pa,I K.pb,I K.pc,I K.bH,I K.lag]))/\O [.vC Ae D]=some (BG K.p++[I 0])/\N [.vC Aa x3]=some [.vC kPt G]/\
   M (AF K.x++[I K.pa,I K.pb,I K.pc,I K.bH,I K.lag]++[.vC Ae D, .vC kPt G,I 100])=some [tV T,I 0]/\0<T.length/\(K.p.aF=[]->MU [tV T]=some [.vC kPt []])/\L (AF K.x++ptR K.p.aQ)=some (ptR n++ptR n)/\
   (K.p.aF≠[]->Out (λo=>o=(2,[])) (Ak (Sc MO ML MA MP MS L MU M N O U V X Y MF MW) (plE K D T (0,n,n))))):
  Qjz MO ML MA MP MS L MU M N O U V X Y MF MW (Ak (Sc MO ML MA MP MS L MU M N O U V X Y MF MW)) [.vC Aa x0, .vC Aa x1, .vC Aa x2, .vC Aa x3,I a]=some [B true]:=by
 rw[Yas];refine eB hW (eF rfl (eB hF ?_));cases q
 ·rfl
 obtain⟨K,p0,p1,p2,p3,p4,m,i0,D,G,T,n,h1,h2,h3,h4,h5,h6,h7,h8,h9,a0,a1⟩:=w rfl;refine eF rfl (eB h1 (eB h2 (eB h3 (eB h4 (eB h5 (eB h6 (eB h7 (eF rfl (eF rfl (eF (beF (show¬(T.length:Int)=0 by omega)) ?_))))))))));by_cases c:K.p.aF=[]
 ·refine eT ?_ (eB (h9 c) rfl);show(((K.p.aF.map At).length:Int)==0)=true
  grind
 have a2:=js.2 c;refine eF (beF (show¬((K.p.aF.map At).length:Int)=0 by grind)) ?_;obtain⟨o,e1,rfl⟩:=a1 c;exact eB a0 (eB e1 (eF rfl (eT rfl rfl)))
def Zzw {N O U V:Rw} (h0:Src N) (G:Src O) (L:Src U) (h3:Src V) (h4:i64 u):
  Zfm [.vC Aa N, .vC Aa O, .vC Aa U, .vC Aa V,I u]=some [B true]:=by
 obtain⟨q,hF,hq⟩:=Z7g N O U V;refine Zzn Z89 hF λX=> ?_;obtain⟨l0,l1,l2,l3⟩:=hq X;have m4:0<=u%6/\u%6<6:=⟨ju _ (by decide),jf _ (by decide)⟩;obtain⟨x,a,b,c,bH,lag,hQ,hM,p1,p2,p3⟩:=Z9a G L (by omega);obtain⟨p,aA,hI,Y,hlen,-⟩:=Z5a h0 (most:=u%6) (by omega) true;have hl:(aA.map qI).length<=15:=by rw[aj];omega
 have g2:=Z2w Y;obtain⟨hN,D⟩:=Zj2 hM hl g2 true;obtain⟨E,hV,hE,a0,ho⟩:=Ybf h3 l3;have a1:=Ydj (aA:=aA) (by omega) x (p0:=a) (p1:=b) (p2:=c) bH lag (by omega) (by omega) (by omega);have hc:=Wt (by omega) (Qtl g2 (show 4084<=40004 by omega)) (by omega);have hB:=Q1k hl;rw[ac hc]at hB;have bd:∀e∈E,0<=e.cycle/\e.cycle<=1073741824/\1<=e.aP/\e.aP<=13/\ -1073741824<=e.n/\e.n<=1073741824:=λe he=>by
  have b:=a0 e he;have r:=(ho.rg e he)
  grind [b.aP,b.n]
 have eE:∀k:Nat,EvE (atE E k):=λk=>⟨co (Z5k _ _) (by omega),λe he=>(bd e (Zva he)).2.2.2.2.2⟩;have R:=Qvr (E:=E) (by omega) (Zal ho.pw bd) (n0:=100) (by omega) (Q9v (by omega) eE) hN ⟨D,(gdK D).ga⟩;have tl:=Zdr E 100 0 (kfP x (a+50) (b+10) (c+2000) bH lag (aA.map qI) true) Ev;have tn:=Z0z E 100 0 (kfP x (a+50) (b+10) (c+2000) bH lag (aA.map qI) true) Ev (by omega);have a2:=Z3e (x:=x) D.f.p D.f.x;have at0:PF E (kfP x (a+50) (b+10) (c+2000) bH lag (aA.map qI) true) (GL E 100 0 (kfP x (a+50) (b+10) (c+2000) bH lag (aA.map qI) true) Ev) 0 (Bv (A7 (aA.map qI)) x 0,Bv (A7 (aA.map qI)) x 0):=
  ⟨100,0,_,Ev,rfl,a2.symm,⟨D,(gdK D).ga,⟨⟨1,1,1⟩,0,_,⟨.inl rfl, .inl rfl, .inl rfl⟩,rfl⟩,fa _⟩,⟨rfl,rfl⟩,by omega⟩
 have M:=D.f.p;have hx:=D.f.x;have a3:=Zqr (aA:=aA.map qI) (by omega) (by have:=Qxt g2;omega);have a4:=λhs=>Qwf eE hs _ 0 _ (fw _) at0;have np:=WL M;refine⟨kfP x (a+50) (b+10) (c+2000) bH lag (aA.map qI) true,a,b,c,bH,lag,u%6,aA.map Ag,(aA.map qI).map Ag,E.map evR,_,Bv (A7 (aA.map qI)) x 0,Q75 h4 (by omega),hI,hQ,a1,hB,hV,R,Nat.pos_of_ne_zero tn,λhs=> ?_,Z3l M hx,λa5=> ?_⟩
 ·have e:=a4 hs;have:=Zo9 (l:=GL E 100 0 (kfP x (a+50) (b+10) (c+2000) bH lag (aA.map qI) true) Ev) (by omega) (by grind)
  grind
 exact Zpa hx eE tl (λs l G L=>Z3p G L) (λs w=>Z0b M hx s w) (λs G L=>Zhp M (by grind [i64])) a3 (λs G=>Z8w g2 hl a5 G) at0
end Go.Bm
namespace Go.Bm
def Qq3 (h:okR Aa o):i64 (Af (nth .vD o 0)):=by
 match o,h with
 |[],h=>exact h.elim
 |a::_,h=>exact Zx8 h.1
def W4 (h:okR [Kd.sl Aa] o):Src (BI (nth .vD o 0)):=by
 match o,h with
 |[],h=>exact h.elim
 |a::_,h=>
  have D:=h.1;unfold okC at D;refine⟨?_,λc G=>Qq3 (D.2 c G).1⟩;have I:=D.1;simp only[maxLen]at I;show(BI a).length<=_;omega
end Go.Bm
