/- laid together -/
import Derived.Test.YtommijghjlikkaaGreatPrPn
import Derived.Test.YtommijghjlikkaaGreatPrSt
import Derived.Test.YtommijghjlikkaaGreatPrTk4
import Derived.Test.YtommijghjlikkaaGreatMy1
set_option linter.unusedVariables false
set_option linter.unusedSimpArgs false
set_option maxRecDepth 100000
noncomputable section
open Go.IntKind (wrap)
namespace Go.Bm
structure Ky (c d : Cv) : Prop where
 m0:d.m0=c.m0
 m1:d.m1=c.m1
 m2:d.m2=c.m2
 next:d.next=c.next
 on:d.on=c.on
 idx:d.idx=c.idx
 aN:d.aN=c.aN
 aI:d.aI=c.aI
 aH:d.aH=c.aH
 y0:d.y0=c.y0
 y1:d.y1=c.y1
 y2:d.y2=c.y2
theorem Ky.rfl {c:Cv}:Ky c c:=⟨Eq.refl _,Eq.refl _,Eq.refl _,Eq.refl _,Eq.refl _,Eq.refl _,Eq.refl _,Eq.refl _,Eq.refl _,Eq.refl _,Eq.refl _,Eq.refl _⟩
theorem Ky.trans {a b c:Cv} (h:Ky a b) (g:Ky b c):Ky a c:=
 ⟨g.m0.trans h.m0,g.m1.trans h.m1,g.m2.trans h.m2,g.next.trans h.next,g.on.trans h.on,g.idx.trans h.idx,g.aN.trans h.aN,g.aI.trans h.aI,g.aH.trans h.aH,g.y0.trans h.y0,g.y1.trans h.y1,g.y2.trans h.y2⟩
theorem Qyq:∀(E:List Evn) (c:Cv),Ky c (E.foldl (fun c e=>evC c e.kind e.n) c)
 |[],_=>Ky.rfl
 |e::E,c=>Ky.trans (b:=evC c e.kind e.n) ⟨rfl,rfl,rfl,rfl,rfl,rfl,rfl,rfl,rfl,rfl,rfl,rfl⟩ (Qyq E _)
theorem Qvl (K:Kf) (c:Cv) (E:List Evn):Ky c (Ba K c E):=by
 have h1:Ky c (BG c E):=Ky.trans (b:=Id c) ⟨rfl,rfl,rfl,rfl,rfl,rfl,rfl,rfl,rfl,rfl,rfl,rfl⟩ (Qyq E _);have h2:Ky (BG c E) (CX (BG c E)):=by
  unfold CX;split<;>exact⟨rfl,rfl,rfl,rfl,rfl,rfl,rfl,rfl,rfl,rfl,rfl,rfl⟩
 have h3:∀d,Ky d (C6 K (BL d)):=fun d=>by
  unfold C6;split<;>exact⟨rfl,rfl,rfl,rfl,rfl,rfl,rfl,rfl,rfl,rfl,rfl,rfl⟩
 exact(h1.trans h2).trans ((h3 _).trans ⟨rfl,rfl,rfl,rfl,rfl,rfl,rfl,rfl,rfl,rfl,rfl,rfl⟩)
structure Mk (c d : Cv) : Prop where
 next:d.next=c.next
 on:d.on=c.on
 idx:d.idx=c.idx
 aN:d.aN=c.aN
theorem Tu (c:Cv):Mk c (Cn c):=by unfold Cn;split<;>exact⟨rfl,rfl,rfl,rfl⟩
theorem Q0t (K:Kf) (c:Cv) (l:Int) (s:Sgm):Mk c (DZ K c l s):=by
 unfold DZ;split
 ·exact⟨rfl,rfl,rfl,rfl⟩
 ·unfold Hf;split
  ·exact⟨rfl,rfl,rfl,rfl⟩
  ·split
   ·have:=Tu (G_ c (thO K c l s.lead));exact⟨this.next,this.on,this.idx,this.aN⟩
   ·exact⟨rfl,rfl,rfl,rfl⟩
theorem Q0d (K:Kf) (c:Cv) (l:Int):Mk c (AV K c l):=by
 unfold AV;split
 ·exact⟨rfl,rfl,rfl,rfl⟩
 ·split
  ·exact Q0t K c l _
  ·split
   ·have:=Q0t K (goC K c (sgK K c)) l (sgK K c);exact⟨this.next,this.on,this.idx,this.aN⟩
   ·split
    ·exact Tu c
    ·exact⟨rfl,rfl,rfl,rfl⟩
def Q75 (c d:Cv):Prop:=Mk c d\/(d.next=wrap .i64 (c.idx+1)/\d.on=false/\(c.aN=true->c.aJ=true))
theorem Zqa (K:Kf) (c:Cv):Q75 c (By K c).2:=by
 unfold By HJ;split
 ·split
  ·next h=>exact .inr ⟨rfl,rfl,fun _=>h.2⟩
  ·exact .inl ⟨rfl,rfl,rfl,rfl⟩
 ·next hw=>
  have hd:∀{p:Prop},c.aN=true->p:=fun h=>absurd h hw;split
  ·exact .inr ⟨rfl,rfl,hd⟩
  ·split
   ·split
    ·exact .inl ⟨rfl,rfl,rfl,rfl⟩
    ·exact .inr ⟨rfl,rfl,hd⟩
   ·split
    ·split
     ·exact .inr ⟨rfl,rfl,hd⟩
     ·exact .inl ⟨rfl,rfl,rfl,rfl⟩
    ·split
     ·exact .inl ⟨rfl,rfl,rfl,rfl⟩
     ·exact .inr ⟨rfl,rfl,hd⟩
structure Ix (A : Int -> Bool) (K : Kf) (c : Cv) : Prop where
 m0:0<=c.m0
 next:0<=c.next
 j:Jm A K c
 task:c.on=true->c.next<=c.idx/\c.idx<K.p.aD.length/\∀i:Int,c.next<=i->i<c.idx->A (mkK K i).kind=false
def KH (A:Int->Bool) (K:Kf) (c d:Cv):Prop:=d.next=c.next\/∃i:Int,c.next<=i/\i<K.p.aD.length/\d.next=i+1/\∀j:Int,c.next<=j->j<i->A (mkK K j).kind=false
theorem Jm.sub {A:Int->Bool} {K:Kf} {c d:Cv} (h:Jm A K c) (he:endC K d=endC K c) (hn:c.next<=d.next):Jm A K d:=fun i i1 i2 ha=>by
 rw[he];exact h i (by omega) i2 ha
theorem Qz5 {A:Int->Bool} {K:Kf} (h:KOK K) {c:Cv} (ix:Ix A K c) (on:c.on=true):Ix A K (By K c).2/\KH A K c (By K c).2:=by
 have mt:=Q6 K c;have hc:=Zqa K c;obtain⟨t1,t2,t3⟩:=ix.task on;have hcount:=h.count;have h0:=ix.next;generalize(By K c).2=d at*;rcases hc with hc|⟨h1,h2,-⟩
 ·refine⟨⟨by rw[mt.m0];exact ix.m0,by rw[hc.next];exact ix.next,ix.j.sub mt.endC (by rw[hc.next];omega),fun ho=> ?_⟩, .inl hc.next⟩;rw[hc.next,hc.idx];exact⟨t1,t2,t3⟩
 ·rw[Ae (x:=c.idx+1) (by omega)]at h1;exact⟨⟨by rw[mt.m0];exact ix.m0,by omega,ix.j.sub mt.endC (by omega),fun ho=>by rw[h2]at ho;cases ho⟩, .inr ⟨c.idx,t1,t2,h1,t3⟩⟩
theorem Ix.ky {A:Int->Bool} {K:Kf} {c d:Cv} (ix:Ix A K c) (k:Ky c d):Ix A K d:=by
 refine⟨by rw[k.m0];exact ix.m0,by rw[k.next];exact ix.next,ix.j.sub ?_ (by rw[k.next];omega),fun ho=> ?_⟩
 ·unfold endC;rw[Nk k.m1 k.m2,k.m0]
 ·rw[k.on]at ho;rw[k.next,k.idx];exact ix.task ho
theorem Ix.fau {A:Int->Bool} {K:Kf} {c:Cv} (ix:Ix A K c):Ix A K (Cn c):=by
 have k:=Tu c;have m:=Zj c;refine⟨by rw[m.1];exact ix.m0,by rw[k.next];exact ix.next,ix.j.sub ?_ (by rw[k.next];omega),fun ho=> ?_⟩
 ·unfold endC;rw[Nk m.2.1 m.2.2,m.1]
 ·rw[k.on]at ho;rw[k.next,k.idx];exact ix.task ho
theorem Qyu {A:Int->Bool} {K:Kf} (h:KOK K) (mk:MarksOK K) {n:Int} {c:Cv} (g:Gd K n c) (hn:0<=n/\n<=10000) (hA:∀k,A k=true->Ct k c=true) (ix:Ix A K c) (on:c.on=false):
  Ix A K (Cs K c).2/\KH A K c (Cs K c).2:=by
 have hl:=Qbu h mk g hn hA ix.m0 ix.next ix.j;have up:=Zba h g hn;have hm0:=ix.m0;unfold Cs at up⊢;split
 ·split
  ·next hi=>
   obtain⟨j,e,j1,j2,-,j4⟩:∃j:Int,AS K c=(BI K.t (mkK K j).at_,j)/\c.next<=j/\j<K.p.aD.length/\Ct (mkK K j).kind c=true/\∀i:Int,c.next<=i->i<j->A (mkK K i).kind=false:=by
    rcases hl with⟨e,-⟩|hl
    ·rw[e]at hi;dsimp only at hi;omega
    ·exact hl
   have ej:(AS K c).2=j:=by rw[e]
   rw[ej];have key:Ix A K (Dr K c j).2/\KH A K c (Dr K c j).2:=by
    have ib:Ix A K {c with on:=true,idx:=j,aN:=E4 K c j,cnt:=0}:=⟨ix.m0,ix.next,ix.j.sub rfl (Int.le_refl _),fun _=>⟨j1,j2,j4⟩⟩;exact Qz5 h ib rfl
   split
   ·refine⟨key.1.fau,?_⟩;have:=(Tu (Dr K c j).2).next
    rcases key.2 with q|⟨i,i1,i2,i3,i4⟩
    ·exact .inl (this.trans q)
    ·exact .inr ⟨i,i1,i2,this.trans i3,i4⟩
   ·exact key
  ·split
   ·exact⟨⟨ix.m0,ix.next,ix.j.sub rfl (Int.le_refl _),ix.task⟩, .inl rfl⟩
   ·exact⟨ix, .inl rfl⟩
 ·next hn'=>
  rw[if_neg hn']at up;have m:=Q0d K c (AS K c).1;refine⟨⟨Int.le_trans hm0 up,by rw[m.next];exact ix.next,Jm.move h mk g hn hA ix.m0 ix.next ix.j (Zac h g hn _) m.next,fun ho=> ?_⟩, .inl m.next⟩;rw[m.on,on]at ho;cases ho
theorem Zqs {A:Int->Bool} {K:Kf} (h:KOK K) (mk:MarksOK K) {n:Int} {c:Cv} (g:Gd K n c) (hn:0<=n/\n<=10000) {E:List Evn} (hA:∀k,A k=true->Ct k (Ba K c E)=true) (hg:(Ba K c E).g0≠2) (ht:(Ba K c E).aH=false) (ix:Ix A K c):
  Ix A K (stC K c E).2/\KH A K c (stC K c E).2:=by
 have ky:=Qvl K c E;have gp:Gd K n (Ba K c E):=RS g E;have ix:=ix.ky ky;have key:Ix A K (stC K c E).2/\KH A K (Ba K c E) (stC K c E).2:=by
  unfold stC;generalize Ba K c E=d at*;have hr:Cx K d=if d.aI≠0 then(d.aI,d)else if d.on=true then By K d else(0,d):=by
   unfold Cx;rw[if_neg hg,ht];split
   ·rfl
   ·rw[if_neg (by simp)]
  rw[hr];by_cases c1:d.aI≠0
  ·rw[if_pos c1,if_neg c1];exact⟨ix, .inl rfl⟩
  ·rw[if_neg c1];by_cases c2:d.on=true
   ·rw[if_pos c2,if_neg (Qr4 K d)];exact Qz5 h ix c2
   ·rw[if_neg c2,if_pos rfl];exact Qyu h mk gp hn hA ix (by simpa using c2)
 refine⟨key.1,?_⟩;have:=key.2;unfold KH at*;rw[ky.next]at this;exact this
theorem Zi6 {A:Int->Bool} {K:Kf} (h:KOK K) (mk:MarksOK K) {n:Int} {c:Cv} (g:Gd K n c) (hn:0<=n/\n<=10000) {E:List Evn} (hA:∀k,A k=true->Ct k (Ba K c E)=true) (hg:(Ba K c E).g0≠2) (ht:(Ba K c E).aH=false) (ix:Ix A K c):
  Ix A K (D8 K c E)/\KH A K c (D8 K c E):=by
 have:=Zqs h mk g hn hA hg ht ix;unfold D8;generalize(stC K c E).2=d at*;obtain⟨m,q,e⟩:=Qq K d (Av K d);rw[e];exact⟨⟨this.1.m0,this.1.next,this.1.j.sub rfl (Int.le_refl _),this.1.task⟩,this.2⟩
theorem ix0 {A:Int->Bool} {K:Kf} (h:KOK K) (mk:MarksOK K):Ix A K BY:=by
 refine⟨Int.le_refl _,Int.le_refl _,fun i i1 i2 _=> ?_,fun ho=>by cases ho⟩;have hm:=mk.at_ i i1 i2;have hw:=mk.fw.wh _ hm.1 hm.2;have e:endC K BY=0:=by
  unfold endC;rw[Quy h.plan (c:=BY) (RH h.plan) (Int.le_refl _)];rfl
 rw[e];omega
end Go.Bm
namespace Go.Bm
open Classical
theorem Qyk {item feed lead:Int}:∀(pts:List Pt) (s:List Sgm×Int×Pt),∃l,(pts.foldl (AW item feed lead) s).1=s.1++l
 |[],s=>⟨[],by simp⟩
 |q::pts,s=>by
  rw[List.foldl_cons];obtain⟨l,hl⟩:=Qyk (item:=item) (feed:=feed) (lead:=lead) pts (AW item feed lead s q);rw[hl];unfold AW;split
  ·exact⟨l,rfl⟩
  ·exact⟨_::l,(List.append_assoc _ _ _).trans rfl⟩
theorem Zs9 (aA:List Itm) (i:Nat) (s:BSt):∃l,(Cw aA i s).aF=s.aF++l:=by
 unfold Cw;split
 ·exact Qyk _ _
 ·exact⟨[],by simp⟩
theorem Q0n (aA:List Itm) (i:Nat):∀k,∃l,(Aq aA (i+k)).aF=(Aq aA i).aF++l
 |0=>⟨[],by simp⟩
 |k+1=>by
  obtain⟨l,hl⟩:=Q0n aA i k;obtain⟨m,hm⟩:=Zs9 aA (i+k) (Aq aA (i+k));refine⟨l++m,?_⟩;show(Cw aA (i+k) (Aq aA (i+k))).aF=_;rw[hm,hl,List.append_assoc]
theorem Qoe {l:List Sgm} (h:∀g∈l,1<=g.len):0<=AF l:=by
 induction l with
 |nil=>simp[AF]
 |cons k l ih=>
  have:=ih fun g hg=>h g (by simp[hg]);have:=h k (by simp);simp only[AF];omega
theorem Zaw (l m:List Sgm):AF (l++m)=AF l+AF m:=by
 induction l with
 |nil=>simp[AF]
 |cons k l ih=>simp only[List.cons_append,AF,ih];omega
end Go.Bm
namespace Go.Bm
open Classical
def Zfe (item:Int) (a:Pt) (g:Sgm):Prop:=bd B24 g.to/\g.to≠a/\g.len=AB a g.to/\item<=g.item/\(0<=g.feed/\g.feed<=16777216)/\(0<=g.lead/\g.lead<=16777216)
def Qxh (item:Int) (a:Pt):List Sgm->Prop
 |[]=>True
 |g::l=>Zfe item a g/\Qxh g.item g.to l
def Zo4 (last n:Int) (m:Mrk):Prop:=last<=m.at_/\m.at_<=n/\(1<=m.kind/\m.kind<=6)/\0<=m.item
def Qvc (last n:Int):List Mrk->Prop
 |[]=>True
 |m::l=>Zo4 last n m/\Qvc m.at_ n l
end Go.Bm
namespace Go.Bm
open Classical
structure okW (R : Nat) (s : Spk) : Prop where
 ok:okS s
 u:s.u.natAbs<=R
 w:s.w.natAbs<=R
 r:s.r<=R
def Qr8:Int->List Sgm->Int
 |k,[]=>k
 |_,g::l=>Qr8 g.item l
structure VInv (i : Nat) (s : BSt) : Prop where
 begun:s.begun=true->bd B24 s.start/\Qxh 0 s.start s.aF/\Qr8 0 s.aF<=i
 aD:Qvc 0 s.len s.aD
end Go.Bm
namespace Go.Bm
open Classical
theorem RT (aA:List Itm):AR aA=⟨(Aq aA aA.length).start,(Aq aA aA.length).aF,(Aq aA aA.length).aD⟩:=rfl
end Go.Bm
namespace Go.Bm
open Classical
noncomputable def mkA (aA:List Itm) (i:Nat):Mrk:=⟨(Aq aA (i+1)).len,if AG (itA aA i)then Kw aA i else Pg (itA aA i),i⟩
theorem Re (aA:List Itm):∀n,(Aq aA n).aD=(List.range n).map (mkA aA)
 |0=>rfl
 |n+1=>by
  rw[List.range_succ,List.map_append,<-Re aA n];show(Cw aA n (Aq aA n)).aD=_;unfold mkA;show _=_++[(⟨(Cw aA n (Aq aA n)).len,_,_⟩:Mrk)];unfold Cw;by_cases c:AG (itA aA n)
  ·simp only[if_pos c]
  ·simp only[if_neg c]
theorem Qic {aA:List Itm} {i:Nat} (h:BInv (Aq aA i)):(Aq aA i).len=AF (Aq aA i).aF:=by
 by_cases hb:(Aq aA i).begun=true
 ·exact(h.begun hb).2.2.2.symm
 ·obtain⟨h1,h2,-⟩:=h.empty (by simpa using hb);rw[h1,h2];rfl
theorem Za2 {aA:List Itm} (hright:∀j<aA.length,¬BF (itA aA j)) {i:Nat} (hi:i<=aA.length):∀g∈(Aq aA i).aF,1<=g.len:=by
 have h:=Jr hright i hi;by_cases hb:(Aq aA i).begun=true
 ·exact fun g hg=>(S6 (h.begun hb).1 (h.begun hb).2.1 g hg).1
 ·rw[(h.empty (by simpa using hb)).1];simp
theorem Qq7 {aA:List Itm} (hright:∀j<aA.length,¬BF (itA aA j)) {i k:Nat} (h:i+k<=aA.length):0<=(Aq aA i).len/\(Aq aA i).len<=(Aq aA (i+k)).len:=by
 rw[Qic (Jr hright i (by omega)),Qic (Jr hright (i+k) h)];obtain⟨l,hl⟩:=Q0n aA i k;have hg:=Za2 hright h;rw[hl]at hg⊢;rw[Zaw];have h1:=Qoe (l:=(Aq aA i).aF) fun g hg'=>hg g (by simp[hg']);have h2:=Qoe (l:=l) fun g hg'=>hg g (by simp[hg']);omega
theorem Zpp {aA:List Itm} (hright:∀j<aA.length,¬BF (itA aA j)) {i:Nat} (hi:i<aA.length):
  0<=(mkA aA i).at_/\(mkA aA i).at_<=AF (AR aA).aF:=by
 have h:=Qq7 hright (i:=i+1) (k:=aA.length-(i+1)) (by omega);rw[show i+1+(aA.length-(i+1))=aA.length by omega]at h;refine⟨h.1,?_⟩;have:=Qic (Jr hright aA.length (Nat.le_refl _));rw[RT];simp only;rw[<-this];exact h.2
end Go.Bm
noncomputable section
namespace Go.Bm
end Go.Bm
noncomputable section
namespace Go.Bm
theorem Qej {K:Kf} {aA:List Itm} (hp:K.p=AR aA) {i:Int} (h0:0<=i) (h1:i<aA.length):mkK K i=mkA aA i.toNat:=by
 have hi:i.toNat<aA.length:=by omega
 have hl:i.toNat<(Aq aA aA.length).aD.length:=by rw[Re];simpa using hi
 unfold mkK;rw[hp,RT];simp only;rw[List.getD,List.getElem?_eq_getElem hl];simp only[Re,List.getElem_map,List.getElem_range];rfl
theorem Zsa (aA:List Itm):(AR aA).aD.length=aA.length:=by rw[RT];simp[Re]
theorem Zmn {x:Ax3} {pa pb pc ramp lag:Int} {aA:List Itm} (hx:Ax3OK x) (hg:GoodPath (AR aA)) (hright:∀j<aA.length,¬BF (itA aA j)):MarksOK (kfP x pa pb pc ramp lag aA true):=by
 have hl:=Zsa aA;refine⟨Zel hx hg,rfl,fun i h0 h1=> ?_,fun i j h0 h1 h2=> ?_⟩
 ·have h1:i<(AR aA).aD.length:=h1;rw[Qej (aA:=aA) rfl h0 (by omega)];exact Zpp hright (by omega)
 ·have h2:j<(AR aA).aD.length:=h2;rw[Qej (aA:=aA) rfl h0 (by omega),Qej (aA:=aA) rfl (by omega) (by omega)];have:=(Qq7 hright (i:=i.toNat+1) (k:=j.toNat-i.toNat) (by omega)).2;rw[show i.toNat+1+(j.toNat-i.toNat)=j.toNat+1 by omega]at this;exact this
def A1 (k:Int):Bool:=k==1||(k==2||(k==3||(k==4||k==6)))
def A2 (k:Int):Bool:=k==1||(k==2||k==6)
def Ws (K:Kf) (c:Cv):Prop:=c.on=true->A2 (mkK K c.idx).kind=true->c.aN=true
def Qxw (K:Kf):Nat->Nat
 |0=>0
 |i+1=>Qxw K i+if A2 (mkK K i).kind=true then 1 else 0
structure Sg (K : Kf) (c : Cv) (s : Nat) : Prop where
 ix:Ix A1 K c
 w:Ws K c
 n:Qxw K c.next.toNat<=s
 cm:Cm c
 gg:Gg c
end Go.Bm
noncomputable section
namespace Go.Bm
open Classical
def Bj (fr to:Int) (f n:Int):Itm:=⟨6,0,⟨0,0,fr⟩,⟨0,0,to⟩,0,⟨0,0,0⟩,0,false,f,true,0,0,0,n,0,false⟩
def BO (d f:Int):List Itm:=[Bj 0 (-d) f 3,Bj (-d) 0 f 4,Fs]
theorem Qsp {a b:Int} (k:Nat) (h:b-a=k\/a-b=k):AB ⟨0,0,a⟩ ⟨0,0,b⟩=k:=by
 unfold AB;refine Qkk ?_;have e:sqD ⟨0,0,a⟩ ⟨0,0,b⟩=(k:Int)*k:=by
  unfold sqD HO Gb;simp only;rcases h with h|h
  ·have h1:b-a=k:=h;have h2:a-b= -(k:Int):=by omega
   first|(rw[h1];simp[Int.neg_mul_neg];done)|(rw[h2];simp[Int.neg_mul_neg];done)
  ·have h1:a-b=k:=h;have h2:b-a= -(k:Int):=by omega
   first|(rw[h1];simp[Int.neg_mul_neg];done)|(rw[h2];simp[Int.neg_mul_neg];done)
 rw[e];refine⟨by omega,Int.le_refl _,?_⟩;by_cases hk:(k:Int)=0
 ·exact .inl hk
 ·refine .inr ?_;have:((k:Int)-1)*((k:Int)-1)=(k:Int)*k-2*k+1:=by grind
  omega
theorem Q2a (i r l:Int) (s:List Sgm) (n:Int) (q:Pt):AW i r l (s,n,q) q=(s,n,q):=by unfold AW;rw[if_pos rfl]
theorem Qs2 (i r l:Int) (s:List Sgm) (n:Int) {p q:Pt} (h:q≠p):AW i r l (s,n,p) q=(s++[⟨q,AB p q,i,r,l⟩],n+AB p q,q):=by unfold AW;rw[if_neg h]
theorem Q02 (a b f n:Int): ¬smI (Bj a b f n):=fun h=>by have:=h.1;simp[Bj]at this
theorem Mp (a b f n:Int):AG (Bj a b f n):=⟨by simp[Bj],by simp[Bj]⟩
def rT (f:Int):Int:=F8 (Bj 0 0 f 0) 0
theorem Q8q {d f:Int} (hd:1<=d/\d<=1000) (hf:1<=f/\f<=1000):
  (AR (BO d f)).aF=[⟨⟨0,0,-d*16⟩,d*16,0,rT f,f*16⟩,⟨⟨0,0,0⟩,d*16,1,rT f,f*16⟩]/\(AR (BO d f)).aD=[⟨d*16,1,0⟩,⟨d*16+d*16,1,1⟩,⟨d*16+d*16,3,2⟩]:=by
 have i0:itA (BO d f) 0=Bj 0 (-d) f 3:=rfl;have i1:itA (BO d f) 1=Bj (-d) 0 f 4:=rfl;have i2:itA (BO d f) 2=Fs:=rfl;have ld:∀a b n,JP (Bj a b f n)=f*16:=fun a b n=>by
  unfold JP;rw[if_pos (.inr rfl)];show mn (f*16) 16777216=_;unfold mn;split<;>omega
 have rt:∀a b n,F8 (Bj a b f n) 0=rT f:=fun a b n=>rfl;have pts:∀i,∀a b n,itA (BO d f) i=Bj a b f n->∀fr,Cg (BO d f) i fr=[⟨0*16,0*16,a*16⟩,⟨0*16,0*16,b*16⟩]:=fun i a b n e fr=>by
  unfold Cg;rw[e,if_neg (Q02 a b f n)];unfold B0;rw[if_neg (by simp[Bj])];rfl
 have kd:∀i,∀a b n,itA (BO d f) i=Bj a b f n->Kw (BO d f) i=1:=fun i a b n e=>by
  unfold Kw;rw[e,if_neg (by simp[Bj]),if_pos (show(Bj a b f n).blend=0 from rfl)]
 have so:∀i,∀a b n,itA (BO d f) i=Bj a b f n->BV (BO d f) i= -1:=fun i a b n e=>by
  unfold BV;rw[e,if_neg fun h=>Q02 a b f n h.1]
 have l1:AB ⟨0,0,0⟩ ⟨0,0,-d*16⟩=d*16:=by
  have:=Qsp (a:=0) (b:= -d*16) (d*16).toNat (.inr (by omega));rw[this];omega
 have l2:AB ⟨0,0,-d*16⟩ ⟨0,0,0⟩=d*16:=by
  have:=Qsp (a:= -d*16) (b:=0) (d*16).toNat (.inl (by omega));rw[this];omega
 have ne1:(⟨0,0,-d*16⟩:Pt)≠⟨0,0,0⟩:=fun h=>by injection h with _ _ h;omega
 have ne2:(⟨0,0,0⟩:Pt)≠⟨0,0,-d*16⟩:=fun h=>ne1 h.symm;have b1:Aq (BO d f) 1=⟨[⟨⟨0,0,-d*16⟩,d*16,0,rT f,f*16⟩],[⟨d*16,1,0⟩],d*16,0,-1,true,⟨0,0,0⟩,⟨0,0,-d*16⟩⟩:=by
  show Cw _ 0 (Aq _ 0)=_;have m:EA (BO d f) 0 (Aq (BO d f) 0)=([⟨⟨0,0,-d*16⟩,d*16,0,rT f,f*16⟩],d*16,⟨0,0,-d*16⟩):=by
   unfold EA;rw[i0,pts 0 _ _ _ i0,ld];show List.foldl (AW 0 (rT f) (f*16)) ([],0,⟨0,0,0⟩) [⟨0,0,0⟩,⟨0,0,-d*16⟩]=_;rw[List.foldl_cons,Q2a,List.foldl_cons,Qs2 _ _ _ _ _ ne1,l1,Int.zero_add];rfl
  unfold Cw;rw[m,i0,if_pos (Mp 0 (-d) f 3),kd 0 _ _ _ i0,so 0 _ _ _ i0,if_neg (show¬(0:Int)<= -1 by omega)];rfl
 have b2:Aq (BO d f) 2=⟨[⟨⟨0,0,-d*16⟩,d*16,0,rT f,f*16⟩,⟨⟨0,0,0⟩,d*16,1,rT f,f*16⟩],[⟨d*16,1,0⟩,⟨d*16+d*16,1,1⟩],d*16+d*16,0,-1,true,⟨0,0,0⟩,⟨0,0,0⟩⟩:=by
  show Cw _ 1 (Aq _ 1)=_;rw[b1];have m:EA (BO d f) 1 ⟨[⟨⟨0,0,-d*16⟩,d*16,0,rT f,f*16⟩],[⟨d*16,1,0⟩],d*16,0,-1,true,⟨0,0,0⟩,⟨0,0,-d*16⟩⟩=([⟨⟨0,0,-d*16⟩,d*16,0,rT f,f*16⟩,⟨⟨0,0,0⟩,d*16,1,rT f,f*16⟩],d*16+d*16,⟨0,0,0⟩):=by
   unfold EA;rw[i1,pts 1 _ _ _ i1,ld];show List.foldl (AW 1 (rT f) (f*16)) ([⟨⟨0,0,-d*16⟩,d*16,0,rT f,f*16⟩],d*16,⟨0,0,-d*16⟩) [⟨0,0,-d*16⟩,⟨0,0,0⟩]=_;rw[List.foldl_cons,Q2a,List.foldl_cons,Qs2 _ _ _ _ _ ne2,l2];rfl
  unfold Cw;rw[m,i1,if_pos (Mp (-d) 0 f 4),kd 1 _ _ _ i1,so 1 _ _ _ i1,if_neg (show¬(0:Int)<= -1 by omega)];rfl
 have b3:Aq (BO d f) 3=⟨[⟨⟨0,0,-d*16⟩,d*16,0,rT f,f*16⟩,⟨⟨0,0,0⟩,d*16,1,rT f,f*16⟩],[⟨d*16,1,0⟩,⟨d*16+d*16,1,1⟩,⟨d*16+d*16,3,2⟩],d*16+d*16,0,-1,true,⟨0,0,0⟩,⟨0,0,0⟩⟩:=by
  show Cw _ 2 (Aq _ 2)=_;rw[b2];unfold Cw;rw[i2,if_neg (Md Sa)];rfl
 rw[RT];show(Aq (BO d f) 3).aF=_/\(Aq (BO d f) 3).aD=_;rw[b3];exact⟨rfl,rfl⟩
theorem Zmw {d f:Int} (hd:1<=d/\d<=1000) (hf:1<=f/\f<=1000):Cu (BO d f)=0:=by
 have val:∀a b n,a.natAbs<=1000->b.natAbs<=1000-> ¬BF (Bj a b f n):=fun a b n ha hb=>by
  have hv:Dj (Bj a b f n):=⟨Mp a b f n,⟨by simp[Bj],by simp[Bj],by simp[Bj];omega⟩,⟨by simp[Bj],by simp[Bj],by simp[Bj];omega⟩,fun h=>by simp[Bj]at h⟩;rintro(g|g|⟨-,g|g|g|g⟩|⟨g,-⟩)
  ·simp[Bj]at g
  ·simp[Bj]at g
  ·exact g hv
  ·have:(Bj a b f n).feed=f:=rfl;omega
  ·simp[Bj]at g
  ·simp[Bj]at g
  ·exact g (Mp a b f n)
 have ve: ¬BF Fs:=by
  rintro(g|g|⟨g,-⟩|⟨-,g1,g2⟩)
  ·simp[Fs]at g
  ·simp[Fs]at g
  ·exact Md Sa g
  ·simp[Fs]at g1
 unfold Cu;rw[if_neg (by simp[BO])];show ET (BO d f) 3 0 (-1)=0;have i0:itA (BO d f) 0=Bj 0 (-d) f 3:=rfl;have i1:itA (BO d f) 1=Bj (-d) 0 f 4:=rfl;have i2:itA (BO d f) 2=Fs:=rfl;unfold ET;rw[i0,if_neg (val 0 (-d) 3 (by omega) (by omega)),if_pos (Mp 0 (-d) f 3),if_neg (fun g=>absurd g.1 (by omega))];unfold ET;rw[i1,if_neg (val (-d) 0 4 (by omega) (by omega)),if_pos (Mp (-d) 0 f 4),if_neg (fun g=>g.2 rfl)];unfold ET;rw[i2,if_neg ve,if_neg (Md Sa)];rfl
theorem Zlx {d f:Int} (hd:1<=d/\d<=1000):∀j<(BO d f).length,AG (itA (BO d f) j)->∀p∈B0 (itA (BO d f) j),bd B24 p:=by
 intro j hj hm;have key:∀a b n,a.natAbs<=1000->b.natAbs<=1000->∀p∈B0 (Bj a b f n),bd B24 p:=fun a b n ha hb p hp=>by
  unfold B0 at hp;rw[if_neg (by simp[Bj])]at hp;have hz:∀z:Int,z.natAbs<=1000->bd B24 (Ax ⟨0,0,z⟩):=fun z h=>by
   unfold Ax bd B24;refine⟨by simp,by simp,by simp only;omega⟩
  simp only[List.mem_cons,List.not_mem_nil,or_false]at hp;rcases hp with rfl|rfl
  ·exact hz a ha
  ·exact hz b hb
 have hj:j<3:=hj;have hc:j=0\/j=1\/j=2:=by omega
 rcases hc with rfl|rfl|rfl
 ·exact key 0 (-d) 3 (by omega) (by omega)
 ·exact key (-d) 0 4 (by omega) (by omega)
 ·exact absurd hm (Md Sa)
end Go.Bm
noncomputable section
namespace Go.Bm
theorem Zo2 {M1 M2 M3 M4 M5 M6 M7:Fn} {c:Int} (hc:0<c/\c<1000000) (k1:M7 [I 0]=some [B true]) (k2:M6 [I 4096]=some [U 4096]) (k3:M6 [I 0]=some [U 0]) (k4:M6 [I c]=some [U c])
  (k5:M5 [U 4096,U 0]=some [U 0,U 0]) (k6:M4 [U 0,U 0,U c]=some [U 0,U 0]) (k7:M3 [I 4096,I 0]=some [I 0]) (k8:∀m n,M2 [I 0,I m,B false,B n]=some [B false]) (k9:∀b,M1 [U 0,B b]=some [I 0,B true]):
  Qt M1 M2 M3 M4 M5 M6 M7 [I 4096,I 0,I c,I 0]=some [I 0,B true]:=by
 rw[Ua];have w:wrap .u64 (c-0)=c:=by rw[GS (by omega)];omega
 refine eF (by simp;omega) (eB k1 (eF rfl (eB k2 (eB k3 (eB k5 (eB k4 (eF (decide_eq_false (show¬(0:Int)>=c by omega)) (eB k6 (eB k7 ?_)))))))));refine eF (show(!decide ((0:Int)<0)==decide (c<0))=false by rw[decide_eq_false (show¬c<0 by omega)];rfl) ?_;refine eF (decide_eq_false (show¬(0:Int)>wrap .u64 (c-0) by rw[w];omega)) (eT (decide_eq_true (show(0:Int)<wrap .u64 (c-0) by rw[w];omega)) ?_);exact eB (k8 (-1) false) (eF rfl (eB (k9 false) rfl))
theorem Qyg {c:Int} (hc:0<c/\c<1000000):DD c 0=0:=by
 have key:Fu [I c,I 0]=some [I 0]:=by
  have hm:Bi [I 4096,I 0,I c,I 0]=some [I 0,B true]:=by
   refine Zo2 hc ?_ (F9 (by unfold i64;omega)) (F9 (by unfold i64;omega)) ?_ ?_ ?_ ?_ ?_ ?_
   ·show QU _=_;rw[Qa8];rfl
   ·rw[F9 (by unfold i64;omega)];have:((c.natAbs:Nat):Int)=c:=by omega
    rw[this]
   ·obtain⟨hi,lo,e1,e2,e3⟩:=KL (x:=4096) (y:=0) (by rw[Bz];omega) (by rw[Bz];omega);have h0:hi=0/\lo=0:=by
     rw[Bz]at e2;omega
    rw[h0.1,h0.2]at e1;exact e1
   ·have:=Xe (p:=0) (c:=c.toNat) (by rw[Bz];omega) (by omega);rw[Nat.zero_div,Nat.zero_mod]at this;have e:((c.toNat:Nat):Int)=c:=by omega
    rw[e]at this;exact this
   ·exact S0 4096 0
   ·intro m n;show QC _=_;rw[Qbq];rfl
   ·intro b;show S2 _=_;rw[QQ];cases b<;>rfl
  have e:Fu [I c,I 0]=QR Bi [I c,I 0]:=rfl;rw[e,Q2v];generalize Bi=M at*;exact eB hm rfl
 unfold DD one;rw[key];rfl
def A0 (k:Int):Bool:=k==1||(k==3||k==6)
theorem XR {c:Cv} (k:Int) (h:A0 k=true):Ct k c=true:=by
 unfold A0 at h;unfold Ct;simp only[Bool.or_eq_true]at*;rcases h with h|h|h
 ·exact .inl h
 ·exact .inr (.inl h)
 ·exact .inr (.inr (.inl h))
structure TapK (K : Kf) (D L : Int) : Prop where
 aF:∃p r,K.p.aF=[⟨p,D,0,r,L⟩,⟨⟨0,0,0⟩,D,1,r,L⟩]
 aD:K.p.aD=[⟨D,1,0⟩,⟨D+D,1,1⟩,⟨D+D,3,2⟩]
 k0:(itK K 0).kind=6/\(itK K 0).n=3
 k1:(itK K 1).kind=6/\(itK K 1).n=4
 k2:(itK K 2).kind=14
 len:K.len=D+D
 D0:0<D/\D<=100000
 L0:0<L/\L<1000000
 ramp:0<=K.ramp/\K.ramp<=1000000
theorem TapK.mks {K:Kf} {D L:Int} (t:TapK K D L):K.p.aD.length=3/\mkK K 0=⟨D,1,0⟩/\mkK K 1=⟨D+D,1,1⟩/\mkK K 2=⟨D+D,3,2⟩:=by
 unfold mkK;rw[t.aD];exact⟨rfl,rfl,rfl,rfl⟩
theorem TapK.at_ge {K:Kf} {D L:Int} (t:TapK K D L) {i:Int} (h0:0<=i) (h1:i<K.p.aD.length):D<=(mkK K i).at_/\(i=2->(mkK K i).at_=D+D)/\(i≠2->(mkK K i).kind=1)/\(itK K (mkK K i).item).kind≠5/\(itK K (mkK K i).item).kind≠7/\(itK K (mkK K i).item).kind≠8:=by
 obtain⟨e,e0,e1,e2⟩:=t.mks;have hD:=t.D0;rw[e]at h1;have hc:i=0\/i=1\/i=2:=by omega
 rcases hc with rfl|rfl|rfl
 ·rw[e0];dsimp only;rw[t.k0.1];exact⟨Int.le_refl _,fun h=>by omega,fun _=>rfl,by omega,by omega,by omega⟩
 ·rw[e1];dsimp only;rw[t.k1.1];exact⟨by omega,fun h=>by omega,fun _=>rfl,by omega,by omega,by omega⟩
 ·rw[e2];dsimp only;rw[t.k2];exact⟨by omega,fun _=>rfl,fun h=>absurd rfl h,by omega,by omega,by omega⟩
theorem TapK.seg {K:Kf} {D L:Int} (t:TapK K D L) (c:Cv) (h0:0<=Av K c):(sgK K c).lead=L/\(Av K c<D->(sgK K c).item=0)/\(D<=Av K c->(sgK K c).item=1):=by
 obtain⟨p,r,e⟩:=t.aF;have hm:max (Av K c) 0=Av K c:=Int.max_eq_left h0;by_cases hlt:Av K c<D
 ·have es:sgK K c=⟨p,D,0,r,L⟩:=by
   unfold sgK E9;rw[hm,e];unfold A9;rw[if_pos (show Av K c<D from hlt)];rfl
  rw[es];exact⟨rfl,fun _=>rfl,fun h=>by omega⟩
 ·have es:sgK K c=⟨⟨0,0,0⟩,D,1,r,L⟩:=by
   unfold sgK E9;rw[hm,e];unfold A9;rw[if_neg (show¬Av K c<D from hlt)];unfold A9;split<;>rfl
  rw[es];exact⟨rfl,fun h=>absurd h hlt,fun _=>rfl⟩
def gT (L D s:Int):Int:=wrap .i64 (wrap .i64 (DD L (mn s D)-DD L (mx (wrap .i64 (s-D)) 0))*256)
theorem Zaa {L D s:Int} (hL:0<L/\L<1000000) (hD:0<D/\D<=100000) (h0:0<=s) (h:s<=D):gT L D s=wrap .i64 (0+wrap .i64 (wrap .i64 (1*DD L (wrap .i64 (s-0)))*256)):=by
 unfold gT;rw[Ae (x:=s-D) (by omega),Ae (x:=s-0) (by omega)];have e1:mn s D=s:=by unfold mn;split<;>omega
 have e2:mx (s-D) 0=0:=by unfold mx;split<;>omega
 rw[e1,e2,Qyg hL,Int.sub_zero,Int.sub_zero,Int.one_mul];generalize DD L s=a;simp only[NW];omega
theorem Z07 {L D s:Int} (hL:0<L/\L<1000000) (hD:0<D/\D<=100000) (h1:s<=1000000) (h:D<=s):gT L D s=wrap .i64 (gT L D D+wrap .i64 (wrap .i64 (-1*DD L (wrap .i64 (s-D)))*256)):=by
 unfold gT;rw[Ae (x:=s-D) (by omega),Ae (x:=D-D) (by omega)];have e1:mn s D=D:=by unfold mn;split<;>omega
 have e2:mx (s-D) 0=s-D:=by unfold mx;split<;>omega
 have e3:mn D D=D:=by unfold mn;split<;>rfl
 have e4:mx (D-D) 0=0:=by unfold mx;split<;>omega
 rw[e1,e2,e3,e4,Qyg hL];generalize DD L (s-D)=a;generalize DD L D=b;simp only[NW];omega
theorem Zm4 (L D s:Int):wrap .i64 (gT L D s)=gT L D s:=by
 unfold gT;generalize wrap .i64 (DD L (mn s D)-DD L (mx (wrap .i64 (s-D)) 0))*256=a;simp only[NW];omega
theorem Qv5 (L D:Int) (hD:0<D/\D<=100000):gT L D 0=0:=by
 unfold gT;rw[Ae (x:=0-D) (by omega)];have e1:mn 0 D=0:=by unfold mn;split<;>omega
 have e2:mx (0-D) 0=0:=by unfold mx;split<;>omega
 rw[e1,e2,Int.sub_self];rfl
theorem Q8h (L D:Int) (hD:0<D/\D<=100000):gT L D (D+D)=0:=by
 unfold gT;rw[Ae (x:=D+D-D) (by omega)];have e1:mn (D+D) D=D:=by unfold mn;split<;>omega
 have e2:mx (D+D-D) 0=D:=by unfold mx;split<;>omega
 rw[e1,e2,Int.sub_self];rfl
end Go.Bm
noncomputable section
namespace Go.Bm
structure Tj (K : Kf) (D L : Int) (c : Cv) : Prop where
 sp:c.s1=0/\c.s2=0
 s3:c.s3=gT L D (Av K c)
 st:(c.y0= -1/\Av K c=0/\c.m1=0/\c.m2=0)\/(c.y0=0/\c.y1=0/\c.y2=0/\Av K c<=D)\/(c.y0=1/\c.y1=D/\c.y2=gT L D D/\D<=Av K c)
 nx:(1<=c.next\/c.on=true)->c.y0≠-1/\(c.y0=0->D<=Av K c/\c.m1=0/\c.m2=0)
 on:c.on=true->Av K c=(mkK K c.idx).at_
 en:c.aI≠0->Av K c=D+D
theorem Q0y {K:Kf} {D L:Int} (t:TapK K D L) {c:Cv} (on:c.on=true) (h0:0<=c.idx) (h1:c.idx<K.p.aD.length) (j:Tj K D L c):Tj K D L (By K c).2/\((By K c).1=7->(By K c).2.aI≠0):=by
 obtain⟨a1,a2,a3,a4,a5,a6⟩:=t.at_ge h0 h1;have hp:=j.on on;have tick:Tj K D L (CG c):=⟨j.sp,j.s3,j.st,j.nx,j.on,j.en⟩;have done:Tj K D L (HA (CG c)):=⟨j.sp,j.s3,j.st,fun _=>j.nx (.inr on),fun h=>(by cases h),j.en⟩;unfold By HJ;split
 ·split
  ·exact⟨done,fun h=>by cases h⟩
  ·exact⟨tick,fun h=>by cases h⟩
 ·split
  ·exact⟨done,fun h=>by cases h⟩
  ·next hk=>
   have hk:(mkK K c.idx).kind=3:=Decidable.byContradiction hk;have hi:c.idx=2:=by
    apply Decidable.byContradiction;intro q;have:=a3 q;omega
   split
   ·next q=>exact absurd q a5
   ·split
    ·next q=>exact absurd q a6
    ·split
     ·exact⟨⟨j.sp,j.s3,j.st,j.nx,j.on,fun _=>hp.trans (a2 hi)⟩,fun _=>by show(7:Int)≠0;decide⟩
     ·exact⟨done,fun h=>by cases h⟩
theorem Q2x {K:Kf} (mk:MarksOK K) {c:Cv} {z:Int} (z0:0<=z) (z1:z<=K.len) (h:c.m0=wrap .i64 (BI K.t z*256)):Av K c=z:=by
 have hw:=mk.fw.wh z z0 z1;have hl:=mk.fw.len;rw[Ae (by omega)]at h;have e:A6 c=BI K.t z:=by
  show wrap .i64 (c.m0.tdiv 256)=_;rw[Int.tdiv_eq_ediv_of_nonneg (by omega),Ae (by omega)];omega
 show AQ K.t (A6 c)=z;rw[e];exact hw.2.2.1
theorem Zyj {K:Kf} (h:KOK K) {n:Int} {c:Cv} (g:Gd K n c) (hn:0<=n/\n<=10000) (l:Int) (hh:c.o2=true) (h1:c.m1=0):(C8 K c l).m0=c.m0/\(C8 K c l).m1=0/\(C8 K c l).m2=0:=by
 have e:nxV K c l=0:=by
  rw[Zaj h g.mo hh l,Q0o h.plan g.mo.ready (by omega)];omega
 have hb:=g.m0;refine⟨?_,e,?_⟩
 ·show wrap .i64 (c.m0+nxV K c l)=c.m0;rw[e,Ae (by omega)];omega
 ·show wrap .i64 (nxV K c l-c.m1)=0;rw[e,h1];rfl
theorem Qg7 {K:Kf} {c d:Cv} (h:d.m0=c.m0):Av K d=Av K c:=by
 show AQ K.t (wrap .i64 (d.m0.tdiv 256))=AQ K.t (wrap .i64 (c.m0.tdiv 256));rw[h]
theorem Zlj {K:Kf} {D L:Int} (h:KOK K) (mk:MarksOK K) (t:TapK K D L) {n:Int} {c:Cv} (g:Gd K n c) (hn:0<=n/\n<=9999) (l:Int) (ix:Ix A0 K c) (ix':Ix A0 K (AV K c l)) (on:c.on=false) (he:c.aI=0) (j:Tj K D L c):Tj K D L (AV K c l):=by
 have hD:=t.D0;have up:=Qnx h g (by omega) l;have gm:=(Q2f h g (by omega) l).1;have um:=Zmv g gm (by omega) (by omega) ix.m0 up;have os:=Q3a K c l;have mm:=Q0d K c l;have p0:0<=Av K c:=(mk.fw.rg _).1;have p1:Av K c<=Av K (AV K c l):=mk.fw.up _ _ um.2.1;have p2:Av K (AV K c l)<=D+D:=by rw[<-t.len];exact(mk.fw.rg _).2
 have pD:c.next=0->Av K (AV K c l)<=D:=fun hx=>by
  obtain⟨e,e0,-,-⟩:=t.mks;have:=ix'.j 0 (by rw[mm.next];omega) (by rw[e];decide) (by rw[e0];rfl);rw[e0]at this;exact Zx5 h mk ix'.m0 (by omega) (by rw[t.len];omega) this
 have aI:(AV K c l).aI≠0->Av K (AV K c l)=D+D:=fun q=>absurd (os.aI.trans he) q;have on':(AV K c l).on=true->Av K (AV K c l)=(mkK K (AV K c l).idx).at_:=fun q=>by rw[mm.on,on]at q;cases q
 obtain⟨sl,s0,s1⟩:=t.seg c p0;have hL: ¬(sgK K c).lead=0:=by have:=t.L0;omega
 have kind:∀i:Int,i=0\/i=1->(itK K i).kind=6:=fun i hi=>by
  rcases hi with rfl|rfl
  ·exact t.k0.1
  ·exact t.k1.1
 have hx:=ix.next
 have still:c.m1=0->c.m2=0->AV K c l=C8 K c l->c.o2=true->Tj K D L (AV K c l):=fun h1 h2 e hh=>by
  obtain⟨q0,q1,q2⟩:=Zyj h g (by omega) l hh h1;have ep:Av K (C8 K c l)=Av K c:=Qg7 q0;rw[e];refine⟨j.sp,j.s3.trans (by rw[ep]),?_,fun q=> ?_,fun q=> ?_,fun q=>absurd he q⟩
  ·rw[ep,q1,q2];have:=j.st;rw[h1,h2]at this;exact this
  ·rw[ep,q1,q2];have:=j.nx q;rw[h1,h2]at this;exact this
  ·have q:c.on=true:=q;rw[on]at q;cases q
 have low:∀d:Cv,d.y0=0->d.y1=0->d.y2=0->d.s1=0->d.s2=0->(sgK K c).item=0-> ¬1<=c.next->AV K c l=FC K d l (sgK K c)->Tj K D L (AV K c l):=fun d y0 y1 y2 z1 z2 hi hxn e=>by
  have hd:=pD (by omega);have ee:Av K (FC K d l (sgK K c))=Av K (AV K c l):=by rw[e]
  have e3:(FC K d l (sgK K c)).s3=gT L D (Av K (AV K c l)):=by
   rw[Zaa t.L0 t.D0 (by omega) hd];show wrap .i64 (d.y2+wrap .i64 (wrap .i64 ((if(itK K (sgK K c).item).n=3 then 1 else-1)*DD (sgK K c).lead (wrap .i64 (Av K (FC K d l (sgK K c))-d.y1)))*256))=_;rw[hi,if_pos t.k0.2,y1,y2,sl,ee]
  have nx:=mm.next;generalize Av K (AV K c l)=P at*;rw[e]at nx on' aI mm⊢;refine⟨⟨z1,z2⟩,by rw[ee];exact e3, .inr (.inl ⟨y0,y1,y2,by rw[ee];exact hd⟩),fun q=> ?_,fun q=> ?_,fun q=> ?_⟩
  ·rcases q with q|q
   ·rw[nx]at q;exact absurd q hxn
   ·rw[mm.on,on]at q;cases q
  ·rw[mm.on,on]at q;cases q
  ·rw[ee];exact aI q
 have high:∀d:Cv,d.y0=1->d.y1=D->d.y2=gT L D D->d.s1=0->d.s2=0->(sgK K c).item=1->D<=Av K c->AV K c l=FC K d l (sgK K c)->Tj K D L (AV K c l):=fun d y0 y1 y2 z1 z2 hi hd e=>by
  have ee:Av K (FC K d l (sgK K c))=Av K (AV K c l):=by rw[e]
  have e3:(FC K d l (sgK K c)).s3=gT L D (Av K (AV K c l)):=by
   rw[Z07 t.L0 t.D0 (by omega) (by omega)];show wrap .i64 (d.y2+wrap .i64 (wrap .i64 ((if(itK K (sgK K c).item).n=3 then 1 else-1)*DD (sgK K c).lead (wrap .i64 (Av K (FC K d l (sgK K c))-d.y1)))*256))=_;rw[hi,if_neg (show¬(itK K 1).n=3 by rw[t.k1.2];decide),y1,y2,sl,ee]
  generalize Av K (AV K c l)=P at*;rw[e]at on' aI mm⊢;refine⟨⟨z1,z2⟩,by rw[ee];exact e3, .inr (.inr ⟨y0,y1,y2,by rw[ee];omega⟩),fun q=>⟨fun w=> ?_,fun w=> ?_⟩,fun q=> ?_,fun q=> ?_⟩
  ·have w:d.y0= -1:=w;omega
  ·have w:d.y0=0:=w;omega
  ·rw[mm.on,on]at q;cases q
  ·rw[ee];exact aI q
 have may:∀i:Int,(sgK K c).item=i->i=0\/i=1->Ed K c (sgK K c)=true:=fun i e hi=>by
  unfold Ed;rw[e,kind i hi];rfl
 have syn:∀(d:Cv) (i:Int),(sgK K c).item=i->i=0\/i=1->DZ K d l (sgK K c)=FC K d l (sgK K c):=fun d i e hi=>by
  unfold DZ;rw[e,if_pos (kind i hi)]
 by_cases hlt:Av K c<D
 ·have hi:=s0 hlt;rcases j.st with⟨y0,q0,q1,q2⟩|⟨y0,y1,y2,q0⟩|⟨y0,y1,y2,q0⟩
  ·have hxn: ¬1<=c.next:=fun q=>(j.nx (.inl q)).1 y0;by_cases hh:c.o2=true
   ·refine still q1 q2 ?_ hh;unfold AV;rw[if_pos (.inr ⟨hh,by rw[y0,hi];decide⟩)]
   ·refine low (goC K c (sgK K c)) hi q0 ?_ j.sp.1 j.sp.2 hi hxn ?_
    ·show c.s3=0;rw[j.s3,q0,Qv5 L D hD]
    ·unfold AV;rw[if_neg (fun q=>by rcases q with q|q;exact hL q;exact hh q.1),if_neg (by rw[y0,hi];decide),if_pos (may 0 hi (.inl rfl)),syn _ 0 hi (.inl rfl)]
  ·have hxn: ¬1<=c.next:=fun q=>by have:=((j.nx (.inl q)).2 y0).1;omega
   refine low c y0 y1 y2 j.sp.1 j.sp.2 hi hxn ?_;unfold AV;rw[if_neg (fun q=>by rcases q with q|q;exact hL q;exact q.2 (by rw[y0,hi])),if_pos (by rw[y0,hi]),syn _ 0 hi (.inl rfl)]
  ·omega
 ·have hge:D<=Av K c:=by omega
  have hi:=s1 hge;rcases j.st with⟨y0,q0,q1,q2⟩|⟨y0,y1,y2,q0⟩|⟨y0,y1,y2,q0⟩
  ·omega
  ·have hpD:Av K c=D:=by omega
   by_cases hh:c.o2=true
   ·have em:AV K c l=C8 K c l:=by
     unfold AV;rw[if_pos (.inr ⟨hh,by rw[y0,hi];decide⟩)]
    by_cases hxn:1<=c.next
    ·obtain⟨-,w⟩:=j.nx (.inl hxn);exact still (w y0).2.1 (w y0).2.2 em hh
    ·have hd:=pD (by omega);have ee:Av K (AV K c l)=D:=by omega
     have nx:=mm.next;have hs:(AV K c l).s3=c.s3:=by rw[em];rfl
     have hy:(AV K c l).y0=c.y0/\(AV K c l).y1=c.y1/\(AV K c l).y2=c.y2/\(AV K c l).s1=c.s1/\(AV K c l).s2=c.s2:=by rw[em];exact⟨rfl,rfl,rfl,rfl,rfl⟩
     obtain⟨w0,w1,w2,w3,w4⟩:=hy;refine⟨⟨w3.trans j.sp.1,w4.trans j.sp.2⟩,?_, .inr (.inl ⟨w0.trans y0,w1.trans y1,w2.trans y2,by omega⟩),fun q=> ?_,on',aI⟩
     ·rw[hs,j.s3,hpD,ee]
     ·rcases q with q|q
      ·rw[nx]at q;exact absurd q hxn
      ·rw[mm.on,on]at q;cases q
   ·refine high (goC K c (sgK K c)) hi hpD ?_ j.sp.1 j.sp.2 hi hge ?_
    ·show c.s3=_;rw[j.s3,hpD]
    ·unfold AV;rw[if_neg (fun q=>by rcases q with q|q;exact hL q;exact hh q.1),if_neg (by rw[y0,hi];decide),if_pos (may 1 hi (.inr rfl)),syn _ 1 hi (.inr rfl)]
  ·refine high c y0 y1 y2 j.sp.1 j.sp.2 hi hge ?_;unfold AV;rw[if_neg (fun q=>by rcases q with q|q;exact hL q;exact q.2 (by rw[y0,hi])),if_pos (by rw[y0,hi]),syn _ 1 hi (.inr rfl)]
theorem Zbc {K:Kf} {D L:Int} (h:KOK K) (mk:MarksOK K) (t:TapK K D L) {n:Int} {c:Cv} (g:Gd K n c) (hn:0<=n/\n<=9999) (ix:Ix A0 K c) (on:c.on=false) (he:c.aI=0) (hs:c.aM=true->c.m1=0/\c.m2=0) (j:Tj K D L c):
  Tj K D L (Cs K c).2/\((Cs K c).1=7->(Cs K c).2.aI≠0):=by
 have hl:=Qbu h mk g (by omega) (fun k ha=>XR (c:=c) k ha) ix.m0 ix.next ix.j;have hD:=t.D0;have ix':=(Qyu h mk g (by omega) (fun k ha=>XR (c:=c) k ha) ix on).1;unfold Cs at ix'⊢;split
 ·next hst=>
  rcases hl with⟨e,-⟩|⟨i,e,i1,i2,-,i4⟩
  ·have e1:(AS K c).1=BI K.t K.len:=by rw[e]
   have e2:(AS K c).2= -1:=by rw[e]
   rw[if_neg (by rw[e2];decide),if_pos mk.closed];have hp:=Q2x mk (c:=c) (z:=K.len) (by rw[t.len];omega) (Int.le_refl _) (by rw[<-e1];exact hst.2);exact⟨⟨j.sp,j.s3,j.st,j.nx,j.on,fun _=>hp.trans t.len⟩,fun _=>by show(7:Int)≠0;decide⟩
  ·have e1:(AS K c).1=BI K.t (mkK K i).at_:=by rw[e]
   have e2:(AS K c).2=i:=by rw[e]
   have hx:=ix.next;rw[e2,if_pos (by omega)];obtain⟨a1,a2,a3,a4,a5,a6⟩:=t.at_ge (i:=i) (by omega) i2;have hm:=mk.at_ i (by omega) i2;have hp:=Q2x mk (c:=c) (z:=(mkK K i).at_) hm.1 hm.2 (by rw[<-e1];exact hst.2);have j1:Tj K D L {c with on:=true,idx:=i,aN:=E4 K c i,cnt:=0}:=by
    refine⟨j.sp,j.s3,j.st,fun _=>⟨fun q=> ?_,fun _=>⟨by rw[Qg7 (c:=c) rfl];omega,(hs hst.1).1,(hs hst.1).2⟩⟩,fun _=>hp,j.en⟩;have q:c.y0= -1:=q;rcases j.st with w|w|w
    ·have:=w.2.1;omega
    ·omega
    ·omega
   have w:=Q0y t (c:={c with on:=true,idx:=i,aN:=E4 K c i,cnt:=0}) rfl (show 0<=i by omega) i2 j1;rw[if_neg fun q=>a4 q.2.1];exact w
 ·next hst=>
  rw[if_neg hst]at ix';exact⟨Zlj h mk t g hn _ ix ix' on he j,fun q=>by
   have q:(if c.g0≠0/\c.aM=true then(6:Int)else 1)=7:=q;split at q<;>cases q⟩
theorem Zka {K:Kf} (hr:0<=K.ramp/\K.ramp<=1000000) {c:Cv} (h:c.s1=0/\c.s2=0) (h3:wrap .i64 c.s3=c.s3) (E:List Evn):(Ba K c E).s1=0/\(Ba K c E).s2=0/\(Ba K c E).s3=c.s3:=by
 have h1:∀(E:List Evn) (c:Cv),(E.foldl (fun c e=>evC c e.kind e.n) c).s1=c.s1/\(E.foldl (fun c e=>evC c e.kind e.n) c).s2=c.s2/\(E.foldl (fun c e=>evC c e.kind e.n) c).s3=c.s3:=by
  intro E;induction E with
  |nil=>exact fun _=>⟨rfl,rfl,rfl⟩
  |cons e E ih=>exact fun c=>ih (evC c e.kind e.n)
 have h2:∀d:Cv,(CX d).s1=d.s1/\(CX d).s2=d.s2/\(CX d).s3=d.s3:=fun d=>by
  unfold CX;split<;>exact⟨rfl,rfl,rfl⟩
 have hq:∀d:Cv,d.s1=0->d.s2=0->d.s3=c.s3->(C6 K (BL d)).s1=0/\(C6 K (BL d)).s2=0/\(C6 K (BL d)).s3=c.s3:=fun d d1 d2 d3=>by
  unfold C6;split
  ·exact⟨d1,d2,d3⟩
  ·have e:spV (BL d) K.ramp=0:=by
    unfold spV;show(if d.s1<d.s2 then _ else mx (wrap .i64 (d.s1-K.ramp)) d.s2)=0;rw[d1,d2,if_neg (by omega),Ae (by omega)];unfold mx;split<;>omega
   refine⟨e,d2,?_⟩;show wrap .i64 (d.s3+wrap .i64 (d.s0*spV (BL d) K.ramp))=c.s3;rw[e,Int.mul_zero,d3,show wrap .i64 0=0 from rfl,Int.add_zero,h3]
 have a:=h1 E (Id c);have b:=h2 (BG c E);have w:=hq (CX (BG c E)) (b.1.trans (a.1.trans h.1)) (b.2.1.trans (a.2.1.trans h.2)) (b.2.2.trans a.2.2);exact w
theorem Zjf (K:Kf) (c:Cv) (E:List Evn):(Ba K c E).aM=true->(Ba K c E).m1=0/\(Ba K c E).m2=0:=by
 unfold Ba IR;generalize C6 K (BL (CX (BG c E)))=d;intro h;have h:E1 d=true:=h;unfold E1 at h;rw[Bool.and_eq_true,Bool.and_eq_true]at h;exact⟨eq_of_beq h.1,eq_of_beq h.2.1⟩
structure Tp (K : Kf) (D L : Int) (c : Cv) : Prop where
 ix:Ix A0 K c
 cm:Cm c
 gg:Gg c
 j:Tj K D L c
theorem Zvq {K:Kf} {D L:Int} (h:KOK K) (mk:MarksOK K) (t:TapK K D L) {n:Int} {c:Cv} (g:Gd K n c) (hn:0<=n/\n<=9999) {E:List Evn} (hk:∀e∈E,e.kind<=6) (p:Tp K D L c):
  Tp K D L (D8 K c E)/\(stC K c E).2.s3=gT L D (Av K (stC K c E).2)/\((stC K c E).1=7->Av K (stC K c E).2=D+D):=by
 have gg:=Zs1 (K:=K) hk p.gg;have ky:=Qvl K c E;have ht:=ky.aH.trans p.cm.aH;have hA:∀k,A0 k=true->Ct k (Ba K c E)=true:=fun k ha=>XR k ha;have sx:=(Zi6 h mk g (by omega) hA gg.ne2 ht p.ix).1;have cx:=Zbd (K:=K) p.cm E;have hp:Av K (Ba K c E)=Av K c:=Qg7 ky.m0;have jp:Tj K D L (Ba K c E):=by
  have w:=Zka t.ramp p.j.sp (by rw[p.j.s3];exact Zm4 L D _) E;refine⟨⟨w.1,w.2.1⟩,by rw[w.2.2,hp];exact p.j.s3,?_,?_,?_,?_⟩
  ·rw[hp,ky.y0,ky.y1,ky.y2,ky.m1,ky.m2];exact p.j.st
  ·rw[hp,ky.next,ky.on,ky.y0,ky.m1,ky.m2];exact p.j.nx
  ·rw[hp,ky.on,ky.idx];exact p.j.on
  ·rw[hp,ky.aI];exact p.j.en
 have gp:Gd K n (Ba K c E):=RS g E;have hs:=Zjf K c E;have ix:=p.ix.ky ky;have key:Tj K D L (stC K c E).2/\((stC K c E).1=7->(stC K c E).2.aI≠0):=by
  unfold stC;have g2:=gg.ne2;generalize Ba K c E=d at*;have hr:Cx K d=if d.aI≠0 then(d.aI,d)else if d.on=true then By K d else(0,d):=by
   unfold Cx;rw[if_neg g2,ht];split
   ·rfl
   ·rw[if_neg (by simp)]
  rw[hr];by_cases c1:d.aI≠0
  ·rw[if_pos c1,if_neg c1];exact⟨jp,fun _=>c1⟩
  ·rw[if_neg c1];by_cases c2:d.on=true
   ·rw[if_pos c2,if_neg (Qr4 K d)];have tk:=ix.task c2;have:=ix.next;exact Q0y t c2 (by omega) tk.2.1 jp
   ·rw[if_neg c2,if_pos rfl];exact Zbc h mk t gp hn ix (by simpa using c2) (by simpa using c1) hs jp
 refine⟨⟨sx,cx.1,cx.2 gg,?_⟩,key.1.s3,fun q=>key.1.en (key.2 q)⟩;unfold D8;generalize(stC K c E).2=d at*;obtain⟨m,q,e⟩:=Qq K d (Av K d);rw[e];exact⟨key.1.sp,key.1.s3,key.1.st,key.1.nx,key.1.on,key.1.en⟩
theorem tp0 {K:Kf} {D L:Int} (h:KOK K) (mk:MarksOK K) (t:TapK K D L):Tp K D L BY:=by
 have hp:Av K BY=0:=mk.fw.zero;refine⟨ix0 h mk,cm0, .inl ⟨rfl,rfl,rfl⟩,⟨rfl,rfl⟩,?_, .inl ⟨rfl,hp,rfl,rfl⟩,fun q=> ?_,fun q=> ?_,fun q=>absurd rfl q⟩
 ·rw[hp,Qv5 L D t.D0]
 ·rcases q with q|q
  ·exact absurd q (by decide)
  ·cases q
 ·cases q
end Go.Bm
noncomputable section
namespace Go.Bm
theorem Qpm (K:Kf) (c:Cv):Mw (Ad K c)=some (I c.s0::I c.s1::I c.s2::I c.s3::Ad K c):=Zt4 K c
theorem Zls {M0 MG' MS MA M4 M5 M6 M7 M8 M9 M10:Fn} {K:Kf} {E:List Evn} {D L f:Int} (h:KOK K) (mk:MarksOK K) (t:TapK K D L) (hf:wrap .i64 (f*16)=L) (hE:E.length<=60) (hk:∀e∈E,e.kind<=6)
  (hA:∀k,MA [.view kPt (E.map evR),I k]=some [.view kPt ((atE E k).map evR)]) (hG:∀v,i64 v->MG' [I L,I v]=some [I (DD L v)])
  (hS:∀(c:Cv) (n:Int) (E:List Evn),Gd K n c->0<=n/\n<=10000->NE E->MS (.view kPt (E.map evR)::Ad K c)=some (tkC K c E++Ad K (D8 K c E))):
  Out (fun o=>∃c:Cv,o=(2,Ad K c)/\c.s1=0) (Am (SC M0 MG' MS MA M4 M5 M6 M7 M8 M9 M10) (I f::I D:: .view kPt (E.map evR)::I ((0:Nat):Int)::Ad K BY)):=by
 refine CT (fun s:Nat×Cv=>I f::I D:: .view kPt (E.map evR)::I (s.1:Int)::Ad K s.2)
  (fun s=>s.1<=120/\Gd K s.1 s.2/\Tp K D L s.2) (fun s=>120-s.1) _ ?_ (0,BY) ⟨Nat.zero_le _,gdK h,tp0 h mk t⟩
 rintro⟨k,c⟩ ⟨h2,g,p⟩;dsimp only at h2 g p;refine Out.eqv (Znx M0 MG' MS MA M4 M5 M6 M7 M8 M9 M10 f D (E.map evR) k K c) ?_;refine .cond (fun c1=> ?_) fun _=> .some (.inr ⟨by simp,c,rfl,p.j.sp.1⟩);have c1:(k:Int)<120:=Br c1;have hD:=t.D0;refine .bind (p:=fun o=>o=_) ⟨_,hA k,rfl⟩ fun o e=> ?_;subst e;have am:∀e∈atE E k,e.kind<=6:=fun e he=>hk e (Zwu he);have calm:NE (atE E k):=⟨by have:=Q8f E k;omega,fun e he=>by have:=am e he;omega⟩;have gs:=Q2b h g (by omega) (atE E k);have ss:=Zvq h mk t g (by omega) am p;refine .bind (p:=fun o=>o=_) ⟨_,hS c k (atE E k) g (by omega) calm,rfl⟩ fun o e=> ?_;subst e;have hp0:0<=Av K (stC K c (atE E k)).2/\Av K (stC K c (atE E k)).2<=K.len:=mk.fw.rg _;rw[t.len]at hp0;have ht:∃a b x y z f,tkC K c (atE E k)=[AC.view kPt a, .view Aa b,I (stC K c (atE E k)).1,I (Av K (stC K c (atE E k)).2),I x,I y,I z,I (stC K c (atE E k)).2.s3,I f]:=⟨_,_,_,_,_,_,rfl⟩;obtain⟨a,b,x,y,z,ff,et⟩:=ht;rw[et,hf];obtain⟨s1,s2,s3⟩:=ss;rw[s2];generalize Av K (stC K c (atE E k)).2=S at*;generalize(stC K c (atE E k)).1=mode at*;generalize D8 K c (atE E k)=d at*;have m1:i64 (mn S D):=by unfold mn i64;split<;>omega
 have m2:i64 (mx (wrap .i64 (S-D)) 0):=by
  rw[Ae (by omega)];unfold mx i64;split<;>omega
 refine .bind (p:=fun o=>o=_) ⟨_,hG _ m1,rfl⟩ fun o e=> ?_;subst e;refine .bind (p:=fun o=>o=_) ⟨_,hG _ m2,rfl⟩ fun o e=> ?_;subst e;have e1:wrap .i64 ((k:Int)+1)=((k+1:Nat):Int):=by rw[Ae (by omega)];omega
 have fin:∀{x:List AC},x=I f::I D:: .view kPt (E.map evR)::I ((k+1:Nat):Int)::Ad K d->Out (fun o:Nat×List AC=>(o.1=0/\∃s':Nat×Cv,o.2=I f::I D:: .view kPt (E.map evR)::I (s'.1:Int)::Ad K s'.2/\(s'.1<=120/\Gd K s'.1 s'.2/\Tp K D L s'.2)/\120-s'.1<120-k)\/(o.1≠0/\∃c:Cv,o=(2,Ad K c)/\c.s1=0)) (some (0,x)):=fun hx=>by
  subst hx;refine .some (.inl ⟨rfl,(k+1,d),rfl,⟨by dsimp only;omega,?_,s1⟩,by dsimp only;omega⟩);have:(k:Int)+1=((k+1:Nat):Int):=by omega
  rw[<-this];exact gs
 refine .cond (fun e=> ?_) fun _=> ?_
 ·have e:(gT L D S !=wrap .i64 (wrap .i64 (DD L (mn S D)-DD L (mx (wrap .i64 (S-D)) 0))*256))=true:=e;rw[bnF (by rfl)]at e;cases e
 ·refine .cond (fun e=> ?_) fun _=>fin (by rw[<-e1];rfl);have e:mode=7:=eq_of_beq e;refine .cond (fun e2=> ?_) fun _=>fin (by rw[<-e1];rfl);have e2:(gT L D S !=0)=true:=e2;rw[bnF (by rw[s3 e,Q8h L D hD])]at e2;cases e2
theorem Q2u {M0 MG' MS MA MC ME MN MD MQ MF MV:Fn} {K:Kf} {E:List Evn} {D L:Int} {x0 x1 x2:Rw} {x3 x4 m1 m2:Int} (hE:E.length<=60)
  (hV:MV []=some [B true]) {q:Bool} (hF:MF [.view Aa [], .view Aa x0, .view Aa x1, .view Aa x2]=some [B q])
  (hyp : q = true -> KOK K /\ MarksOK K /\ TapK K D L /\ MQ [.view Aa x0, .view Aa x1] = some (AO K.x ++ [I K.pa, I K.pb, I K.pc, I K.ramp, I K.lag]) /\ MD [I x3, I 20] = some [I m1] /\ MD [I x4, I 300] = some [I m2] /\
   wrap .i64 (wrap .i64 (1+m2)*16)=L/\wrap .i64 (wrap .i64 (0-wrap .i64 (-1-m1))*16)=D/\
   MN (AO K.x++[I K.pa,I K.pb,I K.pc,I K.ramp,I K.lag]++[.view Al ([Bj 0 (wrap .i64 (-1-m1)) (wrap .i64 (1+m2)) 3,Bj (wrap .i64 (-1-m1)) 0 (wrap .i64 (1+m2)) 4,Fs].map Ah),B true])=some (I 0::Ad K BY)/\
   ME [.view Aa x2]=some [.view kPt (E.map evR)]/\MC [.view kPt (E.map evR)]=some [.view kPt ((E.filter fun e=>decide (e.kind<=6)).map evR)])
  (hA:∀(E:List Evn) (k:Int),E.length<=60->MA [.view kPt (E.map evR),I k]=some [.view kPt ((atE E k).map evR)]) (hG:∀u v,i64 u->i64 v->MG' [I u,I v]=some [I (DD u v)])
  (hP:∀c:Cv,M0 (Ad K c)=some (I c.s0::I c.s1::I c.s2::I c.s3::Ad K c))
  (hS:KOK K->∀(c:Cv) (n:Int) (E:List Evn),Gd K n c->0<=n/\n<=10000->NE E->MS (.view kPt (E.map evR)::Ad K c)=some (tkC K c E++Ad K (D8 K c E))):
  Qbh M0 MG' MS MA MC ME MN MD MQ MF MV (Am (SC M0 MG' MS MA MC ME MN MD MQ MF MV)) [.view Aa x0, .view Aa x1, .view Aa x2,I x3,I x4]=some [B true]:=by
 rw[Q93];refine eB hV (eF rfl (eB hF ?_));cases q
 ·rfl
 obtain⟨h,mk,t,hQ,hD1,hD2,hL,hD,hN,hE',hC⟩:=hyp rfl;refine eF rfl (eB hQ (eB hD1 (eB hD2 (eB hN (eF rfl (eB hE' (eB hC ?_)))))));generalize hcalm:(E.filter fun e=>decide (e.kind<=6))=F at*;have hlen:F.length<=60:=by rw[<-hcalm];exact Nat.le_trans (List.length_filter_le _ _) hE
 have hk:∀e∈F,e.kind<=6:=fun e he=>by rw[<-hcalm]at he;exact of_decide_eq_true (List.mem_filter.1 he).2
 have hLi:i64 L:=by rw[<-hL];exact PS _
 obtain⟨o,hl,c,rfl,hs⟩:=Zls (M0:=M0) (M4:=MC) (M5:=ME) (M6:=MN) (M7:=MD) (M8:=MQ) (M9:=MF) (M10:=MV) h mk t hL hlen hk (fun k=>hA F k hlen) (fun v hv=>hG L v hLi hv) (hS h);rw[<-hD]at hl;refine eB hl (eF rfl (eT rfl (eB (hP c) ?_)));show some [B (c.s1==0)]=_;rw[beT hs]
theorem Zez {x0 x1:Rw} (h0:Src x0) (h1:Src x1) (hl:x1.length<=100000) {d f:Int} (hd:1<=d/\d<=1000) (hf:1<=f/\f<=1000):
  ∃K:Kf,KOK K/\MarksOK K/\TapK K (d*16) (f*16)/\Lc [.view Aa x0, .view Aa x1]=some (AO K.x++[I K.pa,I K.pb,I K.pc,I K.ramp,I K.lag])/\
   Hk (AO K.x++[I K.pa,I K.pb,I K.pc,I K.ramp,I K.lag]++[.view Al ((BO d f).map Ah),B true])=some (I 0::Ad K BY):=by
 obtain⟨x,a,b,c,ramp,lag,hQ,hM⟩:=Zjk h0 h1 hl;have hc:=Zmw hd hf;have hlen:(BO d f).length<=15:=by show 3<=15;omega
 have hn := Qo1 hM hlen hc (Zlx hd) (fun it hit h8 => by
  unfold BO at hit;simp only[List.mem_cons,List.not_mem_nil,or_false]at hit;rcases hit with rfl|rfl|rfl
  ·simp[Bj]at h8
  ·simp[Bj]at h8
  ·simp[Fs]at h8) true
 have mk:=Zmn (pa:=a) (pb:=b) (pc:=c) (ramp:=ramp) (lag:=lag) hM.x.ok (Qmo hlen hc) (Ol hc).2;obtain⟨p1,p2⟩:=Q8q hd hf;refine⟨kfP x a b c ramp lag (BO d f) true,hn.2,mk,⟨⟨_,_,p1⟩,p2,⟨rfl,rfl⟩,⟨rfl,rfl⟩,rfl,?_,by omega,by omega,?_⟩,hQ,hn.1⟩
 ·show AF (AR (BO d f)).aF=_;rw[p1];show d*16+(d*16+0)=_;omega
 ·have:=hM.ramp;show 0<=ramp/\ramp<=1000000;omega
theorem Zvz {x0 x1 x2:Rw} {x3 x4:Int} (h0:Src x0) (h1:Src x1) (h2:Src x2) (h3:i64 x3) (h4:i64 x4):
  Qqa [.view Aa x0, .view Aa x1, .view Aa x2,I x3,I x4]=some [B true]:=by
 obtain⟨q,hF,hq⟩:=Zct [] x0 x1 x2;have e1:0<=x3%20/\x3%20<20:=⟨Int.emod_nonneg _ (by decide),Int.emod_lt_of_pos _ (by decide)⟩;have e2:0<=x4%300/\x4%300<300:=⟨Int.emod_nonneg _ (by decide),Int.emod_lt_of_pos _ (by decide)⟩;cases q
 ·exact Q2u (K:=kX []) (E:=[]) (D:=0) (L:=0) (m1:=0) (m2:=0) (MS:=Ik) (MA:=K9) (by simp) Q0v hF (fun h=>by cases h) (fun E k hE=>Q1p (by omega) k) (fun u v hu hv=>Qnk hu hv) (Qpm _) (fun h c n E g hn hE=>PL h g hn hE)
 ·obtain⟨-,l0,l1,l2⟩:=hq rfl;obtain⟨K,hK,mk,t,hQ,hN⟩:=Zez h0 h1 (by omega) (d:=1+x3%20) (f:=1+x4%300) (by omega) (by omega);obtain⟨E,hV,hE,-⟩:=Zga h2 l2;have w1:wrap .i64 (-1-x3%20)= -(1+x3%20):=by rw[Ae (by omega)];omega
  have w2:wrap .i64 (1+x4%300)=1+x4%300:=Ae (by omega);refine Q2u (K:=K) (E:=E) hE Q0v hF (fun _=>⟨hK,mk,t,hQ,Zp h3 (by omega),Zp h4 (by omega),?_,?_,?_,hV,Q9c (by omega)⟩) (fun E k hE=>Q1p (by omega) k) (fun u v hu hv=>Qnk hu hv) (Qpm _) (fun h c n E g hn hE=>PL h g hn hE)
  ·rw[w2,Ae (by omega)]
  ·rw[w1,Ae (x:=0- -(1+x3%20)) (by omega),Ae (by omega)];omega
  ·rw[w1,w2];exact hN
end Go.Bm
namespace Go.Bm
theorem VD {r:List AC} (h:okR Aa r):i64 (Af (nth .dead r 0)):=by
 match r,h with
 |[],h=>exact h.elim
 |a::_,h=>exact Zhd h.1
theorem Qnw {r:List AC} (h:okR [Kd.sl Aa] r):Src (BR (nth .dead r 0)):=by
 match r,h with
 |[],h=>exact h.elim
 |a::_,h=>
  have h1:=h.1;unfold okC at h1;refine⟨?_,fun c hc=>VD (h1.2 c hc).1⟩;have h2:=h1.1;simp only[maxLen]at h2;show(BR a).length<=_;omega
end Go.Bm
