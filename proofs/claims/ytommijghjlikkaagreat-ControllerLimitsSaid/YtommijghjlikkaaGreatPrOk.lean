/- laid together -/
import Derived.Test.YtommijghjlikkaaGreatPrWi
import Derived.Test.YtommijghjlikkaaGreatMy1
import Derived.Test.YtommijghjlikkaaGreatPrTk
set_option linter.unusedVariables false
set_option linter.unusedSimpArgs false
set_option maxRecDepth 100000
variable {K:Go.Bm.Kf} {a k b j m:Int} {p:Go.Bm.Pth} {i A R:Nat} {l:Go.Bm.Rw} {E:List Go.Bm.Evn} {q:Go.Bm.Pt} {L:List Int}
noncomputable section
open Go.IntKind (wrap)
namespace Go.Bm
open Classical
def GT (K:Kf) (c:Cv):List Int:=Bn c.m0 (stL K c)++[endC K c,endC K c]
structure Hs (K : Kf) (c : Cv) (e0 e1 e2 : Pt) : Prop where
 at_:e0=MK K c.m0
 ch:Ch K.x (e2::e1::e0::(GT K c).map (MK K))
def Zq (K:Kf) (c:Cv) (e0 e1:Pt):Prop:=e1=e0/\endC K c=c.m0/\AP c=false
def Lq (K:Kf) (c:Cv) (e0 e1 e2:Pt):Prop:=Hs K c e0 e1 e2/\((e1=MK K c.m3/\e2=MK K c.m4)\/Zq K c e0 e1)
theorem Ow {c:Cv} (h:AP c=true):c.m1=0/\c.m2=0/\c.m3=c.m0/\c.m4=c.m0:=by
 unfold AP at h;simp only[ak,beq_iff_eq]at h;exact h
theorem Q9e {c:Cv} (D:c.m1=0) (E:c.m2=0) (G:c.m3=c.m0) (I:c.m4=c.m0):AP c=true:=by
 unfold AP;simp only[ak,beq_iff_eq];exact⟨D,E,G,I⟩
theorem Qpt (K:Kf) (c:Cv):∃a b l,GT K c=a::b::l:=by
 unfold GT;cases hf:Bn c.m0 (stL K c)with
 |nil=>exact⟨_,_,[],rfl⟩
 |cons a l=>
  cases l with
  |nil=>exact⟨_,_,_,rfl⟩
  |cons b l=>exact⟨_,_,_,rfl⟩
theorem Pr (h:KOK K) {c:Cv} (he:endC K c=c.m0):∀u∈GT K c,u=c.m0:=λu D=>by
 have hb:=(LQ h.plan c.m1 c.m2).2;unfold GT at D;rw[ba]at D;rcases D with D|D
 ·have:=Xx (u:=c.m0) (l:=stL K c) (λv E=>(hb v E).1) u D;have he:BH c.m0 (stL K c)=c.m0:=he;omega
 ·simp only[ao,lg,or_false]at D;rcases D with rfl|rfl<;>exact he
theorem Ta (h:KOK K) {c:Cv} (D:Mo K c) (E:c.m1=0):endC K c=c.m0:=by
 unfold endC;rw[TD h.plan D (by omega)];rfl
theorem VS (h:KOK K) {c:Cv} {p:Pt} (E:p=MK K c.m0) (he:endC K c=c.m0):Hs K c p p p:=by
 refine⟨E,Q0f h.f.x (p:=p) λq D=> ?_⟩;simp only[ao]at D;rcases D with rfl|rfl|rfl|D
 ·rfl
 ·rfl
 ·rfl
 ·obtain⟨u,G,rfl⟩:=bc.1 D;rw[Pr h he u G,E]
theorem Qz6 (h:KOK K) {n:Int} {c d:Cv} (g:Gd K n c) (Y:0<=n/\n<=10000) {e0 e1 e2:Pt} {l:Int} (q:Hs K c e0 e1 e2) (J:e1=MK K c.m3/\e2=MK K c.m4) (mv:MovS K c d l):
  De K.x [e2,e1,e0,MK K d.m0]/\Lq K d (MK K d.m0) e0 e1:=by
 obtain⟨v,⟨L,a1,a2,a3,a4,a5⟩,b⟩:=mv;have E:e0=MK K d.m3/\e1=MK K d.m4:=⟨by rw[a3];exact q.at_,by rw[a4];exact J.1⟩;rcases b with b|b
 ·have M:=b.2;have G:(IZ c.m4 c.m3 c.m0 (V (c.m0+v)) (AJ K.pa K.pb v (V (v-c.m1))).1).map (MU K.p K.x K.t)=e2::e1::e0::MK K d.m0::(GT K d).map (MK K):=by
   unfold IZ GT endC stL;rw[L,a1,a2,J.2,J.1,q.at_];simp only[bn,bm,d8,ay,az,dk]
  rw[G]at M;exact⟨M.head,⟨rfl,M.tail⟩, .inl E⟩
 ·obtain⟨b1,b2,b3⟩:=QK h.plan g.mo b;have he:=Qev h g Y b L a1 a2;have I:=DH h.plan (FA.1 b3).1;have hm:=g.m0;have N:d.m0=c.m0+v:=by rw[L,Ae]
  obtain⟨-,s2⟩:=Ry h.plan g.mo;have ed:stL K d=(AJ K.pa K.pb v (AH K.pa K.pb c.m1 c.m2)).1:=by unfold stL;rw[a1,a2,b2]
  by_cases U:c.m1<=0
  ·have hb:=Qb4 h.plan g.mo.ready U;have a6:=DH h.plan g.mo.ready;have v0:v=0:=by omega
   have em:endC K c=c.m0:=Ta h g.mo (by omega);have X:d.m0=c.m0:=by omega
   have all:=Pr h em;obtain⟨a,b',l',G⟩:=Qpt K c;have D:=q.ch;have ha:a=c.m0:=all a (by rw[G];simp);have O:b'=c.m0:=all b' (by rw[G];simp);rw[G,ha,O,bm,bm,<-q.at_]at D;have S:endC K d=d.m0:=by rw[he,em,X]
   have T:MK K d.m0=e0:=by rw[X];exact q.at_.symm
   rw[T];refine⟨D.head,⟨T.symm,?_⟩, .inl E⟩;refine Q36 h.f.x (a:=e1) (p:=e0) D.tail.head λr I=> ?_;simp only[ao]at I;rcases I with rfl|rfl|I
   ·rfl
   ·rfl
   ·obtain⟨u,hu,rfl⟩:=bc.1 I;rw[Pr h S u hu];exact T
  ·have G:GT K c=d.m0::GT K d:=by
    unfold GT;rw[he,ed];unfold stL;rw[s2,ab U];show(c.m0+(c.m1+AH K.pa K.pb c.m1 c.m2))::_=_;rw[<-b1,<-N];rfl
   have D:=q.ch;rw[G,bm]at D;exact⟨D.head,⟨rfl,D.tail⟩, .inl E⟩
theorem Zl3 (h:KOK K) {c d:Cv} (I:Mo K c) {e0 e1 e2:Pt} (q:Lq K c e0 e1 e2) (E:AP c=true) (D:d.m0=c.m0) (J:d.m1=c.m1) (L:d.m2=c.m2) (M:d.m3=c.m3) (N:d.m4=c.m4):
  De K.x [e2,e1,e0,MK K d.m0]/\Lq K d (MK K d.m0) e0 e1:=by
 obtain⟨s1,s2,s3,G⟩:=Ow E;obtain⟨⟨O,-⟩,q|q⟩:=q
 ·have S:e1=MK K d.m0:=by rw[q.1,s3,D]
  have T:e2=MK K d.m0:=by rw[q.2,G,D]
  have U:e0=MK K d.m0:=by rw[O,D]
  have he:endC K d=d.m0:=by
   rw[H9 D J L,Ta h I s1,D]
  rw[U,S,T];exact⟨Zdq h.f.x _,VS h rfl he, .inl ⟨by rw[M,s3,D],by rw[N,G,D]⟩⟩
 ·rw[q.2.2]at E;cases E
theorem Zif (h:KOK K) {c d:Cv} {e0 e1 e2:Pt} (q:Lq K c e0 e1 e2) (he:endC K c=c.m0) (M:AP c=false) (E:d.m0=c.m0) (N:d.m1=c.m1) (O:d.m2=c.m2) (U:d.m3=c.m3) (V:d.m4=c.m4):
  De K.x [e2,e1,e0,MK K d.m0]/\Lq K d (MK K d.m0) e0 e1:=by
 obtain⟨⟨S,D⟩,-⟩:=q;have all:=Pr h he;obtain⟨a,b',l',I⟩:=Qpt K c;have X:a=c.m0:=all a (by rw[I];simp);have J:b'=c.m0:=all b' (by rw[I];simp);rw[I,X,J,bm,bm,<-S]at D;have L:MK K d.m0=e0:=by rw[E];exact S.symm
 have T:endC K d=d.m0:=by rw[H9 E N O,he,E]
 rw[L];refine⟨D.head,⟨L.symm,Q36 h.f.x (a:=e1) (p:=e0) D.tail.head λr G=> ?_⟩, .inr ⟨rfl,T,?_⟩⟩
 ·simp only[ao]at G;rcases G with rfl|rfl|G
  ·rfl
  ·rfl
  ·obtain⟨u,Y,rfl⟩:=bc.1 G;rw[Pr h T u Y];exact L
 ·unfold AP at M⊢;rw[E,N,O,U,V];exact M
theorem Z5e (h:KOK K) {c d:Cv} {e0 e1 e2:Pt} (q:Hs K c e0 e1 e2) (z:Zq K c e0 e1) (M:Mo K d) (N:d.m0=c.m0) (O:d.m1=0):
  De K.x [e2,e1,e0,MK K d.m0]/\Lq K d (MK K d.m0) e0 e1:=by
 obtain⟨G,D⟩:=q;have all:=Pr h z.2.1;obtain⟨a,b',U,I⟩:=Qpt K c;have S:a=c.m0:=all a (by rw[I];simp);rw[I,S,bm,<-G]at D;have E:MK K d.m0=e0:=by rw[N];exact G.symm
 have J:endC K d=d.m0:=Ta h M O;rw[E];refine⟨D.head,by rw[z.1];exact VS h E.symm J,?_⟩;cases L:AP d with
 |true=>
  obtain⟨s1,s2,s3,T⟩:=Ow L;exact .inl ⟨by rw[s3,E],by rw[T,E];exact z.1⟩
 |false=>exact .inr ⟨rfl,J,L⟩
theorem Z4t {K D:Kf} (h':KOK D) {c d:Cv} {e0 e1 e2:Pt} (q:Lq K c e0 e1 e2) (G:AP c=true) (J:Mo D d) (E:d.m0=0) (L:d.m1=0) (M:d.m3=0) (N:d.m4=0) (I:MK D 0=MK K c.m0):Lq D d e0 e1 e2:=by
 obtain⟨s1,s2,s3,O⟩:=Ow G;obtain⟨⟨S,-⟩,q|q⟩:=q
 ·have T:e0=MK D d.m0:=by rw[E,I];exact S
  have U:e1=MK D d.m0:=by rw[E,I,q.1,s3]
  have V:e2=MK D d.m0:=by rw[E,I,q.2,O]
  rw[T,U,V];exact⟨VS h' rfl (Ta h' J L), .inl ⟨by rw[M,E],by rw[N,E]⟩⟩
 ·rw[q.2.2]at G;cases G
def GJ (K:Kf) (s:Int):Sgm:=(K.p.aF[(A5 K.p.aF (max s 0)).1]?).getD sg0
def bP (K:Kf) (j:Int):Int:=if j<=0 then 0 else(mkK K (j-1)).at_
def NM (k:Int):Prop:=k=1\/k=3\/k=6
theorem Zus (h:NM k) (c:Cv):Cc k c=true:=by
 unfold Cc;rcases h with rfl|rfl|rfl
 ·rfl
 ·rfl
 ·rfl
def Thr (K:Kf) (j:Int):Prop:=(∃g∈K.p.aF,g.aU=j/\g.aX≠0)/\(itK K j).aP≠6
structure ThK (K : Kf) : Prop where
 mono:∀i j:Int,0<=i->i<=j->j<K.aA.length->(mkK K i).at_<=(mkK K j).at_
 seg:∀s:Int,0<=s->s<=K.len->(GJ K s).aX≠0->bP K (GJ K s).aU<=s/\s<=(mkK K (GJ K s).aU).at_/\bP K (GJ K s).aU<K.len/\(s=(mkK K (GJ K s).aU).at_->s=K.len)
 at_:∀j:Int,Thr K j->(GJ K (bP K j)).aX≠0/\(GJ K (bP K j)).aU=j
 pre:∀j:Int,Thr K j->bP K j=0\/∃i:Int,0<=i/\i<j/\(mkK K i).at_=bP K j/\NM (mkK K i).aP
theorem ThK.sT (h:ThK K) (t:Trk):ThK (Go.Bm.sT K t):=⟨h.mono,h.seg,h.at_,h.pre⟩
theorem Thr.aU (h:KOK K) {j:Int} (t:Thr K j):0<=j/\j<K.aA.length:=by
 obtain⟨⟨g,D,rfl,-⟩,-⟩:=t;have:=h.aF g D;exact⟨this.1,this.2.1⟩
theorem O8 (h:KOK K) (m:OKm K) {j:Int} (D:j<K.aA.length):0<=bP K j/\bP K j<=K.len:=by
 unfold bP;by_cases c:j<=0
 ·rw[aa c];have:=(m.at_ (K.aA.length-1) (by have:=m.pos;omega) (by omega));omega
 ·rw[ab c];exact m.at_ _ (by omega) (by omega)
def Lk (K:Kf) (c:Cv) (j:Int):Prop:=∃i:Int,c.next<=i/\i<j/\(mkK K i).at_=bP K j/\NM (mkK K i).aP
structure Ahead (K : Kf) (c : Cv) (s0 j : Int) : Prop where
 s0:s0<=bP K j
 e:endC K c<=256*AO K.t (bP K j)
 l:Lk K c j\/(c.m0=256*AO K.t (bP K j)/\AP c=true)
structure Tm (K : Kf) (c : Cv) (s0 : Int) : Prop where
 f:FwS K.t s0 K.len
 pos:0<=c.y0->bP K c.y0<=Ay K c
 a:∀j:Int,Thr K j->c.y0<j->Ahead K c s0 j
structure Tb (K : Kf) (c : Cv) : Prop where
 home:0<=c.home/\c.home<=K.len
 pos:0<=c.y0->bP K c.y0<=c.home
 a:∀j:Int,Thr K j->c.y0<j->c.home<=bP K j/\Lk K c j
 two:c.way=2->AA K.t K.t.length=c.home
structure Tq (K : Kf) (c : Cv) : Prop where
 on:c.on=true->AP c=true/\c.m0=256*AO K.t (mkK K c.idx).at_
 en:c.aI≠0->AP c=true
 y:c.y0<K.aA.length/\(0<=c.y0->bP K c.y0<K.len)
 g0:c.g0≠2
 main:c.way=0->∃s0,Tm K c s0
 bB:c.way≠0->Tb K c
structure Tsm (c d : Cv) : Prop where
 m0:d.m0=c.m0
 m1:d.m1=c.m1
 m2:d.m2=c.m2
 m3:d.m3=c.m3
 m4:d.m4=c.m4
 next:d.next=c.next
 y0:d.y0=c.y0
 on:d.on=c.on
 idx:d.idx=c.idx
 aI:d.aI=c.aI
 way:d.way=c.way
 home:d.home=c.home
 g0:c.g0≠2->d.g0≠2
theorem Tn {c d:Cv} (D:d.m0=c.m0) (E:d.m1=c.m1) (G:d.m2=c.m2) (I:d.m3=c.m3) (J:d.m4=c.m4):AP d=AP c:=by unfold AP;rw[D,E,G,I,J]
theorem Tsm.still {c d:Cv} (s:Tsm c d):AP d=AP c:=Tn s.m0 s.m1 s.m2 s.m3 s.m4
theorem Lk.same {c d:Cv} (h:Lk K c j) (e:d.next=c.next):Lk K d j:=by
 obtain⟨i,D,E⟩:=h;exact⟨i,by rw[e];exact D,E⟩
theorem Xo {c d:Cv} (h:d.m0=c.m0):Ay K d=Ay K c:=by
 show AA K.t (V (d.m0.tdiv 256))=AA K.t (V (c.m0.tdiv 256));rw[h]
theorem Ahead.same {c d:Cv} (a:Ahead K c k j) (D:d.m0=c.m0) (E:d.m1=c.m1) (G:d.m2=c.m2) (I:AP d=AP c) (J:d.next=c.next):Ahead K d k j:=
 ⟨a.s0,by rw[H9 D E G];exact a.e,by
  rcases a.l with l|l
  ·exact .inl (l.same J)
  ·exact .inr ⟨by rw[D];exact l.1,by rw[I];exact l.2⟩⟩
theorem Tm.same {c d:Cv} (t:Tm K c a) (s:Tsm c d):Tm K d a:=
 ⟨t.f,by rw[s.y0,Xo s.m0];exact t.pos,λj D h=>(t.a j D (by rw[<-s.y0];exact h)).same s.m0 s.m1 s.m2 s.still s.next⟩
theorem Tb.same {c d:Cv} (t:Tb K c) (s:Tsm c d):Tb K d:=
 ⟨by rw[s.home];exact t.home,by rw[s.y0,s.home];exact t.pos,λj D h=>by
  have:=t.a j D (by rw[<-s.y0];exact h);exact⟨by rw[s.home];exact this.1,this.2.same s.next⟩,by rw[s.way,s.home];exact t.two⟩
theorem Tq.same {c d:Cv} (t:Tq K c) (s:Tsm c d):Tq K d:=by
 refine⟨?_,?_,?_,s.g0 t.g0,λw=> ?_,λw=> ?_⟩
 ·rw[s.on,s.still,s.m0,s.idx];exact t.on
 ·rw[s.aI,s.still];exact t.en
 ·rw[s.y0];exact t.y
 ·obtain⟨s0,m⟩:=t.main (by rw[<-s.way];exact w);exact⟨s0,m.same s⟩
 ·exact(t.bB (by rw[<-s.way];exact w)).same s
theorem R4 (h:KOK K) (D:Iw K) (m:OKm K) (c:Cv):0<=Ay K c/\Ay K c<=K.len:=by
 obtain⟨d,a,b,-,e⟩:=D;have:=Qo3 (d:=d) (a:=a) (b:=b) h.f.x.ok h.f.p (AB c);rw[<-e,<-m.len]at this;exact this
theorem Qzg {n:Int} {c:Cv} (o:Oj K n c) (hn:0<=n/\n<=9999) (N:c.way=0) {s0:Int} (f:FwS K.t s0 K.len):
  ∃j:Int,AG K c=(AO K.t (mkK K j).at_,j)/\c.next<=j/\j<K.aA.length/\s0<=(mkK K j).at_/\(mkK K j).at_<=K.len/\
   ∀i:Int,c.next<=i->i<j->NM (mkK K i).aP->s0<=(mkK K i).at_->(mkK K i).at_<=K.len-> ¬endC K c<=256*AO K.t (mkK K i).at_:=by
 have J:=(o.w N).2;have gd:=o.g.gd N;have e0:=KF o.k c;have S:=o.m0;have fr:=Qh4 f o.k.len (r:=endC K c) (z:=K.len) (by omega) f.be.2 (bz _) J;have E:Ew K=K.len:=by unfold Ew;rw[aa o.m.closed]
 have I:KE K c=endC K c:=Qlm o.k gd (by omega);have T:=o.m.mi.len;have D:=o.m.last;have L:=Zem (K:=K) (c:=c) (known:=K.len) (frm:=DM K (endC K c)) o.next.1;have G:AG K c=(AO K.t (BA K c K.len (DM K (endC K c))).1,(BA K c K.len (DM K (endC K c))).2):=by
  unfold AG;rw[I,E]
 have U:=o.next;rcases L with⟨-,V⟩|⟨j,X,Y,j2,⟨j3,j4,j5⟩,j6⟩
 ·exact absurd ⟨by rw[D.2];rfl,by rw[D.1];exact fr.2,by rw[D.1];exact bz _⟩ (V (K.aA.length-1) (by omega) (by omega))
 ·rw[X]at G;refine⟨j,G,Y,by omega,by omega,j5,λi i1 i2 ia M O he=> ?_⟩;have:=Qh4 f o.k.len (r:=endC K c) (z:=(mkK K i).at_) (by omega) M O he;exact j6 i i1 i2 ⟨Zus ia c,this.2,O⟩
theorem MovS.endQ (h:KOK K) {n:Int} {c d:Cv} (g:Gd K n c) (E:0<=n/\n<=10000) {l:Int} (m:MovS K c d l):EndQ K c d l:=by
 obtain⟨v,⟨D,a1,a2,-,-,-⟩,b⟩:=m;rcases b with b|b
 ·refine .inl ?_;unfold endC stL;rw[D,a1,a2];exact b.1.2
 ·exact .inr (Qev h g E b D a1 a2)
theorem MovS.up (h:KOK K) {n:Int} {c d:Cv} (g:Gd K n c) (I:0<=n/\n<=10000) {l:Int} (m:MovS K c d l):d.m0=c.m0+d.m1/\0<=d.m1/\Mo K d:=by
 obtain⟨v,⟨E,a1,a2,-,-,-⟩,b⟩:=m;have D:(AJ K.pa K.pb v (V (v-c.m1))).2=true:=by
  rcases b with b|b
  ·exact b.1.1
  ·exact(QK h.plan g.mo b).2.2
 have G:=DH h.plan (FA.1 D).1;have:=g.m0;refine⟨by rw[E,a1,Ae],by rw[a1];exact G.2.2.1,?_⟩;unfold Mo;rw[a1,a2];exact D
theorem Zcn {n:Int} {c:Cv} (o:Oj K n c) (th:ThK K) (J:0<=n/\n<=9999) (L:c.way=0) {s0:Int} (f:FwS K.t s0 K.len) {i:Int} (i0:c.next<=i) (i1:i<K.aA.length) (M:NM (mkK K i).aP) (E:s0<=(mkK K i).at_) (he:endC K c<=256*AO K.t (mkK K i).at_):
  V ((AG K c).1*256)<=256*AO K.t (mkK K i).at_:=by
 obtain⟨j,e,U,X,I,N,O⟩:=Qzg o J L f;have S:=o.next;have D:=o.m.at_ i (by omega) i1;have G:j<=i:=by
  apply bp;intro q;exact O i i0 (by omega) M E D.2 he
 have T:=f.wmono I (th.mono j i (by omega) G i1) D.2;have Y:=f.wh _ I N;have hl:=f.len;rw[e];dsimp only;rw[Ae];omega
structure M5 (c d : Cv) : Prop where
 m0:d.m0=c.m0
 m1:d.m1=c.m1
 m2:d.m2=c.m2
 m3:d.m3=c.m3
 m4:d.m4=c.m4
 y0:d.y0=c.y0
 way:d.way=c.way
 home:d.home=c.home
 g0:d.g0=c.g0
theorem M5.still {c d:Cv} (s:M5 c d):AP d=AP c:=Tn s.m0 s.m1 s.m2 s.m3 s.m4
theorem ZN (K:Kf) (c:Cv):M5 c (A3 K c).2:=by
 have t:M5 c (BT c):=⟨rfl,rfl,rfl,rfl,rfl,rfl,rfl,rfl,rfl⟩;have done:∀d:Cv,M5 c d->M5 c (GV d):=λd k=>⟨k.m0,k.m1,k.m2,k.m3,k.m4,k.y0,k.way,k.home,k.g0⟩;have cmd:∀D sp:Int,M5 c (HY (BT c) D sp):=λD sp=>⟨rfl,rfl,rfl,rfl,rfl,rfl,rfl,rfl,rfl⟩;unfold A3 FL;split
 ·split
  ·exact done _ t
  ·exact t
 ·split
  ·exact done _ t
  ·split
   ·split
    ·exact t
    ·exact done _ t
   ·split
    ·split
     ·exact done _ (cmd _ _)
     ·exact cmd _ _
    ·split
     ·exact⟨rfl,rfl,rfl,rfl,rfl,rfl,rfl,rfl,rfl⟩
     ·exact done _ t
theorem Q3p {c:Cv} (k:KOK K) (I:OKm K) (th:ThK K) (t:Tq K c) (L:c.way=0) (on:c.on=true) (S:0<=c.idx/\c.idx<K.p.aD.length) (T:0<=c.next):Tq K (A3 K c).2:=by
 have m5:=ZN K c;have E:=Q6a K c;obtain⟨U,V⟩:=t.on on;have X:=I.mi.len;have G:=k.count;have e0:=KF k c;generalize(A3 K c).2=d at*;have D:AP d=true:=m5.still.trans U;refine⟨λq=>⟨D,?_⟩,λ_=>D,by rw[m5.y0];exact t.y,by rw[m5.g0];exact t.g0,λ_=> ?_,λw=>absurd (m5.way.trans L) w⟩
 ·rcases E with E|⟨-,Y,-⟩
  ·rw[m5.m0,E.idx];exact V
  ·rw[Y]at q;cases q
 ·obtain⟨s0,m⟩:=t.main L;refine⟨s0,m.f,by rw[m5.y0,Xo m5.m0];exact m.pos,λj M h=> ?_⟩;have a:=m.a j M (by rw[<-m5.y0];exact h);have J:=M.aU k;have hb:=O8 k I J.2;refine⟨a.s0,by rw[H9 m5.m0 m5.m1 m5.m2];exact a.e,?_⟩;rcases a.l with l|l
  ·rcases E with E|⟨h1,-,-⟩
   ·exact .inl (l.same E.next)
   ·rw[Ae (x:=c.idx+1)]at h1;obtain⟨i,i1,i2,N,i4⟩:=l;by_cases hi:d.next<=i
    ·exact .inl ⟨i,hi,i2,N,i4⟩
    ·refine .inr ⟨?_,D⟩;have O:=th.mono i c.idx (by omega) (by omega) (by omega);rw[N]at O;have hx:=(I.at_ c.idx S.1 (by omega)).2;have:=m.f.wmono a.s0 O hx;have ae:=a.e;rw[m5.m0];omega
  ·exact .inr ⟨by rw[m5.m0];exact l.1,D⟩
theorem Znh {c:Cv} (k:KOK K) (L:OKm K) (th:ThK K) (t:Tq K c) (E:c.way=0) (G:0<=c.next) (M:AP c=true) {i:Int} (i0:0<=i) (i1:i<K.p.aD.length) (N:c.m0=256*AO K.t (mkK K i).at_):Tq K (Cl K c i).2:=by
 have key:∀b:Cv,b={c with on:=true,idx:=i,aN:=Ec K c i,cnt:=0}->Tq K (A3 K b).2:=λb hb=>by
  have m5:M5 c b:=by rw[hb];exact⟨rfl,rfl,rfl,rfl,rfl,rfl,rfl,rfl,rfl⟩
  have I:b.next=c.next:=by rw[hb]
  have he:b.aI=c.aI:=by rw[hb]
  have J:b.idx=i:=by rw[hb]
  have O:b.on=true:=by rw[hb]
  have D:=m5.still.trans M;have S:Tq K b:=by
   refine⟨λ_=>⟨D,by rw[m5.m0,J];exact N⟩,λ_=>D,by rw[m5.y0];exact t.y,by rw[m5.g0];exact t.g0,λ_=> ?_,λw=>absurd (m5.way.trans E) w⟩;obtain⟨s0,m⟩:=t.main E;exact⟨s0,m.f,by rw[m5.y0,Xo m5.m0];exact m.pos,λj T h=>(m.a j T (by rw[<-m5.y0];exact h)).same m5.m0 m5.m1 m5.m2 m5.still I⟩
  exact Q3p k L th S (m5.way.trans E) O (by rw[J];exact⟨i0,i1⟩) (by rw[I];exact G)
 exact key _ rfl
theorem Yap (h:KOK K) {c:Cv} (E:Mo K c) (J: -300000000000<=c.m0/\c.m0<=300000000000) (G:AP c=true) (I:c.o2=true) (l:Int):(Cy K c l).m0=c.m0/\AP (Cy K c l)=true:=by
 obtain⟨s1,s2,s3,L⟩:=Ow G;have D:nxV K c l=0:=by
  rw[Z26 h E I l,Qb4 h.plan E.ready (by omega),s1];rfl
 have e0:(Cy K c l).m0=c.m0:=by
  show V (c.m0+nxV K c l)=_;rw[D,Ae];omega
 refine⟨e0,Q9e ?_ ?_ ?_ ?_⟩
 ·exact D
 ·show V (nxV K c l-c.m1)=0;rw[D,s1];rfl
 ·rw[e0];rfl
 ·rw[e0];exact s3
theorem Qyk (K:Kf) (c:Cv) (l:Int):(BB K c l).y0=c.y0\/((BB K c l).y0=(vF K c).aU/\(vF K c).aX≠0/\c.y0≠(vF K c).aU):=by
 have D:∀d:Cv,(Bx d).y0=d.y0:=λd=>by unfold Bx;split<;>rfl
 have E:∀(d:Cv) (g:Sgm),(DS K d l g).y0=d.y0:=λd g=>by
  unfold DS;split
  ·rfl
  ·unfold Gb;split
   ·rfl
   ·split
    ·exact D _
    ·rfl
 unfold BB;by_cases a:(vF K c).aX=0\/(c.o2=true/\c.y0≠(vF K c).aU)
 ·rw[aa a];exact .inl rfl
 ·rw[ab a];by_cases b:c.y0=(vF K c).aU
  ·rw[aa b];exact .inl (E _ _)
  ·rw[ab b];split
   ·exact .inr ⟨E _ _,λq=>a (.inl q),b⟩
   ·split
    ·exact .inl (D c)
    ·exact .inl rfl
theorem Q1b {n:Int} {c:Cv} (o:Oj K n c) (th:ThK K) (I:c.y0<K.aA.length/\(0<=c.y0->bP K c.y0<K.len)) (J:0<=c.y0->bP K c.y0<=Ay K c) (E:(vF K c).aX≠0):c.y0<=(vF K c).aU:=by
 have G:=R4 o.k o.l o.m c;have L:=FG o.k E;have D:=th.seg (Ay K c) G.1 G.2 E;have e:GJ K (Ay K c)=vF K c:=rfl;rw[e]at D;apply bp;intro q;have y0:0<=c.y0:=by omega
 have M:=th.mono (vF K c).aU (c.y0-1) L.1 (by omega) (by omega);have N:bP K c.y0=(mkK K (c.y0-1)).at_:=by unfold bP;rw[ab]
 have O:=J y0;have S:=I.2 y0;have T:=D.2.2.2 (by omega);omega
theorem Zmc {c:Cv} (D:(vF K c).aX≠0) (E:(itK K (vF K c).aU).aP≠6):Thr K (vF K c).aU:=by
 refine⟨?_,E⟩;unfold vF at D⊢;cases e:D8 K c with
 |none=>rw[e]at D;exact absurd rfl D
 |some g=>
  rw[e]at D;exact⟨g,SP e,rfl,D⟩
theorem Q0m (f:FwS K.t a K.len) {c:Cv} {j:Int} (D:a<=bP K j) (E:bP K j<=K.len) (h:c.m0=256*AO K.t (bP K j)):Ay K c=bP K j:=by
 have G:=f.wh _ D E;have I:=f.len;exact Q67 f D E (by rw[Ae];omega)
theorem Zzl {n:Int} {c:Cv} (o:Oj K n c) (th:ThK K) (t:Tq K c) (hn:0<=n/\n<=9999) (I:c.way=0) (wb:Wb c):∃s0,Tm K (BB K c (AG K c).1) s0:=by
 obtain⟨s0,m⟩:=t.main I;have gd:=o.g.gd I;have a0:=Qy6 o.k gd (by omega) (AG K c).1;have mk:=Qmi K c (AG K c).1;have D:=Qyk K c (AG K c).1;have T:=Qze o.k o.g.mo wb (AG K c).1;have mb:=SC gd (by omega);have a1:=(RH o.k gd (by omega));have a2:Ay K c<=Ay K (BB K c (AG K c).1):=by
  refine m.f.up _ _ ?_;show V (c.m0.tdiv 256)<=V ((BB K c (AG K c).1).m0.tdiv 256);have J:=o.m0;have a3:(BB K c (AG K c).1).m0<=400000000000:=by
   rcases T with q|q
   ·have u:=q.up o.k gd (by omega);have:=DH o.k.plan (u.2.2).ready;omega
   ·rw[q.1.1];omega
  rw[ap J,ap (by omega),Ae,Ae];omega
 have ord:(vF K c).aX≠0->c.y0<=(vF K c).aU:=Q1b o th t.y m.pos;refine⟨s0,m.f,λq=> ?_,λj L h=> ?_⟩
 ·rcases D with D|⟨D,M,-⟩
  ·rw[D]at q⊢;have:=m.pos q;omega
  ·rw[D];have U:=R4 o.k o.l o.m c;have:=(th.seg (Ay K c) U.1 U.2 M).1;have e:GJ K (Ay K c)=vF K c:=rfl;rw[e]at this;omega
 ·have N:c.y0<j:=by
   rcases D with D|⟨D,M,-⟩
   ·rw[D]at h;exact h
   ·rw[D]at h;have:=ord M;omega
  have a:=m.a j L N;have O:=L.aU o.k;have hb:=O8 o.k o.m O.2;rcases a.l with l|l
  ·obtain⟨i,i1,i2,G,X⟩:=l;have hle:=Zcn o th hn I m.f i1 (by omega) X (by rw[G];exact a.s0) (by rw[G];exact a.e);rw[G]at hle;refine⟨a.s0,?_, .inl ⟨i,by rw[mk.next];exact i1,i2,G,X⟩⟩;rcases T with q|q
   ·rcases q.endQ o.k gd (by omega)with q|q
    ·omega
    ·rw[q];exact a.e
   ·rw[H9 q.1.1 q.1.2.1 q.1.2.2.1];exact a.e
  ·have hp:=Q0m m.f a.s0 hb.2 l.1;have E:=th.at_ j L;rw[<-hp]at E;have e:GJ K (Ay K c)=vF K c:=rfl;rw[e]at E
   have stay:(BB K c (AG K c).1).m0=c.m0/\AP (BB K c (AG K c).1)=true:=by
    unfold BB at D⊢;by_cases b1:(vF K c).aX=0\/(c.o2=true/\c.y0≠(vF K c).aU)
    ·rw[aa b1];have ho:c.o2=true:=by
      rcases b1 with b1|b1
      ·exact absurd b1 E.1
      ·exact b1.1
     exact Yap o.k o.g.mo mb l.2 ho _
    ·rw[ab b1]at D⊢;by_cases b2:c.y0=(vF K c).aU
     ·have:=E.2;omega
     ·rw[ab b2]at D⊢;by_cases b3:Er K c (vF K c)=true
      ·rw[aa b3]at D;exfalso;have S:(BB K c (AG K c).1).y0=(vF K c).aU:=by
        unfold BB;rw[ab b1,ab b2,aa b3];rcases D with D|D
        ·unfold DS at D⊢;have fy:∀d:Cv,(Bx d).y0=d.y0:=λd=>by unfold Bx;split<;>rfl
         split
         ·rfl
         ·unfold Gb;split
          ·rfl
          ·split
           ·exact fy _
           ·rfl
        ·exact D.1
       rw[S,E.2]at h;omega
      ·rw[ab b3];split
       ·have f:=Qn8 c;exact⟨f.1,(Tn f.1 f.2.1 f.2.2.1 f.2.2.2.1 f.2.2.2.2.1).trans l.2⟩
       ·exact⟨rfl,l.2⟩
   have Y:=Ow stay.2;have c5:=Ow l.2;refine⟨a.s0,?_, .inr ⟨by rw[stay.1];exact l.1,stay.2⟩⟩;have e1:endC K (BB K c (AG K c).1)=endC K c:=H9 stay.1 (Y.1.trans c5.1.symm) (Y.2.1.trans c5.2.1.symm);rw[e1];exact a.e
theorem Qzs {x:Ax3} {mv:Int} {Q:Int->Pt->Prop}:∀{a s:Int} {d:Pt} {l:List Pce},Dm x mv Q a s d l->a+l.length<=BD a l
 |a,s,d,[],_=>by simp[BD]
 |a,s,d,c::l,h=>by
  have:=Qzs h.2.2.2.2;have D:=h.2.2.1;show a+((c::l).length:Nat)<=BD (a+c.aR) l;rw[bh];omega
theorem Q1l {x:Ax3} {mv:Int} {Q:Int->Pt->Prop}:∀{a s:Int} {d:Pt} {l:List Pce},Dm x mv Q a s d l->l≠[]->plL l (BD a l)=endQ s l
 |_,_,_,[],_,h=>absurd rfl h
 |a,s,d,c::l,h,_=>by
  obtain⟨E,G,J,L,D⟩:=h;unfold plL;have I:=Qzs D;cases l with
  |nil=>
   show(if a+c.aR<=c.at_+c.aR then c.s+c.bD*(a+c.aR-c.at_)else _)=s+c.bD*c.aR;rw[aa,E,G];have:a+c.aR-a=c.aR:=by omega
   rw[this]
  |cons b l=>
   rw[bh]at I;show(if BD (a+c.aR) (b::l)<=c.at_+c.aR then _ else plL (b::l) (BD (a+c.aR) (b::l)))=endQ (s+c.bD*c.aR) (b::l);rw[ab];exact Q1l D (by simp)
theorem Ybk {x:Ax3} (G:Ax3OK x) (I:GoodPath p) (hb:0<=b/\b<=Av p.aF):AA (AR p x q a b) (AR p x q a b).length=b:=by
 obtain⟨N,E,O,-⟩:=Lo (d:=q) (a:=a) (b:=b) (Q:=λ_ _=>True) G I (λ_ _ _ _ _ _ _ _=>trivial);have J:=LO q a b G I;have M:A6 b (Av p.aF)=b:=by unfold A6;omega
 rw[M]at E;generalize AR p x q a b=t at*;by_cases D:t.aE=[]
 ·have L:=E.s;rw[D]at L;unfold AA;rw[aa D];exact L
 ·have S:=J.len;have e:clT t t.length=t.length:=by unfold clT A6;omega
  rw[FQ J _ D,e,<-E.len,Q1l E.ch D];exact E.s
def ZL (K:Kf) (c:Cv):Prop:=c.way=0/\c.on=false/\∃s0 i:Int,FwS K.t s0 K.len/\s0<=(mkK K i).at_/\c.next<=i/\i<K.aA.length/\NM (mkK K i).aP/\c.m0=256*AO K.t (mkK K i).at_
theorem Z39 {n:Int} {c d:Cv} (o:Oj K n c) (th:ThK K) (t:Tq K c) (U:0<=n/\n<=9999) (E:c.way=0) (on:c.on=false) (fr:Q8l K c d):endC K c=c.m0/\(AP c=true\/ZL K c):=by
 obtain⟨-,G,X,N,-,-⟩:=fr;obtain⟨s0,m⟩:=t.main E;have ord:=Q1b o th t.y m.pos G;have J:=Zmc G N;have a:=m.a _ J (by omega);have O:=J.aU o.k;have hb:=O8 o.k o.m O.2;have L:=R4 o.k o.l o.m c;have D:=(th.seg (Ay K c) L.1 L.2 G).1;have e:GJ K (Ay K c)=vF K c:=rfl;rw[e]at D;have Y:=SC (o.g.gd E) (by omega);have I:=o.m0;have S:AB c=c.m0/256:=by
  show V (c.m0.tdiv 256)=_;rw[ap I,Ae]
 have hg:AO K.t (bP K (vF K c).aU)<=AB c:=m.f.ge a.s0 hb.2 (by rw[S];omega) D;have ge:=KF o.k c;have ae:=a.e;have em:c.m0=256*AO K.t (bP K (vF K c).aU):=by omega
 refine⟨by omega,?_⟩;rcases a.l with l|l
 ·obtain⟨i,i1,i2,M,T⟩:=l;exact .inr ⟨E,on,s0,i,m.f,by rw[M];exact a.s0,i1,by omega,T,by rw[M];exact em⟩
 ·exact .inl l.2
theorem Zkb {n:Int} {c d:Cv} (o:Oj K n c) (th:ThK K) (E:0<=n/\n<=9999) (z:ZL K c) (he:endC K c=c.m0) (mv:MovS K c d (AG K c).1):d.m0=c.m0/\d.m1=0/\Mo K d:=by
 obtain⟨D,-,s0,i,f,i1,G,I,J,L⟩:=z;have gd:=o.g.gd D;have hle:=Zcn o th E D f G I J i1 (by omega);have u:=mv.up o.k gd (by omega);have eq:=mv.endQ o.k gd (by omega);have ge:=KF o.k d;have:endC K d<=c.m0:=by
  rcases eq with eq|eq
  ·omega
  ·omega
 exact⟨by omega,by omega,u.2.2⟩
def Lz (K:Kf) (c:Cv) (e0 e1 e2:Pt):Prop:=Hs K c e0 e1 e2/\((e1=MK K c.m3/\e2=MK K c.m4)\/(Zq K c e0 e1/\ZL K c))
theorem Lz.lq {c:Cv} {e0 e1 e2:Pt} (h:Lz K c e0 e1 e2):Lq K c e0 e1 e2:=⟨h.1,h.2.imp id And.left⟩
theorem Lz.of {c:Cv} {e0 e1 e2:Pt} (h:Lq K c e0 e1 e2) (z:AP c=false->endC K c=c.m0->ZL K c):Lz K c e0 e1 e2:=⟨h.1,by
 rcases h.2 with q|q
 ·exact .inl q
 ·exact .inr ⟨q,z q.2.2 q.2.1⟩⟩
def W3 (c:Cv):Prop:=0<=c.m4/\c.m4<=c.m3/\c.m3<=c.m0
theorem W3.wb {n:Int} {c:Cv} (w:W3 c) (g:Ga K n c) (D:0<=n/\n<=10000):Wb c:=by
 have:=g.m0;obtain⟨E,G,I⟩:=w;exact⟨by omega,by omega,by omega⟩
theorem MovS.w3 (h:KOK K) {n:Int} {c d:Cv} (g:Gd K n c) (D:0<=n/\n<=10000) {l:Int} (w:W3 c) (m:MovS K c d l):W3 d:=by
 have u:=m.up h g D;obtain⟨v,⟨E,a1,a2,a3,a4,a5⟩,b⟩:=m;obtain⟨G,I,J⟩:=w;exact⟨by omega,by omega,by omega⟩
structure CyL (K : Kf) (d : Cv) (e0 e1 e2 : Pt) : Prop where
 all:De K.x [e2,e1,e0,MK K d.m0]
 t:Tq K d
 q:Lz K d (MK K d.m0) e0 e1
 w:W3 d
theorem Qgv {c d:Cv} (z:ZL K c) (D:d.m0=c.m0) (E:d.next=c.next) (G:d.on=c.on) (I:d.way=c.way):ZL K d:=by
 obtain⟨a,b,s0,i,i0,i1,J,L,M,N⟩:=z;exact⟨I.trans a,G.trans b,s0,i,i0,i1,by rw[E];exact J,L,M,by rw[D];exact N⟩
theorem KO {c d:Cv} (k:KOK K) (mo:Mo K c) {e0 e1 e2:Pt} (q:Lz K c e0 e1 e2) (w:W3 c) (I:AP c=true) (t:Tq K d) (D:d.m0=c.m0) (J:d.m1=c.m1) (L:d.m2=c.m2) (E:d.m3=c.m3) (G:d.m4=c.m4):CyL K d e0 e1 e2:=by
 have r:=Zl3 k mo q.lq I D J L E G;have M:AP d=true:=(Tn D J L E G).trans I;exact⟨r.1,t,Lz.of r.2 λa=>(by rw[M]at a;cases a),by unfold W3;rw[D,E,G];exact w⟩
theorem Zk2 (c:Cv):Tsm c (Bx c):=by
 unfold Bx;split
 ·exact⟨rfl,rfl,rfl,rfl,rfl,rfl,rfl,rfl,rfl,rfl,rfl,rfl,λ_=>by show(1:Int)≠2;decide⟩
 ·exact⟨rfl,rfl,rfl,rfl,rfl,rfl,rfl,rfl,rfl,rfl,rfl,rfl,id⟩
theorem Yau {n:Int} {c:Cv} (o:Oj K n c) (th:ThK K) (t:Tq K c) (J:0<=n/\n<=9999) (D:c.way=0) (on:c.on=false) (he:c.aI=0) (T:c.aM=AP c) {e0 e1 e2:Pt} (q:Lz K c e0 e1 e2) (w:W3 c):
  CyL K (CM K c).2 e0 e1 e2:=by
 obtain⟨s0,m⟩:=t.main D;have gd:=o.g.gd D;obtain⟨j,ej,j1,j2,j3,j4,-⟩:=Qzg o J D m.f;have a6:=o.m.mi.len;have l1:(AG K c).1=AO K.t (mkK K j).at_:=by rw[ej]
 have l2:(AG K c).2=j:=by rw[ej]
 have w1:=m.f.wh _ j3 j4;have U:=m.f.len;have X:=o.next;have wb:=w.wb o.g (by omega);have Y:=Zzl o th t J D wb;have L:=RH o.k gd (by omega);unfold CM at L⊢;by_cases M:c.aM=true/\c.m0=V ((AG K c).1*256)
 ·rw[aa M,l2,aa (show 0<=j by omega)];have E:AP c=true:=by rw[<-T];exact M.1
  have ha:c.m0=256*AO K.t (mkK K j).at_:=by
   have:=M.2;rw[l1,Ae]at this;omega
  have tb:=Znh o.k o.m th t D X.1 E (i:=j) (by omega) (by omega) ha;have m5:=ZN K {c with on:=true,idx:=j,aN:=Ec K c j,cnt:=0};have m5:M5 c (Cl K c j).2:=⟨m5.m0,m5.m1,m5.m2,m5.m3,m5.m4,m5.y0,m5.way,m5.home,m5.g0⟩;split
  ·have f:=Zk2 (Cl K c j).2;exact KO o.k o.g.mo q w E (tb.same f) (f.m0.trans m5.m0) (f.m1.trans m5.m1) (f.m2.trans m5.m2) (f.m3.trans m5.m3) (f.m4.trans m5.m4)
  ·exact KO o.k o.g.mo q w E tb m5.m0 m5.m1 m5.m2 m5.m3 m5.m4
 ·rw[ab M]at L⊢;dsimp only at L⊢;have mk:=Qmi K c (AG K c).1;have os:=Q0b K c (AG K c).1;have I:=Qyk K c (AG K c).1;have hS:=Qze o.k o.g.mo wb (AG K c).1;have G:(BB K c (AG K c).1).way=0:=L.1.way;have N:Tq K (BB K c (AG K c).1):=by
   refine⟨λa=> ?_,λa=>absurd (os.aI.trans he) a,?_,?_,λ_=>Y,λa=>absurd G a⟩
   ·rw[os.on,on]at a;cases a
   ·rcases I with I|⟨I,U,-⟩
    ·rw[I];exact t.y
    ·rw[I];have hk:=FG o.k U;have hp:=R4 o.k o.l o.m c;exact⟨hk.2.1,λ_=>(th.seg (Ay K c) hp.1 hp.2 U).2.2.1⟩
   ·rcases os.gu with a|a
    ·rw[a.1];exact t.g0
    ·rw[a.2.1];decide
  generalize BB K c (AG K c).1=d at*;rcases hS with mv|fr
  ·have w3:=mv.w3 o.k gd (by omega) w;rcases q.2 with hh|⟨z,zl⟩
   ·have r:=Qz6 o.k gd (by omega) q.1 hh mv;refine⟨r.1,N,⟨r.2.1, .inl ?_⟩,w3⟩;obtain⟨v,⟨a0,a1,a2,a3,a4,a5⟩,b⟩:=mv;exact⟨by rw[a3];exact q.1.at_,by rw[a4];exact hh.1⟩
   ·have O:=Zkb o th J zl z.2.1 mv;have r:=Z5e o.k q.1 z O.2.2 O.1 O.2.1;exact⟨r.1,N,Lz.of r.2 λ_ _=>Qgv zl O.1 mk.next mk.on (G.trans D.symm),w3⟩
  ·obtain⟨S,f1,f2,f3,f4,f5⟩:=fr.1;have w3:W3 d:=by unfold W3;rw[S,f3,f4];exact w
   cases E:AP c with
   |true=>exact KO o.k o.g.mo q w E N S f1 f2 f3 f4
   |false=>
    have fz:=Z39 o th t J D on fr;have r:=Zif o.k q.lq fz.1 E S f1 f2 f3 f4;refine⟨r.1,N,Lz.of r.2 λ_ _=> ?_,w3⟩;rcases fz.2 with a|a
    ·rw[E]at a;cases a
    ·exact Qgv a S mk.next mk.on (G.trans D.symm)
end Go.Bm
namespace Go.Bm
theorem Oj.up {n:Int} {c:Cv} (o:Oj K n c) (D:0<=n):Oj K (n+1) c:=⟨o.k,o.m,o.g.up D,o.l,o.m0,o.w,o.next,o.on⟩
theorem Qd2 {c:Cv} (h:(Bk K c).1=0):c.aI=0/\c.on=false:=by
 unfold Bk at h;by_cases E:c.g0=2
 ·rw[aa E]at h;cases h
 ·rw[ab E]at h;by_cases D:c.aI≠0
  ·rw[aa D]at h;exact absurd h D
  ·rw[ab D]at h;by_cases G:c.aH=true/\c.aM=true
   ·rw[aa G]at h;cases h
   ·rw[ab G]at h;by_cases I:c.on=true
    ·rw[aa I]at h;exact absurd h (Zca K c)
    ·exact⟨by simpa using D,by simpa using I⟩
theorem Z0h {n:Int} {c:Cv} (o:Oj K n c) (N:0<=n/\n<=9999):Oj K n (Bk K c).2/\((Bk K c).2.aI=7->c.aI=7)/\(Bk K c).2.aK=c.aK:=by
 have g:=Zdj o.k o.g (by omega);unfold Bk at g⊢;by_cases G:c.g0=2
 ·rw[aa G]at g⊢;have J:=o.m0;have O:=o.g.m0;have e0:(stand c).m0=c.m0/256*256:=by
   show V (V (c.m0.tdiv 256)*256)=_;rw[ap J,Ae (x:=c.m0/256),Ae]
  have L:endC K (stand c)=(stand c).m0:=by
   unfold endC;rw[TD o.k.plan (c:=stand c) g.mo (bz _)];rfl
  refine⟨⟨o.k,o.m,g,o.l,by rw[e0];omega,λw=> ?_,o.next,o.on⟩,λq=>q,rfl⟩;have M:=o.w w;have:=KF o.k c;exact⟨M.1,by rw[L,e0];omega⟩
 ·rw[ab G]at g⊢;by_cases D:c.aI≠0
  ·rw[aa D]at g⊢;exact⟨o,λq=>q,rfl⟩
  ·rw[ab D]at g⊢;by_cases I:c.aH=true/\c.aM=true
   ·rw[aa I]at g⊢;exact⟨⟨o.k,o.m,g,o.l,o.m0,o.w,o.next,λq=>⟨(o.on q).1,λw=>by cases w⟩⟩,λq=>(by cases q),rfl⟩
   ·rw[ab I]at g⊢;by_cases E:c.on=true
    ·rw[aa E]at g⊢;have w:=Qum o g E (by simpa using D);exact⟨w.1,λq=>(by rw[w.2]at q;cases q),(Q9p K c).aK⟩
    ·rw[ab E]at g⊢;exact⟨o,λq=>q,rfl⟩
theorem Zss {n:Int} {c:Cv} (o:Oj K n c) (L:0<=n/\n<=9999) (E:c.way≠0):Oj (Ct K c).1 (n+1) (Ct K c).2/\((Ct K c).2.aI=7->c.aI=7)/\(Ct K c).2.aK=c.aK:=by
 have g:=Zbl o.k o.g (show 0<=n/\n<=10000 by omega);have D:=Qaz o.k c;have G:c.on=true->False:=λq=>E (o.on q).1;unfold Ct at g D⊢;by_cases J:c.aM=true/\c.m0=V (K.t.length*256)
 ·rw[aa J]at g D⊢;by_cases I:DU K c=true
  ·rw[aa I]at g D⊢;have t:=Qpl o.k o.l I (toC K c) (d:=tdC c) rfl;refine⟨⟨D,o.m.sT _,g,t.2,bz _,λw=> ?_,o.next,λq=>(G q).elim⟩,λq=>q,rfl⟩;have w:(if c.way=1 then(2:Int)else 0)=0:=w;have M:c.way=2:=by
    rcases o.g.way with q|q|q
    ·exact absurd q E
    ·rw[aa q]at w;cases w
    ·exact q
   have N:BI K c (toC K c)=AR K.p K.x (EO K.t (AB c)) (AA K.t (AB c)) K.len:=by
    unfold BI toC;rw[aa M]
   obtain⟨s0,f⟩:=Zla o.k o.m o.l (d:=EO K.t (AB c)) (u:=AB c);rw[<-N]at f;refine⟨⟨s0,f⟩,?_⟩;have e0:endC (sT K (BI K c (toC K c))) (tdC c)=0:=Qa8 D rfl rfl rfl;have:=(f.wh K.len f.be.2 (bz _)).1;rw[e0];show 0<=256*AO (BI K c (toC K c)) K.len;omega
  ·rw[ab I]at g D⊢;exact⟨o.up L.1,λq=>q,rfl⟩
 ·rw[ab J]at g D⊢;have up:c.m0<=(Cy K c K.t.length).m0:=Qf7 o.k o.g.w0 (by omega) K.t.length;exact⟨⟨o.k,o.m,g,o.l,Int.le_trans o.m0 up,λw=>absurd w E,o.next,o.on⟩,λq=>q,rfl⟩
theorem Z0t {n:Int} {c:Cv} (o:Oj K n c) (D:0<=n/\n<=9999) {E:List Evn} (L:EvE E):
  Oj (stA K c E).2.1 (n+1) (stA K c E).2.2/\((stA K c E).2.2.aI=7->c.aI=7\/Qo0 (stA K c E).2.1 (stA K c E).2.2)/\(stA K c E).2.2.aK=c.aK:=by
 obtain⟨p,M,he⟩:=Q93 D.1 o L;rw[<-M,<-he];unfold stA;generalize Bq K c E=s at*;by_cases G:(B1 s.1 s.2).1=0
 ·rw[aa G];obtain⟨N,e⟩:=Ou G;have O:(Bk s.1 s.2).1=0:=by
   apply bp;intro q;unfold B1 at G;rw[aa q]at G;exact q G
  obtain⟨S,T⟩:=Qd2 O;rw[e];have r:=Zi3 p D N T S;exact⟨r.1,λq=> .inr (r.2.1 q),r.2.2⟩
 ·rw[ab G];unfold B1;by_cases J:(Bk s.1 s.2).1≠0
  ·rw[aa J];have r:=Z0h p D;exact⟨r.1.up D.1,λq=> .inl (r.2.1 q),r.2.2⟩
  ·rw[ab J];by_cases I:s.2.way≠0
   ·rw[aa I];have r:=Zss p D I;exact⟨r.1,λq=> .inl (r.2.1 q),r.2.2⟩
   ·rw[ab I];exact⟨p.up D.1,λq=> .inl q,rfl⟩
structure Ok7 (K : Kf) (n : Int) (c : Cv) (last : Int) : Prop where
 o:Oj K n c
 e7:c.aI=7->(K.aA.length:Int)<=c.aK+1
 lt:last<c.aK
 no:∀x:Int,last<x->x<c.aK->(itK K x).aP≠10
theorem Q3r (K:Kf) (c:Cv) (E:List Evn):∃t,(stA K c E).2.1=sT K t:=by
 have id:∀L:Kf,∃t,L=sT L t:=λL=>⟨L.t,rfl⟩;have G:∀(E:List Evn) (s:Kf×Cv),∃t,(E.foldl (λs e=>evA s e.aP e.n) s).1=sT s.1 t:=by
  intro E;induction E with
  |nil=>exact λs=>id _
  |cons e E I=>
   intro s;obtain⟨t,h⟩:=I (evA s e.aP e.n);have D:∃t,(evA s e.aP e.n).1=sT s.1 t:=by
    unfold evA;split
    ·exact id _
    ·split
     ·exact id _
     ·split
      ·unfold CK;split
       ·exact⟨_,rfl⟩
       ·exact id _
      ·exact id _
   obtain⟨S,D⟩:=D;refine⟨t,?_⟩;show((E.foldl (λs e=>evA s e.aP e.n) (evA s e.aP e.n))).1=_;rw[h,D];rfl
 have J:∀(L:Kf) (d:Cv),∃t,(Ct L d).1=sT L t:=λL d=>by
  unfold Ct;split
  ·split
   ·exact⟨_,rfl⟩
   ·exact id _
  ·exact id _
 have M:∀(L:Kf) (d:Cv),∃t,(B1 L d).2.1=sT L t:=λL d=>by
  unfold B1;split
  ·exact id _
  ·split
   ·exact J _ _
   ·exact id _
 have pr:∃t,(Bq K c E).1=sT K t:=G E (K,Fs c);obtain⟨t,pr⟩:=pr;unfold stA;split
 ·exact⟨t,pr⟩
 ·obtain⟨N,O⟩:=M (Bq K c E).1 (Bq K c E).2;exact⟨N,by rw[O,pr];rfl⟩
end Go.Bm
namespace Go.Bm
open Classical
theorem Q9f {n:Int} {c:Cv} (g:Ga K n c) (E:0<=n/\n<=10000) (D:0<=c.m0):D0 K c=MK K c.m0:=by
 have:=g.m0;show Co K.p K.x K.t (V (c.m0.tdiv 256))=Co K.p K.x K.t (c.m0/256);rw[ap D,Ae]
theorem Zfj (h:KOK K) {c:Cv} (D:c.m1=0) (E:c.m2=0):Mo K c:=by
 unfold Mo;rw[D,E];exact PU h.plan
theorem Lz.same {c d:Cv} {e0 e1 e2:Pt} (q:Lz K c e0 e1 e2) (s:Tsm c d):Lz K d e0 e1 e2:=by
 have D:GT K d=GT K c:=by
  unfold GT;rw[H9 s.m0 s.m1 s.m2,OA s.m1 s.m2,s.m0]
 refine⟨⟨by rw[s.m0];exact q.1.at_,by rw[D];exact q.1.ch⟩,?_⟩;rcases q.2 with h|⟨z,E⟩
 ·exact .inl ⟨by rw[s.m3];exact h.1,by rw[s.m4];exact h.2⟩
 ·exact .inr ⟨⟨z.1,by rw[H9 s.m0 s.m1 s.m2,s.m0];exact z.2.1,by rw[s.still];exact z.2.2⟩,Qgv E s.m0 s.next s.on s.way⟩
theorem W3.same {c d:Cv} (w:W3 c) (s:Tsm c d):W3 d:=by unfold W3;rw[s.m0,s.m3,s.m4];exact w
structure LimI (K : Kf) (n : Int) (c : Cv) (e0 e1 e2 : Pt) : Prop where
 o:Oj K n c
 th:ThK K
 t:Tq K c
 q:Lz K c e0 e1 e2
 w:W3 c
theorem Qzj {n:Int} {c d:Cv} (o:Oj K n c) (M:0<=n/\n<=10000) {to:Int} (hb:DU K c=true) (J:KOK (sT K (BI K c to))) {e0 e1 e2:Pt} (q:Lz K c e0 e1 e2) (D:d.m0=0) (E:d.m1=0) (L:d.m2=0) (G:d.m3=0) (I:d.m4=0):
  Lq (sT K (BI K c to)) d e0 e1 e2/\AP d=true/\W3 d:=by
 have N:AP c=true:=by
  unfold DU at hb;simp only[ak]at hb;exact hb.1
 have O:=(Qpl o.k o.l hb to (d:=d) D).1;have S:MK (sT K (BI K c to)) 0=MK K c.m0:=by
  rw[<-Q9f o.g M o.m0,<-O];show Co K.p K.x (BI K c to) (0/256)=Co K.p K.x (BI K c to) (V (d.m0.tdiv 256));rw[D];rfl
 exact⟨Z4t J q.lq N (Zfj J E L) D E G I S,Q9e E L (by rw[G,D]) (by rw[I,D]),by unfold W3;rw[D,G,I];decide⟩
theorem Z4s {n:Int} {c:Cv} {e0 e1 e2:Pt} (i:LimI K n c e0 e1 e2) (hn:0<=n/\n<=9999) (J:c.way≠0) (he:c.aI=0) (T:c.aM=AP c):CyL (Ct K c).1 (Ct K c).2 e0 e1 e2:=by
 obtain⟨o,th,t,q,w⟩:=i;have L:c.on=false:=by
  cases h:c.on with
  |false=>rfl
  |true=>exact absurd (o.on h).1 J
 have D:=t.bB J;have E:=Qaz o.k c;have hh:e1=MK K c.m3/\e2=MK K c.m4:=by
  rcases q.2 with a|a
  ·exact a
  ·exact absurd a.2.1 J
 unfold Ct at E⊢;by_cases O:c.aM=true/\c.m0=V (K.t.length*256)
 ·rw[aa O]at E⊢;have st:AP c=true:=by rw[<-T];exact O.1
  by_cases U:DU K c=true
  ·rw[aa U]at E⊢;dsimp only at E⊢;have lt:=Qzj o (by omega) U E q (d:=tdC c) rfl rfl rfl rfl rfl;have lq:Lz (sT K (BI K c (toC K c))) (tdC c) e0 e1 e2:=Lz.of lt.1 λa=>(by rw[lt.2.1]at a;cases a);refine KO E (Zfj E rfl rfl) lq lt.2.2 lt.2.1 ?_ rfl rfl rfl rfl rfl;have M:c.way=2->Ay K c=c.home:=λS=>by
    have:=D.two S;have hl:=o.k.f.t.q.len;have e:AB c=K.t.length:=by
     show V (c.m0.tdiv 256)=_;have hm:=O.2;rw[Ae]at hm;rw[ap o.m0,Ae];omega
    show AA K.t (AB c)=_;rw[e];exact this
   have I:=o.m.len;refine⟨λa=> ?_,λa=>absurd he a,t.y,t.g0,λa=> ?_,λa=> ?_⟩
   ·have a:c.on=true:=a;rw[L]at a;cases a
   ·have a:(if c.way=1 then(2:Int)else 0)=0:=a;have S:c.way=2:=by
     rcases o.g.way with x|x|x
     ·exact absurd x J
     ·rw[aa x]at a;cases a
     ·exact x
    have X:=M S;have ho:=D.home;have f:FwS (BI K c (toC K c)) (Ay K c) K.len:=by
     have Y:BI K c (toC K c)=AR K.p K.x (EO K.t (AB c)) (Ay K c) (Av K.p.aF):=by
      unfold BI toC;rw[aa S,I]
     rw[Y,I];exact Xf o.k.f.x.ok o.k.f.p (by rw[X];omega)
    refine⟨Ay K c,f,λy=> ?_,λj G h=> ?_⟩
    ·have y:0<=c.y0:=y;have:=D.pos y;have h3:=(f.rg (AB (tdC c))).1;show bP K c.y0<=AA (BI K c (toC K c)) (AB (tdC c));omega
    ·have G:Thr K j:=G;have h:c.y0<j:=h;have ta:=D.a j G h;have a0:=G.aU o.k;have hb:=O8 o.k o.m a0.2;refine⟨by show Ay K c<=bP K j;rw[X];exact ta.1,?_, .inl ta.2⟩;rw[Qa8 E rfl rfl rfl];have:=(f.wh (bP K j) (by rw[X];exact ta.1) hb.2).1;show 0<=256*AO (BI K c (toC K c)) (bP K j);omega
   ·have a: ¬(if c.way=1 then(2:Int)else 0)=0:=a;have w1:c.way=1:=by
     apply bp;intro x;rw[ab x]at a;exact a rfl
    refine⟨D.home,D.pos,λj G h=>D.a j G h,λ_=> ?_⟩;have Y:BI K c (toC K c)=AR K.p K.x (EO K.t (AB c)) (Ay K c) c.home:=by
     unfold BI toC;rw[ab]
    show AA (BI K c (toC K c)) (BI K c (toC K c)).length=c.home;rw[Y];exact Ybk o.k.f.x.ok o.k.f.p (by rw[<-I];exact D.home)
  ·rw[ab U];exact KO o.k o.g.mo q w st t rfl rfl rfl rfl rfl
 ·rw[ab O];dsimp only;have wb:=w.wb o.g (by omega);have mv:=Sr o.k o.g.mo wb K.t.length;have N:MovS K (w0 c) (Cy K c K.t.length) K.t.length:=mv;have r:=Qz6 (c:=w0 c) o.k o.g.w0 (by omega) ⟨q.1.at_,q.1.ch⟩ hh N;have w3:=N.w3 o.k o.g.w0 (by omega) (show W3 (w0 c)from w);refine⟨r.1,⟨λa=> ?_,λa=>absurd he a,t.y,t.g0,λa=>absurd a J,λ_=> ?_⟩,⟨r.2.1, .inl ⟨q.1.at_,hh.1⟩⟩,w3⟩
  ·have a:c.on=true:=a;rw[L]at a;cases a
  ·exact⟨D.home,D.pos,λj G h=>D.a j G h,D.two⟩
theorem Zyo {n:Int} {c:Cv} {e0 e1 e2:Pt} (i:LimI K n c e0 e1 e2) (O:0<=n/\n<=10000) (m:Int):LimI (CK K c m).1 n (CK K c m).2 e0 e1 e2:=by
 have G:=(Zfk O.1 i.o m).1;obtain⟨o,th,t,q,w⟩:=i;have I:=Qk2 o.k c m;unfold CK at G I⊢;by_cases hb:ES K c m=true
 ·rw[aa hb]at G I⊢;dsimp only at G I⊢;have J:=hb;unfold ES at J;simp only[ak,ig,cz]at J;obtain⟨⟨⟨⟨⟨⟨⟨-,-⟩,T⟩,L⟩,he⟩,-⟩,U⟩,X⟩:=J;have lt:=Qzj o O X I q (d:={zM c with o2:=false,way:=1,home:=Ay K c}) rfl rfl rfl rfl rfl;obtain⟨s0,tm⟩:=t.main T;refine⟨G,th.sT _,⟨λa=> ?_,λa=>absurd he a,t.y,t.g0,λa=>(by cases a),λ_=> ?_⟩,Lz.of lt.1 λa=>(by rw[lt.2.1]at a;cases a),lt.2.2⟩
  ·have a:c.on=true:=a;rw[L]at a;cases a
  ·refine⟨R4 o.k o.l o.m c,tm.pos,λj D h=> ?_,λa=>by cases a⟩;have D:Thr K j:=D;have h:c.y0<j:=h;have a:=tm.a j D h;have M:=D.aU o.k;have E:=O8 o.k o.m M.2;have ge:=KF o.k c;have ae:=a.e;have hm:=o.g.m0;have N:=o.m0;refine⟨?_,?_⟩
   ·show Ay K c<=bP K j;refine tm.f.le a.s0 E.2 ?_;show V (c.m0.tdiv 256)<=AO K.t (bP K j);rw[ap N,Ae];omega
   ·rcases a.l with l|l
    ·exact l
    ·have Y:=Q0m tm.f a.s0 E.2 l.1;have S:=(th.at_ j D).1;rw[<-Y]at S;exact absurd U S
 ·rw[ab hb];exact⟨o,th,t,q,w⟩
theorem LimI.same {n:Int} {c d:Cv} {e0 e1 e2:Pt} (i:LimI K n c e0 e1 e2) (o:Oj K n d) (s:Tsm c d):LimI K n d e0 e1 e2:=⟨o,i.th,i.t.same s,i.q.same s,i.w.same s⟩
theorem Zwv {c:Cv} (m:Int) (G:k≠10):Tsm c (evC c k m):=⟨rfl,rfl,rfl,rfl,rfl,rfl,rfl,rfl,rfl,rfl,rfl,rfl,λh=>by
 show(if k=10 then 2 else if k=11 then 0 else if KG k m=true then(if c.g0=2 then 2 else 1)else c.g0)≠(2:Int);rw[ab G];by_cases D:k=11
 ·rw[aa D];decide
 ·rw[ab D];by_cases E:KG k m=true
  ·rw[aa E,ab h];decide
  ·rw[ab E];exact h⟩
theorem Zt4 {c d:Cv} (h:Fi c d):Tsm c d:=by
 rcases h with rfl|⟨a,-,rfl⟩
 ·exact⟨rfl,rfl,rfl,rfl,rfl,rfl,rfl,rfl,rfl,rfl,rfl,rfl,id⟩
 ·exact⟨rfl,rfl,rfl,rfl,rfl,rfl,rfl,rfl,rfl,rfl,rfl,rfl,λ_=>by show(1:Int)≠2;decide⟩
theorem Zwp (K:Kf) (c:Cv):Tsm c (HQ K c):=by
 have key:∀b:Bool,Tsm c {c with aH:=b}:=λb=>⟨rfl,rfl,rfl,rfl,rfl,rfl,rfl,rfl,rfl,rfl,rfl,rfl,id⟩;exact key _
theorem Zwx {s:Kf×Cv} {n:Int} (E:0<=n/\n<=10000) {e0 e1 e2:Pt} (i:LimI s.1 n s.2 e0 e1 e2) {k:Int} (M:k≠10) (m:Int) (G:m<=4194304):LimI (evA s k m).1 n (evA s k m).2 e0 e1 e2:=by
 have D:=(Qv5 E.1 i.o k m G).1;have sm:=T3 s.2 k m;have o1:Oj s.1 n (evC s.2 k m):=i.o.same (i.o.g.sm sm) (Sj.of sm);have i1:LimI s.1 n (evC s.2 k m) e0 e1 e2:=i.same o1 (Zwv m M);unfold evA at D⊢;generalize evC s.2 k m=d at*;by_cases I:k=13
 ·rw[aa I]at D⊢;exact i1.same D (Zt4 (SI i1.o.k d G).2)
 ·rw[ab I]at D⊢;by_cases J:k=12
  ·rw[aa J]at D⊢;exact i1.same D (Zwp _ _)
  ·rw[ab J]at D⊢;by_cases L:k=7
   ·rw[aa L];exact Zyo i1 E m
   ·rw[ab L];exact i1
theorem Qwm {n:Int} (G:0<=n/\n<=10000) {e0 e1 e2:Pt}:∀(E:List Evn) {s:Kf×Cv},(∀e∈E,e.n<=4194304/\e.aP≠10)->LimI s.1 n s.2 e0 e1 e2->LimI (E.foldl (λs e=>evA s e.aP e.n) s).1 n (E.foldl (λs e=>evA s e.aP e.n) s).2 e0 e1 e2
 |[],_,_,i=>i
 |e::E,s,D,i=>Qwm G E (s:=evA s e.aP e.n) (λx I=>D x (by simp[I])) (Zwx G i (D e (by simp)).2 e.n (D e (by simp)).1)
theorem Zkx (K:Kf) (c:Cv):Tsm c (EL (Dx K (A7 (DR c))))/\(EL (Dx K (A7 (DR c)))).aM=AP (EL (Dx K (A7 (DR c)))):=by
 refine⟨?_,rfl⟩;unfold DR;split
 ·show Tsm c (EL (Dx K (A7 {c with o2:=true})));unfold Dx;split<;>exact⟨rfl,rfl,rfl,rfl,rfl,rfl,rfl,rfl,rfl,rfl,rfl,rfl,id⟩
 ·show Tsm c (EL (Dx K (A7 c)));unfold Dx;split<;>exact⟨rfl,rfl,rfl,rfl,rfl,rfl,rfl,rfl,rfl,rfl,rfl,rfl,id⟩
theorem Zyu {n:Int} (D:0<=n/\n<=10000) {c:Cv} {e0 e1 e2:Pt} (i:LimI K n c e0 e1 e2) {E:List Evn} (G:EvE E) (I:∀e∈E,e.aP≠10):LimI (Bq K c E).1 n (Bq K c E).2 e0 e1 e2/\(Bq K c E).2.aM=AP (Bq K c E).2:=by
 have op:=(Q93 D.1 i.o G).1;have J:Oj K n (Fs c):=i.o.same ⟨i.o.g.way,i.o.g.pass,i.o.g.task,i.o.g.mo,i.o.g.m0⟩ ⟨rfl,rfl,rfl,rfl,rfl,rfl,rfl,rfl,rfl⟩;have L:LimI K n (Fs c) e0 e1 e2:=i.same J ⟨rfl,rfl,rfl,rfl,rfl,rfl,rfl,rfl,rfl,rfl,rfl,rfl,id⟩;have f:LimI (BQ K c E).1 n (BQ K c E).2 e0 e1 e2:=Qwm D E (s:=(K,Fs c)) (λe he=>⟨G.2 e he,I e he⟩) L;have p:=Zkx (BQ K c E).1 (BQ K c E).2;exact⟨f.same op p.1,p.2⟩
theorem Ztx {n:Int} (O:0<=n/\n<=9999) {c:Cv} {e0 e1 e2:Pt} (i:LimI K n c e0 e1 e2) {E:List Evn} (T:EvE E) (U:∀e∈E,e.aP≠10):CyL (stA K c E).2.1 (stA K c E).2.2 e0 e1 e2:=by
 obtain⟨p,G⟩:=Zyu (by omega) i T U;unfold stA;generalize Bq K c E=s at*;obtain⟨L,d⟩:=s;dsimp only at*;have S:Bk L d=if d.aI≠0 then(d.aI,d)else if d.aH=true/\d.aM=true then(8,{d with aI:=8})else if d.on=true then A3 L d else(0,d):=by
  unfold Bk;rw[ab p.t.g0]
 by_cases D:(B1 L d).1=0
 ·rw[aa D];obtain⟨V,e⟩:=Ou D;have X:(Bk L d).1=0:=by
   apply bp;intro q;unfold B1 at D;rw[aa q]at D;exact q D
  obtain⟨Y,z2⟩:=Qd2 X;rw[e];exact Yau p.o p.th p.t O V z2 Y G p.q p.w
 ·rw[ab D];unfold B1;by_cases I:(Bk L d).1≠0
  ·rw[aa I];dsimp only;rw[S];by_cases a1:d.aI≠0
   ·rw[aa a1];exact KO p.o.k p.o.g.mo p.q p.w (p.t.en a1) p.t rfl rfl rfl rfl rfl
   ·rw[ab a1];by_cases a2:d.aH=true/\d.aM=true
    ·rw[aa a2];have J:AP d=true:=by rw[<-G];exact a2.2
     exact KO p.o.k p.o.g.mo p.q p.w J ⟨p.t.on,λ_=>J,p.t.y,p.t.g0,λw=>by
      obtain⟨s0,m⟩:=p.t.main w;exact⟨s0,m.f,m.pos,λj M h=>by
       have a:=m.a j M h;exact⟨a.s0,a.e,a.l⟩⟩,λw=>by
      have b:=p.t.bB w;exact⟨b.home,b.pos,λj M h=>b.a j M h,b.two⟩⟩ rfl rfl rfl rfl rfl
    ·rw[ab a2];by_cases a3:d.on=true
     ·rw[aa a3];have m5:=ZN L d;have J:=(p.t.on a3).1;exact KO p.o.k p.o.g.mo p.q p.w J (Q3p p.o.k p.o.m p.th p.t (p.o.on a3).1 a3 (p.o.g.task a3) p.o.next.1) m5.m0 m5.m1 m5.m2 m5.m3 m5.m4
     ·exfalso;rw[S,ab a1,ab a2,ab a3]at I;exact I rfl
  ·rw[ab I];by_cases N:d.way≠0
   ·rw[aa N];have he:d.aI=0:=by
     have:=(Qd2 (K:=L) (c:=d) (by simpa using I)).1;exact this
    exact Z4s p O N he G
   ·exfalso;unfold B1 at D;rw[ab I,ab N]at D;exact D rfl
theorem Zxq {n:Int} (M:0<=n/\n<=9999) {c:Cv} {e0 e1 e2:Pt} (i:LimI K n c e0 e1 e2) {E:List Evn} (N:EvE E) (S:∀e∈E,e.aP≠10):
  De K.x [e2,e1,e0,D0 (stA K c E).2.1 (stA K c E).2.2]/\LimI (Jp K c E).1 (n+1) (Jp K c E).2 (D0 (stA K c E).2.1 (stA K c E).2.2) e0 e1:=by
 obtain⟨D,-,sp⟩:=Z0t i.o M N;have G:=Ztx M i N S;obtain⟨t,O⟩:=Q3r K c E;have T:(stA K c E).2.1.x=K.x:=by rw[O];rfl
 have I:ThK (stA K c E).2.1:=by rw[O];exact i.th.sT t
 have ga:=Zi8 D.g (show 0<=n+1 by omega) (Ay (stA K c E).2.1 (stA K c E).2.2);have em:=Q9f D.g (by omega) D.m0;rw[em,<-T];refine⟨G.all,?_⟩;show LimI (stA K c E).2.1 (n+1) (HG (stA K c E).2.1 (stA K c E).2.2 (Ay (stA K c E).2.1 (stA K c E).2.2)).2 _ e0 e1;generalize stA K c E=s at*;obtain⟨m,L,d⟩:=s;dsimp only at*;have J:∃a b,(HG L d (Ay L d)).2={d with outs:=a,aK:=b}:=by
  unfold HG;split
  ·obtain⟨U,V,e⟩:=R9 L d (Ay L d);exact⟨_,_,e⟩
  ·exact⟨d.outs,d.aK,rfl⟩
 obtain⟨a,b,J⟩:=J;rw[J]at ga⊢;have sm:Tsm d {d with outs:=a,aK:=b}:=⟨rfl,rfl,rfl,rfl,rfl,rfl,rfl,rfl,rfl,rfl,rfl,rfl,id⟩;exact⟨⟨D.k,D.m,ga,D.l,D.m0,D.w,D.next,D.on⟩,I,G.t.same sm,G.q.same sm,G.w.same sm⟩
end Go.Bm
namespace Go.Bm
theorem Rd {aA:List Itm} (D:K.p=AQ aA) {i:Int} (I:0<=i) (J:i<aA.length):mkK K i=mkA aA i.toNat:=by
 have E:i.toNat<aA.length:=by omega
 have G:i.toNat<(Aq aA aA.length).aD.length:=by rw[UO];simpa using E
 unfold mkK;rw[D,RI];simp only;rw[List.getD,ag G];simp only[UO,gj,List.getElem_range];rfl
theorem Qr6 (aA:List Itm):(AQ aA).aD.length=aA.length:=by rw[RI];simp[UO]
theorem Z9k {x:Ax3} {pa pb pc bH lag:Int} {aA:List Itm} (J:Ax3OK x) (L:GoodPath (AQ aA)) (D:∀j<aA.length,¬B6 (vE aA j)):MarksOK (kfP x pa pb pc bH lag aA true):=by
 have M:=Qr6 aA;refine⟨Z3d J L,rfl,λi E G=> ?_,λi j E G I=> ?_⟩
 ·have G:i<(AQ aA).aD.length:=G;rw[Rd (aA:=aA) rfl E (by omega)];exact Q6x D (by omega)
 ·have I:j<(AQ aA).aD.length:=I;rw[Rd (aA:=aA) rfl E (by omega),Rd (aA:=aA) rfl (by omega) (by omega)];have:=(Zeo D (i:=i.toNat+1) (k:=j.toNat-i.toNat) (by omega)).2;rw[show i.toNat+1+(j.toNat-i.toNat)=j.toNat+1 by omega]at this;exact this
def A1 (k:Int):Bool:=k==1||(k==2||(k==3||(k==4||k==6)))
def A2 (k:Int):Bool:=k==1||(k==2||k==6)
def Ws (K:Kf) (c:Cv):Prop:=c.on=true->A2 (mkK K c.idx).aP=true->c.aN=true
def Zbt (K:Kf):Nat->Nat
 |0=>0
 |i+1=>Zbt K i+if A2 (mkK K i).aP=true then 1 else 0
structure Sg (K : Kf) (c : Cv) (s : Nat) : Prop where
 ix:Ix A1 K c
 w:Ws K c
 n:Zbt K c.next.toNat<=s
 cm:Cm c
 gg:Gg c
end Go.Bm
namespace Go.Bm
open Classical
theorem Zlw (E:Src l) {most:Int} (M:most<=100):
  ∃(p:Pt) (aA G:List Itm),Lt [.vC Aa l,I most,B true]=some [.vC Ak (aA.map Ah)]/\Items 4084 p aA/\aA=G++[Ie]/\(G.length:Int)<=max most (-1)+1/\∀it∈G,it.aP≠14:=by
 obtain⟨p,aA,J,O,D,S⟩:=Z7y (MM:=LK) (MO:=Ng) (ML:=GH) (N:=Qej) (fin:=true) (H0 E) (Rh l) M λp k L=>by
  obtain⟨o,J,-,aA,rfl,D,T,U⟩:=Zw3 (MF:=C6) (fin:=true) (H0 E) (λL _ V k=>Zw1 E L V k) (λk=>Zkl E k) (Qwv l) M (p:=p) ([],k) ⟨⟨trivial,by simp⟩,L, .inl rfl,by simp⟩;exact⟨aA,J,D,T,U⟩
 refine⟨p,_,aA,J,?_,by simp,?_,S⟩
 ·simp only[dv];exact Om O (λh=>absurd h (Oz YJ)) (.inr YJ)
 ·rcases D with D|D
  ·rw[D];simp;omega
  ·omega
theorem Zmd (it:Itm):I6 it=5↔it.aP=10:=by
 unfold I6;by_cases h:it.aP=10
 ·rw[aa h];exact⟨λ_=>h,λ_=>rfl⟩
 ·rw[ab h];split
  ·exact⟨λq=>(by cases q),λq=>absurd q h⟩
  ·exact⟨λq=>(by cases q),λq=>absurd q h⟩
theorem Zzd {x:Ax3} {pa pb pc bH lag:Int} {aA I:List Itm} (e:aA=I++[Ie]) (N:∀it∈I,it.aP≠14) (D:∀j<aA.length,¬B6 (vE aA j)):OKm (kfP x pa pb pc bH lag aA true):=by
 have O:=Qr6 aA;have hlen:aA.length=I.length+1:=by rw[e];simp
 have L:∀i:Int,0<=i->i<aA.length->itK (kfP x pa pb pc bH lag aA true) i=vE aA i.toNat:=λi i0 i1=>by
  unfold itK;show aA.getD i.toNat Q0g=aA.getD i.toNat it0;rw[List.getD,List.getD,ag (by omega)];rfl
 have J:∀i:Int,0<=i->i<aA.length->mkK (kfP x pa pb pc bH lag aA true) i=mkA aA i.toNat:=λi i0 i1=>Rd (aA:=aA) rfl i0 i1;have E:vE aA (aA.length-1)=Ie:=by
  have S:aA.length-1<aA.length:=by omega
  show aA.getD (aA.length-1) it0=_;rw[List.getD,ag S];simp only[ke];have:aA[aA.length-1]=(I++[Ie])[I.length]'(by simp):=by
   have M:aA.length-1=I.length:=by omega
   simp only[e,an,f8,Nat.add_sub_cancel]
  rw[this];simp
 have G:(aA.length:Int)-1<aA.length:=by omega
 have T:((aA.length:Int)-1).toNat=aA.length-1:=by omega
 refine⟨rfl,rfl,⟨O,λi i0 i1=> ?_,λi i0 i1=> ?_⟩,by show 0<aA.length;omega,λi i0 i1=> ?_,?_,?_,λi i0 i1=> ?_⟩
 ·rw[J i i0 i1];show((i.toNat:Nat):Int)=i;omega
 ·rw[J i i0 i1,L i i0 i1];show(if AF (vE aA i.toNat)then GY aA i.toNat else I6 (vE aA i.toNat))=5↔_;by_cases h:AF (vE aA i.toNat)
  ·rw[aa h];have U:1<=(vE aA i.toNat).aP/\(vE aA i.toNat).aP<=6:=h;rcases Zmz aA i.toNat with k|k|k<;>rw[k]<;>exact⟨λq=>by omega,λq=>by omega⟩
  ·rw[ab h];exact Zmd _
 ·rw[J i i0 i1];have i1:i<aA.length:=i1;exact Q6x D (by omega)
 ·show(mkK _ ((aA.length:Int)-1)).at_=_/\(mkK _ ((aA.length:Int)-1)).aP=3;rw[J _ (by omega) G,T];constructor
  ·show(Aq aA (aA.length-1+1)).len=Av (AQ aA).aF;rw[show aA.length-1+1=aA.length by omega,QX (IY D aA.length (cx _)),RI]
  ·show(if AF (vE aA (aA.length-1))then GY aA (aA.length-1)else I6 (vE aA (aA.length-1)))=3;rw[E,ab (show¬AF Ie from λh=>absurd h (Oz YJ))];rfl
 ·show(itK _ ((aA.length:Int)-1)).aP=14;rw[L _ (by omega) G,T,E];rfl
 ·have i1:i<(aA.length:Int)-1:=i1;rw[L i i0 (by show i<(aA.length:Int);omega)];have:vE aA i.toNat∈I:=by
   have M:i.toNat<I.length:=by omega
   have:vE aA i.toNat=I[i.toNat]:=by
    show aA.getD i.toNat it0=_;rw[e,List.getD,iz M,ag M];rfl
   rw[this];exact bf M
  exact N _ this
theorem Qby:∀{l:List Sgm} {s:Int},l≠[]->(∀g∈l,1<=g.len)->0<=s->s<=Av l->
  (A5 l s).1<l.length/\Av (l.take (A5 l s).1)<=s/\(s<Av (l.take ((A5 l s).1+1))\/((A5 l s).1+1=l.length/\s=Av l))
 |[],_,h,_,_,_=>absurd rfl h
 |[g],s,_,I,E,D=>by
  have D:s<=g.len+0:=D;unfold A5;split
  ·next c=>exact⟨by simp,E, .inl (by show s<g.len+0;omega)⟩
  ·next c=>exact⟨by simp,E, .inr ⟨rfl,by show s=g.len+0;omega⟩⟩
 |g::h::l,s,_,I,E,D=>by
  have D:s<=g.len+Av (h::l):=D;unfold A5;split
  ·next c=>exact⟨by simp,E, .inl (by show s<g.len+0;omega)⟩
  ·next c=>
   have J:=Qby (l:=h::l) (s:=s-g.len) (by simp) (λx L=>I x (by simp[L])) (by omega) (by omega);obtain⟨i1,M,G⟩:=J;refine⟨by rw[bh];omega,?_,?_⟩
   ·show g.len+Av ((h::l).take (A5 (h::l) (s-g.len)).1)<=s;omega
   ·rcases G with G|⟨G,N⟩
    ·refine .inl ?_;show s<g.len+Av ((h::l).take ((A5 (h::l) (s-g.len)).1+1));omega
    ·refine .inr ⟨by rw[bh];dsimp only;omega,?_⟩;show s=g.len+Av (h::l);omega
theorem Qxn {aU aZ aX:Int}:∀(D:List Pt) (s:List Sgm×Int×Pt),∃l,(D.foldl (Bc aU aZ aX) s).1=s.1++l/\∀g∈l,g.aU=aU/\g.aX=aX
 |[],s=>⟨[],by simp,by simp⟩
 |q::D,s=>by
  obtain⟨l,E,I⟩:=Qxn (aU:=aU) (aZ:=aZ) (aX:=aX) D (Bc aU aZ aX s q);by_cases c:q=s.2.2
  ·have e:Bc aU aZ aX s q=s:=by unfold Bc;rw[aa c]
   rw[e]at E;exact⟨l,by rw[fh,e];exact E,I⟩
  ·have e:(Bc aU aZ aX s q).1=s.1++[⟨q,AK s.2.2 q,aU,aZ,aX⟩]:=by unfold Bc;rw[ab c]
   refine⟨⟨q,AK s.2.2 q,aU,aZ,aX⟩::l,?_,?_⟩
   ·rw[fh,E,e,dk];rfl
   ·intro g G;rcases ao.1 G with rfl|G
    ·exact⟨rfl,rfl⟩
    ·exact I g G
theorem Qao (aA:List Itm) (i:Nat):∃l,(Aq aA (i+1)).aF=(Aq aA i).aF++l/\∀g∈l,g.aU=i/\g.aX=Jl (vE aA i)/\AF (vE aA i):=by
 show∃l,(Dv aA i (Aq aA i)).aF=_/\_;unfold Dv;by_cases c:AF (vE aA i)
 ·rw[aa c];obtain⟨l,G,D⟩:=Qxn (aU:=i) (aZ:=HL (vE aA i) (Aq aA i).aS) (aX:=Jl (vE aA i)) (C3 aA i (Aq aA i).frm) ((Aq aA i).aF,(Aq aA i).len,if(Aq aA i).bK=true then(Aq aA i).at_ else AE (vE aA i).fr);exact⟨l,G,λg E=>⟨(D g E).1,(D g E).2,c⟩⟩
 ·rw[ab c];exact⟨[],by simp,by simp⟩
theorem QM (aA:List Itm):∀i:Nat,∀g∈(Aq aA i).aF,0<=g.aU/\g.aU<i
 |0,g,D=>by cases D
 |i+1,g,D=>by
  obtain⟨l,E,G⟩:=Qao aA i;rw[E,ba]at D;rcases D with D|D
  ·have:=QM aA i g D;omega
  ·have:=(G g D).1;omega
theorem Qt1 (aA:List Itm) (i:Nat):∀k:Nat,∃l,(Aq aA (i+k)).aF=(Aq aA i).aF++l/\∀g∈l,(i:Int)<=g.aU
 |0=>⟨[],by simp,by simp⟩
 |k+1=>by
  obtain⟨l,E,G⟩:=Qt1 aA i k;obtain⟨m,I,J⟩:=Qao aA (i+k);refine⟨l++m,?_,λg D=> ?_⟩
  ·rw[show i+(k+1)=i+k+1 by omega,I,E,dk]
  ·rcases ba.1 D with D|D
   ·exact G g D
   ·have:=(J g D).1;omega
theorem Qpd (aA:List Itm) {j:Nat} (L:j<aA.length):∃B C,(Aq aA aA.length).aF=(Aq aA j).aF++(B++C)/\(Aq aA (j+1)).aF=(Aq aA j).aF++B/\(∀g∈B,g.aU=j/\g.aX=Jl (vE aA j)/\AF (vE aA j))/\∀g∈C,(j:Int)<g.aU:=by
 obtain⟨B,D,G⟩:=Qao aA j;obtain⟨C,E,I⟩:=Qt1 aA (j+1) (aA.length-(j+1));rw[show j+1+(aA.length-(j+1))=aA.length by omega,D,dk]at E;exact⟨B,C,E,D,G,λg J=>by have:=I g J;omega⟩
theorem N0 {l:List Sgm} (E:∀g∈l,1<=g.len) {a b:Nat} (h:a<=b):Av (l.take a)<=Av (l.take b):=by
 have e:l.take b=l.take a++(l.take b).drop a:=by
  have:=(List.take_append_drop a (l.take b)).symm;rw[List.take_take,Nat.min_eq_left h]at this;exact this
 rw[e,Te];have:=Su (l:=(l.take b).drop a) λg D=>E g (dx (dp D));omega
theorem Ze8 {aA:List Itm} {j:Nat} (D:j<aA.length) (E:AF (vE aA j)) (G:syI (vE aA j)):∀(k i:Nat),i+k=j->(∀q,i<=q->q<j-> ¬AF (vE aA q))->Fk (aA.drop i)=1
 |0,i,J,_=>by
  have:i=j:=by omega
  subst this;rw[Sh D];unfold Fk;rw[aa E,aa G]
 |k+1,i,J,I=>by
  rw[Sh (show i<aA.length by omega)];unfold Fk;rw[ab (I i (cx _) (by omega))];exact Ze8 D E G k (i+1) (by omega) λq M L=>I q (by omega) L
theorem Qxz (aA:List Itm):∀j:Nat,((Aq aA j).len=0/\∀q,q<j-> ¬AF (vE aA q))\/∃i,i<j/\AF (vE aA i)/\(∀q,i<q->q<j-> ¬AF (vE aA q))/\(Aq aA (i+1)).len=(Aq aA j).len
 |0=> .inl ⟨rfl,λq I=>by omega⟩
 |j+1=>by
  by_cases c:AF (vE aA j)
  ·exact .inr ⟨j,by omega,c,λq G E=>by omega,rfl⟩
  ·have e:(Aq aA (j+1)).len=(Aq aA j).len:=by
    show(Dv aA j (Aq aA j)).len=_;unfold Dv;rw[ab c]
   rcases Qxz aA j with⟨G,E⟩|⟨i,G,E,J,L⟩
   ·refine .inl ⟨by rw[e];exact G,λq I=> ?_⟩;by_cases D:q=j
    ·rw[D];exact c
    ·exact E q (by omega)
   ·refine .inr ⟨i,by omega,E,λq M N=> ?_,by rw[e];exact L⟩;by_cases D:q=j
    ·rw[D];exact c
    ·exact J q M (by omega)
theorem Ybr {x:Ax3} {pa pb pc bH lag:Int} {aA:List Itm} (hx:Ax3OK x) (V:GoodPath (AQ aA)) (J:∀j<aA.length,¬B6 (vE aA j)):ThK (kfP x pa pb pc bH lag aA true):=by
 have mo:=(Z9k (pa:=pa) (pb:=pb) (pc:=pc) (bH:=bH) (lag:=lag) hx V J).mono;have a8:=Qr6 aA;have a1:∀i:Int,0<=i->i<aA.length->mkK (kfP x pa pb pc bH lag aA true) i=mkA aA i.toNat:=λi i0 i1=>Rd (aA:=aA) rfl i0 i1;have hb:∀j:Nat,j<aA.length->bP (kfP x pa pb pc bH lag aA true) j=(Aq aA j).len:=λj M=>by
  unfold bP;by_cases c:(j:Int)<=0
  ·rw[aa c];have:j=0:=by omega
   rw[this];rfl
  ·rw[ab c,a1 _ (by omega) (by omega)];show(Aq aA (((j:Int)-1).toNat+1)).len=_;rw[show((j:Int)-1).toNat+1=j by omega]
 have ha:∀j:Nat,j<aA.length->(mkK (kfP x pa pb pc bH lag aA true) j).at_=(Aq aA (j+1)).len:=λj M=>by
  rw[a1 _ (by omega) (by omega)];show(Aq aA ((j:Int).toNat+1)).len=_;rw[aj]
 have es:(AQ aA).aF=(Aq aA aA.length).aF:=by rw[RI]
 have G:=Zfp J (cx aA.length);have N:∀j:Nat,j<=aA.length->Av (Aq aA j).aF=(Aq aA j).len:=λj M=>(QX (IY J j M)).symm;have hlen:(kfP x pa pb pc bH lag aA true).len=Av (Aq aA aA.length).aF:=by
  show Av (AQ aA).aF=_;rw[es]
 have aU:∀g∈(Aq aA aA.length).aF,∃j:Nat,j<aA.length/\g.aU=j:=λg V=>by
  have:=QM aA aA.length g V;exact⟨g.aU.toNat,by omega,by omega⟩
 have at_:∀s:Int,GJ (kfP x pa pb pc bH lag aA true) s=((Aq aA aA.length).aF[(A5 (Aq aA aA.length).aF (max s 0)).1]?).getD sg0:=λs=>by
  unfold GJ;show((AQ aA).aF[(A5 (AQ aA).aF (max s 0)).1]?).getD sg0=_;rw[es]
 refine⟨λi j i0 ij jl=>mo i j i0 ij (by show j<((AQ aA).aD.length:Int);have jl:j<(aA.length:Int):=jl;omega),λs s0 s1 Y=> ?_,λj M=> ?_,λj M=> ?_⟩
 ·rw[at_]at Y⊢;rw[hlen]at s1⊢;have a2:max s 0=s:=kj s0;rw[a2]at Y⊢;generalize hS:(Aq aA aA.length).aF=S at*;have a3:S≠[]:=by
   intro q;rw[q]at Y;exact Y rfl
  obtain⟨f1,f2,T⟩:=Qby a3 G s0 s1;generalize(A5 S s).1=k at*;rw[ag f1]at Y⊢;simp only[ke]at Y⊢;obtain⟨j,M,ej⟩:=aU S[k] (bf f1);obtain⟨I,Cs,L,h2,h3,h4⟩:=Qpd aA M;have hA:=QM aA j;have a4:=N j (by omega);have a0:=N (j+1) (by omega);rw[h2]at a0;rw[hS]at L;generalize(Aq aA j).aF=D at*
  have k0:D.length<=k:=by
   apply bp;intro q;have U:k<D.length:=by omega
   have e:S[k]=D[k]:=by
    simp only[L];exact List.getElem_append_left U
   have:=hA D[k] (bf U);rw[<-e,ej]at this;omega
  have k1:k<D.length+I.length:=by
   apply bp;intro q;have U:D.length+I.length<=k:=by omega
   have hc:k-(D.length+I.length)<Cs.length:=by
    rw[L,an,an]at f1;omega
   have e:S[k]=Cs[k-(D.length+I.length)]:=by
    simp only[L];rw[List.getElem_append_right (by omega),List.getElem_append_right (by omega)];congr 1;omega
   have:=h4 _ (bf hc);rw[<-e,ej]at this;omega
  rw[ej,hb j M,ha j M,<-a4,<-a0];have tA:S.take D.length=D:=by rw[L];simp
  have tB:S.take (D.length+I.length)=D++I:=by
   rw[L,<-dk,<-an];exact List.take_left
  have u1:=N0 G (l:=S) (a:=D.length) (b:=k) k0;have u2:=N0 G (l:=S) (a:=k+1) (b:=D.length+I.length) (by omega);have u3:=N0 G (l:=S) (a:=D.length+I.length) (b:=S.length) (by rw[L,an,an];omega);rw[tA]at u1;rw[tB]at u2 u3;rw[gh]at u3;have a7:1<=Av I:=by
   have O:0<I.length:=by omega
   obtain⟨b,B',eb⟩:=ko (List.length_pos_iff.1 O);have a5:∀g∈I,1<=g.len:=λg V=>G g (by rw[L];simp[V]);rw[eb]at a5⊢;have:=a5 b (by simp);have:=Su (l:=B') λg V=>a5 g (by simp[V]);show 1<=b.len+Av B';omega
  have a9:=Te D I;refine⟨by omega,?_,by omega,?_⟩
  ·rcases T with T|⟨T,f4⟩
   ·omega
   ·have:S.length=D.length+I.length:=by
     have Y:=ik List.length L;rw[an,an]at Y;omega
    have:Av S=Av (D++I):=by rw[<-tB,<-this,gh]
    omega
  ·intro q;rcases T with T|⟨T,f4⟩
   ·omega
   ·exact f4
 ·obtain⟨⟨g,E,gi,gl⟩,-⟩:=M;have E:g∈(AQ aA).aF:=E;rw[es]at E;obtain⟨k,U,ek⟩:=aU g E;have ej:j=(k:Int):=by rw[<-gi,ek]
  rw[ej,hb k U,at_];obtain⟨I,Cs,L,h2,h3,h4⟩:=Qpd aA U;have hA:=QM aA k;have a4:=N k (by omega);have hn:=Su (l:=(Aq aA k).aF) λg V=>G g (by rw[L];simp[V]);rw[<-a4];generalize(Aq aA k).aF=D at*;generalize hS:(Aq aA aA.length).aF=S at*
  have X:g∈I:=by
   rw[L,ba,ba]at E;rcases E with q|q|q
   ·have:=hA g q;omega
   ·exact q
   ·have:=h4 g q;omega
  have O:0<I.length:=List.length_pos_of_mem X;have a2:max (Av D) 0=Av D:=kj hn;rw[a2];have a3:S≠[]:=by intro q;rw[q]at E;cases E
  have tA:S.take D.length=D:=by rw[L];simp
  have b1:S.length=D.length+(I.length+Cs.length):=by rw[L,an,an]
  have u3:=N0 G (l:=S) (a:=D.length) (b:=S.length) (by omega);rw[tA,gh]at u3;obtain⟨f1,f2,T⟩:=Qby a3 G hn u3;generalize(A5 S (Av D)).1=m at*;have strict:∀a b:Nat,a<b->b<=S.length->Av (S.take a)+1<=Av (S.take b):=λa b a6 b2=>by
   have h:=N0 G (l:=S) (a:=a+1) (b:=b) a6;have e:S.take (a+1)=S.take a++[S[a]]:=by rw[fo,ag (by omega)];rfl
   rw[e,Te]at h;have:=G S[a] (bf (by omega));have e2:Av [S[a]]=S[a].len:=by show S[a].len+0=_;omega
   omega
  have hm:m=D.length:=by
   apply bp;intro q;by_cases c:m<D.length
   ·have h5:=strict m D.length c (by omega);have h6:=N0 G (l:=S) (a:=m+1) (b:=D.length) (by omega);rw[tA]at h5 h6;rcases T with T|⟨T,-⟩
    ·omega
    ·omega
   ·have h5:=strict D.length m (by omega) (by omega);rw[tA]at h5;omega
  have b3:D.length<S.length:=by omega
  subst hm;have hB:S[D.length]? =some (I[0]):=by
   rw[L,kn (cx _),jq,iz O,ag O]
  rw[hB];have b0:=h3 I[0] (bf O);have bg:=h3 g X;exact⟨by show(I[0]).aX≠0;rw[b0.2.1,<-bg.2.1];exact gl,b0.1⟩
 ·obtain⟨⟨g,E,gi,gl⟩,-⟩:=M;have E:g∈(AQ aA).aF:=E;rw[es]at E;obtain⟨k,U,ek⟩:=aU g E;have ej:j=(k:Int):=by rw[<-gi,ek]
  rw[ej,hb k U];obtain⟨I,Cs,L,h2,h3,h4⟩:=Qpd aA U;have hA:=QM aA k;have X:g∈I:=by
   rw[L,ba,ba]at E;rcases E with q|q|q
   ·have:=hA g q;omega
   ·exact q
   ·have:=h4 g q;omega
  have bg:=h3 g X;have hs:syI (vE aA k):=by
   apply bp;intro q;rw[bg.2.1]at gl;unfold Jl at gl;rw[ab q]at gl;exact gl rfl
  rcases Qxz aA k with⟨l1,-⟩|⟨i,l1,l2,l3,l4⟩
  ·exact .inl l1
  ·refine .inr ⟨i,by omega,by omega,by rw[ha i (by omega)];exact l4,?_⟩;rw[a1 _ (by omega) (by omega)];show NM (if AF (vE aA (i:Int).toNat)then GY aA (i:Int).toNat else I6 (vE aA (i:Int).toNat));rw[aj,aa l2];unfold GY;split
   ·exact .inr (.inr rfl)
   ·split
    ·exact .inl rfl
    ·split
     ·exact .inl rfl
     ·rw[Ze8 U bg.2.2 hs (k-(i+1)) (i+1) (by omega) λq q1 q2=>l3 q (by omega) q2];exact .inl rfl
theorem U8 (h:i<(Bl L).length):(Bl L)[i]=V (L.getD (i+1) 0-L.getD i 0):=by
 simp only[Bl,gj,List.getElem_range]
theorem Q6j (l:List Int) (j i:Nat):(l.drop j).getD i 0=l.getD (j+i) 0:=by
 simp only[dq,dy]
theorem Qpp (l:List Int) (j:Nat):Bl (l.drop j)=(Bl l).drop j:=by
 apply List.ext_getElem
 ·rw[Ih,bq,bq,Ih];omega
 ·intro i D E;rw[U8,jf,U8,Q6j,Q6j];rfl
theorem Q4r {n i:Nat} (h:i<n):(L.take n).getD i 0=L.getD i 0:=by
 simp only[dq,fq,aa h]
theorem Qcb (l:List Int) (n:Nat):Bl (l.take (n+1))=(Bl l).take n:=by
 apply List.ext_getElem
 ·rw[Ih,dl,dl,Ih];omega
 ·intro i D E;rw[Ih,dl]at D;rw[U8,List.getElem_take,U8,Q4r (by omega),Q4r (by omega)]
theorem Qrg (E:i<L.length) (G:A<=i) (I:i<A+R):L[i]∈(L.drop A).take R:=by
 have D:i-A<((L.drop A).take R).length:=by rw[dl,bq];omega
 have e:((L.drop A).take R)[i-A]=L[i]:=by
  rw[List.getElem_take,jf];congr 1;omega
 rw[<-e];exact bf D
theorem Qeg {a:Axs} (G:4<=L.length) (h:∀j,j+3<L.length->WiP a ((L.drop j).take 4)):WiP a L:=by
 have e1:∀j,Bl ((L.drop j).take 4)=((Bl L).drop j).take 3:=λj=>by rw[Qcb,Qpp]
 have e2:∀j,Bl (Bl ((L.drop j).take 4))=((Bl (Bl L)).drop j).take 2:=λj=>by rw[e1,Qcb,Qpp]
 have e3:∀j,Bl (Bl (Bl ((L.drop j).take 4)))=((Bl (Bl (Bl L))).drop j).take 1:=λj=>by rw[e2,Qcb,Qpp]
 have I:=Ih L;have J:=Ih (Bl L);have M:=Ih (Bl (Bl L));refine⟨λv D=> ?_,λv D=> ?_,λv D=> ?_⟩
 ·obtain⟨i,E,rfl⟩:=kg.1 D;have:=(h (min i (L.length-4)) (by omega)).1;rw[e1]at this;exact this _ (Qrg E (by omega) (by omega))
 ·obtain⟨i,E,rfl⟩:=kg.1 D;have:=(h (min i (L.length-4)) (by omega)).2.1;rw[e2]at this;exact this _ (Qrg E (by omega) (by omega))
 ·obtain⟨i,E,rfl⟩:=kg.1 D;have:=(h i (by omega)).2.2;rw[e3]at this;exact this _ (Qrg E (by omega) (by omega))
theorem Zpz {x:Ax3} {l:List Pt} (E:4<=l.length) (h:Ch x l):De x l:=by
 have G:∀(f:Pt->Int) (j:Nat),((l.drop j).take 4).map f=((l.map f).drop j).take 4:=λf j=>by rw[List.map_take,ld]
 refine⟨Qeg (by rw[ac];exact E) λj D=> ?_,Qeg (by rw[ac];exact E) λj D=> ?_,Qeg (by rw[ac];exact E) λj D=> ?_⟩
 ·rw[ac]at D;have:=(h j D).1;rw[G]at this;exact this
 ·rw[ac]at D;have:=(h j D).2.1;rw[G]at this;exact this
 ·rw[ac]at D;have:=(h j D).2.2;rw[G]at this;exact this
theorem Zs6 {x:Ax3} {l:List Pt} {a b c d:Pt} (h:Ch x (l++[a,b,c])) (E:De x [a,b,c,d]):Ch x (l++[a,b,c]++[d]):=λj D=>by
 rw[an,an]at D;have D:j+3<l.length+3+1:=D;by_cases G:j+3<l.length+3
 ·have:=h j (by rw[an];exact G);rw[gz (by rw[an];show j<=l.length+3;omega),kf (by rw[bq,an];show 4<=l.length+3-j;omega)];exact this
 ·have e:j=l.length:=by omega
  rw[e,dk,List.drop_left];exact E
theorem Zl4 {M0 M1 M2 M3 M4 M5 M6 M7 M8 M9 M10 M11 M12:Fn} {V0 V1:Rw} (T:E.length<=1000) {x:Ax3} {pa pb pc bH lag:Int} {K:Kf} {c:Cv}:
  Out (λo=>o=(1, .vC kPt ((E.filter λe=>decide (e.aP≠10)).map evR):: .vC kPt V0:: .vC kPt V1::I k::(AL x++([I pa,I pb,I pc,I bH,I lag]++Ab K c))))
   (Am (P0 M0 M1 M2 M3 M4 M5 M6 M7 M8 M9 M10 M11 M12) (.vC kPt (((E.take 0).filter λe=>decide (e.aP≠10)).map evR):: .vC kPt V0:: .vC kPt V1::I k:: .vC kPt (E.map evR)::I ((E.map evR).length:Int)::I ((0:Nat):Int)::(AL x++([I pa,I pb,I pc,I bH,I lag]++Ab K c)))):=by
 refine BZ (λs:Nat=> .vC kPt (((E.take s).filter λe=>decide (e.aP≠10)).map evR):: .vC kPt V0:: .vC kPt V1::I k:: .vC kPt (E.map evR)::I ((E.map evR).length:Int)::I (s:Int)::(AL x++([I pa,I pb,I pc,I bH,I lag]++Ab K c)))
  (λs=>s<=E.length) (λs=>E.length-s) _ ?_ 0 (jz _)
 intro i U;refine Out.eqv (Ztr M0 M1 M2 M3 M4 M5 M6 M7 M8 M9 M10 M11 M12 _ V0 V1 k (E.map evR) ((E.map evR).length:Int) i x.a.step x.a.aS x.a.bF x.a.bG x.a.low x.a.aY x.a.bB x.a.aV x.a.aO (x.a.aW.map Ai) x.b.step x.b.aS x.b.bF x.b.bG x.b.low x.b.aY x.b.bB x.b.aV x.b.aO (x.b.aW.map Ai) x.c.step x.c.aS x.c.bF x.c.bG x.c.low x.c.aY x.c.bB x.c.aV x.c.aO (x.c.aW.map Ai) pa pb pc bH lag K c) ?_;rw[Ae (x:=(i:Int)+1)];have V:((E.map evR).length:Int)=E.length:=by rw[ac]
 refine .cond (λG=> ?_) λG=> ?_
 ·have G:=A0 G;have J:i<E.length:=by omega
  refine .cond (λ_=> ?_) λe=>(inB (by omega) G e).elim;have O:nth [] (E.map evR) (i:Int).toNat=evR E[i]:=by rw[aj];exact GK _ _ _ _ J
  rw[O];have N:E.take (i+1)=E.take i++[E[i]]:=by rw[fo,ag J];rfl
  have S:((E.take i).filter λe=>decide (e.aP≠10)).length<=1000:=cq (j8 _ _) (by rw[dl];omega);refine .cond (λD=> ?_) λD=> ?_
  ·have D:(E[i].aP !=10)=true:=D;have L:E[i].aP≠10:=by simpa using D
   have M:(E.take (i+1)).filter (λe=>decide (e.aP≠10))=(E.take i).filter (λe=>decide (e.aP≠10))++[E[i]]:=by
    rw[N,List.filter_append,List.filter_cons_of_pos (by simpa using L)];rfl
   refine .cond (λ_=> ?_) λc=>by rw[BM (by rw[an,ac];show(_+1)*24<=_;omega)]at c;cases c
   refine .some (.inl ⟨rfl,i+1,?_,by omega,by omega⟩);dsimp only;rw[M,bn];rfl
  ·have D:(E[i].aP !=10)=false:=D;have L:E[i].aP=10:=by simpa using D
   have M:(E.take (i+1)).filter (λe=>decide (e.aP≠10))=(E.take i).filter (λe=>decide (e.aP≠10)):=by
    rw[N,List.filter_append,List.filter_cons_of_neg (by simpa using L)];simp
   refine .some (.inl ⟨rfl,i+1,?_,by omega,by omega⟩);dsimp only;rw[M];rfl
 ·have G:=AU G;have e:i=E.length:=by omega
  rw[e,gh];exact .some (.inr ⟨by simp,rfl⟩)
theorem Zyg {M0 MS MA M3 M4 M5 M6 M7 M8 M9 M10 M11 M12:Fn} {K0:Kf} (hE:E.length<=60) (hn:∀e∈E,e.n<=4194304) {w:Pt} (i0:LimI K0 0 B4 w w w)
  (hA:∀k,MA [.vC kPt (E.map evR),I k]=some [.vC kPt ((atE E k).map evR)])
  (hS:∀(K:Kf) (_:KOK K) (c:Cv) (n:Int) (E:List Evn),Ga K n c->0<=n/\n<=10000->EvE E->MS (.vC kPt (E.map evR)::Ab K c)=some (tkA K c E++Ab (Jp K c E).1 (Jp K c E).2)):
  Out (λo=>∃l:List Pt,o=(1, .vC kPt (l.map ptR)::AL K0.x++[I K0.pa,I K0.pb,I K0.pc,I K0.bH,I K0.lag])/\l.length=123/\Ch K0.x l)
   (Am (T0 M0 MS MA M3 M4 M5 M6 M7 M8 M9 M10 M11 M12 (Am (P0 M0 MS MA M3 M4 M5 M6 M7 M8 M9 M10 M11 M12)))
    (.vC kPt (([]++[w,w,w]).map ptR):: .vC kPt (E.map evR)::I ((0:Nat):Int)::(AL K0.x++([I K0.pa,I K0.pb,I K0.pc,I K0.bH,I K0.lag]++Ab K0 B4)))):=by
 refine BZ (λs:Nat×Kf×Cv×List Pt×Pt×Pt×Pt=> .vC kPt ((s.2.2.2.1++[s.2.2.2.2.2.2,s.2.2.2.2.2.1,s.2.2.2.2.1]).map ptR):: .vC kPt (E.map evR)::I (s.1:Int)::(AL K0.x++([I K0.pa,I K0.pb,I K0.pc,I K0.bH,I K0.lag]++Ab s.2.1 s.2.2.1)))
  (λs=>s.1<=120/\s.2.2.2.1.length=s.1/\s.2.1.x=K0.x/\Ch K0.x (s.2.2.2.1++[s.2.2.2.2.2.2,s.2.2.2.2.2.1,s.2.2.2.2.1])/\LimI s.2.1 s.1 s.2.2.1 s.2.2.2.2.1 s.2.2.2.2.2.1 s.2.2.2.2.2.2) (λs=>120-s.1) _ ?_ (0,K0,B4,[],w,w,w)
  ⟨jz _,rfl,rfl,λj X=>by(have X:j+3<3:=X);omega,i0⟩
 rintro⟨k,K,c,l,e0,e1,e2⟩ ⟨h2,N,O,D,i⟩;dsimp only at h2 N O D i;refine Out.eqv (Zyl M0 MS MA M3 M4 M5 M6 M7 M8 M9 M10 M11 M12 _ ((l++[e2,e1,e0]).map ptR) (E.map evR) k K0.x.a.step K0.x.a.aS K0.x.a.bF K0.x.a.bG K0.x.a.low K0.x.a.aY K0.x.a.bB K0.x.a.aV K0.x.a.aO (K0.x.a.aW.map Ai) K0.x.b.step K0.x.b.aS K0.x.b.bF K0.x.b.bG K0.x.b.low K0.x.b.aY K0.x.b.bB K0.x.b.aV K0.x.b.aO (K0.x.b.aW.map Ai) K0.x.c.step K0.x.c.aS K0.x.c.bF K0.x.c.bG K0.x.c.low K0.x.c.aY K0.x.c.bB K0.x.c.aV K0.x.c.aO (K0.x.c.aW.map Ai) K0.pa K0.pb K0.pc K0.bH K0.lag K c) ?_;refine .cond (λG=> ?_) λG=> ?_
 ·have G:(k:Int)<120:=A0 G;refine .bind (p:=λo=>o=_) ⟨_,hA k,rfl⟩ λo e=> ?_;subst e;have a0:=Z1j E k;have J:=Zl4 (M0:=M0) (M1:=MS) (M2:=MA) (M3:=M3) (M4:=M4) (M5:=M5) (M6:=M6) (M7:=M7) (M8:=M8) (M9:=M9) (M10:=M10) (M11:=M11) (M12:=M12) (V0:=(l++[e2,e1,e0]).map ptR) (V1:=E.map evR) (k:=k) (E:=atE E k) (by omega) (x:=K0.x) (pa:=K0.pa) (pb:=K0.pb) (pc:=K0.pc) (bH:=K0.bH) (lag:=K0.lag) (K:=K) (c:=c);refine .bind (p:=λo=>o=_) J λo e=> ?_;subst e;refine .cond (λ_=> ?_) λe=>by cases e
  generalize Y:(atE E k).filter (λe=>decide (e.aP≠10))=F at*;have L:∀e∈F,e∈atE E k/\e.aP≠10:=λe he=>by
   rw[<-Y]at he;have:=List.mem_filter.1 he;exact⟨this.1,by simpa using this.2⟩
  have a1:F.length<=60:=by rw[<-Y];exact cq (j8 _ _) (by omega)
  have ev:EvE F:=⟨by omega,λe he=>hn e (Zpb (L e he).1)⟩;have S:=Zxq (by omega) i ev λe he=>(L e he).2;refine .bind (p:=λo=>o=_) ⟨_,hS K i.o.k c k F i.o.g (by omega) ev,rfl⟩ λo e=> ?_;subst e;obtain⟨t,ht⟩:=Q3r K c F;have T:(Jp K c F).1.x=K0.x:=by
   show(stA K c F).2.1.x=_;rw[ht];exact O
  have U:∃a b m s sp f,tkA K c F=[AC.vC kPt a, .vC Aa b,I m,I s,I (D0 (stA K c F).2.1 (stA K c F).2.2).x,I (D0 (stA K c F).2.1 (stA K c F).2.2).y,I (D0 (stA K c F).2.1 (stA K c F).2.2).z,I sp,I f]:=⟨_,_,_,_,_,_,rfl⟩;obtain⟨a,b,m,s,sp,f,et⟩:=U;rw[et];generalize D0 (stA K c F).2.1 (stA K c F).2.2=d at*;generalize Jp K c F=q at*;rw[O]at S;have ll:((l++[e2,e1,e0]).map ptR).length=k+3:=by rw[ac,an,N];rfl
  refine .cond (λ_=> ?_) λe=>by
   have e:((((l++[e2,e1,e0]).map ptR)++[ptR d]).length*24).ble 140737488355328=false:=e;rw[BM (by rw[an,ll];show(k+3+1)*24<=_;omega)]at e;cases e
  have ek:V ((k:Int)+1)=((k+1:Nat):Int):=by rw[Ae];omega
  have eL:l++[e2,e1,e0]++[d]=l++[e2]++[e1,e0,d]:=by simp
  have M:=Zs6 D S.1;rw[eL]at M;refine .some (.inl ⟨rfl,(k+1,q.1,q.2,l++[e2],d,e0,e1),?_,⟨by dsimp only;omega,by dsimp only;rw[an,N];rfl,T,M,?_⟩,by dsimp only;omega⟩)
  ·dsimp only;have em:(l++[e2,e1,e0]).map ptR++[ptR d]=(l++[e2]++[e1,e0,d]).map ptR:=by rw[<-eL];simp
   rw[<-em,<-ek];rfl
  ·have:(k:Int)+1=((k+1:Nat):Int):=by omega
   rw[<-this];exact S.2
 ·have G: ¬(k:Int)<120:=AU G;exact .some (.inr ⟨by simp,l++[e2,e1,e0],rfl,by rw[an,N];show k+3=123;omega,D⟩)
theorem Zpx {U V J:Rw} (h0:Src U) (h1:Src V) (h2:Src J) (hl:J.length<=100000) {most:Int} (hm:most<=12):
  ∃K:Kf,LimI K 0 B4 (MK K 0) (MK K 0) (MK K 0)/\KU [.vC Aa V, .vC Aa J]=some (AL K.x++[I K.pa,I K.pb,I K.pc,I K.bH,I K.lag])/\Lt [.vC Aa U,I most,B true]=some [.vC Ak (K.aA.map Ah)]/\
   Hb (AL K.x++[I K.pa,I K.pb,I K.pc,I K.bH,I K.lag]++[.vC Ak (K.aA.map Ah),B true])=some (I 0::Ab K B4):=by
 obtain⟨x,a,b,c,bH,lag,hQ,L⟩:=Zjf h1 h2 hl;obtain⟨p,aA,l',hI,G,he,hlen,M⟩:=Zlw h0 (most:=most) (by omega);have a0:aA.length=l'.length+1:=by rw[he];simp
 have N:=Qrj L (aA:=aA) (by omega) G true;have X:=Q8f (by omega) G (show aA.length<=20000 by omega);have Y:=(NQ X).2;have O:=Zzd (x:=x) (pa:=a) (pb:=b) (pc:=c) (bH:=bH) (lag:=lag) he M Y;have E:=N.2;have S:GoodPath (AQ aA):=WJ (by omega) X;have th:=Ybr (pa:=a) (pb:=b) (pc:=c) (bH:=bH) (lag:=lag) L.x.ok S Y;have fw:=Xf (d:=⟨1,1,1⟩) (m:=0) L.x.ok S ⟨bz _,(Nq S).1⟩;have lt:Iw (kfP x a b c bH lag aA true):=⟨⟨1,1,1⟩,0,Av (AQ aA).aF,⟨.inl rfl, .inl rfl, .inl rfl⟩,rfl⟩;have e0:endC (kfP x a b c bH lag aA true) B4=0:=Qa8 E rfl rfl rfl;generalize D:kfP x a b c bH lag aA true=K at*;have fw:FwS K.t 0 K.len:=by rw[<-D];exact fw
 have w0:AO K.t 0=0:=by
  have h:=fw.ge (z:=0) (u:=0) (bz _) fw.be.2 (bz _) (fw.rg 0).1;have:=(fw.wh 0 (bz _) fw.be.2).1;omega
 have o:Oj K 0 B4:=⟨E,O,(gdK E).ga,lt,bz _,λ_=>⟨⟨0,fw⟩,by rw[e0];have:=(fw.wh _ fw.be.2 (bz _)).1;omega⟩,⟨bz _,by have:=O.pos;show(0:Int)<_;omega⟩,λq=>(by cases q)⟩;have st:AP B4=true:=rfl;have tq:Tq K B4:=by
  refine⟨λq=>(by cases q),λq=>absurd rfl q,⟨by show(-1:Int)<_;omega,λq=>by(have q:(0:Int)<= -1:=q);omega⟩,(by show(0:Int)≠2;decide),λ_=>⟨0,fw,λq=>by(have q:(0:Int)<= -1:=q);omega,λj hj _=> ?_⟩,λq=>absurd rfl q⟩;have T:=hj.aU E;have hb:=O8 E O T.2;refine⟨hb.1,by rw[e0];have:=(fw.wh _ hb.1 hb.2).1;omega,?_⟩;rcases th.pre j hj with q|⟨i,i0,i1,i2,i3⟩
  ·refine .inr ⟨?_,st⟩;rw[q,w0];rfl
  ·exact .inl ⟨i,i0,i1,i2,i3⟩
 refine⟨K,⟨o,th,tq,⟨VS E rfl e0, .inl ⟨rfl,rfl⟩⟩,⟨bz _,bz _,bz _⟩⟩,?_,?_,?_⟩
 ·rw[<-D];exact hQ
 ·rw[<-D];exact hI
 ·rw[<-D]at N⊢;exact N.1
theorem Q6e {G MS MA J D L M N O S T U V:Fn} {Y x1 x2 x3:Rw} (hE:E.length<=60) (hn:∀e∈E,e.n<=4194304)
  (hV:V []=some [B true]) {q:Bool} (hF:U [.vC Aa Y, .vC Aa x1, .vC Aa x2, .vC Aa x3]=some [B q])
  (hyp : q = true -> LimI K 0 B4 (MK K 0) (MK K 0) (MK K 0) /\ T [.vC Aa x1, .vC Aa x2] = some (AL K.x ++ [I K.pa, I K.pb, I K.pc, I K.bH, I K.lag]) /\ S [I a, I 7] = some [I m] /\ O [.vC Aa Y, I m, B true] = some [.vC Ak (K.aA.map Ah)] /\
   N [.vC Aa x3]=some [.vC kPt (E.map evR)]/\M (AL K.x++[I K.pa,I K.pb,I K.pc,I K.bH,I K.lag]++[.vC Ak (K.aA.map Ah),B true])=some (I 0::Ab K B4))
  (hA:∀(E:List Evn) (k:Int),E.length<=60->MA [.vC kPt (E.map evR),I k]=some [.vC kPt ((atE E k).map evR)]) (hL:∀{x:Ax3} {l:List Pt},l.length<=100000->G (AL x++[.vC kPt (l.map ptR)])=some [B (decide (De x l))])
  (hP:∀(K:Kf) (_:KOK K) (c:Cv),L (Ab K c)=some (Bv K.p++Ab K c)) (hT:∀(K:Kf) (_:KOK K) (c:Cv),D (Ab K c)=some (A4 K.t++Ab K c)) (X:KOK K->∀u,J (pxt K.p K.x K.t [I u])=some (ptR (Co K.p K.x K.t u)))
  (hS:∀(K:Kf) (_:KOK K) (c:Cv) (n:Int) (E:List Evn),Ga K n c->0<=n/\n<=10000->EvE E->MS (.vC kPt (E.map evR)::Ab K c)=some (tkA K c E++Ab (Jp K c E).1 (Jp K c E).2)):
  Qgw G MS MA J D L M N O S T U V (Am (P0 G MS MA J D L M N O S T U V))
   (Am (T0 G MS MA J D L M N O S T U V (Am (P0 G MS MA J D L M N O S T U V)))) [.vC Aa Y, .vC Aa x1, .vC Aa x2, .vC Aa x3,I a]=some [B true]:=by
 rw[Zl8];refine eB hV (eF rfl (eB hF ?_));cases q
 ·rfl
 obtain⟨i,hQ,hD,hI,a0,hN⟩:=hyp rfl;have h:=i.o.k;refine eF rfl (eB hQ (eB hD (eB hI (eB a0 (eB hN (eF rfl (eB (hP K h B4) (eB (hT K h B4) ?_))))))));have X:=X h 0;have e0:Co K.p K.x K.t 0=MK K 0:=rfl;rw[e0]at X;obtain⟨o,h1,l,rfl,hl,a1⟩:=Zyg (M0:=G) (MS:=MS) (MA:=MA) (M3:=J) (M4:=D) (M5:=L) (M6:=M) (M7:=N) (M8:=O) (M9:=S) (M10:=T) (M11:=U) (M12:=V) hE hn i (λk=>hA E k hE) hS;generalize MK K 0=w at*;refine eB X (eB h1 (eT rfl (eB (hL (x:=K.x) (l:=l) (by omega)) ?_)));rw[al (Zpz (by omega) a1)];rfl
theorem Z30 {G J L M:Rw} (U:Src G) (V:Src J) (X:Src L) (Y:Src M) (h4:i64 a):
  Q6z [.vC Aa G, .vC Aa J, .vC Aa L, .vC Aa M,I a]=some [B true]:=by
 obtain⟨q,T,hq⟩:=Zg3 G J L M;cases q
 ·exact Q6e (K:=kX []) (E:=[]) (m:=0) (MS:=Hi) (MA:=LG) (by simp) (by simp) Qu6 T (λh=>by cases h) (λE k D=>Zdz (by omega) k) (λN=>Qiw N) (λK h c=>Q8x h c) (λK h c=>Q52 h c) (λh=>KI h.f) (λK h c n E g O D=>Qu8 h g O D)
 ·obtain⟨l0,l1,l2,l3⟩:=hq rfl;have hm:0<=a%7/\a%7<7:=⟨Int.emod_nonneg _ (by decide),Int.emod_lt_of_pos _ (by decide)⟩;obtain⟨K,hK,hQ,hI,hN⟩:=Zpx U V X (by omega) (most:=a%7) (by omega);obtain⟨E,hV,D,S⟩:=Ztb Y l3;exact Q6e (K:=K) (E:=E) D (λe he=>(S e he).n.2) Qu6 T (λ_=>⟨hK,hQ,Q68 h4 (by omega),hI,hV,hN⟩) (λE k D=>Zdz (by omega) k) (λN=>Qiw N) (λK h c=>Q8x h c) (λK h c=>Q52 h c) (λh=>KI h.f) (λK h c n E g O D=>Qu8 h g O D)
end Go.Bm
namespace Go.Bm
theorem Qxo {r:List AC} (h:okR Aa r):i64 (Af (nth .vD r 0)):=by
 match r,h with
 |[],h=>exact h.elim
 |a::_,h=>exact Zsq h.1
theorem Vy {r:List AC} (h:okR [Kd.sl Aa] r):Src (B_ (nth .vD r 0)):=by
 match r,h with
 |[],h=>exact h.elim
 |a::_,h=>
  have D:=h.1;unfold okC at D;refine⟨?_,λc E=>Qxo (D.2 c E).1⟩;have G:=D.1;simp only[maxLen]at G;show(B_ a).length<=_;omega
end Go.Bm
