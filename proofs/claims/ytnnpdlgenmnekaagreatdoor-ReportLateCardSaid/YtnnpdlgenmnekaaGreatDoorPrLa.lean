/- laid together -/
import Derived.Test.YtnnpdlgenmnekaaGreatDoorPrPf
import Derived.Test.YtnnpdlgenmnekaaGreatDoorMx3
import Derived.Lib.ItoaNum
set_option linter.unusedVariables false
set_option linter.unusedSimpArgs false
set_option maxRecDepth 100000
open Go.IntKind (wrap)
variable {i A y R J C:Nat} {a k b v u r d j:Int} {p:Go.Bm.Pth} {t:Go.Bm.Trk} {M Z W S P O H:Go.Bm.Fn} {l:Go.Bm.Rw} {q z e:Go.Bm.Pt} {Q:Int->Go.Bm.Pt->Prop} {N:Go.Bm.Lp} {g:Go.Bm.Sgm}
namespace Go.Bm
open Classical
def O_ (a:Pt) (g:Sgm) (d:Int):Pt:=⟨a.x+Bh ((g.to.x-a.x)*d) g.len,a.y+Bh ((g.to.y-a.y)*d) g.len,a.z+Bh ((g.to.z-a.z)*d) g.len⟩
def atL:Pt->List Sgm->Int->Pt
 |a,[],_=>a
 |a,g::l,s=>if s<g.len then O_ a g s else atL g.to l (s-g.len)
def atP (p:Pth) (s:Int):Pt:=atL p.aQ p.aF (max s 0)
def Bg:List Sgm->Int->Nat×Int
 |[],s=>(0,s)
 |[g],s=>if s<g.len then(0,s)else(0,g.len)
 |g::h::l,s=>if s<g.len then(0,s)else((Bg (h::l) (s-g.len)).1+1,(Bg (h::l) (s-g.len)).2)
def EZ (a:Pt) (l:List Sgm) (i:Nat):Pt:=Fb a (l.take i)
def sg0:Sgm:=⟨⟨0,0,0⟩,0,0,0,0⟩
def sgA (l:List Sgm) (i:Nat):Sgm:=l.getD i sg0
theorem OE {l:List Sgm} (h:i<l.length):sgA l i=l[i]:=by unfold sgA;simp[h]
theorem Ld {l:List Sgm} (h:i<l.length):nth [] (l.map Aw) i=Aw (sgA l i):=by rw[OE h];exact Ja _ _ _ _ h
theorem H5 {l:List Sgm} (h:i<l.length):sgA l i∈l:=by rw[OE h];exact cd h
theorem J3 (a:Pt) (l:List Sgm):EZ a l 0=a:=by unfold EZ;simp[Fb]
theorem Wq (a:Pt) (g:Sgm) (l:List Sgm) (i:Nat):EZ a (g::l) (i+1)=EZ g.to l i:=by unfold EZ;rw[List.take_succ_cons];rfl
theorem Qir (g:Sgm) (l:List Sgm) (i:Nat):sgA (g::l) (i+1)=sgA l i:=by unfold sgA;simp
theorem TM:∀{l:List Sgm} {i:Nat} {a:Pt},i<l.length->EZ a l (i+1)=(sgA l i).to
 |g::l,0,a,_=>by rw[Wq,J3];rfl
 |g::l,i+1,a,h=>by rw[Wq,Qir];exact TM (by simpa using h)
theorem Qlg {x n:Int} (D:0<n):Bh (x*n) n=x:=UQ D
theorem Zhd (h:0<g.len):O_ q g g.len=g.to:=by
 unfold O_;rw[Qlg h,Qlg h,Qlg h];rw[D0];exact⟨by simp only;omega,by simp only;omega,by simp only;omega⟩
theorem Qi8:∀{l:List Sgm} {a:Pt} {s:Int},l≠[]->(∀g∈l,1<=g.len)->0<=s->
  (Bg l s).1<l.length/\0<=(Bg l s).2/\(Bg l s).2<=(sgA l (Bg l s).1).len/\atL a l s=O_ (EZ a l (Bg l s).1) (sgA l (Bg l s).1) (Bg l s).2
 |[],_,_,h,_,_=>absurd rfl h
 |[g],a,s,_,D,G=>by
  have L:=D g (by simp);unfold Bg;by_cases c:s<g.len
  ·rw[aa c];refine⟨by simp,G,by show s<=g.len;omega,?_⟩;unfold atL;rw[aa c,J3];rfl
  ·rw[ab c];refine⟨by simp,by simp only;omega,iq _,?_⟩;unfold atL;rw[ab c,J3];show atL g.to [] _=O_ a g g.len;rw[Zhd (by omega)];rfl
 |g::h::l,a,s,_,D,G=>by
  have L:=D g (by simp);unfold Bg;by_cases c:s<g.len
  ·rw[aa c];refine⟨by simp,G,by show s<=g.len;omega,?_⟩;unfold atL;rw[aa c,J3];rfl
  ·rw[ab c];obtain⟨M,N,O,S⟩:=Qi8 (l:=h::l) (a:=g.to) (s:=s-g.len) (by simp) (λk I=>D k (by simp at I⊢;exact .inr I)) (by omega);refine⟨by simp at M⊢;omega,N,?_,?_⟩
   ·simp only[Qir];exact O
   ·rw[show atL a (g::h::l) s=atL g.to (h::l) (s-g.len)from by rw[atL,ab c]];simp only[Wq,Qir];exact S
theorem Qfu {x n:Int} (D:0<n) (h: -(A*n)<=x/\x<=A*n):(Bh x n).natAbs<=A:=by
 have m1:=Ss D h.2;have m2:=Ss D h.1;rw[show-((A:Int)*n)= -(A:Int)*n by rw[Int.neg_mul]]at m2;rw[UQ D]at m1 m2;omega
theorem Qx4 {D L d:Int} (I:0<L) (M:D.natAbs<=134217728) (G:0<=d/\d<=L):(Bh (D*d) L).natAbs<=134217728:=by
 refine Qfu I ?_;have N:D*d<=134217728*d:=ew (by omega) G.1;have O: -134217728*d<=D*d:=ew (by omega) G.1;have e:((134217728:Nat):Int)=134217728:=rfl;rw[e];omega
structure SegOK (l : List Sgm) : Prop where
 seg:∀g∈l,1<=g.len/\g.len<=268435456/\bd B26 g.to
 count:l.length<=983055
theorem GoodPath.ok (h:GoodPath p):SegOK p.aF:=⟨Qmr h.aQ h.aF,h.count⟩
theorem Zdx {l:List Sgm} (D:bd B26 q) (h:SegOK l) {i:Nat} (G:i<l.length):bd B26 (EZ q l i):=by
 cases i with
 |zero=>rw[J3];exact D
 |succ i=>rw[TM (by omega)];exact(h.seg _ (H5 (by omega))).2.2
theorem Qxs {l:List Sgm} (h:SegOK l):∀(k i:Nat) (v:Int),i+k=l.length->0<=v->v+k*268435456<=4000000000000000000->
  Am Se [I v, .vC Ag (l.map Aw),I l.length,I i]=some (1,[I (v+AW (l.drop i))])
 |0,i,v,L,_,_=>by
  refine AQ ?_ (by simp);rw[Q31,A1 (by omega),d6 (by omega)];simp[AW]
 |k+1,i,v,L,N,O=>by
  have D:i<l.length:=by omega
  have M:=h.count;have S:=h.seg _ (H5 D);have G:Se [I v, .vC Ag (l.map Aw),I l.length,I i]=some (0,[I (v+(sgA l i).len), .vC Ag (l.map Aw),I l.length,I (i+1:Nat)]):=by
   rw[Q31];simp only[go_sem,ag,al,Ld D];rw[aa,aa,Ae (x:=v+_),Ae];rfl
  rw[A5 G,Qxs h k (i+1) _ (by omega) (by omega) (by omega)];have e:l.drop i=sgA l i::l.drop (i+1):=by rw[OE D];exact OT _ _ D
  rw[e];simp only[AW,Int.add_assoc]
theorem Q9d (h:SegOK p.aF):JK (Bk p)=some [I (AW p.aF)]:=by
 have G:=Qxs h p.aF.length 0 0 (by omega) (by omega) (by have:=h.count;omega);have D:Su [I 0, .vC Ag (p.aF.map Aw),I p.aF.length,I 0]=some (1,[I (0+AW (p.aF.drop 0))]):=G;rw[fg,Int.zero_add]at D;unfold JK;generalize Su=N at*;rw[Zqi];simp only[go_sem,ag,D]
theorem Zbs {g h:Sgm} {l:List Sgm} {s:Int} (c: ¬s<g.len):Bg (g::h::l) s=((Bg (h::l) (s-g.len)).1+1,(Bg (h::l) (s-g.len)).2):=by rw[Bg,ab c]
theorem Qyq {p:Pth} (h:SegOK p.aF):∀(k i:Nat) (s:Int),i+k=p.aF.length->1<=k->0<=s/\s<=9223372036854775807->
  Am SO (I s:: .vC Ag (p.aF.map Aw)::I p.aF.length::I i::Bk p)=some (1,[I (i+(Bg (p.aF.drop i) s).1:Nat),I (Bg (p.aF.drop i) s).2])
 |k+1,i,s,N,_,O=>by
  have G:i<p.aF.length:=by omega
  have M:=h.count;have S:=h.seg _ (H5 G);have e:p.aF.drop i=sgA p.aF i::p.aF.drop (i+1):=by rw[OE G];exact OT _ _ G
  have D:SO (I s:: .vC Ag (p.aF.map Aw)::I p.aF.length::I i::Bk p)=if s<(sgA p.aF i).len then some (1,[I i,I s])else if k=0 then some (1,[I i,I (sgA p.aF i).len])else some (0,I (s-(sgA p.aF i).len):: .vC Ag (p.aF.map Aw)::I p.aF.length::I (i+1:Nat)::Bk p):=by
   rw[Q9m];simp only[go_sem,ag,al,Ld G];rw[aa,aa,Ae (x:=(p.aF.length:Int)-1),Ae (x:=(i:Int)+1)];by_cases c:s<(sgA p.aF i).len
   ·rw[aa c,aa c]
   ·rw[ab c,ab c];by_cases L:k=0
    ·rw[aa,aa L]
    ·rw[ab,ab L,Ae];rfl
  by_cases c:s<(sgA p.aF i).len
  ·rw[aa c]at D;rw[AQ D (by simp),e];cases p.aF.drop (i+1)with
   |nil=>rw[Bg,aa c];rfl
   |cons b l=>rw[Bg,aa c];rfl
  ·rw[ab c]at D;by_cases L:k=0
   ·rw[aa L]at D;rw[AQ D (by simp),e,d6 (by omega),Bg,ab c];rfl
   ·rw[ab L]at D;rw[A5 D,Qyq h k (i+1) _ (by omega) (by omega) (by omega),e];have e2:p.aF.drop (i+1)=sgA p.aF (i+1)::p.aF.drop (i+1+1):=by rw[OE (show i+1<p.aF.length by omega)];exact OT _ _ (by omega)
    rw[e2,Zbs c,<-e2];simp only;rw[show i+1+(Bg (p.aF.drop (i+1)) (s-(sgA p.aF i).len)).1=i+((Bg (p.aF.drop (i+1)) (s-(sgA p.aF i).len)).1+1) by omega]
theorem VN (h:SegOK p.aF) {s:Int} (hs:i64 s):EE (Bk p++[I s])=if p.aF=[]then some [I (-1),I 0]else some [I (Bg p.aF (max s 0)).1,I (Bg p.aF (max s 0)).2]:=by
 unfold i64 at hs;have hmx:mx s 0=max s 0:=mx_max' s 0;by_cases c:p.aF=[]
 ·rw[aa c];have hend:Ns (I (max s 0):: .vC Ag []::I 0::I 0::Bk p)=some (2,[]):=by
   refine AQ ?_ (by simp);rw[Q9m,A1 (by omega)]
  unfold EE;generalize Ns=N at*;have he:=Qxf N p.aQ.x p.aQ.y p.aQ.z (p.aF.map Aw) (p.aD.map At) s;refine db he ?_;rw[hmx,c];have hend':N [I (max s 0), .vC Ag [],I 0,I 0,I p.aQ.x,I p.aQ.y,I p.aQ.z, .vC Ag [], .vC AD (p.aD.map At)]=some (2,[]):=by
   have:=hend;unfold Bk at this;rw[c]at this;exact this
  simp only[go_sem,dq,cv];simp only[j7];rw[hend'];simp
 ·rw[ab c];have hpos:0<p.aF.length:=by
   cases hh:p.aF with
   |nil=>exact absurd hh c
   |cons _ _=>simp
  have hL:=Qyq h p.aF.length 0 (max s 0) (by omega) (by omega) (by omega);have hL':Ns [I (max s 0), .vC Ag (p.aF.map Aw),I p.aF.length,I 0,I p.aQ.x,I p.aQ.y,I p.aQ.z, .vC Ag (p.aF.map Aw), .vC AD (p.aD.map At)]=some (1,[I (0+(Bg (p.aF.drop 0) (max s 0)).1:Nat),I (Bg (p.aF.drop 0) (max s 0)).2]):=hL;rw[fg,du]at hL';unfold EE;generalize Ns=N at*;have he:=Qxf N p.aQ.x p.aQ.y p.aQ.z (p.aF.map Aw) (p.aD.map At) s;refine db he ?_;rw[hmx];simp only[go_sem,ag,hL']
 where mx_max' (a b:Int):mx a b=max a b:=by unfold mx;rw[Int.max_def];split<;>split<;>omega
theorem Z3k (h:GoodPath p) {s:Int} (G:Z (Bk p++[I s])=if p.aF=[]then some [I (-1),I 0]else some [I (Bg p.aF (max s 0)).1,I (Bg p.aF (max s 0)).2])
  (hM:∀{a b c:Int},a.natAbs<=134217728->b.natAbs<=268435456->(0<c/\c<=268435456)->M [I a,I b,I c,I 2]=some [I (Bh (a*b) c),B true]):
  Qc0 M Z (Bk p++[I s])=some (ptR (atP p s)):=by
 have he:=Zrx (AH:=M) (Ds:=Z) p.aQ.x p.aQ.y p.aQ.z (p.aF.map Aw) (p.aD.map At) s;refine db he ?_;simp only[ba,ax,Bk]at G;unfold atP;by_cases c:p.aF=[]
 ·rw[aa c]at G;simp only[G,go_sem];rw[aa,c];rfl
 ·rw[ab c]at G;have D:=h.ok;obtain⟨N,f2,f3,f4⟩:=Qi8 (l:=p.aF) (a:=p.aQ) (s:=max s 0) c (λg L=>(D.seg g L).1) (by omega);rw[f4];have L:=D.seg _ (H5 N);have O:=Zdx h.aQ D N;have hr:=Ld N;have a1:=D.count;generalize(Bg p.aF (max s 0)).1=i at*;generalize(Bg p.aF (max s 0)).2=d at*;have S:d.natAbs<=268435456:=by omega
  have fin:∀{a:Pt},bd B26 a->(M [I (V ((sgA p.aF i).to.x-a.x)),I d,I (sgA p.aF i).len,I 2]=some [I (Bh (((sgA p.aF i).to.x-a.x)*d) (sgA p.aF i).len),B true]/\V (a.x+Bh (((sgA p.aF i).to.x-a.x)*d) (sgA p.aF i).len)=a.x+Bh (((sgA p.aF i).to.x-a.x)*d) (sgA p.aF i).len)/\
    (M [I (V ((sgA p.aF i).to.y-a.y)),I d,I (sgA p.aF i).len,I 2]=some [I (Bh (((sgA p.aF i).to.y-a.y)*d) (sgA p.aF i).len),B true]/\V (a.y+Bh (((sgA p.aF i).to.y-a.y)*d) (sgA p.aF i).len)=a.y+Bh (((sgA p.aF i).to.y-a.y)*d) (sgA p.aF i).len)/\
    (M [I (V ((sgA p.aF i).to.z-a.z)),I d,I (sgA p.aF i).len,I 2]=some [I (Bh (((sgA p.aF i).to.z-a.z)*d) (sgA p.aF i).len),B true]/\V (a.z+Bh (((sgA p.aF i).to.z-a.z)*d) (sgA p.aF i).len)=a.z+Bh (((sgA p.aF i).to.z-a.z)*d) (sgA p.aF i).len):=by
   intro a T;have key:∀u v:Int,u.natAbs<=B26->v.natAbs<=B26->M [I (V (u-v)),I d,I (sgA p.aF i).len,I 2]=some [I (Bh ((u-v)*d) (sgA p.aF i).len),B true]/\V (v+Bh ((u-v)*d) (sgA p.aF i).len)=v+Bh ((u-v)*d) (sgA p.aF i).len:=by
    intro u v hu O;have U:=Iq hu O;rw[IQ U (by decide)];refine⟨hM (bp U (by decide)) S (by omega),?_⟩;exact IQ (Ul O (Qx4 (by omega) (bp U (by decide)) ⟨f2,f3⟩)) (by decide)
   exact⟨key _ _ L.2.2.1 T.1,key _ _ L.2.2.2.1 T.2.1,key _ _ L.2.2.2.2 T.2.2⟩
  have X:(0:Int)<=(i:Int)/\(i:Int)<(p.aF.length:Int):=by omega
  simp only[G,go_sem,ag,al,hr,aa X];rw[ab];by_cases c0:i=0
  ·subst c0;obtain⟨⟨m1,Y⟩,⟨m2,w2⟩,m3,w3⟩:=fin h.aQ;rw[ab,J3];simp only[m1,m2,m3,go_sem,Y,w2,w3];rfl
  ·obtain⟨j,rfl⟩:∃j,i=j+1:=⟨i-1,by omega⟩;have hj:=Ld (l:=p.aF) (i:=j) (by omega);have a0:=D.seg _ (H5 (l:=p.aF) (i:=j) (by omega));obtain⟨⟨m1,Y⟩,⟨m2,w2⟩,m3,w3⟩:=fin a0.2.2;rw[aa,TM (by omega)];have e1:V (((j+1:Nat):Int)-1)=(j:Int):=by rw[Ae];omega
   rw[e1];simp only[al,hj,go_sem];rw[aa];simp only[m1,m2,m3,go_sem,Y,w2,w3];rfl
theorem Q9u {a b c:Int} (D:a.natAbs<=134217728) (hb:b.natAbs<=268435456) (G:0<c/\c<=268435456):Bt [I a,I b,I c,I 2]=some [I (Bh (a*b) c),B true]:=by
 have:=dh D hb;exact TZ (by unfold i64;omega) (by unfold i64;omega) (by omega) (by omega)
theorem Z8s (h:GoodPath p) {s:Int} (D:i64 s):RF (Bk p++[I s])=some (ptR (atP p s)):=
 Z3k h (VN h.ok D) Q9u
theorem Q8e (h:GoodPath p):0<=AW p.aF/\AW p.aF<=263886834032640:=by
 have D:=Qqk h.ok.seg;have G:=h.count;omega
theorem Zug {α:Type} (d x:α) (l:List α):nth d (x::l) 40=nth d l 39:=by simp[nth]
theorem Zz6 {α:Type} (d x:α) (l:List α):nth d (x::l) 41=nth d l 40:=by simp[nth]
theorem Z8d {α:Type} (d x:α) (l:List α):nth d (x::l) 42=nth d l 41:=by simp[nth]
theorem Zso {α:Type} (d x:α) (l:List α):nth d (x::l) 43=nth d l 42:=by simp[nth]
theorem Z47 {α:Type} (d x:α) (l:List α):nth d (x::l) 44=nth d l 43:=by simp[nth]
theorem Zm4 {α:Type} (d x:α) (l:List α):nth d (x::l) 45=nth d l 44:=by simp[nth]
theorem Zvp {α:Type} (d x:α) (l:List α):nth d (x::l) 46=nth d l 45:=by simp[nth]
theorem Zte {α:Type} (d x:α) (l:List α):nth d (x::l) 47=nth d l 46:=by simp[nth]
theorem Zqx {α:Type} (d x:α) (l:List α):nth d (x::l) 48=nth d l 47:=by simp[nth]
theorem Z11 {α:Type} (d x:α) (l:List α):nth d (x::l) 49=nth d l 48:=by simp[nth]
theorem Z7a {α:Type} (d x:α) (l:List α):nth d (x::l) 50=nth d l 49:=by simp[nth]
theorem Zxp {α:Type} (d x:α) (l:List α):nth d (x::l) 51=nth d l 50:=by simp[nth]
theorem Z84 {α:Type} (d x:α) (l:List α):nth d (x::l) 52=nth d l 51:=by simp[nth]
theorem Z83 {α:Type} (d x:α) (l:List α):nth d (x::l) 53=nth d l 52:=by simp[nth]
theorem Z6j {α:Type} (d x:α) (l:List α):nth d (x::l) 54=nth d l 53:=by simp[nth]
theorem Z9c {α:Type} (d x:α) (l:List α):nth d (x::l) 55=nth d l 54:=by simp[nth]
attribute [go_sem] Zug Zz6 Z8d Zso Z47 Zm4 Zvp Zte Zqx Z11 Z7a Zxp Z84 Z83 Z6j Z9c
theorem Kq (a b:Int):mn a b=min a b:=by unfold mn;rw[Int.min_def];split<;>split<;>omega
theorem Og (a b:Int):mx a b=max a b:=by unfold mx;rw[Int.max_def];split<;>split<;>omega
def T9 (now a b mv:Int):Int:=if b>a then mv else if b<a then-mv else now
def D6 (now a b:Pt) (mv:Int):Pt:=⟨T9 now.x a.x b.x mv,T9 now.y a.y b.y mv,T9 now.z a.z b.z mv⟩
def slk (was aT n v:Int):Int:=if was=aT then v else max v n
def CY (x:Ax3) (was aT:Pt):Int:=slk was.z aT.z x.c.bB (slk was.y aT.y x.b.bB (slk was.x aT.x x.a.bB 0))
def pc0:Pce:=⟨0,0,0,0,⟨0,0,0⟩,⟨0,0,0⟩⟩
def Bf (l:List Pce):Pce:=l.getD (l.length-1) pc0
def FI (t:Trk) (c:Pce):Trk:=
 if t.aE≠[]/\c.bD≠0/\(Bf t.aE).bD=c.bD/\(Bf t.aE).aT=c.aT then
  {t with aE:=t.aE.set (t.aE.length-1) {Bf t.aE with aR:=(Bf t.aE).aR+c.aR},length:=t.length+c.aR}
 else{t with aE:=t.aE++[{c with at_:=t.length}],length:=t.length+c.aR}
def Az (l:List Sgm) (i:Nat):Int:=AW (l.take i)
def Ct (x:Ax3) (mv:Int) (a b:Pt) (s aR:Int) (D:Trk×Pt):Trk×Pt:=
 (FI (if CY x D.2 (D6 D.2 a b mv) > 0 then FI D.1 ⟨0, CY x D.2 (D6 D.2 a b mv), s, 0, D.2, D6 D.2 a b mv⟩ else D.1)
  ⟨0,aR,s,mv,D6 D.2 a b mv,D6 D.2 a b mv⟩,D6 D.2 a b mv)
def IP (p:Pth) (x:Ax3) (mv lo D:Int) (i:Nat) (s:Trk×Pt):Trk×Pt:=
 if max (Az p.aF i) lo<min (Az p.aF (i+1)) D then
  Ct x mv (EZ p.aQ p.aF i) (sgA p.aF i).to (if mv<0 then min (Az p.aF (i+1)) D else max (Az p.aF i) lo) (min (Az p.aF (i+1)) D-max (Az p.aF i) lo) s
 else s
def Ev (n:Nat) (mv:Int) (j:Nat):Nat:=if mv<0 then n-1-j else j
def Cz (p:Pth) (x:Ax3) (mv lo D:Int) (G:Trk×Pt):Nat->Trk×Pt
 |0=>G
 |j+1=>IP p x mv lo D (Ev p.aF.length mv j) (Cz p x mv lo D G j)
def B0 (n D:Int):Int:=max 0 (min n D)
def Ej (p:Pth) (x:Ax3) (d:Pt) (from_ to:Int):Trk:=
 let n:=AW p.aF
 let f:=B0 from_ n
 let t:=B0 to n
 (Cz p x (if f>t then-1 else 1) (min f t) (max f t) (⟨[],0,f,d⟩,d) p.aF.length).1
structure Ax3OK (x : Ax3) : Prop where
 a:0<=x.a.bB/\x.a.bB<=1000
 b:0<=x.b.bB/\x.b.bB<=1000
 c:0<=x.c.bB/\x.c.bB<=1000
theorem TA {x:Ax3} (h:Ax3OK x) (a b:Pt):0<=CY x a b/\CY x a b<=1000:=by
 obtain⟨D,G,I⟩:=h;unfold CY slk
 (repeat' split)<;>omega
structure TB (t : Trk) (n m : Int) : Prop where
 count:(t.aE.length:Int)<=n
 len:0<=t.length/\t.length<=m
 each:∀c∈t.aE,0<=c.aR/\c.aR<=t.length
theorem Q3e {l:List Pce} (h:l≠[]):Bf l∈l:=by
 have G:0<l.length:=by cases l with
  |nil=>exact absurd rfl h
  |cons _ _=>simp
 have D:l.length-1<l.length:=by omega
 unfold Bf;rw[ep,am D,Option.getD_some];exact cd _
theorem Qr8 {n m:Int} (h:TB t n m) {c:Pce} {k:Int} (I:0<=c.aR/\c.aR<=k):TB (FI t c) (n+1) (m+k):=by
 obtain⟨L,M,G⟩:=h;unfold FI;by_cases g:t.aE≠[]/\c.bD≠0/\(Bf t.aE).bD=c.bD/\(Bf t.aE).aT=c.aT
 ·rw[aa g];refine⟨by simp only[il];omega,by simp only;omega,?_⟩;intro q D;rcases fo D with D|rfl
  ·have:=G q D;simp only;omega
  ·have:=G _ (Q3e g.1);simp only;omega
 ·rw[ab g];refine⟨by simp only[ap,bf,cv];omega,by simp only;omega,?_⟩;intro q D;rcases bj.1 D with D|D
  ·have:=G q D;simp only;omega
  ·rw[dg]at D;subst D;simp only;omega
theorem Q54 (t:Trk) (c:Pce):(FI t c).aQ=t.aQ/\(FI t c).aT=t.aT:=by
 unfold FI;split<;>exact⟨rfl,rfl⟩
theorem TW (l:List Sgm):Az l 0=0:=by unfold Az;rw[List.take_zero];rfl
theorem QB {l:List Sgm} (h:i<l.length):Az l (i+1)=Az l i+(sgA l i).len:=by
 unfold Az;rw[j5,am h,Option.toList_some,Qf9,OE h]
theorem Q9s (l:List Sgm):Az l l.length=AW l:=by unfold Az;rw[j6]
theorem Ql1 {l:List Sgm} (h:SegOK l):∀i,i<=l.length->0<=Az l i/\Az l i<=i*268435456
 |0,_=>by rw[TW];simp
 |i+1,D=>by
  have:=Ql1 h i (by omega);have:=h.seg _ (H5 (show i<l.length by omega));rw[QB (by omega)];omega
theorem Zjh {x:Ax3} {mv lo hi:Int} {s:Trk×Pt} {n m:Int} (I:Ax3OK x) (L:SegOK p.aF) (D:i<p.aF.length) (h:TB s.1 n m):TB (IP p x mv lo hi i s).1 (n+2) (m+268436456):=by
 have M:=L.seg _ (H5 D);have e:=QB D;unfold IP;by_cases c:max (Az p.aF i) lo<min (Az p.aF (i+1)) hi
 ·rw[aa c];unfold Ct;have N:=TA I s.2 (D6 s.2 (EZ p.aQ p.aF i) (sgA p.aF i).to mv);have e1:n+2=n+1+1:=by omega
  have e2:m+268436456=m+1000+268435456:=by omega
  rw[e1,e2];refine Qr8 ?_ (by simp only;omega);by_cases G:CY x s.2 (D6 s.2 (EZ p.aQ p.aF i) (sgA p.aF i).to mv)>0
  ·rw[aa G];exact Qr8 h (by simp only;omega)
  ·rw[ab G];exact⟨by have:=h.count;omega,by have:=h.len;omega,h.each⟩
 ·rw[ab c];exact⟨by have:=h.count;omega,by have:=h.len;omega,h.each⟩
theorem XP {n j:Nat} (mv:Int) (h:j<n):Ev n mv j<n:=by unfold Ev;split<;>omega
theorem Y3 {p:Pth} {x:Ax3} {mv lo hi f:Int} {d:Pt} (D:Ax3OK x) (G:SegOK p.aF):∀j,j<=p.aF.length->TB (Cz p x mv lo hi (⟨[],0,f,d⟩,d) j).1 (j*2) (j*268436456)
 |0,_=>⟨by simp[Cz],by simp[Cz],by simp[Cz]⟩
 |j+1,I=>by
  have h:=Zjh (mv:=mv) (lo:=lo) (hi:=hi) D G (XP mv (show j<p.aF.length by omega)) (Y3 (mv:=mv) (lo:=lo) (hi:=hi) (f:=f) (d:=d) D G j (by omega));rw[Cz];have e1:((j+1:Nat):Int)*2=j*2+2:=by omega
  have e2:((j+1:Nat):Int)*268436456=j*268436456+268436456:=by omega
  rw[e1,e2];exact h
theorem Zaf {x:Ax3} (s:Trk×Pt):(IP p x a k b i s).1.aQ=s.1.aQ/\(IP p x a k b i s).1.aT=s.1.aT:=by
 unfold IP;by_cases c:max (Az p.aF i) k<min (Az p.aF (i+1)) b
 ·rw[aa c];unfold Ct;simp only[Q54];by_cases D:CY x s.2 (D6 s.2 (EZ p.aQ p.aF i) (sgA p.aF i).to a)>0
  ·rw[aa D];simp only[Q54];exact⟨trivial,trivial⟩
  ·rw[ab D];exact⟨rfl,rfl⟩
 ·rw[ab c];exact⟨rfl,rfl⟩
def FD (x:Ax3) (mv:Int) (Q:Int->Pt->Prop):Int->Int->Pt->List Pce->Prop
 |_,_,_,[]=>True
 |at_,s,d,c::l=>c.at_=at_/\c.s=s/\1<=c.aR/\((c.bD=mv/\c.was=c.aT/\CY x d c.aT=0/\∀k,0<=k->k<c.aR->Q (s+mv*k) c.aT)\/(c.bD=0/\c.was=d/\c.aR=CY x d c.aT))/\FD x mv Q (at_+c.aR) (s+c.bD*c.aR) c.aT l
def EK:Int->List Pce->Int
 |a,[]=>a
 |a,c::l=>EK (a+c.aR) l
def G3:Int->List Pce->Int
 |s,[]=>s
 |s,c::l=>G3 (s+c.bD*c.aR) l
def IK:Pt->List Pce->Pt
 |d,[]=>d
 |_,c::l=>IK c.aT l
theorem Tl (c:Pce):∀(a:Int) (l:List Pce),EK a (l++[c])=EK a l+c.aR
 |_,[]=>rfl
 |_,k::l=>Tl c _ l
theorem Tr (c:Pce):∀(s:Int) (l:List Pce),G3 s (l++[c])=G3 s l+c.bD*c.aR
 |_,[]=>rfl
 |_,k::l=>Tr c _ l
theorem Uc (c:Pce):∀(d:Pt) (l:List Pce),IK d (l++[c])=c.aT
 |_,[]=>rfl
 |_,k::l=>Uc c _ l
theorem T4 {x:Ax3} {mv:Int} {Q:Int->Pt->Prop} {c:Pce}:∀{at_ s:Int} {d:Pt} {l:List Pce},
  FD x mv Q at_ s d (l++[c])↔FD x mv Q at_ s d l/\c.at_=EK at_ l/\c.s=G3 s l/\1<=c.aR/\((c.bD=mv/\c.was=c.aT/\CY x (IK d l) c.aT=0/\∀k,0<=k->k<c.aR->Q (G3 s l+mv*k) c.aT)\/(c.bD=0/\c.was=IK d l/\c.aR=CY x (IK d l) c.aT))
 |at_,s,d,[]=>by
  simp only[ax,FD,EK,G3,IK,jh,true_and]
 |at_,s,d,k::l=>by
  simp only[ba,FD,EK,G3,IK];rw[T4];constructor
  ·rintro⟨D,G,I,L,M,N⟩;exact⟨⟨D,G,I,L,M⟩,N⟩
  ·rintro⟨⟨D,G,I,L,M⟩,N⟩;exact⟨D,G,I,L,M,N⟩
theorem Zhb {l:List Pce} (h:l≠[]) (v:Pce):l.set (l.length-1) v=l.dropLast++[v]:=by
 have e:=List.dropLast_concat_getLast h;have D:l.length-1=l.dropLast.length:=by rw[List.length_dropLast]
 conv=>lhs;arg 1;rw[<-e]
 rw[D,List.set_append_right _ _ (cm _),i9];rfl
theorem Zgt {l:List Pce} (h:l≠[]):l.dropLast++[Bf l]=l:=by
 have e:=List.dropLast_concat_getLast h;have I:0<l.length:=by
  cases l with
  |nil=>exact absurd rfl h
  |cons _ _=>simp
 have D:l.length-1<l.length:=by omega
 have G:Bf l=l.getLast h:=by
  unfold Bf;rw[ep,am D,Option.getD_some,List.getLast_eq_getElem]
 rw[G];exact e
structure TC (x : Ax3) (mv : Int) (Q : Int -> Pt -> Prop) (t : Trk) (s : Int) (d : Pt) : Prop where
 ch:FD x mv Q 0 t.aQ t.aT t.aE
 len:EK 0 t.aE=t.length
 s:G3 t.aQ t.aE=s
 d:IK t.aT t.aE=d
theorem Qla {x:Ax3} {s:Int} (hm:a≠0) (h:TC x a Q t s q) {c:Pce} (hs:c.s=s) (hu:1<=c.aR)
  (G:(c.bD=a/\c.was=c.aT/\CY x q c.aT=0/\∀k,0<=k->k<c.aR->Q (s+a*k) c.aT)\/(c.bD=0/\c.was=q/\c.aR=CY x q c.aT)):TC x a Q (FI t c) (s+c.bD*c.aR) c.aT:=by
 obtain⟨M,N,D,O⟩:=h;unfold FI;by_cases g:t.aE≠[]/\c.bD≠0/\(Bf t.aE).bD=c.bD/\(Bf t.aE).aT=c.aT
 ·rw[aa g];obtain⟨g1,g2,X,Y⟩:=g;have e:=Zgt g1;rw[Zhb g1];rw[<-e]at M N D O;rw[T4]at M;rw[Tl]at N;rw[Tr]at D;rw[Uc]at O;generalize t.aE.dropLast=I at*;generalize Bf t.aE=L at*;obtain⟨k0,k1,k2,k4,S⟩:=M
  replace G:=G.resolve_right λh=>g2 h.1
  replace S:=S.resolve_right λh=>g2 (X▸h.1)
  obtain⟨c1,c2,-,c3⟩:=G;obtain⟨q1,q2,q4,q3⟩:=S;refine⟨?_,?_,?_,?_⟩
  ·show FD x a Q 0 t.aQ t.aT (I++[_]);rw[T4];refine⟨k0,k1,k2,by simp only;omega, .inl ⟨q1,q2,q4,?_⟩⟩;intro k T U;simp only at U;by_cases V:k<L.aR
   ·exact q3 k T V
   ·have:=c3 (k-L.aR) (by omega) (by omega);rw[<-D,q1,<-Y]at this;have ea:G3 t.aQ I+a*L.aR+a*(k-L.aR)=G3 t.aQ I+a*k:=by rw[Int.mul_sub];omega
    rw[ea]at this;exact this
  ·show EK 0 (I++[_])=t.length+c.aR;rw[Tl];simp only;omega
  ·show G3 t.aQ (I++[_])=s+c.bD*c.aR;rw[Tr];simp only;rw[X]at D⊢;rw[Int.mul_add];omega
  ·show IK t.aT (I++[_])=c.aT;rw[Uc];exact Y
 ·rw[ab g];refine⟨?_,?_,?_,?_⟩
  ·show FD x a Q 0 t.aQ t.aT (t.aE++[_]);rw[T4];refine⟨M,N.symm,by rw[D];exact hs,hu,?_⟩;rw[D,O];exact G
  ·show EK 0 (t.aE++[_])=t.length+c.aR;rw[Tl,N]
  ·show G3 t.aQ (t.aE++[_])=s+c.bD*c.aR;rw[Tr,D]
  ·show IK t.aT (t.aE++[_])=c.aT;rw[Uc]
theorem Zkg (x:Ax3) (d:Pt):CY x d d=0:=by unfold CY slk;simp
theorem Qx1 {x:Ax3} {s aR:Int} {d a b:Pt} (G:v≠0) (N:∀w d,0<=CY x w d) (h:TC x v Q t s d) (I:1<=aR) (L:∀k,0<=k->k<aR->Q (s+v*k) (D6 d a b v)):
  TC x v Q (Ct x v a b s aR (t,d)).1 (s+v*aR) (D6 d a b v):=by
 unfold Ct;simp only;generalize D6 d a b v=D at*;by_cases c:CY x d D>0
 ·rw[aa c];have M:=Qla G h (c:=⟨0,CY x d D,s,0,d,D⟩) rfl (by simp only;omega) (.inr ⟨rfl,rfl,rfl⟩);simp only[Int.zero_mul,jk]at M;exact Qla G M (c:=⟨0,aR,s,v,D,D⟩) rfl I (.inl ⟨rfl,rfl,Zkg x D,L⟩)
 ·rw[ab c];have:=N d D;exact Qla G h (c:=⟨0,aR,s,v,D,D⟩) rfl I (.inl ⟨rfl,rfl,by simp only;omega,L⟩)
def Ko (l:List Sgm) (mv lo D:Int) (j:Nat):Int:=if mv<0 then min (max (Az l (l.length-j)) lo) D else min (max (Az l j) lo) D
def Qwa (p:Pth) (mv:Int) (Q:Int->Pt->Prop):Prop:=∀i,i<p.aF.length->∀(d:Pt) (s:Int),Az p.aF i<=s->s<=Az p.aF (i+1)->Az p.aF i<=s+mv->s+mv<=Az p.aF (i+1)->Q s (D6 d (EZ p.aQ p.aF i) (sgA p.aF i).to mv)
theorem Q9e {p:Pth} {x:Ax3} {mv lo hi f:Int} {d:Pt} {Q:Int->Pt->Prop} (S:mv=1\/mv= -1) (M:Ax3OK x) (T:SegOK p.aF) (N:0<=lo/\lo<=hi/\hi<=AW p.aF) (hf:(mv=1/\f=lo)\/(mv= -1/\f=hi)) (U:Qwa p mv Q):
  ∀j,j<=p.aF.length->TC x mv Q (Cz p x mv lo hi (⟨[],0,f,d⟩,d) j).1 (Ko p.aF mv lo hi j) (Cz p x mv lo hi (⟨[],0,f,d⟩,d) j).2
 |0,_=>by
  have X:Ko p.aF mv lo hi 0=f:=by
   unfold Ko;have:=Q9s p.aF;rcases hf with⟨rfl,rfl⟩|⟨rfl,rfl⟩
   ·rw[ab,TW];omega
   ·rw[aa,Nat.sub_zero,this];omega
  rw[X];exact⟨trivial,rfl,rfl,rfl⟩
 |j+1,hj=>by
  have G:=Q9e S M T N hf U (f:=f) (d:=d) j (by omega);have L:=XP mv (show j<p.aF.length by omega);have hg:=T.seg _ (H5 L);have O:=QB L;have V:=U _ L;rw[Cz];unfold IP;have D:(mv=1/\Ev p.aF.length mv j=j)\/(mv= -1/\Ev p.aF.length mv j=p.aF.length-1-j):=by
   unfold Ev;rcases S with rfl|rfl
   ·exact .inl ⟨rfl,ab⟩
   ·exact .inr ⟨rfl,aa⟩
  have I:Ko p.aF mv lo hi j=(if mv<0 then min (max (Az p.aF (Ev p.aF.length mv j+1)) lo) hi else min (max (Az p.aF (Ev p.aF.length mv j)) lo) hi)/\
    Ko p.aF mv lo hi (j+1)=(if mv<0 then min (max (Az p.aF (Ev p.aF.length mv j)) lo) hi else min (max (Az p.aF (Ev p.aF.length mv j+1)) lo) hi):=by
   unfold Ko;rcases D with⟨rfl,e⟩|⟨rfl,e⟩
   ·rw[e,ab,ab,ab,ab];exact⟨rfl,rfl⟩
   ·rw[e,aa,aa,aa,aa,show p.aF.length-1-j+1=p.aF.length-j by omega,show p.aF.length-(j+1)=p.aF.length-1-j by omega];exact⟨rfl,rfl⟩
  rw[I.1]at G;rw[I.2];generalize Ev p.aF.length mv j=i at*;generalize Cz p x mv lo hi (⟨[],0,f,d⟩,d) j=w at*;obtain⟨t,dn⟩:=w;simp only at G⊢;by_cases c:max (Az p.aF i) lo<min (Az p.aF (i+1)) hi
  ·rw[aa c];rcases D with⟨rfl,-⟩|⟨rfl,-⟩
   ·rw[ab]at G⊢;rw[ab];have e1:min (max (Az p.aF i) lo) hi=max (Az p.aF i) lo:=by omega
    rw[e1]at G;have:=Qx1 (a:=EZ p.aQ p.aF i) (b:=(sgA p.aF i).to) (aR:=min (Az p.aF (i+1)) hi-max (Az p.aF i) lo) (by omega) (λw d=>(TA M w d).1) G (by omega) (λk Y h1=>V dn _ (by omega) (by omega) (by omega) (by omega));have e2:max (Az p.aF i) lo+1*(min (Az p.aF (i+1)) hi-max (Az p.aF i) lo)=min (max (Az p.aF (i+1)) lo) hi:=by omega
    rw[e2]at this;exact this
   ·rw[aa]at G⊢;rw[aa];have e1:min (max (Az p.aF (i+1)) lo) hi=min (Az p.aF (i+1)) hi:=by omega
    rw[e1]at G;have:=Qx1 (a:=EZ p.aQ p.aF i) (b:=(sgA p.aF i).to) (aR:=min (Az p.aF (i+1)) hi-max (Az p.aF i) lo) (by omega) (λw d=>(TA M w d).1) G (by omega) (λk Y h1=>V dn _ (by omega) (by omega) (by omega) (by omega));have e2:min (Az p.aF (i+1)) hi+ -1*(min (Az p.aF (i+1)) hi-max (Az p.aF i) lo)=min (max (Az p.aF i) lo) hi:=by omega
    rw[e2]at this;exact this
  ·rw[ab c];have e:(if mv<0 then min (max (Az p.aF (i+1)) lo) hi else min (max (Az p.aF i) lo) hi)=(if mv<0 then min (max (Az p.aF i) lo) hi else min (max (Az p.aF (i+1)) lo) hi):=by
    split<;>omega
   rw[<-e];exact G
theorem Z6p {l:List Pce} (h:l≠[]):nth [] (l.map AG) (l.length-1)=AG (Bf l):=by
 have G:0<l.length:=by cases l with
  |nil=>exact absurd rfl h
  |cons _ _=>simp
 unfold Bf;have D:l.length-1<l.length:=by omega
 rw[Ja _ _ _ _ D,ep,am D,Option.getD_some]
theorem Zby:q=z↔q.x=z.x/\q.y=z.y/\q.z=z.z:=D0
theorem Z0u {c:Pce} {n m k:Int} (h:TB t n m) (hn:n<=10000000) (hm:m<=1000000000000000000) (hk:k<=1000000000000000000) (hc:0<=c.aR/\c.aR<=k):
  VH [.vC Ap (t.aE.map AG),I c.at_,I c.aR,I c.s,I c.bD,I c.was.x,I c.was.y,I c.was.z,I c.aT.x,I c.aT.y,I c.aT.z,I t.length,I t.aQ,I t.aT.x,I t.aT.y,I t.aT.z]=some (A0 (FI t c)):=by
 obtain⟨h1,h2,X⟩:=h;have U:V (t.length+c.aR)=t.length+c.aR:=Ae;have D:((t.aE.map AG++[[I t.length,I c.aR,I c.s,I c.bD,I c.was.x,I c.was.y,I c.was.z,I c.aT.x,I c.aT.y,I c.aT.z]]).length*80).ble 140737488355328=true:=by
  rw[Nat.ble_eq,ap,ag];simp only[bf,cv];omega
 have L:(t.aE.map AG++[[I t.length,I c.aR,I c.s,I c.bD,I c.was.x,I c.was.y,I c.was.z,I c.aT.x,I c.aT.y,I c.aT.z]]).length*80<=140737488355328:=az D;have G:some [AC.vC Ap (t.aE.map AG++[[I t.length,I c.aR,I c.s,I c.bD,I c.was.x,I c.was.y,I c.was.z,I c.aT.x,I c.aT.y,I c.aT.z]]),I (t.length+c.aR),I t.aQ,I t.aT.x,I t.aT.y,I t.aT.z]=
   some (A0 {t with aE:=t.aE++[{c with at_:=t.length}],length:=t.length+c.aR}):=by
  simp only[A0,bz,bc,dq]
 by_cases M:t.aE=[]
 ·have Y: ¬(t.aE≠[]/\c.bD≠0/\(Bf t.aE).bD=c.bD/\(Bf t.aE).aT=c.aT):=λg=>g.1 M;unfold FI;rw[ab Y,<-G];rw[Zbo,ag,A1 (by rw[M];simp),BG D,U]
 ·have hp:0<t.aE.length:=by
   cases hh:t.aE with
   |nil=>exact absurd hh M
   |cons _ _=>simp
  have e1:V ((t.aE.length:Int)-1)=((t.aE.length-1:Nat):Int):=by rw[Ae];omega
  have S:(0:Int)<=((t.aE.length-1:Nat):Int)/\((t.aE.length-1:Nat):Int)<(t.aE.length:Int):=by omega
  have hl:=X _ (Q3e M);have T:V ((Bf t.aE).aR+c.aR)=(Bf t.aE).aR+c.aR:=Ae;have N:some [AC.vC Ap ((t.aE.map AG).set (t.aE.length-1) [I (Bf t.aE).at_,I ((Bf t.aE).aR+c.aR),I (Bf t.aE).s,I (Bf t.aE).bD,I (Bf t.aE).was.x,I (Bf t.aE).was.y,I (Bf t.aE).was.z,I (Bf t.aE).aT.x,I (Bf t.aE).aT.y,I (Bf t.aE).aT.z]),I (t.length+c.aR),I t.aQ,I t.aT.x,I t.aT.y,I t.aT.z]=
   some (A0 {t with aE:=t.aE.set (t.aE.length-1) {Bf t.aE with aR:=(Bf t.aE).aR+c.aR},length:=t.length+c.aR}):=by
   simp only[A0,List.map_set]
  have hr:=Z6p M;have main : ∀ R, R = (if c.bD ≠ 0 then if (Bf t.aE).bD = c.bD then if (Bf t.aE).aT.x = c.aT.x /\ (Bf t.aE).aT.y = c.aT.y /\ (Bf t.aE).aT.z = c.aT.z then
    some (A0 {t with aE:=t.aE.set (t.aE.length-1) {Bf t.aE with aR:=(Bf t.aE).aR+c.aR},length:=t.length+c.aR})
    else some (A0 {t with aE:=t.aE++[{c with at_:=t.length}],length:=t.length+c.aR})else some (A0 {t with aE:=t.aE++[{c with at_:=t.length}],length:=t.length+c.aR})else some (A0 {t with aE:=t.aE++[{c with at_:=t.length}],length:=t.length+c.aR}))->R=some (A0 (FI t c)):=by
   intro R hR;rw[hR];unfold FI;by_cases g1:c.bD≠0
   ·by_cases g2:(Bf t.aE).bD=c.bD
    ·by_cases O:(Bf t.aE).aT.x=c.aT.x/\(Bf t.aE).aT.y=c.aT.y/\(Bf t.aE).aT.z=c.aT.z
     ·rw[aa g1,aa g2,aa O,aa ⟨M,g1,g2,Zby.2 O⟩]
     ·rw[aa g1,aa g2,ab O,ab λg=>O (Zby.1 g.2.2.2)]
    ·rw[aa g1,ab g2,ab λg=>g2 g.2.2.1]
   ·rw[ab g1,ab λg=>g1 g.2.1]
  refine main _ ?_;rw[<-G,<-N];rw[Zbo,ag,e1,al,hr];simp only[go_sem,U,T,aa S,aa L];rw[aa];simp only[jh]
theorem Zlh (x:Ax3) (w d:Pt):No (AI x++[I w.x,I w.y,I w.z,I d.x,I d.y,I d.z])=some [I (CY x w d)]:=by
 have he:=Zgi x.a.step x.a.aS x.a.bF x.a.bG x.a.low x.a.aY x.a.bB x.a.aV x.a.aO (x.a.aW.map As) x.b.step x.b.aS x.b.bF x.b.bG x.b.low x.b.aY x.b.bB x.b.aV x.b.aO (x.b.aW.map As) x.c.step x.c.aS x.c.bF x.c.bG x.c.low x.c.aY x.c.bB x.c.aV x.c.aO (x.c.aW.map As) w.x w.y w.z d.x d.y d.z;unfold No;refine db he ?_;unfold CY slk;simp only[go_sem,Og]
 (repeat' split)<;>first|rfl|(exfalso;omega)
theorem Yel (n a b:Pt) {mv:Int} (D:mv=1\/mv= -1):Oq [I n.x,I n.y,I n.z,I a.x,I a.y,I a.z,I b.x,I b.y,I b.z,I mv]=some (ptR (D6 n a b mv)):=by
 unfold Oq;rw[Zim];have e:V (0-mv)= -mv:=by rw[Ae];omega
 unfold D6 T9;simp only[go_sem,e]
 (repeat' split)<;>first|rfl|(exfalso;omega)
theorem R7 {n D:Int}:Fi [I n,I D]=some [I (B0 n D)]:=by
 unfold Fi;rw[Zto];simp only[Kq,Og];rfl
theorem Ze6 {x:Ax3} {s aR:Int} {now:Pt} {n m k:Int} (T:Ax3OK x) (h:TB t n m) (X:n<=9000000) (Y:m<=900000000000000000) (hk:k<=900000000000000000) (O:0<=aR/\aR<=k)
  (U:Z [I now.x,I now.y,I now.z,I q.x,I q.y,I q.z,I e.x,I e.y,I e.z,I v]=some (ptR (D6 now q e v))) (V:∀w d:Pt,M (AI x++[I w.x,I w.y,I w.z,I d.x,I d.y,I d.z])=some [I (CY x w d)])
  (N : ∀ {t : Trk} {c : Pce} {n m k : Int}, TB t n m -> n <= 10000000 -> m <= 1000000000000000000 -> k <= 1000000000000000000 -> (0 <= c.aR /\ c.aR <= k) ->
   W [.vC Ap (t.aE.map AG),I c.at_,I c.aR,I c.s,I c.bD,I c.was.x,I c.was.y,I c.was.z,I c.aT.x,I c.aT.y,I c.aT.z,I t.length,I t.aQ,I t.aT.x,I t.aT.y,I t.aT.z]=some (A0 (FI t c))):
  Qqx M Z W (.vC Ap (t.aE.map AG)::I q.x::I q.y::I q.z::I e.x::I e.y::I e.z::I s::I aR::I now.x::I now.y::I now.z::I v::(AI x++[I t.length,I t.aQ,I t.aT.x,I t.aT.y,I t.aT.z]))=
   some (.vC Ap ((Ct x v q e s aR (t, now)).1.aE.map AG) :: I (Ct x v q e s aR (t, now)).2.x :: I (Ct x v q e s aR (t, now)).2.y :: I (Ct x v q e s aR (t, now)).2.z :: I v :: (AI x ++
    [I (Ct x v q e s aR (t,now)).1.length,I (Ct x v q e s aR (t,now)).1.aQ,I (Ct x v q e s aR (t,now)).1.aT.x,I (Ct x v q e s aR (t,now)).1.aT.y,I (Ct x v q e s aR (t,now)).1.aT.z])):=by
 have he:=Z45 M Z W (t.aE.map AG) q.x q.y q.z e.x e.y e.z s aR now.x now.y now.z v x.a.step x.a.aS x.a.bF x.a.bG x.a.low x.a.aY x.a.bB x.a.aV x.a.aO (x.a.aW.map As) x.b.step x.b.aS x.b.bF x.b.bG x.b.low x.b.aY x.b.bB x.b.aV x.b.aO (x.b.aW.map As) x.c.step x.c.aS x.c.bF x.c.bG x.c.low x.c.aY x.c.bB x.c.aV x.c.aO (x.c.aW.map As) t.length t.aQ t.aT.x t.aT.y t.aT.z;refine db he ?_;have hs:=TA T now (D6 now q e v);have G:=V now (D6 now q e v);simp only[AI,ba,ax]at G⊢;unfold Ct;simp only;generalize D6 now q e v=D at*;simp only[U,go_sem,G];by_cases c:CY x now D>0
 ·have S:=N (c:=⟨0,CY x now D,s,0,now,D⟩) h (by omega) (by omega) (k:=1000) (by omega) (by simp only;omega);have hb:=Qr8 (k:=1000) h (c:=⟨0,CY x now D,s,0,now,D⟩) (by simp only;omega);have L:=N (c:=⟨0,aR,s,v,D,D⟩) hb (by omega) (by omega) (k:=k) (by omega) O;simp only at S L;rw[aa c,aa c];simp only[S,A0,go_sem,L]
 ·have L:=N (c:=⟨0,aR,s,v,D,D⟩) h (by omega) (by omega) (k:=k) (by omega) O;simp only at L;rw[ab c,ab c];simp only[L,A0,go_sem]
theorem Zyd {x:Ax3} {s aR:Int} {now:Pt} {n m k:Int} (D:v=1\/v= -1) (G:Ax3OK x) (h:TB t n m) (L:n<=9000000) (M:m<=900000000000000000) (N:k<=900000000000000000) (O:0<=aR/\aR<=k):
  FJ (.vC Ap (t.aE.map AG)::I q.x::I q.y::I q.z::I e.x::I e.y::I e.z::I s::I aR::I now.x::I now.y::I now.z::I v::(AI x++[I t.length,I t.aQ,I t.aT.x,I t.aT.y,I t.aT.z]))=
   some (.vC Ap ((Ct x v q e s aR (t, now)).1.aE.map AG) :: I (Ct x v q e s aR (t, now)).2.x :: I (Ct x v q e s aR (t, now)).2.y :: I (Ct x v q e s aR (t, now)).2.z :: I v :: (AI x ++
    [I (Ct x v q e s aR (t,now)).1.length,I (Ct x v q e s aR (t,now)).1.aQ,I (Ct x v q e s aR (t,now)).1.aT.x,I (Ct x v q e s aR (t,now)).1.aT.y,I (Ct x v q e s aR (t,now)).1.aT.z])):=
 Ze6 G h L M N O (Yel now q e D) (Zlh x) λS T U V X=>Z0u S T U V X
def Ff (l:List Sgm) (j:Nat):Rw:=(List.range j).map λi=>[I (Az l i)]
theorem S6 (l:List Sgm) (j:Nat):(Ff l j).length=j:=by simp[Ff]
theorem Zn2 (l:List Sgm) (j:Nat):Ff l (j+1)=Ff l j++[[I (Az l j)]]:=by unfold Ff;rw[List.range_succ,bz];rfl
theorem Z98 {l:List Sgm} {n i:Nat} (h:i<n):nth [] (Ff l n) i=[I (Az l i)]:=by
 have D:i<(Ff l n).length:=by rw[S6];exact h
 rw[Gb [] _ i D];simp[Ff]
abbrev Rg (p:Pth) (x:Ax3) (lo D mv:Int) (t:Trk) (now:Pt) (at_:Int) (G:Rw) (j:Nat):List AC:=
 [.vC Aa G, .vC Ap (t.aE.map AG),I lo,I D,I mv,I at_, .vC Ag (p.aF.map Aw),I p.aF.length,I j,I p.aQ.x,I p.aQ.y,I p.aQ.z, .vC Ag (p.aF.map Aw), .vC AD (p.aD.map At),I now.x,I now.y,I now.z,I mv,I x.a.step,I x.a.aS,I x.a.bF,I x.a.bG,I x.a.low,I x.a.aY,I x.a.bB,I x.a.aV,I x.a.aO, .vC Aa (x.a.aW.map As),I x.b.step,I x.b.aS,I x.b.bF,I x.b.bG,I x.b.low,I x.b.aY,I x.b.bB,I x.b.aV,I x.b.aO, .vC Aa (x.b.aW.map As),I x.c.step,I x.c.aS,I x.c.bF,I x.c.bG,I x.c.low,I x.c.aY,I x.c.bB,I x.c.aV,I x.c.aO, .vC Aa (x.c.aW.map As),I t.length,I t.aQ,I t.aT.x,I t.aT.y,I t.aT.z]
theorem Q44 {M:Fn} {p:Pth} {x:Ax3} {lo hi mv:Int} {t:Trk} {now:Pt} (h:SegOK p.aF):∀(k j:Nat),j+k=p.aF.length->
  Am (UO M) (Rg p x lo hi mv t now (Az p.aF j) (Ff p.aF j) j)=some (1,[.vC Aa (Ff p.aF p.aF.length), .vC Ap (t.aE.map AG),I lo,I hi,I mv,I p.aQ.x,I p.aQ.y,I p.aQ.z, .vC Ag (p.aF.map Aw), .vC AD (p.aD.map At),I now.x,I now.y,I now.z,I mv,I x.a.step,I x.a.aS,I x.a.bF,I x.a.bG,I x.a.low,I x.a.aY,I x.a.bB,I x.a.aV,I x.a.aO, .vC Aa (x.a.aW.map As),I x.b.step,I x.b.aS,I x.b.bF,I x.b.bG,I x.b.low,I x.b.aY,I x.b.bB,I x.b.aV,I x.b.aO, .vC Aa (x.b.aW.map As),I x.c.step,I x.c.aS,I x.c.bF,I x.c.bG,I x.c.low,I x.c.aY,I x.c.bB,I x.c.aV,I x.c.aO, .vC Aa (x.c.aW.map As),I t.length,I t.aQ,I t.aT.x,I t.aT.y,I t.aT.z])
 |0,j,S=>by
  have G:j=p.aF.length:=by omega
  refine AQ (o:=(1,_)) ?_ (by simp);rw[Q01,A1 (by omega),G]
 |k+1,j,S=>by
  have D:j<p.aF.length:=by omega
  have N:=h.count;have O:=Ql1 h j (by omega);have T:=h.seg _ (H5 D);have L:UO M (Rg p x lo hi mv t now (Az p.aF j) (Ff p.aF j) j)=some (0,Rg p x lo hi mv t now (Az p.aF (j+1)) (Ff p.aF (j+1)) (j+1)):=by
   have hle:(Ff p.aF j++[[I (Az p.aF j)]]).length*8<=140737488355328:=by rw[ap,S6];simp only[bf,cv];omega
   have e1:V ((j:Int)+1)=((j+1:Nat):Int):=by rw[Ae];omega
   rw[Q01];simp only[go_sem,ag,al,Ld D,aa hle,e1,Zn2];rw[aa,aa,Ae (x:=Az p.aF j+(sgA p.aF j).len),QB D]
  rw[A5 L];exact Q44 h k (j+1) (by omega)
abbrev PK (p:Pth) (x:Ax3) (lo D mv:Int) (t:Trk) (now:Pt) (j:Nat):List AC:=
 [.vC Aa (Ff p.aF p.aF.length), .vC Ap (t.aE.map AG),I lo,I D,I mv,I p.aF.length,I j,I p.aQ.x,I p.aQ.y,I p.aQ.z, .vC Ag (p.aF.map Aw), .vC AD (p.aD.map At),I now.x,I now.y,I now.z,I mv,I x.a.step,I x.a.aS,I x.a.bF,I x.a.bG,I x.a.low,I x.a.aY,I x.a.bB,I x.a.aV,I x.a.aO, .vC Aa (x.a.aW.map As),I x.b.step,I x.b.aS,I x.b.bF,I x.b.bG,I x.b.low,I x.b.aY,I x.b.bB,I x.b.aV,I x.b.aO, .vC Aa (x.b.aW.map As),I x.c.step,I x.c.aS,I x.c.bF,I x.c.bG,I x.c.low,I x.c.aY,I x.c.bB,I x.c.aV,I x.c.aO, .vC Aa (x.c.aW.map As),I t.length,I t.aQ,I t.aT.x,I t.aT.y,I t.aT.z]
abbrev FQ (x:Ax3) (mv:Int) (t:Trk) (now:Pt):List AC:=[.vC Ap (t.aE.map AG),I now.x,I now.y,I now.z,I mv,I x.a.step,I x.a.aS,I x.a.bF,I x.a.bG,I x.a.low,I x.a.aY,I x.a.bB,I x.a.aV,I x.a.aO, .vC Aa (x.a.aW.map As),I x.b.step,I x.b.aS,I x.b.bF,I x.b.bG,I x.b.low,I x.b.aY,I x.b.bB,I x.b.aV,I x.b.aO, .vC Aa (x.b.aW.map As),I x.c.step,I x.c.aS,I x.c.bF,I x.c.bG,I x.c.low,I x.c.aY,I x.c.bB,I x.c.aV,I x.c.aO, .vC Aa (x.c.aW.map As),I t.length,I t.aQ,I t.aT.x,I t.aT.y,I t.aT.z]
theorem Z2f {MV:Fn} {x:Ax3} {lo hi mv:Int} {now:Pt} {n m:Int} {j:Nat} (hv:mv=1\/mv= -1) (hp:GoodPath p) (hx:Ax3OK x) (h:TB t n m) (hn:n<=9000000) (hm:m<=900000000000000000)
  (hj:j<p.aF.length)
  (hV:∀{a b:Pt} {s aR:Int},(0<=aR/\aR<=268435456)->MV [.vC Ap (t.aE.map AG),I a.x,I a.y,I a.z,I b.x,I b.y,I b.z,I s,I aR,I now.x,I now.y,I now.z,I mv,I x.a.step,I x.a.aS,I x.a.bF,I x.a.bG,I x.a.low,I x.a.aY,I x.a.bB,I x.a.aV,I x.a.aO, .vC Aa (x.a.aW.map As),I x.b.step,I x.b.aS,I x.b.bF,I x.b.bG,I x.b.low,I x.b.aY,I x.b.bB,I x.b.aV,I x.b.aO, .vC Aa (x.b.aW.map As),I x.c.step,I x.c.aS,I x.c.bF,I x.c.bG,I x.c.low,I x.c.aY,I x.c.bB,I x.c.aV,I x.c.aO, .vC Aa (x.c.aW.map As),I t.length,I t.aQ,I t.aT.x,I t.aT.y,I t.aT.z]=some (FQ x mv (Ct x mv a b s aR (t,now)).1 (Ct x mv a b s aR (t,now)).2)):
  Vc MV N (PK p x lo hi mv t now j)=some (0,PK p x lo hi mv (IP p x mv lo hi (Ev p.aF.length mv j) (t,now)).1 (IP p x mv lo hi (Ev p.aF.length mv j) (t,now)).2 (j+1)):=by
 have S:=hp.ok;have a1:=S.count;have M:=XP mv hj;have G:(mv=1/\Ev p.aF.length mv j=j)\/(mv= -1/\Ev p.aF.length mv j=p.aF.length-1-j):=by
  unfold Ev;rcases hv with rfl|rfl
  ·exact .inl ⟨rfl,ab⟩
  ·exact .inr ⟨rfl,aa⟩
 obtain⟨i,a0⟩:∃i,Ev p.aF.length mv j=i:=⟨_,rfl⟩;rw[a0]at M G⊢;have L:i<p.aF.length:=M;have hg:=S.seg _ (H5 L);have hr:=Ld L;have hb:=Z98 (l:=p.aF) L;have a2:=Ql1 S i (by omega);have T:=QB L;have U:(0:Int)<=(i:Nat)/\(i:Int)<(p.aF.length:Int):=by omega
 have O:(j:Int)<(p.aF.length:Int):=by omega
 have e1:V ((j:Int)+1)=((j+1:Nat):Int):=by rw[Ae];omega
 have hI:V (V ((p.aF.length:Int)-1)-(j:Int))=((p.aF.length-1-j:Nat):Int):=by rw[Ae (x:=(p.aF.length:Int)-1),Ae];omega
 have hw:V (Az p.aF i+(sgA p.aF i).len)=Az p.aF (i+1):=by rw[T,Ae]
 have X:max (Az p.aF i) lo<min (Az p.aF (i+1)) hi->V (min (Az p.aF (i+1)) hi-max (Az p.aF i) lo)=min (Az p.aF (i+1)) hi-max (Az p.aF i) lo:=λ_=>Ae;have hd:max (Az p.aF i) lo<min (Az p.aF (i+1)) hi->0<=min (Az p.aF (i+1)) hi-max (Az p.aF i) lo/\min (Az p.aF (i+1)) hi-max (Az p.aF i) lo<=268435456:=λ_=>by omega
 have Y:i≠0->V ((i:Int)-1)=((i-1:Nat):Int)/\((0:Int)<=((i-1:Nat):Int)/\((i-1:Nat):Int)<(p.aF.length:Int))/\nth [] (p.aF.map Aw) (i-1)=Aw (sgA p.aF (i-1))/\EZ p.aQ p.aF i=(sgA p.aF (i-1)).to:=by
  intro h0;refine⟨by rw[Ae];omega,by omega,Ld (by omega),?_⟩;obtain⟨q,rfl⟩:∃q,i=q+1:=⟨i-1,by omega⟩;exact TM (by omega)
 unfold IP;rw[Q94];rcases G with⟨rfl,rfl⟩|⟨rfl,ei⟩
 ·simp only[go_sem,ag,S6,al,hr,hb,aa U,aa O,Og,Kq,hw,e1];rw[ab];by_cases c:max (Az p.aF i) lo<min (Az p.aF (i+1)) hi
  ·rw[ab,aa c,X c];by_cases c0:i=0
   ·rw[ab];have D:=hV (a:=p.aQ) (b:=(sgA p.aF i).to) (s:=max (Az p.aF i) lo) (hd c);subst c0;rw[J3];rw[ab,D];simp only[FQ,go_sem];rfl
   ·obtain⟨k1,k2,k3,k4⟩:=Y c0;rw[aa,k1];have D:=hV (a:=(sgA p.aF (i-1)).to) (b:=(sgA p.aF i).to) (s:=max (Az p.aF i) lo) (hd c);rw[k4];simp only[al,k3,go_sem,aa k2];rw[ab,D];simp only[FQ,go_sem];rfl
  ·rw[aa,ab c]
 ·rw[<-ei]at hI;simp only[go_sem,ag,S6,hI,al,hr,hb,aa U,aa O,Og,Kq,hw,e1];rw[aa];by_cases c:max (Az p.aF i) lo<min (Az p.aF (i+1)) hi
  ·rw[ab,aa c,X c];by_cases c0:i=0
   ·rw[ab];have D:=hV (a:=p.aQ) (b:=(sgA p.aF i).to) (s:=min (Az p.aF (i+1)) hi) (hd c);subst c0;rw[J3];rw[aa,D];simp only[FQ,go_sem];rfl
   ·obtain⟨k1,k2,k3,k4⟩:=Y c0;rw[aa,k1];have D:=hV (a:=(sgA p.aF (i-1)).to) (b:=(sgA p.aF i).to) (s:=min (Az p.aF (i+1)) hi) (hd c);rw[k4];simp only[al,k3,go_sem,aa k2];rw[aa,D];simp only[FQ,go_sem];rfl
  ·rw[aa,ab c]
def pcA (l:List Pce) (i:Nat):Pce:=l.getD i pc0
def eI (l:List Pce) (i:Nat):Int:=(pcA l i).at_+(pcA l i).aR
def fI:List Pce->Int->Nat
 |[],_=>0
 |c::l,u=>if u<=c.at_+c.aR then 0 else fI l u+1
theorem Ij (c:Pce) (l:List Pce) (i:Nat):pcA (c::l) (i+1)=pcA l i:=by unfold pcA;simp
theorem Lf (c:Pce) (l:List Pce):pcA (c::l) 0=c:=by unfold pcA;simp
theorem Om {l:List Pce} (h:i<l.length):nth [] (l.map AG) i=AG (pcA l i):=by
 have e:pcA l i=l[i]:=by unfold pcA;simp[h]
 rw[e];exact Ja _ _ _ _ h
theorem UJ:∀{l:List Pce} {u:Int} {j:Nat},j<l.length->u<=eI l j->fI l u<=j
 |c::l,u,0,_,h=>by
  unfold eI at h;rw[Lf]at h;unfold fI;rw[aa h];exact cm _
 |c::l,u,j+1,G,h=>by
  unfold fI;by_cases D:u<=c.at_+c.aR
  ·rw[aa D];omega
  ·rw[ab D];have:fI l u<=j:=UJ (by simpa using G) (by unfold eI at h⊢;rw[Ij]at h;exact h);omega
theorem Q5v:∀{l:List Pce} {u:Int},fI l u<l.length->u<=eI l (fI l u)
 |[],_,h=>by simp at h
 |c::l,u,h=>by
  unfold fI at h⊢;by_cases D:u<=c.at_+c.aR
  ·rw[aa D];unfold eI;rw[Lf];exact D
  ·rw[ab D]at h⊢;have:=Q5v (l:=l) (u:=u) (by simpa using h);unfold eI at this⊢;rw[Ij];exact this
structure TQ (t : Trk) : Prop where
 count:t.aE.length<=10000000
 len:0<=t.length/\t.length<=900000000000000
 pos:∀i,i<t.aE.length->0<=(pcA t.aE i).at_/\1<=(pcA t.aE i).aR/\eI t.aE i<=t.length
 mono:∀i j,i<=j->j<t.aE.length->eI t.aE i<=eI t.aE j
 last:t.aE≠[]->eI t.aE (t.aE.length-1)=t.length
 aQ:0<=t.aQ/\t.aQ<=263886834032640
 s:∀i,i<t.aE.length-> -900000000000000<=(pcA t.aE i).s/\(pcA t.aE i).s<=2000000000000000
 bD:∀i,i<t.aE.length->(pcA t.aE i).bD=0\/(pcA t.aE i).bD=1\/(pcA t.aE i).bD= -1
def clT (t:Trk) (u:Int):Int:=B0 u t.length
theorem Re (h:TQ t) (u:Int):0<=clT t u/\clT t u<=t.length:=by have:=h.len;unfold clT B0;omega
def iT (t:Trk) (u:Int):Nat:=fI t.aE (clT t u)
theorem Mj (h:TQ t) (u:Int) (D:t.aE≠[]):iT t u<t.aE.length:=by
 have I:0<t.aE.length:=by
  cases G:t.aE with
  |nil=>exact absurd G D
  |cons _ _=>simp
 have:=UJ (l:=t.aE) (u:=clT t u) (j:=t.aE.length-1) (by omega) (by rw[h.last D];exact(Re h u).2);unfold iT;omega
def BJ (t:Trk) (u:Int):Int:=if t.aE=[]then t.aQ else(pcA t.aE (iT t u)).s+(pcA t.aE (iT t u)).bD*(clT t u-(pcA t.aE (iT t u)).at_)
def IS (t:Trk) (u:Int):Prop:=t.aE≠[]/\(pcA t.aE (iT t u)).bD=0/\(pcA t.aE (iT t u)).at_<clT t u/\clT t u<eI t.aE (iT t u)
theorem Qap {t:Trk} (h:TQ t) {u:Int} (D:fI t.aE u<t.aE.length):∀(k lo D:Nat),D-lo<=k->lo<=fI t.aE u->fI t.aE u<=D->D<t.aE.length->
  Am S1 [I u,I lo,I D, .vC Ap (t.aE.map AG),I t.length,I t.aQ,I t.aT.x,I t.aT.y,I t.aT.z]=some (1,[I (fI t.aE u)])
 |k,lo,D,hk,T,U,X=>by
  have S:=h.count;have hl:=h.len;by_cases c:lo<D
  ·have em:V ((V ((lo:Int)+D)).tdiv 2)=(((lo+D)/2:Nat):Int):=by
    rw[Ae (x:=(lo:Int)+D),bq (by omega),Ae];omega
   have Y:lo<=(lo+D)/2/\(lo+D)/2<D:=by omega
   generalize(lo+D)/2=m at*;have G:m<t.aE.length:=by omega
   have M:=h.pos m G;have O:(0:Int)<=(m:Int)/\(m:Int)<(t.aE.length:Int):=by omega
   have hw:V ((pcA t.aE m).at_+(pcA t.aE m).aR)=eI t.aE m:=by unfold eI at M⊢;exact Ae
   have L:S1 [I u,I lo,I D, .vC Ap (t.aE.map AG),I t.length,I t.aQ,I t.aT.x,I t.aT.y,I t.aT.z]=if u<=eI t.aE m then some (0,[I u,I lo,I m, .vC Ap (t.aE.map AG),I t.length,I t.aQ,I t.aT.x,I t.aT.y,I t.aT.z])else some (0,[I u,I (m+1:Nat),I D, .vC Ap (t.aE.map AG),I t.length,I t.aQ,I t.aT.x,I t.aT.y,I t.aT.z]):=by
    rw[Qeu,em];simp only[go_sem,ag,al,Om G,aa O,hw,Ae (x:=(m:Int)+1)];rw[aa];rfl
   by_cases N:u<=eI t.aE m
   ·rw[aa N]at L;rw[A5 L];cases k with
    |zero=>omega
    |succ k=>exact Qap h (by omega) k lo m (by omega) T (UJ G N) G
   ·rw[ab N]at L;rw[A5 L];have a0:m<fI t.aE u:=by
     by_cases c3:fI t.aE u<=m
     ·exact absurd (Int.le_trans (Q5v (by omega)) (h.mono _ _ c3 G)) N
     ·omega
    cases k with
    |zero=>omega
    |succ k=>exact Qap h (by omega) k (m+1) D (by omega) (by omega) U X
  ·refine AQ (o:=(1,_)) ?_ (by simp);rw[Qeu,A1 (by omega),show fI t.aE u=D by omega]
theorem Qa8 (h:TQ t) (u:Int):GM (A0 t++[I (clT t u)])=some [I (if t.aE=[]then-1 else(iT t u:Int))]:=by
 have he:=Yco Mr (t.aE.map AG) t.length t.aQ t.aT.x t.aT.y t.aT.z (clT t u);unfold GM;refine db he ?_;rw[ag];have L:=h.count;by_cases c:t.aE=[]
 ·have D:Mr [I (clT t u),I 0,I (-1), .vC Ap (t.aE.map AG),I t.length,I t.aQ,I t.aT.x,I t.aT.y,I t.aT.z]=some (1,[I (-1)]):=by
   refine AQ (o:=(1,_)) ?_ (by simp);rw[Qeu,A1 (by omega)]
  have e1:V ((t.aE.length:Int)-1)= -1:=by rw[c];rfl
  rw[aa c,e1];generalize Mr=N at*;simp only[D,go_sem]
 ·have S:0<t.aE.length:=by
   cases O:t.aE with
   |nil=>exact absurd O c
   |cons _ _=>simp
  have M:=Mj h u c;have D:=Qap h (u:=clT t u) M t.aE.length 0 (t.aE.length-1) (by omega) (by omega) (by unfold iT at M;omega) (by omega);have G:Mr [I (clT t u),I 0,I (t.aE.length-1:Nat), .vC Ap (t.aE.map AG),I t.length,I t.aQ,I t.aT.x,I t.aT.y,I t.aT.z]=some (1,[I (iT t u:Int)]):=D;have e1:V ((t.aE.length:Int)-1)=((t.aE.length-1:Nat):Int):=by rw[Ae];omega
  rw[ab c,e1];generalize Mr=N at*;simp only[G,go_sem]
theorem Zw3 (h:TQ t) (u:Int) (D:t.aE≠[]):
  V ((pcA t.aE (iT t u)).s+V ((pcA t.aE (iT t u)).bD*V (clT t u-(pcA t.aE (iT t u)).at_)))=BJ t u:=by
 have I:=Mj h u D;have L:=h.pos _ I;have M:=h.s _ I;have G:=h.bD _ I;have N:=Re h u;have O:=h.len;unfold BJ eI at*;rw[ab D,Ae (x:=clT t u-_)];generalize pcA t.aE (iT t u)=c at*;have hb:(-900000000000000<=c.bD*(clT t u-c.at_)/\c.bD*(clT t u-c.at_)<=900000000000000):=by
  rcases G with G|G|G<;>rw[G]<;>omega
 rw[Ae (x:=c.bD*_),Ae]
theorem Zg2 (h:TQ t) {u:Int} (L:Z [I u,I t.length]=some [I (clT t u)]) (D:M (A0 t++[I (clT t u)])=some [I (if t.aE=[]then-1 else(iT t u:Int))]):Qnp M Z (A0 t++[I u])=some [I (BJ t u)]:=by
 have he:=Zu7 M Z (t.aE.map AG) t.length t.aQ t.aT.x t.aT.y t.aT.z u;refine db he ?_;simp only[A0,ba,ax]at D;by_cases c:t.aE=[]
 ·rw[aa c]at D;simp only[L,D,go_sem];rw[aa];unfold BJ;rw[aa c]
 ·have O:=Mj h u c;have N:=h.count;have G:(0:Int)<=(iT t u:Int)/\(iT t u:Int)<(t.aE.length:Int):=by omega
  rw[ab c]at D;simp only[L,D,go_sem,ag,aa G,al,Om O,Zw3 h u c];rw[ab]
theorem RY (h:TQ t) (u:Int):DQ (A0 t++[I u])=some [I (BJ t u)]:=Zg2 h R7 (Qa8 h u)
theorem Z5u (h:TQ t) {u:Int} (T:Z [I u,I t.length]=some [I (clT t u)]) (D:M (A0 t++[I (clT t u)])=some [I (if t.aE=[]then-1 else(iT t u:Int))]):Qfc M Z (A0 t++[I u])=some [B (decide (IS t u))]:=by
 have he:=Zrw M Z (t.aE.map AG) t.length t.aQ t.aT.x t.aT.y t.aT.z u;refine db he ?_;simp only[A0,ba,ax]at D;by_cases c:t.aE=[]
 ·rw[aa c]at D;simp only[T,D,go_sem];rw[aa,aj λg=>g.1 c]
 ·have U:=Mj h u c;have X:=h.count;have G:=h.pos _ U;have hl:=h.len;have S:(0:Int)<=(iT t u:Int)/\(iT t u:Int)<(t.aE.length:Int):=by omega
  have Y:V ((pcA t.aE (iT t u)).at_+(pcA t.aE (iT t u)).aR)=eI t.aE (iT t u):=by unfold eI at G⊢;exact Ae
  rw[ab c]at D;simp only[T,D,go_sem,ag,aa S,al,Om U,Y];rw[ab];by_cases L:(pcA t.aE (iT t u)).bD=0
  ·by_cases N:(pcA t.aE (iT t u)).at_<clT t u
   ·rw[aa L,aa N];by_cases O:clT t u<eI t.aE (iT t u)
    ·rw[ai O,ai (show IS t u from⟨c,L,N,O⟩)]
    ·rw[aj O,aj (show¬IS t u from λg=>O g.2.2.2)]
   ·rw[aa L,ab N,aj (show¬IS t u from λg=>N g.2.2.1)]
  ·rw[ab L,aj (show¬IS t u from λg=>L g.2.1)]
theorem Zxe (h:TQ t) (u:Int):Qy (A0 t++[I u])=some [B (decide (IS t u))]:=Z5u h R7 (Qa8 h u)
def H7 (D:Int) (l:List Int):Prop:=(∀v∈l,-4096<=v/\v<=4096)/\∀i,i+1<l.length-> -D<=4*(l.getD (i+1) 0-l.getD i 0)/\4*(l.getD (i+1) 0-l.getD i 0)<=D
structure AxOK (a : Axs) : Prop where
 step:4<=a.step/\a.step<=64
 bB:0<=a.bB/\a.bB<=6
 aV: -200<=a.aV/\a.aV<=200
 aO:a.aW≠[]->4<=a.aO/\a.aO<=123
 aW:H7 a.aO a.aW
 count:a.aW.length<=4
 lim:1<=a.aS/\a.aS<=1000/\2<=a.bF/\a.bF<=1000/\4<=a.bG/\a.bG<=1000/\a.low= -16777216/\a.aY=16777216
theorem SG {l m:List Int} (h:i<l.length):(l++m).getD i 0=l.getD i 0:=by simp[ep,j0 h]
theorem Zp9 (l m:List Int) (v:Int):(l++v::m).getD l.length 0=v:=by simp[ep]
theorem Z06 {G v w:Int} {l:List Int} (h:H7 G (l++[v])) (I: -4096<=w/\w<=4096) (L: -G<=4*(w-v)/\4*(w-v)<=G):H7 G (l++[v]++[w]):=by
 refine⟨?_,?_⟩
 ·intro x D;rcases bj.1 D with D|D
  ·exact h.1 x D
  ·rw[dg]at D;subst D;exact I
 ·intro i M;simp only[ap,bf,cv]at M;by_cases c:i+1<(l++[v]).length
  ·have:=h.2 i c;have c':i<(l++[v]).length:=by omega
   rw[SG c,SG c'];exact this
  ·simp only[ap,bf,cv]at c;have e:i=l.length:=by omega
   subst e;have g1:(l++[v]++[w]).getD (l.length+1) 0=w:=by
    simp
   have g2:(l++[v]++[w]).getD l.length 0=v:=by
    rw[f7];exact Zp9 l ([]++[w]) v
   rw[g1,g2];exact L
theorem Z20 {l:List Int} (h:H7 a (l++[v])):H7 a l:=by
 refine⟨λx D=>h.1 x (by simp[D]),λi G=> ?_⟩;have:=h.2 i (by simp;omega);rw[SG G,SG (by omega)]at this;exact this
theorem Zsv (G: -4096<=v/\v<=4096):H7 a ([]++[v]):=⟨λx D=>by simp at D;subst D;exact G,λi I=>by simp at I⟩
theorem Z6t (h:0<=v/\v<6):∃x,Af (nth .vD (nth [] [[I 8],[I 4],[I 5],[I 16],[I 23],[I 64]] v.toNat) 0)=x/\4<=x/\x<=64:=by
 have D:v=0\/v=1\/v=2\/v=3\/v=4\/v=5:=by omega
 rcases D with rfl|rfl|rfl|rfl|rfl|rfl<;>exact⟨_,rfl,by decide⟩
theorem Qn8 (h:0<=v/\v<5):∃x y z,Af (nth .vD (nth [] [[I 40],[I 1],[I 3],[I 9],[I 1000]] v.toNat) 0)=x/\Af (nth .vD (nth [] [[I 20],[I 2],[I 3],[I 5],[I 1000]] v.toNat) 0)=y/\Af (nth .vD (nth [] [[I 30],[I 4],[I 5],[I 8],[I 1000]] v.toNat) 0)=z/\1<=x/\x<=1000/\2<=y/\y<=1000/\4<=z/\z<=1000:=by
 have D:v=0\/v=1\/v=2\/v=3\/v=4:=by omega
 rcases D with rfl|rfl|rfl|rfl|rfl<;>exact⟨_,_,_,rfl,rfl,rfl,by decide⟩
theorem Zx7 (h:0<=v/\v<4):∃x,Af (nth .vD (nth [] [[I 0],[I 1],[I 3],[I 6]] v.toNat) 0)=x/\0<=x/\x<=6:=by
 have D:v=0\/v=1\/v=2\/v=3:=by omega
 rcases D with rfl|rfl|rfl|rfl<;>exact⟨_,rfl,by decide⟩
abbrev axS (l:Rw) (D:List Int) (n v:Int) (j:Nat) (a:Axs) (k:Nat):List AC:=
 [.vC Aa [], .vC Aa (D.map As),I n,I v,I j,I 0,I 0,I 0,I 0,I 0,I 0,I 0,I 0,I 0,I a.step,I a.aS,I a.bF,I a.bG,I a.low,I a.aY,I a.bB,I a.aV,I a.aO, .vC Aa l,I k]
theorem Zeh {MN:Fn} {l:Rw} (N:GN l MN) {a:Axs} (L:4<=a.aO/\a.aO<=123):∀(r j:Nat) (D:List Int) (v:Int) (k:Nat),j+r<=4->D.length=j->H7 a.aO (D++[v])->
  ∃(G:List Int) (k':Nat),Am (Sl MN) (axS l D (j+r:Nat) v j a k)=some (1,[.vC Aa [], .vC Aa (G.map As),I 0,I 0,I 0,I 0,I 0,I 0,I 0,I 0,I 0,I a.step,I a.aS,I a.bF,I a.bG,I a.low,I a.aY,I a.bB,I a.aV,I a.aO, .vC Aa l,I k'])/\G.length=j+r/\H7 a.aO G
 |0,j,D,v,k,_,O,h=>by
  refine⟨D,k,AQ (o:=(1,_)) ?_ (by simp),by omega,Z20 h⟩;rw[Q8m,A1 (by omega)]
 |r+1,j,D,v,k,hj,O,h=>by
  have hv:=h.1 v (by simp);have T:V (a.aO.tdiv 4)=a.aO/4:=by rw[bq (by omega),Ae]
  have U:V (V (2*(a.aO/4))+1)=2*(a.aO/4)+1:=by rw[Ae (x:=2*(a.aO/4)),Ae]
  obtain⟨w,S,X,w0,w1,-⟩:=N k (n:=2*(a.aO/4)+1) (by omega);have Y:V (V (v+w)-a.aO/4)=v+w-a.aO/4:=by rw[Ae (x:=v+w),Ae]
  have hle:(D.map As++[[I v]]).length*8<=140737488355328:=by rw[ap,ag];simp only[bf,cv];omega
  have M:Sl MN (axS l D (j+(r+1):Nat) v j a k)=some (0,axS l (D++[v]) (j+1+r:Nat) (min (max (v+w-a.aO/4) (-4096)) 4096) (j+1) a S):=by
   rw[Q8m];simp only[go_sem,aa hle,T,U,X,Y,Kq,Og];rw[aa,Ae (x:=(j:Int)+1),show j+(r+1)=j+1+r by omega];simp only[axS,bz,bc,dq,As,gx,ik]
  rw[A5 M];obtain⟨p',k',h1,h2,h3⟩:=Zeh N L r (j+1) (D++[v]) (min (max (v+w-a.aO/4) (-4096)) 4096) S (by omega) (by simp[O]) (Z06 h (by omega) (by omega));exact⟨p',k',h1,by omega,h3⟩
theorem Zng (G:GN l M)
  (hL:∀{a:Axs} {n:Nat} {v:Int} {k:Nat},(4<=a.aO/\a.aO<=123)->n<=4->H7 a.aO ([]++[v])->∃(D:List Int) (k':Nat),N (axS l [] n v 0 a k)=some (1,[.vC Aa [], .vC Aa (D.map As),I 0,I 0,I 0,I 0,I 0,I 0,I 0,I 0,I 0,I a.step,I a.aS,I a.bF,I a.bG,I a.low,I a.aY,I a.bB,I a.aV,I a.aO, .vC Aa l,I k'])/\D.length=n/\H7 a.aO D) (k:Nat):
  ∃(a:Axs) (k':Nat),V7 M N [.vC Aa l,I k]=some (Bn a++[.vC Aa l,I k'])/\AxOK a:=by
 obtain⟨v1,k1,h1,a1,b1,-⟩:=G k (n:=6) (by omega);obtain⟨v2,k2,h2,a2,b2,-⟩:=G k1 (n:=4) (by omega);obtain⟨v3,k3,h3,a3,b3,-⟩:=G k2 (n:=5) (by omega);obtain⟨v4,k4,h4,a4,b4,-⟩:=G k3 (n:=5) (by omega);obtain⟨v5,k5,h5,a5,b5,-⟩:=G k4 (n:=5) (by omega);obtain⟨L,k6,h6,a6,b6,-⟩:=G k5 (n:=5) (by omega);obtain⟨Y,k7,h7,a7,b7,-⟩:=G k6 (n:=400) (by omega);obtain⟨v8,k8,h8,a8,b8,-⟩:=G k7 (n:=120) (by omega);obtain⟨v9,k9,h9,a9,b9,-⟩:=G k8 (n:=9) (by omega);obtain⟨O,e1,s1⟩:=Z6t ⟨a1,b1⟩;obtain⟨S,e2,s2⟩:=Zx7 ⟨a2,b2⟩;have i1:(0:Int)<=v1/\v1<(([[I 8],[I 4],[I 5],[I 16],[I 23],[I 64]]:Rw).length:Int):=⟨a1,by simp;omega⟩;have i2:(0:Int)<=v2/\v2<(([[I 0],[I 1],[I 3],[I 6]]:Rw).length:Int):=⟨a2,by simp;omega⟩;have i3:(0:Int)<=v3/\v3<(([[I 40],[I 1],[I 3],[I 9],[I 1000]]:Rw).length:Int):=⟨a3,by simp;omega⟩;have i4:(0:Int)<=v4/\v4<(([[I 20],[I 2],[I 3],[I 5],[I 1000]]:Rw).length:Int):=⟨a4,by simp;omega⟩;have i5:(0:Int)<=v5/\v5<(([[I 30],[I 4],[I 5],[I 8],[I 1000]]:Rw).length:Int):=⟨a5,by simp;omega⟩;obtain⟨T,_,_,a0,-,-,s3,t3,-⟩:=Qn8 ⟨a3,b3⟩;obtain⟨_,U,_,-,b0,-,-,-,s4,t4,-⟩:=Qn8 ⟨a4,b4⟩;obtain⟨_,_,V,-,-,c0,-,-,-,-,s5,t5⟩:=Qn8 ⟨a5,b5⟩;have main : ∀ R, R = (if L = 0 then some [I O, I T, I U, I V, I (-16777216), I 16777216, I S, I 0, I 0, .vC Aa [], .vC Aa l, I k6] else
   (N (axS l [] L.toNat (v9-4) 0 ⟨O,T,U,V,-16777216,16777216,S,Y-200,4+v8,[]⟩ k9)).bind λo=>if o.1=1 then some [I (Af (nth .vD o.2 11)),I (Af (nth .vD o.2 12)),I (Af (nth .vD o.2 13)),I (Af (nth .vD o.2 14)),I (Af (nth .vD o.2 15)),I (Af (nth .vD o.2 16)),I (Af (nth .vD o.2 17)),I (Af (nth .vD o.2 18)),I (Af (nth .vD o.2 19)), .vC Aa (Bp (nth .vD o.2 1)), .vC Aa (Bp (nth .vD o.2 20)),I (Af (nth .vD o.2 21))]else none)->
   ∃(a:Axs) (k':Nat),R=some (Bn a++[.vC Aa l,I k'])/\AxOK a:=by
  intro R X;by_cases c:L=0
  ·rw[aa c]at X;refine⟨⟨O,T,U,V,-16777216,16777216,S,0,0,[]⟩,k6,X,?_⟩;exact⟨s1,s2,by simp,λh=>absurd rfl h,⟨by simp,by simp⟩,by simp,⟨s3,t3,s4,t4,s5,t5,rfl,rfl⟩⟩
  ·rw[ab c]at X;obtain⟨c1,k',g1,g2,g3⟩:=hL (a:=⟨O,T,U,V,-16777216,16777216,S,Y-200,4+v8,[]⟩) (n:=L.toNat) (v:=v9-4) (k:=k9) (by simp only;omega) (by omega) (Zsv (by omega));rw[g1]at X;refine⟨⟨O,T,U,V,-16777216,16777216,S,Y-200,4+v8,c1⟩,k',?_,?_⟩
   ·rw[X];simp only[go_sem];try rfl
   ·exact⟨s1,s2,by simp only;omega,λ_=>by simp only;omega,g3,by simp only;omega,⟨s3,t3,s4,t4,s5,t5,rfl,rfl⟩⟩
 refine main _ ?_;rw[Zic];simp only[go_sem,h1,h2,h3,h4,h5,h6,aa i1,aa i2,aa i3,aa i4,aa i5,e1,e2,a0,b0,c0];by_cases c:L=0
 ·rw[aa c,aa c]
 ·rw[ab c,ab c];simp only[h7,h8,h9,go_sem,Ae (x:=v9-4),Ae (x:=Y-200),Ae (x:=4+v8)];have e:((L.toNat:Nat):Int)=L:=by omega
  simp only[axS,e,dq];rfl
theorem Qsp (D:Src l) (k:Nat):∃(a:Axs) (k':Nat),Nl [.vC Aa l,I k]=some (Bn a++[.vC Aa l,I k'])/\AxOK a:=by
 refine Zng (N:=Qqs) (Hv D) (fun{a n v k} M T O=> ?_) k;obtain⟨p,k',G,L,S⟩:=Zeh (MN:=BD) (Hv D) M n 0 [] v k (by omega) rfl O;rw[du]at G L;exact⟨p,k',G,L,S⟩
structure Ax3M (x : Ax3) : Prop where
 a:AxOK x.a
 b:AxOK x.b
 c:AxOK x.c
theorem Ax3M.ok {x:Ax3} (h:Ax3M x):Ax3OK x:=⟨by have:=h.a.bB;omega,by have:=h.b.bB;omega,by have:=h.c.bB;omega⟩
theorem Z2i (G:Src l):∃x:Ax3,OA [.vC Aa l]=some (AI x)/\Ax3M x:=by
 obtain⟨a,L,O,g1⟩:=Qsp G 0;obtain⟨b,S,M,g2⟩:=Qsp G L;obtain⟨c,V,N,T⟩:=Qsp G S;refine⟨⟨a,b,c⟩,?_,g1,g2,T⟩;have hf:=QM l;unfold OA;generalize Nl=U at*;generalize Cu=X at*;rw[Yct];have D:U [.vC Aa l,I 0]=some (Bn a++[.vC Aa l,I L]):=O;simp only[Bn,ba,ax]at D M N;simp only[go_sem,hf,D,M,N]
theorem Z4a {x:Ax3} {mv lo hi f:Int} {d:Pt} (j:Nat):(Cz p x mv lo hi (⟨[],0,f,d⟩,d) j).1.aQ=f/\(Cz p x mv lo hi (⟨[],0,f,d⟩,d) j).1.aT=d:=by
 induction j with
 |zero=>exact⟨rfl,rfl⟩
 |succ j D=>rw[Cz,(Zaf _).1,(Zaf _).2];exact D
theorem Zcr {p:Pth} {x:Ax3} {lo D mv f:Int} {d:Pt} (M:mv=1\/mv= -1) (G:GoodPath p) (I:Ax3OK x):∀(k j:Nat),j+k=p.aF.length->∀w,w=Cz p x mv lo D (⟨[],0,f,d⟩,d) j->
  Am (Vc FJ OK) (PK p x lo D mv w.1 w.2 j)=some (1,FQ x mv (Cz p x mv lo D (⟨[],0,f,d⟩,d) p.aF.length).1 (Cz p x mv lo D (⟨[],0,f,d⟩,d) p.aF.length).2)
 |0,j,U,w,L=>by
  have O:j=p.aF.length:=by omega
  refine AQ (o:=(1,_)) ?_ (by simp);rw[Q94,A1 (by omega),L,O]
 |k+1,j,U,w,L=>by
  have T:=G.count;have hb:=Y3 (mv:=mv) (lo:=lo) (hi:=D) (f:=f) (d:=d) I G.ok j (by omega);rw[<-L]at hb;have S:=Z2f (MV:=FJ) (N:=OK) (lo:=lo) (hi:=D) (now:=w.2) (j:=j) M G I hb (by omega) (by omega) (by omega) (fun{a b s aR} V=>Zyd M I hb (by omega) (by omega) (k:=268435456) (by omega) V);rw[A5 S];exact Zcr M G I k (j+1) (by omega) _ (by rw[Cz,<-L])
theorem Zf2 {MV:Fn} {N4 N10:Lp} {x:Ax3} {lo D mv f:Int}
  (L:N4 (Rg p x lo D mv ⟨[],0,f,q⟩ q 0 [] 0)=some (1,[.vC Aa (Ff p.aF p.aF.length), .vC Ap [],I lo,I D,I mv,I p.aQ.x,I p.aQ.y,I p.aQ.z, .vC Ag (p.aF.map Aw), .vC AD (p.aD.map At),I q.x,I q.y,I q.z,I mv,I x.a.step,I x.a.aS,I x.a.bF,I x.a.bG,I x.a.low,I x.a.aY,I x.a.bB,I x.a.aV,I x.a.aO, .vC Aa (x.a.aW.map As),I x.b.step,I x.b.aS,I x.b.bF,I x.b.bG,I x.b.low,I x.b.aY,I x.b.bB,I x.b.aV,I x.b.aO, .vC Aa (x.b.aW.map As),I x.c.step,I x.c.aS,I x.c.bF,I x.c.bG,I x.c.low,I x.c.aY,I x.c.bB,I x.c.aV,I x.c.aO, .vC Aa (x.c.aW.map As),I 0,I f,I q.x,I q.y,I q.z]))
  (G:N10 (PK p x lo D mv ⟨[],0,f,q⟩ q 0)=some (1,FQ x mv (Cz p x mv lo D (⟨[],0,f,q⟩,q) p.aF.length).1 (Cz p x mv lo D (⟨[],0,f,q⟩,q) p.aF.length).2)):
  Qej MV N4 N10 [.vC Ap [],I p.aQ.x,I p.aQ.y,I p.aQ.z, .vC Ag (p.aF.map Aw), .vC AD (p.aD.map At),I lo,I D,I mv,I q.x,I q.y,I q.z,I mv,I x.a.step,I x.a.aS,I x.a.bF,I x.a.bG,I x.a.low,I x.a.aY,I x.a.bB,I x.a.aV,I x.a.aO, .vC Aa (x.a.aW.map As),I x.b.step,I x.b.aS,I x.b.bF,I x.b.bG,I x.b.low,I x.b.aY,I x.b.bB,I x.b.aV,I x.b.aO, .vC Aa (x.b.aW.map As),I x.c.step,I x.c.aS,I x.c.bF,I x.c.bG,I x.c.low,I x.c.aY,I x.c.bB,I x.c.aV,I x.c.aO, .vC Aa (x.c.aW.map As),I 0,I f,I q.x,I q.y,I q.z]=some (FQ x mv (Cz p x mv lo D (⟨[],0,f,q⟩,q) p.aF.length).1 (Cz p x mv lo D (⟨[],0,f,q⟩,q) p.aF.length).2):=by
 rw[Ztj];simp only[Rg,dq,ik]at L;simp only[PK,FQ,dq,ik]at G;simp only[go_sem,ag,L,G]
theorem Zg1 {x:Ax3} {lo D mv f:Int} (L:mv=1\/mv= -1) (G:GoodPath p) (N:Ax3OK x):
  PZ [.vC Ap [],I p.aQ.x,I p.aQ.y,I p.aQ.z, .vC Ag (p.aF.map Aw), .vC AD (p.aD.map At),I lo,I D,I mv,I q.x,I q.y,I q.z,I mv,I x.a.step,I x.a.aS,I x.a.bF,I x.a.bG,I x.a.low,I x.a.aY,I x.a.bB,I x.a.aV,I x.a.aO, .vC Aa (x.a.aW.map As),I x.b.step,I x.b.aS,I x.b.bF,I x.b.bG,I x.b.low,I x.b.aY,I x.b.bB,I x.b.aV,I x.b.aO, .vC Aa (x.b.aW.map As),I x.c.step,I x.c.aS,I x.c.bF,I x.c.bG,I x.c.low,I x.c.aY,I x.c.bB,I x.c.aV,I x.c.aO, .vC Aa (x.c.aW.map As),I 0,I f,I q.x,I q.y,I q.z]=some (FQ x mv (Cz p x mv lo D (⟨[],0,f,q⟩,q) p.aF.length).1 (Cz p x mv lo D (⟨[],0,f,q⟩,q) p.aF.length).2):=by
 refine Zf2 (MV:=FJ) (N4:=OK) (N10:=Qg6) ?_ (Zcr L G N p.aF.length 0 (by omega) _ rfl);have h:=Q44 (M:=FJ) (x:=x) (lo:=lo) (hi:=D) (mv:=mv) (t:=⟨[],0,f,q⟩) (now:=q) G.ok p.aF.length 0 (by omega);rw[TW]at h;exact h
theorem Yb6 {x:Ax3} (D:P (Bk p)=some [I (AW p.aF)]) (L:∀n h:Int,S [I n,I h]=some [I (B0 n h)])
  (G:∀{lo hi mv f:Int},(mv=1\/mv= -1)->M [.vC Ap [],I p.aQ.x,I p.aQ.y,I p.aQ.z, .vC Ag (p.aF.map Aw), .vC AD (p.aD.map At),I lo,I hi,I mv,I q.x,I q.y,I q.z,I mv,I x.a.step,I x.a.aS,I x.a.bF,I x.a.bG,I x.a.low,I x.a.aY,I x.a.bB,I x.a.aV,I x.a.aO, .vC Aa (x.a.aW.map As),I x.b.step,I x.b.aS,I x.b.bF,I x.b.bG,I x.b.low,I x.b.aY,I x.b.bB,I x.b.aV,I x.b.aO, .vC Aa (x.b.aW.map As),I x.c.step,I x.c.aS,I x.c.bF,I x.c.bG,I x.c.low,I x.c.aY,I x.c.bB,I x.c.aV,I x.c.aO, .vC Aa (x.c.aW.map As),I 0,I f,I q.x,I q.y,I q.z]=some (FQ x mv (Cz p x mv lo hi (⟨[],0,f,q⟩,q) p.aF.length).1 (Cz p x mv lo hi (⟨[],0,f,q⟩,q) p.aF.length).2)):
  Qhl M Z W S P (Bk p++AI x++[I q.x,I q.y,I q.z,I a,I k])=some (A0 (Ej p x q a k)):=by
 have he:=Zjn M Z W S P p.aQ.x p.aQ.y p.aQ.z (p.aF.map Aw) (p.aD.map At) x.a.step x.a.aS x.a.bF x.a.bG x.a.low x.a.aY x.a.bB x.a.aV x.a.aO (x.a.aW.map As) x.b.step x.b.aS x.b.bF x.b.bG x.b.low x.b.aY x.b.bB x.b.aV x.b.aO (x.b.aW.map As) x.c.step x.c.aS x.c.bF x.c.bG x.c.low x.c.aY x.c.bB x.c.aV x.c.aO (x.c.aW.map As) q.x q.y q.z a k;refine db he ?_;unfold Ej;simp only[Bk]at D;simp only[D,L,go_sem,Kq,Og];generalize B0 a (AW p.aF)=f at*;generalize B0 k (AW p.aF)=t at*;by_cases c:t<f
 ·have h:=G (lo:=min f t) (hi:=max f t) (mv:= -1) (f:=f) (.inr rfl);simp only[FQ]at h;simp only[h,go_sem,c,dt]
 ·have h:=G (lo:=min f t) (hi:=max f t) (mv:=1) (f:=f) (.inl rfl);simp only[FQ]at h;simp only[h,go_sem,c,f8]
theorem Q92 {x:Ax3} {d:Pt} {from_ to:Int} (D:GoodPath p) (G:Ax3OK x):J0 (Bk p++AI x++[I d.x,I d.y,I d.z,I from_,I to])=some (A0 (Ej p x d from_ to)):=
 Yb6 (Q9d D.ok) (λ_ _=>R7) λL=>Zg1 L D G
theorem Yee {x:Ax3} (d:Pt) (a b:Int) (D:GoodPath p) (G:Ax3OK x):(Ej p x d a b).aE.length<=10000000/\0<=(Ej p x d a b).length/\(Ej p x d a b).length<=900000000000000:=by
 have I:=D.count;have h:=Y3 (mv:=if B0 a (AW p.aF)>B0 b (AW p.aF)then-1 else 1) (lo:=min (B0 a (AW p.aF)) (B0 b (AW p.aF))) (hi:=max (B0 a (AW p.aF)) (B0 b (AW p.aF))) (f:=B0 a (AW p.aF)) (d:=d) G D.ok p.aF.length (cm _);obtain⟨L,M,-⟩:=h;unfold Ej;simp only;refine⟨by omega,by omega,by omega⟩
theorem Qu4 {x:Ax3} {mv:Int} {Q:Int->Pt->Prop}:∀{a s:Int} {d:Pt} {l:List Pce},FD x mv Q a s d l->a<=EK a l
 |a,_,_,[],_=>iq _
 |a,s,d,c::l,h=>by
  obtain⟨-,-,G,-,D⟩:=h;have:=Qu4 D;unfold EK;omega
theorem RL {x:Ax3} {mv:Int} {Q:Int->Pt->Prop} (I:mv=1\/mv= -1):∀{a s:Int} {d:Pt} {l:List Pce},FD x mv Q a s d l->∀i,i<l.length->
  a<=(pcA l i).at_/\1<=(pcA l i).aR/\eI l i<=EK a l/\(s-((pcA l i).at_-a)<=(pcA l i).s/\(pcA l i).s<=s+((pcA l i).at_-a))/\((pcA l i).bD=0\/(pcA l i).bD=mv)
 |a,s,d,c::l,h,0,_=>by
  obtain⟨N,O,L,D,G⟩:=h;have:=Qu4 G;unfold eI;rw[Lf];refine⟨by omega,L,by unfold EK;omega,by omega,?_⟩;rcases D with D|D
  ·exact .inr D.1
  ·exact .inl D.1
 |a,s,d,c::l,h,i+1,S=>by
  obtain⟨N,O,L,D,G⟩:=h;have M:=RL I G i (by simpa using S);unfold eI at M⊢;rw[Ij];obtain⟨g1,g2,T,V,U⟩:=M;have X:c.bD*c.aR=0\/c.bD*c.aR=c.aR\/c.bD*c.aR= -c.aR:=by
   rcases D with D|D
   ·rw[D.1];rcases I with rfl|rfl<;>omega
   ·rw[D.1];omega
  refine⟨by omega,g2,by unfold EK;exact T,by omega,U⟩
theorem Q3y {x:Ax3} {mv:Int} {Q:Int->Pt->Prop} (L:mv=1\/mv= -1):∀{a s:Int} {d:Pt} {l:List Pce},FD x mv Q a s d l->∀i j,i<=j->j<l.length->eI l i<=eI l j
 |a,s,d,c::l,h,0,0,_,_=>iq _
 |a,s,d,c::l,h,0,j+1,_,D=>by
  obtain⟨M,N,O,S,G⟩:=h;have:=RL L G j (by simpa using D);unfold eI at*;rw[Lf,Ij];omega
 |a,s,d,c::l,h,i+1,0,I,_=>by omega
 |a,s,d,c::l,h,i+1,j+1,I,D=>by
  obtain⟨M,N,O,S,G⟩:=h;have:=Q3y L G i j (by omega) (by simpa using D);unfold eI at*;rw[Ij,Ij];exact this
theorem Qtn {x:Ax3} {mv:Int} {Q:Int->Pt->Prop}:∀{a s:Int} {d:Pt} {l:List Pce},FD x mv Q a s d l->l≠[]->eI l (l.length-1)=EK a l
 |a,s,d,[c],h,_=>by
  obtain⟨G,-⟩:=h;show eI [c] 0=EK a [c];unfold eI;rw[Lf];simp only[EK];omega
 |a,s,d,c::e::l,h,_=>by
  obtain⟨-,-,-,-,D⟩:=h;have:=Qtn D (by simp);have e1:(c::e::l).length-1=((e::l).length-1)+1:=by simp
  rw[e1];unfold eI at*;rw[Ij,this];rfl
def mvP (p:Pth) (a b:Int):Int:=if B0 a (AW p.aF)>B0 b (AW p.aF)then-1 else 1
theorem Z8m (p:Pth) (a b:Int):mvP p a b=1\/mvP p a b= -1:=by unfold mvP;split<;>simp
theorem Q6v {x:Ax3} {d:Pt} (I:Ax3OK x) (D:GoodPath p) (L:Qwa p (mvP p a b) Q):
  ∃M,TC x (mvP p a b) Q (Ej p x d a b) (B0 b (AW p.aF)) M/\(Ej p x d a b).aQ=B0 a (AW p.aF)/\(Ej p x d a b).aT=d:=by
 have S:=Q8e D;have T:0<=B0 a (AW p.aF)/\B0 a (AW p.aF)<=AW p.aF:=by unfold B0;omega
 have hb:0<=B0 b (AW p.aF)/\B0 b (AW p.aF)<=AW p.aF:=by unfold B0;omega
 have G:=λmv lo N f=>Z4a (p:=p) (x:=x) (mv:=mv) (lo:=lo) (hi:=N) (f:=f) (d:=d) p.aF.length;unfold Ej mvP at*;simp only;generalize B0 a (AW p.aF)=f at*;generalize B0 b (AW p.aF)=t at*;have h:=Q9e (p:=p) (x:=x) (mv:=if f>t then-1 else 1) (lo:=min f t) (hi:=max f t) (f:=f) (d:=d) (Q:=Q) (by split<;>simp) I D.ok (by omega) (by split<;>omega) L p.aF.length (cm _);have O:Ko p.aF (if f>t then-1 else 1) (min f t) (max f t) p.aF.length=t:=by
  unfold Ko;rw[i9,TW,Q9s];by_cases c:f>t
  ·rw[aa c,aa];omega
  ·rw[ab c,ab];omega
 rw[O]at h;exact⟨_,h,(G _ _ _ _).1,(G _ _ _ _).2⟩
theorem Z2j {x:Ax3} {s:Int} (D:a=1\/a= -1) (h:TC x a Q t s q) (hb:t.aE.length<=10000000/\0<=t.length/\t.length<=900000000000000) (N:0<=t.aQ/\t.aQ<=263886834032640):TQ t:=by
 obtain⟨G,L,-,-⟩:=h;refine⟨hb.1,hb.2,λi I=> ?_,Q3y D G,λM=>by rw[Qtn G M,L],N,λi I=> ?_,λi I=> ?_⟩
 ·have:=RL D G i I;rw[L]at this;exact⟨this.1,this.2.1,this.2.2.1⟩
 ·have:=RL D G i I;rw[L]at this;unfold eI at this;omega
 ·have:=(RL D G i I).2.2.2.2;rcases D with rfl|rfl
  ·rcases this with h|h
   ·exact .inl h
   ·exact .inr (.inl h)
  ·rcases this with h|h
   ·exact .inl h
   ·exact .inr (.inr h)
theorem Zib {x:Ax3} (d:Pt) (a b:Int) (G:Ax3OK x) (D:GoodPath p):TQ (Ej p x d a b):=by
 have M:=Q8e D;obtain⟨N,I,L,-⟩:=Q6v (d:=d) (a:=a) (b:=b) (Q:=λ_ _=>True) G D (λ_ _ _ _ _ _ _ _=>trivial);exact Z2j (Z8m p a b) I (Yee d a b D G) (by rw[L];unfold B0;omega)
def B9 (a:Axs) (i:Nat):Int:=a.aW.getD i 0
def KP (a:Axs) (p:Int):Int:=
 if a.aW=[]then 0
 else if p<=a.aV then B9 a 0
 else if(p-a.aV)/a.aO>=a.aW.length-1 then B9 a (a.aW.length-1)
 else B9 a ((p-a.aV)/a.aO).toNat+Bh ((B9 a (((p-a.aV)/a.aO).toNat+1)-B9 a ((p-a.aV)/a.aO).toNat)*(p-a.aV-(p-a.aV)/a.aO*a.aO)) a.aO
def Iw (a:Axs) (p:Int):Int:=Bh (p+KP a p) a.step
def okB (p:Int):Prop:= -1000000000<=p/\p<=1000000000
theorem Q0w {l:List Int} (h:l≠[]):0<l.length:=by
 cases l with
 |nil=>exact absurd rfl h
 |cons _ _=>simp
theorem Qv {a:Axs} (h:AxOK a) {i:Nat} (D:i<a.aW.length): -4096<=B9 a i/\B9 a i<=4096:=by
 have e:B9 a i=a.aW[i]:=by unfold B9;simp[D]
 rw[e];exact h.aW.1 _ (cd _)
theorem TJ {a:Axs} (D:i<a.aW.length):nth [] (a.aW.map As) i=[I (B9 a i)]:=by
 have e:B9 a i=a.aW[i]:=by unfold B9;simp[D]
 rw[e];exact Ja _ _ _ _ D
theorem Q6q {a:Axs} (h:AxOK a) (D:a.aW≠[]) {p:Int} (G: ¬p<=a.aV) (I: ¬(p-a.aV)/a.aO>=a.aW.length-1):
  ∃(i:Nat) (r:Int),((p-a.aV)/a.aO=i)/\i+1<a.aW.length/\0<=r/\r<a.aO/\p-a.aV=i*a.aO+r/\p-a.aV-(p-a.aV)/a.aO*a.aO=r:=by
 have L:=h.aO D;have e0:=Int.mul_ediv_add_emod (p-a.aV) a.aO;have e1:=jd (p-a.aV) (show a.aO≠0 by omega);have e2:=ij (p-a.aV) (show 0<a.aO by omega);have e3:0<=(p-a.aV)/a.aO:=Int.ediv_nonneg (by omega) (by omega);refine⟨((p-a.aV)/a.aO).toNat,(p-a.aV)%a.aO,by omega,by omega,e1,e2,?_,?_⟩
 ·rw[Int.toNat_of_nonneg e3,ja];omega
 ·rw[ja ((p-a.aV)/a.aO)];omega
theorem Zdb {a:Axs} (h:AxOK a) (D:a.aW≠[]) {i:Nat} (I:i+1<a.aW.length) {r:Int} (G:0<=r/\r<=a.aO):
  (-30<=B9 a (i+1)-B9 a i/\B9 a (i+1)-B9 a i<=30)/\(Bh ((B9 a (i+1)-B9 a i)*r) a.aO).natAbs<=31:=by
 have M:=h.aO D;have N:=h.aW.2 i I;have L: -30<=B9 a (i+1)-B9 a i/\B9 a (i+1)-B9 a i<=30:=by unfold B9;omega
 refine⟨L,Qfu (by omega) ?_⟩;have m1:(B9 a (i+1)-B9 a i)*r<=31*r:=ew (by omega) G.1;have m2: -31*r<=(B9 a (i+1)-B9 a i)*r:=ew (by omega) G.1;have e:((31:Nat):Int)=31:=rfl;rw[e];omega
theorem Q5o {a:Axs} (h:AxOK a) (p:Int): -5000<=KP a p/\KP a p<=5000:=by
 unfold KP;by_cases c:a.aW=[]
 ·rw[aa c];omega
 ·have I:=Q0w c;rw[ab c];by_cases D:p<=a.aV
  ·rw[aa D];have:=Qv h (show 0<a.aW.length from I);omega
  ·rw[ab D];by_cases G:(p-a.aV)/a.aO>=a.aW.length-1
   ·rw[aa G];have:=Qv h (show a.aW.length-1<a.aW.length by omega);omega
   ·rw[ab G];obtain⟨i,r,e1,e2,e3,M,N,L⟩:=Q6q h c D G;rw[L,e1,al];have b1:=Qv h (show i<a.aW.length by omega);have b2:=(Zdb h c e2 (r:=r) (by omega)).2;omega
theorem Zst {a:Axs} (h:AxOK a) {v:Int} (D:v.natAbs<=1000010000):KM (Bn a++[I v])=some [I (Bh v a.step)]:=by
 have G:=h.step;have he:=Zii a.step a.aS a.bF a.bG a.low a.aY a.bB a.aV a.aO (a.aW.map As) v;unfold KM;refine db he ?_;rw[Ae (x:=2*v),Ae (x:=2*v+a.step),Ae (x:=2*a.step)];have L:=Int.tmod_add_mul_tdiv (2*v+a.step) (2*a.step);have M:=Int.tmod_lt_of_pos (2*v+a.step) (show 0<2*a.step by omega);have N:=Int.lt_tmod_of_pos (2*v+a.step) (show 0<2*a.step by omega);have O:((2*v+a.step).tdiv (2*a.step)).natAbs<=(2*v+a.step).natAbs:=by rw[Int.natAbs_tdiv];exact gr _ _
 generalize(2*v+a.step).tdiv (2*a.step)=q at*;generalize(2*v+a.step).tmod (2*a.step)=r at*;have e1:2*a.step*q=q*(2*a.step):=ja _ _;rw[A1 (by omega),A1 (by omega),A1 (by omega),A1 (by omega),Ae (x:=q)];by_cases h:r<0
 ·rw[DG h,Ae,LM (k:=q-1) (by omega)]
  ·rw[Int.sub_mul];omega
  ·rw[Int.sub_add_cancel];omega
 ·rw[A1 h,LM (k:=q) (by omega)]
  ·omega
  ·rw[js];omega
theorem Ztg {a:Axs} (h:AxOK a) {p:Int} (S:okB p):Kc (Bn a++[I p])=some [I (KP a p)]:=by
 unfold okB at S;have ho:=h.aV;have hc:=h.count;have he:=Z2d Bt a.step a.aS a.bF a.bG a.low a.aY a.bB a.aV a.aO (a.aW.map As) p;unfold Kc;have T:=fun{x y:Int} (hx:x.natAbs<=30) (hy:y.natAbs<=123) (O:4<=a.aO/\a.aO<=123)=>Q9u (a:=x) (b:=y) (c:=a.aO) (by omega) (by omega) (by omega);generalize Bt=M at*;refine db he ?_;unfold KP;rw[ag];by_cases c:a.aW=[]
 ·rw[aa c,c];rfl
 ·have U:=Q0w c;have O:=h.aO c;have e1:V ((a.aW.length:Int)-1)=((a.aW.length-1:Nat):Int):=by rw[Ae];omega
  have e2:V (p-a.aV)=p-a.aV:=Ae;rw[ab c,e2,e1];by_cases L:p<=a.aV
  ·rw[aa L];simp only[go_sem,TJ U];rw[ab,aa,aa]
  ·have e3:V ((p-a.aV).tdiv a.aO)=(p-a.aV)/a.aO:=by
    rw[bq (by omega)];have:=Int.ediv_nonneg (show 0<=p-a.aV by omega) (show 0<=a.aO by omega);have:=Int.ediv_le_self a.aO (show 0<=p-a.aV by omega);exact Ae
   rw[ab L,e3];by_cases N:(p-a.aV)/a.aO>=(a.aW.length:Int)-1
   ·rw[aa N];simp only[go_sem,al,TJ (show a.aW.length-1<a.aW.length by omega)];rw[ab,ab,ab,ab,aa,aa]
   ·rw[ab N];obtain⟨i,r,g1,g2,g3,g4,g5,X⟩:=Q6q h c L N;obtain⟨n1,n2⟩:=Zdb h c g2 (r:=r) (by omega);have b1:=Qv h (show i<a.aW.length by omega);rw[X,g1]at*;rw[al];have Y:V ((i:Int)+1)=((i+1:Nat):Int):=by rw[Ae];omega
    have hmul:(i:Int)*a.aO=p-a.aV-r:=by omega
    have w2:V (p-a.aV-V ((i:Int)*a.aO))=r:=by rw[hmul,Ae (x:=p-a.aV-r),Ae];omega
    have D:(0:Int)<=(i:Int)/\(i:Int)<(a.aW.length:Int):=by omega
    have G:(0:Int)<=((i+1:Nat):Int)/\((i+1:Nat):Int)<(a.aW.length:Int):=by omega
    simp only[go_sem,Y,w2,al,TJ (show i<a.aW.length by omega),TJ g2,aa D,aa G];have b2:=Qv h g2;generalize B9 a (i+1)=y at*;generalize B9 a i=z at*;rw[ab,ab,ab,ab,ab,Ae (x:=y-z),T (by omega) (by omega) O];simp only[go_sem];rw[Ae]
theorem Z9v {a:Axs} (h:AxOK a) {p:Int} (D:okB p):M_ (Bn a++[I p])=some [I (Iw a p)]:=by
 have hb:=Q5o h p;have G:=Ztg h D;unfold okB at D;have L:=Zst h (v:=p+KP a p) (by omega);have he:=Z2w KM Kc a.step a.aS a.bF a.bG a.low a.aY a.bB a.aV a.aO (a.aW.map As) p;unfold M_;generalize KM=M at*;generalize Kc=N at*;refine db he ?_;simp only[Bn,ba,ax]at G L;simp only[G,go_sem,Ae (x:=p+KP a p),L];rfl
def IA (a:Axs) (d:Int):Int:=if d= -1 then-a.bB else 0
def FX (a:Axs) (bD at_ was aT u:Int):Int:=if bD≠0\/was=aT then IA a aT else if aT= -1 then-min (u-at_) a.bB else min (u-at_) a.bB-a.bB
theorem Sq {a:Axs} (hb:0<=a.bB/\a.bB<=1000) (v:Int):JQ (Bn a++[I v])=some [I (IA a v)]:=by
 have he:=Zfz a.step a.aS a.bF a.bG a.low a.aY a.bB a.aV a.aO (a.aW.map As) v;unfold JQ;refine db he ?_;unfold IA;by_cases c:v= -1
 ·rw[BG (by simp[c]),aa c,Ae];congr 3;omega
 ·rw[Bj (by simp[c]),ab c]
theorem Zyt {a:Axs} {c:Pce} (O:∀v:Int,M (Bn a++[I v])=some [I (IA a v)]) (hb:0<=a.bB/\a.bB<=1000) (X:0<=u-c.at_/\u-c.at_<=2000000000000000):
  Qp M (Bn a++AG c++[I 0,I u])=some [I (FX a c.bD c.at_ c.was.x c.aT.x u)]:=by
 have he:=Qlc M a.step a.aS a.bF a.bG a.low a.aY a.bB a.aV a.aO (a.aW.map As) c.at_ c.aR c.s c.bD c.was.x c.was.y c.was.z c.aT.x c.aT.y c.aT.z 0 u;refine db he ?_;have D:=O c.aT.x;simp only[Bn,ba,ax]at D;have e1:V (0+1)=1:=rfl;have e2:V (1+1)=2:=rfl;have S:V (u-c.at_)=u-c.at_:=Ae;have T:V (0-min (u-c.at_) a.bB)= -min (u-c.at_) a.bB:=by rw[Ae];omega
 have U:V (min (u-c.at_) a.bB-a.bB)=min (u-c.at_) a.bB-a.bB:=Ae;unfold FX;simp only[go_sem,e1,e2,Kq,S,T,U,Nat.reduceAdd,ik,j7,jr,Int.reduceEq,D];by_cases G:c.bD=0
 ·by_cases L:c.was.x=c.aT.x
  ·simp[G,L]
  ·by_cases N:c.aT.x= -1
   ·simp[G,N,show c.was.x≠-1 from λe=>L (by rw[e,N])]
   ·simp[G,L,N]
 ·simp[G]
theorem Ztt {a:Axs} {c:Pce} (O:∀v:Int,M (Bn a++[I v])=some [I (IA a v)]) (hb:0<=a.bB/\a.bB<=1000) (X:0<=u-c.at_/\u-c.at_<=2000000000000000):
  Qp M (Bn a++AG c++[I (V (0+1)),I u])=some [I (FX a c.bD c.at_ c.was.y c.aT.y u)]:=by
 have he:=Qlc M a.step a.aS a.bF a.bG a.low a.aY a.bB a.aV a.aO (a.aW.map As) c.at_ c.aR c.s c.bD c.was.x c.was.y c.was.z c.aT.x c.aT.y c.aT.z (V (0+1)) u;refine db he ?_;have D:=O c.aT.y;simp only[Bn,ba,ax]at D;have e1:V (0+1)=1:=rfl;have e2:V (1+1)=2:=rfl;have S:V (u-c.at_)=u-c.at_:=Ae;have T:V (0-min (u-c.at_) a.bB)= -min (u-c.at_) a.bB:=by rw[Ae];omega
 have U:V (min (u-c.at_) a.bB-a.bB)=min (u-c.at_) a.bB-a.bB:=Ae;unfold FX;simp only[go_sem,e1,e2,Kq,S,T,U,Nat.reduceAdd,ik,j7,jr,Int.reduceEq,D];by_cases G:c.bD=0
 ·by_cases L:c.was.y=c.aT.y
  ·simp[G,L]
  ·by_cases N:c.aT.y= -1
   ·simp[G,N,show c.was.y≠-1 from λe=>L (by rw[e,N])]
   ·simp[G,L,N]
 ·simp[G]
theorem Z53 {a:Axs} {c:Pce} (O:∀v:Int,M (Bn a++[I v])=some [I (IA a v)]) (hb:0<=a.bB/\a.bB<=1000) (X:0<=u-c.at_/\u-c.at_<=2000000000000000):
  Qp M (Bn a++AG c++[I (V (V (0+1)+1)),I u])=some [I (FX a c.bD c.at_ c.was.z c.aT.z u)]:=by
 have he:=Qlc M a.step a.aS a.bF a.bG a.low a.aY a.bB a.aV a.aO (a.aW.map As) c.at_ c.aR c.s c.bD c.was.x c.was.y c.was.z c.aT.x c.aT.y c.aT.z (V (V (0+1)+1)) u;refine db he ?_;have D:=O c.aT.z;simp only[Bn,ba,ax]at D;have e1:V (0+1)=1:=rfl;have e2:V (1+1)=2:=rfl;have S:V (u-c.at_)=u-c.at_:=Ae;have T:V (0-min (u-c.at_) a.bB)= -min (u-c.at_) a.bB:=by rw[Ae];omega
 have U:V (min (u-c.at_) a.bB-a.bB)=min (u-c.at_) a.bB-a.bB:=Ae;unfold FX;simp only[go_sem,e1,e2,Kq,S,T,U,Nat.reduceAdd,ik,j7,jr,Int.reduceEq,D];by_cases G:c.bD=0
 ·by_cases L:c.was.z=c.aT.z
  ·simp[G,L]
  ·by_cases N:c.aT.z= -1
   ·simp[G,N,show c.was.z≠-1 from λe=>L (by rw[e,N])]
   ·simp[G,L,N]
 ·simp[G]
theorem Zpz {a:Axs} (hb:0<=a.bB/\a.bB<=1000) {bD at_ was aT u:Int} (D:0<=u-at_): -1000<=FX a bD at_ was aT u/\FX a bD at_ was aT u<=1000:=by
 unfold FX IA
 (repeat' split)<;>omega
theorem Zrh (G:bd B26 q) (I:1<=g.len/\g.len<=268435456/\bd B26 g.to) (N:0<=d/\d<=g.len):bd 201326592 (O_ q g d):=by
 have key:∀u v:Int,u.natAbs<=B26->v.natAbs<=B26->(v+Bh ((u-v)*d) g.len).natAbs<=201326592:=by
  intro u v O M;have S:=Iq O M;have T:=Qx4 (D:=u-v) (L:=g.len) (d:=d) (by omega) (bp S (by decide)) N;have U:v.natAbs<=67108864:=M;omega
 exact⟨key _ _ I.2.2.1 G.1,key _ _ I.2.2.2.1 G.2.1,key _ _ I.2.2.2.2 G.2.2⟩
theorem Zu1 (h:GoodPath p) (s:Int):bd 201326592 (atP p s):=by
 unfold atP;by_cases c:p.aF=[]
 ·rw[c];exact AR h.aQ (by decide)
 ·have D:=h.ok;obtain⟨G,I,L,M⟩:=Qi8 (l:=p.aF) (a:=p.aQ) (s:=max s 0) c (λg N=>(D.seg g N).1) (by omega);rw[M];exact Zrh (Zdx h.aQ D G) (D.seg _ (H5 G)) ⟨I,L⟩
theorem Ym {a:Axs} (h:AxOK a) {p:Int} (D:okB p):(Iw a p).natAbs<=2000000000:=by
 have hb:=Q5o h p;have G:=h.step;unfold okB at D;unfold Iw;refine Qfu (by omega) ?_;have e:((2000000000:Nat):Int)=2000000000:=rfl;rw[e];omega
def shT (a:Axs) (t:Trk) (u:Int) (f:Pt->Int):Int:=if t.aE=[]then IA a (f t.aT)else FX a (pcA t.aE (iT t u)).bD (pcA t.aE (iT t u)).at_ (f (pcA t.aE (iT t u)).was) (f (pcA t.aE (iT t u)).aT) (clT t u)
def Tu (p:Pth) (x:Ax3) (s:Int):Pt:=⟨Iw x.a (atP p s).x,Iw x.b (atP p s).y,Iw x.c (atP p s).z⟩
def Hj (p:Pth) (x:Ax3) (t:Trk) (u:Int):Pt:=
 ⟨(Tu p x (BJ t u)).x+shT x.a t u Pt.x,(Tu p x (BJ t u)).y+shT x.b t u Pt.y,(Tu p x (BJ t u)).z+shT x.c t u Pt.z⟩
theorem Qvt (h:TQ t) (G:∀i,i+1<t.aE.length->(pcA t.aE (i+1)).at_=eI t.aE i) (M:t.aE≠[]->(pcA t.aE 0).at_=0) (u:Int) (D:t.aE≠[]):(pcA t.aE (iT t u)).at_<=clT t u/\(0<iT t u->(pcA t.aE (iT t u)).at_<clT t u):=by
 have I:=Mj h u D;have N:=Re h u;by_cases c:iT t u=0
 ·rw[c,M D];exact⟨N.1,λg=>absurd g (by omega)⟩
 ·obtain⟨j,L⟩:∃j,iT t u=j+1:=⟨iT t u-1,by omega⟩;rw[L]at I⊢;rw[G j I];have: ¬clT t u<=eI t.aE j:=by
   intro g;have:=UJ (show j<t.aE.length by omega) g;unfold iT at L;omega
  exact⟨by omega,λ_=>by omega⟩
theorem Yav (h:TQ t) (u:Int):clT t (clT t u)=clT t u:=by have:=h.len;unfold clT B0;omega
theorem Z31 (h:TQ t) (u:Int):BJ t (clT t u)=BJ t u:=by unfold BJ iT;rw[Yav h]
theorem Q0o (h:TQ t) (u:Int): -3000000000000000<=BJ t u/\BJ t u<=3000000000000000:=by
 unfold BJ;by_cases c:t.aE=[]
 ·rw[aa c];have:=h.aQ;omega
 ·have G:=Mj h u c;have I:=h.pos _ G;have L:=h.s _ G;have D:=h.bD _ G;have M:=Re h u;have N:=h.len;rw[ab c];unfold eI at I;rcases D with D|D|D<;>rw[D]<;>omega
theorem Yb3 (h:GoodPath p) (s:Int):okB (atP p s).x/\okB (atP p s).y/\okB (atP p s).z:=by
 obtain⟨D,G,I⟩:=Zu1 h s;unfold okB;omega
structure TH (t : Trk) : Prop where
 q:TQ t
 at0:t.aE≠[]->(pcA t.aE 0).at_=0
 at1:∀i,i+1<t.aE.length->(pcA t.aE (i+1)).at_=eI t.aE i
theorem Qld {a:Axs} (hb:0<=a.bB/\a.bB<=1000) {t:Trk} (h:TH t) (u:Int) (f:Pt->Int): -1000<=shT a t u f/\shT a t u f<=1000:=by
 unfold shT;by_cases c:t.aE=[]
 ·rw[aa c];unfold IA;split<;>omega
 ·rw[ab c];exact Zpz hb (by have:=(Qvt h.q h.at1 h.at0 u c).1;omega)
theorem Zpw {x:Ax3} (hp:GoodPath p) (D:Ax3M x) (G:TH t) (hC:H [I u,I t.length]=some [I (clT t u)]) (Y:O (A0 t++[I (clT t u)])=some [I (BJ t u)]) (hA:P (Bk p++[I (BJ t u)])=some (ptR (atP p (BJ t u))))
  (L:S (A0 t++[I (clT t u)])=some [I (if t.aE=[]then-1 else(iT t u:Int))]) (hM:∀{a:Axs} {q:Int},AxOK a->okB q->W (Bn a++[I q])=some [I (Iw a q)]) (hD:∀{a:Axs} (v:Int),(0<=a.bB/\a.bB<=1000)->Z (Bn a++[I v])=some [I (IA a v)])
  (h0:∀{a:Axs} {c:Pce} {u:Int},(0<=a.bB/\a.bB<=1000)->(0<=u-c.at_/\u-c.at_<=2000000000000000)->M (Bn a++AG c++[I 0,I u])=some [I (FX a c.bD c.at_ c.was.x c.aT.x u)])
  (h1:∀{a:Axs} {c:Pce} {u:Int},(0<=a.bB/\a.bB<=1000)->(0<=u-c.at_/\u-c.at_<=2000000000000000)->M (Bn a++AG c++[I (V (0+1)),I u])=some [I (FX a c.bD c.at_ c.was.y c.aT.y u)])
  (h2:∀{a:Axs} {c:Pce} {u:Int},(0<=a.bB/\a.bB<=1000)->(0<=u-c.at_/\u-c.at_<=2000000000000000)->M (Bn a++AG c++[I (V (V (0+1)+1)),I u])=some [I (FX a c.bD c.at_ c.was.z c.aT.z u)]):
  Qdv M Z W S P O H (Bk p++AI x++A0 t++[I u])=some (ptR (Hj p x t u)):=by
 have he:=Ya7 M Z W S P O H u p x t;refine db he ?_;obtain⟨o1,o2,o3⟩:=Yb3 hp (BJ t u);have m1:=hM D.a o1;have m2:=hM D.b o2;have m3:=hM D.c o3;have b1:=Ym D.a o1;have b2:=Ym D.b o2;have b3:=Ym D.c o3;have s1:=Qld D.ok.a G u Pt.x;have s2:=Qld D.ok.b G u Pt.y;have s3:=Qld D.ok.c G u Pt.z;unfold Hj Tu;generalize Iw x.a (atP p (BJ t u)).x=q1 at*;generalize Iw x.b (atP p (BJ t u)).y=q2 at*;generalize Iw x.c (atP p (BJ t u)).z=q3 at*;have w1:V (q1+shT x.a t u Pt.x)=q1+shT x.a t u Pt.x:=Ae;have w2:V (q2+shT x.b t u Pt.y)=q2+shT x.b t u Pt.y:=Ae;have w3:V (q3+shT x.c t u Pt.z)=q3+shT x.c t u Pt.z:=Ae;by_cases c:t.aE=[]
 ·have N:=hD t.aT.x D.ok.a;have T:=hD t.aT.y D.ok.b;have U:=hD t.aT.z D.ok.c;unfold shT at*;rw[aa c]at L;simp only[aa c]at w1 w2 w3⊢;simp only[Bk,A0,Bn,ba,ax]at Y hA L N T U m1 m2 m3;simp only[hC,Y,hA,L,go_sem,m1,m2,m3,N,T,U,w1,w2,w3];rw[aa,aa,aa]
 ·have hi:=Mj G.q u c;have a1:=G.q.count;have a3:=(Qvt G.q G.at1 G.at0 u c).1;have a4:=Re G.q u;have hlen:=G.q.len;have a2:=G.q.pos _ hi;have a0:(0:Int)<=(iT t u:Int)/\(iT t u:Int)<(t.aE.length:Int):=by omega
  have X: ¬((iT t u:Int)<0):=by omega
  have N:=h0 (c:=pcA t.aE (iT t u)) (u:=clT t u) D.ok.a (by omega);have T:=h1 (c:=pcA t.aE (iT t u)) (u:=clT t u) D.ok.b (by omega);have U:=h2 (c:=pcA t.aE (iT t u)) (u:=clT t u) D.ok.c (by omega);unfold shT at*;rw[ab c]at L;simp only[ab c]at w1 w2 w3⊢;simp only[Bk,A0,Bn,AG,ba,ax]at Y hA L N T U m1 m2 m3;simp only[hC,Y,hA,L,go_sem,m1,m2,m3,ag,aa a0,al,Om hi,ab X,N,T,U,w1,w2,w3]
theorem Ybi {x:Ax3} (M:GoodPath p) (N:Ax3M x) (D:TH t) (u:Int):DV (Bk p++AI x++A0 t++[I u])=some (ptR (Hj p x t u)):=by
 have T:=Q0o D.q u;have G:=RY D.q (clT t u);rw[Z31 D.q]at G;exact Zpw M N D R7 G (Z8s M (by unfold i64;omega)) (Qa8 D.q u) (λO S=>Z9v O S) (λv hb=>Sq hb v) (λhb L=>Zyt (Sq hb) hb L) (λhb L=>Ztt (Sq hb) hb L) (λhb L=>Z53 (Sq hb) hb L)
theorem Qyw {x:Ax3} {a s:Int} {l:List Pce} (h:FD x k Q a s q l) (D:l≠[]):(pcA l 0).at_=a:=by
 cases l with
 |nil=>exact absurd rfl D
 |cons c l=>rw[Lf];exact h.1
theorem Qwt {x:Ax3} {mv:Int} {Q:Int->Pt->Prop}:∀{a s:Int} {d:Pt} {l:List Pce},FD x mv Q a s d l->∀i,i+1<l.length->(pcA l (i+1)).at_=eI l i
 |a,s,d,[],h,i,D=>by simp at D
 |a,s,d,c::l,h,0,D=>by
  obtain⟨I,L,M,N,G⟩:=h;unfold eI;rw[Ij,Lf,Qyw G (λe=>by rw[e]at D;simp at D),I]
 |a,s,d,c::l,h,i+1,D=>by
  obtain⟨I,L,M,N,G⟩:=h;have:=Qwt G i (by simpa using D);unfold eI at*;rw[Ij,Ij];exact this
theorem Qy7 {x:Ax3} (d:Pt) (a b:Int) (D:Ax3OK x) (G:GoodPath p):TH (Ej p x d a b):=by
 obtain⟨L,I,M,-⟩:=Q6v (d:=d) (a:=a) (b:=b) (Q:=λ_ _=>True) D G (λ_ _ _ _ _ _ _ _=>trivial);exact⟨Zib d a b D G,Qyw I.ch,Qwt I.ch⟩
def wF (z:Int):List Pce->Int
 |[]=> -1
 |c::l=>if c.bD≠0/\0<=(z-c.s)*c.bD/\(z-c.s)*c.bD<=c.aR then c.at_+(z-c.s)*c.bD else wF z l
def Js (t:Trk) (z:Int):Int:=if z=t.aQ then 0 else wF z t.aE
theorem Qvv {t:Trk} (h:TQ t) {z:Int} (X:i64 z):∀(k j:Nat),j+k=t.aE.length->wF z (t.aE.drop j)= -1/\Am RQ [I z, .vC Ap (t.aE.map AG),I t.aE.length,I j]=some (2,[])\/
  Am RQ [I z, .vC Ap (t.aE.map AG),I t.aE.length,I j]=some (1,[I (wF z (t.aE.drop j))])
 |0,j,hj=>by
  left;rw[d6 (by omega)];refine⟨rfl,AQ (o:=(2,_)) ?_ (by simp)⟩;rw[Qwm,A1 (by omega)]
 |k+1,j,hj=>by
  have D:j<t.aE.length:=by omega
  have Y:=h.count;have T:(0:Int)<=(j:Int)/\(j:Int)<(t.aE.length:Int):=by omega
  have O:=h.pos j D;have hl:=h.len;have hs:=h.s j D;have a0:=h.bD j D;have e:t.aE.drop j=pcA t.aE j::t.aE.drop (j+1):=by
   have e1:pcA t.aE j=t.aE[j]:=by unfold pcA;simp[D]
   rw[e1];exact OT _ _ D
  have M:RQ [I z, .vC Ap (t.aE.map AG),I t.aE.length,I j]=if(pcA t.aE j).bD≠0/\0<=(z-(pcA t.aE j).s)*(pcA t.aE j).bD/\(z-(pcA t.aE j).s)*(pcA t.aE j).bD<=(pcA t.aE j).aR then
    some (1,[I ((pcA t.aE j).at_+(z-(pcA t.aE j).s)*(pcA t.aE j).bD)])else some (0,[I z, .vC Ap (t.aE.map AG),I t.aE.length,I (j+1:Nat)]):=by
   rw[Qwm];simp only[go_sem,ag,al,Om D,aa T,Ae (x:=(j:Int)+1)];rw[aa];unfold eI at O;unfold i64 at X;generalize pcA t.aE j=c at*;have L:∀y:Int,-9223372036854775808-2000000000000000<=y->y<=9223372036854775807+2000000000000000->(V y=y/\ -9223372036854775808<=y/\y<=9223372036854775807)\/(V y=y+18446744073709551616/\y< -9223372036854775808)\/(V y=y-18446744073709551616/\y>9223372036854775807):=by
    intro y y1 y2;have hw:=Zr2 y;unfold i64 at hw;by_cases N: -9223372036854775808<=y/\y<=9223372036854775807
    ·exact .inl ⟨Ae N,N⟩
    ·have:=Qb1 y;omega
   by_cases U:c.bD=0
   ·have S: ¬(c.bD≠0/\0<=(z-c.s)*c.bD/\(z-c.s)*c.bD<=c.aR):=λg=>g.1 U;rw[ab,ab S];rfl
   ·rw[aa U];have G:c.bD=1\/c.bD= -1:=by omega
    have a1:=L (z-c.s) (by omega) (by omega);have a3:V (V (z-c.s)*c.bD)=(z-c.s)*c.bD\/((V (V (z-c.s)*c.bD)<0\/V (V (z-c.s)*c.bD)>1000000000000000)/\((z-c.s)*c.bD<0\/(z-c.s)*c.bD>1000000000000000)):=by
     generalize V (z-c.s)=y at*;have a2:=L (y*c.bD) (by rcases G with G|G<;>rw[G]<;>omega) (by rcases G with G|G<;>rw[G]<;>omega);rcases G with G|G<;>rw[G]at a2⊢<;>omega
    generalize V (V (z-c.s)*c.bD)=n at*;by_cases N:0<=(z-c.s)*c.bD/\(z-c.s)*c.bD<=c.aR
    ·have en:n=(z-c.s)*c.bD:=by omega
     have S:c.bD≠0/\0<=(z-c.s)*c.bD/\(z-c.s)*c.bD<=c.aR:=⟨U,N⟩;rw[aa S,en,aa N.1,aa N.2,Ae]
    ·have S: ¬(c.bD≠0/\0<=(z-c.s)*c.bD/\(z-c.s)*c.bD<=c.aR):=λg=>N g.2;rw[ab S];by_cases c2:0<=n
     ·rw[aa c2,ab];rfl
     ·rw[ab c2];rfl
  rw[e];by_cases c:(pcA t.aE j).bD≠0/\0<=(z-(pcA t.aE j).s)*(pcA t.aE j).bD/\(z-(pcA t.aE j).s)*(pcA t.aE j).bD<=(pcA t.aE j).aR
  ·rw[aa c]at M;right;rw[AQ M (by simp)];unfold wF;rw[aa c]
  ·rw[ab c]at M;rw[A5 M];unfold wF;rw[ab c];exact Qvv h X k (j+1) (by omega)
theorem Zje (h:TQ t) {z:Int} (M:i64 z):Nz (A0 t++[I z])=some [I (Js t z)]:=by
 have he:=Ydf LA (t.aE.map AG) t.length t.aQ t.aT.x t.aT.y t.aT.z z;unfold Nz;refine db he ?_;unfold Js;rw[ag];by_cases c:z=t.aQ
 ·rw[aa c,BG (by simp[c])]
 ·rw[ab c,Bj (by simp[c])];rcases Qvv h M t.aE.length 0 (by omega)with⟨L,G⟩|G
  ·rw[fg]at L;have D:LA [I z, .vC Ap (t.aE.map AG),I t.aE.length,I 0]=some (2,[]):=G;generalize LA=N at*;rw[L];simp only[D,go_sem];rfl
  ·rw[fg]at G;have D:LA [I z, .vC Ap (t.aE.map AG),I t.aE.length,I 0]=some (1,[I (wF z t.aE)]):=G;generalize LA=N at*;simp only[D,go_sem]
end Go.Bm
namespace Go.Bm
theorem Zmd (l:Rw) (h:l.length<=100000):Out (λo=>(wA o 0).length<=l.length) (RS [.vC Aa l]):=by
 show Out _ (Yu (Am Qsa) [.vC Aa l]);rw[Zqk];refine .bind (p:=λo=>o.1=1/\(wA o.2 0).length<=l.length) ?_ λo g=>by rw[g.1];exact .some g.2
 refine CJ (λs:Rw×Nat=>[.vC Aa s.1, .vC Aa l,I (s.2:Int)]) (λs=>1<=s.2/\s.2<=l.length+1/\s.1.length+1<=s.2) (λs=>l.length+1-s.2) _ ?_ ([],1) (by simp);rintro⟨v,i⟩ ⟨g1,g2,D⟩;dsimp only at*;rw[Z3b];rw[Ae (x:=(i:Int)-1),Ae (x:=(i:Int)+1)];refine .cond (λc=> ?_) (λc=> ?_)
 ·have c:=Bl c;refine .cond (λ_=> ?_) λc=>by simp at c;omega
  refine .cond (λ_=> ?_) λc=>by simp at c;omega
  refine .cond (λ_=> ?_) λc=>by rw[B_ (by simp;omega)]at c;cases c
  exact .some (.inl ⟨rfl,(_,i+1),rfl,by simp;omega,by simp;omega⟩)
 ·have c:=Bs c;exact .some (.inr ⟨by simp,rfl,by show v.length<=l.length;omega⟩)
theorem Zz1 (l:Rw) (n:Int) (h:l.length<=100000):(Qu [.vC Aa l,I n]).isSome=true:=by
 show(VD (Am V6) [.vC Aa l,I n]).isSome=true;rw[Zhx];refine Out.is (p:=λ_=>True) ?_;refine .bind (p:=λo=>o.1=1\/o.1=2) ?_ λo g=>by rcases g with g|g<;>rw[g]<;>exact .some trivial
 refine CJ (λs:Nat=>[I n, .vC Aa l,I (l.length:Int),I (s:Int)]) (λs=>s<=l.length) (λs=>l.length-s) _ ?_ 0 (by simp);intro i g;rw[Z0t];rw[Ae (x:=(i:Int)+1)];refine .cond (λc=> ?_) (λc=> ?_)
 ·have c:=Bl c;refine .cond (λ_=> ?_) λc=>by simp at c;omega
  refine .cond (λ_=> .some (.inr ⟨by simp, .inl rfl⟩)) λ_=> .cond (λ_=> .some (.inr ⟨by simp, .inl rfl⟩)) λ_=> ?_;exact .some (.inl ⟨rfl,i+1,rfl,by omega,by omega⟩)
 ·exact .some (.inr ⟨by simp, .inr rfl⟩)
theorem Yaf (D:∀l:Rw,l.length<=100000->Out (λo=>(wA o 0).length<=l.length) (Z [.vC Aa l])) (hB:∀(l:Rw) n,l.length<=100000->(M [.vC Aa l,I n]).isSome=true)
  (G L N O S T U V X:Int) (Y l:Rw) (h:l.length<=100000):(Qd6 M Z [I G,I L,I N,I O,I S,I T,I U,I V,I X, .vC Aa Y, .vC Aa l]).isSome=true:=by
 rw[Yed];obtain⟨a,ha,ga⟩:=D l h;rw[ha];simp only[af];generalize wA a 0=la at*;obtain⟨b,hb,gb⟩:=D la (by omega);rw[hb];simp only[af];generalize wA b 0=lb at*;obtain⟨c,hc,gc⟩:=D lb (by omega);rw[hc];simp only[af];generalize wA c 0=lc at*;refine Fl (hB _ _ (by omega)) λ_ _=>BO (λ_=>rfl) λ_=>Fl (hB _ _ (by omega)) λ_ _=>BO (λ_=>rfl) λ_=>Fl (hB _ _ (by omega)) λ_ _=>BO (λ_=>rfl) λ_=>rfl
theorem Z8w (D G L M N O S T U:Int) (V l:Rw) (h:l.length<=100000):(MJ [I D,I G,I L,I M,I N,I O,I S,I T,I U, .vC Aa V, .vC Aa l]).isSome=true:=Yaf Zmd Zz1 D G L M N O S T U V l h
theorem Ztx {x:Ax3} (O:0<=k/\k<=2) {l out:Rw} (N:out.length=l.length) (S:l.length<=100000):
  Out (λo=>o.1=1/\∃v:Rw,o.2= .vC Aa v:: .vC kPt l::I k::I k::AI x/\v.length=l.length) (Am (L2 M) (.vC Aa out:: .vC kPt l::I k::I k::I (l.length:Int)::I 0::AI x)):=by
 refine CJ (λs:Rw×Nat=> .vC Aa s.1:: .vC kPt l::I k::I k::I (l.length:Int)::I (s.2:Int)::AI x) (λs=>s.1.length=l.length/\s.2<=l.length) (λs=>l.length-s.2) _ ?_ (out,0) ⟨N,by simp⟩;rintro⟨v,i⟩ ⟨g1,g2⟩;dsimp only at*;rw[Zsw];rw[Ae (x:=(i:Int)+1)];refine .cond (λc=> ?_) (λc=> ?_)
 ·have c:=Bl c;refine .cond (λ_=> ?_) λc=>by simp at c;omega
  refine .cond (λ_=> ?_) λD=> .cond (λ_=> ?_) λG=> .cond (λ_=> ?_) λL=> ?_
  ·refine .cond (λ_=> ?_) λc=>by simp at c;omega
   exact .some (.inl ⟨rfl,(_,i+1),rfl,by simp;omega,by simp;omega⟩)
  ·refine .cond (λ_=> ?_) λc=>by simp at c;omega
   exact .some (.inl ⟨rfl,(_,i+1),rfl,by simp;omega,by simp;omega⟩)
  ·refine .cond (λ_=> ?_) λc=>by simp at c;omega
   exact .some (.inl ⟨rfl,(_,i+1),rfl,by simp;omega,by simp;omega⟩)
  ·have D:=Bs D;have G:=Bs G;have L:=Bs L
   simp at D G L;omega
 ·exact .some (.inr ⟨by simp,rfl,v,rfl,g1⟩)
theorem Zln (hM:∀(D G L N O S T U X:Int) (Y l:Rw),l.length<=100000->(M [I D,I G,I L,I N,I O,I S,I T,I U,I X, .vC Aa Y, .vC Aa l]).isSome=true) (x:Ax3) {l:Rw} (h1:l.length<=100000):
  (Ty M (Am (L2 M)) (Am (Tb M (Am (L2 M)))) (AI x++[.vC kPt l])).isSome=true:=by
 show(Ty M (Am (L2 M)) (Am (Tb M (Am (L2 M)))) [I x.a.step,I x.a.aS,I x.a.bF,I x.a.bG,I x.a.low,I x.a.aY,I x.a.bB,I x.a.aV,I x.a.aO, .vC Aa (x.a.aW.map As),I x.b.step,I x.b.aS,I x.b.bF,I x.b.bG,I x.b.low,I x.b.aY,I x.b.bB,I x.b.aV,I x.b.aO, .vC Aa (x.b.aW.map As),I x.c.step,I x.c.aS,I x.c.bF,I x.c.bG,I x.c.low,I x.c.aY,I x.c.bB,I x.c.aV,I x.c.aO, .vC Aa (x.c.aW.map As), .vC kPt l]).isSome=true;rw[Zl0];refine Out.is (p:=λ_=>True) ?_;refine .bind (p:=λo=>o.1=1\/o.1=2) ?_ λo g=>by rcases g with g|g<;>rw[g]<;>exact .some trivial
 refine CJ (λs:Nat=> .vC kPt l::I (s:Int)::AI x) (λs=>s<=3) (λs=>3-s) _ ?_ 0 (by omega);intro k hk;rw[Zop];refine .cond (λc=> ?_) (λc=> ?_)
 ·have c:=Bl c;refine .cond (λ_=> ?_) λc=>by simp at c
  refine .cond (λ_=> ?_) λc=>by simp at c;omega
  refine .bind (Ztx (M:=M) (x:=x) (k:=(k:Int)) (by omega) (by simp) h1) λo g=> ?_;obtain⟨g1,v,g2,g3⟩:=g;obtain⟨o1,o2⟩:=o;subst g1;subst g2;refine .cond (λ_=> ?_) λc=>by simp at c
  have e:V ((k:Int)+1)=((k+1:Nat):Int):=by rw[Ae];rfl
  have hw:∀(D G L N O S T U X:Int) (Y:Rw),(M [I D,I G,I L,I N,I O,I S,I T,I U,I X, .vC Aa Y, .vC Aa v]).isSome=true:=λD G L N O S T U X Y=>hM D G L N O S T U X Y v (by omega);refine .cond (λ_=> ?_) λc0=> .cond (λ_=> ?_) λc1=> .cond (λ_=> ?_) λc2=> ?_
  ·refine .ibind (hw _ _ _ _ _ _ _ _ _ _) λ_ _=> .cond (λ_=> .some (.inr ⟨by simp, .inl rfl⟩)) λ_=> .some (.inl ⟨rfl,k+1,?_,by omega,by omega⟩);simp only[gA,wA,bA,jA,nth,Af,Bp,e]
  ·refine .ibind (hw _ _ _ _ _ _ _ _ _ _) λ_ _=> .cond (λ_=> .some (.inr ⟨by simp, .inl rfl⟩)) λ_=> .some (.inl ⟨rfl,k+1,?_,by omega,by omega⟩);simp only[gA,wA,bA,jA,nth,Af,Bp,e]
  ·refine .ibind (hw _ _ _ _ _ _ _ _ _ _) λ_ _=> .cond (λ_=> .some (.inr ⟨by simp, .inl rfl⟩)) λ_=> .some (.inl ⟨rfl,k+1,?_,by omega,by omega⟩);simp only[gA,wA,bA,jA,nth,Af,Bp,e]
  ·have c0:=Bs c0;have c1:=Bs c1;have c2:=Bs c2
   simp[gA,wA,bA,jA,nth,Af]at c0 c1 c2;omega
 ·exact .some (.inr ⟨by simp, .inr rfl⟩)
theorem Zsb (x:Ax3) {l:Rw} (D:l.length<=100000):(Nv (AI x++[.vC kPt l])).isSome=true:=Zln Z8w x D
theorem Zcg (u:Int):(IU [I u]).isSome=true:=by
 show(Qpi [I u]).isSome=true;rw[Yax];exact BO (λ_=>rfl) λ_=>rfl
structure Fix (p : Pth) (x : Ax3) (t : Trk) : Prop where
 p:GoodPath p
 x:Ax3M x
 t:TH t
theorem Qi {x:Ax3} (h:Fix p x t) (u:Int):DV (pxt p x t [I u])=some (ptR (Hj p x t u)):=Ybi h.p h.x h.t u
theorem Z7u {x:Ax3} (L:∀{l:Rw},l.length<=100000->(M (AI x++[.vC kPt l])).isSome=true) (N:∀u,(Z (pxt p x t [I u])).isSome=true) (O:∀u,(W [I u]).isSome=true) {way:Rw} (S:way.length<=100000):
  (Qgz M Z W (Am (Z6 M Z W)) (pxt p x t [.vC Aa way])).isSome=true:=by
 rw[Zmp];refine Out.is (p:=λ_=>True) ?_;refine .bind (p:=λo=>o.1=1\/o.1=2) ?_ λo g=>by rcases g with g|g<;>rw[g]<;>exact .some trivial
 refine CJ (λs:Rw×Nat=> .vC kPt s.1:: .vC Aa way::I (way.length:Int)::I (s.2:Int)::pxt p x t []) (λs=>s.1.length<=4/\s.2<=way.length) (λs=>way.length-s.2) _ ?_ ([],0) (by simp);rintro⟨v,i⟩ ⟨g1,g2⟩;dsimp only at g1 g2;rw[Z3d];try dsimp only[D]
 rw[Ae (x:=(i:Int)+1)];refine .cond (λc=> ?_) (λc=> ?_)
 ·have c:=Bl c;refine .cond (λ_=> ?_) λc=>by simp at c;omega
  refine .ibind (O _) λa _=> .ibind (N _) λb _=> ?_;refine .cond (λ_=> ?_) λc=>by rw[B_ (by simp;omega)]at c;cases c
  generalize [jA b 0,jA b 1,jA b 2]=q;refine .cond (λ_=> ?_) λG=> ?_
  ·refine .cond (λ_=> ?_) λc=>by simp at c;omega
   refine .cond (λ_=> ?_) λc=>by rw[B_ (by simp)]at c;cases c
   refine .ibind (L (l:=List.drop (Int.toNat 1) (v++[q])) (by simp;omega)) λ_ _=> .cond (λ_=> .some (.inr ⟨by simp, .inl rfl⟩)) λ_=> ?_;exact .some (.inl ⟨rfl,(_,i+1),rfl,by simp;omega,by simp;omega⟩)
  ·have G:=Bs G;simp at G;refine .ibind (L (l:=v++[q]) (by simp;omega)) λ_ _=> .cond (λ_=> .some (.inr ⟨by simp, .inl rfl⟩)) λ_=> ?_;exact .some (.inl ⟨rfl,(_,i+1),rfl,by simp;omega,by simp;omega⟩)
 ·exact .some (.inr ⟨by simp, .inr rfl⟩)
theorem Znh {x:Ax3} (h:Fix p x t) {way:Rw} (D:way.length<=100000):(Q3 (pxt p x t [.vC Aa way])).isSome=true:=
 Z7u (Zsb x) (λu=>by rw[Qi h u];rfl) Zcg D
theorem Ze2 (O S:Int) (T b1 b2:Bool) (U V X Y x9 D G L M N:Int):(Q6 [I O,I S,B T,B b1,B b2,I U,I V,I X,I Y,I x9,I D,I G,I L,I M,I N]).isSome=true:=by
 show(Qlw [I O,I S,B T,B b1,B b2,I U,I V,I X,I Y,I x9,I D,I G,I L,I M,I N]).isSome=true;rw[Z7b]
 repeat' first|exact rfl|refine BO (λ_=> ?_) (λ_=> ?_)
theorem Qqj {x:Ax3} (h:Fix p x t) (u:Int):i64 (BJ t u):=by
 have:=Q0o h.t.q u;unfold i64;omega
theorem Qbn:∀(l:List Sgm) (s:Int),l≠[]->(Bg l s).1<l.length
 |[],_,h=>absurd rfl h
 |[g],s,_=>by unfold Bg;split<;>simp
 |g::h::l,s,_=>by
  by_cases c:s<g.len
  ·rw[Bg,aa c];simp
  ·rw[Zbs c];have:=Qbn (h::l) (s-g.len) (by simp);simp at this⊢;omega
theorem Z6l {x:Ax3} (h:Fix p x t) {s:Int} (D:i64 s):∃i v:Int,EE (Bk p++[I s])=some [I i,I v]/\(i= -1\/0<=i/\i<p.aF.length)/\(p.aF≠[]->0<=i):=by
 rw[VN (h.p.ok) D];by_cases c:p.aF=[]
 ·rw[aa c];exact⟨-1,0,rfl, .inl rfl,λh=>absurd c h⟩
 ·rw[ab c];have:=Qbn p.aF (max s 0) c;exact⟨_,_,rfl, .inr ⟨by omega,by omega⟩,λ_=>by omega⟩
theorem Z90 (X:∀(Y x1:Int) (D b1 b2:Bool) (x5 x6 x7 x8 x9 G L N O T:Int),(M [I Y,I x1,B D,B b1,B b2,I x5,I x6,I x7,I x8,I x9,I G,I L,I N,I O,I T]).isSome=true)
  (hF:∀s,i64 s->∃i v:Int,Z (Bk p++[I s])=some [I i,I v]/\(i= -1\/0<=i/\i<p.aF.length)/\(p.aF≠[]->0<=i)) (hP:∀u,∃s,W (A0 t++[I u])=some [I s]/\i64 s) (hU:∀u,(S [I u]).isSome=true) (U:p.aF≠[])
  (a b c o0 o1:Int) (D b1 b2:Bool) (u:Int):
  (Qkp M Z W S (EQ p t [I a,I b,I c,I o0,I o1,B D,B b1,B b2,I u])).isSome=true:=by
 rw[Zqt];refine Fl (hU _) λq _=> ?_;obtain⟨s,h1,h2⟩:=hP (gA q 0);rw[h1];simp only[af];obtain⟨i,v,g1,g2,V⟩:=hF s h2;simp only[gA,wA,bA,jA,nth,Af];rw[g1];simp only[af,gA,wA,bA,jA,nth,Af];have V:=V U;refine BO (λ_=>Fl (X _ _ _ _ _ _ _ _ _ _ _ _ _ _ _) λ_ _=>rfl) λc=> ?_;simp at c;have:=c (ai V);omega
theorem Zpj {x:Ax3} (h:Fix p x t) (D:p.aF≠[]) (a b c o0 o1:Int) (G b1 b2:Bool) (u:Int):
  (NI (EQ p t [I a,I b,I c,I o0,I o1,B G,B b1,B b2,I u])).isSome=true:=
 Z90 Ze2 (λ_ L=>Z6l h L) (λu=>⟨_,RY h.t.q u,Qqj h u⟩) Zcg D a b c o0 o1 G b1 b2 u
theorem Ztp {a b c o0 o1:Int} {L b1 b2:Bool} (D:p.aF≠[]->∀u,(M (EQ p t [I a,I b,I c,I o0,I o1,B L,B b1,B b2,I u])).isSome=true)
  (S:∀a b c T U V X Y x8,Out (λo=>(wA o 0).length<=4096) (Z [I a,I b,I c,I T,I U,I V,I X,I Y,I x8])) (m0 m1 m2 m3 m4 m5:Int):
  (Qiw M Z (Am (XL M Z)) (EQ p t [I a,I b,I c,I o0,I o1,B L,B b1,B b2,I m0,I m1,I m2,I m3,I m4,I m5])).isSome=true:=by
 rw[Zmm];obtain⟨o,h1,h2⟩:=S a b c m0 m1 m2 m3 m4 m5;rw[h1];simp only[af];generalize wA o 0=G at*;refine BO (λ_=>rfl) λ_=>BO (λ_=>rfl) λO=> ?_;have N:p.aF≠[]:=by
  intro e;rw[e]at O;simp at O
 have D:=D N;refine Fl (D _) λ_ _=>BO (λ_=>rfl) λ_=> ?_;refine Out.is (p:=λ_=>True) ?_;refine .bind (p:=λo=>o.1=1\/o.1=2) ?_ λo g=>by rcases g with g|g<;>rw[g]<;>exact .some trivial
 refine CJ (λs:Int×Nat=>I s.1:: .vC Aa G::I (G.length:Int)::I (s.2:Int)::EQ p t [I a,I b,I c,I o0,I o1,B L,B b1,B b2]) (λs=>s.2<=G.length) (λs=>G.length-s.2) _ ?_ (m0,0) (by simp);rintro⟨v,i⟩ g;dsimp only at g;rw[Zlo];rw[Ae (x:=(i:Int)+1)];refine .cond (λc=> ?_) (λc=> ?_)
 ·have c:=Bl c;refine .cond (λ_=> ?_) λc=>by simp at c;omega
  refine .ibind (D _) λ_ _=> .cond (λ_=> .some (.inr ⟨by simp, .inl rfl⟩)) λ_=> ?_;exact .some (.inl ⟨rfl,(_,i+1),rfl,by dsimp only;omega,by dsimp only;omega⟩)
 ·exact .some (.inr ⟨by simp, .inr rfl⟩)
theorem Zx0 {x:Ax3} (h:Fix p x t) (a b c o0 o1:Int) (G b1 b2:Bool) (m0 m1 m2 m3 m4 m5:Int):
  (Mi (EQ p t [I a,I b,I c,I o0,I o1,B G,B b1,B b2,I m0,I m1,I m2,I m3,I m4,I m5])).isSome=true:=
 Ztp (λD u=>Zpj h D a b c o0 o1 G b1 b2 u) Qq7 m0 m1 m2 m3 m4 m5
theorem Z8r (I:y<i*4294967296+A) (L:R<4294967296) (D:y=J*i+C) (h:4294967296<=J\/C*4294967296+R<J*A):(y*4294967296+R)/(i*4294967296+A)<J:=by
 have G:0<i*4294967296+A:=by omega
 rw[ff G];rcases h with h|h
 ·have M:4294967296*(i*4294967296+A)<=J*(i*4294967296+A):=be _ h;omega
 ·have e:J*(i*4294967296+A)=J*i*4294967296+J*A:=by rw[Nat.mul_add,gi]
  rw[e];clear e;generalize J*i=p at*;generalize J*A=t at*;subst D;rw[dl p C 4294967296,dp];exact Nat.add_lt_add_left h _
theorem Q0q {a b v u q r:Nat} (G:v<a*4294967296+b) (I:v=q*a+r) (h:q*b<=r*4294967296+u):q<=(v*4294967296+u)/(a*4294967296+b):=by
 have D:0<a*4294967296+b:=by omega
 rw[Nat.le_div_iff_mul_le D];have e:q*(a*4294967296+b)=q*a*4294967296+q*b:=by rw[Nat.mul_add,gi]
 rw[e];generalize q*a=p at*;generalize q*b=t at*;omega
theorem Q39 (D:y<i*4294967296+A) (G:R<4294967296):(y*4294967296+R)/(i*4294967296+A)<4294967296:=by
 rw[ff (by omega)];omega
theorem Qte {q b:Nat} (D:q<4294967296) (hb:b<4294967296):q*b<=18446744065119617025:=by
 have:=dh (show q<=4294967295 by omega) (show b<=4294967295 by omega);omega
theorem VW {α:Type} {F G:Nat->Nat->Option α} {a b v u Q:Nat} (D:(v*4294967296+u)/(a*4294967296+b)=Q) (hb:b<4294967296) (V:2147483648<=a) (L:a<4294967296) (I:v<a*4294967296+b) (O:u<4294967296) {X:α}
  (S:∀q r:Nat,q<=4294967297->r<4294967296->F q r=if 4294967296<=q\/r*4294967296+u<q*b then(if 4294967296<=r+a then G (q-1) 0 else F (q-1) (r+a))else G q 0)
  (M:G Q 0=some X):∀(k q r:Nat),q<=Q+k->Q<=q->v=q*a+r->r<4294967296->q<=4294967297->F q r=some X
 |k,q,r,hk,h1,T,Y,h4=>by
  rw[S q r h4 Y];by_cases c:4294967296<=q\/r*4294967296+u<q*b
  ·rw[aa c];have h5:=Z8r I O T c;rw[D]at h5;have e:v=(q-1)*a+(r+a):=by
    have:(q-1)*a+a=q*a:=by rw[<-f6];congr 1;omega
    omega
   by_cases U:4294967296<=r+a
   ·rw[aa U];have h6:(q-1)*b<=(r+a)*4294967296+u:=by
     have:=dh (show q-1<=4294967296 by omega) (show b<=4294967296 by omega);omega
    have N:=Q0q I e h6;rw[D]at N;rw[show q-1=Q by omega];exact M
   ·rw[ab U]
    match k with
    |0=>omega
    |k+1=>exact VW D hb V L I O S M k (q-1) (r+a) (by omega) (by omega) e (by omega) (by omega)
  ·rw[ab c];have N:=Q0q (u:=u) I T (by omega);rw[D]at N;rw[show q=Q by omega];exact M
theorem Q7c (hb:A<4294967296) (G:2147483648<=i) (I:y<i*4294967296+A) (L:R<4294967296):(y*4294967296+R)/(i*4294967296+A)<=y/i/\y/i<=4294967297/\y=y/i*i+y%i/\y%i<i:=by
 have e:y=y/i*i+y%i:=by have:=fv y i;rw[dz]at this;omega
 have D:y%i<i:=gf _ (by omega);refine⟨?_,?_,e,D⟩
 ·rw[<-Nat.lt_succ_iff,ff (by omega)];have e2:(y/i).succ*(i*4294967296+A)=(y/i*i+i)*4294967296+(y/i).succ*A:=by rw[Nat.mul_add,<-gi,f6]
  rw[e2];omega
 ·rw[<-Nat.lt_succ_iff,ff (by omega)];omega
theorem wr {x:Nat} (h:x<=18446744073709551615):wrap .u64 (x:Int)=x:=Dl (by omega)
theorem Z1k {y s v0:Int} (hb:A<4294967296) (T:2147483648<=i) (L:i<4294967296) (V:R<i*4294967296+A) (X:J<4294967296):
  Am (LW M) [U y,U s,U i,U A,U R,U J,U v0,U ((R/i:Nat):Int),U ((R%i:Nat):Int)]=some (1,[U y,U s,U i,U A,U R,U J,U v0,U (((R*4294967296+J)/(i*4294967296+A):Nat):Int)]):=by
 obtain⟨Y,f2,f3,f4⟩:=Q7c hb T V X;refine VW (F:=λq r=>Am (LW M) [U y,U s,U i,U A,U R,U J,U v0,U q,U r]) (G:=λq _=>some (1,[U y,U s,U i,U A,U R,U J,U v0,U q])) rfl hb T L V X ?_ rfl (R/i) _ _ (Nat.le_add_left _ _) Y f3 (by omega) f2;intro q r hq hr;have w1:wrap .u64 ((r:Int)+(i:Int))=((r+i:Nat):Int):=by rw[<-gx,wr (by omega)]
 have w3:wrap .u64 (wrap .u64 (4294967296*(r:Int))+(J:Int))=((r*4294967296+J:Nat):Int):=by rw[show(4294967296:Int)*r=((r*4294967296:Nat):Int) by omega,wr (by omega),<-gx,wr (by omega)]
 have w4:4294967296<=q->wrap .u64 ((q:Int)-1)=((q-1:Nat):Int):=λh=>by rw[show(q:Int)-1=((q-1:Nat):Int) by omega,wr (by omega)]
 have D:=Zq6 (DL:=M) y s i A R J v0 q r;rw[w1,w3]at D;by_cases N:4294967296<=q
 ·rw[DG (show(q:Int)>=4294967296 by omega),w4 N]at D;show _=if _ then _ else _;rw[aa (.inl N)];by_cases I:4294967296<=r+i
  ·rw[DG (show((r+i:Nat):Int)>=4294967296 by omega)]at D;rw[aa I];exact AQ D (by simp)
  ·rw[A1 (show¬((r+i:Nat):Int)>=4294967296 by omega)]at D;rw[ab I];exact A5 D
 ·have O:=Qte (q:=q) (b:=A) (by omega) hb;rw[A1 (show¬(q:Int)>=4294967296 by omega),<-da,wr (bp O (by decide))]at D;show _=if _ then _ else _;by_cases S:r*4294967296+J<q*A
  ·rw[DG (show((q*A:Nat):Int)>((r*4294967296+J:Nat):Int) by omega)]at D;rw[aa (.inr S)];have a0:0<q:=by
    rcases d7 q with h|h
    ·rw[h]at S;omega
    ·exact h
   rw[show(q:Int)-1=((q-1:Nat):Int) by omega,wr (by omega)]at D;by_cases I:4294967296<=r+i
   ·rw[DG (show((r+i:Nat):Int)>=4294967296 by omega)]at D;rw[aa I];exact AQ D (by simp)
   ·rw[A1 (show¬((r+i:Nat):Int)>=4294967296 by omega)]at D;rw[ab I];exact A5 D
  ·rw[A1 (show¬((q*A:Nat):Int)>((r*4294967296+J:Nat):Int) by omega)]at D;rw[ab (λh=>h.elim N S)];exact AQ D (by simp)
theorem Zzl {y s q1 w:Int} (hb:A<4294967296) (V:2147483648<=i) (L:i<4294967296) (X:R<i*4294967296+A) (Y:J<4294967296):
  Am (PJ M N) [U y,U s,U i,U A,U J,U q1,U ((R%i:Nat):Int),U w,U ((R/i:Nat):Int)]=some (1,[U y,U s,U J,U q1,U w,U (((R*4294967296+J)/(i*4294967296+A):Nat):Int)]):=by
 obtain⟨f1,f2,f3,f4⟩:=Q7c hb V X Y;refine VW (F:=λq r=>Am (PJ M N) [U y,U s,U i,U A,U J,U q1,U r,U w,U q]) (G:=λq _=>some (1,[U y,U s,U J,U q1,U w,U q])) rfl hb V L X Y ?_ rfl (R/i) _ _ (Nat.le_add_left _ _) f1 f3 (by omega) f2;intro q r hq hr;have w1:wrap .u64 ((r:Int)+(i:Int))=((r+i:Nat):Int):=by rw[<-gx,wr (by omega)]
 have w3:wrap .u64 (wrap .u64 (4294967296*(r:Int))+(J:Int))=((r*4294967296+J:Nat):Int):=by rw[show(4294967296:Int)*r=((r*4294967296:Nat):Int) by omega,wr (by omega),<-gx,wr (by omega)]
 have w4:4294967296<=q->wrap .u64 ((q:Int)-1)=((q-1:Nat):Int):=λh=>by rw[show(q:Int)-1=((q-1:Nat):Int) by omega,wr (by omega)]
 have D:=Zpd (DL:=M) (N17:=N) y s i A J q1 r w q;rw[w1,w3]at D;by_cases O:4294967296<=q
 ·rw[DG (show(q:Int)>=4294967296 by omega),w4 O]at D;show _=if _ then _ else _;rw[aa (.inl O)];by_cases I:4294967296<=r+i
  ·rw[DG (show((r+i:Nat):Int)>=4294967296 by omega)]at D;rw[aa I];exact AQ D (by simp)
  ·rw[A1 (show¬((r+i:Nat):Int)>=4294967296 by omega)]at D;rw[ab I];exact A5 D
 ·have S:=Qte (q:=q) (b:=A) (by omega) hb;rw[A1 (show¬(q:Int)>=4294967296 by omega),<-da,wr (bp S (by decide))]at D;show _=if _ then _ else _;by_cases T:r*4294967296+J<q*A
  ·rw[DG (show((q*A:Nat):Int)>((r*4294967296+J:Nat):Int) by omega)]at D;rw[aa (.inr T)];have a0:0<q:=by
    rcases d7 q with h|h
    ·rw[h]at T;omega
    ·exact h
   rw[show(q:Int)-1=((q-1:Nat):Int) by omega,wr (by omega)]at D;by_cases I:4294967296<=r+i
   ·rw[DG (show((r+i:Nat):Int)>=4294967296 by omega)]at D;rw[aa I];exact AQ D (by simp)
   ·rw[A1 (show¬((r+i:Nat):Int)>=4294967296 by omega)]at D;rw[ab I];exact A5 D
  ·rw[A1 (show¬((q*A:Nat):Int)>((r*4294967296+J:Nat):Int) by omega)]at D;rw[ab (λh=>h.elim O T)];exact AQ D (by simp)
theorem Q4p {s:Nat} (D:s<=63):(2:Int)^min (Int.toNat (s:Int)) IntKind.u64.bits=((2^s:Nat):Int):=by
 have e:min (Int.toNat (s:Int)) IntKind.u64.bits=s:=by
  show min (Int.toNat (s:Int)) 64=s;omega
 rw[e];simp
theorem Z67 {s:Nat} (D:s<=63):(2:Int)^min (Int.toNat ((64-s:Nat):Int)) IntKind.u64.bits=((2^(64-s):Nat):Int):=by
 have e:min (Int.toNat ((64-s:Nat):Int)) IntKind.u64.bits=64-s:=by
  show min (Int.toNat ((64-s:Nat):Int)) 64=64-s;omega
 rw[e];simp
theorem Q7n (x y:Nat):((x:Int)).fdiv (y:Int)=((x/y:Nat):Int):=by
 rw[fj _ (by omega)];rfl
theorem ZA (x y:Nat):((x:Int)).tdiv (y:Int)=((x/y:Nat):Int):=by
 rw[bq (by omega)];rfl
theorem orP {A B s:Nat} (hB:B<2^s) (h:A*2^s+B<w64):wrap .u64 (((BitVec.ofInt IntKind.u64.bits ((A*2^s:Nat):Int)|||BitVec.ofInt IntKind.u64.bits (B:Int)).toNat:Nat):Int)=((A*2^s+B:Nat):Int):=by
 rw[A7]at h;have e:(BitVec.ofInt IntKind.u64.bits ((A*2^s:Nat):Int)|||BitVec.ofInt IntKind.u64.bits (B:Int)).toNat=A*2^s+B:=by
  rw[BitVec.toNat_or];have e1:∀v:Nat,v<18446744073709551616->(BitVec.ofInt IntKind.u64.bits (v:Int)).toNat=v:=by
   intro v D;simp only[IntKind.bits,je];omega
  have:=(jp hB A).symm;rw[dz]at this;generalize A*2^s=X at*;rw[e1 _ (by omega),e1 _ (by omega)];exact this
 rw[e,wr (by omega)]
theorem Q3d {v u D y:Nat} (I:y<w64) (L:D=(v*4294967296+u)/y) (G:0<y):wrap .u64 (wrap .u64 (wrap .u64 ((v:Int)*4294967296)+(u:Int))-wrap .u64 ((D:Int)*(y:Int)))=(((v*4294967296+u)%y:Nat):Int):=by
 have M:=fv (v*4294967296+u) y;have N:=gf (v*4294967296+u) G;rw[<-L,dz]at M;rw[A7]at I;rw[Ly,Ly,Ly,Ly,<-da];generalize D*y=p at*;generalize(v*4294967296+u)%y=r at*;omega
theorem Q80 (D:0<A) (G:i<w64):wrap .u64 ((i:Int)-wrap .u64 (wrap .u64 ((i/A:Nat):Int)*(A:Int)))=((i%A:Nat):Int):=by
 have I:=fv i A;have L:=gf i D;have M:=gr i A;rw[A7]at G;rw[wr (x:=i/A) (by omega),<-da];rw[dz]at I;generalize i/A*A=p at*;generalize i%A=r at*;rw[wr (x:=p) (by omega),show(i:Int)-(p:Int)=(r:Int) by omega,wr (by omega)]
theorem Z93 {v u1 u0 Y:Nat} (D:0<Y):(v*w64+(u1*4294967296+u0))/Y=(v*4294967296+u1)/Y*4294967296+((v*4294967296+u1)%Y*4294967296+u0)/Y/\
  (v*w64+(u1*4294967296+u0))%Y=((v*4294967296+u1)%Y*4294967296+u0)%Y:=by
 have e:v*w64+(u1*4294967296+u0)=((v*4294967296+u1)%Y*4294967296+u0)+(v*4294967296+u1)/Y*4294967296*Y:=by
  have h:=fv (v*4294967296+u1) Y;rw[dz]at h;rw[A7];generalize(v*4294967296+u1)%Y=r at*;have e2:(v*4294967296+u1)/Y*4294967296*Y=(v*4294967296+u1)/Y*Y*4294967296:=by rw[gi,dz 4294967296,<-gi]
  rw[e2];generalize(v*4294967296+u1)/Y*Y=p at*;omega
 rw[e,Nat.add_mul_div_right _ _ D,Nat.add_mul_mod_self_right];exact⟨jy _ _,rfl⟩
theorem Zxi {D lo y s:Nat} (h0:0<D) (h1:D<y) (a9:y<w64) (a5:lo<w64) (hs:s<=63) (h2:9223372036854775808<=y*2^s) (G:y*2^s<w64) (hM:M [U y]=some [I s]):
  Qei M (Am (LW M)) (Am (PJ M (Am (LW M)))) [U D,U lo,U y]=some [U (((D*w64+lo)/y:Nat):Int),U (((D*w64+lo)%y:Nat):Int)]:=by
 have hP:0<2^s:=ez _;have a1:2^s*2^(64-s)=w64:=by rw[A7,<-Nat.pow_add,show s+(64-s)=64 by omega]
 have hT:0<2^(64-s):=ez _;have es:wrap .u64 (s:Int)=s:=wr (by omega);have et:wrap .u64 (64-(s:Int))=((64-s:Nat):Int):=by rw[show(64:Int)-s=((64-s:Nat):Int) by omega,wr (by omega)]
 have hB:lo/2^(64-s)<2^s:=by rw[ff hT,a1];exact a5
 have hv:D*2^s+lo/2^(64-s)<y*2^s:=by
  have:D*2^s+2^s<=y*2^s:=by rw[<-f6];exact be _ h1
  omega
 have hN:(D*w64+lo)*2^s=(D*2^s+lo/2^(64-s))*w64+lo*2^s%w64:=by
  have e1:lo*2^s/w64=lo/2^(64-s):=by
   rw[<-a1,dz lo,Nat.mul_div_mul_left _ _ hP]
  have e2:=fv (lo*2^s) w64;rw[e1]at e2;rw[dl,dl,dp,dz (lo/2^(64-s)),e2];congr 1;rw[gi,dz w64,gi]
 have hU:lo*2^s%w64<w64:=gf _ R4;have ey:wrap .u64 ((y:Int)*((2^s:Nat):Int))=((y*2^s:Nat):Int):=by rw[<-da,wr (Nat.le_of_lt_succ (by rw[A7]at G;exact G))]
 have eh:wrap .u64 ((D:Int)*((2^s:Nat):Int))=((D*2^s:Nat):Int):=by
  rw[<-da,wr (Nat.le_of_lt_succ (by have:=d9 h1 hP;rw[A7]at G;exact Nat.lt_trans this G))]
 have el:wrap .u64 ((lo:Int)*((2^s:Nat):Int))=((lo*2^s%w64:Nat):Int):=by
  rw[<-da,Ly,A7];rfl
 have eo:=orP (A:=D) (B:=lo/2^(64-s)) (s:=s) hB (by omega);have hq:(D*w64+lo)/y=(D*w64+lo)*2^s/(y*2^s):=(Nat.mul_div_mul_right _ _ hP).symm;have hr:(D*w64+lo)%y=(D*w64+lo)*2^s%(y*2^s)/2^s:=by rw[Nat.mul_mod_mul_right,Nat.mul_div_cancel _ hP]
 rw[hq,hr,hN];rw[Q1g];simp only[hM,af,H4,Mm,LR,Ru,PU,Uy,Qfv,Qee,HN,gA,jA,wA,bA,es,et,Q4p hs,Z67 hs,ey,eh,el,Q7n,eo];rw[Bj (by simp;omega),A1 (show¬(y:Int)<=D by omega),Bj (by simp;omega),A1 (show¬(s:Int)<0 by omega),A1 (show¬(s:Int)<0 by omega),A1 (show¬((64-s:Nat):Int)<0 by omega),A1 (show¬(s:Int)<0 by omega)];rw[LJ,Ol _ G,LJ,Ol _ hU];have T:y*2^s=y*2^s/4294967296*4294967296+y*2^s%4294967296:=by omega
 have hW:lo*2^s%w64=lo*2^s%w64/4294967296*4294967296+lo*2^s%w64%4294967296:=by omega
 have hb:y*2^s%4294967296<4294967296:=gf _ (by omega);have a2:lo*2^s%w64%4294967296<4294967296:=gf _ (by omega);have a3:lo*2^s%w64/4294967296<4294967296:=by rw[A7]at hU⊢;omega
 have ha:2147483648<=y*2^s/4294967296:=by omega
 have a4:y*2^s/4294967296<4294967296:=by rw[A7]at G;omega
 clear hN hq hr eh el eo ey hB;generalize D*2^s+lo/2^(64-s)=v at*;generalize lo*2^s%w64=w at*;generalize y*2^s=Y at*;generalize w/4294967296=u1 at*;generalize w%4294967296=u0 at*;generalize Y/4294967296=a at*;generalize Y%4294967296=b at*;subst hW;rw[A1 (show¬(a:Int)=0 by omega),ZA,Q80 (by omega) (Nat.lt_trans hv G),wr (x:=v/a) (by have:=gr v a;rw[A7]at G;omega)];have hl:=Z1k (M:=M) (y:=(Y:Int)) (s:=s) (v0:=u0) hb ha a4 (by rw[<-T];exact hv) a3;rw[hl];rw[<-T];have L:0<Y:=by omega
 have V:=Q3d (v:=v) (u:=u1) (y:=Y) G rfl L;have a6:(v*4294967296+u1)/Y<4294967296:=by rw[T];exact Q39 (by rw[<-T];exact hv) a3
 have O:=gf (v*4294967296+u1) L;obtain⟨k1,k2⟩:=Z93 (v:=v) (u1:=u1) (u0:=u0) L;rw[k1,k2];clear hl k1 k2;obtain⟨X,g1⟩:∃X,(v*4294967296+u1)/Y=X:=⟨_,rfl⟩;obtain⟨S,g2⟩:∃S,(v*4294967296+u1)%Y=S:=⟨_,rfl⟩;rw[g1]at V a6⊢;rw[g2]at V O⊢;simp only[af,H4,Mm,LR,Ru,PU,Uy,Qfv,Qee,HN,V];rw[show Nat.beq 1 1=true from rfl,ah,A1 (show¬(a:Int)=0 by omega),ZA,Q80 (by omega) (Nat.lt_trans O G),wr (x:=S/a) (by have:=gr S a;rw[A7]at G;omega)];have a7:=Zzl (M:=M) (N:=Am (LW M)) (y:=(Y:Int)) (s:=s) (q1:=X) (w:=S) hb ha a4 (by rw[<-T];exact O) a2;rw[a7];rw[<-T];have a0:=Q3d (v:=S) (u:=u0) (y:=Y) G rfl L;have a8:(S*4294967296+u0)/Y<4294967296:=by rw[T];exact Q39 (by rw[<-T];exact O) a2
 obtain⟨q0,g3⟩:∃q0,(S*4294967296+u0)/Y=q0:=⟨_,rfl⟩;obtain⟨r0,g4⟩:∃r0,(S*4294967296+u0)%Y=r0:=⟨_,rfl⟩;rw[g3]at a0 a8⊢;rw[g4]at a0⊢;simp only[af,H4,Mm,LR,Ru,PU,Uy,HN,a0];rw[show Nat.beq 1 1=true from rfl,ah,A1 (show¬(s:Int)<0 by omega),Q4p hs,Q7n];have w1:wrap .u64 (wrap .u64 ((X:Int)*4294967296)+(q0:Int))=((X*4294967296+q0:Nat):Int):=by
  rw[show(X:Int)*4294967296=((X*4294967296:Nat):Int) by omega,wr (by omega),<-gx,wr (by omega)]
 rw[w1]
theorem Zwj (S:0<y) (h:y<w64):∃s:Nat,IL [U y]=some [I s]/\s<=63/\9223372036854775808<=y*2^s/\y*2^s<w64:=by
 have G:=A7;obtain⟨b1,b2,b3⟩:=Lib.bitLenAux_bounds 64 y (by rw[<-show w64=2^64 by rw[G]];exact h) (by omega);have N:Lib.bitLen y=Lib.bitLenAux 64 y:=rfl;generalize hb:Lib.bitLenAux 64 y=L at*;have M:L<=64:=by
  by_cases c:L<=64
  ·exact c
  ·have:=Nat.pow_le_pow_right (show 0<2 by omega) (show 64<=L-1 by omega);rw[show(2:Nat)^64=18446744073709551616 from rfl]at this;omega
 refine⟨64-L,?_,by omega,?_,?_⟩
 ·unfold IL;have D:FE=18446744073709551616:=rfl;have O:inU (y:Int)=true:=by
   simp only[inU,D,ak,co];omega
  simp only[H4,HN,gA,jA,wA,bA,O,ah,al,N];rw[show(64:Int)-(L:Int)=((64-L:Nat):Int) by omega]
 ·have e:2^(L-1)*2^(64-L)=9223372036854775808:=by rw[<-Nat.pow_add,show L-1+(64-L)=63 by omega]
  rw[<-e];exact be _ b2
 ·have e:2^L*2^(64-L)=w64:=by rw[<-Nat.pow_add,show L+(64-L)=64 by omega,G]
  rw[<-e];exact d9 b3 (ez _)
theorem Zce (G:i<y) (I:y<w64) (D:A<w64):GF [U i,U A,U y]=some [U (((i*w64+A)/y:Nat):Int),U (((i*w64+A)%y:Nat):Int)]:=by
 rcases d7 i with h|h
 ·subst h;rw[gz,du];exact Zao D G
 ·obtain⟨s,e,e1,e2,e3⟩:=Zwj (show 0<y by omega) I;exact Zxi h G I D e1 e2 e3 e
theorem Zom (h1:∀x b,(M [U x,B b]).isSome=true) (h2:∀x y b c,(Z [I x,I y,B b,B c]).isSome=true) (N:∀x y,(W [I x,I y]).isSome=true)
  (h4:∀{T lo y:Nat},T<y->y<w64->lo<w64->(S [U T,U lo,U y]).isSome=true) (h5:∀{x y:Nat},x<w64->y<w64->P [U x,U y]=some [U ((x*y/w64:Nat):Int),U ((x*y%w64:Nat):Int)])
  (D:∀{x:Int},i64 x->O [I x]=some [U (x.natAbs:Int)]) (h7:∀x,(H [I x]).isSome=true) {a b c:Int} (V:i64 a) (hb:i64 b) (X:i64 c) (m:Int):
  (Tm M Z W S P O H [I a,I b,I c,I m]).isSome=true:=by
 have G:∀{x:Int},i64 x->x.natAbs<w64:=by
  intro x hx;unfold i64 at hx;rw[A7];omega
 rw[Zaw,D V,D hb,D X];refine BO (λ_=>rfl) λ_=>Fl (h7 _) λ_ _=>BO (λ_=>rfl) λ_=> ?_;simp only[af,gA,wA,bA,jA,nth,Af];rw[h5 (G V) (G hb)];simp only[af,gA,wA,bA,jA,nth,Af];refine BO (λ_=>rfl) λY=> ?_;have Y:=Bs Y;have L:a.natAbs*b.natAbs%w64<w64:=gf _ (by rw[A7];decide);refine Fl (h4 (by omega) (G X) L) λ_ _=>Fl (N _ _) λ_ _=> ?_
 repeat' first|exact rfl|exact h1 _ _|exact h2 _ _ _ _|exact N _ _|refine BO (λ_=> ?_) (λ_=> ?_)|refine Fl ?_ λ_ _=> ?_
theorem Zn9 (x:Int) (b:Bool):(EU [U x,B b]).isSome=true:=by
 show(Qie [U x,B b]).isSome=true;rw[Qqr]
 repeat' first|exact rfl|refine BO (λ_=> ?_) (λ_=> ?_)
theorem Zjp (x y:Int) (b c:Bool):(H2 [I x,I y,B b,B c]).isSome=true:=by
 show(Ql5 [I x,I y,B b,B c]).isSome=true;rw[Q10]
 repeat' first|exact rfl|refine BO (λ_=> ?_) (λ_=> ?_)
theorem Ybs (x y:Int):(FO [I x,I y]).isSome=true:=by
 show(Qju [I x,I y]).isSome=true;rw[Qvw]
 repeat' first|exact rfl|refine BO (λ_=> ?_) (λ_=> ?_)
theorem Z5x (x:Int):(FL [I x]).isSome=true:=by
 show(V2 [I x]).isSome=true;rw[Q5j]
 repeat' first|exact rfl|refine BO (λ_=> ?_) (λ_=> ?_)
theorem Qkk {a b c:Int} (L:i64 a) (hb:i64 b) (M:i64 c) (m:Int):(Bt [I a,I b,I c,I m]).isSome=true:=
 Zom Zn9 Zjp Ybs (λD G N=>by rw[Zce D G N];rfl) (λD G=>Q48 D G) (λh=>IF h) Z5x L hb M m
theorem U3 (x:Int):i64 (V x):=Yam x
theorem Qx7 {l:List AC} (h:(M l).isSome=true) {f:List AC->List AC}:((M l).bind λo=>some (f o)).isSome=true:=Fl h λ_ _=>rfl
theorem Ya2 (D:i64 a) (hb:i64 b):(Qo [I a,I b]).isSome=true:=by
 show(Yh Bt [I a,I b]).isSome=true;have h:=Qkk D hb (show i64 4096 by unfold i64;omega) 0;generalize Bt=M at*;rw[Z4g];exact Qx7 h
theorem Q60 (D:i64 a):(EY [I a]).isSome=true:=by
 show(T2 Bt [I a]).isSome=true;have h:=Qkk D (show i64 1048576 by unfold i64;omega) (show i64 60000 by unfold i64;omega) 2;generalize Bt=M at*;rw[Q4i];exact Qx7 h
theorem Z2t (a b:Int):∃v,RP [I a,I b]=some [I v]/\i64 v:=by
 refine⟨mx (V (a-b)) (V (b-a)),?_,?_⟩
 ·show Qbc [I a,I b]=_;rw[Zl8]
 ·have D:=U3 (a-b);have G:=U3 (b-a)
  unfold mx;split<;>assumption
theorem Qud (a:Int):(GZ [I a]).isSome=true:=by
 show(Qk9 [I a]).isSome=true;rw[Zf4]
 repeat' first|exact rfl|refine BO (λ_=> ?_) (λ_=> ?_)
theorem Zqe (hb:b≠0):(J9 [I a,I b]).isSome=true:=by
 show(Qlp [I a,I b]).isSome=true;rw[Ya0];refine BO (λc=>absurd (Bl c) hb) λ_=>BO (λc=>absurd (Bl c) hb) λ_=>BO (λ_=>rfl) λ_=>rfl
theorem Zlw (L O S T D:Int) {G:Int} (U:i64 G):(La [I L,I O,I S,I T,I D,I G]).isSome=true:=by
 show(YR EY GZ [I L,I O,I S,I T,I D,I G]).isSome=true;have h:=Q60 U;have V:=Qud D;generalize EY=M at*;generalize GZ=N at*;rw[Zo0]
 repeat' first|exact rfl|exact h|exact V|refine BO (λ_=> ?_) (λ_=> ?_)|refine Fl ?_ λ_ _=> ?_
theorem Yal (L O S T D:Int) {G:Int} (U:i64 G):(Nb [I L,I O,I S,I T,I D,I G]).isSome=true:=by
 show(X6 EY GZ [I L,I O,I S,I T,I D,I G]).isSome=true;have h:=Q60 U;have V:=Qud D;generalize EY=M at*;generalize GZ=N at*;rw[Zth]
 repeat' first|exact rfl|exact h|exact V|refine BO (λ_=> ?_) (λ_=> ?_)|refine Fl ?_ λ_ _=> ?_
structure Plan3 (a b c : Int) : Prop where
 a:1<=a/\a<=65536
 b:2<=b/\b<=65536
 c:1<=c/\c<=16777216
abbrev Ec (m0 m1 m3 m4 v:Int):List AC:=[I (V (m0+v)),I v,I (V (v-m1)),I m0,I m3,I m4]
theorem Za3 (m0 m1 m2 m3 m4 m5 v:Int):JF [I m0,I m1,I m2,I m3,I m4,I m5,I v]=some (Ec m0 m1 m3 m4 v):=by
 show VM [I m0,I m1,I m2,I m3,I m4,I m5,I v]=some (Ec m0 m1 m3 m4 v);rw[Z7k]
theorem CQ (a:AC) (l:List AC):nth .vD (a::l) 0=a:=rfl
theorem Ei (a:AC) (l:List AC) (n:Nat):nth .vD (a::l) (n+1)=nth .vD l n:=rfl
theorem Dy (n:Int):Af (.int .i64 n)=n:=rfl
theorem Ya6 {x:Ax3} (G:∀u,(M (pxt p x t [I u])).isSome=true) (S:0<=t.length/\t.length<=900000000000000) (D u2:Int) (T:u2-D<=1000000000000):
  (SE M (Am (RI M)) (pxt p x t [I D,I u2])).isSome=true:=by
 rw[Q1r];have L:0<=mx 0 (mn D t.length)/\mx 0 (mn D t.length)<=t.length/\mx 0 (mn u2 t.length)-mx 0 (mn D t.length)<=1000000000000/\mx 0 (mn u2 t.length)<=t.length:=by
  unfold mx mn
  (repeat' split)<;>omega
 obtain⟨U,V,X,Y⟩:=L;generalize mx 0 (mn D t.length)=f at*;generalize mx 0 (mn u2 t.length)=e at*;refine Fl (G _) λo _=> ?_;refine Out.is (p:=λ_=>True) ?_;refine .bind (p:=λo=>o.1=1) ?_ λo g=>by rw[g];exact .some trivial
 show Out _ (Am _ (.vC kPt []::I e::I f::pxt p x t [I (gA o 0),I (gA o 1),I (gA o 2)]));generalize gA o 0=w0;generalize gA o 1=N;generalize gA o 2=O;refine CJ (λs:Rw×Int×Int×Int×Int=> .vC kPt s.1::I e::I s.2.1::pxt p x t [I s.2.2.1,I s.2.2.2.1,I s.2.2.2.2]) (λs=>f<=s.2.1/\s.2.1<=t.length/\(s.1.length:Int)<=3*(s.2.1-f)) (λs=>(e-s.2.1).toNat) _ ?_ ([],f,w0,N,O) (by simp;omega);rintro⟨v,u,a0,a1,a2⟩ ⟨q1,q2,q3⟩;dsimp only at*;rw[Zdo];try dsimp only[L7]
 rw[Ae (x:=u+1)];refine .cond (λc=> ?_) (λ_=> .some (.inr ⟨by simp,rfl⟩));have c:=Bl c;refine .ibind (G _) λo _=> ?_
 repeat' first
  |(refine .cond (λ_=> ?_) λc=>by rw[B_ (by simp;omega)]at c;cases c)
  |refine .cond (λ_=> ?_) (λ_=> ?_)
 all_goals refine Out.some (Or.inl ⟨rfl,(_,u+1,_,_,_),rfl,by simp;omega,by show(e-(u+1)).toNat<(e-u).toNat;omega⟩)
theorem Ycw {x:Ax3} (h:Fix p x t) (D u2:Int) (G:u2-D<=1000000000000):(I1 (pxt p x t [I D,I u2])).isSome=true:=
 Ya6 (λu=>by rw[Qi h u];rfl) h.t.q.len D u2 G
def BK (k b:Int):Int:=if b<=0 then 0 else(b-1)/k*b-k*((b-1)/k*((b-1)/k+1)/2)
def Cx (j k v a:Int):Prop:= -j<=a/\a<=j/\BK k (-a)<=v/\v<=16777216-BK k a/\(v=0->a<=k)
instance (j k v a:Int):Decidable (Cx j k v a):=by unfold Cx;infer_instance
theorem Q6i (I:2<=k/\k<=65536) (hb:0<b/\b<=1048576):
  0<=(b-1)/k/\(b-1)/k<=524288/\k*((b-1)/k)<=b-1/\0<=(b-1)/k*b/\(b-1)/k*b<=549755813888/\0<=(b-1)/k*((b-1)/k+1)/\(b-1)/k*((b-1)/k+1)<=274878431232:=by
 have D:0<=(b-1)/k:=Int.ediv_nonneg (by omega) (by omega);have L:k*((b-1)/k)<=b-1:=Int.mul_ediv_self_le (by omega);have M:2*((b-1)/k)<=k*((b-1)/k):=ew I.1 D;have G:(b-1)/k<=524288:=by omega
 have N:(b-1)/k*b<=524288*1048576:=fd G hb.2 (by omega) (by omega);have O:(b-1)/k*((b-1)/k+1)<=524288*524289:=fd G (by omega) (by omega) (by omega);exact⟨D,G,L,fq D (by omega),by omega,fq D (by omega),by omega⟩
theorem KO (h:b<=0):BK k b=0:=by simp[BK,h]
theorem Qtc (h:b<=k):BK k b=0:=by
 unfold BK;split
 ·rfl
 ·rw[Int.ediv_eq_zero_of_lt (by omega) (by omega)];simp
theorem Zl3 (m:Int):m*(m+1)/2=(m-1)*m/2+m:=by
 have:m*(m+1)=(m-1)*m+m*2:=by
  rw[Int.sub_mul,Int.mul_add,Int.mul_one,i8];omega
 rw[this,Int.add_mul_ediv_right _ _ (by omega)]
theorem YP (D:0<k) (h:k<b):BK k b=(b-k)+BK k (b-k):=by
 have e1:(b-1)/k=(b-k-1)/k+1:=by
  have:b-1=(b-k-1)+k*1:=by omega
  rw[this,Int.add_mul_ediv_left _ _ (by omega)]
 unfold BK;rw[ab,ab,e1];generalize(b-k-1)/k=m;rw[Zl3 (m+1)];have e2:m+1-1=m:=by omega
 rw[e2,Int.mul_add k,js m 1 b,Int.mul_sub m b k,Int.mul_add k m 1,ja k m];omega
theorem Qt0 {k:Int} (D:0<k):∀(n:Nat) (b:Int),b<=n->0<=BK k b
 |0,b,h=>by rw[KO (by omega)];omega
 |n+1,b,h=>by
  by_cases hb:b<=k
  ·rw[Qtc hb];omega
  ·rw[YP D (by omega)];have:=Qt0 D n (b-k) (by omega);omega
theorem Lz (D:0<k):0<=BK k b:=Qt0 D b.toNat b (by omega)
theorem Qyu (D:2<=k/\k<=65536) (hb:b<=1048576):BK k b<=549755813888:=by
 unfold BK;split
 ·omega
 ·have p:=Q6i (k:=k) (b:=b) D ⟨by omega,hb⟩;generalize(b-1)/k=m at p⊢;obtain⟨G,I,L,M,N,O,S⟩:=p;have T:0<=k*(m*(m+1)/2):=fq (by omega) (by omega);omega
def bs (k v:Int):Nat->Int->Int->Int
 |0,low,_=>low
 |n+1,low,aY=>if low<aY then
   if BK k (aY-(aY-low)/2)<=v-(aY-(aY-low)/2)then bs k v n (aY-(aY-low)/2) aY else bs k v n low (aY-(aY-low)/2-1)
  else low
def AJ (j k v a:Int):Int:= -(bs k v 20 (-a-k) (min (k-a) j))
theorem Qn6 (k v:Int):∀(n:Nat) (low aY:Int),low<=bs k v n low aY/\bs k v n low aY<=max low aY
 |0,low,aY=>by simp only[bs];omega
 |n+1,low,aY=>by
  unfold bs;split
  ·split
   ·have:=Qn6 k v n (aY-(aY-low)/2) aY;omega
   ·have:=Qn6 k v n low (aY-(aY-low)/2-1);omega
  ·omega
theorem Qnw (k v:Int):∀(n:Nat) (low aY:Int),low<=aY->aY-low<2^n->BK k low<=v-low->
  BK k (bs k v n low aY)<=v-bs k v n low aY/\low<=bs k v n low aY/\bs k v n low aY<=aY/\(bs k v n low aY=aY\/v-(bs k v n low aY+1)<BK k (bs k v n low aY+1))
 |0,low,aY,I,M,G=>by
  simp only[bs];have:aY-low<1:=by simpa using M
  exact⟨G,by omega,I, .inl (by omega)⟩
 |n+1,low,aY,I,M,G=>by
  have N:(2:Int)^(n+1)=2*2^n:=by rw[Int.pow_succ];omega
  unfold bs;by_cases D:low<aY
  ·rw[aa D];by_cases L:BK k (aY-(aY-low)/2)<=v-(aY-(aY-low)/2)
   ·rw[aa L];obtain⟨a,b,c,d⟩:=Qnw k v n (aY-(aY-low)/2) aY (by omega) (by omega) L;exact⟨a,by omega,c,d⟩
   ·rw[ab L];obtain⟨a,b,c,d⟩:=Qnw k v n low (aY-(aY-low)/2-1) (by omega) (by omega) G;refine⟨a,b,by omega, .inr ?_⟩;rcases d with d|d
    ·have e:bs k v n low (aY-(aY-low)/2-1)+1=aY-(aY-low)/2:=by omega
     rw[e];omega
    ·exact d
  ·rw[ab D];exact⟨G,by omega,I, .inl (by omega)⟩
theorem Qz4 (N:Plan3 j k r) (O:Cx j k v a) {B:Int} (hB:B=bs k v 20 (-a-k) (min (k-a) j)):
  BK k B<=v-B/\ -a-k<=B/\B<=k-a/\B<=j/\(B=min (k-a) j\/v-(B+1)<BK k (B+1))/\0<=v:=by
 obtain⟨⟨V,X⟩,⟨Y,p4⟩,p5,p6⟩:=N;obtain⟨h1,h2,S,h4,h5⟩:=O;have G:0<k:=by omega
 have l0:=Lz (b:= -a) G;have D:BK k (-a-k)<=v-(-a-k):=by
  by_cases T:k< -a
  ·rw[YP G T]at S;omega
  ·rw[KO (by omega)];omega
 obtain⟨I,L,U,M⟩:=Qnw k v 20 (-a-k) (min (k-a) j) (by omega) (by simp;omega) D;rw[<-hB]at I L U M;exact⟨I,L,by omega,by omega,M,by omega⟩
theorem closed (M:Plan3 j k r) (N:Cx j k v a):
  Cx j k (v+AJ j k v a) (AJ j k v a)/\AJ j k v a-a<=k/\a-AJ j k v a<=k/\(0<a\/(v=0/\AJ j k v a=0)\/AJ j k v a<0):=by
 obtain⟨B,hB⟩:∃B,B=bs k v 20 (-a-k) (min (k-a) j):=⟨_,rfl⟩;have hb:AJ j k v a= -B:=by unfold AJ;rw[hB]
 obtain⟨q1,q2,q3,q4,D,q6⟩:=Qz4 M N hB;rw[hb];obtain⟨⟨p1,p2⟩,⟨p3,p4⟩,p5,p6⟩:=M;obtain⟨h1,h2,h3,h4,h5⟩:=N;have L:0<k:=by omega
 have top:B+1<=0->B=min (k-a) j:=by
  intro h;rcases D with D|D
  ·exact D
  ·rw[KO h]at D;omega
 have T: -a<=B\/0<=B:=by
  by_cases G:B+1<=0
  ·have:=top G;omega
  ·right;omega
 have I:a<=0->0<=B:=λO=>by
  by_cases G:B+1<=0
  ·have:=top G;omega
  ·omega
 have la:=Lz (b:=a) L;have U: -j<=B:=by
  by_cases G:B+1<=0
  ·have:=top G;omega
  ·omega
 have e1: -(-B)=B:=by omega
 refine⟨⟨by omega,by omega,by rw[e1];omega,?_,?_⟩,by omega,by omega,?_⟩
 ·by_cases G:0<=B
  ·rw[KO (b:= -B) (by omega)];omega
  ·have ht:=top (by omega);have V:B=k-a:=by omega
   have e2: -B=a-k:=by omega
   have hs:=YP (k:=k) (b:=a) L (by omega);rw[e2];omega
 ·intro S;omega
 ·by_cases O:0<a
  ·exact .inl O
  ·right;have X:=I (by omega);by_cases S:v=0
   ·left;have:=Lz (b:=B) L;exact⟨S,by omega⟩
   ·right;by_cases Y:B=0
    ·rcases D with D|D
     ·omega
     ·rw[Y,Qtc (k:=k) (b:=0+1) (by omega)]at D;omega
    ·omega
def By (j k:Int):Nat->Int->Int->List Int×Bool
 |0,v,_=>([],decide (v<=0))
 |n+1,v,a=>if v<=0 then([],true)else((v+AJ j k v a)::(By j k n (v+AJ j k v a) (AJ j k v a)).1,(By j k n (v+AJ j k v a) (AJ j k v a)).2)
theorem Zci (j k:Int):∀(n:Nat) (v a:Int),(By j k n v a).2=true->By j k (n+1) v a=By j k n v a
 |0,v,a,h=>by
  have h:v<=0:=of_decide_eq_true h;unfold By;rw[aa h];show([],true)=([],decide (v<=0));rw[ai h]
 |n+1,v,a,h=>by
  unfold By at h⊢;by_cases c:v<=0
  ·rw[aa c,aa c]
  ·rw[ab c]at h;rw[ab c,ab c,Zci j k n _ _ h]
theorem JB (D:Plan3 j k r) (G:Cx j k v a): -65536<=a/\a<=65536/\0<=v/\v<=16777216:=by
 obtain⟨I,L,M,N,-⟩:=G;have O:=D.a;have S:=D.b
 have T:=Lz (k:=k) (b:=a) (by omega);have U:=Lz (k:=k) (b:= -a) (by omega);omega
end Go.Bm
