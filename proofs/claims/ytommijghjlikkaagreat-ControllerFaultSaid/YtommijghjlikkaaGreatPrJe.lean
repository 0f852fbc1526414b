/- laid together -/
import Derived.Test.YtommijghjlikkaaGreatPrKt
import Derived.Test.YtommijghjlikkaaGreatMy1
import Derived.Test.YtommijghjlikkaaGreatPrLb
set_option linter.unusedVariables false
set_option linter.unusedSimpArgs false
set_option maxRecDepth 100000
open Go.IntKind (wrap)
namespace Go.Bm
structure Evn where
 (cycle kind n:Int)
abbrev evR (e:Evn):List AC:=[I e.cycle,I e.kind,I e.n]
structure EvOK (e : Evn) : Prop where
 kind:1<=e.kind/\e.kind<=13
 n: -5<=e.n/\e.n<=4194304
theorem W0 (E:List Evn) {i:Nat} (h:i<E.length):nth [] (E.map evR) (i:Int).toNat=evR E[i]:=by
 rw[Int.toNat_natCast,GX [] _ i (by rw[List.length_map];exact h),List.getElem_map]
theorem Zm0 {α:Type} (P:α->Bool) (E:List α) {i:Nat} (h:i<E.length):(E.take (i+1)).filter P=(E.take i).filter P++(if P E[i]=true then [E[i]]else []):=by
 rw[List.take_add_one,List.filter_append,List.getElem?_eq_getElem h];congr 1;by_cases c:P E[i]=true
 ·rw[if_pos c];simp[c]
 ·rw[if_neg c];simp[c]
theorem Q6h {P:Evn->Bool} {E:List Evn} (hl:E.length<=1000000) {st:Lp} {enc:Rw->Nat->List AC}
  (hs:∀(l:Rw) (i:Nat),i<=E.length->l.length<=i->st (enc l i)=if h:i<E.length then some (0,enc (l++(if P E[i]=true then [evR E[i]]else [])) (i+1))else some (1,[.view kPt l])):
  An st (enc [] 0)=some (1,[.view kPt ((E.filter P).map evR)]):=by
 have key:Out (fun o=>o=(1,[.view kPt ((E.filter P).map evR)])) (An st (enc [] 0)):=by
  refine Cr (fun i:Nat=>enc (((E.take i).filter P).map evR) i) (fun i=>i<=E.length) (fun i=>E.length-i) _ ?_ 0 (by simp);intro i hi;rw[hs _ _ hi (by rw[List.length_map];exact Nat.le_trans (List.length_filter_le _ _) (by simp;omega))];by_cases h:i<E.length
  ·rw[dif_pos h];refine .some (.inl ⟨rfl,i+1,?_,by omega,by omega⟩);rw[Zm0 P E h];by_cases c:P E[i]=true
   ·rw[if_pos c,if_pos c,List.map_append];rfl
   ·rw[if_neg c,if_neg c,List.append_nil,List.append_nil]
  ·rw[dif_neg h];refine .some (.inr ⟨by simp,?_⟩);rw[List.take_of_length_le (by omega)]
 obtain⟨o,h,rfl⟩:=key;exact h
theorem Qsv {E:List Evn} (hl:E.length<=1000000) (k:Int):Jj [.view kPt (E.map evR),I k]=some [.view kPt ((E.filter fun e=>e.cycle==k).map evR)]:=by
 have hL:An Sv [.view kPt [],I k, .view kPt (E.map evR),I E.length,I ((0:Nat):Int)]=some (1,[.view kPt ((E.filter fun e=>e.cycle==k).map evR)]):=by
  refine Q6h (P:=fun e=>e.cycle==k) hl (enc:=fun l i=>[.view kPt l,I k, .view kPt (E.map evR),I E.length,I (i:Int)]) fun l i hi hll=> ?_;rw[Zye];by_cases h:i<E.length
  ·rw[dif_pos h,Br (by simp;omega),Br (by simp;omega),W0 E h,Ae (x:=(i:Int)+1) (by omega)];by_cases c:(E[i].cycle==k)=true
   ·rw[Br (show(gA (evR E[i]) 0==k)=true from c),CY (by simp;omega),if_pos c];rfl
   ·rw[Ba (show(gA (evR E[i]) 0==k)=false from Bool.eq_false_iff.2 c),if_neg c,List.append_nil];rfl
  ·rw[dif_neg h,Ba (by simp;omega)]
 show TU (An Sv) [.view kPt (E.map evR),I k]=_;rw[Zba,List.length_map];rw[show(0:Int)=((0:Nat):Int)from rfl,hL];rfl
theorem Zw1 {E:List Evn} (hl:E.length<=1000000):K1 [.view kPt (E.map evR)]=some [.view kPt ((E.filter fun e=>decide (e.kind<=6)).map evR)]:=by
 have hL:An Sb [.view kPt [], .view kPt (E.map evR),I E.length,I ((0:Nat):Int)]=some (1,[.view kPt ((E.filter fun e=>decide (e.kind<=6)).map evR)]):=by
  refine Q6h (P:=fun e=>decide (e.kind<=6)) hl (enc:=fun l i=>[.view kPt l, .view kPt (E.map evR),I E.length,I (i:Int)]) fun l i hi hll=> ?_;rw[Q9a];by_cases h:i<E.length
  ·rw[dif_pos h,Br (by simp;omega),Br (by simp;omega),W0 E h,Ae (x:=(i:Int)+1) (by omega)];by_cases c:decide (E[i].kind<=6)=true
   ·rw[Br (show decide (gA (evR E[i]) 1<=6)=true from c),CY (by simp;omega),if_pos c];rfl
   ·rw[Ba (show decide (gA (evR E[i]) 1<=6)=false from Bool.eq_false_iff.2 c),if_neg c,List.append_nil];rfl
  ·rw[dif_neg h,Ba (by simp;omega)]
 show UF (An Sb) [.view kPt (E.map evR)]=_;rw[Zff,List.length_map];rw[show(0:Int)=((0:Nat):Int)from rfl,hL];rfl
theorem Zg2 {M:Fn} {l:Rw} (hM:GA l M) (cycle:Int) (k:Nat):
  ∃(e:Evn) (k':Nat),Qec M [I cycle, .view Aa l,I k]=some (evR e++[.view Aa l,I k'])/\EvOK e/\k<=k':=by
 obtain⟨v,k1,h1,v0,v1,hk,-⟩:=hM k (n:=15) (by omega);rw[Zhp,h1];simp only[Option.bind_some,Ps,gA,wA,bA,jA,CI,Em,Dj,BL];have all:∀(n:Nat),n<15->∃kind:Int,nth [] [[I 4],[I 1],[I 2],[I 3],[I 4],[I 5],[I 6],[I 7],[I 4],[I 8],[I 9],[I 11],[I 12],[I 13],[I 10]] n=[I kind]/\1<=kind/\kind<=13:=by
  intro n hn
  match n,hn with
  |0,_=>exact⟨4,rfl,by omega⟩
  |1,_=>exact⟨1,rfl,by omega⟩
  |2,_=>exact⟨2,rfl,by omega⟩
  |3,_=>exact⟨3,rfl,by omega⟩
  |4,_=>exact⟨4,rfl,by omega⟩
  |5,_=>exact⟨5,rfl,by omega⟩
  |6,_=>exact⟨6,rfl,by omega⟩
  |7,_=>exact⟨7,rfl,by omega⟩
  |8,_=>exact⟨4,rfl,by omega⟩
  |9,_=>exact⟨8,rfl,by omega⟩
  |10,_=>exact⟨9,rfl,by omega⟩
  |11,_=>exact⟨11,rfl,by omega⟩
  |12,_=>exact⟨12,rfl,by omega⟩
  |13,_=>exact⟨13,rfl,by omega⟩
  |14,_=>exact⟨10,rfl,by omega⟩
 obtain⟨kind,hkd,b1,b2⟩:=all v.toNat (by omega);have hlen:([[I 4],[I 1],[I 2],[I 3],[I 4],[I 5],[I 6],[I 7],[I 4],[I 8],[I 9],[I 11],[I 12],[I 13],[I 10]]:Rw).length=15:=rfl;clear all;generalize([[I 4],[I 1],[I 2],[I 3],[I 4],[I 5],[I 6],[I 7],[I 4],[I 8],[I 9],[I 11],[I 12],[I 13],[I 10]]:Rw)=T at*;have hv:v<(T.length:Int):=by omega
 simp only[v0,hv,decide_true,Bool.and_self,cond_true,hkd,CI,Dj];have one:∀(n d:Int),0<n/\n<=1000->0<=d/\d<=5->∃(e:Evn) (k':Nat),((M [I n, .view Aa l,I k1]).bind fun o=>some [I cycle,I kind,I (wrap .i64 (gA o 0-d)), .view Aa (wA o 1),jA o 2])=some (evR e++[.view Aa l,I k'])/\EvOK e/\k<=k':=fun n d hn hd=>by
  obtain⟨w,k2,g1,w0,w1,g2,-⟩:=hM k1 (n:=n) (by omega);rw[g1];refine⟨⟨cycle,kind,w-d⟩,k2,?_,⟨⟨b1,b2⟩,by simp only;omega⟩,by omega⟩;simp only[Option.bind_some,gA,wA,jA,CI,Em,Dj,BL];rw[Ae (by omega)];rfl
 have two:∀(n:Int),0<n/\n<=1000->∃(e:Evn) (k':Nat),((M [I n, .view Aa l,I k1]).bind fun o=>some [I cycle,I kind,jA o 0, .view Aa (wA o 1),jA o 2])=some (evR e++[.view Aa l,I k'])/\EvOK e/\k<=k':=fun n hn=>by
  obtain⟨w,k2,g1,w0,w1,g2,-⟩:=hM k1 (n:=n) (by omega);rw[g1];exact⟨⟨cycle,kind,w⟩,k2,rfl,⟨⟨b1,b2⟩,by simp only;omega⟩,by omega⟩
 cases c1:(kind==1)
 ·cases c2:(kind==2)
  ·cases c3:(kind==5)
   ·cases c4:(kind==6)
    ·cases c5:(kind==7)
     ·cases c6:(kind==8)
      ·cases c7:(kind==13)
       ·exact⟨⟨cycle,kind,0⟩,k1,rfl,⟨⟨b1,b2⟩,by simp⟩,by omega⟩
       ·obtain⟨w,k2,g1,w0,w1,g2,-⟩:=hM k1 (n:=4) (by omega);obtain⟨y,k3,g3,y0,y1,g4,-⟩:=hM k2 (n:=60) (by omega);simp only[cond_false,cond_true];rw[g1];simp only[Option.bind_some,CI,Em,Dj];rw[g3];refine⟨⟨cycle,kind,w*1048576+y⟩,k3,?_,⟨⟨b1,b2⟩,by simp only;omega⟩,by omega⟩;simp only[Option.bind_some,CI,Em,Dj];rw[Ae (x:=w*1048576) (by omega),Ae (by omega)];rfl
      ·exact one 5 1 (by omega) (by omega)
     ·exact one 300 5 (by omega) (by omega)
    ·exact two 3 (by omega)
   ·exact two 3 (by omega)
  ·exact one 220 5 (by omega) (by omega)
 ·exact one 220 5 (by omega) (by omega)
theorem Q9p {ME MN ML MF:Fn} {l:Rw} (hl:l.length<=100000) (hN:GA l MN) (hL:∀k:Nat,ML [.view Aa l,I k]=some [B (decide (k<l.length)), .view Aa l,I k])
  (hE:∀(cycle:Int) (k:Nat),∃(e:Evn) (k':Nat),ME [I cycle, .view Aa l,I k]=some (evR e++[.view Aa l,I k'])/\EvOK e/\k<=k'):
  Out (fun o=>∃E:List Evn,o=(1,[.view kPt (E.map evR)])/\E.length<=l.length/\∀e∈E,EvOK e) (An (Zc ME MN ML MF) [.view kPt [],I 0, .view Aa l,I 0]):=by
 refine Cr (fun s:List Evn×Int×Nat=>[.view kPt (s.1.map evR),I s.2.1, .view Aa l,I (s.2.2:Int)]) (fun s=>(∀e∈s.1,EvOK e)/\s.1.length<=s.2.2/\s.1.length<=l.length) (fun s=>l.length-s.2.2) _ ?_ ([],0,0) (by simp);rintro⟨E,cycle,k⟩ ⟨h1,h2,h3⟩;dsimp only at h1 h2 h3;rw[Zwv,hL];simp only[Option.bind_some,gA,wA,bA,jA,CI,Em,Dj,BL,CV];by_cases c:k<l.length
 ·rw[decide_eq_true c];obtain⟨v,k1,g1,v0,v1,-,g2,-⟩:=hN k (n:=40) (by omega);have g2:=g2 c;rw[cond_true,g1];simp only[Option.bind_some,CI,Em,Dj];obtain⟨e,k2,q1,q2,q3⟩:=hE (wrap .i64 (cycle+v)) k1;rw[q1];simp only[Option.bind_some,List.cons_append,List.nil_append,CI,Em,Dj];rw[CY (by simp;omega)];refine .some (.inl ⟨rfl,(E++[e],wrap .i64 (cycle+v),k2),?_,⟨?_,by simp;omega,by simp;omega⟩,by dsimp only;omega⟩)
  ·rw[List.map_append];rfl
  ·intro x hx;dsimp only at hx;rcases List.mem_append.1 hx with hx|hx
   ·exact h1 x hx
   ·rw[List.mem_singleton]at hx;subst hx;exact q2
 ·rw[decide_eq_false c];exact .some (.inr ⟨by simp,E,rfl,h3,h1⟩)
theorem Q9s {l:Rw} (hs:Src l) (hl:l.length<=60):∃E:List Evn,KM [.view Aa l]=some [.view kPt (E.map evR)]/\E.length<=60/\∀e∈E,EvOK e:=by
 obtain⟨o,h1,E,rfl,h2,h3⟩:=Q9p (ME:=LD) (MF:=Cs) (by omega) (Hc hs) (Q1p l) fun cycle k=>Zg2 (Hc hs) cycle k;refine⟨E,?_,by omega,h3⟩;show Qdc LD BA FP Cs (An _) [.view Aa l]=_;rw[Zoa,PI];simp only[Option.bind_some,gA,wA,bA,jA,CI,Em,Dj,BL];rw[h1];rfl
theorem Z2c {MN MF:Fn} {l:Rw} (hN:GA l MN) (hF:MF [.view Aa l]=some [.view Aa l,I 0]):
  ∃a b c:Int,Qh0 MN MF [.view Aa l]=some [I a,I b,I c]/\(1<=a/\a<=900)/\(2<=b/\b<=201)/\(1<=c/\c<=16000):=by
 obtain⟨v,k1,g1,v0,v1,-⟩:=hN 0 (n:=900) (by omega);obtain⟨w,k2,g2,w0,w1,-⟩:=hN k1 (n:=200) (by omega);obtain⟨y,k3,g3,y0,y1,-⟩:=hN k2 (n:=16000) (by omega);have g1':MN [I 900, .view Aa l,I 0]=some [I v, .view Aa l,I k1]:=g1;refine⟨1+v,2+w,1+y,?_,by omega,by omega,by omega⟩;rw[Zdk,hF];simp only[Option.bind_some,gA,wA,bA,jA,CI,Em,Dj,BL];rw[g1'];simp only[Option.bind_some,CI,Em,Dj];rw[g2];simp only[Option.bind_some,CI,Em,Dj];rw[g3];simp only[Option.bind_some,CI,Em,Dj];rw[Ae (x:=1+v) (by omega),Ae (x:=2+w) (by omega),Ae (x:=1+y) (by omega)]
theorem Ztv {MN MP MA MF:Fn} {l m:Rw} (hm:GA m MN) (hF:MF [.view Aa m]=some [.view Aa m,I 0]) {x:Ax3} (hA:MA [.view Aa l]=some (AI x)) (hx:Ax3M x) {a b c:Int} (hP:MP [.view Aa m]=some [I a,I b,I c]) (h1:1<=a/\a<=900) (h2:2<=b/\b<=201) (h3:1<=c/\c<=16000) (hml:m.length<=100000):
  ∃ramp lag:Int,U7 MN MP MA MF [.view Aa l, .view Aa m]=some (AI x++[I a,I b,I c,I ramp,I lag])/\MachOK x a b c ramp lag:=by
 obtain⟨k0,hk0⟩:∃k0:Nat,mn 3 (m.length:Int)=k0:=⟨(mn 3 (m.length:Int)).toNat,by unfold mn;split<;>omega⟩;obtain⟨v,k1,g1,v0,v1,-⟩:=hm k0 (n:=60000) (by omega);obtain⟨w,k2,g2,w0,w1,-⟩:=hm k1 (n:=40) (by omega);refine⟨1+v,w,?_,⟨hx,⟨by omega,by omega,by omega⟩,by omega,by omega⟩⟩;rw[Zsp,hF,hA,hP];simp only[Option.bind_some,gA,wA,bA,jA,CI,Em,Dj,BL];rw[hk0,g1];simp only[Option.bind_some,CI,Em,Dj];rw[g2];simp only[Option.bind_some,CI,Em,Dj];rw[Ae (x:=1+v) (by omega)];rfl
theorem Zou {l m:Rw} (h1:Src l) (h2:Src m) (h3:m.length<=100000):∃(x:Ax3) (a b c ramp lag:Int),Kg [.view Aa l, .view Aa m]=some (AI x++[I a,I b,I c,I ramp,I lag])/\MachOK x a b c ramp lag:=by
 obtain⟨x,hA,hx⟩:=Zty h1;obtain⟨a,b,c,hP,p1,p2,p3⟩:=Z2c (MF:=Cs) (Hc h2) (PI m);obtain⟨ramp,lag,g1,g2⟩:=Ztv (MP:=OK) (MF:=Cs) (Hc h2) (PI m) hA hx hP p1 p2 p3 h3;exact⟨x,a,b,c,ramp,lag,g1,g2⟩
theorem Zvm (L:List (Rw)) (hl:L.length<=1000):Out (fun o=>o.1=1/\o.2=[B false]\/o.1=2/\∀l∈L,l.length<=60) (An QW [.view [Kd.sl Aa] (L.map fun l=>[.view Aa l]),I L.length,I ((0:Nat):Int)]):=by
 refine Cr (fun i:Nat=>[.view [Kd.sl Aa] (L.map fun l=>[.view Aa l]),I L.length,I (i:Int)]) (fun i=>i<=L.length/\∀l∈L.take i,l.length<=60) (fun i=>L.length-i) _ ?_ 0 (by simp);rintro i ⟨h1,h2⟩;rw[Z1r];refine .cond (fun c=> ?_) fun c=> .some (.inr ⟨by simp, .inr ⟨rfl,?_⟩⟩)
 ·have c:(i:Int)<(L.length:Int):=Bg c;have hi:i<L.length:=by omega
  refine .cond (fun _=> ?_) fun e=>(inB (by omega) (by rw[List.length_map];exact c) e).elim;rw[Int.toNat_natCast,GX [] _ i (by rw[List.length_map];exact hi),List.getElem_map];refine .cond (fun _=> .some (.inr ⟨by simp, .inl ⟨rfl,rfl⟩⟩)) fun q=> ?_;have q: ¬(L[i].length:Int)>60:=Bf q;rw[Ae (x:=(i:Int)+1) (by omega)];refine .some (.inl ⟨rfl,i+1,rfl,⟨by omega,?_⟩,by omega⟩);intro l hl;rw[List.take_add_one,List.getElem?_eq_getElem hi]at hl;rcases List.mem_append.1 hl with hl|hl
  ·exact h2 l hl
  ·simp at hl;subst hl;omega
 ·have c: ¬(i:Int)<(L.length:Int):=Bf c;rw[List.take_of_length_le (by omega)]at h2;exact h2
theorem Zve {L:List (Rw)} (hl:L.length<=1000):∃b:Bool,Ji [.view [Kd.sl Aa] (L.map fun l=>[.view Aa l])]=some [B b]/\(b=true->∀l∈L,l.length<=60):=by
 obtain⟨o,h1,h2⟩:=Zvm L hl;have e:Ji [.view [Kd.sl Aa] (L.map fun l=>[.view Aa l])]=Z5 (An QW) [.view [Kd.sl Aa] (L.map fun l=>[.view Aa l])]:=rfl;rw[e,Q9d,List.length_map];rw[show(0:Int)=((0:Nat):Int)from rfl,h1];obtain⟨o1,o2⟩:=o;rcases h2 with⟨q1,q2⟩|⟨q1,q2⟩
 ·dsimp only at q1 q2;subst q1 q2;exact⟨false,rfl,fun h=>by cases h⟩
 ·dsimp only at q1 q2;subst q1;exact⟨true,rfl,fun _=>q2⟩
theorem Zgq (a b c d:Rw):∃q:Bool,LM [.view Aa a, .view Aa b, .view Aa c, .view Aa d]=some [B q]/\(q=true->a.length<=60/\b.length<=60/\c.length<=60/\d.length<=60):=by
 obtain⟨q,h1,h2⟩:=Zve (L:=[a,b,c,d]) (by simp);refine⟨q,?_,fun h=>⟨h2 h a (by simp),h2 h b (by simp),h2 h c (by simp),h2 h d (by simp)⟩⟩;show Wn Ji _=_;rw[Z2r];have h1':Ji [.view [Kd.sl Aa] [[.view Aa a],[.view Aa b],[.view Aa c],[.view Aa d]]]=some [B q]:=h1;rw[h1'];rfl
end Go.Bm
namespace Go.Bm
abbrev Z1e:Itm:=⟨0,0,⟨0,0,0⟩,⟨0,0,0⟩,0,⟨0,0,0⟩,0,false,0,false,0,0,0,0,0,false⟩
def itK (K:Kf) (i:Int):Itm:=K.items.getD i.toNat Z1e
def mkK (K:Kf) (i:Int):Mrk:=K.p.marks.getD i.toNat ⟨0,0,0⟩
theorem Jb {K:Kf} {i:Int} (h0:0<=i) (h1:i<K.items.length):nth [] (K.items.map Ag) i.toNat=Ag (itK K i):=by
 have h:i.toNat<K.items.length:=by omega
 rw[Qtj K h];unfold itK;rw[List.getD,List.getElem?_eq_getElem h];rfl
theorem Ny {K:Kf} {i:Int} (h0:0<=i) (h1:i<K.p.marks.length):nth [] (K.p.marks.map At) i.toNat=At (mkK K i):=by
 have h:i.toNat<K.p.marks.length:=by omega
 rw[Zm7 K h];unfold mkK;rw[List.getD,List.getElem?_eq_getElem h];rfl
theorem SU {K:Kf} (h:KOK K) {i:Int} (h0:0<=i) (h1:i<K.p.marks.length):0<=(mkK K i).item/\(mkK K i).item<K.items.length/\i64 (mkK K i).at_:=by
 have hi:i.toNat<K.p.marks.length:=by omega
 unfold mkK;rw[List.getD,List.getElem?_eq_getElem hi];exact h.marks _ (List.getElem_mem hi)
theorem inR {i:Int} {n:Nat} (h0:0<=i) (h1:i<(n:Int)):(decide (0<=i)&&decide (i<(n:Int)))=true:=by
 rw[decide_eq_true h0,decide_eq_true h1];rfl
theorem inM {β:Type} {f:β->List AC} {i:Int} {l:List β} (h0:0<=i) (h1:i<(l.length:Int)):(decide (0<=i)&&decide (i<((l.map f).length:Int)))=true:=inR h0 (by rw[List.length_map];exact h1)
def Fw (K:Kf) (c:Cv):Option Sgm:=K.p.segs[(Bb K.p.segs (max (Bu K c) 0)).1]?
def sgK (K:Kf) (c:Cv):Sgm:=(Fw K c).getD sg0
theorem Qsi {K:Kf} {c:Cv} {g:Sgm} (h:Fw K c=some g):g∈K.p.segs:=List.mem_of_getElem? h
theorem HK {K:Kf} (h:KOK K) {c:Cv} (hl:(sgK K c).lead≠0):0<=(sgK K c).item/\(sgK K c).item<K.items.length/\i64 (sgK K c).lead:=by
 unfold sgK at hl⊢;cases e:Fw K c with
 |none=>rw[e]at hl;exact absurd rfl hl
 |some g=>exact h.segs g (Qsi e)
theorem Zrs {MF MP:Fn} {K:Kf} {c:Cv} (hP:MP (Ad K c)=some [I (Bu K c)])
  (hF:MF (By K.p++[I (Bu K c)])=if K.p.segs=[]then some [I (-1),I 0]else some [I (Bb K.p.segs (max (Bu K c) 0)).1,I (Bb K.p.segs (max (Bu K c) 0)).2]):
  UG MF MP (Ad K c)=some (Ay (sgK K c)++[B (Fw K c).isSome]):=by
 rw[Zk0];refine eB hP (Eq.trans (congrArg (fun z=>Option.bind z _) (show MF (By K.p++[I (Bu K c)])=_ from hF)) ?_);by_cases e:K.p.segs=[]
 ·have e2:Fw K c=none:=by unfold Fw;rw[e];rfl
  unfold sgK;rw[if_pos e,e2];rfl
 ·have hl:=Qgb K.p.segs (max (Bu K c) 0) e;have e2:Fw K c=some K.p.segs[(Bb K.p.segs (max (Bu K c) 0)).1]:=List.getElem?_eq_getElem hl;unfold sgK;rw[if_neg e,e2];refine eB rfl (eF (decide_eq_false (show¬((Bb K.p.segs (max (Bu K c) 0)).1:Int)<0 by omega)) (eT (inM (f:=Ay) (l:=K.p.segs) (i:=((Bb K.p.segs (max (Bu K c) 0)).1:Int)) (by omega) (by omega)) ?_));have er:nth [] (K.p.segs.map Ay) ((Bb K.p.segs (max (Bu K c) 0)).1:Int).toNat=Ay K.p.segs[(Bb K.p.segs (max (Bu K c) 0)).1]:=by
   rw[Int.toNat_natCast,GX [] _ _ (by rw[List.length_map];exact hl),List.getElem_map]
  show some (AJ Ah (nth [] (K.p.segs.map Ay) ((Bb K.p.segs (max (Bu K c) 0)).1:Int).toNat)++[B true])=_;rw[er];rfl
theorem Qri {K:Kf} (h:KOK K) (c:Cv):EF (Ad K c)=some (Ay (sgK K c)++[B (Fw K c).isSome]):=
 Zrs (Sz h c) (Qiz h.f.p.ok (RG h.f _))
def IF (K:Kf) (c:Cv):Bool:=(Fw K c).isSome&&((itK K (sgK K c).item).kind==6&&c.y0==(sgK K c).item)
theorem Zbz {M:Fn} {K:Kf} {c:Cv} (h:KOK K) (hS:M (Ad K c)=some (Ay (sgK K c)++[B (Fw K c).isSome])):YN M (Ad K c)=some [B (IF K c)]:=by
 rw[Zk2,hS];unfold IF sgK;cases e:Fw K c with
 |none=>rfl
 |some g=>
  obtain⟨q1,q2,-⟩:=h.segs g (Qsi e);refine eB rfl (eT rfl (eT (inM (f:=Ag) q1 q2) ?_));show cond (gA (nth [] (K.items.map Ag) g.item.toNat) 0==6) (some [B (c.y0==g.item)]) (some [B false])=some [B (true&&((itK K g.item).kind==6&&c.y0==g.item))];rw[Jb q1 q2];show cond ((itK K g.item).kind==6) (some [B (c.y0==g.item)]) (some [B false])=_;cases((itK K g.item).kind==6)<;>rfl
theorem Zbj {K:Kf} (h:KOK K) (c:Cv):LY (Ad K c)=some [B (IF K c)]:=Zbz h (Qri h c)
def spV (c:Cv) (ramp:Int):Int:=if c.s1<c.s2 then mn (wrap .i64 (c.s1+ramp)) c.s2 else mx (wrap .i64 (c.s1-ramp)) c.s2
def spS (c:Cv) (ramp:Int):Cv:={c with s1:=spV c ramp,s3:=wrap .i64 (c.s3+wrap .i64 (c.s0*spV c ramp))}
theorem Zd3 (c:Cv) (ramp:Int):LE [I c.s0,I c.s1,I c.s2,I c.s3,I ramp]=some [I (spS c ramp).s0,I (spS c ramp).s1,I (spS c ramp).s2,I (spS c ramp).s3]:=by
 show U9 _=_;rw[Zu1];show _=some [I c.s0,I (spV c ramp),I c.s2,I (wrap .i64 (c.s3+wrap .i64 (c.s0*spV c ramp)))];unfold spV;by_cases h:c.s1<c.s2
 ·rw[Br (decide_eq_true h),if_pos h]
 ·rw[Ba (decide_eq_false h),if_neg h]
def FA (c:Cv):Bool:=c.m1==0&&(c.m2==0&&(c.m3==c.m0&&c.m4==c.m0))
theorem Zn6 (c:Cv):H_ [I c.m0,I c.m1,I c.m2,I c.m3,I c.m4,I c.m5]=some [B (FA c)]:=by
 show Qcp _=_;rw[Zzs];unfold FA;cases(c.m1==0)<;>cases(c.m2==0)<;>cases(c.m3==c.m0)<;>rfl
def Pk (b:Bool) (n:Int):Bool:=if n=0 then false else if n=1 then true else b
theorem Zof (b:Bool) (n:Int):O5 [B b,I n]=some [B (Pk b n)]:=by
 show WJ _=_;rw[Z13];unfold Pk;by_cases h:n=0
 ·rw[if_pos h,Br (by simpa using h)]
 ·rw[if_neg h,Ba (by simpa using h)];by_cases h:n=1
  ·rw[if_pos h,Br (by simpa using h)]
  ·rw[if_neg h,Ba (by simpa using h)]
def Fh (k n:Int):Bool:=k==9||(k==8&&(decide (0<=n)&&decide (n<=2)))
def evC (c:Cv) (k n:Int):Cv:={c with
 o0:=if k=1/\0<=n/\n<=200 then n else c.o0
 o1:=if k=2/\0<=n/\n<=100 then n else c.o1
 o2:=if k=3\/k=11 then true else if k=4 then false else c.o2
 o3:=if k=5 then Pk c.o3 n else c.o3
 o4:=if k=6 then Pk c.o4 n else c.o4
 g0:=if k=10 then 2 else if k=11 then 0 else if Fh k n=true then(if c.g0=2 then 2 else 1)else c.g0
 g1:=if k=10 then 22 else if k=11 then 0 else if Fh k n=true/\c.g0≠2/\c.g1=0 then(if k=9 then 21 else 20)else c.g1
 g2:=if k=10 then-1 else if k=11 then-1 else if Fh k n=true/\c.g0≠2/\c.g1=0 then(if k=9 then-1 else n)else c.g2
 resumed:=if k=4 then true else c.resumed}
theorem Z0g {M:Fn} (hM:∀(b:Bool) (n:Int),M [B b,I n]=some [B (Pk b n)]) (c:Cv) (x k n:Int) (hk:k≠11):
  Tq M [I c.o0,I c.o1,B c.o2,B c.o3,B c.o4,I x,I k,I n]=some [I (evC c k n).o0,I (evC c k n).o1,B (evC c k n).o2,B (evC c k n).o3,B (evC c k n).o4]:=by
 rw[Q2z];unfold evC;simp only[hM];by_cases h1:k=1
 ·subst h1;by_cases a:0<=n<;>by_cases b:n<=200<;>simp[a,b]
 ·by_cases h2:k=2
  ·subst h2;by_cases a:0<=n<;>by_cases b:n<=100<;>simp[a,b]
  ·by_cases h3:k=3
   ·subst h3;simp
   ·by_cases h4:k=4
    ·subst h4;simp
    ·by_cases h5:k=5
     ·subst h5;simp[gA,bA,nth,CV]
     ·by_cases h6:k=6
      ·subst h6;simp[gA,bA,nth,CV]
      ·simp only[beF h1,beF h2,beF h3,beF h4,beF h5,beF h6,cond_false];simp[h1,h2,h3,h4,h5,h6,hk]
theorem Zw0 {M:Fn} (c:Cv) (x n:Int):
  Tq M [I c.o0,I c.o1,B c.o2,B c.o3,B c.o4,I x,I 11,I n]=some [I c.o0,I c.o1,B c.o2,B c.o3,B c.o4]:=by
 rw[Q2z];rfl
theorem Zuo (a b d e f:Int):Qg [I a,I b,I d,I e,I f]=some (if a=2 then [I a,I b,I d]else if b=0 then [I 1,I e,I f]else [I 1,I b,I d]):=by
 show Uc _=_;rw[Zj7];by_cases h:a=2
 ·rw[if_pos h,Br (by simpa using h)]
 ·rw[if_neg h,Ba (by simpa using h)];by_cases h:b=0
  ·rw[if_pos h,Br (by simpa using h)]
  ·rw[if_neg h,Ba (by simpa using h)]
theorem Zky {MS MT:Fn} (hS:MS []=some [I 0,I 0,I (-1)]) (hT:∀a b d e f:Int,MT [I a,I b,I d,I e,I f]=some (if a=2 then [I a,I b,I d]else if b=0 then [I 1,I e,I f]else [I 1,I b,I d])) (c:Cv) (x k n:Int):
  Wo MS MT [I c.g0,I c.g1,I c.g2,I x,I k,I n]=some [I (evC c k n).g0,I (evC c k n).g1,I (evC c k n).g2]:=by
 rw[Z22];unfold evC;simp only[hT,hS];by_cases h1:k=10
 ·subst h1;rfl
 ·by_cases h2:k=9
  ·subst h2;by_cases a:c.g0=2<;>by_cases b:c.g1=0<;>simp[Fh,a,b,gA,jA,nth,Af]
  ·by_cases h3:k=8
   ·subst h3;by_cases u:0<=n<;>by_cases v:n<=2<;>by_cases a:c.g0=2<;>by_cases b:c.g1=0<;>simp[Fh,a,b,u,v,gA,jA,nth,Af]
   ·by_cases h4:k=11
    ·subst h4;rfl
    ·simp only[beF h1,beF h2,beF h3,beF h4,cond_false];simp[Fh,h1,h2,h3,h4]
theorem Zkp {MR MT ML MG' MO:Fn} {K:Kf} (c:Cv) (x:Int) {k:Int} (n:Int) (hk:k≠7/\k≠12/\k≠13)
  (hO:k≠11->MO [I c.o0,I c.o1,B c.o2,B c.o3,B c.o4,I x,I k,I n]=some [I (evC c k n).o0,I (evC c k n).o1,B (evC c k n).o2,B (evC c k n).o3,B (evC c k n).o4])
  (hO2:k=11->MO [I c.o0,I c.o1,B c.o2,B c.o3,B c.o4,I x,I k,I n]=some [I c.o0,I c.o1,B c.o2,B c.o3,B c.o4])
  (hG:MG' [I c.g0,I c.g1,I c.g2,I x,I k,I n]=some [I (evC c k n).g0,I (evC c k n).g1,I (evC c k n).g2]):
  U1 MR MT ML MG' MO (I x::I k::I n::Ad K c)=some (Ad K (evC c k n)):=by
 rw[Zoo];by_cases h:k=11
 ·rw[hO2 h,hG];subst h;rfl
 ·rw[hO h,hG];simp only[Option.bind_some];rw[Ba (by simpa using hk.2.2),Ba (by simpa using h),Ba (by simpa using hk.2.1),Ba (by simpa using hk.1)];by_cases h4:k=4
  ·subst h4;rfl
  ·rw[Ba (by simpa using h4)];have e:(evC c k n).resumed=c.resumed:=by unfold evC;simp[h4]
   rw[<-e];rfl
theorem Zqr {K:Kf} (c:Cv) (x:Int) {k:Int} (n:Int) (hk:k≠7/\k≠12/\k≠13):Kz (I x::I k::I n::Ad K c)=some (Ad K (evC c k n)):=
 Zkp c x n hk (fun h=>Z0g Zof c x k n h) (fun h=>by subst h;exact Zw0 c x n) (Zky (by show Sh []=_;rw[Q4u]) Zuo c x k n)
end Go.Bm
noncomputable section
namespace Go.Bm
def one (M:Fn) (l:List AC):Int:=gA ((M l).getD []) 0
theorem Qju {M:Fn} {l:List AC} {v:Int} (h:M l=some [I v]):M l=some [I (one M l)]:=by
 unfold one;rw[h];rfl
def G8 (k:Int) (c:Cv):Bool:=k==1||(k==3||(k==6||(k==4&&(c.o4||c.o3)||k==2&&c.o3)))
theorem Qze (at_ k it:Int) (c:Cv):Iq [I at_,I k,I it,I c.o0,I c.o1,B c.o2,B c.o3,B c.o4]=some [B (G8 k c)]:=by
 show X5 _=_;rw[Zdq];unfold G8;by_cases h1:k=1
 ·subst h1;rfl
 by_cases h2:k=3
 ·subst h2;rfl
 by_cases h3:k=6
 ·subst h3;rfl
 by_cases h4:k=4
 ·subst h4;cases c.o4<;>cases c.o3<;>rfl
 by_cases h5:k=2
 ·subst h5;cases c.o3<;>rfl
 simp[beF h1,beF h2,beF h3,beF h4,beF h5]
def GG (c:Cv) (known frm:Int):List Mrk->Nat->Int×Int
 |[],_=>(known,-1)
 |m::l,i=>if G8 m.kind c=true/\frm<=m.at_/\m.at_<=known then(m.at_,i)else GG c known frm l (i+1)
def BU (K:Kf) (c:Cv) (known frm:Int):Int×Int:=GG c known frm (K.p.marks.drop (max c.next 0).toNat) (max c.next 0).toNat
theorem Z2g {M:Fn} {K:Kf} (hl:K.p.marks.length<=1000000) (c:Cv) (hM:∀at_ k it:Int,M [I at_,I k,I it,I c.o0,I c.o1,B c.o2,B c.o3,B c.o4]=some [B (G8 k c)]) (known frm:Int):
  Qdf M (An (Te M)) [.view kPt (K.p.marks.map At),I c.next,I c.o0,I c.o1,B c.o2,B c.o3,B c.o4,I known,I frm]=some [I (BU K c known frm).1,I (BU K c known frm).2]:=by
 rw[Zqf];have hmx:mx c.next 0=max c.next 0:=by unfold mx;split<;>omega
 have key:Out (fun o=>(if o.1=1 then o.2=[I (BU K c known frm).1,I (BU K c known frm).2]else o.1=2/\o.2=[I (BU K c known frm).1]/\(BU K c known frm).2= -1)) (An (Te M) [.view kPt (K.p.marks.map At),I known,I frm,I (max c.next 0),I c.o0,I c.o1,B c.o2,B c.o3,B c.o4]):=by
  refine Cr (fun s:Int=>[.view kPt (K.p.marks.map At),I known,I frm,I s,I c.o0,I c.o1,B c.o2,B c.o3,B c.o4]) (fun s=>0<=s/\BU K c known frm=GG c known frm (K.p.marks.drop s.toNat) s.toNat) (fun s=>(K.p.marks.length-s).toNat) _ ?_ (max c.next 0) ⟨by omega,rfl⟩;rintro i ⟨g,hw⟩;rw[Zh3];refine .cond (fun k=> ?_) fun k=> ?_
  ·have k:i<((K.p.marks.map At).length:Int):=Bg k;rw[List.length_map]at k;have hi:i.toNat<K.p.marks.length:=by omega
   rw[Ae (x:=i+1) (by have:=hl;omega)];have em:mkK K i=K.p.marks[i.toNat]:=by unfold mkK;rw[List.getD,List.getElem?_eq_getElem hi];rfl
   rw[List.drop_eq_getElem_cons hi,<-em]at hw;unfold GG at hw;refine .cond (fun _=> ?_) fun e=>(inB g (by rw[List.length_map];exact k) e).elim;rw[Ny g k];refine .bind (p:=fun o=>o=_) ⟨_,hM _ _ _,rfl⟩ fun o e=> ?_;subst e;have next:BU K c known frm=GG c known frm (K.p.marks.drop (i.toNat+1)) (i.toNat+1)->Out (fun o:Nat×List AC=>(o.1=0/\∃s':Int,o.2=[.view kPt (K.p.marks.map At),I known,I frm,I s',I c.o0,I c.o1,B c.o2,B c.o3,B c.o4]/\(0<=s'/\BU K c known frm=GG c known frm (K.p.marks.drop s'.toNat) s'.toNat)/\(K.p.marks.length-s').toNat<(K.p.marks.length-i).toNat)\/(o.1≠0/\(if o.1=1 then o.2=[I (BU K c known frm).1,I (BU K c known frm).2]else o.1=2/\o.2=[I (BU K c known frm).1]/\(BU K c known frm).2= -1))) (some (0,[.view kPt (K.p.marks.map At),I known,I frm,I (i+1),I c.o0,I c.o1,B c.o2,B c.o3,B c.o4])):=fun e=>
    .some (.inl ⟨rfl,i+1,rfl,⟨by omega,by rw[e,show(i+1).toNat=i.toNat+1 by omega]⟩,by omega⟩)
   refine .cond (fun a=> .cond (fun b=> .cond (fun d=> ?_) fun d=> ?_) fun b=> ?_) fun a=> ?_
   ·have a:G8 (mkK K i).kind c=true:=a;have b:frm<=(mkK K i).at_:=Bg b;have d:(mkK K i).at_<=known:=Bg d;rw[if_pos ⟨a,b,d⟩]at hw;refine .some (.inr ⟨by simp,?_⟩);rw[if_pos rfl,hw];show [I (mkK K i).at_,I i]=[I (mkK K i).at_,I (i.toNat:Int)];rw[Int.toNat_of_nonneg g]
   ·have d: ¬(mkK K i).at_<=known:=Bf d;rw[if_neg (fun h=>d h.2.2)]at hw;exact next hw
   ·have b: ¬frm<=(mkK K i).at_:=Bf b;rw[if_neg (fun h=>b h.2.1)]at hw;exact next hw
   ·have a:G8 (mkK K i).kind c=false:=a;rw[if_neg (fun h=>by rw[a]at h;cases h.1)]at hw;exact next hw
  ·have k: ¬i<((K.p.marks.map At).length:Int):=Bf k;rw[List.length_map]at k;rw[List.drop_of_length_le (by omega)]at hw;refine .some (.inr ⟨by simp,?_⟩);rw[if_neg (by simp),hw];exact⟨rfl,rfl,rfl⟩
 obtain⟨⟨o1,o2⟩,h1,h2⟩:=key;rw[hmx];refine eB h1 ?_;by_cases e:o1=1
 ·subst e;have h2:o2=_:=h2;subst h2;rfl
 ·rw[if_neg e]at h2;obtain⟨q1,q2,q3⟩:=h2;dsimp only at q1 q2;subst q1 q2;rw[q3];rfl
theorem Z1g {K:Kf} (h:KOK K) (c:Cv) (known frm:Int):PP [.view kPt (K.p.marks.map At),I c.next,I c.o0,I c.o1,B c.o2,B c.o3,B c.o4,I known,I frm]=some [I (BU K c known frm).1,I (BU K c known frm).2]:=
 Z2g h.count c (fun at_ k it=>Qze at_ k it c) known frm
theorem Q40 {c:Cv} {known frm:Int} (hk:i64 known):∀{l:List Mrk} {i:Nat},(∀m∈l,i64 m.at_)->i64 (GG c known frm l i).1
 |[],_,_=>hk
 |m::l,i,h=>by
  unfold GG;split
  ·exact h m (by simp)
  ·exact Q40 hk fun q hq=>h q (by simp[hq])
theorem Quk {c:Cv} {known frm:Int}:∀{l:List Mrk} {i:Nat},(GG c known frm l i).2= -1\/((i:Int)<=(GG c known frm l i).2/\(GG c known frm l i).2<(i+l.length:Nat))
 |[],_=> .inl rfl
 |m::l,i=>by
  unfold GG;split
  ·exact .inr ⟨Int.le_refl _,by simp only[List.length_cons];omega⟩
  ·rcases Quk (l:=l) (i:=i+1) (c:=c) (known:=known) (frm:=frm)with h|⟨h1,h2⟩
   ·exact .inl h
   ·exact .inr ⟨by omega,by simp only[List.length_cons];omega⟩
theorem Ze6 {K:Kf} {c:Cv} {known frm:Int}:(BU K c known frm).2= -1\/(0<=(BU K c known frm).2/\c.next<=(BU K c known frm).2/\(BU K c known frm).2<K.p.marks.length):=by
 unfold BU;rcases Quk (c:=c) (known:=known) (frm:=frm) (l:=K.p.marks.drop (max c.next 0).toNat) (i:=(max c.next 0).toNat)with h|⟨h1,h2⟩
 ·exact .inl h
 ·rw[List.length_drop]at h2;exact .inr ⟨by omega,by omega,by omega⟩
def R9 (K:Kf) (c:Cv):Int:=one DY [I K.pa,I K.pb,I K.pc,I c.m0,I c.m1,I c.m2,I c.m3,I c.m4,I c.m5]
def Fq (K:Kf):Int:=if K.closed=true then K.len else K.set
def FU (r:Int):Int:=wrap .i64 ((wrap .i64 (wrap .i64 (r+256)-1)).tdiv 256)
def LX (K:Kf) (r:Int):Int:=if IG K.t (BJ K.t (FU r))≠FU r then wrap .i64 (BJ K.t (FU r)+1)else BJ K.t (FU r)
def A1 (K:Kf) (c:Cv):Int×Int:=(IG K.t (BU K c (Fq K) (LX K (R9 K c))).1,(BU K c (Fq K) (LX K (R9 K c))).2)
theorem Qqx (K:Kf) (c:Cv):(A1 K c).2= -1\/(0<=(A1 K c).2/\c.next<=(A1 K c).2/\(A1 K c).2<K.p.marks.length):=Ze6
theorem Zyj {K:Kf} (h:KOK K):i64 (Fq K):=by unfold Fq;split;exact h.len;exact h.set
theorem Qy7 {K:Kf} (h:KOK K) {c:Cv} {frm:Int}:i64 (BU K c (Fq K) frm).1:=by
 unfold BU;exact Q40 (Zyj h) fun m hm=>(h.marks m (List.mem_of_mem_drop hm)).2.2
theorem Zdc {MN MW MP MR:Fn} {K:Kf} {c:Cv} {r:Int} {b:Bool} (h:KOK K)
  (hR:MR [I K.pa,I K.pb,I K.pc,I c.m0,I c.m1,I c.m2,I c.m3,I c.m4,I c.m5]=some [I r,B b])
  (hP:∀u,MP (Bj K.t++[I u])=some [I (BJ K.t u)]) (hW:∀{z:Int},i64 z->MW (Bj K.t++[I z])=some [I (IG K.t z)])
  (hN:∀known frm,MN [.view kPt (K.p.marks.map At),I c.next,I c.o0,I c.o1,B c.o2,B c.o3,B c.o4,I known,I frm]=some [I (BU K c known frm).1,I (BU K c known frm).2]):
  Qjz MN MW MP MR (Ad K c)=some (I (IG K.t (BU K c (Fq K) (LX K r)).1)::I (BU K c (Fq K) (LX K r)).2::Ad K c):=by
 have key:∀known:Int,known=Fq K->Q2 MR K c MP MW MN (I known)=some (I (IG K.t (BU K c (Fq K) (LX K r)).1)::I (BU K c (Fq K) (LX K r)).2::Ad K c):=fun known hk=>by
  subst hk;refine eB hR (eB (hP (FU r)) (eB (hW (RG h.f _)) ?_));have e1:LX K r=if IG K.t (BJ K.t (FU r))≠FU r then wrap .i64 (BJ K.t (FU r)+1)else BJ K.t (FU r):=rfl;by_cases c1:IG K.t (BJ K.t (FU r))=FU r
  ·rw[if_neg (by simpa using c1)]at e1;refine eF (bnF c1) ?_;exact eB (hN (Fq K) (BJ K.t (FU r))) (by rw[<-e1];exact eB (hW (Qy7 h)) rfl)
  ·rw[if_pos c1]at e1;refine eT (bnT c1) ?_;exact eB (hN (Fq K) (wrap .i64 (BJ K.t (FU r)+1))) (by rw[<-e1];exact eB (hW (Qy7 h)) rfl)
 rw[Zq0];refine eC (fun e=>key _ ?_) fun e=>key _ ?_
 ·unfold Fq;rw[if_pos e]
 ·unfold Fq;rw[if_neg (by rw[e];simp)]
end Go.Bm
noncomputable section
namespace Go.Bm
theorem Zd8 {M:Fn} {l:List AC} (h:Out (fun o=>(wA o 0).length<=4096) (M l)) {x0 x1 x2 x3 x4 x5 x6 x7 x8:Int} (e:l=[I x0,I x1,I x2,I x3,I x4,I x5,I x6,I x7,I x8]):∃(r:Int) (b:Bool),LJ M l=some [I r,B b]:=by
 subst e;have key:Out (fun o=>∃(r:Int) (b:Bool),o=[I r,B b]) (LJ M [I x0,I x1,I x2,I x3,I x4,I x5,I x6,I x7,I x8]):=by
  rw[Sl];refine .bind h fun o g=> .cond (fun _=> .some ⟨0,false,rfl⟩) fun _=> ?_;generalize wA o 0=sp at*;refine .cond (fun _=> .some ⟨x3,true,rfl⟩) fun c=> .cond (fun _=> .some ⟨_,true,rfl⟩) fun d=> ?_;have c: ¬((sp.length:Int)=0):=by simpa using c
  rw[Ae (by omega)]at d;simp at d;omega
 obtain⟨o,h1,r,b,rfl⟩:=key;exact⟨r,b,h1⟩
theorem Zpu (x0 x1 x2 x3 x4 x5 x6 x7 x8:Int):∃b:Bool,DY [I x0,I x1,I x2,I x3,I x4,I x5,I x6,I x7,I x8]=some [I (one DY [I x0,I x1,I x2,I x3,I x4,I x5,I x6,I x7,I x8]),B b]:=by
 obtain⟨r,b,h⟩:=Zd8 (M:=Do) (SJ x0 x1 x2 x3 x4 x5 x6 x7 x8) rfl;have h:DY [I x0,I x1,I x2,I x3,I x4,I x5,I x6,I x7,I x8]=some [I r,B b]:=h;refine⟨b,?_⟩;unfold one;rw[h];rfl
theorem Z2w {K:Kf} (h:KOK K) (c:Cv):O9 (Ad K c)=some (I (A1 K c).1::I (A1 K c).2::Ad K c):=by
 obtain⟨b,hb⟩:=Zpu K.pa K.pb K.pc c.m0 c.m1 c.m2 c.m3 c.m4 c.m5;exact Zdc h hb (PU h.f.t.q) (fun hz=>Zn7 h.f.t.q hz) (Z1g h c)
def TF (c:Cv) (v:Int):Cv:={c with m0:=wrap .i64 (c.m0+v),m1:=v,m2:=wrap .i64 (v-c.m1),m3:=c.m0,m4:=c.m3,m5:=c.m4}
def Eh (K:Kf) (c:Cv) (l:Int):Cv:=TF c (nxV K c l)
theorem Qy5 {K:Kf} {c:Cv} {n:Int} (h:KOK K) (g:Gd K n c) (l:Int):
  ET (nxL K c l)=some (EH c.m0 c.m1 c.m3 c.m4 (nxV K c l))/\((AE K.pa K.pb (nxV K c l) (wrap .i64 (nxV K c l-c.m1))).2=true\/∃r:Int,nxV K c l=wrap .i64 (c.m1+r)/\r=AA K.pa K.pb c.m1 c.m2):=by
 obtain⟨o,h1,v,rfl,h2⟩:=Q7z h g.mo l c.o2;have h1:ET (nxL K c l)=some (EH c.m0 c.m1 c.m3 c.m4 v):=h1;have e:nxV K c l=v:=by unfold nxV;rw[h1];rfl
 rw[e];exact⟨h1,h2⟩
theorem Z38 {M:Fn} {K:Kf} {c:Cv} {l v:Int} (h:M (nxL K c l)=some (EH c.m0 c.m1 c.m3 c.m4 v)):UA M (I l::Ad K c)=some (Ad K (TF c v)):=by
 rw[Z11];exact eB h rfl
theorem T4 {K:Kf} {c:Cv} {n:Int} (h:KOK K) (g:Gd K n c) (l:Int):Hb (I l::Ad K c)=some (Ad K (Eh K c l)):=Z38 (Qy5 h g l).1
theorem Quj {K:Kf} {c:Cv} {n:Int} (h:KOK K) (g:Gd K n c) (hn:0<=n/\n<=10000) (l:Int):Gd K (n+1) (Eh K c l):=g.move h hn (Qy5 h g l).2
def HJ (c:Cv):Cv:={c with next:=wrap .i64 (c.idx+1),on:=false,idx:=0,waits:=false,cnt:=0}
def On (c:Cv) (n sp:Int):List AC:=(LT [I c.s0,I c.s1,I c.s2,I c.s3,I n,I sp]).getD []
def JZ (c:Cv) (n sp:Int):Cv:={c with s0:=gA (On c n sp) 0,s1:=gA (On c n sp) 1,s2:=gA (On c n sp) 2,s3:=gA (On c n sp) 3}
def Q7w (c:Cv) (n sp:Int):Bool:=bA ((L7 [I c.s0,I c.s1,I c.s2,I c.s3,I n,I sp]).getD []) 0
def Iz (K:Kf) (c:Cv):Int×Cv:=
 if c.waits=true then(if c.cnt>1/\c.resumed=true then(3,HJ c)else(2,c))
 else if(mkK K c.idx).kind≠3 then(3,HJ c)
 else if(itK K (mkK K c.idx).item).kind=7 then(if c.cnt<(itK K (mkK K c.idx).item).n then(3,c)else(3,HJ c))
 else if(itK K (mkK K c.idx).item).kind=8 then(if Q7w (JZ c (itK K (mkK K c.idx).item).n (itK K (mkK K c.idx).item).speed) (itK K (mkK K c.idx).item).n (itK K (mkK K c.idx).item).speed=true then(3,HJ (JZ c (itK K (mkK K c.idx).item).n (itK K (mkK K c.idx).item).speed))else(3,JZ c (itK K (mkK K c.idx).item).n (itK K (mkK K c.idx).item).speed))
 else if(itK K (mkK K c.idx).item).kind=14 then(7,{c with ended:=7})else(3,HJ c)
def C3 (c:Cv):Cv:={c with cnt:=wrap .i64 (c.cnt+1)}
def Cq (K:Kf) (c:Cv):Int×Cv:=Iz K (C3 c)
theorem Z2e {MR MC MD:Fn} {K:Kf} {c:Cv} (h:KOK K) (h0:0<=c.idx) (h1:c.idx<K.p.marks.length)
  (hD:∀c:Cv,MD (Ad K c)=some (I 3::Ad K (HJ c)))
  (hC:∀(c:Cv) (x4 x5:Int),i64 x5->MC [I c.s0,I c.s1,I c.s2,I c.s3,I x4,I x5]=some (On c x4 x5)) (hR:∀(c:Cv) (x4 x5:Int),i64 x5->Out (fun o=>bA o 0=Q7w c x4 x5) (MR [I c.s0,I c.s1,I c.s2,I c.s3,I x4,I x5])):
  Qfc MR MC MD (Ad K c)=some (I (Cq K c).1::Ad K (Cq K c).2):=by
 rw[Zvj];have hm:=SU h h0 h1;unfold Cq Iz;refine eC (fun a=> ?_) fun a=> ?_
 ·rw[if_pos (show(C3 c).waits=true from a)];refine eC (fun b=>eC (fun e=> ?_) fun e=> ?_) fun b=> ?_
  ·rw[if_pos (show(C3 c).cnt>1/\(C3 c).resumed=true from⟨Bg b,e⟩)];exact eB (hD (C3 c)) rfl
  ·rw[if_neg (show¬((C3 c).cnt>1/\(C3 c).resumed=true)from fun q=>by have:=q.2;rw[show(C3 c).resumed=false from e]at this;cases this)];rfl
  ·rw[if_neg (show¬((C3 c).cnt>1/\(C3 c).resumed=true)from fun q=>Bf b q.1)];rfl
 ·rw[if_neg (show¬(C3 c).waits=true by rw[show(C3 c).waits=false from a];simp)];refine eT (inM (f:=At) h0 h1) ?_;rw[Ny h0 h1];rw[show(C3 c).idx=c.idx from rfl];refine eC (fun b=> ?_) fun b=> ?_
  ·have b:(mkK K c.idx).kind≠3:=by simpa [gA,nth,Af]using b
   rw[if_pos b];exact eB (hD (C3 c)) rfl
  ·have b:(mkK K c.idx).kind=3:=by simpa [gA,nth,Af]using b
   rw[if_neg (by rw[b];simp)];refine eT (inM (f:=Ag) (l:=K.items) (i:=(mkK K c.idx).item) hm.1 hm.2.1) ?_;have er:nth [] (K.items.map Ag) (gA (At (mkK K c.idx)) 2).toNat=Ag (itK K (mkK K c.idx).item):=Jb hm.1 hm.2.1;rw[er];have hsp:(itK K (mkK K c.idx).item).kind=8->i64 (itK K (mkK K c.idx).item).speed:=fun k8=>by
    have:=Zwb h (mkK K c.idx).item.toNat;rw[Jb hm.1 hm.2.1]at this;exact this k8
   generalize itK K (mkK K c.idx).item=it at*;refine eC (fun k=> ?_) fun k=> ?_
   ·have k:it.kind=7:=eq_of_beq k;rw[if_pos k];refine eC (fun q=> ?_) fun q=> ?_
    ·rw[if_pos (show(C3 c).cnt<it.n from Bg q)];rfl
    ·rw[if_neg (show¬(C3 c).cnt<it.n from Bf q)];exact eB (hD (C3 c)) rfl
   ·have k:it.kind≠7:=by simpa [gA,nth,Af]using k
    rw[if_neg k];refine eC (fun k8=> ?_) fun k8=> ?_
    ·have k8:it.kind=8:=eq_of_beq k8;rw[if_pos k8];refine eB (hC (C3 c) it.n it.speed (hsp k8)) ?_;obtain⟨o,h5,h6⟩:=hR (JZ (C3 c) it.n it.speed) it.n it.speed (hsp k8);refine eB h5 ?_;rw[<-h6];refine eC (fun q=> ?_) fun q=> ?_
     ·rw[if_neg (show¬bA o 0=true by simpa using q)];rfl
     ·rw[if_pos (show bA o 0=true by simpa using q)];exact eB (hD (JZ (C3 c) it.n it.speed)) rfl
    ·have k8:it.kind≠8:=by simpa [gA,nth,Af]using k8
     rw[if_neg k8];refine eC (fun k=> ?_) fun k=> ?_
     ·rw[if_pos (show it.kind=14 from eq_of_beq k)];rfl
     ·rw[if_neg (show it.kind≠14 by simpa [gA,nth,Af]using k)];exact eB (hD (C3 c)) rfl
theorem Qkb {l:Option (List AC)} (h:l.isSome=true):l=some (l.getD []):=by
 cases l with
 |none=>cases h
 |some o=>rfl
theorem Zfm (c:Cv) (x4:Int) {x5:Int} (h:i64 x5):LT [I c.s0,I c.s1,I c.s2,I c.s3,I x4,I x5]=some (On c x4 x5):=Qkb (Zud _ _ _ _ _ h)
theorem Zzw (K:Kf) (c:Cv):ND (Ad K c)=some (I 3::Ad K (HJ c)):=Zkr K c
theorem Qq0 {K:Kf} {c:Cv} (h:KOK K) (h0:0<=c.idx) (h1:c.idx<K.p.marks.length):JD (Ad K c)=some (I (Cq K c).1::Ad K (Cq K c).2):=
 Z2e h h0 h1 (Zzw K) (fun c x4 _ h=>Zfm c x4 h) fun c x4 x5 h=>⟨_,Qkb (Z1j _ _ _ _ _ h),rfl⟩
def FO (K:Kf) (c:Cv) (i:Int):Bool:=
 if(mkK K i).kind=1\/(mkK K i).kind=2\/(mkK K i).kind=6 then c.o3 else if(mkK K i).kind=4 then true
 else if(mkK K i).kind=3 then((itK K (mkK K i).item).kind==11||(itK K (mkK K i).item).kind==12)else false
def DT (K:Kf) (c:Cv) (i:Int):Int×Cv:=Cq K {c with on:=true,idx:=i,waits:=FO K c i,cnt:=0}
theorem Zsb {M:Fn} {K:Kf} {c:Cv} {i:Int} (h:KOK K) (h0:0<=i) (h1:i<K.p.marks.length)
  (hW:∀w:Bool,M (Ad K {c with on:=true,idx:=i,waits:=w,cnt:=0})=some (I (Cq K {c with on:=true,idx:=i,waits:=w,cnt:=0}).1::Ad K (Cq K {c with on:=true,idx:=i,waits:=w,cnt:=0}).2)):
  Qi6 M (I i::Ad K c)=some (I (DT K c i).1::Ad K (DT K c i).2):=by
 rw[Zzk];have hm:=SU h h0 h1;unfold DT;refine eT (inM (f:=At) h0 h1) ?_;rw[Ny h0 h1];have fin:∀{w:Bool} {f:List AC->List AC},w=FO K c i->(∀(m:Int) (c:Cv),f (I m::Ad K c)=I m::Ad K c)->((M (Ad K {c with on:=true,idx:=i,waits:=w,cnt:=0})).bind fun o=>some (f o))=some (I (Cq K {c with on:=true,idx:=i,waits:=FO K c i,cnt:=0}).1::Ad K (Cq K {c with on:=true,idx:=i,waits:=FO K c i,cnt:=0}).2):=fun hw hf=>by
  subst hw;refine eB (hW _) ?_;rw[hf]
 have ne:∀{n:Int},(gA (At (mkK K i)) 1==n)=false->(mkK K i).kind≠n:=fun e=>by simpa [gA,nth,Af]using e
 have eq:∀{n:Int},(gA (At (mkK K i)) 1==n)=true->(mkK K i).kind=n:=fun e=>eq_of_beq e;refine eC (fun e=>fin (by unfold FO;rw[if_pos (.inl (eq e))]) fun _ _=>rfl) fun n1=> ?_;refine eC (fun e=>fin (by unfold FO;rw[if_pos (.inr (.inl (eq e)))]) fun _ _=>rfl) fun n2=> ?_;refine eC (fun e=>fin (by unfold FO;rw[if_pos (.inr (.inr (eq e)))]) fun _ _=>rfl) fun n6=> ?_;have no: ¬((mkK K i).kind=1\/(mkK K i).kind=2\/(mkK K i).kind=6):=by
  intro q;rcases q with q|q|q
  ·exact ne n1 q
  ·exact ne n2 q
  ·exact ne n6 q
 refine eC (fun e=>fin (by unfold FO;rw[if_neg no,if_pos (eq e)]) fun _ _=>rfl) fun n4=> ?_;refine eC (fun e=> ?_) fun n3=>fin (by unfold FO;rw[if_neg no,if_neg (ne n4),if_neg (ne n3)]) fun _ _=>rfl;refine eT (inM (f:=Ag) (l:=K.items) (i:=(mkK K i).item) hm.1 hm.2.1) ?_;have er:nth [] (K.items.map Ag) (gA (At (mkK K i)) 2).toNat=Ag (itK K (mkK K i).item):=Jb hm.1 hm.2.1;rw[er];have hw:FO K c i=((itK K (mkK K i).item).kind==11||(itK K (mkK K i).item).kind==12):=by unfold FO;rw[if_neg no,if_neg (ne n4),if_pos (eq e)]
 refine eC (fun k=>fin (by rw[hw,show((itK K (mkK K i).item).kind==11)=true from k];rfl) fun _ _=>rfl) fun k=>fin (by rw[hw,show((itK K (mkK K i).item).kind==11)=false from k];rfl) fun _ _=>rfl
theorem Z25 {K:Kf} {c:Cv} {i:Int} (h:KOK K) (h0:0<=i) (h1:i<K.p.marks.length):P3 (I i::Ad K c)=some (I (DT K c i).1::Ad K (DT K c i).2):=
 Zsb h h0 h1 fun _=>Qq0 h h0 h1
end Go.Bm
noncomputable section
namespace Go.Bm
def DJ (c:Cv):Cv:=if c.g0=0 then{c with o2:=true,g0:=1,g1:=18,g2:= -1}else c
theorem Qfk (K:Kf) (c:Cv):GC (Ad K c)=some (Ad K (DJ c)):=Zl8 K c
def Ma (c:Cv):Int:=one Jt [I c.before,I c.s0]
theorem Zte (c:Cv):Jt [I c.before,I c.s0]=some [I (Ma c)]:=by
 have key:∃v,Jt [I c.before,I c.s0]=some [I v]:=by
  have e:Jt [I c.before,I c.s0]=Ul Km [I c.before,I c.s0]:=rfl;have h:∀a,(Km [I a,I 1048576]).isSome=true:=fun a=>Zfc (by omega);rw[e,Za8];generalize Km=M at*;have h2:∀a,∃o,M [I a,I 1048576]=some o:=fun a=>Option.isSome_iff_exists.1 (h a);cases(c.s0== -1)
  ·obtain⟨o,ho⟩:=h2 (wrap .i64 (0-c.before));exact⟨_,eB ho rfl⟩
  ·obtain⟨o,ho⟩:=h2 c.before;exact⟨_,eB ho rfl⟩
 obtain⟨v,h⟩:=key;exact Qju h
def goC (K:Kf) (c:Cv) (g:Sgm):Cv:={c with y0:=g.item,y1:=Bu K c,y2:=c.s3,e0:=1,e1:=c.m0,e2:=Ma c,e3:=0}
def EN (K:Kf) (c:Cv) (g:Sgm):Bool:=(itK K g.item).kind==6||(c.s1 !=0&& !decide (wrap .i64 (wrap .i64 (c.s3-Ma c)*c.s0)<0))
theorem Zrf {MP MI:Fn} {K:Kf} {c:Cv} {s:Sgm} (h0:0<=s.item) (h1:s.item<K.items.length) (hI:MI [I c.before,I c.s0]=some [I (Ma c)]) (hP:MP (Ad K c)=some [I (Bu K c)]):
  Xw MP MI (I s.to.x::I s.to.y::I s.to.z::I s.len::I s.item::I s.feed::I s.lead::Ad K c)=some (B (EN K c s)::Ad K (if EN K c s=true then goC K c s else c)):=by
 rw[Q95];refine eB hI (eT (inM (f:=Ag) h0 h1) ?_);rw[Jb h0 h1];refine eC (fun e=> ?_) fun e=> ?_
 ·have e:(itK K s.item).kind≠6:=by simpa [gA,nth,Af]using e
  refine eC (fun a=> ?_) fun a=>eC (fun b=> ?_) fun b=> ?_
  ·have hm:EN K c s=false:=by unfold EN;rw[beF e,bnF (eq_of_beq a)];rfl
   rw[hm];rfl
  ·have hm:EN K c s=false:=by unfold EN;rw[beF e,show decide (wrap .i64 (wrap .i64 (c.s3-Ma c)*c.s0)<0)=true from b];simp
   rw[hm];rfl
  ·have hm:EN K c s=true:=by
    unfold EN;rw[show decide (wrap .i64 (wrap .i64 (c.s3-Ma c)*c.s0)<0)=false from b];simp only[bne,a];simp
   rw[hm];exact eB hP rfl
 ·have e:(itK K s.item).kind=6:=by simpa [gA,nth,Af]using e
  have hm:EN K c s=true:=by unfold EN;rw[beT e];rfl
  rw[hm];exact eB hP rfl
theorem Q9b {K:Kf} {c:Cv} {s:Sgm} (h:KOK K) (h0:0<=s.item) (h1:s.item<K.items.length):
  PZ (I s.to.x::I s.to.y::I s.to.z::I s.len::I s.item::I s.feed::I s.lead::Ad K c)=some (B (EN K c s)::Ad K (if EN K c s=true then goC K c s else c)):=
 Zrf h0 h1 (Zte c) (Sz h c)
def Qdm (lead way:Int):Int:=one JM [I lead,I way]
theorem Zog {a b:Int} (ha:i64 a) (hb:i64 b):JM [I a,I b]=some [I (Qdm a b)]:=by
 have key:∃v,JM [I a,I b]=some [I v]:=by
  have e:JM [I a,I b]=Qfj Bq [I a,I b]:=rfl;have h:=Qe5 (show i64 4096 by unfold i64;omega) hb ha 0;rw[e,Q9f];generalize Bq=M at*;obtain⟨o,ho⟩:=Option.isSome_iff_exists.1 h;exact⟨_,eB ho rfl⟩
 obtain⟨v,h⟩:=key;exact Qju h
def Qsz (K:Kf) (d:Cv) (g:Sgm):Int:=wrap .i64 (d.y2+wrap .i64 (wrap .i64 ((if(itK K g.item).n=3 then 1 else-1)*Qdm g.lead (wrap .i64 (Bu K d-d.y1)))*256))
def PB (K:Kf) (c:Cv) (l:Int) (g:Sgm):Cv:={Eh K c l with s3:=Qsz K (Eh K c l) g}
theorem Zsh {MA MP ML:Fn} {K:Kf} {c:Cv} {l:Int} {s:Sgm} (h0:0<=s.item) (h1:s.item<K.items.length)
  (hA:∀v,i64 v->MA [I s.lead,I v]=some [I (Qdm s.lead v)]) (hP:∀c,MP (Ad K c)=some [I (Bu K c)]) (hL:ML (I l::Ad K c)=some (Ad K (Eh K c l))):
  Ya MA MP ML (I l::I s.to.x::I s.to.y::I s.to.z::I s.len::I s.item::I s.feed::I s.lead::Ad K c)=some (Ad K (PB K c l s)):=by
 rw[Q91];unfold PB;generalize Eh K c l=d at*;refine eB hL (eT (inM (f:=Ag) h0 h1) ?_);show cond (gA (nth [] (K.items.map Ag) s.item.toNat) 19==3) _ _=_;rw[Jb h0 h1];unfold Qsz;refine eC (fun e=> ?_) fun e=> ?_
 ·rw[if_pos (show(itK K s.item).n=3 from eq_of_beq e)];exact eB (hP d) (eB (hA _ (R4 _)) rfl)
 ·rw[if_neg (show(itK K s.item).n≠3 by simpa [gA,nth,Af]using e)];exact eB (hP d) (eB (hA _ (R4 _)) rfl)
theorem Q2p {K:Kf} {c:Cv} {n:Int} (h:KOK K) (g:Gd K n c) (hn:0<=n/\n<=10000) (l:Int) {s:Sgm} (hs:0<=s.item/\s.item<K.items.length/\i64 s.lead):
  Pr (I l::I s.to.x::I s.to.y::I s.to.z::I s.len::I s.item::I s.feed::I s.lead::Ad K c)=some (Ad K (PB K c l s)):=
 Zsh hs.1 hs.2.1 (fun v hv=>Zog hs.2.2 hv) (Sz h) (T4 h g l)
def thL (K:Kf) (c:Cv) (l lead:Int):List AC:=pxt K.p K.x K.t [I K.pa,I K.pb,I K.pc,I c.o0,I c.o1,B c.o2,B c.o3,B c.o4,I c.m0,I c.m1,I c.m2,I c.m3,I c.m4,I c.m5,I l,I lead,I c.e0,I c.e1,I c.e2,I c.e3,I c.before,I c.s3]
def thO (K:Kf) (c:Cv) (l lead:Int):List AC:=(Jp (thL K c l lead)).getD []
def KE (c:Cv) (o:List AC):Cv:={TF c (gA o 1)with e0:=gA o 6,e1:=gA o 7,e2:=gA o 8,e3:=gA o 9}
def J7 (K:Kf) (c:Cv) (l lead:Int):Cv:=
 if c.g0≠0 then{Eh K c l with e0:=3}else if gA (thO K c l lead) 10≠0 then DJ (KE c (thO K c l lead))else KE c (thO K c l lead)
theorem Qx8 {K:Kf} {c:Cv} {n:Int} (h:KOK K) (g:Gd K n c) (l:Int) {lead:Int} (hl:i64 lead):
  Jp (thL K c l lead)=some (thO K c l lead)/\∃v s b z y e:Int,thO K c l lead=EH c.m0 c.m1 c.m3 c.m4 v++[I s,I b,I z,I y,I e]/\((AE K.pa K.pb v (wrap .i64 (v-c.m1))).2=true\/∃r:Int,v=wrap .i64 (c.m1+r)/\r=AA K.pa K.pb c.m1 c.m2):=by
 obtain⟨o,h1,v,s,b,z,y,e,rfl,h2⟩:=Zum h g.mo l hl;have h1:Jp (thL K c l lead)=some (EH c.m0 c.m1 c.m3 c.m4 v++[I s,I b,I z,I y,I e]):=h1;have e2:thO K c l lead=EH c.m0 c.m1 c.m3 c.m4 v++[I s,I b,I z,I y,I e]:=by unfold thO;rw[h1];rfl
 rw[e2];exact⟨h1,v,s,b,z,y,e,rfl,h2⟩
theorem Zer {MF MT ML:Fn} {K:Kf} {c:Cv} {l:Int} {s:Sgm} (hF:∀c,MF (Ad K c)=some (Ad K (DJ c)))
  (hT:MT (thL K c l s.lead)=some (thO K c l s.lead)) (hS:∃v s' b z y e:Int,thO K c l s.lead=EH c.m0 c.m1 c.m3 c.m4 v++[I s',I b,I z,I y,I e]) (hL:ML (I l::Ad K c)=some (Ad K (Eh K c l))):
  Qb1 MF MT ML (I l::I s.to.x::I s.to.y::I s.to.z::I s.len::I s.item::I s.feed::I s.lead::Ad K c)=some (Ad K (J7 K c l s.lead)):=by
 rw[Z2v];unfold J7;refine eC (fun e=> ?_) fun e=> ?_
 ·rw[if_pos (show c.g0≠0 by simpa using e)];generalize Eh K c l=d at*;exact eB hL rfl
 ·rw[if_neg (show¬c.g0≠0 by simpa using e)];obtain⟨v,s',b,z,y,e',hs⟩:=hS;generalize thO K c l s.lead=o at*;subst hs;refine eB hT ?_;refine eC (fun q=> ?_) fun q=> ?_
  ·rw[if_pos (show gA (EH c.m0 c.m1 c.m3 c.m4 v++[I s',I b,I z,I y,I e']) 10≠0 by simpa using q)];refine Eq.trans (congrArg (fun z=>Option.bind z _) (hF (KE c (EH c.m0 c.m1 c.m3 c.m4 v++[I s',I b,I z,I y,I e'])))) rfl
  ·rw[if_neg (show¬gA (EH c.m0 c.m1 c.m3 c.m4 v++[I s',I b,I z,I y,I e']) 10≠0 by simpa using q)];rfl
theorem Qpa {K:Kf} {c:Cv} {n:Int} (h:KOK K) (g:Gd K n c) (hn:0<=n/\n<=10000) (l:Int) {s:Sgm} (hs:i64 s.lead):
  Qu (I l::I s.to.x::I s.to.y::I s.to.z::I s.len::I s.item::I s.feed::I s.lead::Ad K c)=some (Ad K (J7 K c l s.lead)):=by
 obtain⟨h1,v,s',b,z,y,e,h2,-⟩:=Qx8 h g l hs;exact Zer (Qfk K) h1 ⟨v,s',b,z,y,e,h2⟩ (T4 h g l)
def Gw (K:Kf) (c:Cv) (l:Int) (g:Sgm):Cv:=if(itK K g.item).kind=6 then PB K c l g else J7 K c l g.lead
def Dx (K:Kf) (c:Cv) (l:Int):Cv:=
 if(sgK K c).lead=0\/(c.o2=true/\c.y0≠(sgK K c).item)then Eh K c l
 else if c.y0=(sgK K c).item then Gw K c l (sgK K c)
 else if EN K c (sgK K c)=true then Gw K (goC K c (sgK K c)) l (sgK K c)
 else if c.s1=0 then DJ c else c
theorem Gd.go {K:Kf} {n:Int} {c:Cv} (g:Gd K n c) (s:Sgm):Gd K n (goC K c s):=⟨g.way,g.pass,g.task,g.mo,g.m0⟩
theorem Zy6 {MH MT MF MS ML MG':Fn} {K:Kf} {c:Cv} {l:Int} (hok:(sgK K c).lead≠0->0<=(sgK K c).item/\(sgK K c).item<K.items.length)
  (hG:MG' (Ad K c)=some (Ay (sgK K c)++[B (Fw K c).isSome])) (hL:ML (I l::Ad K c)=some (Ad K (Eh K c l)))
  (hS:(sgK K c).lead≠0->MS (I (sgK K c).to.x::I (sgK K c).to.y::I (sgK K c).to.z::I (sgK K c).len::I (sgK K c).item::I (sgK K c).feed::I (sgK K c).lead::Ad K c)=some (B (EN K c (sgK K c))::Ad K (if EN K c (sgK K c)=true then goC K c (sgK K c)else c)))
  (hF:MF (Ad K c)=some (Ad K (DJ c)))
  (hT:(sgK K c).lead≠0->∀d,d=c\/d=goC K c (sgK K c)->MT (I l::I (sgK K c).to.x::I (sgK K c).to.y::I (sgK K c).to.z::I (sgK K c).len::I (sgK K c).item::I (sgK K c).feed::I (sgK K c).lead::Ad K d)=some (Ad K (PB K d l (sgK K c))))
  (hH:(sgK K c).lead≠0->∀d,d=c\/d=goC K c (sgK K c)->MH (I l::I (sgK K c).to.x::I (sgK K c).to.y::I (sgK K c).to.z::I (sgK K c).len::I (sgK K c).item::I (sgK K c).feed::I (sgK K c).lead::Ad K d)=some (Ad K (J7 K d l (sgK K c).lead))):
  Qet MH MT MF MS ML MG' (I l::Ad K c)=some (Ad K (Dx K c l)):=by
 rw[Zva];unfold Dx;generalize sgK K c=s at*;refine eB hG ?_;refine eC (fun e=> ?_) fun e=> ?_
 ·rw[if_pos (.inl (show s.lead=0 from eq_of_beq e))];generalize Eh K c l=d at*;exact eB hL rfl
 ·have e:s.lead≠0:=by simpa [gA,nth,Af]using e
  obtain⟨q0,q1⟩:=hok e;have hS:=hS e;have hT:=hT e;have hH:=hH e
  have syn:∀{d:Cv} {f1 f2:List AC->List AC},d=c\/d=goC K c s->(∀c,f1 (Ad K c)=Ad K c)->(∀c,f2 (Ad K c)=Ad K c)->
    (bif decide (0<=s.item)&&decide (s.item<((K.items.map Ag).length:Int))then(bif gA (nth [] (K.items.map Ag) s.item.toNat) 0==6 then(MT (I l::I s.to.x::I s.to.y::I s.to.z::I s.len::I s.item::I s.feed::I s.lead::Ad K d)).bind fun o=>some (f1 o)else(MH (I l::I s.to.x::I s.to.y::I s.to.z::I s.len::I s.item::I s.feed::I s.lead::Ad K d)).bind fun o=>some (f2 o))else none)=some (Ad K (Gw K d l s)):=fun hd h1 h2=>by
   refine eT (inM (f:=Ag) q0 q1) ?_;rw[Jb q0 q1];unfold Gw;refine eC (fun k=> ?_) fun k=> ?_
   ·rw[if_pos (show(itK K s.item).kind=6 from eq_of_beq k)];exact eB (hT _ hd) (congrArg some (h1 _))
   ·rw[if_neg (show(itK K s.item).kind≠6 by simpa [gA,nth,Af]using k)];exact eB (hH _ hd) (congrArg some (h2 _))
  have hg:Tg c (Ay s++[B (Fw K c).isSome]) MS K MF MT l MH=some (Ad K (if c.y0=s.item then Gw K c l s else if EN K c s=true then Gw K (goC K c s) l s else if c.s1=0 then DJ c else c)):=by
   refine eC (fun y=> ?_) fun y=> ?_
   ·have y:c.y0≠s.item:=by simpa [gA,nth,Af]using y
    rw[if_neg y];refine eB hS ?_;cases hm:EN K c s
    ·refine eT rfl ?_;rw[if_neg (by simp),if_neg (by simp)];refine eC (fun z=> ?_) fun z=> ?_
     ·rw[if_pos (show c.s1=0 from eq_of_beq z)];generalize DJ c=d at*;exact eB hF rfl
     ·rw[if_neg (show c.s1≠0 by simpa [gA,nth,Af]using z)];rfl
    ·refine eF rfl ?_;rw[if_pos rfl,if_pos rfl];have h:=syn (d:=goC K c s) (f1:=fun o=>cR 0 o) (f2:=fun o=>cR 0 o) (.inr rfl) (fun _=>rfl) (fun _=>rfl);generalize goC K c s=d at*;exact h
   ·have y:c.y0=s.item:=by simpa [gA,nth,Af]using y
    rw[if_pos y];exact syn (f1:=fun o=>cR 0 o) (f2:=fun o=>cR 0 o) (.inl rfl) (fun _=>rfl) (fun _=>rfl)
  refine eC (fun a=>eC (fun b=> ?_) fun b=> ?_) fun a=> ?_
  ·have b:c.y0≠s.item:=by simpa [gA,nth,Af]using b
   rw[if_pos (.inr ⟨a,b⟩)];generalize Eh K c l=d at*;exact eB hL rfl
  ·have b:c.y0=s.item:=by simpa [gA,nth,Af]using b
   rw[if_neg (fun q=>by rcases q with q|q;exact e q;exact q.2 b)];exact hg
  ·rw[if_neg (fun q=>by rcases q with q|q;exact e q;rw[a]at q;cases q.1)];exact hg
theorem Zvq {K:Kf} {c:Cv} {n:Int} (h:KOK K) (g:Gd K n c) (hn:0<=n/\n<=10000) (l:Int):Po (I l::Ad K c)=some (Ad K (Dx K c l)):=
 Zy6 (fun e=>⟨(HK h e).1,(HK h e).2.1⟩) (Qri h c) (T4 h g l) (fun e=>Q9b h (HK h e).1 (HK h e).2.1) (Qfk K c)
  (fun e d hd=>by rcases hd with rfl|rfl;exact Q2p h g hn l (HK h e);exact Q2p h (g.go _) hn l (HK h e))
  (fun e d hd=>by rcases hd with rfl|rfl;exact Qpa h g hn l (HK h e).2.2;exact Qpa h (g.go _) hn l (HK h e).2.2)
end Go.Bm
noncomputable section
namespace Go.Bm
def Dm (K:Kf) (c:Cv):Int×Cv:=
 if c.stood=true/\c.m0=wrap .i64 ((A1 K c).1*256)then
  (if 0 <= (A1 K c).2 then
   (if(mkK K (A1 K c).2).item=(DT K c (A1 K c).2).2.y0/\(itK K (mkK K (A1 K c).2).item).kind=5/\(DT K c (A1 K c).2).2.e0=1 then((DT K c (A1 K c).2).1,DJ (DT K c (A1 K c).2).2)else DT K c (A1 K c).2)
  else if K.closed=true then(7,{c with ended:=7})else(1,c))
 else(if c.g0≠0/\c.stood=true then 6 else 1,Dx K c (A1 K c).1)
theorem Ztp {MM MF MB ML:Fn} {K:Kf} {c:Cv} (h:KOK K) (hi:(A1 K c).2= -1\/0<=(A1 K c).2/\c.next<=(A1 K c).2/\(A1 K c).2<K.p.marks.length)
  (hL:ML (Ad K c)=some (I (A1 K c).1::I (A1 K c).2::Ad K c)) (hB:0<=(A1 K c).2->(A1 K c).2<K.p.marks.length->MB (I (A1 K c).2::Ad K c)=some (I (DT K c (A1 K c).2).1::Ad K (DT K c (A1 K c).2).2))
  (hF:∀c,MF (Ad K c)=some (Ad K (DJ c))) (hM:MM (I (A1 K c).1::Ad K c)=some (Ad K (Dx K c (A1 K c).1))):
  Um MM MF MB ML (Ad K c)=some (I (Dm K c).1::Ad K (Dm K c).2):=by
 rw[Zid];unfold Dm;generalize Dx K c (A1 K c).1=mv at*;have hbb:=hB;generalize hb:DT K c (A1 K c).2=bg at*;clear hb;generalize A1 K c=li at*;refine eB hL ?_;have mov:∀{a:Prop} [Decidable a],¬(c.stood=true/\c.m0=wrap .i64 (li.1*256))->∀{x:Option (List AC)},x=some (I (if c.g0≠0/\c.stood=true then 6 else 1)::Ad K mv)->
   x=some (I (if c.stood=true/\c.m0=wrap .i64 (li.1*256)then(if 0<=li.2 then(if(mkK K li.2).item=bg.2.y0/\(itK K (mkK K li.2).item).kind=5/\bg.2.e0=1 then(bg.1,DJ bg.2)else bg)else if K.closed=true then(7,{c with ended:=7})else(1,c))else(if c.g0≠0/\c.stood=true then 6 else 1,mv)).1::Ad K (if c.stood=true/\c.m0=wrap .i64 (li.1*256)then(if 0<=li.2 then(if(mkK K li.2).item=bg.2.y0/\(itK K (mkK K li.2).item).kind=5/\bg.2.e0=1 then(bg.1,DJ bg.2)else bg)else if K.closed=true then(7,{c with ended:=7})else(1,c))else(if c.g0≠0/\c.stood=true then 6 else 1,mv)).2):=fun hn _ hx=>by
  rw[if_neg hn];exact hx
 refine eC (fun s=>eC (fun e=> ?_) fun e=> ?_) fun s=> ?_
 ·have s:c.stood=true:=s;have e:c.m0=wrap .i64 (li.1*256):=eq_of_beq e;rw[if_pos ⟨s,e⟩];refine eC (fun k=> ?_) fun k=> ?_
  ·have k:0<=li.2:=Bg k;rw[if_pos k];have k2:li.2<K.p.marks.length:=by
    rcases hi with hi|hi
    ·omega
    ·exact hi.2.2
   have hm:=SU h k k2;refine eB (hB k k2) (eT (inM (f:=At) k k2) ?_);have er:nth [] (K.p.marks.map At) li.2.toNat=At (mkK K li.2):=Ny k k2;have er2:nth [] (K.items.map Ag) (mkK K li.2).item.toNat=Ag (itK K (mkK K li.2).item):=Jb hm.1 hm.2.1;refine eC (fun y=> ?_) fun y=> ?_
   ·have y:(mkK K li.2).item=bg.2.y0:=by
     have:=eq_of_beq (show(gA (nth [] (K.p.marks.map At) li.2.toNat) 2==bg.2.y0)=true from y);rw[er]at this;exact this
    refine eT (show(decide (0<=gA (nth [] (K.p.marks.map At) li.2.toNat) 2)&&decide (gA (nth [] (K.p.marks.map At) li.2.toNat) 2<((K.items.map Ag).length:Int)))=true by rw[er];exact inM (f:=Ag) (l:=K.items) (i:=(mkK K li.2).item) hm.1 hm.2.1) ?_;have ek:gA (nth [] (K.items.map Ag) (gA (nth [] (K.p.marks.map At) li.2.toNat) 2).toNat) 0=(itK K (mkK K li.2).item).kind:=by
     rw[er];show gA (nth [] (K.items.map Ag) (mkK K li.2).item.toNat) 0=_;rw[er2];rfl
    refine eC (fun q=> ?_) fun q=> ?_
    ·have q:(itK K (mkK K li.2).item).kind=5:=by rw[<-ek];exact eq_of_beq q
     refine eC (fun z=> ?_) fun z=> ?_
     ·have z:bg.2.e0=1:=eq_of_beq z;rw[if_pos ⟨y,q,z⟩];exact eB (hF bg.2) rfl
     ·have z:bg.2.e0≠1:=fun e=>by have:(bg.2.e0==1)=false:=z;rw[beT e]at this;cases this
      rw[if_neg (fun w=>z w.2.2)];rfl
    ·have q:(itK K (mkK K li.2).item).kind≠5:=fun e=>by
      have:(gA (nth [] (K.items.map Ag) (gA (nth [] (K.p.marks.map At) li.2.toNat) 2).toNat) 0==5)=false:=q;rw[ek,beT e]at this;cases this
     rw[if_neg (fun w=>q w.2.1)];rfl
   ·have y:(mkK K li.2).item≠bg.2.y0:=fun e=>by
     have:(gA (nth [] (K.p.marks.map At) li.2.toNat) 2==bg.2.y0)=false:=y;rw[er]at this;rw[show(gA (At (mkK K li.2)) 2==bg.2.y0)=true from beT e]at this;cases this
    rw[if_neg (fun w=>y w.1)];rfl
  ·have k: ¬0<=li.2:=Bf k;rw[if_neg k];refine eC (fun q=> ?_) fun q=> ?_
   ·rw[if_pos (show K.closed=true from q)];rfl
   ·rw[if_neg (show¬K.closed=true by rw[show K.closed=false from q];simp)];rfl
 ·have e:c.m0≠wrap .i64 (li.1*256):=fun e'=>by
   have:(c.m0==wrap .i64 (li.1*256))=false:=e;rw[beT e']at this;cases this
  refine mov (a:=True) (fun w=>e w.2) ?_;refine eC (fun q=> ?_) fun q=> ?_
  ·have q:c.g0≠0:=fun e=>by
    have:(c.g0 !=0)=true:=q;rw[bnF e]at this;cases this
   refine eB hM (eT (show c.stood=true from s) ?_);rw[if_pos ⟨q,show c.stood=true from s⟩];rfl
  ·have q:c.g0=0:=Decidable.byContradiction fun e=>by
    have:(c.g0 !=0)=false:=q;rw[bnT e]at this;cases this
   refine eB hM ?_;rw[if_neg (fun w=>w.1 q)];rfl
 ·have s:c.stood=false:=s;refine mov (a:=True) (fun w=>by rw[s]at w;cases w.1) ?_;refine eC (fun q=> ?_) fun q=> ?_
  ·refine eB hM (eF (show c.stood=false from s) ?_);rw[if_neg (fun w=>by rw[s]at w;cases w.2)];rfl
  ·refine eB hM ?_;rw[if_neg (fun w=>by rw[s]at w;cases w.2)];rfl
theorem Zos {K:Kf} {c:Cv} {n:Int} (h:KOK K) (g:Gd K n c) (hn:0<=n/\n<=10000):LP (Ad K c)=some (I (Dm K c).1::Ad K (Dm K c).2):=
 Ztp h (Qqx K c) (Z2w h c) (fun h0 h1=>Z25 h h0 h1) (Qfk K) (Zvq h g hn _)
def swI (s:Int) (it:Itm):Int:=one J0 (I s::Ag it)
theorem Zi4 (s:Int) (it:Itm):J0 (I s::Ag it)=some [I (swI s it)]:=by
 have key:∃v,J0 (I s::Ag it)=some [I v]:=by
  show∃v,Yl (I s::Ag it)=some [I v];rw[Zle];by_cases h1:it.kind=10
  ·rw[Ba (bnF h1)];by_cases h2:it.n<0
   ·rw[Br (decide_eq_true h2)];exact⟨_,rfl⟩
   ·rw[Ba (decide_eq_false h2)];by_cases h3:it.n>=16
    ·rw[Br (decide_eq_true h3)];exact⟨_,rfl⟩
    ·rw[Ba (decide_eq_false h3),Ba (decide_eq_false (by simp[IntKind.wrap,IntKind.signed,IntKind.bits];omega))];cases it.on<;>exact⟨_,rfl⟩
  ·rw[Br (bnT h1)];exact⟨_,rfl⟩
 obtain⟨v,h⟩:=key;exact Qju h
def Eg (K:Kf) (s:Int):List Mrk->Cv->List Int×Cv
 |[],c=>([],c)
 |m::l,c=>if m.at_>s\/(m.at_=s/\c.next<=c.passed/\G8 m.kind c=true)then([],c)
  else if m.kind=5 then(m.item::(Eg K s l {c with outs:=swI c.outs (itK K m.item),passed:=c.passed+1}).1,(Eg K s l {c with outs:=swI c.outs (itK K m.item),passed:=c.passed+1}).2)
  else Eg K s l {c with passed:=c.passed+1}
def B3 (K:Kf) (c:Cv) (s:Int):List Int×Cv:=Eg K s (K.p.marks.drop c.passed.toNat) c
theorem Z0w {MS MA:Fn} {K:Kf} {c:Cv} (h:KOK K) (hp:0<=c.passed/\c.passed<=K.p.marks.length) (s:Int)
  (hA:∀(c:Cv) (at_ k it:Int),MA [I at_,I k,I it,I c.o0,I c.o1,B c.o2,B c.o3,B c.o4]=some [B (G8 k c)]) (hS:∀(s:Int) (it:Itm),MS (I s::Ag it)=some [I (swI s it)]):
  Wq MS MA (An (QM MS MA)) (I s::Ad K c)=some (.view Aa ((B3 K c s).1.map Ap)::Ad K (B3 K c s).2):=by
 rw[Z28];have key:Out (fun o=>o=(1, .view Aa ((B3 K c s).1.map Ap)::Ad K (B3 K c s).2)) (An (QM MS MA) (.view Aa (([]:List Int).map Ap)::I s::Ad K c)):=by
  have hc:=h.count;refine Cr (fun z:List Int×Cv=> .view Aa (z.1.map Ap)::I s::Ad K z.2)
   (fun z=>0<=z.2.passed/\z.2.passed<=K.p.marks.length/\(z.1.length:Int)<=z.2.passed/\(B3 K c s).1=z.1++(Eg K s (K.p.marks.drop z.2.passed.toNat) z.2).1/\(B3 K c s).2=(Eg K s (K.p.marks.drop z.2.passed.toNat) z.2).2)
   (fun z=>(K.p.marks.length-z.2.passed).toNat) _ ?_ ([],c) ⟨hp.1,hp.2,by simp;omega,rfl,rfl⟩
  rintro⟨l,d⟩ ⟨g1,g2,g3,g4,g5⟩;dsimp only at g1 g2 g3 g4 g5;refine Out.eqv (Zo5 MS MA _ _ K d) ?_;refine .cond (fun k=> ?_) fun k=> ?_
  ·have k:d.passed<((K.p.marks.map At).length:Int):=Bg k;rw[List.length_map]at k;have hi:d.passed.toNat<K.p.marks.length:=by omega
   have em:mkK K d.passed=K.p.marks[d.passed.toNat]:=by unfold mkK;rw[List.getD,List.getElem?_eq_getElem hi];rfl
   have hm:=SU h g1 k;rw[List.drop_eq_getElem_cons hi,<-em]at g4 g5;unfold Eg at g4 g5;refine .cond (fun _=> ?_) fun e=>(inB g1 (by rw[List.length_map];exact k) e).elim;rw[Ny g1 k];generalize hmk:mkK K d.passed=m at*;have wp:wrap .i64 (d.passed+1)=d.passed+1:=Ae (by omega);have np:(d.passed+1).toNat=d.passed.toNat+1:=by omega
   have stop:(m.at_>s\/(m.at_=s/\d.next<=d.passed/\G8 m.kind d=true))->∀{x:List AC},x= .view Aa (l.map Ap)::Ad K d->Out (fun o:Nat×List AC=>(o.1=0/\∃s':List Int×Cv,o.2= .view Aa (s'.1.map Ap)::I s::Ad K s'.2/\(0<=s'.2.passed/\s'.2.passed<=K.p.marks.length/\(s'.1.length:Int)<=s'.2.passed/\(B3 K c s).1=s'.1++(Eg K s (K.p.marks.drop s'.2.passed.toNat) s'.2).1/\(B3 K c s).2=(Eg K s (K.p.marks.drop s'.2.passed.toNat) s'.2).2)/\(K.p.marks.length-s'.2.passed).toNat<(K.p.marks.length-d.passed).toNat)\/(o.1≠0/\o=(1, .view Aa ((B3 K c s).1.map Ap)::Ad K (B3 K c s).2))) (some (1,x)):=fun hs _ hx=>by
    rw[if_pos hs]at g4 g5;subst hx;refine .some (.inr ⟨by simp,?_⟩);rw[g4,g5,List.append_nil]
   have go: ¬(m.at_>s\/(m.at_=s/\d.next<=d.passed/\G8 m.kind d=true))->Out (fun o:Nat×List AC=>(o.1=0/\∃s':List Int×Cv,o.2= .view Aa (s'.1.map Ap)::I s::Ad K s'.2/\(0<=s'.2.passed/\s'.2.passed<=K.p.marks.length/\(s'.1.length:Int)<=s'.2.passed/\(B3 K c s).1=s'.1++(Eg K s (K.p.marks.drop s'.2.passed.toNat) s'.2).1/\(B3 K c s).2=(Eg K s (K.p.marks.drop s'.2.passed.toNat) s'.2).2)/\(K.p.marks.length-s'.2.passed).toNat<(K.p.marks.length-d.passed).toNat)\/(o.1≠0/\o=(1, .view Aa ((B3 K c s).1.map Ap)::Ad K (B3 K c s).2))) (Mk K d (l.map Ap) MS s):=fun hs=>by
    rw[if_neg hs]at g4 g5;unfold Mk;rw[Ny g1 k,hmk,wp];refine .cond (fun q=> ?_) fun q=> ?_
    ·have q:m.kind=5:=eq_of_beq q;rw[if_pos q]at g4 g5;refine .cond (fun _=> ?_) fun e=>by rw[CY (by simp;omega)]at e;cases e
     refine .cond (fun _=> ?_) fun e=>(inB (show 0<=gA (At m) 2 from hm.1) (show gA (At m) 2<((K.items.map Ag).length:Int) by rw[List.length_map];exact hm.2.1) e).elim;rw[show nth [] (K.items.map Ag) (gA (At m) 2).toNat=Ag (itK K m.item)from Jb hm.1 hm.2.1];refine .bind (p:=fun o=>o=_) ⟨_,hS d.outs (itK K m.item),rfl⟩ fun o e=> ?_;subst e;refine .some (.inl ⟨rfl,(l++[m.item],{d with outs:=swI d.outs (itK K m.item),passed:=d.passed+1}),?_,⟨by dsimp only;omega,by dsimp only;omega,by simp;omega,?_,?_⟩,by dsimp only;omega⟩)
     ·rw[List.map_append];rfl
     ·dsimp only;rw[g4,np];simp
     ·dsimp only;rw[g5,np]
    ·have q:m.kind≠5:=by simpa [gA,nth,Af]using q
     rw[if_neg q]at g4 g5;refine .some (.inl ⟨rfl,(l,{d with passed:=d.passed+1}),rfl,⟨by dsimp only;omega,by dsimp only;omega,by dsimp only;omega,?_,?_⟩,by dsimp only;omega⟩)
     ·dsimp only;rw[g4,np]
     ·dsimp only;rw[g5,np]
   refine .cond (fun a=>stop (.inl (Bg a)) rfl) fun a=> ?_;have a: ¬m.at_>s:=Bf a;refine .cond (fun b=> .cond (fun e=> ?_) fun e=>go fun w=> ?_) fun b=>go fun w=> ?_
   ·refine .bind (p:=fun o=>o=_) ⟨_,hA d _ _ _,rfl⟩ fun o q=> ?_;subst q;refine .cond (fun q=>stop (.inr ⟨eq_of_beq b,Bg e,q⟩) rfl) fun q=>go fun w=> ?_;have q:G8 m.kind d=false:=q;rcases w with w|w
    ·exact a w
    ·rw[q]at w;cases w.2.2
   ·rcases w with w|w
    ·exact a w
    ·exact Bf e w.2.1
   ·rcases w with w|w
    ·exact a w
    ·have:(m.at_==s)=false:=b;rw[beT w.1]at this;cases this
  ·have k: ¬d.passed<((K.p.marks.map At).length:Int):=Bf k;rw[List.length_map]at k;rw[List.drop_of_length_le (by omega)]at g4 g5;refine .some (.inr ⟨by simp,?_⟩);rw[g4,g5];simp[Eg]
 obtain⟨o,h1,rfl⟩:=key;exact eB h1 rfl
theorem Zja {K:Kf} {c:Cv} (h:KOK K) (hp:0<=c.passed/\c.passed<=K.p.marks.length) (s:Int):O7 (I s::Ad K c)=some (.view Aa ((B3 K c s).1.map Ap)::Ad K (B3 K c s).2):=
 Z0w h hp s (fun c at_ k it=>Qze at_ k it c) Zi4
end Go.Bm
