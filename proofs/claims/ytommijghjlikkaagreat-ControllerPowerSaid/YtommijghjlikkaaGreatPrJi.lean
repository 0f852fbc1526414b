/- laid together -/
import Derived.Test.YtommijghjlikkaaGreatPrJb
import Derived.Test.YtommijghjlikkaaGreatMy1
set_option linter.unusedVariables false
set_option linter.unusedSimpArgs false
/- what the controller does in a cycle: its methods -/
set_option maxRecDepth 100000
noncomputable section
namespace Go.Bm

theorem Zt2 {M:Fn} {l:List AC} (h:Out (fun o=>(wA o 0).length<=4096) (M l)) {x0 x1 x2 x3 x4 x5 x6 x7 x8:Int} (e:l=[I x0,I x1,I x2,I x3,I x4,I x5,I x6,I x7,I x8]):∃(r:Int) (b:Bool),Mo M l=some [I r,B b]:=by
 subst e
 have key:Out (fun o=>∃(r:Int) (b:Bool),o=[I r,B b]) (Mo M [I x0,I x1,I x2,I x3,I x4,I x5,I x6,I x7,I x8]):=by
  rw[V5]
  refine .bind h fun o g=> .cond (fun _=> .some ⟨0,false,rfl⟩) fun _=> ?_
  generalize wA o 0=sp at*
  refine .cond (fun _=> .some ⟨x3,true,rfl⟩) fun c=> .cond (fun _=> .some ⟨_,true,rfl⟩) fun d=> ?_
  have c: ¬((sp.length:Int)=0):=by simpa using c
  rw[Ae (by omega)]at d
  simp at d;omega
 obtain⟨o,h1,r,b,rfl⟩:=key
 exact⟨r,b,h1⟩
theorem Zby (x0 x1 x2 x3 x4 x5 x6 x7 x8:Int):∃b:Bool,FJ [I x0,I x1,I x2,I x3,I x4,I x5,I x6,I x7,I x8]=some [I (one FJ [I x0,I x1,I x2,I x3,I x4,I x5,I x6,I x7,I x8]),B b]:=by
 obtain⟨r,b,h⟩:=Zt2 (M:=E2) (Qfb x0 x1 x2 x3 x4 x5 x6 x7 x8) rfl
 have h:FJ [I x0,I x1,I x2,I x3,I x4,I x5,I x6,I x7,I x8]=some [I r,B b]:=h
 refine⟨b,?_⟩
 unfold one
 rw[h];rfl
theorem Zuj {K:Kf} (h:KOK K) (c:Cv):Oz (Ad K c)=some (I (Bi K c).1::I (Bi K c).2::Ad K c):=by
 obtain⟨b,hb⟩:=Zby K.pa K.pb K.pc c.m0 c.m1 c.m2 c.m3 c.m4 c.m5
 exact Zui h hb (QX h.f.t.q) (fun hz=>Zha h.f.t.q hz) (Zn7 h c)
def Sh (c:Cv) (v:Int):Cv:={c with m0:=IntKind.i64.wrap (c.m0+v),m1:=v,m2:=IntKind.i64.wrap (v-c.m1),m3:=c.m0,m4:=c.m3,m5:=c.m4}
def nxL (K:Kf) (c:Cv) (l:Int):List AC:=pxt K.p K.x K.t [I K.pa,I K.pb,I K.pc,I c.o0,I c.o1,B c.o2,B c.o3,B c.o4,I c.m0,I c.m1,I c.m2,I c.m3,I c.m4,I c.m5,I l]
def nxV (K:Kf) (c:Cv) (l:Int):Int:=gA ((Fj (nxL K c l)).getD []) 1
def Fs (K:Kf) (c:Cv) (l:Int):Cv:=Sh c (nxV K c l)
theorem Qtd {K:Kf} {c:Cv} {n:Int} (h:KOK K) (g:Gd K n c) (hn:0<=n/\n<=140) (l:Int):
  Fj (nxL K c l)=some (Ee c.m0 c.m1 c.m3 c.m4 (nxV K c l))/\(D0 (nxV K c l) (IntKind.i64.wrap (nxV K c l-c.m1))\/∃r:Int,nxV K c l=IntKind.i64.wrap (c.m1+r)/\ -(65536*n+65536+65536)<=r/\r<=65536*n+65536+65536):=by
 obtain⟨o,h1,v,rfl,h2⟩:=Qy7 h.f h.plan c.o0 c.o1 c.o2 c.o3 c.o4 (m0:=c.m0) (m1:=c.m1) (m2:=c.m2) (m3:=c.m3) (m4:=c.m4) (m5:=c.m5) (l:=l) (K:=65536*n+65536) (by have:=g.m2;omega) (by omega)
 have h1:Fj (nxL K c l)=some (Ee c.m0 c.m1 c.m3 c.m4 v):=h1
 have e:nxV K c l=v:=by unfold nxV;rw[h1];rfl
 rw[e]
 exact⟨h1,h2⟩
theorem Zb4 {M:Fn} {K:Kf} {c:Cv} {l v:Int} (h:M (nxL K c l)=some (Ee c.m0 c.m1 c.m3 c.m4 v)):Qd7 M (I l::Ad K c)=some (Ad K (Sh c v)):=by
 rw[Zms]
 exact eB h rfl
theorem Wd {K:Kf} {c:Cv} {n:Int} (h:KOK K) (g:Gd K n c) (hn:0<=n/\n<=140) (l:Int):G_ (I l::Ad K c)=some (Ad K (Fs K c l)):=Zb4 (Qtd h g hn l).1
theorem Qya {K:Kf} {c:Cv} {n:Int} (h:KOK K) (g:Gd K n c) (hn:0<=n/\n<=140) (l:Int):Gd K (n+1) (Fs K c l):=g.move hn (Qtd h g hn l).2
def IY (c:Cv):Cv:={c with next:=IntKind.i64.wrap (c.idx+1),on:=false,idx:=0,waits:=false,cnt:=0}
def Og (c:Cv) (n sp:Int):List AC:=(Kk [I c.s0,I c.s1,I c.s2,I c.s3,I n,I sp]).getD []
def Lo (c:Cv) (n sp:Int):Cv:={c with s0:=gA (Og c n sp) 0,s1:=gA (Og c n sp) 1,s2:=gA (Og c n sp) 2,s3:=gA (Og c n sp) 3}
def Qrq (c:Cv) (n sp:Int):Bool:=bA ((NJ [I c.s0,I c.s1,I c.s2,I c.s3,I n,I sp]).getD []) 0
def P1 (K:Kf) (c:Cv):Int×Cv:=
 if c.waits=true then(if c.cnt>1/\c.resumed=true then(3,IY c)else(2,c))
 else if(mkK K c.idx).kind≠3 then(3,IY c)
 else if(itK K (mkK K c.idx).item).kind=7 then(if c.cnt<(itK K (mkK K c.idx).item).n then(3,c)else(3,IY c))
 else if(itK K (mkK K c.idx).item).kind=8 then(if Qrq (Lo c (itK K (mkK K c.idx).item).n (itK K (mkK K c.idx).item).speed) (itK K (mkK K c.idx).item).n (itK K (mkK K c.idx).item).speed=true then(3,IY (Lo c (itK K (mkK K c.idx).item).n (itK K (mkK K c.idx).item).speed))else(3,Lo c (itK K (mkK K c.idx).item).n (itK K (mkK K c.idx).item).speed))
 else if(itK K (mkK K c.idx).item).kind=14 then(7,{c with ended:=7})else(3,IY c)
def C0 (c:Cv):Cv:={c with cnt:=IntKind.i64.wrap (c.cnt+1)}
def CY (K:Kf) (c:Cv):Int×Cv:=P1 K (C0 c)
theorem Q9w {MR MC MD:Fn} {K:Kf} {c:Cv} (h:KOK K) (h0:0<=c.idx) (h1:c.idx<K.p.marks.length)
  (hD:∀c:Cv,MD (Ad K c)=some (I 3::Ad K (IY c)))
  (hC:∀(c:Cv) (x4 x5:Int),i64 x5->MC [I c.s0,I c.s1,I c.s2,I c.s3,I x4,I x5]=some (Og c x4 x5)) (hR:∀(c:Cv) (x4 x5:Int),i64 x5->Out (fun o=>bA o 0=Qrq c x4 x5) (MR [I c.s0,I c.s1,I c.s2,I c.s3,I x4,I x5])):
  Qak MR MC MD (Ad K c)=some (I (CY K c).1::Ad K (CY K c).2):=by
 rw[Q9r]
 have hm:=SH h h0 h1
 unfold CY P1
 refine eC (fun a=> ?_) fun a=> ?_
 ·rw[if_pos (show(C0 c).waits=true from a)]
  refine eC (fun b=>eC (fun e=> ?_) fun e=> ?_) fun b=> ?_
  ·rw[if_pos (show(C0 c).cnt>1/\(C0 c).resumed=true from⟨BA b,e⟩)]
   exact eB (hD (C0 c)) rfl
  ·rw[if_neg (show¬((C0 c).cnt>1/\(C0 c).resumed=true)from fun q=>by have:=q.2;rw[show(C0 c).resumed=false from e]at this;cases this)]
   rfl
  ·rw[if_neg (show¬((C0 c).cnt>1/\(C0 c).resumed=true)from fun q=>BD b q.1)]
   rfl
 ·rw[if_neg (show¬(C0 c).waits=true by rw[show(C0 c).waits=false from a];simp)]
  refine eT (inM (f:=As) h0 h1) ?_
  rw[LR h0 h1]
  rw[show(C0 c).idx=c.idx from rfl]
  refine eC (fun b=> ?_) fun b=> ?_
  ·have b:(mkK K c.idx).kind≠3:=by simpa [gA,nth,Af]using b
   rw[if_pos b]
   exact eB (hD (C0 c)) rfl
  ·have b:(mkK K c.idx).kind=3:=by simpa [gA,nth,Af]using b
   rw[if_neg (by rw[b];simp)]
   refine eT (inM (f:=Ag) (l:=K.items) (i:=(mkK K c.idx).item) hm.1 hm.2.1) ?_
   have er:nth [] (K.items.map Ag) (gA (As (mkK K c.idx)) 2).toNat=Ag (itK K (mkK K c.idx).item):=IL hm.1 hm.2.1
   rw[er]
   have hsp:(itK K (mkK K c.idx).item).kind=8->i64 (itK K (mkK K c.idx).item).speed:=fun k8=>by
    have:=Zzi h (mkK K c.idx).item.toNat
    rw[IL hm.1 hm.2.1]at this
    exact this k8
   generalize itK K (mkK K c.idx).item=it at*
   refine eC (fun k=> ?_) fun k=> ?_
   ·have k:it.kind=7:=eq_of_beq k
    rw[if_pos k]
    refine eC (fun q=> ?_) fun q=> ?_
    ·rw[if_pos (show(C0 c).cnt<it.n from BA q)]
     rfl
    ·rw[if_neg (show¬(C0 c).cnt<it.n from BD q)]
     exact eB (hD (C0 c)) rfl
   ·have k:it.kind≠7:=by simpa [gA,nth,Af]using k
    rw[if_neg k]
    refine eC (fun k8=> ?_) fun k8=> ?_
    ·have k8:it.kind=8:=eq_of_beq k8
     rw[if_pos k8]
     refine eB (hC (C0 c) it.n it.speed (hsp k8)) ?_
     obtain⟨o,h5,h6⟩:=hR (Lo (C0 c) it.n it.speed) it.n it.speed (hsp k8)
     refine eB h5 ?_
     rw[<-h6]
     refine eC (fun q=> ?_) fun q=> ?_
     ·rw[if_neg (show¬bA o 0=true by simpa using q)]
      rfl
     ·rw[if_pos (show bA o 0=true by simpa using q)]
      exact eB (hD (Lo (C0 c) it.n it.speed)) rfl
    ·have k8:it.kind≠8:=by simpa [gA,nth,Af]using k8
     rw[if_neg k8]
     refine eC (fun k=> ?_) fun k=> ?_
     ·rw[if_pos (show it.kind=14 from eq_of_beq k)]
      rfl
     ·rw[if_neg (show it.kind≠14 by simpa [gA,nth,Af]using k)]
      exact eB (hD (C0 c)) rfl
theorem Qed {l:Option (List AC)} (h:l.isSome=true):l=some (l.getD []):=by
 cases l with
 |none=>cases h
 |some o=>rfl
theorem Zna (c:Cv) (x4:Int) {x5:Int} (h:i64 x5):Kk [I c.s0,I c.s1,I c.s2,I c.s3,I x4,I x5]=some (Og c x4 x5):=Qed (Zx4 _ _ _ _ _ h)
theorem Zrw (K:Kf) (c:Cv):NS (Ad K c)=some (I 3::Ad K (IY c)):=Za3 K c
theorem Qsm {K:Kf} {c:Cv} (h:KOK K) (h0:0<=c.idx) (h1:c.idx<K.p.marks.length):JT (Ad K c)=some (I (CY K c).1::Ad K (CY K c).2):=
 Q9w h h0 h1 (Zrw K) (fun c x4 _ h=>Zna c x4 h) fun c x4 x5 h=>⟨_,Qed (Znx _ _ _ _ _ h),rfl⟩
def Gx (K:Kf) (c:Cv) (i:Int):Bool:=
 if(mkK K i).kind=1\/(mkK K i).kind=2\/(mkK K i).kind=6 then c.o3 else if(mkK K i).kind=4 then true
 else if(mkK K i).kind=3 then((itK K (mkK K i).item).kind==11||(itK K (mkK K i).item).kind==12)else false
def EH (K:Kf) (c:Cv) (i:Int):Int×Cv:=CY K {c with on:=true,idx:=i,waits:=Gx K c i,cnt:=0}
theorem Zox {M:Fn} {K:Kf} {c:Cv} {i:Int} (h:KOK K) (h0:0<=i) (h1:i<K.p.marks.length)
  (hW:∀w:Bool,M (Ad K {c with on:=true,idx:=i,waits:=w,cnt:=0})=some (I (CY K {c with on:=true,idx:=i,waits:=w,cnt:=0}).1::Ad K (CY K {c with on:=true,idx:=i,waits:=w,cnt:=0}).2)):
  Qd1 M (I i::Ad K c)=some (I (EH K c i).1::Ad K (EH K c i).2):=by
 rw[Q99]
 have hm:=SH h h0 h1
 unfold EH
 refine eT (inM (f:=As) h0 h1) ?_
 rw[LR h0 h1]
 have fin:∀{w:Bool} {f:List AC->List AC},w=Gx K c i->(∀(m:Int) (c:Cv),f (I m::Ad K c)=I m::Ad K c)->((M (Ad K {c with on:=true,idx:=i,waits:=w,cnt:=0})).bind fun o=>some (f o))=some (I (CY K {c with on:=true,idx:=i,waits:=Gx K c i,cnt:=0}).1::Ad K (CY K {c with on:=true,idx:=i,waits:=Gx K c i,cnt:=0}).2):=fun hw hf=>by
  subst hw
  refine eB (hW _) ?_
  rw[hf]
 have ne:∀{n:Int},(gA (As (mkK K i)) 1==n)=false->(mkK K i).kind≠n:=fun e=>by simpa [gA,nth,Af]using e
 have eq:∀{n:Int},(gA (As (mkK K i)) 1==n)=true->(mkK K i).kind=n:=fun e=>eq_of_beq e
 refine eC (fun e=>fin (by unfold Gx;rw[if_pos (.inl (eq e))]) fun _ _=>rfl) fun n1=> ?_
 refine eC (fun e=>fin (by unfold Gx;rw[if_pos (.inr (.inl (eq e)))]) fun _ _=>rfl) fun n2=> ?_
 refine eC (fun e=>fin (by unfold Gx;rw[if_pos (.inr (.inr (eq e)))]) fun _ _=>rfl) fun n6=> ?_
 have no: ¬((mkK K i).kind=1\/(mkK K i).kind=2\/(mkK K i).kind=6):=by
  intro q;rcases q with q|q|q
  ·exact ne n1 q
  ·exact ne n2 q
  ·exact ne n6 q
 refine eC (fun e=>fin (by unfold Gx;rw[if_neg no,if_pos (eq e)]) fun _ _=>rfl) fun n4=> ?_
 refine eC (fun e=> ?_) fun n3=>fin (by unfold Gx;rw[if_neg no,if_neg (ne n4),if_neg (ne n3)]) fun _ _=>rfl
 refine eT (inM (f:=Ag) (l:=K.items) (i:=(mkK K i).item) hm.1 hm.2.1) ?_
 have er:nth [] (K.items.map Ag) (gA (As (mkK K i)) 2).toNat=Ag (itK K (mkK K i).item):=IL hm.1 hm.2.1
 rw[er]
 have hw:Gx K c i=((itK K (mkK K i).item).kind==11||(itK K (mkK K i).item).kind==12):=by unfold Gx;rw[if_neg no,if_neg (ne n4),if_pos (eq e)]
 refine eC (fun k=>fin (by rw[hw,show((itK K (mkK K i).item).kind==11)=true from k];rfl) fun _ _=>rfl) fun k=>fin (by rw[hw,show((itK K (mkK K i).item).kind==11)=false from k];rfl) fun _ _=>rfl
theorem Zo7 {K:Kf} {c:Cv} {i:Int} (h:KOK K) (h0:0<=i) (h1:i<K.p.marks.length):Ow (I i::Ad K c)=some (I (EH K c i).1::Ad K (EH K c i).2):=
 Zox h h0 h1 fun _=>Qsm h h0 h1
end Go.Bm
/- what the controller does in a cycle: how it moves -/
set_option maxRecDepth 100000
noncomputable section
namespace Go.Bm

def E4 (c:Cv):Cv:=if c.g0=0 then{c with o2:=true,g0:=1,g1:=18,g2:= -1}else c
theorem Yo (K:Kf) (c:Cv):FW (Ad K c)=some (Ad K (E4 c)):=Zjk K c
def Ne (c:Cv):Int:=one Jr [I c.before,I c.s0]
theorem Zg8 (c:Cv):Jr [I c.before,I c.s0]=some [I (Ne c)]:=by
 have key:∃v,Jr [I c.before,I c.s0]=some [I v]:=by
  have e:Jr [I c.before,I c.s0]=YU Jv [I c.before,I c.s0]:=rfl
  have h:∀a,(Jv [I a,I 1048576]).isSome=true:=fun a=>Zz6 (by omega)
  rw[e,Ziq]
  generalize Jv=M at*
  have h2:∀a,∃o,M [I a,I 1048576]=some o:=fun a=>Option.isSome_iff_exists.1 (h a)
  cases(c.s0== -1)
  ·obtain⟨o,ho⟩:=h2 (IntKind.i64.wrap (0-c.before))
   exact⟨_,eB ho rfl⟩
  ·obtain⟨o,ho⟩:=h2 c.before
   exact⟨_,eB ho rfl⟩
 obtain⟨v,h⟩:=key
 exact Qg9 h
def goC (K:Kf) (c:Cv) (g:Sgm):Cv:={c with y0:=g.item,y1:=AY K c,y2:=c.s3,e0:=1,e1:=c.m0,e2:=Ne c,e3:=0}
def Ek (K:Kf) (c:Cv) (g:Sgm):Bool:=(itK K g.item).kind==6||(c.s1 !=0&& !decide (IntKind.i64.wrap (IntKind.i64.wrap (c.s3-Ne c)*c.s0)<0))
theorem Zli {MP MI:Fn} {K:Kf} {c:Cv} {s:Sgm} (h0:0<=s.item) (h1:s.item<K.items.length) (hI:MI [I c.before,I c.s0]=some [I (Ne c)]) (hP:MP (Ad K c)=some [I (AY K c)]):
  U9 MP MI (I s.to.x::I s.to.y::I s.to.z::I s.len::I s.item::I s.feed::I s.lead::Ad K c)=some (B (Ek K c s)::Ad K (if Ek K c s=true then goC K c s else c)):=by
 rw[Zhp]
 refine eB hI (eT (inM (f:=Ag) h0 h1) ?_)
 rw[IL h0 h1]
 refine eC (fun e=> ?_) fun e=> ?_
 ·have e:(itK K s.item).kind≠6:=by simpa [gA,nth,Af]using e
  refine eC (fun a=> ?_) fun a=>eC (fun b=> ?_) fun b=> ?_
  ·have hm:Ek K c s=false:=by unfold Ek;rw[beF e,bnF (eq_of_beq a)];rfl
   rw[hm];rfl
  ·have hm:Ek K c s=false:=by unfold Ek;rw[beF e,show decide (IntKind.i64.wrap (IntKind.i64.wrap (c.s3-Ne c)*c.s0)<0)=true from b];simp
   rw[hm];rfl
  ·have hm:Ek K c s=true:=by
    unfold Ek
    rw[show decide (IntKind.i64.wrap (IntKind.i64.wrap (c.s3-Ne c)*c.s0)<0)=false from b]
    simp only[bne,a];simp
   rw[hm]
   exact eB hP rfl
 ·have e:(itK K s.item).kind=6:=by simpa [gA,nth,Af]using e
  have hm:Ek K c s=true:=by unfold Ek;rw[beT e];rfl
  rw[hm]
  exact eB hP rfl
theorem Zp3 {K:Kf} {c:Cv} {s:Sgm} (h:KOK K) (h0:0<=s.item) (h1:s.item<K.items.length):
  PP (I s.to.x::I s.to.y::I s.to.z::I s.len::I s.item::I s.feed::I s.lead::Ad K c)=some (B (Ek K c s)::Ad K (if Ek K c s=true then goC K c s else c)):=
 Zli h0 h1 (Zg8 c) (Rz h c)
def Qdn (lead way:Int):Int:=one JB [I lead,I way]
theorem Zuy {a b:Int} (ha:i64 a) (hb:i64 b):JB [I a,I b]=some [I (Qdn a b)]:=by
 have key:∃v,JB [I a,I b]=some [I v]:=by
  have e:JB [I a,I b]=Ql7 Be [I a,I b]:=rfl
  have h:=Yw (show i64 4096 by unfold i64;omega) hb ha 0
  rw[e,Zc7]
  generalize Be=M at*
  obtain⟨o,ho⟩:=Option.isSome_iff_exists.1 h
  exact⟨_,eB ho rfl⟩
 obtain⟨v,h⟩:=key
 exact Qg9 h
def Qs7 (K:Kf) (d:Cv) (g:Sgm):Int:=IntKind.i64.wrap (d.y2+IntKind.i64.wrap (IntKind.i64.wrap ((if(itK K g.item).n=3 then 1 else-1)*Qdn g.lead (IntKind.i64.wrap (AY K d-d.y1)))*256))
def Qa (K:Kf) (c:Cv) (l:Int) (g:Sgm):Cv:={Fs K c l with s3:=Qs7 K (Fs K c l) g}
theorem Zed {MA MP ML:Fn} {K:Kf} {c:Cv} {l:Int} {s:Sgm} (h0:0<=s.item) (h1:s.item<K.items.length)
  (hA:∀v,i64 v->MA [I s.lead,I v]=some [I (Qdn s.lead v)]) (hP:∀c,MP (Ad K c)=some [I (AY K c)]) (hL:ML (I l::Ad K c)=some (Ad K (Fs K c l))):
  Wt MA MP ML (I l::I s.to.x::I s.to.y::I s.to.z::I s.len::I s.item::I s.feed::I s.lead::Ad K c)=some (Ad K (Qa K c l s)):=by
 rw[Zxr]
 unfold Qa
 generalize Fs K c l=d at*
 refine eB hL (eT (inM (f:=Ag) h0 h1) ?_)
 show cond (gA (nth [] (K.items.map Ag) s.item.toNat) 19==3) _ _=_
 rw[IL h0 h1]
 unfold Qs7
 refine eC (fun e=> ?_) fun e=> ?_
 ·rw[if_pos (show(itK K s.item).n=3 from eq_of_beq e)]
  exact eB (hP d) (eB (hA _ (L4 _)) rfl)
 ·rw[if_neg (show(itK K s.item).n≠3 by simpa [gA,nth,Af]using e)]
  exact eB (hP d) (eB (hA _ (L4 _)) rfl)
theorem Qps {K:Kf} {c:Cv} {n:Int} (h:KOK K) (g:Gd K n c) (hn:0<=n/\n<=140) (l:Int) {s:Sgm} (hs:0<=s.item/\s.item<K.items.length/\i64 s.lead):
  P_ (I l::I s.to.x::I s.to.y::I s.to.z::I s.len::I s.item::I s.feed::I s.lead::Ad K c)=some (Ad K (Qa K c l s)):=
 Zed hs.1 hs.2.1 (fun v hv=>Zuy hs.2.2 hv) (Rz h) (Wd h g hn l)
def thL (K:Kf) (c:Cv) (l lead:Int):List AC:=pxt K.p K.x K.t [I K.pa,I K.pb,I K.pc,I c.o0,I c.o1,B c.o2,B c.o3,B c.o4,I c.m0,I c.m1,I c.m2,I c.m3,I c.m4,I c.m5,I l,I lead,I c.e0,I c.e1,I c.e2,I c.e3,I c.before,I c.s3]
def thO (K:Kf) (c:Cv) (l lead:Int):List AC:=(JH (thL K c l lead)).getD []
def LB (c:Cv) (o:List AC):Cv:={Sh c (gA o 1)with e0:=gA o 6,e1:=gA o 7,e2:=gA o 8,e3:=gA o 9}
def Np (K:Kf) (c:Cv) (l lead:Int):Cv:=
 if c.g0≠0 then{Fs K c l with e0:=3}else if gA (thO K c l lead) 10≠0 then E4 (LB c (thO K c l lead))else LB c (thO K c l lead)
theorem Qpz {K:Kf} {c:Cv} {n:Int} (h:KOK K) (g:Gd K n c) (hn:0<=n/\n<=140) (l:Int) {lead:Int} (hl:i64 lead):
  JH (thL K c l lead)=some (thO K c l lead)/\∃v s b z y e:Int,thO K c l lead=Ee c.m0 c.m1 c.m3 c.m4 v++[I s,I b,I z,I y,I e]/\(D0 v (IntKind.i64.wrap (v-c.m1))\/∃r:Int,v=IntKind.i64.wrap (c.m1+r)/\ -(65536*n+65536+65536)<=r/\r<=65536*n+65536+65536):=by
 obtain⟨o,h1,v,s,b,z,y,e,rfl,h2⟩:=Zzg h.f h.plan hl c.o0 c.o1 c.o2 c.o3 c.o4 (m0:=c.m0) (m1:=c.m1) (m2:=c.m2) (m3:=c.m3) (m4:=c.m4) (m5:=c.m5) (l:=l) (g0:=c.e0) (g1:=c.e1) (g2:=c.e2) (g3:=c.e3) (z0:=c.before) (z1:=c.s3) (K:=65536*n+65536) (by have:=g.m2;omega) (by omega)
 have h1:JH (thL K c l lead)=some (Ee c.m0 c.m1 c.m3 c.m4 v++[I s,I b,I z,I y,I e]):=h1
 have e2:thO K c l lead=Ee c.m0 c.m1 c.m3 c.m4 v++[I s,I b,I z,I y,I e]:=by unfold thO;rw[h1];rfl
 rw[e2]
 exact⟨h1,v,s,b,z,y,e,rfl,h2⟩
theorem Zin {MF MT ML:Fn} {K:Kf} {c:Cv} {l:Int} {s:Sgm} (hF:∀c,MF (Ad K c)=some (Ad K (E4 c)))
  (hT:MT (thL K c l s.lead)=some (thO K c l s.lead)) (hS:∃v s' b z y e:Int,thO K c l s.lead=Ee c.m0 c.m1 c.m3 c.m4 v++[I s',I b,I z,I y,I e]) (hL:ML (I l::Ad K c)=some (Ad K (Fs K c l))):
  Qah MF MT ML (I l::I s.to.x::I s.to.y::I s.to.z::I s.len::I s.item::I s.feed::I s.lead::Ad K c)=some (Ad K (Np K c l s.lead)):=by
 rw[Zqh]
 unfold Np
 refine eC (fun e=> ?_) fun e=> ?_
 ·rw[if_pos (show c.g0≠0 by simpa using e)]
  generalize Fs K c l=d at*
  exact eB hL rfl
 ·rw[if_neg (show¬c.g0≠0 by simpa using e)]
  obtain⟨v,s',b,z,y,e',hs⟩:=hS
  generalize thO K c l s.lead=o at*
  subst hs
  refine eB hT ?_
  refine eC (fun q=> ?_) fun q=> ?_
  ·rw[if_pos (show gA (Ee c.m0 c.m1 c.m3 c.m4 v++[I s',I b,I z,I y,I e']) 10≠0 by simpa using q)]
   refine Eq.trans (congrArg (fun z=>Option.bind z _) (hF (LB c (Ee c.m0 c.m1 c.m3 c.m4 v++[I s',I b,I z,I y,I e'])))) rfl
  ·rw[if_neg (show¬gA (Ee c.m0 c.m1 c.m3 c.m4 v++[I s',I b,I z,I y,I e']) 10≠0 by simpa using q)]
   rfl
theorem Qy1 {K:Kf} {c:Cv} {n:Int} (h:KOK K) (g:Gd K n c) (hn:0<=n/\n<=140) (l:Int) {s:Sgm} (hs:i64 s.lead):
  PZ (I l::I s.to.x::I s.to.y::I s.to.z::I s.len::I s.item::I s.feed::I s.lead::Ad K c)=some (Ad K (Np K c l s.lead)):=by
 obtain⟨h1,v,s',b,z,y,e,h2,-⟩:=Qpz h g hn l hs
 exact Zin (Yo K) h1 ⟨v,s',b,z,y,e,h2⟩ (Wd h g hn l)
def I5 (K:Kf) (c:Cv) (l:Int) (g:Sgm):Cv:=if(itK K g.item).kind=6 then Qa K c l g else Np K c l g.lead
def IR (K:Kf) (c:Cv) (l:Int):Cv:=
 if(sgK K c).lead=0\/(c.o2=true/\c.y0≠(sgK K c).item)then Fs K c l
 else if c.y0=(sgK K c).item then I5 K c l (sgK K c)
 else if Ek K c (sgK K c)=true then I5 K (goC K c (sgK K c)) l (sgK K c)
 else if c.s1=0 then E4 c else c
theorem Gd.go {K:Kf} {n:Int} {c:Cv} (g:Gd K n c) (s:Sgm):Gd K n (goC K c s):=⟨g.way,g.pass,g.task,g.m2,g.m1,g.m0⟩
theorem Zzc {MH MT MF MS ML MG':Fn} {K:Kf} {c:Cv} {l:Int} (hok:(sgK K c).lead≠0->0<=(sgK K c).item/\(sgK K c).item<K.items.length)
  (hG:MG' (Ad K c)=some (Ay (sgK K c)++[B (Fo K c).isSome])) (hL:ML (I l::Ad K c)=some (Ad K (Fs K c l)))
  (hS:(sgK K c).lead≠0->MS (I (sgK K c).to.x::I (sgK K c).to.y::I (sgK K c).to.z::I (sgK K c).len::I (sgK K c).item::I (sgK K c).feed::I (sgK K c).lead::Ad K c)=some (B (Ek K c (sgK K c))::Ad K (if Ek K c (sgK K c)=true then goC K c (sgK K c)else c)))
  (hF:MF (Ad K c)=some (Ad K (E4 c)))
  (hT:(sgK K c).lead≠0->∀d,d=c\/d=goC K c (sgK K c)->MT (I l::I (sgK K c).to.x::I (sgK K c).to.y::I (sgK K c).to.z::I (sgK K c).len::I (sgK K c).item::I (sgK K c).feed::I (sgK K c).lead::Ad K d)=some (Ad K (Qa K d l (sgK K c))))
  (hH:(sgK K c).lead≠0->∀d,d=c\/d=goC K c (sgK K c)->MH (I l::I (sgK K c).to.x::I (sgK K c).to.y::I (sgK K c).to.z::I (sgK K c).len::I (sgK K c).item::I (sgK K c).feed::I (sgK K c).lead::Ad K d)=some (Ad K (Np K d l (sgK K c).lead))):
  Qbv MH MT MF MS ML MG' (I l::Ad K c)=some (Ad K (IR K c l)):=by
 rw[Zgd]
 unfold IR
 generalize sgK K c=s at*
 refine eB hG ?_
 refine eC (fun e=> ?_) fun e=> ?_
 ·rw[if_pos (.inl (show s.lead=0 from eq_of_beq e))]
  generalize Fs K c l=d at*
  exact eB hL rfl
 ·have e:s.lead≠0:=by simpa [gA,nth,Af]using e
  obtain⟨q0,q1⟩:=hok e
  have hS:=hS e;have hT:=hT e;have hH:=hH e
  have syn:∀{d:Cv} {f1 f2:List AC->List AC},d=c\/d=goC K c s->(∀c,f1 (Ad K c)=Ad K c)->(∀c,f2 (Ad K c)=Ad K c)->
    (bif decide (0<=s.item)&&decide (s.item<((K.items.map Ag).length:Int))then(bif gA (nth [] (K.items.map Ag) s.item.toNat) 0==6 then(MT (I l::I s.to.x::I s.to.y::I s.to.z::I s.len::I s.item::I s.feed::I s.lead::Ad K d)).bind fun o=>some (f1 o)else(MH (I l::I s.to.x::I s.to.y::I s.to.z::I s.len::I s.item::I s.feed::I s.lead::Ad K d)).bind fun o=>some (f2 o))else none)=some (Ad K (I5 K d l s)):=fun hd h1 h2=>by
   refine eT (inM (f:=Ag) q0 q1) ?_
   rw[IL q0 q1]
   unfold I5
   refine eC (fun k=> ?_) fun k=> ?_
   ·rw[if_pos (show(itK K s.item).kind=6 from eq_of_beq k)]
    exact eB (hT _ hd) (congrArg some (h1 _))
   ·rw[if_neg (show(itK K s.item).kind≠6 by simpa [gA,nth,Af]using k)]
    exact eB (hH _ hd) (congrArg some (h2 _))
  have hg:QK c (Ay s++[B (Fo K c).isSome]) MS K MF MT l MH=some (Ad K (if c.y0=s.item then I5 K c l s else if Ek K c s=true then I5 K (goC K c s) l s else if c.s1=0 then E4 c else c)):=by
   refine eC (fun y=> ?_) fun y=> ?_
   ·have y:c.y0≠s.item:=by simpa [gA,nth,Af]using y
    rw[if_neg y]
    refine eB hS ?_
    cases hm:Ek K c s
    ·refine eT rfl ?_
     rw[if_neg (by simp),if_neg (by simp)]
     refine eC (fun z=> ?_) fun z=> ?_
     ·rw[if_pos (show c.s1=0 from eq_of_beq z)]
      generalize E4 c=d at*
      exact eB hF rfl
     ·rw[if_neg (show c.s1≠0 by simpa [gA,nth,Af]using z)]
      rfl
    ·refine eF rfl ?_
     rw[if_pos rfl,if_pos rfl]
     have h:=syn (d:=goC K c s) (f1:=fun o=>cR 0 o) (f2:=fun o=>cR 0 o) (.inr rfl) (fun _=>rfl) (fun _=>rfl)
     generalize goC K c s=d at*
     exact h
   ·have y:c.y0=s.item:=by simpa [gA,nth,Af]using y
    rw[if_pos y]
    exact syn (f1:=fun o=>cR 0 o) (f2:=fun o=>cR 0 o) (.inl rfl) (fun _=>rfl) (fun _=>rfl)
  refine eC (fun a=>eC (fun b=> ?_) fun b=> ?_) fun a=> ?_
  ·have b:c.y0≠s.item:=by simpa [gA,nth,Af]using b
   rw[if_pos (.inr ⟨a,b⟩)]
   generalize Fs K c l=d at*
   exact eB hL rfl
  ·have b:c.y0=s.item:=by simpa [gA,nth,Af]using b
   rw[if_neg (fun q=>by rcases q with q|q;exact e q;exact q.2 b)]
   exact hg
  ·rw[if_neg (fun q=>by rcases q with q|q;exact e q;rw[a]at q;cases q.1)]
   exact hg
theorem Zv2 {K:Kf} {c:Cv} {n:Int} (h:KOK K) (g:Gd K n c) (hn:0<=n/\n<=140) (l:Int):OD (I l::Ad K c)=some (Ad K (IR K c l)):=
 Zzc (fun e=>⟨(Hr h e).1,(Hr h e).2.1⟩) (Qpo h c) (Wd h g hn l) (fun e=>Zp3 h (Hr h e).1 (Hr h e).2.1) (Yo K c)
  (fun e d hd=>by rcases hd with rfl|rfl;exact Qps h g hn l (Hr h e);exact Qps h (g.go _) hn l (Hr h e))
  (fun e d hd=>by rcases hd with rfl|rfl;exact Qy1 h g hn l (Hr h e).2.2;exact Qy1 h (g.go _) hn l (Hr h e).2.2)
end Go.Bm
/- what the controller does in a cycle: the rules, the tick -/
set_option maxRecDepth 100000
noncomputable section
namespace Go.Bm

def E1 (K:Kf) (c:Cv):Int×Cv:=
 if c.stood=true/\c.m0=IntKind.i64.wrap ((Bi K c).1*256)then
  (if 0 <= (Bi K c).2 then
   (if(mkK K (Bi K c).2).item=(EH K c (Bi K c).2).2.y0/\(itK K (mkK K (Bi K c).2).item).kind=5/\(EH K c (Bi K c).2).2.e0=1 then((EH K c (Bi K c).2).1,E4 (EH K c (Bi K c).2).2)else EH K c (Bi K c).2)
  else if K.closed=true then(7,{c with ended:=7})else(1,c))
 else(if c.g0≠0/\c.stood=true then 6 else 1,IR K c (Bi K c).1)
theorem Zi1 {MM MF MB ML:Fn} {K:Kf} {c:Cv} (h:KOK K) (hi:(Bi K c).2= -1\/0<=(Bi K c).2/\c.next<=(Bi K c).2/\(Bi K c).2<K.p.marks.length)
  (hL:ML (Ad K c)=some (I (Bi K c).1::I (Bi K c).2::Ad K c)) (hB:0<=(Bi K c).2->(Bi K c).2<K.p.marks.length->MB (I (Bi K c).2::Ad K c)=some (I (EH K c (Bi K c).2).1::Ad K (EH K c (Bi K c).2).2))
  (hF:∀c,MF (Ad K c)=some (Ad K (E4 c))) (hM:MM (I (Bi K c).1::Ad K c)=some (Ad K (IR K c (Bi K c).1))):
  Yd MM MF MB ML (Ad K c)=some (I (E1 K c).1::Ad K (E1 K c).2):=by
 rw[Zvd]
 unfold E1
 generalize IR K c (Bi K c).1=mv at*
 have hbb:=hB
 generalize hb:EH K c (Bi K c).2=bg at*
 clear hb
 generalize Bi K c=li at*
 refine eB hL ?_
 have mov:∀{a:Prop} [Decidable a],¬(c.stood=true/\c.m0=IntKind.i64.wrap (li.1*256))->∀{x:Option (List AC)},x=some (I (if c.g0≠0/\c.stood=true then 6 else 1)::Ad K mv)->
   x=some (I (if c.stood=true/\c.m0=IntKind.i64.wrap (li.1*256)then(if 0<=li.2 then(if(mkK K li.2).item=bg.2.y0/\(itK K (mkK K li.2).item).kind=5/\bg.2.e0=1 then(bg.1,E4 bg.2)else bg)else if K.closed=true then(7,{c with ended:=7})else(1,c))else(if c.g0≠0/\c.stood=true then 6 else 1,mv)).1::Ad K (if c.stood=true/\c.m0=IntKind.i64.wrap (li.1*256)then(if 0<=li.2 then(if(mkK K li.2).item=bg.2.y0/\(itK K (mkK K li.2).item).kind=5/\bg.2.e0=1 then(bg.1,E4 bg.2)else bg)else if K.closed=true then(7,{c with ended:=7})else(1,c))else(if c.g0≠0/\c.stood=true then 6 else 1,mv)).2):=fun hn _ hx=>by
  rw[if_neg hn];exact hx
 refine eC (fun s=>eC (fun e=> ?_) fun e=> ?_) fun s=> ?_
 ·have s:c.stood=true:=s
  have e:c.m0=IntKind.i64.wrap (li.1*256):=eq_of_beq e
  rw[if_pos ⟨s,e⟩]
  refine eC (fun k=> ?_) fun k=> ?_
  ·have k:0<=li.2:=BA k
   rw[if_pos k]
   have k2:li.2<K.p.marks.length:=by
    rcases hi with hi|hi
    ·omega
    ·exact hi.2.2
   have hm:=SH h k k2
   refine eB (hB k k2) (eT (inM (f:=As) k k2) ?_)
   have er:nth [] (K.p.marks.map As) li.2.toNat=As (mkK K li.2):=LR k k2
   have er2:nth [] (K.items.map Ag) (mkK K li.2).item.toNat=Ag (itK K (mkK K li.2).item):=IL hm.1 hm.2.1
   refine eC (fun y=> ?_) fun y=> ?_
   ·have y:(mkK K li.2).item=bg.2.y0:=by
     have:=eq_of_beq (show(gA (nth [] (K.p.marks.map As) li.2.toNat) 2==bg.2.y0)=true from y)
     rw[er]at this;exact this
    refine eT (show(decide (0<=gA (nth [] (K.p.marks.map As) li.2.toNat) 2)&&decide (gA (nth [] (K.p.marks.map As) li.2.toNat) 2<((K.items.map Ag).length:Int)))=true by rw[er];exact inM (f:=Ag) (l:=K.items) (i:=(mkK K li.2).item) hm.1 hm.2.1) ?_
    have ek:gA (nth [] (K.items.map Ag) (gA (nth [] (K.p.marks.map As) li.2.toNat) 2).toNat) 0=(itK K (mkK K li.2).item).kind:=by
     rw[er]
     show gA (nth [] (K.items.map Ag) (mkK K li.2).item.toNat) 0=_
     rw[er2];rfl
    refine eC (fun q=> ?_) fun q=> ?_
    ·have q:(itK K (mkK K li.2).item).kind=5:=by rw[<-ek];exact eq_of_beq q
     refine eC (fun z=> ?_) fun z=> ?_
     ·have z:bg.2.e0=1:=eq_of_beq z
      rw[if_pos ⟨y,q,z⟩]
      exact eB (hF bg.2) rfl
     ·have z:bg.2.e0≠1:=fun e=>by have:(bg.2.e0==1)=false:=z;rw[beT e]at this;cases this
      rw[if_neg (fun w=>z w.2.2)]
      rfl
    ·have q:(itK K (mkK K li.2).item).kind≠5:=fun e=>by
      have:(gA (nth [] (K.items.map Ag) (gA (nth [] (K.p.marks.map As) li.2.toNat) 2).toNat) 0==5)=false:=q
      rw[ek,beT e]at this;cases this
     rw[if_neg (fun w=>q w.2.1)]
     rfl
   ·have y:(mkK K li.2).item≠bg.2.y0:=fun e=>by
     have:(gA (nth [] (K.p.marks.map As) li.2.toNat) 2==bg.2.y0)=false:=y
     rw[er]at this
     rw[show(gA (As (mkK K li.2)) 2==bg.2.y0)=true from beT e]at this;cases this
    rw[if_neg (fun w=>y w.1)]
    rfl
  ·have k: ¬0<=li.2:=BD k
   rw[if_neg k]
   refine eC (fun q=> ?_) fun q=> ?_
   ·rw[if_pos (show K.closed=true from q)];rfl
   ·rw[if_neg (show¬K.closed=true by rw[show K.closed=false from q];simp)];rfl
 ·have e:c.m0≠IntKind.i64.wrap (li.1*256):=fun e'=>by
   have:(c.m0==IntKind.i64.wrap (li.1*256))=false:=e
   rw[beT e']at this;cases this
  refine mov (a:=True) (fun w=>e w.2) ?_
  refine eC (fun q=> ?_) fun q=> ?_
  ·have q:c.g0≠0:=fun e=>by
    have:(c.g0 !=0)=true:=q
    rw[bnF e]at this;cases this
   refine eB hM (eT (show c.stood=true from s) ?_)
   rw[if_pos ⟨q,show c.stood=true from s⟩]
   rfl
  ·have q:c.g0=0:=Decidable.byContradiction fun e=>by
    have:(c.g0 !=0)=false:=q
    rw[bnT e]at this;cases this
   refine eB hM ?_
   rw[if_neg (fun w=>w.1 q)]
   rfl
 ·have s:c.stood=false:=s
  refine mov (a:=True) (fun w=>by rw[s]at w;cases w.1) ?_
  refine eC (fun q=> ?_) fun q=> ?_
  ·refine eB hM (eF (show c.stood=false from s) ?_)
   rw[if_neg (fun w=>by rw[s]at w;cases w.2)]
   rfl
  ·refine eB hM ?_
   rw[if_neg (fun w=>by rw[s]at w;cases w.2)]
   rfl
theorem Zty {K:Kf} {c:Cv} {n:Int} (h:KOK K) (g:Gd K n c) (hn:0<=n/\n<=140):KY (Ad K c)=some (I (E1 K c).1::Ad K (E1 K c).2):=
 Zi1 h (Q4i K c) (Zuj h c) (fun h0 h1=>Zo7 h h0 h1) (Yo K) (Zv2 h g hn _)
def swI (s:Int) (it:Itm):Int:=one JX (I s::Ag it)
theorem Q7b (s:Int) (it:Itm):JX (I s::Ag it)=some [I (swI s it)]:=by
 have key:∃v,JX (I s::Ag it)=some [I v]:=by
  show∃v,Qdk (I s::Ag it)=some [I v]
  rw[Zxj]
  by_cases h1:it.kind=10
  ·rw[Bl (bnF h1)]
   by_cases h2:it.n<0
   ·rw[Bz (decide_eq_true h2)];exact⟨_,rfl⟩
   ·rw[Bl (decide_eq_false h2)]
    by_cases h3:it.n>=16
    ·rw[Bz (decide_eq_true h3)];exact⟨_,rfl⟩
    ·rw[Bl (decide_eq_false h3),Bl (decide_eq_false (by simp[IntKind.wrap,IntKind.signed,IntKind.bits];omega))]
     cases it.on<;>exact⟨_,rfl⟩
  ·rw[Bz (bnT h1)];exact⟨_,rfl⟩
 obtain⟨v,h⟩:=key
 exact Qg9 h
def DS (K:Kf) (s:Int):List Mrk->Cv->List Int×Cv
 |[],c=>([],c)
 |m::l,c=>if m.at_>s\/(m.at_=s/\c.next<=c.passed/\G7 m.kind c=true)then([],c)
  else if m.kind=5 then(m.item::(DS K s l {c with outs:=swI c.outs (itK K m.item),passed:=c.passed+1}).1,(DS K s l {c with outs:=swI c.outs (itK K m.item),passed:=c.passed+1}).2)
  else DS K s l {c with passed:=c.passed+1}
def BW (K:Kf) (c:Cv) (s:Int):List Int×Cv:=DS K s (K.p.marks.drop c.passed.toNat) c
theorem Zj1 {MS MA:Fn} {K:Kf} {c:Cv} (h:KOK K) (hp:0<=c.passed/\c.passed<=K.p.marks.length) (s:Int)
  (hA:∀(c:Cv) (at_ k it:Int),MA [I at_,I k,I it,I c.o0,I c.o1,B c.o2,B c.o3,B c.o4]=some [B (G7 k c)]) (hS:∀(s:Int) (it:Itm),MS (I s::Ag it)=some [I (swI s it)]):
  Qdd MS MA (An (SX MS MA)) (I s::Ad K c)=some (.view Aa ((BW K c s).1.map At)::Ad K (BW K c s).2):=by
 rw[Zl3]
 have key:Out (fun o=>o=(1, .view Aa ((BW K c s).1.map At)::Ad K (BW K c s).2)) (An (SX MS MA) (.view Aa (([]:List Int).map At)::I s::Ad K c)):=by
  have hc:=h.count
  refine CI (fun z:List Int×Cv=> .view Aa (z.1.map At)::I s::Ad K z.2)
   (fun z=>0<=z.2.passed/\z.2.passed<=K.p.marks.length/\(z.1.length:Int)<=z.2.passed/\(BW K c s).1=z.1++(DS K s (K.p.marks.drop z.2.passed.toNat) z.2).1/\(BW K c s).2=(DS K s (K.p.marks.drop z.2.passed.toNat) z.2).2)
   (fun z=>(K.p.marks.length-z.2.passed).toNat) _ ?_ ([],c) ⟨hp.1,hp.2,by simp;omega,rfl,rfl⟩
  rintro⟨l,d⟩ ⟨g1,g2,g3,g4,g5⟩
  dsimp only at g1 g2 g3 g4 g5
  refine Out.eqv (Zff MS MA _ _ K d) ?_
  refine .cond (fun k=> ?_) fun k=> ?_
  ·have k:d.passed<((K.p.marks.map As).length:Int):=BA k
   rw[List.length_map]at k
   have hi:d.passed.toNat<K.p.marks.length:=by omega
   have em:mkK K d.passed=K.p.marks[d.passed.toNat]:=by unfold mkK;rw[List.getD,List.getElem?_eq_getElem hi];rfl
   have hm:=SH h g1 k
   rw[List.drop_eq_getElem_cons hi,<-em]at g4 g5
   unfold DS at g4 g5
   refine .cond (fun _=> ?_) fun e=>(inB g1 (by rw[List.length_map];exact k) e).elim
   rw[LR g1 k]
   generalize hmk:mkK K d.passed=m at*
   have wp:IntKind.i64.wrap (d.passed+1)=d.passed+1:=Ae (by omega)
   have np:(d.passed+1).toNat=d.passed.toNat+1:=by omega
   have stop:(m.at_>s\/(m.at_=s/\d.next<=d.passed/\G7 m.kind d=true))->∀{x:List AC},x= .view Aa (l.map At)::Ad K d->Out (fun o:Nat×List AC=>(o.1=0/\∃s':List Int×Cv,o.2= .view Aa (s'.1.map At)::I s::Ad K s'.2/\(0<=s'.2.passed/\s'.2.passed<=K.p.marks.length/\(s'.1.length:Int)<=s'.2.passed/\(BW K c s).1=s'.1++(DS K s (K.p.marks.drop s'.2.passed.toNat) s'.2).1/\(BW K c s).2=(DS K s (K.p.marks.drop s'.2.passed.toNat) s'.2).2)/\(K.p.marks.length-s'.2.passed).toNat<(K.p.marks.length-d.passed).toNat)\/(o.1≠0/\o=(1, .view Aa ((BW K c s).1.map At)::Ad K (BW K c s).2))) (some (1,x)):=fun hs _ hx=>by
    rw[if_pos hs]at g4 g5
    subst hx
    refine .some (.inr ⟨by simp,?_⟩)
    rw[g4,g5,List.append_nil]
   have go: ¬(m.at_>s\/(m.at_=s/\d.next<=d.passed/\G7 m.kind d=true))->Out (fun o:Nat×List AC=>(o.1=0/\∃s':List Int×Cv,o.2= .view Aa (s'.1.map At)::I s::Ad K s'.2/\(0<=s'.2.passed/\s'.2.passed<=K.p.marks.length/\(s'.1.length:Int)<=s'.2.passed/\(BW K c s).1=s'.1++(DS K s (K.p.marks.drop s'.2.passed.toNat) s'.2).1/\(BW K c s).2=(DS K s (K.p.marks.drop s'.2.passed.toNat) s'.2).2)/\(K.p.marks.length-s'.2.passed).toNat<(K.p.marks.length-d.passed).toNat)\/(o.1≠0/\o=(1, .view Aa ((BW K c s).1.map At)::Ad K (BW K c s).2))) (LC K d (l.map At) MS s):=fun hs=>by
    rw[if_neg hs]at g4 g5
    unfold LC
    rw[LR g1 k,hmk,wp]
    refine .cond (fun q=> ?_) fun q=> ?_
    ·have q:m.kind=5:=eq_of_beq q
     rw[if_pos q]at g4 g5
     refine .cond (fun _=> ?_) fun e=>by rw[CB (by simp;omega)]at e;cases e
     refine .cond (fun _=> ?_) fun e=>(inB (show 0<=gA (As m) 2 from hm.1) (show gA (As m) 2<((K.items.map Ag).length:Int) by rw[List.length_map];exact hm.2.1) e).elim
     rw[show nth [] (K.items.map Ag) (gA (As m) 2).toNat=Ag (itK K m.item)from IL hm.1 hm.2.1]
     refine .bind (p:=fun o=>o=_) ⟨_,hS d.outs (itK K m.item),rfl⟩ fun o e=> ?_
     subst e
     refine .some (.inl ⟨rfl,(l++[m.item],{d with outs:=swI d.outs (itK K m.item),passed:=d.passed+1}),?_,⟨by dsimp only;omega,by dsimp only;omega,by simp;omega,?_,?_⟩,by dsimp only;omega⟩)
     ·rw[List.map_append];rfl
     ·dsimp only;rw[g4,np];simp
     ·dsimp only;rw[g5,np]
    ·have q:m.kind≠5:=by simpa [gA,nth,Af]using q
     rw[if_neg q]at g4 g5
     refine .some (.inl ⟨rfl,(l,{d with passed:=d.passed+1}),rfl,⟨by dsimp only;omega,by dsimp only;omega,by dsimp only;omega,?_,?_⟩,by dsimp only;omega⟩)
     ·dsimp only;rw[g4,np]
     ·dsimp only;rw[g5,np]
   refine .cond (fun a=>stop (.inl (BA a)) rfl) fun a=> ?_
   have a: ¬m.at_>s:=BD a
   refine .cond (fun b=> .cond (fun e=> ?_) fun e=>go fun w=> ?_) fun b=>go fun w=> ?_
   ·refine .bind (p:=fun o=>o=_) ⟨_,hA d _ _ _,rfl⟩ fun o q=> ?_
    subst q
    refine .cond (fun q=>stop (.inr ⟨eq_of_beq b,BA e,q⟩) rfl) fun q=>go fun w=> ?_
    have q:G7 m.kind d=false:=q
    rcases w with w|w
    ·exact a w
    ·rw[q]at w;cases w.2.2
   ·rcases w with w|w
    ·exact a w
    ·exact BD e w.2.1
   ·rcases w with w|w
    ·exact a w
    ·have:(m.at_==s)=false:=b
     rw[beT w.1]at this;cases this
  ·have k: ¬d.passed<((K.p.marks.map As).length:Int):=BD k
   rw[List.length_map]at k
   rw[List.drop_of_length_le (by omega)]at g4 g5
   refine .some (.inr ⟨by simp,?_⟩)
   rw[g4,g5]
   simp[DS]
 obtain⟨o,h1,rfl⟩:=key
 exact eB h1 rfl
theorem Q8y {K:Kf} {c:Cv} (h:KOK K) (hp:0<=c.passed/\c.passed<=K.p.marks.length) (s:Int):Oo (I s::Ad K c)=some (.view Aa ((BW K c s).1.map At)::Ad K (BW K c s).2):=
 Zj1 h hp s (fun c at_ k it=>Q4s at_ k it c) Q7b
end Go.Bm
/- what the controller does in a cycle: Step -/
set_option maxRecDepth 100000
noncomputable section
namespace Go.Bm

def CK (K:Kf) (c:Cv):Int×Cv:=
 if c.g0=2 then(6,stand c)else if c.ended≠0 then(c.ended,c)
 else if c.touched=true/\c.stood=true then(8,{c with ended:=8})else if c.on=true then CY K c else(0,c)
abbrev FU (K:Kf) (frm i:Int) (c:Cv):List AC:=I frm::I 5::I i::(Ec++(Ec++Ad K c))
abbrev Qg4 (K:Kf) (frm mode:Int) (c:Cv):List AC:=I frm::(Ec++([.view kPt [], .view Aa [],I mode,I 0,I 0,I 0,I 0,I 0,I 0]++Ad K c))
theorem Q67 {N3:Lp} {ME MR MG' MB MP MO MU MS MN MX MT MV:Fn} {K:Kf} {c:Cv} (frm:Int)
  (hU:MU (Ad K c)=some (if c.g0=2 then I 6::B true::Ad K (stand c)else I 0::B false::Ad K c))
  (hO:MO (Ad K c)=some (I c.ended::B (c.ended !=0)::Ad K c))
  (hP:MP (Ad K c)=some (if c.touched=true/\c.stood=true then I 8::B true::Ad K {c with ended:=8}else I 0::B false::Ad K c))
  (hB:MB (Ad K c)=some (if c.on=true then I (CY K c).1::B true::Ad K (CY K c).2 else I 0::B false::Ad K c))
  (hG:MG' (Ad K c)=some (I 0::B false::Ad K c)):
  An (Iy ME MR MG' MB MP MO MU MS MN MX MT MV N3) (FU K frm 0 c)=some (1,Qg4 K frm (CK K c).1 (CK K c).2):=by
 have w:∀i:Int,0<=i->i<5->IntKind.i64.wrap (i+1)=i+1:=fun i _ _=>Ae (by omega)
 have e:=fun i=>Zsg ME MR MG' MB MP MO MU MS MN MX MT MV N3 frm 5 i [] [] 0 0 0 0 0 0 0 [] [] 0 0 0 0 0 0 0 K c
 have s0:c.g0≠2->Iy ME MR MG' MB MP MO MU MS MN MX MT MV N3 (FU K frm 0 c)=some (0,FU K frm 1 c):=fun h=>by
  refine Eq.trans (e 0) (eT rfl (eT rfl (eB hU ?_)))
  rw[if_neg h]
  rfl
 have s1:c.ended=0->Iy ME MR MG' MB MP MO MU MS MN MX MT MV N3 (FU K frm 1 c)=some (0,FU K frm 2 c):=fun h=>by
  refine Eq.trans (e 1) (eT rfl (eF rfl (eT rfl (eB hO ?_))))
  rw[h]
  rfl
 have s2: ¬(c.touched=true/\c.stood=true)->Iy ME MR MG' MB MP MO MU MS MN MX MT MV N3 (FU K frm 2 c)=some (0,FU K frm 3 c):=fun h=>by
  refine Eq.trans (e 2) (eT rfl (eF rfl (eF rfl (eT rfl (eB hP ?_)))))
  rw[if_neg h]
  rfl
 have s3:c.on=false->Iy ME MR MG' MB MP MO MU MS MN MX MT MV N3 (FU K frm 3 c)=some (0,FU K frm 4 c):=fun h=>by
  refine Eq.trans (e 3) (eT rfl (eF rfl (eF rfl (eF rfl (eT rfl (eB hB ?_))))))
  rw[if_neg (by rw[h];simp)]
  rfl
 have s4:Iy ME MR MG' MB MP MO MU MS MN MX MT MV N3 (FU K frm 4 c)=some (0,FU K frm 5 c):=by
  refine Eq.trans (e 4) (eT rfl (eF rfl (eF rfl (eF rfl (eF rfl (eT rfl (eB hG ?_)))))))
  rfl
 have s5:Iy ME MR MG' MB MP MO MU MS MN MX MT MV N3 (FU K frm 5 c)=some (1,Qg4 K frm 0 c):=by
  exact Eq.trans (e 5) (eF rfl rfl)
 unfold CK
 by_cases h:c.g0=2
 ·rw[if_pos h]
  refine A7 (Eq.trans (e 0) (eT rfl (eT rfl (eB hU ?_)))) (by simp)
  rw[if_pos h]
  rfl
 rw[if_neg h,Bt (s0 h)]
 by_cases h:c.ended=0
 ·rw[if_neg (by simpa using h),Bt (s1 h)]
  by_cases h:c.touched=true/\c.stood=true
  ·rw[if_pos h]
   refine A7 (Eq.trans (e 2) (eT rfl (eF rfl (eF rfl (eT rfl (eB hP ?_)))))) (by simp)
   rw[if_pos h]
   rfl
  ·rw[if_neg h,Bt (s2 h)]
   cases h:c.on
   ·rw[if_neg (by simp),Bt (s3 h),Bt s4]
    exact A7 s5 (by simp)
   ·rw[if_pos rfl]
    refine A7 (Eq.trans (e 3) (eT rfl (eF rfl (eF rfl (eF rfl (eT rfl (eB hB ?_))))))) (by simp)
    rw[if_pos h]
    generalize CY K c=wk
    rfl
 ·rw[if_pos h]
  refine A7 (Eq.trans (e 1) (eT rfl (eF rfl (eT rfl (eB hO ?_))))) (by simp)
  rw[bnT h]
  rfl
theorem Zln {K:Kf} {c:Cv} {n:Int} (h:KOK K) (g:Gd K n c):Km (Ad K c)=some (if c.on=true then I (CY K c).1::B true::Ad K (CY K c).2 else I 0::B false::Ad K c):=by
 have key:∀{M:Fn},(c.on=true->M (Ad K c)=some (I (CY K c).1::Ad K (CY K c).2))->Qjo M (Ad K c)=some (if c.on=true then I (CY K c).1::B true::Ad K (CY K c).2 else I 0::B false::Ad K c):=by
  intro M hM
  rw[Zla]
  cases e:c.on
  ·rw[if_neg (by simp)];rfl
  ·rw[if_pos rfl]
   have hM:=hM e
   generalize CY K c=wk at*
   exact eB hM rfl
 exact key fun e=>Qsm h (g.task e).1 (g.task e).2
abbrev HG (c:Cv):Cv:={c with resumed:=false,changed:=false}
def Ct (c:Cv) (E:List Evn):Cv:=E.foldl (fun c e=>evC c e.kind e.n) (HG c)
def IF (E:List Evn):Prop:=E.length<=1000000/\∀e∈E,e.kind≠7/\e.kind≠12/\e.kind≠13
theorem Q62 {ME MR MG' MB MP MO MU MS MN MX MT MV:Fn} {K:Kf} {c:Cv} {E:List Evn} (hE:IF E)
  (hV:∀(c:Cv) (x:Int) {k:Int} (n:Int),k≠7/\k≠12/\k≠13->MV (I x::I k::I n::Ad K c)=some (Ad K (evC c k n))):
  An (S2 ME MR MG' MB MP MO MU MS MN MX MT MV) (.view kPt (E.map evR)::I (E.map evR).length::I 0::(Ec++Ad K (HG c)))=some (1,Ec++Ad K (Ct c E)):=by
 have key:Out (fun o=>o=(1,Ec++Ad K (Ct c E))) (An (S2 ME MR MG' MB MP MO MU MS MN MX MT MV) (.view kPt (E.map evR)::I (E.map evR).length::I ((0:Nat):Int)::(Ec++Ad K (Ct c (E.take 0))))):=by
  refine CI (fun i:Nat=> .view kPt (E.map evR)::I (E.map evR).length::I (i:Int)::(Ec++Ad K (Ct c (E.take i)))) (fun i=>i<=E.length) (fun i=>E.length-i) _ ?_ 0 (by simp)
  intro i hi
  have hl:=hE.1
  refine Out.eqv (Zoy ME MR MG' MB MP MO MU MS MN MX MT MV (E.map evR) (E.map evR).length i [] [] 0 0 0 0 0 0 0 K (Ct c (E.take i))) ?_
  refine .cond (fun k=> ?_) fun k=> ?_
  ·have k:(i:Int)<((E.map evR).length:Int):=BA k
   have hi:i<E.length:=by rw[List.length_map]at k;omega
   refine .cond (fun _=> ?_) fun e=>(inB (by omega) k e).elim
   rw[Qnp E hi]
   refine .bind (p:=fun o=>o=_) ⟨_,hV (Ct c (E.take i)) E[i].cycle E[i].n (hE.2 _ (List.getElem_mem hi)),rfl⟩ fun o e=> ?_
   subst e
   have e1:Ct c (E.take (i+1))=evC (Ct c (E.take i)) E[i].kind E[i].n:=by
    unfold Ct
    rw[List.take_add_one,List.getElem?_eq_getElem hi,List.foldl_append];rfl
   rw[Ae (x:=(i:Int)+1) (by omega)]
   refine .some (.inl ⟨rfl,i+1,?_,by omega,by omega⟩)
   rw[e1]
   have st:∀d:Cv,Ec++cR 0 (Ad K d)=Ec++Ad K d:=fun _=>rfl
   exact congrArg (fun z=>AC.view kPt (E.map evR)::I (E.map evR).length::I ((i:Int)+1)::z) (st (evC (Ct c (E.take i)) E[i].kind E[i].n))
  ·have k: ¬(i:Int)<((E.map evR).length:Int):=BD k
   rw[List.length_map]at k
   rw[List.take_of_length_le (by omega)]
   generalize Ct c E=d
   exact .some (.inr ⟨by simp,rfl⟩)
 obtain⟨o,h1,rfl⟩:=key
 exact h1
def Jk (K:Kf) (frm u:Int):Rw:=wA ((Jo (pxt K.p K.x K.t [I frm,I u])).getD []) 0
theorem Q8a {K:Kf} (h:KOK K) (frm u:Int) (hd:u-frm<=1000000000000):Out (fun o=>wA o 0=Jk K frm u) (Jo (pxt K.p K.x K.t [I frm,I u])):=
 ⟨_,Qed (Q77 h.f frm u hd),rfl⟩
abbrev DT (K:Kf) (c:Cv):Pt:=Hk K.p K.x K.t (AT c)
theorem Zo3 {MM MP MB MO MU:Fn} {K:Kf} {c:Cv} (hw:c.way=0) (hc:c.changed=false) {frm mode:Int}
  (hU:MU (Ad K c)=some [I (AT c)]) (hO:MO (Ad K c)=some [I (AY K c)]) (hB:Out (fun o=>wA o 0=Jk K frm (AT c)) (MB (pxt K.p K.x K.t [I frm,I (AT c)])))
  (hP:∀s,MP (I s::Ad K c)=some (.view Aa ((BW K c s).1.map At)::Ad K (BW K c s).2)) (hQ:∀s,∃n q:Int,(BW K c s).2={c with passed:=n,outs:=q}) (hM:∀u,MM (pxt K.p K.x K.t [I u])=some (ptR (Hk K.p K.x K.t u))):
  Qii MM MP MB MO MU (I frm::(Ad K c++[.view kPt [], .view Aa [],I mode,I 0,I 0,I 0,I 0,I 0,I 0]))=
   some (Ad K (BW K c (AY K c)).2++E0 (Jk K frm (AT c)) ((BW K c (AY K c)).1.map At) mode (AY K c) (DT K c) c.s3 c.g1):=by
 refine Eq.trans (Zpb MM MP MB MO MU frm [] [] mode 0 0 0 0 0 0 K c) ?_
 obtain⟨o,hB,ho⟩:=hB
 rw[<-ho]
 refine eB hU (eB hO (eT (show(!c.changed)=true by rw[hc];rfl) (eB hB (eT (show(c.way==0)=true from beT hw) ?_))))
 have hP:=hP (AY K c)
 obtain⟨n,q,hq⟩:=hQ (AY K c)
 generalize BW K c (AY K c)=ps at*
 refine eB hP ?_
 rw[hq]
 refine eB (hM (AT c)) ?_
 rw[show DT K c=Hk K.p K.x K.t (AT c)from rfl]
 generalize Hk K.p K.x K.t (AT c)=mt
 rfl
theorem TR (K:Kf) (s:Int):∀(l:List Mrk) (c:Cv),∃n q:Int,(DS K s l c).2={c with passed:=n,outs:=q}
 |[],c=>⟨c.passed,c.outs,rfl⟩
 |m::l,c=>by
  unfold DS
  split
  ·exact⟨c.passed,c.outs,rfl⟩
  ·split
   ·obtain⟨n,q,h⟩:=TR K s l {c with outs:=swI c.outs (itK K m.item),passed:=c.passed+1}
    exact⟨n,q,h⟩
   ·obtain⟨n,q,h⟩:=TR K s l {c with passed:=c.passed+1}
    exact⟨n,q,h⟩
theorem Un (K:Kf) (c:Cv) (s:Int):∃n q:Int,(BW K c s).2={c with passed:=n,outs:=q}:=TR K s _ c
theorem Zxp {K:Kf} {c:Cv} {n:Int} (h:KOK K) (g:Gd K n c) (hn:0<=n/\n<=150) (hc:c.changed=false) {frm mode:Int} (hf: -300000000000<=frm/\frm<=300000000000):
  K1 (I frm::(Ad K c++[.view kPt [], .view Aa [],I mode,I 0,I 0,I 0,I 0,I 0,I 0]))=
   some (Ad K (BW K c (AY K c)).2++E0 (Jk K frm (AT c)) ((BW K c (AY K c)).1.map At) mode (AY K c) (DT K c) c.s3 c.g1):=
 Zo3 g.way hc (Sa K c) (Rz h c) (Q8a h frm (AT c) (by have:=Qvg g hn;omega)) (fun s=>Q8y h g.pass s) (Un K c) (R8 h.f)
def Gb (c:Cv):Cv:=if c.touched=true\/c.g0≠0 then{c with o2:=true}else c
def Cu (c:Cv):Cv:={c with before:=c.s3}
def FZ (K:Kf) (c:Cv):Cv:=if ID K c=true then c else spS c K.ramp
def K6 (c:Cv):Cv:={c with stood:=F8 c}
def EN (K:Kf) (c:Cv) (E:List Evn):Cv:=K6 (FZ K (Cu (Gb (Ct c E))))
def stC (K:Kf) (c:Cv) (E:List Evn):Int×Cv:=if(CK K (EN K c E)).1=0 then E1 K (CK K (EN K c E)).2 else CK K (EN K c E)
def CR (K:Kf) (c:Cv) (E:List Evn):Cv:=(BW K (stC K c E).2 (AY K (stC K c E).2)).2
def LA (K:Kf) (c:Cv) (E:List Evn):List Int:=(BW K (stC K c E).2 (AY K (stC K c E).2)).1
def tkC (K:Kf) (c:Cv) (E:List Evn):List AC:=
 E0 (Jk K (AT (Ct c E)) (AT (stC K c E).2)) ((LA K c E).map At) (stC K c E).1 (AY K (stC K c E).2) (DT K (stC K c E).2) (stC K c E).2.s3 (stC K c E).2.g1
theorem Zrd {N16:Lp} {MR ME:Fn} {K:Kf} {d:Cv} {frm:Int} {o:Nat×List AC} (ho:∃e,o.2=Ec++Ad K e)
  (h16:N16 (FU K frm 0 d)=some (1,Qg4 K frm (CK K d).1 (CK K d).2))
  (hR:(CK K d).1=0->MR (Ad K (CK K d).2)=some (I (E1 K (CK K d).2).1::Ad K (E1 K (CK K d).2).2))
  {s:Int×Cv} (hs:s=if(CK K d).1=0 then E1 K (CK K d).2 else CK K d)
  {pul outs:Rw} {pos sp ft:Int} {mt:Pt} {q:Cv}
  (hE:ME (I frm::(Ad K s.2++[.view kPt [], .view Aa [],I s.1,I 0,I 0,I 0,I 0,I 0,I 0]))=some (Ad K q++E0 pul outs s.1 pos mt sp ft)):
  IB N16 o MR ME (I frm) (Ad K d)=some (E0 pul outs s.1 pos mt sp ft++Ad K q):=by
 obtain⟨o1,o2⟩:=o
 obtain⟨e,ho⟩:=ho
 dsimp only at ho
 subst ho
 refine eB h16 (eT rfl ?_)
 generalize CK K d=r at*
 generalize E1 K r.2=w at*
 by_cases h:r.1=0
 ·rw[if_pos h]at hs
  subst hs
  refine eT (show(r.1==0)=true from beT h) (eB (hR h) (eB hE rfl))
 ·rw[if_neg h]at hs
  subst hs
  exact eF (show(s.1==0)=false from beF h) (eB hE rfl)
end Go.Bm
/- what the controller does in a cycle: Step, and what holds behind it -/
set_option maxRecDepth 100000
noncomputable section
namespace Go.Bm

theorem Zru {ME MR MG' MB MP MO MU MS MN MX MT MV:Fn} {N3 N16:Lp} {K:Kf} {c:Cv} {E:List Evn}
  (h3:N3 (.view kPt (E.map evR)::I (E.map evR).length::I 0::(Ec++Ad K (HG c)))=some (1,Ec++Ad K (Ct c E)))
  (hT:∀c,MT (Ad K c)=some [B (ID K c)]) (hX:∀(c:Cv) (ramp:Int),MX [I c.s0,I c.s1,I c.s2,I c.s3,I ramp]=some [I (spS c ramp).s0,I (spS c ramp).s1,I (spS c ramp).s2,I (spS c ramp).s3])
  (hN:∀c,MN (Ad K c)=some [I (AT c)]) (hS:∀c:Cv,MS [I c.m0,I c.m1,I c.m2,I c.m3,I c.m4,I c.m5]=some [B (F8 c)])
  (h1:∀o:Nat×List AC,(∃e,o.2=Ec++Ad K e)->IB N16 o MR ME (I (AT (Ct c E))) (Ad K (EN K c E))=some (tkC K c E++Ad K (CR K c E))):
  Qgn ME MR MG' MB MP MO MU MS MN MX MT MV N3 N16 (.view kPt (E.map evR)::Ad K c)=some (tkC K c E++Ad K (CR K c E)):=by
 refine Eq.trans (Zqc ME MR MG' MB MP MO MU MS MN MX MT MV N3 N16 (E.map evR) K c) ?_
 refine eB h3 (eT rfl ?_)
 unfold EN at h1
 generalize tkC K c E=tk at*
 generalize CR K c E=sc at*
 generalize Ct c E=d at*

 have rest:∀b:Cv,Gb d=b->AT b=AT d->F8 b=F8 d->
   ((MT (Ad K (Cu b))).bind fun o => bif !bA o 0 then (MX [I b.s0, I b.s1, I b.s2, I b.s3, I K.ramp]).bind fun o2 => (MN (Ad K { Cu b with s0 := gA o2 0, s1 := gA o2 1, s2 := gA o2 2, s3 := gA o2 3 })).bind fun o3 => (MS [I d.m0, I d.m1, I d.m2, I d.m3, I d.m4, I d.m5]).bind fun o4 => IB N16 (1, Ec ++ Ad K d) MR ME (jA o3 0) (Ad K { Cu b with s0 := gA o2 0, s1 := gA o2 1, s2 := gA o2 2, s3 := gA o2 3, stood := bA o4 0 })
    else(MN (Ad K (Cu b))).bind fun o3=>(MS [I d.m0,I d.m1,I d.m2,I d.m3,I d.m4,I d.m5]).bind fun o4=>IB N16 (1,Ec++Ad K d) MR ME (jA o3 0) (Ad K {Cu b with stood:=bA o4 0}))=some (tk++Ad K sc):=fun b hb hu hs=>by
  have h1:=h1 (1,Ec++Ad K d) ⟨d,rfl⟩
  rw[hb]at h1
  refine eB (hT (Cu b)) ?_
  cases ht:ID K (Cu b)
  ·have e1:FZ K (Cu b)=spS (Cu b) K.ramp:=by unfold FZ;rw[if_neg (by rw[ht];simp)]
   rw[e1]at h1
   refine eT rfl (eB (hX b K.ramp) ?_)
   refine Eq.trans (congrArg (fun z=>Option.bind z _) (hN (spS (Cu b) K.ramp))) (eB rfl (eB (hS d) ?_))
   have e2:AT (spS (Cu b) K.ramp)=AT d:=hu
   have e3:({spS (Cu b) K.ramp with stood:=F8 d}:Cv)=K6 (spS (Cu b) K.ramp):=by
    unfold K6
    rw[show F8 (spS (Cu b) K.ramp)=F8 b from rfl,hs]
   rw[<-e3,<-e2]at h1
   exact h1
  ·have e1:FZ K (Cu b)=Cu b:=by unfold FZ;rw[if_pos ht]
   rw[e1]at h1
   refine eF rfl ?_
   refine Eq.trans (congrArg (fun z=>Option.bind z _) (hN (Cu b))) (eB rfl (eB (hS d) ?_))
   have e2:AT (Cu b)=AT d:=hu
   have e3:({Cu b with stood:=F8 d}:Cv)=K6 (Cu b):=by
    unfold K6
    rw[show F8 (Cu b)=F8 b from rfl,hs]
   rw[<-e3,<-e2]at h1
   exact h1
 refine eC (fun t=> ?_) fun t=>eC (fun q=> ?_) fun q=> ?_
 ·have t:d.touched=true:=t
  exact rest {d with o2:=true} (by unfold Gb;rw[if_pos (.inl t)]) rfl rfl
 ·have q:d.g0≠0:=fun e=>by
   have:(d.g0 !=0)=true:=q
   rw[bnF e]at this;cases this
  exact rest {d with o2:=true} (by unfold Gb;rw[if_pos (.inr q)]) rfl rfl
 ·have t:d.touched=false:=t
  have q:d.g0=0:=Decidable.byContradiction fun e=>by
   have:(d.g0 !=0)=false:=q
   rw[bnT e]at this;cases this
  exact rest d (by unfold Gb;rw[if_neg (fun w=>by rcases w with w|w;rw[t]at w;cases w;exact w q)]) rfl rfl
structure Kp (c d : Cv) : Prop where
 way:d.way=c.way
 changed:d.changed=c.changed
 passed:d.passed=c.passed
 outs:d.outs=c.outs
theorem Kp.rfl {c:Cv}:Kp c c:=⟨Eq.refl _,Eq.refl _,Eq.refl _,Eq.refl _⟩
theorem Kp.trans {a b c:Cv} (h:Kp a b) (g:Kp b c):Kp a c:=⟨g.way.trans h.way,g.changed.trans h.changed,g.passed.trans h.passed,g.outs.trans h.outs⟩
structure Sm (c d : Cv) : Prop where
 kp:Kp c d
 m0:d.m0=c.m0
 m1:d.m1=c.m1
 m2:d.m2=c.m2
 m3:d.m3=c.m3
 m4:d.m4=c.m4
 on:d.on=c.on
 idx:d.idx=c.idx
 ended:d.ended=c.ended
 touched:d.touched=c.touched
 next:d.next=c.next
theorem Sm.trans {a b c:Cv} (h:Sm a b) (g:Sm b c):Sm a c:=
 ⟨h.kp.trans g.kp,g.m0.trans h.m0,g.m1.trans h.m1,g.m2.trans h.m2,g.m3.trans h.m3,g.m4.trans h.m4,g.on.trans h.on,g.idx.trans h.idx,g.ended.trans h.ended,g.touched.trans h.touched,g.next.trans h.next⟩
theorem Sm.rfl {c:Cv}:Sm c c:=⟨Kp.rfl,Eq.refl _,Eq.refl _,Eq.refl _,Eq.refl _,Eq.refl _,Eq.refl _,Eq.refl _,Eq.refl _,Eq.refl _,Eq.refl _⟩
theorem Gd.sm {K:Kf} {n:Int} {c d:Cv} (g:Gd K n c) (h:Sm c d):Gd K n d:=g.same h.kp.way h.kp.passed h.on h.idx h.m0 h.m1 h.m2
theorem Zda (c:Cv) (k n:Int):Sm c (evC c k n):=⟨⟨Eq.refl _,Eq.refl _,Eq.refl _,Eq.refl _⟩,Eq.refl _,Eq.refl _,Eq.refl _,Eq.refl _,Eq.refl _,Eq.refl _,Eq.refl _,Eq.refl _,Eq.refl _,Eq.refl _⟩
theorem Qvk:∀(E:List Evn) (c:Cv),Sm c (E.foldl (fun c e=>evC c e.kind e.n) c)
 |[],_=>Sm.rfl
 |e::E,c=>(Zda c e.kind e.n).trans (Qvk E _)
theorem Qiu (c:Cv) (E:List Evn):Sm (HG c) (Ct c E):=Qvk E _
theorem Zgb (c:Cv):Sm c (Gb c):=by
 unfold Gb
 split
 ·exact⟨⟨rfl,rfl,rfl,rfl⟩,rfl,rfl,rfl,rfl,rfl,rfl,rfl,rfl,rfl,rfl⟩
 ·exact Sm.rfl
theorem Q78 (K:Kf) (c:Cv):Sm c (FZ K c):=by
 unfold FZ
 split
 ·exact Sm.rfl
 ·exact⟨⟨rfl,rfl,rfl,rfl⟩,rfl,rfl,rfl,rfl,rfl,rfl,rfl,rfl,rfl,rfl⟩
theorem Vk (K:Kf) (c:Cv) (E:List Evn):Sm (HG c) (EN K c E):=
 (Qiu c E).trans ((Zgb _).trans (Sm.trans (b:=Cu (Gb (Ct c E))) ⟨⟨rfl,rfl,rfl,rfl⟩,rfl,rfl,rfl,rfl,rfl,rfl,rfl,rfl,rfl,rfl⟩ ((Q78 K _).trans ⟨⟨rfl,rfl,rfl,rfl⟩,rfl,rfl,rfl,rfl,rfl,rfl,rfl,rfl,rfl,rfl⟩)))
theorem Gd.clear {K:Kf} {n:Int} {c:Cv} (g:Gd K n c):Gd K n (HG c):=⟨g.way,g.pass,g.task,g.m2,g.m1,g.m0⟩
theorem Qls {K:Kf} {n:Int} {c:Cv} (g:Gd K n c) (E:List Evn):Gd K n (EN K c E):=g.clear.sm (Vk K c E)
theorem Zoi {K:Kf} {n:Int} {c:Cv} (g:Gd K n c):Gd K n (P1 K c).2/\Kp c (P1 K c).2:=by
 have done:∀d:Cv,Gd K n d->Kp c d->Gd K n (IY d)/\Kp c (IY d):=fun d g k=>⟨⟨g.way,g.pass,fun h=>(by cases h),g.m2,g.m1,g.m0⟩,k.trans ⟨rfl,rfl,rfl,rfl⟩⟩
 have cmd:∀n' sp:Int,Gd K n (Lo c n' sp)/\Kp c (Lo c n' sp):=fun n' sp=>⟨⟨g.way,g.pass,g.task,g.m2,g.m1,g.m0⟩,⟨rfl,rfl,rfl,rfl⟩⟩
 unfold P1
 split
 ·split
  ·exact done c g Kp.rfl
  ·exact⟨g,Kp.rfl⟩
 ·split
  ·exact done c g Kp.rfl
  ·split
   ·split
    ·exact⟨g,Kp.rfl⟩
    ·exact done c g Kp.rfl
   ·split
    ·split
     ·exact done _ (cmd _ _).1 (cmd _ _).2
     ·exact cmd _ _
    ·split
     ·exact⟨⟨g.way,g.pass,g.task,g.m2,g.m1,g.m0⟩,⟨rfl,rfl,rfl,rfl⟩⟩
     ·exact done c g Kp.rfl
theorem Qt8 {K:Kf} {n:Int} {c:Cv} (g:Gd K n c):Gd K n (CY K c).2/\Kp c (CY K c).2:=by
 have h:=Zoi (K:=K) (c:=C0 c) ⟨g.way,g.pass,g.task,g.m2,g.m1,g.m0⟩
 exact⟨h.1,h.2.way,h.2.changed,h.2.passed,h.2.outs⟩
theorem Zf9 {K:Kf} {n:Int} {c:Cv} (g:Gd K n c) {i:Int} (h0:0<=i) (h1:i<K.p.marks.length):Gd K n (EH K c i).2/\Kp c (EH K c i).2:=by
 have h:=Qt8 (K:=K) (c:={c with on:=true,idx:=i,waits:=Gx K c i,cnt:=0}) ⟨g.way,g.pass,fun _=>⟨h0,h1⟩,g.m2,g.m1,g.m0⟩
 exact⟨h.1,⟨h.2.way,h.2.changed,h.2.passed,h.2.outs⟩⟩
theorem Nm {K:Kf} {n:Int} {c:Cv} (g:Gd K n c):Gd K n (E4 c)/\Kp c (E4 c):=by
 unfold E4
 split
 ·exact⟨⟨g.way,g.pass,g.task,g.m2,g.m1,g.m0⟩,⟨rfl,rfl,rfl,rfl⟩⟩
 ·exact⟨g,Kp.rfl⟩
theorem Zjs (K:Kf) (c:Cv) (l:Int):Kp c (Fs K c l):=⟨rfl,rfl,rfl,rfl⟩
theorem Q40 {K:Kf} {n:Int} {c:Cv} (h:KOK K) (g:Gd K n c) (hn:0<=n/\n<=140) (l:Int) {s:Sgm} (hs:i64 s.lead):Gd K (n+1) (I5 K c l s)/\Kp c (I5 K c l s):=by
 have gp:=Qya h g hn l
 unfold I5
 split
 ·exact⟨⟨gp.way,gp.pass,gp.task,gp.m2,gp.m1,gp.m0⟩,⟨rfl,rfl,rfl,rfl⟩⟩
 ·obtain⟨-,v,s',b,z,y,e,h2,h3⟩:=Qpz h g hn l hs
  have gm:Gd K (n+1) (LB c (thO K c l s.lead)):=by
   have e1:gA (thO K c l s.lead) 1=v:=by rw[h2];rfl
   have:=g.move hn h3
   unfold LB Sh
   rw[e1]
   exact⟨this.way,this.pass,this.task,this.m2,this.m1,this.m0⟩
  unfold Np
  split
  ·exact⟨⟨gp.way,gp.pass,gp.task,gp.m2,gp.m1,gp.m0⟩,⟨rfl,rfl,rfl,rfl⟩⟩
  ·split
   ·exact⟨(Nm gm).1,Kp.trans (b:=LB c (thO K c l s.lead)) ⟨rfl,rfl,rfl,rfl⟩ (Nm gm).2⟩
   ·exact⟨gm,⟨rfl,rfl,rfl,rfl⟩⟩
theorem Zll {K:Kf} {n:Int} {c:Cv} (h:KOK K) (g:Gd K n c) (hn:0<=n/\n<=140) (l:Int):Gd K (n+1) (IR K c l)/\Kp c (IR K c l):=by
 unfold IR
 split
 ·exact⟨Qya h g hn l,Zjs K c l⟩
 ·rename_i hx
  have hl:(sgK K c).lead≠0:=fun e=>hx (.inl e)
  split
  ·exact Q40 h g hn l (Hr h hl).2.2
  ·split
   ·have:=Q40 h (g.go (sgK K c)) hn l (Hr h hl).2.2
    exact⟨this.1,Kp.trans (b:=goC K c (sgK K c)) ⟨rfl,rfl,rfl,rfl⟩ this.2⟩
   ·split
    ·exact⟨(Nm (g.up hn.1)).1,(Nm g).2⟩
    ·exact⟨g.up hn.1,Kp.rfl⟩
theorem Q6z {K:Kf} {n:Int} {c:Cv} (h:KOK K) (g:Gd K n c) (hn:0<=n/\n<=140):Gd K (n+1) (E1 K c).2/\Kp c (E1 K c).2:=by
 have hi:=Q4i K c
 unfold E1
 split
 ·split
  ·rename_i k
   have k2:(Bi K c).2<K.p.marks.length:=by
    rcases hi with hi|hi
    ·omega
    ·exact hi.2.2
   have gb:=Zf9 (g.up hn.1) k k2
   split
   ·exact⟨(Nm gb.1).1,gb.2.trans (Nm gb.1).2⟩
   ·exact gb
  ·split
   ·exact⟨⟨g.way,g.pass,g.task,(g.up hn.1).m2,(g.up hn.1).m1,(g.up hn.1).m0⟩,⟨rfl,rfl,rfl,rfl⟩⟩
   ·exact⟨g.up hn.1,Kp.rfl⟩
 ·exact Zll h g hn _
theorem Qtm {K:Kf} {n:Int} {c:Cv} (g:Gd K n c) (hn:0<=n/\n<=140):Gd K n (CK K c).2/\Kp c (CK K c).2:=by
 unfold CK
 split
 ·exact⟨(g.stand hn).1,⟨rfl,rfl,rfl,rfl⟩⟩
 ·split
  ·exact⟨g,Kp.rfl⟩
  ·split
   ·exact⟨⟨g.way,g.pass,g.task,g.m2,g.m1,g.m0⟩,⟨rfl,rfl,rfl,rfl⟩⟩
   ·split
    ·exact Qt8 g
    ·exact⟨g,Kp.rfl⟩
theorem Qxa {K:Kf} {n:Int} {c:Cv} (h:KOK K) (g:Gd K n c) (hn:0<=n/\n<=140) (E:List Evn):Gd K (n+1) (stC K c E).2/\Kp (HG c) (stC K c E).2:=by
 have gr:=Qtm (Qls g E) hn
 have kp:=(Vk K c E).kp.trans gr.2
 unfold stC
 split
 ·have:=Q6z h gr.1 hn
  exact⟨this.1,kp.trans this.2⟩
 ·exact⟨gr.1.up hn.1,kp⟩
theorem Qac (K:Kf) (s:Int):∀(l:List Mrk) (c:Cv),c.passed<=(DS K s l c).2.passed/\(DS K s l c).2.passed<=c.passed+l.length
 |[],c=>by simp[DS]
 |m::l,c=>by
  unfold DS
  split
  ·simp only[List.length_cons];omega
  ·split
   ·have:=Qac K s l {c with outs:=swI c.outs (itK K m.item),passed:=c.passed+1}
    simp only[List.length_cons]at this⊢;omega
   ·have:=Qac K s l {c with passed:=c.passed+1}
    simp only[List.length_cons]at this⊢;omega
theorem R9 {K:Kf} {n:Int} {c:Cv} (h:KOK K) (g:Gd K n c) (hn:0<=n/\n<=140) (E:List Evn):Gd K (n+1) (CR K c E):=by
 have gs:=(Qxa h g hn E).1
 unfold CR
 generalize(stC K c E).2=d at*
 obtain⟨n',q,e⟩:=Un K d (AY K d)
 have hb:=Qac K (AY K d) (K.p.marks.drop d.passed.toNat) d
 rw[List.length_drop]at hb
 have hb:d.passed<=(BW K d (AY K d)).2.passed/\(BW K d (AY K d)).2.passed<=d.passed+((K.p.marks.length-d.passed.toNat:Nat):Int):=hb
 rw[e]at hb⊢
 have hp:=gs.pass
 exact⟨gs.way,by dsimp only at hb⊢;omega,gs.task,gs.m2,gs.m1,gs.m0⟩
theorem PD {K:Kf} {c:Cv} {n:Int} (h:KOK K) (g:Gd K n c) (hn:0<=n/\n<=140) {E:List Evn} (hE:IF E):
  Ib (.view kPt (E.map evR)::Ad K c)=some (tkC K c E++Ad K (CR K c E)):=by
 have gp:=Qls g E
 have gr:=Qtm gp hn
 have gs:=Qxa h g hn E
 have hf: -300000000000<=AT (Ct c E)/\AT (Ct c E)<=300000000000:=Qvg (g.clear.sm (Qiu c E)) (by omega)
 refine Zru (Q62 hE Zwl) (Znw h) Zux (Sa K) Znh fun o ho=> ?_
 refine Zrd (s:=stC K c E) ho (Q67 _ (Zho K _) (Zhk K _) (Zgz K _) (Zln h gp) (Zm9 gp.way)) (fun _=>Zty h gr.1 hn) rfl ?_
 exact Zxp h gs.1 (by omega) gs.2.changed hf
end Go.Bm
/- the sanity check of the controller's laws -/
set_option maxRecDepth 100000
noncomputable section
namespace Go.Bm

theorem Zg9 (a b c:Int) {d:Int} (h:d<=0):GE [I a,I b,I c,I d]=some [I 0]:=by
 show Q9 _=_
 rw[Qhf,Bz (decide_eq_true h)]
theorem Zwc {a b c:Int} (h:Plan3 a b c):F9 [I a,I b,I c,I 0,I 0]=some [B true]:=by
 have key:∀{M:Fn},(∀d:Int,d<=0->M [I a,I b,I c,I d]=some [I 0])->Pv M [I a,I b,I c,I 0,I 0]=some [B true]:=by
  intro M hM
  have ha:=h.a;have hb:=h.b
  rw[Xu,Ae (x:=0-a) (by omega)]
  refine eF (decide_eq_false (by omega)) (eF (decide_eq_false (by omega)) (eT rfl (eF (decide_eq_false (by omega)) ?_)))
  refine eB (hM _ (by decide)) (eT rfl (eB (hM 0 (by omega)) ?_))
  rfl
 exact key fun d hd=>Zg9 a b c hd
theorem Zpg {a b c:Int} (h:Plan3 a b c):I7 [I a,I b,I c,I 0,I 0]=some [.view Aa [],B true]:=by
 have key:∀{MB MR MV:Fn},MV [I a,I b,I c]=some [B true]->MR [I a,I b,I c,I 0,I 0]=some [B true]->P0 MB MR MV (An (J4 MB MR MV)) [I a,I b,I c,I 0,I 0]=some [.view Aa [],B true]:=by
  intro MB MR MV h1 h2
  rw[Qjv]
  refine eB h1 (eF rfl (eB h2 (eF rfl ?_)))
  have hs:J4 MB MR MV [.view Aa [],I 0,I 0,I a,I b,I c]=some (2,[.view Aa []]):=by
   rw[Qxx];rfl
  exact eB (A7 hs (by simp)) rfl
 refine key ?_ (Zwc h)
 rw[NB,decide_eq_true]
 exact⟨h.a.1,h.a.2,h.b.1,h.b.2,h.c.1,h.c.2⟩
theorem Zy9 {a b c:Int} (h:Plan3 a b c) (x3 x6 x7 x8:Int):E2 [I a,I b,I c,I x3,I 0,I 0,I x6,I x7,I x8]=some [.view Aa [],B true]:=by
 have key:∀{M:Fn},M [I a,I b,I c,I 0,I 0]=some [.view Aa [],B true]->OG M (An (KG M)) [I a,I b,I c,I x3,I 0,I 0,I x6,I x7,I x8]=some [.view Aa [],B true]:=by
  intro M h1
  rw[Qje]
  have hs:KG M [.view Aa [],I x3, .view Aa [],I 0,I 0]=some (1,[.view Aa []]):=by
   rw[Qo0];rfl
  exact eB h1 (eF rfl (eT rfl (eT rfl (eB (A7 hs (by simp)) rfl))))
 exact key (Zpg h)
theorem Zpa {K:Kf} (h:Plan3 K.pa K.pb K.pc) {c:Cv} (h1:c.m1=0) (h2:c.m2=0):SQ K c=c.m0:=by
 have key:∀{M:Fn},M [I K.pa,I K.pb,I K.pc,I c.m0,I 0,I 0,I c.m3,I c.m4,I c.m5]=some [.view Aa [],B true]->Mo M [I K.pa,I K.pb,I K.pc,I c.m0,I 0,I 0,I c.m3,I c.m4,I c.m5]=some [I c.m0,B true]:=by
  intro M hM
  rw[V5]
  exact eB hM (eF rfl (eT rfl rfl))
 have e:FJ [I K.pa,I K.pb,I K.pc,I c.m0,I 0,I 0,I c.m3,I c.m4,I c.m5]=some [I c.m0,B true]:=key (Zy9 h _ _ _ _)
 unfold SQ one
 rw[h1,h2,e]
 rfl
abbrev RD:Axs:=⟨8,10,10,10,-16777216,16777216,0,0,0,[]⟩
theorem Qgv:AxOK RD:=⟨by decide,by decide,by decide,fun h=>absurd rfl h,⟨fun x h=>(by cases h),fun i h=>(by simp at h)⟩,by decide,by decide⟩
abbrev KU:Ax3:=⟨RD,RD,RD⟩
theorem machX:MachOK KU 9 3 100 1 0:=⟨⟨Qgv,Qgv,Qgv⟩,⟨by decide,by decide,by decide⟩,by decide,by decide⟩
abbrev BO:Itm:=⟨12,0,⟨0,0,0⟩,⟨0,0,0⟩,0,⟨0,0,0⟩,0,false,0,false,0,0,0,0,0,false⟩
theorem Qzs:Items 4084 ⟨0,0,0⟩ []:=⟨trivial,fun it h=>by cases h⟩
theorem Zgk:Items 4084 ⟨0,0,0⟩ [BO]:=by
 have h:=Nc Qzs (it:=BO) (fun h=>by unfold AD at h;simp at h) (.inr ⟨by decide,fun h=>by simp at h,fun h=>by simp at h,fun h=>by simp at h⟩)
 exact h
abbrev kX (l:List Itm):Kf:=kfP KU 9 3 100 1 0 l true
theorem Qbs {l:List Itm} (h:(A3 l).segs=[]) (c:Cv):ID (kX l) c=false:=by
 unfold ID Fo
 rw[h];rfl
theorem gd0 (l:List Itm):Gd (kX l) 0 Cz:=⟨rfl,⟨by decide,by simp⟩,fun h=>(by cases h),by decide,by decide,by decide⟩
theorem UQ:A3 []=⟨⟨0,0,0⟩,[],[]⟩:=rfl
theorem Su:A3 [BO]=⟨⟨0,0,0⟩,[],[⟨0,3,0⟩]⟩:=by
 have e:Aw [BO] 1=⟨[],[⟨0,3,0⟩],0,0,-1,false,⟨0,0,0⟩,⟨0,0,0⟩⟩:=by
  rw[Aw,Aw]
  unfold E_
  rw[if_neg (by decide)]
  rfl
 show Pth.mk (Aw [BO] 1).start (Aw [BO] 1).segs (Aw [BO] 1).marks=_
 rw[e]
theorem Qws {p:Pth} (h:p.segs=[]):Eo p KU ⟨1,1,1⟩ 0 (AR p.segs)=⟨[],0,0,⟨1,1,1⟩⟩:=by
 unfold Eo
 rw[h]
 rfl
theorem kX0:kX []=⟨KU,9,3,100,1,0,[],true,⟨⟨0,0,0⟩,[],[]⟩,0,IM [],⟨[],0,0,⟨1,1,1⟩⟩⟩:=by
 show Kf.mk _ _ _ _ _ _ _ _ _ _ _ _=_
 rw[Qws (p:=A3 []) (by rw[UQ]),UQ]
 rfl
theorem kX1:kX [BO]=⟨KU,9,3,100,1,0,[BO],true,⟨⟨0,0,0⟩,[],[⟨0,3,0⟩]⟩,0,IM [BO],⟨[],0,0,⟨1,1,1⟩⟩⟩:=by
 show Kf.mk _ _ _ _ _ _ _ _ _ _ _ _=_
 rw[Qws (p:=A3 [BO]) (by rw[Su]),Su]
 rfl
abbrev IQ:Cv:={Cz with stood:=true}
theorem Qvy {K:Kf} (ht:∀c,ID K c=false) (hr:K.ramp=1):EN K Cz []=IQ:=by
 show K6 (FZ K (Cu (Gb Cz)))=_
 unfold FZ
 rw[if_neg (by rw[ht];simp),hr]
 rfl
theorem Zhb:(stC (kX []) Cz []).1=7:=by
 have e:=Qvy (Qbs (l:=[]) (by rw[UQ])) rfl
 have er:CK (kX []) IQ=(0,IQ):=rfl
 unfold stC
 rw[e,er,if_pos rfl]
 have el:Bi (kX []) IQ=(0,-1):=by
  rw[kX0]
  unfold Bi BI
  rfl
 unfold E1
 rw[el]
 rfl
abbrev Ja:Cv:={IQ with on:=true,idx:=0,waits:=true,cnt:=1}
theorem st1:stC (kX [BO]) Cz []=(2,Ja):=by
 have e:=Qvy (Qbs (l:=[BO]) (by rw[Su])) rfl
 have er:CK (kX [BO]) IQ=(0,IQ):=rfl
 unfold stC
 rw[e,er,if_pos rfl]
 have el:Bi (kX [BO]) IQ=(0,0):=by
  have e2:=Zpa (K:=kX [BO]) machX.plan (c:=IQ) rfl rfl
  unfold Bi
  rw[e2,kX1]
  rfl
 unfold E1
 rw[el,kX1]
 rfl
theorem Q2q:CR (kX [BO]) Cz []=Ja:=by
 unfold CR
 rw[st1,kX1]
 rfl
theorem Zde:(stC (kX [BO]) Ja [⟨0,4,0⟩]).1=3:=by
 have ht:=Qbs (l:=[BO]) (by rw[Su])
 have e:EN (kX [BO]) Ja [⟨0,4,0⟩]=K6 (spS (Cu (Gb (Ct Ja [⟨0,4,0⟩]))) 1):=by
  unfold EN FZ
  rw[if_neg (by rw[ht];simp)]
 unfold stC
 rw[e,kX1]
 rfl
theorem Qsk (K:Kf) (c:Cv) (E:List Evn) (l:List AC):gA (tkC K c E++l) 2=(stC K c E).1:=rfl
theorem Qo3:IF []:=⟨by simp,fun e h=>by cases h⟩
theorem Zt3 {MS MN:Fn}
  (h0:MN (AJ KU++[I 9,I 3,I 100,I 1,I 0]++[.view Ak (([]:List Itm).map Ag),B true])=some (I 0::Ad (kX []) Cz))
  (h1:MN (AJ KU++[I 9,I 3,I 100,I 1,I 0]++[.view Ak ([BO].map Ag),B true])=some (I 0::Ad (kX [BO]) Cz))
  (hs0:∃l,MS (.view kPt (([]:List Evn).map evR)::Ad (kX []) Cz)=some l/\gA l 2=7)
  (hs1:∃l,MS (.view kPt (([]:List Evn).map evR)::Ad (kX [BO]) Cz)=some (l++Ad (kX [BO]) Ja)/\l.length=9/\gA l 2=2)
  (hs2:∃l,MS (.view kPt ([(⟨0,4,0⟩:Evn)].map evR)::Ad (kX [BO]) Ja)=some l/\gA l 2=3):
  WQ MS MN []=some [B true]:=by
 rw[Zsz]
 obtain⟨l0,s0,m0⟩:=hs0
 obtain⟨l1,s1,n1,m1⟩:=hs1
 obtain⟨l2,s2,m2⟩:=hs2
 match l1,n1 with
 |[a0,a1,a2,a3,a4,a5,a6,a7,a8],_=>
  refine eB h0 (eB h1 (eF rfl (eF rfl (eB s0 (eT (beT m0) (eB s1 (eT (beT m1) (eB s2 ?_))))))))
  rw[m2];rfl
theorem Q4h:Nn []=some [B true]:=by
 have n0:=Qhs machX (items:=[]) (by simp) Qzs true
 have n1:=Qhs machX (items:=[BO]) (by simp) Zgk true
 have z0:=PD n0.2 (gd0 []) (by omega) Qo3
 have z1:=PD n1.2 (gd0 [BO]) (by omega) Qo3
 have g1:Gd (kX [BO]) 1 Ja:=by
  have:=R9 n1.2 (gd0 [BO]) (by omega) []
  rw[Q2q]at this;exact this
 have z2:=PD n1.2 g1 (by omega) (E:=[⟨0,4,0⟩]) ⟨by simp,fun e h=>by simp at h;subst h;simp⟩
 rw[Q2q]at z1
 exact Zt3 n0.1 n1.1 ⟨_,z0,(Qsk _ _ _ _).trans Zhb⟩ ⟨_,z1,rfl,by show(stC (kX [BO]) Cz []).1=2;rw[st1]⟩ ⟨_,z2,(Qsk _ _ _ _).trans Zde⟩
end Go.Bm
/- after a loss of power no motor moves any more: over the models -/
set_option maxRecDepth 100000
noncomputable section
namespace Go.Bm

theorem Xc (K:Kf) (c:Cv) (E:List Evn):AY K (CR K c E)=AY K (stC K c E).2/\DT K (CR K c E)=DT K (stC K c E).2/\(CR K c E).g0=(stC K c E).2.g0/\(CR K c E).g1=(stC K c E).2.g1/\(CR K c E).m0=(stC K c E).2.m0:=by
 unfold CR
 obtain⟨n,q,e⟩:=Un K (stC K c E).2 (AY K (stC K c E).2)
 rw[e]
 exact⟨rfl,rfl,rfl,rfl,rfl⟩
def Fc (c:Cv):Prop:=c.g0=2/\c.g1=22
theorem Zw9 {c:Cv} {k n:Int} (hk:k<=6\/k=10) (h:Fc c\/k=10):Fc (evC c k n):=by
 by_cases e:k=10
 ·subst e;exact⟨rfl,rfl⟩
 ·have h:Fc c:=by rcases h with h|h;exact h;exact absurd h e
  have hs:HL k n=false:=by
   unfold HL
   rw[beF (show k≠9 by omega),beF (show k≠8 by omega)];rfl
  refine⟨?_,?_⟩
  ·show(if k=10 then 2 else if k=11 then 0 else if HL k n=true then(if c.g0=2 then 2 else 1)else c.g0)=2
   rw[if_neg e,if_neg (by omega),if_neg (by rw[hs];simp)];exact h.1
  ·show(if k=10 then 22 else if k=11 then 0 else if HL k n=true/\c.g0≠2/\c.g1=0 then(if k=9 then 21 else 20)else c.g1)=22
   rw[if_neg e,if_neg (by omega),if_neg (by rw[hs];simp)];exact h.2
theorem Q05:∀(E:List Evn) (c:Cv),(∀e∈E,e.kind<=6\/e.kind=10)->(Fc c\/∃e∈E,e.kind=10)->Fc (E.foldl (fun c e=>evC c e.kind e.n) c)
 |[],c,_,h=>by rcases h with h|⟨e,h,-⟩;exact h;cases h
 |e::E,c,hk,h=>by
  refine Q05 E _ (fun x hx=>hk x (by simp[hx])) ?_
  by_cases c1:Fc c\/e.kind=10
  ·exact .inl (Zw9 (hk e (by simp)) c1)
  ·rcases h with h|⟨x,hx,h⟩
   ·exact absurd (.inl h) c1
   ·rcases List.mem_cons.1 hx with rfl|hx
    ·exact absurd (.inr h) c1
    ·exact .inr ⟨x,hx,h⟩
theorem Q56 {c d:Cv} (h:Sm c d):AT d=AT c:=by
 show IntKind.i64.wrap (d.m0.tdiv 256)=IntKind.i64.wrap (c.m0.tdiv 256)
 rw[h.m0]
theorem Qs1 {K:Kf} {c:Cv} {n:Int} (g:Gd K n c) (hn:0<=n/\n<=140) {E:List Evn} (hk:∀e∈E,e.kind<=6\/e.kind=10) (h:Fc c\/∃e∈E,e.kind=10):
  (stC K c E).1=6/\Fc (stC K c E).2/\AT (stC K c E).2=AT c/\AT (Ct c E)=AT c:=by
 have he:Fc (Ct c E):=Q05 E (HG c) hk h
 have hp:Fc (EN K c E):=by
  unfold EN
  have h1:Fc (Gb (Ct c E)):=by unfold Gb;split<;>exact he
  have h2:∀d,Fc d->Fc (FZ K d):=fun d hd=>by unfold FZ;split<;>exact hd
  exact h2 _ h1
 have gp:=Qls g E (K:=K)
 have er:CK K (EN K c E)=(6,stand (EN K c E)):=by unfold CK;rw[if_pos hp.1]
 have es:stC K c E=(6,stand (EN K c E)):=by unfold stC;rw[er,if_neg (by simp)]
 rw[es]
 refine⟨rfl,hp,?_,(Q56 (c:=HG c) (Qiu c E):)⟩
 rw[(gp.stand hn).2]
 exact(Q56 (c:=HG c) (Vk K c E):)
theorem Q6k {K:Kf} (h:KOK K) (u:Int):Jk K u u=[]:=by
 obtain⟨o,h1,h2⟩:=Ztq h.f u
 unfold Jk
 rw[h1];exact h2
abbrev atE (E:List Evn) (k:Int):List Evn:=E.filter fun e=>e.cycle==k
theorem Sr {E:List Evn} {k:Int} {e:Evn} (h:e∈atE E k):e∈E:=(List.mem_filter.1 h).1
theorem On (E:List Evn) (k:Int):(atE E k).length<=E.length:=List.length_filter_le _ _
structure Tk (K : Kf) (o : List AC) (c : Cv) (s : Int) (m : Pt) : Prop where
 ex:∃(pul outs:Rw) (mode sp ft:Int),o=E0 pul outs mode s m sp ft++Ad K c
theorem Zga {MS MA:Fn} {K:Kf} {E:List Evn} {s:Int} {m:Pt} {nn:Int} {z:List AC} (h:KOK K) (hE:E.length<=60) (hk:∀e∈E,e.kind<=6)
  (hz:∃(pul outs:Rw) (mode sp ft:Int) (c:Cv),z= .view kPt (E.map evR)::I nn::(E0 pul outs mode s m sp ft++Ad K c))
  (hA:∀k,MA [.view kPt (E.map evR),I k]=some [.view kPt ((atE E k).map evR)])
  (hS:∀(c:Cv) (n:Int) (E:List Evn),Gd K n c->0<=n/\n<=140->IF E->MS (.view kPt (E.map evR)::Ad K c)=some (tkC K c E++Ad K (CR K c E))):
  ∀(j:Nat) (k:Int) (c:Cv) (n:Int) (o:List AC),Gd K n c->0<=n->n+j<=140->Fc c->AY K c=s->DT K c=m->(∃t:List AC,t.length=9/\o=t++Ad K c)->Xo MS MA z j k o=some [B true]:=by
 obtain⟨pul,outs,mode,sp,ft,cz,rfl⟩:=hz
 intro j
 induction j with
 |zero=>intros;rfl
 |succ j ih=>
  intro k c n o g h0 hn hl hs hm ho
  obtain⟨t,ht,rfl⟩:=ho
  match t,ht with
  |[a0,a1,a2,a3,a4,a5,a6,a7,a8],_=>
   have hkE:∀e∈atE E (IntKind.i64.wrap (nn+k)),e.kind<=6\/e.kind=10:=fun e he=> .inl (hk e (Sr he))
   have ls:=Qs1 g (by omega) hkE (.inl hl)
   have sm:=Xc K c (atE E (IntKind.i64.wrap (nn+k)))
   have gs:=R9 h g (by omega) (atE E (IntKind.i64.wrap (nn+k)))
   have calm:IF (atE E (IntKind.i64.wrap (nn+k))):=⟨by have:=On E (IntKind.i64.wrap (nn+k));omega,fun e he=>by have:=hk e (Sr he);omega⟩
   refine eB (hA (IntKind.i64.wrap (nn+k))) (eT (CB (show((atE E (IntKind.i64.wrap (nn+k))).map evR).length*24<=140737488355328 by rw[List.length_map];have:=On E (IntKind.i64.wrap (nn+k));omega)) (eB (hS c n (atE E (IntKind.i64.wrap (nn+k))) g (by omega) calm) ?_))
   have ep:AY K (stC K c (atE E (IntKind.i64.wrap (nn+k)))).2=s:=by
    show Bn K.t (AT _)=s
    rw[ls.2.2.1];exact hs
   have em:DT K (stC K c (atE E (IntKind.i64.wrap (nn+k)))).2=m:=by
    show Hk K.p K.x K.t (AT _)=m
    rw[ls.2.2.1];exact hm
   have e1:tkC K c (atE E (IntKind.i64.wrap (nn+k)))=E0 [] ((LA K c (atE E (IntKind.i64.wrap (nn+k)))).map At) 6 s m (stC K c (atE E (IntKind.i64.wrap (nn+k)))).2.s3 22:=by
    unfold tkC
    rw[ep,em,ls.1,ls.2.2.2,ls.2.2.1,Q6k h,ls.2.1.2]
   rw[e1]
   refine Eq.trans ?_ (ih (IntKind.i64.wrap (k+1)) (CR K c (atE E (IntKind.i64.wrap (nn+k)))) (n+1) _ gs (by omega) (by omega) ⟨by rw[sm.2.2.1];exact ls.2.1.1,by rw[sm.2.2.2.1];exact ls.2.1.2⟩ (by rw[sm.1];exact ep) (by rw[sm.2.1];exact em) ⟨E0 [] ((LA K c (atE E (IntKind.i64.wrap (nn+k)))).map At) 6 s m (stC K c (atE E (IntKind.i64.wrap (nn+k)))).2.s3 22,rfl,rfl⟩)
   exact eF (by show(!(m.x==m.x&&(m.y==m.y&&(m.z==m.z&&true))))=false;simp) (eF rfl (eF rfl (eF rfl (eF (by show(s !=s)=false;simp) rfl))))
def CE (K:Kf) (E:List Evn):Nat->Cv
 |0=>Cz
 |k+1=>CR K (CE K E k) (atE E k)
theorem gdK (K:Kf):Gd K 0 Cz:=⟨rfl,⟨by decide,by simp⟩,fun h=>(by cases h),by decide,by decide,by decide⟩
theorem Yb {K:Kf} (h:KOK K) (E:List Evn):∀k:Nat,k<=140->Gd K k (CE K E k)
 |0,_=>gdK K
 |k+1,hk=>R9 h (Yb h E k (by omega)) (by omega) _
theorem Q9t {MS MA M3 M4 M5 M6 M7 M8 M9 M10:Fn} {K:Kf} {E:List Evn} (h:KOK K) (hE:E.length<=60) (hk:∀e∈E,e.kind<=6)
  (hA:∀k,MA [.view kPt (E.map evR),I k]=some [.view kPt ((atE E k).map evR)])
  (hS:∀(c:Cv) (n:Int) (E:List Evn),Gd K n c->0<=n/\n<=140->IF E->MS (.view kPt (E.map evR)::Ad K c)=some (tkC K c E++Ad K (CR K c E))) {n:Nat} (hn:1<=n/\n<=80):
  Out (fun o=>o.1=1/\∃(pul outs:Rw) (mode sp ft:Int),o.2= .view kPt (E.map evR)::I n::(E0 pul outs mode (AY K (CE K E n)) (DT K (CE K E n)) sp ft++Ad K (CE K E n)))
   (An (RR MS MA M3 M4 M5 M6 M7 M8 M9 M10) (.view kPt (E.map evR)::I n::I 0::(E0 [] [] 0 0 ⟨0,0,0⟩ 0 0++Ad K Cz))):=by
 refine CI (fun s:Nat×(Rw×Rw×Int×Int×Pt×Int×Int)=> .view kPt (E.map evR)::I n::I (s.1:Int)::(E0 s.2.1 s.2.2.1 s.2.2.2.1 s.2.2.2.2.1 s.2.2.2.2.2.1 s.2.2.2.2.2.2.1 s.2.2.2.2.2.2.2++Ad K (CE K E s.1)))
  (fun s=>s.1<=n/\(1<=s.1->s.2.2.2.2.1=AY K (CE K E s.1)/\s.2.2.2.2.2.1=DT K (CE K E s.1))) (fun s=>n-s.1) _ ?_ (0,([],[],0,0,⟨0,0,0⟩,0,0)) ⟨by simp,fun h=>by simp at h⟩
 rintro⟨k,pul,outs,mode,s,m,sp,ft⟩ ⟨h1,h2⟩
 dsimp only at h1 h2
 refine Out.eqv (Zlf MS MA M3 M4 M5 M6 M7 M8 M9 M10 (E.map evR) n k pul outs mode s m.x m.y m.z sp ft K (CE K E k)) ?_
 refine .cond (fun c=> ?_) fun c=> ?_
 ·have c:(k:Int)<(n:Int):=BA c
  have calm:IF (atE E k):=⟨by have:=On E k;omega,fun e he=>by have:=hk e (Sr he);omega⟩
  have sm:=Xc K (CE K E k) (atE E k)
  refine .bind (p:=fun o=>o=_) ⟨_,hA k,rfl⟩ fun o e=> ?_
  subst e
  refine .bind (p:=fun o=>o=_) ⟨_,hS (CE K E k) k (atE E k) (Yb h E k (by omega)) (by omega) calm,rfl⟩ fun o e=> ?_
  subst e
  rw[Ae (x:=(k:Int)+1) (by omega)]
  refine .some (.inl ⟨rfl,(k+1,Jk K (AT (Ct (CE K E k) (atE E k))) (AT (stC K (CE K E k) (atE E k)).2),(LA K (CE K E k) (atE E k)).map At,(stC K (CE K E k) (atE E k)).1,AY K (stC K (CE K E k) (atE E k)).2,DT K (stC K (CE K E k) (atE E k)).2,(stC K (CE K E k) (atE E k)).2.s3,(stC K (CE K E k) (atE E k)).2.g1),?_,⟨by dsimp only;omega,fun _=>⟨?_,?_⟩⟩,by dsimp only;omega⟩)
  ·show _=AC.view kPt (E.map evR)::I n::I ((k:Int)+1)::(tkC K (CE K E k) (atE E k)++Ad K (CR K (CE K E k) (atE E k)))
   unfold tkC
   generalize CR K (CE K E k) (atE E k)=d
   generalize stC K (CE K E k) (atE E k)=q
   generalize DT K q.2=mt
   rfl
  ·exact sm.1.symm
  ·exact sm.2.1.symm
 ·have c: ¬(k:Int)<(n:Int):=BD c
  have e:k=n:=by omega
  subst e
  obtain⟨e1,e2⟩:=h2 (by omega)
  refine .some (.inr ⟨by simp,rfl,pul,outs,mode,sp,ft,?_⟩)
  rw[<-e1,<-e2]
  try rfl
end Go.Bm
