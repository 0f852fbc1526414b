/- laid together -/
import Derived.Test.YtommijghjlikkaaGreatPrJi
import Derived.Test.YtommijghjlikkaaGreatPrI
set_option linter.unusedVariables false
set_option linter.unusedSimpArgs false
/- the law ControllerPower over the models -/
set_option maxRecDepth 100000
noncomputable section
namespace Go.Bm

theorem Q1k {MS MA MM MN MC ME MI MQ MF MW:Fn} {K:Kf} {E:List Evn} {x0 x1 x2 x3:Rw} {x4:Int} (hE:E.length<=60)
  (hW:MW []=some [B true]) {q:Bool} (hF:MF [.view Aa x0, .view Aa x1, .view Aa x2, .view Aa x3]=some [B q])
  (hyp : q = true -> KOK K /\ MQ [.view Aa x1, .view Aa x2] = some (AJ K.x ++ [I K.pa, I K.pb, I K.pc, I K.ramp, I K.lag]) /\ MI [.view Aa x0, I 6, B true] = some [.view Ak (K.items.map Ag)] /\
   ME [.view Aa x3]=some [.view kPt (E.map evR)]/\MC [.view kPt (E.map evR)]=some [.view kPt ((E.filter fun e=>decide (e.kind<=6)).map evR)]/\
   MN (AJ K.x++[I K.pa,I K.pb,I K.pc,I K.ramp,I K.lag]++[.view Ak (K.items.map Ag),B true])=some (I 0::Ad K Cz)/\MM [I x4,I 80]=some [I (x4%80)])
  (hA:∀(E:List Evn) (k:Int),E.length<=60->MA [.view kPt (E.map evR),I k]=some [.view kPt ((atE E k).map evR)])
  (hS:KOK K->∀(c:Cv) (n:Int) (E:List Evn),Gd K n c->0<=n/\n<=140->IF E->MS (.view kPt (E.map evR)::Ad K c)=some (tkC K c E++Ad K (CR K c E))):
  Qb7 MS MA MM MN MC ME MI MQ MF MW (An (RR MS MA MM MN MC ME MI MQ MF MW)) [.view Aa x0, .view Aa x1, .view Aa x2, .view Aa x3,I x4]=some [B true]:=by
 rw[Zwf]
 refine eB hW (eF rfl (eB hF ?_))
 cases q
 ·rfl
 obtain⟨h,hQ,hI,hV,hC,hN,hM⟩:=hyp rfl
 have hS:=hS h
 refine eF rfl (eB hQ (eB hI (eB hV (eB hC ?_))))
 generalize hcalm:(E.filter fun e=>decide (e.kind<=6))=F at*
 have hlen:F.length<=60:=by rw[<-hcalm];exact Nat.le_trans (List.length_filter_le _ _) hE
 have hk:∀e∈F,e.kind<=6:=fun e he=>by rw[<-hcalm]at he;exact of_decide_eq_true (List.mem_filter.1 he).2
 refine eB hN (eF rfl (eB hM ?_))
 have hm:0<=x4%80/\x4%80<80:=⟨Int.emod_nonneg _ (by decide),Int.emod_lt_of_pos _ (by decide)⟩
 obtain⟨n,hn⟩:∃n:Nat,1+x4%80=n:=⟨(1+x4%80).toNat,by omega⟩
 have hw:IntKind.i64.wrap (1+gA [I (x4%80)] 0)=n:=by
  show IntKind.i64.wrap (1+x4%80)=n
  rw[Ae (by omega),hn]
 rw[hw]
 obtain⟨⟨o1,o2⟩,hl,ho1,pul,outs,mode,sp,ft,ho2⟩:=Q9t (M3:=MM) (M4:=MN) (M5:=MC) (M6:=ME) (M7:=MI) (M8:=MQ) (M9:=MF) (M10:=MW) h hlen hk (fun k=>hA F k hlen) hS (n:=n) (by omega)
 dsimp only at ho1 ho2
 subst ho1 ho2
 refine eB hl (eT rfl (eB (hA F (IntKind.i64.wrap ((n:Int)+0)) hlen) (eT (CB ?_) ?_)))
 ·show([[I 0,I 10,I 0]]++(atE F (IntKind.i64.wrap ((n:Int)+0))).map evR).length*24<=140737488355328
  have:=On F (IntKind.i64.wrap ((n:Int)+0))
  simp only[List.length_append,List.length_map,List.length_cons,List.length_nil];omega
 have g:=Yb h F n (by omega)
 generalize CE K F n=c at*
 have al:=On F (IntKind.i64.wrap ((n:Int)+0))
 have am:∀e∈atE F (IntKind.i64.wrap ((n:Int)+0)),e.kind<=6:=fun e he=>hk e (Sr he)
 generalize atE F (IntKind.i64.wrap ((n:Int)+0))=G at*
 have hkE:∀e∈((⟨0,10,0⟩:Evn)::G),e.kind<=6\/e.kind=10:=fun e he=>by
  rcases List.mem_cons.1 he with rfl|he
  ·exact .inr rfl
  ·exact .inl (am e he)
 have calm:IF ((⟨0,10,0⟩:Evn)::G):=⟨by simp;omega,fun e he=>by have:=hkE e he;omega⟩
 have ls:=Qs1 g (by omega) hkE (.inr ⟨⟨0,10,0⟩,by simp,rfl⟩)
 have sm:=Xc K c ((⟨0,10,0⟩:Evn)::G)
 have gs:=R9 h g (by omega) ((⟨0,10,0⟩:Evn)::G)
 refine eB (hS c n ((⟨0,10,0⟩:Evn)::G) g (by omega) calm) ?_
 have ep:AY K (stC K c ((⟨0,10,0⟩:Evn)::G)).2=AY K c:=by
  show Bn K.t (AT _)=Bn K.t (AT c)
  rw[ls.2.2.1]
 have em:DT K (stC K c ((⟨0,10,0⟩:Evn)::G)).2=DT K c:=by
  show Hk K.p K.x K.t (AT _)=Hk K.p K.x K.t (AT c)
  rw[ls.2.2.1]
 have e1:tkC K c ((⟨0,10,0⟩:Evn)::G)=E0 [] ((LA K c ((⟨0,10,0⟩:Evn)::G)).map At) 6 (AY K c) (DT K c) (stC K c ((⟨0,10,0⟩:Evn)::G)).2.s3 22:=by
  unfold tkC
  rw[ep,em,ls.1,ls.2.2.2,ls.2.2.1,Q6k h,ls.2.1.2]
 rw[e1]
 have fin:=Zga (MS:=MS) (MA:=MA) (nn:=n) (z:= .view kPt (F.map evR)::I n::(E0 pul outs mode (AY K c) (DT K c) sp ft++Ad K c)) h hlen hk ⟨pul,outs,mode,sp,ft,c,rfl⟩ (fun k=>hA F k hlen) hS 19 (IntKind.i64.wrap (0+1)) (CR K c ((⟨0,10,0⟩:Evn)::G)) (n+1)
  (E0 [] ((LA K c ((⟨0,10,0⟩:Evn)::G)).map At) 6 (AY K c) (DT K c) (stC K c ((⟨0,10,0⟩:Evn)::G)).2.s3 22++Ad K (CR K c ((⟨0,10,0⟩:Evn)::G))) gs (by omega) (by omega) ⟨by rw[sm.2.2.1];exact ls.2.1.1,by rw[sm.2.2.2.1];exact ls.2.1.2⟩ (by rw[sm.1];exact ep) (by rw[sm.2.1];exact em) ⟨_,rfl,rfl⟩
 refine Eq.trans ?_ fin
 generalize DT K c=m
 exact eF (by show(!(m.x==m.x&&(m.y==m.y&&(m.z==m.z&&true))))=false;simp) (eF rfl (eF rfl (eF rfl (eF (by show(AY K c !=AY K c)=false;simp) rfl))))
theorem Zqy {x0 x1 x2:Rw} (h0:Src x0) (h1:Src x1) (h2:Src x2) (hl:x2.length<=100000) {most:Int} (hm:most<=12) (fin:Bool) (closed:Bool):
  ∃K:Kf,KOK K/\Ls [.view Aa x1, .view Aa x2]=some (AJ K.x++[I K.pa,I K.pb,I K.pc,I K.ramp,I K.lag])/\Lr [.view Aa x0,I most,B fin]=some [.view Ak (K.items.map Ag)]/\
   H8 (AJ K.x++[I K.pa,I K.pb,I K.pc,I K.ramp,I K.lag]++[.view Ak (K.items.map Ag),B closed])=some (I 0::Ad K Cz):=by
 obtain⟨x,a,b,c,ramp,lag,hQ,hM⟩:=Zjh h1 h2 hl
 obtain⟨p,items,hI,hit,hlen,-⟩:=Zbv h0 (most:=most) (by omega) fin
 have hn:=Qhs hM (items:=items) (by omega) hit closed
 exact⟨kfP x a b c ramp lag items closed,hn.2,hQ,hI,hn.1⟩
theorem Q6v {x0 x1 x2 x3:Rw} {x4:Int} (h0:Src x0) (h1:Src x1) (h2:Src x2) (h3:Src x3) (h4:i64 x4):
  Qt3 [.view Aa x0, .view Aa x1, .view Aa x2, .view Aa x3,I x4]=some [B true]:=by
 obtain⟨q,hF,hq⟩:=Zyv x0 x1 x2 x3
 cases q
 ·exact Q1k (K:=kX []) (E:=[]) (MS:=Ib) (MA:=Ld) (by simp) Q4h hF (fun h=>by cases h) (fun E k hE=>Qz3 (by omega) k) (fun h c n E g hn hE=>PD h g hn hE)
 ·obtain⟨l0,l1,l2,l3⟩:=hq rfl
  obtain⟨K,hK,hQ,hI,hN⟩:=Zqy h0 h1 h2 (by omega) (most:=6) (by omega) true true
  obtain⟨E,hV,hE,-⟩:=Zyo h3 l3
  exact Q1k (K:=K) (E:=E) hE Q4h hF (fun _=>⟨hK,hQ,hI,hV,Zue (by omega),hN,Q41 h4 (by omega)⟩) (fun E k hE=>Qz3 (by omega) k) (fun h c n E g hn hE=>PD h g hn hE)
end Go.Bm
/- what a law's arguments are known to be -/
set_option maxRecDepth 100000
namespace Go.Bm

theorem Q5m {r:List AC} (h:okR Aa r):i64 (Af (nth .dead r 0)):=by
 match r,h with
 |[],h=>exact h.elim
 |a::_,h=>exact Q82 h.1
theorem Se {r:List AC} (h:okR [Kd.sl Aa] r):Src (Br (nth .dead r 0)):=by
 match r,h with
 |[],h=>exact h.elim
 |a::_,h=>
  have h1:=h.1
  unfold okC at h1
  refine⟨?_,fun c hc=>Q5m (h1.2 c hc).1⟩
  have h2:=h1.1
  simp only[maxLen]at h2
  show(Br a).length<=_
  omega
end Go.Bm
