/- The abstract machine, second form: what every seat's laws need. -/
import Derived.Test.YtommijghjlikkaaGreatBmCall
import Derived.Test.YtommijghjlikkaaGreatBmRow
set_option linter.unusedVariables false
set_option linter.unusedSimpArgs false
namespace Go.Bm
theorem S6:∀{l:List (Nat×Spec)} {k:Nat} {b:Spec},H2 l k=some b->(k,b)∈l
 |[],_,_,h=>by simp[H2]at h
 |(j,c)::l,k,b,h=>by
  simp only[H2]at h;cases hb:Nat.beq j k<;>rw[hb]at h
  ·simp only[cond_false]at h;exact List.mem_cons_of_mem _ (S6 h)
  ·simp at h;subst h;rw[Nat.eq_of_beq_eq_true hb];simp
def KF (P:Program) (f:FuncId):Bool:=match P.funcs[f]? with
 |some fn=> !(fn.name== "runtime.NumGoroutine")&&fn.body.isSome
 |none=>false
theorem Q5 {P:Program} {f:FuncId} (h:KF P f=true):P1 P f:=by
 unfold KF at h;split at h
 ·rename_i fn hf;simp only[Bool.and_eq_true,Bool.not_eq_true']at h;exact⟨fn,hf,h.1,by cases hb:fn.body<;>simp_all⟩
 ·cases h
def Al (P:Program) (p:Nat×Spec):Prop:=SpecRight P p.1 p.2
def AllOK (P:Program):List (Nat×Spec)->Prop
 |[]=>True
 |p::l=>Al P p/\AllOK P l
theorem AllOK.mem {P:Program}:∀{l:List (Nat×Spec)},AllOK P l->∀p∈l,Al P p
 |_::l,h,p,hp=>by
  rcases List.mem_cons.1 hp with rfl|hp
  ·exact h.1
  ·exact AllOK.mem h.2 p hp
theorem Ao {P:Program} {C:Cfg} {l:List (Nat×Spec)} (hC:C.spec=H2 l) (h:AllOK P l) (hro:C.ro=fun _=>false:=by rfl):Ai P C:=by
 refine⟨fun f g hg=> ?_,fun f g _ h=> ?_⟩
 ·rw[hC]at hg;exact h.mem _ (S6 hg)
 ·rw[hro]at h;cases h
def AllRo (rs:List Nat):List (Nat×Spec)->Prop
 |[]=>True
 |p::l=>(AK rs p.1=false\/Q0 p.2)/\AllRo rs l
theorem AllRo.mem {rs:List Nat}:∀{l:List (Nat×Spec)},AllRo rs l->∀p∈l,AK rs p.1=false\/Q0 p.2
 |_::l,h,p,hp=>by
  rcases List.mem_cons.1 hp with rfl|hp
  ·exact h.1
  ·exact AllRo.mem h.2 p hp
theorem GD {P:Program} {C:Cfg} {l:List (Nat×Spec)} {rs:List Nat} (hC:C.spec=H2 l) (h:AllOK P l) (hro:C.ro=fun f=>AK rs f) (h2:AllRo rs l):Ai P C:=by
 refine⟨fun f g hg=> ?_,fun f g hg hr=> ?_⟩
 ·rw[hC]at hg;exact h.mem _ (S6 hg)
 ·rw[hC]at hg;rw[hro]at hr;rcases h2.mem _ (S6 hg)with h|h
  ·dsimp only at h hr;rw[hr]at h;cases h
  ·exact h
theorem Ae {x:Int} (h: -9223372036854775808<=x/\x<=9223372036854775807):IntKind.i64.wrap x=x:=by
 simp[IntKind.wrap,IntKind.signed,IntKind.bits];omega
section loops
variable {step:List AC->Option (Nat×List AC)}
theorem Qzu:∀{n:Nat} {vars:List AC} {o:Nat×List AC},CW step n vars=some o->CW step (n+1) vars=some o
 |0,_,_,h=>by simp[CW]at h
 |n+1,vars,o,h=>by
  rw[CW]at h⊢;simp only[Option.bind_eq_some_iff]at h⊢;obtain⟨q,h1,h2⟩:=h;refine⟨q,h1,?_⟩;split at h2
  ·rename_i h0;rw[if_pos h0];exact Qzu h2
  ·rename_i h0;rw[if_neg h0];exact h2
theorem Qur {n m:Nat} {vars:List AC} {o:Nat×List AC} (hnm:n<=m) (h:CW step n vars=some o):CW step m vars=some o:=by
 induction hnm with
 |refl=>exact h
 |step _ ih=>exact Qzu ih
theorem Zb6 {n m:Nat} {vars:List AC} {o o':Nat×List AC} (h:CW step n vars=some o) (h':CW step m vars=some o'):o=o':=by
 have h1:=Qur (Nat.le_max_left n m) h;have h2:=Qur (Nat.le_max_right n m) h';rw[h1]at h2;simpa using h2
open Classical in
noncomputable def An (step:List AC->Option (Nat×List AC)) (vars:List AC):Option (Nat×List AC):=
 if h:∃n o,CW step n vars=some o then CW step (Classical.choose h) vars else none
theorem SE {vars:List AC} {o:Nat×List AC} (h:An step vars=some o):∃n,CW step n vars=some o:=by
 unfold An at h;split at h
 ·exact⟨_,h⟩
 ·simp at h
theorem Vh {n:Nat} {vars:List AC} {o:Nat×List AC} (h:CW step n vars=some o):An step vars=some o:=by
 unfold An;have hx:∃n o,CW step n vars=some o:=⟨n,o,h⟩;rw[dif_pos hx];obtain⟨o',ho'⟩:=Classical.choose_spec hx;rw[ho',Zb6 h ho']
theorem OT (vars:List AC):An step vars=(step vars).bind fun o=>if o.1=0 then An step o.2 else some o:=by
 cases hs:step vars with
 |none=>
  cases hl:An step vars with
  |none=>rfl
  |some o=>
   obtain⟨n,hn⟩:=SE hl;cases n with
   |zero=>simp[CW]at hn
   |succ n=>simp[CW,hs]at hn
 |some q=>
  simp only[Option.bind_some];by_cases h0:q.1=0
  ·rw[if_pos h0];cases hl:An step q.2 with
   |none=>
    cases hl2:An step vars with
    |none=>rfl
    |some o=>
     obtain⟨n,hn⟩:=SE hl2;cases n with
     |zero=>simp[CW]at hn
     |succ n=>
      simp only[CW,hs,Option.bind_some,if_pos h0]at hn;rw[Vh hn]at hl;cases hl
   |some o=>
    obtain⟨n,hn⟩:=SE hl;exact Vh (n:=n+1) (by simp only[CW,hs,Option.bind_some,if_pos h0];exact hn)
  ·rw[if_neg h0];exact Vh (n:=1) (by simp only[CW,hs,Option.bind_some,if_neg h0])
end loops
theorem Jo:∀(c:Code) (b blk:Nat) (body:Code),(blk,body)∈AH c b->(∀p∈AH body blk,p∈AH c b)/\(∀p∈AW body,p∈AW c)/\(∀p∈A2 body blk,p∈A2 c b)
 | .seq x y,b,blk,body,h=>by
  simp only[AH,List.mem_append]at h;rcases h with h|h
  ·obtain⟨h1,h2,h3⟩:=Jo x b blk body h;exact⟨fun p hp=>by simp[AH,h1 p hp],fun p hp=>by simp[AW,h2 p hp],fun p hp=>by simp[A2,h3 p hp]⟩
  ·obtain⟨h1,h2,h3⟩:=Jo y b blk body h;exact⟨fun p hp=>by simp[AH,h1 p hp],fun p hp=>by simp[AW,h2 p hp],fun p hp=>by simp[A2,h3 p hp]⟩
 | .cond c x y,b,blk,body,h=>by
  simp only[AH,List.mem_append]at h;rcases h with h|h
  ·obtain⟨h1,h2,h3⟩:=Jo x b blk body h;exact⟨fun p hp=>by simp[AH,h1 p hp],fun p hp=>by simp[AW,h2 p hp],fun p hp=>by cases c<;>simp[A2,h3 p hp]⟩
  ·obtain⟨h1,h2,h3⟩:=Jo y b blk body h;exact⟨fun p hp=>by simp[AH,h1 p hp],fun p hp=>by simp[AW,h2 p hp],fun p hp=>by cases c<;>simp[A2,h3 p hp]⟩
 | .block id x,b,blk,body,h=>by
  simp only[AH]at h;obtain⟨h1,h2,h3⟩:=Jo x b blk body h;exact⟨fun p hp=>by simp[AH,h1 p hp],fun p hp=>by simp[AW,h2 p hp],fun p hp=>by simp[A2,h3 p hp]⟩
 | .loop x,b,blk,body,h=>by
  simp only[AH,List.mem_cons,Prod.mk.injEq]at h;rcases h with⟨rfl,rfl⟩|h
  ·exact⟨fun p hp=>by rw[H1 _ _ b]at hp;simp[AH,hp],fun p hp=>by simp[AW,hp],fun p hp=>by rw[HN _ _ b]at hp;simp[A2,hp]⟩
  ·obtain⟨h1,h2,h3⟩:=Jo x b blk body h;exact⟨fun p hp=>by simp[AH,h1 p hp],fun p hp=>by simp[AW,h2 p hp],fun p hp=>by simp[A2,h3 p hp]⟩
 | .skip,_,_,_,h=>by simp[AH]at h
 | .region _ _ _,_,_,_,h=>by simp[AH]at h
 | .exit _,_,_,_,h=>by simp[AH]at h
 | .ret,_,_,_,h=>by simp[AH]at h
 | .rangeFunc _ _ _ _,_,_,_,h=>by simp[AH]at h
 | .scope x,b,blk,body,h=>by
  simp only[AH]at h;obtain⟨h1,h2,h3⟩:=Jo x b blk body h;exact⟨fun p hp=>by simp[AH,h1 p hp],fun p hp=>by simp[AW,h2 p hp],fun p hp=>by simp[A2,h3 p hp]⟩
 | .label _,_,_,_,h=>by simp[AH]at h
 | .goto _,_,_,_,h=>by simp[AH]at h
 | .refuse _,_,_,_,h=>by simp[AH]at h
theorem JJ:∀(c:Code) (b id:Nat) (body:Code),(id,body)∈AW c->(∀p∈AH body id,p∈AH c b)/\(∀p∈AW body,p∈AW c)/\(∀p∈A2 body id,p∈A2 c b)
 | .seq x y,b,id,body,h=>by
  simp only[AW,List.mem_append]at h;rcases h with h|h
  ·obtain⟨h1,h2,h3⟩:=JJ x b id body h;exact⟨fun p hp=>by simp[AH,h1 p hp],fun p hp=>by simp[AW,h2 p hp],fun p hp=>by simp[A2,h3 p hp]⟩
  ·obtain⟨h1,h2,h3⟩:=JJ y b id body h;exact⟨fun p hp=>by simp[AH,h1 p hp],fun p hp=>by simp[AW,h2 p hp],fun p hp=>by simp[A2,h3 p hp]⟩
 | .cond c x y,b,id,body,h=>by
  simp only[AW,List.mem_append]at h;rcases h with h|h
  ·obtain⟨h1,h2,h3⟩:=JJ x b id body h;exact⟨fun p hp=>by simp[AH,h1 p hp],fun p hp=>by simp[AW,h2 p hp],fun p hp=>by cases c<;>simp[A2,h3 p hp]⟩
  ·obtain⟨h1,h2,h3⟩:=JJ y b id body h;exact⟨fun p hp=>by simp[AH,h1 p hp],fun p hp=>by simp[AW,h2 p hp],fun p hp=>by cases c<;>simp[A2,h3 p hp]⟩
 | .block j x,b,id,body,h=>by
  simp only[AW,List.mem_cons,Prod.mk.injEq]at h;rcases h with⟨rfl,rfl⟩|h
  ·exact⟨fun p hp=>by rw[H1 _ _ b]at hp;simp[AH,hp],fun p hp=>by simp[AW,hp],fun p hp=>by rw[HN _ _ b]at hp;simp[A2,hp]⟩
  ·obtain⟨h1,h2,h3⟩:=JJ x b id body h;exact⟨fun p hp=>by simp[AH,h1 p hp],fun p hp=>by simp[AW,h2 p hp],fun p hp=>by simp[A2,h3 p hp]⟩
 | .loop x,b,id,body,h=>by
  simp only[AW]at h;obtain⟨h1,h2,h3⟩:=JJ x b id body h;exact⟨fun p hp=>by simp[AH,h1 p hp],fun p hp=>by simp[AW,h2 p hp],fun p hp=>by simp[A2,h3 p hp]⟩
 | .skip,_,_,_,h=>by simp[AW]at h
 | .region _ _ _,_,_,_,h=>by simp[AW]at h
 | .exit _,_,_,_,h=>by simp[AW]at h
 | .ret,_,_,_,h=>by simp[AW]at h
 | .rangeFunc _ _ _ _,_,_,_,h=>by simp[AW]at h
 | .scope x,b,id,body,h=>by
  simp only[AW]at h;obtain⟨h1,h2,h3⟩:=JJ x b id body h;exact⟨fun p hp=>by simp[AH,h1 p hp],fun p hp=>by simp[AW,h2 p hp],fun p hp=>by simp[A2,h3 p hp]⟩
 | .label _,_,_,_,h=>by simp[AW]at h
 | .goto _,_,_,_,h=>by simp[AW]at h
 | .refuse _,_,_,_,h=>by simp[AW]at h
structure FnOK (P : Program) (C : Cfg) (f : FuncId) : Prop where
 l:∀p∈HI P f,∀sk g,C.loops p.1=some (sk,g)->Iy P (.loop p.2) sk g
 b:∀p∈Jn P f,∀sk g,C.blocks p.1=some (sk,g)->Iy P (.block p.1 p.2) sk g
 c:∀p∈Rc P f,∀sk g,C.conds p.1=some (sk,g)->Iy P (.cond (.tmp p.1) p.2.2.1 p.2.2.2) sk g
theorem FnOK.bare {P:Program} {C:Cfg} {f:FuncId} (h1:C.loops=fun _=>none) (h2:C.blocks=fun _=>none) (h3:C.conds=fun _=>none):FnOK P C f:=
 ⟨fun p _ sk g h=>by simp[h1]at h,fun p _ sk g h=>by simp[h2]at h,fun p _ sk g h=>by simp[h3]at h⟩
theorem FnOK.sub {P:Program} {C:Cfg} {f:FuncId} (h:FnOK P C f) {c:Code} (hc:JL P f=some c):SubOK P C c 0:=
 ⟨fun p hp=>h.l p (by unfold HI;rw[hc];exact hp),fun p hp=>h.b p (by unfold Jn;rw[hc];exact hp),fun p hp=>h.c p (by unfold Rc;rw[hc];exact hp)⟩
theorem Zam {P:Program} {f blk:Nat} {c:Code} (h:Ab (HI P f) blk=some c):AO P f blk=c:=by unfold AO;rw[h]
theorem RE {α:Type}:∀{l:List (Nat×α)} {k:Nat} {b:α},BF (l.map (·.1))=true->(k,b)∈l->Ab l k=some b
 |[],_,_,_,h=>by simp at h
 |(j,c)::l,k,b,hd,h=>by
  have hd':=HW.1 hd;simp only[List.map_cons,List.nodup_cons]at hd';simp only[Ab];rcases List.mem_cons.1 h with h|h
  ·simp at h;obtain⟨rfl,rfl⟩:=h;simp
  ·have:j≠k:=by rintro rfl;exact hd'.1 (List.mem_map.2 ⟨(j,b),h,rfl⟩)
   rw[JY this];exact RE (HW.2 hd'.2) h
theorem FnOK.subLoop {P:Program} {C:Cfg} {f:FuncId} (h:FnOK P C f) {blk:Nat} {body:Code} (hm:(blk,body)∈HI P f):SubOK P C body blk:=by
 unfold HI at hm;split at hm
 ·rename_i c hc;obtain⟨h1,h2,h3⟩:=Jo c 0 blk body hm;exact⟨fun p hp=>h.l p (by unfold HI;rw[hc];exact h1 p hp),fun p hp=>h.b p (by unfold Jn;rw[hc];exact h2 p hp),fun p hp=>h.c p (by unfold Rc;rw[hc];exact h3 p hp)⟩
 ·simp at hm
theorem FnOK.subBlock {P:Program} {C:Cfg} {f:FuncId} (h:FnOK P C f) {id:Nat} {body:Code} (hm:(id,body)∈Jn P f):SubOK P C body id:=by
 unfold Jn at hm;split at hm
 ·rename_i c hc;obtain⟨h1,h2,h3⟩:=JJ c 0 id body hm;exact⟨fun p hp=>h.l p (by unfold HI;rw[hc];exact h1 p hp),fun p hp=>h.b p (by unfold Jn;rw[hc];exact h2 p hp),fun p hp=>h.c p (by unfold Rc;rw[hc];exact h3 p hp)⟩
 ·simp at hm
theorem FnOK.loop {P:Program} {C:Cfg} {f:FuncId} (h:FnOK P C f) (hspec:Ai P C) (hok:∀t∈C.eqOk,P.stoodInHeld t=false) (hmix:P.follows .mixedOrders=true) {L blk:Nat} {sk:Sk} {exits:List (Ex×Sk)}
  (hd:BF ((HI P f).map (·.1))=true) (hsk:sk.okB=true):FnOK P (C.loop blk sk exits (An (AN P C L blk (AO P f blk) sk exits))) f:=by
 refine⟨fun p hp sk' g hg=> ?_,h.b,h.c⟩;simp only[Cfg.loop]at hg;cases hb:Nat.beq p.1 blk<;>rw[hb]at hg
 ·exact h.l p hp sk' g hg
 ·have e:=Nat.eq_of_beq_eq_true hb;subst e;simp only[cond_true,Option.some.injEq,Prod.mk.injEq]at hg;obtain⟨rfl,rfl⟩:=hg;have hbody:=Zam (RE (k:=p.1) (b:=p.2) hd hp);rw[hbody];exact Zd6 hspec hok hmix hsk (h.subLoop hp) fun vars o ho=>SE ho
theorem FnOK.block {P:Program} {C:Cfg} {f:FuncId} (h:FnOK P C f) (hspec:Ai P C) (hok:∀t∈C.eqOk,P.stoodInHeld t=false) (hmix:P.follows .mixedOrders=true) {L id:Nat} {sk:Sk} {exits:List (Ex×Sk)}
  (hd:BF ((Jn P f).map (·.1))=true):FnOK P (C.block id sk exits (Q5b P C L id (Qmp P f id) sk exits)) f:=by
 refine⟨h.l,fun p hp sk' g hg=> ?_,h.c⟩;simp only[Cfg.block]at hg;cases hb:Nat.beq p.1 id<;>rw[hb]at hg
 ·exact h.b p hp sk' g hg
 ·have e:=Nat.eq_of_beq_eq_true hb;subst e;simp only[cond_true,Option.some.injEq,Prod.mk.injEq]at hg;obtain⟨rfl,rfl⟩:=hg;have hbody:Qmp P f p.1=p.2:=by unfold Qmp;rw[RE (k:=p.1) (b:=p.2) hd hp]
  rw[hbody];exact Zjw hspec hok hmix (h.subBlock hp) fun vars o ho=>ho
theorem Qc4 {P:Program} {C:Cfg} {f:FuncId} {L:Nat} {sig osig:Sk} (hc:KF P f=true) (h:FnOK P C f) (hspec:Ai P C) (hok:∀t∈C.eqOk,P.stoodInHeld t=false) (hmix:P.follows .mixedOrders=true)
  (h1:sig.okB=true) (h2:osig.okB=true):Al P (f,Ac sig osig (Am P C L f sig osig)):=
 Zpi hspec hok hmix (Q5 hc) h1 h2 (fun _ hcode=>h.sub hcode) fun _ _ ho=>ho
theorem Zgk {P:Program} {C:Cfg} {f:FuncId} {L:Nat} {sig osig:Sk} (_:KF P f=true) (h:FnOK P C f) (hspec:Ai P C) (hok:∀t∈C.eqOk,P.stoodInHeld t=false) (hmix:P.follows .mixedOrders=true)
  (h1:sig.okB=true) (h2:osig.okB=true) (args:List TV) (v:TV) (mem':Mem) (hrun:(Ac sig osig (Am P C L f sig osig) (TV×Mem) args ⟨[],[]⟩ fun v m=>some (v,m))=some (v,mem')):PCallM P f args ⟨[],[]⟩ v mem':=
 Qrq hspec hok hmix h1 h2 (fun _ hcode=>h.sub hcode) (fun _ _ ho=>ho) hrun
theorem Zm1 {P:Program} {f:FuncId} {sig osig:Sk}:Al P (f,Ac sig osig fun _=>none):=by
 refine⟨V6,fun args mem v mem' h=> ?_⟩;obtain⟨boxes,rows⟩:=mem;simp only[Ac]at h;obtain⟨_,h⟩:=BQ h;split at h
 ·simp at h
 ·simp at h
section
variable {H α:Type}
theorem Zkz (F G:List (DataW H)->α) (h:∀a b c d e,F [a,b,c,d,e]=G [a,b,c,d,e]) (l:List (DataW H)) (hl:l.length=5):F l=G l:=by
 match l,hl with
 |[a,b,c,d,e],_=>exact h a b c d e
end
theorem PW {l:List Ar} {s:Bool×List Kd} {shs:List (Bool×List Kd)} (h:l.map Ar.sh=s::shs):∃a l',l=a::l'/\a.agg=s.1/\a.ks=s.2/\l'.map Ar.sh=shs:=by
 cases l with
 |nil=>simp at h
 |cons a l'=>
  simp only[List.map_cons,List.cons.injEq]at h;refine⟨a,l',rfl,?_,?_,h.2⟩
  ·rw[<-h.1];rfl
  ·rw[<-h.1];rfl
theorem Zvy {l:List Ar} (h:l.map Ar.sh=[]):l=[]:=by
 cases l with
 |nil=>rfl
 |cons a l'=>simp at h
end Go.Bm
