/- the abstract machine -/
import Derived.Test.YtnnpdlgenmnekaaGreatDoorBmFz
import Derived.ArgAppend
import Derived.LoopN
set_option linter.unusedVariables false
set_option linter.unusedSimpArgs false
namespace Go.Bm
open Go.RowKit
section
variable {P:Program} {C:Cfg} {ρ:Env} {w:World} {R:Type} {Z:Base} {tm:List TV} {aB:List (Nat×Box)} {aC:List (Nat×Row)} {tmps:Array Value}
theorem Jz:∀{l:List (Nat×Nat)} {cs:List AC},Dx l cs=true->cs=Em l
 |[],[],_=>rfl
 |(k,o)::l,a::cs,h=>by
  cases a<;>simp only[Dx]at h<;>try (simp at h;done)
  simp only[af]at h;rw[ab h.1.1,ab h.1.2,Jz h.2];rfl
 |[],_::_,h=>by grind [Dx]
 |_::_,[],h=>by grind [Dx]
structure Built (aC : List (Nat × Row)) (rl : Nat -> Nat) : Prop where
 rl:∀id r,Aa aC id=some r->rl id=r.l.length
def Seg (l:List AC) (i:Nat) (v:List AC):Prop:=∀j,j<v.length->nth .vD l (i+j)=nth .vD v j
theorem Seg.left {l:List AC} {i:Nat} {v u:List AC} (h:Seg l i (v++u)):Seg l i v:=λj A=>by
 rw[h j (by grind),Au,Au,List.getD,List.getD,List.getElem?_append_left A]
theorem Seg.right {l:List AC} {i:Nat} {v u:List AC} (h:Seg l i (v++u)):Seg l (i+v.length) u:=λj A=>by
 rw[dv,h (v.length+j) (by grind),Au,Au,List.getD,List.getD,dk (by omega)];simp
theorem Seg.one {l:List AC} {i:Nat} {a:AC} (h:Seg l i [a]):nth .vD l i=a:=h 0 (by simp)
theorem Seg.all (l:List AC):Seg l 0 l:=λj _=>by simp
theorem T4 {rl:Nat->Nat} (E:Built aC rl) {c:CS} {a:AC} {v:List AC} (h:ES c a=some v) {l:List AC} {i:Nat} (D:Seg l i v):
  (BK rl l c i).2=i+v.length/\∀x,AC.wf aB aC a->CC ρ w a x->CC ρ w (BK rl l c i).1 x:=by
 cases c<;>cases a<;>simp only[ES]at h<;>try (simp at h;done)
 case any.vD=>simp at h;subst h;exact⟨rfl,λx _ h=>h.one⟩
 case any.int=>simp at h;subst h;exact⟨rfl,λx _ h=>h.one⟩
 case any.bool=>simp at h;subst h;exact⟨rfl,λx _ h=>h.one⟩
 case any.raw=>simp at h;subst h;exact⟨rfl,λx _ h=>h.one⟩
 case any.nilSl=>simp at h;subst h;exact⟨rfl,λx _ h=>h.one⟩
 case any.ptr=>simp at h;subst h;exact⟨rfl,λx _ h=>h.one⟩
 case any.own=>simp at h;subst h;exact⟨rfl,λx _ h=>h.one⟩
 case any.vC=>simp at h;subst h;exact⟨rfl,λx _ h=>h.one⟩
 case any.rptr=>simp at h;subst h;exact⟨rfl,λx _ h=>h.one⟩
 case any.vptr=>simp at h;subst h;exact⟨rfl,λx _ h=>h.one⟩
 case any.clo=>simp at h;subst h;exact⟨rfl,λx _ h=>h.one⟩
 case any.bsl=>simp at h;subst h;exact⟨rfl,λx _ h=>h.one⟩
 case int.int k k' n=>
  cases A:kEq k k'<;>rw[A]at h
  ·grind
  ·simp at h;subst h;rw[<-Fb A];simp[BK,Ad,D.one]
 case bool.bool b=>
  simp at h;subst h;simp[BK,Ci,D.one]
 case sl.nilSl ks=>
  simp at h;subst h;simp[CC,CP,BK,Aq,D.one]
 case sl.vC ks G l=>
  cases A:AV ks G<;>rw[A]at h
  ·grind
  ·simp at h;subst h;rw[<-Dd A];simp[BK,Aq,D.one]
 case rawc.raw v=>
  simp at h;subst h;refine⟨rfl,λx _ h=> ?_⟩;simp only[BK,D.one];exact h
 case str.raw v=>
  cases v<;>try (simp[ES]at h;done)
  simp at h;subst h;simp[BK,Ah,D.one]
 case nil.nilSl=>simp at h;subst h;exact⟨rfl,λx _ h=>h⟩
 case nilp.raw v=>
  cases v<;>try (simp[ES]at h;done)
  rename_i q;cases q<;>simp[ES]at h
  subst h;exact⟨rfl,λx _ h=>h⟩
 case ptr.ptr k o k' J=>
  cases A:(Nat.beq k k'&&Nat.beq o J)<;>rw[A]at h
  ·grind
  ·simp at h;subst h;simp only[af]at A;rw[<-ab A.1,<-ab A.2];exact⟨rfl,λx _ h=>h⟩
 case bsl.bsl k o k' J=>
  cases A:(Nat.beq k k'&&Nat.beq o J)<;>rw[A]at h
  ·grind
  ·simp at h;subst h;simp only[af]at A;rw[<-ab A.1,<-ab A.2];exact⟨rfl,λx _ h=>h⟩
 case own.own id wd id' L n=>
  cases A:(Nat.beq id id'&&Nat.beq wd L)<;>rw[A]at h
  ·grind
  ·simp at h;subst h;simp only[af]at A;rw[<-ab A.1,<-ab A.2];refine⟨rfl,λx Q h=> ?_⟩;obtain⟨r,h1,h2,h3⟩:=Q;show CC ρ w (.own id wd (rl id)) x;rw[E.rl id r h1]
   grind
 case clo.clo f fs cs S N O=>
  cases A:(Nat.beq f S&&Dx fs N&&Dx cs O)<;>rw[A]at h
  ·grind
  ·simp at h;subst h;simp only[af]at A;rw[<-ab A.1.1,Jz A.1.2,Jz A.2];exact⟨rfl,λx _ h=>h⟩
theorem GF {rl:Nat->Nat} (A:Built aC rl) {l:List AC}:∀{cs:List CS} {as:List AC} {v:List AC},Dk cs as=some v->∀{i},Seg l i v->
  (Bx rl l cs i).2=i+v.length/\(Bx rl l cs i).1.length=as.length/\∀xs,(∀a∈as,AC.wf aB aC a)->CL (CC ρ w) as xs->CL (CC ρ w) (Bx rl l cs i).1 xs
 |[],[],v,h,i,_=>by simp[Dk]at h;subst h;exact⟨rfl,rfl,λxs _ h=>h⟩
 |c::cs,a::as,v,h,i,E=>by
  simp only[Dk]at h;split at h
  ·rename_i L h1;split at h
   ·rename_i N h2;simp at h;subst h;obtain⟨q1,q2⟩:=T4 (ρ:=ρ) (w:=w) (aB:=aB) A h1 E.left;obtain⟨O,Q,J⟩:=GF A h2 E.right;simp only[Bx];generalize hb:BK rl l c i=q at q1 q2;obtain⟨b,S⟩:=q;simp only at q1 q2;subst q1;refine⟨by grind,by grind,λxs G D=> ?_⟩;cases xs with
    |nil=>exact D.elim
    |cons x xs=>exact⟨q2 x (G a (by simp)) D.1,J xs (λb hb=>G b (by grind)) D.2⟩
   grind
  grind
 |[],_::_,v,h,_,_=>by grind [Dk]
 |_::_,[],v,h,_,_=>by grind [Dk]
theorem L_ {rl:Nat->Nat} (A:Built aC rl) {l:List AC}:∀{ps:List (Bool×List CS)} {E:List (Bool×List AC)} {v:List AC},Ep ps E=some v->∀{i},Seg l i v->
  (Cs rl l ps i).2=i+v.length/\∀xs,(∀p∈E,∀a∈p.2,AC.wf aB aC a)->TP ρ w E xs->TP ρ w (Cs rl l ps i).1 xs
 |[],[],v,h,i,_=>by simp[Ep]at h;subst h;exact⟨rfl,λxs _ h=>h⟩
 |(g,cs)::ps,(N,as)::E,v,h,i,O=>by
  simp only[Ep]at h;cases Q:(g==N)<;>rw[Q]at h
  ·grind
  ·simp only[ac]at h;have G:g=N:=by simpa using Q
   subst G;split at h
   ·rename_i V h1;split at h
    ·rename_i X h2;simp at h;subst h;obtain⟨q1,S,q2⟩:=GF (ρ:=ρ) (w:=w) (aB:=aB) A h1 O.left;obtain⟨Y,U⟩:=L_ A h2 O.right;simp only[Cs];generalize hb:Bx rl l cs i=q at q1 q2 S;obtain⟨b,i'⟩:=q;simp only at q1 q2 S;subst q1;refine⟨by grind,λxs T J=> ?_⟩;cases xs with
     |nil=>exact J.elim
     |cons x xs=>
      refine⟨?_,U xs (λp hp=>T p (by grind)) J.2⟩;have L:=J.1;have D:=T (g,as) (by simp);cases g
      ·obtain⟨a,e1,e2⟩:=L;dsimp only at e1 D;subst e1;have:=q2 [x] D ⟨e2,trivial⟩;cases b with
       |nil=>grind
       |cons c b=>
        cases b with
        |nil=>exact⟨c,rfl,this.1⟩
        |cons=>grind
      grind
    grind
   grind
 |[],_::_,v,h,_,_=>by grind [Ep]
 |(_,_)::_,[],v,h,_,_=>by grind [Ep]
theorem Tq {rl:Nat->Nat} (A:Built aC rl) {t:TS} {u:TV} {v:List AC} (h:DD t u=some v) {l:List AC} {i:Nat} (J:Seg l i v):
  (CN rl l t i).2=i+v.length/\∀x,TV.wf aB aC u->TVR ρ w u x->TVR ρ w (CN rl l t i).1 x:=by
 cases t with
 |vD=>simp[DD]at h;subst h;exact⟨rfl,λ_ _ _=>trivial⟩
 |v g cs=>
  cases u with
  |vD=>grind [DD]
  |tup=>grind [DD]
  |v L as=>
   simp only[DD]at h;cases N:(g==L)<;>rw[N]at h
   ·grind
   ·simp only[ac]at h;have E:g=L:=by simpa using N
    subst E;obtain⟨q1,O,q2⟩:=GF (ρ:=ρ) (w:=w) (aB:=aB) A h J;simp only[CN];generalize hb:Bx rl l cs i=q at q1 q2 O;obtain⟨b,S⟩:=q;simp only at q1 q2 O;refine⟨q1,λx D Q=> ?_⟩;cases g
    ·obtain⟨a,rfl,e2⟩:=Q;have:=q2 [x] D ⟨e2,trivial⟩;cases b with
     |nil=>grind
     |cons c b=>
      cases b with
      |nil=>exact⟨c,rfl,this.1⟩
      |cons=>grind
    ·obtain⟨G,rfl,e2⟩:=Q;exact⟨G,rfl,q2 _ D e2⟩
 |tup ps=>
  cases u with
  |vD=>grind [DD]
  |v=>grind [DD]
  |tup T=>
   simp only[DD]at h;obtain⟨q1,q2⟩:=L_ (ρ:=ρ) (w:=w) (aB:=aB) A h J;simp only[CN];generalize hb:Cs rl l ps i=q at q1 q2;obtain⟨b,S⟩:=q;simp only at q1 q2;exact⟨q1,λx D ⟨G,e1,e2⟩=>⟨G,e1,q2 _ D e2⟩⟩
theorem MS {rl:Nat->Nat} (A:Built aC rl) {l:List AC}:∀{D:List TS} {E:List TV} {v:List AC},DU D E=some v->∀{i},Seg l i v->
  (B3 rl l D i).2=i+v.length/\(B3 rl l D i).1.length=E.length/\∀(n:Nat) (b:TV),(B3 rl l D i).1[n]? =some b->∃u,E[n]? =some u/\∀x,TV.wf aB aC u->TVR ρ w u x->TVR ρ w b x
 |[],[],v,h,i,_=>by simp_all [DU,B3]
 |t::D,u::E,v,h,i,G=>by
  simp only[DU]at h;split at h
  ·rename_i J h1;split at h
   ·rename_i L h2;simp at h;subst h;obtain⟨q1,q2⟩:=Tq (ρ:=ρ) (w:=w) (aB:=aB) A h1 G.left;obtain⟨N,O,Q⟩:=MS A h2 G.right;simp only[B3]
    grind
   grind
  grind
 |[],_::_,v,h,_,_=>by grind [DU]
 |_::_,[],v,h,_,_=>by grind [DU]
theorem LX {rl:Nat->Nat} (E:Built aC rl) {l:List AC}:∀{bs:List (Nat×TypeId×List CS)} {v:List AC},Fe bs aB=some v->∀{i},Seg l i v->
  ∀k b,Aa (B8 rl l bs i) k=some b->k∈bs.map (·.1)/\∃D,Aa aB k=some D/\b.ty=D.ty/\∀xs,(∀a∈D.cells,AC.wf aB aC a)->CL (CC ρ w) D.cells xs->CL (CC ρ w) b.cells xs
 |[],v,h,i,_,k,b,A=>by grind [B8,Aa]
 |(j,t,cs)::bs,v,h,i,J,k,b,A=>by
  simp only[Fe]at h;split at h
  ·rename_i D N;cases O:Nat.beq t D.ty<;>rw[O]at h
   ·grind
   ·simp only[ac]at h;split at h
    ·rename_i Q h1;split at h
     ·rename_i S h2;simp at h;subst h;obtain⟨q1,L,q2⟩:=GF (ρ:=ρ) (w:=w) (aB:=aB) E h1 J.left;simp only[B8]at A;generalize hb:Bx rl l cs i=q at q1 q2 L A;obtain⟨c,T⟩:=q;simp only at q1 q2 L A;subst q1;simp only[Aa]at A;cases G:Nat.beq j k<;>rw[G]at A
      ·obtain⟨U,V⟩:=LX E h2 J.right k b A
       grind
      grind [Nat.eq_of_beq_eq_true]
     grind
    grind
  grind
theorem JD {l:List AC}:∀{rs:List (Nat×TypeId×List Kd)} {v:List AC},E5 rs aC=some v->∀{i},Seg l i v->
  (Do l rs i).2=i+v.length/\(∀id r,Aa (Do l rs i).1 id=some r->Aa aC id=some r)/\∀id t ks,Aa rs id=some (t,ks)->∃r,Aa (Do l rs i).1 id=some r/\r.ks=ks
 |[],v,h,i,_=>by simp_all [E5,Do,Aa]
 |(k,t,ks)::rs,v,h,i,L=>by
  simp only[E5]at h;split at h
  ·rename_i r N;cases hb:(Nat.beq t r.ty&&AV ks r.ks)<;>rw[hb]at h
   ·grind
   ·simp only[ac]at h;simp only[af]at hb;split at h
    ·rename_i O E;simp at h;subst h;have D:Seg l i ([.vC ks r.l]++O):=L;obtain⟨q1,q2,G⟩:=JD E (i:=i+1) D.right;simp only[Do,D.left.one,Aq];generalize hB:Do l rs (i+1)=q at q1 q2 G;obtain⟨B,S⟩:=q;simp only at q1 q2 G;refine⟨by grind,λid r' A=> ?_,λid T Q A=> ?_⟩
     ·simp only[Aa]at A;cases J:Nat.beq k id<;>rw[J]at A
      ·grind
      ·have:=ab J;subst this;simp at A;subst A;rw[N,ab hb.1,Dd hb.2]
     ·simp only[Aa]at A⊢
      grind
    grind
  grind
section names
variable {keys:List Nat} {rs:List (Nat×TypeId×List Kd)} {B':List (Nat×Box)} {R':List (Nat×Row)} {rl:Nat->Nat}
theorem IG (D:∀k∈keys,∃b,Aa B' k=some b):∀(l:List (Nat×Nat)),Ab (λp:Nat×Nat=>Am keys p.1) l=true->∀a∈Em l,AC.wfP B' a
 |[],_,a,A=>by grind [Em]
 |(k,o)::l,h,a,A=>by
  have h1:=Af.1 h;simp only[Em,an]at A;rcases A with rfl|A
  ·exact D k (BO.1 (h1 (k,o) (by simp)))
  ·exact IG D l (Af.2 λp E=>h1 p (by grind)) a A
theorem P0 (D:∀k∈keys,∃b,Aa B' k=some b) (E:∀id t ks,Aa rs id=some (t,ks)->∃r,Aa R' id=some r/\r.ks=ks/\rl id=r.l.length) {c:CS} (A:c.okB keys rs=true) (l:List AC) (i:Nat):AC.wf B' R' (BK rl l c i).1:=by
 cases c<;>simp only[BK]<;>try trivial
 case ptr k o=>exact D k (BO.1 A)
 case bsl k o=>exact D k (BO.1 A)
 case own id wd=>
  simp only[CS.okB]at A;split at A
  ·rename_i t ks G;obtain⟨r,h1,h2,h3⟩:=E id t ks G;refine⟨r,h1,h3.symm,?_⟩;show r.ks.length=wd;simp_all
  grind
 case clo f fs cs=>
  simp only[CS.okB,af]at A;exact⟨IG D fs A.1,IG D cs A.2⟩
theorem F_ (D:∀k∈keys,∃b,Aa B' k=some b) (E:∀id t ks,Aa rs id=some (t,ks)->∃r,Aa R' id=some r/\r.ks=ks/\rl id=r.l.length):∀{cs:List CS},Ab (CS.okB keys rs) cs=true->∀(l:List AC) (i:Nat),∀a∈(Bx rl l cs i).1,AC.wf B' R' a
 |[],_,l,i,a,A=>by grind [Bx]
 |c::cs,h,l,i,a,A=>by
  have h1:=Af.1 h;simp only[Bx,an]at A;rcases A with rfl|A
  ·exact P0 D E (h1 c (by simp)) l i
  ·exact F_ D E (Af.2 λc G=>h1 c (by grind)) l _ a A
theorem Lv (D:∀k∈keys,∃b,Aa B' k=some b) (E:∀id t ks,Aa rs id=some (t,ks)->∃r,Aa R' id=some r/\r.ks=ks/\rl id=r.l.length):∀{ps:List (Bool×List CS)},Ab (λp:Bool×List CS=>Ab (CS.okB keys rs) p.2) ps=true->∀(l:List AC) (i:Nat),∀p∈(Cs rl l ps i).1,∀a∈p.2,AC.wf B' R' a
 |[],_,l,i,p,A=>by grind [Cs]
 |(g,cs)::ps,h,l,i,p,A=>by
  have h1:=Af.1 h;simp only[Cs,an]at A;rcases A with rfl|A
  ·exact F_ D E (h1 (g,cs) (by simp)) l i
  ·exact Lv D E (Af.2 λc G=>h1 c (by grind)) l _ p A
theorem PY (A:∀k∈keys,∃b,Aa B' k=some b) (D:∀id t ks,Aa rs id=some (t,ks)->∃r,Aa R' id=some r/\r.ks=ks/\rl id=r.l.length) {t:TS} (E:t.okB keys rs=true) (l:List AC) (i:Nat):TV.wf B' R' (CN rl l t i).1:=by
 cases t with
 |vD=>trivial
 |v g cs=>exact F_ A D E l i
 |tup ps=>exact Lv A D E l i
theorem Mz (E:∀k∈keys,∃b,Aa B' k=some b) (G:∀id t ks,Aa rs id=some (t,ks)->∃r,Aa R' id=some r/\r.ks=ks/\rl id=r.l.length):∀{D:List TS},Ab (TS.okB keys rs) D=true->∀(l:List AC) (i:Nat),∀v∈(B3 rl l D i).1,TV.wf B' R' v
 |[],_,l,i,v,A=>by grind [B3]
 |t::D,h,l,i,v,A=>by
  have h1:=Af.1 h;simp only[B3,an]at A;rcases A with rfl|A
  ·exact PY E G (h1 t (by simp)) l i
  ·exact Mz E G (Af.2 λc J=>h1 c (by grind)) l _ v A
theorem Ng (A:∀k∈keys,∃b,Aa B' k=some b) (D:∀id t ks,Aa rs id=some (t,ks)->∃r,Aa R' id=some r/\r.ks=ks/\rl id=r.l.length):∀{bs:List (Nat×TypeId×List CS)},Ab (λp:Nat×TypeId×List CS=>Ab (CS.okB keys rs) p.2.2) bs=true->∀(l:List AC) (i k:Nat) (b:Box),Aa (B8 rl l bs i) k=some b->∀a∈b.cells,AC.wf B' R' a
 |[],_,l,i,k,b,hb=>by grind [B8,Aa]
 |(j,t,cs)::bs,h,l,i,k,b,hb=>by
  have h1:=Af.1 h;simp only[B8,Aa]at hb;cases E:Nat.beq j k<;>rw[E]at hb
  ·exact Ng A D (Af.2 λc G=>h1 c (by grind)) l _ k b hb
  ·simp at hb;subst hb;exact F_ A D (h1 (j,t,cs) (by simp)) l i
end names
theorem LL {rl:Nat->Nat} (l:List AC):∀(bs:List (Nat×TypeId×List CS)) (i k:Nat),k∈bs.map (·.1)->∃b,Aa (B8 rl l bs i) k=some b
 |[],_,k,h=>by grind
 |(j,t,cs)::bs,i,k,h=>by
  simp only[B8,Aa];cases A:Nat.beq j k
  ·have:k∈bs.map (·.1):=by
    simp only[av,an]at h;exact h.resolve_left λe=>Cn A e.symm
   exact LL l bs _ k this
  simp
theorem RelE.rebuild {sk:Sk} {vars:List AC} (h:RelE Z tm aB aC ρ tmps w) (hZ:∀k b,Z.K0 k=some b->Bg k=true) (N:sk.okB=true) (O:AN sk ⟨tm,aB,aC⟩=some vars):
  RelE Z (Ag sk vars).tmps (Ag sk vars).aB (Ag sk vars).aC ρ tmps w:=by
 simp only[AN]at O;obtain ⟨a0, O⟩ : Ab (λp : Nat × Box => !(Bg p.1) || Am (sk.aB.map (·.1)) p.1) aB = true /\ (match E5 sk.aC aC with
  |some a=>match DU sk.tmps tm with
   |some b=>match Fe sk.aB aB with
    |some c=>some (a++(b++c))
    |none=>none
   |none=>none
  |none=>none)=some vars:=by grind
 split at O
 ·rename_i G a1;split at O
  ·rename_i T a2;split at O
   ·rename_i vc a3;simp at O;subst O;have J:=Seg.all (G++(T++vc));generalize L:G++(T++vc)=l at J⊢;rw[<-L]at J;have a4:Seg l 0 G:=by rw[<-L];exact(Seg.all _).left
    have a5:Seg l (0+G.length) T:=by rw[<-L];exact(Seg.all _).right.left
    have a6:Seg l (0+G.length+T.length) vc:=by rw[<-L];exact(Seg.all _).right.right
    obtain⟨r1,S,r3⟩:=JD a1 a4;simp only[Ag];generalize hR:Do l sk.aC 0=qr at r1 S r3;obtain⟨R',ir⟩:=qr;simp only at r1 S r3⊢;subst r1;have c1:sk.okB=true:=N;simp only[Sk.okB,af]at N;obtain⟨⟨⟨c3,c4⟩,U⟩,V⟩:=N
    have c2:∀id r,Aa R' id=some r->BJ R' id=r.l.length:=λid r L=>by grind [BJ]
    have D:∀k∈sk.aB.map (·.1),∃b,Aa (B8 (BJ R') l sk.aB (0+G.length+T.length)) k=some b:=λk E=>LL l sk.aB _ k E;have X:∀id t ks,Aa sk.aC id=some (t,ks)->∃r,Aa R' id=some r/\r.ks=ks/\BJ R' id=r.l.length:=λid t ks L=>by grind
    let A:Nat->Nat:=λid=>match Aa aC id with
     |some r=>r.l.length
     |none=>0
    have Y:Built aC A:=⟨λid r L=>by grind⟩;have a7:∀id t ks,Aa sk.aC id=some (t,ks)->A id=BJ R' id:=λid t ks L=>by grind
    have eC:∀(c:CS) (i:Nat),c.okB (sk.aB.map (·.1)) sk.aC=true->BK A l c i=BK (BJ R') l c i:=by
     intro c i hc;cases c<;>try rfl
     rename_i id wd;simp only[CS.okB]at hc;split at hc
     ·grind [BK]
     ·grind
    have b1:∀(cs:List CS) (i:Nat),Ab (CS.okB (sk.aB.map (·.1)) sk.aC) cs=true->Bx A l cs i=Bx (BJ R') l cs i:=by
     intro cs;induction cs with
     |nil=>intro i _;rfl
     |cons c cs ih=>grind [Af,Bx]
    have b2:∀(ps:List (Bool×List CS)) (i:Nat),Ab (λp:Bool×List CS=>Ab (CS.okB (sk.aB.map (·.1)) sk.aC) p.2) ps=true->Cs A l ps i=Cs (BJ R') l ps i:=by
     intro ps;induction ps with
     |nil=>intro i _;rfl
     |cons p ps ih=>grind [Af,Cs]
    have eT:∀(t:TS) (i:Nat),t.okB (sk.aB.map (·.1)) sk.aC=true->CN A l t i=CN (BJ R') l t i:=by
     intro t i ht;cases t with
     |vD=>rfl
     |v g cs=>simp only[CN];rw[b1 cs i ht]
     |tup ps=>simp only[CN];rw[b2 ps i ht]
    have b3:∀(ts:List TS) (i:Nat),Ab (TS.okB (sk.aB.map (·.1)) sk.aC) ts=true->B3 A l ts i=B3 (BJ R') l ts i:=by
     intro ts;induction ts with
     |nil=>intro i _;rfl
     |cons c cs ih=>grind [Af,B3]
    have b4:∀(bs:List (Nat×TypeId×List CS)) (i:Nat),Ab (λp:Nat×TypeId×List CS=>Ab (CS.okB (sk.aB.map (·.1)) sk.aC) p.2.2) bs=true->B8 A l bs i=B8 (BJ R') l bs i:=by
     intro bs;induction bs with
     |nil=>intro i _;rfl
     |cons p bs ih=>grind [Af,B8]
    have hT:=MS (ρ:=ρ) (w:=w) (aB:=aB) Y a2 a5;rw[b3 sk.tmps _ U]at hT;obtain⟨t1,t2,t3⟩:=hT;have tw:=Mz (rl:=BJ R') D X U l (0+G.length);generalize c5:B3 (BJ R') l sk.tmps (0+G.length)=qt at t1 t2 t3 tw;obtain⟨T',it⟩:=qt;simp only at t1 t2 t3 tw⊢;subst t1;have hB:=LX (ρ:=ρ) (w:=w) Y a3 a6;rw[b4 sk.aB _ V]at hB;refine⟨by grind [h.tl],λi v Q=> ?_,tw,Ng D X V l _,λk b E=> ?_,λk k' b b' E b5 he=> ?_,λid r Q=>h.ro id r (S id r Q),λid id' r r' g Q b6=>h.ri id id' r r' g (S id r Q) (S id' r' b6),λk b id r E Q=> ?_,λb hb=> ?_,h.fr,h.fs,h.i0,h.i1,λk b E=> ?_⟩
    ·obtain⟨u,hu,hx⟩:=t3 i v Q;exact hx _ (h.wt u (ay hu)) (h.tv i u hu)
    ·obtain⟨_,b0,q1,q2,q3⟩:=hB k b E;obtain⟨arr,p1,p2,p3⟩:=h.bx k b0 q1;exact⟨arr,by grind,q3 _ (h.wb k b0 q1) p2,p3⟩
    ·obtain⟨_,b0,q1,_⟩:=hB k b E;obtain⟨_,c6,c0,_⟩:=hB k' b' b5;exact h.bi k k' _ _ q1 c0 he
    ·obtain⟨_,b0,q1,_⟩:=hB k b E;exact h.br k b0 id r q1 (S id r Q)
    ·obtain⟨q1,q2,q3⟩:=h.ib b hb
     grind
    ·obtain⟨q1,bo,q2⟩:=h.k0 k b E;refine⟨q1,D k ?_⟩;have:=Af.1 a0 (k,bo) (EY q2);simp_all [BO]
   grind
  grind
 grind
end
open Go.RowKit
section
variable {P:Program} {C:Cfg} {ρ:Env} {w:World} {R:Type} {Z:Base} {tm:List TV} {aB:List (Nat×Box)} {aC:List (Nat×Row)} {tmps:Array Value}
theorem Ce {α:Type}:∀(l:List α) (o:Nat) (A:List α),o+A.length<=l.length->splice l o A=l.take o++A++l.drop (o+A.length)
 |l,o,[],h=>by simp[Jb]
 |[],o,_::_,h=>by grind
 |x::l,0,v::A,h=>by
  simp only[splice,List.take_zero,dg,c9];rw[Ce l 0 A (by grind)];simp
 |x::l,o+1,v::A,h=>by
  simp only[splice];rw[Ce l o (v::A) (by grind)]
  grind
theorem KV {t:TypeId} {x:Value} {b off:Nat} {cur:Array Value} {ty:TypeId} (A:szT P t=some x.cells.toList.length) (hb:w.heap[b]? =some (.cells cur ty (0,0)))
  (D:off+x.cells.toList.length<=cur.size) (h1:∀v∈x.cells.toList,v.oneCell'=true):
  (storeVar t ⟨b,off,none⟩ x).run P w= .ok () (w.setRow b (splice cur.toList off x.cells.toList).toArray):=by
 have:=run_storeCells_at P b off ty x.cells.toList 0 cur w hb (by omega) h1;simp_all [A9,storeVar,Ce]
theorem S9 {α:Type} (xs A:List α) (i wd sub n:Nat) (D:i<n) (G:xs.length=n*wd) (J:sub+A.length<=wd):
  cut (splice xs (i*wd+sub) A) (i*wd) wd=splice (cut xs (i*wd) wd) sub A:=by
 have hle:i*wd+wd<=n*wd:=by
  calc i*wd+wd=(i+1)*wd:=by grind
   _<=n*wd:=ba _ D
 have E:(cut xs (i*wd) wd).length=wd:=by simp[cut];omega
 rw[Ce _ _ _ (by omega),Ce _ _ _ (by omega)];apply cg;intro j;simp only[cut,b7,bp,cb,cn,bh,cu]
 grind
theorem O_ {α:Type} (xs D:List α) (i j wd sub n:Nat) (G:i<n) (A:j≠i) (J:xs.length=n*wd) (L:sub+D.length<=wd):
  cut (splice xs (i*wd+sub) D) (j*wd) wd=cut xs (j*wd) wd:=by
 have hle:i*wd+wd<=n*wd:=by
  calc i*wd+wd=(i+1)*wd:=by grind
   _<=n*wd:=ba _ G
 rw[Ce _ _ _ (by omega)];have E:j*wd+wd<=i*wd\/i*wd+wd<=j*wd:=by
  rcases Nat.lt_or_gt_of_ne A with h|h
  ·left
   calc j*wd+wd=(j+1)*wd:=by grind
    _<=i*wd:=ba _ h
  ·right
   calc i*wd+wd=(i+1)*wd:=by grind
    _<=j*wd:=ba _ h
 apply cg;intro k;simp only[cut,b7,bp,cb,cn,bh]
 grind
theorem Ug {o:Oper} {a:Act} {f:FuncId} {xs:List Value} {next:Act->World->Prop} {Q:Exit->Act->World->Prop} (A:Ft P f) (he:execOp a.eval o=callFunc f xs.toArray)
  (h:Calls P f xs.toArray w λe w'=>∃x,e= .returned x/\next (a.put o.dst x) w'):o.wp P a w next Q:=by
 obtain⟨D,h1,h2,h3⟩:=A;unfold Oper.wp;have:(execOp a.eval o).run P w= .ok (.enter f xs.toArray) w:=by
  rw[he];simp only[callFunc,Sem.run_bind,run_program,be,h1];rw[cd (by grind),cd (by grind)];rfl
 rw[this,Oper.upon_enter];refine h.mono λe w' ⟨x,he,E⟩=> ?_
 grind
theorem Et {o:Oper} {a:Act} {f:FuncId} {xs:List Value} {next:Act->World->Prop} {Q:Exit->Act->World->Prop} (he:execOp a.eval o=callFunc f xs.toArray)
  (h:CallsX P f xs.toArray w λe w'=>∃x,e= .returned x/\next (a.put o.dst x) w'):o.wp P a w next Q:=by
 rcases h with⟨h1,h2⟩|⟨x,w',h1,y,h2,h3⟩
 ·grind [Ug]
 ·simp only[Ending.returned.injEq]at h2;subst h2;unfold Oper.wp;rw[he,h1];exact h3
theorem Cp {o:Oper} {a:Act} {x:Value} {w':World} {next:Act->World->Prop} {Q:Exit->Act->World->Prop} (he:(execOp a.eval o).run P w= .ok (.value x) w') (h:next (a.put o.dst x) w'):o.wp P a w next Q:=by
 unfold Oper.wp;rw[he];exact h
theorem Nr {o:Oper} {a:Act} {w':World} {next:Act->World->Prop} {Q:Exit->Act->World->Prop} (he:(execOp a.eval o).run P w= .ok .skip w') (h:next (a.put o.dst undef) w'):o.wp P a w next Q:=by
 unfold Oper.wp;rw[he];exact h
theorem CL.one {l:List AC} {xs:List Value} (h:CL (CC ρ w) l xs):∀v∈xs,v.oneCell'=true:=by
 induction l generalizing xs with
 |nil=>cases xs<;>first|(intro v A;simp at A;done)|exact h.elim
 |cons a l D=>
  cases xs with
  |nil=>simp
  |cons y xs=>
   intro v A;simp only[an]at A;rcases A with rfl|A
   ·exact h.1.one
   ·exact D h.2 v A
theorem CL.oneP {im:Nat->Prop} {l:List AC} {xs:List Value} (h:CL (CP im w) l xs):∀v∈xs,v.oneCell'=true:=by
 induction l generalizing xs with
 |nil=>cases xs<;>first|(intro v A;simp at A;done)|exact h.elim
 |cons a l D=>
  cases xs with
  |nil=>simp
  |cons y xs=>
   intro v A;simp only[an]at A;rcases A with rfl|A
   ·exact h.1.one
   ·exact D h.2 v A
theorem RowC.one {im:Nat->Prop} {ks:List Kd} {l:List (List AC)} {xs:List Value} (h:RowC im w ks l xs) (A:0<ks.length):∀v∈xs,v.oneCell'=true:=by
 intro v G;obtain⟨j,D,rfl⟩:=List.getElem_of_mem G;have E:j/ks.length<l.length:=by rw[Nat.div_lt_iff_lt_mul A];rw[h.1]at D;exact D
 have J:j%ks.length<ks.length:=Nat.mod_lt _ A;refine(h.2.2 (j/ks.length) _ (ah E)).oneP _ ?_;have:(cut xs (j/ks.length*ks.length) ks.length)[j%ks.length]? =some xs[j]:=by
  simp only[cut,b7,J,cq,bp];rw[show j/ks.length*ks.length+j%ks.length=j from by simp[Nat.mul_comm,Nat.div_add_mod]];exact ah D
 grind
theorem RowC.append {im:Nat->Prop} {ks:List Kd} {l m:List (List AC)} {xs A:List Value} (h:RowC im w ks l xs) (h':RowC im w ks m A):
  RowC im w ks (l++m) (xs++A):=by
 refine⟨by rw[bh,h.1,h'.1,bh,du],λc D=> ?_,λi c G=> ?_⟩
 ·rcases bt.1 D with D|D
  ·exact h.2.1 c D
  ·exact h'.2.1 c D
 ·by_cases E:i<l.length
  ·rw[List.getElem?_append_left E]at G;have hle:i*ks.length+ks.length<=l.length*ks.length:=by
    calc i*ks.length+ks.length=(i+1)*ks.length:=by grind
     _<=l.length*ks.length:=ba _ E
   have:cut (xs++A) (i*ks.length) ks.length=cut xs (i*ks.length) ks.length:=by
    have:=h.1;simp only[cut];rw[c8 (by omega),List.take_append_of_le_length (by grind)]
   rw[this];exact h.2.2 i c G
  ·rw[dk (by omega)]at G;have:cut (xs++A) (i*ks.length) ks.length=cut A ((i-l.length)*ks.length) ks.length:=by
    have h1:=h.1;simp only[cut];rw[List.drop_append,dy (by simp_all [ba]),dg,h1,<-Nat.sub_mul]
   rw[this];exact h'.2.2 (i-l.length) c G
theorem S1 {t ty e:TypeId} {i:TypeInfo} (L:P.underlying t=some (.slice e)) (N:P.info? e=some i)
  {b off sLen sCap:Nat} {cur:Array Value} {J:TypeId} (hb:w.heap[b]? =some (.cells cur J (0,0))) {a:Addr} {m c:Nat} {news:List Value} (O:news.length=m*i.size) (A:∀j u,news[j]? =some u->w.cell? (a.add j)=some u) (h1:∀u∈news,u.oneCell'=true)
  (D:sLen+m<=sCap) (hle:off+sLen*i.size+news.length<=cur.size):
  (Builtin.append_ #[t,t] ty #[.slice (some ⟨b,off,none⟩) sLen sCap, .slice (some a) m c]).run P w= .ok (.slice (some ⟨b,off,none⟩) (sLen+m) sCap) (w.setRow b (splice cur.toList (off+sLen*i.size) news).toArray):=by
 have G:=run_firstCells_some (P:=P) w i.size m a m c news O A;have E:=run_storeCells_at P b (off+sLen*i.size) J news 0 cur w hb (by omega) h1;simp only[Nat.add_zero]at E;rw[Ce _ _ _ (by omega)];simp[Builtin.append_,run_underlying L,sizeOf,typeInfo,N,Builtin.lenOf,D,G,Addr.add_lit,E]
theorem H4 {t ty e:TypeId} {i:TypeInfo} {z:Value} {size:Nat} (N:P.underlying t=some (.slice e)) (O:P.info? e=some i) (Y:i.zero=some z)
  (D:i.size=size) (T:z.cells.size=size) (U:0<size)
  {v:Value} {n:Nat} {xs:List Value} (A:A_ w e size v n xs)
  {ad:Option Addr} {m c:Nat} {news:List Value} (X:news.length=m*size) (G:m=0\/∃a,ad=some a/\∀j u,news[j]? =some u->w.cell? (a.add j)=some u) (h1:∀u∈news,u.oneCell'=true)
  (V:n+m<=maxLen) (E:(n+m)*i.bytes<=140737488355328):
  ∃J w',(Builtin.append_ #[t,t] ty #[v, .slice ad m c]).run P w= .ok J w'/\A_ w' e size J (n+m) (xs++news)/\w.grownBy w' v.ownBlock/\(J.ownBlock=v.ownBlock\/J.ownBlock=some w.heap.size):=by
 cases ad with
 |some a=>
  have Q:∀j u,news[j]? =some u->w.cell? (a.add j)=some u:=by
   rcases G with rfl|⟨a',a2,hh⟩
   ·grind
   ·grind
  rcases A.2 with⟨rfl,rfl⟩|⟨g,o,cap,cur,rfl,e3,e4,e5,e6,e7⟩
  ·have hx:xs=[]:=bu (by simpa using A.1);subst hx;obtain⟨J,w',q1,q2,S,_,q5⟩:=run_append_own_at (P:=P) w 0 t ty e i z size i.bytes N O Y D rfl T U (.slice none 0 0) 0 [] (World.ownsRow_nil w 0 e size) a m c news X Q h1 V E (Nat.zero_le _)
   grind [NK]
  ·by_cases hr:n+m<=cap
   ·subst D;have a3:n*i.size+m*i.size<=cap*i.size:=by rw[<-du];exact ba _ hr
    have q:=S1 (P:=P) (ty:=ty) (off:=o) (sLen:=n) (sCap:=cap) (c:=c) N O e3 X Q h1 hr (by omega);have a4:=Eh cur.toList (o+n*i.size) news;refine⟨_,_,q,⟨by grind, .inr ⟨g,o,cap,_,rfl,setRow_heap w g cur _ e _ e3,hr,e5,by grind,?_⟩⟩,⟨rfl,rfl,rfl,by simp,λk hk a0=>setRow_other w g k _ (λe=>a0 (by rw[e];rfl))⟩, .inl rfl⟩;have hL:o+n*i.size+news.length<=cur.toList.length:=by rw[X,bl];omega
    show((splice cur.toList (o+n*i.size) news).toArray.toList.drop o).take ((n+m)*i.size)=xs++news;simp only[List.toList_toArray];rw[Ce _ _ _ hL,dt,c8 (by grind),List.drop_take,show o+n*i.size-o=n*i.size from by omega,e7,<-dt];rw[List.take_append_of_le_length (by grind),co (by grind)]
   ·obtain ⟨J, w', q1, q2, S⟩ := run_append_arg_grows (P := P) w t ty e i z size i.bytes N O Y D rfl T U ⟨g, o, none⟩ n cap xs A.1 (λj u hj => by
     have:=EQ A (g:=g) rfl j u hj;rw[Addr.add_lit];exact this) a m c news X Q (by omega) V E
    have L := run_append_grow (P := P) w t ty e i z N O Y ⟨g, o, none⟩ n cap xs (by rw [D]; exact A.1) (λj u hj => by
     have:=EQ A (g:=g) rfl j u hj;rw[Addr.add_lit];exact this) a m c news (by grind) Q (by omega) (by grind [maxLen]) (growslice_fits (by omega) E)
    rw[q1]at L;simp only[Result.ok.injEq]at L;refine⟨J,w',q1,NK q2,⟨S.os,S.tape,S.output,S.size,λk hk _=>S.block k hk (by simp)⟩, .inr ?_⟩;rw[L.1];rfl
 |none=>
  have hm:m=0:=by
   rcases G with h|⟨_,h,_⟩
   ·exact h
   ·grind
  subst hm;have Q:news=[]:=bu (by omega);subst Q;refine⟨v,w,?_,by grind,⟨rfl,rfl,rfl,bf _,λ_ _ _=>rfl⟩, .inl rfl⟩;rcases A.2 with⟨rfl,rfl⟩|⟨g,o,cap,cur,rfl,_,a1,_⟩
  ·simp[Builtin.append_,run_underlying N,sizeOf,typeInfo,O,Builtin.lenOf,Builtin.firstCells]
  ·simp[Builtin.append_,run_underlying N,sizeOf,typeInfo,O,Builtin.lenOf,Builtin.firstCells,a1,storeCells]
theorem JF (h:RelE Z tm aB aC ρ tmps w) {ks:List Kd} {a:AC} {x:Value} {m:List (List AC)} (A:C5 aC ks a=some m) (D:CC ρ w a x):
  ∃E c news,x= .slice E m.length c/\RowC ρ.im w ks m news/\(m.length=0\/∃a,E=some a/\∀j u,news[j]? =some u->w.cell? (a.add j)=some u):=by
 unfold C5 at A;split at A
 ·simp at A;subst A;simp only[CC,CP]at D;subst D;exact⟨none,0,[],rfl,⟨by simp,by simp,λi c S=>by grind⟩, .inl rfl⟩
 ·rename_i G l;cases hb:AV ks G<;>rw[hb]at A
  ·grind
  ·simp at A;subst A;have:=Dd hb;subst this;simp only[CC,CP]at D;obtain⟨E,cap,rfl,hle,T,U⟩:=D;rcases U with rfl|⟨b,o,rfl,_,J⟩
   ·exact⟨E,cap,[],rfl,⟨by simp,by simp,λi c S=>by grind⟩, .inl rfl⟩
   ·obtain⟨V,q1,q2⟩:=RZ l T J;refine⟨_,cap,V,rfl,q1, .inr ⟨_,rfl,λj u L=> ?_⟩⟩;rw[Addr.add_lit];exact q2 j u L
 ·rename_i id w' n;split at A
  ·rename_i r X;cases hb:AV ks r.ks<;>rw[hb]at A
   ·grind
   ·simp at A;subst A;have:=Dd hb;subst this;obtain⟨q1,q2,_,xs,O,Y⟩:=h.ro id r X;obtain⟨N,a0,a1⟩:=D;subst N;rcases O.2 with⟨e1,e2⟩|⟨Q,o,cap,cur,e1,e3,e4,e5,e6,e7⟩
    ·grind
    ·refine⟨some ⟨Q,o,none⟩,cap,xs,e1,Y, .inr ⟨_,rfl,λj u L=> ?_⟩⟩;have:=EQ O (g:=Q) (by rw[e1];rfl) j u L;rw[e1]at this;rw[Addr.add_lit];exact this
  grind
 grind
theorem RelE.growIm {im':Nat->Prop} {w':World} (A:RelE Z tm aB aC ρ tmps w) (D:Below w.heap.size w w') (E:∀b,ρ.im b->im' b) (J:∀b,im' b->ρ.im b\/(w.heap.size<=b/\b<w'.heap.size)):
  RelE Z tm aB aC {ρ with im:=im'} tmps w':=by
 have hold:∀b,b<w.heap.size->w'.heap[b]? =w.heap[b]? :=λb hb=>D.block b hb;have N:∀(a:AC) (x:Value),CC ρ w a x->CC {ρ with im:=im'} w' a x:=λa x Q=>CC.mono (ρ:=ρ) (ρ':={ρ with im:=im'}) E (λb hb=>hold b (A.ib b hb).1) a x (AC.agree_refl rfl rfl rfl a) Q;refine⟨A.tl,λi v V=>TVR.mono N v _ (A.tv i v V),A.wt,A.wb,?_,A.bi,?_,A.ri,A.br,?_,A.fr.trans (Fr.of_below D A.fs),λk L=>ax (A.fs k L) D.size,λb hb=>E b (A.i0 b hb),λb hb=>(J b hb).elim (A.i1 b) λq=> .inr λX=>absurd (A.fs b X) (by omega),λk b L=>A.k0 k b L⟩
 ·intro k b L;obtain⟨arr,q1,q2,O⟩:=A.bx k b L;exact⟨arr,by grind,q2.mono λa _ x Q=>N a x Q,O⟩
 ·intro id U G;obtain⟨q1,q2,Y,ys,O,q4⟩:=A.ro id U G;exact⟨q1,q2,Y,ys,De O λg hg=>hold g (A.rwlt G hg).2,q4.mono E (λb hb=>hold b (A.ib b hb).1)⟩
 ·intro b hb;rcases J b hb with S|⟨a0,T⟩
  ·obtain⟨q1,q2,O⟩:=A.ib b S
   grind
  ·exact⟨T,λk bo L e=>by have:=A.bxlt L;grind,λid U G e=>by have e':(ρ.rv id).ownBlock=some b:=e;have:=(A.rwlt G e').2;omega⟩
end
open Go.RowKit
section
variable {P:Program} {C:Cfg} {ρ:Env} {w:World} {R:Type} {Z:Base} {tm:List TV} {aB:List (Nat×Box)} {aC:List (Nat×Row)} {tmps:Array Value}
def AC.nmP (A:Nat->Prop):AC->Prop
 | .ptr k _=>A k
 |_=>True
def AC.nm (A D:Nat->Prop):AC->Prop
 | .ptr k _=>A k
 | .bsl k _=>A k
 | .own id _ _=>D id
 | .rptr id _ _=>D id
 | .clo _ fs cs=>(∀a∈fs,AC.nmP A a)/\∀a∈cs,AC.nmP A a
 |_=>True
def TV.nm (A D:Nat->Prop):TV->Prop
 | .v _ cs=>∀a∈cs,AC.nm A D a
 | .tup ps=>∀p∈ps,∀a∈p.2,AC.nm A D a
 | .vD=>True
theorem AC.nm_of_inK {keys ids:List Nat} {a:AC} (h:AC.inK keys ids a=true):a.nm (· ∈keys) (· ∈ids):=by
 have A:∀l:List AC,Ab (AC.inK.inP keys) l=true->∀a∈l,AC.nmP (· ∈keys) a:=by
  intro l D a E;have:=Af.1 D a E;cases a<;>first|trivial|exact BO.1 this
 cases a with
 |ptr k o=>exact BO.1 h
 |bsl k o=>exact BO.1 h
 |own id w n=>exact BO.1 h
 |rptr id i s=>exact BO.1 h
 |clo f fs cs=>
  simp only[AC.inK,af]at h;exact⟨A fs h.1,A cs h.2⟩
 |_=>trivial
theorem TV.nm_of_inK {keys ids:List Nat} {v:TV} (h:TV.inK keys ids v=true):v.nm (· ∈keys) (· ∈ids):=by
 cases v with
 |vD=>trivial
 |v g cs=>exact λa A=>AC.nm_of_inK (Af.1 h a A)
 |tup ps=>exact λp D a A=>AC.nm_of_inK (Af.1 (Af.1 h p D) a A)
theorem AC.nm_of_wf {a:AC} (h:AC.wf aB aC a):a.nm (λk=>∃b,Aa aB k=some b) (λi=>∃r,Aa aC i=some r):=by
 have A:∀l:List AC,(∀a∈l,AC.wfP aB a)->∀a∈l,AC.nmP (λk=>∃b,Aa aB k=some b) a:=by
  intro l D a E;have:=D a E;cases a<;>first|trivial|exact this
 cases a with
 |ptr k o=>exact h
 |bsl k o=>exact h
 |own id w n=>obtain⟨r,h1,_⟩:=h;exact⟨r,h1⟩
 |rptr id i s=>obtain⟨r,h1,_⟩:=h;exact⟨r,h1⟩
 |clo f fs cs=>exact⟨A fs h.1,A cs h.2⟩
 |_=>trivial
theorem TV.nm_of_wf {v:TV} (h:TV.wf aB aC v):v.nm (λk=>∃b,Aa aB k=some b) (λi=>∃r,Aa aC i=some r):=by
 cases v with
 |vD=>trivial
 |v g cs=>exact λa A=>AC.nm_of_wf (h a A)
 |tup ps=>exact λp D a A=>AC.nm_of_wf (h p D a A)
theorem Jk {A D:Env} {G:Nat->Prop} {J:Nat->Nat} (hb:∀k,G k->D.bx (J k)=A.bx k) (N:D.im=A.im):∀(l:List AC) (xs:List Value),(∀a∈l,AC.nmP G a)->CLc A w l xs->CLc D w (AC.ren.renP J l) xs
 |[],[],_,_=>trivial
 |a::l,x::xs,L,h=>by
  have O:=Jk hb N l xs (λb hb=>L b (by grind)) h.2;have h1:=h.1;have E:=L a (by simp);cases a<;>simp only[AC.ren.renP]<;>refine⟨?_,O⟩<;>first
   |(simp only[CCc]at h1⊢;rw[hb _ E];exact h1)
   |grind [CCc]
 |[],_::_,_,h=>h.elim
 |_::_,[],_,h=>h.elim
theorem Jr {D E:Env} {J L:Nat->Prop} {N ri:Nat->Nat} (hb:∀k,J k->E.bx (N k)=D.bx k) (G:∀i,L i->E.rv (ri i)=D.rv i/\E.wd (ri i)=D.wd i) (O:E.im=D.im)
  {a:AC} {x:Value} (A:a.nm J L) (h:CC D w a x):CC E w (a.ren N ri) x:=by
 cases a with
 |ptr k o=>simp only[AC.ren,CC]at*;rw[hb k A];exact h
 |bsl k o=>simp only[AC.ren,CC]at*;rw[hb k A];exact h
 |own id w n=>simp only[AC.ren,CC]at*;rw[(G id A).1,(G id A).2];exact h
 |rptr id i s=>simp only[AC.ren,CC]at*;rw[(G id A).1,(G id A).2];exact h
 |vptr cs s=>grind [AC.ren,CC]
 |clo f fs cs=>
  obtain⟨xs,Q,h1,h2,h3⟩:=h;exact⟨xs,Q,h1,Jk hb O fs _ A.1 h2,Jk hb O cs _ A.2 h3⟩
 |vD=>exact h
 |int=>grind [AC.ren,CC]
 |bool=>grind [AC.ren,CC]
 |raw=>grind [AC.ren,CC]
 |nilSl=>grind [AC.ren,CC]
 |vC=>grind [AC.ren,CC]
theorem Fu {A D:Env} {Kp Ip:Nat->Prop} {E ri:Nat->Nat} (hb:∀k,Kp k->D.bx (E k)=A.bx k) (G:∀i,Ip i->D.rv (ri i)=A.rv i/\D.wd (ri i)=A.wd i) (J:D.im=A.im):
  ∀{l:List AC} {xs:List Value},(∀a∈l,a.nm Kp Ip)->CL (CC A w) l xs->CL (CC D w) (l.map (AC.ren E ri)) xs
 |[],[],_,h=>h
 |a::l,y::xs,L,h=>⟨Jr hb G J (L a (by simp)) h.1,Fu hb G J (λb hb=>L b (by grind)) h.2⟩
 |[],_::_,_,h=>h.elim
 |_::_,[],_,h=>h.elim
theorem Np {D E:Env} {Kp Ip:Nat->Prop} {Q ri:Nat->Nat} (hb:∀k,Kp k->E.bx (Q k)=D.bx k) (J:∀i,Ip i->E.rv (ri i)=D.rv i/\E.wd (ri i)=D.wd i) (L:E.im=D.im)
  {v:TV} {x:Value} (N:v.nm Kp Ip) (h:TVR D w v x):TVR E w (v.ren Q ri) x:=by
 cases v with
 |vD=>trivial
 |v b cs=>
  cases b
  ·obtain⟨a,rfl,S⟩:=h;exact⟨_,rfl,Jr hb J L (N a (by simp)) S⟩
  ·obtain⟨O,rfl,A⟩:=h;exact⟨O,rfl,Fu hb J L N A⟩
 |tup ps=>
  obtain⟨O,rfl,A⟩:=h;refine⟨O,rfl,?_⟩;generalize O.toList=l at A;induction ps generalizing l with
  |nil=>cases l<;>first|exact A|exact A.elim
  |cons p ps T=>
   cases l with
   |nil=>exact A.elim
   |cons y l=>
    obtain⟨b,cs⟩:=p;refine⟨?_,T (λq V=>N q (by grind)) l A.2⟩;have h1:=A.1;have G:=N (b,cs) (by simp);cases b
    ·obtain⟨a,q1,q2⟩:=h1;subst q1;exact⟨_,rfl,Jr hb J L (G a (by simp)) q2⟩
    ·obtain⟨U,q1,q2⟩:=h1;exact⟨U,q1,Fu hb J L G q2⟩
theorem Gq {b1 b2:List (Nat×Box)} {L N:List (Nat×Row)} {Kp Ip:Nat->Prop} {E ri:Nat->Nat} (hb:∀k,Kp k->(∃b,Aa b1 k=some b)->∃b,Aa b2 (E k)=some b)
  (O:∀i r,Ip i->Aa L i=some r->∃r',Aa N (ri i)=some r'/\r'.n=r.n/\r'.w=r.w) {a:AC} (A:a.nm Kp Ip) (h:AC.wf b1 L a):AC.wf b2 N (a.ren E ri):=by
 have Q:∀l:List AC,(∀a∈l,AC.nmP Kp a)->(∀a∈l,AC.wfP b1 a)->∀a∈AC.ren.renP E l,AC.wfP b2 a:=by
  intro l;induction l with
  |nil=>grind [AC.ren.renP]
  |cons c l T=>
   intro A S a D;have G:=T (λb hb=>A b (by grind)) (λb hb=>S b (by grind));have h1:=A c (by simp);have h2:=S c (by simp);cases c<;>simp only[AC.ren.renP,an]at D<;>rcases D with rfl|D<;>first
    |exact G a D
    |exact hb _ h1 h2
    |trivial
 cases a with
 |ptr k o=>exact hb k A h
 |bsl k o=>exact hb k A h
 |own id w n=>obtain⟨r,q1,q2,X⟩:=h;obtain⟨r',J,U,V⟩:=O id r A q1;exact⟨r',J,by omega,by omega⟩
 |rptr id i s=>obtain⟨r,q1,q2⟩:=h;obtain⟨r',J,U,V⟩:=O id r A q1;exact⟨r',J,by omega⟩
 |vptr=>exact h
 |clo f fs cs=>exact⟨Q fs A.1 h.1,Q cs A.2 h.2⟩
 |_=>trivial
theorem Ln {b1 b2:List (Nat×Box)} {E G:List (Nat×Row)} {Kp Ip:Nat->Prop} {J ri:Nat->Nat} (hb:∀k,Kp k->(∃b,Aa b1 k=some b)->∃b,Aa b2 (J k)=some b)
  (L:∀i r,Ip i->Aa E i=some r->∃r',Aa G (ri i)=some r'/\r'.n=r.n/\r'.w=r.w) {v:TV} (N:v.nm Kp Ip) (h:TV.wf b1 E v):TV.wf b2 G (v.ren J ri):=by
 cases v with
 |vD=>trivial
 |v g cs=>
  intro a A;simp only[am]at A;obtain⟨c,D,rfl⟩:=A;exact Gq hb L (N c D) (h c D)
 |tup ps=>
  intro p O a A;simp only[am]at O;obtain⟨q,Q,rfl⟩:=O;simp only[am]at A;obtain⟨c,D,rfl⟩:=A;exact Gq hb L (N q Q c D) (h q Q c D)
theorem C_:∀{l:List Nat},AK l=true↔l.Nodup
 |[]=>by simp[AK]
 |k::l=>by
  simp only[AK,df,<-C_ (l:=l)]
  grind [BO]
theorem A4 {l:List Nat} {n:Nat} (h:n∈l):pos l n<l.length/\nth 0 l (pos l n)=n:=by
 induction l with
 |nil=>grind
 |cons m l A=>
  simp only[pos];cases hb:Nat.beq m n
  ·have D:=Cn hb;have:n∈l:=by
    rcases an.1 h with e|e
    ·omega
    ·exact e
   obtain⟨h1,h2⟩:=A this;exact⟨by grind,by simp only[aj];exact h2⟩
  grind [nth,Nat.eq_of_beq_eq_true]
theorem OZ {l:List Nat} {m n:Nat} (A:m∈l) (D:n∈l) (h:pos l m=pos l n):m=n:=by
 rw[<-(A4 A).2,<-(A4 D).2,h]
theorem ER {l:List Nat} (E:l.Nodup) {i:Nat} (G:i<l.length):pos l (nth 0 l i)=i:=by
 induction l generalizing i with
 |nil=>grind
 |cons m l J=>
  cases i with
  |zero=>simp[nth,pos]
  |succ i=>
   have A:i<l.length:=by simpa using G
   have D:nth 0 l i∈l:=by
    rw[Au,List.getD,ah A];exact bq A
   rw[df]at E;simp only[nth,pos];rw[DN (by grind)]
   grind
theorem Cc {l:List Nat} {i:Nat} (A:i<l.length):nth 0 l i∈l:=by grind [Au]
theorem DP {E ri:Nat->Nat}:∀{keys:List Nat} {b:Nat} {A:List (Nat×Box)},AZ aB E ri b keys=some A->
  (∀i,i<keys.length->∃x,Aa aB (nth 0 keys i)=some x/\Aa A (b+i)=some ⟨x.ty,x.cells.map (AC.ren E ri)⟩)/\∀c x,Aa A c=some x->∃i,i<keys.length/\c=b+i
 |[],b,A,h=>by grind [AZ,Aa]
 |k::keys,b,A,h=>by
  simp only[AZ]at h;split at h
  ·rename_i x G;split at h
   ·rename_i l J;simp at h;subst h;obtain⟨h1,h2⟩:=DP J;refine⟨λi L=> ?_,λc y D=> ?_⟩
    ·cases i with
     |zero=>exact⟨x,G,by simp[Aa]⟩
     |succ i=>
      obtain⟨y,q1,q2⟩:=h1 i (by grind);refine⟨y,q1,?_⟩
      grind [Aa,DN]
    ·simp only[Aa]at D;cases hb:Nat.beq b c<;>rw[hb]at D
     ·obtain⟨i,q1,q2⟩:=h2 c y D;exact⟨i+1,by grind,by omega⟩
     simp_all
   grind
  grind
theorem Hf:∀{keys:List Nat} {b:Nat} {A:List (Nat×Row)},BX aC b keys=some A->
  (∀i,i<keys.length->∃x,Aa aC (nth 0 keys i)=some x/\Aa A (b+i)=some x)/\∀c x,Aa A c=some x->∃i,i<keys.length/\c=b+i
 |[],b,A,h=>by grind [BX,Aa]
 |k::keys,b,A,h=>by
  simp only[BX]at h;split at h
  ·rename_i x E;split at h
   ·rename_i l G;simp at h;subst h;obtain⟨h1,h2⟩:=Hf G;refine⟨λi J=> ?_,λc y D=> ?_⟩
    ·cases i with
     |zero=>exact⟨x,E,by simp[Aa]⟩
     |succ i=>
      obtain⟨y,q1,q2⟩:=h1 i (by grind);refine⟨y,q1,?_⟩
      grind [Aa,DN]
    ·simp only[Aa]at D;cases hb:Nat.beq b c<;>rw[hb]at D
     ·obtain⟨i,q1,q2⟩:=h2 c y D;exact⟨i+1,by grind,by omega⟩
     simp_all
   grind
  grind
def C8 {α β:Type} (A:Nat->Nat) (g:α->β):List (Nat×α)->List (Nat×β)->List (Nat×β)
 |[],l=>l
 |(k,b)::m,l=>C8 A g m (ins l (A k) (g b))
theorem HJ (A ri:Nat->Nat):∀(m:List (Nat×Box)) (l:List (Nat×Box)),DC A ri m l=C8 A (λb=>⟨b.ty,b.cells.map (AC.ren A ri)⟩) m l
 |[],_=>rfl
 |(_,_)::m,_=>by simp only[DC,C8];exact HJ A ri m _
theorem JO (ri:Nat->Nat):∀(m:List (Nat×Row)) (l:List (Nat×Row)),CK ri m l=C8 ri (λb=>b) m l
 |[],_=>rfl
 |(_,_)::m,_=>by simp only[CK,C8];exact JO ri m _
theorem GD {α β:Type} {rk:Nat->Nat} {g:α->β}:∀{m:List (Nat×α)} {l:List (Nat×β)},(m.map (·.1)).Nodup->(∀k∈m.map (·.1),∀j∈m.map (·.1),rk k=rk j->k=j)->(∀k∈m.map (·.1),Aa l (rk k)=none)->
  (∀k b,Aa m k=some b->Aa (C8 rk g m l) (rk k)=some (g b))/\(∀n,(∀k∈m.map (·.1),n≠rk k)->Aa (C8 rk g m l) n=Aa l n)
 |[],l,_,_,_=>⟨λk b h=>by grind [Aa],λn _=>rfl⟩
 |(j,c)::m,l,A,E,J=>by
  simp only[av,df]at A;have G:∀k∈m.map (·.1),rk k≠rk j:=λk D e=>A.1 (by grind);obtain⟨h1,h2⟩:=GD (rk:=rk) (g:=g) (m:=m) (l:=ins l (rk j) (g c)) A.2 (λk D q L=>E k (by grind) q (by grind)) (λk D=>by grind [Bd])
  grind [Aa,Bs,Nat.eq_of_beq_eq_true,C8,Bd]
theorem D3 {α:Type}:∀(ks:List Nat) (l:List (Nat×α)) (n:Nat),Aa (A2 ks l) n=if n∈ks then none else Aa l n
 |[],l,n=>by rfl
 |k::ks,l,n=>by
  simp only[A2];rw[D3 ks];by_cases h:n=k
  ·simp_all [FG]
  grind [DQ]
theorem Ev {α:Type}:∀{l:List (Nat×α)} {k:Nat},k∈l.map (·.1)↔∃b,Aa l k=some b
 |[],k=>by simp[Aa]
 |(j,c)::l,k=>by
  simp only[av,an,Aa];cases hb:Nat.beq j k
  ·simp only[aj,<-Ev (l:=l)]
   grind [Cn]
  simp_all
theorem DR {α:Type} {names:List Nat}:∀{l:List (Nat×α)} {k:Nat},k∈Aw names l↔k∈l.map (·.1)/\ ¬(base<=k/\k-base<names.length)
 |[],k=>by simp[Aw]
 |(j,c)::l,k=>by
  simp only[Aw,av,an];cases hb:(Nat.ble base j&&Nat.blt (j-base) names.length)
  ·have A: ¬(base<=j/\j-base<names.length):=by
    rintro⟨h1,h2⟩;have e1:=bz h1;have e2:Nat.blt (j-base) names.length=true:=bz h2;rw[e1,e2]at hb;cases hb
   simp only[aj,an,DR (l:=l)];constructor
   ·grind
   grind
  ·simp only[af]at hb;have A:base<=j/\j-base<names.length:=⟨al hb.1,al hb.2⟩;simp only[ac,DR (l:=l)];constructor
   ·grind
   grind
theorem ED {names fresh:List Nat} {d k:Nat} (h:base<=k/\k-base<names.length):AA names fresh d k=nth 0 names (k-base):=by
 unfold AA;rw[bz h.1,show Nat.blt (k-base) names.length=true from bz h.2];rfl
theorem Th {names fresh:List Nat} {d k:Nat} (h: ¬(base<=k/\k-base<names.length)):AA names fresh d k=100000+100*d+pos fresh k:=by
 unfold AA;have:(Nat.ble base k&&Nat.blt (k-base) names.length)=false:=by
  apply Bool.eq_false_iff.2;intro hb;simp only[af]at hb;exact h ⟨al hb.1,al hb.2⟩
 grind
theorem ME {α β:Type} {names:List Nat} {d:Nat} {A:List (Nat×α)} {l:List (Nat×β)} (G:names.Nodup) (J:∀k∈names,∃b,Aa l k=some b)
  (L:∀k∈Aw names A,Aa l (AA names (Aw names A) d k)=none):
  ∀k∈A.map (·.1),∀j∈A.map (·.1),AA names (Aw names A) d k=AA names (Aw names A) d j->k=j:=by
 intro k N j O he;by_cases D:base<=k/\k-base<names.length<;>by_cases E:base<=j/\j-base<names.length
 ·rw[ED D,ED E]at he;have:=de (pos names) he
  grind [ER]
 ·grind [DR,ED,Cc]
 ·grind [DR,ED,Cc]
 grind [Th,OZ,DR]
noncomputable def DJ {α:Type} (m:List (Nat×α)) (bk:Nat->Nat) (n:Nat):Option Nat:= @dite _ (∃k∈m.map (·.1),bk k=n) (Classical.propDecidable _) (λh=>some (Classical.choose h)) (λ_=>none)
theorem Im {α:Type} {m:List (Nat×α)} {bk:Nat->Nat} (A:∀k∈m.map (·.1),∀j∈m.map (·.1),bk k=bk j->k=j) {k:Nat} (D:k∈m.map (·.1)):DJ m bk (bk k)=some k:=by
 unfold DJ;have h:∃j∈m.map (·.1),bk j=bk k:=⟨k,D,rfl⟩
 grind
theorem Ie {α:Type} {m:List (Nat×α)} {bk:Nat->Nat} {n:Nat} (h:∀k∈m.map (·.1),n≠bk k):DJ m bk n=none:=by
 unfold DJ
 grind
theorem Ny:∀(ids:List Nat) {v:TV} {x:Value},TVR ρ w v x->TVR ρ w (Cz ids v) x
 |[],_,_,h=>h
 |_::l,_,_,h=>Ny l (TV.kill_TVR h)
theorem Nn:∀(ids:List Nat) {v:TV},TV.wf aB aC v->TV.wf aB aC (Cz ids v)
 |[],_,h=>h
 |_::l,_,h=>Nn l (TV.kill_wf h)
theorem Jc {id j:Nat} {a:AC} (h:AC.free j a):AC.free j (a.kill id):=by
 cases a with
 |own i w n=>simp only[AC.kill];cases Nat.beq i id<;>first|exact h|trivial
 |rptr i n s=>simp only[AC.kill];cases Nat.beq i id<;>first|exact h|trivial
 |_=>trivial
theorem Uu {id j:Nat} {v:TV} (h:TV.free j v):TV.free j (v.kill id):=by
 cases v with
 |v g cs=>
  intro a A;simp only[am]at A;obtain⟨b,hb,rfl⟩:=A;exact Jc (h b hb)
 |tup ps=>
  intro p D a A;simp only[am]at D;obtain⟨q,E,rfl⟩:=D;simp only[am]at A;obtain⟨b,hb,rfl⟩:=A;exact Jc (h q E b hb)
 |vD=>trivial
theorem KI {j:Nat}:∀(ids:List Nat) {v:TV},TV.free j v->TV.free j (Cz ids v)
 |[],_,h=>h
 |_::l,_,h=>KI l (Uu h)
theorem MY:∀(ids:List Nat) (v:TV),∀id∈ids,TV.free id (Cz ids v)
 |[],_,id,h=>by grind
 |i::l,v,id,h=>by
  simp only[an]at h;by_cases e:id∈l
  ·exact MY l (v.kill i) id e
  ·have:id=i:=h.resolve_right e;subst this;exact KI l (TV.kill_free id v)
theorem Mq:∀(ids:List Nat) (b:Box),(AX ids b).ty=b.ty
 |[],_=>rfl
 |_::l,b=>by rw[AX,Mq l];rfl
theorem M0:∀(ids:List Nat) {b:Box} {xs:List Value},CL (CC ρ w) b.cells xs->CL (CC ρ w) (AX ids b).cells xs
 |[],_,_,h=>h
 |i::l,b,_,h=>M0 l (b:=b.kill i) h.kill
theorem MV:∀(ids:List Nat) {b:Box},(∀a∈b.cells,AC.wf aB aC a)->∀a∈(AX ids b).cells,AC.wf aB aC a
 |[],_,h=>h
 |i::l,b,h=>MV l (b:=b.kill i) (λa A=>by grind [Box.kill,AC.kill_wf])
theorem Ld {j:Nat}:∀(ids:List Nat) {b:Box},(∀a∈b.cells,AC.free j a)->∀a∈(AX ids b).cells,AC.free j a
 |[],_,h=>h
 |i::l,b,h=>Ld l (b:=b.kill i) (λa A=>by grind [Box.kill,Jc])
theorem LQ:∀(ids:List Nat) (b:Box),∀id∈ids,∀a∈(AX ids b).cells,AC.free id a
 |[],_,id,h=>by grind
 |i::l,b,id,h=>by
  simp only[an]at h;by_cases e:id∈l
  ·exact LQ l (b.kill i) id e
  ·have:id=i:=h.resolve_right e;subst this;exact Ld l (b:=b.kill id) (λa A=>by grind [Box.kill,AC.kill_free])
end
open Go.RowKit
section
variable {P:Program} {C:Cfg} {ρ:Env} {w:World} {R:Type} {Z:Base} {tm:List TV} {aB:List (Nat×Box)} {aC:List (Nat×Row)} {tmps:Array Value}
theorem LV {k:Nat} {b:Box} (h:Aa aB k=some b):Bv aB k=b.cells:=by grind [Bv]
def Dw (ρ:Env) (keys ids:List Nat):Env:=⟨λc=>ρ.bx (nth 0 keys (c-base)),λc=>ρ.rv (nth 0 ids (c-base)),λc=>ρ.wd (nth 0 ids (c-base)),ρ.im⟩
def C1 (w:World) (ρ:Env) (keys ids:List Nat):Nat->Prop:=λb=>b<w.heap.size/\(∀k∈keys,ρ.bx k≠b)/\∀id∈ids,(ρ.rv id).ownBlock≠some b
theorem P4 (A:RelE Z tm aB aC ρ tmps w) {keys ids:List Nat} {N:List (Nat×Box)} {O:List (Nat×Row)}
  (D:AZ aB (λk=>base+pos keys k) (λi=>base+pos ids i) base keys=some N) (E:BX aC base ids=some O):Gt (C1 w ρ keys ids) w:=by
 obtain⟨b1,b2⟩:=DP D;obtain⟨Q,S⟩:=Hf E;refine Z.gt.mono λg cs _ G=>⟨⟨A.fs g G,λk J e=> ?_,λid L e=> ?_⟩,A.fr.block g G⟩
 ·obtain⟨x,q,_⟩:=b1 (pos keys k) (A4 J).1;rw[(A4 J).2]at q;obtain⟨_,_,_,q2⟩:=A.bx k x q
  grind
 ·obtain⟨x,q,_⟩:=Q (pos ids id) (A4 L).1;rw[(A4 L).2]at q;exact(A.ro id x q).2.2.1 g e G
theorem Hn (J:RelE Z tm aB aC ρ tmps w) {args:List TV} {xs:List Value} (h1:xs.length=args.length)
  (h2:∀(i:Nat) (a:TV) (x:Value),args[i]? =some a->xs[i]? =some x->TVR ρ w a x) (a4:∀v∈args,TV.wf aB aC v) {keys ids:List Nat} (b0:keys.Nodup) (a7:ids.Nodup)
  (U:∀v∈args,TV.inK keys ids v=true) (O:∀k∈keys,Ab (AC.inK keys ids) (Bv aB k)=true) {V:List (Nat×Box)} {mr:List (Nat×Row)}
  (X:AZ aB (λk=>base+pos keys k) (λi=>base+pos ids i) base keys=some V) (Y:BX aC base ids=some mr):
  RelE (BA (C1 w ρ keys ids) w (Dw ρ keys ids) V (P4 J X Y)) (args.map (TV.ren (λk=>base+pos keys k) (λi=>base+pos ids i))) V mr (Dw ρ keys ids) xs.toArray w:=by
 obtain⟨b1,b2⟩:=DP X;obtain⟨r1,r2⟩:=Hf Y;have eb:∀k,k∈keys->(Dw ρ keys ids).bx (base+pos keys k)=ρ.bx k:=λk E=>by
  show ρ.bx (nth 0 keys (base+pos keys k-base))=_;simp_all [A4]
 have er:∀i,i∈ids->(Dw ρ keys ids).rv (base+pos ids i)=ρ.rv i/\(Dw ρ keys ids).wd (base+pos ids i)=ρ.wd i:=λi A=>by
  constructor
  ·show ρ.rv (nth 0 ids (base+pos ids i-base))=_;simp_all [A4]
  ·show ρ.wd (nth 0 ids (base+pos ids i-base))=_;simp_all [A4]
 have wb:∀k,k∈keys->(∃b,Aa aB k=some b)->∃b,Aa V (base+pos keys k)=some b:=λk E _=>by
  obtain⟨x,_,q⟩:=b1 (pos keys k) (A4 E).1
  grind
 have wr:∀i r,i∈ids->Aa aC i=some r->∃r',Aa mr (base+pos ids i)=some r'/\r'.n=r.n/\r'.w=r.w:=λi r A Q=>by
  obtain⟨x,q1,q⟩:=r1 (pos ids i) (A4 A).1;simp_all [A4]
 have S:∀c x,Aa V c=some x->∃i G,i<keys.length/\c=base+i/\Aa aB (nth 0 keys i)=some G/\x=⟨G.ty,G.cells.map (AC.ren (λk=>base+pos keys k) (λi=>base+pos ids i))⟩:=by
  intro c x L;obtain⟨i,A,rfl⟩:=b2 c x L;obtain⟨G,q1,q2⟩:=b1 i A;rw[L]at q2;simp at q2;exact⟨i,G,A,rfl,q1,q2⟩
 have lr:∀c x,Aa mr c=some x->∃i,i<ids.length/\c=base+i/\Aa aC (nth 0 ids i)=some x:=by
  intro c x L;obtain⟨i,A,rfl⟩:=r2 c x L;obtain⟨G,q1,q2⟩:=r1 i A;rw[L]at q2;simp at q2;subst q2;exact⟨i,A,rfl,q1⟩
 have xb:∀i,(Dw ρ keys ids).bx (base+i)=ρ.bx (nth 0 keys i):=λi=>by
  show ρ.bx (nth 0 keys (base+i-base))=_;simp
 have xr:∀i,(Dw ρ keys ids).rv (base+i)=ρ.rv (nth 0 ids i):=λi=>by
  show ρ.rv (nth 0 ids (base+i-base))=_;simp
 have xw:∀i,(Dw ρ keys ids).wd (base+i)=ρ.wd (nth 0 ids i):=λi=>by
  show ρ.wd (nth 0 ids (base+i-base))=_;simp
 have a0:∀i j,i<keys.length->j<keys.length->nth 0 keys i=nth 0 keys j->i=j:=λi j A T e=>by grind [ER]
 have a1:∀i j,i<ids.length->j<ids.length->nth 0 ids i=nth 0 ids j->i=j:=λi j A T e=>by grind [ER]
 refine⟨by grind,λi v A=> ?_,λv hv=> ?_,λk b E a N=> ?_,λk b E=> ?_,λk k' b b' E a5 he=> ?_,λid r Q=> ?_,λid id' r r' g Q a6 hg a2=> ?_,λk b id r E Q=> ?_,λb hb=>⟨(J.ib b hb).1,λk bo E=> ?_,λid r Q=> ?_⟩,Fr.refl _ _,λk h=>h.1,λb h=>h,λb h=> .inl h,λk b E=> ?_⟩
 ·simp only[bn,ap]at A;obtain⟨a,N,rfl⟩:=A;have a3:i<xs.length:=by rw[h1];exact(bc.1 N).1
  have e:xs.toArray.getD i undef=xs[i]:=by simp[Array.getD,a3]
  rw[e];exact Np (Kp:=(· ∈keys)) (Ip:=(· ∈ids)) eb er rfl (TV.nm_of_inK (U a (ay N))) (h2 i a _ N (ah a3))
 ·simp only[am]at hv;obtain⟨a,N,rfl⟩:=hv;exact Ln (Kp:=(· ∈keys)) (Ip:=(· ∈ids)) wb wr (TV.nm_of_inK (U a N)) (a4 a N)
 ·obtain⟨i,G,A,rfl,q1,rfl⟩:=S k b E;simp only[am]at N;obtain⟨c,L,rfl⟩:=N;have D:=O _ (Cc A);rw[LV q1]at D;exact Gq (Kp:=(· ∈keys)) (Ip:=(· ∈ids)) wb wr (AC.nm_of_inK (Af.1 D c L)) (J.wb _ G q1 c L)
 ·obtain⟨i,G,A,rfl,q1,rfl⟩:=S k b E;obtain⟨arr,p1,p2,p3⟩:=J.bx _ G q1;have D:=O _ (Cc A);rw[LV q1]at D;refine⟨arr,by grind,Fu (Kp:=(· ∈keys)) (Ip:=(· ∈ids)) eb er rfl (λc L=>AC.nm_of_inK (Af.1 D c L)) p2,?_⟩;rw[xb];exact λhf=>hf.2.1 _ (Cc A) rfl
 ·obtain⟨i,G,A,rfl,q1,_⟩:=S k b E;obtain⟨j,y0,T,rfl,q2,_⟩:=S k' b' a5;rw[xb,xb]at he;rw[a0 i j A T (J.bi _ _ _ _ q1 q2 he)]
 ·obtain⟨i,A,rfl,q1⟩:=lr id r Q;obtain⟨p1,p2,p0,ys,p3,p4⟩:=J.ro _ r q1;exact⟨p1,by grind,λg hg hf=>hf.2.2 _ (Cc A) (by grind),ys,by grind,p4⟩
 ·obtain⟨i,A,rfl,q1⟩:=lr id r Q;obtain⟨j,T,rfl,q2⟩:=lr id' r' a6;rw[xr]at hg a2;rw[a1 i j A T (J.ri _ _ _ _ g q1 q2 hg a2)]
 ·obtain⟨i,G,A,rfl,q1,_⟩:=S k b E;obtain⟨j,T,rfl,q2⟩:=lr id r Q;rw[xr,xb];exact J.br _ _ _ _ q1 q2
 ·obtain⟨i,G,A,rfl,q1,_⟩:=S k bo E;rw[xb];exact(J.ib b hb).2.1 _ _ q1
 ·obtain⟨i,A,rfl,q1⟩:=lr id r Q;rw[xr];exact(J.ib b hb).2.2 _ _ q1
 grind [BA,Option.map_eq_some_iff]
noncomputable def Ba (ρ D:Env) (E:List (Nat×Box)) (A:List (Nat×Row)) (bk bi:Nat->Nat):Env:=
 ⟨λn=>match DJ E bk n with|some k=>D.bx k|none=>ρ.bx n,λn=>match DJ A bi n with|some k=>D.rv k|none=>ρ.rv n,λn=>match DJ A bi n with|some k=>D.wd k|none=>ρ.wd n,D.im⟩
theorem Gm (T:RelE Z tm aB aC ρ tmps w) {keys ids:List Nat} (f0:keys.Nodup) (d9:ids.Nodup) {mb A:List (Nat×Box)} {mr D:List (Nat×Row)}
  (f1:AZ aB (λk=>base+pos keys k) (λi=>base+pos ids i) base keys=some mb) (f2:BX aC base ids=some mr) {v:TV} {x:Value} {ρ2:Env} {w':World}
  {hG:Gt (C1 w ρ keys ids) w} (J:RelE (BA (C1 w ρ keys ids) w (Dw ρ keys ids) mb hG) [v] A D ρ2 #[x] w') {d:Nat}
  (a2:(A.map (·.1)).Nodup) (c6:(D.map (·.1)).Nodup) (f3:∀k∈Aw keys A,Aa aB (AA keys (Aw keys A) d k)=none) (f4:∀k∈Aw ids D,Aa aC (AA ids (Aw ids D) d k)=none):
  let bk:=AA keys (Aw keys A) d
  let bi:=AA ids (Aw ids D) d
  RelE Z (tm.map (Cz ids)) (DC bk bi A ((A2 keys aB).map λp=>(p.1,AX ids p.2))) (CK bi D (A2 ids aC)) (Ba ρ ρ2 A D bk bi) tmps w'/\
   TVR (Ba ρ ρ2 A D bk bi) w' (v.ren bk bi) x/\TV.wf (DC bk bi A ((A2 keys aB).map λp=>(p.1,AX ids p.2))) (CK bi D (A2 ids aC)) (v.ren bk bi):=by
 intro bk bi;obtain⟨b1,b2⟩:=DP f1;obtain⟨r1,r2⟩:=Hf f2;have b3:∀k∈keys,∃b,Aa aB k=some b:=λk O=>by
  obtain⟨x,q,_⟩:=b1 (pos keys k) (A4 O).1
  grind [A4]
 have b4:∀k∈ids,∃b,Aa aC k=some b:=λk O=>by
  obtain⟨x,q,_⟩:=r1 (pos ids k) (A4 O).1
  grind [A4]
 have c2:∀k∈A.map (·.1),∀j∈A.map (·.1),bk k=bk j->k=j:=ME f0 b3 f3;have c3:∀k∈D.map (·.1),∀j∈D.map (·.1),bi k=bi j->k=j:=ME d9 b4 f4
 have f5:∀i,i<keys.length->(∃b,Aa A (base+i)=some b)/\ρ2.bx (base+i)=ρ.bx (nth 0 keys i):=by
  intro i hi;obtain⟨x0,_,q⟩:=b1 i hi;obtain ⟨p1, bo, p2⟩ := J.k0 (base + i) (ρ.bx (nth 0 keys i)) (by
   simp only[BA,q,Option.map_some];show some (ρ.bx (nth 0 keys (base+i-base)))=_;simp)
  exact⟨⟨bo,p2⟩,p1⟩
 have g3:∀i,i<keys.length->bk (base+i)=nth 0 keys i:=λi hi=>by grind [ED]
 have g4:∀i,i<ids.length->bi (base+i)=nth 0 ids i:=λi hi=>by grind [ED]
 have e0:∀k∈A.map (·.1),(∃i,i<keys.length/\k=base+i/\bk k=nth 0 keys i)\/(Aa aB (bk k)=none):=by
  intro k O;by_cases hc:base<=k/\k-base<keys.length
  ·grind
  ·grind [DR]
 have e3:∀k∈D.map (·.1),(∃i,i<ids.length/\k=base+i/\bi k=nth 0 ids i)\/(Aa aC (bi k)=none):=by
  intro k O;by_cases hc:base<=k/\k-base<ids.length
  ·grind
  ·grind [DR]
 have f6:∀n b,Aa aB n=some b->n∉keys->∀k∈A.map (·.1),n≠bk k:=by
  rintro n b N E k O rfl;rcases e0 k O with⟨i,hi,_,e⟩|e
  ·grind [Cc]
  ·grind
 have e4:∀n b,Aa aC n=some b->n∉ids->∀k∈D.map (·.1),n≠bi k:=by
  rintro n b N E k O rfl;rcases e3 k O with⟨i,hi,_,e⟩|e
  ·grind [Cc]
  ·grind
 have V:∀k,(∃b,Aa A k=some b)->(Ba ρ ρ2 A D bk bi).bx (bk k)=ρ2.bx k:=λk O=>by
  simp only[Ba,Im c2 (Ev.2 O)]
 have a0:∀k,(∃b,Aa D k=some b)->(Ba ρ ρ2 A D bk bi).rv (bi k)=ρ2.rv k/\(Ba ρ ρ2 A D bk bi).wd (bi k)=ρ2.wd k:=λk O=>by
  constructor<;>simp only[Ba,Im c3 (Ev.2 O)]
 have X:∀n,(∃b,Aa aB n=some b)->(Ba ρ ρ2 A D bk bi).bx n=ρ.bx n:=by
  rintro n ⟨b,N⟩;by_cases E:n∈keys
  ·obtain⟨p1,p2⟩:=A4 E
   grind
  ·grind [Ba,Ie]
 have a1:∀n,(∃b,Aa aC n=some b)->n∉ids->(Ba ρ ρ2 A D bk bi).rv n=ρ.rv n/\(Ba ρ ρ2 A D bk bi).wd n=ρ.wd n:=by
  rintro n ⟨b,N⟩ E;constructor<;>simp only[Ba,Ie (e4 n b N E)]
 have f7:=J.fr.size;have d0:∀n b,Aa aB n=some b->n∉keys->C1 w ρ keys ids (ρ.bx n):=λn b N E=>
  ⟨T.bxlt N,λk O e=>by obtain⟨b',a2⟩:=b3 k O;exact E (by rw[<-T.bi k n b' b a2 N e];exact O),λid hid=>by obtain⟨r,hr⟩:=b4 id hid;exact T.br n b id r N hr⟩
 have c0:∀n r g,Aa aC n=some r->n∉ids->(ρ.rv n).ownBlock=some g->C1 w ρ keys ids g:=λn r g N E hg=>
  ⟨(T.rwlt N hg).2,λk O e=>by obtain⟨b',a2⟩:=b3 k O;exact T.br k b' n r a2 N (by grind),λid hid e=>by obtain⟨r',c6⟩:=b4 id hid;exact E (by rw[<-T.ri id n r' r g c6 N e hg];omega)⟩
 have e5:∀b,ρ.im b->C1 w ρ keys ids b:=λb hb=>
  ⟨(T.ib b hb).1,λk O=>by obtain⟨b',a2⟩:=b3 k O;exact(T.ib b hb).2.1 k b' a2,λid hid=>by obtain⟨r,hr⟩:=b4 id hid;exact(T.ib b hb).2.2 id r hr⟩
 have fz:∀b,Z.F b->C1 w ρ keys ids b:=λb hb=>
  ⟨T.fs b hb,λk O e=>by obtain⟨b',a2⟩:=b3 k O;obtain⟨_,_,_,q⟩:=T.bx k b' a2;grind,λid hid e=>by obtain⟨r,hr⟩:=b4 id hid;exact(T.rwlt hr e).1 hb⟩
 have hold:∀b,C1 w ρ keys ids b->w'.heap[b]? =w.heap[b]? :=λb hb=>J.fr.block b hb;have d1:∀b,ρ.im b->ρ2.im b:=λb hb=>J.i0 b hb;have b5:∀b,ρ2.im b->ρ.im b\/ ¬C1 w ρ keys ids b:=λb hb=>J.i1 b hb
 have f8:∀k∈A.map (·.1),Aa ((A2 keys aB).map λp=>(p.1,AX ids p.2)) (bk k)=none:=by
  intro k O;rw[BV (AX ids),D3];rcases e0 k O with⟨i,hi,_,e⟩|e
  ·grind
  ·grind
 have f9:∀k∈D.map (·.1),Aa (A2 ids aC) (bi k)=none:=by
  intro k O;rw[D3];rcases e3 k O with⟨i,hi,_,e⟩|e
  ·grind
  ·grind
 obtain⟨d2,d3⟩:=GD (rk:=bk) (g:=λb:Box=>(⟨b.ty,b.cells.map (AC.ren bk bi)⟩:Box)) a2 c2 f8;obtain⟨d5,e6⟩:=GD (rk:=bi) (g:=λb:Row=>b) c6 c3 f9;rw[HJ,JO];generalize hB:C8 bk (λb:Box=>(⟨b.ty,b.cells.map (AC.ren bk bi)⟩:Box)) A ((A2 keys aB).map λp=>(p.1,AX ids p.2))=B' at d2 d3⊢;generalize g5:C8 bi (λb:Row=>b) D (A2 ids aC)=R' at d5 e6⊢;have U:∀n b,Aa B' n=some b->(∃k L,Aa A k=some L/\n=bk k/\b=⟨L.ty,L.cells.map (AC.ren bk bi)⟩)\/(n∉keys/\∃L,Aa aB n=some L/\b=AX ids L):=by
  intro n b N;by_cases hc:∃k∈A.map (·.1),n=bk k
  ·obtain⟨k,O,rfl⟩:=hc;obtain⟨L,g0⟩:=Ev.1 O
   grind
  ·rw[d3 n (λk O e=>hc ⟨k,O,e⟩),BV (AX ids),D3]at N
   grind [Option.map_eq_some_iff]
 have Y:∀n r,Aa R' n=some r->(∃k,Aa D k=some r/\n=bi k)\/(n∉ids/\Aa aC n=some r):=by
  intro n r N;by_cases hc:∃k∈D.map (·.1),n=bi k
  ·obtain⟨k,O,rfl⟩:=hc;obtain⟨L,g0⟩:=Ev.1 O
   grind
  ·grind [D3]
 have a7:∀n b,Aa aB n=some b->∃b',Aa B' n=some b':=by
  intro n b N;by_cases E:n∈keys
  ·obtain⟨p1,p2⟩:=A4 E
   grind
  ·rw[d3 n (f6 n b N E),BV (AX ids),D3,cd E,N];simp
 have c4:∀n r,Aa aC n=some r->n∉ids->Aa R' n=some r:=by
  intro n r N E;rw[e6 n (e4 n r N E),D3,cd E,N]
 let Q:AC->Prop:=λa=>AC.wf aB aC a/\∀id∈ids,AC.free id a
 have c1:∀a,Q a->a.agree ρ (Ba ρ ρ2 A D bk bi):=by
  rintro a ⟨S,hf⟩;have hp:∀l:List AC,(∀a∈l,AC.wfP aB a)->∀a∈l,a.agreeP ρ (Ba ρ ρ2 A D bk bi):=by
   intro l hl c hc;have:=hl c hc;cases c<;>first|exact X _ this|trivial
  cases a with
  |ptr k o=>exact X k S
  |bsl k o=>exact X k S
  |own id _ _=>obtain⟨r,h1,_⟩:=S;exact a1 id ⟨r,h1⟩ (λhm=>hf id hm rfl)
  |rptr id _ _=>obtain⟨r,h1,_⟩:=S;exact a1 id ⟨r,h1⟩ (λhm=>hf id hm rfl)
  |clo f fs cs=>exact⟨hp fs S.1,hp cs S.2⟩
  |_=>trivial
 have e8:∀(a:AC) (y:Value),Q a->CC ρ w a y->CC (Ba ρ ρ2 A D bk bi) w' a y:=λa y hq hy=>CC.mono (ρ':=Ba ρ ρ2 A D bk bi) d1 (λb hb=>hold b (e5 b hb)) a y (c1 a hq) hy;have c5:∀a,Q a->AC.wf B' R' a:=by
  rintro a ⟨S,hf⟩;cases a with
  |ptr k o=>obtain⟨b,hb⟩:=S;exact a7 k b hb
  |bsl k o=>obtain⟨b,hb⟩:=S;exact a7 k b hb
  |own id _ _=>obtain⟨r,h1,h2⟩:=S;exact⟨r,c4 id r h1 (λhm=>hf id hm rfl),h2⟩
  |rptr id _ _=>obtain⟨r,h1,h2⟩:=S;exact⟨r,c4 id r h1 (λhm=>hf id hm rfl),h2⟩
  |vptr=>exact S
  |clo f fs cs=>exact⟨λc hc=>AC.wfP_mono a7 (S.1 c hc),λc hc=>AC.wfP_mono a7 (S.2 c hc)⟩
  |_=>trivial
 have d6:∀a,AC.wf A D a->AC.wf B' R' (a.ren bk bi):=λa S=>
  Gq (Kp:=λk=>∃b,Aa A k=some b) (Ip:=λi=>∃r,Aa D i=some r) (λk _ ⟨b,hb⟩=>⟨_,d2 k b hb⟩) (λi r _ hr=>⟨r,d5 i r hr,rfl,rfl⟩) (AC.nm_of_wf S) S
 have g1:∀v∈tm.map (Cz ids),TV.wf aB aC v/\∀id∈ids,TV.free id v:=by
  intro v hv;simp only[am]at hv;obtain⟨u,hu,rfl⟩:=hv;exact⟨Nn ids (T.wt u hu),λid hid=>MY ids u id hid⟩
 have e9:∀v∈tm.map (Cz ids),(match v with| .v _ cs=>∀a∈cs,Q a| .tup ps=>∀p∈ps,∀a∈p.2,Q a| .vD=>True):=by
  intro v hv;obtain⟨h1,h2⟩:=g1 v hv;cases v with
  |vD=>trivial
  |v g cs=>exact λa S=>⟨h1 a S,λid hid=>h2 id hid a S⟩
  |tup ps=>exact λp hp a S=>⟨h1 p hp a S,λid hid=>h2 id hid p hp a S⟩
 have qB:∀n L,Aa aB n=some L->∀a∈(AX ids L).cells,Q a:=λn L N a S=>⟨MV ids (T.wb n L N) a S,λid hid=>LQ ids L id hid a S⟩;have b6:TV.wf A D v:=J.wt v (by simp);refine⟨⟨by grind [T.tl],λi v hi=> ?_,λv hv=> ?_,λn b N a S=> ?_,λn b N=> ?_,λn n' b b' N d7 he=> ?_,λn r N=> ?_,λn n' r r' g N d7 hg a3=> ?_,λn b m r N hm=> ?_,λb hb=>⟨(J.ib b hb).1,λn bo N=> ?_,λn r N=> ?_⟩,?_,?_,λb hb=>d1 b (T.i0 b hb),λb hb=> ?_,λk b O=> ?_⟩,?_,?_⟩
 ·have hv:=ay hi;simp only[bn,ap]at hi;obtain⟨u,hu,rfl⟩:=hi;exact TVR.mono2 e8 (e9 _ hv) (Ny ids (T.tv i u hu))
 ·have:=e9 v hv;cases v with
  |vD=>trivial
  |v g cs=>exact λa S=>c5 a (this a S)
  |tup ps=>exact λp hp a S=>c5 a (this p hp a S)
 ·rcases U n b N with⟨k,L,h1,rfl,rfl⟩|⟨E,L,h1,rfl⟩
  ·simp only[am]at S;obtain⟨c,hc,rfl⟩:=S;exact d6 c (J.wb k L h1 c hc)
  grind
 ·rcases U n b N with⟨k,L,h1,rfl,rfl⟩|⟨E,L,h1,rfl⟩
  ·obtain⟨arr,q1,q2,q3⟩:=J.bx k L h1;refine⟨arr,by rw[V k ⟨L,h1⟩];exact q1,Fu (Kp:=λk=>∃b,Aa A k=some b) (Ip:=λi=>∃r,Aa D i=some r) V a0 rfl (λc hc=>AC.nm_of_wf (J.wb k L h1 c hc)) q2,?_⟩;rw[V k ⟨L,h1⟩];exact λhf=>q3 (fz _ hf)
  ·obtain⟨arr,q1,q2,q3⟩:=T.bx n L h1;rw[X n ⟨L,h1⟩];refine⟨arr,by grind [Mq],?_,q3⟩;exact(M0 ids q2).mono λa S y hy=>e8 a y (qB n L h1 a S) hy
 ·rcases U n b N with⟨k,L,h1,rfl,_⟩|⟨E,L,h1,_⟩<;>rcases U n' b' d7 with⟨k',a6,G,rfl,_⟩|⟨a4,a6,G,_⟩
  ·rw[V k ⟨L,h1⟩,V k' ⟨a6,G⟩]at he;rw[J.bi k k' _ _ h1 G he]
  ·rw[V k ⟨L,h1⟩,X n' ⟨a6,G⟩]at he;obtain⟨_,_,_,q3⟩:=J.bx k L h1;exact absurd (he▸d0 n' a6 G a4) q3
  ·rw[X n ⟨L,h1⟩,V k' ⟨a6,G⟩]at he;obtain⟨_,_,_,q3⟩:=J.bx k' a6 G;exact absurd (he▸d0 n L h1 E) q3
  ·rw[X n ⟨L,h1⟩,X n' ⟨a6,G⟩]at he;exact T.bi n n' _ _ h1 G he
 ·rcases Y n r N with⟨k,h1,rfl⟩|⟨E,h1⟩
  ·obtain⟨q1,q2,q0,ys,q3,q4⟩:=J.ro k r h1;obtain⟨e1,e2⟩:=a0 k ⟨r,h1⟩;rw[e1,e2];exact⟨q1,q2,λg hg hf=>q0 g hg (fz g hf),ys,q3,q4⟩
  ·obtain⟨q1,q2,q0,ys,q3,q4⟩:=T.ro n r h1;obtain⟨e1,e2⟩:=a1 n ⟨r,h1⟩ E;rw[e1,e2];exact⟨q1,q2,q0,ys,De q3 λg hg=>hold g (c0 n r g h1 E hg),q4.mono d1 (λb hb=>hold b (e5 b hb))⟩
 ·rcases Y n r N with⟨k,h1,rfl⟩|⟨E,h1⟩<;>rcases Y n' r' d7 with⟨k',G,rfl⟩|⟨a4,G⟩
  ·rw[(a0 k ⟨r,h1⟩).1]at hg;rw[(a0 k' ⟨r',G⟩).1]at a3;rw[J.ri k k' _ _ g h1 G hg a3]
  ·rw[(a0 k ⟨r,h1⟩).1]at hg;rw[(a1 n' ⟨r',G⟩ a4).1]at a3;obtain⟨_,_,q0,_⟩:=J.ro k r h1;exact absurd (c0 n' r' g G a4 a3) (q0 g hg)
  ·rw[(a1 n ⟨r,h1⟩ E).1]at hg;rw[(a0 k' ⟨r',G⟩).1]at a3;obtain⟨_,_,q0,_⟩:=J.ro k' r' G;exact absurd (c0 n r g h1 E hg) (q0 g a3)
  ·rw[(a1 n ⟨r,h1⟩ E).1]at hg;rw[(a1 n' ⟨r',G⟩ a4).1]at a3;exact T.ri n n' _ _ g h1 G hg a3
 ·rcases U n b N with⟨k,L,h1,rfl,_⟩|⟨E,L,h1,_⟩<;>rcases Y m r hm with⟨k',G,rfl⟩|⟨d8,G⟩
  ·rw[V k ⟨L,h1⟩,(a0 k' ⟨r,G⟩).1];exact J.br k L k' r h1 G
  ·rw[V k ⟨L,h1⟩,(a1 m ⟨r,G⟩ d8).1];intro e;obtain⟨_,_,_,q3⟩:=J.bx k L h1;exact q3 (c0 m r _ G d8 e)
  ·rw[X n ⟨L,h1⟩,(a0 k' ⟨r,G⟩).1];intro e;obtain⟨_,_,q0,_⟩:=J.ro k' r G;exact q0 _ e (d0 n L h1 E)
  ·rw[X n ⟨L,h1⟩,(a1 m ⟨r,G⟩ d8).1];exact T.br n L m r h1 G
 ·rcases U n bo N with⟨k,L,h1,rfl,_⟩|⟨E,L,h1,_⟩
  ·rw[V k ⟨L,h1⟩];exact(J.ib b hb).2.1 k L h1
  ·rw[X n ⟨L,h1⟩];rcases b5 b hb with a5|a5
   ·exact(T.ib b a5).2.1 n L h1
   grind
 ·rcases Y n r N with⟨k,h1,rfl⟩|⟨E,h1⟩
  ·rw[(a0 k ⟨r,h1⟩).1];exact(J.ib b hb).2.2 k r h1
  ·rw[(a1 n ⟨r,h1⟩ E).1];rcases b5 b hb with a5|a5
   ·exact(T.ib b a5).2.2 n r h1
   grind
 ·exact T.fr.trans ⟨J.fr.os,J.fr.tape,J.fr.output,J.fr.size,λk O=>hold k (fz k O)⟩
 ·exact λk O=>ax (T.fs k O) f7
 ·rcases b5 b hb with a5|a5
  ·exact T.i1 b a5
  grind
 ·obtain⟨q1,bo,q2⟩:=T.k0 k b O
  grind
 ·have g2:TVR ρ2 w' v x:=by simpa using J.tv 0 v rfl
  exact Np (Kp:=λk=>∃b,Aa A k=some b) (Ip:=λi=>∃r,Aa D i=some r) V a0 rfl (TV.nm_of_wf b6) g2
 ·exact Ln (Kp:=λk=>∃b,Aa A k=some b) (Ip:=λi=>∃r,Aa D i=some r) (λk _ ⟨b,hb⟩=>⟨_,d2 k b hb⟩) (λi r _ hr=>⟨r,d5 i r hr,rfl,rfl⟩) (TV.nm_of_wf b6) b6
theorem I1 {α:Type} {l:List (Nat×α)} {k:Nat} (h:D4 l k=true):Aa l k=none:=by grind [D4]
theorem NJ {α:Type} {c:Bool} {p:Option α} {q:α} (h:cond c p none=some q):c=true/\p=some q:=by grind
theorem NA {α:Type}:∀{l:List (Nat×α)} {k:Nat} {x y:α},Aa l k=some y->∀n,Aa (upd l k x) n=if n=k then some x else Aa l n
 |[],_,_,_,h,_=>by grind [Aa]
 |(j,c)::l,k,x,y,h,n=>by
  simp only[Aa,upd]at h⊢;cases A:Nat.beq j k
  ·rw[A]at h;simp only[aj,Aa]at h⊢;rw[NA h n]
   grind
  ·have:=ab A;subst this;simp only[ac,Aa];cases D:Nat.beq j n
   ·grind
   simp_all
theorem KO {id n':Nat} (a:AC):(∃w n,a= .own id w n/\a.relen id n'= .own id w n')\/a.relen id n'=a.kill id:=by
 cases a with
 |own j w n=>
  cases hb:Nat.beq j id
  ·simp_all [AC.relen,AC.kill]
  simp_all [AC.relen]
 |rptr j p q=>right;rfl
 |_=>right;rfl
theorem G7 {R A D:AC->Value->Prop} {id E:Nat} (h:∀a x,A a x->D (a.kill id) x->R (a.relen id E) x):∀{cs:List AC} {xs:List Value},CL A cs xs->CL D (cs.map (AC.kill id)) xs->CL R (cs.map (AC.relen id E)) xs
 |[],[],_,_=>trivial
 |a::cs,x::xs,h1,h2=>⟨h a x h1.1 h2.1,G7 h h1.2 h2.2⟩
 |[],_::_,h1,_=>h1.elim
 |_::_,[],h1,_=>h1.elim
theorem JS {keys ids:List Nat} {v:TV} (h:v.plainB=true):TV.inK keys ids v=true:=by
 cases v with
 |vD=>rfl
 |v g cs=>
  simp only[TV.plainB,TV.inK]at h⊢;rw[Af]at h⊢;intro a A;have:=h a A;cases a<;>simp[AC.plain]at this<;>rfl
 |tup ps=>
  simp only[TV.plainB,TV.inK]at h⊢;rw[Af]at h⊢;intro p D;have:=h p D;rw[Af]at this⊢;intro a A;have:=this a A;cases a<;>simp[AC.plain]at this<;>rfl
theorem PR {A ri:Nat->Nat} {a:AC} (h:a.calm=true):a.ren A ri=a:=by cases a<;>simp[AC.calm]at h<;>rfl
theorem FQ {A ri:Nat->Nat}:∀{l:List AC},Ab AC.calm l=true->l.map (AC.ren A ri)=l
 |[],_=>rfl
 |a::l,h=>by
  rw[Af]at h;simp only[av];rw[PR (h a (by simp)),FQ (Af.2 λx D=>h x (by grind))]
theorem JY {a:AC} (h:a.plain=true):a.calm=true:=by cases a<;>simp[AC.plain]at h<;>rfl
theorem Hl {A ri:Nat->Nat} {v:TV} (h:v.plainB=true):v.ren A ri=v:=by
 cases v with
 |vD=>rfl
 |v g cs=>grind [TV.plainB,Af,TV.ren,FQ,JY]
 |tup ps=>
  simp only[TV.plainB,Af]at h;simp only[TV.ren];congr 1
  conv=>rhs;rw[<-List.map_id ps]
  grind [List.map_congr_left,FQ,Af,JY]
theorem T5 (N:Ak P C) (Y:RelE Z tm aB aC ρ tmps w) {o:Oper} {a:Act} {f:FuncId} {args:List TV} {xs:List Value} (h1:xs.length=args.length)
  (h2:∀(i:Nat) (a:TV) (x:Value),args[i]? =some a->xs[i]? =some x->TVR ρ w a x) (h3:execOp a.eval o=callFunc f xs.toArray) (d3:∀v∈args,TV.wf aB aC v) {K:TV->St->Option R} {r:R} {g:Spec} (hg:C.spec f=some g) (d5:C.keepR f=true)
  (h:F5 g args tm aB aC K=some r) {next:Act->World->Prop} {Q:Exit->Act->World->Prop}
  (a6:∀(v:TV) (b3:List TV) (A:List (Nat×Box)) (G:List (Nat×Row)) (ρ':Env) (x:Value) (w':World),K v ⟨b3,A,G⟩=some r->RelE Z b3 A G ρ' tmps w'->TVR ρ' w' v x->TV.wf A G v->next (a.put o.dst x) w'):
  o.wp P a w next Q:=by
 unfold F5 at h;split at h
 ·rename_i id hid;split at h
  ·rename_i r0 O;have b4:∀v∈args,TV.inK [] [id] v=true:=by
    unfold It at hid;split at hid
    ·rename_i id' w0 n0 rest;cases hp:Ab TV.plainB rest<;>rw[hp]at hid
     ·grind
     ·simp only[ac,ag]at hid;subst hid;intro v hv;rcases an.1 hv with rfl|hv
      ·simp[TV.inK,Ab,AC.inK,Am]
      grind [JS,Af]
    ·grind
   obtain⟨v,⟨f1,f2⟩,hv,d6⟩:=(N.1 f g hg).run2 h;have b5:BX aC base [id]=some [(base,r0)]:=by simp[BX,O]
   have b6:=Hn Y h1 h2 d3 b8 (by simp) (keys:=[]) (ids:=[id]) b4 (λk D=>by grind) (show AZ aB _ _ base []=some []from rfl) b5;refine Et h3 ((N.2.2 f g hg d5 _ _ _ _ d6 _ xs b6).mono ?_);rintro e w' ⟨x,ρ2,he,c0,d7⟩;refine⟨x,he,?_⟩;split at hv
   ·rename_i k r' heq;simp only[Mem.mk.injEq]at heq;obtain⟨rfl,rfl⟩:=heq;obtain⟨hc,c5⟩:=NJ hv;simp only[af]at hc;obtain⟨⟨⟨c1,c2⟩,c3⟩,c4⟩:=hc;have ek:=ab c1;subst ek;have et:=ab c2;have d8:=Dd c3;simp only[An]at c5;obtain⟨e1,e2,-⟩:=Gm Y b8 (by simp) (show AZ aB _ _ base []=some []from rfl) b5 c0 (d:=o.dst.getD 0) (by simp) (by simp) (λk D=>by grind [Aw]) (λk D=>by rw[show Aw [id] [(base,r')]=[]from rfl]at D;grind)
    have f3:Aw [id] [(base,r')]=[]:=rfl;have a7:AA [id] (Aw [id] [(base,r')]) (o.dst.getD 0) base=id:=rfl;generalize f4:AA ([]:List Nat) (Aw ([]:List Nat) ([]:List (Nat×Box))) (o.dst.getD 0)=bk at e1 e2;generalize e8:AA [id] (Aw [id] [(base,r')]) (o.dst.getD 0)=bi at e1 e2 a7;have b1:∀n,Aa (DC bk bi ([]:List (Nat×Box)) ((A2 [] aB).map λp=>(p.1,AX [id] p.2))) n=(Aa aB n).map (Box.kill id):=λn=>BV (AX [id]) aB n;have d9:∀n,Aa (CK bi [(base,r')] (A2 [id] aC)) n=if n=id then some r' else Aa aC n:=by
     intro n;show Aa (ins (del id aC) (bi base) r') n=_;rw[a7];by_cases hn:n=id
     ·simp_all [Bs,FG]
     ·simp_all [Bd,DQ]
    have b2:∀n,Aa (aB.map λp=>(p.1,p.2.relen id r'.l.length)) n=(Aa aB n).map (Box.relen id r'.l.length):=λn=>BV (Box.relen id r'.l.length) aB n;have f5:∀n,Aa (upd aC id r') n=if n=id then some r' else Aa aC n:=NA O;generalize DC bk bi ([]:List (Nat×Box)) ((A2 [] aB).map λp=>(p.1,AX [id] p.2))=B1 at e1 b1;generalize CK bi [(base,r')] (A2 [id] aC)=R1 at e1 d9;have hinv:DJ [(base,r')] bi id=some base:=by rw[<-a7];exact Im (λa ha b hb _=>by grind) (by simp)
    have a4:(Ba ρ ρ2 [] [(base,r')] bk bi).rv id=ρ.rv id:=by
     simp only[Ba,hinv];rw[d7];show ρ.rv (nth 0 [id] (base-base))=_;rw[Nat.sub_self];rfl
    have S:∀k,(Ba ρ ρ2 [] [(base,r')] bk bi).bx k=ρ.bx k:=λk=>by grind [Ba,Ie]
    generalize Ba ρ ρ2 [] [(base,r')] bk bi=ρB at e1 e2 a4 S;have c6:=e1.ro id r' (by grind);have e9:=Y.ro id r0 O;have e0:r'.w=r0.w:=by show r'.ks.length=r0.ks.length;rw[d8]
    have J:∀(a:AC) (y:Value),CC ρ w a y->CC ρB w' (a.kill id) y->CC ρB w' (a.relen id r'.l.length) y:=by
     intro a y q1 q2;rcases KO (id:=id) (n':=r'.l.length) a with⟨w1,n1,rfl,e⟩|e
     ·rw[e];obtain⟨s1,s2,_⟩:=q1;refine⟨s1.trans a4.symm,by omega,?_⟩;obtain⟨_,_,_,ys,⟨_,o2⟩,_⟩:=c6
      grind
     ·grind
    have T:∀a:AC,AC.wf aB aC a->AC.wf B1 R1 (a.kill id)->AC.wf (aB.map λp=>(p.1,p.2.relen id r'.l.length)) (upd aC id r') (a.relen id r'.l.length):=by
     intro a q1 q2;rcases KO (id:=id) (n':=r'.l.length) a with⟨w1,n1,rfl,e⟩|e
     ·rw[e];obtain⟨r2,s1,s2,s3⟩:=q1;rw[O]at s1;simp only[ag]at s1;subst s1;exact⟨r',by grind,rfl,e0.trans s3⟩
     ·rw[e];refine AC.wf_mono (λk b D=> ?_) (λk r D=>⟨r,by grind,rfl,rfl⟩) q2;rw[b1]at D;rw[b2];cases hl:Aa aB k with
      |none=>grind
      |some L=>simp
    have U:∀k b,Aa (aB.map λp=>(p.1,p.2.relen id r'.l.length)) k=some b->∃L,Aa aB k=some L/\b=L.relen id r'.l.length/\Aa B1 k=some (L.kill id):=by
     intro k b D;rw[b2]at D;cases hl:Aa aB k with
     |none=>grind
     |some L=>grind
    have a3:∀n r,Aa (upd aC id r') n=some r->Aa R1 n=some r:=λn r hn=>by grind
    have e3:∀(ps:List (Bool×List AC)) (ys:List Value),TP ρ w ps ys->TP ρB w' (ps.map λp=>(p.1,p.2.map (AC.kill id))) ys->TP ρB w' (ps.map λp=>(p.1,p.2.map (AC.relen id r'.l.length))) ys:=by
     intro ps;induction ps with
     |nil=>simp
     |cons p ps ih=>
      intro ys q1 q2;obtain⟨gg,cs⟩:=p;cases ys with
      |nil=>exact q1.elim
      |cons y ys=>
       refine⟨?_,ih ys q1.2 q2.2⟩;have z1:=q1.1;have z2:=q2.1;cases gg
       ·grind
       grind [G7]
    refine a6 v _ _ _ ρB x w' c5 ⟨by grind [Y.tl],λi u hi=> ?_,λu hu=> ?_,λk b D a ha=> ?_,λk b D=> ?_,λk k' b b' D e4 he=> ?_,λn r hn=>e1.ro n r (a3 n r hn),λn n' r r2 g2 hn e5=>e1.ri n n' r r2 g2 (a3 n r hn) (a3 n' r2 e5),
     λk b n r D hn=> ?_,λb hb=> ?_,e1.fr,e1.fs,e1.i0,e1.i1,λk b D=> ?_⟩ (by grind [Hl]) (Dp c4)
    ·rw[bn]at hi;cases hl:tm[i]? with
     |none=>grind
     |some u0=>
      rw[hl]at hi;simp only[Option.map_some,ag]at hi;subst hi;have z1:=Y.tv i u0 hl;have z2:=e1.tv i (u0.kill id) (by rw[bn,hl];rfl);cases u0 with
      |vD=>trivial
      |v gg cs=>
       cases gg
       ·obtain⟨a1,t1,t2⟩:=z1;obtain⟨a2,X,t4⟩:=z2;subst t1;simp only[av,cw,a9,cy]at X;subst X;exact⟨_,rfl,J a1 _ t2 t4⟩
       ·obtain⟨y1,t1,t2⟩:=z1;obtain⟨y2,X,t4⟩:=z2;rw[t1]at X;simp only[Value.agg.injEq]at X;subst X;exact⟨y1,t1,G7 J t2 t4⟩
      |tup ps=>
       obtain⟨y1,t1,t2⟩:=z1;obtain⟨y2,X,t4⟩:=z2;rw[t1]at X;simp only[Value.tuple.injEq]at X;subst X;exact⟨y1,t1,e3 ps _ t2 t4⟩
    ·rw[am]at hu;obtain⟨u0,d0,rfl⟩:=hu;have z1:=Y.wt u0 d0;have z2:=e1.wt (u0.kill id) (am.2 ⟨u0,d0,rfl⟩);cases u0 with
     |vD=>trivial
     |v gg cs=>
      intro a ha;obtain⟨V,E,rfl⟩:=am.1 ha;exact T V (z1 V E) (z2 _ (am.2 ⟨V,E,rfl⟩))
     |tup ps=>
      intro p hp a ha;obtain⟨p0,d1,rfl⟩:=am.1 hp;obtain⟨V,E,rfl⟩:=am.1 ha;exact T V (z1 p0 d1 V E) (z2 _ (am.2 ⟨p0,d1,rfl⟩) _ (am.2 ⟨V,E,rfl⟩))
    ·obtain⟨L,q1,rfl,q2⟩:=U k b D;obtain⟨V,E,rfl⟩:=am.1 ha;exact T V (Y.wb k L q1 V E) (e1.wb k _ q2 _ (am.2 ⟨V,E,rfl⟩))
    ·obtain⟨L,q1,rfl,q2⟩:=U k b D;obtain⟨d2,s1,s2,s3⟩:=Y.bx k L q1;obtain⟨f0,s4,s5,s6⟩:=e1.bx k _ q2;have a5:w'.heap[ρ.bx k]? =w.heap[ρ.bx k]? :=c0.fr.block (ρ.bx k) ⟨(az.1 s1).1,λj hj=>by grind,λj hj=>by
      simp only[bg]at hj;subst hj;exact Y.br k L j r0 q1 O⟩
     rw[S,a5,s1]at s4;simp only[ag,Obj.cells.injEq]at s4;obtain⟨rfl,_⟩:=s4;exact⟨d2,by rw[S,a5];exact s1,G7 J s2 s5,by omega⟩
    ·obtain⟨L,q1,rfl,q2⟩:=U k b D;obtain⟨f6,f7,rfl,e6⟩:=U k' b' e4;exact e1.bi k k' _ _ q2 e6 he
    ·obtain⟨L,q1,rfl,q2⟩:=U k b D;exact e1.br k _ n r q2 (a3 n r hn)
    ·obtain⟨q1,q2,q3⟩:=e1.ib b hb
     grind
    ·obtain⟨q1,bo,q2⟩:=e1.k0 k b D;rw[b1]at q2;rw[b2];cases hl:Aa aB k with
     |none=>grind
     |some L=>grind
   grind
  grind
 grind
theorem P3 (L:Ak P C) (hR:RelE Z tm aB aC ρ tmps w) {o:Oper} {a:Act} {f:FuncId} {args:List TV} {xs:List Value} (h1:xs.length=args.length)
  (h2:∀(i:Nat) (a:TV) (x:Value),args[i]? =some a->xs[i]? =some x->TVR ρ w a x) (h3:execOp a.eval o=callFunc f xs.toArray) (a0:∀v∈args,TV.wf aB aC v) {K:TV->St->Option R} {r:R}
  (h:Ao C o.dst (.callM f args) ⟨tm,aB,aC⟩ K=some r) {next:Act->World->Prop} {Q:Exit->Act->World->Prop}
  (a1:∀(v:TV) (S:List TV) (A:List (Nat×Box)) (D:List (Nat×Row)) (ρ':Env) (x:Value) (w':World),K v ⟨S,A,D⟩=some r->RelE Z S A D ρ' tmps w'->TVR ρ' w' v x->TV.wf A D v->next (a.put o.dst x) w'):
  o.wp P a w next Q:=by
 simp only[Ao]at h;split at h
 ·rename_i g hg;have a2:=L.1 f g hg;cases a3:C.keepR f<;>rw[a3]at h
  case true=>
   simp only[ac]at h
   grind [T5]
  simp only[aj]at h;simp only[An]at h;generalize N:Ef aB 4 (As (cat AC.keys (cat TV.cellsOf args)) [])=keys at h;generalize hi:EO aB (cat TV.cellsOf args) keys=ids at h;clear N hi;cases hc:(Ab (TV.inK keys ids) args&&Ab (λk=>Ab (AC.inK keys ids) (Bv aB k)) keys&&AK keys&&AK ids)<;>rw[hc]at h
  ·grind
  ·simp only[ac]at h;simp only[af]at hc;obtain⟨⟨⟨c1,c2⟩,c3⟩,c4⟩:=hc;split at h
   ·rename_i mb mr T U;have V:=C_.1 c3;have J:=C_.1 c4;obtain⟨v,⟨E,G⟩,X,a4⟩:=a2.run h;have Y:=Hn hR h1 h2 a0 V J (λv X=>Af.1 c1 v X) (λk N=>Af.1 c2 k N) T U;refine Et h3 ((a4 _ xs Y).mono ?_);rintro e w' ⟨x,ρ2,he,a5⟩;dsimp only at X;cases O:(Ab (λp:Nat×Box=>B7 E p.1) mb&&AK (E.map (·.1))&&AK (G.map (·.1))&&Ab (λk=>D4 aB (AA keys (Aw keys E) (o.dst.getD 0) k)) (Aw keys E)&&Ab (λk=>D4 aC (AA ids (Aw ids G) (o.dst.getD 0) k)) (Aw ids G)&&Nat.ble (Aw keys E).length 100&&Nat.ble (Aw ids G).length 100)<;>rw[O]at X
    ·grind
    ·simp only[ac]at X;simp only[af]at O;obtain⟨⟨⟨⟨⟨⟨_,d2⟩,d3⟩,d4⟩,d5⟩,_⟩,_⟩:=O;obtain⟨e1,e2,e3⟩:=Gm hR V J T U a5 (d:=o.dst.getD 0) (C_.1 d2) (C_.1 d3) (λk N=>I1 (Af.1 d4 k N)) (λk N=>I1 (Af.1 d5 k N))
     grind
   grind
 grind
theorem RelE.cong {A:List (Nat×Box)} (h:RelE Z tm aB aC ρ tmps w) (J:∀k,Aa A k=Aa aB k):RelE Z tm A aC ρ tmps w:=by
 have G:∀a,AC.wf aB aC a->AC.wf A aC a:=λa=>AC.wf_mono (λk b D=>⟨b,by grind⟩) (λk r D=>⟨r,D,rfl,rfl⟩);exact⟨h.tl,h.tv,λv L=>TV.wf_mono G (h.wt v L),λk b D a E=>G a (h.wb k b (by grind) a E),
  λk b D=>h.bx k b (by grind),λk k' b b' D N=>h.bi k k' b b' (by grind) (by grind),h.ro,h.ri,
  λk b id r D=>h.br k b id r (by grind),λb hb=>⟨(h.ib b hb).1,λk bo D=>(h.ib b hb).2.1 k bo (by grind),(h.ib b hb).2.2⟩,
  h.fr,h.fs,h.i0,h.i1,λk b D=>⟨(h.k0 k b D).1,by rw[J];exact(h.k0 k b D).2⟩⟩
theorem L1 {keys:List Nat} (A:keys.Nodup):∀{m l:List (Nat×Box)},(m.map (·.1)).Nodup->(∀k∈m.map (·.1),base<=k/\k-base<keys.length)->(∀k∈keys,∃b,Aa l k=some b)->
  (∀k b,Aa m k=some b->Aa (AS keys m l) (nth 0 keys (k-base))=some b)/\(∀n,(∀k∈m.map (·.1),n≠nth 0 keys (k-base))->Aa (AS keys m l) n=Aa l n)
 |[],l,_,_,_=>⟨λk b h=>by grind [Aa],λn _=>rfl⟩
 |(j,c)::m,l,E,D,J=>by
  simp only[av,df]at E;have L:=D j (by simp);have N:∀k∈m.map (·.1),nth 0 keys (j-base)≠nth 0 keys (k-base):=λk G e=>by
   have O:=D k (by grind);have Q:=de (pos keys) e
   grind [ER]
  obtain⟨y,S⟩:=J _ (Cc L.2);obtain⟨h1,h2⟩:=L1 A (m:=m) (l:=upd l (nth 0 keys (j-base)) c) E.2 (λk G=>D k (by grind)) (λk G=>by grind [Bn,AY])
  grind [Aa,AS,Nat.eq_of_beq_eq_true,Bn,AY]
theorem GN {α:Type} {l:List (Nat×α)} {k:Nat} (h:B7 l k=true):∃b,Aa l k=some b:=by grind [B7]
theorem S4 {keys:List Nat} (L:keys.Nodup) {S A:List (Nat×Box)} (T:AZ aB (λk=>base+pos keys k) (λi=>base+pos [] i) base keys=some S)
  (h1:∀p∈S,B7 A p.1=true) (h2:∀p∈A,B7 S p.1=true) (h3:(A.map (·.1)).Nodup) (Y:∀p∈A,Ab AC.calm p.2.cells=true) (bi:Nat->Nat) (d:Nat) (k:Nat):
  Aa (AS keys A aB) k=Aa (DC (AA keys [] d) bi A ((A2 keys aB).map λp=>(p.1,AX [] p.2))) k:=by
 obtain⟨b1,b2⟩:=DP T;have E:∀k∈A.map (·.1),base<=k/\k-base<keys.length:=by
  intro k D;simp only[am]at D;obtain⟨p,U,rfl⟩:=D;obtain⟨b,hb⟩:=GN (h2 p U);obtain⟨i,X,e⟩:=b2 _ _ hb;omega
 have N:∀i,i<keys.length->∃b,Aa A (base+i)=some b:=by
  intro i X;obtain⟨x,_,q⟩:=b1 i X;exact GN (h1 _ (EY q))
 have V:∀k∈keys,∃b,Aa aB k=some b:=λk D=>by
  obtain⟨x,q,_⟩:=b1 (pos keys k) (A4 D).1
  grind [A4]
 have G:∀k∈A.map (·.1),AA keys [] d k=nth 0 keys (k-base):=λk D=>ED (E k D);obtain⟨u1,u2⟩:=L1 (l:=aB) L h3 E V;have J:∀n,Aa ((A2 keys aB).map λp=>(p.1,AX [] p.2)) n=if n∈keys then none else Aa aB n:=by
  intro n;rw[BV,D3];split
  ·rfl
  ·cases Aa aB n<;>rfl
 have O:∀k∈A.map (·.1),∀j∈A.map (·.1),AA keys [] d k=AA keys [] d j->k=j:=by
  intro k D j Q e;rw[G k D,G j Q]at e;have e':=de (pos keys) e;rw[ER L (E k D).2,ER L (E j Q).2]at e';have:=E k D;have:=E j Q;omega
 rw[HJ];obtain ⟨v1, v2⟩ := GD (rk := AA keys [] d) (g := λb : Box => (⟨b.ty, b.cells.map (AC.ren (AA keys [] d) bi)⟩ : Box)) (m := A) (l := (A2 keys aB).map λp => (p.1, AX [] p.2)) h3 O (λk D => by
  rw[J,G k D,cm (Cc (E k D).2)])
 by_cases D:k∈keys
 ·obtain⟨U,hn⟩:=A4 D;obtain⟨b,hb⟩:=N _ U;have e1:=u1 _ b hb;have e2:=v1 _ b hb;rw[G _ (Ev.2 ⟨b,hb⟩)]at e2;rw[show base+pos keys k-base=pos keys k from by omega,hn]at e1 e2;rw[e1,e2];have:=Y _ (EY hb);rw[FQ this]
 ·rw[u2 k (λj Q e=>D (by grind [Cc])),v2 k (λj Q e=>D (by grind [Cc])),J,cd D]
theorem OJ (L:Ak P C) (hR:RelE Z tm aB aC ρ tmps w) {o:Oper} {a:Act} {f:FuncId} {args:List TV} {xs:List Value} (h1:xs.length=args.length)
  (h2:∀(i:Nat) (a:TV) (x:Value),args[i]? =some a->xs[i]? =some x->TVR ρ w a x) (h3:execOp a.eval o=callFunc f xs.toArray) (Y:∀v∈args,TV.wf aB aC v) {K:TV->St->Option R} {r:R}
  (h:Ao C o.dst (.callD f args) ⟨tm,aB,aC⟩ K=some r) {next:Act->World->Prop} {Q:Exit->Act->World->Prop}
  (N:∀(v:TV) (U:List TV) (A:List (Nat×Box)) (D:List (Nat×Row)) (ρ':Env) (x:Value) (w':World),K v ⟨U,A,D⟩=some r->RelE Z U A D ρ' tmps w'->TVR ρ' w' v x->TV.wf A D v->next (a.put o.dst x) w'):
  o.wp P a w next Q:=by
 simp only[Ao]at h;split at h
 ·rename_i g hg;have a0:=L.1 f g hg;simp only[An]at h;generalize G:As (cat AC.keys (cat TV.cellsOf args)) []=keys at h;clear G;cases hc:(Ab (TV.inK keys []) args&&Ab (λk=>Ab AC.calm (Bv aB k)) keys&&AK keys)<;>rw[hc]at h
  ·grind
  ·simp only[ac]at h;simp only[af]at hc;obtain⟨⟨c1,c2⟩,c3⟩:=hc;have a1:Ab (λk=>Ab (AC.inK keys []) (Bv aB k)) keys=true:=by
    rw[Af]at c2⊢;intro k G;have:=c2 k G;rw[Af]at this⊢;intro b hb;have:=this b hb;cases b<;>simp[AC.calm]at this<;>rfl
   split at h
   ·rename_i mb J;have O:=C_.1 c3;obtain⟨v,⟨E,a2⟩,T,a3⟩:=a0.run h;have V:=Hn hR h1 h2 Y O b8 (λv T=>Af.1 c1 v T) (λk G=>Af.1 a1 k G) J (show BX aC base []=some []from rfl);refine Et h3 ((a3 _ xs V).mono ?_);rintro e w' ⟨x,ρ2,he,a4⟩;cases a2 with
    |cons _ _=>grind
    |nil=>
     dsimp only at T;cases S:(Ab (λp:Nat×Box=>B7 E p.1) mb&&Ab (λp:Nat×Box=>B7 mb p.1) E&&AK (E.map (·.1))&&Ab (λp:Nat×Box=>Ab AC.calm p.2.cells) E&&v.plainB)<;>rw[S]at T
     ·grind
     ·simp only[ac]at T;simp only[af]at S;obtain⟨⟨⟨⟨d1,d2⟩,d3⟩,d4⟩,d5⟩:=S;have a5:Aw keys E=[]:=by
       apply List.eq_nil_iff_forall_not_mem.2;intro k G;obtain⟨q1,q2⟩:=DR.1 G;simp only[am]at q1;obtain⟨p,hp,rfl⟩:=q1;obtain⟨b,hb⟩:=GN (Af.1 d2 p hp);obtain⟨i,hi,e⟩:=(DP J).2 _ _ hb;exact q2 (by omega)
      obtain⟨e1,e2,e3⟩:=Gm hR O b8 J (show BX aC base []=some []from rfl) a4 (d:=o.dst.getD 0) (C_.1 d3) b8 (λk G=>by grind) (λk G=>by grind [Aw]);rw[a5]at e1 e2 e3;have a6:=S4 O J (Af.1 d1) (Af.1 d2) (C_.1 d3) (Af.1 d4) (AA [] (Aw [] ([]:List (Nat×Row))) (o.dst.getD 0)) (o.dst.getD 0);have X:=e1.cong a6;have a7:tm.map (Cz [])=tm:=by
       conv=>rhs;rw[<-List.map_id tm]
       rfl
      rw[a7]at X;rw[Hl d5]at e2;exact⟨x,he,N _ _ _ _ _ x w' T X e2 (Dp d5)⟩
   grind
 grind
theorem KK {rk ri:Nat->Nat}:∀{args:List TV},Ab TV.plainB args=true->args.map (TV.ren rk ri)=args
 |[],_=>rfl
 |a::l,h=>by
  simp only[Ab]at h;obtain⟨h1,h2⟩:=cond_none' h;simp only[av];rw[Hl h1,KK h2]
 where cond_none' {c p:Bool} (h:cond c p false=true):c=true/\p=true:=by grind
theorem JX (x:Nat):x.blt 0=false:=rfl
theorem Ot (j:Nat) (r:Row):Aw [] [(j,r)]=[j]:=by
 have A:(base.ble j&&(j-base).blt 0)=false:=by
  rw[JX,Bool.and_false]
 unfold Aw;simp only[List.length_nil,A,aj];rfl
theorem SR (j d:Nat):AA [] [j] d j=Dg d:=by
 have A:(base.ble j&&(j-base).blt 0)=false:=by
  rw[JX,Bool.and_false]
 unfold AA Dg;simp only[List.length_nil,A,aj,pos,Nat.beq_refl,ac,Nat.add_zero]
theorem Uc (U:Ak P C) (hR:RelE Z tm aB aC ρ tmps w) {o:Oper} {a:Act} {f:FuncId} {args:List TV} {xs:List Value} (h1:xs.length=args.length)
  (h2:∀(i:Nat) (a:TV) (x:Value),args[i]? =some a->xs[i]? =some x->TVR ρ w a x) (h3:execOp a.eval o=callFunc f xs.toArray) (b0:∀v∈args,TV.wf aB aC v) {K:TV->St->Option R} {r:R}
  (h:Ao C o.dst (.callF f args) ⟨tm,aB,aC⟩ K=some r) {next:Act->World->Prop} {Q:Exit->Act->World->Prop}
  (J:∀(v:TV) (a0:List TV) (A:List (Nat×Box)) (D:List (Nat×Row)) (ρ':Env) (x:Value) (w':World),K v ⟨a0,A,D⟩=some r->RelE Z a0 A D ρ' tmps w'->TVR ρ' w' v x->TV.wf A D v->next (a.put o.dst x) w'):
  o.wp P a w next Q:=by
 simp only[Ao]at h;split at h
 ·rename_i g hg;have b1:=U.1 f g hg;cases V:Ab TV.plainB args<;>rw[V]at h
  ·grind
  simp only[ac]at h;obtain⟨v,⟨b2,L⟩,G,b3⟩:=b1.run h;have O:=Hn hR h1 h2 b0 b8 b8 (keys:=[]) (ids:=[]) (λv G=>JS (Af.1 V v G)) (λk hk=>by grind) (show AZ aB _ _ base []=some []from rfl) (show BX aC base []=some []from rfl);rw[KK V]at O;refine Et h3 ((b3 _ xs O).mono ?_);rintro e w' ⟨x,ρ2,he,a1⟩;have a2:tm.map (Cz [])=tm:=by
   conv=>rhs;rw[<-List.map_id tm]
   rfl
  have X:(A2 [] aB).map (λp=>(p.1,AX [] p.2))=aB:=by
   conv=>rhs;rw[<-List.map_id aB]
   rfl
  cases b2 with
  |cons _ _=>grind
  |nil=>
  have a3:(L.map (·.1)).Nodup->(∀k∈Aw [] L,Aa aC (AA [] (Aw [] L) (o.dst.getD 0) k)=none)->_:=λd1 d2=>
   Gm hR b8 b8 (show AZ aB _ _ base []=some []from rfl) (show BX aC base []=some []from rfl) a1 (d:=o.dst.getD 0) (by simp) d1 (λk hk=>by grind [Aw]) d2
  cases L with
  |nil=>
   dsimp only at G;cases Y:v.plainB<;>rw[Y]at G
   ·grind
   simp only[ac]at G;obtain⟨e1,e2,e3⟩:=a3 (by simp) (λk hk=>by grind [Aw]);rw[a2,X]at e1;rw[Hl Y]at e2;exact⟨x,he,J _ _ _ _ _ x w' G e1 e2 (Dp Y)⟩
  |cons p l=>
   obtain⟨k,E⟩:=p;cases l with
   |cons _ _=>grind
   |nil=>
    dsimp only at G;split at G
    ·rename_i j w0 n0;cases N:Nat.beq j k<;>rw[N]at G
     ·grind
     simp only[ac]at G;have N:=ab N;subst N;split at G
     ·grind
     rename_i b4;simp only[An]at G;have hf:=Ot j E;have hb:=SR j (o.dst.getD 0);obtain⟨e1,e2,e3⟩:=a3 (by simp) (λk hk=>by grind);rw[a2,X]at e1;rw[X]at e3;have b5:=a1.wt (.v false [.own j w0 n0]) (by simp) (.own j w0 n0) (by simp);obtain⟨r1,a4,b6,c0⟩:=b5;simp only[Aa,Nat.beq_refl,ac,ag]at a4;subst a4;have S:TV.ren (AA [] (Aw ([]:List Nat) ([]:List (Nat×Box))) (o.dst.getD 0)) (AA [] (Aw [] [(j,E)]) (o.dst.getD 0)) (.v false [.own j w0 n0])= .c (.own (Dg (o.dst.getD 0)) E.ks.length E.l.length):=by
      simp only[TV.ren,av,cw,AC.ren,hf,hb];rw[<-c0,<-b6]
     have T:CK (AA [] (Aw [] [(j,E)]) (o.dst.getD 0)) [(j,E)] (A2 [] aC)=ins aC (Dg (o.dst.getD 0)) E:=by
      simp only[CK,hf,hb,A2]
     have a5:=e1;rw[T]at a5;have a6:=e2;rw[S]at a6;have a7:=e3;rw[S,T]at a7;exact⟨x,he,J _ _ _ _ _ x w' G a5 a6 a7⟩
    grind
 grind
end
open Go.RowKit
section
variable {P:Program} {C:Cfg} {ρ:Env} {w:World} {R:Type} {Z:Base} {tm:List TV} {aB:List (Nat×Box)} {aC:List (Nat×Row)} {tmps:Array Value}
theorem Ol {g:Bool} {sz off:Nat} {cells:List AC} {v:TV} (A:Bb g sz cells off=some v) (hb:∀a∈cells,AC.wf aB aC a):TV.wf aB aC v:=by
 unfold Bb at A;cases g
 ·simp only[aj]at A;split at A
  ·rename_i c E;simp at A;subst A;intro c' G;grind
  grind
 ·simp only[ac]at A;cases D:Nat.ble (off+sz) cells.length<;>rw[D]at A
  ·grind
  ·simp at A;subst A;intro c E;exact hb c (bv (ca E))
theorem SK {a L:TV} (A:a.hasOwn=false) (G:a.res aC=some L):a=L:=by
 have N:∀(cs D:List AC),cs.any AC.isOwn=false->Bt aC cs=some D->cs=D:=by
  intro cs;induction cs with
  |nil=>grind [Bt]
  |cons b cs O=>
   intro D A h;simp only[List.any_cons,Bool.or_eq_false_iff]at A;simp only[Bt]at h;split at h
   ·rename_i b' E;split at h
    ·rename_i Q J;simp at h;subst h;rw[O _ A.2 J];have h1:=A.1;cases b<;>simp only[AC.res]at E<;>first|(simp at E;done)|grind [AC.isOwn]|grind
    grind
   grind
 cases a with
 |vD=>grind [TV.res]
 |tup=>grind [TV.res]
 |v g cs=>
  simp only[TV.res]at G;split at G
  ·rename_i l h;simp at G;subst G;rw[N _ _ A h]
  grind
theorem N0 {t e:TypeId} {i:TypeInfo} {z:Value} (A:P.underlying t=some (.slice e)) (D:P.info? e=some i) (E:i.zero=some z) {kl kc:IntKind} {n:Nat} (hb:n*i.bytes<=140737488355328) (G:n<=140737488355328):
  ∃(w':World) (arr:Array Value),(Instr.makeSlice t (.int kl (n:Int)) (.int kc (n:Int))).run P w= .ok (.slice (some ⟨w.heap.size,0,none⟩) n n) w'/\w'=w.alloc (.cells arr e)/\
   arr.toList=(List.range (n*i.size)).map λj=>z.cells[j%z.cells.size]! :=by
 have e1:((n*i.bytes:Nat):Int)=(n:Int)*(i.bytes:Int):=Int.natCast_mul _ _;have e2:(i.bytes:Int)*(n:Int)<=281474976710656:=by rw[Int.mul_comm];omega
 have h:=run_make w t e i z A D E kl kc (n:Int) (n:Int) (by omega) (Int.le_refl _) e2 (by omega);rw[aw]at h;exact⟨_,madeCells z.cells (n*i.size),h,rfl,by simp[madeCells]⟩
theorem Js (a1:Ak P C) (O:RelE Z tm aB aC ρ tmps w) {o:Oper} {a:Act} {p:Prim} (hp:Dz P ρ w a.eval o p) (X:Prim.wf aB aC p) (g7:Prim.isApp (some p)=false) {K:TV->St->Option R} {r:R}
  (h:Ao C o.dst p ⟨tm,aB,aC⟩ K=some r) {next:Act->World->Prop} {Q:Exit->Act->World->Prop}
  (D:∀(v:TV) (e0:List TV) (a2:List (Nat×Box)) (b0:List (Nat×Row)) (ρ':Env) (x:Value) (w':World),K v ⟨e0,a2,b0⟩=some r->RelE Z e0 a2 b0 ρ' tmps w'->TVR ρ' w' v x->TV.wf a2 b0 v->next (a.put o.dst x) w'):
  o.wp P a w next Q:=by
 cases p with
 |val v=>
  obtain⟨x,h1,h2⟩:=hp;exact Cp h1 (D v _ _ _ ρ x w h O h2 X)
 |load g sz key off=>
  obtain⟨t,h1,h2,h3⟩:=hp;simp only[Ao]at h;split at h
  ·rename_i b S;split at h
   ·rename_i v V;obtain⟨arr,q1,q2,q3⟩:=O.bx key b S;obtain ⟨x, Y, q5⟩ := Hp (b := ρ.bx key) (o := 0) h1 h2 V q2 (λj y hj => by
     simp only[cz];rw[cell_of_row w _ j arr b.ty (0,0) q1]
     grind)
    rw[cz]at Y;rw[Y]at h3;refine Cp h3 (D v _ _ _ ρ x w h O q5 ?_);have hb:=O.wb key b S;unfold Bb at V;cases g
    ·simp only[aj]at V;split at V
     ·rename_i c G;simp at V;subst V;intro c' c0;grind
     grind
    ·simp only[ac]at V;cases b1:Nat.ble (off+sz) b.cells.length<;>rw[b1]at V
     ·grind
     ·simp at V;subst V;intro c G;exact hb c (bv (ca G))
   grind
  grind
 |store key off cs=>
  obtain⟨t,x,h1,h2,h3⟩:=hp;simp only[Ao]at h;split at h
  ·rename_i b S;cases hb:Nat.ble (off+cs.length) b.cells.length<;>rw[hb]at h
   ·grind
   ·simp only[ac,An]at h;have hle:=al hb;obtain⟨arr,q1,q2,q3⟩:=O.bx key b S;have hlen:=h2.length;rw[hlen]at h1 hle;have Y:=KV h1 q1 (by rw[<-bl,<-q2.length];exact hle) h2.one;rw[Y]at h3;refine Nr h3 (D .vD _ _ _ ρ undef _ h (O.store S ?_ ?_) trivial trivial)
    ·intro c G;rw[Ce _ _ _ (by omega)]at G;simp only[bt]at G;rcases G with(G|G)|G
     ·exact O.wb key b S c (ca G)
     ·exact X.2 c G
     ·exact O.wb key b S c (bv G)
    ·exact q2.splice off h2
  grind
 |new ty cs=>
  obtain⟨arr,h1,h2⟩:=hp;simp only[Ao]at h;split at h
  ·rename_i d hd;split at h
   ·grind
   ·rename_i hn;simp only[An]at h;refine Cp h2 (D _ _ _ _ _ _ _ h (O.new hn X h1) ?_ ?_)
    ·grind [TVR.c',CC,AE]
    ·intro c G;simp at G;subst G;exact⟨_,Bs _ _ _ hn⟩
  grind
 |newS ty n cs=>
  obtain⟨arr,h1,h2⟩:=hp;simp only[Ao]at h;split at h
  ·rename_i d hd;split at h
   ·grind
   ·rename_i hn;simp only[An]at h;refine Cp h2 (D _ _ _ _ _ _ _ h (O.new hn X h1) ?_ ?_)
    ·grind [TVR.c',CC,AE]
    ·intro c G;simp at G;subst G;exact⟨_,Bs _ _ _ hn⟩
  grind
 |rload g sz id idx sub=>
  obtain⟨t,b,h1,h2,hb,h3⟩:=hp;obtain⟨A,N,a3⟩:=X;simp only[Ao,N]at h;split at h
  ·rename_i v V;obtain⟨q1,q2,_,xs,q3,Y⟩:=O.ro id A N;have a5:A.l[idx]? =some A.l[idx]:=ah a3;have e8:=Y.2.2 idx _ a5;have hf:A.f idx=A.l[idx]:=by
    show Ap A.ks (nth [] A.l idx)=_;rw[Au,List.getD,a5];exact Y.2.1 _ (bq a3)
   have g8:FU w b (Cx (ρ.rv id)+idx*A.w) (cut xs (idx*A.w) A.w):=by
    intro j y hj;simp only[cut,b7]at hj;split at hj
    ·rw[bp]at hj;have:=EQ q3 hb (idx*A.w+j) y hj
     grind
    ·grind
   rw[hf]at V;obtain⟨x,q5,q6⟩:=Hp (b:=b) (o:=Cx (ρ.rv id)+idx*A.w) (ρ:=ρ) h1 h2 V (e8.mono λ_ _ _ hh=>Db hh) g8;rw[<-q2,dv]at q5;rw[q5]at h3;exact Cp h3 (D v _ _ _ ρ x w h O q6 (Ol V (PK e8)))
  grind
 |rstore id idx sub cs=>
  obtain⟨t,x,b,h1,h2,hb,h3⟩:=hp;obtain⟨A,N,a3⟩:=X;simp only[Ao,N]at h;cases G:(Nat.ble (sub+cs.length) A.w&&Ab AC.plain cs)<;>rw[G]at h
  ·grind
  ·simp only[ac]at h;split at h
   ·rename_i c c4;simp only[An]at h;simp only[af]at G;have hle:=al G.1;obtain⟨q1,q2,_,xs,q3,Y⟩:=O.ro id A N;have a5:A.l[idx]? =some A.l[idx]:=ah a3;have hf:A.f idx=A.l[idx]:=by
     show Ap A.ks (nth [] A.l idx)=_;rw[Au,List.getD,a5];exact Y.2.1 _ (bq a3)
    rw[hf]at c4;rcases q3.2 with⟨e1,e2⟩|⟨g',T,cap,cur,e1,e3,e4,e5,e6,e7⟩
    ·omega
    ·have g9:b=g':=by rw[e1]at hb;simp[Value.ownBlock]at hb;exact hb.symm
     subst g9;have hlen:=h2.length;have e9:=Y.1;have hbound:idx*A.w+sub+cs.length<=A.n*A.w:=by
      have:idx*A.w+A.w<=A.n*A.w:=by
       calc idx*A.w+A.w=(idx+1)*A.w:=by grind
        _<=A.n*A.w:=ba _ a3
      omega
     have h0:A.n*A.w<=cap*A.w:=ba _ e4;rw[q2]at h3;rw[hlen]at h1 hle hbound;have f0:Cx (ρ.rv id)=T:=by rw[e1];rfl
     rw[f0]at h3;have q5:=KV (off:=T+(idx*A.w+sub)) h1 e3 (by omega) h2.one;rw[q5]at h3;have f1:T+cap*A.w<=cur.toList.length:=by rw[bl];exact e6
     have i1:(splice cur.toList (T+(idx*A.w+sub)) x.cells.toList).drop T=splice (cur.toList.drop T) (idx*A.w+sub) x.cells.toList:=by
      rw[Ce _ _ _ (by omega),Ce _ _ _ (by grind),dt,c8 (by grind),List.drop_take,show T+(idx*A.w+sub)-T=idx*A.w+sub from by omega,dp,dt];congr 2;rw[dv]
     have j7:((splice cur.toList (T+(idx*A.w+sub)) x.cells.toList).drop T).take (A.n*A.w)=splice xs (idx*A.w+sub) x.cells.toList:=by
      rw[i1];have i2:cap*A.w<=(cur.toList.drop T).length:=by rw[cu];omega
      generalize cur.toList.drop T=L at e7 i2⊢;rw[Ce _ _ _ (by omega),Ce _ _ _ (by grind),<-e7];apply cg;intro j;simp only[b7,cb,cn,bh,bp];by_cases hj:j<A.n*A.w
      ·rw[cm hj];by_cases j1:j<idx*A.w+sub
       ·grind
       ·by_cases j2:j<idx*A.w+sub+x.cells.toList.length
        ·grind
        grind
      ·grind
     have i3: ¬ρ.im b:=λhi=>(O.ib b hi).2.2 id A N hb;have hold:∀k,k≠b->(w.setRow b (splice cur.toList (T+(idx*A.w+sub)) x.cells.toList).toArray).heap[k]? =w.heap[k]? :=λk S=>setRow_other w b k _ S;have b3:∀(a:AC) (y:Value),CP ρ.im w a y->CP ρ.im (w.setRow b (splice cur.toList (T+(idx*A.w+sub)) x.cells.toList).toArray) a y:=λa y hh=>CP.mono (λ_ h=>h) (λk S=>hold k (λe=>i3 (e▸S))) a y hh;have f2:CL (CP ρ.im w) c (splice (cut xs (idx*A.w) A.w) sub x.cells.toList)/\Ap A.ks c=c:=
      Gd c4 (((Y.2.2 idx _ a5).mono λ_ _ _ hh=>Db hh).splice sub h2)
     have U:=O.turnRow (id:=id) N (r':=⟨A.ty,A.ks,A.l.set idx c⟩) (v':=ρ.rv id)
      (xs:=splice xs (idx*A.w+sub) x.cells.toList) (w':=w.setRow b (splice cur.toList (T+(idx*A.w+sub)) x.cells.toList).toArray)
      ⟨rfl,rfl,rfl,by simp,λk _ S=>hold k (λe=>S (by grind))⟩ rfl
      ⟨by simp_all [Row.n,Eh], .inr ⟨b,T,cap,_,by grind,setRow_heap w b cur _ A.ty _ e3,by grind,e5,by grind [Eh],by grind⟩⟩
      ⟨by grind [Eh],λc' c0=>by
       rcases b9 c0 with c0|rfl
       ·exact Y.2.1 c' c0
       grind,λi c' hi=>by
       simp only[bw]at hi;by_cases d0:idx=i
       ·subst d0;rw[cm rfl,cm a3]at hi;simp at hi;subst hi;have e:=S9 xs x.cells.toList idx A.w sub A.n a3 e9 (by omega);show CL _ c (cut _ (idx*A.w) A.w);rw[e];exact f2.1.mono λa _ y hh=>b3 a y hh
       ·rw[cd d0]at hi;have j8:i<A.n:=(bc.1 hi).1;have e:=O_ xs x.cells.toList idx i A.w sub A.n a3 (λe=>d0 e.symm) e9 (by omega);show CL _ c' (cut _ (i*A.w) A.w);rw[e];exact(Y.2.2 i c' hi).mono λa _ y hh=>b3 a y hh⟩
      (.inl rfl) (.inl ⟨rfl,by grind⟩)
     exact Nr h3 (D .vD _ _ _ _ undef _ h U trivial trivial)
   grind
 |newRow el ks l=>
  obtain⟨arr,h1,h2,h3,h4⟩:=hp;simp only[Ao]at h;split at h
  ·rename_i d hd;split at h
   ·grind
   ·rename_i hn;simp only[An]at h;have hb:Below w.heap.size w (w.alloc (.cells arr el)):=(Below.refl _ _).alloc (bf _) _;have J:RowC ρ.im (w.alloc (.cells arr el)) ks l arr.toList:=h3.mono (λ_ h=>h) (λb E=>Below.heap_alloc w _ b (O.ib b E).1);have a6:=O.addRow (d:=C.rowAs d) hn (r:=⟨el,ks,l⟩) (v':= .slice (some ⟨w.heap.size,0,none⟩) l.length l.length) (xs:=arr.toList) (w':=w.alloc (.cells arr el)) hb h1
     ⟨h3.1, .inr ⟨w.heap.size,0,l.length,arr,rfl,heap_alloc_new w _,bf _,h2,by rw[<-bl,cz];exact Nat.le_of_eq h3.1.symm,by
      show List.take (l.length*ks.length) _=_;rw[<-h3.1,List.drop_zero,List.take_length]⟩⟩ J
     (λg hg=>by grind [Value.ownBlock])
    refine Cp h4 (D _ _ _ _ _ _ _ h a6 ?_ ?_)
    ·exact TVR.c' ⟨by grind [AE],by grind [AE], .inr ⟨_,_,_,rfl⟩⟩
    ·intro c G;simp at G;subst G;exact⟨_,Bs _ _ _ hn,rfl,rfl⟩
  grind
 |newView el ks l=>
  obtain⟨arr,h1,h2,h3,h4⟩:=hp;simp only[Ao]at h;have hb:Below w.heap.size w (w.alloc (.cells arr el)):=(Below.refl _ _).alloc (bf _) _;have J:RowC ρ.im (w.alloc (.cells arr el)) ks l arr.toList:=h3.mono (λ_ h=>h) (λb E=>Below.heap_alloc w _ b (O.ib b E).1);have hg:=O.growIm (im':=λb=>ρ.im b\/b=w.heap.size) hb (λb h=> .inl h) (λb h=>h.imp id λe=>by simp_all);refine Cp h4 (D _ _ _ _ _ _ _ h hg ?_ ?_)
  ·refine TVR.c' ?_;have c5:A_ (w.alloc (.cells arr el)) el ks.length (.slice (some ⟨w.heap.size,0,none⟩) l.length l.length) l.length arr.toList:=
    ⟨h3.1, .inr ⟨w.heap.size,0,l.length,arr,rfl,heap_alloc_new w _,bf _,h2,by rw[<-bl,cz];exact Nat.le_of_eq h3.1.symm,by rw[List.drop_zero,<-h3.1,List.take_length]⟩⟩
   exact Db (HS c5 (J.mono (λ_ h=> .inl h) (λ_ _=>rfl)) (λg hg=> .inr (by grind [Value.ownBlock])))
  ·intro c G;simp at G;subst G;trivial
 |make el ks bytes n z=>
  obtain⟨t,i,zv,kl,kc,h1,h2,h3,h4,h5,h6,h7,h8,h9,f3⟩:=hp;subst h5;simp only[Ao]at h;split at h
  ·rename_i d hd;split at h
   ·grind
   ·rename_i hn;cases G:(decide (0<=n)&&decide (n*(i.bytes:Int)<=140737488355328))<;>rw[G]at h
    ·grind
    ·simp only[ac,An]at h;simp only[af,bm]at G;have f4:((n.toNat:Nat):Int)=n:=cv G.1;have i4:zv.cells.toList.length=ks.length:=by
      rw[<-h9.length,<-h8];exact GH _ _
     have i5:n.toNat*i.bytes<=140737488355328:=by
      have h2:=G.2;rw[<-f4]at h2;have e1:((n.toNat*i.bytes:Nat):Int)=(n.toNat:Int)*(i.bytes:Int):=Int.natCast_mul _ _;omega
     have j9:n.toNat<=n.toNat*i.bytes:=cx _ h7;obtain⟨w',arr,p1,p2,p3⟩:=N0 (P:=P) (w:=w) (t:=t) (e:=el) (i:=i) (z:=zv) h1 h2 h3 (kl:=kl) (kc:=kc) (n:=n.toNat) i5 (by omega);rw[f4]at p1;rw[p1]at f3;subst p2;have d1:zv.cells.size=ks.length:=by rw[<-bl];exact i4
     have f5:arr.toList.length=n.toNat*ks.length:=by rw[p3,h4,d1];simp[d1]
     have j6:∀j,j<n.toNat->cut arr.toList (j*ks.length) ks.length=zv.cells.toList:=by
      intro j hj;have hle:j*ks.length+ks.length<=n.toNat*ks.length:=by
       calc j*ks.length+ks.length=(j+1)*ks.length:=by grind
        _<=n.toNat*ks.length:=ba _ hj
      apply cg;intro q;simp only[cut,b7,bp];by_cases hq:q<ks.length
      ·rw[cm hq,p3,h4,d1];rw[bn,List.getElem?_range (by omega)];simp_all [Nat.mod_eq_of_lt]
      ·grind
     have hb:Below w.heap.size w (w.alloc (.cells arr el)):=(Below.refl _ _).alloc (bf _) _;have d2:RowC ρ.im w ks (List.replicate n.toNat z) arr.toList:=by
      refine⟨by grind,λc G=> ?_,λj c hj=> ?_⟩
      ·grind
      ·grind
     have J:RowC ρ.im (w.alloc (.cells arr el)) ks (List.replicate n.toNat z) arr.toList:=d2.mono (λ_ h=>h) (λb E=>Below.heap_alloc w _ b (O.ib b E).1);have i6:(List.replicate n.toNat z).length=n.toNat:=by simp
     have a6:=O.addRow (d:=d) hn (r:=⟨el,ks,List.replicate n.toNat z⟩) (v':= .slice (some ⟨w.heap.size,0,none⟩) n.toNat n.toNat) (xs:=arr.toList) (w':=w.alloc (.cells arr el)) hb h6
      ⟨by grind, .inr ⟨w.heap.size,0,n.toNat,arr,by grind,heap_alloc_new w _,by grind,by grind [maxLen],by grind,by grind⟩⟩ J
      (λg hg=>by grind [Value.ownBlock])
     refine Cp f3 (D _ _ _ _ _ _ _ h a6 ?_ ?_)
     ·exact TVR.c' ⟨by grind [AE],by grind [AE], .inr ⟨_,_,_,by rw[i6]⟩⟩
     ·intro c G;simp at G;subst G;exact⟨_,Bs _ _ _ hn,by omega,rfl⟩
  grind
 |cutR id a=>
  simp only[Ao]at h;split at h
  ·rename_i A N;have hle:Nat.ble a A.l.length=true:=by
    cases hb:Nat.ble a A.l.length
    ·grind
    ·rfl
   rw[hle]at h;simp only[ac]at h;have hle:a<=A.n:=al hle;simp only[An]at h;obtain⟨q1,q2,_,xs,q3,Y⟩:=O.ro id A N;have hlen:(A.l.drop a).length=A.n-a:=by simp[Row.n]
   have key : ∃ ad cap, ρ.rv id = .slice ad A.n cap /\ A.n <= cap /\ (let v' : Value := .slice (if cap = a then ad else ad.map (·.add (a * ρ.wd id))) (A.n - a) (cap - a)
     v'.ownBlock=(ρ.rv id).ownBlock/\A_ w A.ty A.w v' (A.n-a) (xs.drop (a*A.w))/\((v'= .slice none 0 0/\A.n-a=0)\/∃g o c,v'= .slice (some ⟨g,o,none⟩) (A.n-a) c)):=by
    have f6:(xs.drop (a*A.w)).length=(A.n-a)*A.w:=by rw[cu,q3.1,Nat.sub_mul]
    rcases q3.2 with⟨e1,e2⟩|⟨g,T,cap,cur,e1,e3,e4,e5,e6,e7⟩
    ·refine⟨none,0,by grind,by omega,?_⟩;simp_all
    ·refine⟨_,cap,e1,e4,?_⟩;rw[e1,q2];by_cases f7:cap=a
     ·have g7:A.n=a:=by omega
      simp only[f7,cq];refine⟨rfl,⟨f6, .inr ⟨g,T,a-a,cur,rfl,e3,by omega,by omega,by grind,?_⟩⟩, .inr ⟨g,T,_,rfl⟩⟩
      grind
     ·simp only[f7,if_false,Option.map_some,Addr.add_lit];refine⟨rfl,⟨f6, .inr ⟨g,T+a*A.w,cap-a,cur,rfl,e3,by omega,by omega,?_,?_⟩⟩, .inr ⟨g,T+a*A.w,_,rfl⟩⟩
      ·rw[Nat.sub_mul];have:a*A.w<=cap*A.w:=ba _ (by omega);omega
      grind [List.drop_take,List.drop_drop]
   obtain⟨ad,cap,k1,k2,k3,k4,k5⟩:=key;have f8:=hp ad A.n cap k1 k2 hle;have d3:=O.kill id;have J:RowC ρ.im w A.ks (A.l.drop a) (xs.drop (a*A.w)):=by
    refine⟨by rw[cu,q3.1,cu,<-Nat.sub_mul],λc G=>Y.2.1 c (bv G),λi c hi=> ?_⟩;rw[bp]at hi;have:=Y.2.2 (a+i) c hi;have e:cut (xs.drop (a*A.w)) (i*A.ks.length) A.ks.length=cut xs ((a+i)*A.ks.length) A.ks.length:=by
     simp only[cut,dp,du]
    rw[e];exact this
   have U:=d3.turnRow (id:=id) N (r':=⟨A.ty,A.ks,A.l.drop a⟩) (v':=_) (xs:=xs.drop (a*A.w)) (w':=w) ⟨rfl,rfl,rfl,bf _,λ_ _ _=>rfl⟩ rfl (by grind) J (.inl k3)
    (.inr ⟨λv V=>by grind [TV.kill_free],λk b S a' d5=>by
     rw[BV]at S;cases hl:Aa aB k with
     |none=>grind
     |some b'=>grind [Box.kill,AC.kill_free]⟩)
   refine Cp f8 (D _ _ _ _ _ _ _ h U ?_ ?_)
   ·refine TVR.c' ⟨by grind [AE],by omega,?_⟩
    grind
   ·intro c G;simp at G;subst G;exact⟨_,Bn _ _ _ _ N,by omega,rfl⟩
  grind
 |append e ks bytes s x=>
  obtain⟨t,ty,i,z,sv,xv,h1,h2,h3,h4,h5,h6,h7,h8,h9⟩:=hp;subst h5;simp only[Ao]at h;split at h
  ·rename_i m f9;obtain⟨ad,c,news,rfl,J,b4⟩:=JF O f9 h8;split at h
   ·
    split at h
    ·rename_i d hd;split at h
     ·grind
     ·rename_i hn;cases hb:(Nat.ble 1 ks.length&&Nat.ble 1 i.bytes)<;>rw[hb]at h
      ·grind
      ·simp only[ac]at h;simp only[af]at hb;have k0:=al hb.1;have i7:=al hb.2;cases b1:Nat.ble (m.length*i.bytes) 140737488355328<;>rw[b1]at h
       ·grind
       ·simp only[ac,An]at h;have hbound:=al b1;have hm:m.length<=m.length*i.bytes:=cx _ (by omega);simp only[CC,CP]at h7;subst h7;obtain⟨v',w',q1,q2,q3,Y⟩:=H4 (P:=P) (ty:=ty) (c:=c) h1 h2 h3 h4 h6 (by omega) (Gf w e ks.length) J.1 b4 (J.one (by omega)) (by grind [maxLen]) (by grind);rw[q1]at h9;simp only[cz,dg]at q2;have a7:Below w.heap.size w w':=⟨q3.os,q3.tape,q3.output,q3.size,λk S=>q3.block k S (by simp[Value.ownBlock])⟩;have a6:=O.addRow (d:=d) hn (r:=⟨e,ks,m⟩) (v':=v') (xs:=news) (w':=w') a7 (by grind) q2
         (J.mono (λ_ h=>h) (λb E=>a7.block b (O.ib b E).1)) (λg' i9=>by grind [Value.ownBlock])
        refine Cp h9 (D _ _ _ _ _ _ _ h a6 ?_ ?_)
        ·refine TVR.c' ⟨by grind [AE],by grind [AE],?_⟩;rcases q2.2 with⟨e1,e2⟩|⟨g',T,cap,cur,e1,_⟩
         ·grind
         grind
        ·intro c G;simp at G;subst G;exact⟨_,Bs _ _ _ hn,rfl,rfl⟩
    grind
   ·
    rename_i id w1 n1;split at h
    ·rename_i A N;cases hb:(AV ks A.ks&&Nat.beq A.ty e&&Nat.ble 1 i.bytes)<;>rw[hb]at h
     ·grind
     ·simp only[ac]at h;simp only[af]at hb;have e1:=Dd hb.1.1;have e2:=ab hb.1.2;have i7:=al hb.2;subst e1 e2;cases b1:Nat.ble ((A.l++m).length*i.bytes) 140737488355328<;>rw[b1]at h
      ·grind
      ·simp only[ac,An]at h;have hbound:=al b1;rw[bh]at hbound;have hm:A.l.length+m.length<=(A.l.length+m.length)*i.bytes:=cx _ (by omega);obtain⟨q1,q2,_,xs,q3,Y⟩:=O.ro id A N;obtain⟨c1,c2,c3⟩:=h7;subst c1;obtain⟨v',w',p1,p2,p3,p4⟩:=H4 (P:=P) (ty:=ty) (c:=c) h1 h2 h3 h4 h6 q1 q3 J.1 b4 (J.one q1) (by simp only[maxLen,Row.n];omega) hbound;rw[p1]at h9;have d3:=O.kill id;have g0:∀b,ρ.im b->w'.heap[b]? =w.heap[b]? :=λb E=>p3.block b (O.ib b E).1 (λe=>(O.ib b E).2.2 id A N e.symm);have g1:=(Y.append J).mono (λ_ h=>h) g0;have U:=d3.turnRow (id:=id) N (r':=⟨A.ty,A.ks,A.l++m⟩) (v':=v') (xs:=xs++news) (w':=w') p3 rfl (by grind) g1
        (FA p4 (λx=>x) (λx g' i9=>by grind))
        (.inr ⟨λv V=>by grind [TV.kill_free],λk b S a' d5=>by
         rw[BV]at S;cases hl:Aa aB k with
         |none=>grind
         |some b'=>grind [Box.kill,AC.kill_free]⟩)
       refine Cp h9 (D _ _ _ _ _ _ _ h U ?_ ?_)
       ·refine TVR.c' ⟨by grind [AE],by omega,?_⟩;rcases p2.2 with⟨e1,e2⟩|⟨g',T,cap,cur,e1,_⟩
        ·grind
        grind
       ·intro c G;simp at G;subst G;exact⟨_,Bn _ _ _ _ N,by grind,rfl⟩
    grind
   grind
  grind
 |call f args=>
  obtain⟨xs,h1,h2,h3⟩:=hp;simp only[Ao]at h;split at h
  ·rename_i g hg;split at h
   ·rename_i as has;obtain⟨f5,j0⟩:=JI has;have j3:=a1.1 f g hg;obtain⟨v,mem',V,j4⟩:=j3.run h;split at V
    ·cases b2:((!(args.any TV.hasOwn)||v.flat)&&v.plainB)<;>rw[b2]at V
     ·grind
     ·simp only[ac]at V;simp only[af]at b2
      let b5:Nat->Prop:=λb=>ρ.im b\/(args.any TV.hasOwn=true/\∃id A,Aa aC id=some A/\(ρ.rv id).ownBlock=some b)
      have g2:∀b,b5 b->b<w.heap.size:=by
       rintro b (E|⟨_,id,A,N,E⟩)
       ·exact(O.ib b E).1
       ·exact(O.rwlt N E).2
      have c5:∀(i:Nat) (a0:TV),args[i]? =some a0->args.any TV.hasOwn=false->a0.hasOwn=false:=by
       intro i a0 d6 k6;cases hh:a0.hasOwn
       ·rfl
       ·grind
      have g3:∀(i:Nat) (a':TV) (x:Value),as[i]? =some a'->xs[i]? =some x->TVR {ρ with im:=b5} w a' x:=by
       intro i a' x d5 hx;obtain⟨_,a0,d6,N⟩:=j0 i a' d5;have g4:∀(a:AC) (y:Value),CP ρ.im w a y->CP b5 w a y:=λa y hh=>CP.mono (λ_ h=> .inl h) (λ_ _=>rfl) a y hh;cases b6:args.any TV.hasOwn
       ·grind [SK,Mu]
       ·refine Oe (aB:=aB) ?_ N (X a0 (ay d6)) (h2 i a0 x d6 hx);intro b b' y E hy k7;cases b<;>simp only[AC.res]at E<;>try (simp at E;done)
        case own id w1 n1=>
         split at E
         ·rename_i A c6;simp at E;subst E;obtain⟨q1,q2,_,ys,q3,Y⟩:=O.ro id A c6;obtain⟨c1,c2,c3⟩:=hy;subst c1;exact HS q3 (Y.mono (λ_ h=> .inl h) (λ_ _=>rfl)) (λg hg=> .inr ⟨b6,id,A,c6,hg⟩)
         grind
        all_goals
         simp at E;subst E;exact g4 _ _ hy
      have j5:Gt (λb=>b<w.heap.size) w:=Z.gt.mono λg cs _ hg=>⟨O.fs g hg,O.fr.block g hg⟩;have d7:RelE (BA (λb=>b<w.heap.size) w {ρ with im:=b5} [] j5) as [] [] {ρ with im:=b5} xs.toArray w:=by
       refine⟨by grind,λi a hi=> ?_,λa ha=> ?_,λk b S=>by grind [Aa],λk b S=>by grind [Aa],λk k' b b' S=>by grind [Aa],λid r hr=>by grind [Aa],
        λid id' r r' g hr=>by grind [Aa],λk b id r S=>by grind [Aa],λb hb=>⟨g2 b hb,λk bo S=>by grind [Aa],λid r hr=>by grind [Aa]⟩,Fr.refl _ _,λ_ h=>h,λ_ h=>h,λb h=> .inl h,λk b S=>by grind [BA,Aa]⟩
       ·have g5:i<xs.length:=by rw[h1,<-f5];exact(bc.1 hi).1
        have e:xs.toArray.getD i undef=xs[i]:=by simp[Array.getD,g5]
        rw[e];exact g3 i a _ hi (ah g5)
       ·grind [List.getElem?_of_mem,Dp]
      refine Et h3 ((j4 _ xs d7).mono ?_);rintro e w' ⟨x,ρ',he,a4⟩;have a7:Below w.heap.size w w':=⟨a4.fr.os,a4.fr.tape,a4.fr.output,a4.fr.size,λk S=>a4.fr.block k S⟩;have g6:TVR ρ' w' v x:=by simpa using a4.tv 0 v rfl
      by_cases b6:args.any TV.hasOwn=true
      ·have d8:v.flat=true:=by have:=b2.1;rw[b6]at this;simpa using this
       have d9:RelE Z tm aB aC ρ tmps w':=O.growIm (im':=ρ.im) a7 (λ_ h=>h) (λ_ h=> .inl h);exact⟨x,he,D v _ _ _ ρ x w' V d9 (Qx d8 g6) (Dp b2.2)⟩
      ·have d9 : RelE Z tm aB aC { ρ with im := ρ'.im } tmps w' := O.growIm a7 (λb hb => a4.i0 b (.inl hb)) (λb hb => by
        rcases a4.i1 b hb with E|E
        ·rcases E with E|⟨E,_⟩
         ·grind
         grind
        ·exact .inr ⟨Nat.not_lt.1 E,(a4.ib b hb).1⟩)
       exact⟨x,he,D v _ _ _ _ x w' V d9 (Mu (ρ:=ρ') (ρ2:={ρ with im:=ρ'.im}) b2.2 (λ_ _ _ h=>h) g6) (Dp b2.2)⟩
    grind
   grind
  grind
 |callM f args=>
  obtain⟨xs,h1,h2,h3⟩:=hp;exact P3 a1 O h1 h2 h3 X h D
 |callD f args=>
  obtain⟨xs,h1,h2,h3⟩:=hp;exact OJ a1 O h1 h2 h3 X h D
 |callF f args=>
  obtain⟨xs,h1,h2,h3⟩:=hp;exact Uc a1 O h1 h2 h3 X h D
 |appD e ks bytes s x=>grind [Prim.isApp]
theorem PW (E:Ak P C) (V:RelE Z tm aB aC ρ tmps w) {o:Oper} {a:Act} {p:Prim} (X:Dz P ρ w a.eval o p) (L:Prim.wf aB aC p) {K:TV->St->Option R} {r:R}
  (h:Ao C o.dst p ⟨tm,aB,aC⟩ K=some r) {next:Act->World->Prop} {Q:Exit->Act->World->Prop}
  (G:∀(v:TV) (J:List TV) (A:List (Nat×Box)) (D:List (Nat×Row)) (O:Env) (x:Value) (w':World),K v ⟨J,A,D⟩=some r->RelE Z J A D O tmps w'->TVR O w' v x->TV.wf A D v->next (a.put o.dst x) w'):
  o.wp P a w next Q:=by
 cases S:Prim.isApp (some p)
 ·grind [Js]
 ·cases p<;>simp[Prim.isApp]at S
  rename_i e ks bytes s x;by_cases N:s= .nilSl
  ·subst N;simp only[Ao]at h;split at h
   ·rename_i m hm;split at h
    ·rename_i d hd;have h':Ao C o.dst (.append e ks bytes .nilSl x) ⟨tm,aB,aC⟩ (λv s=>K v ⟨s.tmps.map (TV.kill d),s.aB.map λp=>(p.1,p.2.kill d),s.aC⟩)=some r:=by
      simp only[Ao,hm,hd];split at h
      ·omega
      ·grind [An]
     refine Js E V (p:= .append e ks bytes .nilSl x) X L rfl h' ?_;intro v J A D O y w' hK T hv U;refine G _ _ _ _ O y w' hK (T.kill d) hv ?_;have a0:∀k,Aa (A.map λp=>(p.1,p.2.kill d)) k=(Aa A k).map (Box.kill d):=λk=>BV (Box.kill d) A k;exact TV.wf_mono (λa=>AC.wf_mono (λk b Y=>⟨b.kill d,by grind⟩) (λk r Y=>⟨r,Y,rfl,rfl⟩)) U
    grind
   grind
  ·have h':Ao C o.dst (.append e ks bytes s x) ⟨tm,aB,aC⟩ K=some r:=by
    simp only[Ao]at h⊢;split at h
    ·grind
    ·omega
   exact Js E V (p:= .append e ks bytes s x) X L rfl h' G
end
open Go.RowKit
section
variable {P:Program} {C:Cfg} {R:Type}
theorem Io (op:BinOp) (k:IntKind) (a b:Int) (K:AC->Option R):Cu op k a b K=(Cu op k a b some).bind K:=by
 cases op<;>simp only[Cu,ak]
 all_goals grind
theorem GO {i:Int}:∀(n k:Nat) {R S:Type} (f:Nat->Option R) (K:R->Option S),Cl i n k (λj=>(f j).bind K)=(Cl i n k f).bind K
 |0,k,_,_,f,K=>rfl
 |n+1,k,_,_,f,K=>by
  simp only[Cl];rw[GO n (k+1) f K]
  grind
theorem H1 (g:Int->Int->Int) (k:IntKind):∀(l:List TV) (a:Int) (K:Prim->Option R),BP g k a l K=(BP g k a l some).bind K
 |[],a,K=>by rfl
 |t::l,a,K=>by
  unfold BP;split
  ·rename_i k' b;cases kEq k k'
   ·rfl
   ·exact H1 g k l (g a b) K
  ·rfl
theorem QT (b:Builtin) (A:List TypeId) (args:List TV) (K:Prim->Option R):DE P b A args K=(DE P b A args some).bind K:=by
 unfold DE;split
 case h_6=>grind [H1]
 case h_7=>grind [H1]
 case h_8=>
  split
  ·grind
  ·rfl
 all_goals
  grind
theorem Fw (A:Operand->TV) (dst:Option Tmp) (o:Op) (K:Prim->Option R):opK P C A dst o K=(opK P C A dst o some).bind K:=by
 cases o
 case pick c a b=>
  simp only[opK]
  grind
 case build t parts=>
  simp only[opK]
  grind
 case buildSlice t n parts=>
  simp only[opK];split
  ·grind
  ·rfl
 case makeSlice t len cap=>
  simp only[opK]
  grind
 case makeFunc E a b=>
  simp only[opK]
  grind
 case store t a x=>
  simp only[opK]
  grind
 case binOp op t x y G=>
  simp only[opK];split
  ·cases(kEq _ _||EK op)
   ·rfl
   ·simp only[ac];rename_i k a k' b _ _;have h2:=Io op k a b (λv=>(some (Prim.val (TV.c v)):Option Prim));rw[Io,h2]
    grind
  ·grind
  ·grind
  ·grind
  ·grind
  ·grind
  ·rfl
 case indexAddr t x D=>
  simp only[opK];split
  ·grind [GO]
  ·split
   ·grind
   ·grind
   ·cases(Nat.beq _ _)
    ·rfl
    ·simp only[ac];grind [GO]
   ·rfl
  ·rfl
 case index t x D=>
  simp only[opK]
  grind [GO]
 case slice t x lo J mx=>
  simp only[opK];split
  ·split
   ·grind
   ·grind
   ·grind
   ·rfl
  ·rfl
 case call c=>
  simp only[opK]
  grind [QT]
 all_goals
  simp only[opK]
  repeat' split
  all_goals rfl
end
open Go.RowKit
section
variable {P:Program} {C:Cfg} {R:Type} {aB:List (Nat×Box)} {aC:List (Nat×Row)}
theorem D_ {α:Type} {c:Bool} {p q:α} (h:cond c (some p) none=some q):c=true/\p=q:=by grind
theorem Gg (k:IntKind) (n:Int):TV.wf aB aC (.c (.int k n)):=by intro a A;simp at A;subst A;trivial
theorem B9 (b:Bool):TV.wf aB aC (.c (.bool b)):=by intro a A;simp at A;subst A;trivial
theorem AL {a:AC} (h:AC.wf aB aC a):TV.wf aB aC (.c a):=by intro b hb;grind
theorem BG {a:AC} (h:TV.wf aB aC (.c a)):AC.wf aB aC a:=h a (by simp)
theorem KL (v:Value):AC.wf aB aC (EJ v):=by
 unfold EJ;split<;>trivial
theorem IS:∀(l:List Value) (cs:List AC),Df l=some cs->∀a∈cs,AC.wf aB aC a
 |[],cs,h=>by grind [Df]
 |v::l,cs,h=>by
  simp only[Df]at h;cases E:v.oneCell'<;>rw[E]at h
  ·grind
  ·simp only[ac]at h;split at h
   ·rename_i D G;simp at h;subst h;intro a A;simp only[an]at A;rcases A with rfl|A
    ·exact KL v
    ·exact IS l D G a A
   grind
theorem Oj (v:Value):TV.wf aB aC (ofValue v):=by
 unfold ofValue;split
 ·split
  ·rename_i h;exact IS _ _ h
  ·trivial
 ·trivial
 grind [AL,KL]
theorem H8 {tm:List TV} (h:∀v∈tm,TV.wf aB aC v) (x:Operand):TV.wf aB aC (Ai tm x):=by
 cases x with
 |tmp t=>
  simp only[Ai,Au,List.getD];cases A:tm[t]? with
  |none=>trivial
  |some v=>grind
 |const v=>exact Oj v
 |global=>trivial
 |func=>trivial
theorem GV {t:TypeId} {cs:List AC} (h:Dv P t=some cs):∀a∈cs,AC.wf aB aC a:=by grind [Dv,IS]
theorem ND {z:List AC} (A:∀a∈z,AC.wf aB aC a):∀n,∀a∈chunk z n,AC.wf aB aC a
 |0,a,h=>by grind [chunk]
 |n+1,a,h=>by
  simp only[chunk,bt]at h;rcases h with h|h
  ·grind
  ·exact ND A n a h
theorem TV.cells_wf {v:TV} {cs:List AC} (h:v.cells=some cs) (A:TV.wf aB aC v):∀a∈cs,AC.wf aB aC a:=by
 cases v<;>simp[TV.cells]at h
 subst h;exact A
theorem G8 {α:Type} {x:α}:∀(l:List α) (o:Nat) (A:List α),x∈splice l o A->x∈l\/x∈A
 |l,o,[],h=>by grind [Jb]
 |[],o,_::_,h=>by grind [splice]
 |y::l,0,v::A,h=>by
  simp only[splice,an]at h;rcases h with rfl|h
  ·simp
  ·rcases G8 l 0 A h with h|h
   ·grind
   grind
 |y::l,o+1,v::A,h=>by
  simp only[splice,an]at h;rcases h with rfl|h
  ·simp
  ·rcases G8 l o (v::A) h with h|h
   ·grind
   grind
theorem Hi {place:Nat->Option (Nat×Nat)}:∀(parts:List (Nat×TV)) (z cs:List AC),Cb place z parts=some cs->(∀a∈z,AC.wf aB aC a)->(∀p∈parts,TV.wf aB aC p.2)->∀a∈cs,AC.wf aB aC a
 |[],z,cs,h,E,_=>by grind [Cb]
 |(i,v)::parts,z,cs,h,E,D=>by
  simp only[Cb]at h;split at h
  ·rename_i off size l G J;cases hb:(Nat.beq l.length size&&Nat.ble (off+size) z.length)<;>rw[hb]at h
   ·grind
   ·refine Hi parts _ _ h (λa A=> ?_) (λp L=>D p (by grind));rcases G8 _ _ _ A with A|A
    ·grind
    ·exact TV.cells_wf J (D (i,v) (by simp)) a A
  grind
theorem Gb {D:Operand->TV} (A:∀x,TV.wf aB aC (D x)):∀(l:List (Nat×Operand)),∀p∈BZ D l,TV.wf aB aC p.2
 |[],p,h=>by grind [BZ]
 |x::l,p,h=>by
  simp only[BZ,an]at h;rcases h with rfl|h
  ·grind
  ·exact Gb A l p h
theorem E6 {D:Operand->TV} (A:∀x,TV.wf aB aC (D x)):∀(l:List Operand),∀v∈AG D l,TV.wf aB aC v
 |[],p,h=>by grind [AG]
 |x::l,p,h=>by
  simp only[AG,an]at h;rcases h with rfl|h
  ·grind
  ·exact E6 A l p h
theorem FL {g:Bool} {sz off:Nat} {cells:List AC} {v:TV} (h:Bb g sz cells off=some v) (E:∀a∈cells,AC.wf aB aC a):TV.wf aB aC v:=by
 unfold Bb at h;cases g
 ·simp only[aj]at h
  grind [AL]
 ·simp only[ac]at h;cases A:Nat.ble (off+sz) cells.length<;>rw[A]at h
  ·grind
  ·simp at h;subst h;intro c D;exact E c (bv (ca D))
theorem KF {t:TypeId} {cs:List AC} {off:Nat} {v:TV} (h:EM P t cs off=some v) (A:∀a∈cs,AC.wf aB aC a):TV.wf aB aC v:=by grind [EM,FL]
theorem PT {op:BinOp} {k:IntKind} {a b:Int} {c:AC} (h:Cu op k a b some=some c):AC.wf aB aC c:=by
 cases op<;>simp only[Cu]at h
 case quo=>cases hb:decide (b=0)<;>rw[hb]at h<;>simp at h;subst h;trivial
 case rem=>cases hb:decide (b=0)<;>rw[hb]at h<;>simp at h;subst h;trivial
 case shl=>cases hb:decide (b<0)<;>rw[hb]at h<;>simp at h;subst h;trivial
 case shr=>cases hb:decide (b<0)<;>rw[hb]at h<;>simp at h;subst h;trivial
 all_goals (simp at h;subst h;trivial)
theorem Iz (g:Int->Int->Int) (k:IntKind):∀(l:List TV) (a:Int) (p:Prim),BP g k a l some=some p->Prim.wf aB aC p
 |[],a,p,h=>by simp[BP]at h;subst h;exact Gg _ _
 |t::l,a,p,h=>by
  unfold BP at h;split at h
  ·rename_i k' b;cases A:kEq k k'<;>rw[A]at h
   ·grind
   ·exact Iz g k l _ p h
  grind
theorem OE (k:Kd) (a:AC):(Cq k a).calm=true:=by
 cases k<;>rfl
theorem Nv:∀(ks:List Kd) (cs:List AC) (j:Nat),Ab AC.calm (Bl ks cs j)=true
 |[],_,_=>rfl
 |k::ks,cs,j=>by simp only[Bl,Ab,OE,ac];exact Nv ks cs (j+1)
theorem K6 {cs:List AC} (h:Ab AC.calm cs=true):∀a∈cs,AC.wf aB aC a:=by
 intro a A;have:=Af.1 h a A;cases a<;>first|trivial|(simp[AC.calm]at this)
theorem IM:∀{l:List TV} {as:List AC},DB l=some as->(∀v∈l,TV.wf aB aC v)->∀a∈as,AC.wfP aB a
 |[],as,h,_=>by grind [DB]
 |v::l,as,h,A=>by
  unfold DB at h;split at h
  ·grind
  ·rename_i a G heq;simp only[a9]at heq;obtain⟨rfl,rfl⟩:=heq;cases D:a.clOk<;>rw[D]at h
   ·grind
   ·simp only[ac]at h;split at h
    ·rename_i r E;simp at h;subst h;intro b hb;simp only[an]at hb;rcases hb with rfl|hb
     ·have:=A (.c b) (by simp) b (by simp);cases b<;>first|exact this|trivial
     ·exact IM E (λv J=>A v (by grind)) b hb
    grind
  grind
theorem Ig {X:Operand->TV} (D:∀x,TV.wf aB aC (X x)) {dst:Option Tmp} {o:Op} {p:Prim} (h:opK P C X dst o some=some p):Prim.wf aB aC p:=by
 cases o<;>simp only[opK]at h<;>try (simp at h;done)
 case move x=>simp at h;subst h;exact D x
 case assign x=>simp at h;subst h;exact D x
 case pick c a b=>
  split at h
  ·rename_i g _;cases g<;>simp at h<;>subst h
   ·exact D b
   ·exact D a
  grind
 case alloc t=>
  split at h
  ·rename_i cs Q;simp at h;subst h;exact GV Q
  grind
 case box t x=>
  split at h
  ·rename_i cs Y;simp at h;subst h;exact TV.cells_wf Y (D x)
  grind
 case build t parts=>
  split at h
  ·rename_i z fs Q hu;cases S:(Ab (Ej P) fs.toList)<;>rw[S]at h
   ·grind
   ·simp only[ac]at h;split at h
    ·rename_i cs hb;simp at h;subst h;exact Hi _ _ _ hb (GV Q) (Gb D _)
    grind
  ·rename_i z n el Q hu;split at h
   ·split at h
    ·rename_i cs hb;simp at h;subst h;exact Hi _ _ _ hb (GV Q) (Gb D _)
    grind
   grind
  grind
 case buildSlice t n parts=>
  split at h
  ·split at h
   ·cases hb:(Nat.beq _ _&&Nat.beq _ _&&Nat.ble 1 _&&Nat.ble _ 65536)<;>rw[hb]at h
    ·grind
    ·simp only[ac]at h;split at h
     ·rename_i Q _ _ cs a0;split at h
      ·cases a1:HV C dst n<;>rw[a1]at h<;>simp at h<;>subst h<;>trivial
      ·cases O:(Ab AC.isClo cs&&Nat.beq _ 1)<;>rw[O]at h
       ·grind
       ·simp only[ac]at h;simp at h;subst h;refine Hi _ _ _ a0 (λa L=> ?_) (Gb D _)
        grind [ND,GV]
     grind
   grind
  grind
 case makeSlice t len cap=>
  split at h
  ·split at h
   ·split at h
    ·cases hb:(Nat.beq _ _&&Nat.ble 1 _&&Nat.ble 1 _)<;>rw[hb]at h
     ·grind
     ·simp only[ac]at h;obtain⟨_,rfl⟩:=D_ h;trivial
    grind
   grind
  grind
 case makeFunc fn a b=>
  split at h
  ·split at h
   ·rename_i fs cs a2 a3;simp at h;subst h;exact AL ⟨IM a2 (E6 D _),IM a3 (E6 D _)⟩
   grind
  grind
 case load t a=>
  split at h
  ·have L:=D a;split at h
   ·rename_i key off A;simp at h;subst h;rw[A]at L;exact BG L
   ·rename_i cells sub A;split at h
    ·rename_i v J;simp at h;subst h;rw[A]at L;exact FL J (K6 (BG L))
    grind
   ·rename_i id idx sub A;simp at h;subst h;rw[A]at L;exact BG L
   grind
  grind
 case store t a x=>
  split at h
  ·rename_i sz cs hs Y;cases hb:(Nat.beq cs.length sz)<;>rw[hb]at h
   ·grind
   ·simp only[ac]at h;have L:=D a;split at h
    ·rename_i key off A;simp at h;subst h;rw[A]at L;exact⟨BG L,TV.cells_wf Y (D x)⟩
    ·rename_i id idx sub A;simp at h;subst h;rw[A]at L;exact BG L
    grind
  grind
 case nilCheck x=>
  have E:=D x;split at h
  all_goals first|(simp at h;done)|(rename_i A;simp at h;subst h;rw[A]at E;exact E)
 case binOp op t x y yt=>
  split at h
  ·cases hk:(kEq _ _||EK op)<;>rw[hk]at h
   ·grind
   ·simp only[ac]at h;rename_i k a k' b _ _;rw[Io]at h;cases V:Cu op k a b some with
    |none=>grind
    |some c=>rw[V]at h;simp at h;subst h;exact AL (PT V)
  ·split at h
   ·simp at h;subst h;exact B9 _
   ·simp at h;subst h;exact B9 _
   grind
  ·split at h
   ·simp at h;subst h;exact B9 _
   ·simp at h;subst h;exact B9 _
   ·rename_i a b _ _ _;cases hb:Nat.ble (a.size+b.size) 9223372036854775807<;>rw[hb]at h
    ·grind
    ·simp at h;subst h;exact AL trivial
   grind
  ·split at h
   ·simp at h;subst h;exact B9 _
   ·simp at h;subst h;exact B9 _
   grind
  ·split at h
   ·simp at h;subst h;exact B9 _
   ·simp at h;subst h;exact B9 _
   grind
  ·cases hg:P.eqGuardType P.depth t<;>rw[hg]at h
   ·simp only[aj]at h;split at h
    ·simp at h;subst h;exact B9 _
    ·simp at h;subst h;exact B9 _
    grind
   grind
  grind
 case unOp a4 t x=>
  split at h
  ·simp at h;subst h;exact Gg _ _
  ·simp at h;subst h;exact B9 _
  grind
 case convert src dst x=>
  split at h
  ·simp at h;subst h;exact Gg _ _
  ·split at h
   ·simp at h;subst h;exact AL trivial
   ·simp at h
  grind
 case fieldAddr t x i=>
  split at h
  ·split at h
   ·have E:=D x;split at h
    ·rename_i A;simp at h;subst h;rw[A]at E;have q:=BG E;exact AL q
    ·rename_i A;simp at h;subst h;rw[A]at E;have q:=BG E;exact AL q
    ·rename_i A;simp at h;subst h;rw[A]at E;have q:=BG E;exact AL q
    grind
   grind
  grind
 case field t x i=>
  split at h
  ·rename_i f cs hf A;split at h
   ·rename_i v T;simp at h;subst h;have E:=D x;rw[A]at E;exact KF T E
   grind
  grind
 case indexAddr t x ix=>
  split at h
  ·have E:=D x;split at h
   ·rename_i A;obtain⟨j,h1,_⟩:=CD h;simp at h1;subst h1;rw[A]at E;have q:=BG E;exact AL q
   ·rename_i A;obtain⟨j,h1,_⟩:=CD h;simp at h1;subst h1;rw[A]at E;have q:=BG E;exact AL q
   ·rename_i A;obtain⟨j,h1,_⟩:=CD h;simp at h1;subst h1;rw[A]at E;have q:=BG E;exact AL q
   grind
  ·have E:=D x;split at h
   ·rename_i m ks l hm A;cases hb:Nat.beq m ks.length<;>rw[hb]at h
    ·grind
    ·simp only[ac]at h;obtain⟨_,rfl⟩:=D_ h;exact AL (Nv _ _ _)
   ·rename_i m id wd n hm A;cases hb:Nat.beq m wd<;>rw[hb]at h
    ·grind
    ·simp only[ac]at h;obtain⟨hd,rfl⟩:=D_ h;rw[A]at E;obtain⟨r,h1,h2,h3⟩:=BG E;simp at hd;exact AL ⟨r,h1,by omega⟩
   ·rename_i m key n hm A;cases hb:Nat.beq m 1<;>rw[hb]at h
    ·grind
    ·simp only[ac]at h;obtain⟨j,h1,_⟩:=CD h;simp at h1;subst h1;rw[A]at E;have q:=BG E;exact AL q
   grind
  grind
 case index t x ix=>
  split at h
  ·rename_i i n el cs V hu A;split at h
   ·obtain⟨j,h1,_⟩:=CD h;have E:=D x;rw[A]at E;split at h1
    ·rename_i v T;simp at h1;subst h1;exact KF T E
    grind
   grind
  grind
 case slice t x lo V mx=>
  split at h
  ·split at h
   ·rename_i m ks l hm A;cases hb:Nat.beq m ks.length<;>rw[hb]at h
    ·grind
    ·simp only[ac]at h;split at h
     ·simp at h;subst h;exact AL trivial
     all_goals
      obtain⟨_,rfl⟩:=D_ h;exact AL trivial
   ·split at h
    ·cases hb:Nat.beq _ _<;>rw[hb]at h
     ·grind
     ·simp only[ac]at h;obtain⟨_,rfl⟩:=D_ h;trivial
    grind
   ·split at h
    ·simp at h;subst h;exact AL trivial
    all_goals
     obtain⟨_,rfl⟩:=D_ h;exact AL trivial
   grind
  grind
 case extract t i=>
  have ht:=D t;split at h
  ·rename_i ps A;split at h
   ·rename_i g cs hg;simp at h;subst h;rw[A]at ht;exact ht (g,cs) (ay hg)
   grind
  grind
 case call c=>
  split at h
  ·rename_i b hb;have G:=E6 D c.args.toList
   revert G h
   generalize AG X c.args.toList=args;intro h G;unfold DE at h;split at h
   case h_6=>grind [Iz]
   case h_7=>grind [Iz]
   case h_8=>
    rename_i s x
    repeat' split at h
    all_goals try (simp at h;done)
    obtain⟨_,rfl⟩:=D_ h;exact⟨BG (G _ (by simp)),BG (G _ (by simp))⟩
   all_goals
    repeat' split at h
    all_goals first|(simp at h;done)|(simp at h;subst h;exact Gg _ _)
  ·rename_i f hf;cases T:C.pure f<;>rw[T]at h<;>simp at h<;>subst h<;>exact E6 D _
  ·rename_i t ht;split at h
   ·rename_i f fs cs O;cases N:(Ab AC.clOk fs&&Ab AC.clOk cs)<;>rw[N]at h
    ·grind
    simp only[ac,ag]at h;subst h;simp only[af]at N;have J:=D (.tmp t);rw[O]at J;have hq:=BG J;have U:∀l:List AC,(∀a∈l,AC.wfP aB a)->Ab AC.clOk l=true->∀v∈l.map TV.c,TV.wf aB aC v:=by
     intro l h1 h2 v J;simp only[am]at J;obtain⟨a,L,rfl⟩:=J;have q1:=h1 a L;have q2:=Af.1 h2 a L;cases a<;>first|exact AL q1|grind [AC.clOk]|exact AL trivial
    intro v J;rcases bt.1 J with J|J
    ·exact U fs hq.1 N.1 v J
    ·rcases bt.1 J with J|J
     ·grind [E6]
     ·exact U cs hq.2 N.2 v J
   grind
  grind
end
open Go.RowKit
def Rel (Z:Base) (s:St) (tmps:Array Value) (w:World):Prop:=∃ρ,RelE Z s.tmps s.aB s.aC ρ tmps w
section
variable {P:Program} {C:Cfg} {w:World} {R:Type} {Z:Base}
theorem RelE.put {ρ:Env} {tm:List TV} {aB:List (Nat×Box)} {aC:List (Nat×Row)} {tmps:Array Value} (h:RelE Z tm aB aC ρ tmps w) (d:Nat) {v:TV} {x:Value} (E:TVR ρ w v x) (G:TV.wf aB aC v):
  RelE Z (setL tm d v) aB aC ρ (tmps.setIfInBounds d x) w:=by
 rw[CF];refine⟨by simp[h.tl],λi u A=> ?_,λu D=> ?_,h.wb,h.bx,h.bi,h.ro,h.ri,h.br,h.ib,h.fr,h.fs,h.i0,h.i1,h.k0⟩
 ·rw[bw]at A;by_cases hid:d=i
  ·simp_all [h.tl]
  ·rw[cd hid]at A;have:=h.tv i u A;simp_all
 ·rcases b9 D with D|rfl
  ·exact h.wt u D
  omega
theorem RelE.learn {ρ:Env} {tm:List TV} {aB:List (Nat×Box)} {aC:List (Nat×Row)} {tmps:Array Value} (h:RelE Z tm aB aC ρ tmps w) (d:Nat) {v:TV} (E:TVR ρ w v (tmps.getD d undef)) (G:TV.wf aB aC v):
  RelE Z (setL tm d v) aB aC ρ tmps w:=by
 rw[CF];refine⟨by simp[h.tl],λi u A=> ?_,λu D=> ?_,h.wb,h.bx,h.bi,h.ro,h.ri,h.br,h.ib,h.fr,h.fs,h.i0,h.i1,h.k0⟩
 ·rw[bw]at A;by_cases hid:d=i
  ·grind
  ·rw[cd hid]at A;exact h.tv i u A
 ·rcases b9 D with D|rfl
  ·exact h.wt u D
  omega
theorem Ca (s:St) (d:Option Tmp) (v:TV) (K:St->Option R):put s d v K=K (match d with|none=>s|some t=>⟨setL s.tmps t v,s.aB,s.aC⟩):=by
 obtain⟨tm,aB,aC⟩:=s
 grind [put,An]
theorem Du {ρ:Env} {tm:List TV} {aB:List (Nat×Box)} {aC:List (Nat×Row)} {a:Act} (h:RelE Z tm aB aC ρ a.tmps w) (x:Operand):TVR ρ w (Ai tm x) (a.eval x):=by
 cases x with
 |tmp t=>
  simp only[Ai,Au,List.getD,Act.eval];cases A:tm[t]? with
  |none=>trivial
  |some v=>exact h.tv t v A
 |const v=>exact TD v
 |global=>trivial
 |func=>trivial
theorem G0:∀(l:List Nat) (s:St) (tmps:Array Value),Rel Z s tmps w->∀(K:St->Option R) (r:R),C6 l s K=some r->∃E,K E=some r/\Rel Z E tmps w
 |[],s,tmps,A,K,r,h=>⟨s,h,A⟩
 |id::l,s,tmps,A,K,r,h=>by
  obtain⟨tm,aB,aC⟩:=s;simp only[C6]at h;split at h
  ·rename_i G D;simp only[An]at h;obtain⟨ρ,A⟩:=A;exact G0 l _ tmps ⟨_,A.freeze D⟩ K r h
  ·exact G0 l _ tmps A K r h
theorem Ud {k o:Nat} {e:TypeId} {s:St} {tmps:Array Value} (A:Rel Z s tmps w) {K:St->Option R} {r:R} (h:EC P k o e s K=some r):∃E,K E=some r/\Rel Z E tmps w:=by
 obtain⟨tm,aB,aC⟩:=s;obtain⟨ρ,A⟩:=A;simp only[EC]at h;split at h
 ·rename_i b G;split at h
  ·rename_i ho;split at h
   ·rename_i ks J;cases D:(Nat.ble 1 ks.length&&D4 aC (1000000+1000*k+o))<;>rw[D]at h
    ·grind
    ·simp only[ac,An]at h;simp only[af]at D;exact⟨_,h,_,A.promB G ho (I1 D.2) (al D.1)⟩
   grind
  ·exact⟨_,h,ρ,A⟩
 ·exact⟨_,h,ρ,A⟩
theorem Kh:∀(l:List (Nat×Nat×TypeId)) (s:St) (tmps:Array Value),Rel Z s tmps w->∀(K:St->Option R) (r:R),Dn P l s K=some r->∃A,K A=some r/\Rel Z A tmps w
 |[],s,tmps,D,K,r,h=>⟨s,h,D⟩
 |(k,o,e)::l,s,tmps,D,K,r,h=>by
  simp only[Dn]at h;obtain⟨A,h',E⟩:=Ud D h;exact Kh l A tmps E K r h'
theorem Gn:∀(l:List (Nat×TypeId)) (s:St) (tmps:Array Value),Rel Z s tmps w->∀(K:St->Option R) (r:R),Dl P l s K=some r->∃N,K N=some r/\Rel Z N tmps w
 |[],s,tmps,D,K,r,h=>⟨s,h,D⟩
 |(t,e)::l,s,tmps,D,K,r,h=>by
  obtain⟨tm,aB,aC⟩:=s;simp only[Dl]at h;split at h
  ·rename_i J;split at h
   ·rename_i ks A Q;cases O:Nat.ble 1 ks.length<;>rw[O]at h
    ·grind
    ·simp only[ac,An]at h;refine Gn l _ tmps ?_ K r h;obtain⟨ρ,D⟩:=D;have G:=D.addRow (d:=t) A (r:=⟨e,ks,[]⟩) (v':= .slice none 0 0) (xs:=[]) (w':=w) (Below.refl _ _) (al O) (Gf w e ks.length) ⟨by simp,by simp,λi c V=>by grind⟩ (λg X=>by grind [Value.ownBlock]);refine⟨_,G.learn t ?_ (AL ⟨_,Bs _ _ _ A,rfl,rfl⟩)⟩;have S:tmps.getD t undef= .slice none 0 0:=by
      have L:t<tm.length:=by
       rcases dl t tm.length with T|U
       ·omega
       ·grind [Au]
      have E:tm[t]? =some (.c .nilSl):=by
       rw[Au,List.getD]at J;rw[ah L]at J⊢;simpa using J
      have:=(D.tv t _ E).c;simpa [CC,CP]using this
     rw[S];exact TVR.c' ⟨by grind [AE],by grind [AE], .inl ⟨rfl,rfl⟩⟩
   grind
  ·exact Gn l _ tmps D K r h
theorem FR {s:St} {tmps:Array Value} (G:Rel Z s tmps w) {K:St->Option R} {r:R} (h:CG P C s K=some r):∃D,K D=some r/\Rel Z D tmps w:=by
 unfold CG at h;obtain⟨D,h',ρ,A⟩:=Kh _ s tmps G _ r h;obtain⟨tm,aB,aC⟩:=D;simp only[An]at h';refine Gn _ _ tmps ?_ K r h';refine⟨ρ,?_⟩;refine A.reBox (g:=λ_ b=>GA P b) (λ_ b=> ?_) λk b E=> ?_
 ·grind [GA]
 ·unfold GA;split
  ·rename_i ks _;exact⟨λxs h=>D5 ks b.cells xs h,EL ks b.cells (A.wb k b E)⟩
  ·exact⟨λxs h=>h,A.wb k b E⟩
theorem Tv {o:Op} {s:St} {tmps:Array Value} (D:Rel Z s tmps w) {K:St->Option R} {r:R} (h:Dt P C o s K=some r):∃A,K A=some r/\Rel Z A tmps w:=by grind [Dt,G0,FR]
theorem TU {pre:Bool} {ρ:Env} {e:Operand->Value} {o:Oper} {p:Prim} (h:Dz P ρ w e o p):Dz P ρ w e o (p.dr pre):=by
 cases pre<;>cases p<;>first|exact h|(simp only[Prim.dr];cases Ab TV.plainB _<;>exact h)
theorem HY {pre:Bool} {bx:List (Nat×Box)} {aC:List (Nat×Row)} {p:Prim} (h:Prim.wf bx aC p):Prim.wf bx aC (p.dr pre):=by
 cases pre<;>cases p<;>first|exact h|(simp only[Prim.dr];cases Ab TV.plainB _<;>exact h)
theorem No (A:Ak P C) (S:∀t∈C.eqOk,P.stoodInHeld t=false) {s:St} {o:Oper} {a:Act} (E:Rel Z s a.tmps w) {K:Option Prim->St->Option R} {r:R}
  {pre:Bool} (h:(opK P C (Ai s.tmps) o.dst o.op λp=>Ao C o.dst (p.dr pre) s λv N=>put N o.dst v (K (some (p.dr pre))))=some r) {next:Act->World->Prop} {Q:Exit->Act->World->Prop}
  (D:∀(po:Option Prim) (N:St) (T:Act) (w':World),K po N=some r->Rel Z N T.tmps w'->(∃x,T=a.put o.dst x)->next T w'):o.wp P a w next Q:=by
 obtain⟨ρ,E⟩:=E;obtain⟨tm,aB,aC⟩:=s;have U:=λx=>Du E x;rw[Fw]at h;cases V:opK P C (Ai tm) o.dst o.op some with
 |none=>grind
 |some p=>
  rw[V]at h;simp only[ak]at h;obtain⟨p',G,J⟩:=JK S U (λf=>rfl) o V;simp at G;subst G;have X:=Ig (aB:=aB) (aC:=aC) (λx=>H8 E.wt x) V;refine PW A E (TU J) (HY X) h ?_;intro v a1 O Y ρ' x w' hK L hv a0;rw[Ca]at hK;refine D (some (p'.dr pre)) _ _ w' hK ?_ ?_
  ·cases hd:o.dst with
   |none=>exact⟨ρ',L⟩
   |some d=>exact⟨ρ',L.put d hv a0⟩
  grind
theorem HG (A:Ak P C) (E:∀t∈C.eqOk,P.stoodInHeld t=false) {pre:Bool} {s:St} {o:Oper} {a:Act} (N:Rel Z s a.tmps w) {K:Option Prim->St->Option R} {r:R}
  (h:((bif pre then Dt P C o.op s else λK=>K s) λs=>opK P C (Ai s.tmps) o.dst o.op λp=>Ao C o.dst (p.dr pre) s λv G=>put G o.dst v (K (some (p.dr pre))))=some r) {next:Act->World->Prop} {Q:Exit->Act->World->Prop}
  (D:∀(O:Option Prim) (G:St) (J:Act) (w':World),K O G=some r->Rel Z G J.tmps w'->(∃x,J=a.put o.dst x)->next J w'):o.wp P a w next Q:=by
 cases pre
 ·exact No A E N h D
 ·obtain⟨G,h',L⟩:=Tv N h;exact No A E L h' D
theorem P1 (E:Ak P C) (T:∀t∈C.eqOk,P.stoodInHeld t=false) {pre:Bool} {ops:Array Oper} {s:St} {o:Oper} {a:Act} (hR:Rel Z s a.tmps w) {K:Option Prim->St->Option R} {r:R}
  (h:BL P C pre ops.toList o s K=some r) {next:Act->World->Prop} {Q:Exit->Act->World->Prop}
  (A:∀(po:Option Prim) (Y:St) (a':Act) (w':World),K po Y=some r->Rel Z Y a'.tmps w'->(∃x,a'=a.put o.dst x)->next a' w'):
  if Region.wanted o (yielded ops a.tmps)=true then o.wp P a w next Q else next (a.put o.dst undef) w:=by
 have U:∀Y:St,Rel Z Y a.tmps w->put Y o.dst (.tup []) (K none)=some r->next (a.put o.dst undef) w:=by
  intro Y D hp;rw[Ca]at hp;refine A none _ _ w hp ?_ ⟨_,rfl⟩;obtain⟨ρ,D⟩:=D;cases hd:o.dst with
  |none=>exact⟨ρ,D⟩
  |some d=>exact⟨ρ,D.put d ⟨#[],rfl,trivial⟩ (λp hp=>by grind)⟩
 unfold BL Ff at h;cases hg:o.guard with
 |none=>
  rw[hg]at h;rw[cm (by simp[Region.wanted,hg])];exact HG E T hR h A
 |some jw=>
  obtain⟨j,want⟩:=jw;rw[hg]at h;simp only at h;split at h
  ·rename_i oj hj;split at h
   ·rename_i t ht;split at h
    ·rename_i g G;obtain⟨ρ,J⟩:=hR;have N:t<s.tmps.length:=by
      rcases dl t s.tmps.length with a1|a2
      ·omega
      ·grind [Au]
     have L:s.tmps[t]? =some (.c (.bool g)):=by
      rw[Au,List.getD]at G;rw[ah N]at G⊢;simpa using G
     have O:=(J.tv t _ L).bool;have S:t<a.tmps.size:=by rw[<-J.tl];exact N
     have V:a.tmps[t]? =some (.bool g):=by
      rw[Array.getElem?_eq_getElem S];rw[Array.getD,dif_pos S]at O;simpa using O
     have hy:yielded ops a.tmps j=some g:=by
      unfold yielded;have X:ops[j]? =some oj:=by simpa using hj
      simp[X,ht,V]
     have hl:∀b,g=b->Rel Z ⟨setL s.tmps t (.c (.bool b)),s.aB,s.aC⟩ a.tmps w:=by
      rintro b rfl;exact⟨ρ,J.learn t (by grind [TVR.mkBool]) (B9 _)⟩
     have hw:Region.wanted o (yielded ops a.tmps)=(g==want):=by
      simp only[Region.wanted,hg,hy];cases g<;>cases want<;>rfl
     cases g
     ·simp only[aj]at h;rw[Ca]at h;dsimp only at h;have D:=hl false rfl;cases want
      ·rw[cm (by grind)];simp only[aj]at h;exact HG E T D h A
      grind
     ·simp only[ac]at h;rw[Ca]at h;dsimp only at h;have D:=hl true rfl;cases want
      ·grind
      ·rw[cm (by grind)];simp only[ac]at h;exact HG E T D h A
    ·rename_i G;obtain⟨ρ,J⟩:=hR;have N:t<s.tmps.length:=by
      rcases dl t s.tmps.length with a1|a2
      ·omega
      ·grind [Au]
     have L:s.tmps[t]? =some (.tup []):=by
      rw[Au,List.getD]at G;rw[ah N]at G⊢;simpa using G
     obtain⟨ys,a0,O⟩:=J.tv t _ L;have S:t<a.tmps.size:=by rw[<-J.tl];exact N
     have V:a.tmps[t]? =some (.tuple ys):=by
      rw[Array.getElem?_eq_getElem S];rw[Array.getD,dif_pos S]at a0;simpa using a0
     have hy:yielded ops a.tmps j=none:=by
      unfold yielded;have X:ops[j]? =some oj:=by simpa using hj
      simp[X,ht,V]
     have hw:Region.wanted o (yielded ops a.tmps)=false:=by
      simp only[Region.wanted,hg,hy];rfl
     rw[cd (by grind)];exact U _ ⟨ρ,J⟩ h
    grind
   grind
  grind
theorem Fj (A:Ak P C) (J:∀t∈C.eqOk,P.stoodInHeld t=false) {pre:Bool} {ops:Array Oper} {s:St} {o:Oper} {a:Act} (N:Rel Z s a.tmps w) {K:Option Prim->St->Option R} {r:R}
  (h:BL P C pre ops.toList o s K=some r) {next:Act->World->Prop} {Q:Exit->Act->World->Prop}
  (D:∀(L:Option Prim) (G:St) (E:Act) (w':World),K L G=some r->Rel Z G E.tmps w'->E.defers=a.defers->next E w'):
  if Region.wanted o (yielded ops a.tmps)=true then o.wp P a w next Q else next (a.put o.dst undef) w:=
 P1 A J N h λL G E w' h1 h2 ⟨x,h3⟩=>D L G E w' h1 h2 (by subst h3;cases o.dst<;>rfl)
theorem I6 (A:Ak P C) (D:∀t∈C.eqOk,P.stoodInHeld t=false) {ops:Array Oper} {Q:Exit->Act->World->Prop} {K:St->Option R} {r:R}:
  ∀(l:List Oper) (s:St) (a:Act) (w:World),Rel Z s a.tmps w->AF P C ops.toList l s K=some r->
  (∀(G:St) (E:Act) (w':World),K G=some r->Rel Z G E.tmps w'->E.defers=a.defers->Q .normal E w')->wpList P ops Q l a w
 |[],s,a,w,J,h,L=>L s a w h J rfl
 |o::l,s,a,w,J,h,L=>by
  simp only[AF]at h;have:=Fj (next:=wpList P ops Q l) (Q:=Q) A D J h (λU G E w' O N S=>I6 A D l G E w' N O (λs2 a2 T h1 h2 h3=>L s2 a2 T h1 h2 (h3.trans S)));simp only[wpList]
  grind
end
open Go.RowKit
def Gc (s:St) (d:Option Tmp) (v:TV):St:=
 match d with
 |none=>s
 |some t=>⟨setL s.tmps t v,s.aB,s.aC⟩
section
variable {P:Program} {C:Cfg} {w:World} {R:Type} {Z:Base}
theorem Ew (s:St) (d:Option Tmp) (v:TV) (K:St->Option R):put s d v K=K (Gc s d v):=Ca s d v K
def Ae (dst:Option Tmp) (p:Prim) (aB:List (Nat×Box)) (aC:List (Nat×Row)):Option (TV×List (Nat×Box)):=
 match p with
 | .val v=>some (v,aB)
 | .load g sz key off=>match Aa aB key with
  |some b=>match Bb g sz b.cells off with
   |some v=>some (v,aB)
   |none=>none
  |none=>none
 | .store key off cs=>match Aa aB key with
  |some b=>if Nat.ble (off+cs.length) b.cells.length then some (.vD,upd aB key ⟨b.ty,splice b.cells off cs⟩)else none
  |none=>none
 | .new ty cs=>match dst with
  |some d=>match Aa aB d with
   |some _=>none
   |none=>some (.c (.ptr d 0),ins aB d ⟨ty,cs⟩)
  |none=>none
 | .newView _ ks l=>some (.c (.vC ks l),aB)
 | .rload g sz id idx sub=>match Aa aC id with
  |some r=>match Bb g sz (r.f idx) sub with
   |some v=>some (v,aB)
   |none=>none
  |none=>none
 | .call f args=>match C.spec f with
  |some g=>match B5 aC args with
   |some l=>match g (TV×Mem) l ⟨[],[]⟩ (λv m=>some (v,m))with
    |some (v,⟨[],[]⟩)=>if((!(args.any TV.hasOwn)||v.flat)&&v.plainB)=true then some (v,aB)else none
    |_=>none
   |none=>none
  |none=>none
 | .callD f args=>match C.spec f with
  |some g=>
   if(Ab (TV.inK (As (cat AC.keys (cat TV.cellsOf args)) []) []) args&&Ab (λk=>Ab AC.calm (Bv aB k)) (As (cat AC.keys (cat TV.cellsOf args)) [])&&AK (As (cat AC.keys (cat TV.cellsOf args)) []))=true then
    match AZ aB (λk=>base+pos (As (cat AC.keys (cat TV.cellsOf args)) []) k) (λi=>base+pos [] i) base (As (cat AC.keys (cat TV.cellsOf args)) [])with
    |some D=>match g (TV×Mem) (args.map (TV.ren (λk=>base+pos (As (cat AC.keys (cat TV.cellsOf args)) []) k) (λi=>base+pos [] i))) ⟨D,[]⟩ (λv m=>some (v,m))with
     |some (v,⟨A,[]⟩)=>
      if(Ab (λp:Nat×Box=>B7 A p.1) D&&Ab (λp:Nat×Box=>B7 D p.1) A&&AK (A.map (·.1))&&Ab (λp:Nat×Box=>Ab AC.calm p.2.cells) A&&v.plainB)=true then
       some (v,AS (As (cat AC.keys (cat TV.cellsOf args)) []) A aB)
      else none
     |_=>none
    |none=>none
   else none
  |none=>none
 |_=>none
theorem Qi (A:Ak P C) {dst:Option Tmp} {p:Prim} (E:Prim.simple (some p)=true) (G:Prim.isApp (some p)=false) (J:Prim.isMk (some p)=false) (s:St) (K:TV->St->Option R):
  Ao C dst p s K=(Ae (C:=C) dst p s.aB s.aC).bind λq=>K q.1 ⟨s.tmps,q.2,s.aC⟩:=by
 obtain⟨tm,aB,aC⟩:=s;cases p<;>simp only[Prim.simple]at E<;>try (simp at E;done)
 case appD=>grind [Prim.isApp]
 case callF=>grind [Prim.isMk]
 case newRow=>grind [Prim.isMk]
 case rstore=>grind [Prim.isMk]
 case val v=>rfl
 case newView e ks l=>rfl
 case rload g sz id idx sub=>grind [Ao,Ae]
 case load g sz key off=>grind [Ao,Ae]
 case store key off cs=>
  simp only[Ao,Ae];cases h1:Aa aB key with
  |none=>rfl
  |some b=>
   dsimp only;cases Nat.ble (off+cs.length) b.cells.length
   ·rfl
   simp[An]
 case new ty cs=>
  simp only[Ao,Ae]
  grind [An]
 case call f args=>
  simp only[Ao,Ae];cases h1:C.spec f with
  |none=>rfl
  |some g=>
   dsimp only;cases h2:B5 aC args with
   |none=>rfl
   |some l=>
    dsimp only;have D:=A.1 f g h1;rw[D.nat];cases h3:g (TV×Mem) l ⟨[],[]⟩ (λv m=>some (v,m))with
    |none=>rfl
    |some q=>grind
 case callD f args=>
  simp only[Ao,Ae];cases h1:C.spec f with
  |none=>rfl
  |some g=>
   dsimp only;simp only[An];generalize As (cat AC.keys (cat TV.cellsOf args)) []=keys;cases N:(Ab (TV.inK keys []) args&&Ab (λk=>Ab AC.calm (Bv aB k)) keys&&AK keys)
   ·simp
   ·simp only[ac,cq];cases h2:AZ aB (λk=>base+pos keys k) (λi=>base+pos [] i) base keys with
    |none=>rfl
    |some L=>
     dsimp only;have D:=A.1 f g h1;rw[D.nat];cases h3:g (TV×Mem) (args.map (TV.ren (λk=>base+pos keys k) (λi=>base+pos [] i))) ⟨L,[]⟩ (λv m=>some (v,m))with
     |none=>rfl
     |some q=>grind
theorem Ay {α:Type} {c:Bool} {p:Option α} {q:α} (h:cond c p none=some q):c=true/\p=some q:=by grind
def Ir (aC:List (Nat×Row)) (e:TypeId) (ks:List Kd) (bytes id:Nat) (x:AC):Option (TV×List (Nat×Row)):=
 match C5 aC ks x with
 |some m=>match Aa aC id with
  |some r=>if(AV ks r.ks&&Nat.beq r.ty e&&Nat.ble 1 bytes)=true then
    if Nat.ble ((r.l++m).length*bytes) 140737488355328=true then some (.c (.own id r.ks.length (r.l++m).length),upd aC id ⟨e,r.ks,r.l++m⟩)else none
   else none
  |none=>none
 |none=>none
def HE (id:Nat) (tm:List TV) (bx:List (Nat×Box)) (aC:List (Nat×Row)):St:=⟨tm.map (TV.kill id),bx.map λp=>(p.1,p.2.kill id),aC⟩
def I_ (aC:List (Nat×Row)) (e:TypeId) (ks:List Kd) (bytes d:Nat) (x:AC):Option (TV×List (Nat×Row)):=
 match C5 aC ks x with
 |some m=>match Aa aC d with
  |some _=>none
  |none=>if(Nat.ble 1 ks.length&&Nat.ble 1 bytes)=true then
    if Nat.ble (m.length*bytes) 140737488355328=true then some (.c (.own d ks.length m.length),ins aC d ⟨e,ks,m⟩)else none
   else none
 |none=>none
def DT (dst:Option Tmp):Prim->Option Nat
 | .appD _ _ _ (.own id _ _) _=>some id
 | .appD _ _ _ .nilSl _=>dst
 |_=>none
def DZ (dst:Option Tmp) (aC:List (Nat×Row)):Prim->Option (TV×List (Nat×Row))
 | .appD e ks bytes (.own id _ _) x=>Ir aC e ks bytes id x
 | .appD e ks bytes .nilSl x=>match dst with
  |some d=>I_ aC e ks bytes d x
  |none=>none
 |_=>none
def mkG (dst:Option Tmp) (p:Prim):Option (TV×Option (Nat×Row)):=
 match p with
 | .newRow e ks l=>match dst with
  |some d=>some (.c (.own (C.rowAs d) ks.length l.length),some (C.rowAs d,⟨e,ks,l⟩))
  |none=>none
 | .callF f args=>match C.spec f with
  |some g=>if Ab TV.plainB args=true then match g (TV×Mem) args ⟨[],[]⟩ (λv m=>some (v,m))with
    |some (v,⟨[],[]⟩)=>if v.plainB=true then some (v,none)else none
    |some (.v false [.own j _ _],⟨[],[(k,r)]⟩)=>if Nat.beq j k=true then some (.c (.own (Dg (dst.getD 0)) r.ks.length r.l.length),some (Dg (dst.getD 0),r))else none
    |_=>none
   else none
  |none=>none
 |_=>none
def mkI (dst:Option Tmp) (p:Prim) (aC:List (Nat×Row)):Option (TV×List (Nat×Row)):=
 match mkG (C:=C) dst p with
 |some (v,none)=>some (v,aC)
 |some (v,some (k,r))=>match Aa aC k with
  |some _=>none
  |none=>some (v,ins aC k r)
 |none=>none
def mkD (dst:Option Tmp) (p:Prim) (aC:List (Nat×Row)):Option (TV×List (Nat×Row)):=
 match p with
 | .rstore id idx sub cs=>match Aa aC id with
  |some r=>bif Nat.ble (sub+cs.length) r.w&&Ab AC.plain cs then
    match B0 r.ks (splice (r.f idx) sub cs)with
    |some c=>some (.vD,upd aC id ⟨r.ty,r.ks,r.l.set idx c⟩)
    |none=>none else none
  |none=>none
 |_=>mkI (C:=C) dst p aC
def BE (dst:Option Tmp) (p:Prim) (s:St):Option (TV×St):=
 bif Prim.isApp (some p)then match DT dst p with
  |some id=>(DZ dst s.aC p).map λq=>(q.1,HE id s.tmps s.aB q.2)
  |none=>none
 else bif Prim.isMk (some p)then(mkD (C:=C) dst p s.aC).map λq=>(q.1,⟨s.tmps,s.aB,q.2⟩)
 else(Ae (C:=C) dst p s.aB s.aC).map λq=>(q.1,⟨s.tmps,q.2,s.aC⟩)
theorem MF (A:Ak P C) {dst:Option Tmp} {p:Prim} (L:Prim.simple (some p)=true) (s:St) (K:TV->St->Option R):
  Ao C dst p s K=(BE (C:=C) dst p s).bind λq=>K q.1 q.2:=by
 cases D:Prim.isApp (some p)with
 |false=>
  cases E:Prim.isMk (some p)with
  |false=>
   rw[Qi A L (by rw[D]) E];unfold BE;rw[D,E];simp only[aj];cases Ae (C:=C) dst p s.aB s.aC<;>rfl
  |true=>
   obtain⟨tm,aB,aC⟩:=s;unfold BE;rw[D,E];simp only[aj,ac];cases p<;>simp[Prim.isMk]at E
   case rstore id idx sub cs=>
    simp only[Ao,mkD];cases h1:Aa aC id with
    |none=>rfl
    |some r=>
     dsimp only;cases(Nat.ble (sub+cs.length) r.w&&Ab AC.plain cs)
     ·rfl
     ·simp only[ac];cases B0 r.ks (splice (r.f idx) sub cs)with
      |none=>rfl
      |some c=>simp[An]
   case newRow e ks l=>
    simp only[Ao,mkD,mkI,mkG]
    grind [An]
   case callF f args=>
    simp only[Ao,mkD,mkI,mkG];cases h1:C.spec f with
    |none=>rfl
    |some g=>
     dsimp only;cases h2:Ab TV.plainB args
     ·rfl
     simp only[ac,cq];have G:=A.1 f g h1;rw[G.nat];cases h3:g (TV×Mem) args ⟨[],[]⟩ (λv m=>some (v,m))with
     |none=>rfl
     |some q=>
      obtain⟨v,⟨N,O⟩⟩:=q;simp only[ak];cases N with
      |cons _ _=>rfl
      |nil=>
       cases O with
       |nil=>grind
       |cons p l=>
        obtain⟨k,r⟩:=p;cases l with
        |cons _ _=>rfl
        |nil=>
         dsimp only;split
         ·rename_i j w0 S;cases J:Nat.beq j k
          ·grind
          ·simp only[ac,J,cq]
           grind [An]
         grind
 |true=>
  obtain⟨tm,aB,aC⟩:=s;cases p<;>simp[Prim.isApp]at D
  rename_i e ks bytes Q x;unfold BE;simp only[Prim.isApp,ac,Ao];cases Q
  case own id w' n=>
   dsimp only[DT,DZ,Ir];cases C5 aC ks x with
   |none=>rfl
   |some m=>
    dsimp only;cases Aa aC id with
    |none=>rfl
    |some r=>
     dsimp only;cases(AV ks r.ks&&Nat.beq r.ty e&&Nat.ble 1 bytes)
     ·rfl
     ·simp only[ac,cq];cases Nat.ble ((r.l++m).length*bytes) 140737488355328
      ·rfl
      ·simp only[ac,cq,An];rfl
  case nilSl=>
   dsimp only[DT,DZ];cases dst with
   |none=>grind
   |some d=>
    dsimp only[I_];cases C5 aC ks x with
    |none=>rfl
    |some m=>
     dsimp only;cases Aa aC d with
     |some _=>rfl
     |none=>
      dsimp only;cases(Nat.ble 1 ks.length&&Nat.ble 1 bytes)
      ·rfl
      ·simp only[ac,cq];cases Nat.ble (m.length*bytes) 140737488355328
       ·rfl
       ·simp only[ac,cq,An];rfl
  all_goals
   grind [DT]
theorem Pe (A:Ak P C) {dst:Option Tmp} {p:Prim} {s:St} {K:TV->St->Option R} {r:R} (h:Ao C dst p s K=some r):∃v G,K v G=some r:=by
 obtain⟨tm,aB,aC⟩:=s;cases p<;>simp only[Ao]at h
 case val v=>grind
 case newView e ks l=>grind
 case load g sz key off=>grind
 case store key off cs=>
  split at h
  ·rename_i b _;cases hb:Nat.ble (off+cs.length) b.cells.length<;>rw[hb]at h
   ·grind
   ·simp only[ac,An]at h;grind
  grind
 case new ty cs=>grind [An]
 case newS ty n cs=>grind [An]
 case rload g sz id idx sub=>grind
 case rstore id idx sub cs=>
  split at h
  ·rename_i J _;cases hb:(Nat.ble (sub+cs.length) J.w&&Ab AC.plain cs)<;>rw[hb]at h
   ·grind
   ·simp only[ac]at h
    grind [An]
  grind
 case newRow e ks l=>grind [An]
 case make e ks bytes n z=>
  split at h
  ·split at h
   ·grind
   ·obtain⟨_,h⟩:=Ay h
    grind [An]
  grind
 case cutR id a=>
  split at h
  ·obtain⟨_,h⟩:=Ay h
   grind [An]
  grind
 case append e ks bytes s x=>
  split at h
  ·split at h
   ·split at h
    ·split at h
     ·grind
     ·obtain⟨_,h⟩:=Ay h;obtain⟨_,h⟩:=Ay h
      grind [An]
    grind
   ·split at h
    ·obtain⟨_,h⟩:=Ay h;obtain⟨_,h⟩:=Ay h
     grind [An]
    grind
   grind
  grind
 case call f args=>
  split at h
  ·rename_i g D;split at h
   ·obtain⟨v,m,h',_⟩:=(A.1 f g D).run h
    grind
   grind
  grind
 case callM f args=>
  split at h
  ·rename_i g D;cases E:C.keepR f<;>rw[E]at h
   case true=>
    simp only[ac]at h;unfold F5 at h;split at h
    ·split at h
     ·obtain⟨v,m,h',_⟩:=(A.1 f g D).run h;split at h'
      ·obtain⟨_,h'⟩:=Ay h'
       grind [An]
      grind
     grind
    grind
   simp only[aj]at h;simp only[An]at h;obtain⟨_,h⟩:=Ay h;split at h
   ·obtain⟨v,m,h',_⟩:=(A.1 f g D).run h
    grind
   grind
  grind
 case callF f args=>
  split at h
  ·rename_i g D;obtain⟨_,h⟩:=Ay h;obtain⟨v,m,h',_⟩:=(A.1 f g D).run h;split at h'
   ·grind
   ·split at h'
    ·obtain⟨_,h'⟩:=Ay h'
     grind [An]
    grind
   grind
  grind
 case appD e ks bytes s x=>
  split at h
  ·split at h
   ·split at h
    ·obtain⟨_,h⟩:=Ay h;obtain⟨_,h⟩:=Ay h
     grind [An]
    grind
   ·split at h
    ·split at h
     ·grind
     ·obtain⟨_,h⟩:=Ay h;obtain⟨_,h⟩:=Ay h
      grind [An]
    grind
   grind
  grind
 case callD f args=>
  split at h
  ·rename_i g D;simp only[An]at h;obtain⟨_,h⟩:=Ay h;split at h
   ·obtain⟨v,m,h',_⟩:=(A.1 f g D).run h
    grind
   grind
  grind
theorem NO (D:Ak P C) (dst:Option Tmp) (p:Prim) (s:St) (K:TV->St->Option R):Ao C dst p s K=(Ao C dst p s λv L=>some (v,L)).bind λq=>K q.1 q.2:=by
 obtain⟨tm,aB,aC⟩:=s;cases p<;>simp only[Ao,An]
 case val v=>rfl
 case newView e ks l=>rfl
 case load g sz key off=>grind
 case store key off cs=>grind
 case new ty cs=>grind
 case newS ty n cs=>grind
 case rload g sz id idx sub=>grind
 case rstore id idx sub cs=>grind
 case newRow e ks l=>grind
 case make e ks bytes n z=>grind
 case cutR id a=>grind
 case append e ks bytes s x=>
  cases C5 aC ks x with
  |none=>rfl
  |some m=>grind
 case appD e ks bytes s x=>
  cases C5 aC ks x with
  |none=>rfl
  |some m=>grind
 case call f args=>
  cases E:C.spec f with
  |none=>rfl
  |some g=>
   dsimp only;cases B5 aC args with
   |none=>rfl
   |some l=>
    dsimp only;have A:=D.1 f g E
    grind [A.nat]
 case callM f args=>
  cases E:C.spec f with
  |none=>rfl
  |some g=>
   dsimp only;have A:=D.1 f g E;cases N:C.keepR f
   case true=>
    simp only[ac,F5];cases It args with
    |none=>rfl
    |some id=>
     dsimp only;cases Aa aC id with
     |none=>rfl
     |some r=>
      dsimp only;rw[A.nat,A.nat (TV×St)];cases g (TV×Mem) (args.map (TV.ren (λk=>base+pos [] k) (λi=>base+pos [id] i))) ⟨[],[(base,r)]⟩ (λv m=>some (v,m))with
      |none=>rfl
      |some q=>
       obtain⟨v,⟨G,J⟩⟩:=q;simp only[ak];cases G with
       |cons _ _=>rfl
       |nil=>
        cases J with
        |nil=>rfl
        |cons p l=>
         obtain⟨k,r'⟩:=p;cases l with
         |cons _ _=>rfl
         |nil=>
          dsimp only;cases(Nat.beq k base&&Nat.beq r'.ty r.ty&&AV r'.ks r.ks&&v.plainB)
          ·rfl
          simp[An]
   simp only[aj];generalize Ef aB 4 (As (cat AC.keys (cat TV.cellsOf args)) [])=keys;generalize EO aB (cat TV.cellsOf args) keys=ids;cases(Ab (TV.inK keys ids) args&&Ab (λk=>Ab (AC.inK keys ids) (Bv aB k)) keys&&AK keys&&AK ids)
   ·rfl
   ·simp only[ac];cases AZ aB (λk=>base+pos keys k) (λi=>base+pos ids i) base keys with
    |none=>rfl
    |some G=>
     cases BX aC base ids with
     |none=>rfl
     |some J=>grind [A.nat]
 case callF f args=>
  cases E:C.spec f with
  |none=>rfl
  |some g=>
   dsimp only;have A:=D.1 f g E;cases Ab TV.plainB args
   ·rfl
   ·simp only[ac];rw[A.nat,A.nat (TV×St)]
    grind
 case callD f args=>
  cases E:C.spec f with
  |none=>rfl
  |some g=>
   dsimp only;have A:=D.1 f g E;generalize As (cat AC.keys (cat TV.cellsOf args)) []=keys;cases(Ab (TV.inK keys []) args&&Ab (λk=>Ab AC.calm (Bv aB k)) keys&&AK keys)
   ·rfl
   ·simp only[ac];cases AZ aB (λk=>base+pos keys k) (λi=>base+pos [] i) base keys with
    |none=>rfl
    |some G=>grind [A.nat]
theorem G6:∀(l:List Nat) (s:St) (K:St->Option R),C6 l s K=(C6 l s some).bind K
 |[],s,K=>rfl
 |id::l,⟨tm,aB,aC⟩,K=>by
  simp only[C6,An];cases Aa aC id with
  |none=>exact G6 l _ K
  |some r=>exact G6 l _ K
theorem Lh (k o:Nat) (e:TypeId) (s:St) (K:St->Option R):EC P k o e s K=(EC P k o e s some).bind K:=by
 obtain⟨tm,aB,aC⟩:=s
 grind [EC,An]
theorem Iy:∀(l:List (Nat×Nat×TypeId)) (s:St) (K:St->Option R),Dn P l s K=(Dn P l s some).bind K
 |[],s,K=>rfl
 |(k,o,e)::l,s,K=>by
  simp only[Dn];rw[Lh,Lh (K:=λA=>Dn P l A some)];cases EC P k o e s some with
  |none=>rfl
  |some A=>exact Iy l A K
theorem Hq:∀(l:List (Nat×TypeId)) (s:St) (K:St->Option R),Dl P l s K=(Dl P l s some).bind K
 |[],s,K=>rfl
 |(t,e)::l,⟨tmps,aB,aC⟩,K=>by
  simp only[Dl];split
  ·split
   ·rename_i ks _ _;cases Nat.ble 1 ks.length
    ·rfl
    ·simp only[ac,An];exact Hq l _ K
   ·rfl
  ·exact Hq l _ K
theorem P9 (s:St) (K:St->Option R):CG P C s K=(CG P C s some).bind K:=by
 simp only[CG,An];rw[Iy]
 conv=>rhs;rw[Iy]
 cases Dn P (cat (λp:Nat×Box=>bif Am C.ownBut p.1 then []else(C.ownOff p.2.ty).map λq=>(p.1,q.1,q.2)) s.aB) s some with
 |none=>rfl
 |some A=>grind [Hq]
theorem KB (o:Op) (s:St) (K:St->Option R):Dt P C o s K=(Dt P C o s some).bind K:=by
 unfold Dt;rw[G6]
 conv=>rhs;rw[G6]
 cases C6 (M8 C (Ai s.tmps) o) s some with
 |none=>rfl
 |some A=>grind [P9]
theorem Oa (D:Ak P C) (pre:Bool) (ops:List Oper) (o:Oper) (s:St) (K:Option Prim->St->Option R):BL P C pre ops o s K=(BL P C pre ops o s λp A=>some (p,A)).bind λq=>K q.1 q.2:=by
 have G:∀s:St,((bif pre then Dt P C o.op s else λK=>K s) λs=>opK P C (Ai s.tmps) o.dst o.op λp=>Ao C o.dst (p.dr pre) s λv A=>put A o.dst v (K (some (p.dr pre))))=
   ((bif pre then Dt P C o.op s else λK=>K s) λs=>opK P C (Ai s.tmps) o.dst o.op λp=>Ao C o.dst (p.dr pre) s λv A=>put A o.dst v ((λp A=>some (p,A)) (some (p.dr pre)))).bind λq=>K q.1 q.2:=by
  have h1:∀s:St,(opK P C (Ai s.tmps) o.dst o.op λp=>Ao C o.dst (p.dr pre) s λv A=>put A o.dst v (K (some (p.dr pre))))=(opK P C (Ai s.tmps) o.dst o.op λp=>Ao C o.dst (p.dr pre) s λv A=>put A o.dst v ((λp A=>some (p,A)) (some (p.dr pre)))).bind λq=>K q.1 q.2:=by
   intro s;rw[Fw]
   conv=>rhs;rw[Fw]
   cases opK P C (Ai s.tmps) o.dst o.op some with
   |none=>rfl
   |some p=>
    simp only[ak];rw[NO D]
    conv=>rhs;rw[NO D]
    cases Ao C o.dst (p.dr pre) s λv A=>some (v,A)with
    |none=>rfl
    |some q=>grind [Ew]
  intro s;cases pre
  ·grind
  ·simp only[ac];rw[KB]
   conv=>rhs;rw[KB]
   grind
 have E:∀s:St,put s o.dst (.tup []) (K none)=(put s o.dst (.tup []) ((λp A=>some (p,A)) none)).bind λq=>K q.1 q.2:=by
  intro s;simp only[Ew,ak]
 unfold BL Ff;cases o.guard with
 |none=>grind
 |some J=>
  obtain⟨j,want⟩:=J;dsimp only;cases ops[j]? with
  |none=>rfl
  |some L=>
   dsimp only;cases L.dst with
   |none=>rfl
   |some t=>
    dsimp only;split
    ·rename_i g _;cases g
     ·simp only[aj]
      grind [Ca]
     ·simp only[ac]
      grind [Ca]
    ·grind
    ·rfl
def AH (ops:List Oper) (o:Oper) (tm:List TV):Option Bool:=
 match o.guard with
 |none=>some true
 |some (j,want)=>match ops[j]? with
  |some A=>match A.dst with
   |some t=>match nth .vD tm t with
    | .c (.bool g)=>some (g==want)
    | .tup []=>some false
    |_=>none
   |none=>none
  |none=>none
def AI (ops:List Oper) (o:Oper) (s:St):Option (Option Prim×St):=
 match AH ops o s.tmps with
 |some true=>(opK P C (Ai s.tmps) o.dst o.op some).bind λp=>(BE (C:=C) o.dst (p.dr false) s).bind λq=>some (some (p.dr false),Gc q.2 o.dst q.1)
 |some false=>some (none,Gc s o.dst (.tup []))
 |none=>none
theorem MG {tm:List TV} {t:Nat} {v:TV} (h:nth .vD tm t=v) (D:v≠ .vD):setL tm t v=tm:=by
 rw[Au,List.getD]at h;rw[CF];cases A:tm[t]? with
 |none=>grind
 |some u=>
  rw[A]at h;simp at h;subst h;apply cg
  grind
theorem R9 (D:Ak P C) {ops:List Oper} {o:Oper} {s:St} {K:Option Prim->St->Option R} {r:R} (h:BL P C false ops o s K=some r):
  (∃p A,AI (P:=P) (C:=C) ops o s=some (p,A)/\K p A=some r)\/(∃p A,K (some p) A=some r/\Prim.simple (some p)=false):=by
 have L:∀s1:St,AH ops o s.tmps=some true->s1=s->(opK P C (Ai s1.tmps) o.dst o.op λp=>Ao C o.dst (p.dr false) s1 λv A=>put A o.dst v (K (some (p.dr false))))=some r->
   (∃p A,AI (P:=P) (C:=C) ops o s=some (p,A)/\K p A=some r)\/(∃p A,K (some p) A=some r/\Prim.simple (some p)=false):=by
  rintro s1 N rfl h;rw[Fw]at h;cases Q:opK P C (Ai s1.tmps) o.dst o.op some with
  |none=>grind
  |some p=>
   rw[Q]at h;simp only[ak]at h;cases S:Prim.simple (some (p.dr false))
   ·grind [Pe,Ew]
   ·left;rw[MF D S]at h;cases X:BE (C:=C) o.dst (p.dr false) s1 with
    |none=>grind
    |some q=>grind [Ew,AI]
 have G:∀s1:St,AH ops o s.tmps=some false->s1=s->put s1 o.dst (.tup []) (K none)=some r->
   (∃p A,AI (P:=P) (C:=C) ops o s=some (p,A)/\K p A=some r)\/(∃p A,K (some p) A=some r/\Prim.simple (some p)=false):=by
  rintro s1 N rfl h;rw[Ew]at h;exact .inl ⟨none,_,by grind [AI],h⟩
 unfold BL Ff at h;cases O:o.guard with
 |none=>simp_all [AH]
 |some T=>
  obtain⟨j,want⟩:=T;rw[O]at h;simp only at h;split at h
  ·rename_i Y U;split at h
   ·rename_i t V;split at h
    ·rename_i g E;have N:AH ops o s.tmps=some (g==want):=by simp only[AH,O,U,V,E]
     have J:∀b,g=b->(⟨setL s.tmps t (.c (.bool b)),s.aB,s.aC⟩:St)=s:=by
      rintro b rfl;rw[MG E (by simp)]
     cases g
     ·simp only[aj]at h;rw[Ca]at h;dsimp only at h;cases want
      ·grind
      grind
     ·simp only[ac]at h;rw[Ca]at h;dsimp only at h;cases want
      ·grind
      grind
    ·simp_all [AH]
    grind
   grind
  grind
def CQ (P:Program) (C:Cfg) (ops:List Oper) (m:List Nat) (i:Nat) (o:Oper) (s:St):Option (Option Prim×St):=
 if A7 ops m i=true then BL P C true ops o s λp A=>some (p,A)else AI (P:=P) (C:=C) ops o s
def FW (P:Program) (C:Cfg) (ops:List Oper) (m:List Nat):List (Nat×Oper×Option Prim)->St->St->Prop
 |[],s,A=>s=A
 |(i,o,p)::l,s,A=>∃s1,CQ P C ops m i o s=some (p,s1)/\FW P C ops m l s1 A
theorem H7 (A:Ak P C) {ops:List Oper} {m:List Nat}:∀(l:List Oper) (i:Nat) (s:St) (K:List (Oper×Option Prim)->St->Option R) (r:R),EH P C ops m l i s K=some r->
  (∃(ps:List (Nat×Oper×Option Prim)) (D:St),ps.map (·.2.1)=l/\ps.map (·.1)=List.range' i l.length/\FW P C ops m ps s D/\K (ps.map (·.2)) D=some r)\/
  (∃(acc:List (Oper×Option Prim)) (D:St),K acc D=some r/\∃(j:Nat) (q:Oper×Option Prim),acc[j]? =some q/\(A7 ops m (i+j)||Prim.simple q.2)=false)
 |[],i,s,K,r,h=> .inl ⟨[],s,rfl,rfl,rfl,h⟩
 |o::l,i,s,K,r,h=>by
  simp only[EH]at h;have E:(∃p s1,CQ P C ops m i o s=some (p,s1)/\EH P C ops m l (i+1) s1 (λrest D=>K ((o,p)::rest) D)=some r)\/
    (∃p s1,EH P C ops m l (i+1) s1 (λrest D=>K ((o,some p)::rest) D)=some r/\(A7 ops m i||Prim.simple (some p))=false):=by
   cases L:A7 ops m i
   ·rw[L]at h;rcases R9 A h with⟨p,s1,h1,h2⟩|⟨p,s1,h1,h2⟩
    ·exact .inl ⟨p,s1,by simp_all [CQ],h2⟩
    grind
   ·rw[L,Oa A]at h;cases N:BL P C true ops o s λp O=>some (p,O)with
    |none=>grind
    |some q=>
     rw[N]at h;exact .inl ⟨q.1,q.2,by simp_all [CQ],h⟩
  rcases E with⟨p,s1,h1,h2⟩|⟨p,s1,h1,h2⟩
  ·rcases H7 A l (i+1) s1 _ r h2 with⟨ps,D,q1,q2,G,J⟩|⟨acc,D,q1,j,q,q2,G⟩
   ·exact .inl ⟨(i,o,p)::ps,D,by grind,by simp[q2,List.range'_succ],⟨s1,h1,G⟩,J⟩
   ·exact .inr ⟨_,D,q1,j+1,q,by grind,by grind⟩
  ·rcases H7 A l (i+1) s1 _ r h1 with⟨ps,D,q1,q2,G,J⟩|⟨acc,D,q1,j,q,q2,G⟩
   ·exact .inr ⟨_,D,J,0,(o,some p),by simp,h2⟩
   ·exact .inr ⟨_,D,q1,j+1,q,by grind,by grind⟩
end
end Go.Bm
