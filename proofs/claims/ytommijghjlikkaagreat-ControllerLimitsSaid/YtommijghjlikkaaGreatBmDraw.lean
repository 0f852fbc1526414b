/- the abstract machine -/
import Derived.Test.YtommijghjlikkaaGreatBmFz
import Derived.ArgAppend
import Derived.LoopN
set_option linter.unusedVariables false
set_option linter.unusedSimpArgs false
namespace Go.Bm
open Go.RowKit
section
variable {P:Program} {C:Cfg} {ρ:Env} {w:World} {R:Type} {Z:Base} {tm:List TV} {aB:List (Nat×Box)} {aC:List (Nat×Row)} {tmps:Array Value}
theorem Qs7:∀{l:List (Nat×Nat)} {cs:List AC},JV l cs=true->cs=Mw l
 |[],[],_=>rfl
 |(k,o)::l,a::cs,h=>by
  cases a<;>simp only[JV]at h<;>try (simp at h;done)
  simp only[ak]at h;rw[af h.1.1,af h.1.2,Qs7 h.2];rfl
 |[],_::_,h=>by simp[JV]at h
 |_::_,[],h=>by simp[JV]at h
structure Built (aC : List (Nat × Row)) (rl : Nat -> Nat) : Prop where
 rl:∀id r,Ac aC id=some r->rl id=r.l.length
def Seg (l:List AC) (i:Nat) (v:List AC):Prop:=∀j,j<v.length->nth .vD l (i+j)=nth .vD v j
theorem Seg.left {l:List AC} {i:Nat} {v u:List AC} (h:Seg l i (v++u)):Seg l i v:=λj D=>by
 rw[h j (by simp;omega),B5,B5,List.getD,List.getD,iz D]
theorem Seg.right {l:List AC} {i:Nat} {v u:List AC} (h:Seg l i (v++u)):Seg l (i+v.length) u:=λj D=>by
 rw[dm,h (v.length+j) (by simp;omega),B5,B5,List.getD,List.getD,kn (by omega)];simp
theorem Seg.one {l:List AC} {i:Nat} {a:AC} (h:Seg l i [a]):nth .vD l i=a:=h 0 (by simp)
theorem Seg.all (l:List AC):Seg l 0 l:=λj _=>by rw[fc]
theorem Z92 {rl:Nat->Nat} (G:Built aC rl) {c:CS} {a:AC} {v:List AC} (h:K_ c a=some v) {l:List AC} {i:Nat} (E:Seg l i v):
  (EG rl l c i).2=i+v.length/\∀x,AC.wf aB aC a->CC ρ w a x->CC ρ w (EG rl l c i).1 x:=by
 cases c<;>cases a<;>simp only[K_]at h<;>try (simp at h;done)
 case any.vD=>simp at h;subst h;exact⟨rfl,λx _ h=>h.one⟩
 case any.int=>simp at h;subst h;exact⟨rfl,λx _ h=>h.one⟩
 case any.bool=>simp at h;subst h;exact⟨rfl,λx _ h=>h.one⟩
 case any.raw=>simp at h;subst h;exact⟨rfl,λx _ h=>h.one⟩
 case any.nilSl=>simp at h;subst h;exact⟨rfl,λx _ h=>h.one⟩
 case any.ptr=>simp at h;subst h;exact⟨rfl,λx _ h=>h.one⟩
 case any.own=>simp at h;subst h;exact⟨rfl,λx _ h=>h.one⟩
 case any.vC=>simp at h;subst h;exact⟨rfl,λx _ h=>h.one⟩
 case any.rptr=>simp at h;subst h;exact⟨rfl,λx _ h=>h.one⟩
 case any.vptr=>simp at h;subst h;exact⟨rfl,λx _ h=>h.one⟩
 case any.clo=>simp at h;subst h;exact⟨rfl,λx _ h=>h.one⟩
 case any.bsl=>simp at h;subst h;exact⟨rfl,λx _ h=>h.one⟩
 case int.int k k' n=>
  cases D:kEq k k'<;>rw[D]at h
  ·simp at h
  ·simp at h;subst h;rw[<-P6 D];refine⟨rfl,λx _ h=> ?_⟩;simp only[EG,E.one,Af];exact h
 case bool.bool b=>
  simp at h;subst h;refine⟨rfl,λx _ h=> ?_⟩;simp only[EG,E.one,CU];exact h
 case sl.nilSl ks=>
  simp at h;subst h;refine⟨rfl,λx _ h=> ?_⟩;simp only[CC,CP]at h;subst h;simp only[EG,E.one,B_];exact UV ks
 case sl.vC ks I l=>
  cases D:Dy ks I<;>rw[D]at h
  ·simp at h
  ·simp at h;subst h;rw[<-Kh D];refine⟨rfl,λx _ h=> ?_⟩;simp only[EG,E.one,B_];exact h
 case rawc.raw v=>
  simp at h;subst h;refine⟨rfl,λx _ h=> ?_⟩;simp only[EG,E.one];exact h
 case nil.nilSl=>simp at h;subst h;exact⟨rfl,λx _ h=>h⟩
 case ptr.ptr k o k' J=>
  cases D:(Nat.beq k k'&&Nat.beq o J)<;>rw[D]at h
  ·simp at h
  ·simp at h;subst h;simp only[ak]at D;rw[<-af D.1,<-af D.2];exact⟨rfl,λx _ h=>h⟩
 case bsl.bsl k o k' J=>
  cases D:(Nat.beq k k'&&Nat.beq o J)<;>rw[D]at h
  ·simp at h
  ·simp at h;subst h;simp only[ak]at D;rw[<-af D.1,<-af D.2];exact⟨rfl,λx _ h=>h⟩
 case own.own id wd id' L n=>
  cases D:(Nat.beq id id'&&Nat.beq wd L)<;>rw[D]at h
  ·simp at h
  ·simp at h;subst h;simp only[ak]at D;rw[<-af D.1,<-af D.2];refine⟨rfl,λx O h=> ?_⟩;obtain⟨r,S,T,V⟩:=O;show CC ρ w (.own id wd (rl id)) x;rw[G.rl id r S];have:r.l.length=n:=T;rw[this];exact h
 case clo.clo f fs cs U M N=>
  cases D:(Nat.beq f U&&JV fs M&&JV cs N)<;>rw[D]at h
  ·simp at h
  ·simp at h;subst h;simp only[ak]at D;rw[<-af D.1.1,Qs7 D.1.2,Qs7 D.2];exact⟨rfl,λx _ h=>h⟩
theorem Ug {rl:Nat->Nat} (D:Built aC rl) {l:List AC}:∀{cs:List CS} {as:List AC} {v:List AC},Hf cs as=some v->∀{i},Seg l i v->
  (EH rl l cs i).2=i+v.length/\(EH rl l cs i).1.length=as.length/\∀xs,(∀a∈as,AC.wf aB aC a)->CL (CC ρ w) as xs->CL (CC ρ w) (EH rl l cs i).1 xs
 |[],[],v,h,i,_=>by simp[Hf]at h;subst h;exact⟨rfl,rfl,λxs _ h=>h⟩
 |c::cs,a::as,v,h,i,J=>by
  simp only[Hf]at h;split at h
  ·rename_i U M;split at h
   ·rename_i V N;simp at h;subst h;obtain⟨E,G⟩:=Z92 (ρ:=ρ) (w:=w) (aB:=aB) D M J.left;obtain⟨O,S,T⟩:=Ug D N J.right;simp only[EH];generalize hb:EG rl l c i=q at E G;obtain⟨b,X⟩:=q;simp only at E G;subst E;refine⟨by simp only[O,an];omega,by simp[S],λxs L I=> ?_⟩;cases xs with
    |nil=>exact I.elim
    |cons x xs=>exact⟨G x (L a (by simp)) I.1,T xs (λb hb=>L b (by simp[hb])) I.2⟩
   ·simp at h
  ·simp at h
 |[],_::_,v,h,_,_=>by simp[Hf]at h
 |_::_,[],v,h,_,_=>by simp[Hf]at h
theorem Q5h {rl:Nat->Nat} (E:Built aC rl) {l:List AC}:∀{ps:List (Bool×List CS)} {I:List (Bool×List AC)} {v:List AC},MJ ps I=some v->∀{i},Seg l i v->
  (HP rl l ps i).2=i+v.length/\∀xs,(∀p∈I,∀a∈p.2,AC.wf aB aC a)->TP ρ w I xs->TP ρ w (HP rl l ps i).1 xs
 |[],[],v,h,i,_=>by simp[MJ]at h;subst h;exact⟨rfl,λxs _ h=>h⟩
 |(g,cs)::ps,(S,as)::I,v,h,i,T=>by
  simp only[MJ]at h;cases U:(g==S)<;>rw[U]at h
  ·simp at h
  ·simp only[ai]at h;have M:g=S:=by simpa using U
   subst M;split at h
   ·rename_i v1 X;split at h
    ·rename_i v2 Y;simp at h;subst h;obtain⟨N,J,L⟩:=Ug (ρ:=ρ) (w:=w) (aB:=aB) E X T.left;obtain⟨p1,p2⟩:=Q5h E Y T.right;simp only[HP];generalize hb:EH rl l cs i=q at N L J;obtain⟨b,i'⟩:=q;simp only at N L J;subst N;refine⟨by simp only[p1,an];omega,λxs V O=> ?_⟩;cases xs with
     |nil=>exact O.elim
     |cons x xs=>
      refine⟨?_,p2 xs (λp hp=>V p (by simp[hp])) O.2⟩;have G:=O.1;have D:=V (g,as) (by simp);cases g
      ·obtain⟨a,e1,e2⟩:=G;dsimp only at e1 D;subst e1;have:=L [x] D ⟨e2,trivial⟩;cases b with
       |nil=>simp at J
       |cons c b=>
        cases b with
        |nil=>exact⟨c,rfl,this.1⟩
        |cons=>simp at J
      ·obtain⟨ys,e1,e2⟩:=G;exact⟨ys,e1,L _ D e2⟩
    ·simp at h
   ·simp at h
 |[],_::_,v,h,_,_=>by simp[MJ]at h
 |(_,_)::_,[],v,h,_,_=>by simp[MJ]at h
theorem Z54 {rl:Nat->Nat} (G:Built aC rl) {t:TS} {u:TV} {v:List AC} (h:J9 t u=some v) {l:List AC} {i:Nat} (N:Seg l i v):
  (If rl l t i).2=i+v.length/\∀x,TV.wf aB aC u->TVR ρ w u x->TVR ρ w (If rl l t i).1 x:=by
 cases t with
 |vD=>simp[J9]at h;subst h;exact⟨rfl,λ_ _ _=>trivial⟩
 |v g cs=>
  cases u with
  |vD=>simp[J9]at h
  |tup=>simp[J9]at h
  |v O as=>
   simp only[J9]at h;cases S:(g==O)<;>rw[S]at h
   ·simp at h
   ·simp only[ai]at h;have L:g=O:=by simpa using S
    subst L;obtain⟨E,I,D⟩:=Ug (ρ:=ρ) (w:=w) (aB:=aB) G h N;simp only[If];generalize hb:EH rl l cs i=q at E D I;obtain⟨b,U⟩:=q;simp only at E D I;refine⟨E,λx J T=> ?_⟩;cases g
    ·obtain⟨a,rfl,e2⟩:=T;have:=D [x] J ⟨e2,trivial⟩;cases b with
     |nil=>simp at I
     |cons c b=>
      cases b with
      |nil=>exact⟨c,rfl,this.1⟩
      |cons=>simp at I
    ·obtain⟨M,rfl,e2⟩:=T;exact⟨M,rfl,D _ J e2⟩
 |tup ps=>
  cases u with
  |vD=>simp[J9]at h
  |v=>simp[J9]at h
  |tup V=>
   simp only[J9]at h;obtain⟨E,D⟩:=Q5h (ρ:=ρ) (w:=w) (aB:=aB) G h N;simp only[If];generalize hb:HP rl l ps i=q at E D;obtain⟨b,U⟩:=q;simp only at E D;exact⟨E,λx J ⟨M,e1,e2⟩=>⟨M,e1,D _ J e2⟩⟩
theorem Vo {rl:Nat->Nat} (D:Built aC rl) {l:List AC}:∀{E:List TS} {G:List TV} {v:List AC},K8 E G=some v->∀{i},Seg l i v->
  (FI rl l E i).2=i+v.length/\(FI rl l E i).1.length=G.length/\∀(n:Nat) (b:TV),(FI rl l E i).1[n]? =some b->∃u,G[n]? =some u/\∀x,TV.wf aB aC u->TVR ρ w u x->TVR ρ w b x
 |[],[],v,h,i,_=>by simp[K8]at h;subst h;exact⟨rfl,rfl,λi b h=>by simp[FI]at h⟩
 |t::E,u::G,v,h,i,M=>by
  simp only[K8]at h;split at h
  ·rename_i X N;split at h
   ·rename_i Y O;simp at h;subst h;obtain⟨I,J⟩:=Z54 (ρ:=ρ) (w:=w) (aB:=aB) D N M.left;obtain⟨S,T,U⟩:=Vo D O M.right;simp only[FI];generalize hb:If rl l t i=q at I J;obtain⟨b,i'⟩:=q;simp only at I J;subst I;refine⟨by simp only[S,an];omega,by simp[T],λn c L=> ?_⟩;cases n with
    |zero=>simp at L;subst L;exact⟨u,rfl,J⟩
    |succ n=>obtain⟨V,e1,e2⟩:=U n c (by simpa using L);exact⟨V,by simpa using e1,e2⟩
   ·simp at h
  ·simp at h
 |[],_::_,v,h,_,_=>by simp[K8]at h
 |_::_,[],v,h,_,_=>by simp[K8]at h
theorem Q4k {rl:Nat->Nat} (G:Built aC rl) {l:List AC}:∀{bs:List (Nat×TypeId×List CS)} {v:List AC},Km bs aB=some v->∀{i},Seg l i v->
  ∀k b,Ac (FR rl l bs i) k=some b->k∈bs.map (·.1)/\∃E,Ac aB k=some E/\b.ty=E.ty/\∀xs,(∀a∈E.cells,AC.wf aB aC a)->CL (CC ρ w) E.cells xs->CL (CC ρ w) b.cells xs
 |[],v,h,i,_,k,b,D=>by simp[FR,Ac]at D
 |(j,t,cs)::bs,v,h,i,N,k,b,D=>by
  simp only[Km]at h;split at h
  ·rename_i E J;cases O:Nat.beq t E.ty<;>rw[O]at h
   ·simp at h
   ·simp only[ai]at h;split at h
    ·rename_i Y U;split at h
     ·rename_i v2 V;simp at h;subst h;obtain⟨L,S,M⟩:=Ug (ρ:=ρ) (w:=w) (aB:=aB) G U N.left;simp only[FR]at D;generalize hb:EH rl l cs i=q at L M S D;obtain⟨c,i'⟩:=q;simp only at L M S D;subst L;simp only[Ac]at D;cases I:Nat.beq j k<;>rw[I]at D
      ·obtain⟨T,X⟩:=Q4k G V N.right k b D;exact⟨by simp at T⊢;exact .inr T,X⟩
      ·have:=af I;subst this;simp at D;subst D;exact⟨by simp,E,J,af O,M⟩
     ·simp at h
    ·simp at h
  ·simp at h
theorem Quc {l:List AC}:∀{rs:List (Nat×TypeId×List Kd)} {v:List AC},J2 rs aC=some v->∀{i},Seg l i v->
  (Hy l rs i).2=i+v.length/\(∀id r,Ac (Hy l rs i).1 id=some r->Ac aC id=some r)/\∀id t ks,Ac rs id=some (t,ks)->∃r,Ac (Hy l rs i).1 id=some r/\r.ks=ks
 |[],v,h,i,_=>by simp[J2]at h;subst h;exact⟨rfl,λid r h=>by simp[Hy,Ac]at h,λid t ks h=>by simp[Ac]at h⟩
 |(k,t,ks)::rs,v,h,i,O=>by
  simp only[J2]at h;split at h
  ·rename_i r S;cases hb:(Nat.beq t r.ty&&Dy ks r.ks)<;>rw[hb]at h
   ·simp at h
   ·simp only[ai]at h;simp only[ak]at hb;split at h
    ·rename_i T I;simp at h;subst h;have E:Seg l i ([.vC ks r.l]++T):=O;obtain⟨J,L,M⟩:=Quc I (i:=i+1) E.right;simp only[Hy,E.left.one,B_];generalize V:Hy l rs (i+1)=q at J L M;obtain⟨B,X⟩:=q;simp only at J L M;refine⟨by simp only[J,bh];omega,λid r' D=> ?_,λid U N D=> ?_⟩
     ·simp only[Ac]at D;cases G:Nat.beq k id<;>rw[G]at D
      ·exact L id r' D
      ·have:=af G;subst this;simp at D;subst D;rw[S,af hb.1,Kh hb.2]
     ·simp only[Ac]at D⊢;cases G:Nat.beq k id<;>rw[G]at D
      ·simp only[aq]at D⊢;exact M id U N D
      ·simp at D;obtain⟨_,rfl⟩:=D;exact⟨_,rfl,rfl⟩
    ·simp at h
  ·simp at h
section names
variable {keys:List Nat} {rs:List (Nat×TypeId×List Kd)} {B':List (Nat×Box)} {R':List (Nat×Row)} {rl:Nat->Nat}
theorem Qhi (E:∀k∈keys,∃b,Ac B' k=some b):∀(l:List (Nat×Nat)),Al (λp:Nat×Nat=>AW keys p.1) l=true->∀a∈Mw l,AC.wfP B' a
 |[],_,a,D=>by simp[Mw]at D
 |(k,o)::l,h,a,D=>by
  have G:=AD.1 h;simp only[Mw,ao]at D;rcases D with rfl|D
  ·exact E k (FJ.1 (G (k,o) (by simp)))
  ·exact Qhi E l (AD.2 λp I=>G p (by simp[I])) a D
theorem Zra (E:∀k∈keys,∃b,Ac B' k=some b) (G:∀id t ks,Ac rs id=some (t,ks)->∃r,Ac R' id=some r/\r.ks=ks/\rl id=r.l.length) {c:CS} (D:c.okB keys rs=true) (l:List AC) (i:Nat):AC.wf B' R' (EG rl l c i).1:=by
 cases c<;>simp only[EG]<;>try trivial
 case rawc=>simp only[Nm];split<;>trivial
 case ptr k o=>exact E k (FJ.1 D)
 case bsl k o=>exact E k (FJ.1 D)
 case own id wd=>
  simp only[CS.okB]at D;split at D
  ·rename_i t ks I;obtain⟨r,J,L,M⟩:=G id t ks I;refine⟨r,J,M.symm,?_⟩;show r.ks.length=wd;rw[L];exact af D
  ·simp at D
 case clo f fs cs=>
  simp only[CS.okB,ak]at D;exact⟨Qhi E fs D.1,Qhi E cs D.2⟩
theorem SU (E:∀k∈keys,∃b,Ac B' k=some b) (G:∀id t ks,Ac rs id=some (t,ks)->∃r,Ac R' id=some r/\r.ks=ks/\rl id=r.l.length):∀{cs:List CS},Al (CS.okB keys rs) cs=true->∀(l:List AC) (i:Nat),∀a∈(EH rl l cs i).1,AC.wf B' R' a
 |[],_,l,i,a,D=>by simp[EH]at D
 |c::cs,h,l,i,a,D=>by
  have I:=AD.1 h;simp only[EH,ao]at D;rcases D with rfl|D
  ·exact Zra E G (I c (by simp)) l i
  ·exact SU E G (AD.2 λc J=>I c (by simp[J])) l _ a D
theorem Q2t (E:∀k∈keys,∃b,Ac B' k=some b) (G:∀id t ks,Ac rs id=some (t,ks)->∃r,Ac R' id=some r/\r.ks=ks/\rl id=r.l.length):∀{ps:List (Bool×List CS)},Al (λp:Bool×List CS=>Al (CS.okB keys rs) p.2) ps=true->∀(l:List AC) (i:Nat),∀p∈(HP rl l ps i).1,∀a∈p.2,AC.wf B' R' a
 |[],_,l,i,p,D=>by simp[HP]at D
 |(g,cs)::ps,h,l,i,p,D=>by
  have I:=AD.1 h;simp only[HP,ao]at D;rcases D with rfl|D
  ·exact SU E G (I (g,cs) (by simp)) l i
  ·exact Q2t E G (AD.2 λc J=>I c (by simp[J])) l _ p D
theorem Zq6 (D:∀k∈keys,∃b,Ac B' k=some b) (E:∀id t ks,Ac rs id=some (t,ks)->∃r,Ac R' id=some r/\r.ks=ks/\rl id=r.l.length) {t:TS} (G:t.okB keys rs=true) (l:List AC) (i:Nat):TV.wf B' R' (If rl l t i).1:=by
 cases t with
 |vD=>trivial
 |v g cs=>exact SU D E G l i
 |tup ps=>exact Q2t D E G l i
theorem Qj5 (E:∀k∈keys,∃b,Ac B' k=some b) (G:∀id t ks,Ac rs id=some (t,ks)->∃r,Ac R' id=some r/\r.ks=ks/\rl id=r.l.length):∀{ts:List TS},Al (TS.okB keys rs) ts=true->∀(l:List AC) (i:Nat),∀v∈(FI rl l ts i).1,TV.wf B' R' v
 |[],_,l,i,v,D=>by simp[FI]at D
 |t::ts,h,l,i,v,D=>by
  have I:=AD.1 h;simp only[FI,ao]at D;rcases D with rfl|D
  ·exact Zq6 E G (I t (by simp)) l i
  ·exact Qj5 E G (AD.2 λc J=>I c (by simp[J])) l _ v D
theorem Zce (D:∀k∈keys,∃b,Ac B' k=some b) (E:∀id t ks,Ac rs id=some (t,ks)->∃r,Ac R' id=some r/\r.ks=ks/\rl id=r.l.length):∀{bs:List (Nat×TypeId×List CS)},Al (λp:Nat×TypeId×List CS=>Al (CS.okB keys rs) p.2.2) bs=true->∀(l:List AC) (i k:Nat) (b:Box),Ac (FR rl l bs i) k=some b->∀a∈b.cells,AC.wf B' R' a
 |[],_,l,i,k,b,hb=>by simp[FR,Ac]at hb
 |(j,t,cs)::bs,h,l,i,k,b,hb=>by
  have G:=AD.1 h;simp only[FR,Ac]at hb;cases I:Nat.beq j k<;>rw[I]at hb
  ·exact Zce D E (AD.2 λc J=>G c (by simp[J])) l _ k b hb
  ·simp at hb;subst hb;exact SU D E (G (j,t,cs) (by simp)) l i
end names
theorem Q3v {rl:Nat->Nat} (l:List AC):∀(bs:List (Nat×TypeId×List CS)) (i k:Nat),k∈bs.map (·.1)->∃b,Ac (FR rl l bs i) k=some b
 |[],_,k,h=>by simp at h
 |(j,t,cs)::bs,i,k,h=>by
  simp only[FR,Ac];cases D:Nat.beq j k
  ·have:k∈bs.map (·.1):=by
    simp only[bm,ao]at h;exact h.resolve_left λe=>Hw D e.symm
   exact Q3v l bs _ k this
  ·exact⟨_,rfl⟩
theorem RelE.rebuild {sk:Sk} {vars:List AC} (h:RelE Z tm aB aC ρ tmps w) (hZ:∀k b,Z.K0 k=some b->GM k=true) (V:sk.okB=true) (J:F6 sk ⟨tm,aB,aC⟩=some vars):
  RelE Z (BL sk vars).tmps (BL sk vars).aB (BL sk vars).aC ρ tmps w:=by
 simp only[F6]at J;obtain ⟨a6, J⟩ : Al (λp : Nat × Box => !(GM p.1) || AW (sk.aB.map (·.1)) p.1) aB = true /\ (match J2 sk.aC aC with
  |some a=>match K8 sk.tmps tm with
   |some b=>match Km sk.aB aB with
    |some c=>some (a++(b++c))
    |none=>none
   |none=>none
  |none=>none)=some vars:=by
  revert J
  generalize Al (λp:Nat×Box=> !(GM p.1)||AW (sk.aB.map (·.1)) p.1) aB=q;intro J;cases q
  ·simp at J
  ·exact⟨rfl,J⟩
 split at J
 ·rename_i S a7;split at J
  ·rename_i vb a8;split at J
   ·rename_i vc a9;simp at J;subst J;have T:=Seg.all (S++(vb++vc));generalize L:S++(vb++vc)=l at T⊢;rw[<-L]at T;have b1:Seg l 0 S:=by rw[<-L];exact(Seg.all _).left
    have b2:Seg l (0+S.length) vb:=by rw[<-L];exact(Seg.all _).right.left
    have b3:Seg l (0+S.length+vb.length) vc:=by rw[<-L];exact(Seg.all _).right.right
    obtain⟨r1,U,r3⟩:=Quc a7 b1;simp only[BL];generalize hR:Hy l sk.aC 0=qr at r1 U r3;obtain⟨R',ir⟩:=qr;simp only at r1 U r3⊢;subst r1;have c0:sk.okB=true:=V;simp only[Sk.okB,ak]at V;obtain⟨⟨⟨c1,c2⟩,a2⟩,a3⟩:=V
    have a4:∀id r,Ac R' id=some r->Em R' id=r.l.length:=λid r L=>by simp only[Em,L]
    have G:∀k∈sk.aB.map (·.1),∃b,Ac (FR (Em R') l sk.aB (0+S.length+vb.length)) k=some b:=λk M=>Q3v l sk.aB _ k M;have X:∀id t ks,Ac sk.aC id=some (t,ks)->∃r,Ac R' id=some r/\r.ks=ks/\Em R' id=r.l.length:=λid t ks L=>by
     obtain⟨r,I,Y⟩:=r3 id t ks L;exact⟨r,I,Y,a4 id r I⟩
    let D:Nat->Nat:=λid=>match Ac aC id with
     |some r=>r.l.length
     |none=>0
    have a5:Built aC D:=⟨λid r L=>by simp only[D,L]⟩;have a0:∀id t ks,Ac sk.aC id=some (t,ks)->D id=Em R' id:=λid t ks L=>by
     obtain⟨r,I,_,q3⟩:=X id t ks L;simp only[D,U id r I,q3]
    have eC:∀(c:CS) (i:Nat),c.okB (sk.aB.map (·.1)) sk.aC=true->EG D l c i=EG (Em R') l c i:=by
     intro c i E;cases c<;>try rfl
     rename_i id wd;simp only[CS.okB]at E;split at E
     ·rename_i t ks L;simp only[EG,a0 id t ks L]
     ·simp at E
    have a1:∀(cs:List CS) (i:Nat),Al (CS.okB (sk.aB.map (·.1)) sk.aC) cs=true->EH D l cs i=EH (Em R') l cs i:=by
     intro cs;induction cs with
     |nil=>intro i _;rfl
     |cons c cs ih=>
      intro i E;have N:=AD.1 E;simp only[EH];rw[eC c i (N c (by simp))];rw[ih _ (AD.2 λc E=>N c (by simp[E]))]
    have b4:∀(ps:List (Bool×List CS)) (i:Nat),Al (λp:Bool×List CS=>Al (CS.okB (sk.aB.map (·.1)) sk.aC) p.2) ps=true->HP D l ps i=HP (Em R') l ps i:=by
     intro ps;induction ps with
     |nil=>intro i _;rfl
     |cons p ps ih=>
      intro i E;obtain⟨g,cs⟩:=p;have N:=AD.1 E;simp only[HP];rw[a1 cs i (N (g,cs) (by simp))];rw[ih _ (AD.2 λc E=>N c (by simp[E]))]
    have eT:∀(t:TS) (i:Nat),t.okB (sk.aB.map (·.1)) sk.aC=true->If D l t i=If (Em R') l t i:=by
     intro t i ht;cases t with
     |vD=>rfl
     |v g cs=>simp only[If];rw[a1 cs i ht]
     |tup ps=>simp only[If];rw[b4 ps i ht]
    have b5:∀(ts:List TS) (i:Nat),Al (TS.okB (sk.aB.map (·.1)) sk.aC) ts=true->FI D l ts i=FI (Em R') l ts i:=by
     intro ts;induction ts with
     |nil=>intro i _;rfl
     |cons c cs ih=>
      intro i E;have N:=AD.1 E;simp only[FI];rw[eT c i (N c (by simp))];rw[ih _ (AD.2 λc E=>N c (by simp[E]))]
    have b6:∀(bs:List (Nat×TypeId×List CS)) (i:Nat),Al (λp:Nat×TypeId×List CS=>Al (CS.okB (sk.aB.map (·.1)) sk.aC) p.2.2) bs=true->FR D l bs i=FR (Em R') l bs i:=by
     intro bs;induction bs with
     |nil=>intro i _;rfl
     |cons p bs ih=>
      intro i E;obtain⟨k,t,cs⟩:=p;have N:=AD.1 E;simp only[FR];rw[a1 cs i (N (k,t,cs) (by simp))];rw[ih _ (AD.2 λc E=>N c (by simp[E]))]
    have hT:=Vo (ρ:=ρ) (w:=w) (aB:=aB) a5 a8 b2;rw[b5 sk.tmps _ a2]at hT;obtain⟨t1,t2,t3⟩:=hT;have tw:=Qj5 (rl:=Em R') G X a2 l (0+S.length);generalize c3:FI (Em R') l sk.tmps (0+S.length)=qt at t1 t2 t3 tw;obtain⟨T',it⟩:=qt;simp only at t1 t2 t3 tw⊢;subst t1;have hB:=Q4k (ρ:=ρ) (w:=w) a5 a9 b3;rw[b6 sk.aB _ a3]at hB;refine⟨by rw[t2];exact h.tl,λi v O=> ?_,tw,Zce G X a3 l _,λk b M=> ?_,λk k' b b' M b7 he=> ?_,λid r O=>h.ro id r (U id r O),λid id' r r' g O b8=>h.ri id id' r r' g (U id r O) (U id' r' b8),λk b id r M O=> ?_,λb hb=> ?_,h.fr,h.fs,h.i0,h.i1,λk b M=> ?_⟩
    ·obtain⟨u,hu,hx⟩:=t3 i v O;exact hx _ (h.wt u (cd hu)) (h.tv i u hu)
    ·obtain⟨_,b0,I,Y,q3⟩:=hB k b M;obtain⟨arr,p1,p2,p3⟩:=h.bx k b0 I;exact⟨arr,by rw[Y];exact p1,q3 _ (h.wb k b0 I) p2,p3⟩
    ·obtain⟨_,b0,I,_⟩:=hB k b M;obtain⟨_,c4,b9,_⟩:=hB k' b' b7;exact h.bi k k' _ _ I b9 he
    ·obtain⟨_,b0,I,_⟩:=hB k b M;exact h.br k b0 id r I (U id r O)
    ·obtain⟨I,Y,q3⟩:=h.ib b hb;exact⟨I,λk bo M=>by obtain⟨_,b0,p1,_⟩:=hB k bo M;exact Y k b0 p1,λid r O=>q3 id r (U id r O)⟩
    ·obtain⟨I,bo,Y⟩:=h.k0 k b M;refine⟨I,G k ?_⟩;have:=AD.1 a6 (k,bo) (Pn Y);simp only[hZ k b M,Bool.not_true,Bool.false_or]at this;exact FJ.1 this
   ·simp at J
  ·simp at J
 ·simp at J
end
open Go.RowKit
section
variable {P:Program} {C:Cfg} {ρ:Env} {w:World} {R:Type} {Z:Base} {tm:List TV} {aB:List (Nat×Box)} {aC:List (Nat×Row)} {tmps:Array Value}
theorem G2 {α:Type}:∀(l:List α) (o:Nat) (D:List α),o+D.length<=l.length->splice l o D=l.take o++D++l.drop (o+D.length)
 |l,o,[],h=>by simp[R_]
 |[],o,_::_,h=>by simp at h
 |x::l,0,v::D,h=>by
  simp only[splice,List.take_zero,az,ay];rw[G2 l 0 D (by simp at h⊢;omega)];simp
 |x::l,o+1,v::D,h=>by
  simp only[splice];rw[G2 l o (v::D) (by simp at h⊢;omega)];simp only[List.take_succ_cons,ay,bh];rw[show o+1+(D.length+1)=(o+(D.length+1))+1 from by omega,List.drop_succ_cons]
theorem Qzv {t:TypeId} {x:Value} {b off:Nat} {cur:Array Value} {ty:TypeId} (G:szT P t=some x.cells.toList.length) (hb:w.heap[b]? =some (.cells cur ty (0,0)))
  (E:off+x.cells.toList.length<=cur.size) (I:∀v∈x.cells.toList,v.oneCell'=true):
  (storeVar t ⟨b,off,none⟩ x).run P w= .ok () (w.setRow b (splice cur.toList off x.cells.toList).toArray):=by
 have:=run_storeCells_at P b off ty x.cells.toList 0 cur w hb (by simpa using E) I;simp only[kt]at this;have D:=Eu G w;simp only[storeVar,Sem.run_bind,D,db];rw[G2 _ _ _ (by simpa using E)];rw[ab (by simp)];exact this
theorem Z4j {α:Type} (xs D:List α) (i wd sub n:Nat) (I:i<n) (M:xs.length=n*wd) (J:sub+D.length<=wd):
  cut (splice xs (i*wd+sub) D) (i*wd) wd=splice (cut xs (i*wd) wd) sub D:=by
 have hle:i*wd+wd<=n*wd:=by
  calc i*wd+wd=(i+1)*wd:=by rw[dh,gy]
   _<=n*wd:=bt _ I
 have E:(cut xs (i*wd) wd).length=wd:=by simp[cut];omega
 rw[G2 _ _ _ (by omega),G2 _ _ _ (by rw[E];exact J)];apply i8;intro j;simp only[cut,fq,dy,ie,dl,an,bq];by_cases G:j<wd
 ·rw[aa G];by_cases L:j<sub
  ·rw[aa,aa,aa,aa,aa,aa L,aa G]
  ·by_cases N:j<sub+D.length
   ·rw[aa,ab,aa,ab];congr 1;omega
   ·rw[ab,ab,aa];congr 1;omega
 ·rw[ab G,ab];rw[ab]
theorem Zm4 {α:Type} (xs I:List α) (i j wd sub n:Nat) (J:i<n) (G:j≠i) (L:xs.length=n*wd) (M:sub+I.length<=wd):
  cut (splice xs (i*wd+sub) I) (j*wd) wd=cut xs (j*wd) wd:=by
 have hle:i*wd+wd<=n*wd:=by
  calc i*wd+wd=(i+1)*wd:=by rw[dh,gy]
   _<=n*wd:=bt _ J
 rw[G2 _ _ _ (by omega)];have D:j*wd+wd<=i*wd\/i*wd+wd<=j*wd:=by
  rcases Nat.lt_or_gt_of_ne G with h|h
  ·left
   calc j*wd+wd=(j+1)*wd:=by rw[dh,gy]
    _<=i*wd:=bt _ h
  ·right
   calc i*wd+wd=(i+1)*wd:=by rw[dh,gy]
    _<=j*wd:=bt _ h
 apply i8;intro k;simp only[cut,fq,dy,ie,dl,an];by_cases E:k<wd
 ·rw[aa E,aa E];rcases D with h|h
  ·rw[aa,aa,aa]
  ·rw[ab];congr 1;omega
 ·rw[ab E,ab E]
theorem Ya9 {o:Oper} {a:Act} {f:FuncId} {xs:List Value} {next:Act->World->Prop} {Q:Exit->Act->World->Prop} (D:Q7 P f) (he:execOp a.eval o=callFunc f xs.toArray)
  (h:Calls P f xs.toArray w λe w'=>∃x,e= .returned x/\next (a.put o.dst x) w'):o.wp P a w next Q:=by
 obtain⟨L,E,G,I⟩:=D;unfold Oper.wp;have:(execOp a.eval o).run P w= .ok (.enter f xs.toArray) w:=by
  rw[he];simp only[callFunc,Sem.run_bind,run_program,db,E];rw[ab (by rw[G];simp),ab (by rw[I];simp)];rfl
 rw[this,Oper.upon_enter];refine h.mono λe w' ⟨x,he,J⟩=> ?_;subst he;exact J
theorem U2 {o:Oper} {a:Act} {f:FuncId} {xs:List Value} {next:Act->World->Prop} {Q:Exit->Act->World->Prop} (he:execOp a.eval o=callFunc f xs.toArray)
  (h:CallsX P f xs.toArray w λe w'=>∃x,e= .returned x/\next (a.put o.dst x) w'):o.wp P a w next Q:=by
 rcases h with⟨E,D⟩|⟨x,w',E,y,D,G⟩
 ·exact Ya9 E he D
 ·simp only[Ending.returned.injEq]at D;subst D;unfold Oper.wp;rw[he,E];exact G
theorem It {o:Oper} {a:Act} {x:Value} {w':World} {next:Act->World->Prop} {Q:Exit->Act->World->Prop} (he:(execOp a.eval o).run P w= .ok (.value x) w') (h:next (a.put o.dst x) w'):o.wp P a w next Q:=by
 unfold Oper.wp;rw[he];exact h
theorem Zdi {o:Oper} {a:Act} {w':World} {next:Act->World->Prop} {Q:Exit->Act->World->Prop} (he:(execOp a.eval o).run P w= .ok .skip w') (h:next (a.put o.dst undef) w'):o.wp P a w next Q:=by
 unfold Oper.wp;rw[he];exact h
theorem CL.one {l:List AC} {xs:List Value} (h:CL (CC ρ w) l xs):∀v∈xs,v.oneCell'=true:=by
 induction l generalizing xs with
 |nil=>cases xs<;>first|(intro v D;simp at D;done)|exact h.elim
 |cons a l E=>
  cases xs with
  |nil=>exact h.elim
  |cons y xs=>
   intro v D;simp only[ao]at D;rcases D with rfl|D
   ·exact h.1.one
   ·exact E h.2 v D
theorem CL.oneP {im:Nat->Prop} {l:List AC} {xs:List Value} (h:CL (CP im w) l xs):∀v∈xs,v.oneCell'=true:=by
 induction l generalizing xs with
 |nil=>cases xs<;>first|(intro v D;simp at D;done)|exact h.elim
 |cons a l E=>
  cases xs with
  |nil=>exact h.elim
  |cons y xs=>
   intro v D;simp only[ao]at D;rcases D with rfl|D
   ·exact h.1.one
   ·exact E h.2 v D
theorem RowC.one {im:Nat->Prop} {ks:List Kd} {l:List (List AC)} {xs:List Value} (h:RowC im w ks l xs) (D:0<ks.length):∀v∈xs,v.oneCell'=true:=by
 intro v I;obtain⟨j,E,rfl⟩:=List.getElem_of_mem I;have G:j/ks.length<l.length:=by rw[fg D];rw[h.1]at E;exact E
 have J:j%ks.length<ks.length:=iq _ D;refine(h.2.2 (j/ks.length) _ (ag G)).oneP _ ?_;have:(cut xs (j/ks.length*ks.length) ks.length)[j%ks.length]? =some xs[j]:=by
  simp only[cut,fq,J,dv,dy];rw[show j/ks.length*ks.length+j%ks.length=j from by rw[ff];exact gw j ks.length];exact ag E
 exact cd this
theorem RowC.append {im:Nat->Prop} {ks:List Kd} {l m:List (List AC)} {xs D:List Value} (h:RowC im w ks l xs) (h':RowC im w ks m D):
  RowC im w ks (l++m) (xs++D):=by
 refine⟨by rw[an,h.1,h'.1,an,dh],λc E=> ?_,λi c I=> ?_⟩
 ·rcases ba.1 E with E|E
  ·exact h.2.1 c E
  ·exact h'.2.1 c E
 ·by_cases G:i<l.length
  ·rw[iz G]at I;have hle:i*ks.length+ks.length<=l.length*ks.length:=by
    calc i*ks.length+ks.length=(i+1)*ks.length:=by rw[dh,gy]
     _<=l.length*ks.length:=bt _ G
   have:cut (xs++D) (i*ks.length) ks.length=cut xs (i*ks.length) ks.length:=by
    have:=h.1;simp only[cut];rw[gz (by omega),kf (by rw[bq];omega)]
   rw[this];exact h.2.2 i c I
  ·rw[kn (by omega)]at I;have:cut (xs++D) (i*ks.length) ks.length=cut D ((i-l.length)*ks.length) ks.length:=by
    have J:=h.1;simp only[cut];rw[List.drop_append,lk (by rw[J];exact bt _ (by omega)),az,J,<-Nat.sub_mul]
   rw[this];exact h'.2.2 (i-l.length) c I
theorem Z3x {t ty e:TypeId} {i:TypeInfo} (L:P.underlying t=some (.slice e)) (M:P.info? e=some i)
  {b off sLen sCap:Nat} {cur:Array Value} {J:TypeId} (hb:w.heap[b]? =some (.cells cur J (0,0))) {a:Addr} {m c:Nat} {news:List Value} (N:news.length=m*i.size) (D:∀j u,news[j]? =some u->w.cell? (a.add j)=some u) (O:∀u∈news,u.oneCell'=true)
  (E:sLen+m<=sCap) (hle:off+sLen*i.size+news.length<=cur.size):
  (Builtin.append_ #[t,t] ty #[.slice (some ⟨b,off,none⟩) sLen sCap, .slice (some a) m c]).run P w= .ok (.slice (some ⟨b,off,none⟩) (sLen+m) sCap) (w.setRow b (splice cur.toList (off+sLen*i.size) news).toArray):=by
 have I:=run_firstCells_some (P:=P) w i.size m a m c news N D;have G:=run_storeCells_at P b (off+sLen*i.size) J news 0 cur w hb (by simpa using hle) O;simp only[kt]at G;rw[G2 _ _ _ (by simpa using hle)];simp[Builtin.append_,run_underlying L,sizeOf,typeInfo,M,Builtin.lenOf,E,I,Addr.add_lit,G]
theorem Q0k {t ty e:TypeId} {i:TypeInfo} {z:Value} {size:Nat} (S:P.underlying t=some (.slice e)) (T:P.info? e=some i) (hz:i.zero=some z)
  (E:i.size=size) (V:z.cells.size=size) (X:0<size)
  {v:Value} {n:Nat} {xs:List Value} (D:E9 w e size v n xs)
  {ad:Option Addr} {m c:Nat} {news:List Value} (I:news.length=m*size) (J:m=0\/∃a,ad=some a/\∀j u,news[j]? =some u->w.cell? (a.add j)=some u) (h1:∀u∈news,u.oneCell'=true)
  (M:n+m<=maxLen) (G:(n+m)*i.bytes<=140737488355328):
  ∃L w',(Builtin.append_ #[t,t] ty #[v, .slice ad m c]).run P w= .ok L w'/\E9 w' e size L (n+m) (xs++news)/\w.grownBy w' v.ownBlock/\(L.ownBlock=v.ownBlock\/L.ownBlock=some w.heap.size):=by
 cases ad with
 |some a=>
  have U:∀j u,news[j]? =some u->w.cell? (a.add j)=some u:=by
   rcases J with rfl|⟨a',Y,hh⟩
   ·have:news=[]:=f7 (by simpa using I);subst this;intro j u h;simp at h
   ·simp at Y;subst Y;exact hh
  rcases D.2 with⟨rfl,rfl⟩|⟨g,o,cap,cur,rfl,e3,e4,e5,e6,e7⟩
  ·have hx:xs=[]:=f7 (by simpa using D.1);subst hx;obtain⟨L,w',q1,q2,N,_,q5⟩:=run_append_own_at (P:=P) w 0 t ty e i z size i.bytes S T hz E rfl V X (.slice none 0 0) 0 [] (World.ownsRow_nil w 0 e size) a m c news I U h1 M G (jz _);exact⟨L,w',q1,Zfg q2,N,q5⟩
  ·by_cases hr:n+m<=cap
   ·subst E;have a3:n*i.size+m*i.size<=cap*i.size:=by rw[<-dh];exact bt _ hr
    have q:=Z3x (P:=P) (ty:=ty) (off:=o) (sLen:=n) (sCap:=cap) (c:=c) S T e3 I U h1 hr (by rw[I];omega);have a0:=Ml cur.toList (o+n*i.size) news;refine⟨_,_,q,⟨by rw[an,D.1,I,dh], .inr ⟨g,o,cap,_,rfl,setRow_heap w g cur _ e _ e3,hr,e5,by simp only[List.size_toArray];rw[a0,dw];exact e6,?_⟩⟩,⟨rfl,rfl,rfl,by simp,λk hk a1=>setRow_other w g k _ (λe=>a1 (by rw[e];rfl))⟩, .inl rfl⟩;have hL:o+n*i.size+news.length<=cur.toList.length:=by rw[I,dw];omega
    show((splice cur.toList (o+n*i.size) news).toArray.toList.drop o).take ((n+m)*i.size)=xs++news;simp only[List.toList_toArray];rw[G2 _ _ _ hL,dk,gz (by simp;omega),List.drop_take,show o+n*i.size-o=n*i.size from by omega,e7,<-dk];rw[kf (by rw[an,D.1,I,dh];omega),ip (by rw[an,D.1,I,dh];omega)]
   ·obtain ⟨L, w', q1, q2, N⟩ := run_append_arg_grows (P := P) w t ty e i z size i.bytes S T hz E rfl V X ⟨g, o, none⟩ n cap xs D.1 (λj u hj => by
     have:=Rt D (g:=g) rfl j u hj;rw[Addr.add_lit];exact this) a m c news I U (by omega) M G
    have O := run_append_grow (P := P) w t ty e i z S T hz ⟨g, o, none⟩ n cap xs (by rw [E]; exact D.1) (λj u hj => by
     have:=Rt D (g:=g) rfl j u hj;rw[Addr.add_lit];exact this) a m c news (by rw[E];exact I) U (by omega) (by simp only[maxLen]at M;omega) (growslice_fits (by omega) G)
    rw[q1]at O;simp only[Result.ok.injEq]at O;refine⟨L,w',q1,Zfg q2,⟨N.os,N.tape,N.output,N.size,λk hk _=>N.block k hk (by simp)⟩, .inr ?_⟩;rw[O.1];rfl
 |none=>
  have hm:m=0:=by
   rcases J with h|⟨_,h,_⟩
   ·exact h
   ·simp at h
  subst hm;have U:news=[]:=f7 (by simpa using I);subst U;refine⟨v,w,?_,by simpa using D,⟨rfl,rfl,rfl,cx _,λ_ _ _=>rfl⟩, .inl rfl⟩;rcases D.2 with⟨rfl,rfl⟩|⟨g,o,cap,cur,rfl,_,a2,_⟩
  ·simp[Builtin.append_,run_underlying S,sizeOf,typeInfo,T,Builtin.lenOf,Builtin.firstCells]
  ·simp[Builtin.append_,run_underlying S,sizeOf,typeInfo,T,Builtin.lenOf,Builtin.firstCells,a2,storeCells]
theorem Zgy (h:RelE Z tm aB aC ρ tmps w) {ks:List Kd} {a:AC} {x:Value} {m:List (List AC)} (D:HI aC ks a=some m) (E:CC ρ w a x):
  ∃G c news,x= .slice G m.length c/\RowC ρ.im w ks m news/\(m.length=0\/∃a,G=some a/\∀j u,news[j]? =some u->w.cell? (a.add j)=some u):=by
 unfold HI at D;split at D
 ·simp at D;subst D;simp only[CC,CP]at E;subst E;exact⟨none,0,[],rfl,⟨by simp,by simp,λi c I=>by simp at I⟩, .inl rfl⟩
 ·rename_i J l;cases hb:Dy ks J<;>rw[hb]at D
  ·simp at D
  ·simp at D;subst D;have:=Kh hb;subst this;simp only[CC,CP]at E;obtain⟨G,cap,rfl,hle,Y,hf⟩:=E;rcases hf with rfl|⟨b,o,rfl,_,L⟩
   ·exact⟨G,cap,[],rfl,⟨by simp,by simp,λi c I=>by simp at I⟩, .inl rfl⟩
   ·obtain⟨ys,S,T⟩:=Z0s l Y L;refine⟨_,cap,ys,rfl,S, .inr ⟨_,rfl,λj u M=> ?_⟩⟩;rw[Addr.add_lit];exact T j u M
 ·rename_i id w' n;split at D
  ·rename_i r hr;cases hb:Dy ks r.ks<;>rw[hb]at D
   ·simp at D
   ·simp at D;subst D;have:=Kh hb;subst this;obtain⟨S,T,_,xs,U,V⟩:=h.ro id r hr;obtain⟨N,a0,a1⟩:=E;subst N;rcases U.2 with⟨e1,e2⟩|⟨X,o,cap,cur,e1,e3,e4,e5,e6,e7⟩
    ·have O:r.l.length=0:=e2;exact⟨none,0,xs,by rw[e1,O],V, .inl e2⟩
    ·refine⟨some ⟨X,o,none⟩,cap,xs,e1,V, .inr ⟨_,rfl,λj u M=> ?_⟩⟩;have:=Rt U (g:=X) (by rw[e1];rfl) j u M;rw[e1]at this;rw[Addr.add_lit];exact this
  ·simp at D
 ·simp at D
theorem RelE.growIm {im':Nat->Prop} {w':World} (D:RelE Z tm aB aC ρ tmps w) (E:Below w.heap.size w w') (G:∀b,ρ.im b->im' b) (J:∀b,im' b->ρ.im b\/(w.heap.size<=b/\b<w'.heap.size)):
  RelE Z tm aB aC {ρ with im:=im'} tmps w':=by
 have hold:∀b,b<w.heap.size->w'.heap[b]? =w.heap[b]? :=λb hb=>E.block b hb;have N:∀(a:AC) (x:Value),CC ρ w a x->CC {ρ with im:=im'} w' a x:=λa x T=>CC.mono (ρ:=ρ) (ρ':={ρ with im:=im'}) G (λb hb=>hold b (D.ib b hb).1) a x (AC.agree_refl rfl rfl rfl a) T;refine⟨D.tl,λi v hi=>TVR.mono N v _ (D.tv i v hi),D.wt,D.wb,?_,D.bi,?_,D.ri,D.br,?_,D.fr.trans (Fr.of_below E D.fs),λk L=>gf (D.fs k L) E.size,λb hb=>G b (D.i0 b hb),λb hb=>(J b hb).elim (D.i1 b) λq=> .inr λhf=>absurd (D.fs b hf) (by omega),λk b L=>D.k0 k b L⟩
 ·intro k b L;obtain⟨arr,M,O,S⟩:=D.bx k b L;exact⟨arr,by rw[hold _ (P_ M)];exact M,O.mono λa _ x T=>N a x T,S⟩
 ·intro id X I;obtain⟨M,O,q0,ys,S,q4⟩:=D.ro id X I;exact⟨M,O,q0,ys,NN S λg hg=>hold g (D.rwlt I hg).2,q4.mono G (λb hb=>hold b (D.ib b hb).1)⟩
 ·intro b hb;rcases J b hb with U|⟨a0,V⟩
  ·obtain⟨M,O,S⟩:=D.ib b U;exact⟨gf M E.size,O,S⟩
  ·exact⟨V,λk bo L e=>by have:=D.bxlt L;have Y:ρ.bx k=b:=e;omega,λid X I e=>by have Y:(ρ.rv id).ownBlock=some b:=e;have:=(D.rwlt I Y).2;omega⟩
end
open Go.RowKit
section
variable {P:Program} {C:Cfg} {ρ:Env} {w:World} {R:Type} {Z:Base} {tm:List TV} {aB:List (Nat×Box)} {aC:List (Nat×Row)} {tmps:Array Value}
def AC.nmP (Kp:Nat->Prop):AC->Prop
 | .ptr k _=>Kp k
 |_=>True
def AC.nm (Kp D:Nat->Prop):AC->Prop
 | .ptr k _=>Kp k
 | .bsl k _=>Kp k
 | .own id _ _=>D id
 | .rptr id _ _=>D id
 | .clo _ fs cs=>(∀a∈fs,AC.nmP Kp a)/\∀a∈cs,AC.nmP Kp a
 |_=>True
def TV.nm (Kp D:Nat->Prop):TV->Prop
 | .v _ cs=>∀a∈cs,AC.nm Kp D a
 | .tup ps=>∀p∈ps,∀a∈p.2,AC.nm Kp D a
 | .vD=>True
theorem AC.nm_of_inK {keys ids:List Nat} {a:AC} (h:AC.inK keys ids a=true):a.nm (· ∈keys) (· ∈ids):=by
 have D:∀l:List AC,Al (AC.inK.inP keys) l=true->∀a∈l,AC.nmP (· ∈keys) a:=by
  intro l E a G;have:=AD.1 E a G;cases a<;>first|trivial|exact FJ.1 this
 cases a with
 |ptr k o=>exact FJ.1 h
 |bsl k o=>exact FJ.1 h
 |own id w n=>exact FJ.1 h
 |rptr id i s=>exact FJ.1 h
 |clo f fs cs=>
  simp only[AC.inK,ak]at h;exact⟨D fs h.1,D cs h.2⟩
 |_=>trivial
theorem TV.nm_of_inK {keys ids:List Nat} {v:TV} (h:TV.inK keys ids v=true):v.nm (· ∈keys) (· ∈ids):=by
 cases v with
 |vD=>trivial
 |v g cs=>exact λa D=>AC.nm_of_inK (AD.1 h a D)
 |tup ps=>exact λp E a D=>AC.nm_of_inK (AD.1 (AD.1 h p E) a D)
theorem AC.nm_of_wf {a:AC} (h:AC.wf aB aC a):a.nm (λk=>∃b,Ac aB k=some b) (λi=>∃r,Ac aC i=some r):=by
 have E:∀l:List AC,(∀a∈l,AC.wfP aB a)->∀a∈l,AC.nmP (λk=>∃b,Ac aB k=some b) a:=by
  intro l G a I;have:=G a I;cases a<;>first|trivial|exact this
 cases a with
 |ptr k o=>exact h
 |bsl k o=>exact h
 |own id w n=>obtain⟨r,D,_⟩:=h;exact⟨r,D⟩
 |rptr id i s=>obtain⟨r,D,_⟩:=h;exact⟨r,D⟩
 |clo f fs cs=>exact⟨E fs h.1,E cs h.2⟩
 |_=>trivial
theorem TV.nm_of_wf {v:TV} (h:TV.wf aB aC v):v.nm (λk=>∃b,Ac aB k=some b) (λi=>∃r,Ac aC i=some r):=by
 cases v with
 |vD=>trivial
 |v g cs=>exact λa D=>AC.nm_of_wf (h a D)
 |tup ps=>exact λp E a D=>AC.nm_of_wf (h p E a D)
theorem Qpg {E G:Env} {Kp:Nat->Prop} {J:Nat->Nat} (hb:∀k,Kp k->G.bx (J k)=E.bx k) (L:G.im=E.im):∀(l:List AC) (xs:List Value),(∀a∈l,AC.nmP Kp a)->CLc E w l xs->CLc G w (AC.ren.renP J l) xs
 |[],[],_,_=>trivial
 |a::l,x::xs,M,h=>by
  have N:=Qpg hb L l xs (λb hb=>M b (by simp[hb])) h.2;have D:=h.1;have I:=M a (by simp);cases a<;>simp only[AC.ren.renP]<;>refine⟨?_,N⟩<;>first
   |(simp only[CCc]at D⊢;rw[hb _ I];exact D)
   |(simp only[CCc]at D⊢;rw[L];exact D)
 |[],_::_,_,h=>h.elim
 |_::_,[],_,h=>h.elim
theorem Qqx {G I:Env} {Kp L:Nat->Prop} {M ri:Nat->Nat} (hb:∀k,Kp k->I.bx (M k)=G.bx k) (J:∀i,L i->I.rv (ri i)=G.rv i/\I.wd (ri i)=G.wd i) (D:I.im=G.im)
  {a:AC} {x:Value} (E:a.nm Kp L) (h:CC G w a x):CC I w (a.ren M ri) x:=by
 cases a with
 |ptr k o=>simp only[AC.ren,CC]at*;rw[hb k E];exact h
 |bsl k o=>simp only[AC.ren,CC]at*;rw[hb k E];exact h
 |own id w n=>simp only[AC.ren,CC]at*;rw[(J id E).1,(J id E).2];exact h
 |rptr id i s=>simp only[AC.ren,CC]at*;rw[(J id E).1,(J id E).2];exact h
 |vptr cs s=>simp only[AC.ren,CC]at*;rw[D];exact h
 |clo f fs cs=>
  obtain⟨xs,N,O,S,T⟩:=h;exact⟨xs,N,O,Qpg hb D fs _ E.1 S,Qpg hb D cs _ E.2 T⟩
 |vD=>exact h
 |int=>simp only[AC.ren,CC]at*;rw[D];exact h
 |bool=>simp only[AC.ren,CC]at*;rw[D];exact h
 |raw=>simp only[AC.ren,CC]at*;rw[D];exact h
 |nilSl=>simp only[AC.ren,CC]at*;rw[D];exact h
 |vC=>simp only[AC.ren,CC]at*;rw[D];exact h
theorem Q9 {D E:Env} {Kp Ip:Nat->Prop} {G ri:Nat->Nat} (hb:∀k,Kp k->E.bx (G k)=D.bx k) (I:∀i,Ip i->E.rv (ri i)=D.rv i/\E.wd (ri i)=D.wd i) (J:E.im=D.im):
  ∀{l:List AC} {xs:List Value},(∀a∈l,a.nm Kp Ip)->CL (CC D w) l xs->CL (CC E w) (l.map (AC.ren G ri)) xs
 |[],[],_,h=>h
 |a::l,y::xs,L,h=>⟨Qqx hb I J (L a (by simp)) h.1,Q9 hb I J (λb hb=>L b (by simp[hb])) h.2⟩
 |[],_::_,_,h=>h.elim
 |_::_,[],_,h=>h.elim
theorem Zc9 {E G:Env} {Kp Ip:Nat->Prop} {T ri:Nat->Nat} (hb:∀k,Kp k->G.bx (T k)=E.bx k) (J:∀i,Ip i->G.rv (ri i)=E.rv i/\G.wd (ri i)=E.wd i) (L:G.im=E.im)
  {v:TV} {x:Value} (M:v.nm Kp Ip) (h:TVR E w v x):TVR G w (v.ren T ri) x:=by
 cases v with
 |vD=>trivial
 |v b cs=>
  cases b
  ·obtain⟨a,rfl,V⟩:=h;exact⟨_,rfl,Qqx hb J L (M a (by simp)) V⟩
  ·obtain⟨N,rfl,D⟩:=h;exact⟨N,rfl,Q9 hb J L M D⟩
 |tup ps=>
  obtain⟨N,rfl,D⟩:=h;refine⟨N,rfl,?_⟩;generalize N.toList=l at D;induction ps generalizing l with
  |nil=>cases l<;>first|exact D|exact D.elim
  |cons p ps X=>
   cases l with
   |nil=>exact D.elim
   |cons y l=>
    obtain⟨b,cs⟩:=p;refine⟨?_,X (λq Y=>M q (by simp[Y])) l D.2⟩;have U:=D.1;have I:=M (b,cs) (by simp);cases b
    ·obtain⟨a,O,S⟩:=U;subst O;exact⟨_,rfl,Qqx hb J L (I a (by simp)) S⟩
    ·obtain⟨zs,O,S⟩:=U;exact⟨zs,O,Q9 hb J L I S⟩
theorem Tx {b1 b2:List (Nat×Box)} {O S:List (Nat×Row)} {Kp Ip:Nat->Prop} {G ri:Nat->Nat} (hb:∀k,Kp k->(∃b,Ac b1 k=some b)->∃b,Ac b2 (G k)=some b)
  (T:∀i r,Ip i->Ac O i=some r->∃r',Ac S (ri i)=some r'/\r'.n=r.n/\r'.w=r.w) {a:AC} (D:a.nm Kp Ip) (h:AC.wf b1 O a):AC.wf b2 S (a.ren G ri):=by
 have U:∀l:List AC,(∀a∈l,AC.nmP Kp a)->(∀a∈l,AC.wfP b1 a)->∀a∈AC.ren.renP G l,AC.wfP b2 a:=by
  intro l;induction l with
  |nil=>intro _ _ a E;simp[AC.ren.renP]at E
  |cons c l Y=>
   intro D V a E;have I:=Y (λb hb=>D b (by simp[hb])) (λb hb=>V b (by simp[hb]));have h1:=D c (by simp);have h2:=V c (by simp);cases c<;>simp only[AC.ren.renP,ao]at E<;>rcases E with rfl|E<;>first
    |exact I a E
    |exact hb _ h1 h2
    |trivial
 cases a with
 |ptr k o=>exact hb k D h
 |bsl k o=>exact hb k D h
 |own id w n=>obtain⟨r,J,L,q3⟩:=h;obtain⟨r',M,N,X⟩:=T id r D J;exact⟨r',M,by rw[N,L],by rw[X,q3]⟩
 |rptr id i s=>obtain⟨r,J,L⟩:=h;obtain⟨r',M,N,X⟩:=T id r D J;exact⟨r',M,by rw[N];exact L⟩
 |vptr=>exact h
 |clo f fs cs=>exact⟨U fs D.1 h.1,U cs D.2 h.2⟩
 |_=>trivial
theorem Q18 {b1 b2:List (Nat×Box)} {G I:List (Nat×Row)} {Kp Ip:Nat->Prop} {J ri:Nat->Nat} (hb:∀k,Kp k->(∃b,Ac b1 k=some b)->∃b,Ac b2 (J k)=some b)
  (L:∀i r,Ip i->Ac G i=some r->∃r',Ac I (ri i)=some r'/\r'.n=r.n/\r'.w=r.w) {v:TV} (M:v.nm Kp Ip) (h:TV.wf b1 G v):TV.wf b2 I (v.ren J ri):=by
 cases v with
 |vD=>trivial
 |v g cs=>
  intro a D;simp only[bc]at D;obtain⟨c,E,rfl⟩:=D;exact Tx hb L (M c E) (h c E)
 |tup ps=>
  intro p N a D;simp only[bc]at N;obtain⟨q,O,rfl⟩:=N;simp only[bc]at D;obtain⟨c,E,rfl⟩:=D;exact Tx hb L (M q O c E) (h q O c E)
theorem Js:∀{l:List Nat},B0 l=true↔l.Nodup
 |[]=>by simp[B0]
 |k::l=>by
  simp only[B0,kh,<-Js (l:=l)];cases h:AW l k
  ·have: ¬k∈l:=λD=>by rw[FJ.2 D]at h;cases h
   simp[this]
  ·have:=FJ.1 h;simp[this]
theorem EF {l:List Nat} {n:Nat} (h:n∈l):pos l n<l.length/\nth 0 l (pos l n)=n:=by
 induction l with
 |nil=>simp at h
 |cons m l E=>
  simp only[pos];cases hb:Nat.beq m n
  ·have D:=Hw hb;have:n∈l:=by
    rcases ao.1 h with e|e
    ·exact absurd e.symm D
    ·exact e
   obtain⟨I,G⟩:=E this;exact⟨by simp only[aq,bh];omega,by simp only[aq];exact G⟩
  ·exact⟨by simp,by simpa [nth]using af hb⟩
theorem Zml {l:List Nat} {m n:Nat} (D:m∈l) (E:n∈l) (h:pos l m=pos l n):m=n:=by
 rw[<-(EF D).2,<-(EF E).2,h]
theorem I_ {l:List Nat} (G:l.Nodup) {i:Nat} (I:i<l.length):pos l (nth 0 l i)=i:=by
 induction l generalizing i with
 |nil=>simp at I
 |cons m l J=>
  cases i with
  |zero=>simp[nth,pos]
  |succ i=>
   have D:i<l.length:=by simpa using I
   have E:nth 0 l i∈l:=by
    rw[B5,List.getD,ag D];exact bf D
   rw[kh]at G;simp only[nth,pos];rw[KL (by rintro rfl;exact G.1 E)];simp only[aq];rw[J G.2 D]
theorem F_ {l:List Nat} {i:Nat} (D:i<l.length):nth 0 l i∈l:=by
 rw[B5,List.getD,ag D];exact bf D
theorem Mj {I ri:Nat->Nat}:∀{keys:List Nat} {b:Nat} {D:List (Nat×Box)},Ee aB I ri b keys=some D->
  (∀i,i<keys.length->∃x,Ac aB (nth 0 keys i)=some x/\Ac D (b+i)=some ⟨x.ty,x.cells.map (AC.ren I ri)⟩)/\∀c x,Ac D c=some x->∃i,i<keys.length/\c=b+i
 |[],b,D,h=>by simp[Ee]at h;subst h;exact⟨λi E=>by simp at E,λc x h=>by simp[Ac]at h⟩
 |k::keys,b,D,h=>by
  simp only[Ee]at h;split at h
  ·rename_i x M;split at h
   ·rename_i l N;simp at h;subst h;obtain⟨O,S⟩:=Mj N;refine⟨λi E=> ?_,λc y G=> ?_⟩
    ·cases i with
     |zero=>exact⟨x,M,by simp[Ac]⟩
     |succ i=>
      obtain⟨y,J,L⟩:=O i (by simpa using E);refine⟨y,J,?_⟩;rw[show b+(i+1)=b+1+i from by omega];simp only[Ac];rw[KL (by omega)];exact L
    ·simp only[Ac]at G;cases hb:Nat.beq b c<;>rw[hb]at G
     ·obtain⟨i,J,L⟩:=S c y G;exact⟨i+1,by simp;omega,by omega⟩
     ·exact⟨0,by simp,(af hb).symm⟩
   ·simp at h
  ·simp at h
theorem Qro:∀{keys:List Nat} {b:Nat} {D:List (Nat×Row)},G0 aC b keys=some D->
  (∀i,i<keys.length->∃x,Ac aC (nth 0 keys i)=some x/\Ac D (b+i)=some x)/\∀c x,Ac D c=some x->∃i,i<keys.length/\c=b+i
 |[],b,D,h=>by simp[G0]at h;subst h;exact⟨λi E=>by simp at E,λc x h=>by simp[Ac]at h⟩
 |k::keys,b,D,h=>by
  simp only[G0]at h;split at h
  ·rename_i x L;split at h
   ·rename_i l M;simp at h;subst h;obtain⟨N,O⟩:=Qro M;refine⟨λi E=> ?_,λc y G=> ?_⟩
    ·cases i with
     |zero=>exact⟨x,L,by simp[Ac]⟩
     |succ i=>
      obtain⟨y,I,J⟩:=N i (by simpa using E);refine⟨y,I,?_⟩;rw[show b+(i+1)=b+1+i from by omega];simp only[Ac];rw[KL (by omega)];exact J
    ·simp only[Ac]at G;cases hb:Nat.beq b c<;>rw[hb]at G
     ·obtain⟨i,I,J⟩:=O c y G;exact⟨i+1,by simp;omega,by omega⟩
     ·exact⟨0,by simp,(af hb).symm⟩
   ·simp at h
  ·simp at h
def IA {α β:Type} (D:Nat->Nat) (g:α->β):List (Nat×α)->List (Nat×β)->List (Nat×β)
 |[],l=>l
 |(k,b)::m,l=>IA D g m (ins l (D k) (g b))
theorem Yu (D ri:Nat->Nat):∀(m:List (Nat×Box)) (l:List (Nat×Box)),Nz D ri m l=IA D (λb=>⟨b.ty,b.cells.map (AC.ren D ri)⟩) m l
 |[],_=>rfl
 |(_,_)::m,_=>by simp only[Nz,IA];exact Yu D ri m _
theorem Qu2 (ri:Nat->Nat):∀(m:List (Nat×Row)) (l:List (Nat×Row)),Ku ri m l=IA ri (λb=>b) m l
 |[],_=>rfl
 |(_,_)::m,_=>by simp only[Ku,IA];exact Qu2 ri m _
theorem T4 {α β:Type} {rk:Nat->Nat} {g:α->β}:∀{m:List (Nat×α)} {l:List (Nat×β)},(m.map (·.1)).Nodup->(∀k∈m.map (·.1),∀j∈m.map (·.1),rk k=rk j->k=j)->(∀k∈m.map (·.1),Ac l (rk k)=none)->
  (∀k b,Ac m k=some b->Ac (IA rk g m l) (rk k)=some (g b))/\(∀n,(∀k∈m.map (·.1),n≠rk k)->Ac (IA rk g m l) n=Ac l n)
 |[],l,_,_,_=>⟨λk b h=>by simp[Ac]at h,λn _=>rfl⟩
 |(j,c)::m,l,I,J,L=>by
  simp only[bm,kh]at I;have E:∀k∈m.map (·.1),rk k≠rk j:=λk D e=>I.1 (by have:=J k (by simp at D⊢;exact .inr D) j (by simp) e;rw[<-this];exact D);obtain ⟨O, M⟩ := T4 (rk := rk) (g := g) (m := m) (l := ins l (rk j) (g c)) I.2 (λk D q N => J k (by simp at D ⊢; exact .inr D) q (by simp at N ⊢; exact .inr N)) (λk D => by
   rw[Eb _ _ _ _ (E k D)];exact L k (by simp at D⊢;exact .inr D))
  have S:Ac (ins l (rk j) (g c)) (rk j)=some (g c):=Fy _ _ _ (L j (by simp));refine⟨λk b D=> ?_,λn G=> ?_⟩
  ·simp only[Ac]at D;cases hb:Nat.beq j k<;>rw[hb]at D
   ·exact O k b D
   ·have:=af hb;subst this;simp at D;subst D;simp only[IA];rw[M (rk j) (λk D e=>E k D e.symm)];exact S
  ·simp only[IA];rw[M n (λk D=>G k (by simp at D⊢;exact .inr D))];exact Eb _ _ _ _ (G j (by simp))
theorem Lu {α:Type}:∀(ks:List Nat) (l:List (Nat×α)) (n:Nat),Ac (Ej ks l) n=if n∈ks then none else Ac l n
 |[],l,n=>by simp[Ej]
 |k::ks,l,n=>by
  simp only[Ej];rw[Lu ks];by_cases h:n=k
  ·subst h;simp only[UT,ao,true_or,dv];split<;>rfl
  ·rw[Mr _ _ _ h];simp[h]
theorem Nj {α:Type}:∀{l:List (Nat×α)} {k:Nat},k∈l.map (·.1)↔∃b,Ac l k=some b
 |[],k=>by simp[Ac]
 |(j,c)::l,k=>by
  simp only[bm,ao,Ac];cases hb:Nat.beq j k
  ·simp only[aq,<-Nj (l:=l)];constructor
   ·rintro(e|e)
    ·exact absurd e.symm (Hw hb)
    ·exact e
   ·exact .inr
  ·simp[af hb]
theorem JK {α:Type} {names:List Nat}:∀{l:List (Nat×α)} {k:Nat},k∈By names l↔k∈l.map (·.1)/\ ¬(base<=k/\k-base<names.length)
 |[],k=>by simp[By]
 |(j,c)::l,k=>by
  simp only[By,bm,ao];cases hb:(Nat.ble base j&&Nat.blt (j-base) names.length)
  ·have G: ¬(base<=j/\j-base<names.length):=by
    rintro⟨E,D⟩;have e1:=gx E;have e2:Nat.blt (j-base) names.length=true:=gx D;rw[e1,e2]at hb;cases hb
   simp only[aq,ao,JK (l:=l)];constructor
   ·rintro(rfl|⟨E,D⟩)
    ·exact⟨.inl rfl,G⟩
    ·exact⟨.inr E,D⟩
   ·rintro⟨rfl|E,D⟩
    ·exact .inl rfl
    ·exact .inr ⟨E,D⟩
  ·simp only[ak]at hb;have G:base<=j/\j-base<names.length:=⟨bj hb.1,bj hb.2⟩;simp only[ai,JK (l:=l)];constructor
   ·rintro⟨E,D⟩;exact⟨.inr E,D⟩
   ·rintro⟨rfl|E,D⟩
    ·exact absurd G D
    ·exact⟨E,D⟩
theorem Ny {names fresh:List Nat} {d k:Nat} (h:base<=k/\k-base<names.length):BW names fresh d k=nth 0 names (k-base):=by
 unfold BW;rw[gx h.1,show Nat.blt (k-base) names.length=true from gx h.2];rfl
theorem Za5 {names fresh:List Nat} {d k:Nat} (h: ¬(base<=k/\k-base<names.length)):BW names fresh d k=100000+100*d+pos fresh k:=by
 unfold BW;have:(Nat.ble base k&&Nat.blt (k-base) names.length)=false:=by
  apply Bool.eq_false_iff.2;intro hb;simp only[ak]at hb;exact h ⟨bj hb.1,bj hb.2⟩
 rw[this];rfl
theorem Q8g {α β:Type} {names:List Nat} {d:Nat} {I:List (Nat×α)} {l:List (Nat×β)} (J:names.Nodup) (L:∀k∈names,∃b,Ac l k=some b)
  (hf:∀k∈By names I,Ac l (BW names (By names I) d k)=none):
  ∀k∈I.map (·.1),∀j∈I.map (·.1),BW names (By names I) d k=BW names (By names I) d j->k=j:=by
 intro k M j N he;by_cases D:base<=k/\k-base<names.length<;>by_cases E:base<=j/\j-base<names.length
 ·rw[Ny D,Ny E]at he;have:=ik (pos names) he;rw[I_ J D.2,I_ J E.2]at this;omega
 ·have G:=hf j (JK.2 ⟨N,E⟩);rw[<-he,Ny D]at G;obtain⟨b,hb⟩:=L _ (F_ D.2);rw[hb]at G;cases G
 ·have G:=hf k (JK.2 ⟨M,D⟩);rw[he,Ny E]at G;obtain⟨b,hb⟩:=L _ (F_ E.2);rw[hb]at G;cases G
 ·rw[Za5 D,Za5 E]at he;exact Zml (JK.2 ⟨M,D⟩) (JK.2 ⟨N,E⟩) (by omega)
noncomputable def L3 {α:Type} (m:List (Nat×α)) (D:Nat->Nat) (n:Nat):Option Nat:= @dite _ (∃k∈m.map (·.1),D k=n) (Classical.propDecidable _) (λh=>some (Classical.choose h)) (λ_=>none)
theorem Q25 {α:Type} {m:List (Nat×α)} {D:Nat->Nat} (E:∀k∈m.map (·.1),∀j∈m.map (·.1),D k=D j->k=j) {k:Nat} (G:k∈m.map (·.1)):L3 m D (D k)=some k:=by
 unfold L3;have h:∃j∈m.map (·.1),D j=D k:=⟨k,G,rfl⟩;rw[kz h];have:=fj h;rw[E _ this.1 k G this.2]
theorem Q1x {α:Type} {m:List (Nat×α)} {D:Nat->Nat} {n:Nat} (h:∀k∈m.map (·.1),n≠D k):L3 m D n=none:=by
 unfold L3;rw[dif_neg];rintro⟨k,E,he⟩;exact h k E he.symm
theorem Zek:∀(ids:List Nat) {v:TV} {x:Value},TVR ρ w v x->TVR ρ w (Ik ids v) x
 |[],_,_,h=>h
 |_::l,_,_,h=>Zek l (TV.kill_TVR h)
theorem Zc0:∀(ids:List Nat) {v:TV},TV.wf aB aC v->TV.wf aB aC (Ik ids v)
 |[],_,h=>h
 |_::l,_,h=>Zc0 l (TV.kill_wf h)
theorem Qoc {id j:Nat} {a:AC} (h:AC.free j a):AC.free j (a.kill id):=by
 cases a with
 |own i w n=>simp only[AC.kill];cases Nat.beq i id<;>first|exact h|trivial
 |rptr i n s=>simp only[AC.kill];cases Nat.beq i id<;>first|exact h|trivial
 |_=>trivial
theorem Yb4 {id j:Nat} {v:TV} (h:TV.free j v):TV.free j (v.kill id):=by
 cases v with
 |v g cs=>
  intro a D;simp only[bc]at D;obtain⟨b,hb,rfl⟩:=D;exact Qoc (h b hb)
 |tup ps=>
  intro p E a D;simp only[bc]at E;obtain⟨q,G,rfl⟩:=E;simp only[bc]at D;obtain⟨b,hb,rfl⟩:=D;exact Qoc (h q G b hb)
 |vD=>trivial
theorem Qyv {j:Nat}:∀(ids:List Nat) {v:TV},TV.free j v->TV.free j (Ik ids v)
 |[],_,h=>h
 |_::l,_,h=>Qyv l (Yb4 h)
theorem Zat:∀(ids:List Nat) (v:TV),∀id∈ids,TV.free id (Ik ids v)
 |[],_,id,h=>by simp at h
 |i::l,v,id,h=>by
  simp only[ao]at h;by_cases e:id∈l
  ·exact Zat l (v.kill i) id e
  ·have:id=i:=h.resolve_right e;subst this;exact Qyv l (TV.kill_free id v)
theorem Q69:∀(ids:List Nat) (b:Box),(Ea ids b).ty=b.ty
 |[],_=>rfl
 |_::l,b=>by rw[Ea,Q69 l];rfl
theorem Zax:∀(ids:List Nat) {b:Box} {xs:List Value},CL (CC ρ w) b.cells xs->CL (CC ρ w) (Ea ids b).cells xs
 |[],_,_,h=>h
 |i::l,b,_,h=>Zax l (b:=b.kill i) h.kill
theorem Zad:∀(ids:List Nat) {b:Box},(∀a∈b.cells,AC.wf aB aC a)->∀a∈(Ea ids b).cells,AC.wf aB aC a
 |[],_,h=>h
 | i :: l, b, h => Zad l (b := b.kill i) (λa D => by
  simp only[Box.kill,bc]at D;obtain⟨c,E,rfl⟩:=D;exact AC.kill_wf (h c E))
theorem Q1f {j:Nat}:∀(ids:List Nat) {b:Box},(∀a∈b.cells,AC.free j a)->∀a∈(Ea ids b).cells,AC.free j a
 |[],_,h=>h
 | i :: l, b, h => Q1f l (b := b.kill i) (λa D => by
  simp only[Box.kill,bc]at D;obtain⟨c,E,rfl⟩:=D;exact Qoc (h c E))
theorem Q37:∀(ids:List Nat) (b:Box),∀id∈ids,∀a∈(Ea ids b).cells,AC.free id a
 |[],_,id,h=>by simp at h
 |i::l,b,id,h=>by
  simp only[ao]at h;by_cases e:id∈l
  ·exact Q37 l (b.kill i) id e
  ·have:id=i:=h.resolve_right e;subst this;exact Q1f l (b := b.kill id) (λa D => by
    simp only[Box.kill,bc]at D;obtain⟨c,E,rfl⟩:=D;exact AC.kill_free id c)
end
open Go.RowKit
section
variable {P:Program} {C:Cfg} {ρ:Env} {w:World} {R:Type} {Z:Base} {tm:List TV} {aB:List (Nat×Box)} {aC:List (Nat×Row)} {tmps:Array Value}
theorem Q4h {k:Nat} {b:Box} (h:Ac aB k=some b):Fb aB k=b.cells:=by unfold Fb;rw[h]
def JU (ρ:Env) (keys ids:List Nat):Env:=⟨λc=>ρ.bx (nth 0 keys (c-base)),λc=>ρ.rv (nth 0 ids (c-base)),λc=>ρ.wd (nth 0 ids (c-base)),ρ.im⟩
def Lj (w:World) (ρ:Env) (keys ids:List Nat):Nat->Prop:=λb=>b<w.heap.size/\(∀k∈keys,ρ.bx k≠b)/\∀id∈ids,(ρ.rv id).ownBlock≠some b
theorem Qs1 (N:RelE Z tm aB aC ρ tmps w) {args:List TV} {xs:List Value} (h1:xs.length=args.length)
  (h2:∀(i:Nat) (a:TV) (x:Value),args[i]? =some a->xs[i]? =some x->TVR ρ w a x) (a6:∀v∈args,TV.wf aB aC v) {keys ids:List Nat} (a0:keys.Nodup) (T:ids.Nodup)
  (a1:∀v∈args,TV.inK keys ids v=true) (U:∀k∈keys,Al (AC.inK keys ids) (Fb aB k)=true) {mb:List (Nat×Box)} {mr:List (Nat×Row)}
  (a7:Ee aB (λk=>base+pos keys k) (λi=>base+pos ids i) base keys=some mb) (a8:G0 aC base ids=some mr):
  RelE (FM (Lj w ρ keys ids) w (JU ρ keys ids) mb) (args.map (TV.ren (λk=>base+pos keys k) (λi=>base+pos ids i))) mb mr (JU ρ keys ids) xs.toArray w:=by
 obtain⟨b1,b2⟩:=Mj a7;obtain⟨r1,r2⟩:=Qro a8;have eb:∀k,k∈keys->(JU ρ keys ids).bx (base+pos keys k)=ρ.bx k:=λk I=>by
  show ρ.bx (nth 0 keys (base+pos keys k-base))=_;rw[dz,(EF I).2]
 have er:∀i,i∈ids->(JU ρ keys ids).rv (base+pos ids i)=ρ.rv i/\(JU ρ keys ids).wd (base+pos ids i)=ρ.wd i:=λi D=>by
  constructor
  ·show ρ.rv (nth 0 ids (base+pos ids i-base))=_;rw[dz,(EF D).2]
  ·show ρ.wd (nth 0 ids (base+pos ids i-base))=_;rw[dz,(EF D).2]
 have wb:∀k,k∈keys->(∃b,Ac aB k=some b)->∃b,Ac mb (base+pos keys k)=some b:=λk I _=>by
  obtain⟨x,_,q⟩:=b1 (pos keys k) (EF I).1;exact⟨_,q⟩
 have wr:∀i r,i∈ids->Ac aC i=some r->∃r',Ac mr (base+pos ids i)=some r'/\r'.n=r.n/\r'.w=r.w:=λi r D O=>by
  obtain⟨x,E,q⟩:=r1 (pos ids i) (EF D).1;rw[(EF D).2,O]at E;simp at E;subst E;exact⟨_,q,rfl,rfl⟩
 have X:∀c x,Ac mb c=some x->∃i J,i<keys.length/\c=base+i/\Ac aB (nth 0 keys i)=some J/\x=⟨J.ty,J.cells.map (AC.ren (λk=>base+pos keys k) (λi=>base+pos ids i))⟩:=by
  intro c x M;obtain⟨i,D,rfl⟩:=b2 c x M;obtain⟨J,E,L⟩:=b1 i D;rw[M]at L;simp at L;exact⟨i,J,D,rfl,E,L⟩
 have lr:∀c x,Ac mr c=some x->∃i,i<ids.length/\c=base+i/\Ac aC (nth 0 ids i)=some x:=by
  intro c x M;obtain⟨i,D,rfl⟩:=r2 c x M;obtain⟨J,E,L⟩:=r1 i D;rw[M]at L;simp at L;subst L;exact⟨i,D,rfl,E⟩
 have Y:∀i,(JU ρ keys ids).bx (base+i)=ρ.bx (nth 0 keys i):=λi=>by
  show ρ.bx (nth 0 keys (base+i-base))=_;rw[dz]
 have xr:∀i,(JU ρ keys ids).rv (base+i)=ρ.rv (nth 0 ids i):=λi=>by
  show ρ.rv (nth 0 ids (base+i-base))=_;rw[dz]
 have xw:∀i,(JU ρ keys ids).wd (base+i)=ρ.wd (nth 0 ids i):=λi=>by
  show ρ.wd (nth 0 ids (base+i-base))=_;rw[dz]
 have a2:∀i j,i<keys.length->j<keys.length->nth 0 keys i=nth 0 keys j->i=j:=λi j D V e=>by rw[<-I_ a0 D,<-I_ a0 V,e]
 have a3:∀i j,i<ids.length->j<ids.length->nth 0 ids i=nth 0 ids j->i=j:=λi j D V e=>by rw[<-I_ T D,<-I_ T V,e]
 refine⟨by simp[h1],λi v D=> ?_,λv hv=> ?_,λk b I a S=> ?_,λk b I=> ?_,λk k' b b' I a9 he=> ?_,λid r O=> ?_,λid id' r r' g O b0 hg a4=> ?_,λk b id r I O=> ?_,λb hb=>⟨(N.ib b hb).1,λk bo I=> ?_,λid r O=> ?_⟩,Fr.refl _ _,λk h=>h.1,λb h=>h,λb h=> .inl h,λk b I=> ?_⟩
 ·simp only[d7,bv]at D;obtain⟨a,S,rfl⟩:=D;have a5:i<xs.length:=by rw[h1];exact(fx.1 S).1
  have e:xs.toArray.getD i undef=xs[i]:=by simp[Array.getD,a5]
  rw[e];exact Zc9 (Kp:=(· ∈keys)) (Ip:=(· ∈ids)) eb er rfl (TV.nm_of_inK (a1 a (cd S))) (h2 i a _ S (ag a5))
 ·simp only[bc]at hv;obtain⟨a,S,rfl⟩:=hv;exact Q18 (Kp:=(· ∈keys)) (Ip:=(· ∈ids)) wb wr (TV.nm_of_inK (a1 a S)) (a6 a S)
 ·obtain⟨i,J,D,rfl,E,rfl⟩:=X k b I;simp only[bc]at S;obtain⟨c,M,rfl⟩:=S;have G:=U _ (F_ D);rw[Q4h E]at G;exact Tx (Kp:=(· ∈keys)) (Ip:=(· ∈ids)) wb wr (AC.nm_of_inK (AD.1 G c M)) (N.wb _ J E c M)
 ·obtain⟨i,J,D,rfl,E,rfl⟩:=X k b I;obtain⟨arr,p1,p2,p3⟩:=N.bx _ J E;have G:=U _ (F_ D);rw[Q4h E]at G;refine⟨arr,by rw[Y];exact p1,Q9 (Kp:=(· ∈keys)) (Ip:=(· ∈ids)) eb er rfl (λc M=>AC.nm_of_inK (AD.1 G c M)) p2,?_⟩;rw[Y];exact λhf=>hf.2.1 _ (F_ D) rfl
 ·obtain⟨i,J,D,rfl,E,_⟩:=X k b I;obtain⟨j,y0,V,rfl,L,_⟩:=X k' b' a9;rw[Y,Y]at he;rw[a2 i j D V (N.bi _ _ _ _ E L he)]
 ·obtain⟨i,D,rfl,E⟩:=lr id r O;obtain⟨p1,p2,p0,ys,p3,p4⟩:=N.ro _ r E;exact⟨p1,by rw[xw];exact p2,λg hg hf=>hf.2.2 _ (F_ D) (by rw[xr]at hg;exact hg),ys,by rw[xr];exact p3,p4⟩
 ·obtain⟨i,D,rfl,E⟩:=lr id r O;obtain⟨j,V,rfl,L⟩:=lr id' r' b0;rw[xr]at hg a4;rw[a3 i j D V (N.ri _ _ _ _ g E L hg a4)]
 ·obtain⟨i,J,D,rfl,E,_⟩:=X k b I;obtain⟨j,V,rfl,L⟩:=lr id r O;rw[xr,Y];exact N.br _ _ _ _ E L
 ·obtain⟨i,J,D,rfl,E,_⟩:=X k bo I;rw[Y];exact(N.ib b hb).2.1 _ _ E
 ·obtain⟨i,D,rfl,E⟩:=lr id r O;rw[xr];exact(N.ib b hb).2.2 _ _ E
 ·simp only[FM,bv]at I;obtain⟨bo,b3,e⟩:=I;exact⟨e,bo,b3⟩
noncomputable def FD (ρ E:Env) (G:List (Nat×Box)) (D:List (Nat×Row)) (I bi:Nat->Nat):Env:=
 ⟨λn=>match L3 G I n with|some k=>E.bx k|none=>ρ.bx n,λn=>match L3 D bi n with|some k=>E.rv k|none=>ρ.rv n,λn=>match L3 D bi n with|some k=>E.wd k|none=>ρ.wd n,E.im⟩
theorem Zh (V:RelE Z tm aB aC ρ tmps w) {keys ids:List Nat} (f4:keys.Nodup) (e3:ids.Nodup) {mb G:List (Nat×Box)} {mr I:List (Nat×Row)}
  (f5:Ee aB (λk=>base+pos keys k) (λi=>base+pos ids i) base keys=some mb) (g0:G0 aC base ids=some mr) {v:TV} {x:Value} {ρ2:Env} {w':World}
  (M:RelE (FM (Lj w ρ keys ids) w (JU ρ keys ids) mb) [v] G I ρ2 #[x] w') {d:Nat}
  (a5:(G.map (·.1)).Nodup) (c9:(I.map (·.1)).Nodup) (e4:∀k∈By keys G,Ac aB (BW keys (By keys G) d k)=none) (e5:∀k∈By ids I,Ac aC (BW ids (By ids I) d k)=none):
  let T:=BW keys (By keys G) d
  let bi:=BW ids (By ids I) d
  RelE Z (tm.map (Ik ids)) (Nz T bi G ((Ej keys aB).map λp=>(p.1,Ea ids p.2))) (Ku bi I (Ej ids aC)) (FD ρ ρ2 G I T bi) tmps w'/\
   TVR (FD ρ ρ2 G I T bi) w' (v.ren T bi) x/\TV.wf (Nz T bi G ((Ej keys aB).map λp=>(p.1,Ea ids p.2))) (Ku bi I (Ej ids aC)) (v.ren T bi):=by
 intro T bi;obtain⟨b1,b2⟩:=Mj f5;obtain⟨r1,r2⟩:=Qro g0;have b3:∀k∈keys,∃b,Ac aB k=some b:=λk O=>by
  obtain⟨x,q,_⟩:=b1 (pos keys k) (EF O).1;rw[(EF O).2]at q;exact⟨x,q⟩
 have b4:∀k∈ids,∃b,Ac aC k=some b:=λk O=>by
  obtain⟨x,q,_⟩:=r1 (pos ids k) (EF O).1;rw[(EF O).2]at q;exact⟨x,q⟩
 have c6:∀k∈G.map (·.1),∀j∈G.map (·.1),T k=T j->k=j:=Q8g f4 b3 e4;have c7:∀k∈I.map (·.1),∀j∈I.map (·.1),bi k=bi j->k=j:=Q8g e3 b4 e5
 have b5:∀i,i<keys.length->(∃b,Ac G (base+i)=some b)/\ρ2.bx (base+i)=ρ.bx (nth 0 keys i):=by
  intro i hi;obtain⟨x0,_,q⟩:=b1 i hi;obtain ⟨p1, bo, p2⟩ := M.k0 (base + i) (ρ.bx (nth 0 keys i)) (by
   simp only[FM,q,js];show some (ρ.bx (nth 0 keys (base+i-base)))=_;rw[dz])
  exact⟨⟨bo,p2⟩,p1⟩
 have b6:∀i,i<keys.length->T (base+i)=nth 0 keys i:=λi hi=>by
  have:=Ny (names:=keys) (fresh:=By keys G) (d:=d) (k:=base+i) ⟨by omega,by omega⟩;rw[dz]at this;exact this
 have e6:∀i,i<ids.length->bi (base+i)=nth 0 ids i:=λi hi=>by
  have:=Ny (names:=ids) (fresh:=By ids I) (d:=d) (k:=base+i) ⟨by omega,by omega⟩;rw[dz]at this;exact this
 have e7:∀k∈G.map (·.1),(∃i,i<keys.length/\k=base+i/\T k=nth 0 keys i)\/(Ac aB (T k)=none):=by
  intro k O;by_cases hc:base<=k/\k-base<keys.length
  ·refine .inl ⟨k-base,hc.2,by omega,?_⟩;have:=b6 (k-base) hc.2;rw[show base+(k-base)=k from by omega]at this;exact this
  ·exact .inr (e4 k (JK.2 ⟨O,hc⟩))
 have e8:∀k∈I.map (·.1),(∃i,i<ids.length/\k=base+i/\bi k=nth 0 ids i)\/(Ac aC (bi k)=none):=by
  intro k O;by_cases hc:base<=k/\k-base<ids.length
  ·refine .inl ⟨k-base,hc.2,by omega,?_⟩;have:=e6 (k-base) hc.2;rw[show base+(k-base)=k from by omega]at this;exact this
  ·exact .inr (e5 k (JK.2 ⟨O,hc⟩))
 have e9:∀n b,Ac aB n=some b->n∉keys->∀k∈G.map (·.1),n≠T k:=by
  rintro n b N D k O rfl;rcases e7 k O with⟨i,hi,_,e⟩|e
  ·exact D (by rw[e];exact F_ hi)
  ·rw[N]at e;cases e
 have f0:∀n b,Ac aC n=some b->n∉ids->∀k∈I.map (·.1),n≠bi k:=by
  rintro n b N D k O rfl;rcases e8 k O with⟨i,hi,_,e⟩|e
  ·exact D (by rw[e];exact F_ hi)
  ·rw[N]at e;cases e
 have Y:∀k,(∃b,Ac G k=some b)->(FD ρ ρ2 G I T bi).bx (T k)=ρ2.bx k:=λk O=>by
  simp only[FD,Q25 c6 (Nj.2 O)]
 have a3:∀k,(∃b,Ac I k=some b)->(FD ρ ρ2 G I T bi).rv (bi k)=ρ2.rv k/\(FD ρ ρ2 G I T bi).wd (bi k)=ρ2.wd k:=λk O=>by
  constructor<;>simp only[FD,Q25 c7 (Nj.2 O)]
 have a0:∀n,(∃b,Ac aB n=some b)->(FD ρ ρ2 G I T bi).bx n=ρ.bx n:=by
  rintro n ⟨b,N⟩;by_cases D:n∈keys
  ·obtain⟨p1,p2⟩:=EF D;obtain⟨q1,q2⟩:=b5 _ p1;have:=Y (base+pos keys n) q1;rw[b6 _ p1,p2,q2,p2]at this;exact this
  ·simp only[FD,Q1x (e9 n b N D)]
 have a4:∀n,(∃b,Ac aC n=some b)->n∉ids->(FD ρ ρ2 G I T bi).rv n=ρ.rv n/\(FD ρ ρ2 G I T bi).wd n=ρ.wd n:=by
  rintro n ⟨b,N⟩ D;constructor<;>simp only[FD,Q1x (f0 n b N D)]
 have g1:=M.fr.size;have b7:∀n b,Ac aB n=some b->n∉keys->Lj w ρ keys ids (ρ.bx n):=λn b N D=>
  ⟨V.bxlt N,λk O e=>by obtain⟨b',a5⟩:=b3 k O;exact D (by rw[<-V.bi k n b' b a5 N e];exact O),λid U=>by obtain⟨r,hr⟩:=b4 id U;exact V.br n b id r N hr⟩
 have b8:∀n r g,Ac aC n=some r->n∉ids->(ρ.rv n).ownBlock=some g->Lj w ρ keys ids g:=λn r g N D hg=>
  ⟨(V.rwlt N hg).2,λk O e=>by obtain⟨b',a5⟩:=b3 k O;exact V.br k b' n r a5 N (by rw[hg,e]),λid U e=>by obtain⟨r',c9⟩:=b4 id U;exact D (by rw[<-V.ri id n r' r g c9 N e hg];exact U)⟩
 have f1:∀b,ρ.im b->Lj w ρ keys ids b:=λb hb=>
  ⟨(V.ib b hb).1,λk O=>by obtain⟨b',a5⟩:=b3 k O;exact(V.ib b hb).2.1 k b' a5,λid U=>by obtain⟨r,hr⟩:=b4 id U;exact(V.ib b hb).2.2 id r hr⟩
 have fz:∀b,Z.F b->Lj w ρ keys ids b:=λb hb=>
  ⟨V.fs b hb,λk O e=>by obtain⟨b',a5⟩:=b3 k O;obtain⟨_,_,_,q⟩:=V.bx k b' a5;exact q (e▸hb),λid U e=>by obtain⟨r,hr⟩:=b4 id U;exact(V.rwlt hr e).1 hb⟩
 have hold:∀b,Lj w ρ keys ids b->w'.heap[b]? =w.heap[b]? :=λb hb=>M.fr.block b hb;have d0:∀b,ρ.im b->ρ2.im b:=λb hb=>M.i0 b hb;have b9:∀b,ρ2.im b->ρ.im b\/ ¬Lj w ρ keys ids b:=λb hb=>M.i1 b hb
 have g2:∀k∈G.map (·.1),Ac ((Ej keys aB).map λp=>(p.1,Ea ids p.2)) (T k)=none:=by
  intro k O;rw[GU (Ea ids),Lu];rcases e7 k O with⟨i,hi,_,e⟩|e
  ·rw[aa (by rw[e];exact F_ hi)];rfl
  ·split
   ·rfl
   ·rw[e];rfl
 have g3:∀k∈I.map (·.1),Ac (Ej ids aC) (bi k)=none:=by
  intro k O;rw[Lu];rcases e8 k O with⟨i,hi,_,e⟩|e
  ·rw[aa (by rw[e];exact F_ hi)]
  ·split
   ·rfl
   ·exact e
 obtain⟨c0,d1⟩:=T4 (rk:=T) (g:=λb:Box=>(⟨b.ty,b.cells.map (AC.ren T bi)⟩:Box)) a5 c6 g2;obtain⟨c4,d2⟩:=T4 (rk:=bi) (g:=λb:Row=>b) c9 c7 g3;rw[Yu,Qu2];generalize hB:IA T (λb:Box=>(⟨b.ty,b.cells.map (AC.ren T bi)⟩:Box)) G ((Ej keys aB).map λp=>(p.1,Ea ids p.2))=B' at c0 d1⊢;generalize g6:IA bi (λb:Row=>b) I (Ej ids aC)=R' at c4 d2⊢;have X:∀n b,Ac B' n=some b->(∃k L,Ac G k=some L/\n=T k/\b=⟨L.ty,L.cells.map (AC.ren T bi)⟩)\/(n∉keys/\∃L,Ac aB n=some L/\b=Ea ids L):=by
  intro n b N;by_cases hc:∃k∈G.map (·.1),n=T k
  ·obtain⟨k,O,rfl⟩:=hc;obtain⟨L,c1⟩:=Nj.1 O;have:=c0 k L c1;rw[N]at this;simp at this;exact .inl ⟨k,L,c1,rfl,this⟩
  ·rw[d1 n (λk O e=>hc ⟨k,O,e⟩),GU (Ea ids),Lu]at N;split at N
   ·simp at N
   ·rename_i D;simp only[bv]at N;obtain⟨L,E,h2⟩:=N;exact .inr ⟨D,L,E,h2.symm⟩
 have a1:∀n r,Ac R' n=some r->(∃k,Ac I k=some r/\n=bi k)\/(n∉ids/\Ac aC n=some r):=by
  intro n r N;by_cases hc:∃k∈I.map (·.1),n=bi k
  ·obtain⟨k,O,rfl⟩:=hc;obtain⟨L,c1⟩:=Nj.1 O;have:=c4 k L c1;rw[N]at this;simp at this;subst this;exact .inl ⟨k,c1,rfl⟩
  ·rw[d2 n (λk O e=>hc ⟨k,O,e⟩),Lu]at N;split at N
   ·simp at N
   ·rename_i D;exact .inr ⟨D,N⟩
 have a6:∀n b,Ac aB n=some b->∃b',Ac B' n=some b':=by
  intro n b N;by_cases D:n∈keys
  ·obtain⟨p1,p2⟩:=EF D;obtain⟨⟨bo,q1⟩,_⟩:=b5 _ p1;have:=c0 _ bo q1;rw[b6 _ p1,p2]at this;exact⟨_,this⟩
  ·rw[d1 n (e9 n b N D),GU (Ea ids),Lu,ab D,N];exact⟨_,rfl⟩
 have c8:∀n r,Ac aC n=some r->n∉ids->Ac R' n=some r:=by
  intro n r N D;rw[d2 n (f0 n r N D),Lu,ab D,N]
 let Q:AC->Prop:=λa=>AC.wf aB aC a/\∀id∈ids,AC.free id a
 have c5:∀a,Q a->a.agree ρ (FD ρ ρ2 G I T bi):=by
  rintro a ⟨S,hf⟩;have hp:∀l:List AC,(∀a∈l,AC.wfP aB a)->∀a∈l,a.agreeP ρ (FD ρ ρ2 G I T bi):=by
   intro l hl c hc;have:=hl c hc;cases c<;>first|exact a0 _ this|trivial
  cases a with
  |ptr k o=>exact a0 k S
  |bsl k o=>exact a0 k S
  |own id _ _=>obtain⟨r,E,_⟩:=S;exact a4 id ⟨r,E⟩ (λhm=>hf id hm rfl)
  |rptr id _ _=>obtain⟨r,E,_⟩:=S;exact a4 id ⟨r,E⟩ (λhm=>hf id hm rfl)
  |clo f fs cs=>exact⟨hp fs S.1,hp cs S.2⟩
  |_=>trivial
 have f2:∀(a:AC) (y:Value),Q a->CC ρ w a y->CC (FD ρ ρ2 G I T bi) w' a y:=λa y hq hy=>CC.mono (ρ':=FD ρ ρ2 G I T bi) d0 (λb hb=>hold b (f1 b hb)) a y (c5 a hq) hy;have c2:∀a,Q a->AC.wf B' R' a:=by
  rintro a ⟨S,hf⟩;cases a with
  |ptr k o=>obtain⟨b,hb⟩:=S;exact a6 k b hb
  |bsl k o=>obtain⟨b,hb⟩:=S;exact a6 k b hb
  |own id _ _=>obtain⟨r,E,h2⟩:=S;exact⟨r,c8 id r E (λhm=>hf id hm rfl),h2⟩
  |rptr id _ _=>obtain⟨r,E,h2⟩:=S;exact⟨r,c8 id r E (λhm=>hf id hm rfl),h2⟩
  |vptr=>exact S
  |clo f fs cs=>exact⟨λc hc=>AC.wfP_mono a6 (S.1 c hc),λc hc=>AC.wfP_mono a6 (S.2 c hc)⟩
  |_=>trivial
 have d3:∀a,AC.wf G I a->AC.wf B' R' (a.ren T bi):=λa S=>
  Tx (Kp:=λk=>∃b,Ac G k=some b) (Ip:=λi=>∃r,Ac I i=some r) (λk _ ⟨b,hb⟩=>⟨_,c0 k b hb⟩) (λi r _ hr=>⟨r,c4 i r hr,rfl,rfl⟩) (AC.nm_of_wf S) S
 have g4:∀v∈tm.map (Ik ids),TV.wf aB aC v/\∀id∈ids,TV.free id v:=by
  intro v hv;simp only[bc]at hv;obtain⟨u,hu,rfl⟩:=hv;exact⟨Zc0 ids (V.wt u hu),λid U=>Zat ids u id U⟩
 have f3:∀v∈tm.map (Ik ids),(match v with| .v _ cs=>∀a∈cs,Q a| .tup ps=>∀p∈ps,∀a∈p.2,Q a| .vD=>True):=by
  intro v hv;obtain⟨E,h2⟩:=g4 v hv;cases v with
  |vD=>trivial
  |v g cs=>exact λa S=>⟨E a S,λid U=>h2 id U a S⟩
  |tup ps=>exact λp hp a S=>⟨E p hp a S,λid U=>h2 id U p hp a S⟩
 have qB:∀n L,Ac aB n=some L->∀a∈(Ea ids L).cells,Q a:=λn L N a S=>⟨Zad ids (V.wb n L N) a S,λid U=>Q37 ids L id U a S⟩;have c3:TV.wf G I v:=M.wt v (by simp);refine⟨⟨by simpa using V.tl,λi v hi=> ?_,λv hv=> ?_,λn b N a S=> ?_,λn b N=> ?_,λn n' b b' N d4 he=> ?_,λn r N=> ?_,λn n' r r' g N d4 hg a7=> ?_,λn b m r N hm=> ?_,λb hb=>⟨(M.ib b hb).1,λn bo N=> ?_,λn r N=> ?_⟩,?_,?_,λb hb=>d0 b (V.i0 b hb),λb hb=> ?_,λk b O=> ?_⟩,?_,?_⟩
 ·have hv:=cd hi;simp only[d7,bv]at hi;obtain⟨u,hu,rfl⟩:=hi;exact TVR.mono2 f2 (f3 _ hv) (Zek ids (V.tv i u hu))
 ·have:=f3 v hv;cases v with
  |vD=>trivial
  |v g cs=>exact λa S=>c2 a (this a S)
  |tup ps=>exact λp hp a S=>c2 a (this p hp a S)
 ·rcases X n b N with⟨k,L,E,rfl,rfl⟩|⟨D,L,E,rfl⟩
  ·simp only[bc]at S;obtain⟨c,hc,rfl⟩:=S;exact d3 c (M.wb k L E c hc)
  ·exact c2 a (qB n L E a S)
 ·rcases X n b N with⟨k,L,E,rfl,rfl⟩|⟨D,L,E,rfl⟩
  ·obtain⟨arr,q1,q2,q3⟩:=M.bx k L E;refine⟨arr,by rw[Y k ⟨L,E⟩];exact q1,Q9 (Kp:=λk=>∃b,Ac G k=some b) (Ip:=λi=>∃r,Ac I i=some r) Y a3 rfl (λc hc=>AC.nm_of_wf (M.wb k L E c hc)) q2,?_⟩;rw[Y k ⟨L,E⟩];exact λhf=>q3 (fz _ hf)
  ·obtain⟨arr,q1,q2,q3⟩:=V.bx n L E;rw[a0 n ⟨L,E⟩];refine⟨arr,by rw[hold _ (b7 n L E D),Q69];exact q1,?_,q3⟩;exact(Zax ids q2).mono λa S y hy=>f2 a y (qB n L E a S) hy
 ·rcases X n b N with⟨k,L,E,rfl,_⟩|⟨D,L,E,_⟩<;>rcases X n' b' d4 with⟨k',a9,J,rfl,_⟩|⟨a8,a9,J,_⟩
  ·rw[Y k ⟨L,E⟩,Y k' ⟨a9,J⟩]at he;rw[M.bi k k' _ _ E J he]
  ·rw[Y k ⟨L,E⟩,a0 n' ⟨a9,J⟩]at he;obtain⟨_,_,_,q3⟩:=M.bx k L E;exact absurd (he▸b7 n' a9 J a8) q3
  ·rw[a0 n ⟨L,E⟩,Y k' ⟨a9,J⟩]at he;obtain⟨_,_,_,q3⟩:=M.bx k' a9 J;exact absurd (he▸b7 n L E D) q3
  ·rw[a0 n ⟨L,E⟩,a0 n' ⟨a9,J⟩]at he;exact V.bi n n' _ _ E J he
 ·rcases a1 n r N with⟨k,E,rfl⟩|⟨D,E⟩
  ·obtain⟨q1,q2,q0,ys,q3,q4⟩:=M.ro k r E;obtain⟨e1,e2⟩:=a3 k ⟨r,E⟩;rw[e1,e2];exact⟨q1,q2,λg hg hf=>q0 g hg (fz g hf),ys,q3,q4⟩
  ·obtain⟨q1,q2,q0,ys,q3,q4⟩:=V.ro n r E;obtain⟨e1,e2⟩:=a4 n ⟨r,E⟩ D;rw[e1,e2];exact⟨q1,q2,q0,ys,NN q3 λg hg=>hold g (b8 n r g E D hg),q4.mono d0 (λb hb=>hold b (f1 b hb))⟩
 ·rcases a1 n r N with⟨k,E,rfl⟩|⟨D,E⟩<;>rcases a1 n' r' d4 with⟨k',J,rfl⟩|⟨a8,J⟩
  ·rw[(a3 k ⟨r,E⟩).1]at hg;rw[(a3 k' ⟨r',J⟩).1]at a7;rw[M.ri k k' _ _ g E J hg a7]
  ·rw[(a3 k ⟨r,E⟩).1]at hg;rw[(a4 n' ⟨r',J⟩ a8).1]at a7;obtain⟨_,_,q0,_⟩:=M.ro k r E;exact absurd (b8 n' r' g J a8 a7) (q0 g hg)
  ·rw[(a4 n ⟨r,E⟩ D).1]at hg;rw[(a3 k' ⟨r',J⟩).1]at a7;obtain⟨_,_,q0,_⟩:=M.ro k' r' J;exact absurd (b8 n r g E D hg) (q0 g a7)
  ·rw[(a4 n ⟨r,E⟩ D).1]at hg;rw[(a4 n' ⟨r',J⟩ a8).1]at a7;exact V.ri n n' _ _ g E J hg a7
 ·rcases X n b N with⟨k,L,E,rfl,_⟩|⟨D,L,E,_⟩<;>rcases a1 m r hm with⟨k',J,rfl⟩|⟨d5,J⟩
  ·rw[Y k ⟨L,E⟩,(a3 k' ⟨r,J⟩).1];exact M.br k L k' r E J
  ·rw[Y k ⟨L,E⟩,(a4 m ⟨r,J⟩ d5).1];intro e;obtain⟨_,_,_,q3⟩:=M.bx k L E;exact q3 (b8 m r _ J d5 e)
  ·rw[a0 n ⟨L,E⟩,(a3 k' ⟨r,J⟩).1];intro e;obtain⟨_,_,q0,_⟩:=M.ro k' r J;exact q0 _ e (b7 n L E D)
  ·rw[a0 n ⟨L,E⟩,(a4 m ⟨r,J⟩ d5).1];exact V.br n L m r E J
 ·rcases X n bo N with⟨k,L,E,rfl,_⟩|⟨D,L,E,_⟩
  ·rw[Y k ⟨L,E⟩];exact(M.ib b hb).2.1 k L E
  ·rw[a0 n ⟨L,E⟩];rcases b9 b hb with a2|a2
   ·exact(V.ib b a2).2.1 n L E
   ·exact λe=>a2 (e▸b7 n L E D)
 ·rcases a1 n r N with⟨k,E,rfl⟩|⟨D,E⟩
  ·rw[(a3 k ⟨r,E⟩).1];exact(M.ib b hb).2.2 k r E
  ·rw[(a4 n ⟨r,E⟩ D).1];rcases b9 b hb with a2|a2
   ·exact(V.ib b a2).2.2 n r E
   ·exact λe=>a2 (b8 n r b E D e)
 ·exact V.fr.trans ⟨M.fr.os,M.fr.tape,M.fr.output,M.fr.size,λk O=>hold k (fz k O)⟩
 ·exact λk O=>gf (V.fs k O) g1
 ·rcases b9 b hb with a2|a2
  ·exact V.i1 b a2
  ·exact .inr λhf=>a2 (fz b hf)
 ·obtain⟨q1,bo,q2⟩:=V.k0 k b O;exact⟨by rw[a0 k ⟨bo,q2⟩];exact q1,a6 k bo q2⟩
 ·have g5:TVR ρ2 w' v x:=by simpa using M.tv 0 v rfl
  exact Zc9 (Kp:=λk=>∃b,Ac G k=some b) (Ip:=λi=>∃r,Ac I i=some r) Y a3 rfl (TV.nm_of_wf c3) g5
 ·exact Q18 (Kp:=λk=>∃b,Ac G k=some b) (Ip:=λi=>∃r,Ac I i=some r) (λk _ ⟨b,hb⟩=>⟨_,c0 k b hb⟩) (λi r _ hr=>⟨r,c4 i r hr,rfl,rfl⟩) (TV.nm_of_wf c3) c3
theorem Qld {α:Type} {l:List (Nat×α)} {k:Nat} (h:IC l k=true):Ac l k=none:=by
 unfold IC at h;split at h
 ·cases h
 ·assumption
theorem Zrc (L:Aj P C) (hR:RelE Z tm aB aC ρ tmps w) {o:Oper} {a:Act} {f:FuncId} {args:List TV} {xs:List Value} (h1:xs.length=args.length)
  (h2:∀(i:Nat) (a:TV) (x:Value),args[i]? =some a->xs[i]? =some x->TVR ρ w a x) (h3:execOp a.eval o=callFunc f xs.toArray) (a0:∀v∈args,TV.wf aB aC v) {K:TV->St->Option R} {r:R}
  (h:Bj C o.dst (.callM f args) ⟨tm,aB,aC⟩ K=some r) {next:Act->World->Prop} {Q:Exit->Act->World->Prop}
  (M:∀(v:TV) (T:List TV) (D:List (Nat×Box)) (E:List (Nat×Row)) (ρ':Env) (x:Value) (w':World),K v ⟨T,D,E⟩=some r->RelE Z T D E ρ' tmps w'->TVR ρ' w' v x->TV.wf D E v->next (a.put o.dst x) w'):
  o.wp P a w next Q:=by
 simp only[Bj]at h;split at h
 ·rename_i g hg;have a1:=L.1 f g hg;simp only[Bo]at h;generalize N:L_ aB 4 (Bd (cat AC.keys (cat TV.cellsOf args)) [])=keys at h;generalize hi:OP aB (cat TV.cellsOf args) keys=ids at h;clear N hi;cases hc:(Al (TV.inK keys ids) args&&Al (λk=>Al (AC.inK keys ids) (Fb aB k)) keys&&B0 keys&&B0 ids)<;>rw[hc]at h
  ·simp at h
  ·simp only[ai]at h;simp only[ak]at hc;obtain⟨⟨⟨c1,c2⟩,c3⟩,c4⟩:=hc;split at h
   ·rename_i mb mr U V;have X:=Js.1 c3;have J:=Js.1 c4;obtain⟨v,⟨G,I⟩,O,a2⟩:=a1.run h;have Y:=Qs1 hR h1 h2 a0 X J (λv O=>AD.1 c1 v O) (λk N=>AD.1 c2 k N) U V;refine U2 h3 ((a2 _ w _ xs Y).mono ?_);rintro e w' ⟨x,ρ2,he,a3⟩;dsimp only at O;cases S:(Al (λp:Nat×Box=>ER G p.1) mb&&B0 (G.map (·.1))&&B0 (I.map (·.1))&&Al (λk=>IC aB (BW keys (By keys G) (o.dst.getD 0) k)) (By keys G)&&Al (λk=>IC aC (BW ids (By ids I) (o.dst.getD 0) k)) (By ids I)&&Nat.ble (By keys G).length 100&&Nat.ble (By ids I).length 100)<;>rw[S]at O
    ·simp at O
    ·simp only[ai]at O;simp only[ak]at S;obtain⟨⟨⟨⟨⟨⟨_,d2⟩,d3⟩,d4⟩,d5⟩,_⟩,_⟩:=S;obtain⟨e1,e2,e3⟩:=Zh hR X J U V a3 (d:=o.dst.getD 0) (Js.1 d2) (Js.1 d3) (λk N=>Qld (AD.1 d4 k N)) (λk N=>Qld (AD.1 d5 k N));exact⟨x,he,M _ _ _ _ _ x w' O e1 e2 e3⟩
   ·simp at h
 ·simp at h
theorem RelE.cong {D:List (Nat×Box)} (h:RelE Z tm aB aC ρ tmps w) (G:∀k,Ac D k=Ac aB k):RelE Z tm D aC ρ tmps w:=by
 have L:∀a,AC.wf aB aC a->AC.wf D aC a:=λa=>AC.wf_mono (λk b E=>⟨b,by rw[G];exact E⟩) (λk r E=>⟨r,E,rfl,rfl⟩);exact⟨h.tl,h.tv,λv M=>TV.wf_mono L (h.wt v M),λk b E a I=>L a (h.wb k b (by rw[<-G];exact E) a I),
  λk b E=>h.bx k b (by rw[<-G];exact E),λk k' b b' E J=>h.bi k k' b b' (by rw[<-G];exact E) (by rw[<-G];exact J),h.ro,h.ri,
  λk b id r E=>h.br k b id r (by rw[<-G];exact E),λb hb=>⟨(h.ib b hb).1,λk bo E=>(h.ib b hb).2.1 k bo (by rw[<-G];exact E),(h.ib b hb).2.2⟩,
  h.fr,h.fs,h.i0,h.i1,λk b E=>⟨(h.k0 k b E).1,by rw[G];exact(h.k0 k b E).2⟩⟩
theorem Q4t {keys:List Nat} (E:keys.Nodup):∀{m l:List (Nat×Box)},(m.map (·.1)).Nodup->(∀k∈m.map (·.1),base<=k/\k-base<keys.length)->(∀k∈keys,∃b,Ac l k=some b)->
  (∀k b,Ac m k=some b->Ac (C2 keys m l) (nth 0 keys (k-base))=some b)/\(∀n,(∀k∈m.map (·.1),n≠nth 0 keys (k-base))->Ac (C2 keys m l) n=Ac l n)
 |[],l,_,_,_=>⟨λk b h=>by simp[Ac]at h,λn _=>rfl⟩
 |(j,c)::m,l,I,J,N=>by
  simp only[bm,kh]at I;have O:=J j (by simp);have L:∀k∈m.map (·.1),nth 0 keys (j-base)≠nth 0 keys (k-base):=λk D e=>by
   have M:=J k (by simp at D⊢;exact .inr D);have U:=ik (pos keys) e;rw[I_ E O.2,I_ E M.2]at U;have:k=j:=by omega
   subst this;exact I.1 D
  obtain⟨y,S⟩:=N _ (F_ O.2);obtain ⟨V, T⟩ := Q4t E (m := m) (l := upd l (nth 0 keys (j - base)) c) I.2 (λk D => J k (by simp at D ⊢; exact .inr D)) (λk D => by
   by_cases e:k=nth 0 keys (j-base)
   ·subst e;exact⟨c,Fm _ _ _ _ S⟩
   ·rw[DG _ _ _ _ e];exact N k D)
  refine⟨λk b D=> ?_,λn G=> ?_⟩
  ·simp only[Ac]at D;simp only[C2];cases hb:Nat.beq j k<;>rw[hb]at D
   ·exact V k b D
   ·have:=af hb;subst this;simp at D;subst D;rw[T _ L];exact Fm _ _ _ _ S
  ·simp only[C2];rw[T n (λk D=>G k (by simp at D⊢;exact .inr D))];exact DG _ _ _ _ (G j (by simp))
theorem Zqi {D ri:Nat->Nat} {a:AC} (h:a.calm=true):a.ren D ri=a:=by cases a<;>simp[AC.calm]at h<;>rfl
theorem R8 {D ri:Nat->Nat}:∀{l:List AC},Al AC.calm l=true->l.map (AC.ren D ri)=l
 |[],_=>rfl
 |a::l,h=>by
  rw[AD]at h;simp only[bm];rw[Zqi (h a (by simp)),R8 (AD.2 λx E=>h x (by simp[E]))]
theorem Qvl {a:AC} (h:a.plain=true):a.calm=true:=by cases a<;>simp[AC.plain]at h<;>rfl
theorem Qsk {E ri:Nat->Nat} {v:TV} (h:v.plainB=true):v.ren E ri=v:=by
 cases v with
 |vD=>rfl
 |v g cs=>
  simp only[TV.plainB,AD]at h;simp only[TV.ren];rw[R8 (AD.2 λa D=>Qvl (h a D))]
 |tup ps=>
  simp only[TV.plainB,AD]at h;simp only[TV.ren];congr 1
  conv=>rhs;rw[<-List.map_id ps]
  apply List.map_congr_left;intro p G;rw[R8 (AD.2 λa D=>Qvl (h p G a D))];rfl
theorem UB {α:Type} {l:List (Nat×α)} {k:Nat} (h:ER l k=true):∃b,Ac l k=some b:=by
 unfold ER at h;split at h
 ·rename_i b hb;exact⟨b,hb⟩
 ·cases h
theorem Z4b {keys:List Nat} (M:keys.Nodup) {S D:List (Nat×Box)} (T:Ee aB (λk=>base+pos keys k) (λi=>base+pos [] i) base keys=some S)
  (h1:∀p∈S,ER D p.1=true) (h2:∀p∈D,ER S p.1=true) (X:(D.map (·.1)).Nodup) (h4:∀p∈D,Al AC.calm p.2.cells=true) (bi:Nat->Nat) (d:Nat) (k:Nat):
  Ac (C2 keys D aB) k=Ac (Nz (BW keys [] d) bi D ((Ej keys aB).map λp=>(p.1,Ea [] p.2))) k:=by
 obtain⟨b1,b2⟩:=Mj T;have E:∀k∈D.map (·.1),base<=k/\k-base<keys.length:=by
  intro k G;simp only[bc]at G;obtain⟨p,U,rfl⟩:=G;obtain⟨b,hb⟩:=UB (h2 p U);obtain⟨i,Y,e⟩:=b2 _ _ hb;omega
 have N:∀i,i<keys.length->∃b,Ac D (base+i)=some b:=by
  intro i Y;obtain⟨x,_,q⟩:=b1 i Y;exact UB (h1 _ (Pn q))
 have V:∀k∈keys,∃b,Ac aB k=some b:=λk G=>by
  obtain⟨x,q,_⟩:=b1 (pos keys k) (EF G).1;rw[(EF G).2]at q;exact⟨x,q⟩
 have I:∀k∈D.map (·.1),BW keys [] d k=nth 0 keys (k-base):=λk G=>Ny (E k G);obtain⟨u1,u2⟩:=Q4t (l:=aB) M X E V;have J:∀n,Ac ((Ej keys aB).map λp=>(p.1,Ea [] p.2)) n=if n∈keys then none else Ac aB n:=by
  intro n;rw[GU,Lu];split
  ·rfl
  ·cases Ac aB n<;>rfl
 have O:∀k∈D.map (·.1),∀j∈D.map (·.1),BW keys [] d k=BW keys [] d j->k=j:=by
  intro k G j L e;rw[I k G,I j L]at e;have e':=ik (pos keys) e;rw[I_ M (E k G).2,I_ M (E j L).2]at e';have:=E k G;have:=E j L;omega
 rw[Yu];obtain ⟨v1, v2⟩ := T4 (rk := BW keys [] d) (g := λb : Box => (⟨b.ty, b.cells.map (AC.ren (BW keys [] d) bi)⟩ : Box)) (m := D) (l := (Ej keys aB).map λp => (p.1, Ea [] p.2)) X O (λk G => by
  rw[J,I k G,aa (F_ (E k G).2)])
 by_cases G:k∈keys
 ·obtain⟨U,hn⟩:=EF G;obtain⟨b,hb⟩:=N _ U;have e1:=u1 _ b hb;have e2:=v1 _ b hb;rw[I _ (Nj.2 ⟨b,hb⟩)]at e2;rw[show base+pos keys k-base=pos keys k from by omega,hn]at e1 e2;rw[e1,e2];have:=h4 _ (Pn hb);rw[R8 this]
 ·rw[u2 k (λj L e=>G (by rw[e];exact F_ (E j L).2)),v2 k (λj L e=>G (by rw[e,I j L];exact F_ (E j L).2)),J,ab G]
theorem Zlq (M:Aj P C) (hR:RelE Z tm aB aC ρ tmps w) {o:Oper} {a:Act} {f:FuncId} {args:List TV} {xs:List Value} (h1:xs.length=args.length)
  (h2:∀(i:Nat) (a:TV) (x:Value),args[i]? =some a->xs[i]? =some x->TVR ρ w a x) (h3:execOp a.eval o=callFunc f xs.toArray) (Y:∀v∈args,TV.wf aB aC v) {K:TV->St->Option R} {r:R}
  (h:Bj C o.dst (.callD f args) ⟨tm,aB,aC⟩ K=some r) {next:Act->World->Prop} {Q:Exit->Act->World->Prop}
  (N:∀(v:TV) (T:List TV) (D:List (Nat×Box)) (E:List (Nat×Row)) (ρ':Env) (x:Value) (w':World),K v ⟨T,D,E⟩=some r->RelE Z T D E ρ' tmps w'->TVR ρ' w' v x->TV.wf D E v->next (a.put o.dst x) w'):
  o.wp P a w next Q:=by
 simp only[Bj]at h;split at h
 ·rename_i g hg;have a0:=M.1 f g hg;simp only[Bo]at h;generalize G:Bd (cat AC.keys (cat TV.cellsOf args)) []=keys at h;clear G;cases hc:(Al (TV.inK keys []) args&&Al (λk=>Al AC.calm (Fb aB k)) keys&&B0 keys)<;>rw[hc]at h
  ·simp at h
  ·simp only[ai]at h;simp only[ak]at hc;obtain⟨⟨c1,c2⟩,c3⟩:=hc;have a1:Al (λk=>Al (AC.inK keys []) (Fb aB k)) keys=true:=by
    rw[AD]at c2⊢;intro k G;have:=c2 k G;rw[AD]at this⊢;intro b hb;have:=this b hb;cases b<;>simp[AC.calm]at this<;>rfl
   split at h
   ·rename_i mb J;have O:=Js.1 c3;obtain⟨v,⟨I,a2⟩,L,a3⟩:=a0.run h;have U:=Qs1 hR h1 h2 Y O ji (λv L=>AD.1 c1 v L) (λk G=>AD.1 a1 k G) J (show G0 aC base []=some []from rfl);refine U2 h3 ((a3 _ w _ xs U).mono ?_);rintro e w' ⟨x,ρ2,he,a4⟩;cases a2 with
    |cons _ _=>simp at L
    |nil=>
     dsimp only at L;cases S:(Al (λp:Nat×Box=>ER I p.1) mb&&Al (λp:Nat×Box=>ER mb p.1) I&&B0 (I.map (·.1))&&Al (λp:Nat×Box=>Al AC.calm p.2.cells) I&&v.plainB)<;>rw[S]at L
     ·simp at L
     ·simp only[ai]at L;simp only[ak]at S;obtain⟨⟨⟨⟨d1,d2⟩,d3⟩,d4⟩,d5⟩:=S;have V:By keys I=[]:=by
       apply List.eq_nil_iff_forall_not_mem.2;intro k G;obtain⟨q1,q2⟩:=JK.1 G;simp only[bc]at q1;obtain⟨p,hp,rfl⟩:=q1;obtain⟨b,hb⟩:=UB (AD.1 d2 p hp);obtain⟨i,hi,e⟩:=(Mj J).2 _ _ hb;exact q2 (by omega)
      obtain⟨e1,e2,e3⟩:=Zh hR O ji J (show G0 aC base []=some []from rfl) a4 (d:=o.dst.getD 0) (Js.1 d3) ji (λk G=>by rw[V]at G;simp at G) (λk G=>by simp[By]at G);rw[V]at e1 e2 e3;have a5:=Z4b O J (AD.1 d1) (AD.1 d2) (Js.1 d3) (AD.1 d4) (BW [] (By [] ([]:List (Nat×Row))) (o.dst.getD 0)) (o.dst.getD 0);have X:=e1.cong a5;have a6:tm.map (Ik [])=tm:=by
       conv=>rhs;rw[<-List.map_id tm]
       rfl
      rw[a6]at X;rw[Qsk d5]at e2;exact⟨x,he,N _ _ _ _ _ x w' L X e2 (K1 d5)⟩
   ·simp at h
 ·simp at h
theorem Zia {keys ids:List Nat} {v:TV} (h:v.plainB=true):TV.inK keys ids v=true:=by
 cases v with
 |vD=>rfl
 |v g cs=>
  simp only[TV.plainB,TV.inK]at h⊢;rw[AD]at h⊢;intro a D;have:=h a D;cases a<;>simp[AC.plain]at this<;>rfl
 |tup ps=>
  simp only[TV.plainB,TV.inK]at h⊢;rw[AD]at h⊢;intro p E;have:=h p E;rw[AD]at this⊢;intro a D;have:=this a D;cases a<;>simp[AC.plain]at this<;>rfl
theorem Qyy {rk ri:Nat->Nat}:∀{args:List TV},Al TV.plainB args=true->args.map (TV.ren rk ri)=args
 |[],_=>rfl
 |a::l,h=>by
  simp only[Al]at h;obtain⟨h1,h2⟩:=cond_none' h;simp only[bm];rw[Qsk h1,Qyy h2]
 where cond_none' {c p:Bool} (h:cond c p false=true):c=true/\p=true:=by cases c<;>simp at h;exact⟨rfl,h⟩
theorem Qvk (x:Nat):x.blt 0=false:=rfl
theorem Zjo (j:Nat) (r:Row):By [] [(j,r)]=[j]:=by
 have D:(base.ble j&&(j-base).blt 0)=false:=by
  rw[Qvk,Bool.and_false]
 unfold By;simp only[da,D,aq];rfl
theorem Z3c (j d:Nat):BW [] [j] d j=H3 d:=by
 have D:(base.ble j&&(j-base).blt 0)=false:=by
  rw[Qvk,Bool.and_false]
 unfold BW H3;simp only[da,D,aq,pos,j7,ai,kt]
theorem Yah (U:Aj P C) (hR:RelE Z tm aB aC ρ tmps w) {o:Oper} {a:Act} {f:FuncId} {args:List TV} {xs:List Value} (h1:xs.length=args.length)
  (h2:∀(i:Nat) (a:TV) (x:Value),args[i]? =some a->xs[i]? =some x->TVR ρ w a x) (h3:execOp a.eval o=callFunc f xs.toArray) (a9:∀v∈args,TV.wf aB aC v) {K:TV->St->Option R} {r:R}
  (h:Bj C o.dst (.callF f args) ⟨tm,aB,aC⟩ K=some r) {next:Act->World->Prop} {Q:Exit->Act->World->Prop}
  (J:∀(v:TV) (a1:List TV) (D:List (Nat×Box)) (G:List (Nat×Row)) (ρ':Env) (x:Value) (w':World),K v ⟨a1,D,G⟩=some r->RelE Z a1 D G ρ' tmps w'->TVR ρ' w' v x->TV.wf D G v->next (a.put o.dst x) w'):
  o.wp P a w next Q:=by
 simp only[Bj]at h;split at h
 ·rename_i g hg;have b0:=U.1 f g hg;cases V:Al TV.plainB args<;>rw[V]at h
  ·simp at h
  simp only[ai]at h;obtain⟨v,⟨b1,L⟩,E,b2⟩:=b0.run h;have O:=Qs1 hR h1 h2 a9 ji ji (keys:=[]) (ids:=[]) (λv E=>Zia (AD.1 V v E)) (λk M=>by simp at M) (show Ee aB _ _ base []=some []from rfl) (show G0 aC base []=some []from rfl);rw[Qyy V]at O;refine U2 h3 ((b2 _ w _ xs O).mono ?_);rintro e w' ⟨x,ρ2,he,a2⟩;have a3:tm.map (Ik [])=tm:=by
   conv=>rhs;rw[<-List.map_id tm]
   rfl
  have X:(Ej [] aB).map (λp=>(p.1,Ea [] p.2))=aB:=by
   conv=>rhs;rw[<-List.map_id aB]
   rfl
  cases b1 with
  |cons _ _=>simp at E
  |nil=>
  have a4:(L.map (·.1)).Nodup->(∀k∈By [] L,Ac aC (BW [] (By [] L) (o.dst.getD 0) k)=none)->_:=λd1 d2=>
   Zh hR ji ji (show Ee aB _ _ base []=some []from rfl) (show G0 aC base []=some []from rfl) a2 (d:=o.dst.getD 0) (by simp) d1 (λk M=>by simp[By]at M) d2
  cases L with
  |nil=>
   dsimp only at E;cases Y:v.plainB<;>rw[Y]at E
   ·simp at E
   simp only[ai]at E;obtain⟨e1,e2,e3⟩:=a4 (by simp) (λk M=>by simp[By]at M);rw[a3,X]at e1;rw[Qsk Y]at e2;exact⟨x,he,J _ _ _ _ _ x w' E e1 e2 (K1 Y)⟩
  |cons p l=>
   obtain⟨k,I⟩:=p;cases l with
   |cons _ _=>simp at E
   |nil=>
    dsimp only at E;split at E
    ·rename_i j w0 n0;cases N:Nat.beq j k<;>rw[N]at E
     ·simp at E
     simp only[ai]at E;have N:=af N;subst N;split at E
     ·simp at E
     rename_i a0;simp only[Bo]at E;have hf:=Zjo j I;have hb:=Z3c j (o.dst.getD 0);obtain ⟨e1, e2, e3⟩ := a4 (by simp) (λk M => by
      rw[hf]at M⊢;simp at M;subst M;rw[hb];exact a0)
     rw[a3,X]at e1;rw[X]at e3;have b3:=a2.wt (.v false [.own j w0 n0]) (by simp) (.own j w0 n0) (by simp);obtain⟨r1,a5,b4,b5⟩:=b3;simp only[Ac,j7,ai,av]at a5;subst a5;have S:TV.ren (BW [] (By ([]:List Nat) ([]:List (Nat×Box))) (o.dst.getD 0)) (BW [] (By [] [(j,I)]) (o.dst.getD 0)) (.v false [.own j w0 n0])= .c (.own (H3 (o.dst.getD 0)) I.ks.length I.l.length):=by
      simp only[TV.ren,bm,d8,AC.ren,hf,hb];rw[<-b5,<-b4]
     have T:Ku (BW [] (By [] [(j,I)]) (o.dst.getD 0)) [(j,I)] (Ej [] aC)=ins aC (H3 (o.dst.getD 0)) I:=by
      simp only[Ku,hf,hb,Ej]
     have a6:=e1;rw[T]at a6;have a7:=e2;rw[S]at a7;have a8:=e3;rw[S,T]at a8;exact⟨x,he,J _ _ _ _ _ x w' E a6 a7 a8⟩
    ·simp at E
 ·simp at h
end
open Go.RowKit
section
variable {P:Program} {C:Cfg} {ρ:Env} {w:World} {R:Type} {Z:Base} {tm:List TV} {aB:List (Nat×Box)} {aC:List (Nat×Row)} {tmps:Array Value}
theorem Zja {g:Bool} {sz off:Nat} {cells:List AC} {v:TV} (D:DV g sz cells off=some v) (hb:∀a∈cells,AC.wf aB aC a):TV.wf aB aC v:=by
 unfold DV at D;cases g
 ·simp only[aq]at D;split at D
  ·rename_i c G;simp at D;subst D;intro c' E;simp at E;subst E;exact hb _ (cd G)
  ·simp at D
 ·simp only[ai]at D;cases I:Nat.ble (off+sz) cells.length<;>rw[I]at D
  ·simp at D
  ·simp at D;subst D;intro c G;exact hb c (dp (dx G))
theorem Z2z {a L:TV} (D:a.hasOwn=false) (I:a.res aC=some L):a=L:=by
 have M:∀(cs E:List AC),cs.any AC.isOwn=false->F5 aC cs=some E->cs=E:=by
  intro cs;induction cs with
  |nil=>intro E _ h;simp[F5]at h;rw[h]
  |cons b cs N=>
   intro E D h;simp only[List.any_cons,Bool.or_eq_false_iff]at D;simp only[F5]at h;split at h
   ·rename_i b' G;split at h
    ·rename_i S J;simp at h;subst h;rw[N _ D.2 J];have O:=D.1;cases b<;>simp only[AC.res]at G<;>first|(simp at G;done)|(simp[AC.isOwn]at O;done)|(simp at G;subst G;rfl)
    ·simp at h
   ·simp at h
 cases a with
 |vD=>simp[TV.res]at I
 |tup=>simp[TV.res]at I
 |v g cs=>
  simp only[TV.res]at I;split at I
  ·rename_i l h;simp at I;subst I;rw[M _ _ D h]
  ·simp at I
theorem Zhn {t e:TypeId} {i:TypeInfo} {z:Value} (D:P.underlying t=some (.slice e)) (E:P.info? e=some i) (G:i.zero=some z) {kl kc:IntKind} {n:Nat} (hb:n*i.bytes<=140737488355328) (I:n<=140737488355328):
  ∃(w':World) (arr:Array Value),(Instr.makeSlice t (.int kl (n:Int)) (.int kc (n:Int))).run P w= .ok (.slice (some ⟨w.heap.size,0,none⟩) n n) w'/\w'=w.alloc (.cells arr e)/\
   arr.toList=(List.range (n*i.size)).map λj=>z.cells[j%z.cells.size]! :=by
 have e1:((n*i.bytes:Nat):Int)=(n:Int)*(i.bytes:Int):=dg _ _;have e2:(i.bytes:Int)*(n:Int)<=281474976710656:=by rw[j9];omega
 have h:=run_make w t e i z D E G kl kc (n:Int) (n:Int) (by omega) (bz _) e2 (by omega);rw[aj]at h;exact⟨_,madeCells z.cells (n*i.size),h,rfl,by simp[madeCells]⟩
theorem Qra (a4:Aj P C) (O:RelE Z tm aB aC ρ tmps w) {o:Oper} {a:Act} {p:Prim} (hp:JW P ρ w a.eval o p) (a2:Prim.wf aB aC p) (c9:Prim.isApp (some p)=false) {K:TV->St->Option R} {r:R}
  (h:Bj C o.dst p ⟨tm,aB,aC⟩ K=some r) {next:Act->World->Prop} {Q:Exit->Act->World->Prop}
  (E:∀(v:TV) (g0:List TV) (a5:List (Nat×Box)) (b2:List (Nat×Row)) (ρ':Env) (x:Value) (w':World),K v ⟨g0,a5,b2⟩=some r->RelE Z g0 a5 b2 ρ' tmps w'->TVR ρ' w' v x->TV.wf a5 b2 v->next (a.put o.dst x) w'):
  o.wp P a w next Q:=by
 cases p with
 |val v=>
  obtain⟨x,U,S⟩:=hp;exact It U (E v _ _ _ ρ x w h O S a2)
 |load g sz key off=>
  obtain⟨t,U,S,T⟩:=hp;simp only[Bj]at h;split at h
  ·rename_i b M;split at h
   ·rename_i v V;obtain⟨arr,q1,q2,q3⟩:=O.bx key b M;obtain ⟨x, X, q5⟩ := V7 (b := ρ.bx key) (o := 0) U S V q2 (λj y hj => by
     simp only[fc];rw[cell_of_row w _ j arr b.ty (0,0) q1];simpa using hj)
    rw[fc]at X;rw[X]at T;refine It T (E v _ _ _ ρ x w h O q5 ?_);have hb:=O.wb key b M;unfold DV at V;cases g
    ·simp only[aq]at V;split at V
     ·rename_i c I;simp at V;subst V;intro c' b6;simp at b6;subst b6;exact hb _ (cd I)
     ·simp at V
    ·simp only[ai]at V;cases b3:Nat.ble (off+sz) b.cells.length<;>rw[b3]at V
     ·simp at V
     ·simp at V;subst V;intro c I;exact hb c (dp (dx I))
   ·simp at h
  ·simp at h
 |store key off cs=>
  obtain⟨t,x,U,S,T⟩:=hp;simp only[Bj]at h;split at h
  ·rename_i b M;cases hb:Nat.ble (off+cs.length) b.cells.length<;>rw[hb]at h
   ·simp at h
   ·simp only[ai,Bo]at h;have hle:=bj hb;obtain⟨arr,q1,q2,q3⟩:=O.bx key b M;have hlen:=S.length;rw[hlen]at U hle;have X:=Qzv U q1 (by rw[<-dw,<-q2.length];exact hle) S.one;rw[X]at T;refine Zdi T (E .vD _ _ _ ρ undef _ h (O.store M ?_ ?_) trivial trivial)
    ·intro c I;rw[G2 _ _ _ (by rw[hlen];exact hle)]at I;simp only[ba]at I;rcases I with(I|I)|I
     ·exact O.wb key b M c (dx I)
     ·exact a2.2 c I
     ·exact O.wb key b M c (dp I)
    ·exact q2.splice off S
  ·simp at h
 |new ty cs=>
  obtain⟨arr,U,S⟩:=hp;simp only[Bj]at h;split at h
  ·rename_i d hd;split at h
   ·simp at h
   ·rename_i hn;simp only[Bo]at h;refine It S (E _ _ _ _ _ _ _ h (O.new hn a2 U) ?_ ?_)
    ·refine TVR.c' ?_;simp only[CC,B3]
    ·intro c I;simp at I;subst I;exact⟨_,Fy _ _ _ hn⟩
  ·simp at h
 |newS ty n cs=>
  obtain⟨arr,U,S⟩:=hp;simp only[Bj]at h;split at h
  ·rename_i d hd;split at h
   ·simp at h
   ·rename_i hn;simp only[Bo]at h;refine It S (E _ _ _ _ _ _ _ h (O.new hn a2 U) ?_ ?_)
    ·refine TVR.c' ?_;simp only[CC,B3]
    ·intro c I;simp at I;subst I;exact⟨_,Fy _ _ _ hn⟩
  ·simp at h
 |rload g sz id idx sub=>
  obtain⟨t,b,U,S,hb,T⟩:=hp;obtain⟨D,N,a3⟩:=a2;simp only[Bj,N]at h;split at h
  ·rename_i v V;obtain⟨q1,q2,_,xs,q3,X⟩:=O.ro id D N;have a7:D.l[idx]? =some D.l[idx]:=ag a3;have g1:=X.2.2 idx _ a7;have hf:D.f idx=D.l[idx]:=by
    show AV D.ks (nth [] D.l idx)=_;rw[B5,List.getD,a7];exact X.2.1 _ (bf a3)
   have i5:Sd w b (Ib (ρ.rv id)+idx*D.w) (cut xs (idx*D.w) D.w):=by
    intro j y hj;simp only[cut,fq]at hj;split at hj
    ·rw[dy]at hj;have:=Rt q3 hb (idx*D.w+j) y hj;rw[<-dm]at this;exact this
    ·simp at hj
   rw[hf]at V;obtain⟨x,q5,q6⟩:=V7 (b:=b) (o:=Ib (ρ.rv id)+idx*D.w) (ρ:=ρ) U S V (g1.mono λ_ _ _ hh=>Kc hh) i5;rw[<-q2,dm]at q5;rw[q5]at T;exact It T (E v _ _ _ ρ x w h O q6 (Zja V (Zpq g1)))
  ·simp at h
 |rstore id idx sub cs=>
  obtain⟨t,x,b,U,S,hb,T⟩:=hp;obtain⟨D,N,a3⟩:=a2;simp only[Bj,N]at h;cases I:(Nat.ble (sub+cs.length) D.w&&Al AC.plain cs)<;>rw[I]at h
  ·simp at h
  ·simp only[ai]at h;split at h
   ·rename_i c d2;simp only[Bo]at h;simp only[ak]at I;have hle:=bj I.1;obtain⟨q1,q2,_,xs,q3,X⟩:=O.ro id D N;have a7:D.l[idx]? =some D.l[idx]:=ag a3;have hf:D.f idx=D.l[idx]:=by
     show AV D.ks (nth [] D.l idx)=_;rw[B5,List.getD,a7];exact X.2.1 _ (bf a3)
    rw[hf]at d2;rcases q3.2 with⟨e1,e2⟩|⟨g',Y,cap,cur,e1,e3,e4,e5,e6,e7⟩
    ·have:idx<D.n:=a3;omega
    ·have j3:b=g':=by rw[e1]at hb;simp[Value.ownBlock]at hb;exact hb.symm
     subst j3;have hlen:=S.length;have b9:=X.1;have hbound:idx*D.w+sub+cs.length<=D.n*D.w:=by
      have:idx*D.w+D.w<=D.n*D.w:=by
       calc idx*D.w+D.w=(idx+1)*D.w:=by rw[dh,gy]
        _<=D.n*D.w:=bt _ a3
      omega
     have j4:D.n*D.w<=cap*D.w:=bt _ e4;rw[q2]at T;rw[hlen]at U hle hbound;have g2:Ib (ρ.rv id)=Y:=by rw[e1];rfl
     rw[g2]at T;have q5:=Qzv (off:=Y+(idx*D.w+sub)) U e3 (by omega) S.one;rw[q5]at T;have c0:Y+cap*D.w<=cur.toList.length:=by rw[dw];exact e6
     have j5:(splice cur.toList (Y+(idx*D.w+sub)) x.cells.toList).drop Y=splice (cur.toList.drop Y) (idx*D.w+sub) x.cells.toList:=by
      rw[G2 _ _ _ (by omega),G2 _ _ _ (by rw[bq];omega),dk,gz (by rw[dl];omega),List.drop_take,show Y+(idx*D.w+sub)-Y=idx*D.w+sub from by omega,jk,dk];congr 2;rw[dm]
     have j6:((splice cur.toList (Y+(idx*D.w+sub)) x.cells.toList).drop Y).take (D.n*D.w)=splice xs (idx*D.w+sub) x.cells.toList:=by
      rw[j5];have k0:cap*D.w<=(cur.toList.drop Y).length:=by rw[bq];omega
      generalize cur.toList.drop Y=L at e7 k0⊢;rw[G2 _ _ _ (by omega),G2 _ _ _ (by rw[b9];exact hbound),<-e7];apply i8;intro j;simp only[fq,ie,dl,an,dy];by_cases hj:j<D.n*D.w
      ·rw[aa hj];by_cases j1:j<idx*D.w+sub
       ·rw[aa,aa,aa,aa,aa,aa,aa hj]
       ·by_cases j2:j<idx*D.w+sub+x.cells.toList.length
        ·rw[aa,ab,aa,ab];congr 1;omega
        ·rw[ab,ab,aa];congr 1;omega
      ·rw[ab hj,ab,ab]
     have k6: ¬ρ.im b:=λhi=>(O.ib b hi).2.2 id D N hb;have hold:∀k,k≠b->(w.setRow b (splice cur.toList (Y+(idx*D.w+sub)) x.cells.toList).toArray).heap[k]? =w.heap[k]? :=λk M=>setRow_other w b k _ M;have c4:∀(a:AC) (y:Value),CP ρ.im w a y->CP ρ.im (w.setRow b (splice cur.toList (Y+(idx*D.w+sub)) x.cells.toList).toArray) a y:=λa y hh=>CP.mono (λ_ h=>h) (λk M=>hold k (λe=>k6 (e▸M))) a y hh;have d3:CL (CP ρ.im w) c (splice (cut xs (idx*D.w) D.w) sub x.cells.toList)/\AV D.ks c=c:=
      S0 d2 (((X.2.2 idx _ a7).mono λ_ _ _ hh=>Kc hh).splice sub S)
     have a1:=O.turnRow (id:=id) N (r':=⟨D.ty,D.ks,D.l.set idx c⟩) (v':=ρ.rv id)
      (xs:=splice xs (idx*D.w+sub) x.cells.toList) (w':=w.setRow b (splice cur.toList (Y+(idx*D.w+sub)) x.cells.toList).toArray)
      ⟨rfl,rfl,rfl,by simp,λk _ M=>hold k (λe=>M (by rw[e,hb]))⟩ rfl
      ⟨by simp only[Row.n,Row.w,je];rw[Ml];exact b9, .inr ⟨b,Y,cap,_,by simp only[Row.n,je];exact e1,setRow_heap w b cur _ D.ty _ e3,by simp only[Row.n,je];exact e4,e5,by simp only[List.size_toArray];rw[Ml];exact c0,by simp only[Row.n,je];exact j6⟩⟩
      ⟨by simp only[je];rw[Ml];exact b9,λc' b6=>by
       rcases d6 b6 with b6|rfl
       ·exact X.2.1 c' b6
       ·exact d3.2,λi c' hi=>by
       simp only[jg]at hi;by_cases e8:idx=i
       ·subst e8;rw[aa rfl,aa a3]at hi;simp at hi;subst hi;have e:=Z4j xs x.cells.toList idx D.w sub D.n a3 b9 (by omega);show CL _ c (cut _ (idx*D.w) D.w);rw[e];exact d3.1.mono λa _ y hh=>c4 a y hh
       ·rw[ab e8]at hi;have l3:i<D.n:=(fx.1 hi).1;have e:=Zm4 xs x.cells.toList idx i D.w sub D.n a3 (λe=>e8 e.symm) b9 (by omega);show CL _ c' (cut _ (i*D.w) D.w);rw[e];exact(X.2.2 i c' hi).mono λa _ y hh=>c4 a y hh⟩
      (.inl rfl) (.inl ⟨rfl,by simp[Row.n]⟩)
     exact Zdi T (E .vD _ _ _ _ undef _ h a1 trivial trivial)
   ·simp at h
 |newRow el ks l=>
  obtain⟨arr,U,S,T,h4⟩:=hp;simp only[Bj]at h;split at h
  ·rename_i d hd;split at h
   ·simp at h
   ·rename_i hn;simp only[Bo]at h;have hb:Below w.heap.size w (w.alloc (.cells arr el)):=(Below.refl _ _).alloc (cx _) _;have J:RowC ρ.im (w.alloc (.cells arr el)) ks l arr.toList:=T.mono (λ_ h=>h) (λb G=>Below.heap_alloc w _ b (O.ib b G).1);have a8:=O.addRow (d:=C.rowAs d) hn (r:=⟨el,ks,l⟩) (v':= .slice (some ⟨w.heap.size,0,none⟩) l.length l.length) (xs:=arr.toList) (w':=w.alloc (.cells arr el)) hb U
     ⟨T.1, .inr ⟨w.heap.size,0,l.length,arr,rfl,heap_alloc_new w _,cx _,S,by rw[<-dw,fc];exact Nat.le_of_eq T.1.symm,by
      show List.take (l.length*ks.length) _=_;rw[<-T.1,f9,gh]⟩⟩ J
     (λg hg=>by simp[Value.ownBlock]at hg;omega)
    refine It h4 (E _ _ _ _ _ _ _ h a8 ?_ ?_)
    ·exact TVR.c' ⟨by simp only[B3],by simp only[B3], .inr ⟨_,_,_,rfl⟩⟩
    ·intro c I;simp at I;subst I;exact⟨_,Fy _ _ _ hn,rfl,rfl⟩
  ·simp at h
 |newView el ks l=>
  obtain⟨arr,U,S,T,h4⟩:=hp;simp only[Bj]at h;have hb:Below w.heap.size w (w.alloc (.cells arr el)):=(Below.refl _ _).alloc (cx _) _;have J:RowC ρ.im (w.alloc (.cells arr el)) ks l arr.toList:=T.mono (λ_ h=>h) (λb G=>Below.heap_alloc w _ b (O.ib b G).1);have hg:=O.growIm (im':=λb=>ρ.im b\/b=w.heap.size) hb (λb h=> .inl h) (λb h=>h.imp id λe=>by subst e;exact⟨cx _,P_ (heap_alloc_new w _)⟩);refine It h4 (E _ _ _ _ _ _ _ h hg ?_ ?_)
  ·refine TVR.c' ?_;have c5:E9 (w.alloc (.cells arr el)) el ks.length (.slice (some ⟨w.heap.size,0,none⟩) l.length l.length) l.length arr.toList:=
    ⟨T.1, .inr ⟨w.heap.size,0,l.length,arr,rfl,heap_alloc_new w _,cx _,S,by rw[<-dw,fc];exact Nat.le_of_eq T.1.symm,by rw[f9,<-T.1,gh]⟩⟩
   exact Kc (ZP c5 (J.mono (λ_ h=> .inl h) (λ_ _=>rfl)) (λg hg=> .inr (by simp[Value.ownBlock]at hg;exact hg.symm)))
  ·intro c I;simp at I;subst I;trivial
 |make el ks bytes n z=>
  obtain⟨t,i,zv,kl,kc,U,S,T,h4,h5,h6,h7,h8,h9,g3⟩:=hp;subst h5;simp only[Bj]at h;split at h
  ·rename_i d hd;split at h
   ·simp at h
   ·rename_i hn;cases I:(decide (0<=n)&&decide (n*(i.bytes:Int)<=140737488355328))<;>rw[I]at h
    ·simp at h
    ·simp only[ai,Bo]at h;simp only[ak,cz]at I;have g4:((n.toNat:Nat):Int)=n:=Int.toNat_of_nonneg I.1;have g5:zv.cells.toList.length=ks.length:=by
      rw[<-h9.length,<-h8];exact Rq _ _
     have k7:n.toNat*i.bytes<=140737488355328:=by
      have S:=I.2;rw[<-g4]at S;have e1:((n.toNat*i.bytes:Nat):Int)=(n.toNat:Int)*(i.bytes:Int):=dg _ _;omega
     have l4:n.toNat<=n.toNat*i.bytes:=jt _ h7;obtain⟨w',arr,p1,p2,p3⟩:=Zhn (P:=P) (w:=w) (t:=t) (e:=el) (i:=i) (z:=zv) U S T (kl:=kl) (kc:=kc) (n:=n.toNat) k7 (by omega);rw[g4]at p1;rw[p1]at g3;subst p2;have d0:zv.cells.size=ks.length:=by rw[<-dw];exact g5
     have b4:arr.toList.length=n.toNat*ks.length:=by rw[p3,h4,d0];simp[d0]
     have g6:∀j,j<n.toNat->cut arr.toList (j*ks.length) ks.length=zv.cells.toList:=by
      intro j hj;have hle:j*ks.length+ks.length<=n.toNat*ks.length:=by
       calc j*ks.length+ks.length=(j+1)*ks.length:=by rw[dh,gy]
        _<=n.toNat*ks.length:=bt _ hj
      apply i8;intro q;simp only[cut,fq,dy];by_cases hq:q<ks.length
      ·rw[aa hq,p3,h4,d0];rw[d7,List.getElem?_range (by omega)];simp only[js];rw[show(j*ks.length+q)%ks.length=q from by rw[ff,Nat.mul_add_mod];exact Nat.mod_eq_of_lt hq];have:q<zv.cells.size:=by rw[d0];exact hq
       rw[getElem!_pos zv.cells q this,Array.getElem?_toList,jm this]
      ·rw[ab hq,df (by rw[g5];omega)]
     have hb:Below w.heap.size w (w.alloc (.cells arr el)):=(Below.refl _ _).alloc (cx _) _;have e9:RowC ρ.im w ks (List.replicate n.toNat z) arr.toList:=by
      refine⟨by rw[b4];simp,λc I=> ?_,λj c hj=> ?_⟩
      ·rw[List.mem_replicate]at I;rw[I.2];exact h8
      ·rw[List.getElem?_replicate]at hj;split at hj
       ·rename_i k8;simp at hj;subst hj;rw[g6 j k8];exact h9
       ·simp at hj
     have J:RowC ρ.im (w.alloc (.cells arr el)) ks (List.replicate n.toNat z) arr.toList:=e9.mono (λ_ h=>h) (λb G=>Below.heap_alloc w _ b (O.ib b G).1);have c6:(List.replicate n.toNat z).length=n.toNat:=by simp
     have a8:=O.addRow (d:=d) hn (r:=⟨el,ks,List.replicate n.toNat z⟩) (v':= .slice (some ⟨w.heap.size,0,none⟩) n.toNat n.toNat) (xs:=arr.toList) (w':=w.alloc (.cells arr el)) hb h6
      ⟨by simp only[Row.n,Row.w,c6];exact b4, .inr ⟨w.heap.size,0,n.toNat,arr,by simp only[Row.n,c6],heap_alloc_new w _,by simp only[Row.n,c6];exact cx _,by simp only[maxLen];omega,by rw[<-dw,fc];exact Nat.le_of_eq b4.symm,by
       simp only[Row.n,c6];show List.take (n.toNat*ks.length) _=_;rw[<-b4,f9,gh]⟩⟩ J
      (λg hg=>by simp[Value.ownBlock]at hg;omega)
     refine It g3 (E _ _ _ _ _ _ _ h a8 ?_ ?_)
     ·exact TVR.c' ⟨by simp only[B3],by simp only[B3], .inr ⟨_,_,_,by rw[c6]⟩⟩
     ·intro c I;simp at I;subst I;exact⟨_,Fy _ _ _ hn,by simp[Row.n],rfl⟩
  ·simp at h
 |cutR id a=>
  simp only[Bj]at h;split at h
  ·rename_i D N;have hle:Nat.ble a D.l.length=true:=by
    cases hb:Nat.ble a D.l.length
    ·rw[hb]at h;simp at h
    ·rfl
   rw[hle]at h;simp only[ai]at h;have hle:a<=D.n:=bj hle;simp only[Bo]at h;obtain⟨q1,q2,_,xs,q3,X⟩:=O.ro id D N;have hlen:(D.l.drop a).length=D.n-a:=by simp[Row.n]
   have key : ∃ ad cap, ρ.rv id = .slice ad D.n cap /\ D.n <= cap /\ (let v' : Value := .slice (if cap = a then ad else ad.map (·.add (a * ρ.wd id))) (D.n - a) (cap - a)
     v'.ownBlock=(ρ.rv id).ownBlock/\E9 w D.ty D.w v' (D.n-a) (xs.drop (a*D.w))/\((v'= .slice none 0 0/\D.n-a=0)\/∃g o c,v'= .slice (some ⟨g,o,none⟩) (D.n-a) c)):=by
    have d1:(xs.drop (a*D.w)).length=(D.n-a)*D.w:=by rw[bq,q3.1,Nat.sub_mul]
    rcases q3.2 with⟨e1,e2⟩|⟨g,Y,cap,cur,e1,e3,e4,e5,e6,e7⟩
    ·refine⟨none,0,by rw[e1,e2],by omega,?_⟩;have ha:a=0:=by omega
     subst ha;rw[e1,e2];refine⟨rfl,⟨by simpa [e2]using d1, .inl ⟨rfl,rfl⟩⟩, .inl ⟨rfl,rfl⟩⟩
    ·refine⟨_,cap,e1,e4,?_⟩;rw[e1,q2];by_cases g7:cap=a
     ·have c9:D.n=a:=by omega
      simp only[g7,dv];refine⟨rfl,⟨d1, .inr ⟨g,Y,a-a,cur,rfl,e3,by omega,by omega,by simp;omega,?_⟩⟩, .inr ⟨g,Y,_,rfl⟩⟩;rw[c9,jq,jd,List.take_zero];symm;apply f7;rw[d1,c9,jq,jd]
     ·simp only[g7,iv,js,Addr.add_lit];refine⟨rfl,⟨d1, .inr ⟨g,Y+a*D.w,cap-a,cur,rfl,e3,by omega,by omega,?_,?_⟩⟩, .inr ⟨g,Y+a*D.w,_,rfl⟩⟩
      ·rw[Nat.sub_mul];have:a*D.w<=cap*D.w:=bt _ (by omega);omega
      ·rw[<-e7,List.drop_take,jk,<-Nat.sub_mul]
   obtain⟨ad,cap,k1,k2,k3,k4,k5⟩:=key;have g8:=hp ad D.n cap k1 k2 hle;have f0:=O.kill id;have J:RowC ρ.im w D.ks (D.l.drop a) (xs.drop (a*D.w)):=by
    refine⟨by rw[bq,q3.1,bq,<-Nat.sub_mul],λc I=>X.2.1 c (dp I),λi c hi=> ?_⟩;rw[dy]at hi;have:=X.2.2 (a+i) c hi;have e:cut (xs.drop (a*D.w)) (i*D.ks.length) D.ks.length=cut xs ((a+i)*D.ks.length) D.ks.length:=by
     simp only[cut,jk,dh]
    rw[e];exact this
   have a1:=f0.turnRow (id:=id) N (r':=⟨D.ty,D.ks,D.l.drop a⟩) (v':=_) (xs:=xs.drop (a*D.w)) (w':=w) ⟨rfl,rfl,rfl,cx _,λ_ _ _=>rfl⟩ rfl (by simp only[Row.n,hlen];exact k4) J (.inl k3)
    (.inr ⟨λv V=>by
     simp only[bc]at V;obtain⟨u,_,rfl⟩:=V;exact TV.kill_free id u,λk b M a' a9=>by
     rw[GU]at M;cases hl:Ac aB k with
     |none=>rw[hl]at M;simp at M
     |some b'=>
      rw[hl]at M;simp at M;subst M;simp only[Box.kill,bc]at a9;obtain⟨u,_,rfl⟩:=a9;exact AC.kill_free id u⟩)
   refine It g8 (E _ _ _ _ _ _ _ h a1 ?_ ?_)
   ·refine TVR.c' ⟨by simp only[B3],by simpa using q2,?_⟩;rw[hlen];exact k5
   ·intro c I;simp at I;subst I;exact⟨_,Fm _ _ _ _ N,by simp[Row.n],rfl⟩
  ·simp at h
 |append e ks bytes s x=>
  obtain⟨t,ty,i,z,sv,xv,U,S,T,h4,h5,h6,h7,h8,h9⟩:=hp;subst h5;simp only[Bj]at h;split at h
  ·rename_i m g9;obtain⟨ad,c,news,rfl,J,c7⟩:=Zgy O g9 h8;split at h
   ·
    split at h
    ·rename_i d hd;split at h
     ·simp at h
     ·rename_i hn;cases hb:(Nat.ble 1 ks.length&&Nat.ble 1 i.bytes)<;>rw[hb]at h
      ·simp at h
      ·simp only[ai]at h;simp only[ak]at hb;have l5:=bj hb.1;have k9:=bj hb.2;cases b3:Nat.ble (m.length*i.bytes) 140737488355328<;>rw[b3]at h
       ·simp at h
       ·simp only[ai,Bo]at h;have hbound:=bj b3;have hm:m.length<=m.length*i.bytes:=jt _ (by omega);simp only[CC,CP]at h7;subst h7;obtain⟨v',w',q1,q2,q3,X⟩:=Q0k (P:=P) (ty:=ty) (c:=c) U S T h4 h6 (by omega) (Yn w e ks.length) J.1 c7 (J.one (by omega)) (by simp only[maxLen];omega) (by simpa using hbound);rw[q1]at h9;simp only[fc,az]at q2;have b0:Below w.heap.size w w':=⟨q3.os,q3.tape,q3.output,q3.size,λk M=>q3.block k M (by simp[Value.ownBlock])⟩;have a8:=O.addRow (d:=d) hn (r:=⟨e,ks,m⟩) (v':=v') (xs:=news) (w':=w') b0 (by show 0<ks.length;omega) q2
         (J.mono (λ_ h => h) (λb G => b0.block b (O.ib b G).1)) (λg' b5 => by
          rcases X with X|X
          ·rw[X]at b5;simp[Value.ownBlock]at b5
          ·rw[X]at b5;simp at b5;omega)
        refine It h9 (E _ _ _ _ _ _ _ h a8 ?_ ?_)
        ·refine TVR.c' ⟨by simp only[B3],by simp only[B3],?_⟩;rcases q2.2 with⟨e1,e2⟩|⟨g',Y,cap,cur,e1,_⟩
         ·exact .inl ⟨e1,e2⟩
         ·exact .inr ⟨g',Y,cap,e1⟩
        ·intro c I;simp at I;subst I;exact⟨_,Fy _ _ _ hn,rfl,rfl⟩
    ·simp at h
   ·
    rename_i id w1 n1;split at h
    ·rename_i D N;cases hb:(Dy ks D.ks&&Nat.beq D.ty e&&Nat.ble 1 i.bytes)<;>rw[hb]at h
     ·simp at h
     ·simp only[ai]at h;simp only[ak]at hb;have e1:=Kh hb.1.1;have e2:=af hb.1.2;have k9:=bj hb.2;subst e1 e2;cases b3:Nat.ble ((D.l++m).length*i.bytes) 140737488355328<;>rw[b3]at h
      ·simp at h
      ·simp only[ai,Bo]at h;have hbound:=bj b3;rw[an]at hbound;have hm:D.l.length+m.length<=(D.l.length+m.length)*i.bytes:=jt _ (by omega);obtain⟨q1,q2,_,xs,q3,X⟩:=O.ro id D N;obtain⟨c1,c2,c3⟩:=h7;subst c1;obtain⟨v',w',p1,p2,p3,p4⟩:=Q0k (P:=P) (ty:=ty) (c:=c) U S T h4 h6 q1 q3 J.1 c7 (J.one q1) (by simp only[maxLen,Row.n];omega) hbound;rw[p1]at h9;have f0:=O.kill id;have h0:∀b,ρ.im b->w'.heap[b]? =w.heap[b]? :=λb G=>p3.block b (O.ib b G).1 (λe=>(O.ib b G).2.2 id D N e.symm);have i0:=(X.append J).mono (λ_ h=>h) h0;have a1:=f0.turnRow (id:=id) N (r':=⟨D.ty,D.ks,D.l++m⟩) (v':=v') (xs:=xs++news) (w':=w') p3 rfl (by simpa [Row.n]using p2) i0
        (Rl p4 (λx=>x) (λx g' b5=>by rw[x]at b5;simp at b5;omega))
        (.inr ⟨λv V=>by
         simp only[bc]at V;obtain⟨u,_,rfl⟩:=V;exact TV.kill_free id u,λk b M a' a9=>by
         rw[GU]at M;cases hl:Ac aB k with
         |none=>rw[hl]at M;simp at M
         |some b'=>
          rw[hl]at M;simp at M;subst M;simp only[Box.kill,bc]at a9;obtain⟨u,_,rfl⟩:=a9;exact AC.kill_free id u⟩)
       refine It h9 (E _ _ _ _ _ _ _ h a1 ?_ ?_)
       ·refine TVR.c' ⟨by simp only[B3],by simpa using q2,?_⟩;rcases p2.2 with⟨e1,e2⟩|⟨g',Y,cap,cur,e1,_⟩
        ·exact .inl ⟨e1,by simpa [Row.n]using e2⟩
        ·exact .inr ⟨g',Y,cap,by simpa [Row.n]using e1⟩
       ·intro c I;simp at I;subst I;exact⟨_,Fm _ _ _ _ N,by simp[Row.n],rfl⟩
    ·simp at h
   ·simp at h
  ·simp at h
 |call f args=>
  obtain⟨xs,U,S,T⟩:=hp;simp only[Bj]at h;split at h
  ·rename_i g hg;split at h
   ·rename_i as has;obtain⟨b4,f1⟩:=Qut has;have l0:=a4.1 f g hg;obtain⟨v,mem',V,l1⟩:=l0.run h;split at V
    ·cases b7:((!(args.any TV.hasOwn)||v.flat)&&v.plainB)<;>rw[b7]at V
     ·simp at V
     ·simp only[ai]at V;simp only[ak]at b7
      let c8:Nat->Prop:=λb=>ρ.im b\/(args.any TV.hasOwn=true/\∃id D,Ac aC id=some D/\(ρ.rv id).ownBlock=some b)
      have i1:∀b,c8 b->b<w.heap.size:=by
       rintro b (G|⟨_,id,D,N,G⟩)
       ·exact(O.ib b G).1
       ·exact(O.rwlt N G).2
      have c5:∀(i:Nat) (a0:TV),args[i]? =some a0->args.any TV.hasOwn=false->a0.hasOwn=false:=by
       intro i a0 b8 f2;cases hh:a0.hasOwn
       ·rfl
       ·exact absurd (List.any_eq_true.2 ⟨a0,cd b8,hh⟩) (by rw[f2];simp)
      have i2:∀(i:Nat) (a':TV) (x:Value),as[i]? =some a'->xs[i]? =some x->TVR {ρ with im:=c8} w a' x:=by
       intro i a' x a9 hx;obtain⟨_,a0,b8,N⟩:=f1 i a' a9;have d4:∀(a:AC) (y:Value),CP ρ.im w a y->CP c8 w a y:=λa y hh=>CP.mono (λ_ h=> .inl h) (λ_ _=>rfl) a y hh;cases b1:args.any TV.hasOwn
       ·have f2:=c5 i a0 b8 b1;have l2:a0=a':=Z2z f2 N;subst l2;exact Q7k (f1 i a0 a9).1 (λa y _ hh=>d4 a y hh) (S i a0 x b8 hx)
       ·refine Zik (aB:=aB) ?_ N (a2 a0 (cd b8)) (S i a0 x b8 hx);intro b b' y G hy l6;cases b<;>simp only[AC.res]at G<;>try (simp at G;done)
        case own id w1 n1=>
         split at G
         ·rename_i D d5;simp at G;subst G;obtain⟨q1,q2,_,ys,q3,X⟩:=O.ro id D d5;obtain⟨c1,c2,c3⟩:=hy;subst c1;exact ZP q3 (X.mono (λ_ h=> .inl h) (λ_ _=>rfl)) (λg hg=> .inr ⟨b1,id,D,d5,hg⟩)
         ·simp at G
        all_goals
         simp at G;subst G;exact d4 _ _ hy
      have f3:RelE (FM (λb=>b<w.heap.size) w {ρ with im:=c8} []) as [] [] {ρ with im:=c8} xs.toArray w:=by
       refine⟨by simp[b4,U],λi a hi=> ?_,λa ha=> ?_,λk b M=>by simp[Ac]at M,λk b M=>by simp[Ac]at M,λk k' b b' M=>by simp[Ac]at M,λid r hr=>by simp[Ac]at hr,
        λid id' r r' g hr=>by simp[Ac]at hr,λk b id r M=>by simp[Ac]at M,λb hb=>⟨i1 b hb,λk bo M=>by simp[Ac]at M,λid r hr=>by simp[Ac]at hr⟩,Fr.refl _ _,λ_ h=>h,λ_ h=>h,λb h=> .inl h,λk b M=>by simp[FM,Ac]at M⟩
       ·have i3:i<xs.length:=by rw[U,<-b4];exact(fx.1 hi).1
        have e:xs.toArray.getD i undef=xs[i]:=by simp[Array.getD,i3]
        rw[e];exact i2 i a _ hi (ag i3)
       ·obtain⟨i,hi⟩:=List.getElem?_of_mem ha;exact K1 (f1 i a hi).1
      refine U2 T ((l1 _ w _ xs f3).mono ?_);rintro e w' ⟨x,ρ',he,a6⟩;have b0:Below w.heap.size w w':=⟨a6.fr.os,a6.fr.tape,a6.fr.output,a6.fr.size,λk M=>a6.fr.block k M⟩;have i4:TVR ρ' w' v x:=by simpa using a6.tv 0 v rfl
      by_cases b1:args.any TV.hasOwn=true
      ·have f4:v.flat=true:=by have:=b7.1;rw[b1]at this;simpa using this
       have f5:RelE Z tm aB aC ρ tmps w':=O.growIm (im':=ρ.im) b0 (λ_ h=>h) (λ_ h=> .inl h);exact⟨x,he,E v _ _ _ ρ x w' V f5 (Zug f4 i4) (K1 b7.2)⟩
      ·have f5 : RelE Z tm aB aC { ρ with im := ρ'.im } tmps w' := O.growIm b0 (λb hb => a6.i0 b (.inl hb)) (λb hb => by
        rcases a6.i1 b hb with G|G
        ·rcases G with G|⟨G,_⟩
         ·exact .inl G
         ·exact absurd G b1
        ·exact .inr ⟨Nat.not_lt.1 G,(a6.ib b hb).1⟩)
       exact⟨x,he,E v _ _ _ _ x w' V f5 (Q7k (ρ:=ρ') (ρ2:={ρ with im:=ρ'.im}) b7.2 (λ_ _ _ h=>h) i4) (K1 b7.2)⟩
    ·simp at V
   ·simp at h
  ·simp at h
 |callM f args=>
  obtain⟨xs,U,S,T⟩:=hp;exact Zrc a4 O U S T a2 h E
 |callD f args=>
  obtain⟨xs,U,S,T⟩:=hp;exact Zlq a4 O U S T a2 h E
 |callF f args=>
  obtain⟨xs,U,S,T⟩:=hp;exact Yah a4 O U S T a2 h E
 |appD e ks bytes s x=>simp[Prim.isApp]at c9
theorem Zqt (G:Aj P C) (S:RelE Z tm aB aC ρ tmps w) {o:Oper} {a:Act} {p:Prim} (T:JW P ρ w a.eval o p) (L:Prim.wf aB aC p) {K:TV->St->Option R} {r:R}
  (h:Bj C o.dst p ⟨tm,aB,aC⟩ K=some r) {next:Act->World->Prop} {Q:Exit->Act->World->Prop}
  (I:∀(v:TV) (M:List TV) (D:List (Nat×Box)) (E:List (Nat×Row)) (O:Env) (x:Value) (w':World),K v ⟨M,D,E⟩=some r->RelE Z M D E O tmps w'->TVR O w' v x->TV.wf D E v->next (a.put o.dst x) w'):
  o.wp P a w next Q:=by
 cases N:Prim.isApp (some p)
 ·exact Qra G S T L N h I
 ·cases p<;>simp[Prim.isApp]at N
  rename_i e ks bytes s x;by_cases J:s= .nilSl
  ·subst J;simp only[Bj]at h;split at h
   ·rename_i m hm;split at h
    ·rename_i d hd;have h':Bj C o.dst (.append e ks bytes .nilSl x) ⟨tm,aB,aC⟩ (λv s=>K v ⟨s.tmps.map (TV.kill d),s.aB.map λp=>(p.1,p.2.kill d),s.aC⟩)=some r:=by
      simp only[Bj,hm,hd];split at h
      ·simp at h
      ·rename_i hn;simp only[Bo]at h⊢;exact h
     refine Qra G S (p:= .append e ks bytes .nilSl x) T L rfl h' ?_;intro v M D E O y w' hK U hv V;refine I _ _ _ _ O y w' hK (U.kill d) hv ?_;have X:∀k,Ac (D.map λp=>(p.1,p.2.kill d)) k=(Ac D k).map (Box.kill d):=λk=>GU (Box.kill d) D k;exact TV.wf_mono (λa=>AC.wf_mono (λk b Y=>⟨b.kill d,by rw[X,Y];rfl⟩) (λk r Y=>⟨r,Y,rfl,rfl⟩)) V
    ·simp at h
   ·simp at h
  ·have h':Bj C o.dst (.append e ks bytes s x) ⟨tm,aB,aC⟩ K=some r:=by
    simp only[Bj]at h⊢;split at h
    ·split at h
     ·exact h
     ·exact absurd rfl J
     ·simp at h
    ·simp at h
   exact Qra G S (p:= .append e ks bytes s x) T L rfl h' I
end
open Go.RowKit
section
variable {P:Program} {C:Cfg} {R:Type}
theorem Qet (op:BinOp) (k:IntKind) (a b:Int) (K:AC->Option R):G7 op k a b K=(G7 op k a b some).bind K:=by
 cases op<;>simp only[G7,ah]
 all_goals first|(cases decide (b=0)<;>rfl)|(cases decide (b<0)<;>rfl)
theorem OZ {i:Int}:∀(n k:Nat) {R S:Type} (f:Nat->Option R) (K:R->Option S),Hj i n k (λj=>(f j).bind K)=(Hj i n k f).bind K
 |0,k,_,_,f,K=>rfl
 |n+1,k,_,_,f,K=>by
  simp only[Hj];rw[OZ n (k+1) f K];cases decide (i=(k:Int))<;>rfl
theorem Qat (g:Int->Int->Int) (k:IntKind):∀(l:List TV) (a:Int) (K:Prim->Option R),GI g k a l K=(GI g k a l some).bind K
 |[],a,K=>by simp[GI]
 |t::l,a,K=>by
  unfold GI;split
  ·rename_i k' b;cases kEq k k'
   ·rfl
   ·exact Qat g k l (g a b) K
  ·rfl
theorem Zwm (b:Builtin) (D:List TypeId) (args:List TV) (K:Prim->Option R):NF P b D args K=(NF P b D args some).bind K:=by
 unfold NF;split
 case h_6=>exact Qat _ _ _ _ _
 case h_7=>exact Qat _ _ _ _ _
 case h_8=>
  split
  ·split
   ·split
    ·split
     ·cases(Nat.beq _ _&&Nat.beq _ _&&Nat.beq _ _)<;>rfl
     ·rfl
    ·rfl
   ·rfl
  ·rfl
 all_goals
  repeat' split
  all_goals rfl
theorem IU (c:Bool) (p:Prim) (K:Prim->Option R):cond c (K p) none=(cond c (some p) none).bind K:=by cases c<;>rfl
theorem Ra (D:Operand->TV) (dst:Option Tmp) (o:Op) (K:Prim->Option R):opK P C D dst o K=(opK P C D dst o some).bind K:=by
 cases o
 case pick c a b=>
  simp only[opK];split
  ·rename_i g _;cases g<;>rfl
  ·rfl
 case build t parts=>
  simp only[opK];split
  ·cases(Al _ _)
   ·rfl
   ·simp only[ai];split<;>rfl
  ·split
   ·split<;>rfl
   ·rfl
  ·rfl
 case buildSlice t n parts=>
  simp only[opK];split
  ·split
   ·cases(Nat.beq _ _&&Nat.beq _ _&&Nat.ble 1 _&&Nat.ble _ 65536)
    ·rfl
    ·simp only[ai];split
     ·split
      ·cases TF C dst _<;>rfl
      ·cases(Al AC.isClo _&&Nat.beq _ 1)<;>rfl
     ·rfl
   ·rfl
  ·rfl
 case makeSlice t len cap=>
  simp only[opK];split
  ·split
   ·split
    ·cases(Nat.beq _ _&&Nat.ble 1 _&&Nat.ble 1 _)
     ·rfl
     ·simp only[ai];exact IU _ _ _
    ·rfl
   ·rfl
  ·rfl
 case makeFunc G a b=>
  simp only[opK];split
  ·split<;>rfl
  ·rfl
 case store t a x=>
  simp only[opK];split
  ·cases(Nat.beq _ _)
   ·rfl
   ·simp only[ai];split<;>rfl
  ·rfl
 case binOp op t x y I=>
  simp only[opK];split
  ·cases(kEq _ _||Ob op)
   ·rfl
   ·simp only[ai];rename_i k a k' b _ _;have E:=Qet op k a b (λv=>(some (Prim.val (TV.c v)):Option Prim));rw[Qet,E];cases G7 op k a b some<;>rfl
  ·split<;>rfl
  ·split<;>rfl
  ·cases(P.eqGuardType P.depth t)
   ·simp only[aq];split<;>rfl
   ·rfl
  ·rfl
 case indexAddr t x ix=>
  simp only[opK];split
  ·split
   ·exact OZ _ _ (λj=>some _) K
   ·exact OZ _ _ (λj=>some _) K
   ·exact OZ _ _ (λj=>some _) K
   ·rfl
  ·split
   ·cases(Nat.beq _ _)
    ·rfl
    ·simp only[ai];exact IU _ _ _
   ·cases(Nat.beq _ _)
    ·rfl
    ·simp only[ai];exact IU _ _ _
   ·cases(Nat.beq _ _)
    ·rfl
    ·simp only[ai];exact OZ _ _ (λj=>some _) K
   ·rfl
  ·rfl
 case index t x ix=>
  simp only[opK];split
  ·split
   ·rename_i m _;rw[<-OZ];congr 1
    funext j
    split<;>rfl
   ·rfl
  ·rfl
 case slice t x J L mx=>
  simp only[opK];split
  ·split
   ·cases(Nat.beq _ _)
    ·rfl
    ·simp only[ai];split
     ·rfl
     ·exact IU _ _ _
     ·exact IU _ _ _
     ·exact IU _ _ _
   ·split
    ·cases(Nat.beq _ _)
     ·rfl
     ·simp only[ai];exact IU _ _ _
    ·rfl
   ·split
    ·rfl
    ·exact IU _ _ _
    ·exact IU _ _ _
    ·exact IU _ _ _
   ·rfl
  ·rfl
 case call c=>
  simp only[opK];split
  ·exact Zwm _ _ _ _
  ·cases C.pure _<;>rfl
  ·split
   ·cases(Al _ _&&Al _ _)<;>rfl
   ·rfl
  ·rfl
 all_goals
  simp only[opK]
  repeat' split
  all_goals rfl
end
open Go.RowKit
section
variable {P:Program} {C:Cfg} {R:Type} {aB:List (Nat×Box)} {aC:List (Nat×Row)}
theorem LH {α:Type} {c:Bool} {p q:α} (h:cond c (some p) none=some q):c=true/\p=q:=by cases c<;>simp at h;exact⟨rfl,h⟩
theorem S8 (k:IntKind) (n:Int):TV.wf aB aC (.c (.int k n)):=by intro a D;simp at D;subst D;trivial
theorem JD (b:Bool):TV.wf aB aC (.c (.bool b)):=by intro a D;simp at D;subst D;trivial
theorem C9 {a:AC} (h:AC.wf aB aC a):TV.wf aB aC (.c a):=by intro b hb;simp at hb;subst hb;exact h
theorem FH {a:AC} (h:TV.wf aB aC (.c a)):AC.wf aB aC a:=h a (by simp)
theorem Qy0 (v:Value):AC.wf aB aC (N_ v):=by
 unfold N_;split<;>trivial
theorem Qj6:∀(l:List Value) (cs:List AC),Jv l=some cs->∀a∈cs,AC.wf aB aC a
 |[],cs,h=>by simp[Jv]at h;subst h;intro a D;simp at D
 |v::l,cs,h=>by
  simp only[Jv]at h;cases G:v.oneCell'<;>rw[G]at h
  ·simp at h
  ·simp only[ai]at h;split at h
   ·rename_i E I;simp at h;subst h;intro a D;simp only[ao]at D;rcases D with rfl|D
    ·exact Qy0 v
    ·exact Qj6 l E I a D
   ·simp at h
theorem Ziz (v:Value):TV.wf aB aC (ofValue v):=by
 unfold ofValue;split
 ·split
  ·rename_i h;exact Qj6 _ _ h
  ·trivial
 ·trivial
 ·exact C9 (Qy0 v)
theorem Qbv {tm:List TV} (h:∀v∈tm,TV.wf aB aC v) (x:Operand):TV.wf aB aC (Bb tm x):=by
 cases x with
 |tmp t=>
  simp only[Bb,B5,List.getD];cases D:tm[t]? with
  |none=>trivial
  |some v=>exact h v (cd D)
 |const v=>exact Ziz v
 |global=>trivial
 |func=>trivial
theorem U0 {t:TypeId} {cs:List AC} (h:JT P t=some cs):∀a∈cs,AC.wf aB aC a:=by
 unfold JT at h;split at h
 ·split at h
  ·exact Qj6 _ _ h
  ·simp at h
 ·simp at h
theorem Zeu {z:List AC} (D:∀a∈z,AC.wf aB aC a):∀n,∀a∈NI z n,AC.wf aB aC a
 |0,a,h=>by simp[NI]at h
 |n+1,a,h=>by
  simp only[NI,ba]at h;rcases h with h|h
  ·exact D a h
  ·exact Zeu D n a h
theorem TV.cells_wf {v:TV} {cs:List AC} (h:v.cells=some cs) (D:TV.wf aB aC v):∀a∈cs,AC.wf aB aC a:=by
 cases v<;>simp[TV.cells]at h
 subst h;exact D
theorem VC {α:Type} {x:α}:∀(l:List α) (o:Nat) (D:List α),x∈splice l o D->x∈l\/x∈D
 |l,o,[],h=>by rw[R_]at h;exact .inl h
 |[],o,_::_,h=>by simp[splice]at h
 |y::l,0,v::D,h=>by
  simp only[splice,ao]at h;rcases h with rfl|h
  ·exact .inr (by simp)
  ·rcases VC l 0 D h with h|h
   ·exact .inl (by simp[h])
   ·exact .inr (by simp[h])
 |y::l,o+1,v::D,h=>by
  simp only[splice,ao]at h;rcases h with rfl|h
  ·exact .inl (by simp)
  ·rcases VC l o (v::D) h with h|h
   ·exact .inl (by simp[h])
   ·exact .inr h
theorem VY {place:Nat->Option (Nat×Nat)}:∀(parts:List (Nat×TV)) (z cs:List AC),Jr place z parts=some cs->(∀a∈z,AC.wf aB aC a)->(∀p∈parts,TV.wf aB aC p.2)->∀a∈cs,AC.wf aB aC a
 |[],z,cs,h,E,_=>by simp[Jr]at h;subst h;exact E
 |(i,v)::parts,z,cs,h,E,I=>by
  simp only[Jr]at h;split at h
  ·rename_i off size l J L;cases hb:(Nat.beq l.length size&&Nat.ble (off+size) z.length)<;>rw[hb]at h
   ·simp at h
   ·refine VY parts _ _ h (λa D=> ?_) (λp G=>I p (by simp[G]));rcases VC _ _ _ D with D|D
    ·exact E a D
    ·exact TV.cells_wf L (I (i,v) (by simp)) a D
  ·simp at h
theorem SX {E:Operand->TV} (D:∀x,TV.wf aB aC (E x)):∀(l:List (Nat×Operand)),∀p∈GB E l,TV.wf aB aC p.2
 |[],p,h=>by simp[GB]at h
 |x::l,p,h=>by
  simp only[GB,ao]at h;rcases h with rfl|h
  ·exact D _
  ·exact SX D l p h
theorem PI {E:Operand->TV} (D:∀x,TV.wf aB aC (E x)):∀(l:List Operand),∀v∈Da E l,TV.wf aB aC v
 |[],p,h=>by simp[Da]at h
 |x::l,p,h=>by
  simp only[Da,ao]at h;rcases h with rfl|h
  ·exact D _
  ·exact PI D l p h
theorem RW {g:Bool} {sz off:Nat} {cells:List AC} {v:TV} (h:DV g sz cells off=some v) (I:∀a∈cells,AC.wf aB aC a):TV.wf aB aC v:=by
 unfold DV at h;cases g
 ·simp only[aq]at h;split at h
  ·rename_i c D;simp at h;subst h;exact C9 (I _ (cd D))
  ·simp at h
 ·simp only[ai]at h;cases E:Nat.ble (off+sz) cells.length<;>rw[E]at h
  ·simp at h
  ·simp at h;subst h;intro c G;exact I c (dp (dx G))
theorem Qyp {t:TypeId} {cs:List AC} {off:Nat} {v:TV} (h:Oq P t cs off=some v) (D:∀a∈cs,AC.wf aB aC a):TV.wf aB aC v:=by
 unfold Oq at h;split at h
 ·exact RW h D
 ·simp at h
theorem Zqq {op:BinOp} {k:IntKind} {a b:Int} {c:AC} (h:G7 op k a b some=some c):AC.wf aB aC c:=by
 cases op<;>simp only[G7]at h
 case quo=>cases hb:decide (b=0)<;>rw[hb]at h<;>simp at h;subst h;trivial
 case rem=>cases hb:decide (b=0)<;>rw[hb]at h<;>simp at h;subst h;trivial
 case shl=>cases hb:decide (b<0)<;>rw[hb]at h<;>simp at h;subst h;trivial
 case shr=>cases hb:decide (b<0)<;>rw[hb]at h<;>simp at h;subst h;trivial
 all_goals (simp at h;subst h;trivial)
theorem Qgb (g:Int->Int->Int) (k:IntKind):∀(l:List TV) (a:Int) (p:Prim),GI g k a l some=some p->Prim.wf aB aC p
 |[],a,p,h=>by simp[GI]at h;subst h;exact S8 _ _
 |t::l,a,p,h=>by
  unfold GI at h;split at h
  ·rename_i k' b;cases D:kEq k k'<;>rw[D]at h
   ·simp at h
   ·exact Qgb g k l _ p h
  ·simp at h
theorem Zlf (k:Kd) (a:AC):(Nm k a).calm=true:=by
 cases k<;>try rfl
 cases a<;>rfl
theorem Zdr:∀(ks:List Kd) (cs:List AC) (j:Nat),Al AC.calm (Fh ks cs j)=true
 |[],_,_=>rfl
 |k::ks,cs,j=>by simp only[Fh,Al,Zlf,ai];exact Zdr ks cs (j+1)
theorem Q0q {cs:List AC} (h:Al AC.calm cs=true):∀a∈cs,AC.wf aB aC a:=by
 intro a D;have:=AD.1 h a D;cases a<;>first|trivial|(simp[AC.calm]at this)
theorem Qi8:∀{l:List TV} {as:List AC},J3 l=some as->(∀v∈l,TV.wf aB aC v)->∀a∈as,AC.wfP aB a
 |[],as,h,_=>by simp[J3]at h;subst h;intro a E;simp at E
 |v::l,as,h,D=>by
  unfold J3 at h;split at h
  ·simp at*
  ·rename_i a L heq;simp only[ju]at heq;obtain⟨rfl,rfl⟩:=heq;cases G:a.clOk<;>rw[G]at h
   ·simp at h
   ·simp only[ai]at h;split at h
    ·rename_i r I;simp at h;subst h;intro b hb;simp only[ao]at hb;rcases hb with rfl|hb
     ·have:=D (.c b) (by simp) b (by simp);cases b<;>first|exact this|trivial
     ·exact Qi8 I (λv J=>D v (by simp[J])) b hb
    ·simp at h
  ·simp at h
theorem Qde {Y:Operand->TV} (E:∀x,TV.wf aB aC (Y x)) {dst:Option Tmp} {o:Op} {p:Prim} (h:opK P C Y dst o some=some p):Prim.wf aB aC p:=by
 cases o<;>simp only[opK]at h<;>try (simp at h;done)
 case move x=>simp at h;subst h;exact E x
 case assign x=>simp at h;subst h;exact E x
 case pick c a b=>
  split at h
  ·rename_i g _;cases g<;>simp at h<;>subst h
   ·exact E b
   ·exact E a
  ·simp at h
 case alloc t=>
  split at h
  ·rename_i cs O;simp at h;subst h;exact U0 O
  ·simp at h
 case box t x=>
  split at h
  ·rename_i cs hc;simp at h;subst h;exact TV.cells_wf hc (E x)
  ·simp at h
 case build t parts=>
  split at h
  ·rename_i z fs O hu;cases T:(Al (Mq P) fs.toList)<;>rw[T]at h
   ·simp at h
   ·simp only[ai]at h;split at h
    ·rename_i cs hb;simp at h;subst h;exact VY _ _ _ hb (U0 O) (SX E _)
    ·simp at h
  ·rename_i z n el O hu;split at h
   ·split at h
    ·rename_i cs hb;simp at h;subst h;exact VY _ _ _ hb (U0 O) (SX E _)
    ·simp at h
   ·simp at h
  ·simp at h
 case buildSlice t n parts=>
  split at h
  ·split at h
   ·cases hb:(Nat.beq _ _&&Nat.beq _ _&&Nat.ble 1 _&&Nat.ble _ 65536)<;>rw[hb]at h
    ·simp at h
    ·simp only[ai]at h;split at h
     ·rename_i O _ _ cs a0;split at h
      ·cases a1:TF C dst n<;>rw[a1]at h<;>simp at h<;>subst h<;>trivial
      ·cases S:(Al AC.isClo cs&&Nat.beq _ 1)<;>rw[S]at h
       ·simp at h
       ·simp only[ai]at h;simp at h;subst h;refine VY _ _ _ a0 (λa M=> ?_) (SX E _);exact Zeu (U0 O) _ a M
     ·simp at h
   ·simp at h
  ·simp at h
 case makeSlice t len cap=>
  split at h
  ·split at h
   ·split at h
    ·cases hb:(Nat.beq _ _&&Nat.ble 1 _&&Nat.ble 1 _)<;>rw[hb]at h
     ·simp at h
     ·simp only[ai]at h;obtain⟨_,rfl⟩:=LH h;trivial
    ·simp at h
   ·simp at h
  ·simp at h
 case makeFunc fn a b=>
  split at h
  ·split at h
   ·rename_i fs cs a2 a3;simp at h;subst h;exact C9 ⟨Qi8 a2 (PI E _),Qi8 a3 (PI E _)⟩
   ·simp at h
  ·simp at h
 case load t a=>
  split at h
  ·have M:=E a;split at h
   ·rename_i key off D;simp at h;subst h;rw[D]at M;exact FH M
   ·rename_i cells sub D;split at h
    ·rename_i v L;simp at h;subst h;rw[D]at M;exact RW L (Q0q (FH M))
    ·simp at h
   ·rename_i id idx sub D;simp at h;subst h;rw[D]at M;exact FH M
   ·simp at h
  ·simp at h
 case store t a x=>
  split at h
  ·rename_i sz cs hs hc;cases hb:(Nat.beq cs.length sz)<;>rw[hb]at h
   ·simp at h
   ·simp only[ai]at h;have M:=E a;split at h
    ·rename_i key off D;simp at h;subst h;rw[D]at M;exact⟨FH M,TV.cells_wf hc (E x)⟩
    ·rename_i id idx sub D;simp at h;subst h;rw[D]at M;exact FH M
    ·simp at h
  ·simp at h
 case nilCheck x=>
  have G:=E x;split at h
  all_goals first|(simp at h;done)|(rename_i D;simp at h;subst h;rw[D]at G;exact G)
 case binOp op t x y yt=>
  split at h
  ·cases hk:(kEq _ _||Ob op)<;>rw[hk]at h
   ·simp at h
   ·simp only[ai]at h;rename_i k a k' b _ _;rw[Qet]at h;cases U:G7 op k a b some with
    |none=>rw[U]at h;simp at h
    |some c=>rw[U]at h;simp at h;subst h;exact C9 (Zqq U)
  ·split at h
   ·simp at h;subst h;exact JD _
   ·simp at h;subst h;exact JD _
   ·simp at h
  ·split at h
   ·simp at h;subst h;exact JD _
   ·simp at h;subst h;exact JD _
   ·simp at h
  ·cases hg:P.eqGuardType P.depth t<;>rw[hg]at h
   ·simp only[aq]at h;split at h
    ·simp at h;subst h;exact JD _
    ·simp at h;subst h;exact JD _
    ·simp at h
   ·simp at h
  ·simp at h
 case unOp a4 t x=>
  split at h
  ·simp at h;subst h;exact S8 _ _
  ·simp at h;subst h;exact JD _
  ·simp at h
 case convert src dst x=>
  split at h
  ·simp at h;subst h;exact S8 _ _
  ·simp at h
 case fieldAddr t x i=>
  split at h
  ·split at h
   ·have G:=E x;split at h
    ·rename_i D;simp at h;subst h;rw[D]at G;have q:=FH G;exact C9 q
    ·rename_i D;simp at h;subst h;rw[D]at G;have q:=FH G;exact C9 q
    ·rename_i D;simp at h;subst h;rw[D]at G;have q:=FH G;exact C9 q
    ·simp at h
   ·simp at h
  ·simp at h
 case field t x i=>
  split at h
  ·rename_i f cs hf D;split at h
   ·rename_i v V;simp at h;subst h;have G:=E x;rw[D]at G;exact Qyp V G
   ·simp at h
  ·simp at h
 case indexAddr t x ix=>
  split at h
  ·have G:=E x;split at h
   ·rename_i D;obtain⟨j,I,_⟩:=Iv h;simp at I;subst I;rw[D]at G;have q:=FH G;exact C9 q
   ·rename_i D;obtain⟨j,I,_⟩:=Iv h;simp at I;subst I;rw[D]at G;have q:=FH G;exact C9 q
   ·rename_i D;obtain⟨j,I,_⟩:=Iv h;simp at I;subst I;rw[D]at G;have q:=FH G;exact C9 q
   ·simp at h
  ·have G:=E x;split at h
   ·rename_i m ks l hm D;cases hb:Nat.beq m ks.length<;>rw[hb]at h
    ·simp at h
    ·simp only[ai]at h;obtain⟨_,rfl⟩:=LH h;exact C9 (Zdr _ _ _)
   ·rename_i m id wd n hm D;cases hb:Nat.beq m wd<;>rw[hb]at h
    ·simp at h
    ·simp only[ai]at h;obtain⟨hd,rfl⟩:=LH h;rw[D]at G;obtain⟨r,I,h2,h3⟩:=FH G;simp at hd;exact C9 ⟨r,I,by omega⟩
   ·rename_i m key n hm D;cases hb:Nat.beq m 1<;>rw[hb]at h
    ·simp at h
    ·simp only[ai]at h;obtain⟨j,I,_⟩:=Iv h;simp at I;subst I;rw[D]at G;have q:=FH G;exact C9 q
   ·simp at h
  ·simp at h
 case index t x ix=>
  split at h
  ·rename_i i n el cs U hu D;split at h
   ·obtain⟨j,I,_⟩:=Iv h;have G:=E x;rw[D]at G;split at I
    ·rename_i v V;simp at I;subst I;exact Qyp V G
    ·simp at I
   ·simp at h
  ·simp at h
 case slice t x lo U mx=>
  split at h
  ·split at h
   ·rename_i m ks l hm D;cases hb:Nat.beq m ks.length<;>rw[hb]at h
    ·simp at h
    ·simp only[ai]at h;split at h
     ·simp at h;subst h;exact C9 trivial
     all_goals
      obtain⟨_,rfl⟩:=LH h;exact C9 trivial
   ·split at h
    ·cases hb:Nat.beq _ _<;>rw[hb]at h
     ·simp at h
     ·simp only[ai]at h;obtain⟨_,rfl⟩:=LH h;trivial
    ·simp at h
   ·split at h
    ·simp at h;subst h;exact C9 trivial
    all_goals
     obtain⟨_,rfl⟩:=LH h;exact C9 trivial
   ·simp at h
  ·simp at h
 case extract t i=>
  have ht:=E t;split at h
  ·rename_i ps D;split at h
   ·rename_i g cs hg;simp at h;subst h;rw[D]at ht;exact ht (g,cs) (cd hg)
   ·simp at h
  ·simp at h
 case call c=>
  split at h
  ·rename_i b hb;have J:=PI E c.args.toList
   revert J h
   generalize Da Y c.args.toList=args;intro h J;unfold NF at h;split at h
   case h_6=>exact Qgb _ _ _ _ _ h
   case h_7=>exact Qgb _ _ _ _ _ h
   case h_8=>
    rename_i s x
    repeat' split at h
    all_goals try (simp at h;done)
    obtain⟨_,rfl⟩:=LH h;exact⟨FH (J _ (by simp)),FH (J _ (by simp))⟩
   all_goals
    repeat' split at h
    all_goals first|(simp at h;done)|(simp at h;subst h;exact S8 _ _)
  ·rename_i f hf;cases V:C.pure f<;>rw[V]at h<;>simp at h<;>subst h<;>exact PI E _
  ·rename_i t ht;split at h
   ·rename_i f fs cs S;cases N:(Al AC.clOk fs&&Al AC.clOk cs)<;>rw[N]at h
    ·simp at h
    simp only[ai,av]at h;subst h;simp only[ak]at N;have L:=E (.tmp t);rw[S]at L;have hq:=FH L;have X:∀l:List AC,(∀a∈l,AC.wfP aB a)->Al AC.clOk l=true->∀v∈l.map TV.c,TV.wf aB aC v:=by
     intro l I h2 v L;simp only[bc]at L;obtain⟨a,M,rfl⟩:=L;have q1:=I a M;have q2:=AD.1 h2 a M;cases a<;>first|exact C9 q1|(simp[AC.clOk]at q2;done)|exact C9 trivial
    intro v L;rcases ba.1 L with L|L
    ·exact X fs hq.1 N.1 v L
    ·rcases ba.1 L with L|L
     ·exact PI E _ v L
     ·exact X cs hq.2 N.2 v L
   ·simp at h
  ·simp at h
end
open Go.RowKit
def Rel (Z:Base) (s:St) (tmps:Array Value) (w:World):Prop:=∃ρ,RelE Z s.tmps s.aB s.aC ρ tmps w
section
variable {P:Program} {C:Cfg} {w:World} {R:Type} {Z:Base}
theorem RelE.put {ρ:Env} {tm:List TV} {aB:List (Nat×Box)} {aC:List (Nat×Row)} {tmps:Array Value} (h:RelE Z tm aB aC ρ tmps w) (d:Nat) {v:TV} {x:Value} (J:TVR ρ w v x) (L:TV.wf aB aC v):
  RelE Z (setL tm d v) aB aC ρ (tmps.setIfInBounds d x) w:=by
 rw[Jj];refine⟨by simp[h.tl],λi u D=> ?_,λu G=> ?_,h.wb,h.bx,h.bi,h.ro,h.ri,h.br,h.ib,h.fr,h.fs,h.i0,h.i1,h.k0⟩
 ·rw[jg]at D;by_cases E:d=i
  ·subst E;simp only[dv]at D;split at D
   ·rename_i I;simp at D;subst D;have:d<tmps.size:=by rw[<-h.tl];exact I
    simpa [Array.getD,this]using J
   ·simp at D
  ·rw[ab E]at D;have:=h.tv i u D;have e:(tmps.setIfInBounds d x).getD i undef=tmps.getD i undef:=by
    simp[Array.getD_eq_getD_getElem?,Array.getElem?_setIfInBounds_ne E]
   rw[e];exact this
 ·rcases d6 G with G|rfl
  ·exact h.wt u G
  ·exact L
theorem RelE.learn {ρ:Env} {tm:List TV} {aB:List (Nat×Box)} {aC:List (Nat×Row)} {tmps:Array Value} (h:RelE Z tm aB aC ρ tmps w) (d:Nat) {v:TV} (I:TVR ρ w v (tmps.getD d undef)) (J:TV.wf aB aC v):
  RelE Z (setL tm d v) aB aC ρ tmps w:=by
 rw[Jj];refine⟨by simp[h.tl],λi u D=> ?_,λu G=> ?_,h.wb,h.bx,h.bi,h.ro,h.ri,h.br,h.ib,h.fr,h.fs,h.i0,h.i1,h.k0⟩
 ·rw[jg]at D;by_cases E:d=i
  ·subst E;simp only[dv]at D;split at D
   ·simp at D;subst D;exact I
   ·simp at D
  ·rw[ab E]at D;exact h.tv i u D
 ·rcases d6 G with G|rfl
  ·exact h.wt u G
  ·exact J
theorem F4 (s:St) (d:Option Tmp) (v:TV) (K:St->Option R):put s d v K=K (match d with|none=>s|some t=>⟨setL s.tmps t v,s.aB,s.aC⟩):=by
 obtain⟨tm,aB,aC⟩:=s;cases d with
 |none=>rfl
 |some t=>simp only[put,Bo]
theorem Q7l {ρ:Env} {tm:List TV} {aB:List (Nat×Box)} {aC:List (Nat×Row)} {a:Act} (h:RelE Z tm aB aC ρ a.tmps w) (x:Operand):TVR ρ w (Bb tm x) (a.eval x):=by
 cases x with
 |tmp t=>
  simp only[Bb,B5,List.getD,Act.eval];cases D:tm[t]? with
  |none=>trivial
  |some v=>exact h.tv t v D
 |const v=>exact Z7k v
 |global=>trivial
 |func=>trivial
theorem Ve:∀(l:List Nat) (s:St) (tmps:Array Value),Rel Z s tmps w->∀(K:St->Option R) (r:R),Jn l s K=some r->∃G,K G=some r/\Rel Z G tmps w
 |[],s,tmps,D,K,r,h=>⟨s,h,D⟩
 |id::l,s,tmps,D,K,r,h=>by
  obtain⟨tm,aB,aC⟩:=s;simp only[Jn]at h;split at h
  ·rename_i I E;simp only[Bo]at h;obtain⟨ρ,D⟩:=D;exact Ve l _ tmps ⟨_,D.freeze E⟩ K r h
  ·exact Ve l _ tmps D K r h
theorem Yai {k o:Nat} {e:TypeId} {s:St} {tmps:Array Value} (D:Rel Z s tmps w) {K:St->Option R} {r:R} (h:Nt P k o e s K=some r):∃G,K G=some r/\Rel Z G tmps w:=by
 obtain⟨tm,aB,aC⟩:=s;obtain⟨ρ,D⟩:=D;simp only[Nt]at h;split at h
 ·rename_i b I;split at h
  ·rename_i J;split at h
   ·rename_i ks L;cases E:(Nat.ble 1 ks.length&&IC aC (1000000+1000*k+o))<;>rw[E]at h
    ·simp at h
    ·simp only[ai,Bo]at h;simp only[ak]at E;exact⟨_,h,_,D.promB I J (Qld E.2) (bj E.1)⟩
   ·simp at h
  ·exact⟨_,h,ρ,D⟩
 ·exact⟨_,h,ρ,D⟩
theorem Qwz:∀(l:List (Nat×Nat×TypeId)) (s:St) (tmps:Array Value),Rel Z s tmps w->∀(K:St->Option R) (r:R),JH P l s K=some r->∃D,K D=some r/\Rel Z D tmps w
 |[],s,tmps,E,K,r,h=>⟨s,h,E⟩
 |(k,o,e)::l,s,tmps,E,K,r,h=>by
  simp only[JH]at h;obtain⟨D,h',G⟩:=Yai E h;exact Qwz l D tmps G K r h'
theorem Tu:∀(l:List (Nat×TypeId)) (s:St) (tmps:Array Value),Rel Z s tmps w->∀(K:St->Option R) (r:R),JF P l s K=some r->∃O,K O=some r/\Rel Z O tmps w
 |[],s,tmps,E,K,r,h=>⟨s,h,E⟩
 |(t,e)::l,s,tmps,E,K,r,h=>by
  obtain⟨tm,aB,aC⟩:=s;simp only[JF]at h;split at h
  ·rename_i I;split at h
   ·rename_i ks D T;cases S:Nat.ble 1 ks.length<;>rw[S]at h
    ·simp at h
    ·simp only[ai,Bo]at h;refine Tu l _ tmps ?_ K r h;obtain⟨ρ,E⟩:=E;have J:=E.addRow (d:=t) D (r:=⟨e,ks,[]⟩) (v':= .slice none 0 0) (xs:=[]) (w':=w) (Below.refl _ _) (bj S) (Yn w e ks.length) ⟨by simp,by simp,λi c U=>by simp at U⟩ (λg V=>by simp[Value.ownBlock]at V);refine⟨_,J.learn t ?_ (C9 ⟨_,Fy _ _ _ D,rfl,rfl⟩)⟩;have X:tmps.getD t undef= .slice none 0 0:=by
      have L:t<tm.length:=by
       rcases kq t tm.length with M|N
       ·exact M
       ·rw[B5,List.getD,df N]at I;simp at I
      have G:tm[t]? =some (.c .nilSl):=by
       rw[B5,List.getD]at I;rw[ag L]at I⊢;simpa using I
      have:=(E.tv t _ G).c;simpa [CC,CP]using this
     rw[X];exact TVR.c' ⟨by simp only[B3],by simp only[B3], .inl ⟨rfl,rfl⟩⟩
   ·simp at h
  ·exact Tu l _ tmps E K r h
theorem Sa {s:St} {tmps:Array Value} (I:Rel Z s tmps w) {K:St->Option R} {r:R} (h:IE P C s K=some r):∃E,K E=some r/\Rel Z E tmps w:=by
 unfold IE at h;obtain⟨E,h',ρ,D⟩:=Qwz _ s tmps I _ r h;obtain⟨tm,aB,aC⟩:=E;simp only[Bo]at h';refine Tu _ _ tmps ?_ K r h';refine⟨ρ,?_⟩;refine D.reBox (g:=λ_ b=>TY P b) (λ_ b=> ?_) λk b G=> ?_
 ·unfold TY;split<;>rfl
 ·unfold TY;split
  ·rename_i ks _;exact⟨λxs h=>Lx ks b.cells xs h,Ok ks b.cells (D.wb k b G)⟩
  ·exact⟨λxs h=>h,D.wb k b G⟩
theorem Z6n {o:Op} {s:St} {tmps:Array Value} (I:Rel Z s tmps w) {K:St->Option R} {r:R} (h:Ja P C o s K=some r):∃G,K G=some r/\Rel Z G tmps w:=by
 unfold Ja at h;obtain⟨s1,E,D⟩:=Ve _ s tmps I _ r h;cases J:XA C o<;>rw[J]at E
 ·exact⟨s1,E,D⟩
 ·exact Sa D E
theorem Z83 {pre:Bool} {ρ:Env} {e:Operand->Value} {o:Oper} {p:Prim} (h:JW P ρ w e o p):JW P ρ w e o (p.dr pre):=by
 cases pre<;>cases p<;>first|exact h|(simp only[Prim.dr];cases Al TV.plainB _<;>exact h)
theorem Z8 {pre:Bool} {bx:List (Nat×Box)} {aC:List (Nat×Row)} {p:Prim} (h:Prim.wf bx aC p):Prim.wf bx aC (p.dr pre):=by
 cases pre<;>cases p<;>first|exact h|(simp only[Prim.dr];cases Al TV.plainB _<;>exact h)
theorem Q1e (D:Aj P C) (S:∀t∈C.eqOk,P.stoodInHeld t=false) {s:St} {o:Oper} {a:Act} (G:Rel Z s a.tmps w) {K:Option Prim->St->Option R} {r:R}
  {pre:Bool} (h:(opK P C (Bb s.tmps) o.dst o.op λp=>Bj C o.dst (p.dr pre) s λv M=>put M o.dst v (K (some (p.dr pre))))=some r) {next:Act->World->Prop} {Q:Exit->Act->World->Prop}
  (E:∀(po:Option Prim) (M:St) (T:Act) (w':World),K po M=some r->Rel Z M T.tmps w'->T.defers=a.defers->next T w'):o.wp P a w next Q:=by
 obtain⟨ρ,G⟩:=G;obtain⟨tm,aB,aC⟩:=s;have U:=λx=>Q7l G x;rw[Ra]at h;cases N:opK P C (Bb tm) o.dst o.op some with
 |none=>rw[N]at h;simp at h
 |some p=>
  rw[N]at h;simp only[ah]at h;obtain⟨p',I,J⟩:=Zh0 S U (λf=>rfl) o N;simp at I;subst I;have V:=Qde (aB:=aB) (aC:=aC) (λx=>Qbv G.wt x) N;refine Zqt D G (Z83 J) (Z8 V) h ?_;intro v a0 O X ρ' x w' hK L hv Y;rw[F4]at hK;refine E (some (p'.dr pre)) _ _ w' hK ?_ ?_
  ·cases hd:o.dst with
   |none=>exact⟨ρ',L⟩
   |some d=>exact⟨ρ',L.put d hv Y⟩
  ·cases o.dst<;>rfl
theorem Qhr (D:Aj P C) (G:∀t∈C.eqOk,P.stoodInHeld t=false) {pre:Bool} {s:St} {o:Oper} {a:Act} (M:Rel Z s a.tmps w) {K:Option Prim->St->Option R} {r:R}
  (h:((bif pre then Ja P C o.op s else λK=>K s) λs=>opK P C (Bb s.tmps) o.dst o.op λp=>Bj C o.dst (p.dr pre) s λv I=>put I o.dst v (K (some (p.dr pre))))=some r) {next:Act->World->Prop} {Q:Exit->Act->World->Prop}
  (E:∀(N:Option Prim) (I:St) (J:Act) (w':World),K N I=some r->Rel Z I J.tmps w'->J.defers=a.defers->next J w'):o.wp P a w next Q:=by
 cases pre
 ·exact Q1e D G M h E
 ·obtain⟨I,h',L⟩:=Z6n M h;exact Q1e D G L h' E
theorem Qxg (I:Aj P C) (T:∀t∈C.eqOk,P.stoodInHeld t=false) {pre:Bool} {ops:Array Oper} {s:St} {o:Oper} {a:Act} (hR:Rel Z s a.tmps w) {K:Option Prim->St->Option R} {r:R}
  (h:Gh P C pre ops.toList o s K=some r) {next:Act->World->Prop} {Q:Exit->Act->World->Prop}
  (G:∀(po:Option Prim) (s':St) (a':Act) (w':World),K po s'=some r->Rel Z s' a'.tmps w'->a'.defers=a.defers->next a' w'):
  if Region.wanted o (yielded ops a.tmps)=true then o.wp P a w next Q else next (a.put o.dst undef) w:=by
 have J:∀s':St,Rel Z s' a.tmps w->put s' o.dst (.tup []) (K none)=some r->next (a.put o.dst undef) w:=by
  intro s' E hp;rw[F4]at hp;refine G none _ _ w hp ?_ (by cases o.dst<;>rfl);obtain⟨ρ,E⟩:=E;cases hd:o.dst with
  |none=>exact⟨ρ,E⟩
  |some d=>exact⟨ρ,E.put d ⟨#[],rfl,trivial⟩ (λp hp=>by simp at hp)⟩
 unfold Gh Qq at h;cases hg:o.guard with
 |none=>
  rw[hg]at h;rw[aa (by simp[Region.wanted,hg])];exact Qhr I T hR h G
 |some jw=>
  obtain⟨j,want⟩:=jw;rw[hg]at h;simp only at h;split at h
  ·rename_i oj hj;split at h
   ·rename_i t ht;split at h
    ·rename_i g D;obtain⟨ρ,L⟩:=hR;have O:t<s.tmps.length:=by
      rcases kq t s.tmps.length with U|V
      ·exact U
      ·rw[B5,List.getD,df V]at D;simp at D
     have M:s.tmps[t]? =some (.c (.bool g)):=by
      rw[B5,List.getD]at D;rw[ag O]at D⊢;simpa using D
     have N:=(L.tv t _ M).bool;have S:t<a.tmps.size:=by rw[<-L.tl];exact O
     have X:a.tmps[t]? =some (.bool g):=by
      rw[jm S];rw[Array.getD,kz S]at N;simpa using N
     have hy:yielded ops a.tmps j=some g:=by
      unfold yielded;have Y:ops[j]? =some oj:=by simpa using hj
      simp[Y,ht,X]
     have hl:∀b,g=b->Rel Z ⟨setL s.tmps t (.c (.bool b)),s.aB,s.aC⟩ a.tmps w:=by
      rintro b rfl;exact⟨ρ,L.learn t (by rw[N];exact TVR.mkBool _) (JD _)⟩
     have hw:Region.wanted o (yielded ops a.tmps)=(g==want):=by
      simp only[Region.wanted,hg,hy];cases g<;>cases want<;>rfl
     cases g
     ·simp only[aq]at h;rw[F4]at h;dsimp only at h;have E:=hl false rfl;cases want
      ·rw[aa (by rw[hw];rfl)];simp only[aq]at h;exact Qhr I T E h G
      ·rw[ab (by rw[hw];simp)];simp only[ai]at h;exact J _ E h
     ·simp only[ai]at h;rw[F4]at h;dsimp only at h;have E:=hl true rfl;cases want
      ·rw[ab (by rw[hw];simp)];simp only[aq]at h;exact J _ E h
      ·rw[aa (by rw[hw];rfl)];simp only[ai]at h;exact Qhr I T E h G
    ·rename_i D;obtain⟨ρ,L⟩:=hR;have O:t<s.tmps.length:=by
      rcases kq t s.tmps.length with U|V
      ·exact U
      ·rw[B5,List.getD,df V]at D;simp at D
     have M:s.tmps[t]? =some (.tup []):=by
      rw[B5,List.getD]at D;rw[ag O]at D⊢;simpa using D
     obtain⟨ys,a0,N⟩:=L.tv t _ M;have S:t<a.tmps.size:=by rw[<-L.tl];exact O
     have X:a.tmps[t]? =some (.tuple ys):=by
      rw[jm S];rw[Array.getD,kz S]at a0;simpa using a0
     have hy:yielded ops a.tmps j=none:=by
      unfold yielded;have Y:ops[j]? =some oj:=by simpa using hj
      simp[Y,ht,X]
     have hw:Region.wanted o (yielded ops a.tmps)=false:=by
      simp only[Region.wanted,hg,hy];rfl
     rw[ab (by rw[hw];simp)];exact J _ ⟨ρ,L⟩ h
    ·simp at h
   ·simp at h
  ·simp at h
theorem Zak (D:Aj P C) (E:∀t∈C.eqOk,P.stoodInHeld t=false) {ops:Array Oper} {Q:Exit->Act->World->Prop} {K:St->Option R} {r:R}:
  ∀(l:List Oper) (s:St) (a:Act) (w:World),Rel Z s a.tmps w->Ue P C ops.toList l s K=some r->
  (∀(I:St) (G:Act) (w':World),K I=some r->Rel Z I G.tmps w'->G.defers=a.defers->Q .normal G w')->wpList P ops Q l a w
 |[],s,a,w,J,h,L=>L s a w h J rfl
 |o::l,s,a,w,J,h,L=>by
  simp only[Ue]at h;have:=Qxg (next:=wpList P ops Q l) (Q:=Q) D E J h (λY I G w' O M S=>Zak D E l I G w' M O (λs2 a2 T U V X=>L s2 a2 T U V (X.trans S)));simp only[wpList];split
  ·rename_i N;rw[aa N]at this;exact .inl this
  ·rename_i N;rw[ab N]at this;exact this
end
open Go.RowKit
def SY (s:St) (d:Option Tmp) (v:TV):St:=
 match d with
 |none=>s
 |some t=>⟨setL s.tmps t v,s.aB,s.aC⟩
section
variable {P:Program} {C:Cfg} {w:World} {R:Type} {Z:Base}
theorem Nk (s:St) (d:Option Tmp) (v:TV) (K:St->Option R):put s d v K=K (SY s d v):=F4 s d v K
def Az (dst:Option Tmp) (p:Prim) (aB:List (Nat×Box)) (aC:List (Nat×Row)):Option (TV×List (Nat×Box)):=
 match p with
 | .val v=>some (v,aB)
 | .load g sz key off=>match Ac aB key with
  |some b=>match DV g sz b.cells off with
   |some v=>some (v,aB)
   |none=>none
  |none=>none
 | .store key off cs=>match Ac aB key with
  |some b=>if Nat.ble (off+cs.length) b.cells.length then some (.vD,upd aB key ⟨b.ty,splice b.cells off cs⟩)else none
  |none=>none
 | .new ty cs=>match dst with
  |some d=>match Ac aB d with
   |some _=>none
   |none=>some (.c (.ptr d 0),ins aB d ⟨ty,cs⟩)
  |none=>none
 | .newView _ ks l=>some (.c (.vC ks l),aB)
 | .rload g sz id idx sub=>match Ac aC id with
  |some r=>match DV g sz (r.f idx) sub with
   |some v=>some (v,aB)
   |none=>none
  |none=>none
 | .call f args=>match C.spec f with
  |some g=>match Hk aC args with
   |some l=>match g (TV×Mem) l ⟨[],[]⟩ (λv m=>some (v,m))with
    |some (v,⟨[],[]⟩)=>if((!(args.any TV.hasOwn)||v.flat)&&v.plainB)=true then some (v,aB)else none
    |_=>none
   |none=>none
  |none=>none
 | .callD f args=>match C.spec f with
  |some g=>
   if(Al (TV.inK (Bd (cat AC.keys (cat TV.cellsOf args)) []) []) args&&Al (λk=>Al AC.calm (Fb aB k)) (Bd (cat AC.keys (cat TV.cellsOf args)) [])&&B0 (Bd (cat AC.keys (cat TV.cellsOf args)) []))=true then
    match Ee aB (λk=>base+pos (Bd (cat AC.keys (cat TV.cellsOf args)) []) k) (λi=>base+pos [] i) base (Bd (cat AC.keys (cat TV.cellsOf args)) [])with
    |some E=>match g (TV×Mem) (args.map (TV.ren (λk=>base+pos (Bd (cat AC.keys (cat TV.cellsOf args)) []) k) (λi=>base+pos [] i))) ⟨E,[]⟩ (λv m=>some (v,m))with
     |some (v,⟨D,[]⟩)=>
      if(Al (λp:Nat×Box=>ER D p.1) E&&Al (λp:Nat×Box=>ER E p.1) D&&B0 (D.map (·.1))&&Al (λp:Nat×Box=>Al AC.calm p.2.cells) D&&v.plainB)=true then
       some (v,C2 (Bd (cat AC.keys (cat TV.cellsOf args)) []) D aB)
      else none
     |_=>none
    |none=>none
   else none
  |none=>none
 |_=>none
theorem Zta (D:Aj P C) {dst:Option Tmp} {p:Prim} (S:Prim.simple (some p)=true) (M:Prim.isApp (some p)=false) (J:Prim.isMk (some p)=false) (s:St) (K:TV->St->Option R):
  Bj C dst p s K=(Az (C:=C) dst p s.aB s.aC).bind λq=>K q.1 ⟨s.tmps,q.2,s.aC⟩:=by
 obtain⟨tm,aB,aC⟩:=s;cases p<;>simp only[Prim.simple]at S<;>try (simp at S;done)
 case appD=>simp[Prim.isApp]at M
 case callF=>simp[Prim.isMk]at J
 case newRow=>simp[Prim.isMk]at J
 case val v=>rfl
 case newView e ks l=>rfl
 case rload g sz id idx sub=>
  simp only[Bj,Az];cases G:Ac aC id with
  |none=>rfl
  |some r=>
   dsimp only;cases N:DV g sz (r.f idx) sub<;>rfl
 case load g sz key off=>
  simp only[Bj,Az];cases G:Ac aB key with
  |none=>rfl
  |some b=>
   dsimp only;cases N:DV g sz b.cells off<;>rfl
 case store key off cs=>
  simp only[Bj,Az];cases G:Ac aB key with
  |none=>rfl
  |some b=>
   dsimp only;cases Nat.ble (off+cs.length) b.cells.length
   ·rfl
   ·simp only[ai,Bo,dv,ah]
 case new ty cs=>
  simp only[Bj,Az];cases dst with
  |none=>rfl
  |some d=>
   dsimp only;cases G:Ac aB d with
   |some _=>rfl
   |none=>simp only[Bo,ah]
 case call f args=>
  simp only[Bj,Az];cases G:C.spec f with
  |none=>rfl
  |some g=>
   dsimp only;cases N:Hk aC args with
   |none=>rfl
   |some l=>
    dsimp only;have I:=D.1 f g G;rw[I.nat];cases T:g (TV×Mem) l ⟨[],[]⟩ (λv m=>some (v,m))with
    |none=>rfl
    |some q=>
     obtain⟨v,⟨L,O⟩⟩:=q;simp only[ah];cases L with
     |cons _ _=>rfl
     |nil=>
      cases O with
      |cons _ _=>rfl
      |nil=>
       dsimp only;cases((!(args.any TV.hasOwn)||v.flat)&&v.plainB)<;>rfl
 case callD f args=>
  simp only[Bj,Az];cases G:C.spec f with
  |none=>rfl
  |some g=>
   dsimp only;simp only[Bo];generalize Bd (cat AC.keys (cat TV.cellsOf args)) []=keys;cases U:(Al (TV.inK keys []) args&&Al (λk=>Al AC.calm (Fb aB k)) keys&&B0 keys)
   ·simp
   ·simp only[ai,dv];cases N:Ee aB (λk=>base+pos keys k) (λi=>base+pos [] i) base keys with
    |none=>rfl
    |some L=>
     dsimp only;have I:=D.1 f g G;rw[I.nat];cases T:g (TV×Mem) (args.map (TV.ren (λk=>base+pos keys k) (λi=>base+pos [] i))) ⟨L,[]⟩ (λv m=>some (v,m))with
     |none=>rfl
     |some q=>
      obtain⟨v,⟨E,O⟩⟩:=q;simp only[ah];cases O with
      |cons _ _=>rfl
      |nil=>
       dsimp only;cases(Al (λp:Nat×Box=>ER E p.1) L&&Al (λp:Nat×Box=>ER L p.1) E&&B0 (E.map (·.1))&&Al (λp:Nat×Box=>Al AC.calm p.2.cells) E&&v.plainB)<;>rfl
theorem Ck {α:Type} {c:Bool} {p:Option α} {q:α} (h:cond c p none=some q):c=true/\p=some q:=by cases c<;>simp at h;exact⟨rfl,h⟩
def Qe9 (aC:List (Nat×Row)) (e:TypeId) (ks:List Kd) (bytes id:Nat) (x:AC):Option (TV×List (Nat×Row)):=
 match HI aC ks x with
 |some m=>match Ac aC id with
  |some r=>if(Dy ks r.ks&&Nat.beq r.ty e&&Nat.ble 1 bytes)=true then
    if Nat.ble ((r.l++m).length*bytes) 140737488355328=true then some (.c (.own id r.ks.length (r.l++m).length),upd aC id ⟨e,r.ks,r.l++m⟩)else none
   else none
  |none=>none
 |none=>none
def XM (id:Nat) (tm:List TV) (bx:List (Nat×Box)) (aC:List (Nat×Row)):St:=⟨tm.map (TV.kill id),bx.map λp=>(p.1,p.2.kill id),aC⟩
def Qnc (aC:List (Nat×Row)) (e:TypeId) (ks:List Kd) (bytes d:Nat) (x:AC):Option (TV×List (Nat×Row)):=
 match HI aC ks x with
 |some m=>match Ac aC d with
  |some _=>none
  |none=>if(Nat.ble 1 ks.length&&Nat.ble 1 bytes)=true then
    if Nat.ble (m.length*bytes) 140737488355328=true then some (.c (.own d ks.length m.length),ins aC d ⟨e,ks,m⟩)else none
   else none
 |none=>none
def KZ (dst:Option Tmp):Prim->Option Nat
 | .appD _ _ _ (.own id _ _) _=>some id
 | .appD _ _ _ .nilSl _=>dst
 |_=>none
def Lr (dst:Option Tmp) (aC:List (Nat×Row)):Prim->Option (TV×List (Nat×Row))
 | .appD e ks bytes (.own id _ _) x=>Qe9 aC e ks bytes id x
 | .appD e ks bytes .nilSl x=>match dst with
  |some d=>Qnc aC e ks bytes d x
  |none=>none
 |_=>none
def mkG (dst:Option Tmp) (p:Prim):Option (TV×Option (Nat×Row)):=
 match p with
 | .newRow e ks l=>match dst with
  |some d=>some (.c (.own (C.rowAs d) ks.length l.length),some (C.rowAs d,⟨e,ks,l⟩))
  |none=>none
 | .callF f args=>match C.spec f with
  |some g=>if Al TV.plainB args=true then match g (TV×Mem) args ⟨[],[]⟩ (λv m=>some (v,m))with
    |some (v,⟨[],[]⟩)=>if v.plainB=true then some (v,none)else none
    |some (.v false [.own j _ _],⟨[],[(k,r)]⟩)=>if Nat.beq j k=true then some (.c (.own (H3 (dst.getD 0)) r.ks.length r.l.length),some (H3 (dst.getD 0),r))else none
    |_=>none
   else none
  |none=>none
 |_=>none
def mkD (dst:Option Tmp) (p:Prim) (aC:List (Nat×Row)):Option (TV×List (Nat×Row)):=
 match mkG (C:=C) dst p with
 |some (v,none)=>some (v,aC)
 |some (v,some (k,r))=>match Ac aC k with
  |some _=>none
  |none=>some (v,ins aC k r)
 |none=>none
def FC (dst:Option Tmp) (p:Prim) (s:St):Option (TV×St):=
 bif Prim.isApp (some p)then match KZ dst p with
  |some id=>(Lr dst s.aC p).map λq=>(q.1,XM id s.tmps s.aB q.2)
  |none=>none
 else bif Prim.isMk (some p)then(mkD (C:=C) dst p s.aC).map λq=>(q.1,⟨s.tmps,s.aB,q.2⟩)
 else(Az (C:=C) dst p s.aB s.aC).map λq=>(q.1,⟨s.tmps,q.2,s.aC⟩)
theorem Q8k (D:Aj P C) {dst:Option Tmp} {p:Prim} (N:Prim.simple (some p)=true) (s:St) (K:TV->St->Option R):
  Bj C dst p s K=(FC (C:=C) dst p s).bind λq=>K q.1 q.2:=by
 cases G:Prim.isApp (some p)with
 |false=>
  cases I:Prim.isMk (some p)with
  |false=>
   rw[Zta D N (by rw[G]) I];unfold FC;rw[G,I];simp only[aq];cases Az (C:=C) dst p s.aB s.aC<;>rfl
  |true=>
   obtain⟨tm,aB,aC⟩:=s;unfold FC;rw[G,I];simp only[aq,ai];cases p<;>simp[Prim.isMk]at I
   case newRow e ks l=>
    simp only[Bj,mkD,mkG];cases dst with
    |none=>rfl
    |some d=>
     dsimp only;cases Ac aC (C.rowAs d)with
     |some _=>rfl
     |none=>simp only[Bo];rfl
   case callF f args=>
    simp only[Bj,mkD,mkG];cases O:C.spec f with
    |none=>rfl
    |some g=>
     dsimp only;cases V:Al TV.plainB args
     ·rfl
     simp only[ai,dv];have J:=D.1 f g O;rw[J.nat];cases X:g (TV×Mem) args ⟨[],[]⟩ (λv m=>some (v,m))with
     |none=>rfl
     |some q=>
      obtain⟨v,⟨S,T⟩⟩:=q;simp only[ah];cases S with
      |cons _ _=>cases v<;>rfl
      |nil=>
       cases T with
       |nil=>
        dsimp only;cases v.plainB<;>rfl
       |cons p l=>
        obtain⟨k,r⟩:=p;cases l with
        |cons _ _=>rfl
        |nil=>
         dsimp only;split
         ·rename_i j w0 Y;cases E:Nat.beq j k
          ·simp only[E,du,iv];rfl
          ·simp only[ai,E,dv];cases M:Ac aC (H3 (dst.getD 0))with
           |some _=>simp only[M];rfl
           |none=>simp only[Bo,M];rfl
         ·rename_i L;cases v with
          |vD=>rfl
          |tup ps=>rfl
          |v g cs=>
           cases g with
           |true=>rfl
           |false=>
            cases cs with
            |nil=>rfl
            |cons a l=>
             cases l with
             |cons _ _=>cases a<;>rfl
             |nil=>cases a<;>first|rfl|exact absurd rfl (L _ _ _)
 |true=>
  obtain⟨tm,aB,aC⟩:=s;cases p<;>simp[Prim.isApp]at G
  rename_i e ks bytes U x;unfold FC;simp only[Prim.isApp,ai,Bj];cases U
  case own id w' n=>
   dsimp only[KZ,Lr,Qe9];cases HI aC ks x with
   |none=>rfl
   |some m=>
    dsimp only;cases Ac aC id with
    |none=>rfl
    |some r=>
     dsimp only;cases(Dy ks r.ks&&Nat.beq r.ty e&&Nat.ble 1 bytes)
     ·rfl
     ·simp only[ai,dv];cases Nat.ble ((r.l++m).length*bytes) 140737488355328
      ·rfl
      ·simp only[ai,dv,Bo];rfl
  case nilSl=>
   dsimp only[KZ,Lr];cases dst with
   |none=>cases HI aC ks x<;>rfl
   |some d=>
    dsimp only[Qnc];cases HI aC ks x with
    |none=>rfl
    |some m=>
     dsimp only;cases Ac aC d with
     |some _=>rfl
     |none=>
      dsimp only;cases(Nat.ble 1 ks.length&&Nat.ble 1 bytes)
      ·rfl
      ·simp only[ai,dv];cases Nat.ble (m.length*bytes) 140737488355328
       ·rfl
       ·simp only[ai,dv,Bo];rfl
  all_goals
   dsimp only[KZ];cases HI aC ks x<;>rfl
theorem Znr (D:Aj P C) {dst:Option Tmp} {p:Prim} {s:St} {K:TV->St->Option R} {r:R} (h:Bj C dst p s K=some r):∃v G,K v G=some r:=by
 obtain⟨tm,aB,aC⟩:=s;cases p<;>simp only[Bj]at h
 case val v=>exact⟨_,_,h⟩
 case newView e ks l=>exact⟨_,_,h⟩
 case load g sz key off=>
  repeat' split at h
  all_goals first|(simp at h;done)|exact⟨_,_,h⟩
 case store key off cs=>
  split at h
  ·rename_i b _;cases hb:Nat.ble (off+cs.length) b.cells.length<;>rw[hb]at h
   ·simp at h
   ·simp only[ai,Bo]at h;exact⟨_,_,h⟩
  ·simp at h
 case new ty cs=>
  split at h
  ·split at h
   ·simp at h
   ·simp only[Bo]at h;exact⟨_,_,h⟩
  ·simp at h
 case newS ty n cs=>
  split at h
  ·split at h
   ·simp at h
   ·simp only[Bo]at h;exact⟨_,_,h⟩
  ·simp at h
 case rload g sz id idx sub=>
  repeat' split at h
  all_goals first|(simp at h;done)|exact⟨_,_,h⟩
 case rstore id idx sub cs=>
  split at h
  ·rename_i I _;cases hb:(Nat.ble (sub+cs.length) I.w&&Al AC.plain cs)<;>rw[hb]at h
   ·simp at h
   ·simp only[ai]at h;split at h
    ·simp only[Bo]at h;exact⟨_,_,h⟩
    ·simp at h
  ·simp at h
 case newRow e ks l=>
  split at h
  ·split at h
   ·simp at h
   ·simp only[Bo]at h;exact⟨_,_,h⟩
  ·simp at h
 case make e ks bytes n z=>
  split at h
  ·split at h
   ·simp at h
   ·obtain⟨_,h⟩:=Ck h;simp only[Bo]at h;exact⟨_,_,h⟩
  ·simp at h
 case cutR id a=>
  split at h
  ·obtain⟨_,h⟩:=Ck h;simp only[Bo]at h;exact⟨_,_,h⟩
  ·simp at h
 case append e ks bytes s x=>
  split at h
  ·split at h
   ·split at h
    ·split at h
     ·simp at h
     ·obtain⟨_,h⟩:=Ck h;obtain⟨_,h⟩:=Ck h;simp only[Bo]at h;exact⟨_,_,h⟩
    ·simp at h
   ·split at h
    ·obtain⟨_,h⟩:=Ck h;obtain⟨_,h⟩:=Ck h;simp only[Bo]at h;exact⟨_,_,h⟩
    ·simp at h
   ·simp at h
  ·simp at h
 case call f args=>
  split at h
  ·rename_i g E;split at h
   ·obtain⟨v,m,h',_⟩:=(D.1 f g E).run h;split at h'
    ·obtain⟨_,h'⟩:=Ck h';exact⟨_,_,h'⟩
    ·simp at h'
   ·simp at h
  ·simp at h
 case callM f args=>
  split at h
  ·rename_i g E;simp only[Bo]at h;obtain⟨_,h⟩:=Ck h;split at h
   ·obtain⟨v,m,h',_⟩:=(D.1 f g E).run h;obtain⟨_,h'⟩:=Ck h';exact⟨_,_,h'⟩
   ·simp at h
  ·simp at h
 case callF f args=>
  split at h
  ·rename_i g E;obtain⟨_,h⟩:=Ck h;obtain⟨v,m,h',_⟩:=(D.1 f g E).run h;split at h'
   ·obtain⟨_,h'⟩:=Ck h';exact⟨_,_,h'⟩
   ·split at h'
    ·obtain⟨_,h'⟩:=Ck h';split at h'
     ·simp at h'
     ·simp only[Bo]at h';exact⟨_,_,h'⟩
    ·simp at h'
   ·simp at h'
  ·simp at h
 case appD e ks bytes s x=>
  split at h
  ·split at h
   ·split at h
    ·obtain⟨_,h⟩:=Ck h;obtain⟨_,h⟩:=Ck h;simp only[Bo]at h;exact⟨_,_,h⟩
    ·simp at h
   ·split at h
    ·split at h
     ·simp at h
     ·obtain⟨_,h⟩:=Ck h;obtain⟨_,h⟩:=Ck h;simp only[Bo]at h;exact⟨_,_,h⟩
    ·simp at h
   ·simp at h
  ·simp at h
 case callD f args=>
  split at h
  ·rename_i g E;simp only[Bo]at h;obtain⟨_,h⟩:=Ck h;split at h
   ·obtain⟨v,m,h',_⟩:=(D.1 f g E).run h;split at h'
    ·obtain⟨_,h'⟩:=Ck h';exact⟨_,_,h'⟩
    ·simp at h'
   ·simp at h
  ·simp at h
theorem Zfx (G:Aj P C) (dst:Option Tmp) (p:Prim) (s:St) (K:TV->St->Option R):Bj C dst p s K=(Bj C dst p s λv N=>some (v,N)).bind λq=>K q.1 q.2:=by
 obtain⟨tm,aB,aC⟩:=s;cases p<;>simp only[Bj,Bo]
 case val v=>rfl
 case newView e ks l=>rfl
 case load g sz key off=>
  cases Ac aB key with
  |none=>rfl
  |some b=>
   dsimp only;cases DV g sz b.cells off<;>rfl
 case store key off cs=>
  cases Ac aB key with
  |none=>rfl
  |some b=>
   dsimp only;cases Nat.ble (off+cs.length) b.cells.length<;>rfl
 case new ty cs=>
  cases dst with
  |none=>rfl
  |some d=>
   dsimp only;cases Ac aB d<;>rfl
 case newS ty n cs=>
  cases dst with
  |none=>rfl
  |some d=>
   dsimp only;cases Ac aB d<;>rfl
 case rload g sz id idx sub=>
  cases Ac aC id with
  |none=>rfl
  |some r=>
   dsimp only;cases DV g sz (r.f idx) sub<;>rfl
 case rstore id idx sub cs=>
  cases Ac aC id with
  |none=>rfl
  |some r=>
   dsimp only;cases(Nat.ble (sub+cs.length) r.w&&Al AC.plain cs)
   ·rfl
   ·simp only[ai];cases IS r.ks (splice (r.f idx) sub cs)<;>rfl
 case newRow e ks l=>
  cases dst with
  |none=>rfl
  |some d=>
   dsimp only;cases Ac aC (C.rowAs d)<;>rfl
 case make e ks bytes n z=>
  cases dst with
  |none=>rfl
  |some d=>
   dsimp only;cases Ac aC d with
   |some _=>rfl
   |none=>
    dsimp only;cases(decide (0<=n)&&decide (n*(bytes:Int)<=140737488355328))<;>rfl
 case cutR id a=>
  cases Ac aC id with
  |none=>rfl
  |some r=>
   dsimp only;cases Nat.ble a r.l.length<;>rfl
 case append e ks bytes s x=>
  cases HI aC ks x with
  |none=>rfl
  |some m=>
   dsimp only;cases s
   case nilSl=>
    dsimp only;cases dst with
    |none=>rfl
    |some d=>
     dsimp only;cases Ac aC d with
     |some _=>rfl
     |none=>
      dsimp only;cases(Nat.ble 1 ks.length&&Nat.ble 1 bytes)
      ·rfl
      ·simp only[ai];cases Nat.ble (m.length*bytes) 140737488355328<;>rfl
   case own id w' n=>
    dsimp only;cases Ac aC id with
    |none=>rfl
    |some r=>
     dsimp only;cases(Dy ks r.ks&&Nat.beq r.ty e&&Nat.ble 1 bytes)
     ·rfl
     ·simp only[ai];cases Nat.ble ((r.l++m).length*bytes) 140737488355328<;>rfl
   all_goals rfl
 case appD e ks bytes s x=>
  cases HI aC ks x with
  |none=>rfl
  |some m=>
   dsimp only;cases s
   case nilSl=>
    dsimp only;cases dst with
    |none=>rfl
    |some d=>
     dsimp only;cases Ac aC d with
     |some _=>rfl
     |none=>
      dsimp only;cases(Nat.ble 1 ks.length&&Nat.ble 1 bytes)
      ·rfl
      ·simp only[ai];cases Nat.ble (m.length*bytes) 140737488355328<;>rfl
   case own id w' n=>
    dsimp only;cases Ac aC id with
    |none=>rfl
    |some r=>
     dsimp only;cases(Dy ks r.ks&&Nat.beq r.ty e&&Nat.ble 1 bytes)
     ·rfl
     ·simp only[ai];cases Nat.ble ((r.l++m).length*bytes) 140737488355328<;>rfl
   all_goals rfl
 case call f args=>
  cases L:C.spec f with
  |none=>rfl
  |some g=>
   dsimp only;cases Hk aC args with
   |none=>rfl
   |some l=>
    dsimp only;have D:=G.1 f g L;rw[D.nat,D.nat (TV×St)];cases g (TV×Mem) l ⟨[],[]⟩ (λv m=>some (v,m))with
    |none=>rfl
    |some q=>
     obtain⟨v,⟨J,M⟩⟩:=q;simp only[ah];cases J with
     |cons _ _=>rfl
     |nil=>
      cases M with
      |cons _ _=>rfl
      |nil=>
       dsimp only;cases((!(args.any TV.hasOwn)||v.flat)&&v.plainB)<;>rfl
 case callM f args=>
  cases L:C.spec f with
  |none=>rfl
  |some g=>
   dsimp only;have D:=G.1 f g L;generalize L_ aB 4 (Bd (cat AC.keys (cat TV.cellsOf args)) [])=keys;generalize OP aB (cat TV.cellsOf args) keys=ids;cases(Al (TV.inK keys ids) args&&Al (λk=>Al (AC.inK keys ids) (Fb aB k)) keys&&B0 keys&&B0 ids)
   ·rfl
   ·simp only[ai];cases Ee aB (λk=>base+pos keys k) (λi=>base+pos ids i) base keys with
    |none=>cases G0 aC base ids<;>rfl
    |some J=>
     cases G0 aC base ids with
     |none=>rfl
     |some M=>
      dsimp only;rw[D.nat,D.nat (TV×St)];cases g (TV×Mem) (args.map (TV.ren (λk=>base+pos keys k) (λi=>base+pos ids i))) ⟨J,M⟩ (λv m=>some (v,m))with
      |none=>rfl
      |some q=>
       obtain⟨v,⟨E,I⟩⟩:=q;simp only[ah];cases(Al (λp:Nat×Box=>ER E p.1) J&&B0 (E.map (·.1))&&B0 (I.map (·.1))&&Al (λk=>IC aB (BW keys (By keys E) (dst.getD 0) k)) (By keys E)&&Al (λk=>IC aC (BW ids (By ids I) (dst.getD 0) k)) (By ids I)&&Nat.ble (By keys E).length 100&&Nat.ble (By ids I).length 100)<;>rfl
 case callF f args=>
  cases L:C.spec f with
  |none=>rfl
  |some g=>
   dsimp only;have D:=G.1 f g L;cases Al TV.plainB args
   ·rfl
   ·simp only[ai];rw[D.nat,D.nat (TV×St)];cases g (TV×Mem) args ⟨[],[]⟩ (λv m=>some (v,m))with
    |none=>rfl
    |some q=>
     obtain⟨v,⟨J,M⟩⟩:=q;simp only[ah];cases J with
     |cons _ _=>rfl
     |nil=>
      cases M with
      |nil=>dsimp only;cases v.plainB<;>rfl
      |cons p l=>
       obtain⟨k,r⟩:=p;cases l with
       |cons _ _=>rfl
       |nil=>
        dsimp only;split
        ·rename_i j w0 O;cases Nat.beq j k
         ·rfl
         ·simp only[ai];cases Ac aC (H3 (dst.getD 0))<;>rfl
        ·rfl
 case callD f args=>
  cases L:C.spec f with
  |none=>rfl
  |some g=>
   dsimp only;have D:=G.1 f g L;generalize Bd (cat AC.keys (cat TV.cellsOf args)) []=keys;cases(Al (TV.inK keys []) args&&Al (λk=>Al AC.calm (Fb aB k)) keys&&B0 keys)
   ·rfl
   ·simp only[ai];cases Ee aB (λk=>base+pos keys k) (λi=>base+pos [] i) base keys with
    |none=>rfl
    |some J=>
     dsimp only;rw[D.nat,D.nat (TV×St)];cases g (TV×Mem) (args.map (TV.ren (λk=>base+pos keys k) (λi=>base+pos [] i))) ⟨J,[]⟩ (λv m=>some (v,m))with
     |none=>rfl
     |some q=>
      obtain⟨v,⟨E,I⟩⟩:=q;simp only[ah];cases I with
      |cons _ _=>rfl
      |nil=>
       dsimp only;cases(Al (λp:Nat×Box=>ER E p.1) J&&Al (λp:Nat×Box=>ER J p.1) E&&B0 (E.map (·.1))&&Al (λp:Nat×Box=>Al AC.calm p.2.cells) E&&v.plainB)<;>rfl
theorem Vw:∀(l:List Nat) (s:St) (K:St->Option R),Jn l s K=(Jn l s some).bind K
 |[],s,K=>rfl
 |id::l,⟨tm,aB,aC⟩,K=>by
  simp only[Jn,Bo];cases Ac aC id with
  |none=>exact Vw l _ K
  |some r=>exact Vw l _ K
theorem Q1t (k o:Nat) (e:TypeId) (s:St) (K:St->Option R):Nt P k o e s K=(Nt P k o e s some).bind K:=by
 obtain⟨tm,aB,aC⟩:=s;simp only[Nt,Bo];cases Ac aB k with
 |none=>rfl
 |some b=>
  dsimp only;cases nth .vD b.cells o<;>try rfl
  dsimp only;cases GE P 8 e with
  |none=>rfl
  |some ks=>
   dsimp only;cases(Nat.ble 1 ks.length&&IC aC (1000000+1000*k+o))<;>rfl
theorem Qf3:∀(l:List (Nat×Nat×TypeId)) (s:St) (K:St->Option R),JH P l s K=(JH P l s some).bind K
 |[],s,K=>rfl
 |(k,o,e)::l,s,K=>by
  simp only[JH];rw[Q1t,Q1t (K:=λD=>JH P l D some)];cases Nt P k o e s some with
  |none=>rfl
  |some D=>exact Qf3 l D K
theorem Wa:∀(l:List (Nat×TypeId)) (s:St) (K:St->Option R),JF P l s K=(JF P l s some).bind K
 |[],s,K=>rfl
 |(t,e)::l,⟨tmps,aB,aC⟩,K=>by
  simp only[JF];split
  ·split
   ·rename_i ks _ _;cases Nat.ble 1 ks.length
    ·rfl
    ·simp only[ai,Bo];exact Wa l _ K
   ·rfl
  ·exact Wa l _ K
theorem Zry (s:St) (K:St->Option R):IE P C s K=(IE P C s some).bind K:=by
 simp only[IE,Bo];rw[Qf3]
 conv=>rhs;rw[Qf3]
 cases JH P (cat (λp:Nat×Box=>bif AW C.ownBut p.1 then []else(C.ownOff p.2.ty).map λq=>(p.1,q.1,q.2)) s.aB) s some with
 |none=>rfl
 |some D=>exact Wa _ _ K
theorem Qyi (o:Op) (s:St) (K:St->Option R):Ja P C o s K=(Ja P C o s some).bind K:=by
 unfold Ja;rw[Vw]
 conv=>rhs;rw[Vw]
 cases Jn (Zbo C (Bb s.tmps) o) s some with
 |none=>rfl
 |some D=>
  simp only[ah];cases XA C o
  ·rfl
  ·exact Zry D K
theorem Zib (G:Aj P C) (pre:Bool) (ops:List Oper) (o:Oper) (s:St) (K:Option Prim->St->Option R):Gh P C pre ops o s K=(Gh P C pre ops o s λp D=>some (p,D)).bind λq=>K q.1 q.2:=by
 have I:∀s:St,((bif pre then Ja P C o.op s else λK=>K s) λs=>opK P C (Bb s.tmps) o.dst o.op λp=>Bj C o.dst (p.dr pre) s λv D=>put D o.dst v (K (some (p.dr pre))))=
   ((bif pre then Ja P C o.op s else λK=>K s) λs=>opK P C (Bb s.tmps) o.dst o.op λp=>Bj C o.dst (p.dr pre) s λv D=>put D o.dst v ((λp D=>some (p,D)) (some (p.dr pre)))).bind λq=>K q.1 q.2:=by
  have J:∀s:St,(opK P C (Bb s.tmps) o.dst o.op λp=>Bj C o.dst (p.dr pre) s λv D=>put D o.dst v (K (some (p.dr pre))))=(opK P C (Bb s.tmps) o.dst o.op λp=>Bj C o.dst (p.dr pre) s λv D=>put D o.dst v ((λp D=>some (p,D)) (some (p.dr pre)))).bind λq=>K q.1 q.2:=by
   intro s;rw[Ra]
   conv=>rhs;rw[Ra]
   cases opK P C (Bb s.tmps) o.dst o.op some with
   |none=>rfl
   |some p=>
    simp only[ah];rw[Zfx G]
    conv=>rhs;rw[Zfx G]
    cases Bj C o.dst (p.dr pre) s λv D=>some (v,D)with
    |none=>rfl
    |some q=>simp only[ah,Nk]
  intro s;cases pre
  ·exact J s
  ·simp only[ai];rw[Qyi]
   conv=>rhs;rw[Qyi]
   cases Ja P C o.op s some with
   |none=>rfl
   |some D=>exact J D
 have E:∀s:St,put s o.dst (.tup []) (K none)=(put s o.dst (.tup []) ((λp D=>some (p,D)) none)).bind λq=>K q.1 q.2:=by
  intro s;simp only[Nk,ah]
 unfold Gh Qq;cases o.guard with
 |none=>exact I s
 |some L=>
  obtain⟨j,want⟩:=L;dsimp only;cases ops[j]? with
  |none=>rfl
  |some M=>
   dsimp only;cases M.dst with
   |none=>rfl
   |some t=>
    dsimp only;split
    ·rename_i g _;cases g
     ·simp only[aq];rw[F4]
      conv=>rhs;rw[F4]
      cases want
      ·exact I _
      ·exact E _
     ·simp only[ai];rw[F4]
      conv=>rhs;rw[F4]
      cases want
      ·exact E _
      ·exact I _
    ·exact E _
    ·rfl
def Cg (ops:List Oper) (o:Oper) (tm:List TV):Option Bool:=
 match o.guard with
 |none=>some true
 |some (j,want)=>match ops[j]? with
  |some D=>match D.dst with
   |some t=>match nth .vD tm t with
    | .c (.bool g)=>some (g==want)
    | .tup []=>some false
    |_=>none
   |none=>none
  |none=>none
def CD (ops:List Oper) (o:Oper) (s:St):Option (Option Prim×St):=
 match Cg ops o s.tmps with
 |some true=>(opK P C (Bb s.tmps) o.dst o.op some).bind λp=>(FC (C:=C) o.dst (p.dr false) s).bind λq=>some (some (p.dr false),SY q.2 o.dst q.1)
 |some false=>some (none,SY s o.dst (.tup []))
 |none=>none
theorem Q8m {tm:List TV} {t:Nat} {v:TV} (h:nth .vD tm t=v) (E:v≠ .vD):setL tm t v=tm:=by
 rw[B5,List.getD]at h;rw[Jj];cases D:tm[t]? with
 |none=>rw[D]at h;simp at h;exact absurd h.symm E
 |some u=>
  rw[D]at h;simp at h;subst h;apply i8;intro i;rw[jg];split
  ·rename_i e;subst e;split
   ·exact D.symm
   ·rename_i G;rw[df (by omega)]
  ·rfl
theorem Z05 (I:Aj P C) {ops:List Oper} {o:Oper} {s:St} {K:Option Prim->St->Option R} {r:R} (h:Gh P C false ops o s K=some r):
  (∃p E,CD (P:=P) (C:=C) ops o s=some (p,E)/\K p E=some r)\/(∃p E,K (some p) E=some r/\Prim.simple (some p)=false):=by
 have J:∀s1:St,Cg ops o s.tmps=some true->s1=s->(opK P C (Bb s1.tmps) o.dst o.op λp=>Bj C o.dst (p.dr false) s1 λv E=>put E o.dst v (K (some (p.dr false))))=some r->
   (∃p E,CD (P:=P) (C:=C) ops o s=some (p,E)/\K p E=some r)\/(∃p E,K (some p) E=some r/\Prim.simple (some p)=false):=by
  rintro s1 M rfl h;rw[Ra]at h;cases O:opK P C (Bb s1.tmps) o.dst o.op some with
  |none=>rw[O]at h;simp at h
  |some p=>
   rw[O]at h;simp only[ah]at h;cases T:Prim.simple (some (p.dr false))
   ·right;obtain⟨v,E,U⟩:=Znr I h;rw[Nk]at U;exact⟨p.dr false,_,U,T⟩
   ·left;rw[Q8k I T]at h;cases S:FC (C:=C) o.dst (p.dr false) s1 with
    |none=>rw[S]at h;simp at h
    |some q=>
     rw[S]at h;simp only[ah,Nk]at h;refine⟨some (p.dr false),_,?_,h⟩;simp only[CD,M,O,ah,S]
 have G:∀s1:St,Cg ops o s.tmps=some false->s1=s->put s1 o.dst (.tup []) (K none)=some r->
   (∃p E,CD (P:=P) (C:=C) ops o s=some (p,E)/\K p E=some r)\/(∃p E,K (some p) E=some r/\Prim.simple (some p)=false):=by
  rintro s1 M rfl h;rw[Nk]at h;exact .inl ⟨none,_,by simp only[CD,M],h⟩
 unfold Gh Qq at h;cases N:o.guard with
 |none=>
  rw[N]at h;exact J s (by simp[Cg,N]) rfl h
 |some Y=>
  obtain⟨j,want⟩:=Y;rw[N]at h;simp only at h;split at h
  ·rename_i oj V;split at h
   ·rename_i t X;split at h
    ·rename_i g L;have M:Cg ops o s.tmps=some (g==want):=by simp only[Cg,N,V,X,L]
     have D:∀b,g=b->(⟨setL s.tmps t (.c (.bool b)),s.aB,s.aC⟩:St)=s:=by
      rintro b rfl;rw[Q8m L (by simp)]
     cases g
     ·simp only[aq]at h;rw[F4]at h;dsimp only at h;cases want
      ·exact J _ (by rw[M];rfl) (D false rfl) h
      ·exact G _ (by rw[M];rfl) (D false rfl) h
     ·simp only[ai]at h;rw[F4]at h;dsimp only at h;cases want
      ·exact G _ (by rw[M];rfl) (D true rfl) h
      ·exact J _ (by rw[M];rfl) (D true rfl) h
    ·rename_i L;exact G _ (by simp only[Cg,N,V,X,L]) rfl h
    ·simp at h
   ·simp at h
  ·simp at h
def I3 (P:Program) (C:Cfg) (ops:List Oper) (m:List Nat) (i:Nat) (o:Oper) (s:St):Option (Option Prim×St):=
 if DI ops m i=true then Gh P C true ops o s λp D=>some (p,D)else CD (P:=P) (C:=C) ops o s
def Sn (P:Program) (C:Cfg) (ops:List Oper) (m:List Nat):List (Nat×Oper×Option Prim)->St->St->Prop
 |[],s,D=>s=D
 |(i,o,p)::l,s,D=>∃s1,I3 P C ops m i o s=some (p,s1)/\Sn P C ops m l s1 D
theorem Qbo (D:Aj P C) {ops:List Oper} {m:List Nat}:∀(l:List Oper) (i:Nat) (s:St) (K:List (Oper×Option Prim)->St->Option R) (r:R),NU P C ops m l i s K=some r->
  (∃(ps:List (Nat×Oper×Option Prim)) (E:St),ps.map (·.2.1)=l/\ps.map (·.1)=List.range' i l.length/\Sn P C ops m ps s E/\K (ps.map (·.2)) E=some r)\/
  (∃(acc:List (Oper×Option Prim)) (E:St),K acc E=some r/\∃(j:Nat) (q:Oper×Option Prim),acc[j]? =some q/\(DI ops m (i+j)||Prim.simple q.2)=false)
 |[],i,s,K,r,h=> .inl ⟨[],s,rfl,rfl,rfl,h⟩
 |o::l,i,s,K,r,h=>by
  simp only[NU]at h;have G:(∃p s1,I3 P C ops m i o s=some (p,s1)/\NU P C ops m l (i+1) s1 (λrest E=>K ((o,p)::rest) E)=some r)\/
    (∃p s1,NU P C ops m l (i+1) s1 (λrest E=>K ((o,some p)::rest) E)=some r/\(DI ops m i||Prim.simple (some p))=false):=by
   cases O:DI ops m i
   ·rw[O]at h;rcases Z05 D h with⟨p,s1,I,J⟩|⟨p,s1,I,J⟩
    ·exact .inl ⟨p,s1,by unfold I3;rw[ab (by rw[O];simp)];exact I,J⟩
    ·exact .inr ⟨p,s1,I,by simpa using J⟩
   ·rw[O,Zib D]at h;cases S:Gh P C true ops o s λp U=>some (p,U)with
    |none=>rw[S]at h;simp at h
    |some q=>
     rw[S]at h;exact .inl ⟨q.1,q.2,by unfold I3;rw[aa O];exact S,h⟩
  rcases G with⟨p,s1,I,J⟩|⟨p,s1,I,J⟩
  ·rcases Qbo D l (i+1) s1 _ r J with⟨ps,E,L,M,N,T⟩|⟨acc,E,L,j,q,M,N⟩
   ·exact .inl ⟨(i,o,p)::ps,E,by simp[L],by simp[M,List.range'_succ],⟨s1,I,N⟩,T⟩
   ·exact .inr ⟨_,E,L,j+1,q,by simp[M],by rw[show i+(j+1)=i+1+j from by omega];exact N⟩
  ·rcases Qbo D l (i+1) s1 _ r I with⟨ps,E,L,M,N,T⟩|⟨acc,E,L,j,q,M,N⟩
   ·exact .inr ⟨_,E,T,0,(o,some p),by simp,J⟩
   ·exact .inr ⟨_,E,L,j+1,q,by simp[M],by rw[show i+(j+1)=i+1+j from by omega];exact N⟩
end
end Go.Bm
