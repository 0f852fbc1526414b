/- the abstract machine -/
import Derived.Test.YtommijghjlikkaaGreatBmFz
import Derived.ArgAppend
import Derived.LoopN
set_option linter.unusedVariables false
set_option linter.unusedSimpArgs false
namespace Go.Bm
open Go.RowKit
section
variable {P:Program} {C:Cfg} {ρ:Env} {w:World} {R:Type} {Z:Base} {tm:List TV} {aA:List (Nat×Box)} {aB:List (Nat×Row)} {tmps:Array Value}
theorem Qq5:∀{l:List (Nat×Nat)} {cs:List AC},JG l cs=true->cs=L5 l
 |[],[],_=>rfl
 |(k,o)::l,a::cs,h=>by
  cases a<;>simp only[JG]at h<;>try (simp at h;done)
  simp only[ak]at h;rw[ac h.1.1,ac h.1.2,Qq5 h.2];rfl
 |[],_::_,h=>by simp[JG]at h
 |_::_,[],h=>by simp[JG]at h
structure Built (aB : List (Nat × Row)) (rl : Nat -> Nat) : Prop where
 rl:∀id r,Ac aB id=some r->rl id=r.l.length
def Seg (l:List AC) (i:Nat) (v:List AC):Prop:=∀j,j<v.length->nth .dead l (i+j)=nth .dead v j
theorem Seg.left {l:List AC} {i:Nat} {v u:List AC} (h:Seg l i (v++u)):Seg l i v:=λj D=>by
 rw[h j (by simp;omega),BW,BW,List.getD,List.getD,List.getElem?_append_left D]
theorem Seg.right {l:List AC} {i:Nat} {v u:List AC} (h:Seg l i (v++u)):Seg l (i+v.length) u:=λj D=>by
 rw[Nat.add_assoc,h (v.length+j) (by simp;omega),BW,BW,List.getD,List.getD,List.getElem?_append_right (by omega)];simp
theorem Seg.one {l:List AC} {i:Nat} {a:AC} (h:Seg l i [a]):nth .dead l i=a:=h 0 (by simp)
theorem Seg.all (l:List AC):Seg l 0 l:=λj _=>by rw[Nat.zero_add]
theorem Z62 {rl:Nat->Nat} (G:Built aB rl) {c:CS} {a:AC} {v:List AC} (h:KT c a=some v) {l:List AC} {i:Nat} (E:Seg l i v):
  (Ey rl l c i).2=i+v.length/\∀x,AC.wf aA aB a->CC ρ w a x->CC ρ w (Ey rl l c i).1 x:=by
 cases c<;>cases a<;>simp only[KT]at h<;>try (simp at h;done)
 case any.dead=>simp at h;subst h;exact⟨rfl,λx _ h=>h.one⟩
 case any.int=>simp at h;subst h;exact⟨rfl,λx _ h=>h.one⟩
 case any.bool=>simp at h;subst h;exact⟨rfl,λx _ h=>h.one⟩
 case any.raw=>simp at h;subst h;exact⟨rfl,λx _ h=>h.one⟩
 case any.nilSl=>simp at h;subst h;exact⟨rfl,λx _ h=>h.one⟩
 case any.ptr=>simp at h;subst h;exact⟨rfl,λx _ h=>h.one⟩
 case any.own=>simp at h;subst h;exact⟨rfl,λx _ h=>h.one⟩
 case any.view=>simp at h;subst h;exact⟨rfl,λx _ h=>h.one⟩
 case any.rptr=>simp at h;subst h;exact⟨rfl,λx _ h=>h.one⟩
 case any.vptr=>simp at h;subst h;exact⟨rfl,λx _ h=>h.one⟩
 case any.clo=>simp at h;subst h;exact⟨rfl,λx _ h=>h.one⟩
 case any.bsl=>simp at h;subst h;exact⟨rfl,λx _ h=>h.one⟩
 case int.int k k' n=>
  cases D:kEq k k'<;>rw[D]at h
  ·simp at h
  ·simp at h;subst h;rw[<-Pw D];refine⟨rfl,λx _ h=> ?_⟩;simp only[Ey,E.one,Af];exact h
 case bool.bool b=>
  simp at h;subst h;refine⟨rfl,λx _ h=> ?_⟩;simp only[Ey,E.one,C_];exact h
 case sl.nilSl ks=>
  simp at h;subst h;refine⟨rfl,λx _ h=> ?_⟩;simp only[CC,CP]at h;subst h;simp only[Ey,E.one,BZ];exact T5 ks
 case sl.view ks I l=>
  cases D:Dq ks I<;>rw[D]at h
  ·simp at h
  ·simp at h;subst h;rw[<-J1 D];refine⟨rfl,λx _ h=> ?_⟩;simp only[Ey,E.one,BZ];exact h
 case rawc.raw v=>
  simp at h;subst h;refine⟨rfl,λx _ h=> ?_⟩;simp only[Ey,E.one];exact h
 case nil.nilSl=>simp at h;subst h;exact⟨rfl,λx _ h=>h⟩
 case ptr.ptr k o k' J=>
  cases D:(Nat.beq k k'&&Nat.beq o J)<;>rw[D]at h
  ·simp at h
  ·simp at h;subst h;simp only[ak]at D;rw[<-ac D.1,<-ac D.2];exact⟨rfl,λx _ h=>h⟩
 case bsl.bsl k o k' J=>
  cases D:(Nat.beq k k'&&Nat.beq o J)<;>rw[D]at h
  ·simp at h
  ·simp at h;subst h;simp only[ak]at D;rw[<-ac D.1,<-ac D.2];exact⟨rfl,λx _ h=>h⟩
 case own.own id wd id' L n=>
  cases D:(Nat.beq id id'&&Nat.beq wd L)<;>rw[D]at h
  ·simp at h
  ·simp at h;subst h;simp only[ak]at D;rw[<-ac D.1,<-ac D.2];refine⟨rfl,λx O h=> ?_⟩;obtain⟨r,S,T,V⟩:=O;show CC ρ w (.own id wd (rl id)) x;rw[G.rl id r S];have:r.l.length=n:=T;rw[this];exact h
 case clo.clo f fs cs U M N=>
  cases D:(Nat.beq f U&&JG fs M&&JG cs N)<;>rw[D]at h
  ·simp at h
  ·simp at h;subst h;simp only[ak]at D;rw[<-ac D.1.1,Qq5 D.1.2,Qq5 D.2];exact⟨rfl,λx _ h=>h⟩
theorem Tg {rl:Nat->Nat} (D:Built aB rl) {l:List AC}:∀{cs:List CS} {as:List AC} {v:List AC},G3 cs as=some v->∀{i},Seg l i v->
  (Ez rl l cs i).2=i+v.length/\(Ez rl l cs i).1.length=as.length/\∀xs,(∀a∈as,AC.wf aA aB a)->CL (CC ρ w) as xs->CL (CC ρ w) (Ez rl l cs i).1 xs
 |[],[],v,h,i,_=>by simp[G3]at h;subst h;exact⟨rfl,rfl,λxs _ h=>h⟩
 |c::cs,a::as,v,h,i,J=>by
  simp only[G3]at h;split at h
  ·rename_i U M;split at h
   ·rename_i V N;simp at h;subst h;obtain⟨E,G⟩:=Z62 (ρ:=ρ) (w:=w) (aA:=aA) D M J.left;obtain⟨O,S,T⟩:=Tg D N J.right;simp only[Ez];generalize hb:Ey rl l c i=q at E G;obtain⟨b,X⟩:=q;simp only at E G;subst E;refine⟨by simp only[O,ao];omega,by simp[S],λxs L I=> ?_⟩;cases xs with
    |nil=>exact I.elim
    |cons x xs=>exact⟨G x (L a (by simp)) I.1,T xs (λb hb=>L b (by simp[hb])) I.2⟩
   ·simp at h
  ·simp at h
 |[],_::_,v,h,_,_=>by simp[G3]at h
 |_::_,[],v,h,_,_=>by simp[G3]at h
theorem Q2z {rl:Nat->Nat} (E:Built aB rl) {l:List AC}:∀{ps:List (Bool×List CS)} {I:List (Bool×List AC)} {v:List AC},L9 ps I=some v->∀{i},Seg l i v->
  (HA rl l ps i).2=i+v.length/\∀xs,(∀p∈I,∀a∈p.2,AC.wf aA aB a)->TP ρ w I xs->TP ρ w (HA rl l ps i).1 xs
 |[],[],v,h,i,_=>by simp[L9]at h;subst h;exact⟨rfl,λxs _ h=>h⟩
 |(g,cs)::ps,(S,as)::I,v,h,i,T=>by
  simp only[L9]at h;cases U:(g==S)<;>rw[U]at h
  ·simp at h
  ·simp only[ai]at h;have M:g=S:=by simpa using U
   subst M;split at h
   ·rename_i v1 X;split at h
    ·rename_i v2 Y;simp at h;subst h;obtain⟨N,J,L⟩:=Tg (ρ:=ρ) (w:=w) (aA:=aA) E X T.left;obtain⟨p1,p2⟩:=Q2z E Y T.right;simp only[HA];generalize hb:Ez rl l cs i=q at N L J;obtain⟨b,i'⟩:=q;simp only at N L J;subst N;refine⟨by simp only[p1,ao];omega,λxs V O=> ?_⟩;cases xs with
     |nil=>exact O.elim
     |cons x xs=>
      refine⟨?_,p2 xs (λp hp=>V p (by simp[hp])) O.2⟩;have G:=O.1;have D:=V (g,as) (by simp);cases g
      ·obtain⟨a,e1,e2⟩:=G;dsimp only at e1 D;subst e1;have:=L [x] D ⟨e2,trivial⟩;cases b with
       |nil=>simp at J
       |cons c b=>
        cases b with
        |nil=>exact⟨c,rfl,this.1⟩
        |cons=>simp at J
      ·obtain⟨ys,e1,e2⟩:=G;exact⟨ys,e1,L _ D e2⟩
    ·simp at h
   ·simp at h
 |[],_::_,v,h,_,_=>by simp[L9]at h
 |(_,_)::_,[],v,h,_,_=>by simp[L9]at h
theorem Z22 {rl:Nat->Nat} (G:Built aB rl) {t:TS} {u:TV} {v:List AC} (h:JU t u=some v) {l:List AC} {i:Nat} (N:Seg l i v):
  (HZ rl l t i).2=i+v.length/\∀x,TV.wf aA aB u->TVR ρ w u x->TVR ρ w (HZ rl l t i).1 x:=by
 cases t with
 |dead=>simp[JU]at h;subst h;exact⟨rfl,λ_ _ _=>trivial⟩
 |v g cs=>
  cases u with
  |dead=>simp[JU]at h
  |tup=>simp[JU]at h
  |v O as=>
   simp only[JU]at h;cases S:(g==O)<;>rw[S]at h
   ·simp at h
   ·simp only[ai]at h;have L:g=O:=by simpa using S
    subst L;obtain⟨E,I,D⟩:=Tg (ρ:=ρ) (w:=w) (aA:=aA) G h N;simp only[HZ];generalize hb:Ez rl l cs i=q at E D I;obtain⟨b,U⟩:=q;simp only at E D I;refine⟨E,λx J T=> ?_⟩;cases g
    ·obtain⟨a,rfl,e2⟩:=T;have:=D [x] J ⟨e2,trivial⟩;cases b with
     |nil=>simp at I
     |cons c b=>
      cases b with
      |nil=>exact⟨c,rfl,this.1⟩
      |cons=>simp at I
    ·obtain⟨M,rfl,e2⟩:=T;exact⟨M,rfl,D _ J e2⟩
 |tup ps=>
  cases u with
  |dead=>simp[JU]at h
  |v=>simp[JU]at h
  |tup V=>
   simp only[JU]at h;obtain⟨E,D⟩:=Q2z (ρ:=ρ) (w:=w) (aA:=aA) G h N;simp only[HZ];generalize hb:HA rl l ps i=q at E D;obtain⟨b,U⟩:=q;simp only at E D;exact⟨E,λx J ⟨M,e1,e2⟩=>⟨M,e1,D _ J e2⟩⟩
theorem Ux {rl:Nat->Nat} (D:Built aB rl) {l:List AC}:∀{E:List TS} {G:List TV} {v:List AC},KR E G=some v->∀{i},Seg l i v->
  (Fy rl l E i).2=i+v.length/\(Fy rl l E i).1.length=G.length/\∀(n:Nat) (b:TV),(Fy rl l E i).1[n]? =some b->∃u,G[n]? =some u/\∀x,TV.wf aA aB u->TVR ρ w u x->TVR ρ w b x
 |[],[],v,h,i,_=>by simp[KR]at h;subst h;exact⟨rfl,rfl,λi b h=>by simp[Fy]at h⟩
 |t::E,u::G,v,h,i,M=>by
  simp only[KR]at h;split at h
  ·rename_i X N;split at h
   ·rename_i Y O;simp at h;subst h;obtain⟨I,J⟩:=Z22 (ρ:=ρ) (w:=w) (aA:=aA) D N M.left;obtain⟨S,T,U⟩:=Ux D O M.right;simp only[Fy];generalize hb:HZ rl l t i=q at I J;obtain⟨b,i'⟩:=q;simp only at I J;subst I;refine⟨by simp only[S,ao];omega,by simp[T],λn c L=> ?_⟩;cases n with
    |zero=>simp at L;subst L;exact⟨u,rfl,J⟩
    |succ n=>obtain⟨V,e1,e2⟩:=U n c (by simpa using L);exact⟨V,by simpa using e1,e2⟩
   ·simp at h
  ·simp at h
 |[],_::_,v,h,_,_=>by simp[KR]at h
 |_::_,[],v,h,_,_=>by simp[KR]at h
theorem Q13 {rl:Nat->Nat} (G:Built aB rl) {l:List AC}:∀{bs:List (Nat×TypeId×List CS)} {v:List AC},J7 bs aA=some v->∀{i},Seg l i v->
  ∀k b,Ac (FG rl l bs i) k=some b->k∈bs.map (·.1)/\∃E,Ac aA k=some E/\b.ty=E.ty/\∀xs,(∀a∈E.cells,AC.wf aA aB a)->CL (CC ρ w) E.cells xs->CL (CC ρ w) b.cells xs
 |[],v,h,i,_,k,b,D=>by simp[FG,Ac]at D
 |(j,t,cs)::bs,v,h,i,N,k,b,D=>by
  simp only[J7]at h;split at h
  ·rename_i E J;cases O:Nat.beq t E.ty<;>rw[O]at h
   ·simp at h
   ·simp only[ai]at h;split at h
    ·rename_i Y U;split at h
     ·rename_i v2 V;simp at h;subst h;obtain⟨L,S,M⟩:=Tg (ρ:=ρ) (w:=w) (aA:=aA) G U N.left;simp only[FG]at D;generalize hb:Ez rl l cs i=q at L M S D;obtain⟨c,i'⟩:=q;simp only at L M S D;subst L;simp only[Ac]at D;cases I:Nat.beq j k<;>rw[I]at D
      ·obtain⟨T,X⟩:=Q13 G V N.right k b D;exact⟨by simp at T⊢;exact .inr T,X⟩
      ·have:=ac I;subst this;simp at D;subst D;exact⟨by simp,E,J,ac O,M⟩
     ·simp at h
    ·simp at h
  ·simp at h
theorem Qsb {l:List AC}:∀{rs:List (Nat×TypeId×List Kd)} {v:List AC},JO rs aB=some v->∀{i},Seg l i v->
  (Hk l rs i).2=i+v.length/\(∀id r,Ac (Hk l rs i).1 id=some r->Ac aB id=some r)/\∀id t ks,Ac rs id=some (t,ks)->∃r,Ac (Hk l rs i).1 id=some r/\r.ks=ks
 |[],v,h,i,_=>by simp[JO]at h;subst h;exact⟨rfl,λid r h=>by simp[Hk,Ac]at h,λid t ks h=>by simp[Ac]at h⟩
 |(k,t,ks)::rs,v,h,i,O=>by
  simp only[JO]at h;split at h
  ·rename_i r S;cases hb:(Nat.beq t r.ty&&Dq ks r.ks)<;>rw[hb]at h
   ·simp at h
   ·simp only[ai]at h;simp only[ak]at hb;split at h
    ·rename_i T I;simp at h;subst h;have E:Seg l i ([.view ks r.l]++T):=O;obtain⟨J,L,M⟩:=Qsb I (i:=i+1) E.right;simp only[Hk,E.left.one,BZ];generalize V:Hk l rs (i+1)=q at J L M;obtain⟨B,X⟩:=q;simp only at J L M;refine⟨by simp only[J,bh];omega,λid r' D=> ?_,λid U N D=> ?_⟩
     ·simp only[Ac]at D;cases G:Nat.beq k id<;>rw[G]at D
      ·exact L id r' D
      ·have:=ac G;subst this;simp at D;subst D;rw[S,ac hb.1,J1 hb.2]
     ·simp only[Ac]at D⊢;cases G:Nat.beq k id<;>rw[G]at D
      ·simp only[an]at D⊢;exact M id U N D
      ·simp at D;obtain⟨_,rfl⟩:=D;exact⟨_,rfl,rfl⟩
    ·simp at h
  ·simp at h
section names
variable {keys:List Nat} {rs:List (Nat×TypeId×List Kd)} {B':List (Nat×Box)} {R':List (Nat×Row)} {rl:Nat->Nat}
theorem Qfm (E:∀k∈keys,∃b,Ac B' k=some b):∀(l:List (Nat×Nat)),Ak (λp:Nat×Nat=>AP keys p.1) l=true->∀a∈L5 l,AC.wfP B' a
 |[],_,a,D=>by simp[L5]at D
 |(k,o)::l,h,a,D=>by
  have G:=Ax.1 h;simp only[L5,av]at D;rcases D with rfl|D
  ·exact E k (Fz.1 (G (k,o) (by simp)))
  ·exact Qfm E l (Ax.2 λp I=>G p (by simp[I])) a D
theorem Zob (E:∀k∈keys,∃b,Ac B' k=some b) (G:∀id t ks,Ac rs id=some (t,ks)->∃r,Ac R' id=some r/\r.ks=ks/\rl id=r.l.length) {c:CS} (D:c.okB keys rs=true) (l:List AC) (i:Nat):AC.wf B' R' (Ey rl l c i).1:=by
 cases c<;>simp only[Ey]<;>try trivial
 case rawc=>simp only[Mm];split<;>trivial
 case ptr k o=>exact E k (Fz.1 D)
 case bsl k o=>exact E k (Fz.1 D)
 case own id wd=>
  simp only[CS.okB]at D;split at D
  ·rename_i t ks I;obtain⟨r,J,L,M⟩:=G id t ks I;refine⟨r,J,M.symm,?_⟩;show r.ks.length=wd;rw[L];exact ac D
  ·simp at D
 case clo f fs cs=>
  simp only[CS.okB,ak]at D;exact⟨Qfm E fs D.1,Qfm E cs D.2⟩
theorem R4 (E:∀k∈keys,∃b,Ac B' k=some b) (G:∀id t ks,Ac rs id=some (t,ks)->∃r,Ac R' id=some r/\r.ks=ks/\rl id=r.l.length):∀{cs:List CS},Ak (CS.okB keys rs) cs=true->∀(l:List AC) (i:Nat),∀a∈(Ez rl l cs i).1,AC.wf B' R' a
 |[],_,l,i,a,D=>by simp[Ez]at D
 |c::cs,h,l,i,a,D=>by
  have I:=Ax.1 h;simp only[Ez,av]at D;rcases D with rfl|D
  ·exact Zob E G (I c (by simp)) l i
  ·exact R4 E G (Ax.2 λc J=>I c (by simp[J])) l _ a D
theorem Q0c (E:∀k∈keys,∃b,Ac B' k=some b) (G:∀id t ks,Ac rs id=some (t,ks)->∃r,Ac R' id=some r/\r.ks=ks/\rl id=r.l.length):∀{ps:List (Bool×List CS)},Ak (λp:Bool×List CS=>Ak (CS.okB keys rs) p.2) ps=true->∀(l:List AC) (i:Nat),∀p∈(HA rl l ps i).1,∀a∈p.2,AC.wf B' R' a
 |[],_,l,i,p,D=>by simp[HA]at D
 |(g,cs)::ps,h,l,i,p,D=>by
  have I:=Ax.1 h;simp only[HA,av]at D;rcases D with rfl|D
  ·exact R4 E G (I (g,cs) (by simp)) l i
  ·exact Q0c E G (Ax.2 λc J=>I c (by simp[J])) l _ p D
theorem Zn5 (D:∀k∈keys,∃b,Ac B' k=some b) (E:∀id t ks,Ac rs id=some (t,ks)->∃r,Ac R' id=some r/\r.ks=ks/\rl id=r.l.length) {t:TS} (G:t.okB keys rs=true) (l:List AC) (i:Nat):TV.wf B' R' (HZ rl l t i).1:=by
 cases t with
 |dead=>trivial
 |v g cs=>exact R4 D E G l i
 |tup ps=>exact Q0c D E G l i
theorem Qic (E:∀k∈keys,∃b,Ac B' k=some b) (G:∀id t ks,Ac rs id=some (t,ks)->∃r,Ac R' id=some r/\r.ks=ks/\rl id=r.l.length):∀{ts:List TS},Ak (TS.okB keys rs) ts=true->∀(l:List AC) (i:Nat),∀v∈(Fy rl l ts i).1,TV.wf B' R' v
 |[],_,l,i,v,D=>by simp[Fy]at D
 |t::ts,h,l,i,v,D=>by
  have I:=Ax.1 h;simp only[Fy,av]at D;rcases D with rfl|D
  ·exact Zn5 E G (I t (by simp)) l i
  ·exact Qic E G (Ax.2 λc J=>I c (by simp[J])) l _ v D
theorem Q9m (D:∀k∈keys,∃b,Ac B' k=some b) (E:∀id t ks,Ac rs id=some (t,ks)->∃r,Ac R' id=some r/\r.ks=ks/\rl id=r.l.length):∀{bs:List (Nat×TypeId×List CS)},Ak (λp:Nat×TypeId×List CS=>Ak (CS.okB keys rs) p.2.2) bs=true->∀(l:List AC) (i k:Nat) (b:Box),Ac (FG rl l bs i) k=some b->∀a∈b.cells,AC.wf B' R' a
 |[],_,l,i,k,b,hb=>by simp[FG,Ac]at hb
 |(j,t,cs)::bs,h,l,i,k,b,hb=>by
  have G:=Ax.1 h;simp only[FG,Ac]at hb;cases I:Nat.beq j k<;>rw[I]at hb
  ·exact Q9m D E (Ax.2 λc J=>G c (by simp[J])) l _ k b hb
  ·simp at hb;subst hb;exact R4 D E (G (j,t,cs) (by simp)) l i
end names
theorem Q1f {rl:Nat->Nat} (l:List AC):∀(bs:List (Nat×TypeId×List CS)) (i k:Nat),k∈bs.map (·.1)->∃b,Ac (FG rl l bs i) k=some b
 |[],_,k,h=>by simp at h
 |(j,t,cs)::bs,i,k,h=>by
  simp only[FG,Ac];cases D:Nat.beq j k
  ·have:k∈bs.map (·.1):=by
    simp only[bj,av]at h;exact h.resolve_left λe=>Hi D e.symm
   exact Q1f l bs _ k this
  ·exact⟨_,rfl⟩
theorem RelE.rebuild {sk:Sk} {vars:List AC} (h:RelE Z tm aA aB ρ tmps w) (hZ:∀k b,Z.K0 k=some b->GC k=true) (V:sk.okB=true) (J:FU sk ⟨tm,aA,aB⟩=some vars):
  RelE Z (BC sk vars).tmps (BC sk vars).aA (BC sk vars).aB ρ tmps w:=by
 simp only[FU]at J;obtain ⟨a6, J⟩ : Ak (λp : Nat × Box => !(GC p.1) || AP (sk.aA.map (·.1)) p.1) aA = true /\ (match JO sk.aB aB with
  |some a=>match KR sk.tmps tm with
   |some b=>match J7 sk.aA aA with
    |some c=>some (a++(b++c))
    |none=>none
   |none=>none
  |none=>none)=some vars:=by
  revert J
  generalize Ak (λp:Nat×Box=> !(GC p.1)||AP (sk.aA.map (·.1)) p.1) aA=q;intro J;cases q
  ·simp at J
  ·exact⟨rfl,J⟩
 split at J
 ·rename_i S a7;split at J
  ·rename_i vb a8;split at J
   ·rename_i vc a9;simp at J;subst J;have T:=Seg.all (S++(vb++vc));generalize L:S++(vb++vc)=l at T⊢;rw[<-L]at T;have b1:Seg l 0 S:=by rw[<-L];exact(Seg.all _).left
    have b2:Seg l (0+S.length) vb:=by rw[<-L];exact(Seg.all _).right.left
    have b3:Seg l (0+S.length+vb.length) vc:=by rw[<-L];exact(Seg.all _).right.right
    obtain⟨r1,U,r3⟩:=Qsb a7 b1;simp only[BC];generalize hR:Hk l sk.aB 0=qr at r1 U r3;obtain⟨R',ir⟩:=qr;simp only at r1 U r3⊢;subst r1;have c0:sk.okB=true:=V;simp only[Sk.okB,ak]at V;obtain⟨⟨⟨c1,c2⟩,a2⟩,a3⟩:=V
    have a4:∀id r,Ac R' id=some r->Ec R' id=r.l.length:=λid r L=>by simp only[Ec,L]
    have G:∀k∈sk.aA.map (·.1),∃b,Ac (FG (Ec R') l sk.aA (0+S.length+vb.length)) k=some b:=λk M=>Q1f l sk.aA _ k M;have X:∀id t ks,Ac sk.aB id=some (t,ks)->∃r,Ac R' id=some r/\r.ks=ks/\Ec R' id=r.l.length:=λid t ks L=>by
     obtain⟨r,I,Y⟩:=r3 id t ks L;exact⟨r,I,Y,a4 id r I⟩
    let D:Nat->Nat:=λid=>match Ac aB id with
     |some r=>r.l.length
     |none=>0
    have a5:Built aB D:=⟨λid r L=>by simp only[D,L]⟩;have a0:∀id t ks,Ac sk.aB id=some (t,ks)->D id=Ec R' id:=λid t ks L=>by
     obtain⟨r,I,_,q3⟩:=X id t ks L;simp only[D,U id r I,q3]
    have eC:∀(c:CS) (i:Nat),c.okB (sk.aA.map (·.1)) sk.aB=true->Ey D l c i=Ey (Ec R') l c i:=by
     intro c i E;cases c<;>try rfl
     rename_i id wd;simp only[CS.okB]at E;split at E
     ·rename_i t ks L;simp only[Ey,a0 id t ks L]
     ·simp at E
    have a1:∀(cs:List CS) (i:Nat),Ak (CS.okB (sk.aA.map (·.1)) sk.aB) cs=true->Ez D l cs i=Ez (Ec R') l cs i:=by
     intro cs;induction cs with
     |nil=>intro i _;rfl
     |cons c cs ih=>
      intro i E;have N:=Ax.1 E;simp only[Ez];rw[eC c i (N c (by simp))];rw[ih _ (Ax.2 λc E=>N c (by simp[E]))]
    have b4:∀(ps:List (Bool×List CS)) (i:Nat),Ak (λp:Bool×List CS=>Ak (CS.okB (sk.aA.map (·.1)) sk.aB) p.2) ps=true->HA D l ps i=HA (Ec R') l ps i:=by
     intro ps;induction ps with
     |nil=>intro i _;rfl
     |cons p ps ih=>
      intro i E;obtain⟨g,cs⟩:=p;have N:=Ax.1 E;simp only[HA];rw[a1 cs i (N (g,cs) (by simp))];rw[ih _ (Ax.2 λc E=>N c (by simp[E]))]
    have eT:∀(t:TS) (i:Nat),t.okB (sk.aA.map (·.1)) sk.aB=true->HZ D l t i=HZ (Ec R') l t i:=by
     intro t i ht;cases t with
     |dead=>rfl
     |v g cs=>simp only[HZ];rw[a1 cs i ht]
     |tup ps=>simp only[HZ];rw[b4 ps i ht]
    have b5:∀(ts:List TS) (i:Nat),Ak (TS.okB (sk.aA.map (·.1)) sk.aB) ts=true->Fy D l ts i=Fy (Ec R') l ts i:=by
     intro ts;induction ts with
     |nil=>intro i _;rfl
     |cons c cs ih=>
      intro i E;have N:=Ax.1 E;simp only[Fy];rw[eT c i (N c (by simp))];rw[ih _ (Ax.2 λc E=>N c (by simp[E]))]
    have b6:∀(bs:List (Nat×TypeId×List CS)) (i:Nat),Ak (λp:Nat×TypeId×List CS=>Ak (CS.okB (sk.aA.map (·.1)) sk.aB) p.2.2) bs=true->FG D l bs i=FG (Ec R') l bs i:=by
     intro bs;induction bs with
     |nil=>intro i _;rfl
     |cons p bs ih=>
      intro i E;obtain⟨k,t,cs⟩:=p;have N:=Ax.1 E;simp only[FG];rw[a1 cs i (N (k,t,cs) (by simp))];rw[ih _ (Ax.2 λc E=>N c (by simp[E]))]
    have hT:=Ux (ρ:=ρ) (w:=w) (aA:=aA) a5 a8 b2;rw[b5 sk.tmps _ a2]at hT;obtain⟨t1,t2,t3⟩:=hT;have tw:=Qic (rl:=Ec R') G X a2 l (0+S.length);generalize c3:Fy (Ec R') l sk.tmps (0+S.length)=qt at t1 t2 t3 tw;obtain⟨T',it⟩:=qt;simp only at t1 t2 t3 tw⊢;subst t1;have hB:=Q13 (ρ:=ρ) (w:=w) a5 a9 b3;rw[b6 sk.aA _ a3]at hB;refine⟨by rw[t2];exact h.tl,λi v O=> ?_,tw,Q9m G X a3 l _,λk b M=> ?_,λk k' b b' M b7 he=> ?_,λid r O=>h.ro id r (U id r O),λid id' r r' g O b8=>h.ri id id' r r' g (U id r O) (U id' r' b8),λk b id r M O=> ?_,λb hb=> ?_,h.fr,h.fs,h.i0,h.i1,λk b M=> ?_⟩
    ·obtain⟨u,hu,hx⟩:=t3 i v O;exact hx _ (h.wt u (bt hu)) (h.tv i u hu)
    ·obtain⟨_,b0,I,Y,q3⟩:=hB k b M;obtain⟨arr,p1,p2,p3⟩:=h.bx k b0 I;exact⟨arr,by rw[Y];exact p1,q3 _ (h.wb k b0 I) p2,p3⟩
    ·obtain⟨_,b0,I,_⟩:=hB k b M;obtain⟨_,c4,b9,_⟩:=hB k' b' b7;exact h.bi k k' _ _ I b9 he
    ·obtain⟨_,b0,I,_⟩:=hB k b M;exact h.br k b0 id r I (U id r O)
    ·obtain⟨I,Y,q3⟩:=h.ib b hb;exact⟨I,λk bo M=>by obtain⟨_,b0,p1,_⟩:=hB k bo M;exact Y k b0 p1,λid r O=>q3 id r (U id r O)⟩
    ·obtain⟨I,bo,Y⟩:=h.k0 k b M;refine⟨I,G k ?_⟩;have:=Ax.1 a6 (k,bo) (OS Y);simp only[hZ k b M,Bool.not_true,Bool.false_or]at this;exact Fz.1 this
   ·simp at J
  ·simp at J
 ·simp at J
end
open Go.RowKit
section
variable {P:Program} {C:Cfg} {ρ:Env} {w:World} {R:Type} {Z:Base} {tm:List TV} {aA:List (Nat×Box)} {aB:List (Nat×Row)} {tmps:Array Value}
theorem GR {α:Type}:∀(l:List α) (o:Nat) (D:List α),o+D.length<=l.length->splice l o D=l.take o++D++l.drop (o+D.length)
 |l,o,[],h=>by simp[Rt]
 |[],o,_::_,h=>by simp at h
 |x::l,0,v::D,h=>by
  simp only[splice,List.take_zero,ay,aq];rw[GR l 0 D (by simp at h⊢;omega)];simp
 |x::l,o+1,v::D,h=>by
  simp only[splice];rw[GR l o (v::D) (by simp at h⊢;omega)];simp only[List.take_succ_cons,aq,bh];rw[show o+1+(D.length+1)=(o+(D.length+1))+1 from by omega,List.drop_succ_cons]
theorem Qxm {t:TypeId} {x:Value} {b off:Nat} {cur:Array Value} {ty:TypeId} (G:szT P t=some x.cells.toList.length) (hb:w.heap[b]? =some (.cells cur ty (0,0)))
  (E:off+x.cells.toList.length<=cur.size) (I:∀v∈x.cells.toList,v.oneCell'=true):
  (storeVar t ⟨b,off,none⟩ x).run P w= .ok () (w.setRow b (splice cur.toList off x.cells.toList).toArray):=by
 have:=run_storeCells_at P b off ty x.cells.toList 0 cur w hb (by simpa using E) I;simp only[Nat.add_zero]at this;have D:=Ej G w;simp only[storeVar,Sem.run_bind,D,cy];rw[GR _ _ _ (by simpa using E)];rw[ab (by simp)];exact this
theorem Z1k {α:Type} (xs D:List α) (i wd sub n:Nat) (I:i<n) (M:xs.length=n*wd) (J:sub+D.length<=wd):
  cut (splice xs (i*wd+sub) D) (i*wd) wd=splice (cut xs (i*wd) wd) sub D:=by
 have hle:i*wd+wd<=n*wd:=by
  calc i*wd+wd=(i+1)*wd:=by rw[Nat.add_mul,Nat.one_mul]
   _<=n*wd:=bf _ I
 have E:(cut xs (i*wd) wd).length=wd:=by simp[cut];omega
 rw[GR _ _ _ (by omega),GR _ _ _ (by rw[E];exact J)];apply List.ext_getElem?;intro j;simp only[cut,List.getElem?_take,List.getElem?_drop,List.getElem?_append,List.length_take,ao,bq];by_cases G:j<wd
 ·rw[aa G];by_cases L:j<sub
  ·rw[aa (by omega),aa (by omega),aa (by omega),aa (by omega),aa (by omega),aa L,aa G]
  ·by_cases N:j<sub+D.length
   ·rw[aa (by omega),ab (by omega),aa (by omega),ab (by omega)];congr 1;omega
   ·rw[ab (by omega),ab (by omega),aa (by omega)];congr 1;omega
 ·rw[ab G,ab (by omega)];rw[ab (by omega)]
theorem Zj1 {α:Type} (xs I:List α) (i j wd sub n:Nat) (J:i<n) (G:j≠i) (L:xs.length=n*wd) (M:sub+I.length<=wd):
  cut (splice xs (i*wd+sub) I) (j*wd) wd=cut xs (j*wd) wd:=by
 have hle:i*wd+wd<=n*wd:=by
  calc i*wd+wd=(i+1)*wd:=by rw[Nat.add_mul,Nat.one_mul]
   _<=n*wd:=bf _ J
 rw[GR _ _ _ (by omega)];have D:j*wd+wd<=i*wd\/i*wd+wd<=j*wd:=by
  rcases Nat.lt_or_gt_of_ne G with h|h
  ·left
   calc j*wd+wd=(j+1)*wd:=by rw[Nat.add_mul,Nat.one_mul]
    _<=i*wd:=bf _ h
  ·right
   calc i*wd+wd=(i+1)*wd:=by rw[Nat.add_mul,Nat.one_mul]
    _<=j*wd:=bf _ h
 apply List.ext_getElem?;intro k;simp only[cut,List.getElem?_take,List.getElem?_drop,List.getElem?_append,List.length_take,ao];by_cases E:k<wd
 ·rw[aa E,aa E];rcases D with h|h
  ·rw[aa (by omega),aa (by omega),aa (by omega)]
  ·rw[ab (by omega)];congr 1;omega
 ·rw[ab E,ab E]
theorem Z8b {o:Oper} {a:Act} {f:FuncId} {xs:List Value} {next:Act->World->Prop} {Q:Exit->Act->World->Prop} (D:Qv P f) (he:execOp a.eval o=callFunc f xs.toArray)
  (h:Calls P f xs.toArray w λe w'=>∃x,e= .returned x/\next (a.put o.dst x) w'):o.wp P a w next Q:=by
 obtain⟨L,E,G,I⟩:=D;unfold Oper.wp;have:(execOp a.eval o).run P w= .ok (.enter f xs.toArray) w:=by
  rw[he];simp only[callFunc,Sem.run_bind,run_program,cy,E];rw[ab (by rw[G];simp),ab (by rw[I];simp)];rfl
 rw[this,Oper.upon_enter];refine h.mono λe w' ⟨x,he,J⟩=> ?_;subst he;exact J
theorem Ub {o:Oper} {a:Act} {f:FuncId} {xs:List Value} {next:Act->World->Prop} {Q:Exit->Act->World->Prop} (he:execOp a.eval o=callFunc f xs.toArray)
  (h:CallsX P f xs.toArray w λe w'=>∃x,e= .returned x/\next (a.put o.dst x) w'):o.wp P a w next Q:=by
 rcases h with⟨E,D⟩|⟨x,w',E,y,D,G⟩
 ·exact Z8b E he D
 ·simp only[Ending.returned.injEq]at D;subst D;unfold Oper.wp;rw[he,E];exact G
theorem H9 {o:Oper} {a:Act} {x:Value} {w':World} {next:Act->World->Prop} {Q:Exit->Act->World->Prop} (he:(execOp a.eval o).run P w= .ok (.value x) w') (h:next (a.put o.dst x) w'):o.wp P a w next Q:=by
 unfold Oper.wp;rw[he];exact h
theorem Zaq {o:Oper} {a:Act} {w':World} {next:Act->World->Prop} {Q:Exit->Act->World->Prop} (he:(execOp a.eval o).run P w= .ok .skip w') (h:next (a.put o.dst undef) w'):o.wp P a w next Q:=by
 unfold Oper.wp;rw[he];exact h
theorem CL.one {l:List AC} {xs:List Value} (h:CL (CC ρ w) l xs):∀v∈xs,v.oneCell'=true:=by
 induction l generalizing xs with
 |nil=>cases xs<;>first|(intro v D;simp at D;done)|exact h.elim
 |cons a l E=>
  cases xs with
  |nil=>exact h.elim
  |cons y xs=>
   intro v D;simp only[av]at D;rcases D with rfl|D
   ·exact h.1.one
   ·exact E h.2 v D
theorem CL.oneP {im:Nat->Prop} {l:List AC} {xs:List Value} (h:CL (CP im w) l xs):∀v∈xs,v.oneCell'=true:=by
 induction l generalizing xs with
 |nil=>cases xs<;>first|(intro v D;simp at D;done)|exact h.elim
 |cons a l E=>
  cases xs with
  |nil=>exact h.elim
  |cons y xs=>
   intro v D;simp only[av]at D;rcases D with rfl|D
   ·exact h.1.one
   ·exact E h.2 v D
theorem RowC.one {im:Nat->Prop} {ks:List Kd} {l:List (List AC)} {xs:List Value} (h:RowC im w ks l xs) (D:0<ks.length):∀v∈xs,v.oneCell'=true:=by
 intro v I;obtain⟨j,E,rfl⟩:=List.getElem_of_mem I;have G:j/ks.length<l.length:=by rw[Nat.div_lt_iff_lt_mul D];rw[h.1]at E;exact E
 have J:j%ks.length<ks.length:=Nat.mod_lt _ D;refine(h.2.2 (j/ks.length) _ (ah G)).oneP _ ?_;have:(cut xs (j/ks.length*ks.length) ks.length)[j%ks.length]? =some xs[j]:=by
  simp only[cut,List.getElem?_take,J,if_true,List.getElem?_drop];rw[show j/ks.length*ks.length+j%ks.length=j from by rw[Nat.mul_comm];exact Nat.div_add_mod j ks.length];exact ah E
 exact bt this
theorem RowC.append {im:Nat->Prop} {ks:List Kd} {l m:List (List AC)} {xs D:List Value} (h:RowC im w ks l xs) (h':RowC im w ks m D):
  RowC im w ks (l++m) (xs++D):=by
 refine⟨by rw[ao,h.1,h'.1,ao,Nat.add_mul],λc E=> ?_,λi c I=> ?_⟩
 ·rcases bn.1 E with E|E
  ·exact h.2.1 c E
  ·exact h'.2.1 c E
 ·by_cases G:i<l.length
  ·rw[List.getElem?_append_left G]at I;have hle:i*ks.length+ks.length<=l.length*ks.length:=by
    calc i*ks.length+ks.length=(i+1)*ks.length:=by rw[Nat.add_mul,Nat.one_mul]
     _<=l.length*ks.length:=bf _ G
   have:cut (xs++D) (i*ks.length) ks.length=cut xs (i*ks.length) ks.length:=by
    have:=h.1;simp only[cut];rw[List.drop_append_of_le_length (by omega),List.take_append_of_le_length (by rw[bq];omega)]
   rw[this];exact h.2.2 i c I
  ·rw[List.getElem?_append_right (by omega)]at I;have:cut (xs++D) (i*ks.length) ks.length=cut D ((i-l.length)*ks.length) ks.length:=by
    have J:=h.1;simp only[cut];rw[List.drop_append,List.drop_eq_nil_of_le (by rw[J];exact bf _ (by omega)),ay,J,<-Nat.sub_mul]
   rw[this];exact h'.2.2 (i-l.length) c I
theorem Z00 {t ty e:TypeId} {i:TypeInfo} (L:P.underlying t=some (.slice e)) (M:P.info? e=some i)
  {b off sLen sCap:Nat} {cur:Array Value} {J:TypeId} (hb:w.heap[b]? =some (.cells cur J (0,0))) {a:Addr} {m c:Nat} {news:List Value} (N:news.length=m*i.size) (D:∀j u,news[j]? =some u->w.cell? (a.add j)=some u) (O:∀u∈news,u.oneCell'=true)
  (E:sLen+m<=sCap) (hle:off+sLen*i.size+news.length<=cur.size):
  (Builtin.append_ #[t,t] ty #[.slice (some ⟨b,off,none⟩) sLen sCap, .slice (some a) m c]).run P w= .ok (.slice (some ⟨b,off,none⟩) (sLen+m) sCap) (w.setRow b (splice cur.toList (off+sLen*i.size) news).toArray):=by
 have I:=run_firstCells_some (P:=P) w i.size m a m c news N D;have G:=run_storeCells_at P b (off+sLen*i.size) J news 0 cur w hb (by simpa using hle) O;simp only[Nat.add_zero]at G;rw[GR _ _ _ (by simpa using hle)];simp[Builtin.append_,run_underlying L,sizeOf,typeInfo,M,Builtin.lenOf,E,I,Addr.add_lit,G]
theorem Qx8 {t ty e:TypeId} {i:TypeInfo} {z:Value} {size:Nat} (S:P.underlying t=some (.slice e)) (T:P.info? e=some i) (hz:i.zero=some z)
  (E:i.size=size) (V:z.cells.size=size) (X:0<size)
  {v:Value} {n:Nat} {xs:List Value} (D:EX w e size v n xs)
  {ad:Option Addr} {m c:Nat} {news:List Value} (I:news.length=m*size) (J:m=0\/∃a,ad=some a/\∀j u,news[j]? =some u->w.cell? (a.add j)=some u) (h1:∀u∈news,u.oneCell'=true)
  (M:n+m<=maxLen) (G:(n+m)*i.bytes<=140737488355328):
  ∃L w',(Builtin.append_ #[t,t] ty #[v, .slice ad m c]).run P w= .ok L w'/\EX w' e size L (n+m) (xs++news)/\w.grownBy w' v.ownBlock/\(L.ownBlock=v.ownBlock\/L.ownBlock=some w.heap.size):=by
 cases ad with
 |some a=>
  have U:∀j u,news[j]? =some u->w.cell? (a.add j)=some u:=by
   rcases J with rfl|⟨a',Y,hh⟩
   ·have:news=[]:=List.eq_nil_of_length_eq_zero (by simpa using I);subst this;intro j u h;simp at h
   ·simp at Y;subst Y;exact hh
  rcases D.2 with⟨rfl,rfl⟩|⟨g,o,cap,cur,rfl,e3,e4,e5,e6,e7⟩
  ·have hx:xs=[]:=List.eq_nil_of_length_eq_zero (by simpa using D.1);subst hx;obtain⟨L,w',q1,q2,N,_,q5⟩:=run_append_own_at (P:=P) w 0 t ty e i z size i.bytes S T hz E rfl V X (.slice none 0 0) 0 [] (World.ownsRow_nil w 0 e size) a m c news I U h1 M G (Nat.zero_le _);exact⟨L,w',q1,Zcl q2,N,q5⟩
  ·by_cases hr:n+m<=cap
   ·subst E;have a3:n*i.size+m*i.size<=cap*i.size:=by rw[<-Nat.add_mul];exact bf _ hr
    have q:=Z00 (P:=P) (ty:=ty) (off:=o) (sLen:=n) (sCap:=cap) (c:=c) S T e3 I U h1 hr (by rw[I];omega);have a0:=LX cur.toList (o+n*i.size) news;refine⟨_,_,q,⟨by rw[ao,D.1,I,Nat.add_mul], .inr ⟨g,o,cap,_,rfl,setRow_heap w g cur _ e _ e3,hr,e5,by simp only[List.size_toArray];rw[a0,Array.length_toList];exact e6,?_⟩⟩,⟨rfl,rfl,rfl,by simp,λk hk a1=>setRow_other w g k _ (λe=>a1 (by rw[e];rfl))⟩, .inl rfl⟩;have hL:o+n*i.size+news.length<=cur.toList.length:=by rw[I,Array.length_toList];omega
    show((splice cur.toList (o+n*i.size) news).toArray.toList.drop o).take ((n+m)*i.size)=xs++news;simp only[List.toList_toArray];rw[GR _ _ _ hL,List.append_assoc,List.drop_append_of_le_length (by simp;omega),List.drop_take,show o+n*i.size-o=n*i.size from by omega,e7,<-List.append_assoc];rw[List.take_append_of_le_length (by rw[ao,D.1,I,Nat.add_mul];omega),List.take_of_length_le (by rw[ao,D.1,I,Nat.add_mul];omega)]
   ·obtain ⟨L, w', q1, q2, N⟩ := run_append_arg_grows (P := P) w t ty e i z size i.bytes S T hz E rfl V X ⟨g, o, none⟩ n cap xs D.1 (λj u hj => by
     have:=QQ D (g:=g) rfl j u hj;rw[Addr.add_lit];exact this) a m c news I U (by omega) M G
    have O := run_append_grow (P := P) w t ty e i z S T hz ⟨g, o, none⟩ n cap xs (by rw [E]; exact D.1) (λj u hj => by
     have:=QQ D (g:=g) rfl j u hj;rw[Addr.add_lit];exact this) a m c news (by rw[E];exact I) U (by omega) (by simp only[maxLen]at M;omega) (growslice_fits (by omega) G)
    rw[q1]at O;simp only[Result.ok.injEq]at O;refine⟨L,w',q1,Zcl q2,⟨N.os,N.tape,N.output,N.size,λk hk _=>N.block k hk (by simp)⟩, .inr ?_⟩;rw[O.1];rfl
 |none=>
  have hm:m=0:=by
   rcases J with h|⟨_,h,_⟩
   ·exact h
   ·simp at h
  subst hm;have U:news=[]:=List.eq_nil_of_length_eq_zero (by simpa using I);subst U;refine⟨v,w,?_,by simpa using D,⟨rfl,rfl,rfl,co _,λ_ _ _=>rfl⟩, .inl rfl⟩;rcases D.2 with⟨rfl,rfl⟩|⟨g,o,cap,cur,rfl,_,a2,_⟩
  ·simp[Builtin.append_,run_underlying S,sizeOf,typeInfo,T,Builtin.lenOf,Builtin.firstCells]
  ·simp[Builtin.append_,run_underlying S,sizeOf,typeInfo,T,Builtin.lenOf,Builtin.firstCells,a2,storeCells]
theorem Zdx (h:RelE Z tm aA aB ρ tmps w) {ks:List Kd} {a:AC} {x:Value} {m:List (List AC)} (D:Hu aB ks a=some m) (E:CC ρ w a x):
  ∃G c news,x= .slice G m.length c/\RowC ρ.im w ks m news/\(m.length=0\/∃a,G=some a/\∀j u,news[j]? =some u->w.cell? (a.add j)=some u):=by
 unfold Hu at D;split at D
 ·simp at D;subst D;simp only[CC,CP]at E;subst E;exact⟨none,0,[],rfl,⟨by simp,by simp,λi c I=>by simp at I⟩, .inl rfl⟩
 ·rename_i J l;cases hb:Dq ks J<;>rw[hb]at D
  ·simp at D
  ·simp at D;subst D;have:=J1 hb;subst this;simp only[CC,CP]at E;obtain⟨G,cap,rfl,hle,Y,hf⟩:=E;rcases hf with rfl|⟨b,o,rfl,_,L⟩
   ·exact⟨G,cap,[],rfl,⟨by simp,by simp,λi c I=>by simp at I⟩, .inl rfl⟩
   ·obtain⟨ys,S,T⟩:=Zxr l Y L;refine⟨_,cap,ys,rfl,S, .inr ⟨_,rfl,λj u M=> ?_⟩⟩;rw[Addr.add_lit];exact T j u M
 ·rename_i id w' n;split at D
  ·rename_i r hr;cases hb:Dq ks r.ks<;>rw[hb]at D
   ·simp at D
   ·simp at D;subst D;have:=J1 hb;subst this;obtain⟨S,T,_,xs,U,V⟩:=h.ro id r hr;obtain⟨N,a0,a1⟩:=E;subst N;rcases U.2 with⟨e1,e2⟩|⟨X,o,cap,cur,e1,e3,e4,e5,e6,e7⟩
    ·have O:r.l.length=0:=e2;exact⟨none,0,xs,by rw[e1,O],V, .inl e2⟩
    ·refine⟨some ⟨X,o,none⟩,cap,xs,e1,V, .inr ⟨_,rfl,λj u M=> ?_⟩⟩;have:=QQ U (g:=X) (by rw[e1];rfl) j u M;rw[e1]at this;rw[Addr.add_lit];exact this
  ·simp at D
 ·simp at D
theorem RelE.growIm {im':Nat->Prop} {w':World} (D:RelE Z tm aA aB ρ tmps w) (E:Below w.heap.size w w') (G:∀b,ρ.im b->im' b) (J:∀b,im' b->ρ.im b\/(w.heap.size<=b/\b<w'.heap.size)):
  RelE Z tm aA aB {ρ with im:=im'} tmps w':=by
 have hold:∀b,b<w.heap.size->w'.heap[b]? =w.heap[b]? :=λb hb=>E.block b hb;have N:∀(a:AC) (x:Value),CC ρ w a x->CC {ρ with im:=im'} w' a x:=λa x T=>CC.mono (ρ:=ρ) (ρ':={ρ with im:=im'}) G (λb hb=>hold b (D.ib b hb).1) a x (AC.agree_refl rfl rfl rfl a) T;refine⟨D.tl,λi v hi=>TVR.mono N v _ (D.tv i v hi),D.wt,D.wb,?_,D.bi,?_,D.ri,D.br,?_,D.fr.trans (Fr.of_below E D.fs),λk L=>dp (D.fs k L) E.size,λb hb=>G b (D.i0 b hb),λb hb=>(J b hb).elim (D.i1 b) λq=> .inr λhf=>absurd (D.fs b hf) (by omega),λk b L=>D.k0 k b L⟩
 ·intro k b L;obtain⟨arr,M,O,S⟩:=D.bx k b L;exact⟨arr,by rw[hold _ (Pz M)];exact M,O.mono λa _ x T=>N a x T,S⟩
 ·intro id X I;obtain⟨M,O,q0,ys,S,q4⟩:=D.ro id X I;exact⟨M,O,q0,ys,Nl S λg hg=>hold g (D.rwlt I hg).2,q4.mono G (λb hb=>hold b (D.ib b hb).1)⟩
 ·intro b hb;rcases J b hb with U|⟨a0,V⟩
  ·obtain⟨M,O,S⟩:=D.ib b U;exact⟨dp M E.size,O,S⟩
  ·exact⟨V,λk bo L e=>by have:=D.bxlt L;have Y:ρ.bx k=b:=e;omega,λid X I e=>by have Y:(ρ.rv id).ownBlock=some b:=e;have:=(D.rwlt I Y).2;omega⟩
end
open Go.RowKit
section
variable {P:Program} {C:Cfg} {ρ:Env} {w:World} {R:Type} {Z:Base} {tm:List TV} {aA:List (Nat×Box)} {aB:List (Nat×Row)} {tmps:Array Value}
def AC.nmP (Kp:Nat->Prop):AC->Prop
 | .ptr k _=>Kp k
 |_=>True
def AC.nm (Kp D:Nat->Prop):AC->Prop
 | .ptr k _=>Kp k
 | .bsl k _=>Kp k
 | .own id _ _=>D id
 | .rptr id _ _=>D id
 | .clo _ fs cs=>(∀a∈fs,AC.nmP Kp a)/\∀a∈cs,AC.nmP Kp a
 |_=>True
def TV.nm (Kp D:Nat->Prop):TV->Prop
 | .v _ cs=>∀a∈cs,AC.nm Kp D a
 | .tup ps=>∀p∈ps,∀a∈p.2,AC.nm Kp D a
 | .dead=>True
theorem AC.nm_of_inK {keys ids:List Nat} {a:AC} (h:AC.inK keys ids a=true):a.nm (· ∈keys) (· ∈ids):=by
 have D:∀l:List AC,Ak (AC.inK.inP keys) l=true->∀a∈l,AC.nmP (· ∈keys) a:=by
  intro l E a G;have:=Ax.1 E a G;cases a<;>first|trivial|exact Fz.1 this
 cases a with
 |ptr k o=>exact Fz.1 h
 |bsl k o=>exact Fz.1 h
 |own id w n=>exact Fz.1 h
 |rptr id i s=>exact Fz.1 h
 |clo f fs cs=>
  simp only[AC.inK,ak]at h;exact⟨D fs h.1,D cs h.2⟩
 |_=>trivial
theorem TV.nm_of_inK {keys ids:List Nat} {v:TV} (h:TV.inK keys ids v=true):v.nm (· ∈keys) (· ∈ids):=by
 cases v with
 |dead=>trivial
 |v g cs=>exact λa D=>AC.nm_of_inK (Ax.1 h a D)
 |tup ps=>exact λp E a D=>AC.nm_of_inK (Ax.1 (Ax.1 h p E) a D)
theorem AC.nm_of_wf {a:AC} (h:AC.wf aA aB a):a.nm (λk=>∃b,Ac aA k=some b) (λi=>∃r,Ac aB i=some r):=by
 have E:∀l:List AC,(∀a∈l,AC.wfP aA a)->∀a∈l,AC.nmP (λk=>∃b,Ac aA k=some b) a:=by
  intro l G a I;have:=G a I;cases a<;>first|trivial|exact this
 cases a with
 |ptr k o=>exact h
 |bsl k o=>exact h
 |own id w n=>obtain⟨r,D,_⟩:=h;exact⟨r,D⟩
 |rptr id i s=>obtain⟨r,D,_⟩:=h;exact⟨r,D⟩
 |clo f fs cs=>exact⟨E fs h.1,E cs h.2⟩
 |_=>trivial
theorem TV.nm_of_wf {v:TV} (h:TV.wf aA aB v):v.nm (λk=>∃b,Ac aA k=some b) (λi=>∃r,Ac aB i=some r):=by
 cases v with
 |dead=>trivial
 |v g cs=>exact λa D=>AC.nm_of_wf (h a D)
 |tup ps=>exact λp E a D=>AC.nm_of_wf (h p E a D)
theorem Qnj {E G:Env} {Kp:Nat->Prop} {J:Nat->Nat} (hb:∀k,Kp k->G.bx (J k)=E.bx k) (L:G.im=E.im):∀(l:List AC) (xs:List Value),(∀a∈l,AC.nmP Kp a)->CLc E w l xs->CLc G w (AC.ren.renP J l) xs
 |[],[],_,_=>trivial
 |a::l,x::xs,M,h=>by
  have N:=Qnj hb L l xs (λb hb=>M b (by simp[hb])) h.2;have D:=h.1;have I:=M a (by simp);cases a<;>simp only[AC.ren.renP]<;>refine⟨?_,N⟩<;>first
   |(simp only[CCc]at D⊢;rw[hb _ I];exact D)
   |(simp only[CCc]at D⊢;rw[L];exact D)
 |[],_::_,_,h=>h.elim
 |_::_,[],_,h=>h.elim
theorem Qox {G I:Env} {Kp L:Nat->Prop} {M ri:Nat->Nat} (hb:∀k,Kp k->I.bx (M k)=G.bx k) (J:∀i,L i->I.rv (ri i)=G.rv i/\I.wd (ri i)=G.wd i) (D:I.im=G.im)
  {a:AC} {x:Value} (E:a.nm Kp L) (h:CC G w a x):CC I w (a.ren M ri) x:=by
 cases a with
 |ptr k o=>simp only[AC.ren,CC]at*;rw[hb k E];exact h
 |bsl k o=>simp only[AC.ren,CC]at*;rw[hb k E];exact h
 |own id w n=>simp only[AC.ren,CC]at*;rw[(J id E).1,(J id E).2];exact h
 |rptr id i s=>simp only[AC.ren,CC]at*;rw[(J id E).1,(J id E).2];exact h
 |vptr cs s=>simp only[AC.ren,CC]at*;rw[D];exact h
 |clo f fs cs=>
  obtain⟨xs,N,O,S,T⟩:=h;exact⟨xs,N,O,Qnj hb D fs _ E.1 S,Qnj hb D cs _ E.2 T⟩
 |dead=>exact h
 |int=>simp only[AC.ren,CC]at*;rw[D];exact h
 |bool=>simp only[AC.ren,CC]at*;rw[D];exact h
 |raw=>simp only[AC.ren,CC]at*;rw[D];exact h
 |nilSl=>simp only[AC.ren,CC]at*;rw[D];exact h
 |view=>simp only[AC.ren,CC]at*;rw[D];exact h
theorem Qx {D E:Env} {Kp Ip:Nat->Prop} {G ri:Nat->Nat} (hb:∀k,Kp k->E.bx (G k)=D.bx k) (I:∀i,Ip i->E.rv (ri i)=D.rv i/\E.wd (ri i)=D.wd i) (J:E.im=D.im):
  ∀{l:List AC} {xs:List Value},(∀a∈l,a.nm Kp Ip)->CL (CC D w) l xs->CL (CC E w) (l.map (AC.ren G ri)) xs
 |[],[],_,h=>h
 |a::l,y::xs,L,h=>⟨Qox hb I J (L a (by simp)) h.1,Qx hb I J (λb hb=>L b (by simp[hb])) h.2⟩
 |[],_::_,_,h=>h.elim
 |_::_,[],_,h=>h.elim
theorem Zah {E G:Env} {Kp Ip:Nat->Prop} {T ri:Nat->Nat} (hb:∀k,Kp k->G.bx (T k)=E.bx k) (J:∀i,Ip i->G.rv (ri i)=E.rv i/\G.wd (ri i)=E.wd i) (L:G.im=E.im)
  {v:TV} {x:Value} (M:v.nm Kp Ip) (h:TVR E w v x):TVR G w (v.ren T ri) x:=by
 cases v with
 |dead=>trivial
 |v b cs=>
  cases b
  ·obtain⟨a,rfl,V⟩:=h;exact⟨_,rfl,Qox hb J L (M a (by simp)) V⟩
  ·obtain⟨N,rfl,D⟩:=h;exact⟨N,rfl,Qx hb J L M D⟩
 |tup ps=>
  obtain⟨N,rfl,D⟩:=h;refine⟨N,rfl,?_⟩;generalize N.toList=l at D;induction ps generalizing l with
  |nil=>cases l<;>first|exact D|exact D.elim
  |cons p ps X=>
   cases l with
   |nil=>exact D.elim
   |cons y l=>
    obtain⟨b,cs⟩:=p;refine⟨?_,X (λq Y=>M q (by simp[Y])) l D.2⟩;have U:=D.1;have I:=M (b,cs) (by simp);cases b
    ·obtain⟨a,O,S⟩:=U;subst O;exact⟨_,rfl,Qox hb J L (I a (by simp)) S⟩
    ·obtain⟨zs,O,S⟩:=U;exact⟨zs,O,Qx hb J L I S⟩
theorem SD {b1 b2:List (Nat×Box)} {O S:List (Nat×Row)} {Kp Ip:Nat->Prop} {G ri:Nat->Nat} (hb:∀k,Kp k->(∃b,Ac b1 k=some b)->∃b,Ac b2 (G k)=some b)
  (T:∀i r,Ip i->Ac O i=some r->∃r',Ac S (ri i)=some r'/\r'.n=r.n/\r'.w=r.w) {a:AC} (D:a.nm Kp Ip) (h:AC.wf b1 O a):AC.wf b2 S (a.ren G ri):=by
 have U:∀l:List AC,(∀a∈l,AC.nmP Kp a)->(∀a∈l,AC.wfP b1 a)->∀a∈AC.ren.renP G l,AC.wfP b2 a:=by
  intro l;induction l with
  |nil=>intro _ _ a E;simp[AC.ren.renP]at E
  |cons c l Y=>
   intro D V a E;have I:=Y (λb hb=>D b (by simp[hb])) (λb hb=>V b (by simp[hb]));have h1:=D c (by simp);have h2:=V c (by simp);cases c<;>simp only[AC.ren.renP,av]at E<;>rcases E with rfl|E<;>first
    |exact I a E
    |exact hb _ h1 h2
    |trivial
 cases a with
 |ptr k o=>exact hb k D h
 |bsl k o=>exact hb k D h
 |own id w n=>obtain⟨r,J,L,q3⟩:=h;obtain⟨r',M,N,X⟩:=T id r D J;exact⟨r',M,by rw[N,L],by rw[X,q3]⟩
 |rptr id i s=>obtain⟨r,J,L⟩:=h;obtain⟨r',M,N,X⟩:=T id r D J;exact⟨r',M,by rw[N];exact L⟩
 |vptr=>exact h
 |clo f fs cs=>exact⟨U fs D.1 h.1,U cs D.2 h.2⟩
 |_=>trivial
theorem Qzq {b1 b2:List (Nat×Box)} {G I:List (Nat×Row)} {Kp Ip:Nat->Prop} {J ri:Nat->Nat} (hb:∀k,Kp k->(∃b,Ac b1 k=some b)->∃b,Ac b2 (J k)=some b)
  (L:∀i r,Ip i->Ac G i=some r->∃r',Ac I (ri i)=some r'/\r'.n=r.n/\r'.w=r.w) {v:TV} (M:v.nm Kp Ip) (h:TV.wf b1 G v):TV.wf b2 I (v.ren J ri):=by
 cases v with
 |dead=>trivial
 |v g cs=>
  intro a D;simp only[ba]at D;obtain⟨c,E,rfl⟩:=D;exact SD hb L (M c E) (h c E)
 |tup ps=>
  intro p N a D;simp only[ba]at N;obtain⟨q,O,rfl⟩:=N;simp only[ba]at D;obtain⟨c,E,rfl⟩:=D;exact SD hb L (M q O c E) (h q O c E)
theorem I7:∀{l:List Nat},BQ l=true↔l.Nodup
 |[]=>by simp[BQ]
 |k::l=>by
  simp only[BQ,List.nodup_cons,<-I7 (l:=l)];cases h:AP l k
  ·have: ¬k∈l:=λD=>by rw[Fz.2 D]at h;cases h
   simp[this]
  ·have:=Fz.1 h;simp[this]
theorem Ew {l:List Nat} {n:Nat} (h:n∈l):pos l n<l.length/\nth 0 l (pos l n)=n:=by
 induction l with
 |nil=>simp at h
 |cons m l E=>
  simp only[pos];cases hb:Nat.beq m n
  ·have D:=Hi hb;have:n∈l:=by
    rcases av.1 h with e|e
    ·exact absurd e.symm D
    ·exact e
   obtain⟨I,G⟩:=E this;exact⟨by simp only[an,bh];omega,by simp only[an];exact G⟩
  ·exact⟨by simp,by simpa [nth]using ac hb⟩
theorem Zjh {l:List Nat} {m n:Nat} (D:m∈l) (E:n∈l) (h:pos l m=pos l n):m=n:=by
 rw[<-(Ew D).2,<-(Ew E).2,h]
theorem IQ {l:List Nat} (G:l.Nodup) {i:Nat} (I:i<l.length):pos l (nth 0 l i)=i:=by
 induction l generalizing i with
 |nil=>simp at I
 |cons m l J=>
  cases i with
  |zero=>simp[nth,pos]
  |succ i=>
   have D:i<l.length:=by simpa using I
   have E:nth 0 l i∈l:=by
    rw[BW,List.getD,ah D];exact bm D
   rw[List.nodup_cons]at G;simp only[nth,pos];rw[Ku (by rintro rfl;exact G.1 E)];simp only[an];rw[J G.2 D]
theorem FY {l:List Nat} {i:Nat} (D:i<l.length):nth 0 l i∈l:=by
 rw[BW,List.getD,ah D];exact bm D
theorem LW {I ri:Nat->Nat}:∀{keys:List Nat} {b:Nat} {D:List (Nat×Box)},D0 aA I ri b keys=some D->
  (∀i,i<keys.length->∃x,Ac aA (nth 0 keys i)=some x/\Ac D (b+i)=some ⟨x.ty,x.cells.map (AC.ren I ri)⟩)/\∀c x,Ac D c=some x->∃i,i<keys.length/\c=b+i
 |[],b,D,h=>by simp[D0]at h;subst h;exact⟨λi E=>by simp at E,λc x h=>by simp[Ac]at h⟩
 |k::keys,b,D,h=>by
  simp only[D0]at h;split at h
  ·rename_i x M;split at h
   ·rename_i l N;simp at h;subst h;obtain⟨O,S⟩:=LW N;refine⟨λi E=> ?_,λc y G=> ?_⟩
    ·cases i with
     |zero=>exact⟨x,M,by simp[Ac]⟩
     |succ i=>
      obtain⟨y,J,L⟩:=O i (by simpa using E);refine⟨y,J,?_⟩;rw[show b+(i+1)=b+1+i from by omega];simp only[Ac];rw[Ku (by omega)];exact L
    ·simp only[Ac]at G;cases hb:Nat.beq b c<;>rw[hb]at G
     ·obtain⟨i,J,L⟩:=S c y G;exact⟨i+1,by simp;omega,by omega⟩
     ·exact⟨0,by simp,(ac hb).symm⟩
   ·simp at h
  ·simp at h
theorem Qpl:∀{keys:List Nat} {b:Nat} {D:List (Nat×Row)},GP aB b keys=some D->
  (∀i,i<keys.length->∃x,Ac aB (nth 0 keys i)=some x/\Ac D (b+i)=some x)/\∀c x,Ac D c=some x->∃i,i<keys.length/\c=b+i
 |[],b,D,h=>by simp[GP]at h;subst h;exact⟨λi E=>by simp at E,λc x h=>by simp[Ac]at h⟩
 |k::keys,b,D,h=>by
  simp only[GP]at h;split at h
  ·rename_i x L;split at h
   ·rename_i l M;simp at h;subst h;obtain⟨N,O⟩:=Qpl M;refine⟨λi E=> ?_,λc y G=> ?_⟩
    ·cases i with
     |zero=>exact⟨x,L,by simp[Ac]⟩
     |succ i=>
      obtain⟨y,I,J⟩:=N i (by simpa using E);refine⟨y,I,?_⟩;rw[show b+(i+1)=b+1+i from by omega];simp only[Ac];rw[Ku (by omega)];exact J
    ·simp only[Ac]at G;cases hb:Nat.beq b c<;>rw[hb]at G
     ·obtain⟨i,I,J⟩:=O c y G;exact⟨i+1,by simp;omega,by omega⟩
     ·exact⟨0,by simp,(ac hb).symm⟩
   ·simp at h
  ·simp at h
def Ib {α β:Type} (D:Nat->Nat) (g:α->β):List (Nat×α)->List (Nat×β)->List (Nat×β)
 |[],l=>l
 |(k,b)::m,l=>Ib D g m (ins l (D k) (g b))
theorem Xw (D ri:Nat->Nat):∀(m:List (Nat×Box)) (l:List (Nat×Box)),MJ D ri m l=Ib D (λb=>⟨b.ty,b.cells.map (AC.ren D ri)⟩) m l
 |[],_=>rfl
 |(_,_)::m,_=>by simp only[MJ,Ib];exact Xw D ri m _
theorem Qs2 (ri:Nat->Nat):∀(m:List (Nat×Row)) (l:List (Nat×Row)),Kg ri m l=Ib ri (λb=>b) m l
 |[],_=>rfl
 |(_,_)::m,_=>by simp only[Kg,Ib];exact Qs2 ri m _
theorem S3 {α β:Type} {rk:Nat->Nat} {g:α->β}:∀{m:List (Nat×α)} {l:List (Nat×β)},(m.map (·.1)).Nodup->(∀k∈m.map (·.1),∀j∈m.map (·.1),rk k=rk j->k=j)->(∀k∈m.map (·.1),Ac l (rk k)=none)->
  (∀k b,Ac m k=some b->Ac (Ib rk g m l) (rk k)=some (g b))/\(∀n,(∀k∈m.map (·.1),n≠rk k)->Ac (Ib rk g m l) n=Ac l n)
 |[],l,_,_,_=>⟨λk b h=>by simp[Ac]at h,λn _=>rfl⟩
 |(j,c)::m,l,I,J,L=>by
  simp only[bj,List.nodup_cons]at I;have E:∀k∈m.map (·.1),rk k≠rk j:=λk D e=>I.1 (by have:=J k (by simp at D⊢;exact .inr D) j (by simp) e;rw[<-this];exact D);obtain ⟨O, M⟩ := S3 (rk := rk) (g := g) (m := m) (l := ins l (rk j) (g c)) I.2 (λk D q N => J k (by simp at D ⊢; exact .inr D) q (by simp at N ⊢; exact .inr N)) (λk D => by
   rw[DY _ _ _ _ (E k D)];exact L k (by simp at D⊢;exact .inr D))
  have S:Ac (ins l (rk j) (g c)) (rk j)=some (g c):=Fh _ _ _ (L j (by simp));refine⟨λk b D=> ?_,λn G=> ?_⟩
  ·simp only[Ac]at D;cases hb:Nat.beq j k<;>rw[hb]at D
   ·exact O k b D
   ·have:=ac hb;subst this;simp at D;subst D;simp only[Ib];rw[M (rk j) (λk D e=>E k D e.symm)];exact S
  ·simp only[Ib];rw[M n (λk D=>G k (by simp at D⊢;exact .inr D))];exact DY _ _ _ _ (G j (by simp))
theorem Lb {α:Type}:∀(ks:List Nat) (l:List (Nat×α)) (n:Nat),Ac (D9 ks l) n=if n∈ks then none else Ac l n
 |[],l,n=>by simp[D9]
 |k::ks,l,n=>by
  simp only[D9];rw[Lb ks];by_cases h:n=k
  ·subst h;simp only[T3,av,true_or,if_true];split<;>rfl
  ·rw[L1 _ _ _ h];simp[h]
theorem Mi {α:Type}:∀{l:List (Nat×α)} {k:Nat},k∈l.map (·.1)↔∃b,Ac l k=some b
 |[],k=>by simp[Ac]
 |(j,c)::l,k=>by
  simp only[bj,av,Ac];cases hb:Nat.beq j k
  ·simp only[an,<-Mi (l:=l)];constructor
   ·rintro(e|e)
    ·exact absurd e.symm (Hi hb)
    ·exact e
   ·exact .inr
  ·simp[ac hb]
theorem Ju {α:Type} {names:List Nat}:∀{l:List (Nat×α)} {k:Nat},k∈Bq names l↔k∈l.map (·.1)/\ ¬(base<=k/\k-base<names.length)
 |[],k=>by simp[Bq]
 |(j,c)::l,k=>by
  simp only[Bq,bj,av];cases hb:(Nat.ble base j&&Nat.blt (j-base) names.length)
  ·have G: ¬(base<=j/\j-base<names.length):=by
    rintro⟨E,D⟩;have e1:=Nat.ble_eq_true_of_le E;have e2:Nat.blt (j-base) names.length=true:=Nat.ble_eq_true_of_le D;rw[e1,e2]at hb;cases hb
   simp only[an,av,Ju (l:=l)];constructor
   ·rintro(rfl|⟨E,D⟩)
    ·exact⟨.inl rfl,G⟩
    ·exact⟨.inr E,D⟩
   ·rintro⟨rfl|E,D⟩
    ·exact .inl rfl
    ·exact .inr ⟨E,D⟩
  ·simp only[ak]at hb;have G:base<=j/\j-base<names.length:=⟨az hb.1,az hb.2⟩;simp only[ai,Ju (l:=l)];constructor
   ·rintro⟨E,D⟩;exact⟨.inr E,D⟩
   ·rintro⟨rfl|E,D⟩
    ·exact absurd G D
    ·exact⟨E,D⟩
theorem Mz {names fresh:List Nat} {d k:Nat} (h:base<=k/\k-base<names.length):BN names fresh d k=nth 0 names (k-base):=by
 unfold BN;rw[Nat.ble_eq_true_of_le h.1,show Nat.blt (k-base) names.length=true from Nat.ble_eq_true_of_le h.2];rfl
theorem Q8f {names fresh:List Nat} {d k:Nat} (h: ¬(base<=k/\k-base<names.length)):BN names fresh d k=100000+100*d+pos fresh k:=by
 unfold BN;have:(Nat.ble base k&&Nat.blt (k-base) names.length)=false:=by
  apply Bool.eq_false_iff.2;intro hb;simp only[ak]at hb;exact h ⟨az hb.1,az hb.2⟩
 rw[this];rfl
theorem Q5r {α β:Type} {names:List Nat} {d:Nat} {I:List (Nat×α)} {l:List (Nat×β)} (J:names.Nodup) (L:∀k∈names,∃b,Ac l k=some b)
  (hf:∀k∈Bq names I,Ac l (BN names (Bq names I) d k)=none):
  ∀k∈I.map (·.1),∀j∈I.map (·.1),BN names (Bq names I) d k=BN names (Bq names I) d j->k=j:=by
 intro k M j N he;by_cases D:base<=k/\k-base<names.length<;>by_cases E:base<=j/\j-base<names.length
 ·rw[Mz D,Mz E]at he;have:=congrArg (pos names) he;rw[IQ J D.2,IQ J E.2]at this;omega
 ·have G:=hf j (Ju.2 ⟨N,E⟩);rw[<-he,Mz D]at G;obtain⟨b,hb⟩:=L _ (FY D.2);rw[hb]at G;cases G
 ·have G:=hf k (Ju.2 ⟨M,D⟩);rw[he,Mz E]at G;obtain⟨b,hb⟩:=L _ (FY E.2);rw[hb]at G;cases G
 ·rw[Q8f D,Q8f E]at he;exact Zjh (Ju.2 ⟨M,D⟩) (Ju.2 ⟨N,E⟩) (by omega)
noncomputable def LI {α:Type} (m:List (Nat×α)) (D:Nat->Nat) (n:Nat):Option Nat:= @dite _ (∃k∈m.map (·.1),D k=n) (Classical.propDecidable _) (λh=>some (Classical.choose h)) (λ_=>none)
theorem Q0o {α:Type} {m:List (Nat×α)} {D:Nat->Nat} (E:∀k∈m.map (·.1),∀j∈m.map (·.1),D k=D j->k=j) {k:Nat} (G:k∈m.map (·.1)):LI m D (D k)=some k:=by
 unfold LI;have h:∃j∈m.map (·.1),D j=D k:=⟨k,G,rfl⟩;rw[dif_pos h];have:=Classical.choose_spec h;rw[E _ this.1 k G this.2]
theorem Qzg {α:Type} {m:List (Nat×α)} {D:Nat->Nat} {n:Nat} (h:∀k∈m.map (·.1),n≠D k):LI m D n=none:=by
 unfold LI;rw[dif_neg];rintro⟨k,E,he⟩;exact h k E he.symm
theorem Zbt:∀(ids:List Nat) {v:TV} {x:Value},TVR ρ w v x->TVR ρ w (H2 ids v) x
 |[],_,_,h=>h
 |_::l,_,_,h=>Zbt l (TV.kill_TVR h)
theorem Q98:∀(ids:List Nat) {v:TV},TV.wf aA aB v->TV.wf aA aB (H2 ids v)
 |[],_,h=>h
 |_::l,_,h=>Q98 l (TV.kill_wf h)
theorem Qmh {id j:Nat} {a:AC} (h:AC.free j a):AC.free j (a.kill id):=by
 cases a with
 |own i w n=>simp only[AC.kill];cases Nat.beq i id<;>first|exact h|trivial
 |rptr i n s=>simp only[AC.kill];cases Nat.beq i id<;>first|exact h|trivial
 |_=>trivial
theorem Z82 {id j:Nat} {v:TV} (h:TV.free j v):TV.free j (v.kill id):=by
 cases v with
 |v g cs=>
  intro a D;simp only[ba]at D;obtain⟨b,hb,rfl⟩:=D;exact Qmh (h b hb)
 |tup ps=>
  intro p E a D;simp only[ba]at E;obtain⟨q,G,rfl⟩:=E;simp only[ba]at D;obtain⟨b,hb,rfl⟩:=D;exact Qmh (h q G b hb)
 |dead=>trivial
theorem Qwp {j:Nat}:∀(ids:List Nat) {v:TV},TV.free j v->TV.free j (H2 ids v)
 |[],_,h=>h
 |_::l,_,h=>Qwp l (Z82 h)
theorem Q73:∀(ids:List Nat) (v:TV),∀id∈ids,TV.free id (H2 ids v)
 |[],_,id,h=>by simp at h
 |i::l,v,id,h=>by
  simp only[av]at h;by_cases e:id∈l
  ·exact Q73 l (v.kill i) id e
  ·have:id=i:=h.resolve_right e;subst this;exact Qwp l (TV.kill_free id v)
theorem Q4m:∀(ids:List Nat) (b:Box),(DX ids b).ty=b.ty
 |[],_=>rfl
 |_::l,b=>by rw[DX,Q4m l];rfl
theorem Q77:∀(ids:List Nat) {b:Box} {xs:List Value},CL (CC ρ w) b.cells xs->CL (CC ρ w) (DX ids b).cells xs
 |[],_,_,h=>h
 |i::l,b,_,h=>Q77 l (b:=b.kill i) h.kill
theorem Q7n:∀(ids:List Nat) {b:Box},(∀a∈b.cells,AC.wf aA aB a)->∀a∈(DX ids b).cells,AC.wf aA aB a
 |[],_,h=>h
 | i :: l, b, h => Q7n l (b := b.kill i) (λa D => by
  simp only[Box.kill,ba]at D;obtain⟨c,E,rfl⟩:=D;exact AC.kill_wf (h c E))
theorem Qyz {j:Nat}:∀(ids:List Nat) {b:Box},(∀a∈b.cells,AC.free j a)->∀a∈(DX ids b).cells,AC.free j a
 |[],_,h=>h
 | i :: l, b, h => Qyz l (b := b.kill i) (λa D => by
  simp only[Box.kill,ba]at D;obtain⟨c,E,rfl⟩:=D;exact Qmh (h c E))
theorem Q1q:∀(ids:List Nat) (b:Box),∀id∈ids,∀a∈(DX ids b).cells,AC.free id a
 |[],_,id,h=>by simp at h
 |i::l,b,id,h=>by
  simp only[av]at h;by_cases e:id∈l
  ·exact Q1q l (b.kill i) id e
  ·have:id=i:=h.resolve_right e;subst this;exact Qyz l (b := b.kill id) (λa D => by
    simp only[Box.kill,ba]at D;obtain⟨c,E,rfl⟩:=D;exact AC.kill_free id c)
end
open Go.RowKit
section
variable {P:Program} {C:Cfg} {ρ:Env} {w:World} {R:Type} {Z:Base} {tm:List TV} {aA:List (Nat×Box)} {aB:List (Nat×Row)} {tmps:Array Value}
theorem Q10 {k:Nat} {b:Box} (h:Ac aA k=some b):EZ aA k=b.cells:=by unfold EZ;rw[h]
def JF (ρ:Env) (keys ids:List Nat):Env:=⟨λc=>ρ.bx (nth 0 keys (c-base)),λc=>ρ.rv (nth 0 ids (c-base)),λc=>ρ.wd (nth 0 ids (c-base)),ρ.im⟩
def K5 (w:World) (ρ:Env) (keys ids:List Nat):Nat->Prop:=λb=>b<w.heap.size/\(∀k∈keys,ρ.bx k≠b)/\∀id∈ids,(ρ.rv id).ownBlock≠some b
theorem Qqz (N:RelE Z tm aA aB ρ tmps w) {args:List TV} {xs:List Value} (h1:xs.length=args.length)
  (h2:∀(i:Nat) (a:TV) (x:Value),args[i]? =some a->xs[i]? =some x->TVR ρ w a x) (a6:∀v∈args,TV.wf aA aB v) {keys ids:List Nat} (a0:keys.Nodup) (T:ids.Nodup)
  (a1:∀v∈args,TV.inK keys ids v=true) (U:∀k∈keys,Ak (AC.inK keys ids) (EZ aA k)=true) {mb:List (Nat×Box)} {mr:List (Nat×Row)}
  (a7:D0 aA (λk=>base+pos keys k) (λi=>base+pos ids i) base keys=some mb) (a8:GP aB base ids=some mr):
  RelE (FB (K5 w ρ keys ids) w (JF ρ keys ids) mb) (args.map (TV.ren (λk=>base+pos keys k) (λi=>base+pos ids i))) mb mr (JF ρ keys ids) xs.toArray w:=by
 obtain⟨b1,b2⟩:=LW a7;obtain⟨r1,r2⟩:=Qpl a8;have eb:∀k,k∈keys->(JF ρ keys ids).bx (base+pos keys k)=ρ.bx k:=λk I=>by
  show ρ.bx (nth 0 keys (base+pos keys k-base))=_;rw[Nat.add_sub_cancel_left,(Ew I).2]
 have er:∀i,i∈ids->(JF ρ keys ids).rv (base+pos ids i)=ρ.rv i/\(JF ρ keys ids).wd (base+pos ids i)=ρ.wd i:=λi D=>by
  constructor
  ·show ρ.rv (nth 0 ids (base+pos ids i-base))=_;rw[Nat.add_sub_cancel_left,(Ew D).2]
  ·show ρ.wd (nth 0 ids (base+pos ids i-base))=_;rw[Nat.add_sub_cancel_left,(Ew D).2]
 have wb:∀k,k∈keys->(∃b,Ac aA k=some b)->∃b,Ac mb (base+pos keys k)=some b:=λk I _=>by
  obtain⟨x,_,q⟩:=b1 (pos keys k) (Ew I).1;exact⟨_,q⟩
 have wr:∀i r,i∈ids->Ac aB i=some r->∃r',Ac mr (base+pos ids i)=some r'/\r'.n=r.n/\r'.w=r.w:=λi r D O=>by
  obtain⟨x,E,q⟩:=r1 (pos ids i) (Ew D).1;rw[(Ew D).2,O]at E;simp at E;subst E;exact⟨_,q,rfl,rfl⟩
 have X:∀c x,Ac mb c=some x->∃i J,i<keys.length/\c=base+i/\Ac aA (nth 0 keys i)=some J/\x=⟨J.ty,J.cells.map (AC.ren (λk=>base+pos keys k) (λi=>base+pos ids i))⟩:=by
  intro c x M;obtain⟨i,D,rfl⟩:=b2 c x M;obtain⟨J,E,L⟩:=b1 i D;rw[M]at L;simp at L;exact⟨i,J,D,rfl,E,L⟩
 have lr:∀c x,Ac mr c=some x->∃i,i<ids.length/\c=base+i/\Ac aB (nth 0 ids i)=some x:=by
  intro c x M;obtain⟨i,D,rfl⟩:=r2 c x M;obtain⟨J,E,L⟩:=r1 i D;rw[M]at L;simp at L;subst L;exact⟨i,D,rfl,E⟩
 have Y:∀i,(JF ρ keys ids).bx (base+i)=ρ.bx (nth 0 keys i):=λi=>by
  show ρ.bx (nth 0 keys (base+i-base))=_;rw[Nat.add_sub_cancel_left]
 have xr:∀i,(JF ρ keys ids).rv (base+i)=ρ.rv (nth 0 ids i):=λi=>by
  show ρ.rv (nth 0 ids (base+i-base))=_;rw[Nat.add_sub_cancel_left]
 have xw:∀i,(JF ρ keys ids).wd (base+i)=ρ.wd (nth 0 ids i):=λi=>by
  show ρ.wd (nth 0 ids (base+i-base))=_;rw[Nat.add_sub_cancel_left]
 have a2:∀i j,i<keys.length->j<keys.length->nth 0 keys i=nth 0 keys j->i=j:=λi j D V e=>by rw[<-IQ a0 D,<-IQ a0 V,e]
 have a3:∀i j,i<ids.length->j<ids.length->nth 0 ids i=nth 0 ids j->i=j:=λi j D V e=>by rw[<-IQ T D,<-IQ T V,e]
 refine⟨by simp[h1],λi v D=> ?_,λv hv=> ?_,λk b I a S=> ?_,λk b I=> ?_,λk k' b b' I a9 he=> ?_,λid r O=> ?_,λid id' r r' g O b0 hg a4=> ?_,λk b id r I O=> ?_,λb hb=>⟨(N.ib b hb).1,λk bo I=> ?_,λid r O=> ?_⟩,Fr.refl _ _,λk h=>h.1,λb h=>h,λb h=> .inl h,λk b I=> ?_⟩
 ·simp only[dk,bp]at D;obtain⟨a,S,rfl⟩:=D;have a5:i<xs.length:=by rw[h1];exact(List.getElem?_eq_some_iff.1 S).1
  have e:xs.toArray.getD i undef=xs[i]:=by simp[Array.getD,a5]
  rw[e];exact Zah (Kp:=(· ∈keys)) (Ip:=(· ∈ids)) eb er rfl (TV.nm_of_inK (a1 a (bt S))) (h2 i a _ S (ah a5))
 ·simp only[ba]at hv;obtain⟨a,S,rfl⟩:=hv;exact Qzq (Kp:=(· ∈keys)) (Ip:=(· ∈ids)) wb wr (TV.nm_of_inK (a1 a S)) (a6 a S)
 ·obtain⟨i,J,D,rfl,E,rfl⟩:=X k b I;simp only[ba]at S;obtain⟨c,M,rfl⟩:=S;have G:=U _ (FY D);rw[Q10 E]at G;exact SD (Kp:=(· ∈keys)) (Ip:=(· ∈ids)) wb wr (AC.nm_of_inK (Ax.1 G c M)) (N.wb _ J E c M)
 ·obtain⟨i,J,D,rfl,E,rfl⟩:=X k b I;obtain⟨arr,p1,p2,p3⟩:=N.bx _ J E;have G:=U _ (FY D);rw[Q10 E]at G;refine⟨arr,by rw[Y];exact p1,Qx (Kp:=(· ∈keys)) (Ip:=(· ∈ids)) eb er rfl (λc M=>AC.nm_of_inK (Ax.1 G c M)) p2,?_⟩;rw[Y];exact λhf=>hf.2.1 _ (FY D) rfl
 ·obtain⟨i,J,D,rfl,E,_⟩:=X k b I;obtain⟨j,y0,V,rfl,L,_⟩:=X k' b' a9;rw[Y,Y]at he;rw[a2 i j D V (N.bi _ _ _ _ E L he)]
 ·obtain⟨i,D,rfl,E⟩:=lr id r O;obtain⟨p1,p2,p0,ys,p3,p4⟩:=N.ro _ r E;exact⟨p1,by rw[xw];exact p2,λg hg hf=>hf.2.2 _ (FY D) (by rw[xr]at hg;exact hg),ys,by rw[xr];exact p3,p4⟩
 ·obtain⟨i,D,rfl,E⟩:=lr id r O;obtain⟨j,V,rfl,L⟩:=lr id' r' b0;rw[xr]at hg a4;rw[a3 i j D V (N.ri _ _ _ _ g E L hg a4)]
 ·obtain⟨i,J,D,rfl,E,_⟩:=X k b I;obtain⟨j,V,rfl,L⟩:=lr id r O;rw[xr,Y];exact N.br _ _ _ _ E L
 ·obtain⟨i,J,D,rfl,E,_⟩:=X k bo I;rw[Y];exact(N.ib b hb).2.1 _ _ E
 ·obtain⟨i,D,rfl,E⟩:=lr id r O;rw[xr];exact(N.ib b hb).2.2 _ _ E
 ·simp only[FB,bp]at I;obtain⟨bo,b3,e⟩:=I;exact⟨e,bo,b3⟩
noncomputable def Fp (ρ E:Env) (G:List (Nat×Box)) (D:List (Nat×Row)) (I bi:Nat->Nat):Env:=
 ⟨λn=>match LI G I n with|some k=>E.bx k|none=>ρ.bx n,λn=>match LI D bi n with|some k=>E.rv k|none=>ρ.rv n,λn=>match LI D bi n with|some k=>E.wd k|none=>ρ.wd n,E.im⟩
theorem Ym (V:RelE Z tm aA aB ρ tmps w) {keys ids:List Nat} (f0:keys.Nodup) (d6:ids.Nodup) {mb G:List (Nat×Box)} {mr I:List (Nat×Row)}
  (f1:D0 aA (λk=>base+pos keys k) (λi=>base+pos ids i) base keys=some mb) (f2:GP aB base ids=some mr) {v:TV} {x:Value} {ρ2:Env} {w':World}
  (M:RelE (FB (K5 w ρ keys ids) w (JF ρ keys ids) mb) [v] G I ρ2 #[x] w') {d:Nat}
  (a5:(G.map (·.1)).Nodup) (c9:(I.map (·.1)).Nodup) (d7:∀k∈Bq keys G,Ac aA (BN keys (Bq keys G) d k)=none) (d8:∀k∈Bq ids I,Ac aB (BN ids (Bq ids I) d k)=none):
  let T:=BN keys (Bq keys G) d
  let bi:=BN ids (Bq ids I) d
  RelE Z (tm.map (H2 ids)) (MJ T bi G ((D9 keys aA).map λp=>(p.1,DX ids p.2))) (Kg bi I (D9 ids aB)) (Fp ρ ρ2 G I T bi) tmps w'/\
   TVR (Fp ρ ρ2 G I T bi) w' (v.ren T bi) x/\TV.wf (MJ T bi G ((D9 keys aA).map λp=>(p.1,DX ids p.2))) (Kg bi I (D9 ids aB)) (v.ren T bi):=by
 intro T bi;obtain⟨b1,b2⟩:=LW f1;obtain⟨r1,r2⟩:=Qpl f2;have b3:∀k∈keys,∃b,Ac aA k=some b:=λk O=>by
  obtain⟨x,q,_⟩:=b1 (pos keys k) (Ew O).1;rw[(Ew O).2]at q;exact⟨x,q⟩
 have b4:∀k∈ids,∃b,Ac aB k=some b:=λk O=>by
  obtain⟨x,q,_⟩:=r1 (pos ids k) (Ew O).1;rw[(Ew O).2]at q;exact⟨x,q⟩
 have c6:∀k∈G.map (·.1),∀j∈G.map (·.1),T k=T j->k=j:=Q5r f0 b3 d7;have c7:∀k∈I.map (·.1),∀j∈I.map (·.1),bi k=bi j->k=j:=Q5r d6 b4 d8
 have b5:∀i,i<keys.length->(∃b,Ac G (base+i)=some b)/\ρ2.bx (base+i)=ρ.bx (nth 0 keys i):=by
  intro i hi;obtain⟨x0,_,q⟩:=b1 i hi;obtain ⟨p1, bo, p2⟩ := M.k0 (base + i) (ρ.bx (nth 0 keys i)) (by
   simp only[FB,q,Option.map_some];show some (ρ.bx (nth 0 keys (base+i-base)))=_;rw[Nat.add_sub_cancel_left])
  exact⟨⟨bo,p2⟩,p1⟩
 have b6:∀i,i<keys.length->T (base+i)=nth 0 keys i:=λi hi=>by
  have:=Mz (names:=keys) (fresh:=Bq keys G) (d:=d) (k:=base+i) ⟨by omega,by omega⟩;rw[Nat.add_sub_cancel_left]at this;exact this
 have d9:∀i,i<ids.length->bi (base+i)=nth 0 ids i:=λi hi=>by
  have:=Mz (names:=ids) (fresh:=Bq ids I) (d:=d) (k:=base+i) ⟨by omega,by omega⟩;rw[Nat.add_sub_cancel_left]at this;exact this
 have e3:∀k∈G.map (·.1),(∃i,i<keys.length/\k=base+i/\T k=nth 0 keys i)\/(Ac aA (T k)=none):=by
  intro k O;by_cases hc:base<=k/\k-base<keys.length
  ·refine .inl ⟨k-base,hc.2,by omega,?_⟩;have:=b6 (k-base) hc.2;rw[show base+(k-base)=k from by omega]at this;exact this
  ·exact .inr (d7 k (Ju.2 ⟨O,hc⟩))
 have e4:∀k∈I.map (·.1),(∃i,i<ids.length/\k=base+i/\bi k=nth 0 ids i)\/(Ac aB (bi k)=none):=by
  intro k O;by_cases hc:base<=k/\k-base<ids.length
  ·refine .inl ⟨k-base,hc.2,by omega,?_⟩;have:=d9 (k-base) hc.2;rw[show base+(k-base)=k from by omega]at this;exact this
  ·exact .inr (d8 k (Ju.2 ⟨O,hc⟩))
 have e5:∀n b,Ac aA n=some b->n∉keys->∀k∈G.map (·.1),n≠T k:=by
  rintro n b N D k O rfl;rcases e3 k O with⟨i,hi,_,e⟩|e
  ·exact D (by rw[e];exact FY hi)
  ·rw[N]at e;cases e
 have e6:∀n b,Ac aB n=some b->n∉ids->∀k∈I.map (·.1),n≠bi k:=by
  rintro n b N D k O rfl;rcases e4 k O with⟨i,hi,_,e⟩|e
  ·exact D (by rw[e];exact FY hi)
  ·rw[N]at e;cases e
 have Y:∀k,(∃b,Ac G k=some b)->(Fp ρ ρ2 G I T bi).bx (T k)=ρ2.bx k:=λk O=>by
  simp only[Fp,Q0o c6 (Mi.2 O)]
 have a3:∀k,(∃b,Ac I k=some b)->(Fp ρ ρ2 G I T bi).rv (bi k)=ρ2.rv k/\(Fp ρ ρ2 G I T bi).wd (bi k)=ρ2.wd k:=λk O=>by
  constructor<;>simp only[Fp,Q0o c7 (Mi.2 O)]
 have a0:∀n,(∃b,Ac aA n=some b)->(Fp ρ ρ2 G I T bi).bx n=ρ.bx n:=by
  rintro n ⟨b,N⟩;by_cases D:n∈keys
  ·obtain⟨p1,p2⟩:=Ew D;obtain⟨q1,q2⟩:=b5 _ p1;have:=Y (base+pos keys n) q1;rw[b6 _ p1,p2,q2,p2]at this;exact this
  ·simp only[Fp,Qzg (e5 n b N D)]
 have a4:∀n,(∃b,Ac aB n=some b)->n∉ids->(Fp ρ ρ2 G I T bi).rv n=ρ.rv n/\(Fp ρ ρ2 G I T bi).wd n=ρ.wd n:=by
  rintro n ⟨b,N⟩ D;constructor<;>simp only[Fp,Qzg (e6 n b N D)]
 have f3:=M.fr.size;have b7:∀n b,Ac aA n=some b->n∉keys->K5 w ρ keys ids (ρ.bx n):=λn b N D=>
  ⟨V.bxlt N,λk O e=>by obtain⟨b',a5⟩:=b3 k O;exact D (by rw[<-V.bi k n b' b a5 N e];exact O),λid U=>by obtain⟨r,hr⟩:=b4 id U;exact V.br n b id r N hr⟩
 have b8:∀n r g,Ac aB n=some r->n∉ids->(ρ.rv n).ownBlock=some g->K5 w ρ keys ids g:=λn r g N D hg=>
  ⟨(V.rwlt N hg).2,λk O e=>by obtain⟨b',a5⟩:=b3 k O;exact V.br k b' n r a5 N (by rw[hg,e]),λid U e=>by obtain⟨r',c9⟩:=b4 id U;exact D (by rw[<-V.ri id n r' r g c9 N e hg];exact U)⟩
 have e7:∀b,ρ.im b->K5 w ρ keys ids b:=λb hb=>
  ⟨(V.ib b hb).1,λk O=>by obtain⟨b',a5⟩:=b3 k O;exact(V.ib b hb).2.1 k b' a5,λid U=>by obtain⟨r,hr⟩:=b4 id U;exact(V.ib b hb).2.2 id r hr⟩
 have fz:∀b,Z.F b->K5 w ρ keys ids b:=λb hb=>
  ⟨V.fs b hb,λk O e=>by obtain⟨b',a5⟩:=b3 k O;obtain⟨_,_,_,q⟩:=V.bx k b' a5;exact q (e▸hb),λid U e=>by obtain⟨r,hr⟩:=b4 id U;exact(V.rwlt hr e).1 hb⟩
 have hold:∀b,K5 w ρ keys ids b->w'.heap[b]? =w.heap[b]? :=λb hb=>M.fr.block b hb;have d0:∀b,ρ.im b->ρ2.im b:=λb hb=>M.i0 b hb;have b9:∀b,ρ2.im b->ρ.im b\/ ¬K5 w ρ keys ids b:=λb hb=>M.i1 b hb
 have f4:∀k∈G.map (·.1),Ac ((D9 keys aA).map λp=>(p.1,DX ids p.2)) (T k)=none:=by
  intro k O;rw[GJ (DX ids),Lb];rcases e3 k O with⟨i,hi,_,e⟩|e
  ·rw[aa (by rw[e];exact FY hi)];rfl
  ·split
   ·rfl
   ·rw[e];rfl
 have f5:∀k∈I.map (·.1),Ac (D9 ids aB) (bi k)=none:=by
  intro k O;rw[Lb];rcases e4 k O with⟨i,hi,_,e⟩|e
  ·rw[aa (by rw[e];exact FY hi)]
  ·split
   ·rfl
   ·exact e
 obtain⟨c0,d1⟩:=S3 (rk:=T) (g:=λb:Box=>(⟨b.ty,b.cells.map (AC.ren T bi)⟩:Box)) a5 c6 f4;obtain⟨c4,d2⟩:=S3 (rk:=bi) (g:=λb:Row=>b) c9 c7 f5;rw[Xw,Qs2];generalize hB:Ib T (λb:Box=>(⟨b.ty,b.cells.map (AC.ren T bi)⟩:Box)) G ((D9 keys aA).map λp=>(p.1,DX ids p.2))=B' at c0 d1⊢;generalize f8:Ib bi (λb:Row=>b) I (D9 ids aB)=R' at c4 d2⊢;have X:∀n b,Ac B' n=some b->(∃k L,Ac G k=some L/\n=T k/\b=⟨L.ty,L.cells.map (AC.ren T bi)⟩)\/(n∉keys/\∃L,Ac aA n=some L/\b=DX ids L):=by
  intro n b N;by_cases hc:∃k∈G.map (·.1),n=T k
  ·obtain⟨k,O,rfl⟩:=hc;obtain⟨L,c1⟩:=Mi.1 O;have:=c0 k L c1;rw[N]at this;simp at this;exact .inl ⟨k,L,c1,rfl,this⟩
  ·rw[d1 n (λk O e=>hc ⟨k,O,e⟩),GJ (DX ids),Lb]at N;split at N
   ·simp at N
   ·rename_i D;simp only[bp]at N;obtain⟨L,E,h2⟩:=N;exact .inr ⟨D,L,E,h2.symm⟩
 have a1:∀n r,Ac R' n=some r->(∃k,Ac I k=some r/\n=bi k)\/(n∉ids/\Ac aB n=some r):=by
  intro n r N;by_cases hc:∃k∈I.map (·.1),n=bi k
  ·obtain⟨k,O,rfl⟩:=hc;obtain⟨L,c1⟩:=Mi.1 O;have:=c4 k L c1;rw[N]at this;simp at this;subst this;exact .inl ⟨k,c1,rfl⟩
  ·rw[d2 n (λk O e=>hc ⟨k,O,e⟩),Lb]at N;split at N
   ·simp at N
   ·rename_i D;exact .inr ⟨D,N⟩
 have a6:∀n b,Ac aA n=some b->∃b',Ac B' n=some b':=by
  intro n b N;by_cases D:n∈keys
  ·obtain⟨p1,p2⟩:=Ew D;obtain⟨⟨bo,q1⟩,_⟩:=b5 _ p1;have:=c0 _ bo q1;rw[b6 _ p1,p2]at this;exact⟨_,this⟩
  ·rw[d1 n (e5 n b N D),GJ (DX ids),Lb,ab D,N];exact⟨_,rfl⟩
 have c8:∀n r,Ac aB n=some r->n∉ids->Ac R' n=some r:=by
  intro n r N D;rw[d2 n (e6 n r N D),Lb,ab D,N]
 let Q:AC->Prop:=λa=>AC.wf aA aB a/\∀id∈ids,AC.free id a
 have c5:∀a,Q a->a.agree ρ (Fp ρ ρ2 G I T bi):=by
  rintro a ⟨S,hf⟩;have hp:∀l:List AC,(∀a∈l,AC.wfP aA a)->∀a∈l,a.agreeP ρ (Fp ρ ρ2 G I T bi):=by
   intro l hl c hc;have:=hl c hc;cases c<;>first|exact a0 _ this|trivial
  cases a with
  |ptr k o=>exact a0 k S
  |bsl k o=>exact a0 k S
  |own id _ _=>obtain⟨r,E,_⟩:=S;exact a4 id ⟨r,E⟩ (λhm=>hf id hm rfl)
  |rptr id _ _=>obtain⟨r,E,_⟩:=S;exact a4 id ⟨r,E⟩ (λhm=>hf id hm rfl)
  |clo f fs cs=>exact⟨hp fs S.1,hp cs S.2⟩
  |_=>trivial
 have e8:∀(a:AC) (y:Value),Q a->CC ρ w a y->CC (Fp ρ ρ2 G I T bi) w' a y:=λa y hq hy=>CC.mono (ρ':=Fp ρ ρ2 G I T bi) d0 (λb hb=>hold b (e7 b hb)) a y (c5 a hq) hy;have c2:∀a,Q a->AC.wf B' R' a:=by
  rintro a ⟨S,hf⟩;cases a with
  |ptr k o=>obtain⟨b,hb⟩:=S;exact a6 k b hb
  |bsl k o=>obtain⟨b,hb⟩:=S;exact a6 k b hb
  |own id _ _=>obtain⟨r,E,h2⟩:=S;exact⟨r,c8 id r E (λhm=>hf id hm rfl),h2⟩
  |rptr id _ _=>obtain⟨r,E,h2⟩:=S;exact⟨r,c8 id r E (λhm=>hf id hm rfl),h2⟩
  |vptr=>exact S
  |clo f fs cs=>exact⟨λc hc=>AC.wfP_mono a6 (S.1 c hc),λc hc=>AC.wfP_mono a6 (S.2 c hc)⟩
  |_=>trivial
 have d3:∀a,AC.wf G I a->AC.wf B' R' (a.ren T bi):=λa S=>
  SD (Kp:=λk=>∃b,Ac G k=some b) (Ip:=λi=>∃r,Ac I i=some r) (λk _ ⟨b,hb⟩=>⟨_,c0 k b hb⟩) (λi r _ hr=>⟨r,c4 i r hr,rfl,rfl⟩) (AC.nm_of_wf S) S
 have f6:∀v∈tm.map (H2 ids),TV.wf aA aB v/\∀id∈ids,TV.free id v:=by
  intro v hv;simp only[ba]at hv;obtain⟨u,hu,rfl⟩:=hv;exact⟨Q98 ids (V.wt u hu),λid U=>Q73 ids u id U⟩
 have e9:∀v∈tm.map (H2 ids),(match v with| .v _ cs=>∀a∈cs,Q a| .tup ps=>∀p∈ps,∀a∈p.2,Q a| .dead=>True):=by
  intro v hv;obtain⟨E,h2⟩:=f6 v hv;cases v with
  |dead=>trivial
  |v g cs=>exact λa S=>⟨E a S,λid U=>h2 id U a S⟩
  |tup ps=>exact λp hp a S=>⟨E p hp a S,λid U=>h2 id U p hp a S⟩
 have qB:∀n L,Ac aA n=some L->∀a∈(DX ids L).cells,Q a:=λn L N a S=>⟨Q7n ids (V.wb n L N) a S,λid U=>Q1q ids L id U a S⟩;have c3:TV.wf G I v:=M.wt v (by simp);refine⟨⟨by simpa using V.tl,λi v hi=> ?_,λv hv=> ?_,λn b N a S=> ?_,λn b N=> ?_,λn n' b b' N d4 he=> ?_,λn r N=> ?_,λn n' r r' g N d4 hg a7=> ?_,λn b m r N hm=> ?_,λb hb=>⟨(M.ib b hb).1,λn bo N=> ?_,λn r N=> ?_⟩,?_,?_,λb hb=>d0 b (V.i0 b hb),λb hb=> ?_,λk b O=> ?_⟩,?_,?_⟩
 ·have hv:=bt hi;simp only[dk,bp]at hi;obtain⟨u,hu,rfl⟩:=hi;exact TVR.mono2 e8 (e9 _ hv) (Zbt ids (V.tv i u hu))
 ·have:=e9 v hv;cases v with
  |dead=>trivial
  |v g cs=>exact λa S=>c2 a (this a S)
  |tup ps=>exact λp hp a S=>c2 a (this p hp a S)
 ·rcases X n b N with⟨k,L,E,rfl,rfl⟩|⟨D,L,E,rfl⟩
  ·simp only[ba]at S;obtain⟨c,hc,rfl⟩:=S;exact d3 c (M.wb k L E c hc)
  ·exact c2 a (qB n L E a S)
 ·rcases X n b N with⟨k,L,E,rfl,rfl⟩|⟨D,L,E,rfl⟩
  ·obtain⟨arr,q1,q2,q3⟩:=M.bx k L E;refine⟨arr,by rw[Y k ⟨L,E⟩];exact q1,Qx (Kp:=λk=>∃b,Ac G k=some b) (Ip:=λi=>∃r,Ac I i=some r) Y a3 rfl (λc hc=>AC.nm_of_wf (M.wb k L E c hc)) q2,?_⟩;rw[Y k ⟨L,E⟩];exact λhf=>q3 (fz _ hf)
  ·obtain⟨arr,q1,q2,q3⟩:=V.bx n L E;rw[a0 n ⟨L,E⟩];refine⟨arr,by rw[hold _ (b7 n L E D),Q4m];exact q1,?_,q3⟩;exact(Q77 ids q2).mono λa S y hy=>e8 a y (qB n L E a S) hy
 ·rcases X n b N with⟨k,L,E,rfl,_⟩|⟨D,L,E,_⟩<;>rcases X n' b' d4 with⟨k',a9,J,rfl,_⟩|⟨a8,a9,J,_⟩
  ·rw[Y k ⟨L,E⟩,Y k' ⟨a9,J⟩]at he;rw[M.bi k k' _ _ E J he]
  ·rw[Y k ⟨L,E⟩,a0 n' ⟨a9,J⟩]at he;obtain⟨_,_,_,q3⟩:=M.bx k L E;exact absurd (he▸b7 n' a9 J a8) q3
  ·rw[a0 n ⟨L,E⟩,Y k' ⟨a9,J⟩]at he;obtain⟨_,_,_,q3⟩:=M.bx k' a9 J;exact absurd (he▸b7 n L E D) q3
  ·rw[a0 n ⟨L,E⟩,a0 n' ⟨a9,J⟩]at he;exact V.bi n n' _ _ E J he
 ·rcases a1 n r N with⟨k,E,rfl⟩|⟨D,E⟩
  ·obtain⟨q1,q2,q0,ys,q3,q4⟩:=M.ro k r E;obtain⟨e1,e2⟩:=a3 k ⟨r,E⟩;rw[e1,e2];exact⟨q1,q2,λg hg hf=>q0 g hg (fz g hf),ys,q3,q4⟩
  ·obtain⟨q1,q2,q0,ys,q3,q4⟩:=V.ro n r E;obtain⟨e1,e2⟩:=a4 n ⟨r,E⟩ D;rw[e1,e2];exact⟨q1,q2,q0,ys,Nl q3 λg hg=>hold g (b8 n r g E D hg),q4.mono d0 (λb hb=>hold b (e7 b hb))⟩
 ·rcases a1 n r N with⟨k,E,rfl⟩|⟨D,E⟩<;>rcases a1 n' r' d4 with⟨k',J,rfl⟩|⟨a8,J⟩
  ·rw[(a3 k ⟨r,E⟩).1]at hg;rw[(a3 k' ⟨r',J⟩).1]at a7;rw[M.ri k k' _ _ g E J hg a7]
  ·rw[(a3 k ⟨r,E⟩).1]at hg;rw[(a4 n' ⟨r',J⟩ a8).1]at a7;obtain⟨_,_,q0,_⟩:=M.ro k r E;exact absurd (b8 n' r' g J a8 a7) (q0 g hg)
  ·rw[(a4 n ⟨r,E⟩ D).1]at hg;rw[(a3 k' ⟨r',J⟩).1]at a7;obtain⟨_,_,q0,_⟩:=M.ro k' r' J;exact absurd (b8 n r g E D hg) (q0 g a7)
  ·rw[(a4 n ⟨r,E⟩ D).1]at hg;rw[(a4 n' ⟨r',J⟩ a8).1]at a7;exact V.ri n n' _ _ g E J hg a7
 ·rcases X n b N with⟨k,L,E,rfl,_⟩|⟨D,L,E,_⟩<;>rcases a1 m r hm with⟨k',J,rfl⟩|⟨d5,J⟩
  ·rw[Y k ⟨L,E⟩,(a3 k' ⟨r,J⟩).1];exact M.br k L k' r E J
  ·rw[Y k ⟨L,E⟩,(a4 m ⟨r,J⟩ d5).1];intro e;obtain⟨_,_,_,q3⟩:=M.bx k L E;exact q3 (b8 m r _ J d5 e)
  ·rw[a0 n ⟨L,E⟩,(a3 k' ⟨r,J⟩).1];intro e;obtain⟨_,_,q0,_⟩:=M.ro k' r J;exact q0 _ e (b7 n L E D)
  ·rw[a0 n ⟨L,E⟩,(a4 m ⟨r,J⟩ d5).1];exact V.br n L m r E J
 ·rcases X n bo N with⟨k,L,E,rfl,_⟩|⟨D,L,E,_⟩
  ·rw[Y k ⟨L,E⟩];exact(M.ib b hb).2.1 k L E
  ·rw[a0 n ⟨L,E⟩];rcases b9 b hb with a2|a2
   ·exact(V.ib b a2).2.1 n L E
   ·exact λe=>a2 (e▸b7 n L E D)
 ·rcases a1 n r N with⟨k,E,rfl⟩|⟨D,E⟩
  ·rw[(a3 k ⟨r,E⟩).1];exact(M.ib b hb).2.2 k r E
  ·rw[(a4 n ⟨r,E⟩ D).1];rcases b9 b hb with a2|a2
   ·exact(V.ib b a2).2.2 n r E
   ·exact λe=>a2 (b8 n r b E D e)
 ·exact V.fr.trans ⟨M.fr.os,M.fr.tape,M.fr.output,M.fr.size,λk O=>hold k (fz k O)⟩
 ·exact λk O=>dp (V.fs k O) f3
 ·rcases b9 b hb with a2|a2
  ·exact V.i1 b a2
  ·exact .inr λhf=>a2 (fz b hf)
 ·obtain⟨q1,bo,q2⟩:=V.k0 k b O;exact⟨by rw[a0 k ⟨bo,q2⟩];exact q1,a6 k bo q2⟩
 ·have f7:TVR ρ2 w' v x:=by simpa using M.tv 0 v rfl
  exact Zah (Kp:=λk=>∃b,Ac G k=some b) (Ip:=λi=>∃r,Ac I i=some r) Y a3 rfl (TV.nm_of_wf c3) f7
 ·exact Qzq (Kp:=λk=>∃b,Ac G k=some b) (Ip:=λi=>∃r,Ac I i=some r) (λk _ ⟨b,hb⟩=>⟨_,c0 k b hb⟩) (λi r _ hr=>⟨r,c4 i r hr,rfl,rfl⟩) (TV.nm_of_wf c3) c3
theorem Qjj {α:Type} {l:List (Nat×α)} {k:Nat} (h:Ie l k=true):Ac l k=none:=by
 unfold Ie at h;split at h
 ·cases h
 ·assumption
theorem Zod (L:Aj P C) (hR:RelE Z tm aA aB ρ tmps w) {o:Oper} {a:Act} {f:FuncId} {args:List TV} {xs:List Value} (h1:xs.length=args.length)
  (h2:∀(i:Nat) (a:TV) (x:Value),args[i]? =some a->xs[i]? =some x->TVR ρ w a x) (h3:execOp a.eval o=callFunc f xs.toArray) (a0:∀v∈args,TV.wf aA aB v) {K:TV->St->Option R} {r:R}
  (h:Ba C o.dst (.callM f args) ⟨tm,aA,aB⟩ K=some r) {next:Act->World->Prop} {Q:Exit->Act->World->Prop}
  (M:∀(v:TV) (T:List TV) (D:List (Nat×Box)) (E:List (Nat×Row)) (ρ':Env) (x:Value) (w':World),K v ⟨T,D,E⟩=some r->RelE Z T D E ρ' tmps w'->TVR ρ' w' v x->TV.wf D E v->next (a.put o.dst x) w'):
  o.wp P a w next Q:=by
 simp only[Ba]at h;split at h
 ·rename_i g hg;have a1:=L.1 f g hg;simp only[Bd]at h;generalize N:LO aA 4 (A4 (cat AC.keys (cat TV.cellsOf args)) [])=keys at h;generalize hi:Og aA (cat TV.cellsOf args) keys=ids at h;clear N hi;cases hc:(Ak (TV.inK keys ids) args&&Ak (λk=>Ak (AC.inK keys ids) (EZ aA k)) keys&&BQ keys&&BQ ids)<;>rw[hc]at h
  ·simp at h
  ·simp only[ai]at h;simp only[ak]at hc;obtain⟨⟨⟨c1,c2⟩,c3⟩,c4⟩:=hc;split at h
   ·rename_i mb mr U V;have X:=I7.1 c3;have J:=I7.1 c4;obtain⟨v,⟨G,I⟩,O,a2⟩:=a1.run h;have Y:=Qqz hR h1 h2 a0 X J (λv O=>Ax.1 c1 v O) (λk N=>Ax.1 c2 k N) U V;refine Ub h3 ((a2 _ w _ xs Y).mono ?_);rintro e w' ⟨x,ρ2,he,a3⟩;dsimp only at O;cases S:(Ak (λp:Nat×Box=>EL G p.1) mb&&BQ (G.map (·.1))&&BQ (I.map (·.1))&&Ak (λk=>Ie aA (BN keys (Bq keys G) (o.dst.getD 0) k)) (Bq keys G)&&Ak (λk=>Ie aB (BN ids (Bq ids I) (o.dst.getD 0) k)) (Bq ids I)&&Nat.ble (Bq keys G).length 100&&Nat.ble (Bq ids I).length 100)<;>rw[S]at O
    ·simp at O
    ·simp only[ai]at O;simp only[ak]at S;obtain⟨⟨⟨⟨⟨⟨_,d2⟩,d3⟩,d4⟩,d5⟩,_⟩,_⟩:=S;obtain⟨e1,e2,e3⟩:=Ym hR X J U V a3 (d:=o.dst.getD 0) (I7.1 d2) (I7.1 d3) (λk N=>Qjj (Ax.1 d4 k N)) (λk N=>Qjj (Ax.1 d5 k N));exact⟨x,he,M _ _ _ _ _ x w' O e1 e2 e3⟩
   ·simp at h
 ·simp at h
theorem RelE.cong {D:List (Nat×Box)} (h:RelE Z tm aA aB ρ tmps w) (G:∀k,Ac D k=Ac aA k):RelE Z tm D aB ρ tmps w:=by
 have L:∀a,AC.wf aA aB a->AC.wf D aB a:=λa=>AC.wf_mono (λk b E=>⟨b,by rw[G];exact E⟩) (λk r E=>⟨r,E,rfl,rfl⟩);exact⟨h.tl,h.tv,λv M=>TV.wf_mono L (h.wt v M),λk b E a I=>L a (h.wb k b (by rw[<-G];exact E) a I),
  λk b E=>h.bx k b (by rw[<-G];exact E),λk k' b b' E J=>h.bi k k' b b' (by rw[<-G];exact E) (by rw[<-G];exact J),h.ro,h.ri,
  λk b id r E=>h.br k b id r (by rw[<-G];exact E),λb hb=>⟨(h.ib b hb).1,λk bo E=>(h.ib b hb).2.1 k bo (by rw[<-G];exact E),(h.ib b hb).2.2⟩,
  h.fr,h.fs,h.i0,h.i1,λk b E=>⟨(h.k0 k b E).1,by rw[G];exact(h.k0 k b E).2⟩⟩
theorem Q2b {keys:List Nat} (E:keys.Nodup):∀{m l:List (Nat×Box)},(m.map (·.1)).Nodup->(∀k∈m.map (·.1),base<=k/\k-base<keys.length)->(∀k∈keys,∃b,Ac l k=some b)->
  (∀k b,Ac m k=some b->Ac (CU keys m l) (nth 0 keys (k-base))=some b)/\(∀n,(∀k∈m.map (·.1),n≠nth 0 keys (k-base))->Ac (CU keys m l) n=Ac l n)
 |[],l,_,_,_=>⟨λk b h=>by simp[Ac]at h,λn _=>rfl⟩
 |(j,c)::m,l,I,J,N=>by
  simp only[bj,List.nodup_cons]at I;have O:=J j (by simp);have L:∀k∈m.map (·.1),nth 0 keys (j-base)≠nth 0 keys (k-base):=λk D e=>by
   have M:=J k (by simp at D⊢;exact .inr D);have U:=congrArg (pos keys) e;rw[IQ E O.2,IQ E M.2]at U;have:k=j:=by omega
   subst this;exact I.1 D
  obtain⟨y,S⟩:=N _ (FY O.2);obtain ⟨V, T⟩ := Q2b E (m := m) (l := upd l (nth 0 keys (j - base)) c) I.2 (λk D => J k (by simp at D ⊢; exact .inr D)) (λk D => by
   by_cases e:k=nth 0 keys (j-base)
   ·subst e;exact⟨c,E8 _ _ _ _ S⟩
   ·rw[DF _ _ _ _ e];exact N k D)
  refine⟨λk b D=> ?_,λn G=> ?_⟩
  ·simp only[Ac]at D;simp only[CU];cases hb:Nat.beq j k<;>rw[hb]at D
   ·exact V k b D
   ·have:=ac hb;subst this;simp at D;subst D;rw[T _ L];exact E8 _ _ _ _ S
  ·simp only[CU];rw[T n (λk D=>G k (by simp at D⊢;exact .inr D))];exact DF _ _ _ _ (G j (by simp))
theorem Znh {D ri:Nat->Nat} {a:AC} (h:a.calm=true):a.ren D ri=a:=by cases a<;>simp[AC.calm]at h<;>rfl
theorem Rq {D ri:Nat->Nat}:∀{l:List AC},Ak AC.calm l=true->l.map (AC.ren D ri)=l
 |[],_=>rfl
 |a::l,h=>by
  rw[Ax]at h;simp only[bj];rw[Znh (h a (by simp)),Rq (Ax.2 λx E=>h x (by simp[E]))]
theorem Qtp {a:AC} (h:a.plain=true):a.calm=true:=by cases a<;>simp[AC.plain]at h<;>rfl
theorem Qqj {E ri:Nat->Nat} {v:TV} (h:v.plainB=true):v.ren E ri=v:=by
 cases v with
 |dead=>rfl
 |v g cs=>
  simp only[TV.plainB,Ax]at h;simp only[TV.ren];rw[Rq (Ax.2 λa D=>Qtp (h a D))]
 |tup ps=>
  simp only[TV.plainB,Ax]at h;simp only[TV.ren];congr 1
  conv=>rhs;rw[<-List.map_id ps]
  apply List.map_congr_left;intro p G;rw[Rq (Ax.2 λa D=>Qtp (h p G a D))];rfl
theorem TE {α:Type} {l:List (Nat×α)} {k:Nat} (h:EL l k=true):∃b,Ac l k=some b:=by
 unfold EL at h;split at h
 ·rename_i b hb;exact⟨b,hb⟩
 ·cases h
theorem Z1c {keys:List Nat} (M:keys.Nodup) {S D:List (Nat×Box)} (T:D0 aA (λk=>base+pos keys k) (λi=>base+pos [] i) base keys=some S)
  (h1:∀p∈S,EL D p.1=true) (h2:∀p∈D,EL S p.1=true) (X:(D.map (·.1)).Nodup) (h4:∀p∈D,Ak AC.calm p.2.cells=true) (bi:Nat->Nat) (d:Nat) (k:Nat):
  Ac (CU keys D aA) k=Ac (MJ (BN keys [] d) bi D ((D9 keys aA).map λp=>(p.1,DX [] p.2))) k:=by
 obtain⟨b1,b2⟩:=LW T;have E:∀k∈D.map (·.1),base<=k/\k-base<keys.length:=by
  intro k G;simp only[ba]at G;obtain⟨p,U,rfl⟩:=G;obtain⟨b,hb⟩:=TE (h2 p U);obtain⟨i,Y,e⟩:=b2 _ _ hb;omega
 have N:∀i,i<keys.length->∃b,Ac D (base+i)=some b:=by
  intro i Y;obtain⟨x,_,q⟩:=b1 i Y;exact TE (h1 _ (OS q))
 have V:∀k∈keys,∃b,Ac aA k=some b:=λk G=>by
  obtain⟨x,q,_⟩:=b1 (pos keys k) (Ew G).1;rw[(Ew G).2]at q;exact⟨x,q⟩
 have I:∀k∈D.map (·.1),BN keys [] d k=nth 0 keys (k-base):=λk G=>Mz (E k G);obtain⟨u1,u2⟩:=Q2b (l:=aA) M X E V;have J:∀n,Ac ((D9 keys aA).map λp=>(p.1,DX [] p.2)) n=if n∈keys then none else Ac aA n:=by
  intro n;rw[GJ,Lb];split
  ·rfl
  ·cases Ac aA n<;>rfl
 have O:∀k∈D.map (·.1),∀j∈D.map (·.1),BN keys [] d k=BN keys [] d j->k=j:=by
  intro k G j L e;rw[I k G,I j L]at e;have e':=congrArg (pos keys) e;rw[IQ M (E k G).2,IQ M (E j L).2]at e';have:=E k G;have:=E j L;omega
 rw[Xw];obtain ⟨v1, v2⟩ := S3 (rk := BN keys [] d) (g := λb : Box => (⟨b.ty, b.cells.map (AC.ren (BN keys [] d) bi)⟩ : Box)) (m := D) (l := (D9 keys aA).map λp => (p.1, DX [] p.2)) X O (λk G => by
  rw[J,I k G,aa (FY (E k G).2)])
 by_cases G:k∈keys
 ·obtain⟨U,hn⟩:=Ew G;obtain⟨b,hb⟩:=N _ U;have e1:=u1 _ b hb;have e2:=v1 _ b hb;rw[I _ (Mi.2 ⟨b,hb⟩)]at e2;rw[show base+pos keys k-base=pos keys k from by omega,hn]at e1 e2;rw[e1,e2];have:=h4 _ (OS hb);rw[Rq this]
 ·rw[u2 k (λj L e=>G (by rw[e];exact FY (E j L).2)),v2 k (λj L e=>G (by rw[e,I j L];exact FY (E j L).2)),J,ab G]
theorem Ziq (M:Aj P C) (hR:RelE Z tm aA aB ρ tmps w) {o:Oper} {a:Act} {f:FuncId} {args:List TV} {xs:List Value} (h1:xs.length=args.length)
  (h2:∀(i:Nat) (a:TV) (x:Value),args[i]? =some a->xs[i]? =some x->TVR ρ w a x) (h3:execOp a.eval o=callFunc f xs.toArray) (Y:∀v∈args,TV.wf aA aB v) {K:TV->St->Option R} {r:R}
  (h:Ba C o.dst (.callD f args) ⟨tm,aA,aB⟩ K=some r) {next:Act->World->Prop} {Q:Exit->Act->World->Prop}
  (N:∀(v:TV) (T:List TV) (D:List (Nat×Box)) (E:List (Nat×Row)) (ρ':Env) (x:Value) (w':World),K v ⟨T,D,E⟩=some r->RelE Z T D E ρ' tmps w'->TVR ρ' w' v x->TV.wf D E v->next (a.put o.dst x) w'):
  o.wp P a w next Q:=by
 simp only[Ba]at h;split at h
 ·rename_i g hg;have a0:=M.1 f g hg;simp only[Bd]at h;generalize G:A4 (cat AC.keys (cat TV.cellsOf args)) []=keys at h;clear G;cases hc:(Ak (TV.inK keys []) args&&Ak (λk=>Ak AC.calm (EZ aA k)) keys&&BQ keys)<;>rw[hc]at h
  ·simp at h
  ·simp only[ai]at h;simp only[ak]at hc;obtain⟨⟨c1,c2⟩,c3⟩:=hc;have a1:Ak (λk=>Ak (AC.inK keys []) (EZ aA k)) keys=true:=by
    rw[Ax]at c2⊢;intro k G;have:=c2 k G;rw[Ax]at this⊢;intro b hb;have:=this b hb;cases b<;>simp[AC.calm]at this<;>rfl
   split at h
   ·rename_i mb J;have O:=I7.1 c3;obtain⟨v,⟨I,a2⟩,L,a3⟩:=a0.run h;have U:=Qqz hR h1 h2 Y O List.nodup_nil (λv L=>Ax.1 c1 v L) (λk G=>Ax.1 a1 k G) J (show GP aB base []=some []from rfl);refine Ub h3 ((a3 _ w _ xs U).mono ?_);rintro e w' ⟨x,ρ2,he,a4⟩;cases a2 with
    |cons _ _=>simp at L
    |nil=>
     dsimp only at L;cases S:(Ak (λp:Nat×Box=>EL I p.1) mb&&Ak (λp:Nat×Box=>EL mb p.1) I&&BQ (I.map (·.1))&&Ak (λp:Nat×Box=>Ak AC.calm p.2.cells) I&&v.plainB)<;>rw[S]at L
     ·simp at L
     ·simp only[ai]at L;simp only[ak]at S;obtain⟨⟨⟨⟨d1,d2⟩,d3⟩,d4⟩,d5⟩:=S;have V:Bq keys I=[]:=by
       apply List.eq_nil_iff_forall_not_mem.2;intro k G;obtain⟨q1,q2⟩:=Ju.1 G;simp only[ba]at q1;obtain⟨p,hp,rfl⟩:=q1;obtain⟨b,hb⟩:=TE (Ax.1 d2 p hp);obtain⟨i,hi,e⟩:=(LW J).2 _ _ hb;exact q2 (by omega)
      obtain⟨e1,e2,e3⟩:=Ym hR O List.nodup_nil J (show GP aB base []=some []from rfl) a4 (d:=o.dst.getD 0) (I7.1 d3) List.nodup_nil (λk G=>by rw[V]at G;simp at G) (λk G=>by simp[Bq]at G);rw[V]at e1 e2 e3;have a5:=Z1c O J (Ax.1 d1) (Ax.1 d2) (I7.1 d3) (Ax.1 d4) (BN [] (Bq [] ([]:List (Nat×Row))) (o.dst.getD 0)) (o.dst.getD 0);have X:=e1.cong a5;have a6:tm.map (H2 [])=tm:=by
       conv=>rhs;rw[<-List.map_id tm]
       rfl
      rw[a6]at X;rw[Qqj d5]at e2;exact⟨x,he,N _ _ _ _ _ x w' L X e2 (KM d5)⟩
   ·simp at h
 ·simp at h
theorem Ze9 {keys ids:List Nat} {v:TV} (h:v.plainB=true):TV.inK keys ids v=true:=by
 cases v with
 |dead=>rfl
 |v g cs=>
  simp only[TV.plainB,TV.inK]at h⊢;rw[Ax]at h⊢;intro a D;have:=h a D;cases a<;>simp[AC.plain]at this<;>rfl
 |tup ps=>
  simp only[TV.plainB,TV.inK]at h⊢;rw[Ax]at h⊢;intro p E;have:=h p E;rw[Ax]at this⊢;intro a D;have:=this a D;cases a<;>simp[AC.plain]at this<;>rfl
theorem Qwr {rk ri:Nat->Nat}:∀{args:List TV},Ak TV.plainB args=true->args.map (TV.ren rk ri)=args
 |[],_=>rfl
 |a::l,h=>by
  simp only[Ak]at h;obtain⟨h1,h2⟩:=cond_none' h;simp only[bj];rw[Qqj h1,Qwr h2]
 where cond_none' {c p:Bool} (h:cond c p false=true):c=true/\p=true:=by cases c<;>simp at h;exact⟨rfl,h⟩
theorem Qtn (x:Nat):x.blt 0=false:=rfl
theorem Zgp (j:Nat) (r:Row):Bq [] [(j,r)]=[j]:=by
 have D:(base.ble j&&(j-base).blt 0)=false:=by
  rw[Qtn,Bool.and_false]
 unfold Bq;simp only[cx,D,an];rfl
theorem Z0e (j d:Nat):BN [] [j] d j=HO d:=by
 have D:(base.ble j&&(j-base).blt 0)=false:=by
  rw[Qtn,Bool.and_false]
 unfold BN HO;simp only[cx,D,an,pos,Nat.beq_refl,ai,Nat.add_zero]
theorem Z7l (U:Aj P C) (hR:RelE Z tm aA aB ρ tmps w) {o:Oper} {a:Act} {f:FuncId} {args:List TV} {xs:List Value} (h1:xs.length=args.length)
  (h2:∀(i:Nat) (a:TV) (x:Value),args[i]? =some a->xs[i]? =some x->TVR ρ w a x) (h3:execOp a.eval o=callFunc f xs.toArray) (a9:∀v∈args,TV.wf aA aB v) {K:TV->St->Option R} {r:R}
  (h:Ba C o.dst (.callF f args) ⟨tm,aA,aB⟩ K=some r) {next:Act->World->Prop} {Q:Exit->Act->World->Prop}
  (J:∀(v:TV) (a1:List TV) (D:List (Nat×Box)) (G:List (Nat×Row)) (ρ':Env) (x:Value) (w':World),K v ⟨a1,D,G⟩=some r->RelE Z a1 D G ρ' tmps w'->TVR ρ' w' v x->TV.wf D G v->next (a.put o.dst x) w'):
  o.wp P a w next Q:=by
 simp only[Ba]at h;split at h
 ·rename_i g hg;have b0:=U.1 f g hg;cases V:Ak TV.plainB args<;>rw[V]at h
  ·simp at h
  simp only[ai]at h;obtain⟨v,⟨b1,L⟩,E,b2⟩:=b0.run h;have O:=Qqz hR h1 h2 a9 List.nodup_nil List.nodup_nil (keys:=[]) (ids:=[]) (λv E=>Ze9 (Ax.1 V v E)) (λk M=>by simp at M) (show D0 aA _ _ base []=some []from rfl) (show GP aB base []=some []from rfl);rw[Qwr V]at O;refine Ub h3 ((b2 _ w _ xs O).mono ?_);rintro e w' ⟨x,ρ2,he,a2⟩;have a3:tm.map (H2 [])=tm:=by
   conv=>rhs;rw[<-List.map_id tm]
   rfl
  have X:(D9 [] aA).map (λp=>(p.1,DX [] p.2))=aA:=by
   conv=>rhs;rw[<-List.map_id aA]
   rfl
  cases b1 with
  |cons _ _=>simp at E
  |nil=>
  have a4:(L.map (·.1)).Nodup->(∀k∈Bq [] L,Ac aB (BN [] (Bq [] L) (o.dst.getD 0) k)=none)->_:=λd1 d2=>
   Ym hR List.nodup_nil List.nodup_nil (show D0 aA _ _ base []=some []from rfl) (show GP aB base []=some []from rfl) a2 (d:=o.dst.getD 0) (by simp) d1 (λk M=>by simp[Bq]at M) d2
  cases L with
  |nil=>
   dsimp only at E;cases Y:v.plainB<;>rw[Y]at E
   ·simp at E
   simp only[ai]at E;obtain⟨e1,e2,e3⟩:=a4 (by simp) (λk M=>by simp[Bq]at M);rw[a3,X]at e1;rw[Qqj Y]at e2;exact⟨x,he,J _ _ _ _ _ x w' E e1 e2 (KM Y)⟩
  |cons p l=>
   obtain⟨k,I⟩:=p;cases l with
   |cons _ _=>simp at E
   |nil=>
    dsimp only at E;split at E
    ·rename_i j w0 n0;cases N:Nat.beq j k<;>rw[N]at E
     ·simp at E
     simp only[ai]at E;have N:=ac N;subst N;split at E
     ·simp at E
     rename_i a0;simp only[Bd]at E;have hf:=Zgp j I;have hb:=Z0e j (o.dst.getD 0);obtain ⟨e1, e2, e3⟩ := a4 (by simp) (λk M => by
      rw[hf]at M⊢;simp at M;subst M;rw[hb];exact a0)
     rw[a3,X]at e1;rw[X]at e3;have b3:=a2.wt (.v false [.own j w0 n0]) (by simp) (.own j w0 n0) (by simp);obtain⟨r1,a5,b4,b5⟩:=b3;simp only[Ac,Nat.beq_refl,ai,ap]at a5;subst a5;have S:TV.ren (BN [] (Bq ([]:List Nat) ([]:List (Nat×Box))) (o.dst.getD 0)) (BN [] (Bq [] [(j,I)]) (o.dst.getD 0)) (.v false [.own j w0 n0])= .c (.own (HO (o.dst.getD 0)) I.ks.length I.l.length):=by
      simp only[TV.ren,bj,dh,AC.ren,hf,hb];rw[<-b5,<-b4]
     have T:Kg (BN [] (Bq [] [(j,I)]) (o.dst.getD 0)) [(j,I)] (D9 [] aB)=ins aB (HO (o.dst.getD 0)) I:=by
      simp only[Kg,hf,hb,D9]
     have a6:=e1;rw[T]at a6;have a7:=e2;rw[S]at a7;have a8:=e3;rw[S,T]at a8;exact⟨x,he,J _ _ _ _ _ x w' E a6 a7 a8⟩
    ·simp at E
 ·simp at h
end
open Go.RowKit
section
variable {P:Program} {C:Cfg} {ρ:Env} {w:World} {R:Type} {Z:Base} {tm:List TV} {aA:List (Nat×Box)} {aB:List (Nat×Row)} {tmps:Array Value}
theorem Zf8 {g:Bool} {sz off:Nat} {cells:List AC} {v:TV} (D:DN g sz cells off=some v) (hb:∀a∈cells,AC.wf aA aB a):TV.wf aA aB v:=by
 unfold DN at D;cases g
 ·simp only[an]at D;split at D
  ·rename_i c G;simp at D;subst D;intro c' E;simp at E;subst E;exact hb _ (bt G)
  ·simp at D
 ·simp only[ai]at D;cases I:Nat.ble (off+sz) cells.length<;>rw[I]at D
  ·simp at D
  ·simp at D;subst D;intro c G;exact hb c (de (df G))
theorem Zz2 {a L:TV} (D:a.hasOwn=false) (I:a.res aB=some L):a=L:=by
 have M:∀(cs E:List AC),cs.any AC.isOwn=false->FT aB cs=some E->cs=E:=by
  intro cs;induction cs with
  |nil=>intro E _ h;simp[FT]at h;rw[h]
  |cons b cs N=>
   intro E D h;simp only[List.any_cons,Bool.or_eq_false_iff]at D;simp only[FT]at h;split at h
   ·rename_i b' G;split at h
    ·rename_i S J;simp at h;subst h;rw[N _ D.2 J];have O:=D.1;cases b<;>simp only[AC.res]at G<;>first|(simp at G;done)|(simp[AC.isOwn]at O;done)|(simp at G;subst G;rfl)
    ·simp at h
   ·simp at h
 cases a with
 |dead=>simp[TV.res]at I
 |tup=>simp[TV.res]at I
 |v g cs=>
  simp only[TV.res]at I;split at I
  ·rename_i l h;simp at I;subst I;rw[M _ _ D h]
  ·simp at I
theorem Zel {t e:TypeId} {i:TypeInfo} {z:Value} (D:P.underlying t=some (.slice e)) (E:P.info? e=some i) (G:i.zero=some z) {kl kc:IntKind} {n:Nat} (hb:n*i.bytes<=140737488355328) (I:n<=140737488355328):
  ∃(w':World) (arr:Array Value),(Instr.makeSlice t (.int kl (n:Int)) (.int kc (n:Int))).run P w= .ok (.slice (some ⟨w.heap.size,0,none⟩) n n) w'/\w'=w.alloc (.cells arr e)/\
   arr.toList=(List.range (n*i.size)).map λj=>z.cells[j%z.cells.size]! :=by
 have e1:((n*i.bytes:Nat):Int)=(n:Int)*(i.bytes:Int):=Int.natCast_mul _ _;have e2:(i.bytes:Int)*(n:Int)<=281474976710656:=by rw[Int.mul_comm];omega
 have h:=run_make w t e i z D E G kl kc (n:Int) (n:Int) (by omega) (cd _) e2 (by omega);rw[aj]at h;exact⟨_,madeCells z.cells (n*i.size),h,rfl,by simp[madeCells]⟩
theorem Qpa (a4:Aj P C) (O:RelE Z tm aA aB ρ tmps w) {o:Oper} {a:Act} {p:Prim} (hp:JH P ρ w a.eval o p) (a2:Prim.wf aA aB p) (c9:Prim.isApp (some p)=false) {K:TV->St->Option R} {r:R}
  (h:Ba C o.dst p ⟨tm,aA,aB⟩ K=some r) {next:Act->World->Prop} {Q:Exit->Act->World->Prop}
  (E:∀(v:TV) (f2:List TV) (a5:List (Nat×Box)) (b2:List (Nat×Row)) (ρ':Env) (x:Value) (w':World),K v ⟨f2,a5,b2⟩=some r->RelE Z f2 a5 b2 ρ' tmps w'->TVR ρ' w' v x->TV.wf a5 b2 v->next (a.put o.dst x) w'):
  o.wp P a w next Q:=by
 cases p with
 |val v=>
  obtain⟨x,U,S⟩:=hp;exact H9 U (E v _ _ _ ρ x w h O S a2)
 |load g sz key off=>
  obtain⟨t,U,S,T⟩:=hp;simp only[Ba]at h;split at h
  ·rename_i b M;split at h
   ·rename_i v V;obtain⟨arr,q1,q2,q3⟩:=O.bx key b M;obtain ⟨x, X, q5⟩ := Vb (b := ρ.bx key) (o := 0) U S V q2 (λj y hj => by
     simp only[Nat.zero_add];rw[cell_of_row w _ j arr b.ty (0,0) q1];simpa using hj)
    rw[Nat.zero_add]at X;rw[X]at T;refine H9 T (E v _ _ _ ρ x w h O q5 ?_);have hb:=O.wb key b M;unfold DN at V;cases g
    ·simp only[an]at V;split at V
     ·rename_i c I;simp at V;subst V;intro c' b6;simp at b6;subst b6;exact hb _ (bt I)
     ·simp at V
    ·simp only[ai]at V;cases b3:Nat.ble (off+sz) b.cells.length<;>rw[b3]at V
     ·simp at V
     ·simp at V;subst V;intro c I;exact hb c (de (df I))
   ·simp at h
  ·simp at h
 |store key off cs=>
  obtain⟨t,x,U,S,T⟩:=hp;simp only[Ba]at h;split at h
  ·rename_i b M;cases hb:Nat.ble (off+cs.length) b.cells.length<;>rw[hb]at h
   ·simp at h
   ·simp only[ai,Bd]at h;have hle:=az hb;obtain⟨arr,q1,q2,q3⟩:=O.bx key b M;have hlen:=S.length;rw[hlen]at U hle;have X:=Qxm U q1 (by rw[<-Array.length_toList,<-q2.length];exact hle) S.one;rw[X]at T;refine Zaq T (E .dead _ _ _ ρ undef _ h (O.store M ?_ ?_) trivial trivial)
    ·intro c I;rw[GR _ _ _ (by rw[hlen];exact hle)]at I;simp only[bn]at I;rcases I with(I|I)|I
     ·exact O.wb key b M c (df I)
     ·exact a2.2 c I
     ·exact O.wb key b M c (de I)
    ·exact q2.splice off S
  ·simp at h
 |new ty cs=>
  obtain⟨arr,U,S⟩:=hp;simp only[Ba]at h;split at h
  ·rename_i d hd;split at h
   ·simp at h
   ·rename_i hn;simp only[Bd]at h;refine H9 S (E _ _ _ _ _ _ _ h (O.new hn a2 U) ?_ ?_)
    ·refine TVR.c' ?_;simp only[CC,BT]
    ·intro c I;simp at I;subst I;exact⟨_,Fh _ _ _ hn⟩
  ·simp at h
 |newS ty n cs=>
  obtain⟨arr,U,S⟩:=hp;simp only[Ba]at h;split at h
  ·rename_i d hd;split at h
   ·simp at h
   ·rename_i hn;simp only[Bd]at h;refine H9 S (E _ _ _ _ _ _ _ h (O.new hn a2 U) ?_ ?_)
    ·refine TVR.c' ?_;simp only[CC,BT]
    ·intro c I;simp at I;subst I;exact⟨_,Fh _ _ _ hn⟩
  ·simp at h
 |rload g sz id idx sub=>
  obtain⟨t,b,U,S,hb,T⟩:=hp;obtain⟨D,N,a3⟩:=a2;simp only[Ba,N]at h;split at h
  ·rename_i v V;obtain⟨q1,q2,_,xs,q3,X⟩:=O.ro id D N;have a7:D.l[idx]? =some D.l[idx]:=ah a3;have f3:=X.2.2 idx _ a7;have hf:D.f idx=D.l[idx]:=by
    show AT D.ks (nth [] D.l idx)=_;rw[BW,List.getD,a7];exact X.2.1 _ (bm a3)
   have g8:Ry w b (HV (ρ.rv id)+idx*D.w) (cut xs (idx*D.w) D.w):=by
    intro j y hj;simp only[cut,List.getElem?_take]at hj;split at hj
    ·rw[List.getElem?_drop]at hj;have:=QQ q3 hb (idx*D.w+j) y hj;rw[<-Nat.add_assoc]at this;exact this
    ·simp at hj
   rw[hf]at V;obtain⟨x,q5,q6⟩:=Vb (b:=b) (o:=HV (ρ.rv id)+idx*D.w) (ρ:=ρ) U S V (f3.mono λ_ _ _ hh=>JY hh) g8;rw[<-q2,Nat.add_assoc]at q5;rw[q5]at T;exact H9 T (E v _ _ _ ρ x w h O q6 (Zf8 V (Zmq f3)))
  ·simp at h
 |rstore id idx sub cs=>
  obtain⟨t,x,b,U,S,hb,T⟩:=hp;obtain⟨D,N,a3⟩:=a2;simp only[Ba,N]at h;cases I:(Nat.ble (sub+cs.length) D.w&&Ak AC.plain cs)<;>rw[I]at h
  ·simp at h
  ·simp only[ai]at h;split at h
   ·rename_i c d2;simp only[Bd]at h;simp only[ak]at I;have hle:=az I.1;obtain⟨q1,q2,_,xs,q3,X⟩:=O.ro id D N;have a7:D.l[idx]? =some D.l[idx]:=ah a3;have hf:D.f idx=D.l[idx]:=by
     show AT D.ks (nth [] D.l idx)=_;rw[BW,List.getD,a7];exact X.2.1 _ (bm a3)
    rw[hf]at d2;rcases q3.2 with⟨e1,e2⟩|⟨g',Y,cap,cur,e1,e3,e4,e5,e6,e7⟩
    ·have:idx<D.n:=a3;omega
    ·have g9:b=g':=by rw[e1]at hb;simp[Value.ownBlock]at hb;exact hb.symm
     subst g9;have hlen:=S.length;have b9:=X.1;have hbound:idx*D.w+sub+cs.length<=D.n*D.w:=by
      have:idx*D.w+D.w<=D.n*D.w:=by
       calc idx*D.w+D.w=(idx+1)*D.w:=by rw[Nat.add_mul,Nat.one_mul]
        _<=D.n*D.w:=bf _ a3
      omega
     have h0:D.n*D.w<=cap*D.w:=bf _ e4;rw[q2]at T;rw[hlen]at U hle hbound;have f4:HV (ρ.rv id)=Y:=by rw[e1];rfl
     rw[f4]at T;have q5:=Qxm (off:=Y+(idx*D.w+sub)) U e3 (by omega) S.one;rw[q5]at T;have c0:Y+cap*D.w<=cur.toList.length:=by rw[Array.length_toList];exact e6
     have i0:(splice cur.toList (Y+(idx*D.w+sub)) x.cells.toList).drop Y=splice (cur.toList.drop Y) (idx*D.w+sub) x.cells.toList:=by
      rw[GR _ _ _ (by omega),GR _ _ _ (by rw[bq];omega),List.append_assoc,List.drop_append_of_le_length (by rw[List.length_take];omega),List.drop_take,show Y+(idx*D.w+sub)-Y=idx*D.w+sub from by omega,List.drop_drop,List.append_assoc];congr 2;rw[Nat.add_assoc]
     have i1:((splice cur.toList (Y+(idx*D.w+sub)) x.cells.toList).drop Y).take (D.n*D.w)=splice xs (idx*D.w+sub) x.cells.toList:=by
      rw[i0];have i2:cap*D.w<=(cur.toList.drop Y).length:=by rw[bq];omega
      generalize cur.toList.drop Y=L at e7 i2⊢;rw[GR _ _ _ (by omega),GR _ _ _ (by rw[b9];exact hbound),<-e7];apply List.ext_getElem?;intro j;simp only[List.getElem?_take,List.getElem?_append,List.length_take,ao,List.getElem?_drop];by_cases hj:j<D.n*D.w
      ·rw[aa hj];by_cases j1:j<idx*D.w+sub
       ·rw[aa (by omega),aa (by omega),aa (by omega),aa (by omega),aa (by omega),aa (by omega),aa hj]
       ·by_cases j2:j<idx*D.w+sub+x.cells.toList.length
        ·rw[aa (by omega),ab (by omega),aa (by omega),ab (by omega)];congr 1;omega
        ·rw[ab (by omega),ab (by omega),aa (by omega)];congr 1;omega
      ·rw[ab hj,ab (by omega),ab (by omega)]
     have i3: ¬ρ.im b:=λhi=>(O.ib b hi).2.2 id D N hb;have hold:∀k,k≠b->(w.setRow b (splice cur.toList (Y+(idx*D.w+sub)) x.cells.toList).toArray).heap[k]? =w.heap[k]? :=λk M=>setRow_other w b k _ M;have c4:∀(a:AC) (y:Value),CP ρ.im w a y->CP ρ.im (w.setRow b (splice cur.toList (Y+(idx*D.w+sub)) x.cells.toList).toArray) a y:=λa y hh=>CP.mono (λ_ h=>h) (λk M=>hold k (λe=>i3 (e▸M))) a y hh;have d3:CL (CP ρ.im w) c (splice (cut xs (idx*D.w) D.w) sub x.cells.toList)/\AT D.ks c=c:=
      R_ d2 (((X.2.2 idx _ a7).mono λ_ _ _ hh=>JY hh).splice sub S)
     have a1:=O.turnRow (id:=id) N (r':=⟨D.ty,D.ks,D.l.set idx c⟩) (v':=ρ.rv id)
      (xs:=splice xs (idx*D.w+sub) x.cells.toList) (w':=w.setRow b (splice cur.toList (Y+(idx*D.w+sub)) x.cells.toList).toArray)
      ⟨rfl,rfl,rfl,by simp,λk _ M=>hold k (λe=>M (by rw[e,hb]))⟩ rfl
      ⟨by simp only[Row.n,Row.w,List.length_set];rw[LX];exact b9, .inr ⟨b,Y,cap,_,by simp only[Row.n,List.length_set];exact e1,setRow_heap w b cur _ D.ty _ e3,by simp only[Row.n,List.length_set];exact e4,e5,by simp only[List.size_toArray];rw[LX];exact c0,by simp only[Row.n,List.length_set];exact i1⟩⟩
      ⟨by simp only[List.length_set];rw[LX];exact b9,λc' b6=>by
       rcases List.mem_or_eq_of_mem_set b6 with b6|rfl
       ·exact X.2.1 c' b6
       ·exact d3.2,λi c' hi=>by
       simp only[List.getElem?_set]at hi;by_cases d6:idx=i
       ·subst d6;rw[aa rfl,aa a3]at hi;simp at hi;subst hi;have e:=Z1k xs x.cells.toList idx D.w sub D.n a3 b9 (by omega);show CL _ c (cut _ (idx*D.w) D.w);rw[e];exact d3.1.mono λa _ y hh=>c4 a y hh
       ·rw[ab d6]at hi;have j3:i<D.n:=(List.getElem?_eq_some_iff.1 hi).1;have e:=Zj1 xs x.cells.toList idx i D.w sub D.n a3 (λe=>d6 e.symm) b9 (by omega);show CL _ c' (cut _ (i*D.w) D.w);rw[e];exact(X.2.2 i c' hi).mono λa _ y hh=>c4 a y hh⟩
      (.inl rfl) (.inl ⟨rfl,by simp[Row.n]⟩)
     exact Zaq T (E .dead _ _ _ _ undef _ h a1 trivial trivial)
   ·simp at h
 |newRow el ks l=>
  obtain⟨arr,U,S,T,h4⟩:=hp;simp only[Ba]at h;split at h
  ·rename_i d hd;split at h
   ·simp at h
   ·rename_i hn;simp only[Bd]at h;have hb:Below w.heap.size w (w.alloc (.cells arr el)):=(Below.refl _ _).alloc (co _) _;have J:RowC ρ.im (w.alloc (.cells arr el)) ks l arr.toList:=T.mono (λ_ h=>h) (λb G=>Below.heap_alloc w _ b (O.ib b G).1);have a8:=O.addRow (d:=C.rowAs d) hn (r:=⟨el,ks,l⟩) (v':= .slice (some ⟨w.heap.size,0,none⟩) l.length l.length) (xs:=arr.toList) (w':=w.alloc (.cells arr el)) hb U
     ⟨T.1, .inr ⟨w.heap.size,0,l.length,arr,rfl,heap_alloc_new w _,co _,S,by rw[<-Array.length_toList,Nat.zero_add];exact Nat.le_of_eq T.1.symm,by
      show List.take (l.length*ks.length) _=_;rw[<-T.1,List.drop_zero,List.take_length]⟩⟩ J
     (λg hg=>by simp[Value.ownBlock]at hg;omega)
    refine H9 h4 (E _ _ _ _ _ _ _ h a8 ?_ ?_)
    ·exact TVR.c' ⟨by simp only[BT],by simp only[BT], .inr ⟨_,_,_,rfl⟩⟩
    ·intro c I;simp at I;subst I;exact⟨_,Fh _ _ _ hn,rfl,rfl⟩
  ·simp at h
 |newView el ks l=>
  obtain⟨arr,U,S,T,h4⟩:=hp;simp only[Ba]at h;have hb:Below w.heap.size w (w.alloc (.cells arr el)):=(Below.refl _ _).alloc (co _) _;have J:RowC ρ.im (w.alloc (.cells arr el)) ks l arr.toList:=T.mono (λ_ h=>h) (λb G=>Below.heap_alloc w _ b (O.ib b G).1);have hg:=O.growIm (im':=λb=>ρ.im b\/b=w.heap.size) hb (λb h=> .inl h) (λb h=>h.imp id λe=>by subst e;exact⟨co _,Pz (heap_alloc_new w _)⟩);refine H9 h4 (E _ _ _ _ _ _ _ h hg ?_ ?_)
  ·refine TVR.c' ?_;have c5:EX (w.alloc (.cells arr el)) el ks.length (.slice (some ⟨w.heap.size,0,none⟩) l.length l.length) l.length arr.toList:=
    ⟨T.1, .inr ⟨w.heap.size,0,l.length,arr,rfl,heap_alloc_new w _,co _,S,by rw[<-Array.length_toList,Nat.zero_add];exact Nat.le_of_eq T.1.symm,by rw[List.drop_zero,<-T.1,List.take_length]⟩⟩
   exact JY (YT c5 (J.mono (λ_ h=> .inl h) (λ_ _=>rfl)) (λg hg=> .inr (by simp[Value.ownBlock]at hg;exact hg.symm)))
  ·intro c I;simp at I;subst I;trivial
 |make el ks bytes n z=>
  obtain⟨t,i,zv,kl,kc,U,S,T,h4,h5,h6,h7,h8,h9,f5⟩:=hp;subst h5;simp only[Ba]at h;split at h
  ·rename_i d hd;split at h
   ·simp at h
   ·rename_i hn;cases I:(decide (0<=n)&&decide (n*(i.bytes:Int)<=140737488355328))<;>rw[I]at h
    ·simp at h
    ·simp only[ai,Bd]at h;simp only[ak,cq]at I;have f6:((n.toNat:Nat):Int)=n:=Int.toNat_of_nonneg I.1;have f7:zv.cells.toList.length=ks.length:=by
      rw[<-h9.length,<-h8];exact QO _ _
     have i4:n.toNat*i.bytes<=140737488355328:=by
      have S:=I.2;rw[<-f6]at S;have e1:((n.toNat*i.bytes:Nat):Int)=(n.toNat:Int)*(i.bytes:Int):=Int.natCast_mul _ _;omega
     have j4:n.toNat<=n.toNat*i.bytes:=Nat.le_mul_of_pos_right _ h7;obtain⟨w',arr,p1,p2,p3⟩:=Zel (P:=P) (w:=w) (t:=t) (e:=el) (i:=i) (z:=zv) U S T (kl:=kl) (kc:=kc) (n:=n.toNat) i4 (by omega);rw[f6]at p1;rw[p1]at f5;subst p2;have d0:zv.cells.size=ks.length:=by rw[<-Array.length_toList];exact f7
     have b4:arr.toList.length=n.toNat*ks.length:=by rw[p3,h4,d0];simp[d0]
     have f8:∀j,j<n.toNat->cut arr.toList (j*ks.length) ks.length=zv.cells.toList:=by
      intro j hj;have hle:j*ks.length+ks.length<=n.toNat*ks.length:=by
       calc j*ks.length+ks.length=(j+1)*ks.length:=by rw[Nat.add_mul,Nat.one_mul]
        _<=n.toNat*ks.length:=bf _ hj
      apply List.ext_getElem?;intro q;simp only[cut,List.getElem?_take,List.getElem?_drop];by_cases hq:q<ks.length
      ·rw[aa hq,p3,h4,d0];rw[dk,List.getElem?_range (by omega)];simp only[Option.map_some];rw[show(j*ks.length+q)%ks.length=q from by rw[Nat.mul_comm,Nat.mul_add_mod];exact Nat.mod_eq_of_lt hq];have:q<zv.cells.size:=by rw[d0];exact hq
       rw[getElem!_pos zv.cells q this,Array.getElem?_toList,Array.getElem?_eq_getElem this]
      ·rw[ab hq,db (by rw[f7];omega)]
     have hb:Below w.heap.size w (w.alloc (.cells arr el)):=(Below.refl _ _).alloc (co _) _;have d7:RowC ρ.im w ks (List.replicate n.toNat z) arr.toList:=by
      refine⟨by rw[b4];simp,λc I=> ?_,λj c hj=> ?_⟩
      ·rw[List.mem_replicate]at I;rw[I.2];exact h8
      ·rw[List.getElem?_replicate]at hj;split at hj
       ·rename_i i5;simp at hj;subst hj;rw[f8 j i5];exact h9
       ·simp at hj
     have J:RowC ρ.im (w.alloc (.cells arr el)) ks (List.replicate n.toNat z) arr.toList:=d7.mono (λ_ h=>h) (λb G=>Below.heap_alloc w _ b (O.ib b G).1);have c6:(List.replicate n.toNat z).length=n.toNat:=by simp
     have a8:=O.addRow (d:=d) hn (r:=⟨el,ks,List.replicate n.toNat z⟩) (v':= .slice (some ⟨w.heap.size,0,none⟩) n.toNat n.toNat) (xs:=arr.toList) (w':=w.alloc (.cells arr el)) hb h6
      ⟨by simp only[Row.n,Row.w,c6];exact b4, .inr ⟨w.heap.size,0,n.toNat,arr,by simp only[Row.n,c6],heap_alloc_new w _,by simp only[Row.n,c6];exact co _,by simp only[maxLen];omega,by rw[<-Array.length_toList,Nat.zero_add];exact Nat.le_of_eq b4.symm,by
       simp only[Row.n,c6];show List.take (n.toNat*ks.length) _=_;rw[<-b4,List.drop_zero,List.take_length]⟩⟩ J
      (λg hg=>by simp[Value.ownBlock]at hg;omega)
     refine H9 f5 (E _ _ _ _ _ _ _ h a8 ?_ ?_)
     ·exact TVR.c' ⟨by simp only[BT],by simp only[BT], .inr ⟨_,_,_,by rw[c6]⟩⟩
     ·intro c I;simp at I;subst I;exact⟨_,Fh _ _ _ hn,by simp[Row.n],rfl⟩
  ·simp at h
 |cutR id a=>
  simp only[Ba]at h;split at h
  ·rename_i D N;have hle:Nat.ble a D.l.length=true:=by
    cases hb:Nat.ble a D.l.length
    ·rw[hb]at h;simp at h
    ·rfl
   rw[hle]at h;simp only[ai]at h;have hle:a<=D.n:=az hle;simp only[Bd]at h;obtain⟨q1,q2,_,xs,q3,X⟩:=O.ro id D N;have hlen:(D.l.drop a).length=D.n-a:=by simp[Row.n]
   have key : ∃ ad cap, ρ.rv id = .slice ad D.n cap /\ D.n <= cap /\ (let v' : Value := .slice (if cap = a then ad else ad.map (·.add (a * ρ.wd id))) (D.n - a) (cap - a)
     v'.ownBlock=(ρ.rv id).ownBlock/\EX w D.ty D.w v' (D.n-a) (xs.drop (a*D.w))/\((v'= .slice none 0 0/\D.n-a=0)\/∃g o c,v'= .slice (some ⟨g,o,none⟩) (D.n-a) c)):=by
    have d1:(xs.drop (a*D.w)).length=(D.n-a)*D.w:=by rw[bq,q3.1,Nat.sub_mul]
    rcases q3.2 with⟨e1,e2⟩|⟨g,Y,cap,cur,e1,e3,e4,e5,e6,e7⟩
    ·refine⟨none,0,by rw[e1,e2],by omega,?_⟩;have ha:a=0:=by omega
     subst ha;rw[e1,e2];refine⟨rfl,⟨by simpa [e2]using d1, .inl ⟨rfl,rfl⟩⟩, .inl ⟨rfl,rfl⟩⟩
    ·refine⟨_,cap,e1,e4,?_⟩;rw[e1,q2];by_cases f9:cap=a
     ·have c9:D.n=a:=by omega
      simp only[f9,if_true];refine⟨rfl,⟨d1, .inr ⟨g,Y,a-a,cur,rfl,e3,by omega,by omega,by simp;omega,?_⟩⟩, .inr ⟨g,Y,_,rfl⟩⟩;rw[c9,Nat.sub_self,Nat.zero_mul,List.take_zero];symm;apply List.eq_nil_of_length_eq_zero;rw[d1,c9,Nat.sub_self,Nat.zero_mul]
     ·simp only[f9,if_false,Option.map_some,Addr.add_lit];refine⟨rfl,⟨d1, .inr ⟨g,Y+a*D.w,cap-a,cur,rfl,e3,by omega,by omega,?_,?_⟩⟩, .inr ⟨g,Y+a*D.w,_,rfl⟩⟩
      ·rw[Nat.sub_mul];have:a*D.w<=cap*D.w:=bf _ (by omega);omega
      ·rw[<-e7,List.drop_take,List.drop_drop,<-Nat.sub_mul]
   obtain⟨ad,cap,k1,k2,k3,k4,k5⟩:=key;have g0:=hp ad D.n cap k1 k2 hle;have d8:=O.kill id;have J:RowC ρ.im w D.ks (D.l.drop a) (xs.drop (a*D.w)):=by
    refine⟨by rw[bq,q3.1,bq,<-Nat.sub_mul],λc I=>X.2.1 c (de I),λi c hi=> ?_⟩;rw[List.getElem?_drop]at hi;have:=X.2.2 (a+i) c hi;have e:cut (xs.drop (a*D.w)) (i*D.ks.length) D.ks.length=cut xs ((a+i)*D.ks.length) D.ks.length:=by
     simp only[cut,List.drop_drop,Nat.add_mul]
    rw[e];exact this
   have a1:=d8.turnRow (id:=id) N (r':=⟨D.ty,D.ks,D.l.drop a⟩) (v':=_) (xs:=xs.drop (a*D.w)) (w':=w) ⟨rfl,rfl,rfl,co _,λ_ _ _=>rfl⟩ rfl (by simp only[Row.n,hlen];exact k4) J (.inl k3)
    (.inr ⟨λv V=>by
     simp only[ba]at V;obtain⟨u,_,rfl⟩:=V;exact TV.kill_free id u,λk b M a' a9=>by
     rw[GJ]at M;cases hl:Ac aA k with
     |none=>rw[hl]at M;simp at M
     |some b'=>
      rw[hl]at M;simp at M;subst M;simp only[Box.kill,ba]at a9;obtain⟨u,_,rfl⟩:=a9;exact AC.kill_free id u⟩)
   refine H9 g0 (E _ _ _ _ _ _ _ h a1 ?_ ?_)
   ·refine TVR.c' ⟨by simp only[BT],by simpa using q2,?_⟩;rw[hlen];exact k5
   ·intro c I;simp at I;subst I;exact⟨_,E8 _ _ _ _ N,by simp[Row.n],rfl⟩
  ·simp at h
 |append e ks bytes s x=>
  obtain⟨t,ty,i,z,sv,xv,U,S,T,h4,h5,h6,h7,h8,h9⟩:=hp;subst h5;simp only[Ba]at h;split at h
  ·rename_i m g1;obtain⟨ad,c,news,rfl,J,c7⟩:=Zdx O g1 h8;split at h
   ·
    split at h
    ·rename_i d hd;split at h
     ·simp at h
     ·rename_i hn;cases hb:(Nat.ble 1 ks.length&&Nat.ble 1 i.bytes)<;>rw[hb]at h
      ·simp at h
      ·simp only[ai]at h;simp only[ak]at hb;have j5:=az hb.1;have i6:=az hb.2;cases b3:Nat.ble (m.length*i.bytes) 140737488355328<;>rw[b3]at h
       ·simp at h
       ·simp only[ai,Bd]at h;have hbound:=az b3;have hm:m.length<=m.length*i.bytes:=Nat.le_mul_of_pos_right _ (by omega);simp only[CC,CP]at h7;subst h7;obtain⟨v',w',q1,q2,q3,X⟩:=Qx8 (P:=P) (ty:=ty) (c:=c) U S T h4 h6 (by omega) (Xq w e ks.length) J.1 c7 (J.one (by omega)) (by simp only[maxLen];omega) (by simpa using hbound);rw[q1]at h9;simp only[Nat.zero_add,ay]at q2;have b0:Below w.heap.size w w':=⟨q3.os,q3.tape,q3.output,q3.size,λk M=>q3.block k M (by simp[Value.ownBlock])⟩;have a8:=O.addRow (d:=d) hn (r:=⟨e,ks,m⟩) (v':=v') (xs:=news) (w':=w') b0 (by show 0<ks.length;omega) q2
         (J.mono (λ_ h => h) (λb G => b0.block b (O.ib b G).1)) (λg' b5 => by
          rcases X with X|X
          ·rw[X]at b5;simp[Value.ownBlock]at b5
          ·rw[X]at b5;simp at b5;omega)
        refine H9 h9 (E _ _ _ _ _ _ _ h a8 ?_ ?_)
        ·refine TVR.c' ⟨by simp only[BT],by simp only[BT],?_⟩;rcases q2.2 with⟨e1,e2⟩|⟨g',Y,cap,cur,e1,_⟩
         ·exact .inl ⟨e1,e2⟩
         ·exact .inr ⟨g',Y,cap,e1⟩
        ·intro c I;simp at I;subst I;exact⟨_,Fh _ _ _ hn,rfl,rfl⟩
    ·simp at h
   ·
    rename_i id w1 n1;split at h
    ·rename_i D N;cases hb:(Dq ks D.ks&&Nat.beq D.ty e&&Nat.ble 1 i.bytes)<;>rw[hb]at h
     ·simp at h
     ·simp only[ai]at h;simp only[ak]at hb;have e1:=J1 hb.1.1;have e2:=ac hb.1.2;have i6:=az hb.2;subst e1 e2;cases b3:Nat.ble ((D.l++m).length*i.bytes) 140737488355328<;>rw[b3]at h
      ·simp at h
      ·simp only[ai,Bd]at h;have hbound:=az b3;rw[ao]at hbound;have hm:D.l.length+m.length<=(D.l.length+m.length)*i.bytes:=Nat.le_mul_of_pos_right _ (by omega);obtain⟨q1,q2,_,xs,q3,X⟩:=O.ro id D N;obtain⟨c1,c2,c3⟩:=h7;subst c1;obtain⟨v',w',p1,p2,p3,p4⟩:=Qx8 (P:=P) (ty:=ty) (c:=c) U S T h4 h6 q1 q3 J.1 c7 (J.one q1) (by simp only[maxLen,Row.n];omega) hbound;rw[p1]at h9;have d8:=O.kill id;have g2:∀b,ρ.im b->w'.heap[b]? =w.heap[b]? :=λb G=>p3.block b (O.ib b G).1 (λe=>(O.ib b G).2.2 id D N e.symm);have g3:=(X.append J).mono (λ_ h=>h) g2;have a1:=d8.turnRow (id:=id) N (r':=⟨D.ty,D.ks,D.l++m⟩) (v':=v') (xs:=xs++news) (w':=w') p3 rfl (by simpa [Row.n]using p2) g3
        (QK p4 (λx=>x) (λx g' b5=>by rw[x]at b5;simp at b5;omega))
        (.inr ⟨λv V=>by
         simp only[ba]at V;obtain⟨u,_,rfl⟩:=V;exact TV.kill_free id u,λk b M a' a9=>by
         rw[GJ]at M;cases hl:Ac aA k with
         |none=>rw[hl]at M;simp at M
         |some b'=>
          rw[hl]at M;simp at M;subst M;simp only[Box.kill,ba]at a9;obtain⟨u,_,rfl⟩:=a9;exact AC.kill_free id u⟩)
       refine H9 h9 (E _ _ _ _ _ _ _ h a1 ?_ ?_)
       ·refine TVR.c' ⟨by simp only[BT],by simpa using q2,?_⟩;rcases p2.2 with⟨e1,e2⟩|⟨g',Y,cap,cur,e1,_⟩
        ·exact .inl ⟨e1,by simpa [Row.n]using e2⟩
        ·exact .inr ⟨g',Y,cap,by simpa [Row.n]using e1⟩
       ·intro c I;simp at I;subst I;exact⟨_,E8 _ _ _ _ N,by simp[Row.n],rfl⟩
    ·simp at h
   ·simp at h
  ·simp at h
 |call f args=>
  obtain⟨xs,U,S,T⟩:=hp;simp only[Ba]at h;split at h
  ·rename_i g hg;split at h
   ·rename_i as has;obtain⟨b4,d9⟩:=Qss has;have i7:=a4.1 f g hg;obtain⟨v,mem',V,i9⟩:=i7.run h;split at V
    ·cases b7:((!(args.any TV.hasOwn)||v.flat)&&v.plainB)<;>rw[b7]at V
     ·simp at V
     ·simp only[ai]at V;simp only[ak]at b7
      let c8:Nat->Prop:=λb=>ρ.im b\/(args.any TV.hasOwn=true/\∃id D,Ac aB id=some D/\(ρ.rv id).ownBlock=some b)
      have g4:∀b,c8 b->b<w.heap.size:=by
       rintro b (G|⟨_,id,D,N,G⟩)
       ·exact(O.ib b G).1
       ·exact(O.rwlt N G).2
      have c5:∀(i:Nat) (a0:TV),args[i]? =some a0->args.any TV.hasOwn=false->a0.hasOwn=false:=by
       intro i a0 b8 e8;cases hh:a0.hasOwn
       ·rfl
       ·exact absurd (List.any_eq_true.2 ⟨a0,bt b8,hh⟩) (by rw[e8];simp)
      have g5:∀(i:Nat) (a':TV) (x:Value),as[i]? =some a'->xs[i]? =some x->TVR {ρ with im:=c8} w a' x:=by
       intro i a' x a9 hx;obtain⟨_,a0,b8,N⟩:=d9 i a' a9;have d4:∀(a:AC) (y:Value),CP ρ.im w a y->CP c8 w a y:=λa y hh=>CP.mono (λ_ h=> .inl h) (λ_ _=>rfl) a y hh;cases b1:args.any TV.hasOwn
       ·have e8:=c5 i a0 b8 b1;have j0:a0=a':=Zz2 e8 N;subst j0;exact Q4v (d9 i a0 a9).1 (λa y _ hh=>d4 a y hh) (S i a0 x b8 hx)
       ·refine Zfi (aA:=aA) ?_ N (a2 a0 (bt b8)) (S i a0 x b8 hx);intro b b' y G hy j6;cases b<;>simp only[AC.res]at G<;>try (simp at G;done)
        case own id w1 n1=>
         split at G
         ·rename_i D d5;simp at G;subst G;obtain⟨q1,q2,_,ys,q3,X⟩:=O.ro id D d5;obtain⟨c1,c2,c3⟩:=hy;subst c1;exact YT q3 (X.mono (λ_ h=> .inl h) (λ_ _=>rfl)) (λg hg=> .inr ⟨b1,id,D,d5,hg⟩)
         ·simp at G
        all_goals
         simp at G;subst G;exact d4 _ _ hy
      have e9:RelE (FB (λb=>b<w.heap.size) w {ρ with im:=c8} []) as [] [] {ρ with im:=c8} xs.toArray w:=by
       refine⟨by simp[b4,U],λi a hi=> ?_,λa ha=> ?_,λk b M=>by simp[Ac]at M,λk b M=>by simp[Ac]at M,λk k' b b' M=>by simp[Ac]at M,λid r hr=>by simp[Ac]at hr,
        λid id' r r' g hr=>by simp[Ac]at hr,λk b id r M=>by simp[Ac]at M,λb hb=>⟨g4 b hb,λk bo M=>by simp[Ac]at M,λid r hr=>by simp[Ac]at hr⟩,Fr.refl _ _,λ_ h=>h,λ_ h=>h,λb h=> .inl h,λk b M=>by simp[FB,Ac]at M⟩
       ·have g6:i<xs.length:=by rw[U,<-b4];exact(List.getElem?_eq_some_iff.1 hi).1
        have e:xs.toArray.getD i undef=xs[i]:=by simp[Array.getD,g6]
        rw[e];exact g5 i a _ hi (ah g6)
       ·obtain⟨i,hi⟩:=List.getElem?_of_mem ha;exact KM (d9 i a hi).1
      refine Ub T ((i9 _ w _ xs e9).mono ?_);rintro e w' ⟨x,ρ',he,a6⟩;have b0:Below w.heap.size w w':=⟨a6.fr.os,a6.fr.tape,a6.fr.output,a6.fr.size,λk M=>a6.fr.block k M⟩;have g7:TVR ρ' w' v x:=by simpa using a6.tv 0 v rfl
      by_cases b1:args.any TV.hasOwn=true
      ·have f0:v.flat=true:=by have:=b7.1;rw[b1]at this;simpa using this
       have f1:RelE Z tm aA aB ρ tmps w':=O.growIm (im':=ρ.im) b0 (λ_ h=>h) (λ_ h=> .inl h);exact⟨x,he,E v _ _ _ ρ x w' V f1 (Zrj f0 g7) (KM b7.2)⟩
      ·have f1 : RelE Z tm aA aB { ρ with im := ρ'.im } tmps w' := O.growIm b0 (λb hb => a6.i0 b (.inl hb)) (λb hb => by
        rcases a6.i1 b hb with G|G
        ·rcases G with G|⟨G,_⟩
         ·exact .inl G
         ·exact absurd G b1
        ·exact .inr ⟨Nat.not_lt.1 G,(a6.ib b hb).1⟩)
       exact⟨x,he,E v _ _ _ _ x w' V f1 (Q4v (ρ:=ρ') (ρ2:={ρ with im:=ρ'.im}) b7.2 (λ_ _ _ h=>h) g7) (KM b7.2)⟩
    ·simp at V
   ·simp at h
  ·simp at h
 |callM f args=>
  obtain⟨xs,U,S,T⟩:=hp;exact Zod a4 O U S T a2 h E
 |callD f args=>
  obtain⟨xs,U,S,T⟩:=hp;exact Ziq a4 O U S T a2 h E
 |callF f args=>
  obtain⟨xs,U,S,T⟩:=hp;exact Z7l a4 O U S T a2 h E
 |appD e ks bytes s x=>simp[Prim.isApp]at c9
theorem Zns (G:Aj P C) (S:RelE Z tm aA aB ρ tmps w) {o:Oper} {a:Act} {p:Prim} (T:JH P ρ w a.eval o p) (L:Prim.wf aA aB p) {K:TV->St->Option R} {r:R}
  (h:Ba C o.dst p ⟨tm,aA,aB⟩ K=some r) {next:Act->World->Prop} {Q:Exit->Act->World->Prop}
  (I:∀(v:TV) (M:List TV) (D:List (Nat×Box)) (E:List (Nat×Row)) (O:Env) (x:Value) (w':World),K v ⟨M,D,E⟩=some r->RelE Z M D E O tmps w'->TVR O w' v x->TV.wf D E v->next (a.put o.dst x) w'):
  o.wp P a w next Q:=by
 cases N:Prim.isApp (some p)
 ·exact Qpa G S T L N h I
 ·cases p<;>simp[Prim.isApp]at N
  rename_i e ks bytes s x;by_cases J:s= .nilSl
  ·subst J;simp only[Ba]at h;split at h
   ·rename_i m hm;split at h
    ·rename_i d hd;have h':Ba C o.dst (.append e ks bytes .nilSl x) ⟨tm,aA,aB⟩ (λv s=>K v ⟨s.tmps.map (TV.kill d),s.aA.map λp=>(p.1,p.2.kill d),s.aB⟩)=some r:=by
      simp only[Ba,hm,hd];split at h
      ·simp at h
      ·rename_i hn;simp only[Bd]at h⊢;exact h
     refine Qpa G S (p:= .append e ks bytes .nilSl x) T L rfl h' ?_;intro v M D E O y w' hK U hv V;refine I _ _ _ _ O y w' hK (U.kill d) hv ?_;have X:∀k,Ac (D.map λp=>(p.1,p.2.kill d)) k=(Ac D k).map (Box.kill d):=λk=>GJ (Box.kill d) D k;exact TV.wf_mono (λa=>AC.wf_mono (λk b Y=>⟨b.kill d,by rw[X,Y];rfl⟩) (λk r Y=>⟨r,Y,rfl,rfl⟩)) V
    ·simp at h
   ·simp at h
  ·have h':Ba C o.dst (.append e ks bytes s x) ⟨tm,aA,aB⟩ K=some r:=by
    simp only[Ba]at h⊢;split at h
    ·split at h
     ·exact h
     ·exact absurd rfl J
     ·simp at h
    ·simp at h
   exact Qpa G S (p:= .append e ks bytes s x) T L rfl h' I
end
open Go.RowKit
section
variable {P:Program} {C:Cfg} {R:Type}
theorem Qcz (op:BinOp) (k:IntKind) (a b:Int) (K:AC->Option R):GW op k a b K=(GW op k a b some).bind K:=by
 cases op<;>simp only[GW,ag]
 all_goals first|(cases decide (b=0)<;>rfl)|(cases decide (b<0)<;>rfl)
theorem Ov {i:Int}:∀(n k:Nat) {R S:Type} (f:Nat->Option R) (K:R->Option S),G7 i n k (λj=>(f j).bind K)=(G7 i n k f).bind K
 |0,k,_,_,f,K=>rfl
 |n+1,k,_,_,f,K=>by
  simp only[G7];rw[Ov n (k+1) f K];cases decide (i=(k:Int))<;>rfl
theorem Zx (g:Int->Int->Int) (k:IntKind):∀(l:List TV) (a:Int) (K:Prim->Option R),GA g k a l K=(GA g k a l some).bind K
 |[],a,K=>by simp[GA]
 |t::l,a,K=>by
  unfold GA;split
  ·rename_i k' b;cases kEq k k'
   ·rfl
   ·exact Zx g k l (g a b) K
  ·rfl
theorem Ztq (b:Builtin) (D:List TypeId) (args:List TV) (K:Prim->Option R):Ne P b D args K=(Ne P b D args some).bind K:=by
 unfold Ne;split
 case h_6=>exact Zx _ _ _ _ _
 case h_7=>exact Zx _ _ _ _ _
 case h_8=>
  split
  ·split
   ·split
    ·split
     ·cases(Nat.beq _ _&&Nat.beq _ _&&Nat.beq _ _)<;>rfl
     ·rfl
    ·rfl
   ·rfl
  ·rfl
 all_goals
  repeat' split
  all_goals rfl
theorem IC (c:Bool) (p:Prim) (K:Prim->Option R):cond c (K p) none=(cond c (some p) none).bind K:=by cases c<;>rfl
theorem Qz (D:Operand->TV) (dst:Option Tmp) (o:Op) (K:Prim->Option R):opK P C D dst o K=(opK P C D dst o some).bind K:=by
 cases o
 case pick c a b=>
  simp only[opK];split
  ·rename_i g _;cases g<;>rfl
  ·rfl
 case build t parts=>
  simp only[opK];split
  ·cases(Ak _ _)
   ·rfl
   ·simp only[ai];split<;>rfl
  ·split
   ·split<;>rfl
   ·rfl
  ·rfl
 case buildSlice t n parts=>
  simp only[opK];split
  ·split
   ·cases(Nat.beq _ _&&Nat.beq _ _&&Nat.ble 1 _&&Nat.ble _ 65536)
    ·rfl
    ·simp only[ai];split
     ·split
      ·cases SH C dst _<;>rfl
      ·cases(Ak AC.isClo _&&Nat.beq _ 1)<;>rfl
     ·rfl
   ·rfl
  ·rfl
 case makeSlice t len cap=>
  simp only[opK];split
  ·split
   ·split
    ·cases(Nat.beq _ _&&Nat.ble 1 _&&Nat.ble 1 _)
     ·rfl
     ·simp only[ai];exact IC _ _ _
    ·rfl
   ·rfl
  ·rfl
 case makeFunc G a b=>
  simp only[opK];split
  ·split<;>rfl
  ·rfl
 case store t a x=>
  simp only[opK];split
  ·cases(Nat.beq _ _)
   ·rfl
   ·simp only[ai];split<;>rfl
  ·rfl
 case binOp op t x y I=>
  simp only[opK];split
  ·cases(kEq _ _||NB op)
   ·rfl
   ·simp only[ai];rename_i k a k' b _ _;have E:=Qcz op k a b (λv=>(some (Prim.val (TV.c v)):Option Prim));rw[Qcz,E];cases GW op k a b some<;>rfl
  ·split<;>rfl
  ·split<;>rfl
  ·cases(P.eqGuardType P.depth t)
   ·simp only[an];split<;>rfl
   ·rfl
  ·rfl
 case indexAddr t x ix=>
  simp only[opK];split
  ·split
   ·exact Ov _ _ (λj=>some _) K
   ·exact Ov _ _ (λj=>some _) K
   ·exact Ov _ _ (λj=>some _) K
   ·rfl
  ·split
   ·cases(Nat.beq _ _)
    ·rfl
    ·simp only[ai];exact IC _ _ _
   ·cases(Nat.beq _ _)
    ·rfl
    ·simp only[ai];exact IC _ _ _
   ·cases(Nat.beq _ _)
    ·rfl
    ·simp only[ai];exact Ov _ _ (λj=>some _) K
   ·rfl
  ·rfl
 case index t x ix=>
  simp only[opK];split
  ·split
   ·rename_i m _;rw[<-Ov];congr 1
    funext j
    split<;>rfl
   ·rfl
  ·rfl
 case slice t x J L mx=>
  simp only[opK];split
  ·split
   ·cases(Nat.beq _ _)
    ·rfl
    ·simp only[ai];split
     ·rfl
     ·exact IC _ _ _
     ·exact IC _ _ _
     ·exact IC _ _ _
   ·split
    ·cases(Nat.beq _ _)
     ·rfl
     ·simp only[ai];exact IC _ _ _
    ·rfl
   ·split
    ·rfl
    ·exact IC _ _ _
    ·exact IC _ _ _
    ·exact IC _ _ _
   ·rfl
  ·rfl
 case call c=>
  simp only[opK];split
  ·exact Ztq _ _ _ _
  ·cases C.pure _<;>rfl
  ·split
   ·cases(Ak _ _&&Ak _ _)<;>rfl
   ·rfl
  ·rfl
 all_goals
  simp only[opK]
  repeat' split
  all_goals rfl
end
open Go.RowKit
section
variable {P:Program} {C:Cfg} {R:Type} {aA:List (Nat×Box)} {aB:List (Nat×Row)}
theorem Lm {α:Type} {c:Bool} {p q:α} (h:cond c (some p) none=some q):c=true/\p=q:=by cases c<;>simp at h;exact⟨rfl,h⟩
theorem Sh (k:IntKind) (n:Int):TV.wf aA aB (.c (.int k n)):=by intro a D;simp at D;subst D;trivial
theorem Ji (b:Bool):TV.wf aA aB (.c (.bool b)):=by intro a D;simp at D;subst D;trivial
theorem CY {a:AC} (h:AC.wf aA aB a):TV.wf aA aB (.c a):=by intro b hb;simp at hb;subst hb;exact h
theorem Fx {a:AC} (h:TV.wf aA aB (.c a)):AC.wf aA aB a:=h a (by simp)
theorem Qwt (v:Value):AC.wf aA aB (Nz v):=by
 unfold Nz;split<;>trivial
theorem Qid:∀(l:List Value) (cs:List AC),I_ l=some cs->∀a∈cs,AC.wf aA aB a
 |[],cs,h=>by simp[I_]at h;subst h;intro a D;simp at D
 |v::l,cs,h=>by
  simp only[I_]at h;cases G:v.oneCell'<;>rw[G]at h
  ·simp at h
  ·simp only[ai]at h;split at h
   ·rename_i E I;simp at h;subst h;intro a D;simp only[av]at D;rcases D with rfl|D
    ·exact Qwt v
    ·exact Qid l E I a D
   ·simp at h
theorem Zfx (v:Value):TV.wf aA aB (ofValue v):=by
 unfold ofValue;split
 ·split
  ·rename_i h;exact Qid _ _ h
  ·trivial
 ·trivial
 ·exact CY (Qwt v)
theorem Z9 {tm:List TV} (h:∀v∈tm,TV.wf aA aB v) (x:Operand):TV.wf aA aB (A3 tm x):=by
 cases x with
 |tmp t=>
  simp only[A3,BW,List.getD];cases D:tm[t]? with
  |none=>trivial
  |some v=>exact h v (bt D)
 |const v=>exact Zfx v
 |global=>trivial
 |func=>trivial
theorem T_ {t:TypeId} {cs:List AC} (h:JE P t=some cs):∀a∈cs,AC.wf aA aB a:=by
 unfold JE at h;split at h
 ·split at h
  ·exact Qid _ _ h
  ·simp at h
 ·simp at h
theorem Zb1 {z:List AC} (D:∀a∈z,AC.wf aA aB a):∀n,∀a∈Nh z n,AC.wf aA aB a
 |0,a,h=>by simp[Nh]at h
 |n+1,a,h=>by
  simp only[Nh,bn]at h;rcases h with h|h
  ·exact D a h
  ·exact Zb1 D n a h
theorem TV.cells_wf {v:TV} {cs:List AC} (h:v.cells=some cs) (D:TV.wf aA aB v):∀a∈cs,AC.wf aA aB a:=by
 cases v<;>simp[TV.cells]at h
 subst h;exact D
theorem UL {α:Type} {x:α}:∀(l:List α) (o:Nat) (D:List α),x∈splice l o D->x∈l\/x∈D
 |l,o,[],h=>by rw[Rt]at h;exact .inl h
 |[],o,_::_,h=>by simp[splice]at h
 |y::l,0,v::D,h=>by
  simp only[splice,av]at h;rcases h with rfl|h
  ·exact .inr (by simp)
  ·rcases UL l 0 D h with h|h
   ·exact .inl (by simp[h])
   ·exact .inr (by simp[h])
 |y::l,o+1,v::D,h=>by
  simp only[splice,av]at h;rcases h with rfl|h
  ·exact .inl (by simp)
  ·rcases UL l o (v::D) h with h|h
   ·exact .inl (by simp[h])
   ·exact .inr h
theorem U6 {place:Nat->Option (Nat×Nat)}:∀(parts:List (Nat×TV)) (z cs:List AC),I6 place z parts=some cs->(∀a∈z,AC.wf aA aB a)->(∀p∈parts,TV.wf aA aB p.2)->∀a∈cs,AC.wf aA aB a
 |[],z,cs,h,E,_=>by simp[I6]at h;subst h;exact E
 |(i,v)::parts,z,cs,h,E,I=>by
  simp only[I6]at h;split at h
  ·rename_i off size l J L;cases hb:(Nat.beq l.length size&&Nat.ble (off+size) z.length)<;>rw[hb]at h
   ·simp at h
   ·refine U6 parts _ _ h (λa D=> ?_) (λp G=>I p (by simp[G]));rcases UL _ _ _ D with D|D
    ·exact E a D
    ·exact TV.cells_wf L (I (i,v) (by simp)) a D
  ·simp at h
theorem R7 {E:Operand->TV} (D:∀x,TV.wf aA aB (E x)):∀(l:List (Nat×Operand)),∀p∈Gs E l,TV.wf aA aB p.2
 |[],p,h=>by simp[Gs]at h
 |x::l,p,h=>by
  simp only[Gs,av]at h;rcases h with rfl|h
  ·exact D _
  ·exact R7 D l p h
theorem O_ {E:Operand->TV} (D:∀x,TV.wf aA aB (E x)):∀(l:List Operand),∀v∈C0 E l,TV.wf aA aB v
 |[],p,h=>by simp[C0]at h
 |x::l,p,h=>by
  simp only[C0,av]at h;rcases h with rfl|h
  ·exact D _
  ·exact O_ D l p h
theorem Rf {g:Bool} {sz off:Nat} {cells:List AC} {v:TV} (h:DN g sz cells off=some v) (I:∀a∈cells,AC.wf aA aB a):TV.wf aA aB v:=by
 unfold DN at h;cases g
 ·simp only[an]at h;split at h
  ·rename_i c D;simp at h;subst h;exact CY (I _ (bt D))
  ·simp at h
 ·simp only[ai]at h;cases E:Nat.ble (off+sz) cells.length<;>rw[E]at h
  ·simp at h
  ·simp at h;subst h;intro c G;exact I c (de (df G))
theorem Qwj {t:TypeId} {cs:List AC} {off:Nat} {v:TV} (h:NO P t cs off=some v) (D:∀a∈cs,AC.wf aA aB a):TV.wf aA aB v:=by
 unfold NO at h;split at h
 ·exact Rf h D
 ·simp at h
theorem Znp {op:BinOp} {k:IntKind} {a b:Int} {c:AC} (h:GW op k a b some=some c):AC.wf aA aB c:=by
 cases op<;>simp only[GW]at h
 case quo=>cases hb:decide (b=0)<;>rw[hb]at h<;>simp at h;subst h;trivial
 case rem=>cases hb:decide (b=0)<;>rw[hb]at h<;>simp at h;subst h;trivial
 case shl=>cases hb:decide (b<0)<;>rw[hb]at h<;>simp at h;subst h;trivial
 case shr=>cases hb:decide (b<0)<;>rw[hb]at h<;>simp at h;subst h;trivial
 all_goals (simp at h;subst h;trivial)
theorem Qeh (g:Int->Int->Int) (k:IntKind):∀(l:List TV) (a:Int) (p:Prim),GA g k a l some=some p->Prim.wf aA aB p
 |[],a,p,h=>by simp[GA]at h;subst h;exact Sh _ _
 |t::l,a,p,h=>by
  unfold GA at h;split at h
  ·rename_i k' b;cases D:kEq k k'<;>rw[D]at h
   ·simp at h
   ·exact Qeh g k l _ p h
  ·simp at h
theorem Zid (k:Kd) (a:AC):(Mm k a).calm=true:=by
 cases k<;>try rfl
 cases a<;>rfl
theorem Zay:∀(ks:List Kd) (cs:List AC) (j:Nat),Ak AC.calm (E4 ks cs j)=true
 |[],_,_=>rfl
 |k::ks,cs,j=>by simp only[E4,Ak,Zid,ai];exact Zay ks cs (j+1)
theorem Qye {cs:List AC} (h:Ak AC.calm cs=true):∀a∈cs,AC.wf aA aB a:=by
 intro a D;have:=Ax.1 h a D;cases a<;>first|trivial|(simp[AC.calm]at this)
theorem Qhc:∀{l:List TV} {as:List AC},JP l=some as->(∀v∈l,TV.wf aA aB v)->∀a∈as,AC.wfP aA a
 |[],as,h,_=>by simp[JP]at h;subst h;intro a E;simp at E
 |v::l,as,h,D=>by
  unfold JP at h;split at h
  ·simp at*
  ·rename_i a L heq;simp only[List.cons.injEq]at heq;obtain⟨rfl,rfl⟩:=heq;cases G:a.clOk<;>rw[G]at h
   ·simp at h
   ·simp only[ai]at h;split at h
    ·rename_i r I;simp at h;subst h;intro b hb;simp only[av]at hb;rcases hb with rfl|hb
     ·have:=D (.c b) (by simp) b (by simp);cases b<;>first|exact this|trivial
     ·exact Qhc I (λv J=>D v (by simp[J])) b hb
    ·simp at h
  ·simp at h
theorem Qbn {Y:Operand->TV} (E:∀x,TV.wf aA aB (Y x)) {dst:Option Tmp} {o:Op} {p:Prim} (h:opK P C Y dst o some=some p):Prim.wf aA aB p:=by
 cases o<;>simp only[opK]at h<;>try (simp at h;done)
 case move x=>simp at h;subst h;exact E x
 case assign x=>simp at h;subst h;exact E x
 case pick c a b=>
  split at h
  ·rename_i g _;cases g<;>simp at h<;>subst h
   ·exact E b
   ·exact E a
  ·simp at h
 case alloc t=>
  split at h
  ·rename_i cs O;simp at h;subst h;exact T_ O
  ·simp at h
 case box t x=>
  split at h
  ·rename_i cs hc;simp at h;subst h;exact TV.cells_wf hc (E x)
  ·simp at h
 case build t parts=>
  split at h
  ·rename_i z fs O hu;cases T:(Ak (L0 P) fs.toList)<;>rw[T]at h
   ·simp at h
   ·simp only[ai]at h;split at h
    ·rename_i cs hb;simp at h;subst h;exact U6 _ _ _ hb (T_ O) (R7 E _)
    ·simp at h
  ·rename_i z n el O hu;split at h
   ·split at h
    ·rename_i cs hb;simp at h;subst h;exact U6 _ _ _ hb (T_ O) (R7 E _)
    ·simp at h
   ·simp at h
  ·simp at h
 case buildSlice t n parts=>
  split at h
  ·split at h
   ·cases hb:(Nat.beq _ _&&Nat.beq _ _&&Nat.ble 1 _&&Nat.ble _ 65536)<;>rw[hb]at h
    ·simp at h
    ·simp only[ai]at h;split at h
     ·rename_i O _ _ cs a0;split at h
      ·cases a1:SH C dst n<;>rw[a1]at h<;>simp at h<;>subst h<;>trivial
      ·cases S:(Ak AC.isClo cs&&Nat.beq _ 1)<;>rw[S]at h
       ·simp at h
       ·simp only[ai]at h;simp at h;subst h;refine U6 _ _ _ a0 (λa M=> ?_) (R7 E _);exact Zb1 (T_ O) _ a M
     ·simp at h
   ·simp at h
  ·simp at h
 case makeSlice t len cap=>
  split at h
  ·split at h
   ·split at h
    ·cases hb:(Nat.beq _ _&&Nat.ble 1 _&&Nat.ble 1 _)<;>rw[hb]at h
     ·simp at h
     ·simp only[ai]at h;obtain⟨_,rfl⟩:=Lm h;trivial
    ·simp at h
   ·simp at h
  ·simp at h
 case makeFunc fn a b=>
  split at h
  ·split at h
   ·rename_i fs cs a2 a3;simp at h;subst h;exact CY ⟨Qhc a2 (O_ E _),Qhc a3 (O_ E _)⟩
   ·simp at h
  ·simp at h
 case load t a=>
  split at h
  ·have M:=E a;split at h
   ·rename_i key off D;simp at h;subst h;rw[D]at M;exact Fx M
   ·rename_i cells sub D;split at h
    ·rename_i v L;simp at h;subst h;rw[D]at M;exact Rf L (Qye (Fx M))
    ·simp at h
   ·rename_i id idx sub D;simp at h;subst h;rw[D]at M;exact Fx M
   ·simp at h
  ·simp at h
 case store t a x=>
  split at h
  ·rename_i sz cs hs hc;cases hb:(Nat.beq cs.length sz)<;>rw[hb]at h
   ·simp at h
   ·simp only[ai]at h;have M:=E a;split at h
    ·rename_i key off D;simp at h;subst h;rw[D]at M;exact⟨Fx M,TV.cells_wf hc (E x)⟩
    ·rename_i id idx sub D;simp at h;subst h;rw[D]at M;exact Fx M
    ·simp at h
  ·simp at h
 case nilCheck x=>
  have G:=E x;split at h
  all_goals first|(simp at h;done)|(rename_i D;simp at h;subst h;rw[D]at G;exact G)
 case binOp op t x y yt=>
  split at h
  ·cases hk:(kEq _ _||NB op)<;>rw[hk]at h
   ·simp at h
   ·simp only[ai]at h;rename_i k a k' b _ _;rw[Qcz]at h;cases U:GW op k a b some with
    |none=>rw[U]at h;simp at h
    |some c=>rw[U]at h;simp at h;subst h;exact CY (Znp U)
  ·split at h
   ·simp at h;subst h;exact Ji _
   ·simp at h;subst h;exact Ji _
   ·simp at h
  ·split at h
   ·simp at h;subst h;exact Ji _
   ·simp at h;subst h;exact Ji _
   ·simp at h
  ·cases hg:P.eqGuardType P.depth t<;>rw[hg]at h
   ·simp only[an]at h;split at h
    ·simp at h;subst h;exact Ji _
    ·simp at h;subst h;exact Ji _
    ·simp at h
   ·simp at h
  ·simp at h
 case unOp a4 t x=>
  split at h
  ·simp at h;subst h;exact Sh _ _
  ·simp at h;subst h;exact Ji _
  ·simp at h
 case convert src dst x=>
  split at h
  ·simp at h;subst h;exact Sh _ _
  ·simp at h
 case fieldAddr t x i=>
  split at h
  ·split at h
   ·have G:=E x;split at h
    ·rename_i D;simp at h;subst h;rw[D]at G;have q:=Fx G;exact CY q
    ·rename_i D;simp at h;subst h;rw[D]at G;have q:=Fx G;exact CY q
    ·rename_i D;simp at h;subst h;rw[D]at G;have q:=Fx G;exact CY q
    ·simp at h
   ·simp at h
  ·simp at h
 case field t x i=>
  split at h
  ·rename_i f cs hf D;split at h
   ·rename_i v V;simp at h;subst h;have G:=E x;rw[D]at G;exact Qwj V G
   ·simp at h
  ·simp at h
 case indexAddr t x ix=>
  split at h
  ·have G:=E x;split at h
   ·rename_i D;obtain⟨j,I,_⟩:=H_ h;simp at I;subst I;rw[D]at G;have q:=Fx G;exact CY q
   ·rename_i D;obtain⟨j,I,_⟩:=H_ h;simp at I;subst I;rw[D]at G;have q:=Fx G;exact CY q
   ·rename_i D;obtain⟨j,I,_⟩:=H_ h;simp at I;subst I;rw[D]at G;have q:=Fx G;exact CY q
   ·simp at h
  ·have G:=E x;split at h
   ·rename_i m ks l hm D;cases hb:Nat.beq m ks.length<;>rw[hb]at h
    ·simp at h
    ·simp only[ai]at h;obtain⟨_,rfl⟩:=Lm h;exact CY (Zay _ _ _)
   ·rename_i m id wd n hm D;cases hb:Nat.beq m wd<;>rw[hb]at h
    ·simp at h
    ·simp only[ai]at h;obtain⟨hd,rfl⟩:=Lm h;rw[D]at G;obtain⟨r,I,h2,h3⟩:=Fx G;simp at hd;exact CY ⟨r,I,by omega⟩
   ·rename_i m key n hm D;cases hb:Nat.beq m 1<;>rw[hb]at h
    ·simp at h
    ·simp only[ai]at h;obtain⟨j,I,_⟩:=H_ h;simp at I;subst I;rw[D]at G;have q:=Fx G;exact CY q
   ·simp at h
  ·simp at h
 case index t x ix=>
  split at h
  ·rename_i i n el cs U hu D;split at h
   ·obtain⟨j,I,_⟩:=H_ h;have G:=E x;rw[D]at G;split at I
    ·rename_i v V;simp at I;subst I;exact Qwj V G
    ·simp at I
   ·simp at h
  ·simp at h
 case slice t x lo U mx=>
  split at h
  ·split at h
   ·rename_i m ks l hm D;cases hb:Nat.beq m ks.length<;>rw[hb]at h
    ·simp at h
    ·simp only[ai]at h;split at h
     ·simp at h;subst h;exact CY trivial
     all_goals
      obtain⟨_,rfl⟩:=Lm h;exact CY trivial
   ·split at h
    ·cases hb:Nat.beq _ _<;>rw[hb]at h
     ·simp at h
     ·simp only[ai]at h;obtain⟨_,rfl⟩:=Lm h;trivial
    ·simp at h
   ·split at h
    ·simp at h;subst h;exact CY trivial
    all_goals
     obtain⟨_,rfl⟩:=Lm h;exact CY trivial
   ·simp at h
  ·simp at h
 case extract t i=>
  have ht:=E t;split at h
  ·rename_i ps D;split at h
   ·rename_i g cs hg;simp at h;subst h;rw[D]at ht;exact ht (g,cs) (bt hg)
   ·simp at h
  ·simp at h
 case call c=>
  split at h
  ·rename_i b hb;have J:=O_ E c.args.toList
   revert J h
   generalize C0 Y c.args.toList=args;intro h J;unfold Ne at h;split at h
   case h_6=>exact Qeh _ _ _ _ _ h
   case h_7=>exact Qeh _ _ _ _ _ h
   case h_8=>
    rename_i s x
    repeat' split at h
    all_goals try (simp at h;done)
    obtain⟨_,rfl⟩:=Lm h;exact⟨Fx (J _ (by simp)),Fx (J _ (by simp))⟩
   all_goals
    repeat' split at h
    all_goals first|(simp at h;done)|(simp at h;subst h;exact Sh _ _)
  ·rename_i f hf;cases V:C.pure f<;>rw[V]at h<;>simp at h<;>subst h<;>exact O_ E _
  ·rename_i t ht;split at h
   ·rename_i f fs cs S;cases N:(Ak AC.clOk fs&&Ak AC.clOk cs)<;>rw[N]at h
    ·simp at h
    simp only[ai,ap]at h;subst h;simp only[ak]at N;have L:=E (.tmp t);rw[S]at L;have hq:=Fx L;have X:∀l:List AC,(∀a∈l,AC.wfP aA a)->Ak AC.clOk l=true->∀v∈l.map TV.c,TV.wf aA aB v:=by
     intro l I h2 v L;simp only[ba]at L;obtain⟨a,M,rfl⟩:=L;have q1:=I a M;have q2:=Ax.1 h2 a M;cases a<;>first|exact CY q1|(simp[AC.clOk]at q2;done)|exact CY trivial
    intro v L;rcases bn.1 L with L|L
    ·exact X fs hq.1 N.1 v L
    ·rcases bn.1 L with L|L
     ·exact O_ E _ v L
     ·exact X cs hq.2 N.2 v L
   ·simp at h
  ·simp at h
end
open Go.RowKit
def Rel (Z:Base) (s:St) (tmps:Array Value) (w:World):Prop:=∃ρ,RelE Z s.tmps s.aA s.aB ρ tmps w
section
variable {P:Program} {C:Cfg} {w:World} {R:Type} {Z:Base}
theorem RelE.put {ρ:Env} {tm:List TV} {aA:List (Nat×Box)} {aB:List (Nat×Row)} {tmps:Array Value} (h:RelE Z tm aA aB ρ tmps w) (d:Nat) {v:TV} {x:Value} (J:TVR ρ w v x) (L:TV.wf aA aB v):
  RelE Z (setL tm d v) aA aB ρ (tmps.setIfInBounds d x) w:=by
 rw[I2];refine⟨by simp[h.tl],λi u D=> ?_,λu G=> ?_,h.wb,h.bx,h.bi,h.ro,h.ri,h.br,h.ib,h.fr,h.fs,h.i0,h.i1,h.k0⟩
 ·rw[List.getElem?_set]at D;by_cases E:d=i
  ·subst E;simp only[if_true]at D;split at D
   ·rename_i I;simp at D;subst D;have:d<tmps.size:=by rw[<-h.tl];exact I
    simpa [Array.getD,this]using J
   ·simp at D
  ·rw[ab E]at D;have:=h.tv i u D;have e:(tmps.setIfInBounds d x).getD i undef=tmps.getD i undef:=by
    simp[Array.getD_eq_getD_getElem?,Array.getElem?_setIfInBounds_ne E]
   rw[e];exact this
 ·rcases List.mem_or_eq_of_mem_set G with G|rfl
  ·exact h.wt u G
  ·exact L
theorem RelE.learn {ρ:Env} {tm:List TV} {aA:List (Nat×Box)} {aB:List (Nat×Row)} {tmps:Array Value} (h:RelE Z tm aA aB ρ tmps w) (d:Nat) {v:TV} (I:TVR ρ w v (tmps.getD d undef)) (J:TV.wf aA aB v):
  RelE Z (setL tm d v) aA aB ρ tmps w:=by
 rw[I2];refine⟨by simp[h.tl],λi u D=> ?_,λu G=> ?_,h.wb,h.bx,h.bi,h.ro,h.ri,h.br,h.ib,h.fr,h.fs,h.i0,h.i1,h.k0⟩
 ·rw[List.getElem?_set]at D;by_cases E:d=i
  ·subst E;simp only[if_true]at D;split at D
   ·simp at D;subst D;exact I
   ·simp at D
  ·rw[ab E]at D;exact h.tv i u D
 ·rcases List.mem_or_eq_of_mem_set G with G|rfl
  ·exact h.wt u G
  ·exact J
theorem Fqs (s:St) (d:Option Tmp) (v:TV) (K:St->Option R):put s d v K=K (match d with|none=>s|some t=>⟨setL s.tmps t v,s.aA,s.aB⟩):=by
 obtain⟨tm,aA,aB⟩:=s;cases d with
 |none=>rfl
 |some t=>simp only[put,Bd]
theorem Q4w {ρ:Env} {tm:List TV} {aA:List (Nat×Box)} {aB:List (Nat×Row)} {a:Act} (h:RelE Z tm aA aB ρ a.tmps w) (x:Operand):TVR ρ w (A3 tm x) (a.eval x):=by
 cases x with
 |tmp t=>
  simp only[A3,BW,List.getD,Act.eval];cases D:tm[t]? with
  |none=>trivial
  |some v=>exact h.tv t v D
 |const v=>exact Z4i v
 |global=>trivial
 |func=>trivial
theorem Un:∀(l:List Nat) (s:St) (tmps:Array Value),Rel Z s tmps w->∀(K:St->Option R) (r:R),I3 l s K=some r->∃G,K G=some r/\Rel Z G tmps w
 |[],s,tmps,D,K,r,h=>⟨s,h,D⟩
 |id::l,s,tmps,D,K,r,h=>by
  obtain⟨tm,aA,aB⟩:=s;simp only[I3]at h;split at h
  ·rename_i I E;simp only[Bd]at h;obtain⟨ρ,D⟩:=D;exact Un l _ tmps ⟨_,D.freeze E⟩ K r h
  ·exact Un l _ tmps D K r h
theorem Z7m {k o:Nat} {e:TypeId} {s:St} {tmps:Array Value} (D:Rel Z s tmps w) {K:St->Option R} {r:R} (h:Mu P k o e s K=some r):∃G,K G=some r/\Rel Z G tmps w:=by
 obtain⟨tm,aA,aB⟩:=s;obtain⟨ρ,D⟩:=D;simp only[Mu]at h;split at h
 ·rename_i b I;split at h
  ·rename_i J;split at h
   ·rename_i ks L;cases E:(Nat.ble 1 ks.length&&Ie aB (1000000+1000*k+o))<;>rw[E]at h
    ·simp at h
    ·simp only[ai,Bd]at h;simp only[ak]at E;exact⟨_,h,_,D.promB I J (Qjj E.2) (az E.1)⟩
   ·simp at h
  ·exact⟨_,h,ρ,D⟩
 ·exact⟨_,h,ρ,D⟩
theorem Quz:∀(l:List (Nat×Nat×TypeId)) (s:St) (tmps:Array Value),Rel Z s tmps w->∀(K:St->Option R) (r:R),Jp P l s K=some r->∃D,K D=some r/\Rel Z D tmps w
 |[],s,tmps,E,K,r,h=>⟨s,h,E⟩
 |(k,o,e)::l,s,tmps,E,K,r,h=>by
  simp only[Jp]at h;obtain⟨D,h',G⟩:=Z7m E h;exact Quz l D tmps G K r h'
theorem SA:∀(l:List (Nat×TypeId)) (s:St) (tmps:Array Value),Rel Z s tmps w->∀(K:St->Option R) (r:R),Jl P l s K=some r->∃O,K O=some r/\Rel Z O tmps w
 |[],s,tmps,E,K,r,h=>⟨s,h,E⟩
 |(t,e)::l,s,tmps,E,K,r,h=>by
  obtain⟨tm,aA,aB⟩:=s;simp only[Jl]at h;split at h
  ·rename_i I;split at h
   ·rename_i ks D T;cases S:Nat.ble 1 ks.length<;>rw[S]at h
    ·simp at h
    ·simp only[ai,Bd]at h;refine SA l _ tmps ?_ K r h;obtain⟨ρ,E⟩:=E;have J:=E.addRow (d:=t) D (r:=⟨e,ks,[]⟩) (v':= .slice none 0 0) (xs:=[]) (w':=w) (Below.refl _ _) (az S) (Xq w e ks.length) ⟨by simp,by simp,λi c U=>by simp at U⟩ (λg V=>by simp[Value.ownBlock]at V);refine⟨_,J.learn t ?_ (CY ⟨_,Fh _ _ _ D,rfl,rfl⟩)⟩;have X:tmps.getD t undef= .slice none 0 0:=by
      have L:t<tm.length:=by
       rcases Nat.lt_or_ge t tm.length with M|N
       ·exact M
       ·rw[BW,List.getD,db N]at I;simp at I
      have G:tm[t]? =some (.c .nilSl):=by
       rw[BW,List.getD]at I;rw[ah L]at I⊢;simpa using I
      have:=(E.tv t _ G).c;simpa [CC,CP]using this
     rw[X];exact TVR.c' ⟨by simp only[BT],by simp only[BT], .inl ⟨rfl,rfl⟩⟩
   ·simp at h
  ·exact SA l _ tmps E K r h
theorem Ru {s:St} {tmps:Array Value} (I:Rel Z s tmps w) {K:St->Option R} {r:R} (h:Ij P C s K=some r):∃E,K E=some r/\Rel Z E tmps w:=by
 unfold Ij at h;obtain⟨E,h',ρ,D⟩:=Quz _ s tmps I _ r h;obtain⟨tm,aA,aB⟩:=E;simp only[Bd]at h';refine SA _ _ tmps ?_ K r h';refine⟨ρ,?_⟩;refine D.reBox (g:=λ_ b=>SY P b) (λ_ b=> ?_) λk b G=> ?_
 ·unfold SY;split<;>rfl
 ·unfold SY;split
  ·rename_i ks _;exact⟨λxs h=>Le ks b.cells xs h,NI ks b.cells (D.wb k b G)⟩
  ·exact⟨λxs h=>h,D.wb k b G⟩
theorem Z3k {o:Op} {s:St} {tmps:Array Value} (I:Rel Z s tmps w) {K:St->Option R} {r:R} (h:IR P C o s K=some r):∃G,K G=some r/\Rel Z G tmps w:=by
 unfold IR at h;obtain⟨s1,E,D⟩:=Un _ s tmps I _ r h;cases J:WC C o<;>rw[J]at E
 ·exact⟨s1,E,D⟩
 ·exact Ru D E
theorem Z52 {pre:Bool} {ρ:Env} {e:Operand->Value} {o:Oper} {p:Prim} (h:JH P ρ w e o p):JH P ρ w e o (p.dr pre):=by
 cases pre<;>cases p<;>first|exact h|(simp only[Prim.dr];cases Ak TV.plainB _<;>exact h)
theorem Zc {pre:Bool} {bx:List (Nat×Box)} {aB:List (Nat×Row)} {p:Prim} (h:Prim.wf bx aB p):Prim.wf bx aB (p.dr pre):=by
 cases pre<;>cases p<;>first|exact h|(simp only[Prim.dr];cases Ak TV.plainB _<;>exact h)
theorem Qyy (D:Aj P C) (S:∀t∈C.eqOk,P.stoodInHeld t=false) {s:St} {o:Oper} {a:Act} (G:Rel Z s a.tmps w) {K:Option Prim->St->Option R} {r:R}
  {pre:Bool} (h:(opK P C (A3 s.tmps) o.dst o.op λp=>Ba C o.dst (p.dr pre) s λv M=>put M o.dst v (K (some (p.dr pre))))=some r) {next:Act->World->Prop} {Q:Exit->Act->World->Prop}
  (E:∀(po:Option Prim) (M:St) (T:Act) (w':World),K po M=some r->Rel Z M T.tmps w'->T.defers=a.defers->next T w'):o.wp P a w next Q:=by
 obtain⟨ρ,G⟩:=G;obtain⟨tm,aA,aB⟩:=s;have U:=λx=>Q4w G x;rw[Qz]at h;cases N:opK P C (A3 tm) o.dst o.op some with
 |none=>rw[N]at h;simp at h
 |some p=>
  rw[N]at h;simp only[ag]at h;obtain⟨p',I,J⟩:=Zez S U (λf=>rfl) o N;simp at I;subst I;have V:=Qbn (aA:=aA) (aB:=aB) (λx=>Z9 G.wt x) N;refine Zns D G (Z52 J) (Zc V) h ?_;intro v a0 O X ρ' x w' hK L hv Y;rw[Fqs]at hK;refine E (some (p'.dr pre)) _ _ w' hK ?_ ?_
  ·cases hd:o.dst with
   |none=>exact⟨ρ',L⟩
   |some d=>exact⟨ρ',L.put d hv Y⟩
  ·cases o.dst<;>rfl
theorem Qfv (D:Aj P C) (G:∀t∈C.eqOk,P.stoodInHeld t=false) {pre:Bool} {s:St} {o:Oper} {a:Act} (M:Rel Z s a.tmps w) {K:Option Prim->St->Option R} {r:R}
  (h:((bif pre then IR P C o.op s else λK=>K s) λs=>opK P C (A3 s.tmps) o.dst o.op λp=>Ba C o.dst (p.dr pre) s λv I=>put I o.dst v (K (some (p.dr pre))))=some r) {next:Act->World->Prop} {Q:Exit->Act->World->Prop}
  (E:∀(N:Option Prim) (I:St) (J:Act) (w':World),K N I=some r->Rel Z I J.tmps w'->J.defers=a.defers->next J w'):o.wp P a w next Q:=by
 cases pre
 ·exact Qyy D G M h E
 ·obtain⟨I,h',L⟩:=Z3k M h;exact Qyy D G L h' E
theorem Qvh (I:Aj P C) (T:∀t∈C.eqOk,P.stoodInHeld t=false) {pre:Bool} {ops:Array Oper} {s:St} {o:Oper} {a:Act} (hR:Rel Z s a.tmps w) {K:Option Prim->St->Option R} {r:R}
  (h:F3 P C pre ops.toList o s K=some r) {next:Act->World->Prop} {Q:Exit->Act->World->Prop}
  (G:∀(po:Option Prim) (s':St) (a':Act) (w':World),K po s'=some r->Rel Z s' a'.tmps w'->a'.defers=a.defers->next a' w'):
  if Region.wanted o (yielded ops a.tmps)=true then o.wp P a w next Q else next (a.put o.dst undef) w:=by
 have J:∀s':St,Rel Z s' a.tmps w->put s' o.dst (.tup []) (K none)=some r->next (a.put o.dst undef) w:=by
  intro s' E hp;rw[Fqs]at hp;refine G none _ _ w hp ?_ (by cases o.dst<;>rfl);obtain⟨ρ,E⟩:=E;cases hd:o.dst with
  |none=>exact⟨ρ,E⟩
  |some d=>exact⟨ρ,E.put d ⟨#[],rfl,trivial⟩ (λp hp=>by simp at hp)⟩
 unfold F3 PP at h;cases hg:o.guard with
 |none=>
  rw[hg]at h;rw[aa (by simp[Region.wanted,hg])];exact Qfv I T hR h G
 |some jw=>
  obtain⟨j,want⟩:=jw;rw[hg]at h;simp only at h;split at h
  ·rename_i oj hj;split at h
   ·rename_i t ht;split at h
    ·rename_i g D;obtain⟨ρ,L⟩:=hR;have O:t<s.tmps.length:=by
      rcases Nat.lt_or_ge t s.tmps.length with U|V
      ·exact U
      ·rw[BW,List.getD,db V]at D;simp at D
     have M:s.tmps[t]? =some (.c (.bool g)):=by
      rw[BW,List.getD]at D;rw[ah O]at D⊢;simpa using D
     have N:=(L.tv t _ M).bool;have S:t<a.tmps.size:=by rw[<-L.tl];exact O
     have X:a.tmps[t]? =some (.bool g):=by
      rw[Array.getElem?_eq_getElem S];rw[Array.getD,dif_pos S]at N;simpa using N
     have hy:yielded ops a.tmps j=some g:=by
      unfold yielded;have Y:ops[j]? =some oj:=by simpa using hj
      simp[Y,ht,X]
     have hl:∀b,g=b->Rel Z ⟨setL s.tmps t (.c (.bool b)),s.aA,s.aB⟩ a.tmps w:=by
      rintro b rfl;exact⟨ρ,L.learn t (by rw[N];exact TVR.mkBool _) (Ji _)⟩
     have hw:Region.wanted o (yielded ops a.tmps)=(g==want):=by
      simp only[Region.wanted,hg,hy];cases g<;>cases want<;>rfl
     cases g
     ·simp only[an]at h;rw[Fqs]at h;dsimp only at h;have E:=hl false rfl;cases want
      ·rw[aa (by rw[hw];rfl)];simp only[an]at h;exact Qfv I T E h G
      ·rw[ab (by rw[hw];simp)];simp only[ai]at h;exact J _ E h
     ·simp only[ai]at h;rw[Fqs]at h;dsimp only at h;have E:=hl true rfl;cases want
      ·rw[ab (by rw[hw];simp)];simp only[an]at h;exact J _ E h
      ·rw[aa (by rw[hw];rfl)];simp only[ai]at h;exact Qfv I T E h G
    ·rename_i D;obtain⟨ρ,L⟩:=hR;have O:t<s.tmps.length:=by
      rcases Nat.lt_or_ge t s.tmps.length with U|V
      ·exact U
      ·rw[BW,List.getD,db V]at D;simp at D
     have M:s.tmps[t]? =some (.tup []):=by
      rw[BW,List.getD]at D;rw[ah O]at D⊢;simpa using D
     obtain⟨ys,a0,N⟩:=L.tv t _ M;have S:t<a.tmps.size:=by rw[<-L.tl];exact O
     have X:a.tmps[t]? =some (.tuple ys):=by
      rw[Array.getElem?_eq_getElem S];rw[Array.getD,dif_pos S]at a0;simpa using a0
     have hy:yielded ops a.tmps j=none:=by
      unfold yielded;have Y:ops[j]? =some oj:=by simpa using hj
      simp[Y,ht,X]
     have hw:Region.wanted o (yielded ops a.tmps)=false:=by
      simp only[Region.wanted,hg,hy];rfl
     rw[ab (by rw[hw];simp)];exact J _ ⟨ρ,L⟩ h
    ·simp at h
   ·simp at h
  ·simp at h
theorem Q7u (D:Aj P C) (E:∀t∈C.eqOk,P.stoodInHeld t=false) {ops:Array Oper} {Q:Exit->Act->World->Prop} {K:St->Option R} {r:R}:
  ∀(l:List Oper) (s:St) (a:Act) (w:World),Rel Z s a.tmps w->Te P C ops.toList l s K=some r->
  (∀(I:St) (G:Act) (w':World),K I=some r->Rel Z I G.tmps w'->G.defers=a.defers->Q .normal G w')->wpList P ops Q l a w
 |[],s,a,w,J,h,L=>L s a w h J rfl
 |o::l,s,a,w,J,h,L=>by
  simp only[Te]at h;have:=Qvh (next:=wpList P ops Q l) (Q:=Q) D E J h (λY I G w' O M S=>Q7u D E l I G w' M O (λs2 a2 T U V X=>L s2 a2 T U V (X.trans S)));simp only[wpList];split
  ·rename_i N;rw[aa N]at this;exact .inl this
  ·rename_i N;rw[ab N]at this;exact this
end
open Go.RowKit
def R8 (s:St) (d:Option Tmp) (v:TV):St:=
 match d with
 |none=>s
 |some t=>⟨setL s.tmps t v,s.aA,s.aB⟩
section
variable {P:Program} {C:Cfg} {w:World} {R:Type} {Z:Base}
theorem Mj (s:St) (d:Option Tmp) (v:TV) (K:St->Option R):put s d v K=K (R8 s d v):=Fqs s d v K
def Aw (dst:Option Tmp) (p:Prim) (aA:List (Nat×Box)) (aB:List (Nat×Row)):Option (TV×List (Nat×Box)):=
 match p with
 | .val v=>some (v,aA)
 | .load g sz key off=>match Ac aA key with
  |some b=>match DN g sz b.cells off with
   |some v=>some (v,aA)
   |none=>none
  |none=>none
 | .store key off cs=>match Ac aA key with
  |some b=>if Nat.ble (off+cs.length) b.cells.length then some (.dead,upd aA key ⟨b.ty,splice b.cells off cs⟩)else none
  |none=>none
 | .new ty cs=>match dst with
  |some d=>match Ac aA d with
   |some _=>none
   |none=>some (.c (.ptr d 0),ins aA d ⟨ty,cs⟩)
  |none=>none
 | .newView _ ks l=>some (.c (.view ks l),aA)
 | .rload g sz id idx sub=>match Ac aB id with
  |some r=>match DN g sz (r.f idx) sub with
   |some v=>some (v,aA)
   |none=>none
  |none=>none
 | .call f args=>match C.spec f with
  |some g=>match G8 aB args with
   |some l=>match g (TV×Mem) l ⟨[],[]⟩ (λv m=>some (v,m))with
    |some (v,⟨[],[]⟩)=>if((!(args.any TV.hasOwn)||v.flat)&&v.plainB)=true then some (v,aA)else none
    |_=>none
   |none=>none
  |none=>none
 | .callD f args=>match C.spec f with
  |some g=>
   if(Ak (TV.inK (A4 (cat AC.keys (cat TV.cellsOf args)) []) []) args&&Ak (λk=>Ak AC.calm (EZ aA k)) (A4 (cat AC.keys (cat TV.cellsOf args)) [])&&BQ (A4 (cat AC.keys (cat TV.cellsOf args)) []))=true then
    match D0 aA (λk=>base+pos (A4 (cat AC.keys (cat TV.cellsOf args)) []) k) (λi=>base+pos [] i) base (A4 (cat AC.keys (cat TV.cellsOf args)) [])with
    |some E=>match g (TV×Mem) (args.map (TV.ren (λk=>base+pos (A4 (cat AC.keys (cat TV.cellsOf args)) []) k) (λi=>base+pos [] i))) ⟨E,[]⟩ (λv m=>some (v,m))with
     |some (v,⟨D,[]⟩)=>
      if(Ak (λp:Nat×Box=>EL D p.1) E&&Ak (λp:Nat×Box=>EL E p.1) D&&BQ (D.map (·.1))&&Ak (λp:Nat×Box=>Ak AC.calm p.2.cells) D&&v.plainB)=true then
       some (v,CU (A4 (cat AC.keys (cat TV.cellsOf args)) []) D aA)
      else none
     |_=>none
    |none=>none
   else none
  |none=>none
 |_=>none
theorem Zqf (D:Aj P C) {dst:Option Tmp} {p:Prim} (S:Prim.simple (some p)=true) (M:Prim.isApp (some p)=false) (J:Prim.isMk (some p)=false) (s:St) (K:TV->St->Option R):
  Ba C dst p s K=(Aw (C:=C) dst p s.aA s.aB).bind λq=>K q.1 ⟨s.tmps,q.2,s.aB⟩:=by
 obtain⟨tm,aA,aB⟩:=s;cases p<;>simp only[Prim.simple]at S<;>try (simp at S;done)
 case appD=>simp[Prim.isApp]at M
 case callF=>simp[Prim.isMk]at J
 case newRow=>simp[Prim.isMk]at J
 case val v=>rfl
 case newView e ks l=>rfl
 case rload g sz id idx sub=>
  simp only[Ba,Aw];cases G:Ac aB id with
  |none=>rfl
  |some r=>
   dsimp only;cases N:DN g sz (r.f idx) sub<;>rfl
 case load g sz key off=>
  simp only[Ba,Aw];cases G:Ac aA key with
  |none=>rfl
  |some b=>
   dsimp only;cases N:DN g sz b.cells off<;>rfl
 case store key off cs=>
  simp only[Ba,Aw];cases G:Ac aA key with
  |none=>rfl
  |some b=>
   dsimp only;cases Nat.ble (off+cs.length) b.cells.length
   ·rfl
   ·simp only[ai,Bd,if_true,ag]
 case new ty cs=>
  simp only[Ba,Aw];cases dst with
  |none=>rfl
  |some d=>
   dsimp only;cases G:Ac aA d with
   |some _=>rfl
   |none=>simp only[Bd,ag]
 case call f args=>
  simp only[Ba,Aw];cases G:C.spec f with
  |none=>rfl
  |some g=>
   dsimp only;cases N:G8 aB args with
   |none=>rfl
   |some l=>
    dsimp only;have I:=D.1 f g G;rw[I.nat];cases T:g (TV×Mem) l ⟨[],[]⟩ (λv m=>some (v,m))with
    |none=>rfl
    |some q=>
     obtain⟨v,⟨L,O⟩⟩:=q;simp only[ag];cases L with
     |cons _ _=>rfl
     |nil=>
      cases O with
      |cons _ _=>rfl
      |nil=>
       dsimp only;cases((!(args.any TV.hasOwn)||v.flat)&&v.plainB)<;>rfl
 case callD f args=>
  simp only[Ba,Aw];cases G:C.spec f with
  |none=>rfl
  |some g=>
   dsimp only;simp only[Bd];generalize A4 (cat AC.keys (cat TV.cellsOf args)) []=keys;cases U:(Ak (TV.inK keys []) args&&Ak (λk=>Ak AC.calm (EZ aA k)) keys&&BQ keys)
   ·simp
   ·simp only[ai,if_true];cases N:D0 aA (λk=>base+pos keys k) (λi=>base+pos [] i) base keys with
    |none=>rfl
    |some L=>
     dsimp only;have I:=D.1 f g G;rw[I.nat];cases T:g (TV×Mem) (args.map (TV.ren (λk=>base+pos keys k) (λi=>base+pos [] i))) ⟨L,[]⟩ (λv m=>some (v,m))with
     |none=>rfl
     |some q=>
      obtain⟨v,⟨E,O⟩⟩:=q;simp only[ag];cases O with
      |cons _ _=>rfl
      |nil=>
       dsimp only;cases(Ak (λp:Nat×Box=>EL E p.1) L&&Ak (λp:Nat×Box=>EL L p.1) E&&BQ (E.map (·.1))&&Ak (λp:Nat×Box=>Ak AC.calm p.2.cells) E&&v.plainB)<;>rfl
theorem Cc {α:Type} {c:Bool} {p:Option α} {q:α} (h:cond c p none=some q):c=true/\p=some q:=by cases c<;>simp at h;exact⟨rfl,h⟩
def Qde (aB:List (Nat×Row)) (e:TypeId) (ks:List Kd) (bytes id:Nat) (x:AC):Option (TV×List (Nat×Row)):=
 match Hu aB ks x with
 |some m=>match Ac aB id with
  |some r=>if(Dq ks r.ks&&Nat.beq r.ty e&&Nat.ble 1 bytes)=true then
    if Nat.ble ((r.l++m).length*bytes) 140737488355328=true then some (.c (.own id r.ks.length (r.l++m).length),upd aB id ⟨e,r.ks,r.l++m⟩)else none
   else none
  |none=>none
 |none=>none
def WO (id:Nat) (tm:List TV) (bx:List (Nat×Box)) (aB:List (Nat×Row)):St:=⟨tm.map (TV.kill id),bx.map λp=>(p.1,p.2.kill id),aB⟩
def Qli (aB:List (Nat×Row)) (e:TypeId) (ks:List Kd) (bytes d:Nat) (x:AC):Option (TV×List (Nat×Row)):=
 match Hu aB ks x with
 |some m=>match Ac aB d with
  |some _=>none
  |none=>if(Nat.ble 1 ks.length&&Nat.ble 1 bytes)=true then
    if Nat.ble (m.length*bytes) 140737488355328=true then some (.c (.own d ks.length m.length),ins aB d ⟨e,ks,m⟩)else none
   else none
 |none=>none
def KL (dst:Option Tmp):Prim->Option Nat
 | .appD _ _ _ (.own id _ _) _=>some id
 | .appD _ _ _ .nilSl _=>dst
 |_=>none
def K_ (dst:Option Tmp) (aB:List (Nat×Row)):Prim->Option (TV×List (Nat×Row))
 | .appD e ks bytes (.own id _ _) x=>Qde aB e ks bytes id x
 | .appD e ks bytes .nilSl x=>match dst with
  |some d=>Qli aB e ks bytes d x
  |none=>none
 |_=>none
def mkG (dst:Option Tmp) (p:Prim):Option (TV×Option (Nat×Row)):=
 match p with
 | .newRow e ks l=>match dst with
  |some d=>some (.c (.own (C.rowAs d) ks.length l.length),some (C.rowAs d,⟨e,ks,l⟩))
  |none=>none
 | .callF f args=>match C.spec f with
  |some g=>if Ak TV.plainB args=true then match g (TV×Mem) args ⟨[],[]⟩ (λv m=>some (v,m))with
    |some (v,⟨[],[]⟩)=>if v.plainB=true then some (v,none)else none
    |some (.v false [.own j _ _],⟨[],[(k,r)]⟩)=>if Nat.beq j k=true then some (.c (.own (HO (dst.getD 0)) r.ks.length r.l.length),some (HO (dst.getD 0),r))else none
    |_=>none
   else none
  |none=>none
 |_=>none
def mkD (dst:Option Tmp) (p:Prim) (aB:List (Nat×Row)):Option (TV×List (Nat×Row)):=
 match mkG (C:=C) dst p with
 |some (v,none)=>some (v,aB)
 |some (v,some (k,r))=>match Ac aB k with
  |some _=>none
  |none=>some (v,ins aB k r)
 |none=>none
def Fo (dst:Option Tmp) (p:Prim) (s:St):Option (TV×St):=
 bif Prim.isApp (some p)then match KL dst p with
  |some id=>(K_ dst s.aB p).map λq=>(q.1,WO id s.tmps s.aA q.2)
  |none=>none
 else bif Prim.isMk (some p)then(mkD (C:=C) dst p s.aB).map λq=>(q.1,⟨s.tmps,s.aA,q.2⟩)
 else(Aw (C:=C) dst p s.aA s.aB).map λq=>(q.1,⟨s.tmps,q.2,s.aB⟩)
theorem Q5v (D:Aj P C) {dst:Option Tmp} {p:Prim} (N:Prim.simple (some p)=true) (s:St) (K:TV->St->Option R):
  Ba C dst p s K=(Fo (C:=C) dst p s).bind λq=>K q.1 q.2:=by
 cases G:Prim.isApp (some p)with
 |false=>
  cases I:Prim.isMk (some p)with
  |false=>
   rw[Zqf D N (by rw[G]) I];unfold Fo;rw[G,I];simp only[an];cases Aw (C:=C) dst p s.aA s.aB<;>rfl
  |true=>
   obtain⟨tm,aA,aB⟩:=s;unfold Fo;rw[G,I];simp only[an,ai];cases p<;>simp[Prim.isMk]at I
   case newRow e ks l=>
    simp only[Ba,mkD,mkG];cases dst with
    |none=>rfl
    |some d=>
     dsimp only;cases Ac aB (C.rowAs d)with
     |some _=>rfl
     |none=>simp only[Bd];rfl
   case callF f args=>
    simp only[Ba,mkD,mkG];cases O:C.spec f with
    |none=>rfl
    |some g=>
     dsimp only;cases V:Ak TV.plainB args
     ·rfl
     simp only[ai,if_true];have J:=D.1 f g O;rw[J.nat];cases X:g (TV×Mem) args ⟨[],[]⟩ (λv m=>some (v,m))with
     |none=>rfl
     |some q=>
      obtain⟨v,⟨S,T⟩⟩:=q;simp only[ag];cases S with
      |cons _ _=>cases v<;>rfl
      |nil=>
       cases T with
       |nil=>
        dsimp only;cases v.plainB<;>rfl
       |cons p l=>
        obtain⟨k,r⟩:=p;cases l with
        |cons _ _=>rfl
        |nil=>
         dsimp only;split
         ·rename_i j w0 Y;cases E:Nat.beq j k
          ·simp only[E,Bool.false_eq_true,if_false];rfl
          ·simp only[ai,E,if_true];cases M:Ac aB (HO (dst.getD 0))with
           |some _=>simp only[M];rfl
           |none=>simp only[Bd,M];rfl
         ·rename_i L;cases v with
          |dead=>rfl
          |tup ps=>rfl
          |v g cs=>
           cases g with
           |true=>rfl
           |false=>
            cases cs with
            |nil=>rfl
            |cons a l=>
             cases l with
             |cons _ _=>cases a<;>rfl
             |nil=>cases a<;>first|rfl|exact absurd rfl (L _ _ _)
 |true=>
  obtain⟨tm,aA,aB⟩:=s;cases p<;>simp[Prim.isApp]at G
  rename_i e ks bytes U x;unfold Fo;simp only[Prim.isApp,ai,Ba];cases U
  case own id w' n=>
   dsimp only[KL,K_,Qde];cases Hu aB ks x with
   |none=>rfl
   |some m=>
    dsimp only;cases Ac aB id with
    |none=>rfl
    |some r=>
     dsimp only;cases(Dq ks r.ks&&Nat.beq r.ty e&&Nat.ble 1 bytes)
     ·rfl
     ·simp only[ai,if_true];cases Nat.ble ((r.l++m).length*bytes) 140737488355328
      ·rfl
      ·simp only[ai,if_true,Bd];rfl
  case nilSl=>
   dsimp only[KL,K_];cases dst with
   |none=>cases Hu aB ks x<;>rfl
   |some d=>
    dsimp only[Qli];cases Hu aB ks x with
    |none=>rfl
    |some m=>
     dsimp only;cases Ac aB d with
     |some _=>rfl
     |none=>
      dsimp only;cases(Nat.ble 1 ks.length&&Nat.ble 1 bytes)
      ·rfl
      ·simp only[ai,if_true];cases Nat.ble (m.length*bytes) 140737488355328
       ·rfl
       ·simp only[ai,if_true,Bd];rfl
  all_goals
   dsimp only[KL];cases Hu aB ks x<;>rfl
theorem Zkn (D:Aj P C) {dst:Option Tmp} {p:Prim} {s:St} {K:TV->St->Option R} {r:R} (h:Ba C dst p s K=some r):∃v G,K v G=some r:=by
 obtain⟨tm,aA,aB⟩:=s;cases p<;>simp only[Ba]at h
 case val v=>exact⟨_,_,h⟩
 case newView e ks l=>exact⟨_,_,h⟩
 case load g sz key off=>
  repeat' split at h
  all_goals first|(simp at h;done)|exact⟨_,_,h⟩
 case store key off cs=>
  split at h
  ·rename_i b _;cases hb:Nat.ble (off+cs.length) b.cells.length<;>rw[hb]at h
   ·simp at h
   ·simp only[ai,Bd]at h;exact⟨_,_,h⟩
  ·simp at h
 case new ty cs=>
  split at h
  ·split at h
   ·simp at h
   ·simp only[Bd]at h;exact⟨_,_,h⟩
  ·simp at h
 case newS ty n cs=>
  split at h
  ·split at h
   ·simp at h
   ·simp only[Bd]at h;exact⟨_,_,h⟩
  ·simp at h
 case rload g sz id idx sub=>
  repeat' split at h
  all_goals first|(simp at h;done)|exact⟨_,_,h⟩
 case rstore id idx sub cs=>
  split at h
  ·rename_i I _;cases hb:(Nat.ble (sub+cs.length) I.w&&Ak AC.plain cs)<;>rw[hb]at h
   ·simp at h
   ·simp only[ai]at h;split at h
    ·simp only[Bd]at h;exact⟨_,_,h⟩
    ·simp at h
  ·simp at h
 case newRow e ks l=>
  split at h
  ·split at h
   ·simp at h
   ·simp only[Bd]at h;exact⟨_,_,h⟩
  ·simp at h
 case make e ks bytes n z=>
  split at h
  ·split at h
   ·simp at h
   ·obtain⟨_,h⟩:=Cc h;simp only[Bd]at h;exact⟨_,_,h⟩
  ·simp at h
 case cutR id a=>
  split at h
  ·obtain⟨_,h⟩:=Cc h;simp only[Bd]at h;exact⟨_,_,h⟩
  ·simp at h
 case append e ks bytes s x=>
  split at h
  ·split at h
   ·split at h
    ·split at h
     ·simp at h
     ·obtain⟨_,h⟩:=Cc h;obtain⟨_,h⟩:=Cc h;simp only[Bd]at h;exact⟨_,_,h⟩
    ·simp at h
   ·split at h
    ·obtain⟨_,h⟩:=Cc h;obtain⟨_,h⟩:=Cc h;simp only[Bd]at h;exact⟨_,_,h⟩
    ·simp at h
   ·simp at h
  ·simp at h
 case call f args=>
  split at h
  ·rename_i g E;split at h
   ·obtain⟨v,m,h',_⟩:=(D.1 f g E).run h;split at h'
    ·obtain⟨_,h'⟩:=Cc h';exact⟨_,_,h'⟩
    ·simp at h'
   ·simp at h
  ·simp at h
 case callM f args=>
  split at h
  ·rename_i g E;simp only[Bd]at h;obtain⟨_,h⟩:=Cc h;split at h
   ·obtain⟨v,m,h',_⟩:=(D.1 f g E).run h;obtain⟨_,h'⟩:=Cc h';exact⟨_,_,h'⟩
   ·simp at h
  ·simp at h
 case callF f args=>
  split at h
  ·rename_i g E;obtain⟨_,h⟩:=Cc h;obtain⟨v,m,h',_⟩:=(D.1 f g E).run h;split at h'
   ·obtain⟨_,h'⟩:=Cc h';exact⟨_,_,h'⟩
   ·split at h'
    ·obtain⟨_,h'⟩:=Cc h';split at h'
     ·simp at h'
     ·simp only[Bd]at h';exact⟨_,_,h'⟩
    ·simp at h'
   ·simp at h'
  ·simp at h
 case appD e ks bytes s x=>
  split at h
  ·split at h
   ·split at h
    ·obtain⟨_,h⟩:=Cc h;obtain⟨_,h⟩:=Cc h;simp only[Bd]at h;exact⟨_,_,h⟩
    ·simp at h
   ·split at h
    ·split at h
     ·simp at h
     ·obtain⟨_,h⟩:=Cc h;obtain⟨_,h⟩:=Cc h;simp only[Bd]at h;exact⟨_,_,h⟩
    ·simp at h
   ·simp at h
  ·simp at h
 case callD f args=>
  split at h
  ·rename_i g E;simp only[Bd]at h;obtain⟨_,h⟩:=Cc h;split at h
   ·obtain⟨v,m,h',_⟩:=(D.1 f g E).run h;split at h'
    ·obtain⟨_,h'⟩:=Cc h';exact⟨_,_,h'⟩
    ·simp at h'
   ·simp at h
  ·simp at h
theorem Zcy (G:Aj P C) (dst:Option Tmp) (p:Prim) (s:St) (K:TV->St->Option R):Ba C dst p s K=(Ba C dst p s λv N=>some (v,N)).bind λq=>K q.1 q.2:=by
 obtain⟨tm,aA,aB⟩:=s;cases p<;>simp only[Ba,Bd]
 case val v=>rfl
 case newView e ks l=>rfl
 case load g sz key off=>
  cases Ac aA key with
  |none=>rfl
  |some b=>
   dsimp only;cases DN g sz b.cells off<;>rfl
 case store key off cs=>
  cases Ac aA key with
  |none=>rfl
  |some b=>
   dsimp only;cases Nat.ble (off+cs.length) b.cells.length<;>rfl
 case new ty cs=>
  cases dst with
  |none=>rfl
  |some d=>
   dsimp only;cases Ac aA d<;>rfl
 case newS ty n cs=>
  cases dst with
  |none=>rfl
  |some d=>
   dsimp only;cases Ac aA d<;>rfl
 case rload g sz id idx sub=>
  cases Ac aB id with
  |none=>rfl
  |some r=>
   dsimp only;cases DN g sz (r.f idx) sub<;>rfl
 case rstore id idx sub cs=>
  cases Ac aB id with
  |none=>rfl
  |some r=>
   dsimp only;cases(Nat.ble (sub+cs.length) r.w&&Ak AC.plain cs)
   ·rfl
   ·simp only[ai];cases IA r.ks (splice (r.f idx) sub cs)<;>rfl
 case newRow e ks l=>
  cases dst with
  |none=>rfl
  |some d=>
   dsimp only;cases Ac aB (C.rowAs d)<;>rfl
 case make e ks bytes n z=>
  cases dst with
  |none=>rfl
  |some d=>
   dsimp only;cases Ac aB d with
   |some _=>rfl
   |none=>
    dsimp only;cases(decide (0<=n)&&decide (n*(bytes:Int)<=140737488355328))<;>rfl
 case cutR id a=>
  cases Ac aB id with
  |none=>rfl
  |some r=>
   dsimp only;cases Nat.ble a r.l.length<;>rfl
 case append e ks bytes s x=>
  cases Hu aB ks x with
  |none=>rfl
  |some m=>
   dsimp only;cases s
   case nilSl=>
    dsimp only;cases dst with
    |none=>rfl
    |some d=>
     dsimp only;cases Ac aB d with
     |some _=>rfl
     |none=>
      dsimp only;cases(Nat.ble 1 ks.length&&Nat.ble 1 bytes)
      ·rfl
      ·simp only[ai];cases Nat.ble (m.length*bytes) 140737488355328<;>rfl
   case own id w' n=>
    dsimp only;cases Ac aB id with
    |none=>rfl
    |some r=>
     dsimp only;cases(Dq ks r.ks&&Nat.beq r.ty e&&Nat.ble 1 bytes)
     ·rfl
     ·simp only[ai];cases Nat.ble ((r.l++m).length*bytes) 140737488355328<;>rfl
   all_goals rfl
 case appD e ks bytes s x=>
  cases Hu aB ks x with
  |none=>rfl
  |some m=>
   dsimp only;cases s
   case nilSl=>
    dsimp only;cases dst with
    |none=>rfl
    |some d=>
     dsimp only;cases Ac aB d with
     |some _=>rfl
     |none=>
      dsimp only;cases(Nat.ble 1 ks.length&&Nat.ble 1 bytes)
      ·rfl
      ·simp only[ai];cases Nat.ble (m.length*bytes) 140737488355328<;>rfl
   case own id w' n=>
    dsimp only;cases Ac aB id with
    |none=>rfl
    |some r=>
     dsimp only;cases(Dq ks r.ks&&Nat.beq r.ty e&&Nat.ble 1 bytes)
     ·rfl
     ·simp only[ai];cases Nat.ble ((r.l++m).length*bytes) 140737488355328<;>rfl
   all_goals rfl
 case call f args=>
  cases L:C.spec f with
  |none=>rfl
  |some g=>
   dsimp only;cases G8 aB args with
   |none=>rfl
   |some l=>
    dsimp only;have D:=G.1 f g L;rw[D.nat,D.nat (TV×St)];cases g (TV×Mem) l ⟨[],[]⟩ (λv m=>some (v,m))with
    |none=>rfl
    |some q=>
     obtain⟨v,⟨J,M⟩⟩:=q;simp only[ag];cases J with
     |cons _ _=>rfl
     |nil=>
      cases M with
      |cons _ _=>rfl
      |nil=>
       dsimp only;cases((!(args.any TV.hasOwn)||v.flat)&&v.plainB)<;>rfl
 case callM f args=>
  cases L:C.spec f with
  |none=>rfl
  |some g=>
   dsimp only;have D:=G.1 f g L;generalize LO aA 4 (A4 (cat AC.keys (cat TV.cellsOf args)) [])=keys;generalize Og aA (cat TV.cellsOf args) keys=ids;cases(Ak (TV.inK keys ids) args&&Ak (λk=>Ak (AC.inK keys ids) (EZ aA k)) keys&&BQ keys&&BQ ids)
   ·rfl
   ·simp only[ai];cases D0 aA (λk=>base+pos keys k) (λi=>base+pos ids i) base keys with
    |none=>cases GP aB base ids<;>rfl
    |some J=>
     cases GP aB base ids with
     |none=>rfl
     |some M=>
      dsimp only;rw[D.nat,D.nat (TV×St)];cases g (TV×Mem) (args.map (TV.ren (λk=>base+pos keys k) (λi=>base+pos ids i))) ⟨J,M⟩ (λv m=>some (v,m))with
      |none=>rfl
      |some q=>
       obtain⟨v,⟨E,I⟩⟩:=q;simp only[ag];cases(Ak (λp:Nat×Box=>EL E p.1) J&&BQ (E.map (·.1))&&BQ (I.map (·.1))&&Ak (λk=>Ie aA (BN keys (Bq keys E) (dst.getD 0) k)) (Bq keys E)&&Ak (λk=>Ie aB (BN ids (Bq ids I) (dst.getD 0) k)) (Bq ids I)&&Nat.ble (Bq keys E).length 100&&Nat.ble (Bq ids I).length 100)<;>rfl
 case callF f args=>
  cases L:C.spec f with
  |none=>rfl
  |some g=>
   dsimp only;have D:=G.1 f g L;cases Ak TV.plainB args
   ·rfl
   ·simp only[ai];rw[D.nat,D.nat (TV×St)];cases g (TV×Mem) args ⟨[],[]⟩ (λv m=>some (v,m))with
    |none=>rfl
    |some q=>
     obtain⟨v,⟨J,M⟩⟩:=q;simp only[ag];cases J with
     |cons _ _=>rfl
     |nil=>
      cases M with
      |nil=>dsimp only;cases v.plainB<;>rfl
      |cons p l=>
       obtain⟨k,r⟩:=p;cases l with
       |cons _ _=>rfl
       |nil=>
        dsimp only;split
        ·rename_i j w0 O;cases Nat.beq j k
         ·rfl
         ·simp only[ai];cases Ac aB (HO (dst.getD 0))<;>rfl
        ·rfl
 case callD f args=>
  cases L:C.spec f with
  |none=>rfl
  |some g=>
   dsimp only;have D:=G.1 f g L;generalize A4 (cat AC.keys (cat TV.cellsOf args)) []=keys;cases(Ak (TV.inK keys []) args&&Ak (λk=>Ak AC.calm (EZ aA k)) keys&&BQ keys)
   ·rfl
   ·simp only[ai];cases D0 aA (λk=>base+pos keys k) (λi=>base+pos [] i) base keys with
    |none=>rfl
    |some J=>
     dsimp only;rw[D.nat,D.nat (TV×St)];cases g (TV×Mem) (args.map (TV.ren (λk=>base+pos keys k) (λi=>base+pos [] i))) ⟨J,[]⟩ (λv m=>some (v,m))with
     |none=>rfl
     |some q=>
      obtain⟨v,⟨E,I⟩⟩:=q;simp only[ag];cases I with
      |cons _ _=>rfl
      |nil=>
       dsimp only;cases(Ak (λp:Nat×Box=>EL E p.1) J&&Ak (λp:Nat×Box=>EL J p.1) E&&BQ (E.map (·.1))&&Ak (λp:Nat×Box=>Ak AC.calm p.2.cells) E&&v.plainB)<;>rfl
theorem UE:∀(l:List Nat) (s:St) (K:St->Option R),I3 l s K=(I3 l s some).bind K
 |[],s,K=>rfl
 |id::l,⟨tm,aA,aB⟩,K=>by
  simp only[I3,Bd];cases Ac aB id with
  |none=>exact UE l _ K
  |some r=>exact UE l _ K
theorem Qzc (k o:Nat) (e:TypeId) (s:St) (K:St->Option R):Mu P k o e s K=(Mu P k o e s some).bind K:=by
 obtain⟨tm,aA,aB⟩:=s;simp only[Mu,Bd];cases Ac aA k with
 |none=>rfl
 |some b=>
  dsimp only;cases nth .dead b.cells o<;>try rfl
  dsimp only;cases Gv P 8 e with
  |none=>rfl
  |some ks=>
   dsimp only;cases(Nat.ble 1 ks.length&&Ie aB (1000000+1000*k+o))<;>rfl
theorem Qd9:∀(l:List (Nat×Nat×TypeId)) (s:St) (K:St->Option R),Jp P l s K=(Jp P l s some).bind K
 |[],s,K=>rfl
 |(k,o,e)::l,s,K=>by
  simp only[Jp];rw[Qzc,Qzc (K:=λD=>Jp P l D some)];cases Mu P k o e s some with
  |none=>rfl
  |some D=>exact Qd9 l D K
theorem Vf:∀(l:List (Nat×TypeId)) (s:St) (K:St->Option R),Jl P l s K=(Jl P l s some).bind K
 |[],s,K=>rfl
 |(t,e)::l,⟨tmps,aA,aB⟩,K=>by
  simp only[Jl];split
  ·split
   ·rename_i ks _ _;cases Nat.ble 1 ks.length
    ·rfl
    ·simp only[ai,Bd];exact Vf l _ K
   ·rfl
  ·exact Vf l _ K
theorem Zo0 (s:St) (K:St->Option R):Ij P C s K=(Ij P C s some).bind K:=by
 simp only[Ij,Bd];rw[Qd9]
 conv=>rhs;rw[Qd9]
 cases Jp P (cat (λp:Nat×Box=>bif AP C.ownBut p.1 then []else(C.ownOff p.2.ty).map λq=>(p.1,q.1,q.2)) s.aA) s some with
 |none=>rfl
 |some D=>exact Vf _ _ K
theorem Qwc (o:Op) (s:St) (K:St->Option R):IR P C o s K=(IR P C o s some).bind K:=by
 unfold IR;rw[UE]
 conv=>rhs;rw[UE]
 cases I3 (Q8w C (A3 s.tmps) o) s some with
 |none=>rfl
 |some D=>
  simp only[ag];cases WC C o
  ·rfl
  ·exact Zo0 D K
theorem Zfa (G:Aj P C) (pre:Bool) (ops:List Oper) (o:Oper) (s:St) (K:Option Prim->St->Option R):F3 P C pre ops o s K=(F3 P C pre ops o s λp D=>some (p,D)).bind λq=>K q.1 q.2:=by
 have I:∀s:St,((bif pre then IR P C o.op s else λK=>K s) λs=>opK P C (A3 s.tmps) o.dst o.op λp=>Ba C o.dst (p.dr pre) s λv D=>put D o.dst v (K (some (p.dr pre))))=
   ((bif pre then IR P C o.op s else λK=>K s) λs=>opK P C (A3 s.tmps) o.dst o.op λp=>Ba C o.dst (p.dr pre) s λv D=>put D o.dst v ((λp D=>some (p,D)) (some (p.dr pre)))).bind λq=>K q.1 q.2:=by
  have J:∀s:St,(opK P C (A3 s.tmps) o.dst o.op λp=>Ba C o.dst (p.dr pre) s λv D=>put D o.dst v (K (some (p.dr pre))))=(opK P C (A3 s.tmps) o.dst o.op λp=>Ba C o.dst (p.dr pre) s λv D=>put D o.dst v ((λp D=>some (p,D)) (some (p.dr pre)))).bind λq=>K q.1 q.2:=by
   intro s;rw[Qz]
   conv=>rhs;rw[Qz]
   cases opK P C (A3 s.tmps) o.dst o.op some with
   |none=>rfl
   |some p=>
    simp only[ag];rw[Zcy G]
    conv=>rhs;rw[Zcy G]
    cases Ba C o.dst (p.dr pre) s λv D=>some (v,D)with
    |none=>rfl
    |some q=>simp only[ag,Mj]
  intro s;cases pre
  ·exact J s
  ·simp only[ai];rw[Qwc]
   conv=>rhs;rw[Qwc]
   cases IR P C o.op s some with
   |none=>rfl
   |some D=>exact J D
 have E:∀s:St,put s o.dst (.tup []) (K none)=(put s o.dst (.tup []) ((λp D=>some (p,D)) none)).bind λq=>K q.1 q.2:=by
  intro s;simp only[Mj,ag]
 unfold F3 PP;cases o.guard with
 |none=>exact I s
 |some L=>
  obtain⟨j,want⟩:=L;dsimp only;cases ops[j]? with
  |none=>rfl
  |some M=>
   dsimp only;cases M.dst with
   |none=>rfl
   |some t=>
    dsimp only;split
    ·rename_i g _;cases g
     ·simp only[an];rw[Fqs]
      conv=>rhs;rw[Fqs]
      cases want
      ·exact I _
      ·exact E _
     ·simp only[ai];rw[Fqs]
      conv=>rhs;rw[Fqs]
      cases want
      ·exact E _
      ·exact I _
    ·exact E _
    ·rfl
def B8 (ops:List Oper) (o:Oper) (tm:List TV):Option Bool:=
 match o.guard with
 |none=>some true
 |some (j,want)=>match ops[j]? with
  |some D=>match D.dst with
   |some t=>match nth .dead tm t with
    | .c (.bool g)=>some (g==want)
    | .tup []=>some false
    |_=>none
   |none=>none
  |none=>none
def Cs (ops:List Oper) (o:Oper) (s:St):Option (Option Prim×St):=
 match B8 ops o s.tmps with
 |some true=>(opK P C (A3 s.tmps) o.dst o.op some).bind λp=>(Fo (C:=C) o.dst (p.dr false) s).bind λq=>some (some (p.dr false),R8 q.2 o.dst q.1)
 |some false=>some (none,R8 s o.dst (.tup []))
 |none=>none
theorem Q5w {tm:List TV} {t:Nat} {v:TV} (h:nth .dead tm t=v) (E:v≠ .dead):setL tm t v=tm:=by
 rw[BW,List.getD]at h;rw[I2];cases D:tm[t]? with
 |none=>rw[D]at h;simp at h;exact absurd h.symm E
 |some u=>
  rw[D]at h;simp at h;subst h;apply List.ext_getElem?;intro i;rw[List.getElem?_set];split
  ·rename_i e;subst e;split
   ·exact D.symm
   ·rename_i G;rw[db (by omega)]
  ·rfl
theorem Zx4 (I:Aj P C) {ops:List Oper} {o:Oper} {s:St} {K:Option Prim->St->Option R} {r:R} (h:F3 P C false ops o s K=some r):
  (∃p E,Cs (P:=P) (C:=C) ops o s=some (p,E)/\K p E=some r)\/(∃p E,K (some p) E=some r/\Prim.simple (some p)=false):=by
 have J:∀s1:St,B8 ops o s.tmps=some true->s1=s->(opK P C (A3 s1.tmps) o.dst o.op λp=>Ba C o.dst (p.dr false) s1 λv E=>put E o.dst v (K (some (p.dr false))))=some r->
   (∃p E,Cs (P:=P) (C:=C) ops o s=some (p,E)/\K p E=some r)\/(∃p E,K (some p) E=some r/\Prim.simple (some p)=false):=by
  rintro s1 M rfl h;rw[Qz]at h;cases O:opK P C (A3 s1.tmps) o.dst o.op some with
  |none=>rw[O]at h;simp at h
  |some p=>
   rw[O]at h;simp only[ag]at h;cases T:Prim.simple (some (p.dr false))
   ·right;obtain⟨v,E,U⟩:=Zkn I h;rw[Mj]at U;exact⟨p.dr false,_,U,T⟩
   ·left;rw[Q5v I T]at h;cases S:Fo (C:=C) o.dst (p.dr false) s1 with
    |none=>rw[S]at h;simp at h
    |some q=>
     rw[S]at h;simp only[ag,Mj]at h;refine⟨some (p.dr false),_,?_,h⟩;simp only[Cs,M,O,ag,S]
 have G:∀s1:St,B8 ops o s.tmps=some false->s1=s->put s1 o.dst (.tup []) (K none)=some r->
   (∃p E,Cs (P:=P) (C:=C) ops o s=some (p,E)/\K p E=some r)\/(∃p E,K (some p) E=some r/\Prim.simple (some p)=false):=by
  rintro s1 M rfl h;rw[Mj]at h;exact .inl ⟨none,_,by simp only[Cs,M],h⟩
 unfold F3 PP at h;cases N:o.guard with
 |none=>
  rw[N]at h;exact J s (by simp[B8,N]) rfl h
 |some Y=>
  obtain⟨j,want⟩:=Y;rw[N]at h;simp only at h;split at h
  ·rename_i oj V;split at h
   ·rename_i t X;split at h
    ·rename_i g L;have M:B8 ops o s.tmps=some (g==want):=by simp only[B8,N,V,X,L]
     have D:∀b,g=b->(⟨setL s.tmps t (.c (.bool b)),s.aA,s.aB⟩:St)=s:=by
      rintro b rfl;rw[Q5w L (by simp)]
     cases g
     ·simp only[an]at h;rw[Fqs]at h;dsimp only at h;cases want
      ·exact J _ (by rw[M];rfl) (D false rfl) h
      ·exact G _ (by rw[M];rfl) (D false rfl) h
     ·simp only[ai]at h;rw[Fqs]at h;dsimp only at h;cases want
      ·exact G _ (by rw[M];rfl) (D true rfl) h
      ·exact J _ (by rw[M];rfl) (D true rfl) h
    ·rename_i L;exact G _ (by simp only[B8,N,V,X,L]) rfl h
    ·simp at h
   ·simp at h
  ·simp at h
def IJ (P:Program) (C:Cfg) (ops:List Oper) (m:List Nat) (i:Nat) (o:Oper) (s:St):Option (Option Prim×St):=
 if DG ops m i=true then F3 P C true ops o s λp D=>some (p,D)else Cs (P:=P) (C:=C) ops o s
def RD (P:Program) (C:Cfg) (ops:List Oper) (m:List Nat):List (Nat×Oper×Option Prim)->St->St->Prop
 |[],s,D=>s=D
 |(i,o,p)::l,s,D=>∃s1,IJ P C ops m i o s=some (p,s1)/\RD P C ops m l s1 D
theorem Z2 (D:Aj P C) {ops:List Oper} {m:List Nat}:∀(l:List Oper) (i:Nat) (s:St) (K:List (Oper×Option Prim)->St->Option R) (r:R),Ns P C ops m l i s K=some r->
  (∃(ps:List (Nat×Oper×Option Prim)) (E:St),ps.map (·.2.1)=l/\ps.map (·.1)=List.range' i l.length/\RD P C ops m ps s E/\K (ps.map (·.2)) E=some r)\/
  (∃(acc:List (Oper×Option Prim)) (E:St),K acc E=some r/\∃(j:Nat) (q:Oper×Option Prim),acc[j]? =some q/\(DG ops m (i+j)||Prim.simple q.2)=false)
 |[],i,s,K,r,h=> .inl ⟨[],s,rfl,rfl,rfl,h⟩
 |o::l,i,s,K,r,h=>by
  simp only[Ns]at h;have G:(∃p s1,IJ P C ops m i o s=some (p,s1)/\Ns P C ops m l (i+1) s1 (λrest E=>K ((o,p)::rest) E)=some r)\/
    (∃p s1,Ns P C ops m l (i+1) s1 (λrest E=>K ((o,some p)::rest) E)=some r/\(DG ops m i||Prim.simple (some p))=false):=by
   cases O:DG ops m i
   ·rw[O]at h;rcases Zx4 D h with⟨p,s1,I,J⟩|⟨p,s1,I,J⟩
    ·exact .inl ⟨p,s1,by unfold IJ;rw[ab (by rw[O];simp)];exact I,J⟩
    ·exact .inr ⟨p,s1,I,by simpa using J⟩
   ·rw[O,Zfa D]at h;cases S:F3 P C true ops o s λp U=>some (p,U)with
    |none=>rw[S]at h;simp at h
    |some q=>
     rw[S]at h;exact .inl ⟨q.1,q.2,by unfold IJ;rw[aa O];exact S,h⟩
  rcases G with⟨p,s1,I,J⟩|⟨p,s1,I,J⟩
  ·rcases Z2 D l (i+1) s1 _ r J with⟨ps,E,L,M,N,T⟩|⟨acc,E,L,j,q,M,N⟩
   ·exact .inl ⟨(i,o,p)::ps,E,by simp[L],by simp[M,List.range'_succ],⟨s1,I,N⟩,T⟩
   ·exact .inr ⟨_,E,L,j+1,q,by simp[M],by rw[show i+(j+1)=i+1+j from by omega];exact N⟩
  ·rcases Z2 D l (i+1) s1 _ r I with⟨ps,E,L,M,N,T⟩|⟨acc,E,L,j,q,M,N⟩
   ·exact .inr ⟨_,E,T,0,(o,some p),by simp,J⟩
   ·exact .inr ⟨_,E,L,j+1,q,by simp[M],by rw[show i+(j+1)=i+1+j from by omega];exact N⟩
end
end Go.Bm
