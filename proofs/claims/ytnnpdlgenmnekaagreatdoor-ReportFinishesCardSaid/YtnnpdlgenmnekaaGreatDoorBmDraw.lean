/- the abstract machine -/
import Derived.Test.YtnnpdlgenmnekaaGreatDoorBmFz
import Derived.ArgAppend
import Derived.LoopN
set_option linter.unusedVariables false
set_option linter.unusedSimpArgs false
namespace Go.Bm
open Go.RowKit
section
variable {P:Program} {C:Cfg} {ρ:Env} {w:World} {R:Type} {Z:Base} {tm:List TV} {aB:List (Nat×Box)} {aC:List (Nat×Row)} {tmps:Array Value}
theorem Qok:∀{l:List (Nat×Nat)} {cs:List AC},Ji l cs=true->cs=LF l
 |[],[],_=>rfl
 |(k,o)::l,a::cs,h=>by
  cases a<;>simp only[Ji]at h<;>try (simp at h;done)
  simp only[aj]at h;rw[ah h.1.1,ah h.1.2,Qok h.2];rfl
 |[],_::_,h=>by grind [Ji]
 |_::_,[],h=>by grind [Ji]
structure Built (aC : List (Nat × Row)) (rl : Nat -> Nat) : Prop where
 rl:∀id r,Ab aC id=some r->rl id=r.l.length
def Seg (l:List AC) (i:Nat) (v:List AC):Prop:=∀j,j<v.length->nth .vD l (i+j)=nth .vD v j
theorem Seg.left {l:List AC} {i:Nat} {v u:List AC} (h:Seg l i (v++u)):Seg l i v:=λj D=>by
 rw[h j (by grind),B8,B8,List.getD,List.getD,ij D]
theorem Seg.right {l:List AC} {i:Nat} {v u:List AC} (h:Seg l i (v++u)):Seg l (i+v.length) u:=λj D=>by
 rw[jd,h (v.length+j) (by grind),B8,B8,List.getD,List.getD,gw (by omega)];simp
theorem Seg.one {l:List AC} {i:Nat} {a:AC} (h:Seg l i [a]):nth .vD l i=a:=h 0 (by simp)
theorem Seg.all (l:List AC):Seg l 0 l:=λj _=>by simp
theorem Z7c {rl:Nat->Nat} (I:Built aC rl) {c:CS} {a:AC} {v:List AC} (h:HK c a=some v) {l:List AC} {i:Nat} (G:Seg l i v):
  (Dx rl l c i).2=i+v.length/\∀x,AC.wf aB aC a->CC ρ w a x->CC ρ w (Dx rl l c i).1 x:=by
 cases c<;>cases a<;>simp only[HK]at h<;>try (simp at h;done)
 case any.vD=>simp at h;subst h;exact⟨rfl,λx _ h=>h.one⟩
 case any.int=>simp at h;subst h;exact⟨rfl,λx _ h=>h.one⟩
 case any.bool=>simp at h;subst h;exact⟨rfl,λx _ h=>h.one⟩
 case any.raw=>simp at h;subst h;exact⟨rfl,λx _ h=>h.one⟩
 case any.nilSl=>simp at h;subst h;exact⟨rfl,λx _ h=>h.one⟩
 case any.ptr=>simp at h;subst h;exact⟨rfl,λx _ h=>h.one⟩
 case any.own=>simp at h;subst h;exact⟨rfl,λx _ h=>h.one⟩
 case any.vC=>simp at h;subst h;exact⟨rfl,λx _ h=>h.one⟩
 case any.rptr=>simp at h;subst h;exact⟨rfl,λx _ h=>h.one⟩
 case any.vptr=>simp at h;subst h;exact⟨rfl,λx _ h=>h.one⟩
 case any.clo=>simp at h;subst h;exact⟨rfl,λx _ h=>h.one⟩
 case any.bsl=>simp at h;subst h;exact⟨rfl,λx _ h=>h.one⟩
 case int.int k k' n=>
  cases D:kEq k k'<;>rw[D]at h
  ·grind
  ·simp at h;subst h;rw[<-Pi D];simp[Dx,Ag,G.one]
 case bool.bool b=>
  simp at h;subst h;simp[Dx,Dz,G.one]
 case sl.nilSl ks=>
  simp at h;subst h;simp[CC,CP,Dx,BQ,G.one]
 case sl.vC ks L l=>
  cases D:C6 ks L<;>rw[D]at h
  ·grind
  ·simp at h;subst h;rw[<-IH D];simp[Dx,BQ,G.one]
 case rawc.raw v=>
  simp at h;subst h;refine⟨rfl,λx _ h=> ?_⟩;simp only[Dx,G.one];exact h
 case str.raw v=>
  cases v<;>try (simp[HK]at h;done)
  simp at h;subst h;simp[Dx,Bp,G.one]
 case nil.nilSl=>simp at h;subst h;exact⟨rfl,λx _ h=>h⟩
 case nilp.raw v=>
  cases v<;>try (simp[HK]at h;done)
  rename_i q;cases q<;>simp[HK]at h
  subst h;exact⟨rfl,λx _ h=>h⟩
 case ptr.ptr k o k' M=>
  cases D:(Nat.beq k k'&&Nat.beq o M)<;>rw[D]at h
  ·grind
  ·simp at h;subst h;simp only[aj]at D;rw[<-ah D.1,<-ah D.2];exact⟨rfl,λx _ h=>h⟩
 case bsl.bsl k o k' M=>
  cases D:(Nat.beq k k'&&Nat.beq o M)<;>rw[D]at h
  ·grind
  ·simp at h;subst h;simp only[aj]at D;rw[<-ah D.1,<-ah D.2];exact⟨rfl,λx _ h=>h⟩
 case own.own id wd id' N n=>
  cases D:(Nat.beq id id'&&Nat.beq wd N)<;>rw[D]at h
  ·grind
  ·simp at h;subst h;simp only[aj]at D;rw[<-ah D.1,<-ah D.2];refine⟨rfl,λx U h=> ?_⟩;obtain⟨r,V,Y,h3⟩:=U;show CC ρ w (.own id wd (rl id)) x;rw[I.rl id r V]
   grind
 case clo.clo f fs cs X O T=>
  cases D:(Nat.beq f X&&Ji fs O&&Ji cs T)<;>rw[D]at h
  ·grind
  ·simp at h;subst h;simp only[aj]at D;rw[<-ah D.1.1,Qok D.1.2,Qok D.2];exact⟨rfl,λx _ h=>h⟩
theorem S6 {rl:Nat->Nat} (D:Built aC rl) {l:List AC}:∀{cs:List CS} {as:List AC} {v:List AC},GI cs as=some v->∀{i},Seg l i v->
  (DP rl l cs i).2=i+v.length/\(DP rl l cs i).1.length=as.length/\∀xs,(∀a∈as,AC.wf aB aC a)->CL (CC ρ w) as xs->CL (CC ρ w) (DP rl l cs i).1 xs
 |[],[],v,h,i,_=>by simp[GI]at h;subst h;exact⟨rfl,rfl,λxs _ h=>h⟩
 |c::cs,a::as,v,h,i,M=>by
  simp only[GI]at h;split at h
  ·rename_i V O;split at h
   ·rename_i X T;simp at h;subst h;obtain⟨G,I⟩:=Z7c (ρ:=ρ) (w:=w) (aB:=aB) D O M.left;obtain⟨Y,p3,U⟩:=S6 D T M.right;simp only[DP];generalize hb:Dx rl l c i=q at G I;obtain⟨b,i'⟩:=q;simp only at G I;subst G;refine⟨by grind,by grind,λxs N L=> ?_⟩;cases xs with
    |nil=>exact L.elim
    |cons x xs=>exact⟨I x (N a (by simp)) L.1,U xs (λb hb=>N b (by grind)) L.2⟩
   grind
  grind
 |[],_::_,v,h,_,_=>by grind [GI]
 |_::_,[],v,h,_,_=>by grind [GI]
theorem Q0z {rl:Nat->Nat} (D:Built aC rl) {l:List AC}:∀{ps:List (Bool×List CS)} {I:List (Bool×List AC)} {v:List AC},LR ps I=some v->∀{i},Seg l i v->
  (G_ rl l ps i).2=i+v.length/\∀xs,(∀p∈I,∀a∈p.2,AC.wf aB aC a)->TP ρ w I xs->TP ρ w (G_ rl l ps i).1 xs
 |[],[],v,h,i,_=>by simp[LR]at h;subst h;exact⟨rfl,λxs _ h=>h⟩
 |(g,cs)::ps,(U,as)::I,v,h,i,V=>by
  simp only[LR]at h;cases X:(g==U)<;>rw[X]at h
  ·grind
  ·simp only[ak]at h;have L:g=U:=by simpa using X
   subst L;split at h
   ·rename_i v1 h1;split at h
    ·rename_i v2 h2;simp at h;subst h;obtain⟨M,Y,N⟩:=S6 (ρ:=ρ) (w:=w) (aB:=aB) D h1 V.left;obtain⟨p1,p2⟩:=Q0z D h2 V.right;simp only[G_];generalize hb:DP rl l cs i=q at M N Y;obtain⟨b,i'⟩:=q;simp only at M N Y;subst M;refine⟨by grind,λxs hw O=> ?_⟩;cases xs with
     |nil=>exact O.elim
     |cons x xs=>
      refine⟨?_,p2 xs (λp hp=>hw p (by grind)) O.2⟩;have T:=O.1;have G:=hw (g,as) (by simp);cases g
      ·obtain⟨a,e1,e2⟩:=T;dsimp only at e1 G;subst e1;have:=N [x] G ⟨e2,trivial⟩;cases b with
       |nil=>grind
       |cons c b=>
        cases b with
        |nil=>exact⟨c,rfl,this.1⟩
        |cons=>grind
      grind
    grind
   grind
 |[],_::_,v,h,_,_=>by grind [LR]
 |(_,_)::_,[],v,h,_,_=>by grind [LR]
theorem Z24 {rl:Nat->Nat} (I:Built aC rl) {t:TS} {u:TV} {v:List AC} (h:Jx t u=some v) {l:List AC} {i:Nat} (O:Seg l i v):
  (HA rl l t i).2=i+v.length/\∀x,TV.wf aB aC u->TVR ρ w u x->TVR ρ w (HA rl l t i).1 x:=by
 cases t with
 |vD=>simp[Jx]at h;subst h;exact⟨rfl,λ_ _ _=>trivial⟩
 |v g cs=>
  cases u with
  |vD=>grind [Jx]
  |tup=>grind [Jx]
  |v T as=>
   simp only[Jx]at h;cases U:(g==T)<;>rw[U]at h
   ·grind
   ·simp only[ak]at h;have M:g=T:=by simpa using U
    subst M;obtain⟨G,V,D⟩:=S6 (ρ:=ρ) (w:=w) (aB:=aB) I h O;simp only[HA];generalize hb:DP rl l cs i=q at G D V;obtain⟨b,Y⟩:=q;simp only at G D V;refine⟨G,λx L X=> ?_⟩;cases g
    ·obtain⟨a,rfl,e2⟩:=X;have:=D [x] L ⟨e2,trivial⟩;cases b with
     |nil=>grind
     |cons c b=>
      cases b with
      |nil=>exact⟨c,rfl,this.1⟩
      |cons=>grind
    ·obtain⟨N,rfl,e2⟩:=X;exact⟨N,rfl,D _ L e2⟩
 |tup ps=>
  cases u with
  |vD=>grind [Jx]
  |v=>grind [Jx]
  |tup qs=>
   simp only[Jx]at h;obtain⟨G,D⟩:=Q0z (ρ:=ρ) (w:=w) (aB:=aB) I h O;simp only[HA];generalize hb:G_ rl l ps i=q at G D;obtain⟨b,Y⟩:=q;simp only at G D;exact⟨G,λx L ⟨N,e1,e2⟩=>⟨N,e1,D _ L e2⟩⟩
theorem Uk {rl:Nat->Nat} (D:Built aC rl) {l:List AC}:∀{G:List TS} {I:List TV} {v:List AC},Ko G I=some v->∀{i},Seg l i v->
  (EF rl l G i).2=i+v.length/\(EF rl l G i).1.length=I.length/\∀(n:Nat) (b:TV),(EF rl l G i).1[n]? =some b->∃u,I[n]? =some u/\∀x,TV.wf aB aC u->TVR ρ w u x->TVR ρ w b x
 |[],[],v,h,i,_=>by simp_all [Ko,EF]
 |t::G,u::I,v,h,i,L=>by
  simp only[Ko]at h;split at h
  ·rename_i O M;split at h
   ·rename_i T N;simp at h;subst h;obtain⟨U,V⟩:=Z24 (ρ:=ρ) (w:=w) (aB:=aB) D M L.left;obtain⟨X,Y,p2⟩:=Uk D N L.right;simp only[EF]
    grind
   grind
  grind
 |[],_::_,v,h,_,_=>by grind [Ko]
 |_::_,[],v,h,_,_=>by grind [Ko]
theorem Qzy {rl:Nat->Nat} (I:Built aC rl) {l:List AC}:∀{bs:List (Nat×TypeId×List CS)} {v:List AC},JJ bs aB=some v->∀{i},Seg l i v->
  ∀k b,Ab (E8 rl l bs i) k=some b->k∈bs.map (·.1)/\∃G,Ab aB k=some G/\b.ty=G.ty/\∀xs,(∀a∈G.cells,AC.wf aB aC a)->CL (CC ρ w) G.cells xs->CL (CC ρ w) b.cells xs
 |[],v,h,i,_,k,b,D=>by grind [E8,Ab]
 |(j,t,cs)::bs,v,h,i,N,k,b,D=>by
  simp only[JJ]at h;split at h
  ·rename_i G U;cases V:Nat.beq t G.ty<;>rw[V]at h
   ·grind
   ·simp only[ak]at h;split at h
    ·rename_i v1 X;split at h
     ·rename_i v2 Y;simp at h;subst h;obtain⟨L,O,T⟩:=S6 (ρ:=ρ) (w:=w) (aB:=aB) I X N.left;simp only[E8]at D;generalize hb:DP rl l cs i=q at L T O D;obtain⟨c,i'⟩:=q;simp only at L T O D;subst L;simp only[Ab]at D;cases M:Nat.beq j k<;>rw[M]at D
      ·obtain⟨p1,p2⟩:=Qzy I Y N.right k b D
       grind
      grind [Nat.eq_of_beq_eq_true]
     grind
    grind
  grind
theorem Qpk {l:List AC}:∀{rs:List (Nat×TypeId×List Kd)} {v:List AC},Jr rs aC=some v->∀{i},Seg l i v->
  (GV l rs i).2=i+v.length/\(∀id r,Ab (GV l rs i).1 id=some r->Ab aC id=some r)/\∀id t ks,Ab rs id=some (t,ks)->∃r,Ab (GV l rs i).1 id=some r/\r.ks=ks
 |[],v,h,i,_=>by simp_all [Jr,GV,Ab]
 |(k,t,ks)::rs,v,h,i,T=>by
  simp only[Jr]at h;split at h
  ·rename_i r U;cases hb:(Nat.beq t r.ty&&C6 ks r.ks)<;>rw[hb]at h
   ·grind
   ·simp only[ak]at h;simp only[aj]at hb;split at h
    ·rename_i V I;simp at h;subst h;have G:Seg l i ([.vC ks r.l]++V):=T;obtain⟨L,M,N⟩:=Qpk I (i:=i+1) G.right;simp only[GV,G.left.one,BQ];generalize hB:GV l rs (i+1)=q at L M N;obtain⟨B,Y⟩:=q;simp only at L M N;refine⟨by grind,λid r' D=> ?_,λid t' X D=> ?_⟩
     ·simp only[Ab]at D;cases O:Nat.beq k id<;>rw[O]at D
      ·grind
      ·have:=ah O;subst this;simp at D;subst D;rw[U,ah hb.1,IH hb.2]
     ·simp only[Ab]at D⊢
      grind
    grind
  grind
section names
variable {keys:List Nat} {rs:List (Nat×TypeId×List Kd)} {B':List (Nat×Box)} {R':List (Nat×Row)} {rl:Nat->Nat}
theorem Qea (G:∀k∈keys,∃b,Ab B' k=some b):∀(l:List (Nat×Nat)),Al (λp:Nat×Nat=>AQ keys p.1) l=true->∀a∈LF l,AC.wfP B' a
 |[],_,a,D=>by grind [LF]
 |(k,o)::l,h,a,D=>by
  have I:=Ax.1 h;simp only[LF,av]at D;rcases D with rfl|D
  ·exact G k (Fc.1 (I (k,o) (by simp)))
  ·exact Qea G l (Ax.2 λp L=>I p (by grind)) a D
theorem Zm8 (G:∀k∈keys,∃b,Ab B' k=some b) (I:∀id t ks,Ab rs id=some (t,ks)->∃r,Ab R' id=some r/\r.ks=ks/\rl id=r.l.length) {c:CS} (D:c.okB keys rs=true) (l:List AC) (i:Nat):AC.wf B' R' (Dx rl l c i).1:=by
 cases c<;>simp only[Dx]<;>try trivial
 case rawc=>simp only[L_];split<;>trivial
 case ptr k o=>exact G k (Fc.1 D)
 case bsl k o=>exact G k (Fc.1 D)
 case own id wd=>
  simp only[CS.okB]at D;split at D
  ·rename_i t ks L;obtain⟨r,M,O,N⟩:=I id t ks L;refine⟨r,M,N.symm,?_⟩;show r.ks.length=wd;simp_all
  grind
 case clo f fs cs=>
  simp only[CS.okB,aj]at D;exact⟨Qea G fs D.1,Qea G cs D.2⟩
theorem RN (G:∀k∈keys,∃b,Ab B' k=some b) (I:∀id t ks,Ab rs id=some (t,ks)->∃r,Ab R' id=some r/\r.ks=ks/\rl id=r.l.length):∀{cs:List CS},Al (CS.okB keys rs) cs=true->∀(l:List AC) (i:Nat),∀a∈(DP rl l cs i).1,AC.wf B' R' a
 |[],_,l,i,a,D=>by grind [DP]
 |c::cs,h,l,i,a,D=>by
  have L:=Ax.1 h;simp only[DP,av]at D;rcases D with rfl|D
  ·exact Zm8 G I (L c (by simp)) l i
  ·exact RN G I (Ax.2 λc M=>L c (by grind)) l _ a D
theorem Qya (G:∀k∈keys,∃b,Ab B' k=some b) (I:∀id t ks,Ab rs id=some (t,ks)->∃r,Ab R' id=some r/\r.ks=ks/\rl id=r.l.length):∀{ps:List (Bool×List CS)},Al (λp:Bool×List CS=>Al (CS.okB keys rs) p.2) ps=true->∀(l:List AC) (i:Nat),∀p∈(G_ rl l ps i).1,∀a∈p.2,AC.wf B' R' a
 |[],_,l,i,p,D=>by grind [G_]
 |(g,cs)::ps,h,l,i,p,D=>by
  have L:=Ax.1 h;simp only[G_,av]at D;rcases D with rfl|D
  ·exact RN G I (L (g,cs) (by simp)) l i
  ·exact Qya G I (Ax.2 λc M=>L c (by grind)) l _ p D
theorem Zm2 (D:∀k∈keys,∃b,Ab B' k=some b) (G:∀id t ks,Ab rs id=some (t,ks)->∃r,Ab R' id=some r/\r.ks=ks/\rl id=r.l.length) {t:TS} (I:t.okB keys rs=true) (l:List AC) (i:Nat):TV.wf B' R' (HA rl l t i).1:=by
 cases t with
 |vD=>trivial
 |v g cs=>exact RN D G I l i
 |tup ps=>exact Qya D G I l i
theorem Qgs (G:∀k∈keys,∃b,Ab B' k=some b) (I:∀id t ks,Ab rs id=some (t,ks)->∃r,Ab R' id=some r/\r.ks=ks/\rl id=r.l.length):∀{ts:List TS},Al (TS.okB keys rs) ts=true->∀(l:List AC) (i:Nat),∀v∈(EF rl l ts i).1,TV.wf B' R' v
 |[],_,l,i,v,D=>by grind [EF]
 |t::ts,h,l,i,v,D=>by
  have L:=Ax.1 h;simp only[EF,av]at D;rcases D with rfl|D
  ·exact Zm2 G I (L t (by simp)) l i
  ·exact Qgs G I (Ax.2 λc M=>L c (by grind)) l _ v D
theorem Q7q (D:∀k∈keys,∃b,Ab B' k=some b) (G:∀id t ks,Ab rs id=some (t,ks)->∃r,Ab R' id=some r/\r.ks=ks/\rl id=r.l.length):∀{bs:List (Nat×TypeId×List CS)},Al (λp:Nat×TypeId×List CS=>Al (CS.okB keys rs) p.2.2) bs=true->∀(l:List AC) (i k:Nat) (b:Box),Ab (E8 rl l bs i) k=some b->∀a∈b.cells,AC.wf B' R' a
 |[],_,l,i,k,b,hb=>by grind [E8,Ab]
 |(j,t,cs)::bs,h,l,i,k,b,hb=>by
  have I:=Ax.1 h;simp only[E8,Ab]at hb;cases L:Nat.beq j k<;>rw[L]at hb
  ·exact Q7q D G (Ax.2 λc M=>I c (by grind)) l _ k b hb
  ·simp at hb;subst hb;exact RN D G (I (j,t,cs) (by simp)) l i
end names
theorem Qy7 {rl:Nat->Nat} (l:List AC):∀(bs:List (Nat×TypeId×List CS)) (i k:Nat),k∈bs.map (·.1)->∃b,Ab (E8 rl l bs i) k=some b
 |[],_,k,h=>by grind
 |(j,t,cs)::bs,i,k,h=>by
  simp only[E8,Ab];cases D:Nat.beq j k
  ·have:k∈bs.map (·.1):=by
    simp only[bj,av]at h;exact h.resolve_left λe=>GT D e.symm
   exact Qy7 l bs _ k this
  simp
theorem RelE.rebuild {sk:Sk} {vars:List AC} (h:RelE Z tm aB aC ρ tmps w) (hZ:∀k b,Z.K0 k=some b->DT k=true) (T:sk.okB=true) (U:DI sk ⟨tm,aB,aC⟩=some vars):
  RelE Z (AH sk vars).tmps (AH sk vars).aB (AH sk vars).aC ρ tmps w:=by
 simp only[DI]at U;obtain ⟨a4, U⟩ : Al (λp : Nat × Box => !(DT p.1) || AQ (sk.aB.map (·.1)) p.1) aB = true /\ (match Jr sk.aC aC with
  |some a=>match Ko sk.tmps tm with
   |some b=>match JJ sk.aB aB with
    |some c=>some (a++(b++c))
    |none=>none
   |none=>none
  |none=>none)=some vars:=by grind
 split at U
 ·rename_i M a5;split at U
  ·rename_i Y a6;split at U
   ·rename_i vc a7;simp at U;subst U;have N:=Seg.all (M++(Y++vc));generalize O:M++(Y++vc)=l at N⊢;rw[<-O]at N;have a8:Seg l 0 M:=by rw[<-O];exact(Seg.all _).left
    have a9:Seg l (0+M.length) Y:=by rw[<-O];exact(Seg.all _).right.left
    have b1:Seg l (0+M.length+Y.length) vc:=by rw[<-O];exact(Seg.all _).right.right
    obtain⟨r1,X,r3⟩:=Qpk a5 a8;simp only[AH];generalize hR:GV l sk.aC 0=qr at r1 X r3;obtain⟨R',ir⟩:=qr;simp only at r1 X r3⊢;subst r1;have c0:sk.okB=true:=T;simp only[Sk.okB,aj]at T;obtain⟨⟨⟨ok1,c2⟩,a0⟩,a1⟩:=T
    have c1:∀id r,Ab R' id=some r->DO R' id=r.l.length:=λid r O=>by grind [DO]
    have G:∀k∈sk.aB.map (·.1),∃b,Ab (E8 (DO R') l sk.aB (0+M.length+Y.length)) k=some b:=λk I=>Qy7 l sk.aB _ k I;have a2:∀id t ks,Ab sk.aC id=some (t,ks)->∃r,Ab R' id=some r/\r.ks=ks/\DO R' id=r.l.length:=λid t ks O=>by grind
    let D:Nat->Nat:=λid=>match Ab aC id with
     |some r=>r.l.length
     |none=>0
    have a3:Built aC D:=⟨λid r O=>by grind⟩;have b2:∀id t ks,Ab sk.aC id=some (t,ks)->D id=DO R' id:=λid t ks O=>by grind
    have eC:∀(c:CS) (i:Nat),c.okB (sk.aB.map (·.1)) sk.aC=true->Dx D l c i=Dx (DO R') l c i:=by
     intro c i hc;cases c<;>try rfl
     rename_i id wd;simp only[CS.okB]at hc;split at hc
     ·grind [Dx]
     ·grind
    have b3:∀(cs:List CS) (i:Nat),Al (CS.okB (sk.aB.map (·.1)) sk.aC) cs=true->DP D l cs i=DP (DO R') l cs i:=by
     intro cs;induction cs with
     |nil=>intro i _;rfl
     |cons c cs ih=>grind [Ax,DP]
    have b4:∀(ps:List (Bool×List CS)) (i:Nat),Al (λp:Bool×List CS=>Al (CS.okB (sk.aB.map (·.1)) sk.aC) p.2) ps=true->G_ D l ps i=G_ (DO R') l ps i:=by
     intro ps;induction ps with
     |nil=>intro i _;rfl
     |cons p ps ih=>grind [Ax,G_]
    have eT:∀(t:TS) (i:Nat),t.okB (sk.aB.map (·.1)) sk.aC=true->HA D l t i=HA (DO R') l t i:=by
     intro t i ht;cases t with
     |vD=>rfl
     |v g cs=>simp only[HA];rw[b3 cs i ht]
     |tup ps=>simp only[HA];rw[b4 ps i ht]
    have b5:∀(ts:List TS) (i:Nat),Al (TS.okB (sk.aB.map (·.1)) sk.aC) ts=true->EF D l ts i=EF (DO R') l ts i:=by
     intro ts;induction ts with
     |nil=>intro i _;rfl
     |cons c cs ih=>grind [Ax,EF]
    have b6:∀(bs:List (Nat×TypeId×List CS)) (i:Nat),Al (λp:Nat×TypeId×List CS=>Al (CS.okB (sk.aB.map (·.1)) sk.aC) p.2.2) bs=true->E8 D l bs i=E8 (DO R') l bs i:=by
     intro bs;induction bs with
     |nil=>intro i _;rfl
     |cons p bs ih=>grind [Ax,E8]
    have hT:=Uk (ρ:=ρ) (w:=w) (aB:=aB) a3 a6 a9;rw[b5 sk.tmps _ a0]at hT;obtain⟨t1,t2,t3⟩:=hT;have tw:=Qgs (rl:=DO R') G a2 a0 l (0+M.length);generalize c3:EF (DO R') l sk.tmps (0+M.length)=qt at t1 t2 t3 tw;obtain⟨T',it⟩:=qt;simp only at t1 t2 t3 tw⊢;subst t1;have hB:=Qzy (ρ:=ρ) (w:=w) a3 a7 b1;rw[b6 sk.aB _ a1]at hB;refine⟨by grind [h.tl],λi v V=> ?_,tw,Q7q G a2 a1 l _,λk b I=> ?_,λk k' b b' I b7 he=> ?_,λid r V=>h.ro id r (X id r V),λid id' r r' g V b8=>h.ri id id' r r' g (X id r V) (X id' r' b8),λk b id r I V=> ?_,λb hb=> ?_,h.fr,h.fs,h.i0,h.i1,λk b I=> ?_⟩
    ·obtain⟨u,hu,hx⟩:=t3 i v V;exact hx _ (h.wt u (da hu)) (h.tv i u hu)
    ·obtain⟨_,b0,L,q2,q3⟩:=hB k b I;obtain⟨arr,p1,p2,p3⟩:=h.bx k b0 L;exact⟨arr,by grind,q3 _ (h.wb k b0 L) p2,p3⟩
    ·obtain⟨_,b0,L,_⟩:=hB k b I;obtain⟨_,c4,b9,_⟩:=hB k' b' b7;exact h.bi k k' _ _ L b9 he
    ·obtain⟨_,b0,L,_⟩:=hB k b I;exact h.br k b0 id r L (X id r V)
    ·obtain⟨L,q2,q3⟩:=h.ib b hb
     grind
    ·obtain⟨L,bo,q2⟩:=h.k0 k b I;refine⟨L,G k ?_⟩;have:=Ax.1 a4 (k,bo) (OH q2);simp_all [Fc]
   grind
  grind
 grind
end
open Go.RowKit
section
variable {P:Program} {C:Cfg} {ρ:Env} {w:World} {R:Type} {Z:Base} {tm:List TV} {aB:List (Nat×Box)} {aC:List (Nat×Row)} {tmps:Array Value}
theorem Gs {α:Type}:∀(l:List α) (o:Nat) (D:List α),o+D.length<=l.length->splice l o D=l.take o++D++l.drop (o+D.length)
 |l,o,[],h=>by simp[Qkb]
 |[],o,_::_,h=>by grind
 |x::l,0,v::D,h=>by
  simp only[splice,List.take_zero,bf,az];rw[Gs l 0 D (by grind)];simp
 |x::l,o+1,v::D,h=>by
  simp only[splice];rw[Gs l o (v::D) (by grind)]
  grind
theorem Qvb {t:TypeId} {x:Value} {b off:Nat} {cur:Array Value} {ty:TypeId} (G:szT P t=some x.cells.toList.length) (hb:w.heap[b]? =some (.cells cur ty (0,0)))
  (I:off+x.cells.toList.length<=cur.size) (D:∀v∈x.cells.toList,v.oneCell'=true):
  (storeVar t ⟨b,off,none⟩ x).run P w= .ok () (w.setRow b (splice cur.toList off x.cells.toList).toArray):=by
 have:=run_storeCells_at P b off ty x.cells.toList 0 cur w hb (by omega) D;simp_all [DW,storeVar,Gs]
theorem Z1a {α:Type} (xs D:List α) (i wd sub n:Nat) (G:i<n) (L:xs.length=n*wd) (M:sub+D.length<=wd):
  cut (splice xs (i*wd+sub) D) (i*wd) wd=splice (cut xs (i*wd) wd) sub D:=by
 have hle:i*wd+wd<=n*wd:=by
  calc i*wd+wd=(i+1)*wd:=by grind
   _<=n*wd:=bq _ G
 have I:(cut xs (i*wd) wd).length=wd:=by simp[cut];omega
 rw[Gs _ _ _ (by omega),Gs _ _ _ (by omega)];apply iq;intro j;simp only[cut,ie,fh,gr,d9,aq,co]
 grind
theorem Zin {α:Type} (xs G:List α) (i j wd sub n:Nat) (L:i<n) (D:j≠i) (M:xs.length=n*wd) (N:sub+G.length<=wd):
  cut (splice xs (i*wd+sub) G) (j*wd) wd=cut xs (j*wd) wd:=by
 have hle:i*wd+wd<=n*wd:=by
  calc i*wd+wd=(i+1)*wd:=by grind
   _<=n*wd:=bq _ L
 rw[Gs _ _ _ (by omega)];have I:j*wd+wd<=i*wd\/i*wd+wd<=j*wd:=by
  rcases Nat.lt_or_gt_of_ne D with h|h
  ·left
   calc j*wd+wd=(j+1)*wd:=by grind
    _<=i*wd:=bq _ h
  ·right
   calc i*wd+wd=(i+1)*wd:=by grind
    _<=j*wd:=bq _ h
 apply iq;intro k;simp only[cut,ie,fh,gr,d9,aq]
 grind
theorem Z8s {o:Oper} {a:Act} {f:FuncId} {xs:List Value} {next:Act->World->Prop} {Q:Exit->Act->World->Prop} (D:NM P f) (he:execOp a.eval o=callFunc f xs.toArray)
  (h:Calls P f xs.toArray w λe w'=>∃x,e= .returned x/\next (a.put o.dst x) w'):o.wp P a w next Q:=by
 obtain⟨I,G,L,M⟩:=D;unfold Oper.wp;have:(execOp a.eval o).run P w= .ok (.enter f xs.toArray) w:=by
  rw[he];simp only[callFunc,Sem.run_bind,run_program,dz,G];rw[aa (by grind),aa (by grind)];rfl
 rw[this,Oper.upon_enter];refine h.mono λe w' ⟨x,he,N⟩=> ?_
 grind
theorem L4 {o:Oper} {a:Act} {f:FuncId} {xs:List Value} {next:Act->World->Prop} {Q:Exit->Act->World->Prop} (he:execOp a.eval o=callFunc f xs.toArray)
  (h:CallsX P f xs.toArray w λe w'=>∃x,e= .returned x/\next (a.put o.dst x) w'):o.wp P a w next Q:=by
 rcases h with⟨G,D⟩|⟨x,w',G,y,D,I⟩
 ·grind [Z8s]
 ·simp only[Ending.returned.injEq]at D;subst D;unfold Oper.wp;rw[he,G];exact I
theorem HL {o:Oper} {a:Act} {x:Value} {w':World} {next:Act->World->Prop} {Q:Exit->Act->World->Prop} (he:(execOp a.eval o).run P w= .ok (.value x) w') (h:next (a.put o.dst x) w'):o.wp P a w next Q:=by
 unfold Oper.wp;rw[he];exact h
theorem Q8u {o:Oper} {a:Act} {w':World} {next:Act->World->Prop} {Q:Exit->Act->World->Prop} (he:(execOp a.eval o).run P w= .ok .skip w') (h:next (a.put o.dst undef) w'):o.wp P a w next Q:=by
 unfold Oper.wp;rw[he];exact h
theorem CL.one {l:List AC} {xs:List Value} (h:CL (CC ρ w) l xs):∀v∈xs,v.oneCell'=true:=by
 induction l generalizing xs with
 |nil=>cases xs<;>first|(intro v D;simp at D;done)|exact h.elim
 |cons a l G=>
  cases xs with
  |nil=>simp
  |cons y xs=>
   intro v D;simp only[av]at D;rcases D with rfl|D
   ·exact h.1.one
   ·exact G h.2 v D
theorem CL.oneP {im:Nat->Prop} {l:List AC} {xs:List Value} (h:CL (CP im w) l xs):∀v∈xs,v.oneCell'=true:=by
 induction l generalizing xs with
 |nil=>cases xs<;>first|(intro v D;simp at D;done)|exact h.elim
 |cons a l G=>
  cases xs with
  |nil=>simp
  |cons y xs=>
   intro v D;simp only[av]at D;rcases D with rfl|D
   ·exact h.1.one
   ·exact G h.2 v D
theorem RowC.one {im:Nat->Prop} {ks:List Kd} {l:List (List AC)} {xs:List Value} (h:RowC im w ks l xs) (D:0<ks.length):∀v∈xs,v.oneCell'=true:=by
 intro v L;obtain⟨j,G,rfl⟩:=List.getElem_of_mem L;have I:j/ks.length<l.length:=by rw[fc D];rw[h.1]at G;exact G
 have M:j%ks.length<ks.length:=il _ D;refine(h.2.2 (j/ks.length) _ (ag I)).oneP _ ?_;have:(cut xs (j/ks.length*ks.length) ks.length)[j%ks.length]? =some xs[j]:=by
  simp only[cut,ie,M,fo,fh];rw[show j/ks.length*ks.length+j%ks.length=j from by simp[ff,gf]];exact ag G
 grind
theorem RowC.append {im:Nat->Prop} {ks:List Kd} {l m:List (List AC)} {xs D:List Value} (h:RowC im w ks l xs) (h':RowC im w ks m D):
  RowC im w ks (l++m) (xs++D):=by
 refine⟨by rw[aq,h.1,h'.1,aq,i9],λc G=> ?_,λi c L=> ?_⟩
 ·rcases be.1 G with G|G
  ·exact h.2.1 c G
  ·exact h'.2.1 c G
 ·by_cases I:i<l.length
  ·rw[ij I]at L;have hle:i*ks.length+ks.length<=l.length*ks.length:=by
    calc i*ks.length+ks.length=(i+1)*ks.length:=by grind
     _<=l.length*ks.length:=bq _ I
   have:cut (xs++D) (i*ks.length) ks.length=cut xs (i*ks.length) ks.length:=by
    have:=h.1;simp only[cut];rw[iw (by omega),List.take_append_of_le_length (by grind)]
   rw[this];exact h.2.2 i c L
  ·rw[gw (by omega)]at L;have:cut (xs++D) (i*ks.length) ks.length=cut D ((i-l.length)*ks.length) ks.length:=by
    have M:=h.1;simp only[cut];rw[List.drop_append,km (by simp_all [bq]),bf,M,<-Nat.sub_mul]
   rw[this];exact h'.2.2 (i-l.length) c L
theorem Z0q {t ty e:TypeId} {i:TypeInfo} (N:P.underlying t=some (.slice e)) (O:P.info? e=some i)
  {b off sLen sCap:Nat} {cur:Array Value} {M:TypeId} (hb:w.heap[b]? =some (.cells cur M (0,0))) {a:Addr} {m c:Nat} {news:List Value} (T:news.length=m*i.size) (D:∀j u,news[j]? =some u->w.cell? (a.add j)=some u) (U:∀u∈news,u.oneCell'=true)
  (G:sLen+m<=sCap) (hle:off+sLen*i.size+news.length<=cur.size):
  (Builtin.append_ #[t,t] ty #[.slice (some ⟨b,off,none⟩) sLen sCap, .slice (some a) m c]).run P w= .ok (.slice (some ⟨b,off,none⟩) (sLen+m) sCap) (w.setRow b (splice cur.toList (off+sLen*i.size) news).toArray):=by
 have L:=run_firstCells_some (P:=P) w i.size m a m c news T D;have I:=run_storeCells_at P b (off+sLen*i.size) M news 0 cur w hb (by omega) U;simp only[Nat.add_zero]at I;rw[Gs _ _ _ (by omega)];simp[Builtin.append_,run_underlying N,sizeOf,typeInfo,O,Builtin.lenOf,G,L,Addr.add_lit,I]
theorem Qv3 {t ty e:TypeId} {i:TypeInfo} {z:Value} {size:Nat} (O:P.underlying t=some (.slice e)) (T:P.info? e=some i) (hz:i.zero=some z)
  (G:i.size=size) (X:z.cells.size=size) (Y:0<size)
  {v:Value} {n:Nat} {xs:List Value} (D:E4 w e size v n xs)
  {ad:Option Addr} {m c:Nat} {news:List Value} (hl:news.length=m*size) (L:m=0\/∃a,ad=some a/\∀j u,news[j]? =some u->w.cell? (a.add j)=some u) (h1:∀u∈news,u.oneCell'=true)
  (a0:n+m<=maxLen) (I:(n+m)*i.bytes<=140737488355328):
  ∃M w',(Builtin.append_ #[t,t] ty #[v, .slice ad m c]).run P w= .ok M w'/\E4 w' e size M (n+m) (xs++news)/\w.grownBy w' v.ownBlock/\(M.ownBlock=v.ownBlock\/M.ownBlock=some w.heap.size):=by
 cases ad with
 |some a=>
  have U:∀j u,news[j]? =some u->w.cell? (a.add j)=some u:=by
   rcases L with rfl|⟨a',a3,hh⟩
   ·grind
   ·grind
  rcases D.2 with⟨rfl,rfl⟩|⟨g,o,cap,cur,rfl,e3,e4,e5,e6,e7⟩
  ·have hx:xs=[]:=ju (by simpa using D.1);subst hx;obtain⟨M,w',q1,q2,V,_,q5⟩:=run_append_own_at (P:=P) w 0 t ty e i z size i.bytes O T hz G rfl X Y (.slice none 0 0) 0 [] (World.ownsRow_nil w 0 e size) a m c news hl U h1 a0 I (Nat.zero_le _)
   grind [Zaz]
  ·by_cases hr:n+m<=cap
   ·subst G;have a4:n*i.size+m*i.size<=cap*i.size:=by rw[<-i9];exact bq _ hr
    have q:=Z0q (P:=P) (ty:=ty) (off:=o) (sLen:=n) (sCap:=cap) (c:=c) O T e3 hl U h1 hr (by omega);have a5:=Lz cur.toList (o+n*i.size) news;refine⟨_,_,q,⟨by grind, .inr ⟨g,o,cap,_,rfl,setRow_heap w g cur _ e _ e3,hr,e5,by grind,?_⟩⟩,⟨rfl,rfl,rfl,by simp,λk hk a1=>setRow_other w g k _ (λe=>a1 (by rw[e];rfl))⟩, .inl rfl⟩;have hL:o+n*i.size+news.length<=cur.toList.length:=by rw[hl,fx];omega
    show((splice cur.toList (o+n*i.size) news).toArray.toList.drop o).take ((n+m)*i.size)=xs++news;simp only[List.toList_toArray];rw[Gs _ _ _ hL,df,iw (by grind),List.drop_take,show o+n*i.size-o=n*i.size from by omega,e7,<-df];rw[List.take_append_of_le_length (by grind),jm (by grind)]
   ·obtain ⟨M, w', q1, q2, V⟩ := run_append_arg_grows (P := P) w t ty e i z size i.bytes O T hz G rfl X Y ⟨g, o, none⟩ n cap xs D.1 (λj u hj => by
     have:=Qy D (g:=g) rfl j u hj;rw[Addr.add_lit];exact this) a m c news hl U (by omega) a0 I
    have N := run_append_grow (P := P) w t ty e i z O T hz ⟨g, o, none⟩ n cap xs (by rw [G]; exact D.1) (λj u hj => by
     have:=Qy D (g:=g) rfl j u hj;rw[Addr.add_lit];exact this) a m c news (by grind) U (by omega) (by grind [maxLen]) (growslice_fits (by omega) I)
    rw[q1]at N;simp only[Result.ok.injEq]at N;refine⟨M,w',q1,Zaz q2,⟨V.os,V.tape,V.output,V.size,λk hk _=>V.block k hk (by simp)⟩, .inr ?_⟩;rw[N.1];rfl
 |none=>
  have hm:m=0:=by
   rcases L with h|⟨_,h,_⟩
   ·exact h
   ·grind
  subst hm;have U:news=[]:=ju (by omega);subst U;refine⟨v,w,?_,by grind,⟨rfl,rfl,rfl,cm _,λ_ _ _=>rfl⟩, .inl rfl⟩;rcases D.2 with⟨rfl,rfl⟩|⟨g,o,cap,cur,rfl,_,a2,_⟩
  ·simp[Builtin.append_,run_underlying O,sizeOf,typeInfo,T,Builtin.lenOf,Builtin.firstCells]
  ·simp[Builtin.append_,run_underlying O,sizeOf,typeInfo,T,Builtin.lenOf,Builtin.firstCells,a2,storeCells]
theorem Zb9 (h:RelE Z tm aB aC ρ tmps w) {ks:List Kd} {a:AC} {x:Value} {m:List (List AC)} (D:Is aC ks a=some m) (G:CC ρ w a x):
  ∃I c news,x= .slice I m.length c/\RowC ρ.im w ks m news/\(m.length=0\/∃a,I=some a/\∀j u,news[j]? =some u->w.cell? (a.add j)=some u):=by
 unfold Is at D;split at D
 ·simp at D;subst D;simp only[CC,CP]at G;subst G;exact⟨none,0,[],rfl,⟨by simp,by simp,λi c Y=>by grind⟩, .inl rfl⟩
 ·rename_i L l;cases hb:C6 ks L<;>rw[hb]at D
  ·grind
  ·simp at D;subst D;have:=IH hb;subst this;simp only[CC,CP]at G;obtain⟨I,cap,rfl,hle,hk,hf⟩:=G;rcases hf with rfl|⟨b,o,rfl,_,M⟩
   ·exact⟨I,cap,[],rfl,⟨by simp,by simp,λi c Y=>by grind⟩, .inl rfl⟩
   ·obtain⟨ys,T,U⟩:=Zwy l hk M;refine⟨_,cap,ys,rfl,T, .inr ⟨_,rfl,λj u N=> ?_⟩⟩;rw[Addr.add_lit];exact U j u N
 ·rename_i id w' n;split at D
  ·rename_i r hr;cases hb:C6 ks r.ks<;>rw[hb]at D
   ·grind
   ·simp at D;subst D;have:=IH hb;subst this;obtain⟨T,U,_,xs,V,q4⟩:=h.ro id r hr;obtain⟨O,a0,a1⟩:=G;subst O;rcases V.2 with⟨e1,e2⟩|⟨X,o,cap,cur,e1,e3,e4,e5,e6,e7⟩
    ·grind
    ·refine⟨some ⟨X,o,none⟩,cap,xs,e1,q4, .inr ⟨_,rfl,λj u N=> ?_⟩⟩;have:=Qy V (g:=X) (by rw[e1];rfl) j u N;rw[e1]at this;rw[Addr.add_lit];exact this
  grind
 grind
theorem RelE.growIm {im':Nat->Prop} {w':World} (D:RelE Z tm aB aC ρ tmps w) (G:Below w.heap.size w w') (I:∀b,ρ.im b->im' b) (M:∀b,im' b->ρ.im b\/(w.heap.size<=b/\b<w'.heap.size)):
  RelE Z tm aB aC {ρ with im:=im'} tmps w':=by
 have hold:∀b,b<w.heap.size->w'.heap[b]? =w.heap[b]? :=λb hb=>G.block b hb;have O:∀(a:AC) (x:Value),CC ρ w a x->CC {ρ with im:=im'} w' a x:=λa x V=>CC.mono (ρ:=ρ) (ρ':={ρ with im:=im'}) I (λb hb=>hold b (D.ib b hb).1) a x (AC.agree_refl rfl rfl rfl a) V;refine⟨D.tl,λi v hi=>TVR.mono O v _ (D.tv i v hi),D.wt,D.wb,?_,D.bi,?_,D.ri,D.br,?_,D.fr.trans (Fr.of_below G D.fs),λk N=>dm (D.fs k N) G.size,λb hb=>I b (D.i0 b hb),λb hb=>(M b hb).elim (D.i1 b) λq=> .inr λhf=>absurd (D.fs b hf) (by omega),λk b N=>D.k0 k b N⟩
 ·intro k b N;obtain⟨arr,X,T,U⟩:=D.bx k b N;exact⟨arr,by grind,T.mono λa _ x V=>O a x V,U⟩
 ·intro id r0 L;obtain⟨X,T,q0,ys,U,q4⟩:=D.ro id r0 L;exact⟨X,T,q0,ys,Mx U λg hg=>hold g (D.rwlt L hg).2,q4.mono I (λb hb=>hold b (D.ib b hb).1)⟩
 ·intro b hb;rcases M b hb with Y|⟨a1,a0⟩
  ·obtain⟨X,T,U⟩:=D.ib b Y
   grind
  ·exact⟨a0,λk bo N e=>by have:=D.bxlt N;grind,λid r0 L e=>by have e':(ρ.rv id).ownBlock=some b:=e;have:=(D.rwlt L e').2;omega⟩
end
open Go.RowKit
section
variable {P:Program} {C:Cfg} {ρ:Env} {w:World} {R:Type} {Z:Base} {tm:List TV} {aB:List (Nat×Box)} {aC:List (Nat×Row)} {tmps:Array Value}
def AC.nmP (Kp:Nat->Prop):AC->Prop
 | .ptr k _=>Kp k
 |_=>True
def AC.nm (Kp D:Nat->Prop):AC->Prop
 | .ptr k _=>Kp k
 | .bsl k _=>Kp k
 | .own id _ _=>D id
 | .rptr id _ _=>D id
 | .clo _ fs cs=>(∀a∈fs,AC.nmP Kp a)/\∀a∈cs,AC.nmP Kp a
 |_=>True
def TV.nm (Kp D:Nat->Prop):TV->Prop
 | .v _ cs=>∀a∈cs,AC.nm Kp D a
 | .tup ps=>∀p∈ps,∀a∈p.2,AC.nm Kp D a
 | .vD=>True
theorem AC.nm_of_inK {keys ids:List Nat} {a:AC} (h:AC.inK keys ids a=true):a.nm (· ∈keys) (· ∈ids):=by
 have D:∀l:List AC,Al (AC.inK.inP keys) l=true->∀a∈l,AC.nmP (· ∈keys) a:=by
  intro l G a I;have:=Ax.1 G a I;cases a<;>first|trivial|exact Fc.1 this
 cases a with
 |ptr k o=>exact Fc.1 h
 |bsl k o=>exact Fc.1 h
 |own id w n=>exact Fc.1 h
 |rptr id i s=>exact Fc.1 h
 |clo f fs cs=>
  simp only[AC.inK,aj]at h;exact⟨D fs h.1,D cs h.2⟩
 |_=>trivial
theorem TV.nm_of_inK {keys ids:List Nat} {v:TV} (h:TV.inK keys ids v=true):v.nm (· ∈keys) (· ∈ids):=by
 cases v with
 |vD=>trivial
 |v g cs=>exact λa D=>AC.nm_of_inK (Ax.1 h a D)
 |tup ps=>exact λp G a D=>AC.nm_of_inK (Ax.1 (Ax.1 h p G) a D)
theorem AC.nm_of_wf {a:AC} (h:AC.wf aB aC a):a.nm (λk=>∃b,Ab aB k=some b) (λi=>∃r,Ab aC i=some r):=by
 have G:∀l:List AC,(∀a∈l,AC.wfP aB a)->∀a∈l,AC.nmP (λk=>∃b,Ab aB k=some b) a:=by
  intro l I a L;have:=I a L;cases a<;>first|trivial|exact this
 cases a with
 |ptr k o=>exact h
 |bsl k o=>exact h
 |own id w n=>obtain⟨r,D,_⟩:=h;exact⟨r,D⟩
 |rptr id i s=>obtain⟨r,D,_⟩:=h;exact⟨r,D⟩
 |clo f fs cs=>exact⟨G fs h.1,G cs h.2⟩
 |_=>trivial
theorem TV.nm_of_wf {v:TV} (h:TV.wf aB aC v):v.nm (λk=>∃b,Ab aB k=some b) (λi=>∃r,Ab aC i=some r):=by
 cases v with
 |vD=>trivial
 |v g cs=>exact λa D=>AC.nm_of_wf (h a D)
 |tup ps=>exact λp G a D=>AC.nm_of_wf (h p G a D)
theorem Qlk {D G:Env} {Kp:Nat->Prop} {L:Nat->Nat} (hb:∀k,Kp k->G.bx (L k)=D.bx k) (O:G.im=D.im):∀(l:List AC) (xs:List Value),(∀a∈l,AC.nmP Kp a)->CLc D w l xs->CLc G w (AC.ren.renP L l) xs
 |[],[],_,_=>trivial
 |a::l,x::xs,M,h=>by
  have T:=Qlk hb O l xs (λb hb=>M b (by grind)) h.2;have N:=h.1;have I:=M a (by simp);cases a<;>simp only[AC.ren.renP]<;>refine⟨?_,T⟩<;>first
   |(simp only[CCc]at N⊢;rw[hb _ I];exact N)
   |grind [CCc]
 |[],_::_,_,h=>h.elim
 |_::_,[],_,h=>h.elim
theorem Qmp {G I:Env} {Kp M:Nat->Prop} {N ri:Nat->Nat} (hb:∀k,Kp k->I.bx (N k)=G.bx k) (L:∀i,M i->I.rv (ri i)=G.rv i/\I.wd (ri i)=G.wd i) (O:I.im=G.im)
  {a:AC} {x:Value} (D:a.nm Kp M) (h:CC G w a x):CC I w (a.ren N ri) x:=by
 cases a with
 |ptr k o=>simp only[AC.ren,CC]at*;rw[hb k D];exact h
 |bsl k o=>simp only[AC.ren,CC]at*;rw[hb k D];exact h
 |own id w n=>simp only[AC.ren,CC]at*;rw[(L id D).1,(L id D).2];exact h
 |rptr id i s=>simp only[AC.ren,CC]at*;rw[(L id D).1,(L id D).2];exact h
 |vptr cs s=>grind [AC.ren,CC]
 |clo f fs cs=>
  obtain⟨xs,T,U,V,X⟩:=h;exact⟨xs,T,U,Qlk hb O fs _ D.1 V,Qlk hb O cs _ D.2 X⟩
 |vD=>exact h
 |int=>grind [AC.ren,CC]
 |bool=>grind [AC.ren,CC]
 |raw=>grind [AC.ren,CC]
 |nilSl=>grind [AC.ren,CC]
 |vC=>grind [AC.ren,CC]
theorem Qk {D G:Env} {Kp Ip:Nat->Prop} {I ri:Nat->Nat} (hb:∀k,Kp k->G.bx (I k)=D.bx k) (L:∀i,Ip i->G.rv (ri i)=D.rv i/\G.wd (ri i)=D.wd i) (M:G.im=D.im):
  ∀{l:List AC} {xs:List Value},(∀a∈l,a.nm Kp Ip)->CL (CC D w) l xs->CL (CC G w) (l.map (AC.ren I ri)) xs
 |[],[],_,h=>h
 |a::l,y::xs,N,h=>⟨Qmp hb L M (N a (by simp)) h.1,Qk hb L M (λb hb=>N b (by grind)) h.2⟩
 |[],_::_,_,h=>h.elim
 |_::_,[],_,h=>h.elim
theorem Q8n {G I:Env} {Kp Ip:Nat->Prop} {X ri:Nat->Nat} (hb:∀k,Kp k->I.bx (X k)=G.bx k) (M:∀i,Ip i->I.rv (ri i)=G.rv i/\I.wd (ri i)=G.wd i) (N:I.im=G.im)
  {v:TV} {x:Value} (O:v.nm Kp Ip) (h:TVR G w v x):TVR I w (v.ren X ri) x:=by
 cases v with
 |vD=>trivial
 |v b cs=>
  cases b
  ·obtain⟨a,rfl,ha⟩:=h;exact⟨_,rfl,Qmp hb M N (O a (by simp)) ha⟩
  ·obtain⟨T,rfl,D⟩:=h;exact⟨T,rfl,Qk hb M N O D⟩
 |tup ps=>
  obtain⟨T,rfl,D⟩:=h;refine⟨T,rfl,?_⟩;generalize T.toList=l at D;induction ps generalizing l with
  |nil=>cases l<;>first|exact D|exact D.elim
  |cons p ps ih=>
   cases l with
   |nil=>exact D.elim
   |cons y l=>
    obtain⟨b,cs⟩:=p;refine⟨?_,ih (λq hq=>O q (by grind)) l D.2⟩;have Y:=D.1;have L:=O (b,cs) (by simp);cases b
    ·obtain⟨a,U,V⟩:=Y;subst U;exact⟨_,rfl,Qmp hb M N (L a (by simp)) V⟩
    ·obtain⟨zs,U,V⟩:=Y;exact⟨zs,U,Qk hb M N L V⟩
theorem Sl {b1 b2:List (Nat×Box)} {O T:List (Nat×Row)} {Kp Ip:Nat->Prop} {I ri:Nat->Nat} (hb:∀k,Kp k->(∃b,Ab b1 k=some b)->∃b,Ab b2 (I k)=some b)
  (U:∀i r,Ip i->Ab O i=some r->∃r',Ab T (ri i)=some r'/\r'.n=r.n/\r'.w=r.w) {a:AC} (D:a.nm Kp Ip) (h:AC.wf b1 O a):AC.wf b2 T (a.ren I ri):=by
 have V:∀l:List AC,(∀a∈l,AC.nmP Kp a)->(∀a∈l,AC.wfP b1 a)->∀a∈AC.ren.renP I l,AC.wfP b2 a:=by
  intro l;induction l with
  |nil=>grind [AC.ren.renP]
  |cons c l Y=>
   intro D X a G;have L:=Y (λb hb=>D b (by grind)) (λb hb=>X b (by grind));have h1:=D c (by simp);have h2:=X c (by simp);cases c<;>simp only[AC.ren.renP,av]at G<;>rcases G with rfl|G<;>first
    |exact L a G
    |exact hb _ h1 h2
    |trivial
 cases a with
 |ptr k o=>exact hb k D h
 |bsl k o=>exact hb k D h
 |own id w n=>obtain⟨r,M,q2,q3⟩:=h;obtain⟨r',N,p2,p3⟩:=U id r D M;exact⟨r',N,by omega,by omega⟩
 |rptr id i s=>obtain⟨r,M,q2⟩:=h;obtain⟨r',N,p2,p3⟩:=U id r D M;exact⟨r',N,by omega⟩
 |vptr=>exact h
 |clo f fs cs=>exact⟨V fs D.1 h.1,V cs D.2 h.2⟩
 |_=>trivial
theorem Qxp {b1 b2:List (Nat×Box)} {I L:List (Nat×Row)} {Kp Ip:Nat->Prop} {M ri:Nat->Nat} (hb:∀k,Kp k->(∃b,Ab b1 k=some b)->∃b,Ab b2 (M k)=some b)
  (N:∀i r,Ip i->Ab I i=some r->∃r',Ab L (ri i)=some r'/\r'.n=r.n/\r'.w=r.w) {v:TV} (O:v.nm Kp Ip) (h:TV.wf b1 I v):TV.wf b2 L (v.ren M ri):=by
 cases v with
 |vD=>trivial
 |v g cs=>
  intro a D;simp only[bc]at D;obtain⟨c,G,rfl⟩:=D;exact Sl hb N (O c G) (h c G)
 |tup ps=>
  intro p T a D;simp only[bc]at T;obtain⟨q,U,rfl⟩:=T;simp only[bc]at D;obtain⟨c,G,rfl⟩:=D;exact Sl hb N (O q U c G) (h q U c G)
theorem IB:∀{l:List Nat},Cm l=true↔l.Nodup
 |[]=>by simp[Cm]
 |k::l=>by
  simp only[Cm,j0,<-IB (l:=l)]
  grind [Fc]
theorem Dc {l:List Nat} {n:Nat} (h:n∈l):pos l n<l.length/\nth 0 l (pos l n)=n:=by
 induction l with
 |nil=>grind
 |cons m l D=>
  simp only[pos];cases hb:Nat.beq m n
  ·have G:=GT hb;have:n∈l:=by
    rcases av.1 h with e|e
    ·omega
    ·exact e
   obtain⟨L,I⟩:=D this;exact⟨by grind,by simp only[ay];exact I⟩
  grind [nth,Nat.eq_of_beq_eq_true]
theorem Zhx {l:List Nat} {m n:Nat} (D:m∈l) (G:n∈l) (h:pos l m=pos l n):m=n:=by
 rw[<-(Dc D).2,<-(Dc G).2,h]
theorem Og {l:List Nat} (I:l.Nodup) {i:Nat} (L:i<l.length):pos l (nth 0 l i)=i:=by
 induction l generalizing i with
 |nil=>grind
 |cons m l M=>
  cases i with
  |zero=>simp[nth,pos]
  |succ i=>
   have D:i<l.length:=by simpa using L
   have G:nth 0 l i∈l:=by
    rw[B8,List.getD,ag D];exact ca D
   rw[j0]at I;simp only[nth,pos];rw[J6 (by grind)]
   grind
theorem Gn {l:List Nat} {i:Nat} (D:i<l.length):nth 0 l i∈l:=by grind [B8]
theorem Ke {I ri:Nat->Nat}:∀{keys:List Nat} {b:Nat} {D:List (Nat×Box)},C_ aB I ri b keys=some D->
  (∀i,i<keys.length->∃x,Ab aB (nth 0 keys i)=some x/\Ab D (b+i)=some ⟨x.ty,x.cells.map (AC.ren I ri)⟩)/\∀c x,Ab D c=some x->∃i,i<keys.length/\c=b+i
 |[],b,D,h=>by grind [C_,Ab]
 |k::keys,b,D,h=>by
  simp only[C_]at h;split at h
  ·rename_i x M;split at h
   ·rename_i l N;simp at h;subst h;obtain⟨O,T⟩:=Ke N;refine⟨λi V=> ?_,λc y G=> ?_⟩
    ·cases i with
     |zero=>exact⟨x,M,by simp[Ab]⟩
     |succ i=>
      obtain⟨y,L,U⟩:=O i (by grind);refine⟨y,L,?_⟩
      grind [Ab,J6]
    ·simp only[Ab]at G;cases hb:Nat.beq b c<;>rw[hb]at G
     ·obtain⟨i,L,U⟩:=T c y G;exact⟨i+1,by grind,by omega⟩
     simp_all
   grind
  grind
theorem US:∀{keys:List Nat} {b:Nat} {D:List (Nat×Row)},Ft aC b keys=some D->
  (∀i,i<keys.length->∃x,Ab aC (nth 0 keys i)=some x/\Ab D (b+i)=some x)/\∀c x,Ab D c=some x->∃i,i<keys.length/\c=b+i
 |[],b,D,h=>by grind [Ft,Ab]
 |k::keys,b,D,h=>by
  simp only[Ft]at h;split at h
  ·rename_i x L;split at h
   ·rename_i l M;simp at h;subst h;obtain⟨N,O⟩:=US M;refine⟨λi U=> ?_,λc y G=> ?_⟩
    ·cases i with
     |zero=>exact⟨x,L,by simp[Ab]⟩
     |succ i=>
      obtain⟨y,I,T⟩:=N i (by grind);refine⟨y,I,?_⟩
      grind [Ab,J6]
    ·simp only[Ab]at G;cases hb:Nat.beq b c<;>rw[hb]at G
     ·obtain⟨i,I,T⟩:=O c y G;exact⟨i+1,by grind,by omega⟩
     simp_all
   grind
  grind
def Iu {α β:Type} (D:Nat->Nat) (g:α->β):List (Nat×α)->List (Nat×β)->List (Nat×β)
 |[],l=>l
 |(k,b)::m,l=>Iu D g m (ins l (D k) (g b))
theorem Xe (D ri:Nat->Nat):∀(m:List (Nat×Box)) (l:List (Nat×Box)),Jv D ri m l=Iu D (λb=>⟨b.ty,b.cells.map (AC.ren D ri)⟩) m l
 |[],_=>rfl
 |(_,_)::m,_=>by simp only[Jv,Iu];exact Xe D ri m _
theorem Qp8 (ri:Nat->Nat):∀(m:List (Nat×Row)) (l:List (Nat×Row)),HZ ri m l=Iu ri (λb=>b) m l
 |[],_=>rfl
 |(_,_)::m,_=>by simp only[HZ,Iu];exact Qp8 ri m _
theorem SP {α β:Type} {rk:Nat->Nat} {g:α->β}:∀{m:List (Nat×α)} {l:List (Nat×β)},(m.map (·.1)).Nodup->(∀k∈m.map (·.1),∀j∈m.map (·.1),rk k=rk j->k=j)->(∀k∈m.map (·.1),Ab l (rk k)=none)->
  (∀k b,Ab m k=some b->Ab (Iu rk g m l) (rk k)=some (g b))/\(∀n,(∀k∈m.map (·.1),n≠rk k)->Ab (Iu rk g m l) n=Ab l n)
 |[],l,_,_,_=>⟨λk b h=>by grind [Ab],λn _=>rfl⟩
 |(j,c)::m,l,D,I,M=>by
  simp only[bj,j0]at D;have L:∀k∈m.map (·.1),rk k≠rk j:=λk G e=>D.1 (by grind);obtain⟨N,O⟩:=SP (rk:=rk) (g:=g) (m:=m) (l:=ins l (rk j) (g c)) D.2 (λk G q T=>I k (by grind) q (by grind)) (λk G=>by grind [DZ])
  grind [Ab,Eu,Nat.eq_of_beq_eq_true,Iu,DZ]
theorem KI {α:Type}:∀(ks:List Nat) (l:List (Nat×α)) (n:Nat),Ab (Db ks l) n=if n∈ks then none else Ab l n
 |[],l,n=>by rfl
 |k::ks,l,n=>by
  simp only[Db];rw[KI ks];by_cases h:n=k
  ·simp_all [QM]
  grind [Kh]
theorem KC {α:Type}:∀{l:List (Nat×α)} {k:Nat},k∈l.map (·.1)↔∃b,Ab l k=some b
 |[],k=>by simp[Ab]
 |(j,c)::l,k=>by
  simp only[bj,av,Ab];cases hb:Nat.beq j k
  ·simp only[ay,<-KC (l:=l)]
   grind [GT]
  simp_all
theorem Kj {α:Type} {names:List Nat}:∀{l:List (Nat×α)} {k:Nat},k∈By names l↔k∈l.map (·.1)/\ ¬(base<=k/\k-base<names.length)
 |[],k=>by simp[By]
 |(j,c)::l,k=>by
  simp only[By,bj,av];cases hb:(Nat.ble base j&&Nat.blt (j-base) names.length)
  ·have D: ¬(base<=j/\j-base<names.length):=by
    rintro⟨G,I⟩;have e1:=gh G;have e2:Nat.blt (j-base) names.length=true:=gh I;rw[e1,e2]at hb;cases hb
   simp only[ay,av,Kj (l:=l)];constructor
   ·grind
   grind
  ·simp only[aj]at hb;have D:base<=j/\j-base<names.length:=⟨ba hb.1,ba hb.2⟩;simp only[ak,Kj (l:=l)];constructor
   ·grind
   grind
theorem Mm {names fresh:List Nat} {d k:Nat} (h:base<=k/\k-base<names.length):BH names fresh d k=nth 0 names (k-base):=by
 unfold BH;rw[gh h.1,show Nat.blt (k-base) names.length=true from gh h.2];rfl
theorem Z2a {names fresh:List Nat} {d k:Nat} (h: ¬(base<=k/\k-base<names.length)):BH names fresh d k=100000+100*d+pos fresh k:=by
 unfold BH;have:(Nat.ble base k&&Nat.blt (k-base) names.length)=false:=by
  apply Bool.eq_false_iff.2;intro hb;simp only[aj]at hb;exact h ⟨ba hb.1,ba hb.2⟩
 grind
theorem Q3s {α β:Type} {names:List Nat} {d:Nat} {D:List (Nat×α)} {l:List (Nat×β)} (L:names.Nodup) (M:∀k∈names,∃b,Ab l k=some b)
  (hf:∀k∈By names D,Ab l (BH names (By names D) d k)=none):
  ∀k∈D.map (·.1),∀j∈D.map (·.1),BH names (By names D) d k=BH names (By names D) d j->k=j:=by
 intro k N j O he;by_cases G:base<=k/\k-base<names.length<;>by_cases I:base<=j/\j-base<names.length
 ·rw[Mm G,Mm I]at he;have:=iz (pos names) he
  grind [Og]
 ·grind [Kj,Mm,Gn]
 ·grind [Kj,Mm,Gn]
 grind [Z2a,Zhx,Kj]
noncomputable def JZ {α:Type} (m:List (Nat×α)) (bk:Nat->Nat) (n:Nat):Option Nat:= @dite _ (∃k∈m.map (·.1),bk k=n) (Classical.propDecidable _) (λh=>some (Classical.choose h)) (λ_=>none)
theorem Qbj {α:Type} {m:List (Nat×α)} {bk:Nat->Nat} (D:∀k∈m.map (·.1),∀j∈m.map (·.1),bk k=bk j->k=j) {k:Nat} (G:k∈m.map (·.1)):JZ m bk (bk k)=some k:=by
 unfold JZ;have h:∃j∈m.map (·.1),bk j=bk k:=⟨k,G,rfl⟩
 grind
theorem Qab {α:Type} {m:List (Nat×α)} {bk:Nat->Nat} {n:Nat} (h:∀k∈m.map (·.1),n≠bk k):JZ m bk n=none:=by
 unfold JZ
 grind
theorem Q90:∀(ids:List Nat) {v:TV} {x:Value},TVR ρ w v x->TVR ρ w (HE ids v) x
 |[],_,_,h=>h
 |_::l,_,_,h=>Q90 l (TV.kill_TVR h)
theorem Q8d:∀(ids:List Nat) {v:TV},TV.wf aB aC v->TV.wf aB aC (HE ids v)
 |[],_,h=>h
 |_::l,_,h=>Q8d l (TV.kill_wf h)
theorem Qkj {id j:Nat} {a:AC} (h:AC.free j a):AC.free j (a.kill id):=by
 cases a with
 |own i w n=>simp only[AC.kill];cases Nat.beq i id<;>first|exact h|trivial
 |rptr i n s=>simp only[AC.kill];cases Nat.beq i id<;>first|exact h|trivial
 |_=>trivial
theorem Z9s {id j:Nat} {v:TV} (h:TV.free j v):TV.free j (v.kill id):=by
 cases v with
 |v g cs=>
  intro a D;simp only[bc]at D;obtain⟨b,hb,rfl⟩:=D;exact Qkj (h b hb)
 |tup ps=>
  intro p G a D;simp only[bc]at G;obtain⟨q,I,rfl⟩:=G;simp only[bc]at D;obtain⟨b,hb,rfl⟩:=D;exact Qkj (h q I b hb)
 |vD=>trivial
theorem Qua {j:Nat}:∀(ids:List Nat) {v:TV},TV.free j v->TV.free j (HE ids v)
 |[],_,h=>h
 |_::l,_,h=>Qua l (Z9s h)
theorem Q54:∀(ids:List Nat) (v:TV),∀id∈ids,TV.free id (HE ids v)
 |[],_,id,h=>by grind
 |i::l,v,id,h=>by
  simp only[av]at h;by_cases e:id∈l
  ·exact Q54 l (v.kill i) id e
  ·have:id=i:=h.resolve_right e;subst this;exact Qua l (TV.kill_free id v)
theorem Q2o:∀(ids:List Nat) (b:Box),(C8 ids b).ty=b.ty
 |[],_=>rfl
 |_::l,b=>by rw[C8,Q2o l];rfl
theorem Q57:∀(ids:List Nat) {b:Box} {xs:List Value},CL (CC ρ w) b.cells xs->CL (CC ρ w) (C8 ids b).cells xs
 |[],_,_,h=>h
 |i::l,b,_,h=>Q57 l (b:=b.kill i) h.kill
theorem Q5l:∀(ids:List Nat) {b:Box},(∀a∈b.cells,AC.wf aB aC a)->∀a∈(C8 ids b).cells,AC.wf aB aC a
 |[],_,h=>h
 |i::l,b,h=>Q5l l (b:=b.kill i) (λa D=>by grind [Box.kill,AC.kill_wf])
theorem Qww {j:Nat}:∀(ids:List Nat) {b:Box},(∀a∈b.cells,AC.free j a)->∀a∈(C8 ids b).cells,AC.free j a
 |[],_,h=>h
 |i::l,b,h=>Qww l (b:=b.kill i) (λa D=>by grind [Box.kill,Qkj])
theorem Qzl:∀(ids:List Nat) (b:Box),∀id∈ids,∀a∈(C8 ids b).cells,AC.free id a
 |[],_,id,h=>by grind
 |i::l,b,id,h=>by
  simp only[av]at h;by_cases e:id∈l
  ·exact Qzl l (b.kill i) id e
  ·have:id=i:=h.resolve_right e;subst this;exact Qww l (b:=b.kill id) (λa D=>by grind [Box.kill,AC.kill_free])
end
open Go.RowKit
section
variable {P:Program} {C:Cfg} {ρ:Env} {w:World} {R:Type} {Z:Base} {tm:List TV} {aB:List (Nat×Box)} {aC:List (Nat×Row)} {tmps:Array Value}
theorem Qzu {k:Nat} {b:Box} (h:Ab aB k=some b):Ey aB k=b.cells:=by grind [Ey]
def Jh (ρ:Env) (keys ids:List Nat):Env:=⟨λc=>ρ.bx (nth 0 keys (c-base)),λc=>ρ.rv (nth 0 ids (c-base)),λc=>ρ.wd (nth 0 ids (c-base)),ρ.im⟩
def Ij (w:World) (ρ:Env) (keys ids:List Nat):Nat->Prop:=λb=>b<w.heap.size/\(∀k∈keys,ρ.bx k≠b)/\∀id∈ids,(ρ.rv id).ownBlock≠some b
theorem Znd (D:RelE Z tm aB aC ρ tmps w) {keys ids:List Nat} {O:List (Nat×Box)} {T:List (Nat×Row)}
  (G:C_ aB (λk=>base+pos keys k) (λi=>base+pos ids i) base keys=some O) (I:Ft aC base ids=some T):Gt (Ij w ρ keys ids) w:=by
 obtain⟨b1,b2⟩:=Ke G;obtain⟨U,V⟩:=US I;refine Z.gt.mono λg cs _ L=>⟨⟨D.fs g L,λk M e=> ?_,λid N e=> ?_⟩,D.fr.block g L⟩
 ·obtain⟨x,q,_⟩:=b1 (pos keys k) (Dc M).1;rw[(Dc M).2]at q;obtain⟨_,_,_,X⟩:=D.bx k x q
  grind
 ·obtain⟨x,q,_⟩:=U (pos ids id) (Dc N).1;rw[(Dc N).2]at q;exact(D.ro id x q).2.2.1 g e L
theorem U3 (O:RelE Z tm aB aC ρ tmps w) {args:List TV} {xs:List Value} (h1:xs.length=args.length)
  (h2:∀(i:Nat) (a:TV) (x:Value),args[i]? =some a->xs[i]? =some x->TVR ρ w a x) (a7:∀v∈args,TV.wf aB aC v) {keys ids:List Nat} (b3:keys.Nodup) (b0:ids.Nodup)
  (a0:∀v∈args,TV.inK keys ids v=true) (V:∀k∈keys,Al (AC.inK keys ids) (Ey aB k)=true) {mb:List (Nat×Box)} {mr:List (Nat×Row)}
  (a1:C_ aB (λk=>base+pos keys k) (λi=>base+pos ids i) base keys=some mb) (a2:Ft aC base ids=some mr):
  RelE (Ed (Ij w ρ keys ids) w (Jh ρ keys ids) mb (Znd O a1 a2)) (args.map (TV.ren (λk=>base+pos keys k) (λi=>base+pos ids i))) mb mr (Jh ρ keys ids) xs.toArray w:=by
 obtain⟨b1,b2⟩:=Ke a1;obtain⟨r1,r2⟩:=US a2;have eb:∀k,k∈keys->(Jh ρ keys ids).bx (base+pos keys k)=ρ.bx k:=λk L=>by
  show ρ.bx (nth 0 keys (base+pos keys k-base))=_;simp_all [Dc]
 have er:∀i,i∈ids->(Jh ρ keys ids).rv (base+pos ids i)=ρ.rv i/\(Jh ρ keys ids).wd (base+pos ids i)=ρ.wd i:=λi D=>by
  constructor
  ·show ρ.rv (nth 0 ids (base+pos ids i-base))=_;simp_all [Dc]
  ·show ρ.wd (nth 0 ids (base+pos ids i-base))=_;simp_all [Dc]
 have wb:∀k,k∈keys->(∃b,Ab aB k=some b)->∃b,Ab mb (base+pos keys k)=some b:=λk L _=>by
  obtain⟨x,_,q⟩:=b1 (pos keys k) (Dc L).1
  grind
 have wr:∀i r,i∈ids->Ab aC i=some r->∃r',Ab mr (base+pos ids i)=some r'/\r'.n=r.n/\r'.w=r.w:=λi r D X=>by
  obtain⟨x,G,q⟩:=r1 (pos ids i) (Dc D).1;simp_all [Dc]
 have Y:∀c x,Ab mb c=some x->∃i M,i<keys.length/\c=base+i/\Ab aB (nth 0 keys i)=some M/\x=⟨M.ty,M.cells.map (AC.ren (λk=>base+pos keys k) (λi=>base+pos ids i))⟩:=by
  intro c x T;obtain⟨i,D,rfl⟩:=b2 c x T;obtain⟨M,G,N⟩:=b1 i D;rw[T]at N;simp at N;exact⟨i,M,D,rfl,G,N⟩
 have lr:∀c x,Ab mr c=some x->∃i,i<ids.length/\c=base+i/\Ab aC (nth 0 ids i)=some x:=by
  intro c x T;obtain⟨i,D,rfl⟩:=r2 c x T;obtain⟨M,G,N⟩:=r1 i D;rw[T]at N;simp at N;subst N;exact⟨i,D,rfl,G⟩
 have xb:∀i,(Jh ρ keys ids).bx (base+i)=ρ.bx (nth 0 keys i):=λi=>by
  show ρ.bx (nth 0 keys (base+i-base))=_;simp
 have xr:∀i,(Jh ρ keys ids).rv (base+i)=ρ.rv (nth 0 ids i):=λi=>by
  show ρ.rv (nth 0 ids (base+i-base))=_;simp
 have xw:∀i,(Jh ρ keys ids).wd (base+i)=ρ.wd (nth 0 ids i):=λi=>by
  show ρ.wd (nth 0 ids (base+i-base))=_;simp
 have a3:∀i j,i<keys.length->j<keys.length->nth 0 keys i=nth 0 keys j->i=j:=λi j D hj e=>by grind [Og]
 have a4:∀i j,i<ids.length->j<ids.length->nth 0 ids i=nth 0 ids j->i=j:=λi j D hj e=>by grind [Og]
 refine⟨by grind,λi v D=> ?_,λv hv=> ?_,λk b L a U=> ?_,λk b L=> ?_,λk k' b b' L a8 he=> ?_,λid r X=> ?_,λid id' r r' g X a9 hg a5=> ?_,λk b id r L X=> ?_,λb hb=>⟨(O.ib b hb).1,λk bo L=> ?_,λid r X=> ?_⟩,Fr.refl _ _,λk h=>h.1,λb h=>h,λb h=> .inl h,λk b L=> ?_⟩
 ·simp only[du,bz]at D;obtain⟨a,U,rfl⟩:=D;have a6:i<xs.length:=by rw[h1];exact(f7.1 U).1
  have e:xs.toArray.getD i undef=xs[i]:=by simp[Array.getD,a6]
  rw[e];exact Q8n (Kp:=(· ∈keys)) (Ip:=(· ∈ids)) eb er rfl (TV.nm_of_inK (a0 a (da U))) (h2 i a _ U (ag a6))
 ·simp only[bc]at hv;obtain⟨a,U,rfl⟩:=hv;exact Qxp (Kp:=(· ∈keys)) (Ip:=(· ∈ids)) wb wr (TV.nm_of_inK (a0 a U)) (a7 a U)
 ·obtain⟨i,M,D,rfl,G,rfl⟩:=Y k b L;simp only[bc]at U;obtain⟨c,T,rfl⟩:=U;have I:=V _ (Gn D);rw[Qzu G]at I;exact Sl (Kp:=(· ∈keys)) (Ip:=(· ∈ids)) wb wr (AC.nm_of_inK (Ax.1 I c T)) (O.wb _ M G c T)
 ·obtain⟨i,M,D,rfl,G,rfl⟩:=Y k b L;obtain⟨arr,p1,p2,p3⟩:=O.bx _ M G;have I:=V _ (Gn D);rw[Qzu G]at I;refine⟨arr,by grind,Qk (Kp:=(· ∈keys)) (Ip:=(· ∈ids)) eb er rfl (λc T=>AC.nm_of_inK (Ax.1 I c T)) p2,?_⟩;rw[xb];exact λhf=>hf.2.1 _ (Gn D) rfl
 ·obtain⟨i,M,D,rfl,G,_⟩:=Y k b L;obtain⟨j,y0,hj,rfl,N,_⟩:=Y k' b' a8;rw[xb,xb]at he;rw[a3 i j D hj (O.bi _ _ _ _ G N he)]
 ·obtain⟨i,D,rfl,G⟩:=lr id r X;obtain⟨p1,p2,p0,ys,p3,p4⟩:=O.ro _ r G;exact⟨p1,by grind,λg hg hf=>hf.2.2 _ (Gn D) (by grind),ys,by grind,p4⟩
 ·obtain⟨i,D,rfl,G⟩:=lr id r X;obtain⟨j,hj,rfl,N⟩:=lr id' r' a9;rw[xr]at hg a5;rw[a4 i j D hj (O.ri _ _ _ _ g G N hg a5)]
 ·obtain⟨i,M,D,rfl,G,_⟩:=Y k b L;obtain⟨j,hj,rfl,N⟩:=lr id r X;rw[xr,xb];exact O.br _ _ _ _ G N
 ·obtain⟨i,M,D,rfl,G,_⟩:=Y k bo L;rw[xb];exact(O.ib b hb).2.1 _ _ G
 ·obtain⟨i,D,rfl,G⟩:=lr id r X;rw[xr];exact(O.ib b hb).2.2 _ _ G
 grind [Ed,Option.map_eq_some_iff]
noncomputable def Dw (ρ G:Env) (I:List (Nat×Box)) (D:List (Nat×Row)) (bk bi:Nat->Nat):Env:=
 ⟨λn=>match JZ I bk n with|some k=>G.bx k|none=>ρ.bx n,λn=>match JZ D bi n with|some k=>G.rv k|none=>ρ.rv n,λn=>match JZ D bi n with|some k=>G.wd k|none=>ρ.wd n,G.im⟩
theorem Sg (X:RelE Z tm aB aC ρ tmps w) {keys ids:List Nat} (e6:keys.Nodup) (d3:ids.Nodup) {mb D:List (Nat×Box)} {mr I:List (Nat×Row)}
  (e7:C_ aB (λk=>base+pos keys k) (λi=>base+pos ids i) base keys=some mb) (e8:Ft aC base ids=some mr) {v:TV} {x:Value} {ρ2:Env} {w':World}
  {hG:Gt (Ij w ρ keys ids) w} (N:RelE (Ed (Ij w ρ keys ids) w (Jh ρ keys ids) mb hG) [v] D I ρ2 #[x] w') {d:Nat}
  (a5:(D.map (·.1)).Nodup) (c4:(I.map (·.1)).Nodup) (e9:∀k∈By keys D,Ab aB (BH keys (By keys D) d k)=none) (f0:∀k∈By ids I,Ab aC (BH ids (By ids I) d k)=none):
  let bk:=BH keys (By keys D) d
  let bi:=BH ids (By ids I) d
  RelE Z (tm.map (HE ids)) (Jv bk bi D ((Db keys aB).map λp=>(p.1,C8 ids p.2))) (HZ bi I (Db ids aC)) (Dw ρ ρ2 D I bk bi) tmps w'/\
   TVR (Dw ρ ρ2 D I bk bi) w' (v.ren bk bi) x/\TV.wf (Jv bk bi D ((Db keys aB).map λp=>(p.1,C8 ids p.2))) (HZ bi I (Db ids aC)) (v.ren bk bi):=by
 intro bk bi;obtain⟨b1,b2⟩:=Ke e7;obtain⟨r1,r2⟩:=US e8;have b4:∀k∈keys,∃b,Ab aB k=some b:=λk U=>by
  obtain⟨x,q,_⟩:=b1 (pos keys k) (Dc U).1
  grind [Dc]
 have b5:∀k∈ids,∃b,Ab aC k=some b:=λk U=>by
  obtain⟨x,q,_⟩:=r1 (pos ids k) (Dc U).1
  grind [Dc]
 have c0:∀k∈D.map (·.1),∀j∈D.map (·.1),bk k=bk j->k=j:=Q3s e6 b4 e9;have c1:∀k∈I.map (·.1),∀j∈I.map (·.1),bi k=bi j->k=j:=Q3s d3 b5 f0
 have f1:∀i,i<keys.length->(∃b,Ab D (base+i)=some b)/\ρ2.bx (base+i)=ρ.bx (nth 0 keys i):=by
  intro i hi;obtain⟨x0,_,q⟩:=b1 i hi;obtain ⟨p1, bo, p2⟩ := N.k0 (base + i) (ρ.bx (nth 0 keys i)) (by
   simp only[Ed,q,Option.map_some];show some (ρ.bx (nth 0 keys (base+i-base)))=_;simp)
  exact⟨⟨bo,p2⟩,p1⟩
 have g2:∀i,i<keys.length->bk (base+i)=nth 0 keys i:=λi hi=>by grind [Mm]
 have g3:∀i,i<ids.length->bi (base+i)=nth 0 ids i:=λi hi=>by grind [Mm]
 have d4:∀k∈D.map (·.1),(∃i,i<keys.length/\k=base+i/\bk k=nth 0 keys i)\/(Ab aB (bk k)=none):=by
  intro k U;by_cases hc:base<=k/\k-base<keys.length
  ·grind
  ·grind [Kj]
 have d5:∀k∈I.map (·.1),(∃i,i<ids.length/\k=base+i/\bi k=nth 0 ids i)\/(Ab aC (bi k)=none):=by
  intro k U;by_cases hc:base<=k/\k-base<ids.length
  ·grind
  ·grind [Kj]
 have f2:∀n b,Ab aB n=some b->n∉keys->∀k∈D.map (·.1),n≠bk k:=by
  rintro n b T L k U rfl;rcases d4 k U with⟨i,hi,_,e⟩|e
  ·grind [Gn]
  ·grind
 have d6:∀n b,Ab aC n=some b->n∉ids->∀k∈I.map (·.1),n≠bi k:=by
  rintro n b T L k U rfl;rcases d5 k U with⟨i,hi,_,e⟩|e
  ·grind [Gn]
  ·grind
 have a0:∀k,(∃b,Ab D k=some b)->(Dw ρ ρ2 D I bk bi).bx (bk k)=ρ2.bx k:=λk U=>by
  simp only[Dw,Qbj c0 (KC.2 U)]
 have a3:∀k,(∃b,Ab I k=some b)->(Dw ρ ρ2 D I bk bi).rv (bi k)=ρ2.rv k/\(Dw ρ ρ2 D I bk bi).wd (bi k)=ρ2.wd k:=λk U=>by
  constructor<;>simp only[Dw,Qbj c1 (KC.2 U)]
 have a1:∀n,(∃b,Ab aB n=some b)->(Dw ρ ρ2 D I bk bi).bx n=ρ.bx n:=by
  rintro n ⟨b,T⟩;by_cases L:n∈keys
  ·obtain⟨p1,p2⟩:=Dc L
   grind
  ·grind [Dw,Qab]
 have a4:∀n,(∃b,Ab aC n=some b)->n∉ids->(Dw ρ ρ2 D I bk bi).rv n=ρ.rv n/\(Dw ρ ρ2 D I bk bi).wd n=ρ.wd n:=by
  rintro n ⟨b,T⟩ L;constructor<;>simp only[Dw,Qab (d6 n b T L)]
 have f3:=N.fr.size;have c5:∀n b,Ab aB n=some b->n∉keys->Ij w ρ keys ids (ρ.bx n):=λn b T L=>
  ⟨X.bxlt T,λk U e=>by obtain⟨b',a5⟩:=b4 k U;exact L (by rw[<-X.bi k n b' b a5 T e];exact U),λid hid=>by obtain⟨r,hr⟩:=b5 id hid;exact X.br n b id r T hr⟩
 have b8:∀n r g,Ab aC n=some r->n∉ids->(ρ.rv n).ownBlock=some g->Ij w ρ keys ids g:=λn r g T L hg=>
  ⟨(X.rwlt T hg).2,λk U e=>by obtain⟨b',a5⟩:=b4 k U;exact X.br k b' n r a5 T (by grind),λid hid e=>by obtain⟨r',c4⟩:=b5 id hid;exact L (by rw[<-X.ri id n r' r g c4 T e hg];omega)⟩
 have e0:∀b,ρ.im b->Ij w ρ keys ids b:=λb hb=>
  ⟨(X.ib b hb).1,λk U=>by obtain⟨b',a5⟩:=b4 k U;exact(X.ib b hb).2.1 k b' a5,λid hid=>by obtain⟨r,hr⟩:=b5 id hid;exact(X.ib b hb).2.2 id r hr⟩
 have fz:∀b,Z.F b->Ij w ρ keys ids b:=λb hb=>
  ⟨X.fs b hb,λk U e=>by obtain⟨b',a5⟩:=b4 k U;obtain⟨_,_,_,q⟩:=X.bx k b' a5;grind,λid hid e=>by obtain⟨r,hr⟩:=b5 id hid;exact(X.rwlt hr e).1 hb⟩
 have hold:∀b,Ij w ρ keys ids b->w'.heap[b]? =w.heap[b]? :=λb hb=>N.fr.block b hb;have c6:∀b,ρ.im b->ρ2.im b:=λb hb=>N.i0 b hb;have b6:∀b,ρ2.im b->ρ.im b\/ ¬Ij w ρ keys ids b:=λb hb=>N.i1 b hb
 have f4:∀k∈D.map (·.1),Ab ((Db keys aB).map λp=>(p.1,C8 ids p.2)) (bk k)=none:=by
  intro k U;rw[Fl (C8 ids),KI];rcases d4 k U with⟨i,hi,_,e⟩|e
  ·grind
  ·grind
 have f5:∀k∈I.map (·.1),Ab (Db ids aC) (bi k)=none:=by
  intro k U;rw[KI];rcases d5 k U with⟨i,hi,_,e⟩|e
  ·grind
  ·grind
 obtain⟨c7,c8⟩:=SP (rk:=bk) (g:=λb:Box=>(⟨b.ty,b.cells.map (AC.ren bk bi)⟩:Box)) a5 c0 f4;obtain⟨c9,e3⟩:=SP (rk:=bi) (g:=λb:Row=>b) c4 c1 f5;rw[Xe,Qp8];generalize hB:Iu bk (λb:Box=>(⟨b.ty,b.cells.map (AC.ren bk bi)⟩:Box)) D ((Db keys aB).map λp=>(p.1,C8 ids p.2))=B' at c7 c8⊢;generalize g4:Iu bi (λb:Row=>b) I (Db ids aC)=R' at c9 e3⊢;have Y:∀n b,Ab B' n=some b->(∃k O,Ab D k=some O/\n=bk k/\b=⟨O.ty,O.cells.map (AC.ren bk bi)⟩)\/(n∉keys/\∃O,Ab aB n=some O/\b=C8 ids O):=by
  intro n b T;by_cases hc:∃k∈D.map (·.1),n=bk k
  ·obtain⟨k,U,rfl⟩:=hc;obtain⟨O,f6⟩:=KC.1 U
   grind
  ·rw[c8 n (λk U e=>hc ⟨k,U,e⟩),Fl (C8 ids),KI]at T
   grind [Option.map_eq_some_iff]
 have a2:∀n r,Ab R' n=some r->(∃k,Ab I k=some r/\n=bi k)\/(n∉ids/\Ab aC n=some r):=by
  intro n r T;by_cases hc:∃k∈I.map (·.1),n=bi k
  ·obtain⟨k,U,rfl⟩:=hc;obtain⟨O,f6⟩:=KC.1 U
   grind
  ·grind [KI]
 have b3:∀n b,Ab aB n=some b->∃b',Ab B' n=some b':=by
  intro n b T;by_cases L:n∈keys
  ·obtain⟨p1,p2⟩:=Dc L
   grind
  ·rw[c8 n (f2 n b T L),Fl (C8 ids),KI,aa L,T];simp
 have c2:∀n r,Ab aC n=some r->n∉ids->Ab R' n=some r:=by
  intro n r T L;rw[e3 n (d6 n r T L),KI,aa L,T]
 let Q:AC->Prop:=λa=>AC.wf aB aC a/\∀id∈ids,AC.free id a
 have b9:∀a,Q a->a.agree ρ (Dw ρ ρ2 D I bk bi):=by
  rintro a ⟨V,hf⟩;have hp:∀l:List AC,(∀a∈l,AC.wfP aB a)->∀a∈l,a.agreeP ρ (Dw ρ ρ2 D I bk bi):=by
   intro l hl c hc;have:=hl c hc;cases c<;>first|exact a1 _ this|trivial
  cases a with
  |ptr k o=>exact a1 k V
  |bsl k o=>exact a1 k V
  |own id _ _=>obtain⟨r,G,_⟩:=V;exact a4 id ⟨r,G⟩ (λhm=>hf id hm rfl)
  |rptr id _ _=>obtain⟨r,G,_⟩:=V;exact a4 id ⟨r,G⟩ (λhm=>hf id hm rfl)
  |clo f fs cs=>exact⟨hp fs V.1,hp cs V.2⟩
  |_=>trivial
 have e4:∀(a:AC) (y:Value),Q a->CC ρ w a y->CC (Dw ρ ρ2 D I bk bi) w' a y:=λa y hq hy=>CC.mono (ρ':=Dw ρ ρ2 D I bk bi) c6 (λb hb=>hold b (e0 b hb)) a y (b9 a hq) hy;have c3:∀a,Q a->AC.wf B' R' a:=by
  rintro a ⟨V,hf⟩;cases a with
  |ptr k o=>obtain⟨b,hb⟩:=V;exact b3 k b hb
  |bsl k o=>obtain⟨b,hb⟩:=V;exact b3 k b hb
  |own id _ _=>obtain⟨r,G,h2⟩:=V;exact⟨r,c2 id r G (λhm=>hf id hm rfl),h2⟩
  |rptr id _ _=>obtain⟨r,G,h2⟩:=V;exact⟨r,c2 id r G (λhm=>hf id hm rfl),h2⟩
  |vptr=>exact V
  |clo f fs cs=>exact⟨λc hc=>AC.wfP_mono b3 (V.1 c hc),λc hc=>AC.wfP_mono b3 (V.2 c hc)⟩
  |_=>trivial
 have d0:∀a,AC.wf D I a->AC.wf B' R' (a.ren bk bi):=λa V=>
  Sl (Kp:=λk=>∃b,Ab D k=some b) (Ip:=λi=>∃r,Ab I i=some r) (λk _ ⟨b,hb⟩=>⟨_,c7 k b hb⟩) (λi r _ hr=>⟨r,c9 i r hr,rfl,rfl⟩) (AC.nm_of_wf V) V
 have g0:∀v∈tm.map (HE ids),TV.wf aB aC v/\∀id∈ids,TV.free id v:=by
  intro v hv;simp only[bc]at hv;obtain⟨u,hu,rfl⟩:=hv;exact⟨Q8d ids (X.wt u hu),λid hid=>Q54 ids u id hid⟩
 have e5:∀v∈tm.map (HE ids),(match v with| .v _ cs=>∀a∈cs,Q a| .tup ps=>∀p∈ps,∀a∈p.2,Q a| .vD=>True):=by
  intro v hv;obtain⟨G,h2⟩:=g0 v hv;cases v with
  |vD=>trivial
  |v g cs=>exact λa V=>⟨G a V,λid hid=>h2 id hid a V⟩
  |tup ps=>exact λp hp a V=>⟨G p hp a V,λid hid=>h2 id hid p hp a V⟩
 have qB:∀n O,Ab aB n=some O->∀a∈(C8 ids O).cells,Q a:=λn O T a V=>⟨Q5l ids (X.wb n O T) a V,λid hid=>Qzl ids O id hid a V⟩;have b7:TV.wf D I v:=N.wt v (by simp);refine⟨⟨by grind [X.tl],λi v hi=> ?_,λv hv=> ?_,λn b T a V=> ?_,λn b T=> ?_,λn n' b b' T d1 he=> ?_,λn r T=> ?_,λn n' r r' g T d1 hg a6=> ?_,λn b m r T hm=> ?_,λb hb=>⟨(N.ib b hb).1,λn bo T=> ?_,λn r T=> ?_⟩,?_,?_,λb hb=>c6 b (X.i0 b hb),λb hb=> ?_,λk b U=> ?_⟩,?_,?_⟩
 ·have hv:=da hi;simp only[du,bz]at hi;obtain⟨u,hu,rfl⟩:=hi;exact TVR.mono2 e4 (e5 _ hv) (Q90 ids (X.tv i u hu))
 ·have:=e5 v hv;cases v with
  |vD=>trivial
  |v g cs=>exact λa V=>c3 a (this a V)
  |tup ps=>exact λp hp a V=>c3 a (this p hp a V)
 ·rcases Y n b T with⟨k,O,G,rfl,rfl⟩|⟨L,O,G,rfl⟩
  ·simp only[bc]at V;obtain⟨c,hc,rfl⟩:=V;exact d0 c (N.wb k O G c hc)
  grind
 ·rcases Y n b T with⟨k,O,G,rfl,rfl⟩|⟨L,O,G,rfl⟩
  ·obtain⟨arr,q1,q2,q3⟩:=N.bx k O G;refine⟨arr,by rw[a0 k ⟨O,G⟩];exact q1,Qk (Kp:=λk=>∃b,Ab D k=some b) (Ip:=λi=>∃r,Ab I i=some r) a0 a3 rfl (λc hc=>AC.nm_of_wf (N.wb k O G c hc)) q2,?_⟩;rw[a0 k ⟨O,G⟩];exact λhf=>q3 (fz _ hf)
  ·obtain⟨arr,q1,q2,q3⟩:=X.bx n O G;rw[a1 n ⟨O,G⟩];refine⟨arr,by grind [Q2o],?_,q3⟩;exact(Q57 ids q2).mono λa V y hy=>e4 a y (qB n O G a V) hy
 ·rcases Y n b T with⟨k,O,G,rfl,_⟩|⟨L,O,G,_⟩<;>rcases Y n' b' d1 with⟨k',a9,M,rfl,_⟩|⟨a7,a9,M,_⟩
  ·rw[a0 k ⟨O,G⟩,a0 k' ⟨a9,M⟩]at he;rw[N.bi k k' _ _ G M he]
  ·rw[a0 k ⟨O,G⟩,a1 n' ⟨a9,M⟩]at he;obtain⟨_,_,_,q3⟩:=N.bx k O G;exact absurd (he▸c5 n' a9 M a7) q3
  ·rw[a1 n ⟨O,G⟩,a0 k' ⟨a9,M⟩]at he;obtain⟨_,_,_,q3⟩:=N.bx k' a9 M;exact absurd (he▸c5 n O G L) q3
  ·rw[a1 n ⟨O,G⟩,a1 n' ⟨a9,M⟩]at he;exact X.bi n n' _ _ G M he
 ·rcases a2 n r T with⟨k,G,rfl⟩|⟨L,G⟩
  ·obtain⟨q1,q2,q0,ys,q3,q4⟩:=N.ro k r G;obtain⟨e1,e2⟩:=a3 k ⟨r,G⟩;rw[e1,e2];exact⟨q1,q2,λg hg hf=>q0 g hg (fz g hf),ys,q3,q4⟩
  ·obtain⟨q1,q2,q0,ys,q3,q4⟩:=X.ro n r G;obtain⟨e1,e2⟩:=a4 n ⟨r,G⟩ L;rw[e1,e2];exact⟨q1,q2,q0,ys,Mx q3 λg hg=>hold g (b8 n r g G L hg),q4.mono c6 (λb hb=>hold b (e0 b hb))⟩
 ·rcases a2 n r T with⟨k,G,rfl⟩|⟨L,G⟩<;>rcases a2 n' r' d1 with⟨k',M,rfl⟩|⟨a7,M⟩
  ·rw[(a3 k ⟨r,G⟩).1]at hg;rw[(a3 k' ⟨r',M⟩).1]at a6;rw[N.ri k k' _ _ g G M hg a6]
  ·rw[(a3 k ⟨r,G⟩).1]at hg;rw[(a4 n' ⟨r',M⟩ a7).1]at a6;obtain⟨_,_,q0,_⟩:=N.ro k r G;exact absurd (b8 n' r' g M a7 a6) (q0 g hg)
  ·rw[(a4 n ⟨r,G⟩ L).1]at hg;rw[(a3 k' ⟨r',M⟩).1]at a6;obtain⟨_,_,q0,_⟩:=N.ro k' r' M;exact absurd (b8 n r g G L hg) (q0 g a6)
  ·rw[(a4 n ⟨r,G⟩ L).1]at hg;rw[(a4 n' ⟨r',M⟩ a7).1]at a6;exact X.ri n n' _ _ g G M hg a6
 ·rcases Y n b T with⟨k,O,G,rfl,_⟩|⟨L,O,G,_⟩<;>rcases a2 m r hm with⟨k',M,rfl⟩|⟨d2,M⟩
  ·rw[a0 k ⟨O,G⟩,(a3 k' ⟨r,M⟩).1];exact N.br k O k' r G M
  ·rw[a0 k ⟨O,G⟩,(a4 m ⟨r,M⟩ d2).1];intro e;obtain⟨_,_,_,q3⟩:=N.bx k O G;exact q3 (b8 m r _ M d2 e)
  ·rw[a1 n ⟨O,G⟩,(a3 k' ⟨r,M⟩).1];intro e;obtain⟨_,_,q0,_⟩:=N.ro k' r M;exact q0 _ e (c5 n O G L)
  ·rw[a1 n ⟨O,G⟩,(a4 m ⟨r,M⟩ d2).1];exact X.br n O m r G M
 ·rcases Y n bo T with⟨k,O,G,rfl,_⟩|⟨L,O,G,_⟩
  ·rw[a0 k ⟨O,G⟩];exact(N.ib b hb).2.1 k O G
  ·rw[a1 n ⟨O,G⟩];rcases b6 b hb with a8|a8
   ·exact(X.ib b a8).2.1 n O G
   grind
 ·rcases a2 n r T with⟨k,G,rfl⟩|⟨L,G⟩
  ·rw[(a3 k ⟨r,G⟩).1];exact(N.ib b hb).2.2 k r G
  ·rw[(a4 n ⟨r,G⟩ L).1];rcases b6 b hb with a8|a8
   ·exact(X.ib b a8).2.2 n r G
   grind
 ·exact X.fr.trans ⟨N.fr.os,N.fr.tape,N.fr.output,N.fr.size,λk U=>hold k (fz k U)⟩
 ·exact λk U=>dm (X.fs k U) f3
 ·rcases b6 b hb with a8|a8
  ·exact X.i1 b a8
  grind
 ·obtain⟨q1,bo,q2⟩:=X.k0 k b U
  grind
 ·have g1:TVR ρ2 w' v x:=by simpa using N.tv 0 v rfl
  exact Q8n (Kp:=λk=>∃b,Ab D k=some b) (Ip:=λi=>∃r,Ab I i=some r) a0 a3 rfl (TV.nm_of_wf b7) g1
 ·exact Qxp (Kp:=λk=>∃b,Ab D k=some b) (Ip:=λi=>∃r,Ab I i=some r) (λk _ ⟨b,hb⟩=>⟨_,c7 k b hb⟩) (λi r _ hr=>⟨r,c9 i r hr,rfl,rfl⟩) (TV.nm_of_wf b7) b7
theorem Qhu {α:Type} {l:List (Nat×α)} {k:Nat} (h:KL l k=true):Ab l k=none:=by grind [KL]
theorem Zau {α:Type} {c:Bool} {p:Option α} {q:α} (h:cond c p none=some q):c=true/\p=some q:=by grind
theorem Zac {α:Type}:∀{l:List (Nat×α)} {k:Nat} {x y:α},Ab l k=some y->∀n,Ab (upd l k x) n=if n=k then some x else Ab l n
 |[],_,_,_,h,_=>by grind [Ab]
 |(j,c)::l,k,x,y,h,n=>by
  simp only[Ab,upd]at h⊢;cases D:Nat.beq j k
  ·rw[D]at h;simp only[ay,Ab]at h⊢;rw[Zac h n]
   grind
  ·have:=ah D;subst this;simp only[ak,Ab];cases G:Nat.beq j n
   ·grind
   simp_all
theorem Qux {id n':Nat} (a:AC):(∃w n,a= .own id w n/\a.relen id n'= .own id w n')\/a.relen id n'=a.kill id:=by
 cases a with
 |own j w n=>
  cases hb:Nat.beq j id
  ·simp_all [AC.relen,AC.kill]
  simp_all [AC.relen]
 |rptr j p q=>right;rfl
 |_=>right;rfl
theorem Ux {R R1 G:AC->Value->Prop} {id I:Nat} (h:∀a x,R1 a x->G (a.kill id) x->R (a.relen id I) x):∀{cs:List AC} {xs:List Value},CL R1 cs xs->CL G (cs.map (AC.kill id)) xs->CL R (cs.map (AC.relen id I)) xs
 |[],[],_,_=>trivial
 |a::cs,x::xs,D,L=>⟨h a x D.1 L.1,Ux h D.2 L.2⟩
 |[],_::_,D,_=>D.elim
 |_::_,[],D,_=>D.elim
theorem Qqc {keys ids:List Nat} {v:TV} (h:v.plainB=true):TV.inK keys ids v=true:=by
 cases v with
 |vD=>rfl
 |v g cs=>
  simp only[TV.plainB,TV.inK]at h⊢;rw[Ax]at h⊢;intro a D;have:=h a D;cases a<;>simp[AC.plain]at this<;>rfl
 |tup ps=>
  simp only[TV.plainB,TV.inK]at h⊢;rw[Ax]at h⊢;intro p G;have:=h p G;rw[Ax]at this⊢;intro a D;have:=this a D;cases a<;>simp[AC.plain]at this<;>rfl
theorem Zmf {D ri:Nat->Nat} {a:AC} (h:a.calm=true):a.ren D ri=a:=by cases a<;>simp[AC.calm]at h<;>rfl
theorem Q8 {D ri:Nat->Nat}:∀{l:List AC},Al AC.calm l=true->l.map (AC.ren D ri)=l
 |[],_=>rfl
 |a::l,h=>by
  rw[Ax]at h;simp only[bj];rw[Zmf (h a (by simp)),Q8 (Ax.2 λx G=>h x (by grind))]
theorem Qqs {a:AC} (h:a.plain=true):a.calm=true:=by cases a<;>simp[AC.plain]at h<;>rfl
theorem UY {D ri:Nat->Nat} {v:TV} (h:v.plainB=true):v.ren D ri=v:=by
 cases v with
 |vD=>rfl
 |v g cs=>grind [TV.plainB,Ax,TV.ren,Q8,Qqs]
 |tup ps=>
  simp only[TV.plainB,Ax]at h;simp only[TV.ren];congr 1
  conv=>rhs;rw[<-List.map_id ps]
  grind [List.map_congr_left,Q8,Ax,Qqs]
theorem Z7e (U:Ak P C) (hR:RelE Z tm aB aC ρ tmps w) {o:Oper} {a:Act} {f:FuncId} {args:List TV} {xs:List Value} (h1:xs.length=args.length)
  (h2:∀(i:Nat) (a:TV) (x:Value),args[i]? =some a->xs[i]? =some x->TVR ρ w a x) (h3:execOp a.eval o=callFunc f xs.toArray) (c6:∀v∈args,TV.wf aB aC v) {K:TV->St->Option R} {r:R} {g:Spec} (hg:C.spec f=some g) (c7:C.keepR f=true)
  (h:Rz g args tm aB aC K=some r) {next:Act->World->Prop} {Q:Exit->Act->World->Prop}
  (a7:∀(v:TV) (b2:List TV) (D:List (Nat×Box)) (N:List (Nat×Row)) (ρ':Env) (x:Value) (w':World),K v ⟨b2,D,N⟩=some r->RelE Z b2 D N ρ' tmps w'->TVR ρ' w' v x->TV.wf D N v->next (a.put o.dst x) w'):
  o.wp P a w next Q:=by
 unfold Rz at h;split at h
 ·rename_i id hid;split at h
  ·rename_i r0 V;have b3:∀v∈args,TV.inK [] [id] v=true:=by
    unfold Qb8 at hid;split at hid
    ·rename_i id' w0 n0 rest;cases hp:Al TV.plainB rest<;>rw[hp]at hid
     ·grind
     ·simp only[ak,ap]at hid;subst hid;intro v hv;rcases av.1 hv with rfl|hv
      ·simp[TV.inK,Al,AC.inK,AQ]
      grind [Qqc,Ax]
    ·grind
   obtain⟨v,⟨e5,e6⟩,hv,c8⟩:=(U.1 f g hg).run2 h;have b4:Ft aC base [id]=some [(base,r0)]:=by simp[Ft,V]
   have b5:=U3 hR h1 h2 c6 ig (by simp) (keys:=[]) (ids:=[id]) b3 (λk G=>by grind) (show C_ aB _ _ base []=some []from rfl) b4;refine L4 h3 ((U.2.2 f g hg c7 _ _ _ _ c8 _ xs b5).mono ?_);rintro e w' ⟨x,ρ2,he,b6,c9⟩;refine⟨x,he,?_⟩;split at hv
   ·rename_i k r' heq;simp only[Mem.mk.injEq]at heq;obtain⟨rfl,rfl⟩:=heq;obtain⟨hc,b7⟩:=Zau hv;simp only[aj]at hc;obtain⟨⟨⟨c1,c2⟩,c3⟩,c4⟩:=hc;have ek:=ah c1;subst ek;have et:=ah c2;have d0:=IH c3;simp only[Ba]at b7;obtain⟨e1,e2,-⟩:=Sg hR ig (by simp) (show C_ aB _ _ base []=some []from rfl) b4 b6 (d:=o.dst.getD 0) (by simp) (by simp) (λk G=>by grind [By]) (λk G=>by rw[show By [id] [(base,r')]=[]from rfl]at G;grind)
    have e7:By [id] [(base,r')]=[]:=rfl;have a8:BH [id] (By [id] [(base,r')]) (o.dst.getD 0) base=id:=rfl;generalize e8:BH ([]:List Nat) (By ([]:List Nat) ([]:List (Nat×Box))) (o.dst.getD 0)=bk at e1 e2;generalize e0:BH [id] (By [id] [(base,r')]) (o.dst.getD 0)=bi at e1 e2 a8;have a9:∀n,Ab (Jv bk bi ([]:List (Nat×Box)) ((Db [] aB).map λp=>(p.1,C8 [id] p.2))) n=(Ab aB n).map (Box.kill id):=λn=>Fl (C8 [id]) aB n;have d1:∀n,Ab (HZ bi [(base,r')] (Db [id] aC)) n=if n=id then some r' else Ab aC n:=by
     intro n;show Ab (ins (del id aC) (bi base) r') n=_;rw[a8];by_cases hn:n=id
     ·simp_all [Eu,QM]
     ·simp_all [DZ,Kh]
    have b1:∀n,Ab (aB.map λp=>(p.1,p.2.relen id r'.l.length)) n=(Ab aB n).map (Box.relen id r'.l.length):=λn=>Fl (Box.relen id r'.l.length) aB n;have e9:∀n,Ab (upd aC id r') n=if n=id then some r' else Ab aC n:=Zac V;generalize Jv bk bi ([]:List (Nat×Box)) ((Db [] aB).map λp=>(p.1,C8 [id] p.2))=B1 at e1 a9;generalize HZ bi [(base,r')] (Db [id] aC)=R1 at e1 d1;have hinv:JZ [(base,r')] bi id=some base:=by rw[<-a8];exact Qbj (λa ha b hb _=>by grind) (by simp)
    have a5:(Dw ρ ρ2 [] [(base,r')] bk bi).rv id=ρ.rv id:=by
     simp only[Dw,hinv];rw[c9];show ρ.rv (nth 0 [id] (base-base))=_;rw[i8];rfl
    have X:∀k,(Dw ρ ρ2 [] [(base,r')] bk bi).bx k=ρ.bx k:=λk=>by grind [Dw,Qab]
    generalize Dw ρ ρ2 [] [(base,r')] bk bi=ρB at e1 e2 a5 X;have b8:=e1.ro id r' (by grind);have e3:=hR.ro id r0 V;have d2:r'.w=r0.w:=by show r'.ks.length=r0.ks.length;rw[d0]
    have O:∀(a:AC) (y:Value),CC ρ w a y->CC ρB w' (a.kill id) y->CC ρB w' (a.relen id r'.l.length) y:=by
     intro a y L M;rcases Qux (id:=id) (n':=r'.l.length) a with⟨w1,n1,rfl,e⟩|e
     ·rw[e];obtain⟨s1,s2,_⟩:=L;refine⟨s1.trans a5.symm,by omega,?_⟩;obtain⟨_,_,_,ys,⟨_,o2⟩,_⟩:=b8
      grind
     ·grind
    have Y:∀a:AC,AC.wf aB aC a->AC.wf B1 R1 (a.kill id)->AC.wf (aB.map λp=>(p.1,p.2.relen id r'.l.length)) (upd aC id r') (a.relen id r'.l.length):=by
     intro a L M;rcases Qux (id:=id) (n':=r'.l.length) a with⟨w1,n1,rfl,e⟩|e
     ·rw[e];obtain⟨r2,s1,s2,s3⟩:=L;rw[V]at s1;simp only[ap]at s1;subst s1;exact⟨r',by grind,rfl,d2.trans s3⟩
     ·rw[e];refine AC.wf_mono (λk b G=> ?_) (λk r G=>⟨r,by grind,rfl,rfl⟩) M;rw[a9]at G;rw[b1];cases hl:Ab aB k with
      |none=>grind
      |some T=>simp
    have a3:∀k b,Ab (aB.map λp=>(p.1,p.2.relen id r'.l.length)) k=some b->∃T,Ab aB k=some T/\b=T.relen id r'.l.length/\Ab B1 k=some (T.kill id):=by
     intro k b G;rw[b1]at G;cases hl:Ab aB k with
     |none=>grind
     |some T=>grind
    have a4:∀n r,Ab (upd aC id r') n=some r->Ab R1 n=some r:=λn r hn=>by grind
    have d3:∀(ps:List (Bool×List AC)) (ys:List Value),TP ρ w ps ys->TP ρB w' (ps.map λp=>(p.1,p.2.map (AC.kill id))) ys->TP ρB w' (ps.map λp=>(p.1,p.2.map (AC.relen id r'.l.length))) ys:=by
     intro ps;induction ps with
     |nil=>simp
     |cons p ps ih=>
      intro ys L M;obtain⟨gg,cs⟩:=p;cases ys with
      |nil=>exact L.elim
      |cons y ys=>
       refine⟨?_,ih ys L.2 M.2⟩;have z1:=L.1;have z2:=M.1;cases gg
       ·grind
       grind [Ux]
    refine a7 v _ _ _ ρB x w' b7 ⟨by grind [hR.tl],λi u hi=> ?_,λu hu=> ?_,λk b G a ha=> ?_,λk b G=> ?_,λk k' b b' G d4 he=> ?_,λn r hn=>e1.ro n r (a4 n r hn),λn n' r r2 g2 hn d5=>e1.ri n n' r r2 g2 (a4 n r hn) (a4 n' r2 d5),
     λk b n r G hn=> ?_,λb hb=> ?_,e1.fr,e1.fs,e1.i0,e1.i1,λk b G=> ?_⟩ (by grind [UY]) (I_ c4)
    ·rw[du]at hi;cases hl:tm[i]? with
     |none=>grind
     |some u0=>
      rw[hl]at hi;simp only[Option.map_some,ap]at hi;subst hi;have z1:=hR.tv i u0 hl;have z2:=e1.tv i (u0.kill id) (by rw[du,hl];rfl);cases u0 with
      |vD=>trivial
      |v gg cs=>
       cases gg
       ·obtain⟨a1,t1,t2⟩:=z1;obtain⟨a2,t3,t4⟩:=z2;subst t1;simp only[bj,dx,fd,jp]at t3;subst t3;exact⟨_,rfl,O a1 _ t2 t4⟩
       ·obtain⟨y1,t1,t2⟩:=z1;obtain⟨y2,t3,t4⟩:=z2;rw[t1]at t3;simp only[Value.agg.injEq]at t3;subst t3;exact⟨y1,t1,Ux O t2 t4⟩
      |tup ps=>
       obtain⟨y1,t1,t2⟩:=z1;obtain⟨y2,t3,t4⟩:=z2;rw[t1]at t3;simp only[Value.tuple.injEq]at t3;subst t3;exact⟨y1,t1,d3 ps _ t2 t4⟩
    ·rw[bc]at hu;obtain⟨u0,b9,rfl⟩:=hu;have z1:=hR.wt u0 b9;have z2:=e1.wt (u0.kill id) (bc.2 ⟨u0,b9,rfl⟩);cases u0 with
     |vD=>trivial
     |v gg cs=>
      intro a ha;obtain⟨a0,I,rfl⟩:=bc.1 ha;exact Y a0 (z1 a0 I) (z2 _ (bc.2 ⟨a0,I,rfl⟩))
     |tup ps=>
      intro p hp a ha;obtain⟨p0,c0,rfl⟩:=bc.1 hp;obtain⟨a0,I,rfl⟩:=bc.1 ha;exact Y a0 (z1 p0 c0 a0 I) (z2 _ (bc.2 ⟨p0,c0,rfl⟩) _ (bc.2 ⟨a0,I,rfl⟩))
    ·obtain⟨T,L,rfl,M⟩:=a3 k b G;obtain⟨a0,I,rfl⟩:=bc.1 ha;exact Y a0 (hR.wb k T L a0 I) (e1.wb k _ M _ (bc.2 ⟨a0,I,rfl⟩))
    ·obtain⟨T,L,rfl,M⟩:=a3 k b G;obtain⟨c5,s1,s2,s3⟩:=hR.bx k T L;obtain⟨e4,s4,s5,s6⟩:=e1.bx k _ M;have a6:w'.heap[ρ.bx k]? =w.heap[ρ.bx k]? :=b6.fr.block (ρ.bx k) ⟨(dc.1 s1).1,λj hj=>by grind,λj hj=>by
      simp only[de]at hj;subst hj;exact hR.br k T j r0 L V⟩
     rw[X,a6,s1]at s4;simp only[ap,Obj.cells.injEq]at s4;obtain⟨rfl,_⟩:=s4;exact⟨c5,by rw[X,a6];exact s1,Ux O s2 s5,by omega⟩
    ·obtain⟨T,L,rfl,M⟩:=a3 k b G;obtain⟨f0,f1,rfl,d6⟩:=a3 k' b' d4;exact e1.bi k k' _ _ M d6 he
    ·obtain⟨T,L,rfl,M⟩:=a3 k b G;exact e1.br k _ n r M (a4 n r hn)
    ·obtain⟨L,M,q3⟩:=e1.ib b hb
     grind
    ·obtain⟨L,bo,M⟩:=e1.k0 k b G;rw[a9]at M;rw[b1];cases hl:Ab aB k with
     |none=>grind
     |some T=>grind
   grind
  grind
 grind
theorem Znc (N:Ak P C) (hR:RelE Z tm aB aC ρ tmps w) {o:Oper} {a:Act} {f:FuncId} {args:List TV} {xs:List Value} (h1:xs.length=args.length)
  (h2:∀(i:Nat) (a:TV) (x:Value),args[i]? =some a->xs[i]? =some x->TVR ρ w a x) (h3:execOp a.eval o=callFunc f xs.toArray) (a1:∀v∈args,TV.wf aB aC v) {K:TV->St->Option R} {r:R}
  (h:Be C o.dst (.callM f args) ⟨tm,aB,aC⟩ K=some r) {next:Act->World->Prop} {Q:Exit->Act->World->Prop}
  (a2:∀(v:TV) (U:List TV) (D:List (Nat×Box)) (G:List (Nat×Row)) (ρ':Env) (x:Value) (w':World),K v ⟨U,D,G⟩=some r->RelE Z U D G ρ' tmps w'->TVR ρ' w' v x->TV.wf D G v->next (a.put o.dst x) w'):
  o.wp P a w next Q:=by
 simp only[Be]at h;split at h
 ·rename_i g hg;have a3:=N.1 f g hg;cases a4:C.keepR f<;>rw[a4]at h
  case true=>
   simp only[ak]at h
   grind [Z7e]
  simp only[ay]at h;simp only[Ba]at h;generalize O:Lr aB 4 (Bf (cat AC.keys (cat TV.cellsOf args)) [])=keys at h;generalize hi:NW aB (cat TV.cellsOf args) keys=ids at h;clear O hi;cases hc:(Al (TV.inK keys ids) args&&Al (λk=>Al (AC.inK keys ids) (Ey aB k)) keys&&Cm keys&&Cm ids)<;>rw[hc]at h
  ·grind
  ·simp only[ak]at h;simp only[aj]at hc;obtain⟨⟨⟨c1,c2⟩,c3⟩,c4⟩:=hc;split at h
   ·rename_i mb mr V X;have Y:=IB.1 c3;have M:=IB.1 c4;obtain⟨v,⟨I,L⟩,hv,a5⟩:=a3.run h;have a0:=U3 hR h1 h2 a1 Y M (λv hv=>Ax.1 c1 v hv) (λk O=>Ax.1 c2 k O) V X;refine L4 h3 ((a5 _ xs a0).mono ?_);rintro e w' ⟨x,ρ2,he,a6⟩;dsimp only at hv;cases T:(Al (λp:Nat×Box=>FU I p.1) mb&&Cm (I.map (·.1))&&Cm (L.map (·.1))&&Al (λk=>KL aB (BH keys (By keys I) (o.dst.getD 0) k)) (By keys I)&&Al (λk=>KL aC (BH ids (By ids L) (o.dst.getD 0) k)) (By ids L)&&Nat.ble (By keys I).length 100&&Nat.ble (By ids L).length 100)<;>rw[T]at hv
    ·grind
    ·simp only[ak]at hv;simp only[aj]at T;obtain⟨⟨⟨⟨⟨⟨_,d2⟩,d3⟩,d4⟩,d5⟩,_⟩,_⟩:=T;obtain⟨e1,e2,e3⟩:=Sg hR Y M V X a6 (d:=o.dst.getD 0) (IB.1 d2) (IB.1 d3) (λk O=>Qhu (Ax.1 d4 k O)) (λk O=>Qhu (Ax.1 d5 k O))
     grind
   grind
 grind
theorem RelE.cong {D:List (Nat×Box)} (h:RelE Z tm aB aC ρ tmps w) (M:∀k,Ab D k=Ab aB k):RelE Z tm D aC ρ tmps w:=by
 have L:∀a,AC.wf aB aC a->AC.wf D aC a:=λa=>AC.wf_mono (λk b G=>⟨b,by grind⟩) (λk r G=>⟨r,G,rfl,rfl⟩);exact⟨h.tl,h.tv,λv N=>TV.wf_mono L (h.wt v N),λk b G a I=>L a (h.wb k b (by grind) a I),
  λk b G=>h.bx k b (by grind),λk k' b b' G O=>h.bi k k' b b' (by grind) (by grind),h.ro,h.ri,
  λk b id r G=>h.br k b id r (by grind),λb hb=>⟨(h.ib b hb).1,λk bo G=>(h.ib b hb).2.1 k bo (by grind),(h.ib b hb).2.2⟩,
  h.fr,h.fs,h.i0,h.i1,λk b G=>⟨(h.k0 k b G).1,by rw[M];exact(h.k0 k b G).2⟩⟩
theorem Q0a {keys:List Nat} (D:keys.Nodup):∀{m l:List (Nat×Box)},(m.map (·.1)).Nodup->(∀k∈m.map (·.1),base<=k/\k-base<keys.length)->(∀k∈keys,∃b,Ab l k=some b)->
  (∀k b,Ab m k=some b->Ab (CY keys m l) (nth 0 keys (k-base))=some b)/\(∀n,(∀k∈m.map (·.1),n≠nth 0 keys (k-base))->Ab (CY keys m l) n=Ab l n)
 |[],l,_,_,_=>⟨λk b h=>by grind [Ab],λn _=>rfl⟩
 |(j,c)::m,l,I,G,M=>by
  simp only[bj,j0]at I;have N:=G j (by simp);have O:∀k∈m.map (·.1),nth 0 keys (j-base)≠nth 0 keys (k-base):=λk L e=>by
   have T:=G k (by grind);have U:=iz (pos keys) e
   grind [Og]
  obtain⟨y,V⟩:=M _ (Gn N.2);obtain⟨X,Y⟩:=Q0a D (m:=m) (l:=upd l (nth 0 keys (j-base)) c) I.2 (λk L=>G k (by grind)) (λk L=>by grind [EG,Do])
  grind [Ab,CY,Nat.eq_of_beq_eq_true,EG,Do]
theorem Tq {α:Type} {l:List (Nat×α)} {k:Nat} (h:FU l k=true):∃b,Ab l k=some b:=by grind [FU]
theorem Z02 {keys:List Nat} (N:keys.Nodup) {V D:List (Nat×Box)} (X:C_ aB (λk=>base+pos keys k) (λi=>base+pos [] i) base keys=some V)
  (h1:∀p∈V,FU D p.1=true) (h2:∀p∈D,FU V p.1=true) (h3:(D.map (·.1)).Nodup) (h4:∀p∈D,Al AC.calm p.2.cells=true) (bi:Nat->Nat) (d:Nat) (k:Nat):
  Ab (CY keys D aB) k=Ab (Jv (BH keys [] d) bi D ((Db keys aB).map λp=>(p.1,C8 [] p.2))) k:=by
 obtain⟨b1,b2⟩:=Ke X;have I:∀k∈D.map (·.1),base<=k/\k-base<keys.length:=by
  intro k G;simp only[bc]at G;obtain⟨p,Y,rfl⟩:=G;obtain⟨b,hb⟩:=Tq (h2 p Y);obtain⟨i,hi,e⟩:=b2 _ _ hb;omega
 have O:∀i,i<keys.length->∃b,Ab D (base+i)=some b:=by
  intro i hi;obtain⟨x,_,q⟩:=b1 i hi;exact Tq (h1 _ (OH q))
 have a0:∀k∈keys,∃b,Ab aB k=some b:=λk G=>by
  obtain⟨x,q,_⟩:=b1 (pos keys k) (Dc G).1
  grind [Dc]
 have L:∀k∈D.map (·.1),BH keys [] d k=nth 0 keys (k-base):=λk G=>Mm (I k G);obtain⟨u1,u2⟩:=Q0a (l:=aB) N h3 I a0;have M:∀n,Ab ((Db keys aB).map λp=>(p.1,C8 [] p.2)) n=if n∈keys then none else Ab aB n:=by
  intro n;rw[Fl,KI];split
  ·rfl
  ·cases Ab aB n<;>rfl
 have T:∀k∈D.map (·.1),∀j∈D.map (·.1),BH keys [] d k=BH keys [] d j->k=j:=by
  intro k G j U e;rw[L k G,L j U]at e;have e':=iz (pos keys) e;rw[Og N (I k G).2,Og N (I j U).2]at e';have:=I k G;have:=I j U;omega
 rw[Xe];obtain ⟨v1, v2⟩ := SP (rk := BH keys [] d) (g := λb : Box => (⟨b.ty, b.cells.map (AC.ren (BH keys [] d) bi)⟩ : Box)) (m := D) (l := (Db keys aB).map λp => (p.1, C8 [] p.2)) h3 T (λk G => by
  rw[M,L k G,ab (Gn (I k G).2)])
 by_cases G:k∈keys
 ·obtain⟨Y,hn⟩:=Dc G;obtain⟨b,hb⟩:=O _ Y;have e1:=u1 _ b hb;have e2:=v1 _ b hb;rw[L _ (KC.2 ⟨b,hb⟩)]at e2;rw[show base+pos keys k-base=pos keys k from by omega,hn]at e1 e2;rw[e1,e2];have:=h4 _ (OH hb);rw[Q8 this]
 ·rw[u2 k (λj U e=>G (by grind [Gn])),v2 k (λj U e=>G (by grind [Gn])),M,aa G]
theorem Zg9 (N:Ak P C) (hR:RelE Z tm aB aC ρ tmps w) {o:Oper} {a:Act} {f:FuncId} {args:List TV} {xs:List Value} (h1:xs.length=args.length)
  (h2:∀(i:Nat) (a:TV) (x:Value),args[i]? =some a->xs[i]? =some x->TVR ρ w a x) (h3:execOp a.eval o=callFunc f xs.toArray) (a1:∀v∈args,TV.wf aB aC v) {K:TV->St->Option R} {r:R}
  (h:Be C o.dst (.callD f args) ⟨tm,aB,aC⟩ K=some r) {next:Act->World->Prop} {Q:Exit->Act->World->Prop}
  (O:∀(v:TV) (X:List TV) (D:List (Nat×Box)) (G:List (Nat×Row)) (ρ':Env) (x:Value) (w':World),K v ⟨X,D,G⟩=some r->RelE Z X D G ρ' tmps w'->TVR ρ' w' v x->TV.wf D G v->next (a.put o.dst x) w'):
  o.wp P a w next Q:=by
 simp only[Be]at h;split at h
 ·rename_i g hg;have a2:=N.1 f g hg;simp only[Ba]at h;generalize L:Bf (cat AC.keys (cat TV.cellsOf args)) []=keys at h;clear L;cases hc:(Al (TV.inK keys []) args&&Al (λk=>Al AC.calm (Ey aB k)) keys&&Cm keys)<;>rw[hc]at h
  ·grind
  ·simp only[ak]at h;simp only[aj]at hc;obtain⟨⟨c1,c2⟩,c3⟩:=hc;have a3:Al (λk=>Al (AC.inK keys []) (Ey aB k)) keys=true:=by
    rw[Ax]at c2⊢;intro k L;have:=c2 k L;rw[Ax]at this⊢;intro b hb;have:=this b hb;cases b<;>simp[AC.calm]at this<;>rfl
   split at h
   ·rename_i mb M;have T:=IB.1 c3;obtain⟨v,⟨I,a4⟩,V,a5⟩:=a2.run h;have Y:=U3 hR h1 h2 a1 T ig (λv V=>Ax.1 c1 v V) (λk L=>Ax.1 a3 k L) M (show Ft aC base []=some []from rfl);refine L4 h3 ((a5 _ xs Y).mono ?_);rintro e w' ⟨x,ρ2,he,a6⟩;cases a4 with
    |cons _ _=>grind
    |nil=>
     dsimp only at V;cases U:(Al (λp:Nat×Box=>FU I p.1) mb&&Al (λp:Nat×Box=>FU mb p.1) I&&Cm (I.map (·.1))&&Al (λp:Nat×Box=>Al AC.calm p.2.cells) I&&v.plainB)<;>rw[U]at V
     ·grind
     ·simp only[ak]at V;simp only[aj]at U;obtain⟨⟨⟨⟨d1,d2⟩,d3⟩,d4⟩,d5⟩:=U;have a7:By keys I=[]:=by
       apply List.eq_nil_iff_forall_not_mem.2;intro k L;obtain⟨q1,q2⟩:=Kj.1 L;simp only[bc]at q1;obtain⟨p,hp,rfl⟩:=q1;obtain⟨b,hb⟩:=Tq (Ax.1 d2 p hp);obtain⟨i,hi,e⟩:=(Ke M).2 _ _ hb;exact q2 (by omega)
      obtain⟨e1,e2,e3⟩:=Sg hR T ig M (show Ft aC base []=some []from rfl) a6 (d:=o.dst.getD 0) (IB.1 d3) ig (λk L=>by grind) (λk L=>by grind [By]);rw[a7]at e1 e2 e3;have a8:=Z02 T M (Ax.1 d1) (Ax.1 d2) (IB.1 d3) (Ax.1 d4) (BH [] (By [] ([]:List (Nat×Row))) (o.dst.getD 0)) (o.dst.getD 0);have a0:=e1.cong a8;have a9:tm.map (HE [])=tm:=by
       conv=>rhs;rw[<-List.map_id tm]
       rfl
      rw[a9]at a0;rw[UY d5]at e2;exact⟨x,he,O _ _ _ _ _ x w' V a0 e2 (I_ d5)⟩
   grind
 grind
theorem Qud {rk ri:Nat->Nat}:∀{args:List TV},Al TV.plainB args=true->args.map (TV.ren rk ri)=args
 |[],_=>rfl
 |a::l,h=>by
  simp only[Al]at h;obtain⟨h1,h2⟩:=cond_none' h;simp only[bj];rw[UY h1,Qud h2]
 where cond_none' {c p:Bool} (h:cond c p false=true):c=true/\p=true:=by grind
theorem Qqq (x:Nat):x.blt 0=false:=rfl
theorem Ze3 (j:Nat) (r:Row):By [] [(j,r)]=[j]:=by
 have D:(base.ble j&&(j-base).blt 0)=false:=by
  rw[Qqq,Bool.and_false]
 unfold By;simp only[dg,D,ay];rfl
theorem Zz7 (j d:Nat):BH [] [j] d j=IK d:=by
 have D:(base.ble j&&(j-base).blt 0)=false:=by
  rw[Qqq,Bool.and_false]
 unfold BH IK;simp only[dg,D,ay,pos,Nat.beq_refl,ak,Nat.add_zero]
theorem Z7w (X:Ak P C) (hR:RelE Z tm aB aC ρ tmps w) {o:Oper} {a:Act} {f:FuncId} {args:List TV} {xs:List Value} (h1:xs.length=args.length)
  (h2:∀(i:Nat) (a:TV) (x:Value),args[i]? =some a->xs[i]? =some x->TVR ρ w a x) (h3:execOp a.eval o=callFunc f xs.toArray) (b0:∀v∈args,TV.wf aB aC v) {K:TV->St->Option R} {r:R}
  (h:Be C o.dst (.callF f args) ⟨tm,aB,aC⟩ K=some r) {next:Act->World->Prop} {Q:Exit->Act->World->Prop}
  (M:∀(v:TV) (a2:List TV) (D:List (Nat×Box)) (G:List (Nat×Row)) (ρ':Env) (x:Value) (w':World),K v ⟨a2,D,G⟩=some r->RelE Z a2 D G ρ' tmps w'->TVR ρ' w' v x->TV.wf D G v->next (a.put o.dst x) w'):
  o.wp P a w next Q:=by
 simp only[Be]at h;split at h
 ·rename_i g hg;have b1:=X.1 f g hg;cases Y:Al TV.plainB args<;>rw[Y]at h
  ·grind
  simp only[ak]at h;obtain⟨v,⟨b2,N⟩,L,b3⟩:=b1.run h;have T:=U3 hR h1 h2 b0 ig ig (keys:=[]) (ids:=[]) (λv L=>Qqc (Ax.1 Y v L)) (λk hk=>by grind) (show C_ aB _ _ base []=some []from rfl) (show Ft aC base []=some []from rfl);rw[Qud Y]at T;refine L4 h3 ((b3 _ xs T).mono ?_);rintro e w' ⟨x,ρ2,he,a3⟩;have a4:tm.map (HE [])=tm:=by
   conv=>rhs;rw[<-List.map_id tm]
   rfl
  have a0:(Db [] aB).map (λp=>(p.1,C8 [] p.2))=aB:=by
   conv=>rhs;rw[<-List.map_id aB]
   rfl
  cases b2 with
  |cons _ _=>grind
  |nil=>
  have a5:(N.map (·.1)).Nodup->(∀k∈By [] N,Ab aC (BH [] (By [] N) (o.dst.getD 0) k)=none)->_:=λd1 d2=>
   Sg hR ig ig (show C_ aB _ _ base []=some []from rfl) (show Ft aC base []=some []from rfl) a3 (d:=o.dst.getD 0) (by simp) d1 (λk hk=>by grind [By]) d2
  cases N with
  |nil=>
   dsimp only at L;cases a1:v.plainB<;>rw[a1]at L
   ·grind
   simp only[ak]at L;obtain⟨e1,e2,e3⟩:=a5 (by simp) (λk hk=>by grind [By]);rw[a4,a0]at e1;rw[UY a1]at e2;exact⟨x,he,M _ _ _ _ _ x w' L e1 e2 (I_ a1)⟩
  |cons p l=>
   obtain⟨k,I⟩:=p;cases l with
   |cons _ _=>grind
   |nil=>
    dsimp only at L;split at L
    ·rename_i j w0 n0;cases O:Nat.beq j k<;>rw[O]at L
     ·grind
     simp only[ak]at L;have O:=ah O;subst O;split at L
     ·grind
     rename_i b4;simp only[Ba]at L;have hf:=Ze3 j I;have hb:=Zz7 j (o.dst.getD 0);obtain⟨e1,e2,e3⟩:=a5 (by simp) (λk hk=>by grind);rw[a4,a0]at e1;rw[a0]at e3;have b5:=a3.wt (.v false [.own j w0 n0]) (by simp) (.own j w0 n0) (by simp);obtain⟨r1,a6,b6,b7⟩:=b5;simp only[Ab,Nat.beq_refl,ak,ap]at a6;subst a6;have U:TV.ren (BH [] (By ([]:List Nat) ([]:List (Nat×Box))) (o.dst.getD 0)) (BH [] (By [] [(j,I)]) (o.dst.getD 0)) (.v false [.own j w0 n0])= .c (.own (IK (o.dst.getD 0)) I.ks.length I.l.length):=by
      simp only[TV.ren,bj,dx,AC.ren,hf,hb];rw[<-b7,<-b6]
     have V:HZ (BH [] (By [] [(j,I)]) (o.dst.getD 0)) [(j,I)] (Db [] aC)=ins aC (IK (o.dst.getD 0)) I:=by
      simp only[HZ,hf,hb,Db]
     have a7:=e1;rw[V]at a7;have a8:=e2;rw[U]at a8;have a9:=e3;rw[U,V]at a9;exact⟨x,he,M _ _ _ _ _ x w' L a7 a8 a9⟩
    grind
 grind
end
open Go.RowKit
section
variable {P:Program} {C:Cfg} {ρ:Env} {w:World} {R:Type} {Z:Base} {tm:List TV} {aB:List (Nat×Box)} {aC:List (Nat×Row)} {tmps:Array Value}
theorem Zep {g:Bool} {sz off:Nat} {cells:List AC} {v:TV} (D:Dy g sz cells off=some v) (hb:∀a∈cells,AC.wf aB aC a):TV.wf aB aC v:=by
 unfold Dy at D;cases g
 ·simp only[ay]at D;split at D
  ·rename_i c I;simp at D;subst D;intro c' L;grind
  grind
 ·simp only[ak]at D;cases G:Nat.ble (off+sz) cells.length<;>rw[G]at D
  ·grind
  ·simp at D;subst D;intro c I;exact hb c (dt (dy I))
theorem Zzo {a N:TV} (D:a.hasOwn=false) (L:a.res aC=some N):a=N:=by
 have O:∀(cs G:List AC),cs.any AC.isOwn=false->Ev aC cs=some G->cs=G:=by
  intro cs;induction cs with
  |nil=>grind [Ev]
  |cons b cs T=>
   intro G D h;simp only[List.any_cons,Bool.or_eq_false_iff]at D;simp only[Ev]at h;split at h
   ·rename_i b' I;split at h
    ·rename_i U M;simp at h;subst h;rw[T _ D.2 M];have V:=D.1;cases b<;>simp only[AC.res]at I<;>first|(simp at I;done)|grind [AC.isOwn]|grind
    grind
   grind
 cases a with
 |vD=>grind [TV.res]
 |tup=>grind [TV.res]
 |v g cs=>
  simp only[TV.res]at L;split at L
  ·rename_i l h;simp at L;subst L;rw[O _ _ D h]
  grind
theorem Zcy {t e:TypeId} {i:TypeInfo} {z:Value} (D:P.underlying t=some (.slice e)) (G:P.info? e=some i) (I:i.zero=some z) {kl kc:IntKind} {n:Nat} (hb:n*i.bytes<=140737488355328) (L:n<=140737488355328):
  ∃(w':World) (arr:Array Value),(Instr.makeSlice t (.int kl (n:Int)) (.int kc (n:Int))).run P w= .ok (.slice (some ⟨w.heap.size,0,none⟩) n n) w'/\w'=w.alloc (.cells arr e)/\
   arr.toList=(List.range (n*i.size)).map λj=>z.cells[j%z.cells.size]! :=by
 have e1:((n*i.bytes:Nat):Int)=(n:Int)*(i.bytes:Int):=cd _ _;have e2:(i.bytes:Int)*(n:Int)<=281474976710656:=by rw[iv];omega
 have h:=run_make w t e i z D G I kl kc (n:Int) (n:Int) (by omega) (cz _) e2 (by omega);rw[af]at h;exact⟨_,madeCells z.cells (n*i.size),h,rfl,by simp[madeCells]⟩
theorem Qm2 (a3:Ak P C) (T:RelE Z tm aB aC ρ tmps w) {o:Oper} {a:Act} {p:Prim} (hp:Jj P ρ w a.eval o p) (a2:Prim.wf aB aC p) (g6:Prim.isApp (some p)=false) {K:TV->St->Option R} {r:R}
  (h:Be C o.dst p ⟨tm,aB,aC⟩ K=some r) {next:Act->World->Prop} {Q:Exit->Act->World->Prop}
  (G:∀(v:TV) (d3:List TV) (a4:List (Nat×Box)) (b0:List (Nat×Row)) (ρ':Env) (x:Value) (w':World),K v ⟨d3,a4,b0⟩=some r->RelE Z d3 a4 b0 ρ' tmps w'->TVR ρ' w' v x->TV.wf a4 b0 v->next (a.put o.dst x) w'):
  o.wp P a w next Q:=by
 cases p with
 |val v=>
  obtain⟨x,X,U⟩:=hp;exact HL X (G v _ _ _ ρ x w h T U a2)
 |load g sz key off=>
  obtain⟨t,X,U,V⟩:=hp;simp only[Be]at h;split at h
  ·rename_i b Y;split at h
   ·rename_i v hv;obtain⟨arr,q1,q2,q3⟩:=T.bx key b Y;obtain ⟨x, q4, q5⟩ := U6 (b := ρ.bx key) (o := 0) X U hv q2 (λj y hj => by
     simp only[fg];rw[cell_of_row w _ j arr b.ty (0,0) q1]
     grind)
    rw[fg]at q4;rw[q4]at V;refine HL V (G v _ _ _ ρ x w h T q5 ?_);have hb:=T.wb key b Y;unfold Dy at hv;cases g
    ·simp only[ay]at hv;split at hv
     ·rename_i c M;simp at hv;subst hv;intro c' b7;grind
     grind
    ·simp only[ak]at hv;cases b1:Nat.ble (off+sz) b.cells.length<;>rw[b1]at hv
     ·grind
     ·simp at hv;subst hv;intro c M;exact hb c (dt (dy M))
   grind
  grind
 |store key off cs=>
  obtain⟨t,x,X,U,V⟩:=hp;simp only[Be]at h;split at h
  ·rename_i b Y;cases hb:Nat.ble (off+cs.length) b.cells.length<;>rw[hb]at h
   ·grind
   ·simp only[ak,Ba]at h;have hle:=ba hb;obtain⟨arr,q1,q2,q3⟩:=T.bx key b Y;have hlen:=U.length;rw[hlen]at X hle;have q4:=Qvb X q1 (by rw[<-fx,<-q2.length];exact hle) U.one;rw[q4]at V;refine Q8u V (G .vD _ _ _ ρ undef _ h (T.store Y ?_ ?_) trivial trivial)
    ·intro c M;rw[Gs _ _ _ (by omega)]at M;simp only[be]at M;rcases M with(M|M)|M
     ·exact T.wb key b Y c (dy M)
     ·exact a2.2 c M
     ·exact T.wb key b Y c (dt M)
    ·exact q2.splice off U
  grind
 |new ty cs=>
  obtain⟨arr,X,U⟩:=hp;simp only[Be]at h;split at h
  ·rename_i d hd;split at h
   ·grind
   ·rename_i hn;simp only[Ba]at h;refine HL U (G _ _ _ _ _ _ _ h (T.new hn a2 X) ?_ ?_)
    ·grind [TVR.c',CC,B6]
    ·intro c M;simp at M;subst M;exact⟨_,Eu _ _ _ hn⟩
  grind
 |newS ty n cs=>
  obtain⟨arr,X,U⟩:=hp;simp only[Be]at h;split at h
  ·rename_i d hd;split at h
   ·grind
   ·rename_i hn;simp only[Ba]at h;refine HL U (G _ _ _ _ _ _ _ h (T.new hn a2 X) ?_ ?_)
    ·grind [TVR.c',CC,B6]
    ·intro c M;simp at M;subst M;exact⟨_,Eu _ _ _ hn⟩
  grind
 |rload g sz id idx sub=>
  obtain⟨t,b,X,U,hb,V⟩:=hp;obtain⟨D,O,a5⟩:=a2;simp only[Be,O]at h;split at h
  ·rename_i v hv;obtain⟨q1,q2,_,xs,q3,q4⟩:=T.ro id D O;have a7:D.l[idx]? =some D.l[idx]:=ag a5;have d4:=q4.2.2 idx _ a7;have hf:D.f idx=D.l[idx]:=by
    show AT D.ks (nth [] D.l idx)=_;rw[B8,List.getD,a7];exact q4.2.1 _ (ca a5)
   have g7:Rb w b (Hz (ρ.rv id)+idx*D.w) (cut xs (idx*D.w) D.w):=by
    intro j y hj;simp only[cut,ie]at hj;split at hj
    ·rw[fh]at hj;have:=Qy q3 hb (idx*D.w+j) y hj
     grind
    ·grind
   rw[hf]at hv;obtain⟨x,q5,q6⟩:=U6 (b:=b) (o:=Hz (ρ.rv id)+idx*D.w) (ρ:=ρ) X U hv (d4.mono λ_ _ _ hh=>IF hh) g7;rw[<-q2,jd]at q5;rw[q5]at V;exact HL V (G v _ _ _ ρ x w h T q6 (Zep hv (Zlg d4)))
  grind
 |rstore id idx sub cs=>
  obtain⟨t,x,b,X,U,hb,V⟩:=hp;obtain⟨D,O,a5⟩:=a2;simp only[Be,O]at h;cases M:(Nat.ble (sub+cs.length) D.w&&Al AC.plain cs)<;>rw[M]at h
  ·grind
  ·simp only[ak]at h;split at h
   ·rename_i c b8;simp only[Ba]at h;simp only[aj]at M;have hle:=ba M.1;obtain⟨q1,q2,_,xs,q3,q4⟩:=T.ro id D O;have a7:D.l[idx]? =some D.l[idx]:=ag a5;have hf:D.f idx=D.l[idx]:=by
     show AT D.ks (nth [] D.l idx)=_;rw[B8,List.getD,a7];exact q4.2.1 _ (ca a5)
    rw[hf]at b8;rcases q3.2 with⟨e1,e2⟩|⟨g',oo,cap,cur,e1,e3,e4,e5,e6,e7⟩
    ·omega
    ·have g8:b=g':=by rw[e1]at hb;simp[Value.ownBlock]at hb;exact hb.symm
     subst g8;have hlen:=U.length;have d5:=q4.1;have hbound:idx*D.w+sub+cs.length<=D.n*D.w:=by
      have:idx*D.w+D.w<=D.n*D.w:=by
       calc idx*D.w+D.w=(idx+1)*D.w:=by grind
        _<=D.n*D.w:=bq _ a5
      omega
     have g9:D.n*D.w<=cap*D.w:=bq _ e4;rw[q2]at V;rw[hlen]at X hle hbound;have d6:Hz (ρ.rv id)=oo:=by rw[e1];rfl
     rw[d6]at V;have q5:=Qvb (off:=oo+(idx*D.w+sub)) X e3 (by omega) U.one;rw[q5]at V;have e0:oo+cap*D.w<=cur.toList.length:=by rw[fx];exact e6
     have h0:(splice cur.toList (oo+(idx*D.w+sub)) x.cells.toList).drop oo=splice (cur.toList.drop oo) (idx*D.w+sub) x.cells.toList:=by
      rw[Gs _ _ _ (by omega),Gs _ _ _ (by grind),df,iw (by grind),List.drop_take,show oo+(idx*D.w+sub)-oo=idx*D.w+sub from by omega,jq,df];congr 2;rw[jd]
     have l0:((splice cur.toList (oo+(idx*D.w+sub)) x.cells.toList).drop oo).take (D.n*D.w)=splice xs (idx*D.w+sub) x.cells.toList:=by
      rw[h0];have i0:cap*D.w<=(cur.toList.drop oo).length:=by rw[co];omega
      generalize cur.toList.drop oo=L at e7 i0⊢;rw[Gs _ _ _ (by omega),Gs _ _ _ (by grind),<-e7];apply iq;intro j;simp only[ie,gr,d9,aq,fh];by_cases hj:j<D.n*D.w
      ·rw[ab hj];by_cases j1:j<idx*D.w+sub
       ·grind
       ·by_cases j2:j<idx*D.w+sub+x.cells.toList.length
        ·grind
        grind
      ·grind
     have i1: ¬ρ.im b:=λhi=>(T.ib b hi).2.2 id D O hb;have hold:∀k,k≠b->(w.setRow b (splice cur.toList (oo+(idx*D.w+sub)) x.cells.toList).toArray).heap[k]? =w.heap[k]? :=λk Y=>setRow_other w b k _ Y;have b3:∀(a:AC) (y:Value),CP ρ.im w a y->CP ρ.im (w.setRow b (splice cur.toList (oo+(idx*D.w+sub)) x.cells.toList).toArray) a y:=λa y hh=>CP.mono (λ_ h=>h) (λk Y=>hold k (λe=>i1 (e▸Y))) a y hh;have e8:CL (CP ρ.im w) c (splice (cut xs (idx*D.w) D.w) sub x.cells.toList)/\AT D.ks c=c:=
      RT b8 (((q4.2.2 idx _ a7).mono λ_ _ _ hh=>IF hh).splice sub U)
     have a1:=T.turnRow (id:=id) O (r':=⟨D.ty,D.ks,D.l.set idx c⟩) (v':=ρ.rv id)
      (xs:=splice xs (idx*D.w+sub) x.cells.toList) (w':=w.setRow b (splice cur.toList (oo+(idx*D.w+sub)) x.cells.toList).toArray)
      ⟨rfl,rfl,rfl,by simp,λk _ Y=>hold k (λe=>Y (by grind))⟩ rfl
      ⟨by simp_all [Row.n,Lz], .inr ⟨b,oo,cap,_,by grind,setRow_heap w b cur _ D.ty _ e3,by grind,e5,by grind [Lz],by grind⟩⟩
      ⟨by grind [Lz],λc' b7=>by
       rcases fy b7 with b7|rfl
       ·exact q4.2.1 c' b7
       grind,λi c' hi=>by
       simp only[List.getElem?_set]at hi;by_cases c4:idx=i
       ·subst c4;rw[ab rfl,ab a5]at hi;simp at hi;subst hi;have e:=Z1a xs x.cells.toList idx D.w sub D.n a5 d5 (by omega);show CL _ c (cut _ (idx*D.w) D.w);rw[e];exact e8.1.mono λa _ y hh=>b3 a y hh
       ·rw[aa c4]at hi;have l1:i<D.n:=(f7.1 hi).1;have e:=Zin xs x.cells.toList idx i D.w sub D.n a5 (λe=>c4 e.symm) d5 (by omega);show CL _ c' (cut _ (i*D.w) D.w);rw[e];exact(q4.2.2 i c' hi).mono λa _ y hh=>b3 a y hh⟩
      (.inl rfl) (.inl ⟨rfl,by grind⟩)
     exact Q8u V (G .vD _ _ _ _ undef _ h a1 trivial trivial)
   grind
 |newRow el ks l=>
  obtain⟨arr,X,U,V,h4⟩:=hp;simp only[Be]at h;split at h
  ·rename_i d hd;split at h
   ·grind
   ·rename_i hn;simp only[Ba]at h;have hb:Below w.heap.size w (w.alloc (.cells arr el)):=(Below.refl _ _).alloc (cm _) _;have N:RowC ρ.im (w.alloc (.cells arr el)) ks l arr.toList:=V.mono (λ_ h=>h) (λb I=>Below.heap_alloc w _ b (T.ib b I).1);have a8:=T.addRow (d:=C.rowAs d) hn (r:=⟨el,ks,l⟩) (v':= .slice (some ⟨w.heap.size,0,none⟩) l.length l.length) (xs:=arr.toList) (w':=w.alloc (.cells arr el)) hb X
     ⟨V.1, .inr ⟨w.heap.size,0,l.length,arr,rfl,heap_alloc_new w _,cm _,U,by rw[<-fx,fg];exact Nat.le_of_eq V.1.symm,by
      show List.take (l.length*ks.length) _=_;rw[<-V.1,f8,jg]⟩⟩ N
     (λg hg=>by grind [Value.ownBlock])
    refine HL h4 (G _ _ _ _ _ _ _ h a8 ?_ ?_)
    ·exact TVR.c' ⟨by grind [B6],by grind [B6], .inr ⟨_,_,_,rfl⟩⟩
    ·intro c M;simp at M;subst M;exact⟨_,Eu _ _ _ hn,rfl,rfl⟩
  grind
 |newView el ks l=>
  obtain⟨arr,X,U,V,h4⟩:=hp;simp only[Be]at h;have hb:Below w.heap.size w (w.alloc (.cells arr el)):=(Below.refl _ _).alloc (cm _) _;have N:RowC ρ.im (w.alloc (.cells arr el)) ks l arr.toList:=V.mono (λ_ h=>h) (λb I=>Below.heap_alloc w _ b (T.ib b I).1);have hg:=T.growIm (im':=λb=>ρ.im b\/b=w.heap.size) hb (λb h=> .inl h) (λb h=>h.imp id λe=>by simp_all);refine HL h4 (G _ _ _ _ _ _ _ h hg ?_ ?_)
  ·refine TVR.c' ?_;have b9:E4 (w.alloc (.cells arr el)) el ks.length (.slice (some ⟨w.heap.size,0,none⟩) l.length l.length) l.length arr.toList:=
    ⟨V.1, .inr ⟨w.heap.size,0,l.length,arr,rfl,heap_alloc_new w _,cm _,U,by rw[<-fx,fg];exact Nat.le_of_eq V.1.symm,by rw[f8,<-V.1,jg]⟩⟩
   exact IF (Yn b9 (N.mono (λ_ h=> .inl h) (λ_ _=>rfl)) (λg hg=> .inr (by grind [Value.ownBlock])))
  ·intro c M;simp at M;subst M;trivial
 |make el ks bytes n z=>
  obtain⟨t,i,zv,kl,kc,X,U,V,h4,h5,h6,h7,h8,h9,e9⟩:=hp;subst h5;simp only[Be]at h;split at h
  ·rename_i d hd;split at h
   ·grind
   ·rename_i hn;cases M:(decide (0<=n)&&decide (n*(i.bytes:Int)<=140737488355328))<;>rw[M]at h
    ·grind
    ·simp only[ak,Ba]at h;simp only[aj,dl]at M;have f0:((n.toNat:Nat):Int)=n:=Int.toNat_of_nonneg M.1;have i2:zv.cells.toList.length=ks.length:=by
      rw[<-h9.length,<-h8];exact Tb _ _
     have i3:n.toNat*i.bytes<=140737488355328:=by
      have U:=M.2;rw[<-f0]at U;have e1:((n.toNat*i.bytes:Nat):Int)=(n.toNat:Int)*(i.bytes:Int):=cd _ _;omega
     have l2:n.toNat<=n.toNat*i.bytes:=jk _ h7;obtain⟨w',arr,p1,p2,p3⟩:=Zcy (P:=P) (w:=w) (t:=t) (e:=el) (i:=i) (z:=zv) X U V (kl:=kl) (kc:=kc) (n:=n.toNat) i3 (by omega);rw[f0]at p1;rw[p1]at e9;subst p2;have c5:zv.cells.size=ks.length:=by rw[<-fx];exact i2
     have f1:arr.toList.length=n.toNat*ks.length:=by rw[p3,h4,c5];simp[c5]
     have k9:∀j,j<n.toNat->cut arr.toList (j*ks.length) ks.length=zv.cells.toList:=by
      intro j hj;have hle:j*ks.length+ks.length<=n.toNat*ks.length:=by
       calc j*ks.length+ks.length=(j+1)*ks.length:=by grind
        _<=n.toNat*ks.length:=bq _ hj
      apply iq;intro q;simp only[cut,ie,fh];by_cases hq:q<ks.length
      ·rw[ab hq,p3,h4,c5];rw[du,List.getElem?_range (by omega)];simp_all [Nat.mod_eq_of_lt]
      ·grind
     have hb:Below w.heap.size w (w.alloc (.cells arr el)):=(Below.refl _ _).alloc (cm _) _;have c6:RowC ρ.im w ks (List.replicate n.toNat z) arr.toList:=by
      refine⟨by grind,λc M=> ?_,λj c hj=> ?_⟩
      ·grind
      ·grind
     have N:RowC ρ.im (w.alloc (.cells arr el)) ks (List.replicate n.toNat z) arr.toList:=c6.mono (λ_ h=>h) (λb I=>Below.heap_alloc w _ b (T.ib b I).1);have i4:(List.replicate n.toNat z).length=n.toNat:=by simp
     have a8:=T.addRow (d:=d) hn (r:=⟨el,ks,List.replicate n.toNat z⟩) (v':= .slice (some ⟨w.heap.size,0,none⟩) n.toNat n.toNat) (xs:=arr.toList) (w':=w.alloc (.cells arr el)) hb h6
      ⟨by grind, .inr ⟨w.heap.size,0,n.toNat,arr,by grind,heap_alloc_new w _,by grind,by grind [maxLen],by grind,by grind⟩⟩ N
      (λg hg=>by grind [Value.ownBlock])
     refine HL e9 (G _ _ _ _ _ _ _ h a8 ?_ ?_)
     ·exact TVR.c' ⟨by grind [B6],by grind [B6], .inr ⟨_,_,_,by rw[i4]⟩⟩
     ·intro c M;simp at M;subst M;exact⟨_,Eu _ _ _ hn,by omega,rfl⟩
  grind
 |cutR id a=>
  simp only[Be]at h;split at h
  ·rename_i D O;have hle:Nat.ble a D.l.length=true:=by
    cases hb:Nat.ble a D.l.length
    ·grind
    ·rfl
   rw[hle]at h;simp only[ak]at h;have hle:a<=D.n:=ba hle;simp only[Ba]at h;obtain⟨q1,q2,_,xs,q3,q4⟩:=T.ro id D O;have hlen:(D.l.drop a).length=D.n-a:=by simp[Row.n]
   have key : ∃ ad cap, ρ.rv id = .slice ad D.n cap /\ D.n <= cap /\ (let v' : Value := .slice (if cap = a then ad else ad.map (·.add (a * ρ.wd id))) (D.n - a) (cap - a)
     v'.ownBlock=(ρ.rv id).ownBlock/\E4 w D.ty D.w v' (D.n-a) (xs.drop (a*D.w))/\((v'= .slice none 0 0/\D.n-a=0)\/∃g o c,v'= .slice (some ⟨g,o,none⟩) (D.n-a) c)):=by
    have f2:(xs.drop (a*D.w)).length=(D.n-a)*D.w:=by rw[co,q3.1,Nat.sub_mul]
    rcases q3.2 with⟨e1,e2⟩|⟨g,oo,cap,cur,e1,e3,e4,e5,e6,e7⟩
    ·refine⟨none,0,by grind,by omega,?_⟩;simp_all
    ·refine⟨_,cap,e1,e4,?_⟩;rw[e1,q2];by_cases f3:cap=a
     ·have g6:D.n=a:=by omega
      simp only[f3,fo];refine⟨rfl,⟨f2, .inr ⟨g,oo,a-a,cur,rfl,e3,by omega,by omega,by grind,?_⟩⟩, .inr ⟨g,oo,_,rfl⟩⟩
      grind
     ·simp only[f3,iy,Option.map_some,Addr.add_lit];refine⟨rfl,⟨f2, .inr ⟨g,oo+a*D.w,cap-a,cur,rfl,e3,by omega,by omega,?_,?_⟩⟩, .inr ⟨g,oo+a*D.w,_,rfl⟩⟩
      ·rw[Nat.sub_mul];have:a*D.w<=cap*D.w:=bq _ (by omega);omega
      grind [List.drop_take,List.drop_drop]
   obtain⟨ad,cap,k1,k2,k3,k4,k5⟩:=key;have f4:=hp ad D.n cap k1 k2 hle;have c7:=T.kill id;have N:RowC ρ.im w D.ks (D.l.drop a) (xs.drop (a*D.w)):=by
    refine⟨by rw[co,q3.1,co,<-Nat.sub_mul],λc M=>q4.2.1 c (dt M),λi c hi=> ?_⟩;rw[fh]at hi;have:=q4.2.2 (a+i) c hi;have e:cut (xs.drop (a*D.w)) (i*D.ks.length) D.ks.length=cut xs ((a+i)*D.ks.length) D.ks.length:=by
     simp only[cut,jq,i9]
    rw[e];exact this
   have a1:=c7.turnRow (id:=id) O (r':=⟨D.ty,D.ks,D.l.drop a⟩) (v':=_) (xs:=xs.drop (a*D.w)) (w':=w) ⟨rfl,rfl,rfl,cm _,λ_ _ _=>rfl⟩ rfl (by grind) N (.inl k3)
    (.inr ⟨λv hv=>by grind [TV.kill_free],λk b Y a' c8=>by
     rw[Fl]at Y;cases hl:Ab aB k with
     |none=>grind
     |some b'=>grind [Box.kill,AC.kill_free]⟩)
   refine HL f4 (G _ _ _ _ _ _ _ h a1 ?_ ?_)
   ·refine TVR.c' ⟨by grind [B6],by omega,?_⟩
    grind
   ·intro c M;simp at M;subst M;exact⟨_,EG _ _ _ _ O,by omega,rfl⟩
  grind
 |append e ks bytes s x=>
  obtain⟨t,ty,i,z,sv,xv,X,U,V,h4,h5,h6,h7,h8,h9⟩:=hp;subst h5;simp only[Be]at h;split at h
  ·rename_i m f5;obtain⟨ad,c,news,rfl,N,b4⟩:=Zb9 T f5 h8;split at h
   ·
    split at h
    ·rename_i d hd;split at h
     ·grind
     ·rename_i hn;cases hb:(Nat.ble 1 ks.length&&Nat.ble 1 i.bytes)<;>rw[hb]at h
      ·grind
      ·simp only[ak]at h;simp only[aj]at hb;have l3:=ba hb.1;have i5:=ba hb.2;cases b1:Nat.ble (m.length*i.bytes) 140737488355328<;>rw[b1]at h
       ·grind
       ·simp only[ak,Ba]at h;have hbound:=ba b1;have hm:m.length<=m.length*i.bytes:=jk _ (by omega);simp only[CC,CP]at h7;subst h7;obtain⟨v',w',q1,q2,q3,q4⟩:=Qv3 (P:=P) (ty:=ty) (c:=c) X U V h4 h6 (by omega) (W_ w e ks.length) N.1 b4 (N.one (by omega)) (by grind [maxLen]) (by grind);rw[q1]at h9;simp only[fg,bf]at q2;have a9:Below w.heap.size w w':=⟨q3.os,q3.tape,q3.output,q3.size,λk Y=>q3.block k Y (by simp[Value.ownBlock])⟩;have a8:=T.addRow (d:=d) hn (r:=⟨e,ks,m⟩) (v':=v') (xs:=news) (w':=w') a9 (by grind) q2
         (N.mono (λ_ h=>h) (λb I=>a9.block b (T.ib b I).1)) (λg' j3=>by grind [Value.ownBlock])
        refine HL h9 (G _ _ _ _ _ _ _ h a8 ?_ ?_)
        ·refine TVR.c' ⟨by grind [B6],by grind [B6],?_⟩;rcases q2.2 with⟨e1,e2⟩|⟨g',oo,cap,cur,e1,_⟩
         ·grind
         grind
        ·intro c M;simp at M;subst M;exact⟨_,Eu _ _ _ hn,rfl,rfl⟩
    grind
   ·
    rename_i id w1 n1;split at h
    ·rename_i D O;cases hb:(C6 ks D.ks&&Nat.beq D.ty e&&Nat.ble 1 i.bytes)<;>rw[hb]at h
     ·grind
     ·simp only[ak]at h;simp only[aj]at hb;have e1:=IH hb.1.1;have e2:=ah hb.1.2;have i5:=ba hb.2;subst e1 e2;cases b1:Nat.ble ((D.l++m).length*i.bytes) 140737488355328<;>rw[b1]at h
      ·grind
      ·simp only[ak,Ba]at h;have hbound:=ba b1;rw[aq]at hbound;have hm:D.l.length+m.length<=(D.l.length+m.length)*i.bytes:=jk _ (by omega);obtain⟨q1,q2,_,xs,q3,q4⟩:=T.ro id D O;obtain⟨c1,c2,c3⟩:=h7;subst c1;obtain⟨v',w',p1,p2,p3,p4⟩:=Qv3 (P:=P) (ty:=ty) (c:=c) X U V h4 h6 q1 q3 N.1 b4 (N.one q1) (by simp only[maxLen,Row.n];omega) hbound;rw[p1]at h9;have c7:=T.kill id;have f6:∀b,ρ.im b->w'.heap[b]? =w.heap[b]? :=λb I=>p3.block b (T.ib b I).1 (λe=>(T.ib b I).2.2 id D O e.symm);have g0:=(q4.append N).mono (λ_ h=>h) f6;have a1:=c7.turnRow (id:=id) O (r':=⟨D.ty,D.ks,D.l++m⟩) (v':=v') (xs:=xs++news) (w':=w') p3 rfl (by grind) g0
        (Qs p4 (λx=>x) (λx g' j3=>by grind))
        (.inr ⟨λv hv=>by grind [TV.kill_free],λk b Y a' c8=>by
         rw[Fl]at Y;cases hl:Ab aB k with
         |none=>grind
         |some b'=>grind [Box.kill,AC.kill_free]⟩)
       refine HL h9 (G _ _ _ _ _ _ _ h a1 ?_ ?_)
       ·refine TVR.c' ⟨by grind [B6],by omega,?_⟩;rcases p2.2 with⟨e1,e2⟩|⟨g',oo,cap,cur,e1,_⟩
        ·grind
        grind
       ·intro c M;simp at M;subst M;exact⟨_,EG _ _ _ _ O,by grind,rfl⟩
    grind
   grind
  grind
 |call f args=>
  obtain⟨xs,X,U,V⟩:=hp;simp only[Be]at h;split at h
  ·rename_i g hg;split at h
   ·rename_i as has;obtain⟨f1,k0⟩:=Qp1 has;have k6:=a3.1 f g hg;obtain⟨v,mem',hv,k7⟩:=k6.run h;split at hv
    ·cases b2:((!(args.any TV.hasOwn)||v.flat)&&v.plainB)<;>rw[b2]at hv
     ·grind
     ·simp only[ak]at hv;simp only[aj]at b2
      let b5:Nat->Prop:=λb=>ρ.im b\/(args.any TV.hasOwn=true/\∃id D,Ab aC id=some D/\(ρ.rv id).ownBlock=some b)
      have g1:∀b,b5 b->b<w.heap.size:=by
       rintro b (I|⟨_,id,D,O,I⟩)
       ·exact(T.ib b I).1
       ·exact(T.rwlt O I).2
      have b9:∀(i:Nat) (a0:TV),args[i]? =some a0->args.any TV.hasOwn=false->a0.hasOwn=false:=by
       intro i a0 c9 l4;cases hh:a0.hasOwn
       ·rfl
       ·grind
      have g2:∀(i:Nat) (a':TV) (x:Value),as[i]? =some a'->xs[i]? =some x->TVR {ρ with im:=b5} w a' x:=by
       intro i a' x c8 hx;obtain⟨_,a0,c9,O⟩:=k0 i a' c8;have g3:∀(a:AC) (y:Value),CP ρ.im w a y->CP b5 w a y:=λa y hh=>CP.mono (λ_ h=> .inl h) (λ_ _=>rfl) a y hh;cases b6:args.any TV.hasOwn
       ·grind [Zzo,Q21]
       ·refine Zdx (aB:=aB) ?_ O (a2 a0 (da c9)) (U i a0 x c9 hx);intro b b' y I hy l5;cases b<;>simp only[AC.res]at I<;>try (simp at I;done)
        case own id w1 n1=>
         split at I
         ·rename_i D c0;simp at I;subst I;obtain⟨q1,q2,_,ys,q3,q4⟩:=T.ro id D c0;obtain⟨c1,c2,c3⟩:=hy;subst c1;exact Yn q3 (q4.mono (λ_ h=> .inl h) (λ_ _=>rfl)) (λg hg=> .inr ⟨b6,id,D,c0,hg⟩)
         grind
        all_goals
         simp at I;subst I;exact g3 _ _ hy
      have k8:Gt (λb=>b<w.heap.size) w:=Z.gt.mono λg cs _ hg=>⟨T.fs g hg,T.fr.block g hg⟩;have d0:RelE (Ed (λb=>b<w.heap.size) w {ρ with im:=b5} [] k8) as [] [] {ρ with im:=b5} xs.toArray w:=by
       refine⟨by grind,λi a hi=> ?_,λa ha=> ?_,λk b Y=>by grind [Ab],λk b Y=>by grind [Ab],λk k' b b' Y=>by grind [Ab],λid r hr=>by grind [Ab],
        λid id' r r' g hr=>by grind [Ab],λk b id r Y=>by grind [Ab],λb hb=>⟨g1 b hb,λk bo Y=>by grind [Ab],λid r hr=>by grind [Ab]⟩,Fr.refl _ _,λ_ h=>h,λ_ h=>h,λb h=> .inl h,λk b Y=>by grind [Ed,Ab]⟩
       ·have g4:i<xs.length:=by rw[X,<-f1];exact(f7.1 hi).1
        have e:xs.toArray.getD i undef=xs[i]:=by simp[Array.getD,g4]
        rw[e];exact g2 i a _ hi (ag g4)
       ·grind [List.getElem?_of_mem,I_]
      refine L4 V ((k7 _ xs d0).mono ?_);rintro e w' ⟨x,ρ',he,a6⟩;have a9:Below w.heap.size w w':=⟨a6.fr.os,a6.fr.tape,a6.fr.output,a6.fr.size,λk Y=>a6.fr.block k Y⟩;have g5:TVR ρ' w' v x:=by simpa using a6.tv 0 v rfl
      by_cases b6:args.any TV.hasOwn=true
      ·have d1:v.flat=true:=by have:=b2.1;rw[b6]at this;simpa using this
       have d2:RelE Z tm aB aC ρ tmps w':=T.growIm (im':=ρ.im) a9 (λ_ h=>h) (λ_ h=> .inl h);exact⟨x,he,G v _ _ _ ρ x w' hv d2 (Zqh d1 g5) (I_ b2.2)⟩
      ·have d2 : RelE Z tm aB aC { ρ with im := ρ'.im } tmps w' := T.growIm a9 (λb hb => a6.i0 b (.inl hb)) (λb hb => by
        rcases a6.i1 b hb with I|I
        ·rcases I with I|⟨I,_⟩
         ·grind
         grind
        ·exact .inr ⟨Nat.not_lt.1 I,(a6.ib b hb).1⟩)
       exact⟨x,he,G v _ _ _ _ x w' hv d2 (Q21 (ρ:=ρ') (ρ2:={ρ with im:=ρ'.im}) b2.2 (λ_ _ _ h=>h) g5) (I_ b2.2)⟩
    grind
   grind
  grind
 |callM f args=>
  obtain⟨xs,X,U,V⟩:=hp;exact Znc a3 T X U V a2 h G
 |callD f args=>
  obtain⟨xs,X,U,V⟩:=hp;exact Zg9 a3 T X U V a2 h G
 |callF f args=>
  obtain⟨xs,X,U,V⟩:=hp;exact Z7w a3 T X U V a2 h G
 |appD e ks bytes s x=>grind [Prim.isApp]
theorem Zms (I:Ak P C) (Y:RelE Z tm aB aC ρ tmps w) {o:Oper} {a:Act} {p:Prim} (hp:Jj P ρ w a.eval o p) (N:Prim.wf aB aC p) {K:TV->St->Option R} {r:R}
  (h:Be C o.dst p ⟨tm,aB,aC⟩ K=some r) {next:Act->World->Prop} {Q:Exit->Act->World->Prop}
  (L:∀(v:TV) (M:List TV) (D:List (Nat×Box)) (G:List (Nat×Row)) (T:Env) (x:Value) (w':World),K v ⟨M,D,G⟩=some r->RelE Z M D G T tmps w'->TVR T w' v x->TV.wf D G v->next (a.put o.dst x) w'):
  o.wp P a w next Q:=by
 cases U:Prim.isApp (some p)
 ·grind [Qm2]
 ·cases p<;>simp[Prim.isApp]at U
  rename_i e ks bytes s x;by_cases O:s= .nilSl
  ·subst O;simp only[Be]at h;split at h
   ·rename_i m hm;split at h
    ·rename_i d hd;have h':Be C o.dst (.append e ks bytes .nilSl x) ⟨tm,aB,aC⟩ (λv s=>K v ⟨s.tmps.map (TV.kill d),s.aB.map λp=>(p.1,p.2.kill d),s.aC⟩)=some r:=by
      simp only[Be,hm,hd];split at h
      ·omega
      ·grind [Ba]
     refine Qm2 I Y (p:= .append e ks bytes .nilSl x) hp N rfl h' ?_;intro v M D G T y w' hK V hv X;refine L _ _ _ _ T y w' hK (V.kill d) hv ?_;have a0:∀k,Ab (D.map λp=>(p.1,p.2.kill d)) k=(Ab D k).map (Box.kill d):=λk=>Fl (Box.kill d) D k;exact TV.wf_mono (λa=>AC.wf_mono (λk b hk=>⟨b.kill d,by grind⟩) (λk r hk=>⟨r,hk,rfl,rfl⟩)) X
    grind
   grind
  ·have h':Be C o.dst (.append e ks bytes s x) ⟨tm,aB,aC⟩ K=some r:=by
    simp only[Be]at h⊢;split at h
    ·grind
    ·omega
   exact Qm2 I Y (p:= .append e ks bytes s x) hp N rfl h' L
end
open Go.RowKit
section
variable {P:Program} {C:Cfg} {R:Type}
theorem Qbp (op:BinOp) (k:IntKind) (a b:Int) (K:AC->Option R):Hr op k a b K=(Hr op k a b some).bind K:=by
 cases op<;>simp only[Hr,am]
 all_goals grind
theorem Tr {i:Int}:∀(n k:Nat) {R S:Type} (f:Nat->Option R) (K:R->Option S),GJ i n k (λj=>(f j).bind K)=(GJ i n k f).bind K
 |0,k,_,_,f,K=>rfl
 |n+1,k,_,_,f,K=>by
  simp only[GJ];rw[Tr n (k+1) f K]
  grind
theorem YZ (g:Int->Int->Int) (k:IntKind):∀(l:List TV) (a:Int) (K:Prim->Option R),Fe g k a l K=(Fe g k a l some).bind K
 |[],a,K=>by rfl
 |t::l,a,K=>by
  unfold Fe;split
  ·rename_i k' b;cases kEq k k'
   ·rfl
   ·exact YZ g k l (g a b) K
  ·rfl
theorem Zsl (b:Builtin) (D:List TypeId) (args:List TV) (K:Prim->Option R):Jy P b D args K=(Jy P b D args some).bind K:=by
 unfold Jy;split
 case h_6=>grind [YZ]
 case h_7=>grind [YZ]
 case h_8=>
  split
  ·grind
  ·rfl
 all_goals
  grind
theorem Qm (D:Operand->TV) (dst:Option Tmp) (o:Op) (K:Prim->Option R):opK P C D dst o K=(opK P C D dst o some).bind K:=by
 cases o
 case pick c a b=>
  simp only[opK]
  grind
 case build t parts=>
  simp only[opK]
  grind
 case buildSlice t n parts=>
  simp only[opK];split
  ·grind
  ·rfl
 case makeSlice t len cap=>
  simp only[opK]
  grind
 case makeFunc I a b=>
  simp only[opK]
  grind
 case store t a x=>
  simp only[opK]
  grind
 case binOp op t x y L=>
  simp only[opK];split
  ·cases(kEq _ _||Nl op)
   ·rfl
   ·simp only[ak];rename_i k a k' b _ _;have G:=Qbp op k a b (λv=>(some (Prim.val (TV.c v)):Option Prim));rw[Qbp,G]
    grind
  ·grind
  ·grind
  ·grind
  ·grind
  ·grind
  ·rfl
 case indexAddr t x ix=>
  simp only[opK];split
  ·grind [Tr]
  ·split
   ·grind
   ·grind
   ·cases(Nat.beq _ _)
    ·rfl
    ·simp only[ak];grind [Tr]
   ·rfl
  ·rfl
 case index t x ix=>
  simp only[opK]
  grind [Tr]
 case slice t x lo M mx=>
  simp only[opK];split
  ·split
   ·grind
   ·grind
   ·grind
   ·rfl
  ·rfl
 case call c=>
  simp only[opK]
  grind [Zsl]
 all_goals
  simp only[opK]
  repeat' split
  all_goals rfl
end
open Go.RowKit
section
variable {P:Program} {C:Cfg} {R:Type} {aB:List (Nat×Box)} {aC:List (Nat×Row)}
theorem K1 {α:Type} {c:Bool} {p q:α} (h:cond c (some p) none=some q):c=true/\p=q:=by grind
theorem RZ (k:IntKind) (n:Int):TV.wf aB aC (.c (.int k n)):=by intro a D;simp at D;subst D;trivial
theorem FA (b:Bool):TV.wf aB aC (.c (.bool b)):=by intro a D;simp at D;subst D;trivial
theorem CA {a:AC} (h:AC.wf aB aC a):TV.wf aB aC (.c a):=by intro b hb;grind
theorem EU {a:AC} (h:TV.wf aB aC (.c a)):AC.wf aB aC a:=h a (by simp)
theorem Qug (v:Value):AC.wf aB aC (Nj v):=by
 unfold Nj;split<;>trivial
theorem Qgt:∀(l:List Value) (cs:List AC),IJ l=some cs->∀a∈cs,AC.wf aB aC a
 |[],cs,h=>by grind [IJ]
 |v::l,cs,h=>by
  simp only[IJ]at h;cases I:v.oneCell'<;>rw[I]at h
  ·grind
  ·simp only[ak]at h;split at h
   ·rename_i G L;simp at h;subst h;intro a D;simp only[av]at D;rcases D with rfl|D
    ·exact Qug v
    ·exact Qgt l G L a D
   grind
theorem Zeh (v:Value):TV.wf aB aC (ofValue v):=by
 unfold ofValue;split
 ·split
  ·rename_i h;exact Qgt _ _ h
  ·trivial
 ·trivial
 grind [CA,Qug]
theorem Zv {tm:List TV} (h:∀v∈tm,TV.wf aB aC v) (x:Operand):TV.wf aB aC (AM tm x):=by
 cases x with
 |tmp t=>
  simp only[AM,B8,List.getD];cases D:tm[t]? with
  |none=>trivial
  |some v=>grind
 |const v=>exact Zeh v
 |global=>trivial
 |func=>trivial
theorem TN {t:TypeId} {cs:List AC} (h:Jg P t=some cs):∀a∈cs,AC.wf aB aC a:=by grind [Jg,Qgt]
theorem Zaf {z:List AC} (D:∀a∈z,AC.wf aB aC a):∀n,∀a∈chunk z n,AC.wf aB aC a
 |0,a,h=>by grind [chunk]
 |n+1,a,h=>by
  simp only[chunk,be]at h;rcases h with h|h
  ·grind
  ·exact Zaf D n a h
theorem TV.cells_wf {v:TV} {cs:List AC} (h:v.cells=some cs) (D:TV.wf aB aC v):∀a∈cs,AC.wf aB aC a:=by
 cases v<;>simp[TV.cells]at h
 subst h;exact D
theorem UA {α:Type} {x:α}:∀(l:List α) (o:Nat) (D:List α),x∈splice l o D->x∈l\/x∈D
 |l,o,[],h=>by grind [Qkb]
 |[],o,_::_,h=>by grind [splice]
 |y::l,0,v::D,h=>by
  simp only[splice,av]at h;rcases h with rfl|h
  ·simp
  ·rcases UA l 0 D h with h|h
   ·grind
   grind
 |y::l,o+1,v::D,h=>by
  simp only[splice,av]at h;rcases h with rfl|h
  ·simp
  ·rcases UA l o (v::D) h with h|h
   ·grind
   grind
theorem UV {place:Nat->Option (Nat×Nat)}:∀(parts:List (Nat×TV)) (z cs:List AC),Gl place z parts=some cs->(∀a∈z,AC.wf aB aC a)->(∀p∈parts,TV.wf aB aC p.2)->∀a∈cs,AC.wf aB aC a
 |[],z,cs,h,I,_=>by grind [Gl]
 |(i,v)::parts,z,cs,h,I,G=>by
  simp only[Gl]at h;split at h
  ·rename_i off size l L M;cases hb:(Nat.beq l.length size&&Nat.ble (off+size) z.length)<;>rw[hb]at h
   ·grind
   ·refine UV parts _ _ h (λa D=> ?_) (λp N=>G p (by grind));rcases UA _ _ _ D with D|D
    ·grind
    ·exact TV.cells_wf M (G (i,v) (by simp)) a D
  grind
theorem RQ {G:Operand->TV} (D:∀x,TV.wf aB aC (G x)):∀(l:List (Nat×Operand)),∀p∈Fy G l,TV.wf aB aC p.2
 |[],p,h=>by grind [Fy]
 |x::l,p,h=>by
  simp only[Fy,av]at h;rcases h with rfl|h
  ·grind
  ·exact RQ D l p h
theorem OT {G:Operand->TV} (D:∀x,TV.wf aB aC (G x)):∀(l:List Operand),∀v∈Cb G l,TV.wf aB aC v
 |[],p,h=>by grind [Cb]
 |x::l,p,h=>by
  simp only[Cb,av]at h;rcases h with rfl|h
  ·grind
  ·exact OT D l p h
theorem QX {g:Bool} {sz off:Nat} {cells:List AC} {v:TV} (h:Dy g sz cells off=some v) (I:∀a∈cells,AC.wf aB aC a):TV.wf aB aC v:=by
 unfold Dy at h;cases g
 ·simp only[ay]at h
  grind [CA]
 ·simp only[ak]at h;cases D:Nat.ble (off+sz) cells.length<;>rw[D]at h
  ·grind
  ·simp at h;subst h;intro c G;exact I c (dt (dy G))
theorem Qt1 {t:TypeId} {cs:List AC} {off:Nat} {v:TV} (h:Ny P t cs off=some v) (D:∀a∈cs,AC.wf aB aC a):TV.wf aB aC v:=by grind [Ny,QX]
theorem Zmo {op:BinOp} {k:IntKind} {a b:Int} {c:AC} (h:Hr op k a b some=some c):AC.wf aB aC c:=by
 cases op<;>simp only[Hr]at h
 case quo=>cases hb:decide (b=0)<;>rw[hb]at h<;>simp at h;subst h;trivial
 case rem=>cases hb:decide (b=0)<;>rw[hb]at h<;>simp at h;subst h;trivial
 case shl=>cases hb:decide (b<0)<;>rw[hb]at h<;>simp at h;subst h;trivial
 case shr=>cases hb:decide (b<0)<;>rw[hb]at h<;>simp at h;subst h;trivial
 all_goals (simp at h;subst h;trivial)
theorem Qc5 (g:Int->Int->Int) (k:IntKind):∀(l:List TV) (a:Int) (p:Prim),Fe g k a l some=some p->Prim.wf aB aC p
 |[],a,p,h=>by simp[Fe]at h;subst h;exact RZ _ _
 |t::l,a,p,h=>by
  unfold Fe at h;split at h
  ·rename_i k' b;cases D:kEq k k'<;>rw[D]at h
   ·grind
   ·exact Qc5 g k l _ p h
  grind
theorem Zgv (k:Kd) (a:AC):(L_ k a).calm=true:=by
 cases k<;>try rfl
 cases a<;>rfl
theorem Q80:∀(ks:List Kd) (cs:List AC) (j:Nat),Al AC.calm (EE ks cs j)=true
 |[],_,_=>rfl
 |k::ks,cs,j=>by simp only[EE,Al,Zgv,ak];exact Q80 ks cs (j+1)
theorem Qv9 {cs:List AC} (h:Al AC.calm cs=true):∀a∈cs,AC.wf aB aC a:=by
 intro a D;have:=Ax.1 h a D;cases a<;>first|trivial|(simp[AC.calm]at this)
theorem Qft:∀{l:List TV} {as:List AC},Js l=some as->(∀v∈l,TV.wf aB aC v)->∀a∈as,AC.wfP aB a
 |[],as,h,_=>by grind [Js]
 |v::l,as,h,D=>by
  unfold Js at h;split at h
  ·grind
  ·rename_i a L heq;simp only[fd]at heq;obtain⟨rfl,rfl⟩:=heq;cases G:a.clOk<;>rw[G]at h
   ·grind
   ·simp only[ak]at h;split at h
    ·rename_i r I;simp at h;subst h;intro b hb;simp only[av]at hb;rcases hb with rfl|hb
     ·have:=D (.c b) (by simp) b (by simp);cases b<;>first|exact this|trivial
     ·exact Qft I (λv M=>D v (by grind)) b hb
    grind
  grind
theorem Qah {ev:Operand->TV} (G:∀x,TV.wf aB aC (ev x)) {dst:Option Tmp} {o:Op} {p:Prim} (h:opK P C ev dst o some=some p):Prim.wf aB aC p:=by
 cases o<;>simp only[opK]at h<;>try (simp at h;done)
 case move x=>simp at h;subst h;exact G x
 case assign x=>simp at h;subst h;exact G x
 case pick c a b=>
  split at h
  ·rename_i g _;cases g<;>simp at h<;>subst h
   ·exact G b
   ·exact G a
  grind
 case alloc t=>
  split at h
  ·rename_i cs V;simp at h;subst h;exact TN V
  grind
 case box t x=>
  split at h
  ·rename_i cs hc;simp at h;subst h;exact TV.cells_wf hc (G x)
  grind
 case build t parts=>
  split at h
  ·rename_i z fs V hu;cases X:(Al (LC P) fs.toList)<;>rw[X]at h
   ·grind
   ·simp only[ak]at h;split at h
    ·rename_i cs hb;simp at h;subst h;exact UV _ _ _ hb (TN V) (RQ G _)
    grind
  ·rename_i z n el V hu;split at h
   ·split at h
    ·rename_i cs hb;simp at h;subst h;exact UV _ _ _ hb (TN V) (RQ G _)
    grind
   grind
  grind
 case buildSlice t n parts=>
  split at h
  ·split at h
   ·cases hb:(Nat.beq _ _&&Nat.beq _ _&&Nat.ble 1 _&&Nat.ble _ 65536)<;>rw[hb]at h
    ·grind
    ·simp only[ak]at h;split at h
     ·rename_i V _ _ cs a1;split at h
      ·cases a2:Yy C dst n<;>rw[a2]at h<;>simp at h<;>subst h<;>trivial
      ·cases U:(Al AC.isClo cs&&Nat.beq _ 1)<;>rw[U]at h
       ·grind
       ·simp only[ak]at h;simp at h;subst h;refine UV _ _ _ a1 (λa O=> ?_) (RQ G _)
        grind [Zaf,TN]
     grind
   grind
  grind
 case makeSlice t len cap=>
  split at h
  ·split at h
   ·split at h
    ·cases hb:(Nat.beq _ _&&Nat.ble 1 _&&Nat.ble 1 _)<;>rw[hb]at h
     ·grind
     ·simp only[ak]at h;obtain⟨_,rfl⟩:=K1 h;trivial
    grind
   grind
  grind
 case makeFunc fn a b=>
  split at h
  ·split at h
   ·rename_i fs cs a3 a4;simp at h;subst h;exact CA ⟨Qft a3 (OT G _),Qft a4 (OT G _)⟩
   grind
  grind
 case load t a=>
  split at h
  ·have O:=G a;split at h
   ·rename_i key off D;simp at h;subst h;rw[D]at O;exact EU O
   ·rename_i cells sub D;split at h
    ·rename_i v N;simp at h;subst h;rw[D]at O;exact QX N (Qv9 (EU O))
    grind
   ·rename_i id idx sub D;simp at h;subst h;rw[D]at O;exact EU O
   grind
  grind
 case store t a x=>
  split at h
  ·rename_i sz cs hs hc;cases hb:(Nat.beq cs.length sz)<;>rw[hb]at h
   ·grind
   ·simp only[ak]at h;have O:=G a;split at h
    ·rename_i key off D;simp at h;subst h;rw[D]at O;exact⟨EU O,TV.cells_wf hc (G x)⟩
    ·rename_i id idx sub D;simp at h;subst h;rw[D]at O;exact EU O
    grind
  grind
 case nilCheck x=>
  have I:=G x;split at h
  all_goals first|(simp at h;done)|(rename_i D;simp at h;subst h;rw[D]at I;exact I)
 case binOp op t x y yt=>
  split at h
  ·cases hk:(kEq _ _||Nl op)<;>rw[hk]at h
   ·grind
   ·simp only[ak]at h;rename_i k a k' b _ _;rw[Qbp]at h;cases hi:Hr op k a b some with
    |none=>grind
    |some c=>rw[hi]at h;simp at h;subst h;exact CA (Zmo hi)
  ·split at h
   ·simp at h;subst h;exact FA _
   ·simp at h;subst h;exact FA _
   grind
  ·split at h
   ·simp at h;subst h;exact FA _
   ·simp at h;subst h;exact FA _
   ·rename_i a b _ _ _;cases hb:Nat.ble (a.size+b.size) 9223372036854775807<;>rw[hb]at h
    ·grind
    ·simp at h;subst h;exact CA trivial
   grind
  ·split at h
   ·simp at h;subst h;exact FA _
   ·simp at h;subst h;exact FA _
   grind
  ·split at h
   ·simp at h;subst h;exact FA _
   ·simp at h;subst h;exact FA _
   grind
  ·cases hg:P.eqGuardType P.depth t<;>rw[hg]at h
   ·simp only[ay]at h;split at h
    ·simp at h;subst h;exact FA _
    ·simp at h;subst h;exact FA _
    grind
   grind
  grind
 case unOp a5 t x=>
  split at h
  ·simp at h;subst h;exact RZ _ _
  ·simp at h;subst h;exact FA _
  grind
 case convert src dst x=>
  split at h
  ·simp at h;subst h;exact RZ _ _
  grind
 case fieldAddr t x i=>
  split at h
  ·split at h
   ·have I:=G x;split at h
    ·rename_i D;simp at h;subst h;rw[D]at I;have q:=EU I;exact CA q
    ·rename_i D;simp at h;subst h;rw[D]at I;have q:=EU I;exact CA q
    ·rename_i D;simp at h;subst h;rw[D]at I;have q:=EU I;exact CA q
    grind
   grind
  grind
 case field t x i=>
  split at h
  ·rename_i f cs hf D;split at h
   ·rename_i v Y;simp at h;subst h;have I:=G x;rw[D]at I;exact Qt1 Y I
   grind
  grind
 case indexAddr t x ix=>
  split at h
  ·have I:=G x;split at h
   ·rename_i D;obtain⟨j,L,_⟩:=HM h;simp at L;subst L;rw[D]at I;have q:=EU I;exact CA q
   ·rename_i D;obtain⟨j,L,_⟩:=HM h;simp at L;subst L;rw[D]at I;have q:=EU I;exact CA q
   ·rename_i D;obtain⟨j,L,_⟩:=HM h;simp at L;subst L;rw[D]at I;have q:=EU I;exact CA q
   grind
  ·have I:=G x;split at h
   ·rename_i m ks l hm D;cases hb:Nat.beq m ks.length<;>rw[hb]at h
    ·grind
    ·simp only[ak]at h;obtain⟨_,rfl⟩:=K1 h;exact CA (Q80 _ _ _)
   ·rename_i m id wd n hm D;cases hb:Nat.beq m wd<;>rw[hb]at h
    ·grind
    ·simp only[ak]at h;obtain⟨hd,rfl⟩:=K1 h;rw[D]at I;obtain⟨r,L,h2,h3⟩:=EU I;simp at hd;exact CA ⟨r,L,by omega⟩
   ·rename_i m key n hm D;cases hb:Nat.beq m 1<;>rw[hb]at h
    ·grind
    ·simp only[ak]at h;obtain⟨j,L,_⟩:=HM h;simp at L;subst L;rw[D]at I;have q:=EU I;exact CA q
   grind
  grind
 case index t x ix=>
  split at h
  ·rename_i i n el cs hi hu D;split at h
   ·obtain⟨j,L,_⟩:=HM h;have I:=G x;rw[D]at I;split at L
    ·rename_i v Y;simp at L;subst L;exact Qt1 Y I
    grind
   grind
  grind
 case slice t x lo hi mx=>
  split at h
  ·split at h
   ·rename_i m ks l hm D;cases hb:Nat.beq m ks.length<;>rw[hb]at h
    ·grind
    ·simp only[ak]at h;split at h
     ·simp at h;subst h;exact CA trivial
     all_goals
      obtain⟨_,rfl⟩:=K1 h;exact CA trivial
   ·split at h
    ·cases hb:Nat.beq _ _<;>rw[hb]at h
     ·grind
     ·simp only[ak]at h;obtain⟨_,rfl⟩:=K1 h;trivial
    grind
   ·split at h
    ·simp at h;subst h;exact CA trivial
    all_goals
     obtain⟨_,rfl⟩:=K1 h;exact CA trivial
   grind
  grind
 case extract t i=>
  have ht:=G t;split at h
  ·rename_i ps D;split at h
   ·rename_i g cs hg;simp at h;subst h;rw[D]at ht;exact ht (g,cs) (da hg)
   grind
  grind
 case call c=>
  split at h
  ·rename_i b hb;have M:=OT G c.args.toList
   revert M h
   generalize Cb ev c.args.toList=args;intro h M;unfold Jy at h;split at h
   case h_6=>grind [Qc5]
   case h_7=>grind [Qc5]
   case h_8=>
    rename_i s x
    repeat' split at h
    all_goals try (simp at h;done)
    obtain⟨_,rfl⟩:=K1 h;exact⟨EU (M _ (by simp)),EU (M _ (by simp))⟩
   all_goals
    repeat' split at h
    all_goals first|(simp at h;done)|(simp at h;subst h;exact RZ _ _)
  ·rename_i f hf;cases Y:C.pure f<;>rw[Y]at h<;>simp at h<;>subst h<;>exact OT G _
  ·rename_i t ht;split at h
   ·rename_i f fs cs U;cases T:(Al AC.clOk fs&&Al AC.clOk cs)<;>rw[T]at h
    ·grind
    simp only[ak,ap]at h;subst h;simp only[aj]at T;have N:=G (.tmp t);rw[U]at N;have hq:=EU N;have a0:∀l:List AC,(∀a∈l,AC.wfP aB a)->Al AC.clOk l=true->∀v∈l.map TV.c,TV.wf aB aC v:=by
     intro l L h2 v N;simp only[bc]at N;obtain⟨a,O,rfl⟩:=N;have q1:=L a O;have q2:=Ax.1 h2 a O;cases a<;>first|exact CA q1|grind [AC.clOk]|exact CA trivial
    intro v N;rcases be.1 N with N|N
    ·exact a0 fs hq.1 T.1 v N
    ·rcases be.1 N with N|N
     ·grind [OT]
     ·exact a0 cs hq.2 T.2 v N
   grind
  grind
end
open Go.RowKit
def Rel (Z:Base) (s:St) (tmps:Array Value) (w:World):Prop:=∃ρ,RelE Z s.tmps s.aB s.aC ρ tmps w
section
variable {P:Program} {C:Cfg} {w:World} {R:Type} {Z:Base}
theorem RelE.put {ρ:Env} {tm:List TV} {aB:List (Nat×Box)} {aC:List (Nat×Row)} {tmps:Array Value} (h:RelE Z tm aB aC ρ tmps w) (d:Nat) {v:TV} {x:Value} (I:TVR ρ w v x) (L:TV.wf aB aC v):
  RelE Z (setL tm d v) aB aC ρ (tmps.setIfInBounds d x) w:=by
 rw[Iq];refine⟨by simp[h.tl],λi u D=> ?_,λu G=> ?_,h.wb,h.bx,h.bi,h.ro,h.ri,h.br,h.ib,h.fr,h.fs,h.i0,h.i1,h.k0⟩
 ·rw[List.getElem?_set]at D;by_cases hid:d=i
  ·simp_all [h.tl]
  ·rw[aa hid]at D;have:=h.tv i u D;simp_all
 ·rcases fy G with G|rfl
  ·exact h.wt u G
  omega
theorem RelE.learn {ρ:Env} {tm:List TV} {aB:List (Nat×Box)} {aC:List (Nat×Row)} {tmps:Array Value} (h:RelE Z tm aB aC ρ tmps w) (d:Nat) {v:TV} (I:TVR ρ w v (tmps.getD d undef)) (L:TV.wf aB aC v):
  RelE Z (setL tm d v) aB aC ρ tmps w:=by
 rw[Iq];refine⟨by simp[h.tl],λi u D=> ?_,λu G=> ?_,h.wb,h.bx,h.bi,h.ro,h.ri,h.br,h.ib,h.fr,h.fs,h.i0,h.i1,h.k0⟩
 ·rw[List.getElem?_set]at D;by_cases hid:d=i
  ·grind
  ·rw[aa hid]at D;exact h.tv i u D
 ·rcases fy G with G|rfl
  ·exact h.wt u G
  omega
theorem Fo (s:St) (d:Option Tmp) (v:TV) (K:St->Option R):put s d v K=K (match d with|none=>s|some t=>⟨setL s.tmps t v,s.aB,s.aC⟩):=by
 obtain⟨tm,aB,aC⟩:=s
 grind [put,Ba]
theorem TT {ρ:Env} {tm:List TV} {aB:List (Nat×Box)} {aC:List (Nat×Row)} {a:Act} (h:RelE Z tm aB aC ρ a.tmps w) (x:Operand):TVR ρ w (AM tm x) (a.eval x):=by
 cases x with
 |tmp t=>
  simp only[AM,B8,List.getD,Act.eval];cases D:tm[t]? with
  |none=>trivial
  |some v=>exact h.tv t v D
 |const v=>exact Z4t v
 |global=>trivial
 |func=>trivial
theorem T7:∀(l:List Nat) (s:St) (tmps:Array Value),Rel Z s tmps w->∀(K:St->Option R) (r:R),It l s K=some r->∃I,K I=some r/\Rel Z I tmps w
 |[],s,tmps,D,K,r,h=>⟨s,h,D⟩
 |id::l,s,tmps,D,K,r,h=>by
  obtain⟨tm,aB,aC⟩:=s;simp only[It]at h;split at h
  ·rename_i L G;simp only[Ba]at h;obtain⟨ρ,D⟩:=D;exact T7 l _ tmps ⟨_,D.freeze G⟩ K r h
  ·exact T7 l _ tmps D K r h
theorem Z7x {k o:Nat} {e:TypeId} {s:St} {tmps:Array Value} (D:Rel Z s tmps w) {K:St->Option R} {r:R} (h:Mf P k o e s K=some r):∃I,K I=some r/\Rel Z I tmps w:=by
 obtain⟨tm,aB,aC⟩:=s;obtain⟨ρ,D⟩:=D;simp only[Mf]at h;split at h
 ·rename_i b L;split at h
  ·rename_i M;split at h
   ·rename_i ks N;cases G:(Nat.ble 1 ks.length&&KL aC (1000000+1000*k+o))<;>rw[G]at h
    ·grind
    ·simp only[ak,Ba]at h;simp only[aj]at G;exact⟨_,h,_,D.promB L M (Qhu G.2) (ba G.1)⟩
   grind
  ·exact⟨_,h,ρ,D⟩
 ·exact⟨_,h,ρ,D⟩
theorem Qr4:∀(l:List (Nat×Nat×TypeId)) (s:St) (tmps:Array Value),Rel Z s tmps w->∀(K:St->Option R) (r:R),I1 P l s K=some r->∃D,K D=some r/\Rel Z D tmps w
 |[],s,tmps,G,K,r,h=>⟨s,h,G⟩
 |(k,o,e)::l,s,tmps,G,K,r,h=>by
  simp only[I1]at h;obtain⟨D,h',I⟩:=Z7x G h;exact Qr4 l D tmps I K r h'
theorem P1:∀(l:List (Nat×TypeId)) (s:St) (tmps:Array Value),Rel Z s tmps w->∀(K:St->Option R) (r:R),IX P l s K=some r->∃O,K O=some r/\Rel Z O tmps w
 |[],s,tmps,G,K,r,h=>⟨s,h,G⟩
 |(t,e)::l,s,tmps,G,K,r,h=>by
  obtain⟨tm,aB,aC⟩:=s;simp only[IX]at h;split at h
  ·rename_i M;split at h
   ·rename_i ks D U;cases T:Nat.ble 1 ks.length<;>rw[T]at h
    ·grind
    ·simp only[ak,Ba]at h;refine P1 l _ tmps ?_ K r h;obtain⟨ρ,G⟩:=G;have L:=G.addRow (d:=t) D (r:=⟨e,ks,[]⟩) (v':= .slice none 0 0) (xs:=[]) (w':=w) (Below.refl _ _) (ba T) (W_ w e ks.length) ⟨by simp,by simp,λi c hi=>by grind⟩ (λg hg=>by grind [Value.ownBlock]);refine⟨_,L.learn t ?_ (CA ⟨_,Eu _ _ _ D,rfl,rfl⟩)⟩;have V:tmps.getD t undef= .slice none 0 0:=by
      have N:t<tm.length:=by
       rcases j6 t tm.length with X|Y
       ·omega
       ·grind [B8]
      have I:tm[t]? =some (.c .nilSl):=by
       rw[B8,List.getD]at M;rw[ag N]at M⊢;simpa using M
      have:=(G.tv t _ I).c;simpa [CC,CP]using this
     rw[V];exact TVR.c' ⟨by grind [B6],by grind [B6], .inl ⟨rfl,rfl⟩⟩
   grind
  ·exact P1 l _ tmps G K r h
theorem Mg {s:St} {tmps:Array Value} (L:Rel Z s tmps w) {K:St->Option R} {r:R} (h:HS P C s K=some r):∃G,K G=some r/\Rel Z G tmps w:=by
 unfold HS at h;obtain⟨G,h',ρ,D⟩:=Qr4 _ s tmps L _ r h;obtain⟨tm,aB,aC⟩:=G;simp only[Ba]at h';refine P1 _ _ tmps ?_ K r h';refine⟨ρ,?_⟩;refine D.reBox (g:=λ_ b=>SF P b) (λ_ b=> ?_) λk b I=> ?_
 ·grind [SF]
 ·unfold SF;split
  ·rename_i ks _;exact⟨λxs h=>KO ks b.cells xs h,Nu ks b.cells (D.wb k b I)⟩
  ·exact⟨λxs h=>h,D.wb k b I⟩
theorem Z3p {o:Op} {s:St} {tmps:Array Value} (G:Rel Z s tmps w) {K:St->Option R} {r:R} (h:Jc P C o s K=some r):∃D,K D=some r/\Rel Z D tmps w:=by grind [Jc,T7,Mg]
theorem Z58 {pre:Bool} {ρ:Env} {e:Operand->Value} {o:Oper} {p:Prim} (h:Jj P ρ w e o p):Jj P ρ w e o (p.dr pre):=by
 cases pre<;>cases p<;>first|exact h|(simp only[Prim.dr];cases Al TV.plainB _<;>exact h)
theorem YF {pre:Bool} {bx:List (Nat×Box)} {aC:List (Nat×Row)} {p:Prim} (h:Prim.wf bx aC p):Prim.wf bx aC (p.dr pre):=by
 cases pre<;>cases p<;>first|exact h|(simp only[Prim.dr];cases Al TV.plainB _<;>exact h)
theorem Q8k (D:Ak P C) (U:∀t∈C.eqOk,P.stoodInHeld t=false) {s:St} {o:Oper} {a:Act} (I:Rel Z s a.tmps w) {K:Option Prim->St->Option R} {r:R}
  {pre:Bool} (h:(opK P C (AM s.tmps) o.dst o.op λp=>Be C o.dst (p.dr pre) s λv O=>put O o.dst v (K (some (p.dr pre))))=some r) {next:Act->World->Prop} {Q:Exit->Act->World->Prop}
  (G:∀(po:Option Prim) (O:St) (V:Act) (w':World),K po O=some r->Rel Z O V.tmps w'->(∃x,V=a.put o.dst x)->next V w'):o.wp P a w next Q:=by
 obtain⟨ρ,I⟩:=I;obtain⟨tm,aB,aC⟩:=s;have X:=λx=>TT I x;rw[Qm]at h;cases Y:opK P C (AM tm) o.dst o.op some with
 |none=>grind
 |some p=>
  rw[Y]at h;simp only[am]at h;obtain⟨p',L,M⟩:=Zde U X (λf=>rfl) o Y;simp at L;subst L;have a0:=Qah (aB:=aB) (aC:=aC) (λx=>Zv I.wt x) Y;refine Zms D I (Z58 M) (YF a0) h ?_;intro v a3 T a1 ρ' x w' hK N hv a2;rw[Fo]at hK;refine G (some (p'.dr pre)) _ _ w' hK ?_ ?_
  ·cases hd:o.dst with
   |none=>exact⟨ρ',N⟩
   |some d=>exact⟨ρ',N.put d hv a2⟩
  grind
theorem WN (D:Ak P C) (I:∀t∈C.eqOk,P.stoodInHeld t=false) {pre:Bool} {s:St} {o:Oper} {a:Act} (O:Rel Z s a.tmps w) {K:Option Prim->St->Option R} {r:R}
  (h:((bif pre then Jc P C o.op s else λK=>K s) λs=>opK P C (AM s.tmps) o.dst o.op λp=>Be C o.dst (p.dr pre) s λv L=>put L o.dst v (K (some (p.dr pre))))=some r) {next:Act->World->Prop} {Q:Exit->Act->World->Prop}
  (G:∀(T:Option Prim) (L:St) (M:Act) (w':World),K T L=some r->Rel Z L M.tmps w'->(∃x,M=a.put o.dst x)->next M w'):o.wp P a w next Q:=by
 cases pre
 ·exact Q8k D I O h G
 ·obtain⟨L,h',N⟩:=Z3p O h;exact Q8k D I N h' G
theorem Qwi (I:Ak P C) (V:∀t∈C.eqOk,P.stoodInHeld t=false) {pre:Bool} {ops:Array Oper} {s:St} {o:Oper} {a:Act} (hR:Rel Z s a.tmps w) {K:Option Prim->St->Option R} {r:R}
  (h:E_ P C pre ops.toList o s K=some r) {next:Act->World->Prop} {Q:Exit->Act->World->Prop}
  (D:∀(po:Option Prim) (s':St) (a':Act) (w':World),K po s'=some r->Rel Z s' a'.tmps w'->(∃x,a'=a.put o.dst x)->next a' w'):
  if Region.wanted o (yielded ops a.tmps)=true then o.wp P a w next Q else next (a.put o.dst undef) w:=by
 have X:∀s':St,Rel Z s' a.tmps w->put s' o.dst (.tup []) (K none)=some r->next (a.put o.dst undef) w:=by
  intro s' G hp;rw[Fo]at hp;refine D none _ _ w hp ?_ ⟨_,rfl⟩;obtain⟨ρ,G⟩:=G;cases hd:o.dst with
  |none=>exact⟨ρ,G⟩
  |some d=>exact⟨ρ,G.put d ⟨#[],rfl,trivial⟩ (λp hp=>by grind)⟩
 unfold E_ PA at h;cases hg:o.guard with
 |none=>
  rw[hg]at h;rw[ab (by simp[Region.wanted,hg])];exact WN I V hR h D
 |some jw=>
  obtain⟨j,want⟩:=jw;rw[hg]at h;simp only at h;split at h
  ·rename_i oj hj;split at h
   ·rename_i t ht;split at h
    ·rename_i g L;obtain⟨ρ,M⟩:=hR;have O:t<s.tmps.length:=by
      rcases j6 t s.tmps.length with a2|a3
      ·omega
      ·grind [B8]
     have N:s.tmps[t]? =some (.c (.bool g)):=by
      rw[B8,List.getD]at L;rw[ag O]at L⊢;simpa using L
     have T:=(M.tv t _ N).bool;have U:t<a.tmps.size:=by rw[<-M.tl];exact O
     have Y:a.tmps[t]? =some (.bool g):=by
      rw[Array.getElem?_eq_getElem U];rw[Array.getD,jy U]at T;simpa using T
     have hy:yielded ops a.tmps j=some g:=by
      unfold yielded;have a0:ops[j]? =some oj:=by simpa using hj
      simp[a0,ht,Y]
     have hl:∀b,g=b->Rel Z ⟨setL s.tmps t (.c (.bool b)),s.aB,s.aC⟩ a.tmps w:=by
      rintro b rfl;exact⟨ρ,M.learn t (by grind [TVR.mkBool]) (FA _)⟩
     have hw:Region.wanted o (yielded ops a.tmps)=(g==want):=by
      simp only[Region.wanted,hg,hy];cases g<;>cases want<;>rfl
     cases g
     ·simp only[ay]at h;rw[Fo]at h;dsimp only at h;have G:=hl false rfl;cases want
      ·rw[ab (by grind)];simp only[ay]at h;exact WN I V G h D
      grind
     ·simp only[ak]at h;rw[Fo]at h;dsimp only at h;have G:=hl true rfl;cases want
      ·grind
      ·rw[ab (by grind)];simp only[ak]at h;exact WN I V G h D
    ·rename_i L;obtain⟨ρ,M⟩:=hR;have O:t<s.tmps.length:=by
      rcases j6 t s.tmps.length with a2|a3
      ·omega
      ·grind [B8]
     have N:s.tmps[t]? =some (.tup []):=by
      rw[B8,List.getD]at L;rw[ag O]at L⊢;simpa using L
     obtain⟨ys,a1,T⟩:=M.tv t _ N;have U:t<a.tmps.size:=by rw[<-M.tl];exact O
     have Y:a.tmps[t]? =some (.tuple ys):=by
      rw[Array.getElem?_eq_getElem U];rw[Array.getD,jy U]at a1;simpa using a1
     have hy:yielded ops a.tmps j=none:=by
      unfold yielded;have a0:ops[j]? =some oj:=by simpa using hj
      simp[a0,ht,Y]
     have hw:Region.wanted o (yielded ops a.tmps)=false:=by
      simp only[Region.wanted,hg,hy];rfl
     rw[aa (by grind)];exact X _ ⟨ρ,M⟩ h
    grind
   grind
  grind
theorem Xf (D:Ak P C) (M:∀t∈C.eqOk,P.stoodInHeld t=false) {pre:Bool} {ops:Array Oper} {s:St} {o:Oper} {a:Act} (O:Rel Z s a.tmps w) {K:Option Prim->St->Option R} {r:R}
  (h:E_ P C pre ops.toList o s K=some r) {next:Act->World->Prop} {Q:Exit->Act->World->Prop}
  (G:∀(N:Option Prim) (L:St) (I:Act) (w':World),K N L=some r->Rel Z L I.tmps w'->I.defers=a.defers->next I w'):
  if Region.wanted o (yielded ops a.tmps)=true then o.wp P a w next Q else next (a.put o.dst undef) w:=
 Qwi D M O h λN L I w' T U ⟨x,V⟩=>G N L I w' T U (by subst V;cases o.dst<;>rfl)
theorem Qjh (D:Ak P C) (G:∀t∈C.eqOk,P.stoodInHeld t=false) {ops:Array Oper} {Q:Exit->Act->World->Prop} {K:St->Option R} {r:R}:
  ∀(l:List Oper) (s:St) (a:Act) (w:World),Rel Z s a.tmps w->Ig P C ops.toList l s K=some r->
  (∀(L:St) (I:Act) (w':World),K L=some r->Rel Z L I.tmps w'->I.defers=a.defers->Q .normal I w')->wpList P ops Q l a w
 |[],s,a,w,M,h,N=>N s a w h M rfl
 |o::l,s,a,w,M,h,N=>by
  simp only[Ig]at h;have:=Xf (next:=wpList P ops Q l) (Q:=Q) D G M h (λpo L I w' T O U=>Qjh D G l L I w' O T (λs2 a2 V X Y h3=>N s2 a2 V X Y (h3.trans U)));simp only[wpList]
  grind
end
open Go.RowKit
def RR (s:St) (d:Option Tmp) (v:TV):St:=
 match d with
 |none=>s
 |some t=>⟨setL s.tmps t v,s.aB,s.aC⟩
section
variable {P:Program} {C:Cfg} {w:World} {R:Type} {Z:Base}
theorem L7 (s:St) (d:Option Tmp) (v:TV) (K:St->Option R):put s d v K=K (RR s d v):=Fo s d v K
def Aw (dst:Option Tmp) (p:Prim) (aB:List (Nat×Box)) (aC:List (Nat×Row)):Option (TV×List (Nat×Box)):=
 match p with
 | .val v=>some (v,aB)
 | .load g sz key off=>match Ab aB key with
  |some b=>match Dy g sz b.cells off with
   |some v=>some (v,aB)
   |none=>none
  |none=>none
 | .store key off cs=>match Ab aB key with
  |some b=>if Nat.ble (off+cs.length) b.cells.length then some (.vD,upd aB key ⟨b.ty,splice b.cells off cs⟩)else none
  |none=>none
 | .new ty cs=>match dst with
  |some d=>match Ab aB d with
   |some _=>none
   |none=>some (.c (.ptr d 0),ins aB d ⟨ty,cs⟩)
  |none=>none
 | .newView _ ks l=>some (.c (.vC ks l),aB)
 | .rload g sz id idx sub=>match Ab aC id with
  |some r=>match Dy g sz (r.f idx) sub with
   |some v=>some (v,aB)
   |none=>none
  |none=>none
 | .call f args=>match C.spec f with
  |some g=>match FB aC args with
   |some l=>match g (TV×Mem) l ⟨[],[]⟩ (λv m=>some (v,m))with
    |some (v,⟨[],[]⟩)=>if((!(args.any TV.hasOwn)||v.flat)&&v.plainB)=true then some (v,aB)else none
    |_=>none
   |none=>none
  |none=>none
 | .callD f args=>match C.spec f with
  |some g=>
   if(Al (TV.inK (Bf (cat AC.keys (cat TV.cellsOf args)) []) []) args&&Al (λk=>Al AC.calm (Ey aB k)) (Bf (cat AC.keys (cat TV.cellsOf args)) [])&&Cm (Bf (cat AC.keys (cat TV.cellsOf args)) []))=true then
    match C_ aB (λk=>base+pos (Bf (cat AC.keys (cat TV.cellsOf args)) []) k) (λi=>base+pos [] i) base (Bf (cat AC.keys (cat TV.cellsOf args)) [])with
    |some G=>match g (TV×Mem) (args.map (TV.ren (λk=>base+pos (Bf (cat AC.keys (cat TV.cellsOf args)) []) k) (λi=>base+pos [] i))) ⟨G,[]⟩ (λv m=>some (v,m))with
     |some (v,⟨D,[]⟩)=>
      if(Al (λp:Nat×Box=>FU D p.1) G&&Al (λp:Nat×Box=>FU G p.1) D&&Cm (D.map (·.1))&&Al (λp:Nat×Box=>Al AC.calm p.2.cells) D&&v.plainB)=true then
       some (v,CY (Bf (cat AC.keys (cat TV.cellsOf args)) []) D aB)
      else none
     |_=>none
    |none=>none
   else none
  |none=>none
 |_=>none
theorem Zpg (D:Ak P C) {dst:Option Tmp} {p:Prim} (L:Prim.simple (some p)=true) (M:Prim.isApp (some p)=false) (N:Prim.isMk (some p)=false) (s:St) (K:TV->St->Option R):
  Be C dst p s K=(Aw (C:=C) dst p s.aB s.aC).bind λq=>K q.1 ⟨s.tmps,q.2,s.aC⟩:=by
 obtain⟨tm,aB,aC⟩:=s;cases p<;>simp only[Prim.simple]at L<;>try (simp at L;done)
 case appD=>grind [Prim.isApp]
 case callF=>grind [Prim.isMk]
 case newRow=>grind [Prim.isMk]
 case val v=>rfl
 case newView e ks l=>rfl
 case rload g sz id idx sub=>grind [Be,Aw]
 case load g sz key off=>grind [Be,Aw]
 case store key off cs=>
  simp only[Be,Aw];cases I:Ab aB key with
  |none=>rfl
  |some b=>
   dsimp only;cases Nat.ble (off+cs.length) b.cells.length
   ·rfl
   simp[Ba]
 case new ty cs=>
  simp only[Be,Aw]
  grind [Ba]
 case call f args=>
  simp only[Be,Aw];cases I:C.spec f with
  |none=>rfl
  |some g=>
   dsimp only;cases O:FB aC args with
   |none=>rfl
   |some l=>
    dsimp only;have G:=D.1 f g I;rw[G.nat];cases T:g (TV×Mem) l ⟨[],[]⟩ (λv m=>some (v,m))with
    |none=>rfl
    |some q=>grind
 case callD f args=>
  simp only[Be,Aw];cases I:C.spec f with
  |none=>rfl
  |some g=>
   dsimp only;simp only[Ba];generalize Bf (cat AC.keys (cat TV.cellsOf args)) []=keys;cases V:(Al (TV.inK keys []) args&&Al (λk=>Al AC.calm (Ey aB k)) keys&&Cm keys)
   ·simp
   ·simp only[ak,fo];cases O:C_ aB (λk=>base+pos keys k) (λi=>base+pos [] i) base keys with
    |none=>rfl
    |some U=>
     dsimp only;have G:=D.1 f g I;rw[G.nat];cases T:g (TV×Mem) (args.map (TV.ren (λk=>base+pos keys k) (λi=>base+pos [] i))) ⟨U,[]⟩ (λv m=>some (v,m))with
     |none=>rfl
     |some q=>grind
theorem BO {α:Type} {c:Bool} {p:Option α} {q:α} (h:cond c p none=some q):c=true/\p=some q:=by grind
def Qb6 (aC:List (Nat×Row)) (e:TypeId) (ks:List Kd) (bytes id:Nat) (x:AC):Option (TV×List (Nat×Row)):=
 match Is aC ks x with
 |some m=>match Ab aC id with
  |some r=>if(C6 ks r.ks&&Nat.beq r.ty e&&Nat.ble 1 bytes)=true then
    if Nat.ble ((r.l++m).length*bytes) 140737488355328=true then some (.c (.own id r.ks.length (r.l++m).length),upd aC id ⟨e,r.ks,r.l++m⟩)else none
   else none
  |none=>none
 |none=>none
def WC (id:Nat) (tm:List TV) (bx:List (Nat×Box)) (aC:List (Nat×Row)):St:=⟨tm.map (TV.kill id),bx.map λp=>(p.1,p.2.kill id),aC⟩
def Qjp (aC:List (Nat×Row)) (e:TypeId) (ks:List Kd) (bytes d:Nat) (x:AC):Option (TV×List (Nat×Row)):=
 match Is aC ks x with
 |some m=>match Ab aC d with
  |some _=>none
  |none=>if(Nat.ble 1 ks.length&&Nat.ble 1 bytes)=true then
    if Nat.ble (m.length*bytes) 140737488355328=true then some (.c (.own d ks.length m.length),ins aC d ⟨e,ks,m⟩)else none
   else none
 |none=>none
def Kl (dst:Option Tmp):Prim->Option Nat
 | .appD _ _ _ (.own id _ _) _=>some id
 | .appD _ _ _ .nilSl _=>dst
 |_=>none
def KD (dst:Option Tmp) (aC:List (Nat×Row)):Prim->Option (TV×List (Nat×Row))
 | .appD e ks bytes (.own id _ _) x=>Qb6 aC e ks bytes id x
 | .appD e ks bytes .nilSl x=>match dst with
  |some d=>Qjp aC e ks bytes d x
  |none=>none
 |_=>none
def mkG (dst:Option Tmp) (p:Prim):Option (TV×Option (Nat×Row)):=
 match p with
 | .newRow e ks l=>match dst with
  |some d=>some (.c (.own (C.rowAs d) ks.length l.length),some (C.rowAs d,⟨e,ks,l⟩))
  |none=>none
 | .callF f args=>match C.spec f with
  |some g=>if Al TV.plainB args=true then match g (TV×Mem) args ⟨[],[]⟩ (λv m=>some (v,m))with
    |some (v,⟨[],[]⟩)=>if v.plainB=true then some (v,none)else none
    |some (.v false [.own j _ _],⟨[],[(k,r)]⟩)=>if Nat.beq j k=true then some (.c (.own (IK (dst.getD 0)) r.ks.length r.l.length),some (IK (dst.getD 0),r))else none
    |_=>none
   else none
  |none=>none
 |_=>none
def mkD (dst:Option Tmp) (p:Prim) (aC:List (Nat×Row)):Option (TV×List (Nat×Row)):=
 match mkG (C:=C) dst p with
 |some (v,none)=>some (v,aC)
 |some (v,some (k,r))=>match Ab aC k with
  |some _=>none
  |none=>some (v,ins aC k r)
 |none=>none
def EP (dst:Option Tmp) (p:Prim) (s:St):Option (TV×St):=
 bif Prim.isApp (some p)then match Kl dst p with
  |some id=>(KD dst s.aC p).map λq=>(q.1,WC id s.tmps s.aB q.2)
  |none=>none
 else bif Prim.isMk (some p)then(mkD (C:=C) dst p s.aC).map λq=>(q.1,⟨s.tmps,s.aB,q.2⟩)
 else(Aw (C:=C) dst p s.aB s.aC).map λq=>(q.1,⟨s.tmps,q.2,s.aC⟩)
theorem Q3u (D:Ak P C) {dst:Option Tmp} {p:Prim} (N:Prim.simple (some p)=true) (s:St) (K:TV->St->Option R):
  Be C dst p s K=(EP (C:=C) dst p s).bind λq=>K q.1 q.2:=by
 cases G:Prim.isApp (some p)with
 |false=>
  cases I:Prim.isMk (some p)with
  |false=>
   rw[Zpg D N (by rw[G]) I];unfold EP;rw[G,I];simp only[ay];cases Aw (C:=C) dst p s.aB s.aC<;>rfl
  |true=>
   obtain⟨tm,aB,aC⟩:=s;unfold EP;rw[G,I];simp only[ay,ak];cases p<;>simp[Prim.isMk]at I
   case newRow e ks l=>
    simp only[Be,mkD,mkG]
    grind [Ba]
   case callF f args=>
    simp only[Be,mkD,mkG];cases O:C.spec f with
    |none=>rfl
    |some g=>
     dsimp only;cases X:Al TV.plainB args
     ·rfl
     simp only[ak,fo];have L:=D.1 f g O;rw[L.nat];cases Y:g (TV×Mem) args ⟨[],[]⟩ (λv m=>some (v,m))with
     |none=>rfl
     |some q=>
      obtain⟨v,⟨T,U⟩⟩:=q;simp only[am];cases T with
      |cons _ _=>rfl
      |nil=>
       cases U with
       |nil=>grind
       |cons p l=>
        obtain⟨k,r⟩:=p;cases l with
        |cons _ _=>rfl
        |nil=>
         dsimp only;split
         ·rename_i j w0 n0;cases M:Nat.beq j k
          ·grind
          ·simp only[ak,M,fo]
           grind [Ba]
         grind
 |true=>
  obtain⟨tm,aB,aC⟩:=s;cases p<;>simp[Prim.isApp]at G
  rename_i e ks bytes V x;unfold EP;simp only[Prim.isApp,ak,Be];cases V
  case own id w' n=>
   dsimp only[Kl,KD,Qb6];cases Is aC ks x with
   |none=>rfl
   |some m=>
    dsimp only;cases Ab aC id with
    |none=>rfl
    |some r=>
     dsimp only;cases(C6 ks r.ks&&Nat.beq r.ty e&&Nat.ble 1 bytes)
     ·rfl
     ·simp only[ak,fo];cases Nat.ble ((r.l++m).length*bytes) 140737488355328
      ·rfl
      ·simp only[ak,fo,Ba];rfl
  case nilSl=>
   dsimp only[Kl,KD];cases dst with
   |none=>grind
   |some d=>
    dsimp only[Qjp];cases Is aC ks x with
    |none=>rfl
    |some m=>
     dsimp only;cases Ab aC d with
     |some _=>rfl
     |none=>
      dsimp only;cases(Nat.ble 1 ks.length&&Nat.ble 1 bytes)
      ·rfl
      ·simp only[ak,fo];cases Nat.ble (m.length*bytes) 140737488355328
       ·rfl
       ·simp only[ak,fo,Ba];rfl
  all_goals
   grind [Kl]
theorem Zjc (D:Ak P C) {dst:Option Tmp} {p:Prim} {s:St} {K:TV->St->Option R} {r:R} (h:Be C dst p s K=some r):∃v L,K v L=some r:=by
 obtain⟨tm,aB,aC⟩:=s;cases p<;>simp only[Be]at h
 case val v=>grind
 case newView e ks l=>grind
 case load g sz key off=>grind
 case store key off cs=>
  split at h
  ·rename_i b _;cases hb:Nat.ble (off+cs.length) b.cells.length<;>rw[hb]at h
   ·grind
   ·simp only[ak,Ba]at h;grind
  grind
 case new ty cs=>grind [Ba]
 case newS ty n cs=>grind [Ba]
 case rload g sz id idx sub=>grind
 case rstore id idx sub cs=>
  split at h
  ·rename_i M _;cases hb:(Nat.ble (sub+cs.length) M.w&&Al AC.plain cs)<;>rw[hb]at h
   ·grind
   ·simp only[ak]at h
    grind [Ba]
  grind
 case newRow e ks l=>grind [Ba]
 case make e ks bytes n z=>
  split at h
  ·split at h
   ·grind
   ·obtain⟨_,h⟩:=BO h
    grind [Ba]
  grind
 case cutR id a=>
  split at h
  ·obtain⟨_,h⟩:=BO h
   grind [Ba]
  grind
 case append e ks bytes s x=>
  split at h
  ·split at h
   ·split at h
    ·split at h
     ·grind
     ·obtain⟨_,h⟩:=BO h;obtain⟨_,h⟩:=BO h
      grind [Ba]
    grind
   ·split at h
    ·obtain⟨_,h⟩:=BO h;obtain⟨_,h⟩:=BO h
     grind [Ba]
    grind
   grind
  grind
 case call f args=>
  split at h
  ·rename_i g G;split at h
   ·obtain⟨v,m,h',_⟩:=(D.1 f g G).run h
    grind
   grind
  grind
 case callM f args=>
  split at h
  ·rename_i g G;cases I:C.keepR f<;>rw[I]at h
   case true=>
    simp only[ak]at h;unfold Rz at h;split at h
    ·split at h
     ·obtain⟨v,m,h',_⟩:=(D.1 f g G).run h;split at h'
      ·obtain⟨_,h'⟩:=BO h'
       grind [Ba]
      grind
     grind
    grind
   simp only[ay]at h;simp only[Ba]at h;obtain⟨_,h⟩:=BO h;split at h
   ·obtain⟨v,m,h',_⟩:=(D.1 f g G).run h
    grind
   grind
  grind
 case callF f args=>
  split at h
  ·rename_i g G;obtain⟨_,h⟩:=BO h;obtain⟨v,m,h',_⟩:=(D.1 f g G).run h;split at h'
   ·grind
   ·split at h'
    ·obtain⟨_,h'⟩:=BO h'
     grind [Ba]
    grind
   grind
  grind
 case appD e ks bytes s x=>
  split at h
  ·split at h
   ·split at h
    ·obtain⟨_,h⟩:=BO h;obtain⟨_,h⟩:=BO h
     grind [Ba]
    grind
   ·split at h
    ·split at h
     ·grind
     ·obtain⟨_,h⟩:=BO h;obtain⟨_,h⟩:=BO h
      grind [Ba]
    grind
   grind
  grind
 case callD f args=>
  split at h
  ·rename_i g G;simp only[Ba]at h;obtain⟨_,h⟩:=BO h;split at h
   ·obtain⟨v,m,h',_⟩:=(D.1 f g G).run h
    grind
   grind
  grind
theorem Zba (G:Ak P C) (dst:Option Tmp) (p:Prim) (s:St) (K:TV->St->Option R):Be C dst p s K=(Be C dst p s λv N=>some (v,N)).bind λq=>K q.1 q.2:=by
 obtain⟨tm,aB,aC⟩:=s;cases p<;>simp only[Be,Ba]
 case val v=>rfl
 case newView e ks l=>rfl
 case load g sz key off=>grind
 case store key off cs=>grind
 case new ty cs=>grind
 case newS ty n cs=>grind
 case rload g sz id idx sub=>grind
 case rstore id idx sub cs=>grind
 case newRow e ks l=>grind
 case make e ks bytes n z=>grind
 case cutR id a=>grind
 case append e ks bytes s x=>
  cases Is aC ks x with
  |none=>rfl
  |some m=>grind
 case appD e ks bytes s x=>
  cases Is aC ks x with
  |none=>rfl
  |some m=>grind
 case call f args=>
  cases I:C.spec f with
  |none=>rfl
  |some g=>
   dsimp only;cases FB aC args with
   |none=>rfl
   |some l=>
    dsimp only;have D:=G.1 f g I
    grind [D.nat]
 case callM f args=>
  cases I:C.spec f with
  |none=>rfl
  |some g=>
   dsimp only;have D:=G.1 f g I;cases O:C.keepR f
   case true=>
    simp only[ak,Rz];cases Qb8 args with
    |none=>rfl
    |some id=>
     dsimp only;cases Ab aC id with
     |none=>rfl
     |some r=>
      dsimp only;rw[D.nat,D.nat (TV×St)];cases g (TV×Mem) (args.map (TV.ren (λk=>base+pos [] k) (λi=>base+pos [id] i))) ⟨[],[(base,r)]⟩ (λv m=>some (v,m))with
      |none=>rfl
      |some q=>
       obtain⟨v,⟨L,M⟩⟩:=q;simp only[am];cases L with
       |cons _ _=>rfl
       |nil=>
        cases M with
        |nil=>rfl
        |cons p l=>
         obtain⟨k,r'⟩:=p;cases l with
         |cons _ _=>rfl
         |nil=>
          dsimp only;cases(Nat.beq k base&&Nat.beq r'.ty r.ty&&C6 r'.ks r.ks&&v.plainB)
          ·rfl
          simp[Ba]
   simp only[ay];generalize Lr aB 4 (Bf (cat AC.keys (cat TV.cellsOf args)) [])=keys;generalize NW aB (cat TV.cellsOf args) keys=ids;cases(Al (TV.inK keys ids) args&&Al (λk=>Al (AC.inK keys ids) (Ey aB k)) keys&&Cm keys&&Cm ids)
   ·rfl
   ·simp only[ak];cases C_ aB (λk=>base+pos keys k) (λi=>base+pos ids i) base keys with
    |none=>rfl
    |some L=>
     cases Ft aC base ids with
     |none=>rfl
     |some M=>grind [D.nat]
 case callF f args=>
  cases I:C.spec f with
  |none=>rfl
  |some g=>
   dsimp only;have D:=G.1 f g I;cases Al TV.plainB args
   ·rfl
   ·simp only[ak];rw[D.nat,D.nat (TV×St)]
    grind
 case callD f args=>
  cases I:C.spec f with
  |none=>rfl
  |some g=>
   dsimp only;have D:=G.1 f g I;generalize Bf (cat AC.keys (cat TV.cellsOf args)) []=keys;cases(Al (TV.inK keys []) args&&Al (λk=>Al AC.calm (Ey aB k)) keys&&Cm keys)
   ·rfl
   ·simp only[ak];cases C_ aB (λk=>base+pos keys k) (λi=>base+pos [] i) base keys with
    |none=>rfl
    |some L=>grind [D.nat]
theorem Ur:∀(l:List Nat) (s:St) (K:St->Option R),It l s K=(It l s some).bind K
 |[],s,K=>rfl
 |id::l,⟨tm,aB,aC⟩,K=>by
  simp only[It,Ba];cases Ab aC id with
  |none=>exact Ur l _ K
  |some r=>exact Ur l _ K
theorem Qw8 (k o:Nat) (e:TypeId) (s:St) (K:St->Option R):Mf P k o e s K=(Mf P k o e s some).bind K:=by
 obtain⟨tm,aB,aC⟩:=s
 grind [Mf,Ba]
theorem Qcx:∀(l:List (Nat×Nat×TypeId)) (s:St) (K:St->Option R),I1 P l s K=(I1 P l s some).bind K
 |[],s,K=>rfl
 |(k,o,e)::l,s,K=>by
  simp only[I1];rw[Qw8,Qw8 (K:=λD=>I1 P l D some)];cases Mf P k o e s some with
  |none=>rfl
  |some D=>exact Qcx l D K
theorem U_:∀(l:List (Nat×TypeId)) (s:St) (K:St->Option R),IX P l s K=(IX P l s some).bind K
 |[],s,K=>rfl
 |(t,e)::l,⟨tmps,aB,aC⟩,K=>by
  simp only[IX];split
  ·split
   ·rename_i ks _ _;cases Nat.ble 1 ks.length
    ·rfl
    ·simp only[ak,Ba];exact U_ l _ K
   ·rfl
  ·exact U_ l _ K
theorem Znz (s:St) (K:St->Option R):HS P C s K=(HS P C s some).bind K:=by
 simp only[HS,Ba];rw[Qcx]
 conv=>rhs;rw[Qcx]
 cases I1 P (cat (λp:Nat×Box=>bif AQ C.ownBut p.1 then []else(C.ownOff p.2.ty).map λq=>(p.1,q.1,q.2)) s.aB) s some with
 |none=>rfl
 |some D=>grind [U_]
theorem Qtr (o:Op) (s:St) (K:St->Option R):Jc P C o s K=(Jc P C o s some).bind K:=by
 unfold Jc;rw[Ur]
 conv=>rhs;rw[Ur]
 cases It (Q6y C (AM s.tmps) o) s some with
 |none=>rfl
 |some D=>grind [Znz]
theorem Zdn (G:Ak P C) (pre:Bool) (ops:List Oper) (o:Oper) (s:St) (K:Option Prim->St->Option R):E_ P C pre ops o s K=(E_ P C pre ops o s λp D=>some (p,D)).bind λq=>K q.1 q.2:=by
 have L:∀s:St,((bif pre then Jc P C o.op s else λK=>K s) λs=>opK P C (AM s.tmps) o.dst o.op λp=>Be C o.dst (p.dr pre) s λv D=>put D o.dst v (K (some (p.dr pre))))=
   ((bif pre then Jc P C o.op s else λK=>K s) λs=>opK P C (AM s.tmps) o.dst o.op λp=>Be C o.dst (p.dr pre) s λv D=>put D o.dst v ((λp D=>some (p,D)) (some (p.dr pre)))).bind λq=>K q.1 q.2:=by
  have O:∀s:St,(opK P C (AM s.tmps) o.dst o.op λp=>Be C o.dst (p.dr pre) s λv D=>put D o.dst v (K (some (p.dr pre))))=(opK P C (AM s.tmps) o.dst o.op λp=>Be C o.dst (p.dr pre) s λv D=>put D o.dst v ((λp D=>some (p,D)) (some (p.dr pre)))).bind λq=>K q.1 q.2:=by
   intro s;rw[Qm]
   conv=>rhs;rw[Qm]
   cases opK P C (AM s.tmps) o.dst o.op some with
   |none=>rfl
   |some p=>
    simp only[am];rw[Zba G]
    conv=>rhs;rw[Zba G]
    cases Be C o.dst (p.dr pre) s λv D=>some (v,D)with
    |none=>rfl
    |some q=>grind [L7]
  intro s;cases pre
  ·grind
  ·simp only[ak];rw[Qtr]
   conv=>rhs;rw[Qtr]
   grind
 have I:∀s:St,put s o.dst (.tup []) (K none)=(put s o.dst (.tup []) ((λp D=>some (p,D)) none)).bind λq=>K q.1 q.2:=by
  intro s;simp only[L7,am]
 unfold E_ PA;cases o.guard with
 |none=>grind
 |some M=>
  obtain⟨j,want⟩:=M;dsimp only;cases ops[j]? with
  |none=>rfl
  |some N=>
   dsimp only;cases N.dst with
   |none=>rfl
   |some t=>
    dsimp only;split
    ·rename_i g _;cases g
     ·simp only[ay]
      grind [Fo]
     ·simp only[ak]
      grind [Fo]
    ·grind
    ·rfl
def Cf (ops:List Oper) (o:Oper) (tm:List TV):Option Bool:=
 match o.guard with
 |none=>some true
 |some (j,want)=>match ops[j]? with
  |some D=>match D.dst with
   |some t=>match nth .vD tm t with
    | .c (.bool g)=>some (g==want)
    | .tup []=>some false
    |_=>none
   |none=>none
  |none=>none
def Cp (ops:List Oper) (o:Oper) (s:St):Option (Option Prim×St):=
 match Cf ops o s.tmps with
 |some true=>(opK P C (AM s.tmps) o.dst o.op some).bind λp=>(EP (C:=C) o.dst (p.dr false) s).bind λq=>some (some (p.dr false),RR q.2 o.dst q.1)
 |some false=>some (none,RR s o.dst (.tup []))
 |none=>none
theorem Q3x {tm:List TV} {t:Nat} {v:TV} (h:nth .vD tm t=v) (G:v≠ .vD):setL tm t v=tm:=by
 rw[B8,List.getD]at h;rw[Iq];cases D:tm[t]? with
 |none=>grind
 |some u=>
  rw[D]at h;simp at h;subst h;apply iq
  grind
theorem Zxd (G:Ak P C) {ops:List Oper} {o:Oper} {s:St} {K:Option Prim->St->Option R} {r:R} (h:E_ P C false ops o s K=some r):
  (∃p D,Cp (P:=P) (C:=C) ops o s=some (p,D)/\K p D=some r)\/(∃p D,K (some p) D=some r/\Prim.simple (some p)=false):=by
 have N:∀s1:St,Cf ops o s.tmps=some true->s1=s->(opK P C (AM s1.tmps) o.dst o.op λp=>Be C o.dst (p.dr false) s1 λv D=>put D o.dst v (K (some (p.dr false))))=some r->
   (∃p D,Cp (P:=P) (C:=C) ops o s=some (p,D)/\K p D=some r)\/(∃p D,K (some p) D=some r/\Prim.simple (some p)=false):=by
  rintro s1 O rfl h;rw[Qm]at h;cases U:opK P C (AM s1.tmps) o.dst o.op some with
  |none=>grind
  |some p=>
   rw[U]at h;simp only[am]at h;cases V:Prim.simple (some (p.dr false))
   ·grind [Zjc,L7]
   ·left;rw[Q3u G V]at h;cases hm:EP (C:=C) o.dst (p.dr false) s1 with
    |none=>grind
    |some q=>grind [L7,Cp]
 have L:∀s1:St,Cf ops o s.tmps=some false->s1=s->put s1 o.dst (.tup []) (K none)=some r->
   (∃p D,Cp (P:=P) (C:=C) ops o s=some (p,D)/\K p D=some r)\/(∃p D,K (some p) D=some r/\Prim.simple (some p)=false):=by
  rintro s1 O rfl h;rw[L7]at h;exact .inl ⟨none,_,by grind [Cp],h⟩
 unfold E_ PA at h;cases T:o.guard with
 |none=>simp_all [Cf]
 |some X=>
  obtain⟨j,want⟩:=X;rw[T]at h;simp only at h;split at h
  ·rename_i oj Y;split at h
   ·rename_i t ht;split at h
    ·rename_i g I;have O:Cf ops o s.tmps=some (g==want):=by simp only[Cf,T,Y,ht,I]
     have M:∀b,g=b->(⟨setL s.tmps t (.c (.bool b)),s.aB,s.aC⟩:St)=s:=by
      rintro b rfl;rw[Q3x I (by simp)]
     cases g
     ·simp only[ay]at h;rw[Fo]at h;dsimp only at h;cases want
      ·grind
      grind
     ·simp only[ak]at h;rw[Fo]at h;dsimp only at h;cases want
      ·grind
      grind
    ·simp_all [Cf]
    grind
   grind
  grind
def Ic (P:Program) (C:Cfg) (ops:List Oper) (m:List Nat) (i:Nat) (o:Oper) (s:St):Option (Option Prim×St):=
 if Dq ops m i=true then E_ P C true ops o s λp D=>some (p,D)else Cp (P:=P) (C:=C) ops o s
def Rh (P:Program) (C:Cfg) (ops:List Oper) (m:List Nat):List (Nat×Oper×Option Prim)->St->St->Prop
 |[],s,D=>s=D
 |(i,o,p)::l,s,D=>∃s1,Ic P C ops m i o s=some (p,s1)/\Rh P C ops m l s1 D
theorem Zp (D:Ak P C) {ops:List Oper} {m:List Nat}:∀(l:List Oper) (i:Nat) (s:St) (K:List (Oper×Option Prim)->St->Option R) (r:R),Na P C ops m l i s K=some r->
  (∃(ps:List (Nat×Oper×Option Prim)) (G:St),ps.map (·.2.1)=l/\ps.map (·.1)=List.range' i l.length/\Rh P C ops m ps s G/\K (ps.map (·.2)) G=some r)\/
  (∃(acc:List (Oper×Option Prim)) (G:St),K acc G=some r/\∃(j:Nat) (q:Oper×Option Prim),acc[j]? =some q/\(Dq ops m (i+j)||Prim.simple q.2)=false)
 |[],i,s,K,r,h=> .inl ⟨[],s,rfl,rfl,rfl,h⟩
 |o::l,i,s,K,r,h=>by
  simp only[Na]at h;have I:(∃p s1,Ic P C ops m i o s=some (p,s1)/\Na P C ops m l (i+1) s1 (λrest G=>K ((o,p)::rest) G)=some r)\/
    (∃p s1,Na P C ops m l (i+1) s1 (λrest G=>K ((o,some p)::rest) G)=some r/\(Dq ops m i||Prim.simple (some p))=false):=by
   cases V:Dq ops m i
   ·rw[V]at h;rcases Zxd D h with⟨p,s1,M,L⟩|⟨p,s1,M,L⟩
    ·exact .inl ⟨p,s1,by simp_all [Ic],L⟩
    grind
   ·rw[V,Zdn D]at h;cases X:E_ P C true ops o s λp Y=>some (p,Y)with
    |none=>grind
    |some q=>
     rw[X]at h;exact .inl ⟨q.1,q.2,by simp_all [Ic],h⟩
  rcases I with⟨p,s1,M,L⟩|⟨p,s1,M,L⟩
  ·rcases Zp D l (i+1) s1 _ r L with⟨ps,G,N,O,T,U⟩|⟨acc,G,N,j,q,O,T⟩
   ·exact .inl ⟨(i,o,p)::ps,G,by grind,by simp[O,List.range'_succ],⟨s1,M,T⟩,U⟩
   ·exact .inr ⟨_,G,N,j+1,q,by grind,by grind⟩
  ·rcases Zp D l (i+1) s1 _ r M with⟨ps,G,N,O,T,U⟩|⟨acc,G,N,j,q,O,T⟩
   ·exact .inr ⟨_,G,U,0,(o,some p),by simp,L⟩
   ·exact .inr ⟨_,G,N,j+1,q,by grind,by grind⟩
end
end Go.Bm
