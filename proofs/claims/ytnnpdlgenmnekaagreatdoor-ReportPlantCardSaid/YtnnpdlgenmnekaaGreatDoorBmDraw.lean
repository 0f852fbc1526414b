/- the abstract machine -/
import Derived.Test.YtnnpdlgenmnekaaGreatDoorBmFz
import Derived.ArgAppend
import Derived.LoopN
set_option linter.unusedVariables false
set_option linter.defProp false
set_option linter.unusedSimpArgs false
namespace Go.Bm
open Go.RowKit
section
variable {P:Program} {C:Cfg} {ρ:Env} {w:World} {R:Type} {Z:Base} {tm:List TV} {aB:List (Nat×Box)} {aC:List (Nat×Row)} {tmps:Array Value}
theorem Qj1:∀{l:List (Nat×Nat)} {cs:List AC},J6 l cs=true->cs=Nm l
 |[],[],_=>rfl
 |(k,o)::l,a::cs,h=>by
  cases a<;>simp only[J6]at h<;>try (simp at h;done)
  simp only[ak]at h;rw[ah h.1.1,ah h.1.2,Qj1 h.2];rfl
 |[],_::_,h=>by grind [J6]
 |_::_,[],h=>by grind [J6]
structure Built (aC : List (Nat × Row)) (rl : Nat -> Nat) : Prop where
 rl:∀id r,Ab aC id=some r->rl id=r.l.length
def Seg (l:List AC) (i:Nat) (v:List AC):Prop:=∀j,j<v.length->nth .vD l (i+j)=nth .vD v j
theorem Seg.left {l:List AC} {i:Nat} {v u:List AC} (h:Seg l i (v++u)):Seg l i v:=λj D=>by
 rw[h j (by grind),Ca,Ca,List.getD,List.getD,List.getElem?_append_left D]
theorem Seg.right {l:List AC} {i:Nat} {v u:List AC} (h:Seg l i (v++u)):Seg l (i+v.length) u:=λj D=>by
 rw[jd,h (v.length+j) (by grind),Ca,Ca,List.getD,List.getD,List.getElem?_append_right (by omega)];simp
theorem Seg.one {l:List AC} {i:Nat} {a:AC} (h:Seg l i [a]):nth .vD l i=a:=h 0 (by simp)
def Seg.all (l:List AC):Seg l 0 l:=λj _=>by simp
def Yc6 {rl:Nat->Nat} (I:Built aC rl) {c:CS} {a:AC} {v:List AC} (h:Ig c a=some v) {l:List AC} {i:Nat} (G:Seg l i v):
  (DM rl l c i).2=i+v.length/\∀x,AC.wf aB aC a->CC ρ w a x->CC ρ w (DM rl l c i).1 x:=by
 cases c<;>cases a<;>simp only[Ig]at h<;>try (simp at h;done)
 case any.vD=>simp at h;subst h;exact⟨rfl,λx _ h=>h.one⟩
 case any.int=>simp at h;subst h;exact⟨rfl,λx _ h=>h.one⟩
 case any.bool=>simp at h;subst h;exact⟨rfl,λx _ h=>h.one⟩
 case any.raw=>simp at h;subst h;exact⟨rfl,λx _ h=>h.one⟩
 case any.nilSl=>simp at h;subst h;exact⟨rfl,λx _ h=>h.one⟩
 case any.ptr=>simp at h;subst h;exact⟨rfl,λx _ h=>h.one⟩
 case any.own=>simp at h;subst h;exact⟨rfl,λx _ h=>h.one⟩
 case any.vC=>simp at h;subst h;exact⟨rfl,λx _ h=>h.one⟩
 case any.rptr=>simp at h;subst h;exact⟨rfl,λx _ h=>h.one⟩
 case any.vptr=>simp at h;subst h;exact⟨rfl,λx _ h=>h.one⟩
 case any.clo=>simp at h;subst h;exact⟨rfl,λx _ h=>h.one⟩
 case any.bsl=>simp at h;subst h;exact⟨rfl,λx _ h=>h.one⟩
 case int.int k k' n=>
  cases D:kEq k k'<;>rw[D]at h
  ·grind
  simp at h;subst h;rw[<-QX D];simp[DM,Af,G.one]
 case bool.bool b=>
  simp at h;subst h;simp[DM,EJ,G.one]
 case sl.nilSl ks=>
  simp at h;subst h;simp[CC,CP,DM,BI,G.one]
 case sl.vC ks L l=>
  cases D:Dj ks L<;>rw[D]at h
  ·grind
  simp at h;subst h;rw[<-Jq D];simp[DM,BI,G.one]
 case rawc.raw v=>
  simp at h;subst h;refine⟨rfl,λx _ h=> ?_⟩;simp only[DM,G.one];exact h
 case str.raw v=>
  cases v<;>try (simp[Ig]at h;done)
  simp at h;subst h;simp[DM,Bp,G.one]
 case nil.nilSl=>simp at h;subst h;exact⟨rfl,λx _ h=>h⟩
 case nilp.raw v=>
  cases v<;>try (simp[Ig]at h;done)
  rename_i q;cases q<;>simp[Ig]at h
  subst h;exact⟨rfl,λx _ h=>h⟩
 case ptr.ptr k o k' M=>
  cases D:(Nat.beq k k'&&Nat.beq o M)<;>rw[D]at h
  ·grind
  simp at h;subst h;simp only[ak]at D;rw[<-ah D.1,<-ah D.2];exact⟨rfl,λx _ h=>h⟩
 case bsl.bsl k o k' M=>
  cases D:(Nat.beq k k'&&Nat.beq o M)<;>rw[D]at h
  ·grind
  simp at h;subst h;simp only[ak]at D;rw[<-ah D.1,<-ah D.2];exact⟨rfl,λx _ h=>h⟩
 case own.own id wd id' N n=>
  cases D:(Nat.beq id id'&&Nat.beq wd N)<;>rw[D]at h
  ·grind
  simp at h;subst h;simp only[ak]at D;rw[<-ah D.1,<-ah D.2];refine⟨rfl,λx V h=> ?_⟩;obtain⟨r,X,h2,h3⟩:=V;show CC ρ w (.own id wd (rl id)) x;rw[I.rl id r X]
  grind
 case clo.clo f fs cs Y O U=>
  cases D:(Nat.beq f Y&&J6 fs O&&J6 cs U)<;>rw[D]at h
  ·grind
  simp at h;subst h;simp only[ak]at D;rw[<-ah D.1.1,Qj1 D.1.2,Qj1 D.2];exact⟨rfl,λx _ h=>h⟩
def VC {rl:Nat->Nat} (D:Built aC rl) {l:List AC}:∀{cs:List CS} {as:List AC} {v:List AC},G3 cs as=some v->∀{i},Seg l i v->
  (D5 rl l cs i).2=i+v.length/\(D5 rl l cs i).1.length=as.length/\∀xs,(∀a∈as,AC.wf aB aC a)->CL (CC ρ w) as xs->CL (CC ρ w) (D5 rl l cs i).1 xs
 |[],[],v,h,i,_=>by simp[G3]at h;subst h;exact⟨rfl,rfl,λxs _ h=>h⟩
 |c::cs,a::as,v,h,i,I=>by
  simp only[G3]at h;split at h
  ·rename_i X O;split at h
   ·rename_i Y U;simp at h;subst h;obtain⟨L,M⟩:=Yc6 D O I.left;obtain⟨p1,p3,V⟩:=VC D U I.right;simp only[D5];generalize hb:DM rl l c i=q at L M;obtain⟨b,i'⟩:=q;subst L;refine⟨by grind,by grind,λxs N G=> ?_⟩;cases xs with
    |nil=>exact G.elim
    |cons x xs=>exact⟨M x (N a (by simp)) G.1,V xs (λb hb=>N b (by grind)) G.2⟩
   grind
  grind
 |[],_::_,v,h,_,_=>by grind [G3]
 |_::_,[],v,h,_,_=>by grind [G3]
def Q46 {rl:Nat->Nat} (D:Built aC rl) {l:List AC}:∀{ps:List (Bool×List CS)} {G:List (Bool×List AC)} {v:List AC},Nt ps G=some v->∀{i},Seg l i v->
  (HH rl l ps i).2=i+v.length/\∀xs,(∀p∈G,∀a∈p.2,AC.wf aB aC a)->TP ρ w G xs->TP ρ w (HH rl l ps i).1 xs
 |[],[],v,h,i,_=>by simp[Nt]at h;subst h;exact⟨rfl,λxs _ h=>h⟩
 |(g,cs)::ps,(O,as)::G,v,h,i,U=>by
  simp only[Nt]at h;cases V:(g==O)<;>rw[V]at h
  ·grind
  simp at h;have I:g=O:=by simpa using V
  subst I;split at h
  ·rename_i v1 h1;split at h
   ·rename_i v2 h2;simp at h;subst h;obtain⟨X,q3,Y⟩:=VC D h1 U.left;obtain⟨p1,p2⟩:=Q46 D h2 U.right;simp only[HH];generalize hb:D5 rl l cs i=q at X Y q3;obtain⟨b,i'⟩:=q;subst X;refine⟨by grind,λxs hw L=> ?_⟩;cases xs with
    |nil=>exact L.elim
    |cons x xs=>
     refine⟨?_,p2 xs (λp hp=>hw p (by grind)) L.2⟩;have M:=L.1;have N:=hw (g,as) (by simp);cases g
     ·obtain⟨a,e1,e2⟩:=M;subst e1;have:=Y [x] N ⟨e2,trivial⟩;cases b with
      |nil=>grind
      |cons c b=>
       cases b with
       |nil=>exact⟨c,rfl,this.1⟩
       |cons=>grind
     grind
   grind
  grind
 |[],_::_,v,h,_,_=>by grind [Nt]
 |(_,_)::_,[],v,h,_,_=>by grind [Nt]
def Z9w {rl:Nat->Nat} (G:Built aC rl) {t:TS} {u:TV} {v:List AC} (h:LU t u=some v) {l:List AC} {i:Nat} (O:Seg l i v):
  (H7 rl l t i).2=i+v.length/\∀x,TV.wf aB aC u->TVR ρ w u x->TVR ρ w (H7 rl l t i).1 x:=by
 cases t with
 |vD=>simp[LU]at h;subst h;exact⟨rfl,λ_ _ _=>trivial⟩
 |v g cs=>
  cases u with
  |vD=>grind [LU]
  |tup=>grind [LU]
  |v U as=>
   simp only[LU]at h;cases V:(g==U)<;>rw[V]at h
   ·grind
   simp at h;have M:g=U:=by simpa using V
   subst M;obtain⟨I,Y,D⟩:=VC G h O;simp only[H7];generalize hb:D5 rl l cs i=q at I D Y;obtain⟨b,i'⟩:=q;refine⟨I,λx L X=> ?_⟩;cases g
   ·obtain⟨a,rfl,e2⟩:=X;have:=D [x] L ⟨e2,trivial⟩;cases b with
    |nil=>grind
    |cons c b=>
     cases b with
     |nil=>exact⟨c,rfl,this.1⟩
     |cons=>grind
   obtain⟨N,rfl,e2⟩:=X;exact⟨N,rfl,D _ L e2⟩
 |tup ps=>
  cases u with
  |vD=>grind [LU]
  |v=>grind [LU]
  |tup qs=>
   obtain⟨I,D⟩:=Q46 G h O;simp only[H7];generalize hb:HH rl l ps i=q at I D;obtain⟨b,i'⟩:=q;exact⟨I,λx L ⟨N,e1,e2⟩=>⟨N,e1,D _ L e2⟩⟩
def WO {rl:Nat->Nat} (D:Built aC rl) {l:List AC}:∀{G:List TS} {I:List TV} {v:List AC},Lg G I=some v->∀{i},Seg l i v->
  (E1 rl l G i).2=i+v.length/\(E1 rl l G i).1.length=I.length/\∀(n:Nat) (b:TV),(E1 rl l G i).1[n]? =some b->∃u,I[n]? =some u/\∀x,TV.wf aB aC u->TVR ρ w u x->TVR ρ w b x
 |[],[],v,h,i,_=>by simp_all [Lg,E1]
 |t::G,u::I,v,h,i,L=>by
  simp only[Lg]at h;split at h
  ·rename_i O M;split at h
   ·rename_i U N;simp at h;subst h;obtain⟨V,X⟩:=Z9w (ρ:=ρ) (w:=w) (aB:=aB) D M L.left;obtain⟨Y,p3,p2⟩:=WO D N L.right;simp only[E1]
    grind
   grind
  grind
 |[],_::_,v,h,_,_=>by grind [Lg]
 |_::_,[],v,h,_,_=>by grind [Lg]
def Q3n {rl:Nat->Nat} (I:Built aC rl) {l:List AC}:∀{bs:List (Nat×TypeId×List CS)} {v:List AC},Kv bs aB=some v->∀{i},Seg l i v->
  ∀k b,Ab (Fy rl l bs i) k=some b->k∈bs.map (·.1)/\∃D,Ab aB k=some D/\b.ty=D.ty/\∀xs,(∀a∈D.cells,AC.wf aB aC a)->CL (CC ρ w) D.cells xs->CL (CC ρ w) b.cells xs
 |[],v,h,i,_,k,b,G=>by grind [Fy,Ab]
 |(j,t,cs)::bs,v,h,i,M,k,b,G=>by
  simp only[Kv]at h;split at h
  ·rename_i D O;cases U:Nat.beq t D.ty<;>rw[U]at h
   ·grind
   simp at h;split at h
   ·rename_i v1 V;split at h
    ·rename_i v2 X;simp at h;subst h;obtain⟨N,Y,q2⟩:=VC (ρ:=ρ) (w:=w) (aB:=aB) I V M.left;simp only[Fy]at G;generalize hb:D5 rl l cs i=q at N q2 Y G;obtain⟨c,i'⟩:=q;subst N;simp only[Ab]at G;cases L:Nat.beq j k<;>rw[L]at G
     ·obtain⟨p1,p2⟩:=Q3n I X M.right k b G
      grind
     grind [Nat.eq_of_beq_eq_true]
    grind
   grind
  grind
def Qkz {l:List AC}:∀{rs:List (Nat×TypeId×List Kd)} {v:List AC},Ke rs aC=some v->∀{i},Seg l i v->
  (Hl l rs i).2=i+v.length/\(∀id r,Ab (Hl l rs i).1 id=some r->Ab aC id=some r)/\∀id t ks,Ab rs id=some (t,ks)->∃r,Ab (Hl l rs i).1 id=some r/\r.ks=ks
 |[],v,h,i,_=>by simp_all [Ke,Hl,Ab]
 |(k,t,ks)::rs,v,h,i,M=>by
  simp only[Ke]at h;split at h
  ·rename_i r N;cases hb:(Nat.beq t r.ty&&Dj ks r.ks)<;>rw[hb]at h
   ·grind
   simp at h;simp only[ak]at hb;split at h
   ·rename_i O I;simp at h;subst h;have G:Seg l i ([.vC ks r.l]++O):=M;obtain⟨U,V,X⟩:=Qkz I G.right;simp only[Hl,G.left.one,BI];generalize hB:Hl l rs (i+1)=q at U V X;refine⟨by grind,λid r' D=> ?_,λid t' Y D=> ?_⟩
    ·simp only[Ab]at D;cases L:Nat.beq k id<;>rw[L]at D
     ·grind
     have:=ah L;subst this;simp at D;subst D;rw[N,ah hb.1,Jq hb.2]
    simp only[Ab]at D⊢
    grind
   grind
  grind
section names
variable {keys:List Nat} {rs:List (Nat×TypeId×List Kd)} {B':List (Nat×Box)} {R':List (Nat×Row)} {rl:Nat->Nat}
def Qds (G:∀k∈keys,∃b,Ab B' k=some b):∀(l:List (Nat×Nat)),Al (λp:Nat×Nat=>AV keys p.1) l=true->∀a∈Nm l,AC.wfP B' a
 |[],_,a,D=>by grind [Nm]
 |(k,o)::l,h,a,D=>by
  have I:=Au.1 h;simp only[Nm,be]at D;rcases D with rfl|D
  ·exact G k (FE.1 (I (k,o) (by simp)))
  exact Qds G l (Au.2 λp L=>I p (by grind)) a D
def Zw5 (G:∀k∈keys,∃b,Ab B' k=some b) (I:∀id t ks,Ab rs id=some (t,ks)->∃r,Ab R' id=some r/\r.ks=ks/\rl id=r.l.length) {c:CS} (D:c.okB keys rs=true) (l:List AC) (i:Nat):AC.wf B' R' (DM rl l c i).1:=by
 cases c<;>simp only[DM]<;>try trivial
 case rawc=>simp only[NR];split<;>trivial
 case ptr k o=>exact G k (FE.1 D)
 case bsl k o=>exact G k (FE.1 D)
 case own id wd=>
  simp only[CS.okB]at D;split at D
  ·rename_i t ks L;obtain⟨r,M,O,N⟩:=I id t ks L;refine⟨r,M,N.symm,?_⟩;show r.ks.length=wd;simp_all
  grind
 case clo f fs cs=>
  simp only[CS.okB,ak]at D;exact⟨Qds G fs D.1,Qds G cs D.2⟩
def TY (G:∀k∈keys,∃b,Ab B' k=some b) (I:∀id t ks,Ab rs id=some (t,ks)->∃r,Ab R' id=some r/\r.ks=ks/\rl id=r.l.length):∀{cs:List CS},Al (CS.okB keys rs) cs=true->∀(l:List AC) (i:Nat),∀a∈(D5 rl l cs i).1,AC.wf B' R' a
 |[],_,l,i,a,D=>by grind [D5]
 |c::cs,h,l,i,a,D=>by
  have L:=Au.1 h;simp only[D5,be]at D;rcases D with rfl|D
  ·exact Zw5 G I (L c (by simp)) l i
  exact TY G I (Au.2 λc M=>L c (by grind)) l _ a D
def Q0h (G:∀k∈keys,∃b,Ab B' k=some b) (I:∀id t ks,Ab rs id=some (t,ks)->∃r,Ab R' id=some r/\r.ks=ks/\rl id=r.l.length):∀{ps:List (Bool×List CS)},Al (λp:Bool×List CS=>Al (CS.okB keys rs) p.2) ps=true->∀(l:List AC) (i:Nat),∀p∈(HH rl l ps i).1,∀a∈p.2,AC.wf B' R' a
 |[],_,l,i,p,D=>by grind [HH]
 |(g,cs)::ps,h,l,i,p,D=>by
  have L:=Au.1 h;simp only[HH,be]at D;rcases D with rfl|D
  ·exact TY G I (L (g,cs) (by simp)) l i
  exact Q0h G I (Au.2 λc M=>L c (by grind)) l _ p D
def Zw1 (D:∀k∈keys,∃b,Ab B' k=some b) (G:∀id t ks,Ab rs id=some (t,ks)->∃r,Ab R' id=some r/\r.ks=ks/\rl id=r.l.length) {t:TS} (I:t.okB keys rs=true) (l:List AC) (i:Nat):TV.wf B' R' (H7 rl l t i).1:=by
 cases t with
 |vD=>trivial
 |v g cs=>exact TY D G I l i
 |tup ps=>exact Q0h D G I l i
def Qe4 (G:∀k∈keys,∃b,Ab B' k=some b) (I:∀id t ks,Ab rs id=some (t,ks)->∃r,Ab R' id=some r/\r.ks=ks/\rl id=r.l.length):∀{ts:List TS},Al (TS.okB keys rs) ts=true->∀(l:List AC) (i:Nat),∀v∈(E1 rl l ts i).1,TV.wf B' R' v
 |[],_,l,i,v,D=>by grind [E1]
 |t::ts,h,l,i,v,D=>by
  have L:=Au.1 h;simp only[E1,be]at D;rcases D with rfl|D
  ·exact Zw1 G I (L t (by simp)) l i
  exact Qe4 G I (Au.2 λc M=>L c (by grind)) l _ v D
def Zhi (D:∀k∈keys,∃b,Ab B' k=some b) (G:∀id t ks,Ab rs id=some (t,ks)->∃r,Ab R' id=some r/\r.ks=ks/\rl id=r.l.length):∀{bs:List (Nat×TypeId×List CS)},Al (λp:Nat×TypeId×List CS=>Al (CS.okB keys rs) p.2.2) bs=true->∀(l:List AC) (i k:Nat) (b:Box),Ab (Fy rl l bs i) k=some b->∀a∈b.cells,AC.wf B' R' a
 |[],_,l,i,k,b,hb=>by grind [Fy,Ab]
 |(j,t,cs)::bs,h,l,i,k,b,hb=>by
  have I:=Au.1 h;simp only[Fy,Ab]at hb;cases L:Nat.beq j k<;>rw[L]at hb
  ·exact Zhi D G (Au.2 λc M=>I c (by grind)) l _ k b hb
  simp at hb;subst hb;exact TY D G (I (j,t,cs) (by simp)) l i
end names
def Q18 {rl:Nat->Nat} (l:List AC):∀(bs:List (Nat×TypeId×List CS)) (i k:Nat),k∈bs.map (·.1)->∃b,Ab (Fy rl l bs i) k=some b
 |[],_,k,h=>by grind
 |(j,t,cs)::bs,i,k,h=>by
  simp only[Fy,Ab];cases D:Nat.beq j k
  ·have:k∈bs.map (·.1):=by
    simp only[bz,be]at h;exact h.resolve_left λe=>Hh D e.symm
   exact Q18 l bs _ k this
  simp
def RelE.rebuild {sk:Sk} {vars:List AC} (h:RelE Z tm aB aC ρ tmps w) (hZ:∀k b,Z.K0 k=some b->D8 k=true) (U:sk.okB=true) (V:DU sk ⟨tm,aB,aC⟩=some vars):
  RelE Z (AG sk vars).tmps (AG sk vars).aB (AG sk vars).aC ρ tmps w:=by
 simp only[DU]at V;obtain ⟨a4, V⟩ : Al (λp : Nat × Box => !(D8 p.1) || AV (sk.aB.map (·.1)) p.1) aB = true /\ (match Ke sk.aC aC with
  |some a=>match Lg sk.tmps tm with
   |some b=>match Kv sk.aB aB with
    |some c=>some (a++(b++c))
    |none=>none
   |none=>none
  |none=>none)=some vars:=by grind
 split at V
 ·rename_i M a5;split at V
  ·rename_i vb a6;split at V
   ·rename_i vc a7;simp at V;subst V;have N:=Seg.all (M++(vb++vc));generalize O:M++(vb++vc)=l at N⊢;rw[<-O]at N;have a8:Seg l 0 M:=by rw[<-O];exact(Seg.all _).left
    have a9:Seg l (0+M.length) vb:=by rw[<-O];exact(Seg.all _).right.left
    have b1:Seg l (0+M.length+vb.length) vc:=by rw[<-O];exact(Seg.all _).right.right
    obtain⟨r1,Y,r3⟩:=Qkz a5 a8;simp only[AG];generalize hR:Hl l sk.aC 0=qr at r1 Y r3;obtain⟨R',ir⟩:=qr;simp only at r1 Y r3⊢;subst r1;have c0:sk.okB=true:=U;simp only[Sk.okB,ak]at U;obtain⟨⟨⟨ok1,c2⟩,a0⟩,a1⟩:=U
    have c1:∀id r,Ab R' id=some r->DY R' id=r.l.length:=λid r O=>by grind [DY]
    have G:∀k∈sk.aB.map (·.1),∃b,Ab (Fy (DY R') l sk.aB (0+M.length+vb.length)) k=some b:=λk I=>Q18 l sk.aB _ k I;have a2:∀id t ks,Ab sk.aC id=some (t,ks)->∃r,Ab R' id=some r/\r.ks=ks/\DY R' id=r.l.length:=λid t ks O=>by grind
    let D:Nat->Nat:=λid=>match Ab aC id with
     |some r=>r.l.length
     |none=>0
    have a3:Built aC D:=⟨λid r O=>by grind⟩;have b2:∀id t ks,Ab sk.aC id=some (t,ks)->D id=DY R' id:=λid t ks O=>by grind
    have eC:∀(c:CS) (i:Nat),c.okB (sk.aB.map (·.1)) sk.aC=true->DM D l c i=DM (DY R') l c i:=by
     intro c i hc;cases c<;>try rfl
     rename_i id wd;simp only[CS.okB]at hc;split at hc
     ·grind [DM]
     grind
    have b3:∀(cs:List CS) (i:Nat),Al (CS.okB (sk.aB.map (·.1)) sk.aC) cs=true->D5 D l cs i=D5 (DY R') l cs i:=by
     intro cs;induction cs with
     |nil=>intro i _;rfl
     |cons c cs ih=>grind [Au,D5]
    have b4:∀(ps:List (Bool×List CS)) (i:Nat),Al (λp:Bool×List CS=>Al (CS.okB (sk.aB.map (·.1)) sk.aC) p.2) ps=true->HH D l ps i=HH (DY R') l ps i:=by
     intro ps;induction ps with
     |nil=>intro i _;rfl
     |cons p ps ih=>grind [Au,HH]
    have eT:∀(t:TS) (i:Nat),t.okB (sk.aB.map (·.1)) sk.aC=true->H7 D l t i=H7 (DY R') l t i:=by
     intro t i ht;cases t with
     |vD=>rfl
     |v g cs=>simp only[H7];rw[b3 cs i ht]
     |tup ps=>simp only[H7];rw[b4 ps i ht]
    have b5:∀(ts:List TS) (i:Nat),Al (TS.okB (sk.aB.map (·.1)) sk.aC) ts=true->E1 D l ts i=E1 (DY R') l ts i:=by
     intro ts;induction ts with
     |nil=>intro i _;rfl
     |cons c cs ih=>grind [Au,E1]
    have b6:∀(bs:List (Nat×TypeId×List CS)) (i:Nat),Al (λp:Nat×TypeId×List CS=>Al (CS.okB (sk.aB.map (·.1)) sk.aC) p.2.2) bs=true->Fy D l bs i=Fy (DY R') l bs i:=by
     intro bs;induction bs with
     |nil=>intro i _;rfl
     |cons p bs ih=>grind [Au,Fy]
    have hT:=WO (ρ:=ρ) (w:=w) (aB:=aB) a3 a6 a9;rw[b5 sk.tmps _ a0]at hT;obtain⟨t1,t2,t3⟩:=hT;have tw:=Qe4 (rl:=DY R') G a2 a0 l (0+M.length);generalize c3:E1 (DY R') l sk.tmps (0+M.length)=qt at t1 t2 t3 tw;obtain⟨T',it⟩:=qt;simp only at t1 t2 t3 tw⊢;subst t1;have hB:=Q3n (ρ:=ρ) (w:=w) a3 a7 b1;rw[b6 sk.aB _ a1]at hB;refine⟨by grind [h.tl],λi v X=> ?_,tw,Zhi G a2 a1 l _,λk b I=> ?_,λk k' b b' I b7 he=> ?_,λid r X=>h.ro id r (Y id r X),λid id' r r' g X b8=>h.ri id id' r r' g (Y id r X) (Y id' r' b8),λk b id r I X=> ?_,λb hb=> ?_,h.fr,h.fs,h.i0,h.i1,λk b I=> ?_⟩
    ·obtain⟨u,hu,hx⟩:=t3 i v X;exact hx _ (h.wt u (df hu)) (h.tv i u hu)
    ·obtain⟨_,b0,L,q2,q3⟩:=hB k b I;obtain⟨arr,p1,p2,p3⟩:=h.bx k b0 L;exact⟨arr,by grind,q3 _ (h.wb k b0 L) p2,p3⟩
    ·obtain⟨_,b0,L,_⟩:=hB k b I;obtain⟨_,c4,b9,_⟩:=hB k' b' b7;exact h.bi k k' _ _ L b9 he
    ·obtain⟨_,b0,L,_⟩:=hB k b I;exact h.br k b0 id r L (Y id r X)
    ·obtain⟨L,q2,q3⟩:=h.ib b hb
     grind
    obtain⟨L,bo,q2⟩:=h.k0 k b I;refine⟨L,G k ?_⟩;have:=Au.1 a4 (k,bo) (Qc q2);simp_all [FE]
   grind
  grind
 grind
end
open Go.RowKit
section
variable {P:Program} {C:Cfg} {ρ:Env} {w:World} {R:Type} {Z:Base} {tm:List TV} {aB:List (Nat×Box)} {aC:List (Nat×Row)} {tmps:Array Value}
theorem GQ {α:Type}:∀(l:List α) (o:Nat) (D:List α),o+D.length<=l.length->splice l o D=l.take o++D++l.drop (o+D.length)
 |l,o,[],h=>by simp[Qg8]
 |[],o,_::_,h=>by grind
 |x::l,0,v::D,h=>by
  simp only[splice,List.take_zero,cq,da];rw[GQ l 0 D (by grind)];simp
 |x::l,o+1,v::D,h=>by
  simp only[splice];rw[GQ l o (v::D) (by grind)]
  grind
def Qu9 {t:TypeId} {x:Value} {b off:Nat} {cur:Array Value} {ty:TypeId} (G:szT P t=some x.cells.toList.length) (hb:w.heap[b]? =some (.cells cur ty (0,0)))
  (I:off+x.cells.toList.length<=cur.size) (D:∀v∈x.cells.toList,v.oneCell'=true):
  (storeVar t ⟨b,off,none⟩ x).run P w= .ok () (w.setRow b (splice cur.toList off x.cells.toList).toArray):=by
 have:=run_storeCells_at P b off ty x.cells.toList 0 cur w hb (by omega) D;simp_all [D_,storeVar,GQ]
def Z8h {α:Type} (xs D:List α) (i wd sub n:Nat) (G:i<n) (L:xs.length=n*wd) (M:sub+D.length<=wd):
  cut (splice xs (i*wd+sub) D) (i*wd) wd=splice (cut xs (i*wd) wd) sub D:=by
 have hle:i*wd+wd<=n*wd:=by
  calc i*wd+wd=(i+1)*wd:=by grind
   _<=n*wd:=db _ G
 have I:(cut xs (i*wd) wd).length=wd:=by simp[cut];omega
 rw[GQ _ _ _ (by omega),GQ _ _ _ (by omega)];apply ia;intro j;simp only[cut,gj,fg,f6,jm,cg,fo]
 grind
def Ztb {α:Type} (xs G:List α) (i j wd sub n:Nat) (L:i<n) (D:j≠i) (M:xs.length=n*wd) (N:sub+G.length<=wd):
  cut (splice xs (i*wd+sub) G) (j*wd) wd=cut xs (j*wd) wd:=by
 have hle:i*wd+wd<=n*wd:=by
  calc i*wd+wd=(i+1)*wd:=by grind
   _<=n*wd:=db _ L
 rw[GQ _ _ _ (by omega)];have I:j*wd+wd<=i*wd\/i*wd+wd<=j*wd:=by
  rcases Nat.lt_or_gt_of_ne D with h|h
  ·left
   calc j*wd+wd=(j+1)*wd:=by grind
    _<=i*wd:=db _ h
  right
  calc i*wd+wd=(i+1)*wd:=by grind
   _<=j*wd:=db _ h
 apply ia;intro k;simp only[cut,gj,fg,f6,jm,cg]
 grind
theorem Yd7 {o:Oper} {a:Act} {f:FuncId} {xs:List Value} {next:Act->World->Prop} {Q:Exit->Act->World->Prop} (D:Pr P f) (he:execOp a.eval o=callFunc f xs.toArray)
  (h:Calls P f xs.toArray w λe w'=>∃x,e= .returned x/\next (a.put o.dst x) w'):o.wp P a w next Q:=by
 obtain⟨I,G,L,M⟩:=D;unfold Oper.wp;have:(execOp a.eval o).run P w= .ok (.enter f xs.toArray) w:=by
  rw[he];simp only[callFunc,Sem.run_bind,run_program,dv,G];rw[ab (by grind),ab (by grind)];rfl
 rw[this,Oper.upon_enter];refine h.mono λe w' ⟨x,he,hn⟩=> ?_
 grind
def NI {o:Oper} {a:Act} {f:FuncId} {xs:List Value} {next:Act->World->Prop} {Q:Exit->Act->World->Prop} (he:execOp a.eval o=callFunc f xs.toArray)
  (h:CallsX P f xs.toArray w λe w'=>∃x,e= .returned x/\next (a.put o.dst x) w'):o.wp P a w next Q:=by
 rcases h with⟨G,D⟩|⟨x,w',G,y,D,I⟩
 ·grind [Yd7]
 simp only[Ending.returned.injEq]at D;subst D;unfold Oper.wp;rw[he,G];exact I
def Ik {o:Oper} {a:Act} {x:Value} {w':World} {next:Act->World->Prop} {Q:Exit->Act->World->Prop} (he:(execOp a.eval o).run P w= .ok (.value x) w') (h:next (a.put o.dst x) w'):o.wp P a w next Q:=by
 unfold Oper.wp;rw[he];exact h
def Zi7 {o:Oper} {a:Act} {w':World} {next:Act->World->Prop} {Q:Exit->Act->World->Prop} (he:(execOp a.eval o).run P w= .ok .skip w') (h:next (a.put o.dst undef) w'):o.wp P a w next Q:=by
 unfold Oper.wp;rw[he];exact h
theorem CL.one {l:List AC} {xs:List Value} (h:CL (CC ρ w) l xs):∀v∈xs,v.oneCell'=true:=by
 induction l generalizing xs with
 |nil=>cases xs<;>first|(intro v D;simp at D;done)|exact h.elim
 |cons a l G=>
  cases xs with
  |nil=>simp
  |cons y xs=>
   intro v D;simp only[be]at D;rcases D with rfl|D
   ·exact h.1.one
   exact G h.2 v D
def CL.oneP {im:Nat->Prop} {l:List AC} {xs:List Value} (h:CL (CP im w) l xs):∀v∈xs,v.oneCell'=true:=by
 induction l generalizing xs with
 |nil=>cases xs<;>first|(intro v D;simp at D;done)|exact h.elim
 |cons a l G=>
  cases xs with
  |nil=>simp
  |cons y xs=>
   intro v D;simp only[be]at D;rcases D with rfl|D
   ·exact h.1.one
   exact G h.2 v D
theorem RowC.one {im:Nat->Prop} {ks:List Kd} {l:List (List AC)} {xs:List Value} (h:RowC im w ks l xs) (D:0<ks.length):∀v∈xs,v.oneCell'=true:=by
 intro v L;obtain⟨j,G,rfl⟩:=List.getElem_of_mem L;have I:j/ks.length<l.length:=by rw[dz D];rw[h.1]at G;exact G
 have M:j%ks.length<ks.length:=gx _ D;refine(h.2.2 (j/ks.length) _ (an I)).oneP _ ?_;have:(cut xs (j/ks.length*ks.length) ks.length)[j%ks.length]? =some xs[j]:=by
  simp only[cut,gj,M,ig,fg];rw[show j/ks.length*ks.length+j%ks.length=j from by simp[fm,f9]];exact an G
 grind
def RowC.append {im:Nat->Prop} {ks:List Kd} {l m:List (List AC)} {xs D:List Value} (h:RowC im w ks l xs) (h':RowC im w ks m D):
  RowC im w ks (l++m) (xs++D):=by
 refine⟨by rw[cg,h.1,h'.1,cg,jh],λc G=> ?_,λi c L=> ?_⟩
 ·rcases bt.1 G with G|G
  ·exact h.2.1 c G
  exact h'.2.1 c G
 by_cases I:i<l.length
 ·rw[List.getElem?_append_left I]at L;have hle:i*ks.length+ks.length<=l.length*ks.length:=by
   calc i*ks.length+ks.length=(i+1)*ks.length:=by grind
    _<=l.length*ks.length:=db _ I
  have:cut (xs++D) (i*ks.length) ks.length=cut xs (i*ks.length) ks.length:=by
   have:=h.1;simp only[cut];rw[jo (by omega),List.take_append_of_le_length (by grind)]
  rw[this];exact h.2.2 i c L
 rw[List.getElem?_append_right (by omega)]at L;have:cut (xs++D) (i*ks.length) ks.length=cut D ((i-l.length)*ks.length) ks.length:=by
  have M:=h.1;simp only[cut];rw[List.drop_append,List.drop_eq_nil_of_le (by simp_all [db]),cq,M,<-Nat.sub_mul]
 rw[this];exact h'.2.2 (i-l.length) c L
def Z75 {t ty e:TypeId} {i:TypeInfo} (N:P.underlying t=some (.slice e)) (O:P.info? e=some i)
  {b off sLen sCap:Nat} {cur:Array Value} {M:TypeId} (hb:w.heap[b]? =some (.cells cur M (0,0))) {a:Addr} {m c:Nat} {news:List Value} (U:news.length=m*i.size) (D:∀j u,news[j]? =some u->w.cell? (a.add j)=some u) (V:∀u∈news,u.oneCell'=true)
  (G:sLen+m<=sCap) (hle:off+sLen*i.size+news.length<=cur.size):
  (Builtin.append_ #[t,t] ty #[.slice (some ⟨b,off,none⟩) sLen sCap, .slice (some a) m c]).run P w= .ok (.slice (some ⟨b,off,none⟩) (sLen+m) sCap) (w.setRow b (splice cur.toList (off+sLen*i.size) news).toArray):=by
 have L:=run_firstCells_some (P:=P) w i.size m a m c news U D;have I:=run_storeCells_at P b (off+sLen*i.size) M news 0 cur w hb (by omega) V;simp only[Nat.add_zero]at I;rw[GQ _ _ _ (by omega)];simp[Builtin.append_,run_underlying N,sizeOf,typeInfo,O,Builtin.lenOf,G,L,Addr.add_lit,I]
def Qv9 {t ty e:TypeId} {i:TypeInfo} {z:Value} {size:Nat} (O:P.underlying t=some (.slice e)) (U:P.info? e=some i) (hz:i.zero=some z)
  (G:i.size=size) (X:z.cells.size=size) (Y:0<size)
  {v:Value} {n:Nat} {xs:List Value} (D:Fv w e size v n xs)
  {ad:Option Addr} {m c:Nat} {news:List Value} (hl:news.length=m*size) (L:m=0\/∃a,ad=some a/\∀j u,news[j]? =some u->w.cell? (a.add j)=some u) (h1:∀u∈news,u.oneCell'=true)
  (a0:n+m<=maxLen) (I:(n+m)*i.bytes<=140737488355328):
  ∃M w',(Builtin.append_ #[t,t] ty #[v, .slice ad m c]).run P w= .ok M w'/\Fv w' e size M (n+m) (xs++news)/\w.grownBy w' v.ownBlock/\(M.ownBlock=v.ownBlock\/M.ownBlock=some w.heap.size):=by
 cases ad with
 |some a=>
  have hn:∀j u,news[j]? =some u->w.cell? (a.add j)=some u:=by
   rcases L with rfl|⟨a',a3,hh⟩
   ·grind
   grind
  rcases D.2 with⟨rfl,rfl⟩|⟨g,o,cap,cur,rfl,e3,e4,e5,e6,e7⟩
  ·have hx:xs=[]:=jn (by simpa using D.1);subst hx;obtain⟨M,w',q1,q2,V,_,q5⟩:=run_append_own_at (P:=P) w 0 t ty e i z size i.bytes O U hz G rfl X Y (.slice none 0 0) 0 [] (World.ownsRow_nil w 0 e size) a m c news hl hn h1 a0 I (i8 _)
   grind [Zmm]
  by_cases hr:n+m<=cap
  ·subst G;have a4:n*i.size+m*i.size<=cap*i.size:=by rw[<-jh];exact db _ hr
   have q:=Z75 (P:=P) (ty:=ty) (off:=o) (sLen:=n) (sCap:=cap) (c:=c) O U e3 hl hn h1 hr (by omega);have a5:=Ne cur.toList (o+n*i.size) news;refine⟨_,_,q,⟨by grind, .inr ⟨g,o,cap,_,rfl,setRow_heap w g cur _ e _ e3,hr,e5,by grind,?_⟩⟩,⟨rfl,rfl,rfl,by simp,λk hk a1=>setRow_other w g k _ (λe=>a1 (by rw[e];rfl))⟩, .inl rfl⟩;have hL:o+n*i.size+news.length<=cur.toList.length:=by rw[hl,fu];omega
   show((splice cur.toList (o+n*i.size) news).toArray.toList.drop o).take ((n+m)*i.size)=xs++news;simp only[List.toList_toArray];rw[GQ _ _ _ hL,ic,jo (by grind),List.drop_take,show o+n*i.size-o=n*i.size from by omega,e7,<-ic];rw[List.take_append_of_le_length (by grind),kg (by grind)]
  obtain ⟨M, w', q1, q2, V⟩ := run_append_arg_grows (P := P) w t ty e i z size i.bytes O U hz G rfl X Y ⟨g, o, none⟩ n cap xs D.1 (λj u hj => by
   have:=Sb D (g:=g) rfl j u hj;rw[Addr.add_lit];exact this) a m c news hl hn (by omega) a0 I
  have N := run_append_grow (P := P) w t ty e i z O U hz ⟨g, o, none⟩ n cap xs (by rw [G]; exact D.1) (λj u hj => by
   have:=Sb D (g:=g) rfl j u hj;rw[Addr.add_lit];exact this) a m c news (by grind) hn (by omega) (by grind [maxLen]) (growslice_fits (by omega) I)
  rw[q1]at N;simp only[Result.ok.injEq]at N;refine⟨M,w',q1,Zmm q2,⟨V.os,V.tape,V.output,V.size,λk hk _=>V.block k hk (by simp)⟩, .inr ?_⟩;rw[N.1];rfl
 |none=>
  have hm:m=0:=by
   rcases L with h|⟨_,h,_⟩
   ·exact h
   grind
  subst hm;have hn:news=[]:=jn (by omega);subst hn;refine⟨v,w,?_,by grind,⟨rfl,rfl,rfl,dm _,λ_ _ _=>rfl⟩, .inl rfl⟩;rcases D.2 with⟨rfl,rfl⟩|⟨g,o,cap,cur,rfl,_,a2,_⟩
  ·simp[Builtin.append_,run_underlying O,sizeOf,typeInfo,U,Builtin.lenOf,Builtin.firstCells]
  simp[Builtin.append_,run_underlying O,sizeOf,typeInfo,U,Builtin.lenOf,Builtin.firstCells,a2,storeCells]
def Zod (h:RelE Z tm aB aC ρ tmps w) {ks:List Kd} {a:AC} {x:Value} {m:List (List AC)} (D:Jd aC ks a=some m) (G:CC ρ w a x):
  ∃I c news,x= .slice I m.length c/\RowC ρ.im w ks m news/\(m.length=0\/∃a,I=some a/\∀j u,news[j]? =some u->w.cell? (a.add j)=some u):=by
 unfold Jd at D;split at D
 ·simp at D;subst D;simp only[CC,CP]at G;subst G;exact⟨none,0,[],rfl,⟨by simp,by simp,λi c hi=>by grind⟩, .inl rfl⟩
 ·rename_i L l;cases hb:Dj ks L<;>rw[hb]at D
  ·grind
  simp at D;subst D;have:=Jq hb;subst this;simp only[CC,CP]at G;obtain⟨I,cap,rfl,hle,hk,hf⟩:=G;rcases hf with rfl|⟨b,o,rfl,_,M⟩
  ·exact⟨I,cap,[],rfl,⟨by simp,by simp,λi c hi=>by grind⟩, .inl rfl⟩
  obtain⟨ys,U,V⟩:=Z4y l hk M;refine⟨_,cap,ys,rfl,U, .inr ⟨_,rfl,λj u N=> ?_⟩⟩;rw[Addr.add_lit];exact V j u N
 ·rename_i id w' n;split at D
  ·rename_i r hr;cases hb:Dj ks r.ks<;>rw[hb]at D
   ·grind
   simp at D;subst D;have:=Jq hb;subst this;obtain⟨U,V,_,xs,X,q4⟩:=h.ro id r hr;obtain⟨O,a0,a1⟩:=G;subst O;rcases X.2 with⟨e1,e2⟩|⟨Y,o,cap,cur,e1,e3,e4,e5,e6,e7⟩
   ·grind
   refine⟨some ⟨Y,o,none⟩,cap,xs,e1,q4, .inr ⟨_,rfl,λj u N=> ?_⟩⟩;have:=Sb X (g:=Y) (by rw[e1];rfl) j u N;rw[e1]at this;rw[Addr.add_lit];exact this
  grind
 grind
def RelE.growIm {im':Nat->Prop} {w':World} (D:RelE Z tm aB aC ρ tmps w) (G:Below w.heap.size w w') (I:∀b,ρ.im b->im' b) (M:∀b,im' b->ρ.im b\/(w.heap.size<=b/\b<w'.heap.size)):
  RelE Z tm aB aC {ρ with im:=im'} tmps w':=by
 have hold:∀b,b<w.heap.size->w'.heap[b]? =w.heap[b]? :=λb hb=>G.block b hb;have O:∀(a:AC) (x:Value),CC ρ w a x->CC {ρ with im:=im'} w' a x:=λa x X=>CC.mono (ρ:=ρ) (ρ':={ρ with im:=im'}) I (λb hb=>hold b (D.ib b hb).1) a x (AC.agree_refl rfl rfl rfl a) X;refine⟨D.tl,λi v hi=>TVR.mono O v _ (D.tv i v hi),D.wt,D.wb,?_,D.bi,?_,D.ri,D.br,?_,D.fr.trans (Fr.of_below G D.fs),λk N=>du (D.fs k N) G.size,λb hb=>I b (D.i0 b hb),λb hb=>(M b hb).elim (D.i1 b) λq=> .inr λhf=>absurd (D.fs b hf) (by omega),λk b N=>D.k0 k b N⟩
 ·intro k b N;obtain⟨arr,Y,U,V⟩:=D.bx k b N;exact⟨arr,by grind,U.mono λa _ x X=>O a x X,V⟩
 ·intro id r0 L;obtain⟨Y,U,q0,ys,V,q4⟩:=D.ro id r0 L;exact⟨Y,U,q0,ys,OA V λg hg=>hold g (D.rwlt L hg).2,q4.mono I (λb hb=>hold b (D.ib b hb).1)⟩
 intro b hb;rcases M b hb with a0|⟨a2,a1⟩
 ·obtain⟨Y,U,V⟩:=D.ib b a0
  grind
 exact⟨a1,λk bo N e=>by have:=D.bxlt N;grind,λid r0 L e=>by have e':(ρ.rv id).ownBlock=some b:=e;have:=(D.rwlt L e').2;omega⟩
end
open Go.RowKit
section
variable {P:Program} {C:Cfg} {ρ:Env} {w:World} {R:Type} {Z:Base} {tm:List TV} {aB:List (Nat×Box)} {aC:List (Nat×Row)} {tmps:Array Value}
def AC.nmP (Kp:Nat->Prop):AC->Prop
 | .ptr k _=>Kp k
 |_=>True
def AC.nm (Kp D:Nat->Prop):AC->Prop
 | .ptr k _=>Kp k
 | .bsl k _=>Kp k
 | .own id _ _=>D id
 | .rptr id _ _=>D id
 | .clo _ fs cs=>(∀a∈fs,AC.nmP Kp a)/\∀a∈cs,AC.nmP Kp a
 |_=>True
def TV.nm (Kp D:Nat->Prop):TV->Prop
 | .v _ cs=>∀a∈cs,AC.nm Kp D a
 | .tup ps=>∀p∈ps,∀a∈p.2,AC.nm Kp D a
 | .vD=>True
def AC.nm_of_inK {keys ids:List Nat} {a:AC} (h:AC.inK keys ids a=true):a.nm (· ∈keys) (· ∈ids):=by
 have D:∀l:List AC,Al (AC.inK.inP keys) l=true->∀a∈l,AC.nmP (· ∈keys) a:=by
  intro l G a I;have:=Au.1 G a I;cases a<;>first|trivial|exact FE.1 this
 cases a with
 |ptr k o=>exact FE.1 h
 |bsl k o=>exact FE.1 h
 |own id w n=>exact FE.1 h
 |rptr id i s=>exact FE.1 h
 |clo f fs cs=>
  simp only[AC.inK,ak]at h;exact⟨D fs h.1,D cs h.2⟩
 |_=>trivial
def TV.nm_of_inK {keys ids:List Nat} {v:TV} (h:TV.inK keys ids v=true):v.nm (· ∈keys) (· ∈ids):=by
 cases v with
 |vD=>trivial
 |v g cs=>exact λa D=>AC.nm_of_inK (Au.1 h a D)
 |tup ps=>exact λp G a D=>AC.nm_of_inK (Au.1 (Au.1 h p G) a D)
def AC.nm_of_wf {a:AC} (h:AC.wf aB aC a):a.nm (λk=>∃b,Ab aB k=some b) (λi=>∃r,Ab aC i=some r):=by
 have G:∀l:List AC,(∀a∈l,AC.wfP aB a)->∀a∈l,AC.nmP (λk=>∃b,Ab aB k=some b) a:=by
  intro l I a L;have:=I a L;cases a<;>first|trivial|exact this
 cases a with
 |ptr k o=>exact h
 |bsl k o=>exact h
 |own id w n=>obtain⟨r,D,_⟩:=h;exact⟨r,D⟩
 |rptr id i s=>obtain⟨r,D,_⟩:=h;exact⟨r,D⟩
 |clo f fs cs=>exact⟨G fs h.1,G cs h.2⟩
 |_=>trivial
def TV.nm_of_wf {v:TV} (h:TV.wf aB aC v):v.nm (λk=>∃b,Ab aB k=some b) (λi=>∃r,Ab aC i=some r):=by
 cases v with
 |vD=>trivial
 |v g cs=>exact λa D=>AC.nm_of_wf (h a D)
 |tup ps=>exact λp G a D=>AC.nm_of_wf (h p G a D)
def Qh2 {D G:Env} {Kp:Nat->Prop} {L:Nat->Nat} (hb:∀k,Kp k->G.bx (L k)=D.bx k) (N:G.im=D.im):∀(l:List AC) (xs:List Value),(∀a∈l,AC.nmP Kp a)->CLc D w l xs->CLc G w (AC.ren.renP L l) xs
 |[],[],_,_=>trivial
 |a::l,x::xs,hn,h=>by
  have O:=Qh2 hb N l xs (λb hb=>hn b (by grind)) h.2;have M:=h.1;have I:=hn a (by simp);cases a<;>simp only[AC.ren.renP]<;>refine⟨?_,O⟩<;>first
   |(simp only[CCc]at M⊢;rw[hb _ I];exact M)
   |grind [CCc]
 |[],_::_,_,h=>h.elim
 |_::_,[],_,h=>h.elim
def Qip {D G:Env} {Kp L:Nat->Prop} {M ri:Nat->Nat} (hb:∀k,Kp k->G.bx (M k)=D.bx k) (I:∀i,L i->G.rv (ri i)=D.rv i/\G.wd (ri i)=D.wd i) (N:G.im=D.im)
  {a:AC} {x:Value} (hn:a.nm Kp L) (h:CC D w a x):CC G w (a.ren M ri) x:=by
 cases a with
 |ptr k o=>simp only[AC.ren,CC]at*;rw[hb k hn];exact h
 |bsl k o=>simp only[AC.ren,CC]at*;rw[hb k hn];exact h
 |own id w n=>simp only[AC.ren,CC]at*;rw[(I id hn).1,(I id hn).2];exact h
 |rptr id i s=>simp only[AC.ren,CC]at*;rw[(I id hn).1,(I id hn).2];exact h
 |vptr cs s=>grind [AC.ren,CC]
 |clo f fs cs=>
  obtain⟨xs,O,U,V,X⟩:=h;exact⟨xs,O,U,Qh2 hb N fs _ hn.1 V,Qh2 hb N cs _ hn.2 X⟩
 |vD=>exact h
 |int=>grind [AC.ren,CC]
 |bool=>grind [AC.ren,CC]
 |raw=>grind [AC.ren,CC]
 |nilSl=>grind [AC.ren,CC]
 |vC=>grind [AC.ren,CC]
def RQ {D G:Env} {Kp Ip:Nat->Prop} {I ri:Nat->Nat} (hb:∀k,Kp k->G.bx (I k)=D.bx k) (L:∀i,Ip i->G.rv (ri i)=D.rv i/\G.wd (ri i)=D.wd i) (M:G.im=D.im):
  ∀{l:List AC} {xs:List Value},(∀a∈l,a.nm Kp Ip)->CL (CC D w) l xs->CL (CC G w) (l.map (AC.ren I ri)) xs
 |[],[],_,h=>h
 |a::l,y::xs,hn,h=>⟨Qip hb L M (hn a (by simp)) h.1,RQ hb L M (λb hb=>hn b (by grind)) h.2⟩
 |[],_::_,_,h=>h.elim
 |_::_,[],_,h=>h.elim
def Zis {G I:Env} {Kp Ip:Nat->Prop} {X ri:Nat->Nat} (hb:∀k,Kp k->I.bx (X k)=G.bx k) (M:∀i,Ip i->I.rv (ri i)=G.rv i/\I.wd (ri i)=G.wd i) (N:I.im=G.im)
  {v:TV} {x:Value} (hn:v.nm Kp Ip) (h:TVR G w v x):TVR I w (v.ren X ri) x:=by
 cases v with
 |vD=>trivial
 |v b cs=>
  cases b
  ·obtain⟨a,rfl,ha⟩:=h;exact⟨_,rfl,Qip hb M N (hn a (by simp)) ha⟩
  obtain⟨O,rfl,D⟩:=h;exact⟨O,rfl,RQ hb M N hn D⟩
 |tup ps=>
  obtain⟨O,rfl,D⟩:=h;refine⟨O,rfl,?_⟩;generalize O.toList=l at D;induction ps generalizing l with
  |nil=>cases l<;>first|exact D|exact D.elim
  |cons p ps ih=>
   cases l with
   |nil=>exact D.elim
   |cons y l=>
    obtain⟨b,cs⟩:=p;refine⟨?_,ih (λq hq=>hn q (by grind)) l D.2⟩;have Y:=D.1;have L:=hn (b,cs) (by simp);cases b
    ·obtain⟨a,U,V⟩:=Y;subst U;exact⟨_,rfl,Qip hb M N (L a (by simp)) V⟩
    obtain⟨zs,U,V⟩:=Y;exact⟨zs,U,RQ hb M N L V⟩
def UB {b1 b2:List (Nat×Box)} {N O:List (Nat×Row)} {Kp Ip:Nat->Prop} {G ri:Nat->Nat} (hb:∀k,Kp k->(∃b,Ab b1 k=some b)->∃b,Ab b2 (G k)=some b)
  (U:∀i r,Ip i->Ab N i=some r->∃r',Ab O (ri i)=some r'/\r'.n=r.n/\r'.w=r.w) {a:AC} (hn:a.nm Kp Ip) (h:AC.wf b1 N a):AC.wf b2 O (a.ren G ri):=by
 have V:∀l:List AC,(∀a∈l,AC.nmP Kp a)->(∀a∈l,AC.wfP b1 a)->∀a∈AC.ren.renP G l,AC.wfP b2 a:=by
  intro l;induction l with
  |nil=>grind [AC.ren.renP]
  |cons c l Y=>
   intro hn X a D;have I:=Y (λb hb=>hn b (by grind)) (λb hb=>X b (by grind));have h1:=hn c (by simp);have h2:=X c (by simp);cases c<;>simp only[AC.ren.renP,be]at D<;>rcases D with rfl|D<;>first
    |exact I a D
    |exact hb _ h1 h2
    |trivial
 cases a with
 |ptr k o=>exact hb k hn h
 |bsl k o=>exact hb k hn h
 |own id w n=>obtain⟨r,L,q2,q3⟩:=h;obtain⟨r',M,p2,p3⟩:=U id r hn L;exact⟨r',M,by omega,by omega⟩
 |rptr id i s=>obtain⟨r,L,q2⟩:=h;obtain⟨r',M,p2,p3⟩:=U id r hn L;exact⟨r',M,by omega⟩
 |vptr=>exact h
 |clo f fs cs=>exact⟨V fs hn.1 h.1,V cs hn.2 h.2⟩
 |_=>trivial
def Qzj {b1 b2:List (Nat×Box)} {I L:List (Nat×Row)} {Kp Ip:Nat->Prop} {M ri:Nat->Nat} (hb:∀k,Kp k->(∃b,Ab b1 k=some b)->∃b,Ab b2 (M k)=some b)
  (N:∀i r,Ip i->Ab I i=some r->∃r',Ab L (ri i)=some r'/\r'.n=r.n/\r'.w=r.w) {v:TV} (hn:v.nm Kp Ip) (h:TV.wf b1 I v):TV.wf b2 L (v.ren M ri):=by
 cases v with
 |vD=>trivial
 |v g cs=>
  intro a D;simp only[bj]at D;obtain⟨c,G,rfl⟩:=D;exact UB hb N (hn c G) (h c G)
 |tup ps=>
  intro p O a D;simp only[bj]at O;obtain⟨q,U,rfl⟩:=O;simp only[bj]at D;obtain⟨c,G,rfl⟩:=D;exact UB hb N (hn q U c G) (h q U c G)
theorem Jl:∀{l:List Nat},Ck l=true↔l.Nodup
 |[]=>by simp[Ck]
 |k::l=>by
  simp only[Ck,List.nodup_cons,<-Jl (l:=l)]
  grind [FE]
theorem Dl {l:List Nat} {n:Nat} (h:n∈l):pos l n<l.length/\nth 0 l (pos l n)=n:=by
 induction l with
 |nil=>grind
 |cons m l D=>
  simp only[pos];cases hb:Nat.beq m n
  ·have G:=Hh hb;have:n∈l:=by
    rcases be.1 h with e|e
    ·omega
    exact e
   obtain⟨L,I⟩:=D this;exact⟨by grind,by simp only[bn];exact I⟩
  grind [nth,Nat.eq_of_beq_eq_true]
theorem Zsx {l:List Nat} {m n:Nat} (D:m∈l) (hn:n∈l) (h:pos l m=pos l n):m=n:=by
 rw[<-(Dl D).2,<-(Dl hn).2,h]
theorem PS {l:List Nat} (hd:l.Nodup) {i:Nat} (I:i<l.length):pos l (nth 0 l i)=i:=by
 induction l generalizing i with
 |nil=>grind
 |cons m l L=>
  cases i with
  |zero=>simp[nth,pos]
  |succ i=>
   have D:i<l.length:=by simpa using I
   have G:nth 0 l i∈l:=by
    rw[Ca,List.getD,an D];exact dl D
   rw[List.nodup_cons]at hd;simp only[nth,pos];rw[KS (by grind)]
   grind
theorem GK {l:List Nat} {i:Nat} (D:i<l.length):nth 0 l i∈l:=by grind [Ca]
theorem K3 {I ri:Nat->Nat}:∀{keys:List Nat} {b:Nat} {D:List (Nat×Box)},Dk aB I ri b keys=some D->
  (∀i,i<keys.length->∃x,Ab aB (nth 0 keys i)=some x/\Ab D (b+i)=some ⟨x.ty,x.cells.map (AC.ren I ri)⟩)/\∀c x,Ab D c=some x->∃i,i<keys.length/\c=b+i
 |[],b,D,h=>by grind [Dk,Ab]
 |k::keys,b,D,h=>by
  simp only[Dk]at h;split at h
  ·rename_i x M;split at h
   ·rename_i l N;simp at h;subst h;obtain⟨O,U⟩:=K3 N;refine⟨λi X=> ?_,λc y G=> ?_⟩
    ·cases i with
     |zero=>exact⟨x,M,by simp[Ab]⟩
     |succ i=>
      obtain⟨y,L,V⟩:=O i (by grind);refine⟨y,L,?_⟩
      grind [Ab,KS]
    simp only[Ab]at G;cases hb:Nat.beq b c<;>rw[hb]at G
    ·obtain⟨i,L,V⟩:=U c y G;exact⟨i+1,by grind,by omega⟩
    simp_all
   grind
  grind
def Xw:∀{keys:List Nat} {b:Nat} {D:List (Nat×Row)},GN aC b keys=some D->
  (∀i,i<keys.length->∃x,Ab aC (nth 0 keys i)=some x/\Ab D (b+i)=some x)/\∀c x,Ab D c=some x->∃i,i<keys.length/\c=b+i
 |[],b,D,h=>by grind [GN,Ab]
 |k::keys,b,D,h=>by
  simp only[GN]at h;split at h
  ·rename_i x L;split at h
   ·rename_i l M;simp at h;subst h;obtain⟨N,O⟩:=Xw M;refine⟨λi V=> ?_,λc y G=> ?_⟩
    ·cases i with
     |zero=>exact⟨x,L,by simp[Ab]⟩
     |succ i=>
      obtain⟨y,I,U⟩:=N i (by grind);refine⟨y,I,?_⟩
      grind [Ab,KS]
    simp only[Ab]at G;cases hb:Nat.beq b c<;>rw[hb]at G
    ·obtain⟨i,I,U⟩:=O c y G;exact⟨i+1,by grind,by omega⟩
    simp_all
   grind
  grind
def Jf {α β:Type} (D:Nat->Nat) (g:α->β):List (Nat×α)->List (Nat×β)->List (Nat×β)
 |[],l=>l
 |(k,b)::m,l=>Jf D g m (ins l (D k) (g b))
theorem Y2 (D ri:Nat->Nat):∀(m:List (Nat×Box)) (l:List (Nat×Box)),Kk D ri m l=Jf D (λb=>⟨b.ty,b.cells.map (AC.ren D ri)⟩) m l
 |[],_=>rfl
 |(_,_)::m,_=>by simp only[Kk,Jf];exact Y2 D ri m _
theorem Qmj (ri:Nat->Nat):∀(m:List (Nat×Row)) (l:List (Nat×Row)),ID ri m l=Jf ri (λb=>b) m l
 |[],_=>rfl
 |(_,_)::m,_=>by simp only[ID,Jf];exact Qmj ri m _
def Vc {α β:Type} {rk:Nat->Nat} {g:α->β}:∀{m:List (Nat×α)} {l:List (Nat×β)},(m.map (·.1)).Nodup->(∀k∈m.map (·.1),∀j∈m.map (·.1),rk k=rk j->k=j)->(∀k∈m.map (·.1),Ab l (rk k)=none)->
  (∀k b,Ab m k=some b->Ab (Jf rk g m l) (rk k)=some (g b))/\(∀n,(∀k∈m.map (·.1),n≠rk k)->Ab (Jf rk g m l) n=Ab l n)
 |[],l,_,_,_=>⟨λk b h=>by grind [Ab],λn _=>rfl⟩
 |(j,c)::m,l,hd,G,hn=>by
  simp only[bz,List.nodup_cons]at hd;have I:∀k∈m.map (·.1),rk k≠rk j:=λk D e=>hd.1 (by grind);obtain⟨L,M⟩:=Vc (rk:=rk) (g:=g) (m:=m) (l:=ins l (rk j) (g c)) hd.2 (λk D q N=>G k (by grind) q (by grind)) (λk D=>by grind [Ed])
  grind [Ab,EU,Nat.eq_of_beq_eq_true,Jf,Ed]
theorem LJ {α:Type}:∀(ks:List Nat) (l:List (Nat×α)) (n:Nat),Ab (DA ks l) n=if n∈ks then none else Ab l n
 |[],l,n=>by rfl
 |k::ks,l,n=>by
  simp only[DA];rw[LJ ks];by_cases h:n=k
  ·simp_all [Sw]
  grind [K7]
theorem Lx {α:Type}:∀{l:List (Nat×α)} {k:Nat},k∈l.map (·.1)↔∃b,Ab l k=some b
 |[],k=>by simp[Ab]
 |(j,c)::l,k=>by
  simp only[bz,be,Ab];cases hb:Nat.beq j k
  ·simp only[bn,<-Lx (l:=l)]
   grind [Hh]
  simp_all
theorem K9 {α:Type} {names:List Nat}:∀{l:List (Nat×α)} {k:Nat},k∈BF names l↔k∈l.map (·.1)/\ ¬(base<=k/\k-base<names.length)
 |[],k=>by simp[BF]
 |(j,c)::l,k=>by
  simp only[BF,bz,be];cases hb:(Nat.ble base j&&Nat.blt (j-base) names.length)
  ·have D: ¬(base<=j/\j-base<names.length):=by
    rintro⟨G,I⟩;have e1:=gi G;have e2:Nat.blt (j-base) names.length=true:=gi I;rw[e1,e2]at hb;cases hb
   simp only[bn,be,K9 (l:=l)];constructor
   ·grind
   grind
  simp only[ak]at hb;have D:base<=j/\j-base<names.length:=⟨bc hb.1,bc hb.2⟩;simp only[am,K9 (l:=l)];constructor
  ·grind
  grind
theorem Og {names fresh:List Nat} {d k:Nat} (h:base<=k/\k-base<names.length):BV names fresh d k=nth 0 names (k-base):=by
 unfold BV;rw[gi h.1,show Nat.blt (k-base) names.length=true from gi h.2];rfl
theorem Z8z {names fresh:List Nat} {d k:Nat} (h: ¬(base<=k/\k-base<names.length)):BV names fresh d k=100000+100*d+pos fresh k:=by
 unfold BV;have:(Nat.ble base k&&Nat.blt (k-base) names.length)=false:=by
  apply Bool.eq_false_iff.2;intro hb;simp only[ak]at hb;exact h ⟨bc hb.1,bc hb.2⟩
 grind
def Q98 {α β:Type} {names:List Nat} {d:Nat} {D:List (Nat×α)} {l:List (Nat×β)} (hd:names.Nodup) (hn:∀k∈names,∃b,Ab l k=some b)
  (hf:∀k∈BF names D,Ab l (BV names (BF names D) d k)=none):
  ∀k∈D.map (·.1),∀j∈D.map (·.1),BV names (BF names D) d k=BV names (BF names D) d j->k=j:=by
 intro k L j M he;by_cases G:base<=k/\k-base<names.length<;>by_cases I:base<=j/\j-base<names.length
 ·rw[Og G,Og I]at he;have:=ij (pos names) he
  grind [PS]
 ·grind [K9,Og,GK]
 ·grind [K9,Og,GK]
 grind [Z8z,Zsx,K9]
noncomputable def KJ {α:Type} (m:List (Nat×α)) (bk:Nat->Nat) (n:Nat):Option Nat:= @dite _ (∃k∈m.map (·.1),bk k=n) (Classical.propDecidable _) (λh=>some (Classical.choose h)) (λ_=>none)
theorem Qb2 {α:Type} {m:List (Nat×α)} {bk:Nat->Nat} (D:∀k∈m.map (·.1),∀j∈m.map (·.1),bk k=bk j->k=j) {k:Nat} (G:k∈m.map (·.1)):KJ m bk (bk k)=some k:=by
 unfold KJ;have h:∃j∈m.map (·.1),bk j=bk k:=⟨k,G,rfl⟩
 grind
theorem Qbh {α:Type} {m:List (Nat×α)} {bk:Nat->Nat} {n:Nat} (h:∀k∈m.map (·.1),n≠bk k):KJ m bk n=none:=by
 unfold KJ
 grind
def Zks:∀(ids:List Nat) {v:TV} {x:Value},TVR ρ w v x->TVR ρ w (H_ ids v) x
 |[],_,_,h=>h
 |_::l,_,_,h=>Zks l (TV.kill_TVR h)
def Zie:∀(ids:List Nat) {v:TV},TV.wf aB aC v->TV.wf aB aC (H_ ids v)
 |[],_,h=>h
 |_::l,_,h=>Zie l (TV.kill_wf h)
theorem Qhc {id j:Nat} {a:AC} (h:AC.free j a):AC.free j (a.kill id):=by
 cases a with
 |own i w n=>simp only[AC.kill];cases Nat.beq i id<;>first|exact h|trivial
 |rptr i n s=>simp only[AC.kill];cases Nat.beq i id<;>first|exact h|trivial
 |_=>trivial
def Yey {id j:Nat} {v:TV} (h:TV.free j v):TV.free j (v.kill id):=by
 cases v with
 |v g cs=>
  intro a D;simp only[bj]at D;obtain⟨b,hb,rfl⟩:=D;exact Qhc (h b hb)
 |tup ps=>
  intro p G a D;simp only[bj]at G;obtain⟨q,I,rfl⟩:=G;simp only[bj]at D;obtain⟨b,hb,rfl⟩:=D;exact Qhc (h q I b hb)
 |vD=>trivial
def Qta {j:Nat}:∀(ids:List Nat) {v:TV},TV.free j v->TV.free j (H_ ids v)
 |[],_,h=>h
 |_::l,_,h=>Qta l (Yey h)
def Zep:∀(ids:List Nat) (v:TV),∀id∈ids,TV.free id (H_ ids v)
 |[],_,id,h=>by grind
 |i::l,v,id,h=>by
  simp only[be]at h;by_cases e:id∈l
  ·exact Zep l (v.kill i) id e
  have:id=i:=h.resolve_right e;subst this;exact Qta l (TV.kill_free id v)
theorem Q76:∀(ids:List Nat) (b:Box),(Du ids b).ty=b.ty
 |[],_=>rfl
 |_::l,b=>by rw[Du,Q76 l];rfl
def Ze0:∀(ids:List Nat) {b:Box} {xs:List Value},CL (CC ρ w) b.cells xs->CL (CC ρ w) (Du ids b).cells xs
 |[],_,_,h=>h
 |i::l,b,_,h=>Ze0 l (b:=b.kill i) h.kill
def Zdl:∀(ids:List Nat) {b:Box},(∀a∈b.cells,AC.wf aB aC a)->∀a∈(Du ids b).cells,AC.wf aB aC a
 |[],_,h=>h
 |i::l,b,h=>Zdl l (b:=b.kill i) (λa D=>by grind [Box.kill,AC.kill_wf])
def Qx2 {j:Nat}:∀(ids:List Nat) {b:Box},(∀a∈b.cells,AC.free j a)->∀a∈(Du ids b).cells,AC.free j a
 |[],_,h=>h
 |i::l,b,h=>Qx2 l (b:=b.kill i) (λa D=>by grind [Box.kill,Qhc])
def Q21:∀(ids:List Nat) (b:Box),∀id∈ids,∀a∈(Du ids b).cells,AC.free id a
 |[],_,id,h=>by grind
 |i::l,b,id,h=>by
  simp only[be]at h;by_cases e:id∈l
  ·exact Q21 l (b.kill i) id e
  have:id=i:=h.resolve_right e;subst this;exact Qx2 l (b:=b.kill id) (λa D=>by grind [Box.kill,AC.kill_free])
end
open Go.RowKit
section
variable {P:Program} {C:Cfg} {ρ:Env} {w:World} {R:Type} {Z:Base} {tm:List TV} {aB:List (Nat×Box)} {aC:List (Nat×Row)} {tmps:Array Value}
theorem Q3k {k:Nat} {b:Box} (h:Ab aB k=some b):EX aB k=b.cells:=by grind [EX]
def J5 (ρ:Env) (keys ids:List Nat):Env:=⟨λc=>ρ.bx (nth 0 keys (c-base)),λc=>ρ.rv (nth 0 ids (c-base)),λc=>ρ.wd (nth 0 ids (c-base)),ρ.im⟩
def I_ (w:World) (ρ:Env) (keys ids:List Nat):Nat->Prop:=λb=>b<w.heap.size/\(∀k∈keys,ρ.bx k≠b)/\∀id∈ids,(ρ.rv id).ownBlock≠some b
def Zw8 (D:RelE Z tm aB aC ρ tmps w) {keys ids:List Nat} {O:List (Nat×Box)} {U:List (Nat×Row)}
  (G:Dk aB (λk=>base+pos keys k) (λi=>base+pos ids i) base keys=some O) (I:GN aC base ids=some U):Gt (I_ w ρ keys ids) w:=by
 obtain⟨b1,b2⟩:=K3 G;obtain⟨V,X⟩:=Xw I;refine Z.gt.mono λg cs _ L=>⟨⟨D.fs g L,λk M e=> ?_,λid N e=> ?_⟩,D.fr.block g L⟩
 ·obtain⟨x,q,_⟩:=b1 (pos keys k) (Dl M).1;rw[(Dl M).2]at q;obtain⟨_,_,_,Y⟩:=D.bx k x q
  grind
 obtain⟨x,q,_⟩:=V (pos ids id) (Dl N).1;rw[(Dl N).2]at q;exact(D.ro id x q).2.2.1 g e L
def XO (O:RelE Z tm aB aC ρ tmps w) {args:List TV} {xs:List Value} (h1:xs.length=args.length)
  (h2:∀(i:Nat) (a:TV) (x:Value),args[i]? =some a->xs[i]? =some x->TVR ρ w a x) (a7:∀v∈args,TV.wf aB aC v) {keys ids:List Nat} (b3:keys.Nodup) (b0:ids.Nodup)
  (a0:∀v∈args,TV.inK keys ids v=true) (X:∀k∈keys,Al (AC.inK keys ids) (EX aB k)=true) {mb:List (Nat×Box)} {mr:List (Nat×Row)}
  (a1:Dk aB (λk=>base+pos keys k) (λi=>base+pos ids i) base keys=some mb) (a2:GN aC base ids=some mr):
  RelE (Em (I_ w ρ keys ids) w (J5 ρ keys ids) mb (Zw8 O a1 a2)) (args.map (TV.ren (λk=>base+pos keys k) (λi=>base+pos ids i))) mb mr (J5 ρ keys ids) xs.toArray w:=by
 obtain⟨b1,b2⟩:=K3 a1;obtain⟨r1,r2⟩:=Xw a2;have eb:∀k,k∈keys->(J5 ρ keys ids).bx (base+pos keys k)=ρ.bx k:=λk L=>by
  show ρ.bx (nth 0 keys (base+pos keys k-base))=_;simp_all [Dl]
 have er:∀i,i∈ids->(J5 ρ keys ids).rv (base+pos ids i)=ρ.rv i/\(J5 ρ keys ids).wd (base+pos ids i)=ρ.wd i:=λi D=>by
  constructor
  ·show ρ.rv (nth 0 ids (base+pos ids i-base))=_;simp_all [Dl]
  show ρ.wd (nth 0 ids (base+pos ids i-base))=_;simp_all [Dl]
 have wb:∀k,k∈keys->(∃b,Ab aB k=some b)->∃b,Ab mb (base+pos keys k)=some b:=λk L _=>by
  obtain⟨x,_,q⟩:=b1 (pos keys k) (Dl L).1
  grind
 have wr:∀i r,i∈ids->Ab aC i=some r->∃r',Ab mr (base+pos ids i)=some r'/\r'.n=r.n/\r'.w=r.w:=λi r D Y=>by
  obtain⟨x,G,q⟩:=r1 (pos ids i) (Dl D).1;simp_all [Dl]
 have lb:∀c x,Ab mb c=some x->∃i M,i<keys.length/\c=base+i/\Ab aB (nth 0 keys i)=some M/\x=⟨M.ty,M.cells.map (AC.ren (λk=>base+pos keys k) (λi=>base+pos ids i))⟩:=by
  intro c x U;obtain⟨i,D,rfl⟩:=b2 c x U;obtain⟨M,G,N⟩:=b1 i D;rw[U]at N;simp at N;exact⟨i,M,D,rfl,G,N⟩
 have lr:∀c x,Ab mr c=some x->∃i,i<ids.length/\c=base+i/\Ab aC (nth 0 ids i)=some x:=by
  intro c x U;obtain⟨i,D,rfl⟩:=r2 c x U;obtain⟨M,G,N⟩:=r1 i D;rw[U]at N;simp at N;subst N;exact⟨i,D,rfl,G⟩
 have xb:∀i,(J5 ρ keys ids).bx (base+i)=ρ.bx (nth 0 keys i):=λi=>by
  show ρ.bx (nth 0 keys (base+i-base))=_;simp
 have xr:∀i,(J5 ρ keys ids).rv (base+i)=ρ.rv (nth 0 ids i):=λi=>by
  show ρ.rv (nth 0 ids (base+i-base))=_;simp
 have xw:∀i,(J5 ρ keys ids).wd (base+i)=ρ.wd (nth 0 ids i):=λi=>by
  show ρ.wd (nth 0 ids (base+i-base))=_;simp
 have a3:∀i j,i<keys.length->j<keys.length->nth 0 keys i=nth 0 keys j->i=j:=λi j D hj e=>by grind [PS]
 have a4:∀i j,i<ids.length->j<ids.length->nth 0 ids i=nth 0 ids j->i=j:=λi j D hj e=>by grind [PS]
 refine⟨by grind,λi v D=> ?_,λv hv=> ?_,λk b L a V=> ?_,λk b L=> ?_,λk k' b b' L a8 he=> ?_,λid r Y=> ?_,λid id' r r' g Y a9 hg a5=> ?_,λk b id r L Y=> ?_,λb hb=>⟨(O.ib b hb).1,λk bo L=> ?_,λid r Y=> ?_⟩,Fr.refl _ _,λk h=>h.1,λb h=>h,λb h=> .inl h,λk b L=> ?_⟩
 ·simp only[fq,dc]at D;obtain⟨a,V,rfl⟩:=D;have a6:i<xs.length:=by rw[h1];exact(fv.1 V).1
  have e:xs.toArray.getD i undef=xs[i]:=by simp[Array.getD,a6]
  rw[e];exact Zis (Kp:=(· ∈keys)) (Ip:=(· ∈ids)) eb er rfl (TV.nm_of_inK (a0 a (df V))) (h2 i a _ V (an a6))
 ·simp only[bj]at hv;obtain⟨a,V,rfl⟩:=hv;exact Qzj (Kp:=(· ∈keys)) (Ip:=(· ∈ids)) wb wr (TV.nm_of_inK (a0 a V)) (a7 a V)
 ·obtain⟨i,M,D,rfl,G,rfl⟩:=lb k b L;simp only[bj]at V;obtain⟨c,U,rfl⟩:=V;have I:=X _ (GK D);rw[Q3k G]at I;exact UB (Kp:=(· ∈keys)) (Ip:=(· ∈ids)) wb wr (AC.nm_of_inK (Au.1 I c U)) (O.wb _ M G c U)
 ·obtain⟨i,M,D,rfl,G,rfl⟩:=lb k b L;obtain⟨arr,p1,p2,p3⟩:=O.bx _ M G;have I:=X _ (GK D);rw[Q3k G]at I;refine⟨arr,by grind,RQ (Kp:=(· ∈keys)) (Ip:=(· ∈ids)) eb er rfl (λc U=>AC.nm_of_inK (Au.1 I c U)) p2,?_⟩;rw[xb];exact λhf=>hf.2.1 _ (GK D) rfl
 ·obtain⟨i,M,D,rfl,G,_⟩:=lb k b L;obtain⟨j,y0,hj,rfl,N,_⟩:=lb k' b' a8;rw[xb,xb]at he;rw[a3 i j D hj (O.bi _ _ _ _ G N he)]
 ·obtain⟨i,D,rfl,G⟩:=lr id r Y;obtain⟨p1,p2,p0,ys,p3,p4⟩:=O.ro _ r G;exact⟨p1,by grind,λg hg hf=>hf.2.2 _ (GK D) (by grind),ys,by grind,p4⟩
 ·obtain⟨i,D,rfl,G⟩:=lr id r Y;obtain⟨j,hj,rfl,N⟩:=lr id' r' a9;rw[xr]at hg a5;rw[a4 i j D hj (O.ri _ _ _ _ g G N hg a5)]
 ·obtain⟨i,M,D,rfl,G,_⟩:=lb k b L;obtain⟨j,hj,rfl,N⟩:=lr id r Y;rw[xr,xb];exact O.br _ _ _ _ G N
 ·obtain⟨i,M,D,rfl,G,_⟩:=lb k bo L;rw[xb];exact(O.ib b hb).2.1 _ _ G
 ·obtain⟨i,D,rfl,G⟩:=lr id r Y;rw[xr];exact(O.ib b hb).2.2 _ _ G
 grind [Em,Option.map_eq_some_iff]
noncomputable def DK (ρ G:Env) (I:List (Nat×Box)) (D:List (Nat×Row)) (bk bi:Nat->Nat):Env:=
 ⟨λn=>match KJ I bk n with|some k=>G.bx k|none=>ρ.bx n,λn=>match KJ D bi n with|some k=>G.rv k|none=>ρ.rv n,λn=>match KJ D bi n with|some k=>G.wd k|none=>ρ.wd n,G.im⟩
def Ut (X:RelE Z tm aB aC ρ tmps w) {keys ids:List Nat} (e6:keys.Nodup) (d3:ids.Nodup) {mb D:List (Nat×Box)} {mr I:List (Nat×Row)}
  (e7:Dk aB (λk=>base+pos keys k) (λi=>base+pos ids i) base keys=some mb) (e8:GN aC base ids=some mr) {v:TV} {x:Value} {ρ2:Env} {w':World}
  {hG:Gt (I_ w ρ keys ids) w} (N:RelE (Em (I_ w ρ keys ids) w (J5 ρ keys ids) mb hG) [v] D I ρ2 #[x] w') {d:Nat}
  (a5:(D.map (·.1)).Nodup) (c4:(I.map (·.1)).Nodup) (e9:∀k∈BF keys D,Ab aB (BV keys (BF keys D) d k)=none) (f0:∀k∈BF ids I,Ab aC (BV ids (BF ids I) d k)=none):
  let bk:=BV keys (BF keys D) d
  let bi:=BV ids (BF ids I) d
  RelE Z (tm.map (H_ ids)) (Kk bk bi D ((DA keys aB).map λp=>(p.1,Du ids p.2))) (ID bi I (DA ids aC)) (DK ρ ρ2 D I bk bi) tmps w'/\
   TVR (DK ρ ρ2 D I bk bi) w' (v.ren bk bi) x/\TV.wf (Kk bk bi D ((DA keys aB).map λp=>(p.1,Du ids p.2))) (ID bi I (DA ids aC)) (v.ren bk bi):=by
 intro bk bi;obtain⟨b1,b2⟩:=K3 e7;obtain⟨r1,r2⟩:=Xw e8;have b4:∀k∈keys,∃b,Ab aB k=some b:=λk U=>by
  obtain⟨x,q,_⟩:=b1 (pos keys k) (Dl U).1
  grind [Dl]
 have b5:∀k∈ids,∃b,Ab aC k=some b:=λk U=>by
  obtain⟨x,q,_⟩:=r1 (pos ids k) (Dl U).1
  grind [Dl]
 have c0:∀k∈D.map (·.1),∀j∈D.map (·.1),bk k=bk j->k=j:=Q98 e6 b4 e9;have c1:∀k∈I.map (·.1),∀j∈I.map (·.1),bi k=bi j->k=j:=Q98 d3 b5 f0
 have f1:∀i,i<keys.length->(∃b,Ab D (base+i)=some b)/\ρ2.bx (base+i)=ρ.bx (nth 0 keys i):=by
  intro i hi;obtain⟨x0,_,q⟩:=b1 i hi;obtain ⟨p1, bo, p2⟩ := N.k0 (base + i) (ρ.bx (nth 0 keys i)) (by
   simp only[Em,q,Option.map_some];show some (ρ.bx (nth 0 keys (base+i-base)))=_;simp)
  exact⟨⟨bo,p2⟩,p1⟩
 have g3:∀i,i<keys.length->bk (base+i)=nth 0 keys i:=λi hi=>by grind [Og]
 have g4:∀i,i<ids.length->bi (base+i)=nth 0 ids i:=λi hi=>by grind [Og]
 have d4:∀k∈D.map (·.1),(∃i,i<keys.length/\k=base+i/\bk k=nth 0 keys i)\/(Ab aB (bk k)=none):=by
  intro k U;by_cases hc:base<=k/\k-base<keys.length
  ·grind
  grind [K9]
 have d5:∀k∈I.map (·.1),(∃i,i<ids.length/\k=base+i/\bi k=nth 0 ids i)\/(Ab aC (bi k)=none):=by
  intro k U;by_cases hc:base<=k/\k-base<ids.length
  ·grind
  grind [K9]
 have f2:∀n b,Ab aB n=some b->n∉keys->∀k∈D.map (·.1),n≠bk k:=by
  rintro n b hn L k U rfl;rcases d4 k U with⟨i,hi,_,e⟩|e
  ·grind [GK]
  grind
 have d6:∀n b,Ab aC n=some b->n∉ids->∀k∈I.map (·.1),n≠bi k:=by
  rintro n b hn L k U rfl;rcases d5 k U with⟨i,hi,_,e⟩|e
  ·grind [GK]
  grind
 have a0:∀k,(∃b,Ab D k=some b)->(DK ρ ρ2 D I bk bi).bx (bk k)=ρ2.bx k:=λk U=>by
  simp only[DK,Qb2 c0 (Lx.2 U)]
 have a3:∀k,(∃b,Ab I k=some b)->(DK ρ ρ2 D I bk bi).rv (bi k)=ρ2.rv k/\(DK ρ ρ2 D I bk bi).wd (bi k)=ρ2.wd k:=λk U=>by
  constructor<;>simp only[DK,Qb2 c1 (Lx.2 U)]
 have a1:∀n,(∃b,Ab aB n=some b)->(DK ρ ρ2 D I bk bi).bx n=ρ.bx n:=by
  rintro n ⟨b,hn⟩;by_cases L:n∈keys
  ·obtain⟨p1,p2⟩:=Dl L
   grind
  grind [DK,Qbh]
 have a4:∀n,(∃b,Ab aC n=some b)->n∉ids->(DK ρ ρ2 D I bk bi).rv n=ρ.rv n/\(DK ρ ρ2 D I bk bi).wd n=ρ.wd n:=by
  rintro n ⟨b,hn⟩ L;constructor<;>simp only[DK,Qbh (d6 n b hn L)]
 have f3:=N.fr.size;have c5:∀n b,Ab aB n=some b->n∉keys->I_ w ρ keys ids (ρ.bx n):=λn b hn L=>
  ⟨X.bxlt hn,λk U e=>by obtain⟨b',a5⟩:=b4 k U;exact L (by rw[<-X.bi k n b' b a5 hn e];exact U),λid hid=>by obtain⟨r,hr⟩:=b5 id hid;exact X.br n b id r hn hr⟩
 have b8:∀n r g,Ab aC n=some r->n∉ids->(ρ.rv n).ownBlock=some g->I_ w ρ keys ids g:=λn r g hn L hg=>
  ⟨(X.rwlt hn hg).2,λk U e=>by obtain⟨b',a5⟩:=b4 k U;exact X.br k b' n r a5 hn (by grind),λid hid e=>by obtain⟨r',c4⟩:=b5 id hid;exact L (by rw[<-X.ri id n r' r g c4 hn e hg];omega)⟩
 have d7:∀b,ρ.im b->I_ w ρ keys ids b:=λb hb=>
  ⟨(X.ib b hb).1,λk U=>by obtain⟨b',a5⟩:=b4 k U;exact(X.ib b hb).2.1 k b' a5,λid hid=>by obtain⟨r,hr⟩:=b5 id hid;exact(X.ib b hb).2.2 id r hr⟩
 have fz:∀b,Z.F b->I_ w ρ keys ids b:=λb hb=>
  ⟨X.fs b hb,λk U e=>by obtain⟨b',a5⟩:=b4 k U;obtain⟨_,_,_,q⟩:=X.bx k b' a5;grind,λid hid e=>by obtain⟨r,hr⟩:=b5 id hid;exact(X.rwlt hr e).1 hb⟩
 have hold:∀b,I_ w ρ keys ids b->w'.heap[b]? =w.heap[b]? :=λb hb=>N.fr.block b hb;have c6:∀b,ρ.im b->ρ2.im b:=λb hb=>N.i0 b hb;have b6:∀b,ρ2.im b->ρ.im b\/ ¬I_ w ρ keys ids b:=λb hb=>N.i1 b hb
 have f4:∀k∈D.map (·.1),Ab ((DA keys aB).map λp=>(p.1,Du ids p.2)) (bk k)=none:=by
  intro k U;rw[FM (Du ids),LJ];rcases d4 k U with⟨i,hi,_,e⟩|e
  ·grind
  grind
 have f5:∀k∈I.map (·.1),Ab (DA ids aC) (bi k)=none:=by
  intro k U;rw[LJ];rcases d5 k U with⟨i,hi,_,e⟩|e
  ·grind
  grind
 obtain⟨c7,c8⟩:=Vc (rk:=bk) (g:=λb:Box=>(⟨b.ty,b.cells.map (AC.ren bk bi)⟩:Box)) a5 c0 f4;obtain⟨c9,e3⟩:=Vc (rk:=bi) (g:=λb:Row=>b) c4 c1 f5;rw[Y2,Qmj];generalize hB:Jf bk (λb:Box=>(⟨b.ty,b.cells.map (AC.ren bk bi)⟩:Box)) D ((DA keys aB).map λp=>(p.1,Du ids p.2))=B' at c7 c8⊢;generalize g5:Jf bi (λb:Row=>b) I (DA ids aC)=R' at c9 e3⊢;have Y:∀n b,Ab B' n=some b->(∃k O,Ab D k=some O/\n=bk k/\b=⟨O.ty,O.cells.map (AC.ren bk bi)⟩)\/(n∉keys/\∃O,Ab aB n=some O/\b=Du ids O):=by
  intro n b hn;by_cases hc:∃k∈D.map (·.1),n=bk k
  ·obtain⟨k,U,rfl⟩:=hc;obtain⟨O,g0⟩:=Lx.1 U
   grind
  rw[c8 n (λk U e=>hc ⟨k,U,e⟩),FM (Du ids),LJ]at hn
  grind [Option.map_eq_some_iff]
 have a2:∀n r,Ab R' n=some r->(∃k,Ab I k=some r/\n=bi k)\/(n∉ids/\Ab aC n=some r):=by
  intro n r hn;by_cases hc:∃k∈I.map (·.1),n=bi k
  ·obtain⟨k,U,rfl⟩:=hc;obtain⟨O,g0⟩:=Lx.1 U
   grind
  grind [LJ]
 have b3:∀n b,Ab aB n=some b->∃b',Ab B' n=some b':=by
  intro n b hn;by_cases L:n∈keys
  ·obtain⟨p1,p2⟩:=Dl L
   grind
  rw[c8 n (f2 n b hn L),FM (Du ids),LJ,ab L,hn];simp
 have c2:∀n r,Ab aC n=some r->n∉ids->Ab R' n=some r:=by
  intro n r hn L;rw[e3 n (d6 n r hn L),LJ,ab L,hn]
 let Q:AC->Prop:=λa=>AC.wf aB aC a/\∀id∈ids,AC.free id a
 have b9:∀a,Q a->a.agree ρ (DK ρ ρ2 D I bk bi):=by
  rintro a ⟨V,hf⟩;have hp:∀l:List AC,(∀a∈l,AC.wfP aB a)->∀a∈l,a.agreeP ρ (DK ρ ρ2 D I bk bi):=by
   intro l hl c hc;have:=hl c hc;cases c<;>first|exact a1 _ this|trivial
  cases a with
  |ptr k o=>exact a1 k V
  |bsl k o=>exact a1 k V
  |own id _ _=>obtain⟨r,G,_⟩:=V;exact a4 id ⟨r,G⟩ (λhm=>hf id hm rfl)
  |rptr id _ _=>obtain⟨r,G,_⟩:=V;exact a4 id ⟨r,G⟩ (λhm=>hf id hm rfl)
  |clo f fs cs=>exact⟨hp fs V.1,hp cs V.2⟩
  |_=>trivial
 have e4:∀(a:AC) (y:Value),Q a->CC ρ w a y->CC (DK ρ ρ2 D I bk bi) w' a y:=λa y hq hy=>CC.mono (ρ':=DK ρ ρ2 D I bk bi) c6 (λb hb=>hold b (d7 b hb)) a y (b9 a hq) hy;have c3:∀a,Q a->AC.wf B' R' a:=by
  rintro a ⟨V,hf⟩;cases a with
  |ptr k o=>obtain⟨b,hb⟩:=V;exact b3 k b hb
  |bsl k o=>obtain⟨b,hb⟩:=V;exact b3 k b hb
  |own id _ _=>obtain⟨r,G,h2⟩:=V;exact⟨r,c2 id r G (λhm=>hf id hm rfl),h2⟩
  |rptr id _ _=>obtain⟨r,G,h2⟩:=V;exact⟨r,c2 id r G (λhm=>hf id hm rfl),h2⟩
  |vptr=>exact V
  |clo f fs cs=>exact⟨λc hc=>AC.wfP_mono b3 (V.1 c hc),λc hc=>AC.wfP_mono b3 (V.2 c hc)⟩
  |_=>trivial
 have d0:∀a,AC.wf D I a->AC.wf B' R' (a.ren bk bi):=λa V=>
  UB (Kp:=λk=>∃b,Ab D k=some b) (Ip:=λi=>∃r,Ab I i=some r) (λk _ ⟨b,hb⟩=>⟨_,c7 k b hb⟩) (λi r _ hr=>⟨r,c9 i r hr,rfl,rfl⟩) (AC.nm_of_wf V) V
 have g1:∀v∈tm.map (H_ ids),TV.wf aB aC v/\∀id∈ids,TV.free id v:=by
  intro v hv;simp only[bj]at hv;obtain⟨u,hu,rfl⟩:=hv;exact⟨Zie ids (X.wt u hu),λid hid=>Zep ids u id hid⟩
 have e5:∀v∈tm.map (H_ ids),(match v with| .v _ cs=>∀a∈cs,Q a| .tup ps=>∀p∈ps,∀a∈p.2,Q a| .vD=>True):=by
  intro v hv;obtain⟨G,h2⟩:=g1 v hv;cases v with
  |vD=>trivial
  |v g cs=>exact λa V=>⟨G a V,λid hid=>h2 id hid a V⟩
  |tup ps=>exact λp hp a V=>⟨G p hp a V,λid hid=>h2 id hid p hp a V⟩
 have qB:∀n O,Ab aB n=some O->∀a∈(Du ids O).cells,Q a:=λn O hn a V=>⟨Zdl ids (X.wb n O hn) a V,λid hid=>Q21 ids O id hid a V⟩;have b7:TV.wf D I v:=N.wt v (by simp);refine⟨⟨by grind [X.tl],λi v hi=> ?_,λv hv=> ?_,λn b hn a V=> ?_,λn b hn=> ?_,λn n' b b' hn d1 he=> ?_,λn r hn=> ?_,λn n' r r' g hn d1 hg a6=> ?_,λn b m r hn hm=> ?_,λb hb=>⟨(N.ib b hb).1,λn bo hn=> ?_,λn r hn=> ?_⟩,?_,?_,λb hb=>c6 b (X.i0 b hb),λb hb=> ?_,λk b U=> ?_⟩,?_,?_⟩
 ·have hv:=df hi;simp only[fq,dc]at hi;obtain⟨u,hu,rfl⟩:=hi;exact TVR.mono2 e4 (e5 _ hv) (Zks ids (X.tv i u hu))
 ·have:=e5 v hv;cases v with
  |vD=>trivial
  |v g cs=>exact λa V=>c3 a (this a V)
  |tup ps=>exact λp hp a V=>c3 a (this p hp a V)
 ·rcases Y n b hn with⟨k,O,G,rfl,rfl⟩|⟨L,O,G,rfl⟩
  ·simp only[bj]at V;obtain⟨c,hc,rfl⟩:=V;exact d0 c (N.wb k O G c hc)
  grind
 ·rcases Y n b hn with⟨k,O,G,rfl,rfl⟩|⟨L,O,G,rfl⟩
  ·obtain⟨arr,q1,q2,q3⟩:=N.bx k O G;refine⟨arr,by rw[a0 k ⟨O,G⟩];exact q1,RQ (Kp:=λk=>∃b,Ab D k=some b) (Ip:=λi=>∃r,Ab I i=some r) a0 a3 rfl (λc hc=>AC.nm_of_wf (N.wb k O G c hc)) q2,?_⟩;rw[a0 k ⟨O,G⟩];exact λhf=>q3 (fz _ hf)
  obtain⟨arr,q1,q2,q3⟩:=X.bx n O G;rw[a1 n ⟨O,G⟩];refine⟨arr,by grind [Q76],?_,q3⟩;exact(Ze0 ids q2).mono λa V y hy=>e4 a y (qB n O G a V) hy
 ·rcases Y n b hn with⟨k,O,G,rfl,_⟩|⟨L,O,G,_⟩<;>rcases Y n' b' d1 with⟨k',a9,M,rfl,_⟩|⟨a7,a9,M,_⟩
  ·rw[a0 k ⟨O,G⟩,a0 k' ⟨a9,M⟩]at he;rw[N.bi k k' _ _ G M he]
  ·rw[a0 k ⟨O,G⟩,a1 n' ⟨a9,M⟩]at he;obtain⟨_,_,_,q3⟩:=N.bx k O G;exact absurd (he▸c5 n' a9 M a7) q3
  ·rw[a1 n ⟨O,G⟩,a0 k' ⟨a9,M⟩]at he;obtain⟨_,_,_,q3⟩:=N.bx k' a9 M;exact absurd (he▸c5 n O G L) q3
  rw[a1 n ⟨O,G⟩,a1 n' ⟨a9,M⟩]at he;exact X.bi n n' _ _ G M he
 ·rcases a2 n r hn with⟨k,G,rfl⟩|⟨L,G⟩
  ·obtain⟨q1,q2,q0,ys,q3,q4⟩:=N.ro k r G;obtain⟨e1,e2⟩:=a3 k ⟨r,G⟩;rw[e1,e2];exact⟨q1,q2,λg hg hf=>q0 g hg (fz g hf),ys,q3,q4⟩
  obtain⟨q1,q2,q0,ys,q3,q4⟩:=X.ro n r G;obtain⟨e1,e2⟩:=a4 n ⟨r,G⟩ L;rw[e1,e2];exact⟨q1,q2,q0,ys,OA q3 λg hg=>hold g (b8 n r g G L hg),q4.mono c6 (λb hb=>hold b (d7 b hb))⟩
 ·rcases a2 n r hn with⟨k,G,rfl⟩|⟨L,G⟩<;>rcases a2 n' r' d1 with⟨k',M,rfl⟩|⟨a7,M⟩
  ·rw[(a3 k ⟨r,G⟩).1]at hg;rw[(a3 k' ⟨r',M⟩).1]at a6;rw[N.ri k k' _ _ g G M hg a6]
  ·rw[(a3 k ⟨r,G⟩).1]at hg;rw[(a4 n' ⟨r',M⟩ a7).1]at a6;obtain⟨_,_,q0,_⟩:=N.ro k r G;exact absurd (b8 n' r' g M a7 a6) (q0 g hg)
  ·rw[(a4 n ⟨r,G⟩ L).1]at hg;rw[(a3 k' ⟨r',M⟩).1]at a6;obtain⟨_,_,q0,_⟩:=N.ro k' r' M;exact absurd (b8 n r g G L hg) (q0 g a6)
  rw[(a4 n ⟨r,G⟩ L).1]at hg;rw[(a4 n' ⟨r',M⟩ a7).1]at a6;exact X.ri n n' _ _ g G M hg a6
 ·rcases Y n b hn with⟨k,O,G,rfl,_⟩|⟨L,O,G,_⟩<;>rcases a2 m r hm with⟨k',M,rfl⟩|⟨d2,M⟩
  ·rw[a0 k ⟨O,G⟩,(a3 k' ⟨r,M⟩).1];exact N.br k O k' r G M
  ·rw[a0 k ⟨O,G⟩,(a4 m ⟨r,M⟩ d2).1];intro e;obtain⟨_,_,_,q3⟩:=N.bx k O G;exact q3 (b8 m r _ M d2 e)
  ·rw[a1 n ⟨O,G⟩,(a3 k' ⟨r,M⟩).1];intro e;obtain⟨_,_,q0,_⟩:=N.ro k' r M;exact q0 _ e (c5 n O G L)
  rw[a1 n ⟨O,G⟩,(a4 m ⟨r,M⟩ d2).1];exact X.br n O m r G M
 ·rcases Y n bo hn with⟨k,O,G,rfl,_⟩|⟨L,O,G,_⟩
  ·rw[a0 k ⟨O,G⟩];exact(N.ib b hb).2.1 k O G
  rw[a1 n ⟨O,G⟩];rcases b6 b hb with a8|a8
  ·exact(X.ib b a8).2.1 n O G
  grind
 ·rcases a2 n r hn with⟨k,G,rfl⟩|⟨L,G⟩
  ·rw[(a3 k ⟨r,G⟩).1];exact(N.ib b hb).2.2 k r G
  rw[(a4 n ⟨r,G⟩ L).1];rcases b6 b hb with a8|a8
  ·exact(X.ib b a8).2.2 n r G
  grind
 ·exact X.fr.trans ⟨N.fr.os,N.fr.tape,N.fr.output,N.fr.size,λk U=>hold k (fz k U)⟩
 ·exact λk U=>du (X.fs k U) f3
 ·rcases b6 b hb with a8|a8
  ·exact X.i1 b a8
  grind
 ·obtain⟨q1,bo,q2⟩:=X.k0 k b U
  grind
 ·have g2:TVR ρ2 w' v x:=by simpa using N.tv 0 v rfl
  exact Zis (Kp:=λk=>∃b,Ab D k=some b) (Ip:=λi=>∃r,Ab I i=some r) a0 a3 rfl (TV.nm_of_wf b7) g2
 exact Qzj (Kp:=λk=>∃b,Ab D k=some b) (Ip:=λi=>∃r,Ab I i=some r) (λk _ ⟨b,hb⟩=>⟨_,c7 k b hb⟩) (λi r _ hr=>⟨r,c9 i r hr,rfl,rfl⟩) (TV.nm_of_wf b7) b7
def Qfq {α:Type} {l:List (Nat×α)} {k:Nat} (h:LL l k=true):Ab l k=none:=by grind [LL]
def Zmg {α:Type} {c:Bool} {p:Option α} {q:α} (h:cond c p none=some q):c=true/\p=some q:=by grind
theorem Zld {α:Type}:∀{l:List (Nat×α)} {k:Nat} {x y:α},Ab l k=some y->∀n,Ab (upd l k x) n=if n=k then some x else Ab l n
 |[],_,_,_,h,_=>by grind [Ab]
 |(j,c)::l,k,x,y,h,n=>by
  simp only[Ab,upd]at h⊢;cases D:Nat.beq j k
  ·rw[D]at h;simp only[bn,Ab]at h⊢;rw[Zld h n]
   grind
  have:=ah D;simp only[am,Ab];cases hn:Nat.beq j n
  ·grind
  simp_all
def Qt8 {id n':Nat} (a:AC):(∃w n,a= .own id w n/\a.relen id n'= .own id w n')\/a.relen id n'=a.kill id:=by
 cases a with
 |own j w n=>
  cases hb:Nat.beq j id
  ·simp_all [AC.relen,AC.kill]
  simp_all [AC.relen]
 |rptr j p q=>right;rfl
 |_=>right;rfl
theorem W5 {R R1 G:AC->Value->Prop} {id I:Nat} (h:∀a x,R1 a x->G (a.kill id) x->R (a.relen id I) x):∀{cs:List AC} {xs:List Value},CL R1 cs xs->CL G (cs.map (AC.kill id)) xs->CL R (cs.map (AC.relen id I)) xs
 |[],[],_,_=>trivial
 |a::cs,x::xs,D,L=>⟨h a x D.1 L.1,W5 h D.2 L.2⟩
 |[],_::_,D,_=>D.elim
 |_::_,[],D,_=>D.elim
theorem Qms {keys ids:List Nat} {v:TV} (h:v.plainB=true):TV.inK keys ids v=true:=by
 cases v with
 |vD=>rfl
 |v g cs=>
  simp only[TV.plainB,TV.inK]at h⊢;rw[Au]at h⊢;intro a D;have:=h a D;cases a<;>simp[AC.plain]at this<;>rfl
 |tup ps=>
  simp only[TV.plainB,TV.inK]at h⊢;rw[Au]at h⊢;intro p G;have:=h p G;rw[Au]at this⊢;intro a D;have:=this a D;cases a<;>simp[AC.plain]at this<;>rfl
theorem Zwh {D ri:Nat->Nat} {a:AC} (h:a.calm=true):a.ren D ri=a:=by cases a<;>simp[AC.calm]at h<;>rfl
theorem SY {D ri:Nat->Nat}:∀{l:List AC},Al AC.calm l=true->l.map (AC.ren D ri)=l
 |[],_=>rfl
 |a::l,h=>by
  rw[Au]at h;simp only[bz];rw[Zwh (h a (by simp)),SY (Au.2 λx G=>h x (by grind))]
theorem Qnl {a:AC} (h:a.plain=true):a.calm=true:=by cases a<;>simp[AC.plain]at h<;>rfl
theorem XI {D ri:Nat->Nat} {v:TV} (h:v.plainB=true):v.ren D ri=v:=by
 cases v with
 |vD=>rfl
 |v g cs=>grind [TV.plainB,Au,TV.ren,SY,Qnl]
 |tup ps=>
  simp only[TV.plainB]at h;simp only[TV.ren];congr 1
  conv=>rhs;rw[<-List.map_id ps]
  grind [List.map_congr_left,SY,Au,Qnl]
theorem Yc8 (V:AK P C) (hR:RelE Z tm aB aC ρ tmps w) {o:Oper} {a:Act} {f:FuncId} {args:List TV} {xs:List Value} (h1:xs.length=args.length)
  (h2:∀(i:Nat) (a:TV) (x:Value),args[i]? =some a->xs[i]? =some x->TVR ρ w a x) (h3:execOp a.eval o=callFunc f xs.toArray) (c7:∀v∈args,TV.wf aB aC v) {K:TV->St->Option R} {r:R} {g:Spec} (hg:C.spec f=some g) (c8:C.keepR f=true)
  (h:TA g args tm aB aC K=some r) {next:Act->World->Prop} {Q:Exit->Act->World->Prop}
  (a8:∀(v:TV) (b3:List TV) (D:List (Nat×Box)) (N:List (Nat×Row)) (ρ':Env) (x:Value) (w':World),K v ⟨b3,D,N⟩=some r->RelE Z b3 D N ρ' tmps w'->TVR ρ' w' v x->TV.wf D N v->next (a.put o.dst x) w'):
  o.wp P a w next Q:=by
 unfold TA at h;split at h
 ·rename_i id hid;split at h
  ·rename_i r0 X;have b4:∀v∈args,TV.inK [] [id] v=true:=by
    unfold Qcg at hid;split at hid
    ·rename_i id' w0 n0 rest;cases hp:Al TV.plainB rest<;>rw[hp]at hid
     ·grind
     simp only[am,bm]at hid;subst hid;intro v hv;rcases be.1 hv with rfl|hv
     ·simp[TV.inK,Al,AC.inK,AV]
     grind [Qms,Au]
    grind
   obtain⟨v,⟨e6,e7⟩,hv,c9⟩:=(V.1 f g hg).run2 h;have b5:GN aC base [id]=some [(base,r0)]:=by simp[GN,X]
   have b6:=XO hR h1 h2 c7 gk (by simp) (keys:=[]) (ids:=[id]) b4 (λk G=>by grind) (show Dk aB _ _ base []=some []from rfl) b5;refine NI h3 ((V.2.2 f g hg c8 _ _ _ _ c9 _ xs b6).mono ?_);rintro e w' ⟨x,ρ2,he,b7,d0⟩;refine⟨x,he,?_⟩;split at hv
   ·rename_i k r' heq;simp only[Mem.mk.injEq]at heq;obtain⟨rfl,rfl⟩:=heq;obtain⟨hc,b8⟩:=Zmg hv;simp only[ak]at hc;obtain⟨⟨⟨c1,c2⟩,c3⟩,c4⟩:=hc;have ek:=ah c1;subst ek;have et:=ah c2;have d1:=Jq c3;simp only[A8]at b8;obtain⟨e1,e2,-⟩:=Ut hR gk (by simp) (show Dk aB _ _ base []=some []from rfl) b5 b7 (d:=o.dst.getD 0) (by simp) (by simp) (λk G=>by grind [BF]) (λk G=>by rw[show BF [id] [(base,r')]=[]from rfl]at G;grind)
    have e8:BF [id] [(base,r')]=[]:=rfl;have a9:BV [id] (BF [id] [(base,r')]) (o.dst.getD 0) base=id:=rfl;generalize e9:BV ([]:List Nat) (BF ([]:List Nat) ([]:List (Nat×Box))) (o.dst.getD 0)=bk at e1 e2;generalize e3:BV [id] (BF [id] [(base,r')]) (o.dst.getD 0)=bi at e1 e2 a9;have b1:∀n,Ab (Kk bk bi ([]:List (Nat×Box)) ((DA [] aB).map λp=>(p.1,Du [id] p.2))) n=(Ab aB n).map (Box.kill id):=λn=>FM (Du [id]) aB n;have d2:∀n,Ab (ID bi [(base,r')] (DA [id] aC)) n=if n=id then some r' else Ab aC n:=by
     intro n;show Ab (ins (del id aC) (bi base) r') n=_;rw[a9];by_cases hn:n=id
     ·simp_all [EU,Sw]
     simp_all [Ed,K7]
    have b2:∀n,Ab (aB.map λp=>(p.1,p.2.relen id r'.l.length)) n=(Ab aB n).map (Box.relen id r'.l.length):=λn=>FM (Box.relen id r'.l.length) aB n;have f0:∀n,Ab (upd aC id r') n=if n=id then some r' else Ab aC n:=Zld X;generalize Kk bk bi ([]:List (Nat×Box)) ((DA [] aB).map λp=>(p.1,Du [id] p.2))=B1 at e1 b1;generalize ID bi [(base,r')] (DA [id] aC)=R1 at e1 d2;have hinv:KJ [(base,r')] bi id=some base:=by rw[<-a9];exact Qb2 (λa ha b hb _=>by grind) (by simp)
    have a6:(DK ρ ρ2 [] [(base,r')] bk bi).rv id=ρ.rv id:=by
     simp only[DK,hinv];rw[d0];show ρ.rv (nth 0 [id] (base-base))=_;rw[Nat.sub_self];rfl
    have Y:∀k,(DK ρ ρ2 [] [(base,r')] bk bi).bx k=ρ.bx k:=λk=>by grind [DK,Qbh]
    generalize DK ρ ρ2 [] [(base,r')] bk bi=ρB at e1 e2 a6 Y;have b9:=e1.ro id r' (by grind);have e4:=hR.ro id r0 X;have d3:r'.w=r0.w:=by show r'.ks.length=r0.ks.length;rw[d1]
    have O:∀(a:AC) (y:Value),CC ρ w a y->CC ρB w' (a.kill id) y->CC ρB w' (a.relen id r'.l.length) y:=by
     intro a y L M;rcases Qt8 (id:=id) (n':=r'.l.length) a with⟨w1,n1,rfl,e⟩|e
     ·rw[e];obtain⟨s1,s2,_⟩:=L;refine⟨s1.trans a6.symm,by omega,?_⟩;obtain⟨_,_,_,ys,⟨_,o2⟩,_⟩:=b9
      grind
     grind
    have a3:∀a:AC,AC.wf aB aC a->AC.wf B1 R1 (a.kill id)->AC.wf (aB.map λp=>(p.1,p.2.relen id r'.l.length)) (upd aC id r') (a.relen id r'.l.length):=by
     intro a L M;rcases Qt8 (id:=id) (n':=r'.l.length) a with⟨w1,n1,rfl,e⟩|e
     ·rw[e];obtain⟨r2,s1,s2,s3⟩:=L;rw[X]at s1;simp only[bm]at s1;subst s1;exact⟨r',by grind,rfl,d3.trans s3⟩
     rw[e];refine AC.wf_mono (λk b G=> ?_) (λk r G=>⟨r,by grind,rfl,rfl⟩) M;rw[b1]at G;rw[b2];cases hl:Ab aB k with
     |none=>grind
     |some U=>simp
    have a4:∀k b,Ab (aB.map λp=>(p.1,p.2.relen id r'.l.length)) k=some b->∃U,Ab aB k=some U/\b=U.relen id r'.l.length/\Ab B1 k=some (U.kill id):=by
     intro k b G;rw[b2]at G;cases hl:Ab aB k with
     |none=>grind
     |some U=>grind
    have a5:∀n r,Ab (upd aC id r') n=some r->Ab R1 n=some r:=λn r hn=>by grind
    have d4:∀(ps:List (Bool×List AC)) (ys:List Value),TP ρ w ps ys->TP ρB w' (ps.map λp=>(p.1,p.2.map (AC.kill id))) ys->TP ρB w' (ps.map λp=>(p.1,p.2.map (AC.relen id r'.l.length))) ys:=by
     intro ps;induction ps with
     |nil=>simp
     |cons p ps ih=>
      intro ys L M;obtain⟨gg,cs⟩:=p;cases ys with
      |nil=>exact L.elim
      |cons y ys=>
       refine⟨?_,ih ys L.2 M.2⟩;have z1:=L.1;have z2:=M.1;cases gg
       ·grind
       grind [W5]
    refine a8 v _ _ _ ρB x w' b8 ⟨by grind [hR.tl],λi u hi=> ?_,λu hu=> ?_,λk b G a ha=> ?_,λk b G=> ?_,λk k' b b' G d5 he=> ?_,λn r hn=>e1.ro n r (a5 n r hn),λn n' r r2 g2 hn d6=>e1.ri n n' r r2 g2 (a5 n r hn) (a5 n' r2 d6),
     λk b n r G hn=> ?_,λb hb=> ?_,e1.fr,e1.fs,e1.i0,e1.i1,λk b G=> ?_⟩ (by grind [XI]) (JW c4)
    ·rw[fq]at hi;cases hl:tm[i]? with
     |none=>grind
     |some u0=>
      rw[hl]at hi;simp only[Option.map_some,bm]at hi;subst hi;have z1:=hR.tv i u0 hl;have z2:=e1.tv i (u0.kill id) (by rw[fq,hl];rfl);cases u0 with
      |vD=>trivial
      |v gg cs=>
       cases gg
       ·obtain⟨a1,t1,t2⟩:=z1;obtain⟨a2,t3,t4⟩:=z2;subst t1;simp only[bz,fx,gf,and_true]at t3;subst t3;exact⟨_,rfl,O a1 _ t2 t4⟩
       obtain⟨y1,t1,t2⟩:=z1;obtain⟨y2,t3,t4⟩:=z2;rw[t1]at t3;simp only[Value.agg.injEq]at t3;subst t3;exact⟨y1,t1,W5 O t2 t4⟩
      |tup ps=>
       obtain⟨y1,t1,t2⟩:=z1;obtain⟨y2,t3,t4⟩:=z2;rw[t1]at t3;simp only[Value.tuple.injEq]at t3;subst t3;exact⟨y1,t1,d4 ps _ t2 t4⟩
    ·rw[bj]at hu;obtain⟨u0,c0,rfl⟩:=hu;have z1:=hR.wt u0 c0;have z2:=e1.wt (u0.kill id) (bj.2 ⟨u0,c0,rfl⟩);cases u0 with
     |vD=>trivial
     |v gg cs=>
      intro a ha;obtain⟨a0,I,rfl⟩:=bj.1 ha;exact a3 a0 (z1 a0 I) (z2 _ (bj.2 ⟨a0,I,rfl⟩))
     |tup ps=>
      intro p hp a ha;obtain⟨p0,c5,rfl⟩:=bj.1 hp;obtain⟨a0,I,rfl⟩:=bj.1 ha;exact a3 a0 (z1 p0 c5 a0 I) (z2 _ (bj.2 ⟨p0,c5,rfl⟩) _ (bj.2 ⟨a0,I,rfl⟩))
    ·obtain⟨U,L,rfl,M⟩:=a4 k b G;obtain⟨a0,I,rfl⟩:=bj.1 ha;exact a3 a0 (hR.wb k U L a0 I) (e1.wb k _ M _ (bj.2 ⟨a0,I,rfl⟩))
    ·obtain⟨U,L,rfl,M⟩:=a4 k b G;obtain⟨c6,s1,s2,s3⟩:=hR.bx k U L;obtain⟨e5,s4,s5,s6⟩:=e1.bx k _ M;have a7:w'.heap[ρ.bx k]? =w.heap[ρ.bx k]? :=b7.fr.block (ρ.bx k) ⟨(dt.1 s1).1,λj hj=>by grind,λj hj=>by
      simp only[jz]at hj;subst hj;exact hR.br k U j r0 L X⟩
     rw[Y,a7,s1]at s4;simp only[bm,Obj.cells.injEq]at s4;obtain⟨rfl,_⟩:=s4;exact⟨c6,by rw[Y,a7];exact s1,W5 O s2 s5,by omega⟩
    ·obtain⟨U,L,rfl,M⟩:=a4 k b G;obtain⟨f1,f2,rfl,d7⟩:=a4 k' b' d5;exact e1.bi k k' _ _ M d7 he
    ·obtain⟨U,L,rfl,M⟩:=a4 k b G;exact e1.br k _ n r M (a5 n r hn)
    ·obtain⟨L,M,q3⟩:=e1.ib b hb
     grind
    obtain⟨L,bo,M⟩:=e1.k0 k b G;rw[b1]at M;rw[b2];cases hl:Ab aB k with
    |none=>grind
    |some U=>grind
   grind
  grind
 grind
def Zw7 (N:AK P C) (hR:RelE Z tm aB aC ρ tmps w) {o:Oper} {a:Act} {f:FuncId} {args:List TV} {xs:List Value} (h1:xs.length=args.length)
  (h2:∀(i:Nat) (a:TV) (x:Value),args[i]? =some a->xs[i]? =some x->TVR ρ w a x) (h3:execOp a.eval o=callFunc f xs.toArray) (a2:∀v∈args,TV.wf aB aC v) {K:TV->St->Option R} {r:R}
  (h:Bb C o.dst (.callM f args) ⟨tm,aB,aC⟩ K=some r) {next:Act->World->Prop} {Q:Exit->Act->World->Prop}
  (a3:∀(v:TV) (V:List TV) (D:List (Nat×Box)) (G:List (Nat×Row)) (ρ':Env) (x:Value) (w':World),K v ⟨V,D,G⟩=some r->RelE Z V D G ρ' tmps w'->TVR ρ' w' v x->TV.wf D G v->next (a.put o.dst x) w'):
  o.wp P a w next Q:=by
 simp only[Bb]at h;split at h
 ·rename_i g hg;have a4:=N.1 f g hg;cases a5:C.keepR f<;>rw[a5]at h
  case true=>
   grind [Yc8]
  simp only[A8]at h;generalize O:M0 aB 4 (Bi (cat AC.keys (cat TV.cellsOf args)) [])=keys at h;generalize hi:PH aB (cat TV.cellsOf args) keys=ids at h;clear O hi;cases hc:(Al (TV.inK keys ids) args&&Al (λk=>Al (AC.inK keys ids) (EX aB k)) keys&&Ck keys&&Ck ids)<;>rw[hc]at h
  ·grind
  simp only[am]at h;simp at hc;obtain⟨⟨⟨c1,c2⟩,c3⟩,c4⟩:=hc;split at h
  ·rename_i mb mr X Y;have a0:=Jl.1 c3;have M:=Jl.1 c4;obtain⟨v,⟨I,L⟩,hv,a6⟩:=a4.run h;have a1:=XO hR h1 h2 a2 a0 M (λv hv=>Au.1 c1 v hv) (λk O=>Au.1 c2 k O) X Y;refine NI h3 ((a6 _ xs a1).mono ?_);rintro e w' ⟨x,ρ2,he,a7⟩;dsimp only at hv;cases U:(Al (λp:Nat×Box=>Gi I p.1) mb&&Ck (I.map (·.1))&&Ck (L.map (·.1))&&Al (λk=>LL aB (BV keys (BF keys I) (o.dst.getD 0) k)) (BF keys I)&&Al (λk=>LL aC (BV ids (BF ids L) (o.dst.getD 0) k)) (BF ids L)&&Nat.ble (BF keys I).length 100&&Nat.ble (BF ids L).length 100)<;>rw[U]at hv
   ·grind
   simp only[am]at hv;simp at U;obtain⟨⟨⟨⟨⟨⟨_,d2⟩,d3⟩,d4⟩,d5⟩,_⟩,_⟩:=U;obtain⟨e1,e2,e3⟩:=Ut hR a0 M X Y a7 (Jl.1 d2) (Jl.1 d3) (λk O=>Qfq (Au.1 d4 k O)) (λk O=>Qfq (Au.1 d5 k O))
   grind
  grind
 grind
def RelE.cong {D:List (Nat×Box)} (h:RelE Z tm aB aC ρ tmps w) (M:∀k,Ab D k=Ab aB k):RelE Z tm D aC ρ tmps w:=by
 have L:∀a,AC.wf aB aC a->AC.wf D aC a:=λa=>AC.wf_mono (λk b G=>⟨b,by grind⟩) (λk r G=>⟨r,G,rfl,rfl⟩);exact⟨h.tl,h.tv,λv N=>TV.wf_mono L (h.wt v N),λk b G a I=>L a (h.wb k b (by grind) a I),
  λk b G=>h.bx k b (by grind),λk k' b b' G O=>h.bi k k' b b' (by grind) (by grind),h.ro,h.ri,
  λk b id r G=>h.br k b id r (by grind),λb hb=>⟨(h.ib b hb).1,λk bo G=>(h.ib b hb).2.1 k bo (by grind),(h.ib b hb).2.2⟩,
  h.fr,h.fs,h.i0,h.i1,λk b G=>⟨(h.k0 k b G).1,by rw[M];exact(h.k0 k b G).2⟩⟩
def Q4e {keys:List Nat} (D:keys.Nodup):∀{m l:List (Nat×Box)},(m.map (·.1)).Nodup->(∀k∈m.map (·.1),base<=k/\k-base<keys.length)->(∀k∈keys,∃b,Ab l k=some b)->
  (∀k b,Ab m k=some b->Ab (DH keys m l) (nth 0 keys (k-base))=some b)/\(∀n,(∀k∈m.map (·.1),n≠nth 0 keys (k-base))->Ab (DH keys m l) n=Ab l n)
 |[],l,_,_,_=>⟨λk b h=>by grind [Ab],λn _=>rfl⟩
 |(j,c)::m,l,hd,G,hn=>by
  simp at hd;have L:=G j (by simp);have M:∀k∈m.map (·.1),nth 0 keys (j-base)≠nth 0 keys (k-base):=λk I e=>by
   grind [PS]
  obtain⟨y,N⟩:=hn _ (GK L.2);obtain⟨O,U⟩:=Q4e D (l:=upd l (nth 0 keys (j-base)) c) hd.2 (λk I=>G k (by grind)) (λk I=>by grind [E4,Dv])
  grind [Ab,DH,Nat.eq_of_beq_eq_true,E4,Dv]
theorem VY {α:Type} {l:List (Nat×α)} {k:Nat} (h:Gi l k=true):∃b,Ab l k=some b:=by grind [Gi]
def Z8b {keys:List Nat} (N:keys.Nodup) {X D:List (Nat×Box)} (Y:Dk aB (λk=>base+pos keys k) (λi=>base+pos [] i) base keys=some X)
  (h1:∀p∈X,Gi D p.1=true) (h2:∀p∈D,Gi X p.1=true) (h3:(D.map (·.1)).Nodup) (h4:∀p∈D,Al AC.calm p.2.cells=true) (bi:Nat->Nat) (d:Nat) (k:Nat):
  Ab (DH keys D aB) k=Ab (Kk (BV keys [] d) bi D ((DA keys aB).map λp=>(p.1,Du [] p.2))) k:=by
 obtain⟨b1,b2⟩:=K3 Y;have I:∀k∈D.map (·.1),base<=k/\k-base<keys.length:=by
  intro k G;simp only[bj]at G;obtain⟨p,hp,rfl⟩:=G;obtain⟨b,hb⟩:=VY (h2 p hp);obtain⟨i,hi,e⟩:=b2 _ _ hb;omega
 have O:∀i,i<keys.length->∃b,Ab D (base+i)=some b:=by
  intro i hi;obtain⟨x,_,q⟩:=b1 i hi;exact VY (h1 _ (Qc q))
 have a0:∀k∈keys,∃b,Ab aB k=some b:=λk G=>by
  obtain⟨x,q,_⟩:=b1 (pos keys k) (Dl G).1
  grind [Dl]
 have L:∀k∈D.map (·.1),BV keys [] d k=nth 0 keys (k-base):=λk G=>Og (I k G);obtain⟨u1,u2⟩:=Q4e (l:=aB) N h3 I a0;have M:∀n,Ab ((DA keys aB).map λp=>(p.1,Du [] p.2)) n=if n∈keys then none else Ab aB n:=by
  intro n;rw[FM,LJ];split
  ·rfl
  cases Ab aB n<;>rfl
 have U:∀k∈D.map (·.1),∀j∈D.map (·.1),BV keys [] d k=BV keys [] d j->k=j:=by
  intro k G j V e;rw[L k G,L j V]at e;have e':=ij (pos keys) e;rw[PS N (I k G).2,PS N (I j V).2]at e';have:=I k G;have:=I j V;omega
 rw[Y2];obtain ⟨v1, v2⟩ := Vc (rk := BV keys [] d) (m := D) h3 U (λk G => by
  rw[M,L k G,ac (GK (I k G).2)])
 by_cases G:k∈keys
 ·obtain⟨hp,hn⟩:=Dl G;obtain⟨b,hb⟩:=O _ hp;have e1:=u1 _ b hb;have e2:=v1 _ b hb;rw[L _ (Lx.2 ⟨b,hb⟩)]at e2;rw[show base+pos keys k-base=pos keys k from by omega,hn]at e1 e2;rw[e1,e2];have:=h4 _ (Qc hb);rw[SY this]
 rw[u2 k (λj V e=>G (by grind [GK])),v2 k (λj V e=>G (by grind [GK])),M,ab G]
def Zr9 (N:AK P C) (hR:RelE Z tm aB aC ρ tmps w) {o:Oper} {a:Act} {f:FuncId} {args:List TV} {xs:List Value} (h1:xs.length=args.length)
  (h2:∀(i:Nat) (a:TV) (x:Value),args[i]? =some a->xs[i]? =some x->TVR ρ w a x) (h3:execOp a.eval o=callFunc f xs.toArray) (a2:∀v∈args,TV.wf aB aC v) {K:TV->St->Option R} {r:R}
  (h:Bb C o.dst (.callD f args) ⟨tm,aB,aC⟩ K=some r) {next:Act->World->Prop} {Q:Exit->Act->World->Prop}
  (O:∀(v:TV) (Y:List TV) (D:List (Nat×Box)) (G:List (Nat×Row)) (ρ':Env) (x:Value) (w':World),K v ⟨Y,D,G⟩=some r->RelE Z Y D G ρ' tmps w'->TVR ρ' w' v x->TV.wf D G v->next (a.put o.dst x) w'):
  o.wp P a w next Q:=by
 simp only[Bb]at h;split at h
 ·rename_i g hg;have a3:=N.1 f g hg;simp only[A8]at h;generalize L:Bi (cat AC.keys (cat TV.cellsOf args)) []=keys at h;clear L;cases hc:(Al (TV.inK keys []) args&&Al (λk=>Al AC.calm (EX aB k)) keys&&Ck keys)<;>rw[hc]at h
  ·grind
  simp only[am]at h;simp only[ak]at hc;obtain⟨⟨c1,c2⟩,c3⟩:=hc;have a4:Al (λk=>Al (AC.inK keys []) (EX aB k)) keys=true:=by
   rw[Au]at c2⊢;intro k L;have:=c2 k L;rw[Au]at this⊢;intro b hb;have:=this b hb;cases b<;>simp[AC.calm]at this<;>rfl
  split at h
  ·rename_i mb M;have U:=Jl.1 c3;obtain⟨v,⟨I,a5⟩,X,a6⟩:=a3.run h;have a0:=XO hR h1 h2 a2 U gk (λv X=>Au.1 c1 v X) (λk L=>Au.1 a4 k L) M (rfl);refine NI h3 ((a6 _ xs a0).mono ?_);rintro e w' ⟨x,ρ2,he,a7⟩;cases a5 with
   |cons _ _=>grind
   |nil=>
    dsimp only at X;cases V:(Al (λp:Nat×Box=>Gi I p.1) mb&&Al (λp:Nat×Box=>Gi mb p.1) I&&Ck (I.map (·.1))&&Al (λp:Nat×Box=>Al AC.calm p.2.cells) I&&v.plainB)<;>rw[V]at X
    ·grind
    simp only[am]at X;simp only[ak]at V;obtain⟨⟨⟨⟨d1,d2⟩,d3⟩,d4⟩,d5⟩:=V;have a8:BF keys I=[]:=by
     apply List.eq_nil_iff_forall_not_mem.2;intro k L;obtain⟨q1,q2⟩:=K9.1 L;simp only[bj]at q1;obtain⟨p,hp,rfl⟩:=q1;obtain⟨b,hb⟩:=VY (Au.1 d2 p hp);obtain⟨i,hi,e⟩:=(K3 M).2 _ _ hb;exact q2 (by omega)
    obtain⟨e1,e2,e3⟩:=Ut hR U gk M (rfl) a7 (d:=o.dst.getD 0) (Jl.1 d3) gk (λk L=>by grind) (λk L=>by grind [BF]);rw[a8]at e1 e2 e3;have a9:=Z8b U M (Au.1 d1) (Au.1 d2) (Jl.1 d3) (Au.1 d4) (BV [] (BF [] ([]:List (Nat×Row))) (o.dst.getD 0)) (o.dst.getD 0);have a1:=e1.cong a9;have b0:tm.map (H_ [])=tm:=by
     conv=>rhs;rw[<-List.map_id tm]
     rfl
    rw[b0]at a1;rw[XI d5]at e2;exact⟨x,he,O _ _ _ _ _ x w' X a1 e2 (JW d5)⟩
  grind
 grind
theorem Qtd {rk ri:Nat->Nat}:∀{args:List TV},Al TV.plainB args=true->args.map (TV.ren rk ri)=args
 |[],_=>rfl
 |a::l,h=>by
  obtain⟨h1,h2⟩:=cond_none' h;simp only[bz];rw[XI h1,Qtd h2]
 where cond_none' {c p:Bool} (h:cond c p false=true):c=true/\p=true:=by grind
theorem Qng (x:Nat):x.blt 0=false:=rfl
def Zqi (j:Nat) (r:Row):BF [] [(j,r)]=[j]:=by
 have D:(base.ble j&&(j-base).blt 0)=false:=by
  rw[Qng,Bool.and_false]
 unfold BF;simp only[ff,D];rfl
def Z7m (j d:Nat):BV [] [j] d j=Jv d:=by
 have D:(base.ble j&&(j-base).blt 0)=false:=by
  rw[Qng,Bool.and_false]
 unfold BV Jv;simp only[ff,D,bn,pos,Nat.beq_refl,am,Nat.add_zero]
def Ydl (X:AK P C) (hR:RelE Z tm aB aC ρ tmps w) {o:Oper} {a:Act} {f:FuncId} {args:List TV} {xs:List Value} (h1:xs.length=args.length)
  (h2:∀(i:Nat) (a:TV) (x:Value),args[i]? =some a->xs[i]? =some x->TVR ρ w a x) (h3:execOp a.eval o=callFunc f xs.toArray) (b0:∀v∈args,TV.wf aB aC v) {K:TV->St->Option R} {r:R}
  (h:Bb C o.dst (.callF f args) ⟨tm,aB,aC⟩ K=some r) {next:Act->World->Prop} {Q:Exit->Act->World->Prop}
  (M:∀(v:TV) (a2:List TV) (D:List (Nat×Box)) (G:List (Nat×Row)) (ρ':Env) (x:Value) (w':World),K v ⟨a2,D,G⟩=some r->RelE Z a2 D G ρ' tmps w'->TVR ρ' w' v x->TV.wf D G v->next (a.put o.dst x) w'):
  o.wp P a w next Q:=by
 simp only[Bb]at h;split at h
 ·rename_i g hg;have b1:=X.1 f g hg;cases Y:Al TV.plainB args<;>rw[Y]at h
  ·grind
  simp only[am]at h;obtain⟨v,⟨b2,b3⟩,L,b4⟩:=b1.run h;have O:=XO hR h1 h2 b0 gk gk (keys:=[]) (ids:=[]) (λv L=>Qms (Au.1 Y v L)) (λk hk=>by grind) (show Dk aB _ _ base []=some []from rfl) (show GN aC base []=some []from rfl);rw[Qtd Y]at O;refine NI h3 ((b4 _ xs O).mono ?_);rintro e w' ⟨x,ρ2,he,a3⟩;have a4:tm.map (H_ [])=tm:=by
   conv=>rhs;rw[<-List.map_id tm]
   rfl
  have a0:(DA [] aB).map (λp=>(p.1,Du [] p.2))=aB:=by
   conv=>rhs;rw[<-List.map_id aB]
   rfl
  cases b2 with
  |cons _ _=>grind
  |nil=>
  have a5:=λd1 d2=>
   Ut hR gk gk (show Dk aB _ _ base []=some []from rfl) (show GN aC base []=some []from rfl) a3 (d:=o.dst.getD 0) (by simp) d1 (λk hk=>by grind [BF]) d2
  cases b3 with
  |nil=>
   dsimp only at L;cases a1:v.plainB<;>rw[a1]at L
   ·grind
   simp only[am]at L;obtain⟨e1,e2,e3⟩:=a5 (by simp) (λk hk=>by grind [BF]);rw[a4,a0]at e1;rw[XI a1]at e2;exact⟨x,he,M _ _ _ _ _ x w' L e1 e2 (JW a1)⟩
  |cons p l=>
   obtain⟨k,I⟩:=p;cases l with
   |cons _ _=>grind
   |nil=>
    dsimp only at L;split at L
    ·rename_i j w0 n0;cases N:Nat.beq j k<;>rw[N]at L
     ·grind
     simp only[am]at L;have N:=ah N;subst N;split at L
     ·grind
     rename_i b5;simp only[A8]at L;have hf:=Zqi j I;have hb:=Z7m j (o.dst.getD 0);obtain⟨e1,e2,e3⟩:=a5 (by simp) (λk hk=>by grind);rw[a4,a0]at e1;rw[a0]at e3;have b6:=a3.wt (.v false [.own j w0 n0]) (by simp) (.own j w0 n0) (by simp);obtain⟨r1,a6,b7,b8⟩:=b6;simp only[Ab,Nat.beq_refl,am,bm]at a6;subst a6;have U:TV.ren (BV [] (BF ([]:List Nat) ([]:List (Nat×Box))) (o.dst.getD 0)) (BV [] (BF [] [(j,I)]) (o.dst.getD 0)) (.v false [.own j w0 n0])= .c (.own (Jv (o.dst.getD 0)) I.ks.length I.l.length):=by
      simp only[TV.ren,bz,fx,AC.ren,hf,hb];rw[<-b8,<-b7]
     have V:ID (BV [] (BF [] [(j,I)]) (o.dst.getD 0)) [(j,I)] (DA [] aC)=ins aC (Jv (o.dst.getD 0)) I:=by
      simp only[ID,hf,hb,DA]
     have a7:=e1;rw[V]at a7;have a8:=e2;rw[U]at a8;have a9:=e3;rw[U,V]at a9;exact⟨x,he,M _ _ _ _ _ x w' L a7 a8 a9⟩
    grind
 grind
end
open Go.RowKit
section
variable {P:Program} {C:Cfg} {ρ:Env} {w:World} {R:Type} {Z:Base} {tm:List TV} {aB:List (Nat×Box)} {aC:List (Nat×Row)} {tmps:Array Value}
def Zp7 {g:Bool} {sz off:Nat} {cells:List AC} {v:TV} (D:DO g sz cells off=some v) (hb:∀a∈cells,AC.wf aB aC a):TV.wf aB aC v:=by
 unfold DO at D;cases g
 ·simp at D;split at D
  ·rename_i c I;simp at D;subst D;intro c' L;grind
  grind
 simp at D;cases G:Nat.ble (off+sz) cells.length<;>rw[G]at D
 ·grind
 simp at D;subst D;intro c I;exact hb c (fh (gw I))
theorem Z67 {a M:TV} (D:a.hasOwn=false) (L:a.res aC=some M):a=M:=by
 have N:∀(cs G:List AC),cs.any AC.isOwn=false->EV aC cs=some G->cs=G:=by
  intro cs;induction cs with
  |nil=>grind [EV]
  |cons b cs U=>
   intro G D h;simp only[List.any_cons,Bool.or_eq_false_iff]at D;simp only[EV]at h;split at h
   ·rename_i b' I;split at h
    ·rename_i V O;cases b<;>simp only[AC.res]at I<;>first|(simp at I;done)|grind [AC.isOwn]|grind
    grind
   grind
 cases a with
 |vD=>grind [TV.res]
 |tup=>grind [TV.res]
 |v g cs=>
  simp only[TV.res]at L;split at L
  ·rename_i l h;simp at L;subst L;rw[N _ _ D h]
  grind
def Zou {t e:TypeId} {i:TypeInfo} {z:Value} (D:P.underlying t=some (.slice e)) (G:P.info? e=some i) (I:i.zero=some z) {kl kc:IntKind} {n:Nat} (hb:n*i.bytes<=140737488355328) (hn:n<=140737488355328):
  ∃(w':World) (arr:Array Value),(Instr.makeSlice t (.int kl (n:Int)) (.int kc (n:Int))).run P w= .ok (.slice (some ⟨w.heap.size,0,none⟩) n n) w'/\w'=w.alloc (.cells arr e)/\
   arr.toList=(List.range (n*i.size)).map λj=>z.cells[j%z.cells.size]! :=by
 have e2:(i.bytes:Int)*(n:Int)<=281474976710656:=by rw[jk];omega
 have h:=run_make w t e i z D G I kl kc (n:Int) (n:Int) (by omega) (fa _) e2 (by omega);exact⟨_,madeCells z.cells (n*i.size),h,rfl,by simp[madeCells]⟩
theorem Qiy (a3:AK P C) (U:RelE Z tm aB aC ρ tmps w) {o:Oper} {a:Act} {p:Prim} (hp:J7 P ρ w a.eval o p) (a2:Prim.wf aB aC p) (g7:Prim.isApp (some p)=false) {K:TV->St->Option R} {r:R}
  (h:Bb C o.dst p ⟨tm,aB,aC⟩ K=some r) {next:Act->World->Prop} {Q:Exit->Act->World->Prop}
  (G:∀(v:TV) (d3:List TV) (a4:List (Nat×Box)) (b0:List (Nat×Row)) (ρ':Env) (x:Value) (w':World),K v ⟨d3,a4,b0⟩=some r->RelE Z d3 a4 b0 ρ' tmps w'->TVR ρ' w' v x->TV.wf a4 b0 v->next (a.put o.dst x) w'):
  o.wp P a w next Q:=by
 cases p with
 |val v=>
  obtain⟨x,Y,V⟩:=hp;exact Ik Y (G v _ _ _ ρ x w h U V a2)
 |load g sz key off=>
  obtain⟨t,Y,V,X⟩:=hp;simp only[Bb]at h;split at h
  ·rename_i b hk;split at h
   ·rename_i v hv;obtain⟨arr,q1,q2,q3⟩:=U.bx key b hk;obtain ⟨x, q4, q5⟩ := XQ (b := ρ.bx key) (o := 0) Y V hv q2 (λj y hj => by
     simp only[fw];rw[cell_of_row w _ j arr b.ty (0,0) q1]
     grind)
    rw[fw]at q4;rw[q4]at X;refine Ik X (G v _ _ _ ρ x w h U q5 ?_);have hb:=U.wb key b hk;unfold DO at hv;cases g
    ·simp only[bn]at hv;split at hv
     ·rename_i c M;simp at hv;subst hv;intro c' b7;grind
     grind
    simp only[am]at hv;cases b1:Nat.ble (off+sz) b.cells.length<;>rw[b1]at hv
    ·grind
    simp at hv;subst hv;intro c M;exact hb c (fh (gw M))
   grind
  grind
 |store key off cs=>
  obtain⟨t,x,Y,V,X⟩:=hp;simp only[Bb]at h;split at h
  ·rename_i b hk;cases hb:Nat.ble (off+cs.length) b.cells.length<;>rw[hb]at h
   ·grind
   simp only[am,A8]at h;have hle:=bc hb;obtain⟨arr,q1,q2,q3⟩:=U.bx key b hk;have hlen:=V.length;rw[hlen]at Y hle;have q4:=Qu9 Y q1 (by rw[<-fu,<-q2.length];exact hle) V.one;rw[q4]at X;refine Zi7 X (G .vD _ _ _ ρ undef _ h (U.store hk ?_ ?_) trivial trivial)
   ·intro c M;rw[GQ _ _ _ (by omega)]at M;simp only[bt]at M;rcases M with(M|M)|M
    ·exact U.wb key b hk c (gw M)
    ·exact a2.2 c M
    exact U.wb key b hk c (fh M)
   exact q2.splice off V
  grind
 |new ty cs=>
  obtain⟨arr,Y,V⟩:=hp;simp only[Bb]at h;split at h
  ·rename_i d hd;split at h
   ·grind
   rename_i hn;simp only[A8]at h;refine Ik V (G _ _ _ _ _ _ _ h (U.new hn a2 Y) ?_ ?_)
   ·grind [TVR.c',CC,B5]
   intro c M;simp at M;subst M;exact⟨_,EU _ _ _ hn⟩
  grind
 |newS ty n cs=>
  obtain⟨arr,Y,V⟩:=hp;simp only[Bb]at h;split at h
  ·rename_i d hd;split at h
   ·grind
   rename_i hn;simp only[A8]at h;refine Ik V (G _ _ _ _ _ _ _ h (U.new hn a2 Y) ?_ ?_)
   ·grind [TVR.c',CC,B5]
   intro c M;simp at M;subst M;exact⟨_,EU _ _ _ hn⟩
  grind
 |rload g sz id idx sub=>
  obtain⟨t,b,Y,V,hb,X⟩:=hp;obtain⟨D,O,a5⟩:=a2;simp only[Bb,O]at h;split at h
  ·rename_i v hv;obtain⟨q1,q2,_,xs,q3,q4⟩:=U.ro id D O;have a7:D.l[idx]? =some D.l[idx]:=an a5;have d4:=q4.2.2 idx _ a7;have hf:D.f idx=D.l[idx]:=by
    show AX D.ks (nth [] D.l idx)=_;rw[Ca,List.getD,a7];exact q4.2.1 _ (dl a5)
   have g8:S5 w b (H6 (ρ.rv id)+idx*D.w) (cut xs (idx*D.w) D.w):=by
    intro j y hj;simp only[cut,gj]at hj;split at hj
    ·rw[fg]at hj;have:=Sb q3 hb (idx*D.w+j) y hj
     grind
    grind
   rw[hf]at hv;obtain⟨x,q5,q6⟩:=XQ (b:=b) (o:=H6 (ρ.rv id)+idx*D.w) (ρ:=ρ) Y V hv (d4.mono λ_ _ _ hh=>Jp hh) g8;rw[<-q2,jd]at q5;rw[q5]at X;exact Ik X (G v _ _ _ ρ x w h U q6 (Zp7 hv (Zvq d4)))
  grind
 |rstore id idx sub cs=>
  obtain⟨t,x,b,Y,V,hb,X⟩:=hp;obtain⟨D,O,a5⟩:=a2;simp only[Bb,O]at h;cases M:(Nat.ble (sub+cs.length) D.w&&Al AC.plain cs)<;>rw[M]at h
  ·grind
  simp only[am]at h;split at h
  ·rename_i c b8;simp only[A8]at h;simp only[ak]at M;have hle:=bc M.1;obtain⟨q1,q2,_,xs,q3,q4⟩:=U.ro id D O;have a7:D.l[idx]? =some D.l[idx]:=an a5;have hf:D.f idx=D.l[idx]:=by
    show AX D.ks (nth [] D.l idx)=_;rw[Ca,List.getD,a7];exact q4.2.1 _ (dl a5)
   rw[hf]at b8;rcases q3.2 with⟨e1,e2⟩|⟨g',oo,cap,cur,e1,e3,e4,e5,e6,e7⟩
   ·omega
   have g9:b=g':=by rw[e1]at hb;simp[Value.ownBlock]at hb;exact hb.symm
   subst g9;have hlen:=V.length;have d5:=q4.1;have hbound:idx*D.w+sub+cs.length<=D.n*D.w:=by
    have:idx*D.w+D.w<=D.n*D.w:=by
     calc idx*D.w+D.w=(idx+1)*D.w:=by grind
      _<=D.n*D.w:=db _ a5
    omega
   have h0:D.n*D.w<=cap*D.w:=db _ e4;rw[q2]at X;rw[hlen]at Y hle hbound;have d6:H6 (ρ.rv id)=oo:=by rw[e1];rfl
   rw[d6]at X;have q5:=Qu9 (off:=oo+(idx*D.w+sub)) Y e3 (by omega) V.one;rw[q5]at X;have d7:oo+cap*D.w<=cur.toList.length:=by rw[fu];exact e6
   have i0:(splice cur.toList (oo+(idx*D.w+sub)) x.cells.toList).drop oo=splice (cur.toList.drop oo) (idx*D.w+sub) x.cells.toList:=by
    rw[GQ _ _ _ (by omega),GQ _ _ _ (by grind),ic,jo (by grind),List.drop_take,show oo+(idx*D.w+sub)-oo=idx*D.w+sub from by omega,List.drop_drop,ic];congr 2;rw[jd]
   have k9:((splice cur.toList (oo+(idx*D.w+sub)) x.cells.toList).drop oo).take (D.n*D.w)=splice xs (idx*D.w+sub) x.cells.toList:=by
    rw[i0];have i1:cap*D.w<=(cur.toList.drop oo).length:=by rw[fo];omega
    generalize cur.toList.drop oo=L at e7 i1⊢;rw[GQ _ _ _ (by omega),GQ _ _ _ (by grind),<-e7];apply ia;intro j;simp only[gj,f6,jm,cg,fg];by_cases hj:j<D.n*D.w
    ·rw[ac hj];by_cases j1:j<idx*D.w+sub
     ·grind
     by_cases j2:j<idx*D.w+sub+x.cells.toList.length
     ·grind
     grind
    grind
   have i2: ¬ρ.im b:=λhi=>(U.ib b hi).2.2 id D O hb;have hold:∀k,k≠b->(w.setRow b (splice cur.toList (oo+(idx*D.w+sub)) x.cells.toList).toArray).heap[k]? =w.heap[k]? :=λk hk=>setRow_other w b k _ hk;have b3:∀(a:AC) (y:Value),CP ρ.im w a y->CP ρ.im (w.setRow b (splice cur.toList (oo+(idx*D.w+sub)) x.cells.toList).toArray) a y:=λa y hh=>CP.mono (λ_ h=>h) (λk hk=>hold k (λe=>i2 (e▸hk))) a y hh;have e8:CL (CP ρ.im w) c (splice (cut xs (idx*D.w) D.w) sub x.cells.toList)/\AX D.ks c=c:=
    T5 b8 (((q4.2.2 idx _ a7).mono λ_ _ _ hh=>Jp hh).splice sub V)
   have a1:=U.turnRow (id:=id) O (r':=⟨D.ty,D.ks,D.l.set idx c⟩) (v':=ρ.rv id)
    (xs:=splice xs (idx*D.w+sub) x.cells.toList) (w':=w.setRow b (splice cur.toList (oo+(idx*D.w+sub)) x.cells.toList).toArray)
    ⟨rfl,rfl,rfl,by simp,λk _ hk=>hold k (λe=>hk (by grind))⟩ rfl
    ⟨by simp_all [Row.n,Ne], .inr ⟨b,oo,cap,_,by grind,setRow_heap w b cur _ D.ty _ e3,by grind,e5,by grind [Ne],by grind⟩⟩
    ⟨by grind [Ne],λc' b7=>by
     rcases gn b7 with b7|rfl
     ·exact q4.2.1 c' b7
     grind,λi c' hi=>by
     simp only[List.getElem?_set]at hi;by_cases c4:idx=i
     ·subst c4;rw[ac rfl,ac a5]at hi;simp at hi;subst hi;have e:=Z8h xs x.cells.toList idx D.w sub D.n a5 d5 (by omega);show CL _ c (cut _ (idx*D.w) D.w);rw[e];exact e8.1.mono λa _ y hh=>b3 a y hh
     rw[ab c4]at hi;have l0:i<D.n:=(fv.1 hi).1;have e:=Ztb xs x.cells.toList idx i D.w sub D.n a5 (λe=>c4 e.symm) d5 (by omega);show CL _ c' (cut _ (i*D.w) D.w);rw[e];exact(q4.2.2 i c' hi).mono λa _ y hh=>b3 a y hh⟩
    (.inl rfl) (.inl ⟨rfl,by grind⟩)
   exact Zi7 X (G .vD _ _ _ _ undef _ h a1 trivial trivial)
  grind
 |newRow el ks l=>
  obtain⟨arr,Y,V,X,h4⟩:=hp;simp only[Bb]at h;split at h
  ·rename_i d hd;split at h
   ·grind
   rename_i hn;simp only[A8]at h;have hb:Below w.heap.size w (w.alloc (.cells arr el)):=(Below.refl _ _).alloc (dm _) _;have N:RowC ρ.im (w.alloc (.cells arr el)) ks l arr.toList:=X.mono (λ_ h=>h) (λb I=>Below.heap_alloc w _ b (U.ib b I).1);have a8:=U.addRow (d:=C.rowAs d) hn (r:=⟨el,ks,l⟩) (v':= .slice (some ⟨w.heap.size,0,none⟩) l.length l.length) (xs:=arr.toList) (w':=w.alloc (.cells arr el)) hb Y
    ⟨X.1, .inr ⟨w.heap.size,0,l.length,arr,rfl,heap_alloc_new w _,dm _,V,by rw[<-fu,fw];exact Nat.le_of_eq X.1.symm,by
     show List.take (l.length*ks.length) _=_;rw[<-X.1,iy,ke]⟩⟩ N
    (λg hg=>by grind [Value.ownBlock])
   refine Ik h4 (G _ _ _ _ _ _ _ h a8 ?_ ?_)
   ·exact TVR.c' ⟨by grind [B5],by grind [B5], .inr ⟨_,_,_,rfl⟩⟩
   intro c M;simp at M;subst M;exact⟨_,EU _ _ _ hn,rfl,rfl⟩
  grind
 |newView el ks l=>
  obtain⟨arr,Y,V,X,h4⟩:=hp;simp only[Bb]at h;have hb:Below w.heap.size w (w.alloc (.cells arr el)):=(Below.refl _ _).alloc (dm _) _;have N:RowC ρ.im (w.alloc (.cells arr el)) ks l arr.toList:=X.mono (λ_ h=>h) (λb I=>Below.heap_alloc w _ b (U.ib b I).1);have hg:=U.growIm (im':=λb=>ρ.im b\/b=w.heap.size) hb (λb h=> .inl h) (λb h=>h.imp id λe=>by simp_all);refine Ik h4 (G _ _ _ _ _ _ _ h hg ?_ ?_)
  ·refine TVR.c' ?_;have b9:Fv (w.alloc (.cells arr el)) el ks.length (.slice (some ⟨w.heap.size,0,none⟩) l.length l.length) l.length arr.toList:=
    ⟨X.1, .inr ⟨w.heap.size,0,l.length,arr,rfl,heap_alloc_new w _,dm _,V,by rw[<-fu,fw];exact Nat.le_of_eq X.1.symm,by rw[iy,<-X.1,ke]⟩⟩
   exact Jp (ZF b9 (N.mono (λ_ h=> .inl h) (λ_ _=>rfl)) (λg hg=> .inr (by grind [Value.ownBlock])))
  intro c M;simp at M;subst M;trivial
 |make el ks bytes n z=>
  obtain⟨t,i,zv,kl,kc,Y,V,X,h4,h5,h6,h7,h8,h9,e9⟩:=hp;subst h5;simp only[Bb]at h;split at h
  ·rename_i d hd;split at h
   ·grind
   rename_i hn;cases M:(decide (0<=n)&&decide (n*(i.bytes:Int)<=140737488355328))<;>rw[M]at h
   ·grind
   simp only[am,A8]at h;simp only[ak,dx]at M;have f0:((n.toNat:Nat):Int)=n:=Int.toNat_of_nonneg M.1;have i3:zv.cells.toList.length=ks.length:=by
    rw[<-h9.length,<-h8];exact Qcl _ _
   have i4:n.toNat*i.bytes<=140737488355328:=by
    have V:=M.2;rw[<-f0]at V;have e1:((n.toNat*i.bytes:Nat):Int)=(n.toNat:Int)*(i.bytes:Int):=iu _ _;omega
   have l1:n.toNat<=n.toNat*i.bytes:=jc _ h7;obtain⟨w',arr,p1,p2,p3⟩:=Zou (P:=P) (w:=w) (t:=t) (e:=el) (i:=i) (z:=zv) Y V X (kl:=kl) (kc:=kc) (n:=n.toNat) i4 (by omega);rw[f0]at p1;rw[p1]at e9;subst p2;have c5:zv.cells.size=ks.length:=by rw[<-fu];exact i3
   have f1:arr.toList.length=n.toNat*ks.length:=by rw[p3,h4,c5];simp[c5]
   have k8:∀j,j<n.toNat->cut arr.toList (j*ks.length) ks.length=zv.cells.toList:=by
    intro j hj;have hle:j*ks.length+ks.length<=n.toNat*ks.length:=by
     calc j*ks.length+ks.length=(j+1)*ks.length:=by grind
      _<=n.toNat*ks.length:=db _ hj
    apply ia;intro q;simp only[cut,gj,fg];by_cases hq:q<ks.length
    ·rw[ac hq,p3,h4,c5];rw[fq,List.getElem?_range (by omega)];simp_all [Nat.mod_eq_of_lt]
    grind
   have hb:Below w.heap.size w (w.alloc (.cells arr el)):=(Below.refl _ _).alloc (dm _) _;have c6:RowC ρ.im w ks (List.replicate n.toNat z) arr.toList:=by
    refine⟨by grind,λc M=> ?_,λj c hj=> ?_⟩
    ·grind
    grind
   have N:RowC ρ.im (w.alloc (.cells arr el)) ks (List.replicate n.toNat z) arr.toList:=c6.mono (λ_ h=>h) (λb I=>Below.heap_alloc w _ b (U.ib b I).1);have i5:(List.replicate n.toNat z).length=n.toNat:=by simp
   have a8:=U.addRow (d:=d) hn (r:=⟨el,ks,List.replicate n.toNat z⟩) (v':= .slice (some ⟨w.heap.size,0,none⟩) n.toNat n.toNat) (xs:=arr.toList) (w':=w.alloc (.cells arr el)) hb h6
    ⟨by grind, .inr ⟨w.heap.size,0,n.toNat,arr,by grind,heap_alloc_new w _,by grind,by grind [maxLen],by grind,by grind⟩⟩ N
    (λg hg=>by grind [Value.ownBlock])
   refine Ik e9 (G _ _ _ _ _ _ _ h a8 ?_ ?_)
   ·exact TVR.c' ⟨by grind [B5],by grind [B5], .inr ⟨_,_,_,by rw[i5]⟩⟩
   intro c M;simp at M;subst M;exact⟨_,EU _ _ _ hn,by omega,rfl⟩
  grind
 |cutR id a=>
  simp only[Bb]at h;split at h
  ·rename_i D O;have hle:Nat.ble a D.l.length=true:=by
    cases hb:Nat.ble a D.l.length
    ·grind
    rfl
   rw[hle]at h;simp only[am]at h;have hle:a<=D.n:=bc hle;simp only[A8]at h;obtain⟨q1,q2,_,xs,q3,q4⟩:=U.ro id D O;have hlen:(D.l.drop a).length=D.n-a:=by simp[Row.n]
   have key : ∃ ad cap, ρ.rv id = .slice ad D.n cap /\ D.n <= cap /\ (let v' : Value := .slice (if cap = a then ad else ad.map (·.add (a * ρ.wd id))) (D.n - a) (cap - a)
     v'.ownBlock=(ρ.rv id).ownBlock/\Fv w D.ty D.w v' (D.n-a) (xs.drop (a*D.w))/\((v'= .slice none 0 0/\D.n-a=0)\/∃g o c,v'= .slice (some ⟨g,o,none⟩) (D.n-a) c)):=by
    have f2:(xs.drop (a*D.w)).length=(D.n-a)*D.w:=by rw[fo,q3.1,Nat.sub_mul]
    rcases q3.2 with⟨e1,e2⟩|⟨g,oo,cap,cur,e1,e3,e4,e5,e6,e7⟩
    ·refine⟨none,0,by grind,by omega,?_⟩;simp_all
    refine⟨_,cap,e1,e4,?_⟩;rw[e1,q2];by_cases f3:cap=a
    ·have g7:D.n=a:=by omega
     simp only[f3,ig];refine⟨rfl,⟨f2, .inr ⟨g,oo,a-a,cur,rfl,e3,by omega,by omega,by grind,?_⟩⟩, .inr ⟨g,oo,_,rfl⟩⟩
     grind
    simp only[f3,j8,Option.map_some,Addr.add_lit];refine⟨rfl,⟨f2, .inr ⟨g,oo+a*D.w,cap-a,cur,rfl,e3,by omega,by omega,?_,?_⟩⟩, .inr ⟨g,oo+a*D.w,_,rfl⟩⟩
    ·rw[Nat.sub_mul];have:a*D.w<=cap*D.w:=db _ (by omega);omega
    grind [List.drop_take,List.drop_drop]
   obtain⟨ad,cap,k1,k2,k3,k4,k5⟩:=key;have f4:=hp ad D.n cap k1 k2 hle;have c7:=U.kill id;have N:RowC ρ.im w D.ks (D.l.drop a) (xs.drop (a*D.w)):=by
    refine⟨by rw[fo,q3.1,fo,<-Nat.sub_mul],λc M=>q4.2.1 c (fh M),λi c hi=> ?_⟩;rw[fg]at hi;have:=q4.2.2 (a+i) c hi;have e:cut (xs.drop (a*D.w)) (i*D.ks.length) D.ks.length=cut xs ((a+i)*D.ks.length) D.ks.length:=by
     simp only[cut,List.drop_drop,jh]
    rw[e];exact this
   have a1:=c7.turnRow (id:=id) O (r':=⟨D.ty,D.ks,D.l.drop a⟩) (v':=_) (xs:=xs.drop (a*D.w)) (w':=w) ⟨rfl,rfl,rfl,dm _,λ_ _ _=>rfl⟩ rfl (by grind) N (.inl k3)
    (.inr ⟨λv hv=>by grind [TV.kill_free],λk b hk a' c8=>by
     rw[FM]at hk;cases hl:Ab aB k with
     |none=>grind
     |some b'=>grind [Box.kill,AC.kill_free]⟩)
   refine Ik f4 (G _ _ _ _ _ _ _ h a1 ?_ ?_)
   ·refine TVR.c' ⟨by grind [B5],by omega,?_⟩
    grind
   intro c M;simp at M;subst M;exact⟨_,E4 _ _ _ _ O,by omega,rfl⟩
  grind
 |append e ks bytes s x=>
  obtain⟨t,ty,i,z,sv,xv,Y,V,X,h4,h5,h6,h7,h8,h9⟩:=hp;subst h5;simp only[Bb]at h;split at h
  ·rename_i m f5;obtain⟨ad,c,news,rfl,N,b4⟩:=Zod U f5 h8;split at h
   ·
    split at h
    ·rename_i d hd;split at h
     ·grind
     rename_i hn;cases hb:(Nat.ble 1 ks.length&&Nat.ble 1 i.bytes)<;>rw[hb]at h
     ·grind
     simp only[am]at h;simp only[ak]at hb;have l2:=bc hb.1;have j3:=bc hb.2;cases b1:Nat.ble (m.length*i.bytes) 140737488355328<;>rw[b1]at h
     ·grind
     simp only[am,A8]at h;have hbound:=bc b1;have hm:m.length<=m.length*i.bytes:=jc _ (by omega);simp only[CC,CP]at h7;subst h7;obtain⟨v',w',q1,q2,q3,q4⟩:=Qv9 (P:=P) (ty:=ty) (c:=c) Y V X h4 h6 (by omega) (YV w e ks.length) N.1 b4 (N.one (by omega)) (by grind [maxLen]) (by grind);rw[q1]at h9;simp only[fw,cq]at q2;have a9:Below w.heap.size w w':=⟨q3.os,q3.tape,q3.output,q3.size,λk hk=>q3.block k hk (by simp[Value.ownBlock])⟩;have a8:=U.addRow (d:=d) hn (r:=⟨e,ks,m⟩) (v':=v') (xs:=news) (w':=w') a9 (by grind) q2
      (N.mono (λ_ h=>h) (λb I=>a9.block b (U.ib b I).1)) (λg' j4=>by grind [Value.ownBlock])
     refine Ik h9 (G _ _ _ _ _ _ _ h a8 ?_ ?_)
     ·refine TVR.c' ⟨by grind [B5],by grind [B5],?_⟩;rcases q2.2 with⟨e1,e2⟩|⟨g',oo,cap,cur,e1,_⟩
      ·grind
      grind
     intro c M;simp at M;subst M;exact⟨_,EU _ _ _ hn,rfl,rfl⟩
    grind
   ·
    rename_i id w1 n1;split at h
    ·rename_i D O;cases hb:(Dj ks D.ks&&Nat.beq D.ty e&&Nat.ble 1 i.bytes)<;>rw[hb]at h
     ·grind
     simp only[am]at h;simp only[ak]at hb;have e1:=Jq hb.1.1;have e2:=ah hb.1.2;have j3:=bc hb.2;subst e1 e2;cases b1:Nat.ble ((D.l++m).length*i.bytes) 140737488355328<;>rw[b1]at h
     ·grind
     simp only[am,A8]at h;have hbound:=bc b1;rw[cg]at hbound;have hm:D.l.length+m.length<=(D.l.length+m.length)*i.bytes:=jc _ (by omega);obtain⟨q1,q2,_,xs,q3,q4⟩:=U.ro id D O;obtain⟨c1,c2,c3⟩:=h7;subst c1;obtain⟨v',w',p1,p2,p3,p4⟩:=Qv9 (P:=P) (ty:=ty) (c:=c) Y V X h4 h6 q1 q3 N.1 b4 (N.one q1) (by simp only[maxLen,Row.n];omega) hbound;rw[p1]at h9;have c7:=U.kill id;have g0:∀b,ρ.im b->w'.heap[b]? =w.heap[b]? :=λb I=>p3.block b (U.ib b I).1 (λe=>(U.ib b I).2.2 id D O e.symm);have g1:=(q4.append N).mono (λ_ h=>h) g0;have a1:=c7.turnRow (id:=id) O (r':=⟨D.ty,D.ks,D.l++m⟩) (v':=v') (xs:=xs++news) (w':=w') p3 rfl (by grind) g1
      (R6 p4 (λx=>x) (λx g' j4=>by grind))
      (.inr ⟨λv hv=>by grind [TV.kill_free],λk b hk a' c8=>by
       rw[FM]at hk;cases hl:Ab aB k with
       |none=>grind
       |some b'=>grind [Box.kill,AC.kill_free]⟩)
     refine Ik h9 (G _ _ _ _ _ _ _ h a1 ?_ ?_)
     ·refine TVR.c' ⟨by grind [B5],by omega,?_⟩;rcases p2.2 with⟨e1,e2⟩|⟨g',oo,cap,cur,e1,_⟩
      ·grind
      grind
     intro c M;simp at M;subst M;exact⟨_,E4 _ _ _ _ O,by grind,rfl⟩
    grind
   grind
  grind
 |call f args=>
  obtain⟨xs,Y,V,X⟩:=hp;simp only[Bb]at h;split at h
  ·rename_i g hg;split at h
   ·rename_i as has;obtain⟨f1,j5⟩:=Qlu has;have k0:=a3.1 f g hg;obtain⟨v,mem',hv,k6⟩:=k0.run h;split at hv
    ·cases b2:((!(args.any TV.hasOwn)||v.flat)&&v.plainB)<;>rw[b2]at hv
     ·grind
     simp only[am]at hv;simp only[ak]at b2
     let b5:Nat->Prop:=λb=>ρ.im b\/(args.any TV.hasOwn=true/\∃id D,Ab aC id=some D/\(ρ.rv id).ownBlock=some b)
     have g2:∀b,b5 b->b<w.heap.size:=by
      rintro b (I|⟨_,id,D,O,I⟩)
      ·exact(U.ib b I).1
      exact(U.rwlt O I).2
     have b9:∀(i:Nat) (a0:TV),args[i]? =some a0->args.any TV.hasOwn=false->a0.hasOwn=false:=by
      intro i a0 c9 l3;cases hh:a0.hasOwn
      ·rfl
      grind
     have g3:∀(i:Nat) (a':TV) (x:Value),as[i]? =some a'->xs[i]? =some x->TVR {ρ with im:=b5} w a' x:=by
      intro i a' x c8 hx;obtain⟨_,a0,c9,O⟩:=j5 i a' c8;have g4:∀(a:AC) (y:Value),CP ρ.im w a y->CP b5 w a y:=λa y hh=>CP.mono (λ_ h=> .inl h) (λ_ _=>rfl) a y hh;cases b6:args.any TV.hasOwn
      ·grind [Z67,Q8v]
      refine Zpk (aB:=aB) ?_ O (a2 a0 (df c9)) (V i a0 x c9 hx);intro b b' y I hy l4;cases b<;>simp only[AC.res]at I<;>try (simp at I;done)
      case own id w1 n1=>
       split at I
       ·rename_i D c0;simp at I;subst I;obtain⟨q1,q2,_,ys,q3,q4⟩:=U.ro id D c0;obtain⟨c1,c2,c3⟩:=hy;subst c1;exact ZF q3 (q4.mono (λ_ h=> .inl h) (λ_ _=>rfl)) (λg hg=> .inr ⟨b6,id,D,c0,hg⟩)
       grind
      all_goals
       simp at I;subst I;exact g4 _ _ hy
     have k7:Gt (λb=>b<w.heap.size) w:=Z.gt.mono λg cs _ hg=>⟨U.fs g hg,U.fr.block g hg⟩;have d0:RelE (Em (λb=>b<w.heap.size) w {ρ with im:=b5} [] k7) as [] [] {ρ with im:=b5} xs.toArray w:=by
      refine⟨by grind,λi a hi=> ?_,λa ha=> ?_,λk b hk=>by grind [Ab],λk b hk=>by grind [Ab],λk k' b b' hk=>by grind [Ab],λid r hr=>by grind [Ab],
       λid id' r r' g hr=>by grind [Ab],λk b id r hk=>by grind [Ab],λb hb=>⟨g2 b hb,λk bo hk=>by grind [Ab],λid r hr=>by grind [Ab]⟩,Fr.refl _ _,λ_ h=>h,λ_ h=>h,λb h=> .inl h,λk b hk=>by grind [Em,Ab]⟩
      ·have g5:i<xs.length:=by rw[Y,<-f1];exact(fv.1 hi).1
       have e:xs.toArray.getD i undef=xs[i]:=by simp[Array.getD,g5]
       rw[e];exact g3 i a _ hi (an g5)
      grind [List.getElem?_of_mem,JW]
     refine NI X ((k6 _ xs d0).mono ?_);rintro e w' ⟨x,ρ',he,a6⟩;have a9:Below w.heap.size w w':=⟨a6.fr.os,a6.fr.tape,a6.fr.output,a6.fr.size,λk hk=>a6.fr.block k hk⟩;have g6:TVR ρ' w' v x:=by simpa using a6.tv 0 v rfl
     by_cases b6:args.any TV.hasOwn=true
     ·have d1:v.flat=true:=by have:=b2.1;rw[b6]at this;simpa using this
      have d2:RelE Z tm aB aC ρ tmps w':=U.growIm (im':=ρ.im) a9 (λ_ h=>h) (λ_ h=> .inl h);exact⟨x,he,G v _ _ _ ρ x w' hv d2 (Zzk d1 g6) (JW b2.2)⟩
     have d2 : RelE Z tm aB aC { ρ with im := ρ'.im } tmps w' := U.growIm a9 (λb hb => a6.i0 b (.inl hb)) (λb hb => by
      rcases a6.i1 b hb with I|I
      ·rcases I with I|⟨I,_⟩
       ·grind
       grind
      exact .inr ⟨Nat.not_lt.1 I,(a6.ib b hb).1⟩)
     exact⟨x,he,G v _ _ _ _ x w' hv d2 (Q8v (ρ:=ρ') (ρ2:={ρ with im:=ρ'.im}) b2.2 (λ_ _ _ h=>h) g6) (JW b2.2)⟩
    grind
   grind
  grind
 |callM f args=>
  obtain⟨xs,Y,V,X⟩:=hp;exact Zw7 a3 U Y V X a2 h G
 |callD f args=>
  obtain⟨xs,Y,V,X⟩:=hp;exact Zr9 a3 U Y V X a2 h G
 |callF f args=>
  obtain⟨xs,Y,V,X⟩:=hp;exact Ydl a3 U Y V X a2 h G
 |appD e ks bytes s x=>grind [Prim.isApp]
def Zwp (I:AK P C) (hR:RelE Z tm aB aC ρ tmps w) {o:Oper} {a:Act} {p:Prim} (hp:J7 P ρ w a.eval o p) (N:Prim.wf aB aC p) {K:TV->St->Option R} {r:R}
  (h:Bb C o.dst p ⟨tm,aB,aC⟩ K=some r) {next:Act->World->Prop} {Q:Exit->Act->World->Prop}
  (L:∀(v:TV) (M:List TV) (D:List (Nat×Box)) (G:List (Nat×Row)) (U:Env) (x:Value) (w':World),K v ⟨M,D,G⟩=some r->RelE Z M D G U tmps w'->TVR U w' v x->TV.wf D G v->next (a.put o.dst x) w'):
  o.wp P a w next Q:=by
 cases V:Prim.isApp (some p)
 ·grind [Qiy]
 cases p<;>simp[Prim.isApp]at V
 rename_i e ks bytes s x;by_cases O:s= .nilSl
 ·subst O;simp only[Bb]at h;split at h
  ·rename_i m hm;split at h
   ·rename_i d hd;have h':Bb C o.dst (.append e ks bytes .nilSl x) ⟨tm,aB,aC⟩ (λv s=>K v ⟨s.tmps.map (TV.kill d),s.aB.map λp=>(p.1,p.2.kill d),s.aC⟩)=some r:=by
     simp only[Bb,hm,hd];split at h
     ·omega
     grind [A8]
    refine Qiy I hR (p:= .append e ks bytes .nilSl x) hp N rfl h' ?_;intro v M D G U y w' hK X hv Y;refine L _ _ _ _ U y w' hK (X.kill d) hv ?_;have a0:=λk=>FM (Box.kill d) D k;exact TV.wf_mono (λa=>AC.wf_mono (λk b hk=>⟨b.kill d,by grind⟩) (λk r hk=>⟨r,hk,rfl,rfl⟩)) Y
   grind
  grind
 have h':Bb C o.dst (.append e ks bytes s x) ⟨tm,aB,aC⟩ K=some r:=by
  simp only[Bb]at h⊢;split at h
  ·grind
  omega
 exact Qiy I hR (p:= .append e ks bytes s x) hp N rfl h' L
end
open Go.RowKit
section
variable {P:Program} {C:Cfg} {R:Type}
theorem Qb5 (op:BinOp) (k:IntKind) (a b:Int) (K:AC->Option R):H0 op k a b K=(H0 op k a b some).bind K:=by
 cases op<;>simp only[H0,aq]
 all_goals grind
theorem V0 {i:Int}:∀(n k:Nat) {R S:Type} (f:Nat->Option R) (K:R->Option S),G6 i n k (λj=>(f j).bind K)=(G6 i n k f).bind K
 |0,k,_,_,f,K=>rfl
 |n+1,k,_,_,f,K=>by
  simp only[G6];rw[V0 n (k+1) f K]
  grind
theorem Z4 (g:Int->Int->Int) (k:IntKind):∀(l:List TV) (a:Int) (K:Prim->Option R),FF g k a l K=(FF g k a l some).bind K
 |[],a,K=>by rfl
 |t::l,a,K=>by
  unfold FF;split
  ·rename_i k' b;cases kEq k k'
   ·rfl
   exact Z4 g k l (g a b) K
  rfl
theorem Z1f (b:Builtin) (D:List TypeId) (args:List TV) (K:Prim->Option R):Ko P b D args K=(Ko P b D args some).bind K:=by
 unfold Ko;split
 case h_6=>grind [Z4]
 case h_7=>grind [Z4]
 case h_8=>
  split
  ·grind
  rfl
 all_goals
  grind
theorem RS (D:Operand->TV) (dst:Option Tmp) (o:Op) (K:Prim->Option R):opK P C D dst o K=(opK P C D dst o some).bind K:=by
 cases o
 case pick c a b=>
  simp only[opK]
  grind
 case build t parts=>
  simp only[opK]
  grind
 case buildSlice t n parts=>
  simp only[opK];split
  ·grind
  rfl
 case makeSlice t len cap=>
  simp only[opK]
  grind
 case makeFunc L a b=>
  simp only[opK]
  grind
 case store t a x=>
  simp only[opK]
  grind
 case binOp op t x y M=>
  simp only[opK];split
  ·cases(kEq _ _||OO op)
   ·rfl
   simp only[am];rename_i k a k' b _ _;have G:=Qb5 op k a b (λv=>(some (Prim.val (TV.c v)):Option Prim));rw[Qb5,G]
   grind
  ·grind
  ·grind
  ·grind
  ·grind
  ·grind
  rfl
 case indexAddr t x I=>
  simp only[opK];split
  ·grind [V0]
  ·split
   ·grind
   ·grind
   ·cases(Nat.beq _ _)
    ·rfl
    simp only[am];grind [V0]
   rfl
  rfl
 case index t x I=>
  simp only[opK]
  grind [V0]
 case slice t x lo N mx=>
  simp only[opK];split
  ·split
   ·grind
   ·grind
   ·grind
   rfl
  rfl
 case call c=>
  simp only[opK]
  grind [Z1f]
 all_goals
  simp only[opK]
  repeat' split
  all_goals rfl
end
open Go.RowKit
section
variable {P:Program} {C:Cfg} {R:Type} {aB:List (Nat×Box)} {aC:List (Nat×Row)}
def L8 {α:Type} {c:Bool} {p q:α} (h:cond c (some p) none=some q):c=true/\p=q:=by grind
def Ue (k:IntKind) (n:Int):TV.wf aB aC (.c (.int k n)):=by intro a D;simp at D;subst D;trivial
def F0 (b:Bool):TV.wf aB aC (.c (.bool b)):=by intro a D;simp at D;subst D;trivial
theorem CJ {a:AC} (h:AC.wf aB aC a):TV.wf aB aC (.c a):=by intro b hb;grind
def Fl {a:AC} (h:TV.wf aB aC (.c a)):AC.wf aB aC a:=h a (by simp)
theorem Qtf (v:Value):AC.wf aB aC (ON v):=by
 unfold ON;split<;>trivial
theorem Qe5:∀(l:List Value) (cs:List AC),Js l=some cs->∀a∈cs,AC.wf aB aC a
 |[],cs,h=>by grind [Js]
 |v::l,cs,h=>by
  simp only[Js]at h;cases I:v.oneCell'<;>rw[I]at h
  ·grind
  simp only[am]at h;split at h
  ·rename_i G L;simp at h;subst h;intro a D;simp only[be]at D;rcases D with rfl|D
   ·exact Qtf v
   exact Qe5 l G L a D
  grind
def Zpz (v:Value):TV.wf aB aC (ofValue v):=by
 unfold ofValue;split
 ·split
  ·rename_i h;exact Qe5 _ _ h
  trivial
 ·trivial
 grind [CJ,Qtf]
def Qao {tm:List TV} (h:∀v∈tm,TV.wf aB aC v) (x:Operand):TV.wf aB aC (AL tm x):=by
 cases x with
 |tmp t=>
  simp only[AL,Ca,List.getD];cases D:tm[t]? with
  |none=>trivial
  |some v=>grind
 |const v=>exact Zpz v
 |global=>trivial
 |func=>trivial
theorem Wj {t:TypeId} {cs:List AC} (h:J4 P t=some cs):∀a∈cs,AC.wf aB aC a:=by grind [J4,Qe5]
theorem Zll {z:List AC} (D:∀a∈z,AC.wf aB aC a):∀n,∀a∈chunk z n,AC.wf aB aC a
 |0,a,h=>by grind [chunk]
 |n+1,a,h=>by
  simp only[chunk,bt]at h;rcases h with h|h
  ·grind
  exact Zll D n a h
def TV.cells_wf {v:TV} {cs:List AC} (h:v.cells=some cs) (D:TV.wf aB aC v):∀a∈cs,AC.wf aB aC a:=by
 cases v<;>simp[TV.cells]at h
 subst h;exact D
def W9 {α:Type} {x:α}:∀(l:List α) (o:Nat) (D:List α),x∈splice l o D->x∈l\/x∈D
 |l,o,[],h=>by grind [Qg8]
 |[],o,_::_,h=>by grind [splice]
 |y::l,0,v::D,h=>by
  simp only[splice,be]at h;rcases h with rfl|h
  ·simp
  rcases W9 l 0 D h with h|h
  ·grind
  grind
 |y::l,o+1,v::D,h=>by
  simp only[splice,be]at h;rcases h with rfl|h
  ·simp
  rcases W9 l o (v::D) h with h|h
  ·grind
  grind
def XD {place:Nat->Option (Nat×Nat)}:∀(parts:List (Nat×TV)) (z cs:List AC),GI place z parts=some cs->(∀a∈z,AC.wf aB aC a)->(∀p∈parts,TV.wf aB aC p.2)->∀a∈cs,AC.wf aB aC a
 |[],z,cs,h,I,_=>by grind [GI]
 |(i,v)::parts,z,cs,h,I,G=>by
  simp only[GI]at h;split at h
  ·rename_i off size l L M;cases hb:(Nat.beq l.length size&&Nat.ble (off+size) z.length)<;>rw[hb]at h
   ·grind
   refine XD parts _ _ h (λa D=> ?_) (λp N=>G p (by grind));rcases W9 _ _ _ D with D|D
   ·grind
   exact TV.cells_wf M (G (i,v) (by simp)) a D
  grind
def T1 {G:Operand->TV} (D:∀x,TV.wf aB aC (G x)):∀(l:List (Nat×Operand)),∀p∈FY G l,TV.wf aB aC p.2
 |[],p,h=>by grind [FY]
 |x::l,p,h=>by
  simp only[FY,be]at h;rcases h with rfl|h
  ·grind
  exact T1 D l p h
theorem Qz {G:Operand->TV} (D:∀x,TV.wf aB aC (G x)):∀(l:List Operand),∀v∈B_ G l,TV.wf aB aC v
 |[],p,h=>by grind [B_]
 |x::l,p,h=>by
  simp only[B_,be]at h;rcases h with rfl|h
  ·grind
  exact Qz D l p h
theorem SP {g:Bool} {sz off:Nat} {cells:List AC} {v:TV} (h:DO g sz cells off=some v) (I:∀a∈cells,AC.wf aB aC a):TV.wf aB aC v:=by
 unfold DO at h;cases g
 ·simp only[bn]at h
  grind [CJ]
 simp only[am]at h;cases D:Nat.ble (off+sz) cells.length<;>rw[D]at h
 ·grind
 simp at h;subst h;intro c G;exact I c (fh (gw G))
def Qs0 {t:TypeId} {cs:List AC} {off:Nat} {v:TV} (h:O6 P t cs off=some v) (D:∀a∈cs,AC.wf aB aC a):TV.wf aB aC v:=by grind [O6,SP]
def Zwn {op:BinOp} {k:IntKind} {a b:Int} {c:AC} (h:H0 op k a b some=some c):AC.wf aB aC c:=by
 cases op<;>simp only[H0]at h
 case quo=>cases hb:decide (b=0)<;>rw[hb]at h<;>simp at h;subst h;trivial
 case rem=>cases hb:decide (b=0)<;>rw[hb]at h<;>simp at h;subst h;trivial
 case shl=>cases hb:decide (b<0)<;>rw[hb]at h<;>simp at h;subst h;trivial
 case shr=>cases hb:decide (b<0)<;>rw[hb]at h<;>simp at h;subst h;trivial
 all_goals (simp at h;subst h;trivial)
theorem Qc0 (g:Int->Int->Int) (k:IntKind):∀(l:List TV) (a:Int) (p:Prim),FF g k a l some=some p->Prim.wf aB aC p
 |[],a,p,h=>by simp[FF]at h;subst h;exact Ue _ _
 |t::l,a,p,h=>by
  unfold FF at h;split at h
  ·rename_i k' b;cases D:kEq k k'<;>rw[D]at h
   ·grind
   exact Qc0 g k l _ p h
  grind
theorem Zry (k:Kd) (a:AC):(NR k a).calm=true:=by
 cases k<;>try rfl
 cases a<;>rfl
def Zjk:∀(ks:List Kd) (cs:List AC) (j:Nat),Al AC.calm (EZ ks cs j)=true
 |[],_,_=>rfl
 |k::ks,cs,j=>by simp only[EZ,Al,Zry,am];exact Zjk ks cs (j+1)
theorem Qwo {cs:List AC} (h:Al AC.calm cs=true):∀a∈cs,AC.wf aB aC a:=by
 intro a D;have:=Au.1 h a D;cases a<;>first|trivial|(simp[AC.calm]at this)
def Qei:∀{l:List TV} {as:List AC},Kg l=some as->(∀v∈l,TV.wf aB aC v)->∀a∈as,AC.wfP aB a
 |[],as,h,_=>by grind [Kg]
 |v::l,as,h,D=>by
  unfold Kg at h;split at h
  ·grind
  ·rename_i a L heq;simp only[gf]at heq;obtain⟨rfl,rfl⟩:=heq;cases G:a.clOk<;>rw[G]at h
   ·grind
   simp only[am]at h;split at h
   ·rename_i r I;simp at h;subst h;intro b hb;simp only[be]at hb;rcases hb with rfl|hb
    ·have:=D (.c b) (by simp) b (by simp);cases b<;>first|exact this|trivial
    exact Qei I (λv M=>D v (by grind)) b hb
   grind
  grind
def Qbk {ev:Operand->TV} (G:∀x,TV.wf aB aC (ev x)) {dst:Option Tmp} {o:Op} {p:Prim} (h:opK P C ev dst o some=some p):Prim.wf aB aC p:=by
 cases o<;>simp only[opK]at h<;>try (simp at h;done)
 case move x=>simp at h;subst h;exact G x
 case assign x=>simp at h;subst h;exact G x
 case pick c a b=>
  split at h
  ·rename_i g _;cases g<;>simp at h<;>subst h
   ·exact G b
   exact G a
  grind
 case alloc t=>
  split at h
  ·rename_i cs X;simp at h;subst h;exact Wj X
  grind
 case box t x=>
  split at h
  ·rename_i cs hc;simp at h;subst h;exact TV.cells_wf hc (G x)
  grind
 case build t parts=>
  split at h
  ·rename_i z fs X hu;cases Y:(Al (Nh P) fs.toList)<;>rw[Y]at h
   ·grind
   simp only[am]at h;split at h
   ·rename_i cs hb;simp at h;subst h;exact XD _ _ _ hb (Wj X) (T1 G _)
   grind
  ·rename_i z n el X hu;split at h
   ·split at h
    ·rename_i cs hb;simp at h;subst h;exact XD _ _ _ hb (Wj X) (T1 G _)
    grind
   grind
  grind
 case buildSlice t n parts=>
  split at h
  ·split at h
   ·cases hb:(Nat.beq _ _&&Nat.beq _ _&&Nat.ble 1 _&&Nat.ble _ 65536)<;>rw[hb]at h
    ·grind
    simp only[am]at h;split at h
    ·rename_i X _ _ cs a1;split at h
     ·cases a2:ZM C dst n<;>rw[a2]at h<;>simp at h<;>subst h<;>trivial
     cases V:(Al AC.isClo cs&&Nat.beq _ 1)<;>rw[V]at h
     ·grind
     simp only[am]at h;simp at h;subst h;refine XD _ _ _ a1 (λa O=> ?_) (T1 G _)
     grind [Zll,Wj]
    grind
   grind
  grind
 case makeSlice t len cap=>
  split at h
  ·split at h
   ·split at h
    ·cases hb:(Nat.beq _ _&&Nat.ble 1 _&&Nat.ble 1 _)<;>rw[hb]at h
     ·grind
     simp only[am]at h;obtain⟨_,rfl⟩:=L8 h;trivial
    grind
   grind
  grind
 case makeFunc fn a b=>
  split at h
  ·split at h
   ·rename_i fs cs a3 a4;simp at h;subst h;exact CJ ⟨Qei a3 (Qz G _),Qei a4 (Qz G _)⟩
   grind
  grind
 case load t a=>
  split at h
  ·have O:=G a;split at h
   ·rename_i key off D;simp at h;subst h;rw[D]at O;exact Fl O
   ·rename_i cells sub D;split at h
    ·rename_i v N;simp at h;subst h;rw[D]at O;exact SP N (Qwo (Fl O))
    grind
   ·rename_i id idx sub D;simp at h;subst h;rw[D]at O;exact Fl O
   grind
  grind
 case store t a x=>
  split at h
  ·rename_i sz cs hs hc;cases hb:(Nat.beq cs.length sz)<;>rw[hb]at h
   ·grind
   simp only[am]at h;have O:=G a;split at h
   ·rename_i key off D;simp at h;subst h;rw[D]at O;exact⟨Fl O,TV.cells_wf hc (G x)⟩
   ·rename_i id idx sub D;simp at h;subst h;rw[D]at O;exact Fl O
   grind
  grind
 case nilCheck x=>
  have I:=G x;split at h
  all_goals first|(simp at h;done)|(rename_i D;simp at h;subst h;rw[D]at I;exact I)
 case binOp op t x y yt=>
  split at h
  ·cases hk:(kEq _ _||OO op)<;>rw[hk]at h
   ·grind
   simp only[am]at h;rename_i k a k' b _ _;rw[Qb5]at h;cases hi:H0 op k a b some with
   |none=>grind
   |some c=>rw[hi]at h;simp at h;subst h;exact CJ (Zwn hi)
  ·split at h
   ·simp at h;subst h;exact F0 _
   ·simp at h;subst h;exact F0 _
   grind
  ·split at h
   ·simp at h;subst h;exact F0 _
   ·simp at h;subst h;exact F0 _
   ·rename_i a b _ _ _;cases hb:Nat.ble (a.size+b.size) 9223372036854775807<;>rw[hb]at h
    ·grind
    simp at h;subst h;exact CJ trivial
   grind
  ·split at h
   ·simp at h;subst h;exact F0 _
   ·simp at h;subst h;exact F0 _
   grind
  ·split at h
   ·simp at h;subst h;exact F0 _
   ·simp at h;subst h;exact F0 _
   grind
  ·cases hg:P.eqGuardType P.depth t<;>rw[hg]at h
   ·simp only[bn]at h;split at h
    ·simp at h;subst h;exact F0 _
    ·simp at h;subst h;exact F0 _
    grind
   grind
  grind
 case unOp a5 t x=>
  split at h
  ·simp at h;subst h;exact Ue _ _
  ·simp at h;subst h;exact F0 _
  grind
 case convert src dst x=>
  split at h
  ·simp at h;subst h;exact Ue _ _
  grind
 case fieldAddr t x i=>
  split at h
  ·split at h
   ·have I:=G x;split at h
    ·rename_i D;simp at h;subst h;rw[D]at I;have q:=Fl I;exact CJ q
    ·rename_i D;simp at h;subst h;rw[D]at I;have q:=Fl I;exact CJ q
    ·rename_i D;simp at h;subst h;rw[D]at I;have q:=Fl I;exact CJ q
    grind
   grind
  grind
 case field t x i=>
  split at h
  ·rename_i f cs hf D;split at h
   ·rename_i v hp;simp at h;subst h;have I:=G x;rw[D]at I;exact Qs0 hp I
   grind
  grind
 case indexAddr t x ix=>
  split at h
  ·have I:=G x;split at h
   ·rename_i D;obtain⟨j,L,_⟩:=Il h;simp at L;subst L;rw[D]at I;have q:=Fl I;exact CJ q
   ·rename_i D;obtain⟨j,L,_⟩:=Il h;simp at L;subst L;rw[D]at I;have q:=Fl I;exact CJ q
   ·rename_i D;obtain⟨j,L,_⟩:=Il h;simp at L;subst L;rw[D]at I;have q:=Fl I;exact CJ q
   grind
  ·have I:=G x;split at h
   ·rename_i m ks l hm D;cases hb:Nat.beq m ks.length<;>rw[hb]at h
    ·grind
    simp only[am]at h;obtain⟨_,rfl⟩:=L8 h;exact CJ (Zjk _ _ _)
   ·rename_i m id wd n hm D;cases hb:Nat.beq m wd<;>rw[hb]at h
    ·grind
    simp only[am]at h;obtain⟨hd,rfl⟩:=L8 h;rw[D]at I;obtain⟨r,L,h2,h3⟩:=Fl I;simp at hd;exact CJ ⟨r,L,by omega⟩
   ·rename_i m key n hm D;cases hb:Nat.beq m 1<;>rw[hb]at h
    ·grind
    simp only[am]at h;obtain⟨j,L,_⟩:=Il h;simp at L;subst L;rw[D]at I;have q:=Fl I;exact CJ q
   grind
  grind
 case index t x ix=>
  split at h
  ·rename_i i n el cs hi hu D;split at h
   ·obtain⟨j,L,_⟩:=Il h;have I:=G x;rw[D]at I;split at L
    ·rename_i v hp;simp at L;subst L;exact Qs0 hp I
    grind
   grind
  grind
 case slice t x lo hi mx=>
  split at h
  ·split at h
   ·rename_i m ks l hm D;cases hb:Nat.beq m ks.length<;>rw[hb]at h
    ·grind
    simp only[am]at h;split at h
    ·simp at h;subst h;exact CJ trivial
    all_goals
     obtain⟨_,rfl⟩:=L8 h;exact CJ trivial
   ·split at h
    ·cases hb:Nat.beq _ _<;>rw[hb]at h
     ·grind
     simp only[am]at h;obtain⟨_,rfl⟩:=L8 h;trivial
    grind
   ·split at h
    ·simp at h;subst h;exact CJ trivial
    all_goals
     obtain⟨_,rfl⟩:=L8 h;exact CJ trivial
   grind
  grind
 case extract t i=>
  have ht:=G t;split at h
  ·rename_i ps D;split at h
   ·rename_i g cs hg;simp at h;subst h;rw[D]at ht;exact ht (g,cs) (df hg)
   grind
  grind
 case call c=>
  split at h
  ·rename_i b hb;have M:=Qz G c.args.toList
   revert M h
   generalize B_ ev c.args.toList=args;intro h M;unfold Ko at h;split at h
   case h_6=>grind [Qc0]
   case h_7=>grind [Qc0]
   case h_8=>
    rename_i s x
    repeat' split at h
    all_goals try (simp at h;done)
    obtain⟨_,rfl⟩:=L8 h;exact⟨Fl (M _ (by simp)),Fl (M _ (by simp))⟩
   all_goals
    repeat' split at h
    all_goals first|(simp at h;done)|(simp at h;subst h;exact Ue _ _)
  ·rename_i f hf;cases hp:C.pure f<;>rw[hp]at h<;>simp at h<;>subst h<;>exact Qz G _
  ·rename_i t ht;split at h
   ·rename_i f fs cs V;cases U:(Al AC.clOk fs&&Al AC.clOk cs)<;>rw[U]at h
    ·grind
    simp only[am,bm]at h;subst h;simp only[ak]at U;have N:=G (.tmp t);rw[V]at N;have hq:=Fl N;have a0:∀l:List AC,(∀a∈l,AC.wfP aB a)->Al AC.clOk l=true->∀v∈l.map TV.c,TV.wf aB aC v:=by
     intro l L h2 v N;simp only[bj]at N;obtain⟨a,O,rfl⟩:=N;have q1:=L a O;have q2:=Au.1 h2 a O;cases a<;>first|exact CJ q1|grind [AC.clOk]|exact CJ trivial
    intro v N;rcases bt.1 N with N|N
    ·exact a0 fs hq.1 U.1 v N
    rcases bt.1 N with N|N
    ·grind [Qz]
    exact a0 cs hq.2 U.2 v N
   grind
  grind
end
open Go.RowKit
def Rel (Z:Base) (s:St) (tmps:Array Value) (w:World):Prop:=∃ρ,RelE Z s.tmps s.aB s.aC ρ tmps w
section
variable {P:Program} {C:Cfg} {w:World} {R:Type} {Z:Base}
theorem RelE.put {ρ:Env} {tm:List TV} {aB:List (Nat×Box)} {aC:List (Nat×Row)} {tmps:Array Value} (h:RelE Z tm aB aC ρ tmps w) (d:Nat) {v:TV} {x:Value} (I:TVR ρ w v x) (L:TV.wf aB aC v):
  RelE Z (setL tm d v) aB aC ρ (tmps.setIfInBounds d x) w:=by
 rw[Jc];refine⟨by simp[h.tl],λi u D=> ?_,λu G=> ?_,h.wb,h.bx,h.bi,h.ro,h.ri,h.br,h.ib,h.fr,h.fs,h.i0,h.i1,h.k0⟩
 ·rw[List.getElem?_set]at D;by_cases hid:d=i
  ·simp_all [h.tl]
  rw[ab hid]at D;have:=h.tv i u D;simp_all
 rcases gn G with G|rfl
 ·exact h.wt u G
 omega
def RelE.learn {ρ:Env} {tm:List TV} {aB:List (Nat×Box)} {aC:List (Nat×Row)} {tmps:Array Value} (h:RelE Z tm aB aC ρ tmps w) (d:Nat) {v:TV} (I:TVR ρ w v (tmps.getD d undef)) (L:TV.wf aB aC v):
  RelE Z (setL tm d v) aB aC ρ tmps w:=by
 rw[Jc];refine⟨by simp[h.tl],λi u D=> ?_,λu G=> ?_,h.wb,h.bx,h.bi,h.ro,h.ri,h.br,h.ib,h.fr,h.fs,h.i0,h.i1,h.k0⟩
 ·rw[List.getElem?_set]at D;by_cases hid:d=i
  ·grind
  rw[ab hid]at D;exact h.tv i u D
 rcases gn G with G|rfl
 ·exact h.wt u G
 omega
theorem FN (s:St) (d:Option Tmp) (v:TV) (K:St->Option R):put s d v K=K (match d with|none=>s|some t=>⟨setL s.tmps t v,s.aB,s.aC⟩):=by
 obtain⟨tm,aB,aC⟩:=s
 grind [put,A8]
def Wn {ρ:Env} {tm:List TV} {aB:List (Nat×Box)} {aC:List (Nat×Row)} {a:Act} (h:RelE Z tm aB aC ρ a.tmps w) (x:Operand):TVR ρ w (AL tm x) (a.eval x):=by
 cases x with
 |tmp t=>
  simp only[AL,Ca,List.getD];cases D:tm[t]? with
  |none=>trivial
  |some v=>exact h.tv t v D
 |const v=>exact Ya5 v
 |global=>trivial
 |func=>trivial
theorem WD:∀(l:List Nat) (s:St) (tmps:Array Value),Rel Z s tmps w->∀(K:St->Option R) (r:R),Je l s K=some r->∃I,K I=some r/\Rel Z I tmps w
 |[],s,tmps,D,K,r,h=>⟨s,h,D⟩
 |id::l,s,tmps,D,K,r,h=>by
  simp only[Je]at h;split at h
  ·rename_i L G;simp only[A8]at h;obtain⟨ρ,D⟩:=D;exact WD l _ tmps ⟨_,D.freeze G⟩ K r h
  exact WD l _ tmps D K r h
def Ydm {k o:Nat} {e:TypeId} {s:St} {tmps:Array Value} (D:Rel Z s tmps w) {K:St->Option R} {r:R} (h:N_ P k o e s K=some r):∃I,K I=some r/\Rel Z I tmps w:=by
 obtain⟨tm,aB,aC⟩:=s;obtain⟨ρ,D⟩:=D;simp only[N_]at h;split at h
 ·rename_i b L;split at h
  ·rename_i M;split at h
   ·rename_i ks N;cases G:(Nat.ble 1 ks.length&&LL aC (1000000+1000*k+o))<;>rw[G]at h
    ·grind
    simp only[A8]at h;simp only[ak]at G;exact⟨_,h,_,D.promB L M (Qfq G.2) (bc G.1)⟩
   grind
  exact⟨_,h,ρ,D⟩
 exact⟨_,h,ρ,D⟩
def Qp6:∀(l:List (Nat×Nat×TypeId)) (s:St) (tmps:Array Value),Rel Z s tmps w->∀(K:St->Option R) (r:R),KW P l s K=some r->∃D,K D=some r/\Rel Z D tmps w
 |[],s,tmps,G,K,r,h=>⟨s,h,G⟩
 |(k,o,e)::l,s,tmps,G,K,r,h=>by
  obtain⟨D,h',I⟩:=Ydm G h;exact Qp6 l D tmps I K r h'
def Rz:∀(l:List (Nat×TypeId)) (s:St) (tmps:Array Value),Rel Z s tmps w->∀(K:St->Option R) (r:R),JI P l s K=some r->∃N,K N=some r/\Rel Z N tmps w
 |[],s,tmps,G,K,r,h=>⟨s,h,G⟩
 |(t,e)::l,s,tmps,G,K,r,h=>by
  obtain⟨tm,aB,aC⟩:=s;simp only[JI]at h;split at h
  ·rename_i hn;split at h
   ·rename_i ks D U;cases O:Nat.ble 1 ks.length<;>rw[O]at h
    ·grind
    simp only[A8]at h;refine Rz l _ tmps ?_ K r h;obtain⟨ρ,G⟩:=G;have L:=G.addRow D (r:=⟨e,ks,[]⟩) (v':= .slice none 0 0) (w':=w) (Below.refl _ _) (bc O) (YV w e ks.length) ⟨by simp,by simp,λi c hi=>by grind⟩ (λg hg=>by grind [Value.ownBlock]);refine⟨_,L.learn t ?_ (CJ ⟨_,EU _ _ _ D,rfl,rfl⟩)⟩;have V:tmps.getD t undef= .slice none 0 0:=by
     have M:t<tm.length:=by
      rcases jy t tm.length with X|Y
      ·omega
      grind [Ca]
     have I:tm[t]? =some (.c .nilSl):=by
      rw[Ca,List.getD]at hn;rw[an M]at hn⊢;simpa using hn
     have:=(G.tv t _ I).c;simpa [CC,CP]using this
    rw[V];exact TVR.c' ⟨by grind [B5],by grind [B5], .inl ⟨rfl,rfl⟩⟩
   grind
  exact Rz l _ tmps G K r h
theorem Oa {s:St} {tmps:Array Value} (L:Rel Z s tmps w) {K:St->Option R} {r:R} (h:Jm P C s K=some r):∃G,K G=some r/\Rel Z G tmps w:=by
 obtain⟨G,h',ρ,D⟩:=Qp6 _ s tmps L _ r h;simp only[A8]at h';refine Rz _ _ tmps ?_ K r h';refine⟨ρ,?_⟩;refine D.reBox (g:=λ_ b=>U5 P b) (λ_ b=> ?_) λk b I=> ?_
 ·grind [U5]
 unfold U5;split
 ·rename_i ks _;exact⟨λxs h=>LN ks b.cells xs h,O0 ks b.cells (D.wb k b I)⟩
 exact⟨λxs h=>h,D.wb k b I⟩
def Yac {o:Op} {s:St} {tmps:Array Value} (G:Rel Z s tmps w) {K:St->Option R} {r:R} (h:J1 P C o s K=some r):∃D,K D=some r/\Rel Z D tmps w:=by grind [J1,WD,Oa]
def Yb8 {pre:Bool} {ρ:Env} {e:Operand->Value} {o:Oper} {p:Prim} (h:J7 P ρ w e o p):J7 P ρ w e o (p.dr pre):=by
 cases pre<;>cases p<;>first|exact h|(simp only[Prim.dr];cases Al TV.plainB _<;>exact h)
def ZR {pre:Bool} {bx:List (Nat×Box)} {aC:List (Nat×Row)} {p:Prim} (h:Prim.wf bx aC p):Prim.wf bx aC (p.dr pre):=by
 cases pre<;>cases p<;>first|exact h|(simp only[Prim.dr];cases Al TV.plainB _<;>exact h)
def Zio (D:AK P C) (V:∀t∈C.eqOk,P.stoodInHeld t=false) {s:St} {o:Oper} {a:Act} (I:Rel Z s a.tmps w) {K:Option Prim->St->Option R} {r:R}
  {pre:Bool} (h:(opK P C (AL s.tmps) o.dst o.op λp=>Bb C o.dst (p.dr pre) s λv O=>put O o.dst v (K (some (p.dr pre))))=some r) {next:Act->World->Prop} {Q:Exit->Act->World->Prop}
  (G:∀(po:Option Prim) (O:St) (X:Act) (w':World),K po O=some r->Rel Z O X.tmps w'->(∃x,X=a.put o.dst x)->next X w'):o.wp P a w next Q:=by
 obtain⟨ρ,I⟩:=I;obtain⟨tm,aB,aC⟩:=s;have Y:=λx=>Wn I x;rw[RS]at h;cases hp:opK P C (AL tm) o.dst o.op some with
 |none=>grind
 |some p=>
  rw[hp]at h;simp at h;obtain⟨p',L,M⟩:=Zo2 V Y (λf=>rfl) o hp;simp at L;subst L;have a0:=Qbk (λx=>Qao I.wt x) hp;refine Zwp D I (Yb8 M) (ZR a0) h ?_;intro v a3 U a1 ρ' x w' hK N hv a2;rw[FN]at hK;refine G (some (p'.dr pre)) _ _ w' hK ?_ ?_
  ·cases hd:o.dst with
   |none=>exact⟨ρ',N⟩
   |some d=>exact⟨ρ',N.put d hv a2⟩
  grind
def YL (D:AK P C) (I:∀t∈C.eqOk,P.stoodInHeld t=false) {pre:Bool} {s:St} {o:Oper} {a:Act} (O:Rel Z s a.tmps w) {K:Option Prim->St->Option R} {r:R}
  (h:((bif pre then J1 P C o.op s else λK=>K s) λs=>opK P C (AL s.tmps) o.dst o.op λp=>Bb C o.dst (p.dr pre) s λv L=>put L o.dst v (K (some (p.dr pre))))=some r) {next:Act->World->Prop} {Q:Exit->Act->World->Prop}
  (G:∀(U:Option Prim) (L:St) (M:Act) (w':World),K U L=some r->Rel Z L M.tmps w'->(∃x,M=a.put o.dst x)->next M w'):o.wp P a w next Q:=by
 cases pre
 ·exact Zio D I O h G
 obtain⟨L,h',N⟩:=Yac O h;exact Zio D I N h' G
def Qw6 (I:AK P C) (X:∀t∈C.eqOk,P.stoodInHeld t=false) {pre:Bool} {ops:Array Oper} {s:St} {o:Oper} {a:Act} (hR:Rel Z s a.tmps w) {K:Option Prim->St->Option R} {r:R}
  (h:FC P C pre ops.toList o s K=some r) {next:Act->World->Prop} {Q:Exit->Act->World->Prop}
  (D:∀(po:Option Prim) (s':St) (a':Act) (w':World),K po s'=some r->Rel Z s' a'.tmps w'->(∃x,a'=a.put o.dst x)->next a' w'):
  if Region.wanted o (yielded ops a.tmps)=true then o.wp P a w next Q else next (a.put o.dst undef) w:=by
 have Y:∀s':St,Rel Z s' a.tmps w->put s' o.dst (.tup []) (K none)=some r->next (a.put o.dst undef) w:=by
  intro s' G hp;rw[FN]at hp;refine D none _ _ w hp ?_ ⟨_,rfl⟩;obtain⟨ρ,G⟩:=G;cases hd:o.dst with
  |none=>exact⟨ρ,G⟩
  |some d=>exact⟨ρ,G.put d ⟨#[],rfl,trivial⟩ (λp hp=>by grind)⟩
 unfold FC Rc at h;cases hg:o.guard with
 |none=>
  rw[hg]at h;rw[ac (by simp[Region.wanted,hg])];exact YL I X hR h D
 |some jw=>
  obtain⟨j,want⟩:=jw;rw[hg]at h;simp only at h;split at h
  ·rename_i oj hj;split at h
   ·rename_i t ht;split at h
    ·rename_i g L;obtain⟨ρ,M⟩:=hR;have O:t<s.tmps.length:=by
      rcases jy t s.tmps.length with a3|a4
      ·omega
      grind [Ca]
     have N:s.tmps[t]? =some (.c (.bool g)):=by
      rw[Ca,List.getD]at L;rw[an O]at L⊢;simpa using L
     have U:=(M.tv t _ N).bool;have V:t<a.tmps.size:=by rw[<-M.tl];exact O
     have a0:a.tmps[t]? =some (.bool g):=by
      rw[Array.getElem?_eq_getElem V];rw[Array.getD,dif_pos V]at U;simpa using U
     have hy:yielded ops a.tmps j=some g:=by
      unfold yielded;have a1:ops[j]? =some oj:=by simpa using hj
      simp[a1,ht,a0]
     have hl:∀b,g=b->Rel Z ⟨setL s.tmps t (.c (.bool b)),s.aB,s.aC⟩ a.tmps w:=by
      rintro b rfl;exact⟨ρ,M.learn t (by grind [TVR.mkBool]) (F0 _)⟩
     have hw:Region.wanted o (yielded ops a.tmps)=(g==want):=by
      simp only[Region.wanted,hg,hy];cases g<;>cases want<;>rfl
     cases g
     ·simp only[bn]at h;rw[FN]at h;dsimp only at h;have G:=hl false rfl;cases want
      ·rw[ac (by grind)];simp only[bn]at h;exact YL I X G h D
      grind
     simp only[am]at h;rw[FN]at h;dsimp only at h;have G:=hl true rfl;cases want
     ·grind
     rw[ac (by grind)];simp only[am]at h;exact YL I X G h D
    ·rename_i L;obtain⟨ρ,M⟩:=hR;have O:t<s.tmps.length:=by
      rcases jy t s.tmps.length with a3|a4
      ·omega
      grind [Ca]
     have N:s.tmps[t]? =some (.tup []):=by
      rw[Ca,List.getD]at L;rw[an O]at L⊢;simpa using L
     obtain⟨ys,a2,U⟩:=M.tv t _ N;have V:t<a.tmps.size:=by rw[<-M.tl];exact O
     have a0:a.tmps[t]? =some (.tuple ys):=by
      rw[Array.getElem?_eq_getElem V];rw[Array.getD,dif_pos V]at a2;simpa using a2
     have hy:yielded ops a.tmps j=none:=by
      unfold yielded;have a1:ops[j]? =some oj:=by simpa using hj
      simp[a1,ht,a0]
     have hw:Region.wanted o (yielded ops a.tmps)=false:=by
      simp only[Region.wanted,hg,hy];rfl
     rw[ab (by grind)];exact Y _ ⟨ρ,M⟩ h
    grind
   grind
  grind
def Y5 (D:AK P C) (M:∀t∈C.eqOk,P.stoodInHeld t=false) {pre:Bool} {ops:Array Oper} {s:St} {o:Oper} {a:Act} (O:Rel Z s a.tmps w) {K:Option Prim->St->Option R} {r:R}
  (h:FC P C pre ops.toList o s K=some r) {next:Act->World->Prop} {Q:Exit->Act->World->Prop}
  (G:∀(N:Option Prim) (L:St) (I:Act) (w':World),K N L=some r->Rel Z L I.tmps w'->I.defers=a.defers->next I w'):
  if Region.wanted o (yielded ops a.tmps)=true then o.wp P a w next Q else next (a.put o.dst undef) w:=
 Qw6 D M O h λN L I w' U V ⟨x,X⟩=>G N L I w' U V (by subst X;cases o.dst<;>rfl)
def Qgu (D:AK P C) (G:∀t∈C.eqOk,P.stoodInHeld t=false) {ops:Array Oper} {Q:Exit->Act->World->Prop} {K:St->Option R} {r:R}:
  ∀(l:List Oper) (s:St) (a:Act) (w:World),Rel Z s a.tmps w->K_ P C ops.toList l s K=some r->
  (∀(L:St) (I:Act) (w':World),K L=some r->Rel Z L I.tmps w'->I.defers=a.defers->Q .normal I w')->wpList P ops Q l a w
 |[],s,a,w,M,h,N=>N s a w h M rfl
 |o::l,s,a,w,M,h,N=>by
  have:=Y5 (Q:=Q) D G M h (λpo L I w' U O hd=>Qgu D G l L I w' O U (λs2 a2 V X Y h3=>N s2 a2 V X Y (h3.trans hd)));simp only[wpList]
  grind
end
open Go.RowKit
def T2 (s:St) (d:Option Tmp) (v:TV):St:=
 match d with
 |none=>s
 |some t=>⟨setL s.tmps t v,s.aB,s.aC⟩
section
variable {P:Program} {C:Cfg} {w:World} {R:Type} {Z:Base}
theorem NN (s:St) (d:Option Tmp) (v:TV) (K:St->Option R):put s d v K=K (T2 s d v):=FN s d v K
def As (dst:Option Tmp) (p:Prim) (aB:List (Nat×Box)) (aC:List (Nat×Row)):Option (TV×List (Nat×Box)):=
 match p with
 | .val v=>some (v,aB)
 | .load g sz key off=>match Ab aB key with
  |some b=>match DO g sz b.cells off with
   |some v=>some (v,aB)
   |none=>none
  |none=>none
 | .store key off cs=>match Ab aB key with
  |some b=>if Nat.ble (off+cs.length) b.cells.length then some (.vD,upd aB key ⟨b.ty,splice b.cells off cs⟩)else none
  |none=>none
 | .new ty cs=>match dst with
  |some d=>match Ab aB d with
   |some _=>none
   |none=>some (.c (.ptr d 0),ins aB d ⟨ty,cs⟩)
  |none=>none
 | .newView _ ks l=>some (.c (.vC ks l),aB)
 | .rload g sz id idx sub=>match Ab aC id with
  |some r=>match DO g sz (r.f idx) sub with
   |some v=>some (v,aB)
   |none=>none
  |none=>none
 | .call f args=>match C.spec f with
  |some g=>match F1 aC args with
   |some l=>match g (TV×Mem) l ⟨[],[]⟩ (λv m=>some (v,m))with
    |some (v,⟨[],[]⟩)=>if((!(args.any TV.hasOwn)||v.flat)&&v.plainB)=true then some (v,aB)else none
    |_=>none
   |none=>none
  |none=>none
 | .callD f args=>match C.spec f with
  |some g=>
   if(Al (TV.inK (Bi (cat AC.keys (cat TV.cellsOf args)) []) []) args&&Al (λk=>Al AC.calm (EX aB k)) (Bi (cat AC.keys (cat TV.cellsOf args)) [])&&Ck (Bi (cat AC.keys (cat TV.cellsOf args)) []))=true then
    match Dk aB (λk=>base+pos (Bi (cat AC.keys (cat TV.cellsOf args)) []) k) (λi=>base+pos [] i) base (Bi (cat AC.keys (cat TV.cellsOf args)) [])with
    |some G=>match g (TV×Mem) (args.map (TV.ren (λk=>base+pos (Bi (cat AC.keys (cat TV.cellsOf args)) []) k) (λi=>base+pos [] i))) ⟨G,[]⟩ (λv m=>some (v,m))with
     |some (v,⟨D,[]⟩)=>
      if(Al (λp:Nat×Box=>Gi D p.1) G&&Al (λp:Nat×Box=>Gi G p.1) D&&Ck (D.map (·.1))&&Al (λp:Nat×Box=>Al AC.calm p.2.cells) D&&v.plainB)=true then
       some (v,DH (Bi (cat AC.keys (cat TV.cellsOf args)) []) D aB)
      else none
     |_=>none
    |none=>none
   else none
  |none=>none
 |_=>none
theorem Zyo (D:AK P C) {dst:Option Tmp} {p:Prim} (L:Prim.simple (some p)=true) (M:Prim.isApp (some p)=false) (N:Prim.isMk (some p)=false) (s:St) (K:TV->St->Option R):
  Bb C dst p s K=(As (C:=C) dst p s.aB s.aC).bind λq=>K q.1 ⟨s.tmps,q.2,s.aC⟩:=by
 obtain⟨tm,aB,aC⟩:=s;cases p<;>simp only[Prim.simple]at L<;>try (simp at L;done)
 case appD=>grind [Prim.isApp]
 case callF=>grind [Prim.isMk]
 case newRow=>grind [Prim.isMk]
 case val v=>rfl
 case newView e ks l=>rfl
 case rload g sz id idx sub=>grind [Bb,As]
 case load g sz key off=>grind [Bb,As]
 case store key off cs=>
  simp only[Bb,As];cases I:Ab aB key with
  |none=>rfl
  |some b=>
   dsimp only;cases Nat.ble (off+cs.length) b.cells.length
   ·rfl
   simp[A8]
 case new ty cs=>
  simp only[Bb,As]
  grind [A8]
 case call f args=>
  simp only[Bb,As];cases I:C.spec f with
  |none=>rfl
  |some g=>
   dsimp only;cases O:F1 aC args with
   |none=>rfl
   |some l=>
    dsimp only;have G:=D.1 f g I;rw[G.nat];cases U:g (TV×Mem) l ⟨[],[]⟩ (λv m=>some (v,m))with
    |none=>rfl
    |some q=>grind
 case callD f args=>
  simp only[Bb,As];cases I:C.spec f with
  |none=>rfl
  |some g=>
   dsimp only;simp only[A8];generalize Bi (cat AC.keys (cat TV.cellsOf args)) []=keys;cases X:(Al (TV.inK keys []) args&&Al (λk=>Al AC.calm (EX aB k)) keys&&Ck keys)
   ·simp
   simp only[am,ig];cases O:Dk aB (λk=>base+pos keys k) (λi=>base+pos [] i) base keys with
   |none=>rfl
   |some V=>
    dsimp only;have G:=D.1 f g I;rw[G.nat];cases U:g (TV×Mem) (args.map (TV.ren (λk=>base+pos keys k) (λi=>base+pos [] i))) ⟨V,[]⟩ (λv m=>some (v,m))with
    |none=>rfl
    |some q=>grind
def BY {α:Type} {c:Bool} {p:Option α} {q:α} (h:cond c p none=some q):c=true/\p=some q:=by grind
def Qcc (aC:List (Nat×Row)) (e:TypeId) (ks:List Kd) (bytes id:Nat) (x:AC):Option (TV×List (Nat×Row)):=
 match Jd aC ks x with
 |some m=>match Ab aC id with
  |some r=>if(Dj ks r.ks&&Nat.beq r.ty e&&Nat.ble 1 bytes)=true then
    if Nat.ble ((r.l++m).length*bytes) 140737488355328=true then some (.c (.own id r.ks.length (r.l++m).length),upd aC id ⟨e,r.ks,r.l++m⟩)else none
   else none
  |none=>none
 |none=>none
def YH (id:Nat) (tm:List TV) (bx:List (Nat×Box)) (aC:List (Nat×Row)):St:=⟨tm.map (TV.kill id),bx.map λp=>(p.1,p.2.kill id),aC⟩
def Qgz (aC:List (Nat×Row)) (e:TypeId) (ks:List Kd) (bytes d:Nat) (x:AC):Option (TV×List (Nat×Row)):=
 match Jd aC ks x with
 |some m=>match Ab aC d with
  |some _=>none
  |none=>if(Nat.ble 1 ks.length&&Nat.ble 1 bytes)=true then
    if Nat.ble (m.length*bytes) 140737488355328=true then some (.c (.own d ks.length m.length),ins aC d ⟨e,ks,m⟩)else none
   else none
 |none=>none
def La (dst:Option Tmp):Prim->Option Nat
 | .appD _ _ _ (.own id _ _) _=>some id
 | .appD _ _ _ .nilSl _=>dst
 |_=>none
def Lz (dst:Option Tmp) (aC:List (Nat×Row)):Prim->Option (TV×List (Nat×Row))
 | .appD e ks bytes (.own id _ _) x=>Qcc aC e ks bytes id x
 | .appD e ks bytes .nilSl x=>match dst with
  |some d=>Qgz aC e ks bytes d x
  |none=>none
 |_=>none
def mkG (dst:Option Tmp) (p:Prim):Option (TV×Option (Nat×Row)):=
 match p with
 | .newRow e ks l=>match dst with
  |some d=>some (.c (.own (C.rowAs d) ks.length l.length),some (C.rowAs d,⟨e,ks,l⟩))
  |none=>none
 | .callF f args=>match C.spec f with
  |some g=>if Al TV.plainB args=true then match g (TV×Mem) args ⟨[],[]⟩ (λv m=>some (v,m))with
    |some (v,⟨[],[]⟩)=>if v.plainB=true then some (v,none)else none
    |some (.v false [.own j _ _],⟨[],[(k,r)]⟩)=>if Nat.beq j k=true then some (.c (.own (Jv (dst.getD 0)) r.ks.length r.l.length),some (Jv (dst.getD 0),r))else none
    |_=>none
   else none
  |none=>none
 |_=>none
def mkD (dst:Option Tmp) (p:Prim) (aC:List (Nat×Row)):Option (TV×List (Nat×Row)):=
 match mkG (C:=C) dst p with
 |some (v,none)=>some (v,aC)
 |some (v,some (k,r))=>match Ab aC k with
  |some _=>none
  |none=>some (v,ins aC k r)
 |none=>none
def Fb (dst:Option Tmp) (p:Prim) (s:St):Option (TV×St):=
 bif Prim.isApp (some p)then match La dst p with
  |some id=>(Lz dst s.aC p).map λq=>(q.1,YH id s.tmps s.aB q.2)
  |none=>none
 else bif Prim.isMk (some p)then(mkD (C:=C) dst p s.aC).map λq=>(q.1,⟨s.tmps,s.aB,q.2⟩)
 else(As (C:=C) dst p s.aB s.aC).map λq=>(q.1,⟨s.tmps,q.2,s.aC⟩)
theorem Zag (D:AK P C) {dst:Option Tmp} {p:Prim} (N:Prim.simple (some p)=true) (s:St) (K:TV->St->Option R):
  Bb C dst p s K=(Fb (C:=C) dst p s).bind λq=>K q.1 q.2:=by
 cases G:Prim.isApp (some p)with
 |false=>
  cases I:Prim.isMk (some p)with
  |false=>
   rw[Zyo D N (by rw[G]) I];unfold Fb;rw[G,I];simp only[bn];cases As (C:=C) dst p s.aB s.aC<;>rfl
  |true=>
   obtain⟨tm,aB,aC⟩:=s;unfold Fb;rw[G,I];simp only[bn,am];cases p<;>simp[Prim.isMk]at I
   case newRow e ks l=>
    simp only[Bb,mkD,mkG]
    grind [A8]
   case callF f args=>
    simp only[Bb,mkD,mkG];cases O:C.spec f with
    |none=>rfl
    |some g=>
     dsimp only;cases Y:Al TV.plainB args
     ·rfl
     simp only[am,ig];have L:=D.1 f g O;rw[L.nat];cases h3:g (TV×Mem) args ⟨[],[]⟩ (λv m=>some (v,m))with
     |none=>rfl
     |some q=>
      obtain⟨v,⟨U,V⟩⟩:=q;simp only[aq];cases U with
      |cons _ _=>rfl
      |nil=>
       cases V with
       |nil=>grind
       |cons p l=>
        obtain⟨k,r⟩:=p;cases l with
        |cons _ _=>rfl
        |nil=>
         dsimp only;split
         ·rename_i j w0 n0;cases M:Nat.beq j k
          ·grind
          simp only[am,M,ig]
          grind [A8]
         grind
 |true=>
  obtain⟨tm,aB,aC⟩:=s;cases p<;>simp[Prim.isApp]at G
  rename_i e ks bytes X x;unfold Fb;simp only[Prim.isApp,am,Bb];cases X
  case own id w' n=>
   dsimp only[La,Lz,Qcc];cases Jd aC ks x with
   |none=>rfl
   |some m=>
    dsimp only;cases Ab aC id with
    |none=>rfl
    |some r=>
     dsimp only;cases(Dj ks r.ks&&Nat.beq r.ty e&&Nat.ble 1 bytes)
     ·rfl
     simp only[am,ig];cases Nat.ble ((r.l++m).length*bytes) 140737488355328
     ·rfl
     simp only[am,ig,A8];rfl
  case nilSl=>
   dsimp only[La,Lz];cases dst with
   |none=>grind
   |some d=>
    dsimp only[Qgz];cases Jd aC ks x with
    |none=>rfl
    |some m=>
     dsimp only;cases Ab aC d with
     |some _=>rfl
     |none=>
      dsimp only;cases(Nat.ble 1 ks.length&&Nat.ble 1 bytes)
      ·rfl
      simp only[am,ig];cases Nat.ble (m.length*bytes) 140737488355328
      ·rfl
      simp only[am,ig,A8];rfl
  all_goals
   grind [La]
theorem Ztx (D:AK P C) {dst:Option Tmp} {p:Prim} {s:St} {K:TV->St->Option R} {r:R} (h:Bb C dst p s K=some r):∃v L,K v L=some r:=by
 obtain⟨tm,aB,aC⟩:=s;cases p<;>simp only[Bb]at h
 case val v=>grind
 case newView e ks l=>grind
 case load g sz key off=>grind
 case store key off cs=>
  split at h
  ·rename_i b _;cases hb:Nat.ble (off+cs.length) b.cells.length<;>rw[hb]at h
   ·grind
   simp only[am,A8]at h;grind
  grind
 case new ty cs=>grind [A8]
 case newS ty n cs=>grind [A8]
 case rload g sz id idx sub=>grind
 case rstore id idx sub cs=>
  split at h
  ·rename_i M _;cases hb:(Nat.ble (sub+cs.length) M.w&&Al AC.plain cs)<;>rw[hb]at h
   ·grind
   simp only[am]at h
   grind [A8]
  grind
 case newRow e ks l=>grind [A8]
 case make e ks bytes n z=>
  split at h
  ·split at h
   ·grind
   obtain⟨_,h⟩:=BY h
   grind [A8]
  grind
 case cutR id a=>
  split at h
  ·obtain⟨_,h⟩:=BY h
   grind [A8]
  grind
 case append e ks bytes s x=>
  split at h
  ·split at h
   ·split at h
    ·split at h
     ·grind
     obtain⟨_,h⟩:=BY h;obtain⟨_,h⟩:=BY h
     grind [A8]
    grind
   ·split at h
    ·obtain⟨_,h⟩:=BY h;obtain⟨_,h⟩:=BY h
     grind [A8]
    grind
   grind
  grind
 case call f args=>
  split at h
  ·rename_i g G;split at h
   ·obtain⟨v,m,h',_⟩:=(D.1 f g G).run h
    grind
   grind
  grind
 case callM f args=>
  split at h
  ·rename_i g G;cases I:C.keepR f<;>rw[I]at h
   case true=>
    simp only[am]at h;unfold TA at h;split at h
    ·split at h
     ·obtain⟨v,m,h',_⟩:=(D.1 f g G).run h;split at h'
      ·obtain⟨_,h'⟩:=BY h'
       grind [A8]
      grind
     grind
    grind
   simp only[bn]at h;simp only[A8]at h;obtain⟨_,h⟩:=BY h;split at h
   ·obtain⟨v,m,h',_⟩:=(D.1 f g G).run h
    grind
   grind
  grind
 case callF f args=>
  split at h
  ·rename_i g G;obtain⟨_,h⟩:=BY h;obtain⟨v,m,h',_⟩:=(D.1 f g G).run h;split at h'
   ·grind
   ·split at h'
    ·obtain⟨_,h'⟩:=BY h'
     grind [A8]
    grind
   grind
  grind
 case appD e ks bytes s x=>
  split at h
  ·split at h
   ·split at h
    ·obtain⟨_,h⟩:=BY h;obtain⟨_,h⟩:=BY h
     grind [A8]
    grind
   ·split at h
    ·split at h
     ·grind
     obtain⟨_,h⟩:=BY h;obtain⟨_,h⟩:=BY h
     grind [A8]
    grind
   grind
  grind
 case callD f args=>
  split at h
  ·rename_i g G;simp only[A8]at h;obtain⟨_,h⟩:=BY h;split at h
   ·obtain⟨v,m,h',_⟩:=(D.1 f g G).run h
    grind
   grind
  grind
theorem Zna (G:AK P C) (dst:Option Tmp) (p:Prim) (s:St) (K:TV->St->Option R):Bb C dst p s K=(Bb C dst p s λv N=>some (v,N)).bind λq=>K q.1 q.2:=by
 obtain⟨tm,aB,aC⟩:=s;cases p<;>simp only[Bb,A8]
 case val v=>rfl
 case newView e ks l=>rfl
 case load g sz key off=>grind
 case store key off cs=>grind
 case new ty cs=>grind
 case newS ty n cs=>grind
 case rload g sz id idx sub=>grind
 case rstore id idx sub cs=>grind
 case newRow e ks l=>grind
 case make e ks bytes n z=>grind
 case cutR id a=>grind
 case append e ks bytes s x=>
  cases Jd aC ks x with
  |none=>rfl
  |some m=>grind
 case appD e ks bytes s x=>
  cases Jd aC ks x with
  |none=>rfl
  |some m=>grind
 case call f args=>
  cases I:C.spec f with
  |none=>rfl
  |some g=>
   dsimp only;cases F1 aC args with
   |none=>rfl
   |some l=>
    dsimp only;have D:=G.1 f g I
    grind [D.nat]
 case callM f args=>
  cases I:C.spec f with
  |none=>rfl
  |some g=>
   dsimp only;have D:=G.1 f g I;cases O:C.keepR f
   case true=>
    simp only[am,TA];cases Qcg args with
    |none=>rfl
    |some id=>
     dsimp only;cases Ab aC id with
     |none=>rfl
     |some r=>
      dsimp only;rw[D.nat,D.nat (TV×St)];cases g (TV×Mem) (args.map (TV.ren (λk=>base+pos [] k) (λi=>base+pos [id] i))) ⟨[],[(base,r)]⟩ (λv m=>some (v,m))with
      |none=>rfl
      |some q=>
       obtain⟨v,⟨L,M⟩⟩:=q;simp only[aq];cases L with
       |cons _ _=>rfl
       |nil=>
        cases M with
        |nil=>rfl
        |cons p l=>
         obtain⟨k,r'⟩:=p;cases l with
         |cons _ _=>rfl
         |nil=>
          dsimp only;cases(Nat.beq k base&&Nat.beq r'.ty r.ty&&Dj r'.ks r.ks&&v.plainB)
          ·rfl
          simp[A8]
   simp only[bn];generalize M0 aB 4 (Bi (cat AC.keys (cat TV.cellsOf args)) [])=keys;generalize PH aB (cat TV.cellsOf args) keys=ids;cases(Al (TV.inK keys ids) args&&Al (λk=>Al (AC.inK keys ids) (EX aB k)) keys&&Ck keys&&Ck ids)
   ·rfl
   simp only[am];cases Dk aB (λk=>base+pos keys k) (λi=>base+pos ids i) base keys with
   |none=>rfl
   |some L=>
    cases GN aC base ids with
    |none=>rfl
    |some M=>grind [D.nat]
 case callF f args=>
  cases I:C.spec f with
  |none=>rfl
  |some g=>
   dsimp only;have D:=G.1 f g I;cases Al TV.plainB args
   ·rfl
   simp only[am];rw[D.nat,D.nat (TV×St)]
   grind
 case callD f args=>
  cases I:C.spec f with
  |none=>rfl
  |some g=>
   dsimp only;have D:=G.1 f g I;generalize Bi (cat AC.keys (cat TV.cellsOf args)) []=keys;cases(Al (TV.inK keys []) args&&Al (λk=>Al AC.calm (EX aB k)) keys&&Ck keys)
   ·rfl
   simp only[am];cases Dk aB (λk=>base+pos keys k) (λi=>base+pos [] i) base keys with
   |none=>rfl
   |some L=>grind [D.nat]
theorem WX:∀(l:List Nat) (s:St) (K:St->Option R),Je l s K=(Je l s some).bind K
 |[],s,K=>rfl
 |id::l,⟨tm,aB,aC⟩,K=>by
  simp only[Je,A8];cases Ab aC id with
  |none=>exact WX l _ K
  |some r=>exact WX l _ K
theorem Qys (k o:Nat) (e:TypeId) (s:St) (K:St->Option R):N_ P k o e s K=(N_ P k o e s some).bind K:=by
 obtain⟨tm,aB,aC⟩:=s
 grind [N_,A8]
theorem Qcu:∀(l:List (Nat×Nat×TypeId)) (s:St) (K:St->Option R),KW P l s K=(KW P l s some).bind K
 |[],s,K=>rfl
 |(k,o,e)::l,s,K=>by
  simp only[KW];rw[Qys,Qys (K:=λD=>KW P l D some)];cases N_ P k o e s some with
  |none=>rfl
  |some D=>exact Qcu l D K
theorem XT:∀(l:List (Nat×TypeId)) (s:St) (K:St->Option R),JI P l s K=(JI P l s some).bind K
 |[],s,K=>rfl
 |(t,e)::l,⟨tmps,aB,aC⟩,K=>by
  simp only[JI];split
  ·split
   ·rename_i ks _ _;cases Nat.ble 1 ks.length
    ·rfl
    simp only[am,A8];exact XT l _ K
   rfl
  exact XT l _ K
theorem Zxl (s:St) (K:St->Option R):Jm P C s K=(Jm P C s some).bind K:=by
 simp only[Jm,A8];rw[Qcu]
 conv=>rhs;rw[Qcu]
 cases KW P (cat (λp:Nat×Box=>bif AV C.ownBut p.1 then []else(C.ownOff p.2.ty).map λq=>(p.1,q.1,q.2)) s.aB) s some with
 |none=>rfl
 |some D=>grind [XT]
theorem Qsp (o:Op) (s:St) (K:St->Option R):J1 P C o s K=(J1 P C o s some).bind K:=by
 unfold J1;rw[WX]
 conv=>rhs;rw[WX]
 cases Je (Zf8 C (AL s.tmps) o) s some with
 |none=>rfl
 |some D=>grind [Zxl]
theorem Zo8 (G:AK P C) (pre:Bool) (ops:List Oper) (o:Oper) (s:St) (K:Option Prim->St->Option R):FC P C pre ops o s K=(FC P C pre ops o s λp D=>some (p,D)).bind λq=>K q.1 q.2:=by
 have L:∀s:St,((bif pre then J1 P C o.op s else λK=>K s) λs=>opK P C (AL s.tmps) o.dst o.op λp=>Bb C o.dst (p.dr pre) s λv D=>put D o.dst v (K (some (p.dr pre))))=
   ((bif pre then J1 P C o.op s else λK=>K s) λs=>opK P C (AL s.tmps) o.dst o.op λp=>Bb C o.dst (p.dr pre) s λv D=>put D o.dst v ((λp D=>some (p,D)) (some (p.dr pre)))).bind λq=>K q.1 q.2:=by
  have O:∀s:St,(opK P C (AL s.tmps) o.dst o.op λp=>Bb C o.dst (p.dr pre) s λv D=>put D o.dst v (K (some (p.dr pre))))=(opK P C (AL s.tmps) o.dst o.op λp=>Bb C o.dst (p.dr pre) s λv D=>put D o.dst v ((λp D=>some (p,D)) (some (p.dr pre)))).bind λq=>K q.1 q.2:=by
   intro s;rw[RS]
   conv=>rhs;rw[RS]
   cases opK P C (AL s.tmps) o.dst o.op some with
   |none=>rfl
   |some p=>
    simp only[aq];rw[Zna G]
    conv=>rhs;rw[Zna G]
    cases Bb C o.dst (p.dr pre) s λv D=>some (v,D)with
    |none=>rfl
    |some q=>grind [NN]
  intro s;cases pre
  ·grind
  simp only[am];rw[Qsp]
  conv=>rhs;rw[Qsp]
  grind
 have I:∀s:St,put s o.dst (.tup []) (K none)=(put s o.dst (.tup []) ((λp D=>some (p,D)) none)).bind λq=>K q.1 q.2:=by
  intro s;simp only[NN,aq]
 unfold FC Rc;cases o.guard with
 |none=>grind
 |some M=>
  obtain⟨j,want⟩:=M;dsimp only;cases ops[j]? with
  |none=>rfl
  |some N=>
   dsimp only;cases N.dst with
   |none=>rfl
   |some t=>
    dsimp only;split
    ·rename_i g _;cases g
     ·simp only[bn]
      grind [FN]
     simp only[am]
     grind [FN]
    ·grind
    rfl
def Ce (ops:List Oper) (o:Oper) (tm:List TV):Option Bool:=
 match o.guard with
 |none=>some true
 |some (j,want)=>match ops[j]? with
  |some D=>match D.dst with
   |some t=>match nth .vD tm t with
    | .c (.bool g)=>some (g==want)
    | .tup []=>some false
    |_=>none
   |none=>none
  |none=>none
def Co (ops:List Oper) (o:Oper) (s:St):Option (Option Prim×St):=
 match Ce ops o s.tmps with
 |some true=>(opK P C (AL s.tmps) o.dst o.op some).bind λp=>(Fb (C:=C) o.dst (p.dr false) s).bind λq=>some (some (p.dr false),T2 q.2 o.dst q.1)
 |some false=>some (none,T2 s o.dst (.tup []))
 |none=>none
theorem Zak {tm:List TV} {t:Nat} {v:TV} (h:nth .vD tm t=v) (G:v≠ .vD):setL tm t v=tm:=by
 rw[Ca,List.getD]at h;rw[Jc];cases D:tm[t]? with
 |none=>grind
 |some u=>
  rw[D]at h;simp at h;subst h;apply ia
  grind
def Z47 (G:AK P C) {ops:List Oper} {o:Oper} {s:St} {K:Option Prim->St->Option R} {r:R} (h:FC P C false ops o s K=some r):
  (∃p D,Co (P:=P) (C:=C) ops o s=some (p,D)/\K p D=some r)\/(∃p D,K (some p) D=some r/\Prim.simple (some p)=false):=by
 have N:∀s1:St,Ce ops o s.tmps=some true->s1=s->(opK P C (AL s1.tmps) o.dst o.op λp=>Bb C o.dst (p.dr false) s1 λv D=>put D o.dst v (K (some (p.dr false))))=some r->
   (∃p D,Co (P:=P) (C:=C) ops o s=some (p,D)/\K p D=some r)\/(∃p D,K (some p) D=some r/\Prim.simple (some p)=false):=by
  rintro s1 O rfl h;rw[RS]at h;cases V:opK P C (AL s1.tmps) o.dst o.op some with
  |none=>grind
  |some p=>
   rw[V]at h;simp only[aq]at h;cases X:Prim.simple (some (p.dr false))
   ·grind [Ztx,NN]
   left;rw[Zag G X]at h;cases hm:Fb (C:=C) o.dst (p.dr false) s1 with
   |none=>grind
   |some q=>grind [NN,Co]
 have L:∀s1:St,Ce ops o s.tmps=some false->s1=s->put s1 o.dst (.tup []) (K none)=some r->
   (∃p D,Co (P:=P) (C:=C) ops o s=some (p,D)/\K p D=some r)\/(∃p D,K (some p) D=some r/\Prim.simple (some p)=false):=by
  rintro s1 O rfl h;rw[NN]at h;exact .inl ⟨none,_,by grind [Co],h⟩
 unfold FC Rc at h;cases U:o.guard with
 |none=>simp_all [Ce]
 |some Y=>
  obtain⟨j,want⟩:=Y;rw[U]at h;simp only at h;split at h
  ·rename_i oj hj;split at h
   ·rename_i t ht;split at h
    ·rename_i g I;have O:Ce ops o s.tmps=some (g==want):=by simp only[Ce,U,hj,ht,I]
     have M:∀b,g=b->(⟨setL s.tmps t (.c (.bool b)),s.aB,s.aC⟩:St)=s:=by
      rintro b rfl;rw[Zak I (by simp)]
     cases g
     ·simp only[bn]at h;rw[FN]at h;dsimp only at h;cases want
      ·grind
      grind
     simp only[am]at h;rw[FN]at h;dsimp only at h;cases want
     ·grind
     grind
    ·simp_all [Ce]
    grind
   grind
  grind
def IV (P:Program) (C:Cfg) (ops:List Oper) (m:List Nat) (i:Nat) (o:Oper) (s:St):Option (Option Prim×St):=
 if Dy ops m i=true then FC P C true ops o s λp D=>some (p,D)else Co (P:=P) (C:=C) ops o s
def Ta (P:Program) (C:Cfg) (ops:List Oper) (m:List Nat):List (Nat×Oper×Option Prim)->St->St->Prop
 |[],s,D=>s=D
 |(i,o,p)::l,s,D=>∃s1,IV P C ops m i o s=some (p,s1)/\Ta P C ops m l s1 D
def Qam (D:AK P C) {ops:List Oper} {m:List Nat}:∀(l:List Oper) (i:Nat) (s:St) (K:List (Oper×Option Prim)->St->Option R) (r:R),OE P C ops m l i s K=some r->
  (∃(ps:List (Nat×Oper×Option Prim)) (G:St),ps.map (·.2.1)=l/\ps.map (·.1)=List.range' i l.length/\Ta P C ops m ps s G/\K (ps.map (·.2)) G=some r)\/
  (∃(acc:List (Oper×Option Prim)) (G:St),K acc G=some r/\∃(j:Nat) (q:Oper×Option Prim),acc[j]? =some q/\(Dy ops m (i+j)||Prim.simple q.2)=false)
 |[],i,s,K,r,h=> .inl ⟨[],s,rfl,rfl,rfl,h⟩
 |o::l,i,s,K,r,h=>by
  simp only[OE]at h;have I:(∃p s1,IV P C ops m i o s=some (p,s1)/\OE P C ops m l (i+1) s1 (λrest G=>K ((o,p)::rest) G)=some r)\/
    (∃p s1,OE P C ops m l (i+1) s1 (λrest G=>K ((o,some p)::rest) G)=some r/\(Dy ops m i||Prim.simple (some p))=false):=by
   cases X:Dy ops m i
   ·rw[X]at h;rcases Z47 D h with⟨p,s1,M,L⟩|⟨p,s1,M,L⟩
    ·exact .inl ⟨p,s1,by simp_all [IV],L⟩
    grind
   rw[X,Zo8 D]at h;cases Y:FC P C true ops o s λp s'=>some (p,s')with
   |none=>grind
   |some q=>
    rw[Y]at h;exact .inl ⟨q.1,q.2,by simp_all [IV],h⟩
  rcases I with⟨p,s1,M,L⟩|⟨p,s1,M,L⟩
  ·rcases Qam D l (i+1) s1 _ r L with⟨ps,G,N,O,U,V⟩|⟨acc,G,N,j,q,O,U⟩
   ·exact .inl ⟨(i,o,p)::ps,G,by grind,by simp[O,List.range'_succ],⟨s1,M,U⟩,V⟩
   exact .inr ⟨_,G,N,j+1,q,by grind,by grind⟩
  rcases Qam D l (i+1) s1 _ r M with⟨ps,G,N,O,U,V⟩|⟨acc,G,N,j,q,O,U⟩
  ·exact .inr ⟨_,G,V,0,(o,some p),by simp,L⟩
  exact .inr ⟨_,G,N,j+1,q,by grind,by grind⟩
end
end Go.Bm
