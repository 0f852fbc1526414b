/- the abstract machine -/
import Derived.Test.YtnnpdlgenmnekaaGreatDoorBmFz
import Derived.ArgAppend
import Derived.LoopN
set_option linter.unusedVariables false
set_option linter.unusedSimpArgs false
namespace Go.Bm
open Go.RowKit
section
variable {P:Program} {C:Cfg} {ρ:Env} {w:World} {R:Type} {Z:Base} {tm:List TV} {aB:List (Nat×Box)} {aC:List (Nat×Row)} {tmps:Array Value}
theorem Qul:∀{l:List (Nat×Nat)} {cs:List AC},Jt l cs=true->cs=LP l
 |[],[],_=>rfl
 |(k,o)::l,a::cs,h=>by
  cases a<;>simp only[Jt]at h<;>try (simp at h;done)
  simp only[ak]at h;rw[ag h.1.1,ag h.1.2,Qul h.2];rfl
 |[],_::_,h=>by grind [Jt]
 |_::_,[],h=>by grind [Jt]
structure Built (aC : List (Nat × Row)) (rl : Nat -> Nat) : Prop where
 rl:∀id r,Ac aC id=some r->rl id=r.l.length
def Seg (l:List AC) (i:Nat) (v:List AC):Prop:=∀j,j<v.length->nth .vD l (i+j)=nth .vD v j
theorem Seg.left {l:List AC} {i:Nat} {v u:List AC} (h:Seg l i (v++u)):Seg l i v:=λj D=>by
 rw[h j (by grind),B5,B5,List.getD,List.getD,jm D]
theorem Seg.right {l:List AC} {i:Nat} {v u:List AC} (h:Seg l i (v++u)):Seg l (i+v.length) u:=λj D=>by
 rw[gy,h (v.length+j) (by grind),B5,B5,List.getD,List.getD,List.getElem?_append_right (by omega)];simp
theorem Seg.one {l:List AC} {i:Nat} {a:AC} (h:Seg l i [a]):nth .vD l i=a:=h 0 (by simp)
theorem Seg.all (l:List AC):Seg l 0 l:=λj _=>by simp
theorem Yho {rl:Nat->Nat} (I:Built aC rl) {c:CS} {a:AC} {v:List AC} (h:HT c a=some v) {l:List AC} {i:Nat} (G:Seg l i v):
  (Dv rl l c i).2=i+v.length/\∀x,AC.wf aB aC a->CC ρ w a x->CC ρ w (Dv rl l c i).1 x:=by
 cases c<;>cases a<;>simp only[HT]at h<;>try (simp at h;done)
 case any.vD=>simp at h;subst h;exact⟨rfl,λx _ h=>h.one⟩
 case any.int=>simp at h;subst h;exact⟨rfl,λx _ h=>h.one⟩
 case any.bool=>simp at h;subst h;exact⟨rfl,λx _ h=>h.one⟩
 case any.raw=>simp at h;subst h;exact⟨rfl,λx _ h=>h.one⟩
 case any.nilSl=>simp at h;subst h;exact⟨rfl,λx _ h=>h.one⟩
 case any.ptr=>simp at h;subst h;exact⟨rfl,λx _ h=>h.one⟩
 case any.own=>simp at h;subst h;exact⟨rfl,λx _ h=>h.one⟩
 case any.vC=>simp at h;subst h;exact⟨rfl,λx _ h=>h.one⟩
 case any.rptr=>simp at h;subst h;exact⟨rfl,λx _ h=>h.one⟩
 case any.vptr=>simp at h;subst h;exact⟨rfl,λx _ h=>h.one⟩
 case any.clo=>simp at h;subst h;exact⟨rfl,λx _ h=>h.one⟩
 case any.bsl=>simp at h;subst h;exact⟨rfl,λx _ h=>h.one⟩
 case int.int k k' n=>
  cases D:kEq k k'<;>rw[D]at h
  ·grind
  ·simp at h;subst h;rw[<-PT D];simp[Dv,Ah,G.one]
 case bool.bool b=>
  simp at h;subst h;simp[Dv,Fb,G.one]
 case sl.nilSl ks=>
  simp at h;subst h;simp[CC,CP,Dv,AX,G.one]
 case sl.vC ks L l=>
  cases D:C6 ks L<;>rw[D]at h
  ·grind
  ·simp at h;subst h;rw[<-IQ D];simp[Dv,AX,G.one]
 case rawc.raw v=>
  simp at h;subst h;refine⟨rfl,λx _ h=> ?_⟩;simp only[Dv,G.one];exact h
 case str.raw v=>
  cases v<;>try (simp[HT]at h;done)
  simp at h;subst h;simp[Dv,Bd,G.one]
 case nil.nilSl=>simp at h;subst h;exact⟨rfl,λx _ h=>h⟩
 case nilp.raw v=>
  cases v<;>try (simp[HT]at h;done)
  rename_i q;cases q<;>simp[HT]at h
  subst h;exact⟨rfl,λx _ h=>h⟩
 case ptr.ptr k o k' M=>
  cases D:(Nat.beq k k'&&Nat.beq o M)<;>rw[D]at h
  ·grind
  ·simp at h;subst h;simp only[ak]at D;rw[<-ag D.1,<-ag D.2];exact⟨rfl,λx _ h=>h⟩
 case bsl.bsl k o k' M=>
  cases D:(Nat.beq k k'&&Nat.beq o M)<;>rw[D]at h
  ·grind
  ·simp at h;subst h;simp only[ak]at D;rw[<-ag D.1,<-ag D.2];exact⟨rfl,λx _ h=>h⟩
 case own.own id wd id' N n=>
  cases D:(Nat.beq id id'&&Nat.beq wd N)<;>rw[D]at h
  ·grind
  ·simp at h;subst h;simp only[ak]at D;rw[<-ag D.1,<-ag D.2];refine⟨rfl,λx T h=> ?_⟩;obtain⟨r,U,X,Y⟩:=T;show CC ρ w (.own id wd (rl id)) x;rw[I.rl id r U]
   grind
 case clo.clo f fs cs V O S=>
  cases D:(Nat.beq f V&&Jt fs O&&Jt cs S)<;>rw[D]at h
  ·grind
  ·simp at h;subst h;simp only[ak]at D;rw[<-ag D.1.1,Qul D.1.2,Qul D.2];exact⟨rfl,λx _ h=>h⟩
theorem TR {rl:Nat->Nat} (D:Built aC rl) {l:List AC}:∀{cs:List CS} {as:List AC} {v:List AC},GV cs as=some v->∀{i},Seg l i v->
  (DJ rl l cs i).2=i+v.length/\(DJ rl l cs i).1.length=as.length/\∀xs,(∀a∈as,AC.wf aB aC a)->CL (CC ρ w) as xs->CL (CC ρ w) (DJ rl l cs i).1 xs
 |[],[],v,h,i,_=>by simp[GV]at h;subst h;exact⟨rfl,rfl,λxs _ h=>h⟩
 |c::cs,a::as,v,h,i,M=>by
  simp only[GV]at h;split at h
  ·rename_i U O;split at h
   ·rename_i V S;simp at h;subst h;obtain⟨G,I⟩:=Yho (ρ:=ρ) (w:=w) (aB:=aB) D O M.left;obtain⟨X,Y,T⟩:=TR D S M.right;simp only[DJ];generalize hb:Dv rl l c i=q at G I;obtain⟨b,i'⟩:=q;simp only at G I;subst G;refine⟨by grind,by grind,λxs N L=> ?_⟩;cases xs with
    |nil=>exact L.elim
    |cons x xs=>exact⟨I x (N a (by simp)) L.1,T xs (λb hb=>N b (by grind)) L.2⟩
   grind
  grind
 |[],_::_,v,h,_,_=>by grind [GV]
 |_::_,[],v,h,_,_=>by grind [GV]
theorem Q8e {rl:Nat->Nat} (D:Built aC rl) {l:List AC}:∀{ps:List (Bool×List CS)} {I:List (Bool×List AC)} {v:List AC},LY ps I=some v->∀{i},Seg l i v->
  (Hp rl l ps i).2=i+v.length/\∀xs,(∀p∈I,∀a∈p.2,AC.wf aB aC a)->TP ρ w I xs->TP ρ w (Hp rl l ps i).1 xs
 |[],[],v,h,i,_=>by simp[LY]at h;subst h;exact⟨rfl,λxs _ h=>h⟩
 |(g,cs)::ps,(T,as)::I,v,h,i,U=>by
  simp only[LY]at h;cases V:(g==T)<;>rw[V]at h
  ·grind
  ·simp only[aj]at h;have L:g=T:=by simpa using V
   subst L;split at h
   ·rename_i v1 h1;split at h
    ·rename_i v2 h2;simp at h;subst h;obtain⟨M,X,N⟩:=TR (ρ:=ρ) (w:=w) (aB:=aB) D h1 U.left;obtain⟨p1,p2⟩:=Q8e D h2 U.right;simp only[Hp];generalize hb:DJ rl l cs i=q at M N X;obtain⟨b,i'⟩:=q;simp only at M N X;subst M;refine⟨by grind,λxs Y O=> ?_⟩;cases xs with
     |nil=>exact O.elim
     |cons x xs=>
      refine⟨?_,p2 xs (λp hp=>Y p (by grind)) O.2⟩;have S:=O.1;have G:=Y (g,as) (by simp);cases g
      ·obtain⟨a,e1,e2⟩:=S;dsimp only at e1 G;subst e1;have:=N [x] G ⟨e2,trivial⟩;cases b with
       |nil=>grind
       |cons c b=>
        cases b with
        |nil=>exact⟨c,rfl,this.1⟩
        |cons=>grind
      grind
    grind
   grind
 |[],_::_,v,h,_,_=>by grind [LY]
 |(_,_)::_,[],v,h,_,_=>by grind [LY]
theorem Ydo {rl:Nat->Nat} (I:Built aC rl) {t:TS} {u:TV} {v:List AC} (h:JG t u=some v) {l:List AC} {i:Nat} (O:Seg l i v):
  (HI rl l t i).2=i+v.length/\∀x,TV.wf aB aC u->TVR ρ w u x->TVR ρ w (HI rl l t i).1 x:=by
 cases t with
 |vD=>simp[JG]at h;subst h;exact⟨rfl,λ_ _ _=>trivial⟩
 |v g cs=>
  cases u with
  |vD=>grind [JG]
  |tup=>grind [JG]
  |v S as=>
   simp only[JG]at h;cases T:(g==S)<;>rw[T]at h
   ·grind
   ·simp only[aj]at h;have M:g=S:=by simpa using T
    subst M;obtain⟨G,U,D⟩:=TR (ρ:=ρ) (w:=w) (aB:=aB) I h O;simp only[HI];generalize hb:DJ rl l cs i=q at G D U;obtain⟨b,X⟩:=q;simp only at G D U;refine⟨G,λx L V=> ?_⟩;cases g
    ·obtain⟨a,rfl,e2⟩:=V;have:=D [x] L ⟨e2,trivial⟩;cases b with
     |nil=>grind
     |cons c b=>
      cases b with
      |nil=>exact⟨c,rfl,this.1⟩
      |cons=>grind
    ·obtain⟨N,rfl,e2⟩:=V;exact⟨N,rfl,D _ L e2⟩
 |tup ps=>
  cases u with
  |vD=>grind [JG]
  |v=>grind [JG]
  |tup Y=>
   simp only[JG]at h;obtain⟨G,D⟩:=Q8e (ρ:=ρ) (w:=w) (aB:=aB) I h O;simp only[HI];generalize hb:Hp rl l ps i=q at G D;obtain⟨b,X⟩:=q;simp only at G D;exact⟨G,λx L ⟨N,e1,e2⟩=>⟨N,e1,D _ L e2⟩⟩
theorem U1 {rl:Nat->Nat} (D:Built aC rl) {l:List AC}:∀{G:List TS} {I:List TV} {v:List AC},Kv G I=some v->∀{i},Seg l i v->
  (EC rl l G i).2=i+v.length/\(EC rl l G i).1.length=I.length/\∀(n:Nat) (b:TV),(EC rl l G i).1[n]? =some b->∃u,I[n]? =some u/\∀x,TV.wf aB aC u->TVR ρ w u x->TVR ρ w b x
 |[],[],v,h,i,_=>by simp_all [Kv,EC]
 |t::G,u::I,v,h,i,L=>by
  simp only[Kv]at h;split at h
  ·rename_i O M;split at h
   ·rename_i S N;simp at h;subst h;obtain⟨T,U⟩:=Ydo (ρ:=ρ) (w:=w) (aB:=aB) D M L.left;obtain⟨V,X,Y⟩:=U1 D N L.right;simp only[EC]
    grind
   grind
  grind
 |[],_::_,v,h,_,_=>by grind [Kv]
 |_::_,[],v,h,_,_=>by grind [Kv]
theorem Q68 {rl:Nat->Nat} (I:Built aC rl) {l:List AC}:∀{bs:List (Nat×TypeId×List CS)} {v:List AC},JU bs aB=some v->∀{i},Seg l i v->
  ∀k b,Ac (E6 rl l bs i) k=some b->k∈bs.map (·.1)/\∃G,Ac aB k=some G/\b.ty=G.ty/\∀xs,(∀a∈G.cells,AC.wf aB aC a)->CL (CC ρ w) G.cells xs->CL (CC ρ w) b.cells xs
 |[],v,h,i,_,k,b,D=>by grind [E6,Ac]
 |(j,t,cs)::bs,v,h,i,N,k,b,D=>by
  simp only[JU]at h;split at h
  ·rename_i G T;cases U:Nat.beq t G.ty<;>rw[U]at h
   ·grind
   ·simp only[aj]at h;split at h
    ·rename_i Y V;split at h
     ·rename_i v2 X;simp at h;subst h;obtain⟨L,O,S⟩:=TR (ρ:=ρ) (w:=w) (aB:=aB) I V N.left;simp only[E6]at D;generalize hb:DJ rl l cs i=q at L S O D;obtain⟨c,i'⟩:=q;simp only at L S O D;subst L;simp only[Ac]at D;cases M:Nat.beq j k<;>rw[M]at D
      ·obtain⟨p1,p2⟩:=Q68 I X N.right k b D
       grind
      grind [Nat.eq_of_beq_eq_true]
     grind
    grind
  grind
theorem Qvq {l:List AC}:∀{rs:List (Nat×TypeId×List Kd)} {v:List AC},Jz rs aC=some v->∀{i},Seg l i v->
  (G7 l rs i).2=i+v.length/\(∀id r,Ac (G7 l rs i).1 id=some r->Ac aC id=some r)/\∀id t ks,Ac rs id=some (t,ks)->∃r,Ac (G7 l rs i).1 id=some r/\r.ks=ks
 |[],v,h,i,_=>by simp_all [Jz,G7,Ac]
 |(k,t,ks)::rs,v,h,i,S=>by
  simp only[Jz]at h;split at h
  ·rename_i r T;cases hb:(Nat.beq t r.ty&&C6 ks r.ks)<;>rw[hb]at h
   ·grind
   ·simp only[aj]at h;simp only[ak]at hb;split at h
    ·rename_i U I;simp at h;subst h;have G:Seg l i ([.vC ks r.l]++U):=S;obtain⟨L,M,N⟩:=Qvq I (i:=i+1) G.right;simp only[G7,G.left.one,AX];generalize hB:G7 l rs (i+1)=q at L M N;obtain⟨B,X⟩:=q;simp only at L M N;refine⟨by grind,λid r' D=> ?_,λid Y V D=> ?_⟩
     ·simp only[Ac]at D;cases O:Nat.beq k id<;>rw[O]at D
      ·grind
      ·have:=ag O;subst this;simp at D;subst D;rw[T,ag hb.1,IQ hb.2]
     ·simp only[Ac]at D⊢
      grind
    grind
  grind
section names
variable {keys:List Nat} {rs:List (Nat×TypeId×List Kd)} {B':List (Nat×Box)} {R':List (Nat×Row)} {rl:Nat->Nat}
theorem Qig (G:∀k∈keys,∃b,Ac B' k=some b):∀(l:List (Nat×Nat)),Ao (λp:Nat×Nat=>AN keys p.1) l=true->∀a∈LP l,AC.wfP B' a
 |[],_,a,D=>by grind [LP]
 |(k,o)::l,h,a,D=>by
  have I:=Ax.1 h;simp only[LP,av]at D;rcases D with rfl|D
  ·exact G k (Fe.1 (I (k,o) (by simp)))
  ·exact Qig G l (Ax.2 λp L=>I p (by grind)) a D
theorem Zwo (G:∀k∈keys,∃b,Ac B' k=some b) (I:∀id t ks,Ac rs id=some (t,ks)->∃r,Ac R' id=some r/\r.ks=ks/\rl id=r.l.length) {c:CS} (D:c.okB keys rs=true) (l:List AC) (i:Nat):AC.wf B' R' (Dv rl l c i).1:=by
 cases c<;>simp only[Dv]<;>try trivial
 case rawc=>simp only[Mh];split<;>trivial
 case ptr k o=>exact G k (Fe.1 D)
 case bsl k o=>exact G k (Fe.1 D)
 case own id wd=>
  simp only[CS.okB]at D;split at D
  ·rename_i t ks L;obtain⟨r,M,O,N⟩:=I id t ks L;refine⟨r,M,N.symm,?_⟩;show r.ks.length=wd;simp_all
  grind
 case clo f fs cs=>
  simp only[CS.okB,ak]at D;exact⟨Qig G fs D.1,Qig G cs D.2⟩
theorem Sx (G:∀k∈keys,∃b,Ac B' k=some b) (I:∀id t ks,Ac rs id=some (t,ks)->∃r,Ac R' id=some r/\r.ks=ks/\rl id=r.l.length):∀{cs:List CS},Ao (CS.okB keys rs) cs=true->∀(l:List AC) (i:Nat),∀a∈(DJ rl l cs i).1,AC.wf B' R' a
 |[],_,l,i,a,D=>by grind [DJ]
 |c::cs,h,l,i,a,D=>by
  have L:=Ax.1 h;simp only[DJ,av]at D;rcases D with rfl|D
  ·exact Zwo G I (L c (by simp)) l i
  ·exact Sx G I (Ax.2 λc M=>L c (by grind)) l _ a D
theorem Q42 (G:∀k∈keys,∃b,Ac B' k=some b) (I:∀id t ks,Ac rs id=some (t,ks)->∃r,Ac R' id=some r/\r.ks=ks/\rl id=r.l.length):∀{ps:List (Bool×List CS)},Ao (λp:Bool×List CS=>Ao (CS.okB keys rs) p.2) ps=true->∀(l:List AC) (i:Nat),∀p∈(Hp rl l ps i).1,∀a∈p.2,AC.wf B' R' a
 |[],_,l,i,p,D=>by grind [Hp]
 |(g,cs)::ps,h,l,i,p,D=>by
  have L:=Ax.1 h;simp only[Hp,av]at D;rcases D with rfl|D
  ·exact Sx G I (L (g,cs) (by simp)) l i
  ·exact Q42 G I (Ax.2 λc M=>L c (by grind)) l _ p D
theorem Zwh (D:∀k∈keys,∃b,Ac B' k=some b) (G:∀id t ks,Ac rs id=some (t,ks)->∃r,Ac R' id=some r/\r.ks=ks/\rl id=r.l.length) {t:TS} (I:t.okB keys rs=true) (l:List AC) (i:Nat):TV.wf B' R' (HI rl l t i).1:=by
 cases t with
 |vD=>trivial
 |v g cs=>exact Sx D G I l i
 |tup ps=>exact Q42 D G I l i
theorem Qlg (G:∀k∈keys,∃b,Ac B' k=some b) (I:∀id t ks,Ac rs id=some (t,ks)->∃r,Ac R' id=some r/\r.ks=ks/\rl id=r.l.length):∀{ts:List TS},Ao (TS.okB keys rs) ts=true->∀(l:List AC) (i:Nat),∀v∈(EC rl l ts i).1,TV.wf B' R' v
 |[],_,l,i,v,D=>by grind [EC]
 |t::ts,h,l,i,v,D=>by
  have L:=Ax.1 h;simp only[EC,av]at D;rcases D with rfl|D
  ·exact Zwh G I (L t (by simp)) l i
  ·exact Qlg G I (Ax.2 λc M=>L c (by grind)) l _ v D
theorem Zfg (D:∀k∈keys,∃b,Ac B' k=some b) (G:∀id t ks,Ac rs id=some (t,ks)->∃r,Ac R' id=some r/\r.ks=ks/\rl id=r.l.length):∀{bs:List (Nat×TypeId×List CS)},Ao (λp:Nat×TypeId×List CS=>Ao (CS.okB keys rs) p.2.2) bs=true->∀(l:List AC) (i k:Nat) (b:Box),Ac (E6 rl l bs i) k=some b->∀a∈b.cells,AC.wf B' R' a
 |[],_,l,i,k,b,hb=>by grind [E6,Ac]
 |(j,t,cs)::bs,h,l,i,k,b,hb=>by
  have I:=Ax.1 h;simp only[E6,Ac]at hb;cases L:Nat.beq j k<;>rw[L]at hb
  ·exact Zfg D G (Ax.2 λc M=>I c (by grind)) l _ k b hb
  ·simp at hb;subst hb;exact Sx D G (I (j,t,cs) (by simp)) l i
end names
theorem Q57 {rl:Nat->Nat} (l:List AC):∀(bs:List (Nat×TypeId×List CS)) (i k:Nat),k∈bs.map (·.1)->∃b,Ac (E6 rl l bs i) k=some b
 |[],_,k,h=>by grind
 |(j,t,cs)::bs,i,k,h=>by
  simp only[E6,Ac];cases D:Nat.beq j k
  ·have:k∈bs.map (·.1):=by
    simp only[be,av]at h;exact h.resolve_left λe=>G5 D e.symm
   exact Q57 l bs _ k this
  simp
theorem RelE.rebuild {sk:Sk} {vars:List AC} (h:RelE Z tm aB aC ρ tmps w) (hZ:∀k b,Z.K0 k=some b->DO k=true) (S:sk.okB=true) (T:DC sk ⟨tm,aB,aC⟩=some vars):
  RelE Z (AF sk vars).tmps (AF sk vars).aB (AF sk vars).aC ρ tmps w:=by
 simp only[DC]at T;obtain ⟨a3, T⟩ : Ao (λp : Nat × Box => !(DO p.1) || AN (sk.aB.map (·.1)) p.1) aB = true /\ (match Jz sk.aC aC with
  |some a=>match Kv sk.tmps tm with
   |some b=>match JU sk.aB aB with
    |some c=>some (a++(b++c))
    |none=>none
   |none=>none
  |none=>none)=some vars:=by grind
 split at T
 ·rename_i M a4;split at T
  ·rename_i X a5;split at T
   ·rename_i vc a6;simp at T;subst T;have N:=Seg.all (M++(X++vc));generalize O:M++(X++vc)=l at N⊢;rw[<-O]at N;have a7:Seg l 0 M:=by rw[<-O];exact(Seg.all _).left
    have a8:Seg l (0+M.length) X:=by rw[<-O];exact(Seg.all _).right.left
    have a9:Seg l (0+M.length+X.length) vc:=by rw[<-O];exact(Seg.all _).right.right
    obtain⟨r1,V,r3⟩:=Qvq a4 a7;simp only[AF];generalize hR:G7 l sk.aC 0=qr at r1 V r3;obtain⟨R',ir⟩:=qr;simp only at r1 V r3⊢;subst r1;have b9:sk.okB=true:=S;simp only[Sk.okB,ak]at S;obtain⟨⟨⟨ok1,c1⟩,Y⟩,a0⟩:=S
    have c0:∀id r,Ac R' id=some r->DI R' id=r.l.length:=λid r O=>by grind [DI]
    have G:∀k∈sk.aB.map (·.1),∃b,Ac (E6 (DI R') l sk.aB (0+M.length+X.length)) k=some b:=λk I=>Q57 l sk.aB _ k I;have a1:∀id t ks,Ac sk.aC id=some (t,ks)->∃r,Ac R' id=some r/\r.ks=ks/\DI R' id=r.l.length:=λid t ks O=>by grind
    let D:Nat->Nat:=λid=>match Ac aC id with
     |some r=>r.l.length
     |none=>0
    have a2:Built aC D:=⟨λid r O=>by grind⟩;have b1:∀id t ks,Ac sk.aC id=some (t,ks)->D id=DI R' id:=λid t ks O=>by grind
    have eC:∀(c:CS) (i:Nat),c.okB (sk.aB.map (·.1)) sk.aC=true->Dv D l c i=Dv (DI R') l c i:=by
     intro c i hc;cases c<;>try rfl
     rename_i id wd;simp only[CS.okB]at hc;split at hc
     ·grind [Dv]
     ·grind
    have b2:∀(cs:List CS) (i:Nat),Ao (CS.okB (sk.aB.map (·.1)) sk.aC) cs=true->DJ D l cs i=DJ (DI R') l cs i:=by
     intro cs;induction cs with
     |nil=>intro i _;rfl
     |cons c cs ih=>grind [Ax,DJ]
    have b3:∀(ps:List (Bool×List CS)) (i:Nat),Ao (λp:Bool×List CS=>Ao (CS.okB (sk.aB.map (·.1)) sk.aC) p.2) ps=true->Hp D l ps i=Hp (DI R') l ps i:=by
     intro ps;induction ps with
     |nil=>intro i _;rfl
     |cons p ps ih=>grind [Ax,Hp]
    have eT:∀(t:TS) (i:Nat),t.okB (sk.aB.map (·.1)) sk.aC=true->HI D l t i=HI (DI R') l t i:=by
     intro t i ht;cases t with
     |vD=>rfl
     |v g cs=>simp only[HI];rw[b2 cs i ht]
     |tup ps=>simp only[HI];rw[b3 ps i ht]
    have b4:∀(ts:List TS) (i:Nat),Ao (TS.okB (sk.aB.map (·.1)) sk.aC) ts=true->EC D l ts i=EC (DI R') l ts i:=by
     intro ts;induction ts with
     |nil=>intro i _;rfl
     |cons c cs ih=>grind [Ax,EC]
    have b5:∀(bs:List (Nat×TypeId×List CS)) (i:Nat),Ao (λp:Nat×TypeId×List CS=>Ao (CS.okB (sk.aB.map (·.1)) sk.aC) p.2.2) bs=true->E6 D l bs i=E6 (DI R') l bs i:=by
     intro bs;induction bs with
     |nil=>intro i _;rfl
     |cons p bs ih=>grind [Ax,E6]
    have hT:=U1 (ρ:=ρ) (w:=w) (aB:=aB) a2 a5 a8;rw[b4 sk.tmps _ Y]at hT;obtain⟨t1,t2,t3⟩:=hT;have tw:=Qlg (rl:=DI R') G a1 Y l (0+M.length);generalize c2:EC (DI R') l sk.tmps (0+M.length)=qt at t1 t2 t3 tw;obtain⟨T',it⟩:=qt;simp only at t1 t2 t3 tw⊢;subst t1;have hB:=Q68 (ρ:=ρ) (w:=w) a2 a6 a9;rw[b5 sk.aB _ a0]at hB;refine⟨by grind [h.tl],λi v U=> ?_,tw,Zfg G a1 a0 l _,λk b I=> ?_,λk k' b b' I b6 he=> ?_,λid r U=>h.ro id r (V id r U),λid id' r r' g U b7=>h.ri id id' r r' g (V id r U) (V id' r' b7),λk b id r I U=> ?_,λb hb=> ?_,h.fr,h.fs,h.i0,h.i1,λk b I=> ?_⟩
    ·obtain⟨u,hu,hx⟩:=t3 i v U;exact hx _ (h.wt u (bz hu)) (h.tv i u hu)
    ·obtain⟨_,b0,L,q2,q3⟩:=hB k b I;obtain⟨arr,p1,p2,p3⟩:=h.bx k b0 L;exact⟨arr,by grind,q3 _ (h.wb k b0 L) p2,p3⟩
    ·obtain⟨_,b0,L,_⟩:=hB k b I;obtain⟨_,c3,b8,_⟩:=hB k' b' b6;exact h.bi k k' _ _ L b8 he
    ·obtain⟨_,b0,L,_⟩:=hB k b I;exact h.br k b0 id r L (V id r U)
    ·obtain⟨L,q2,q3⟩:=h.ib b hb
     grind
    ·obtain⟨L,bo,q2⟩:=h.k0 k b I;refine⟨L,G k ?_⟩;have:=Ax.1 a3 (k,bo) (OX q2);simp_all [Fe]
   grind
  grind
 grind
end
open Go.RowKit
section
variable {P:Program} {C:Cfg} {ρ:Env} {w:World} {R:Type} {Z:Base} {tm:List TV} {aB:List (Nat×Box)} {aC:List (Nat×Row)} {tmps:Array Value}
theorem GD {α:Type}:∀(l:List α) (o:Nat) (D:List α),o+D.length<=l.length->splice l o D=l.take o++D++l.drop (o+D.length)
 |l,o,[],h=>by simp[Qpw]
 |[],o,_::_,h=>by grind
 |x::l,0,v::D,h=>by
  simp only[splice,List.take_zero,ay,ax];rw[GD l 0 D (by grind)];simp
 |x::l,o+1,v::D,h=>by
  simp only[splice];rw[GD l o (v::D) (by grind)]
  grind
theorem Q1y {t:TypeId} {x:Value} {b off:Nat} {cur:Array Value} {ty:TypeId} (G:szT P t=some x.cells.toList.length) (hb:w.heap[b]? =some (.cells cur ty (0,0)))
  (I:off+x.cells.toList.length<=cur.size) (D:∀v∈x.cells.toList,v.oneCell'=true):
  (storeVar t ⟨b,off,none⟩ x).run P w= .ok () (w.setRow b (splice cur.toList off x.cells.toList).toArray):=by
 have:=run_storeCells_at P b off ty x.cells.toList 0 cur w hb (by omega) D;simp_all [DQ,storeVar,GD]
theorem Ybr {α:Type} (xs D:List α) (i wd sub n:Nat) (G:i<n) (L:xs.length=n*wd) (M:sub+D.length<=wd):
  cut (splice xs (i*wd+sub) D) (i*wd) wd=splice (cut xs (i*wd) wd) sub D:=by
 have hle:i*wd+wd<=n*wd:=by
  calc i*wd+wd=(i+1)*wd:=by grind
   _<=n*wd:=bg _ G
 have I:(cut xs (i*wd) wd).length=wd:=by simp[cut];omega
 rw[GD _ _ _ (by omega),GD _ _ _ (by omega)];apply gq;intro j;simp only[cut,gj,fd,f7,fx,ap,dc]
 grind
theorem Zri {α:Type} (xs G:List α) (i j wd sub n:Nat) (L:i<n) (D:j≠i) (M:xs.length=n*wd) (N:sub+G.length<=wd):
  cut (splice xs (i*wd+sub) G) (j*wd) wd=cut xs (j*wd) wd:=by
 have hle:i*wd+wd<=n*wd:=by
  calc i*wd+wd=(i+1)*wd:=by grind
   _<=n*wd:=bg _ L
 rw[GD _ _ _ (by omega)];have I:j*wd+wd<=i*wd\/i*wd+wd<=j*wd:=by
  rcases Nat.lt_or_gt_of_ne D with h|h
  ·left
   calc j*wd+wd=(j+1)*wd:=by grind
    _<=i*wd:=bg _ h
  ·right
   calc i*wd+wd=(i+1)*wd:=by grind
    _<=j*wd:=bg _ h
 apply gq;intro k;simp only[cut,gj,fd,f7,fx,ap]
 grind
theorem Yi2 {o:Oper} {a:Act} {f:FuncId} {xs:List Value} {next:Act->World->Prop} {Q:Exit->Act->World->Prop} (D:NY P f) (he:execOp a.eval o=callFunc f xs.toArray)
  (h:Calls P f xs.toArray w λe w'=>∃x,e= .returned x/\next (a.put o.dst x) w'):o.wp P a w next Q:=by
 obtain⟨I,G,L,M⟩:=D;unfold Oper.wp;have:(execOp a.eval o).run P w= .ok (.enter f xs.toArray) w:=by
  rw[he];simp only[callFunc,Sem.run_bind,run_program,dm,G];rw[ab (by grind),ab (by grind)];rfl
 rw[this,Oper.upon_enter];refine h.mono λe w' ⟨x,he,N⟩=> ?_
 grind
theorem L9 {o:Oper} {a:Act} {f:FuncId} {xs:List Value} {next:Act->World->Prop} {Q:Exit->Act->World->Prop} (he:execOp a.eval o=callFunc f xs.toArray)
  (h:CallsX P f xs.toArray w λe w'=>∃x,e= .returned x/\next (a.put o.dst x) w'):o.wp P a w next Q:=by
 rcases h with⟨G,D⟩|⟨x,w',G,y,D,I⟩
 ·grind [Yi2]
 ·simp only[Ending.returned.injEq]at D;subst D;unfold Oper.wp;rw[he,G];exact I
theorem HU {o:Oper} {a:Act} {x:Value} {w':World} {next:Act->World->Prop} {Q:Exit->Act->World->Prop} (he:(execOp a.eval o).run P w= .ok (.value x) w') (h:next (a.put o.dst x) w'):o.wp P a w next Q:=by
 unfold Oper.wp;rw[he];exact h
theorem Zgr {o:Oper} {a:Act} {w':World} {next:Act->World->Prop} {Q:Exit->Act->World->Prop} (he:(execOp a.eval o).run P w= .ok .skip w') (h:next (a.put o.dst undef) w'):o.wp P a w next Q:=by
 unfold Oper.wp;rw[he];exact h
theorem CL.one {l:List AC} {xs:List Value} (h:CL (CC ρ w) l xs):∀v∈xs,v.oneCell'=true:=by
 induction l generalizing xs with
 |nil=>cases xs<;>first|(intro v D;simp at D;done)|exact h.elim
 |cons a l G=>
  cases xs with
  |nil=>simp
  |cons y xs=>
   intro v D;simp only[av]at D;rcases D with rfl|D
   ·exact h.1.one
   ·exact G h.2 v D
theorem CL.oneP {im:Nat->Prop} {l:List AC} {xs:List Value} (h:CL (CP im w) l xs):∀v∈xs,v.oneCell'=true:=by
 induction l generalizing xs with
 |nil=>cases xs<;>first|(intro v D;simp at D;done)|exact h.elim
 |cons a l G=>
  cases xs with
  |nil=>simp
  |cons y xs=>
   intro v D;simp only[av]at D;rcases D with rfl|D
   ·exact h.1.one
   ·exact G h.2 v D
theorem RowC.one {im:Nat->Prop} {ks:List Kd} {l:List (List AC)} {xs:List Value} (h:RowC im w ks l xs) (D:0<ks.length):∀v∈xs,v.oneCell'=true:=by
 intro v L;obtain⟨j,G,rfl⟩:=List.getElem_of_mem L;have I:j/ks.length<l.length:=by rw[dy D];rw[h.1]at G;exact G
 have M:j%ks.length<ks.length:=gd _ D;refine(h.2.2 (j/ks.length) _ (ai I)).oneP _ ?_;have:(cut xs (j/ks.length*ks.length) ks.length)[j%ks.length]? =some xs[j]:=by
  simp only[cut,gj,M,ew,fd];rw[show j/ks.length*ks.length+j%ks.length=j from by simp[cx,fc]];exact ai G
 grind
theorem RowC.append {im:Nat->Prop} {ks:List Kd} {l m:List (List AC)} {xs D:List Value} (h:RowC im w ks l xs) (h':RowC im w ks m D):
  RowC im w ks (l++m) (xs++D):=by
 refine⟨by rw[ap,h.1,h'.1,ap,gx],λc G=> ?_,λi c L=> ?_⟩
 ·rcases bq.1 G with G|G
  ·exact h.2.1 c G
  ·exact h'.2.1 c G
 ·by_cases I:i<l.length
  ·rw[jm I]at L;have hle:i*ks.length+ks.length<=l.length*ks.length:=by
    calc i*ks.length+ks.length=(i+1)*ks.length:=by grind
     _<=l.length*ks.length:=bg _ I
   have:cut (xs++D) (i*ks.length) ks.length=cut xs (i*ks.length) ks.length:=by
    have:=h.1;simp only[cut];rw[i9 (by omega),List.take_append_of_le_length (by grind)]
   rw[this];exact h.2.2 i c L
  ·rw[List.getElem?_append_right (by omega)]at L;have:cut (xs++D) (i*ks.length) ks.length=cut D ((i-l.length)*ks.length) ks.length:=by
    have M:=h.1;simp only[cut];rw[List.drop_append,jt (by simp_all [bg]),ay,M,<-Nat.sub_mul]
   rw[this];exact h'.2.2 (i-l.length) c L
theorem Ya6 {t ty e:TypeId} {i:TypeInfo} (N:P.underlying t=some (.slice e)) (O:P.info? e=some i)
  {b off sLen sCap:Nat} {cur:Array Value} {M:TypeId} (hb:w.heap[b]? =some (.cells cur M (0,0))) {a:Addr} {m c:Nat} {news:List Value} (S:news.length=m*i.size) (D:∀j u,news[j]? =some u->w.cell? (a.add j)=some u) (T:∀u∈news,u.oneCell'=true)
  (G:sLen+m<=sCap) (hle:off+sLen*i.size+news.length<=cur.size):
  (Builtin.append_ #[t,t] ty #[.slice (some ⟨b,off,none⟩) sLen sCap, .slice (some a) m c]).run P w= .ok (.slice (some ⟨b,off,none⟩) (sLen+m) sCap) (w.setRow b (splice cur.toList (off+sLen*i.size) news).toArray):=by
 have L:=run_firstCells_some (P:=P) w i.size m a m c news S D;have I:=run_storeCells_at P b (off+sLen*i.size) M news 0 cur w hb (by omega) T;simp only[Nat.add_zero]at I;rw[GD _ _ _ (by omega)];simp[Builtin.append_,run_underlying N,sizeOf,typeInfo,O,Builtin.lenOf,G,L,Addr.add_lit,I]
theorem Q2l {t ty e:TypeId} {i:TypeInfo} {z:Value} {size:Nat} (O:P.underlying t=some (.slice e)) (S:P.info? e=some i) (hz:i.zero=some z)
  (G:i.size=size) (V:z.cells.size=size) (X:0<size)
  {v:Value} {n:Nat} {xs:List Value} (D:E3 w e size v n xs)
  {ad:Option Addr} {m c:Nat} {news:List Value} (hl:news.length=m*size) (L:m=0\/∃a,ad=some a/\∀j u,news[j]? =some u->w.cell? (a.add j)=some u) (h1:∀u∈news,u.oneCell'=true)
  (Y:n+m<=maxLen) (I:(n+m)*i.bytes<=140737488355328):
  ∃M w',(Builtin.append_ #[t,t] ty #[v, .slice ad m c]).run P w= .ok M w'/\E3 w' e size M (n+m) (xs++news)/\w.grownBy w' v.ownBlock/\(M.ownBlock=v.ownBlock\/M.ownBlock=some w.heap.size):=by
 cases ad with
 |some a=>
  have T:∀j u,news[j]? =some u->w.cell? (a.add j)=some u:=by
   rcases L with rfl|⟨a',a2,hh⟩
   ·grind
   ·grind
  rcases D.2 with⟨rfl,rfl⟩|⟨g,o,cap,cur,rfl,e3,e4,e5,e6,e7⟩
  ·have hx:xs=[]:=fy (by simpa using D.1);subst hx;obtain⟨M,w',q1,q2,U,_,q5⟩:=run_append_own_at (P:=P) w 0 t ty e i z size i.bytes O S hz G rfl V X (.slice none 0 0) 0 [] (World.ownsRow_nil w 0 e size) a m c news hl T h1 Y I (Nat.zero_le _)
   grind [Zjc]
  ·by_cases hr:n+m<=cap
   ·subst G;have a3:n*i.size+m*i.size<=cap*i.size:=by rw[<-gx];exact bg _ hr
    have q:=Ya6 (P:=P) (ty:=ty) (off:=o) (sLen:=n) (sCap:=cap) (c:=c) O S e3 hl T h1 hr (by omega);have a4:=LJ cur.toList (o+n*i.size) news;refine⟨_,_,q,⟨by grind, .inr ⟨g,o,cap,_,rfl,setRow_heap w g cur _ e _ e3,hr,e5,by grind,?_⟩⟩,⟨rfl,rfl,rfl,by simp,λk hk a0=>setRow_other w g k _ (λe=>a0 (by rw[e];rfl))⟩, .inl rfl⟩;have hL:o+n*i.size+news.length<=cur.toList.length:=by rw[hl,fe];omega
    show((splice cur.toList (o+n*i.size) news).toArray.toList.drop o).take ((n+m)*i.size)=xs++news;simp only[List.toList_toArray];rw[GD _ _ _ hL,d9,i9 (by grind),List.drop_take,show o+n*i.size-o=n*i.size from by omega,e7,<-d9];rw[List.take_append_of_le_length (by grind),ia (by grind)]
   ·obtain ⟨M, w', q1, q2, U⟩ := run_append_arg_grows (P := P) w t ty e i z size i.bytes O S hz G rfl V X ⟨g, o, none⟩ n cap xs D.1 (λj u hj => by
     have:=Q9 D (g:=g) rfl j u hj;rw[Addr.add_lit];exact this) a m c news hl T (by omega) Y I
    have N := run_append_grow (P := P) w t ty e i z O S hz ⟨g, o, none⟩ n cap xs (by rw [G]; exact D.1) (λj u hj => by
     have:=Q9 D (g:=g) rfl j u hj;rw[Addr.add_lit];exact this) a m c news (by grind) T (by omega) (by grind [maxLen]) (growslice_fits (by omega) I)
    rw[q1]at N;simp only[Result.ok.injEq]at N;refine⟨M,w',q1,Zjc q2,⟨U.os,U.tape,U.output,U.size,λk hk _=>U.block k hk (by simp)⟩, .inr ?_⟩;rw[N.1];rfl
 |none=>
  have hm:m=0:=by
   rcases L with h|⟨_,h,_⟩
   ·exact h
   ·grind
  subst hm;have T:news=[]:=fy (by omega);subst T;refine⟨v,w,?_,by grind,⟨rfl,rfl,rfl,bt _,λ_ _ _=>rfl⟩, .inl rfl⟩;rcases D.2 with⟨rfl,rfl⟩|⟨g,o,cap,cur,rfl,_,a1,_⟩
  ·simp[Builtin.append_,run_underlying O,sizeOf,typeInfo,S,Builtin.lenOf,Builtin.firstCells]
  ·simp[Builtin.append_,run_underlying O,sizeOf,typeInfo,S,Builtin.lenOf,Builtin.firstCells,a1,storeCells]
theorem Zkn (h:RelE Z tm aB aC ρ tmps w) {ks:List Kd} {a:AC} {x:Value} {m:List (List AC)} (D:ID aC ks a=some m) (G:CC ρ w a x):
  ∃I c news,x= .slice I m.length c/\RowC ρ.im w ks m news/\(m.length=0\/∃a,I=some a/\∀j u,news[j]? =some u->w.cell? (a.add j)=some u):=by
 unfold ID at D;split at D
 ·simp at D;subst D;simp only[CC,CP]at G;subst G;exact⟨none,0,[],rfl,⟨by simp,by simp,λi c X=>by grind⟩, .inl rfl⟩
 ·rename_i L l;cases hb:C6 ks L<;>rw[hb]at D
  ·grind
  ·simp at D;subst D;have:=IQ hb;subst this;simp only[CC,CP]at G;obtain⟨I,cap,rfl,hle,Y,hf⟩:=G;rcases hf with rfl|⟨b,o,rfl,_,M⟩
   ·exact⟨I,cap,[],rfl,⟨by simp,by simp,λi c X=>by grind⟩, .inl rfl⟩
   ·obtain⟨ys,S,T⟩:=Z7a l Y M;refine⟨_,cap,ys,rfl,S, .inr ⟨_,rfl,λj u N=> ?_⟩⟩;rw[Addr.add_lit];exact T j u N
 ·rename_i id w' n;split at D
  ·rename_i r hr;cases hb:C6 ks r.ks<;>rw[hb]at D
   ·grind
   ·simp at D;subst D;have:=IQ hb;subst this;obtain⟨S,T,_,xs,U,q4⟩:=h.ro id r hr;obtain⟨O,a0,a1⟩:=G;subst O;rcases U.2 with⟨e1,e2⟩|⟨V,o,cap,cur,e1,e3,e4,e5,e6,e7⟩
    ·grind
    ·refine⟨some ⟨V,o,none⟩,cap,xs,e1,q4, .inr ⟨_,rfl,λj u N=> ?_⟩⟩;have:=Q9 U (g:=V) (by rw[e1];rfl) j u N;rw[e1]at this;rw[Addr.add_lit];exact this
  grind
 grind
theorem RelE.growIm {im':Nat->Prop} {w':World} (D:RelE Z tm aB aC ρ tmps w) (G:Below w.heap.size w w') (I:∀b,ρ.im b->im' b) (M:∀b,im' b->ρ.im b\/(w.heap.size<=b/\b<w'.heap.size)):
  RelE Z tm aB aC {ρ with im:=im'} tmps w':=by
 have hold:∀b,b<w.heap.size->w'.heap[b]? =w.heap[b]? :=λb hb=>G.block b hb;have O:∀(a:AC) (x:Value),CC ρ w a x->CC {ρ with im:=im'} w' a x:=λa x U=>CC.mono (ρ:=ρ) (ρ':={ρ with im:=im'}) I (λb hb=>hold b (D.ib b hb).1) a x (AC.agree_refl rfl rfl rfl a) U;refine⟨D.tl,λi v hi=>TVR.mono O v _ (D.tv i v hi),D.wt,D.wb,?_,D.bi,?_,D.ri,D.br,?_,D.fr.trans (Fr.of_below G D.fs),λk N=>db (D.fs k N) G.size,λb hb=>I b (D.i0 b hb),λb hb=>(M b hb).elim (D.i1 b) λq=> .inr λhf=>absurd (D.fs b hf) (by omega),λk b N=>D.k0 k b N⟩
 ·intro k b N;obtain⟨arr,V,S,T⟩:=D.bx k b N;exact⟨arr,by grind,S.mono λa _ x U=>O a x U,T⟩
 ·intro id r0 L;obtain⟨V,S,q0,ys,T,q4⟩:=D.ro id r0 L;exact⟨V,S,q0,ys,M8 T λg hg=>hold g (D.rwlt L hg).2,q4.mono I (λb hb=>hold b (D.ib b hb).1)⟩
 ·intro b hb;rcases M b hb with X|⟨a0,Y⟩
  ·obtain⟨V,S,T⟩:=D.ib b X
   grind
  ·exact⟨Y,λk bo N e=>by have:=D.bxlt N;grind,λid r0 L e=>by have e':(ρ.rv id).ownBlock=some b:=e;have:=(D.rwlt L e').2;omega⟩
end
open Go.RowKit
section
variable {P:Program} {C:Cfg} {ρ:Env} {w:World} {R:Type} {Z:Base} {tm:List TV} {aB:List (Nat×Box)} {aC:List (Nat×Row)} {tmps:Array Value}
def AC.nmP (Kp:Nat->Prop):AC->Prop
 | .ptr k _=>Kp k
 |_=>True
def AC.nm (Kp D:Nat->Prop):AC->Prop
 | .ptr k _=>Kp k
 | .bsl k _=>Kp k
 | .own id _ _=>D id
 | .rptr id _ _=>D id
 | .clo _ fs cs=>(∀a∈fs,AC.nmP Kp a)/\∀a∈cs,AC.nmP Kp a
 |_=>True
def TV.nm (Kp D:Nat->Prop):TV->Prop
 | .v _ cs=>∀a∈cs,AC.nm Kp D a
 | .tup ps=>∀p∈ps,∀a∈p.2,AC.nm Kp D a
 | .vD=>True
theorem AC.nm_of_inK {keys ids:List Nat} {a:AC} (h:AC.inK keys ids a=true):a.nm (· ∈keys) (· ∈ids):=by
 have D:∀l:List AC,Ao (AC.inK.inP keys) l=true->∀a∈l,AC.nmP (· ∈keys) a:=by
  intro l G a I;have:=Ax.1 G a I;cases a<;>first|trivial|exact Fe.1 this
 cases a with
 |ptr k o=>exact Fe.1 h
 |bsl k o=>exact Fe.1 h
 |own id w n=>exact Fe.1 h
 |rptr id i s=>exact Fe.1 h
 |clo f fs cs=>
  simp only[AC.inK,ak]at h;exact⟨D fs h.1,D cs h.2⟩
 |_=>trivial
theorem TV.nm_of_inK {keys ids:List Nat} {v:TV} (h:TV.inK keys ids v=true):v.nm (· ∈keys) (· ∈ids):=by
 cases v with
 |vD=>trivial
 |v g cs=>exact λa D=>AC.nm_of_inK (Ax.1 h a D)
 |tup ps=>exact λp G a D=>AC.nm_of_inK (Ax.1 (Ax.1 h p G) a D)
theorem AC.nm_of_wf {a:AC} (h:AC.wf aB aC a):a.nm (λk=>∃b,Ac aB k=some b) (λi=>∃r,Ac aC i=some r):=by
 have G:∀l:List AC,(∀a∈l,AC.wfP aB a)->∀a∈l,AC.nmP (λk=>∃b,Ac aB k=some b) a:=by
  intro l I a L;have:=I a L;cases a<;>first|trivial|exact this
 cases a with
 |ptr k o=>exact h
 |bsl k o=>exact h
 |own id w n=>obtain⟨r,D,_⟩:=h;exact⟨r,D⟩
 |rptr id i s=>obtain⟨r,D,_⟩:=h;exact⟨r,D⟩
 |clo f fs cs=>exact⟨G fs h.1,G cs h.2⟩
 |_=>trivial
theorem TV.nm_of_wf {v:TV} (h:TV.wf aB aC v):v.nm (λk=>∃b,Ac aB k=some b) (λi=>∃r,Ac aC i=some r):=by
 cases v with
 |vD=>trivial
 |v g cs=>exact λa D=>AC.nm_of_wf (h a D)
 |tup ps=>exact λp G a D=>AC.nm_of_wf (h p G a D)
theorem Qrg {D G:Env} {Kp:Nat->Prop} {L:Nat->Nat} (hb:∀k,Kp k->G.bx (L k)=D.bx k) (O:G.im=D.im):∀(l:List AC) (xs:List Value),(∀a∈l,AC.nmP Kp a)->CLc D w l xs->CLc G w (AC.ren.renP L l) xs
 |[],[],_,_=>trivial
 |a::l,x::xs,M,h=>by
  have S:=Qrg hb O l xs (λb hb=>M b (by grind)) h.2;have N:=h.1;have I:=M a (by simp);cases a<;>simp only[AC.ren.renP]<;>refine⟨?_,S⟩<;>first
   |(simp only[CCc]at N⊢;rw[hb _ I];exact N)
   |grind [CCc]
 |[],_::_,_,h=>h.elim
 |_::_,[],_,h=>h.elim
theorem Qsm {G I:Env} {Kp M:Nat->Prop} {N ri:Nat->Nat} (hb:∀k,Kp k->I.bx (N k)=G.bx k) (L:∀i,M i->I.rv (ri i)=G.rv i/\I.wd (ri i)=G.wd i) (O:I.im=G.im)
  {a:AC} {x:Value} (D:a.nm Kp M) (h:CC G w a x):CC I w (a.ren N ri) x:=by
 cases a with
 |ptr k o=>simp only[AC.ren,CC]at*;rw[hb k D];exact h
 |bsl k o=>simp only[AC.ren,CC]at*;rw[hb k D];exact h
 |own id w n=>simp only[AC.ren,CC]at*;rw[(L id D).1,(L id D).2];exact h
 |rptr id i s=>simp only[AC.ren,CC]at*;rw[(L id D).1,(L id D).2];exact h
 |vptr cs s=>grind [AC.ren,CC]
 |clo f fs cs=>
  obtain⟨xs,S,T,U,V⟩:=h;exact⟨xs,S,T,Qrg hb O fs _ D.1 U,Qrg hb O cs _ D.2 V⟩
 |vD=>exact h
 |int=>grind [AC.ren,CC]
 |bool=>grind [AC.ren,CC]
 |raw=>grind [AC.ren,CC]
 |nilSl=>grind [AC.ren,CC]
 |vC=>grind [AC.ren,CC]
theorem QV {D G:Env} {Kp Ip:Nat->Prop} {I ri:Nat->Nat} (hb:∀k,Kp k->G.bx (I k)=D.bx k) (L:∀i,Ip i->G.rv (ri i)=D.rv i/\G.wd (ri i)=D.wd i) (M:G.im=D.im):
  ∀{l:List AC} {xs:List Value},(∀a∈l,a.nm Kp Ip)->CL (CC D w) l xs->CL (CC G w) (l.map (AC.ren I ri)) xs
 |[],[],_,h=>h
 |a::l,y::xs,N,h=>⟨Qsm hb L M (N a (by simp)) h.1,QV hb L M (λb hb=>N b (by grind)) h.2⟩
 |[],_::_,_,h=>h.elim
 |_::_,[],_,h=>h.elim
theorem Zgg {G I:Env} {Kp Ip:Nat->Prop} {V ri:Nat->Nat} (hb:∀k,Kp k->I.bx (V k)=G.bx k) (M:∀i,Ip i->I.rv (ri i)=G.rv i/\I.wd (ri i)=G.wd i) (N:I.im=G.im)
  {v:TV} {x:Value} (O:v.nm Kp Ip) (h:TVR G w v x):TVR I w (v.ren V ri) x:=by
 cases v with
 |vD=>trivial
 |v b cs=>
  cases b
  ·obtain⟨a,rfl,Y⟩:=h;exact⟨_,rfl,Qsm hb M N (O a (by simp)) Y⟩
  ·obtain⟨S,rfl,D⟩:=h;exact⟨S,rfl,QV hb M N O D⟩
 |tup ps=>
  obtain⟨S,rfl,D⟩:=h;refine⟨S,rfl,?_⟩;generalize S.toList=l at D;induction ps generalizing l with
  |nil=>cases l<;>first|exact D|exact D.elim
  |cons p ps ih=>
   cases l with
   |nil=>exact D.elim
   |cons y l=>
    obtain⟨b,cs⟩:=p;refine⟨?_,ih (λq hq=>O q (by grind)) l D.2⟩;have X:=D.1;have L:=O (b,cs) (by simp);cases b
    ·obtain⟨a,T,U⟩:=X;subst T;exact⟨_,rfl,Qsm hb M N (L a (by simp)) U⟩
    ·obtain⟨zs,T,U⟩:=X;exact⟨zs,T,QV hb M N L U⟩
theorem SY {b1 b2:List (Nat×Box)} {O S:List (Nat×Row)} {Kp Ip:Nat->Prop} {I ri:Nat->Nat} (hb:∀k,Kp k->(∃b,Ac b1 k=some b)->∃b,Ac b2 (I k)=some b)
  (T:∀i r,Ip i->Ac O i=some r->∃r',Ac S (ri i)=some r'/\r'.n=r.n/\r'.w=r.w) {a:AC} (D:a.nm Kp Ip) (h:AC.wf b1 O a):AC.wf b2 S (a.ren I ri):=by
 have U:∀l:List AC,(∀a∈l,AC.nmP Kp a)->(∀a∈l,AC.wfP b1 a)->∀a∈AC.ren.renP I l,AC.wfP b2 a:=by
  intro l;induction l with
  |nil=>grind [AC.ren.renP]
  |cons c l X=>
   intro D V a G;have L:=X (λb hb=>D b (by grind)) (λb hb=>V b (by grind));have Y:=D c (by simp);have h2:=V c (by simp);cases c<;>simp only[AC.ren.renP,av]at G<;>rcases G with rfl|G<;>first
    |exact L a G
    |exact hb _ Y h2
    |trivial
 cases a with
 |ptr k o=>exact hb k D h
 |bsl k o=>exact hb k D h
 |own id w n=>obtain⟨r,M,q2,q3⟩:=h;obtain⟨r',N,p2,p3⟩:=T id r D M;exact⟨r',N,by omega,by omega⟩
 |rptr id i s=>obtain⟨r,M,q2⟩:=h;obtain⟨r',N,p2,p3⟩:=T id r D M;exact⟨r',N,by omega⟩
 |vptr=>exact h
 |clo f fs cs=>exact⟨U fs D.1 h.1,U cs D.2 h.2⟩
 |_=>trivial
theorem Q4e {b1 b2:List (Nat×Box)} {I L:List (Nat×Row)} {Kp Ip:Nat->Prop} {M ri:Nat->Nat} (hb:∀k,Kp k->(∃b,Ac b1 k=some b)->∃b,Ac b2 (M k)=some b)
  (N:∀i r,Ip i->Ac I i=some r->∃r',Ac L (ri i)=some r'/\r'.n=r.n/\r'.w=r.w) {v:TV} (O:v.nm Kp Ip) (h:TV.wf b1 I v):TV.wf b2 L (v.ren M ri):=by
 cases v with
 |vD=>trivial
 |v g cs=>
  intro a D;simp only[ba]at D;obtain⟨c,G,rfl⟩:=D;exact SY hb N (O c G) (h c G)
 |tup ps=>
  intro p S a D;simp only[ba]at S;obtain⟨q,T,rfl⟩:=S;simp only[ba]at D;obtain⟨c,G,rfl⟩:=D;exact SY hb N (O q T c G) (h q T c G)
theorem IL:∀{l:List Nat},B8 l=true↔l.Nodup
 |[]=>by simp[B8]
 |k::l=>by
  simp only[B8,jf,<-IL (l:=l)]
  grind [Fe]
theorem Df {l:List Nat} {n:Nat} (h:n∈l):pos l n<l.length/\nth 0 l (pos l n)=n:=by
 induction l with
 |nil=>grind
 |cons m l D=>
  simp only[pos];cases hb:Nat.beq m n
  ·have G:=G5 hb;have:n∈l:=by
    rcases av.1 h with e|e
    ·omega
    ·exact e
   obtain⟨L,I⟩:=D this;exact⟨by grind,by simp only[aq];exact I⟩
  grind [nth,Nat.eq_of_beq_eq_true]
theorem Zqn {l:List Nat} {m n:Nat} (D:m∈l) (G:n∈l) (h:pos l m=pos l n):m=n:=by
 rw[<-(Df D).2,<-(Df G).2,h]
theorem Ou {l:List Nat} (I:l.Nodup) {i:Nat} (L:i<l.length):pos l (nth 0 l i)=i:=by
 induction l generalizing i with
 |nil=>grind
 |cons m l M=>
  cases i with
  |zero=>simp[nth,pos]
  |succ i=>
   have D:i<l.length:=by simpa using L
   have G:nth 0 l i∈l:=by
    rw[B5,List.getD,ai D];exact bh D
   rw[jf]at I;simp only[nth,pos];rw[Ka (by grind)]
   grind
theorem Gz {l:List Nat} {i:Nat} (D:i<l.length):nth 0 l i∈l:=by grind [B5]
theorem Kh {I ri:Nat->Nat}:∀{keys:List Nat} {b:Nat} {D:List (Nat×Box)},Da aB I ri b keys=some D->
  (∀i,i<keys.length->∃x,Ac aB (nth 0 keys i)=some x/\Ac D (b+i)=some ⟨x.ty,x.cells.map (AC.ren I ri)⟩)/\∀c x,Ac D c=some x->∃i,i<keys.length/\c=b+i
 |[],b,D,h=>by grind [Da,Ac]
 |k::keys,b,D,h=>by
  simp only[Da]at h;split at h
  ·rename_i x M;split at h
   ·rename_i l N;simp at h;subst h;obtain⟨O,S⟩:=Kh N;refine⟨λi U=> ?_,λc y G=> ?_⟩
    ·cases i with
     |zero=>exact⟨x,M,by simp[Ac]⟩
     |succ i=>
      obtain⟨y,L,T⟩:=O i (by grind);refine⟨y,L,?_⟩
      grind [Ac,Ka]
    ·simp only[Ac]at G;cases hb:Nat.beq b c<;>rw[hb]at G
     ·obtain⟨i,L,T⟩:=S c y G;exact⟨i+1,by grind,by omega⟩
     simp_all
   grind
  grind
theorem Vt:∀{keys:List Nat} {b:Nat} {D:List (Nat×Row)},Fy aC b keys=some D->
  (∀i,i<keys.length->∃x,Ac aC (nth 0 keys i)=some x/\Ac D (b+i)=some x)/\∀c x,Ac D c=some x->∃i,i<keys.length/\c=b+i
 |[],b,D,h=>by grind [Fy,Ac]
 |k::keys,b,D,h=>by
  simp only[Fy]at h;split at h
  ·rename_i x L;split at h
   ·rename_i l M;simp at h;subst h;obtain⟨N,O⟩:=Vt M;refine⟨λi T=> ?_,λc y G=> ?_⟩
    ·cases i with
     |zero=>exact⟨x,L,by simp[Ac]⟩
     |succ i=>
      obtain⟨y,I,S⟩:=N i (by grind);refine⟨y,I,?_⟩
      grind [Ac,Ka]
    ·simp only[Ac]at G;cases hb:Nat.beq b c<;>rw[hb]at G
     ·obtain⟨i,I,S⟩:=O c y G;exact⟨i+1,by grind,by omega⟩
     simp_all
   grind
  grind
def IG {α β:Type} (D:Nat->Nat) (g:α->β):List (Nat×α)->List (Nat×β)->List (Nat×β)
 |[],l=>l
 |(k,b)::m,l=>IG D g m (ins l (D k) (g b))
theorem Yc (D ri:Nat->Nat):∀(m:List (Nat×Box)) (l:List (Nat×Box)),JD D ri m l=IG D (λb=>⟨b.ty,b.cells.map (AC.ren D ri)⟩) m l
 |[],_=>rfl
 |(_,_)::m,_=>by simp only[JD,IG];exact Yc D ri m _
theorem Qwk (ri:Nat->Nat):∀(m:List (Nat×Row)) (l:List (Nat×Row)),Ia ri m l=IG ri (λb=>b) m l
 |[],_=>rfl
 |(_,_)::m,_=>by simp only[Ia,IG];exact Qwk ri m _
theorem Tt {α β:Type} {rk:Nat->Nat} {g:α->β}:∀{m:List (Nat×α)} {l:List (Nat×β)},(m.map (·.1)).Nodup->(∀k∈m.map (·.1),∀j∈m.map (·.1),rk k=rk j->k=j)->(∀k∈m.map (·.1),Ac l (rk k)=none)->
  (∀k b,Ac m k=some b->Ac (IG rk g m l) (rk k)=some (g b))/\(∀n,(∀k∈m.map (·.1),n≠rk k)->Ac (IG rk g m l) n=Ac l n)
 |[],l,_,_,_=>⟨λk b h=>by grind [Ac],λn _=>rfl⟩
 |(j,c)::m,l,D,I,M=>by
  simp only[be,jf]at D;have L:∀k∈m.map (·.1),rk k≠rk j:=λk G e=>D.1 (by grind);obtain⟨N,O⟩:=Tt (rk:=rk) (g:=g) (m:=m) (l:=ins l (rk j) (g c)) D.2 (λk G q S=>I k (by grind) q (by grind)) (λk G=>by grind [DR])
  grind [Ac,Ep,Nat.eq_of_beq_eq_true,IG,DR]
theorem KQ {α:Type}:∀(ks:List Nat) (l:List (Nat×α)) (n:Nat),Ac (Dd ks l) n=if n∈ks then none else Ac l n
 |[],l,n=>by rfl
 |k::ks,l,n=>by
  simp only[Dd];rw[KQ ks];by_cases h:n=k
  ·simp_all [Rm]
  grind [Kj]
theorem KI {α:Type}:∀{l:List (Nat×α)} {k:Nat},k∈l.map (·.1)↔∃b,Ac l k=some b
 |[],k=>by simp[Ac]
 |(j,c)::l,k=>by
  simp only[be,av,Ac];cases hb:Nat.beq j k
  ·simp only[aq,<-KI (l:=l)]
   grind [G5]
  simp_all
theorem Km {α:Type} {names:List Nat}:∀{l:List (Nat×α)} {k:Nat},k∈Bi names l↔k∈l.map (·.1)/\ ¬(base<=k/\k-base<names.length)
 |[],k=>by simp[Bi]
 |(j,c)::l,k=>by
  simp only[Bi,be,av];cases hb:(Nat.ble base j&&Nat.blt (j-base) names.length)
  ·have D: ¬(base<=j/\j-base<names.length):=by
    rintro⟨G,I⟩;have e1:=ez G;have e2:Nat.blt (j-base) names.length=true:=ez I;rw[e1,e2]at hb;cases hb
   simp only[aq,av,Km (l:=l)];constructor
   ·grind
   grind
  ·simp only[ak]at hb;have D:base<=j/\j-base<names.length:=⟨az hb.1,az hb.2⟩;simp only[aj,Km (l:=l)];constructor
   ·grind
   grind
theorem Mq {names fresh:List Nat} {d k:Nat} (h:base<=k/\k-base<names.length):Bz names fresh d k=nth 0 names (k-base):=by
 unfold Bz;rw[ez h.1,show Nat.blt (k-base) names.length=true from ez h.2];rfl
theorem Ycq {names fresh:List Nat} {d k:Nat} (h: ¬(base<=k/\k-base<names.length)):Bz names fresh d k=100000+100*d+pos fresh k:=by
 unfold Bz;have:(Nat.ble base k&&Nat.blt (k-base) names.length)=false:=by
  apply Bool.eq_false_iff.2;intro hb;simp only[ak]at hb;exact h ⟨az hb.1,az hb.2⟩
 grind
theorem Za8 {α β:Type} {names:List Nat} {d:Nat} {D:List (Nat×α)} {l:List (Nat×β)} (L:names.Nodup) (M:∀k∈names,∃b,Ac l k=some b)
  (hf:∀k∈Bi names D,Ac l (Bz names (Bi names D) d k)=none):
  ∀k∈D.map (·.1),∀j∈D.map (·.1),Bz names (Bi names D) d k=Bz names (Bi names D) d j->k=j:=by
 intro k N j O he;by_cases G:base<=k/\k-base<names.length<;>by_cases I:base<=j/\j-base<names.length
 ·rw[Mq G,Mq I]at he;have:=ie (pos names) he
  grind [Ou]
 ·grind [Km,Mq,Gz]
 ·grind [Km,Mq,Gz]
 grind [Ycq,Zqn,Km]
noncomputable def J4 {α:Type} (m:List (Nat×α)) (bk:Nat->Nat) (n:Nat):Option Nat:= @dite _ (∃k∈m.map (·.1),bk k=n) (Classical.propDecidable _) (λh=>some (Classical.choose h)) (λ_=>none)
theorem Qe3 {α:Type} {m:List (Nat×α)} {bk:Nat->Nat} (D:∀k∈m.map (·.1),∀j∈m.map (·.1),bk k=bk j->k=j) {k:Nat} (G:k∈m.map (·.1)):J4 m bk (bk k)=some k:=by
 unfold J4;have h:∃j∈m.map (·.1),bk j=bk k:=⟨k,G,rfl⟩
 grind
theorem Qdp {α:Type} {m:List (Nat×α)} {bk:Nat->Nat} {n:Nat} (h:∀k∈m.map (·.1),n≠bk k):J4 m bk n=none:=by
 unfold J4
 grind
theorem Zh7:∀(ids:List Nat) {v:TV} {x:Value},TVR ρ w v x->TVR ρ w (HM ids v) x
 |[],_,_,h=>h
 |_::l,_,_,h=>Zh7 l (TV.kill_TVR h)
theorem Zf4:∀(ids:List Nat) {v:TV},TV.wf aB aC v->TV.wf aB aC (HM ids v)
 |[],_,h=>h
 |_::l,_,h=>Zf4 l (TV.kill_wf h)
theorem Qp5 {id j:Nat} {a:AC} (h:AC.free j a):AC.free j (a.kill id):=by
 cases a with
 |own i w n=>simp only[AC.kill];cases Nat.beq i id<;>first|exact h|trivial
 |rptr i n s=>simp only[AC.kill];cases Nat.beq i id<;>first|exact h|trivial
 |_=>trivial
theorem Yj6 {id j:Nat} {v:TV} (h:TV.free j v):TV.free j (v.kill id):=by
 cases v with
 |v g cs=>
  intro a D;simp only[ba]at D;obtain⟨b,hb,rfl⟩:=D;exact Qp5 (h b hb)
 |tup ps=>
  intro p G a D;simp only[ba]at G;obtain⟨q,I,rfl⟩:=G;simp only[ba]at D;obtain⟨b,hb,rfl⟩:=D;exact Qp5 (h q I b hb)
 |vD=>trivial
theorem Q0t {j:Nat}:∀(ids:List Nat) {v:TV},TV.free j v->TV.free j (HM ids v)
 |[],_,h=>h
 |_::l,_,h=>Q0t l (Yj6 h)
theorem Zdq:∀(ids:List Nat) (v:TV),∀id∈ids,TV.free id (HM ids v)
 |[],_,id,h=>by grind
 |i::l,v,id,h=>by
  simp only[av]at h;by_cases e:id∈l
  ·exact Zdq l (v.kill i) id e
  ·have:id=i:=h.resolve_right e;subst this;exact Q0t l (TV.kill_free id v)
theorem Q95:∀(ids:List Nat) (b:Box),(C9 ids b).ty=b.ty
 |[],_=>rfl
 |_::l,b=>by rw[C9,Q95 l];rfl
theorem Zdu:∀(ids:List Nat) {b:Box} {xs:List Value},CL (CC ρ w) b.cells xs->CL (CC ρ w) (C9 ids b).cells xs
 |[],_,_,h=>h
 |i::l,b,_,h=>Zdu l (b:=b.kill i) h.kill
theorem Zc5:∀(ids:List Nat) {b:Box},(∀a∈b.cells,AC.wf aB aC a)->∀a∈(C9 ids b).cells,AC.wf aB aC a
 |[],_,h=>h
 |i::l,b,h=>Zc5 l (b:=b.kill i) (λa D=>by grind [Box.kill,AC.kill_wf])
theorem Q3l {j:Nat}:∀(ids:List Nat) {b:Box},(∀a∈b.cells,AC.free j a)->∀a∈(C9 ids b).cells,AC.free j a
 |[],_,h=>h
 |i::l,b,h=>Q3l l (b:=b.kill i) (λa D=>by grind [Box.kill,Qp5])
theorem Q6n:∀(ids:List Nat) (b:Box),∀id∈ids,∀a∈(C9 ids b).cells,AC.free id a
 |[],_,id,h=>by grind
 |i::l,b,id,h=>by
  simp only[av]at h;by_cases e:id∈l
  ·exact Q6n l (b.kill i) id e
  ·have:id=i:=h.resolve_right e;subst this;exact Q3l l (b:=b.kill id) (λa D=>by grind [Box.kill,AC.kill_free])
end
open Go.RowKit
section
variable {P:Program} {C:Cfg} {ρ:Env} {w:World} {R:Type} {Z:Base} {tm:List TV} {aB:List (Nat×Box)} {aC:List (Nat×Row)} {tmps:Array Value}
theorem Q60 {k:Nat} {b:Box} (h:Ac aB k=some b):Ev aB k=b.cells:=by grind [Ev]
def Js (ρ:Env) (keys ids:List Nat):Env:=⟨λc=>ρ.bx (nth 0 keys (c-base)),λc=>ρ.rv (nth 0 ids (c-base)),λc=>ρ.wd (nth 0 ids (c-base)),ρ.im⟩
def Iy (w:World) (ρ:Env) (keys ids:List Nat):Nat->Prop:=λb=>b<w.heap.size/\(∀k∈keys,ρ.bx k≠b)/\∀id∈ids,(ρ.rv id).ownBlock≠some b
theorem Zws (D:RelE Z tm aB aC ρ tmps w) {keys ids:List Nat} {O:List (Nat×Box)} {S:List (Nat×Row)}
  (G:Da aB (λk=>base+pos keys k) (λi=>base+pos ids i) base keys=some O) (I:Fy aC base ids=some S):Gt (Iy w ρ keys ids) w:=by
 obtain⟨b1,b2⟩:=Kh G;obtain⟨T,U⟩:=Vt I;refine Z.gt.mono λg cs _ L=>⟨⟨D.fs g L,λk M e=> ?_,λid N e=> ?_⟩,D.fr.block g L⟩
 ·obtain⟨x,q,_⟩:=b1 (pos keys k) (Df M).1;rw[(Df M).2]at q;obtain⟨_,_,_,V⟩:=D.bx k x q
  grind
 ·obtain⟨x,q,_⟩:=T (pos ids id) (Df N).1;rw[(Df N).2]at q;exact(D.ro id x q).2.2.1 g e L
theorem VF (O:RelE Z tm aB aC ρ tmps w) {args:List TV} {xs:List Value} (h1:xs.length=args.length)
  (h2:∀(i:Nat) (a:TV) (x:Value),args[i]? =some a->xs[i]? =some x->TVR ρ w a x) (a7:∀v∈args,TV.wf aB aC v) {keys ids:List Nat} (b3:keys.Nodup) (b0:ids.Nodup)
  (a0:∀v∈args,TV.inK keys ids v=true) (U:∀k∈keys,Ao (AC.inK keys ids) (Ev aB k)=true) {mb:List (Nat×Box)} {mr:List (Nat×Row)}
  (a1:Da aB (λk=>base+pos keys k) (λi=>base+pos ids i) base keys=some mb) (a2:Fy aC base ids=some mr):
  RelE (D6 (Iy w ρ keys ids) w (Js ρ keys ids) mb (Zws O a1 a2)) (args.map (TV.ren (λk=>base+pos keys k) (λi=>base+pos ids i))) mb mr (Js ρ keys ids) xs.toArray w:=by
 obtain⟨b1,b2⟩:=Kh a1;obtain⟨r1,r2⟩:=Vt a2;have eb:∀k,k∈keys->(Js ρ keys ids).bx (base+pos keys k)=ρ.bx k:=λk L=>by
  show ρ.bx (nth 0 keys (base+pos keys k-base))=_;simp_all [Df]
 have er:∀i,i∈ids->(Js ρ keys ids).rv (base+pos ids i)=ρ.rv i/\(Js ρ keys ids).wd (base+pos ids i)=ρ.wd i:=λi D=>by
  constructor
  ·show ρ.rv (nth 0 ids (base+pos ids i-base))=_;simp_all [Df]
  ·show ρ.wd (nth 0 ids (base+pos ids i-base))=_;simp_all [Df]
 have wb:∀k,k∈keys->(∃b,Ac aB k=some b)->∃b,Ac mb (base+pos keys k)=some b:=λk L _=>by
  obtain⟨x,_,q⟩:=b1 (pos keys k) (Df L).1
  grind
 have wr:∀i r,i∈ids->Ac aC i=some r->∃r',Ac mr (base+pos ids i)=some r'/\r'.n=r.n/\r'.w=r.w:=λi r D V=>by
  obtain⟨x,G,q⟩:=r1 (pos ids i) (Df D).1;simp_all [Df]
 have X:∀c x,Ac mb c=some x->∃i M,i<keys.length/\c=base+i/\Ac aB (nth 0 keys i)=some M/\x=⟨M.ty,M.cells.map (AC.ren (λk=>base+pos keys k) (λi=>base+pos ids i))⟩:=by
  intro c x S;obtain⟨i,D,rfl⟩:=b2 c x S;obtain⟨M,G,N⟩:=b1 i D;rw[S]at N;simp at N;exact⟨i,M,D,rfl,G,N⟩
 have lr:∀c x,Ac mr c=some x->∃i,i<ids.length/\c=base+i/\Ac aC (nth 0 ids i)=some x:=by
  intro c x S;obtain⟨i,D,rfl⟩:=r2 c x S;obtain⟨M,G,N⟩:=r1 i D;rw[S]at N;simp at N;subst N;exact⟨i,D,rfl,G⟩
 have xb:∀i,(Js ρ keys ids).bx (base+i)=ρ.bx (nth 0 keys i):=λi=>by
  show ρ.bx (nth 0 keys (base+i-base))=_;simp
 have xr:∀i,(Js ρ keys ids).rv (base+i)=ρ.rv (nth 0 ids i):=λi=>by
  show ρ.rv (nth 0 ids (base+i-base))=_;simp
 have xw:∀i,(Js ρ keys ids).wd (base+i)=ρ.wd (nth 0 ids i):=λi=>by
  show ρ.wd (nth 0 ids (base+i-base))=_;simp
 have a3:∀i j,i<keys.length->j<keys.length->nth 0 keys i=nth 0 keys j->i=j:=λi j D Y e=>by grind [Ou]
 have a4:∀i j,i<ids.length->j<ids.length->nth 0 ids i=nth 0 ids j->i=j:=λi j D Y e=>by grind [Ou]
 refine⟨by grind,λi v D=> ?_,λv hv=> ?_,λk b L a T=> ?_,λk b L=> ?_,λk k' b b' L a8 he=> ?_,λid r V=> ?_,λid id' r r' g V a9 hg a5=> ?_,λk b id r L V=> ?_,λb hb=>⟨(O.ib b hb).1,λk bo L=> ?_,λid r V=> ?_⟩,Fr.refl _ _,λk h=>h.1,λb h=>h,λb h=> .inl h,λk b L=> ?_⟩
 ·simp only[du,bn]at D;obtain⟨a,T,rfl⟩:=D;have a6:i<xs.length:=by rw[h1];exact(fg.1 T).1
  have e:xs.toArray.getD i undef=xs[i]:=by simp[Array.getD,a6]
  rw[e];exact Zgg (Kp:=(· ∈keys)) (Ip:=(· ∈ids)) eb er rfl (TV.nm_of_inK (a0 a (bz T))) (h2 i a _ T (ai a6))
 ·simp only[ba]at hv;obtain⟨a,T,rfl⟩:=hv;exact Q4e (Kp:=(· ∈keys)) (Ip:=(· ∈ids)) wb wr (TV.nm_of_inK (a0 a T)) (a7 a T)
 ·obtain⟨i,M,D,rfl,G,rfl⟩:=X k b L;simp only[ba]at T;obtain⟨c,S,rfl⟩:=T;have I:=U _ (Gz D);rw[Q60 G]at I;exact SY (Kp:=(· ∈keys)) (Ip:=(· ∈ids)) wb wr (AC.nm_of_inK (Ax.1 I c S)) (O.wb _ M G c S)
 ·obtain⟨i,M,D,rfl,G,rfl⟩:=X k b L;obtain⟨arr,p1,p2,p3⟩:=O.bx _ M G;have I:=U _ (Gz D);rw[Q60 G]at I;refine⟨arr,by grind,QV (Kp:=(· ∈keys)) (Ip:=(· ∈ids)) eb er rfl (λc S=>AC.nm_of_inK (Ax.1 I c S)) p2,?_⟩;rw[xb];exact λhf=>hf.2.1 _ (Gz D) rfl
 ·obtain⟨i,M,D,rfl,G,_⟩:=X k b L;obtain⟨j,y0,Y,rfl,N,_⟩:=X k' b' a8;rw[xb,xb]at he;rw[a3 i j D Y (O.bi _ _ _ _ G N he)]
 ·obtain⟨i,D,rfl,G⟩:=lr id r V;obtain⟨p1,p2,p0,ys,p3,p4⟩:=O.ro _ r G;exact⟨p1,by grind,λg hg hf=>hf.2.2 _ (Gz D) (by grind),ys,by grind,p4⟩
 ·obtain⟨i,D,rfl,G⟩:=lr id r V;obtain⟨j,Y,rfl,N⟩:=lr id' r' a9;rw[xr]at hg a5;rw[a4 i j D Y (O.ri _ _ _ _ g G N hg a5)]
 ·obtain⟨i,M,D,rfl,G,_⟩:=X k b L;obtain⟨j,Y,rfl,N⟩:=lr id r V;rw[xr,xb];exact O.br _ _ _ _ G N
 ·obtain⟨i,M,D,rfl,G,_⟩:=X k bo L;rw[xb];exact(O.ib b hb).2.1 _ _ G
 ·obtain⟨i,D,rfl,G⟩:=lr id r V;rw[xr];exact(O.ib b hb).2.2 _ _ G
 grind [D6,Option.map_eq_some_iff]
noncomputable def Dt (ρ G:Env) (I:List (Nat×Box)) (D:List (Nat×Row)) (bk bi:Nat->Nat):Env:=
 ⟨λn=>match J4 I bk n with|some k=>G.bx k|none=>ρ.bx n,λn=>match J4 D bi n with|some k=>G.rv k|none=>ρ.rv n,λn=>match J4 D bi n with|some k=>G.wd k|none=>ρ.wd n,G.im⟩
theorem SV (V:RelE Z tm aB aC ρ tmps w) {keys ids:List Nat} (e6:keys.Nodup) (d2:ids.Nodup) {mb D:List (Nat×Box)} {mr I:List (Nat×Row)}
  (e7:Da aB (λk=>base+pos keys k) (λi=>base+pos ids i) base keys=some mb) (e8:Fy aC base ids=some mr) {v:TV} {x:Value} {ρ2:Env} {w':World}
  {hG:Gt (Iy w ρ keys ids) w} (N:RelE (D6 (Iy w ρ keys ids) w (Js ρ keys ids) mb hG) [v] D I ρ2 #[x] w') {d:Nat}
  (a4:(D.map (·.1)).Nodup) (c3:(I.map (·.1)).Nodup) (e9:∀k∈Bi keys D,Ac aB (Bz keys (Bi keys D) d k)=none) (f0:∀k∈Bi ids I,Ac aC (Bz ids (Bi ids I) d k)=none):
  let bk:=Bz keys (Bi keys D) d
  let bi:=Bz ids (Bi ids I) d
  RelE Z (tm.map (HM ids)) (JD bk bi D ((Dd keys aB).map λp=>(p.1,C9 ids p.2))) (Ia bi I (Dd ids aC)) (Dt ρ ρ2 D I bk bi) tmps w'/\
   TVR (Dt ρ ρ2 D I bk bi) w' (v.ren bk bi) x/\TV.wf (JD bk bi D ((Dd keys aB).map λp=>(p.1,C9 ids p.2))) (Ia bi I (Dd ids aC)) (v.ren bk bi):=by
 intro bk bi;obtain⟨b1,b2⟩:=Kh e7;obtain⟨r1,r2⟩:=Vt e8;have b3:∀k∈keys,∃b,Ac aB k=some b:=λk T=>by
  obtain⟨x,q,_⟩:=b1 (pos keys k) (Df T).1
  grind [Df]
 have b4:∀k∈ids,∃b,Ac aC k=some b:=λk T=>by
  obtain⟨x,q,_⟩:=r1 (pos ids k) (Df T).1
  grind [Df]
 have b9:∀k∈D.map (·.1),∀j∈D.map (·.1),bk k=bk j->k=j:=Za8 e6 b3 e9;have c0:∀k∈I.map (·.1),∀j∈I.map (·.1),bi k=bi j->k=j:=Za8 d2 b4 f0
 have f1:∀i,i<keys.length->(∃b,Ac D (base+i)=some b)/\ρ2.bx (base+i)=ρ.bx (nth 0 keys i):=by
  intro i hi;obtain⟨x0,_,q⟩:=b1 i hi;obtain ⟨p1, bo, p2⟩ := N.k0 (base + i) (ρ.bx (nth 0 keys i)) (by
   simp only[D6,q,Option.map_some];show some (ρ.bx (nth 0 keys (base+i-base)))=_;simp)
  exact⟨⟨bo,p2⟩,p1⟩
 have g3:∀i,i<keys.length->bk (base+i)=nth 0 keys i:=λi hi=>by grind [Mq]
 have g4:∀i,i<ids.length->bi (base+i)=nth 0 ids i:=λi hi=>by grind [Mq]
 have d3:∀k∈D.map (·.1),(∃i,i<keys.length/\k=base+i/\bk k=nth 0 keys i)\/(Ac aB (bk k)=none):=by
  intro k T;by_cases hc:base<=k/\k-base<keys.length
  ·grind
  ·grind [Km]
 have d4:∀k∈I.map (·.1),(∃i,i<ids.length/\k=base+i/\bi k=nth 0 ids i)\/(Ac aC (bi k)=none):=by
  intro k T;by_cases hc:base<=k/\k-base<ids.length
  ·grind
  ·grind [Km]
 have f2:∀n b,Ac aB n=some b->n∉keys->∀k∈D.map (·.1),n≠bk k:=by
  rintro n b S L k T rfl;rcases d3 k T with⟨i,hi,_,e⟩|e
  ·grind [Gz]
  ·grind
 have d5:∀n b,Ac aC n=some b->n∉ids->∀k∈I.map (·.1),n≠bi k:=by
  rintro n b S L k T rfl;rcases d4 k T with⟨i,hi,_,e⟩|e
  ·grind [Gz]
  ·grind
 have Y:∀k,(∃b,Ac D k=some b)->(Dt ρ ρ2 D I bk bi).bx (bk k)=ρ2.bx k:=λk T=>by
  simp only[Dt,Qe3 b9 (KI.2 T)]
 have a2:∀k,(∃b,Ac I k=some b)->(Dt ρ ρ2 D I bk bi).rv (bi k)=ρ2.rv k/\(Dt ρ ρ2 D I bk bi).wd (bi k)=ρ2.wd k:=λk T=>by
  constructor<;>simp only[Dt,Qe3 c0 (KI.2 T)]
 have a0:∀n,(∃b,Ac aB n=some b)->(Dt ρ ρ2 D I bk bi).bx n=ρ.bx n:=by
  rintro n ⟨b,S⟩;by_cases L:n∈keys
  ·obtain⟨p1,p2⟩:=Df L
   grind
  ·grind [Dt,Qdp]
 have a3:∀n,(∃b,Ac aC n=some b)->n∉ids->(Dt ρ ρ2 D I bk bi).rv n=ρ.rv n/\(Dt ρ ρ2 D I bk bi).wd n=ρ.wd n:=by
  rintro n ⟨b,S⟩ L;constructor<;>simp only[Dt,Qdp (d5 n b S L)]
 have f3:=N.fr.size;have c4:∀n b,Ac aB n=some b->n∉keys->Iy w ρ keys ids (ρ.bx n):=λn b S L=>
  ⟨V.bxlt S,λk T e=>by obtain⟨b',a4⟩:=b3 k T;exact L (by rw[<-V.bi k n b' b a4 S e];exact T),λid hid=>by obtain⟨r,hr⟩:=b4 id hid;exact V.br n b id r S hr⟩
 have b7:∀n r g,Ac aC n=some r->n∉ids->(ρ.rv n).ownBlock=some g->Iy w ρ keys ids g:=λn r g S L hg=>
  ⟨(V.rwlt S hg).2,λk T e=>by obtain⟨b',a4⟩:=b3 k T;exact V.br k b' n r a4 S (by grind),λid hid e=>by obtain⟨r',c3⟩:=b4 id hid;exact L (by rw[<-V.ri id n r' r g c3 S e hg];omega)⟩
 have e0:∀b,ρ.im b->Iy w ρ keys ids b:=λb hb=>
  ⟨(V.ib b hb).1,λk T=>by obtain⟨b',a4⟩:=b3 k T;exact(V.ib b hb).2.1 k b' a4,λid hid=>by obtain⟨r,hr⟩:=b4 id hid;exact(V.ib b hb).2.2 id r hr⟩
 have fz:∀b,Z.F b->Iy w ρ keys ids b:=λb hb=>
  ⟨V.fs b hb,λk T e=>by obtain⟨b',a4⟩:=b3 k T;obtain⟨_,_,_,q⟩:=V.bx k b' a4;grind,λid hid e=>by obtain⟨r,hr⟩:=b4 id hid;exact(V.rwlt hr e).1 hb⟩
 have hold:∀b,Iy w ρ keys ids b->w'.heap[b]? =w.heap[b]? :=λb hb=>N.fr.block b hb;have c5:∀b,ρ.im b->ρ2.im b:=λb hb=>N.i0 b hb;have b5:∀b,ρ2.im b->ρ.im b\/ ¬Iy w ρ keys ids b:=λb hb=>N.i1 b hb
 have f4:∀k∈D.map (·.1),Ac ((Dd keys aB).map λp=>(p.1,C9 ids p.2)) (bk k)=none:=by
  intro k T;rw[Ft (C9 ids),KQ];rcases d3 k T with⟨i,hi,_,e⟩|e
  ·grind
  ·grind
 have f5:∀k∈I.map (·.1),Ac (Dd ids aC) (bi k)=none:=by
  intro k T;rw[KQ];rcases d4 k T with⟨i,hi,_,e⟩|e
  ·grind
  ·grind
 obtain⟨c6,c7⟩:=Tt (rk:=bk) (g:=λb:Box=>(⟨b.ty,b.cells.map (AC.ren bk bi)⟩:Box)) a4 b9 f4;obtain⟨c8,e3⟩:=Tt (rk:=bi) (g:=λb:Row=>b) c3 c0 f5;rw[Yc,Qwk];generalize hB:IG bk (λb:Box=>(⟨b.ty,b.cells.map (AC.ren bk bi)⟩:Box)) D ((Dd keys aB).map λp=>(p.1,C9 ids p.2))=B' at c6 c7⊢;generalize g5:IG bi (λb:Row=>b) I (Dd ids aC)=R' at c8 e3⊢;have X:∀n b,Ac B' n=some b->(∃k O,Ac D k=some O/\n=bk k/\b=⟨O.ty,O.cells.map (AC.ren bk bi)⟩)\/(n∉keys/\∃O,Ac aB n=some O/\b=C9 ids O):=by
  intro n b S;by_cases hc:∃k∈D.map (·.1),n=bk k
  ·obtain⟨k,T,rfl⟩:=hc;obtain⟨O,g0⟩:=KI.1 T
   grind
  ·rw[c7 n (λk T e=>hc ⟨k,T,e⟩),Ft (C9 ids),KQ]at S
   grind [Option.map_eq_some_iff]
 have a1:∀n r,Ac R' n=some r->(∃k,Ac I k=some r/\n=bi k)\/(n∉ids/\Ac aC n=some r):=by
  intro n r S;by_cases hc:∃k∈I.map (·.1),n=bi k
  ·obtain⟨k,T,rfl⟩:=hc;obtain⟨O,g0⟩:=KI.1 T
   grind
  ·grind [KQ]
 have a9:∀n b,Ac aB n=some b->∃b',Ac B' n=some b':=by
  intro n b S;by_cases L:n∈keys
  ·obtain⟨p1,p2⟩:=Df L
   grind
  ·rw[c7 n (f2 n b S L),Ft (C9 ids),KQ,ab L,S];simp
 have c1:∀n r,Ac aC n=some r->n∉ids->Ac R' n=some r:=by
  intro n r S L;rw[e3 n (d5 n r S L),KQ,ab L,S]
 let Q:AC->Prop:=λa=>AC.wf aB aC a/\∀id∈ids,AC.free id a
 have b8:∀a,Q a->a.agree ρ (Dt ρ ρ2 D I bk bi):=by
  rintro a ⟨U,hf⟩;have hp:∀l:List AC,(∀a∈l,AC.wfP aB a)->∀a∈l,a.agreeP ρ (Dt ρ ρ2 D I bk bi):=by
   intro l hl c hc;have:=hl c hc;cases c<;>first|exact a0 _ this|trivial
  cases a with
  |ptr k o=>exact a0 k U
  |bsl k o=>exact a0 k U
  |own id _ _=>obtain⟨r,G,_⟩:=U;exact a3 id ⟨r,G⟩ (λhm=>hf id hm rfl)
  |rptr id _ _=>obtain⟨r,G,_⟩:=U;exact a3 id ⟨r,G⟩ (λhm=>hf id hm rfl)
  |clo f fs cs=>exact⟨hp fs U.1,hp cs U.2⟩
  |_=>trivial
 have e4:∀(a:AC) (y:Value),Q a->CC ρ w a y->CC (Dt ρ ρ2 D I bk bi) w' a y:=λa y hq hy=>CC.mono (ρ':=Dt ρ ρ2 D I bk bi) c5 (λb hb=>hold b (e0 b hb)) a y (b8 a hq) hy;have c2:∀a,Q a->AC.wf B' R' a:=by
  rintro a ⟨U,hf⟩;cases a with
  |ptr k o=>obtain⟨b,hb⟩:=U;exact a9 k b hb
  |bsl k o=>obtain⟨b,hb⟩:=U;exact a9 k b hb
  |own id _ _=>obtain⟨r,G,h2⟩:=U;exact⟨r,c1 id r G (λhm=>hf id hm rfl),h2⟩
  |rptr id _ _=>obtain⟨r,G,h2⟩:=U;exact⟨r,c1 id r G (λhm=>hf id hm rfl),h2⟩
  |vptr=>exact U
  |clo f fs cs=>exact⟨λc hc=>AC.wfP_mono a9 (U.1 c hc),λc hc=>AC.wfP_mono a9 (U.2 c hc)⟩
  |_=>trivial
 have c9:∀a,AC.wf D I a->AC.wf B' R' (a.ren bk bi):=λa U=>
  SY (Kp:=λk=>∃b,Ac D k=some b) (Ip:=λi=>∃r,Ac I i=some r) (λk _ ⟨b,hb⟩=>⟨_,c6 k b hb⟩) (λi r _ hr=>⟨r,c8 i r hr,rfl,rfl⟩) (AC.nm_of_wf U) U
 have g1:∀v∈tm.map (HM ids),TV.wf aB aC v/\∀id∈ids,TV.free id v:=by
  intro v hv;simp only[ba]at hv;obtain⟨u,hu,rfl⟩:=hv;exact⟨Zf4 ids (V.wt u hu),λid hid=>Zdq ids u id hid⟩
 have e5:∀v∈tm.map (HM ids),(match v with| .v _ cs=>∀a∈cs,Q a| .tup ps=>∀p∈ps,∀a∈p.2,Q a| .vD=>True):=by
  intro v hv;obtain⟨G,h2⟩:=g1 v hv;cases v with
  |vD=>trivial
  |v g cs=>exact λa U=>⟨G a U,λid hid=>h2 id hid a U⟩
  |tup ps=>exact λp hp a U=>⟨G p hp a U,λid hid=>h2 id hid p hp a U⟩
 have qB:∀n O,Ac aB n=some O->∀a∈(C9 ids O).cells,Q a:=λn O S a U=>⟨Zc5 ids (V.wb n O S) a U,λid hid=>Q6n ids O id hid a U⟩;have b6:TV.wf D I v:=N.wt v (by simp);refine⟨⟨by grind [V.tl],λi v hi=> ?_,λv hv=> ?_,λn b S a U=> ?_,λn b S=> ?_,λn n' b b' S d0 he=> ?_,λn r S=> ?_,λn n' r r' g S d0 hg a5=> ?_,λn b m r S hm=> ?_,λb hb=>⟨(N.ib b hb).1,λn bo S=> ?_,λn r S=> ?_⟩,?_,?_,λb hb=>c5 b (V.i0 b hb),λb hb=> ?_,λk b T=> ?_⟩,?_,?_⟩
 ·have hv:=bz hi;simp only[du,bn]at hi;obtain⟨u,hu,rfl⟩:=hi;exact TVR.mono2 e4 (e5 _ hv) (Zh7 ids (V.tv i u hu))
 ·have:=e5 v hv;cases v with
  |vD=>trivial
  |v g cs=>exact λa U=>c2 a (this a U)
  |tup ps=>exact λp hp a U=>c2 a (this p hp a U)
 ·rcases X n b S with⟨k,O,G,rfl,rfl⟩|⟨L,O,G,rfl⟩
  ·simp only[ba]at U;obtain⟨c,hc,rfl⟩:=U;exact c9 c (N.wb k O G c hc)
  grind
 ·rcases X n b S with⟨k,O,G,rfl,rfl⟩|⟨L,O,G,rfl⟩
  ·obtain⟨arr,q1,q2,q3⟩:=N.bx k O G;refine⟨arr,by rw[Y k ⟨O,G⟩];exact q1,QV (Kp:=λk=>∃b,Ac D k=some b) (Ip:=λi=>∃r,Ac I i=some r) Y a2 rfl (λc hc=>AC.nm_of_wf (N.wb k O G c hc)) q2,?_⟩;rw[Y k ⟨O,G⟩];exact λhf=>q3 (fz _ hf)
  ·obtain⟨arr,q1,q2,q3⟩:=V.bx n O G;rw[a0 n ⟨O,G⟩];refine⟨arr,by grind [Q95],?_,q3⟩;exact(Zdu ids q2).mono λa U y hy=>e4 a y (qB n O G a U) hy
 ·rcases X n b S with⟨k,O,G,rfl,_⟩|⟨L,O,G,_⟩<;>rcases X n' b' d0 with⟨k',a8,M,rfl,_⟩|⟨a6,a8,M,_⟩
  ·rw[Y k ⟨O,G⟩,Y k' ⟨a8,M⟩]at he;rw[N.bi k k' _ _ G M he]
  ·rw[Y k ⟨O,G⟩,a0 n' ⟨a8,M⟩]at he;obtain⟨_,_,_,q3⟩:=N.bx k O G;exact absurd (he▸c4 n' a8 M a6) q3
  ·rw[a0 n ⟨O,G⟩,Y k' ⟨a8,M⟩]at he;obtain⟨_,_,_,q3⟩:=N.bx k' a8 M;exact absurd (he▸c4 n O G L) q3
  ·rw[a0 n ⟨O,G⟩,a0 n' ⟨a8,M⟩]at he;exact V.bi n n' _ _ G M he
 ·rcases a1 n r S with⟨k,G,rfl⟩|⟨L,G⟩
  ·obtain⟨q1,q2,q0,ys,q3,q4⟩:=N.ro k r G;obtain⟨e1,e2⟩:=a2 k ⟨r,G⟩;rw[e1,e2];exact⟨q1,q2,λg hg hf=>q0 g hg (fz g hf),ys,q3,q4⟩
  ·obtain⟨q1,q2,q0,ys,q3,q4⟩:=V.ro n r G;obtain⟨e1,e2⟩:=a3 n ⟨r,G⟩ L;rw[e1,e2];exact⟨q1,q2,q0,ys,M8 q3 λg hg=>hold g (b7 n r g G L hg),q4.mono c5 (λb hb=>hold b (e0 b hb))⟩
 ·rcases a1 n r S with⟨k,G,rfl⟩|⟨L,G⟩<;>rcases a1 n' r' d0 with⟨k',M,rfl⟩|⟨a6,M⟩
  ·rw[(a2 k ⟨r,G⟩).1]at hg;rw[(a2 k' ⟨r',M⟩).1]at a5;rw[N.ri k k' _ _ g G M hg a5]
  ·rw[(a2 k ⟨r,G⟩).1]at hg;rw[(a3 n' ⟨r',M⟩ a6).1]at a5;obtain⟨_,_,q0,_⟩:=N.ro k r G;exact absurd (b7 n' r' g M a6 a5) (q0 g hg)
  ·rw[(a3 n ⟨r,G⟩ L).1]at hg;rw[(a2 k' ⟨r',M⟩).1]at a5;obtain⟨_,_,q0,_⟩:=N.ro k' r' M;exact absurd (b7 n r g G L hg) (q0 g a5)
  ·rw[(a3 n ⟨r,G⟩ L).1]at hg;rw[(a3 n' ⟨r',M⟩ a6).1]at a5;exact V.ri n n' _ _ g G M hg a5
 ·rcases X n b S with⟨k,O,G,rfl,_⟩|⟨L,O,G,_⟩<;>rcases a1 m r hm with⟨k',M,rfl⟩|⟨d1,M⟩
  ·rw[Y k ⟨O,G⟩,(a2 k' ⟨r,M⟩).1];exact N.br k O k' r G M
  ·rw[Y k ⟨O,G⟩,(a3 m ⟨r,M⟩ d1).1];intro e;obtain⟨_,_,_,q3⟩:=N.bx k O G;exact q3 (b7 m r _ M d1 e)
  ·rw[a0 n ⟨O,G⟩,(a2 k' ⟨r,M⟩).1];intro e;obtain⟨_,_,q0,_⟩:=N.ro k' r M;exact q0 _ e (c4 n O G L)
  ·rw[a0 n ⟨O,G⟩,(a3 m ⟨r,M⟩ d1).1];exact V.br n O m r G M
 ·rcases X n bo S with⟨k,O,G,rfl,_⟩|⟨L,O,G,_⟩
  ·rw[Y k ⟨O,G⟩];exact(N.ib b hb).2.1 k O G
  ·rw[a0 n ⟨O,G⟩];rcases b5 b hb with a7|a7
   ·exact(V.ib b a7).2.1 n O G
   grind
 ·rcases a1 n r S with⟨k,G,rfl⟩|⟨L,G⟩
  ·rw[(a2 k ⟨r,G⟩).1];exact(N.ib b hb).2.2 k r G
  ·rw[(a3 n ⟨r,G⟩ L).1];rcases b5 b hb with a7|a7
   ·exact(V.ib b a7).2.2 n r G
   grind
 ·exact V.fr.trans ⟨N.fr.os,N.fr.tape,N.fr.output,N.fr.size,λk T=>hold k (fz k T)⟩
 ·exact λk T=>db (V.fs k T) f3
 ·rcases b5 b hb with a7|a7
  ·exact V.i1 b a7
  grind
 ·obtain⟨q1,bo,q2⟩:=V.k0 k b T
  grind
 ·have g2:TVR ρ2 w' v x:=by simpa using N.tv 0 v rfl
  exact Zgg (Kp:=λk=>∃b,Ac D k=some b) (Ip:=λi=>∃r,Ac I i=some r) Y a2 rfl (TV.nm_of_wf b6) g2
 ·exact Q4e (Kp:=λk=>∃b,Ac D k=some b) (Ip:=λi=>∃r,Ac I i=some r) (λk _ ⟨b,hb⟩=>⟨_,c6 k b hb⟩) (λi r _ hr=>⟨r,c8 i r hr,rfl,rfl⟩) (TV.nm_of_wf b6) b6
theorem Qmu {α:Type} {l:List (Nat×α)} {k:Nat} (h:KS l k=true):Ac l k=none:=by grind [KS]
theorem Zi6 {α:Type} {c:Bool} {p:Option α} {q:α} (h:cond c p none=some q):c=true/\p=some q:=by grind
theorem Zim {α:Type}:∀{l:List (Nat×α)} {k:Nat} {x y:α},Ac l k=some y->∀n,Ac (upd l k x) n=if n=k then some x else Ac l n
 |[],_,_,_,h,_=>by grind [Ac]
 |(j,c)::l,k,x,y,h,n=>by
  simp only[Ac,upd]at h⊢;cases D:Nat.beq j k
  ·rw[D]at h;simp only[aq,Ac]at h⊢;rw[Zim h n]
   grind
  ·have:=ag D;subst this;simp only[aj,Ac];cases G:Nat.beq j n
   ·grind
   simp_all
theorem Q1i {id n':Nat} (a:AC):(∃w n,a= .own id w n/\a.relen id n'= .own id w n')\/a.relen id n'=a.kill id:=by
 cases a with
 |own j w n=>
  cases hb:Nat.beq j id
  ·simp_all [AC.relen,AC.kill]
  simp_all [AC.relen]
 |rptr j p q=>right;rfl
 |_=>right;rfl
theorem Va {R G I:AC->Value->Prop} {id L:Nat} (h:∀a x,G a x->I (a.kill id) x->R (a.relen id L) x):∀{cs:List AC} {xs:List Value},CL G cs xs->CL I (cs.map (AC.kill id)) xs->CL R (cs.map (AC.relen id L)) xs
 |[],[],_,_=>trivial
 |a::cs,x::xs,D,M=>⟨h a x D.1 M.1,Va h D.2 M.2⟩
 |[],_::_,D,_=>D.elim
 |_::_,[],D,_=>D.elim
theorem Qwn {keys ids:List Nat} {v:TV} (h:v.plainB=true):TV.inK keys ids v=true:=by
 cases v with
 |vD=>rfl
 |v g cs=>
  simp only[TV.plainB,TV.inK]at h⊢;rw[Ax]at h⊢;intro a D;have:=h a D;cases a<;>simp[AC.plain]at this<;>rfl
 |tup ps=>
  simp only[TV.plainB,TV.inK]at h⊢;rw[Ax]at h⊢;intro p G;have:=h p G;rw[Ax]at this⊢;intro a D;have:=this a D;cases a<;>simp[AC.plain]at this<;>rfl
theorem Zvq {D ri:Nat->Nat} {a:AC} (h:a.calm=true):a.ren D ri=a:=by cases a<;>simp[AC.calm]at h<;>rfl
theorem RK {D ri:Nat->Nat}:∀{l:List AC},Ao AC.calm l=true->l.map (AC.ren D ri)=l
 |[],_=>rfl
 |a::l,h=>by
  rw[Ax]at h;simp only[be];rw[Zvq (h a (by simp)),RK (Ax.2 λx G=>h x (by grind))]
theorem Qw3 {a:AC} (h:a.plain=true):a.calm=true:=by cases a<;>simp[AC.plain]at h<;>rfl
theorem Vy {D ri:Nat->Nat} {v:TV} (h:v.plainB=true):v.ren D ri=v:=by
 cases v with
 |vD=>rfl
 |v g cs=>grind [TV.plainB,Ax,TV.ren,RK,Qw3]
 |tup ps=>
  simp only[TV.plainB,Ax]at h;simp only[TV.ren];congr 1
  conv=>rhs;rw[<-List.map_id ps]
  grind [List.map_congr_left,RK,Ax,Qw3]
theorem Yhq (T:Ai P C) (hR:RelE Z tm aB aC ρ tmps w) {o:Oper} {a:Act} {f:FuncId} {args:List TV} {xs:List Value} (h1:xs.length=args.length)
  (h2:∀(i:Nat) (a:TV) (x:Value),args[i]? =some a->xs[i]? =some x->TVR ρ w a x) (h3:execOp a.eval o=callFunc f xs.toArray) (c5:∀v∈args,TV.wf aB aC v) {K:TV->St->Option R} {r:R} {g:Spec} (hg:C.spec f=some g) (c6:C.keepR f=true)
  (h:Sa g args tm aB aC K=some r) {next:Act->World->Prop} {Q:Exit->Act->World->Prop}
  (a6:∀(v:TV) (b1:List TV) (D:List (Nat×Box)) (N:List (Nat×Row)) (ρ':Env) (x:Value) (w':World),K v ⟨b1,D,N⟩=some r->RelE Z b1 D N ρ' tmps w'->TVR ρ' w' v x->TV.wf D N v->next (a.put o.dst x) w'):
  o.wp P a w next Q:=by
 unfold Sa at h;split at h
 ·rename_i id hid;split at h
  ·rename_i r0 U;have b2:∀v∈args,TV.inK [] [id] v=true:=by
    unfold Qfq at hid;split at hid
    ·rename_i id' w0 n0 rest;cases hp:Ao TV.plainB rest<;>rw[hp]at hid
     ·grind
     ·simp only[aj,an]at hid;subst hid;intro v hv;rcases av.1 hv with rfl|hv
      ·simp[TV.inK,Ao,AC.inK,AN]
      grind [Qwn,Ax]
    ·grind
   obtain⟨v,⟨e5,e6⟩,hv,c7⟩:=(T.1 f g hg).run2 h;have b3:Fy aC base [id]=some [(base,r0)]:=by simp[Fy,U]
   have b4:=VF hR h1 h2 c5 gn (by simp) (keys:=[]) (ids:=[id]) b2 (λk G=>by grind) (show Da aB _ _ base []=some []from rfl) b3;refine L9 h3 ((T.2.2 f g hg c6 _ _ _ _ c7 _ xs b4).mono ?_);rintro e w' ⟨x,ρ2,he,b5,c8⟩;refine⟨x,he,?_⟩;split at hv
   ·rename_i k r' heq;simp only[Mem.mk.injEq]at heq;obtain⟨rfl,rfl⟩:=heq;obtain⟨hc,b6⟩:=Zi6 hv;simp only[ak]at hc;obtain⟨⟨⟨c1,c2⟩,c3⟩,c4⟩:=hc;have ek:=ag c1;subst ek;have et:=ag c2;have c9:=IQ c3;simp only[A3]at b6;obtain⟨e1,e2,-⟩:=SV hR gn (by simp) (show Da aB _ _ base []=some []from rfl) b3 b5 (d:=o.dst.getD 0) (by simp) (by simp) (λk G=>by grind [Bi]) (λk G=>by rw[show Bi [id] [(base,r')]=[]from rfl]at G;grind)
    have e7:Bi [id] [(base,r')]=[]:=rfl;have a7:Bz [id] (Bi [id] [(base,r')]) (o.dst.getD 0) base=id:=rfl;generalize e8:Bz ([]:List Nat) (Bi ([]:List Nat) ([]:List (Nat×Box))) (o.dst.getD 0)=bk at e1 e2;generalize e0:Bz [id] (Bi [id] [(base,r')]) (o.dst.getD 0)=bi at e1 e2 a7;have a8:∀n,Ac (JD bk bi ([]:List (Nat×Box)) ((Dd [] aB).map λp=>(p.1,C9 [id] p.2))) n=(Ac aB n).map (Box.kill id):=λn=>Ft (C9 [id]) aB n;have d0:∀n,Ac (Ia bi [(base,r')] (Dd [id] aC)) n=if n=id then some r' else Ac aC n:=by
     intro n;show Ac (ins (del id aC) (bi base) r') n=_;rw[a7];by_cases hn:n=id
     ·simp_all [Ep,Rm]
     ·simp_all [DR,Kj]
    have a9:∀n,Ac (aB.map λp=>(p.1,p.2.relen id r'.l.length)) n=(Ac aB n).map (Box.relen id r'.l.length):=λn=>Ft (Box.relen id r'.l.length) aB n;have e9:∀n,Ac (upd aC id r') n=if n=id then some r' else Ac aC n:=Zim U;generalize JD bk bi ([]:List (Nat×Box)) ((Dd [] aB).map λp=>(p.1,C9 [id] p.2))=B1 at e1 a8;generalize Ia bi [(base,r')] (Dd [id] aC)=R1 at e1 d0;have hinv:J4 [(base,r')] bi id=some base:=by rw[<-a7];exact Qe3 (λa ha b hb _=>by grind) (by simp)
    have a4:(Dt ρ ρ2 [] [(base,r')] bk bi).rv id=ρ.rv id:=by
     simp only[Dt,hinv];rw[c8];show ρ.rv (nth 0 [id] (base-base))=_;rw[i6];rfl
    have V:∀k,(Dt ρ ρ2 [] [(base,r')] bk bi).bx k=ρ.bx k:=λk=>by grind [Dt,Qdp]
    generalize Dt ρ ρ2 [] [(base,r')] bk bi=ρB at e1 e2 a4 V;have b7:=e1.ro id r' (by grind);have e3:=hR.ro id r0 U;have d1:r'.w=r0.w:=by show r'.ks.length=r0.ks.length;rw[c9]
    have O:∀(a:AC) (y:Value),CC ρ w a y->CC ρB w' (a.kill id) y->CC ρB w' (a.relen id r'.l.length) y:=by
     intro a y L M;rcases Q1i (id:=id) (n':=r'.l.length) a with⟨w1,n1,rfl,e⟩|e
     ·rw[e];obtain⟨s1,s2,_⟩:=L;refine⟨s1.trans a4.symm,by omega,?_⟩;obtain⟨_,_,_,ys,⟨_,o2⟩,_⟩:=b7
      grind
     ·grind
    have X:∀a:AC,AC.wf aB aC a->AC.wf B1 R1 (a.kill id)->AC.wf (aB.map λp=>(p.1,p.2.relen id r'.l.length)) (upd aC id r') (a.relen id r'.l.length):=by
     intro a L M;rcases Q1i (id:=id) (n':=r'.l.length) a with⟨w1,n1,rfl,e⟩|e
     ·rw[e];obtain⟨r2,s1,s2,s3⟩:=L;rw[U]at s1;simp only[an]at s1;subst s1;exact⟨r',by grind,rfl,d1.trans s3⟩
     ·rw[e];refine AC.wf_mono (λk b G=> ?_) (λk r G=>⟨r,by grind,rfl,rfl⟩) M;rw[a8]at G;rw[a9];cases hl:Ac aB k with
      |none=>grind
      |some S=>simp
    have Y:∀k b,Ac (aB.map λp=>(p.1,p.2.relen id r'.l.length)) k=some b->∃S,Ac aB k=some S/\b=S.relen id r'.l.length/\Ac B1 k=some (S.kill id):=by
     intro k b G;rw[a9]at G;cases hl:Ac aB k with
     |none=>grind
     |some S=>grind
    have a3:∀n r,Ac (upd aC id r') n=some r->Ac R1 n=some r:=λn r hn=>by grind
    have d2:∀(ps:List (Bool×List AC)) (ys:List Value),TP ρ w ps ys->TP ρB w' (ps.map λp=>(p.1,p.2.map (AC.kill id))) ys->TP ρB w' (ps.map λp=>(p.1,p.2.map (AC.relen id r'.l.length))) ys:=by
     intro ps;induction ps with
     |nil=>simp
     |cons p ps ih=>
      intro ys L M;obtain⟨gg,cs⟩:=p;cases ys with
      |nil=>exact L.elim
      |cons y ys=>
       refine⟨?_,ih ys L.2 M.2⟩;have z1:=L.1;have z2:=M.1;cases gg
       ·grind
       grind [Va]
    refine a6 v _ _ _ ρB x w' b6 ⟨by grind [hR.tl],λi u hi=> ?_,λu hu=> ?_,λk b G a ha=> ?_,λk b G=> ?_,λk k' b b' G d3 he=> ?_,λn r hn=>e1.ro n r (a3 n r hn),λn n' r r2 g2 hn d4=>e1.ri n n' r r2 g2 (a3 n r hn) (a3 n' r2 d4),
     λk b n r G hn=> ?_,λb hb=> ?_,e1.fr,e1.fs,e1.i0,e1.i1,λk b G=> ?_⟩ (by grind [Vy]) (Jl c4)
    ·rw[du]at hi;cases hl:tm[i]? with
     |none=>grind
     |some u0=>
      rw[hl]at hi;simp only[Option.map_some,an]at hi;subst hi;have z1:=hR.tv i u0 hl;have z2:=e1.tv i (u0.kill id) (by rw[du,hl];rfl);cases u0 with
      |vD=>trivial
      |v gg cs=>
       cases gg
       ·obtain⟨a1,t1,t2⟩:=z1;obtain⟨a2,t3,t4⟩:=z2;subst t1;simp only[be,da,d6,iz]at t3;subst t3;exact⟨_,rfl,O a1 _ t2 t4⟩
       ·obtain⟨y1,t1,t2⟩:=z1;obtain⟨y2,t3,t4⟩:=z2;rw[t1]at t3;simp only[Value.agg.injEq]at t3;subst t3;exact⟨y1,t1,Va O t2 t4⟩
      |tup ps=>
       obtain⟨y1,t1,t2⟩:=z1;obtain⟨y2,t3,t4⟩:=z2;rw[t1]at t3;simp only[Value.tuple.injEq]at t3;subst t3;exact⟨y1,t1,d2 ps _ t2 t4⟩
    ·rw[ba]at hu;obtain⟨u0,b8,rfl⟩:=hu;have z1:=hR.wt u0 b8;have z2:=e1.wt (u0.kill id) (ba.2 ⟨u0,b8,rfl⟩);cases u0 with
     |vD=>trivial
     |v gg cs=>
      intro a ha;obtain⟨a0,I,rfl⟩:=ba.1 ha;exact X a0 (z1 a0 I) (z2 _ (ba.2 ⟨a0,I,rfl⟩))
     |tup ps=>
      intro p hp a ha;obtain⟨p0,b9,rfl⟩:=ba.1 hp;obtain⟨a0,I,rfl⟩:=ba.1 ha;exact X a0 (z1 p0 b9 a0 I) (z2 _ (ba.2 ⟨p0,b9,rfl⟩) _ (ba.2 ⟨a0,I,rfl⟩))
    ·obtain⟨S,L,rfl,M⟩:=Y k b G;obtain⟨a0,I,rfl⟩:=ba.1 ha;exact X a0 (hR.wb k S L a0 I) (e1.wb k _ M _ (ba.2 ⟨a0,I,rfl⟩))
    ·obtain⟨S,L,rfl,M⟩:=Y k b G;obtain⟨c0,s1,s2,s3⟩:=hR.bx k S L;obtain⟨e4,s4,s5,s6⟩:=e1.bx k _ M;have a5:w'.heap[ρ.bx k]? =w.heap[ρ.bx k]? :=b5.fr.block (ρ.bx k) ⟨(cq.1 s1).1,λj hj=>by grind,λj hj=>by
      simp only[eu]at hj;subst hj;exact hR.br k S j r0 L U⟩
     rw[V,a5,s1]at s4;simp only[an,Obj.cells.injEq]at s4;obtain⟨rfl,_⟩:=s4;exact⟨c0,by rw[V,a5];exact s1,Va O s2 s5,by omega⟩
    ·obtain⟨S,L,rfl,M⟩:=Y k b G;obtain⟨f0,f1,rfl,d5⟩:=Y k' b' d3;exact e1.bi k k' _ _ M d5 he
    ·obtain⟨S,L,rfl,M⟩:=Y k b G;exact e1.br k _ n r M (a3 n r hn)
    ·obtain⟨L,M,q3⟩:=e1.ib b hb
     grind
    ·obtain⟨L,bo,M⟩:=e1.k0 k b G;rw[a8]at M;rw[a9];cases hl:Ac aB k with
     |none=>grind
     |some S=>grind
   grind
  grind
 grind
theorem Zwr (N:Ai P C) (hR:RelE Z tm aB aC ρ tmps w) {o:Oper} {a:Act} {f:FuncId} {args:List TV} {xs:List Value} (h1:xs.length=args.length)
  (h2:∀(i:Nat) (a:TV) (x:Value),args[i]? =some a->xs[i]? =some x->TVR ρ w a x) (h3:execOp a.eval o=callFunc f xs.toArray) (a1:∀v∈args,TV.wf aB aC v) {K:TV->St->Option R} {r:R}
  (h:A5 C o.dst (.callM f args) ⟨tm,aB,aC⟩ K=some r) {next:Act->World->Prop} {Q:Exit->Act->World->Prop}
  (a2:∀(v:TV) (T:List TV) (D:List (Nat×Box)) (G:List (Nat×Row)) (ρ':Env) (x:Value) (w':World),K v ⟨T,D,G⟩=some r->RelE Z T D G ρ' tmps w'->TVR ρ' w' v x->TV.wf D G v->next (a.put o.dst x) w'):
  o.wp P a w next Q:=by
 simp only[A5]at h;split at h
 ·rename_i g hg;have a3:=N.1 f g hg;cases a4:C.keepR f<;>rw[a4]at h
  case true=>
   simp only[aj]at h
   grind [Yhq]
  simp only[aq]at h;simp only[A3]at h;generalize O:Ly aB 4 (A6 (cat AC.keys (cat TV.cellsOf args)) [])=keys at h;generalize hi:Og aB (cat TV.cellsOf args) keys=ids at h;clear O hi;cases hc:(Ao (TV.inK keys ids) args&&Ao (λk=>Ao (AC.inK keys ids) (Ev aB k)) keys&&B8 keys&&B8 ids)<;>rw[hc]at h
  ·grind
  ·simp only[aj]at h;simp only[ak]at hc;obtain⟨⟨⟨c1,c2⟩,c3⟩,c4⟩:=hc;split at h
   ·rename_i mb mr U V;have X:=IL.1 c3;have M:=IL.1 c4;obtain⟨v,⟨I,L⟩,Y,a5⟩:=a3.run h;have a0:=VF hR h1 h2 a1 X M (λv Y=>Ax.1 c1 v Y) (λk O=>Ax.1 c2 k O) U V;refine L9 h3 ((a5 _ xs a0).mono ?_);rintro e w' ⟨x,ρ2,he,a6⟩;dsimp only at Y;cases S:(Ao (λp:Nat×Box=>FZ I p.1) mb&&B8 (I.map (·.1))&&B8 (L.map (·.1))&&Ao (λk=>KS aB (Bz keys (Bi keys I) (o.dst.getD 0) k)) (Bi keys I)&&Ao (λk=>KS aC (Bz ids (Bi ids L) (o.dst.getD 0) k)) (Bi ids L)&&Nat.ble (Bi keys I).length 100&&Nat.ble (Bi ids L).length 100)<;>rw[S]at Y
    ·grind
    ·simp only[aj]at Y;simp only[ak]at S;obtain⟨⟨⟨⟨⟨⟨_,d2⟩,d3⟩,d4⟩,d5⟩,_⟩,_⟩:=S;obtain⟨e1,e2,e3⟩:=SV hR X M U V a6 (d:=o.dst.getD 0) (IL.1 d2) (IL.1 d3) (λk O=>Qmu (Ax.1 d4 k O)) (λk O=>Qmu (Ax.1 d5 k O))
     grind
   grind
 grind
theorem RelE.cong {D:List (Nat×Box)} (h:RelE Z tm aB aC ρ tmps w) (M:∀k,Ac D k=Ac aB k):RelE Z tm D aC ρ tmps w:=by
 have L:∀a,AC.wf aB aC a->AC.wf D aC a:=λa=>AC.wf_mono (λk b G=>⟨b,by grind⟩) (λk r G=>⟨r,G,rfl,rfl⟩);exact⟨h.tl,h.tv,λv N=>TV.wf_mono L (h.wt v N),λk b G a I=>L a (h.wb k b (by grind) a I),
  λk b G=>h.bx k b (by grind),λk k' b b' G O=>h.bi k k' b b' (by grind) (by grind),h.ro,h.ri,
  λk b id r G=>h.br k b id r (by grind),λb hb=>⟨(h.ib b hb).1,λk bo G=>(h.ib b hb).2.1 k bo (by grind),(h.ib b hb).2.2⟩,
  h.fr,h.fs,h.i0,h.i1,λk b G=>⟨(h.k0 k b G).1,by rw[M];exact(h.k0 k b G).2⟩⟩
theorem Q7m {keys:List Nat} (D:keys.Nodup):∀{m l:List (Nat×Box)},(m.map (·.1)).Nodup->(∀k∈m.map (·.1),base<=k/\k-base<keys.length)->(∀k∈keys,∃b,Ac l k=some b)->
  (∀k b,Ac m k=some b->Ac (CW keys m l) (nth 0 keys (k-base))=some b)/\(∀n,(∀k∈m.map (·.1),n≠nth 0 keys (k-base))->Ac (CW keys m l) n=Ac l n)
 |[],l,_,_,_=>⟨λk b h=>by grind [Ac],λn _=>rfl⟩
 |(j,c)::m,l,I,G,M=>by
  simp only[be,jf]at I;have N:=G j (by simp);have O:∀k∈m.map (·.1),nth 0 keys (j-base)≠nth 0 keys (k-base):=λk L e=>by
   have S:=G k (by grind);have T:=ie (pos keys) e
   grind [Ou]
  obtain⟨y,U⟩:=M _ (Gz N.2);obtain⟨V,X⟩:=Q7m D (m:=m) (l:=upd l (nth 0 keys (j-base)) c) I.2 (λk L=>G k (by grind)) (λk L=>by grind [EF,Dm])
  grind [Ac,CW,Nat.eq_of_beq_eq_true,EF,Dm]
theorem T9 {α:Type} {l:List (Nat×α)} {k:Nat} (h:FZ l k=true):∃b,Ac l k=some b:=by grind [FZ]
theorem Ybj {keys:List Nat} (N:keys.Nodup) {U D:List (Nat×Box)} (V:Da aB (λk=>base+pos keys k) (λi=>base+pos [] i) base keys=some U)
  (h1:∀p∈U,FZ D p.1=true) (h2:∀p∈D,FZ U p.1=true) (h3:(D.map (·.1)).Nodup) (h4:∀p∈D,Ao AC.calm p.2.cells=true) (bi:Nat->Nat) (d:Nat) (k:Nat):
  Ac (CW keys D aB) k=Ac (JD (Bz keys [] d) bi D ((Dd keys aB).map λp=>(p.1,C9 [] p.2))) k:=by
 obtain⟨b1,b2⟩:=Kh V;have I:∀k∈D.map (·.1),base<=k/\k-base<keys.length:=by
  intro k G;simp only[ba]at G;obtain⟨p,X,rfl⟩:=G;obtain⟨b,hb⟩:=T9 (h2 p X);obtain⟨i,hi,e⟩:=b2 _ _ hb;omega
 have O:∀i,i<keys.length->∃b,Ac D (base+i)=some b:=by
  intro i hi;obtain⟨x,_,q⟩:=b1 i hi;exact T9 (h1 _ (OX q))
 have Y:∀k∈keys,∃b,Ac aB k=some b:=λk G=>by
  obtain⟨x,q,_⟩:=b1 (pos keys k) (Df G).1
  grind [Df]
 have L:∀k∈D.map (·.1),Bz keys [] d k=nth 0 keys (k-base):=λk G=>Mq (I k G);obtain⟨u1,u2⟩:=Q7m (l:=aB) N h3 I Y;have M:∀n,Ac ((Dd keys aB).map λp=>(p.1,C9 [] p.2)) n=if n∈keys then none else Ac aB n:=by
  intro n;rw[Ft,KQ];split
  ·rfl
  ·cases Ac aB n<;>rfl
 have S:∀k∈D.map (·.1),∀j∈D.map (·.1),Bz keys [] d k=Bz keys [] d j->k=j:=by
  intro k G j T e;rw[L k G,L j T]at e;have e':=ie (pos keys) e;rw[Ou N (I k G).2,Ou N (I j T).2]at e';have:=I k G;have:=I j T;omega
 rw[Yc];obtain ⟨v1, v2⟩ := Tt (rk := Bz keys [] d) (g := λb : Box => (⟨b.ty, b.cells.map (AC.ren (Bz keys [] d) bi)⟩ : Box)) (m := D) (l := (Dd keys aB).map λp => (p.1, C9 [] p.2)) h3 S (λk G => by
  rw[M,L k G,aa (Gz (I k G).2)])
 by_cases G:k∈keys
 ·obtain⟨X,hn⟩:=Df G;obtain⟨b,hb⟩:=O _ X;have e1:=u1 _ b hb;have e2:=v1 _ b hb;rw[L _ (KI.2 ⟨b,hb⟩)]at e2;rw[show base+pos keys k-base=pos keys k from by omega,hn]at e1 e2;rw[e1,e2];have:=h4 _ (OX hb);rw[RK this]
 ·rw[u2 k (λj T e=>G (by grind [Gz])),v2 k (λj T e=>G (by grind [Gz])),M,ab G]
theorem Zpw (N:Ai P C) (hR:RelE Z tm aB aC ρ tmps w) {o:Oper} {a:Act} {f:FuncId} {args:List TV} {xs:List Value} (h1:xs.length=args.length)
  (h2:∀(i:Nat) (a:TV) (x:Value),args[i]? =some a->xs[i]? =some x->TVR ρ w a x) (h3:execOp a.eval o=callFunc f xs.toArray) (a0:∀v∈args,TV.wf aB aC v) {K:TV->St->Option R} {r:R}
  (h:A5 C o.dst (.callD f args) ⟨tm,aB,aC⟩ K=some r) {next:Act->World->Prop} {Q:Exit->Act->World->Prop}
  (O:∀(v:TV) (V:List TV) (D:List (Nat×Box)) (G:List (Nat×Row)) (ρ':Env) (x:Value) (w':World),K v ⟨V,D,G⟩=some r->RelE Z V D G ρ' tmps w'->TVR ρ' w' v x->TV.wf D G v->next (a.put o.dst x) w'):
  o.wp P a w next Q:=by
 simp only[A5]at h;split at h
 ·rename_i g hg;have a1:=N.1 f g hg;simp only[A3]at h;generalize L:A6 (cat AC.keys (cat TV.cellsOf args)) []=keys at h;clear L;cases hc:(Ao (TV.inK keys []) args&&Ao (λk=>Ao AC.calm (Ev aB k)) keys&&B8 keys)<;>rw[hc]at h
  ·grind
  ·simp only[aj]at h;simp only[ak]at hc;obtain⟨⟨c1,c2⟩,c3⟩:=hc;have a2:Ao (λk=>Ao (AC.inK keys []) (Ev aB k)) keys=true:=by
    rw[Ax]at c2⊢;intro k L;have:=c2 k L;rw[Ax]at this⊢;intro b hb;have:=this b hb;cases b<;>simp[AC.calm]at this<;>rfl
   split at h
   ·rename_i mb M;have S:=IL.1 c3;obtain⟨v,⟨I,a3⟩,U,a4⟩:=a1.run h;have X:=VF hR h1 h2 a0 S gn (λv U=>Ax.1 c1 v U) (λk L=>Ax.1 a2 k L) M (show Fy aC base []=some []from rfl);refine L9 h3 ((a4 _ xs X).mono ?_);rintro e w' ⟨x,ρ2,he,a5⟩;cases a3 with
    |cons _ _=>grind
    |nil=>
     dsimp only at U;cases T:(Ao (λp:Nat×Box=>FZ I p.1) mb&&Ao (λp:Nat×Box=>FZ mb p.1) I&&B8 (I.map (·.1))&&Ao (λp:Nat×Box=>Ao AC.calm p.2.cells) I&&v.plainB)<;>rw[T]at U
     ·grind
     ·simp only[aj]at U;simp only[ak]at T;obtain⟨⟨⟨⟨d1,d2⟩,d3⟩,d4⟩,d5⟩:=T;have a6:Bi keys I=[]:=by
       apply List.eq_nil_iff_forall_not_mem.2;intro k L;obtain⟨q1,q2⟩:=Km.1 L;simp only[ba]at q1;obtain⟨p,hp,rfl⟩:=q1;obtain⟨b,hb⟩:=T9 (Ax.1 d2 p hp);obtain⟨i,hi,e⟩:=(Kh M).2 _ _ hb;exact q2 (by omega)
      obtain⟨e1,e2,e3⟩:=SV hR S gn M (show Fy aC base []=some []from rfl) a5 (d:=o.dst.getD 0) (IL.1 d3) gn (λk L=>by grind) (λk L=>by grind [Bi]);rw[a6]at e1 e2 e3;have a7:=Ybj S M (Ax.1 d1) (Ax.1 d2) (IL.1 d3) (Ax.1 d4) (Bz [] (Bi [] ([]:List (Nat×Row))) (o.dst.getD 0)) (o.dst.getD 0);have Y:=e1.cong a7;have a8:tm.map (HM [])=tm:=by
       conv=>rhs;rw[<-List.map_id tm]
       rfl
      rw[a8]at Y;rw[Vy d5]at e2;exact⟨x,he,O _ _ _ _ _ x w' U Y e2 (Jl d5)⟩
   grind
 grind
theorem Q0z {rk ri:Nat->Nat}:∀{args:List TV},Ao TV.plainB args=true->args.map (TV.ren rk ri)=args
 |[],_=>rfl
 |a::l,h=>by
  simp only[Ao]at h;obtain⟨h1,h2⟩:=cond_none' h;simp only[be];rw[Vy h1,Q0z h2]
 where cond_none' {c p:Bool} (h:cond c p false=true):c=true/\p=true:=by grind
theorem Qw1 (x:Nat):x.blt 0=false:=rfl
theorem Zns (j:Nat) (r:Row):Bi [] [(j,r)]=[j]:=by
 have D:(base.ble j&&(j-base).blt 0)=false:=by
  rw[Qw1,Bool.and_false]
 unfold Bi;simp only[bv,D,aq];rfl
theorem Yan (j d:Nat):Bz [] [j] d j=IT d:=by
 have D:(base.ble j&&(j-base).blt 0)=false:=by
  rw[Qw1,Bool.and_false]
 unfold Bz IT;simp only[bv,D,aq,pos,Nat.beq_refl,aj,Nat.add_zero]
theorem Yib (V:Ai P C) (hR:RelE Z tm aB aC ρ tmps w) {o:Oper} {a:Act} {f:FuncId} {args:List TV} {xs:List Value} (h1:xs.length=args.length)
  (h2:∀(i:Nat) (a:TV) (x:Value),args[i]? =some a->xs[i]? =some x->TVR ρ w a x) (h3:execOp a.eval o=callFunc f xs.toArray) (a9:∀v∈args,TV.wf aB aC v) {K:TV->St->Option R} {r:R}
  (h:A5 C o.dst (.callF f args) ⟨tm,aB,aC⟩ K=some r) {next:Act->World->Prop} {Q:Exit->Act->World->Prop}
  (M:∀(v:TV) (a1:List TV) (D:List (Nat×Box)) (G:List (Nat×Row)) (ρ':Env) (x:Value) (w':World),K v ⟨a1,D,G⟩=some r->RelE Z a1 D G ρ' tmps w'->TVR ρ' w' v x->TV.wf D G v->next (a.put o.dst x) w'):
  o.wp P a w next Q:=by
 simp only[A5]at h;split at h
 ·rename_i g hg;have b0:=V.1 f g hg;cases X:Ao TV.plainB args<;>rw[X]at h
  ·grind
  simp only[aj]at h;obtain⟨v,⟨b1,N⟩,L,b2⟩:=b0.run h;have S:=VF hR h1 h2 a9 gn gn (keys:=[]) (ids:=[]) (λv L=>Qwn (Ax.1 X v L)) (λk hk=>by grind) (show Da aB _ _ base []=some []from rfl) (show Fy aC base []=some []from rfl);rw[Q0z X]at S;refine L9 h3 ((b2 _ xs S).mono ?_);rintro e w' ⟨x,ρ2,he,a2⟩;have a3:tm.map (HM [])=tm:=by
   conv=>rhs;rw[<-List.map_id tm]
   rfl
  have Y:(Dd [] aB).map (λp=>(p.1,C9 [] p.2))=aB:=by
   conv=>rhs;rw[<-List.map_id aB]
   rfl
  cases b1 with
  |cons _ _=>grind
  |nil=>
  have a4:(N.map (·.1)).Nodup->(∀k∈Bi [] N,Ac aC (Bz [] (Bi [] N) (o.dst.getD 0) k)=none)->_:=λd1 d2=>
   SV hR gn gn (show Da aB _ _ base []=some []from rfl) (show Fy aC base []=some []from rfl) a2 (d:=o.dst.getD 0) (by simp) d1 (λk hk=>by grind [Bi]) d2
  cases N with
  |nil=>
   dsimp only at L;cases a0:v.plainB<;>rw[a0]at L
   ·grind
   simp only[aj]at L;obtain⟨e1,e2,e3⟩:=a4 (by simp) (λk hk=>by grind [Bi]);rw[a3,Y]at e1;rw[Vy a0]at e2;exact⟨x,he,M _ _ _ _ _ x w' L e1 e2 (Jl a0)⟩
  |cons p l=>
   obtain⟨k,I⟩:=p;cases l with
   |cons _ _=>grind
   |nil=>
    dsimp only at L;split at L
    ·rename_i j w0 n0;cases O:Nat.beq j k<;>rw[O]at L
     ·grind
     simp only[aj]at L;have O:=ag O;subst O;split at L
     ·grind
     rename_i b3;simp only[A3]at L;have hf:=Zns j I;have hb:=Yan j (o.dst.getD 0);obtain⟨e1,e2,e3⟩:=a4 (by simp) (λk hk=>by grind);rw[a3,Y]at e1;rw[Y]at e3;have b4:=a2.wt (.v false [.own j w0 n0]) (by simp) (.own j w0 n0) (by simp);obtain⟨r1,a5,b5,b6⟩:=b4;simp only[Ac,Nat.beq_refl,aj,an]at a5;subst a5;have T:TV.ren (Bz [] (Bi ([]:List Nat) ([]:List (Nat×Box))) (o.dst.getD 0)) (Bz [] (Bi [] [(j,I)]) (o.dst.getD 0)) (.v false [.own j w0 n0])= .c (.own (IT (o.dst.getD 0)) I.ks.length I.l.length):=by
      simp only[TV.ren,be,da,AC.ren,hf,hb];rw[<-b6,<-b5]
     have U:Ia (Bz [] (Bi [] [(j,I)]) (o.dst.getD 0)) [(j,I)] (Dd [] aC)=ins aC (IT (o.dst.getD 0)) I:=by
      simp only[Ia,hf,hb,Dd]
     have a6:=e1;rw[U]at a6;have a7:=e2;rw[T]at a7;have a8:=e3;rw[T,U]at a8;exact⟨x,he,M _ _ _ _ _ x w' L a6 a7 a8⟩
    grind
 grind
end
open Go.RowKit
section
variable {P:Program} {C:Cfg} {ρ:Env} {w:World} {R:Type} {Z:Base} {tm:List TV} {aB:List (Nat×Box)} {aC:List (Nat×Row)} {tmps:Array Value}
theorem Znb {g:Bool} {sz off:Nat} {cells:List AC} {v:TV} (D:Dw g sz cells off=some v) (hb:∀a∈cells,AC.wf aB aC a):TV.wf aB aC v:=by
 unfold Dw at D;cases g
 ·simp only[aq]at D;split at D
  ·rename_i c I;simp at D;subst D;intro c' L;grind
  grind
 ·simp only[aj]at D;cases G:Nat.ble (off+sz) cells.length<;>rw[G]at D
  ·grind
  ·simp at D;subst D;intro c I;exact hb c (dl (dk I))
theorem Z95 {a N:TV} (D:a.hasOwn=false) (L:a.res aC=some N):a=N:=by
 have O:∀(cs G:List AC),cs.any AC.isOwn=false->Er aC cs=some G->cs=G:=by
  intro cs;induction cs with
  |nil=>grind [Er]
  |cons b cs S=>
   intro G D h;simp only[List.any_cons,Bool.or_eq_false_iff]at D;simp only[Er]at h;split at h
   ·rename_i b' I;split at h
    ·rename_i T M;simp at h;subst h;rw[S _ D.2 M];have U:=D.1;cases b<;>simp only[AC.res]at I<;>first|(simp at I;done)|grind [AC.isOwn]|grind
    grind
   grind
 cases a with
 |vD=>grind [TV.res]
 |tup=>grind [TV.res]
 |v g cs=>
  simp only[TV.res]at L;split at L
  ·rename_i l h;simp at L;subst L;rw[O _ _ D h]
  grind
theorem Zlb {t e:TypeId} {i:TypeInfo} {z:Value} (D:P.underlying t=some (.slice e)) (G:P.info? e=some i) (I:i.zero=some z) {kl kc:IntKind} {n:Nat} (hb:n*i.bytes<=140737488355328) (L:n<=140737488355328):
  ∃(w':World) (arr:Array Value),(Instr.makeSlice t (.int kl (n:Int)) (.int kc (n:Int))).run P w= .ok (.slice (some ⟨w.heap.size,0,none⟩) n n) w'/\w'=w.alloc (.cells arr e)/\
   arr.toList=(List.range (n*i.size)).map λj=>z.cells[j%z.cells.size]! :=by
 have e1:((n*i.bytes:Nat):Int)=(n:Int)*(i.bytes:Int):=cm _ _;have e2:(i.bytes:Int)*(n:Int)<=281474976710656:=by rw[il];omega
 have h:=run_make w t e i z D G I kl kc (n:Int) (n:Int) (by omega) (f6 _) e2 (by omega);rw[af]at h;exact⟨_,madeCells z.cells (n*i.size),h,rfl,by simp[madeCells]⟩
theorem Qs1 (a3:Ai P C) (S:RelE Z tm aB aC ρ tmps w) {o:Oper} {a:Act} {p:Prim} (hp:Ju P ρ w a.eval o p) (a2:Prim.wf aB aC p) (g8:Prim.isApp (some p)=false) {K:TV->St->Option R} {r:R}
  (h:A5 C o.dst p ⟨tm,aB,aC⟩ K=some r) {next:Act->World->Prop} {Q:Exit->Act->World->Prop}
  (G:∀(v:TV) (d3:List TV) (a4:List (Nat×Box)) (b0:List (Nat×Row)) (ρ':Env) (x:Value) (w':World),K v ⟨d3,a4,b0⟩=some r->RelE Z d3 a4 b0 ρ' tmps w'->TVR ρ' w' v x->TV.wf a4 b0 v->next (a.put o.dst x) w'):
  o.wp P a w next Q:=by
 cases p with
 |val v=>
  obtain⟨x,V,T⟩:=hp;exact HU V (G v _ _ _ ρ x w h S T a2)
 |load g sz key off=>
  obtain⟨t,V,T,U⟩:=hp;simp only[A5]at h;split at h
  ·rename_i b X;split at h
   ·rename_i v hv;obtain⟨arr,q1,q2,q3⟩:=S.bx key b X;obtain ⟨x, q4, q5⟩ := VH (b := ρ.bx key) (o := 0) V T hv q2 (λj y hj => by
     simp only[dh];rw[cell_of_row w _ j arr b.ty (0,0) q1]
     grind)
    rw[dh]at q4;rw[q4]at U;refine HU U (G v _ _ _ ρ x w h S q5 ?_);have hb:=S.wb key b X;unfold Dw at hv;cases g
    ·simp only[aq]at hv;split at hv
     ·rename_i c M;simp at hv;subst hv;intro c' b7;grind
     grind
    ·simp only[aj]at hv;cases b1:Nat.ble (off+sz) b.cells.length<;>rw[b1]at hv
     ·grind
     ·simp at hv;subst hv;intro c M;exact hb c (dl (dk M))
   grind
  grind
 |store key off cs=>
  obtain⟨t,x,V,T,U⟩:=hp;simp only[A5]at h;split at h
  ·rename_i b X;cases hb:Nat.ble (off+cs.length) b.cells.length<;>rw[hb]at h
   ·grind
   ·simp only[aj,A3]at h;have hle:=az hb;obtain⟨arr,q1,q2,q3⟩:=S.bx key b X;have hlen:=T.length;rw[hlen]at V hle;have q4:=Q1y V q1 (by rw[<-fe,<-q2.length];exact hle) T.one;rw[q4]at U;refine Zgr U (G .vD _ _ _ ρ undef _ h (S.store X ?_ ?_) trivial trivial)
    ·intro c M;rw[GD _ _ _ (by omega)]at M;simp only[bq]at M;rcases M with(M|M)|M
     ·exact S.wb key b X c (dk M)
     ·exact a2.2 c M
     ·exact S.wb key b X c (dl M)
    ·exact q2.splice off T
  grind
 |new ty cs=>
  obtain⟨arr,V,T⟩:=hp;simp only[A5]at h;split at h
  ·rename_i d hd;split at h
   ·grind
   ·rename_i hn;simp only[A3]at h;refine HU T (G _ _ _ _ _ _ _ h (S.new hn a2 V) ?_ ?_)
    ·grind [TVR.c',CC,BL]
    ·intro c M;simp at M;subst M;exact⟨_,Ep _ _ _ hn⟩
  grind
 |newS ty n cs=>
  obtain⟨arr,V,T⟩:=hp;simp only[A5]at h;split at h
  ·rename_i d hd;split at h
   ·grind
   ·rename_i hn;simp only[A3]at h;refine HU T (G _ _ _ _ _ _ _ h (S.new hn a2 V) ?_ ?_)
    ·grind [TVR.c',CC,BL]
    ·intro c M;simp at M;subst M;exact⟨_,Ep _ _ _ hn⟩
  grind
 |rload g sz id idx sub=>
  obtain⟨t,b,V,T,hb,U⟩:=hp;obtain⟨D,O,a5⟩:=a2;simp only[A5,O]at h;split at h
  ·rename_i v hv;obtain⟨q1,q2,_,xs,q3,q4⟩:=S.ro id D O;have a7:D.l[idx]? =some D.l[idx]:=ai a5;have d4:=q4.2.2 idx _ a7;have hf:D.f idx=D.l[idx]:=by
    show AE D.ks (nth [] D.l idx)=_;rw[B5,List.getD,a7];exact q4.2.1 _ (bh a5)
   have g9:RO w b (HH (ρ.rv id)+idx*D.w) (cut xs (idx*D.w) D.w):=by
    intro j y hj;simp only[cut,gj]at hj;split at hj
    ·rw[fd]at hj;have:=Q9 q3 hb (idx*D.w+j) y hj
     grind
    ·grind
   rw[hf]at hv;obtain⟨x,q5,q6⟩:=VH (b:=b) (o:=HH (ρ.rv id)+idx*D.w) (ρ:=ρ) V T hv (d4.mono λ_ _ _ hh=>IP hh) g9;rw[<-q2,gy]at q5;rw[q5]at U;exact HU U (G v _ _ _ ρ x w h S q6 (Znb hv (Zup d4)))
  grind
 |rstore id idx sub cs=>
  obtain⟨t,x,b,V,T,hb,U⟩:=hp;obtain⟨D,O,a5⟩:=a2;simp only[A5,O]at h;cases M:(Nat.ble (sub+cs.length) D.w&&Ao AC.plain cs)<;>rw[M]at h
  ·grind
  ·simp only[aj]at h;split at h
   ·rename_i c b8;simp only[A3]at h;simp only[ak]at M;have hle:=az M.1;obtain⟨q1,q2,_,xs,q3,q4⟩:=S.ro id D O;have a7:D.l[idx]? =some D.l[idx]:=ai a5;have hf:D.f idx=D.l[idx]:=by
     show AE D.ks (nth [] D.l idx)=_;rw[B5,List.getD,a7];exact q4.2.1 _ (bh a5)
    rw[hf]at b8;rcases q3.2 with⟨e1,e2⟩|⟨g',Y,cap,cur,e1,e3,e4,e5,e6,e7⟩
    ·omega
    ·have h0:b=g':=by rw[e1]at hb;simp[Value.ownBlock]at hb;exact hb.symm
     subst h0;have hlen:=T.length;have d5:=q4.1;have hbound:idx*D.w+sub+cs.length<=D.n*D.w:=by
      have:idx*D.w+D.w<=D.n*D.w:=by
       calc idx*D.w+D.w=(idx+1)*D.w:=by grind
        _<=D.n*D.w:=bg _ a5
      omega
     have i0:D.n*D.w<=cap*D.w:=bg _ e4;rw[q2]at U;rw[hlen]at V hle hbound;have e0:HH (ρ.rv id)=Y:=by rw[e1];rfl
     rw[e0]at U;have q5:=Q1y (off:=Y+(idx*D.w+sub)) V e3 (by omega) T.one;rw[q5]at U;have e8:Y+cap*D.w<=cur.toList.length:=by rw[fe];exact e6
     have i1:(splice cur.toList (Y+(idx*D.w+sub)) x.cells.toList).drop Y=splice (cur.toList.drop Y) (idx*D.w+sub) x.cells.toList:=by
      rw[GD _ _ _ (by omega),GD _ _ _ (by grind),d9,i9 (by grind),List.drop_take,show Y+(idx*D.w+sub)-Y=idx*D.w+sub from by omega,jn,d9];congr 2;rw[gy]
     have k0:((splice cur.toList (Y+(idx*D.w+sub)) x.cells.toList).drop Y).take (D.n*D.w)=splice xs (idx*D.w+sub) x.cells.toList:=by
      rw[i1];have i2:cap*D.w<=(cur.toList.drop Y).length:=by rw[dc];omega
      generalize cur.toList.drop Y=L at e7 i2⊢;rw[GD _ _ _ (by omega),GD _ _ _ (by grind),<-e7];apply gq;intro j;simp only[gj,f7,fx,ap,fd];by_cases hj:j<D.n*D.w
      ·rw[aa hj];by_cases j1:j<idx*D.w+sub
       ·grind
       ·by_cases j2:j<idx*D.w+sub+x.cells.toList.length
        ·grind
        grind
      ·grind
     have i3: ¬ρ.im b:=λhi=>(S.ib b hi).2.2 id D O hb;have hold:∀k,k≠b->(w.setRow b (splice cur.toList (Y+(idx*D.w+sub)) x.cells.toList).toArray).heap[k]? =w.heap[k]? :=λk X=>setRow_other w b k _ X;have b3:∀(a:AC) (y:Value),CP ρ.im w a y->CP ρ.im (w.setRow b (splice cur.toList (Y+(idx*D.w+sub)) x.cells.toList).toArray) a y:=λa y hh=>CP.mono (λ_ h=>h) (λk X=>hold k (λe=>i3 (e▸X))) a y hh;have e9:CL (CP ρ.im w) c (splice (cut xs (idx*D.w) D.w) sub x.cells.toList)/\AE D.ks c=c:=
      SE b8 (((q4.2.2 idx _ a7).mono λ_ _ _ hh=>IP hh).splice sub T)
     have a1:=S.turnRow (id:=id) O (r':=⟨D.ty,D.ks,D.l.set idx c⟩) (v':=ρ.rv id)
      (xs:=splice xs (idx*D.w+sub) x.cells.toList) (w':=w.setRow b (splice cur.toList (Y+(idx*D.w+sub)) x.cells.toList).toArray)
      ⟨rfl,rfl,rfl,by simp,λk _ X=>hold k (λe=>X (by grind))⟩ rfl
      ⟨by simp_all [Row.n,LJ], .inr ⟨b,Y,cap,_,by grind,setRow_heap w b cur _ D.ty _ e3,by grind,e5,by grind [LJ],by grind⟩⟩
      ⟨by grind [LJ],λc' b7=>by
       rcases ff b7 with b7|rfl
       ·exact q4.2.1 c' b7
       grind,λi c' hi=>by
       simp only[List.getElem?_set]at hi;by_cases c4:idx=i
       ·subst c4;rw[aa rfl,aa a5]at hi;simp at hi;subst hi;have e:=Ybr xs x.cells.toList idx D.w sub D.n a5 d5 (by omega);show CL _ c (cut _ (idx*D.w) D.w);rw[e];exact e9.1.mono λa _ y hh=>b3 a y hh
       ·rw[ab c4]at hi;have k6:i<D.n:=(fg.1 hi).1;have e:=Zri xs x.cells.toList idx i D.w sub D.n a5 (λe=>c4 e.symm) d5 (by omega);show CL _ c' (cut _ (i*D.w) D.w);rw[e];exact(q4.2.2 i c' hi).mono λa _ y hh=>b3 a y hh⟩
      (.inl rfl) (.inl ⟨rfl,by grind⟩)
     exact Zgr U (G .vD _ _ _ _ undef _ h a1 trivial trivial)
   grind
 |newRow el ks l=>
  obtain⟨arr,V,T,U,h4⟩:=hp;simp only[A5]at h;split at h
  ·rename_i d hd;split at h
   ·grind
   ·rename_i hn;simp only[A3]at h;have hb:Below w.heap.size w (w.alloc (.cells arr el)):=(Below.refl _ _).alloc (bt _) _;have N:RowC ρ.im (w.alloc (.cells arr el)) ks l arr.toList:=U.mono (λ_ h=>h) (λb I=>Below.heap_alloc w _ b (S.ib b I).1);have a8:=S.addRow (d:=C.rowAs d) hn (r:=⟨el,ks,l⟩) (v':= .slice (some ⟨w.heap.size,0,none⟩) l.length l.length) (xs:=arr.toList) (w':=w.alloc (.cells arr el)) hb V
     ⟨U.1, .inr ⟨w.heap.size,0,l.length,arr,rfl,heap_alloc_new w _,bt _,T,by rw[<-fe,dh];exact Nat.le_of_eq U.1.symm,by
      show List.take (l.length*ks.length) _=_;rw[<-U.1,fh,gf]⟩⟩ N
     (λg hg=>by grind [Value.ownBlock])
    refine HU h4 (G _ _ _ _ _ _ _ h a8 ?_ ?_)
    ·exact TVR.c' ⟨by grind [BL],by grind [BL], .inr ⟨_,_,_,rfl⟩⟩
    ·intro c M;simp at M;subst M;exact⟨_,Ep _ _ _ hn,rfl,rfl⟩
  grind
 |newView el ks l=>
  obtain⟨arr,V,T,U,h4⟩:=hp;simp only[A5]at h;have hb:Below w.heap.size w (w.alloc (.cells arr el)):=(Below.refl _ _).alloc (bt _) _;have N:RowC ρ.im (w.alloc (.cells arr el)) ks l arr.toList:=U.mono (λ_ h=>h) (λb I=>Below.heap_alloc w _ b (S.ib b I).1);have hg:=S.growIm (im':=λb=>ρ.im b\/b=w.heap.size) hb (λb h=> .inl h) (λb h=>h.imp id λe=>by simp_all);refine HU h4 (G _ _ _ _ _ _ _ h hg ?_ ?_)
  ·refine TVR.c' ?_;have b9:E3 (w.alloc (.cells arr el)) el ks.length (.slice (some ⟨w.heap.size,0,none⟩) l.length l.length) l.length arr.toList:=
    ⟨U.1, .inr ⟨w.heap.size,0,l.length,arr,rfl,heap_alloc_new w _,bt _,T,by rw[<-fe,dh];exact Nat.le_of_eq U.1.symm,by rw[fh,<-U.1,gf]⟩⟩
   exact IP (ZN b9 (N.mono (λ_ h=> .inl h) (λ_ _=>rfl)) (λg hg=> .inr (by grind [Value.ownBlock])))
  ·intro c M;simp at M;subst M;trivial
 |make el ks bytes n z=>
  obtain⟨t,i,zv,kl,kc,V,T,U,h4,h5,h6,h7,h8,h9,f0⟩:=hp;subst h5;simp only[A5]at h;split at h
  ·rename_i d hd;split at h
   ·grind
   ·rename_i hn;cases M:(decide (0<=n)&&decide (n*(i.bytes:Int)<=140737488355328))<;>rw[M]at h
    ·grind
    ·simp only[aj,A3]at h;simp only[ak,cg]at M;have f1:((n.toNat:Nat):Int)=n:=Int.toNat_of_nonneg M.1;have i4:zv.cells.toList.length=ks.length:=by
      rw[<-h9.length,<-h8];exact TY _ _
     have i5:n.toNat*i.bytes<=140737488355328:=by
      have T:=M.2;rw[<-f1]at T;have e1:((n.toNat*i.bytes:Nat):Int)=(n.toNat:Int)*(i.bytes:Int):=cm _ _;omega
     have k7:n.toNat<=n.toNat*i.bytes:=iq _ h7;obtain⟨w',arr,p1,p2,p3⟩:=Zlb (P:=P) (w:=w) (t:=t) (e:=el) (i:=i) (z:=zv) V T U (kl:=kl) (kc:=kc) (n:=n.toNat) i5 (by omega);rw[f1]at p1;rw[p1]at f0;subst p2;have c5:zv.cells.size=ks.length:=by rw[<-fe];exact i4
     have f2:arr.toList.length=n.toNat*ks.length:=by rw[p3,h4,c5];simp[c5]
     have j9:∀j,j<n.toNat->cut arr.toList (j*ks.length) ks.length=zv.cells.toList:=by
      intro j hj;have hle:j*ks.length+ks.length<=n.toNat*ks.length:=by
       calc j*ks.length+ks.length=(j+1)*ks.length:=by grind
        _<=n.toNat*ks.length:=bg _ hj
      apply gq;intro q;simp only[cut,gj,fd];by_cases hq:q<ks.length
      ·rw[aa hq,p3,h4,c5];rw[du,List.getElem?_range (by omega)];simp_all [Nat.mod_eq_of_lt]
      ·grind
     have hb:Below w.heap.size w (w.alloc (.cells arr el)):=(Below.refl _ _).alloc (bt _) _;have c6:RowC ρ.im w ks (List.replicate n.toNat z) arr.toList:=by
      refine⟨by grind,λc M=> ?_,λj c hj=> ?_⟩
      ·grind
      ·grind
     have N:RowC ρ.im (w.alloc (.cells arr el)) ks (List.replicate n.toNat z) arr.toList:=c6.mono (λ_ h=>h) (λb I=>Below.heap_alloc w _ b (S.ib b I).1);have j0:(List.replicate n.toNat z).length=n.toNat:=by simp
     have a8:=S.addRow (d:=d) hn (r:=⟨el,ks,List.replicate n.toNat z⟩) (v':= .slice (some ⟨w.heap.size,0,none⟩) n.toNat n.toNat) (xs:=arr.toList) (w':=w.alloc (.cells arr el)) hb h6
      ⟨by grind, .inr ⟨w.heap.size,0,n.toNat,arr,by grind,heap_alloc_new w _,by grind,by grind [maxLen],by grind,by grind⟩⟩ N
      (λg hg=>by grind [Value.ownBlock])
     refine HU f0 (G _ _ _ _ _ _ _ h a8 ?_ ?_)
     ·exact TVR.c' ⟨by grind [BL],by grind [BL], .inr ⟨_,_,_,by rw[j0]⟩⟩
     ·intro c M;simp at M;subst M;exact⟨_,Ep _ _ _ hn,by omega,rfl⟩
  grind
 |cutR id a=>
  simp only[A5]at h;split at h
  ·rename_i D O;have hle:Nat.ble a D.l.length=true:=by
    cases hb:Nat.ble a D.l.length
    ·grind
    ·rfl
   rw[hle]at h;simp only[aj]at h;have hle:a<=D.n:=az hle;simp only[A3]at h;obtain⟨q1,q2,_,xs,q3,q4⟩:=S.ro id D O;have hlen:(D.l.drop a).length=D.n-a:=by simp[Row.n]
   have key : ∃ ad cap, ρ.rv id = .slice ad D.n cap /\ D.n <= cap /\ (let v' : Value := .slice (if cap = a then ad else ad.map (·.add (a * ρ.wd id))) (D.n - a) (cap - a)
     v'.ownBlock=(ρ.rv id).ownBlock/\E3 w D.ty D.w v' (D.n-a) (xs.drop (a*D.w))/\((v'= .slice none 0 0/\D.n-a=0)\/∃g o c,v'= .slice (some ⟨g,o,none⟩) (D.n-a) c)):=by
    have f3:(xs.drop (a*D.w)).length=(D.n-a)*D.w:=by rw[dc,q3.1,Nat.sub_mul]
    rcases q3.2 with⟨e1,e2⟩|⟨g,Y,cap,cur,e1,e3,e4,e5,e6,e7⟩
    ·refine⟨none,0,by grind,by omega,?_⟩;simp_all
    ·refine⟨_,cap,e1,e4,?_⟩;rw[e1,q2];by_cases f4:cap=a
     ·have g8:D.n=a:=by omega
      simp only[f4,ew];refine⟨rfl,⟨f3, .inr ⟨g,Y,a-a,cur,rfl,e3,by omega,by omega,by grind,?_⟩⟩, .inr ⟨g,Y,_,rfl⟩⟩
      grind
     ·simp only[f4,f9,Option.map_some,Addr.add_lit];refine⟨rfl,⟨f3, .inr ⟨g,Y+a*D.w,cap-a,cur,rfl,e3,by omega,by omega,?_,?_⟩⟩, .inr ⟨g,Y+a*D.w,_,rfl⟩⟩
      ·rw[Nat.sub_mul];have:a*D.w<=cap*D.w:=bg _ (by omega);omega
      grind [List.drop_take,List.drop_drop]
   obtain⟨ad,cap,k1,k2,k3,k4,k5⟩:=key;have f5:=hp ad D.n cap k1 k2 hle;have c7:=S.kill id;have N:RowC ρ.im w D.ks (D.l.drop a) (xs.drop (a*D.w)):=by
    refine⟨by rw[dc,q3.1,dc,<-Nat.sub_mul],λc M=>q4.2.1 c (dl M),λi c hi=> ?_⟩;rw[fd]at hi;have:=q4.2.2 (a+i) c hi;have e:cut (xs.drop (a*D.w)) (i*D.ks.length) D.ks.length=cut xs ((a+i)*D.ks.length) D.ks.length:=by
     simp only[cut,jn,gx]
    rw[e];exact this
   have a1:=c7.turnRow (id:=id) O (r':=⟨D.ty,D.ks,D.l.drop a⟩) (v':=_) (xs:=xs.drop (a*D.w)) (w':=w) ⟨rfl,rfl,rfl,bt _,λ_ _ _=>rfl⟩ rfl (by grind) N (.inl k3)
    (.inr ⟨λv hv=>by grind [TV.kill_free],λk b X a' c8=>by
     rw[Ft]at X;cases hl:Ac aB k with
     |none=>grind
     |some b'=>grind [Box.kill,AC.kill_free]⟩)
   refine HU f5 (G _ _ _ _ _ _ _ h a1 ?_ ?_)
   ·refine TVR.c' ⟨by grind [BL],by omega,?_⟩
    grind
   ·intro c M;simp at M;subst M;exact⟨_,EF _ _ _ _ O,by omega,rfl⟩
  grind
 |append e ks bytes s x=>
  obtain⟨t,ty,i,z,sv,xv,V,T,U,h4,h5,h6,h7,h8,h9⟩:=hp;subst h5;simp only[A5]at h;split at h
  ·rename_i m g0;obtain⟨ad,c,news,rfl,N,b4⟩:=Zkn S g0 h8;split at h
   ·
    split at h
    ·rename_i d hd;split at h
     ·grind
     ·rename_i hn;cases hb:(Nat.ble 1 ks.length&&Nat.ble 1 i.bytes)<;>rw[hb]at h
      ·grind
      ·simp only[aj]at h;simp only[ak]at hb;have k8:=az hb.1;have j3:=az hb.2;cases b1:Nat.ble (m.length*i.bytes) 140737488355328<;>rw[b1]at h
       ·grind
       ·simp only[aj,A3]at h;have hbound:=az b1;have hm:m.length<=m.length*i.bytes:=iq _ (by omega);simp only[CC,CP]at h7;subst h7;obtain⟨v',w',q1,q2,q3,q4⟩:=Q2l (P:=P) (ty:=ty) (c:=c) V T U h4 h6 (by omega) (X3 w e ks.length) N.1 b4 (N.one (by omega)) (by grind [maxLen]) (by grind);rw[q1]at h9;simp only[dh,ay]at q2;have a9:Below w.heap.size w w':=⟨q3.os,q3.tape,q3.output,q3.size,λk X=>q3.block k X (by simp[Value.ownBlock])⟩;have a8:=S.addRow (d:=d) hn (r:=⟨e,ks,m⟩) (v':=v') (xs:=news) (w':=w') a9 (by grind) q2
         (N.mono (λ_ h=>h) (λb I=>a9.block b (S.ib b I).1)) (λg' j4=>by grind [Value.ownBlock])
        refine HU h9 (G _ _ _ _ _ _ _ h a8 ?_ ?_)
        ·refine TVR.c' ⟨by grind [BL],by grind [BL],?_⟩;rcases q2.2 with⟨e1,e2⟩|⟨g',Y,cap,cur,e1,_⟩
         ·grind
         grind
        ·intro c M;simp at M;subst M;exact⟨_,Ep _ _ _ hn,rfl,rfl⟩
    grind
   ·
    rename_i id w1 n1;split at h
    ·rename_i D O;cases hb:(C6 ks D.ks&&Nat.beq D.ty e&&Nat.ble 1 i.bytes)<;>rw[hb]at h
     ·grind
     ·simp only[aj]at h;simp only[ak]at hb;have e1:=IQ hb.1.1;have e2:=ag hb.1.2;have j3:=az hb.2;subst e1 e2;cases b1:Nat.ble ((D.l++m).length*i.bytes) 140737488355328<;>rw[b1]at h
      ·grind
      ·simp only[aj,A3]at h;have hbound:=az b1;rw[ap]at hbound;have hm:D.l.length+m.length<=(D.l.length+m.length)*i.bytes:=iq _ (by omega);obtain⟨q1,q2,_,xs,q3,q4⟩:=S.ro id D O;obtain⟨c1,c2,c3⟩:=h7;subst c1;obtain⟨v',w',p1,p2,p3,p4⟩:=Q2l (P:=P) (ty:=ty) (c:=c) V T U h4 h6 q1 q3 N.1 b4 (N.one q1) (by simp only[maxLen,Row.n];omega) hbound;rw[p1]at h9;have c7:=S.kill id;have g1:∀b,ρ.im b->w'.heap[b]? =w.heap[b]? :=λb I=>p3.block b (S.ib b I).1 (λe=>(S.ib b I).2.2 id D O e.symm);have g2:=(q4.append N).mono (λ_ h=>h) g1;have a1:=c7.turnRow (id:=id) O (r':=⟨D.ty,D.ks,D.l++m⟩) (v':=v') (xs:=xs++news) (w':=w') p3 rfl (by grind) g2
        (Q2 p4 (λx=>x) (λx g' j4=>by grind))
        (.inr ⟨λv hv=>by grind [TV.kill_free],λk b X a' c8=>by
         rw[Ft]at X;cases hl:Ac aB k with
         |none=>grind
         |some b'=>grind [Box.kill,AC.kill_free]⟩)
       refine HU h9 (G _ _ _ _ _ _ _ h a1 ?_ ?_)
       ·refine TVR.c' ⟨by grind [BL],by omega,?_⟩;rcases p2.2 with⟨e1,e2⟩|⟨g',Y,cap,cur,e1,_⟩
        ·grind
        grind
       ·intro c M;simp at M;subst M;exact⟨_,EF _ _ _ _ O,by grind,rfl⟩
    grind
   grind
  grind
 |call f args=>
  obtain⟨xs,V,T,U⟩:=hp;simp only[A5]at h;split at h
  ·rename_i g hg;split at h
   ·rename_i as has;obtain⟨f2,j5⟩:=Qwb has;have j6:=a3.1 f g hg;obtain⟨v,mem',hv,j7⟩:=j6.run h;split at hv
    ·cases b2:((!(args.any TV.hasOwn)||v.flat)&&v.plainB)<;>rw[b2]at hv
     ·grind
     ·simp only[aj]at hv;simp only[ak]at b2
      let b5:Nat->Prop:=λb=>ρ.im b\/(args.any TV.hasOwn=true/\∃id D,Ac aC id=some D/\(ρ.rv id).ownBlock=some b)
      have g3:∀b,b5 b->b<w.heap.size:=by
       rintro b (I|⟨_,id,D,O,I⟩)
       ·exact(S.ib b I).1
       ·exact(S.rwlt O I).2
      have b9:∀(i:Nat) (a0:TV),args[i]? =some a0->args.any TV.hasOwn=false->a0.hasOwn=false:=by
       intro i a0 c9 k9;cases hh:a0.hasOwn
       ·rfl
       ·grind
      have g4:∀(i:Nat) (a':TV) (x:Value),as[i]? =some a'->xs[i]? =some x->TVR {ρ with im:=b5} w a' x:=by
       intro i a' x c8 hx;obtain⟨_,a0,c9,O⟩:=j5 i a' c8;have g5:∀(a:AC) (y:Value),CP ρ.im w a y->CP b5 w a y:=λa y hh=>CP.mono (λ_ h=> .inl h) (λ_ _=>rfl) a y hh;cases b6:args.any TV.hasOwn
       ·grind [Z95,Zah]
       ·refine Zmi (aB:=aB) ?_ O (a2 a0 (bz c9)) (T i a0 x c9 hx);intro b b' y I hy l0;cases b<;>simp only[AC.res]at I<;>try (simp at I;done)
        case own id w1 n1=>
         split at I
         ·rename_i D c0;simp at I;subst I;obtain⟨q1,q2,_,ys,q3,q4⟩:=S.ro id D c0;obtain⟨c1,c2,c3⟩:=hy;subst c1;exact ZN q3 (q4.mono (λ_ h=> .inl h) (λ_ _=>rfl)) (λg hg=> .inr ⟨b6,id,D,c0,hg⟩)
         grind
        all_goals
         simp at I;subst I;exact g5 _ _ hy
      have j8:Gt (λb=>b<w.heap.size) w:=Z.gt.mono λg cs _ hg=>⟨S.fs g hg,S.fr.block g hg⟩;have d0:RelE (D6 (λb=>b<w.heap.size) w {ρ with im:=b5} [] j8) as [] [] {ρ with im:=b5} xs.toArray w:=by
       refine⟨by grind,λi a hi=> ?_,λa ha=> ?_,λk b X=>by grind [Ac],λk b X=>by grind [Ac],λk k' b b' X=>by grind [Ac],λid r hr=>by grind [Ac],
        λid id' r r' g hr=>by grind [Ac],λk b id r X=>by grind [Ac],λb hb=>⟨g3 b hb,λk bo X=>by grind [Ac],λid r hr=>by grind [Ac]⟩,Fr.refl _ _,λ_ h=>h,λ_ h=>h,λb h=> .inl h,λk b X=>by grind [D6,Ac]⟩
       ·have g6:i<xs.length:=by rw[V,<-f2];exact(fg.1 hi).1
        have e:xs.toArray.getD i undef=xs[i]:=by simp[Array.getD,g6]
        rw[e];exact g4 i a _ hi (ai g6)
       ·grind [List.getElem?_of_mem,Jl]
      refine L9 U ((j7 _ xs d0).mono ?_);rintro e w' ⟨x,ρ',he,a6⟩;have a9:Below w.heap.size w w':=⟨a6.fr.os,a6.fr.tape,a6.fr.output,a6.fr.size,λk X=>a6.fr.block k X⟩;have g7:TVR ρ' w' v x:=by simpa using a6.tv 0 v rfl
      by_cases b6:args.any TV.hasOwn=true
      ·have d1:v.flat=true:=by have:=b2.1;rw[b6]at this;simpa using this
       have d2:RelE Z tm aB aC ρ tmps w':=S.growIm (im':=ρ.im) a9 (λ_ h=>h) (λ_ h=> .inl h);exact⟨x,he,G v _ _ _ ρ x w' hv d2 (Z0g d1 g7) (Jl b2.2)⟩
      ·have d2 : RelE Z tm aB aC { ρ with im := ρ'.im } tmps w' := S.growIm a9 (λb hb => a6.i0 b (.inl hb)) (λb hb => by
        rcases a6.i1 b hb with I|I
        ·rcases I with I|⟨I,_⟩
         ·grind
         grind
        ·exact .inr ⟨Nat.not_lt.1 I,(a6.ib b hb).1⟩)
       exact⟨x,he,G v _ _ _ _ x w' hv d2 (Zah (ρ:=ρ') (ρ2:={ρ with im:=ρ'.im}) b2.2 (λ_ _ _ h=>h) g7) (Jl b2.2)⟩
    grind
   grind
  grind
 |callM f args=>
  obtain⟨xs,V,T,U⟩:=hp;exact Zwr a3 S V T U a2 h G
 |callD f args=>
  obtain⟨xs,V,T,U⟩:=hp;exact Zpw a3 S V T U a2 h G
 |callF f args=>
  obtain⟨xs,V,T,U⟩:=hp;exact Yib a3 S V T U a2 h G
 |appD e ks bytes s x=>grind [Prim.isApp]
theorem Zv4 (I:Ai P C) (X:RelE Z tm aB aC ρ tmps w) {o:Oper} {a:Act} {p:Prim} (Y:Ju P ρ w a.eval o p) (N:Prim.wf aB aC p) {K:TV->St->Option R} {r:R}
  (h:A5 C o.dst p ⟨tm,aB,aC⟩ K=some r) {next:Act->World->Prop} {Q:Exit->Act->World->Prop}
  (L:∀(v:TV) (M:List TV) (D:List (Nat×Box)) (G:List (Nat×Row)) (S:Env) (x:Value) (w':World),K v ⟨M,D,G⟩=some r->RelE Z M D G S tmps w'->TVR S w' v x->TV.wf D G v->next (a.put o.dst x) w'):
  o.wp P a w next Q:=by
 cases T:Prim.isApp (some p)
 ·grind [Qs1]
 ·cases p<;>simp[Prim.isApp]at T
  rename_i e ks bytes s x;by_cases O:s= .nilSl
  ·subst O;simp only[A5]at h;split at h
   ·rename_i m hm;split at h
    ·rename_i d hd;have h':A5 C o.dst (.append e ks bytes .nilSl x) ⟨tm,aB,aC⟩ (λv s=>K v ⟨s.tmps.map (TV.kill d),s.aB.map λp=>(p.1,p.2.kill d),s.aC⟩)=some r:=by
      simp only[A5,hm,hd];split at h
      ·omega
      ·grind [A3]
     refine Qs1 I X (p:= .append e ks bytes .nilSl x) Y N rfl h' ?_;intro v M D G S y w' hK U hv V;refine L _ _ _ _ S y w' hK (U.kill d) hv ?_;have a0:∀k,Ac (D.map λp=>(p.1,p.2.kill d)) k=(Ac D k).map (Box.kill d):=λk=>Ft (Box.kill d) D k;exact TV.wf_mono (λa=>AC.wf_mono (λk b hk=>⟨b.kill d,by grind⟩) (λk r hk=>⟨r,hk,rfl,rfl⟩)) V
    grind
   grind
  ·have h':A5 C o.dst (.append e ks bytes s x) ⟨tm,aB,aC⟩ K=some r:=by
    simp only[A5]at h⊢;split at h
    ·grind
    ·omega
   exact Qs1 I X (p:= .append e ks bytes s x) Y N rfl h' L
end
open Go.RowKit
section
variable {P:Program} {C:Cfg} {R:Type}
theorem Qe9 (op:BinOp) (k:IntKind) (a b:Int) (K:AC->Option R):HC op k a b K=(HC op k a b some).bind K:=by
 cases op<;>simp only[HC,am]
 all_goals grind
theorem T_ {i:Int}:∀(n k:Nat) {R S:Type} (f:Nat->Option R) (K:R->Option S),GX i n k (λj=>(f j).bind K)=(GX i n k f).bind K
 |0,k,_,_,f,K=>rfl
 |n+1,k,_,_,f,K=>by
  simp only[GX];rw[T_ n (k+1) f K]
  grind
theorem Qax (g:Int->Int->Int) (k:IntKind):∀(l:List TV) (a:Int) (K:Prim->Option R),Fh g k a l K=(Fh g k a l some).bind K
 |[],a,K=>by rfl
 |t::l,a,K=>by
  unfold Fh;split
  ·rename_i k' b;cases kEq k k'
   ·rfl
   ·exact Qax g k l (g a b) K
  ·rfl
theorem Z2m (b:Builtin) (D:List TypeId) (args:List TV) (K:Prim->Option R):JJ P b D args K=(JJ P b D args some).bind K:=by
 unfold JJ;split
 case h_6=>grind [Qax]
 case h_7=>grind [Qax]
 case h_8=>
  split
  ·grind
  ·rfl
 all_goals
  grind
theorem QX (D:Operand->TV) (dst:Option Tmp) (o:Op) (K:Prim->Option R):opK P C D dst o K=(opK P C D dst o some).bind K:=by
 cases o
 case pick c a b=>
  simp only[opK]
  grind
 case build t parts=>
  simp only[opK]
  grind
 case buildSlice t n parts=>
  simp only[opK];split
  ·grind
  ·rfl
 case makeSlice t len cap=>
  simp only[opK]
  grind
 case makeFunc L a b=>
  simp only[opK]
  grind
 case store t a x=>
  simp only[opK]
  grind
 case binOp op t x y M=>
  simp only[opK];split
  ·cases(kEq _ _||Nq op)
   ·rfl
   ·simp only[aj];rename_i k a k' b _ _;have G:=Qe9 op k a b (λv=>(some (Prim.val (TV.c v)):Option Prim));rw[Qe9,G]
    grind
  ·grind
  ·grind
  ·grind
  ·grind
  ·grind
  ·rfl
 case indexAddr t x I=>
  simp only[opK];split
  ·grind [T_]
  ·split
   ·grind
   ·grind
   ·cases(Nat.beq _ _)
    ·rfl
    ·simp only[aj];grind [T_]
   ·rfl
  ·rfl
 case index t x I=>
  simp only[opK]
  grind [T_]
 case slice t x lo N mx=>
  simp only[opK];split
  ·split
   ·grind
   ·grind
   ·grind
   ·rfl
  ·rfl
 case call c=>
  simp only[opK]
  grind [Z2m]
 all_goals
  simp only[opK]
  repeat' split
  all_goals rfl
end
open Go.RowKit
section
variable {P:Program} {C:Cfg} {R:Type} {aB:List (Nat×Box)} {aC:List (Nat×Row)}
theorem K4 {α:Type} {c:Bool} {p q:α} (h:cond c (some p) none=some q):c=true/\p=q:=by grind
theorem SK (k:IntKind) (n:Int):TV.wf aB aC (.c (.int k n)):=by intro a D;simp at D;subst D;trivial
theorem FG (b:Bool):TV.wf aB aC (.c (.bool b)):=by intro a D;simp at D;subst D;trivial
theorem Cq {a:AC} (h:AC.wf aB aC a):TV.wf aB aC (.c a):=by intro b hb;grind
theorem EW {a:AC} (h:TV.wf aB aC (.c a)):AC.wf aB aC a:=h a (by simp)
theorem Q00 (v:Value):AC.wf aB aC (No v):=by
 unfold No;split<;>trivial
theorem Qlh:∀(l:List Value) (cs:List AC),IS l=some cs->∀a∈cs,AC.wf aB aC a
 |[],cs,h=>by grind [IS]
 |v::l,cs,h=>by
  simp only[IS]at h;cases I:v.oneCell'<;>rw[I]at h
  ·grind
  ·simp only[aj]at h;split at h
   ·rename_i G L;simp at h;subst h;intro a D;simp only[av]at D;rcases D with rfl|D
    ·exact Q00 v
    ·exact Qlh l G L a D
   grind
theorem Zm0 (v:Value):TV.wf aB aC (ofValue v):=by
 unfold ofValue;split
 ·split
  ·rename_i h;exact Qlh _ _ h
  ·trivial
 ·trivial
 grind [Cq,Q00]
theorem Qb3 {tm:List TV} (h:∀v∈tm,TV.wf aB aC v) (x:Operand):TV.wf aB aC (AL tm x):=by
 cases x with
 |tmp t=>
  simp only[AL,B5,List.getD];cases D:tm[t]? with
  |none=>trivial
  |some v=>grind
 |const v=>exact Zm0 v
 |global=>trivial
 |func=>trivial
theorem Ux {t:TypeId} {cs:List AC} (h:Jr P t=some cs):∀a∈cs,AC.wf aB aC a:=by grind [Jr,Qlh]
theorem Zir {z:List AC} (D:∀a∈z,AC.wf aB aC a):∀n,∀a∈chunk z n,AC.wf aB aC a
 |0,a,h=>by grind [chunk]
 |n+1,a,h=>by
  simp only[chunk,bq]at h;rcases h with h|h
  ·grind
  ·exact Zir D n a h
theorem TV.cells_wf {v:TV} {cs:List AC} (h:v.cells=some cs) (D:TV.wf aB aC v):∀a∈cs,AC.wf aB aC a:=by
 cases v<;>simp[TV.cells]at h
 subst h;exact D
theorem Vc {α:Type} {x:α}:∀(l:List α) (o:Nat) (D:List α),x∈splice l o D->x∈l\/x∈D
 |l,o,[],h=>by grind [Qpw]
 |[],o,_::_,h=>by grind [splice]
 |y::l,0,v::D,h=>by
  simp only[splice,av]at h;rcases h with rfl|h
  ·simp
  ·rcases Vc l 0 D h with h|h
   ·grind
   grind
 |y::l,o+1,v::D,h=>by
  simp only[splice,av]at h;rcases h with rfl|h
  ·simp
  ·rcases Vc l o (v::D) h with h|h
   ·grind
   grind
theorem Vw {place:Nat->Option (Nat×Nat)}:∀(parts:List (Nat×TV)) (z cs:List AC),Gy place z parts=some cs->(∀a∈z,AC.wf aB aC a)->(∀p∈parts,TV.wf aB aC p.2)->∀a∈cs,AC.wf aB aC a
 |[],z,cs,h,I,_=>by grind [Gy]
 |(i,v)::parts,z,cs,h,I,G=>by
  simp only[Gy]at h;split at h
  ·rename_i off size l L M;cases hb:(Nat.beq l.length size&&Nat.ble (off+size) z.length)<;>rw[hb]at h
   ·grind
   ·refine Vw parts _ _ h (λa D=> ?_) (λp N=>G p (by grind));rcases Vc _ _ _ D with D|D
    ·grind
    ·exact TV.cells_wf M (G (i,v) (by simp)) a D
  grind
theorem SA {G:Operand->TV} (D:∀x,TV.wf aB aC (G x)):∀(l:List (Nat×Operand)),∀p∈FC G l,TV.wf aB aC p.2
 |[],p,h=>by grind [FC]
 |x::l,p,h=>by
  simp only[FC,av]at h;rcases h with rfl|h
  ·grind
  ·exact SA D l p h
theorem Pi {G:Operand->TV} (D:∀x,TV.wf aB aC (G x)):∀(l:List Operand),∀v∈BT G l,TV.wf aB aC v
 |[],p,h=>by grind [BT]
 |x::l,p,h=>by
  simp only[BT,av]at h;rcases h with rfl|h
  ·grind
  ·exact Pi D l p h
theorem Rz {g:Bool} {sz off:Nat} {cells:List AC} {v:TV} (h:Dw g sz cells off=some v) (I:∀a∈cells,AC.wf aB aC a):TV.wf aB aC v:=by
 unfold Dw at h;cases g
 ·simp only[aq]at h
  grind [Cq]
 ·simp only[aj]at h;cases D:Nat.ble (off+sz) cells.length<;>rw[D]at h
  ·grind
  ·simp at h;subst h;intro c G;exact I c (dl (dk G))
theorem Q0m {t:TypeId} {cs:List AC} {off:Nat} {v:TV} (h:NM P t cs off=some v) (D:∀a∈cs,AC.wf aB aC a):TV.wf aB aC v:=by grind [NM,Rz]
theorem Zvz {op:BinOp} {k:IntKind} {a b:Int} {c:AC} (h:HC op k a b some=some c):AC.wf aB aC c:=by
 cases op<;>simp only[HC]at h
 case quo=>cases hb:decide (b=0)<;>rw[hb]at h<;>simp at h;subst h;trivial
 case rem=>cases hb:decide (b=0)<;>rw[hb]at h<;>simp at h;subst h;trivial
 case shl=>cases hb:decide (b<0)<;>rw[hb]at h<;>simp at h;subst h;trivial
 case shr=>cases hb:decide (b<0)<;>rw[hb]at h<;>simp at h;subst h;trivial
 all_goals (simp at h;subst h;trivial)
theorem Qg0 (g:Int->Int->Int) (k:IntKind):∀(l:List TV) (a:Int) (p:Prim),Fh g k a l some=some p->Prim.wf aB aC p
 |[],a,p,h=>by simp[Fh]at h;subst h;exact SK _ _
 |t::l,a,p,h=>by
  unfold Fh at h;split at h
  ·rename_i k' b;cases D:kEq k k'<;>rw[D]at h
   ·grind
   ·exact Qg0 g k l _ p h
  grind
theorem Zpm (k:Kd) (a:AC):(Mh k a).calm=true:=by
 cases k<;>try rfl
 cases a<;>rfl
theorem Zgz:∀(ks:List Kd) (cs:List AC) (j:Nat),Ao AC.calm (EA ks cs j)=true
 |[],_,_=>rfl
 |k::ks,cs,j=>by simp only[EA,Ao,Zpm,aj];exact Zgz ks cs (j+1)
theorem Q2t {cs:List AC} (h:Ao AC.calm cs=true):∀a∈cs,AC.wf aB aC a:=by
 intro a D;have:=Ax.1 h a D;cases a<;>first|trivial|(simp[AC.calm]at this)
theorem Qj8:∀{l:List TV} {as:List AC},JA l=some as->(∀v∈l,TV.wf aB aC v)->∀a∈as,AC.wfP aB a
 |[],as,h,_=>by grind [JA]
 |v::l,as,h,D=>by
  unfold JA at h;split at h
  ·grind
  ·rename_i a L heq;simp only[d6]at heq;obtain⟨rfl,rfl⟩:=heq;cases G:a.clOk<;>rw[G]at h
   ·grind
   ·simp only[aj]at h;split at h
    ·rename_i r I;simp at h;subst h;intro b hb;simp only[av]at hb;rcases hb with rfl|hb
     ·have:=D (.c b) (by simp) b (by simp);cases b<;>first|exact this|trivial
     ·exact Qj8 I (λv M=>D v (by grind)) b hb
    grind
  grind
theorem Qdw {ev:Operand->TV} (G:∀x,TV.wf aB aC (ev x)) {dst:Option Tmp} {o:Op} {p:Prim} (h:opK P C ev dst o some=some p):Prim.wf aB aC p:=by
 cases o<;>simp only[opK]at h<;>try (simp at h;done)
 case move x=>simp at h;subst h;exact G x
 case assign x=>simp at h;subst h;exact G x
 case pick c a b=>
  split at h
  ·rename_i g _;cases g<;>simp at h<;>subst h
   ·exact G b
   ·exact G a
  grind
 case alloc t=>
  split at h
  ·rename_i cs U;simp at h;subst h;exact Ux U
  grind
 case box t x=>
  split at h
  ·rename_i cs hc;simp at h;subst h;exact TV.cells_wf hc (G x)
  grind
 case build t parts=>
  split at h
  ·rename_i z fs U hu;cases V:(Ao (LM P) fs.toList)<;>rw[V]at h
   ·grind
   ·simp only[aj]at h;split at h
    ·rename_i cs hb;simp at h;subst h;exact Vw _ _ _ hb (Ux U) (SA G _)
    grind
  ·rename_i z n el U hu;split at h
   ·split at h
    ·rename_i cs hb;simp at h;subst h;exact Vw _ _ _ hb (Ux U) (SA G _)
    grind
   grind
  grind
 case buildSlice t n parts=>
  split at h
  ·split at h
   ·cases hb:(Nat.beq _ _&&Nat.beq _ _&&Nat.ble 1 _&&Nat.ble _ 65536)<;>rw[hb]at h
    ·grind
    ·simp only[aj]at h;split at h
     ·rename_i U _ _ cs a0;split at h
      ·cases a1:ZZ C dst n<;>rw[a1]at h<;>simp at h<;>subst h<;>trivial
      ·cases T:(Ao AC.isClo cs&&Nat.beq _ 1)<;>rw[T]at h
       ·grind
       ·simp only[aj]at h;simp at h;subst h;refine Vw _ _ _ a0 (λa O=> ?_) (SA G _)
        grind [Zir,Ux]
     grind
   grind
  grind
 case makeSlice t len cap=>
  split at h
  ·split at h
   ·split at h
    ·cases hb:(Nat.beq _ _&&Nat.ble 1 _&&Nat.ble 1 _)<;>rw[hb]at h
     ·grind
     ·simp only[aj]at h;obtain⟨_,rfl⟩:=K4 h;trivial
    grind
   grind
  grind
 case makeFunc fn a b=>
  split at h
  ·split at h
   ·rename_i fs cs a2 a3;simp at h;subst h;exact Cq ⟨Qj8 a2 (Pi G _),Qj8 a3 (Pi G _)⟩
   grind
  grind
 case load t a=>
  split at h
  ·have O:=G a;split at h
   ·rename_i key off D;simp at h;subst h;rw[D]at O;exact EW O
   ·rename_i cells sub D;split at h
    ·rename_i v N;simp at h;subst h;rw[D]at O;exact Rz N (Q2t (EW O))
    grind
   ·rename_i id idx sub D;simp at h;subst h;rw[D]at O;exact EW O
   grind
  grind
 case store t a x=>
  split at h
  ·rename_i sz cs hs hc;cases hb:(Nat.beq cs.length sz)<;>rw[hb]at h
   ·grind
   ·simp only[aj]at h;have O:=G a;split at h
    ·rename_i key off D;simp at h;subst h;rw[D]at O;exact⟨EW O,TV.cells_wf hc (G x)⟩
    ·rename_i id idx sub D;simp at h;subst h;rw[D]at O;exact EW O
    grind
  grind
 case nilCheck x=>
  have I:=G x;split at h
  all_goals first|(simp at h;done)|(rename_i D;simp at h;subst h;rw[D]at I;exact I)
 case binOp op t x y yt=>
  split at h
  ·cases hk:(kEq _ _||Nq op)<;>rw[hk]at h
   ·grind
   ·simp only[aj]at h;rename_i k a k' b _ _;rw[Qe9]at h;cases hi:HC op k a b some with
    |none=>grind
    |some c=>rw[hi]at h;simp at h;subst h;exact Cq (Zvz hi)
  ·split at h
   ·simp at h;subst h;exact FG _
   ·simp at h;subst h;exact FG _
   grind
  ·split at h
   ·simp at h;subst h;exact FG _
   ·simp at h;subst h;exact FG _
   ·rename_i a b _ _ _;cases hb:Nat.ble (a.size+b.size) 9223372036854775807<;>rw[hb]at h
    ·grind
    ·simp at h;subst h;exact Cq trivial
   grind
  ·split at h
   ·simp at h;subst h;exact FG _
   ·simp at h;subst h;exact FG _
   grind
  ·split at h
   ·simp at h;subst h;exact FG _
   ·simp at h;subst h;exact FG _
   grind
  ·cases hg:P.eqGuardType P.depth t<;>rw[hg]at h
   ·simp only[aq]at h;split at h
    ·simp at h;subst h;exact FG _
    ·simp at h;subst h;exact FG _
    grind
   grind
  grind
 case unOp a4 t x=>
  split at h
  ·simp at h;subst h;exact SK _ _
  ·simp at h;subst h;exact FG _
  grind
 case convert src dst x=>
  split at h
  ·simp at h;subst h;exact SK _ _
  grind
 case fieldAddr t x i=>
  split at h
  ·split at h
   ·have I:=G x;split at h
    ·rename_i D;simp at h;subst h;rw[D]at I;have q:=EW I;exact Cq q
    ·rename_i D;simp at h;subst h;rw[D]at I;have q:=EW I;exact Cq q
    ·rename_i D;simp at h;subst h;rw[D]at I;have q:=EW I;exact Cq q
    grind
   grind
  grind
 case field t x i=>
  split at h
  ·rename_i f cs hf D;split at h
   ·rename_i v X;simp at h;subst h;have I:=G x;rw[D]at I;exact Q0m X I
   grind
  grind
 case indexAddr t x ix=>
  split at h
  ·have I:=G x;split at h
   ·rename_i D;obtain⟨j,L,_⟩:=HZ h;simp at L;subst L;rw[D]at I;have q:=EW I;exact Cq q
   ·rename_i D;obtain⟨j,L,_⟩:=HZ h;simp at L;subst L;rw[D]at I;have q:=EW I;exact Cq q
   ·rename_i D;obtain⟨j,L,_⟩:=HZ h;simp at L;subst L;rw[D]at I;have q:=EW I;exact Cq q
   grind
  ·have I:=G x;split at h
   ·rename_i m ks l hm D;cases hb:Nat.beq m ks.length<;>rw[hb]at h
    ·grind
    ·simp only[aj]at h;obtain⟨_,rfl⟩:=K4 h;exact Cq (Zgz _ _ _)
   ·rename_i m id wd n hm D;cases hb:Nat.beq m wd<;>rw[hb]at h
    ·grind
    ·simp only[aj]at h;obtain⟨hd,rfl⟩:=K4 h;rw[D]at I;obtain⟨r,L,h2,h3⟩:=EW I;simp at hd;exact Cq ⟨r,L,by omega⟩
   ·rename_i m key n hm D;cases hb:Nat.beq m 1<;>rw[hb]at h
    ·grind
    ·simp only[aj]at h;obtain⟨j,L,_⟩:=HZ h;simp at L;subst L;rw[D]at I;have q:=EW I;exact Cq q
   grind
  grind
 case index t x ix=>
  split at h
  ·rename_i i n el cs hi hu D;split at h
   ·obtain⟨j,L,_⟩:=HZ h;have I:=G x;rw[D]at I;split at L
    ·rename_i v X;simp at L;subst L;exact Q0m X I
    grind
   grind
  grind
 case slice t x lo hi mx=>
  split at h
  ·split at h
   ·rename_i m ks l hm D;cases hb:Nat.beq m ks.length<;>rw[hb]at h
    ·grind
    ·simp only[aj]at h;split at h
     ·simp at h;subst h;exact Cq trivial
     all_goals
      obtain⟨_,rfl⟩:=K4 h;exact Cq trivial
   ·split at h
    ·cases hb:Nat.beq _ _<;>rw[hb]at h
     ·grind
     ·simp only[aj]at h;obtain⟨_,rfl⟩:=K4 h;trivial
    grind
   ·split at h
    ·simp at h;subst h;exact Cq trivial
    all_goals
     obtain⟨_,rfl⟩:=K4 h;exact Cq trivial
   grind
  grind
 case extract t i=>
  have ht:=G t;split at h
  ·rename_i ps D;split at h
   ·rename_i g cs hg;simp at h;subst h;rw[D]at ht;exact ht (g,cs) (bz hg)
   grind
  grind
 case call c=>
  split at h
  ·rename_i b hb;have M:=Pi G c.args.toList
   revert M h
   generalize BT ev c.args.toList=args;intro h M;unfold JJ at h;split at h
   case h_6=>grind [Qg0]
   case h_7=>grind [Qg0]
   case h_8=>
    rename_i s x
    repeat' split at h
    all_goals try (simp at h;done)
    obtain⟨_,rfl⟩:=K4 h;exact⟨EW (M _ (by simp)),EW (M _ (by simp))⟩
   all_goals
    repeat' split at h
    all_goals first|(simp at h;done)|(simp at h;subst h;exact SK _ _)
  ·rename_i f hf;cases X:C.pure f<;>rw[X]at h<;>simp at h<;>subst h<;>exact Pi G _
  ·rename_i t ht;split at h
   ·rename_i f fs cs T;cases S:(Ao AC.clOk fs&&Ao AC.clOk cs)<;>rw[S]at h
    ·grind
    simp only[aj,an]at h;subst h;simp only[ak]at S;have N:=G (.tmp t);rw[T]at N;have hq:=EW N;have Y:∀l:List AC,(∀a∈l,AC.wfP aB a)->Ao AC.clOk l=true->∀v∈l.map TV.c,TV.wf aB aC v:=by
     intro l L h2 v N;simp only[ba]at N;obtain⟨a,O,rfl⟩:=N;have q1:=L a O;have q2:=Ax.1 h2 a O;cases a<;>first|exact Cq q1|grind [AC.clOk]|exact Cq trivial
    intro v N;rcases bq.1 N with N|N
    ·exact Y fs hq.1 S.1 v N
    ·rcases bq.1 N with N|N
     ·grind [Pi]
     ·exact Y cs hq.2 S.2 v N
   grind
  grind
end
open Go.RowKit
def Rel (Z:Base) (s:St) (tmps:Array Value) (w:World):Prop:=∃ρ,RelE Z s.tmps s.aB s.aC ρ tmps w
section
variable {P:Program} {C:Cfg} {w:World} {R:Type} {Z:Base}
theorem RelE.put {ρ:Env} {tm:List TV} {aB:List (Nat×Box)} {aC:List (Nat×Row)} {tmps:Array Value} (h:RelE Z tm aB aC ρ tmps w) (d:Nat) {v:TV} {x:Value} (I:TVR ρ w v x) (L:TV.wf aB aC v):
  RelE Z (setL tm d v) aB aC ρ (tmps.setIfInBounds d x) w:=by
 rw[IC];refine⟨by simp[h.tl],λi u D=> ?_,λu G=> ?_,h.wb,h.bx,h.bi,h.ro,h.ri,h.br,h.ib,h.fr,h.fs,h.i0,h.i1,h.k0⟩
 ·rw[List.getElem?_set]at D;by_cases hid:d=i
  ·simp_all [h.tl]
  ·rw[ab hid]at D;have:=h.tv i u D;simp_all
 ·rcases ff G with G|rfl
  ·exact h.wt u G
  omega
theorem RelE.learn {ρ:Env} {tm:List TV} {aB:List (Nat×Box)} {aC:List (Nat×Row)} {tmps:Array Value} (h:RelE Z tm aB aC ρ tmps w) (d:Nat) {v:TV} (I:TVR ρ w v (tmps.getD d undef)) (L:TV.wf aB aC v):
  RelE Z (setL tm d v) aB aC ρ tmps w:=by
 rw[IC];refine⟨by simp[h.tl],λi u D=> ?_,λu G=> ?_,h.wb,h.bx,h.bi,h.ro,h.ri,h.br,h.ib,h.fr,h.fs,h.i0,h.i1,h.k0⟩
 ·rw[List.getElem?_set]at D;by_cases hid:d=i
  ·grind
  ·rw[ab hid]at D;exact h.tv i u D
 ·rcases ff G with G|rfl
  ·exact h.wt u G
  omega
theorem Fu (s:St) (d:Option Tmp) (v:TV) (K:St->Option R):put s d v K=K (match d with|none=>s|some t=>⟨setL s.tmps t v,s.aB,s.aC⟩):=by
 obtain⟨tm,aB,aC⟩:=s
 grind [put,A3]
theorem UB {ρ:Env} {tm:List TV} {aB:List (Nat×Box)} {aC:List (Nat×Row)} {a:Act} (h:RelE Z tm aB aC ρ a.tmps w) (x:Operand):TVR ρ w (AL tm x) (a.eval x):=by
 cases x with
 |tmp t=>
  simp only[AL,B5,List.getD,Act.eval];cases D:tm[t]? with
  |none=>trivial
  |some v=>exact h.tv t v D
 |const v=>exact Yfe v
 |global=>trivial
 |func=>trivial
theorem UN:∀(l:List Nat) (s:St) (tmps:Array Value),Rel Z s tmps w->∀(K:St->Option R) (r:R),IE l s K=some r->∃I,K I=some r/\Rel Z I tmps w
 |[],s,tmps,D,K,r,h=>⟨s,h,D⟩
 |id::l,s,tmps,D,K,r,h=>by
  obtain⟨tm,aB,aC⟩:=s;simp only[IE]at h;split at h
  ·rename_i L G;simp only[A3]at h;obtain⟨ρ,D⟩:=D;exact UN l _ tmps ⟨_,D.freeze G⟩ K r h
  ·exact UN l _ tmps D K r h
theorem Yic {k o:Nat} {e:TypeId} {s:St} {tmps:Array Value} (D:Rel Z s tmps w) {K:St->Option R} {r:R} (h:Ml P k o e s K=some r):∃I,K I=some r/\Rel Z I tmps w:=by
 obtain⟨tm,aB,aC⟩:=s;obtain⟨ρ,D⟩:=D;simp only[Ml]at h;split at h
 ·rename_i b L;split at h
  ·rename_i M;split at h
   ·rename_i ks N;cases G:(Nat.ble 1 ks.length&&KS aC (1000000+1000*k+o))<;>rw[G]at h
    ·grind
    ·simp only[aj,A3]at h;simp only[ak]at G;exact⟨_,h,_,D.promB L M (Qmu G.2) (az G.1)⟩
   grind
  ·exact⟨_,h,ρ,D⟩
 ·exact⟨_,h,ρ,D⟩
theorem Qyo:∀(l:List (Nat×Nat×TypeId)) (s:St) (tmps:Array Value),Rel Z s tmps w->∀(K:St->Option R) (r:R),Jb P l s K=some r->∃D,K D=some r/\Rel Z D tmps w
 |[],s,tmps,G,K,r,h=>⟨s,h,G⟩
 |(k,o,e)::l,s,tmps,G,K,r,h=>by
  simp only[Jb]at h;obtain⟨D,h',I⟩:=Yic G h;exact Qyo l D tmps I K r h'
theorem QE:∀(l:List (Nat×TypeId)) (s:St) (tmps:Array Value),Rel Z s tmps w->∀(K:St->Option R) (r:R),I8 P l s K=some r->∃O,K O=some r/\Rel Z O tmps w
 |[],s,tmps,G,K,r,h=>⟨s,h,G⟩
 |(t,e)::l,s,tmps,G,K,r,h=>by
  obtain⟨tm,aB,aC⟩:=s;simp only[I8]at h;split at h
  ·rename_i M;split at h
   ·rename_i ks D T;cases S:Nat.ble 1 ks.length<;>rw[S]at h
    ·grind
    ·simp only[aj,A3]at h;refine QE l _ tmps ?_ K r h;obtain⟨ρ,G⟩:=G;have L:=G.addRow (d:=t) D (r:=⟨e,ks,[]⟩) (v':= .slice none 0 0) (xs:=[]) (w':=w) (Below.refl _ _) (az S) (X3 w e ks.length) ⟨by simp,by simp,λi c Y=>by grind⟩ (λg hg=>by grind [Value.ownBlock]);refine⟨_,L.learn t ?_ (Cq ⟨_,Ep _ _ _ D,rfl,rfl⟩)⟩;have U:tmps.getD t undef= .slice none 0 0:=by
      have N:t<tm.length:=by
       rcases jj t tm.length with V|X
       ·omega
       ·grind [B5]
      have I:tm[t]? =some (.c .nilSl):=by
       rw[B5,List.getD]at M;rw[ai N]at M⊢;simpa using M
      have:=(G.tv t _ I).c;simpa [CC,CP]using this
     rw[U];exact TVR.c' ⟨by grind [BL],by grind [BL], .inl ⟨rfl,rfl⟩⟩
   grind
  ·exact QE l _ tmps G K r h
theorem Mn {s:St} {tmps:Array Value} (L:Rel Z s tmps w) {K:St->Option R} {r:R} (h:H3 P C s K=some r):∃G,K G=some r/\Rel Z G tmps w:=by
 unfold H3 at h;obtain⟨G,h',ρ,D⟩:=Qyo _ s tmps L _ r h;obtain⟨tm,aB,aC⟩:=G;simp only[A3]at h';refine QE _ _ tmps ?_ K r h';refine⟨ρ,?_⟩;refine D.reBox (g:=λ_ b=>Tl P b) (λ_ b=> ?_) λk b I=> ?_
 ·grind [Tl]
 ·unfold Tl;split
  ·rename_i ks _;exact⟨λxs h=>KT ks b.cells xs h,NA ks b.cells (D.wb k b I)⟩
  ·exact⟨λxs h=>h,D.wb k b I⟩
theorem Yd9 {o:Op} {s:St} {tmps:Array Value} (G:Rel Z s tmps w) {K:St->Option R} {r:R} (h:Jo P C o s K=some r):∃D,K D=some r/\Rel Z D tmps w:=by grind [Jo,UN,Mn]
theorem Ygo {pre:Bool} {ρ:Env} {e:Operand->Value} {o:Oper} {p:Prim} (h:Ju P ρ w e o p):Ju P ρ w e o (p.dr pre):=by
 cases pre<;>cases p<;>first|exact h|(simp only[Prim.dr];cases Ao TV.plainB _<;>exact h)
theorem Z8 {pre:Bool} {bx:List (Nat×Box)} {aC:List (Nat×Row)} {p:Prim} (h:Prim.wf bx aC p):Prim.wf bx aC (p.dr pre):=by
 cases pre<;>cases p<;>first|exact h|(simp only[Prim.dr];cases Ao TV.plainB _<;>exact h)
theorem Zgd (D:Ai P C) (T:∀t∈C.eqOk,P.stoodInHeld t=false) {s:St} {o:Oper} {a:Act} (I:Rel Z s a.tmps w) {K:Option Prim->St->Option R} {r:R}
  {pre:Bool} (h:(opK P C (AL s.tmps) o.dst o.op λp=>A5 C o.dst (p.dr pre) s λv O=>put O o.dst v (K (some (p.dr pre))))=some r) {next:Act->World->Prop} {Q:Exit->Act->World->Prop}
  (G:∀(po:Option Prim) (O:St) (U:Act) (w':World),K po O=some r->Rel Z O U.tmps w'->(∃x,U=a.put o.dst x)->next U w'):o.wp P a w next Q:=by
 obtain⟨ρ,I⟩:=I;obtain⟨tm,aB,aC⟩:=s;have V:=λx=>UB I x;rw[QX]at h;cases X:opK P C (AL tm) o.dst o.op some with
 |none=>grind
 |some p=>
  rw[X]at h;simp only[am]at h;obtain⟨p',L,M⟩:=Zlr T V (λf=>rfl) o X;simp at L;subst L;have Y:=Qdw (aB:=aB) (aC:=aC) (λx=>Qb3 I.wt x) X;refine Zv4 D I (Ygo M) (Z8 Y) h ?_;intro v a2 S a0 ρ' x w' hK N hv a1;rw[Fu]at hK;refine G (some (p'.dr pre)) _ _ w' hK ?_ ?_
  ·cases hd:o.dst with
   |none=>exact⟨ρ',N⟩
   |some d=>exact⟨ρ',N.put d hv a1⟩
  grind
theorem Xz (D:Ai P C) (I:∀t∈C.eqOk,P.stoodInHeld t=false) {pre:Bool} {s:St} {o:Oper} {a:Act} (O:Rel Z s a.tmps w) {K:Option Prim->St->Option R} {r:R}
  (h:((bif pre then Jo P C o.op s else λK=>K s) λs=>opK P C (AL s.tmps) o.dst o.op λp=>A5 C o.dst (p.dr pre) s λv L=>put L o.dst v (K (some (p.dr pre))))=some r) {next:Act->World->Prop} {Q:Exit->Act->World->Prop}
  (G:∀(S:Option Prim) (L:St) (M:Act) (w':World),K S L=some r->Rel Z L M.tmps w'->(∃x,M=a.put o.dst x)->next M w'):o.wp P a w next Q:=by
 cases pre
 ·exact Zgd D I O h G
 ·obtain⟨L,h',N⟩:=Yd9 O h;exact Zgd D I N h' G
theorem Q21 (I:Ai P C) (U:∀t∈C.eqOk,P.stoodInHeld t=false) {pre:Bool} {ops:Array Oper} {s:St} {o:Oper} {a:Act} (hR:Rel Z s a.tmps w) {K:Option Prim->St->Option R} {r:R}
  (h:E_ P C pre ops.toList o s K=some r) {next:Act->World->Prop} {Q:Exit->Act->World->Prop}
  (D:∀(po:Option Prim) (s':St) (a':Act) (w':World),K po s'=some r->Rel Z s' a'.tmps w'->(∃x,a'=a.put o.dst x)->next a' w'):
  if Region.wanted o (yielded ops a.tmps)=true then o.wp P a w next Q else next (a.put o.dst undef) w:=by
 have V:∀s':St,Rel Z s' a.tmps w->put s' o.dst (.tup []) (K none)=some r->next (a.put o.dst undef) w:=by
  intro s' G hp;rw[Fu]at hp;refine D none _ _ w hp ?_ ⟨_,rfl⟩;obtain⟨ρ,G⟩:=G;cases hd:o.dst with
  |none=>exact⟨ρ,G⟩
  |some d=>exact⟨ρ,G.put d ⟨#[],rfl,trivial⟩ (λp hp=>by grind)⟩
 unfold E_ P_ at h;cases hg:o.guard with
 |none=>
  rw[hg]at h;rw[aa (by simp[Region.wanted,hg])];exact Xz I U hR h D
 |some jw=>
  obtain⟨j,want⟩:=jw;rw[hg]at h;simp only at h;split at h
  ·rename_i oj hj;split at h
   ·rename_i t ht;split at h
    ·rename_i g L;obtain⟨ρ,M⟩:=hR;have O:t<s.tmps.length:=by
      rcases jj t s.tmps.length with a1|a2
      ·omega
      ·grind [B5]
     have N:s.tmps[t]? =some (.c (.bool g)):=by
      rw[B5,List.getD]at L;rw[ai O]at L⊢;simpa using L
     have S:=(M.tv t _ N).bool;have T:t<a.tmps.size:=by rw[<-M.tl];exact O
     have X:a.tmps[t]? =some (.bool g):=by
      rw[Array.getElem?_eq_getElem T];rw[Array.getD,jb T]at S;simpa using S
     have hy:yielded ops a.tmps j=some g:=by
      unfold yielded;have Y:ops[j]? =some oj:=by simpa using hj
      simp[Y,ht,X]
     have hl:∀b,g=b->Rel Z ⟨setL s.tmps t (.c (.bool b)),s.aB,s.aC⟩ a.tmps w:=by
      rintro b rfl;exact⟨ρ,M.learn t (by grind [TVR.mkBool]) (FG _)⟩
     have hw:Region.wanted o (yielded ops a.tmps)=(g==want):=by
      simp only[Region.wanted,hg,hy];cases g<;>cases want<;>rfl
     cases g
     ·simp only[aq]at h;rw[Fu]at h;dsimp only at h;have G:=hl false rfl;cases want
      ·rw[aa (by grind)];simp only[aq]at h;exact Xz I U G h D
      grind
     ·simp only[aj]at h;rw[Fu]at h;dsimp only at h;have G:=hl true rfl;cases want
      ·grind
      ·rw[aa (by grind)];simp only[aj]at h;exact Xz I U G h D
    ·rename_i L;obtain⟨ρ,M⟩:=hR;have O:t<s.tmps.length:=by
      rcases jj t s.tmps.length with a1|a2
      ·omega
      ·grind [B5]
     have N:s.tmps[t]? =some (.tup []):=by
      rw[B5,List.getD]at L;rw[ai O]at L⊢;simpa using L
     obtain⟨ys,a0,S⟩:=M.tv t _ N;have T:t<a.tmps.size:=by rw[<-M.tl];exact O
     have X:a.tmps[t]? =some (.tuple ys):=by
      rw[Array.getElem?_eq_getElem T];rw[Array.getD,jb T]at a0;simpa using a0
     have hy:yielded ops a.tmps j=none:=by
      unfold yielded;have Y:ops[j]? =some oj:=by simpa using hj
      simp[Y,ht,X]
     have hw:Region.wanted o (yielded ops a.tmps)=false:=by
      simp only[Region.wanted,hg,hy];rfl
     rw[ab (by grind)];exact V _ ⟨ρ,M⟩ h
    grind
   grind
  grind
theorem Ye (D:Ai P C) (M:∀t∈C.eqOk,P.stoodInHeld t=false) {pre:Bool} {ops:Array Oper} {s:St} {o:Oper} {a:Act} (O:Rel Z s a.tmps w) {K:Option Prim->St->Option R} {r:R}
  (h:E_ P C pre ops.toList o s K=some r) {next:Act->World->Prop} {Q:Exit->Act->World->Prop}
  (G:∀(N:Option Prim) (L:St) (I:Act) (w':World),K N L=some r->Rel Z L I.tmps w'->I.defers=a.defers->next I w'):
  if Region.wanted o (yielded ops a.tmps)=true then o.wp P a w next Q else next (a.put o.dst undef) w:=
 Q21 D M O h λN L I w' S T ⟨x,U⟩=>G N L I w' S T (by subst U;cases o.dst<;>rfl)
theorem Qou (D:Ai P C) (G:∀t∈C.eqOk,P.stoodInHeld t=false) {ops:Array Oper} {Q:Exit->Act->World->Prop} {K:St->Option R} {r:R}:
  ∀(l:List Oper) (s:St) (a:Act) (w:World),Rel Z s a.tmps w->Io P C ops.toList l s K=some r->
  (∀(L:St) (I:Act) (w':World),K L=some r->Rel Z L I.tmps w'->I.defers=a.defers->Q .normal I w')->wpList P ops Q l a w
 |[],s,a,w,M,h,N=>N s a w h M rfl
 |o::l,s,a,w,M,h,N=>by
  simp only[Io]at h;have:=Ye (next:=wpList P ops Q l) (Q:=Q) D G M h (λpo L I w' S O T=>Qou D G l L I w' O S (λs2 a2 U V X Y=>N s2 a2 U V X (Y.trans T)));simp only[wpList]
  grind
end
open Go.RowKit
def SB (s:St) (d:Option Tmp) (v:TV):St:=
 match d with
 |none=>s
 |some t=>⟨setL s.tmps t v,s.aB,s.aC⟩
section
variable {P:Program} {C:Cfg} {w:World} {R:Type} {Z:Base}
theorem Me (s:St) (d:Option Tmp) (v:TV) (K:St->Option R):put s d v K=K (SB s d v):=Fu s d v K
def Aw (dst:Option Tmp) (p:Prim) (aB:List (Nat×Box)) (aC:List (Nat×Row)):Option (TV×List (Nat×Box)):=
 match p with
 | .val v=>some (v,aB)
 | .load g sz key off=>match Ac aB key with
  |some b=>match Dw g sz b.cells off with
   |some v=>some (v,aB)
   |none=>none
  |none=>none
 | .store key off cs=>match Ac aB key with
  |some b=>if Nat.ble (off+cs.length) b.cells.length then some (.vD,upd aB key ⟨b.ty,splice b.cells off cs⟩)else none
  |none=>none
 | .new ty cs=>match dst with
  |some d=>match Ac aB d with
   |some _=>none
   |none=>some (.c (.ptr d 0),ins aB d ⟨ty,cs⟩)
  |none=>none
 | .newView _ ks l=>some (.c (.vC ks l),aB)
 | .rload g sz id idx sub=>match Ac aC id with
  |some r=>match Dw g sz (r.f idx) sub with
   |some v=>some (v,aB)
   |none=>none
  |none=>none
 | .call f args=>match C.spec f with
  |some g=>match FH aC args with
   |some l=>match g (TV×Mem) l ⟨[],[]⟩ (λv m=>some (v,m))with
    |some (v,⟨[],[]⟩)=>if((!(args.any TV.hasOwn)||v.flat)&&v.plainB)=true then some (v,aB)else none
    |_=>none
   |none=>none
  |none=>none
 | .callD f args=>match C.spec f with
  |some g=>
   if(Ao (TV.inK (A6 (cat AC.keys (cat TV.cellsOf args)) []) []) args&&Ao (λk=>Ao AC.calm (Ev aB k)) (A6 (cat AC.keys (cat TV.cellsOf args)) [])&&B8 (A6 (cat AC.keys (cat TV.cellsOf args)) []))=true then
    match Da aB (λk=>base+pos (A6 (cat AC.keys (cat TV.cellsOf args)) []) k) (λi=>base+pos [] i) base (A6 (cat AC.keys (cat TV.cellsOf args)) [])with
    |some G=>match g (TV×Mem) (args.map (TV.ren (λk=>base+pos (A6 (cat AC.keys (cat TV.cellsOf args)) []) k) (λi=>base+pos [] i))) ⟨G,[]⟩ (λv m=>some (v,m))with
     |some (v,⟨D,[]⟩)=>
      if(Ao (λp:Nat×Box=>FZ D p.1) G&&Ao (λp:Nat×Box=>FZ G p.1) D&&B8 (D.map (·.1))&&Ao (λp:Nat×Box=>Ao AC.calm p.2.cells) D&&v.plainB)=true then
       some (v,CW (A6 (cat AC.keys (cat TV.cellsOf args)) []) D aB)
      else none
     |_=>none
    |none=>none
   else none
  |none=>none
 |_=>none
theorem Zy7 (D:Ai P C) {dst:Option Tmp} {p:Prim} (L:Prim.simple (some p)=true) (M:Prim.isApp (some p)=false) (N:Prim.isMk (some p)=false) (s:St) (K:TV->St->Option R):
  A5 C dst p s K=(Aw (C:=C) dst p s.aB s.aC).bind λq=>K q.1 ⟨s.tmps,q.2,s.aC⟩:=by
 obtain⟨tm,aB,aC⟩:=s;cases p<;>simp only[Prim.simple]at L<;>try (simp at L;done)
 case appD=>grind [Prim.isApp]
 case callF=>grind [Prim.isMk]
 case newRow=>grind [Prim.isMk]
 case val v=>rfl
 case newView e ks l=>rfl
 case rload g sz id idx sub=>grind [A5,Aw]
 case load g sz key off=>grind [A5,Aw]
 case store key off cs=>
  simp only[A5,Aw];cases I:Ac aB key with
  |none=>rfl
  |some b=>
   dsimp only;cases Nat.ble (off+cs.length) b.cells.length
   ·rfl
   simp[A3]
 case new ty cs=>
  simp only[A5,Aw]
  grind [A3]
 case call f args=>
  simp only[A5,Aw];cases I:C.spec f with
  |none=>rfl
  |some g=>
   dsimp only;cases O:FH aC args with
   |none=>rfl
   |some l=>
    dsimp only;have G:=D.1 f g I;rw[G.nat];cases S:g (TV×Mem) l ⟨[],[]⟩ (λv m=>some (v,m))with
    |none=>rfl
    |some q=>grind
 case callD f args=>
  simp only[A5,Aw];cases I:C.spec f with
  |none=>rfl
  |some g=>
   dsimp only;simp only[A3];generalize A6 (cat AC.keys (cat TV.cellsOf args)) []=keys;cases U:(Ao (TV.inK keys []) args&&Ao (λk=>Ao AC.calm (Ev aB k)) keys&&B8 keys)
   ·simp
   ·simp only[aj,ew];cases O:Da aB (λk=>base+pos keys k) (λi=>base+pos [] i) base keys with
    |none=>rfl
    |some T=>
     dsimp only;have G:=D.1 f g I;rw[G.nat];cases S:g (TV×Mem) (args.map (TV.ren (λk=>base+pos keys k) (λi=>base+pos [] i))) ⟨T,[]⟩ (λv m=>some (v,m))with
     |none=>rfl
     |some q=>grind
theorem BC {α:Type} {c:Bool} {p:Option α} {q:α} (h:cond c p none=some q):c=true/\p=some q:=by grind
def Qfo (aC:List (Nat×Row)) (e:TypeId) (ks:List Kd) (bytes id:Nat) (x:AC):Option (TV×List (Nat×Row)):=
 match ID aC ks x with
 |some m=>match Ac aC id with
  |some r=>if(C6 ks r.ks&&Nat.beq r.ty e&&Nat.ble 1 bytes)=true then
    if Nat.ble ((r.l++m).length*bytes) 140737488355328=true then some (.c (.own id r.ks.length (r.l++m).length),upd aC id ⟨e,r.ks,r.l++m⟩)else none
   else none
  |none=>none
 |none=>none
def Xo (id:Nat) (tm:List TV) (bx:List (Nat×Box)) (aC:List (Nat×Row)):St:=⟨tm.map (TV.kill id),bx.map λp=>(p.1,p.2.kill id),aC⟩
def Qo3 (aC:List (Nat×Row)) (e:TypeId) (ks:List Kd) (bytes d:Nat) (x:AC):Option (TV×List (Nat×Row)):=
 match ID aC ks x with
 |some m=>match Ac aC d with
  |some _=>none
  |none=>if(Nat.ble 1 ks.length&&Nat.ble 1 bytes)=true then
    if Nat.ble (m.length*bytes) 140737488355328=true then some (.c (.own d ks.length m.length),ins aC d ⟨e,ks,m⟩)else none
   else none
 |none=>none
def Ko (dst:Option Tmp):Prim->Option Nat
 | .appD _ _ _ (.own id _ _) _=>some id
 | .appD _ _ _ .nilSl _=>dst
 |_=>none
def KJ (dst:Option Tmp) (aC:List (Nat×Row)):Prim->Option (TV×List (Nat×Row))
 | .appD e ks bytes (.own id _ _) x=>Qfo aC e ks bytes id x
 | .appD e ks bytes .nilSl x=>match dst with
  |some d=>Qo3 aC e ks bytes d x
  |none=>none
 |_=>none
def mkG (dst:Option Tmp) (p:Prim):Option (TV×Option (Nat×Row)):=
 match p with
 | .newRow e ks l=>match dst with
  |some d=>some (.c (.own (C.rowAs d) ks.length l.length),some (C.rowAs d,⟨e,ks,l⟩))
  |none=>none
 | .callF f args=>match C.spec f with
  |some g=>if Ao TV.plainB args=true then match g (TV×Mem) args ⟨[],[]⟩ (λv m=>some (v,m))with
    |some (v,⟨[],[]⟩)=>if v.plainB=true then some (v,none)else none
    |some (.v false [.own j _ _],⟨[],[(k,r)]⟩)=>if Nat.beq j k=true then some (.c (.own (IT (dst.getD 0)) r.ks.length r.l.length),some (IT (dst.getD 0),r))else none
    |_=>none
   else none
  |none=>none
 |_=>none
def mkD (dst:Option Tmp) (p:Prim) (aC:List (Nat×Row)):Option (TV×List (Nat×Row)):=
 match mkG (C:=C) dst p with
 |some (v,none)=>some (v,aC)
 |some (v,some (k,r))=>match Ac aC k with
  |some _=>none
  |none=>some (v,ins aC k r)
 |none=>none
def ET (dst:Option Tmp) (p:Prim) (s:St):Option (TV×St):=
 bif Prim.isApp (some p)then match Ko dst p with
  |some id=>(KJ dst s.aC p).map λq=>(q.1,Xo id s.tmps s.aB q.2)
  |none=>none
 else bif Prim.isMk (some p)then(mkD (C:=C) dst p s.aC).map λq=>(q.1,⟨s.tmps,s.aB,q.2⟩)
 else(Aw (C:=C) dst p s.aB s.aC).map λq=>(q.1,⟨s.tmps,q.2,s.aC⟩)
theorem Zbb (D:Ai P C) {dst:Option Tmp} {p:Prim} (N:Prim.simple (some p)=true) (s:St) (K:TV->St->Option R):
  A5 C dst p s K=(ET (C:=C) dst p s).bind λq=>K q.1 q.2:=by
 cases G:Prim.isApp (some p)with
 |false=>
  cases I:Prim.isMk (some p)with
  |false=>
   rw[Zy7 D N (by rw[G]) I];unfold ET;rw[G,I];simp only[aq];cases Aw (C:=C) dst p s.aB s.aC<;>rfl
  |true=>
   obtain⟨tm,aB,aC⟩:=s;unfold ET;rw[G,I];simp only[aq,aj];cases p<;>simp[Prim.isMk]at I
   case newRow e ks l=>
    simp only[A5,mkD,mkG]
    grind [A3]
   case callF f args=>
    simp only[A5,mkD,mkG];cases O:C.spec f with
    |none=>rfl
    |some g=>
     dsimp only;cases V:Ao TV.plainB args
     ·rfl
     simp only[aj,ew];have L:=D.1 f g O;rw[L.nat];cases X:g (TV×Mem) args ⟨[],[]⟩ (λv m=>some (v,m))with
     |none=>rfl
     |some q=>
      obtain⟨v,⟨S,T⟩⟩:=q;simp only[am];cases S with
      |cons _ _=>rfl
      |nil=>
       cases T with
       |nil=>grind
       |cons p l=>
        obtain⟨k,r⟩:=p;cases l with
        |cons _ _=>rfl
        |nil=>
         dsimp only;split
         ·rename_i j w0 n0;cases M:Nat.beq j k
          ·grind
          ·simp only[aj,M,ew]
           grind [A3]
         grind
 |true=>
  obtain⟨tm,aB,aC⟩:=s;cases p<;>simp[Prim.isApp]at G
  rename_i e ks bytes U x;unfold ET;simp only[Prim.isApp,aj,A5];cases U
  case own id w' n=>
   dsimp only[Ko,KJ,Qfo];cases ID aC ks x with
   |none=>rfl
   |some m=>
    dsimp only;cases Ac aC id with
    |none=>rfl
    |some r=>
     dsimp only;cases(C6 ks r.ks&&Nat.beq r.ty e&&Nat.ble 1 bytes)
     ·rfl
     ·simp only[aj,ew];cases Nat.ble ((r.l++m).length*bytes) 140737488355328
      ·rfl
      ·simp only[aj,ew,A3];rfl
  case nilSl=>
   dsimp only[Ko,KJ];cases dst with
   |none=>grind
   |some d=>
    dsimp only[Qo3];cases ID aC ks x with
    |none=>rfl
    |some m=>
     dsimp only;cases Ac aC d with
     |some _=>rfl
     |none=>
      dsimp only;cases(Nat.ble 1 ks.length&&Nat.ble 1 bytes)
      ·rfl
      ·simp only[aj,ew];cases Nat.ble (m.length*bytes) 140737488355328
       ·rfl
       ·simp only[aj,ew,A3];rfl
  all_goals
   grind [Ko]
theorem Zr6 (D:Ai P C) {dst:Option Tmp} {p:Prim} {s:St} {K:TV->St->Option R} {r:R} (h:A5 C dst p s K=some r):∃v L,K v L=some r:=by
 obtain⟨tm,aB,aC⟩:=s;cases p<;>simp only[A5]at h
 case val v=>grind
 case newView e ks l=>grind
 case load g sz key off=>grind
 case store key off cs=>
  split at h
  ·rename_i b _;cases hb:Nat.ble (off+cs.length) b.cells.length<;>rw[hb]at h
   ·grind
   ·simp only[aj,A3]at h;grind
  grind
 case new ty cs=>grind [A3]
 case newS ty n cs=>grind [A3]
 case rload g sz id idx sub=>grind
 case rstore id idx sub cs=>
  split at h
  ·rename_i M _;cases hb:(Nat.ble (sub+cs.length) M.w&&Ao AC.plain cs)<;>rw[hb]at h
   ·grind
   ·simp only[aj]at h
    grind [A3]
  grind
 case newRow e ks l=>grind [A3]
 case make e ks bytes n z=>
  split at h
  ·split at h
   ·grind
   ·obtain⟨_,h⟩:=BC h
    grind [A3]
  grind
 case cutR id a=>
  split at h
  ·obtain⟨_,h⟩:=BC h
   grind [A3]
  grind
 case append e ks bytes s x=>
  split at h
  ·split at h
   ·split at h
    ·split at h
     ·grind
     ·obtain⟨_,h⟩:=BC h;obtain⟨_,h⟩:=BC h
      grind [A3]
    grind
   ·split at h
    ·obtain⟨_,h⟩:=BC h;obtain⟨_,h⟩:=BC h
     grind [A3]
    grind
   grind
  grind
 case call f args=>
  split at h
  ·rename_i g G;split at h
   ·obtain⟨v,m,h',_⟩:=(D.1 f g G).run h
    grind
   grind
  grind
 case callM f args=>
  split at h
  ·rename_i g G;cases I:C.keepR f<;>rw[I]at h
   case true=>
    simp only[aj]at h;unfold Sa at h;split at h
    ·split at h
     ·obtain⟨v,m,h',_⟩:=(D.1 f g G).run h;split at h'
      ·obtain⟨_,h'⟩:=BC h'
       grind [A3]
      grind
     grind
    grind
   simp only[aq]at h;simp only[A3]at h;obtain⟨_,h⟩:=BC h;split at h
   ·obtain⟨v,m,h',_⟩:=(D.1 f g G).run h
    grind
   grind
  grind
 case callF f args=>
  split at h
  ·rename_i g G;obtain⟨_,h⟩:=BC h;obtain⟨v,m,h',_⟩:=(D.1 f g G).run h;split at h'
   ·grind
   ·split at h'
    ·obtain⟨_,h'⟩:=BC h'
     grind [A3]
    grind
   grind
  grind
 case appD e ks bytes s x=>
  split at h
  ·split at h
   ·split at h
    ·obtain⟨_,h⟩:=BC h;obtain⟨_,h⟩:=BC h
     grind [A3]
    grind
   ·split at h
    ·split at h
     ·grind
     ·obtain⟨_,h⟩:=BC h;obtain⟨_,h⟩:=BC h
      grind [A3]
    grind
   grind
  grind
 case callD f args=>
  split at h
  ·rename_i g G;simp only[A3]at h;obtain⟨_,h⟩:=BC h;split at h
   ·obtain⟨v,m,h',_⟩:=(D.1 f g G).run h
    grind
   grind
  grind
theorem Zjp (G:Ai P C) (dst:Option Tmp) (p:Prim) (s:St) (K:TV->St->Option R):A5 C dst p s K=(A5 C dst p s λv N=>some (v,N)).bind λq=>K q.1 q.2:=by
 obtain⟨tm,aB,aC⟩:=s;cases p<;>simp only[A5,A3]
 case val v=>rfl
 case newView e ks l=>rfl
 case load g sz key off=>grind
 case store key off cs=>grind
 case new ty cs=>grind
 case newS ty n cs=>grind
 case rload g sz id idx sub=>grind
 case rstore id idx sub cs=>grind
 case newRow e ks l=>grind
 case make e ks bytes n z=>grind
 case cutR id a=>grind
 case append e ks bytes s x=>
  cases ID aC ks x with
  |none=>rfl
  |some m=>grind
 case appD e ks bytes s x=>
  cases ID aC ks x with
  |none=>rfl
  |some m=>grind
 case call f args=>
  cases I:C.spec f with
  |none=>rfl
  |some g=>
   dsimp only;cases FH aC args with
   |none=>rfl
   |some l=>
    dsimp only;have D:=G.1 f g I
    grind [D.nat]
 case callM f args=>
  cases I:C.spec f with
  |none=>rfl
  |some g=>
   dsimp only;have D:=G.1 f g I;cases O:C.keepR f
   case true=>
    simp only[aj,Sa];cases Qfq args with
    |none=>rfl
    |some id=>
     dsimp only;cases Ac aC id with
     |none=>rfl
     |some r=>
      dsimp only;rw[D.nat,D.nat (TV×St)];cases g (TV×Mem) (args.map (TV.ren (λk=>base+pos [] k) (λi=>base+pos [id] i))) ⟨[],[(base,r)]⟩ (λv m=>some (v,m))with
      |none=>rfl
      |some q=>
       obtain⟨v,⟨L,M⟩⟩:=q;simp only[am];cases L with
       |cons _ _=>rfl
       |nil=>
        cases M with
        |nil=>rfl
        |cons p l=>
         obtain⟨k,r'⟩:=p;cases l with
         |cons _ _=>rfl
         |nil=>
          dsimp only;cases(Nat.beq k base&&Nat.beq r'.ty r.ty&&C6 r'.ks r.ks&&v.plainB)
          ·rfl
          simp[A3]
   simp only[aq];generalize Ly aB 4 (A6 (cat AC.keys (cat TV.cellsOf args)) [])=keys;generalize Og aB (cat TV.cellsOf args) keys=ids;cases(Ao (TV.inK keys ids) args&&Ao (λk=>Ao (AC.inK keys ids) (Ev aB k)) keys&&B8 keys&&B8 ids)
   ·rfl
   ·simp only[aj];cases Da aB (λk=>base+pos keys k) (λi=>base+pos ids i) base keys with
    |none=>rfl
    |some L=>
     cases Fy aC base ids with
     |none=>rfl
     |some M=>grind [D.nat]
 case callF f args=>
  cases I:C.spec f with
  |none=>rfl
  |some g=>
   dsimp only;have D:=G.1 f g I;cases Ao TV.plainB args
   ·rfl
   ·simp only[aj];rw[D.nat,D.nat (TV×St)]
    grind
 case callD f args=>
  cases I:C.spec f with
  |none=>rfl
  |some g=>
   dsimp only;have D:=G.1 f g I;generalize A6 (cat AC.keys (cat TV.cellsOf args)) []=keys;cases(Ao (TV.inK keys []) args&&Ao (λk=>Ao AC.calm (Ev aB k)) keys&&B8 keys)
   ·rfl
   ·simp only[aj];cases Da aB (λk=>base+pos keys k) (λi=>base+pos [] i) base keys with
    |none=>rfl
    |some L=>grind [D.nat]
theorem U7:∀(l:List Nat) (s:St) (K:St->Option R),IE l s K=(IE l s some).bind K
 |[],s,K=>rfl
 |id::l,⟨tm,aB,aC⟩,K=>by
  simp only[IE,A3];cases Ac aC id with
  |none=>exact U7 l _ K
  |some r=>exact U7 l _ K
theorem Q3z (k o:Nat) (e:TypeId) (s:St) (K:St->Option R):Ml P k o e s K=(Ml P k o e s some).bind K:=by
 obtain⟨tm,aB,aC⟩:=s
 grind [Ml,A3]
theorem Qgo:∀(l:List (Nat×Nat×TypeId)) (s:St) (K:St->Option R),Jb P l s K=(Jb P l s some).bind K
 |[],s,K=>rfl
 |(k,o,e)::l,s,K=>by
  simp only[Jb];rw[Q3z,Q3z (K:=λD=>Jb P l D some)];cases Ml P k o e s some with
  |none=>rfl
  |some D=>exact Qgo l D K
theorem VJ:∀(l:List (Nat×TypeId)) (s:St) (K:St->Option R),I8 P l s K=(I8 P l s some).bind K
 |[],s,K=>rfl
 |(t,e)::l,⟨tmps,aB,aC⟩,K=>by
  simp only[I8];split
  ·split
   ·rename_i ks _ _;cases Nat.ble 1 ks.length
    ·rfl
    ·simp only[aj,A3];exact VJ l _ K
   ·rfl
  ·exact VJ l _ K
theorem Zxf (s:St) (K:St->Option R):H3 P C s K=(H3 P C s some).bind K:=by
 simp only[H3,A3];rw[Qgo]
 conv=>rhs;rw[Qgo]
 cases Jb P (cat (λp:Nat×Box=>bif AN C.ownBut p.1 then []else(C.ownOff p.2.ty).map λq=>(p.1,q.1,q.2)) s.aB) s some with
 |none=>rfl
 |some D=>grind [VJ]
theorem Q0d (o:Op) (s:St) (K:St->Option R):Jo P C o s K=(Jo P C o s some).bind K:=by
 unfold Jo;rw[U7]
 conv=>rhs;rw[U7]
 cases IE (Zek C (AL s.tmps) o) s some with
 |none=>rfl
 |some D=>grind [Zxf]
theorem Zl5 (G:Ai P C) (pre:Bool) (ops:List Oper) (o:Oper) (s:St) (K:Option Prim->St->Option R):E_ P C pre ops o s K=(E_ P C pre ops o s λp D=>some (p,D)).bind λq=>K q.1 q.2:=by
 have L:∀s:St,((bif pre then Jo P C o.op s else λK=>K s) λs=>opK P C (AL s.tmps) o.dst o.op λp=>A5 C o.dst (p.dr pre) s λv D=>put D o.dst v (K (some (p.dr pre))))=
   ((bif pre then Jo P C o.op s else λK=>K s) λs=>opK P C (AL s.tmps) o.dst o.op λp=>A5 C o.dst (p.dr pre) s λv D=>put D o.dst v ((λp D=>some (p,D)) (some (p.dr pre)))).bind λq=>K q.1 q.2:=by
  have O:∀s:St,(opK P C (AL s.tmps) o.dst o.op λp=>A5 C o.dst (p.dr pre) s λv D=>put D o.dst v (K (some (p.dr pre))))=(opK P C (AL s.tmps) o.dst o.op λp=>A5 C o.dst (p.dr pre) s λv D=>put D o.dst v ((λp D=>some (p,D)) (some (p.dr pre)))).bind λq=>K q.1 q.2:=by
   intro s;rw[QX]
   conv=>rhs;rw[QX]
   cases opK P C (AL s.tmps) o.dst o.op some with
   |none=>rfl
   |some p=>
    simp only[am];rw[Zjp G]
    conv=>rhs;rw[Zjp G]
    cases A5 C o.dst (p.dr pre) s λv D=>some (v,D)with
    |none=>rfl
    |some q=>grind [Me]
  intro s;cases pre
  ·grind
  ·simp only[aj];rw[Q0d]
   conv=>rhs;rw[Q0d]
   grind
 have I:∀s:St,put s o.dst (.tup []) (K none)=(put s o.dst (.tup []) ((λp D=>some (p,D)) none)).bind λq=>K q.1 q.2:=by
  intro s;simp only[Me,am]
 unfold E_ P_;cases o.guard with
 |none=>grind
 |some M=>
  obtain⟨j,want⟩:=M;dsimp only;cases ops[j]? with
  |none=>rfl
  |some N=>
   dsimp only;cases N.dst with
   |none=>rfl
   |some t=>
    dsimp only;split
    ·rename_i g _;cases g
     ·simp only[aq]
      grind [Fu]
     ·simp only[aj]
      grind [Fu]
    ·grind
    ·rfl
def BW (ops:List Oper) (o:Oper) (tm:List TV):Option Bool:=
 match o.guard with
 |none=>some true
 |some (j,want)=>match ops[j]? with
  |some D=>match D.dst with
   |some t=>match nth .vD tm t with
    | .c (.bool g)=>some (g==want)
    | .tup []=>some false
    |_=>none
   |none=>none
  |none=>none
def Cc (ops:List Oper) (o:Oper) (s:St):Option (Option Prim×St):=
 match BW ops o s.tmps with
 |some true=>(opK P C (AL s.tmps) o.dst o.op some).bind λp=>(ET (C:=C) o.dst (p.dr false) s).bind λq=>some (some (p.dr false),SB q.2 o.dst q.1)
 |some false=>some (none,SB s o.dst (.tup []))
 |none=>none
theorem Zbd {tm:List TV} {t:Nat} {v:TV} (h:nth .vD tm t=v) (G:v≠ .vD):setL tm t v=tm:=by
 rw[B5,List.getD]at h;rw[IC];cases D:tm[t]? with
 |none=>grind
 |some u=>
  rw[D]at h;simp at h;subst h;apply gq
  grind
theorem Z7l (G:Ai P C) {ops:List Oper} {o:Oper} {s:St} {K:Option Prim->St->Option R} {r:R} (h:E_ P C false ops o s K=some r):
  (∃p D,Cc (P:=P) (C:=C) ops o s=some (p,D)/\K p D=some r)\/(∃p D,K (some p) D=some r/\Prim.simple (some p)=false):=by
 have N:∀s1:St,BW ops o s.tmps=some true->s1=s->(opK P C (AL s1.tmps) o.dst o.op λp=>A5 C o.dst (p.dr false) s1 λv D=>put D o.dst v (K (some (p.dr false))))=some r->
   (∃p D,Cc (P:=P) (C:=C) ops o s=some (p,D)/\K p D=some r)\/(∃p D,K (some p) D=some r/\Prim.simple (some p)=false):=by
  rintro s1 O rfl h;rw[QX]at h;cases T:opK P C (AL s1.tmps) o.dst o.op some with
  |none=>grind
  |some p=>
   rw[T]at h;simp only[am]at h;cases U:Prim.simple (some (p.dr false))
   ·grind [Zr6,Me]
   ·left;rw[Zbb G U]at h;cases hm:ET (C:=C) o.dst (p.dr false) s1 with
    |none=>grind
    |some q=>grind [Me,Cc]
 have L:∀s1:St,BW ops o s.tmps=some false->s1=s->put s1 o.dst (.tup []) (K none)=some r->
   (∃p D,Cc (P:=P) (C:=C) ops o s=some (p,D)/\K p D=some r)\/(∃p D,K (some p) D=some r/\Prim.simple (some p)=false):=by
  rintro s1 O rfl h;rw[Me]at h;exact .inl ⟨none,_,by grind [Cc],h⟩
 unfold E_ P_ at h;cases S:o.guard with
 |none=>simp_all [BW]
 |some V=>
  obtain⟨j,want⟩:=V;rw[S]at h;simp only at h;split at h
  ·rename_i oj X;split at h
   ·rename_i t Y;split at h
    ·rename_i g I;have O:BW ops o s.tmps=some (g==want):=by simp only[BW,S,X,Y,I]
     have M:∀b,g=b->(⟨setL s.tmps t (.c (.bool b)),s.aB,s.aC⟩:St)=s:=by
      rintro b rfl;rw[Zbd I (by simp)]
     cases g
     ·simp only[aq]at h;rw[Fu]at h;dsimp only at h;cases want
      ·grind
      grind
     ·simp only[aj]at h;rw[Fu]at h;dsimp only at h;cases want
      ·grind
      grind
    ·simp_all [BW]
    grind
   grind
  grind
def Ik (P:Program) (C:Cfg) (ops:List Oper) (m:List Nat) (i:Nat) (o:Oper) (s:St):Option (Option Prim×St):=
 if Dn ops m i=true then E_ P C true ops o s λp D=>some (p,D)else Cc (P:=P) (C:=C) ops o s
def RV (P:Program) (C:Cfg) (ops:List Oper) (m:List Nat):List (Nat×Oper×Option Prim)->St->St->Prop
 |[],s,D=>s=D
 |(i,o,p)::l,s,D=>∃s1,Ik P C ops m i o s=some (p,s1)/\RV P C ops m l s1 D
theorem Qbx (D:Ai P C) {ops:List Oper} {m:List Nat}:∀(l:List Oper) (i:Nat) (s:St) (K:List (Oper×Option Prim)->St->Option R) (r:R),Ng P C ops m l i s K=some r->
  (∃(ps:List (Nat×Oper×Option Prim)) (G:St),ps.map (·.2.1)=l/\ps.map (·.1)=List.range' i l.length/\RV P C ops m ps s G/\K (ps.map (·.2)) G=some r)\/
  (∃(acc:List (Oper×Option Prim)) (G:St),K acc G=some r/\∃(j:Nat) (q:Oper×Option Prim),acc[j]? =some q/\(Dn ops m (i+j)||Prim.simple q.2)=false)
 |[],i,s,K,r,h=> .inl ⟨[],s,rfl,rfl,rfl,h⟩
 |o::l,i,s,K,r,h=>by
  simp only[Ng]at h;have I:(∃p s1,Ik P C ops m i o s=some (p,s1)/\Ng P C ops m l (i+1) s1 (λrest G=>K ((o,p)::rest) G)=some r)\/
    (∃p s1,Ng P C ops m l (i+1) s1 (λrest G=>K ((o,some p)::rest) G)=some r/\(Dn ops m i||Prim.simple (some p))=false):=by
   cases U:Dn ops m i
   ·rw[U]at h;rcases Z7l D h with⟨p,s1,M,L⟩|⟨p,s1,M,L⟩
    ·exact .inl ⟨p,s1,by simp_all [Ik],L⟩
    grind
   ·rw[U,Zl5 D]at h;cases V:E_ P C true ops o s λp X=>some (p,X)with
    |none=>grind
    |some q=>
     rw[V]at h;exact .inl ⟨q.1,q.2,by simp_all [Ik],h⟩
  rcases I with⟨p,s1,M,L⟩|⟨p,s1,M,L⟩
  ·rcases Qbx D l (i+1) s1 _ r L with⟨ps,G,N,O,S,T⟩|⟨acc,G,N,j,q,O,S⟩
   ·exact .inl ⟨(i,o,p)::ps,G,by grind,by simp[O,List.range'_succ],⟨s1,M,S⟩,T⟩
   ·exact .inr ⟨_,G,N,j+1,q,by grind,by grind⟩
  ·rcases Qbx D l (i+1) s1 _ r M with⟨ps,G,N,O,S,T⟩|⟨acc,G,N,j,q,O,S⟩
   ·exact .inr ⟨_,G,T,0,(o,some p),by simp,L⟩
   ·exact .inr ⟨_,G,N,j+1,q,by grind,by grind⟩
end
end Go.Bm
