/- the abstract machine -/
import Derived.Test.YtommijghjlikkaaGreatBmFz
import Derived.ArgAppend
import Derived.LoopN
set_option linter.unusedVariables false
set_option linter.unusedSimpArgs false
namespace Go.Bm
open Go.RowKit
section
variable {P:Program} {C:Cfg} {ρ:Env} {w:World} {R:Type} {Z:Base} {tm:List TV} {aB:List (Nat×Box)} {aC:List (Nat×Row)} {tmps:Array Value}
theorem Qrz:∀{l:List (Nat×Nat)} {cs:List AC},JP l cs=true->cs=Mg l
 |[],[],_=>rfl
 |(k,o)::l,a::cs,h=>by
  cases a<;>simp only[JP]at h<;>try (simp at h;done)
  simp only[al]at h;rw[ac h.1.1,ac h.1.2,Qrz h.2];rfl
 |[],_::_,h=>by simp[JP]at h
 |_::_,[],h=>by simp[JP]at h
structure Built (aC : List (Nat × Row)) (rl : Nat -> Nat) : Prop where
 rl:∀id r,Ac aC id=some r->rl id=r.l.length
def Seg (l:List AC) (i:Nat) (v:List AC):Prop:=∀j,j<v.length->nth .dead l (i+j)=nth .dead v j
theorem Seg.left {l:List AC} {i:Nat} {v u:List AC} (h:Seg l i (v++u)):Seg l i v:=λj E=>by
 rw[h j (by simp;omega),B7,B7,List.getD,List.getD,kj E]
theorem Seg.right {l:List AC} {i:Nat} {v u:List AC} (h:Seg l i (v++u)):Seg l (i+v.length) u:=λj E=>by
 rw[du,h (v.length+j) (by simp;omega),B7,B7,List.getD,List.getD,List.getElem?_append_right (by omega)];simp
theorem Seg.one {l:List AC} {i:Nat} {a:AC} (h:Seg l i [a]):nth .dead l i=a:=h 0 (by simp)
theorem Seg.all (l:List AC):Seg l 0 l:=λj _=>by rw[d9]
theorem Z74 {rl:Nat->Nat} (I:Built aC rl) {c:CS} {a:AC} {v:List AC} (h:KX c a=some v) {l:List AC} {i:Nat} (G:Seg l i v):
  (EF rl l c i).2=i+v.length/\∀x,AC.wf aB aC a->CC ρ w a x->CC ρ w (EF rl l c i).1 x:=by
 cases c<;>cases a<;>simp only[KX]at h<;>try (simp at h;done)
 case any.dead=>simp at h;subst h;exact⟨rfl,λx _ h=>h.one⟩
 case any.int=>simp at h;subst h;exact⟨rfl,λx _ h=>h.one⟩
 case any.bool=>simp at h;subst h;exact⟨rfl,λx _ h=>h.one⟩
 case any.raw=>simp at h;subst h;exact⟨rfl,λx _ h=>h.one⟩
 case any.nilSl=>simp at h;subst h;exact⟨rfl,λx _ h=>h.one⟩
 case any.ptr=>simp at h;subst h;exact⟨rfl,λx _ h=>h.one⟩
 case any.own=>simp at h;subst h;exact⟨rfl,λx _ h=>h.one⟩
 case any.vC=>simp at h;subst h;exact⟨rfl,λx _ h=>h.one⟩
 case any.rptr=>simp at h;subst h;exact⟨rfl,λx _ h=>h.one⟩
 case any.vptr=>simp at h;subst h;exact⟨rfl,λx _ h=>h.one⟩
 case any.clo=>simp at h;subst h;exact⟨rfl,λx _ h=>h.one⟩
 case any.bsl=>simp at h;subst h;exact⟨rfl,λx _ h=>h.one⟩
 case int.int k k' n=>
  cases E:kEq k k'<;>rw[E]at h
  ·simp at h
  ·simp at h;subst h;rw[<-PU E];refine⟨rfl,λx _ h=> ?_⟩;simp only[EF,G.one,Ah];exact h
 case bool.bool b=>
  simp at h;subst h;refine⟨rfl,λx _ h=> ?_⟩;simp only[EF,G.one,Dh];exact h
 case sl.nilSl ks=>
  simp at h;subst h;refine⟨rfl,λx _ h=> ?_⟩;simp only[CC,CP]at h;subst h;simp only[EF,G.one,CI];exact UN ks
 case sl.vC ks J l=>
  cases E:Ds ks J<;>rw[E]at h
  ·simp at h
  ·simp at h;subst h;rw[<-J_ E];refine⟨rfl,λx _ h=> ?_⟩;simp only[EF,G.one,CI];exact h
 case rawc.raw v=>
  simp at h;subst h;refine⟨rfl,λx _ h=> ?_⟩;simp only[EF,G.one];exact h
 case nil.nilSl=>simp at h;subst h;exact⟨rfl,λx _ h=>h⟩
 case ptr.ptr k o k' M=>
  cases E:(Nat.beq k k'&&Nat.beq o M)<;>rw[E]at h
  ·simp at h
  ·simp at h;subst h;simp only[al]at E;rw[<-ac E.1,<-ac E.2];exact⟨rfl,λx _ h=>h⟩
 case bsl.bsl k o k' M=>
  cases E:(Nat.beq k k'&&Nat.beq o M)<;>rw[E]at h
  ·simp at h
  ·simp at h;subst h;simp only[al]at E;rw[<-ac E.1,<-ac E.2];exact⟨rfl,λx _ h=>h⟩
 case own.own id wd id' N n=>
  cases E:(Nat.beq id id'&&Nat.beq wd N)<;>rw[E]at h
  ·simp at h
  ·simp at h;subst h;simp only[al]at E;rw[<-ac E.1,<-ac E.2];refine⟨rfl,λx T h=> ?_⟩;obtain⟨r,U,V,Y⟩:=T;show CC ρ w (.own id wd (rl id)) x;rw[I.rl id r U];have:r.l.length=n:=V;rw[this];exact h
 case clo.clo f fs cs X O S=>
  cases E:(Nat.beq f X&&JP fs O&&JP cs S)<;>rw[E]at h
  ·simp at h
  ·simp at h;subst h;simp only[al]at E;rw[<-ac E.1.1,Qrz E.1.2,Qrz E.2];exact⟨rfl,λx _ h=>h⟩
theorem Ua {rl:Nat->Nat} (E:Built aC rl) {l:List AC}:∀{cs:List CS} {as:List AC} {v:List AC},G8 cs as=some v->∀{i},Seg l i v->
  (EG rl l cs i).2=i+v.length/\(EG rl l cs i).1.length=as.length/\∀xs,(∀a∈as,AC.wf aB aC a)->CL (CC ρ w) as xs->CL (CC ρ w) (EG rl l cs i).1 xs
 |[],[],v,h,i,_=>by simp[G8]at h;subst h;exact⟨rfl,rfl,λxs _ h=>h⟩
 |c::cs,a::as,v,h,i,M=>by
  simp only[G8]at h;split at h
  ·rename_i X O;split at h
   ·rename_i Y S;simp at h;subst h;obtain⟨G,I⟩:=Z74 (ρ:=ρ) (w:=w) (aB:=aB) E O M.left;obtain⟨T,U,V⟩:=Ua E S M.right;simp only[EG];generalize hb:EF rl l c i=q at G I;obtain⟨b,i'⟩:=q;simp only at G I;subst G;refine⟨by simp only[T,ay];omega,by simp[U],λxs N J=> ?_⟩;cases xs with
    |nil=>exact J.elim
    |cons x xs=>exact⟨I x (N a (by simp)) J.1,V xs (λb hb=>N b (by simp[hb])) J.2⟩
   ·simp at h
  ·simp at h
 |[],_::_,v,h,_,_=>by simp[G8]at h
 |_::_,[],v,h,_,_=>by simp[G8]at h
theorem Q38 {rl:Nat->Nat} (G:Built aC rl) {l:List AC}:∀{ps:List (Bool×List CS)} {J:List (Bool×List AC)} {v:List AC},Ml ps J=some v->∀{i},Seg l i v->
  (HF rl l ps i).2=i+v.length/\∀xs,(∀p∈J,∀a∈p.2,AC.wf aB aC a)->TP ρ w J xs->TP ρ w (HF rl l ps i).1 xs
 |[],[],v,h,i,_=>by simp[Ml]at h;subst h;exact⟨rfl,λxs _ h=>h⟩
 |(g,cs)::ps,(U,as)::J,v,h,i,V=>by
  simp only[Ml]at h;cases X:(g==U)<;>rw[X]at h
  ·simp at h
  ·simp only[aj]at h;have O:g=U:=by simpa using X
   subst O;split at h
   ·rename_i v1 h1;split at h
    ·rename_i v2 h2;simp at h;subst h;obtain⟨S,M,N⟩:=Ua (ρ:=ρ) (w:=w) (aB:=aB) G h1 V.left;obtain⟨p1,p2⟩:=Q38 G h2 V.right;simp only[HF];generalize hb:EG rl l cs i=q at S N M;obtain⟨b,i'⟩:=q;simp only at S N M;subst S;refine⟨by simp only[p1,ay];omega,λxs Y T=> ?_⟩;cases xs with
     |nil=>exact T.elim
     |cons x xs=>
      refine⟨?_,p2 xs (λp hp=>Y p (by simp[hp])) T.2⟩;have I:=T.1;have E:=Y (g,as) (by simp);cases g
      ·obtain⟨a,e1,e2⟩:=I;dsimp only at e1 E;subst e1;have:=N [x] E ⟨e2,trivial⟩;cases b with
       |nil=>simp at M
       |cons c b=>
        cases b with
        |nil=>exact⟨c,rfl,this.1⟩
        |cons=>simp at M
      ·obtain⟨ys,e1,e2⟩:=I;exact⟨ys,e1,N _ E e2⟩
    ·simp at h
   ·simp at h
 |[],_::_,v,h,_,_=>by simp[Ml]at h
 |(_,_)::_,[],v,h,_,_=>by simp[Ml]at h
theorem Z3u {rl:Nat->Nat} (I:Built aC rl) {t:TS} {u:TV} {v:List AC} (h:J3 t u=some v) {l:List AC} {i:Nat} (S:Seg l i v):
  (HZ rl l t i).2=i+v.length/\∀x,TV.wf aB aC u->TVR ρ w u x->TVR ρ w (HZ rl l t i).1 x:=by
 cases t with
 |dead=>simp[J3]at h;subst h;exact⟨rfl,λ_ _ _=>trivial⟩
 |v g cs=>
  cases u with
  |dead=>simp[J3]at h
  |tup=>simp[J3]at h
  |v T as=>
   simp only[J3]at h;cases U:(g==T)<;>rw[U]at h
   ·simp at h
   ·simp only[aj]at h;have N:g=T:=by simpa using U
    subst N;obtain⟨G,J,E⟩:=Ua (ρ:=ρ) (w:=w) (aB:=aB) I h S;simp only[HZ];generalize hb:EG rl l cs i=q at G E J;obtain⟨b,X⟩:=q;simp only at G E J;refine⟨G,λx M V=> ?_⟩;cases g
    ·obtain⟨a,rfl,e2⟩:=V;have:=E [x] M ⟨e2,trivial⟩;cases b with
     |nil=>simp at J
     |cons c b=>
      cases b with
      |nil=>exact⟨c,rfl,this.1⟩
      |cons=>simp at J
    ·obtain⟨O,rfl,e2⟩:=V;exact⟨O,rfl,E _ M e2⟩
 |tup ps=>
  cases u with
  |dead=>simp[J3]at h
  |v=>simp[J3]at h
  |tup Y=>
   simp only[J3]at h;obtain⟨G,E⟩:=Q38 (ρ:=ρ) (w:=w) (aB:=aB) I h S;simp only[HZ];generalize hb:HF rl l ps i=q at G E;obtain⟨b,X⟩:=q;simp only at G E;exact⟨G,λx M ⟨O,e1,e2⟩=>⟨O,e1,E _ M e2⟩⟩
theorem Vk {rl:Nat->Nat} (E:Built aC rl) {l:List AC}:∀{G:List TS} {I:List TV} {v:List AC},KV G I=some v->∀{i},Seg l i v->
  (Fx rl l G i).2=i+v.length/\(Fx rl l G i).1.length=I.length/\∀(n:Nat) (b:TV),(Fx rl l G i).1[n]? =some b->∃u,I[n]? =some u/\∀x,TV.wf aB aC u->TVR ρ w u x->TVR ρ w b x
 |[],[],v,h,i,_=>by simp[KV]at h;subst h;exact⟨rfl,rfl,λi b h=>by simp[Fx]at h⟩
 |t::G,u::I,v,h,i,N=>by
  simp only[KV]at h;split at h
  ·rename_i Y O;split at h
   ·rename_i v2 S;simp at h;subst h;obtain⟨J,M⟩:=Z3u (ρ:=ρ) (w:=w) (aB:=aB) E O N.left;obtain⟨T,U,V⟩:=Vk E S N.right;simp only[Fx];generalize hb:HZ rl l t i=q at J M;obtain⟨b,i'⟩:=q;simp only at J M;subst J;refine⟨by simp only[T,ay];omega,by simp[U],λn c hi=> ?_⟩;cases n with
    |zero=>simp at hi;subst hi;exact⟨u,rfl,M⟩
    |succ n=>obtain⟨X,e1,e2⟩:=V n c (by simpa using hi);exact⟨X,by simpa using e1,e2⟩
   ·simp at h
  ·simp at h
 |[],_::_,v,h,_,_=>by simp[KV]at h
 |_::_,[],v,h,_,_=>by simp[KV]at h
theorem Q3a {rl:Nat->Nat} (I:Built aC rl) {l:List AC}:∀{bs:List (Nat×TypeId×List CS)} {v:List AC},Kh bs aB=some v->∀{i},Seg l i v->
  ∀k b,Ac (FG rl l bs i) k=some b->k∈bs.map (·.1)/\∃G,Ac aB k=some G/\b.ty=G.ty/\∀xs,(∀a∈G.cells,AC.wf aB aC a)->CL (CC ρ w) G.cells xs->CL (CC ρ w) b.cells xs
 |[],v,h,i,_,k,b,E=>by simp[FG,Ac]at E
 |(j,t,cs)::bs,v,h,i,S,k,b,E=>by
  simp only[Kh]at h;split at h
  ·rename_i G M;cases T:Nat.beq t G.ty<;>rw[T]at h
   ·simp at h
   ·simp only[aj]at h;split at h
    ·rename_i v1 X;split at h
     ·rename_i v2 Y;simp at h;subst h;obtain⟨N,U,O⟩:=Ua (ρ:=ρ) (w:=w) (aB:=aB) I X S.left;simp only[FG]at E;generalize hb:EG rl l cs i=q at N O U E;obtain⟨c,i'⟩:=q;simp only at N O U E;subst N;simp only[Ac]at E;cases J:Nat.beq j k<;>rw[J]at E
      ·obtain⟨V,p2⟩:=Q3a I Y S.right k b E;exact⟨by simp at V⊢;exact .inr V,p2⟩
      ·have:=ac J;subst this;simp at E;subst E;exact⟨by simp,G,M,ac T,O⟩
     ·simp at h
    ·simp at h
  ·simp at h
theorem Qs7 {l:List AC}:∀{rs:List (Nat×TypeId×List Kd)} {v:List AC},JX rs aC=some v->∀{i},Seg l i v->
  (Hn l rs i).2=i+v.length/\(∀id r,Ac (Hn l rs i).1 id=some r->Ac aC id=some r)/\∀id t ks,Ac rs id=some (t,ks)->∃r,Ac (Hn l rs i).1 id=some r/\r.ks=ks
 |[],v,h,i,_=>by simp[JX]at h;subst h;exact⟨rfl,λid r h=>by simp[Hn,Ac]at h,λid t ks h=>by simp[Ac]at h⟩
 |(k,t,ks)::rs,v,h,i,S=>by
  simp only[JX]at h;split at h
  ·rename_i r T;cases hb:(Nat.beq t r.ty&&Ds ks r.ks)<;>rw[hb]at h
   ·simp at h
   ·simp only[aj]at h;simp only[al]at hb;split at h
    ·rename_i U I;simp at h;subst h;have E:Seg l i ([.vC ks r.l]++U):=S;obtain⟨J,M,N⟩:=Qs7 I (i:=i+1) E.right;simp only[Hn,E.left.one,CI];generalize X:Hn l rs (i+1)=q at J M N;obtain⟨B,Y⟩:=q;simp only at J M N;refine⟨by simp only[J,bj];omega,λid r' hi=> ?_,λid V O hi=> ?_⟩
     ·simp only[Ac]at hi;cases G:Nat.beq k id<;>rw[G]at hi
      ·exact M id r' hi
      ·have:=ac G;subst this;simp at hi;subst hi;rw[T,ac hb.1,J_ hb.2]
     ·simp only[Ac]at hi⊢;cases G:Nat.beq k id<;>rw[G]at hi
      ·simp only[ao]at hi⊢;exact N id V O hi
      ·simp at hi;obtain⟨_,rfl⟩:=hi;exact⟨_,rfl,rfl⟩
    ·simp at h
  ·simp at h
section names
variable {keys:List Nat} {rs:List (Nat×TypeId×List Kd)} {B':List (Nat×Box)} {R':List (Nat×Row)} {rl:Nat->Nat}
theorem Qgw (G:∀k∈keys,∃b,Ac B' k=some b):∀(l:List (Nat×Nat)),Al (λp:Nat×Nat=>AW keys p.1) l=true->∀a∈Mg l,AC.wfP B' a
 |[],_,a,E=>by simp[Mg]at E
 |(k,o)::l,h,a,E=>by
  have I:=AD.1 h;simp only[Mg,av]at E;rcases E with rfl|E
  ·exact G k (Fy.1 (I (k,o) (by simp)))
  ·exact Qgw G l (AD.2 λp J=>I p (by simp[J])) a E
theorem Zpd (G:∀k∈keys,∃b,Ac B' k=some b) (I:∀id t ks,Ac rs id=some (t,ks)->∃r,Ac R' id=some r/\r.ks=ks/\rl id=r.l.length) {c:CS} (E:c.okB keys rs=true) (l:List AC) (i:Nat):AC.wf B' R' (EF rl l c i).1:=by
 cases c<;>simp only[EF]<;>try trivial
 case rawc=>simp only[M9];split<;>trivial
 case ptr k o=>exact G k (Fy.1 E)
 case bsl k o=>exact G k (Fy.1 E)
 case own id wd=>
  simp only[CS.okB]at E;split at E
  ·rename_i t ks J;obtain⟨r,M,N,O⟩:=I id t ks J;refine⟨r,M,O.symm,?_⟩;show r.ks.length=wd;rw[N];exact ac E
  ·simp at E
 case clo f fs cs=>
  simp only[CS.okB,al]at E;exact⟨Qgw G fs E.1,Qgw G cs E.2⟩
theorem SH (G:∀k∈keys,∃b,Ac B' k=some b) (I:∀id t ks,Ac rs id=some (t,ks)->∃r,Ac R' id=some r/\r.ks=ks/\rl id=r.l.length):∀{cs:List CS},Al (CS.okB keys rs) cs=true->∀(l:List AC) (i:Nat),∀a∈(EG rl l cs i).1,AC.wf B' R' a
 |[],_,l,i,a,E=>by simp[EG]at E
 |c::cs,h,l,i,a,E=>by
  have J:=AD.1 h;simp only[EG,av]at E;rcases E with rfl|E
  ·exact Zpd G I (J c (by simp)) l i
  ·exact SH G I (AD.2 λc M=>J c (by simp[M])) l _ a E
theorem Q1i (G:∀k∈keys,∃b,Ac B' k=some b) (I:∀id t ks,Ac rs id=some (t,ks)->∃r,Ac R' id=some r/\r.ks=ks/\rl id=r.l.length):∀{ps:List (Bool×List CS)},Al (λp:Bool×List CS=>Al (CS.okB keys rs) p.2) ps=true->∀(l:List AC) (i:Nat),∀p∈(HF rl l ps i).1,∀a∈p.2,AC.wf B' R' a
 |[],_,l,i,p,E=>by simp[HF]at E
 |(g,cs)::ps,h,l,i,p,E=>by
  have J:=AD.1 h;simp only[HF,av]at E;rcases E with rfl|E
  ·exact SH G I (J (g,cs) (by simp)) l i
  ·exact Q1i G I (AD.2 λc M=>J c (by simp[M])) l _ p E
theorem Zo7 (E:∀k∈keys,∃b,Ac B' k=some b) (G:∀id t ks,Ac rs id=some (t,ks)->∃r,Ac R' id=some r/\r.ks=ks/\rl id=r.l.length) {t:TS} (I:t.okB keys rs=true) (l:List AC) (i:Nat):TV.wf B' R' (HZ rl l t i).1:=by
 cases t with
 |dead=>trivial
 |v g cs=>exact SH E G I l i
 |tup ps=>exact Q1i E G I l i
theorem Qjj (G:∀k∈keys,∃b,Ac B' k=some b) (I:∀id t ks,Ac rs id=some (t,ks)->∃r,Ac R' id=some r/\r.ks=ks/\rl id=r.l.length):∀{ts:List TS},Al (TS.okB keys rs) ts=true->∀(l:List AC) (i:Nat),∀v∈(Fx rl l ts i).1,TV.wf B' R' v
 |[],_,l,i,v,E=>by simp[Fx]at E
 |t::ts,h,l,i,v,E=>by
  have J:=AD.1 h;simp only[Fx,av]at E;rcases E with rfl|E
  ·exact Zo7 G I (J t (by simp)) l i
  ·exact Qjj G I (AD.2 λc M=>J c (by simp[M])) l _ v E
theorem Zak (E:∀k∈keys,∃b,Ac B' k=some b) (G:∀id t ks,Ac rs id=some (t,ks)->∃r,Ac R' id=some r/\r.ks=ks/\rl id=r.l.length):∀{bs:List (Nat×TypeId×List CS)},Al (λp:Nat×TypeId×List CS=>Al (CS.okB keys rs) p.2.2) bs=true->∀(l:List AC) (i k:Nat) (b:Box),Ac (FG rl l bs i) k=some b->∀a∈b.cells,AC.wf B' R' a
 |[],_,l,i,k,b,hb=>by simp[FG,Ac]at hb
 |(j,t,cs)::bs,h,l,i,k,b,hb=>by
  have I:=AD.1 h;simp only[FG,Ac]at hb;cases J:Nat.beq j k<;>rw[J]at hb
  ·exact Zak E G (AD.2 λc M=>I c (by simp[M])) l _ k b hb
  ·simp at hb;subst hb;exact SH E G (I (j,t,cs) (by simp)) l i
end names
theorem Q2k {rl:Nat->Nat} (l:List AC):∀(bs:List (Nat×TypeId×List CS)) (i k:Nat),k∈bs.map (·.1)->∃b,Ac (FG rl l bs i) k=some b
 |[],_,k,h=>by simp at h
 |(j,t,cs)::bs,i,k,h=>by
  simp only[FG,Ac];cases E:Nat.beq j k
  ·have:k∈bs.map (·.1):=by
    simp only[bt,av]at h;exact h.resolve_left λe=>Hk E e.symm
   exact Q2k l bs _ k this
  ·exact⟨_,rfl⟩
theorem RelE.rebuild {sk:Sk} {vars:List AC} (h:RelE Z tm aB aC ρ tmps w) (hZ:∀k b,Z.K0 k=some b->GE k=true) (X:sk.okB=true) (M:FW sk ⟨tm,aB,aC⟩=some vars):
  RelE Z (BH sk vars).tmps (BH sk vars).aB (BH sk vars).aC ρ tmps w:=by
 simp only[FW]at M;obtain ⟨a6, M⟩ : Al (λp : Nat × Box => !(GE p.1) || AW (sk.aB.map (·.1)) p.1) aB = true /\ (match JX sk.aC aC with
  |some a=>match KV sk.tmps tm with
   |some b=>match Kh sk.aB aB with
    |some c=>some (a++(b++c))
    |none=>none
   |none=>none
  |none=>none)=some vars:=by
  revert M
  generalize Al (λp:Nat×Box=> !(GE p.1)||AW (sk.aB.map (·.1)) p.1) aB=q;intro M;cases q
  ·simp at M
  ·exact⟨rfl,M⟩
 split at M
 ·rename_i T a7;split at M
  ·rename_i vb a8;split at M
   ·rename_i vc a9;simp at M;subst M;have U:=Seg.all (T++(vb++vc));generalize N:T++(vb++vc)=l at U⊢;rw[<-N]at U;have b1:Seg l 0 T:=by rw[<-N];exact(Seg.all _).left
    have b2:Seg l (0+T.length) vb:=by rw[<-N];exact(Seg.all _).right.left
    have b3:Seg l (0+T.length+vb.length) vc:=by rw[<-N];exact(Seg.all _).right.right
    obtain⟨r1,V,r3⟩:=Qs7 a7 b1;simp only[BH];generalize hR:Hn l sk.aC 0=qr at r1 V r3;obtain⟨R',ir⟩:=qr;simp only at r1 V r3⊢;subst r1;have c0:sk.okB=true:=X;simp only[Sk.okB,al]at X;obtain⟨⟨⟨ok1,c1⟩,a2⟩,a3⟩:=X
    have a4:∀id r,Ac R' id=some r->En R' id=r.l.length:=λid r N=>by simp only[En,N]
    have I:∀k∈sk.aB.map (·.1),∃b,Ac (FG (En R') l sk.aB (0+T.length+vb.length)) k=some b:=λk O=>Q2k l sk.aB _ k O;have Y:∀id t ks,Ac sk.aC id=some (t,ks)->∃r,Ac R' id=some r/\r.ks=ks/\En R' id=r.l.length:=λid t ks N=>by
     obtain⟨r,J,q2⟩:=r3 id t ks N;exact⟨r,J,q2,a4 id r J⟩
    let E:Nat->Nat:=λid=>match Ac aC id with
     |some r=>r.l.length
     |none=>0
    have a5:Built aC E:=⟨λid r N=>by simp only[E,N]⟩;have a0:∀id t ks,Ac sk.aC id=some (t,ks)->E id=En R' id:=λid t ks N=>by
     obtain⟨r,J,_,q3⟩:=Y id t ks N;simp only[E,V id r J,q3]
    have eC:∀(c:CS) (i:Nat),c.okB (sk.aB.map (·.1)) sk.aC=true->EF E l c i=EF (En R') l c i:=by
     intro c i G;cases c<;>try rfl
     rename_i id wd;simp only[CS.okB]at G;split at G
     ·rename_i t ks N;simp only[EF,a0 id t ks N]
     ·simp at G
    have a1:∀(cs:List CS) (i:Nat),Al (CS.okB (sk.aB.map (·.1)) sk.aC) cs=true->EG E l cs i=EG (En R') l cs i:=by
     intro cs;induction cs with
     |nil=>intro i _;rfl
     |cons c cs ih=>
      intro i G;have S:=AD.1 G;simp only[EG];rw[eC c i (S c (by simp))];rw[ih _ (AD.2 λc G=>S c (by simp[G]))]
    have b4:∀(ps:List (Bool×List CS)) (i:Nat),Al (λp:Bool×List CS=>Al (CS.okB (sk.aB.map (·.1)) sk.aC) p.2) ps=true->HF E l ps i=HF (En R') l ps i:=by
     intro ps;induction ps with
     |nil=>intro i _;rfl
     |cons p ps ih=>
      intro i G;obtain⟨g,cs⟩:=p;have S:=AD.1 G;simp only[HF];rw[a1 cs i (S (g,cs) (by simp))];rw[ih _ (AD.2 λc G=>S c (by simp[G]))]
    have eT:∀(t:TS) (i:Nat),t.okB (sk.aB.map (·.1)) sk.aC=true->HZ E l t i=HZ (En R') l t i:=by
     intro t i ht;cases t with
     |dead=>rfl
     |v g cs=>simp only[HZ];rw[a1 cs i ht]
     |tup ps=>simp only[HZ];rw[b4 ps i ht]
    have b5:∀(ts:List TS) (i:Nat),Al (TS.okB (sk.aB.map (·.1)) sk.aC) ts=true->Fx E l ts i=Fx (En R') l ts i:=by
     intro ts;induction ts with
     |nil=>intro i _;rfl
     |cons c cs ih=>
      intro i G;have S:=AD.1 G;simp only[Fx];rw[eT c i (S c (by simp))];rw[ih _ (AD.2 λc G=>S c (by simp[G]))]
    have b6:∀(bs:List (Nat×TypeId×List CS)) (i:Nat),Al (λp:Nat×TypeId×List CS=>Al (CS.okB (sk.aB.map (·.1)) sk.aC) p.2.2) bs=true->FG E l bs i=FG (En R') l bs i:=by
     intro bs;induction bs with
     |nil=>intro i _;rfl
     |cons p bs ih=>
      intro i G;obtain⟨k,t,cs⟩:=p;have S:=AD.1 G;simp only[FG];rw[a1 cs i (S (k,t,cs) (by simp))];rw[ih _ (AD.2 λc G=>S c (by simp[G]))]
    have hT:=Vk (ρ:=ρ) (w:=w) (aB:=aB) a5 a8 b2;rw[b5 sk.tmps _ a2]at hT;obtain⟨t1,t2,t3⟩:=hT;have tw:=Qjj (rl:=En R') I Y a2 l (0+T.length);generalize c2:Fx (En R') l sk.tmps (0+T.length)=qt at t1 t2 t3 tw;obtain⟨T',it⟩:=qt;simp only at t1 t2 t3 tw⊢;subst t1;have hB:=Q3a (ρ:=ρ) (w:=w) a5 a9 b3;rw[b6 sk.aB _ a3]at hB;refine⟨by rw[t2];exact h.tl,λi v hi=> ?_,tw,Zak I Y a3 l _,λk b O=> ?_,λk k' b b' O b7 he=> ?_,λid r hi=>h.ro id r (V id r hi),λid id' r r' g hi b8=>h.ri id id' r r' g (V id r hi) (V id' r' b8),λk b id r O hi=> ?_,λb hb=> ?_,h.fr,h.fs,h.i0,h.i1,λk b O=> ?_⟩
    ·obtain⟨u,hu,hx⟩:=t3 i v hi;exact hx _ (h.wt u (cq hu)) (h.tv i u hu)
    ·obtain⟨_,b0,J,q2,q3⟩:=hB k b O;obtain⟨arr,p1,p2,p3⟩:=h.bx k b0 J;exact⟨arr,by rw[q2];exact p1,q3 _ (h.wb k b0 J) p2,p3⟩
    ·obtain⟨_,b0,J,_⟩:=hB k b O;obtain⟨_,c3,b9,_⟩:=hB k' b' b7;exact h.bi k k' _ _ J b9 he
    ·obtain⟨_,b0,J,_⟩:=hB k b O;exact h.br k b0 id r J (V id r hi)
    ·obtain⟨J,q2,q3⟩:=h.ib b hb;exact⟨J,λk bo O=>by obtain⟨_,b0,p1,_⟩:=hB k bo O;exact q2 k b0 p1,λid r hi=>q3 id r (V id r hi)⟩
    ·obtain⟨J,bo,q2⟩:=h.k0 k b O;refine⟨J,I k ?_⟩;have:=AD.1 a6 (k,bo) (O9 q2);simp only[hZ k b O,Bool.not_true,Bool.false_or]at this;exact Fy.1 this
   ·simp at M
  ·simp at M
 ·simp at M
end
open Go.RowKit
section
variable {P:Program} {C:Cfg} {ρ:Env} {w:World} {R:Type} {Z:Base} {tm:List TV} {aB:List (Nat×Box)} {aC:List (Nat×Row)} {tmps:Array Value}
theorem GU {α:Type}:∀(l:List α) (o:Nat) (E:List α),o+E.length<=l.length->splice l o E=l.take o++E++l.drop (o+E.length)
 |l,o,[],h=>by simp[RY]
 |[],o,_::_,h=>by simp at h
 |x::l,0,v::E,h=>by
  simp only[splice,List.take_zero,bf,az];rw[GU l 0 E (by simp at h⊢;omega)];simp
 |x::l,o+1,v::E,h=>by
  simp only[splice];rw[GU l o (v::E) (by simp at h⊢;omega)];simp only[List.take_succ_cons,az,bj];rw[show o+1+(E.length+1)=(o+(E.length+1))+1 from by omega,List.drop_succ_cons]
theorem Qyk {t:TypeId} {x:Value} {b off:Nat} {cur:Array Value} {ty:TypeId} (I:szT P t=some x.cells.toList.length) (hb:w.heap[b]? =some (.cells cur ty (0,0)))
  (G:off+x.cells.toList.length<=cur.size) (J:∀v∈x.cells.toList,v.oneCell'=true):
  (storeVar t ⟨b,off,none⟩ x).run P w= .ok () (w.setRow b (splice cur.toList off x.cells.toList).toArray):=by
 have:=run_storeCells_at P b off ty x.cells.toList 0 cur w hb (by simpa using G) J;simp only[jv]at this;have E:=Eu I w;simp only[storeVar,Sem.run_bind,E,dh];rw[GU _ _ _ (by simpa using G)];rw[aa (by simp)];exact this
theorem Z2d {α:Type} (xs E:List α) (i wd sub n:Nat) (hi:i<n) (N:xs.length=n*wd) (J:sub+E.length<=wd):
  cut (splice xs (i*wd+sub) E) (i*wd) wd=splice (cut xs (i*wd) wd) sub E:=by
 have hle:i*wd+wd<=n*wd:=by
  calc i*wd+wd=(i+1)*wd:=by rw[dt,gy]
   _<=n*wd:=bp _ hi
 have G:(cut xs (i*wd) wd).length=wd:=by simp[cut];omega
 rw[GU _ _ _ (by omega),GU _ _ _ (by rw[G];exact J)];apply iu;intro j;simp only[cut,gh,fe,gz,ic,ay,co];by_cases I:j<wd
 ·rw[ab I];by_cases M:j<sub
  ·rw[ab,ab,ab,ab,ab,ab M,ab I]
  ·by_cases O:j<sub+E.length
   ·rw[ab,aa,ab,aa];congr 1;omega
   ·rw[aa,aa,ab];congr 1;omega
 ·rw[aa I,aa];rw[aa]
theorem Zk2 {α:Type} (xs J:List α) (i j wd sub n:Nat) (hi:i<n) (I:j≠i) (M:xs.length=n*wd) (N:sub+J.length<=wd):
  cut (splice xs (i*wd+sub) J) (j*wd) wd=cut xs (j*wd) wd:=by
 have hle:i*wd+wd<=n*wd:=by
  calc i*wd+wd=(i+1)*wd:=by rw[dt,gy]
   _<=n*wd:=bp _ hi
 rw[GU _ _ _ (by omega)];have E:j*wd+wd<=i*wd\/i*wd+wd<=j*wd:=by
  rcases Nat.lt_or_gt_of_ne I with h|h
  ·left
   calc j*wd+wd=(j+1)*wd:=by rw[dt,gy]
    _<=i*wd:=bp _ h
  ·right
   calc i*wd+wd=(i+1)*wd:=by rw[dt,gy]
    _<=j*wd:=bp _ h
 apply iu;intro k;simp only[cut,gh,fe,gz,ic,ay];by_cases G:k<wd
 ·rw[ab G,ab G];rcases E with h|h
  ·rw[ab,ab,ab]
  ·rw[aa];congr 1;omega
 ·rw[aa G,aa G]
theorem Z9c {o:Oper} {a:Act} {f:FuncId} {xs:List Value} {next:Act->World->Prop} {Q:Exit->Act->World->Prop} (E:QW P f) (he:execOp a.eval o=callFunc f xs.toArray)
  (h:Calls P f xs.toArray w λe w'=>∃x,e= .returned x/\next (a.put o.dst x) w'):o.wp P a w next Q:=by
 obtain⟨N,G,I,J⟩:=E;unfold Oper.wp;have:(execOp a.eval o).run P w= .ok (.enter f xs.toArray) w:=by
  rw[he];simp only[callFunc,Sem.run_bind,run_program,dh,G];rw[aa (by rw[I];simp),aa (by rw[J];simp)];rfl
 rw[this,Oper.upon_enter];refine h.mono λe w' ⟨x,he,M⟩=> ?_;subst he;exact M
theorem UV {o:Oper} {a:Act} {f:FuncId} {xs:List Value} {next:Act->World->Prop} {Q:Exit->Act->World->Prop} (he:execOp a.eval o=callFunc f xs.toArray)
  (h:CallsX P f xs.toArray w λe w'=>∃x,e= .returned x/\next (a.put o.dst x) w'):o.wp P a w next Q:=by
 rcases h with⟨G,E⟩|⟨x,w',G,y,E,I⟩
 ·exact Z9c G he E
 ·simp only[Ending.returned.injEq]at E;subst E;unfold Oper.wp;rw[he,G];exact I
theorem Ia {o:Oper} {a:Act} {x:Value} {w':World} {next:Act->World->Prop} {Q:Exit->Act->World->Prop} (he:(execOp a.eval o).run P w= .ok (.value x) w') (h:next (a.put o.dst x) w'):o.wp P a w next Q:=by
 unfold Oper.wp;rw[he];exact h
theorem Zbq {o:Oper} {a:Act} {w':World} {next:Act->World->Prop} {Q:Exit->Act->World->Prop} (he:(execOp a.eval o).run P w= .ok .skip w') (h:next (a.put o.dst undef) w'):o.wp P a w next Q:=by
 unfold Oper.wp;rw[he];exact h
theorem CL.one {l:List AC} {xs:List Value} (h:CL (CC ρ w) l xs):∀v∈xs,v.oneCell'=true:=by
 induction l generalizing xs with
 |nil=>cases xs<;>first|(intro v E;simp at E;done)|exact h.elim
 |cons a l G=>
  cases xs with
  |nil=>exact h.elim
  |cons y xs=>
   intro v E;simp only[av]at E;rcases E with rfl|E
   ·exact h.1.one
   ·exact G h.2 v E
theorem CL.oneP {im:Nat->Prop} {l:List AC} {xs:List Value} (h:CL (CP im w) l xs):∀v∈xs,v.oneCell'=true:=by
 induction l generalizing xs with
 |nil=>cases xs<;>first|(intro v E;simp at E;done)|exact h.elim
 |cons a l G=>
  cases xs with
  |nil=>exact h.elim
  |cons y xs=>
   intro v E;simp only[av]at E;rcases E with rfl|E
   ·exact h.1.one
   ·exact G h.2 v E
theorem RowC.one {im:Nat->Prop} {ks:List Kd} {l:List (List AC)} {xs:List Value} (h:RowC im w ks l xs) (E:0<ks.length):∀v∈xs,v.oneCell'=true:=by
 intro v J;obtain⟨j,G,rfl⟩:=List.getElem_of_mem J;have I:j/ks.length<l.length:=by rw[fh E];rw[h.1]at G;exact G
 have M:j%ks.length<ks.length:=ia _ E;refine(h.2.2 (j/ks.length) _ (ai I)).oneP _ ?_;have:(cut xs (j/ks.length*ks.length) ks.length)[j%ks.length]? =some xs[j]:=by
  simp only[cut,gh,M,dz,fe];rw[show j/ks.length*ks.length+j%ks.length=j from by rw[fg];exact gv j ks.length];exact ai G
 exact cq this
theorem RowC.append {im:Nat->Prop} {ks:List Kd} {l m:List (List AC)} {xs E:List Value} (h:RowC im w ks l xs) (h':RowC im w ks m E):
  RowC im w ks (l++m) (xs++E):=by
 refine⟨by rw[ay,h.1,h'.1,ay,dt],λc G=> ?_,λi c hi=> ?_⟩
 ·rcases bq.1 G with G|G
  ·exact h.2.1 c G
  ·exact h'.2.1 c G
 ·by_cases I:i<l.length
  ·rw[kj I]at hi;have hle:i*ks.length+ks.length<=l.length*ks.length:=by
    calc i*ks.length+ks.length=(i+1)*ks.length:=by rw[dt,gy]
     _<=l.length*ks.length:=bp _ I
   have:cut (xs++E) (i*ks.length) ks.length=cut xs (i*ks.length) ks.length:=by
    have:=h.1;simp only[cut];rw[jy (by omega),List.take_append_of_le_length (by rw[co];omega)]
   rw[this];exact h.2.2 i c hi
  ·rw[List.getElem?_append_right (by omega)]at hi;have:cut (xs++E) (i*ks.length) ks.length=cut E ((i-l.length)*ks.length) ks.length:=by
    have J:=h.1;simp only[cut];rw[List.drop_append,kq (by rw[J];exact bp _ (by omega)),bf,J,<-Nat.sub_mul]
   rw[this];exact h'.2.2 (i-l.length) c hi
theorem Z1r {t ty e:TypeId} {i:TypeInfo} (N:P.underlying t=some (.slice e)) (hi:P.info? e=some i)
  {b off sLen sCap:Nat} {cur:Array Value} {M:TypeId} (hb:w.heap[b]? =some (.cells cur M (0,0))) {a:Addr} {m c:Nat} {news:List Value} (O:news.length=m*i.size) (E:∀j u,news[j]? =some u->w.cell? (a.add j)=some u) (S:∀u∈news,u.oneCell'=true)
  (G:sLen+m<=sCap) (hle:off+sLen*i.size+news.length<=cur.size):
  (Builtin.append_ #[t,t] ty #[.slice (some ⟨b,off,none⟩) sLen sCap, .slice (some a) m c]).run P w= .ok (.slice (some ⟨b,off,none⟩) (sLen+m) sCap) (w.setRow b (splice cur.toList (off+sLen*i.size) news).toArray):=by
 have J:=run_firstCells_some (P:=P) w i.size m a m c news O E;have I:=run_storeCells_at P b (off+sLen*i.size) M news 0 cur w hb (by simpa using hle) S;simp only[jv]at I;rw[GU _ _ _ (by simpa using hle)];simp[Builtin.append_,run_underlying N,sizeOf,typeInfo,hi,Builtin.lenOf,G,J,Addr.add_lit,I]
theorem Qy9 {t ty e:TypeId} {i:TypeInfo} {z:Value} {size:Nat} (U:P.underlying t=some (.slice e)) (hi:P.info? e=some i) (hz:i.zero=some z)
  (G:i.size=size) (X:z.cells.size=size) (Y:0<size)
  {v:Value} {n:Nat} {xs:List Value} (E:E1 w e size v n xs)
  {ad:Option Addr} {m c:Nat} {news:List Value} (J:news.length=m*size) (M:m=0\/∃a,ad=some a/\∀j u,news[j]? =some u->w.cell? (a.add j)=some u) (h1:∀u∈news,u.oneCell'=true)
  (O:n+m<=maxLen) (I:(n+m)*i.bytes<=140737488355328):
  ∃N w',(Builtin.append_ #[t,t] ty #[v, .slice ad m c]).run P w= .ok N w'/\E1 w' e size N (n+m) (xs++news)/\w.grownBy w' v.ownBlock/\(N.ownBlock=v.ownBlock\/N.ownBlock=some w.heap.size):=by
 cases ad with
 |some a=>
  have V:∀j u,news[j]? =some u->w.cell? (a.add j)=some u:=by
   rcases M with rfl|⟨a',a0,hh⟩
   ·have:news=[]:=f7 (by simpa using J);subst this;intro j u h;simp at h
   ·simp at a0;subst a0;exact hh
  rcases E.2 with⟨rfl,rfl⟩|⟨g,o,cap,cur,rfl,e3,e4,e5,e6,e7⟩
  ·have hx:xs=[]:=f7 (by simpa using E.1);subst hx;obtain⟨N,w',q1,q2,S,_,q5⟩:=run_append_own_at (P:=P) w 0 t ty e i z size i.bytes U hi hz G rfl X Y (.slice none 0 0) 0 [] (World.ownsRow_nil w 0 e size) a m c news J V h1 O I (i6 _);exact⟨N,w',q1,Zdk q2,S,q5⟩
  ·by_cases hr:n+m<=cap
   ·subst G;have a4:n*i.size+m*i.size<=cap*i.size:=by rw[<-dt];exact bp _ hr
    have q:=Z1r (P:=P) (ty:=ty) (off:=o) (sLen:=n) (sCap:=cap) (c:=c) U hi e3 J V h1 hr (by rw[J];omega);have a1:=L9 cur.toList (o+n*i.size) news;refine⟨_,_,q,⟨by rw[ay,E.1,J,dt], .inr ⟨g,o,cap,_,rfl,setRow_heap w g cur _ e _ e3,hr,e5,by simp only[List.size_toArray];rw[a1,dy];exact e6,?_⟩⟩,⟨rfl,rfl,rfl,by simp,λk hk a2=>setRow_other w g k _ (λe=>a2 (by rw[e];rfl))⟩, .inl rfl⟩;have hL:o+n*i.size+news.length<=cur.toList.length:=by rw[J,dy];omega
    show((splice cur.toList (o+n*i.size) news).toArray.toList.drop o).take ((n+m)*i.size)=xs++news;simp only[List.toList_toArray];rw[GU _ _ _ hL,fq,jy (by simp;omega),List.drop_take,show o+n*i.size-o=n*i.size from by omega,e7,<-fq];rw[List.take_append_of_le_length (by rw[ay,E.1,J,dt];omega),i8 (by rw[ay,E.1,J,dt];omega)]
   ·obtain ⟨N, w', q1, q2, S⟩ := run_append_arg_grows (P := P) w t ty e i z size i.bytes U hi hz G rfl X Y ⟨g, o, none⟩ n cap xs E.1 (λj u hj => by
     have:=Rj E (g:=g) rfl j u hj;rw[Addr.add_lit];exact this) a m c news J V (by omega) O I
    have T := run_append_grow (P := P) w t ty e i z U hi hz ⟨g, o, none⟩ n cap xs (by rw [G]; exact E.1) (λj u hj => by
     have:=Rj E (g:=g) rfl j u hj;rw[Addr.add_lit];exact this) a m c news (by rw[G];exact J) V (by omega) (by simp only[maxLen]at O;omega) (growslice_fits (by omega) I)
    rw[q1]at T;simp only[Result.ok.injEq]at T;refine⟨N,w',q1,Zdk q2,⟨S.os,S.tape,S.output,S.size,λk hk _=>S.block k hk (by simp)⟩, .inr ?_⟩;rw[T.1];rfl
 |none=>
  have hm:m=0:=by
   rcases M with h|⟨_,h,_⟩
   ·exact h
   ·simp at h
  subst hm;have V:news=[]:=f7 (by simpa using J);subst V;refine⟨v,w,?_,by simpa using E,⟨rfl,rfl,rfl,db _,λ_ _ _=>rfl⟩, .inl rfl⟩;rcases E.2 with⟨rfl,rfl⟩|⟨g,o,cap,cur,rfl,_,a3,_⟩
  ·simp[Builtin.append_,run_underlying U,sizeOf,typeInfo,hi,Builtin.lenOf,Builtin.firstCells]
  ·simp[Builtin.append_,run_underlying U,sizeOf,typeInfo,hi,Builtin.lenOf,Builtin.firstCells,a3,storeCells]
theorem Zew (h:RelE Z tm aB aC ρ tmps w) {ks:List Kd} {a:AC} {x:Value} {m:List (List AC)} (E:Hy aC ks a=some m) (G:CC ρ w a x):
  ∃I c news,x= .slice I m.length c/\RowC ρ.im w ks m news/\(m.length=0\/∃a,I=some a/\∀j u,news[j]? =some u->w.cell? (a.add j)=some u):=by
 unfold Hy at E;split at E
 ·simp at E;subst E;simp only[CC,CP]at G;subst G;exact⟨none,0,[],rfl,⟨by simp,by simp,λi c hi=>by simp at hi⟩, .inl rfl⟩
 ·rename_i J l;cases hb:Ds ks J<;>rw[hb]at E
  ·simp at E
  ·simp at E;subst E;have:=J_ hb;subst this;simp only[CC,CP]at G;obtain⟨I,cap,rfl,hle,hk,hf⟩:=G;rcases hf with rfl|⟨b,o,rfl,_,M⟩
   ·exact⟨I,cap,[],rfl,⟨by simp,by simp,λi c hi=>by simp at hi⟩, .inl rfl⟩
   ·obtain⟨ys,T,U⟩:=Zyl l hk M;refine⟨_,cap,ys,rfl,T, .inr ⟨_,rfl,λj u N=> ?_⟩⟩;rw[Addr.add_lit];exact U j u N
 ·rename_i id w' n;split at E
  ·rename_i r hr;cases hb:Ds ks r.ks<;>rw[hb]at E
   ·simp at E
   ·simp at E;subst E;have:=J_ hb;subst this;obtain⟨T,U,_,xs,V,X⟩:=h.ro id r hr;obtain⟨O,a0,a1⟩:=G;subst O;rcases V.2 with⟨e1,e2⟩|⟨Y,o,cap,cur,e1,e3,e4,e5,e6,e7⟩
    ·have S:r.l.length=0:=e2;exact⟨none,0,xs,by rw[e1,S],X, .inl e2⟩
    ·refine⟨some ⟨Y,o,none⟩,cap,xs,e1,X, .inr ⟨_,rfl,λj u N=> ?_⟩⟩;have:=Rj V (g:=Y) (by rw[e1];rfl) j u N;rw[e1]at this;rw[Addr.add_lit];exact this
  ·simp at E
 ·simp at E
theorem RelE.growIm {im':Nat->Prop} {w':World} (E:RelE Z tm aB aC ρ tmps w) (G:Below w.heap.size w w') (I:∀b,ρ.im b->im' b) (M:∀b,im' b->ρ.im b\/(w.heap.size<=b/\b<w'.heap.size)):
  RelE Z tm aB aC {ρ with im:=im'} tmps w':=by
 have hold:∀b,b<w.heap.size->w'.heap[b]? =w.heap[b]? :=λb hb=>G.block b hb;have S:∀(a:AC) (x:Value),CC ρ w a x->CC {ρ with im:=im'} w' a x:=λa x V=>CC.mono (ρ:=ρ) (ρ':={ρ with im:=im'}) I (λb hb=>hold b (E.ib b hb).1) a x (AC.agree_refl rfl rfl rfl a) V;refine⟨E.tl,λi v hi=>TVR.mono S v _ (E.tv i v hi),E.wt,E.wb,?_,E.bi,?_,E.ri,E.br,?_,E.fr.trans (Fr.of_below G E.fs),λk N=>gf (E.fs k N) G.size,λb hb=>I b (E.i0 b hb),λb hb=>(M b hb).elim (E.i1 b) λq=> .inr λhf=>absurd (E.fs b hf) (by omega),λk b N=>E.k0 k b N⟩
 ·intro k b N;obtain⟨arr,O,T,U⟩:=E.bx k b N;exact⟨arr,by rw[hold _ (PY O)];exact O,T.mono λa _ x V=>S a x V,U⟩
 ·intro id r0 J;obtain⟨O,T,q0,ys,U,q4⟩:=E.ro id r0 J;exact⟨O,T,q0,ys,Nw U λg hg=>hold g (E.rwlt J hg).2,q4.mono I (λb hb=>hold b (E.ib b hb).1)⟩
 ·intro b hb;rcases M b hb with X|⟨a0,Y⟩
  ·obtain⟨O,T,U⟩:=E.ib b X;exact⟨gf O G.size,T,U⟩
  ·exact⟨Y,λk bo N e=>by have:=E.bxlt N;have e':ρ.bx k=b:=e;omega,λid r0 J e=>by have e':(ρ.rv id).ownBlock=some b:=e;have:=(E.rwlt J e').2;omega⟩
end
open Go.RowKit
section
variable {P:Program} {C:Cfg} {ρ:Env} {w:World} {R:Type} {Z:Base} {tm:List TV} {aB:List (Nat×Box)} {aC:List (Nat×Row)} {tmps:Array Value}
def AC.nmP (Kp:Nat->Prop):AC->Prop
 | .ptr k _=>Kp k
 |_=>True
def AC.nm (Kp E:Nat->Prop):AC->Prop
 | .ptr k _=>Kp k
 | .bsl k _=>Kp k
 | .own id _ _=>E id
 | .rptr id _ _=>E id
 | .clo _ fs cs=>(∀a∈fs,AC.nmP Kp a)/\∀a∈cs,AC.nmP Kp a
 |_=>True
def TV.nm (Kp E:Nat->Prop):TV->Prop
 | .v _ cs=>∀a∈cs,AC.nm Kp E a
 | .tup ps=>∀p∈ps,∀a∈p.2,AC.nm Kp E a
 | .dead=>True
theorem AC.nm_of_inK {keys ids:List Nat} {a:AC} (h:AC.inK keys ids a=true):a.nm (· ∈keys) (· ∈ids):=by
 have E:∀l:List AC,Al (AC.inK.inP keys) l=true->∀a∈l,AC.nmP (· ∈keys) a:=by
  intro l G a I;have:=AD.1 G a I;cases a<;>first|trivial|exact Fy.1 this
 cases a with
 |ptr k o=>exact Fy.1 h
 |bsl k o=>exact Fy.1 h
 |own id w n=>exact Fy.1 h
 |rptr id i s=>exact Fy.1 h
 |clo f fs cs=>
  simp only[AC.inK,al]at h;exact⟨E fs h.1,E cs h.2⟩
 |_=>trivial
theorem TV.nm_of_inK {keys ids:List Nat} {v:TV} (h:TV.inK keys ids v=true):v.nm (· ∈keys) (· ∈ids):=by
 cases v with
 |dead=>trivial
 |v g cs=>exact λa E=>AC.nm_of_inK (AD.1 h a E)
 |tup ps=>exact λp G a E=>AC.nm_of_inK (AD.1 (AD.1 h p G) a E)
theorem AC.nm_of_wf {a:AC} (h:AC.wf aB aC a):a.nm (λk=>∃b,Ac aB k=some b) (λi=>∃r,Ac aC i=some r):=by
 have G:∀l:List AC,(∀a∈l,AC.wfP aB a)->∀a∈l,AC.nmP (λk=>∃b,Ac aB k=some b) a:=by
  intro l I a J;have:=I a J;cases a<;>first|trivial|exact this
 cases a with
 |ptr k o=>exact h
 |bsl k o=>exact h
 |own id w n=>obtain⟨r,E,_⟩:=h;exact⟨r,E⟩
 |rptr id i s=>obtain⟨r,E,_⟩:=h;exact⟨r,E⟩
 |clo f fs cs=>exact⟨G fs h.1,G cs h.2⟩
 |_=>trivial
theorem TV.nm_of_wf {v:TV} (h:TV.wf aB aC v):v.nm (λk=>∃b,Ac aB k=some b) (λi=>∃r,Ac aC i=some r):=by
 cases v with
 |dead=>trivial
 |v g cs=>exact λa E=>AC.nm_of_wf (h a E)
 |tup ps=>exact λp G a E=>AC.nm_of_wf (h p G a E)
theorem Qom {G I:Env} {Kp:Nat->Prop} {M:Nat->Nat} (hb:∀k,Kp k->I.bx (M k)=G.bx k) (hi:I.im=G.im):∀(l:List AC) (xs:List Value),(∀a∈l,AC.nmP Kp a)->CLc G w l xs->CLc I w (AC.ren.renP M l) xs
 |[],[],_,_=>trivial
 |a::l,x::xs,N,h=>by
  have O:=Qom hb hi l xs (λb hb=>N b (by simp[hb])) h.2;have E:=h.1;have J:=N a (by simp);cases a<;>simp only[AC.ren.renP]<;>refine⟨?_,O⟩<;>first
   |(simp only[CCc]at E⊢;rw[hb _ J];exact E)
   |(simp only[CCc]at E⊢;rw[hi];exact E)
 |[],_::_,_,h=>h.elim
 |_::_,[],_,h=>h.elim
theorem Qpw {G I:Env} {Kp M:Nat->Prop} {N ri:Nat->Nat} (hb:∀k,Kp k->I.bx (N k)=G.bx k) (J:∀i,M i->I.rv (ri i)=G.rv i/\I.wd (ri i)=G.wd i) (hi:I.im=G.im)
  {a:AC} {x:Value} (E:a.nm Kp M) (h:CC G w a x):CC I w (a.ren N ri) x:=by
 cases a with
 |ptr k o=>simp only[AC.ren,CC]at*;rw[hb k E];exact h
 |bsl k o=>simp only[AC.ren,CC]at*;rw[hb k E];exact h
 |own id w n=>simp only[AC.ren,CC]at*;rw[(J id E).1,(J id E).2];exact h
 |rptr id i s=>simp only[AC.ren,CC]at*;rw[(J id E).1,(J id E).2];exact h
 |vptr cs s=>simp only[AC.ren,CC]at*;rw[hi];exact h
 |clo f fs cs=>
  obtain⟨xs,O,S,T,U⟩:=h;exact⟨xs,O,S,Qom hb hi fs _ E.1 T,Qom hb hi cs _ E.2 U⟩
 |dead=>exact h
 |int=>simp only[AC.ren,CC]at*;rw[hi];exact h
 |bool=>simp only[AC.ren,CC]at*;rw[hi];exact h
 |raw=>simp only[AC.ren,CC]at*;rw[hi];exact h
 |nilSl=>simp only[AC.ren,CC]at*;rw[hi];exact h
 |vC=>simp only[AC.ren,CC]at*;rw[hi];exact h
theorem QY {E G:Env} {Kp Ip:Nat->Prop} {I ri:Nat->Nat} (hb:∀k,Kp k->G.bx (I k)=E.bx k) (J:∀i,Ip i->G.rv (ri i)=E.rv i/\G.wd (ri i)=E.wd i) (hi:G.im=E.im):
  ∀{l:List AC} {xs:List Value},(∀a∈l,a.nm Kp Ip)->CL (CC E w) l xs->CL (CC G w) (l.map (AC.ren I ri)) xs
 |[],[],_,h=>h
 |a::l,y::xs,M,h=>⟨Qpw hb J hi (M a (by simp)) h.1,QY hb J hi (λb hb=>M b (by simp[hb])) h.2⟩
 |[],_::_,_,h=>h.elim
 |_::_,[],_,h=>h.elim
theorem Zbg {G I:Env} {Kp Ip:Nat->Prop} {U ri:Nat->Nat} (hb:∀k,Kp k->I.bx (U k)=G.bx k) (M:∀i,Ip i->I.rv (ri i)=G.rv i/\I.wd (ri i)=G.wd i) (hi:I.im=G.im)
  {v:TV} {x:Value} (N:v.nm Kp Ip) (h:TVR G w v x):TVR I w (v.ren U ri) x:=by
 cases v with
 |dead=>trivial
 |v b cs=>
  cases b
  ·obtain⟨a,rfl,X⟩:=h;exact⟨_,rfl,Qpw hb M hi (N a (by simp)) X⟩
  ·obtain⟨O,rfl,E⟩:=h;exact⟨O,rfl,QY hb M hi N E⟩
 |tup ps=>
  obtain⟨O,rfl,E⟩:=h;refine⟨O,rfl,?_⟩;generalize O.toList=l at E;induction ps generalizing l with
  |nil=>cases l<;>first|exact E|exact E.elim
  |cons p ps Y=>
   cases l with
   |nil=>exact E.elim
   |cons y l=>
    obtain⟨b,cs⟩:=p;refine⟨?_,Y (λq hq=>N q (by simp[hq])) l E.2⟩;have V:=E.1;have J:=N (b,cs) (by simp);cases b
    ·obtain⟨a,S,T⟩:=V;subst S;exact⟨_,rfl,Qpw hb M hi (J a (by simp)) T⟩
    ·obtain⟨zs,S,T⟩:=V;exact⟨zs,S,QY hb M hi J T⟩
theorem Tg {b1 b2:List (Nat×Box)} {T U:List (Nat×Row)} {Kp Ip:Nat->Prop} {I ri:Nat->Nat} (hb:∀k,Kp k->(∃b,Ac b1 k=some b)->∃b,Ac b2 (I k)=some b)
  (V:∀i r,Ip i->Ac T i=some r->∃r',Ac U (ri i)=some r'/\r'.n=r.n/\r'.w=r.w) {a:AC} (E:a.nm Kp Ip) (h:AC.wf b1 T a):AC.wf b2 U (a.ren I ri):=by
 have X:∀l:List AC,(∀a∈l,AC.nmP Kp a)->(∀a∈l,AC.wfP b1 a)->∀a∈AC.ren.renP I l,AC.wfP b2 a:=by
  intro l;induction l with
  |nil=>intro _ _ a G;simp[AC.ren.renP]at G
  |cons c l ih=>
   intro E Y a G;have J:=ih (λb hb=>E b (by simp[hb])) (λb hb=>Y b (by simp[hb]));have h1:=E c (by simp);have h2:=Y c (by simp);cases c<;>simp only[AC.ren.renP,av]at G<;>rcases G with rfl|G<;>first
    |exact J a G
    |exact hb _ h1 h2
    |trivial
 cases a with
 |ptr k o=>exact hb k E h
 |bsl k o=>exact hb k E h
 |own id w n=>obtain⟨r,M,N,q3⟩:=h;obtain⟨r',O,S,p3⟩:=V id r E M;exact⟨r',O,by rw[S,N],by rw[p3,q3]⟩
 |rptr id i s=>obtain⟨r,M,N⟩:=h;obtain⟨r',O,S,p3⟩:=V id r E M;exact⟨r',O,by rw[S];exact N⟩
 |vptr=>exact h
 |clo f fs cs=>exact⟨X fs E.1 h.1,X cs E.2 h.2⟩
 |_=>trivial
theorem Q0x {b1 b2:List (Nat×Box)} {I J:List (Nat×Row)} {Kp Ip:Nat->Prop} {M ri:Nat->Nat} (hb:∀k,Kp k->(∃b,Ac b1 k=some b)->∃b,Ac b2 (M k)=some b)
  (N:∀i r,Ip i->Ac I i=some r->∃r',Ac J (ri i)=some r'/\r'.n=r.n/\r'.w=r.w) {v:TV} (O:v.nm Kp Ip) (h:TV.wf b1 I v):TV.wf b2 J (v.ren M ri):=by
 cases v with
 |dead=>trivial
 |v g cs=>
  intro a E;simp only[ba]at E;obtain⟨c,G,rfl⟩:=E;exact Tg hb N (O c G) (h c G)
 |tup ps=>
  intro p S a E;simp only[ba]at S;obtain⟨q,T,rfl⟩:=S;simp only[ba]at E;obtain⟨c,G,rfl⟩:=E;exact Tg hb N (O q T c G) (h q T c G)
theorem Je:∀{l:List Nat},BY l=true↔l.Nodup
 |[]=>by simp[BY]
 |k::l=>by
  simp only[BY,j5,<-Je (l:=l)];cases h:AW l k
  ·have: ¬k∈l:=λE=>by rw[Fy.2 E]at h;cases h
   simp[this]
  ·have:=Fy.1 h;simp[this]
theorem EE {l:List Nat} {n:Nat} (h:n∈l):pos l n<l.length/\nth 0 l (pos l n)=n:=by
 induction l with
 |nil=>simp at h
 |cons m l G=>
  simp only[pos];cases hb:Nat.beq m n
  ·have E:=Hk hb;have:n∈l:=by
    rcases av.1 h with e|e
    ·exact absurd e.symm E
    ·exact e
   obtain⟨J,I⟩:=G this;exact⟨by simp only[ao,bj];omega,by simp only[ao];exact I⟩
  ·exact⟨by simp,by simpa [nth]using ac hb⟩
theorem Zke {l:List Nat} {m n:Nat} (E:m∈l) (G:n∈l) (h:pos l m=pos l n):m=n:=by
 rw[<-(EE E).2,<-(EE G).2,h]
theorem IU {l:List Nat} (I:l.Nodup) {i:Nat} (hi:i<l.length):pos l (nth 0 l i)=i:=by
 induction l generalizing i with
 |nil=>simp at hi
 |cons m l J=>
  cases i with
  |zero=>simp[nth,pos]
  |succ i=>
   have E:i<l.length:=by simpa using hi
   have G:nth 0 l i∈l:=by
    rw[B7,List.getD,ai E];exact bn E
   rw[j5]at I;simp only[nth,pos];rw[KC (by rintro rfl;exact I.1 G)];simp only[ao];rw[J I.2 E]
theorem F0 {l:List Nat} {i:Nat} (hi:i<l.length):nth 0 l i∈l:=by
 rw[B7,List.getD,ai hi];exact bn hi
theorem L8 {I ri:Nat->Nat}:∀{keys:List Nat} {b:Nat} {E:List (Nat×Box)},Ef aB I ri b keys=some E->
  (∀i,i<keys.length->∃x,Ac aB (nth 0 keys i)=some x/\Ac E (b+i)=some ⟨x.ty,x.cells.map (AC.ren I ri)⟩)/\∀c x,Ac E c=some x->∃i,i<keys.length/\c=b+i
 |[],b,E,h=>by simp[Ef]at h;subst h;exact⟨λi hi=>by simp at hi,λc x h=>by simp[Ac]at h⟩
 |k::keys,b,E,h=>by
  simp only[Ef]at h;split at h
  ·rename_i x N;split at h
   ·rename_i l O;simp at h;subst h;obtain⟨S,T⟩:=L8 O;refine⟨λi hi=> ?_,λc y G=> ?_⟩
    ·cases i with
     |zero=>exact⟨x,N,by simp[Ac]⟩
     |succ i=>
      obtain⟨y,J,M⟩:=S i (by simpa using hi);refine⟨y,J,?_⟩;rw[show b+(i+1)=b+1+i from by omega];simp only[Ac];rw[KC (by omega)];exact M
    ·simp only[Ac]at G;cases hb:Nat.beq b c<;>rw[hb]at G
     ·obtain⟨i,J,M⟩:=T c y G;exact⟨i+1,by simp;omega,by omega⟩
     ·exact⟨0,by simp,(ac hb).symm⟩
   ·simp at h
  ·simp at h
theorem Qqj:∀{keys:List Nat} {b:Nat} {E:List (Nat×Row)},GS aC b keys=some E->
  (∀i,i<keys.length->∃x,Ac aC (nth 0 keys i)=some x/\Ac E (b+i)=some x)/\∀c x,Ac E c=some x->∃i,i<keys.length/\c=b+i
 |[],b,E,h=>by simp[GS]at h;subst h;exact⟨λi hi=>by simp at hi,λc x h=>by simp[Ac]at h⟩
 |k::keys,b,E,h=>by
  simp only[GS]at h;split at h
  ·rename_i x M;split at h
   ·rename_i l N;simp at h;subst h;obtain⟨O,S⟩:=Qqj N;refine⟨λi hi=> ?_,λc y G=> ?_⟩
    ·cases i with
     |zero=>exact⟨x,M,by simp[Ac]⟩
     |succ i=>
      obtain⟨y,I,J⟩:=O i (by simpa using hi);refine⟨y,I,?_⟩;rw[show b+(i+1)=b+1+i from by omega];simp only[Ac];rw[KC (by omega)];exact J
    ·simp only[Ac]at G;cases hb:Nat.beq b c<;>rw[hb]at G
     ·obtain⟨i,I,J⟩:=S c y G;exact⟨i+1,by simp;omega,by omega⟩
     ·exact⟨0,by simp,(ac hb).symm⟩
   ·simp at h
  ·simp at h
def If {α β:Type} (E:Nat->Nat) (g:α->β):List (Nat×α)->List (Nat×β)->List (Nat×β)
 |[],l=>l
 |(k,b)::m,l=>If E g m (ins l (E k) (g b))
theorem Yi (E ri:Nat->Nat):∀(m:List (Nat×Box)) (l:List (Nat×Box)),Nj E ri m l=If E (λb=>⟨b.ty,b.cells.map (AC.ren E ri)⟩) m l
 |[],_=>rfl
 |(_,_)::m,_=>by simp only[Nj,If];exact Yi E ri m _
theorem Qtw (ri:Nat->Nat):∀(m:List (Nat×Row)) (l:List (Nat×Row)),Ko ri m l=If ri (λb=>b) m l
 |[],_=>rfl
 |(_,_)::m,_=>by simp only[Ko,If];exact Qtw ri m _
theorem TT {α β:Type} {rk:Nat->Nat} {g:α->β}:∀{m:List (Nat×α)} {l:List (Nat×β)},(m.map (·.1)).Nodup->(∀k∈m.map (·.1),∀j∈m.map (·.1),rk k=rk j->k=j)->(∀k∈m.map (·.1),Ac l (rk k)=none)->
  (∀k b,Ac m k=some b->Ac (If rk g m l) (rk k)=some (g b))/\(∀n,(∀k∈m.map (·.1),n≠rk k)->Ac (If rk g m l) n=Ac l n)
 |[],l,_,_,_=>⟨λk b h=>by simp[Ac]at h,λn _=>rfl⟩
 |(j,c)::m,l,J,hi,M=>by
  simp only[bt,j5]at J;have G:∀k∈m.map (·.1),rk k≠rk j:=λk E e=>J.1 (by have:=hi k (by simp at E⊢;exact .inr E) j (by simp) e;rw[<-this];exact E);obtain ⟨S, N⟩ := TT (rk := rk) (g := g) (m := m) (l := ins l (rk j) (g c)) J.2 (λk E q O => hi k (by simp at E ⊢; exact .inr E) q (by simp at O ⊢; exact .inr O)) (λk E => by
   rw[Ec _ _ _ _ (G k E)];exact M k (by simp at E⊢;exact .inr E))
  have T:Ac (ins l (rk j) (g c)) (rk j)=some (g c):=Fk _ _ _ (M j (by simp));refine⟨λk b E=> ?_,λn I=> ?_⟩
  ·simp only[Ac]at E;cases hb:Nat.beq j k<;>rw[hb]at E
   ·exact S k b E
   ·have:=ac hb;subst this;simp at E;subst E;simp only[If];rw[N (rk j) (λk E e=>G k E e.symm)];exact T
  ·simp only[If];rw[N n (λk E=>I k (by simp at E⊢;exact .inr E))];exact Ec _ _ _ _ (I j (by simp))
theorem Li {α:Type}:∀(ks:List Nat) (l:List (Nat×α)) (n:Nat),Ac (Ej ks l) n=if n∈ks then none else Ac l n
 |[],l,n=>by simp[Ej]
 |k::ks,l,n=>by
  simp only[Ej];rw[Li ks];by_cases h:n=k
  ·subst h;simp only[UL,av,true_or,dz];split<;>rfl
  ·rw[Mc _ _ _ h];simp[h]
theorem Mx {α:Type}:∀{l:List (Nat×α)} {k:Nat},k∈l.map (·.1)↔∃b,Ac l k=some b
 |[],k=>by simp[Ac]
 |(j,c)::l,k=>by
  simp only[bt,av,Ac];cases hb:Nat.beq j k
  ·simp only[ao,<-Mx (l:=l)];constructor
   ·rintro(e|e)
    ·exact absurd e.symm (Hk hb)
    ·exact e
   ·exact .inr
  ·simp[ac hb]
theorem JG {α:Type} {names:List Nat}:∀{l:List (Nat×α)} {k:Nat},k∈Bu names l↔k∈l.map (·.1)/\ ¬(base<=k/\k-base<names.length)
 |[],k=>by simp[Bu]
 |(j,c)::l,k=>by
  simp only[Bu,bt,av];cases hb:(Nat.ble base j&&Nat.blt (j-base) names.length)
  ·have I: ¬(base<=j/\j-base<names.length):=by
    rintro⟨G,E⟩;have e1:=gw G;have e2:Nat.blt (j-base) names.length=true:=gw E;rw[e1,e2]at hb;cases hb
   simp only[ao,av,JG (l:=l)];constructor
   ·rintro(rfl|⟨G,E⟩)
    ·exact⟨.inl rfl,I⟩
    ·exact⟨.inr G,E⟩
   ·rintro⟨rfl|G,E⟩
    ·exact .inl rfl
    ·exact .inr ⟨G,E⟩
  ·simp only[al]at hb;have I:base<=j/\j-base<names.length:=⟨bc hb.1,bc hb.2⟩;simp only[aj,JG (l:=l)];constructor
   ·rintro⟨G,E⟩;exact⟨.inr G,E⟩
   ·rintro⟨rfl|G,E⟩
    ·exact absurd I E
    ·exact⟨G,E⟩
theorem Ni {names fresh:List Nat} {d k:Nat} (h:base<=k/\k-base<names.length):BX names fresh d k=nth 0 names (k-base):=by
 unfold BX;rw[gw h.1,show Nat.blt (k-base) names.length=true from gw h.2];rfl
theorem Q9e {names fresh:List Nat} {d k:Nat} (h: ¬(base<=k/\k-base<names.length)):BX names fresh d k=100000+100*d+pos fresh k:=by
 unfold BX;have:(Nat.ble base k&&Nat.blt (k-base) names.length)=false:=by
  apply Bool.eq_false_iff.2;intro hb;simp only[al]at hb;exact h ⟨bc hb.1,bc hb.2⟩
 rw[this];rfl
theorem Q6y {α β:Type} {names:List Nat} {d:Nat} {J:List (Nat×α)} {l:List (Nat×β)} (M:names.Nodup) (N:∀k∈names,∃b,Ac l k=some b)
  (hf:∀k∈Bu names J,Ac l (BX names (Bu names J) d k)=none):
  ∀k∈J.map (·.1),∀j∈J.map (·.1),BX names (Bu names J) d k=BX names (Bu names J) d j->k=j:=by
 intro k O j S he;by_cases E:base<=k/\k-base<names.length<;>by_cases G:base<=j/\j-base<names.length
 ·rw[Ni E,Ni G]at he;have:=ii (pos names) he;rw[IU M E.2,IU M G.2]at this;omega
 ·have I:=hf j (JG.2 ⟨S,G⟩);rw[<-he,Ni E]at I;obtain⟨b,hb⟩:=N _ (F0 E.2);rw[hb]at I;cases I
 ·have I:=hf k (JG.2 ⟨O,E⟩);rw[he,Ni G]at I;obtain⟨b,hb⟩:=N _ (F0 G.2);rw[hb]at I;cases I
 ·rw[Q9e E,Q9e G]at he;exact Zke (JG.2 ⟨O,E⟩) (JG.2 ⟨S,G⟩) (by omega)
noncomputable def LQ {α:Type} (m:List (Nat×α)) (E:Nat->Nat) (n:Nat):Option Nat:= @dite _ (∃k∈m.map (·.1),E k=n) (Classical.propDecidable _) (λh=>some (Classical.choose h)) (λ_=>none)
theorem Q1u {α:Type} {m:List (Nat×α)} {E:Nat->Nat} (G:∀k∈m.map (·.1),∀j∈m.map (·.1),E k=E j->k=j) {k:Nat} (I:k∈m.map (·.1)):LQ m E (E k)=some k:=by
 unfold LQ;have h:∃j∈m.map (·.1),E j=E k:=⟨k,I,rfl⟩;rw[dif_pos h];have:=fm h;rw[G _ this.1 k I this.2]
theorem Q0k {α:Type} {m:List (Nat×α)} {E:Nat->Nat} {n:Nat} (h:∀k∈m.map (·.1),n≠E k):LQ m E n=none:=by
 unfold LQ;rw[dif_neg];rintro⟨k,G,he⟩;exact h k G he.symm
theorem Zcr:∀(ids:List Nat) {v:TV} {x:Value},TVR ρ w v x->TVR ρ w (H4 ids v) x
 |[],_,_,h=>h
 |_::l,_,_,h=>Zcr l (TV.kill_TVR h)
theorem Za7:∀(ids:List Nat) {v:TV},TV.wf aB aC v->TV.wf aB aC (H4 ids v)
 |[],_,h=>h
 |_::l,_,h=>Za7 l (TV.kill_wf h)
theorem Qnl {id j:Nat} {a:AC} (h:AC.free j a):AC.free j (a.kill id):=by
 cases a with
 |own i w n=>simp only[AC.kill];cases Nat.beq i id<;>first|exact h|trivial
 |rptr i n s=>simp only[AC.kill];cases Nat.beq i id<;>first|exact h|trivial
 |_=>trivial
theorem Z95 {id j:Nat} {v:TV} (h:TV.free j v):TV.free j (v.kill id):=by
 cases v with
 |v g cs=>
  intro a E;simp only[ba]at E;obtain⟨b,hb,rfl⟩:=E;exact Qnl (h b hb)
 |tup ps=>
  intro p G a E;simp only[ba]at G;obtain⟨q,I,rfl⟩:=G;simp only[ba]at E;obtain⟨b,hb,rfl⟩:=E;exact Qnl (h q I b hb)
 |dead=>trivial
theorem Qxo {j:Nat}:∀(ids:List Nat) {v:TV},TV.free j v->TV.free j (H4 ids v)
 |[],_,h=>h
 |_::l,_,h=>Qxo l (Z95 h)
theorem Q82:∀(ids:List Nat) (v:TV),∀id∈ids,TV.free id (H4 ids v)
 |[],_,id,h=>by simp at h
 |i::l,v,id,h=>by
  simp only[av]at h;by_cases e:id∈l
  ·exact Q82 l (v.kill i) id e
  ·have:id=i:=h.resolve_right e;subst this;exact Qxo l (TV.kill_free id v)
theorem Q5s:∀(ids:List Nat) (b:Box),(Eb ids b).ty=b.ty
 |[],_=>rfl
 |_::l,b=>by rw[Eb,Q5s l];rfl
theorem Q86:∀(ids:List Nat) {b:Box} {xs:List Value},CL (CC ρ w) b.cells xs->CL (CC ρ w) (Eb ids b).cells xs
 |[],_,_,h=>h
 |i::l,b,_,h=>Q86 l (b:=b.kill i) h.kill
theorem Q8m:∀(ids:List Nat) {b:Box},(∀a∈b.cells,AC.wf aB aC a)->∀a∈(Eb ids b).cells,AC.wf aB aC a
 |[],_,h=>h
 | i :: l, b, h => Q8m l (b := b.kill i) (λa E => by
  simp only[Box.kill,ba]at E;obtain⟨c,G,rfl⟩:=E;exact AC.kill_wf (h c G))
theorem Qzz {j:Nat}:∀(ids:List Nat) {b:Box},(∀a∈b.cells,AC.free j a)->∀a∈(Eb ids b).cells,AC.free j a
 |[],_,h=>h
 | i :: l, b, h => Qzz l (b := b.kill i) (λa E => by
  simp only[Box.kill,ba]at E;obtain⟨c,G,rfl⟩:=E;exact Qnl (h c G))
theorem Q2v:∀(ids:List Nat) (b:Box),∀id∈ids,∀a∈(Eb ids b).cells,AC.free id a
 |[],_,id,h=>by simp at h
 |i::l,b,id,h=>by
  simp only[av]at h;by_cases e:id∈l
  ·exact Q2v l (b.kill i) id e
  ·have:id=i:=h.resolve_right e;subst this;exact Qzz l (b := b.kill id) (λa E => by
    simp only[Box.kill,ba]at E;obtain⟨c,G,rfl⟩:=E;exact AC.kill_free id c)
end
open Go.RowKit
section
variable {P:Program} {C:Cfg} {ρ:Env} {w:World} {R:Type} {Z:Base} {tm:List TV} {aB:List (Nat×Box)} {aC:List (Nat×Row)} {tmps:Array Value}
theorem Q27 {k:Nat} {b:Box} (h:Ac aB k=some b):E4 aB k=b.cells:=by unfold E4;rw[h]
def JO (ρ:Env) (keys ids:List Nat):Env:=⟨λc=>ρ.bx (nth 0 keys (c-base)),λc=>ρ.rv (nth 0 ids (c-base)),λc=>ρ.wd (nth 0 ids (c-base)),ρ.im⟩
def Lc (w:World) (ρ:Env) (keys ids:List Nat):Nat->Prop:=λb=>b<w.heap.size/\(∀k∈keys,ρ.bx k≠b)/\∀id∈ids,(ρ.rv id).ownBlock≠some b
theorem Qru (O:RelE Z tm aB aC ρ tmps w) {args:List TV} {xs:List Value} (h1:xs.length=args.length)
  (h2:∀(i:Nat) (a:TV) (x:Value),args[i]? =some a->xs[i]? =some x->TVR ρ w a x) (a6:∀v∈args,TV.wf aB aC v) {keys ids:List Nat} (a0:keys.Nodup) (U:ids.Nodup)
  (a1:∀v∈args,TV.inK keys ids v=true) (V:∀k∈keys,Al (AC.inK keys ids) (E4 aB k)=true) {mb:List (Nat×Box)} {mr:List (Nat×Row)}
  (a7:Ef aB (λk=>base+pos keys k) (λi=>base+pos ids i) base keys=some mb) (a8:GS aC base ids=some mr):
  RelE (FA (Lc w ρ keys ids) w (JO ρ keys ids) mb) (args.map (TV.ren (λk=>base+pos keys k) (λi=>base+pos ids i))) mb mr (JO ρ keys ids) xs.toArray w:=by
 obtain⟨b1,b2⟩:=L8 a7;obtain⟨r1,r2⟩:=Qqj a8;have eb:∀k,k∈keys->(JO ρ keys ids).bx (base+pos keys k)=ρ.bx k:=λk I=>by
  show ρ.bx (nth 0 keys (base+pos keys k-base))=_;rw[d7,(EE I).2]
 have er:∀i,i∈ids->(JO ρ keys ids).rv (base+pos ids i)=ρ.rv i/\(JO ρ keys ids).wd (base+pos ids i)=ρ.wd i:=λi hi=>by
  constructor
  ·show ρ.rv (nth 0 ids (base+pos ids i-base))=_;rw[d7,(EE hi).2]
  ·show ρ.wd (nth 0 ids (base+pos ids i-base))=_;rw[d7,(EE hi).2]
 have wb:∀k,k∈keys->(∃b,Ac aB k=some b)->∃b,Ac mb (base+pos keys k)=some b:=λk I _=>by
  obtain⟨x,_,q⟩:=b1 (pos keys k) (EE I).1;exact⟨_,q⟩
 have wr:∀i r,i∈ids->Ac aC i=some r->∃r',Ac mr (base+pos ids i)=some r'/\r'.n=r.n/\r'.w=r.w:=λi r hi S=>by
  obtain⟨x,E,q⟩:=r1 (pos ids i) (EE hi).1;rw[(EE hi).2,S]at E;simp at E;subst E;exact⟨_,q,rfl,rfl⟩
 have Y:∀c x,Ac mb c=some x->∃i J,i<keys.length/\c=base+i/\Ac aB (nth 0 keys i)=some J/\x=⟨J.ty,J.cells.map (AC.ren (λk=>base+pos keys k) (λi=>base+pos ids i))⟩:=by
  intro c x N;obtain⟨i,hi,rfl⟩:=b2 c x N;obtain⟨J,E,M⟩:=b1 i hi;rw[N]at M;simp at M;exact⟨i,J,hi,rfl,E,M⟩
 have lr:∀c x,Ac mr c=some x->∃i,i<ids.length/\c=base+i/\Ac aC (nth 0 ids i)=some x:=by
  intro c x N;obtain⟨i,hi,rfl⟩:=r2 c x N;obtain⟨J,E,M⟩:=r1 i hi;rw[N]at M;simp at M;subst M;exact⟨i,hi,rfl,E⟩
 have xb:∀i,(JO ρ keys ids).bx (base+i)=ρ.bx (nth 0 keys i):=λi=>by
  show ρ.bx (nth 0 keys (base+i-base))=_;rw[d7]
 have xr:∀i,(JO ρ keys ids).rv (base+i)=ρ.rv (nth 0 ids i):=λi=>by
  show ρ.rv (nth 0 ids (base+i-base))=_;rw[d7]
 have xw:∀i,(JO ρ keys ids).wd (base+i)=ρ.wd (nth 0 ids i):=λi=>by
  show ρ.wd (nth 0 ids (base+i-base))=_;rw[d7]
 have a2:∀i j,i<keys.length->j<keys.length->nth 0 keys i=nth 0 keys j->i=j:=λi j hi X e=>by rw[<-IU a0 hi,<-IU a0 X,e]
 have a3:∀i j,i<ids.length->j<ids.length->nth 0 ids i=nth 0 ids j->i=j:=λi j hi X e=>by rw[<-IU U hi,<-IU U X,e]
 refine⟨by simp[h1],λi v hi=> ?_,λv hv=> ?_,λk b I a T=> ?_,λk b I=> ?_,λk k' b b' I a9 he=> ?_,λid r S=> ?_,λid id' r r' g S b0 hg a4=> ?_,λk b id r I S=> ?_,λb hb=>⟨(O.ib b hb).1,λk bo I=> ?_,λid r S=> ?_⟩,Fr.refl _ _,λk h=>h.1,λb h=>h,λb h=> .inl h,λk b I=> ?_⟩
 ·simp only[fo,cd]at hi;obtain⟨a,T,rfl⟩:=hi;have a5:i<xs.length:=by rw[h1];exact(fx.1 T).1
  have e:xs.toArray.getD i undef=xs[i]:=by simp[Array.getD,a5]
  rw[e];exact Zbg (Kp:=(· ∈keys)) (Ip:=(· ∈ids)) eb er rfl (TV.nm_of_inK (a1 a (cq T))) (h2 i a _ T (ai a5))
 ·simp only[ba]at hv;obtain⟨a,T,rfl⟩:=hv;exact Q0x (Kp:=(· ∈keys)) (Ip:=(· ∈ids)) wb wr (TV.nm_of_inK (a1 a T)) (a6 a T)
 ·obtain⟨i,J,hi,rfl,E,rfl⟩:=Y k b I;simp only[ba]at T;obtain⟨c,N,rfl⟩:=T;have G:=V _ (F0 hi);rw[Q27 E]at G;exact Tg (Kp:=(· ∈keys)) (Ip:=(· ∈ids)) wb wr (AC.nm_of_inK (AD.1 G c N)) (O.wb _ J E c N)
 ·obtain⟨i,J,hi,rfl,E,rfl⟩:=Y k b I;obtain⟨arr,p1,p2,p3⟩:=O.bx _ J E;have G:=V _ (F0 hi);rw[Q27 E]at G;refine⟨arr,by rw[xb];exact p1,QY (Kp:=(· ∈keys)) (Ip:=(· ∈ids)) eb er rfl (λc N=>AC.nm_of_inK (AD.1 G c N)) p2,?_⟩;rw[xb];exact λhf=>hf.2.1 _ (F0 hi) rfl
 ·obtain⟨i,J,hi,rfl,E,_⟩:=Y k b I;obtain⟨j,y0,X,rfl,M,_⟩:=Y k' b' a9;rw[xb,xb]at he;rw[a2 i j hi X (O.bi _ _ _ _ E M he)]
 ·obtain⟨i,hi,rfl,E⟩:=lr id r S;obtain⟨p1,p2,p0,ys,p3,p4⟩:=O.ro _ r E;exact⟨p1,by rw[xw];exact p2,λg hg hf=>hf.2.2 _ (F0 hi) (by rw[xr]at hg;exact hg),ys,by rw[xr];exact p3,p4⟩
 ·obtain⟨i,hi,rfl,E⟩:=lr id r S;obtain⟨j,X,rfl,M⟩:=lr id' r' b0;rw[xr]at hg a4;rw[a3 i j hi X (O.ri _ _ _ _ g E M hg a4)]
 ·obtain⟨i,J,hi,rfl,E,_⟩:=Y k b I;obtain⟨j,X,rfl,M⟩:=lr id r S;rw[xr,xb];exact O.br _ _ _ _ E M
 ·obtain⟨i,J,hi,rfl,E,_⟩:=Y k bo I;rw[xb];exact(O.ib b hb).2.1 _ _ E
 ·obtain⟨i,hi,rfl,E⟩:=lr id r S;rw[xr];exact(O.ib b hb).2.2 _ _ E
 ·simp only[FA,cd]at I;obtain⟨bo,b3,e⟩:=I;exact⟨e,bo,b3⟩
noncomputable def Fs (ρ G:Env) (I:List (Nat×Box)) (E:List (Nat×Row)) (J bi:Nat->Nat):Env:=
 ⟨λn=>match LQ I J n with|some k=>G.bx k|none=>ρ.bx n,λn=>match LQ E bi n with|some k=>G.rv k|none=>ρ.rv n,λn=>match LQ E bi n with|some k=>G.wd k|none=>ρ.wd n,G.im⟩
theorem Y6 (Y:RelE Z tm aB aC ρ tmps w) {keys ids:List Nat} (g0:keys.Nodup) (e5:ids.Nodup) {mb I:List (Nat×Box)} {mr J:List (Nat×Row)}
  (g1:Ef aB (λk=>base+pos keys k) (λi=>base+pos ids i) base keys=some mb) (g2:GS aC base ids=some mr) {v:TV} {x:Value} {ρ2:Env} {w':World}
  (O:RelE (FA (Lc w ρ keys ids) w (JO ρ keys ids) mb) [v] I J ρ2 #[x] w') {d:Nat}
  (a7:(I.map (·.1)).Nodup) (d1:(J.map (·.1)).Nodup) (e6:∀k∈Bu keys I,Ac aB (BX keys (Bu keys I) d k)=none) (e7:∀k∈Bu ids J,Ac aC (BX ids (Bu ids J) d k)=none):
  let V:=BX keys (Bu keys I) d
  let bi:=BX ids (Bu ids J) d
  RelE Z (tm.map (H4 ids)) (Nj V bi I ((Ej keys aB).map λp=>(p.1,Eb ids p.2))) (Ko bi J (Ej ids aC)) (Fs ρ ρ2 I J V bi) tmps w'/\
   TVR (Fs ρ ρ2 I J V bi) w' (v.ren V bi) x/\TV.wf (Nj V bi I ((Ej keys aB).map λp=>(p.1,Eb ids p.2))) (Ko bi J (Ej ids aC)) (v.ren V bi):=by
 intro V bi;obtain⟨b1,b2⟩:=L8 g1;obtain⟨r1,r2⟩:=Qqj g2;have b5:∀k∈keys,∃b,Ac aB k=some b:=λk T=>by
  obtain⟨x,q,_⟩:=b1 (pos keys k) (EE T).1;rw[(EE T).2]at q;exact⟨x,q⟩
 have b6:∀k∈ids,∃b,Ac aC k=some b:=λk T=>by
  obtain⟨x,q,_⟩:=r1 (pos ids k) (EE T).1;rw[(EE T).2]at q;exact⟨x,q⟩
 have c8:∀k∈I.map (·.1),∀j∈I.map (·.1),V k=V j->k=j:=Q6y g0 b5 e6;have c9:∀k∈J.map (·.1),∀j∈J.map (·.1),bi k=bi j->k=j:=Q6y e5 b6 e7
 have b7:∀i,i<keys.length->(∃b,Ac I (base+i)=some b)/\ρ2.bx (base+i)=ρ.bx (nth 0 keys i):=by
  intro i hi;obtain⟨x0,_,q⟩:=b1 i hi;obtain ⟨p1, bo, p2⟩ := O.k0 (base + i) (ρ.bx (nth 0 keys i)) (by
   simp only[FA,q,jl];show some (ρ.bx (nth 0 keys (base+i-base)))=_;rw[d7])
  exact⟨⟨bo,p2⟩,p1⟩
 have b8:∀i,i<keys.length->V (base+i)=nth 0 keys i:=λi hi=>by
  have:=Ni (names:=keys) (fresh:=Bu keys I) (d:=d) (k:=base+i) ⟨by omega,by omega⟩;rw[d7]at this;exact this
 have e8:∀i,i<ids.length->bi (base+i)=nth 0 ids i:=λi hi=>by
  have:=Ni (names:=ids) (fresh:=Bu ids J) (d:=d) (k:=base+i) ⟨by omega,by omega⟩;rw[d7]at this;exact this
 have e9:∀k∈I.map (·.1),(∃i,i<keys.length/\k=base+i/\V k=nth 0 keys i)\/(Ac aB (V k)=none):=by
  intro k T;by_cases hc:base<=k/\k-base<keys.length
  ·refine .inl ⟨k-base,hc.2,by omega,?_⟩;have:=b8 (k-base) hc.2;rw[show base+(k-base)=k from by omega]at this;exact this
  ·exact .inr (e6 k (JG.2 ⟨T,hc⟩))
 have f0:∀k∈J.map (·.1),(∃i,i<ids.length/\k=base+i/\bi k=nth 0 ids i)\/(Ac aC (bi k)=none):=by
  intro k T;by_cases hc:base<=k/\k-base<ids.length
  ·refine .inl ⟨k-base,hc.2,by omega,?_⟩;have:=e8 (k-base) hc.2;rw[show base+(k-base)=k from by omega]at this;exact this
  ·exact .inr (e7 k (JG.2 ⟨T,hc⟩))
 have f1:∀n b,Ac aB n=some b->n∉keys->∀k∈I.map (·.1),n≠V k:=by
  rintro n b S E k T rfl;rcases e9 k T with⟨i,hi,_,e⟩|e
  ·exact E (by rw[e];exact F0 hi)
  ·rw[S]at e;cases e
 have f2:∀n b,Ac aC n=some b->n∉ids->∀k∈J.map (·.1),n≠bi k:=by
  rintro n b S E k T rfl;rcases f0 k T with⟨i,hi,_,e⟩|e
  ·exact E (by rw[e];exact F0 hi)
  ·rw[S]at e;cases e
 have a1:∀k,(∃b,Ac I k=some b)->(Fs ρ ρ2 I J V bi).bx (V k)=ρ2.bx k:=λk T=>by
  simp only[Fs,Q1u c8 (Mx.2 T)]
 have a5:∀k,(∃b,Ac J k=some b)->(Fs ρ ρ2 I J V bi).rv (bi k)=ρ2.rv k/\(Fs ρ ρ2 I J V bi).wd (bi k)=ρ2.wd k:=λk T=>by
  constructor<;>simp only[Fs,Q1u c9 (Mx.2 T)]
 have a2:∀n,(∃b,Ac aB n=some b)->(Fs ρ ρ2 I J V bi).bx n=ρ.bx n:=by
  rintro n ⟨b,S⟩;by_cases E:n∈keys
  ·obtain⟨p1,p2⟩:=EE E;obtain⟨q1,q2⟩:=b7 _ p1;have:=a1 (base+pos keys n) q1;rw[b8 _ p1,p2,q2,p2]at this;exact this
  ·simp only[Fs,Q0k (f1 n b S E)]
 have a6:∀n,(∃b,Ac aC n=some b)->n∉ids->(Fs ρ ρ2 I J V bi).rv n=ρ.rv n/\(Fs ρ ρ2 I J V bi).wd n=ρ.wd n:=by
  rintro n ⟨b,S⟩ E;constructor<;>simp only[Fs,Q0k (f2 n b S E)]
 have g3:=O.fr.size;have b9:∀n b,Ac aB n=some b->n∉keys->Lc w ρ keys ids (ρ.bx n):=λn b S E=>
  ⟨Y.bxlt S,λk T e=>by obtain⟨b',a7⟩:=b5 k T;exact E (by rw[<-Y.bi k n b' b a7 S e];exact T),λid X=>by obtain⟨r,hr⟩:=b6 id X;exact Y.br n b id r S hr⟩
 have c0:∀n r g,Ac aC n=some r->n∉ids->(ρ.rv n).ownBlock=some g->Lc w ρ keys ids g:=λn r g S E hg=>
  ⟨(Y.rwlt S hg).2,λk T e=>by obtain⟨b',a7⟩:=b5 k T;exact Y.br k b' n r a7 S (by rw[hg,e]),λid X e=>by obtain⟨r',d1⟩:=b6 id X;exact E (by rw[<-Y.ri id n r' r g d1 S e hg];exact X)⟩
 have f3:∀b,ρ.im b->Lc w ρ keys ids b:=λb hb=>
  ⟨(Y.ib b hb).1,λk T=>by obtain⟨b',a7⟩:=b5 k T;exact(Y.ib b hb).2.1 k b' a7,λid X=>by obtain⟨r,hr⟩:=b6 id X;exact(Y.ib b hb).2.2 id r hr⟩
 have fz:∀b,Z.F b->Lc w ρ keys ids b:=λb hb=>
  ⟨Y.fs b hb,λk T e=>by obtain⟨b',a7⟩:=b5 k T;obtain⟨_,_,_,q⟩:=Y.bx k b' a7;exact q (e▸hb),λid X e=>by obtain⟨r,hr⟩:=b6 id X;exact(Y.rwlt hr e).1 hb⟩
 have hold:∀b,Lc w ρ keys ids b->w'.heap[b]? =w.heap[b]? :=λb hb=>O.fr.block b hb;have d2:∀b,ρ.im b->ρ2.im b:=λb hb=>O.i0 b hb;have c1:∀b,ρ2.im b->ρ.im b\/ ¬Lc w ρ keys ids b:=λb hb=>O.i1 b hb
 have g4:∀k∈I.map (·.1),Ac ((Ej keys aB).map λp=>(p.1,Eb ids p.2)) (V k)=none:=by
  intro k T;rw[GO (Eb ids),Li];rcases e9 k T with⟨i,hi,_,e⟩|e
  ·rw[ab (by rw[e];exact F0 hi)];rfl
  ·split
   ·rfl
   ·rw[e];rfl
 have g5:∀k∈J.map (·.1),Ac (Ej ids aC) (bi k)=none:=by
  intro k T;rw[Li];rcases f0 k T with⟨i,hi,_,e⟩|e
  ·rw[ab (by rw[e];exact F0 hi)]
  ·split
   ·rfl
   ·exact e
 obtain⟨c2,d3⟩:=TT (rk:=V) (g:=λb:Box=>(⟨b.ty,b.cells.map (AC.ren V bi)⟩:Box)) a7 c8 g4;obtain⟨c6,d4⟩:=TT (rk:=bi) (g:=λb:Row=>b) d1 c9 g5;rw[Yi,Qtw];generalize hB:If V (λb:Box=>(⟨b.ty,b.cells.map (AC.ren V bi)⟩:Box)) I ((Ej keys aB).map λp=>(p.1,Eb ids p.2))=B' at c2 d3⊢;generalize g8:If bi (λb:Row=>b) J (Ej ids aC)=R' at c6 d4⊢;have a0:∀n b,Ac B' n=some b->(∃k N,Ac I k=some N/\n=V k/\b=⟨N.ty,N.cells.map (AC.ren V bi)⟩)\/(n∉keys/\∃N,Ac aB n=some N/\b=Eb ids N):=by
  intro n b S;by_cases hc:∃k∈I.map (·.1),n=V k
  ·obtain⟨k,T,rfl⟩:=hc;obtain⟨N,c3⟩:=Mx.1 T;have:=c2 k N c3;rw[S]at this;simp at this;exact .inl ⟨k,N,c3,rfl,this⟩
  ·rw[d3 n (λk T e=>hc ⟨k,T,e⟩),GO (Eb ids),Li]at S;split at S
   ·simp at S
   ·rename_i E;simp only[cd]at S;obtain⟨N,G,h2⟩:=S;exact .inr ⟨E,N,G,h2.symm⟩
 have a3:∀n r,Ac R' n=some r->(∃k,Ac J k=some r/\n=bi k)\/(n∉ids/\Ac aC n=some r):=by
  intro n r S;by_cases hc:∃k∈J.map (·.1),n=bi k
  ·obtain⟨k,T,rfl⟩:=hc;obtain⟨N,c3⟩:=Mx.1 T;have:=c6 k N c3;rw[S]at this;simp at this;subst this;exact .inl ⟨k,c3,rfl⟩
  ·rw[d4 n (λk T e=>hc ⟨k,T,e⟩),Li]at S;split at S
   ·simp at S
   ·rename_i E;exact .inr ⟨E,S⟩
 have a8:∀n b,Ac aB n=some b->∃b',Ac B' n=some b':=by
  intro n b S;by_cases E:n∈keys
  ·obtain⟨p1,p2⟩:=EE E;obtain⟨⟨bo,q1⟩,_⟩:=b7 _ p1;have:=c2 _ bo q1;rw[b8 _ p1,p2]at this;exact⟨_,this⟩
  ·rw[d3 n (f1 n b S E),GO (Eb ids),Li,aa E,S];exact⟨_,rfl⟩
 have d0:∀n r,Ac aC n=some r->n∉ids->Ac R' n=some r:=by
  intro n r S E;rw[d4 n (f2 n r S E),Li,aa E,S]
 let Q:AC->Prop:=λa=>AC.wf aB aC a/\∀id∈ids,AC.free id a
 have c7:∀a,Q a->a.agree ρ (Fs ρ ρ2 I J V bi):=by
  rintro a ⟨U,hf⟩;have hp:∀l:List AC,(∀a∈l,AC.wfP aB a)->∀a∈l,a.agreeP ρ (Fs ρ ρ2 I J V bi):=by
   intro l hl c hc;have:=hl c hc;cases c<;>first|exact a2 _ this|trivial
  cases a with
  |ptr k o=>exact a2 k U
  |bsl k o=>exact a2 k U
  |own id _ _=>obtain⟨r,G,_⟩:=U;exact a6 id ⟨r,G⟩ (λhm=>hf id hm rfl)
  |rptr id _ _=>obtain⟨r,G,_⟩:=U;exact a6 id ⟨r,G⟩ (λhm=>hf id hm rfl)
  |clo f fs cs=>exact⟨hp fs U.1,hp cs U.2⟩
  |_=>trivial
 have f4:∀(a:AC) (y:Value),Q a->CC ρ w a y->CC (Fs ρ ρ2 I J V bi) w' a y:=λa y hq hy=>CC.mono (ρ':=Fs ρ ρ2 I J V bi) d2 (λb hb=>hold b (f3 b hb)) a y (c7 a hq) hy;have c4:∀a,Q a->AC.wf B' R' a:=by
  rintro a ⟨U,hf⟩;cases a with
  |ptr k o=>obtain⟨b,hb⟩:=U;exact a8 k b hb
  |bsl k o=>obtain⟨b,hb⟩:=U;exact a8 k b hb
  |own id _ _=>obtain⟨r,G,h2⟩:=U;exact⟨r,d0 id r G (λhm=>hf id hm rfl),h2⟩
  |rptr id _ _=>obtain⟨r,G,h2⟩:=U;exact⟨r,d0 id r G (λhm=>hf id hm rfl),h2⟩
  |vptr=>exact U
  |clo f fs cs=>exact⟨λc hc=>AC.wfP_mono a8 (U.1 c hc),λc hc=>AC.wfP_mono a8 (U.2 c hc)⟩
  |_=>trivial
 have d5:∀a,AC.wf I J a->AC.wf B' R' (a.ren V bi):=λa U=>
  Tg (Kp:=λk=>∃b,Ac I k=some b) (Ip:=λi=>∃r,Ac J i=some r) (λk _ ⟨b,hb⟩=>⟨_,c2 k b hb⟩) (λi r _ hr=>⟨r,c6 i r hr,rfl,rfl⟩) (AC.nm_of_wf U) U
 have g6:∀v∈tm.map (H4 ids),TV.wf aB aC v/\∀id∈ids,TV.free id v:=by
  intro v hv;simp only[ba]at hv;obtain⟨u,hu,rfl⟩:=hv;exact⟨Za7 ids (Y.wt u hu),λid X=>Q82 ids u id X⟩
 have f5:∀v∈tm.map (H4 ids),(match v with| .v _ cs=>∀a∈cs,Q a| .tup ps=>∀p∈ps,∀a∈p.2,Q a| .dead=>True):=by
  intro v hv;obtain⟨G,h2⟩:=g6 v hv;cases v with
  |dead=>trivial
  |v g cs=>exact λa U=>⟨G a U,λid X=>h2 id X a U⟩
  |tup ps=>exact λp hp a U=>⟨G p hp a U,λid X=>h2 id X p hp a U⟩
 have qB:∀n N,Ac aB n=some N->∀a∈(Eb ids N).cells,Q a:=λn N S a U=>⟨Q8m ids (Y.wb n N S) a U,λid X=>Q2v ids N id X a U⟩;have c5:TV.wf I J v:=O.wt v (by simp);refine⟨⟨by simpa using Y.tl,λi v hi=> ?_,λv hv=> ?_,λn b S a U=> ?_,λn b S=> ?_,λn n' b b' S e3 he=> ?_,λn r S=> ?_,λn n' r r' g S e3 hg a9=> ?_,λn b m r S hm=> ?_,λb hb=>⟨(O.ib b hb).1,λn bo S=> ?_,λn r S=> ?_⟩,?_,?_,λb hb=>d2 b (Y.i0 b hb),λb hb=> ?_,λk b T=> ?_⟩,?_,?_⟩
 ·have hv:=cq hi;simp only[fo,cd]at hi;obtain⟨u,hu,rfl⟩:=hi;exact TVR.mono2 f4 (f5 _ hv) (Zcr ids (Y.tv i u hu))
 ·have:=f5 v hv;cases v with
  |dead=>trivial
  |v g cs=>exact λa U=>c4 a (this a U)
  |tup ps=>exact λp hp a U=>c4 a (this p hp a U)
 ·rcases a0 n b S with⟨k,N,G,rfl,rfl⟩|⟨E,N,G,rfl⟩
  ·simp only[ba]at U;obtain⟨c,hc,rfl⟩:=U;exact d5 c (O.wb k N G c hc)
  ·exact c4 a (qB n N G a U)
 ·rcases a0 n b S with⟨k,N,G,rfl,rfl⟩|⟨E,N,G,rfl⟩
  ·obtain⟨arr,q1,q2,q3⟩:=O.bx k N G;refine⟨arr,by rw[a1 k ⟨N,G⟩];exact q1,QY (Kp:=λk=>∃b,Ac I k=some b) (Ip:=λi=>∃r,Ac J i=some r) a1 a5 rfl (λc hc=>AC.nm_of_wf (O.wb k N G c hc)) q2,?_⟩;rw[a1 k ⟨N,G⟩];exact λhf=>q3 (fz _ hf)
  ·obtain⟨arr,q1,q2,q3⟩:=Y.bx n N G;rw[a2 n ⟨N,G⟩];refine⟨arr,by rw[hold _ (b9 n N G E),Q5s];exact q1,?_,q3⟩;exact(Q86 ids q2).mono λa U y hy=>f4 a y (qB n N G a U) hy
 ·rcases a0 n b S with⟨k,N,G,rfl,_⟩|⟨E,N,G,_⟩<;>rcases a0 n' b' e3 with⟨k',b4,M,rfl,_⟩|⟨b3,b4,M,_⟩
  ·rw[a1 k ⟨N,G⟩,a1 k' ⟨b4,M⟩]at he;rw[O.bi k k' _ _ G M he]
  ·rw[a1 k ⟨N,G⟩,a2 n' ⟨b4,M⟩]at he;obtain⟨_,_,_,q3⟩:=O.bx k N G;exact absurd (he▸b9 n' b4 M b3) q3
  ·rw[a2 n ⟨N,G⟩,a1 k' ⟨b4,M⟩]at he;obtain⟨_,_,_,q3⟩:=O.bx k' b4 M;exact absurd (he▸b9 n N G E) q3
  ·rw[a2 n ⟨N,G⟩,a2 n' ⟨b4,M⟩]at he;exact Y.bi n n' _ _ G M he
 ·rcases a3 n r S with⟨k,G,rfl⟩|⟨E,G⟩
  ·obtain⟨q1,q2,q0,ys,q3,q4⟩:=O.ro k r G;obtain⟨e1,e2⟩:=a5 k ⟨r,G⟩;rw[e1,e2];exact⟨q1,q2,λg hg hf=>q0 g hg (fz g hf),ys,q3,q4⟩
  ·obtain⟨q1,q2,q0,ys,q3,q4⟩:=Y.ro n r G;obtain⟨e1,e2⟩:=a6 n ⟨r,G⟩ E;rw[e1,e2];exact⟨q1,q2,q0,ys,Nw q3 λg hg=>hold g (c0 n r g G E hg),q4.mono d2 (λb hb=>hold b (f3 b hb))⟩
 ·rcases a3 n r S with⟨k,G,rfl⟩|⟨E,G⟩<;>rcases a3 n' r' e3 with⟨k',M,rfl⟩|⟨b3,M⟩
  ·rw[(a5 k ⟨r,G⟩).1]at hg;rw[(a5 k' ⟨r',M⟩).1]at a9;rw[O.ri k k' _ _ g G M hg a9]
  ·rw[(a5 k ⟨r,G⟩).1]at hg;rw[(a6 n' ⟨r',M⟩ b3).1]at a9;obtain⟨_,_,q0,_⟩:=O.ro k r G;exact absurd (c0 n' r' g M b3 a9) (q0 g hg)
  ·rw[(a6 n ⟨r,G⟩ E).1]at hg;rw[(a5 k' ⟨r',M⟩).1]at a9;obtain⟨_,_,q0,_⟩:=O.ro k' r' M;exact absurd (c0 n r g G E hg) (q0 g a9)
  ·rw[(a6 n ⟨r,G⟩ E).1]at hg;rw[(a6 n' ⟨r',M⟩ b3).1]at a9;exact Y.ri n n' _ _ g G M hg a9
 ·rcases a0 n b S with⟨k,N,G,rfl,_⟩|⟨E,N,G,_⟩<;>rcases a3 m r hm with⟨k',M,rfl⟩|⟨e4,M⟩
  ·rw[a1 k ⟨N,G⟩,(a5 k' ⟨r,M⟩).1];exact O.br k N k' r G M
  ·rw[a1 k ⟨N,G⟩,(a6 m ⟨r,M⟩ e4).1];intro e;obtain⟨_,_,_,q3⟩:=O.bx k N G;exact q3 (c0 m r _ M e4 e)
  ·rw[a2 n ⟨N,G⟩,(a5 k' ⟨r,M⟩).1];intro e;obtain⟨_,_,q0,_⟩:=O.ro k' r M;exact q0 _ e (b9 n N G E)
  ·rw[a2 n ⟨N,G⟩,(a6 m ⟨r,M⟩ e4).1];exact Y.br n N m r G M
 ·rcases a0 n bo S with⟨k,N,G,rfl,_⟩|⟨E,N,G,_⟩
  ·rw[a1 k ⟨N,G⟩];exact(O.ib b hb).2.1 k N G
  ·rw[a2 n ⟨N,G⟩];rcases c1 b hb with a4|a4
   ·exact(Y.ib b a4).2.1 n N G
   ·exact λe=>a4 (e▸b9 n N G E)
 ·rcases a3 n r S with⟨k,G,rfl⟩|⟨E,G⟩
  ·rw[(a5 k ⟨r,G⟩).1];exact(O.ib b hb).2.2 k r G
  ·rw[(a6 n ⟨r,G⟩ E).1];rcases c1 b hb with a4|a4
   ·exact(Y.ib b a4).2.2 n r G
   ·exact λe=>a4 (c0 n r b G E e)
 ·exact Y.fr.trans ⟨O.fr.os,O.fr.tape,O.fr.output,O.fr.size,λk T=>hold k (fz k T)⟩
 ·exact λk T=>gf (Y.fs k T) g3
 ·rcases c1 b hb with a4|a4
  ·exact Y.i1 b a4
  ·exact .inr λhf=>a4 (fz b hf)
 ·obtain⟨q1,bo,q2⟩:=Y.k0 k b T;exact⟨by rw[a2 k ⟨bo,q2⟩];exact q1,a8 k bo q2⟩
 ·have g7:TVR ρ2 w' v x:=by simpa using O.tv 0 v rfl
  exact Zbg (Kp:=λk=>∃b,Ac I k=some b) (Ip:=λi=>∃r,Ac J i=some r) a1 a5 rfl (TV.nm_of_wf c5) g7
 ·exact Q0x (Kp:=λk=>∃b,Ac I k=some b) (Ip:=λi=>∃r,Ac J i=some r) (λk _ ⟨b,hb⟩=>⟨_,c2 k b hb⟩) (λi r _ hr=>⟨r,c6 i r hr,rfl,rfl⟩) (TV.nm_of_wf c5) c5
theorem Qkp {α:Type} {l:List (Nat×α)} {k:Nat} (h:Ih l k=true):Ac l k=none:=by
 unfold Ih at h;split at h
 ·cases h
 ·assumption
theorem Zpf (N:Ai P C) (hR:RelE Z tm aB aC ρ tmps w) {o:Oper} {a:Act} {f:FuncId} {args:List TV} {xs:List Value} (h1:xs.length=args.length)
  (h2:∀(i:Nat) (a:TV) (x:Value),args[i]? =some a->xs[i]? =some x->TVR ρ w a x) (h3:execOp a.eval o=callFunc f xs.toArray) (a2:∀v∈args,TV.wf aB aC v) {K:TV->St->Option R} {r:R}
  (h:Bh C o.dst (.callM f args) ⟨tm,aB,aC⟩ K=some r) {next:Act->World->Prop} {Q:Exit->Act->World->Prop}
  (O:∀(v:TV) (V:List TV) (E:List (Nat×Box)) (G:List (Nat×Row)) (ρ':Env) (x:Value) (w':World),K v ⟨V,E,G⟩=some r->RelE Z V E G ρ' tmps w'->TVR ρ' w' v x->TV.wf E G v->next (a.put o.dst x) w'):
  o.wp P a w next Q:=by
 simp only[Bh]at h;split at h
 ·rename_i g hg;have a3:=N.1 f g hg;simp only[Bj]at h;generalize S:LX aB 4 (A_ (cat AC.keys (cat TV.cellsOf args)) [])=keys at h;generalize hi:OA aB (cat TV.cellsOf args) keys=ids at h;clear S hi;cases hc:(Al (TV.inK keys ids) args&&Al (λk=>Al (AC.inK keys ids) (E4 aB k)) keys&&BY keys&&BY ids)<;>rw[hc]at h
  ·simp at h
  ·simp only[aj]at h;simp only[al]at hc;obtain⟨⟨⟨c1,c2⟩,c3⟩,c4⟩:=hc;split at h
   ·rename_i mb mr X Y;have a0:=Je.1 c3;have M:=Je.1 c4;obtain⟨v,⟨I,J⟩,T,a4⟩:=a3.run h;have a1:=Qru hR h1 h2 a2 a0 M (λv T=>AD.1 c1 v T) (λk S=>AD.1 c2 k S) X Y;refine UV h3 ((a4 _ w _ xs a1).mono ?_);rintro e w' ⟨x,ρ2,he,a5⟩;dsimp only at T;cases U:(Al (λp:Nat×Box=>EO I p.1) mb&&BY (I.map (·.1))&&BY (J.map (·.1))&&Al (λk=>Ih aB (BX keys (Bu keys I) (o.dst.getD 0) k)) (Bu keys I)&&Al (λk=>Ih aC (BX ids (Bu ids J) (o.dst.getD 0) k)) (Bu ids J)&&Nat.ble (Bu keys I).length 100&&Nat.ble (Bu ids J).length 100)<;>rw[U]at T
    ·simp at T
    ·simp only[aj]at T;simp only[al]at U;obtain⟨⟨⟨⟨⟨⟨_,d2⟩,d3⟩,d4⟩,d5⟩,_⟩,_⟩:=U;obtain⟨e1,e2,e3⟩:=Y6 hR a0 M X Y a5 (d:=o.dst.getD 0) (Je.1 d2) (Je.1 d3) (λk S=>Qkp (AD.1 d4 k S)) (λk S=>Qkp (AD.1 d5 k S));exact⟨x,he,O _ _ _ _ _ x w' T e1 e2 e3⟩
   ·simp at h
 ·simp at h
theorem RelE.cong {E:List (Nat×Box)} (h:RelE Z tm aB aC ρ tmps w) (I:∀k,Ac E k=Ac aB k):RelE Z tm E aC ρ tmps w:=by
 have N:∀a,AC.wf aB aC a->AC.wf E aC a:=λa=>AC.wf_mono (λk b G=>⟨b,by rw[I];exact G⟩) (λk r G=>⟨r,G,rfl,rfl⟩);exact⟨h.tl,h.tv,λv O=>TV.wf_mono N (h.wt v O),λk b G a J=>N a (h.wb k b (by rw[<-I];exact G) a J),
  λk b G=>h.bx k b (by rw[<-I];exact G),λk k' b b' G M=>h.bi k k' b b' (by rw[<-I];exact G) (by rw[<-I];exact M),h.ro,h.ri,
  λk b id r G=>h.br k b id r (by rw[<-I];exact G),λb hb=>⟨(h.ib b hb).1,λk bo G=>(h.ib b hb).2.1 k bo (by rw[<-I];exact G),(h.ib b hb).2.2⟩,
  h.fr,h.fs,h.i0,h.i1,λk b G=>⟨(h.k0 k b G).1,by rw[I];exact(h.k0 k b G).2⟩⟩
theorem Q3k {keys:List Nat} (G:keys.Nodup):∀{m l:List (Nat×Box)},(m.map (·.1)).Nodup->(∀k∈m.map (·.1),base<=k/\k-base<keys.length)->(∀k∈keys,∃b,Ac l k=some b)->
  (∀k b,Ac m k=some b->Ac (C2 keys m l) (nth 0 keys (k-base))=some b)/\(∀n,(∀k∈m.map (·.1),n≠nth 0 keys (k-base))->Ac (C2 keys m l) n=Ac l n)
 |[],l,_,_,_=>⟨λk b h=>by simp[Ac]at h,λn _=>rfl⟩
 |(j,c)::m,l,J,hi,O=>by
  simp only[bt,j5]at J;have S:=hi j (by simp);have M:∀k∈m.map (·.1),nth 0 keys (j-base)≠nth 0 keys (k-base):=λk E e=>by
   have N:=hi k (by simp at E⊢;exact .inr E);have V:=ii (pos keys) e;rw[IU G S.2,IU G N.2]at V;have:k=j:=by omega
   subst this;exact J.1 E
  obtain⟨y,T⟩:=O _ (F0 S.2);obtain ⟨X, U⟩ := Q3k G (m := m) (l := upd l (nth 0 keys (j - base)) c) J.2 (λk E => hi k (by simp at E ⊢; exact .inr E)) (λk E => by
   by_cases e:k=nth 0 keys (j-base)
   ·subst e;exact⟨c,Fb _ _ _ _ T⟩
   ·rw[DG _ _ _ _ e];exact O k E)
  refine⟨λk b E=> ?_,λn I=> ?_⟩
  ·simp only[Ac]at E;simp only[C2];cases hb:Nat.beq j k<;>rw[hb]at E
   ·exact X k b E
   ·have:=ac hb;subst this;simp at E;subst E;rw[U _ M];exact Fb _ _ _ _ T
  ·simp only[C2];rw[U n (λk E=>I k (by simp at E⊢;exact .inr E))];exact DG _ _ _ _ (I j (by simp))
theorem Zoj {E ri:Nat->Nat} {a:AC} (h:a.calm=true):a.ren E ri=a:=by cases a<;>simp[AC.calm]at h<;>rfl
theorem RW {E ri:Nat->Nat}:∀{l:List AC},Al AC.calm l=true->l.map (AC.ren E ri)=l
 |[],_=>rfl
 |a::l,h=>by
  rw[AD]at h;simp only[bt];rw[Zoj (h a (by simp)),RW (AD.2 λx G=>h x (by simp[G]))]
theorem Quj {a:AC} (h:a.plain=true):a.calm=true:=by cases a<;>simp[AC.plain]at h<;>rfl
theorem Qrf {G ri:Nat->Nat} {v:TV} (h:v.plainB=true):v.ren G ri=v:=by
 cases v with
 |dead=>rfl
 |v g cs=>
  simp only[TV.plainB,AD]at h;simp only[TV.ren];rw[RW (AD.2 λa E=>Quj (h a E))]
 |tup ps=>
  simp only[TV.plainB,AD]at h;simp only[TV.ren];congr 1
  conv=>rhs;rw[<-List.map_id ps]
  apply List.map_congr_left;intro p I;rw[RW (AD.2 λa E=>Quj (h p I a E))];rfl
theorem Uv {α:Type} {l:List (Nat×α)} {k:Nat} (h:EO l k=true):∃b,Ac l k=some b:=by
 unfold EO at h;split at h
 ·rename_i b hb;exact⟨b,hb⟩
 ·cases h
theorem Z14 {keys:List Nat} (O:keys.Nodup) {U E:List (Nat×Box)} (V:Ef aB (λk=>base+pos keys k) (λi=>base+pos [] i) base keys=some U)
  (h1:∀p∈U,EO E p.1=true) (h2:∀p∈E,EO U p.1=true) (h3:(E.map (·.1)).Nodup) (h4:∀p∈E,Al AC.calm p.2.cells=true) (bi:Nat->Nat) (d:Nat) (k:Nat):
  Ac (C2 keys E aB) k=Ac (Nj (BX keys [] d) bi E ((Ej keys aB).map λp=>(p.1,Eb [] p.2))) k:=by
 obtain⟨b1,b2⟩:=L8 V;have G:∀k∈E.map (·.1),base<=k/\k-base<keys.length:=by
  intro k I;simp only[ba]at I;obtain⟨p,X,rfl⟩:=I;obtain⟨b,hb⟩:=Uv (h2 p X);obtain⟨i,hi,e⟩:=b2 _ _ hb;omega
 have S:∀i,i<keys.length->∃b,Ac E (base+i)=some b:=by
  intro i hi;obtain⟨x,_,q⟩:=b1 i hi;exact Uv (h1 _ (O9 q))
 have Y:∀k∈keys,∃b,Ac aB k=some b:=λk I=>by
  obtain⟨x,q,_⟩:=b1 (pos keys k) (EE I).1;rw[(EE I).2]at q;exact⟨x,q⟩
 have J:∀k∈E.map (·.1),BX keys [] d k=nth 0 keys (k-base):=λk I=>Ni (G k I);obtain⟨u1,u2⟩:=Q3k (l:=aB) O h3 G Y;have M:∀n,Ac ((Ej keys aB).map λp=>(p.1,Eb [] p.2)) n=if n∈keys then none else Ac aB n:=by
  intro n;rw[GO,Li];split
  ·rfl
  ·cases Ac aB n<;>rfl
 have T:∀k∈E.map (·.1),∀j∈E.map (·.1),BX keys [] d k=BX keys [] d j->k=j:=by
  intro k I j N e;rw[J k I,J j N]at e;have e':=ii (pos keys) e;rw[IU O (G k I).2,IU O (G j N).2]at e';have:=G k I;have:=G j N;omega
 rw[Yi];obtain ⟨v1, v2⟩ := TT (rk := BX keys [] d) (g := λb : Box => (⟨b.ty, b.cells.map (AC.ren (BX keys [] d) bi)⟩ : Box)) (m := E) (l := (Ej keys aB).map λp => (p.1, Eb [] p.2)) h3 T (λk I => by
  rw[M,J k I,ab (F0 (G k I).2)])
 by_cases I:k∈keys
 ·obtain⟨X,hn⟩:=EE I;obtain⟨b,hb⟩:=S _ X;have e1:=u1 _ b hb;have e2:=v1 _ b hb;rw[J _ (Mx.2 ⟨b,hb⟩)]at e2;rw[show base+pos keys k-base=pos keys k from by omega,hn]at e1 e2;rw[e1,e2];have:=h4 _ (O9 hb);rw[RW this]
 ·rw[u2 k (λj N e=>I (by rw[e];exact F0 (G j N).2)),v2 k (λj N e=>I (by rw[e,J j N];exact F0 (G j N).2)),M,aa I]
theorem Zjo (O:Ai P C) (hR:RelE Z tm aB aC ρ tmps w) {o:Oper} {a:Act} {f:FuncId} {args:List TV} {xs:List Value} (h1:xs.length=args.length)
  (h2:∀(i:Nat) (a:TV) (x:Value),args[i]? =some a->xs[i]? =some x->TVR ρ w a x) (h3:execOp a.eval o=callFunc f xs.toArray) (a1:∀v∈args,TV.wf aB aC v) {K:TV->St->Option R} {r:R}
  (h:Bh C o.dst (.callD f args) ⟨tm,aB,aC⟩ K=some r) {next:Act->World->Prop} {Q:Exit->Act->World->Prop}
  (S:∀(v:TV) (V:List TV) (E:List (Nat×Box)) (G:List (Nat×Row)) (ρ':Env) (x:Value) (w':World),K v ⟨V,E,G⟩=some r->RelE Z V E G ρ' tmps w'->TVR ρ' w' v x->TV.wf E G v->next (a.put o.dst x) w'):
  o.wp P a w next Q:=by
 simp only[Bh]at h;split at h
 ·rename_i g hg;have a2:=O.1 f g hg;simp only[Bj]at h;generalize I:A_ (cat AC.keys (cat TV.cellsOf args)) []=keys at h;clear I;cases hc:(Al (TV.inK keys []) args&&Al (λk=>Al AC.calm (E4 aB k)) keys&&BY keys)<;>rw[hc]at h
  ·simp at h
  ·simp only[aj]at h;simp only[al]at hc;obtain⟨⟨c1,c2⟩,c3⟩:=hc;have a3:Al (λk=>Al (AC.inK keys []) (E4 aB k)) keys=true:=by
    rw[AD]at c2⊢;intro k I;have:=c2 k I;rw[AD]at this⊢;intro b hb;have:=this b hb;cases b<;>simp[AC.calm]at this<;>rfl
   split at h
   ·rename_i mb M;have T:=Je.1 c3;obtain⟨v,⟨J,a4⟩,N,a5⟩:=a2.run h;have X:=Qru hR h1 h2 a1 T jf (λv N=>AD.1 c1 v N) (λk I=>AD.1 a3 k I) M (show GS aC base []=some []from rfl);refine UV h3 ((a5 _ w _ xs X).mono ?_);rintro e w' ⟨x,ρ2,he,a6⟩;cases a4 with
    |cons _ _=>simp at N
    |nil=>
     dsimp only at N;cases U:(Al (λp:Nat×Box=>EO J p.1) mb&&Al (λp:Nat×Box=>EO mb p.1) J&&BY (J.map (·.1))&&Al (λp:Nat×Box=>Al AC.calm p.2.cells) J&&v.plainB)<;>rw[U]at N
     ·simp at N
     ·simp only[aj]at N;simp only[al]at U;obtain⟨⟨⟨⟨d1,d2⟩,d3⟩,d4⟩,d5⟩:=U;have Y:Bu keys J=[]:=by
       apply List.eq_nil_iff_forall_not_mem.2;intro k I;obtain⟨q1,q2⟩:=JG.1 I;simp only[ba]at q1;obtain⟨p,hp,rfl⟩:=q1;obtain⟨b,hb⟩:=Uv (AD.1 d2 p hp);obtain⟨i,hi,e⟩:=(L8 M).2 _ _ hb;exact q2 (by omega)
      obtain⟨e1,e2,e3⟩:=Y6 hR T jf M (show GS aC base []=some []from rfl) a6 (d:=o.dst.getD 0) (Je.1 d3) jf (λk I=>by rw[Y]at I;simp at I) (λk I=>by simp[Bu]at I);rw[Y]at e1 e2 e3;have a7:=Z14 T M (AD.1 d1) (AD.1 d2) (Je.1 d3) (AD.1 d4) (BX [] (Bu [] ([]:List (Nat×Row))) (o.dst.getD 0)) (o.dst.getD 0);have a0:=e1.cong a7;have a8:tm.map (H4 [])=tm:=by
       conv=>rhs;rw[<-List.map_id tm]
       rfl
      rw[a8]at a0;rw[Qrf d5]at e2;exact⟨x,he,S _ _ _ _ _ x w' N a0 e2 (KQ d5)⟩
   ·simp at h
 ·simp at h
theorem Zf9 {keys ids:List Nat} {v:TV} (h:v.plainB=true):TV.inK keys ids v=true:=by
 cases v with
 |dead=>rfl
 |v g cs=>
  simp only[TV.plainB,TV.inK]at h⊢;rw[AD]at h⊢;intro a E;have:=h a E;cases a<;>simp[AC.plain]at this<;>rfl
 |tup ps=>
  simp only[TV.plainB,TV.inK]at h⊢;rw[AD]at h⊢;intro p G;have:=h p G;rw[AD]at this⊢;intro a E;have:=this a E;cases a<;>simp[AC.plain]at this<;>rfl
theorem Qxq {rk ri:Nat->Nat}:∀{args:List TV},Al TV.plainB args=true->args.map (TV.ren rk ri)=args
 |[],_=>rfl
 |a::l,h=>by
  simp only[Al]at h;obtain⟨h1,h2⟩:=cond_none' h;simp only[bt];rw[Qrf h1,Qxq h2]
 where cond_none' {c p:Bool} (h:cond c p false=true):c=true/\p=true:=by cases c<;>simp at h;exact⟨rfl,h⟩
theorem Quh (x:Nat):x.blt 0=false:=rfl
theorem Zht (j:Nat) (r:Row):Bu [] [(j,r)]=[j]:=by
 have E:(base.ble j&&(j-base).blt 0)=false:=by
  rw[Quh,Bool.and_false]
 unfold Bu;simp only[dg,E,ao];rfl
theorem Z06 (j d:Nat):BX [] [j] d j=HR d:=by
 have E:(base.ble j&&(j-base).blt 0)=false:=by
  rw[Quh,Bool.and_false]
 unfold BX HR;simp only[dg,E,ao,pos,ju,aj,jv]
theorem Z8m (X:Ai P C) (hR:RelE Z tm aB aC ρ tmps w) {o:Oper} {a:Act} {f:FuncId} {args:List TV} {xs:List Value} (h1:xs.length=args.length)
  (h2:∀(i:Nat) (a:TV) (x:Value),args[i]? =some a->xs[i]? =some x->TVR ρ w a x) (h3:execOp a.eval o=callFunc f xs.toArray) (b1:∀v∈args,TV.wf aB aC v) {K:TV->St->Option R} {r:R}
  (h:Bh C o.dst (.callF f args) ⟨tm,aB,aC⟩ K=some r) {next:Act->World->Prop} {Q:Exit->Act->World->Prop}
  (M:∀(v:TV) (a3:List TV) (E:List (Nat×Box)) (I:List (Nat×Row)) (ρ':Env) (x:Value) (w':World),K v ⟨a3,E,I⟩=some r->RelE Z a3 E I ρ' tmps w'->TVR ρ' w' v x->TV.wf E I v->next (a.put o.dst x) w'):
  o.wp P a w next Q:=by
 simp only[Bh]at h;split at h
 ·rename_i g hg;have b2:=X.1 f g hg;cases Y:Al TV.plainB args<;>rw[Y]at h
  ·simp at h
  simp only[aj]at h;obtain⟨v,⟨b3,N⟩,G,b4⟩:=b2.run h;have T:=Qru hR h1 h2 b1 jf jf (keys:=[]) (ids:=[]) (λv G=>Zf9 (AD.1 Y v G)) (λk O=>by simp at O) (show Ef aB _ _ base []=some []from rfl) (show GS aC base []=some []from rfl);rw[Qxq Y]at T;refine UV h3 ((b4 _ w _ xs T).mono ?_);rintro e w' ⟨x,ρ2,he,a4⟩;have a5:tm.map (H4 [])=tm:=by
   conv=>rhs;rw[<-List.map_id tm]
   rfl
  have a0:(Ej [] aB).map (λp=>(p.1,Eb [] p.2))=aB:=by
   conv=>rhs;rw[<-List.map_id aB]
   rfl
  cases b3 with
  |cons _ _=>simp at G
  |nil=>
  have a6:(N.map (·.1)).Nodup->(∀k∈Bu [] N,Ac aC (BX [] (Bu [] N) (o.dst.getD 0) k)=none)->_:=λd1 d2=>
   Y6 hR jf jf (show Ef aB _ _ base []=some []from rfl) (show GS aC base []=some []from rfl) a4 (d:=o.dst.getD 0) (by simp) d1 (λk O=>by simp[Bu]at O) d2
  cases N with
  |nil=>
   dsimp only at G;cases a1:v.plainB<;>rw[a1]at G
   ·simp at G
   simp only[aj]at G;obtain⟨e1,e2,e3⟩:=a6 (by simp) (λk O=>by simp[Bu]at O);rw[a5,a0]at e1;rw[Qrf a1]at e2;exact⟨x,he,M _ _ _ _ _ x w' G e1 e2 (KQ a1)⟩
  |cons p l=>
   obtain⟨k,J⟩:=p;cases l with
   |cons _ _=>simp at G
   |nil=>
    dsimp only at G;split at G
    ·rename_i j w0 n0;cases S:Nat.beq j k<;>rw[S]at G
     ·simp at G
     simp only[aj]at G;have S:=ac S;subst S;split at G
     ·simp at G
     rename_i a2;simp only[Bj]at G;have hf:=Zht j J;have hb:=Z06 j (o.dst.getD 0);obtain ⟨e1, e2, e3⟩ := a6 (by simp) (λk O => by
      rw[hf]at O⊢;simp at O;subst O;rw[hb];exact a2)
     rw[a5,a0]at e1;rw[a0]at e3;have b5:=a4.wt (.v false [.own j w0 n0]) (by simp) (.own j w0 n0) (by simp);obtain⟨r1,a7,b6,b7⟩:=b5;simp only[Ac,ju,aj,ap]at a7;subst a7;have U:TV.ren (BX [] (Bu ([]:List Nat) ([]:List (Nat×Box))) (o.dst.getD 0)) (BX [] (Bu [] [(j,J)]) (o.dst.getD 0)) (.v false [.own j w0 n0])= .c (.own (HR (o.dst.getD 0)) J.ks.length J.l.length):=by
      simp only[TV.ren,bt,f8,AC.ren,hf,hb];rw[<-b7,<-b6]
     have V:Ko (BX [] (Bu [] [(j,J)]) (o.dst.getD 0)) [(j,J)] (Ej [] aC)=ins aC (HR (o.dst.getD 0)) J:=by
      simp only[Ko,hf,hb,Ej]
     have a8:=e1;rw[V]at a8;have a9:=e2;rw[U]at a9;have b0:=e3;rw[U,V]at b0;exact⟨x,he,M _ _ _ _ _ x w' G a8 a9 b0⟩
    ·simp at G
 ·simp at h
end
open Go.RowKit
section
variable {P:Program} {C:Cfg} {ρ:Env} {w:World} {R:Type} {Z:Base} {tm:List TV} {aB:List (Nat×Box)} {aC:List (Nat×Row)} {tmps:Array Value}
theorem Zhc {g:Bool} {sz off:Nat} {cells:List AC} {v:TV} (E:DV g sz cells off=some v) (hb:∀a∈cells,AC.wf aB aC a):TV.wf aB aC v:=by
 unfold DV at E;cases g
 ·simp only[ao]at E;split at E
  ·rename_i c I;simp at E;subst E;intro c' G;simp at G;subst G;exact hb _ (cq I)
  ·simp at E
 ·simp only[aj]at E;cases J:Nat.ble (off+sz) cells.length<;>rw[J]at E
  ·simp at E
  ·simp at E;subst E;intro c I;exact hb c (d6 (eu I))
theorem Z0u {a N:TV} (E:a.hasOwn=false) (J:a.res aC=some N):a=N:=by
 have O:∀(cs G:List AC),cs.any AC.isOwn=false->FV aC cs=some G->cs=G:=by
  intro cs;induction cs with
  |nil=>intro G _ h;simp[FV]at h;rw[h]
  |cons b cs S=>
   intro G E h;simp only[List.any_cons,Bool.or_eq_false_iff]at E;simp only[FV]at h;split at h
   ·rename_i b' I;split at h
    ·rename_i U M;simp at h;subst h;rw[S _ E.2 M];have T:=E.1;cases b<;>simp only[AC.res]at I<;>first|(simp at I;done)|(simp[AC.isOwn]at T;done)|(simp at I;subst I;rfl)
    ·simp at h
   ·simp at h
 cases a with
 |dead=>simp[TV.res]at J
 |tup=>simp[TV.res]at J
 |v g cs=>
  simp only[TV.res]at J;split at J
  ·rename_i l h;simp at J;subst J;rw[O _ _ E h]
  ·simp at J
theorem Zfl {t e:TypeId} {i:TypeInfo} {z:Value} (E:P.underlying t=some (.slice e)) (hi:P.info? e=some i) (G:i.zero=some z) {kl kc:IntKind} {n:Nat} (hb:n*i.bytes<=140737488355328) (I:n<=140737488355328):
  ∃(w':World) (arr:Array Value),(Instr.makeSlice t (.int kl (n:Int)) (.int kc (n:Int))).run P w= .ok (.slice (some ⟨w.heap.size,0,none⟩) n n) w'/\w'=w.alloc (.cells arr e)/\
   arr.toList=(List.range (n*i.size)).map λj=>z.cells[j%z.cells.size]! :=by
 have e1:((n*i.bytes:Nat):Int)=(n:Int)*(i.bytes:Int):=dq _ _;have e2:(i.bytes:Int)*(n:Int)<=281474976710656:=by rw[fa];omega
 have h:=run_make w t e i z E hi G kl kc (n:Int) (n:Int) (by omega) (bz _) e2 (by omega);rw[ak]at h;exact⟨_,madeCells z.cells (n*i.size),h,rfl,by simp[madeCells]⟩
theorem Qqa (a4:Ai P C) (S:RelE Z tm aB aC ρ tmps w) {o:Oper} {a:Act} {p:Prim} (hp:JQ P ρ w a.eval o p) (a2:Prim.wf aB aC p) (c9:Prim.isApp (some p)=false) {K:TV->St->Option R} {r:R}
  (h:Bh C o.dst p ⟨tm,aB,aC⟩ K=some r) {next:Act->World->Prop} {Q:Exit->Act->World->Prop}
  (G:∀(v:TV) (g0:List TV) (a5:List (Nat×Box)) (b2:List (Nat×Row)) (ρ':Env) (x:Value) (w':World),K v ⟨g0,a5,b2⟩=some r->RelE Z g0 a5 b2 ρ' tmps w'->TVR ρ' w' v x->TV.wf a5 b2 v->next (a.put o.dst x) w'):
  o.wp P a w next Q:=by
 cases p with
 |val v=>
  obtain⟨x,V,T⟩:=hp;exact Ia V (G v _ _ _ ρ x w h S T a2)
 |load g sz key off=>
  obtain⟨t,V,T,U⟩:=hp;simp only[Bh]at h;split at h
  ·rename_i b N;split at h
   ·rename_i v X;obtain⟨arr,q1,q2,q3⟩:=S.bx key b N;obtain ⟨x, Y, q5⟩ := V2 (b := ρ.bx key) (o := 0) V T X q2 (λj y hj => by
     simp only[d9];rw[cell_of_row w _ j arr b.ty (0,0) q1];simpa using hj)
    rw[d9]at Y;rw[Y]at U;refine Ia U (G v _ _ _ ρ x w h S q5 ?_);have hb:=S.wb key b N;unfold DV at X;cases g
    ·simp only[ao]at X;split at X
     ·rename_i c J;simp at X;subst X;intro c' b6;simp at b6;subst b6;exact hb _ (cq J)
     ·simp at X
    ·simp only[aj]at X;cases b3:Nat.ble (off+sz) b.cells.length<;>rw[b3]at X
     ·simp at X
     ·simp at X;subst X;intro c J;exact hb c (d6 (eu J))
   ·simp at h
  ·simp at h
 |store key off cs=>
  obtain⟨t,x,V,T,U⟩:=hp;simp only[Bh]at h;split at h
  ·rename_i b N;cases hb:Nat.ble (off+cs.length) b.cells.length<;>rw[hb]at h
   ·simp at h
   ·simp only[aj,Bj]at h;have hle:=bc hb;obtain⟨arr,q1,q2,q3⟩:=S.bx key b N;have hlen:=T.length;rw[hlen]at V hle;have Y:=Qyk V q1 (by rw[<-dy,<-q2.length];exact hle) T.one;rw[Y]at U;refine Zbq U (G .dead _ _ _ ρ undef _ h (S.store N ?_ ?_) trivial trivial)
    ·intro c J;rw[GU _ _ _ (by rw[hlen];exact hle)]at J;simp only[bq]at J;rcases J with(J|J)|J
     ·exact S.wb key b N c (eu J)
     ·exact a2.2 c J
     ·exact S.wb key b N c (d6 J)
    ·exact q2.splice off T
  ·simp at h
 |new ty cs=>
  obtain⟨arr,V,T⟩:=hp;simp only[Bh]at h;split at h
  ·rename_i d hd;split at h
   ·simp at h
   ·rename_i hn;simp only[Bj]at h;refine Ia T (G _ _ _ _ _ _ _ h (S.new hn a2 V) ?_ ?_)
    ·refine TVR.c' ?_;simp only[CC,B0]
    ·intro c J;simp at J;subst J;exact⟨_,Fk _ _ _ hn⟩
  ·simp at h
 |newS ty n cs=>
  obtain⟨arr,V,T⟩:=hp;simp only[Bh]at h;split at h
  ·rename_i d hd;split at h
   ·simp at h
   ·rename_i hn;simp only[Bj]at h;refine Ia T (G _ _ _ _ _ _ _ h (S.new hn a2 V) ?_ ?_)
    ·refine TVR.c' ?_;simp only[CC,B0]
    ·intro c J;simp at J;subst J;exact⟨_,Fk _ _ _ hn⟩
  ·simp at h
 |rload g sz id idx sub=>
  obtain⟨t,b,V,T,hb,U⟩:=hp;obtain⟨E,O,a3⟩:=a2;simp only[Bh,O]at h;split at h
  ·rename_i v X;obtain⟨q1,q2,_,xs,q3,Y⟩:=S.ro id E O;have a7:E.l[idx]? =some E.l[idx]:=ai a3;have g1:=Y.2.2 idx _ a7;have hf:E.f idx=E.l[idx]:=by
    show AT E.ks (nth [] E.l idx)=_;rw[B7,List.getD,a7];exact Y.2.1 _ (bn a3)
   have i5:R2 w b (HX (ρ.rv id)+idx*E.w) (cut xs (idx*E.w) E.w):=by
    intro j y hj;simp only[cut,gh]at hj;split at hj
    ·rw[fe]at hj;have:=Rj q3 hb (idx*E.w+j) y hj;rw[<-du]at this;exact this
    ·simp at hj
   rw[hf]at X;obtain⟨x,q5,q6⟩:=V2 (b:=b) (o:=HX (ρ.rv id)+idx*E.w) (ρ:=ρ) V T X (g1.mono λ_ _ _ hh=>J7 hh) i5;rw[<-q2,du]at q5;rw[q5]at U;exact Ia U (G v _ _ _ ρ x w h S q6 (Zhc X (Znq g1)))
  ·simp at h
 |rstore id idx sub cs=>
  obtain⟨t,x,b,V,T,hb,U⟩:=hp;obtain⟨E,O,a3⟩:=a2;simp only[Bh,O]at h;cases J:(Nat.ble (sub+cs.length) E.w&&Al AC.plain cs)<;>rw[J]at h
  ·simp at h
  ·simp only[aj]at h;split at h
   ·rename_i c d2;simp only[Bj]at h;simp only[al]at J;have hle:=bc J.1;obtain⟨q1,q2,_,xs,q3,Y⟩:=S.ro id E O;have a7:E.l[idx]? =some E.l[idx]:=ai a3;have hf:E.f idx=E.l[idx]:=by
     show AT E.ks (nth [] E.l idx)=_;rw[B7,List.getD,a7];exact Y.2.1 _ (bn a3)
    rw[hf]at d2;rcases q3.2 with⟨e1,e2⟩|⟨g',oo,cap,cur,e1,e3,e4,e5,e6,e7⟩
    ·have:idx<E.n:=a3;omega
    ·have j3:b=g':=by rw[e1]at hb;simp[Value.ownBlock]at hb;exact hb.symm
     subst j3;have hlen:=T.length;have b9:=Y.1;have hbound:idx*E.w+sub+cs.length<=E.n*E.w:=by
      have:idx*E.w+E.w<=E.n*E.w:=by
       calc idx*E.w+E.w=(idx+1)*E.w:=by rw[dt,gy]
        _<=E.n*E.w:=bp _ a3
      omega
     have j4:E.n*E.w<=cap*E.w:=bp _ e4;rw[q2]at U;rw[hlen]at V hle hbound;have g2:HX (ρ.rv id)=oo:=by rw[e1];rfl
     rw[g2]at U;have q5:=Qyk (off:=oo+(idx*E.w+sub)) V e3 (by omega) T.one;rw[q5]at U;have c0:oo+cap*E.w<=cur.toList.length:=by rw[dy];exact e6
     have k0:(splice cur.toList (oo+(idx*E.w+sub)) x.cells.toList).drop oo=splice (cur.toList.drop oo) (idx*E.w+sub) x.cells.toList:=by
      rw[GU _ _ _ (by omega),GU _ _ _ (by rw[co];omega),fq,jy (by rw[ic];omega),List.drop_take,show oo+(idx*E.w+sub)-oo=idx*E.w+sub from by omega,js,fq];congr 2;rw[du]
     have k6:((splice cur.toList (oo+(idx*E.w+sub)) x.cells.toList).drop oo).take (E.n*E.w)=splice xs (idx*E.w+sub) x.cells.toList:=by
      rw[k0];have k7:cap*E.w<=(cur.toList.drop oo).length:=by rw[co];omega
      generalize cur.toList.drop oo=L at e7 k7⊢;rw[GU _ _ _ (by omega),GU _ _ _ (by rw[b9];exact hbound),<-e7];apply iu;intro j;simp only[gh,gz,ic,ay,fe];by_cases hj:j<E.n*E.w
      ·rw[ab hj];by_cases j1:j<idx*E.w+sub
       ·rw[ab,ab,ab,ab,ab,ab,ab hj]
       ·by_cases j2:j<idx*E.w+sub+x.cells.toList.length
        ·rw[ab,aa,ab,aa];congr 1;omega
        ·rw[aa,aa,ab];congr 1;omega
      ·rw[aa hj,aa,aa]
     have k8: ¬ρ.im b:=λhi=>(S.ib b hi).2.2 id E O hb;have hold:∀k,k≠b->(w.setRow b (splice cur.toList (oo+(idx*E.w+sub)) x.cells.toList).toArray).heap[k]? =w.heap[k]? :=λk N=>setRow_other w b k _ N;have c4:∀(a:AC) (y:Value),CP ρ.im w a y->CP ρ.im (w.setRow b (splice cur.toList (oo+(idx*E.w+sub)) x.cells.toList).toArray) a y:=λa y hh=>CP.mono (λ_ h=>h) (λk N=>hold k (λe=>k8 (e▸N))) a y hh;have d3:CL (CP ρ.im w) c (splice (cut xs (idx*E.w) E.w) sub x.cells.toList)/\AT E.ks c=c:=
      SN d2 (((Y.2.2 idx _ a7).mono λ_ _ _ hh=>J7 hh).splice sub T)
     have a1:=S.turnRow (id:=id) O (r':=⟨E.ty,E.ks,E.l.set idx c⟩) (v':=ρ.rv id)
      (xs:=splice xs (idx*E.w+sub) x.cells.toList) (w':=w.setRow b (splice cur.toList (oo+(idx*E.w+sub)) x.cells.toList).toArray)
      ⟨rfl,rfl,rfl,by simp,λk _ N=>hold k (λe=>N (by rw[e,hb]))⟩ rfl
      ⟨by simp only[Row.n,Row.w,jb];rw[L9];exact b9, .inr ⟨b,oo,cap,_,by simp only[Row.n,jb];exact e1,setRow_heap w b cur _ E.ty _ e3,by simp only[Row.n,jb];exact e4,e5,by simp only[List.size_toArray];rw[L9];exact c0,by simp only[Row.n,jb];exact k6⟩⟩
      ⟨by simp only[jb];rw[L9];exact b9,λc' b6=>by
       rcases d8 b6 with b6|rfl
       ·exact Y.2.1 c' b6
       ·exact d3.2,λi c' hi=>by
       simp only[jd]at hi;by_cases e8:idx=i
       ·subst e8;rw[ab rfl,ab a3]at hi;simp at hi;subst hi;have e:=Z2d xs x.cells.toList idx E.w sub E.n a3 b9 (by omega);show CL _ c (cut _ (idx*E.w) E.w);rw[e];exact d3.1.mono λa _ y hh=>c4 a y hh
       ·rw[aa e8]at hi;have l5:i<E.n:=(fx.1 hi).1;have e:=Zk2 xs x.cells.toList idx i E.w sub E.n a3 (λe=>e8 e.symm) b9 (by omega);show CL _ c' (cut _ (i*E.w) E.w);rw[e];exact(Y.2.2 i c' hi).mono λa _ y hh=>c4 a y hh⟩
      (.inl rfl) (.inl ⟨rfl,by simp[Row.n]⟩)
     exact Zbq U (G .dead _ _ _ _ undef _ h a1 trivial trivial)
   ·simp at h
 |newRow el ks l=>
  obtain⟨arr,V,T,U,h4⟩:=hp;simp only[Bh]at h;split at h
  ·rename_i d hd;split at h
   ·simp at h
   ·rename_i hn;simp only[Bj]at h;have hb:Below w.heap.size w (w.alloc (.cells arr el)):=(Below.refl _ _).alloc (db _) _;have M:RowC ρ.im (w.alloc (.cells arr el)) ks l arr.toList:=U.mono (λ_ h=>h) (λb I=>Below.heap_alloc w _ b (S.ib b I).1);have a8:=S.addRow (d:=C.rowAs d) hn (r:=⟨el,ks,l⟩) (v':= .slice (some ⟨w.heap.size,0,none⟩) l.length l.length) (xs:=arr.toList) (w':=w.alloc (.cells arr el)) hb V
     ⟨U.1, .inr ⟨w.heap.size,0,l.length,arr,rfl,heap_alloc_new w _,db _,T,by rw[<-dy,d9];exact Nat.le_of_eq U.1.symm,by
      show List.take (l.length*ks.length) _=_;rw[<-U.1,f9,jx]⟩⟩ M
     (λg hg=>by simp[Value.ownBlock]at hg;omega)
    refine Ia h4 (G _ _ _ _ _ _ _ h a8 ?_ ?_)
    ·exact TVR.c' ⟨by simp only[B0],by simp only[B0], .inr ⟨_,_,_,rfl⟩⟩
    ·intro c J;simp at J;subst J;exact⟨_,Fk _ _ _ hn,rfl,rfl⟩
  ·simp at h
 |newView el ks l=>
  obtain⟨arr,V,T,U,h4⟩:=hp;simp only[Bh]at h;have hb:Below w.heap.size w (w.alloc (.cells arr el)):=(Below.refl _ _).alloc (db _) _;have M:RowC ρ.im (w.alloc (.cells arr el)) ks l arr.toList:=U.mono (λ_ h=>h) (λb I=>Below.heap_alloc w _ b (S.ib b I).1);have hg:=S.growIm (im':=λb=>ρ.im b\/b=w.heap.size) hb (λb h=> .inl h) (λb h=>h.imp id λe=>by subst e;exact⟨db _,PY (heap_alloc_new w _)⟩);refine Ia h4 (G _ _ _ _ _ _ _ h hg ?_ ?_)
  ·refine TVR.c' ?_;have c5:E1 (w.alloc (.cells arr el)) el ks.length (.slice (some ⟨w.heap.size,0,none⟩) l.length l.length) l.length arr.toList:=
    ⟨U.1, .inr ⟨w.heap.size,0,l.length,arr,rfl,heap_alloc_new w _,db _,T,by rw[<-dy,d9];exact Nat.le_of_eq U.1.symm,by rw[f9,<-U.1,jx]⟩⟩
   exact J7 (ZB c5 (M.mono (λ_ h=> .inl h) (λ_ _=>rfl)) (λg hg=> .inr (by simp[Value.ownBlock]at hg;exact hg.symm)))
  ·intro c J;simp at J;subst J;trivial
 |make el ks bytes n z=>
  obtain⟨t,i,zv,kl,kc,V,T,U,h4,h5,h6,h7,h8,h9,g3⟩:=hp;subst h5;simp only[Bh]at h;split at h
  ·rename_i d hd;split at h
   ·simp at h
   ·rename_i hn;cases J:(decide (0<=n)&&decide (n*(i.bytes:Int)<=140737488355328))<;>rw[J]at h
    ·simp at h
    ·simp only[aj,Bj]at h;simp only[al,da]at J;have g4:((n.toNat:Nat):Int)=n:=Int.toNat_of_nonneg J.1;have g5:zv.cells.toList.length=ks.length:=by
      rw[<-h9.length,<-h8];exact Rg _ _
     have k9:n.toNat*i.bytes<=140737488355328:=by
      have T:=J.2;rw[<-g4]at T;have e1:((n.toNat*i.bytes:Nat):Int)=(n.toNat:Int)*(i.bytes:Int):=dq _ _;omega
     have l6:n.toNat<=n.toNat*i.bytes:=jm _ h7;obtain⟨w',arr,p1,p2,p3⟩:=Zfl (P:=P) (w:=w) (t:=t) (e:=el) (i:=i) (z:=zv) V T U (kl:=kl) (kc:=kc) (n:=n.toNat) k9 (by omega);rw[g4]at p1;rw[p1]at g3;subst p2;have d0:zv.cells.size=ks.length:=by rw[<-dy];exact g5
     have b4:arr.toList.length=n.toNat*ks.length:=by rw[p3,h4,d0];simp[d0]
     have g6:∀j,j<n.toNat->cut arr.toList (j*ks.length) ks.length=zv.cells.toList:=by
      intro j hj;have hle:j*ks.length+ks.length<=n.toNat*ks.length:=by
       calc j*ks.length+ks.length=(j+1)*ks.length:=by rw[dt,gy]
        _<=n.toNat*ks.length:=bp _ hj
      apply iu;intro q;simp only[cut,gh,fe];by_cases hq:q<ks.length
      ·rw[ab hq,p3,h4,d0];rw[fo,List.getElem?_range (by omega)];simp only[jl];rw[show(j*ks.length+q)%ks.length=q from by rw[fg,Nat.mul_add_mod];exact Nat.mod_eq_of_lt hq];have:q<zv.cells.size:=by rw[d0];exact hq
       rw[getElem!_pos zv.cells q this,Array.getElem?_toList,jg this]
      ·rw[aa hq,dm (by rw[g5];omega)]
     have hb:Below w.heap.size w (w.alloc (.cells arr el)):=(Below.refl _ _).alloc (db _) _;have e9:RowC ρ.im w ks (List.replicate n.toNat z) arr.toList:=by
      refine⟨by rw[b4];simp,λc J=> ?_,λj c hj=> ?_⟩
      ·rw[List.mem_replicate]at J;rw[J.2];exact h8
      ·rw[List.getElem?_replicate]at hj;split at hj
       ·rename_i l0;simp at hj;subst hj;rw[g6 j l0];exact h9
       ·simp at hj
     have M:RowC ρ.im (w.alloc (.cells arr el)) ks (List.replicate n.toNat z) arr.toList:=e9.mono (λ_ h=>h) (λb I=>Below.heap_alloc w _ b (S.ib b I).1);have c6:(List.replicate n.toNat z).length=n.toNat:=by simp
     have a8:=S.addRow (d:=d) hn (r:=⟨el,ks,List.replicate n.toNat z⟩) (v':= .slice (some ⟨w.heap.size,0,none⟩) n.toNat n.toNat) (xs:=arr.toList) (w':=w.alloc (.cells arr el)) hb h6
      ⟨by simp only[Row.n,Row.w,c6];exact b4, .inr ⟨w.heap.size,0,n.toNat,arr,by simp only[Row.n,c6],heap_alloc_new w _,by simp only[Row.n,c6];exact db _,by simp only[maxLen];omega,by rw[<-dy,d9];exact Nat.le_of_eq b4.symm,by
       simp only[Row.n,c6];show List.take (n.toNat*ks.length) _=_;rw[<-b4,f9,jx]⟩⟩ M
      (λg hg=>by simp[Value.ownBlock]at hg;omega)
     refine Ia g3 (G _ _ _ _ _ _ _ h a8 ?_ ?_)
     ·exact TVR.c' ⟨by simp only[B0],by simp only[B0], .inr ⟨_,_,_,by rw[c6]⟩⟩
     ·intro c J;simp at J;subst J;exact⟨_,Fk _ _ _ hn,by simp[Row.n],rfl⟩
  ·simp at h
 |cutR id a=>
  simp only[Bh]at h;split at h
  ·rename_i E O;have hle:Nat.ble a E.l.length=true:=by
    cases hb:Nat.ble a E.l.length
    ·rw[hb]at h;simp at h
    ·rfl
   rw[hle]at h;simp only[aj]at h;have hle:a<=E.n:=bc hle;simp only[Bj]at h;obtain⟨q1,q2,_,xs,q3,Y⟩:=S.ro id E O;have hlen:(E.l.drop a).length=E.n-a:=by simp[Row.n]
   have key : ∃ ad cap, ρ.rv id = .slice ad E.n cap /\ E.n <= cap /\ (let v' : Value := .slice (if cap = a then ad else ad.map (·.add (a * ρ.wd id))) (E.n - a) (cap - a)
     v'.ownBlock=(ρ.rv id).ownBlock/\E1 w E.ty E.w v' (E.n-a) (xs.drop (a*E.w))/\((v'= .slice none 0 0/\E.n-a=0)\/∃g o c,v'= .slice (some ⟨g,o,none⟩) (E.n-a) c)):=by
    have d1:(xs.drop (a*E.w)).length=(E.n-a)*E.w:=by rw[co,q3.1,Nat.sub_mul]
    rcases q3.2 with⟨e1,e2⟩|⟨g,oo,cap,cur,e1,e3,e4,e5,e6,e7⟩
    ·refine⟨none,0,by rw[e1,e2],by omega,?_⟩;have ha:a=0:=by omega
     subst ha;rw[e1,e2];refine⟨rfl,⟨by simpa [e2]using d1, .inl ⟨rfl,rfl⟩⟩, .inl ⟨rfl,rfl⟩⟩
    ·refine⟨_,cap,e1,e4,?_⟩;rw[e1,q2];by_cases g7:cap=a
     ·have c9:E.n=a:=by omega
      simp only[g7,dz];refine⟨rfl,⟨d1, .inr ⟨g,oo,a-a,cur,rfl,e3,by omega,by omega,by simp;omega,?_⟩⟩, .inr ⟨g,oo,_,rfl⟩⟩;rw[c9,jt,ja,List.take_zero];symm;apply f7;rw[d1,c9,jt,ja]
     ·simp only[g7,ig,jl,Addr.add_lit];refine⟨rfl,⟨d1, .inr ⟨g,oo+a*E.w,cap-a,cur,rfl,e3,by omega,by omega,?_,?_⟩⟩, .inr ⟨g,oo+a*E.w,_,rfl⟩⟩
      ·rw[Nat.sub_mul];have:a*E.w<=cap*E.w:=bp _ (by omega);omega
      ·rw[<-e7,List.drop_take,js,<-Nat.sub_mul]
   obtain⟨ad,cap,k1,k2,k3,k4,k5⟩:=key;have g8:=hp ad E.n cap k1 k2 hle;have f0:=S.kill id;have M:RowC ρ.im w E.ks (E.l.drop a) (xs.drop (a*E.w)):=by
    refine⟨by rw[co,q3.1,co,<-Nat.sub_mul],λc J=>Y.2.1 c (d6 J),λi c hi=> ?_⟩;rw[fe]at hi;have:=Y.2.2 (a+i) c hi;have e:cut (xs.drop (a*E.w)) (i*E.ks.length) E.ks.length=cut xs ((a+i)*E.ks.length) E.ks.length:=by
     simp only[cut,js,dt]
    rw[e];exact this
   have a1:=f0.turnRow (id:=id) O (r':=⟨E.ty,E.ks,E.l.drop a⟩) (v':=_) (xs:=xs.drop (a*E.w)) (w':=w) ⟨rfl,rfl,rfl,db _,λ_ _ _=>rfl⟩ rfl (by simp only[Row.n,hlen];exact k4) M (.inl k3)
    (.inr ⟨λv X=>by
     simp only[ba]at X;obtain⟨u,_,rfl⟩:=X;exact TV.kill_free id u,λk b N a' a9=>by
     rw[GO]at N;cases hl:Ac aB k with
     |none=>rw[hl]at N;simp at N
     |some b'=>
      rw[hl]at N;simp at N;subst N;simp only[Box.kill,ba]at a9;obtain⟨u,_,rfl⟩:=a9;exact AC.kill_free id u⟩)
   refine Ia g8 (G _ _ _ _ _ _ _ h a1 ?_ ?_)
   ·refine TVR.c' ⟨by simp only[B0],by simpa using q2,?_⟩;rw[hlen];exact k5
   ·intro c J;simp at J;subst J;exact⟨_,Fb _ _ _ _ O,by simp[Row.n],rfl⟩
  ·simp at h
 |append e ks bytes s x=>
  obtain⟨t,ty,i,z,sv,xv,V,T,U,h4,h5,h6,h7,h8,h9⟩:=hp;subst h5;simp only[Bh]at h;split at h
  ·rename_i m g9;obtain⟨ad,c,news,rfl,M,c7⟩:=Zew S g9 h8;split at h
   ·
    split at h
    ·rename_i d hd;split at h
     ·simp at h
     ·rename_i hn;cases hb:(Nat.ble 1 ks.length&&Nat.ble 1 i.bytes)<;>rw[hb]at h
      ·simp at h
      ·simp only[aj]at h;simp only[al]at hb;have l7:=bc hb.1;have l1:=bc hb.2;cases b3:Nat.ble (m.length*i.bytes) 140737488355328<;>rw[b3]at h
       ·simp at h
       ·simp only[aj,Bj]at h;have hbound:=bc b3;have hm:m.length<=m.length*i.bytes:=jm _ (by omega);simp only[CC,CP]at h7;subst h7;obtain⟨v',w',q1,q2,q3,Y⟩:=Qy9 (P:=P) (ty:=ty) (c:=c) V T U h4 h6 (by omega) (Yd w e ks.length) M.1 c7 (M.one (by omega)) (by simp only[maxLen];omega) (by simpa using hbound);rw[q1]at h9;simp only[d9,bf]at q2;have b0:Below w.heap.size w w':=⟨q3.os,q3.tape,q3.output,q3.size,λk N=>q3.block k N (by simp[Value.ownBlock])⟩;have a8:=S.addRow (d:=d) hn (r:=⟨e,ks,m⟩) (v':=v') (xs:=news) (w':=w') b0 (by show 0<ks.length;omega) q2
         (M.mono (λ_ h => h) (λb I => b0.block b (S.ib b I).1)) (λg' b5 => by
          rcases Y with Y|Y
          ·rw[Y]at b5;simp[Value.ownBlock]at b5
          ·rw[Y]at b5;simp at b5;omega)
        refine Ia h9 (G _ _ _ _ _ _ _ h a8 ?_ ?_)
        ·refine TVR.c' ⟨by simp only[B0],by simp only[B0],?_⟩;rcases q2.2 with⟨e1,e2⟩|⟨g',oo,cap,cur,e1,_⟩
         ·exact .inl ⟨e1,e2⟩
         ·exact .inr ⟨g',oo,cap,e1⟩
        ·intro c J;simp at J;subst J;exact⟨_,Fk _ _ _ hn,rfl,rfl⟩
    ·simp at h
   ·
    rename_i id w1 n1;split at h
    ·rename_i E O;cases hb:(Ds ks E.ks&&Nat.beq E.ty e&&Nat.ble 1 i.bytes)<;>rw[hb]at h
     ·simp at h
     ·simp only[aj]at h;simp only[al]at hb;have e1:=J_ hb.1.1;have e2:=ac hb.1.2;have l1:=bc hb.2;subst e1 e2;cases b3:Nat.ble ((E.l++m).length*i.bytes) 140737488355328<;>rw[b3]at h
      ·simp at h
      ·simp only[aj,Bj]at h;have hbound:=bc b3;rw[ay]at hbound;have hm:E.l.length+m.length<=(E.l.length+m.length)*i.bytes:=jm _ (by omega);obtain⟨q1,q2,_,xs,q3,Y⟩:=S.ro id E O;obtain⟨c1,c2,c3⟩:=h7;subst c1;obtain⟨v',w',p1,p2,p3,p4⟩:=Qy9 (P:=P) (ty:=ty) (c:=c) V T U h4 h6 q1 q3 M.1 c7 (M.one q1) (by simp only[maxLen,Row.n];omega) hbound;rw[p1]at h9;have f0:=S.kill id;have h0:∀b,ρ.im b->w'.heap[b]? =w.heap[b]? :=λb I=>p3.block b (S.ib b I).1 (λe=>(S.ib b I).2.2 id E O e.symm);have i0:=(Y.append M).mono (λ_ h=>h) h0;have a1:=f0.turnRow (id:=id) O (r':=⟨E.ty,E.ks,E.l++m⟩) (v':=v') (xs:=xs++news) (w':=w') p3 rfl (by simpa [Row.n]using p2) i0
        (Ra p4 (λx=>x) (λx g' b5=>by rw[x]at b5;simp at b5;omega))
        (.inr ⟨λv X=>by
         simp only[ba]at X;obtain⟨u,_,rfl⟩:=X;exact TV.kill_free id u,λk b N a' a9=>by
         rw[GO]at N;cases hl:Ac aB k with
         |none=>rw[hl]at N;simp at N
         |some b'=>
          rw[hl]at N;simp at N;subst N;simp only[Box.kill,ba]at a9;obtain⟨u,_,rfl⟩:=a9;exact AC.kill_free id u⟩)
       refine Ia h9 (G _ _ _ _ _ _ _ h a1 ?_ ?_)
       ·refine TVR.c' ⟨by simp only[B0],by simpa using q2,?_⟩;rcases p2.2 with⟨e1,e2⟩|⟨g',oo,cap,cur,e1,_⟩
        ·exact .inl ⟨e1,by simpa [Row.n]using e2⟩
        ·exact .inr ⟨g',oo,cap,by simpa [Row.n]using e1⟩
       ·intro c J;simp at J;subst J;exact⟨_,Fb _ _ _ _ O,by simp[Row.n],rfl⟩
    ·simp at h
   ·simp at h
  ·simp at h
 |call f args=>
  obtain⟨xs,V,T,U⟩:=hp;simp only[Bh]at h;split at h
  ·rename_i g hg;split at h
   ·rename_i as has;obtain⟨b4,f1⟩:=Qtn has;have l2:=a4.1 f g hg;obtain⟨v,mem',X,l3⟩:=l2.run h;split at X
    ·cases b7:((!(args.any TV.hasOwn)||v.flat)&&v.plainB)<;>rw[b7]at X
     ·simp at X
     ·simp only[aj]at X;simp only[al]at b7
      let c8:Nat->Prop:=λb=>ρ.im b\/(args.any TV.hasOwn=true/\∃id E,Ac aC id=some E/\(ρ.rv id).ownBlock=some b)
      have i1:∀b,c8 b->b<w.heap.size:=by
       rintro b (I|⟨_,id,E,O,I⟩)
       ·exact(S.ib b I).1
       ·exact(S.rwlt O I).2
      have c5:∀(i:Nat) (a0:TV),args[i]? =some a0->args.any TV.hasOwn=false->a0.hasOwn=false:=by
       intro i a0 b8 f2;cases hh:a0.hasOwn
       ·rfl
       ·exact absurd (List.any_eq_true.2 ⟨a0,cq b8,hh⟩) (by rw[f2];simp)
      have i2:∀(i:Nat) (a':TV) (x:Value),as[i]? =some a'->xs[i]? =some x->TVR {ρ with im:=c8} w a' x:=by
       intro i a' x a9 hx;obtain⟨_,a0,b8,O⟩:=f1 i a' a9;have d4:∀(a:AC) (y:Value),CP ρ.im w a y->CP c8 w a y:=λa y hh=>CP.mono (λ_ h=> .inl h) (λ_ _=>rfl) a y hh;cases b1:args.any TV.hasOwn
       ·have f2:=c5 i a0 b8 b1;have l4:a0=a':=Z0u f2 O;subst l4;exact Q52 (f1 i a0 a9).1 (λa y _ hh=>d4 a y hh) (T i a0 x b8 hx)
       ·refine Zgk (aB:=aB) ?_ O (a2 a0 (cq b8)) (T i a0 x b8 hx);intro b b' y I hy l8;cases b<;>simp only[AC.res]at I<;>try (simp at I;done)
        case own id w1 n1=>
         split at I
         ·rename_i E d5;simp at I;subst I;obtain⟨q1,q2,_,ys,q3,Y⟩:=S.ro id E d5;obtain⟨c1,c2,c3⟩:=hy;subst c1;exact ZB q3 (Y.mono (λ_ h=> .inl h) (λ_ _=>rfl)) (λg hg=> .inr ⟨b1,id,E,d5,hg⟩)
         ·simp at I
        all_goals
         simp at I;subst I;exact d4 _ _ hy
      have f3:RelE (FA (λb=>b<w.heap.size) w {ρ with im:=c8} []) as [] [] {ρ with im:=c8} xs.toArray w:=by
       refine⟨by simp[b4,V],λi a hi=> ?_,λa ha=> ?_,λk b N=>by simp[Ac]at N,λk b N=>by simp[Ac]at N,λk k' b b' N=>by simp[Ac]at N,λid r hr=>by simp[Ac]at hr,
        λid id' r r' g hr=>by simp[Ac]at hr,λk b id r N=>by simp[Ac]at N,λb hb=>⟨i1 b hb,λk bo N=>by simp[Ac]at N,λid r hr=>by simp[Ac]at hr⟩,Fr.refl _ _,λ_ h=>h,λ_ h=>h,λb h=> .inl h,λk b N=>by simp[FA,Ac]at N⟩
       ·have i3:i<xs.length:=by rw[V,<-b4];exact(fx.1 hi).1
        have e:xs.toArray.getD i undef=xs[i]:=by simp[Array.getD,i3]
        rw[e];exact i2 i a _ hi (ai i3)
       ·obtain⟨i,hi⟩:=List.getElem?_of_mem ha;exact KQ (f1 i a hi).1
      refine UV U ((l3 _ w _ xs f3).mono ?_);rintro e w' ⟨x,ρ',he,a6⟩;have b0:Below w.heap.size w w':=⟨a6.fr.os,a6.fr.tape,a6.fr.output,a6.fr.size,λk N=>a6.fr.block k N⟩;have i4:TVR ρ' w' v x:=by simpa using a6.tv 0 v rfl
      by_cases b1:args.any TV.hasOwn=true
      ·have f4:v.flat=true:=by have:=b7.1;rw[b1]at this;simpa using this
       have f5:RelE Z tm aB aC ρ tmps w':=S.growIm (im':=ρ.im) b0 (λ_ h=>h) (λ_ h=> .inl h);exact⟨x,he,G v _ _ _ ρ x w' X f5 (Zsj f4 i4) (KQ b7.2)⟩
      ·have f5 : RelE Z tm aB aC { ρ with im := ρ'.im } tmps w' := S.growIm b0 (λb hb => a6.i0 b (.inl hb)) (λb hb => by
        rcases a6.i1 b hb with I|I
        ·rcases I with I|⟨I,_⟩
         ·exact .inl I
         ·exact absurd I b1
        ·exact .inr ⟨Nat.not_lt.1 I,(a6.ib b hb).1⟩)
       exact⟨x,he,G v _ _ _ _ x w' X f5 (Q52 (ρ:=ρ') (ρ2:={ρ with im:=ρ'.im}) b7.2 (λ_ _ _ h=>h) i4) (KQ b7.2)⟩
    ·simp at X
   ·simp at h
  ·simp at h
 |callM f args=>
  obtain⟨xs,V,T,U⟩:=hp;exact Zpf a4 S V T U a2 h G
 |callD f args=>
  obtain⟨xs,V,T,U⟩:=hp;exact Zjo a4 S V T U a2 h G
 |callF f args=>
  obtain⟨xs,V,T,U⟩:=hp;exact Z8m a4 S V T U a2 h G
 |appD e ks bytes s x=>simp[Prim.isApp]at c9
theorem Zou (I:Ai P C) (U:RelE Z tm aB aC ρ tmps w) {o:Oper} {a:Act} {p:Prim} (V:JQ P ρ w a.eval o p) (N:Prim.wf aB aC p) {K:TV->St->Option R} {r:R}
  (h:Bh C o.dst p ⟨tm,aB,aC⟩ K=some r) {next:Act->World->Prop} {Q:Exit->Act->World->Prop}
  (J:∀(v:TV) (O:List TV) (E:List (Nat×Box)) (G:List (Nat×Row)) (T:Env) (x:Value) (w':World),K v ⟨O,E,G⟩=some r->RelE Z O E G T tmps w'->TVR T w' v x->TV.wf E G v->next (a.put o.dst x) w'):
  o.wp P a w next Q:=by
 cases S:Prim.isApp (some p)
 ·exact Qqa I U V N S h J
 ·cases p<;>simp[Prim.isApp]at S
  rename_i e ks bytes s x;by_cases M:s= .nilSl
  ·subst M;simp only[Bh]at h;split at h
   ·rename_i m hm;split at h
    ·rename_i d hd;have h':Bh C o.dst (.append e ks bytes .nilSl x) ⟨tm,aB,aC⟩ (λv s=>K v ⟨s.tmps.map (TV.kill d),s.aB.map λp=>(p.1,p.2.kill d),s.aC⟩)=some r:=by
      simp only[Bh,hm,hd];split at h
      ·simp at h
      ·rename_i hn;simp only[Bj]at h⊢;exact h
     refine Qqa I U (p:= .append e ks bytes .nilSl x) V N rfl h' ?_;intro v O E G T y w' hK X hv Y;refine J _ _ _ _ T y w' hK (X.kill d) hv ?_;have a0:∀k,Ac (E.map λp=>(p.1,p.2.kill d)) k=(Ac E k).map (Box.kill d):=λk=>GO (Box.kill d) E k;exact TV.wf_mono (λa=>AC.wf_mono (λk b hk=>⟨b.kill d,by rw[a0,hk];rfl⟩) (λk r hk=>⟨r,hk,rfl,rfl⟩)) Y
    ·simp at h
   ·simp at h
  ·have h':Bh C o.dst (.append e ks bytes s x) ⟨tm,aB,aC⟩ K=some r:=by
    simp only[Bh]at h⊢;split at h
    ·split at h
     ·exact h
     ·exact absurd rfl M
     ·simp at h
    ·simp at h
   exact Qqa I U (p:= .append e ks bytes s x) V N rfl h' J
end
open Go.RowKit
section
variable {P:Program} {C:Cfg} {R:Type}
theorem Qea (op:BinOp) (k:IntKind) (a b:Int) (K:AC->Option R):G0 op k a b K=(G0 op k a b some).bind K:=by
 cases op<;>simp only[G0,ag]
 all_goals first|(cases decide (b=0)<;>rfl)|(cases decide (b<0)<;>rfl)
theorem OL {i:Int}:∀(n k:Nat) {R S:Type} (f:Nat->Option R) (K:R->Option S),Ha i n k (λj=>(f j).bind K)=(Ha i n k f).bind K
 |0,k,_,_,f,K=>rfl
 |n+1,k,_,_,f,K=>by
  simp only[Ha];rw[OL n (k+1) f K];cases decide (i=(k:Int))<;>rfl
theorem Qag (g:Int->Int->Int) (k:IntKind):∀(l:List TV) (a:Int) (K:Prim->Option R),GC g k a l K=(GC g k a l some).bind K
 |[],a,K=>by simp[GC]
 |t::l,a,K=>by
  unfold GC;split
  ·rename_i k' b;cases kEq k k'
   ·rfl
   ·exact Qag g k l (g a b) K
  ·rfl
theorem Zuq (b:Builtin) (E:List TypeId) (args:List TV) (K:Prim->Option R):Np P b E args K=(Np P b E args some).bind K:=by
 unfold Np;split
 case h_6=>exact Qag _ _ _ _ _
 case h_7=>exact Qag _ _ _ _ _
 case h_8=>
  split
  ·split
   ·split
    ·split
     ·cases(Nat.beq _ _&&Nat.beq _ _&&Nat.beq _ _)<;>rfl
     ·rfl
    ·rfl
   ·rfl
  ·rfl
 all_goals
  repeat' split
  all_goals rfl
theorem IE (c:Bool) (p:Prim) (K:Prim->Option R):cond c (K p) none=(cond c (some p) none).bind K:=by cases c<;>rfl
theorem Q0 (E:Operand->TV) (dst:Option Tmp) (o:Op) (K:Prim->Option R):opK P C E dst o K=(opK P C E dst o some).bind K:=by
 cases o
 case pick c a b=>
  simp only[opK];split
  ·rename_i g _;cases g<;>rfl
  ·rfl
 case build t parts=>
  simp only[opK];split
  ·cases(Al _ _)
   ·rfl
   ·simp only[aj];split<;>rfl
  ·split
   ·split<;>rfl
   ·rfl
  ·rfl
 case buildSlice t n parts=>
  simp only[opK];split
  ·split
   ·cases(Nat.beq _ _&&Nat.beq _ _&&Nat.ble 1 _&&Nat.ble _ 65536)
    ·rfl
    ·simp only[aj];split
     ·split
      ·cases Tu C dst _<;>rfl
      ·cases(Al AC.isClo _&&Nat.beq _ 1)<;>rfl
     ·rfl
   ·rfl
  ·rfl
 case makeSlice t len cap=>
  simp only[opK];split
  ·split
   ·split
    ·cases(Nat.beq _ _&&Nat.ble 1 _&&Nat.ble 1 _)
     ·rfl
     ·simp only[aj];exact IE _ _ _
    ·rfl
   ·rfl
  ·rfl
 case makeFunc I a b=>
  simp only[opK];split
  ·split<;>rfl
  ·rfl
 case store t a x=>
  simp only[opK];split
  ·cases(Nat.beq _ _)
   ·rfl
   ·simp only[aj];split<;>rfl
  ·rfl
 case binOp op t x y J=>
  simp only[opK];split
  ·cases(kEq _ _||NO op)
   ·rfl
   ·simp only[aj];rename_i k a k' b _ _;have G:=Qea op k a b (λv=>(some (Prim.val (TV.c v)):Option Prim));rw[Qea,G];cases G0 op k a b some<;>rfl
  ·split<;>rfl
  ·split<;>rfl
  ·cases(P.eqGuardType P.depth t)
   ·simp only[ao];split<;>rfl
   ·rfl
  ·rfl
 case indexAddr t x ix=>
  simp only[opK];split
  ·split
   ·exact OL _ _ (λj=>some _) K
   ·exact OL _ _ (λj=>some _) K
   ·exact OL _ _ (λj=>some _) K
   ·rfl
  ·split
   ·cases(Nat.beq _ _)
    ·rfl
    ·simp only[aj];exact IE _ _ _
   ·cases(Nat.beq _ _)
    ·rfl
    ·simp only[aj];exact IE _ _ _
   ·cases(Nat.beq _ _)
    ·rfl
    ·simp only[aj];exact OL _ _ (λj=>some _) K
   ·rfl
  ·rfl
 case index t x ix=>
  simp only[opK];split
  ·split
   ·rename_i m _;rw[<-OL];congr 1
    funext j
    split<;>rfl
   ·rfl
  ·rfl
 case slice t x lo hi mx=>
  simp only[opK];split
  ·split
   ·cases(Nat.beq _ _)
    ·rfl
    ·simp only[aj];split
     ·rfl
     ·exact IE _ _ _
     ·exact IE _ _ _
     ·exact IE _ _ _
   ·split
    ·cases(Nat.beq _ _)
     ·rfl
     ·simp only[aj];exact IE _ _ _
    ·rfl
   ·split
    ·rfl
    ·exact IE _ _ _
    ·exact IE _ _ _
    ·exact IE _ _ _
   ·rfl
  ·rfl
 case call c=>
  simp only[opK];split
  ·exact Zuq _ _ _ _
  ·cases C.pure _<;>rfl
  ·split
   ·cases(Al _ _&&Al _ _)<;>rfl
   ·rfl
  ·rfl
 all_goals
  simp only[opK]
  repeat' split
  all_goals rfl
end
open Go.RowKit
section
variable {P:Program} {C:Cfg} {R:Type} {aB:List (Nat×Box)} {aC:List (Nat×Row)}
theorem Lw {α:Type} {c:Bool} {p q:α} (h:cond c (some p) none=some q):c=true/\p=q:=by cases c<;>simp at h;exact⟨rfl,h⟩
theorem SW (k:IntKind) (n:Int):TV.wf aB aC (.c (.int k n)):=by intro a E;simp at E;subst E;trivial
theorem Jw (b:Bool):TV.wf aB aC (.c (.bool b)):=by intro a E;simp at E;subst E;trivial
theorem C6 {a:AC} (h:AC.wf aB aC a):TV.wf aB aC (.c a):=by intro b hb;simp at hb;subst hb;exact h
theorem Fv {a:AC} (h:TV.wf aB aC (.c a)):AC.wf aB aC a:=h a (by simp)
theorem Qxs (v:Value):AC.wf aB aC (NL v):=by
 unfold NL;split<;>trivial
theorem Qjk:∀(l:List Value) (cs:List AC),Jj l=some cs->∀a∈cs,AC.wf aB aC a
 |[],cs,h=>by simp[Jj]at h;subst h;intro a E;simp at E
 |v::l,cs,h=>by
  simp only[Jj]at h;cases I:v.oneCell'<;>rw[I]at h
  ·simp at h
  ·simp only[aj]at h;split at h
   ·rename_i G J;simp at h;subst h;intro a E;simp only[av]at E;rcases E with rfl|E
    ·exact Qxs v
    ·exact Qjk l G J a E
   ·simp at h
theorem Zg2 (v:Value):TV.wf aB aC (ofValue v):=by
 unfold ofValue;split
 ·split
  ·rename_i h;exact Qjk _ _ h
  ·trivial
 ·trivial
 ·exact C6 (Qxs v)
theorem Qbe {tm:List TV} (h:∀v∈tm,TV.wf aB aC v) (x:Operand):TV.wf aB aC (A8 tm x):=by
 cases x with
 |tmp t=>
  simp only[A8,B7,List.getD];cases E:tm[t]? with
  |none=>trivial
  |some v=>exact h v (cq E)
 |const v=>exact Zg2 v
 |global=>trivial
 |func=>trivial
theorem UR {t:TypeId} {cs:List AC} (h:JN P t=some cs):∀a∈cs,AC.wf aB aC a:=by
 unfold JN at h;split at h
 ·split at h
  ·exact Qjk _ _ h
  ·simp at h
 ·simp at h
theorem Zc1 {z:List AC} (E:∀a∈z,AC.wf aB aC a):∀n,∀a∈Ns z n,AC.wf aB aC a
 |0,a,h=>by simp[Ns]at h
 |n+1,a,h=>by
  simp only[Ns,bq]at h;rcases h with h|h
  ·exact E a h
  ·exact Zc1 E n a h
theorem TV.cells_wf {v:TV} {cs:List AC} (h:v.cells=some cs) (E:TV.wf aB aC v):∀a∈cs,AC.wf aB aC a:=by
 cases v<;>simp[TV.cells]at h
 subst h;exact E
theorem Vz {α:Type} {x:α}:∀(l:List α) (o:Nat) (E:List α),x∈splice l o E->x∈l\/x∈E
 |l,o,[],h=>by rw[RY]at h;exact .inl h
 |[],o,_::_,h=>by simp[splice]at h
 |y::l,0,v::E,h=>by
  simp only[splice,av]at h;rcases h with rfl|h
  ·exact .inr (by simp)
  ·rcases Vz l 0 E h with h|h
   ·exact .inl (by simp[h])
   ·exact .inr (by simp[h])
 |y::l,o+1,v::E,h=>by
  simp only[splice,av]at h;rcases h with rfl|h
  ·exact .inl (by simp)
  ·rcases Vz l o (v::E) h with h|h
   ·exact .inl (by simp[h])
   ·exact .inr h
theorem VU {place:Nat->Option (Nat×Nat)}:∀(parts:List (Nat×TV)) (z cs:List AC),Jd place z parts=some cs->(∀a∈z,AC.wf aB aC a)->(∀p∈parts,TV.wf aB aC p.2)->∀a∈cs,AC.wf aB aC a
 |[],z,cs,h,G,_=>by simp[Jd]at h;subst h;exact G
 |(i,v)::parts,z,cs,h,G,J=>by
  simp only[Jd]at h;split at h
  ·rename_i off size l M N;cases hb:(Nat.beq l.length size&&Nat.ble (off+size) z.length)<;>rw[hb]at h
   ·simp at h
   ·refine VU parts _ _ h (λa E=> ?_) (λp I=>J p (by simp[I]));rcases Vz _ _ _ E with E|E
    ·exact G a E
    ·exact TV.cells_wf N (J (i,v) (by simp)) a E
  ·simp at h
theorem SK {G:Operand->TV} (E:∀x,TV.wf aB aC (G x)):∀(l:List (Nat×Operand)),∀p∈Gu G l,TV.wf aB aC p.2
 |[],p,h=>by simp[Gu]at h
 |x::l,p,h=>by
  simp only[Gu,av]at h;rcases h with rfl|h
  ·exact E _
  ·exact SK E l p h
theorem Ps {G:Operand->TV} (E:∀x,TV.wf aB aC (G x)):∀(l:List Operand),∀v∈C9 G l,TV.wf aB aC v
 |[],p,h=>by simp[C9]at h
 |x::l,p,h=>by
  simp only[C9,av]at h;rcases h with rfl|h
  ·exact E _
  ·exact Ps E l p h
theorem RM {g:Bool} {sz off:Nat} {cells:List AC} {v:TV} (h:DV g sz cells off=some v) (J:∀a∈cells,AC.wf aB aC a):TV.wf aB aC v:=by
 unfold DV at h;cases g
 ·simp only[ao]at h;split at h
  ·rename_i c E;simp at h;subst h;exact C6 (J _ (cq E))
  ·simp at h
 ·simp only[aj]at h;cases G:Nat.ble (off+sz) cells.length<;>rw[G]at h
  ·simp at h
  ·simp at h;subst h;intro c I;exact J c (d6 (eu I))
theorem Qxi {t:TypeId} {cs:List AC} {off:Nat} {v:TV} (h:Ob P t cs off=some v) (E:∀a∈cs,AC.wf aB aC a):TV.wf aB aC v:=by
 unfold Ob at h;split at h
 ·exact RM h E
 ·simp at h
theorem Zor {op:BinOp} {k:IntKind} {a b:Int} {c:AC} (h:G0 op k a b some=some c):AC.wf aB aC c:=by
 cases op<;>simp only[G0]at h
 case quo=>cases hb:decide (b=0)<;>rw[hb]at h<;>simp at h;subst h;trivial
 case rem=>cases hb:decide (b=0)<;>rw[hb]at h<;>simp at h;subst h;trivial
 case shl=>cases hb:decide (b<0)<;>rw[hb]at h<;>simp at h;subst h;trivial
 case shr=>cases hb:decide (b<0)<;>rw[hb]at h<;>simp at h;subst h;trivial
 all_goals (simp at h;subst h;trivial)
theorem Qfs (g:Int->Int->Int) (k:IntKind):∀(l:List TV) (a:Int) (p:Prim),GC g k a l some=some p->Prim.wf aB aC p
 |[],a,p,h=>by simp[GC]at h;subst h;exact SW _ _
 |t::l,a,p,h=>by
  unfold GC at h;split at h
  ·rename_i k' b;cases E:kEq k k'<;>rw[E]at h
   ·simp at h
   ·exact Qfs g k l _ p h
  ·simp at h
theorem Zje (k:Kd) (a:AC):(M9 k a).calm=true:=by
 cases k<;>try rfl
 cases a<;>rfl
theorem Zbx:∀(ks:List Kd) (cs:List AC) (j:Nat),Al AC.calm (E7 ks cs j)=true
 |[],_,_=>rfl
 |k::ks,cs,j=>by simp only[E7,Al,Zje,aj];exact Zbx ks cs (j+1)
theorem Qze {cs:List AC} (h:Al AC.calm cs=true):∀a∈cs,AC.wf aB aC a:=by
 intro a E;have:=AD.1 h a E;cases a<;>first|trivial|(simp[AC.calm]at this)
theorem Qin:∀{l:List TV} {as:List AC},JY l=some as->(∀v∈l,TV.wf aB aC v)->∀a∈as,AC.wfP aB a
 |[],as,h,_=>by simp[JY]at h;subst h;intro a G;simp at G
 |v::l,as,h,E=>by
  unfold JY at h;split at h
  ·simp at*
  ·rename_i a N heq;simp only[jn]at heq;obtain⟨rfl,rfl⟩:=heq;cases I:a.clOk<;>rw[I]at h
   ·simp at h
   ·simp only[aj]at h;split at h
    ·rename_i r J;simp at h;subst h;intro b hb;simp only[av]at hb;rcases hb with rfl|hb
     ·have:=E (.c b) (by simp) b (by simp);cases b<;>first|exact this|trivial
     ·exact Qin J (λv M=>E v (by simp[M])) b hb
    ·simp at h
  ·simp at h
theorem Qcw {ev:Operand->TV} (G:∀x,TV.wf aB aC (ev x)) {dst:Option Tmp} {o:Op} {p:Prim} (h:opK P C ev dst o some=some p):Prim.wf aB aC p:=by
 cases o<;>simp only[opK]at h<;>try (simp at h;done)
 case move x=>simp at h;subst h;exact G x
 case assign x=>simp at h;subst h;exact G x
 case pick c a b=>
  split at h
  ·rename_i g _;cases g<;>simp at h<;>subst h
   ·exact G b
   ·exact G a
  ·simp at h
 case alloc t=>
  split at h
  ·rename_i cs T;simp at h;subst h;exact UR T
  ·simp at h
 case box t x=>
  split at h
  ·rename_i cs hc;simp at h;subst h;exact TV.cells_wf hc (G x)
  ·simp at h
 case build t parts=>
  split at h
  ·rename_i z fs T hu;cases V:(Al (Mb P) fs.toList)<;>rw[V]at h
   ·simp at h
   ·simp only[aj]at h;split at h
    ·rename_i cs hb;simp at h;subst h;exact VU _ _ _ hb (UR T) (SK G _)
    ·simp at h
  ·rename_i z n el T hu;split at h
   ·split at h
    ·rename_i cs hb;simp at h;subst h;exact VU _ _ _ hb (UR T) (SK G _)
    ·simp at h
   ·simp at h
  ·simp at h
 case buildSlice t n parts=>
  split at h
  ·split at h
   ·cases hb:(Nat.beq _ _&&Nat.beq _ _&&Nat.ble 1 _&&Nat.ble _ 65536)<;>rw[hb]at h
    ·simp at h
    ·simp only[aj]at h;split at h
     ·rename_i T _ _ cs a0;split at h
      ·cases a1:Tu C dst n<;>rw[a1]at h<;>simp at h<;>subst h<;>trivial
      ·cases U:(Al AC.isClo cs&&Nat.beq _ 1)<;>rw[U]at h
       ·simp at h
       ·simp only[aj]at h;simp at h;subst h;refine VU _ _ _ a0 (λa O=> ?_) (SK G _);exact Zc1 (UR T) _ a O
     ·simp at h
   ·simp at h
  ·simp at h
 case makeSlice t len cap=>
  split at h
  ·split at h
   ·split at h
    ·cases hb:(Nat.beq _ _&&Nat.ble 1 _&&Nat.ble 1 _)<;>rw[hb]at h
     ·simp at h
     ·simp only[aj]at h;obtain⟨_,rfl⟩:=Lw h;trivial
    ·simp at h
   ·simp at h
  ·simp at h
 case makeFunc fn a b=>
  split at h
  ·split at h
   ·rename_i fs cs a2 a3;simp at h;subst h;exact C6 ⟨Qin a2 (Ps G _),Qin a3 (Ps G _)⟩
   ·simp at h
  ·simp at h
 case load t a=>
  split at h
  ·have O:=G a;split at h
   ·rename_i key off E;simp at h;subst h;rw[E]at O;exact Fv O
   ·rename_i cells sub E;split at h
    ·rename_i v N;simp at h;subst h;rw[E]at O;exact RM N (Qze (Fv O))
    ·simp at h
   ·rename_i id idx sub E;simp at h;subst h;rw[E]at O;exact Fv O
   ·simp at h
  ·simp at h
 case store t a x=>
  split at h
  ·rename_i sz cs hs hc;cases hb:(Nat.beq cs.length sz)<;>rw[hb]at h
   ·simp at h
   ·simp only[aj]at h;have O:=G a;split at h
    ·rename_i key off E;simp at h;subst h;rw[E]at O;exact⟨Fv O,TV.cells_wf hc (G x)⟩
    ·rename_i id idx sub E;simp at h;subst h;rw[E]at O;exact Fv O
    ·simp at h
  ·simp at h
 case nilCheck x=>
  have I:=G x;split at h
  all_goals first|(simp at h;done)|(rename_i E;simp at h;subst h;rw[E]at I;exact I)
 case binOp op t x y yt=>
  split at h
  ·cases hk:(kEq _ _||NO op)<;>rw[hk]at h
   ·simp at h
   ·simp only[aj]at h;rename_i k a k' b _ _;rw[Qea]at h;cases hi:G0 op k a b some with
    |none=>rw[hi]at h;simp at h
    |some c=>rw[hi]at h;simp at h;subst h;exact C6 (Zor hi)
  ·split at h
   ·simp at h;subst h;exact Jw _
   ·simp at h;subst h;exact Jw _
   ·simp at h
  ·split at h
   ·simp at h;subst h;exact Jw _
   ·simp at h;subst h;exact Jw _
   ·simp at h
  ·cases hg:P.eqGuardType P.depth t<;>rw[hg]at h
   ·simp only[ao]at h;split at h
    ·simp at h;subst h;exact Jw _
    ·simp at h;subst h;exact Jw _
    ·simp at h
   ·simp at h
  ·simp at h
 case unOp a4 t x=>
  split at h
  ·simp at h;subst h;exact SW _ _
  ·simp at h;subst h;exact Jw _
  ·simp at h
 case convert src dst x=>
  split at h
  ·simp at h;subst h;exact SW _ _
  ·simp at h
 case fieldAddr t x i=>
  split at h
  ·split at h
   ·have I:=G x;split at h
    ·rename_i E;simp at h;subst h;rw[E]at I;have q:=Fv I;exact C6 q
    ·rename_i E;simp at h;subst h;rw[E]at I;have q:=Fv I;exact C6 q
    ·rename_i E;simp at h;subst h;rw[E]at I;have q:=Fv I;exact C6 q
    ·simp at h
   ·simp at h
  ·simp at h
 case field t x i=>
  split at h
  ·rename_i f cs hf E;split at h
   ·rename_i v X;simp at h;subst h;have I:=G x;rw[E]at I;exact Qxi X I
   ·simp at h
  ·simp at h
 case indexAddr t x ix=>
  split at h
  ·have I:=G x;split at h
   ·rename_i E;obtain⟨j,J,_⟩:=Ib h;simp at J;subst J;rw[E]at I;have q:=Fv I;exact C6 q
   ·rename_i E;obtain⟨j,J,_⟩:=Ib h;simp at J;subst J;rw[E]at I;have q:=Fv I;exact C6 q
   ·rename_i E;obtain⟨j,J,_⟩:=Ib h;simp at J;subst J;rw[E]at I;have q:=Fv I;exact C6 q
   ·simp at h
  ·have I:=G x;split at h
   ·rename_i m ks l hm E;cases hb:Nat.beq m ks.length<;>rw[hb]at h
    ·simp at h
    ·simp only[aj]at h;obtain⟨_,rfl⟩:=Lw h;exact C6 (Zbx _ _ _)
   ·rename_i m id wd n hm E;cases hb:Nat.beq m wd<;>rw[hb]at h
    ·simp at h
    ·simp only[aj]at h;obtain⟨hd,rfl⟩:=Lw h;rw[E]at I;obtain⟨r,J,h2,h3⟩:=Fv I;simp at hd;exact C6 ⟨r,J,by omega⟩
   ·rename_i m key n hm E;cases hb:Nat.beq m 1<;>rw[hb]at h
    ·simp at h
    ·simp only[aj]at h;obtain⟨j,J,_⟩:=Ib h;simp at J;subst J;rw[E]at I;have q:=Fv I;exact C6 q
   ·simp at h
  ·simp at h
 case index t x ix=>
  split at h
  ·rename_i i n el cs hi hu E;split at h
   ·obtain⟨j,J,_⟩:=Ib h;have I:=G x;rw[E]at I;split at J
    ·rename_i v X;simp at J;subst J;exact Qxi X I
    ·simp at J
   ·simp at h
  ·simp at h
 case slice t x lo hi mx=>
  split at h
  ·split at h
   ·rename_i m ks l hm E;cases hb:Nat.beq m ks.length<;>rw[hb]at h
    ·simp at h
    ·simp only[aj]at h;split at h
     ·simp at h;subst h;exact C6 trivial
     all_goals
      obtain⟨_,rfl⟩:=Lw h;exact C6 trivial
   ·split at h
    ·cases hb:Nat.beq _ _<;>rw[hb]at h
     ·simp at h
     ·simp only[aj]at h;obtain⟨_,rfl⟩:=Lw h;trivial
    ·simp at h
   ·split at h
    ·simp at h;subst h;exact C6 trivial
    all_goals
     obtain⟨_,rfl⟩:=Lw h;exact C6 trivial
   ·simp at h
  ·simp at h
 case extract t i=>
  have ht:=G t;split at h
  ·rename_i ps E;split at h
   ·rename_i g cs hg;simp at h;subst h;rw[E]at ht;exact ht (g,cs) (cq hg)
   ·simp at h
  ·simp at h
 case call c=>
  split at h
  ·rename_i b hb;have M:=Ps G c.args.toList
   revert M h
   generalize C9 ev c.args.toList=args;intro h M;unfold Np at h;split at h
   case h_6=>exact Qfs _ _ _ _ _ h
   case h_7=>exact Qfs _ _ _ _ _ h
   case h_8=>
    rename_i s x
    repeat' split at h
    all_goals try (simp at h;done)
    obtain⟨_,rfl⟩:=Lw h;exact⟨Fv (M _ (by simp)),Fv (M _ (by simp))⟩
   all_goals
    repeat' split at h
    all_goals first|(simp at h;done)|(simp at h;subst h;exact SW _ _)
  ·rename_i f hf;cases X:C.pure f<;>rw[X]at h<;>simp at h<;>subst h<;>exact Ps G _
  ·rename_i t ht;split at h
   ·rename_i f fs cs U;cases S:(Al AC.clOk fs&&Al AC.clOk cs)<;>rw[S]at h
    ·simp at h
    simp only[aj,ap]at h;subst h;simp only[al]at S;have N:=G (.tmp t);rw[U]at N;have hq:=Fv N;have Y:∀l:List AC,(∀a∈l,AC.wfP aB a)->Al AC.clOk l=true->∀v∈l.map TV.c,TV.wf aB aC v:=by
     intro l J h2 v N;simp only[ba]at N;obtain⟨a,O,rfl⟩:=N;have q1:=J a O;have q2:=AD.1 h2 a O;cases a<;>first|exact C6 q1|(simp[AC.clOk]at q2;done)|exact C6 trivial
    intro v N;rcases bq.1 N with N|N
    ·exact Y fs hq.1 S.1 v N
    ·rcases bq.1 N with N|N
     ·exact Ps G _ v N
     ·exact Y cs hq.2 S.2 v N
   ·simp at h
  ·simp at h
end
open Go.RowKit
def Rel (Z:Base) (s:St) (tmps:Array Value) (w:World):Prop:=∃ρ,RelE Z s.tmps s.aB s.aC ρ tmps w
section
variable {P:Program} {C:Cfg} {w:World} {R:Type} {Z:Base}
theorem RelE.put {ρ:Env} {tm:List TV} {aB:List (Nat×Box)} {aC:List (Nat×Row)} {tmps:Array Value} (h:RelE Z tm aB aC ρ tmps w) (d:Nat) {v:TV} {x:Value} (J:TVR ρ w v x) (M:TV.wf aB aC v):
  RelE Z (setL tm d v) aB aC ρ (tmps.setIfInBounds d x) w:=by
 rw[I7];refine⟨by simp[h.tl],λi u hi=> ?_,λu G=> ?_,h.wb,h.bx,h.bi,h.ro,h.ri,h.br,h.ib,h.fr,h.fs,h.i0,h.i1,h.k0⟩
 ·rw[jd]at hi;by_cases E:d=i
  ·subst E;simp only[dz]at hi;split at hi
   ·rename_i I;simp at hi;subst hi;have:d<tmps.size:=by rw[<-h.tl];exact I
    simpa [Array.getD,this]using J
   ·simp at hi
  ·rw[aa E]at hi;have:=h.tv i u hi;have e:(tmps.setIfInBounds d x).getD i undef=tmps.getD i undef:=by
    simp[Array.getD_eq_getD_getElem?,Array.getElem?_setIfInBounds_ne E]
   rw[e];exact this
 ·rcases d8 G with G|rfl
  ·exact h.wt u G
  ·exact M
theorem RelE.learn {ρ:Env} {tm:List TV} {aB:List (Nat×Box)} {aC:List (Nat×Row)} {tmps:Array Value} (h:RelE Z tm aB aC ρ tmps w) (d:Nat) {v:TV} (I:TVR ρ w v (tmps.getD d undef)) (J:TV.wf aB aC v):
  RelE Z (setL tm d v) aB aC ρ tmps w:=by
 rw[I7];refine⟨by simp[h.tl],λi u hi=> ?_,λu G=> ?_,h.wb,h.bx,h.bi,h.ro,h.ri,h.br,h.ib,h.fr,h.fs,h.i0,h.i1,h.k0⟩
 ·rw[jd]at hi;by_cases E:d=i
  ·subst E;simp only[dz]at hi;split at hi
   ·simp at hi;subst hi;exact I
   ·simp at hi
  ·rw[aa E]at hi;exact h.tv i u hi
 ·rcases d8 G with G|rfl
  ·exact h.wt u G
  ·exact J
theorem FU (s:St) (d:Option Tmp) (v:TV) (K:St->Option R):put s d v K=K (match d with|none=>s|some t=>⟨setL s.tmps t v,s.aB,s.aC⟩):=by
 obtain⟨tm,aB,aC⟩:=s;cases d with
 |none=>rfl
 |some t=>simp only[put,Bj]
theorem Q53 {ρ:Env} {tm:List TV} {aB:List (Nat×Box)} {aC:List (Nat×Row)} {a:Act} (h:RelE Z tm aB aC ρ a.tmps w) (x:Operand):TVR ρ w (A8 tm x) (a.eval x):=by
 cases x with
 |tmp t=>
  simp only[A8,B7,List.getD,Act.eval];cases E:tm[t]? with
  |none=>trivial
  |some v=>exact h.tv t v E
 |const v=>exact Z5k v
 |global=>trivial
 |func=>trivial
theorem U6:∀(l:List Nat) (s:St) (tmps:Array Value),Rel Z s tmps w->∀(K:St->Option R) (r:R),I8 l s K=some r->∃I,K I=some r/\Rel Z I tmps w
 |[],s,tmps,E,K,r,h=>⟨s,h,E⟩
 |id::l,s,tmps,E,K,r,h=>by
  obtain⟨tm,aB,aC⟩:=s;simp only[I8]at h;split at h
  ·rename_i J G;simp only[Bj]at h;obtain⟨ρ,E⟩:=E;exact U6 l _ tmps ⟨_,E.freeze G⟩ K r h
  ·exact U6 l _ tmps E K r h
theorem Z8n {k o:Nat} {e:TypeId} {s:St} {tmps:Array Value} (E:Rel Z s tmps w) {K:St->Option R} {r:R} (h:Ne P k o e s K=some r):∃I,K I=some r/\Rel Z I tmps w:=by
 obtain⟨tm,aB,aC⟩:=s;obtain⟨ρ,E⟩:=E;simp only[Ne]at h;split at h
 ·rename_i b J;split at h
  ·rename_i M;split at h
   ·rename_i ks N;cases G:(Nat.ble 1 ks.length&&Ih aC (1000000+1000*k+o))<;>rw[G]at h
    ·simp at h
    ·simp only[aj,Bj]at h;simp only[al]at G;exact⟨_,h,_,E.promB J M (Qkp G.2) (bc G.1)⟩
   ·simp at h
  ·exact⟨_,h,ρ,E⟩
 ·exact⟨_,h,ρ,E⟩
theorem Qvs:∀(l:List (Nat×Nat×TypeId)) (s:St) (tmps:Array Value),Rel Z s tmps w->∀(K:St->Option R) (r:R),JB P l s K=some r->∃E,K E=some r/\Rel Z E tmps w
 |[],s,tmps,G,K,r,h=>⟨s,h,G⟩
 |(k,o,e)::l,s,tmps,G,K,r,h=>by
  simp only[JB]at h;obtain⟨E,h',I⟩:=Z8n G h;exact Qvs l E tmps I K r h'
theorem Td:∀(l:List (Nat×TypeId)) (s:St) (tmps:Array Value),Rel Z s tmps w->∀(K:St->Option R) (r:R),Jx P l s K=some r->∃T,K T=some r/\Rel Z T tmps w
 |[],s,tmps,G,K,r,h=>⟨s,h,G⟩
 |(t,e)::l,s,tmps,G,K,r,h=>by
  obtain⟨tm,aB,aC⟩:=s;simp only[Jx]at h;split at h
  ·rename_i J;split at h
   ·rename_i ks E V;cases U:Nat.ble 1 ks.length<;>rw[U]at h
    ·simp at h
    ·simp only[aj,Bj]at h;refine Td l _ tmps ?_ K r h;obtain⟨ρ,G⟩:=G;have M:=G.addRow (d:=t) E (r:=⟨e,ks,[]⟩) (v':= .slice none 0 0) (xs:=[]) (w':=w) (Below.refl _ _) (bc U) (Yd w e ks.length) ⟨by simp,by simp,λi c hi=>by simp at hi⟩ (λg X=>by simp[Value.ownBlock]at X);refine⟨_,M.learn t ?_ (C6 ⟨_,Fk _ _ _ E,rfl,rfl⟩)⟩;have Y:tmps.getD t undef= .slice none 0 0:=by
      have N:t<tm.length:=by
       rcases ke t tm.length with O|S
       ·exact O
       ·rw[B7,List.getD,dm S]at J;simp at J
      have I:tm[t]? =some (.c .nilSl):=by
       rw[B7,List.getD]at J;rw[ai N]at J⊢;simpa using J
      have:=(G.tv t _ I).c;simpa [CC,CP]using this
     rw[Y];exact TVR.c' ⟨by simp only[B0],by simp only[B0], .inl ⟨rfl,rfl⟩⟩
   ·simp at h
  ·exact Td l _ tmps G K r h
theorem RZ {s:St} {tmps:Array Value} (J:Rel Z s tmps w) {K:St->Option R} {r:R} (h:Ij P C s K=some r):∃G,K G=some r/\Rel Z G tmps w:=by
 unfold Ij at h;obtain⟨G,h',ρ,E⟩:=Qvs _ s tmps J _ r h;obtain⟨tm,aB,aC⟩:=G;simp only[Bj]at h';refine Td _ _ tmps ?_ K r h';refine⟨ρ,?_⟩;refine E.reBox (g:=λ_ b=>TN P b) (λ_ b=> ?_) λk b I=> ?_
 ·unfold TN;split<;>rfl
 ·unfold TN;split
  ·rename_i ks _;exact⟨λxs h=>Ll ks b.cells xs h,NV ks b.cells (E.wb k b I)⟩
  ·exact⟨λxs h=>h,E.wb k b I⟩
theorem Z4j {o:Op} {s:St} {tmps:Array Value} (J:Rel Z s tmps w) {K:St->Option R} {r:R} (h:IV P C o s K=some r):∃I,K I=some r/\Rel Z I tmps w:=by
 unfold IV at h;obtain⟨s1,G,E⟩:=U6 _ s tmps J _ r h;cases M:Xq C o<;>rw[M]at G
 ·exact⟨s1,G,E⟩
 ·exact RZ E G
theorem Z60 {pre:Bool} {ρ:Env} {e:Operand->Value} {o:Oper} {p:Prim} (h:JQ P ρ w e o p):JQ P ρ w e o (p.dr pre):=by
 cases pre<;>cases p<;>first|exact h|(simp only[Prim.dr];cases Al TV.plainB _<;>exact h)
theorem ZV {pre:Bool} {bx:List (Nat×Box)} {aC:List (Nat×Row)} {p:Prim} (h:Prim.wf bx aC p):Prim.wf bx aC (p.dr pre):=by
 cases pre<;>cases p<;>first|exact h|(simp only[Prim.dr];cases Al TV.plainB _<;>exact h)
theorem Qzy (E:Ai P C) (U:∀t∈C.eqOk,P.stoodInHeld t=false) {s:St} {o:Oper} {a:Act} (I:Rel Z s a.tmps w) {K:Option Prim->St->Option R} {r:R}
  {pre:Bool} (h:(opK P C (A8 s.tmps) o.dst o.op λp=>Bh C o.dst (p.dr pre) s λv O=>put O o.dst v (K (some (p.dr pre))))=some r) {next:Act->World->Prop} {Q:Exit->Act->World->Prop}
  (G:∀(po:Option Prim) (O:St) (V:Act) (w':World),K po O=some r->Rel Z O V.tmps w'->V.defers=a.defers->next V w'):o.wp P a w next Q:=by
 obtain⟨ρ,I⟩:=I;obtain⟨tm,aB,aC⟩:=s;have X:=λx=>Q53 I x;rw[Q0]at h;cases S:opK P C (A8 tm) o.dst o.op some with
 |none=>rw[S]at h;simp at h
 |some p=>
  rw[S]at h;simp only[ag]at h;obtain⟨p',J,M⟩:=Zfz U X (λf=>rfl) o S;simp at J;subst J;have Y:=Qcw (aB:=aB) (aC:=aC) (λx=>Qbe I.wt x) S;refine Zou E I (Z60 M) (ZV Y) h ?_;intro v a2 T a0 ρ' x w' hK N hv a1;rw[FU]at hK;refine G (some (p'.dr pre)) _ _ w' hK ?_ ?_
  ·cases hd:o.dst with
   |none=>exact⟨ρ',N⟩
   |some d=>exact⟨ρ',N.put d hv a1⟩
  ·cases o.dst<;>rfl
theorem Qg4 (E:Ai P C) (I:∀t∈C.eqOk,P.stoodInHeld t=false) {pre:Bool} {s:St} {o:Oper} {a:Act} (O:Rel Z s a.tmps w) {K:Option Prim->St->Option R} {r:R}
  (h:((bif pre then IV P C o.op s else λK=>K s) λs=>opK P C (A8 s.tmps) o.dst o.op λp=>Bh C o.dst (p.dr pre) s λv J=>put J o.dst v (K (some (p.dr pre))))=some r) {next:Act->World->Prop} {Q:Exit->Act->World->Prop}
  (G:∀(S:Option Prim) (J:St) (M:Act) (w':World),K S J=some r->Rel Z J M.tmps w'->M.defers=a.defers->next M w'):o.wp P a w next Q:=by
 cases pre
 ·exact Qzy E I O h G
 ·obtain⟨J,h',N⟩:=Z4j O h;exact Qzy E I N h' G
theorem Qwc (J:Ai P C) (V:∀t∈C.eqOk,P.stoodInHeld t=false) {pre:Bool} {ops:Array Oper} {s:St} {o:Oper} {a:Act} (hR:Rel Z s a.tmps w) {K:Option Prim->St->Option R} {r:R}
  (h:F7 P C pre ops.toList o s K=some r) {next:Act->World->Prop} {Q:Exit->Act->World->Prop}
  (I:∀(po:Option Prim) (s':St) (a':Act) (w':World),K po s'=some r->Rel Z s' a'.tmps w'->a'.defers=a.defers->next a' w'):
  if Region.wanted o (yielded ops a.tmps)=true then o.wp P a w next Q else next (a.put o.dst undef) w:=by
 have M:∀s':St,Rel Z s' a.tmps w->put s' o.dst (.tup []) (K none)=some r->next (a.put o.dst undef) w:=by
  intro s' G hp;rw[FU]at hp;refine I none _ _ w hp ?_ (by cases o.dst<;>rfl);obtain⟨ρ,G⟩:=G;cases hd:o.dst with
  |none=>exact⟨ρ,G⟩
  |some d=>exact⟨ρ,G.put d ⟨#[],rfl,trivial⟩ (λp hp=>by simp at hp)⟩
 unfold F7 Qe at h;cases hg:o.guard with
 |none=>
  rw[hg]at h;rw[ab (by simp[Region.wanted,hg])];exact Qg4 J V hR h I
 |some jw=>
  obtain⟨j,want⟩:=jw;rw[hg]at h;simp only at h;split at h
  ·rename_i oj hj;split at h
   ·rename_i t ht;split at h
    ·rename_i g E;obtain⟨ρ,N⟩:=hR;have T:t<s.tmps.length:=by
      rcases ke t s.tmps.length with X|Y
      ·exact X
      ·rw[B7,List.getD,dm Y]at E;simp at E
     have O:s.tmps[t]? =some (.c (.bool g)):=by
      rw[B7,List.getD]at E;rw[ai T]at E⊢;simpa using E
     have S:=(N.tv t _ O).bool;have U:t<a.tmps.size:=by rw[<-N.tl];exact T
     have a0:a.tmps[t]? =some (.bool g):=by
      rw[jg U];rw[Array.getD,dif_pos U]at S;simpa using S
     have hy:yielded ops a.tmps j=some g:=by
      unfold yielded;have a1:ops[j]? =some oj:=by simpa using hj
      simp[a1,ht,a0]
     have hl:∀b,g=b->Rel Z ⟨setL s.tmps t (.c (.bool b)),s.aB,s.aC⟩ a.tmps w:=by
      rintro b rfl;exact⟨ρ,N.learn t (by rw[S];exact TVR.mkBool _) (Jw _)⟩
     have hw:Region.wanted o (yielded ops a.tmps)=(g==want):=by
      simp only[Region.wanted,hg,hy];cases g<;>cases want<;>rfl
     cases g
     ·simp only[ao]at h;rw[FU]at h;dsimp only at h;have G:=hl false rfl;cases want
      ·rw[ab (by rw[hw];rfl)];simp only[ao]at h;exact Qg4 J V G h I
      ·rw[aa (by rw[hw];simp)];simp only[aj]at h;exact M _ G h
     ·simp only[aj]at h;rw[FU]at h;dsimp only at h;have G:=hl true rfl;cases want
      ·rw[aa (by rw[hw];simp)];simp only[ao]at h;exact M _ G h
      ·rw[ab (by rw[hw];rfl)];simp only[aj]at h;exact Qg4 J V G h I
    ·rename_i E;obtain⟨ρ,N⟩:=hR;have T:t<s.tmps.length:=by
      rcases ke t s.tmps.length with X|Y
      ·exact X
      ·rw[B7,List.getD,dm Y]at E;simp at E
     have O:s.tmps[t]? =some (.tup []):=by
      rw[B7,List.getD]at E;rw[ai T]at E⊢;simpa using E
     obtain⟨ys,a2,S⟩:=N.tv t _ O;have U:t<a.tmps.size:=by rw[<-N.tl];exact T
     have a0:a.tmps[t]? =some (.tuple ys):=by
      rw[jg U];rw[Array.getD,dif_pos U]at a2;simpa using a2
     have hy:yielded ops a.tmps j=none:=by
      unfold yielded;have a1:ops[j]? =some oj:=by simpa using hj
      simp[a1,ht,a0]
     have hw:Region.wanted o (yielded ops a.tmps)=false:=by
      simp only[Region.wanted,hg,hy];rfl
     rw[aa (by rw[hw];simp)];exact M _ ⟨ρ,N⟩ h
    ·simp at h
   ·simp at h
  ·simp at h
theorem Q8s (E:Ai P C) (G:∀t∈C.eqOk,P.stoodInHeld t=false) {ops:Array Oper} {Q:Exit->Act->World->Prop} {K:St->Option R} {r:R}:
  ∀(l:List Oper) (s:St) (a:Act) (w:World),Rel Z s a.tmps w->T9 P C ops.toList l s K=some r->
  (∀(J:St) (I:Act) (w':World),K J=some r->Rel Z J I.tmps w'->I.defers=a.defers->Q .normal I w')->wpList P ops Q l a w
 |[],s,a,w,M,h,N=>N s a w h M rfl
 |o::l,s,a,w,M,h,N=>by
  simp only[T9]at h;have:=Qwc (next:=wpList P ops Q l) (Q:=Q) E G M h (λpo J I w' T O U=>Q8s E G l J I w' O T (λs2 a2 V X Y h3=>N s2 a2 V X Y (h3.trans U)));simp only[wpList];split
  ·rename_i S;rw[ab S]at this;exact .inl this
  ·rename_i S;rw[aa S]at this;exact this
end
open Go.RowKit
def SL (s:St) (d:Option Tmp) (v:TV):St:=
 match d with
 |none=>s
 |some t=>⟨setL s.tmps t v,s.aB,s.aC⟩
section
variable {P:Program} {C:Cfg} {w:World} {R:Type} {Z:Base}
theorem MJ (s:St) (d:Option Tmp) (v:TV) (K:St->Option R):put s d v K=K (SL s d v):=FU s d v K
def AA (dst:Option Tmp) (p:Prim) (aB:List (Nat×Box)) (aC:List (Nat×Row)):Option (TV×List (Nat×Box)):=
 match p with
 | .val v=>some (v,aB)
 | .load g sz key off=>match Ac aB key with
  |some b=>match DV g sz b.cells off with
   |some v=>some (v,aB)
   |none=>none
  |none=>none
 | .store key off cs=>match Ac aB key with
  |some b=>if Nat.ble (off+cs.length) b.cells.length then some (.dead,upd aB key ⟨b.ty,splice b.cells off cs⟩)else none
  |none=>none
 | .new ty cs=>match dst with
  |some d=>match Ac aB d with
   |some _=>none
   |none=>some (.c (.ptr d 0),ins aB d ⟨ty,cs⟩)
  |none=>none
 | .newView _ ks l=>some (.c (.vC ks l),aB)
 | .rload g sz id idx sub=>match Ac aC id with
  |some r=>match DV g sz (r.f idx) sub with
   |some v=>some (v,aB)
   |none=>none
  |none=>none
 | .call f args=>match C.spec f with
  |some g=>match Hb aC args with
   |some l=>match g (TV×Mem) l ⟨[],[]⟩ (λv m=>some (v,m))with
    |some (v,⟨[],[]⟩)=>if((!(args.any TV.hasOwn)||v.flat)&&v.plainB)=true then some (v,aB)else none
    |_=>none
   |none=>none
  |none=>none
 | .callD f args=>match C.spec f with
  |some g=>
   if(Al (TV.inK (A_ (cat AC.keys (cat TV.cellsOf args)) []) []) args&&Al (λk=>Al AC.calm (E4 aB k)) (A_ (cat AC.keys (cat TV.cellsOf args)) [])&&BY (A_ (cat AC.keys (cat TV.cellsOf args)) []))=true then
    match Ef aB (λk=>base+pos (A_ (cat AC.keys (cat TV.cellsOf args)) []) k) (λi=>base+pos [] i) base (A_ (cat AC.keys (cat TV.cellsOf args)) [])with
    |some G=>match g (TV×Mem) (args.map (TV.ren (λk=>base+pos (A_ (cat AC.keys (cat TV.cellsOf args)) []) k) (λi=>base+pos [] i))) ⟨G,[]⟩ (λv m=>some (v,m))with
     |some (v,⟨E,[]⟩)=>
      if(Al (λp:Nat×Box=>EO E p.1) G&&Al (λp:Nat×Box=>EO G p.1) E&&BY (E.map (·.1))&&Al (λp:Nat×Box=>Al AC.calm p.2.cells) E&&v.plainB)=true then
       some (v,C2 (A_ (cat AC.keys (cat TV.cellsOf args)) []) E aB)
      else none
     |_=>none
    |none=>none
   else none
  |none=>none
 |_=>none
theorem Zrh (E:Ai P C) {dst:Option Tmp} {p:Prim} (U:Prim.simple (some p)=true) (O:Prim.isApp (some p)=false) (M:Prim.isMk (some p)=false) (s:St) (K:TV->St->Option R):
  Bh C dst p s K=(AA (C:=C) dst p s.aB s.aC).bind λq=>K q.1 ⟨s.tmps,q.2,s.aC⟩:=by
 obtain⟨tm,aB,aC⟩:=s;cases p<;>simp only[Prim.simple]at U<;>try (simp at U;done)
 case appD=>simp[Prim.isApp]at O
 case callF=>simp[Prim.isMk]at M
 case newRow=>simp[Prim.isMk]at M
 case val v=>rfl
 case newView e ks l=>rfl
 case rload g sz id idx sub=>
  simp only[Bh,AA];cases I:Ac aC id with
  |none=>rfl
  |some r=>
   dsimp only;cases S:DV g sz (r.f idx) sub<;>rfl
 case load g sz key off=>
  simp only[Bh,AA];cases I:Ac aB key with
  |none=>rfl
  |some b=>
   dsimp only;cases S:DV g sz b.cells off<;>rfl
 case store key off cs=>
  simp only[Bh,AA];cases I:Ac aB key with
  |none=>rfl
  |some b=>
   dsimp only;cases Nat.ble (off+cs.length) b.cells.length
   ·rfl
   ·simp only[aj,Bj,dz,ag]
 case new ty cs=>
  simp only[Bh,AA];cases dst with
  |none=>rfl
  |some d=>
   dsimp only;cases I:Ac aB d with
   |some _=>rfl
   |none=>simp only[Bj,ag]
 case call f args=>
  simp only[Bh,AA];cases I:C.spec f with
  |none=>rfl
  |some g=>
   dsimp only;cases S:Hb aC args with
   |none=>rfl
   |some l=>
    dsimp only;have J:=E.1 f g I;rw[J.nat];cases V:g (TV×Mem) l ⟨[],[]⟩ (λv m=>some (v,m))with
    |none=>rfl
    |some q=>
     obtain⟨v,⟨N,T⟩⟩:=q;simp only[ag];cases N with
     |cons _ _=>rfl
     |nil=>
      cases T with
      |cons _ _=>rfl
      |nil=>
       dsimp only;cases((!(args.any TV.hasOwn)||v.flat)&&v.plainB)<;>rfl
 case callD f args=>
  simp only[Bh,AA];cases I:C.spec f with
  |none=>rfl
  |some g=>
   dsimp only;simp only[Bj];generalize A_ (cat AC.keys (cat TV.cellsOf args)) []=keys;cases X:(Al (TV.inK keys []) args&&Al (λk=>Al AC.calm (E4 aB k)) keys&&BY keys)
   ·simp
   ·simp only[aj,dz];cases S:Ef aB (λk=>base+pos keys k) (λi=>base+pos [] i) base keys with
    |none=>rfl
    |some N=>
     dsimp only;have J:=E.1 f g I;rw[J.nat];cases V:g (TV×Mem) (args.map (TV.ren (λk=>base+pos keys k) (λi=>base+pos [] i))) ⟨N,[]⟩ (λv m=>some (v,m))with
     |none=>rfl
     |some q=>
      obtain⟨v,⟨G,T⟩⟩:=q;simp only[ag];cases T with
      |cons _ _=>rfl
      |nil=>
       dsimp only;cases(Al (λp:Nat×Box=>EO G p.1) N&&Al (λp:Nat×Box=>EO N p.1) G&&BY (G.map (·.1))&&Al (λp:Nat×Box=>Al AC.calm p.2.cells) G&&v.plainB)<;>rfl
theorem Cl {α:Type} {c:Bool} {p:Option α} {q:α} (h:cond c p none=some q):c=true/\p=some q:=by cases c<;>simp at h;exact⟨rfl,h⟩
def Qep (aC:List (Nat×Row)) (e:TypeId) (ks:List Kd) (bytes id:Nat) (x:AC):Option (TV×List (Nat×Row)):=
 match Hy aC ks x with
 |some m=>match Ac aC id with
  |some r=>if(Ds ks r.ks&&Nat.beq r.ty e&&Nat.ble 1 bytes)=true then
    if Nat.ble ((r.l++m).length*bytes) 140737488355328=true then some (.c (.own id r.ks.length (r.l++m).length),upd aC id ⟨e,r.ks,r.l++m⟩)else none
   else none
  |none=>none
 |none=>none
def XC (id:Nat) (tm:List TV) (bx:List (Nat×Box)) (aC:List (Nat×Row)):St:=⟨tm.map (TV.kill id),bx.map λp=>(p.1,p.2.kill id),aC⟩
def Qmn (aC:List (Nat×Row)) (e:TypeId) (ks:List Kd) (bytes d:Nat) (x:AC):Option (TV×List (Nat×Row)):=
 match Hy aC ks x with
 |some m=>match Ac aC d with
  |some _=>none
  |none=>if(Nat.ble 1 ks.length&&Nat.ble 1 bytes)=true then
    if Nat.ble (m.length*bytes) 140737488355328=true then some (.c (.own d ks.length m.length),ins aC d ⟨e,ks,m⟩)else none
   else none
 |none=>none
def KP (dst:Option Tmp):Prim->Option Nat
 | .appD _ _ _ (.own id _ _) _=>some id
 | .appD _ _ _ .nilSl _=>dst
 |_=>none
def Lg (dst:Option Tmp) (aC:List (Nat×Row)):Prim->Option (TV×List (Nat×Row))
 | .appD e ks bytes (.own id _ _) x=>Qep aC e ks bytes id x
 | .appD e ks bytes .nilSl x=>match dst with
  |some d=>Qmn aC e ks bytes d x
  |none=>none
 |_=>none
def mkG (dst:Option Tmp) (p:Prim):Option (TV×Option (Nat×Row)):=
 match p with
 | .newRow e ks l=>match dst with
  |some d=>some (.c (.own (C.rowAs d) ks.length l.length),some (C.rowAs d,⟨e,ks,l⟩))
  |none=>none
 | .callF f args=>match C.spec f with
  |some g=>if Al TV.plainB args=true then match g (TV×Mem) args ⟨[],[]⟩ (λv m=>some (v,m))with
    |some (v,⟨[],[]⟩)=>if v.plainB=true then some (v,none)else none
    |some (.v false [.own j _ _],⟨[],[(k,r)]⟩)=>if Nat.beq j k=true then some (.c (.own (HR (dst.getD 0)) r.ks.length r.l.length),some (HR (dst.getD 0),r))else none
    |_=>none
   else none
  |none=>none
 |_=>none
def mkD (dst:Option Tmp) (p:Prim) (aC:List (Nat×Row)):Option (TV×List (Nat×Row)):=
 match mkG (C:=C) dst p with
 |some (v,none)=>some (v,aC)
 |some (v,some (k,r))=>match Ac aC k with
  |some _=>none
  |none=>some (v,ins aC k r)
 |none=>none
def Fq (dst:Option Tmp) (p:Prim) (s:St):Option (TV×St):=
 bif Prim.isApp (some p)then match KP dst p with
  |some id=>(Lg dst s.aC p).map λq=>(q.1,XC id s.tmps s.aB q.2)
  |none=>none
 else bif Prim.isMk (some p)then(mkD (C:=C) dst p s.aC).map λq=>(q.1,⟨s.tmps,s.aB,q.2⟩)
 else(AA (C:=C) dst p s.aB s.aC).map λq=>(q.1,⟨s.tmps,q.2,s.aC⟩)
theorem Q62 (E:Ai P C) {dst:Option Tmp} {p:Prim} (S:Prim.simple (some p)=true) (s:St) (K:TV->St->Option R):
  Bh C dst p s K=(Fq (C:=C) dst p s).bind λq=>K q.1 q.2:=by
 cases I:Prim.isApp (some p)with
 |false=>
  cases J:Prim.isMk (some p)with
  |false=>
   rw[Zrh E S (by rw[I]) J];unfold Fq;rw[I,J];simp only[ao];cases AA (C:=C) dst p s.aB s.aC<;>rfl
  |true=>
   obtain⟨tm,aB,aC⟩:=s;unfold Fq;rw[I,J];simp only[ao,aj];cases p<;>simp[Prim.isMk]at J
   case newRow e ks l=>
    simp only[Bh,mkD,mkG];cases dst with
    |none=>rfl
    |some d=>
     dsimp only;cases Ac aC (C.rowAs d)with
     |some _=>rfl
     |none=>simp only[Bj];rfl
   case callF f args=>
    simp only[Bh,mkD,mkG];cases T:C.spec f with
    |none=>rfl
    |some g=>
     dsimp only;cases Y:Al TV.plainB args
     ·rfl
     simp only[aj,dz];have M:=E.1 f g T;rw[M.nat];cases h3:g (TV×Mem) args ⟨[],[]⟩ (λv m=>some (v,m))with
     |none=>rfl
     |some q=>
      obtain⟨v,⟨U,V⟩⟩:=q;simp only[ag];cases U with
      |cons _ _=>cases v<;>rfl
      |nil=>
       cases V with
       |nil=>
        dsimp only;cases v.plainB<;>rfl
       |cons p l=>
        obtain⟨k,r⟩:=p;cases l with
        |cons _ _=>rfl
        |nil=>
         dsimp only;split
         ·rename_i j w0 n0;cases G:Nat.beq j k
          ·simp only[G,dx,ig];rfl
          ·simp only[aj,G,dz];cases O:Ac aC (HR (dst.getD 0))with
           |some _=>simp only[O];rfl
           |none=>simp only[Bj,O];rfl
         ·rename_i N;cases v with
          |dead=>rfl
          |tup ps=>rfl
          |v g cs=>
           cases g with
           |true=>rfl
           |false=>
            cases cs with
            |nil=>rfl
            |cons a l=>
             cases l with
             |cons _ _=>cases a<;>rfl
             |nil=>cases a<;>first|rfl|exact absurd rfl (N _ _ _)
 |true=>
  obtain⟨tm,aB,aC⟩:=s;cases p<;>simp[Prim.isApp]at I
  rename_i e ks bytes X x;unfold Fq;simp only[Prim.isApp,aj,Bh];cases X
  case own id w' n=>
   dsimp only[KP,Lg,Qep];cases Hy aC ks x with
   |none=>rfl
   |some m=>
    dsimp only;cases Ac aC id with
    |none=>rfl
    |some r=>
     dsimp only;cases(Ds ks r.ks&&Nat.beq r.ty e&&Nat.ble 1 bytes)
     ·rfl
     ·simp only[aj,dz];cases Nat.ble ((r.l++m).length*bytes) 140737488355328
      ·rfl
      ·simp only[aj,dz,Bj];rfl
  case nilSl=>
   dsimp only[KP,Lg];cases dst with
   |none=>cases Hy aC ks x<;>rfl
   |some d=>
    dsimp only[Qmn];cases Hy aC ks x with
    |none=>rfl
    |some m=>
     dsimp only;cases Ac aC d with
     |some _=>rfl
     |none=>
      dsimp only;cases(Nat.ble 1 ks.length&&Nat.ble 1 bytes)
      ·rfl
      ·simp only[aj,dz];cases Nat.ble (m.length*bytes) 140737488355328
       ·rfl
       ·simp only[aj,dz,Bj];rfl
  all_goals
   dsimp only[KP];cases Hy aC ks x<;>rfl
theorem Zlq (E:Ai P C) {dst:Option Tmp} {p:Prim} {s:St} {K:TV->St->Option R} {r:R} (h:Bh C dst p s K=some r):∃v I,K v I=some r:=by
 obtain⟨tm,aB,aC⟩:=s;cases p<;>simp only[Bh]at h
 case val v=>exact⟨_,_,h⟩
 case newView e ks l=>exact⟨_,_,h⟩
 case load g sz key off=>
  repeat' split at h
  all_goals first|(simp at h;done)|exact⟨_,_,h⟩
 case store key off cs=>
  split at h
  ·rename_i b _;cases hb:Nat.ble (off+cs.length) b.cells.length<;>rw[hb]at h
   ·simp at h
   ·simp only[aj,Bj]at h;exact⟨_,_,h⟩
  ·simp at h
 case new ty cs=>
  split at h
  ·split at h
   ·simp at h
   ·simp only[Bj]at h;exact⟨_,_,h⟩
  ·simp at h
 case newS ty n cs=>
  split at h
  ·split at h
   ·simp at h
   ·simp only[Bj]at h;exact⟨_,_,h⟩
  ·simp at h
 case rload g sz id idx sub=>
  repeat' split at h
  all_goals first|(simp at h;done)|exact⟨_,_,h⟩
 case rstore id idx sub cs=>
  split at h
  ·rename_i J _;cases hb:(Nat.ble (sub+cs.length) J.w&&Al AC.plain cs)<;>rw[hb]at h
   ·simp at h
   ·simp only[aj]at h;split at h
    ·simp only[Bj]at h;exact⟨_,_,h⟩
    ·simp at h
  ·simp at h
 case newRow e ks l=>
  split at h
  ·split at h
   ·simp at h
   ·simp only[Bj]at h;exact⟨_,_,h⟩
  ·simp at h
 case make e ks bytes n z=>
  split at h
  ·split at h
   ·simp at h
   ·obtain⟨_,h⟩:=Cl h;simp only[Bj]at h;exact⟨_,_,h⟩
  ·simp at h
 case cutR id a=>
  split at h
  ·obtain⟨_,h⟩:=Cl h;simp only[Bj]at h;exact⟨_,_,h⟩
  ·simp at h
 case append e ks bytes s x=>
  split at h
  ·split at h
   ·split at h
    ·split at h
     ·simp at h
     ·obtain⟨_,h⟩:=Cl h;obtain⟨_,h⟩:=Cl h;simp only[Bj]at h;exact⟨_,_,h⟩
    ·simp at h
   ·split at h
    ·obtain⟨_,h⟩:=Cl h;obtain⟨_,h⟩:=Cl h;simp only[Bj]at h;exact⟨_,_,h⟩
    ·simp at h
   ·simp at h
  ·simp at h
 case call f args=>
  split at h
  ·rename_i g G;split at h
   ·obtain⟨v,m,h',_⟩:=(E.1 f g G).run h;split at h'
    ·obtain⟨_,h'⟩:=Cl h';exact⟨_,_,h'⟩
    ·simp at h'
   ·simp at h
  ·simp at h
 case callM f args=>
  split at h
  ·rename_i g G;simp only[Bj]at h;obtain⟨_,h⟩:=Cl h;split at h
   ·obtain⟨v,m,h',_⟩:=(E.1 f g G).run h;obtain⟨_,h'⟩:=Cl h';exact⟨_,_,h'⟩
   ·simp at h
  ·simp at h
 case callF f args=>
  split at h
  ·rename_i g G;obtain⟨_,h⟩:=Cl h;obtain⟨v,m,h',_⟩:=(E.1 f g G).run h;split at h'
   ·obtain⟨_,h'⟩:=Cl h';exact⟨_,_,h'⟩
   ·split at h'
    ·obtain⟨_,h'⟩:=Cl h';split at h'
     ·simp at h'
     ·simp only[Bj]at h';exact⟨_,_,h'⟩
    ·simp at h'
   ·simp at h'
  ·simp at h
 case appD e ks bytes s x=>
  split at h
  ·split at h
   ·split at h
    ·obtain⟨_,h⟩:=Cl h;obtain⟨_,h⟩:=Cl h;simp only[Bj]at h;exact⟨_,_,h⟩
    ·simp at h
   ·split at h
    ·split at h
     ·simp at h
     ·obtain⟨_,h⟩:=Cl h;obtain⟨_,h⟩:=Cl h;simp only[Bj]at h;exact⟨_,_,h⟩
    ·simp at h
   ·simp at h
  ·simp at h
 case callD f args=>
  split at h
  ·rename_i g G;simp only[Bj]at h;obtain⟨_,h⟩:=Cl h;split at h
   ·obtain⟨v,m,h',_⟩:=(E.1 f g G).run h;split at h'
    ·obtain⟨_,h'⟩:=Cl h';exact⟨_,_,h'⟩
    ·simp at h'
   ·simp at h
  ·simp at h
theorem Zdx (I:Ai P C) (dst:Option Tmp) (p:Prim) (s:St) (K:TV->St->Option R):Bh C dst p s K=(Bh C dst p s λv S=>some (v,S)).bind λq=>K q.1 q.2:=by
 obtain⟨tm,aB,aC⟩:=s;cases p<;>simp only[Bh,Bj]
 case val v=>rfl
 case newView e ks l=>rfl
 case load g sz key off=>
  cases Ac aB key with
  |none=>rfl
  |some b=>
   dsimp only;cases DV g sz b.cells off<;>rfl
 case store key off cs=>
  cases Ac aB key with
  |none=>rfl
  |some b=>
   dsimp only;cases Nat.ble (off+cs.length) b.cells.length<;>rfl
 case new ty cs=>
  cases dst with
  |none=>rfl
  |some d=>
   dsimp only;cases Ac aB d<;>rfl
 case newS ty n cs=>
  cases dst with
  |none=>rfl
  |some d=>
   dsimp only;cases Ac aB d<;>rfl
 case rload g sz id idx sub=>
  cases Ac aC id with
  |none=>rfl
  |some r=>
   dsimp only;cases DV g sz (r.f idx) sub<;>rfl
 case rstore id idx sub cs=>
  cases Ac aC id with
  |none=>rfl
  |some r=>
   dsimp only;cases(Nat.ble (sub+cs.length) r.w&&Al AC.plain cs)
   ·rfl
   ·simp only[aj];cases IC r.ks (splice (r.f idx) sub cs)<;>rfl
 case newRow e ks l=>
  cases dst with
  |none=>rfl
  |some d=>
   dsimp only;cases Ac aC (C.rowAs d)<;>rfl
 case make e ks bytes n z=>
  cases dst with
  |none=>rfl
  |some d=>
   dsimp only;cases Ac aC d with
   |some _=>rfl
   |none=>
    dsimp only;cases(decide (0<=n)&&decide (n*(bytes:Int)<=140737488355328))<;>rfl
 case cutR id a=>
  cases Ac aC id with
  |none=>rfl
  |some r=>
   dsimp only;cases Nat.ble a r.l.length<;>rfl
 case append e ks bytes s x=>
  cases Hy aC ks x with
  |none=>rfl
  |some m=>
   dsimp only;cases s
   case nilSl=>
    dsimp only;cases dst with
    |none=>rfl
    |some d=>
     dsimp only;cases Ac aC d with
     |some _=>rfl
     |none=>
      dsimp only;cases(Nat.ble 1 ks.length&&Nat.ble 1 bytes)
      ·rfl
      ·simp only[aj];cases Nat.ble (m.length*bytes) 140737488355328<;>rfl
   case own id w' n=>
    dsimp only;cases Ac aC id with
    |none=>rfl
    |some r=>
     dsimp only;cases(Ds ks r.ks&&Nat.beq r.ty e&&Nat.ble 1 bytes)
     ·rfl
     ·simp only[aj];cases Nat.ble ((r.l++m).length*bytes) 140737488355328<;>rfl
   all_goals rfl
 case appD e ks bytes s x=>
  cases Hy aC ks x with
  |none=>rfl
  |some m=>
   dsimp only;cases s
   case nilSl=>
    dsimp only;cases dst with
    |none=>rfl
    |some d=>
     dsimp only;cases Ac aC d with
     |some _=>rfl
     |none=>
      dsimp only;cases(Nat.ble 1 ks.length&&Nat.ble 1 bytes)
      ·rfl
      ·simp only[aj];cases Nat.ble (m.length*bytes) 140737488355328<;>rfl
   case own id w' n=>
    dsimp only;cases Ac aC id with
    |none=>rfl
    |some r=>
     dsimp only;cases(Ds ks r.ks&&Nat.beq r.ty e&&Nat.ble 1 bytes)
     ·rfl
     ·simp only[aj];cases Nat.ble ((r.l++m).length*bytes) 140737488355328<;>rfl
   all_goals rfl
 case call f args=>
  cases N:C.spec f with
  |none=>rfl
  |some g=>
   dsimp only;cases Hb aC args with
   |none=>rfl
   |some l=>
    dsimp only;have E:=I.1 f g N;rw[E.nat,E.nat (TV×St)];cases g (TV×Mem) l ⟨[],[]⟩ (λv m=>some (v,m))with
    |none=>rfl
    |some q=>
     obtain⟨v,⟨M,O⟩⟩:=q;simp only[ag];cases M with
     |cons _ _=>rfl
     |nil=>
      cases O with
      |cons _ _=>rfl
      |nil=>
       dsimp only;cases((!(args.any TV.hasOwn)||v.flat)&&v.plainB)<;>rfl
 case callM f args=>
  cases N:C.spec f with
  |none=>rfl
  |some g=>
   dsimp only;have E:=I.1 f g N;generalize LX aB 4 (A_ (cat AC.keys (cat TV.cellsOf args)) [])=keys;generalize OA aB (cat TV.cellsOf args) keys=ids;cases(Al (TV.inK keys ids) args&&Al (λk=>Al (AC.inK keys ids) (E4 aB k)) keys&&BY keys&&BY ids)
   ·rfl
   ·simp only[aj];cases Ef aB (λk=>base+pos keys k) (λi=>base+pos ids i) base keys with
    |none=>cases GS aC base ids<;>rfl
    |some M=>
     cases GS aC base ids with
     |none=>rfl
     |some O=>
      dsimp only;rw[E.nat,E.nat (TV×St)];cases g (TV×Mem) (args.map (TV.ren (λk=>base+pos keys k) (λi=>base+pos ids i))) ⟨M,O⟩ (λv m=>some (v,m))with
      |none=>rfl
      |some q=>
       obtain⟨v,⟨G,J⟩⟩:=q;simp only[ag];cases(Al (λp:Nat×Box=>EO G p.1) M&&BY (G.map (·.1))&&BY (J.map (·.1))&&Al (λk=>Ih aB (BX keys (Bu keys G) (dst.getD 0) k)) (Bu keys G)&&Al (λk=>Ih aC (BX ids (Bu ids J) (dst.getD 0) k)) (Bu ids J)&&Nat.ble (Bu keys G).length 100&&Nat.ble (Bu ids J).length 100)<;>rfl
 case callF f args=>
  cases N:C.spec f with
  |none=>rfl
  |some g=>
   dsimp only;have E:=I.1 f g N;cases Al TV.plainB args
   ·rfl
   ·simp only[aj];rw[E.nat,E.nat (TV×St)];cases g (TV×Mem) args ⟨[],[]⟩ (λv m=>some (v,m))with
    |none=>rfl
    |some q=>
     obtain⟨v,⟨M,O⟩⟩:=q;simp only[ag];cases M with
     |cons _ _=>rfl
     |nil=>
      cases O with
      |nil=>dsimp only;cases v.plainB<;>rfl
      |cons p l=>
       obtain⟨k,r⟩:=p;cases l with
       |cons _ _=>rfl
       |nil=>
        dsimp only;split
        ·rename_i j w0 T;cases Nat.beq j k
         ·rfl
         ·simp only[aj];cases Ac aC (HR (dst.getD 0))<;>rfl
        ·rfl
 case callD f args=>
  cases N:C.spec f with
  |none=>rfl
  |some g=>
   dsimp only;have E:=I.1 f g N;generalize A_ (cat AC.keys (cat TV.cellsOf args)) []=keys;cases(Al (TV.inK keys []) args&&Al (λk=>Al AC.calm (E4 aB k)) keys&&BY keys)
   ·rfl
   ·simp only[aj];cases Ef aB (λk=>base+pos keys k) (λi=>base+pos [] i) base keys with
    |none=>rfl
    |some M=>
     dsimp only;rw[E.nat,E.nat (TV×St)];cases g (TV×Mem) (args.map (TV.ren (λk=>base+pos keys k) (λi=>base+pos [] i))) ⟨M,[]⟩ (λv m=>some (v,m))with
     |none=>rfl
     |some q=>
      obtain⟨v,⟨G,J⟩⟩:=q;simp only[ag];cases J with
      |cons _ _=>rfl
      |nil=>
       dsimp only;cases(Al (λp:Nat×Box=>EO G p.1) M&&Al (λp:Nat×Box=>EO M p.1) G&&BY (G.map (·.1))&&Al (λp:Nat×Box=>Al AC.calm p.2.cells) G&&v.plainB)<;>rfl
theorem Vt:∀(l:List Nat) (s:St) (K:St->Option R),I8 l s K=(I8 l s some).bind K
 |[],s,K=>rfl
 |id::l,⟨tm,aB,aC⟩,K=>by
  simp only[I8,Bj];cases Ac aC id with
  |none=>exact Vt l _ K
  |some r=>exact Vt l _ K
theorem Q0g (k o:Nat) (e:TypeId) (s:St) (K:St->Option R):Ne P k o e s K=(Ne P k o e s some).bind K:=by
 obtain⟨tm,aB,aC⟩:=s;simp only[Ne,Bj];cases Ac aB k with
 |none=>rfl
 |some b=>
  dsimp only;cases nth .dead b.cells o<;>try rfl
  dsimp only;cases Gx P 8 e with
  |none=>rfl
  |some ks=>
   dsimp only;cases(Nat.ble 1 ks.length&&Ih aC (1000000+1000*k+o))<;>rfl
theorem Qfk:∀(l:List (Nat×Nat×TypeId)) (s:St) (K:St->Option R),JB P l s K=(JB P l s some).bind K
 |[],s,K=>rfl
 |(k,o,e)::l,s,K=>by
  simp only[JB];rw[Q0g,Q0g (K:=λE=>JB P l E some)];cases Ne P k o e s some with
  |none=>rfl
  |some E=>exact Qfk l E K
theorem V5:∀(l:List (Nat×TypeId)) (s:St) (K:St->Option R),Jx P l s K=(Jx P l s some).bind K
 |[],s,K=>rfl
 |(t,e)::l,⟨tmps,aB,aC⟩,K=>by
  simp only[Jx];split
  ·split
   ·rename_i ks _ _;cases Nat.ble 1 ks.length
    ·rfl
    ·simp only[aj,Bj];exact V5 l _ K
   ·rfl
  ·exact V5 l _ K
theorem Zp1 (s:St) (K:St->Option R):Ij P C s K=(Ij P C s some).bind K:=by
 simp only[Ij,Bj];rw[Qfk]
 conv=>rhs;rw[Qfk]
 cases JB P (cat (λp:Nat×Box=>bif AW C.ownBut p.1 then []else(C.ownOff p.2.ty).map λq=>(p.1,q.1,q.2)) s.aB) s some with
 |none=>rfl
 |some E=>exact V5 _ _ K
theorem Qxb (o:Op) (s:St) (K:St->Option R):IV P C o s K=(IV P C o s some).bind K:=by
 unfold IV;rw[Vt]
 conv=>rhs;rw[Vt]
 cases I8 (Q9w C (A8 s.tmps) o) s some with
 |none=>rfl
 |some E=>
  simp only[ag];cases Xq C o
  ·rfl
  ·exact Zp1 E K
theorem Zga (I:Ai P C) (pre:Bool) (ops:List Oper) (o:Oper) (s:St) (K:Option Prim->St->Option R):F7 P C pre ops o s K=(F7 P C pre ops o s λp E=>some (p,E)).bind λq=>K q.1 q.2:=by
 have J:∀s:St,((bif pre then IV P C o.op s else λK=>K s) λs=>opK P C (A8 s.tmps) o.dst o.op λp=>Bh C o.dst (p.dr pre) s λv E=>put E o.dst v (K (some (p.dr pre))))=
   ((bif pre then IV P C o.op s else λK=>K s) λs=>opK P C (A8 s.tmps) o.dst o.op λp=>Bh C o.dst (p.dr pre) s λv E=>put E o.dst v ((λp E=>some (p,E)) (some (p.dr pre)))).bind λq=>K q.1 q.2:=by
  have M:∀s:St,(opK P C (A8 s.tmps) o.dst o.op λp=>Bh C o.dst (p.dr pre) s λv E=>put E o.dst v (K (some (p.dr pre))))=(opK P C (A8 s.tmps) o.dst o.op λp=>Bh C o.dst (p.dr pre) s λv E=>put E o.dst v ((λp E=>some (p,E)) (some (p.dr pre)))).bind λq=>K q.1 q.2:=by
   intro s;rw[Q0]
   conv=>rhs;rw[Q0]
   cases opK P C (A8 s.tmps) o.dst o.op some with
   |none=>rfl
   |some p=>
    simp only[ag];rw[Zdx I]
    conv=>rhs;rw[Zdx I]
    cases Bh C o.dst (p.dr pre) s λv E=>some (v,E)with
    |none=>rfl
    |some q=>simp only[ag,MJ]
  intro s;cases pre
  ·exact M s
  ·simp only[aj];rw[Qxb]
   conv=>rhs;rw[Qxb]
   cases IV P C o.op s some with
   |none=>rfl
   |some E=>exact M E
 have G:∀s:St,put s o.dst (.tup []) (K none)=(put s o.dst (.tup []) ((λp E=>some (p,E)) none)).bind λq=>K q.1 q.2:=by
  intro s;simp only[MJ,ag]
 unfold F7 Qe;cases o.guard with
 |none=>exact J s
 |some N=>
  obtain⟨j,want⟩:=N;dsimp only;cases ops[j]? with
  |none=>rfl
  |some O=>
   dsimp only;cases O.dst with
   |none=>rfl
   |some t=>
    dsimp only;split
    ·rename_i g _;cases g
     ·simp only[ao];rw[FU]
      conv=>rhs;rw[FU]
      cases want
      ·exact J _
      ·exact G _
     ·simp only[aj];rw[FU]
      conv=>rhs;rw[FU]
      cases want
      ·exact G _
      ·exact J _
    ·exact G _
    ·rfl
def Cf (ops:List Oper) (o:Oper) (tm:List TV):Option Bool:=
 match o.guard with
 |none=>some true
 |some (j,want)=>match ops[j]? with
  |some E=>match E.dst with
   |some t=>match nth .dead tm t with
    | .c (.bool g)=>some (g==want)
    | .tup []=>some false
    |_=>none
   |none=>none
  |none=>none
def CF (ops:List Oper) (o:Oper) (s:St):Option (Option Prim×St):=
 match Cf ops o s.tmps with
 |some true=>(opK P C (A8 s.tmps) o.dst o.op some).bind λp=>(Fq (C:=C) o.dst (p.dr false) s).bind λq=>some (some (p.dr false),SL q.2 o.dst q.1)
 |some false=>some (none,SL s o.dst (.tup []))
 |none=>none
theorem Q64 {tm:List TV} {t:Nat} {v:TV} (h:nth .dead tm t=v) (G:v≠ .dead):setL tm t v=tm:=by
 rw[B7,List.getD]at h;rw[I7];cases E:tm[t]? with
 |none=>rw[E]at h;simp at h;exact absurd h.symm G
 |some u=>
  rw[E]at h;simp at h;subst h;apply iu;intro i;rw[jd];split
  ·rename_i e;subst e;split
   ·exact E.symm
   ·rename_i I;rw[dm (by omega)]
  ·rfl
theorem Zyx (J:Ai P C) {ops:List Oper} {o:Oper} {s:St} {K:Option Prim->St->Option R} {r:R} (h:F7 P C false ops o s K=some r):
  (∃p G,CF (P:=P) (C:=C) ops o s=some (p,G)/\K p G=some r)\/(∃p G,K (some p) G=some r/\Prim.simple (some p)=false):=by
 have M:∀s1:St,Cf ops o s.tmps=some true->s1=s->(opK P C (A8 s1.tmps) o.dst o.op λp=>Bh C o.dst (p.dr false) s1 λv G=>put G o.dst v (K (some (p.dr false))))=some r->
   (∃p G,CF (P:=P) (C:=C) ops o s=some (p,G)/\K p G=some r)\/(∃p G,K (some p) G=some r/\Prim.simple (some p)=false):=by
  rintro s1 O rfl h;rw[Q0]at h;cases T:opK P C (A8 s1.tmps) o.dst o.op some with
  |none=>rw[T]at h;simp at h
  |some p=>
   rw[T]at h;simp only[ag]at h;cases V:Prim.simple (some (p.dr false))
   ·right;obtain⟨v,G,X⟩:=Zlq J h;rw[MJ]at X;exact⟨p.dr false,_,X,V⟩
   ·left;rw[Q62 J V]at h;cases U:Fq (C:=C) o.dst (p.dr false) s1 with
    |none=>rw[U]at h;simp at h
    |some q=>
     rw[U]at h;simp only[ag,MJ]at h;refine⟨some (p.dr false),_,?_,h⟩;simp only[CF,O,T,ag,U]
 have I:∀s1:St,Cf ops o s.tmps=some false->s1=s->put s1 o.dst (.tup []) (K none)=some r->
   (∃p G,CF (P:=P) (C:=C) ops o s=some (p,G)/\K p G=some r)\/(∃p G,K (some p) G=some r/\Prim.simple (some p)=false):=by
  rintro s1 O rfl h;rw[MJ]at h;exact .inl ⟨none,_,by simp only[CF,O],h⟩
 unfold F7 Qe at h;cases S:o.guard with
 |none=>
  rw[S]at h;exact M s (by simp[Cf,S]) rfl h
 |some jw=>
  obtain⟨j,want⟩:=jw;rw[S]at h;simp only at h;split at h
  ·rename_i oj Y;split at h
   ·rename_i t ht;split at h
    ·rename_i g N;have O:Cf ops o s.tmps=some (g==want):=by simp only[Cf,S,Y,ht,N]
     have E:∀b,g=b->(⟨setL s.tmps t (.c (.bool b)),s.aB,s.aC⟩:St)=s:=by
      rintro b rfl;rw[Q64 N (by simp)]
     cases g
     ·simp only[ao]at h;rw[FU]at h;dsimp only at h;cases want
      ·exact M _ (by rw[O];rfl) (E false rfl) h
      ·exact I _ (by rw[O];rfl) (E false rfl) h
     ·simp only[aj]at h;rw[FU]at h;dsimp only at h;cases want
      ·exact I _ (by rw[O];rfl) (E true rfl) h
      ·exact M _ (by rw[O];rfl) (E true rfl) h
    ·rename_i N;exact I _ (by simp only[Cf,S,Y,ht,N]) rfl h
    ·simp at h
   ·simp at h
  ·simp at h
def IL (P:Program) (C:Cfg) (ops:List Oper) (m:List Nat) (i:Nat) (o:Oper) (s:St):Option (Option Prim×St):=
 if DJ ops m i=true then F7 P C true ops o s λp E=>some (p,E)else CF (P:=P) (C:=C) ops o s
def R8 (P:Program) (C:Cfg) (ops:List Oper) (m:List Nat):List (Nat×Oper×Option Prim)->St->St->Prop
 |[],s,E=>s=E
 |(i,o,p)::l,s,E=>∃s1,IL P C ops m i o s=some (p,s1)/\R8 P C ops m l s1 E
theorem Qa8 (E:Ai P C) {ops:List Oper} {m:List Nat}:∀(l:List Oper) (i:Nat) (s:St) (K:List (Oper×Option Prim)->St->Option R) (r:R),NE P C ops m l i s K=some r->
  (∃(ps:List (Nat×Oper×Option Prim)) (G:St),ps.map (·.2.1)=l/\ps.map (·.1)=List.range' i l.length/\R8 P C ops m ps s G/\K (ps.map (·.2)) G=some r)\/
  (∃(acc:List (Oper×Option Prim)) (G:St),K acc G=some r/\∃(j:Nat) (q:Oper×Option Prim),acc[j]? =some q/\(DJ ops m (i+j)||Prim.simple q.2)=false)
 |[],i,s,K,r,h=> .inl ⟨[],s,rfl,rfl,rfl,h⟩
 |o::l,i,s,K,r,h=>by
  simp only[NE]at h;have I:(∃p s1,IL P C ops m i o s=some (p,s1)/\NE P C ops m l (i+1) s1 (λrest G=>K ((o,p)::rest) G)=some r)\/
    (∃p s1,NE P C ops m l (i+1) s1 (λrest G=>K ((o,some p)::rest) G)=some r/\(DJ ops m i||Prim.simple (some p))=false):=by
   cases T:DJ ops m i
   ·rw[T]at h;rcases Zyx E h with⟨p,s1,J,M⟩|⟨p,s1,J,M⟩
    ·exact .inl ⟨p,s1,by unfold IL;rw[aa (by rw[T];simp)];exact J,M⟩
    ·exact .inr ⟨p,s1,J,by simpa using M⟩
   ·rw[T,Zga E]at h;cases U:F7 P C true ops o s λp X=>some (p,X)with
    |none=>rw[U]at h;simp at h
    |some q=>
     rw[U]at h;exact .inl ⟨q.1,q.2,by unfold IL;rw[ab T];exact U,h⟩
  rcases I with⟨p,s1,J,M⟩|⟨p,s1,J,M⟩
  ·rcases Qa8 E l (i+1) s1 _ r M with⟨ps,G,N,O,S,V⟩|⟨acc,G,N,j,q,O,S⟩
   ·exact .inl ⟨(i,o,p)::ps,G,by simp[N],by simp[O,List.range'_succ],⟨s1,J,S⟩,V⟩
   ·exact .inr ⟨_,G,N,j+1,q,by simp[O],by rw[show i+(j+1)=i+1+j from by omega];exact S⟩
  ·rcases Qa8 E l (i+1) s1 _ r J with⟨ps,G,N,O,S,V⟩|⟨acc,G,N,j,q,O,S⟩
   ·exact .inr ⟨_,G,V,0,(o,some p),by simp,M⟩
   ·exact .inr ⟨_,G,N,j+1,q,by simp[O],by rw[show i+(j+1)=i+1+j from by omega];exact S⟩
end
end Go.Bm
