/- laid together -/
import Derived.Test.YtommijghjlikkaaGreatPrLb
import Derived.Test.YtommijghjlikkaaGreatMx3
import Derived.Test.YtommijghjlikkaaGreatPrTc
set_option linter.unusedVariables false
set_option linter.unusedSimpArgs false
set_option maxRecDepth 100000
noncomputable section
open Go.IntKind (wrap)
namespace Go.Bm
def AG (a k v x:Int):List Int×Bool:=if Cq a k v x/\(By a k 4096 v x).2=true then((By a k 4096 v x).1,true)else([],false)
theorem Q8i {MB MR MV:Fn} {a k c:Int} (hp:Plan3 a k c) (hB:∀{v x:Int},Cq a k v x->MB [I a,I k,I c,I v,I x]=some [I (AD a k v x)]):∀(n:Nat) (pre:List Int) (v x:Int),pre.length+n=4096->Cq a k v x->
  An (Ie MB MR MV) [.view Aa (pre.map Ap),I v,I x,I a,I k,I c]=if(By a k n v x).2=true then some (2,[.view Aa ((pre++(By a k n v x).1).map Ap)])else some (1,[B false]):=by
 have fin:∀(n:Nat) (pre:List Int) (v x:Int),v<=0->An (Ie MB MR MV) [.view Aa (pre.map Ap),I v,I x,I a,I k,I c]=if(By a k n v x).2=true then some (2,[.view Aa ((pre++(By a k n v x).1).map Ap)])else some (1,[B false]):=fun n pre v x h=>by
  have e:By a k n v x=([],true):=by
   cases n with
   |zero=>show([],decide (v<=0))=([],true);rw[decide_eq_true h]
   |succ n=>unfold By;rw[if_pos h]
  rw[e,if_pos rfl];refine A_ ?_ (by simp);rw[OU,Bn (decide_eq_false (by omega)),List.append_nil]
 intro n;induction n with
 |zero=>
  intro pre v x hl hr;by_cases h:v<=0
  ·exact fin 0 pre v x h
  ·have e:By a k 0 v x=([],false):=by show([],decide (v<=0))=([],false);rw[decide_eq_false h]
   rw[e,if_neg (by simp)];refine A_ ?_ (by simp);rw[OU,BO (decide_eq_true (by omega)),BO (beT (by rw[List.length_map];omega))]
 |succ n ih=>
  intro pre v x hl hr;by_cases h:v<=0
  ·exact fin (n+1) pre v x h
  ·have hc:=closed hp hr;have hrg:=E3 hp hr;have hrg2:=E3 hp hc.1;have hs:=OU MB MR MV (pre.map Ap) v x a k c;rw[BO (decide_eq_true (by omega)),Bn (beF (by rw[List.length_map];omega)),hB hr]at hs;have hw:wrap .i64 (v+AD a k v x)=v+AD a k v x:=Ae (by omega);have hs2:Ie MB MR MV [.view Aa (pre.map Ap),I v,I x,I a,I k,I c]=some (0,[.view Aa ((pre++[v+AD a k v x]).map Ap),I (v+AD a k v x),I (AD a k v x),I a,I k,I c]):=by
    refine hs.trans (eB rfl ?_);show cond ((List.length (pre.map Ap++[[I (wrap .i64 (v+AD a k v x))]])*8).ble 140737488355328) (some (0,[AC.view Aa (pre.map Ap++[[I (wrap .i64 (v+AD a k v x))]]),I (wrap .i64 (v+AD a k v x)),I (AD a k v x),I a,I k,I c])) none=_;rw[hw,Cw (by simp;omega),List.map_append];rfl
   rw[Bt hs2,ih (pre++[v+AD a k v x]) _ _ (by simp;omega) hc.1];have e:By a k (n+1) v x=((v+AD a k v x)::(By a k n (v+AD a k v x) (AD a k v x)).1,(By a k n (v+AD a k v x) (AD a k v x)).2):=by
    show(if v<=0 then _ else _)=_;rw[if_neg h]
   rw[e];simp only[List.append_assoc,List.cons_append,List.nil_append]
theorem Znn {MB MR MV:Fn} {a k c:Int} (hp:Plan3 a k c) (hB:∀{v x:Int},Cq a k v x->MB [I a,I k,I c,I v,I x]=some [I (AD a k v x)]) (hV:MV [I a,I k,I c]=some [B true])
  (hR:∀v x,MR [I a,I k,I c,I v,I x]=some [B (decide (Cq a k v x))]) (v x:Int):
  OP MB MR MV (An (Ie MB MR MV)) [I a,I k,I c,I v,I x]=some [.view Aa ((AG a k v x).1.map Ap),B (AG a k v x).2]:=by
 rw[Qmh];refine eB hV (eF rfl (eB (hR v x) ?_));unfold AG;refine eC (fun h=> ?_) fun h=> ?_
 ·have h: ¬Cq a k v x:=by
   intro q;have h:(!decide (Cq a k v x))=true:=h;rw[decide_eq_true q]at h;cases h
  rw[if_neg (fun w=>h w.1)];rfl
 ·have h:Cq a k v x:=by
   have h:(!decide (Cq a k v x))=false:=h;by_cases q:Cq a k v x
   ·exact q
   ·rw[decide_eq_false q]at h;cases h
  have hl:=Q8i (MR:=MR) (MV:=MV) hp hB 4096 [] v x (by simp) h;by_cases q:(By a k 4096 v x).2=true
  ·rw[if_pos q]at hl;rw[if_pos ⟨h,q⟩];exact eB hl rfl
  ·rw[if_neg q]at hl;rw[if_neg (fun w=>q w.2)];exact eB hl rfl
theorem Qtg {a k c:Int} (hp:Plan3 a k c) (v x:Int):Jv [I a,I k,I c,I v,I x]=some [.view Aa ((AG a k v x).1.map Ap),B (AG a k v x).2]:=
 Znn hp (fun hr=>Qpy hp hr) (Qq4 hp) (Q9u hp) v x
def Bw (u:Int):List Int->List Int
 |[]=>[]
 |v::l=>(u+v)::Bw (u+v) l
def B6 (u:Int):List Int->Int
 |[]=>u
 |v::l=>B6 (u+v) l
theorem Qoh (v:Int):∀(u:Int) (l:List Int),Bw u (l++[v])=Bw u l++[B6 u l+v]
 |_,[]=>rfl
 |u,w::l=>by simp only[List.cons_append,Bw,B6,Qoh v (u+w) l]
theorem Q3f (v:Int):∀(u:Int) (l:List Int),B6 u (l++[v])=B6 u l+v
 |_,[]=>rfl
 |u,w::l=>by simp only[List.cons_append,B6,Q3f v (u+w) l]
theorem Kk:∀(u:Int) (l:List Int),(Bw u l).length=l.length
 |_,[]=>rfl
 |u,w::l=>by simp[Bw,Kk (u+w) l]
theorem YM:∀(u:Int) (l:List Int),l≠[]->(Bw u l)[(Bw u l).length-1]? =some (B6 u l)
 |u,[v],_=>rfl
 |u,v::w::l,_=>by
  have h:=YM (u+v) (w::l) (by simp);rw[Kk]at h⊢;simpa [Bw,B6]using h
theorem Qc1 {N:Int}:∀(u:Int) (l:List Int),(∀v∈l,0<=v/\v<=N)->u<=B6 u l/\B6 u l<=u+l.length*N
 |u,[],_=>by simp[B6]
 |u,v::l,h=>by
  have h1:=h v (by simp);have h2:=Qc1 (N:=N) (u+v) l fun w hw=>h w (by simp[hw]);simp only[B6,List.length_cons];have e:((l.length+1:Nat):Int)*N=l.length*N+N:=by
   rw[Int.natCast_add,Int.add_mul];simp
  rw[e];omega
theorem Qy7 {a k c:Int} (hp:Plan3 a k c):∀(n:Nat) (v x:Int),Cq a k v x->(By a k n v x).1.length<=n/\∀w∈(By a k n v x).1,0<=w/\w<=16777216
 |0,v,x,_=>⟨by simp[By],fun w h=>by simp[By]at h⟩
 |n+1,v,x,h=>by
  have hc:=closed hp h;have h2:=E3 hp hc.1;have ih:=Qy7 hp n _ _ hc.1;unfold By;by_cases q:v<=0
  ·rw[if_pos q];exact⟨by simp,fun w h=>by cases h⟩
  ·rw[if_neg q];refine⟨by simp only[List.length_cons];omega,fun w hw=> ?_⟩;rcases List.mem_cons.1 hw with rfl|hw
   ·omega
   ·exact ih.2 w hw
theorem P8 {a k c:Int} (hp:Plan3 a k c) (v x:Int):(AG a k v x).1.length<=4096/\∀w∈(AG a k v x).1,0<=w/\w<=16777216:=by
 unfold AG;split
 ·rename_i h;exact Qy7 hp 4096 v x h.1
 ·exact⟨by simp,fun w h=>by cases h⟩
theorem Zd0 {α:Type} (l:List α) (x y:α) (r:List α):(l++x::r).set l.length y=l++y::r:=by
 rw[List.set_append_right _ _ (Nat.le_refl _)];simp
theorem Zqg {M:Fn} {sp:List Int} {u:Int} (hu: -1000000000000000<=u/\u<=1000000000000000) (hl:sp.length<=4096) (hsp:∀v∈sp,0<=v/\v<=16777216):
  An (G5 M) [.view Aa (List.replicate sp.length [I 0]),I u, .view Aa (sp.map Ap),I sp.length,I 0]=some (1,[.view Aa ((Bw u sp).map Ap)]):=by
 have key:Out (fun o=>o=(1,[.view Aa ((Bw u sp).map Ap)])) (An (G5 M) [.view Aa ((Bw u (sp.take 0)).map Ap++List.replicate (sp.length-0) [I 0]),I (B6 u (sp.take 0)), .view Aa (sp.map Ap),I sp.length,I ((0:Nat):Int)]):=by
  refine C9 (fun i:Nat=>[.view Aa ((Bw u (sp.take i)).map Ap++List.replicate (sp.length-i) [I 0]),I (B6 u (sp.take i)), .view Aa (sp.map Ap),I sp.length,I (i:Int)]) (fun i=>i<=sp.length) (fun i=>sp.length-i) _ ?_ 0 (by simp);intro i hi;rw[ZX];refine .cond (fun c=> ?_) fun c=> ?_
  ·have c:(i:Int)<(sp.length:Int):=Bg c;have hi:i<sp.length:=by omega
   refine .cond (fun _=> ?_) fun e=>(inB (by omega) (by rw[List.length_map];exact c) e).elim;refine .cond (fun _=> ?_) fun e=>(inB (by omega) (by simp[Kk];omega) e).elim;have er:nth [] (sp.map Ap) (i:Int).toNat=Ap sp[i]:=by
    rw[Int.toNat_natCast,GP [] _ i (by rw[List.length_map];exact hi),List.getElem_map]
   have eb:=Qc1 (N:=16777216) u (sp.take i) fun v hv=>hsp v (List.mem_of_mem_take hv);rw[List.length_take_of_le (by omega)]at eb;have hv:=hsp _ (List.getElem_mem hi);have et:sp.take (i+1)=sp.take i++[sp[i]]:=by
    rw[List.take_add_one,List.getElem?_eq_getElem hi];rfl
   rw[er];show Out _ (some (0,[AC.view Aa (((Bw u (sp.take i)).map Ap++List.replicate (sp.length-i) [I 0]).set (i:Int).toNat [I (wrap .i64 (B6 u (sp.take i)+sp[i]))]),I (wrap .i64 (B6 u (sp.take i)+sp[i])), .view Aa (sp.map Ap),I sp.length,I (wrap .i64 ((i:Int)+1))]));rw[Ae (x:=B6 u (sp.take i)+sp[i]) (by omega),Ae (x:=(i:Int)+1) (by omega),Int.toNat_natCast];refine .some (.inl ⟨rfl,i+1,?_,by omega,by omega⟩);have el:((Bw u (sp.take i)).map Ap).length=i:=by rw[List.length_map,Kk,List.length_take_of_le (by omega)]
   have es:sp.length-i=(sp.length-(i+1))+1:=by omega
   rw[et,Qoh,Q3f,es,List.replicate_succ,List.map_append];have:=Zd0 ((Bw u (sp.take i)).map Ap) [I 0] [I (B6 u (sp.take i)+sp[i])] (List.replicate (sp.length-(i+1)) [I 0]);rw[el]at this;rw[this];simp;rfl
  ·have c: ¬(i:Int)<(sp.length:Int):=Bj c;refine .some (.inr ⟨by simp,?_⟩);rw[List.take_of_length_le (by omega),show sp.length-i=0 by omega];simp
 obtain⟨o,h1,rfl⟩:=key;exact h1
theorem Zw8 {M:Fn} {a k c v x:Int} (hS:M [I a,I k,I c,I v,I x]=some [.view Aa ((AG a k v x).1.map Ap),B (AG a k v x).2]) (hb:(AG a k v x).1.length<=4096/\∀w∈(AG a k v x).1,0<=w/\w<=16777216)
  {u:Int} (hu: -1000000000000000<=u/\u<=1000000000000000) (x6 x7 x8:Int) (hz:(AG a k v x).2=false->(AG a k v x).1=[]):
  L5 M (An (G5 M)) [I a,I k,I c,I u,I v,I x,I x6,I x7,I x8]=some [.view Aa ((Bw u (AG a k v x).1).map Ap),B (AG a k v x).2]:=by
 rw[Sd];generalize AG a k v x=z at*;refine eB hS (eC (fun h=> ?_) fun h=> ?_)
 ·have h:z.2=false:=by simpa [bA,nth,C5]using h
  rw[h,hz h];rfl
 ·have h:z.2=true:=by simpa [bA,nth,C5]using h
  refine eT (decide_eq_true rfl) (eT ?_ ?_)
  ·show(decide (0<=((z.1.map Ap).length:Int))&&decide (((z.1.map Ap).length:Int)*8<=140737488355328))=true;rw[List.length_map,decide_eq_true (show(0:Int)<=(z.1.length:Int) by omega),decide_eq_true (show(z.1.length:Int)*8<=140737488355328 by omega)];rfl
  ·have hl:=Zqg (M:=M) hu hb.1 hb.2;refine Eq.trans (congrArg (fun q=>Option.bind q _) (show An (G5 M) [.view Aa (List.replicate ((z.1.map Ap).length:Int).toNat [I 0]),I u, .view Aa (z.1.map Ap),I (z.1.map Ap).length,I 0]=some (1,[.view Aa ((Bw u z.1).map Ap)])from by rw[List.length_map,Int.toNat_natCast];exact hl)) ?_;rw[h];rfl
theorem Qsx {a k c:Int} (hp:Plan3 a k c) {u:Int} (hu: -1000000000000000<=u/\u<=1000000000000000) (v x x6 x7 x8:Int):
  EE [I a,I k,I c,I u,I v,I x,I x6,I x7,I x8]=some [.view Aa ((Bw u (AG a k v x).1).map Ap),B (AG a k v x).2]:=
 Zw8 (Qtg hp v x) (P8 hp v x) hu x6 x7 x8 fun h=>by
  unfold AG at h⊢;split at h
  ·cases h
  ·rename_i q;rw[if_neg q]
end Go.Bm
noncomputable section
namespace Go.Bm
def Jk (j:Int) (l:Rw):Prop:=∀r∈l,-j<=gA r 0/\gA r 0<=j
theorem Jk.snoc {j:Int} {l:Rw} {r:List AC} (h:Jk j l) (hr: -j<=gA r 0/\gA r 0<=j):Jk j (l++[r]):=fun x hx=>by
 rcases List.mem_append.1 hx with hx|hx
 ·exact h x hx
 ·rw[List.mem_singleton]at hx;subst hx;exact hr
theorem Zj8 {j:Int} (hj:0<=j/\j<=65536):Out (fun o=>o.1=1/\(wA o.2 0).length<=65536/\Jk j (wA o.2 0)) (An Pd [.view Aa [],I j]):=by
 refine C9 (fun s:Rw×Int=>[.view Aa s.1,I s.2]) (fun s=>0<=s.2/\s.2<=j/\s.1.length+s.2<=65536/\Jk j s.1) (fun s=>s.2.toNat) _ ?_ ([],j) ⟨hj.1,Int.le_refl _,by simp;omega,fun r h=>by cases h⟩;rintro⟨v,k⟩ ⟨g1,g0,g2,g3⟩;dsimp only at g0 g1 g2 g3;rw[Zql,Int.tdiv_eq_ediv_of_nonneg g1,Ae (x:=k/2) (by omega)];refine .cond (fun c=> ?_) (fun c=> ?_)
 ·have c:=Bg c;refine .cond (fun _=> ?_) fun c=>by rw[Cw (by simp;omega)]at c;cases c
  exact .some (.inl ⟨rfl,(v++[[I k]],k/2),rfl,⟨by dsimp only;omega,by dsimp only;omega,by simp;omega,g3.snoc (by show-j<=k/\k<=j;omega)⟩,by dsimp only;omega⟩)
 ·exact .some (.inr ⟨by simp,rfl,by show v.length<=65536;omega,g3⟩)
theorem Zw0 {j:Int} {N:Lp} {up out:Rw} (hj:0<=j/\j<=65536) (h1:up.length<=65536) (hu:Jk j up) (h2:out.length=up.length+1) (ho:Jk j out):Out (fun o=>o.1=1/\(wA o.2 0).length<=140000/\Jk j (wA o.2 0)) (An (Qz N) [.view Aa up, .view Aa out,I ((up.length:Int)-1)]):=by
 refine C9 (fun s:Rw×Int=>[.view Aa up, .view Aa s.1,I s.2]) (fun s=> -1<=s.2/\s.2<up.length/\s.1.length+s.2<=2*up.length/\Jk j s.1) (fun s=>(s.2+1).toNat) _ ?_ (out,(up.length:Int)-1) ⟨by simp only;omega,by simp only;omega,by simp only;omega,ho⟩;rintro⟨v,k⟩ ⟨g1,g2,g3,g4⟩;dsimp only at g1 g2 g3 g4;rw[Zcg,Ae (x:=k-1) (by omega)];refine .cond (fun c=> ?_) (fun c=> ?_)
 ·have c:=Bg c;refine .cond (fun _=> ?_) fun c=>by simp at c;omega
  refine .cond (fun _=> ?_) fun c=>by rw[Cw (by simp;omega)]at c;cases c
  have hk: -j<=gA (nth [] up k.toNat) 0/\gA (nth [] up k.toNat) 0<=j:=by
   rw[GP [] up k.toNat (by omega)];exact hu _ (List.getElem_mem _)
  exact .some (.inl ⟨rfl,(_,k-1),rfl,⟨by dsimp only;omega,by dsimp only;omega,by simp;omega,g4.snoc (by show-j<=wrap .i64 (0-gA (nth [] up k.toNat) 0)/\wrap .i64 (0-gA (nth [] up k.toNat) 0)<=j;rw[Ae (by omega)];omega)⟩,by dsimp only;omega⟩)
 ·have c:=Bj c;exact .some (.inr ⟨by simp,rfl,by show v.length<=140000;omega,g4⟩)
theorem Qp9 {j:Int} (hj:0<=j/\j<=65536):Out (fun o=>(wA o 0).length<=140000/\Jk j (wA o 0)) (NX [I j]):=by
 show Out _ (Uw (An Pd) (An (Qz (An Pd))) [I j]);rw[Zby];refine .bind (Zj8 hj) fun o g=> ?_;rw[g.1];obtain⟨-,g2,g3⟩:=g;generalize wA o.2 0=up at*;refine .cond (fun _=> ?_) fun c=>by simp at c
 refine .cond (fun _=> ?_) fun c=>by rw[Cw (by simp;omega)]at c;cases c
 refine .cond (fun _=> ?_) fun c=>by rw[Cw (by simp;omega)]at c;cases c
 rw[Ae (x:=(up.length:Int)-1) (by omega)];refine .bind (Zw0 hj g2 g3 (by simp) (by rw[List.nil_append];exact g3.snoc (by show-j<=0/\0<=j;omega))) fun o g=> ?_;rw[g.1];exact .some g.2
def Qe (m0 m1 m3 m4:Int) (Q R:Int->Prop) (o:List AC):Prop:=∃v:Int,o=D7 m0 m1 m3 m4 v/\(Q v\/∃r:Int,v=wrap .i64 (m1+r)/\R r)
theorem Qsr {MB MS MF MM MR MC:Fn} {p:Pth} {x:Ax3} {t:Trk} {a b c o0 o1:Int} {b0 b1 b2:Bool} (hb:0<=b/\b<=65536) {m0 m1 m2 m3 m4 m5 l:Int} {Q R F:Int->Prop}
  (hB:Out (fun o=>∃r:Int,o=[I r]/\R r) (MB [I a,I b,I c,I m1,I m2]))
  (hS:∀v:Int,0<=v->F v->(∃k:Int,-b<=k/\k<=b/\v=wrap .i64 (m1+wrap .i64 (m2+k)))->Out (fun o=>bA o 0=true->Q v) (MS (pxt p x t [I a,I b,I c,I (wrap .i64 (m0+v)),I v,I (wrap .i64 (v-m1)),I m0,I m3,I m4,I l])))
  (hF:∀v:Int,Out (fun o=>bA o 0=true->F v) (MF (ES p t [I a,I b,I c,I o0,I o1,B b0,B b1,B b2,I (wrap .i64 (m0+v)),I v,I (wrap .i64 (v-m1)),I m0,I m3,I m4])))
  (hM:∀m0 m1 m2 m3 m4 m5 v,MM [I m0,I m1,I m2,I m3,I m4,I m5,I v]=some (D7 m0 m1 m3 m4 v))
  (hR:∀a b c v x,(MR [I a,I b,I c,I v,I x]).isSome=true)
  (hC:∀j,0<=j/\j<=65536->Out (fun o=>(wA o 0).length<=140000/\Jk j (wA o 0)) (MC [I j])):
  Out (Qe m0 m1 m3 m4 Q R) (T0 MB MS MF MM MR MC (An (Qm5 MB MS MF MM MR MC)) (pxt p x t [I a,I b,I c,I o0,I o1,B b0,B b1,B b2,I m0,I m1,I m2,I m3,I m4,I m5,I l])):=by
 rw[Zqc];refine .bind (hC b hb) fun q h1=> ?_;obtain⟨h1,hJ⟩:=h1;generalize wA q 0=ch at*;refine .bind (p:=fun o=>o.1=1/\((∃v:Int,∃g0 g1 g2 g3 g4 g5:Int,o.2=B true::I a::I b::I c::I m0::I m1::I m2::I m3::I m4::I m5::I g0::I g1::I g2::I g3::I g4::I g5::D7 m0 m1 m3 m4 v/\Q v)\/∃l:List AC,o.2=B false::I a::I b::I c::I m0::I m1::I m2::I m3::I m4::I m5::l)) ?_ fun o g=>by
  obtain⟨g,g2⟩:=g;rw[g];refine .cond (fun _=> ?_) fun c=>by simp at c
  rcases g2 with⟨v,g0,g1,g2,g3,g4,g5,e,hs⟩|⟨l',e⟩
  ·rw[e];refine .cond (fun _=> .some ⟨v,rfl, .inl hs⟩) fun c=>by simp[gA,wA,bA,jA,nth,C5]at c
  ·rw[e];refine .cond (fun c=>by simp[gA,wA,bA,jA,nth,C5]at c) fun _=> ?_;simp only[gA,wA,bA,jA,nth,Af];refine .bind hB fun o g=> ?_;obtain⟨r,rfl,hr⟩:=g;simp only[gA,wA,bA,jA,nth,Af];rw[hM];exact .some ⟨_,rfl, .inr ⟨r,rfl,hr⟩⟩
 refine C9 (fun s:Nat×(Int×Int×Int×Int×Int×Int)=>I l::B false:: .view Aa ch::I (ch.length:Int)::I (s.1:Int)::pxt p x t [I a,I b,I c,I o0,I o1,B b0,B b1,B b2,I m0,I m1,I m2,I m3,I m4,I m5,I 0,I 0,I 0,I 0,I 0,I 0,I s.2.1,I s.2.2.1,I s.2.2.2.1,I s.2.2.2.2.1,I s.2.2.2.2.2.1,I s.2.2.2.2.2.2])
  (fun s=>s.1<=ch.length) (fun s=>ch.length-s.1) _ ?_ (0,(0,0,0,0,0,0)) (by simp)
 rintro⟨i,f0,f1,f2,f3,f4,f5⟩ g;dsimp only at g;rw[Zwk];rw[Ae (x:=(i:Int)+1) (by omega)];refine .cond (fun c=> ?_) (fun c=> ?_)
 ·have c:=Bg c;refine .cond (fun _=> ?_) fun c=>by simp at c;omega
  refine .cond (fun _=> ?_) fun pos=> ?_
  ·exact .some (.inl ⟨rfl,(i+1,f0,f1,f2,f3,f4,f5),rfl,by dsimp only;omega,by dsimp only;omega⟩)
  ·have pos:=Bj pos;refine .ibind (hR _ _ _ _ _) fun _ _=> .cond (fun _=> ?_) fun _=> ?_
   ·exact .some (.inl ⟨rfl,(i+1,f0,f1,f2,f3,f4,f5),rfl,by dsimp only;omega,by dsimp only;omega⟩)
   ·have hk:∃k:Int,-b<=k/\k<=b/\wrap .i64 (m1+wrap .i64 (m2+gA (nth [] ch (i:Int).toNat) 0))=wrap .i64 (m1+wrap .i64 (m2+k)):=by
     have:=hJ _ (List.getElem_mem (show i<ch.length by omega));rw[Int.toNat_natCast,GP [] ch i (by omega)];exact⟨_,this.1,this.2,rfl⟩
    generalize wrap .i64 (m1+wrap .i64 (m2+gA (nth [] ch (i:Int).toNat) 0))=v at*;rw[hM];simp only[Option.bind_some,gA,wA,bA,jA,nth,Af];refine .bind (hF v) fun of fit=> .cond (fun cf=> ?_) fun _=> ?_
    ·refine .bind (hS v (by omega) (fit cf) hk) fun o hs=> .cond (fun c=> ?_) fun _=> ?_
     ·exact .some (.inr ⟨by simp,rfl, .inl ⟨v,0,0,0,0,0,0,rfl,hs c⟩⟩)
     ·exact .some (.inl ⟨rfl,(i+1,_,_,_,_,_,_),rfl,by dsimp only;omega,by dsimp only;omega⟩)
    ·exact .some (.inl ⟨rfl,(i+1,_,_,_,_,_,_),rfl,by dsimp only;omega,by dsimp only;omega⟩)
 ·exact .some (.inr ⟨by simp,rfl, .inr ⟨_,rfl⟩⟩)
theorem Zel {MS MF:Fn} {p:Pth} {x:Ax3} {t:Trk} {Q:Prop} (hS:∀{way:Rw},way.length<=100000->(MS (pxt p x t [.view Aa way])).isSome=true)
  {a b c m0 m1 m2 m3 m4 m5 l:Int} (hF:Out (fun o=>(wA o 0).length<=4096/\(bA o 1=true->Q)) (MF [I a,I b,I c,I m0,I m1,I m2,I m3,I m4,I m5])):
  Out (fun o=>bA o 0=true->Q) (QN MS MF (pxt p x t [I a,I b,I c,I m0,I m1,I m2,I m3,I m4,I m5,I l])):=by
 rw[Q6r];refine .bind hF fun o h=> ?_;obtain⟨h2,hs⟩:=h;generalize wA o 0=sp at*;refine .cond (fun _=> .some fun h=>by simp[gA,wA,bA,jA,nth,C5]at h) fun c1=> ?_;have hs:=hs (by simpa using c1);refine .cond (fun c=> ?_) fun c=> ?_
 ·have c:=Bg c;rw[Ae (x:=(sp.length:Int)-1) (by omega)];refine .cond (fun _=> ?_) fun c=>by simp at c;omega
  generalize Af (nth .dead (nth [] sp ((sp.length:Int)-1).toNat) 0)=e;refine .cond (fun _=> .some fun _=>hs) fun _=> ?_;refine .cond (fun _=> ?_) fun c=>by rw[Cw (by simp;omega)]at c;cases c
  refine .cond (fun _=> ?_) fun c=>by rw[Cw (by simp;omega)]at c;cases c
  exact .ibind (hS (by simp;omega)) fun _ _=> .some fun _=>hs
 ·refine .cond (fun _=> .some fun _=>hs) fun _=> ?_;refine .cond (fun _=> ?_) fun c=>by rw[Cw (by simp;omega)]at c;cases c
  refine .cond (fun _=> ?_) fun c=>by rw[Cw (by simp;omega)]at c;cases c
  exact .ibind (hS (by simp;omega)) fun _ _=> .some fun _=>hs
theorem Q8q {a k c:Int} (hp:Plan3 a k c) (u v x x6 x7 x8:Int):Out (fun o=>(wA o 0).length<=4096/\(bA o 1=true->(AG a k v x).2=true)) (EE [I a,I k,I c,I u,I v,I x,I x6,I x7,I x8]):=by
 have key:∀{M:Fn},M [I a,I k,I c,I v,I x]=some [.view Aa ((AG a k v x).1.map Ap),B (AG a k v x).2]->Out (fun o=>(wA o 0).length<=4096/\(bA o 1=true->(AG a k v x).2=true)) (L5 M (An (G5 M)) [I a,I k,I c,I u,I v,I x,I x6,I x7,I x8]):=by
  intro M hM;have hb:=P8 hp v x;rw[Sd];refine .bind (p:=fun o=>o=_) ⟨_,hM,rfl⟩ fun o e=> ?_;subst e;refine .cond (fun _=> .some ⟨by simp[wA,nth,Ce],fun h=>by simp[bA,nth,C5]at h⟩) fun h=> ?_;have hz:(AG a k v x).2=true:=by simpa [bA,nth,C5]using h
  have hl:(wA [AC.view Aa ((AG a k v x).1.map Ap),B (AG a k v x).2] 0).length<=4096:=by
   show((AG a k v x).1.map Ap).length<=4096;rw[List.length_map];exact hb.1
  generalize wA [AC.view Aa ((AG a k v x).1.map Ap),B (AG a k v x).2] 0=sp at*;refine .cond (fun _=> ?_) fun c=>by simp at c
  refine .cond (fun _=> ?_) fun c=>by simp at c;omega
  refine .bind (Qs5 (by simp) hl) fun o g=> ?_;rw[g.1];exact .some ⟨by show(wA o.2 0).length<=4096;omega,fun _=>hz⟩
 exact key (Qtg hp v x)
theorem Ql2 {p:Pth} {x:Ax3} {t:Trk} (h:Fix p x t) {a b c:Int} (hp:Plan3 a b c) (m0 m1 m2 m3 m4 m5 l:Int):Out (fun o=>bA o 0=true->(AG a b m1 m2).2=true) (HZ (pxt p x t [I a,I b,I c,I m0,I m1,I m2,I m3,I m4,I m5,I l])):=
 Zel (Qtf h) (Q8q hp _ _ _ _ _ _)
theorem Gh {a k v x:Int}:(AG a k v x).2=true↔Cq a k v x/\(By a k 4096 v x).2=true:=by
 unfold AG;by_cases h:Cq a k v x/\(By a k 4096 v x).2=true
 ·rw[if_pos h];exact⟨fun _=>h,fun _=>rfl⟩
 ·rw[if_neg h];exact⟨fun q=>(by cases q),fun q=>absurd q h⟩
theorem S_ {a k c v x:Int} (hp:Plan3 a k c) (h:(AG a k v x).2=true):(AG a k (v+AD a k v x) (AD a k v x)).2=true/\
  (AG a k v x).1=if v<=0 then []else(v+AD a k v x)::(AG a k (v+AD a k v x) (AD a k v x)).1:=by
 obtain⟨hr,hs⟩:=Gh.1 h;have hc:=closed hp hr;have hrg:=E3 hp hc.1;by_cases c0:v<=0
 ·have hv:v=0:=by have:=E3 hp hr;omega
  have hb:AD a k v x=0:=by
   obtain⟨B,hB⟩:∃B,B=bs k v 20 (-x-k) (min (k-x) a):=⟨_,rfl⟩;obtain⟨q1,q2,q3,q4,q5,q6⟩:=Qnq hp hr hB;have:=JS (k:=k) (b:=B) (by have:=hp.b;omega);have hx:=hr.2.2.2.2 hv;have ha:=hp.a;have e:AD a k v x= -B:=by unfold AD;rw[hB]
   rw[e];rcases q5 with q5|q5
   ·omega
   ·by_cases hn:B+1<=0
    ·rw[IT hn]at q5;omega
    ·omega
  have e0:By a k 4096 0 0=([],true):=by unfold By;rw[if_pos (by omega)]
  refine⟨?_,?_⟩
  ·rw[hb,hv];refine Gh.2 ⟨?_,by rw[show(0:Int)+0=0 from rfl,e0]⟩;have:=hc.1;rw[hb,hv]at this;exact this
  ·rw[if_pos c0];unfold AG;rw[if_pos ⟨hr,hs⟩];unfold By;rw[if_pos c0]
 ·have e:By a k 4096 v x=((v+AD a k v x)::(By a k 4095 (v+AD a k v x) (AD a k v x)).1,(By a k 4095 (v+AD a k v x) (AD a k v x)).2):=by
   show(if v<=0 then _ else _)=_;rw[if_neg c0]
  rw[e]at hs;have hm:=Q3e a k 4095 _ _ hs;have hn:(AG a k (v+AD a k v x) (AD a k v x)).2=true:=Gh.2 ⟨hc.1,by rw[hm];exact hs⟩;refine⟨hn,?_⟩;rw[if_neg c0];have e2:(AG a k v x).1=(By a k 4096 v x).1:=by unfold AG;rw[if_pos (Gh.1 h)]
  have e3:(AG a k (v+AD a k v x) (AD a k v x)).1=(By a k 4096 (v+AD a k v x) (AD a k v x)).1:=by unfold AG;rw[if_pos (Gh.1 hn)]
  rw[e2,e3,hm,e]
end Go.Bm
namespace Go.Bm
structure KOK (K : Kf) : Prop where
 f:Fix K.p K.x K.t
 plan:Plan3 K.pa K.pb K.pc
 aF:∀g∈K.p.aF,0<=g.item/\g.item<K.aA.length/\i64 g.lead
 aD:∀m∈K.p.aD,0<=m.item/\m.item<K.aA.length/\i64 m.at_
 count:K.p.aD.length<=1000000
 speed:∀it∈K.aA,it.kind=8->i64 it.speed
 len:i64 K.len
 set:i64 K.set
theorem QA (K:Kf) (c:Cv):DO (Ad K c)=some [I (wrap .i64 (c.m0.tdiv 256))]:=by
 show Qkv (Ad K c)=_;rw[Zn9]
abbrev Bl (c:Cv):Int:=wrap .i64 (c.m0.tdiv 256)
theorem Zvq {MP MU:Fn} {K:Kf} {c:Cv} {s:Int} (hU:MU (Ad K c)=some [I (Bl c)]) (hP:MP (Bq K.t++[I (Bl c)])=some [I s]):Qnf MP MU (Ad K c)=some [I s]:=by
 rw[Zwy,hU];simp only[Option.bind_some,gA,wA,bA,jA,EP,Gx];rw[hP];rfl
abbrev A5 (K:Kf) (c:Cv):Int:=AT K.t (Bl c)
theorem Rk {K:Kf} (h:KOK K) (c:Cv):Es (Ad K c)=some [I (A5 K c)]:=Zvq (QA K c) (QG h.f.t.q (Bl c))
theorem Zrq (K:Kf) (c:Cv):Oc (Ad K c)=some (I 3::Ad K {c with next:=wrap .i64 (c.idx+1),on:=false,idx:=0,aN:=false,cnt:=0}):=by
 show V2 (Ad K c)=_;rw[Zog]
theorem Zj9 (K:Kf) (c:Cv):GH (Ad K c)=some (Ad K (if c.g0=0 then{c with o2:=true,g0:=1,g1:=18,g2:= -1}else c)):=by
 show Ql3 (Ad K c)=_;rw[Zj3];cases h:(c.g0==0)
 ·rw[if_neg (by simpa using h)];rfl
 ·rw[if_pos (by simpa using h)];rfl
end Go.Bm
noncomputable section
namespace Go.Bm
def nxL (K:Kf) (c:Cv) (l:Int):List AC:=pxt K.p K.x K.t [I K.pa,I K.pb,I K.pc,I c.o0,I c.o1,B c.o2,B c.o3,B c.o4,I c.m0,I c.m1,I c.m2,I c.m3,I c.m4,I c.m5,I l]
def nxV (K:Kf) (c:Cv) (l:Int):Int:=gA ((EV (nxL K c l)).getD []) 1
def Mo (K:Kf) (c:Cv):Prop:=(AG K.pa K.pb c.m1 c.m2).2=true
theorem Mo.ready {K:Kf} {c:Cv} (h:Mo K c):Cq K.pa K.pb c.m1 c.m2:=(Gh.1 h).1
theorem Zc9 {K:Kf} {c:Cv} {l:Int} {Q R:Int->Prop} (h:Out (Qe c.m0 c.m1 c.m3 c.m4 Q R) (EV (nxL K c l))):Q (nxV K c l)\/∃r:Int,nxV K c l=wrap .i64 (c.m1+r)/\R r:=by
 obtain⟨o,h1,v,rfl,h2⟩:=h;have e:nxV K c l=v:=by unfold nxV;rw[h1];rfl
 rw[e];exact h2
theorem Qyf {K:Kf} {c:Cv} (hp:Plan3 K.pa K.pb K.pc) (hz:Mo K c) {v:Int} (hv:v=wrap .i64 (c.m1+AD K.pa K.pb c.m1 c.m2)):v=c.m1+AD K.pa K.pb c.m1 c.m2/\wrap .i64 (v-c.m1)=AD K.pa K.pb c.m1 c.m2/\(AG K.pa K.pb v (wrap .i64 (v-c.m1))).2=true:=by
 have r1:=E3 hp hz.ready;have r2:=E3 hp (closed hp hz.ready).1;rw[Ae (by omega)]at hv;have e:wrap .i64 (v-c.m1)=AD K.pa K.pb c.m1 c.m2:=by rw[hv,Ae (by omega)];omega
 refine⟨hv,e,?_⟩;rw[e,hv];exact(S_ hp hz).1
theorem TI {K:Kf} {c:Cv} (hp:Plan3 K.pa K.pb K.pc) (hz:Mo K c):Out (fun o=>∃r:Int,o=[I r]/\r=AD K.pa K.pb c.m1 c.m2) (E7 [I K.pa,I K.pb,I K.pc,I c.m1,I c.m2]):=
 ⟨_,Qpy hp hz.ready,_,rfl,rfl⟩
theorem Qoa {p:Pth} {x:Ax3} {t:Trk} (h:Fix p x t) (a b c o0 o1:Int) (b0 b1 b2:Bool) (m0 m1 m2 m3 m4 m5:Int):Out (fun o=>bA o 0=true->True) (KW (ES p t [I a,I b,I c,I o0,I o1,B b0,B b1,B b2,I m0,I m1,I m2,I m3,I m4,I m5])):=
 (Out.of (Zvl h a b c o0 o1 b0 b1 b2 m0 m1 m2 m3 m4 m5)).mono fun _ _ _=>trivial
theorem Qvf {K:Kf} (h:KOK K) {c:Cv} (hz:Mo K c) (l:Int) (b0:Bool):Out (Qe c.m0 c.m1 c.m3 c.m4 (fun v=>(AG K.pa K.pb v (wrap .i64 (v-c.m1))).2=true) fun r=>r=AD K.pa K.pb c.m1 c.m2)
  (EV (pxt K.p K.x K.t [I K.pa,I K.pb,I K.pc,I c.o0,I c.o1,B b0,B c.o3,B c.o4,I c.m0,I c.m1,I c.m2,I c.m3,I c.m4,I c.m5,I l])):=
 Qsr (F:=fun _=>True) (by have:=h.plan.b;omega) (TI h.plan hz) (fun v _ _ _=>Ql2 h.f h.plan _ _ _ _ _ _ _) (fun v=>Qoa h.f ..) Rs Qad (fun _ hj=>Qp9 hj)
def PP (m0 m1 m3 m4:Int) (Q R:Int->Prop) (o:List AC):Prop:=∃v s b z g e:Int,o=D7 m0 m1 m3 m4 v++[I s,I b,I z,I g,I e]/\(Q v\/∃r:Int,v=wrap .i64 (m1+r)/\R r)
theorem Qpd {MN MB MR MS MM MF MD:Fn} {p:Pth} {x:Ax3} {t:Trk} {a b c:Int} {o0 o1:Int} {b0 b1 b2:Bool} {m0 m1 m2 m3 m4 m5 l lead g0 g1 g2 g3 z0 z1:Int} {Q R:Int->Prop}
  (hN:Out (Qe m0 m1 m3 m4 Q R) (MN (pxt p x t [I a,I b,I c,I o0,I o1,B false,B b1,B b2,I m0,I m1,I m2,I m3,I m4,I m5,I l])))
  (hB:Out (fun o=>∃r:Int,o=[I r]/\R r) (MB [I a,I b,I c,I m1,I m2]))
  (hR:∀a b c x3 x4 x5 x6 x7 x8,(MR [I a,I b,I c,I x3,I x4,I x5,I x6,I x7,I x8]).isSome=true)
  (hS:∀v:Int,Out (fun o=>bA o 0=true->Q v) (MS (pxt p x t [I a,I b,I c,I (wrap .i64 (m0+v)),I v,I (wrap .i64 (v-m1)),I m0,I m3,I m4,I l])))
  (hM:∀m0 m1 m2 m3 m4 m5 v,MM [I m0,I m1,I m2,I m3,I m4,I m5,I v]=some (D7 m0 m1 m3 m4 v))
  (hF:∀v,i64 v->(MF [I lead,I v]).isSome=true) (hD:∀a b,∃v,MD [I a,I b]=some [I v]/\i64 v):
  Out (PP m0 m1 m3 m4 Q R) (Yj MN MB MR MS MM MF MD (pxt p x t [I a,I b,I c,I o0,I o1,B b0,B b1,B b2,I m0,I m1,I m2,I m3,I m4,I m5,I l,I lead,I g0,I g1,I g2,I g3,I z0,I z1])):=by
 rw[Zsf];obtain⟨v1,e1,w1⟩:=hD z1 g2;obtain⟨v2,e2,w2⟩:=hD z0 g2;rw[e1,e2];simp only[Option.bind_some,gA,wA,bA,jA,EP,H4,Gx];have next:∀s bb z g e:Int,Out (PP m0 m1 m3 m4 Q R) ((MN (pxt p x t [I a,I b,I c,I o0,I o1,B false,B b1,B b2,I m0,I m1,I m2,I m3,I m4,I m5,I l])).bind fun o=>some [I (gA o 0),I (gA o 1),I (gA o 2),I (gA o 3),I (gA o 4),I (gA o 5),I s,I bb,I z,I g,I e]):=fun s bb z g e=>by
  refine .bind hN fun o h=> ?_;obtain⟨v,rfl,h⟩:=h;exact .some ⟨v,s,bb,z,g,e,rfl,h⟩
 refine .ibind (hF _ w1) fun f1 _=> .cond (fun _=> ?_) fun _=> .cond (fun _=> ?_) fun _=>next _ _ _ _ _
 ·refine .ibind (hF _ w2) fun f2 _=> ?_;rw[hM];generalize wrap .i64 (Af (nth AC.dead f1 0)-Af (nth AC.dead f2 0))=v;simp only[Option.bind_some,gA,wA,bA,jA,EP,H4,Gx];refine .cond (fun _=> ?_) fun _=>next _ _ _ _ _
  refine .bind (hS v) fun o h=> .cond (fun c=> ?_) fun _=>next _ _ _ _ _
  exact .some ⟨v,_,_,_,_,_,rfl, .inl (h c)⟩
 ·rw[hM];generalize wrap .i64 (wrap .i64 (wrap .i64 (g1+Af (nth AC.dead f1 0))-g3)-m0)=v;simp only[Option.bind_some,gA,wA,bA,jA,EP,H4,Gx];have stop:∀s bb z g e:Int,Out (PP m0 m1 m3 m4 Q R) ((MB [I a,I b,I c,I m1,I m2]).bind fun o=>(MM [I m0,I m1,I m2,I m3,I m4,I m5,I (wrap .i64 (m1+gA o 0))]).bind fun q=>some [I (gA q 0),I (gA q 1),I (gA q 2),I (gA q 3),I (gA q 4),I (gA q 5),I s,I bb,I z,I g,I e]):=fun s bb z g e=>by
   refine .bind hB fun o h=> ?_;obtain⟨r,rfl,hr⟩:=h;rw[hM];exact .some ⟨_,s,bb,z,g,e,rfl, .inr ⟨r,rfl,hr⟩⟩
  refine .cond (fun _=> ?_) fun _=> ?_
  ·refine .bind (hS v) fun o h=> .cond (fun c=> ?_) fun _=> ?_
   ·exact .some ⟨v,_,_,_,_,_,rfl, .inl (h c)⟩
   ·refine .ibind (hR _ _ _ _ _ _ _ _ _) fun _ _=> .cond (fun _=> .cond (fun _=>stop _ _ _ _ _) fun _=>stop _ _ _ _ _) fun _=>stop _ _ _ _ _
  ·refine .ibind (hR _ _ _ _ _ _ _ _ _) fun _ _=> .cond (fun _=> .cond (fun _=>stop _ _ _ _ _) fun _=>stop _ _ _ _ _) fun _=>stop _ _ _ _ _
theorem Zpd {K:Kf} (h:KOK K) {c:Cv} (hz:Mo K c) (l:Int) {lead:Int} (hl:i64 lead):Out (PP c.m0 c.m1 c.m3 c.m4 (fun v=>(AG K.pa K.pb v (wrap .i64 (v-c.m1))).2=true) fun r=>r=AD K.pa K.pb c.m1 c.m2)
  (HX (pxt K.p K.x K.t [I K.pa,I K.pb,I K.pc,I c.o0,I c.o1,B c.o2,B c.o3,B c.o4,I c.m0,I c.m1,I c.m2,I c.m3,I c.m4,I c.m5,I l,I lead,I c.e0,I c.e1,I c.e2,I c.e3,I c.before,I c.s3])):=
 Qpd (Qvf h hz l false) (TI h.plan hz) Qw1 (fun v=>Ql2 h.f h.plan _ _ _ _ _ _ _) Rs (fun _ hv=>Qpg hl hv) Q3n
theorem Qo5 {K:Kf} (h:KOK K) {c:Cv} (hz:Mo K c) {v:Int} (hv:(AG K.pa K.pb v (wrap .i64 (v-c.m1))).2=true\/∃r:Int,v=wrap .i64 (c.m1+r)/\r=AD K.pa K.pb c.m1 c.m2):(AG K.pa K.pb v (wrap .i64 (v-c.m1))).2=true:=by
 rcases hv with h1|⟨r,h1,h2⟩
 ·exact h1
 ·subst h2;exact(Qyf h.plan hz h1).2.2
theorem Rx {a k c:Int} (hp:Plan3 a k c):(AG a k 0 0).2=true:=by
 refine Gh.2 ⟨?_,by unfold By;rw[if_pos (by omega)]⟩;have ha:=hp.a;have hb:=hp.b
 refine⟨by omega,by omega,?_,?_,fun _=>by omega⟩
 ·rw[IT (by omega)];omega
 ·rw[IT (by omega)];omega
end Go.Bm
namespace Go.Bm
theorem Qp8 (K:Kf) {i:Nat} (h:i<K.aA.length):nth [] (K.aA.map Ag) i=Ag K.aA[i]:=by
 rw[BG,List.getD,List.getElem?_map,List.getElem?_eq_getElem h];rfl
theorem Zqm (K:Kf) {i:Nat} (h:i<K.p.aD.length):nth [] (K.p.aD.map Aq) i=Aq K.p.aD[i]:=by
 rw[BG,List.getD,List.getElem?_map,List.getElem?_eq_getElem h];rfl
theorem Zsw {K:Kf} (h:KOK K) (i:Nat) (hk:gA (nth [] (K.aA.map Ag) i) 0=8):i64 (gA (nth [] (K.aA.map Ag) i) 20):=by
 by_cases c:i<K.aA.length
 ·rw[Qp8 K c]at hk⊢;exact h.speed _ (List.getElem_mem c) hk
 ·have e:nth [] (K.aA.map Ag) i=[]:=by
   rw[BG,List.getD,List.getElem?_eq_none (by rw[List.length_map];omega)];rfl
  rw[e];show i64 0;unfold i64;omega
structure Gd (K : Kf) (n : Int) (c : Cv) : Prop where
 way:c.way=0
 pass:0<=c.aK/\c.aK<=K.p.aD.length
 task:c.on=true->0<=c.idx/\c.idx<K.p.aD.length
 mo:Mo K c
 m0: -(16777216*n)<=c.m0/\c.m0<=16777216*n
theorem Gd.up {K:Kf} {n:Int} {c:Cv} (h:Gd K n c) (hn:0<=n):Gd K (n+1) c:=
 ⟨h.way,h.pass,h.task,h.mo,by have:=h.m0;omega⟩
theorem Gd.move {K:Kf} (h:KOK K) {n:Int} {c:Cv} (g:Gd K n c) (hn:0<=n/\n<=10000) {v:Int} (hv:(AG K.pa K.pb v (wrap .i64 (v-c.m1))).2=true\/∃r:Int,v=wrap .i64 (c.m1+r)/\r=AD K.pa K.pb c.m1 c.m2):
  Gd K (n+1) {c with m0:=wrap .i64 (c.m0+v),m1:=v,m2:=wrap .i64 (v-c.m1),m3:=c.m0,m4:=c.m3,m5:=c.m4}:=by
 have h0:=g.m0;have hq:=Qo5 h g.mo hv;have hr:=E3 h.plan (Gh.1 hq).1;refine⟨g.way,g.pass,g.task,hq,?_⟩;show-(16777216*(n+1))<=wrap .i64 (c.m0+v)/\wrap .i64 (c.m0+v)<=16777216*(n+1);rw[Ae (by omega)];omega
end Go.Bm
namespace Go.Bm
theorem Gd.same {K:Kf} {n:Int} {c c':Cv} (g:Gd K n c) (h1:c'.way=c.way) (h2:c'.aK=c.aK) (h3:c'.on=c.on) (h4:c'.idx=c.idx) (h5:c'.m0=c.m0) (h6:c'.m1=c.m1) (h7:c'.m2=c.m2):Gd K n c':=
 ⟨h1▸g.way,h2▸g.pass,by rw[h3,h4];exact g.task,by have:=g.mo;unfold Mo at*;rw[h6,h7];exact this,h5▸g.m0⟩
theorem Zov {K:Kf} {c:Cv} (h:c.way=0):Lc (Ad K c)=some (I 0::B false::Ad K c):=by
 have key:∀{A B':Fn},Zz A B' (Ad K c)=some (I 0::B false::Ad K c):=by
  intro A B';rw[Ze4,BO (by simp[h])]
 exact key
abbrev stand (c:Cv):Cv:={c with m0:=wrap .i64 (Bl c*256),m1:=0,m2:=0,m3:=wrap .i64 (Bl c*256),m4:=wrap .i64 (Bl c*256),m5:=wrap .i64 (Bl c*256)}
theorem Qvc (u:Int):Jd [I u]=some [I (wrap .i64 (u*256)),I 0,I 0,I (wrap .i64 (u*256)),I (wrap .i64 (u*256)),I (wrap .i64 (u*256))]:=by
 show Qkj [I u]=_;rw[Zzy]
theorem Zif {MS MU:Fn} {K:Kf} {c:Cv} (hU:MU (Ad K c)=some [I (Bl c)]) (hS:∀u:Int,MS [I u]=some [I (wrap .i64 (u*256)),I 0,I 0,I (wrap .i64 (u*256)),I (wrap .i64 (u*256)),I (wrap .i64 (u*256))]):
  Xw MS MU (Ad K c)=some (if c.g0=2 then I 6::B true::Ad K (stand c)else I 0::B false::Ad K c):=by
 rw[Zj2];by_cases h:c.g0=2
 ·rw[if_pos h,Bn (by simp[h]),hU];simp only[Option.bind_some,gA,wA,bA,jA,EP,Gx];rw[hS];rfl
 ·rw[if_neg h,BO (by simpa using h)]
theorem Zkw (K:Kf) (c:Cv):K_ (Ad K c)=some (if c.g0=2 then I 6::B true::Ad K (stand c)else I 0::B false::Ad K c):=Zif (QA K c) Qvc
theorem Zyo (K:Kf) (c:Cv):KS (Ad K c)=some (I c.aI::B (c.aI !=0)::Ad K c):=by
 show Qal (Ad K c)=_;rw[Zh9]
theorem Zoo (K:Kf) (c:Cv):Ld (Ad K c)=some (if c.aH=true/\c.aM=true then I 8::B true::Ad K {c with aI:=8}else I 0::B false::Ad K c):=by
 show Vy (Ad K c)=_;rw[Zhm];by_cases h:c.aH=true
 ·by_cases h2:c.aM=true
  ·rw[if_pos ⟨h,h2⟩,Bn (by simp[h]),Bn (by simp[h2]),h,h2]
  ·rw[if_neg (fun e=>h2 e.2),Bn (by simp[h]),BO (by simpa using h2)]
 ·rw[if_neg (fun e=>h e.1),BO (by simpa using h)]
theorem Q6w {a N:Int} (h: -N<=a/\a<=N): -N<=a.tdiv 256*256/\a.tdiv 256*256<=N:=by
 by_cases k:0<=a
 ·rw[Int.tdiv_eq_ediv_of_nonneg k];omega
 ·obtain⟨b,rfl⟩:∃b,a= -b:=⟨-a,by omega⟩;rw[Int.neg_tdiv,Int.tdiv_eq_ediv_of_nonneg (by omega)];omega
theorem Gd.stand {K:Kf} (h:KOK K) {n:Int} {c:Cv} (g:Gd K n c) (hn:0<=n/\n<=10000):Gd K n (stand c)/\Bl (stand c)=Bl c:=by
 have h0:=Q6w g.m0;have e:Bl c=c.m0.tdiv 256:=Ae (by omega);have e2:(Go.Bm.stand c).m0=c.m0.tdiv 256*256:=by
  show wrap .i64 (Bl c*256)=_;rw[e,Ae (by omega)]
 refine⟨⟨g.way,g.pass,g.task,Rx h.plan,?_⟩,?_⟩
 ·rw[e2];omega
 ·show wrap .i64 ((Go.Bm.stand c).m0.tdiv 256)=_;rw[e2,Int.mul_tdiv_cancel _ (by omega),e,Ae (by omega)]
end Go.Bm
namespace Go.Bm
theorem Out.eqv {α:Type} {p:α->Prop} {a b:Option α} (h:a=b) (g:Out p b):Out p a:=h▸g
abbrev Ma (pul outs:Rw) (mode s:Int) (m:Pt) (sp fault:Int):List AC:=[.view kPt pul, .view Aa outs,I mode,I s,I m.x,I m.y,I m.z,I sp,I fault]
abbrev Ey:List AC:=[.view kPt [], .view Aa [],I 0,I 0,I 0,I 0,I 0,I 0,I 0]
theorem Qs1 {K:Kf} {n:Int} {c:Cv} (g:Gd K n c) (hn:0<=n/\n<=10010): -300000000000<=Bl c/\Bl c<=300000000000:=by
 have h:=g.m0;have h1: -300000000000<=c.m0/\c.m0<=300000000000:=by omega
 have h2:=Q6w h1;have e:Bl c=c.m0.tdiv 256:=Ae (by omega);omega
end Go.Bm
namespace Go.Bm
theorem Zgl (r k:Int):(AR r k=r/\AQ r k=0)\/(AR r k=0/\AQ r k=r)\/(AR r k= -r/\AQ r k=0)\/(AR r k=0/\AQ r k= -r):=by
 have hc:k%4=0\/k%4=1\/k%4=2\/k%4=3:=by omega
 unfold AR AQ;rcases hc with h|h|h|h<;>simp[h]
theorem Q0x (r k:Int):sq2 (AR r k) (AQ r k)=r*r:=by
 unfold sq2;rcases Zgl r k with⟨h1,h2⟩|⟨h1,h2⟩|⟨h1,h2⟩|⟨h1,h2⟩<;>rw[h1,h2]<;>grind
theorem Z2a {p q k t:Int} (ht:t=1\/t=2\/t=3) (hp:0<p) (hq:0<q):crs (AR p k) (AQ p k) (AR q (k+t)) (AQ q (k+t))≠0\/dt2 (AR p k) (AQ p k) (AR q (k+t)) (AQ q (k+t))<0:=by
 have hc:k%4=0\/k%4=1\/k%4=2\/k%4=3:=by omega
 have hpq:0<p*q:=Int.mul_pos hp hq;have hm: -p*q= -(p*q)/\p* -q= -(p*q)/\ -p* -q=p*q:=⟨Int.neg_mul ..,Int.mul_neg ..,Int.neg_mul_neg ..⟩;have e:∀j:Int,(k+t)%4=j->∀i:Int,k%4=i->crs (AR p k) (AQ p k) (AR q (k+t)) (AQ q (k+t))=(if i=0 then p else if i=2 then-p else 0)*(if j=1 then q else if j=3 then-q else 0)-(if i=1 then p else if i=3 then-p else 0)*(if j=0 then q else if j=2 then-q else 0)/\
   dt2 (AR p k) (AQ p k) (AR q (k+t)) (AQ q (k+t))=(if i=0 then p else if i=2 then-p else 0)*(if j=0 then q else if j=2 then-q else 0)+(if i=1 then p else if i=3 then-p else 0)*(if j=1 then q else if j=3 then-q else 0):=by
  intro j hj i hi;subst hj hi;exact⟨rfl,rfl⟩
 rcases ht with rfl|rfl|rfl<;>rcases hc with h1|h1|h1|h1
 ·obtain⟨e1,e2⟩:=e 1 (by omega) _ h1;simp at e1 e2;omega
 ·obtain⟨e1,e2⟩:=e 2 (by omega) _ h1;simp at e1 e2;omega
 ·obtain⟨e1,e2⟩:=e 3 (by omega) _ h1;simp at e1 e2;omega
 ·obtain⟨e1,e2⟩:=e 0 (by omega) _ h1;simp at e1 e2;omega
 ·obtain⟨e1,e2⟩:=e 2 (by omega) _ h1;simp at e1 e2;omega
 ·obtain⟨e1,e2⟩:=e 3 (by omega) _ h1;simp at e1 e2;omega
 ·obtain⟨e1,e2⟩:=e 0 (by omega) _ h1;simp at e1 e2;omega
 ·obtain⟨e1,e2⟩:=e 1 (by omega) _ h1;simp at e1 e2;omega
 ·obtain⟨e1,e2⟩:=e 3 (by omega) _ h1;simp at e1 e2;omega
 ·obtain⟨e1,e2⟩:=e 0 (by omega) _ h1;simp at e1 e2;omega
 ·obtain⟨e1,e2⟩:=e 1 (by omega) _ h1;simp at e1 e2;omega
 ·obtain⟨e1,e2⟩:=e 2 (by omega) _ h1;simp at e1 e2;omega
theorem Zhb {size:Int} {it:Itm} (h:ArcMade size it):Qhm it:=by
 obtain⟨r,k,t,g,x,h1,h2,h3,h4,h5,h6,h7,h8,h9,h10,h11,h12,h13⟩:=h.ends;have hp:=h.aG;have a1:dU it it.fr=AR r k:=by unfold dU;rw[h12,(OH hp).1];omega
 have a2:dW it it.fr=AQ r k:=by unfold dW;rw[h12,(OH hp).2.1];omega
 have a3:dU it it.to=AR (r+g) (k+t):=by unfold dU;rw[h12,h13,(OH hp).1,(OH hp).1];omega
 have a4:dW it it.to=AQ (r+g) (k+t):=by unfold dW;rw[h12,h13,(OH hp).2.1,(OH hp).2.1];omega
 have q1:qA it=r*r:=by unfold qA;rw[a1,a2,Q0x]
 have q2:qB it=(r+g)*(r+g):=by unfold qB;rw[a3,a4,Q0x]
 have m1:64<=r*r:=by
  have:=Int.mul_le_mul h1 h1 (by omega) (by omega);omega
 have m2:64<=(r+g)*(r+g):=by
  have:=Int.mul_le_mul (show(8:Int)<=r+g by omega) (show(8:Int)<=r+g by omega) (by omega) (by omega);omega
 unfold Qhm;refine⟨by omega,by omega,?_,?_,?_⟩
 ·rw[q1,q2];unfold HF;right;have hg:g*g<=16:=by
   have:=Int.mul_le_mul h8 h8 h7 (by omega);omega
  have e1:r*r+(r+g)*(r+g)-16=2*(r*(r+g))+(g*g-16):=by grind
  have hpos:0<=r*(r+g):=Int.mul_nonneg (by omega) (by omega);have hge:64<=r*(r+g):=by
   have:=Int.mul_le_mul h1 (show(8:Int)<=r+g by omega) (by omega) (by omega);omega
  have hgg:0<=g*g:=Int.mul_nonneg h7 h7;have e2:4*(r*r)*((r+g)*(r+g))=(2*(r*(r+g)))*(2*(r*(r+g))):=by grind
  rw[e1,e2];generalize 2*(r*(r+g))=m at*;exact Int.mul_self_le_mul_self (by omega) (by omega)
 ·intro hf;rw[h11]at hf;have ht:=of_decide_eq_true hf;rw[a1,a2,a3,a4,ht,h10 ht,Int.add_zero,Int.add_zero];exact⟨rfl,rfl⟩
 ·intro hf;rw[h11]at hf;have ht:=of_decide_eq_false hf;unfold cAB dAB;rw[a1,a2,a3,a4];exact Z2a (by omega) (by omega) (by omega)
theorem Zcp {it:Itm} (h:Made it) (h1:bd 1000000 it.fr) (h2:bd 1000000 it.to):Dt it:=by
 refine⟨h.kind,AW h1 (by omega),AW h2 (by omega),fun h3=> ?_⟩;have ha:=h.arc h3;exact⟨ha.aG,ha.dir,AW (Qas ha (by omega) h1).2 (by omega),Zhb ha⟩
end Go.Bm
namespace Go.Bm
open Classical
structure Oth (it : Itm) : Prop where
 kind:7<=it.kind/\it.kind<=14
 spin:it.kind=8->3<=it.n/\it.n<=5/\0<=it.speed/\it.speed<=4000
 dwell:it.kind=7->0<=it.n/\it.n<=4
 out:it.kind=10->0<=it.n/\it.n<=15
def IZ:Pt->List Itm->Prop
 |_,[]=>True
 |p,it::l=>if AB it then it.fr=p/\IZ it.to l else IZ p l
def Eu:Pt->List Itm->Pt
 |p,[]=>p
 |p,it::l=>if AB it then Eu it.to l else Eu p l
theorem Qgr {it:Itm}:∀{l:List Itm} {p:Pt},IZ p l->(AB it->it.fr=Eu p l)->IZ p (l++[it])
 |[],p,_,h=>by
  simp only[List.nil_append,IZ];split
  ·rename_i c;exact⟨h c,trivial⟩
  ·trivial
 |a::l,p,h1,h=>by
  simp only[List.cons_append,IZ]at h1⊢;unfold Eu at h;by_cases c:AB a
  ·rw[if_pos c]at h1 h⊢;exact⟨h1.1,Qgr h1.2 h⟩
  ·rw[if_neg c]at h1 h⊢;exact Qgr h1 h
theorem Ja {it:Itm}:∀{l:List Itm} {p:Pt},Eu p (l++[it])=if AB it then it.to else Eu p l
 |[],p=>by simp only[List.nil_append,Eu]
 |a::l,p=>by
  simp only[List.cons_append,Eu];by_cases c:AB a
  ·rw[if_pos c,if_pos c];exact Ja
  ·rw[if_neg c,if_neg c];exact Ja
structure Items (A : Nat) (p : Pt) (l : List Itm) : Prop where
 link:IZ p l
 made:∀it∈l,(AB it/\Made it/\FG it/\bd A it.fr/\bd A it.to)\/Oth it
theorem Ol {A:Nat} {p:Pt} {l:List Itm} {it:Itm} (h:Items A p l) (h1:AB it->it.fr=Eu p l) (h2:(AB it/\Made it/\FG it/\bd A it.fr/\bd A it.to)\/Oth it):Items A p (l++[it]):=by
 refine⟨Qgr h.link h1,fun i hi=> ?_⟩;simp only[List.mem_append,List.mem_singleton]at hi;rcases hi with hi|rfl
 ·exact h.made i hi
 ·exact h2
theorem OR {it:Itm} (h:Oth it): ¬AB it:=fun g=>by have:=h.kind;have:=g.2;omega
theorem Zyi {MN:Fn} {l:Rw} (hN:HI l MN) (k:Nat):
  ∃(it:Itm) (k':Nat),Qiu MN [.view Aa l,I k]=some (Ag it++[.view Aa l,I k'])/\k<=k'/\Oth it:=by
 rw[Zma];obtain⟨v0,k0,e0,a0,b0,c0,-,-⟩:=hN k (n:=8) (by omega);obtain⟨v1,k1,e1,a1,b1,c1,-,-⟩:=hN k0 (n:=16) (by omega);obtain⟨v2,k2,e2,a2,b2,c2,-,-⟩:=hN k1 (n:=2) (by omega);obtain⟨v3,k3,e3,a3,b3,c3,-,-⟩:=hN k0 (n:=5) (by omega);obtain⟨v4,k4,e4,a4,b4,c4,-,-⟩:=hN k0 (n:=3) (by omega);obtain⟨v5,k5,e5,a5,b5,c5,-,-⟩:=hN k4 (n:=4000) (by omega);simp only[go_sem,e0,e1,e2,e3,e4,e5];rw[Ae (x:=3+v4) (by omega)];have fin:∀(kd n sp:Int) (on:Bool) (k':Nat),k<=k'->Oth ⟨kd,0,⟨0,0,0⟩,⟨0,0,0⟩,0,⟨0,0,0⟩,0,false,0,false,0,0,0,n,sp,on⟩->
   ∃(it:Itm) (k'':Nat),some [I kd,I 0,I 0,I 0,I 0,I 0,I 0,I 0,I 0,I 0,I 0,I 0,I 0,B false,I 0,B false,I 0,I 0,I 0,I n,I sp,B on, .view Aa l,I k']=some (Ag it++[.view Aa l,I k''])/\k<=k''/\Oth it:=by
  intro kd n sp on k' h1 h2;exact⟨_,k',rfl,h1,h2⟩
 by_cases c0:v0=0
 ·rw[if_pos c0];exact fin _ _ _ _ _ (by omega) ⟨by simp only;omega,by simp,by simp,fun _=>by simp only;omega⟩
 rw[if_neg c0];by_cases c1:v0=1
 ·rw[if_pos c1];exact fin _ _ _ _ _ (by omega) ⟨by simp only;omega,by simp,by simp,fun _=>by simp only;omega⟩
 rw[if_neg c1];by_cases c2:v0=2
 ·rw[if_pos c2];exact fin _ _ _ _ _ (by omega) ⟨by simp only;omega,by simp,fun _=>by simp only;omega,by simp⟩
 rw[if_neg c2];by_cases c3:v0=3
 ·rw[if_pos c3];exact fin _ _ _ _ _ (by omega) ⟨by simp only;omega,fun _=>by simp only;omega,by simp,by simp⟩
 rw[if_neg c3];by_cases c4:v0=4
 ·rw[if_pos c4];exact fin _ _ _ _ _ (by omega) ⟨by simp only;omega,by simp,by simp,by simp⟩
 rw[if_neg c4];by_cases c5:v0=5
 ·rw[if_pos c5];exact fin _ _ _ _ _ (by omega) ⟨by simp only;omega,by simp,by simp,by simp⟩
 rw[if_neg c5];by_cases c6:v0=6
 ·rw[if_pos c6];exact fin _ _ _ _ _ (by omega) ⟨by simp only;omega,by simp,by simp,by simp⟩
 rw[if_neg c6];exact fin _ _ _ _ _ (by omega) ⟨by simp only;omega,by simp,by simp,by simp⟩
theorem Za1 {l:Rw} (hl:Src l) (k:Nat):∃(it:Itm) (k':Nat),KT [.view Aa l,I k]=some (Ag it++[.view Aa l,I k'])/\k<=k'/\Oth it:=Zyi (Jc hl) k
theorem Zvu {v:Int} (h:0<=v/\v<8):∃x,Af (nth .dead (nth [] [[I 2],[I 2],[I 2],[I 3],[I 1],[I 6],[I 5],[I 4]] v.toNat) 0)=x/\1<=x/\x<=6:=by
 have hc:v=0\/v=1\/v=2\/v=3\/v=4\/v=5\/v=6\/v=7:=by omega
 rcases hc with rfl|rfl|rfl|rfl|rfl|rfl|rfl|rfl<;>exact⟨_,rfl,by decide⟩
theorem Zo6 {MM MO ML MN MF:Fn} {l:Rw} (hN:HI l MN)
  (hM : ∀ {p : Pt}, bd 100000000 p -> ∀ {kind : Int}, (1 <= kind /\ kind <= 6) -> ∀ k : Nat,
   ∃(it:Itm) (k':Nat),MM [I p.x,I p.y,I p.z,I kind, .view Aa l,I k]=some (Ag it++[.view Aa l,I k'])/\k<=k'/\it.fr=p/\it.kind=kind/\Made it/\FG it)
  (hO:∀k:Nat,∃(it:Itm) (k':Nat),MO [.view Aa l,I k]=some (Ag it++[.view Aa l,I k'])/\k<=k'/\Oth it)
  (hL:∀k:Nat,ML [.view Aa l,I k]=some [B (decide (k<l.length)), .view Aa l,I k]) {most:Int} {fin:Bool} (hm:most<=100) {p:Pt}:
  ∀s:List Itm×Nat,(Items (4+40*102) p s.1/\bd (4+40*s.1.length) (Eu p s.1)/\(s.1=[]\/s.1.length<=most+1))->
   ∃o,An (Qdk MM MO ML MN MF) [.view Ai (s.1.map Ag),I most,B fin,I (Eu p s.1).x,I (Eu p s.1).y,I (Eu p s.1).z, .view Aa l,I s.2]=some o/\o.1≠0/\
    ∃aA,o=(1,[.view Ai (aA.map Ag),B fin])/\Items (4+40*102) p aA/\(aA=[]\/aA.length<=most+1):=by
 refine Qzi (S:=List Itm×Nat) (fun s=>[.view Ai (s.1.map Ag),I most,B fin,I (Eu p s.1).x,I (Eu p s.1).y,I (Eu p s.1).z, .view Aa l,I s.2]) _ (fun s=>l.length-s.2) _ ?_;rintro⟨aA,k⟩ ⟨h1,h2,h3⟩;simp only at h1 h2 h3;simp only;rw[Zyv];simp only[go_sem,hL,List.length_map];by_cases c1:(aA.length:Int)<most
 case neg=>
  rw[if_neg c1];exact .inr ⟨_,rfl,by simp,aA,rfl,h1,h3⟩
 rw[if_pos c1];by_cases c2:k<l.length
 case neg=>
  rw[if_neg (by simpa using c2)];exact .inr ⟨_,rfl,by simp,aA,rfl,h1,h3⟩
 rw[if_pos (by simpa using c2)];obtain⟨v,k1,e1,a1,b1,d1,d2,-⟩:=hN k (n:=12) (by omega);have d3:=d2 c2;subst d3;simp only[go_sem,e1];have hmost:aA.length<100:=by omega
 by_cases c3:v<4
 ·rw[if_pos c3];obtain⟨it,k2,e2,g1,g2⟩:=hO (k+1);have hnm:=OR g2;simp only[go_sem,e2,Ag,List.cons_append,List.nil_append];rw[if_pos (by simp;omega)];left;refine⟨(aA++[it],k2),?_,⟨Ol h1 (fun h=>absurd h hnm) (.inr g2),?_, .inr ?_⟩,?_⟩
  ·simp only[Ja,if_neg hnm,List.map_append,List.map_cons,List.map_nil,Ag]
  ·simp only[Ja,if_neg hnm,List.length_append,List.length_singleton];exact AW h2 (by omega)
  ·simp only[List.length_append,List.length_singleton];omega
  ·simp only;omega
 ·rw[if_neg c3,Ae (by omega)];obtain⟨x,hx,hx1,hx2⟩:=Zvu (v:=v-4) (by omega);have hpb:bd 100000000 (Eu p aA):=AW h2 (by omega);obtain⟨it,k2,e2,g1,g2,g3,g4,g5⟩:=hM hpb (kind:=x) (by omega) (k+1);have hmo:AB it:=by unfold AB;omega
  have hb2:=Qye g4 (by rw[g2];exact h2);rw[if_pos (by simp;omega)];simp only[go_sem,hx,e2,Ag,List.cons_append,List.nil_append];have hmade:(AB it/\Made it/\FG it/\bd (4+40*102) it.fr/\bd (4+40*102) it.to)\/Oth it:= .inl ⟨hmo,g4,g5,by rw[g2];exact AW h2 (by omega),AW hb2 (by omega)⟩;by_cases c5:it.kind=5
  ·rw[if_pos c5];obtain⟨v3,k3,e3,a3,b3,d3,-,-⟩:=hN k2 (n:=2) (by omega);obtain⟨v4,k4,e4,a4,b4,d4,-,-⟩:=hN k3 (n:=3000) (by omega);simp only[go_sem,e3,e4];rw[Ae (x:=3+v3) (by omega),Ae (x:=200+v4) (by omega)];rw[if_pos (by simp;omega),if_pos (by simp;omega)];have hsp:Oth ⟨8,0,⟨0,0,0⟩,⟨0,0,0⟩,0,⟨0,0,0⟩,0,false,0,false,0,0,0,3+v3,200+v4,false⟩:=⟨by simp only;omega,fun _=>by simp only;omega,by simp,by simp⟩;have hnm:=OR hsp;have i1:=Ol h1 (fun h=>absurd h hnm) (.inr hsp);left;refine⟨(aA++[⟨8,0,⟨0,0,0⟩,⟨0,0,0⟩,0,⟨0,0,0⟩,0,false,0,false,0,0,0,3+v3,200+v4,false⟩]++[it],k4),?_,⟨Ol i1 (fun _=>by rw[Ja,if_neg hnm];exact g2) hmade,?_, .inr ?_⟩,?_⟩
   ·simp only[Ja,if_pos hmo,List.map_append,List.map_cons,List.map_nil,Ag]
   ·simp only[Ja,if_pos hmo,List.length_append,List.length_singleton];exact AW hb2 (by omega)
   ·simp only[List.length_append,List.length_singleton];omega
   ·simp only;omega
  ·rw[if_neg c5,if_pos (by simp;omega)];left;refine⟨(aA++[it],k2),?_,⟨Ol h1 (fun _=>g2) hmade,?_, .inr ?_⟩,?_⟩
   ·simp only[Ja,if_pos hmo,List.map_append,List.map_cons,List.map_nil,Ag]
   ·simp only[Ja,if_pos hmo,List.length_append,List.length_singleton];exact AW hb2 (by omega)
   ·simp only[List.length_append,List.length_singleton];omega
   ·simp only;omega
def KL:Itm:=⟨14,0,⟨0,0,0⟩,⟨0,0,0⟩,0,⟨0,0,0⟩,0,false,0,false,0,0,0,0,0,false⟩
theorem Qw2:Oth KL:=⟨by simp[KL],by simp[KL],by simp[KL],by simp[KL]⟩
theorem Zyq {MM MO ML MN MF:Fn} {N:Lp} {l:Rw} (hN:HI l MN) (hF:MF [.view Aa l]=some [.view Aa l,I 0]) {most:Int} {fin:Bool} (hm:most<=100)
  (hL:∀(p:Pt) (k:Nat),bd 4 p->∃aA,N [.view Ai [],I most,B fin,I p.x,I p.y,I p.z, .view Aa l,I k]=some (1,[.view Ai (aA.map Ag),B fin])/\Items 4084 p aA/\(aA=[]\/aA.length<=most+1)):
  ∃(p:Pt) (aA:List Itm),YD MM MO ML MN MF N [.view Aa l,I most,B fin]=some [.view Ai ((aA++if fin=true then [KL]else []).map Ag)]/\Items 4084 p aA/\(aA=[]\/aA.length<=most+1):=by
 obtain⟨v1,k1,e1,a1,b1,c1,-,-⟩:=hN 0 (n:=9) (by omega);obtain⟨v2,k2,e2,a2,b2,c2,-,-⟩:=hN k1 (n:=9) (by omega);obtain⟨v3,k3,e3,a3,b3,c3,-,-⟩:=hN k2 (n:=9) (by omega);obtain⟨aA,h1,h2,h3⟩:=hL ⟨v1-4,v2-4,v3-4⟩ k3 ⟨by simp only;omega,by simp only;omega,by simp only;omega⟩;rw[Zew];have e1':MN [I 9, .view Aa l,I 0]=some [I v1, .view Aa l,I k1]:=e1;simp only[go_sem,hF,e1',e2,e3];rw[Ae (x:=v1-4) (by omega),Ae (x:=v2-4) (by omega),Ae (x:=v3-4) (by omega)];simp only[h1,go_sem];refine⟨_,aA,?_,h2,h3⟩;have hlen:aA.length<=101:=by
  rcases h3 with h3|h3
  ·rw[h3];simp
  ·omega
 cases fin
 ·simp
 ·rw[if_pos rfl,if_pos (by simp;omega),if_pos rfl,List.map_append];rfl
theorem Q9i {l:Rw} (hl:Src l) {most:Int} (hm:most<=100) (fin:Bool):
  ∃(p:Pt) (aA:List Itm),JF [.view Aa l,I most,B fin]=some [.view Ai (aA.map Ag)]/\Items 4084 p aA/\(aA.length:Int)<=max most (-1)+2/\(fin=true->∃l,aA=l++[KL]/\(l.length:Int)<=max most (-1)+1)/\(fin=false->(aA.length:Int)<=max most (-1)+1):=by
 obtain⟨p,aA,h1,h2,h3⟩:=Zyq (MM:=LR) (MO:=KT) (ML:=Kh) (N:=Vr) (fin:=fin) (Jc hl) (RF l) hm fun p k hp=>by
  obtain⟨o,h1,-,aA,rfl,h3,h4⟩:=Zo6 (MF:=DA) (fin:=fin) (Jc hl) (fun hp _ hk k=>Ze9 hl hp hk k) (fun k=>Za1 hl k) (Zb5 l) hm (p:=p) ([],k) ⟨⟨trivial,by simp⟩,hp, .inl rfl⟩;exact⟨aA,h1,h3,h4⟩
 have hle:(aA.length:Int)<=max most (-1)+1:=by
  rcases h3 with h3|h3
  ·rw[h3];simp;omega
  ·omega
 refine⟨p,_,h1,?_,?_,fun hf=> ?_,fun hf=> ?_⟩
 ·cases fin
  ·simpa using h2
  ·simp only[if_true];exact Ol h2 (fun h=>absurd h (OR Qw2)) (.inr Qw2)
 ·cases fin
  ·simp;omega
  ·simp;omega
 ·subst hf;exact⟨aA,by simp,hle⟩
 ·subst hf;simpa using hle
theorem Qfl {A:Nat} {aA:List Itm} (hA:A<=1000000) (hm:∀it∈aA,(AB it/\Made it/\FG it/\bd A it.fr/\bd A it.to)\/Oth it):∀(k i:Nat) (last:Int) (p:Pt),i+k=aA.length->IZ p (aA.drop i)->(0<=last->(itA aA last.toNat).to=p)->GW aA k i last=0
 |0,_,_,_,_,_,_=>rfl
 |k+1,i,last,p,hi,h,hp=>by
  have hlt:i<aA.length:=by omega
  have hit:=hm _ (Q4q hlt);rw[Vb hlt]at h;unfold IZ at h;unfold GW;have hw: ¬BL (itA aA i):=by
   rcases hit with⟨h1,h2,h3,h4,h5⟩|ho
   ·have hv:=Zcp h2 (AW h4 hA) (AW h5 hA);have hf:=h2.feed;have hb:=h2.blend;have hk:=h2.kind;rintro(g|g|⟨-,g|g|g|g⟩|⟨g,-⟩)
    ·omega
    ·omega
    ·exact g hv
    ·omega
    ·omega
    ·omega
    ·exact g h1
   ·have hk:=ho.kind;rintro(g|g|⟨g,-⟩|⟨-,g1,g2⟩)
    ·omega
    ·omega
    ·exact OR ho g
    ·have:=ho.spin g1;omega
  rw[if_neg hw];by_cases c:AB (itA aA i)
  ·rw[if_pos c]at h⊢;rw[if_neg (fun g=>g.2 (by rw[hp g.1];exact h.1.symm))];exact Qfl hA hm k (i+1) i _ (by omega) h.2 (fun _=>by rw[Int.toNat_natCast])
  ·rw[if_neg c]at h⊢;exact Qfl hA hm k (i+1) last p (by omega) h hp
theorem Q1e {A:Nat} {p:Pt} {aA:List Itm} (hA:A<=1000000) (h:Items A p aA) (hl:aA.length<=20000):C3 aA=0:=by
 unfold C3;rw[if_neg (by omega)];exact Qfl hA h.made aA.length 0 (-1) p (by omega) (by rw[List.drop_zero];exact h.link) (fun h=>by omega)
end Go.Bm
namespace Go.Bm
theorem Zqi {M:Fn} (hM:∀{hi lo y:Nat},hi<y->y<w64->lo<w64->M [U hi,U lo,U y]=some [U (((hi*w64+lo)/y:Nat):Int),U (((hi*w64+lo)%y:Nat):Int)])
  {hi lo y:Nat} (hhi:hi<w64) (hlo:lo<w64) (hy0:0<y) (hy:y<w64):
  ∃qh ql:Nat,Qkf M [U hi,U lo,U y]=some [U qh,U ql,B (decide (0<(hi*w64+lo)%y))]/\qh<w64/\ql<w64/\qh*w64+ql=(hi*w64+lo)/y:=by
 have h1:=hM (hi:=0) (lo:=hi) hy0 hy hhi;rw[Nat.zero_mul,Nat.zero_add,show((0:Nat):Int)=0 from rfl]at h1;have hm:=Nat.mod_lt hi hy0;have h2:=hM (hi:=hi%y) (lo:=lo) hm hy hlo;have e:=Nat.div_add_mod hi y;have e2:hi*w64+lo=hi%y*w64+lo+hi/y*w64*y:=by
  have:hi*w64=hi/y*w64*y+hi%y*w64:=by
   rw[<-e,Nat.mul_add_mod,Nat.mod_mod];rw[show(y*(hi/y)+hi%y)/y=hi/y from by rw[e]];rw[Nat.add_mul,Nat.mul_comm y,Nat.mul_assoc,Nat.mul_comm y,Nat.mul_assoc]
  omega
 have hq:(hi*w64+lo)/y=(hi%y*w64+lo)/y+hi/y*w64:=by rw[e2,Nat.add_mul_div_right _ _ hy0]
 have hr:(hi*w64+lo)%y=(hi%y*w64+lo)%y:=by rw[e2,Nat.add_mul_mod_self_right]
 have hlt:(hi%y*w64+lo)/y<w64:=by
  rw[Nat.div_lt_iff_lt_mul hy0];have:hi%y*w64+w64<=y*w64:=by rw[<-Nat.succ_mul];exact Nat.mul_le_mul_right _ hm
  rw[Nat.mul_comm w64];omega
 refine⟨hi/y,(hi%y*w64+lo)/y,?_,Nat.lt_of_le_of_lt (Nat.div_le_self _ _) hhi,hlt,by rw[hq];omega⟩;rw[Zm0];simp only[go_sem,h1,h2,hr];by_cases c:0<(hi%y*w64+lo)%y
 ·rw[decide_eq_true c,decide_eq_true (show(((hi%y*w64+lo)%y:Nat):Int)>0 by omega)]
 ·rw[decide_eq_false c,decide_eq_false (show¬(((hi%y*w64+lo)%y:Nat):Int)>0 by omega)]
theorem Q9q {A n t:Nat} (hn:0<n) (h1:t*t<=2*A*(2*A)/n) (h2:2*A*(2*A)/n<(t+1)*(t+1)) (down:Bool) {E:Prop} [Decidable E] (hE:E↔(2*A*(2*A)%n=0/\t*t=2*A*(2*A)/n)):
  Ev A n down (if t%2=1/\(¬E\/down=false)then t/2+1 else t/2):=by
 have e4:2*A*(2*A)=4*(A*A):=by grind
 have k1:t*t*n<=2*A*(2*A):=(Nat.le_div_iff_mul_le hn).1 h1;have k2:2*A*(2*A)<(t+1)*(t+1)*n:=(Nat.div_lt_iff_lt_mul hn).1 h2;have k3:(2*A*(2*A)%n=0/\t*t=2*A*(2*A)/n)↔t*t*n=2*A*(2*A):=by
  have hd:=Nat.div_add_mod (2*A*(2*A)) n;constructor
  ·rintro⟨g1,g2⟩;rw[g2,Nat.mul_comm];omega
  ·intro g;rw[<-g];exact⟨Nat.mul_mod_left _ _,(Nat.mul_div_cancel _ hn).symm⟩
 have k4:=hE.trans k3;rw[e4]at k1 k2 k4;clear hE k3 h1 h2;generalize hQ:4*(A*A)=Q at*;unfold Ev;rw[hQ];rcases Nat.mod_two_eq_zero_or_one t with ht|ht
 ·rw[if_neg (by omega)];obtain⟨m,rfl⟩:∃m,t=2*m:=⟨t/2,by omega⟩;rw[show 2*m/2=m by omega];have h5:(2*m+1)*(2*m+1)*n<=(2*m+1)*(2*m+1)*n:=Nat.le_refl _;refine⟨?_,?_⟩
  ·rcases Nat.eq_zero_or_pos m with hm|hm
   ·exact .inl hm
   ·right;have h6:(2*m-1)*(2*m-1)*n<2*m*(2*m)*n:=Nat.mul_lt_mul_of_pos_right (Nat.mul_self_lt_mul_self (by omega)) hn;split<;>omega
  ·split<;>omega
 ·obtain⟨m,rfl⟩:∃m,t=2*m+1:=⟨t/2,by omega⟩;rw[show(2*m+1)/2=m by omega];have h6:(2*m+1+1)*(2*m+1+1)*n<=(2*(m+1)+1)*(2*(m+1)+1)*n:=Px (by omega);have h7:(2*m-1)*(2*m-1)*n<(2*m+1)*(2*m+1)*n:=Nat.mul_lt_mul_of_pos_right (Nat.mul_self_lt_mul_self (by omega)) hn;have h8:2*(m+1)-1=2*m+1:=by omega
  by_cases c: ¬E\/down=false
  ·rw[if_pos ⟨ht,c⟩,h8];refine⟨.inr ?_,?_⟩
   ·cases down
    ·simp only[Bool.false_eq_true,if_false];exact k1
    ·simp only[if_true];rcases c with c|c
     ·exact Nat.lt_of_le_of_ne k1 fun h=>c (k4.2 h)
     ·cases c
   ·split<;>omega
  ·have c1:(2*m+1)*(2*m+1)*n=Q:=by
    by_cases g:E
    ·exact k4.1 g
    ·exact absurd (.inl g) c
   have c2:down=true:=by
    cases down
    ·exact absurd (.inr rfl) c
    ·rfl
   subst c2;rw[if_neg (fun h=>c h.2)];simp only[if_true];exact⟨.inr (by omega),by omega⟩
theorem Za8 {x d:Int}:sgn x d<0↔x*d<0:=by
 rcases Sc x d with⟨h,g⟩|⟨h,g⟩|⟨h,g⟩<;>omega
theorem Zh5 {MSg MG MS MR MQ MP MK MZ:Fn} {x d:Int} {n X D h1 l1 qh ql t h2 l2:Nat} (hX:X<=2147483648) (hD:D<=2147483648) (hn:0<n/\n<=4611686018427387904)
  (z1:MZ [I x]=some [U X]) (z2:MZ [I d]=some [U D]) (hk:MK [I 2]=some [B true]) (hp1:MP [U ((2*(X*D):Nat):Int),U ((2*(X*D):Nat):Int)]=some [U h1,U l1])
  (hq1:MQ [U h1,U l1,U n]=some [U qh,U ql,B (decide (0<2*(X*D)*(2*(X*D))%n))]) (hq2:qh*w64+ql=2*(X*D)*(2*(X*D))/n) (hql:ql<w64) (hr1:MR [U qh,U ql]=some [U t]) (ht2:t<w64)
  (hp2:MP [U t,U t]=some [U h2,U l2]) (hp3:h2*w64+l2=t*t) (hl2:l2<w64) (hs:MS [I x,I d]=some [I (sgn x d)])
  (hg:∀(more:Int) (some_ neg:Bool),MG [I 2,I more,B some_,B neg]=some [B (if more>0 then true else if more=0 then !neg else false)])
  (g1:∀{n:Nat},n<9223372036854775808->MSg [U n,B false]=some [I n,B true]) (g2:∀{n:Nat},n<=9223372036854775808->MSg [U n,B true]=some [I (-(n:Int)),B true]) {J:Nat}
  (hJ1:t%2=1->(¬(2*(X*D)*(2*(X*D))%n=0/\t*t=2*(X*D)*(2*(X*D))/n)\/ ¬sgn x d<0)->J=t/2+1) (hJ3: ¬(t%2=1/\(¬(2*(X*D)*(2*(X*D))%n=0/\t*t=2*(X*D)*(2*(X*D))/n)\/ ¬sgn x d<0))->J=t/2) (hJ2:t<=9223372036854775808):
  YH MSg MG MS MR MQ MP MK MZ [I x,I d,I n,I 2]=some [I (if sgn x d<0 then-(J:Int)else J),B true]:=by
 have hXD:X*D<=2147483648*2147483648:=Nat.mul_le_mul hX hD;have w1:wrap .u64 (2*wrap .u64 ((X:Int)*(D:Int)))=((2*(X*D):Nat):Int):=by
  rw[<-Int.natCast_mul,wr (by omega),show(2:Int)*((X*D:Nat):Int)=((2*(X*D):Nat):Int) by omega,wr (by omega)]
 have w2:wrap .u64 (n:Int)=n:=wr (by omega);have w3:((t:Int)).tdiv 2=((t/2:Nat):Int):=Vl t 2;have w4:wrap .u64 ((t/2:Nat):Int)=((t/2:Nat):Int):=wr (by rw[BJ]at ht2;omega);have w5:wrap .u64 (((t/2:Nat):Int)+1)=((t/2+1:Nat):Int):=by rw[show((t/2:Nat):Int)+1=((t/2+1:Nat):Int) by omega,wr (by rw[BJ]at ht2;omega)]
 have w6:((t:Int).tmod 2=1)=(t%2=1):=by
  rw[Int.tmod_eq_emod_of_nonneg (by omega)];exact propext ⟨by omega,by omega⟩
 have hgt:∀(neg:Bool) (k:Nat),k<9223372036854775808->MSg [U k,B neg]=some [I (if neg=true then-(k:Int)else k),B true]:=by
  intro neg k hk;cases neg
  ·exact g1 hk
  ·exact g2 (by omega)
 have key:∀(neg:Bool) (k:Nat),decide (sgn x d<0)=neg->J=k->k<9223372036854775808->MSg [U k,B neg]=some [I (if sgn x d<0 then-(J:Int)else J),B true]:=by
  intro neg k h1 h2 h3;rw[hgt neg k h3,h2];congr 3;by_cases c:sgn x d<0
  ·rw[if_pos c,if_pos (by rw[<-h1];exact decide_eq_true c)]
  ·rw[if_neg c,if_neg (by rw[<-h1];simpa using c)]
 have eqq:(h2=qh/\l2=ql)↔t*t=2*(X*D)*(2*(X*D))/n:=by
  rw[<-hp3,<-hq2];constructor
  ·rintro⟨rfl,rfl⟩;rfl
  ·intro h;have a1:∀p q u v:Nat,u<w64->v<w64->p*w64+u=q*w64+v->p=q/\u=v:=by
    intro p q u v hu hv h;rcases Nat.lt_trichotomy p q with c|c|c
    ·have:=Nat.mul_le_mul_right w64 (show p+1<=q from c);rw[Nat.succ_mul]at this;omega
    ·subst c;exact⟨rfl,by omega⟩
    ·have:=Nat.mul_le_mul_right w64 (show q+1<=p from c);rw[Nat.succ_mul]at this;omega
   exact a1 _ _ _ _ hl2 hql h
 rw[Q72];simp only[go_sem,z1,z2,hk,w1,w2,hp1,hq1,hr1,hs,hp2,w3,w4,w5,hg];rw[if_neg (by omega),if_neg (by omega),if_neg (by omega),if_neg (by omega),if_neg (by simp)];have ht63:t/2+1<9223372036854775808:=by omega
 have hT:∀k:Nat,J=k->k<9223372036854775808->((MSg [U (k:Int),B (decide (sgn x d<0))]).bind fun o=>some [I (Af (nth .dead o 0)),B (C5 (nth .dead o 1))])=some [I (if sgn x d<0 then-(J:Int)else J),B true]:=by
  intro k h1 h2;rw[key _ k rfl h1 h2];rfl
 have e3:((h2:Int)=qh/\(l2:Int)=ql/\True)=(t*t=2*(X*D)*(2*(X*D))/n):=by
  rw[<-propext eqq];exact propext ⟨fun h=>⟨by omega,by omega⟩,fun h=>⟨by omega,by omega,trivial⟩⟩
 simp only[e3,w6];have n1:((1:Int)>0)=True:=by simp
 have n2:((-1:Int)>0)=False:=by simp
 have n3:((-1:Int)=0)=False:=by simp
 have n4:((0:Int)>0)=False:=by simp
 by_cases cR:2*(X*D)*(2*(X*D))%n=0
 ·rw[if_neg (show¬0<2*(X*D)*(2*(X*D))%n by omega)];by_cases ct:t%2=1
  ·by_cases cE:t*t=2*(X*D)*(2*(X*D))/n
   ·by_cases cn:sgn x d<0
    ·have:=hJ3 (fun h=>h.2.elim (fun g=>g ⟨cR,cE⟩) fun g=>g cn);simp only[n1,n2,n3,n4,Bool.false_eq_true,ct,cE,not_true_eq_false,if_true,if_false];rw[if_neg (by simp[cn])];exact hT _ this (by omega)
    ·have:=hJ1 ct (.inr cn);simp only[n1,n2,n3,n4,Bool.false_eq_true,ct,cE,not_true_eq_false,if_true,if_false];rw[if_pos (by simp;omega)];exact hT _ this ht63
   ·have:=hJ1 ct (.inl fun g=>cE g.2);simp only[n1,n2,n3,n4,Bool.false_eq_true,ct,cE,not_true_eq_false,not_false_eq_true,if_true,if_false];exact hT _ this ht63
  ·have:=hJ3 (fun h=>ct h.1);simp only[n1,n2,n3,n4,Bool.false_eq_true,ct,if_false,ite_self];exact hT _ this (by omega)
 ·rw[if_pos (show 0<2*(X*D)*(2*(X*D))%n by omega)];by_cases ct:t%2=1
  ·have:=hJ1 ct (.inl fun g=>cR g.1);simp only[n1,n2,n3,n4,Bool.false_eq_true,ct,not_false_eq_true,if_true];exact hT _ this ht63
  ·have:=hJ3 (fun h=>ct h.1);simp only[n1,n2,n3,n4,Bool.false_eq_true,ct,not_false_eq_true,if_true,if_false];exact hT _ this (by omega)
theorem Zq1 {x d:Int} {n:Nat} {J:Nat} (hn:0<n) (hd:0<=d) (hi:Ev (x.natAbs*d.natAbs) n (decide (x*d<0)) J):(if x*d<0 then-(J:Int)else J)=BY x d n:=by
 unfold BY;rw[Int.natAbs_natCast];by_cases hx:x<0
 ·rw[if_pos hx];by_cases hd0:d=0
  ·subst hd0;rw[Int.mul_zero,if_neg (by omega)];rw[show x.natAbs*(0:Int).natAbs=0 from by simp]at hi⊢;have e1:Ev 0 n true 0:=⟨.inl rfl,by simp⟩;rw[SR e1];obtain⟨h1,-⟩:=hi;rw[decide_eq_false (by simp)]at h1;simp only[Bool.false_eq_true,if_false]at h1;rcases h1 with h1|h1
   ·omega
   ·rcases Nat.eq_zero_or_pos J with hJ|hJ
    ·omega
    ·have h2:=Nat.mul_pos (Nat.mul_pos (show 0<2*J-1 by omega) (show 0<2*J-1 by omega)) hn;omega
  ·have hxd:x*d<0:=Int.mul_neg_of_neg_of_pos hx (by omega);rw[decide_eq_true hxd]at hi;rw[if_pos hxd,SR hi]
 ·rw[if_neg hx];have hxd: ¬x*d<0:=by have:=Int.mul_nonneg (show 0<=x by omega) hd;omega
  rw[decide_eq_false hxd]at hi;rw[if_neg hxd,SR hi]
theorem Yd {x d n:Int} (hx:x.natAbs<=2147483648) (hd:0<=d/\d<=2147483648) (hn:0<n/\n<=4611686018427387904):HO [I x,I d,I n,I 2]=some [I (BY x d n),B true]:=by
 obtain⟨N,rfl⟩:=Int.eq_ofNat_of_zero_le (show 0<=n by omega);have hD:d.natAbs<=2147483648:=by omega
 have hXD:x.natAbs*d.natAbs<=2147483648*2147483648:=Nat.mul_le_mul hx hD;have hN:0<N/\N<=4611686018427387904:=by omega
 have hp:2*(x.natAbs*d.natAbs)<w64:=by rw[BJ];omega
 obtain⟨h1,l1,e1,e2,e3⟩:=L7 hp hp;have hNw:N<w64:=by rw[BJ];omega
 have hh1:h1<w64:=by
  have:=Nat.mul_lt_mul'' hp hp;rw[<-e2]at this;by_cases c:h1<w64
  ·exact c
  ·have:=Nat.mul_le_mul_right w64 (show w64<=h1 by omega);omega
 obtain⟨qh,ql,q1,q2,q3,q4⟩:=Zqi (M:=GD) Q2s hh1 e3 hN.1 hNw;rw[e2]at q1 q4;obtain⟨t,r1,r2,r3,r4⟩:=Qvm q2 q3;rw[q4]at r2 r3;obtain⟨h2,l2,p1,p2,p3⟩:=L7 r4 r4;have ht:t<=9223372036854775808:=by
  have k1:t*t<=2*(x.natAbs*d.natAbs)*(2*(x.natAbs*d.natAbs)):=Nat.le_trans r2 (Nat.div_le_self _ _);have k2:=Nat.mul_self_le_mul_self_iff.1 k1;omega
 have hi:=Q9q hN.1 r2 r3 (decide (x*d<0)) (E:=2*(x.natAbs*d.natAbs)*(2*(x.natAbs*d.natAbs))%N=0/\t*t=2*(x.natAbs*d.natAbs)*(2*(x.natAbs*d.natAbs))/N) Iff.rfl;have hres:=Zq1 hN.1 hd.1 hi;rw[<-hres];have:= @Za8 x d;have hif:∀a:Int,(if x*d<0 then-a else a)=if sgn x d<0 then-a else a:=by
  intro a;by_cases c:x*d<0
  ·rw[if_pos c,if_pos (this.2 c)]
  ·rw[if_neg c,if_neg (fun h=>c (this.1 h))]
 rw[hif];refine Zh5 (X:=x.natAbs) (D:=d.natAbs) hx hD hN (HY (by unfold i64;omega)) (HY (by unfold i64;omega)) (Qh4 (.inr (.inr rfl))) e1 q1 q4 q3 r1 r4 p1 p2 p3 (Qar x d) Q3s WZ Qpj (fun h1 h2=> ?_) (fun h=> ?_) ht
 ·rw[if_pos ⟨h1,h2.imp id fun h=>decide_eq_false fun g=>h (this.2 g)⟩]
 ·rw[if_neg fun g=>h ⟨g.1,g.2.imp id fun k g2=>by rw[decide_eq_false_iff_not]at k;exact k (this.1 g2)⟩]
end Go.Bm
namespace Go.Bm
theorem Q56 {a b:Pt} (ha:bd 67108864 a) (hb:bd 67108864 b):
    wrap .i64 (wrap .i64 (wrap .i64 (0+wrap .i64 (wrap .i64 (a.x-b.x)*wrap .i64 (a.x-b.x)))+wrap .i64 (wrap .i64 (a.y-b.y)*wrap .i64 (a.y-b.y)))+wrap .i64 (wrap .i64 (a.z-b.z)*wrap .i64 (a.z-b.z)))=sqD a b:=by
  have h:∀x y:Int,x.natAbs<=67108864->y.natAbs<=67108864->0<=(x-y)*(x-y)/\(x-y)*(x-y)<=18014398509481984:=by
    intro x y hx hy;exact Dv (x:=x-y) (A:=134217728) (by omega)
  have h1:=h _ _ ha.1 hb.1;have h2:=h _ _ ha.2.1 hb.2.1;have h3:=h _ _ ha.2.2 hb.2.2;obtain⟨a1,a2,a3⟩:=ha;obtain⟨b1,b2,b3⟩:=hb;rw[Ae (x:=a.x-b.x) (by omega),Ae (x:=a.y-b.y) (by omega),Ae (x:=a.z-b.z) (by omega)];unfold sqD I9 GB;simp only;generalize(a.x-b.x)*(a.x-b.x)=u at*;generalize(a.y-b.y)*(a.y-b.y)=v at*;generalize(a.z-b.z)*(a.z-b.z)=w at*;rw[Ae (x:=u) (by omega),Ae (x:=0+u) (by omega),Ae (x:=v) (by omega),Ae (x:=0+u+v) (by omega),Ae (x:=w) (by omega),Ae (by omega),Int.zero_add]
theorem Zca {M:Fn} {a b:Pt} {n:Nat} (ha:bd 67108864 a) (hb:bd 67108864 b) (hn:sqD a b=n)
    (hM:∃r:Nat,M [I n,I 1]=some [I ((if((1:Int)=1/\r*r<n)\/((1:Int)=2/\r*r+r<n)then r+1 else r:Nat):Int),B true]/\r*r<=n/\n<(r+1)*(r+1)):
    UL M [I a.x,I a.y,I a.z,I b.x,I b.y,I b.z]=some [I (AE a b)]:=by
  obtain⟨r,h1,h2,h3⟩:=hM;have hu:=Qzk h2 h3;rw[Zav,Q56 ha hb,hn];simp only[go_sem,h1];unfold AE;rw[hn,Q2h hu];congr 3;by_cases c:r*r<n
  · rw[if_pos (.inl ⟨trivial,c⟩),if_pos c]
  · rw[if_neg (by simp[c]),if_neg c]
theorem Qdr {a b:Pt} (ha:bd 67108864 a) (hb:bd 67108864 b):Jb [I a.x,I a.y,I a.z,I b.x,I b.y,I b.z]=some [I (AE a b)]:=by
  have h0:=O5 a b;have h1:=O3 ha hb (Nat.le_refl _);obtain⟨n,hn⟩:=Int.eq_ofNat_of_zero_le h0;exact Zca ha hb hn (Qr1 (by omega) (.inl rfl))
theorem Ziu {MO:Fn} {a b:Spk} {u w:Int} (ha:okS a) (hb:okS b) (hu:u.natAbs<=100000000) (hw:w.natAbs<=100000000)
    (hO: ¬(u=0/\w=0)->MO [I u,I (hf a.r b.r),I (sq2 u w),I 2]=some [I (BY u (hf a.r b.r) (sq2 u w)),B true]/\MO [I w,I (hf a.r b.r),I (sq2 u w),I 2]=some [I (BY w (hf a.r b.r) (sq2 u w)),B true]):
    (bif u == 0 then
      bif w==0 then some [AC.int IntKind.i64 0,AC.int IntKind.i64 0,AC.int IntKind.i64 0,AC.int IntKind.i64 0,AC.bool false]
      else(MO [AC.int IntKind.i64 u,AC.int IntKind.i64 ((wrap .i64 (wrap .i64 (a.r+b.r)+1)).fdiv (2^min (Int.toNat 1) IntKind.i64.bits)),AC.int IntKind.i64 (wrap .i64 (wrap .i64 (u*u)+wrap .i64 (w*w))),AC.int IntKind.i64 2]).bind fun o36=>
       (MO [AC.int IntKind.i64 w,AC.int IntKind.i64 ((wrap .i64 (wrap .i64 (a.r+b.r)+1)).fdiv (2^min (Int.toNat 1) IntKind.i64.bits)),AC.int IntKind.i64 (wrap .i64 (wrap .i64 (u*u)+wrap .i64 (w*w))),AC.int IntKind.i64 2]).bind fun o37=>
       some [AC.int IntKind.i64 (Af (nth AC.dead o36 0)),AC.int IntKind.i64 (Af (nth AC.dead o37 0)),AC.int IntKind.i64 ((wrap .i64 (wrap .i64 (a.r+b.r)+1)).fdiv (2^min (Int.toNat 1) IntKind.i64.bits)),AC.int IntKind.i64 ((wrap .i64 (wrap .i64 (a.h+b.h)+1)).fdiv (2^min (Int.toNat 1) IntKind.i64.bits)),AC.bool true]
     else(MO [AC.int IntKind.i64 u,AC.int IntKind.i64 ((wrap .i64 (wrap .i64 (a.r+b.r)+1)).fdiv (2^min (Int.toNat 1) IntKind.i64.bits)),AC.int IntKind.i64 (wrap .i64 (wrap .i64 (u*u)+wrap .i64 (w*w))),AC.int IntKind.i64 2]).bind fun o36=>
       (MO [AC.int IntKind.i64 w,AC.int IntKind.i64 ((wrap .i64 (wrap .i64 (a.r+b.r)+1)).fdiv (2^min (Int.toNat 1) IntKind.i64.bits)),AC.int IntKind.i64 (wrap .i64 (wrap .i64 (u*u)+wrap .i64 (w*w))),AC.int IntKind.i64 2]).bind fun o37=>
       some [AC.int IntKind.i64 (Af (nth AC.dead o36 0)),AC.int IntKind.i64 (Af (nth AC.dead o37 0)),AC.int IntKind.i64 ((wrap .i64 (wrap .i64 (a.r+b.r)+1)).fdiv (2^min (Int.toNat 1) IntKind.i64.bits)),AC.int IntKind.i64 ((wrap .i64 (wrap .i64 (a.h+b.h)+1)).fdiv (2^min (Int.toNat 1) IntKind.i64.bits)),AC.bool true])=
    some (CW (HB a b u w)++[B (decide (¬(u=0/\w=0)))]):=by
  have q1:=Dv hu;have q2:=Dv hw;have e:wrap .i64 (wrap .i64 (u*u)+wrap .i64 (w*w))=sq2 u w:=by
    unfold sq2;generalize u*u=x at*;generalize w*w=y at*;rw[Ae (x:=x) (by omega),Ae (x:=y) (by omega),Ae (by omega)]
  have er:(wrap .i64 (wrap .i64 (a.r+b.r)+1)).fdiv (2^min (Int.toNat 1) IntKind.i64.bits)=hf a.r b.r:=by
    have h1:=ha.2.2.1;have h2:=hb.2.2.1;rw[Ae (x:=a.r+b.r) (by omega),Ae (x:=a.r+b.r+1) (by omega),show(2^min (Int.toNat 1) IntKind.i64.bits:Int)=2 from rfl,Int.fdiv_eq_ediv_of_nonneg _ (by omega)];rfl
  have eh:(wrap .i64 (wrap .i64 (a.h+b.h)+1)).fdiv (2^min (Int.toNat 1) IntKind.i64.bits)=hf a.h b.h:=by
    have h1:=ha.2.2.2;have h2:=hb.2.2.2;rw[Ae (x:=a.h+b.h) (by omega),Ae (x:=a.h+b.h+1) (by omega),show(2^min (Int.toNat 1) IntKind.i64.bits:Int)=2 from rfl,Int.fdiv_eq_ediv_of_nonneg _ (by omega)];rfl
  simp only[er,eh,e];simp only[go_sem];unfold HB;by_cases h:u=0/\w=0
  · rw[if_pos h.1,if_pos h.2,if_pos h]
    simp[h]
  · obtain⟨n1,n2⟩:=hO h
    rw[if_neg h];simp only[n1,n2,go_sem];have hd:decide (¬(u=0/\w=0))=true:=decide_eq_true h;rw[hd];by_cases hu0:u=0
    · rw[if_pos hu0,if_neg (fun hw0=>h ⟨hu0,hw0⟩)];try rfl
    · rw[if_neg hu0];try rfl
theorem Zq9 {MO MC MD:Fn} {a b:Spk} (ha:okS a) (hb:okS b) {dir:Int} (hd:dir=1\/dir= -1) (full:Bool)
    (hO:∀{u w:Int},u.natAbs<=100000000->w.natAbs<=100000000-> ¬(u=0/\w=0)->MO [I u,I (hf a.r b.r),I (sq2 u w),I 2]=some [I (BY u (hf a.r b.r) (sq2 u w)),B true]/\MO [I w,I (hf a.r b.r),I (sq2 u w),I 2]=some [I (BY w (hf a.r b.r) (sq2 u w)),B true])
    (hC:MC [I a.u,I a.w,I a.r,I a.h,I b.u,I b.w,I b.r,I b.h]=some [I (crs a.u a.w b.u b.w)]) (hD:MD [I a.u,I a.w,I a.r,I a.h,I b.u,I b.w,I b.r,I b.h]=some [I (dt2 a.u a.w b.u b.w)])
    (hcb:(crs a.u a.w b.u b.w).natAbs<=5000000000000000):
    Qf4 MO MC MD [I a.u,I a.w,I a.r,I a.h,I b.u,I b.w,I b.r,I b.h,I dir,B full]=some (CW (EH a b dir full)++[B (decide (¬((Do a b dir full).1=0/\(Do a b dir full).2=0)))]):=by
  have key:=fun{u w:Int} (hu:u.natAbs<=100000000) (hw:w.natAbs<=100000000)=>Ziu (MO:=MO) (a:=a) (b:=b) ha hb hu hw (hO hu hw);have hbd:=NV ha hb hd full;obtain⟨a1,a2,-⟩:=ha;obtain⟨b1,b2,-⟩:=hb;have w1:wrap .i64 (0-a.u)= -a.u:=by rw[Ae (by omega)];omega
  have w2:wrap .i64 (0-a.w)= -a.w:=by rw[Ae (by omega)];omega
  have w3:wrap .i64 (a.u+b.u)=a.u+b.u:=Ae (by omega);have w4:wrap .i64 (a.w+b.w)=a.w+b.w:=Ae (by omega);have w5:wrap .i64 (0-(a.u+b.u))= -(a.u+b.u):=by rw[Ae (by omega)];omega
  have w6:wrap .i64 (0-(a.w+b.w))= -(a.w+b.w):=by rw[Ae (by omega)];omega
  have w7:wrap .i64 (b.w-a.w)=b.w-a.w:=Ae (by omega);have w8:wrap .i64 (a.u-b.u)=a.u-b.u:=Ae (by omega);have w9:wrap .i64 (dir*(b.w-a.w))=dir*(b.w-a.w):=by rcases hd with rfl|rfl<;>exact Ae (by omega)
  have w10:wrap .i64 (dir*(a.u-b.u))=dir*(a.u-b.u):=by rcases hd with rfl|rfl<;>exact Ae (by omega)
  have w11:wrap .i64 (crs a.u a.w b.u b.w*dir)=crs a.u a.w b.u b.w*dir:=by rcases hd with rfl|rfl<;>exact Ae (by omega)
  rw[Zrz];try dsimp only[go_sem]
  unfold EH;simp only[w1,w2,w3,w4,w5,w6,w7,w8,w9,w10,hC,hD,Option.bind_some,HC,Hl,gA,jA,wA,bA,w11];have fin:∀{x:Option (List AC)},x=some (CW (HB a b (Do a b dir full).1 (Do a b dir full).2)++[B (decide (¬((Do a b dir full).1=0/\(Do a b dir full).2=0)))])->
      (bif dir !=1 then bif dir != -1 then some [AC.int IntKind.i64 0,AC.int IntKind.i64 0,AC.int IntKind.i64 0,AC.int IntKind.i64 0,AC.bool false]else x else x)=some (CW (HB a b (Do a b dir full).1 (Do a b dir full).2)++[B (decide (¬((Do a b dir full).1=0/\(Do a b dir full).2=0)))]):=by
    intro x hx;rcases hd with rfl|rfl
    · rw[Bn (by decide)];exact hx
    · rw[BO (by decide),Bn (by decide)];exact hx
  refine fin ?_;have hk:=key hbd.1 hbd.2;unfold Do at*;cases full
  · simp only[cond_false,Bool.false_eq_true,if_false]at hk⊢
    by_cases c1:0<dt2 a.u a.w b.u b.w
    · rw[AZ (show¬dt2 a.u a.w b.u b.w<=0 by omega)]
      by_cases c2:0<crs a.u a.w b.u b.w*dir
      · rw[AZ (show¬crs a.u a.w b.u b.w*dir<=0 by omega)]
        rw[if_pos ⟨c1,c2⟩]at hk⊢;exact hk
      · rw[Dx (show crs a.u a.w b.u b.w*dir<=0 by omega)]
        rw[if_neg (fun h=>c2 h.2),if_pos c1]at hk⊢;exact hk
    · rw[Dx (show dt2 a.u a.w b.u b.w<=0 by omega)]
      rw[if_neg (fun h=>c1 h.1),if_neg c1]at hk⊢;exact hk
  · simp only[cond_true,if_true]at hk⊢
    exact hk
theorem Zfo {u w r:Int} (hu:u.natAbs<=100000000) (hw:w.natAbs<=100000000) (hr:0<=r/\r<=50000000) (h: ¬(u=0/\w=0)):
    HO [I u,I r,I (sq2 u w),I 2]=some [I (BY u r (sq2 u w)),B true]/\HO [I w,I r,I (sq2 u w),I 2]=some [I (BY w r (sq2 u w)),B true]:=by
  have hp:=Th h;have h1:=Dv hu;have h2:=Dv hw;have h3:sq2 u w<=20000000000000000:=by unfold sq2;omega
  exact⟨Yd (by omega) (by omega) (by omega),Yd (by omega) (by omega) (by omega)⟩
theorem Zf7 {a b:Spk} (ha:okS a) (hb:okS b) {dir:Int} (hd:dir=1\/dir= -1) (full:Bool):
    KV [I a.u,I a.w,I a.r,I a.h,I b.u,I b.w,I b.r,I b.h,I dir,B full]=some (CW (EH a b dir full)++[B (decide (¬((Do a b dir full).1=0/\(Do a b dir full).2=0)))]):=by
  have hc:=(Q4f ha.1 ha.2.1 hb.1 hb.2.1).2;exact Zq9 ha hb hd full (fun hu hw h=>Zfo hu hw (Q26 ha.2.2.1 hb.2.2.1) h)
    (Uh (GO ha.1) (GO ha.2.1) (GO hb.1) (GO hb.2.1)) (Qco (GO ha.1) (GO ha.2.1) (GO hb.1) (GO hb.2.1)) hc
def okT (s:Spk):Prop:=okS s/\ ¬(s.u=0/\s.w=0)/\1<=s.r
theorem Q50 {a b:Spk} (ha: ¬(a.u=0/\a.w=0)) (hb: ¬(b.u=0/\b.w=0)) {dir:Int} (hd:dir=1\/dir= -1) (full:Bool): ¬((Do a b dir full).1=0/\(Do a b dir full).2=0):=by
  have hp:=Th ha;unfold sq2 at hp;unfold Do;split
  · simp only;omega
  · rename_i hf
    have key:0<dt2 a.u a.w b.u b.w-> ¬(a.u+b.u=0/\a.w+b.w=0):=by
      intro h1 ⟨h2,h3⟩;have e1:b.u= -a.u:=by omega
      have e2:b.w= -a.w:=by omega
      unfold dt2 at h1;rw[e1,e2,Int.mul_neg,Int.mul_neg]at h1;omega
    split
    · rename_i c;exact key c.1
    · split
      · rename_i c1 c2
        have:=key c2;simp only;omega
      · rename_i c1 c2
        simp only;rintro⟨h2,h3⟩;have e1:b.w=a.w/\a.u=b.u:=by rcases hd with rfl|rfl<;>omega
        unfold dt2 at c2;rw[e1.1,<-e1.2]at c2;omega
theorem Zvk {u w r:Int} (hu:u.natAbs<=100000000) (hw:w.natAbs<=100000000) (hr:1<=r/\r<=50000000) (h: ¬(u=0/\w=0)): ¬(BY u r (sq2 u w)=0/\BY w r (sq2 u w)=0):=by
  have hp:=Th h;have h1:=Dv hu;have h2:=Dv hw;have h3:sq2 u w<=20000000000000000:=by unfold sq2;omega
  obtain⟨q1,q2⟩:=Qxs u w;have key:∀x:Int,x.natAbs<=100000000->x*x<=sq2 u w->BY x r (sq2 u w)=0->4*(x*x)<=sq2 u w:=by
    intro x hx hq h0;obtain⟨-,-,g3⟩:=S2 (x:=x) (r:=r) (n:=sq2 u w) (Nat.le_trans hx (by decide)) (by omega) (by omega) hq;rw[h0]at g3;obtain⟨-,g3⟩:=g3;have g4:4*(x.natAbs*r.natAbs*(x.natAbs*r.natAbs))<=(sq2 u w).natAbs:=by
      rw[show(0:Int).natAbs=0 from rfl]at g3;split at g3<;>omega
    have e1:x.natAbs*r.natAbs*(x.natAbs*r.natAbs)=x.natAbs*x.natAbs*(r.natAbs*r.natAbs):=by grind
    have g5:x.natAbs*x.natAbs*1<=x.natAbs*x.natAbs*(r.natAbs*r.natAbs):=Nat.mul_le_mul_left _ (Nat.mul_le_mul (show 1<=r.natAbs by omega) (show 1<=r.natAbs by omega));have e2:((x.natAbs*x.natAbs:Nat):Int)=x*x:=Int.natAbs_mul_self;omega
  rintro⟨g1,g2⟩;have k1:=key u hu q1 g1;have k2:=key w hw q2 g2;unfold sq2 at*;omega
theorem Zlv {a b:Spk} (ha:okT a) (hb:okT b) {dir:Int} (hd:dir=1\/dir= -1) (full:Bool):okT (EH a b dir full):=by
  have hn:=Q50 ha.2.1 hb.2.1 hd full;have hbd:=NV ha.1 hb.1 hd full;have h1:=ha.1.2.2.1;have h2:=hb.1.2.2.1;have h3:=ha.2.2;have h4:=hb.2.2;have hh:1<=hf a.r b.r/\hf a.r b.r<=50000000:=by unfold hf;omega
  refine⟨Qub ha.1 hb.1 hd full,?_,?_⟩
  · unfold EH HB
    rw[if_neg hn];exact Zvk hbd.1 hbd.2 hh hn
  · unfold EH HB
    rw[if_neg hn];exact hh.1
theorem Zzn {r n:Int} (hr:0<=r/\r<=50000000):L4 [I r,I n]=some [B (decide (n<=32*r-64))]:=by
  unfold L4;rw[Ze8,Ae (x:=8*r) (by omega),Ae (x:=8*r*4) (by omega),Ae (x:=8*r*4-64) (by omega),show 8*r*4-64=32*r-64 by omega]
theorem Zyw {MF MC:Fn} {out:Rw} {a b:Spk} (ha:okS a) (hb:okS b) {dir:Int} (hd:dir=1\/dir= -1) (full:Bool)
    (hF:∀{r n:Int},(0<=r/\r<=50000000)->MF [I r,I n]=some [B (decide (n<=32*r-64))])
    (hC:MC [I a.u,I a.w,I a.r,I a.h,I b.u,I b.w,I b.r,I b.h]=some [I (crs a.u a.w b.u b.w)]) (hcb:(crs a.u a.w b.u b.w).natAbs<=5000000000000000):
    Qig MF MC [.view DY out,I a.u,I a.w,I a.r,I a.h,I b.u,I b.w,I b.r,I b.h,B full,I dir]=some [.view DY out,B (decide (HJ a b dir full)),I dir]:=by
  have hr:0<=mn a.r b.r/\mn a.r b.r<=50000000:=by
    have h1:=ha.2.2.1;have h2:=hb.2.2.1;unfold mn;split<;>omega
  obtain⟨a1,a2,-⟩:=ha;obtain⟨b1,b2,-⟩:=hb;have x1:=H8 a1 b1;have x2:=H8 a2 b2;have q1:=Dv x1;have q2:=Dv x2;have e:wrap .i64 (wrap .i64 ((a.u-b.u)*(a.u-b.u))+wrap .i64 ((a.w-b.w)*(a.w-b.w)))=sq2 (a.u-b.u) (a.w-b.w):=by
    unfold sq2;generalize(a.u-b.u)*(a.u-b.u)=x at*;generalize(a.w-b.w)*(a.w-b.w)=y at*;rw[Ae (x:=x) (by omega),Ae (x:=y) (by omega),Ae (by omega)]
  have w11:wrap .i64 (crs a.u a.w b.u b.w*dir)=crs a.u a.w b.u b.w*dir:=by rcases hd with rfl|rfl<;>exact Ae (by omega)
  rw[Zse,Il x1 (by decide),Il x2 (by decide),e];cases full
  · simp only[Bool.not_false,cond_true,hC,Option.bind_some,HC,Hl,gA,jA,wA,bA,w11,hF hr,UI]
    by_cases c:0<crs a.u a.w b.u b.w*dir
    · rw[Dx (show crs a.u a.w b.u b.w*dir>0 from c)]
      by_cases c2:sq2 (a.u-b.u) (a.w-b.w)<=32*mn a.r b.r-64
      · rw[decide_eq_true c2,decide_eq_true (show HJ a b dir false from⟨rfl,c,c2⟩)]
      · rw[decide_eq_false c2,decide_eq_false (fun h:HJ a b dir false=>c2 h.2.2)]
    · rw[AZ (show¬crs a.u a.w b.u b.w*dir>0 from c),decide_eq_false (fun h:HJ a b dir false=>c h.2.1)]
  · simp only[Bool.not_true,cond_false]
    rw[decide_eq_false (fun h:HJ a b dir true=>by cases h.1)]
theorem Zb4 {out:Rw} {a b:Spk} (ha:okS a) (hb:okS b) {dir:Int} (hd:dir=1\/dir= -1) (full:Bool):
    KO [.view DY out,I a.u,I a.w,I a.r,I a.h,I b.u,I b.w,I b.r,I b.h,B full,I dir]=some [.view DY out,B (decide (HJ a b dir full)),I dir]:=
  Zyw ha hb hd full Zzn (Uh (GO ha.1) (GO ha.2.1) (GO hb.1) (GO hb.2.1)) (Q4f ha.1 ha.2.1 hb.1 hb.2.1).2
theorem Qhj {dir:Int} (hd:dir=1\/dir= -1):∀(n k:Nat) (full:Bool) (a b:Spk) (out:List Spk),k<=16->k<n->okT a->okT b->out.length+2^k<=1000000->
    OA n [.view DY (out.map CW),I a.u,I a.w,I a.r,I a.h,I b.u,I b.w,I b.r,I b.h,B full,I (16-k:Int),I dir]=some [.view DY ((out++Du dir k full a b).map CW),I dir]
  |0,k,_,_,_,_,_,hk,_,_,_=>by omega
  |n+1,0,full,a,b,out,_,_,ha,hb,ho=>by
    show Tx _ _ _ _=_;rw[Q2u,AZ (by omega),BO]
    · unfold Du
      rw[List.map_append];rfl
    · exact Nat.ble_eq_true_of_le (by simp only[List.length_append,List.length_map,List.length_cons,List.length_nil];omega)
  |n+1,k+1,full,a,b,out,hk,hn,ha,hb,ho=>by
    have hm:=Zlv ha hb hd full;have hz:=Q50 ha.2.1 hb.2.1 hd full;have e3:2^(k+1)=2^k+2^k:=by rw[Nat.pow_succ];omega
    have hp:0<2^k:=Nat.two_pow_pos _;have l1:=(SF k false a (EH a b dir full) (dir:=dir)).2;have i1:=Qhj hd n k false a (EH a b dir full) out (by omega) (by omega) ha hm (by omega);have i2:=Qhj hd n k false (EH a b dir full) b (out++Du dir k false a (EH a b dir full)) (by omega) (by omega) hm hb (by rw[List.length_append];omega);have e1:=Zb4 (out:=out.map CW) ha.1 hb.1 hd full;have e2:=Zf7 ha.1 hb.1 hd full;rw[decide_eq_true hz]at e2;show Tx (OA n) KV KO _=_;generalize OA n=MP at*;generalize KV=MM at*;generalize KO=MS at*;rw[Q2u,Dx (by omega),Ae (by omega),show(16-((k+1:Nat):Int)+1)=16-(k:Int) by omega];unfold Du;generalize EH a b dir full=m at*;generalize Du dir k false a m=p1 at*;generalize Du dir k false m b=p2 at*;simp only[List.cons_append,List.nil_append,CW]at e2;simp only[e1,e2,Option.bind_some,HC,LA,LU,O8,Qd,Hl,gA,jA,wA,bA,UI,i1,i2,Qkc];by_cases c:HJ a b dir full
    · rw[if_pos c,Bn (by simp[c]),BO]
      · rw[List.map_append];rfl
      · exact Nat.ble_eq_true_of_le (by simp only[List.length_append,List.length_map,List.length_cons,List.length_nil];omega)
    · rw[if_neg c,BO (by simp[c]),cond_true,List.append_assoc]
end Go.Bm
namespace Go.Bm
theorem Qvd {it:Itm} {p:Pt} (hc:bd 1048576 it.ce) (hp:bd 1048576 p) (hq:64<=sq2 (dU it p) (dW it p)):okT (Eo it p):=by
 obtain⟨h1,h2,h3,h4⟩:=OM hc hp;have e:sq2 (dU it p*16) (dW it p*16)=256*sq2 (dU it p) (dW it p):=by unfold sq2;grind
 refine⟨Rm hc hp,?_,?_⟩
 ·show¬(dU it p*16=0/\dW it p*16=0);rintro⟨g1,g2⟩;rw[show dU it p=0 by omega,show dW it p=0 by omega]at hq;simp[sq2]at hq
 ·show 1<=FI _;obtain⟨n,hn⟩:=Int.eq_ofNat_of_zero_le h3;rw[hn]at h4⊢;obtain⟨r,-,r2,r3,-⟩:=TJ (n:=n) (by omega);rw[Rh (Sl r2 r3)];have:1<=r:=by
   rcases Nat.eq_zero_or_pos r with h|h
   ·subst h;omega
   ·exact h
  split<;>omega
theorem Zfl {n:Nat} (hn:n<=2251799813685248):Jf [I n,I 2]=some [I (FI n),B true]:=by
 obtain⟨r,h1,h2,h3⟩:=Qr1 (n:=n) (mode:=2) (by omega) (.inr rfl);rw[h1,Rh (Sl h2 h3)];congr 3;by_cases c:r*r+r<n
 ·rw[if_pos (.inr ⟨rfl,c⟩),if_pos c]
 ·rw[if_neg (by simp;omega),if_neg c]
theorem Zqo {MP MQ MD ME MV:Fn} {it:Itm} (hV:∃v,MV (Ag it)=some [B v]/\(v=true↔Dt it)) (h:Dt it)
  (hE:it.kind=3->ME (Ag it)=some [I (dU it it.fr*16),I (dW it it.fr*16),I 0,I (plH it.aG it.fr*16),I (dU it it.to*16),I (dW it it.to*16),I 0,I (plH it.aG it.to*16)])
  (hD:∀p:Pt,it.kind=3->(p=it.fr\/p=it.to)->MD [I (dU it p*16),I (dW it p*16),I 0,I (plH it.aG p*16),I (dU it p*16),I (dW it p*16),I 0,I (plH it.aG p*16)]=some [I (sq2 (dU it p*16) (dW it p*16))])
  (hQ:∀p:Pt,it.kind=3->(p=it.fr\/p=it.to)->MQ [I (sq2 (dU it p*16) (dW it p*16)),I 2]=some [I (FI (sq2 (dU it p*16) (dW it p*16))),B true])
  (hP:it.kind=3->MP (.view DY [CW (Eo it it.fr)]::CW (Eo it it.fr)++CW (Eo it it.to)++[B it.full,I 0,I it.dir])=some [.view DY ((DL it).map CW),I it.dir]):
  Qmr MP MQ MD ME MV (Ag it)=if it.kind=3 then some [.view DY ((DL it).map CW),B true]else some [.view DY [],B false]:=by
 obtain⟨v,hv,hvv⟩:=hV;rw[Zha];by_cases h3:it.kind=3
 ·have e:=hE h3;have p:=hP h3;have d1:=hD it.fr h3 (.inl rfl);have d2:=hD it.to h3 (.inr rfl);have q1:=hQ it.fr h3 (.inl rfl);have q2:=hQ it.to h3 (.inr rfl);simp only[List.cons_append,List.nil_append,Eo,CW]at p;simp only[go_sem,hv,e,d1,d2,q1,q2,p];rw[if_neg (by simp[h3]),if_neg (by simp[hvv.2 h]),if_pos h3]
 ·simp only[go_sem];rw[if_pos h3,if_neg h3]
theorem Zd1 {it:Itm} (h:Dt it):OE (Ag it)=if it.kind=3 then some [.view DY ((DL it).map CW),B true]else some [.view DY [],B false]:=by
 have hb:it.kind=3->∀p:Pt,(p=it.fr\/p=it.to)->bd 1048576 it.ce/\bd 1048576 p:=by
  intro h3 p hp;obtain⟨-,h1,h2,ha⟩:=h;obtain⟨-,-,hc,-⟩:=ha h3;rcases hp with rfl|rfl
  ·exact⟨hc,h1⟩
  ·exact⟨hc,h2⟩
 refine Zqo (Qbr it) h (fun h3=> ?_) (fun p h3 hp=> ?_) (fun p h3 hp=> ?_) fun h3=> ?_
 ·obtain⟨-,h1,h2,ha⟩:=h;obtain⟨hp,-,hc,-⟩:=ha h3;exact Qzh hp h1 h2 hc
 ·obtain⟨hc,hp2⟩:=hb h3 p hp;obtain⟨g1,g2,-⟩:=OM hc hp2;exact Qco (Nat.le_trans g1 (by decide)) (Nat.le_trans g2 (by decide)) (Nat.le_trans g1 (by decide)) (Nat.le_trans g2 (by decide))
 ·obtain⟨hc,hp2⟩:=hb h3 p hp;obtain⟨-,-,g3,g4⟩:=OM hc hp2;obtain⟨n,hn⟩:=Int.eq_ofNat_of_zero_le g3;rw[hn]at g4⊢;exact Zfl (by omega)
 ·obtain⟨-,h1,h2,ha⟩:=h;obtain⟨hp,hd,hc,t1,t2,-⟩:=ha h3;have:=Qhj hd 20 16 it.full (Eo it it.fr) (Eo it it.to) [Eo it it.fr] (by omega) (by omega) (Qvd hc h1 t1) (Qvd hc h2 t2) (show 1+2^16<=1000000 by decide);exact this
theorem Zed {u w h pl:Int} (hp:Dc pl):OF [I u,I w,I h,I pl]=some (ptR (spP pl u w h)):=by
 show Qcx Fo _=_;have h1:=Qf8 pl;generalize Fo=M at*;rw[Zoi];rcases hp with rfl|rfl|rfl
 ·have e:axI 17=(0,1,2):=rfl;rw[e]at h1;rw[h1];rfl
 ·have e:axI 18=(2,0,1):=rfl;rw[e]at h1;rw[h1];rfl
 ·have e:axI 19=(1,2,0):=rfl;rw[e]at h1;rw[h1];rfl
theorem Zoc {α:Type} (pre rest:List α) (x z:α):(pre++x::rest).set pre.length z=(pre++[z])++rest:=by
 rw[List.set_append_right _ _ (Nat.le_refl _),Nat.sub_self];simp
def Ep {α:Type} (f:Nat->α) (z:α) (n i:Nat):List α:=(List.range i).map f++List.replicate (n-i) z
theorem Qwx {α:Type} (f:Nat->α) (z:α) {n i:Nat} (h:i<=n):(Ep f z n i).length=n:=by unfold Ep;simp;omega
theorem Qtl {α:Type} (f:Nat->α) (z:α) {n i:Nat} (h:i<n):(Ep f z n i).set i (f i)=Ep f z n (i+1):=by
 unfold Ep;have e:n-i=(n-(i+1))+1:=by omega
 rw[e,List.replicate_succ];have:=Zoc ((List.range i).map f) (List.replicate (n-(i+1)) z) z (f i);rw[List.length_map,List.length_range]at this;rw[this,List.range_succ,List.map_append];rfl
theorem Qp0 {α:Type} (f:Nat->α) (z:α) (n:Nat):Ep f z n n=(List.range n).map f:=by unfold Ep;simp
theorem Zny {α:Type} (l:List α) (d:α):(List.range l.length).map (fun i=>l.getD i d)=l:=by
 apply List.ext_getElem
 ·simp
 ·intro i h1 h2;simp[h2]
def Ji:Spk:=⟨0,0,0,0⟩
theorem Q27 {MS MP MF MK MV:Fn} {it:Itm} {l:List Spk} {cu cw:Int} (hl:l.length<=65537) (hcu:cu.natAbs<=16777216) (hcw:cw.natAbs<=16777216) (hok:∀s∈l,okS s)
  (hS:∀{u w h:Int},MS [I u,I w,I h,I it.aG]=some (ptR (spP it.aG u w h))) {f:Nat->List AC} (hf:∀i,f i=ptR (spP it.aG (cu+(l.getD i Ji).u) (cw+(l.getD i Ji).w) (l.getD i Ji).h)):
  ∀(k i:Nat),i+k=l.length->An (L_ MS MP MF MK MV) (.view kPt (Ep f [I 0,I 0,I 0] l.length i)::I cu::I cw:: .view DY (l.map CW)::I l.length::I i::Ag it)=
   some (1,[.view kPt ((List.range l.length).map f)])
 |0,i,hi=>by
  refine A_ ?_ (by simp);rw[Q1r];simp only[go_sem];rw[if_neg (by omega),show i=l.length by omega,Qp0]
 |k+1,i,hi=>by
  have hlt:i<l.length:=by omega
  have hs:L_ MS MP MF MK MV (.view kPt (Ep f [I 0,I 0,I 0] l.length i)::I cu::I cw:: .view DY (l.map CW)::I l.length::I i::Ag it)=
    some (0, .view kPt (Ep f [I 0,I 0,I 0] l.length (i+1))::I cu::I cw:: .view DY (l.map CW)::I l.length::I (i+1:Nat)::Ag it):=by
   rw[Q1r];have hr:nth [] (l.map CW) i=CW l[i]:=I_ _ _ _ _ hlt;have ho:=hok _ (List.getElem_mem hlt);have hfl:=Qwx f [I 0,I 0,I 0] (show i<=l.length by omega);have hfi:=hf i;rw[show l.getD i Ji=l[i] by simp[hlt]]at hfi;have hset:=Qtl f [I 0,I 0,I 0] hlt;rw[hfi]at hset;generalize l[i]=s at*;obtain⟨s1,s2,-⟩:=ho;simp only[go_sem,Int.toNat_natCast,List.length_map,hr];rw[if_pos (by omega),if_pos (by omega),Ae (x:=cu+s.u) (by omega),Ae (x:=cw+s.w) (by omega),Ae (x:=(i:Int)+1) (by omega)];simp only[hS,go_sem,hfl];rw[if_pos (by omega),hset];rfl
  rw[Bt hs];exact Q27 hl hcu hcw hok hS hf k (i+1) (by omega)
theorem Zzv {MS MP MF MK MV:Fn} {N:Lp} {it:Itm} {S:List Spk} {C:Rw} {f:Pt} {u w h:Int} (hv:MV (Ag it)=some [B true])
  (hK:MK (Ag it)=some [.view DY (S.map CW),B true]) (hf:MF [I it.ce.x,I it.ce.y,I it.ce.z]=some (ptR f)) (hpp:MP [I f.x,I f.y,I f.z,I it.aG]=some [I u,I w,I h]) (hS:S.length<=65537)
  (hN:N [.view kPt (List.replicate S.length [I 0,I 0,I 0]),I u,I w, .view DY (S.map CW),I S.length,I 0,I it.kind,I it.block,I it.fr.x,I it.fr.y,I it.fr.z,I it.to.x,I it.to.y,I it.to.z,I it.aG,I it.ce.x,I it.ce.y,I it.ce.z,I it.dir,B it.full,I it.feed,B it.perRev,I it.side,I it.radius,I it.blend,I it.n,I it.speed,B it.on]=some (1,[.view kPt C])):
  Ri MS MP MF MK MV N (Ag it)=some [.view kPt C,B true]:=by
 rw[Yg];simp only[go_sem,hv,hK,hf,hpp,List.length_map,Int.toNat_natCast,hN];rw[if_neg (by simp),if_neg (by simp),if_pos (by omega)]
theorem Zts {MS MP MF MK MV:Fn} {it:Itm} (hV:∃v,MV (Ag it)=some [B v]/\(v=true↔Dt it)) (h:Dt it)
  (hK:MK (Ag it)=if it.kind=3 then some [.view DY ((DL it).map CW),B true]else some [.view DY [],B false])
  (hF:∀{p:Pt},bd 100000000 p->MF [I p.x,I p.y,I p.z]=some (ptR (Ax p))) (hP:Dc it.aG->∀{p:Pt},MP [I p.x,I p.y,I p.z,I it.aG]=some [I (plU it.aG p),I (plW it.aG p),I (plH it.aG p)])
  (hS:Dc it.aG->∀{u w h:Int},MS [I u,I w,I h,I it.aG]=some (ptR (spP it.aG u w h))):
  Ri MS MP MF MK MV (An (L_ MS MP MF MK MV)) (Ag it)=some [.view kPt ((Ch it).map ptR),B true]:=by
 obtain⟨v,hv,hvv⟩:=hV;rw[Yg];have hv1:=hvv.2 h;subst hv1;obtain⟨-,h1,h2,ha⟩:=id h;by_cases h3:it.kind=3
 ·obtain⟨hp,hd,hc,-⟩:=ha h3;rw[if_pos h3]at hK;obtain⟨c1,c2,c3⟩:=Hg (pl:=it.aG) (Fg hc);have hsl:=(Qv9 it).2;have hl:=Q27 (MS:=MS) (MP:=MP) (MF:=MF) (MK:=MK) (MV:=MV) (it:=it) (l:=DL it) (cu:=plU it.aG (Ax it.ce)) (cw:=plW it.aG (Ax it.ce)) hsl c1 c2 (Qq9 h h3) (hS hp)
   (f:=fun i=>ptR (IG it ((DL it).getD i Ji))) (fun _=>rfl) (DL it).length 0 (by omega)
  have hres:(List.range (DL it).length).map (fun i=>ptR (IG it ((DL it).getD i Ji)))=((DL it).map (IG it)).map ptR:=by
   rw[List.map_map]
   conv=>rhs;rw[<-Zny (DL it) Ji]
   rw[List.map_map];rfl
  rw[hres]at hl;have hf0:Ep (fun i=>ptR (IG it ((DL it).getD i Ji))) [I 0,I 0,I 0] (DL it).length 0=List.replicate (DL it).length [I 0,I 0,I 0]:=by unfold Ep;simp
  rw[hf0]at hl;have hf:=hF (AW hc (by decide));have hpp:= @hP hp (Ax it.ce);have:=Zzv (MS:=MS) (N:=An (L_ MS MP MF MK MV)) hv hK hf hpp hsl hl;rw[Yg]at this;unfold Ch;rw[if_pos h3];exact this
 ·rw[if_neg h3]at hK;have f1:=hF (AW h1 (by decide));have f2:=hF (AW h2 (by decide));unfold Ch;rw[if_neg h3];simp only[go_sem,hv,hK,f1,f2];simp
theorem Zz0 {it:Itm} (h:Dt it):Py (Ag it)=some [.view kPt ((Ch it).map ptR),B true]:=
 Zts (Qbr it) h (Zd1 h) Qyi (fun hp=>Q5g hp) (fun hp=>Zed hp)
end Go.Bm
namespace Go.Bm
theorem Q80 {MO:Fn} {c a:Pt} {d:Int} (hc:bd B24 c) (ha:bd B24 a) (hne:a≠c) (hd:0<=d/\d<=33554432)
  (hN:∀{x:Int},x.natAbs<=33554432*4->x*x<=sqD a c->MO [I x,I d,I (sqD a c),I 2]=some [I (BY x d (sqD a c)),B true]/\(BY x d (sqD a c)).natAbs<=268435456):
  Qnd MO [I c.x,I c.y,I c.z,I a.x,I a.y,I a.z,I d]=some (ptR (BP c a d)++[B true]):=by
 obtain⟨q1,q2,q3⟩:=Q13 a c;have x1:=H8 ha.1 hc.1;have x2:=H8 ha.2.1 hc.2.1;have x3:=H8 ha.2.2 hc.2.2;obtain⟨n1,b1⟩:=hN (x:=a.x-c.x) (Nat.le_trans x1 (by decide)) q1;obtain⟨n2,b2⟩:=hN (x:=a.y-c.y) (Nat.le_trans x2 (by decide)) q2;obtain⟨n3,b3⟩:=hN (x:=a.z-c.z) (Nat.le_trans x3 (by decide)) q3;have h6: ¬d<0:=Int.not_lt.2 hd.1;have h7: ¬d>33554432:=Int.not_lt.2 hd.2;rw[Zia,Q56 (AW ha (by decide)) (AW hc (by decide)),Il x1 (by decide),Il x2 (by decide),Il x3 (by decide)];simp only[go_sem,n1,n2,n3];rw[if_neg (fun h=>hne (DS.2 ⟨h.1,h.2.1,h.2.2.1⟩)),if_neg h6,if_neg h7];rw[Il (QK hc.1 b1) (by decide),Il (QK hc.2.1 b2) (by decide),Il (QK hc.2.2 b3) (by decide)];rfl
theorem Vc {c a:Pt} {d:Int} (hc:bd B24 c) (ha:bd B24 a) (hne:a≠c) (hd:0<=d/\d<=33554432):
  G1 [I c.x,I c.y,I c.z,I a.x,I a.y,I a.z,I d]=some (ptR (BP c a d)++[B true]):=by
 have h0:sqD a c≠0:=fun h=>hne (Qhl.1 h);have h1:=O5 a c;have h2:=O3 (AW ha (by decide)) (AW hc (by decide)) (show 67108864<=67108864 by omega);refine Q80 hc ha hne hd fun{x} hx hq=> ?_;obtain⟨-,g2,-⟩:=S2 hx (r:=d) (by omega) (n:=sqD a c) (by omega) hq;exact⟨Yd (Nat.le_trans hx (by decide)) (by omega) (by omega),g2⟩
theorem Qxi {p c q:Pt} (hp:bd B24 p) (hc:bd B24 c) (hq:bd B24 q):GS [I p.x,I p.y,I p.z,I c.x,I c.y,I c.z,I q.x,I q.y,I q.z]=some [I (G8 p c q)]:=by
 have hb:=Zuo hp hc hq;have g1:=Dv hb.1;have g2:=Dv hb.2.1;have g3:=Dv hb.2.2;unfold GS;unfold bd B24 at hp hc hq;have w:∀u v c:Int,u.natAbs<=16777216->v.natAbs<=16777216->c.natAbs<=16777216->wrap .i64 (wrap .i64 (u+v)-wrap .i64 (2*c))=u-c+(v-c):=by
  intro u v c h1 h2 h3;rw[Ae (x:=u+v) (by omega),Ae (x:=2*c) (by omega),Ae (by omega)];omega
 rw[Zy7,w _ _ _ hp.1 hq.1 hc.1,w _ _ _ hp.2.1 hq.2.1 hc.2.1,w _ _ _ hp.2.2 hq.2.2 hc.2.2];have e1:p.x-c.x+(q.x-c.x)=(FP p c q).x:=rfl;have e2:p.y-c.y+(q.y-c.y)=(FP p c q).y:=rfl;have e3:p.z-c.z+(q.z-c.z)=(FP p c q).z:=rfl;rw[e1,e2,e3];unfold G8 I9;generalize(FP p c q).x*(FP p c q).x=u at*;generalize(FP p c q).y*(FP p c q).y=v at*;generalize(FP p c q).z*(FP p c q).z=w at*;rw[Ae (x:=u) (by omega),Ae (x:=0+u) (by omega),Ae (x:=v) (by omega),Ae (x:=0+u+v) (by omega),Ae (x:=w) (by omega),Ae (by omega),Int.zero_add]
open Classical in
theorem Zps {MB MT ML:Fn} {a c b:Pt} {tol d e bit:Int} (ha:bd B24 a) (hc:bd B24 c) (hb:bd B24 b) (hac:a≠c) (hbc:b≠c) (ht:0<=tol/\tol<=16000) (hd:0<=d/\d+e<=33554432) (he:0<e) (hbit:e.fdiv (2^min (Int.toNat 1) IntKind.i64.bits)=bit)
  (l3:0<=AE a c/\AE a c<=268435456) (l4:0<=AE c b/\AE c b<=268435456)
  (hT:∀{a:Pt} {d:Int},bd B24 a->a≠c->0<=d/\d<=33554432->MT [I c.x,I c.y,I c.z,I a.x,I a.y,I a.z,I d]=some (ptR (BP c a d)++[B true]))
  (hB:∀{p q:Pt},bd B24 p->bd B24 q->MB [I p.x,I p.y,I p.z,I c.x,I c.y,I c.z,I q.x,I q.y,I q.z]=some [I (G8 p c q)]):
  Mj MB MT ML [I tol,I (mn (AE a c) (AE c b)-2),I d,I e,I a.x,I a.y,I a.z,I c.x,I c.y,I c.z,I b.x,I b.y,I b.z]=
   some (0,[I tol,I (mn (AE a c) (AE c b)-2),I (if GZ a c b tol (d+e)then d+e else d),I bit,I a.x,I a.y,I a.z,I c.x,I c.y,I c.z,I b.x,I b.y,I b.z]):=by
 obtain⟨m1,m2⟩:=Q6 (AE a c) (AE c b);have ht2:0<=16*tol*tol/\16*tol*tol<=4096000000:=by
  have:=Int.mul_le_mul (show 16*tol<=256000 by omega) ht.2 ht.1 (by omega);exact⟨Int.mul_nonneg (by omega) ht.1,by omega⟩
 rw[Qqb,hbit,Ae (x:=d+e) (by omega),Dx he,Ae (x:=16*tol) (by omega),Ae (x:=16*tol*tol) (by omega)];by_cases h:d+e>mn (AE a c) (AE c b)-2
 ·rw[Dx h,if_neg (fun h3:GZ a c b tol (d+e)=>by have:=h3.1;omega)]
 ·rw[AZ h];have k1:bd B24 (BP c a (d+e)):=Jg hc ha hac (by omega);have k2:bd B24 (BP c b (d+e)):=Jg hc hb hbc (by rw[Ro b c];omega);have t1:=hT (d:=d+e) ha hac (by omega);have t2:=hT (d:=d+e) hb hbc (by omega);simp only[List.cons_append,List.nil_append,ptR]at t1 t2;simp only[t1,t2,go_sem,hB k1 k2];by_cases h2:G8 (BP c a (d+e)) c (BP c b (d+e))<=16*tol*tol
  ·rw[if_pos h2,if_pos (show GZ a c b tol (d+e)from⟨by omega,h2⟩)]
  ·rw[if_neg h2,if_neg (fun h3:GZ a c b tol (d+e)=>h2 h3.2)]
open Classical in
theorem Qwk {MB MT ML:Fn} {a c b:Pt} {tol m:Int}
  (hst : ∀ {d e bit : Int}, 0 <= d /\ d + e <= 33554432 -> 0 < e -> e.fdiv (2 ^ min (Int.toNat 1) IntKind.i64.bits) = bit -> Mj MB MT ML [I tol, I m, I d, I e, I a.x, I a.y, I a.z, I c.x, I c.y, I c.z, I b.x, I b.y, I b.z] =
   some (0,[I tol,I m,I (if GZ a c b tol (d+e)then d+e else d),I bit,I a.x,I a.y,I a.z,I c.x,I c.y,I c.z,I b.x,I b.y,I b.z])):
  ∀(k:Nat) (d:Int),0<=d/\d+((2^(k+1):Nat):Int)<=33554432->
  An (Mj MB MT ML) [I tol,I m,I d,I ((2^k:Nat):Int),I a.x,I a.y,I a.z,I c.x,I c.y,I c.z,I b.x,I b.y,I b.z]=some (1,[I (FJ (GZ a c b tol) k d)])
 |0,d,hd=>by
  simp only[Nat.zero_add,Nat.pow_one]at hd;have hend:∀d:Int,An (Mj MB MT ML) [I tol,I m,I d,I 0,I a.x,I a.y,I a.z,I c.x,I c.y,I c.z,I b.x,I b.y,I b.z]=some (1,[I d]):=by
   intro d;refine A_ ?_ (by simp);rw[Qqb];rw[AZ (by omega)]
  have hs:=hst (d:=d) (e:=1) (by omega) (by omega) Zss;have e:((2^0:Nat):Int)=1:=rfl;rw[e,Bt hs,hend];rfl
 |k+1,d,hd=>by
  have hp:0<2^(k+1):=Nat.two_pow_pos _;have e3:2^(k+1+1)=2^(k+1)+2^(k+1):=by rw[Nat.pow_succ 2 (k+1)];omega
  rw[e3]at hd;have hs:=hst (d:=d) (e:=((2^(k+1):Nat):Int)) (by omega) (by omega) (Ziw k);rw[Bt hs];unfold FJ;refine Qwk hst k _ ?_;split<;>omega
theorem Zws {ML:Fn} {N:Lp} {MB MT:Fn} {a c b:Pt} {tol:Int}
  (l1:ML [I a.x,I a.y,I a.z,I c.x,I c.y,I c.z]=some [I (AE a c)]) (l2:ML [I c.x,I c.y,I c.z,I b.x,I b.y,I b.z]=some [I (AE c b)])
  (l3:0<=AE a c/\AE a c<=268435456) (l4:0<=AE c b/\AE c b<=268435456)
  (hN:a≠c->b≠c->N [I tol,I (mn (AE a c) (AE c b)-2),I 0,I 16777216,I a.x,I a.y,I a.z,I c.x,I c.y,I c.z,I b.x,I b.y,I b.z]=some (1,[I (FJ (GZ a c b tol) 24 0)])):
  Qmw MB MT ML N [I a.x,I a.y,I a.z,I c.x,I c.y,I c.z,I b.x,I b.y,I b.z,I tol]=some [I (Dj a c b tol)]:=by
 rw[Z19];have m3:0<=mn (AE a c) (AE c b)/\mn (AE a c) (AE c b)<=268435456:=by unfold mn;split<;>omega
 unfold Dj;by_cases h1:a=c
 ·rw[if_pos (.inl h1)];have h2:=DS.1 h1;simp only[go_sem];rw[if_pos ⟨h2.1,h2.2.1,h2.2.2,trivial⟩]
 ·by_cases h2:b=c
  ·rw[if_pos (.inr h2)];have h3:=DS.1 h2;simp only[go_sem];rw[if_neg (fun h=>h1 (DS.2 ⟨h.1,h.2.1,h.2.2.1⟩)),if_pos ⟨h3.1,h3.2.1,h3.2.2,trivial⟩]
  ·have hl':=hN h1 h2;simp only[go_sem,l1,l2];rw[Ae (by omega)];simp only[hl',go_sem];rw[if_neg (fun h=>h1 (DS.2 ⟨h.1,h.2.1,h.2.2.1⟩)),if_neg (fun h=>h2 (DS.2 ⟨h.1,h.2.1,h.2.2.1⟩)),if_neg (show¬(a=c\/b=c)from fun h=>h.elim h1 h2)];by_cases h3:FJ (GZ a c b tol) 24 0<16
   ·rw[if_pos h3,if_pos h3]
   ·rw[if_neg h3,if_neg h3]
theorem Zbc {a c b:Pt} {tol:Int} (ha:bd B24 a) (hc:bd B24 c) (hb:bd B24 b) (ht:0<=tol/\tol<=16000):
  K1 [I a.x,I a.y,I a.z,I c.x,I c.y,I c.z,I b.x,I b.y,I b.z,I tol]=some [I (Dj a c b tol)]:=by
 have A:=AW ha (show B24<=67108864 by decide);have C:=AW hc (show B24<=67108864 by decide);have D:=AW hb (show B24<=67108864 by decide);exact Zws (Qdr A C) (Qdr C D) (HL A C) (HL C D)
  fun h1 h2=>Qwk (fun hd he hbit=>Zps ha hc hb h1 h2 ht hd he hbit (HL A C) (HL C D) (fun hb hn hd=>Vc hc hb hn hd) fun hp hq=>Qxi hp hc hq) 24 0 (by decide)
theorem Zf6 {M:Fn} {p c q:Pt} (hM:M [I p.x,I p.y,I p.z,I c.x,I c.y,I c.z,I q.x,I q.y,I q.z]=some [I (G8 p c q)]):
  ∀(k:Nat) (n:Int),JI n->64<=n*2^k->An (PU M) [I n,I p.x,I p.y,I p.z,I c.x,I c.y,I c.z,I q.x,I q.y,I q.z]=some (1,[I (KG (G8 p c q) k n)]):=by
 have hst:∀n:Int,JI n->PU M [I n,I p.x,I p.y,I p.z,I c.x,I c.y,I c.z,I q.x,I q.y,I q.z]=if n<64/\G8 p c q>16*n*n*n*n*4*4 then some (0,[I (n*2),I p.x,I p.y,I p.z,I c.x,I c.y,I c.z,I q.x,I q.y,I q.z])else some (1,[I n]):=by
  intro n hn;rw[Zfw];simp only[go_sem,hM];have hw:wrap .i64 (wrap .i64 (wrap .i64 (wrap .i64 (wrap .i64 (wrap .i64 (16*n)*n)*n)*n)*4)*4)=16*n*n*n*n*4*4/\wrap .i64 (n*2)=n*2:=by
   rcases hn with rfl|rfl|rfl|rfl|rfl|rfl<;>decide
  rw[hw.1,hw.2];by_cases h1:n<64
  ·rw[if_pos h1];by_cases h2:G8 p c q>16*n*n*n*n*4*4
   ·rw[if_pos h2,if_pos ⟨h1,h2⟩]
   ·rw[if_neg h2,if_neg (fun h=>h2 h.2)]
  ·rw[if_neg h1,if_neg (fun h=>h1 h.1)]
 intro k;induction k with
 |zero=>
  intro n hn h64;have:n=64:=by rcases hn with rfl|rfl|rfl|rfl|rfl|rfl<;>simp at h64⊢
  subst this;refine A_ ?_ (by simp);rw[hst _ hn,if_neg (by omega)];rfl
 |succ k ih=>
  intro n hn h64;unfold KG;by_cases h:n<64/\G8 p c q>16*n*n*n*n*4*4
  ·rw[if_pos h];have hs:=hst n hn;rw[if_pos h]at hs;rw[Bt hs];refine ih (n*2) ?_ ?_
   ·rcases hn with rfl|rfl|rfl|rfl|rfl|rfl<;>simp[JI]at h⊢
   ·rw[Int.pow_succ]at h64;rw[Int.mul_assoc,Int.mul_comm 2];exact h64
  ·rw[if_neg h];refine A_ ?_ (by simp);rw[hst _ hn,if_neg h]
theorem Zrd {p c q:Pt} (hp:bd B24 p) (hc:bd B24 c) (hq:bd B24 q):JE [I p.x,I p.y,I p.z,I c.x,I c.y,I c.z,I q.x,I q.y,I q.z]=some [I (LH p c q)]:=by
 have h1:=Zf6 (Qxi hp hc hq) 5 2 (.inl rfl) (by decide);show Qf2 _ (An (PU _)) _=_;generalize GS=M at*;rw[Z0u];simp only[go_sem,h1];rfl
theorem Q1l {α:Type} (d x:α):∀(l:List α) (i:Nat),i<l.length->nth d (l.set i x) i=x
 |a::l,0,_=>rfl
 |a::l,i+1,h=>by simp only[List.set_cons_succ,nth];exact Q1l d x l i (by simpa using h)
theorem Zqn {n i p c q:Int} (hn:2<=n/\n<=64) (hi:0<=i/\i<=n) (hp:p.natAbs<=B24) (hc:c.natAbs<=B24) (hq:q.natAbs<=B24):
  Bs [I (wrap .i64 (wrap .i64 (wrap .i64 (wrap .i64 (n-i)*wrap .i64 (n-i))*wrap .i64 (p-c))+wrap .i64 (wrap .i64 (i*i)*wrap .i64 (q-c)))),I 1,I (wrap .i64 (n*n)),I 2]=some [I (Bh ((n-i)*(n-i)*(p-c)+i*i*(q-c)) (n*n)),B true]:=by
 have n1:0<n*n/\n*n<=4096:=⟨Int.mul_pos (by omega) (by omega),by have:=Int.mul_le_mul hn.2 hn.2 (by omega) (by omega);omega⟩;have n2:0<=(n-i)*(n-i)/\(n-i)*(n-i)<=4096:=⟨Fz _,by have:=Int.mul_le_mul (show n-i<=64 by omega) (show n-i<=64 by omega) (by omega) (by omega);omega⟩;have n3:0<=i*i/\i*i<=4096:=⟨Fz _,by have:=Int.mul_le_mul (show i<=64 by omega) (show i<=64 by omega) (by omega) (by omega);omega⟩;unfold B24 at*;rw[Ae (x:=n-i) (by omega),Ae (x:=(n-i)*(n-i)) (by omega),Ae (x:=p-c) (by omega),Ae (x:=i*i) (by omega),Ae (x:=q-c) (by omega),Ae (x:=n*n) (by omega)];have m1:=Hw (x:=(n-i)*(n-i)) (y:=p-c) (A:=4096) (B:=33554432) (by omega) (by omega);have m2:=Hw (x:=i*i) (y:=q-c) (A:=4096) (B:=33554432) (by omega) (by omega);generalize(n-i)*(n-i)*(p-c)=u at*;generalize i*i*(q-c)=v at*;rw[Ae (x:=u) (by omega),Ae (x:=v) (by omega),Ae (by omega)];have h:=Sv (a:=u+v) (b:=1) (c:=n*n) (by unfold i64;omega) (by unfold i64;omega) (by omega) (by rw[show(1:Int).natAbs=1 from rfl,Nat.mul_one];omega);rw[Int.mul_one]at h;exact h
theorem Qpb {MR MP MT MC:Fn} {p c q:Pt} {N:Nat} (hN:2<=N/\N<=64) (hp:bd B24 p) (hc:bd B24 c) (hq:bd B24 q)
  (hR:∀{i p c q:Int},(0<=i/\i<=N)->p.natAbs<=B24->c.natAbs<=B24->q.natAbs<=B24->MR [I (wrap .i64 (wrap .i64 (wrap .i64 (wrap .i64 ((N:Int)-i)*wrap .i64 ((N:Int)-i))*wrap .i64 (p-c))+wrap .i64 (wrap .i64 (i*i)*wrap .i64 (q-c)))),I 1,I (wrap .i64 ((N:Int)*(N:Int))),I 2]=some [I (Bh (((N:Int)-i)*((N:Int)-i)*(p-c)+i*i*(q-c)) ((N:Int)*(N:Int))),B true])
  {f:Nat->List AC} (hf:∀i:Nat,f i=ptR (Nk N i p c q)):
  ∀(k i:Nat),i+k=N+1->An (NY MR MP MT MC) [.view kPt (Ep f [I 0,I 0,I 0] (N+1) i),I N,I (N+1:Nat),I i,I c.x,I c.y,I c.z,I p.x,I p.y,I p.z,I q.x,I q.y,I q.z]=
   some (1,[.view kPt ((List.range (N+1)).map f)])
 |0,i,hi=>by
  obtain rfl:i=N+1:=by omega
  refine A_ ?_ (by simp);rw[Q6d,Qp0,AZ (by omega)]
 |k+1,i,hi=>by
  have b1:=Ne (n:=N) (i:=i) (A:=B24) (by omega) (by omega) hp.1 hc.1 hq.1;have b2:=Ne (n:=N) (i:=i) (A:=B24) (by omega) (by omega) hp.2.1 hc.2.1 hq.2.1;have b3:=Ne (n:=N) (i:=i) (A:=B24) (by omega) (by omega) hp.2.2 hc.2.2 hq.2.2;have r1:=hR (i:=i) (by omega) hp.1 hc.1 hq.1;have r2:=hR (i:=i) (by omega) hp.2.1 hc.2.1 hq.2.1;have r3:=hR (i:=i) (by omega) hp.2.2 hc.2.2 hq.2.2;have hs:NY MR MP MT MC [.view kPt (Ep f [I 0,I 0,I 0] (N+1) i),I N,I (N+1:Nat),I i,I c.x,I c.y,I c.z,I p.x,I p.y,I p.z,I q.x,I q.y,I q.z]=
    some (0,[.view kPt (Ep f [I 0,I 0,I 0] (N+1) (i+1)),I N,I (N+1:Nat),I (i+1:Nat),I c.x,I c.y,I c.z,I p.x,I p.y,I p.z,I q.x,I q.y,I q.z]):=by
   have hlen:=Qwx f [I 0,I 0,I 0] (show i<=N+1 by omega);have hset:=Qtl f [I 0,I 0,I 0] (show i<N+1 by omega);rw[hf i]at hset;generalize Ep f [I 0,I 0,I 0] (N+1) i=l at*;have hself:∀x:List AC,nth [] (l.set i x) i=x:=fun x=>Q1l _ _ _ _ (by omega);rw[Q6d];have hin:(0:Int)<=(i:Int)/\(i:Int)<((N+1:Nat):Int):=by omega
   simp only[go_sem,r1,r2,r3,Int.toNat_natCast,hlen,if_pos hin,List.set_set,hself,List.length_set];rw[if_pos (by omega)];unfold Nw B24 at b1 b2 b3;rw[Ae (x:=c.x+_) (by omega),Ae (x:=c.y+_) (by omega),Ae (x:=c.z+_) (by omega),Ae (x:=(i:Int)+1) (by omega)];rw[<-hset];rfl
  rw[Bt hs];exact Qpb hN hp hc hq hR hf k (i+1) (by omega)
theorem Zw5 {a c b:Pt} {tol:Int} (ha:bd B24 a) (hc:bd B24 c) (hb:bd B24 b) (ht:0<=tol/\tol<=16000):
  Pa [I a.x,I a.y,I a.z,I c.x,I c.y,I c.z,I b.x,I b.y,I b.z,I tol]=some [.view kPt ((F2 a c b tol).map ptR)]:=by
 show Qgq _ _ _ _ (An (NY _ _ _ _)) _=_;have e1:=Zbc ha hc hb ht;have hR:= @Zqn;generalize K1=MC at*;unfold F2;by_cases h:Dj a c b tol=0
 ·rw[if_pos h];rw[Q0u];simp only[go_sem,e1];rw[if_pos h];rfl
 ·rw[if_neg h];obtain⟨h1,h2,h3,h4,h5,-⟩:=Qdy h;obtain⟨m1,m2⟩:=Q6 (AE a c) (AE c b);have h0: ¬Dj a c b tol=0:=h;generalize Dj a c b tol=d at*;have k1:bd B24 (BP c a d):=Jg hc ha h1 (by omega);have k2:bd B24 (BP c b d):=Jg hc hb h2 (by rw[Ro b c];omega);have t1:=Vc hc ha h1 (d:=d) (by omega);have t2:=Vc hc hb h2 (d:=d) (by omega);have p1:=Zrd k1 hc k2;have p2:=(Qly k1 hc k2).2;generalize LH (BP c a d) c (BP c b d)=n at*;obtain⟨N,rfl⟩:∃N:Nat,n=N:=⟨n.toNat,by rcases p2 with rfl|rfl|rfl|rfl|rfl|rfl<;>rfl⟩;have hN:2<=N/\N<=64:=by unfold JI at p2;omega
  have hl:=Qpb (MR:=Bs) (MP:=JE) (MT:=G1) (MC:=MC) hN k1 hc k2 (fun hi hp hc hq=>hR (by omega) hi hp hc hq) (f:=fun i=>ptR (Nk N i (BP c a d) c (BP c b d))) (fun _=>rfl) (N+1) 0 (by omega);have hf0:∀f:Nat->List AC,Ep f [I 0,I 0,I 0] (N+1) 0=List.replicate (N+1) [I 0,I 0,I 0]:=fun f=>by unfold Ep;rw[List.range_zero,List.map_nil,List.nil_append,Nat.sub_zero]
  rw[hf0]at hl;generalize Bs=MR at*;generalize JE=MP at*;generalize G1=MT at*;generalize BP c a d=p at*;generalize BP c b d=q at*;rw[Q0u];simp only[List.cons_append,List.nil_append,ptR]at t1 t2;have hres:(List.range (N+1)).map (fun(i:Nat)=>ptR (Nk N i p c q))=((List.range ((N:Int).toNat+1)).map fun(i:Nat)=>Nk N i p c q).map ptR:=by rw[List.map_map,Int.toNat_natCast];rfl
  rw[hres]at hl;generalize((List.range ((N:Int).toNat+1)).map fun(i:Nat)=>Nk N i p c q).map ptR=C at*;generalize An (NY MR MP MT MC)=L at*;have hl':L [.view kPt (List.replicate (N+1) [I 0,I 0,I 0]),I N,I (N+1:Nat),I 0,I c.x,I c.y,I c.z,I p.x,I p.y,I p.z,I q.x,I q.y,I q.z]=some (1,[.view kPt C]):=hl;have w1:wrap .i64 ((N:Int)+1)=((N+1:Nat):Int):=by rw[Ae (by omega)];rfl
  simp only[e1,t1,t2,p1,w1,Option.bind_some,HC,LA,LU,Hl,gA,jA,wA,bA,Int.toNat_natCast,List.length_replicate,Qkc];rw[Bn (by simpa using h0),Dx trivial,BO (by simp;omega),hl'];rfl
end Go.Bm
namespace Go.Bm
open Classical
theorem Pv (k:Int):DG [I k]=some [B (decide (1<=k/\k<=6))]:=by
 unfold DG;rw[Z07];by_cases h:1<=k
 ·rw[Dx (show k>=1 from h)];by_cases h2:k<=6
  ·rw[decide_eq_true h2,decide_eq_true ⟨h,h2⟩]
  ·rw[decide_eq_false h2,decide_eq_false fun h3=>h2 h3.2]
 ·rw[AZ (show¬k>=1 from h),decide_eq_false fun h3=>h h3.1]
theorem Sj (it:Itm):EF (Ag it)=some [B (decide (smI it))]:=by
 unfold EF;rw[Zgm];by_cases h:it.kind=2
 ·rw[BO (by simp[h])];congr 2;by_cases h2:it.fr=it.to
  ·have h3:=DS.1 h2;rw[decide_eq_false (fun hs:smI it=>hs.2 h2)];simp[h3.1,h3.2.1,h3.2.2]
  ·rw[decide_eq_true (show smI it from⟨h,h2⟩)];have h3: ¬(it.fr.x=it.to.x/\it.fr.y=it.to.y/\it.fr.z=it.to.z):=fun h3=>h2 (DS.2 h3);simp only[B,AC.bool.injEq,Bool.not_eq_true',Bool.and_true];by_cases a:it.fr.x=it.to.x<;>by_cases b:it.fr.y=it.to.y<;>by_cases c:it.fr.z=it.to.z<;>simp[a,b,c]at h3⊢
 ·rw[Bn (by simp[h]),decide_eq_false (fun hs:smI it=>h hs.1)]
theorem Qy {it:Itm} (h1:bd 1048576 it.fr) (h2:bd 1048576 it.to):FR (Ag it)=some (ptR (Ba it)):=by
 obtain⟨a1,a2,a3⟩:=h1;obtain⟨b1,b2,b3⟩:=h2;unfold FR;rw[Ze0,Ae (x:=it.fr.x+it.to.x) (by omega),Ae (x:=(it.fr.x+it.to.x)*8) (by omega),Ae (x:=it.fr.y+it.to.y) (by omega),Ae (x:=(it.fr.y+it.to.y)*8) (by omega),Ae (x:=it.fr.z+it.to.z) (by omega),Ae (x:=(it.fr.z+it.to.z)*8) (by omega)];rfl
theorem Zxo {p:Pt} (h:bd 100000000 p):Ok [I p.x,I p.y,I p.z]=some (ptR (Ax p)):=by
 unfold Ok;rw[Zd2];obtain⟨h1,h2,h3⟩:=h;rw[Ae (by omega),Ae (by omega),Ae (by omega)];rfl
theorem Q12 (it:Itm):Hk (Ag it)=some [B (decide (syI it))]:=by
 unfold Hk;rw[Zxd];by_cases h5:it.kind=5
 ·rw[BO (by simp[h5]),decide_eq_true (show syI it from .inl h5)]
 ·rw[Bn (by simp[h5])];by_cases h6:it.kind=6
  ·rw[decide_eq_true (show syI it from .inr h6)];simp[h6]
  ·rw[decide_eq_false (show¬syI it from fun h=>h.elim h5 h6)];simp[h6]
theorem Q8y {MV MM:Fn} {it:Itm} (hM:MM [I it.kind]=some [B (decide (1<=it.kind/\it.kind<=6))]) (hV:∃v,MV (Ag it)=some [B v]/\(v=true↔Dt it)):
  Zn MV MM (Ag it)=some [I (if BL it then 1 else 0)]:=by
 obtain⟨v,hv,hvv⟩:=hV;have hr:∀{x:Int},(BL it->x=1)->(¬BL it->x=0)->some [I x]=some [I (if BL it then 1 else 0)]:=by
  intro x h1 h2;by_cases c:BL it
  ·rw[if_pos c,h1 c]
  ·rw[if_neg c,h2 c]
 rw[Zp6];simp only[go_sem,hM,hv];unfold BL AB at hr⊢;have one:∀{P:Prop},P->(P->(1:Int)=1)/\(¬P->(1:Int)=0):=fun h=>⟨fun _=>rfl,fun g=>absurd h g⟩;have zero:∀{P:Prop},¬P->(P->(0:Int)=1)/\(¬P->(0:Int)=0):=fun h=>⟨fun g=>absurd g h,fun _=>rfl⟩;by_cases c1:it.kind<1
 ·rw[if_pos c1];exact hr (fun _=>rfl) fun g=>absurd (.inl c1) g
 rw[if_neg c1];by_cases c2:it.kind>14
 ·rw[if_pos c2];exact hr (fun _=>rfl) fun g=>absurd (.inr (.inl c2)) g
 rw[if_neg c2];by_cases c3:1<=it.kind/\it.kind<=6
 ·simp only[if_pos c3];have hk8:it.kind≠8:=by omega
  simp only[if_neg hk8];by_cases c4:Dt it
  ·rw[if_neg (by simp[hvv.2 c4])];by_cases c5:it.blend<0
   ·rw[if_pos c5];exact hr (fun _=>rfl) fun g=>absurd (.inr (.inr (.inl ⟨c3, .inr (.inr (.inl c5))⟩))) g
   rw[if_neg c5];by_cases c6:it.blend>1000
   ·rw[if_pos c6];exact hr (fun _=>rfl) fun g=>absurd (.inr (.inr (.inl ⟨c3, .inr (.inr (.inr c6))⟩))) g
   rw[if_neg c6];by_cases c7:it.kind=1
   ·rw[if_neg (show¬it.kind≠1 by omega)];refine hr (fun g=> ?_) fun _=>rfl;rcases g with g|g|⟨-,g|g|g|g⟩|g
    ·omega
    ·omega
    ·exact absurd c4 g
    ·omega
    ·omega
    ·omega
    ·omega
   ·rw[if_pos c7];by_cases c8:it.feed<1
    ·rw[if_pos c8];exact hr (fun _=>rfl) fun g=>absurd (.inr (.inr (.inl ⟨c3, .inr (.inl ⟨c7, .inl c8⟩)⟩))) g
    rw[if_neg c8];by_cases c9:it.feed>60000000
    ·rw[if_pos c9];exact hr (fun _=>rfl) fun g=>absurd (.inr (.inr (.inl ⟨c3, .inr (.inl ⟨c7, .inr c9⟩)⟩))) g
    rw[if_neg c9];refine hr (fun g=> ?_) fun _=>rfl;rcases g with g|g|⟨-,g|g|g|g⟩|g
    ·omega
    ·omega
    ·exact absurd c4 g
    ·omega
    ·omega
    ·omega
    ·omega
  ·rw[if_pos (fun h=>c4 (hvv.1 h))];exact hr (fun _=>rfl) fun g=>absurd (.inr (.inr (.inl ⟨c3, .inl c4⟩))) g
 ·simp only[if_neg c3];by_cases c4:it.kind=8
  ·rw[if_pos c4];by_cases d1:it.n<3
   ·rw[if_pos d1];exact hr (fun _=>rfl) fun g=>absurd (.inr (.inr (.inr ⟨c3,c4, .inl d1⟩))) g
   rw[if_neg d1];by_cases d2:it.n>5
   ·rw[if_pos d2];exact hr (fun _=>rfl) fun g=>absurd (.inr (.inr (.inr ⟨c3,c4, .inr (.inl d2)⟩))) g
   rw[if_neg d2];by_cases d3:it.speed<0
   ·rw[if_pos d3];exact hr (fun _=>rfl) fun g=>absurd (.inr (.inr (.inr ⟨c3,c4, .inr (.inr (.inl d3))⟩))) g
   rw[if_neg d3];by_cases d4:it.speed>30000
   ·rw[if_pos d4];exact hr (fun _=>rfl) fun g=>absurd (.inr (.inr (.inr ⟨c3,c4, .inr (.inr (.inr d4))⟩))) g
   rw[if_neg d4];refine hr (fun g=> ?_) fun _=>rfl;rcases g with g|g|⟨g,-⟩|⟨-,-,g⟩
   ·omega
   ·omega
   ·exact absurd g c3
   ·omega
  ·rw[if_neg c4];refine hr (fun g=> ?_) fun _=>rfl;rcases g with g|g|⟨g,-⟩|⟨-,g,-⟩
   ·omega
   ·omega
   ·exact absurd g c3
   ·omega
theorem Zde (it:Itm):IJ (Ag it)=some [I (if BL it then 1 else 0)]:=Q8y (Pv _) (Qbr it)
def C1:List Itm->Nat->Nat
 |[],k=>k
 |it::l,k=>if it.kind=10 then C1 l (k+1)else k
def C7 (aA:List Itm) (i:Nat):Nat:=C1 (aA.drop (i+1)) (i+1)
theorem Qdo:∀(l:List Itm) (k:Nat),k<=C1 l k/\C1 l k<=k+l.length
 |[],k=>by simp[C1]
 |it::l,k=>by
  unfold C1;split
  ·have:=Qdo l (k+1);simp;omega
  ·simp
theorem Qug:∀(l:List Itm) (k:Nat),GV l k=if C1 l k-k<l.length/\smI (l.getD (C1 l k-k) it0)then(C1 l k:Int)else-1
 |[],k=>by simp[GV]
 |it::l,k=>by
  have hs:=Qdo l (k+1);by_cases h10:it.kind=10
  ·have e1:GV (it::l) k=GV l (k+1):=by rw[GV,if_pos h10]
   have e2:C1 (it::l) k=C1 l (k+1):=by rw[C1,if_pos h10]
   rw[e1,e2,Qug l (k+1)];have e3:C1 l (k+1)-k=(C1 l (k+1)-(k+1))+1:=by omega
   rw[e3,List.getD_cons_succ];by_cases c:C1 l (k+1)-(k+1)<l.length
   ·have c2:C1 l (k+1)-(k+1)+1<(it::l).length:=by simp;omega
    by_cases c3:smI (l.getD (C1 l (k+1)-(k+1)) it0)
    ·rw[if_pos ⟨c,c3⟩,if_pos ⟨c2,c3⟩]
    ·rw[if_neg (fun g=>c3 g.2),if_neg (fun g=>c3 g.2)]
   ·rw[if_neg (fun g=>c g.1),if_neg (fun g=>c (by have:=g.1;simp at this;omega))]
  ·have e1:GV (it::l) k=if smI it then(k:Int)else-1:=by rw[GV,if_neg h10]
   have e2:C1 (it::l) k=k:=by rw[C1,if_neg h10]
   rw[e1,e2,Nat.sub_self,List.getD_cons_zero];by_cases c:smI it
   ·rw[if_pos c,if_pos ⟨by simp,c⟩]
   ·rw[if_neg c,if_neg (fun g=>c g.2)]
theorem Qql {aA:List Itm} (hl:aA.length<=1000000):∀(k i:Nat),i+k=aA.length->
  An Pn [.view Ai (aA.map Ag),I i]=some (1,[I (C1 (aA.drop i) i)])
 |0,i,hi=>by
  refine A_ ?_ (by simp);rw[Q4x];simp only[go_sem,List.length_map];rw[if_neg (by omega),List.drop_of_length_le (by omega)];rfl
 |k+1,i,hi=>by
  have hlt:i<aA.length:=by omega
  have hr:=E4 hlt;rw[Vb hlt];have hst:Pn [.view Ai (aA.map Ag),I i]=if(itA aA i).kind=10 then some (0,[.view Ai (aA.map Ag),I (i+1:Nat)])else some (1,[I i]):=by
   rw[Q4x];have hin:(0:Int)<=(i:Int)/\(i:Int)<(aA.length:Int):=by omega
   simp only[go_sem,List.length_map,Int.toNat_natCast,hr,if_pos hin];rw[if_pos (by omega),Ae (by omega)];rfl
  unfold C1;by_cases h10:(itA aA i).kind=10
  ·rw[if_pos h10]at hst⊢;rw[Bt hst];exact Qql hl k (i+1) (by omega)
  ·rw[if_neg h10]at hst⊢;exact A_ hst (by simp)
theorem UC {aA:List Itm} (hl:aA.length<=1000000) {i:Nat} (hi:i<aA.length):Fd [.view Ai (aA.map Ag),I i]=some [I (C7 aA i)]:=by
 show Z3 (An Pn) _=_;have h:=Qql hl (aA.length-(i+1)) (i+1) (by omega);rw[Zfa,Ae (by omega),show(i:Int)+1=((i+1:Nat):Int) by omega,h];rfl
theorem Q14 {aA:List Itm} {i:Nat}:Cb aA i=if smI (itA aA i)/\(itA aA i).blend≠0/\C7 aA i<aA.length/\smI (itA aA (C7 aA i))then(C7 aA i:Int)else-1:=by
 unfold Cb;by_cases h:smI (itA aA i)/\(itA aA i).blend≠0
 ·rw[if_pos h,Qug];have hs:=Qdo (aA.drop (i+1)) (i+1);rw[List.length_drop]at hs;have e:(aA.drop (i+1)).getD (C1 (aA.drop (i+1)) (i+1)-(i+1)) it0=itA aA (C7 aA i):=by
   unfold itA;rw[List.getD_eq_getElem?_getD,List.getElem?_drop,List.getD_eq_getElem?_getD];have:i+1+(C1 (aA.drop (i+1)) (i+1)-(i+1))=C7 aA i:=by unfold C7;omega
   rw[this]
  rw[e,List.length_drop];have e2:C1 (aA.drop (i+1)) (i+1)=C7 aA i:=rfl;rw[e2]at hs⊢;by_cases c:C7 aA i<aA.length/\smI (itA aA (C7 aA i))
  ·rw[if_pos ⟨by omega,c.2⟩,if_pos ⟨h.1,h.2,c⟩]
  ·rw[if_neg (fun g=>c ⟨by have:=g.1;omega,g.2⟩),if_neg (fun g=>c g.2.2)]
 ·rw[if_neg h,if_neg (fun g=>h ⟨g.1,g.2.1⟩)]
theorem Q93 {MS MN:Fn} {aA:List Itm} (hS:∀it,MS (Ag it)=some [B (decide (smI it))]) {i:Nat} (hi:i<aA.length) (hN:MN [.view Ai (aA.map Ag),I i]=some [I (C7 aA i)]):
  Qh1 MS MN [.view Ai (aA.map Ag),I i]=some [B (decide (0<=Cb aA i))]:=by
 have hr:=E4 hi;have hs:=hS (itA aA i);rw[Q9b,Q14];simp only[Ag]at hs;have hin:(0:Int)<=(i:Int)/\(i:Int)<(aA.length:Int):=by omega
 simp only[go_sem,List.length_map,Int.toNat_natCast,hr,hs,hN,if_pos hin];by_cases h1:smI (itA aA i)
 case neg=>rw[if_neg h1,if_neg (fun g=>h1 g.1)];simp
 rw[if_pos h1];by_cases h2:(itA aA i).blend=0
 ·rw[if_neg (by simp[h2]),if_neg (fun g=>g.2.1 h2)];simp
 rw[if_pos h2];by_cases h3:C7 aA i<aA.length
 ·have hr2:=E4 h3;have hs2:=hS (itA aA (C7 aA i));simp only[Ag]at hs2;have hin2:(0:Int)<=(C7 aA i:Int)/\(C7 aA i:Int)<(aA.length:Int):=by omega
  rw[if_pos (by omega),if_pos hin2];simp only[go_sem,hr2,hs2];by_cases h4:smI (itA aA (C7 aA i))
  ·rw[decide_eq_true h4,if_pos ⟨h1,h2,h3,h4⟩,decide_eq_true (by omega)]
  ·rw[decide_eq_false h4,if_neg (fun g=>h4 g.2.2.2)];simp
 ·rw[if_neg (by omega),if_neg (fun g=>h3 g.2.2.1)];simp
theorem Qtb {aA:List Itm} (hl:aA.length<=1000000) {i:Nat} (hi:i<aA.length):Gj [.view Ai (aA.map Ag),I i]=some [B (decide (0<=Cb aA i))]:=
 Q93 Sj hi (UC hl hi)
theorem RQ {aA:List Itm} {i:Nat} (h:0<=Cb aA i):Cb aA i=C7 aA i:=by
 rw[Q14]at h⊢;split at h
 ·rename_i c;rw[if_pos c]
 ·omega
theorem Zn8 {a c b:Pt} {tol:Int} (ha:bd B24 a) (hc:bd B24 c) (hb:bd B24 b):(F2 a c b tol).length%2=1:=by
 unfold F2;by_cases h:Dj a c b tol=0
 ·rw[if_pos h];rfl
 ·rw[if_neg h];obtain⟨h1,h2,h3,h4,h5,-⟩:=Qdy h;obtain⟨m1,m2⟩:=Q6 (AE a c) (AE c b);generalize Dj a c b tol=d at*;have k1:bd B24 (BP c a d):=Jg hc ha h1 (by omega);have k2:bd B24 (BP c b d):=Jg hc hb h2 (by rw[Ro b c];omega);have k3:=(Qly k1 hc k2).2;generalize LH (BP c a d) c (BP c b d)=n at*;rw[List.length_map,List.length_range];rcases k3 with rfl|rfl|rfl|rfl|rfl|rfl<;>rfl
theorem Z03 {MC MF MM:Fn} {a b:Itm} {l:List Pt} (hbl:0<=a.blend/\a.blend<=1000) (hl:1<=l.length/\l.length<=65) (hodd:l.length%2=1)
  (c1:MM (Ag a)=some (ptR (Ba a))) (c2:MM (Ag b)=some (ptR (Ba b))) (f1:MF [I a.to.x,I a.to.y,I a.to.z]=some (ptR (Ax a.to)))
  (hC:MC (ptR (Ba a)++ptR (Ax a.to)++ptR (Ba b)++[I (a.blend*16)])=some [.view kPt (l.map ptR)]):
  Qde MC MF MM (Ag a++Ag b)=some [.view kPt ((l.take (l.length/2+1)).map ptR), .view kPt ((l.drop (l.length/2)).map ptR)]:=by
 simp only[Ag,List.cons_append,List.nil_append]at c1 c2⊢;rw[Zch];simp only[ptR,List.cons_append,List.nil_append]at hC;simp only[go_sem,c1,c2,f1];rw[Ae (by omega)];simp only[hC,go_sem,List.length_map];have e:wrap .i64 ((wrap .i64 ((l.length:Int)-1)).tdiv 2)=((l.length/2:Nat):Int):=by
  rw[Ae (x:=(l.length:Int)-1) (by omega),Int.tdiv_eq_ediv_of_nonneg (by omega),Ae (by omega)];omega
 have e2:wrap .i64 (((l.length/2:Nat):Int)+1)=((l.length/2+1:Nat):Int):=by rw[Ae (by omega)];omega
 simp only[e,e2,Int.toNat_natCast];rw[if_pos (by omega),if_pos (by omega),List.map_take,List.map_drop]
theorem Zf9 {a b:Itm} (h1:drawn a) (h2:drawn b):
  Ps (Ag a++Ag b)=some [.view kPt (((F2 (Ba a) (Ax a.to) (Ba b) (a.blend*16)).take ((F2 (Ba a) (Ax a.to) (Ba b) (a.blend*16)).length/2+1)).map ptR), .view kPt (((F2 (Ba a) (Ax a.to) (Ba b) (a.blend*16)).drop ((F2 (Ba a) (Ax a.to) (Ba b) (a.blend*16)).length/2)).map ptR)]:=
 have k1:=KN h1.1.2.1 h1.1.2.2.1;have k2:=Fg h1.1.2.2.1;have k3:=KN h2.1.2.1 h2.1.2.2.1
 Z03 h1.2 (Q19 k1 k2 k3).2 (Zn8 k1 k2 k3) (Qy h1.1.2.1 h1.1.2.2.1) (Qy h2.1.2.1 h2.1.2.2.1) (Zxo (AW h1.1.2.2.1 (by decide))) (Zw5 k1 k2 k3 (by have:=h1.2;omega))
end Go.Bm
namespace Go.Bm
open Classical
theorem Zx1 {MM MN MS MC MSm MK:Fn} {aA:List Itm} {i:Nat} {frm:Int} (hi:i<aA.length) (hd:drawn (itA aA i)) (hf:Ll aA i frm) (hall:∀k<aA.length,AB (itA aA k)->drawn (itA aA k))
  (hK:MK (Ag (itA aA i))=some [.view kPt ((Ch (itA aA i)).map ptR),B true]) (hM:MSm (Ag (itA aA i))=some [B (decide (smI (itA aA i)))])
  (hJ:∀{i k:Nat},i<aA.length->k<aA.length->drawn (itA aA i)->drawn (itA aA k)->MC (Ag (itA aA i)++Ag (itA aA k))=some [.view kPt (((G9 aA i k).take ((G9 aA i k).length/2+1)).map ptR), .view kPt (((G9 aA i k).drop ((G9 aA i k).length/2)).map ptR)])
  (hS:MS [.view Ai (aA.map Ag),I i]=some [B (decide (0<=Cb aA i))]) (hN:MN [.view Ai (aA.map Ag),I i]=some [I (C7 aA i)]) (hC:MM (Ag (itA aA i))=some (ptR (Ba (itA aA i)))):
  Xv MM MN MS MC MSm MK [.view Ai (aA.map Ag),I i,I frm]=some [.view kPt ((Cs aA i frm).map ptR)]:=by
 have r1:=E4 hi;obtain⟨hcl1,hcl2⟩:=Q4g (itA aA i);rw[Zpn];simp only[Ag,List.cons_append,List.nil_append]at hK hM hC hJ;have hin:(0:Int)<=(i:Int)/\(i:Int)<(aA.length:Int):=by omega
 simp only[go_sem,List.length_map,Int.toNat_natCast,r1,hK,hM,hC,hS,hN,List.nil_append,if_pos hin];unfold Cs;by_cases hs:smI (itA aA i)
 case neg=>rw[if_pos (by simp[hs]),if_neg hs]
 rw[if_neg (by simp[hs]),if_pos hs];have hk3:(itA aA i).kind≠3:=by have:=hs.1;omega
 have hcl3:(Ch (itA aA i)).length=2:=by unfold Ch;rw[if_neg hk3];rfl
 have w1:wrap .i64 (((Ch (itA aA i)).length:Int)-1)=1:=by rw[hcl3];rfl
 rw[w1,hcl3,if_pos (by omega),if_pos (by omega)];unfold La;rcases hf with rfl|⟨f,rfl,hf1,hf2⟩
 ·rw[if_neg (show¬(-1:Int)>=0 by omega)];unfold I1;rw[if_neg (show¬(0:Int)<= -1 by omega)];by_cases hpos:0<=Cb aA i
  ·obtain⟨k,hk,hk1,hk2⟩:=RD hall hpos;have hnx:=RQ hpos;rw[hk]at hnx;have hnk:C7 aA i=k:=by omega
   obtain⟨j1,j2,j3⟩:=LB (aA:=aA) (i:=i) (k:=k) hd hk2;have hj:=hJ hi hk1 hd hk2;have r2:=E4 hk1;have hin2:(0:Int)<=(k:Int)/\(k:Int)<(aA.length:Int):=by omega
   rw[if_pos hpos,if_pos hpos,hk,hnk,Int.toNat_natCast,if_pos hin2];simp only[go_sem,Int.toNat_natCast,r2,hj];rw[if_pos (by simp[Rl];omega),if_pos (by simp;omega),if_pos (by simp;omega)];simp only[Rl,List.map_append,List.map_cons,List.map_nil]
  ·rw[if_neg hpos,if_neg hpos,if_pos (by simp[Rl];omega),if_pos (by simp;omega),if_pos (by simp;omega)];simp only[Rl,Q1u,List.map_append,List.map_cons,List.map_nil]
 ·have hjf:=hJ hf1 hi hf2 hd;obtain⟨f1,f2,f3⟩:=LB (aA:=aA) (i:=f) (k:=i) hf2 hd;have rf:=E4 hf1;have hinf:(0:Int)<=(f:Int)/\(f:Int)<(aA.length:Int):=by omega
  rw[if_pos (show(f:Int)>=0 by omega),if_pos hinf];unfold I1;rw[if_pos (show(0:Int)<=(f:Int) by omega),Int.toNat_natCast];simp only[rf,go_sem,hjf,Int.toNat_natCast];by_cases hpos:0<=Cb aA i
  ·obtain⟨k,hk,hk1,hk2⟩:=RD hall hpos;have hnx:=RQ hpos;rw[hk]at hnx;have hnk:C7 aA i=k:=by omega
   obtain⟨j1,j2,j3⟩:=LB (aA:=aA) (i:=i) (k:=k) hd hk2;have hj:=hJ hi hk1 hd hk2;have r2:=E4 hk1;have hin2:(0:Int)<=(k:Int)/\(k:Int)<(aA.length:Int):=by omega
   rw[if_pos hpos,if_pos hpos,hk,hnk,Int.toNat_natCast,if_pos hin2];simp only[go_sem,Int.toNat_natCast,r2,hj];rw[if_pos (by simp;omega),if_pos (by simp;omega),if_pos (by simp;omega)];simp only[List.map_append,List.map_cons,List.map_nil]
  ·rw[if_neg hpos,if_neg hpos,if_pos (by simp;omega),if_pos (by simp;omega),if_pos (by simp;omega)];simp only[Q1u,List.map_append,List.map_cons,List.map_nil]
theorem Q86 {aA:List Itm} (hl:aA.length<=1000000) {i:Nat} {frm:Int} (hi:i<aA.length) (hd:drawn (itA aA i)) (hf:Ll aA i frm) (hall:∀k<aA.length,AB (itA aA k)->drawn (itA aA k)):
  NO [.view Ai (aA.map Ag),I i,I frm]=some [.view kPt ((Cs aA i frm).map ptR)]:=
 Zx1 hi hd hf hall (Zz0 hd.1) (Sj _) (fun h1 h2 h3 h4=>Zf9 h3 h4) (Qtb hl hi) (UC hl hi) (Qy hd.1.2.1 hd.1.2.2.1)
theorem Qtq {MM MS:Fn} {l:List Itm} (hM:∀k:Int,MM [I k]=some [B (decide (1<=k/\k<=6))]) (hS:∀it,MS (Ag it)=some [B (decide (syI it))]) (hl:l.length<=1000000):∀(k i:Nat),i+k=l.length->
  (An (Kn MM MS) [.view Ai (l.map Ag),I l.length,I i]=some (1,[B (decide (Fx (l.drop i)=1))]))\/(An (Kn MM MS) [.view Ai (l.map Ag),I l.length,I i]=some (2,[])/\Fx (l.drop i)=2)
 |0,i,hi=>by
  right;refine⟨A_ ?_ (by simp),by rw[List.drop_of_length_le (by omega)];rfl⟩;rw[Qre];simp only[go_sem];rw[if_neg (by omega)]
 |k+1,i,hi=>by
  have hlt:i<l.length:=by omega
  have hr:=E4 hlt;rw[Vb hlt];have hs:=hS (itA l i);have hm:=hM (itA l i).kind;have hst:Kn MM MS [.view Ai (l.map Ag),I l.length,I i]=if AB (itA l i)then some (1,[B (decide (syI (itA l i)))])else some (0,[.view Ai (l.map Ag),I l.length,I (i+1:Nat)]):=by
   rw[Qre];simp only[Ag]at hs;have hin:(0:Int)<=(i:Int)/\(i:Int)<(l.length:Int):=by omega
   simp only[go_sem,List.length_map,Int.toNat_natCast,hr,hs,hm,if_pos hin];rw[if_pos (by omega),Ae (by omega)];by_cases h1:AB (itA l i)
   ·rw[if_pos (show 1<=(itA l i).kind/\(itA l i).kind<=6 from h1),if_pos h1]
   ·rw[if_neg (show¬(1<=(itA l i).kind/\(itA l i).kind<=6)from h1),if_neg h1];rfl
  unfold Fx;by_cases h10:AB (itA l i)
  ·rw[if_pos h10]at hst⊢;left;rw[A_ hst (by simp)];by_cases hsm:syI (itA l i)
   ·rw[if_pos hsm,decide_eq_true hsm];rfl
   ·rw[if_neg hsm,decide_eq_false hsm];rfl
  ·rw[if_neg h10]at hst⊢;rw[Bt hst];exact Qtq hM hS hl k (i+1) (by omega)
def I5 (aA:List Itm) (i:Nat):Prop:=(itA aA i).blend=0\/syI (itA aA i)\/Fx (aA.drop (i+1))=1
theorem Zb8 {MM MS:Fn} {aA:List Itm} (hM:∀k:Int,MM [I k]=some [B (decide (1<=k/\k<=6))]) (hS:∀it,MS (Ag it)=some [B (decide (syI it))]) (hl:aA.length<=1000000) {i:Nat} (hi:i<aA.length):
  Qf9 MM MS (An (Kn MM MS)) [.view Ai (aA.map Ag),I i]=some [B (decide (I5 aA i))]:=by
 have hr:=E4 hi;have hs:=hS (itA aA i);have hL:=Qtq hM hS (l:=aA.drop (i+1)) (by rw[List.length_drop];omega) (aA.drop (i+1)).length 0 (by omega);rw[List.drop_zero]at hL;rw[Zul];simp only[Ag]at hs;have hw:wrap .i64 ((i:Int)+1)=((i+1:Nat):Int):=by rw[Ae (by omega)];omega
 have hin:(0:Int)<=(i:Int)/\(i:Int)<(aA.length:Int):=by omega
 have hin3:(0:Int)<=((i+1:Nat):Int)/\((i+1:Nat):Int)<=(aA.length:Int):=by omega
 have hdl:(List.drop (i+1) (aA.map Ag)).length=(aA.drop (i+1)).length:=by rw[List.length_drop,List.length_drop,List.length_map]
 generalize An (Kn MM MS)=N at*;simp only[go_sem,List.length_map,Int.toNat_natCast,hr,hs,hw,if_pos hin,if_pos hin3,hdl];rw[<-List.map_drop];by_cases h2:(itA aA i).blend=0
 ·rw[if_pos h2,decide_eq_true (show I5 aA i from .inl h2)]
 ·rw[if_neg h2];by_cases h3:syI (itA aA i)
  ·rw[if_pos h3,decide_eq_true (show I5 aA i from .inr (.inl h3))]
  ·rw[if_neg h3];rcases hL with hL|⟨hL,hn⟩
   ·have hL':N [.view Ai ((aA.drop (i+1)).map Ag),I (aA.drop (i+1)).length,I 0]=some (1,[B (decide (Fx (aA.drop (i+1))=1))]):=hL;simp only[hL',go_sem];by_cases h4:Fx (aA.drop (i+1))=1
    ·rw[decide_eq_true h4,decide_eq_true (show I5 aA i from .inr (.inr h4))]
    ·rw[decide_eq_false h4,decide_eq_false (show¬I5 aA i from fun h=>h.elim h2 fun h=>h.elim h3 h4)]
   ·have hL':N [.view Ai ((aA.drop (i+1)).map Ag),I (aA.drop (i+1)).length,I 0]=some (2,[]):=hL;simp only[hL',go_sem];rw[decide_eq_false (show¬I5 aA i from fun h=>h.elim h2 fun h=>h.elim h3 fun h=>by rw[hn]at h;cases h)];simp
theorem Zva {aA:List Itm} (hl:aA.length<=1000000) {i:Nat} (hi:i<aA.length):O7 [.view Ai (aA.map Ag),I i]=some [B (decide (I5 aA i))]:=Zb8 Pv Q12 hl hi
def Ka (aA:List Itm) (i:Nat):Int:=if AB (itA aA i)then H6 aA i else KE (itA aA i)
theorem Zkd {ME MM:Fn} {aA:List Itm} {i:Nat} {aF:Rw} {aD:List Mrk} {st:Pt} {b:Bool} {len sp mid:Int} (hi:i<aA.length) (hml:aD.length<=1000000)
  (hM:MM [I (itA aA i).kind]=some [B (decide (AB (itA aA i)))]) (hE:ME [.view Ai (aA.map Ag),I i]=some [B (decide (I5 aA i))]):
  YA ME MM [.view Ah aF, .view AF (aD.map Aq), .view Ai (aA.map Ag),I i,I st.x,I st.y,I st.z,B b,I len,I sp,I mid]=
   some [.view Ah aF, .view AF ((aD++[(⟨len,Ka aA i,i⟩:Mrk)]).map Aq),I st.x,I st.y,I st.z,B b,I len,I sp,I mid]:=by
 have hr:=E4 hi;have hin:(0:Int)<=(i:Int)/\(i:Int)<(aA.length:Int):=by omega
 have hb:(aD.length+1)*24<=140737488355328:=by omega
 have e:∀k:Int,aD.map Aq++[[I len,I k,I i]]=(aD++[(⟨len,k,i⟩:Mrk)]).map Aq:=fun k=>by rw[List.map_append];rfl
 rw[Zds];simp only[go_sem,List.length_map,Int.toNat_natCast,hr,if_pos hin,hM,hE,List.length_append,List.length_cons,List.length_nil,if_pos hb];have fin:∀{k:Int},k=Ka aA i->some [AC.view Ah aF, .view AF (aD.map Aq++[[I len,I k,I i]]),I st.x,I st.y,I st.z,B b,I len,I sp,I mid]=some [.view Ah aF, .view AF ((aD++[(⟨len,Ka aA i,i⟩:Mrk)]).map Aq),I st.x,I st.y,I st.z,B b,I len,I sp,I mid]:=by
  intro k hk;rw[e,hk]
 unfold Ka H6 KE at fin⊢;by_cases c4:(itA aA i).kind=4
 ·rw[if_pos c4];have hm:AB (itA aA i):=⟨by omega,by omega⟩;exact fin (by rw[if_pos hm,if_pos c4])
 ·rw[if_neg c4];by_cases hm:AB (itA aA i)
  ·rw[if_pos hm];by_cases hx:I5 aA i
   ·rw[if_pos hx];refine fin ?_;rw[if_pos hm,if_neg c4];rcases hx with h|h|h
    ·rw[if_pos h]
    ·by_cases h2:(itA aA i).blend=0
     ·rw[if_pos h2]
     ·rw[if_neg h2,if_pos h]
    ·by_cases h2:(itA aA i).blend=0
     ·rw[if_pos h2]
     ·rw[if_neg h2];by_cases h3:syI (itA aA i)
      ·rw[if_pos h3]
      ·rw[if_neg h3,h]
   ·rw[if_neg hx,if_pos hm];refine fin ?_;rw[if_pos hm,if_neg c4,if_neg (fun h=>hx (.inl h)),if_neg (fun h=>hx (.inr (.inl h)))];have hns:∀l:List Itm,Fx l=1\/Fx l=2:=by
     intro l;induction l with
     |nil=>right;rfl
     |cons it l ih=>
      unfold Fx;split
      ·split<;>simp
      ·exact ih
    rcases hns (aA.drop (i+1))with h|h
    ·exact absurd (.inr (.inr h)) hx
    ·rw[h]
  ·rw[if_neg hm,if_neg hm];by_cases c10:(itA aA i).kind=10
   ·rw[if_pos c10];exact fin (by rw[if_neg hm,if_pos c10])
   ·rw[if_neg c10];by_cases c13:(itA aA i).kind=13
    ·rw[if_pos c13];exact fin (by rw[if_neg hm,if_neg c10,if_pos c13])
    ·rw[if_neg c13];exact fin (by rw[if_neg hm,if_neg c10,if_neg c13])
theorem Zob {aA:List Itm} (hl:aA.length<=1000000) {i:Nat} {aF:Rw} {aD:List Mrk} {st:Pt} {b:Bool} {len sp mid:Int} (hi:i<aA.length) (hml:aD.length<=1000000):
  Je [.view Ah aF, .view AF (aD.map Aq), .view Ai (aA.map Ag),I i,I st.x,I st.y,I st.z,B b,I len,I sp,I mid]=
   some [.view Ah aF, .view AF ((aD++[(⟨len,Ka aA i,i⟩:Mrk)]).map Aq),I st.x,I st.y,I st.z,B b,I len,I sp,I mid]:=
 Zkd hi hml (Pv _) (Zva hl hi)
end Go.Bm
namespace Go.Bm
open Classical
theorem Zlw (a:Pt) (aF:List Sgm):aF=[]\/∃l g,aF=l++[g]/\E_ a aF=g.to/\((aF.length:Int)>0)/\nth [] (aF.map Ay) (aF.length-1)=Ay g:=by
 rcases List.eq_nil_or_concat aF with h|⟨l,g,h⟩
 ·exact .inl h
 ·right;rw[List.concat_eq_append]at h;refine⟨l,g,h,?_,?_,?_⟩
  ·rw[h];exact S5 g a l
  ·rw[h];simp
  ·have hl:aF.length-1<aF.length:=by rw[h];simp
   rw[I_ _ _ _ _ hl];congr 1;subst h;simp
theorem Zgb {ML:Fn} {aD:Rw} {q g st:Pt} {gl item feed lead len sp mid:Int}:
  Tp ML [.view Ah [], .view AF aD,I q.x,I q.y,I q.z,I g.x,I g.y,I g.z,I gl,I item,I feed,I lead,I st.x,I st.y,I st.z,B false,I len,I sp,I mid]=
   some [.view Ah [], .view AF aD,I q.x,I q.y,I q.z,B true,I len,I sp,I mid]:=by
 rw[Qrs];simp
theorem Zzm {ML:Fn} {aF:List Sgm} {aD:Rw} {q g st at_:Pt} {gl item feed lead len sp mid:Int} (hat:E_ st aF=at_)
  (hL:ML [I at_.x,I at_.y,I at_.z,I q.x,I q.y,I q.z]=some [I (AE at_ q)]) (hl:0<=AE at_ q/\AE at_ q<=268435456) (hs:aF.length+1<=1048577) (hlen:0<=len/\len<=4000000000000000000):
  Tp ML [.view Ah (aF.map Ay), .view AF aD,I q.x,I q.y,I q.z,I g.x,I g.y,I g.z,I gl,I item,I feed,I lead,I st.x,I st.y,I st.z,B true,I len,I sp,I mid]=
   some [.view Ah ((A6 item feed lead (aF,len,at_) q).1.map Ay), .view AF aD,I st.x,I st.y,I st.z,B true,I (A6 item feed lead (aF,len,at_) q).2.1,I sp,I mid]:=by
 have hap:(aF.map Ay++[[I q.x,I q.y,I q.z,I (AE at_ q),I item,I feed,I lead]])=(aF++[(⟨q,AE at_ q,item,feed,lead⟩:Sgm)]).map Ay:=by rw[List.map_append];rfl
 rw[Qrs];try dsimp only[go_sem]
 rcases Zlw st aF with h|⟨l,s,h1,h2,h3,h4⟩
 ·subst h;have hat':st=at_:=hat;subst hat';simp only[List.map_nil,List.length_nil];rw[AZ (by decide),Bool.not_true,cond_false];by_cases c:q=st
  ·have c4:=DS.1 c;rw[BO (by simp[c4.1,c4.2.1,c4.2.2]),show A6 item feed lead ([],len,st) q=([],len,st)from if_pos c];rfl
  ·rw[Bn,hL]
   ·simp only[Option.bind_some,HC,Hl,gA,jA,wA,bA,List.nil_append,List.length_cons,List.length_nil];rw[BO (by decide),show A6 item feed lead ([],len,st) q=([⟨q,AE st q,item,feed,lead⟩],len+AE st q,q)from if_neg c,Ae (by omega)];rfl
   ·have c2: ¬(q.x=st.x/\q.y=st.y/\q.z=st.z):=fun g=>c (DS.2 g);simp only[Bool.and_true,Bool.and_eq_false_iff,beq_eq_false_iff_ne];omega
 ·rw[hat]at h2;have w1:wrap .i64 ((aF.length:Int)-1)=((aF.length-1:Nat):Int):=by rw[Ae (by omega)];omega
  have hin:(0:Int)<=((aF.length-1:Nat):Int)/\((aF.length-1:Nat):Int)<(aF.length:Int):=by omega
  rw[h2]at hL hap⊢;clear h1;simp only[go_sem,List.length_map,w1,Int.toNat_natCast,h4,if_pos h3,if_pos hin,hL,List.length_append,List.length_cons,List.length_nil];rw[if_neg (by simp)];by_cases c:q=s.to
  ·have c4:=DS.1 c;rw[if_pos ⟨c4.1,c4.2.1,c4.2.2,trivial⟩,show A6 item feed lead (aF,len,s.to) q=(aF,len,s.to)from if_pos c]
  ·rw[if_neg (fun g=>c (DS.2 ⟨g.1,g.2.1,g.2.2.1⟩)),if_pos (by omega),show A6 item feed lead (aF,len,s.to) q=(aF++[⟨q,AE s.to q,item,feed,lead⟩],len+AE s.to q,q)from if_neg c,Ae (by rw[<-h2]at*;omega),hap]
noncomputable def DJ (it:Itm) (item feed lead:Int) (s:(List Sgm×Int×Pt)×Int) (q:Pt):(List Sgm×Int×Pt)×Int:=
 (A6 item feed lead s.1 q,if smI it/\q=Ba it then(A6 item feed lead s.1 q).2.1 else s.2)
theorem Qnh {it:Itm} {item feed lead:Int}:∀(pts:List Pt) (s:(List Sgm×Int×Pt)×Int),(pts.foldl (DJ it item feed lead) s).1=pts.foldl (A6 item feed lead) s.1
 |[],_=>rfl
 |q::pts,s=>by rw[List.foldl_cons,List.foldl_cons,Qnh pts];rfl
theorem Q09 {MM MSm MA MP MG MR:Fn} {it:Itm} {pts:List Pt} {j:Nat} (hj:j<pts.length) (hpl:pts.length<=1000000) {aF segs':Rw} {aD:Rw} {g st st':Pt} {b b':Bool} {gl item feed lead len len' sp mid:Int}
  (hM:MSm (Ag it)=some [B (decide (smI it))]) (hC:MM (Ag it)=some (ptR (Ba it)))
  (hA:MA [.view Ah aF, .view AF aD,I pts[j].x,I pts[j].y,I pts[j].z,I g.x,I g.y,I g.z,I gl,I item,I feed,I lead,I st.x,I st.y,I st.z,B b,I len,I sp,I mid]=some [.view Ah segs', .view AF aD,I st'.x,I st'.y,I st'.z,B b',I len',I sp,I mid]):
  LT MM MSm MA MP MG MR (.view Ah aF:: .view AF aD:: .view kPt (pts.map ptR)::I pts.length::I j::(Ag it++[I g.x,I g.y,I g.z,I gl,I item,I feed,I lead,I st.x,I st.y,I st.z,B b,I len,I sp,I mid]))=
   some (0, .view Ah segs':: .view AF aD:: .view kPt (pts.map ptR)::I pts.length::I (j+1:Nat)::(Ag it++[I g.x,I g.y,I g.z,I gl,I item,I feed,I lead,I st'.x,I st'.y,I st'.z,B b',I len',I sp,I (if smI it/\pts[j]=Ba it then len' else mid)])):=by
 have hr:nth [] (pts.map ptR) j=ptR pts[j]:=I_ _ _ _ _ hj;have hin:(0:Int)<=(j:Int)/\(j:Int)<(pts.length:Int):=by omega
 have hw:wrap .i64 ((j:Int)+1)=((j+1:Nat):Int):=by rw[Ae (by omega)];omega
 generalize pts[j]=q at*;simp only[Ag]at hM hC;simp only[Ag,List.cons_append,List.nil_append];rw[Qx2];simp only[go_sem,List.length_map,Int.toNat_natCast,hr,if_pos hin,hA,hM,hC,hw];rw[if_pos (by omega)];by_cases c:smI it
 ·rw[if_pos c];by_cases c2:q=Ba it
  ·have c3:=DS.1 c2;rw[if_pos ⟨c3.1,c3.2.1,c3.2.2,trivial⟩,if_pos ⟨c,c2⟩]
  ·rw[if_neg (fun h=>c2 (DS.2 ⟨h.1,h.2.1,h.2.2.1⟩)),if_neg (fun h=>c2 h.2)]
 ·rw[if_neg c,if_neg (fun h=>c h.1)]
theorem Qla {MM MSm MA MP MG MR:Fn} {it:Itm} {pts:List Pt} (hpl:pts.length<=1000000) {aD:Rw} {g st:Pt} {gl item feed lead sp:Int} (hst:bd 67108864 st) (hpts:∀p∈pts,bd 67108864 p)
  (hM:MSm (Ag it)=some [B (decide (smI it))]) (hC:MM (Ag it)=some (ptR (Ba it)))
  (hA : ∀ {aF : List Sgm} {q at_ : Pt} {len mid : Int}, E_ st aF = at_ -> bd 67108864 at_ -> bd 67108864 q -> aF.length + 1 <= 1048577 -> (0 <= len /\ len <= 4000000000000000000) ->
   MA [.view Ah (aF.map Ay), .view AF aD,I q.x,I q.y,I q.z,I g.x,I g.y,I g.z,I gl,I item,I feed,I lead,I st.x,I st.y,I st.z,B true,I len,I sp,I mid]=
   some [.view Ah ((A6 item feed lead (aF,len,at_) q).1.map Ay), .view AF aD,I st.x,I st.y,I st.z,B true,I (A6 item feed lead (aF,len,at_) q).2.1,I sp,I mid]):
  ∀(k j:Nat) (s:List Sgm×Int×Pt) (mid:Int),j+k=pts.length->s.1.length+k<=1048576->0<=s.2.1->s.2.1+k*268435456<=4000000000000000000->bd 67108864 s.2.2->E_ st s.1=s.2.2->
  An (LT MM MSm MA MP MG MR) (.view Ah (s.1.map Ay):: .view AF aD:: .view kPt (pts.map ptR)::I pts.length::I j::(Ag it++[I g.x,I g.y,I g.z,I gl,I item,I feed,I lead,I st.x,I st.y,I st.z,B true,I s.2.1,I sp,I mid]))=
   some (1,[.view Ah (((pts.drop j).foldl (DJ it item feed lead) (s,mid)).1.1.map Ay), .view AF aD,I st.x,I st.y,I st.z,B true,I ((pts.drop j).foldl (DJ it item feed lead) (s,mid)).1.2.1,I sp,I ((pts.drop j).foldl (DJ it item feed lead) (s,mid)).2])
 |0,j,s,mid,hj,_,_,_,_,_=>by
  refine A_ ?_ (by simp);simp only[Ag,List.cons_append,List.nil_append];rw[Qx2,AZ (by omega),List.drop_of_length_le (by omega)];rfl
 |k+1,j,s,mid,hj,hs,hl0,hl1,hat,he=>by
  have hlt:j<pts.length:=by omega
  have hq:=hpts _ (List.getElem_mem hlt);obtain⟨aF,len,at_⟩:=s;simp only at hs hl0 hl1 hat he;have ha:=hA (q:=pts[j]) (mid:=mid) he hat hq (by omega) (by constructor<;>omega);have hstep:=Q09 (MP:=MP) (MG:=MG) (MR:=MR) hlt hpl hM hC ha;have hinv:E_ st (A6 item feed lead (aF,len,at_) pts[j]).1=(A6 item feed lead (aF,len,at_) pts[j]).2.2/\bd 67108864 (A6 item feed lead (aF,len,at_) pts[j]).2.2/\
    (A6 item feed lead (aF,len,at_) pts[j]).1.length<=aF.length+1/\0<=(A6 item feed lead (aF,len,at_) pts[j]).2.1/\(A6 item feed lead (aF,len,at_) pts[j]).2.1<=len+268435456:=by
   have hl:=HL hat hq;unfold A6;split
   ·exact⟨he,hat,by simp,hl0,by simp only;omega⟩
   ·refine⟨S5 _ _ _,hq,by simp,?_,?_⟩<;>simp only<;>omega
  rw[Bt hstep];obtain⟨i1,i2,i3,i4,i5⟩:=hinv;have:=Qla (MP:=MP) (MG:=MG) (MR:=MR) hpl hst hpts hM hC hA k (j+1) (A6 item feed lead (aF,len,at_) pts[j]) (if smI it/\pts[j]=Ba it then(A6 item feed lead (aF,len,at_) pts[j]).2.1 else mid) (by omega) (by omega) i4 (by omega) i2 i1;rw[this,Nt pts j hlt,List.foldl_cons];rfl
theorem Zsq {it:Itm} (h:Dt it):∃l,Ch it=Ax it.fr::l:=by
 unfold Ch;by_cases h3:it.kind=3
 ·rw[if_pos h3];unfold DL;rw[List.map_cons];refine⟨(Du it.dir 16 it.full (Eo it it.fr) (Eo it it.to)).map (IG it),?_⟩;congr 1;obtain⟨hp,-,hc,-⟩:=h.2.2.2 h3;obtain⟨f1,f2,f3⟩:=RB it.aG it.ce;unfold IG Eo;simp only[f1,f2];unfold dU dW;have e1:plU it.aG it.ce*16+(plU it.aG it.fr-plU it.aG it.ce)*16=plU it.aG it.fr*16:=by omega
  have e2:plW it.aG it.ce*16+(plW it.aG it.fr-plW it.aG it.ce)*16=plW it.aG it.fr*16:=by omega
  rw[e1,e2];unfold spP plU plW plH Ax;rcases hp with hp|hp|hp<;>rw[hp]<;>rfl
 ·rw[if_neg h3];exact⟨_,rfl⟩
theorem Q74 {aA:List Itm} {i:Nat} (h:Dt (itA aA i)):∃l,Cs aA i (-1)=Ax (itA aA i).fr::l:=by
 obtain⟨l,hl⟩:=Zsq h;unfold Cs;split
 ·unfold I1;rw[if_neg (by omega),hl];exact⟨_,rfl⟩
 ·exact⟨l,hl⟩
noncomputable def Ff (aA:List Itm) (i:Nat) (s:BSt) (mid:Int):(List Sgm×Int×Pt)×Int:=
 (Cs aA i s.frm).foldl (DJ (itA aA i) i (Hd (itA aA i) s.speed) (Nl (itA aA i))) ((s.aF,s.len,if s.begun=true then s.at_ else Ax (itA aA i).fr),mid)
theorem Qom (aA:List Itm) (i:Nat) (s:BSt) (mid:Int):(Ff aA i s mid).1=Fv aA i s:=by
 unfold Ff Fv;rw[Qnh]
theorem Zf1 {MM MSm MA MP MG MR:Fn} {aA:List Itm} {i:Nat} {s:BSt} {aD:Rw} {mid:Int} (hi:i<aA.length) (hlen:aA.length<=15) (hv:Dt (itA aA i)) (hok:BOK aA i s) (hinv:BInv s)
  (hpts:(∀p∈Cs aA i s.frm,bd 67108864 p)/\(Cs aA i s.frm).length<=65537)
  (hfeed:syI (itA aA i)->0<=(itA aA i).feed/\(itA aA i).feed<=60000000) (hfrm:s.begun=false->s.frm= -1)
  (hM:MSm (Ag (itA aA i))=some [B (decide (smI (itA aA i)))]) (hC:MM (Ag (itA aA i))=some (ptR (Ba (itA aA i))))
  (hG:MG (Ag (itA aA i))=some [B (decide (syI (itA aA i)))]) (hR:MR (Ag (itA aA i)++[I s.speed])=some [I (Hd (itA aA i) s.speed)])
  (hP:MP [.view Ai (aA.map Ag),I i,I s.frm]=some [.view kPt ((Cs aA i s.frm).map ptR)])
  (hA : ∀ {aF : List Sgm} {q g st at_ : Pt} {gl item feed lead len mid : Int}, E_ st aF = at_ -> bd 67108864 at_ -> bd 67108864 q -> aF.length + 1 <= 1048577 -> (0 <= len /\ len <= 4000000000000000000) ->
   MA [.view Ah (aF.map Ay), .view AF aD,I q.x,I q.y,I q.z,I g.x,I g.y,I g.z,I gl,I item,I feed,I lead,I st.x,I st.y,I st.z,B true,I len,I s.speed,I mid]=
   some [.view Ah ((A6 item feed lead (aF,len,at_) q).1.map Ay), .view AF aD,I st.x,I st.y,I st.z,B true,I (A6 item feed lead (aF,len,at_) q).2.1,I s.speed,I mid])
  (hA0 : ∀ {q g st : Pt} {gl item feed lead len mid : Int}, MA [.view Ah [], .view AF aD, I q.x, I q.y, I q.z, I g.x, I g.y, I g.z, I gl, I item, I feed, I lead, I st.x, I st.y, I st.z, B false, I len, I s.speed, I mid] =
   some [.view Ah [], .view AF aD,I q.x,I q.y,I q.z,B true,I len,I s.speed,I mid]):
  YX MM MSm MA MP MG MR (An (LT MM MSm MA MP MG MR)) [.view Ah (s.aF.map Ay), .view AF aD, .view Ai (aA.map Ag),I i,I s.frm,I s.start.x,I s.start.y,I s.start.z,B s.begun,I s.len,I s.speed,I mid]=
   some [.view Ah ((Ff aA i s mid).1.1.map Ay), .view AF aD,B true,I (if s.begun=true then s.start else Ax (itA aA i).fr).x,I (if s.begun=true then s.start else Ax (itA aA i).fr).y,I (if s.begun=true then s.start else Ax (itA aA i).fr).z,B true,I (Ff aA i s mid).1.2.1,I s.speed,I (Ff aA i s mid).2]:=by
 have hr:=E4 hi;have hin:(0:Int)<=(i:Int)/\(i:Int)<(aA.length:Int):=by omega
 have hsg:=hok.aF;have hln:=hok.len
 have hloop:∀lead feed:Int,An (LT MM MSm MA MP MG MR) (.view Ah (s.aF.map Ay):: .view AF aD:: .view kPt ((Cs aA i s.frm).map ptR)::I (Cs aA i s.frm).length::I (0:Nat)::(Ag (itA aA i)++[I (⟨0,0,0⟩:Pt).x,I (⟨0,0,0⟩:Pt).y,I (⟨0,0,0⟩:Pt).z,I 0,I i,I feed,I lead,I s.start.x,I s.start.y,I s.start.z,B s.begun,I s.len,I s.speed,I mid]))=
   some (1, [.view Ah (((Cs aA i s.frm).foldl (DJ (itA aA i) i feed lead) ((s.aF, s.len, if s.begun = true then s.at_ else Ax (itA aA i).fr), mid)).1.1.map Ay), .view AF aD, I (if s.begun = true then s.start else Ax (itA aA i).fr).x, I (if s.begun = true then s.start else Ax (itA aA i).fr).y, I (if s.begun = true then s.start else Ax (itA aA i).fr).z, B true,
    I ((Cs aA i s.frm).foldl (DJ (itA aA i) i feed lead) ((s.aF,s.len,if s.begun=true then s.at_ else Ax (itA aA i).fr),mid)).1.2.1,I s.speed,I ((Cs aA i s.frm).foldl (DJ (itA aA i) i feed lead) ((s.aF,s.len,if s.begun=true then s.at_ else Ax (itA aA i).fr),mid)).2]):=by
  intro lead feed;by_cases hb:s.begun=true
  ·obtain⟨g1,g2⟩:=hinv.begun hb;obtain⟨g3,g4,g5⟩:=g2;rw[if_pos hb,if_pos hb,hb];have:=Qla (MP:=MP) (MG:=MG) (MR:=MR) (g:=⟨0,0,0⟩) (gl:=0) (item:=i) (feed:=feed) (lead:=lead) (by omega) g1 hpts.1 hM hC (fun h1 h2 h3 h4 h5=>hA h1 h2 h3 h4 h5) (Cs aA i s.frm).length 0 (s.aF,s.len,s.at_) mid (by omega) (by simp only;omega) hln.1 (by simp only;omega) (hok.at_ hb) g4;rw[List.drop_zero]at this;exact this
  ·have hb2:s.begun=false:=by simpa using hb
   obtain⟨e1,e2,e3⟩:=hinv.empty hb2;obtain⟨l,hl⟩:=Q74 hv;have hfr:bd 67108864 (Ax (itA aA i).fr):=AW (Fg hv.2.1) (by decide);rw[if_neg hb,if_neg hb,hb2,e1];rw[hfrm hb2,hl]at hpts⊢;have h0:0<(Ax (itA aA i).fr::l).length:=by simp
   have hstep:=Q09 (MP:=MP) (MG:=MG) (MR:=MR) h0 (by omega) hM hC (hA0 (q:=Ax (itA aA i).fr) (g:=⟨0,0,0⟩) (st:=s.start) (gl:=0) (item:=i) (feed:=feed) (lead:=lead) (len:=s.len) (mid:=mid));rw[List.map_nil,Bt hstep];have:=Qla (MP:=MP) (MG:=MG) (MR:=MR) (g:=⟨0,0,0⟩) (gl:=0) (item:=i) (feed:=feed) (lead:=lead) (by omega) hfr hpts.1 hM hC (fun h1 h2 h3 h4 h5=>hA h1 h2 h3 h4 h5) l.length 1 ([],s.len,Ax (itA aA i).fr) (if smI (itA aA i)/\Ax (itA aA i).fr=Ba (itA aA i)then s.len else mid) (by simp;omega) (by simp only[List.length_nil];simp at hpts;omega) hln.1 (by simp only;simp at hpts;omega) hfr rfl;rw[List.drop_succ_cons,List.drop_zero]at this;rw[List.foldl_cons];have e4:DJ (itA aA i) i feed lead (([],s.len,Ax (itA aA i).fr),mid) (Ax (itA aA i).fr)=(([],s.len,Ax (itA aA i).fr),if smI (itA aA i)/\Ax (itA aA i).fr=Ba (itA aA i)then s.len else mid):=by
    unfold DJ;rw[show A6 i feed lead ([],s.len,Ax (itA aA i).fr) (Ax (itA aA i).fr)=([],s.len,Ax (itA aA i).fr)from if_pos rfl]
   rw[e4];exact this
 have hcount:∀lead feed:Int,((Cs aA i s.frm).foldl (DJ (itA aA i) i feed lead) ((s.aF,s.len,if s.begun=true then s.at_ else Ax (itA aA i).fr),mid)).1.1.length<=1048576:=by
  intro lead feed;rw[Qnh];have hat:bd 67108864 (if s.begun=true then s.at_ else Ax (itA aA i).fr):=by
   split
   ·rename_i hb;exact hok.at_ hb
   ·exact AW (Fg hv.2.1) (by decide)
  have:=(RO (item:=i) (feed:=feed) (lead:=lead) (Cs aA i s.frm) (s.aF,s.len,if s.begun=true then s.at_ else Ax (itA aA i).fr) hpts.1 hat hln.1).1;simp only at this⊢;omega
 generalize An (LT MM MSm MA MP MG MR)=N at*;have hlp:=fun lead feed=>hloop lead feed;simp only[Ag,List.cons_append,List.nil_append]at hG hR hlp;rw[Zsy];simp only[go_sem,List.length_map,Int.toNat_natCast,hr,if_pos hin,hG,hR,hP];have h00:((0:Nat):Int)=0:=rfl;simp only[h00]at hlp;unfold Ff Nl;by_cases hs:syI (itA aA i)
 ·have hf:=hfeed hs;rw[if_pos hs];simp only[if_pos hs];rw[Ae (by omega)];simp only[hlp,go_sem,List.length_map];rw[decide_eq_true (show((_:Nat):Int)<=1048576 from by have:=hcount (mn ((itA aA i).feed*16) 16777216) (Hd (itA aA i) s.speed);omega)]
 ·rw[if_neg hs];simp only[if_neg hs];simp only[hlp,go_sem,List.length_map];rw[decide_eq_true (show((_:Nat):Int)<=1048576 from by have:=hcount 0 (Hd (itA aA i) s.speed);omega)]
end Go.Bm
