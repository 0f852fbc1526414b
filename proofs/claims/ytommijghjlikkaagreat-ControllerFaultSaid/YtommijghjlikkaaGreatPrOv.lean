/- laid together -/
import Derived.Test.YtommijghjlikkaaGreatPrLb
import Derived.Test.YtommijghjlikkaaGreatMx2
import Derived.Test.YtommijghjlikkaaGreatPrAtF
set_option linter.unusedVariables false
set_option linter.unusedSimpArgs false
set_option maxRecDepth 100000
noncomputable section
open Go.IntKind (wrap)
namespace Go.Bm
def AE (a k v x:Int):List Int×Bool:=if Cj a k v x/\(Bz a k 4096 v x).2=true then((Bz a k 4096 v x).1,true)else([],false)
theorem Q8u {MB MR MV:Fn} {a k c:Int} (hp:Plan3 a k c) (hB:∀{v x:Int},Cj a k v x->MB [I a,I k,I c,I v,I x]=some [I (AA a k v x)]):∀(n:Nat) (pre:List Int) (v x:Int),pre.length+n=4096->Cj a k v x->
  An (HM MB MR MV) [.view Aa (pre.map Ap),I v,I x,I a,I k,I c]=if(Bz a k n v x).2=true then some (2,[.view Aa ((pre++(Bz a k n v x).1).map Ap)])else some (1,[B false]):=by
 have fin:∀(n:Nat) (pre:List Int) (v x:Int),v<=0->An (HM MB MR MV) [.view Aa (pre.map Ap),I v,I x,I a,I k,I c]=if(Bz a k n v x).2=true then some (2,[.view Aa ((pre++(Bz a k n v x).1).map Ap)])else some (1,[B false]):=fun n pre v x h=>by
  have e:Bz a k n v x=([],true):=by
   cases n with
   |zero=>show([],decide (v<=0))=([],true);rw[decide_eq_true h]
   |succ n=>unfold Bz;rw[if_pos h]
  rw[e,if_pos rfl];refine A5 ?_ (by simp);rw[P7,Ba (decide_eq_false (by omega)),List.append_nil]
 intro n;induction n with
 |zero=>
  intro pre v x hl hr;by_cases h:v<=0
  ·exact fin 0 pre v x h
  ·have e:Bz a k 0 v x=([],false):=by show([],decide (v<=0))=([],false);rw[decide_eq_false h]
   rw[e,if_neg (by simp)];refine A5 ?_ (by simp);rw[P7,Br (decide_eq_true (by omega)),Br (beT (by rw[List.length_map];omega))]
 |succ n ih=>
  intro pre v x hl hr;by_cases h:v<=0
  ·exact fin (n+1) pre v x h
  ·have hc:=closed hp hr;have hrg:=FD hp hr;have hrg2:=FD hp hc.1;have hs:=P7 MB MR MV (pre.map Ap) v x a k c;rw[Br (decide_eq_true (by omega)),Ba (beF (by rw[List.length_map];omega)),hB hr]at hs;have hw:wrap .i64 (v+AA a k v x)=v+AA a k v x:=Ae (by omega);have hs2:HM MB MR MV [.view Aa (pre.map Ap),I v,I x,I a,I k,I c]=some (0,[.view Aa ((pre++[v+AA a k v x]).map Ap),I (v+AA a k v x),I (AA a k v x),I a,I k,I c]):=by
    refine hs.trans (eB rfl ?_);show cond ((List.length (pre.map Ap++[[I (wrap .i64 (v+AA a k v x))]])*8).ble 140737488355328) (some (0,[AC.view Aa (pre.map Ap++[[I (wrap .i64 (v+AA a k v x))]]),I (wrap .i64 (v+AA a k v x)),I (AA a k v x),I a,I k,I c])) none=_;rw[hw,CY (by simp;omega),List.map_append];rfl
   rw[Bv hs2,ih (pre++[v+AA a k v x]) _ _ (by simp;omega) hc.1];have e:Bz a k (n+1) v x=((v+AA a k v x)::(Bz a k n (v+AA a k v x) (AA a k v x)).1,(Bz a k n (v+AA a k v x) (AA a k v x)).2):=by
    show(if v<=0 then _ else _)=_;rw[if_neg h]
   rw[e];simp only[List.append_assoc,List.cons_append,List.nil_append]
theorem Ztm {MB MR MV:Fn} {a k c:Int} (hp:Plan3 a k c) (hB:∀{v x:Int},Cj a k v x->MB [I a,I k,I c,I v,I x]=some [I (AA a k v x)]) (hV:MV [I a,I k,I c]=some [B true])
  (hR:∀v x,MR [I a,I k,I c,I v,I x]=some [B (decide (Cj a k v x))]) (v x:Int):
  Qh MB MR MV (An (HM MB MR MV)) [I a,I k,I c,I v,I x]=some [.view Aa ((AE a k v x).1.map Ap),B (AE a k v x).2]:=by
 rw[Qn9];refine eB hV (eF rfl (eB (hR v x) ?_));unfold AE;refine eC (fun h=> ?_) fun h=> ?_
 ·have h: ¬Cj a k v x:=by
   intro q;have h:(!decide (Cj a k v x))=true:=h;rw[decide_eq_true q]at h;cases h
  rw[if_neg (fun w=>h w.1)];rfl
 ·have h:Cj a k v x:=by
   have h:(!decide (Cj a k v x))=false:=h;by_cases q:Cj a k v x
   ·exact q
   ·rw[decide_eq_false q]at h;cases h
  have hl:=Q8u (MR:=MR) (MV:=MV) hp hB 4096 [] v x (by simp) h;by_cases q:(Bz a k 4096 v x).2=true
  ·rw[if_pos q]at hl;rw[if_pos ⟨h,q⟩];exact eB hl rfl
  ·rw[if_neg q]at hl;rw[if_neg (fun w=>q w.2)];exact eB hl rfl
theorem Q17 {a k c:Int} (hp:Plan3 a k c) (v x:Int):J8 [I a,I k,I c,I v,I x]=some [.view Aa ((AE a k v x).1.map Ap),B (AE a k v x).2]:=
 Ztm hp (fun hr=>Qzh hp hr) (Q4b hp) (Zrr hp) v x
def Bk (u:Int):List Int->List Int
 |[]=>[]
 |v::l=>(u+v)::Bk (u+v) l
def Bt (u:Int):List Int->Int
 |[]=>u
 |v::l=>Bt (u+v) l
theorem Qte (v:Int):∀(u:Int) (l:List Int),Bk u (l++[v])=Bk u l++[Bt u l+v]
 |_,[]=>rfl
 |u,w::l=>by simp only[List.cons_append,Bk,Bt,Qte v (u+w) l]
theorem Qaq (v:Int):∀(u:Int) (l:List Int),Bt u (l++[v])=Bt u l+v
 |_,[]=>rfl
 |u,w::l=>by simp only[List.cons_append,Bt,Qaq v (u+w) l]
theorem Lq:∀(u:Int) (l:List Int),(Bk u l).length=l.length
 |_,[]=>rfl
 |u,w::l=>by simp[Bk,Lq (u+w) l]
theorem Qq4:∀(u:Int) (l:List Int),l≠[]->(Bk u l)[(Bk u l).length-1]? =some (Bt u l)
 |u,[v],_=>rfl
 |u,v::w::l,_=>by
  have h:=Qq4 (u+v) (w::l) (by simp);rw[Lq]at h⊢;simpa [Bk,Bt]using h
theorem Qqy {N:Int}:∀(u:Int) (l:List Int),(∀v∈l,0<=v/\v<=N)->u<=Bt u l/\Bt u l<=u+l.length*N
 |u,[],_=>by simp[Bt]
 |u,v::l,h=>by
  have h1:=h v (by simp);have h2:=Qqy (N:=N) (u+v) l fun w hw=>h w (by simp[hw]);simp only[Bt,List.length_cons];have e:((l.length+1:Nat):Int)*N=l.length*N+N:=by
   rw[Int.natCast_add,Int.add_mul];simp
  rw[e];omega
theorem Q01 {a k c:Int} (hp:Plan3 a k c):∀(n:Nat) (v x:Int),Cj a k v x->(Bz a k n v x).1.length<=n/\∀w∈(Bz a k n v x).1,0<=w/\w<=16777216
 |0,v,x,_=>⟨by simp[Bz],fun w h=>by simp[Bz]at h⟩
 |n+1,v,x,h=>by
  have hc:=closed hp h;have h2:=FD hp hc.1;have ih:=Q01 hp n _ _ hc.1;unfold Bz;by_cases q:v<=0
  ·rw[if_pos q];exact⟨by simp,fun w h=>by cases h⟩
  ·rw[if_neg q];refine⟨by simp only[List.length_cons];omega,fun w hw=> ?_⟩;rcases List.mem_cons.1 hw with rfl|hw
   ·omega
   ·exact ih.2 w hw
theorem QB {a k c:Int} (hp:Plan3 a k c) (v x:Int):(AE a k v x).1.length<=4096/\∀w∈(AE a k v x).1,0<=w/\w<=16777216:=by
 unfold AE;split
 ·rename_i h;exact Q01 hp 4096 v x h.1
 ·exact⟨by simp,fun w h=>by cases h⟩
theorem Zkh {α:Type} (l:List α) (x y:α) (r:List α):(l++x::r).set l.length y=l++y::r:=by
 rw[List.set_append_right _ _ (Nat.le_refl _)];simp
theorem Z3g {M:Fn} {sp:List Int} {u:Int} (hu: -1000000000000000<=u/\u<=1000000000000000) (hl:sp.length<=4096) (hsp:∀v∈sp,0<=v/\v<=16777216):
  An (Ht M) [.view Aa (List.replicate sp.length [I 0]),I u, .view Aa (sp.map Ap),I sp.length,I 0]=some (1,[.view Aa ((Bk u sp).map Ap)]):=by
 have key:Out (fun o=>o=(1,[.view Aa ((Bk u sp).map Ap)])) (An (Ht M) [.view Aa ((Bk u (sp.take 0)).map Ap++List.replicate (sp.length-0) [I 0]),I (Bt u (sp.take 0)), .view Aa (sp.map Ap),I sp.length,I ((0:Nat):Int)]):=by
  refine Cr (fun i:Nat=>[.view Aa ((Bk u (sp.take i)).map Ap++List.replicate (sp.length-i) [I 0]),I (Bt u (sp.take i)), .view Aa (sp.map Ap),I sp.length,I (i:Int)]) (fun i=>i<=sp.length) (fun i=>sp.length-i) _ ?_ 0 (by simp);intro i hi;rw[Qc0];refine .cond (fun c=> ?_) fun c=> ?_
  ·have c:(i:Int)<(sp.length:Int):=Bg c;have hi:i<sp.length:=by omega
   refine .cond (fun _=> ?_) fun e=>(inB (by omega) (by rw[List.length_map];exact c) e).elim;refine .cond (fun _=> ?_) fun e=>(inB (by omega) (by simp[Lq];omega) e).elim;have er:nth [] (sp.map Ap) (i:Int).toNat=Ap sp[i]:=by
    rw[Int.toNat_natCast,GX [] _ i (by rw[List.length_map];exact hi),List.getElem_map]
   have eb:=Qqy (N:=16777216) u (sp.take i) fun v hv=>hsp v (List.mem_of_mem_take hv);rw[List.length_take_of_le (by omega)]at eb;have hv:=hsp _ (List.getElem_mem hi);have et:sp.take (i+1)=sp.take i++[sp[i]]:=by
    rw[List.take_add_one,List.getElem?_eq_getElem hi];rfl
   rw[er];show Out _ (some (0,[AC.view Aa (((Bk u (sp.take i)).map Ap++List.replicate (sp.length-i) [I 0]).set (i:Int).toNat [I (wrap .i64 (Bt u (sp.take i)+sp[i]))]),I (wrap .i64 (Bt u (sp.take i)+sp[i])), .view Aa (sp.map Ap),I sp.length,I (wrap .i64 ((i:Int)+1))]));rw[Ae (x:=Bt u (sp.take i)+sp[i]) (by omega),Ae (x:=(i:Int)+1) (by omega),Int.toNat_natCast];refine .some (.inl ⟨rfl,i+1,?_,by omega,by omega⟩);have el:((Bk u (sp.take i)).map Ap).length=i:=by rw[List.length_map,Lq,List.length_take_of_le (by omega)]
   have es:sp.length-i=(sp.length-(i+1))+1:=by omega
   rw[et,Qte,Qaq,es,List.replicate_succ,List.map_append];have:=Zkh ((Bk u (sp.take i)).map Ap) [I 0] [I (Bt u (sp.take i)+sp[i])] (List.replicate (sp.length-(i+1)) [I 0]);rw[el]at this;rw[this];simp;rfl
  ·have c: ¬(i:Int)<(sp.length:Int):=Bf c;refine .some (.inr ⟨by simp,?_⟩);rw[List.take_of_length_le (by omega),show sp.length-i=0 by omega];simp
 obtain⟨o,h1,rfl⟩:=key;exact h1
theorem Zay {M:Fn} {a k c v x:Int} (hS:M [I a,I k,I c,I v,I x]=some [.view Aa ((AE a k v x).1.map Ap),B (AE a k v x).2]) (hb:(AE a k v x).1.length<=4096/\∀w∈(AE a k v x).1,0<=w/\w<=16777216)
  {u:Int} (hu: -1000000000000000<=u/\u<=1000000000000000) (x6 x7 x8:Int) (hz:(AE a k v x).2=false->(AE a k v x).1=[]):
  L2 M (An (Ht M)) [I a,I k,I c,I u,I v,I x,I x6,I x7,I x8]=some [.view Aa ((Bk u (AE a k v x).1).map Ap),B (AE a k v x).2]:=by
 rw[R8];generalize AE a k v x=z at*;refine eB hS (eC (fun h=> ?_) fun h=> ?_)
 ·have h:z.2=false:=by simpa [bA,nth,CV]using h
  rw[h,hz h];rfl
 ·have h:z.2=true:=by simpa [bA,nth,CV]using h
  refine eT (decide_eq_true rfl) (eT ?_ ?_)
  ·show(decide (0<=((z.1.map Ap).length:Int))&&decide (((z.1.map Ap).length:Int)*8<=140737488355328))=true;rw[List.length_map,decide_eq_true (show(0:Int)<=(z.1.length:Int) by omega),decide_eq_true (show(z.1.length:Int)*8<=140737488355328 by omega)];rfl
  ·have hl:=Z3g (M:=M) hu hb.1 hb.2;refine Eq.trans (congrArg (fun q=>Option.bind q _) (show An (Ht M) [.view Aa (List.replicate ((z.1.map Ap).length:Int).toNat [I 0]),I u, .view Aa (z.1.map Ap),I (z.1.map Ap).length,I 0]=some (1,[.view Aa ((Bk u z.1).map Ap)])from by rw[List.length_map,Int.toNat_natCast];exact hl)) ?_;rw[h];rfl
theorem Qd0 {a k c:Int} (hp:Plan3 a k c) {u:Int} (hu: -1000000000000000<=u/\u<=1000000000000000) (v x x6 x7 x8:Int):
  Do [I a,I k,I c,I u,I v,I x,I x6,I x7,I x8]=some [.view Aa ((Bk u (AE a k v x).1).map Ap),B (AE a k v x).2]:=
 Zay (Q17 hp v x) (QB hp v x) hu x6 x7 x8 fun h=>by
  unfold AE at h⊢;split at h
  ·cases h
  ·rename_i q;rw[if_neg q]
end Go.Bm
noncomputable section
namespace Go.Bm
def Jk (j:Int) (l:Rw):Prop:=∀r∈l,-j<=gA r 0/\gA r 0<=j
theorem Jk.snoc {j:Int} {l:Rw} {r:List AC} (h:Jk j l) (hr: -j<=gA r 0/\gA r 0<=j):Jk j (l++[r]):=fun x hx=>by
 rcases List.mem_append.1 hx with hx|hx
 ·exact h x hx
 ·rw[List.mem_singleton]at hx;subst hx;exact hr
theorem Zwt {j:Int} (hj:0<=j/\j<=65536):Out (fun o=>o.1=1/\(wA o.2 0).length<=65536/\Jk j (wA o.2 0)) (An PK [.view Aa [],I j]):=by
 refine Cr (fun s:Rw×Int=>[.view Aa s.1,I s.2]) (fun s=>0<=s.2/\s.2<=j/\s.1.length+s.2<=65536/\Jk j s.1) (fun s=>s.2.toNat) _ ?_ ([],j) ⟨hj.1,Int.le_refl _,by simp;omega,fun r h=>by cases h⟩;rintro⟨v,k⟩ ⟨g1,g0,g2,g3⟩;dsimp only at g0 g1 g2 g3;rw[Ztt,Int.tdiv_eq_ediv_of_nonneg g1,Ae (x:=k/2) (by omega)];refine .cond (fun c=> ?_) (fun c=> ?_)
 ·have c:=Bg c;refine .cond (fun _=> ?_) fun c=>by rw[CY (by simp;omega)]at c;cases c
  exact .some (.inl ⟨rfl,(v++[[I k]],k/2),rfl,⟨by dsimp only;omega,by dsimp only;omega,by simp;omega,g3.snoc (by show-j<=k/\k<=j;omega)⟩,by dsimp only;omega⟩)
 ·exact .some (.inr ⟨by simp,rfl,by show v.length<=65536;omega,g3⟩)
theorem Zhy {j:Int} {N:Lp} {up out:Rw} (hj:0<=j/\j<=65536) (h1:up.length<=65536) (hu:Jk j up) (h2:out.length=up.length+1) (ho:Jk j out):Out (fun o=>o.1=1/\(wA o.2 0).length<=140000/\Jk j (wA o.2 0)) (An (SX N) [.view Aa up, .view Aa out,I ((up.length:Int)-1)]):=by
 refine Cr (fun s:Rw×Int=>[.view Aa up, .view Aa s.1,I s.2]) (fun s=> -1<=s.2/\s.2<up.length/\s.1.length+s.2<=2*up.length/\Jk j s.1) (fun s=>(s.2+1).toNat) _ ?_ (out,(up.length:Int)-1) ⟨by simp only;omega,by simp only;omega,by simp only;omega,ho⟩;rintro⟨v,k⟩ ⟨g1,g2,g3,g4⟩;dsimp only at g1 g2 g3 g4;rw[Zh6,Ae (x:=k-1) (by omega)];refine .cond (fun c=> ?_) (fun c=> ?_)
 ·have c:=Bg c;refine .cond (fun _=> ?_) fun c=>by simp at c;omega
  refine .cond (fun _=> ?_) fun c=>by rw[CY (by simp;omega)]at c;cases c
  have hk: -j<=gA (nth [] up k.toNat) 0/\gA (nth [] up k.toNat) 0<=j:=by
   rw[GX [] up k.toNat (by omega)];exact hu _ (List.getElem_mem _)
  exact .some (.inl ⟨rfl,(_,k-1),rfl,⟨by dsimp only;omega,by dsimp only;omega,by simp;omega,g4.snoc (by show-j<=wrap .i64 (0-gA (nth [] up k.toNat) 0)/\wrap .i64 (0-gA (nth [] up k.toNat) 0)<=j;rw[Ae (by omega)];omega)⟩,by dsimp only;omega⟩)
 ·have c:=Bf c;exact .some (.inr ⟨by simp,rfl,by show v.length<=140000;omega,g4⟩)
theorem Q3w {j:Int} (hj:0<=j/\j<=65536):Out (fun o=>(wA o 0).length<=140000/\Jk j (wA o 0)) (Nt [I j]):=by
 show Out _ (Z0 (An PK) (An (SX (An PK))) [I j]);rw[Zu7];refine .bind (Zwt hj) fun o g=> ?_;rw[g.1];obtain⟨-,g2,g3⟩:=g;generalize wA o.2 0=up at*;refine .cond (fun _=> ?_) fun c=>by simp at c
 refine .cond (fun _=> ?_) fun c=>by rw[CY (by simp;omega)]at c;cases c
 refine .cond (fun _=> ?_) fun c=>by rw[CY (by simp;omega)]at c;cases c
 rw[Ae (x:=(up.length:Int)-1) (by omega)];refine .bind (Zhy hj g2 g3 (by simp) (by rw[List.nil_append];exact g3.snoc (by show-j<=0/\0<=j;omega))) fun o g=> ?_;rw[g.1];exact .some g.2
def P6 (m0 m1 m3 m4:Int) (Q R:Int->Prop) (o:List AC):Prop:=∃v:Int,o=EH m0 m1 m3 m4 v/\(Q v\/∃r:Int,v=wrap .i64 (m1+r)/\R r)
theorem Qvw {MB MS MF MM MR MC:Fn} {p:Pth} {x:Ax3} {t:Trk} {a b c o0 o1:Int} {b0 b1 b2:Bool} (hb:0<=b/\b<=65536) {m0 m1 m2 m3 m4 m5 l:Int} {Q R F:Int->Prop}
  (hB:Out (fun o=>∃r:Int,o=[I r]/\R r) (MB [I a,I b,I c,I m1,I m2]))
  (hS:∀v:Int,0<=v->F v->(∃k:Int,-b<=k/\k<=b/\v=wrap .i64 (m1+wrap .i64 (m2+k)))->Out (fun o=>bA o 0=true->Q v) (MS (pxt p x t [I a,I b,I c,I (wrap .i64 (m0+v)),I v,I (wrap .i64 (v-m1)),I m0,I m3,I m4,I l])))
  (hF:∀v:Int,Out (fun o=>bA o 0=true->F v) (MF (Df p t [I a,I b,I c,I o0,I o1,B b0,B b1,B b2,I (wrap .i64 (m0+v)),I v,I (wrap .i64 (v-m1)),I m0,I m3,I m4])))
  (hM:∀m0 m1 m2 m3 m4 m5 v,MM [I m0,I m1,I m2,I m3,I m4,I m5,I v]=some (EH m0 m1 m3 m4 v))
  (hR:∀a b c v x,(MR [I a,I b,I c,I v,I x]).isSome=true)
  (hC:∀j,0<=j/\j<=65536->Out (fun o=>(wA o 0).length<=140000/\Jk j (wA o 0)) (MC [I j])):
  Out (P6 m0 m1 m3 m4 Q R) (Qlx MB MS MF MM MR MC (An (Qd1 MB MS MF MM MR MC)) (pxt p x t [I a,I b,I c,I o0,I o1,B b0,B b1,B b2,I m0,I m1,I m2,I m3,I m4,I m5,I l])):=by
 rw[Zbt];refine .bind (hC b hb) fun q h1=> ?_;obtain⟨h1,hJ⟩:=h1;generalize wA q 0=ch at*;refine .bind (p:=fun o=>o.1=1/\((∃v:Int,∃g0 g1 g2 g3 g4 g5:Int,o.2=B true::I a::I b::I c::I m0::I m1::I m2::I m3::I m4::I m5::I g0::I g1::I g2::I g3::I g4::I g5::EH m0 m1 m3 m4 v/\Q v)\/∃l:List AC,o.2=B false::I a::I b::I c::I m0::I m1::I m2::I m3::I m4::I m5::l)) ?_ fun o g=>by
  obtain⟨g,g2⟩:=g;rw[g];refine .cond (fun _=> ?_) fun c=>by simp at c
  rcases g2 with⟨v,g0,g1,g2,g3,g4,g5,e,hs⟩|⟨l',e⟩
  ·rw[e];refine .cond (fun _=> .some ⟨v,rfl, .inl hs⟩) fun c=>by simp[gA,wA,bA,jA,nth,CV]at c
  ·rw[e];refine .cond (fun c=>by simp[gA,wA,bA,jA,nth,CV]at c) fun _=> ?_;simp only[gA,wA,bA,jA,nth,Af];refine .bind hB fun o g=> ?_;obtain⟨r,rfl,hr⟩:=g;simp only[gA,wA,bA,jA,nth,Af];rw[hM];exact .some ⟨_,rfl, .inr ⟨r,rfl,hr⟩⟩
 refine Cr (fun s:Nat×(Int×Int×Int×Int×Int×Int)=>I l::B false:: .view Aa ch::I (ch.length:Int)::I (s.1:Int)::pxt p x t [I a,I b,I c,I o0,I o1,B b0,B b1,B b2,I m0,I m1,I m2,I m3,I m4,I m5,I 0,I 0,I 0,I 0,I 0,I 0,I s.2.1,I s.2.2.1,I s.2.2.2.1,I s.2.2.2.2.1,I s.2.2.2.2.2.1,I s.2.2.2.2.2.2])
  (fun s=>s.1<=ch.length) (fun s=>ch.length-s.1) _ ?_ (0,(0,0,0,0,0,0)) (by simp)
 rintro⟨i,f0,f1,f2,f3,f4,f5⟩ g;dsimp only at g;rw[Zgs];rw[Ae (x:=(i:Int)+1) (by omega)];refine .cond (fun c=> ?_) (fun c=> ?_)
 ·have c:=Bg c;refine .cond (fun _=> ?_) fun c=>by simp at c;omega
  refine .cond (fun _=> ?_) fun pos=> ?_
  ·exact .some (.inl ⟨rfl,(i+1,f0,f1,f2,f3,f4,f5),rfl,by dsimp only;omega,by dsimp only;omega⟩)
  ·have pos:=Bf pos;refine .ibind (hR _ _ _ _ _) fun _ _=> .cond (fun _=> ?_) fun _=> ?_
   ·exact .some (.inl ⟨rfl,(i+1,f0,f1,f2,f3,f4,f5),rfl,by dsimp only;omega,by dsimp only;omega⟩)
   ·have hk:∃k:Int,-b<=k/\k<=b/\wrap .i64 (m1+wrap .i64 (m2+gA (nth [] ch (i:Int).toNat) 0))=wrap .i64 (m1+wrap .i64 (m2+k)):=by
     have:=hJ _ (List.getElem_mem (show i<ch.length by omega));rw[Int.toNat_natCast,GX [] ch i (by omega)];exact⟨_,this.1,this.2,rfl⟩
    generalize wrap .i64 (m1+wrap .i64 (m2+gA (nth [] ch (i:Int).toNat) 0))=v at*;rw[hM];simp only[Option.bind_some,gA,wA,bA,jA,nth,Af];refine .bind (hF v) fun of fit=> .cond (fun cf=> ?_) fun _=> ?_
    ·refine .bind (hS v (by omega) (fit cf) hk) fun o hs=> .cond (fun c=> ?_) fun _=> ?_
     ·exact .some (.inr ⟨by simp,rfl, .inl ⟨v,0,0,0,0,0,0,rfl,hs c⟩⟩)
     ·exact .some (.inl ⟨rfl,(i+1,_,_,_,_,_,_),rfl,by dsimp only;omega,by dsimp only;omega⟩)
    ·exact .some (.inl ⟨rfl,(i+1,_,_,_,_,_,_),rfl,by dsimp only;omega,by dsimp only;omega⟩)
 ·exact .some (.inr ⟨by simp,rfl, .inr ⟨_,rfl⟩⟩)
theorem Zv3 {MS MF:Fn} {p:Pth} {x:Ax3} {t:Trk} {Q:Prop} (hS:∀{way:Rw},way.length<=100000->(MS (pxt p x t [.view Aa way])).isSome=true)
  {a b c m0 m1 m2 m3 m4 m5 l:Int} (hF:Out (fun o=>(wA o 0).length<=4096/\(bA o 1=true->Q)) (MF [I a,I b,I c,I m0,I m1,I m2,I m3,I m4,I m5])):
  Out (fun o=>bA o 0=true->Q) (XE MS MF (pxt p x t [I a,I b,I c,I m0,I m1,I m2,I m3,I m4,I m5,I l])):=by
 rw[Za7];refine .bind hF fun o h=> ?_;obtain⟨h2,hs⟩:=h;generalize wA o 0=sp at*;refine .cond (fun _=> .some fun h=>by simp[gA,wA,bA,jA,nth,CV]at h) fun c1=> ?_;have hs:=hs (by simpa using c1);refine .cond (fun c=> ?_) fun c=> ?_
 ·have c:=Bg c;rw[Ae (x:=(sp.length:Int)-1) (by omega)];refine .cond (fun _=> ?_) fun c=>by simp at c;omega
  generalize Af (nth .dead (nth [] sp ((sp.length:Int)-1).toNat) 0)=e;refine .cond (fun _=> .some fun _=>hs) fun _=> ?_;refine .cond (fun _=> ?_) fun c=>by rw[CY (by simp;omega)]at c;cases c
  refine .cond (fun _=> ?_) fun c=>by rw[CY (by simp;omega)]at c;cases c
  exact .ibind (hS (by simp;omega)) fun _ _=> .some fun _=>hs
 ·refine .cond (fun _=> .some fun _=>hs) fun _=> ?_;refine .cond (fun _=> ?_) fun c=>by rw[CY (by simp;omega)]at c;cases c
  refine .cond (fun _=> ?_) fun c=>by rw[CY (by simp;omega)]at c;cases c
  exact .ibind (hS (by simp;omega)) fun _ _=> .some fun _=>hs
theorem Zz9 {a k c:Int} (hp:Plan3 a k c) (u v x x6 x7 x8:Int):Out (fun o=>(wA o 0).length<=4096/\(bA o 1=true->(AE a k v x).2=true)) (Do [I a,I k,I c,I u,I v,I x,I x6,I x7,I x8]):=by
 have key:∀{M:Fn},M [I a,I k,I c,I v,I x]=some [.view Aa ((AE a k v x).1.map Ap),B (AE a k v x).2]->Out (fun o=>(wA o 0).length<=4096/\(bA o 1=true->(AE a k v x).2=true)) (L2 M (An (Ht M)) [I a,I k,I c,I u,I v,I x,I x6,I x7,I x8]):=by
  intro M hM;have hb:=QB hp v x;rw[R8];refine .bind (p:=fun o=>o=_) ⟨_,hM,rfl⟩ fun o e=> ?_;subst e;refine .cond (fun _=> .some ⟨by simp[wA,nth,BL],fun h=>by simp[bA,nth,CV]at h⟩) fun h=> ?_;have hz:(AE a k v x).2=true:=by simpa [bA,nth,CV]using h
  have hl:(wA [AC.view Aa ((AE a k v x).1.map Ap),B (AE a k v x).2] 0).length<=4096:=by
   show((AE a k v x).1.map Ap).length<=4096;rw[List.length_map];exact hb.1
  generalize wA [AC.view Aa ((AE a k v x).1.map Ap),B (AE a k v x).2] 0=sp at*;refine .cond (fun _=> ?_) fun c=>by simp at c
  refine .cond (fun _=> ?_) fun c=>by simp at c;omega
  refine .bind (Qrc (by simp) hl) fun o g=> ?_;rw[g.1];exact .some ⟨by show(wA o.2 0).length<=4096;omega,fun _=>hz⟩
 exact key (Q17 hp v x)
theorem WX {p:Pth} {x:Ax3} {t:Trk} (h:Fix p x t) {a b c:Int} (hp:Plan3 a b c) (m0 m1 m2 m3 m4 m5 l:Int):Out (fun o=>bA o 0=true->(AE a b m1 m2).2=true) (IP (pxt p x t [I a,I b,I c,I m0,I m1,I m2,I m3,I m4,I m5,I l])):=
 Zv3 (Zhl h) (Zz9 hp _ _ _ _ _ _)
theorem I8 {a k v x:Int}:(AE a k v x).2=true↔Cj a k v x/\(Bz a k 4096 v x).2=true:=by
 unfold AE;by_cases h:Cj a k v x/\(Bz a k 4096 v x).2=true
 ·rw[if_pos h];exact⟨fun _=>h,fun _=>rfl⟩
 ·rw[if_neg h];exact⟨fun q=>(by cases q),fun q=>absurd q h⟩
theorem Qfr {a k c v x:Int} (hp:Plan3 a k c) (h:(AE a k v x).2=true):(AE a k (v+AA a k v x) (AA a k v x)).2=true/\
  (AE a k v x).1=if v<=0 then []else(v+AA a k v x)::(AE a k (v+AA a k v x) (AA a k v x)).1:=by
 obtain⟨hr,hs⟩:=I8.1 h;have hc:=closed hp hr;have hrg:=FD hp hc.1;by_cases c0:v<=0
 ·have hv:v=0:=by have:=FD hp hr;omega
  have hb:AA a k v x=0:=by
   obtain⟨B,hB⟩:∃B,B=bs k v 20 (-x-k) (min (k-x) a):=⟨_,rfl⟩;obtain⟨q1,q2,q3,q4,q5,q6⟩:=R7 hp hr hB;have:=Hp (k:=k) (b:=B) (by have:=hp.b;omega);have hx:=hr.2.2.2.2 hv;have ha:=hp.a;have e:AA a k v x= -B:=by unfold AA;rw[hB]
   rw[e];rcases q5 with q5|q5
   ·omega
   ·by_cases hn:B+1<=0
    ·rw[Ik hn]at q5;omega
    ·omega
  have e0:Bz a k 4096 0 0=([],true):=by unfold Bz;rw[if_pos (by omega)]
  refine⟨?_,?_⟩
  ·rw[hb,hv];refine I8.2 ⟨?_,by rw[show(0:Int)+0=0 from rfl,e0]⟩;have:=hc.1;rw[hb,hv]at this;exact this
  ·rw[if_pos c0];unfold AE;rw[if_pos ⟨hr,hs⟩];unfold Bz;rw[if_pos c0]
 ·have e:Bz a k 4096 v x=((v+AA a k v x)::(Bz a k 4095 (v+AA a k v x) (AA a k v x)).1,(Bz a k 4095 (v+AA a k v x) (AA a k v x)).2):=by
   show(if v<=0 then _ else _)=_;rw[if_neg c0]
  rw[e]at hs;have hm:=Q8m a k 4095 _ _ hs;have hn:(AE a k (v+AA a k v x) (AA a k v x)).2=true:=I8.2 ⟨hc.1,by rw[hm];exact hs⟩;refine⟨hn,?_⟩;rw[if_neg c0];have e2:(AE a k v x).1=(Bz a k 4096 v x).1:=by unfold AE;rw[if_pos (I8.1 h)]
  have e3:(AE a k (v+AA a k v x) (AA a k v x)).1=(Bz a k 4096 (v+AA a k v x) (AA a k v x)).1:=by unfold AE;rw[if_pos (I8.1 hn)]
  rw[e2,e3,hm,e]
end Go.Bm
namespace Go.Bm
structure KOK (K : Kf) : Prop where
 f:Fix K.p K.x K.t
 plan:Plan3 K.pa K.pb K.pc
 segs:∀g∈K.p.segs,0<=g.item/\g.item<K.items.length/\i64 g.lead
 marks:∀m∈K.p.marks,0<=m.item/\m.item<K.items.length/\i64 m.at_
 count:K.p.marks.length<=1000000
 speed:∀it∈K.items,it.kind=8->i64 it.speed
 len:i64 K.len
 set:i64 K.set
theorem Sw (K:Kf) (c:Cv):Dg (Ad K c)=some [I (wrap .i64 (c.m0.tdiv 256))]:=by
 show U6 (Ad K c)=_;rw[Zh1]
abbrev Bo (c:Cv):Int:=wrap .i64 (c.m0.tdiv 256)
theorem Zik {MP MU:Fn} {K:Kf} {c:Cv} {s:Int} (hU:MU (Ad K c)=some [I (Bo c)]) (hP:MP (Bj K.t++[I (Bo c)])=some [I s]):Ud MP MU (Ad K c)=some [I s]:=by
 rw[Zmr,hU];simp only[Option.bind_some,gA,wA,bA,jA,CI,Dj];rw[hP];rfl
abbrev Bu (K:Kf) (c:Cv):Int:=BJ K.t (Bo c)
theorem Sz {K:Kf} (h:KOK K) (c:Cv):C5 (Ad K c)=some [I (Bu K c)]:=Zik (Sw K c) (PU h.f.t.q (Bo c))
theorem Zkr (K:Kf) (c:Cv):ND (Ad K c)=some (I 3::Ad K {c with next:=wrap .i64 (c.idx+1),on:=false,idx:=0,waits:=false,cnt:=0}):=by
 show Yo (Ad K c)=_;rw[Z26]
theorem Zl8 (K:Kf) (c:Cv):GC (Ad K c)=some (Ad K (if c.g0=0 then{c with o2:=true,g0:=1,g1:=18,g2:= -1}else c)):=by
 show Qjq (Ad K c)=_;rw[Zcp];cases h:(c.g0==0)
 ·rw[if_neg (by simpa using h)];rfl
 ·rw[if_pos (by simpa using h)];rfl
end Go.Bm
noncomputable section
namespace Go.Bm
def nxL (K:Kf) (c:Cv) (l:Int):List AC:=pxt K.p K.x K.t [I K.pa,I K.pb,I K.pc,I c.o0,I c.o1,B c.o2,B c.o3,B c.o4,I c.m0,I c.m1,I c.m2,I c.m3,I c.m4,I c.m5,I l]
def nxV (K:Kf) (c:Cv) (l:Int):Int:=gA ((ET (nxL K c l)).getD []) 1
def Mo (K:Kf) (c:Cv):Prop:=(AE K.pa K.pb c.m1 c.m2).2=true
theorem Mo.ready {K:Kf} {c:Cv} (h:Mo K c):Cj K.pa K.pb c.m1 c.m2:=(I8.1 h).1
theorem Zgy {K:Kf} {c:Cv} {l:Int} {Q R:Int->Prop} (h:Out (P6 c.m0 c.m1 c.m3 c.m4 Q R) (ET (nxL K c l))):Q (nxV K c l)\/∃r:Int,nxV K c l=wrap .i64 (c.m1+r)/\R r:=by
 obtain⟨o,h1,v,rfl,h2⟩:=h;have e:nxV K c l=v:=by unfold nxV;rw[h1];rfl
 rw[e];exact h2
theorem Q2d {K:Kf} {c:Cv} (hp:Plan3 K.pa K.pb K.pc) (hz:Mo K c) {v:Int} (hv:v=wrap .i64 (c.m1+AA K.pa K.pb c.m1 c.m2)):v=c.m1+AA K.pa K.pb c.m1 c.m2/\wrap .i64 (v-c.m1)=AA K.pa K.pb c.m1 c.m2/\(AE K.pa K.pb v (wrap .i64 (v-c.m1))).2=true:=by
 have r1:=FD hp hz.ready;have r2:=FD hp (closed hp hz.ready).1;rw[Ae (by omega)]at hv;have e:wrap .i64 (v-c.m1)=AA K.pa K.pb c.m1 c.m2:=by rw[hv,Ae (by omega)];omega
 refine⟨hv,e,?_⟩;rw[e,hv];exact(Qfr hp hz).1
theorem Qi8 {K:Kf} {c:Cv} (hp:Plan3 K.pa K.pb K.pc) (hz:Mo K c):Out (fun o=>∃r:Int,o=[I r]/\r=AA K.pa K.pb c.m1 c.m2) (Fm [I K.pa,I K.pb,I K.pc,I c.m1,I c.m2]):=
 ⟨_,Qzh hp hz.ready,_,rfl,rfl⟩
theorem Zeg {p:Pth} {x:Ax3} {t:Trk} (h:Fix p x t) (a b c o0 o1:Int) (b0 b1 b2:Bool) (m0 m1 m2 m3 m4 m5:Int):Out (fun o=>bA o 0=true->True) (JR (Df p t [I a,I b,I c,I o0,I o1,B b0,B b1,B b2,I m0,I m1,I m2,I m3,I m4,I m5])):=
 (Out.of (Zg5 h a b c o0 o1 b0 b1 b2 m0 m1 m2 m3 m4 m5)).mono fun _ _ _=>trivial
theorem Q7z {K:Kf} (h:KOK K) {c:Cv} (hz:Mo K c) (l:Int) (b0:Bool):Out (P6 c.m0 c.m1 c.m3 c.m4 (fun v=>(AE K.pa K.pb v (wrap .i64 (v-c.m1))).2=true) fun r=>r=AA K.pa K.pb c.m1 c.m2)
  (ET (pxt K.p K.x K.t [I K.pa,I K.pb,I K.pc,I c.o0,I c.o1,B b0,B c.o3,B c.o4,I c.m0,I c.m1,I c.m2,I c.m3,I c.m4,I c.m5,I l])):=
 Qvw (F:=fun _=>True) (by have:=h.plan.b;omega) (Qi8 h.plan hz) (fun v _ _ _=>WX h.f h.plan _ _ _ _ _ _ _) (fun v=>Zeg h.f ..) Vi Qe9 (fun _ hj=>Q3w hj)
def SA (m0 m1 m3 m4:Int) (Q R:Int->Prop) (o:List AC):Prop:=∃v s b z g e:Int,o=EH m0 m1 m3 m4 v++[I s,I b,I z,I g,I e]/\(Q v\/∃r:Int,v=wrap .i64 (m1+r)/\R r)
theorem Zgl {MN MB MR MS MM MF MD:Fn} {p:Pth} {x:Ax3} {t:Trk} {a b c:Int} {o0 o1:Int} {b0 b1 b2:Bool} {m0 m1 m2 m3 m4 m5 l lead g0 g1 g2 g3 z0 z1:Int} {Q R:Int->Prop}
  (hN:Out (P6 m0 m1 m3 m4 Q R) (MN (pxt p x t [I a,I b,I c,I o0,I o1,B false,B b1,B b2,I m0,I m1,I m2,I m3,I m4,I m5,I l])))
  (hB:Out (fun o=>∃r:Int,o=[I r]/\R r) (MB [I a,I b,I c,I m1,I m2]))
  (hR:∀a b c x3 x4 x5 x6 x7 x8,(MR [I a,I b,I c,I x3,I x4,I x5,I x6,I x7,I x8]).isSome=true)
  (hS:∀v:Int,Out (fun o=>bA o 0=true->Q v) (MS (pxt p x t [I a,I b,I c,I (wrap .i64 (m0+v)),I v,I (wrap .i64 (v-m1)),I m0,I m3,I m4,I l])))
  (hM:∀m0 m1 m2 m3 m4 m5 v,MM [I m0,I m1,I m2,I m3,I m4,I m5,I v]=some (EH m0 m1 m3 m4 v))
  (hF:∀v,i64 v->(MF [I lead,I v]).isSome=true) (hD:∀a b,∃v,MD [I a,I b]=some [I v]/\i64 v):
  Out (SA m0 m1 m3 m4 Q R) (Qbx MN MB MR MS MM MF MD (pxt p x t [I a,I b,I c,I o0,I o1,B b0,B b1,B b2,I m0,I m1,I m2,I m3,I m4,I m5,I l,I lead,I g0,I g1,I g2,I g3,I z0,I z1])):=by
 rw[Zaq];obtain⟨v1,e1,w1⟩:=hD z1 g2;obtain⟨v2,e2,w2⟩:=hD z0 g2;rw[e1,e2];simp only[Option.bind_some,gA,wA,bA,jA,CI,Em,Dj];have next:∀s bb z g e:Int,Out (SA m0 m1 m3 m4 Q R) ((MN (pxt p x t [I a,I b,I c,I o0,I o1,B false,B b1,B b2,I m0,I m1,I m2,I m3,I m4,I m5,I l])).bind fun o=>some [I (gA o 0),I (gA o 1),I (gA o 2),I (gA o 3),I (gA o 4),I (gA o 5),I s,I bb,I z,I g,I e]):=fun s bb z g e=>by
  refine .bind hN fun o h=> ?_;obtain⟨v,rfl,h⟩:=h;exact .some ⟨v,s,bb,z,g,e,rfl,h⟩
 refine .ibind (hF _ w1) fun f1 _=> .cond (fun _=> ?_) fun _=> .cond (fun _=> ?_) fun _=>next _ _ _ _ _
 ·refine .ibind (hF _ w2) fun f2 _=> ?_;rw[hM];generalize wrap .i64 (Af (nth AC.dead f1 0)-Af (nth AC.dead f2 0))=v;simp only[Option.bind_some,gA,wA,bA,jA,CI,Em,Dj];refine .cond (fun _=> ?_) fun _=>next _ _ _ _ _
  refine .bind (hS v) fun o h=> .cond (fun c=> ?_) fun _=>next _ _ _ _ _
  exact .some ⟨v,_,_,_,_,_,rfl, .inl (h c)⟩
 ·rw[hM];generalize wrap .i64 (wrap .i64 (wrap .i64 (g1+Af (nth AC.dead f1 0))-g3)-m0)=v;simp only[Option.bind_some,gA,wA,bA,jA,CI,Em,Dj];have stop:∀s bb z g e:Int,Out (SA m0 m1 m3 m4 Q R) ((MB [I a,I b,I c,I m1,I m2]).bind fun o=>(MM [I m0,I m1,I m2,I m3,I m4,I m5,I (wrap .i64 (m1+gA o 0))]).bind fun q=>some [I (gA q 0),I (gA q 1),I (gA q 2),I (gA q 3),I (gA q 4),I (gA q 5),I s,I bb,I z,I g,I e]):=fun s bb z g e=>by
   refine .bind hB fun o h=> ?_;obtain⟨r,rfl,hr⟩:=h;rw[hM];exact .some ⟨_,s,bb,z,g,e,rfl, .inr ⟨r,rfl,hr⟩⟩
  refine .cond (fun _=> ?_) fun _=> ?_
  ·refine .bind (hS v) fun o h=> .cond (fun c=> ?_) fun _=> ?_
   ·exact .some ⟨v,_,_,_,_,_,rfl, .inl (h c)⟩
   ·refine .ibind (hR _ _ _ _ _ _ _ _ _) fun _ _=> .cond (fun _=> .cond (fun _=>stop _ _ _ _ _) fun _=>stop _ _ _ _ _) fun _=>stop _ _ _ _ _
  ·refine .ibind (hR _ _ _ _ _ _ _ _ _) fun _ _=> .cond (fun _=> .cond (fun _=>stop _ _ _ _ _) fun _=>stop _ _ _ _ _) fun _=>stop _ _ _ _ _
theorem Zum {K:Kf} (h:KOK K) {c:Cv} (hz:Mo K c) (l:Int) {lead:Int} (hl:i64 lead):Out (SA c.m0 c.m1 c.m3 c.m4 (fun v=>(AE K.pa K.pb v (wrap .i64 (v-c.m1))).2=true) fun r=>r=AA K.pa K.pb c.m1 c.m2)
  (Jp (pxt K.p K.x K.t [I K.pa,I K.pb,I K.pc,I c.o0,I c.o1,B c.o2,B c.o3,B c.o4,I c.m0,I c.m1,I c.m2,I c.m3,I c.m4,I c.m5,I l,I lead,I c.e0,I c.e1,I c.e2,I c.e3,I c.before,I c.s3])):=
 Zgl (Q7z h hz l false) (Qi8 h.plan hz) Q9z (fun v=>WX h.f h.plan _ _ _ _ _ _ _) Vi (fun _ hv=>Zph hl hv) Zxa
theorem Zo8 {K:Kf} (h:KOK K) {c:Cv} (hz:Mo K c) {v:Int} (hv:(AE K.pa K.pb v (wrap .i64 (v-c.m1))).2=true\/∃r:Int,v=wrap .i64 (c.m1+r)/\r=AA K.pa K.pb c.m1 c.m2):(AE K.pa K.pb v (wrap .i64 (v-c.m1))).2=true:=by
 rcases hv with h1|⟨r,h1,h2⟩
 ·exact h1
 ·subst h2;exact(Q2d h.plan hz h1).2.2
theorem Qla {a k c:Int} (hp:Plan3 a k c):(AE a k 0 0).2=true:=by
 refine I8.2 ⟨?_,by unfold Bz;rw[if_pos (by omega)]⟩;have ha:=hp.a;have hb:=hp.b
 refine⟨by omega,by omega,?_,?_,fun _=>by omega⟩
 ·rw[Ik (by omega)];omega
 ·rw[Ik (by omega)];omega
theorem Z0y (o0 o1:Int) (b1 b2:Bool) (a b c:Int) (r:List AC):M_ (I o0::I o1::B true::B b1::B b2::I a::I b::I c::AJ Ah r)=some [I 0]:=by
 rw[Qp7];show QT _=_;rw[Q2x];rfl
theorem Z0u {MO MF MP MU:Fn} {p:Pth} {t:Trk} {a b c o0 o1:Int} {b1 b2:Bool} (hO:∀r,MO (I o0::I o1::B true::B b1::B b2::I a::I b::I c::AJ Ah r)=some [I 0])
  (hF:∀s,i64 s->∃i v:Int,MF (By p++[I s])=some [I i,I v]/\(i= -1\/0<=i/\i<p.segs.length)/\(p.segs≠[]->0<=i)) (hP:∀u,∃s,MP (Bj t++[I u])=some [I s]/\i64 s) (hU:∀u,(MU [I u]).isSome=true) (hne:p.segs≠[]) (u:Int):
  Out (fun o=>gA o 0=0) (RS MO MF MP MU (Df p t [I a,I b,I c,I o0,I o1,B true,B b1,B b2,I u])):=by
 rw[Qxf];refine .ibind (hU _) fun q _=> ?_;obtain⟨s,h1,h2⟩:=hP (gA q 0);refine .bind (p:=fun o=>o=[I s]) ⟨_,h1,rfl⟩ fun o e=> ?_;subst e;obtain⟨i,v,g1,g2,g3⟩:=hF s h2;refine .bind (p:=fun o=>o=[I i,I v]) ⟨_,g1,rfl⟩ fun o e=> ?_;subst e;have g3:=g3 hne;refine .cond (fun _=> ?_) fun c=> ?_
 ·refine .bind (p:=fun o=>o=[I 0]) ⟨_,hO _,rfl⟩ fun o e=> ?_;subst e;exact .some rfl
 ·refine(inB (show 0<=i from g3) (show i<((p.segs.map Ay).length:Int)from ?_) c).elim;rw[List.length_map];omega
theorem Ziv {p:Pth} {x:Ax3} {t:Trk} (h:Fix p x t) (hne:p.segs≠[]) (a b c o0 o1:Int) (b1 b2:Bool) (u:Int):
  Out (fun o=>gA o 0=0) (Kt (Df p t [I a,I b,I c,I o0,I o1,B true,B b1,B b2,I u])):=
 Z0u (fun r=>Z0y o0 o1 b1 b2 a b c r) (fun _ hs=>Q7k h hs) (fun u=>⟨_,PU h.t.q u,RG h u⟩) Qll hne u
theorem Zvk {MT MF:Fn} {p:Pth} {t:Trk} {a b c o0 o1:Int} {b1 b2:Bool} (hT:p.segs≠[]->∀u,Out (fun o=>gA o 0=0) (MT (Df p t [I a,I b,I c,I o0,I o1,B true,B b1,B b2,I u])))
  (hF:∀a b c x3 x4 x5 x6 x7 x8,Out (fun o=>(wA o 0).length<=4096) (MF [I a,I b,I c,I x3,I x4,I x5,I x6,I x7,I x8])) (m0 m1 m2 m3 m4 m5:Int):
  Out (fun o=>bA o 0=true->m1<=0) (TN MT MF (An (QF MT MF)) (Df p t [I a,I b,I c,I o0,I o1,B true,B b1,B b2,I m0,I m1,I m2,I m3,I m4,I m5])):=by
 rw[Qvf];refine .bind (hF a b c m0 m1 m2 m3 m4 m5) fun o h2=> ?_;have no:∀{x:List AC},x=[B false]->bA x 0=true->m1<=0:=fun e h=>by subst e;simp[bA,nth,CV]at h
 generalize wA o 0=sp at*;refine .cond (fun _=> .some (no rfl)) fun _=> .cond (fun _=> .some (no rfl)) fun c0=> ?_;have hne:p.segs≠[]:=by
  intro e;rw[e]at c0;simp at c0
 have hT:=hT hne;refine .bind (hT _) fun q hq=> .cond (fun _=> .some (no rfl)) fun hm=> ?_;have hm: ¬m1>gA q 0:=Bf hm;rw[hq]at hm;refine .bind (p:=fun o=>o.1=1\/o.1=2) ?_ fun o g=>by rcases g with g|g<;>rw[g]<;>exact .some fun _=>by omega
 refine Cr (fun s:Int×Nat=>I s.1:: .view Aa sp::I (sp.length:Int)::I (s.2:Int)::Df p t [I a,I b,I c,I o0,I o1,B true,B b1,B b2]) (fun s=>s.2<=sp.length) (fun s=>sp.length-s.2) _ ?_ (m0,0) (by simp);rintro⟨v,i⟩ g;dsimp only at g;rw[Qrt];rw[Ae (x:=(i:Int)+1) (by omega)];refine .cond (fun c=> ?_) (fun c=> ?_)
 ·have c:=Bg c;refine .cond (fun _=> ?_) fun c=>by simp at c;omega
  refine .bind (hT _) fun _ _=> .cond (fun _=> .some (.inr ⟨by simp, .inl rfl⟩)) fun _=> ?_;exact .some (.inl ⟨rfl,(_,i+1),rfl,by dsimp only;omega,by dsimp only;omega⟩)
 ·exact .some (.inr ⟨by simp, .inr rfl⟩)
theorem Zxy {p:Pth} {x:Ax3} {t:Trk} (h:Fix p x t) (a b c o0 o1:Int) (b1 b2:Bool) (m0 m1 m2 m3 m4 m5:Int):
  Out (fun o=>bA o 0=true->m1<=0) (JR (Df p t [I a,I b,I c,I o0,I o1,B true,B b1,B b2,I m0,I m1,I m2,I m3,I m4,I m5])):=
 Zvk (fun hne u=>Ziv h hne a b c o0 o1 b1 b2 u) SJ m0 m1 m2 m3 m4 m5
theorem Zgp {K:Kf} (h:KOK K) {c:Cv} (hz:Mo K c) (hh:c.o2=true) (l:Int):nxV K c l=c.m1+AA K.pa K.pb c.m1 c.m2:=by
 have hp:=h.plan;have hr:=hz.ready;have rg:=FD hp hr;have ho:Out (P6 c.m0 c.m1 c.m3 c.m4 (fun v=>(AE K.pa K.pb v (wrap .i64 (v-c.m1))).2=true/\v=0/\∃k:Int,-K.pb<=k/\k<=K.pb/\v=wrap .i64 (c.m1+wrap .i64 (c.m2+k))) fun r=>r=AA K.pa K.pb c.m1 c.m2) (ET (nxL K c l)):=by
  unfold nxL;rw[hh];exact Qvw (F:=fun v=>v<=0) (by have:=hp.b;omega) (Qi8 hp hz) (fun v h0 h1 hk=>(WX h.f hp _ _ _ _ _ _ _).mono fun o ho hb=>⟨ho hb,by omega,hk⟩) (fun v=>Zxy h.f ..) Vi Qe9 (fun _ hj=>Q3w hj)
 rcases Zgy ho with⟨h1,h2,k,k1,k2,k3⟩|⟨r,h1,h2⟩
 ·have hb:=hp.b;have ha:=hp.a
  rw[h2]at h1 k3⊢;rw[Ae (x:=c.m2+k) (by omega),Ae (x:=c.m1+(c.m2+k)) (by omega)]at k3;rw[Ae (x:=0-c.m1) (by omega)]at h1;obtain⟨⟨q1,q2,q3,q4,q5⟩,-⟩:=I8.1 h1;have e1: -(0-c.m1)=c.m1:=by omega
  rw[e1]at q3;obtain⟨B,hB⟩:∃B,B=bs K.pb c.m1 20 (-c.m2-K.pb) (min (K.pb-c.m2) K.pa):=⟨_,rfl⟩;obtain⟨b1,b2,b3,b4,b5,b6⟩:=R7 hp hr hB;have l0:=Hp (k:=K.pb) (b:=B) (by omega);have eb:AA K.pa K.pb c.m1 c.m2= -B:=by unfold AA;rw[hB]
  rw[eb];by_cases hlt:B<c.m1
  ·rcases b5 with b5|b5
   ·omega
   ·have:=Zzh (k:=K.pb) (b:=B+1) (c:=c.m1) (by omega) (by omega);omega
  ·omega
 ·subst h2;exact(Q2d hp hz h1).1
end Go.Bm
namespace Go.Bm
theorem Qtj (K:Kf) {i:Nat} (h:i<K.items.length):nth [] (K.items.map Ag) i=Ag K.items[i]:=by
 rw[BK,List.getD,List.getElem?_map,List.getElem?_eq_getElem h];rfl
theorem Zm7 (K:Kf) {i:Nat} (h:i<K.p.marks.length):nth [] (K.p.marks.map At) i=At K.p.marks[i]:=by
 rw[BK,List.getD,List.getElem?_map,List.getElem?_eq_getElem h];rfl
theorem Zwb {K:Kf} (h:KOK K) (i:Nat) (hk:gA (nth [] (K.items.map Ag) i) 0=8):i64 (gA (nth [] (K.items.map Ag) i) 20):=by
 by_cases c:i<K.items.length
 ·rw[Qtj K c]at hk⊢;exact h.speed _ (List.getElem_mem c) hk
 ·have e:nth [] (K.items.map Ag) i=[]:=by
   rw[BK,List.getD,List.getElem?_eq_none (by rw[List.length_map];omega)];rfl
  rw[e];show i64 0;unfold i64;omega
structure Gd (K : Kf) (n : Int) (c : Cv) : Prop where
 way:c.way=0
 pass:0<=c.passed/\c.passed<=K.p.marks.length
 task:c.on=true->0<=c.idx/\c.idx<K.p.marks.length
 mo:Mo K c
 m0: -(16777216*n)<=c.m0/\c.m0<=16777216*n
theorem Gd.up {K:Kf} {n:Int} {c:Cv} (h:Gd K n c) (hn:0<=n):Gd K (n+1) c:=
 ⟨h.way,h.pass,h.task,h.mo,by have:=h.m0;omega⟩
theorem Gd.move {K:Kf} (h:KOK K) {n:Int} {c:Cv} (g:Gd K n c) (hn:0<=n/\n<=10000) {v:Int} (hv:(AE K.pa K.pb v (wrap .i64 (v-c.m1))).2=true\/∃r:Int,v=wrap .i64 (c.m1+r)/\r=AA K.pa K.pb c.m1 c.m2):
  Gd K (n+1) {c with m0:=wrap .i64 (c.m0+v),m1:=v,m2:=wrap .i64 (v-c.m1),m3:=c.m0,m4:=c.m3,m5:=c.m4}:=by
 have h0:=g.m0;have hq:=Zo8 h g.mo hv;have hr:=FD h.plan (I8.1 hq).1;refine⟨g.way,g.pass,g.task,hq,?_⟩;show-(16777216*(n+1))<=wrap .i64 (c.m0+v)/\wrap .i64 (c.m0+v)<=16777216*(n+1);rw[Ae (by omega)];omega
end Go.Bm
namespace Go.Bm
theorem Gd.same {K:Kf} {n:Int} {c c':Cv} (g:Gd K n c) (h1:c'.way=c.way) (h2:c'.passed=c.passed) (h3:c'.on=c.on) (h4:c'.idx=c.idx) (h5:c'.m0=c.m0) (h6:c'.m1=c.m1) (h7:c'.m2=c.m2):Gd K n c':=
 ⟨h1▸g.way,h2▸g.pass,by rw[h3,h4];exact g.task,by have:=g.mo;unfold Mo at*;rw[h6,h7];exact this,h5▸g.m0⟩
theorem Zzv {K:Kf} {c:Cv} (h:c.way=0):Ls (Ad K c)=some (I 0::B false::Ad K c):=by
 have key:∀{A B':Fn},YG A B' (Ad K c)=some (I 0::B false::Ad K c):=by
  intro A B';rw[Q9g,Br (by simp[h])]
 exact key
abbrev stand (c:Cv):Cv:={c with m0:=wrap .i64 (Bo c*256),m1:=0,m2:=0,m3:=wrap .i64 (Bo c*256),m4:=wrap .i64 (Bo c*256),m5:=wrap .i64 (Bo c*256)}
theorem Q2v (u:Int):Gk [I u]=some [I (wrap .i64 (u*256)),I 0,I 0,I (wrap .i64 (u*256)),I (wrap .i64 (u*256)),I (wrap .i64 (u*256))]:=by
 show XA [I u]=_;rw[Zuw]
theorem Zfp {MS MU:Fn} {K:Kf} {c:Cv} (hU:MU (Ad K c)=some [I (Bo c)]) (hS:∀u:Int,MS [I u]=some [I (wrap .i64 (u*256)),I 0,I 0,I (wrap .i64 (u*256)),I (wrap .i64 (u*256)),I (wrap .i64 (u*256))]):
  Qi0 MS MU (Ad K c)=some (if c.g0=2 then I 6::B true::Ad K (stand c)else I 0::B false::Ad K c):=by
 rw[Zh0];by_cases h:c.g0=2
 ·rw[if_pos h,Ba (by simp[h]),hU];simp only[Option.bind_some,gA,wA,bA,jA,CI,Dj];rw[hS];rfl
 ·rw[if_neg h,Br (by simpa using h)]
theorem Zyf (K:Kf) (c:Cv):Ll (Ad K c)=some (if c.g0=2 then I 6::B true::Ad K (stand c)else I 0::B false::Ad K c):=Zfp (Sw K c) Q2v
theorem Q9l (K:Kf) (c:Cv):KZ (Ad K c)=some (I c.ended::B (c.ended !=0)::Ad K c):=by
 show Qah (Ad K c)=_;rw[Zho]
theorem Zs2 (K:Kf) (c:Cv):Kv (Ad K c)=some (if c.touched=true/\c.stood=true then I 8::B true::Ad K {c with ended:=8}else I 0::B false::Ad K c):=by
 show Qcl (Ad K c)=_;rw[Ztc];by_cases h:c.touched=true
 ·by_cases h2:c.stood=true
  ·rw[if_pos ⟨h,h2⟩,Ba (by simp[h]),Ba (by simp[h2]),h,h2]
  ·rw[if_neg (fun e=>h2 e.2),Ba (by simp[h]),Br (by simpa using h2)]
 ·rw[if_neg (fun e=>h e.1),Br (by simpa using h)]
theorem Q39 {a N:Int} (h: -N<=a/\a<=N): -N<=a.tdiv 256*256/\a.tdiv 256*256<=N:=by
 by_cases k:0<=a
 ·rw[Int.tdiv_eq_ediv_of_nonneg k];omega
 ·obtain⟨b,rfl⟩:∃b,a= -b:=⟨-a,by omega⟩;rw[Int.neg_tdiv,Int.tdiv_eq_ediv_of_nonneg (by omega)];omega
theorem Gd.stand {K:Kf} (h:KOK K) {n:Int} {c:Cv} (g:Gd K n c) (hn:0<=n/\n<=10000):Gd K n (stand c)/\Bo (stand c)=Bo c:=by
 have h0:=Q39 g.m0;have e:Bo c=c.m0.tdiv 256:=Ae (by omega);have e2:(Go.Bm.stand c).m0=c.m0.tdiv 256*256:=by
  show wrap .i64 (Bo c*256)=_;rw[e,Ae (by omega)]
 refine⟨⟨g.way,g.pass,g.task,Qla h.plan,?_⟩,?_⟩
 ·rw[e2];omega
 ·show wrap .i64 ((Go.Bm.stand c).m0.tdiv 256)=_;rw[e2,Int.mul_tdiv_cancel _ (by omega),e,Ae (by omega)]
end Go.Bm
namespace Go.Bm
theorem Out.eqv {α:Type} {p:α->Prop} {a b:Option α} (h:a=b) (g:Out p b):Out p a:=h▸g
abbrev L3 (pul outs:Rw) (mode s:Int) (m:Pt) (sp fault:Int):List AC:=[.view kPt pul, .view Aa outs,I mode,I s,I m.x,I m.y,I m.z,I sp,I fault]
abbrev EB:List AC:=[.view kPt [], .view Aa [],I 0,I 0,I 0,I 0,I 0,I 0,I 0]
theorem Q06 {K:Kf} {n:Int} {c:Cv} (g:Gd K n c) (hn:0<=n/\n<=10010): -300000000000<=Bo c/\Bo c<=300000000000:=by
 have h:=g.m0;have h1: -300000000000<=c.m0/\c.m0<=300000000000:=by omega
 have h2:=Q39 h1;have e:Bo c=c.m0.tdiv 256:=Ae (by omega);omega
end Go.Bm
namespace Go.Bm
theorem Zzm (r k:Int):(AQ r k=r/\AR r k=0)\/(AQ r k=0/\AR r k=r)\/(AQ r k= -r/\AR r k=0)\/(AQ r k=0/\AR r k= -r):=by
 have hc:k%4=0\/k%4=1\/k%4=2\/k%4=3:=by omega
 unfold AQ AR;rcases hc with h|h|h|h<;>simp[h]
theorem Q5s (r k:Int):sq2 (AQ r k) (AR r k)=r*r:=by
 unfold sq2;rcases Zzm r k with⟨h1,h2⟩|⟨h1,h2⟩|⟨h1,h2⟩|⟨h1,h2⟩<;>rw[h1,h2]<;>grind
theorem Zqu {p q k t:Int} (ht:t=1\/t=2\/t=3) (hp:0<p) (hq:0<q):crs (AQ p k) (AR p k) (AQ q (k+t)) (AR q (k+t))≠0\/dt2 (AQ p k) (AR p k) (AQ q (k+t)) (AR q (k+t))<0:=by
 have hc:k%4=0\/k%4=1\/k%4=2\/k%4=3:=by omega
 have hpq:0<p*q:=Int.mul_pos hp hq;have hm: -p*q= -(p*q)/\p* -q= -(p*q)/\ -p* -q=p*q:=⟨Int.neg_mul ..,Int.mul_neg ..,Int.neg_mul_neg ..⟩;have e:∀j:Int,(k+t)%4=j->∀i:Int,k%4=i->crs (AQ p k) (AR p k) (AQ q (k+t)) (AR q (k+t))=(if i=0 then p else if i=2 then-p else 0)*(if j=1 then q else if j=3 then-q else 0)-(if i=1 then p else if i=3 then-p else 0)*(if j=0 then q else if j=2 then-q else 0)/\
   dt2 (AQ p k) (AR p k) (AQ q (k+t)) (AR q (k+t))=(if i=0 then p else if i=2 then-p else 0)*(if j=0 then q else if j=2 then-q else 0)+(if i=1 then p else if i=3 then-p else 0)*(if j=1 then q else if j=3 then-q else 0):=by
  intro j hj i hi;subst hj hi;exact⟨rfl,rfl⟩
 rcases ht with rfl|rfl|rfl<;>rcases hc with h1|h1|h1|h1
 ·obtain⟨e1,e2⟩:=e 1 (by omega) _ h1;simp at e1 e2;omega
 ·obtain⟨e1,e2⟩:=e 2 (by omega) _ h1;simp at e1 e2;omega
 ·obtain⟨e1,e2⟩:=e 3 (by omega) _ h1;simp at e1 e2;omega
 ·obtain⟨e1,e2⟩:=e 0 (by omega) _ h1;simp at e1 e2;omega
 ·obtain⟨e1,e2⟩:=e 2 (by omega) _ h1;simp at e1 e2;omega
 ·obtain⟨e1,e2⟩:=e 3 (by omega) _ h1;simp at e1 e2;omega
 ·obtain⟨e1,e2⟩:=e 0 (by omega) _ h1;simp at e1 e2;omega
 ·obtain⟨e1,e2⟩:=e 1 (by omega) _ h1;simp at e1 e2;omega
 ·obtain⟨e1,e2⟩:=e 3 (by omega) _ h1;simp at e1 e2;omega
 ·obtain⟨e1,e2⟩:=e 0 (by omega) _ h1;simp at e1 e2;omega
 ·obtain⟨e1,e2⟩:=e 1 (by omega) _ h1;simp at e1 e2;omega
 ·obtain⟨e1,e2⟩:=e 2 (by omega) _ h1;simp at e1 e2;omega
theorem Zh7 {size:Int} {it:Itm} (h:ArcMade size it):Xg it:=by
 obtain⟨r,k,t,g,x,h1,h2,h3,h4,h5,h6,h7,h8,h9,h10,h11,h12,h13⟩:=h.ends;have hp:=h.plane;have a1:dU it it.fr=AQ r k:=by unfold dU;rw[h12,(My hp).1];omega
 have a2:dW it it.fr=AR r k:=by unfold dW;rw[h12,(My hp).2.1];omega
 have a3:dU it it.to=AQ (r+g) (k+t):=by unfold dU;rw[h12,h13,(My hp).1,(My hp).1];omega
 have a4:dW it it.to=AR (r+g) (k+t):=by unfold dW;rw[h12,h13,(My hp).2.1,(My hp).2.1];omega
 have q1:qA it=r*r:=by unfold qA;rw[a1,a2,Q5s]
 have q2:qB it=(r+g)*(r+g):=by unfold qB;rw[a3,a4,Q5s]
 have m1:64<=r*r:=by
  have:=Int.mul_le_mul h1 h1 (by omega) (by omega);omega
 have m2:64<=(r+g)*(r+g):=by
  have:=Int.mul_le_mul (show(8:Int)<=r+g by omega) (show(8:Int)<=r+g by omega) (by omega) (by omega);omega
 unfold Xg;refine⟨by omega,by omega,?_,?_,?_⟩
 ·rw[q1,q2];unfold Ie;right;have hg:g*g<=16:=by
   have:=Int.mul_le_mul h8 h8 h7 (by omega);omega
  have e1:r*r+(r+g)*(r+g)-16=2*(r*(r+g))+(g*g-16):=by grind
  have hpos:0<=r*(r+g):=Int.mul_nonneg (by omega) (by omega);have hge:64<=r*(r+g):=by
   have:=Int.mul_le_mul h1 (show(8:Int)<=r+g by omega) (by omega) (by omega);omega
  have hgg:0<=g*g:=Int.mul_nonneg h7 h7;have e2:4*(r*r)*((r+g)*(r+g))=(2*(r*(r+g)))*(2*(r*(r+g))):=by grind
  rw[e1,e2];generalize 2*(r*(r+g))=m at*;exact Int.mul_self_le_mul_self (by omega) (by omega)
 ·intro hf;rw[h11]at hf;have ht:=of_decide_eq_true hf;rw[a1,a2,a3,a4,ht,h10 ht,Int.add_zero,Int.add_zero];exact⟨rfl,rfl⟩
 ·intro hf;rw[h11]at hf;have ht:=of_decide_eq_false hf;unfold cAB dAB;rw[a1,a2,a3,a4];exact Zqu (by omega) (by omega) (by omega)
theorem Q9i {it:Itm} (h:Made it) (h1:bd 1000000 it.fr) (h2:bd 1000000 it.to):Dp it:=by
 refine⟨h.kind,AV h1 (by omega),AV h2 (by omega),fun h3=> ?_⟩;have ha:=h.arc h3;exact⟨ha.plane,ha.dir,AV (Qdl ha (by omega) h1).2 (by omega),Zh7 ha⟩
end Go.Bm
namespace Go.Bm
open Classical
structure Oth (it : Itm) : Prop where
 kind:7<=it.kind/\it.kind<=14
 spin:it.kind=8->3<=it.n/\it.n<=5/\0<=it.speed/\it.speed<=4000
 dwell:it.kind=7->0<=it.n/\it.n<=4
 out:it.kind=10->0<=it.n/\it.n<=15
def Jc:Pt->List Itm->Prop
 |_,[]=>True
 |p,it::l=>if AF it then it.fr=p/\Jc it.to l else Jc p l
def Ew:Pt->List Itm->Pt
 |p,[]=>p
 |p,it::l=>if AF it then Ew it.to l else Ew p l
theorem VY {it:Itm}:∀{l:List Itm} {p:Pt},Jc p l->(AF it->it.fr=Ew p l)->Jc p (l++[it])
 |[],p,_,h=>by
  simp only[List.nil_append,Jc];split
  ·rename_i c;exact⟨h c,trivial⟩
  ·trivial
 |a::l,p,h1,h=>by
  simp only[List.cons_append,Jc]at h1⊢;unfold Ew at h;by_cases c:AF a
  ·rw[if_pos c]at h1 h⊢;exact⟨h1.1,VY h1.2 h⟩
  ·rw[if_neg c]at h1 h⊢;exact VY h1 h
theorem IS {it:Itm}:∀{l:List Itm} {p:Pt},Ew p (l++[it])=if AF it then it.to else Ew p l
 |[],p=>by simp only[List.nil_append,Ew]
 |a::l,p=>by
  simp only[List.cons_append,Ew];by_cases c:AF a
  ·rw[if_pos c,if_pos c];exact IS
  ·rw[if_neg c,if_neg c];exact IS
structure Items (A : Nat) (p : Pt) (l : List Itm) : Prop where
 link:Jc p l
 made:∀it∈l,(AF it/\Made it/\Fs it/\bd A it.fr/\bd A it.to)\/Oth it
theorem L9 {A:Nat} {p:Pt} {l:List Itm} {it:Itm} (h:Items A p l) (h1:AF it->it.fr=Ew p l) (h2:(AF it/\Made it/\Fs it/\bd A it.fr/\bd A it.to)\/Oth it):Items A p (l++[it]):=by
 refine⟨VY h.link h1,fun i hi=> ?_⟩;simp only[List.mem_append,List.mem_singleton]at hi;rcases hi with hi|rfl
 ·exact h.made i hi
 ·exact h2
theorem Qv {it:Itm} (h:Oth it): ¬AF it:=fun g=>by have:=h.kind;have:=g.2;omega
theorem Zb5 {MN:Fn} {l:Rw} (hN:GA l MN) (k:Nat):
  ∃(it:Itm) (k':Nat),Qfx MN [.view Aa l,I k]=some (Ag it++[.view Aa l,I k'])/\k<=k'/\Oth it:=by
 rw[Zxd];obtain⟨v0,k0,e0,a0,b0,c0,-,-⟩:=hN k (n:=8) (by omega);obtain⟨v1,k1,e1,a1,b1,c1,-,-⟩:=hN k0 (n:=16) (by omega);obtain⟨v2,k2,e2,a2,b2,c2,-,-⟩:=hN k1 (n:=2) (by omega);obtain⟨v3,k3,e3,a3,b3,c3,-,-⟩:=hN k0 (n:=5) (by omega);obtain⟨v4,k4,e4,a4,b4,c4,-,-⟩:=hN k0 (n:=3) (by omega);obtain⟨v5,k5,e5,a5,b5,c5,-,-⟩:=hN k4 (n:=4000) (by omega);simp only[go_sem,e0,e1,e2,e3,e4,e5];rw[Ae (x:=3+v4) (by omega)];have fin:∀(kd n sp:Int) (on:Bool) (k':Nat),k<=k'->Oth ⟨kd,0,⟨0,0,0⟩,⟨0,0,0⟩,0,⟨0,0,0⟩,0,false,0,false,0,0,0,n,sp,on⟩->
   ∃(it:Itm) (k'':Nat),some [I kd,I 0,I 0,I 0,I 0,I 0,I 0,I 0,I 0,I 0,I 0,I 0,I 0,B false,I 0,B false,I 0,I 0,I 0,I n,I sp,B on, .view Aa l,I k']=some (Ag it++[.view Aa l,I k''])/\k<=k''/\Oth it:=by
  intro kd n sp on k' h1 h2;exact⟨_,k',rfl,h1,h2⟩
 by_cases c0:v0=0
 ·rw[if_pos c0];exact fin _ _ _ _ _ (by omega) ⟨by simp only;omega,by simp,by simp,fun _=>by simp only;omega⟩
 rw[if_neg c0];by_cases c1:v0=1
 ·rw[if_pos c1];exact fin _ _ _ _ _ (by omega) ⟨by simp only;omega,by simp,by simp,fun _=>by simp only;omega⟩
 rw[if_neg c1];by_cases c2:v0=2
 ·rw[if_pos c2];exact fin _ _ _ _ _ (by omega) ⟨by simp only;omega,by simp,fun _=>by simp only;omega,by simp⟩
 rw[if_neg c2];by_cases c3:v0=3
 ·rw[if_pos c3];exact fin _ _ _ _ _ (by omega) ⟨by simp only;omega,fun _=>by simp only;omega,by simp,by simp⟩
 rw[if_neg c3];by_cases c4:v0=4
 ·rw[if_pos c4];exact fin _ _ _ _ _ (by omega) ⟨by simp only;omega,by simp,by simp,by simp⟩
 rw[if_neg c4];by_cases c5:v0=5
 ·rw[if_pos c5];exact fin _ _ _ _ _ (by omega) ⟨by simp only;omega,by simp,by simp,by simp⟩
 rw[if_neg c5];by_cases c6:v0=6
 ·rw[if_pos c6];exact fin _ _ _ _ _ (by omega) ⟨by simp only;omega,by simp,by simp,by simp⟩
 rw[if_neg c6];exact fin _ _ _ _ _ (by omega) ⟨by simp only;omega,by simp,by simp,by simp⟩
theorem Ztq {l:Rw} (hl:Src l) (k:Nat):∃(it:Itm) (k':Nat),LW [.view Aa l,I k]=some (Ag it++[.view Aa l,I k'])/\k<=k'/\Oth it:=Zb5 (Hc hl) k
theorem Zpg {v:Int} (h:0<=v/\v<8):∃x,Af (nth .dead (nth [] [[I 2],[I 2],[I 2],[I 3],[I 1],[I 6],[I 5],[I 4]] v.toNat) 0)=x/\1<=x/\x<=6:=by
 have hc:v=0\/v=1\/v=2\/v=3\/v=4\/v=5\/v=6\/v=7:=by omega
 rcases hc with rfl|rfl|rfl|rfl|rfl|rfl|rfl|rfl<;>exact⟨_,rfl,by decide⟩
theorem Zgg {MM MO ML MN MF:Fn} {l:Rw} (hN:GA l MN)
  (hM : ∀ {p : Pt}, bd 100000000 p -> ∀ {kind : Int}, (1 <= kind /\ kind <= 6) -> ∀ k : Nat,
   ∃(it:Itm) (k':Nat),MM [I p.x,I p.y,I p.z,I kind, .view Aa l,I k]=some (Ag it++[.view Aa l,I k'])/\k<=k'/\it.fr=p/\it.kind=kind/\Made it/\Fs it)
  (hO:∀k:Nat,∃(it:Itm) (k':Nat),MO [.view Aa l,I k]=some (Ag it++[.view Aa l,I k'])/\k<=k'/\Oth it)
  (hL:∀k:Nat,ML [.view Aa l,I k]=some [B (decide (k<l.length)), .view Aa l,I k]) {most:Int} {fin:Bool} (hm:most<=100) {p:Pt}:
  ∀s:List Itm×Nat,(Items (4+40*102) p s.1/\bd (4+40*s.1.length) (Ew p s.1)/\(s.1=[]\/s.1.length<=most+1))->
   ∃o,An (Qmt MM MO ML MN MF) [.view Ak (s.1.map Ag),I most,B fin,I (Ew p s.1).x,I (Ew p s.1).y,I (Ew p s.1).z, .view Aa l,I s.2]=some o/\o.1≠0/\
    ∃items,o=(1,[.view Ak (items.map Ag),B fin])/\Items (4+40*102) p items/\(items=[]\/items.length<=most+1):=by
 refine Q03 (S:=List Itm×Nat) (fun s=>[.view Ak (s.1.map Ag),I most,B fin,I (Ew p s.1).x,I (Ew p s.1).y,I (Ew p s.1).z, .view Aa l,I s.2]) _ (fun s=>l.length-s.2) _ ?_;rintro⟨items,k⟩ ⟨h1,h2,h3⟩;simp only at h1 h2 h3;simp only;rw[Zyc];simp only[go_sem,hL,List.length_map];by_cases c1:(items.length:Int)<most
 case neg=>
  rw[if_neg c1];exact .inr ⟨_,rfl,by simp,items,rfl,h1,h3⟩
 rw[if_pos c1];by_cases c2:k<l.length
 case neg=>
  rw[if_neg (by simpa using c2)];exact .inr ⟨_,rfl,by simp,items,rfl,h1,h3⟩
 rw[if_pos (by simpa using c2)];obtain⟨v,k1,e1,a1,b1,d1,d2,-⟩:=hN k (n:=12) (by omega);have d3:=d2 c2;subst d3;simp only[go_sem,e1];have hmost:items.length<100:=by omega
 by_cases c3:v<4
 ·rw[if_pos c3];obtain⟨it,k2,e2,g1,g2⟩:=hO (k+1);have hnm:=Qv g2;simp only[go_sem,e2,Ag,List.cons_append,List.nil_append];rw[if_pos (by simp;omega)];left;refine⟨(items++[it],k2),?_,⟨L9 h1 (fun h=>absurd h hnm) (.inr g2),?_, .inr ?_⟩,?_⟩
  ·simp only[IS,if_neg hnm,List.map_append,List.map_cons,List.map_nil,Ag]
  ·simp only[IS,if_neg hnm,List.length_append,List.length_singleton];exact AV h2 (by omega)
  ·simp only[List.length_append,List.length_singleton];omega
  ·simp only;omega
 ·rw[if_neg c3,Ae (by omega)];obtain⟨x,hx,hx1,hx2⟩:=Zpg (v:=v-4) (by omega);have hpb:bd 100000000 (Ew p items):=AV h2 (by omega);obtain⟨it,k2,e2,g1,g2,g3,g4,g5⟩:=hM hpb (kind:=x) (by omega) (k+1);have hmo:AF it:=by unfold AF;omega
  have hb2:=Qzk g4 (by rw[g2];exact h2);rw[if_pos (by simp;omega)];simp only[go_sem,hx,e2,Ag,List.cons_append,List.nil_append];have hmade:(AF it/\Made it/\Fs it/\bd (4+40*102) it.fr/\bd (4+40*102) it.to)\/Oth it:= .inl ⟨hmo,g4,g5,by rw[g2];exact AV h2 (by omega),AV hb2 (by omega)⟩;by_cases c5:it.kind=5
  ·rw[if_pos c5];obtain⟨v3,k3,e3,a3,b3,d3,-,-⟩:=hN k2 (n:=2) (by omega);obtain⟨v4,k4,e4,a4,b4,d4,-,-⟩:=hN k3 (n:=3000) (by omega);simp only[go_sem,e3,e4];rw[Ae (x:=3+v3) (by omega),Ae (x:=200+v4) (by omega)];rw[if_pos (by simp;omega),if_pos (by simp;omega)];have hsp:Oth ⟨8,0,⟨0,0,0⟩,⟨0,0,0⟩,0,⟨0,0,0⟩,0,false,0,false,0,0,0,3+v3,200+v4,false⟩:=⟨by simp only;omega,fun _=>by simp only;omega,by simp,by simp⟩;have hnm:=Qv hsp;have i1:=L9 h1 (fun h=>absurd h hnm) (.inr hsp);left;refine⟨(items++[⟨8,0,⟨0,0,0⟩,⟨0,0,0⟩,0,⟨0,0,0⟩,0,false,0,false,0,0,0,3+v3,200+v4,false⟩]++[it],k4),?_,⟨L9 i1 (fun _=>by rw[IS,if_neg hnm];exact g2) hmade,?_, .inr ?_⟩,?_⟩
   ·simp only[IS,if_pos hmo,List.map_append,List.map_cons,List.map_nil,Ag]
   ·simp only[IS,if_pos hmo,List.length_append,List.length_singleton];exact AV hb2 (by omega)
   ·simp only[List.length_append,List.length_singleton];omega
   ·simp only;omega
  ·rw[if_neg c5,if_pos (by simp;omega)];left;refine⟨(items++[it],k2),?_,⟨L9 h1 (fun _=>g2) hmade,?_, .inr ?_⟩,?_⟩
   ·simp only[IS,if_pos hmo,List.map_append,List.map_cons,List.map_nil,Ag]
   ·simp only[IS,if_pos hmo,List.length_append,List.length_singleton];exact AV hb2 (by omega)
   ·simp only[List.length_append,List.length_singleton];omega
   ·simp only;omega
def KV:Itm:=⟨14,0,⟨0,0,0⟩,⟨0,0,0⟩,0,⟨0,0,0⟩,0,false,0,false,0,0,0,0,0,false⟩
theorem Qp9:Oth KV:=⟨by simp[KV],by simp[KV],by simp[KV],by simp[KV]⟩
theorem Zks {MM MO ML MN MF:Fn} {N:Lp} {l:Rw} (hN:GA l MN) (hF:MF [.view Aa l]=some [.view Aa l,I 0]) {most:Int} {fin:Bool} (hm:most<=100)
  (hL:∀(p:Pt) (k:Nat),bd 4 p->∃items,N [.view Ak [],I most,B fin,I p.x,I p.y,I p.z, .view Aa l,I k]=some (1,[.view Ak (items.map Ag),B fin])/\Items 4084 p items/\(items=[]\/items.length<=most+1)):
  ∃(p:Pt) (items:List Itm),Xa MM MO ML MN MF N [.view Aa l,I most,B fin]=some [.view Ak ((items++if fin=true then [KV]else []).map Ag)]/\Items 4084 p items/\(items=[]\/items.length<=most+1):=by
 obtain⟨v1,k1,e1,a1,b1,c1,-,-⟩:=hN 0 (n:=9) (by omega);obtain⟨v2,k2,e2,a2,b2,c2,-,-⟩:=hN k1 (n:=9) (by omega);obtain⟨v3,k3,e3,a3,b3,c3,-,-⟩:=hN k2 (n:=9) (by omega);obtain⟨items,h1,h2,h3⟩:=hL ⟨v1-4,v2-4,v3-4⟩ k3 ⟨by simp only;omega,by simp only;omega,by simp only;omega⟩;rw[Zob];have e1':MN [I 9, .view Aa l,I 0]=some [I v1, .view Aa l,I k1]:=e1;simp only[go_sem,hF,e1',e2,e3];rw[Ae (x:=v1-4) (by omega),Ae (x:=v2-4) (by omega),Ae (x:=v3-4) (by omega)];simp only[h1,go_sem];refine⟨_,items,?_,h2,h3⟩;have hlen:items.length<=101:=by
  rcases h3 with h3|h3
  ·rw[h3];simp
  ·omega
 cases fin
 ·simp
 ·rw[if_pos rfl,if_pos (by simp;omega),if_pos rfl,List.map_append];rfl
theorem Zz6 {l:Rw} (hl:Src l) {most:Int} (hm:most<=100) (fin:Bool):
  ∃(p:Pt) (items:List Itm),JV [.view Aa l,I most,B fin]=some [.view Ak (items.map Ag)]/\Items 4084 p items/\(items.length:Int)<=max most (-1)+2/\(fin=true->∃l,items=l++[KV]/\(l.length:Int)<=max most (-1)+1)/\(fin=false->(items.length:Int)<=max most (-1)+1):=by
 obtain⟨p,items,h1,h2,h3⟩:=Zks (MM:=K6) (MO:=LW) (ML:=FP) (N:=Qbc) (fin:=fin) (Hc hl) (PI l) hm fun p k hp=>by
  obtain⟨o,h1,-,items,rfl,h3,h4⟩:=Zgg (MF:=Cs) (fin:=fin) (Hc hl) (fun hp _ hk k=>Zew hl hp hk k) (fun k=>Ztq hl k) (Q1p l) hm (p:=p) ([],k) ⟨⟨trivial,by simp⟩,hp, .inl rfl⟩;exact⟨items,h1,h3,h4⟩
 have hle:(items.length:Int)<=max most (-1)+1:=by
  rcases h3 with h3|h3
  ·rw[h3];simp;omega
  ·omega
 refine⟨p,_,h1,?_,?_,fun hf=> ?_,fun hf=> ?_⟩
 ·cases fin
  ·simpa using h2
  ·simp only[if_true];exact L9 h2 (fun h=>absurd h (Qv Qp9)) (.inr Qp9)
 ·cases fin
  ·simp;omega
  ·simp;omega
 ·subst hf;exact⟨items,by simp,hle⟩
 ·subst hf;simpa using hle
theorem Qey {A:Nat} {items:List Itm} (hA:A<=1000000) (hm:∀it∈items,(AF it/\Made it/\Fs it/\bd A it.fr/\bd A it.to)\/Oth it):∀(k i:Nat) (last:Int) (p:Pt),i+k=items.length->Jc p (items.drop i)->(0<=last->(itA items last.toNat).to=p)->Gn items k i last=0
 |0,_,_,_,_,_,_=>rfl
 |k+1,i,last,p,hi,h,hp=>by
  have hlt:i<items.length:=by omega
  have hit:=hm _ (Q14 hlt);rw[Zj hlt]at h;unfold Jc at h;unfold Gn;have hw: ¬Cd (itA items i):=by
   rcases hit with⟨h1,h2,h3,h4,h5⟩|ho
   ·have hv:=Q9i h2 (AV h4 hA) (AV h5 hA);have hf:=h2.feed;have hb:=h2.blend;have hk:=h2.kind;rintro(g|g|⟨-,g|g|g|g⟩|⟨g,-⟩)
    ·omega
    ·omega
    ·exact g hv
    ·omega
    ·omega
    ·omega
    ·exact g h1
   ·have hk:=ho.kind;rintro(g|g|⟨g,-⟩|⟨-,g1,g2⟩)
    ·omega
    ·omega
    ·exact Qv ho g
    ·have:=ho.spin g1;omega
  rw[if_neg hw];by_cases c:AF (itA items i)
  ·rw[if_pos c]at h⊢;rw[if_neg (fun g=>g.2 (by rw[hp g.1];exact h.1.symm))];exact Qey hA hm k (i+1) i _ (by omega) h.2 (fun _=>by rw[Int.toNat_natCast])
  ·rw[if_neg c]at h⊢;exact Qey hA hm k (i+1) last p (by omega) h hp
theorem Q19 {A:Nat} {p:Pt} {items:List Itm} (hA:A<=1000000) (h:Items A p items) (hl:items.length<=20000):Dd items=0:=by
 unfold Dd;rw[if_neg (by omega)];exact Qey hA h.made items.length 0 (-1) p (by omega) (by rw[List.drop_zero];exact h.link) (fun h=>by omega)
end Go.Bm
namespace Go.Bm
theorem Zjq {M:Fn} (hM:∀{hi lo y:Nat},hi<y->y<w64->lo<w64->M [U hi,U lo,U y]=some [U (((hi*w64+lo)/y:Nat):Int),U (((hi*w64+lo)%y:Nat):Int)])
  {hi lo y:Nat} (hhi:hi<w64) (hlo:lo<w64) (hy0:0<y) (hy:y<w64):
  ∃qh ql:Nat,Qnk M [U hi,U lo,U y]=some [U qh,U ql,B (decide (0<(hi*w64+lo)%y))]/\qh<w64/\ql<w64/\qh*w64+ql=(hi*w64+lo)/y:=by
 have h1:=hM (hi:=0) (lo:=hi) hy0 hy hhi;rw[Nat.zero_mul,Nat.zero_add,show((0:Nat):Int)=0 from rfl]at h1;have hm:=Nat.mod_lt hi hy0;have h2:=hM (hi:=hi%y) (lo:=lo) hm hy hlo;have e:=Nat.div_add_mod hi y;have e2:hi*w64+lo=hi%y*w64+lo+hi/y*w64*y:=by
  have:hi*w64=hi/y*w64*y+hi%y*w64:=by
   rw[<-e,Nat.mul_add_mod,Nat.mod_mod];rw[show(y*(hi/y)+hi%y)/y=hi/y from by rw[e]];rw[Nat.add_mul,Nat.mul_comm y,Nat.mul_assoc,Nat.mul_comm y,Nat.mul_assoc]
  omega
 have hq:(hi*w64+lo)/y=(hi%y*w64+lo)/y+hi/y*w64:=by rw[e2,Nat.add_mul_div_right _ _ hy0]
 have hr:(hi*w64+lo)%y=(hi%y*w64+lo)%y:=by rw[e2,Nat.add_mul_mod_self_right]
 have hlt:(hi%y*w64+lo)/y<w64:=by
  rw[Nat.div_lt_iff_lt_mul hy0];have:hi%y*w64+w64<=y*w64:=by rw[<-Nat.succ_mul];exact Nat.mul_le_mul_right _ hm
  rw[Nat.mul_comm w64];omega
 refine⟨hi/y,(hi%y*w64+lo)/y,?_,Nat.lt_of_le_of_lt (Nat.div_le_self _ _) hhi,hlt,by rw[hq];omega⟩;rw[Zh9];simp only[go_sem,h1,h2,hr];by_cases c:0<(hi%y*w64+lo)%y
 ·rw[decide_eq_true c,decide_eq_true (show(((hi%y*w64+lo)%y:Nat):Int)>0 by omega)]
 ·rw[decide_eq_false c,decide_eq_false (show¬(((hi%y*w64+lo)%y:Nat):Int)>0 by omega)]
theorem Z2p {A n t:Nat} (hn:0<n) (h1:t*t<=2*A*(2*A)/n) (h2:2*A*(2*A)/n<(t+1)*(t+1)) (down:Bool) {E:Prop} [Decidable E] (hE:E↔(2*A*(2*A)%n=0/\t*t=2*A*(2*A)/n)):
  Ev A n down (if t%2=1/\(¬E\/down=false)then t/2+1 else t/2):=by
 have e4:2*A*(2*A)=4*(A*A):=by grind
 have k1:t*t*n<=2*A*(2*A):=(Nat.le_div_iff_mul_le hn).1 h1;have k2:2*A*(2*A)<(t+1)*(t+1)*n:=(Nat.div_lt_iff_lt_mul hn).1 h2;have k3:(2*A*(2*A)%n=0/\t*t=2*A*(2*A)/n)↔t*t*n=2*A*(2*A):=by
  have hd:=Nat.div_add_mod (2*A*(2*A)) n;constructor
  ·rintro⟨g1,g2⟩;rw[g2,Nat.mul_comm];omega
  ·intro g;rw[<-g];exact⟨Nat.mul_mod_left _ _,(Nat.mul_div_cancel _ hn).symm⟩
 have k4:=hE.trans k3;rw[e4]at k1 k2 k4;clear hE k3 h1 h2;generalize hQ:4*(A*A)=Q at*;unfold Ev;rw[hQ];rcases Nat.mod_two_eq_zero_or_one t with ht|ht
 ·rw[if_neg (by omega)];obtain⟨m,rfl⟩:∃m,t=2*m:=⟨t/2,by omega⟩;rw[show 2*m/2=m by omega];have h5:(2*m+1)*(2*m+1)*n<=(2*m+1)*(2*m+1)*n:=Nat.le_refl _;refine⟨?_,?_⟩
  ·rcases Nat.eq_zero_or_pos m with hm|hm
   ·exact .inl hm
   ·right;have h6:(2*m-1)*(2*m-1)*n<2*m*(2*m)*n:=Nat.mul_lt_mul_of_pos_right (Nat.mul_self_lt_mul_self (by omega)) hn;split<;>omega
  ·split<;>omega
 ·obtain⟨m,rfl⟩:∃m,t=2*m+1:=⟨t/2,by omega⟩;rw[show(2*m+1)/2=m by omega];have h6:(2*m+1+1)*(2*m+1+1)*n<=(2*(m+1)+1)*(2*(m+1)+1)*n:=OL (by omega);have h7:(2*m-1)*(2*m-1)*n<(2*m+1)*(2*m+1)*n:=Nat.mul_lt_mul_of_pos_right (Nat.mul_self_lt_mul_self (by omega)) hn;have h8:2*(m+1)-1=2*m+1:=by omega
  by_cases c: ¬E\/down=false
  ·rw[if_pos ⟨ht,c⟩,h8];refine⟨.inr ?_,?_⟩
   ·cases down
    ·simp only[Bool.false_eq_true,if_false];exact k1
    ·simp only[if_true];rcases c with c|c
     ·exact Nat.lt_of_le_of_ne k1 fun h=>c (k4.2 h)
     ·cases c
   ·split<;>omega
  ·have c1:(2*m+1)*(2*m+1)*n=Q:=by
    by_cases g:E
    ·exact k4.1 g
    ·exact absurd (.inl g) c
   have c2:down=true:=by
    cases down
    ·exact absurd (.inr rfl) c
    ·rfl
   subst c2;rw[if_neg (fun h=>c h.2)];simp only[if_true];exact⟨.inr (by omega),by omega⟩
theorem Zjc {x d:Int}:sgn x d<0↔x*d<0:=by
 rcases R2 x d with⟨h,g⟩|⟨h,g⟩|⟨h,g⟩<;>omega
theorem Zqp {MSg MG MS MR MQ MP MK MZ:Fn} {x d:Int} {n X D h1 l1 qh ql t h2 l2:Nat} (hX:X<=2147483648) (hD:D<=2147483648) (hn:0<n/\n<=4611686018427387904)
  (z1:MZ [I x]=some [U X]) (z2:MZ [I d]=some [U D]) (hk:MK [I 2]=some [B true]) (hp1:MP [U ((2*(X*D):Nat):Int),U ((2*(X*D):Nat):Int)]=some [U h1,U l1])
  (hq1:MQ [U h1,U l1,U n]=some [U qh,U ql,B (decide (0<2*(X*D)*(2*(X*D))%n))]) (hq2:qh*w64+ql=2*(X*D)*(2*(X*D))/n) (hql:ql<w64) (hr1:MR [U qh,U ql]=some [U t]) (ht2:t<w64)
  (hp2:MP [U t,U t]=some [U h2,U l2]) (hp3:h2*w64+l2=t*t) (hl2:l2<w64) (hs:MS [I x,I d]=some [I (sgn x d)])
  (hg:∀(more:Int) (some_ neg:Bool),MG [I 2,I more,B some_,B neg]=some [B (if more>0 then true else if more=0 then !neg else false)])
  (g1:∀{n:Nat},n<9223372036854775808->MSg [U n,B false]=some [I n,B true]) (g2:∀{n:Nat},n<=9223372036854775808->MSg [U n,B true]=some [I (-(n:Int)),B true]) {J:Nat}
  (hJ1:t%2=1->(¬(2*(X*D)*(2*(X*D))%n=0/\t*t=2*(X*D)*(2*(X*D))/n)\/ ¬sgn x d<0)->J=t/2+1) (hJ3: ¬(t%2=1/\(¬(2*(X*D)*(2*(X*D))%n=0/\t*t=2*(X*D)*(2*(X*D))/n)\/ ¬sgn x d<0))->J=t/2) (hJ2:t<=9223372036854775808):
  Wr MSg MG MS MR MQ MP MK MZ [I x,I d,I n,I 2]=some [I (if sgn x d<0 then-(J:Int)else J),B true]:=by
 have hXD:X*D<=2147483648*2147483648:=Nat.mul_le_mul hX hD;have w1:wrap .u64 (2*wrap .u64 ((X:Int)*(D:Int)))=((2*(X*D):Nat):Int):=by
  rw[<-Int.natCast_mul,wr (by omega),show(2:Int)*((X*D:Nat):Int)=((2*(X*D):Nat):Int) by omega,wr (by omega)]
 have w2:wrap .u64 (n:Int)=n:=wr (by omega);have w3:((t:Int)).tdiv 2=((t/2:Nat):Int):=Qbq t 2;have w4:wrap .u64 ((t/2:Nat):Int)=((t/2:Nat):Int):=wr (by rw[BI]at ht2;omega);have w5:wrap .u64 (((t/2:Nat):Int)+1)=((t/2+1:Nat):Int):=by rw[show((t/2:Nat):Int)+1=((t/2+1:Nat):Int) by omega,wr (by rw[BI]at ht2;omega)]
 have w6:((t:Int).tmod 2=1)=(t%2=1):=by
  rw[Int.tmod_eq_emod_of_nonneg (by omega)];exact propext ⟨by omega,by omega⟩
 have hgt:∀(neg:Bool) (k:Nat),k<9223372036854775808->MSg [U k,B neg]=some [I (if neg=true then-(k:Int)else k),B true]:=by
  intro neg k hk;cases neg
  ·exact g1 hk
  ·exact g2 (by omega)
 have key:∀(neg:Bool) (k:Nat),decide (sgn x d<0)=neg->J=k->k<9223372036854775808->MSg [U k,B neg]=some [I (if sgn x d<0 then-(J:Int)else J),B true]:=by
  intro neg k h1 h2 h3;rw[hgt neg k h3,h2];congr 3;by_cases c:sgn x d<0
  ·rw[if_pos c,if_pos (by rw[<-h1];exact decide_eq_true c)]
  ·rw[if_neg c,if_neg (by rw[<-h1];simpa using c)]
 have eqq:(h2=qh/\l2=ql)↔t*t=2*(X*D)*(2*(X*D))/n:=by
  rw[<-hp3,<-hq2];constructor
  ·rintro⟨rfl,rfl⟩;rfl
  ·intro h;have a1:∀p q u v:Nat,u<w64->v<w64->p*w64+u=q*w64+v->p=q/\u=v:=by
    intro p q u v hu hv h;rcases Nat.lt_trichotomy p q with c|c|c
    ·have:=Nat.mul_le_mul_right w64 (show p+1<=q from c);rw[Nat.succ_mul]at this;omega
    ·subst c;exact⟨rfl,by omega⟩
    ·have:=Nat.mul_le_mul_right w64 (show q+1<=p from c);rw[Nat.succ_mul]at this;omega
   exact a1 _ _ _ _ hl2 hql h
 rw[Q88];simp only[go_sem,z1,z2,hk,w1,w2,hp1,hq1,hr1,hs,hp2,w3,w4,w5,hg];rw[if_neg (by omega),if_neg (by omega),if_neg (by omega),if_neg (by omega),if_neg (by simp)];have ht63:t/2+1<9223372036854775808:=by omega
 have hT:∀k:Nat,J=k->k<9223372036854775808->((MSg [U (k:Int),B (decide (sgn x d<0))]).bind fun o=>some [I (Af (nth .dead o 0)),B (CV (nth .dead o 1))])=some [I (if sgn x d<0 then-(J:Int)else J),B true]:=by
  intro k h1 h2;rw[key _ k rfl h1 h2];rfl
 have e3:((h2:Int)=qh/\(l2:Int)=ql/\True)=(t*t=2*(X*D)*(2*(X*D))/n):=by
  rw[<-propext eqq];exact propext ⟨fun h=>⟨by omega,by omega⟩,fun h=>⟨by omega,by omega,trivial⟩⟩
 simp only[e3,w6];have n1:((1:Int)>0)=True:=by simp
 have n2:((-1:Int)>0)=False:=by simp
 have n3:((-1:Int)=0)=False:=by simp
 have n4:((0:Int)>0)=False:=by simp
 by_cases cR:2*(X*D)*(2*(X*D))%n=0
 ·rw[if_neg (show¬0<2*(X*D)*(2*(X*D))%n by omega)];by_cases ct:t%2=1
  ·by_cases cE:t*t=2*(X*D)*(2*(X*D))/n
   ·by_cases cn:sgn x d<0
    ·have:=hJ3 (fun h=>h.2.elim (fun g=>g ⟨cR,cE⟩) fun g=>g cn);simp only[n1,n2,n3,n4,Bool.false_eq_true,ct,cE,not_true_eq_false,if_true,if_false];rw[if_neg (by simp[cn])];exact hT _ this (by omega)
    ·have:=hJ1 ct (.inr cn);simp only[n1,n2,n3,n4,Bool.false_eq_true,ct,cE,not_true_eq_false,if_true,if_false];rw[if_pos (by simp;omega)];exact hT _ this ht63
   ·have:=hJ1 ct (.inl fun g=>cE g.2);simp only[n1,n2,n3,n4,Bool.false_eq_true,ct,cE,not_true_eq_false,not_false_eq_true,if_true,if_false];exact hT _ this ht63
  ·have:=hJ3 (fun h=>ct h.1);simp only[n1,n2,n3,n4,Bool.false_eq_true,ct,if_false,ite_self];exact hT _ this (by omega)
 ·rw[if_pos (show 0<2*(X*D)*(2*(X*D))%n by omega)];by_cases ct:t%2=1
  ·have:=hJ1 ct (.inl fun g=>cR g.1);simp only[n1,n2,n3,n4,Bool.false_eq_true,ct,not_false_eq_true,if_true];exact hT _ this ht63
  ·have:=hJ3 (fun h=>ct h.1);simp only[n1,n2,n3,n4,Bool.false_eq_true,ct,not_false_eq_true,if_true,if_false];exact hT _ this (by omega)
theorem Ztu {x d:Int} {n:Nat} {J:Nat} (hn:0<n) (hd:0<=d) (hi:Ev (x.natAbs*d.natAbs) n (decide (x*d<0)) J):(if x*d<0 then-(J:Int)else J)=BY x d n:=by
 unfold BY;rw[Int.natAbs_natCast];by_cases hx:x<0
 ·rw[if_pos hx];by_cases hd0:d=0
  ·subst hd0;rw[Int.mul_zero,if_neg (by omega)];rw[show x.natAbs*(0:Int).natAbs=0 from by simp]at hi⊢;have e1:Ev 0 n true 0:=⟨.inl rfl,by simp⟩;rw[Rm e1];obtain⟨h1,-⟩:=hi;rw[decide_eq_false (by simp)]at h1;simp only[Bool.false_eq_true,if_false]at h1;rcases h1 with h1|h1
   ·omega
   ·rcases Nat.eq_zero_or_pos J with hJ|hJ
    ·omega
    ·have h2:=Nat.mul_pos (Nat.mul_pos (show 0<2*J-1 by omega) (show 0<2*J-1 by omega)) hn;omega
  ·have hxd:x*d<0:=Int.mul_neg_of_neg_of_pos hx (by omega);rw[decide_eq_true hxd]at hi;rw[if_pos hxd,Rm hi]
 ·rw[if_neg hx];have hxd: ¬x*d<0:=by have:=Int.mul_nonneg (show 0<=x by omega) hd;omega
  rw[decide_eq_false hxd]at hi;rw[if_neg hxd,Rm hi]
theorem Qjo {x d n:Int} (hx:x.natAbs<=2147483648) (hd:0<=d/\d<=2147483648) (hn:0<n/\n<=4611686018427387904):H6 [I x,I d,I n,I 2]=some [I (BY x d n),B true]:=by
 obtain⟨N,rfl⟩:=Int.eq_ofNat_of_zero_le (show 0<=n by omega);have hD:d.natAbs<=2147483648:=by omega
 have hXD:x.natAbs*d.natAbs<=2147483648*2147483648:=Nat.mul_le_mul hx hD;have hN:0<N/\N<=4611686018427387904:=by omega
 have hp:2*(x.natAbs*d.natAbs)<w64:=by rw[BI];omega
 obtain⟨h1,l1,e1,e2,e3⟩:=NG hp hp;have hNw:N<w64:=by rw[BI];omega
 have hh1:h1<w64:=by
  have:=Nat.mul_lt_mul'' hp hp;rw[<-e2]at this;by_cases c:h1<w64
  ·exact c
  ·have:=Nat.mul_le_mul_right w64 (show w64<=h1 by omega);omega
 obtain⟨qh,ql,q1,q2,q3,q4⟩:=Zjq (M:=Gv) Q5f hh1 e3 hN.1 hNw;rw[e2]at q1 q4;obtain⟨t,r1,r2,r3,r4⟩:=Q0g q2 q3;rw[q4]at r2 r3;obtain⟨h2,l2,p1,p2,p3⟩:=NG r4 r4;have ht:t<=9223372036854775808:=by
  have k1:t*t<=2*(x.natAbs*d.natAbs)*(2*(x.natAbs*d.natAbs)):=Nat.le_trans r2 (Nat.div_le_self _ _);have k2:=Nat.mul_self_le_mul_self_iff.1 k1;omega
 have hi:=Z2p hN.1 r2 r3 (decide (x*d<0)) (E:=2*(x.natAbs*d.natAbs)*(2*(x.natAbs*d.natAbs))%N=0/\t*t=2*(x.natAbs*d.natAbs)*(2*(x.natAbs*d.natAbs))/N) Iff.rfl;have hres:=Ztu hN.1 hd.1 hi;rw[<-hres];have:= @Zjc x d;have hif:∀a:Int,(if x*d<0 then-a else a)=if sgn x d<0 then-a else a:=by
  intro a;by_cases c:x*d<0
  ·rw[if_pos c,if_pos (this.2 c)]
  ·rw[if_neg c,if_neg (fun h=>c (this.1 h))]
 rw[hif];refine Zqp (X:=x.natAbs) (D:=d.natAbs) hx hD hN (HY (by unfold i64;omega)) (HY (by unfold i64;omega)) (Qgr (.inr (.inr rfl))) e1 q1 q4 q3 r1 r4 p1 p2 p3 (Qb5 x d) Q5j Qgf Q1e (fun h1 h2=> ?_) (fun h=> ?_) ht
 ·rw[if_pos ⟨h1,h2.imp id fun h=>decide_eq_false fun g=>h (this.2 g)⟩]
 ·rw[if_neg fun g=>h ⟨g.1,g.2.imp id fun k g2=>by rw[decide_eq_false_iff_not]at k;exact k (this.1 g2)⟩]
end Go.Bm
