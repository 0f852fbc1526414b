/- The abstract machine, second form: calls that leave the memory as it is, told by their results alone. -/
import Derived.Test.YtommijghjlikkaaGreatBmLaw
set_option linter.unusedVariables false
set_option linter.unusedSimpArgs false
namespace Go.Bm
theorem Zen {rl:Nat->Nat} {c:CS} {a:AC} {v:List AC} (he:X6 c a=true) (h:JI c a=some v) {l:List AC} {i:Nat} (hs:Seg l i v):D6 rl l c i=(a,i+v.length):=by
 cases c<;>cases a<;>simp only[X6]at he<;>try (simp at he;done)
 case int.int k k' n=>
  simp only[JI,he,cond_true,Option.some.injEq]at h;subst h;simp only[D6,hs.one,Af,Ol he,List.length_cons,List.length_nil]
 case bool.bool b=>
  simp only[JI,Option.some.injEq]at h;subst h;simp only[D6,hs.one,CV,List.length_cons,List.length_nil]
 case sl.view ks ks' q=>
  simp only[JI,he,cond_true,Option.some.injEq]at h;subst h;simp only[D6,hs.one,BL,IU he,List.length_cons,List.length_nil]
 case ptr.ptr k o k' o'=>
  simp only[JI,he,cond_true,Option.some.injEq]at h;subst h;simp only[Bool.and_eq_true]at he;simp only[D6,Nat.eq_of_beq_eq_true he.1,Nat.eq_of_beq_eq_true he.2,List.length_nil,Nat.add_zero]
theorem Qpn {rl:Nat->Nat} {l:List AC}:∀{cs:List CS} {as:List AC} {v:List AC},Nv cs as=true->GB cs as=some v->∀{i},Seg l i v->D7 rl l cs i=(as,i+v.length)
 |[],[],v,_,h,i,_=>by simp[GB]at h;subst h;rfl
 |c::cs,a::as,v,he,h,i,hs=>by
  simp only[Nv,Bool.and_eq_true]at he;simp only[GB]at h;split at h
  ·rename_i v1 h1;split at h
   ·rename_i v2 h2;simp at h;subst h;simp only[D7,Zen he.1 h1 hs.left,Qpn he.2 h2 hs.right,List.length_append,Nat.add_assoc]
   ·simp at h
  ·simp at h
 |[],_::_,_,he,_,_,_=>by simp[Nv]at he
 |_::_,[],_,he,_,_,_=>by simp[Nv]at he
theorem Qwa {rl:Nat->Nat} {l:List AC} {boxes:List (Nat×Box)}:∀{bs:List (Nat×TypeId×List CS)} {m:List (Nat×Box)} {v:List AC},HE bs m=true->(∀p∈m,Ab boxes p.1=some p.2)->
  Kk bs boxes=some v->∀{i},Seg l i v->ES rl l bs i=m
 |[],[],v,_,_,_,i,_=>rfl
 |(k,t,cs)::bs,(k',b)::m,v,he,hl,h,i,hs=>by
  simp only[HE,Bool.and_eq_true]at he;obtain⟨e1,e2,e3,e4⟩:=he;have e1:=Nat.eq_of_beq_eq_true e1;subst e1;have hb:=hl (k,b) (by simp);dsimp only at hb;simp only[Kk,hb,e2,cond_true]at h;split at h
  ·rename_i v1 h1;split at h
   ·rename_i v2 h2;simp at h;subst h;simp only[ES,Qpn e3 h1 hs.left,Qwa e4 (fun p hp=>hl p (by simp[hp])) h2 hs.right];obtain⟨ty,cells⟩:=b;simp only[Nat.eq_of_beq_eq_true e2]
   ·simp at h
  ·simp at h
 |[],_::_,_,he,_,_,_,_=>by simp[HE]at he
 |_::_,[],_,he,_,_,_,_=>by simp[HE]at he
theorem Qw2:∀{bs:List (Nat×TypeId×List CS)} {m:List (Nat×Box)},HE bs m=true->m.map (·.1)=bs.map (·.1)
 |[],[],_=>rfl
 |(k,t,cs)::bs,(k',b)::m,he=>by
  simp only[HE,Bool.and_eq_true]at he;simp only[List.map_cons,Qw2 he.2.2.2,Nat.eq_of_beq_eq_true he.1]
 |[],_::_,he=>by simp[HE]at he
 |_::_,[],he=>by simp[HE]at he
theorem Zsg {sig osig:Sk} {m:List AC->Option (List AC)} (R:Type) (args:List TV) (mem:Mem) (K:TV->Mem->Option R):E7 sig osig m R args mem K=(E7 sig osig m (TV×Mem) args mem fun v m=>some (v,m)).bind fun p=>K p.1 p.2:=by
 obtain⟨boxes,rows⟩:=mem;simp only[E7];cases(Aj (fun p:Nat×Box=>F0 p.1) boxes&&(HE sig.boxes boxes&&(rows.isEmpty&&(sig.rows.isEmpty&&BF (sig.boxes.map (·.1))))))
 ·rfl
 ·simp only[cond_true];cases E8 sig ⟨args,boxes,rows⟩with
  |none=>rfl
  |some vars=>
   dsimp only;cases m vars with
   |none=>rfl
   |some o=>
    simp only[Option.bind_some];generalize Bn osig o=s;obtain⟨tm,b,r⟩:=s;cases b<;>cases r<;>try rfl
    dsimp only;split<;>rfl
theorem Zs3 {sig osig:Sk} {m:List AC->Option (List AC)}:Q0 (E7 sig osig m):=by
 intro args mem v mm h;obtain⟨boxes,rows⟩:=mem;simp only[E7]at h;obtain⟨_,h⟩:=BQ h;split at h
 ·simp only[Option.bind_eq_some_iff]at h;obtain⟨o,_,h⟩:=h;split at h
  ·split at h
   ·simp only[Option.some.injEq,Prod.mk.injEq]at h;exact h.2.symm
   ·simp at h
  ·simp at h
 ·simp at h
theorem GN {rs:List Nat}:AllRo rs []:=trivial
theorem B7 {rs:List Nat} {k:Nat} {g:Spec} {l:List (Nat×Spec)} (h:AK rs k=false) (t:AllRo rs l):AllRo rs ((k,g)::l):=⟨.inl h,t⟩
theorem EY {rs:List Nat} {k:Nat} {sig osig:Sk} {m:List AC->Option (List AC)} {l:List (Nat×Spec)} (t:AllRo rs l):AllRo rs ((k,E7 sig osig m)::l):=⟨.inr Zs3,t⟩
def Zgw (P:Program) (C:Cfg) (L:Nat) (f:FuncId) (sig:Sk):Prop:=
 ∀(vars:List AC) (R:Type) (K:TV->Mem->Option R),Fk P C L f (Bn sig vars).tmps ⟨(Bn sig vars).boxes,(Bn sig vars).rows⟩ K=Fk P C L f (Bn sig vars).tmps ⟨(Bn sig vars).boxes,(Bn sig vars).rows⟩ fun v _=>K v ⟨(Bn sig vars).boxes,(Bn sig vars).rows⟩
open Classical in
theorem TM {P:Program} {C:Cfg} {f:FuncId} {L:Nat} {sig osig:Sk} (hc:KF P f=true) (h:FnOK P C f) (hspec:Ai P C) (hok:∀t∈C.eqOk,P.stoodInHeld t=false) (hmix:P.follows .mixedOrders=true)
  (h1:sig.okB=true) (h2:osig.okB=true) (hl:Zgw P C L f sig):Al P (f,E7 sig osig (Ob P C L f sig osig)):=by
 refine⟨Zsg,fun args mem v mem' hv=>PCallM.x ?_ (Q5 hc)⟩;obtain⟨boxes,rows⟩:=mem;simp only[E7]at hv;obtain⟨hin,hv⟩:=BQ hv;simp only[Bool.and_eq_true]at hin;obtain⟨hin,hex,hr1,hr2,hdist⟩:=hin;have hr1:rows=[]:=by simpa using hr1
 have hr2:sig.rows=[]:=by simpa using hr2
 subst hr1;split at hv
 ·rename_i vars hvars;simp only[Option.bind_eq_some_iff]at hv;obtain⟨o,ho,hv⟩:=hv;intro F w ρ xs hR0;have hZ:InZ (E0 F w ρ boxes):=ZN hin;have hR1:=hR0.rebuild hZ h1 hvars
  have hboxes:(Bn sig vars).boxes=boxes:=by
   simp only[E8]at hvars;obtain⟨_,hvars⟩:=BQ hvars;rw[hr2]at hvars;simp only[Jg]at hvars;split at hvars
   ·rename_i b hb;split at hvars
    ·rename_i c hcc;simp only[List.nil_append,Option.some.injEq]at hvars;subst hvars;simp only[Bn,hr2,Gz];have hts:=QV (boxes:=boxes) (rows:=[]) (ρ:=ρ) (w:=w) (rl:=Dy []) ⟨fun id r hl=>by simp[Ab]at hl⟩ hb (l:=b++c) (i:=0) (Seg.all _).left;generalize hbt:EQ (Dy []) (b++c) sig.tmps 0=q at hts;obtain⟨tm,i⟩:=q;have hi:i=0+b.length:=hts.1;subst hi;have hkeys:=Qw2 hex;refine Qwa hex (fun p hp=>RE (by rw[hkeys];exact hdist) hp) hcc (Seg.all (b++c)).right
    ·simp at hvars
   ·simp at hvars
  have hrows:(Bn sig vars).rows=[]:=by simp only[Bn,hr2,Gz]
  have hl':=hl vars;unfold Ob at ho;generalize hs:Bn sig vars=s1 at ho hR1 hl' hboxes hrows;obtain⟨args1,boxes1,rows1⟩:=s1;dsimp only at ho hR1 hl' hboxes hrows;subst hboxes;subst hrows;have hrun:Fk P C L f args1 ⟨boxes1,[]⟩ (fun v m=>if m=⟨boxes1,[]⟩then E8 osig ⟨[v],[],[]⟩else none)=some o:=by
   rw[hl'];simp only[if_true];exact ho
  refine(Qyc hspec hok hmix hZ (fun _ hcode=>h.sub hcode) hrun hR1).mono ?_;rintro e w' ⟨x,ρ',v',m',he,hro,hR2⟩;split at hro
  ·rename_i hm;subst hm;dsimp only at hR2
   simp only[E8]at hro;obtain⟨_,hro⟩:=BQ hro;split at hro
   ·rename_i a ha;split at hro
    ·rename_i b hb;split at hro
     ·rename_i c hcc;simp only[Option.some.injEq]at hro;subst hro;split at hv
      ·rename_i tm hbs;split at hv
       ·rename_i vn;simp only[Option.some.injEq,Prod.mk.injEq]at hv;obtain⟨rfl,rfl⟩:=hv;have hosr:osig.rows=[]:=by
         cases hor:osig.rows with
         |nil=>rfl
         |cons p l=>obtain⟨k,t,ks⟩:=p;rw[hor]at ha;simp[Jg,Ab]at ha
        rw[hosr]at ha;simp only[Jg,Option.some.injEq]at ha;subst ha;have hts:=QV (boxes:=boxes1) (rows:=[]) (ρ:=ρ') (w:=w') (rl:=Dy []) ⟨fun id r hl=>by simp[Ab]at hl⟩ hb (l:=[]++(b++c)) (i:=0) (show Seg (b++c) 0 b from(Seg.all (b++c)).left);simp only[Bn,hosr,Gz]at hbs;have hwfT:=Qib (B':=boxes1) (R':=[]) (keys:=[]) (rs:=[]) (rl:=Dy []) (by simp) (by simp[Ab]) (ts:=osig.tmps)
         (by
          have:=h2;simp only[Sk.okB,Bool.and_eq_true]at this;have hob:osig.boxes=[]:=by
           cases hbx:osig.boxes with
           |nil=>rfl
           |cons p l=>obtain⟨k,t,ks⟩:=p;rw[hbx]at hcc;simp[Kk,Ab]at hcc
          have h3:=this.1.2;rw[hob,hosr]at h3;exact h3) ([]++(b++c)) 0
        generalize hbt:EQ (Dy []) ([]++(b++c)) osig.tmps 0=q at hts hbs hwfT;obtain⟨tm',i⟩:=q;simp only[St.mk.injEq]at hbs;obtain⟨rfl,_,_⟩:=hbs;obtain⟨u,hu1,hu2⟩:=hts.2.2 0 vn rfl;simp only[List.getElem?_cons_zero,Option.some.injEq]at hu1;subst hu1;refine⟨x,ρ',he,hR2.slots (by simp) (fun i u hi=> ?_) (fun u hu=>hwfT u hu)⟩;cases i with
        |zero=>
         simp at hi;subst hi;have:=hR2.tv 0 v' rfl;exact hu2 _ (hR2.wt v' (by simp)) this
        |succ i=>simp at hi
       ·simp at hv
      ·simp at hv
     ·simp at hro
    ·simp at hro
   ·simp at hro
  ·simp at hro
 ·simp at hv
end Go.Bm
