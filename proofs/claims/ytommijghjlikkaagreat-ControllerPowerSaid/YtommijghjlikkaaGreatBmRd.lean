/- The abstract machine, second form: calls that leave the memory as it is, told by their results alone. -/
import Derived.Test.YtommijghjlikkaaGreatBmLaw
set_option linter.unusedVariables false
set_option linter.unusedSimpArgs false
namespace Go.Bm

theorem Zwg {rl:Nat->Nat} {c:CS} {a:AC} {v:List AC} (he:Qh7 c a=true) (h:JZ c a=some v) {l:List AC} {i:Nat} (hs:Seg l i v):DG rl l c i=(a,i+v.length):=by
 cases c<;>cases a<;>simp only[Qh7]at he<;>try (simp at he;done)
 case int.int k k' n=>
  simp only[JZ,he,cond_true,Option.some.injEq]at h;subst h
  simp only[DG,hs.one,Af,NO he,List.length_cons,List.length_nil]
 case bool.bool b=>
  simp only[JZ,Option.some.injEq]at h;subst h
  simp only[DG,hs.one,B6,List.length_cons,List.length_nil]
 case sl.view ks ks' q=>
  simp only[JZ,he,cond_true,Option.some.injEq]at h;subst h
  simp only[DG,hs.one,Br,IH he,List.length_cons,List.length_nil]
 case ptr.ptr k o k' o'=>
  simp only[JZ,he,cond_true,Option.some.injEq]at h;subst h
  simp only[Bool.and_eq_true]at he
  simp only[DG,Nat.eq_of_beq_eq_true he.1,Nat.eq_of_beq_eq_true he.2,List.length_nil,Nat.add_zero]
theorem Q3g {rl:Nat->Nat} {l:List AC}:∀{cs:List CS} {as:List AC} {v:List AC},LO cs as=true->Gv cs as=some v->∀{i},Seg l i v->DM rl l cs i=(as,i+v.length)
 |[],[],v,_,h,i,_=>by simp[Gv]at h;subst h;rfl
 |c::cs,a::as,v,he,h,i,hs=>by
  simp only[LO,Bool.and_eq_true]at he
  simp only[Gv]at h
  split at h
  ·rename_i v1 h1
   split at h
   ·rename_i v2 h2
    simp at h;subst h
    simp only[DM,Zwg he.1 h1 hs.left,Q3g he.2 h2 hs.right,List.length_append,Nat.add_assoc]
   ·simp at h
  ·simp at h
 |[],_::_,_,he,_,_,_=>by simp[LO]at he
 |_::_,[],_,he,_,_,_=>by simp[LO]at he
theorem Q2v {rl:Nat->Nat} {l:List AC} {boxes:List (Nat×Box)}:∀{bs:List (Nat×TypeId×List CS)} {m:List (Nat×Box)} {v:List AC},G1 bs m=true->(∀p∈m,Ab boxes p.1=some p.2)->
  I9 bs boxes=some v->∀{i},Seg l i v->EF rl l bs i=m
 |[],[],v,_,_,_,i,_=>rfl
 |(k,t,cs)::bs,(k',b)::m,v,he,hl,h,i,hs=>by
  simp only[G1,Bool.and_eq_true]at he
  obtain⟨e1,e2,e3,e4⟩:=he
  have e1:=Nat.eq_of_beq_eq_true e1
  subst e1
  have hb:=hl (k,b) (by simp)
  dsimp only at hb
  simp only[I9,hb,e2,cond_true]at h
  split at h
  ·rename_i v1 h1
   split at h
   ·rename_i v2 h2
    simp at h;subst h
    simp only[EF,Q3g e3 h1 hs.left,Q2v e4 (fun p hp=>hl p (by simp[hp])) h2 hs.right]
    obtain⟨ty,cells⟩:=b
    simp only[Nat.eq_of_beq_eq_true e2]
   ·simp at h
  ·simp at h
 |[],_::_,_,he,_,_,_,_=>by simp[G1]at he
 |_::_,[],_,he,_,_,_,_=>by simp[G1]at he
theorem Qwp:∀{bs:List (Nat×TypeId×List CS)} {m:List (Nat×Box)},G1 bs m=true->m.map (·.1)=bs.map (·.1)
 |[],[],_=>rfl
 |(k,t,cs)::bs,(k',b)::m,he=>by
  simp only[G1,Bool.and_eq_true]at he
  simp only[List.map_cons,Qwp he.2.2.2,Nat.eq_of_beq_eq_true he.1]
 |[],_::_,he=>by simp[G1]at he
 |_::_,[],he=>by simp[G1]at he

theorem Zth {sig osig:Sk} {m:List AC->Option (List AC)} (R:Type) (args:List TV) (mem:Mem) (K:TV->Mem->Option R):Ep sig osig m R args mem K=(Ep sig osig m (TV×Mem) args mem fun v m=>some (v,m)).bind fun p=>K p.1 p.2:=by
 obtain⟨boxes,rows⟩:=mem
 simp only[Ep]
 cases(Aj (fun p:Nat×Box=>FQ p.1) boxes&&(G1 sig.boxes boxes&&(rows.isEmpty&&(sig.rows.isEmpty&&Bw (sig.boxes.map (·.1))))))
 ·rfl
 ·simp only[cond_true]
  cases EX sig ⟨args,boxes,rows⟩with
  |none=>rfl
  |some vars=>
   dsimp only
   cases m vars with
   |none=>rfl
   |some o=>
    simp only[Option.bind_some]
    generalize Bf osig o=s
    obtain⟨tm,b,r⟩:=s
    cases b<;>cases r<;>try rfl
    dsimp only
    split<;>rfl
theorem Zfj {sig osig:Sk} {m:List AC->Option (List AC)}:Sc (Ep sig osig m):=by
 intro args mem v mm h
 obtain⟨boxes,rows⟩:=mem
 simp only[Ep]at h
 obtain⟨_,h⟩:=BK h
 split at h
 ·simp only[Option.bind_eq_some_iff]at h
  obtain⟨o,_,h⟩:=h
  split at h
  ·split at h
   ·simp only[Option.some.injEq,Prod.mk.injEq]at h;exact h.2.symm
   ·simp at h
  ·simp at h
 ·simp at h

theorem F_ {rs:List Nat}:AllRo rs []:=trivial
theorem BZ {rs:List Nat} {k:Nat} {g:Spec} {l:List (Nat×Spec)} (h:AH rs k=false) (t:AllRo rs l):AllRo rs ((k,g)::l):=⟨.inl h,t⟩
theorem EA {rs:List Nat} {k:Nat} {sig osig:Sk} {m:List AC->Option (List AC)} {l:List (Nat×Spec)} (t:AllRo rs l):AllRo rs ((k,Ep sig osig m)::l):=⟨.inr Zfj,t⟩

def Zvp (P:Program) (C:Cfg) (L:Nat) (f:FuncId) (sig:Sk):Prop:=
 ∀(vars:List AC) (R:Type) (K:TV->Mem->Option R),EI P C L f (Bf sig vars).tmps ⟨(Bf sig vars).boxes,(Bf sig vars).rows⟩ K=EI P C L f (Bf sig vars).tmps ⟨(Bf sig vars).boxes,(Bf sig vars).rows⟩ fun v _=>K v ⟨(Bf sig vars).boxes,(Bf sig vars).rows⟩

open Classical in
theorem RN {P:Program} {C:Cfg} {f:FuncId} {L:Nat} {sig osig:Sk} (hc:KI P f=true) (h:FnOK P C f) (hspec:Ai P C) (hok:∀t∈C.eqOk,P.stoodInHeld t=false) (hmix:P.follows .mixedOrders=true)
  (h1:sig.okB=true) (h2:osig.okB=true) (hl:Zvp P C L f sig):Al P (f,Ep sig osig (L2 P C L f sig osig)):=by
 refine⟨Zth,fun args mem v mem' hv=>PCallM.x ?_ (RO hc)⟩
 obtain⟨boxes,rows⟩:=mem
 simp only[Ep]at hv
 obtain⟨hin,hv⟩:=BK hv
 simp only[Bool.and_eq_true]at hin
 obtain⟨hin,hex,hr1,hr2,hdist⟩:=hin
 have hr1:rows=[]:=by simpa using hr1
 have hr2:sig.rows=[]:=by simpa using hr2
 subst hr1
 split at hv
 ·rename_i vars hvars
  simp only[Option.bind_eq_some_iff]at hv
  obtain⟨o,ho,hv⟩:=hv
  intro F w ρ xs hR0
  have hZ:InZ (EB F w ρ boxes):=XT hin
  have hR1:=hR0.rebuild hZ h1 hvars

  have hboxes:(Bf sig vars).boxes=boxes:=by
   simp only[EX]at hvars
   obtain⟨_,hvars⟩:=BK hvars
   rw[hr2]at hvars
   simp only[IA]at hvars
   split at hvars
   ·rename_i b hb
    split at hvars
    ·rename_i c hcc
     simp only[List.nil_append,Option.some.injEq]at hvars
     subst hvars
     simp only[Bf,hr2,GM]
     have hts:=SM (boxes:=boxes) (rows:=[]) (ρ:=ρ) (w:=w) (rl:=Dy []) ⟨fun id r hl=>by simp[Ab]at hl⟩ hb (l:=b++c) (i:=0) (Seg.all _).left
     generalize hbt:Ez (Dy []) (b++c) sig.tmps 0=q at hts
     obtain⟨tm,i⟩:=q
     have hi:i=0+b.length:=hts.1
     subst hi
     have hkeys:=Qwp hex
     refine Q2v hex (fun p hp=>QN (by rw[hkeys];exact hdist) hp) hcc (Seg.all (b++c)).right
    ·simp at hvars
   ·simp at hvars
  have hrows:(Bf sig vars).rows=[]:=by simp only[Bf,hr2,GM]
  have hl':=hl vars
  unfold L2 at ho
  generalize hs:Bf sig vars=s1 at ho hR1 hl' hboxes hrows
  obtain⟨args1,boxes1,rows1⟩:=s1
  dsimp only at ho hR1 hl' hboxes hrows
  subst hboxes;subst hrows
  have hrun:EI P C L f args1 ⟨boxes1,[]⟩ (fun v m=>if m=⟨boxes1,[]⟩then EX osig ⟨[v],[],[]⟩else none)=some o:=by
   rw[hl']
   simp only[if_true]
   exact ho
  refine(Qy4 hspec hok hmix hZ (fun _ hcode=>h.sub hcode) hrun hR1).mono ?_
  rintro e w' ⟨x,ρ',v',m',he,hro,hR2⟩
  split at hro
  ·rename_i hm
   subst hm
   dsimp only at hR2

   simp only[EX]at hro
   obtain⟨_,hro⟩:=BK hro
   split at hro
   ·rename_i a ha
    split at hro
    ·rename_i b hb
     split at hro
     ·rename_i c hcc
      simp only[Option.some.injEq]at hro
      subst hro
      split at hv
      ·rename_i tm hbs
       split at hv
       ·rename_i vn
        simp only[Option.some.injEq,Prod.mk.injEq]at hv
        obtain⟨rfl,rfl⟩:=hv
        have hosr:osig.rows=[]:=by
         cases hor:osig.rows with
         |nil=>rfl
         |cons p l=>obtain⟨k,t,ks⟩:=p;rw[hor]at ha;simp[IA,Ab]at ha
        rw[hosr]at ha
        simp only[IA,Option.some.injEq]at ha
        subst ha
        have hts:=SM (boxes:=boxes1) (rows:=[]) (ρ:=ρ') (w:=w') (rl:=Dy []) ⟨fun id r hl=>by simp[Ab]at hl⟩ hb (l:=[]++(b++c)) (i:=0) (show Seg (b++c) 0 b from(Seg.all (b++c)).left)
        simp only[Bf,hosr,GM]at hbs
        have hwfT:=Qel (B':=boxes1) (R':=[]) (keys:=[]) (rs:=[]) (rl:=Dy []) (by simp) (by simp[Ab]) (ts:=osig.tmps)
         (by
          have:=h2
          simp only[Sk.okB,Bool.and_eq_true]at this
          have hob:osig.boxes=[]:=by
           cases hbx:osig.boxes with
           |nil=>rfl
           |cons p l=>obtain⟨k,t,ks⟩:=p;rw[hbx]at hcc;simp[I9,Ab]at hcc
          have h3:=this.1.2
          rw[hob,hosr]at h3
          exact h3) ([]++(b++c)) 0
        generalize hbt:Ez (Dy []) ([]++(b++c)) osig.tmps 0=q at hts hbs hwfT
        obtain⟨tm',i⟩:=q
        simp only[St.mk.injEq]at hbs
        obtain⟨rfl,_,_⟩:=hbs
        obtain⟨u,hu1,hu2⟩:=hts.2.2 0 vn rfl
        simp only[List.getElem?_cons_zero,Option.some.injEq]at hu1
        subst hu1
        refine⟨x,ρ',he,hR2.slots (by simp) (fun i u hi=> ?_) (fun u hu=>hwfT u hu)⟩
        cases i with
        |zero=>
         simp at hi;subst hi
         have:=hR2.tv 0 v' rfl
         exact hu2 _ (hR2.wt v' (by simp)) this
        |succ i=>simp at hi
       ·simp at hv
      ·simp at hv
     ·simp at hro
    ·simp at hro
   ·simp at hro
  ·simp at hro
 ·simp at hv
end Go.Bm
