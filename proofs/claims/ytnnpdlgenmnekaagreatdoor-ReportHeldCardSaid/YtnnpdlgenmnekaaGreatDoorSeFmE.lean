/- the report of a run: Format's row, shut -/
import Derived.Test.YtnnpdlgenmnekaaGreatDoorSeFmD
set_option linter.unusedVariables false
set_option linter.unusedSimpArgs false
set_option maxRecDepth 100000
noncomputable section
namespace Go.Bm
open Go.Proofs Go.RowKit
theorem Zj5:Tryz.f31.body=some KR:=by kernel_rfl
theorem Z4m:Tryz.f31.ntmps=49:=by kernel_rfl
theorem Z64:Ir Tryz.prog 31=true:=by kernel_rfl
theorem Znh (s:ByteArray):Is Tryz.prog C30 [o8,o8b] [o8b] ⟨List.replicate 48 TV.vD++[.c (.raw (.string s))],[],[]⟩ (λD=>some D)=
  some ⟨[.vD, .vD, .c (.raw (.string s))]++List.replicate 45 TV.vD++[.c (.raw (.string s))],[],[]⟩:=by kernel_rfl
theorem Zrn (s:ByteArray):Mr Tryz.prog C30 Tryz.f31 [] ⟨[.vD, .vD, .c (.raw (.string s))]++List.replicate 45 TV.vD++[.c (.raw (.string s))],[],[]⟩ (λv m=>some (v,m))=some (.c (.raw (.string s)),⟨[],[]⟩):=by kernel_rfl
theorem Zwq {Z:Base} (D:∀k,Z.K0 k=none) {tmps:Array Value} {w:World} (M:tmps.size=49) (I:Fr Z.F Z.w0 w) (L:∀k,Z.F k->k<w.heap.size) (N:∀k,Z.I0 k->k<w.heap.size):
  RelE Z (List.replicate 49 TV.vD) [] [] ⟨λ_=>0,λ_=> .slice none 0 0,λ_=>0,Z.I0⟩ tmps w:=by
 refine⟨by simp[M],λi v h=> ?_,λv h=> ?_,λk b D=>by simp[Ab]at D,λk b D=>by simp[Ab]at D,λk k' b b' D=>by simp[Ab]at D,λid r G=>by simp[Ab]at G,
  λid id' r r' g G=>by simp[Ab]at G,λk b id r D=>by simp[Ab]at D,λb hb=>⟨N b hb,λk bo D=>by simp[Ab]at D,λid r G=>by simp[Ab]at G⟩,I,L,λ_ h=>h,λb h=> .inl h,λk b h=>by rw[D k]at h;cases h⟩
 ·have:=bq h;rw[fv]at this;rw[this.2];trivial
 ·rw[fv]at h;rw[h.2];trivial
section
variable {ML:List AC->Option (List AC)} {l:List (List AC)}
theorem Yht {Z:Base} {B b:Nat} {v:Value} {bs:List UInt8} (a1:B=Z.w0.heap.size) (G:∀k,Z.F k↔k<B) (T:∀k,Z.K0 k=none) (hI:∀k,Z.I0 k->k<B) {a:Act} {w:World} (hd:a.defers=[])
  (h:RG Z B b v (Lib.byteCells bs) (AE skE [.raw (pB b)]) a.tmps w) {R:Ending->World->Prop}
  (hR:∀x U w',RelE Z [.c (.raw (.string ⟨bs.toArray⟩))] [] [] U #[x] w'->R (.returned x) w'):
  (Code.seq (cs1 cT) .ret).wp Tryz.prog (bodyPost Tryz.prog Tryz.f31 R) a w:=by
 have hZ:InZ Z:=λk b h=>by rw[T k]at h;cases h
 refine wp_seq ?_;rw[Yb2];refine wp_region_list ?_;rw[Qwc];refine wpList_plain Zp5 λK V=> ?_;have e1:=h.rawv (Zn0 (pB b));have he:execOp a.eval o8=callFunc 77 [pB b].toArray:=by
  have:=Sq (e:=a.eval) Z5n rfl rfl;rw[this];show callFunc 77 ([Operand.tmp 3].map a.eval).toArray=_;simp only[be,db,e1]
 refine L9 he (.inl ⟨Jm Z74,?_⟩);refine(Any.Builder_String_any Tryz.lays169 Tryz.Builder_Extra_169 B b bs w h.bld.is h.hB).mono ?_;rintro e I ⟨rfl,hb⟩;refine⟨_,rfl,V _ _ ?_⟩;have X:Fr Z.F Z.w0 I:=h.fr.trans ⟨hb.os,hb.tape,hb.output,hb.size,λk D=>hb.block k ((G k).1 D)⟩;have L:(a.put o8.dst (Value.string ⟨bs.toArray⟩)).tmps.size=49:=by
  rw[UL];obtain⟨ρ,q⟩:=h.rel;have:=q.tl;show(a.tmps.setIfInBounds 48 _).size=49;simp only[Array.size_setIfInBounds];rw[<-this];rfl
 have M:B<=I.heap.size:=bm h.hB hb.size;have q0:=Zwq (Z:=Z) T (tmps:=a.tmps) (w:=I) (by rw[UL]at L;simpa [Act.put]using L) X (λk D=>de ((G k).1 D) M) (λk D=>de (hI k D) M);have q1:=q0.put 48 (v:= .c (.raw (.string ⟨bs.toArray⟩))) (x:= .string ⟨bs.toArray⟩) ⟨_,rfl,rfl,rfl⟩ (λc hc=>by simp at hc;subst hc;trivial);have N:Rel Z ⟨List.replicate 48 TV.vD++[.c (.raw (.string ⟨bs.toArray⟩))],[],[]⟩ (a.put o8.dst (Value.string ⟨bs.toArray⟩)).tmps I:=⟨_,by rw[UL];exact q1⟩;have O:(G2 (cs1 cT)).toList=[o8,o8b]:=Qwc;refine Qoy (P:=Tryz.prog) (C:=C30) (Z:=Z) Jt (by intro t ht;cases ht) (ops:=G2 (cs1 cT)) [o8b] _ (a.put o8.dst (Value.string ⟨bs.toArray⟩)) I N (by rw[O];exact Znh ⟨bs.toArray⟩) ?_;intro s' a2 w2 S Y a0;simp only[an]at S;subst S;refine wp_ret ?_;obtain⟨x,U,vv,m,r1,r2,r3,_⟩:=Qrd (P:=Tryz.prog) (C:=C30) Y (keys0:=[]) (λk b D=>by rw[T k]at D;cases D) (Zrn ⟨bs.toArray⟩);simp only[an,cm]at r1;obtain⟨rfl,rfl⟩:=r1;refine⟨?_,x,r2,hR x U w2 r3⟩;rw[a0,UL];exact hd
end
end Go.Bm
