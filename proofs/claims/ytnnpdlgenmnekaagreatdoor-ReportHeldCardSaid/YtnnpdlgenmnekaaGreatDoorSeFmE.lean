/- the report of a run: Format's row, shut -/
import Derived.Test.YtnnpdlgenmnekaaGreatDoorSeFmD
set_option linter.unusedVariables false
set_option linter.unusedSimpArgs false
set_option maxRecDepth 100000
noncomputable section
namespace Go.Bm
open Go.Proofs Go.RowKit
theorem Zj5:Tryz.f31.body=some KN:=by kernel_rfl
theorem Z4v:Tryz.f31.ntmps=49:=by kernel_rfl
theorem Z7d:In Tryz.prog 31=true:=by kernel_rfl
theorem Znl (s:ByteArray):Io Tryz.prog C30 [o8,o8b] [o8b] ⟨List.replicate 48 TV.vD++[.c (.raw (.string s))],[],[]⟩ (λD=>some D)=
  some ⟨[.vD, .vD, .c (.raw (.string s))]++List.replicate 45 TV.vD++[.c (.raw (.string s))],[],[]⟩:=by kernel_rfl
theorem Zrs (s:ByteArray):Mr Tryz.prog C30 Tryz.f31 [] ⟨[.vD, .vD, .c (.raw (.string s))]++List.replicate 45 TV.vD++[.c (.raw (.string s))],[],[]⟩ (λv m=>some (v,m))=some (.c (.raw (.string s)),⟨[],[]⟩):=by kernel_rfl
theorem Zww {Z:Base} (D:∀k,Z.K0 k=none) {tmps:Array Value} {w:World} (M:tmps.size=49) (I:Fr Z.F Z.w0 w) (L:∀k,Z.F k->k<w.heap.size) (N:∀k,Z.I0 k->k<w.heap.size):
  RelE Z (List.replicate 49 TV.vD) [] [] ⟨λ_=>0,λ_=> .slice none 0 0,λ_=>0,Z.I0⟩ tmps w:=by
 refine⟨by simp[M],λi v h=> ?_,λv h=> ?_,λk b D=>by simp[Ac]at D,λk b D=>by simp[Ac]at D,λk k' b b' D=>by simp[Ac]at D,λid r G=>by simp[Ac]at G,
  λid id' r r' g G=>by simp[Ac]at G,λk b id r D=>by simp[Ac]at D,λb hb=>⟨N b hb,λk bo D=>by simp[Ac]at D,λid r G=>by simp[Ac]at G⟩,I,L,λ_ h=>h,λb h=> .inl h,λk b h=>by rw[D k]at h;cases h⟩
 ·have:=bz h;rw[fq]at this;rw[this.2];trivial
 ·rw[fq]at h;rw[h.2];trivial
section
variable {ML:List AC->Option (List AC)} {l:List (List AC)}
theorem Yh3 {Z:Base} {B b:Nat} {v:Value} {bs:List UInt8} (a1:B=Z.w0.heap.size) (G:∀k,Z.F k↔k<B) (T:∀k,Z.K0 k=none) (hI:∀k,Z.I0 k->k<B) {a:Act} {w:World} (hd:a.defers=[])
  (h:RG Z B b v (Lib.byteCells bs) (AF skE [.raw (pB b)]) a.tmps w) {R:Ending->World->Prop}
  (hR:∀x U w',RelE Z [.c (.raw (.string ⟨bs.toArray⟩))] [] [] U #[x] w'->R (.returned x) w'):
  (Code.seq (cs1 cT) .ret).wp Tryz.prog (bodyPost Tryz.prog Tryz.f31 R) a w:=by
 have hZ:InZ Z:=λk b h=>by rw[T k]at h;cases h
 refine wp_seq ?_;rw[Ycb];refine wp_region_list ?_;rw[Qwa];refine wpList_plain Zp9 λK V=> ?_;have e1:=h.rawv (Zn4 (pB b));have he:execOp a.eval o8=callFunc 77 [pB b].toArray:=by
  have:=Sl (e:=a.eval) Z5w rfl rfl;rw[this];show callFunc 77 ([Operand.tmp 3].map a.eval).toArray=_;simp only[be,da,e1]
 refine L9 he (.inl ⟨Jh Z8d,?_⟩);refine(Any.Builder_String_any Tryz.lays169 Tryz.Builder_Extra_169 B b bs w h.bld.is h.hB).mono ?_;rintro e I ⟨rfl,hb⟩;refine⟨_,rfl,V _ _ ?_⟩;have X:Fr Z.F Z.w0 I:=h.fr.trans ⟨hb.os,hb.tape,hb.output,hb.size,λk D=>hb.block k ((G k).1 D)⟩;have L:(a.put o8.dst (Value.string ⟨bs.toArray⟩)).tmps.size=49:=by
  rw[UD];obtain⟨ρ,q⟩:=h.rel;have:=q.tl;show(a.tmps.setIfInBounds 48 _).size=49;simp only[Array.size_setIfInBounds];rw[<-this];rfl
 have M:B<=I.heap.size:=bj h.hB hb.size;have q0:=Zww (Z:=Z) T (tmps:=a.tmps) (w:=I) (by rw[UD]at L;simpa [Act.put]using L) X (λk D=>db ((G k).1 D) M) (λk D=>db (hI k D) M);have q1:=q0.put 48 (v:= .c (.raw (.string ⟨bs.toArray⟩))) (x:= .string ⟨bs.toArray⟩) ⟨_,rfl,rfl,rfl⟩ (λc hc=>by simp at hc;subst hc;trivial);have N:Rel Z ⟨List.replicate 48 TV.vD++[.c (.raw (.string ⟨bs.toArray⟩))],[],[]⟩ (a.put o8.dst (Value.string ⟨bs.toArray⟩)).tmps I:=⟨_,by rw[UD];exact q1⟩;have O:(G3 (cs1 cT)).toList=[o8,o8b]:=Qwa;refine Qou (P:=Tryz.prog) (C:=C30) (Z:=Z) Jp (by intro t ht;cases ht) (ops:=G3 (cs1 cT)) [o8b] _ (a.put o8.dst (Value.string ⟨bs.toArray⟩)) I N (by rw[O];exact Znl ⟨bs.toArray⟩) ?_;intro s' a2 w2 S Y a0;simp only[an]at S;subst S;refine wp_ret ?_;obtain⟨x,U,vv,m,r1,r2,r3,_⟩:=Qra (P:=Tryz.prog) (C:=C30) Y (keys0:=[]) (λk b D=>by rw[T k]at D;cases D) (Zrs ⟨bs.toArray⟩);simp only[an,df]at r1;obtain⟨rfl,rfl⟩:=r1;refine⟨?_,x,r2,hR x U w2 r3⟩;rw[a0,UD];exact hd
end
end Go.Bm
