/- the report of a run: Format's row, shut -/
import Derived.Test.YtnnpdlgenmnekaaGreatDoorSeFmD
set_option linter.unusedVariables false
set_option linter.unusedSimpArgs false
set_option maxRecDepth 100000
noncomputable section
namespace Go.Bm
open Go.Proofs Go.RowKit
theorem NQ:Tryz.f31.body=some D1:=by kernel_rfl
theorem Rp:Tryz.f31.ntmps=49:=by kernel_rfl
theorem R4:CB Tryz.prog 31=true:=by kernel_rfl
theorem Oq (s:ByteArray):AF Tryz.prog C30 [o8,o8b] [o8b] ⟨List.replicate 48 TV.vD++[.c (.raw (.string s))],[],[]⟩ (λA=>some A)=
  some ⟨[.vD, .vD, .c (.raw (.string s))]++List.replicate 45 TV.vD++[.c (.raw (.string s))],[],[]⟩:=by kernel_rfl
theorem Pc (s:ByteArray):E_ Tryz.prog C30 Tryz.f31 [] ⟨[.vD, .vD, .c (.raw (.string s))]++List.replicate 45 TV.vD++[.c (.raw (.string s))],[],[]⟩ (λv m=>some (v,m))=some (.c (.raw (.string s)),⟨[],[]⟩):=by kernel_rfl
theorem P5 {Z:Base} (A:∀k,Z.K0 k=none) {tmps:Array Value} {w:World} (J:tmps.size=49) (E:Fr Z.F Z.w0 w) (G:∀k,Z.F k->k<w.heap.size) (L:∀k,Z.I0 k->k<w.heap.size):
  RelE Z (List.replicate 49 TV.vD) [] [] ⟨λ_=>0,λ_=> .slice none 0 0,λ_=>0,Z.I0⟩ tmps w:=by
 refine⟨by simp[J],λi v h=> ?_,λv h=> ?_,λk b A=>by simp[Aa]at A,λk b A=>by simp[Aa]at A,λk k' b b' A=>by simp[Aa]at A,λid r D=>by simp[Aa]at D,
  λid id' r r' g D=>by simp[Aa]at D,λk b id r A=>by simp[Aa]at A,λb hb=>⟨L b hb,λk bo A=>by simp[Aa]at A,λid r D=>by simp[Aa]at D⟩,E,G,λ_ h=>h,λb h=> .inl h,λk b h=>by rw[A k]at h;cases h⟩
 ·have:=ay h;rw[cp]at this;rw[this.2];trivial
 ·rw[cp]at h;rw[h.2];trivial
section
variable {ML:List AC->Option (List AC)} {l:List (List AC)}
theorem T9 {Z:Base} {B b:Nat} {v:Value} {bs:List UInt8} (a0:B=Z.w0.heap.size) (D:∀k,Z.F k↔k<B) (Q:∀k,Z.K0 k=none) (hI:∀k,Z.I0 k->k<B) {a:Act} {w:World} (hd:a.defers=[])
  (h:RG Z B b v (Lib.byteCells bs) (Ag skE [.raw (pB b)]) a.tmps w) {R:Ending->World->Prop}
  (hR:∀x S w',RelE Z [.c (.raw (.string ⟨bs.toArray⟩))] [] [] S #[x] w'->R (.returned x) w'):
  (Code.seq (cs1 cT) .ret).wp Tryz.prog (bodyPost Tryz.prog Tryz.f31 R) a w:=by
 have hZ:InZ Z:=λk b h=>by rw[Q k]at h;cases h
 refine wp_seq ?_;rw[Td];refine wp_region_list ?_;rw[JH];refine wpList_plain OQ λK T=> ?_;have e1:=h.rawv (Ow (pB b));have he:execOp a.eval o8=callFunc 77 [pB b].toArray:=by
  have:=F9 (e:=a.eval) RE rfl rfl;rw[this];show callFunc 77 ([Operand.tmp 3].map a.eval).toArray=_;simp only[av,cw,e1]
 refine Et he (.inl ⟨DS Si,?_⟩);refine(Any.Builder_String_any Tryz.lays169 Tryz.Builder_Extra_169 B b bs w h.bld.is h.hB).mono ?_;rintro e E ⟨rfl,hb⟩;refine⟨_,rfl,T _ _ ?_⟩;have U:Fr Z.F Z.w0 E:=h.fr.trans ⟨hb.os,hb.tape,hb.output,hb.size,λk A=>hb.block k ((D k).1 A)⟩;have G:(a.put o8.dst (Value.string ⟨bs.toArray⟩)).tmps.size=49:=by
  rw[GX];obtain⟨ρ,q⟩:=h.rel;have:=q.tl;show(a.tmps.setIfInBounds 48 _).size=49;simp only[Array.size_setIfInBounds];rw[<-this];rfl
 have J:B<=E.heap.size:=Nat.le_trans h.hB hb.size;have q0:=P5 (Z:=Z) Q (tmps:=a.tmps) (w:=E) (by rw[GX]at G;simpa [Act.put]using G) U (λk A=>ax ((D k).1 A) J) (λk A=>ax (hI k A) J);have q1:=q0.put 48 (v:= .c (.raw (.string ⟨bs.toArray⟩))) (x:= .string ⟨bs.toArray⟩) ⟨_,rfl,rfl,rfl⟩ (λc Y=>by simp at Y;subst Y;trivial);have L:Rel Z ⟨List.replicate 48 TV.vD++[.c (.raw (.string ⟨bs.toArray⟩))],[],[]⟩ (a.put o8.dst (Value.string ⟨bs.toArray⟩)).tmps E:=⟨_,by rw[GX];exact q1⟩;have N:(BR (cs1 cT)).toList=[o8,o8b]:=JH;refine I6 (P:=Tryz.prog) (C:=C30) (Z:=Z) Bq (by intro t ht;cases ht) (ops:=BR (cs1 cT)) [o8b] _ (a.put o8.dst (Value.string ⟨bs.toArray⟩)) E L (by rw[N];exact Oq ⟨bs.toArray⟩) ?_;intro s' a2 w2 O V X;simp only[ag]at O;subst O;refine wp_ret ?_;obtain⟨x,S,vv,m,r1,r2,r3,_⟩:=Nb (P:=Tryz.prog) (C:=C30) V (keys0:=[]) (λk b A=>by rw[Q k]at A;cases A) (Pc ⟨bs.toArray⟩);simp only[ag,a8]at r1;obtain⟨rfl,rfl⟩:=r1;refine⟨?_,x,r2,hR x S w2 r3⟩;rw[X,GX];exact hd
end
end Go.Bm
