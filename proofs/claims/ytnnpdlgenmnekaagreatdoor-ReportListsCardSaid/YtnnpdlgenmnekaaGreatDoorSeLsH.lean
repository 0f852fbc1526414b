/- a law's loop in which a slice in a row's cell grows: the region, whole -/
import Derived.Test.YtnnpdlgenmnekaaGreatDoorSeLsG
set_option linter.unusedVariables false
set_option linter.unusedSimpArgs false
set_option maxRecDepth 100000
noncomputable section
namespace Go.Bm
open Go.Proofs Go.RowKit
section
variable {Z:Base} {w:World} {M:List AC->Option (List AC)} {r l:List (List AC)} {k:Nat} {x n h:Int} {q:List (List AC)} {m j:Int} {v:Value} {acc:List Value} {a:Act}
theorem En {d:List Deferred} (c:List PanicEntry) (a:Act) (D:Act) (w:World) (A:Q16 Z r l k n h q m j acc d (.panic c) a w):Q16 Z r l k n h q m j acc d (.panic c) D w:=by
 obtain⟨A,_⟩:=A;cases A
theorem fr0:Region.free .any ops16 L0 0=true/\(Region.ready .any ops16 L0).contains 0=true:=⟨by kernel_rfl,by kernel_rfl⟩
theorem fr1:Region.free .any ops16 (sb L0 0) 1=true/\(Region.ready .any ops16 (sb L0 0)).contains 1=true:=⟨by kernel_rfl,by kernel_rfl⟩
theorem fr2:Region.free .any ops16 (sb (sb L0 0) 1) 2=true/\(Region.ready .any ops16 (sb (sb L0 0) 1)).contains 2=true:=⟨by kernel_rfl,by kernel_rfl⟩
theorem fr3:Region.free .any ops16 (sb (sb (sb L0 0) 1) 2) 3=true/\(Region.ready .any ops16 (sb (sb (sb L0 0) 1) 2)).contains 3=true:=⟨by kernel_rfl,by kernel_rfl⟩
theorem fr7:Region.free .any ops16 (sb (sb (sb (sb L0 0) 1) 2) 3) 7=true/\(Region.ready .any ops16 (sb (sb (sb (sb L0 0) 1) 2) 3)).contains 7=true:=⟨by kernel_rfl,by kernel_rfl⟩
theorem fr4:Region.free .any ops16 (sb (sb (sb (sb (sb L0 0) 1) 2) 3) 7) 4=true/\(Region.ready .any ops16 (sb (sb (sb (sb (sb L0 0) 1) 2) 3) 7)).contains 4=true:=⟨by kernel_rfl,by kernel_rfl⟩
theorem fr5:Region.free .any ops16 (sb (sb (sb (sb (sb (sb L0 0) 1) 2) 3) 7) 4) 5=true/\(Region.ready .any ops16 (sb (sb (sb (sb (sb (sb L0 0) 1) 2) 3) 7) 4)).contains 5=true:=⟨by kernel_rfl,by kernel_rfl⟩
theorem OO:ops16.size=14:=by kernel_rfl
theorem Sm (hM:Av Tryz.prog (DM M)) (V:InZ Z) (X:∀k,Z.I0 k->Z.F k) (g:RO Z v acc (Ag skN2 (hN r l k x n h q m j)) a.tmps w) (hv:E3 (nth .vD (nth [] r k) 1)=v) (hk:k<r.length)
  (G:acc.length<1000000) {o:List AC} (ho:M [.int .i64 x, .int .i64 100]=some o):
  cS16.wp Tryz.prog (Q16 Z r l k n h q m j (acc++[.int .i64 (Ad (nth .vD o 0))]) a.defers) a w:=by
 have E:=GT hM;have b3:inR r k=true:=by simp[inR];omega
 generalize hd:a.defers=d;rw[Ty];refine wp_region_any C4 ?_;show wpAny Tryz.prog .any ops16 _ ops16.size (Array.replicate ops16.size false) a _;rw[OO];have g0:=g.drew;generalize({w with drawn:=w.drawn+1}:World)=w0 at*;have k0:=O5 M r l k x n h q m j;obtain⟨s1,k1,g1⟩:=g0.take E (A3 rfl) k0 (Da mv0.1 mv0.2.1);refine wpAny_take (Bf 0 (by decide)) Ee fr0.1 fr0.2 (λc a w=>En c _ _ w) (Da mv0.1 mv0.2.1) ?_;generalize b4:a.put (oN 0).dst (a.eval (.tmp 3))=a1 at*;have d1:a1.defers=d:=by rw[<-b4,<-hd];cases(oN 0).dst<;>rfl
 obtain⟨s2,k2,g2⟩:=g1.take E (A3 rfl) k1 (Da mv1.1 mv1.2);refine wpAny_take (Bf 1 (by decide)) Ee fr1.1 fr1.2 (λc a w=>En c _ _ w) (Da mv1.1 mv1.2) ?_;generalize b5:a1.put (oN 1).dst (a1.eval (.tmp 4))=a2 at*;have d2:a2.defers=d:=by rw[<-b5,<-d1];cases(oN 1).dst<;>rfl
 obtain⟨s3,k3,g3⟩:=g2.take E (A3 rfl) k2 (Da mv2.1 mv2.2);refine wpAny_take (Bf 2 (by decide)) Ee fr2.1 fr2.2 (λc a w=>En c _ _ w) (Da mv2.1 mv2.2) ?_;generalize b6:a2.put (oN 2).dst (a2.eval (.tmp 3))=a3 at*;have d3:a3.defers=d:=by rw[<-b6,<-d2];cases(oN 2).dst<;>rfl
 obtain⟨c4,k4,g4⟩:=g3.take E (A3 rfl) k3 (Da mv3.1 mv3.2);refine wpAny_take (Bf 3 (by decide)) Ee fr3.1 fr3.2 (λc a w=>En c _ _ w) (Da mv3.1 mv3.2) ?_;generalize c0:a3.put (oN 3).dst (a3.eval (.tmp 4))=a4 at*;have d4:a4.defers=d:=by rw[<-c0,<-d3];cases(oN 3).dst<;>rfl
 obtain⟨c5,k5,g5⟩:=g4.take E (A3 rfl) k4 (Da mv7.1 mv7.2);refine wpAny_take (Bf 7 (by decide)) Ee fr7.1 fr7.2 (λc a w=>En c _ _ w) (Da mv7.1 mv7.2) ?_;generalize c1:a4.put (oN 7).dst (a4.eval (.tmp 6))=a5 at*;have d5:a5.defers=d:=by rw[<-c1,<-d4];cases(oN 7).dst<;>rfl
 simp only[AF]at k5;have g6:=g5.re V Rb k5;obtain⟨gb,ob,c,e1⟩:=g6.own' (e87 r l k x n h q m j) (by omega);have y4:=Qw e1 (g6.int (e88 r l k x n h q m j)) hk;have k6:=R7 M r l k x n h q m j;rw[b3,ac]at k6;obtain⟨s7,k7,g7⟩:=g6.take E (A3 rfl) k6 y4;refine wpAny_take (Bf 4 (by decide)) Ee fr4.1 fr4.2 (λc a w=>En c _ _ w) y4 ?_;generalize c2:a5.put (oN 4).dst _=a6 at*;have d6:a6.defers=d:=by rw[<-c2,<-d5];cases(oN 4).dst<;>rfl
 simp only[AF,ag]at k7;subst k7;obtain⟨c6,d0,e2⟩:=g7.rptr (e89 r l k x n h q m j);obtain⟨x5,y5⟩:=RX e2;obtain⟨s8,k8,g8⟩:=g7.take E (A3 rfl) (Tx M r l k x n h q m j) y5;refine wpAny_take (Bf 5 (by decide)) Ee fr5.1 fr5.2 (λc a w=>En c _ _ w) y5 ?_;generalize c3:a6.put (oN 5).dst x5=a7 at*;have d7:a7.defers=d:=by rw[<-c3,<-d6];cases(oN 5).dst<;>rfl
 simp only[AF,ag]at k8;subst k8;have kA:=QJ M r l k x n h q m j;have kB:=Tn M r l k x n h q m j;unfold MW at kA;rw[ho,ak,aw,hv]at kA kB;refine wpAny_all Pu (by simp) λi A=> ?_;simp only[an,List.not_mem_nil,or_false]at A;rcases A with rfl|rfl
 ·refine RO.op E (A3 rfl) (Bf 6 (by decide)) g8 kA λsa aa wa Y ga da=> ?_;refine wpAny_all P6 (by simp) λi A=> ?_;simp only[bg]at A;subst A;refine RO.op E (A3 rfl) (Bf 8 (by decide)) ga Y λa0 b0 b1 J N O=> ?_;refine wpAny_all NT (by simp) λi A=> ?_;simp only[bg]at A;subst A;refine RO.op E (A3 rfl) (Bf 9 (by decide)) N J λb2 T U D Q S=> ?_;simp only[AF]at D;exact Jo V X (Q.re V Jq D) hk G (by rw[S,O,da];exact d7)
 ·refine RO.op E (A3 rfl) (Bf 8 (by decide)) g8 kB λsa aa wa Y ga da=> ?_;simp only[AF]at Y;unfold kBC at Y;simp only[ai,ag,a8]at Y;obtain⟨x1,kb,x2,kc,rfl,rfl⟩:=Y;refine wpAny_all O3 (by simp) λi A=> ?_;simp only[an,List.not_mem_nil,or_false]at A;rcases A with rfl|rfl
  ·refine RO.op E (A3 rfl) (Bf 6 (by decide)) ga kb λa0 b0 b1 J N O=> ?_;refine wpAny_all P8 (by simp) λi A=> ?_;simp only[bg]at A;subst A;refine RO.op E (A3 rfl) (Bf 9 (by decide)) N J λb2 T U D Q S=> ?_;simp only[AF]at D;exact(de (λL=>wpAny Tryz.prog .any ops16 (Q16 Z r l k n h q m j (acc++[.int .i64 (Ad (nth .vD o 0))]) d) 4 L T U) Og).mpr (Jo V X (Q.re V Jq D) hk G (by rw[S,O,da];exact d7))
  ·refine RO.op E (A3 rfl) (Bf 9 (by decide)) ga kc λa0 b0 b1 J N O=> ?_;refine wpAny_all Un (by simp) λi A=> ?_;simp only[bg]at A;subst A;refine RO.op E (A3 rfl) (Bf 6 (by decide)) N J λb2 T U D Q S=> ?_;simp only[AF]at D;exact(de (λL=>wpAny Tryz.prog .any ops16 (Q16 Z r l k n h q m j (acc++[.int .i64 (Ad (nth .vD o 0))]) d) 4 L T U) OK).mpr (Jo V X (Q.re V Jq D) hk G (by rw[S,O,da];exact d7))
end
end Go.Bm
