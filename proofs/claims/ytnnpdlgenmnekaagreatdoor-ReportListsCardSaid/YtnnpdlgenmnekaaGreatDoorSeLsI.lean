/- a law's loop in which a slice in a row's cell grows: the loop; where the slice begins and where it ends -/
import Derived.Test.YtnnpdlgenmnekaaGreatDoorSeLsH
set_option linter.unusedVariables false
set_option linter.unusedSimpArgs false
set_option maxRecDepth 100000
noncomputable section
namespace Go.Bm
open Go.Proofs Go.RowKit
def BD (M:List AC->Option (List AC)) (q:List (List AC)):Nat->Option (List Int)
 |0=>some []
 |j+1=>(BD M q j).bind λbs=>(M [.int .i64 (Ad (nth .vD (nth [] q j) 0)), .int .i64 100]).bind λo=>some (bs++[Ad (nth .vD o 0)])
def BU (l:List Int):List Value:=l.map (Value.int .i64)
def Bi (l:List Int):List (List AC):=l.map λn=>[.int .i64 n]
theorem TY (l:List Int):(BU l).length=l.length:=by simp[BU]
theorem Lr {M:List AC->Option (List AC)} {q:List (List AC)}:∀{j:Nat} {l:List Int},BD M q j=some l->l.length=j
 |0,l,h=>by simp[BD]at h;subst h;rfl
 |j+1,l,h=>by
  simp only[BD,ai,ag]at h;obtain⟨bs,h1,o,_,rfl⟩:=h;simp[Lr h1]
theorem LO {M:List AC->Option (List AC)} {q:List (List AC)}:∀{n:Nat} {l:List Int},BD M q n=some l->∀j,j<=n->∃b,BD M q j=some b
 |0,l,h,j,A=>⟨l,by rw[show j=0 by omega];exact h⟩
 |n+1,l,h,j,A=>by
  by_cases e:j=n+1
  ·exact⟨l,by rw[e];exact h⟩
  ·simp only[BD,ai]at h;obtain⟨bs,h1,_⟩:=h;exact LO h1 j (by omega)
theorem E7 {c:Code} {blk:Nat}:SubOK Tryz.prog C30 c blk:=HU rfl rfl rfl
theorem H9 {M:List AC->Option (List AC)} {c:Code} {blk:Nat}:SubOK Tryz.prog (C12 M) c blk:=HU rfl rfl rfl
section
variable {Z:Base} {w:World} {M:List AC->Option (List AC)} {r l:List (List AC)} {k:Nat} {n h:Int} {q:List (List AC)} {v:Value} {a:Act} {s:St} {acc:List Value}
theorem RO.chunk {C:Cfg} (A:Ak Tryz.prog C) (E:C.eqOk=[]) (N:InZ Z) {c:Code} {L blk:Nat} {sk:Sk} {vars:List AC} {a:Act} (D:SubOK Tryz.prog C c blk) (G:sk.okB=true)
  (h:RO Z v acc s a.tmps w) (O:Ax Tryz.prog C L c blk s (kN sk)=some vars):
  c.wp Tryz.prog (λe J w'=>e= .normal/\RO Z v acc (Ag sk vars) J.tmps w'/\J.defers=a.defers) a w:=by
 refine wp_mono (h.code A (by rw[E];simp) C4 N D O) ?_;rintro e J w' ⟨Q,U,rfl,q2,S,T⟩;cases Q with
 |normal=>exact⟨rfl,S.re N G q2,T⟩
 |exit i=>simp[kN]at q2
 |ret=>simp[kN]at q2
theorem NN (m j:Int) (b:Bool):Ai (Ag skC2 (hW r l k n h q m j++[.bool b])).tmps (.tmp 82)= .c (.bool b):=by kernel_rfl
theorem O0 (m j:Int) (b:Bool):AN skH2 (Ag skC2 (hW r l k n h q m j++[.bool b]))=some (hW r l k n h q m j):=by kernel_rfl
theorem Te (hM:Av Tryz.prog (DM M)) (E:InZ Z) (G:∀k,Z.I0 k->Z.F k) {j:Nat} {bs A:List Int} (g:RO Z v (BU bs) (Ag skH2 (hW (wq r k (.raw v)) l k n h q q.length j)) a.tmps w)
  (O:k<r.length) (hq:q.length<1000) (hj:j<q.length) (Q:BD M q j=some bs) (h1:BD M q (j+1)=some A):
  cL2.wp Tryz.prog (λe S w'=>e= .normal/\∃D,RO Z D (BU A) (Ag skH2 (hW (wq r k (.raw D)) l k n h q q.length (j+1:Nat))) S.tmps w'/\S.defers=a.defers) a w:=by
 have J:=Lr Q;simp only[BD,Q,ak,ai,ag]at h1;obtain⟨o,ho,rfl⟩:=h1;rw[KT];have T:=JJ (wq r k (.raw v)) l k n h q q.length j;rw[au (show(j:Int)<(q.length:Int) by omega)]at T;refine wp_seq (wp_mono (g.chunk Bq rfl E E7 MK T) ?_);rintro e a1 w1 ⟨rfl,g1,X⟩;show Code.wp _ _ _ _ _;refine wp_seq (wp_cond_true (g1.bool (NN _ _ true)) (wp_skip ?_));show Code.wp _ _ _ _ _;have hB:=Od (wq r k (.raw v)) l k n h q q.length j true;have L:(decide (0<=(j:Int))&&decide ((j:Int)<(q.length:Int)))=true:=by simp;omega
 rw[L,ac,aw]at hB;refine wp_seq (wp_block (wp_seq (wp_mono (g1.chunk Bq rfl E E7 Ph hB) ?_)));rintro e a2 w2 ⟨rfl,g2,Y⟩;show Code.wp _ _ _ _ _;refine wp_mono (Sm hM E G g2 (Qh O) (by rw[Id];exact O) (by rw[TY,J];omega) ho) ?_;rintro e a3 w3 ⟨rfl,D,N,d3⟩;show Code.wp _ _ _ _ _;rw[Tm]at N;have e1:BU bs++[.int .i64 (Ad (nth .vD o 0))]=BU (bs++[Ad (nth .vD o 0)]):=by simp[BU]
 rw[e1]at N;have U:=Ta (wq r k (.raw D)) l k n h q q.length j;have e2:V ((j:Int)+1)=((j+1:Nat):Int):=by rw[BW];omega
 rw[e2]at U;refine wp_mono (N.chunk Bq rfl E E7 He U) ?_;rintro e a4 w4 ⟨rfl,g4,d4⟩;exact⟨rfl,D,g4,d4.trans (d3.trans (Y.trans X))⟩
theorem MJ (hM:Av Tryz.prog (DM M)) (G:InZ Z) (A:∀k,Z.I0 k->Z.F k) (N:k<r.length) (O:q.length<1000) {D:List Int} (he:BD M q q.length=some D):
  ∀(t j:Nat) (bs:List Int) (v:Value) (a:Act) (w:World),j+t=q.length->BD M q j=some bs->RO Z v (BU bs) (Ag skH2 (hW (wq r k (.raw v)) l k n h q q.length j)) a.tmps w->
   Code.rounds Tryz.prog cL2 (λe Q w'=>e= .exit 2/\∃S,RO Z S (BU D) (Ag skH2 (hW (wq r k (.raw S)) l k n h q q.length q.length)) Q.tmps w'/\Q.defers=a.defers) (t+1) a w
 |0,j,bs,v,a,w,V,J,g=>by
  have e:j=q.length:=by omega
  subst e;rw[J]at he;simp only[ag]at he;subst he;rw[rounds_succ,KT];have T:=JJ (wq r k (.raw v)) l k n h q q.length q.length;rw[bd (show¬(q.length:Int)<(q.length:Int) by omega)]at T;refine wp_seq (wp_mono (g.chunk Bq rfl G E7 MK T) ?_);rintro e a1 U ⟨rfl,g1,L⟩;show Code.wp _ _ _ _ _;refine wp_seq (wp_cond_false (g1.bool (NN _ _ false)) (wp_exit ?_));exact⟨rfl,v,g1.re G He (O0 _ _ false),L⟩
 |t+1,j,bs,v,a,w,V,J,g=>by
  obtain⟨b1,E⟩:=LO he (j+1) (by omega);rw[rounds_succ];refine wp_mono (Te hM G A g N O (by omega) J E) ?_;rintro e a1 U ⟨rfl,X,g1,L⟩;show Code.rounds _ _ _ _ _ _;rw[<-L];exact MJ hM G A N O he t (j+1) b1 X a1 U (by omega) E g1
end
end Go.Bm
