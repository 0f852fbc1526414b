/- a law's loop in which a slice in a row's cell grows: the block, told -/
import Derived.Test.YtnnpdlgenmnekaaGreatDoorSeLsJ
set_option linter.unusedVariables false
set_option linter.unusedSimpArgs false
set_option maxRecDepth 100000
noncomputable section
namespace Go.Bm
open Go.Proofs Go.RowKit
def gB1 (M:List AC->Option (List AC)):CJ:=λ_ vars K=>(M vars).bind λo=>cond (Ci (nth .vD o 0)) (K .ret (Ag skR1 [.bool true])) (K .normal (Ag skB1 [.vC Ac (Aq (nth .vD o 1)),nth .vD vars 1,nth .vD vars 2,nth .vD vars 3]))
def BQ (l:List (List AC)) (k:Nat):List (List AC):=Aq (nth .vD (nth [] l k) 1)
def mB0 (M:List AC->Option (List AC)) (r l:List (List AC)) (n k:Int):Option (List AC):=(uH M [.vC Ac r, .vC Ac l, .int .i64 n, .int .i64 k]).bind λo=>cond (Ci (nth .vD o 0)) (some [.bool true])
 ((BD M (BQ l k.toNat) (BQ l k.toNat).length).bind λbs=>some [.bool false, .vC Ac (wr (Aq (nth .vD o 1)) k.toNat 1 (.vC kInts (Bi bs)))])
def mB1 (M:List AC->Option (List AC)) (vars:List AC):Option (List AC):=mB0 M (Aq (nth .vD vars 0)) (Aq (nth .vD vars 1)) (Ad (nth .vD vars 2)) (Ad (nth .vD vars 3))
theorem R5 {r:List (List AC)} {k j:Nat} {c:AC}:(wr r k j c).length=r.length:=by simp[wr]
theorem Nk {α:Type} {c:Bool} {x y:Option α} {o:α} (h:cond c x y=some o):(c=true/\x=some o)\/(c=false/\y=some o):=by
 cases c
 ·exact .inr ⟨rfl,h⟩
 ·exact .inl ⟨rfl,h⟩
theorem QX {M:List AC->Option (List AC)} {r l:List (List AC)} {n k:Int} {o:List AC} (h:uH M [.vC Ac r, .vC Ac l, .int .i64 n, .int .i64 k]=some o):
  o=[.bool true, .bool true]\/∃r',o=[.bool false, .vC Ac r', .vC Ac l, .int .i64 k, .int .i64 n, .int .i64 k]/\r'.length=r.length/\0<=k/\k<r.length/\k<l.length/\(BQ l k.toNat).length<=40:=by
 rw[JU]at h;obtain⟨A,h⟩:=Ay h;rcases Nk h with⟨_,h⟩|⟨_,h⟩
 ·simp only[ag]at h;exact .inl h.symm
 obtain⟨_,h⟩:=Ay h;rcases Nk h with⟨_,h⟩|⟨E,h⟩
 ·simp only[ag]at h;exact .inl h.symm
 obtain⟨D,h⟩:=Ay h;simp only[ai]at h;obtain⟨o0,_,h⟩:=h;obtain⟨_,h⟩:=Ay h;simp only[ai]at h;obtain⟨o1,_,h⟩:=h;obtain⟨_,h⟩:=Ay h;simp only[ai]at h;obtain⟨o2,_,h⟩:=h;obtain⟨_,h⟩:=Ay h;obtain⟨_,h⟩:=Ay h;obtain⟨_,h⟩:=Ay h;simp only[ag]at h;simp only[af,bm]at A D;simp only[decide_eq_false_iff_not]at E;refine .inr ⟨_,h.symm,by simp only[R5],A.1,D.2,A.2,?_⟩;unfold BQ;omega
theorem PU (r l:List (List AC)) (k n h:Int):Ag skA1 [.vC Ac r, .vC Ac l, .int .i64 k, .int .i64 n, .int .i64 h]=⟨(Ag skA1 [.vC Ac r, .vC Ac l, .int .i64 k, .int .i64 n, .int .i64 h]).tmps,[],[(17,⟨61,Ac,r⟩)]⟩:=by kernel_rfl
theorem OG (r l:List (List AC)) (k n h:Int) (r':List (List AC)) (e:r'.length=r.length):AN skA2 ⟨(Ag skA1 [.vC Ac r, .vC Ac l, .int .i64 k, .int .i64 n, .int .i64 h]).tmps,[],upd [(17,⟨61,Ac,r⟩)] 17 ⟨61,A1,r'⟩⟩=some [.vC A1 r', .vC Ac l, .int .i64 k, .int .i64 n, .int .i64 h]:=by kernel_rfl
theorem Pb (r l:List (List AC)) (k n h:Int) (q:List (List AC)) (m j:Int):Ag skH2 (hW r l k n h q m j)=⟨(Ag skH2 (hW r l k n h q m j)).tmps,[],[(17,⟨61,A1,r⟩)]⟩:=by kernel_rfl
theorem Tf (r l:List (List AC)) (k n h:Int) (q:List (List AC)) (m j:Int) (r':List (List AC)):AN skB1 ⟨(Ag skH2 (hW r l k n h q m j)).tmps,[],upd [(17,⟨61,A1,r⟩)] 17 ⟨61,Ac,r'⟩⟩=some [.vC Ac r', .vC Ac l, .int .i64 n, .int .i64 h]:=by kernel_rfl
theorem Tr (vars:List AC):Ag skB1 vars=Ag skB1 [.vC Ac (Aq (nth .vD vars 0)), .vC Ac (Aq (nth .vD vars 1)), .int .i64 (Ad (nth .vD vars 2)), .int .i64 (Ad (nth .vD vars 3))]:=by kernel_rfl
theorem PO (X:List (List AC)) (vars:List AC):Ag skB1 [.vC Ac X,nth .vD vars 1,nth .vD vars 2,nth .vD vars 3]=Ag skB1 [.vC Ac X, .vC Ac (Aq (nth .vD vars 1)), .int .i64 (Ad (nth .vD vars 2)), .int .i64 (Ad (nth .vD vars 3))]:=by kernel_rfl
section
variable {Z:Base} {w:World} {M:List AC->Option (List AC)} {r l:List (List AC)} {n:Int} {k:Nat} {a:Act}
theorem PJ (hM:Av Tryz.prog (DM M)) (N:InZ Z) (T:Rel Z (Ag skA1 [.vC Ac r, .vC Ac l, .int .i64 k, .int .i64 n, .int .i64 k]) a.tmps w) (O:k<r.length) (hl:k<l.length)
  (hq:(BQ l k).length<=40) {bs:List Int} (hb:BD M (BQ l k) (BQ l k).length=some bs):
  (Code.seq Hy (.seq HA (.block 2 (.loop cL2)))).wp Tryz.prog (λe Q w'=>e= .normal/\Rel Z (Ag skB1 [.vC Ac (wr r k 1 (.vC kInts (Bi bs))), .vC Ac l, .int .i64 n, .int .i64 k]) Q.tmps w'/\Q.defers=a.defers) a w:=by
 obtain⟨ρ,G⟩:=T;rw[PU]at G;obtain⟨Z1,xs,A,g0⟩:=RO.start (r:=r) G rfl;have D:InZ Z1:=λk b h=>N k b (by rw[<-A.k];exact h);have g:=g0.re D PV (OG r l k n k (Bw r.length xs) (C7 _ _));have J:=Pz (Bw r.length xs) l k n k;have U:(decide (0<=(k:Int))&&decide ((k:Int)<((Bw r.length xs).length:Int)))=true:=by rw[C7];simp;omega
 have V:(decide (0<=(k:Int))&&decide ((k:Int)<(l.length:Int)))=true:=by simp;omega
 rw[U,V,ac,ac,aw]at J;unfold uS at J;rw[Ax]at J;refine wp_seq (wp_mono (g.code Bq (A3 rfl) C4 D E7 J) ?_);rintro e a1 w1 ⟨X,s1,rfl,E,g1,Y⟩;cases X with
 |exit i=>simp[kN]at E
 |ret=>simp[kN]at E
 |normal=>
  show Code.wp _ _ _ _ _;dsimp only at E;refine wp_seq (wp_mono (g1.chunk Bq rfl D E7 He E) ?_);rintro e a2 w2 ⟨rfl,g2,d2⟩;show Code.wp _ _ _ _ _;refine wp_block (wp_mono (wp_loop_rounds _ (MJ (r:=Bw r.length xs) (k:=k) (n:=n) (h:=k) hM D A.if' (by rw[C7];exact O) (by omega) hb (BQ l k).length 0 [] (.slice none 0 0) a2 w2 (by omega) rfl g2)) ?_);rintro e a3 w3 ⟨rfl,v,S,d3⟩;rw[Pb]at S;have L:=S.stop A (k:=k) rfl O;obtain⟨ρ3,q3⟩:=L;refine⟨rfl,⟨ρ3,q3.rebuild N Oz (Tf _ _ _ _ _ _ _ _ _)⟩,d3.trans (d2.trans Y)⟩
theorem RV (hM:Av Tryz.prog (DM M)):C3 Tryz.prog (.block 1 b1C) skB1 (gB1 (mB1 M)):=by
 intro Z O a w vars R K res hR hg;rw[Tr]at hR;unfold gB1 at hg;simp only[ai]at hg;obtain⟨o,ho,Q⟩:=hg;rw[PO]at Q;unfold mB1 at ho;generalize Aq (nth .vD vars 0)=r at*;generalize Aq (nth .vD vars 1)=l at*;generalize Ad (nth .vD vars 2)=n at*;generalize Ad (nth .vD vars 3)=k at*;unfold mB0 at ho;simp only[ai]at ho;obtain⟨o1,hu,h2⟩:=ho;have A:=QX hu;have D:∀(s:St) (a':Act) (w':World),Rel Z s a'.tmps w'->a'.defers=a.defers->kH .ret s=some o1->Dq Z K res a.defers .ret a' w':=by
  intro s a' w' a5 a6 hk;simp only[kH,ai,ag]at hk;obtain⟨l',L,e⟩:=hk;rcases A with h|⟨r',h,_⟩
  ·rw[h]at e;simp only[a9,true_and]at e;subst e;rw[h]at h2;simp only[nth,Ci,ac,ag]at h2;subst h2;simp only[nth,Ci,ac]at Q;obtain⟨ρ,N⟩:=a5;obtain⟨tm,bx,a7⟩:=s;exact⟨.ret,_,rfl,Q,⟨ρ,N.rebuild O SG L⟩,a6⟩
  ·rw[h]at e;simp at e
 unfold uH cH at hu;rw[Ax]at hu;rw[Pg];refine wp_block (wp_seq (wp_mono (Bo (GT hM) (A3 rfl) C4 O cS8 64 1 _ a w _ H9 hR rfl hu) ?_));rintro e a1 w1 ⟨S,s1,rfl,E,T,U⟩;cases S with
 |exit i=>simp[kH]at E
 |ret=>exact D s1 a1 w1 T U E
 |normal=>
  show Code.wp _ _ _ _ _;dsimp only at E;rw[Ax]at E;refine wp_seq (wp_mono (Bo (GT hM) (A3 rfl) C4 O cX9 64 1 _ a1 w1 _ H9 T U E) ?_);rintro e a2 w2 ⟨S,s2,rfl,G,V,X⟩;cases S with
  |exit i=>simp[kH]at G
  |ret=>exact D s2 a2 w2 V X G
  |normal=>
   show Code.wp _ _ _ _ _;dsimp only at G;refine wp_seq (wp_mono (Bo (GT hM) (A3 rfl) C4 O IF 64 1 _ a2 w2 _ H9 V X G) ?_);rintro e a3 w3 ⟨S,s3,rfl,J,Y,a0⟩;cases S with
   |exit i=>simp[kH]at J
   |ret=>exact D s3 a3 w3 Y a0 J
   |normal=>
    show Code.wp _ _ _ _ _;simp only[kH,ai,ag]at J;obtain⟨l',L,e⟩:=J;rcases A with h|⟨r',h,f1,f2,f3,f4,f5⟩
    ·rw[h]at e;simp at e
    ·rw[h]at e;simp only[a9,true_and]at e;subst e;obtain⟨ρ,N⟩:=Y;obtain⟨tm,bx,a7⟩:=s3;have b0:Rel Z _ a3.tmps w3:=⟨ρ,N.rebuild O Qe L⟩;rw[h]at h2;simp only[nth,Ci,aj,Aq,ai,ag]at h2;obtain⟨bs,b1,rfl⟩:=h2;simp only[nth,Ci,aj,Aq]at Q;obtain⟨k,rfl⟩:∃k':Nat,k=(k':Int):=⟨k.toNat,by omega⟩;rw[aw]at*;refine wp_mono (PJ hM O b0 (by omega) (by omega) f5 b1) ?_;rintro e a4 w4 ⟨rfl,b2,b3⟩;exact⟨.normal,_,rfl,Q,b2,b3.trans a0⟩
end
end Go.Bm
