/- a slice that grows beside the machine's states: how it begins, what a row of bare cells says at the end -/
import Derived.Test.YtnnpdlgenmnekaaGreatDoorSeLsC
set_option linter.unusedVariables false
set_option linter.unusedSimpArgs false
set_option maxRecDepth 100000
namespace Go.Bm
open Go.Proofs Go.RowKit
def Bw (n:Nat) (xs:List Value):List (List AC):=(List.range n).map λi=>(cut xs (i*9) 9).map AC.raw
theorem C7 (n:Nat) (xs:List Value):(Bw n xs).length=n:=by simp[Bw]
theorem I2 {n:Nat} {xs:List Value} {i:Nat} (h:i<n):(Bw n xs)[i]? =some ((cut xs (i*9) 9).map AC.raw):=by simp[Bw,h]
theorem J3 (A:List Value) (h:A.length=9):Ap A1 (A.map .raw)=A.map .raw:=by
 match A,h with
 |[_,_,_,_,_,_,_,_,_],_=>rfl
theorem KQ {im:Nat->Prop} {w:World}:∀{A:List Value},(∀v∈A,v.oneCell'=true)->CL (CP im w) (A.map .raw) A
 |[],_=>trivial
 |y::A,h=>⟨⟨rfl,h y (by simp)⟩,KQ λv D=>h v (by simp[D])⟩
theorem Lz {im:Nat->Prop} {w:World}:∀{A D:List Value},CL (CP im w) (A.map .raw) D->D=A
 |[],[],_=>rfl
 |y::A,z::D,h=>by
  obtain⟨h1,h2⟩:=h;rw[Lz h2,h1.1]
 |[],_::_,h=>h.elim
 |_::_,[],h=>h.elim
theorem JR {xs:List Value} {n i:Nat} (A:xs.length=n*9) (D:i<n):(cut xs (i*9) 9).length=9:=by
 simp only[cut,cn,cu];omega
theorem Qc {xs:List Value} {i:Nat}:∀v∈cut xs (i*9) 9,v∈xs:=λv A=>bv (ca A)
theorem ON {im:Nat->Prop} {w:World} {l:List (List AC)} {xs:List Value} (h:RowC im w Ac l xs):RowC im w A1 (Bw l.length xs) xs:=by
 have D:xs.length=l.length*9:=h.1;have h1:=h.one (by decide);refine⟨by rw[C7];exact D,λc E=> ?_,λi c A=> ?_⟩
 ·simp only[Bw,am,List.mem_range]at E;obtain⟨i,A,rfl⟩:=E;exact J3 _ (JR D A)
 ·have G:i<l.length:=by
   have:=(bc.1 A).1
   rwa [C7]at this
  rw[I2 G]at A;simp only[ag]at A;subst A;exact KQ λv J=>h1 v (Qc v J)
def GM (A:List Value) (v:Value):List Value:=A.set 1 v
theorem SS {n k:Nat} {xs:List Value} {v:Value} (D:xs.length=n*9) (A:k<n) (i:Nat) (E:i<n):(wq (Bw n xs) k (.raw v))[i]? =some ((if i=k then GM (cut xs (i*9) 9) v else cut xs (i*9) 9).map .raw):=by
 unfold wq;rw[bw];have G:nth [] (Bw n xs) k=(cut xs (k*9) 9).map AC.raw:=by rw[Au,aq,I2 A];rfl
 by_cases e:k=i
 ·subst e;rw[cm rfl,cm (by rw[C7];exact A),cm rfl,G,J3 _ (JR D A),CF];simp[GM,List.map_set]
 ·rw[cd e,cd (λh=>e h.symm),I2 E]
theorem Tm {r:List (List AC)} {k:Nat} {v A:Value}:wq (wq r k (.raw v)) k (.raw A)=wq r k (.raw A):=by
 unfold wq;by_cases D:k<r.length
 ·have E:nth [] (r.set k (setL (Ap A1 (nth [] r k)) 1 (.raw v))) k=setL (Ap A1 (nth [] r k)) 1 (.raw v):=by
   rw[Au,aq,bw];simp[D]
  rw[E,List.set_set];rfl
 ·have e:∀c:List AC,r.set k c=r:=λc=>List.set_eq_of_length_le (by omega);rw[e,e]
theorem Qh {r:List (List AC)} {k:Nat} {v:Value} (A:k<r.length):E3 (nth .vD (nth [] (wq r k (.raw v)) k) 1)=v:=by
 unfold wq;have D:nth [] (r.set k (setL (Ap A1 (nth [] r k)) 1 (.raw v))) k=setL (Ap A1 (nth [] r k)) 1 (.raw v):=by
  rw[Au,aq,bw];simp[A]
 rw[D];rfl
theorem Id {r:List (List AC)} {k:Nat} {c:AC}:(wq r k c).length=r.length:=by simp[wq]
theorem OY (z:List AC) (l:List (List AC)):Ap Ac (setL (Ap Ac z) 1 (.vC kInts l))=setL (Ap Ac z) 1 (.vC kInts l):=rfl
theorem Sw {Q:AC->Value->Prop} {z:List AC} {A:List Value} (h:CL Q (Ap Ac z) A) {c:AC} {v:Value} (D:Q c v):CL Q (setL (Ap Ac z) 1 c) (GM A v):=by
 match A,h with
 |[_,_,_,_,_,_,_,_,_],h=>exact⟨h.1,D,h.2.2⟩
theorem O2 {I im:Nat->Prop} {w:World} {l:List (List AC)} {A xs:List Value} {k:Nat} {v:Value} {q:List (List AC)} (S:∀b,I b->im b) (L:RowC I w Ac l A) (h1:RowC im w A1 (wq (Bw l.length A) k (.raw v)) xs) (T:k<l.length)
  (U:CP im w (.vC kInts q) v):RowC im w Ac (wr l k 1 (.vC kInts q)) xs:=by
 have O:A.length=l.length*9:=L.1;have G:RowC im w Ac l A:=L.mono S λ_ _=>rfl;have V:xs.length=l.length*9:=by have:=h1.1;rw[Id,C7]at this;exact this
 have N:∀i,i<l.length->cut xs (i*9) 9=if i=k then GM (cut A (i*9) 9) v else cut A (i*9) 9:=λi D=>Lz (h1.2.2 i _ (SS O T i D));refine⟨by unfold wr;rw[List.length_set];exact V,λc N=> ?_,λi c D=> ?_⟩
 ·unfold wr at N;rcases b9 N with h|rfl
  ·exact L.2.1 c h
  ·exact OY _ _
 ·have E:i<l.length:=by have:=(bc.1 D).1;unfold wr at this;rwa [List.length_set]at this
  show CL _ c (cut xs (i*9) 9);rw[N i E];unfold wr at D;rw[bw]at D;by_cases e:k=i
  ·subst e;rw[cm rfl,cm E]at D;rw[cm rfl];simp only[ag]at D;subst D;have Q:l[k]? =some (nth [] l k):=by rw[Au,aq,ah E];rfl
   have:=G.2.2 k _ Q;have J:=L.2.1 _ (ay Q);rw[<-J]at this;exact Sw this U
  ·rw[cd e]at D;rw[cd (λh=>e h.symm)];exact G.2.2 i c D
end Go.Bm
