/- a law's loop in which a slice in a row's cell grows: the region in which it grows -/
import Derived.Test.YtnnpdlgenmnekaaGreatDoorSeLsF
set_option linter.unusedVariables false
set_option linter.unusedSimpArgs false
set_option maxRecDepth 100000
noncomputable section
namespace Go.Bm
open Go.Proofs Go.RowKit
abbrev L0:Array Bool:=Array.replicate 14 false
abbrev sb (l:Array Bool) (i:Nat):Array Bool:=l.setIfInBounds i true
abbrev L7:Array Bool:=sb (sb (sb (sb (sb (sb (sb L0 0) 1) 2) 3) 7) 4) 5
abbrev LT:Array Bool:=sb (sb (sb L7 6) 8) 9
theorem Ee:Region.noSelect ops16=true:=by kernel_rfl
theorem Bf:∀i,i<14->ops16[i]? =some (oN i):=by
 intro i A;have h:ops16.toList[i]? =some (oN i):=by
  rw[Um]
  match i,A with
  |0,_=>rfl
  |1,_=>rfl
  |2,_=>rfl
  |3,_=>rfl
  |4,_=>rfl
  |5,_=>rfl
  |6,_=>rfl
  |7,_=>rfl
  |8,_=>rfl
  |9,_=>rfl
  |10,_=>rfl
  |11,_=>rfl
  |12,_=>rfl
  |13,_=>rfl
 simpa using h
theorem mv0:(oN 0).op= .move (.tmp 3)/\(oN 0).guard=none/\(oN 0).dst=some 85:=⟨by kernel_rfl,by kernel_rfl,by kernel_rfl⟩
theorem mv1:(oN 1).op= .move (.tmp 4)/\(oN 1).guard=none:=⟨by kernel_rfl,by kernel_rfl⟩
theorem mv2:(oN 2).op= .move (.tmp 3)/\(oN 2).guard=none:=⟨by kernel_rfl,by kernel_rfl⟩
theorem mv3:(oN 3).op= .move (.tmp 4)/\(oN 3).guard=none:=⟨by kernel_rfl,by kernel_rfl⟩
theorem mv7:(oN 7).op= .move (.tmp 6)/\(oN 7).guard=none:=⟨by kernel_rfl,by kernel_rfl⟩
theorem g10:(oN 10).guard=none/\(oN 10).dst=some 95:=⟨by kernel_rfl,by kernel_rfl⟩
theorem d4:(oN 4).dst=some 89/\(oN 5).dst=some 90:=⟨by kernel_rfl,by kernel_rfl⟩
theorem Pu:Region.ready .any ops16 L7=[6,8]:=by kernel_rfl
theorem P6:Region.ready .any ops16 (sb L7 6)=[8]:=by kernel_rfl
theorem NT:Region.ready .any ops16 (sb (sb L7 6) 8)=[9]:=by kernel_rfl
theorem O3:Region.ready .any ops16 (sb L7 8)=[6,9]:=by kernel_rfl
theorem P8:Region.ready .any ops16 (sb (sb L7 8) 6)=[9]:=by kernel_rfl
theorem Un:Region.ready .any ops16 (sb (sb L7 8) 9)=[6]:=by kernel_rfl
theorem Og:sb (sb (sb L7 8) 6) 9=LT:=by kernel_rfl
theorem OK:sb (sb (sb L7 8) 9) 6=LT:=by kernel_rfl
theorem Qq:Region.ready .any ops16 LT=[10]:=by kernel_rfl
theorem SJ:Region.ready .any ops16 (sb LT 10)=[11]:=by kernel_rfl
theorem OA:Region.ready .any ops16 (sb (sb LT 10) 11)=[12]:=by kernel_rfl
theorem OI:Region.ready .any ops16 (sb (sb (sb LT 10) 11) 12)=[13]:=by kernel_rfl
theorem O9:Region.ready .any ops16 (sb (sb (sb (sb LT 10) 11) 12) 13)=[]:=by kernel_rfl
theorem A3 {C:Cfg} (h:C.eqOk=[]):∀t∈C.eqOk,Tryz.prog.stoodInHeld t=false:=by rw[h];simp
theorem GT {M:List AC->Option (List AC)} (h:Av Tryz.prog (DM M)):Ak Tryz.prog (C12 M):=BY rfl ⟨h,trivial⟩
section
variable {Z:Base} {w:World} {M:List AC->Option (List AC)} {r l:List (List AC)} {k:Nat} {x n h:Int} {q:List (List AC)} {m j:Int} {v:Value} {acc:List Value} {a:Act}
def Q16 (Z:Base) (r l:List (List AC)) (k:Nat) (n h:Int) (q:List (List AC)) (m j:Int) (acc:List Value) (d:List Deferred):Exit->Act->World->Prop:=
 λe A w'=>e= .normal/\∃D,RO Z D acc (Ag skH2 (hW (wq r k (.raw D)) l k n h q m j)) A.tmps w'/\A.defers=d
theorem Jo (Y:InZ Z) (O:∀k,Z.I0 k->Z.F k) {y:Int} (g:RO Z v acc (Ag skT (hT r l k n h q m j v y)) a.tmps w) (hk:k<r.length) (a0:acc.length<1000000) {d:List Deferred} (hd:a.defers=d):
  wpAny Tryz.prog .any ops16 (Q16 Z r l k n h q m j (acc++[.int .i64 y]) d) 4 LT a w:=by
 refine wpAny_all Qq (by simp) λi D=> ?_;simp only[bg]at D;subst D;obtain⟨ρ,qq⟩:=g.rel;have Q:opK Tryz.prog C30 (Ai (Ag skT (hT r l k n h q m j v y)).tmps) (oN 10).dst (oN 10).op some=some (.append 3 kInts 8 (.raw v) (.vC kInts [[.int .i64 y]])):=by
  rw[g10.2];exact O8 r l k n h q m j v y
 obtain⟨p,hp,J⟩:=JK (P:=Tryz.prog) (C:=C30) (ρ:=ρ) (w:=w) (A3 rfl) (e:=a.eval) (λx=>Du qq x) (λf=>rfl) (oN 10) Q;simp only[ag]at hp;subst hp;obtain⟨t,ty,i,z,sv,xv,h1,h2,h3,h4,h5,h6,h7,h8,h9⟩:=J;simp only[CC,CP]at h7;obtain⟨rfl,-⟩:=h7;obtain⟨ad,c,news,rfl,A,G⟩:=JF qq (ks:=kInts) (m:=[[.int .i64 y]]) rfl h8;have S:news=[Value.int .i64 y]:=by
  have e1:=A.1
  match news,e1 with
  |[u],_=>
   have:=A.2.2 0 _ rfl;have:=this.1;simp only[CP]at this;rw[this]
 subst S;obtain⟨E,w',p1,p2,p3,p4⟩:=H4 (P:=Tryz.prog) (ty:=ty) (c:=c) h1 h2 h3 h4 h6 (by decide) g.own A.1 G (A.one (by decide)) (by simp only[maxLen,c7];omega) (by rw[h5];simp only[c7];omega);rw[p1]at h9;refine Rz (Bf 10 (by decide)) g10.1 h9 ?_;have own':A_ w' 3 1 E (acc++[Value.int .i64 y]).length (acc++[Value.int .i64 y]):=by
  rw[bh];exact p2
 have g1:=g.write O own' p3 p4;have L:E.oneCell'=true:=by
  rcases own'.2 with⟨e,_⟩|⟨_,_,_,_,e,_⟩<;>rw[e]<;>rfl
 have g2:=(g1.put (a:=a) 95 L).re Y Pv (OX r l k n h q m j sv E y);have et:(a.put (oN 10).dst E).tmps=a.tmps.setIfInBounds 95 E:=by rw[g10.2];rfl
 rw[<-et]at g2;have T:(a.put (oN 10).dst E).defers=d:=by rw[g10.2];exact hd
 have U:inR r k=true:=by simp[inR];omega
 have hz:=SY r l k n h q m j E;rw[U,ac,aw]at hz;refine wpAny_all SJ (by simp) λi D=> ?_;simp only[bg]at D;subst D;refine RO.op Bq (A3 rfl) (Bf 11 (by decide)) g2 hz λs3 a3 w3 V g3 d3=> ?_;refine wpAny_all OA (by simp) λi D=> ?_;simp only[bg]at D;subst D;refine RO.op Bq (A3 rfl) (Bf 12 (by decide)) g3 V λs4 a4 w4 X g4 d4=> ?_;refine wpAny_all OI (by simp) λi D=> ?_;simp only[bg]at D;subst D;refine RO.op Bq (A3 rfl) (Bf 13 (by decide)) g4 X λs5 a5 w5 N g5 d5=> ?_;simp only[AF]at N;exact wpAny_done O9 ⟨rfl,E,g5.re Y He N,by rw[d5,d4,d3];exact T⟩ 0
end
end Go.Bm
