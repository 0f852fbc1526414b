/- a law's loop in which a slice in a row's cell grows: steps in any order -/
import Derived.Test.YtnnpdlgenmnekaaGreatDoorSeLsE
import Derived.Orders
set_option linter.unusedVariables false
set_option linter.unusedSimpArgs false
set_option maxRecDepth 100000
noncomputable section
namespace Go.Bm
open Go.Proofs Go.RowKit
section
variable {P:Program} {C:Cfg} {w:World} {Z:Base} {R:Type} {v:Value} {acc:List Value} {s:St} {a:Act} {ops:Array Oper}
theorem RO.take (A:Ak P C) (E:∀t∈C.eqOk,P.stoodInHeld t=false) {o:Oper} {G:List Oper} {K:St->Option R} {res:R} (h:RO Z v acc s a.tmps w) (L:AF P C ops.toList (o::G) s K=some res)
  {x:Value} (O:Yields P ops o x a):∃D,AF P C ops.toList G D K=some res/\RO Z v acc D (a.put o.dst x).tmps w:=by
 simp only[AF]at L;have:=Fj (next:=λN w'=>∃D,AF P C ops.toList G D K=some res/\RO Z v acc D N.tmps w') (Q:=λ_ _ _=>False) A E h.rel L (λT D N w' h1 h2 _=>⟨D,h1,h.next h2⟩);rcases O with⟨J,S⟩|⟨J,rfl⟩
 ·rw[cm J]at this;unfold Oper.wp at this;rw[S]at this;exact this
 ·rw[cd (by simp[J])]at this;exact this
theorem RO.op (A:Ak P C) (G:∀t∈C.eqOk,P.stoodInHeld t=false) {o:Oper} {i:Nat} {N:List Oper} {K:St->Option R} {res:R} (S:ops[i]? =some o) (h:RO Z v acc s a.tmps w) (O:AF P C ops.toList (o::N) s K=some res)
  {J:Act->World->Prop} {Q:Exit->Act->World->Prop} (T:∀(E:St) (D:Act) (w':World),AF P C ops.toList N E K=some res->RO Z v acc E D.tmps w'->D.defers=a.defers->J D w'):wpOp P ops Q i J a w:=by
 simp only[AF]at O;have:=Fj (next:=J) (Q:=Q) A G h.rel O (λU E D w' h1 h2 h3=>T E D w' h1 (h.next h2) h3);unfold wpOp;rw[S];dsimp only;split
 ·rename_i L;rw[cm L]at this;exact .inl this
 ·rename_i L;rw[cd L]at this;exact this
theorem Da {o:Oper} {x:Operand} (A:o.op= .move x) (D:o.guard=none):Yields P ops o (a.eval x) a:= .inl ⟨by simp[Region.wanted,D],λw=>by simp[execOp,A]⟩
theorem Rz {o:Oper} {i:Nat} {x:Value} {w':World} {A:Act->World->Prop} {Q:Exit->Act->World->Prop} (D:ops[i]? =some o) (E:o.guard=none) (he:(execOp a.eval o).run P w= .ok (.value x) w') (h:A (a.put o.dst x) w'):wpOp P ops Q i A a w:=by
 unfold wpOp;rw[D];dsimp only;rw[cm (by simp[Region.wanted,E])];exact .inl (Cp he h)
theorem RO.drew (h:RO Z v acc s a.tmps w):RO Z v acc s a.tmps {w with drawn:=w.drawn+1}:=by
 have A:Gt Z.F {w with drawn:=w.drawn+1}:=h.gt.mono λg cs _ q=>⟨q,rfl⟩;refine⟨De h.own λ_ _=>rfl,h.ho,h.fr.trans ⟨rfl,rfl,rfl,bf _,λ_ _=>rfl⟩,h.hF,A,?_⟩;exact L2 (Rel.drew h.rel) A
theorem RO.put (h:RO Z v acc s a.tmps w) (d:Nat) {u:Value} (D:u.oneCell'=true):RO Z v acc ⟨setL s.tmps d (.c (.raw u)),s.aB,s.aC⟩ (a.tmps.setIfInBounds d u) w:=by
 obtain⟨ρ,q⟩:=h.rel;exact⟨h.own,h.ho,h.fr,h.hF,h.gt,ρ,q.put d (v:= .c (.raw u)) (x:=u) ⟨_,rfl,rfl,D⟩ (λc A=>by simp at A;subst A;trivial)⟩
theorem RO.int (h:RO Z v acc s a.tmps w) {x:Operand} {k:IntKind} {n:Int} (A:Ai s.tmps x= .c (.int k n)):a.eval x= .int k n:=by
 obtain⟨ρ,e⟩:=h.rel;have e:=Du e x;rw[A]at e;obtain⟨c,h1,h2⟩:=e;simp only[a9,cy]at h1;subst h1;exact h2
theorem RO.own' (h:RO Z v acc s a.tmps w) {x:Operand} {id wd n:Nat} (A:Ai s.tmps x= .c (.own id wd n)) (D:0<n):∃g o c,a.eval x= .slice (some ⟨g,o,none⟩) n c:=by
 obtain⟨ρ,e⟩:=h.rel;have e:=Du e x;rw[A]at e;obtain⟨c,h1,h2⟩:=e;simp only[a9,cy]at h1;subst h1;rcases h2.2.2 with⟨_,h⟩|h
 ·omega
 ·exact h
theorem RO.rptr (h:RO Z v acc s a.tmps w) {x:Operand} {id i j:Nat} (A:Ai s.tmps x= .c (.rptr id i j)):∃g o,a.eval x= .pointer (some ⟨g,o,none⟩):=by
 obtain⟨ρ,e⟩:=h.rel;have e:=Du e x;rw[A]at e;obtain⟨c,h1,h2⟩:=e;simp only[a9,cy]at h1;subst h1;obtain⟨g,_,h⟩:=h2;exact⟨g,_,h⟩
end
theorem Qw {a:Act} {g o n c k:Nat} (h1:a.eval (.tmp 87)= .slice (some ⟨g,o,none⟩) n c) (h2:a.eval (.tmp 88)= .int .i64 (k:Int)) (A:k<n):Yields Tryz.prog ops16 (oN 4) (.pointer (some ⟨g,o+k*9,none⟩)) a:=by
 have e:oN 4=⟨some 89, .indexAddr 55 (.tmp 87) (.tmp 88),0,(oN 4).pos,(oN 4).after,none⟩:=by kernel_rfl
 rw[e];refine .inl ⟨rfl,λw=> ?_⟩;have D:Tryz.prog.underlying 55=some (.slice 61):=by kernel_rfl
 have E:szT Tryz.prog 61=some 9:=by kernel_rfl
 simp[execOp,Instr.indexAt,run_underlying D,h1,h2,asIntOf,Instr.sureAddr,A,A9 E,Addr.add_lit]
theorem RX {a:Act} {g o:Nat} (h1:a.eval (.tmp 89)= .pointer (some ⟨g,o,none⟩)):∃x,Yields Tryz.prog ops16 (oN 5) x a:=by
 have e:oN 5=⟨some 90, .fieldAddr 61 (.tmp 89) 1,0,(oN 5).pos,(oN 5).after,none⟩:=by kernel_rfl
 rw[e];have A : (match EU Tryz.prog 61 1 with
   | some f => (match szT Tryz.prog f.type with
    |some (_+1)=>true
    |_=>false)
   |none=>false)=true:=by kernel_rfl
 split at A
 ·rename_i f G;have D:∃fs,Tryz.prog.underlying 61=some (.struct fs)/\fs[1]? =some f:=by
   unfold EU at G;split at G
   ·grind
   ·grind
  obtain⟨fs,J,E⟩:=D;split at A
  ·rename_i n L;have N:n+1≠0:=by omega
   have O:∀(w:World) (b o:Nat),(fieldPlace ⟨b,o,none⟩ f).run Tryz.prog w= .ok ⟨b,o+f.offset,none⟩ w:=by
    intro w b o;simp[fieldPlace,A9 L,Addr.add_lit]
   refine⟨.pointer (some ⟨g,o+f.offset,none⟩), .inl ⟨rfl,λw=> ?_⟩⟩;simp[execOp,Instr.fieldAt,run_underlying J,E,h1,Instr.sureAddr,O]
  ·cases A
 ·cases A
end Go.Bm
