import Derived.Test.YtnnpdlgenmnekaaGreatDoorBmFz
/- the methods of strings.Builder in this program: copyCheck, WriteString -/
import Derived.Shelf.Strings.BuilderK
import Derived.Test.YtnnpdlgenmnekaaGreatDoorProg
import Derived.WalkKit
set_option linter.unusedVariables false
set_option linter.unusedSimpArgs false
namespace Go.Proofs
open Go.Shelf Go.RowKit Go.Bm
set_option maxHeartbeats 1000000 in
set_option maxRecDepth 100000 in
theorem Tryz.bld_used (b:Nat) (w:World) (G:w.cell? ⟨b,0,none⟩=some (.pointer (some ⟨b,0,none⟩))):
  Calls Tryz.prog 121 #[.pointer (some ⟨b,0,none⟩)] w λe w'=>e= .returned (.tuple #[])/\w'=w:=by
 obtain⟨j,D,_⟩:=bn.1 (show(Tryz.prog.info? 141).map (·.size)=some 2 by kernel_rfl)
 go_enter Tryz.func121,Tryz.ntmps121
 go_wp2
 rw[Lib.run_neq_ptr_same w _ Tryz.underlying138 D]
 go_wp2
 go_end0
 exact⟨rfl,rfl⟩
set_option maxHeartbeats 1000000 in
set_option maxRecDepth 100000 in
theorem Tryz.bld_fresh (b:Nat) (w:World) (M:w.cell? ⟨b,0,none⟩=some (.pointer none)) (D:w.shape? b=some (141,2)) (L:w.frozen? ⟨b,0,none⟩=false):
  Calls Tryz.prog 121 #[.pointer (some ⟨b,0,none⟩)] w λe w'=>e= .returned (.tuple #[])/\w'=w.setCell ⟨b,0,none⟩ (.pointer (some ⟨b,0,none⟩)):=by
 obtain⟨j,I,G⟩:=bn.1 (show(Tryz.prog.info? 141).map (·.size)=some 2 by kernel_rfl)
 go_enter Tryz.func121,Tryz.ntmps121
 go_wp2
 rw[Lib.run_to_unsafe w ⟨b,0,none⟩ Tryz.underlying138 Tryz.underlying231 I (by rw[G];decide) D (Nat.zero_lt_succ 1)];simp only[Result.andThen];rw[Oper.upon_value]
 go_wp2
 rw[run_callFunc_extern Tryz.func169 (by kernel_rfl) (by kernel_rfl) (by kernel_rfl) (e:=Extern.AbiNoEscape.same) (by kernel_rfl)];rw[Lib.run_noEscape];simp only[Result.andThen];rw[Oper.upon_value]
 go_wp2
 rw[Lib.run_from_unsafe w ⟨b,0,none⟩ Tryz.underlying231 Tryz.underlying138 I D (by kernel_rfl)];simp only[Result.andThen];rw[Oper.upon_value]
 go_wp2
 go_end0
 exact⟨rfl,rfl⟩
def Vj (w:World) (v D:Value):Prop:=∀k,D.ownBlock=some k->v.ownBlock=some k\/k=w.heap.size
theorem Zpo {P:Program} {ops:Array Oper} {rest:List Oper} {o:Oper} {a:Act} {w:World} {Q:Exit->Act->World->Prop} (a0:o.guard=none) (sl x:Operand) (t u:TypeId)
  (ho:o.op= .call {callee:= .builtin .append,args:= #[sl,x],argTypes:= #[t,u]})
  (base:Nat) (e:TypeId) (i:TypeInfo) (V:P.underlying t=some (.slice e)) (X:P.underlying u=some .string) (Y:P.info? e=some i) (hz:i.zero=some (.int .u8 0))
  (D:i.size=1) (O:i.bytes=1)
  (v:Value) (n:Nat) (xs:List Value) (hs:a.eval sl=v) (G:w.ownsRow base e 1 v n xs) (s:ByteArray) (hx:a.eval x= .string s)
  (M:n+s.size<=140737488355328) (S:base<=w.heap.size)
  (h:∀U w',w'.ownsRow base e 1 U (n+s.size) (xs++Lib.strCells s)->w.grownBy w' v.ownBlock->Vj w v U->wpList P ops Q rest (a.put o.dst U) w'):wpList P ops Q (o::rest) a w:=by
 refine wpList_plain a0 λK hK=> ?_;obtain⟨U,w',L,h2,h3,h4⟩:=Lib.run_append_own_string (P:=P) w base t u o.type e i V X Y hz D O v n xs G s (by unfold maxLen;omega) M S;have h5:Vj w v U:=by
  intro k N;have a1:xs.length=n:=by simpa using G.1
  rcases G.2 with⟨rfl,rfl⟩|⟨g,cap,cur,rfl,a5,hg,a6,a7,a2,a3⟩
  ·by_cases hm:s.size=0
   ·rw[h4.2 ⟨rfl,hm⟩]at N;simp[Value.ownBlock]at N
   ·have I:=run_append_nil_string (P:=P) w t u o.type e i (.int .u8 0) V X Y hz s (by omega) (by omega) (by rw[O];omega);rw[I]at L;simp only[Result.ok.injEq]at L;obtain⟨rfl,_⟩:=L;simp[Value.ownBlock]at N;exact .inr N.symm
  ·by_cases T:n+s.size<=cap
   ·have a4:cur.size=cap:=by simpa using a2
    have I:=Lib.run_append_room_string (P:=P) w t u o.type e i V X Y D g n cap cur hg s T (by omega);rw[I]at L;simp only[Result.ok.injEq]at L;obtain⟨rfl,_⟩:=L;simp[Value.ownBlock]at N;exact .inl (by simp[Value.ownBlock,N])
   ·have holds:∀j u,xs[j]? =some u->w.cell? ((⟨g,0,none⟩:Addr).add j)=some u:=G.cells (g:=g) rfl;have I:=Lib.run_append_grow_string (P:=P) w t u o.type e i (.int .u8 0) V X Y hz ⟨g,0,none⟩ n cap xs (by rw[D];simpa using a1) holds s (by omega) (by omega) (by rw[O];exact growslice_fits (by omega) (by omega));rw[I]at L;simp only[Result.ok.injEq]at L;obtain⟨rfl,_⟩:=L;simp[Value.ownBlock]at N;exact .inr N.symm
 unfold Oper.wp execOp;simp only[ho,resolve,invoke,builtin,Sem.run_bind,Sem.run_pure,dm,List.map_toArray,be,da,hs,hx,L];exact hK _ _ (h U w' h2 h3 h5)
structure Bld (B b : Nat) (v : Value) (bs : List Value) (w : World) : Prop where
 lo:B<=b
 bk:∃p,(p= .pointer none\/p= .pointer (some ⟨b,0,none⟩))/\w.heap[b]? =some (.cells #[p,v] 141 (0,0))
 row:w.ownsRow B 5 1 v bs.length bs
 ne:v.ownBlock≠some b
theorem Bld.is {B b:Nat} {v:Value} {bs:List Value} {w:World} (h:Bld B b v bs w):Lib.IsBuilder 141 5 B b bs w:=by
 obtain⟨D,⟨p,M,G⟩,I,L⟩:=h;rcases M with rfl|rfl
 ·exact .inl ⟨D,v,G,I,L⟩
 ·exact .inr ⟨D,v,G,I,L⟩
def RB (b:Nat) (v:Value) (w w':World):Prop:=w'.os=w.os/\w'.tape=w.tape/\w'.output=w.output/\w.heap.size<=w'.heap.size/\∀k,k<w.heap.size->k≠b->v.ownBlock≠some k->w'.heap[k]? =w.heap[k]?
theorem Za3 {b:Nat} {v u:Value} {w w':World} (h:RB b v w w') (j:Nat):RB b v w (w'.setCell ⟨b,j,none⟩ u):=by
 obtain⟨G,I,L,M,N⟩:=h;refine⟨G,I,L,by simpa using M,λk O D S=> ?_⟩;rw[Below.heap_setCell _ _ _ _ D];exact N k O D S
theorem Zb7 {w:World} {b:Nat} {p v u:Value} (h:w.heap[b]? =some (.cells #[p,v] 141 (0,0))):(w.setCell ⟨b,0,none⟩ u).heap[b]? =some (.cells #[u,v] 141 (0,0))/\(w.setCell ⟨b,1,none⟩ u).heap[b]? =some (.cells #[p,u] 141 (0,0)):=by
 constructor<;>simp[World.setCell,Array.getElem?_modify,h]<;>rfl
set_option maxHeartbeats 2000000 in
set_option maxRecDepth 100000 in
theorem Tryz.bld_write (B b:Nat) (v:Value) (bs:List Value) (s:ByteArray) (w:World) (h:Bld B b v bs w) (hlen:bs.length+s.size<=140737488355328) (a7:B<=w.heap.size):
  Calls Tryz.prog 75 #[.pointer (some ⟨b,0,none⟩), .string s] w λe w'=>(∃x,e= .returned x)/\∃U,Bld B b U (bs++Lib.strCells s) w'/\RB b v w w'/\Vj w v U:=by
 obtain⟨i0,hi,a0,a1,a2⟩:=info_parts (show(Tryz.prog.info? 5).map (λi=>(i.zero,i.size,i.bytes))=some (some (.int .u8 0),1,1) by kernel_rfl);have key:Calls Tryz.prog 121 #[.pointer (some ⟨b,0,none⟩)] w λe I=>e= .returned (.tuple #[])/\I.heap[b]? =some (.cells #[.pointer (some ⟨b,0,none⟩),v] 141 (0,0))/\RB b v w I/\I.heap.size=w.heap.size/\∀k,k≠b->I.heap[k]? =w.heap[k]? :=by
  obtain⟨p,hp,hb⟩:=h.bk;rcases hp with rfl|rfl
  ·refine(Tryz.bld_fresh b w (by rw[Lib.cell_of_heap hb];rfl) (by simp[World.shape?,hb]) (Lib.frozen_of_heap hb 0)).mono ?_;rintro e w' ⟨rfl,rfl⟩;exact⟨rfl,(Zb7 hb).1,Za3 ⟨rfl,rfl,rfl,bt _,λ_ _ _ _=>rfl⟩ 0,by simp,λk hk=>Below.heap_setCell _ _ _ _ hk⟩
  ·refine(Tryz.bld_used b w (by rw[Lib.cell_of_heap hb];rfl)).mono ?_;rintro e w' ⟨rfl,rfl⟩;exact⟨rfl,hb,⟨rfl,rfl,rfl,bt _,λ_ _ _ _=>rfl⟩,rfl,λ_ _=>rfl⟩
 go_enter Tryz.func75,Tryz.ntmps75
 go_wp2_with (go_at_call 121;refine key.mono ?_)
 rintro e I ⟨rfl,O,L,a3,a4⟩;have a6:b<w.heap.size:=by
  obtain⟨p,_,hb⟩:=h.bk;exact(cq.1 hb).1
 have V:I.ownsRow B 5 1 v bs.length bs:=by
  refine⟨h.row.1,?_⟩;rcases h.row.2 with q|⟨g,cap,cur,S,X,q3,q4⟩
  ·exact .inl q
  ·refine .inr ⟨g,cap,cur,S,X,?_,q4⟩;have hg:v.ownBlock=some g:=by rw[S];rfl
   have T:g≠b:=λe=>h.ne (by rw[hg,e]);rw[a4 g T];exact q3
 have c0:I.cell? ⟨b,0,none⟩=some (.pointer (some ⟨b,0,none⟩)):=by rw[Lib.cell_of_heap O];rfl
 have c1:I.cell? ⟨b,1,none⟩=some v:=by rw[Lib.cell_of_heap O];rfl
 go_wp2_with (at_builtin;refine Zpo rfl _ _ 139 9 rfl B 5 i0 Tryz.underlying139 Tryz.underlying9 hi a0 a1 a2 _ _ _ rfl V s rfl ?c4 ?c5 ?_)
 case c4=>omega
 case c5=>omega
 intro U w2 G D Y;have a5:b<I.heap.size:=by omega
 have M:w2.heap[b]? =some (.cells #[.pointer (some ⟨b,0,none⟩),v] 141 (0,0)):=by
  rw[D.block b a5 (λe=>h.ne e.symm)];exact O
 have d0:w2.cell? ⟨b,0,none⟩=some (.pointer (some ⟨b,0,none⟩)):=by rw[Lib.cell_of_heap M];rfl
 have d1:w2.cell? ⟨b,1,none⟩=some v:=by rw[Lib.cell_of_heap M];rfl
 have f1:w2.frozen? ⟨b,1,none⟩=false:=Lib.frozen_of_heap M 1;have N:U.ownBlock≠some b:=λe=>by
  rcases Y b e with q|q
  ·exact h.ne q
  ·omega
 obtain⟨ao,n',cap,rfl⟩:∃ao n' cap,U= .slice ao n' cap:=by
  rcases G.2 with⟨hv,_⟩|⟨g,cap,cur,hv,_⟩
  ·exact⟨_,_,_,hv⟩
  ·exact⟨_,_,_,hv⟩
 go_wp2
 go_ret2
 refine⟨⟨_,rfl⟩, .slice ao n' cap,⟨h.lo,⟨_, .inr rfl,(Zb7 M).2⟩,?_,N⟩,Za3 ⟨?_,?_,?_,?_,?_⟩ 1,?_⟩
 ·refine⟨by simp[Lib.strCells_length],?_⟩;rcases G.2 with⟨S,X⟩|⟨g,cap,cur,S,X,q3,q4⟩
  ·exact .inl ⟨S,by simpa [Lib.strCells_length]using X⟩
  ·refine .inr ⟨g,cap,cur,by simpa [Lib.strCells_length]using S,X,?_,by simpa [Lib.strCells_length]using q4⟩;have T:g≠b:=λe=>N (by rw[S];simp[Value.ownBlock,e]);rw[Below.heap_setCell _ _ _ _ T];exact q3
 ·exact D.os.trans L.1
 ·exact D.tape.trans L.2.1
 ·exact D.output.trans L.2.2.1
 ·have:=D.size;omega
 ·intro k k1 k2 k3;rw[D.block k (by omega) (λe=>k3 e.symm)];exact L.2.2.2.2 k k1 k2 k3
 ·intro k hk;rcases Y k hk with q|q
  ·exact .inl q
  ·exact .inr (q.trans a3)
end Go.Proofs
