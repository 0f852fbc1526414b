import Derived.Test.YtnnpdlgenmnekaaGreatDoorBmFz
/- the methods of strings.Builder in this program: copyCheck, WriteString -/
import Derived.Shelf.Strings.BuilderK
import Derived.Test.YtnnpdlgenmnekaaGreatDoorProg
import Derived.WalkKit
set_option linter.unusedVariables false
set_option linter.unusedSimpArgs false
namespace Go.Proofs
open Go.Shelf Go.RowKit Go.Bm
set_option maxHeartbeats 1000000 in
set_option maxRecDepth 100000 in
theorem Tryz.bld_used (b:Nat) (w:World) (D:w.cell? ⟨b,0,none⟩=some (.pointer (some ⟨b,0,none⟩))):
  Calls Tryz.prog 121 #[.pointer (some ⟨b,0,none⟩)] w λe w'=>e= .returned (.tuple #[])/\w'=w:=by
 obtain⟨j,A,_⟩:=ap.1 (show(Tryz.prog.info? 141).map (·.size)=some 2 by kernel_rfl)
 go_enter Tryz.func121,Tryz.ntmps121
 go_wp2
 rw[Lib.run_neq_ptr_same w _ Tryz.underlying138 A]
 go_wp2
 go_end0
 exact⟨rfl,rfl⟩
set_option maxHeartbeats 1000000 in
set_option maxRecDepth 100000 in
theorem Tryz.bld_fresh (b:Nat) (w:World) (J:w.cell? ⟨b,0,none⟩=some (.pointer none)) (A:w.shape? b=some (141,2)) (G:w.frozen? ⟨b,0,none⟩=false):
  Calls Tryz.prog 121 #[.pointer (some ⟨b,0,none⟩)] w λe w'=>e= .returned (.tuple #[])/\w'=w.setCell ⟨b,0,none⟩ (.pointer (some ⟨b,0,none⟩)):=by
 obtain⟨j,E,D⟩:=ap.1 (show(Tryz.prog.info? 141).map (·.size)=some 2 by kernel_rfl)
 go_enter Tryz.func121,Tryz.ntmps121
 go_wp2
 rw[Lib.run_to_unsafe w ⟨b,0,none⟩ Tryz.underlying138 Tryz.underlying231 E (by rw[D];decide) A (Nat.zero_lt_succ 1)];simp only[Result.andThen];rw[Oper.upon_value]
 go_wp2
 rw[run_callFunc_extern Tryz.func169 (by kernel_rfl) (by kernel_rfl) (by kernel_rfl) (e:=Extern.AbiNoEscape.same) (by kernel_rfl)];rw[Lib.run_noEscape];simp only[Result.andThen];rw[Oper.upon_value]
 go_wp2
 rw[Lib.run_from_unsafe w ⟨b,0,none⟩ Tryz.underlying231 Tryz.underlying138 E A (by kernel_rfl)];simp only[Result.andThen];rw[Oper.upon_value]
 go_wp2
 go_end0
 exact⟨rfl,rfl⟩
def Ha (w:World) (v A:Value):Prop:=∀k,A.ownBlock=some k->v.ownBlock=some k\/k=w.heap.size
theorem OF {P:Program} {ops:Array Oper} {rest:List Oper} {o:Oper} {a:Act} {w:World} {Q:Exit->Act->World->Prop} (Y:o.guard=none) (sl x:Operand) (t u:TypeId)
  (ho:o.op= .call {callee:= .builtin .append,args:= #[sl,x],argTypes:= #[t,u]})
  (base:Nat) (e:TypeId) (i:TypeInfo) (U:P.underlying t=some (.slice e)) (V:P.underlying u=some .string) (X:P.info? e=some i) (hz:i.zero=some (.int .u8 0))
  (A:i.size=1) (N:i.bytes=1)
  (v:Value) (n:Nat) (xs:List Value) (hs:a.eval sl=v) (D:w.ownsRow base e 1 v n xs) (s:ByteArray) (hx:a.eval x= .string s)
  (J:n+s.size<=140737488355328) (O:base<=w.heap.size)
  (h:∀T w',w'.ownsRow base e 1 T (n+s.size) (xs++Lib.strCells s)->w.grownBy w' v.ownBlock->Ha w v T->wpList P ops Q rest (a.put o.dst T) w'):wpList P ops Q (o::rest) a w:=by
 refine wpList_plain Y λK hK=> ?_;obtain⟨T,w',G,h2,h3,h4⟩:=Lib.run_append_own_string (P:=P) w base t u o.type e i U V X hz A N v n xs D s (by unfold maxLen;omega) J O;have h5:Ha w v T:=by
  intro k L;have a0:xs.length=n:=by simpa using D.1
  rcases D.2 with⟨rfl,rfl⟩|⟨g,cap,cur,rfl,a4,hg,a5,a6,a1,a2⟩
  ·by_cases hm:s.size=0
   ·rw[h4.2 ⟨rfl,hm⟩]at L;simp[Value.ownBlock]at L
   ·have E:=run_append_nil_string (P:=P) w t u o.type e i (.int .u8 0) U V X hz s (by omega) (by omega) (by rw[N];omega);rw[E]at G;simp only[Result.ok.injEq]at G;obtain⟨rfl,_⟩:=G;simp[Value.ownBlock]at L;exact .inr L.symm
  ·by_cases S:n+s.size<=cap
   ·have a3:cur.size=cap:=by simpa using a1
    have E:=Lib.run_append_room_string (P:=P) w t u o.type e i U V X A g n cap cur hg s S (by omega);rw[E]at G;simp only[Result.ok.injEq]at G;obtain⟨rfl,_⟩:=G;simp[Value.ownBlock]at L;exact .inl (by simp[Value.ownBlock,L])
   ·have holds:∀j u,xs[j]? =some u->w.cell? ((⟨g,0,none⟩:Addr).add j)=some u:=D.cells (g:=g) rfl;have E:=Lib.run_append_grow_string (P:=P) w t u o.type e i (.int .u8 0) U V X hz ⟨g,0,none⟩ n cap xs (by rw[A];simpa using a0) holds s (by omega) (by omega) (by rw[N];exact growslice_fits (by omega) (by omega));rw[E]at G;simp only[Result.ok.injEq]at G;obtain⟨rfl,_⟩:=G;simp[Value.ownBlock]at L;exact .inr L.symm
 unfold Oper.wp execOp;simp only[ho,resolve,invoke,builtin,Sem.run_bind,Sem.run_pure,be,List.map_toArray,av,cw,hs,hx,G];exact hK _ _ (h T w' h2 h3 h5)
structure Bld (B b : Nat) (v : Value) (bs : List Value) (w : World) : Prop where
 lo:B<=b
 bk:∃p,(p= .pointer none\/p= .pointer (some ⟨b,0,none⟩))/\w.heap[b]? =some (.cells #[p,v] 141 (0,0))
 row:w.ownsRow B 5 1 v bs.length bs
 ne:v.ownBlock≠some b
theorem Bld.is {B b:Nat} {v:Value} {bs:List Value} {w:World} (h:Bld B b v bs w):Lib.IsBuilder 141 5 B b bs w:=by
 obtain⟨h1,⟨p,D,h2⟩,h3,A⟩:=h;rcases D with rfl|rfl
 ·exact .inl ⟨h1,v,h2,h3,A⟩
 ·exact .inr ⟨h1,v,h2,h3,A⟩
def FM (b:Nat) (v:Value) (w w':World):Prop:=w'.os=w.os/\w'.tape=w.tape/\w'.output=w.output/\w.heap.size<=w'.heap.size/\∀k,k<w.heap.size->k≠b->v.ownBlock≠some k->w'.heap[k]? =w.heap[k]?
theorem MC {b:Nat} {v u:Value} {w w':World} (h:FM b v w w') (j:Nat):FM b v w (w'.setCell ⟨b,j,none⟩ u):=by
 obtain⟨h1,h2,h3,D,E⟩:=h;refine⟨h1,h2,h3,by simpa using D,λk G A J=> ?_⟩;rw[Below.heap_setCell _ _ _ _ A];exact E k G A J
theorem MN {w:World} {b:Nat} {p v u:Value} (h:w.heap[b]? =some (.cells #[p,v] 141 (0,0))):(w.setCell ⟨b,0,none⟩ u).heap[b]? =some (.cells #[u,v] 141 (0,0))/\(w.setCell ⟨b,1,none⟩ u).heap[b]? =some (.cells #[p,u] 141 (0,0)):=by
 constructor<;>simp[World.setCell,Array.getElem?_modify,h]<;>rfl
set_option maxHeartbeats 2000000 in
set_option maxRecDepth 100000 in
theorem Tryz.bld_write (B b:Nat) (v:Value) (bs:List Value) (s:ByteArray) (w:World) (h:Bld B b v bs w) (hlen:bs.length+s.size<=140737488355328) (a4:B<=w.heap.size):
  Calls Tryz.prog 75 #[.pointer (some ⟨b,0,none⟩), .string s] w λe w'=>(∃x,e= .returned x)/\∃Q,Bld B b Q (bs++Lib.strCells s) w'/\FM b v w w'/\Ha w v Q:=by
 obtain⟨i0,hi,V,X,Y⟩:=info_parts (show(Tryz.prog.info? 5).map (λi=>(i.zero,i.size,i.bytes))=some (some (.int .u8 0),1,1) by kernel_rfl);have key:Calls Tryz.prog 121 #[.pointer (some ⟨b,0,none⟩)] w λe E=>e= .returned (.tuple #[])/\E.heap[b]? =some (.cells #[.pointer (some ⟨b,0,none⟩),v] 141 (0,0))/\FM b v w E/\E.heap.size=w.heap.size/\∀k,k≠b->E.heap[k]? =w.heap[k]? :=by
  obtain⟨p,hp,hb⟩:=h.bk;rcases hp with rfl|rfl
  ·refine(Tryz.bld_fresh b w (by rw[Lib.cell_of_heap hb];rfl) (by simp[World.shape?,hb]) (Lib.frozen_of_heap hb 0)).mono ?_;rintro e w' ⟨rfl,rfl⟩;exact⟨rfl,(MN hb).1,MC ⟨rfl,rfl,rfl,bf _,λ_ _ _ _=>rfl⟩ 0,by simp,λk hk=>Below.heap_setCell _ _ _ _ hk⟩
  ·refine(Tryz.bld_used b w (by rw[Lib.cell_of_heap hb];rfl)).mono ?_;rintro e w' ⟨rfl,rfl⟩;exact⟨rfl,hb,⟨rfl,rfl,rfl,bf _,λ_ _ _ _=>rfl⟩,rfl,λ_ _=>rfl⟩
 go_enter Tryz.func75,Tryz.ntmps75
 go_wp2_with (go_at_call 121;refine key.mono ?_)
 rintro e E ⟨rfl,N,G,a0,a1⟩;have a3:b<w.heap.size:=by
  obtain⟨p,_,hb⟩:=h.bk;exact(az.1 hb).1
 have S:E.ownsRow B 5 1 v bs.length bs:=by
  refine⟨h.row.1,?_⟩;rcases h.row.2 with q|⟨g,cap,cur,q1,q2,q3,q4⟩
  ·exact .inl q
  ·refine .inr ⟨g,cap,cur,q1,q2,?_,q4⟩;have hg:v.ownBlock=some g:=by rw[q1];rfl
   have O:g≠b:=λe=>h.ne (by rw[hg,e]);rw[a1 g O];exact q3
 have c0:E.cell? ⟨b,0,none⟩=some (.pointer (some ⟨b,0,none⟩)):=by rw[Lib.cell_of_heap N];rfl
 have c1:E.cell? ⟨b,1,none⟩=some v:=by rw[Lib.cell_of_heap N];rfl
 go_wp2_with (at_builtin;refine OF rfl _ _ 139 9 rfl B 5 i0 Tryz.underlying139 Tryz.underlying9 hi V X Y _ _ _ rfl S s rfl ?c4 ?c5 ?_)
 case c4=>omega
 case c5=>omega
 intro Q U D A T;have a2:b<E.heap.size:=by omega
 have J:U.heap[b]? =some (.cells #[.pointer (some ⟨b,0,none⟩),v] 141 (0,0)):=by
  rw[A.block b a2 (λe=>h.ne e.symm)];exact N
 have d0:U.cell? ⟨b,0,none⟩=some (.pointer (some ⟨b,0,none⟩)):=by rw[Lib.cell_of_heap J];rfl
 have d1:U.cell? ⟨b,1,none⟩=some v:=by rw[Lib.cell_of_heap J];rfl
 have f1:U.frozen? ⟨b,1,none⟩=false:=Lib.frozen_of_heap J 1;have L:Q.ownBlock≠some b:=λe=>by
  rcases T b e with q|q
  ·exact h.ne q
  ·omega
 obtain⟨ao,n',cap,rfl⟩:∃ao n' cap,Q= .slice ao n' cap:=by
  rcases D.2 with⟨hv,_⟩|⟨g,cap,cur,hv,_⟩
  ·exact⟨_,_,_,hv⟩
  ·exact⟨_,_,_,hv⟩
 go_wp2
 go_ret2
 refine⟨⟨_,rfl⟩, .slice ao n' cap,⟨h.lo,⟨_, .inr rfl,(MN J).2⟩,?_,L⟩,MC ⟨?_,?_,?_,?_,?_⟩ 1,?_⟩
 ·refine⟨by simp[Lib.strCells_length],?_⟩;rcases D.2 with⟨q1,q2⟩|⟨g,cap,cur,q1,q2,q3,q4⟩
  ·exact .inl ⟨q1,by simpa [Lib.strCells_length]using q2⟩
  ·refine .inr ⟨g,cap,cur,by simpa [Lib.strCells_length]using q1,q2,?_,by simpa [Lib.strCells_length]using q4⟩;have O:g≠b:=λe=>L (by rw[q1];simp[Value.ownBlock,e]);rw[Below.heap_setCell _ _ _ _ O];exact q3
 ·exact A.os.trans G.1
 ·exact A.tape.trans G.2.1
 ·exact A.output.trans G.2.2.1
 ·have:=A.size;omega
 ·intro k k1 k2 k3;rw[A.block k (by omega) (λe=>k3 e.symm)];exact G.2.2.2.2 k k1 k2 k3
 ·intro k hk;rcases T k hk with q|q
  ·exact .inl q
  ·exact .inr (q.trans a0)
end Go.Proofs
