/- a law's loop in which a slice in a row's cell grows: where the slice begins and where it ends -/
import Derived.Test.YtnnpdlgenmnekaaGreatDoorSeLsI
set_option linter.unusedVariables false
set_option linter.unusedSimpArgs false
set_option maxRecDepth 100000
noncomputable section
namespace Go.Bm
open Go.Proofs Go.RowKit
section
variable {Z:Base} {w:World} {tm:List TV} {aB:List (Nat×Box)} {aC:List (Nat×Row)} {ρ:Env} {tmps:Array Value}
structure Began (Z Z1 : Base) (r : List (List AC)) (xs : List Value) : Prop where
 f:∀k,Z.F k->Z1.F k
 i:∀k,Z.I0 k->Z1.I0 k
 j:∀k,Z1.I0 k->Z.I0 k\/ ¬Z.F k
 k:Z1.K0=Z.K0
 fr:Fr Z.F Z.w0 Z1.w0
 row:RowC Z1.I0 Z1.w0 Ac r xs
 if':∀k,Z1.I0 k->Z1.F k
theorem RO.start {r:List (List AC)} (h:RelE Z tm aB aC ρ tmps w) (hid:Aa aC 17=some ⟨61,Ac,r⟩):
  ∃Z1 xs,Began Z Z1 r xs/\RO Z1 (.slice none 0 0) [] ⟨tm,aB,upd aC 17 ⟨61,A1,Bw r.length xs⟩⟩ tmps w:=by
 obtain⟨q1,q2,q3,xs,Y,X⟩:=h.ro 17 _ hid;have J:Gt (λk=>Z.F k\/ρ.im k) w:=Z.gt.mono λg cs _ q=>⟨.inl q,h.fr.block g q⟩
 let Z1:Base:=⟨λk=>Z.F k\/ρ.im k,w,ρ.im,Z.K0,J⟩
 have hF:∀k,Z1.F k->k<w.heap.size:=by
  rintro k (i|i)
  ·exact h.fs k i
  ·exact(h.ib k i).1
 refine⟨Z1,xs,⟨λ_ q=> .inl q,h.i0,h.i1,rfl,h.fr,X,λ_ q=> .inr q⟩,?_⟩;have Q:RelE Z1 tm aB aC ρ tmps w:=by
  refine⟨h.tl,h.tv,h.wt,h.wb,λk b L=> ?_,h.bi,λid r N=> ?_,h.ri,h.br,h.ib,Fr.refl _ _,hF,λ_ q=>q,λ_ q=> .inl q,h.k0⟩
  ·obtain⟨arr,D,E,G⟩:=h.bx k b L;refine⟨arr,D,E,?_⟩;rintro(i|i)
   ·exact G i
   ·exact(h.ib _ i).2.1 k b L rfl
  ·obtain⟨D,E,G,S,T,U⟩:=h.ro id r N;refine⟨D,E,λg O=> ?_,S,T,U⟩;rintro(i|i)
   ·exact G g O i
   ·exact(h.ib g i).2.2 id r N O
 have A:=Q.turnRow (id:=17) hid (r':=⟨61,A1,Bw r.length xs⟩) (v':=ρ.rv 17) (xs:=xs) (w':=w) ⟨rfl,rfl,rfl,bf _,λ_ _ _=>rfl⟩ rfl
  (by show A_ w 61 9 _ (Bw r.length xs).length xs;rw[C7];exact Y) (ON X) (.inl rfl) (.inl ⟨rfl,C7 _ _⟩)
 have V:Gt Z1.F w:=J;refine⟨Gf w 3 1,λg e=>by simp[Value.ownBlock]at e,Fr.refl _ _,hF,V,?_⟩;refine⟨_,A.tl,A.tv,A.wt,A.wb,λk b L=> ?_,A.bi,λid r N=> ?_,A.ri,A.br,A.ib,Fr.refl _ _,?_,A.i0,λb hb=> .inl hb,A.k0⟩
 ·obtain⟨arr,D,E,G⟩:=A.bx k b L;refine⟨arr,D,E,?_⟩;rintro(i|i)
  ·exact G i
  ·simp[Value.ownBlock]at i
 ·obtain⟨D,E,G,S,T,U⟩:=A.ro id r N;refine⟨D,E,λg O=> ?_,S,T,U⟩;rintro(i|i)
  ·exact G g O i
  ·simp[Value.ownBlock]at i
 ·rintro k (i|i)
  ·exact hF k i
  ·simp[Value.ownBlock]at i
theorem Pp {l:List Int} {i:Nat} (A:i<(Bi l).length):(Bi l)[i]=[.int .i64 (l[i]'(by simpa [Bi]using A))]:=by simp[Bi]
theorem R8 {im:Nat->Prop} {l:List Int} {v:Value} (h:A_ w 3 1 v (BU l).length (BU l)) (A:∀g,v.ownBlock=some g->im g):CP im w (.vC kInts (Bi l)) v:=by
 have hlen:(Bi l).length=(BU l).length:=by simp[Bi,BU]
 rw[CP];rcases h.2 with⟨rfl,E⟩|⟨g,o,cap,cur,rfl,h2,h3,L,N,O⟩
 ·rw[<-hlen]at E;have:Bi l=[]:=bu E;exact⟨none,0,by rw[this];rfl,by rw[this];exact bf _,by rw[this];simp, .inl this⟩
 ·refine⟨_,cap,by rw[hlen],by rw[hlen];exact h3,?_, .inr ⟨g,o,rfl,A g rfl,Fs λi G=> ?_⟩⟩
  ·intro c J;simp only[Bi,am]at J;obtain⟨n,_,rfl⟩:=J;rfl
  ·rw[Pp G];refine⟨rfl,?_⟩;have D:i<l.length:=by simpa [Bi]using G
   have:=EQ h rfl i (.int .i64 l[i]) (by simp[BU,D]);rw[CPs,CPs];refine⟨⟨_,?_,by rw[CP]⟩,trivial⟩;have e:o+i*kInts.length=o+i:=by simp
   rw[e];exact this
theorem RO.stop {Z1:Base} {r:List (List AC)} {xs:List Value} {k:Nat} {v:Value} {l:List Int} (hb:Began Z Z1 r xs) (h:RO Z1 v (BU l) ⟨tm,aB,aC⟩ tmps w) (hid:Aa aC 17=some ⟨61,A1,wq (Bw r.length xs) k (.raw v)⟩) (A:k<r.length):
  Rel Z ⟨tm,aB,upd aC 17 ⟨61,Ac,wr r k 1 (.vC kInts (Bi l))⟩⟩ tmps w:=by
 obtain⟨ρ,q⟩:=h.rel
 let G:Env:={ρ with im:=λb=>ρ.im b\/v.ownBlock=some b}
 have L:∀(a:AC) (x:Value),CC ρ w a x->CC G w a x:=λa x S=>CC.mono (ρ:=ρ) (ρ':=G) (λ_ q=> .inl q) (λ_ _=>rfl) a x (AC.agree_refl rfl rfl rfl a) S;have X:RelE Z tm aB aC G tmps w:=by
  refine⟨q.tl,λi u hi=>TVR.mono L u _ (q.tv i u hi),q.wt,q.wb,λk b A=> ?_,q.bi,λid r T=> ?_,q.ri,q.br,?_,hb.fr.trans (h.fr.mono hb.f),λk A=>h.hF k (hb.f k A),λb i=> .inl (q.i0 b (hb.i b i)),?_,λk b e=>q.k0 k b (by show Z1.K0 k=some b;rw[hb.k];exact e)⟩
  ·obtain⟨arr,N,O,J⟩:=q.bx k b A;exact⟨arr,N,O.mono λa _ x S=>L a x S,λi=>J (.inl (hb.f _ i))⟩
  ·obtain⟨N,O,J,Q,U,V⟩:=q.ro id r T;exact⟨N,O,λg hg i=>J g hg (.inl (hb.f g i)),Q,U,V.mono (λ_ q=> .inl q) λ_ _=>rfl⟩
  ·rintro b (i|i)
   ·exact q.ib b i
   ·refine⟨GP h.own b i,λk bo A e=> ?_,λid r T e=> ?_⟩
    ·obtain⟨arr,N,O,J⟩:=q.bx k bo A;exact J (.inr (e▸i))
    ·exact(q.ro id r T).2.2.1 b e (.inr i)
  ·rintro b (i|i)
   ·rcases q.i1 b i with i|i
    ·exact hb.j b i
    ·exact .inr λf=>i (.inl (hb.f b f))
   ·exact .inr λf=>h.ho b i (hb.f b f)
 obtain⟨N,O,J,Q,U,V⟩:=X.ro 17 _ hid;have hI:∀b,Z1.I0 b->G.im b:=λb i=> .inl (q.i0 b i);have D:RowC Z1.I0 w Ac r xs:=hb.row.mono (λ_ q=>q) λb i=>h.fr.block b (hb.if' b i);have E:=O2 hI D V A (R8 (im:=G.im) h.own λg e=> .inr e);have Y:(wr r k 1 (.vC kInts (Bi l))).length=(wq (Bw r.length xs) k (.raw v)).length:=by rw[Id,C7];simp[wr]
 exact⟨_,X.turnRow (id:=17) hid (r':=⟨61,Ac,wr r k 1 (.vC kInts (Bi l))⟩) (v':=G.rv 17) (xs:=Q) (w':=w) ⟨rfl,rfl,rfl,bf _,λ_ _ _=>rfl⟩ rfl
  (by show A_ w 61 9 _ (wr r k 1 (.vC kInts (Bi l))).length Q;rw[Y];exact U) E (.inl rfl) (.inl ⟨rfl,Y⟩)⟩
end
end Go.Bm
