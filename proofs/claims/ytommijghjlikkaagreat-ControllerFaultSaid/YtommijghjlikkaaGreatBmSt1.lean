/- The abstract machine, second form: each primitive step is sound. -/
import Derived.Test.YtommijghjlikkaaGreatBmFz
import Derived.ArgAppend
set_option linter.unusedVariables false
set_option linter.unusedSimpArgs false
namespace Go.Bm
open Go.RowKit
section
variable {P:Program} {C:Cfg} {ρ:Env} {w:World} {R:Type} {Z:Base} {tm:List TV} {boxes:List (Nat×Box)} {rows:List (Nat×Row)} {tmps:Array Value}
theorem F4 {α:Type}:∀(l:List α) (o:Nat) (vs:List α),o+vs.length<=l.length->splice l o vs=l.take o++vs++l.drop (o+vs.length)
 |l,o,[],h=>by simp[Qd]
 |[],o,_::_,h=>by simp at h
 |x::l,0,v::vs,h=>by
  simp only[splice,List.take_zero,List.nil_append,List.cons_append];rw[F4 l 0 vs (by simp at h⊢;omega)];simp
 |x::l,o+1,v::vs,h=>by
  simp only[splice];rw[F4 l o (v::vs) (by simp at h⊢;omega)];simp only[List.take_succ_cons,List.cons_append,List.length_cons];rw[show o+1+(vs.length+1)=(o+(vs.length+1))+1 from by omega,List.drop_succ_cons]
theorem Q1h {t:TypeId} {x:Value} {b off:Nat} {cur:Array Value} {ty:TypeId} (hs:szT P t=some x.cells.toList.length) (hb:w.heap[b]? =some (.cells cur ty (0,0)))
  (hl:off+x.cells.toList.length<=cur.size) (h1:∀v∈x.cells.toList,v.oneCell'=true):
  (storeVar t ⟨b,off,none⟩ x).run P w= .ok () (w.setRow b (splice cur.toList off x.cells.toList).toArray):=by
 have:=run_storeCells_at P b off ty x.cells.toList 0 cur w hb (by simpa using hl) h1;simp only[Nat.add_zero]at this;have hsz:=DG hs w;simp only[storeVar,Sem.run_bind,hsz,Result.andThen_ok];rw[F4 _ _ _ (by simpa using hl)];rw[if_neg (by simp)];exact this
theorem Zfk {α:Type} (xs vs:List α) (i wd sub n:Nat) (hi:i<n) (hl:xs.length=n*wd) (hv:sub+vs.length<=wd):
  cut (splice xs (i*wd+sub) vs) (i*wd) wd=splice (cut xs (i*wd) wd) sub vs:=by
 have hle:i*wd+wd<=n*wd:=by
  calc i*wd+wd=(i+1)*wd:=by rw[Nat.add_mul,Nat.one_mul]
   _<=n*wd:=Nat.mul_le_mul_right _ hi
 have hcl:(cut xs (i*wd) wd).length=wd:=by simp[cut];omega
 rw[F4 _ _ _ (by omega),F4 _ _ _ (by rw[hcl];exact hv)];apply List.ext_getElem?;intro j;simp only[cut,List.getElem?_take,List.getElem?_drop,List.getElem?_append,List.length_take,List.length_append,List.length_drop];by_cases hj:j<wd
 ·rw[if_pos hj];by_cases h1:j<sub
  ·rw[if_pos (by omega),if_pos (by omega),if_pos (by omega),if_pos (by omega),if_pos (by omega),if_pos h1,if_pos hj]
  ·by_cases h2:j<sub+vs.length
   ·rw[if_pos (by omega),if_neg (by omega),if_pos (by omega),if_neg (by omega)];congr 1;omega
   ·rw[if_neg (by omega),if_neg (by omega),if_pos (by omega)];congr 1;omega
 ·rw[if_neg hj,if_neg (by omega)];rw[if_neg (by omega)]
theorem Z0r {α:Type} (xs vs:List α) (i j wd sub n:Nat) (hi:i<n) (hij:j≠i) (hl:xs.length=n*wd) (hv:sub+vs.length<=wd):
  cut (splice xs (i*wd+sub) vs) (j*wd) wd=cut xs (j*wd) wd:=by
 have hle:i*wd+wd<=n*wd:=by
  calc i*wd+wd=(i+1)*wd:=by rw[Nat.add_mul,Nat.one_mul]
   _<=n*wd:=Nat.mul_le_mul_right _ hi
 rw[F4 _ _ _ (by omega)];have hsep:j*wd+wd<=i*wd\/i*wd+wd<=j*wd:=by
  rcases Nat.lt_or_gt_of_ne hij with h|h
  ·left
   calc j*wd+wd=(j+1)*wd:=by rw[Nat.add_mul,Nat.one_mul]
    _<=i*wd:=Nat.mul_le_mul_right _ h
  ·right
   calc i*wd+wd=(i+1)*wd:=by rw[Nat.add_mul,Nat.one_mul]
    _<=j*wd:=Nat.mul_le_mul_right _ h
 apply List.ext_getElem?;intro k;simp only[cut,List.getElem?_take,List.getElem?_drop,List.getElem?_append,List.length_take,List.length_append];by_cases hk:k<wd
 ·rw[if_pos hk,if_pos hk];rcases hsep with h|h
  ·rw[if_pos (by omega),if_pos (by omega),if_pos (by omega)]
  ·rw[if_neg (by omega)];congr 1;omega
 ·rw[if_neg hk,if_neg hk]
theorem Zoy {o:Oper} {a:Act} {f:FuncId} {xs:List Value} {next:Act->World->Prop} {Q:Exit->Act->World->Prop} (hc:P1 P f) (he:execOp a.eval o=callFunc f xs.toArray)
  (h:Calls P f xs.toArray w fun e w'=>∃x,e= .returned x/\next (a.put o.dst x) w'):o.wp P a w next Q:=by
 obtain⟨fn,h1,h2,h3⟩:=hc;unfold Oper.wp;have:(execOp a.eval o).run P w= .ok (.enter f xs.toArray) w:=by
  rw[he];simp only[callFunc,Sem.run_bind,run_program,Result.andThen_ok,h1];rw[if_neg (by rw[h2];simp),if_neg (by rw[h3];simp)];rfl
 rw[this,Oper.upon_enter];refine h.mono fun e w' ⟨x,he,hn⟩=> ?_;subst he;exact hn
theorem SD {o:Oper} {a:Act} {f:FuncId} {xs:List Value} {next:Act->World->Prop} {Q:Exit->Act->World->Prop} (he:execOp a.eval o=callFunc f xs.toArray)
  (h:CallsX P f xs.toArray w fun e w'=>∃x,e= .returned x/\next (a.put o.dst x) w'):o.wp P a w next Q:=by
 rcases h with⟨h1,h2⟩|⟨x,w',h1,y,h2,h3⟩
 ·exact Zoy h1 he h2
 ·simp only[Ending.returned.injEq]at h2;subst h2;unfold Oper.wp;rw[he,h1];exact h3
theorem Hl {o:Oper} {a:Act} {x:Value} {w':World} {next:Act->World->Prop} {Q:Exit->Act->World->Prop} (he:(execOp a.eval o).run P w= .ok (.value x) w') (h:next (a.put o.dst x) w'):o.wp P a w next Q:=by
 unfold Oper.wp;rw[he];exact h
theorem Q4r {o:Oper} {a:Act} {w':World} {next:Act->World->Prop} {Q:Exit->Act->World->Prop} (he:(execOp a.eval o).run P w= .ok .skip w') (h:next (a.put o.dst undef) w'):o.wp P a w next Q:=by
 unfold Oper.wp;rw[he];exact h
theorem CL.one {l:List AC} {xs:List Value} (h:CL (CC ρ w) l xs):∀v∈xs,v.oneCell'=true:=by
 induction l generalizing xs with
 |nil=>cases xs<;>first|(intro v hv;simp at hv;done)|exact h.elim
 |cons a l ih=>
  cases xs with
  |nil=>exact h.elim
  |cons y xs=>
   intro v hv;simp only[List.mem_cons]at hv;rcases hv with rfl|hv
   ·exact h.1.one
   ·exact ih h.2 v hv
theorem CL.oneP {im:Nat->Prop} {l:List AC} {xs:List Value} (h:CL (CP im w) l xs):∀v∈xs,v.oneCell'=true:=by
 induction l generalizing xs with
 |nil=>cases xs<;>first|(intro v hv;simp at hv;done)|exact h.elim
 |cons a l ih=>
  cases xs with
  |nil=>exact h.elim
  |cons y xs=>
   intro v hv;simp only[List.mem_cons]at hv;rcases hv with rfl|hv
   ·exact h.1.one
   ·exact ih h.2 v hv
theorem RowC.one {im:Nat->Prop} {ks:List Kd} {l:List (List AC)} {xs:List Value} (h:RowC im w ks l xs) (hwd:0<ks.length):∀v∈xs,v.oneCell'=true:=by
 intro v hv;obtain⟨j,hj,rfl⟩:=List.getElem_of_mem hv;have hjn:j/ks.length<l.length:=by rw[Nat.div_lt_iff_lt_mul hwd];rw[h.1]at hj;exact hj
 have hm:j%ks.length<ks.length:=Nat.mod_lt _ hwd;refine(h.2.2 (j/ks.length) _ (List.getElem?_eq_getElem hjn)).oneP _ ?_;have:(cut xs (j/ks.length*ks.length) ks.length)[j%ks.length]? =some xs[j]:=by
  simp only[cut,List.getElem?_take,hm,if_true,List.getElem?_drop];rw[show j/ks.length*ks.length+j%ks.length=j from by rw[Nat.mul_comm];exact Nat.div_add_mod j ks.length];exact List.getElem?_eq_getElem hj
 exact List.mem_of_getElem? this
theorem RowC.append {im:Nat->Prop} {ks:List Kd} {l m:List (List AC)} {xs ys:List Value} (h:RowC im w ks l xs) (h':RowC im w ks m ys):
  RowC im w ks (l++m) (xs++ys):=by
 refine⟨by rw[List.length_append,h.1,h'.1,List.length_append,Nat.add_mul],fun c hc=> ?_,fun i c hi=> ?_⟩
 ·rcases List.mem_append.1 hc with hc|hc
  ·exact h.2.1 c hc
  ·exact h'.2.1 c hc
 ·by_cases hin:i<l.length
  ·rw[List.getElem?_append_left hin]at hi;have hle:i*ks.length+ks.length<=l.length*ks.length:=by
    calc i*ks.length+ks.length=(i+1)*ks.length:=by rw[Nat.add_mul,Nat.one_mul]
     _<=l.length*ks.length:=Nat.mul_le_mul_right _ hin
   have:cut (xs++ys) (i*ks.length) ks.length=cut xs (i*ks.length) ks.length:=by
    have:=h.1;simp only[cut];rw[List.drop_append_of_le_length (by omega),List.take_append_of_le_length (by rw[List.length_drop];omega)]
   rw[this];exact h.2.2 i c hi
  ·rw[List.getElem?_append_right (by omega)]at hi;have:cut (xs++ys) (i*ks.length) ks.length=cut ys ((i-l.length)*ks.length) ks.length:=by
    have h1:=h.1;simp only[cut];rw[List.drop_append,List.drop_eq_nil_of_le (by rw[h1];exact Nat.mul_le_mul_right _ (by omega)),List.nil_append,h1,<-Nat.sub_mul]
   rw[this];exact h'.2.2 (i-l.length) c hi
theorem Zbf {t ty e:TypeId} {i:TypeInfo} (ht:P.underlying t=some (.slice e)) (hi:P.info? e=some i)
  {b off sLen sCap:Nat} {cur:Array Value} {e':TypeId} (hb:w.heap[b]? =some (.cells cur e' (0,0))) {a:Addr} {m c:Nat} {news:List Value} (hl:news.length=m*i.size) (hnews:∀j u,news[j]? =some u->w.cell? (a.add j)=some u) (h1:∀u∈news,u.oneCell'=true)
  (hroom:sLen+m<=sCap) (hle:off+sLen*i.size+news.length<=cur.size):
  (Builtin.append_ #[t,t] ty #[.slice (some ⟨b,off,none⟩) sLen sCap, .slice (some a) m c]).run P w= .ok (.slice (some ⟨b,off,none⟩) (sLen+m) sCap) (w.setRow b (splice cur.toList (off+sLen*i.size) news).toArray):=by
 have hfc:=run_firstCells_some (P:=P) w i.size m a m c news hl hnews;have hst:=run_storeCells_at P b (off+sLen*i.size) e' news 0 cur w hb (by simpa using hle) h1;simp only[Nat.add_zero]at hst;rw[F4 _ _ _ (by simpa using hle)];simp[Builtin.append_,run_underlying ht,sizeOf,typeInfo,hi,Builtin.lenOf,hroom,hfc,Addr.add_lit,hst]
theorem Qz7 {t ty e:TypeId} {i:TypeInfo} {z:Value} {size:Nat} (ht:P.underlying t=some (.slice e)) (hi:P.info? e=some i) (hz:i.zero=some z)
  (hsize:i.size=size) (hzs:z.cells.size=size) (hsz:0<size)
  {v:Value} {n:Nat} {xs:List Value} (hown:Er w e size v n xs)
  {ad:Option Addr} {m c:Nat} {news:List Value} (hl:news.length=m*size) (hnews:m=0\/∃a,ad=some a/\∀j u,news[j]? =some u->w.cell? (a.add j)=some u) (h1:∀u∈news,u.oneCell'=true)
  (h63:n+m<=maxLen) (hbytes:(n+m)*i.bytes<=140737488355328):
  ∃v' w',(Builtin.append_ #[t,t] ty #[v, .slice ad m c]).run P w= .ok v' w'/\Er w' e size v' (n+m) (xs++news)/\w.grownBy w' v.ownBlock/\(v'.ownBlock=v.ownBlock\/v'.ownBlock=some w.heap.size):=by
 cases ad with
 |some a=>
  have hn:∀j u,news[j]? =some u->w.cell? (a.add j)=some u:=by
   rcases hnews with rfl|⟨a',ha',hh⟩
   ·have:news=[]:=List.eq_nil_of_length_eq_zero (by simpa using hl);subst this;intro j u h;simp at h
   ·simp at ha';subst ha';exact hh
  rcases hown.2 with⟨rfl,rfl⟩|⟨g,o,cap,cur,rfl,e3,e4,e5,e6,e7⟩
  ·have hx:xs=[]:=List.eq_nil_of_length_eq_zero (by simpa using hown.1);subst hx;obtain⟨v',w',q1,q2,q3,_,q5⟩:=run_append_own_at (P:=P) w 0 t ty e i z size i.bytes ht hi hz hsize rfl hzs hsz (.slice none 0 0) 0 [] (World.ownsRow_nil w 0 e size) a m c news hl hn h1 h63 hbytes (Nat.zero_le _);exact⟨v',w',q1,Q1b q2,q3,q5⟩
  ·by_cases hr:n+m<=cap
   ·subst hsize;have hb1:n*i.size+m*i.size<=cap*i.size:=by rw[<-Nat.add_mul];exact Nat.mul_le_mul_right _ hr
    have q:=Zbf (P:=P) (ty:=ty) (off:=o) (sLen:=n) (sCap:=cap) (c:=c) ht hi e3 hl hn h1 hr (by rw[hl];omega);have hsl:=KP cur.toList (o+n*i.size) news;refine⟨_,_,q,⟨by rw[List.length_append,hown.1,hl,Nat.add_mul], .inr ⟨g,o,cap,_,rfl,setRow_heap w g cur _ e _ e3,hr,e5,by simp only[List.size_toArray];rw[hsl,Array.length_toList];exact e6,?_⟩⟩,⟨rfl,rfl,rfl,by simp,fun k hk hne=>setRow_other w g k _ (fun e=>hne (by rw[e];rfl))⟩, .inl rfl⟩;have hL:o+n*i.size+news.length<=cur.toList.length:=by rw[hl,Array.length_toList];omega
    show((splice cur.toList (o+n*i.size) news).toArray.toList.drop o).take ((n+m)*i.size)=xs++news;simp only[List.toList_toArray];rw[F4 _ _ _ hL,List.append_assoc,List.drop_append_of_le_length (by simp;omega),List.drop_take,show o+n*i.size-o=n*i.size from by omega,e7,<-List.append_assoc];rw[List.take_append_of_le_length (by rw[List.length_append,hown.1,hl,Nat.add_mul];omega),List.take_of_length_le (by rw[List.length_append,hown.1,hl,Nat.add_mul];omega)]
   ·obtain ⟨v', w', q1, q2, q3⟩ := run_append_arg_grows (P := P) w t ty e i z size i.bytes ht hi hz hsize rfl hzs hsz ⟨g, o, none⟩ n cap xs hown.1 (fun j u hj => by
     have:=Qj hown (g:=g) rfl j u hj;rw[Addr.add_lit];exact this) a m c news hl hn (by omega) h63 hbytes
    have hr2 := run_append_grow (P := P) w t ty e i z ht hi hz ⟨g, o, none⟩ n cap xs (by rw [hsize]; exact hown.1) (fun j u hj => by
     have:=Qj hown (g:=g) rfl j u hj;rw[Addr.add_lit];exact this) a m c news (by rw[hsize];exact hl) hn (by omega) (by simp only[maxLen]at h63;omega) (growslice_fits (by omega) hbytes)
    rw[q1]at hr2;simp only[Result.ok.injEq]at hr2;refine⟨v',w',q1,Q1b q2,⟨q3.os,q3.tape,q3.output,q3.size,fun k hk _=>q3.block k hk (by simp)⟩, .inr ?_⟩;rw[hr2.1];rfl
 |none=>
  have hm:m=0:=by
   rcases hnews with h|⟨_,h,_⟩
   ·exact h
   ·simp at h
  subst hm;have hn:news=[]:=List.eq_nil_of_length_eq_zero (by simpa using hl);subst hn;refine⟨v,w,?_,by simpa using hown,⟨rfl,rfl,rfl,Nat.le_refl _,fun _ _ _=>rfl⟩, .inl rfl⟩;rcases hown.2 with⟨rfl,rfl⟩|⟨g,o,cap,cur,rfl,_,hnc,_⟩
  ·simp[Builtin.append_,run_underlying ht,sizeOf,typeInfo,hi,Builtin.lenOf,Builtin.firstCells]
  ·simp[Builtin.append_,run_underlying ht,sizeOf,typeInfo,hi,Builtin.lenOf,Builtin.firstCells,hnc,storeCells]
theorem Zqw (h:RelE Z tm boxes rows ρ tmps w) {ks:List Kd} {a:AC} {x:Value} {m:List (List AC)} (hs:GZ rows ks a=some m) (hc:CC ρ w a x):
  ∃ad c news,x= .slice ad m.length c/\RowC ρ.im w ks m news/\(m.length=0\/∃a,ad=some a/\∀j u,news[j]? =some u->w.cell? (a.add j)=some u):=by
 unfold GZ at hs;split at hs
 ·simp at hs;subst hs;simp only[CC,CP]at hc;subst hc;exact⟨none,0,[],rfl,⟨by simp,by simp,fun i c hi=>by simp at hi⟩, .inl rfl⟩
 ·rename_i ks' l;cases hb:CR ks ks'<;>rw[hb]at hs
  ·simp at hs
  ·simp at hs;subst hs;have:=IU hb;subst this;simp only[CC,CP]at hc;obtain⟨ad,cap,rfl,hle,hk,hf⟩:=hc;rcases hf with rfl|⟨b,o,rfl,_,hss⟩
   ·exact⟨ad,cap,[],rfl,⟨by simp,by simp,fun i c hi=>by simp at hi⟩, .inl rfl⟩
   ·obtain⟨ys,q1,q2⟩:=Z14 l hk hss;refine⟨_,cap,ys,rfl,q1, .inr ⟨_,rfl,fun j u hj=> ?_⟩⟩;rw[Addr.add_lit];exact q2 j u hj
 ·rename_i id w' n;split at hs
  ·rename_i r hr;cases hb:CR ks r.ks<;>rw[hb]at hs
   ·simp at hs
   ·simp at hs;subst hs;have:=IU hb;subst this;obtain⟨q1,q2,_,xs,q3,q4⟩:=h.ro id r hr;obtain⟨hc1,hc2,hc3⟩:=hc;subst hc1;rcases q3.2 with⟨e1,e2⟩|⟨g',o,cap,cur,e1,e3,e4,e5,e6,e7⟩
    ·have e2':r.l.length=0:=e2;exact⟨none,0,xs,by rw[e1,e2'],q4, .inl e2⟩
    ·refine⟨some ⟨g',o,none⟩,cap,xs,e1,q4, .inr ⟨_,rfl,fun j u hj=> ?_⟩⟩;have:=Qj q3 (g:=g') (by rw[e1];rfl) j u hj;rw[e1]at this;rw[Addr.add_lit];exact this
  ·simp at hs
 ·simp at hs
theorem RelE.growIm {im':Nat->Prop} {w':World} (hR:RelE Z tm boxes rows ρ tmps w) (hbel:Below w.heap.size w w') (him1:∀b,ρ.im b->im' b) (him2:∀b,im' b->ρ.im b\/(w.heap.size<=b/\b<w'.heap.size)):
  RelE Z tm boxes rows {ρ with im:=im'} tmps w':=by
 have hold:∀b,b<w.heap.size->w'.heap[b]? =w.heap[b]? :=fun b hb=>hbel.block b hb;have hcc:∀(a:AC) (x:Value),CC ρ w a x->CC {ρ with im:=im'} w' a x:=fun a x hx=>CC.mono (ρ:=ρ) (ρ':={ρ with im:=im'}) him1 (fun b hb=>hold b (hR.ib b hb).1) a x (AC.agree_refl rfl rfl rfl a) hx;refine⟨hR.tl,fun i v hi=>TVR.mono hcc v _ (hR.tv i v hi),hR.wt,hR.wb,?_,hR.bi,?_,hR.ri,hR.br,?_,hR.fr.trans (Fr.of_below hbel hR.fs),fun k hk=>Nat.lt_of_lt_of_le (hR.fs k hk) hbel.size,fun b hb=>him1 b (hR.i0 b hb),fun b hb=>(him2 b hb).elim (hR.i1 b) fun q=> .inr fun hf=>absurd (hR.fs b hf) (by omega),fun k b hk=>hR.k0 k b hk⟩
 ·intro k b hk;obtain⟨arr,q1,q2,q3⟩:=hR.bx k b hk;exact⟨arr,by rw[hold _ (M0 q1)];exact q1,q2.mono fun a _ x hx=>hcc a x hx,q3⟩
 ·intro id r0 hr0;obtain⟨q1,q2,q0,ys,q3,q4⟩:=hR.ro id r0 hr0;exact⟨q1,q2,q0,ys,Ko q3 fun g hg=>hold g (hR.rwlt hr0 hg).2,q4.mono him1 (fun b hb=>hold b (hR.ib b hb).1)⟩
 ·intro b hb;rcases him2 b hb with hb'|⟨hb1,hb2⟩
  ·obtain⟨q1,q2,q3⟩:=hR.ib b hb';exact⟨Nat.lt_of_lt_of_le q1 hbel.size,q2,q3⟩
  ·exact⟨hb2,fun k bo hk e=>by have:=hR.bxlt hk;have e':ρ.bx k=b:=e;omega,fun id r0 hr0 e=>by have e':(ρ.rv id).ownBlock=some b:=e;have:=(hR.rwlt hr0 e').2;omega⟩
end
end Go.Bm
