/- The abstract machine, second form: 'opK' is sound. -/
import Derived.Test.YtommijghjlikkaaGreatBmOpK
set_option linter.unusedVariables false
set_option linter.unusedSimpArgs false
namespace Go.Bm
open Go.RowKit
section
variable {P:Program} {C:Cfg} {ρ:Env} {w:World} {R:Type}
theorem Q7l {α β:Type} (g:α->Sem β) (s:α->β):∀(l:List α) (w:World),(∀x∈l,(g x).run P w= .ok (s x) w)->(l.mapM g).run P w= .ok (l.map s) w
 |[],w,_=>by simp
 |x::l,w,h=>by
  rw[List.mapM_cons];simp only[Sem.run_bind,h x (by simp),Result.andThen_ok,Q7l g s l w (fun y hy=>h y (by simp[hy])),Sem.run_pure,List.map_cons]
theorem Zcn {fs:Array Field} (h:Aj (LR P) fs.toList=true) (w:World):
  (fs.mapM fun f:Field=>(do let n<-sizeOf f.type;pure (f.offset,n):Sem (Nat×Nat))).run P w= .ok (fs.map fun f=>(f.offset,(szT P f.type).getD 0)) w:=by
 rw[Array.mapM_eq_mapM_toList];have := Q7l (P := P) (fun f : Field => (do let n <- sizeOf f.type; pure (f.offset, n) : Sem (Nat × Nat))) (fun f => (f.offset, (szT P f.type).getD 0)) fs.toList w (fun f hf => by
  have hh:=Av.1 h f hf;unfold LR at hh;split at hh
  ·rename_i n hn;simp[DG hn,hn]
  ·simp at hh)
 simp only[Sem.run_map,this,Result.andThen_ok];congr 1;apply Array.ext';simp
theorem Zf0 {fs:Array Field} (h:Aj (LR P) fs.toList=true):
  Qo2 P fs.toList=fun i:Nat=>(fs.map fun f=>(f.offset,(szT P f.type).getD 0))[i]? :=by
 funext i
 rw[Array.getElem?_map,<-Array.getElem?_toList,Qo2];cases hf:fs.toList[i]? with
 |none=>rfl
 |some f=>
  have hh:=Av.1 h f (List.mem_of_getElem? hf);unfold LR at hh;cases hs:szT P f.type with
  |none=>rw[hs]at hh;simp at hh
  |some n=>simp[hs]
def OC (w:World) (b o:Nat) (ys:List Value):Prop:=∀(j:Nat) (y:Value),ys[j]? =some y->w.cell? ⟨b,o+j,none⟩=some y
theorem Qkc {im:Nat->Prop}:∀(cs:List AC) (b o:Nat),CPs im w cs b o->∃ys,CL (CP im w) cs ys/\OC w b o ys
 |[],b,o,_=>⟨[],trivial,fun j y h=>by simp at h⟩
 |c::cs,b,o,h=>by
  rw[CPs]at h;obtain⟨⟨y,hy,hc⟩,hr⟩:=h;obtain⟨ys,h1,h2⟩:=Qkc cs b (o+1) hr;refine⟨y::ys,⟨hc,h1⟩,fun j z hz=> ?_⟩;cases j with
  |zero=>simp at hz;subst hz;exact hy
  |succ j=>have:=h2 j z (by simpa using hz);rwa [show o+(j+1)=o+1+j from by omega]
theorem Qep {im:Nat->Prop}:∀(cs:List AC) (ys:List Value) (b o:Nat),CL (CP im w) cs ys->OC w b o ys->CPs im w cs b o
 |[],[],b,o,_,_=>by simp[CPs]
 |c::cs,y::ys,b,o,h,hr=>by
  rw[CPs];exact⟨⟨y,hr 0 y rfl,h.1⟩,Qep cs ys b (o+1) h.2 fun j z hz=>by
   have:=hr (j+1) z (by simpa using hz)
   rwa [show o+1+j=o+(j+1)from by omega]⟩
 |[],_::_,_,_,h,_=>h.elim
 |_::_,[],_,_,h,_=>h.elim
theorem Tf {t:TypeId} {g:Bool} {sz:Nat} {cells:List AC} {sub b o:Nat} {v:TV} {ys:List Value} (hg:Ci P t=some g) (hs:szT P t=some sz)
  (h:Dl g sz cells sub=some v) (hc:CL (CC ρ w) cells ys) (hr:OC w b o ys):
  ∃x,(loadVar t ⟨b,o+sub,none⟩).run P w= .ok x w/\TVR ρ w v x:=by
 have hp:=Quh h hc;cases g
 ·obtain⟨x,hx,hv⟩:=hp;refine⟨x,?_,hv⟩;simp[loadVar,NV hg,hr sub x hx]
 ·obtain⟨hle,hv⟩:=hp;refine⟨_,?_,hv⟩;have hl:(cut ys sub sz).length=sz:=by simp[cut];omega
  have := run_loadCells_list (P := P) w ⟨b, o + sub, none⟩ (cut ys sub sz) (fun j y hj => by
   rw[Addr.add_lit];rw[show o+sub+j=o+(sub+j)from by omega];refine hr (sub+j) y ?_;simp only[cut,List.getElem?_take]at hj;split at hj
   ·rw[List.getElem?_drop]at hj;exact hj
   ·simp at hj)
  rw[hl]at this;simp[loadVar,NV hg,DG hs,this]
theorem UK {e:Operand->Value} {o:Oper} {t:TypeId} {x:Operand} {lo hi:Option Operand} {el:TypeId} {m n cap:Nat} {ad:Option Addr} {lo' hi':Option Int} {l hh':Int}
  (ho:o.op= .slice t x lo hi none) (hu:P.underlying t=some (.slice el)) (hm:szT P el=some m) (hc:e x= .slice ad n cap) (hcap:n<=cap)
  (hlo':Qf2 e lo lo') (hhi':Qf2 e hi hi')
  (hl:lo'.getD 0=l) (hh:hi'.getD (n:Int)=hh') (d1:0<=l) (d2:l<=hh') (d3:hh'<=(n:Int)):
  (execOp e o).run P w= .ok (.value (.slice (if cap=l.toNat then ad else ad.map (·.add (l.toNat*m))) (hh'.toNat-l.toNat) (cap-l.toNat))) w:=by
 simp only[execOp,ho,Instr.sliceAt,Sem.run_bind,run_underlying hu,Result.andThen_ok,hc,Option.map_none,Instr.slice,Instr.sliceBounds,Sem.run_pure,if_true,Option.isSome_none,Bool.false_eq_true,if_false];have hH:∀y,hi=some y->∃k,e y= .int k hh':=by
  rintro y rfl;cases hi' with
  |none=>exact hhi'.elim
  |some q=>simp at hh;subst hh;exact hhi'
 have hL:∀y,lo=some y->∃k,e y= .int k l:=by
  rintro y rfl;cases lo' with
  |none=>exact hlo'.elim
  |some q=>simp at hl;subst hl;exact hlo'
 cases hi with
 |none=>
  have hn:hi'=none:=by cases hi' with
   |none=>rfl
   |some _=>exact hhi'.elim
  subst hn;simp at hh;subst hh;cases lo with
  |none=>
   have hn:lo'=none:=by cases lo' with
    |none=>rfl
    |some _=>exact hlo'.elim
   subst hn;simp at hl;subst hl;simp[DG hm]
  |some y=>
   obtain⟨k,hk⟩:=hL y rfl;have q2:l<=(n:Int):=d2;simp[DG hm,hk,Instr.sliceBound,asIntOf,d1,q2]
 |some z=>
  obtain⟨k',hk'⟩:=hH z rfl;have q1:0<=hh':=by omega
  have q2:hh'<=(cap:Int):=by omega
  cases lo with
  |none=>
   have hn:lo'=none:=by cases lo' with
    |none=>rfl
    |some _=>exact hlo'.elim
   subst hn;simp at hl;subst hl;simp[DG hm,hk',Instr.sliceBound,asIntOf,q1,q2]
  |some y=>
   obtain⟨k,hk⟩:=hL y rfl;simp[DG hm,hk,hk',Instr.sliceBound,asIntOf,d1,q1,q2];intro q4;omega
theorem Zmq {im:Nat->Prop} {ks:List Kd} {l:List (List AC)} {ad:Option Addr} {cap a b:Nat} (hab:a<=b) (hb:b<=l.length)
  (h:CP im w (.view ks l) (.slice ad l.length cap)):CP im w (.view ks ((l.take b).drop a)) (.slice (if cap=a then ad else ad.map (·.add (a*ks.length))) (b-a) (cap-a)):=by
 rw[CP]at h⊢;obtain⟨ad',cap',he,hle,hk,hf⟩:=h;simp only[Value.slice.injEq,true_and]at he;obtain⟨rfl,rfl⟩:=he;have hlen:((l.take b).drop a).length=b-a:=by simp;omega
 refine⟨_,_,by rw[hlen],by rw[hlen];omega,fun c hc=>hk c (List.mem_of_mem_take (List.mem_of_mem_drop hc)),?_⟩;by_cases hz:(l.take b).drop a=[]
 ·exact .inl hz
 ·right;have hpos:0<((l.take b).drop a).length:=List.length_pos_iff.2 hz;rw[hlen]at hpos;rcases hf with hf|⟨b',o,rfl,him,hss⟩
  ·subst hf;simp at hb;omega
  ·refine⟨b',o+a*ks.length,?_,him,SK fun i hi=> ?_⟩
   ·rw[if_neg (by omega)];simp[Addr.add_lit]
   ·rw[hlen]at hi;have hg:=Qkg hss (a+i) (by omega);have e:((l.take b).drop a)[i]'(by rw[hlen];exact hi)=l[a+i]'(by omega):=by simp
    rw[e];refine⟨hg.1,?_⟩;have:=hg.2;rw[Nat.add_mul,<-Nat.add_assoc]at this;exact this
theorem VI:∀{vs:List TV} {as:List AC},Iu vs=some as->∀{xs:List Value},vs.length=xs.length->(∀(i:Nat) (v:TV) (x:Value),vs[i]? =some v->xs[i]? =some x->TVR ρ w v x)->CLc ρ w as xs
 |[],as,h,xs,hl,_=>by
  simp[Iu]at h;subst h;cases xs with
  |nil=>trivial
  |cons=>simp at hl
 |v::vs,as,h,xs,hl,hr=>by
  cases xs with
  |nil=>simp at hl
  |cons x xs=>
   have h0:=hr 0 v x rfl rfl;unfold Iu at h;split at h
   ·simp at*
   ·rename_i a l heq;simp only[List.cons.injEq]at heq;obtain⟨rfl,rfl⟩:=heq;cases ha:a.clOk<;>rw[ha]at h
    ·simp at h
    ·simp only[cond_true]at h;split at h
     ·rename_i r hr';simp at h;subst h;refine⟨?_,VI hr' (by simpa using hl) fun i v x h1 h2=>hr (i+1) v x (by simpa using h1) (by simpa using h2)⟩;have hc:=h0.c;cases a<;>simp only[AC.clOk]at ha<;>first|(simp at ha;done)|exact hc
     ·simp at h
   ·simp at h
theorem Zv:∀{as:List AC} {xs:List Value},CLc ρ w as xs->(as.map TV.c).length=xs.length/\∀(i:Nat) (v:TV) (x:Value),(as.map TV.c)[i]? =some v->xs[i]? =some x->TVR ρ w v x
 |[],[],_=>⟨rfl,fun i v x h=>by simp at h⟩
 |a::as,x::xs,h=>by
  obtain⟨h1,h2⟩:=Zv h.2;refine⟨by simpa using h1,fun i v y hv hy=> ?_⟩;cases i with
  |zero=>
   simp at hv hy;subst hv;subst hy;have:=h.1;cases a<;>first|exact TVR.c' this|(exact TVR.c' (I2 this))|(simp[CCc,CP]at this)
  |succ i=>exact h2 i v y (by simpa using hv) (by simpa using hy)
 |[],_::_,h=>h.elim
 |_::_,[],h=>h.elim
theorem Q0d {a b:List TV} {xs ys:List Value} (h1:a.length=xs.length/\∀(i:Nat) (v:TV) (x:Value),a[i]? =some v->xs[i]? =some x->TVR ρ w v x)
  (h2:b.length=ys.length/\∀(i:Nat) (v:TV) (x:Value),b[i]? =some v->ys[i]? =some x->TVR ρ w v x):
  (a++b).length=(xs++ys).length/\∀(i:Nat) (v:TV) (x:Value),(a++b)[i]? =some v->(xs++ys)[i]? =some x->TVR ρ w v x:=by
 refine⟨by simp[h1.1,h2.1],fun i v x hv hx=> ?_⟩;rw[List.getElem?_append]at hv hx;by_cases hi:i<a.length
 ·rw[if_pos hi]at hv;rw[if_pos (by omega)]at hx;exact h1.2 i v x hv hx
 ·rw[if_neg hi]at hv;rw[if_neg (by omega)]at hx;rw[h1.1]at hv;exact h2.2 _ v x hv hx
theorem Zx1 (hok:∀t∈C.eqOk,P.stoodInHeld t=false) {ev:Operand->TV} {e:Operand->Value} (hev:∀x,TVR ρ w (ev x) (e x))
  (hfn:∀f,e (.func f)= .func (.func f) #[] #[]) (o:Oper) {Kp:Prim->Option R} {r:R} (h:opK P C ev o.dst o.op Kp=some r):
  ∃p,Kp p=some r/\IR P ρ w e o p:=by
 obtain⟨dst,op,type,pos,after,guard⟩:=o;have hx:∀(op':Op) (v:TV) (x:Value),op=op'->((execOp e ⟨dst,op',type,pos,after,guard⟩).run P w= .ok (.value x) w)->TVR ρ w v x->IR P ρ w e ⟨dst,op,type,pos,after,guard⟩ (.val v):=by
  rintro _ v x rfl h1 h2;exact⟨x,h1,h2⟩
 cases op<;>simp only[opK]at h<;>try (simp at h;done)
 case move x=>exact⟨_,h,e x,by simp[execOp],hev x⟩
 case assign x=>exact⟨_,h,e x,by simp[execOp],hev x⟩
 case pick c a b=>
  split at h
  ·rename_i g hc;have hcv:e c= .bool g:=by have:=hev c;rw[hc]at this;exact this.bool
   cases g
   ·simp only[cond_false]at h;exact⟨_,h,e b,by simp[execOp,hcv,asBool],hev b⟩
   ·simp only[cond_true]at h;exact⟨_,h,e a,by simp[execOp,hcv,asBool],hev a⟩
  ·simp at h
 case alloc t=>
  split at h
  ·rename_i cs hz;obtain⟨v,hv,hc⟩:=QH (ρ:=ρ) (w:=w) hz;refine⟨_,h,v.cells,hc,?_⟩;simp[execOp,Instr.alloc,hv,newVar,newRow]
  ·simp at h
 case box t x=>
  split at h
  ·rename_i cs hc;exact⟨_,h,(e x).cells,(hev x).cells hc,by simp[execOp,Instr.box,newVar,newRow]⟩
  ·simp at h
 case build t parts=>
  split at h
  ·rename_i z fs hz hu;obtain⟨v,hv,hc⟩:=QH (ρ:=ρ) (w:=w) hz;cases hall:(Aj (LR P) fs.toList)<;>rw[hall]at h
   ·simp at h
   ·simp only[cond_true]at h;split at h
    ·rename_i cs hb;rw[Zf0 hall]at hb;obtain⟨ys,h1,h2,_⟩:=Tx hev _ _ _ _ hc hb;refine⟨_,h, .agg ys,?_,⟨ys,rfl,h2⟩⟩;have hpl:=Zcn (P:=P) hall w;simp only[execOp,Instr.build,Sem.run_bind,hv,Result.andThen_ok,run_underlying hu,hpl,Array.toList_map];rw[h1];simp
    ·simp at h
  ·rename_i z n el hz hu;obtain⟨v,hv,hc⟩:=QH (ρ:=ρ) (w:=w) hz;split at h
   ·rename_i m hm;split at h
    ·rename_i cs hb;obtain⟨ys,h1,h2,_⟩:=Tx hev _ _ _ _ hc hb;refine⟨_,h, .agg ys,?_,⟨ys,rfl,h2⟩⟩;simp only[execOp,Instr.build,Sem.run_bind,hv,Result.andThen_ok,run_underlying hu,DG hm,Array.toList_map];rw[h1];simp
    ·simp at h
   ·simp at h
  ·simp at h
 case buildSlice t n parts=>
  split at h
  ·rename_i el hu;split at h
   ·rename_i m z ks hm hz hks;obtain⟨v,hv,hc⟩:=QH (ρ:=ρ) (w:=w) hz;cases hb:(Nat.beq z.length m&&Nat.beq ks.length m&&Nat.ble 1 m&&Nat.ble (n*m) 65536)<;>rw[hb]at h
    ·simp at h
    ·simp only[cond_true]at h;simp only[Bool.and_eq_true]at hb;have e1:=Nat.eq_of_beq_eq_true hb.1.1.1;have ek:=Nat.eq_of_beq_eq_true hb.1.1.2;have e2:=Nat.le_of_ble_eq_true hb.1.2;have e3:=Nat.le_of_ble_eq_true hb.2;split at h
     ·rename_i cs hbp;have hrun:∃ys:Array Value,CL (CC ρ w) cs ys.toList/\ys.toList.length=n*m/\(execOp e ⟨dst, .buildSlice t n parts,type,pos,after,guard⟩).run P w= .ok (.value (.slice (some ⟨w.heap.size,0,none⟩) n n)) (w.alloc (.cells ys el)):=by
       have hvl:v.cells.toList.length=m:=by rw[<-hc.length];exact e1
       have hz0:((Array.range (n*m)).map fun i=>(if n*m=0 then #[]else v.cells)[i%(if n*m=0 then(#[]:Array Value)else v.cells).size]!).toList=(List.replicate n v.cells.toList).flatten:=by
        by_cases hn:n*m=0
        ·have:n=0:=by
          rcases Nat.mul_eq_zero.1 hn with h0|h0
          ·exact h0
          ·omega
         subst this;simp
        ·simp only[hn,if_false];apply List.ext_getElem?;intro j;by_cases hj:j<n*m
         ·rw[Q6a _ (by omega) n j (by rw[hvl];exact hj),hvl];have hs:v.cells.size=m:=by rw[<-hvl];simp
          have hlt:j%m<v.cells.size:=by rw[hs];exact Nat.mod_lt _ (by omega)
          simp[hj,hs];rw[getElem!_pos v.cells (j%m) hlt,Array.getElem?_eq_getElem hlt]
         ·have hvl':v.cells.size=m:=by rw[<-hvl];simp
          rw[List.getElem?_eq_none (by simp;omega),List.getElem?_eq_none (by simp[hvl'];omega)]
       have hch:=Qz8 hc n;rw[<-hz0]at hch;obtain⟨ys,h1,h2,h3⟩:=Tx hev _ _ _ _ hch hbp;have hys:ys.toList.length=n*m:=by rw[Array.length_toList,h3];simp
       refine⟨ys,h2,hys,?_⟩;have hgt: ¬(n*m>2^24):=by omega
       simp only[execOp,Instr.buildSlice,Sem.run_bind,run_underlying hu,Result.andThen_ok,DG hm,hgt,if_false,Sem.run_pure,Array.toList_map];by_cases hn:n*m=0
       ·simp only[hn,if_true]at h1;simp only[hn,if_true,Sem.run_bind,Sem.run_pure,Result.andThen_ok];rw[h1];simp[newRow]
       ·simp only[hn,if_false]at h1;simp only[hn,if_false,Sem.run_bind,hv,Sem.run_pure,Result.andThen_ok];rw[h1];simp[newRow]
      obtain⟨ys,h2,hys,hrun⟩:=hrun;split at h
      ·rename_i l hfr;have hln:=Q3x _ _ _ hfr;have key:∃arr:Array Value,0<ks.length/\l.length<=maxLen/\RowC ρ.im w ks l arr.toList/\
         (execOp e ⟨dst, .buildSlice t n parts,type,pos,after,guard⟩).run P w= .ok (.value (.slice (some ⟨w.heap.size,0,none⟩) l.length l.length)) (w.alloc (.cells arr el)):=by
        rw[hln];refine⟨ys,by omega,?_,?_,hrun⟩
        ·have:n<=n*m:=Nat.le_mul_of_pos_right n (by omega);simp only[maxLen];omega
        ·exact Qvd n cs l _ hfr h2 ⟨hln,by rw[ek];exact hys⟩
       cases hcv:RU C dst n<;>rw[hcv]at h
       ·exact⟨_,h,key⟩
       ·exact⟨_,h,key⟩
      ·cases hcl:(Aj AC.isClo cs&&Nat.beq m 1)<;>rw[hcl]at h
       ·simp at h
       ·simp only[cond_true]at h;simp only[Bool.and_eq_true]at hcl;exact⟨_,h,ys,h2,hrun⟩
     ·simp at h
   ·simp at h
  ·simp at h
 case makeSlice t len cap=>
  split at h
  ·rename_i el n c hu hln hcp;obtain⟨kl,hkl⟩:=PS hln (hev len);obtain⟨kc,hkc⟩:=PS hcp (hev cap);split at h
   ·rename_i i z ks hi hz hks;split at h
    ·rename_i z' hz';cases hb:(Nat.beq ks.length i.size&&Nat.ble 1 i.size&&Nat.ble 1 i.bytes)<;>rw[hb]at h
     ·simp at h
     ·simp only[cond_true]at h;simp only[Bool.and_eq_true]at hb;have e1:=Nat.eq_of_beq_eq_true hb.1.1;have e2:=Nat.le_of_ble_eq_true hb.1.2;have e3:=Nat.le_of_ble_eq_true hb.2;cases hd:decide (n=c)<;>rw[hd]at h
      ·simp at h
      ·simp only[cond_true]at h;have hnc:n=c:=by simpa using hd
       subst hnc;unfold I6 at hz;rw[hi]at hz;dsimp only at hz;split at hz
       ·rename_i zv hzv;have hcl:CL (CC ρ w) z zv.cells.toList:=RX _ hz;obtain⟨f1,f2⟩:=RA hz' hcl;refine⟨_,h,t,i,zv,kl,kc,hu,hi,hzv,e1.symm,rfl,by omega,e3,f2,f1,?_⟩;simp[execOp,hkl,hkc]
       ·simp at hz
    ·simp at h
   ·simp at h
  ·simp at h
 case makeFunc fn first captured=>
  split at h
  ·rename_i f;split at h
   ·rename_i fs cs hfs hcs;have ha:=O_ hev first.toList;have hb:=O_ hev captured.toList;refine⟨_,h, .func (.func f) (first.map e) (captured.map e),by simp[execOp,Instr.makeFunc],TVR.c' ⟨_,_,rfl,?_,?_⟩⟩
    ·rw[Array.toList_map];exact VI hfs ha.1 ha.2
    ·rw[Array.toList_map];exact VI hcs hb.1 hb.2
   ·simp at h
  ·simp at h
 case load t a=>
  split at h
  ·rename_i g sz hg hs;have ha:=hev a;split at h
   ·rename_i key off hea;rw[hea]at ha;have hv:=ha.c;simp only[CC]at hv;refine⟨_,h,t,hg,hs,?_⟩;simp[execOp,Instr.loadAt,hv,Instr.sureAddr]
   ·rename_i cells sub hea;rw[hea]at ha;obtain⟨b,o,hv,him,hcs⟩:=ha.c;split at h
    ·rename_i v hva;obtain⟨ys,hy1,hy2⟩:=Qkc cells b o hcs;obtain⟨x,hx1,hx2⟩:=Tf hg hs hva (hy1.mono fun _ _ _ hh=>I2 hh) hy2;refine⟨_,h,x,?_,hx2⟩;simp[execOp,Instr.loadAt,hv,Instr.sureAddr,hx1]
    ·simp at h
   ·rename_i id idx sub hea;rw[hea]at ha;obtain⟨g',hg',hv⟩:=ha.c;refine⟨_,h,t,g',hg,hs,hg',?_⟩;simp[execOp,Instr.loadAt,hv,Instr.sureAddr]
   ·simp at h
  ·simp at h
 case store t a x=>
  split at h
  ·rename_i sz cs hs hcs;cases hb:Nat.beq cs.length sz<;>rw[hb]at h
   ·simp at h
   ·simp only[cond_true]at h;have e1:=Nat.eq_of_beq_eq_true hb;subst e1;have ha:=hev a;split at h
    ·rename_i key off hea;rw[hea]at ha;have hv:=ha.c;simp only[CC]at hv;refine⟨_,h,t,e x,hs,(hev x).cells hcs,?_⟩;simp[execOp,Instr.storeAt,hv,Instr.sureAddr]
    ·rename_i id idx sub hea;rw[hea]at ha;obtain⟨g',hg',hv⟩:=ha.c;refine⟨_,h,t,e x,g',hs,(hev x).cells hcs,hg',?_⟩;simp[execOp,Instr.storeAt,hv,Instr.sureAddr]
    ·simp at h
  ·simp at h
 case nilCheck x=>
  have hv:=hev x;split at h
  ·rename_i key off hea;rw[hea]at hv;have hc:=hv.c;simp only[CC]at hc;exact⟨_,h,e x,by simp[execOp,hc],hv⟩
  ·rename_i id idx sub hea;rw[hea]at hv;obtain⟨g',hg',hc⟩:=hv.c;exact⟨_,h,e x,by simp[execOp,hc],hv⟩
  ·rename_i cs sub hea;rw[hea]at hv;obtain⟨b,o,hc,_⟩:=hv.c;exact⟨_,h,e x,by simp[execOp,hc],hv⟩
  ·simp at h
 case binOp bop t x y yt=>
  have hvx:=hev x;have hvy:=hev y;split at h
  ·rename_i k a k' b hex hey;rw[hex]at hvx;rw[hey]at hvy;have e1:=hvx.int;have e2:=hvy.int;cases hk:kEq k k'<;>rw[hk]at h
   ·cases hsh:Np bop<;>rw[hsh]at h
    ·simp at h
    ·simp only[Bool.false_or,cond_true]at h;obtain⟨c,v,h1,h2,h3,h4,h5⟩:=Zqm (P:=P) (ρ:=ρ) (w:=w) hsh t k k' a b _ h;refine⟨_,h1,v,?_,TVR.c' (I2 h2)⟩;simp[execOp,e1,e2,eqGuard_at_int,h3]
   ·simp only[Bool.true_or,cond_true]at h;have:=Ol hk;subst this;obtain⟨c,v,h1,h2,h3⟩:=Zd5 (P:=P) (ρ:=ρ) (w:=w) bop t k a b _ h;refine⟨_,h1,v,?_,TVR.c' (I2 h2)⟩;simp[execOp,e1,e2,eqGuard_at_int,h3]
  ·rename_i a b hex hey;rw[hex]at hvx;rw[hey]at hvy;have e1:=hvx.bool;have e2:=hvy.bool;split at h
   ·rename_i hu;refine⟨_,h, .bool (a==b),?_,TVR.mkBool _⟩;simp[execOp,e1,e2,eqGuard_at_bool,binOp,Op.equal,Op.maxDepth,run_equalIn_bool' w 9999 t a b hu]
   ·rename_i hu;refine⟨_,h, .bool (!(a==b)),?_,TVR.mkBool _⟩;simp[execOp,e1,e2,eqGuard_at_bool,binOp,Op.equal,Op.maxDepth,run_equalIn_bool' w 9999 t a b hu]
   ·simp at h
  ·rename_i key off hex hey;rw[hex]at hvx;rw[hey]at hvy;have e1:=hvx.c;have e2:=hvy.c;simp only[CC]at e1;simp only[CC,CP]at e2;have e2:=e2.1;split at h
   ·rename_i el hu;have hp:P.underlying t=some (.pointer (P.pointee t)):=by simp[Program.pointee,hu]
    refine⟨_,h, .bool false,?_,TVR.mkBool _⟩;simp[execOp,e1,e2,eqGuard_at_pointer,run_eql_pointer_nil w t _ hp]
   ·rename_i el hu;have hp:P.underlying t=some (.pointer (P.pointee t)):=by simp[Program.pointee,hu]
    refine⟨_,h, .bool true,?_,TVR.mkBool _⟩;simp[execOp,e1,e2,eqGuard_at_pointer,run_neq_pointer_nil w t _ hp]
   ·simp at h
  ·rename_i xs ys hex hey;rw[hex]at hvx;rw[hey]at hvy;obtain⟨X,e1,hX⟩:=hvx.agg;obtain⟨Y,e2,hY⟩:=hvy.agg;cases hgt:P.eqGuardType P.depth t<;>rw[hgt]at h
   ·simp only[cond_false]at h;have key:∀q,Ci P t=some true->eqC P C.eqOk 20 t xs ys=some q->(Op.equalIn 10000 t (.agg X) (.agg Y)).run P w= .ok q w:=by
     intro q hg hq;exact Qt8 hok 20 10000 (by omega) t xs ys q _ _ hq (by simp only[Fa,hg];exact⟨X,rfl,hX⟩) (by simp only[Fa,hg];exact⟨Y,rfl,hY⟩)
    split at h
    ·rename_i q hg hq;refine⟨_,h, .bool q,?_,TVR.mkBool _⟩;simp[execOp,e1,e2,run_eqGuard_agg w .eql t x y X Y hgt,run_eql_struct,key q hg hq]
    ·rename_i q hg hq;refine⟨_,h, .bool (!q),?_,TVR.mkBool _⟩;simp[execOp,e1,e2,run_eqGuard_agg w .neq t x y X Y hgt,run_neq_struct,key q hg hq]
    ·simp at h
   ·simp at h
  ·simp at h
 case unOp uop t x=>
  have hv:=hev x;split at h
  ·rename_i k n hea;rw[hea]at hv;have e1:=hv.int;exact⟨_,h, .int k (k.wrap (0-n)),by simp[execOp,e1,Op.unary,Op.intArith],TVR.mkInt _ _⟩
  ·rename_i b hea;rw[hea]at hv;have e1:=hv.bool;exact⟨_,h, .bool (!b),by simp[execOp,e1,Op.unary],TVR.mkBool _⟩
  ·simp at h
 case convert src dst' x=>
  have hv:=hev x;split at h
  ·rename_i d k k' n hs hd hea;rw[hea]at hv;have e1:=hv.int;refine⟨_,h, .int k (k.wrap n),?_,TVR.mkInt _ _⟩;simp[execOp,e1,convert,run_underlying hs,run_underlying hd,Conv.intToInt]
  ·simp at h
 case fieldAddr t x i=>
  split at h
  ·rename_i f hf;have hfs:∃fs,P.underlying t=some (.struct fs)/\fs[i]? =some f:=by
    unfold Tc at hf;split at hf
    ·rename_i fs hu;exact⟨fs,hu,by simpa using hf⟩
    ·simp at hf
   obtain⟨fs,hu,hfi⟩:=hfs;split at h
   ·rename_i n hn;have hne:n+1≠0:=by omega
    have hv:=hev x;have fp:∀(b o:Nat),(fieldPlace ⟨b,o,none⟩ f).run P w= .ok ⟨b,o+f.offset,none⟩ w:=by
     intro b o;simp[fieldPlace,DG hn,Addr.add_lit]
    split at h
    ·rename_i key off hea;rw[hea]at hv;have hc:=hv.c;simp only[CC]at hc;refine⟨_,h, .pointer (some ⟨ρ.bx key,off+f.offset,none⟩),?_,TVR.c' (by simp[CC])⟩;simp[execOp,Instr.fieldAt,run_underlying hu,hfi,hc,Instr.sureAddr,fp]
    ·rename_i id idx sub hea;rw[hea]at hv;obtain⟨g',hg',hc⟩:=hv.c;refine⟨_,h, .pointer (some ⟨g',Hd (ρ.rv id)+(idx*ρ.wd id+sub)+f.offset,none⟩),?_,TVR.c' ⟨g',hg',by rw[Nat.add_assoc,Nat.add_assoc]⟩⟩;simp[execOp,Instr.fieldAt,run_underlying hu,hfi,hc,Instr.sureAddr,fp]
    ·rename_i cs sub hea;rw[hea]at hv;obtain⟨b,o,hc,h1,h2⟩:=hv.c;refine⟨_,h, .pointer (some ⟨b,o+sub+f.offset,none⟩),?_,TVR.c' ⟨b,o,by rw[Nat.add_assoc],h1,h2⟩⟩;simp[execOp,Instr.fieldAt,run_underlying hu,hfi,hc,Instr.sureAddr,fp]
    ·simp at h
   ·simp at h
  ·simp at h
 case field t x i=>
  split at h
  ·rename_i f cs hf hea;have hfs:∃fs,P.underlying t=some (.struct fs)/\fs[i]? =some f:=by
    unfold Tc at hf;split at hf
    ·rename_i fs hu;exact⟨fs,hu,by simpa using hf⟩
    ·simp at hf
   obtain⟨fs,hu,hfi⟩:=hfs;have hv:=hev x;rw[hea]at hv;obtain⟨ys,hc,hcl⟩:=hv.agg;split at h
   ·rename_i v hp;obtain⟨y,hy1,hy2⟩:=Q4o (P:=P) hp hcl;refine⟨_,h,y,?_,hy2⟩;simp[execOp,Instr.field,run_underlying hu,hfi,hc,asAgg,hy1]
   ·simp at h
  ·simp at h
 case indexAddr t x ix=>
  split at h
  ·rename_i i n el hi hu;obtain⟨k,hk⟩:=PS hi (hev ix);have hv:=hev x;split at h
   ·rename_i m key off hm hea;rw[hea]at hv;have hc:=hv.c;simp only[CC]at hc;obtain⟨j,h1,h2,h3,h4⟩:=Hj h;refine⟨_,h1, .pointer (some ⟨ρ.bx key,off+j*m,none⟩),?_,TVR.c' (by simp[CC])⟩;have hlt:j<n:=by omega
    simp[execOp,Instr.indexAt,run_underlying hu,hk,asIntOf,hc,Instr.sureAddr,h2,hlt,DG hm,Addr.add_lit]
   ·rename_i m id idx sub hm hea;rw[hea]at hv;obtain⟨g',hg',hc⟩:=hv.c;obtain⟨j,h1,h2,h3,h4⟩:=Hj h;refine⟨_,h1, .pointer (some ⟨g',Hd (ρ.rv id)+(idx*ρ.wd id+sub)+j*m,none⟩),?_,TVR.c' ⟨g',hg',by rw[Nat.add_assoc,Nat.add_assoc]⟩⟩;have hlt:j<n:=by omega
    simp[execOp,Instr.indexAt,run_underlying hu,hk,asIntOf,hc,Instr.sureAddr,h2,hlt,DG hm,Addr.add_lit]
   ·rename_i m cs sub hm hea;rw[hea]at hv;obtain⟨b,o,hc,him,hcs⟩:=hv.c;obtain⟨j,h1,h2,h3,h4⟩:=Hj h;refine⟨_,h1, .pointer (some ⟨b,o+sub+j*m,none⟩),?_,TVR.c' ⟨b,o,by rw[Nat.add_assoc],him,hcs⟩⟩;have hlt:j<n:=by omega
    simp[execOp,Instr.indexAt,run_underlying hu,hk,asIntOf,hc,Instr.sureAddr,h2,hlt,DG hm,Addr.add_lit]
   ·simp at h
  ·rename_i i el hi hu;obtain⟨k,hk⟩:=PS hi (hev ix);have hv:=hev x;split at h
   ·rename_i m ks l hm hea;rw[hea]at hv;have hc:=hv.c;simp only[CC,CP]at hc;obtain⟨ad,cap,hc,hcap,hkk,hf⟩:=hc;cases hb:Nat.beq m ks.length<;>rw[hb]at h
    ·simp at h
    ·simp only[cond_true]at h;have e1:=Nat.eq_of_beq_eq_true hb;subst e1;cases hd:(decide (0<=i)&&decide (i<(l.length:Int)))<;>rw[hd]at h
     ·simp at h
     ·simp only[cond_true]at h;simp at hd;have hil:i.toNat<l.length:=by omega
      rcases hf with hf|⟨b,o,rfl,him,hss⟩
      ·subst hf;simp at hil
      ·obtain⟨hfl,hcs⟩:=Qkg hss i.toNat hil;have hcan:AJ ks (nth [] l i.toNat)=l[i.toNat]:=by
        rw[BK,List.getD,List.getElem?_eq_getElem hil];exact hkk _ (List.getElem_mem hil)
       refine⟨_,h, .pointer (some ⟨b,o+i.toNat*ks.length+0,none⟩),?_,TVR.c' ⟨b,o+i.toNat*ks.length,rfl,him,by rw[hcan];exact hcs⟩⟩;simp[execOp,Instr.indexAt,run_underlying hu,hk,asIntOf,hc,hd,DG hm,Addr.add_lit]
   ·rename_i m id wd n hm hea;rw[hea]at hv;obtain⟨hc1,hc2,hc3⟩:=hv.c;cases hb:Nat.beq m wd<;>rw[hb]at h
    ·simp at h
    ·simp only[cond_true]at h;have e1:=Nat.eq_of_beq_eq_true hb;subst e1;cases hd:(decide (0<=i)&&decide (i<(n:Int)))<;>rw[hd]at h
     ·simp at h
     ·simp only[cond_true]at h;simp at hd;rcases hc3 with⟨_,rfl⟩|⟨g',o',c',hc3⟩
      ·omega
      ·refine⟨_,h, .pointer (some ⟨g',o'+(i.toNat*ρ.wd id+0),none⟩),?_,TVR.c' ⟨g',by rw[<-hc1,hc3];rfl,by rw[<-hc1,hc3];rfl⟩⟩;simp[execOp,Instr.indexAt,run_underlying hu,hk,asIntOf,hc3,hd,DG hm,Addr.add_lit,hc2]
   ·rename_i m key n hm hea;rw[hea]at hv;have hc:=hv.c;simp only[CC]at hc;cases hb:Nat.beq m 1<;>rw[hb]at h
    ·simp at h
    ·simp only[cond_true]at h;have e1:=Nat.eq_of_beq_eq_true hb;subst e1;obtain⟨j,h1,h2,h3,h4⟩:=Hj h;refine⟨_,h1, .pointer (some ⟨ρ.bx key,j,none⟩),?_,TVR.c' (by simp[CC])⟩;have hlt:j<n:=by omega
     simp[execOp,Instr.indexAt,run_underlying hu,hk,asIntOf,hc,h2,hlt,DG hm,Addr.add_lit]
   ·simp at h
  ·simp at h
 case index t x ix=>
  split at h
  ·rename_i i n el cs hi hu hea;obtain⟨k,hk⟩:=PS hi (hev ix);have hv:=hev x;rw[hea]at hv;obtain⟨ys,hc,hcl⟩:=hv.agg;split at h
   ·rename_i m hm;obtain⟨j,h1,h2,h3,h4⟩:=Hj h;have hlt:j<n:=by omega
    split at h1
    ·rename_i v hp;obtain⟨y,hy1,hy2⟩:=Q4o (P:=P) hp hcl;refine⟨_,h1,y,?_,hy2⟩;simp[execOp,Instr.index,run_underlying hu,hk,asIntOf,hc,h2,hlt,DG hm,hy1]
    ·simp at h1
   ·simp at h
  ·simp at h
 case slice t x lo hi mx=>
  split at h
  ·rename_i _ lo' hi' el hlo hhi hu;have hlo':=Qti hev hlo;have hhi':=Qti hev hhi;have hv:=hev x;split at h
   ·rename_i m ks l hm hea;rw[hea]at hv;have hcp:=hv.c;have hc:=hcp;simp only[CC,CP]at hc;obtain⟨ad,cap,hc,hcap,_⟩:=hc;rw[hc]at hcp;cases hb:Nat.beq m ks.length<;>rw[hb]at h
    ·simp at h
    ·simp only[cond_true]at h;have e1:=Nat.eq_of_beq_eq_true hb;subst e1;have key:∀(a b:Int),lo'.getD 0=a->hi'.getD (l.length:Int)=b->0<=a->a<=b->b<=(l.length:Int)->IR P ρ w e ⟨dst, .slice t x lo hi none,type,pos,after,guard⟩ (.val (.c (.view ks ((l.take b.toNat).drop a.toNat)))):=by
      intro a b ha hb' d1 d2 d3;refine⟨_,UK rfl hu hm hc hcap hlo' hhi' ha hb' d1 d2 d3,TVR.c' ?_⟩;exact Zmq (by omega) (by omega) hcp
     split at h
     ·refine⟨_,h,?_⟩;have:=key 0 l.length rfl rfl (by omega) (by omega) (by omega);simpa using this
     ·rename_i a;cases hd:(decide (0<=a)&&decide (a<=(l.length:Int)))<;>rw[hd]at h
      ·simp at h
      ·simp only[cond_true]at h;simp only[Bool.and_eq_true,decide_eq_true_eq]at hd;refine⟨_,h,?_⟩;have:=key a l.length rfl rfl hd.1 hd.2 (by omega);simpa using this
     ·rename_i b;cases hd:(decide (0<=b)&&decide (b<=(l.length:Int)))<;>rw[hd]at h
      ·simp at h
      ·simp only[cond_true]at h;simp only[Bool.and_eq_true,decide_eq_true_eq]at hd;refine⟨_,h,?_⟩;have:=key 0 b rfl rfl (by omega) hd.1 hd.2;simpa using this
     ·rename_i a b;cases hd:(decide (0<=a)&&decide (a<=b)&&decide (b<=(l.length:Int)))<;>rw[hd]at h
      ·simp at h
      ·simp only[cond_true]at h;simp only[Bool.and_eq_true,decide_eq_true_eq]at hd;exact⟨_,h,key a b rfl rfl hd.1.1 hd.1.2 hd.2⟩
   ·rename_i m id wd n hm hea;rw[hea]at hv;obtain⟨c1,c2,c3⟩:=hv.c;split at h
    ·rename_i a;cases hb:Nat.beq m wd<;>rw[hb]at h
     ·simp at h
     ·simp only[cond_true]at h;have e1:=Nat.eq_of_beq_eq_true hb;subst e1;cases hd:(decide (0<=a)&&decide (a<=(n:Int)))<;>rw[hd]at h
      ·simp at h
      ·simp only[cond_true]at h;simp only[Bool.and_eq_true,decide_eq_true_eq]at hd;refine⟨_,h,fun ad n' cap hrv hnc han=> ?_⟩;have hn:n'=n:=by
        rcases c3 with⟨c3,c4⟩|⟨_,_,_,c3⟩
        ·rw[c1,hrv]at c3;simp at c3;omega
        ·rw[c1,hrv]at c3;simp at c3;exact c3.2.1
       subst hn;have hrun:=UK (P:=P) (w:=w) (e:=e) (o:=⟨dst, .slice t x lo hi none,type,pos,after,guard⟩) rfl hu hm (c1.trans hrv) hnc hlo' hhi' (l:=a) (hh':=(n':Int)) rfl rfl hd.1 hd.2 (Int.le_refl _);rw[c2];simpa using hrun
    ·simp at h
   ·rename_i m hm hea;rw[hea]at hv;have hc:=hv.c;simp only[CC,CP]at hc;have key:lo'.getD 0=0->hi'.getD ((0:Nat):Int)=0->IR P ρ w e ⟨dst, .slice t x lo hi none,type,pos,after,guard⟩ (.val (.c .nilSl)):=by
     intro ha hb';refine⟨_,UK rfl hu hm hc (Nat.le_refl _) hlo' hhi' ha hb' (by omega) (by omega) (by omega),TVR.c' ?_⟩;simp[CC,CP]
    split at h
    ·exact⟨_,h,key rfl rfl⟩
    ·rename_i a;cases hd:decide (a=0)<;>rw[hd]at h
     ·simp at h
     ·simp only[cond_true]at h;simp only[decide_eq_true_eq]at hd;exact⟨_,h,key hd rfl⟩
    ·rename_i b;cases hd:decide (b=0)<;>rw[hd]at h
     ·simp at h
     ·simp only[cond_true]at h;simp only[decide_eq_true_eq]at hd;exact⟨_,h,key rfl hd⟩
    ·rename_i a b;cases hd:(decide (a=0)&&decide (b=0))<;>rw[hd]at h
     ·simp at h
     ·simp only[cond_true]at h;simp only[Bool.and_eq_true,decide_eq_true_eq]at hd;exact⟨_,h,key hd.1 hd.2⟩
   ·simp at h
  ·simp at h
 case extract t i=>
  have hv:=hev t;split at h
  ·rename_i ps hea;rw[hea]at hv;obtain⟨ys,hc,hp⟩:=hv;split at h
   ·rename_i g cs hg;have key:∀(l:List (Bool×List AC)) (xs:List Value) (i:Nat),TP ρ w l xs->l[i]? =some (g,cs)->∃y,xs[i]? =some y/\TVR ρ w (.v g cs) y:=by
     intro l;induction l with
     |nil=>intro xs i _ hh;simp at hh
     |cons p l ih=>
      intro xs i htp hh;cases xs with
      |nil=>exact htp.elim
      |cons y xs=>
       cases i with
       |zero=>
        simp at hh;subst hh;refine⟨y,rfl,?_⟩;have:=htp.1;cases g<;>exact this
       |succ i=>simpa using ih xs i htp.2 (by simpa using hh)
    obtain⟨y,hy1,hy2⟩:=key ps ys.toList i hp hg;refine⟨_,h,y,?_,hy2⟩;have hy1':ys[i]? =some y:=by simpa using hy1
    simp[execOp,Instr.extract,hc,hy1']
   ·simp at h
  ·simp at h
 case call c=>
  have hargs:=O_ hev c.args.toList;split at h
  ·rename_i b hb;obtain⟨cs,hcs⟩:=Zv4 (e:=e) (o:=⟨dst, .call c,type,pos,after,guard⟩) (c:=c) rfl hb;refine Zl2 (xs:=c.args.toList.map e) (by rw[hargs.1]) hargs.2 h (ty:=type) (cs:=cs) ?_;rw[hcs,<-Array.toList_map]
  ·rename_i f hf;cases hp:C.pure f<;>rw[hp]at h
   ·exact⟨_,h,c.args.toList.map e,hargs.1.symm,hargs.2,Q7v rfl hf (hfn f)⟩
   ·exact⟨_,h,c.args.toList.map e,hargs.1.symm,hargs.2,Q7v rfl hf (hfn f)⟩
  ·rename_i t ht;split at h
   ·rename_i f fs cs hcl;have hv:=hev (.tmp t);rw[hcl]at hv;obtain⟨xs,ys,hc,h1,h2⟩:=hv.c;obtain⟨q1,q2⟩:=Q0d (Zv h1) (Q0d hargs (Zv h2));cases hcl:(Aj AC.clOk fs&&Aj AC.clOk cs)<;>rw[hcl]at h
    ·simp at h
    ·exact⟨_,h,_,q1.symm,q2,Zbe rfl ht hc⟩
   ·simp at h
  ·simp at h
end
end Go.Bm
