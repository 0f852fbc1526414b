/- The abstract machine, second form: each operation does what its primitive step says. -/
import Derived.Test.YtommijghjlikkaaGreatBmRel
set_option linter.unusedVariables false
set_option linter.unusedSimpArgs false
namespace Go.Bm
open Go.RowKit
section
variable {P:Program} {C:Cfg} {ρ:Env} {w:World} {R:Type}
theorem Zih {x:Value} (h:x.oneCell'=true):x.cells= #[x]:=by
 cases x<;>first|rfl|(simp[Value.oneCell']at h)
theorem Qs3 (v:Value) (h:v.oneCell'=true):CC ρ w (NR v) v:=by
 unfold NR;split<;>first|(simp[CC,CP,Value.oneCell'];done)|exact h
theorem RX:∀(l:List Value) {cs:List AC},Iv l=some cs->CL (CC ρ w) cs l
 |[],cs,h=>by simp[Iv]at h;subst h;trivial
 |v::l,cs,h=>by
  simp only[Iv]at h;cases hv:v.oneCell'
  ·simp[hv]at h
  ·simp only[hv,cond_true]at h;split at h
   ·rename_i cs' hc;simp at h;subst h;exact⟨Qs3 v hv,RX l hc⟩
   ·simp at h
theorem Zgd (v:Value):TVR ρ w (ofValue v) v:=by
 unfold ofValue;split
 ·rename_i cs;split
  ·rename_i l hl;exact⟨cs,rfl,RX _ hl⟩
  ·trivial
 ·trivial
 ·rename_i h1 h2;exact⟨_,rfl,Qs3 v (by cases v<;>first|rfl|(exfalso;first|exact h1 _ rfl|exact h2 _ rfl))⟩
theorem TVR.cells {t:TV} {x:Value} {cs:List AC} (h:TVR ρ w t x) (hc:t.cells=some cs):CL (CC ρ w) cs x.cells.toList:=by
 cases t with
 |dead=>simp[TV.cells]at hc
 |tup ps=>simp[TV.cells]at hc
 |v g l=>
  simp[TV.cells]at hc;subst hc;cases g
  ·obtain⟨a,rfl,ha⟩:=h;rw[Zih ha.one];exact⟨ha,trivial⟩
  ·obtain⟨ys,rfl,hy⟩:=h;exact hy
theorem TVR.c {a:AC} {x:Value} (h:TVR ρ w (.c a) x):CC ρ w a x:=by
 obtain⟨b,hb,hc⟩:=h;simp at hb;subst hb;exact hc
theorem TVR.c' {a:AC} {x:Value} (h:CC ρ w a x):TVR ρ w (.c a) x:=⟨a,rfl,h⟩
theorem TVR.int {k:IntKind} {n:Int} {x:Value} (h:TVR ρ w (.c (.int k n)) x):x= .int k n:=by have:=h.c;simpa [CC,CP]using this
theorem TVR.bool {b:Bool} {x:Value} (h:TVR ρ w (.c (.bool b)) x):x= .bool b:=by have:=h.c;simpa [CC,CP]using this
theorem TVR.mkInt (k:IntKind) (n:Int):TVR ρ w (.c (.int k n)) (.int k n):=TVR.c' (by simp[CC,CP])
theorem TVR.mkBool (b:Bool):TVR ρ w (.c (.bool b)) (.bool b):=TVR.c' (by simp[CC,CP])
theorem TVR.agg {cs:List AC} {x:Value} (h:TVR ρ w (.agg cs) x):∃ys:Array Value,x= .agg ys/\CL (CC ρ w) cs ys.toList:=h
def RowC (im:Nat->Prop) (w:World) (ks:List Kd) (l:List (List AC)) (xs:List Value):Prop:=
 xs.length=l.length*ks.length/\(∀c∈l,AJ ks c=c)/\∀i c,l[i]? =some c->CL (CP im w) c (cut xs (i*ks.length) ks.length)
theorem Ol {k k':IntKind} (h:kEq k k'=true):k=k':=by cases k<;>cases k'<;>first|rfl|(simp[kEq]at h)
mutual
theorem Z20:∀{k k':Kd},ED k k'=true->k=k'
 | .int k, .int k',h=>by rw[ED]at h;rw[Ol h]
 | .bool, .bool,_=>rfl
 | .sl ks, .sl ks',h=>by rw[ED]at h;rw[IU h]
 | .raw, .raw,_=>rfl
 | .int _, .bool,h=>by simp[ED]at h
 | .int _, .sl _,h=>by simp[ED]at h
 | .int _, .raw,h=>by simp[ED]at h
 | .bool, .int _,h=>by simp[ED]at h
 | .bool, .sl _,h=>by simp[ED]at h
 | .bool, .raw,h=>by simp[ED]at h
 | .sl _, .int _,h=>by simp[ED]at h
 | .sl _, .bool,h=>by simp[ED]at h
 | .sl _, .raw,h=>by simp[ED]at h
 | .raw, .int _,h=>by simp[ED]at h
 | .raw, .bool,h=>by simp[ED]at h
 | .raw, .sl _,h=>by simp[ED]at h
theorem IU:∀{ks ks':List Kd},CR ks ks'=true->ks=ks'
 |[],[],_=>rfl
 |k::ks,k'::ks',h=>by
  rw[CR]at h;cases hk:ED k k'
  ·rw[hk]at h;simp at h
  ·rw[hk]at h;simp only[cond_true]at h;rw[Z20 hk,IU h]
 |[],_::_,h=>by simp[CR]at h
 |_::_,[],h=>by simp[CR]at h
end
theorem Rv {im:Nat->Prop} (ks:List Kd):CP im w (.view ks []) (.slice none 0 0):=by
 rw[CP];exact⟨none,0,rfl,Nat.le_refl _,by simp, .inl rfl⟩
theorem Zvs {k:Kd} {a a':AC} {x:Value} (h:VQ k a=some a') (hc:CC ρ w a x):CP ρ.im w a' x/\LB k a'=a':=by
 cases k<;>cases a<;>simp only[VQ]at h<;>try (simp at h;done)
 case int.int k k' n=>
  cases hk:kEq k k'<;>rw[hk]at h
  ·simp at h
  ·simp at h;subst h;rw[<-Ol hk]at hc;exact⟨hc,rfl⟩
 case bool.bool b=>simp at h;subst h;exact⟨hc,rfl⟩
 case sl.nilSl ks=>
  simp at h;subst h;simp only[CC,CP]at hc;subst hc;exact⟨Rv ks,rfl⟩
 case sl.view ks ks' l=>
  cases hk:CR ks ks'<;>rw[hk]at h
  ·simp at h
  ·simp at h;subst h;rw[<-IU hk]at hc;exact⟨hc,rfl⟩
 case raw.raw v=>simp at h;subst h;exact⟨hc,rfl⟩
theorem Zzb {α:Type} (d:α) (x:α) (l:List α) (n:Nat):nth d (x::l) (n+1)=nth d l n:=rfl
theorem Qr4 (a:AC):∀(ks:List Kd) (cs:List AC) (j:Nat),EO ks (a::cs) (j+1)=EO ks cs j
 |[],_,_=>rfl
 |k::ks,cs,j=>by rw[EO,EO,Zzb,Qr4 a ks cs (j+1)]
theorem Zy (k:Kd) (ks:List Kd) (a:AC) (cs:List AC):AJ (k::ks) (a::cs)=LB k a::AJ ks cs:=by
 show LB k a::EO ks (a::cs) 1=_;rw[Qr4];rfl
theorem RA:∀{ks:List Kd} {cs cs':List AC} {xs:List Value},Ib ks cs=some cs'->CL (CC ρ w) cs xs->CL (CP ρ.im w) cs' xs/\AJ ks cs'=cs'
 |[],[],cs',xs,h,hc=>by
  simp[Ib]at h;subst h;cases xs with
  |nil=>exact⟨trivial,rfl⟩
  |cons=>exact hc.elim
 |k::ks,a::cs,cs',xs,h,hc=>by
  simp only[Ib]at h;split at h
  ·rename_i a' ha;split at h
   ·rename_i l hl;simp at h;subst h;cases xs with
    |nil=>exact hc.elim
    |cons x xs=>
     obtain⟨h1,h2⟩:=Zvs ha hc.1;obtain⟨h3,h4⟩:=RA hl hc.2;exact⟨⟨h1,h3⟩,by rw[Zy,h2,h4]⟩
   ·simp at h
  ·simp at h
 |[],_::_,_,_,h,_=>by simp[Ib]at h
 |_::_,[],_,_,h,_=>by simp[Ib]at h
def IR (P:Program) (ρ:Env) (w:World) (e:Operand->Value) (o:Oper):Prim->Prop
 | .val v=>∃x,(execOp e o).run P w= .ok (.value x) w/\TVR ρ w v x
 | .load g sz key off=>∃t,Ci P t=some g/\szT P t=some sz/\
   (execOp e o).run P w=((loadVar t ⟨ρ.bx key,off,none⟩).run P w).andThen fun v w'=> .ok (.value v) w'
 | .rload g sz id idx sub=>∃t b,Ci P t=some g/\szT P t=some sz/\(ρ.rv id).ownBlock=some b/\
   (execOp e o).run P w=((loadVar t ⟨b,Hd (ρ.rv id)+(idx*ρ.wd id+sub),none⟩).run P w).andThen fun v w'=> .ok (.value v) w'
 | .store key off cs=>∃t x,szT P t=some cs.length/\CL (CC ρ w) cs x.cells.toList/\
   (execOp e o).run P w=((storeVar t ⟨ρ.bx key,off,none⟩ x).run P w).andThen fun _ w'=> .ok .skip w'
 | .rstore id idx sub cs=>∃t x b,szT P t=some cs.length/\CL (CC ρ w) cs x.cells.toList/\(ρ.rv id).ownBlock=some b/\
   (execOp e o).run P w=((storeVar t ⟨b,Hd (ρ.rv id)+(idx*ρ.wd id+sub),none⟩ x).run P w).andThen fun _ w'=> .ok .skip w'
 | .new ty cs=>∃arr:Array Value,CL (CC ρ w) cs arr.toList/\(execOp e o).run P w= .ok (.value (.pointer (some ⟨w.heap.size,0,none⟩))) (w.alloc (.cells arr ty))
 | .cutR id a=>∀ad n cap,ρ.rv id= .slice ad n cap->n<=cap->a<=n->(execOp e o).run P w= .ok (.value (.slice (if cap=a then ad else ad.map (·.add (a*ρ.wd id))) (n-a) (cap-a))) w
 | .newS ty n cs=>∃arr:Array Value,CL (CC ρ w) cs arr.toList/\(execOp e o).run P w= .ok (.value (.slice (some ⟨w.heap.size,0,none⟩) n n)) (w.alloc (.cells arr ty))
 | .newRow el ks l=>∃arr:Array Value,0<ks.length/\l.length<=maxLen/\RowC ρ.im w ks l arr.toList/\
   (execOp e o).run P w= .ok (.value (.slice (some ⟨w.heap.size,0,none⟩) l.length l.length)) (w.alloc (.cells arr el))
 | .newView el ks l=>∃arr:Array Value,0<ks.length/\l.length<=maxLen/\RowC ρ.im w ks l arr.toList/\
   (execOp e o).run P w= .ok (.value (.slice (some ⟨w.heap.size,0,none⟩) l.length l.length)) (w.alloc (.cells arr el))
 | .make el ks bytes n z=>∃t i zv kl kc,P.underlying t=some (.slice el)/\P.info? el=some i/\i.zero=some zv/\i.size=ks.length/\i.bytes=bytes/\0<ks.length/\0<bytes/\AJ ks z=z/\CL (CP ρ.im w) z zv.cells.toList/\
   (execOp e o).run P w=((Instr.makeSlice t (.int kl n) (.int kc n)).run P w).andThen fun v w'=> .ok (.value v) w'
 | .append el ks bytes s x=>∃t ty i z sv xv,P.underlying t=some (.slice el)/\P.info? el=some i/\i.zero=some z/\i.size=ks.length/\i.bytes=bytes/\z.cells.size=ks.length/\CC ρ w s sv/\CC ρ w x xv/\
   (execOp e o).run P w=((Builtin.append_ #[t,t] ty #[sv,xv]).run P w).andThen fun v w'=> .ok (.value v) w'
 | .appD el ks bytes s x=>∃t ty i z sv xv,P.underlying t=some (.slice el)/\P.info? el=some i/\i.zero=some z/\i.size=ks.length/\i.bytes=bytes/\z.cells.size=ks.length/\CC ρ w s sv/\CC ρ w x xv/\
   (execOp e o).run P w=((Builtin.append_ #[t,t] ty #[sv,xv]).run P w).andThen fun v w'=> .ok (.value v) w'
 | .callM f args=>∃xs:List Value,xs.length=args.length/\(∀(i:Nat) (a:TV) (x:Value),args[i]? =some a->xs[i]? =some x->TVR ρ w a x)/\execOp e o=callFunc f xs.toArray
 | .callF f args=>∃xs:List Value,xs.length=args.length/\(∀(i:Nat) (a:TV) (x:Value),args[i]? =some a->xs[i]? =some x->TVR ρ w a x)/\execOp e o=callFunc f xs.toArray
 | .callD f args=>∃xs:List Value,xs.length=args.length/\(∀(i:Nat) (a:TV) (x:Value),args[i]? =some a->xs[i]? =some x->TVR ρ w a x)/\execOp e o=callFunc f xs.toArray
 | .call f args=>∃xs:List Value,xs.length=args.length/\(∀(i:Nat) (a:TV) (x:Value),args[i]? =some a->xs[i]? =some x->TVR ρ w a x)/\execOp e o=callFunc f xs.toArray
theorem Zkb {t:TypeId} {n:Nat} (h:szT P t=some n):∃i,P.info? t=some i/\i.size=n:=by
 unfold szT at h;split at h
 ·rename_i i hi;simp at h;exact⟨i,hi,h⟩
 ·simp at h
theorem DG {t:TypeId} {n:Nat} (h:szT P t=some n) (w:World):(sizeOf t).run P w= .ok n w:=by
 obtain⟨i,hi,rfl⟩:=Zkb h;simp[sizeOf,typeInfo,hi]
theorem NV {t:TypeId} {g:Bool} (h:Ci P t=some g) (w:World):(isAgg t).run P w= .ok g w:=by
 unfold Ci at h;split at h
 ·rename_i fs hu;simp at h;subst h;simp[isAgg,run_underlying hu]
 ·rename_i n e hu;simp at h;subst h;simp[isAgg,run_underlying hu]
 ·rename_i d h1 h2 hu;simp at h;subst h;simp only[isAgg,Sem.run_bind,run_underlying hu,Result.andThen_ok];cases d<;>first|rfl|(exfalso;first|exact h1 _ rfl|exact h2 _ _ rfl)
 ·simp at h
theorem QH {t:TypeId} {cs:List AC} (h:I6 P t=some cs):∃v,(∀w,(zeroValue t).run P w= .ok v w)/\CL (CC ρ w) cs v.cells.toList:=by
 unfold I6 at h;split at h
 ·rename_i i hi;split at h
  ·rename_i v hv;exact⟨v,fun w=>by simp[zeroValue,typeInfo,hi,hv],RX _ h⟩
  ·simp at h
 ·simp at h
theorem GE {im:Nat->Prop} {w:World} (k:IntKind) (n:Int):CP im w (.int k n) (.int k n):=by simp[CP]
theorem Qvt {im:Nat->Prop} {w:World} (b:Bool):CP im w (.bool b) (.bool b):=by simp[CP]
theorem Zd5 (op:BinOp) (t:TypeId) (k:IntKind) (a b:Int) (K:AC->Option R) {r:R} (h:G2 op k a b K=some r):
  ∃c x,K c=some r/\CP ρ.im w c x/\(binOp op t (.int k a) (.int k b)).run P w= .ok x w:=by
 cases op<;>simp only[G2]at h
 case quo=>
  cases hb:decide (b=0)
  ·rw[hb]at h;simp only[cond_false]at h;have hb': ¬b=0:=by simpa using hb
   exact⟨_,_,h,GE _ _,by simp[binOp_quo,Op.intDiv,hb']⟩
  ·rw[hb]at h;simp at h
 case rem=>
  cases hb:decide (b=0)
  ·rw[hb]at h;simp only[cond_false]at h;have hb': ¬b=0:=by simpa using hb
   exact⟨_,_,h,GE _ _,by simp[binOp_rem,Op.intDiv,hb']⟩
  ·rw[hb]at h;simp at h
 case shl=>
  cases hb:decide (b<0)
  ·rw[hb]at h;simp only[cond_false]at h;have hb': ¬b<0:=by simpa using hb
   exact⟨_,_,h,GE _ _,by simp[binOp_shl,Op.shift,hb']⟩
  ·rw[hb]at h;simp at h
 case shr=>
  cases hb:decide (b<0)
  ·rw[hb]at h;simp only[cond_false]at h;have hb': ¬b<0:=by simpa using hb
   exact⟨_,_,h,GE _ _,by simp[binOp_shr,Op.shift,hb']⟩
  ·rw[hb]at h;simp at h
 case and=>exact⟨_,_,h,GE _ _,by rw[binOp_and];rfl⟩
 case or=>exact⟨_,_,h,GE _ _,by rw[binOp_or];rfl⟩
 case xor=>exact⟨_,_,h,GE _ _,by rw[binOp_xor];rfl⟩
 case andNot=>exact⟨_,_,h,GE _ _,by rw[binOp_andNot];rfl⟩
 all_goals first|exact⟨_,_,h,GE _ _,by simp[go_sem]⟩|exact⟨_,_,h,Qvt _,by simp[go_sem]⟩
theorem Zqm {op:BinOp} (hs:Np op=true) (t:TypeId) (k k':IntKind) (a b:Int) (K:AC->Option R) {r:R} (h:G2 op k a b K=some r):
  ∃c x,K c=some r/\CP ρ.im w c x/\(binOp op t (.int k a) (.int k' b)).run P w= .ok x w/\op≠ .eql/\op≠ .neq:=by
 cases op<;>simp[Np]at hs<;>simp only[G2]at h
 case shl=>
  cases hb:decide (b<0)
  ·rw[hb]at h;simp only[cond_false]at h;have hb': ¬b<0:=by simpa using hb
   exact⟨_,_,h,GE _ _,by simp[binOp_shl,Op.shift,hb'],by simp,by simp⟩
  ·rw[hb]at h;simp at h
 case shr=>
  cases hb:decide (b<0)
  ·rw[hb]at h;simp only[cond_false]at h;have hb': ¬b<0:=by simpa using hb
   exact⟨_,_,h,GE _ _,by simp[binOp_shr,Op.shift,hb'],by simp,by simp⟩
  ·rw[hb]at h;simp at h
theorem Hj {i:Int}:∀{n k:Nat} {K:Nat->Option R} {r:R},GI i n k K=some r->∃j,K j=some r/\i=(j:Int)/\k<=j/\j<k+n
 |0,_,_,_,h=>by simp[GI]at h
 |n+1,k,K,r,h=>by
  rw[GI]at h;cases hd:decide (i=(k:Int))
  ·rw[hd]at h;simp only[cond_false]at h;obtain⟨j,h1,h2,h3,h4⟩:=Hj h;exact⟨j,h1,h2,by omega,by omega⟩
  ·rw[hd]at h;simp only[cond_true]at h;exact⟨k,h,by simpa using hd,by omega,by omega⟩
theorem Quh {g:Bool} {sz:Nat} {cells:List AC} {off:Nat} {v:TV} {xs:List Value} (h:Dl g sz cells off=some v) (hc:CL (CC ρ w) cells xs):
  match g with
  |true=>off+sz<=xs.length/\TVR ρ w v (.agg (cut xs off sz).toArray)
  |false=>∃x,xs[off]? =some x/\TVR ρ w v x:=by
 cases g
 ·simp only[Dl,cond_false]at h;split at h
  ·rename_i a ha;simp at h;subst h;obtain⟨x,hx,hr⟩:=hc.get ha;exact⟨x,hx,TVR.c' hr⟩
  ·simp at h
 ·simp only[Dl,cond_true]at h;cases hb:Nat.ble (off+sz) cells.length
  ·rw[hb]at h;simp at h
  ·rw[hb]at h;simp at h;subst h;exact⟨by rw[<-hc.length];exact Nat.le_of_ble_eq_true hb,⟨_,rfl,by simpa using hc.cut off sz⟩⟩
theorem Q4o {t:TypeId} {cs:List AC} {off:Nat} {v:TV} {ys:Array Value} (h:NS P t cs off=some v) (hc:CL (CC ρ w) cs ys.toList):
  ∃x,(part t ys off).run P w= .ok x w/\TVR ρ w v x:=by
 unfold NS at h;split at h
 ·rename_i g sz hg hs;have hp:=Quh h hc;cases g
  ·obtain⟨x,hx,hr⟩:=hp;refine⟨x,?_,hr⟩;have hx':ys[off]? =some x:=by simpa using hx
   simp[part,NV hg,hx']
  ·obtain⟨hle,hr⟩:=hp;refine⟨_,?_,hr⟩;simp only[part,Sem.run_bind,NV hg,Result.andThen_ok,if_true,DG hs,Sem.run_pure];congr 2;apply Array.ext';simp[cut]
 ·simp at h
theorem CL.plain {l:List AC} {xs:List Value} (hp:Aj AC.plain l=true) (h:CL (CC ρ w) l xs):CL (CP ρ.im w) l xs:=
 h.mono fun a ha _ hx=>Zjv (Av.1 hp a ha) hx
end
end Go.Bm
