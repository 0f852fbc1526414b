/- The abstract machine, second form: each operation does what its primitive step says. -/
import Derived.Test.YtommijghjlikkaaGreatBmRel
set_option linter.unusedVariables false
set_option linter.unusedSimpArgs false
namespace Go.Bm
open Go.RowKit

section
variable {P:Program} {C:Cfg} {ρ:Env} {w:World} {R:Type}

theorem Zkz {x:Value} (h:x.oneCell'=true):x.cells= #[x]:=by
 cases x<;>first|rfl|(simp[Value.oneCell']at h)

theorem Qtf (v:Value) (h:v.oneCell'=true):CC ρ w (NF v) v:=by
 unfold NF
 split<;>first|(simp[CC,CP,Value.oneCell'];done)|exact h

theorem R1:∀(l:List Value) {cs:List AC},Il l=some cs->CL (CC ρ w) cs l
 |[],cs,h=>by simp[Il]at h;subst h;trivial
 |v::l,cs,h=>by
  simp only[Il]at h
  cases hv:v.oneCell'
  ·simp[hv]at h
  ·simp only[hv,cond_true]at h
   split at h
   ·rename_i cs' hc
    simp at h;subst h
    exact⟨Qtf v hv,R1 l hc⟩
   ·simp at h

theorem Zei (v:Value):TVR ρ w (ofValue v) v:=by
 unfold ofValue
 split
 ·rename_i cs
  split
  ·rename_i l hl
   exact⟨cs,rfl,R1 _ hl⟩
  ·trivial
 ·trivial
 ·rename_i h1 h2
  exact⟨_,rfl,Qtf v (by cases v<;>first|rfl|(exfalso;first|exact h1 _ rfl|exact h2 _ rfl))⟩

theorem TVR.cells {t:TV} {x:Value} {cs:List AC} (h:TVR ρ w t x) (hc:t.cells=some cs):CL (CC ρ w) cs x.cells.toList:=by
 cases t with
 |dead=>simp[TV.cells]at hc
 |tup ps=>simp[TV.cells]at hc
 |v g l=>
  simp[TV.cells]at hc;subst hc
  cases g
  ·obtain⟨a,rfl,ha⟩:=h
   rw[Zkz ha.one]
   exact⟨ha,trivial⟩
  ·obtain⟨ys,rfl,hy⟩:=h
   exact hy

theorem TVR.c {a:AC} {x:Value} (h:TVR ρ w (.c a) x):CC ρ w a x:=by
 obtain⟨b,hb,hc⟩:=h
 simp at hb;subst hb;exact hc
theorem TVR.c' {a:AC} {x:Value} (h:CC ρ w a x):TVR ρ w (.c a) x:=⟨a,rfl,h⟩
theorem TVR.int {k:IntKind} {n:Int} {x:Value} (h:TVR ρ w (.c (.int k n)) x):x= .int k n:=by have:=h.c;simpa [CC,CP]using this
theorem TVR.bool {b:Bool} {x:Value} (h:TVR ρ w (.c (.bool b)) x):x= .bool b:=by have:=h.c;simpa [CC,CP]using this
theorem TVR.mkInt (k:IntKind) (n:Int):TVR ρ w (.c (.int k n)) (.int k n):=TVR.c' (by simp[CC,CP])
theorem TVR.mkBool (b:Bool):TVR ρ w (.c (.bool b)) (.bool b):=TVR.c' (by simp[CC,CP])
theorem TVR.agg {cs:List AC} {x:Value} (h:TVR ρ w (.agg cs) x):∃ys:Array Value,x= .agg ys/\CL (CC ρ w) cs ys.toList:=h

def RowC (im:Nat->Prop) (w:World) (ks:List Kd) (l:List (List AC)) (xs:List Value):Prop:=
 xs.length=l.length*ks.length/\(∀c∈l,AK ks c=c)/\∀i c,l[i]? =some c->CL (CP im w) c (cut xs (i*ks.length) ks.length)

theorem NO {k k':IntKind} (h:kEq k k'=true):k=k':=by cases k<;>cases k'<;>first|rfl|(simp[kEq]at h)

mutual
theorem Zyw:∀{k k':Kd},D_ k k'=true->k=k'
 | .int k, .int k',h=>by rw[D_]at h;rw[NO h]
 | .bool, .bool,_=>rfl
 | .sl ks, .sl ks',h=>by rw[D_]at h;rw[IH h]
 | .raw, .raw,_=>rfl
 | .int _, .bool,h=>by simp[D_]at h
 | .int _, .sl _,h=>by simp[D_]at h
 | .int _, .raw,h=>by simp[D_]at h
 | .bool, .int _,h=>by simp[D_]at h
 | .bool, .sl _,h=>by simp[D_]at h
 | .bool, .raw,h=>by simp[D_]at h
 | .sl _, .int _,h=>by simp[D_]at h
 | .sl _, .bool,h=>by simp[D_]at h
 | .sl _, .raw,h=>by simp[D_]at h
 | .raw, .int _,h=>by simp[D_]at h
 | .raw, .bool,h=>by simp[D_]at h
 | .raw, .sl _,h=>by simp[D_]at h
theorem IH:∀{ks ks':List Kd},CD ks ks'=true->ks=ks'
 |[],[],_=>rfl
 |k::ks,k'::ks',h=>by
  rw[CD]at h
  cases hk:D_ k k'
  ·rw[hk]at h;simp at h
  ·rw[hk]at h
   simp only[cond_true]at h
   rw[Zyw hk,IH h]
 |[],_::_,h=>by simp[CD]at h
 |_::_,[],h=>by simp[CD]at h
end

theorem Ra {im:Nat->Prop} (ks:List Kd):CP im w (.view ks []) (.slice none 0 0):=by
 rw[CP]
 exact⟨none,0,rfl,Nat.le_refl _,by simp, .inl rfl⟩

theorem Zs5 {k:Kd} {a a':AC} {x:Value} (h:UB k a=some a') (hc:CC ρ w a x):CP ρ.im w a' x/\Lm k a'=a':=by
 cases k<;>cases a<;>simp only[UB]at h<;>try (simp at h;done)
 case int.int k k' n=>
  cases hk:kEq k k'<;>rw[hk]at h
  ·simp at h
  ·simp at h;subst h
   rw[<-NO hk]at hc
   exact⟨hc,rfl⟩
 case bool.bool b=>simp at h;subst h;exact⟨hc,rfl⟩
 case sl.nilSl ks=>
  simp at h;subst h
  simp only[CC,CP]at hc;subst hc
  exact⟨Ra ks,rfl⟩
 case sl.view ks ks' l=>
  cases hk:CD ks ks'<;>rw[hk]at h
  ·simp at h
  ·simp at h;subst h
   rw[<-IH hk]at hc
   exact⟨hc,rfl⟩
 case raw.raw v=>simp at h;subst h;exact⟨hc,rfl⟩

theorem Za7 {α:Type} (d:α) (x:α) (l:List α) (n:Nat):nth d (x::l) (n+1)=nth d l n:=rfl
theorem Q33 (a:AC):∀(ks:List Kd) (cs:List AC) (j:Nat),Eh ks (a::cs) (j+1)=Eh ks cs j
 |[],_,_=>rfl
 |k::ks,cs,j=>by rw[Eh,Eh,Za7,Q33 a ks cs (j+1)]
theorem Qch (k:Kd) (ks:List Kd) (a:AC) (cs:List AC):AK (k::ks) (a::cs)=Lm k a::AK ks cs:=by
 show Lm k a::Eh ks (a::cs) 1=_
 rw[Q33];rfl

theorem S8:∀{ks:List Kd} {cs cs':List AC} {xs:List Value},HT ks cs=some cs'->CL (CC ρ w) cs xs->CL (CP ρ.im w) cs' xs/\AK ks cs'=cs'
 |[],[],cs',xs,h,hc=>by
  simp[HT]at h;subst h
  cases xs with
  |nil=>exact⟨trivial,rfl⟩
  |cons=>exact hc.elim
 |k::ks,a::cs,cs',xs,h,hc=>by
  simp only[HT]at h
  split at h
  ·rename_i a' ha
   split at h
   ·rename_i l hl
    simp at h;subst h
    cases xs with
    |nil=>exact hc.elim
    |cons x xs=>
     obtain⟨h1,h2⟩:=Zs5 ha hc.1
     obtain⟨h3,h4⟩:=S8 hl hc.2
     exact⟨⟨h1,h3⟩,by rw[Qch,h2,h4]⟩
   ·simp at h
  ·simp at h
 |[],_::_,_,_,h,_=>by simp[HT]at h
 |_::_,[],_,_,h,_=>by simp[HT]at h

def Iq (P:Program) (ρ:Env) (w:World) (e:Operand->Value) (o:Oper):Prim->Prop
 | .val v=>∃x,(execOp e o).run P w= .ok (.value x) w/\TVR ρ w v x
 | .load g sz key off=>∃t,B4 P t=some g/\szT P t=some sz/\
   (execOp e o).run P w=((loadVar t ⟨ρ.bx key,off,none⟩).run P w).andThen fun v w'=> .ok (.value v) w'
 | .rload g sz id idx sub=>∃t b,B4 P t=some g/\szT P t=some sz/\(ρ.rv id).ownBlock=some b/\
   (execOp e o).run P w=((loadVar t ⟨b,Hl (ρ.rv id)+(idx*ρ.wd id+sub),none⟩).run P w).andThen fun v w'=> .ok (.value v) w'
 | .store key off cs=>∃t x,szT P t=some cs.length/\CL (CC ρ w) cs x.cells.toList/\
   (execOp e o).run P w=((storeVar t ⟨ρ.bx key,off,none⟩ x).run P w).andThen fun _ w'=> .ok .skip w'
 | .rstore id idx sub cs=>∃t x b,szT P t=some cs.length/\CL (CC ρ w) cs x.cells.toList/\(ρ.rv id).ownBlock=some b/\
   (execOp e o).run P w=((storeVar t ⟨b,Hl (ρ.rv id)+(idx*ρ.wd id+sub),none⟩ x).run P w).andThen fun _ w'=> .ok .skip w'
 | .new ty cs=>∃arr:Array Value,CL (CC ρ w) cs arr.toList/\(execOp e o).run P w= .ok (.value (.pointer (some ⟨w.heap.size,0,none⟩))) (w.alloc (.cells arr ty))
 | .cutR id a=>∀ad n cap,ρ.rv id= .slice ad n cap->n<=cap->a<=n->(execOp e o).run P w= .ok (.value (.slice (if cap=a then ad else ad.map (·.add (a*ρ.wd id))) (n-a) (cap-a))) w
 | .newS ty n cs=>∃arr:Array Value,CL (CC ρ w) cs arr.toList/\(execOp e o).run P w= .ok (.value (.slice (some ⟨w.heap.size,0,none⟩) n n)) (w.alloc (.cells arr ty))
 | .newRow el ks l=>∃arr:Array Value,0<ks.length/\l.length<=maxLen/\RowC ρ.im w ks l arr.toList/\
   (execOp e o).run P w= .ok (.value (.slice (some ⟨w.heap.size,0,none⟩) l.length l.length)) (w.alloc (.cells arr el))
 | .newView el ks l=>∃arr:Array Value,0<ks.length/\l.length<=maxLen/\RowC ρ.im w ks l arr.toList/\
   (execOp e o).run P w= .ok (.value (.slice (some ⟨w.heap.size,0,none⟩) l.length l.length)) (w.alloc (.cells arr el))
 | .make el ks bytes n z=>∃t i zv kl kc,P.underlying t=some (.slice el)/\P.info? el=some i/\i.zero=some zv/\i.size=ks.length/\i.bytes=bytes/\0<ks.length/\0<bytes/\AK ks z=z/\CL (CP ρ.im w) z zv.cells.toList/\
   (execOp e o).run P w=((Instr.makeSlice t (.int kl n) (.int kc n)).run P w).andThen fun v w'=> .ok (.value v) w'
 | .append el ks bytes s x=>∃t ty i z sv xv,P.underlying t=some (.slice el)/\P.info? el=some i/\i.zero=some z/\i.size=ks.length/\i.bytes=bytes/\z.cells.size=ks.length/\CC ρ w s sv/\CC ρ w x xv/\
   (execOp e o).run P w=((Builtin.append_ #[t,t] ty #[sv,xv]).run P w).andThen fun v w'=> .ok (.value v) w'
 | .appD el ks bytes s x=>∃t ty i z sv xv,P.underlying t=some (.slice el)/\P.info? el=some i/\i.zero=some z/\i.size=ks.length/\i.bytes=bytes/\z.cells.size=ks.length/\CC ρ w s sv/\CC ρ w x xv/\
   (execOp e o).run P w=((Builtin.append_ #[t,t] ty #[sv,xv]).run P w).andThen fun v w'=> .ok (.value v) w'
 | .callM f args=>∃xs:List Value,xs.length=args.length/\(∀(i:Nat) (a:TV) (x:Value),args[i]? =some a->xs[i]? =some x->TVR ρ w a x)/\execOp e o=callFunc f xs.toArray
 | .callF f args=>∃xs:List Value,xs.length=args.length/\(∀(i:Nat) (a:TV) (x:Value),args[i]? =some a->xs[i]? =some x->TVR ρ w a x)/\execOp e o=callFunc f xs.toArray
 | .callD f args=>∃xs:List Value,xs.length=args.length/\(∀(i:Nat) (a:TV) (x:Value),args[i]? =some a->xs[i]? =some x->TVR ρ w a x)/\execOp e o=callFunc f xs.toArray
 | .call f args=>∃xs:List Value,xs.length=args.length/\(∀(i:Nat) (a:TV) (x:Value),args[i]? =some a->xs[i]? =some x->TVR ρ w a x)/\execOp e o=callFunc f xs.toArray

theorem Zx7 {t:TypeId} {n:Nat} (h:szT P t=some n):∃i,P.info? t=some i/\i.size=n:=by
 unfold szT at h
 split at h
 ·rename_i i hi;simp at h;exact⟨i,hi,h⟩
 ·simp at h

theorem Dl {t:TypeId} {n:Nat} (h:szT P t=some n) (w:World):(sizeOf t).run P w= .ok n w:=by
 obtain⟨i,hi,rfl⟩:=Zx7 h
 simp[sizeOf,typeInfo,hi]

theorem Ns {t:TypeId} {g:Bool} (h:B4 P t=some g) (w:World):(isAgg t).run P w= .ok g w:=by
 unfold B4 at h
 split at h
 ·rename_i fs hu;simp at h;subst h;simp[isAgg,run_underlying hu]
 ·rename_i n e hu;simp at h;subst h;simp[isAgg,run_underlying hu]
 ·rename_i d h1 h2 hu
  simp at h;subst h
  simp only[isAgg,Sem.run_bind,run_underlying hu,Result.andThen_ok]
  cases d<;>first|rfl|(exfalso;first|exact h1 _ rfl|exact h2 _ _ rfl)
 ·simp at h

theorem Qy {t:TypeId} {cs:List AC} (h:Is P t=some cs):∃v,(∀w,(zeroValue t).run P w= .ok v w)/\CL (CC ρ w) cs v.cells.toList:=by
 unfold Is at h
 split at h
 ·rename_i i hi
  split at h
  ·rename_i v hv
   exact⟨v,fun w=>by simp[zeroValue,typeInfo,hi,hv],R1 _ h⟩
  ·simp at h
 ·simp at h

theorem F4 {im:Nat->Prop} {w:World} (k:IntKind) (n:Int):CP im w (.int k n) (.int k n):=by simp[CP]
theorem Q1j {im:Nat->Prop} {w:World} (b:Bool):CP im w (.bool b) (.bool b):=by simp[CP]

theorem Zb9 (op:BinOp) (t:TypeId) (k:IntKind) (a b:Int) (K:AC->Option R) {r:R} (h:GI op k a b K=some r):
  ∃c x,K c=some r/\CP ρ.im w c x/\(binOp op t (.int k a) (.int k b)).run P w= .ok x w:=by
 cases op<;>simp only[GI]at h
 case quo=>
  cases hb:decide (b=0)
  ·rw[hb]at h;simp only[cond_false]at h
   have hb': ¬b=0:=by simpa using hb
   exact⟨_,_,h,F4 _ _,by simp[binOp_quo,Op.intDiv,hb']⟩
  ·rw[hb]at h;simp at h
 case rem=>
  cases hb:decide (b=0)
  ·rw[hb]at h;simp only[cond_false]at h
   have hb': ¬b=0:=by simpa using hb
   exact⟨_,_,h,F4 _ _,by simp[binOp_rem,Op.intDiv,hb']⟩
  ·rw[hb]at h;simp at h
 case shl=>
  cases hb:decide (b<0)
  ·rw[hb]at h;simp only[cond_false]at h
   have hb': ¬b<0:=by simpa using hb
   exact⟨_,_,h,F4 _ _,by simp[binOp_shl,Op.shift,hb']⟩
  ·rw[hb]at h;simp at h
 case shr=>
  cases hb:decide (b<0)
  ·rw[hb]at h;simp only[cond_false]at h
   have hb': ¬b<0:=by simpa using hb
   exact⟨_,_,h,F4 _ _,by simp[binOp_shr,Op.shift,hb']⟩
  ·rw[hb]at h;simp at h
 case and=>exact⟨_,_,h,F4 _ _,by rw[binOp_and];rfl⟩
 case or=>exact⟨_,_,h,F4 _ _,by rw[binOp_or];rfl⟩
 case xor=>exact⟨_,_,h,F4 _ _,by rw[binOp_xor];rfl⟩
 case andNot=>exact⟨_,_,h,F4 _ _,by rw[binOp_andNot];rfl⟩
 all_goals first|exact⟨_,_,h,F4 _ _,by simp[go_sem]⟩|exact⟨_,_,h,Q1j _,by simp[go_sem]⟩

theorem Zae {op:BinOp} (hs:L8 op=true) (t:TypeId) (k k':IntKind) (a b:Int) (K:AC->Option R) {r:R} (h:GI op k a b K=some r):
  ∃c x,K c=some r/\CP ρ.im w c x/\(binOp op t (.int k a) (.int k' b)).run P w= .ok x w/\op≠ .eql/\op≠ .neq:=by
 cases op<;>simp[L8]at hs<;>simp only[GI]at h
 case shl=>
  cases hb:decide (b<0)
  ·rw[hb]at h;simp only[cond_false]at h
   have hb': ¬b<0:=by simpa using hb
   exact⟨_,_,h,F4 _ _,by simp[binOp_shl,Op.shift,hb'],by simp,by simp⟩
  ·rw[hb]at h;simp at h
 case shr=>
  cases hb:decide (b<0)
  ·rw[hb]at h;simp only[cond_false]at h
   have hb': ¬b<0:=by simpa using hb
   exact⟨_,_,h,F4 _ _,by simp[binOp_shr,Op.shift,hb'],by simp,by simp⟩
  ·rw[hb]at h;simp at h

theorem Hm {i:Int}:∀{n k:Nat} {K:Nat->Option R} {r:R},GK i n k K=some r->∃j,K j=some r/\i=(j:Int)/\k<=j/\j<k+n
 |0,_,_,_,h=>by simp[GK]at h
 |n+1,k,K,r,h=>by
  rw[GK]at h
  cases hd:decide (i=(k:Int))
  ·rw[hd]at h;simp only[cond_false]at h
   obtain⟨j,h1,h2,h3,h4⟩:=Hm h
   exact⟨j,h1,h2,by omega,by omega⟩
  ·rw[hd]at h;simp only[cond_true]at h
   exact⟨k,h,by simpa using hd,by omega,by omega⟩

theorem Q5j {g:Bool} {sz:Nat} {cells:List AC} {off:Nat} {v:TV} {xs:List Value} (h:Dg g sz cells off=some v) (hc:CL (CC ρ w) cells xs):
  match g with
  |true=>off+sz<=xs.length/\TVR ρ w v (.agg (cut xs off sz).toArray)
  |false=>∃x,xs[off]? =some x/\TVR ρ w v x:=by
 cases g
 ·simp only[Dg,cond_false]at h
  split at h
  ·rename_i a ha
   simp at h;subst h
   obtain⟨x,hx,hr⟩:=hc.get ha
   exact⟨x,hx,TVR.c' hr⟩
  ·simp at h
 ·simp only[Dg,cond_true]at h
  cases hb:Nat.ble (off+sz) cells.length
  ·rw[hb]at h;simp at h
  ·rw[hb]at h;simp at h;subst h
   exact⟨by rw[<-hc.length];exact Nat.le_of_ble_eq_true hb,⟨_,rfl,by simpa using hc.cut off sz⟩⟩

theorem Qyo {t:TypeId} {cs:List AC} {off:Nat} {v:TV} {ys:Array Value} (h:LV P t cs off=some v) (hc:CL (CC ρ w) cs ys.toList):
  ∃x,(part t ys off).run P w= .ok x w/\TVR ρ w v x:=by
 unfold LV at h
 split at h
 ·rename_i g sz hg hs
  have hp:=Q5j h hc
  cases g
  ·obtain⟨x,hx,hr⟩:=hp
   refine⟨x,?_,hr⟩
   have hx':ys[off]? =some x:=by simpa using hx
   simp[part,Ns hg,hx']
  ·obtain⟨hle,hr⟩:=hp
   refine⟨_,?_,hr⟩
   simp only[part,Sem.run_bind,Ns hg,Result.andThen_ok,if_true,Dl hs,Sem.run_pure]
   congr 2
   apply Array.ext'
   simp[cut]
 ·simp at h

theorem CL.plain {l:List AC} {xs:List Value} (hp:Aj AC.plain l=true) (h:CL (CC ρ w) l xs):CL (CP ρ.im w) l xs:=
 h.mono fun a ha _ hx=>Zi4 (Av.1 hp a ha) hx

end
end Go.Bm
