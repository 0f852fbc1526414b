/- the abstract machine -/
import Derived.WalkKit
import Derived.ProofKit
import Derived.Laws.StructEq
import Derived.Maps.AppendAt
set_option linter.unusedVariables false
set_option linter.unusedSimpArgs false
namespace Go.Bm
theorem aa {c:Prop} {_:Decidable c} (h:c:=by omega) {α:Sort _} {t e:α}:ite c t e=t:=if_pos h
theorem ab {c:Prop} {_:Decidable c} (h:¬c:=by omega) {α:Sort _} {t e:α}:ite c t e=e:=if_neg h
abbrev ac:=@List.length_map
abbrev af:=@Nat.eq_of_beq_eq_true
abbrev ag:=@List.getElem?_eq_getElem
abbrev ah:=@Option.bind_some
abbrev ai:=@cond_true
abbrev aj:=@Int.toNat_natCast
abbrev ak:=@Bool.and_eq_true
abbrev al:=@decide_eq_true
abbrev am:=@decide_eq_false
abbrev an:=@List.length_append
abbrev ao:=@List.mem_cons
abbrev ap:=@Int.tdiv_eq_ediv_of_nonneg
abbrev aq:=@cond_false
abbrev av:=@Option.some.injEq
abbrev ay:=@List.cons_append
abbrev az:=@List.nil_append
abbrev ba:=@List.mem_append
abbrev bc:=@List.mem_map
abbrev bf:=@List.getElem_mem
abbrev bh:=@List.length_cons
abbrev bj:=@Nat.le_of_ble_eq_true
abbrev bm:=@List.map_cons
abbrev bn:=@List.map_append
abbrev bp:=@Decidable.byContradiction
abbrev bq:=@List.length_drop
abbrev bt:=@Nat.mul_le_mul_right
abbrev bv:=@Option.map_eq_some_iff
abbrev bz:=@Int.le_refl
abbrev cd:=@List.mem_of_getElem?
abbrev cg:=@Int.eq_ofNat_of_zero_le
abbrev co:=@Eq.trans
abbrev cq:=@Nat.le_trans
abbrev cx:=@Nat.le_refl
abbrev cz:=@decide_eq_true_eq
abbrev da:=@List.length_nil
abbrev db:=@Result.andThen_ok
abbrev dc:=@Prod.mk.injEq
abbrev de:=@Option.bind_eq_some_iff
abbrev df:=@List.getElem?_eq_none
abbrev dg:=@Int.natCast_mul
abbrev dh:=@Nat.add_mul
abbrev dk:=@List.append_assoc
abbrev dl:=@List.length_take
abbrev dm:=@Nat.add_assoc
abbrev dp:=@List.mem_of_mem_drop
abbrev dq:=@List.getD_eq_getElem?_getD
abbrev dt:=@Array.getElem?_eq_some_iff
abbrev du:=@Bool.false_eq_true
abbrev dv:=@if_true
abbrev dw:=@Array.length_toList
abbrev dx:=@List.mem_of_mem_take
abbrev dy:=@List.getElem?_drop
abbrev dz:=@Nat.add_sub_cancel_left
abbrev d6:=@List.mem_or_eq_of_mem_set
abbrev d7:=@List.getElem?_map
abbrev d8:=@List.map_nil
abbrev d9:=@List.drop_of_length_le
abbrev ez:=@Nat.eq_zero_or_pos
abbrev fa:=@List.mem_singleton
abbrev fc:=@Nat.zero_add
abbrev fd:=@Nat.mul_lt_mul_of_pos_right
abbrev ff:=@Nat.mul_comm
abbrev fg:=@Nat.div_lt_iff_lt_mul
abbrev fh:=@List.foldl_cons
abbrev fj:=@Classical.choose_spec
abbrev fo:=@List.take_add_one
abbrev fq:=@List.getElem?_take
abbrev fu:=@Int.mul_le_mul_of_nonneg_right
abbrev fv:=@Nat.mul_le_mul
abbrev fx:=@List.getElem?_eq_some_iff
abbrev f6:=@Int.mul_le_mul
abbrev f7:=@List.eq_nil_of_length_eq_zero
abbrev f8:=@List.length_singleton
abbrev f9:=@List.drop_zero
abbrev gf:=@Nat.lt_of_lt_of_le
abbrev gh:=@List.take_length
abbrev gj:=@List.getElem_map
abbrev gk:=@Int.fdiv_eq_ediv_of_nonneg
abbrev gn:=@Int.natAbs_mul_self
abbrev gq:=@Int.mul_nonneg
abbrev gv:=@Nat.two_pow_pos
abbrev gw:=@Nat.div_add_mod
abbrev gx:=@Nat.ble_eq_true_of_le
abbrev gy:=@Nat.one_mul
abbrev gz:=@List.drop_append_of_le_length
abbrev ie:=@List.getElem?_append
abbrev ig:=@Bool.not_eq_true'
abbrev ii:=@Int.natCast_add
abbrev ik:=@congrArg
abbrev ip:=@List.take_of_length_le
abbrev iq:=@Nat.mod_lt
abbrev iu:=@iff_of_false
abbrev iv:=@if_false
abbrev iw:=@Nat.succ_mul
abbrev iy:=@Nat.mul_assoc
abbrev iz:=@List.getElem?_append_left
abbrev i6:=@Nat.mul_self_lt_mul_self
abbrev i7:=@Nat.div_le_self
abbrev i8:=@List.ext_getElem?
abbrev i9:=@Int.mul_self_le_mul_self
abbrev ja:=@Int.add_zero
abbrev jb:=@Array.toList_map
abbrev jc:=@Int.cast_ofNat_Int
abbrev jd:=@Nat.zero_mul
abbrev je:=@List.length_set
abbrev jf:=@List.getElem_drop
abbrev jg:=@List.getElem?_set
abbrev jh:=@Int.tmod_eq_emod_of_nonneg
abbrev ji:=@List.nodup_nil
abbrev jj:=@List.drop_eq_getElem_cons
abbrev jk:=@List.drop_drop
abbrev jm:=@Array.getElem?_eq_getElem
abbrev jn:=@forall_eq_or_imp
abbrev jo:=@List.replicate_succ
abbrev jp:=@Int.one_mul
abbrev jq:=@Nat.sub_self
abbrev jr:=@Nat.pow_succ
abbrev js:=@Option.map_some
abbrev jt:=@Nat.le_mul_of_pos_right
abbrev ju:=@List.cons.injEq
abbrev jv:=@List.append_nil
abbrev jx:=@Int.natAbs_natCast
abbrev jy:=@List.getElem_cons_succ
abbrev jz:=@Nat.zero_le
abbrev j0:=@Int.add_mul
abbrev j7:=@Nat.beq_refl
abbrev j8:=@List.length_filter_le
abbrev j9:=@Int.mul_comm
abbrev ke:=@Option.getD_some
abbrev kf:=@List.take_append_of_le_length
abbrev kg:=@List.mem_iff_getElem
abbrev kh:=@List.nodup_cons
abbrev ki:=@Int.natCast_one
abbrev kj:=@Int.max_eq_left
abbrev kk:=@Bool.or_eq_true
abbrev kn:=@List.getElem?_append_right
abbrev ko:=@List.exists_cons_of_ne_nil
abbrev kq:=@Nat.lt_or_ge
abbrev kt:=@Nat.add_zero
abbrev ku:=@Nat.add_comm
abbrev kv:=@Int.zero_mul
abbrev kw:=@BitVec.toNat_ofInt
abbrev kx:=@not_false_eq_true
abbrev ky:=@List.foldl_append
abbrev kz:=@dif_pos
abbrev ld:=@List.map_drop
abbrev lf:=@List.length_eq_zero_iff
abbrev lg:=@List.not_mem_nil
abbrev lh:=@Int.natCast_zero
abbrev lk:=@List.drop_eq_nil_of_le
inductive Kd where
 |int (k:IntKind)
 |bool
 |sl (ks:List Kd)
 |raw
inductive AC where
 |vD
 |int (k:IntKind) (n:Int)
 |bool (b:Bool)
 |raw (v:Value)
 |nilSl
 |ptr (key off:Nat)
 |own (id w n:Nat)
 |vC (ks:List Kd) (l:List (List AC))
 |rptr (id idx sub:Nat)
 |vptr (cells:List AC) (sub:Nat)
 |clo (f:FuncId) (first caps:List AC)
 |bsl (key n:Nat)
inductive TV where
 |vD
 |v (g:Bool) (cs:List AC)
 |tup (ps:List (Bool×List AC))
abbrev TV.c (a:AC):TV:= .v false [a]
abbrev TV.agg (cs:List AC):TV:= .v true cs
def Af:AC->Int
 | .int _ n=>n
 |_=>0
def CU:AC->Bool
 | .bool b=>b
 |_=>false
def B_:AC->List (List AC)
 | .vC _ l=>l
 |_=>[]
structure Box where
 ty:TypeId
 cells:List AC
variable {R:Type}
def nth {α:Type} (d:α):List α->Nat->α
 |[],_=>d
 |x::_,0=>x
 |_::xs,n+1=>nth d xs n
def Nm:Kd->AC->AC
 | .int k,a=> .int k (Af a)
 | .bool,a=> .bool (CU a)
 | .sl ks,a=> .vC ks (B_ a)
 | .raw, .raw v=> .raw v
 | .raw,_=> .vD
def Fh:List Kd->List AC->Nat->List AC
 |[],_,_=>[]
 |k::ks,cs,j=>Nm k (nth .vD cs j)::Fh ks cs (j+1)
def AV (ks:List Kd) (cs:List AC):List AC:=Fh ks cs 0
structure Row where
 ty:TypeId
 ks:List Kd
 l:List (List AC)
abbrev Row.w (r:Row):Nat:=r.ks.length
abbrev Row.n (r:Row):Nat:=r.l.length
abbrev Row.f (r:Row) (i:Nat):List AC:=AV r.ks (nth [] r.l i)
structure Mem where
 aB:List (Nat×Box)
 aC:List (Nat×Row)
structure St where
 tmps:List TV
 aB:List (Nat×Box)
 aC:List (Nat×Row)
def setL {α:Type}:List α->Nat->α->List α
 |[],_,_=>[]
 |_::xs,0,v=>v::xs
 |x::xs,n+1,v=>x::setL xs n v
def AY {α:Type}:List α->(List α->Option R)->Option R
 |[],K=>K []
 |x::xs,K=>AY xs λD=>K (x::D)
def Ac {α:Type}:List (Nat×α)->Nat->Option α
 |[],_=>none
 |(k,b)::l,key=>bif Nat.beq k key then some b else Ac l key
def upd {α:Type}:List (Nat×α)->Nat->α->List (Nat×α)
 |[],_,_=>[]
 |(k,b)::l,key,x=>bif Nat.beq k key then(k,x)::l else(k,b)::upd l key x
def ins {α:Type}:List (Nat×α)->Nat->α->List (Nat×α)
 |[],key,x=>[(key,x)]
 |(k,b)::l,key,x=>bif Nat.blt key k then(key,x)::(k,b)::l else(k,b)::ins l key x
def cut {α:Type} (l:List α) (off m:Nat):List α:=(l.drop off).take m
def splice {α:Type}:List α->Nat->List α->List α
 |l,_,[]=>l
 |[],_,_::_=>[]
 |_::xs,0,v::D=>v::splice xs 0 D
 |x::xs,n+1,v::D=>x::splice xs n (v::D)
def N_:Value->AC
 | .int k n=> .int k n
 | .bool b=> .bool b
 | .slice none 0 0=> .nilSl
 | .string s=> .raw (.string s)
 | .pointer none=> .raw (.pointer none)
 | .nilFunc=> .raw .nilFunc
 | .nilIface=> .raw .nilIface
 |_=> .vD
def Jv:List Value->Option (List AC)
 |[]=>some []
 | v :: l => bif v.oneCell' then (match Jv l with
  |some cs=>some (N_ v::cs)
  |none=>none)else none
def ofValue:Value->TV
 | .agg cs=>match Jv cs.toList with
  |some l=> .agg l
  |none=> .vD
 | .tuple _=> .vD
 |v=> .c (N_ v)
def TV.cells:TV->Option (List AC)
 | .v _ cs=>some cs
 |_=>none
def TV.int? :TV->Option Int
 | .v false [.int _ n]=>some n
 |_=>none
def kEq:IntKind->IntKind->Bool
 | .i8, .i8| .i16, .i16| .i32, .i32| .i64, .i64| .u8, .u8| .u16, .u16| .u32, .u32| .u64, .u64=>true
 |_,_=>false
def AC.plain:AC->Bool
 | .int _ _| .bool _| .raw _| .nilSl| .vC _ _=>true
 |_=>false
def AC.calm:AC->Bool
 | .int _ _| .bool _| .raw _| .nilSl| .vC _ _| .vD=>true
 |_=>false
def Al {α:Type} (p:α->Bool):List α->Bool
 |[]=>true
 |x::l=>bif p x then Al p l else false
mutual
def Fp:Kd->Kd->Bool
 | .int k, .int k'=>kEq k k'
 | .bool, .bool=>true
 | .sl ks, .sl D=>Dy ks D
 | .raw, .raw=>true
 |_,_=>false
def Dy:List Kd->List Kd->Bool
 |[],[]=>true
 |k::ks,k'::D=>bif Fp k k' then Dy ks D else false
 |_,_=>false
end
def YM:Kd->AC->Option AC
 | .int k, .int k' n=>bif kEq k k' then some (.int k n)else none
 | .bool, .bool b=>some (.bool b)
 | .sl ks, .nilSl=>some (.vC ks [])
 | .sl ks, .vC D l=>bif Dy ks D then some (.vC ks l)else none
 | .raw, .raw v=>some (.raw v)
 |_,_=>none
def IS:List Kd->List AC->Option (List AC)
 |[],[]=>some []
 |k::ks,a::cs=>match YM k a with
  |some E=>match IS ks cs with
   |some D=>some (E::D)
   |none=>none
  |none=>none
 |_,_=>none
def IR (ks:List Kd):Nat->List AC->Option (List (List AC))
 |0,[]=>some []
 |0,_=>none
 |n+1,cs=>match IS ks (cs.take ks.length)with
  |some c=>match IR ks n (cs.drop ks.length)with
   |some l=>some (c::l)
   |none=>none
  |none=>none
inductive Prim where
 |val (v:TV)
 |load (agg:Bool) (sz key off:Nat)
 |store (key off:Nat) (cells:List AC)
 |new (ty:TypeId) (cells:List AC)
 |newS (ty:TypeId) (n:Nat) (cells:List AC)
 |cutR (id a:Nat)
 |rload (agg:Bool) (sz id idx sub:Nat)
 |rstore (id idx sub:Nat) (cells:List AC)
 |append (e:TypeId) (ks:List Kd) (bytes:Nat) (s x:AC)
 |newRow (e:TypeId) (ks:List Kd) (l:List (List AC))
 |newView (e:TypeId) (ks:List Kd) (l:List (List AC))
 |make (e:TypeId) (ks:List Kd) (bytes:Nat) (n:Int) (z:List AC)
 |call (f:FuncId) (args:List TV)
 |callM (f:FuncId) (args:List TV)
 |callD (f:FuncId) (args:List TV)
 |callF (f:FuncId) (args:List TV)
 |appD (e:TypeId) (ks:List Kd) (bytes:Nat) (s x:AC)
def mn (x y:Int):Int:=if y<x then y else x
def mx (x y:Int):Int:=if y>x then y else x
def G7 (op:BinOp) (k:IntKind) (a b:Int) (K:AC->Option R):Option R:=
 match op with
 | .add=>K (.int k (k.wrap (a+b)))
 | .sub=>K (.int k (k.wrap (a-b)))
 | .mul=>K (.int k (k.wrap (a*b)))
 | .quo=>cond (decide (b=0)) none (K (.int k (k.wrap (a.tdiv b))))
 | .rem=>cond (decide (b=0)) none (K (.int k (a.tmod b)))
 | .and=>K (.int k (k.wrap ((BitVec.ofInt k.bits a&&&BitVec.ofInt k.bits b).toNat:Int)))
 | .or=>K (.int k (k.wrap ((BitVec.ofInt k.bits a|||BitVec.ofInt k.bits b).toNat:Int)))
 | .xor=>K (.int k (k.wrap ((BitVec.ofInt k.bits a^^^BitVec.ofInt k.bits b).toNat:Int)))
 | .andNot=>K (.int k (k.wrap ((BitVec.ofInt k.bits a&&& ~~~BitVec.ofInt k.bits b).toNat:Int)))
 | .eql=>K (.bool (a==b))
 | .neq=>K (.bool (a !=b))
 | .lss=>K (.bool (decide (a<b)))
 | .leq=>K (.bool (decide (a<=b)))
 | .gtr=>K (.bool (decide (a>b)))
 | .geq=>K (.bool (decide (a>=b)))
 | .shl=>cond (decide (b<0)) none (K (.int k (k.wrap (a*2^(min b.toNat k.bits)))))
 | .shr=>cond (decide (b<0)) none (K (.int k (a.fdiv (2^(min b.toNat k.bits)))))
def Ob:BinOp->Bool
 | .shl| .shr=>true
 |_=>false
inductive CS where
 |any
 |int (k:IntKind)
 |bool
 |sl (ks:List Kd)
 |rawc
 |nil
 |ptr (key off:Nat)
 |own (id w:Nat)
 |clo (f:FuncId) (fs cs:List (Nat×Nat))
 |bsl (key n:Nat)
inductive TS where
 |vD
 |v (g:Bool) (cs:List CS)
 |tup (ps:List (Bool×List CS))
structure Sk where
 tmps:List TS
 aB:List (Nat×TypeId×List CS):=[]
 aC:List (Nat×TypeId×List Kd):=[]
inductive Ex where
 |normal
 |exit (id:Nat)
 |ret
def Spec:=∀R:Type,List TV->Mem->(TV->Mem->Option R)->Option R
def Kq:=∀R:Type,List AC->(Ex->St->Option R)->Option R
def Jh:List (Nat×Spec)->FuncId->Option Spec
 |[],_=>none
 |(k,b)::l,f=>bif Nat.beq k f then some b else Jh l f
structure Cfg where
 spec:FuncId->Option Spec
 eqOk:List TypeId:=[]
 tprom:List (Nat×TypeId):=[]
 prom:Nat->List (Nat×TypeId):=λ_=>[]
 loops:Nat->Option (Sk×Kq):=λ_=>none
 blocks:Nat->Option (Sk×Kq):=λ_=>none
 conds:Nat->Option (Sk×Kq):=λ_=>none
 pure:FuncId->Bool:=λ_=>true
 ro:FuncId->Bool:=λ_=>false
 lend:FuncId->Bool:=λ_=>false
 ownOff:TypeId->List (Nat×TypeId):=λ_=>[]
 rowAs:Nat->Nat:=λd=>d
 ownBut:List Nat:=[]
 rowDst:List Nat:=[]
 cuts:List Nat:=[]
 fstore:Bool:=false
 ownRes:Bool:=false
 unroll:List Nat:=[]
section prog
variable (P:Program)
def CX (t:TypeId):Option Bool:=
 match P.underlying t with
 |some (.struct _)=>some true
 |some (.array _ _)=>some true
 |some _=>some false
 |none=>none
def szT (t:TypeId):Option Nat:=
 match P.info? t with
 |some i=>some i.size
 |none=>none
def JT (t:TypeId):Option (List AC):=
 match P.info? t with
 |some i=>match i.zero with
  |some v=>Jv v.cells.toList
  |none=>none
 |none=>none
def UI (t:TypeId) (i:Nat):Option Field:=
 match P.underlying t with
 |some (.struct fs)=>fs.toList[i]?
 |_=>none
def DV (agg:Bool) (sz:Nat) (cells:List AC) (off:Nat):Option TV:=
 bif agg then(bif Nat.ble (off+sz) cells.length then some (.agg (cut cells off sz))else none)
 else match cells[off]? with
  |some a=>some (.c a)
  |none=>none
def I9 (t:TypeId) (n:Nat):Bool:=
 match CX P t with
 |some true=>true
 |some false=>Nat.beq n 1
 |none=>false
def JB {β:Type} (g:β->Option Bool):List β->Option Bool
 |[]=>some true
 |x::l=>match g x with
  |some b=>match JB g l with
   |some b'=>some (b&&b')
   |none=>none
  |none=>none
def eqC (ok:List TypeId):Nat->TypeId->List AC->List AC->Option Bool
 |0,_,_,_=>none
 |d+1,t,xs,ys=>
  match P.underlying t with
  |some .bool=>match xs,ys with
   |[.bool a],[.bool b]=>some (a==b)
   |_,_=>none
  |some (.int _)=>match xs,ys with
   |[.int k a],[.int k' b]=>bif kEq k k' then some (a==b)else none
   |_,_=>none
  | some (.struct fs) => bif ok.elem t then JB (λf : Field => bif f.name == "_" then none else match szT P f.type with
    |some n=>bif(Nat.ble (f.offset+n) xs.length&&Nat.ble (f.offset+n) ys.length&&I9 P f.type n)then eqC ok d f.type (cut xs f.offset n) (cut ys f.offset n)else none
    |none=>none) fs.toList else none
  |some (.array n e)=>match szT P e with
   |some m=>bif(Nat.ble (n*m) xs.length&&Nat.ble (n*m) ys.length&&I9 P e m)then JB (λi=>eqC ok d e (cut xs (i*m) m) (cut ys (i*m) m)) (List.range n)else none
   |none=>none
  |_=>none
def Hj (i:Int):(todo k:Nat)->(Nat->Option R)->Option R
 |0,_,_=>none
 |n+1,k,K=>cond (decide (i=(k:Int))) (K k) (Hj i n (k+1) K)
def Oq (t:TypeId) (cs:List AC) (off:Nat):Option TV:=
 match CX P t,szT P t with
 |some a,some sz=>DV a sz cs off
 |_,_=>none
def Jr (place:Nat->Option (Nat×Nat)):List AC->List (Nat×TV)->Option (List AC)
 |cells,[]=>some cells
 |cells,(i,v)::rest=>
  match place i,v.cells with
  |some (off,size),some cs=>bif(Nat.beq cs.length size&&Nat.ble (off+size) cells.length)then Jr place (splice cells off cs) rest else none
  |_,_=>none
def Q0e (g:TypeId->Option (List Kd)):List Field->Nat->Option (List Kd)
 |[],_=>some []
 |f::fs,o=>match g f.type with
  | some ks => bif Nat.beq f.offset o then (match Q0e g fs (o + ks.length) with
   |some l=>some (ks++l)
   |none=>none)else none
  |none=>none
def RC (ks:List Kd):Nat->List Kd
 |0=>[]
 |n+1=>ks++RC ks n
def GE:Nat->TypeId->Option (List Kd)
 |0,_=>none
 |n+1,t=>match P.underlying t with
  |some .bool=>some [.bool]
  |some (.int k)=>some [.int k]
  |some (.slice e)=>match GE n e with
   |some ks=>some [.sl ks]
   |none=>none
  |some (.struct fs)=>Q0e (GE n) fs.toList 0
  |some (.array m e)=>match GE n e with
   |some ks=>some (RC ks m)
   |none=>none
  |some _=>some [.raw]
  |none=>none
def NI (zero:List AC):Nat->List AC
 |0=>[]
 |n+1=>zero++NI zero n
def GI (g:Int->Int->Int) (k:IntKind) (a:Int):List TV->(Prim->Option R)->Option R
 |[],K=>K (.val (.c (.int k a)))
 |t::rest,K=>match t with
  | .v false [.int k' b]=>bif kEq k k' then GI g k (g a b) rest K else none
  |_=>none
def NF (b:Builtin) (argTypes:List TypeId) (args:List TV) (K:Prim->Option R):Option R:=
 match b,args with
 | .len,[.v false [.vC _ l]]=>match argTypes with
  |t::_=>match P.underlying t with
   |some (.slice _)=>K (.val (.c (.int .i64 (l.length:Int))))
   |_=>none
  |[]=>none
 | .len,[.v false [.own _ _ n]]=>match argTypes with
  |t::_=>match P.underlying t with
   |some (.slice _)=>K (.val (.c (.int .i64 (n:Int))))
   |_=>none
  |[]=>none
 | .len,[.v false [.bsl _ n]]=>match argTypes with
  |t::_=>match P.underlying t with
   |some (.slice _)=>K (.val (.c (.int .i64 (n:Int))))
   |_=>none
  |[]=>none
 | .len,[.v false [.nilSl]]=>match argTypes with
  |t::_=>match P.underlying t with
   |some (.slice _)=>K (.val (.c (.int .i64 0)))
   |_=>none
  |[]=>none
 | .len,[.v true _]=>match argTypes with
  |t::_=>match P.underlying t with
   |some (.array n _)=>K (.val (.c (.int .i64 (n:Int))))
   |_=>none
  |[]=>none
 | .min, .v false [.int k a]::rest=>GI mn k a rest K
 | .max, .v false [.int k a]::rest=>GI mx k a rest K
 | .append,[.c s, .c x]=>match argTypes with
  |[t,u]=>match P.underlying t,P.underlying u with
   |some (.slice e),some (.slice _)=>match P.info? e,GE P 8 e with
    |some i,some ks=>match i.zero with
     |some z=>bif(Nat.beq t u&&Nat.beq z.cells.size i.size&&Nat.beq ks.length i.size)then K (.append e ks i.bytes s x)else none
     |none=>none
    |_,_=>none
   |_,_=>none
  |_=>none
 |_,_=>none
def Lf (D:Operand->TV):Option Operand->Option (Option Int)
 |none=>some none
 |some x=>match(D x).int? with
  |some n=>some (some n)
  |none=>none
def Da (D:Operand->TV):List Operand->List TV
 |[]=>[]
 |x::l=>D x::Da D l
def GB (D:Operand->TV):List (Nat×Operand)->List (Nat×TV)
 |[]=>[]
 |x::l=>(x.1,D x.2)::GB D l
def Mq (f:Field):Bool:=
 match szT P f.type with
 |some _=>true
 |none=>false
def XX (fs:List Field) (i:Nat):Option (Nat×Nat):=
 match fs[i]? with
 |some f=>match szT P f.type with
  |some n=>some (f.offset,n)
  |none=>none
 |none=>none
variable (C:Cfg)
def TF (dst:Option Tmp) (n:Nat):Bool:=match dst with
 |some d=>C.rowDst.elem d||Nat.beq n 0
 |none=>false
def AC.isClo:AC->Bool
 | .clo _ _ _=>true
 |_=>false
def AC.clOk:AC->Bool
 | .int _ _| .bool _| .raw _| .nilSl| .vC _ _| .ptr _ _=>true
 |_=>false
def J3:List TV->Option (List AC)
 |[]=>some []
 | .v false [a] :: l => bif a.clOk then (match J3 l with
  |some r=>some (a::r)
  |none=>none)else none
 |_=>none
def opK (D:Operand->TV) (dst:Option Tmp) (o:Op) (K:Prim->Option R):Option R:=
 match o with
 | .move x=>K (.val (D x))
 | .assign x=>K (.val (D x))
 | .pick c a b=>match D c with
  | .v false [.bool g]=>cond g (K (.val (D a))) (K (.val (D b)))
  |_=>none
 | .alloc t=>match JT P t with
  |some cs=>K (.new t cs)
  |none=>none
 | .box t x=>match(D x).cells with
  |some cs=>K (.new t cs)
  |none=>none
 | .build t parts=>match JT P t,P.underlying t with
  |some z,some (.struct fs)=>bif Al (Mq P) fs.toList then match Jr (XX P fs.toList) z (GB D parts.toList)with
   |some cs=>K (.val (.agg cs))
   |none=>none else none
  |some z,some (.array _ e)=>match szT P e with
   |some n=>match Jr (λi=>some (i*n,n)) z (GB D parts.toList)with
    |some cs=>K (.val (.agg cs))
    |none=>none
   |none=>none
  |_,_=>none
 | .buildSlice t n parts=>match P.underlying t with
  |some (.slice e)=>match szT P e,JT P e,GE P 8 e with
   |some w,some z,some ks=>bif(Nat.beq z.length w&&Nat.beq ks.length w&&Nat.ble 1 w&&Nat.ble (n*w) 65536)then match Jr (λi=>some (i*w,w)) (NI z n) (GB D parts.toList)with
    |some cs=>match IR ks n cs with
     |some l=>cond (TF C dst n) (K (.newRow e ks l)) (K (.newView e ks l))
     |none=>bif Al AC.isClo cs&&Nat.beq w 1 then K (.newS e n cs)else none
    |none=>none else none
   |_,_,_=>none
  |_=>none
 | .makeSlice t len cap=>match P.underlying t,(D len).int?,(D cap).int? with
  |some (.slice e),some n,some c=>match P.info? e,JT P e,GE P 8 e with
   |some i,some z,some ks=>match IS ks z with
    |some I=>bif(Nat.beq ks.length i.size&&Nat.ble 1 i.size&&Nat.ble 1 i.bytes)then cond (decide (n=c)) (K (.make e ks i.bytes n I)) none else none
    |none=>none
   |_,_,_=>none
  |_,_,_=>none
 | .makeFunc J first captured=>match J with
  | .func f=>match J3 (Da D first.toList),J3 (Da D captured.toList)with
   |some fs,some cs=>K (.val (.c (.clo f fs cs)))
   |_,_=>none
  |_=>none
 | .load t a=>match CX P t,szT P t with
  |some g,some sz=>match D a with
   | .v false [.ptr key off]=>K (.load g sz key off)
   | .v false [.vptr cells sub]=>match DV g sz cells sub with
    |some v=>K (.val v)
    |none=>none
   | .v false [.rptr id idx sub]=>K (.rload g sz id idx sub)
   |_=>none
  |_,_=>none
 | .store t a x=>match szT P t,(D x).cells with
  |some sz,some cs=>bif Nat.beq cs.length sz then match D a with
    | .v false [.ptr key off]=>K (.store key off cs)
    | .v false [.rptr id idx sub]=>K (.rstore id idx sub cs)
    |_=>none else none
  |_,_=>none
 | .nilCheck x=>match D x with
  | .v false [.ptr key off]=>K (.val (.c (.ptr key off)))
  | .v false [.rptr id idx sub]=>K (.val (.c (.rptr id idx sub)))
  | .v false [.vptr cs sub]=>K (.val (.c (.vptr cs sub)))
  |_=>none
 | .binOp op t x y _=>match D x,D y with
  | .v false [.int k a], .v false [.int k' b]=>bif kEq k k'||Ob op then G7 op k a b λv=>K (.val (.c v))else none
  | .v false [.bool a], .v false [.bool b]=>match P.underlying t,op with
   |some .bool, .eql=>K (.val (.c (.bool (a==b))))
   |some .bool, .neq=>K (.val (.c (.bool (!(a==b)))))
   |_,_=>none
  | .v false [.ptr _ _], .v false [.raw (.pointer none)]=>match P.underlying t,op with
   |some (.pointer _), .eql=>K (.val (.c (.bool false)))
   |some (.pointer _), .neq=>K (.val (.c (.bool true)))
   |_,_=>none
  | .v true xs, .v true L=>bif P.eqGuardType P.depth t then none else match CX P t,eqC P C.eqOk 20 t xs L,op with
   |some true,some r, .eql=>K (.val (.c (.bool r)))
   |some true,some r, .neq=>K (.val (.c (.bool (!r))))
   |_,_,_=>none
  |_,_=>none
 | .unOp op _ x=>match op,D x with
  | .neg, .v false [.int k n]=>K (.val (.c (.int k (k.wrap (0-n)))))
  | .not, .v false [.bool b]=>K (.val (.c (.bool (!b))))
  |_,_=>none
 | .convert src dst x=>match P.underlying src,P.underlying dst,D x with
  |some _,some (.int k), .v false [.int _ n]=>K (.val (.c (.int k (k.wrap n))))
  |_,_,_=>none
 | .fieldAddr t x i=>match UI P t i with
  |some f=>match szT P f.type with
   |some (_+1)=>match D x with
    | .v false [.ptr key off]=>K (.val (.c (.ptr key (off+f.offset))))
    | .v false [.rptr id idx sub]=>K (.val (.c (.rptr id idx (sub+f.offset))))
    | .v false [.vptr cs sub]=>K (.val (.c (.vptr cs (sub+f.offset))))
    |_=>none
   |_=>none
  |none=>none
 | .field t x i=>match UI P t i,D x with
  |some f, .v true cs=>match Oq P f.type cs f.offset with
   |some v=>K (.val v)
   |none=>none
  |_,_=>none
 | .indexAddr t x ix=>match(D ix).int?,P.underlying t with
  |some i,some (.array n e)=>match szT P e,D x with
   |some m, .v false [.ptr key off]=>Hj i n 0 λj=>K (.val (.c (.ptr key (off+j*m))))
   |some m, .v false [.rptr id idx sub]=>Hj i n 0 λj=>K (.val (.c (.rptr id idx (sub+j*m))))
   |some m, .v false [.vptr cs sub]=>Hj i n 0 λj=>K (.val (.c (.vptr cs (sub+j*m))))
   |_,_=>none
  |some i,some (.slice e)=>match szT P e,D x with
   |some m, .v false [.vC ks l]=>bif Nat.beq m ks.length then cond (decide (0<=i)&&decide (i<(l.length:Int))) (K (.val (.c (.vptr (AV ks (nth [] l i.toNat)) 0)))) none else none
   |some m, .v false [.own id w n]=>bif Nat.beq m w then cond (decide (0<=i)&&decide (i<(n:Int))) (K (.val (.c (.rptr id i.toNat 0)))) none else none
   |some m, .v false [.bsl key n]=>bif Nat.beq m 1 then Hj i n 0 λj=>K (.val (.c (.ptr key j)))else none
   |_,_=>none
  |_,_=>none
 | .index t x ix=>match(D ix).int?,P.underlying t,D x with
  |some i,some (.array n e), .v true cs=>match szT P e with
   |some m=>Hj i n 0 λj=>match Oq P e cs (j*m)with
    |some v=>K (.val v)
    |none=>none
   |none=>none
  |_,_,_=>none
 | .slice t x E G mx=>match mx,Lf D E,Lf D G,P.underlying t with
  |none,some E,some G,some (.slice e)=>match szT P e,D x with
   |some m, .v false [.vC ks l]=>bif Nat.beq m ks.length then
    match E,G with
    |none,none=>K (.val (.c (.vC ks l)))
    |some a,none=>cond (decide (0<=a)&&decide (a<=(l.length:Int))) (K (.val (.c (.vC ks (l.drop a.toNat))))) none
    |none,some b=>cond (decide (0<=b)&&decide (b<=(l.length:Int))) (K (.val (.c (.vC ks (l.take b.toNat))))) none
    |some a,some b=>cond (decide (0<=a)&&decide (a<=b)&&decide (b<=(l.length:Int))) (K (.val (.c (.vC ks ((l.take b.toNat).drop a.toNat))))) none
    else none
   |some m, .v false [.own id w n]=>match E,G with
    |some a,none=>bif Nat.beq m w then cond (decide (0<=a)&&decide (a<=(n:Int))) (K (.cutR id a.toNat)) none else none
    |_,_=>none
   |some _, .v false [.nilSl]=>match E,G with
    |none,none=>K (.val (.c .nilSl))
    |some a,none=>cond (decide (a=0)) (K (.val (.c .nilSl))) none
    |none,some b=>cond (decide (b=0)) (K (.val (.c .nilSl))) none
    |some a,some b=>cond (decide (a=0)&&decide (b=0)) (K (.val (.c .nilSl))) none
   |_,_=>none
  |_,_,_,_=>none
 | .extract t i=>match D t with
  | .tup ps=>match ps[i]? with
   |some (g,cs)=>K (.val (.v g cs))
   |none=>none
  |_=>none
 | .call c=>match c.callee with
  | .builtin b=>NF P b c.argTypes.toList (Da D c.args.toList) K
  | .value (.func f)=>cond (C.pure f) (K (.call f (Da D c.args.toList))) (K (.callM f (Da D c.args.toList)))
  | .value (.tmp t)=>match D (.tmp t)with
   | .v false [.clo f fs cs]=>bif Al AC.clOk fs&&Al AC.clOk cs then K (.callM f (fs.map TV.c++(Da D c.args.toList++cs.map TV.c)))else none
   |_=>none
  |_=>none
 |_=>none
def Bb (tmps:List TV):Operand->TV
 | .tmp t=>nth .vD tmps t
 | .const v=>ofValue v
 |_=> .vD
def AC.kill (id:Nat):AC->AC
 | .own j w n=>bif Nat.beq j id then .vD else .own j w n
 | .rptr j a b=>bif Nat.beq j id then .vD else .rptr j a b
 |a=>a
def TV.kill (id:Nat):TV->TV
 | .v g cs=> .v g (cs.map (AC.kill id))
 | .tup ps=> .tup (ps.map λp=>(p.1,p.2.map (AC.kill id)))
 | .vD=> .vD
def Box.kill (id:Nat) (b:Box):Box:=⟨b.ty,b.cells.map (AC.kill id)⟩
def AC.fz (id:Nat) (ks:List Kd) (l:List (List AC)):AC->AC
 | .own j w n=>bif Nat.beq j id then .vC ks l else .own j w n
 | .rptr j a b=>bif Nat.beq j id then .vD else .rptr j a b
 |a=>a
def TV.fz (id:Nat) (ks:List Kd) (l:List (List AC)):TV->TV
 | .v g cs=> .v g (cs.map (AC.fz id ks l))
 | .tup ps=> .tup (ps.map λp=>(p.1,p.2.map (AC.fz id ks l)))
 | .vD=> .vD
def Box.fz (id:Nat) (ks:List Kd) (l:List (List AC)) (b:Box):Box:=⟨b.ty,b.cells.map (AC.fz id ks l)⟩
def del {α:Type} (id:Nat):List (Nat×α)->List (Nat×α)
 |[]=>[]
 |(k,b)::l=>bif Nat.beq k id then del id l else(k,b)::del id l
def Jn:List Nat->St->(St->Option R)->Option R
 |[],s,K=>K s
 |id::l,⟨tmps,aB,aC⟩,K=>match Ac aC id with
  |some r=>AY (tmps.map (TV.fz id r.ks r.l)) λE=>AY (aB.map λp=>(p.1,p.2.fz id r.ks r.l)) λD=>AY (del id aC) λG=>Jn l ⟨E,D,G⟩ K
  |none=>Jn l ⟨tmps,aB,aC⟩ K
def AC.res (aC:List (Nat×Row)):AC->Option AC
 | .own id _ _=>match Ac aC id with
  |some r=>some (.vC r.ks r.l)
  |none=>none
 | .int k n=>some (.int k n)
 | .bool b=>some (.bool b)
 | .raw v=>some (.raw v)
 | .nilSl=>some .nilSl
 | .vC ks l=>some (.vC ks l)
 |_=>none
def F5 (aC:List (Nat×Row)):List AC->Option (List AC)
 |[]=>some []
 |a::l=>match a.res aC with
  |some D=>match F5 aC l with
   |some E=>some (D::E)
   |none=>none
  |none=>none
def TV.res (aC:List (Nat×Row)):TV->Option TV
 | .v g cs=>match F5 aC cs with
  |some l=>some (.v g l)
  |none=>none
 |_=>none
def Hk (aC:List (Nat×Row)):List TV->Option (List TV)
 |[]=>some []
 |a::l=>match a.res aC with
  |some D=>match Hk aC l with
   |some E=>some (D::E)
   |none=>none
  |none=>none
def AC.isOwn:AC->Bool
 | .own _ _ _=>true
 |_=>false
def TV.hasOwn:TV->Bool
 | .v _ cs=>cs.any AC.isOwn
 |_=>true
def AC.flat:AC->Bool
 | .int _ _| .bool _| .raw _| .nilSl=>true
 |_=>false
def TV.flat:TV->Bool
 | .v _ cs=>Al AC.flat cs
 | .tup ps=>Al (λp:Bool×List AC=>Al AC.flat p.2) ps
 | .vD=>false
def TV.plainB:TV->Bool
 | .v _ cs=>Al AC.plain cs
 | .tup ps=>Al (λp:Bool×List AC=>Al AC.plain p.2) ps
 | .vD=>false
def Prim.dr:Bool->Prim->Prim
 |false, .callM f args=>bif Al TV.plainB args then .callF f args else .callD f args
 |false, .append e ks b s x=> .appD e ks b s x
 |_,p=>p
def HI (aC:List (Nat×Row)) (ks:List Kd):AC->Option (List (List AC))
 | .nilSl=>some []
 | .vC D l=>bif Dy ks D then some l else none
 | .own id _ _=>match Ac aC id with
  |some r=>bif Dy ks r.ks then some r.l else none
  |none=>none
 |_=>none
def put (s:St) (dst:Option Tmp) (v:TV) (K:St->Option R):Option R:=
 match dst with
 |none=>K s
 |some d=>match s with
  |⟨tmps,aB,aC⟩=>AY (setL tmps d v) λl=>K ⟨l,aB,aC⟩
def AC.keys:AC->List Nat
 | .ptr k _=>[k]
 | .bsl k _=>[k]
 | .clo _ fs cs=>keysL fs++keysL cs
 |_=>[]
 where keysL:List AC->List Nat
 |[]=>[]
 | .ptr k _::l=>k::keysL l
 |_::l=>keysL l
def AC.ids:AC->List Nat
 | .own id _ _=>[id]
 |_=>[]
def cat {α β:Type} (g:α->List β):List α->List β
 |[]=>[]
 |a::l=>g a++cat g l
def TV.cellsOf:TV->List AC
 | .v _ cs=>cs
 | .tup ps=>cat (λp:Bool×List AC=>p.2) ps
 | .vD=>[]
def Q_ (n:Nat):List Nat->List Nat
 |[]=>[n]
 |m::l=>bif Nat.beq m n then m::l else m::Q_ n l
def Bd:List Nat->List Nat->List Nat
 |[],l=>l
 |n::D,l=>Bd D (Q_ n l)
def Fb (aB:List (Nat×Box)) (k:Nat):List AC:=match Ac aB k with
 |some b=>b.cells
 |none=>[]
def Z3l (aB:List (Nat×Box)) (keys:List Nat):List Nat:=Bd (cat (λk=>cat AC.keys (Fb aB k)) keys) keys
def L_ (aB:List (Nat×Box)):Nat->List Nat->List Nat
 |0,l=>l
 |n+1,l=>L_ aB n (Z3l aB l)
def OP (aB:List (Nat×Box)) (cells:List AC) (keys:List Nat):List Nat:=
 Bd (cat AC.ids cells++cat (λk=>cat AC.ids (Fb aB k)) keys) []
def pos:List Nat->Nat->Nat
 |[],_=>0
 |m::l,n=>bif Nat.beq m n then 0 else pos l n+1
def AW:List Nat->Nat->Bool
 |[],_=>false
 |m::l,n=>bif Nat.beq m n then true else AW l n
def AC.ren (rk ri:Nat->Nat):AC->AC
 | .ptr k o=> .ptr (rk k) o
 | .bsl k n=> .bsl (rk k) n
 | .own id w n=> .own (ri id) w n
 | .rptr id i s=> .rptr (ri id) i s
 | .clo f fs cs=> .clo f (renP rk fs) (renP rk cs)
 |a=>a
 where renP (rk:Nat->Nat):List AC->List AC
 |[]=>[]
 | .ptr k o::l=> .ptr (rk k) o::renP rk l
 |a::l=>a::renP rk l
def TV.ren (D ri:Nat->Nat):TV->TV
 | .v g cs=> .v g (cs.map (AC.ren D ri))
 | .tup ps=> .tup (ps.map λp=>(p.1,p.2.map (AC.ren D ri)))
 | .vD=> .vD
def AC.inK (keys ids:List Nat):AC->Bool
 | .ptr k _=>AW keys k
 | .bsl k _=>AW keys k
 | .own id _ _=>AW ids id
 | .rptr id _ _=>AW ids id
 | .clo _ fs cs=>Al (inP keys) fs&&Al (inP keys) cs
 |_=>true
 where inP (keys:List Nat):AC->Bool
 | .ptr k _=>AW keys k
 |_=>true
def TV.inK (keys ids:List Nat):TV->Bool
 | .v _ cs=>Al (AC.inK keys ids) cs
 | .tup ps=>Al (λp:Bool×List AC=>Al (AC.inK keys ids) p.2) ps
 | .vD=>true
def Ee (aB:List (Nat×Box)) (D ri:Nat->Nat):Nat->List Nat->Option (List (Nat×Box))
 |_,[]=>some []
 |b,k::ks=>match Ac aB k with
  |some x=>match Ee aB D ri (b+1) ks with
   |some l=>some ((b,⟨x.ty,x.cells.map (AC.ren D ri)⟩)::l)
   |none=>none
  |none=>none
def G0 (aC:List (Nat×Row)):Nat->List Nat->Option (List (Nat×Row))
 |_,[]=>some []
 |b,k::ks=>match Ac aC k with
  |some x=>match G0 aC (b+1) ks with
   |some l=>some ((b,x)::l)
   |none=>none
  |none=>none
def base:Nat:=20000
def BW (names fresh:List Nat) (d:Nat) (n:Nat):Nat:=
 bif Nat.ble base n&&Nat.blt (n-base) names.length then nth 0 names (n-base)else 100000+100*d+pos fresh n
def By {α:Type} (names:List Nat):List (Nat×α)->List Nat
 |[]=>[]
 |(k,_)::l=>bif Nat.ble base k&&Nat.blt (k-base) names.length then By names l else k::By names l
def Ej {α:Type}:List Nat->List (Nat×α)->List (Nat×α)
 |[],l=>l
 |k::ks,l=>Ej ks (del k l)
def Nz (D ri:Nat->Nat):List (Nat×Box)->List (Nat×Box)->List (Nat×Box)
 |[],l=>l
 |(k,b)::m,l=>Nz D ri m (ins l (D k) ⟨b.ty,b.cells.map (AC.ren D ri)⟩)
def Ku (ri:Nat->Nat):List (Nat×Row)->List (Nat×Row)->List (Nat×Row)
 |[],l=>l
 |(k,b)::m,l=>Ku ri m (ins l (ri k) b)
def C2 (keys:List Nat):List (Nat×Box)->List (Nat×Box)->List (Nat×Box)
 |[],l=>l
 |(k,b)::m,l=>C2 keys m (upd l (nth 0 keys (k-base)) b)
def Ik (ids:List Nat) (v:TV):TV:=match ids with
 |[]=>v
 |id::l=>Ik l (v.kill id)
def Ea (ids:List Nat) (b:Box):Box:=match ids with
 |[]=>b
 |id::l=>Ea l (b.kill id)
def IC {α:Type} (l:List (Nat×α)) (k:Nat):Bool:=match Ac l k with
 |some _=>false
 |none=>true
def B0:List Nat->Bool
 |[]=>true
 |k::l=>bif AW l k then false else B0 l
def ER {α:Type} (l:List (Nat×α)) (k:Nat):Bool:=match Ac l k with
 |some _=>true
 |none=>false
def H3 (d:Nat):Nat:=100000+100*d
def Bj (dst:Option Tmp) (p:Prim) (s:St) (K:TV->St->Option R):Option R:=
 match s with
 |⟨tmps,aB,aC⟩=>
 match p with
 | .val v=>K v ⟨tmps,aB,aC⟩
 | .load g sz key off=>match Ac aB key with
  |some b=>match DV g sz b.cells off with
   |some v=>K v ⟨tmps,aB,aC⟩
   |none=>none
  |none=>none
 | .store key off cs=>match Ac aB key with
  |some b=>bif Nat.ble (off+cs.length) b.cells.length then
    AY (splice b.cells off cs) λcells=>AY (upd aB key ⟨b.ty,cells⟩) λD=>K .vD ⟨tmps,D,aC⟩
   else none
  |none=>none
 | .new ty cs=>match dst with
  |some d=>match Ac aB d with
   |some _=>none
   |none=>AY (ins aB d ⟨ty,cs⟩) λD=>K (.c (.ptr d 0)) ⟨tmps,D,aC⟩
  |none=>none
 | .newS ty n cs=>match dst with
  |some d=>match Ac aB d with
   |some _=>none
   |none=>AY (ins aB d ⟨ty,cs⟩) λD=>K (.c (.bsl d n)) ⟨tmps,D,aC⟩
  |none=>none
 | .cutR id a=>match Ac aC id with
  |some r=>bif Nat.ble a r.l.length then
    AY (tmps.map (TV.kill id)) λG=>
    AY (aB.map λp=>(p.1,p.2.kill id)) λD=>
    AY (upd aC id ⟨r.ty,r.ks,r.l.drop a⟩) λE=>
    K (.c (.own id r.ks.length (r.l.drop a).length)) ⟨G,D,E⟩
   else none
  |none=>none
 | .rload g sz id idx sub=>match Ac aC id with
  |some r=>match DV g sz (r.f idx) sub with
   |some v=>K v ⟨tmps,aB,aC⟩
   |none=>none
  |none=>none
 | .rstore id idx sub cs=>match Ac aC id with
  |some r=>bif Nat.ble (sub+cs.length) r.w&&Al AC.plain cs then
    match IS r.ks (splice (r.f idx) sub cs)with
    |some c=>AY (upd aC id ⟨r.ty,r.ks,r.l.set idx c⟩) λE=>K .vD ⟨tmps,aB,E⟩
    |none=>none else none
  |none=>none
 | .newRow e ks l=>match dst with
  |some d=>match Ac aC (C.rowAs d)with
   |some _=>none
   |none=>AY (ins aC (C.rowAs d) ⟨e,ks,l⟩) λE=>K (.c (.own (C.rowAs d) ks.length l.length)) ⟨tmps,aB,E⟩
  |none=>none
 | .newView _ ks l=>K (.c (.vC ks l)) ⟨tmps,aB,aC⟩
 | .make e ks bytes n z=>match dst with
  |some d=>match Ac aC d with
   |some _=>none
   |none=>cond (decide (0<=n)&&decide (n*(bytes:Int)<=140737488355328))
     (AY (ins aC d ⟨e,ks,List.replicate n.toNat z⟩) λE=>K (.c (.own d ks.length (List.replicate n.toNat z).length)) ⟨tmps,aB,E⟩) none
  |none=>none
 | .append e ks bytes s x=>match HI aC ks x with
  |some m=>match s with
   | .nilSl=>match dst with
    |some d=>match Ac aC d with
     |some _=>none
     |none=>bif(Nat.ble 1 ks.length&&Nat.ble 1 bytes)then cond (Nat.ble (m.length*bytes) 140737488355328) (AY (ins aC d ⟨e,ks,m⟩) λE=>K (.c (.own d ks.length m.length)) ⟨tmps,aB,E⟩) none else none
    |none=>none
   | .own id _ _=>match Ac aC id with
    |some r=>bif(Dy ks r.ks&&Nat.beq r.ty e&&Nat.ble 1 bytes)then
      cond (Nat.ble ((r.l ++ m).length * bytes) 140737488355328) (
       AY (tmps.map (TV.kill id)) λG=>
       AY (aB.map λp=>(p.1,p.2.kill id)) λD=>
       AY (upd aC id ⟨e,r.ks,r.l++m⟩) λE=>
       K (.c (.own id r.ks.length (r.l++m).length)) ⟨G,D,E⟩) none
     else none
    |none=>none
   |_=>none
  |none=>none
 | .appD e ks bytes s x=>match HI aC ks x with
  |some m=>match s with
   | .own id _ _=>match Ac aC id with
    |some r=>bif(Dy ks r.ks&&Nat.beq r.ty e&&Nat.ble 1 bytes)then
      cond (Nat.ble ((r.l ++ m).length * bytes) 140737488355328) (
       AY (tmps.map (TV.kill id)) λG=>
       AY (aB.map λp=>(p.1,p.2.kill id)) λD=>
       AY (upd aC id ⟨e,r.ks,r.l++m⟩) λE=>
       K (.c (.own id r.ks.length (r.l++m).length)) ⟨G,D,E⟩) none
     else none
    |none=>none
   | .nilSl=>match dst with
    |some d=>match Ac aC d with
     |some _=>none
     | none => bif (Nat.ble 1 ks.length && Nat.ble 1 bytes) then cond (Nat.ble (m.length * bytes) 140737488355328) (
       AY (tmps.map (TV.kill d)) λG=>
       AY (aB.map λp=>(p.1,p.2.kill d)) λD=>
       AY (ins aC d ⟨e,ks,m⟩) λE=>K (.c (.own d ks.length m.length)) ⟨G,D,E⟩) none else none
    |none=>none
   |_=>none
  |none=>none
 | .call f args=>match C.spec f with
  |some g=>match Hk aC args with
   |some as=>g R as ⟨[],[]⟩ λv m=>match m with
    |⟨[],[]⟩=>bif((!(args.any TV.hasOwn)||v.flat)&&v.plainB)then K v ⟨tmps,aB,aC⟩else none
    |_=>none
   |none=>none
  |none=>none
 | .callM f args=>match C.spec f with
  |some g=>
   AY (L_ aB 4 (Bd (cat AC.keys (cat TV.cellsOf args)) [])) λkeys=>
   AY (OP aB (cat TV.cellsOf args) keys) λids=>
   bif Al (TV.inK keys ids) args&&Al (λk=>Al (AC.inK keys ids) (Fb aB k)) keys&&B0 keys&&B0 ids then
    match Ee aB (λk=>base+pos keys k) (λi=>base+pos ids i) base keys,G0 aC base ids with
    |some L,some O=>g R (args.map (TV.ren (λk=>base+pos keys k) (λi=>base+pos ids i))) ⟨L,O⟩ λv m=>match m with
     |⟨I,J⟩=>
      AY (By keys I) λN=>AY (By ids J) λM=>
      bif Al (λp:Nat×Box=>ER I p.1) L&&B0 (I.map (·.1))&&B0 (J.map (·.1))&&Al (λk=>IC aB (BW keys N (dst.getD 0) k)) N&&Al (λk=>IC aC (BW ids M (dst.getD 0) k)) M&&Nat.ble N.length 100&&Nat.ble M.length 100 then
       AY (tmps.map (Ik ids)) λG=>
       AY (Nz (BW keys N (dst.getD 0)) (BW ids M (dst.getD 0)) I ((Ej keys aB).map λp=>(p.1,Ea ids p.2))) λD=>
       AY (Ku (BW ids M (dst.getD 0)) J (Ej ids aC)) λE=>
       K (v.ren (BW keys N (dst.getD 0)) (BW ids M (dst.getD 0))) ⟨G,D,E⟩
      else none
    |_,_=>none
   else none
  |none=>none
 | .callD f args=>match C.spec f with
  |some g=>
   AY (Bd (cat AC.keys (cat TV.cellsOf args)) []) λkeys=>
   bif Al (TV.inK keys []) args&&Al (λk=>Al AC.calm (Fb aB k)) keys&&B0 keys then
    match Ee aB (λk=>base+pos keys k) (λi=>base+pos [] i) base keys with
    |some L=>g R (args.map (TV.ren (λk=>base+pos keys k) (λi=>base+pos [] i))) ⟨L,[]⟩ λv m=>match m with
     |⟨I,[]⟩=>
      bif Al (λp:Nat×Box=>ER I p.1) L&&Al (λp:Nat×Box=>ER L p.1) I&&B0 (I.map (·.1))&&Al (λp:Nat×Box=>Al AC.calm p.2.cells) I&&v.plainB then
       AY (C2 keys I aB) λD=>K v ⟨tmps,D,aC⟩
      else none
     |⟨_,_::_⟩=>none
    |none=>none
   else none
  |none=>none
 | .callF f args=>match C.spec f with
  |some g=>bif Al TV.plainB args then g R args ⟨[],[]⟩ λv m=>match m with
   |⟨[],[]⟩=>bif v.plainB then K v ⟨tmps,aB,aC⟩else none
   |⟨[],[(k,r)]⟩=>match v with
    | .v false [.own j _ _] => bif Nat.beq j k then (match Ac aC (H3 (dst.getD 0)) with
     |some _=>none
     |none=>AY (ins aC (H3 (dst.getD 0)) r) λE=>K (.c (.own (H3 (dst.getD 0)) r.ks.length r.l.length)) ⟨tmps,aB,E⟩)else none
    |_=>none
   |_=>none
   else none
  |none=>none
def Qq (ops:List Oper) (o:Oper) (s:St) (run skip:St->Option R):Option R:=
 match o.guard with
 |none=>run s
 |some (j,want)=>match ops[j]? with
  |some D=>match D.dst with
   |some t=>match nth .vD s.tmps t with
    | .v false [.bool g]=>cond g (put s (some t) (.c (.bool true)) (bif want then run else skip)) (put s (some t) (.c (.bool false)) (bif want then skip else run))
    | .tup []=>skip s
    |_=>none
   |none=>none
  |none=>none
def Nt (k o:Nat) (e:TypeId) (s:St) (K:St->Option R):Option R:=match s with
 |⟨tmps,aB,aC⟩=>match Ac aB k with
  |some b=>match nth .vD b.cells o with
   | .nilSl=>match GE P 8 e with
    |some ks=>bif Nat.ble 1 ks.length&&IC aC (1000000+1000*k+o)then
      AY (ins aC (1000000+1000*k+o) ⟨e,ks,[]⟩) λE=>AY (setL b.cells o (.own (1000000+1000*k+o) ks.length 0)) λcells=>AY (upd aB k ⟨b.ty,cells⟩) λD=>K ⟨tmps,D,E⟩
     else none
    |none=>none
   |_=>K ⟨tmps,aB,aC⟩
  |none=>K ⟨tmps,aB,aC⟩
def JH:List (Nat×Nat×TypeId)->St->(St->Option R)->Option R
 |[],s,K=>K s
 |(k,o,e)::l,s,K=>Nt P k o e s λD=>JH l D K
def El:List Kd->List AC->List AC
 | .sl ks::l, .nilSl::cs=> .vC ks []::El l cs
 |_::l,a::cs=>a::El l cs
 |_,cs=>cs
def TY (b:Box):Box:=match GE P 8 b.ty with
 |some ks=>⟨b.ty,El ks b.cells⟩
 |none=>b
def JF:List (Nat×TypeId)->St->(St->Option R)->Option R
 |[],s,K=>K s
 |(t,e)::l,⟨tmps,aB,aC⟩,K=>match nth .vD tmps t with
  | .v false [.nilSl]=>match Ac aC t,GE P 8 e with
   |none,some ks=>bif Nat.ble 1 ks.length then AY (setL tmps t (.c (.own t ks.length 0))) λD=>AY (ins aC t ⟨e,ks,[]⟩) λE=>JF l ⟨D,aB,E⟩ K else none
   |_,_=>none
  |_=>JF l ⟨tmps,aB,aC⟩ K
def IE (s:St) (K:St->Option R):Option R:=
 JH P (cat (λp:Nat×Box=>bif AW C.ownBut p.1 then []else(C.ownOff p.2.ty).map λq=>(p.1,q.1,q.2)) s.aB) s λE=>match E with
  |⟨tmps,aB,aC⟩=>AY (aB.map λp=>(p.1,TY P p.2)) λD=>JF P C.tprom ⟨tmps,D,aC⟩ K
def Z7u:TV->Bool
 | .v false [.rptr _ _ _]=>true
 |_=>false
def Z6b (C:Cfg):Operand->Bool
 | .tmp t=>AW C.cuts t
 |_=>false
def Zbo (D:Operand->TV) (o:Op):List Nat:=
 match o with
 | .slice _ x _ _ _=>bif Z6b C x then []else cat AC.ids (TV.cellsOf (D x))
 | .store _ a x=>bif C.fstore||Z7u (D a)then cat AC.ids (TV.cellsOf (D x))else []
 | .buildSlice _ _ parts=>cat AC.ids (cat TV.cellsOf (parts.toList.map λp=>D p.2))
 | .makeFunc _ a b=>cat AC.ids (cat TV.cellsOf (Da D a.toList++Da D b.toList))
 | .call c=>match c.callee with
  | .value (.func f)=>bif C.lend f then []else cat AC.ids (cat TV.cellsOf (Da D c.args.toList))
  | .value _=>cat AC.ids (cat TV.cellsOf (Da D c.args.toList))
  |_=>[]
 |_=>[]
def XA (o:Op):Bool:=match o with
 | .call c=>match c.callee with
  | .value (.func f)=> !(C.pure f)
  | .value _=>true
  |_=>false
 |_=>false
def Ja (o:Op) (s:St) (K:St->Option R):Option R:=
 Jn (Zbo C (Bb s.tmps) o) s λD=>bif XA C o then IE P C D K else K D
def Gh (pre:Bool) (ops:List Oper) (o:Oper) (s:St) (K:Option Prim->St->Option R):Option R:=
 Qq ops o s
  (λs=>(bif pre then Ja P C o.op s else λK=>K s) λs=>opK P C (Bb s.tmps) o.dst o.op λp=>Bj C o.dst (p.dr pre) s λv D=>put D o.dst v (K (some (p.dr pre))))
  (λs=>put s o.dst (.tup []) (K none))
def Prim.simple:Option Prim->Bool
 |none=>true
 |some (.val _)=>true
 |some (.load _ _ _ _)=>true
 |some (.store _ _ _)=>true
 |some (.new _ _)=>true
 |some (.newView _ _ _)=>true
 |some (.rload _ _ _ _ _)=>true
 |some (.call _ _)=>true
 |some (.callD _ _)=>true
 |some (.callF _ _)=>true
 |some (.newRow _ _ _)=>true
 |some (.appD _ _ _ _ _)=>true
 |_=>false
def AC.live:AC->Bool
 | .int _ _| .bool _| .raw _| .nilSl| .vC _ _| .ptr _ _=>true
 |_=>false
def Prim.isPtr:Option Prim->Bool
 |some (.val (.v false [.ptr _ _]))=>true
 |_=>false
def Prim.isLive:Option Prim->Bool
 |some (.val (.v _ cs))=>Al AC.live cs
 |_=>false
def Prim.still (o:Op) (p:Option Prim):Bool:=match o with
 | .move _=>Prim.isLive p
 | .nilCheck _=>Prim.isPtr p
 | .fieldAddr _ _ _=>Prim.isPtr p
 |_=>false
def Prim.isApp:Option Prim->Bool
 |some (.appD _ _ _ _ _)=>true
 |_=>false
def Prim.isMk:Option Prim->Bool
 |some (.newRow _ _ _)=>true
 |some (.callF _ _)=>true
 |_=>false
def Prim.mkStill:Option Prim->Bool
 |none=>true
 |some (.val _)=>true
 |some (.load _ _ _ _)=>true
 |some (.newView _ _ _)=>true
 |some (.call _ args)=>Al TV.plainB args
 |some (.newRow _ _ _)=>true
 |some (.callF _ _)=>true
 |_=>false
def Jb (y:Oper) (E:Option Prim) (x:Oper) (D:Option Prim):Bool:=
 bif Prim.isApp E then !(Prim.isApp D)&&y.guard.isNone&&x.guard.isNone&&Prim.still x.op D
 else bif Prim.isApp D then y.guard.isNone&&x.guard.isNone&&Prim.still y.op E
 else bif Prim.isMk E then Prim.mkStill D else bif Prim.isMk D then Prim.mkStill E else true
def Prim.meet (ro:FuncId->Bool):Option Prim->Option Prim->Bool
 |some (.load _ _ k _),some (.store k' _ _)=>Nat.beq k k'
 |some (.store k _ _),some (.load _ _ k' _)=>Nat.beq k k'
 |some (.store k _ _),some (.store k' _ _)=>Nat.beq k k'
 |some (.callD f as),some (.load _ _ k _)=> !(ro f)&&AW (Bd (cat AC.keys (cat TV.cellsOf as)) []) k
 |some (.callD _ as),some (.store k _ _)=>AW (Bd (cat AC.keys (cat TV.cellsOf as)) []) k
 |some (.load _ _ k _),some (.callD f as)=> !(ro f)&&AW (Bd (cat AC.keys (cat TV.cellsOf as)) []) k
 |some (.store k _ _),some (.callD _ as)=>AW (Bd (cat AC.keys (cat TV.cellsOf as)) []) k
 |some (.callD f _),some (.callD g _)=> !(ro f&&ro g)
 |_,_=>false
def Ue (ops:List Oper):List Oper->St->(St->Option R)->Option R
 |[],s,K=>K s
 |o::l,s,K=>Gh P C true ops o s λ_ D=>Ue ops l D K
def Tl (m:List Nat):List Edge->Nat->Nat
 |[],acc=>acc
 |e::l,acc=>Tl m l (bif Region.binds .any e then Nat.lor acc (Nat.lor (2^e.on) (nth 0 m e.on))else acc)
def Za6 {α:Type} (n:Nat) (K:Nat->α):α:=match n with
 |0=>K 0
 |n+1=>K (n+1)
def Ua:List Oper->List Nat->(List Nat->Option R)->Option R
 |[],m,K=>K m
 |o::l,m,K=>Za6 (Tl m o.after.toList 0) λx=>AY (m++[x]) λD=>Ua l D K
def Mz (m:List Nat) (i j:Nat):Bool:=Nat.testBit (nth 0 m i) j
def Zq4:Op->Bool
 | .call _=>true
 | .makeSlice _ _ _=>true
 | .buildSlice _ _ _=>true
 | .store _ _ _=>true
 | .slice _ _ _ _ _=>true
 |_=>false
def DI (ops:List Oper) (m:List Nat) (i:Nat):Bool:=match ops[i]? with
 |some o=>Zq4 o.op&&Al (λj=>Nat.beq j i||Mz m i j||Mz m j i) (List.range ops.length)
 |none=>false
def NU (ops:List Oper) (m:List Nat):List Oper->Nat->St->(List (Oper×Option Prim)->St->Option R)->Option R
 |[],_,s,K=>K [] s
 |o::l,i,s,K=>Gh P C (DI ops m i) ops o s λp D=>NU ops m l (i+1) D λrest E=>K ((o,p)::rest) E
def KA (ops:Array Oper) (m:List Nat):Nat->List (Nat×Oper×Option Prim)->List (Oper×Option Prim)->Bool
 |_,_,[]=>true
 |i,D,(o,p)::l=>
  bif(DI ops.toList m i||Prim.simple p)&&o.after.toList.all (λe=> !(Region.binds .any e)||Nat.blt e.on i)&&Al (λy:Nat×Oper×Option Prim=>Mz m i y.1||(!(DI ops.toList m i)&& !(DI ops.toList m y.1)&&(Oper.apart ops y.2.1 o&& !(Prim.meet C.ro y.2.2 p)&&Jb y.2.1 y.2.2 o p))) D then KA ops m (i+1) (D++[(i,o,p)]) l else false
def Qap (ops:Array Oper) (draw:Bool) (s:St) (K:St->Option R):Option R:=
 bif draw then Ua ops.toList [] λm=>NU P C ops.toList m ops.toList 0 s λacc D=>bif KA C ops m 0 [] acc then K D else none
 else Ue P C ops.toList ops.toList s K
def JV:List (Nat×Nat)->List AC->Bool
 |[],[]=>true
 |(k,o)::l, .ptr k' D::cs=>Nat.beq k k'&&Nat.beq o D&&JV l cs
 |_,_=>false
def K_:CS->AC->Option (List AC)
 | .any,_=>some []
 | .int k, .int k' n=>bif kEq k k' then some [.int k n]else none
 | .bool, .bool b=>some [.bool b]
 | .sl ks, .nilSl=>some [.vC ks []]
 | .sl ks, .vC D l=>bif Dy ks D then some [.vC ks l]else none
 | .rawc, .raw v=>some [.raw v]
 | .nil, .nilSl=>some []
 | .ptr k o, .ptr k' I=>bif Nat.beq k k'&&Nat.beq o I then some []else none
 | .own id w, .own id' w' _=>bif Nat.beq id id'&&Nat.beq w w' then some []else none
 | .bsl k n, .bsl k' J=>bif Nat.beq k k'&&Nat.beq n J then some []else none
 | .clo f fs cs, .clo L E G=>bif Nat.beq f L&&JV fs E&&JV cs G then some []else none
 |_,_=>none
def Hf:List CS->List AC->Option (List AC)
 |[],[]=>some []
 |c::cs,a::as=>match K_ c a with
  |some v=>match Hf cs as with
   |some D=>some (v++D)
   |none=>none
  |none=>none
 |_,_=>none
def MJ:List (Bool×List CS)->List (Bool×List AC)->Option (List AC)
 |[],[]=>some []
 | (g, cs) :: l, (D, as) :: m => bif g == D then (match Hf cs as with
  |some v=>match MJ l m with
   |some E=>some (v++E)
   |none=>none
  |none=>none)else none
 |_,_=>none
def J9:TS->TV->Option (List AC)
 | .vD,_=>some []
 | .v g cs, .v D as=>bif g==D then Hf cs as else none
 | .tup ps, .tup E=>MJ ps E
 |_,_=>none
def K8:List TS->List TV->Option (List AC)
 |[],[]=>some []
 |t::D,v::E=>match J9 t v with
  |some a=>match K8 D E with
   |some l=>some (a++l)
   |none=>none
  |none=>none
 |_,_=>none
def Km:List (Nat×TypeId×List CS)->List (Nat×Box)->Option (List AC)
 |[],_=>some []
 |(k,t,cs)::l,aB=>match Ac aB k with
  | some b => bif Nat.beq t b.ty then (match Hf cs b.cells with
   |some v=>match Km l aB with
    |some D=>some (v++D)
    |none=>none
   |none=>none)else none
  |none=>none
def J2:List (Nat×TypeId×List Kd)->List (Nat×Row)->Option (List AC)
 |[],_=>some []
 |(k,t,ks)::l,aC=>match Ac aC k with
  | some r => bif Nat.beq t r.ty && Dy ks r.ks then (match J2 l aC with
    |some D=>some (.vC ks r.l::D)
    |none=>none)else none
  |none=>none
def GM (k:Nat):Bool:=Nat.ble base k&&Nat.blt k 100000
def F6 (sk:Sk) (s:St):Option (List AC):=match s with
 | ⟨tmps, aB, aC⟩ => bif Al (λp : Nat × Box => !(GM p.1) || AW (sk.aB.map (·.1)) p.1) aB then (match J2 sk.aC aC with
  |some a=>match K8 sk.tmps tmps with
   |some b=>match Km sk.aB aB with
    |some c=>some (a++(b++c))
    |none=>none
   |none=>none
  |none=>none)else none
def Mw:List (Nat×Nat)->List AC
 |[]=>[]
 |(k,o)::l=> .ptr k o::Mw l
def EG (rl:Nat->Nat) (l:List AC):CS->Nat->AC×Nat
 | .any,i=>(.vD,i)
 | .int k,i=>(.int k (Af (nth .vD l i)),i+1)
 | .bool,i=>(.bool (CU (nth .vD l i)),i+1)
 | .sl ks,i=>(.vC ks (B_ (nth .vD l i)),i+1)
 | .rawc,i=>(Nm .raw (nth .vD l i),i+1)
 | .nil,i=>(.nilSl,i)
 | .ptr k o,i=>(.ptr k o,i)
 | .own id w,i=>(.own id w (rl id),i)
 | .clo f fs cs,i=>(.clo f (Mw fs) (Mw cs),i)
 | .bsl k n,i=>(.bsl k n,i)
def EH (rl:Nat->Nat) (l:List AC):List CS->Nat->List AC×Nat
 |[],i=>([],i)
 |c::cs,i=>match EG rl l c i with
  |(a,E)=>match EH rl l cs E with
   |(as,D)=>(a::as,D)
def HP (rl:Nat->Nat) (l:List AC):List (Bool×List CS)->Nat->List (Bool×List AC)×Nat
 |[],i=>([],i)
 |(g,cs)::ps,i=>match EH rl l cs i with
  |(as,E)=>match HP rl l ps E with
   |(G,D)=>((g,as)::G,D)
def If (rl:Nat->Nat) (l:List AC):TS->Nat->TV×Nat
 | .vD,i=>(.vD,i)
 | .v g cs,i=>match EH rl l cs i with
  |(as,D)=>(.v g as,D)
 | .tup ps,i=>match HP rl l ps i with
  |(E,D)=>(.tup E,D)
def FI (rl:Nat->Nat) (l:List AC):List TS->Nat->List TV×Nat
 |[],i=>([],i)
 |t::E,i=>match If rl l t i with
  |(v,G)=>match FI rl l E G with
   |(I,D)=>(v::I,D)
def FR (rl:Nat->Nat) (l:List AC):List (Nat×TypeId×List CS)->Nat->List (Nat×Box)
 |[],_=>[]
 |(k,t,cs)::bs,i=>match EH rl l cs i with
  |(as,D)=>(k,⟨t,as⟩)::FR rl l bs D
def Hy (l:List AC):List (Nat×TypeId×List Kd)->Nat->List (Nat×Row)×Nat
 |[],i=>([],i)
 |(k,t,ks)::rs,i=>match Hy l rs (i+1)with
  |(q,D)=>((k,⟨t,ks,B_ (nth .vD l i)⟩)::q,D)
def Em (aC:List (Nat×Row)) (id:Nat):Nat:=match Ac aC id with
 |some r=>r.l.length
 |none=>0
def BL (sk:Sk) (vars:List AC):St:=match Hy vars sk.aC 0 with
 |(aC,i)=>match FI (Em aC) vars sk.tmps i with
  |(tmps,D)=>⟨tmps,FR (Em aC) vars sk.aB D,aC⟩
def CS.okB (keys:List Nat) (aC:List (Nat×TypeId×List Kd)):CS->Bool
 | .ptr k _=>AW keys k
 | .bsl k _=>AW keys k
 | .own id w=>match Ac aC id with
  |some (_,ks)=>Nat.beq ks.length w
  |none=>false
 | .clo _ fs cs=>Al (λp:Nat×Nat=>AW keys p.1) fs&&Al (λp:Nat×Nat=>AW keys p.1) cs
 |_=>true
def TS.okB (keys:List Nat) (aC:List (Nat×TypeId×List Kd)):TS->Bool
 | .vD=>true
 | .v _ cs=>Al (CS.okB keys aC) cs
 | .tup ps=>Al (λp:Bool×List CS=>Al (CS.okB keys aC) p.2) ps
def Sk.okB (sk:Sk):Bool:=
 B0 (sk.aB.map (·.1))&&B0 (sk.aC.map (·.1))&&Al (TS.okB (sk.aB.map (·.1)) sk.aC) sk.tmps&&Al (λp:Nat×TypeId×List CS=>Al (CS.okB (sk.aB.map (·.1)) sk.aC) p.2.2) sk.aB
def Lc (d:Nat):AC->Bool
 | .ptr k _=> !(Nat.beq k d)
 |_=>true
def AC.killP (d:Nat):AC->AC
 | .ptr k o=>bif Nat.beq k d then .vD else .ptr k o
 | .bsl k n=>bif Nat.beq k d then .vD else .bsl k n
 | .clo f fs cs=>bif Al (Lc d) fs&&Al (Lc d) cs then .clo f fs cs else .vD
 |a=>a
def TV.mapC (f:AC->AC):TV->TV
 | .v g cs=> .v g (cs.map f)
 | .tup ps=> .tup (ps.map λp=>(p.1,p.2.map f))
 | .vD=> .vD
def VO:List Oper->List Nat
 |[]=>[]
 |o::l=>match o.op,o.dst with
  | .alloc _,some d=>d::VO l
  | .box _ _,some d=>d::VO l
  |_,_=>VO l
def SB:List Nat->St->(St->Option R)->Option R
 |[],s,K=>K s
 |d::l,⟨tmps,aB,aC⟩,K=>match Ac aB d with
  |none=>SB l ⟨tmps,aB,aC⟩ K
  |some _=>bif GM d then none else AY (tmps.map (TV.mapC (AC.killP d))) λE=>AY ((del d aB).map λp=>(p.1,(⟨p.2.ty,p.2.cells.map (AC.killP d)⟩:Box))) λD=>SB l ⟨E,D,aC⟩ K
def Qx (step:St->(Ex->St->Option R)->Option R):Nat->St->(Ex->St->Option R)->Option R
 |0,_,_=>none
 |n+1,s,K=>step s fun
  | .normal,D=>IE P C D λD=>Qx step n D K
  | .exit id,D=>K (.exit id) D
  | .ret,D=>K .ret D
def R7 (a:Option (Sk×Kq)) (s:St) (K:Ex->St->Option R) (run:Option R):Option R:=match a with
 |none=>run
 | some (sk, g) => bif sk.okB then (match F6 sk s with
  |some vars=>g R vars K
  |none=>none)else none
def Q7m (C:Cfg) (c:Operand):Option (Sk×Kq):=match c with
 | .tmp t=>C.conds t
 |_=>none
def Mn:Code->Option Nat
 | .region id _ _=>some id
 | .seq a b=>match Mn a with
  |some n=>some n
  |none=>Mn b
 | .cond _ a b=>match Mn a with
  |some n=>some n
  |none=>Mn b
 | .block _ b=>Mn b
 | .loop b=>Mn b
 |_=>none
def VP (body:Code):Nat:=match Mn body with
 |some n=>n
 |none=>0
def DJ (L:Nat):Code->Nat->St->(Ex->St->Option R)->Option R
 | .skip,_,s,K=>K .normal s
 | .region _ ops draw,_,s,K=>SB (VO ops.toList) s λs=>Qap P C ops draw s (K .normal)
 | .seq a b,blk,s,K=>DJ L a blk s fun
  | .normal,D=>DJ L b blk D K
  | .exit id,D=>K (.exit id) D
  | .ret,D=>K .ret D
 | .cond c x y, blk, s, K => R7 (Q7m C c) s K (match Bb s.tmps c with
  | .v false [.bool g]=>match c with
   | .tmp t=>cond g (put s (some t) (.c (.bool true)) λD=>DJ L x blk D K) (put s (some t) (.c (.bool false)) λD=>DJ L y blk D K)
   |_=>cond g (DJ L x blk s K) (DJ L y blk s K)
  |_=>none)
 | .block id body,_,s,K=>R7 (C.blocks id) s K (DJ L body id s fun
  | .normal,D=>K .normal D
  | .exit i,D=>bif Nat.beq i id then K .normal D else K (.exit i) D
  | .ret,D=>K .ret D)
 | .loop body,blk,s,K=>JF P (C.prom (VP body)) s λD=>
   IE P C D λD=>R7 (C.loops (VP body)) D K (Qx P C (λs K=>DJ L body blk s K) L D K)
 | .exit id,_,s,K=>K (.exit id) s
 | .ret,_,s,K=>K .ret s
 | .scope b,blk,s,K=>DJ L b blk s K
 | .label _,_,s,K=>K .normal s
 |_,_,_,_=>none
def V5:Ex->Ex->Bool
 | .normal, .normal=>true
 | .exit i, .exit j=>Nat.beq i j
 | .ret, .ret=>true
 |_,_=>false
def Hx:List (Ex×Sk)->Nat->Ex->St->Option (Nat×List AC)
 |[],_,_,_=>none
 | (e, sk) :: l, i, D, s => bif V5 e D && sk.okB then (match F6 sk s with
  |some vars=>some (i,vars)
  |none=>none)else Hx l (i+1) D s
def Qi (o:List AC) (K:Ex->St->Option R):List (Ex×Sk)->Nat->Nat->Option R
 |[],_,_=>none
 |(e,sk)::l,i,n=>bif Nat.beq n i then K e (BL sk o)else Qi o K l (i+1) n
def gOf (D:List (Ex×Sk)) (m:List AC->Option (Nat×List AC)):Kq:=λ_ vars K=>(m vars).bind λo=>Qi o.2 K D 1 o.1
def A9 (L blk:Nat) (body:Code) (sk:Sk) (D:List (Ex×Sk)) (vars:List AC):Option (Nat×List AC):=
 DJ P C L body blk (BL sk vars) λe E=>match e with
  | .normal=>IE P C E λE=>match F6 sk E with
   |some vars=>some (0,vars)
   |none=>none
  | .exit i=>Hx D 1 (.exit i) E
  | .ret=>Hx D 1 .ret E
def C_ (step:List AC->Option (Nat×List AC)):Nat->List AC->Option (Nat×List AC)
 |0,_=>none
 |n+1,vars=>(step vars).bind λo=>if o.1=0 then C_ step n o.2 else some o
def Q8n (L id:Nat) (body:Code) (sk:Sk) (D:List (Ex×Sk)) (vars:List AC):Option (Nat×List AC):=
 DJ P C L body id (BL sk vars) fun
  | .normal,E=>Hx D 1 .normal E
  | .exit i,E=>bif Nat.beq i id then Hx D 1 .normal E else Hx D 1 (.exit i) E
  | .ret,E=>Hx D 1 .ret E
def Qo6 (s:St):ResultVar->Option TV
 | .tmp t=>match nth .vD s.tmps t with
  | .v g cs=>some (.v g cs)
  |_=>none
 | .cell a t=>match nth .vD s.tmps a,CX P t,szT P t with
  | .v false [.ptr key off],some g,some sz=>match Ac s.aB key with
   |some b=>DV g sz b.cells off
   |none=>none
  |_,_,_=>none
def LN (s:St):List ResultVar->Option (List (Bool×List AC))
 |[]=>some []
 |r::l=>match Qo6 P s r with
  |some (.v g cs)=>match LN s l with
   |some ps=>some ((g,cs)::ps)
   |none=>none
  |_=>none
def Ii:List TypeId->List (Bool×List AC)->List (Bool×List AC)
 | t :: D, (g, cs) :: l => (g, match GE P 8 t with
  |some ks=>El ks cs
  |none=>cs)::Ii D l
 |_,l=>l
def LD:List (Bool×List AC)->TV
 |[(g,cs)]=> .v g cs
 |ps=> .tup ps
def Sf (I:Func) (D:List Nat) (s:St) (K:TV->Mem->Option R):Option R:=
 match LN P s I.results.toList with
 |none=>none
 |some ps=>(bif C.ownRes then λK=>K s else Jn (cat (λp:Bool×List AC=>cat AC.ids p.2) ps) s) λs1=>IE P C s1 λs1=>
  match LN P s1 I.results.toList with
  |none=>none
  |some ps=>match s1 with
   |⟨_,aB,aC⟩=>
    AY (Ii P I.resultTypes.toList ps) λps=>
    AY (L_ aB 4 (Bd (cat (λp:Bool×List AC=>cat AC.keys p.2) ps) D)) λkeys=>
    AY (OP aB (cat (λp:Bool×List AC=>p.2) ps) keys) λids=>
    AY (aB.filter λp=>AW keys p.1) λE=>
    AY (aC.filter λp=>AW ids p.1) λG=>
    bif Al (λp:Bool×List AC=>Al (AC.inK keys ids) p.2) ps&&Al (λp:Nat×Box=>Al (AC.inK keys ids) p.2.cells) E&&Al (ER aB) D&&Al (AW keys) D then K (LD ps) ⟨E,G⟩else none
def Fv (L:Nat) (f:FuncId) (args:List TV) (mem:Mem) (K:TV->Mem->Option R):Option R:=
 match P.funcs.toList[f]? with
 |some D=>match D.body with
  |some c=>bif Al (λp:Nat×Box=>GM p.1) mem.aB then
    AY (args++List.replicate (D.ntmps-args.length) TV.vD) λtmps=>
     DJ P C L c 0 ⟨tmps,mem.aB,mem.aC⟩ λe s=>match e with
      | .normal=>Sf P C D (mem.aB.map (·.1)) s K
      | .ret=>Sf P C D (mem.aB.map (·.1)) s K
      | .exit _=>none
   else none
  |none=>none
 |none=>none
def AX:Code->Nat->List (Nat×Code)
 | .seq a b,blk=>AX a blk++AX b blk
 | .cond _ a b,blk=>AX a blk++AX b blk
 | .block _ b,blk=>AX b blk
 | .loop b,blk=>(VP b,b)::AX b blk
 | .scope b,blk=>AX b blk
 |_,_=>[]
def Bh:Code->List (Nat×Code)
 | .seq a b=>Bh a++Bh b
 | .cond _ a b=>Bh a++Bh b
 | .block id b=>(id,b)::Bh b
 | .loop b=>Bh b
 | .scope b=>Bh b
 |_=>[]
def Br:Code->Nat->List (Nat×Nat×Code×Code)
 | .seq a b,blk=>Br a blk++Br b blk
 | .cond (.tmp t) a b,blk=>(t,0,a,b)::(Br a blk++Br b blk)
 | .cond _ a b,blk=>Br a blk++Br b blk
 | .block _ b,blk=>Br b blk
 | .loop b,blk=>Br b blk
 | .scope b,blk=>Br b blk
 |_,_=>[]
def KV (f:FuncId):Option Code:=
 match P.funcs.toList[f]? with
 |some D=>D.body
 |none=>none
def IX (f:FuncId):List (Nat×Code):=match KV P f with
 |some c=>AX c 0
 |none=>[]
def KK (f:FuncId):List (Nat×Code):=match KV P f with
 |some c=>Bh c
 |none=>[]
def SJ (f:FuncId):List (Nat×Nat×Code×Code):=match KV P f with
 |some c=>Br c 0
 |none=>[]
def Ao (L:Nat) (f:FuncId) (sig D:Sk) (vars:List AC):Option (List AC):=match BL sig vars with
 |⟨args,aB,aC⟩=>Fv P C L f args ⟨aB,aC⟩ λv m=>match m with
  |⟨b,r⟩=>F6 D ⟨[v],b,r⟩
end prog
def Ad (sig D:Sk) (m:List AC->Option (List AC)):Spec:=λR args mem K=>match mem with
 | ⟨aB, aC⟩ => bif Al (λp : Nat × Box => GM p.1) aB then (match F6 sig ⟨args, aB, aC⟩ with
  |some vars=>(m vars).bind λo=>match BL D o with
   |⟨tm,b,r⟩=>match tm with
    |[v]=>K v ⟨b,r⟩
    |_=>none
  |none=>none)else none
def WO:CS->AC->Bool
 | .int k, .int k' _=>kEq k k'
 | .bool, .bool _=>true
 | .sl ks, .vC D _=>Dy ks D
 | .ptr k o, .ptr k' E=>Nat.beq k k'&&Nat.beq o E
 |_,_=>false
def PF:List CS->List AC->Bool
 |[],[]=>true
 |c::cs,a::as=>WO c a&&PF cs as
 |_,_=>false
def H1:List (Nat×TypeId×List CS)->List (Nat×Box)->Bool
 |[],[]=>true
 |(k,t,cs)::l,(k',b)::m=>Nat.beq k k'&&(Nat.beq t b.ty&&(PF cs b.cells&&H1 l m))
 |_,_=>false
def E8 (sig D:Sk) (m:List AC->Option (List AC)):Spec:=λR args mem K=>match mem with
 | ⟨aB, aC⟩ => bif Al (λp : Nat × Box => GM p.1) aB && (H1 sig.aB aB && (aC.isEmpty && (sig.aC.isEmpty && B0 (sig.aB.map (·.1))))) then (match F6 sig ⟨args, aB, aC⟩ with
  |some vars=>(m vars).bind λo=>match BL D o with
   |⟨tm,[],[]⟩=>match tm with
    |[v]=>K v ⟨aB,aC⟩
    |_=>none
   |_=>none
  |none=>none)else none
def Mh (P:Program) (C:Cfg) (L:Nat) (f:FuncId) (sig D:Sk) (vars:List AC):Option (List AC):=match BL sig vars with
 |⟨args,aB,aC⟩=>Fv P C L f args ⟨aB,aC⟩ λv _=>F6 D ⟨[v],[],[]⟩
def A8 (P:Program) (f blk:Nat):Code:=match Ac (IX P f) blk with
 |some c=>c
 |none=> .skip
def Qa6 (P:Program) (f id:Nat):Code:=match Ac (KK P f) id with
 |some c=>c
 |none=> .skip
def Cfg.loop (C:Cfg) (blk:Nat) (sk:Sk) (D:List (Ex×Sk)) (m:List AC->Option (Nat×List AC)):Cfg:=
 {C with loops:=λb=>bif Nat.beq b blk then some (sk,gOf D m)else C.loops b}
def Cfg.block (C:Cfg) (id:Nat) (sk:Sk) (D:List (Ex×Sk)) (m:List AC->Option (Nat×List AC)):Cfg:=
 {C with blocks:=λb=>bif Nat.beq b id then some (sk,gOf D m)else C.blocks b}
open Go.RowKit
theorem Rl {a b c d:Prop} (h:a\/b) (f:a->c) (g:b->d):c\/d:=by
 rcases h with h|h
 ·exact .inl (f h)
 ·exact .inr (g h)
mutual
def CP (im:Nat->Prop) (w:World):AC->Value->Prop
 | .int k n,x=>x= .int k n
 | .bool b,x=>x= .bool b
 | .raw v,x=>x=v/\v.oneCell'=true
 | .nilSl,x=>x= .slice none 0 0
 | .vC ks l,x=>∃D cap,x= .slice D l.length cap/\l.length<=cap/\(∀c∈l,AV ks c=c)/\(l=[]\/∃b o,D=some ⟨b,o,none⟩/\im b/\CPss im w ks.length l b o)
 | .vD,_=>False
 | .ptr _ _,_=>False
 | .own _ _ _,_=>False
 | .rptr _ _ _,_=>False
 | .vptr _ _,_=>False
 | .clo _ _ _,_=>False
 | .bsl _ _,_=>False
def CPs (im:Nat->Prop) (w:World):List AC->Nat->Nat->Prop
 |[],_,_=>True
 |c::cs,b,o=>(∃y,w.cell? ⟨b,o,none⟩=some y/\CP im w c y)/\CPs im w cs b (o+1)
def CPss (im:Nat->Prop) (w:World) (wd:Nat):List (List AC)->Nat->Nat->Prop
 |[],_,_=>True
 |c::cs,b,o=>(c.length=wd/\CPs im w c b o)/\CPss im w wd cs b (o+wd)
end
theorem Q50:∀(ks:List Kd) (cs:List AC) (j:Nat),(Fh ks cs j).length=ks.length
 |[],_,_=>rfl
 |_::ks,cs,j=>by simp[Fh,Q50 ks cs (j+1)]
theorem Rq (ks:List Kd) (cs:List AC):(AV ks cs).length=ks.length:=Q50 ks cs 0
theorem Qb0 {im:Nat->Prop} {w:World} {wd:Nat}:∀{l:List (List AC)} {b o:Nat},CPss im w wd l b o->∀i (D:i<l.length),(l[i]).length=wd/\CPs im w l[i] b (o+i*wd)
 |[],_,_,_,i,D=>by simp at D
 |c::l,b,o,h,0,_=>by rw[CPss]at h;rw[jd,kt];exact h.1
 |c::l,b,o,h,i+1,D=>by
  rw[CPss]at h;have:=Qb0 h.2 i (by simpa using D);simp only[jy];rw[dh,gy,ku (i*wd) wd,<-dm];exact this
theorem TU {im:Nat->Prop} {w:World} {wd:Nat}:∀{l:List (List AC)} {b o:Nat},(∀i (D:i<l.length),(l[i]).length=wd/\CPs im w l[i] b (o+i*wd))->CPss im w wd l b o
 |[],_,_,_=>by simp[CPss]
 |c::l,b,o,h=>by
  rw[CPss];refine⟨by have:=h 0 (by simp);rw[jd,kt]at this;exact this,TU λi D=> ?_⟩;have:=h (i+1) (by simpa using D);simp only[jy]at this;rw[dh,gy,ku (i*wd) wd,<-dm]at this;exact this
def E9 (w:World) (e:TypeId) (size:Nat) (v:Value) (n:Nat) (xs:List Value):Prop:=
 xs.length = n * size /\ ((v = .slice none 0 0 /\ n = 0) \/
  ∃g o cap cur,v= .slice (some ⟨g,o,none⟩) n cap/\w.heap[g]? =some (.cells cur e (0,0))/\n<=cap/\cap<=maxLen/\o+cap*size<=cur.size/\(cur.toList.drop o).take (n*size)=xs)
theorem Yn (w:World) (e:TypeId) (size:Nat):E9 w e size (.slice none 0 0) 0 []:=⟨by simp, .inl ⟨rfl,rfl⟩⟩
theorem Zfg {w:World} {base:Nat} {e:TypeId} {size:Nat} {v:Value} {n:Nat} {xs:List Value} (h:w.ownsRow base e size v n xs):E9 w e size v n xs:=by
 refine⟨h.1,?_⟩;rcases h.2 with h|⟨g,cap,cur,D,_,E,G,I,L,J⟩
 ·exact .inl h
 ·exact .inr ⟨g,0,cap,cur,D,E,G,I,by omega,by simpa using J⟩
theorem Q5w {w:World} {e:TypeId} {size:Nat} {v:Value} {n:Nat} {xs:List Value} (h:E9 w e size v n xs):∀k,v.ownBlock=some k->k<w.heap.size:=by
 intro k D;rcases h.2 with⟨rfl,_⟩|⟨g,o,cap,cur,rfl,E,_⟩
 ·simp[Value.ownBlock]at D
 ·simp[Value.ownBlock]at D;subst D;exact(dt.1 E).1
theorem NN {w w':World} {e:TypeId} {size n:Nat} {v:Value} {xs:List Value} (h:E9 w e size v n xs) (hb:∀g,v.ownBlock=some g->w'.heap[g]? =w.heap[g]?):E9 w' e size v n xs:=by
 refine⟨h.1,?_⟩;rcases h.2 with D|⟨g,o,cap,cur,rfl,E,G⟩
 ·exact .inl D
 ·exact .inr ⟨g,o,cap,cur,rfl,by rw[hb g rfl];exact E,G⟩
def Ib:Value->Nat
 | .slice (some a) _ _=>a.off
 |_=>0
theorem Rt {w:World} {e:TypeId} {size:Nat} {v:Value} {n:Nat} {xs:List Value} (h:E9 w e size v n xs) {g:Nat} (E:v.ownBlock=some g):∀j u,xs[j]? =some u->w.cell? ⟨g,Ib v+j,none⟩=some u:=by
 intro j u D;rcases h.2 with⟨rfl,rfl⟩|⟨J,o,cap,cur,rfl,G,L,M,N,I⟩
 ·simp[Value.ownBlock]at E
 ·simp[Value.ownBlock]at E;subst E;rw[<-I,fq]at D;split at D
  ·rw[dy]at D;simp[World.cell?,G,Ib];simpa using D
  ·simp at D
structure Env where
 bx:Nat->Nat
 rv:Nat->Value
 wd:Nat->Nat
 im:Nat->Prop
def CCc (ρ:Env) (w:World):AC->Value->Prop
 | .ptr key off,x=>x= .pointer (some ⟨ρ.bx key,off,none⟩)
 |a,x=>CP ρ.im w a x
def CLc (ρ:Env) (w:World):List AC->List Value->Prop
 |[],[]=>True
 |a::l,x::xs=>CCc ρ w a x/\CLc ρ w l xs
 |_,_=>False
def CC (ρ:Env) (w:World):AC->Value->Prop
 | .vD,x=>x.oneCell'=true
 | .ptr key off,x=>x= .pointer (some ⟨ρ.bx key,off,none⟩)
 | .own id wd n,x=>x=ρ.rv id/\ρ.wd id=wd/\((x= .slice none 0 0/\n=0)\/∃g o c,x= .slice (some ⟨g,o,none⟩) n c)
 | .rptr id idx sub,x=>∃g,(ρ.rv id).ownBlock=some g/\x= .pointer (some ⟨g,Ib (ρ.rv id)+(idx*ρ.wd id+sub),none⟩)
 | .vptr cs sub,x=>∃b o,x= .pointer (some ⟨b,o+sub,none⟩)/\ρ.im b/\CPs ρ.im w cs b o
 | .clo f fs cs,x=>∃xs D:Array Value,x= .func (.func f) xs D/\CLc ρ w fs xs.toList/\CLc ρ w cs D.toList
 | .bsl key n,x=>x= .slice (some ⟨ρ.bx key,0,none⟩) n n
 |a,x=>CP ρ.im w a x
def CL (R:AC->Value->Prop):List AC->List Value->Prop
 |[],[]=>True
 |a::l,x::xs=>R a x/\CL R l xs
 |_,_=>False
def TP (ρ:Env) (w:World):List (Bool×List AC)->List Value->Prop
 |[],[]=>True
 | (g, cs) :: l, x :: xs => (match g with
   |true=>∃D:Array Value,x= .agg D/\CL (CC ρ w) cs D.toList
   |false=>∃a,cs=[a]/\CC ρ w a x)/\TP ρ w l xs
 |_,_=>False
def TVR (ρ:Env) (w:World):TV->Value->Prop
 | .vD,_=>True
 | .v true cs,x=>∃D:Array Value,x= .agg D/\CL (CC ρ w) cs D.toList
 | .v false cs,x=>∃a,cs=[a]/\CC ρ w a x
 | .tup ps,x=>∃D:Array Value,x= .tuple D/\TP ρ w ps D.toList
theorem CL.length {R:AC->Value->Prop}:∀{l:List AC} {xs:List Value},CL R l xs->l.length=xs.length
 |[],[],_=>rfl
 |_::l,_::xs,h=>by simp[CL.length h.2]
 |[],_::_,h=>h.elim
 |_::_,[],h=>h.elim
theorem CL.mono {R R':AC->Value->Prop}:∀{l:List AC} {xs:List Value},(∀a∈l,∀x,R a x->R' a x)->CL R l xs->CL R' l xs
 |[],[],_,_=>trivial
 |a::l,x::xs,h,D=>⟨h a (by simp) x D.1,CL.mono (λb hb=>h b (by simp[hb])) D.2⟩
 |[],_::_,_,h=>h.elim
 |_::_,[],_,h=>h.elim
theorem CL.get {R:AC->Value->Prop}:∀{l:List AC} {xs:List Value} {i:Nat} {a:AC},CL R l xs->l[i]? =some a->∃x,xs[i]? =some x/\R a x
 |[],[],i,_,_,h=>by simp at h
 |a::l,x::xs,0,b,D,h=>by simp at h;subst h;exact⟨x,rfl,D.1⟩
 |a::l,x::xs,i+1,b,D,h=>by simpa using CL.get D.2 (by simpa using h)
 |[],_::_,_,_,h,_=>h.elim
 |_::_,[],_,_,h,_=>h.elim
theorem CL.drop {R:AC->Value->Prop}:∀(n:Nat) {l:List AC} {xs:List Value},CL R l xs->CL R (l.drop n) (xs.drop n)
 |0,_,_,h=>h
 |_+1,[],[],_=>trivial
 |n+1,_::_,_::_,h=>CL.drop n h.2
 |_+1,[],_::_,h=>h.elim
 |_+1,_::_,[],h=>h.elim
theorem CL.take {R:AC->Value->Prop}:∀(n:Nat) {l:List AC} {xs:List Value},CL R l xs->CL R (l.take n) (xs.take n)
 |0,_,_,_=>by simp[CL]
 |_+1,[],[],_=>trivial
 |n+1,_::_,_::_,h=>⟨h.1,CL.take n h.2⟩
 |_+1,[],_::_,h=>h.elim
 |_+1,_::_,[],h=>h.elim
theorem CL.cut {R:AC->Value->Prop} {l:List AC} {xs:List Value} (o m:Nat) (h:CL R l xs):CL R (cut l o m) (cut xs o m):=CL.take m (CL.drop o h)
theorem CL.append {R:AC->Value->Prop}:∀{l E:List AC} {xs D:List Value},CL R l xs->CL R E D->CL R (l++E) (xs++D)
 |[],_,[],_,_,h=>h
 |_::_,_,_::_,_,h,h'=>⟨h.1,CL.append h.2 h'⟩
 |[],_,_::_,_,h,_=>h.elim
 |_::_,_,[],_,h,_=>h.elim
theorem CL.splice {R:AC->Value->Prop}:∀{l:List AC} {xs:List Value} (o:Nat) {D:List AC} {E:List Value},CL R l xs->CL R D E->CL R (splice l o D) (splice xs o E)
 |l,xs,o,[],[],h,_=>by cases l<;>cases xs<;>simpa [Bm.splice]using h
 |[],[],o,_::_,_::_,_,_=>by simp[Bm.splice,CL]
 |a::l,x::xs,0,v::D,y::E,h,h'=>by simp only[Bm.splice];exact⟨h'.1,CL.splice 0 h.2 h'.2⟩
 |a::l,x::xs,o+1,v::D,y::E,h,h'=>by simp only[Bm.splice];exact⟨h.1,CL.splice o h.2 h'⟩
 |[],_::_,_,_,_,h,_=>h.elim
 |_::_,[],_,_,_,h,_=>h.elim
 |_,_,_,[],_::_,_,h=>h.elim
 |_,_,_,_::_,[],_,h=>h.elim
mutual
theorem CP.mono {im D:Nat->Prop} {w w':World} (E:∀b,im b->D b) (hb:∀b,im b->w'.heap[b]? =w.heap[b]?):∀(a:AC) (x:Value),CP im w a x->CP D w' a x
 | .int k n,x,h=>by simpa [CP]using h
 | .bool b,x,h=>by simpa [CP]using h
 | .raw v,x,h=>by simpa [CP]using h
 | .nilSl,x,h=>by simpa [CP]using h
 | .vC ks l,x,h=>by
  rw[CP]at h⊢;obtain⟨I,cap,J,hle,L,hf⟩:=h;refine⟨I,cap,J,hle,L,?_⟩;rcases hf with hf|⟨b,o,M,G,N⟩
  ·exact .inl hf
  ·exact .inr ⟨b,o,M,E b G,CPss.mono E hb _ l b o G N⟩
 | .vD,x,h=>by simp[CP]at h
 | .ptr _ _,x,h=>by simp[CP]at h
 | .own _ _ _,x,h=>by simp[CP]at h
 | .rptr _ _ _,x,h=>by simp[CP]at h
 | .vptr _ _,x,h=>by simp[CP]at h
 | .clo _ _ _,x,h=>by simp[CP]at h
 | .bsl _ _,x,h=>by simp[CP]at h
theorem CPs.mono {im D:Nat->Prop} {w w':World} (G:∀b,im b->D b) (hb:∀b,im b->w'.heap[b]? =w.heap[b]?):∀(cs:List AC) (b o:Nat),im b->CPs im w cs b o->CPs D w' cs b o
 |[],_,_,_,_=>by simp[CPs]
 |c::cs,b,o,E,h=>by
  rw[CPs]at h⊢;obtain⟨⟨y,I,J⟩,L⟩:=h;exact⟨⟨y,(World.cell?_of_block (w:=w) (a:=⟨b,o,none⟩) (hb b E)).trans I,CP.mono G hb c y J⟩,CPs.mono G hb cs b _ E L⟩
theorem CPss.mono {im D:Nat->Prop} {w w':World} (G:∀b,im b->D b) (hb:∀b,im b->w'.heap[b]? =w.heap[b]?) (wd:Nat):∀(l:List (List AC)) (b o:Nat),im b->CPss im w wd l b o->CPss D w' wd l b o
 |[],_,_,_,_=>by simp[CPss]
 |c::cs,b,o,E,h=>by
  rw[CPss]at h⊢;exact⟨⟨h.1.1,CPs.mono G hb c b o E h.1.2⟩,CPss.mono G hb wd cs b _ E h.2⟩
end
def AC.agreeP (ρ D:Env):AC->Prop
 | .ptr key _=>D.bx key=ρ.bx key
 |_=>True
def AC.agree (ρ D:Env):AC->Prop
 | .ptr key _=>D.bx key=ρ.bx key
 | .bsl key _=>D.bx key=ρ.bx key
 | .own id _ _=>D.rv id=ρ.rv id/\D.wd id=ρ.wd id
 | .rptr id _ _=>D.rv id=ρ.rv id/\D.wd id=ρ.wd id
 | .clo _ fs cs=>(∀a∈fs,AC.agreeP ρ D a)/\∀a∈cs,AC.agreeP ρ D a
 |_=>True
theorem CLc.mono {ρ ρ':Env} {w w':World} (D:∀b,ρ.im b->ρ'.im b) (hb:∀b,ρ.im b->w'.heap[b]? =w.heap[b]?):∀(l:List AC) (xs:List Value),(∀a∈l,a.agreeP ρ ρ')->CLc ρ w l xs->CLc ρ' w' l xs
 |[],[],_,_=>trivial
 |a::l,x::xs,E,h=>by
  refine⟨?_,CLc.mono D hb l xs (λb hb=>E b (by simp[hb])) h.2⟩;have I:=E a (by simp);have G:=h.1;cases a<;>first
   |exact CP.mono D hb _ _ G
   |(simp only[CCc,AC.agreeP]at*;rw[I];exact G)
 |[],_::_,_,h=>h.elim
 |_::_,[],_,h=>h.elim
theorem CC.mono {ρ ρ':Env} {w w':World} (D:∀b,ρ.im b->ρ'.im b) (hb:∀b,ρ.im b->w'.heap[b]? =w.heap[b]?) (a:AC) (x:Value) (E:a.agree ρ ρ') (h:CC ρ w a x):CC ρ' w' a x:=by
 cases a with
 |vD=>exact h
 |ptr key off=>simp only[CC,AC.agree]at*;rw[E];exact h
 |bsl key n=>simp only[CC,AC.agree]at*;rw[E];exact h
 |own id w n=>simp only[CC,AC.agree]at*;rw[E.1,E.2];exact h
 |rptr id idx sub=>simp only[CC,AC.agree]at*;rw[E.1,E.2];exact h
 |vptr cs sub=>
  simp only[CC]at*;obtain⟨b,o,I,G,J⟩:=h;exact⟨b,o,I,D b G,CPs.mono D hb cs b o G J⟩
 |clo f fs cs=>
  simp only[CC,AC.agree]at*;obtain⟨xs,L,I,G,J⟩:=h;exact⟨xs,L,I,CLc.mono D hb fs _ E.1 G,CLc.mono D hb cs _ E.2 J⟩
 |int k n=>exact CP.mono D hb _ _ h
 |bool b=>exact CP.mono D hb _ _ h
 |raw v=>exact CP.mono D hb _ _ h
 |nilSl=>exact CP.mono D hb _ _ h
 |vC ks l=>exact CP.mono D hb _ _ h
theorem Kc {ρ:Env} {w:World} {a:AC} {x:Value} (h:CP ρ.im w a x):CC ρ w a x:=by
 cases a<;>first|exact h|(simp[CP]at h)
theorem Z0j {ρ:Env} {w:World} {a:AC} {x:Value} (D:a.plain=true) (h:CC ρ w a x):CP ρ.im w a x:=by
 cases a<;>first|exact h|(simp[AC.plain]at D)
theorem CP.one {im:Nat->Prop} {w:World} {a:AC} {x:Value} (h:CP im w a x):x.oneCell'=true:=by
 cases a<;>simp only[CP]at h
 case int=>subst h;rfl
 case bool=>subst h;rfl
 case raw=>rw[h.1];exact h.2
 case nilSl=>subst h;rfl
 case vC=>obtain⟨_,_,rfl,_⟩:=h;rfl
theorem CC.one {ρ:Env} {w:World} {a:AC} {x:Value} (h:CC ρ w a x):x.oneCell'=true:=by
 cases a with
 |vD=>exact h
 |ptr=>simp only[CC]at h;subst h;rfl
 |bsl=>simp only[CC]at h;subst h;rfl
 |own=>obtain⟨_,_,⟨rfl,_⟩|⟨_,_,_,rfl⟩⟩:=h<;>rfl
 |rptr=>obtain⟨_,_,rfl⟩:=h;rfl
 |vptr=>obtain⟨_,_,rfl,_⟩:=h;rfl
 |clo=>obtain⟨_,_,rfl,_⟩:=h;rfl
 |int=>exact CP.one h
 |bool=>exact CP.one h
 |raw=>exact CP.one h
 |nilSl=>exact CP.one h
 |vC=>exact CP.one h
theorem AD {α:Type} {p:α->Bool}:∀{l:List α},Al p l=true↔∀x∈l,p x=true
 |[]=>by simp[Al]
 |x::l=>by
  simp only[Al,ao,jn,<-AD (l:=l)];cases p x<;>simp
theorem Bo {α R:Type}:∀(l:List α) (K:List α->Option R),AY l K=K l
 |[],_=>rfl
 |x::xs,K=>by rw[AY,Bo xs]
theorem B5 {α:Type} (d:α):∀(l:List α) (n:Nat),nth d l n=l.getD n d
 |[],_=>by simp[nth]
 |_::_,0=>by simp[nth]
 |_::xs,n+1=>by simp only[nth,B5 d xs n];simp
theorem Jj {α:Type}:∀(l:List α) (n:Nat) (v:α),setL l n v=l.set n v
 |[],_,_=>by simp[setL]
 |_::_,0,_=>by simp[setL]
 |x::xs,n+1,v=>by simp[setL,Jj xs n v]
section tables
variable {α:Type}
theorem Fm:∀(l:List (Nat×α)) (k:Nat) (x y:α),Ac l k=some y->Ac (upd l k x) k=some x
 |[],_,_,_,h=>by simp[Ac]at h
 |(k',b)::l,k,x,y,h=>by
  simp only[Ac,upd]at*;cases D:Nat.beq k' k
  ·simp only[D,aq,Ac]at*;exact Fm l k x y h
  ·simp[Ac,af D]
theorem DG:∀(l:List (Nat×α)) (k j:Nat) (x:α),j≠k->Ac (upd l k x) j=Ac l j
 |[],_,_,_,_=>rfl
 |(k',b)::l,k,j,x,h=>by
  simp only[Ac,upd];cases E:Nat.beq k' k
  ·simp only[aq,Ac,DG l k j x h]
  ·have e:=af E;subst e;have D:Nat.beq k' j=false:=by
    cases hb:Nat.beq k' j
    ·rfl
    ·exact absurd (af hb).symm h
   simp[Ac,D]
theorem Fy:∀(l:List (Nat×α)) (k:Nat) (x:α),Ac l k=none->Ac (ins l k x) k=some x
 |[],k,x,_=>by simp[Ac,ins]
 |(k',b)::l,k,x,h=>by
  simp only[Ac,ins]at*;cases D:Nat.beq k' k
  ·simp only[D,aq]at h;cases hb:Nat.blt k k'
   ·simp only[aq,Ac,D];exact Fy l k x h
   ·simp[Ac]
  ·simp[D]at h
theorem Eb:∀(l:List (Nat×α)) (k j:Nat) (x:α),j≠k->Ac (ins l k x) j=Ac l j
 |[],k,j,x,h=>by
  have D:Nat.beq k j=false:=by
   cases hb:Nat.beq k j
   ·rfl
   ·exact absurd (af hb).symm h
  simp[Ac,ins,D]
 |(k',b)::l,k,j,x,h=>by
  have D:Nat.beq k j=false:=by
   cases hb:Nat.beq k j
   ·rfl
   ·exact absurd (af hb).symm h
  simp only[Ac,ins];cases hb:Nat.blt k k'
  ·simp only[aq,Ac,Eb l k j x h]
  ·simp[Ac,D]
theorem UT:∀(l:List (Nat×α)) (k:Nat),Ac (del k l) k=none
 |[],k=>by simp[Ac,del]
 |(k',b)::l,k=>by
  simp only[del];cases D:Nat.beq k' k
  ·simp only[aq,Ac,D,UT l k]
  ·simp only[ai];exact UT l k
theorem Mr:∀(l:List (Nat×α)) (k j:Nat),j≠k->Ac (del k l) j=Ac l j
 |[],_,_,_=>by simp[Ac,del]
 |(k',b)::l,k,j,h=>by
  simp only[del];cases E:Nat.beq k' k
  ·simp only[aq,Ac,Mr l k j h]
  ·have e:=af E;subst e;have D:Nat.beq k' j=false:=by
    cases hb:Nat.beq k' j
    ·rfl
    ·exact absurd (af hb).symm h
   simp only[ai,Ac,D,aq];exact Mr l k' j h
theorem Nf {l:List (Nat×α)} {k j:Nat} {x:α} (h:Ac (del k l) j=some x):j≠k/\Ac l j=some x:=by
 by_cases D:j=k
 ·subst D;rw[UT]at h;cases h
 ·rw[Mr _ _ _ D]at h;exact⟨D,h⟩
end tables
open Go.RowKit
section
variable {P:Program} {C:Cfg} {ρ:Env} {w:World} {R:Type}
theorem Z0c {x:Value} (h:x.oneCell'=true):x.cells= #[x]:=by
 cases x<;>first|rfl|(simp[Value.oneCell']at h)
theorem Zcb (v:Value) (h:v.oneCell'=true):CC ρ w (N_ v) v:=by
 unfold N_;split<;>first|(simp[CC,CP,Value.oneCell'];done)|exact h
theorem UN:∀(l:List Value) {cs:List AC},Jv l=some cs->CL (CC ρ w) cs l
 |[],cs,h=>by simp[Jv]at h;subst h;trivial
 |v::l,cs,h=>by
  simp only[Jv]at h;cases D:v.oneCell'
  ·simp[D]at h
  ·simp only[D,ai]at h;split at h
   ·rename_i E G;simp at h;subst h;exact⟨Zcb v D,UN l G⟩
   ·simp at h
theorem Z7k (v:Value):TVR ρ w (ofValue v) v:=by
 unfold ofValue;split
 ·rename_i cs;split
  ·rename_i l D;exact⟨cs,rfl,UN _ D⟩
  ·trivial
 ·trivial
 ·rename_i E G;exact⟨_,rfl,Zcb v (by cases v<;>first|rfl|(exfalso;first|exact E _ rfl|exact G _ rfl))⟩
theorem TVR.cells {t:TV} {x:Value} {cs:List AC} (h:TVR ρ w t x) (D:t.cells=some cs):CL (CC ρ w) cs x.cells.toList:=by
 cases t with
 |vD=>simp[TV.cells]at D
 |tup ps=>simp[TV.cells]at D
 |v g l=>
  simp[TV.cells]at D;subst D;cases g
  ·obtain⟨a,rfl,E⟩:=h;rw[Z0c E.one];exact⟨E,trivial⟩
  ·obtain⟨I,rfl,G⟩:=h;exact G
theorem TVR.c {a:AC} {x:Value} (h:TVR ρ w (.c a) x):CC ρ w a x:=by
 obtain⟨b,hb,D⟩:=h;simp at hb;subst hb;exact D
theorem TVR.c' {a:AC} {x:Value} (h:CC ρ w a x):TVR ρ w (.c a) x:=⟨a,rfl,h⟩
theorem TVR.int {k:IntKind} {n:Int} {x:Value} (h:TVR ρ w (.c (.int k n)) x):x= .int k n:=by have:=h.c;simpa [CC,CP]using this
theorem TVR.bool {b:Bool} {x:Value} (h:TVR ρ w (.c (.bool b)) x):x= .bool b:=by have:=h.c;simpa [CC,CP]using this
theorem TVR.mkInt (k:IntKind) (n:Int):TVR ρ w (.c (.int k n)) (.int k n):=TVR.c' (by simp[CC,CP])
theorem TVR.mkBool (b:Bool):TVR ρ w (.c (.bool b)) (.bool b):=TVR.c' (by simp[CC,CP])
theorem TVR.agg {cs:List AC} {x:Value} (h:TVR ρ w (.agg cs) x):∃D:Array Value,x= .agg D/\CL (CC ρ w) cs D.toList:=h
def RowC (im:Nat->Prop) (w:World) (ks:List Kd) (l:List (List AC)) (xs:List Value):Prop:=
 xs.length=l.length*ks.length/\(∀c∈l,AV ks c=c)/\∀i c,l[i]? =some c->CL (CP im w) c (cut xs (i*ks.length) ks.length)
theorem P6 {k k':IntKind} (h:kEq k k'=true):k=k':=by cases k<;>cases k'<;>first|rfl|(simp[kEq]at h)
mutual
theorem Zx4:∀{k k':Kd},Fp k k'=true->k=k'
 | .int k, .int k',h=>by rw[Fp]at h;rw[P6 h]
 | .bool, .bool,_=>rfl
 | .sl ks, .sl D,h=>by rw[Fp]at h;rw[Kh h]
 | .raw, .raw,_=>rfl
 | .int _, .bool,h=>by simp[Fp]at h
 | .int _, .sl _,h=>by simp[Fp]at h
 | .int _, .raw,h=>by simp[Fp]at h
 | .bool, .int _,h=>by simp[Fp]at h
 | .bool, .sl _,h=>by simp[Fp]at h
 | .bool, .raw,h=>by simp[Fp]at h
 | .sl _, .int _,h=>by simp[Fp]at h
 | .sl _, .bool,h=>by simp[Fp]at h
 | .sl _, .raw,h=>by simp[Fp]at h
 | .raw, .int _,h=>by simp[Fp]at h
 | .raw, .bool,h=>by simp[Fp]at h
 | .raw, .sl _,h=>by simp[Fp]at h
theorem Kh:∀{ks D:List Kd},Dy ks D=true->ks=D
 |[],[],_=>rfl
 |k::ks,k'::D,h=>by
  rw[Dy]at h;cases E:Fp k k'
  ·rw[E]at h;simp at h
  ·rw[E]at h;simp only[ai]at h;rw[Zx4 E,Kh h]
 |[],_::_,h=>by simp[Dy]at h
 |_::_,[],h=>by simp[Dy]at h
end
theorem UV {im:Nat->Prop} (ks:List Kd):CP im w (.vC ks []) (.slice none 0 0):=by
 rw[CP];exact⟨none,0,rfl,cx _,by simp, .inl rfl⟩
theorem Zva {k:Kd} {a G:AC} {x:Value} (h:YM k a=some G) (D:CC ρ w a x):CP ρ.im w G x/\Nm k G=G:=by
 cases k<;>cases a<;>simp only[YM]at h<;>try (simp at h;done)
 case int.int k k' n=>
  cases E:kEq k k'<;>rw[E]at h
  ·simp at h
  ·simp at h;subst h;rw[<-P6 E]at D;exact⟨D,rfl⟩
 case bool.bool b=>simp at h;subst h;exact⟨D,rfl⟩
 case sl.nilSl ks=>
  simp at h;subst h;simp only[CC,CP]at D;subst D;exact⟨UV ks,rfl⟩
 case sl.vC ks I l=>
  cases E:Dy ks I<;>rw[E]at h
  ·simp at h
  ·simp at h;subst h;rw[<-Kh E]at D;exact⟨D,rfl⟩
 case raw.raw v=>simp at h;subst h;exact⟨D,rfl⟩
theorem Z68 {α:Type} (d:α) (x:α) (l:List α) (n:Nat):nth d (x::l) (n+1)=nth d l n:=rfl
theorem Q71 (a:AC):∀(ks:List Kd) (cs:List AC) (j:Nat),Fh ks (a::cs) (j+1)=Fh ks cs j
 |[],_,_=>rfl
 |k::ks,cs,j=>by rw[Fh,Fh,Z68,Q71 a ks cs (j+1)]
theorem Qtn (k:Kd) (ks:List Kd) (a:AC) (cs:List AC):AV (k::ks) (a::cs)=Nm k a::AV ks cs:=by
 show Nm k a::Fh ks (a::cs) 1=_;rw[Q71];rfl
theorem S0:∀{ks:List Kd} {cs D:List AC} {xs:List Value},IS ks cs=some D->CL (CC ρ w) cs xs->CL (CP ρ.im w) D xs/\AV ks D=D
 |[],[],D,xs,h,E=>by
  simp[IS]at h;subst h;cases xs with
  |nil=>exact⟨trivial,rfl⟩
  |cons=>exact E.elim
 |k::ks,a::cs,D,xs,h,E=>by
  simp only[IS]at h;split at h
  ·rename_i O G;split at h
   ·rename_i l I;simp at h;subst h;cases xs with
    |nil=>exact E.elim
    |cons x xs=>
     obtain⟨J,L⟩:=Zva G E.1;obtain⟨M,N⟩:=S0 I E.2;exact⟨⟨J,M⟩,by rw[Qtn,L,N]⟩
   ·simp at h
  ·simp at h
 |[],_::_,_,_,h,_=>by simp[IS]at h
 |_::_,[],_,_,h,_=>by simp[IS]at h
def JW (P:Program) (ρ:Env) (w:World) (e:Operand->Value) (o:Oper):Prim->Prop
 | .val v=>∃x,(execOp e o).run P w= .ok (.value x) w/\TVR ρ w v x
 | .load g sz key off=>∃t,CX P t=some g/\szT P t=some sz/\
   (execOp e o).run P w=((loadVar t ⟨ρ.bx key,off,none⟩).run P w).andThen λv w'=> .ok (.value v) w'
 | .rload g sz id idx sub=>∃t b,CX P t=some g/\szT P t=some sz/\(ρ.rv id).ownBlock=some b/\
   (execOp e o).run P w=((loadVar t ⟨b,Ib (ρ.rv id)+(idx*ρ.wd id+sub),none⟩).run P w).andThen λv w'=> .ok (.value v) w'
 | .store key off cs=>∃t x,szT P t=some cs.length/\CL (CC ρ w) cs x.cells.toList/\
   (execOp e o).run P w=((storeVar t ⟨ρ.bx key,off,none⟩ x).run P w).andThen λ_ w'=> .ok .skip w'
 | .rstore id idx sub cs=>∃t x b,szT P t=some cs.length/\CL (CC ρ w) cs x.cells.toList/\(ρ.rv id).ownBlock=some b/\
   (execOp e o).run P w=((storeVar t ⟨b,Ib (ρ.rv id)+(idx*ρ.wd id+sub),none⟩ x).run P w).andThen λ_ w'=> .ok .skip w'
 | .new ty cs=>∃arr:Array Value,CL (CC ρ w) cs arr.toList/\(execOp e o).run P w= .ok (.value (.pointer (some ⟨w.heap.size,0,none⟩))) (w.alloc (.cells arr ty))
 | .cutR id a=>∀I n cap,ρ.rv id= .slice I n cap->n<=cap->a<=n->(execOp e o).run P w= .ok (.value (.slice (if cap=a then I else I.map (·.add (a*ρ.wd id))) (n-a) (cap-a))) w
 | .newS ty n cs=>∃arr:Array Value,CL (CC ρ w) cs arr.toList/\(execOp e o).run P w= .ok (.value (.slice (some ⟨w.heap.size,0,none⟩) n n)) (w.alloc (.cells arr ty))
 | .newRow D ks l=>∃arr:Array Value,0<ks.length/\l.length<=maxLen/\RowC ρ.im w ks l arr.toList/\
   (execOp e o).run P w= .ok (.value (.slice (some ⟨w.heap.size,0,none⟩) l.length l.length)) (w.alloc (.cells arr D))
 | .newView D ks l=>∃arr:Array Value,0<ks.length/\l.length<=maxLen/\RowC ρ.im w ks l arr.toList/\
   (execOp e o).run P w= .ok (.value (.slice (some ⟨w.heap.size,0,none⟩) l.length l.length)) (w.alloc (.cells arr D))
 | .make D ks bytes n z=>∃t i J L M,P.underlying t=some (.slice D)/\P.info? D=some i/\i.zero=some J/\i.size=ks.length/\i.bytes=bytes/\0<ks.length/\0<bytes/\AV ks z=z/\CL (CP ρ.im w) z J.cells.toList/\
   (execOp e o).run P w=((Instr.makeSlice t (.int L n) (.int M n)).run P w).andThen λv w'=> .ok (.value v) w'
 | .append D ks bytes s x=>∃t ty i z E G,P.underlying t=some (.slice D)/\P.info? D=some i/\i.zero=some z/\i.size=ks.length/\i.bytes=bytes/\z.cells.size=ks.length/\CC ρ w s E/\CC ρ w x G/\
   (execOp e o).run P w=((Builtin.append_ #[t,t] ty #[E,G]).run P w).andThen λv w'=> .ok (.value v) w'
 | .appD D ks bytes s x=>∃t ty i z E G,P.underlying t=some (.slice D)/\P.info? D=some i/\i.zero=some z/\i.size=ks.length/\i.bytes=bytes/\z.cells.size=ks.length/\CC ρ w s E/\CC ρ w x G/\
   (execOp e o).run P w=((Builtin.append_ #[t,t] ty #[E,G]).run P w).andThen λv w'=> .ok (.value v) w'
 | .callM f args=>∃xs:List Value,xs.length=args.length/\(∀(i:Nat) (a:TV) (x:Value),args[i]? =some a->xs[i]? =some x->TVR ρ w a x)/\execOp e o=callFunc f xs.toArray
 | .callF f args=>∃xs:List Value,xs.length=args.length/\(∀(i:Nat) (a:TV) (x:Value),args[i]? =some a->xs[i]? =some x->TVR ρ w a x)/\execOp e o=callFunc f xs.toArray
 | .callD f args=>∃xs:List Value,xs.length=args.length/\(∀(i:Nat) (a:TV) (x:Value),args[i]? =some a->xs[i]? =some x->TVR ρ w a x)/\execOp e o=callFunc f xs.toArray
 | .call f args=>∃xs:List Value,xs.length=args.length/\(∀(i:Nat) (a:TV) (x:Value),args[i]? =some a->xs[i]? =some x->TVR ρ w a x)/\execOp e o=callFunc f xs.toArray
theorem Zz1 {t:TypeId} {n:Nat} (h:szT P t=some n):∃i,P.info? t=some i/\i.size=n:=by
 unfold szT at h;split at h
 ·rename_i i D;simp at h;exact⟨i,D,h⟩
 ·simp at h
theorem Eu {t:TypeId} {n:Nat} (h:szT P t=some n) (w:World):(sizeOf t).run P w= .ok n w:=by
 obtain⟨i,D,rfl⟩:=Zz1 h;simp[sizeOf,typeInfo,D]
theorem Ph {t:TypeId} {g:Bool} (h:CX P t=some g) (w:World):(isAgg t).run P w= .ok g w:=by
 unfold CX at h;split at h
 ·rename_i fs D;simp at h;subst h;simp[isAgg,run_underlying D]
 ·rename_i n e D;simp at h;subst h;simp[isAgg,run_underlying D]
 ·rename_i d E G D;simp at h;subst h;simp only[isAgg,Sem.run_bind,run_underlying D,db];cases d<;>first|rfl|(exfalso;first|exact E _ rfl|exact G _ _ rfl)
 ·simp at h
theorem U1 {t:TypeId} {cs:List AC} (h:JT P t=some cs):∃v,(∀w,(zeroValue t).run P w= .ok v w)/\CL (CC ρ w) cs v.cells.toList:=by
 unfold JT at h;split at h
 ·rename_i i D;split at h
  ·rename_i v E;exact⟨v,λw=>by simp[zeroValue,typeInfo,D,E],UN _ h⟩
  ·simp at h
 ·simp at h
theorem He {im:Nat->Prop} {w:World} (k:IntKind) (n:Int):CP im w (.int k n) (.int k n):=by simp[CP]
theorem Qvi {im:Nat->Prop} {w:World} (b:Bool):CP im w (.bool b) (.bool b):=by simp[CP]
theorem Zvq (op:BinOp) (t:TypeId) (k:IntKind) (a b:Int) (K:AC->Option R) {r:R} (h:G7 op k a b K=some r):
  ∃c x,K c=some r/\CP ρ.im w c x/\(binOp op t (.int k a) (.int k b)).run P w= .ok x w:=by
 cases op<;>simp only[G7]at h
 case quo=>
  cases hb:decide (b=0)
  ·rw[hb]at h;simp only[aq]at h;have D: ¬b=0:=by simpa using hb
   exact⟨_,_,h,He _ _,by simp[binOp_quo,Op.intDiv,D]⟩
  ·rw[hb]at h;simp at h
 case rem=>
  cases hb:decide (b=0)
  ·rw[hb]at h;simp only[aq]at h;have D: ¬b=0:=by simpa using hb
   exact⟨_,_,h,He _ _,by simp[binOp_rem,Op.intDiv,D]⟩
  ·rw[hb]at h;simp at h
 case shl=>
  cases hb:decide (b<0)
  ·rw[hb]at h;simp only[aq]at h;have D: ¬b<0:=by simpa using hb
   exact⟨_,_,h,He _ _,by simp[binOp_shl,Op.shift,D]⟩
  ·rw[hb]at h;simp at h
 case shr=>
  cases hb:decide (b<0)
  ·rw[hb]at h;simp only[aq]at h;have D: ¬b<0:=by simpa using hb
   exact⟨_,_,h,He _ _,by simp[binOp_shr,Op.shift,D]⟩
  ·rw[hb]at h;simp at h
 case and=>exact⟨_,_,h,He _ _,by rw[binOp_and];rfl⟩
 case or=>exact⟨_,_,h,He _ _,by rw[binOp_or];rfl⟩
 case xor=>exact⟨_,_,h,He _ _,by rw[binOp_xor];rfl⟩
 case andNot=>exact⟨_,_,h,He _ _,by rw[binOp_andNot];rfl⟩
 all_goals first|exact⟨_,_,h,He _ _,by simp[go_sem]⟩|exact⟨_,_,h,Qvi _,by simp[go_sem]⟩
theorem Zhb {op:BinOp} (E:Ob op=true) (t:TypeId) (k k':IntKind) (a b:Int) (K:AC->Option R) {r:R} (h:G7 op k a b K=some r):
  ∃c x,K c=some r/\CP ρ.im w c x/\(binOp op t (.int k a) (.int k' b)).run P w= .ok x w/\op≠ .eql/\op≠ .neq:=by
 cases op<;>simp[Ob]at E<;>simp only[G7]at h
 case shl=>
  cases hb:decide (b<0)
  ·rw[hb]at h;simp only[aq]at h;have D: ¬b<0:=by simpa using hb
   exact⟨_,_,h,He _ _,by simp[binOp_shl,Op.shift,D],by simp,by simp⟩
  ·rw[hb]at h;simp at h
 case shr=>
  cases hb:decide (b<0)
  ·rw[hb]at h;simp only[aq]at h;have D: ¬b<0:=by simpa using hb
   exact⟨_,_,h,He _ _,by simp[binOp_shr,Op.shift,D],by simp,by simp⟩
  ·rw[hb]at h;simp at h
theorem Iv {i:Int}:∀{n k:Nat} {K:Nat->Option R} {r:R},Hj i n k K=some r->∃j,K j=some r/\i=(j:Int)/\k<=j/\j<k+n
 |0,_,_,_,h=>by simp[Hj]at h
 |n+1,k,K,r,h=>by
  rw[Hj]at h;cases D:decide (i=(k:Int))
  ·rw[D]at h;simp only[aq]at h;obtain⟨j,E,G,I,J⟩:=Iv h;exact⟨j,E,G,by omega,by omega⟩
  ·rw[D]at h;simp only[ai]at h;exact⟨k,h,by simpa using D,by omega,by omega⟩
theorem Qv4 {g:Bool} {sz:Nat} {cells:List AC} {off:Nat} {v:TV} {xs:List Value} (h:DV g sz cells off=some v) (D:CL (CC ρ w) cells xs):
  match g with
  |true=>off+sz<=xs.length/\TVR ρ w v (.agg (cut xs off sz).toArray)
  |false=>∃x,xs[off]? =some x/\TVR ρ w v x:=by
 cases g
 ·simp only[DV,aq]at h;split at h
  ·rename_i a E;simp at h;subst h;obtain⟨x,G,I⟩:=D.get E;exact⟨x,G,TVR.c' I⟩
  ·simp at h
 ·simp only[DV,ai]at h;cases hb:Nat.ble (off+sz) cells.length
  ·rw[hb]at h;simp at h
  ·rw[hb]at h;simp at h;subst h;exact⟨by rw[<-D.length];exact bj hb,⟨_,rfl,by simpa using D.cut off sz⟩⟩
theorem Q31 {t:TypeId} {cs:List AC} {off:Nat} {v:TV} {D:Array Value} (h:Oq P t cs off=some v) (L:CL (CC ρ w) cs D.toList):
  ∃x,(part t D off).run P w= .ok x w/\TVR ρ w v x:=by
 unfold Oq at h;split at h
 ·rename_i g sz I M;have J:=Qv4 h L;cases g
  ·obtain⟨x,N,E⟩:=J;refine⟨x,?_,E⟩;have G:D[off]? =some x:=by simpa using N
   simp[part,Ph I,G]
  ·obtain⟨hle,E⟩:=J;refine⟨_,?_,E⟩;simp only[part,Sem.run_bind,Ph I,db,dv,Eu M,Sem.run_pure];congr 2;apply Array.ext';simp[cut]
 ·simp at h
theorem CL.plain {l:List AC} {xs:List Value} (D:Al AC.plain l=true) (h:CL (CC ρ w) l xs):CL (CP ρ.im w) l xs:=
 h.mono λa E _ G=>Z0j (AD.1 D a E) G
end
open Go.RowKit
section
variable {P:Program} {ρ:Env} {w:World}
def FY (P:Program) (ρ:Env) (w:World) (t:TypeId) (cs:List AC) (x:Value):Prop:=
 match CX P t with
 |some true=>∃D:Array Value,x= .agg D/\CL (CC ρ w) cs D.toList
 |some false=>∃a,cs=[a]/\CC ρ w a x
 |none=>False
theorem Ts {t:TypeId} {n:Nat} {cs:List AC} {off:Nat} {G:Array Value} (M:szT P t=some n) (N:CX P t≠none) (L:CL (CC ρ w) cs G.toList) (hle:off+n<=cs.length)
  (O:CX P t=some false->n=1):∃x,(part t G off).run P w= .ok x w/\FY P ρ w t (cut cs off n) x:=by
 cases D:CX P t with
 |none=>exact absurd D N
 |some g=>
  cases g
  ·have I:=O D;subst I;have E:off<cs.length:=by omega
   obtain⟨x,S,T⟩:=L.get (ag E);have J:G[off]? =some x:=by simpa using S
   refine⟨x,by simp[part,Ph D,J],?_⟩;unfold FY;rw[D];refine⟨cs[off],?_,T⟩;simp only[cut,jj E,List.take_succ_cons,List.take_zero]
  ·refine⟨.agg (G.extract off (off+n)),by simp[part,Ph D,Eu M],?_⟩;unfold FY;rw[D];refine⟨_,rfl,?_⟩;have:=L.cut off n;simpa [cut]using this
theorem Q4p {ok:List TypeId} {d D:Nat} {xs ys:List AC} {X Y:Array Value}
  (ih:∀(t:TypeId) (as bs:List AC) (r:Bool) (A B:Value),eqC P ok d t as bs=some r->FY P ρ w t as A->FY P ρ w t bs B->(Op.equalIn D t A B).run P w= .ok r w)
  (hX:CL (CC ρ w) xs X.toList) (hY:CL (CC ρ w) ys Y.toList):∀(fs:List Field) (r:Bool),
  JB (λf : Field => bif f.name == "_" then none else match szT P f.type with
    |some n=>bif(Nat.ble (f.offset+n) xs.length&&Nat.ble (f.offset+n) ys.length&&I9 P f.type n)then eqC P ok d f.type (cut xs f.offset n) (cut ys f.offset n)else none
    |none=>none) fs=some r->
  (Op.eqFields D X Y fs).run P w= .ok r w
 |[],r,h=>by simp[JB]at h;subst h;simp[Op.eqFields]
 |f::fs,r,h=>by
  simp only[JB]at h;split at h
  ·rename_i b hb;split at h
   ·rename_i b' hb';simp at h;subst h;have ht:=Q4p ih hX hY fs b' hb';cases hnm:f.name== "_"
    ·rw[hnm]at hb;simp only[aq]at hb;split at hb
     ·rename_i n hn;cases hle:(Nat.ble (f.offset+n) xs.length&&Nat.ble (f.offset+n) ys.length&&I9 P f.type n)
      ·rw[hle]at hb;simp at hb
      ·rw[hle]at hb;simp only[ai]at hb;simp only[ak]at hle;obtain⟨⟨h1,h2⟩,h3⟩:=hle;have h1':=bj h1;have h2':=bj h2;have hg:CX P f.type≠none:=by intro e;simp[I9,e]at h3
       have ho:CX P f.type=some false->n=1:=by intro e;simp[I9,e]at h3;exact h3
       obtain⟨A,hA,vA⟩:=Ts hn hg hX h1' ho;obtain⟨B,hB,vB⟩:=Ts hn hg hY h2' ho;have he:=ih f.type _ _ b A B hb vA vB;have hne:f.name≠ "_" :=by simpa using hnm
       simp only[Op.eqFields,hne,ne_eq,kx,dv,Sem.run_bind,hA,db,hB,he];cases b
       ·simp
       ·simpa using ht
     ·simp at hb
    ·rw[hnm]at hb;simp at hb
   ·simp at h
  ·simp at h
theorem Q1d {ok:List TypeId} {d D e m:Nat} {xs G:List AC} {X Y:Array Value}
  (M:∀(t:TypeId) (as bs:List AC) (r:Bool) (A B:Value),eqC P ok d t as bs=some r->FY P ρ w t as A->FY P ρ w t bs B->(Op.equalIn D t A B).run P w= .ok r w)
  (N:CL (CC ρ w) xs X.toList) (O:CL (CC ρ w) G Y.toList) (I:szT P e=some m) (E:I9 P e m=true):∀(l:List Nat) (r:Bool),
  (∀i∈l,i*m+m<=xs.length/\i*m+m<=G.length)->
  JB (λi=>eqC P ok d e (cut xs (i*m) m) (cut G (i*m) m)) l=some r->
  ((forIn l ((none : Option Bool), PUnit.unit) λi _ => do
    let a<-part e X (i*m)
    let b<-part e Y (i*m)
    let q<-Op.equalIn D e a b
    if(!q)=true then pure (ForInStep.done (some false,PUnit.unit))else pure (ForInStep.yield (none,PUnit.unit)):Sem (Option Bool×PUnit))>>=λs=>match s.1 with
     |none=>pure true
     |some a=>pure a).run P w= .ok r w
 |[],r,_,h=>by simp[JB]at h;subst h;simp
 |i::l,r,J,h=>by
  simp only[JB]at h;split at h
  ·rename_i b hb;split at h
   ·rename_i b' L;simp at h;subst h;have S:=Q1d M N O I E l b' (λj V=>J j (by simp[V])) L;have T:CX P e≠none:=by intro q;simp[I9,q]at E
    have U:CX P e=some false->m=1:=by intro q;simp[I9,q]at E;exact E
    obtain⟨A,hA,vA⟩:=Ts I T N (J i (by simp)).1 U;obtain⟨B,hB,vB⟩:=Ts I T O (J i (by simp)).2 U;have he:=M e _ _ b A B hb vA vB;rw[List.forIn_cons];simp only[Sem.run_bind,hA,db,hB,he];cases b
    ·simp
    ·simp only[Sem.run_bind]at S;simpa using S
   ·simp at h
  ·simp at h
theorem Q3h {ok:List TypeId} (O:∀t∈ok,P.stoodInHeld t=false):∀(d D:Nat),d<=D->∀(t:TypeId) (as bs:List AC) (r:Bool) (A B:Value),
  eqC P ok d t as bs=some r->FY P ρ w t as A->FY P ρ w t bs B->(Op.equalIn D t A B).run P w= .ok r w
 |0,_,_,t,as,bs,r,A,B,h,_,_=>by simp[eqC]at h
 |d+1,0,hd,_,_,_,_,_,_,_,_,_=>by omega
 |d+1,D+1,hd,t,as,bs,r,A,B,h,G,I=>by
  have ih:=Q3h O d D (by omega);simp only[eqC]at h;split at h
  ·rename_i E;have J:CX P t=some false:=by simp[CX,E]
   simp only[FY,J]at G I;obtain⟨a,rfl,T⟩:=G;obtain⟨b,rfl,U⟩:=I;split at h
   ·rename_i x y L M;simp at h L M;subst L M h;have e1:A= .bool x:=by simpa [CC,CP]using T
    have e2:B= .bool y:=by simpa [CC,CP]using U
    subst e1 e2;exact run_equalIn_bool' w D t x y E
   ·simp at h
  ·rename_i k0 E;have J:CX P t=some false:=by simp[CX,E]
   simp only[FY,J]at G I;obtain⟨a,rfl,T⟩:=G;obtain⟨b,rfl,U⟩:=I;split at h
   ·rename_i k x k' y L M;simp at L M;subst L M;cases V:kEq k k'
    ·rw[V]at h;simp at h
    ·rw[V]at h;have:=P6 V;subst this;simp at h;subst h;have e1:A= .int k x:=by simpa [CC,CP]using T
     have e2:B= .int k y:=by simpa [CC,CP]using U
     subst e1 e2;exact run_equalIn_int w D t k k0 x y E
   ·simp at h
  ·rename_i fs E;have J:CX P t=some true:=by simp[CX,E]
   simp only[FY,J]at G I;obtain⟨X,rfl,hX⟩:=G;obtain⟨Y,rfl,hY⟩:=I;cases N:ok.elem t
   ·rw[N]at h;simp at h
   ·rw[N]at h;simp only[ai]at h;have S:P.fieldsOf t=fs:=by simp[Program.fieldsOf,E]
    rw[run_equalIn_struct w D t X Y (by rw[S];exact E) (O t (by simpa using N)),S];exact Q4p ih hX hY fs.toList r h
  ·rename_i n e E;have J:CX P t=some true:=by simp[CX,E]
   simp only[FY,J]at G I;obtain⟨X,rfl,hX⟩:=G;obtain⟨Y,rfl,hY⟩:=I;split at h
   ·rename_i m hm;cases hle:(Nat.ble (n*m) as.length&&Nat.ble (n*m) bs.length&&I9 P e m)
    ·rw[hle]at h;simp at h
    ·rw[hle]at h;simp only[ai]at h;simp only[ak]at hle;obtain⟨⟨L,M⟩,h3⟩:=hle;have a2:=bj L;have a3:=bj M;have hr := Q1d (P := P) (ρ := ρ) (w := w) (D := D) (X := X) (Y := Y) ih hX hY hm h3 (List.range n) r (λi hi => by
      have a0:i<n:=by simpa using hi
      have:i*m+m<=n*m:=by
       calc i*m+m=(i+1)*m:=by rw[dh,gy]
        _<=n*m:=bt _ a0
      omega) h
     simp only[Op.equalIn,Sem.run_bind,run_underlying E,db,Eu hm];rw[Std.Legacy.Range.forIn_eq_forIn_range'];have a1:List.range' [:n].start [:n].size [:n].step=List.range n:=by
      simp[Std.Legacy.Range.size,List.range_eq_range']
     rw[a1];simp only[Sem.run_bind]at hr;rw[<-hr];congr 1
     funext a w'
     cases a.1<;>rfl
   ·simp at h
  ·simp at h
end
open Go.RowKit
section
variable {P:Program} {C:Cfg} {ρ:Env} {w:World} {R:Type}
theorem Si {E:Operand->TV} {e:Operand->Value} (D:∀x,TVR ρ w (E x) (e x)):∀(l:List Operand),(Da E l).length=(l.map e).length/\
  ∀(i:Nat) (a:TV) (x:Value),(Da E l)[i]? =some a->(l.map e)[i]? =some x->TVR ρ w a x
 |[]=>⟨rfl,λi a x h=>by simp[Da]at h⟩
 |o::l=>⟨by simp[Da,(Si D l).1],λi a x h h'=>by
   cases i with
   |zero=>simp[Da]at h h';subst h h';exact D o
   |succ i=>simp[Da]at h h';exact(Si D l).2 i a x (by simpa using h) (by simpa using h')⟩
theorem R_ {α:Type} (l:List α) (o:Nat):splice l o []=l:=by cases l<;>simp[splice]
theorem Ml {α:Type}:∀(l:List α) (o:Nat) (D:List α),(splice l o D).length=l.length
 |[],_,[]=>by simp[splice]
 |[],_,_::_=>by simp[splice]
 |_::_,_,[]=>by simp[splice]
 |_::l,0,v::D=>by simp[splice,Ml l 0 D]
 |_::l,o+1,v::D=>by simp[splice,Ml l o (v::D)]
theorem Qy1 {α:Type} (v:α) (D:List α):∀(l:List α) (o:Nat),o<l.length->splice (l.set o v) (o+1) D=splice l o (v::D)
 |[],o,h=>by simp at h
 |y::l,0,_=>by
  cases D with
  |nil=>simp[R_,splice]
  |cons u G=>simp[splice]
 |y::l,o+1,h=>by
  have E:=Qy1 v D l o (by simpa using h);cases D with
  |nil=>simp only[R_]at*;simp[splice,E]
  |cons u G=>simp only[List.set_cons_succ,splice];rw[E]
theorem Q91 (off:Nat):∀(D:List Value) (k:Nat) (xs:Array Value),off+k+D.length<=xs.size->
  ((D.zipIdx k).foldl (λcs (c,j)=>cs.setIfInBounds (off+j) c) xs).toList=splice xs.toList (off+k) D
 |[],k,xs,_=>by simp[R_]
 |v::D,k,xs,h=>by
  simp only[List.zipIdx_cons,fh];rw[Q91 off D (k+1) _ (by simp at h⊢;omega),Array.toList_setIfInBounds,<-Qy1 v D xs.toList (off+k) (by simp at h⊢;omega),dm]
theorem Ur {place:Nat->Option (Nat×Nat)} {N:Operand->TV} {e:Operand->Value} (D:∀x,TVR ρ w (N x) (e x)):∀(parts:List (Nat×Operand)) (z cs:List AC) (xs:Array Value),
  CL (CC ρ w) z xs.toList->Jr place z (GB N parts)=some cs->
  ∃E:Array Value,Instr.fill place xs (parts.map λp=>(p.1,e p.2))=some E/\CL (CC ρ w) cs E.toList/\E.size=xs.size
 |[],z,cs,xs,L,h=>by simp[GB,Jr]at h;subst h;exact⟨xs,rfl,L,rfl⟩
 |(i,o)::parts,z,cs,xs,L,h=>by
  simp only[GB,Jr]at h;split at h
  ·rename_i off size l O S;have G:=(D o).cells S;cases hb:(Nat.beq l.length size&&Nat.ble (off+size) z.length)
   ·rw[hb]at h;simp at h
   ·rw[hb]at h;simp only[ai]at h;simp only[ak]at hb;have e1:l.length=size:=af hb.1;have e2:=bj hb.2;have e3:=G.length;have T:=L.length;have I:(e o).cells.size=size:=by rw[<-e1,e3];simp
    have e5:off+(e o).cells.size<=xs.size:=by rw[I,<-dw,<-T];exact e2
    have M:=Q91 off (e o).cells.toList 0 xs (by simp;omega);have J:((e o).cells.zipIdx.foldl (λcs (c,j)=>cs.setIfInBounds (off+j) c) xs).toList=splice xs.toList (off+0) (e o).cells.toList:=by
     rw[<-Array.foldl_toList,Array.toList_zipIdx];exact M
    obtain⟨E,U,V,X⟩:=Ur D parts _ _ _ (by rw[J];exact L.splice _ G) h;refine⟨E,?_,V,?_⟩
    ·simp only[bm,Instr.fill,O];rw[ab (by simp only[kk,cz,not_or];exact⟨λY=>Y I,by omega⟩)];exact U
    ·rw[X,<-dw,J,Ml,dw]
  ·simp at h
theorem Q3o {ks:List Kd}:∀(n:Nat) (cs:List AC) (l:List (List AC)) (xs:List Value),IR ks n cs=some l->CL (CC ρ w) cs xs->l.length=n/\xs.length=n*ks.length->RowC ρ.im w ks l xs
 |0,cs,l,xs,h,I,E=>by
  cases cs with
  |nil=>
   simp[IR]at h;subst h;exact⟨by simpa using E.2,by simp,λi c G=>by simp at G⟩
  |cons=>simp[IR]at h
 |n+1,cs,l,xs,h,I,E=>by
  simp only[IR]at h;split at h
  ·rename_i c J;split at h
   ·rename_i S L;simp at h;subst h;have N:=S0 J (I.take ks.length);have M:xs.length=n*ks.length+ks.length:=by rw[E.2,dh,gy]
    have O:=Q3o n _ S (xs.drop ks.length) L (I.drop ks.length) ⟨by simpa using E.1,by simp[M]⟩;refine⟨by rw[E.2];simp at E⊢;rw[E.1],?_,?_⟩
    ·intro c' D;simp only[ao]at D;rcases D with rfl|D
     ·exact N.2
     ·exact O.2.1 c' D
    ·intro i c' G;cases i with
     |zero=>simp at G;subst G;simpa [cut]using N.1
     |succ i=>
      have:=O.2.2 i c' (by simpa using G);have e:cut (xs.drop ks.length) (i*ks.length) ks.length=cut xs ((i+1)*ks.length) ks.length:=by
       simp only[cut,jk];rw[dh,gy,ku]
      rw[<-e];exact this
   ·simp at h
  ·simp at h
theorem Q3b {ks:List Kd}:∀(n:Nat) (cs:List AC) (l:List (List AC)),IR ks n cs=some l->l.length=n
 |0,[],l,h=>by simp[IR]at h;subst h;rfl
 |0,_::_,l,h=>by simp[IR]at h
 |n+1,cs,l,h=>by
  simp only[IR]at h;split at h
  ·split at h
   ·rename_i E D;simp at h;subst h;simp[Q3b n _ E D]
   ·simp at h
  ·simp at h
theorem Q5p {z:List AC} {v:List Value} (D:CL (CC ρ w) z v):∀n,CL (CC ρ w) (NI z n) ((List.replicate n v).flatten)
 |0=>trivial
 |n+1=>by rw[NI,jo,List.flatten_cons];exact D.append (Q5p D n)
theorem Q80 (v:List Value) (G:0<v.length):∀(n j:Nat),j<n*v.length->(List.replicate n v).flatten[j]? =v[j%v.length]?
 |0,j,h=>by simp at h
 |n+1,j,h=>by
  rw[jo,List.flatten_cons,ie];split
  ·rename_i E;rw[Nat.mod_eq_of_lt E]
  ·rename_i I;have D:v.length<=j:=by omega
   rw[Q80 v G n (j-v.length) (by rw[dh]at h;omega),Nat.mod_eq_sub_mod D]
def ZY (e:Operand->Value):Option Operand->Option Int->Prop
 |none,none=>True
 |some x,some n=>∃k,e x= .int k n
 |_,_=>False
theorem Zd3 {E:Operand->TV} {e:Operand->Value} (G:∀x,TVR ρ w (E x) (e x)) {o:Option Operand} {i:Option Int} (h:Lf E o=some i):
  ZY e o i:=by
 cases o with
 |none=>simp[Lf]at h;subst h;trivial
 |some x=>
  simp only[Lf]at h;split at h
  ·rename_i n D;simp at h;subst h;have I:=G x
   revert D I
   generalize E x=t;intro D I;unfold TV.int? at D;split at D
   ·rename_i k m;simp at D;subst D;exact⟨k,I.int⟩
   ·simp at D
  ·simp at h
theorem Rm {t:TV} {x:Value} {n:Int} (h:t.int? =some n) (D:TVR ρ w t x):∃k,x= .int k n:=by
 unfold TV.int? at h;split at h
 ·rename_i k m;simp at h;subst h;exact⟨k,D.int⟩
 ·simp at h
theorem Qux {e:Operand->Value} {o:Oper} {c:Call} {f:FuncId} (D:o.op= .call c) (E:c.callee= .value (.func f)) (hf:e (.func f)= .func (.func f) #[] #[]):
  execOp e o=callFunc f (c.args.toList.map e).toArray:=by
 unfold execOp;simp only[D,resolve,E,hf,Deferred.ofValue,pure_bind];simp only[invoke,Array.append_empty,Array.empty_append];rw[<-jb]
theorem Z0a {e:Operand->Value} {o:Oper} {c:Call} {f:FuncId} {t:Tmp} {xs D:Array Value} (E:o.op= .call c) (G:c.callee= .value (.tmp t)) (hf:e (.tmp t)= .func (.func f) xs D):
  execOp e o=callFunc f (xs.toList++(c.args.toList.map e++D.toList)).toArray:=by
 unfold execOp;simp only[E,resolve,G,hf,Deferred.ofValue,pure_bind];simp only[invoke];congr 1;apply Array.ext';simp
theorem Zyc {e:Operand->Value} {o:Oper} {c:Call} {b:Builtin} (D:o.op= .call c) (E:c.callee= .builtin b):
  ∃cs,execOp e o=builtin b c.argTypes o.type cs (c.args.map e):=by
 unfold execOp;simp only[D,resolve,E];exact⟨_,rfl⟩
theorem Qen (G:Value->Value->Sem Value) (g:Int->Int->Int) (D:∀k a k' b w,(G (.int k a) (.int k' b)).run P w= .ok (.int k (g a b)) w) (k:IntKind):
  ∀(l:List TV) (xs:List Value) (a:Int) (Kp:Prim->Option R) (r:R),l.length=xs.length->(∀(i:Nat) (t:TV) (x:Value),l[i]? =some t->xs[i]? =some x->TVR ρ w t x)->GI g k a l Kp=some r->
  ∃n,Kp (.val (.c (.int k n)))=some r/\(xs.foldlM G (.int k a)).run P w= .ok (.int k n) w
 |[],[],a,Kp,r,_,_,h=>by simp[GI]at h;exact⟨a,h,by simp⟩
 |[],_::_,_,_,_,E,_,_=>by simp at E
 |_::_,[],_,_,_,E,_,_=>by simp at E
 |t::l,x::xs,a,Kp,r,E,L,h=>by
  unfold GI at h;split at h
  ·rename_i k' b;cases M:kEq k k'
   ·rw[M]at h;simp at h
   ·rw[M]at h;simp only[ai]at h;have N:x= .int k' b:=(L 0 _ x rfl rfl).int;subst N;obtain⟨n,I,J⟩:=Qen G g D k l xs (g a b) _ r (by simpa using E) (λi t x I J=>L (i+1) t x (by simpa using I) (by simpa using J)) h;exact⟨n,I,by rw[List.foldlM_cons];simp only[Sem.run_bind,D,db,J]⟩
  ·simp at h
theorem Zor {b:Builtin} {N:List TypeId} {args:List TV} {xs:List Value} {ty:TypeId} {cs:Array Bool} {Kp:Prim->Option R} {r:R}
  (G:args.length=xs.length) (J:∀(i:Nat) (t:TV) (x:Value),args[i]? =some t->xs[i]? =some x->TVR ρ w t x)
  (h:NF P b N args Kp=some r) {e:Operand->Value} {o:Oper} (he:execOp e o=builtin b N.toArray ty cs xs.toArray):
  ∃p,Kp p=some r/\JW P ρ w e o p:=by
 unfold NF at h;split at h
 ·rename_i ks l
  match xs,G with
  |[x],_=>
   have D:=(J 0 _ x rfl rfl).c;simp only[CC,CP]at D;obtain⟨ad,cap,rfl,_⟩:=D;split at h
   ·rename_i t E;split at h
    ·rename_i O I;refine⟨_,h, .int .i64 l.length,?_,TVR.mkInt _ _⟩;rw[he];simp[builtin,Builtin.len_,run_underlying I,goInt]
    ·simp at h
   ·simp at h
 ·rename_i id wd n
  match xs,G with
  |[x],_=>
   have D:=(J 0 _ x rfl rfl).c;obtain⟨_,_,D⟩:=D;split at h
   ·rename_i t E;split at h
    ·rename_i O I;refine⟨_,h, .int .i64 n,?_,TVR.mkInt _ _⟩;rw[he];rcases D with⟨rfl,rfl⟩|⟨g,o',c,rfl⟩
     ·simp[builtin,Builtin.len_,run_underlying I,goInt]
     ·simp[builtin,Builtin.len_,run_underlying I,goInt]
    ·simp at h
   ·simp at h
 ·rename_i key n
  match xs,G with
  |[x],_=>
   have D:=(J 0 _ x rfl rfl).c;simp only[CC]at D;subst D;split at h
   ·rename_i t E;split at h
    ·rename_i O I;refine⟨_,h, .int .i64 n,?_,TVR.mkInt _ _⟩;rw[he];simp[builtin,Builtin.len_,run_underlying I,goInt]
    ·simp at h
   ·simp at h
 ·match xs,G with
  |[x],_=>
   have D:=(J 0 _ x rfl rfl).c;simp only[CC,CP]at D;subst D;split at h
   ·rename_i t E;split at h
    ·rename_i O I;refine⟨_,h, .int .i64 0,?_,TVR.mkInt _ _⟩;rw[he];simp[builtin,Builtin.len_,run_underlying I,goInt]
    ·simp at h
   ·simp at h
 ·rename_i l
  match xs,G with
  |[x],_=>
   obtain⟨ys,rfl,_⟩:=(J 0 _ x rfl rfl).agg;split at h
   ·rename_i t E;split at h
    ·rename_i n O I;refine⟨_,h, .int .i64 n,?_,TVR.mkInt _ _⟩;rw[he];simp[builtin,Builtin.len_,run_underlying I,goInt]
    ·simp at h
   ·simp at h
 ·rename_i k a rest
  match xs,G with
  |x::xs,G=>
   have D:x= .int k a:=(J 0 _ x rfl rfl).int;subst D;obtain⟨n,L,M⟩:=Qen (P:=P) (ρ:=ρ) (w:=w) Builtin.min2 mn (λk a k' b w=>by simp[Builtin.min2,mn]) k rest xs a Kp r (by simpa using G) (λi t x L M=>J (i+1) t x (by simpa using L) (by simpa using M)) h;refine⟨_,L, .int k n,?_,TVR.mkInt _ _⟩;rw[he];simp[builtin,Builtin.min_,M]
 ·rename_i k a rest
  match xs,G with
  |x::xs,G=>
   have D:x= .int k a:=(J 0 _ x rfl rfl).int;subst D;obtain⟨n,L,M⟩:=Qen (P:=P) (ρ:=ρ) (w:=w) Builtin.max2 mx (λk a k' b w=>by simp[Builtin.max2,mx]) k rest xs a Kp r (by simpa using G) (λi t x L M=>J (i+1) t x (by simpa using L) (by simpa using M)) h;refine⟨_,L, .int k n,?_,TVR.mkInt _ _⟩;rw[he];simp[builtin,Builtin.max_,M]
 ·rename_i s x'
  match xs,G with
  |[x,y],_=>
   have D:=(J 0 _ x rfl rfl).c;have S:=(J 1 _ y rfl rfl).c;split at h
   ·rename_i t u;split at h
    ·rename_i el T I U;split at h
     ·rename_i i ks V X;split at h
      ·rename_i z Y;cases hb:(Nat.beq t u&&Nat.beq z.cells.size i.size&&Nat.beq ks.length i.size)<;>rw[hb]at h
       ·simp at h
       ·simp only[ai]at h;simp only[ak]at hb;have e1:=af hb.1.1;have e2:=af hb.1.2;have e3:=af hb.2;subst e1;refine⟨_,h,t,ty,i,z,x,y,I,V,Y,e3.symm,rfl,by rw[e3];exact e2,D,S,?_⟩;rw[he];simp[builtin]
      ·simp at h
     ·simp at h
    ·simp at h
   ·simp at h
 ·simp at h
end
open Go.RowKit
section
variable {P:Program} {C:Cfg} {ρ:Env} {w:World} {R:Type}
theorem Qzx {α β:Type} (g:α->Sem β) (s:α->β):∀(l:List α) (w:World),(∀x∈l,(g x).run P w= .ok (s x) w)->(l.mapM g).run P w= .ok (l.map s) w
 |[],w,_=>by simp
 |x::l,w,h=>by
  rw[List.mapM_cons];simp only[Sem.run_bind,h x (by simp),db,Qzx g s l w (λy D=>h y (by simp[D])),Sem.run_pure,bm]
theorem Zok {fs:Array Field} (h:Al (Mq P) fs.toList=true) (w:World):
  (fs.mapM λf:Field=>(do let n<-sizeOf f.type;pure (f.offset,n):Sem (Nat×Nat))).run P w= .ok (fs.map λf=>(f.offset,(szT P f.type).getD 0)) w:=by
 rw[Array.mapM_eq_mapM_toList];have := Qzx (P := P) (λf : Field => (do let n <- sizeOf f.type; pure (f.offset, n) : Sem (Nat × Nat))) (λf => (f.offset, (szT P f.type).getD 0)) fs.toList w (λf hf => by
  have D:=AD.1 h f hf;unfold Mq at D;split at D
  ·rename_i n E;simp[Eu E,E]
  ·simp at D)
 simp only[Sem.run_map,this,db];congr 1;apply Array.ext';simp
theorem Z99 {fs:Array Field} (h:Al (Mq P) fs.toList=true):
  XX P fs.toList=λi:Nat=>(fs.map λf=>(f.offset,(szT P f.type).getD 0))[i]? :=by
 funext i
 rw[Array.getElem?_map,<-Array.getElem?_toList,XX];cases hf:fs.toList[i]? with
 |none=>rfl
 |some f=>
  have D:=AD.1 h f (cd hf);unfold Mq at D;cases E:szT P f.type with
  |none=>rw[E]at D;simp at D
  |some n=>simp[E]
def Sd (w:World) (b o:Nat) (D:List Value):Prop:=∀(j:Nat) (y:Value),D[j]? =some y->w.cell? ⟨b,o+j,none⟩=some y
theorem Qou {im:Nat->Prop}:∀(cs:List AC) (b o:Nat),CPs im w cs b o->∃D,CL (CP im w) cs D/\Sd w b o D
 |[],b,o,_=>⟨[],trivial,λj y h=>by simp at h⟩
 |c::cs,b,o,h=>by
  rw[CPs]at h;obtain⟨⟨y,G,I⟩,J⟩:=h;obtain⟨D,L,M⟩:=Qou cs b (o+1) J;refine⟨y::D,⟨I,L⟩,λj z E=> ?_⟩;cases j with
  |zero=>simp at E;subst E;exact G
  |succ j=>have:=M j z (by simpa using E);rwa [show o+(j+1)=o+1+j from by omega]
theorem Wz {im:Nat->Prop}:∀(cs:List AC) (D:List Value) (b o:Nat),CL (CP im w) cs D->Sd w b o D->CPs im w cs b o
 |[],[],b,o,_,_=>by simp[CPs]
 |c::cs,y::D,b,o,h,E=>by
  rw[CPs];exact⟨⟨y,E 0 y rfl,h.1⟩,Wz cs D b (o+1) h.2 λj z G=>by
   have:=E (j+1) z (by simpa using G)
   rwa [show o+1+j=o+(j+1)from by omega]⟩
 |[],_::_,_,_,h,_=>h.elim
 |_::_,[],_,_,h,_=>h.elim
theorem V7 {t:TypeId} {g:Bool} {sz:Nat} {cells:List AC} {sub b o:Nat} {v:TV} {E:List Value} (I:CX P t=some g) (M:szT P t=some sz)
  (h:DV g sz cells sub=some v) (N:CL (CC ρ w) cells E) (J:Sd w b o E):
  ∃x,(loadVar t ⟨b,o+sub,none⟩).run P w= .ok x w/\TVR ρ w v x:=by
 have L:=Qv4 h N;cases g
 ·obtain⟨x,O,G⟩:=L;refine⟨x,?_,G⟩;simp[loadVar,Ph I,J sub x O]
 ·obtain⟨hle,G⟩:=L;refine⟨_,?_,G⟩;have S:(cut E sub sz).length=sz:=by simp[cut];omega
  have := run_loadCells_list (P := P) w ⟨b, o + sub, none⟩ (cut E sub sz) (λj y D => by
   rw[Addr.add_lit];rw[show o+sub+j=o+(sub+j)from by omega];refine J (sub+j) y ?_;simp only[cut,fq]at D;split at D
   ·rw[dy]at D;exact D
   ·simp at D)
  rw[S]at this;simp[loadVar,Ph I,Eu M,this]
theorem YF {e:Operand->Value} {o:Oper} {t:TypeId} {x:Operand} {L O:Option Operand} {Y:TypeId} {m n cap:Nat} {V:Option Addr} {D G:Option Int} {l hh':Int}
  (ho:o.op= .slice t x L O none) (hu:P.underlying t=some (.slice Y)) (S:szT P Y=some m) (hc:e x= .slice V n cap) (a0:n<=cap)
  (E:ZY e L D) (I:ZY e O G)
  (J:D.getD 0=l) (T:G.getD (n:Int)=hh') (d1:0<=l) (d2:l<=hh') (d3:hh'<=(n:Int)):
  (execOp e o).run P w= .ok (.value (.slice (if cap=l.toNat then V else V.map (·.add (l.toNat*m))) (hh'.toNat-l.toNat) (cap-l.toNat))) w:=by
 simp only[execOp,ho,Instr.sliceAt,Sem.run_bind,run_underlying hu,db,hc,Option.map_none,Instr.slice,Instr.sliceBounds,Sem.run_pure,dv,Option.isSome_none,du,iv];have hH:∀y,O=some y->∃k,e y= .int k hh':=by
  rintro y rfl;cases G with
  |none=>exact I.elim
  |some q=>simp at T;subst T;exact I
 have hL:∀y,L=some y->∃k,e y= .int k l:=by
  rintro y rfl;cases D with
  |none=>exact E.elim
  |some q=>simp at J;subst J;exact E
 cases O with
 |none=>
  have M:G=none:=by cases G with
   |none=>rfl
   |some _=>exact I.elim
  subst M;simp at T;subst T;cases L with
  |none=>
   have M:D=none:=by cases D with
    |none=>rfl
    |some _=>exact E.elim
   subst M;simp at J;subst J;simp[Eu S]
  |some y=>
   obtain⟨k,X⟩:=hL y rfl;have U:l<=(n:Int):=d2;simp[Eu S,X,Instr.sliceBound,asIntOf,d1,U]
 |some z=>
  obtain⟨k',N⟩:=hH z rfl;have q1:0<=hh':=by omega
  have U:hh'<=(cap:Int):=by omega
  cases L with
  |none=>
   have M:D=none:=by cases D with
    |none=>rfl
    |some _=>exact E.elim
   subst M;simp at J;subst J;simp[Eu S,N,Instr.sliceBound,asIntOf,q1,U]
  |some y=>
   obtain⟨k,X⟩:=hL y rfl;simp[Eu S,X,N,Instr.sliceBound,asIntOf,d1,q1,U];intro q4;omega
theorem Z28 {im:Nat->Prop} {ks:List Kd} {l:List (List AC)} {E:Option Addr} {cap a b:Nat} (O:a<=b) (hb:b<=l.length)
  (h:CP im w (.vC ks l) (.slice E l.length cap)):CP im w (.vC ks ((l.take b).drop a)) (.slice (if cap=a then E else E.map (·.add (a*ks.length))) (b-a) (cap-a)):=by
 rw[CP]at h⊢;obtain⟨S,J,he,hle,T,hf⟩:=h;simp only[Value.slice.injEq,true_and]at he;obtain⟨rfl,rfl⟩:=he;have hlen:((l.take b).drop a).length=b-a:=by simp;omega
 refine⟨_,_,by rw[hlen],by rw[hlen];omega,λc U=>T c (dx (dp U)),?_⟩;by_cases L:(l.take b).drop a=[]
 ·exact .inl L
 ·right;have D:0<((l.take b).drop a).length:=List.length_pos_iff.2 L;rw[hlen]at D;rcases hf with hf|⟨b',o,rfl,G,I⟩
  ·subst hf;simp at hb;omega
  ·refine⟨b',o+a*ks.length,?_,G,TU λi M=> ?_⟩
   ·rw[ab];simp[Addr.add_lit]
   ·rw[hlen]at M;have N:=Qb0 I (a+i) (by omega);have e:((l.take b).drop a)[i]'(by rw[hlen];exact M)=l[a+i]'(by omega):=by simp
    rw[e];refine⟨N.1,?_⟩;have:=N.2;rw[dh,<-dm]at this;exact this
theorem Qm7:∀{D:List TV} {as:List AC},J3 D=some as->∀{xs:List Value},D.length=xs.length->(∀(i:Nat) (v:TV) (x:Value),D[i]? =some v->xs[i]? =some x->TVR ρ w v x)->CLc ρ w as xs
 |[],as,h,xs,E,_=>by
  simp[J3]at h;subst h;cases xs with
  |nil=>trivial
  |cons=>simp at E
 |v::D,as,h,xs,E,J=>by
  cases xs with
  |nil=>simp at E
  |cons x xs=>
   have L:=J 0 v x rfl rfl;unfold J3 at h;split at h
   ·simp at*
   ·rename_i a l heq;simp only[ju]at heq;obtain⟨rfl,rfl⟩:=heq;cases G:a.clOk<;>rw[G]at h
    ·simp at h
    ·simp only[ai]at h;split at h
     ·rename_i r I;simp at h;subst h;refine⟨?_,Qm7 I (by simpa using E) λi v x M N=>J (i+1) v x (by simpa using M) (by simpa using N)⟩;have O:=L.c;cases a<;>simp only[AC.clOk]at G<;>first|(simp at G;done)|exact O
     ·simp at h
   ·simp at h
theorem Qa0:∀{as:List AC} {xs:List Value},CLc ρ w as xs->(as.map TV.c).length=xs.length/\∀(i:Nat) (v:TV) (x:Value),(as.map TV.c)[i]? =some v->xs[i]? =some x->TVR ρ w v x
 |[],[],_=>⟨rfl,λi v x h=>by simp at h⟩
 |a::as,x::xs,h=>by
  obtain⟨G,I⟩:=Qa0 h.2;refine⟨by simpa using G,λi v y D E=> ?_⟩;cases i with
  |zero=>
   simp at D E;subst D;subst E;have:=h.1;cases a<;>first|exact TVR.c' this|(exact TVR.c' (Kc this))|(simp[CCc,CP]at this)
  |succ i=>exact I i v y (by simpa using D) (by simpa using E)
 |[],_::_,h=>h.elim
 |_::_,[],h=>h.elim
theorem Q4c {a b:List TV} {xs G:List Value} (I:a.length=xs.length/\∀(i:Nat) (v:TV) (x:Value),a[i]? =some v->xs[i]? =some x->TVR ρ w v x)
  (J:b.length=G.length/\∀(i:Nat) (v:TV) (x:Value),b[i]? =some v->G[i]? =some x->TVR ρ w v x):
  (a++b).length=(xs++G).length/\∀(i:Nat) (v:TV) (x:Value),(a++b)[i]? =some v->(xs++G)[i]? =some x->TVR ρ w v x:=by
 refine⟨by simp[I.1,J.1],λi v x D E=> ?_⟩;rw[ie]at D E;by_cases L:i<a.length
 ·rw[aa L]at D;rw[aa]at E;exact I.2 i v x D E
 ·rw[ab L]at D;rw[ab]at E;rw[I.1]at D;exact J.2 _ v x D E
theorem Zh0 (f5:∀t∈C.eqOk,P.stoodInHeld t=false) {ev:Operand->TV} {e:Operand->Value} (G:∀x,TVR ρ w (ev x) (e x))
  (d0:∀f,e (.func f)= .func (.func f) #[] #[]) (o:Oper) {Kp:Prim->Option R} {r:R} (h:opK P C ev o.dst o.op Kp=some r):
  ∃p,Kp p=some r/\JW P ρ w e o p:=by
 obtain⟨dst,op,type,pos,after,guard⟩:=o;have hx:∀(d4:Op) (v:TV) (x:Value),op=d4->((execOp e ⟨dst,d4,type,pos,after,guard⟩).run P w= .ok (.value x) w)->TVR ρ w v x->JW P ρ w e ⟨dst,op,type,pos,after,guard⟩ (.val v):=by
  rintro _ v x rfl N O;exact⟨x,N,O⟩
 cases op<;>simp only[opK]at h<;>try (simp at h;done)
 case move x=>exact⟨_,h,e x,by simp[execOp],G x⟩
 case assign x=>exact⟨_,h,e x,by simp[execOp],G x⟩
 case pick c a b=>
  split at h
  ·rename_i g I;have b5:e c= .bool g:=by have:=G c;rw[I]at this;exact this.bool
   cases g
   ·simp only[aq]at h;exact⟨_,h,e b,by simp[execOp,b5,asBool],G b⟩
   ·simp only[ai]at h;exact⟨_,h,e a,by simp[execOp,b5,asBool],G a⟩
  ·simp at h
 case alloc t=>
  split at h
  ·rename_i cs hz;obtain⟨v,E,I⟩:=U1 (ρ:=ρ) (w:=w) hz;refine⟨_,h,v.cells,I,?_⟩;simp[execOp,Instr.alloc,E,newVar,newRow]
  ·simp at h
 case box t x=>
  split at h
  ·rename_i cs I;exact⟨_,h,(e x).cells,(G x).cells I,by simp[execOp,Instr.box,newVar,newRow]⟩
  ·simp at h
 case build t parts=>
  split at h
  ·rename_i z fs hz L;obtain⟨v,E,I⟩:=U1 (ρ:=ρ) (w:=w) hz;cases a7:(Al (Mq P) fs.toList)<;>rw[a7]at h
   ·simp at h
   ·simp only[ai]at h;split at h
    ·rename_i cs hb;rw[Z99 a7]at hb;obtain⟨S,N,O,_⟩:=Ur G _ _ _ _ I hb;refine⟨_,h, .agg S,?_,⟨S,rfl,O⟩⟩;have g0:=Zok (P:=P) a7 w;simp only[execOp,Instr.build,Sem.run_bind,E,db,run_underlying L,g0,jb];rw[N];simp
    ·simp at h
  ·rename_i z n el hz L;obtain⟨v,E,I⟩:=U1 (ρ:=ρ) (w:=w) hz;split at h
   ·rename_i m hm;split at h
    ·rename_i cs hb;obtain⟨S,N,O,_⟩:=Ur G _ _ _ _ I hb;refine⟨_,h, .agg S,?_,⟨S,rfl,O⟩⟩;simp only[execOp,Instr.build,Sem.run_bind,E,db,run_underlying L,Eu hm,jb];rw[N];simp
    ·simp at h
   ·simp at h
  ·simp at h
 case buildSlice t n parts=>
  split at h
  ·rename_i el L;split at h
   ·rename_i m z ks hm hz g1;obtain⟨v,E,I⟩:=U1 (ρ:=ρ) (w:=w) hz;cases hb:(Nat.beq z.length m&&Nat.beq ks.length m&&Nat.ble 1 m&&Nat.ble (n*m) 65536)<;>rw[hb]at h
    ·simp at h
    ·simp only[ai]at h;simp only[ak]at hb;have e1:=af hb.1.1.1;have ek:=af hb.1.1.2;have e2:=bj hb.1.2;have e3:=bj hb.2;split at h
     ·rename_i cs g2;have a0:∃S:Array Value,CL (CC ρ w) cs S.toList/\S.toList.length=n*m/\(execOp e ⟨dst, .buildSlice t n parts,type,pos,after,guard⟩).run P w= .ok (.value (.slice (some ⟨w.heap.size,0,none⟩) n n)) (w.alloc (.cells S el)):=by
       have b6:v.cells.toList.length=m:=by rw[<-I.length];exact e1
       have g3:((Array.range (n*m)).map λi=>(if n*m=0 then #[]else v.cells)[i%(if n*m=0 then(#[]:Array Value)else v.cells).size]!).toList=(List.replicate n v.cells.toList).flatten:=by
        by_cases hn:n*m=0
        ·have:n=0:=by
          rcases Nat.mul_eq_zero.1 hn with h0|h0
          ·exact h0
          ·omega
         subst this;simp
        ·simp only[hn,iv];apply i8;intro j;by_cases hj:j<n*m
         ·rw[Q80 _ (by omega) n j (by rw[b6];exact hj),b6];have hs:v.cells.size=m:=by rw[<-b6];simp
          have T:j%m<v.cells.size:=by rw[hs];exact iq _ (by omega)
          simp[hj,hs];rw[getElem!_pos v.cells (j%m) T,jm T]
         ·have d5:v.cells.size=m:=by rw[<-b6];simp
          rw[df (by simp;omega),df (by simp[d5];omega)]
       have e4:=Q5p I n;rw[<-g3]at e4;obtain⟨S,N,O,h3⟩:=Ur G _ _ _ _ e4 g2;have c5:S.toList.length=n*m:=by rw[dw,h3];simp
       refine⟨S,O,c5,?_⟩;have a8: ¬(n*m>2^24):=by omega
       simp only[execOp,Instr.buildSlice,Sem.run_bind,run_underlying L,db,Eu hm,a8,iv,Sem.run_pure,jb];by_cases hn:n*m=0
       ·simp only[hn,dv]at N;simp only[hn,dv,Sem.run_bind,Sem.run_pure,db];rw[N];simp[newRow]
       ·simp only[hn,iv]at N;simp only[hn,iv,Sem.run_bind,E,Sem.run_pure,db];rw[N];simp[newRow]
      obtain⟨S,O,c5,a0⟩:=a0;split at h
      ·rename_i l e5;have b7:=Q3b _ _ _ e5;have key:∃arr:Array Value,0<ks.length/\l.length<=maxLen/\RowC ρ.im w ks l arr.toList/\
         (execOp e ⟨dst, .buildSlice t n parts,type,pos,after,guard⟩).run P w= .ok (.value (.slice (some ⟨w.heap.size,0,none⟩) l.length l.length)) (w.alloc (.cells arr el)):=by
        rw[b7];refine⟨S,by omega,?_,?_,a0⟩
        ·have:n<=n*m:=jt n (by omega);simp only[maxLen];omega
        ·exact Q3o n cs l _ e5 O ⟨b7,by rw[ek];exact c5⟩
       cases b5:TF C dst n<;>rw[b5]at h
       ·exact⟨_,h,key⟩
       ·exact⟨_,h,key⟩
      ·cases U:(Al AC.isClo cs&&Nat.beq m 1)<;>rw[U]at h
       ·simp at h
       ·simp only[ai]at h;simp only[ak]at U;exact⟨_,h,S,O,a0⟩
     ·simp at h
   ·simp at h
  ·simp at h
 case makeSlice t len cap=>
  split at h
  ·rename_i el n c L b7 a9;obtain⟨kl,g4⟩:=Rm b7 (G len);obtain⟨kc,g5⟩:=Rm a9 (G cap);split at h
   ·rename_i i z ks hi hz g1;split at h
    ·rename_i z' g6;cases hb:(Nat.beq ks.length i.size&&Nat.ble 1 i.size&&Nat.ble 1 i.bytes)<;>rw[hb]at h
     ·simp at h
     ·simp only[ai]at h;simp only[ak]at hb;have e1:=af hb.1.1;have e2:=bj hb.1.2;have e3:=bj hb.2;cases J:decide (n=c)<;>rw[J]at h
      ·simp at h
      ·simp only[ai]at h;have c6:n=c:=by simpa using J
       subst c6;unfold JT at hz;rw[hi]at hz;dsimp only at hz;split at hz
       ·rename_i zv g7;have U:CL (CC ρ w) z zv.cells.toList:=UN _ hz;obtain⟨f1,f2⟩:=S0 g6 U;refine⟨_,h,t,i,zv,kl,kc,L,hi,g7,e1.symm,rfl,by omega,e3,f2,f1,?_⟩;simp[execOp,g4,g5]
       ·simp at hz
    ·simp at h
   ·simp at h
  ·simp at h
 case makeFunc fn first captured=>
  split at h
  ·rename_i f;split at h
   ·rename_i fs cs b0 V;have ha:=Si G first.toList;have hb:=Si G captured.toList;refine⟨_,h, .func (.func f) (first.map e) (captured.map e),by simp[execOp,Instr.makeFunc],TVR.c' ⟨_,_,rfl,?_,?_⟩⟩
    ·rw[jb];exact Qm7 b0 ha.1 ha.2
    ·rw[jb];exact Qm7 V hb.1 hb.2
   ·simp at h
  ·simp at h
 case load t a=>
  split at h
  ·rename_i g sz hg hs;have ha:=G a;split at h
   ·rename_i key off D;rw[D]at ha;have E:=ha.c;simp only[CC]at E;refine⟨_,h,t,hg,hs,?_⟩;simp[execOp,Instr.loadAt,E,Instr.sureAddr]
   ·rename_i cells sub D;rw[D]at ha;obtain⟨b,o,E,b8,V⟩:=ha.c;split at h
    ·rename_i v g8;obtain⟨S,a4,a5⟩:=Qou cells b o V;obtain⟨x,g9,h6⟩:=V7 hg hs g8 (a4.mono λ_ _ _ hh=>Kc hh) a5;refine⟨_,h,x,?_,h6⟩;simp[execOp,Instr.loadAt,E,Instr.sureAddr,g9]
    ·simp at h
   ·rename_i id idx sub D;rw[D]at ha;obtain⟨g',a1,E⟩:=ha.c;refine⟨_,h,t,g',hg,hs,a1,?_⟩;simp[execOp,Instr.loadAt,E,Instr.sureAddr]
   ·simp at h
  ·simp at h
 case store t a x=>
  split at h
  ·rename_i sz cs hs V;cases hb:Nat.beq cs.length sz<;>rw[hb]at h
   ·simp at h
   ·simp only[ai]at h;have e1:=af hb;subst e1;have ha:=G a;split at h
    ·rename_i key off D;rw[D]at ha;have E:=ha.c;simp only[CC]at E;refine⟨_,h,t,e x,hs,(G x).cells V,?_⟩;simp[execOp,Instr.storeAt,E,Instr.sureAddr]
    ·rename_i id idx sub D;rw[D]at ha;obtain⟨g',a1,E⟩:=ha.c;refine⟨_,h,t,e x,g',hs,(G x).cells V,a1,?_⟩;simp[execOp,Instr.storeAt,E,Instr.sureAddr]
    ·simp at h
  ·simp at h
 case nilCheck x=>
  have E:=G x;split at h
  ·rename_i key off D;rw[D]at E;have I:=E.c;simp only[CC]at I;exact⟨_,h,e x,by simp[execOp,I],E⟩
  ·rename_i id idx sub D;rw[D]at E;obtain⟨g',a1,I⟩:=E.c;exact⟨_,h,e x,by simp[execOp,I],E⟩
  ·rename_i cs sub D;rw[D]at E;obtain⟨b,o,I,_⟩:=E.c;exact⟨_,h,e x,by simp[execOp,I],E⟩
  ·simp at h
 case binOp e6 t x y yt=>
  have a2:=G x;have a3:=G y;split at h
  ·rename_i k a k' b hex a6;rw[hex]at a2;rw[a6]at a3;have e1:=a2.int;have e2:=a3.int;cases hk:kEq k k'<;>rw[hk]at h
   ·cases e7:Ob e6<;>rw[e7]at h
    ·simp at h
    ·simp only[Bool.false_or,ai]at h;obtain⟨c,v,N,O,h3,h4,h5⟩:=Zhb (P:=P) (ρ:=ρ) (w:=w) e7 t k k' a b _ h;refine⟨_,N,v,?_,TVR.c' (Kc O)⟩;simp[execOp,e1,e2,eqGuard_at_int,h3]
   ·simp only[Bool.true_or,ai]at h;have:=P6 hk;subst this;obtain⟨c,v,N,O,h3⟩:=Zvq (P:=P) (ρ:=ρ) (w:=w) e6 t k a b _ h;refine⟨_,N,v,?_,TVR.c' (Kc O)⟩;simp[execOp,e1,e2,eqGuard_at_int,h3]
  ·rename_i a b hex a6;rw[hex]at a2;rw[a6]at a3;have e1:=a2.bool;have e2:=a3.bool;split at h
   ·rename_i L;refine⟨_,h, .bool (a==b),?_,TVR.mkBool _⟩;simp[execOp,e1,e2,eqGuard_at_bool,binOp,Op.equal,Op.maxDepth,run_equalIn_bool' w 9999 t a b L]
   ·rename_i L;refine⟨_,h, .bool (!(a==b)),?_,TVR.mkBool _⟩;simp[execOp,e1,e2,eqGuard_at_bool,binOp,Op.equal,Op.maxDepth,run_equalIn_bool' w 9999 t a b L]
   ·simp at h
  ·rename_i key off hex a6;rw[hex]at a2;rw[a6]at a3;have e1:=a2.c;have e2:=a3.c;simp only[CC]at e1;simp only[CC,CP]at e2;have e2:=e2.1;split at h
   ·rename_i el L;have hp:P.underlying t=some (.pointer (P.pointee t)):=by simp[Program.pointee,L]
    refine⟨_,h, .bool false,?_,TVR.mkBool _⟩;simp[execOp,e1,e2,eqGuard_at_pointer,run_eql_pointer_nil w t _ hp]
   ·rename_i el L;have hp:P.underlying t=some (.pointer (P.pointee t)):=by simp[Program.pointee,L]
    refine⟨_,h, .bool true,?_,TVR.mkBool _⟩;simp[execOp,e1,e2,eqGuard_at_pointer,run_neq_pointer_nil w t _ hp]
   ·simp at h
  ·rename_i xs S hex a6;rw[hex]at a2;rw[a6]at a3;obtain⟨X,e1,hX⟩:=a2.agg;obtain⟨Y,e2,hY⟩:=a3.agg;cases a8:P.eqGuardType P.depth t<;>rw[a8]at h
   ·simp only[aq]at h;have key:∀q,CX P t=some true->eqC P C.eqOk 20 t xs S=some q->(Op.equalIn 10000 t (.agg X) (.agg Y)).run P w= .ok q w:=by
     intro q hg hq;exact Q3h f5 20 10000 (by omega) t xs S q _ _ hq (by simp only[FY,hg];exact⟨X,rfl,hX⟩) (by simp only[FY,hg];exact⟨Y,rfl,hY⟩)
    split at h
    ·rename_i q hg hq;refine⟨_,h, .bool q,?_,TVR.mkBool _⟩;simp[execOp,e1,e2,run_eqGuard_agg w .eql t x y X Y a8,run_eql_struct,key q hg hq]
    ·rename_i q hg hq;refine⟨_,h, .bool (!q),?_,TVR.mkBool _⟩;simp[execOp,e1,e2,run_eqGuard_agg w .neq t x y X Y a8,run_neq_struct,key q hg hq]
    ·simp at h
   ·simp at h
  ·simp at h
 case unOp i3 t x=>
  have E:=G x;split at h
  ·rename_i k n D;rw[D]at E;have e1:=E.int;exact⟨_,h, .int k (k.wrap (0-n)),by simp[execOp,e1,Op.unary,Op.intArith],TVR.mkInt _ _⟩
  ·rename_i b D;rw[D]at E;have e1:=E.bool;exact⟨_,h, .bool (!b),by simp[execOp,e1,Op.unary],TVR.mkBool _⟩
  ·simp at h
 case convert src i2 x=>
  have E:=G x;split at h
  ·rename_i d k k' n hs J D;rw[D]at E;have e1:=E.int;refine⟨_,h, .int k (k.wrap n),?_,TVR.mkInt _ _⟩;simp[execOp,e1,convert,run_underlying hs,run_underlying J,Conv.intToInt]
  ·simp at h
 case fieldAddr t x i=>
  split at h
  ·rename_i f hf;have b0:∃fs,P.underlying t=some (.struct fs)/\fs[i]? =some f:=by
    unfold UI at hf;split at hf
    ·rename_i fs L;exact⟨fs,L,by simpa using hf⟩
    ·simp at hf
   obtain⟨fs,L,b1⟩:=b0;split at h
   ·rename_i n hn;have i4:n+1≠0:=by omega
    have E:=G x;have fp:∀(b o:Nat),(fieldPlace ⟨b,o,none⟩ f).run P w= .ok ⟨b,o+f.offset,none⟩ w:=by
     intro b o;simp[fieldPlace,Eu hn,Addr.add_lit]
    split at h
    ·rename_i key off D;rw[D]at E;have I:=E.c;simp only[CC]at I;refine⟨_,h, .pointer (some ⟨ρ.bx key,off+f.offset,none⟩),?_,TVR.c' (by simp[CC])⟩;simp[execOp,Instr.fieldAt,run_underlying L,b1,I,Instr.sureAddr,fp]
    ·rename_i id idx sub D;rw[D]at E;obtain⟨g',a1,I⟩:=E.c;refine⟨_,h, .pointer (some ⟨g',Ib (ρ.rv id)+(idx*ρ.wd id+sub)+f.offset,none⟩),?_,TVR.c' ⟨g',a1,by rw[dm,dm]⟩⟩;simp[execOp,Instr.fieldAt,run_underlying L,b1,I,Instr.sureAddr,fp]
    ·rename_i cs sub D;rw[D]at E;obtain⟨b,o,I,N,O⟩:=E.c;refine⟨_,h, .pointer (some ⟨b,o+sub+f.offset,none⟩),?_,TVR.c' ⟨b,o,by rw[dm],N,O⟩⟩;simp[execOp,Instr.fieldAt,run_underlying L,b1,I,Instr.sureAddr,fp]
    ·simp at h
   ·simp at h
  ·simp at h
 case field t x i=>
  split at h
  ·rename_i f cs hf D;have b0:∃fs,P.underlying t=some (.struct fs)/\fs[i]? =some f:=by
    unfold UI at hf;split at hf
    ·rename_i fs L;exact⟨fs,L,by simpa using hf⟩
    ·simp at hf
   obtain⟨fs,L,b1⟩:=b0;have E:=G x;rw[D]at E;obtain⟨S,I,U⟩:=E.agg;split at h
   ·rename_i v hp;obtain⟨y,a4,a5⟩:=Q31 (P:=P) hp U;refine⟨_,h,y,?_,a5⟩;simp[execOp,Instr.field,run_underlying L,b1,I,asAgg,a4]
   ·simp at h
  ·simp at h
 case indexAddr t x ix=>
  split at h
  ·rename_i i n el hi L;obtain⟨k,hk⟩:=Rm hi (G ix);have E:=G x;split at h
   ·rename_i m key off hm D;rw[D]at E;have I:=E.c;simp only[CC]at I;obtain⟨j,N,O,h3,h4⟩:=Iv h;refine⟨_,N, .pointer (some ⟨ρ.bx key,off+j*m,none⟩),?_,TVR.c' (by simp[CC])⟩;have T:j<n:=by omega
    simp[execOp,Instr.indexAt,run_underlying L,hk,asIntOf,I,Instr.sureAddr,O,T,Eu hm,Addr.add_lit]
   ·rename_i m id idx sub hm D;rw[D]at E;obtain⟨g',a1,I⟩:=E.c;obtain⟨j,N,O,h3,h4⟩:=Iv h;refine⟨_,N, .pointer (some ⟨g',Ib (ρ.rv id)+(idx*ρ.wd id+sub)+j*m,none⟩),?_,TVR.c' ⟨g',a1,by rw[dm,dm]⟩⟩;have T:j<n:=by omega
    simp[execOp,Instr.indexAt,run_underlying L,hk,asIntOf,I,Instr.sureAddr,O,T,Eu hm,Addr.add_lit]
   ·rename_i m cs sub hm D;rw[D]at E;obtain⟨b,o,I,b8,V⟩:=E.c;obtain⟨j,N,O,h3,h4⟩:=Iv h;refine⟨_,N, .pointer (some ⟨b,o+sub+j*m,none⟩),?_,TVR.c' ⟨b,o,by rw[dm],b8,V⟩⟩;have T:j<n:=by omega
    simp[execOp,Instr.indexAt,run_underlying L,hk,asIntOf,I,Instr.sureAddr,O,T,Eu hm,Addr.add_lit]
   ·simp at h
  ·rename_i i el hi L;obtain⟨k,hk⟩:=Rm hi (G ix);have E:=G x;split at h
   ·rename_i m ks l hm D;rw[D]at E;have I:=E.c;simp only[CC,CP]at I;obtain⟨ad,cap,I,c0,h7,hf⟩:=I;cases hb:Nat.beq m ks.length<;>rw[hb]at h
    ·simp at h
    ·simp only[ai]at h;have e1:=af hb;subst e1;cases J:(decide (0<=i)&&decide (i<(l.length:Int)))<;>rw[J]at h
     ·simp at h
     ·simp only[ai]at h;simp at J;have b9:i.toNat<l.length:=by omega
      rcases hf with hf|⟨b,o,rfl,b8,h8⟩
      ·subst hf;simp at b9
      ·obtain⟨i5,V⟩:=Qb0 h8 i.toNat b9;have e8:AV ks (nth [] l i.toNat)=l[i.toNat]:=by
        rw[B5,List.getD,ag b9];exact h7 _ (bf b9)
       refine⟨_,h, .pointer (some ⟨b,o+i.toNat*ks.length+0,none⟩),?_,TVR.c' ⟨b,o+i.toNat*ks.length,rfl,b8,by rw[e8];exact V⟩⟩;simp[execOp,Instr.indexAt,run_underlying L,hk,asIntOf,I,J,Eu hm,Addr.add_lit]
   ·rename_i m id wd n hm D;rw[D]at E;obtain⟨e9,h9,b2⟩:=E.c;cases hb:Nat.beq m wd<;>rw[hb]at h
    ·simp at h
    ·simp only[ai]at h;have e1:=af hb;subst e1;cases J:(decide (0<=i)&&decide (i<(n:Int)))<;>rw[J]at h
     ·simp at h
     ·simp only[ai]at h;simp at J;rcases b2 with⟨_,rfl⟩|⟨g',o',c',b2⟩
      ·omega
      ·refine⟨_,h, .pointer (some ⟨g',o'+(i.toNat*ρ.wd id+0),none⟩),?_,TVR.c' ⟨g',by rw[<-e9,b2];rfl,by rw[<-e9,b2];rfl⟩⟩;simp[execOp,Instr.indexAt,run_underlying L,hk,asIntOf,b2,J,Eu hm,Addr.add_lit,h9]
   ·rename_i m key n hm D;rw[D]at E;have I:=E.c;simp only[CC]at I;cases hb:Nat.beq m 1<;>rw[hb]at h
    ·simp at h
    ·simp only[ai]at h;have e1:=af hb;subst e1;obtain⟨j,N,O,h3,h4⟩:=Iv h;refine⟨_,N, .pointer (some ⟨ρ.bx key,j,none⟩),?_,TVR.c' (by simp[CC])⟩;have T:j<n:=by omega
     simp[execOp,Instr.indexAt,run_underlying L,hk,asIntOf,I,O,T,Eu hm,Addr.add_lit]
   ·simp at h
  ·simp at h
 case index t x ix=>
  split at h
  ·rename_i i n el cs hi L D;obtain⟨k,hk⟩:=Rm hi (G ix);have E:=G x;rw[D]at E;obtain⟨S,I,U⟩:=E.agg;split at h
   ·rename_i m hm;obtain⟨j,N,O,h3,h4⟩:=Iv h;have T:j<n:=by omega
    split at N
    ·rename_i v hp;obtain⟨y,a4,a5⟩:=Q31 (P:=P) hp U;refine⟨_,N,y,?_,a5⟩;simp[execOp,Instr.index,run_underlying L,hk,asIntOf,I,O,T,Eu hm,a4]
    ·simp at N
   ·simp at h
  ·simp at h
 case slice t x lo hi mx=>
  split at h
  ·rename_i _ f0 f3 el i0 i1 L;have b3:=Zd3 G i0;have b4:=Zd3 G i1;have E:=G x;split at h
   ·rename_i m ks l hm D;rw[D]at E;have a9:=E.c;have I:=a9;simp only[CC,CP]at I;obtain⟨ad,cap,I,c0,_⟩:=I;rw[I]at a9;cases hb:Nat.beq m ks.length<;>rw[hb]at h
    ·simp at h
    ·simp only[ai]at h;have e1:=af hb;subst e1;have key:∀(a b:Int),f0.getD 0=a->f3.getD (l.length:Int)=b->0<=a->a<=b->b<=(l.length:Int)->JW P ρ w e ⟨dst, .slice t x lo hi none,type,pos,after,guard⟩ (.val (.c (.vC ks ((l.take b.toNat).drop a.toNat)))):=by
      intro a b ha c7 d1 d2 d3;refine⟨_,YF rfl L hm I c0 b3 b4 ha c7 d1 d2 d3,TVR.c' ?_⟩;exact Z28 (by omega) (by omega) a9
     split at h
     ·refine⟨_,h,?_⟩;have:=key 0 l.length rfl rfl (by omega) (by omega) (by omega);simpa using this
     ·rename_i a;cases J:(decide (0<=a)&&decide (a<=(l.length:Int)))<;>rw[J]at h
      ·simp at h
      ·simp only[ai]at h;simp only[ak,cz]at J;refine⟨_,h,?_⟩;have:=key a l.length rfl rfl J.1 J.2 (by omega);simpa using this
     ·rename_i b;cases J:(decide (0<=b)&&decide (b<=(l.length:Int)))<;>rw[J]at h
      ·simp at h
      ·simp only[ai]at h;simp only[ak,cz]at J;refine⟨_,h,?_⟩;have:=key 0 b rfl rfl (by omega) J.1 J.2;simpa using this
     ·rename_i a b;cases J:(decide (0<=a)&&decide (a<=b)&&decide (b<=(l.length:Int)))<;>rw[J]at h
      ·simp at h
      ·simp only[ai]at h;simp only[ak,cz]at J;exact⟨_,h,key a b rfl rfl J.1.1 J.1.2 J.2⟩
   ·rename_i m id wd n hm D;rw[D]at E;obtain⟨c1,c2,c3⟩:=E.c;split at h
    ·rename_i a;cases hb:Nat.beq m wd<;>rw[hb]at h
     ·simp at h
     ·simp only[ai]at h;have e1:=af hb;subst e1;cases J:(decide (0<=a)&&decide (a<=(n:Int)))<;>rw[J]at h
      ·simp at h
      ·simp only[ai]at h;simp only[ak,cz]at J;refine⟨_,h,λad n' cap c8 c6 j1=> ?_⟩;have hn:n'=n:=by
        rcases c3 with⟨c3,c4⟩|⟨_,_,_,c3⟩
        ·rw[c1,c8]at c3;simp at c3;omega
        ·rw[c1,c8]at c3;simp at c3;exact c3.2.1
       subst hn;have a0:=YF (P:=P) (w:=w) (e:=e) (o:=⟨dst, .slice t x lo hi none,type,pos,after,guard⟩) rfl L hm (c1.trans c8) c6 b3 b4 (l:=a) (hh':=(n':Int)) rfl rfl J.1 J.2 (bz _);rw[c2];simpa using a0
    ·simp at h
   ·rename_i m hm D;rw[D]at E;have I:=E.c;simp only[CC,CP]at I;have key:f0.getD 0=0->f3.getD ((0:Nat):Int)=0->JW P ρ w e ⟨dst, .slice t x lo hi none,type,pos,after,guard⟩ (.val (.c .nilSl)):=by
     intro ha c7;refine⟨_,YF rfl L hm I (cx _) b3 b4 ha c7 (by omega) (by omega) (by omega),TVR.c' ?_⟩;simp[CC,CP]
    split at h
    ·exact⟨_,h,key rfl rfl⟩
    ·rename_i a;cases J:decide (a=0)<;>rw[J]at h
     ·simp at h
     ·simp only[ai]at h;simp only[cz]at J;exact⟨_,h,key J rfl⟩
    ·rename_i b;cases J:decide (b=0)<;>rw[J]at h
     ·simp at h
     ·simp only[ai]at h;simp only[cz]at J;exact⟨_,h,key rfl J⟩
    ·rename_i a b;cases J:(decide (a=0)&&decide (b=0))<;>rw[J]at h
     ·simp at h
     ·simp only[ai]at h;simp only[ak,cz]at J;exact⟨_,h,key J.1 J.2⟩
   ·simp at h
  ·simp at h
 case extract t i=>
  have E:=G t;split at h
  ·rename_i ps D;rw[D]at E;obtain⟨S,I,hp⟩:=E;split at h
   ·rename_i g cs hg;have key:∀(l:List (Bool×List AC)) (xs:List Value) (i:Nat),TP ρ w l xs->l[i]? =some (g,cs)->∃y,xs[i]? =some y/\TVR ρ w (.v g cs) y:=by
     intro l;induction l with
     |nil=>intro xs i _ hh;simp at hh
     |cons p l ih=>
      intro xs i c9 hh;cases xs with
      |nil=>exact c9.elim
      |cons y xs=>
       cases i with
       |zero=>
        simp at hh;subst hh;refine⟨y,rfl,?_⟩;have:=c9.1;cases g<;>exact this
       |succ i=>simpa using ih xs i c9.2 (by simpa using hh)
    obtain⟨y,a4,a5⟩:=key ps S.toList i hp hg;refine⟨_,h,y,?_,a5⟩;have f4:S[i]? =some y:=by simpa using a4
    simp[execOp,Instr.extract,I,f4]
   ·simp at h
  ·simp at h
 case call c=>
  have M:=Si G c.args.toList;split at h
  ·rename_i b hb;obtain⟨cs,V⟩:=Zyc (e:=e) (o:=⟨dst, .call c,type,pos,after,guard⟩) (c:=c) rfl hb;refine Zor (xs:=c.args.toList.map e) (by rw[M.1]) M.2 h (ty:=type) (cs:=cs) ?_;rw[V,<-jb]
  ·rename_i f hf;cases hp:C.pure f<;>rw[hp]at h
   ·exact⟨_,h,c.args.toList.map e,M.1.symm,M.2,Qux rfl hf (d0 f)⟩
   ·exact⟨_,h,c.args.toList.map e,M.1.symm,M.2,Qux rfl hf (d0 f)⟩
  ·rename_i t ht;split at h
   ·rename_i f fs cs U;have E:=G (.tmp t);rw[U]at E;obtain⟨xs,S,I,N,O⟩:=E.c;obtain⟨q1,q2⟩:=Q4c (Qa0 N) (Q4c M (Qa0 O));cases U:(Al AC.clOk fs&&Al AC.clOk cs)<;>rw[U]at h
    ·simp at h
    ·exact⟨_,h,_,q1.symm,q2,Z0a rfl ht I⟩
   ·simp at h
  ·simp at h
end
open Go.RowKit
section defs
variable (aB:List (Nat×Box)) (aC:List (Nat×Row))
def AC.wfP:AC->Prop
 | .ptr key _=>∃b,Ac aB key=some b
 |_=>True
def AC.wf:AC->Prop
 | .ptr key _=>∃b,Ac aB key=some b
 | .bsl key _=>∃b,Ac aB key=some b
 | .own id w n=>∃r,Ac aC id=some r/\r.n=n/\r.w=w
 | .rptr id idx _=>∃r,Ac aC id=some r/\idx<r.n
 | .vptr cs _=>Al AC.calm cs=true
 | .clo _ fs cs=>(∀a∈fs,AC.wfP aB a)/\∀a∈cs,AC.wfP aB a
 |_=>True
def TV.wf:TV->Prop
 | .v _ cs=>∀a∈cs,AC.wf aB aC a
 | .tup ps=>∀p∈ps,∀a∈p.2,AC.wf aB aC a
 | .vD=>True
end defs
structure Fr (F : Nat -> Prop) (w w' : World) : Prop where
 os:w'.os=w.os
 tape:w'.tape=w.tape
 output:w'.output=w.output
 size:w.heap.size<=w'.heap.size
 block:∀k,F k->w'.heap[k]? =w.heap[k]?
theorem Fr.refl (F:Nat->Prop) (w:World):Fr F w w:=⟨rfl,rfl,rfl,cx _,λ_ _=>rfl⟩
theorem Fr.trans {F:Nat->Prop} {a b c:World} (h:Fr F a b) (k:Fr F b c):Fr F a c:=
 ⟨k.os.trans h.os,k.tape.trans h.tape,k.output.trans h.output,cq h.size k.size,λi D=>(k.block i D).trans (h.block i D)⟩
theorem Fr.mono {F D:Nat->Prop} {w w':World} (h:Fr F w w') (E:∀k,D k->F k):Fr D w w':=⟨h.os,h.tape,h.output,h.size,λk G=>h.block k (E k G)⟩
theorem Fr.drew {F:Nat->Prop} {a w:World} (h:Fr F a w):Fr F a w.drew:=⟨h.os,h.tape,h.output,h.size,h.block⟩
theorem Fr.alloc {F:Nat->Prop} {a w:World} (h:Fr F a w) (D:∀k,F k->k<w.heap.size) (o:Obj):Fr F a (w.alloc o):=
 h.trans ⟨rfl,rfl,rfl,by simp,λk E=>Below.heap_alloc _ _ _ (D k E)⟩
theorem Fr.of_below {w w':World} {F:Nat->Prop} (h:Below w.heap.size w w') (D:∀k,F k->k<w.heap.size):Fr F w w':=⟨h.os,h.tape,h.output,h.size,λk E=>h.block k (D k E)⟩
theorem Fr.grown {F:Nat->Prop} {a w w':World} {row:Option Nat} (h:Fr F a w) (D:w.grownBy w' row) (G:∀k,F k->k<w.heap.size) (I:∀k,row=some k-> ¬F k):Fr F a w':=
 h.trans ⟨D.os,D.tape,D.output,D.size,λk E=>D.block k (G k E) (λe=>I k e.symm E)⟩
structure Base where
 F:Nat->Prop
 w0:World
 I0:Nat->Prop
 K0:Nat->Option Nat
structure RelE (Z : Base) (tm : List TV) (aB : List (Nat × Box)) (aC : List (Nat × Row)) (ρ : Env) (tmps : Array Value) (w : World) : Prop where
 tl:tm.length=tmps.size
 tv:∀(i:Nat) (v:TV),tm[i]? =some v->TVR ρ w v (tmps.getD i undef)
 wt:∀v∈tm,TV.wf aB aC v
 wb:∀(k:Nat) (b:Box),Ac aB k=some b->∀a∈b.cells,AC.wf aB aC a
 bx:∀(k:Nat) (b:Box),Ac aB k=some b->∃arr:Array Value,w.heap[ρ.bx k]? =some (.cells arr b.ty (0,0))/\CL (CC ρ w) b.cells arr.toList/\ ¬Z.F (ρ.bx k)
 bi:∀(k k':Nat) (b b':Box),Ac aB k=some b->Ac aB k'=some b'->ρ.bx k=ρ.bx k'->k=k'
 ro:∀(id:Nat) (r:Row),Ac aC id=some r->0<r.w/\ρ.wd id=r.w/\(∀g,(ρ.rv id).ownBlock=some g-> ¬Z.F g)/\∃xs,E9 w r.ty r.w (ρ.rv id) r.n xs/\RowC ρ.im w r.ks r.l xs
 ri:∀(id id':Nat) (r r':Row) (g:Nat),Ac aC id=some r->Ac aC id'=some r'->(ρ.rv id).ownBlock=some g->(ρ.rv id').ownBlock=some g->id=id'
 br:∀(k:Nat) (b:Box) (id:Nat) (r:Row),Ac aB k=some b->Ac aC id=some r->(ρ.rv id).ownBlock≠some (ρ.bx k)
 ib:∀b,ρ.im b->b<w.heap.size/\(∀(k:Nat) (bo:Box),Ac aB k=some bo->ρ.bx k≠b)/\(∀(id:Nat) (r:Row),Ac aC id=some r->(ρ.rv id).ownBlock≠some b)
 fr:Fr Z.F Z.w0 w
 fs:∀k,Z.F k->k<w.heap.size
 i0:∀b,Z.I0 b->ρ.im b
 i1:∀b,ρ.im b->Z.I0 b\/ ¬Z.F b
 k0:∀k b,Z.K0 k=some b->ρ.bx k=b/\∃bo,Ac aB k=some bo
section
variable {P:Program} {C:Cfg} {ρ:Env} {w:World} {R:Type} {Z:Base} {tm:List TV} {aB:List (Nat×Box)} {aC:List (Nat×Row)} {tmps:Array Value}
theorem P_ {w:World} {b:Nat} {o:Obj} (h:w.heap[b]? =some o):b<w.heap.size:=(dt.1 h).1
theorem RelE.bxlt (h:RelE Z tm aB aC ρ tmps w) {k:Nat} {b:Box} (D:Ac aB k=some b):ρ.bx k<w.heap.size:=by
 obtain⟨arr,E,_⟩:=h.bx k b D;exact P_ E
theorem RelE.rwlt (h:RelE Z tm aB aC ρ tmps w) {id:Nat} {r:Row} (E:Ac aC id=some r) {g:Nat} (D:(ρ.rv id).ownBlock=some g): ¬Z.F g/\g<w.heap.size:=by
 obtain⟨_,_,G,xs,I,_⟩:=h.ro id r E;exact⟨G g D,Q5w I g D⟩
theorem TVR.mono {ρ ρ':Env} {w w':World} (G:∀(a:AC) (x:Value),CC ρ w a x->CC ρ' w' a x):∀(v:TV) (x:Value),TVR ρ w v x->TVR ρ' w' v x:=by
 intro v x h;have J:∀{l xs},CL (CC ρ w) l xs->CL (CC ρ' w') l xs:=λh=>h.mono λa _ x L=>G a x L;cases v with
 |vD=>trivial
 |v g cs=>
  cases g
  ·obtain⟨a,E,D⟩:=h;exact⟨a,E,G a _ D⟩
  ·obtain⟨I,E,D⟩:=h;exact⟨I,E,J D⟩
 |tup ps=>
  obtain⟨I,E,D⟩:=h;refine⟨I,E,?_⟩;generalize I.toList=l at D;clear E;induction ps generalizing l with
  |nil=>cases l<;>first|exact D|exact D.elim
  |cons p ps M=>
   cases l with
   |nil=>exact D.elim
   |cons y l=>
    obtain⟨g,cs⟩:=p;refine⟨?_,M l D.2⟩;have:=D.1;cases g
    ·obtain⟨a,E,D⟩:=this;exact⟨a,E,G a _ D⟩
    ·obtain⟨I,E,D⟩:=this;exact⟨I,E,J D⟩
theorem TVR.mono' {ρ L:Env} {w w':World} {v:TV} (E:∀(a:AC) (x:Value),AC.wf aB aC a->CC ρ w a x->CC L w' a x) (J:TV.wf aB aC v) {x:Value} (h:TVR ρ w v x):TVR L w' v x:=by
 have O:∀{l xs},(∀a∈l,AC.wf aB aC a)->CL (CC ρ w) l xs->CL (CC L w') l xs:=λS h=>h.mono λa T x U=>E a x (S a T) U;cases v with
 |vD=>trivial
 |v g cs=>
  cases g
  ·obtain⟨a,G,D⟩:=h;subst G;exact⟨a,rfl,E a _ (J a (by simp)) D⟩
  ·obtain⟨I,G,D⟩:=h;exact⟨I,G,O J D⟩
 |tup ps=>
  obtain⟨I,G,D⟩:=h;refine⟨I,G,?_⟩;generalize I.toList=l at D;clear G;induction ps generalizing l with
  |nil=>cases l<;>first|exact D|exact D.elim
  |cons p ps V=>
   cases l with
   |nil=>exact D.elim
   |cons y l=>
    obtain⟨g,cs⟩:=p;refine⟨?_,V (λq X=>J q (by simp[X])) l D.2⟩;have:=D.1;cases g
    ·obtain⟨a,M,N⟩:=this;subst M;exact⟨a,rfl,E a _ (J (false,[a]) (by simp) a (by simp)) N⟩
    ·obtain⟨I,M,N⟩:=this;exact⟨I,M,O (J (true,cs) (by simp)) N⟩
theorem RowC.mono {im D:Nat->Prop} {w w':World} {ks:List Kd} {l:List (List AC)} {xs:List Value} (G:∀b,im b->D b) (hb:∀b,im b->w'.heap[b]? =w.heap[b]?) (h:RowC im w ks l xs):RowC D w' ks l xs:=
 ⟨h.1,h.2.1,λi c E=>(h.2.2 i c E).mono λa _ x I=>CP.mono G hb a x I⟩
theorem AC.agree_refl {ρ D:Env} (E:D.bx=ρ.bx) (G:D.rv=ρ.rv) (I:D.wd=ρ.wd) (a:AC):a.agree ρ D:=by
 have J:∀a:AC,a.agreeP ρ D:=by intro a;cases a<;>first|(simp only[AC.agreeP,E];done)|trivial
 cases a with
 |ptr=>simp only[AC.agree,E]
 |bsl=>simp only[AC.agree,E]
 |own=>simp only[AC.agree,G,I,and_self]
 |rptr=>simp only[AC.agree,G,I,and_self]
 |clo=>exact⟨λa _=>J a,λa _=>J a⟩
 |_=>trivial
theorem CC.keep {g:Nat} {w':World} (E: ¬ρ.im g) (hb:∀b,b≠g->w'.heap[b]? =w.heap[b]?) (a:AC) (x:Value) (h:CC ρ w a x):CC ρ w' a x:=
 CC.mono (λ_ h=>h) (λb D=>hb b (λe=>E (e▸D))) a x (AC.agree_refl rfl rfl rfl a) h
def upN {α:Type} (f:Nat->α) (k:Nat) (v:α):Nat->α:=λj=>if j=k then v else f j
theorem B3 {α:Type} (f:Nat->α) (k:Nat) (v:α):upN f k v k=v:=by simp[upN]
theorem Cr {α:Type} (f:Nat->α) (k:Nat) (v:α) {j:Nat} (h:j≠k):upN f k v j=f j:=by simp[upN,h]
theorem AC.wfP_mono {D:List (Nat×Box)} (hb:∀(k:Nat) (b:Box),Ac aB k=some b->∃b',Ac D k=some b') {a:AC} (h:AC.wfP aB a):AC.wfP D a:=by
 cases a with
 |ptr k o=>obtain⟨b,h⟩:=h;exact hb k b h
 |_=>trivial
theorem AC.wf_mono {D:List (Nat×Box)} {E:List (Nat×Row)} (hb:∀(k:Nat) (b:Box),Ac aB k=some b->∃b',Ac D k=some b')
  (N:∀(k:Nat) (r:Row),Ac aC k=some r->∃r',Ac E k=some r'/\r'.n=r.n/\r'.w=r.w) {a:AC} (h:AC.wf aB aC a):AC.wf D E a:=by
 cases a with
 |ptr k o=>obtain⟨b,h⟩:=h;exact hb k b h
 |bsl k o=>obtain⟨b,h⟩:=h;exact hb k b h
 |own id w' n=>obtain⟨r,G,I,S⟩:=h;obtain⟨r',J,L,O⟩:=N id r G;exact⟨r',J,by rw[L,I],by rw[O,S]⟩
 |rptr id i s=>obtain⟨r,G,I⟩:=h;obtain⟨r',J,L,O⟩:=N id r G;exact⟨r',J,by rw[L];exact I⟩
 |vptr=>exact h
 |clo f fs cs=>exact⟨λa M=>AC.wfP_mono hb (h.1 a M),λa M=>AC.wfP_mono hb (h.2 a M)⟩
 |_=>trivial
theorem AC.agree_of {ρ':Env} (D:∀k,(∃b,Ac aB k=some b)->ρ'.bx k=ρ.bx k) (G:∀id,(∃r,Ac aC id=some r)->ρ'.rv id=ρ.rv id/\ρ'.wd id=ρ.wd id) {a:AC} (h:AC.wf aB aC a):a.agree ρ ρ':=by
 have I:∀l:List AC,(∀a∈l,AC.wfP aB a)->∀a∈l,a.agreeP ρ ρ':=by
  intro l J a L;have:=J a L;cases a<;>first|exact D _ this|trivial
 cases a with
 |ptr k o=>exact D k h
 |bsl k o=>exact D k h
 |own id w n=>obtain⟨r,E,_⟩:=h;exact G id ⟨r,E⟩
 |rptr id i s=>obtain⟨r,E,_⟩:=h;exact G id ⟨r,E⟩
 |clo f fs cs=>exact⟨I fs h.1,I cs h.2⟩
 |_=>trivial
theorem TV.wf_mono {D:List (Nat×Box)} {E:List (Nat×Row)} (I:∀a,AC.wf aB aC a->AC.wf D E a) {v:TV} (h:TV.wf aB aC v):TV.wf D E v:=by
 cases v with
 |vD=>trivial
 |v g cs=>exact λa G=>I a (h a G)
 |tup ps=>exact λp J a G=>I a (h p J a G)
theorem RelE.new (h:RelE Z tm aB aC ρ tmps w) {d:Nat} (hd:Ac aB d=none) {ty:TypeId} {cs:List AC} {arr:Array Value} (hw:∀a∈cs,AC.wf aB aC a) (hc:CL (CC ρ w) cs arr.toList):
  RelE Z tm (ins aB d ⟨ty,cs⟩) aC {ρ with bx:=upN ρ.bx d w.heap.size} tmps (w.alloc (.cells arr ty)):=by
 have T:∀(k:Nat) (b:Box),Ac aB k=some b->Ac (ins aB d ⟨ty,cs⟩) k=some b:=by
  intro k b D;rw[Eb]
  ·exact D
  ·rintro rfl;rw[hd]at D;cases D
 have G:∀(k:Nat) (b:Box),Ac (ins aB d ⟨ty,cs⟩) k=some b->(k=d/\b=⟨ty,cs⟩)\/(k≠d/\Ac aB k=some b):=by
  intro k b D;by_cases M:k=d
  ·subst M;rw[Fy _ _ _ hd]at D;simp at D;exact .inl ⟨rfl,D.symm⟩
  ·rw[Eb _ _ _ _ M]at D;exact .inr ⟨M,D⟩
 have N:∀a,AC.wf aB aC a->AC.wf (ins aB d ⟨ty,cs⟩) aC a:=λa=>AC.wf_mono (λk b D=>⟨b,T k b D⟩) (λk r D=>⟨r,D,rfl,rfl⟩);have hold:∀b,b<w.heap.size->(w.alloc (.cells arr ty)).heap[b]? =w.heap[b]? :=λb hb=>Below.heap_alloc w _ b hb;have O:∀(a:AC) (x:Value),AC.wf aB aC a->CC ρ w a x->CC {ρ with bx:=upN ρ.bx d w.heap.size} (w.alloc (.cells arr ty)) a x:=by
  intro a x I U;refine CC.mono (ρ:=ρ) (ρ':={ρ with bx:=upN ρ.bx d w.heap.size}) (λb hb=>hb) (λb hb=>hold b (h.ib b hb).1) a x ?_ U;refine AC.agree_of (ρ:=ρ) (ρ':={ρ with bx:=upN ρ.bx d w.heap.size}) (λk a0=>Cr _ _ _ ?_) (λid _=>⟨rfl,rfl⟩) I;rintro rfl;obtain⟨b,hb⟩:=a0;rw[hd]at hb;cases hb
 refine⟨h.tl,λi v hi=>TVR.mono' O (h.wt v (cd hi)) (h.tv i v hi),λv hv=>TV.wf_mono N (h.wt v hv),?_,?_,?_,?_,h.ri,?_,?_,?_,?_,h.i0,h.i1,?_⟩
 ·intro k b D a I;rcases G k b D with⟨rfl,rfl⟩|⟨E,D⟩
  ·exact N a (hw a I)
  ·exact N a (h.wb k b D a I)
 ·intro k b D;rcases G k b D with⟨rfl,rfl⟩|⟨E,D⟩
  ·refine⟨arr,?_,hc.mono λa I x U=>O a x (hw a I) U,?_⟩
   ·show(w.alloc _).heap[upN ρ.bx k w.heap.size k]? =_;rw[B3];exact heap_alloc_new w _
   ·show¬Z.F (upN ρ.bx k w.heap.size k);rw[B3];exact λhf=>Nat.lt_irrefl _ (h.fs _ hf)
  ·obtain⟨ar,V,X,S⟩:=h.bx k b D;refine⟨ar,?_,X.mono λa I x U=>O a x (h.wb k b D a I) U,?_⟩
   ·show(w.alloc _).heap[upN ρ.bx d w.heap.size k]? =_;rw[Cr _ _ _ E,hold _ (P_ V)];exact V
   ·show¬Z.F (upN ρ.bx d w.heap.size k);rw[Cr _ _ _ E];exact S
 ·intro k k' b b' D a1 he;change upN ρ.bx d w.heap.size k=upN ρ.bx d w.heap.size k' at he;rcases G k b D with⟨e1,_⟩|⟨E,Y⟩<;>rcases G k' b' a1 with⟨e2,_⟩|⟨J,L⟩
  ·rw[e1,e2]
  ·rw[e1,B3,Cr _ _ _ J]at he;have:=h.bxlt L;omega
  ·rw[e2,B3,Cr _ _ _ E]at he;have:=h.bxlt Y;omega
  ·rw[Cr _ _ _ E,Cr _ _ _ J]at he;exact h.bi k k' b b' Y L he
 ·intro id r hr;obtain⟨V,X,h0,xs,S,h4⟩:=h.ro id r hr;exact⟨V,X,h0,xs,NN S (λg hg=>hold g (Q5w S g hg)),h4.mono (λb hb=>hb) (λb hb=>hold b (h.ib b hb).1)⟩
 ·intro k b id r D hr he;change (ρ.rv id).ownBlock=some (upN ρ.bx d w.heap.size k)at he;rcases G k b D with⟨rfl,rfl⟩|⟨E,D⟩
  ·rw[B3]at he;have:=(h.rwlt hr he).2;omega
  ·rw[Cr _ _ _ E]at he;exact h.br k b id r D hr he
 ·intro b hb;obtain⟨V,X,S⟩:=h.ib b hb;refine⟨by simp;omega,λk bo D=> ?_,S⟩;show upN ρ.bx d w.heap.size k≠b;rcases G k bo D with⟨rfl,rfl⟩|⟨E,D⟩
  ·rw[B3];omega
  ·rw[Cr _ _ _ E];exact X k bo D
 ·exact h.fr.alloc h.fs _
 ·intro k D;have:=h.fs k D;simp;omega
 ·intro k b D;obtain⟨q1,bo,q2⟩:=h.k0 k b D;exact⟨by show upN ρ.bx d w.heap.size k=b;rw[Cr _ _ _ (by rintro rfl;rw[hd]at q2;cases q2)];exact q1,bo,T k bo q2⟩
theorem RelE.store (h:RelE Z tm aB aC ρ tmps w) {key:Nat} {b:Box} (G:Ac aB key=some b) {cells:List AC} (hw:∀a∈cells,AC.wf aB aC a) {arr:Array Value} (hc:CL (CC ρ w) cells arr.toList):
  RelE Z tm (upd aB key ⟨b.ty,cells⟩) aC ρ tmps (w.setRow (ρ.bx key) arr):=by
 obtain⟨ar,h1,h2,h3⟩:=h.bx key b G;have V: ¬ρ.im (ρ.bx key):=λhi=>(h.ib _ hi).2.1 key b G rfl;have hold:∀g,g≠ρ.bx key->(w.setRow (ρ.bx key) arr).heap[g]? =w.heap[g]? :=λg L=>setRow_other w _ g _ L;have N:∀(a:AC) (x:Value),CC ρ w a x->CC ρ (w.setRow (ρ.bx key) arr) a x:=λa x X=>CC.keep V hold a x X;have I:∀(k:Nat) (bo:Box),Ac (upd aB key ⟨b.ty,cells⟩) k=some bo->(k=key/\bo=⟨b.ty,cells⟩)\/(k≠key/\Ac aB k=some bo):=by
  intro k bo D;by_cases E:k=key
  ·subst E;rw[Fm _ _ _ _ G]at D;simp at D;exact .inl ⟨rfl,D.symm⟩
  ·rw[DG _ _ _ _ E]at D;exact .inr ⟨E,D⟩
 have M:∀(k:Nat) (bo:Box),Ac (upd aB key ⟨b.ty,cells⟩) k=some bo->∃O,Ac aB k=some O:=by
  intro k bo D;rcases I k bo D with⟨rfl,rfl⟩|⟨_,h⟩
  ·exact⟨b,G⟩
  ·exact⟨bo,h⟩
 have S : ∀ a, AC.wf aB aC a -> AC.wf (upd aB key ⟨b.ty, cells⟩) aC a := λa => AC.wf_mono (λk bo D => by
  by_cases E:k=key
  ·subst E;exact⟨_,Fm _ _ _ _ G⟩
  ·exact⟨bo,by rw[DG _ _ _ _ E];exact D⟩) (λk r G=>⟨r,G,rfl,rfl⟩)
 refine⟨h.tl,λi v hi=>TVR.mono N v _ (h.tv i v hi),λv hv=>TV.wf_mono S (h.wt v hv),?_,?_,?_,?_,h.ri,?_,?_,?_,?_,h.i0,h.i1,?_⟩
 ·intro k bo D a ha;rcases I k bo D with⟨rfl,rfl⟩|⟨Y,D⟩
  ·exact S a (hw a ha)
  ·exact S a (h.wb k bo D a ha)
 ·intro k bo D;rcases I k bo D with⟨rfl,rfl⟩|⟨Y,D⟩
  ·exact⟨arr,setRow_heap w _ ar _ b.ty _ h1,hc.mono λa _ x X=>N a x X,h3⟩
  ·obtain⟨a0,T,U,q3⟩:=h.bx k bo D;refine⟨a0,?_,U.mono λa _ x X=>N a x X,q3⟩;rw[hold _ (λe=>Y (h.bi k key bo b D G e))];exact T
 ·intro k k' bo O J a1 he;obtain⟨_,p1⟩:=M k bo J;obtain⟨_,p2⟩:=M k' O a1;exact h.bi k k' _ _ p1 p2 he
 ·intro id r hr;obtain⟨T,U,q0,xs,q3,q4⟩:=h.ro id r hr;exact⟨T,U,q0,xs,NN q3 (λg L=>hold g (λe=>h.br key b id r G hr (by rw[L,e]))),q4.mono (λ_ hb=>hb) (λg L=>hold g (λe=>V (e▸L)))⟩
 ·intro k bo id r J hr;obtain⟨_,p1⟩:=M k bo J;exact h.br k _ id r p1 hr
 ·intro g L;obtain⟨T,U,q3⟩:=h.ib g L;exact⟨by simpa using T,λk bo J=>by obtain⟨_,p1⟩:=M k bo J;exact U k _ p1,q3⟩
 ·exact h.fr.trans ⟨rfl,rfl,rfl,by simp,λg L=>hold g (λe=>h3 (e▸L))⟩
 ·intro k G;simpa using h.fs k G
 ·intro k b' D;obtain⟨T,bo,U⟩:=h.k0 k b' D;refine⟨T,?_⟩;by_cases E:k=key
  ·subst E;exact⟨_,Fm _ _ _ _ G⟩
  ·exact⟨bo,by rw[DG _ _ _ _ E];exact U⟩
theorem RelE.addRow (h:RelE Z tm aB aC ρ tmps w) {d:Nat} (hd:Ac aC d=none) {r:Row} {v':Value} {xs:List Value} {w':World} (hb:Below w.heap.size w w')
  (hw:0<r.w) (V:E9 w' r.ty r.w v' r.n xs) (X:RowC ρ.im w' r.ks r.l xs) (D:∀g,v'.ownBlock=some g->w.heap.size<=g):
  RelE Z tm aB (ins aC d r) {ρ with rv:=upN ρ.rv d v',wd:=upN ρ.wd d r.w} tmps w':=by
 have a1:∀(k:Nat) (q:Row),Ac aC k=some q->Ac (ins aC d r) k=some q:=by
  intro k q E;rw[Eb]
  ·exact E
  ·rintro rfl;rw[hd]at E;cases E
 have I:∀(k:Nat) (q:Row),Ac (ins aC d r) k=some q->(k=d/\q=r)\/(k≠d/\Ac aC k=some q):=by
  intro k q E;by_cases T:k=d
  ·subst T;rw[Fy _ _ _ hd]at E;simp at E;exact .inl ⟨rfl,E.symm⟩
  ·rw[Eb _ _ _ _ T]at E;exact .inr ⟨T,E⟩
 have Y:∀a,AC.wf aB aC a->AC.wf aB (ins aC d r) a:=λa=>AC.wf_mono (λk b E=>⟨b,E⟩) (λk q E=>⟨q,a1 k q E,rfl,rfl⟩);have hold:∀b,b<w.heap.size->w'.heap[b]? =w.heap[b]? :=λb a2=>hb.block b a2;have a0:∀(a:AC) (x:Value),AC.wf aB aC a->CC ρ w a x->CC {ρ with rv:=upN ρ.rv d v',wd:=upN ρ.wd d r.w} w' a x:=by
  intro a x ha hx;refine CC.mono (ρ:=ρ) (ρ':={ρ with rv:=upN ρ.rv d v',wd:=upN ρ.wd d r.w}) (λb hb=>hb) (λb hb=>hold b (h.ib b hb).1) a x ?_ hx;refine AC.agree_of (ρ:=ρ) (ρ':={ρ with rv:=upN ρ.rv d v',wd:=upN ρ.wd d r.w}) (λk _=>rfl) (λid ⟨q,L⟩=> ?_) ha;have:id≠d:=by rintro rfl;rw[hd]at L;cases L
  exact⟨Cr _ _ _ this,Cr _ _ _ this⟩
 refine⟨h.tl,λi v hi=>TVR.mono' a0 (h.wt v (cd hi)) (h.tv i v hi),λv hv=>TV.wf_mono Y (h.wt v hv),λk b E a ha=>Y a (h.wb k b E a ha),?_,h.bi,?_,?_,?_,?_,?_,?_,h.i0,h.i1,λk b E=>h.k0 k b E⟩
 ·intro k b E;obtain⟨ar,U,h2,h3⟩:=h.bx k b E;exact⟨ar,by rw[hold _ (P_ U)];exact U,h2.mono λa ha x hx=>a0 a x (h.wb k b E a ha) hx,h3⟩
 ·intro id q L;rcases I id q L with⟨e1,e2⟩|⟨G,L⟩
  ·subst e1 e2;refine⟨hw,B3 _ _ _,?_,xs,?_,X⟩
   ·intro g M hf;change (upN ρ.rv id v' id).ownBlock=some g at M;rw[B3]at M;exact Nat.lt_irrefl _ (gf (h.fs g hf) (D g M))
   show E9 w' q.ty q.w (upN ρ.rv id v' id) q.n xs;rw[B3];exact V
  ·obtain⟨U,h2,h0,ys,h3,h4⟩:=h.ro id q L;refine⟨U,by show upN ρ.wd d r.w id=_;rw[Cr _ _ _ G];exact h2,by show∀g,(upN ρ.rv d v' id).ownBlock=some g->_;rw[Cr _ _ _ G];exact h0,ys,?_,h4.mono (λb hb=>hb) (λb hb=>hold b (h.ib b hb).1)⟩;show E9 w' q.ty q.w (upN ρ.rv d v' id) q.n ys;rw[Cr _ _ _ G];exact NN h3 λg M=>hold g (h.rwlt L M).2
 ·intro id id' q q' g L a3 M J;change (upN ρ.rv d v' id).ownBlock=_ at M;change (upN ρ.rv d v' id').ownBlock=_ at J;rcases I id q L with⟨e1,_⟩|⟨G,N⟩<;>rcases I id' q' a3 with⟨e2,_⟩|⟨O,S⟩
  ·rw[e1,e2]
  ·rw[e1,B3]at M;rw[Cr _ _ _ O]at J;have:=D g M;have:=(h.rwlt S J).2;omega
  ·rw[e2,B3]at J;rw[Cr _ _ _ G]at M;have:=D g J;have:=(h.rwlt N M).2;omega
  ·rw[Cr _ _ _ G]at M;rw[Cr _ _ _ O]at J;exact h.ri id id' q q' g N S M J
 ·intro k b id q E L he;change (upN ρ.rv d v' id).ownBlock=some (ρ.bx k)at he;rcases I id q L with⟨e1,_⟩|⟨G,N⟩
  ·rw[e1,B3]at he;have:=D _ he;have:=h.bxlt E;omega
  ·rw[Cr _ _ _ G]at he;exact h.br k b id q E N he
 ·intro b a4;obtain⟨U,h2,h3⟩:=h.ib b a4;refine⟨gf U hb.size,h2,λid q L he=> ?_⟩;change (upN ρ.rv d v' id).ownBlock=some b at he;rcases I id q L with⟨e1,_⟩|⟨G,N⟩
  ·rw[e1,B3]at he;have:=D _ he;omega
  ·rw[Cr _ _ _ G]at he;exact h3 id q N he
 ·exact h.fr.trans (Fr.of_below hb h.fs)
 ·exact λk E=>gf (h.fs k E) hb.size
def AC.free (id:Nat):AC->Prop
 | .own j _ _=>j≠id
 | .rptr j _ _=>j≠id
 |_=>True
def TV.free (id:Nat):TV->Prop
 | .v _ cs=>∀a∈cs,AC.free id a
 | .tup ps=>∀p∈ps,∀a∈p.2,AC.free id a
 | .vD=>True
theorem TVR.mono2 {ρ L:Env} {w w':World} {v:TV} {Q:AC->Prop} (E:∀(a:AC) (x:Value),Q a->CC ρ w a x->CC L w' a x)
  (J:match v with| .v _ cs=>∀a∈cs,Q a| .tup ps=>∀p∈ps,∀a∈p.2,Q a| .vD=>True) {x:Value} (h:TVR ρ w v x):TVR L w' v x:=by
 have O:∀{l xs},(∀a∈l,Q a)->CL (CC ρ w) l xs->CL (CC L w') l xs:=λS h=>h.mono λa T x U=>E a x (S a T) U;cases v with
 |vD=>trivial
 |v g cs=>
  cases g
  ·obtain⟨a,G,D⟩:=h;subst G;exact⟨a,rfl,E a _ (J a (by simp)) D⟩
  ·obtain⟨I,G,D⟩:=h;exact⟨I,G,O J D⟩
 |tup ps=>
  obtain⟨I,G,D⟩:=h;refine⟨I,G,?_⟩;generalize I.toList=l at D;clear G;induction ps generalizing l with
  |nil=>cases l<;>first|exact D|exact D.elim
  |cons p ps V=>
   cases l with
   |nil=>exact D.elim
   |cons y l=>
    obtain⟨g,cs⟩:=p;refine⟨?_,V (λq X=>J q (by simp[X])) l D.2⟩;have:=D.1;cases g
    ·obtain⟨a,M,N⟩:=this;subst M;exact⟨a,rfl,E a _ (J (false,[a]) (by simp) a (by simp)) N⟩
    ·obtain⟨I,M,N⟩:=this;exact⟨I,M,O (J (true,cs) (by simp)) N⟩
theorem RelE.turnRow (h:RelE Z tm aB aC ρ tmps w) {id:Nat} {r:Row} (D:Ac aC id=some r) {r':Row} {v':Value} {xs:List Value} {w':World} (hg:w.grownBy w' (ρ.rv id).ownBlock)
  (hw:r'.w=r.w) (a4:E9 w' r'.ty r'.w v' r'.n xs) (a5:RowC ρ.im w' r'.ks r'.l xs) (Y:v'.ownBlock=(ρ.rv id).ownBlock\/∀g,v'.ownBlock=some g->w.heap.size<=g)
  (a6:(v'=ρ.rv id/\r'.n=r.n)\/((∀v∈tm,TV.free id v)/\∀(k:Nat) (b:Box),Ac aB k=some b->∀a∈b.cells,AC.free id a)):
  RelE Z tm aB (upd aC id r') {ρ with rv:=upN ρ.rv id v'} tmps w':=by
 have N:∀(k:Nat) (q:Row),Ac (upd aC id r') k=some q->(k=id/\q=r')\/(k≠id/\Ac aC k=some q):=by
  intro k q I;by_cases a2:k=id
  ·subst a2;rw[Fm _ _ _ _ D]at I;simp at I;exact .inl ⟨rfl,I.symm⟩
  ·rw[DG _ _ _ _ a2]at I;exact .inr ⟨a2,I⟩
 have b1:∀b,ρ.im b->some b≠(ρ.rv id).ownBlock:=λb hb e=>(h.ib b hb).2.2 id r D e.symm;have a0:∀b,ρ.im b->w'.heap[b]? =w.heap[b]? :=λb hb=>hg.block b (h.ib b hb).1 (b1 b hb)
 let Q:AC->Prop:=λa=>AC.wf aB aC a/\((v'=ρ.rv id/\r'.n=r.n)\/AC.free id a)
 have a3:∀a,Q a->AC.wf aB (upd aC id r') a:=by
  rintro a ⟨J,T⟩;cases a with
  |ptr=>exact J
  |own j w1 n1=>
   obtain⟨q,V,q2,q3⟩:=J;by_cases hj:j=id
   ·subst hj;rcases T with⟨_,M⟩|hf
    ·rw[D]at V;simp at V;subst V;exact⟨r',Fm _ _ _ _ D,by rw[M,q2],by rw[hw,q3]⟩
    ·exact absurd rfl hf
   ·exact⟨q,by rw[DG _ _ _ _ hj];exact V,q2,q3⟩
  |rptr j i1 s1=>
   obtain⟨q,V,q2⟩:=J;by_cases hj:j=id
   ·subst hj;rcases T with⟨_,M⟩|hf
    ·rw[D]at V;simp at V;subst V;exact⟨r',Fm _ _ _ _ D,by rw[M];exact q2⟩
    ·exact absurd rfl hf
   ·exact⟨q,by rw[DG _ _ _ _ hj];exact V,q2⟩
  |vptr=>exact J
  |clo=>exact J
  |_=>trivial
 have a7:∀(a:AC) (x:Value),Q a->CC ρ w a x->CC {ρ with rv:=upN ρ.rv id v'} w' a x:=by
  rintro a x ⟨_,T⟩ hx;refine CC.mono (ρ:=ρ) (ρ':={ρ with rv:=upN ρ.rv id v'}) (λb hb=>hb) a0 a x ?_ hx;have key:∀j,((v'=ρ.rv id/\r'.n=r.n)\/j≠id)->upN ρ.rv id v' j=ρ.rv j:=by
   intro j hj;by_cases a8:j=id
   ·subst a8;rcases hj with⟨e,_⟩|hf
    ·rw[B3,e]
    ·exact absurd rfl hf
   ·exact Cr _ _ _ a8
  cases a with
  |own j _ _=>exact⟨key j T,rfl⟩
  |rptr j _ _=>exact⟨key j T,rfl⟩
  |ptr=>rfl
  |clo f fs cs=>exact⟨λa _=>by cases a<;>first|rfl|trivial,λa _=>by cases a<;>first|rfl|trivial⟩
  |_=>trivial
 have a9:∀v∈tm,match v with| .v _ cs=>∀a∈cs,Q a| .tup ps=>∀p∈ps,∀a∈p.2,Q a| .vD=>True:=by
  intro v hv;have h1:=h.wt v hv;have h2:(v'=ρ.rv id/\r'.n=r.n)\/TV.free id v:=Rl a6 (λx=>x) λx=>x.1 v hv;cases v with
  |vD=>trivial
  |v g cs=>exact λa J=>⟨h1 a J,Rl h2 (λx=>x) λx=>x a J⟩
  |tup ps=>exact λp hp a J=>⟨h1 p hp a J,Rl h2 (λx=>x) λx=>x p hp a J⟩
 have b0:∀(k:Nat) (b:Box),Ac aB k=some b->∀a∈b.cells,Q a:=λk b I a J=>⟨h.wb k b I a J,Rl a6 (λx=>x) λx=>x.2 k b I a J⟩;have O:∀g,v'.ownBlock=some g->(ρ.rv id).ownBlock=some g\/w.heap.size<=g:=by
  intro g e;rcases Y with hp|hp
  ·rw[hp]at e;exact .inl e
  ·exact .inr (hp g e)
 refine⟨h.tl,λi v hi=>TVR.mono2 a7 (a9 v (cd hi)) (h.tv i v hi),λv hv=> ?_,λk b I a J=>a3 a (b0 k b I a J),?_,h.bi,?_,?_,?_,?_,?_,?_,h.i0,h.i1,λk b I=>h.k0 k b I⟩
 ·have:=a9 v hv;cases v with
  |vD=>trivial
  |v g cs=>exact λa J=>a3 a (this a J)
  |tup ps=>exact λp hp a J=>a3 a (this p hp a J)
 ·intro k b I;obtain⟨ar,h1,h2,h3⟩:=h.bx k b I;refine⟨ar,?_,h2.mono λa J x hx=>a7 a x (b0 k b I a J) hx,h3⟩;rw[hg.block _ (P_ h1) (λe=>h.br k b id r I D e.symm)];exact h1
 ·intro j q T;rcases N j q T with⟨e1,e2⟩|⟨L,G⟩
  ·subst e1 e2;obtain⟨V,q2,q0,_⟩:=h.ro j r D;refine⟨by rw[hw];exact V,by rw[hw];exact q2,?_,xs,?_,a5⟩
   ·intro g U hf;change (upN ρ.rv j v' j).ownBlock=some g at U;rw[B3]at U;rcases O g U with M|M
    ·exact q0 g M hf
    ·exact Nat.lt_irrefl _ (gf (h.fs g hf) M)
   show E9 w' q.ty q.w (upN ρ.rv j v' j) q.n xs;rw[B3];exact a4
  ·obtain⟨h1,h2,h0,ys,h3,h4⟩:=h.ro j q G;refine⟨h1,h2,by show∀g,(upN ρ.rv id v' j).ownBlock=some g->_;rw[Cr _ _ _ L];exact h0,ys,?_,h4.mono (λb hb=>hb) a0⟩;show E9 w' q.ty q.w (upN ρ.rv id v' j) q.n ys;rw[Cr _ _ _ L];exact NN h3 λg U=>hg.block g (h.rwlt G U).2 (λe=>L (h.ri j id q r g G D U e.symm))
 ·intro j j' q q' g T b2 S E;change (upN ρ.rv id v' j).ownBlock=_ at S;change (upN ρ.rv id v' j').ownBlock=_ at E;rcases N j q T with⟨e1,_⟩|⟨L,G⟩<;>rcases N j' q' b2 with⟨e2,_⟩|⟨a1,X⟩
  ·rw[e1,e2]
  ·rw[e1,B3]at S;rw[Cr _ _ _ a1]at E;rcases O g S with M|M
   ·rw[e1];exact(h.ri j' id q' r g X D E M).symm
   ·have:=(h.rwlt X E).2;omega
  ·rw[e2,B3]at E;rw[Cr _ _ _ L]at S;rcases O g E with M|M
   ·rw[e2];exact h.ri j id q r g G D S M
   ·have:=(h.rwlt G S).2;omega
  ·rw[Cr _ _ _ L]at S;rw[Cr _ _ _ a1]at E;exact h.ri j j' q q' g G X S E
 ·intro k b j q I T he;change (upN ρ.rv id v' j).ownBlock=some (ρ.bx k)at he;rcases N j q T with⟨e1,_⟩|⟨L,G⟩
  ·rw[e1,B3]at he;rcases O _ he with M|M
   ·exact h.br k b id r I D M
   ·have:=h.bxlt I;omega
  ·rw[Cr _ _ _ L]at he;exact h.br k b j q I G he
 ·intro b b3;obtain⟨h1,h2,h3⟩:=h.ib b b3;refine⟨gf h1 hg.size,h2,λj q T he=> ?_⟩;change (upN ρ.rv id v' j).ownBlock=some b at he;rcases N j q T with⟨e1,_⟩|⟨L,G⟩
  ·rw[e1,B3]at he;rcases O _ he with M|M
   ·exact h3 id r D M
   ·omega
  ·rw[Cr _ _ _ L]at he;exact h3 j q G he
 ·refine h.fr.grown hg h.fs λg e=>(h.rwlt D e).1
 ·exact λk I=>gf (h.fs k I) hg.size
end
open Go.RowKit
def FM (F:Nat->Prop) (w:World) (ρ:Env) (aB:List (Nat×Box)):Base:=⟨F,w,ρ.im,λk=>(Ac aB k).map λ_=>ρ.bx k⟩
def PCallM (P:Program) (f:FuncId) (args:List TV) (mem:Mem) (v:TV) (mem':Mem):Prop:=
 ∀(F:Nat->Prop) (w:World) (ρ:Env) (xs:List Value),RelE (FM F w ρ mem.aB) args mem.aB mem.aC ρ xs.toArray w->
  Calls P f xs.toArray w λe w'=>∃(x:Value) (D:Env),e= .returned x/\RelE (FM F w ρ mem.aB) [v] mem'.aB mem'.aC D #[x] w'
def Q7 (P:Program) (f:FuncId):Prop:=∃fn,P.funcs[f]? =some fn/\(fn.name== "runtime.NumGoroutine")=false/\fn.body.isNone=false
def CallsX (P:Program) (f:FuncId) (xs:Array Value) (w:World) (R:Ending->World->Prop):Prop:=
 (Q7 P f/\Calls P f xs w R)\/∃x w',(callFunc f xs).run P w= .ok (.value x) w'/\R (.returned x) w'
theorem CallsX.mono {P:Program} {f:FuncId} {xs:Array Value} {w:World} {R R':Ending->World->Prop} (h:CallsX P f xs w R) (G:∀e w',R e w'->R' e w'):CallsX P f xs w R':=by
 rcases h with⟨D,E⟩|⟨x,w',D,E⟩
 ·exact .inl ⟨D,E.mono G⟩
 ·exact .inr ⟨x,w',D,G _ _ E⟩
def Qha (P:Program) (f:FuncId) (args:List TV) (mem:Mem) (v:TV) (mem':Mem):Prop:=
 ∀(F:Nat->Prop) (w:World) (ρ:Env) (xs:List Value),RelE (FM F w ρ mem.aB) args mem.aB mem.aC ρ xs.toArray w->
  CallsX P f xs.toArray w λe w'=>∃(x:Value) (D:Env),e= .returned x/\RelE (FM F w ρ mem.aB) [v] mem'.aB mem'.aC D #[x] w'
theorem PCallM.x {P:Program} {f:FuncId} {args:List TV} {mem:Mem} {v:TV} {mem':Mem} (h:PCallM P f args mem v mem') (D:Q7 P f):Qha P f args mem v mem':=
 λF w ρ xs E=> .inl ⟨D,h F w ρ xs E⟩
structure SpecRight (P : Program) (f : FuncId) (g : Spec) : Prop where
 nat:∀(R:Type) (args:List TV) (mem:Mem) (K:TV->Mem->Option R),g R args mem K=(g (TV×Mem) args mem λv m=>some (v,m)).bind λp=>K p.1 p.2
 ok:∀(args:List TV) (mem:Mem) (v:TV) (mem':Mem),(g (TV×Mem) args mem λv m=>some (v,m))=some (v,mem')->Qha P f args mem v mem'
def Va (g:Spec):Prop:=∀(args:List TV) (mem:Mem) (v:TV) (m:Mem),(g (TV×Mem) args mem λv m=>some (v,m))=some (v,m)->m=mem
def Aj (P:Program) (C:Cfg):Prop:=
 (∀(f:FuncId) (g:Spec),C.spec f=some g->SpecRight P f g)/\∀(f:FuncId) (g:Spec),C.spec f=some g->C.ro f=true->Va g
theorem SpecRight.run {P:Program} {f:FuncId} {g:Spec} (h:SpecRight P f g) {R:Type} {args:List TV} {mem:Mem} {K:TV->Mem->Option R} {r:R} (D:g R args mem K=some r):
  ∃v mem',K v mem'=some r/\Qha P f args mem v mem':=by
 rw[h.nat]at D;simp only[de]at D;obtain⟨⟨v,m⟩,E,G⟩:=D;exact⟨v,m,G,h.ok args mem v m E⟩
def Prim.wf (aB:List (Nat×Box)) (aC:List (Nat×Row)):Prim->Prop
 | .val v=>TV.wf aB aC v
 | .load _ _ key _=>∃b,Ac aB key=some b
 | .store key _ cs=>(∃b,Ac aB key=some b)/\∀a∈cs,AC.wf aB aC a
 | .new _ cs=>∀a∈cs,AC.wf aB aC a
 | .newS _ _ cs=>∀a∈cs,AC.wf aB aC a
 | .rload _ _ id idx _=>∃r,Ac aC id=some r/\idx<r.n
 | .rstore id idx _ _=>∃r,Ac aC id=some r/\idx<r.n
 | .append _ _ _ s x=>AC.wf aB aC s/\AC.wf aB aC x
 | .appD _ _ _ s x=>AC.wf aB aC s/\AC.wf aB aC x
 | .call _ args=>∀v∈args,TV.wf aB aC v
 | .callM _ args=>∀v∈args,TV.wf aB aC v
 | .callF _ args=>∀v∈args,TV.wf aB aC v
 | .callD _ args=>∀v∈args,TV.wf aB aC v
 |_=>True
section
variable {P:Program} {C:Cfg} {ρ:Env} {w:World} {R:Type} {Z:Base} {tm:List TV} {aB:List (Nat×Box)} {aC:List (Nat×Row)} {tmps:Array Value}
theorem GU {α β:Type} (g:α->β):∀(l:List (Nat×α)) (k:Nat),Ac (l.map λp=>(p.1,g p.2)) k=(Ac l k).map g
 |[],_=>rfl
 |(j,b)::l,k=>by
  simp only[bm,Ac,GU g l k];cases Nat.beq j k<;>rfl
theorem AC.kill_wf {id:Nat} {a:AC} (h:AC.wf aB aC a):AC.wf aB aC (a.kill id):=by
 cases a with
 |own j w n=>simp only[AC.kill];cases Nat.beq j id<;>first|exact h|trivial
 |rptr j i s=>simp only[AC.kill];cases Nat.beq j id<;>first|exact h|trivial
 |_=>exact h
theorem AC.kill_free (id:Nat) (a:AC):AC.free id (a.kill id):=by
 cases a with
 |own j w n=>
  simp only[AC.kill];cases hb:Nat.beq j id
  ·exact λe=>by rw[e]at hb;simp at hb
  ·trivial
 |rptr j i s=>
  simp only[AC.kill];cases hb:Nat.beq j id
  ·exact λe=>by rw[e]at hb;simp at hb
  ·trivial
 |_=>trivial
theorem AC.kill_CC {id:Nat} {a:AC} {x:Value} (h:CC ρ w a x):CC ρ w (a.kill id) x:=by
 cases a with
 |own j w n=>simp only[AC.kill];cases Nat.beq j id<;>first|exact h|exact h.one
 |rptr j i s=>simp only[AC.kill];cases Nat.beq j id<;>first|exact h|exact h.one
 |_=>exact h
theorem CL.kill {id:Nat}:∀{l:List AC} {xs:List Value},CL (CC ρ w) l xs->CL (CC ρ w) (l.map (AC.kill id)) xs
 |[],[],_=>trivial
 |_::_,_::_,h=>⟨AC.kill_CC h.1,CL.kill h.2⟩
 |[],_::_,h=>h.elim
 |_::_,[],h=>h.elim
theorem TV.kill_TVR {id:Nat} {v:TV} {x:Value} (h:TVR ρ w v x):TVR ρ w (v.kill id) x:=by
 cases v with
 |vD=>trivial
 |tup ps=>
  obtain⟨E,rfl,D⟩:=h;refine⟨E,rfl,?_⟩;generalize E.toList=l at D;induction ps generalizing l with
  |nil=>cases l<;>first|exact D|exact D.elim
  |cons p ps J=>
   cases l with
   |nil=>exact D.elim
   |cons y l=>
    obtain⟨g,cs⟩:=p;refine⟨?_,J l D.2⟩;have:=D.1;cases g
    ·obtain⟨a,G,I⟩:=this;subst G;exact⟨_,rfl,AC.kill_CC I⟩
    ·obtain⟨L,G,M⟩:=this;exact⟨L,G,M.kill⟩
 |v g cs=>
  cases g
  ·obtain⟨a,rfl,I⟩:=h;exact⟨_,rfl,AC.kill_CC I⟩
  ·obtain⟨E,rfl,D⟩:=h;exact⟨E,rfl,D.kill⟩
theorem TV.kill_wf {id:Nat} {v:TV} (h:TV.wf aB aC v):TV.wf aB aC (v.kill id):=by
 cases v with
 |v g cs=>
  intro a D;simp only[bc]at D;obtain⟨b,hb,rfl⟩:=D;exact AC.kill_wf (h b hb)
 |tup ps=>
  intro p E a D;simp only[bc]at E;obtain⟨q,G,rfl⟩:=E;simp only[bc]at D;obtain⟨b,hb,rfl⟩:=D;exact AC.kill_wf (h q G b hb)
 |_=>trivial
theorem TV.kill_free (id:Nat) (v:TV):TV.free id (v.kill id):=by
 cases v with
 |v g cs=>
  intro a D;simp only[bc]at D;obtain⟨b,hb,rfl⟩:=D;exact AC.kill_free id b
 |tup ps=>
  intro p E a D;simp only[bc]at E;obtain⟨q,G,rfl⟩:=E;simp only[bc]at D;obtain⟨b,hb,rfl⟩:=D;exact AC.kill_free id b
 |_=>trivial
theorem RelE.kill (h:RelE Z tm aB aC ρ tmps w) (id:Nat):
  RelE Z (tm.map (TV.kill id)) (aB.map λp=>(p.1,p.2.kill id)) aC ρ tmps w:=by
 have G:∀k,Ac (aB.map λp=>(p.1,p.2.kill id)) k=(Ac aB k).map (Box.kill id):=λk=>GU (Box.kill id) aB k;have E:∀(k:Nat) (b:Box),Ac (aB.map λp=>(p.1,p.2.kill id)) k=some b->∃b',Ac aB k=some b'/\b=b'.kill id:=by
  intro k b D;rw[G]at D;cases T:Ac aB k with
  |none=>rw[T]at D;simp at D
  |some b'=>rw[T]at D;simp at D;exact⟨b',rfl,D.symm⟩
 have J:∀a,AC.wf aB aC a->AC.wf (aB.map λp=>(p.1,p.2.kill id)) aC a:=λa=>AC.wf_mono (λk b D=>⟨b.kill id,by rw[G,D];rfl⟩) (λk r D=>⟨r,D,rfl,rfl⟩);refine⟨by simpa using h.tl,?_,?_,?_,?_,?_,h.ro,h.ri,?_,?_,h.fr,h.fs,h.i0,h.i1,?_⟩
 ·intro i v U;simp only[d7,bv]at U;obtain⟨u,M,rfl⟩:=U;exact TV.kill_TVR (h.tv i u M)
 ·intro v V;simp only[bc]at V;obtain⟨u,M,rfl⟩:=V;exact TV.wf_mono J (TV.kill_wf (h.wt u M))
 ·intro k b D a X;obtain⟨b',I,rfl⟩:=E k b D;simp only[Box.kill,bc]at X;obtain⟨c,Y,rfl⟩:=X;exact J _ (AC.kill_wf (h.wb k b' I c Y))
 ·intro k b D;obtain⟨b',I,rfl⟩:=E k b D;obtain⟨arr,h1,h2,h3⟩:=h.bx k b' I;exact⟨arr,h1,h2.kill,h3⟩
 ·intro k k' b b' D N;obtain⟨_,L,_⟩:=E k b D;obtain⟨_,p2,_⟩:=E k' b' N;exact h.bi k k' _ _ L p2
 ·intro k b id' r D hr;obtain⟨_,L,_⟩:=E k b D;exact h.br k _ id' r L hr
 ·intro b hb;obtain⟨O,S,q3⟩:=h.ib b hb;refine⟨O,λk bo D=> ?_,q3⟩;obtain⟨_,L,_⟩:=E k bo D;exact S k _ L
 ·intro k b D;obtain⟨O,bo,S⟩:=h.k0 k b D;exact⟨O,bo.kill id,by rw[G,S];rfl⟩
theorem Z0s {im:Nat->Prop} {ks:List Kd} {b o:Nat}:∀(l:List (List AC)),(∀c∈l,AV ks c=c)->CPss im w ks.length l b o->
  ∃E,RowC im w ks l E/\Sd w b o E:=by
 intro l M h;induction l generalizing o with
 |nil=>exact⟨[],⟨by simp,by simp,λi c I=>by simp at I⟩,λj y h=>by simp at h⟩
 |cons c l O=>
  rw[CPss]at h;obtain⟨E,⟨S,Y,T⟩,U⟩:=O (λc V=>M c (by simp[V])) h.2;obtain⟨G,N,X⟩:=Qou _ _ _ h.1.2;have D:G.length=ks.length:=by rw[<-N.length];exact h.1.1
  refine⟨G++E,⟨by rw[an,S,D,bh,dh,gy,ku],M,λi c' I=> ?_⟩,λj y J=> ?_⟩
  ·cases i with
   |zero=>
    simp at I;subst I;have:cut (G++E) (0*ks.length) ks.length=G:=by
     simp only[cut,jd,f9];rw[<-D,List.take_left'];rfl
    rw[this];exact N
   |succ i=>
    have:=T i c' (by simpa using I);have e:cut (G++E) ((i+1)*ks.length) ks.length=cut E (i*ks.length) ks.length:=by
     simp only[cut];rw[dh,gy,List.drop_append,lk (by omega),az,D,Nat.add_sub_cancel]
    rw[e];exact this
  ·rw[ie]at J;split at J
   ·exact X j y J
   ·rename_i L;have:=U (j-G.length) y J;rw[D]at this L
    rwa [show o+ks.length+(j-ks.length)=o+j from by omega]at this
theorem ZP {im:Nat->Prop} {ks:List Kd} {l:List (List AC)} {xs:List Value} {v:Value} {e:TypeId} (E:E9 w e ks.length v l.length xs) (D:RowC im w ks l xs)
  (J:∀g,v.ownBlock=some g->im g):CP im w (.vC ks l) v:=by
 rw[CP];rcases E.2 with⟨e1,e2⟩|⟨G,o,cap,cur,e1,e3,N,O,S,e7⟩
 ·refine⟨none,0,by rw[e1,e2],by omega,D.2.1, .inl (f7 e2)⟩
 ·refine⟨some ⟨G,o,none⟩,cap,e1,N,D.2.1, .inr ⟨G,o,rfl,J G (by rw[e1];rfl),TU λi M=> ?_⟩⟩;have L:=D.2.2 i l[i] (ag M);refine⟨?_,?_⟩
  ·rw[<-D.2.1 l[i] (bf M)];exact Rq _ _
  ·refine Wz _ (cut xs (i*ks.length) ks.length) G _ L ?_;intro j y I;simp only[cut,fq]at I;split at I
   ·rw[dy]at I;have:=Rt E (g:=G) (by rw[e1];rfl) (i*ks.length+j) y I;rw[e1]at this;simpa [Ib,dm]using this
   ·simp at I
theorem Sb {a:AC} {x:Value} {E:Env} {w':World} (G:a.plain=true) (h:CC ρ w a x) (D:CP ρ.im w a x->CP E.im w' a x):CC E w' a x:=by
 cases a<;>first|exact D h|(simp[AC.plain]at G)
theorem Q7k {ρ2:Env} {v:TV} {x:Value} {w':World} (I:v.plainB=true) (E:∀(a:AC) (x:Value),a.plain=true->CP ρ.im w a x->CP ρ2.im w' a x) (h:TVR ρ w v x):TVR ρ2 w' v x:=by
 have O:∀{l:List AC} {xs:List Value},Al AC.plain l=true->CL (CC ρ w) l xs->CL (CC ρ2 w') l xs:=λS h=>h.mono λa J x T=>Sb (AD.1 S a J) T (E a x (AD.1 S a J));cases v with
 |vD=>trivial
 |v g cs=>
  cases g
  ·obtain⟨a,rfl,J⟩:=h;exact⟨a,rfl,Sb (AD.1 I a (by simp)) J (E a x (AD.1 I a (by simp)))⟩
  ·obtain⟨L,rfl,D⟩:=h;exact⟨L,rfl,O I D⟩
 |tup ps=>
  obtain⟨L,rfl,D⟩:=h;refine⟨L,rfl,?_⟩;generalize L.toList=l at D;simp only[TV.plainB]at I;induction ps generalizing l with
  |nil=>cases l<;>first|exact D|exact D.elim
  |cons p ps U=>
   cases l with
   |nil=>exact D.elim
   |cons y l=>
    obtain⟨g,cs⟩:=p;have G:=AD.1 I (g,cs) (by simp);have M:Al (λp:Bool×List AC=>Al AC.plain p.2) ps=true:=AD.2 λq V=>AD.1 I q (by simp[V]);refine⟨?_,U M l D.2⟩;have:=D.1;cases g
    ·obtain⟨a,N,J⟩:=this;subst N;exact⟨a,rfl,Sb (AD.1 G a (by simp)) J (E a y (AD.1 G a (by simp)))⟩
    ·obtain⟨X,N,Y⟩:=this;exact⟨X,N,O G Y⟩
theorem Qz1 {im D:Nat->Prop} {w w':World} {a:AC} {x:Value} (hf:a.flat=true) (h:CP im w a x):CP D w' a x:=by
 cases a<;>simp only[CP,AC.flat]at* <;>first|exact h|(simp at hf)
theorem Zug {L:Env} {v:TV} {x:Value} {w':World} (hf:v.flat=true) (h:TVR ρ w v x):TVR L w' v x:=by
 have S:∀{l:List AC} {xs:List Value},Al AC.flat l=true->CL (CC ρ w) l xs->CL (CC L w') l xs:=λI h=>h.mono λa E x U=>by
  have:=AD.1 I a E;have M:a.plain=true:=by cases a<;>first|rfl|(simp[AC.flat]at this)
  exact Sb M U (Qz1 this)
 have T:∀{a:AC} {x:Value},a.flat=true->CC ρ w a x->CC L w' a x:=fun{a x} I h=>by
  have M:a.plain=true:=by cases a<;>first|rfl|(simp[AC.flat]at I)
  exact Sb M h (Qz1 I)
 cases v with
 |vD=>trivial
 |v g cs=>
  cases g
  ·obtain⟨a,rfl,E⟩:=h;exact⟨a,rfl,T (AD.1 hf a (by simp)) E⟩
  ·obtain⟨J,rfl,D⟩:=h;exact⟨J,rfl,S hf D⟩
 |tup ps=>
  obtain⟨J,rfl,D⟩:=h;refine⟨J,rfl,?_⟩;generalize J.toList=l at D;simp only[TV.flat]at hf;induction ps generalizing l with
  |nil=>cases l<;>first|exact D|exact D.elim
  |cons p ps V=>
   cases l with
   |nil=>exact D.elim
   |cons y l=>
    obtain⟨g,cs⟩:=p;have G:=AD.1 hf (g,cs) (by simp);have N:Al (λp:Bool×List AC=>Al AC.flat p.2) ps=true:=AD.2 λq X=>AD.1 hf q (by simp[X]);refine⟨?_,V N l D.2⟩;have:=D.1;cases g
    ·obtain⟨a,O,E⟩:=this;subst O;exact⟨a,rfl,T (AD.1 G a (by simp)) E⟩
    ·obtain⟨Y,O,hz⟩:=this;exact⟨Y,O,S G hz⟩
theorem K1 {v:TV} (h:v.plainB=true):TV.wf aB aC v:=by
 have D:∀{l:List AC},Al AC.plain l=true->∀a∈l,AC.wf aB aC a:=λh a E=>by
  have:=AD.1 h a E;cases a<;>first|trivial|(simp[AC.plain]at this)
 cases v with
 |vD=>trivial
 |v g cs=>exact D h
 |tup ps=>exact λp G=>D (AD.1 h p G)
theorem Zg7 {im:Nat->Prop} {a:AC} {x:Value} (h:CP im w a x):AC.wf aB aC a:=by
 cases a<;>first|trivial|(simp[CP]at h)
theorem Zpq {im:Nat->Prop} {l:List AC} {xs:List Value} (h:CL (CP im w) l xs):∀a∈l,AC.wf aB aC a:=by
 induction l generalizing xs with
 |nil=>intro a D;simp at D
 |cons b l E=>
  cases xs with
  |nil=>exact h.elim
  |cons y xs=>
   intro a D;simp only[ao]at D;rcases D with rfl|D
   ·exact Zg7 h.1
   ·exact E h.2 a D
theorem Zik {S:Env} (N:∀(a I:AC) (x:Value),a.res aC=some I->CC ρ w a x->AC.wf aB aC a->CC S w I x) {v T:TV} {x:Value} (J:v.res aC=some T) (U:TV.wf aB aC v) (h:TVR ρ w v x):TVR S w T x:=by
 have V:∀(cs G:List AC) (xs:List Value),F5 aC cs=some G->(∀a∈cs,AC.wf aB aC a)->CL (CC ρ w) cs xs->CL (CC S w) G xs:=by
  intro cs;induction cs with
  |nil=>intro G xs E _ M;simp[F5]at E;subst E;cases xs<;>first|exact M|exact M.elim
  |cons a cs X=>
   intro G xs E O M;cases xs with
   |nil=>exact M.elim
   |cons y xs=>
    simp only[F5]at E;split at E
    ·rename_i I L;split at E
     ·rename_i l' D;simp at E;subst E;exact⟨N a I y L M.1 (O a (by simp)),X _ _ D (λb hb=>O b (by simp[hb])) M.2⟩
     ·simp at E
    ·simp at E
 cases v with
 |vD=>simp[TV.res]at J
 |tup ps=>simp[TV.res]at J
 |v g cs=>
  simp only[TV.res]at J;split at J
  ·rename_i l D;simp at J;subst J;cases g
   ·obtain⟨a,rfl,Y⟩:=h;simp only[F5]at D;split at D
    ·rename_i I L;simp at D;subst D;exact⟨I,rfl,N a I x L Y (U a (by simp))⟩
    ·simp at D
   ·obtain⟨ys,rfl,hy⟩:=h;exact⟨ys,rfl,V _ _ _ D U hy⟩
  ·simp at J
theorem Z07 {a D:AC} (h:a.res aC=some D):D.plain=true:=by
 cases a<;>simp only[AC.res]at h<;>try (simp at h;done)
 case own=>split at h<;>simp at h;subst h;rfl
 all_goals (simp at h;subst h;rfl)
theorem Qwb:∀{l E:List AC},F5 aC l=some E->Al AC.plain E=true
 |[],E,h=>by simp[F5]at h;subst h;rfl
 |a::l,E,h=>by
  simp only[F5]at h;split at h
  ·rename_i J G;split at h
   ·rename_i I D;simp at h;subst h;simp only[Al,Z07 G,ai];exact Qwb D
   ·simp at h
  ·simp at h
theorem Qut:∀{l E:List TV},Hk aC l=some E->E.length=l.length/\∀(i:Nat) (I:TV),E[i]? =some I->I.plainB=true/\∃a,l[i]? =some a/\a.res aC=some I
 |[],E,h=>by simp[Hk]at h;subst h;exact⟨rfl,λi a h=>by simp at h⟩
 |a::l,E,h=>by
  simp only[Hk]at h;split at h
  ·rename_i I D;split at h
   ·rename_i J G;simp at h;subst h;obtain⟨L,M⟩:=Qut G;refine⟨by simp[L],λi b hb=> ?_⟩;cases i with
    |zero=>
     simp at hb;subst hb;refine⟨?_,a,rfl,D⟩;cases a with
     |vD=>simp[TV.res]at D
     |tup=>simp[TV.res]at D
     |v g cs=>
      simp only[TV.res]at D;split at D
      ·rename_i q N;simp at D;subst D;exact Qwb N
      ·simp at D
    |succ i=>simpa using M i b (by simpa using hb)
   ·simp at h
  ·simp at h
end
open Go.RowKit
section
variable {P:Program} {C:Cfg} {ρ:Env} {w:World} {R:Type} {Z:Base} {tm:List TV} {aB:List (Nat×Box)} {aC:List (Nat×Row)} {tmps:Array Value}
theorem KL {a b:Nat} (h:a≠b):Nat.beq a b=false:=by
  cases hb:Nat.beq a b
  · rfl
  · exact absurd (af hb) h
theorem Hw {a b:Nat} (h:Nat.beq a b=false):a≠b:=by rintro rfl;simp at h
theorem TVR.map {J:Env} {w':World} {g:AC->AC} {v:TV} (L:∀(a:AC) (x:Value),AC.wf aB aC a->CC ρ w a x->CC J w' (g a) x) (G:TV.wf aB aC v) {x:Value} (h:TVR ρ w v x):
    TVR J w' (v.mapC g) x:=by
  have S:∀{l:List AC} {xs:List Value},(∀a∈l,AC.wf aB aC a)->CL (CC ρ w) l xs->CL (CC J w') (l.map g) xs:=by
    intro l;induction l with
    |nil=>intro xs _ h;cases xs<;>first|exact h|exact h.elim
    |cons a l M=>
      intro xs T h;cases xs with
      |nil=>exact h.elim
      |cons y xs=>exact⟨L a y (T a (by simp)) h.1,M (λb hb=>T b (by simp[hb])) h.2⟩
  cases v with
  |vD=>trivial
  |v b cs=>
    cases b
    · obtain⟨a,rfl,V⟩:=h;exact⟨g a,rfl,L a x (G a (by simp)) V⟩
    · obtain⟨I,rfl,D⟩:=h;exact⟨I,rfl,S G D⟩
  |tup ps=>
    obtain⟨I,rfl,D⟩:=h;refine⟨I,rfl,?_⟩;generalize I.toList=l at D;induction ps generalizing l with
    |nil=>cases l<;>first|exact D|exact D.elim
    |cons p ps M=>
      cases l with
      |nil=>exact D.elim
      |cons y l=>
        obtain⟨b,cs⟩:=p;refine⟨?_,M (λq X=>G q (by simp[X])) l D.2⟩;have U:=D.1;have E:=G (b,cs) (by simp);cases b
        · obtain⟨a,N,O⟩:=U;subst N;exact⟨g a,rfl,L a y (E a (by simp)) O⟩
        · obtain⟨Y,N,O⟩:=U;exact⟨Y,N,S E O⟩
theorem CL.mapg {D:Env} {w':World} {g:AC->AC}:∀{l:List AC} {xs:List Value},(∀(a:AC) (x:Value),AC.wf aB aC a->CC ρ w a x->CC D w' (g a) x)->(∀a∈l,AC.wf aB aC a)->CL (CC ρ w) l xs->CL (CC D w') (l.map g) xs
  |[],[],_,_,h=>h
  |a::l,y::xs,E,G,h=>⟨E a y (G a (by simp)) h.1,CL.mapg E (λb hb=>G b (by simp[hb])) h.2⟩
  |[],_::_,_,_,h=>h.elim
  |_::_,[],_,_,h=>h.elim
theorem TV.wf_map {D:List (Nat×Box)} {E:List (Nat×Row)} {g:AC->AC} {v:TV} (J:∀a,AC.wf aB aC a->AC.wf D E (g a)) (L:TV.wf aB aC v):
    TV.wf D E (v.mapC g):=by
  cases v with
  |vD=>trivial
  |v b cs=>
    intro a G;simp only[bc]at G;obtain⟨c,I,rfl⟩:=G;exact J c (L c I)
  |tup ps=>
    intro p M a G;simp only[bc]at M;obtain⟨q,N,rfl⟩:=M;simp only[bc]at G;obtain⟨c,I,rfl⟩:=G;exact J c (L q N c I)
theorem TV.fz_eq (id:Nat) (ks:List Kd) (l:List (List AC)) (v:TV):v.fz id ks l=v.mapC (AC.fz id ks l):=by cases v<;>rfl
theorem RelE.freeze (h:RelE Z tm aB aC ρ tmps w) {id:Nat} {r:Row} (M:Ac aC id=some r):
    RelE Z (tm.map (TV.fz id r.ks r.l)) (aB.map λp=>(p.1,p.2.fz id r.ks r.l)) (del id aC) {ρ with im:=λb=>ρ.im b\/(ρ.rv id).ownBlock=some b} tmps w:=by
  have U:∀k,Ac (aB.map λp=>(p.1,p.2.fz id r.ks r.l)) k=(Ac aB k).map (Box.fz id r.ks r.l):=λk=>GU (Box.fz id r.ks r.l) aB k;have D:∀(k:Nat) (b:Box),Ac (aB.map λp=>(p.1,p.2.fz id r.ks r.l)) k=some b->∃b',Ac aB k=some b'/\b=b'.fz id r.ks r.l:=by
    intro k b E;rw[U]at E;cases hl:Ac aB k with
    |none=>rw[hl]at E;simp at E
    |some b'=>rw[hl]at E;simp at E;exact⟨b',rfl,E.symm⟩
  have I:∀(k:Nat) (b:Box),Ac aB k=some b->∃b',Ac (aB.map λp=>(p.1,p.2.fz id r.ks r.l)) k=some b':=λk b E=>⟨b.fz id r.ks r.l,by rw[U,E];rfl⟩;obtain⟨q1,q2,q0,xs,q3,q4⟩:=h.ro id r M;have S:CP (λb=>ρ.im b\/(ρ.rv id).ownBlock=some b) w (.vC r.ks r.l) (ρ.rv id):=
    ZP q3 (q4.mono (λ_ h=> .inl h) (λ_ _=>rfl)) (λg hg=> .inr hg)
  have V:∀(a:AC) (x:Value),AC.wf aB aC a->CC ρ w a x->CC {ρ with im:=λb=>ρ.im b\/(ρ.rv id).ownBlock=some b} w (a.fz id r.ks r.l) x:=by
    intro a x _ hx;have T:CC {ρ with im:=λb=>ρ.im b\/(ρ.rv id).ownBlock=some b} w a x:=CC.mono (ρ:=ρ) (ρ':={ρ with im:=λb=>ρ.im b\/(ρ.rv id).ownBlock=some b}) (λ_ h=> .inl h) (λ_ _=>rfl) a x (AC.agree_refl rfl rfl rfl a) hx;cases a with
    |own j w1 n1=>
      simp only[AC.fz];cases hb:Nat.beq j id
      · exact T
      · have:=af hb;subst this
        obtain⟨c1,_,_⟩:=hx;subst c1;exact S
    |rptr j i1 s1=>
      simp only[AC.fz];cases hb:Nat.beq j id
      · exact T
      · exact hx.one
    |_=>exact T
  have X:∀a,AC.wf aB aC a->AC.wf (aB.map λp=>(p.1,p.2.fz id r.ks r.l)) (del id aC) (a.fz id r.ks r.l):=by
    intro a L;cases a with
    |ptr k o=>obtain⟨b,hb⟩:=L;exact I k b hb
    |bsl k o=>obtain⟨b,hb⟩:=L;exact I k b hb
    |own j w1 n1=>
      simp only[AC.fz];cases hb:Nat.beq j id
      · obtain⟨q,G,J⟩:=L
        exact⟨q,by rw[Mr _ _ _ (Hw hb)];exact G,J⟩
      · trivial
    |rptr j i1 s1=>
      simp only[AC.fz];cases hb:Nat.beq j id
      · obtain⟨q,G,J⟩:=L
        exact⟨q,by rw[Mr _ _ _ (Hw hb)];exact G,J⟩
      · trivial
    |vptr=>exact L
    |clo f fs cs=>exact⟨λa T=>AC.wfP_mono I (L.1 a T),λa T=>AC.wfP_mono I (L.2 a T)⟩
    |_=>trivial
  refine⟨by simpa using h.tl,?_,?_,?_,?_,?_,?_,?_,?_,?_,h.fr,h.fs,λb hb=> .inl (h.i0 b hb),?_,?_⟩
  · intro i v hi
    simp only[d7,bv]at hi;obtain⟨u,Y,rfl⟩:=hi;rw[TV.fz_eq];exact TVR.map V (h.wt u (cd Y)) (h.tv i u Y)
  · intro v hv
    simp only[bc]at hv;obtain⟨u,Y,rfl⟩:=hv;rw[TV.fz_eq];exact TV.wf_map X (h.wt u Y)
  · intro k b E a L
    obtain⟨b',N,rfl⟩:=D k b E;simp only[Box.fz,bc]at L;obtain⟨c,hc,rfl⟩:=L;exact X _ (h.wb k b' N c hc)
  · intro k b E
    obtain⟨b',N,rfl⟩:=D k b E;obtain⟨arr,h1,h2,h3⟩:=h.bx k b' N;exact⟨arr,h1,CL.mapg V (h.wb k b' N) h2,h3⟩
  · intro k k' b b' E a0
    obtain⟨_,G,_⟩:=D k b E;obtain⟨_,J,_⟩:=D k' b' a0;exact h.bi k k' _ _ G J
  · intro j q O
    obtain⟨a3,a1⟩:=Nf O;obtain⟨G,J,p0,ys,p3,p4⟩:=h.ro j q a1;exact⟨G,J,p0,ys,p3,p4.mono (λ_ h=> .inl h) (λ_ _=>rfl)⟩
  · intro j j' q q' g O a2
    exact h.ri j j' q q' g (Nf O).2 (Nf a2).2
  · intro k b j q E O
    obtain⟨_,G,_⟩:=D k b E;exact h.br k _ j q G (Nf O).2
  · rintro b (hb|hb)
    · obtain⟨G,J,p3⟩:=h.ib b hb
      exact⟨G,λk bo E=>by obtain⟨_,p,_⟩:=D k bo E;exact J k _ p,λj q O=>p3 j q (Nf O).2⟩
    · refine⟨(h.rwlt M hb).2,λk bo E e=> ?_,λj q O e=> ?_⟩
      · obtain⟨_,p,_⟩:=D k bo E
        exact h.br k _ id r p M (by rw[hb];exact ik some e.symm)
      · have hd:=Nf O
        exact hd.1 (h.ri j id q r b hd.2 M e hb)
  · rintro b (hb|hb)
    · exact h.i1 b hb
    · exact .inr (q0 b hb)
  · intro k b E
    obtain⟨G,bo,J⟩:=h.k0 k b E;exact⟨G,I k bo J⟩
theorem FJ:∀{l:List Nat} {n:Nat},AW l n=true↔n∈l
  |[],n=>by simp[AW]
  |m::l,n=>by
    simp only[AW,ao];cases h:Nat.beq m n
    · simp only[aq,FJ (l:=l)]
      constructor
      · exact .inr
      · rintro(e|e)
        · exact absurd e.symm (Hw h)
        · exact e
    · simp[af h]
theorem Pn {α:Type}:∀{l:List (Nat×α)} {k:Nat} {b:α},Ac l k=some b->(k,b)∈l
  |[],_,_,h=>by simp[Ac]at h
  |(j,c)::l,k,b,h=>by
    simp only[Ac]at h;cases hb:Nat.beq j k<;>rw[hb]at h
    · simp only[aq]at h;exact List.mem_cons_of_mem _ (Pn h)
    · simp at h;subst h;rw[af hb];simp
theorem TT {α:Type} (keys:List Nat):∀{l:List (Nat×α)} {k:Nat} {b:α},Ac (l.filter λp=>AW keys p.1) k=some b->Ac l k=some b/\AW keys k=true
  |[],k,b,h=>by simp[Ac]at h
  |(j,c)::l,k,b,h=>by
    simp only[List.filter_cons]at h;cases D:AW keys j
    · rw[D]at h
      simp only[du,iv]at h;obtain⟨G,E⟩:=TT keys (l:=l) h;refine⟨?_,E⟩;simp only[Ac];rw[KL (by rintro rfl;rw[D]at E;cases E)];exact G
    · rw[D]at h
      simp only[dv,Ac]at h⊢;cases hb:Nat.beq j k<;>rw[hb]at h
      · exact TT keys (l:=l) h
      · have:=af hb;subst this
        exact⟨h,D⟩
theorem Kz {α:Type} (keys:List Nat):∀{l:List (Nat×α)} {k:Nat} {b:α},AW keys k=true->Ac l k=some b->Ac (l.filter λp=>AW keys p.1) k=some b
  |[],k,b,_,h=>by simp[Ac]at h
  |(j,c)::l,k,b,D,h=>by
    simp only[List.filter_cons];simp only[Ac]at h;cases hb:Nat.beq j k<;>rw[hb]at h
    · simp only[aq]at h
      split
      · simp only[Ac,hb,aq];exact Kz keys D h
      · exact Kz keys D h
    · have:=af hb;subst this
      rw[D];simp only[dv,Ac,hb];exact h
theorem AC.wf_filter {keys ids:List Nat} {a:AC} (D:AC.inK keys ids a=true) (E:AC.wf aB aC a):AC.wf (aB.filter λp=>AW keys p.1) (aC.filter λp=>AW ids p.1) a:=by
  have L:∀l:List AC,Al (AC.inK.inP keys) l=true->(∀a∈l,AC.wfP aB a)->∀a∈l,AC.wfP (aB.filter λp=>AW keys p.1) a:=by
    intro l M N a E;have I:=AD.1 M a E;have J:=N a E;cases a<;>first|trivial|(obtain⟨b,hb⟩:=J;exact⟨b,Kz keys I hb⟩)
  cases a with
  |ptr k o=>obtain⟨b,G⟩:=E;exact⟨b,Kz keys D G⟩
  |bsl k o=>obtain⟨b,G⟩:=E;exact⟨b,Kz keys D G⟩
  |own id O n=>obtain⟨q,I,J⟩:=E;exact⟨q,Kz ids D I,J⟩
  |rptr id i s1=>obtain⟨q,I,J⟩:=E;exact⟨q,Kz ids D I,J⟩
  |vptr=>exact E
  |clo f fs cs=>
    simp only[AC.inK,ak]at D;exact⟨L fs D.1 E.1,L cs D.2 E.2⟩
  |_=>trivial
theorem TV.wf_filter {keys ids:List Nat} {v:TV} (D:TV.inK keys ids v=true) (G:TV.wf aB aC v):TV.wf (aB.filter λp=>AW keys p.1) (aC.filter λp=>AW ids p.1) v:=by
  cases v with
  |vD=>trivial
  |v g cs=>exact λa E=>AC.wf_filter (AD.1 D a E) (G a E)
  |tup ps=>exact λp I a E=>AC.wf_filter (AD.1 (AD.1 D p I) a E) (G p I a E)
theorem RelE.filter (h:RelE Z tm aB aC ρ tmps w) {keys ids:List Nat} {G:List TV} {E:Array Value} (L:G.length=E.size)
    (M:∀(i:Nat) (v:TV),G[i]? =some v->TVR ρ w v (E.getD i undef)) (N:∀v∈G,TV.wf aB aC v)
    (O:Al (TV.inK keys ids) G=true) (S:Al (λp:Nat×Box=>Al (AC.inK keys ids) p.2.cells) (aB.filter λp=>AW keys p.1)=true)
    (T:∀k b,Z.K0 k=some b->AW keys k=true):
    RelE Z G (aB.filter λp=>AW keys p.1) (aC.filter λp=>AW ids p.1) ρ E w:=by
  have hb:∀(k:Nat) (b:Box),Ac (aB.filter λp=>AW keys p.1) k=some b->Ac aB k=some b:=λk b D=>(TT keys D).1;have J:∀(k:Nat) (b:Row),Ac (aC.filter λp=>AW ids p.1) k=some b->Ac aC k=some b:=λk b D=>(TT ids D).1;refine⟨L,M,λv hv=>TV.wf_filter (AD.1 O v hv) (N v hv),λk b D a ha=> ?_,λk b D=>h.bx k b (hb k b D),λk k' b b' D U=>h.bi k k' b b' (hb k b D) (hb k' b' U),
    λid q I=>h.ro id q (J id q I),λid id' q q' g I V=>h.ri id id' q q' g (J id q I) (J id' q' V),λk b id q D I=>h.br k b id q (hb k b D) (J id q I),λb X=> ?_,h.fr,h.fs,h.i0,h.i1,λk b D=> ?_⟩
  · exact AC.wf_filter (AD.1 (AD.1 S (k,b) (Pn D)) a ha) (h.wb k b (hb k b D) a ha)
  · obtain⟨Y,q2,q3⟩:=h.ib b X
    exact⟨Y,λk bo D=>q2 k bo (hb k bo D),λid q I=>q3 id q (J id q I)⟩
  · obtain⟨Y,bo,q2⟩:=h.k0 k b D
    exact⟨Y,bo,Kz keys (T k b D) q2⟩
theorem RelE.lookB {D:List (Nat×Box)} {E:List (Nat×Row)} (h:RelE Z tm aB aC ρ tmps w) (hb:∀j,Ac aB j=Ac D j) (J:∀j,Ac aC j=Ac E j):RelE Z tm D E ρ tmps w:=by
  have L:∀a,AC.wf aB aC a->AC.wf D E a:=λa=>AC.wf_mono (λk b G=>⟨b,by rw[<-hb];exact G⟩) (λk r G=>⟨r,by rw[<-J];exact G,rfl,rfl⟩);refine⟨h.tl,h.tv,λv U=>TV.wf_mono L (h.wt v U),λk b G a V=>L a (h.wb k b (by rw[hb];exact G) a V),λk b G=>h.bx k b (by rw[hb];exact G),λk k' b b' G M=>h.bi k k' b b' (by rw[hb];exact G) (by rw[hb];exact M),
    λid q I=>h.ro id q (by rw[J];exact I),λid id' q X g I N=>h.ri id id' q X g (by rw[J];exact I) (by rw[J];exact N),λk b id q G I=>h.br k b id q (by rw[hb];exact G) (by rw[J];exact I),λb O=> ?_,h.fr,h.fs,h.i0,h.i1,λk b G=> ?_⟩
  · obtain⟨S,T,Y⟩:=h.ib b O
    exact⟨S,λk bo G=>T k bo (by rw[hb];exact G),λid q I=>Y id q (by rw[J];exact I)⟩
  · obtain⟨S,bo,T⟩:=h.k0 k b G
    exact⟨S,bo,by rw[<-hb];exact T⟩
theorem RelE.reBox (h:RelE Z tm aB aC ρ tmps w) {g:Nat->Box->Box} (O:∀k b,(g k b).ty=b.ty)
    (I:∀(k:Nat) (b:Box),Ac aB k=some b->(∀(xs:List Value),CL (CC ρ w) b.cells xs->CL (CC ρ w) (g k b).cells xs)/\∀a∈(g k b).cells,AC.wf aB aC a):
    RelE Z tm (aB.map λp=>(p.1,g p.1 p.2)) aC ρ tmps w:=by
  have J:∀(l:List (Nat×Box)) k,Ac (l.map λp=>(p.1,g p.1 p.2)) k=(Ac l k).map (g k):=by
    intro l;induction l with
    |nil=>intro k;rfl
    |cons p l V=>
      intro k;obtain⟨j,b⟩:=p;simp only[bm,Ac,V];cases hb:Nat.beq j k
      · rfl
      · have:=af hb;subst this;rfl
  have E:∀(k:Nat) (b:Box),Ac (aB.map λp=>(p.1,g p.1 p.2)) k=some b->∃b',Ac aB k=some b'/\b=g k b':=by
    intro k b D;rw[J]at D;cases U:Ac aB k with
    |none=>rw[U]at D;simp at D
    |some b'=>rw[U]at D;simp at D;exact⟨b',rfl,D.symm⟩
  have L:∀(k:Nat) (b:Box),Ac aB k=some b->∃b',Ac (aB.map λp=>(p.1,g p.1 p.2)) k=some b':=λk b D=>⟨g k b,by rw[J,D];rfl⟩;have M:∀a,AC.wf aB aC a->AC.wf (aB.map λp=>(p.1,g p.1 p.2)) aC a:=λa=>AC.wf_mono L (λk r D=>⟨r,D,rfl,rfl⟩);refine⟨h.tl,h.tv,λv X=>TV.wf_mono M (h.wt v X),?_,?_,?_,h.ro,h.ri,?_,?_,h.fr,h.fs,h.i0,h.i1,?_⟩
  · intro k b D a Y
    obtain⟨b',G,rfl⟩:=E k b D;exact M a ((I k b' G).2 a Y)
  · intro k b D
    obtain⟨b',G,rfl⟩:=E k b D;obtain⟨arr,h1,h2,h3⟩:=h.bx k b' G;exact⟨arr,by rw[O];exact h1,(I k b' G).1 _ h2,h3⟩
  · intro k k' b b' D S
    obtain⟨_,N,_⟩:=E k b D;obtain⟨_,T,_⟩:=E k' b' S;exact h.bi k k' _ _ N T
  · intro k b j q D hq
    obtain⟨_,N,_⟩:=E k b D;exact h.br k _ j q N hq
  · intro b hb
    obtain⟨q1,q2,q3⟩:=h.ib b hb;exact⟨q1,λk bo D=>by obtain⟨_,p,_⟩:=E k bo D;exact q2 k _ p,q3⟩
  · intro k b D
    obtain⟨N,bo,T⟩:=h.k0 k b D;exact⟨N,L k bo T⟩
theorem Lx {w:World}:∀(ks:List Kd) (cs:List AC) (xs:List Value),CL (CC ρ w) cs xs->CL (CC ρ w) (El ks cs) xs
  |[],cs,xs,h=>by cases cs<;>exact h
  | .sl ks::l,[],xs,h=>h
  | .int k::l,[],xs,h=>h
  | .bool::l,[],xs,h=>h
  | .raw::l,[],xs,h=>h
  |_::l,a::cs,[],h=>h.elim
  | .int _::l,a::cs,x::xs,h=>by simp only[El];exact⟨h.1,Lx l cs xs h.2⟩
  | .bool::l,a::cs,x::xs,h=>by simp only[El];exact⟨h.1,Lx l cs xs h.2⟩
  | .raw::l,a::cs,x::xs,h=>by simp only[El];exact⟨h.1,Lx l cs xs h.2⟩
  | .sl ks::l,a::cs,x::xs,h=>by
    cases a<;>simp only[El]<;>first
      |exact⟨h.1,Lx l cs xs h.2⟩
      | (refine ⟨?_, Lx l cs xs h.2⟩
         have D:=h.1;simp only[CC,CP]at D;subst D;exact UV ks)
theorem Ok:∀(ks:List Kd) (cs:List AC),(∀a∈cs,AC.wf aB aC a)->∀a∈El ks cs,AC.wf aB aC a
  |[],cs,h=>by cases cs<;>exact h
  | .sl ks::l,[],h=>h
  | .int k::l,[],h=>h
  | .bool::l,[],h=>h
  | .raw::l,[],h=>h
  | .int _::l,a::cs,h=>by
    simp only[El,ao,jn]at h⊢;exact⟨h.1,Ok l cs h.2⟩
  | .bool::l,a::cs,h=>by
    simp only[El,ao,jn]at h⊢;exact⟨h.1,Ok l cs h.2⟩
  | .raw::l,a::cs,h=>by
    simp only[El,ao,jn]at h⊢;exact⟨h.1,Ok l cs h.2⟩
  | .sl ks::l,a::cs,h=>by
    simp only[ao,jn]at h;have D:=Ok l cs h.2;cases a<;>simp only[El,ao,jn]<;>first
      |exact⟨h.1,D⟩
      |exact⟨trivial,D⟩
theorem Zzn {α:Type} {l:List α} {n:Nat} {v x:α} (h:x∈setL l n v):x∈l\/x=v:=by
  rw[Jj]at h;exact d6 h
theorem CL.setL {D:AC->Value->Prop}:∀{l:List AC} {xs:List Value} (n:Nat) {a:AC},CL D l xs->(∀x,xs[n]? =some x->D a x)->CL D (setL l n a) xs
  |[],[],_,_,h,_=>h
  |b::l,x::xs,0,a,h,E=>⟨E x rfl,h.2⟩
  |b::l,x::xs,n+1,a,h,E=>⟨h.1,CL.setL n h.2 λy G=>E y (by simpa using G)⟩
  |[],_::_,_,_,h,_=>h.elim
  |_::_,[],_,_,h,_=>h.elim
theorem RelE.promB (h:RelE Z tm aB aC ρ tmps w) {k o:Nat} {b:Box} (T:Ac aB k=some b) (O:nth .vD b.cells o= .nilSl) {id:Nat} (I:Ac aC id=none) {e:TypeId} {ks:List Kd} (U:0<ks.length):
    RelE Z tm (upd aB k ⟨b.ty,setL b.cells o (.own id ks.length 0)⟩) (ins aC id ⟨e,ks,[]⟩) {ρ with rv:=upN ρ.rv id (.slice none 0 0),wd:=upN ρ.wd id ks.length} tmps w:=by
  have E:=h.addRow (d:=id) I (r:=⟨e,ks,[]⟩) (v':= .slice none 0 0) (xs:=[]) (w':=w) (Below.refl _ _) U (Yn w e ks.length) ⟨by simp,by simp,λi c hi=>by simp at hi⟩ (λg V=>by simp[Value.ownBlock]at V);have J:=Fy aC id (⟨e,ks,[]⟩:Row) I;generalize hρ:({ρ with rv:=upN ρ.rv id (.slice none 0 0),wd:=upN ρ.wd id ks.length}:Env)=ρ2 at E;have e1:ρ2.rv id= .slice none 0 0:=by rw[<-hρ];exact B3 _ _ _
  have e2:ρ2.wd id=ks.length:=by rw[<-hρ];exact B3 _ _ _
  have X := E.reBox (g := λj c => bif Nat.beq j k then ⟨c.ty, setL c.cells o (.own id ks.length 0)⟩ else c) (λj c => by cases Nat.beq j k <;> rfl) (by
    intro j c S;cases hb:Nat.beq j k
    · exact⟨λxs h=>h,E.wb j c S⟩
    · have:=af hb;subst this
      rw[T]at S;simp at S;subst S;simp only[ai];refine⟨λxs hx=>hx.setL o λx Y=> ?_,λa ha=> ?_⟩
      · have G:o<b.cells.length:=by
          rcases kq o b.cells.length with G|a0
          · exact G
          · rw[B5,List.getD,df a0]at O;simp at O
        have V:b.cells[o]? =some .nilSl:=by
          rw[B5,List.getD,ag G]at O;rw[ag G];simpa using O
        obtain⟨y,hy,L⟩:=hx.get V;rw[Y]at hy;simp at hy;subst hy;simp only[CC,CP]at L;subst L;exact⟨e1.symm,e2, .inl ⟨rfl,rfl⟩⟩
      · rcases Zzn ha with ha|rfl
        · exact E.wb j b T a ha
        · exact⟨_,J,rfl,rfl⟩)
  have M:∀(l:List (Nat×Box)) (b':Box),Ac l k=some b'->∀j,Ac (l.map λp=>(p.1,bif Nat.beq p.1 k then(⟨p.2.ty,setL p.2.cells o (.own id ks.length 0)⟩:Box)else p.2)) j=Ac (upd l k ⟨b'.ty,setL b'.cells o (.own id ks.length 0)⟩) j:=by
    intro l;induction l with
    |nil=>intro b' D;simp[Ac]at D
    |cons p l ih=>
      intro b' D j;obtain⟨q,c⟩:=p;simp only[Ac]at D;cases N:Nat.beq q k
      · rw[N]at D;simp only[aq]at D
        simp only[bm,upd,N,aq,Ac];rw[ih b' D j]
      · rw[N]at D;simp at D;subst D
        have:=af N;subst this;simp only[bm,upd,N,ai,Ac];cases a1:Nat.beq q j
        · simp only[aq]
          have a2:=Hw a1;have:∀m:List (Nat×Box),Ac (m.map λp=>(p.1,bif Nat.beq p.1 q then(⟨p.2.ty,setL p.2.cells o (.own id ks.length 0)⟩:Box)else p.2)) j=Ac m j:=by
            intro m;induction m with
            |nil=>rfl
            |cons p m a3=>
              obtain⟨q',c'⟩:=p;simp only[bm,Ac,a3];cases hb:Nat.beq q' j
              · rfl
              · have e:=af hb;subst e
                rw[KL (λe=>a2 e.symm)];rfl
          exact this l
        · rfl
  exact X.lookB (M aB b T) λ_=>rfl
end
end Go.Bm
