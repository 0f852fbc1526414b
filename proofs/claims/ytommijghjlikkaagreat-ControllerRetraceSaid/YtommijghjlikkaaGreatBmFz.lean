/- the abstract machine -/
import Derived.WalkKit
import Derived.ProofKit
import Derived.Laws.StructEq
import Derived.Maps.AppendAt
set_option linter.unusedVariables false
set_option linter.unusedSimpArgs false
namespace Go.Bm
theorem aa {c:Prop} {_:Decidable c} (h:¬c:=by omega) {α:Sort _} {t e:α}:ite c t e=e:=if_neg h
theorem ab {c:Prop} {_:Decidable c} (h:c:=by omega) {α:Sort _} {t e:α}:ite c t e=t:=if_pos h
abbrev ac:=@Nat.eq_of_beq_eq_true
abbrev af:=@List.length_map
abbrev ag:=@Option.bind_some
abbrev ai:=@List.getElem?_eq_getElem
abbrev aj:=@cond_true
abbrev ak:=@Int.toNat_natCast
abbrev al:=@Bool.and_eq_true
abbrev am:=@decide_eq_true
abbrev an:=@decide_eq_false
abbrev ao:=@cond_false
abbrev ap:=@Option.some.injEq
abbrev av:=@List.mem_cons
abbrev ay:=@List.length_append
abbrev az:=@List.cons_append
abbrev ba:=@List.mem_map
abbrev bc:=@Nat.le_of_ble_eq_true
abbrev bf:=@List.nil_append
abbrev bh:=@Int.tdiv_eq_ediv_of_nonneg
abbrev bj:=@List.length_cons
abbrev bn:=@List.getElem_mem
abbrev bp:=@Nat.mul_le_mul_right
abbrev bq:=@List.mem_append
abbrev bt:=@List.map_cons
abbrev bv:=@Decidable.byContradiction
abbrev bz:=@Int.le_refl
abbrev cd:=@Option.map_eq_some_iff
abbrev cg:=@Int.eq_ofNat_of_zero_le
abbrev co:=@List.length_drop
abbrev cq:=@List.mem_of_getElem?
abbrev cx:=@Eq.trans
abbrev cz:=@Int.mul_le_mul_of_nonneg_left
abbrev da:=@decide_eq_true_eq
abbrev db:=@Nat.le_refl
abbrev de:=@List.map_append
abbrev df:=@Nat.le_trans
abbrev dg:=@List.length_nil
abbrev dh:=@Result.andThen_ok
abbrev dk:=@Prod.mk.injEq
abbrev dl:=@Option.bind_eq_some_iff
abbrev dm:=@List.getElem?_eq_none
abbrev dp:=@Int.mul_le_mul_of_nonneg_right
abbrev dq:=@Int.natCast_mul
abbrev dt:=@Nat.add_mul
abbrev du:=@Nat.add_assoc
abbrev dv:=@Array.getElem?_eq_some_iff
abbrev dw:=@List.mem_singleton
abbrev dx:=@Bool.false_eq_true
abbrev dy:=@Array.length_toList
abbrev dz:=@if_true
abbrev d6:=@List.mem_of_mem_drop
abbrev d7:=@Nat.add_sub_cancel_left
abbrev d8:=@List.mem_or_eq_of_mem_set
abbrev d9:=@Nat.zero_add
abbrev eu:=@List.mem_of_mem_take
abbrev fa:=@Int.mul_comm
abbrev fc:=@List.drop_of_length_le
abbrev fd:=@Nat.eq_zero_or_pos
abbrev fe:=@List.getElem?_drop
abbrev ff:=@Nat.mul_lt_mul_of_pos_right
abbrev fg:=@Nat.mul_comm
abbrev fh:=@Nat.div_lt_iff_lt_mul
abbrev fj:=@List.foldl_cons
abbrev fm:=@Classical.choose_spec
abbrev fo:=@List.getElem?_map
abbrev fq:=@List.append_assoc
abbrev fu:=@List.getD_eq_getElem?_getD
abbrev fv:=@Nat.mul_le_mul
abbrev fx:=@List.getElem?_eq_some_iff
abbrev fy:=@Int.mul_nonneg
abbrev f6:=@Int.mul_le_mul
abbrev f7:=@List.eq_nil_of_length_eq_zero
abbrev f8:=@List.map_nil
abbrev f9:=@List.drop_zero
abbrev gf:=@Nat.lt_of_lt_of_le
abbrev gh:=@List.getElem?_take
abbrev gj:=@List.getElem_map
abbrev gk:=@Int.fdiv_eq_ediv_of_nonneg
abbrev gn:=@Int.natAbs_mul_self
abbrev gq:=@Nat.two_pow_pos
abbrev gv:=@Nat.div_add_mod
abbrev gw:=@Nat.ble_eq_true_of_le
abbrev gx:=@Int.natCast_add
abbrev gy:=@Nat.one_mul
abbrev gz:=@List.getElem?_append
abbrev ia:=@Nat.mod_lt
abbrev ic:=@List.length_take
abbrev ie:=@iff_of_false
abbrev ig:=@if_false
abbrev ii:=@congrArg
abbrev ij:=@Nat.succ_mul
abbrev ik:=@Nat.mul_assoc
abbrev il:=@List.drop_eq_getElem_cons
abbrev ip:=@Nat.mul_self_lt_mul_self
abbrev iq:=@Nat.div_le_self
abbrev iu:=@List.ext_getElem?
abbrev iv:=@Int.mul_self_le_mul_self
abbrev iw:=@Bool.not_eq_true'
abbrev iy:=@Int.le_trans
abbrev iz:=@Int.add_zero
abbrev i6:=@Nat.zero_le
abbrev i7:=@Array.toList_map
abbrev i8:=@List.take_of_length_le
abbrev i9:=@Int.cast_ofNat_Int
abbrev ja:=@Nat.zero_mul
abbrev jb:=@List.length_set
abbrev jc:=@List.take_add_one
abbrev jd:=@List.getElem?_set
abbrev je:=@Int.tmod_eq_emod_of_nonneg
abbrev jf:=@List.nodup_nil
abbrev jg:=@Array.getElem?_eq_getElem
abbrev jh:=@forall_eq_or_imp
abbrev ji:=@Int.one_mul
abbrev jj:=@Int.add_mul
abbrev jk:=@Nat.pow_succ
abbrev jl:=@Option.map_some
abbrev jm:=@Nat.le_mul_of_pos_right
abbrev jn:=@List.cons.injEq
abbrev jo:=@Int.natAbs_natCast
abbrev jp:=@Bool.or_eq_true
abbrev jq:=@List.getElem_cons_succ
abbrev jr:=@Int.mul_add
abbrev js:=@List.drop_drop
abbrev jt:=@Nat.sub_self
abbrev ju:=@Nat.beq_refl
abbrev jv:=@Nat.add_zero
abbrev jx:=@List.take_length
abbrev jy:=@List.drop_append_of_le_length
abbrev jz:=@Int.natCast_zero
abbrev j0:=@List.replicate_succ
abbrev j5:=@List.nodup_cons
abbrev j6:=@Int.neg_mul
abbrev j7:=@Int.natCast_one
abbrev j8:=@Int.mul_sub
abbrev j9:=@of_decide_eq_false
abbrev ke:=@Nat.lt_or_ge
abbrev kf:=@Nat.add_comm
abbrev kg:=@Int.zero_mul
abbrev kh:=@Int.emod_lt_of_pos
abbrev ki:=@BitVec.toNat_ofInt
abbrev kj:=@List.getElem?_append_left
abbrev kk:=@not_false_eq_true
abbrev km:=@List.getElem_drop
abbrev kn:=@List.foldl_append
abbrev ko:=@Int.mul_left_comm
abbrev kq:=@List.drop_eq_nil_of_le
inductive Kd where
 |int (k:IntKind)
 |bool
 |sl (ks:List Kd)
 |raw
inductive AC where
 |dead
 |int (k:IntKind) (n:Int)
 |bool (b:Bool)
 |raw (v:Value)
 |nilSl
 |ptr (key off:Nat)
 |own (id w n:Nat)
 |vC (ks:List Kd) (l:List (List AC))
 |rptr (id idx sub:Nat)
 |vptr (cells:List AC) (sub:Nat)
 |clo (f:FuncId) (first caps:List AC)
 |bsl (key n:Nat)
inductive TV where
 |dead
 |v (g:Bool) (cs:List AC)
 |tup (ps:List (Bool×List AC))
abbrev TV.c (a:AC):TV:= .v false [a]
abbrev TV.agg (cs:List AC):TV:= .v true cs
def Ah:AC->Int
 | .int _ n=>n
 |_=>0
def Dh:AC->Bool
 | .bool b=>b
 |_=>false
def CI:AC->List (List AC)
 | .vC _ l=>l
 |_=>[]
structure Box where
 ty:TypeId
 cells:List AC
variable {R:Type}
def nth {α:Type} (d:α):List α->Nat->α
 |[],_=>d
 |x::_,0=>x
 |_::xs,n+1=>nth d xs n
def M9:Kd->AC->AC
 | .int k,a=> .int k (Ah a)
 | .bool,a=> .bool (Dh a)
 | .sl ks,a=> .vC ks (CI a)
 | .raw, .raw v=> .raw v
 | .raw,_=> .dead
def E7:List Kd->List AC->Nat->List AC
 |[],_,_=>[]
 |k::ks,cs,j=>M9 k (nth .dead cs j)::E7 ks cs (j+1)
def AT (ks:List Kd) (cs:List AC):List AC:=E7 ks cs 0
structure Row where
 ty:TypeId
 ks:List Kd
 l:List (List AC)
abbrev Row.w (r:Row):Nat:=r.ks.length
abbrev Row.n (r:Row):Nat:=r.l.length
abbrev Row.f (r:Row) (i:Nat):List AC:=AT r.ks (nth [] r.l i)
structure Mem where
 aB:List (Nat×Box)
 aC:List (Nat×Row)
structure St where
 tmps:List TV
 aB:List (Nat×Box)
 aC:List (Nat×Row)
def setL {α:Type}:List α->Nat->α->List α
 |[],_,_=>[]
 |_::xs,0,v=>v::xs
 |x::xs,n+1,v=>x::setL xs n v
def AX {α:Type}:List α->(List α->Option R)->Option R
 |[],K=>K []
 |x::xs,K=>AX xs λE=>K (x::E)
def Ac {α:Type}:List (Nat×α)->Nat->Option α
 |[],_=>none
 |(k,b)::l,key=>bif Nat.beq k key then some b else Ac l key
def upd {α:Type}:List (Nat×α)->Nat->α->List (Nat×α)
 |[],_,_=>[]
 |(k,b)::l,key,x=>bif Nat.beq k key then(k,x)::l else(k,b)::upd l key x
def ins {α:Type}:List (Nat×α)->Nat->α->List (Nat×α)
 |[],key,x=>[(key,x)]
 |(k,b)::l,key,x=>bif Nat.blt key k then(key,x)::(k,b)::l else(k,b)::ins l key x
def cut {α:Type} (l:List α) (off m:Nat):List α:=(l.drop off).take m
def splice {α:Type}:List α->Nat->List α->List α
 |l,_,[]=>l
 |[],_,_::_=>[]
 |_::xs,0,v::E=>v::splice xs 0 E
 |x::xs,n+1,v::E=>x::splice xs n (v::E)
def NL:Value->AC
 | .int k n=> .int k n
 | .bool b=> .bool b
 | .slice none 0 0=> .nilSl
 | .string s=> .raw (.string s)
 | .pointer none=> .raw (.pointer none)
 | .nilFunc=> .raw .nilFunc
 | .nilIface=> .raw .nilIface
 |_=> .dead
def Jj:List Value->Option (List AC)
 |[]=>some []
 | v :: l => bif v.oneCell' then (match Jj l with
  |some cs=>some (NL v::cs)
  |none=>none)else none
def ofValue:Value->TV
 | .agg cs=>match Jj cs.toList with
  |some l=> .agg l
  |none=> .dead
 | .tuple _=> .dead
 |v=> .c (NL v)
def TV.cells:TV->Option (List AC)
 | .v _ cs=>some cs
 |_=>none
def TV.int? :TV->Option Int
 | .v false [.int _ n]=>some n
 |_=>none
def kEq:IntKind->IntKind->Bool
 | .i8, .i8| .i16, .i16| .i32, .i32| .i64, .i64| .u8, .u8| .u16, .u16| .u32, .u32| .u64, .u64=>true
 |_,_=>false
def AC.plain:AC->Bool
 | .int _ _| .bool _| .raw _| .nilSl| .vC _ _=>true
 |_=>false
def AC.calm:AC->Bool
 | .int _ _| .bool _| .raw _| .nilSl| .vC _ _| .dead=>true
 |_=>false
def Al {α:Type} (p:α->Bool):List α->Bool
 |[]=>true
 |x::l=>bif p x then Al p l else false
mutual
def Fc:Kd->Kd->Bool
 | .int k, .int k'=>kEq k k'
 | .bool, .bool=>true
 | .sl ks, .sl E=>Ds ks E
 | .raw, .raw=>true
 |_,_=>false
def Ds:List Kd->List Kd->Bool
 |[],[]=>true
 |k::ks,k'::E=>bif Fc k k' then Ds ks E else false
 |_,_=>false
end
def YA:Kd->AC->Option AC
 | .int k, .int k' n=>bif kEq k k' then some (.int k n)else none
 | .bool, .bool b=>some (.bool b)
 | .sl ks, .nilSl=>some (.vC ks [])
 | .sl ks, .vC E l=>bif Ds ks E then some (.vC ks l)else none
 | .raw, .raw v=>some (.raw v)
 |_,_=>none
def IC:List Kd->List AC->Option (List AC)
 |[],[]=>some []
 |k::ks,a::cs=>match YA k a with
  |some G=>match IC ks cs with
   |some E=>some (G::E)
   |none=>none
  |none=>none
 |_,_=>none
def IA (ks:List Kd):Nat->List AC->Option (List (List AC))
 |0,[]=>some []
 |0,_=>none
 |n+1,cs=>match IC ks (cs.take ks.length)with
  |some c=>match IA ks n (cs.drop ks.length)with
   |some l=>some (c::l)
   |none=>none
  |none=>none
inductive Prim where
 |val (v:TV)
 |load (agg:Bool) (sz key off:Nat)
 |store (key off:Nat) (cells:List AC)
 |new (ty:TypeId) (cells:List AC)
 |newS (ty:TypeId) (n:Nat) (cells:List AC)
 |cutR (id a:Nat)
 |rload (agg:Bool) (sz id idx sub:Nat)
 |rstore (id idx sub:Nat) (cells:List AC)
 |append (e:TypeId) (ks:List Kd) (bytes:Nat) (s x:AC)
 |newRow (e:TypeId) (ks:List Kd) (l:List (List AC))
 |newView (e:TypeId) (ks:List Kd) (l:List (List AC))
 |make (e:TypeId) (ks:List Kd) (bytes:Nat) (n:Int) (z:List AC)
 |call (f:FuncId) (args:List TV)
 |callM (f:FuncId) (args:List TV)
 |callD (f:FuncId) (args:List TV)
 |callF (f:FuncId) (args:List TV)
 |appD (e:TypeId) (ks:List Kd) (bytes:Nat) (s x:AC)
def mn (x y:Int):Int:=if y<x then y else x
def mx (x y:Int):Int:=if y>x then y else x
def G0 (op:BinOp) (k:IntKind) (a b:Int) (K:AC->Option R):Option R:=
 match op with
 | .add=>K (.int k (k.wrap (a+b)))
 | .sub=>K (.int k (k.wrap (a-b)))
 | .mul=>K (.int k (k.wrap (a*b)))
 | .quo=>cond (decide (b=0)) none (K (.int k (k.wrap (a.tdiv b))))
 | .rem=>cond (decide (b=0)) none (K (.int k (a.tmod b)))
 | .and=>K (.int k (k.wrap ((BitVec.ofInt k.bits a&&&BitVec.ofInt k.bits b).toNat:Int)))
 | .or=>K (.int k (k.wrap ((BitVec.ofInt k.bits a|||BitVec.ofInt k.bits b).toNat:Int)))
 | .xor=>K (.int k (k.wrap ((BitVec.ofInt k.bits a^^^BitVec.ofInt k.bits b).toNat:Int)))
 | .andNot=>K (.int k (k.wrap ((BitVec.ofInt k.bits a&&& ~~~BitVec.ofInt k.bits b).toNat:Int)))
 | .eql=>K (.bool (a==b))
 | .neq=>K (.bool (a !=b))
 | .lss=>K (.bool (decide (a<b)))
 | .leq=>K (.bool (decide (a<=b)))
 | .gtr=>K (.bool (decide (a>b)))
 | .geq=>K (.bool (decide (a>=b)))
 | .shl=>cond (decide (b<0)) none (K (.int k (k.wrap (a*2^(min b.toNat k.bits)))))
 | .shr=>cond (decide (b<0)) none (K (.int k (a.fdiv (2^(min b.toNat k.bits)))))
def NO:BinOp->Bool
 | .shl| .shr=>true
 |_=>false
inductive CS where
 |any
 |int (k:IntKind)
 |bool
 |sl (ks:List Kd)
 |rawc
 |nil
 |ptr (key off:Nat)
 |own (id w:Nat)
 |clo (f:FuncId) (fs cs:List (Nat×Nat))
 |bsl (key n:Nat)
inductive TS where
 |dead
 |v (g:Bool) (cs:List CS)
 |tup (ps:List (Bool×List CS))
structure Sk where
 tmps:List TS
 aB:List (Nat×TypeId×List CS):=[]
 aC:List (Nat×TypeId×List Kd):=[]
inductive Ex where
 |normal
 |exit (id:Nat)
 |ret
def Spec:=∀R:Type,List TV->Mem->(TV->Mem->Option R)->Option R
def Kk:=∀R:Type,List AC->(Ex->St->Option R)->Option R
def I5:List (Nat×Spec)->FuncId->Option Spec
 |[],_=>none
 |(k,b)::l,f=>bif Nat.beq k f then some b else I5 l f
structure Cfg where
 spec:FuncId->Option Spec
 eqOk:List TypeId:=[]
 tprom:List (Nat×TypeId):=[]
 prom:Nat->List (Nat×TypeId):=λ_=>[]
 loops:Nat->Option (Sk×Kk):=λ_=>none
 blocks:Nat->Option (Sk×Kk):=λ_=>none
 conds:Nat->Option (Sk×Kk):=λ_=>none
 pure:FuncId->Bool:=λ_=>true
 ro:FuncId->Bool:=λ_=>false
 lend:FuncId->Bool:=λ_=>false
 ownOff:TypeId->List (Nat×TypeId):=λ_=>[]
 rowAs:Nat->Nat:=λd=>d
 ownBut:List Nat:=[]
 rowDst:List Nat:=[]
 cuts:List Nat:=[]
 fstore:Bool:=false
 ownRes:Bool:=false
 unroll:List Nat:=[]
section prog
variable (P:Program)
def CY (t:TypeId):Option Bool:=
 match P.underlying t with
 |some (.struct _)=>some true
 |some (.array _ _)=>some true
 |some _=>some false
 |none=>none
def szT (t:TypeId):Option Nat:=
 match P.info? t with
 |some i=>some i.size
 |none=>none
def JN (t:TypeId):Option (List AC):=
 match P.info? t with
 |some i=>match i.zero with
  |some v=>Jj v.cells.toList
  |none=>none
 |none=>none
def UB (t:TypeId) (i:Nat):Option Field:=
 match P.underlying t with
 |some (.struct fs)=>fs.toList[i]?
 |_=>none
def DV (agg:Bool) (sz:Nat) (cells:List AC) (off:Nat):Option TV:=
 bif agg then(bif Nat.ble (off+sz) cells.length then some (.agg (cut cells off sz))else none)
 else match cells[off]? with
  |some a=>some (.c a)
  |none=>none
def IS (t:TypeId) (n:Nat):Bool:=
 match CY P t with
 |some true=>true
 |some false=>Nat.beq n 1
 |none=>false
def Ju {β:Type} (g:β->Option Bool):List β->Option Bool
 |[]=>some true
 |x::l=>match g x with
  |some b=>match Ju g l with
   |some b'=>some (b&&b')
   |none=>none
  |none=>none
def eqC (ok:List TypeId):Nat->TypeId->List AC->List AC->Option Bool
 |0,_,_,_=>none
 |d+1,t,xs,ys=>
  match P.underlying t with
  |some .bool=>match xs,ys with
   |[.bool a],[.bool b]=>some (a==b)
   |_,_=>none
  |some (.int _)=>match xs,ys with
   |[.int k a],[.int k' b]=>bif kEq k k' then some (a==b)else none
   |_,_=>none
  | some (.struct fs) => bif ok.elem t then Ju (λf : Field => bif f.name == "_" then none else match szT P f.type with
    |some n=>bif(Nat.ble (f.offset+n) xs.length&&Nat.ble (f.offset+n) ys.length&&IS P f.type n)then eqC ok d f.type (cut xs f.offset n) (cut ys f.offset n)else none
    |none=>none) fs.toList else none
  |some (.array n e)=>match szT P e with
   |some m=>bif(Nat.ble (n*m) xs.length&&Nat.ble (n*m) ys.length&&IS P e m)then Ju (λi=>eqC ok d e (cut xs (i*m) m) (cut ys (i*m) m)) (List.range n)else none
   |none=>none
  |_=>none
def Ha (i:Int):(todo k:Nat)->(Nat->Option R)->Option R
 |0,_,_=>none
 |n+1,k,K=>cond (decide (i=(k:Int))) (K k) (Ha i n (k+1) K)
def Ob (t:TypeId) (cs:List AC) (off:Nat):Option TV:=
 match CY P t,szT P t with
 |some a,some sz=>DV a sz cs off
 |_,_=>none
def Jd (place:Nat->Option (Nat×Nat)):List AC->List (Nat×TV)->Option (List AC)
 |cells,[]=>some cells
 |cells,(i,v)::rest=>
  match place i,v.cells with
  |some (off,size),some cs=>bif(Nat.beq cs.length size&&Nat.ble (off+size) cells.length)then Jd place (splice cells off cs) rest else none
  |_,_=>none
def Qy4 (g:TypeId->Option (List Kd)):List Field->Nat->Option (List Kd)
 |[],_=>some []
 |f::fs,o=>match g f.type with
  | some ks => bif Nat.beq f.offset o then (match Qy4 g fs (o + ks.length) with
   |some l=>some (ks++l)
   |none=>none)else none
  |none=>none
def Rt (ks:List Kd):Nat->List Kd
 |0=>[]
 |n+1=>ks++Rt ks n
def Gx:Nat->TypeId->Option (List Kd)
 |0,_=>none
 |n+1,t=>match P.underlying t with
  |some .bool=>some [.bool]
  |some (.int k)=>some [.int k]
  |some (.slice e)=>match Gx n e with
   |some ks=>some [.sl ks]
   |none=>none
  |some (.struct fs)=>Qy4 (Gx n) fs.toList 0
  |some (.array m e)=>match Gx n e with
   |some ks=>some (Rt ks m)
   |none=>none
  |some _=>some [.raw]
  |none=>none
def Ns (zero:List AC):Nat->List AC
 |0=>[]
 |n+1=>zero++Ns zero n
def GC (g:Int->Int->Int) (k:IntKind) (a:Int):List TV->(Prim->Option R)->Option R
 |[],K=>K (.val (.c (.int k a)))
 |t::rest,K=>match t with
  | .v false [.int k' b]=>bif kEq k k' then GC g k (g a b) rest K else none
  |_=>none
def Np (b:Builtin) (argTypes:List TypeId) (args:List TV) (K:Prim->Option R):Option R:=
 match b,args with
 | .len,[.v false [.vC _ l]]=>match argTypes with
  |t::_=>match P.underlying t with
   |some (.slice _)=>K (.val (.c (.int .i64 (l.length:Int))))
   |_=>none
  |[]=>none
 | .len,[.v false [.own _ _ n]]=>match argTypes with
  |t::_=>match P.underlying t with
   |some (.slice _)=>K (.val (.c (.int .i64 (n:Int))))
   |_=>none
  |[]=>none
 | .len,[.v false [.bsl _ n]]=>match argTypes with
  |t::_=>match P.underlying t with
   |some (.slice _)=>K (.val (.c (.int .i64 (n:Int))))
   |_=>none
  |[]=>none
 | .len,[.v false [.nilSl]]=>match argTypes with
  |t::_=>match P.underlying t with
   |some (.slice _)=>K (.val (.c (.int .i64 0)))
   |_=>none
  |[]=>none
 | .len,[.v true _]=>match argTypes with
  |t::_=>match P.underlying t with
   |some (.array n _)=>K (.val (.c (.int .i64 (n:Int))))
   |_=>none
  |[]=>none
 | .min, .v false [.int k a]::rest=>GC mn k a rest K
 | .max, .v false [.int k a]::rest=>GC mx k a rest K
 | .append,[.c s, .c x]=>match argTypes with
  |[t,u]=>match P.underlying t,P.underlying u with
   |some (.slice e),some (.slice _)=>match P.info? e,Gx P 8 e with
    |some i,some ks=>match i.zero with
     |some z=>bif(Nat.beq t u&&Nat.beq z.cells.size i.size&&Nat.beq ks.length i.size)then K (.append e ks i.bytes s x)else none
     |none=>none
    |_,_=>none
   |_,_=>none
  |_=>none
 |_,_=>none
def K8 (E:Operand->TV):Option Operand->Option (Option Int)
 |none=>some none
 |some x=>match(E x).int? with
  |some n=>some (some n)
  |none=>none
def C9 (E:Operand->TV):List Operand->List TV
 |[]=>[]
 |x::l=>E x::C9 E l
def Gu (E:Operand->TV):List (Nat×Operand)->List (Nat×TV)
 |[]=>[]
 |x::l=>(x.1,E x.2)::Gu E l
def Mb (f:Field):Bool:=
 match szT P f.type with
 |some _=>true
 |none=>false
def XM (fs:List Field) (i:Nat):Option (Nat×Nat):=
 match fs[i]? with
 |some f=>match szT P f.type with
  |some n=>some (f.offset,n)
  |none=>none
 |none=>none
variable (C:Cfg)
def Tu (dst:Option Tmp) (n:Nat):Bool:=match dst with
 |some d=>C.rowDst.elem d||Nat.beq n 0
 |none=>false
def AC.isClo:AC->Bool
 | .clo _ _ _=>true
 |_=>false
def AC.clOk:AC->Bool
 | .int _ _| .bool _| .raw _| .nilSl| .vC _ _| .ptr _ _=>true
 |_=>false
def JY:List TV->Option (List AC)
 |[]=>some []
 | .v false [a] :: l => bif a.clOk then (match JY l with
  |some r=>some (a::r)
  |none=>none)else none
 |_=>none
def opK (E:Operand->TV) (dst:Option Tmp) (o:Op) (K:Prim->Option R):Option R:=
 match o with
 | .move x=>K (.val (E x))
 | .assign x=>K (.val (E x))
 | .pick c a b=>match E c with
  | .v false [.bool g]=>cond g (K (.val (E a))) (K (.val (E b)))
  |_=>none
 | .alloc t=>match JN P t with
  |some cs=>K (.new t cs)
  |none=>none
 | .box t x=>match(E x).cells with
  |some cs=>K (.new t cs)
  |none=>none
 | .build t parts=>match JN P t,P.underlying t with
  |some z,some (.struct fs)=>bif Al (Mb P) fs.toList then match Jd (XM P fs.toList) z (Gu E parts.toList)with
   |some cs=>K (.val (.agg cs))
   |none=>none else none
  |some z,some (.array _ e)=>match szT P e with
   |some n=>match Jd (λi=>some (i*n,n)) z (Gu E parts.toList)with
    |some cs=>K (.val (.agg cs))
    |none=>none
   |none=>none
  |_,_=>none
 | .buildSlice t n parts=>match P.underlying t with
  |some (.slice e)=>match szT P e,JN P e,Gx P 8 e with
   |some w,some z,some ks=>bif(Nat.beq z.length w&&Nat.beq ks.length w&&Nat.ble 1 w&&Nat.ble (n*w) 65536)then match Jd (λi=>some (i*w,w)) (Ns z n) (Gu E parts.toList)with
    |some cs=>match IA ks n cs with
     |some l=>cond (Tu C dst n) (K (.newRow e ks l)) (K (.newView e ks l))
     |none=>bif Al AC.isClo cs&&Nat.beq w 1 then K (.newS e n cs)else none
    |none=>none else none
   |_,_,_=>none
  |_=>none
 | .makeSlice t len cap=>match P.underlying t,(E len).int?,(E cap).int? with
  |some (.slice e),some n,some c=>match P.info? e,JN P e,Gx P 8 e with
   |some i,some z,some ks=>match IC ks z with
    |some G=>bif(Nat.beq ks.length i.size&&Nat.ble 1 i.size&&Nat.ble 1 i.bytes)then cond (decide (n=c)) (K (.make e ks i.bytes n G)) none else none
    |none=>none
   |_,_,_=>none
  |_,_,_=>none
 | .makeFunc I first captured=>match I with
  | .func f=>match JY (C9 E first.toList),JY (C9 E captured.toList)with
   |some fs,some cs=>K (.val (.c (.clo f fs cs)))
   |_,_=>none
  |_=>none
 | .load t a=>match CY P t,szT P t with
  |some g,some sz=>match E a with
   | .v false [.ptr key off]=>K (.load g sz key off)
   | .v false [.vptr cells sub]=>match DV g sz cells sub with
    |some v=>K (.val v)
    |none=>none
   | .v false [.rptr id idx sub]=>K (.rload g sz id idx sub)
   |_=>none
  |_,_=>none
 | .store t a x=>match szT P t,(E x).cells with
  |some sz,some cs=>bif Nat.beq cs.length sz then match E a with
    | .v false [.ptr key off]=>K (.store key off cs)
    | .v false [.rptr id idx sub]=>K (.rstore id idx sub cs)
    |_=>none else none
  |_,_=>none
 | .nilCheck x=>match E x with
  | .v false [.ptr key off]=>K (.val (.c (.ptr key off)))
  | .v false [.rptr id idx sub]=>K (.val (.c (.rptr id idx sub)))
  | .v false [.vptr cs sub]=>K (.val (.c (.vptr cs sub)))
  |_=>none
 | .binOp op t x y _=>match E x,E y with
  | .v false [.int k a], .v false [.int k' b]=>bif kEq k k'||NO op then G0 op k a b λv=>K (.val (.c v))else none
  | .v false [.bool a], .v false [.bool b]=>match P.underlying t,op with
   |some .bool, .eql=>K (.val (.c (.bool (a==b))))
   |some .bool, .neq=>K (.val (.c (.bool (!(a==b)))))
   |_,_=>none
  | .v false [.ptr _ _], .v false [.raw (.pointer none)]=>match P.underlying t,op with
   |some (.pointer _), .eql=>K (.val (.c (.bool false)))
   |some (.pointer _), .neq=>K (.val (.c (.bool true)))
   |_,_=>none
  | .v true xs, .v true J=>bif P.eqGuardType P.depth t then none else match CY P t,eqC P C.eqOk 20 t xs J,op with
   |some true,some r, .eql=>K (.val (.c (.bool r)))
   |some true,some r, .neq=>K (.val (.c (.bool (!r))))
   |_,_,_=>none
  |_,_=>none
 | .unOp op _ x=>match op,E x with
  | .neg, .v false [.int k n]=>K (.val (.c (.int k (k.wrap (0-n)))))
  | .not, .v false [.bool b]=>K (.val (.c (.bool (!b))))
  |_,_=>none
 | .convert src dst x=>match P.underlying src,P.underlying dst,E x with
  |some _,some (.int k), .v false [.int _ n]=>K (.val (.c (.int k (k.wrap n))))
  |_,_,_=>none
 | .fieldAddr t x i=>match UB P t i with
  |some f=>match szT P f.type with
   |some (_+1)=>match E x with
    | .v false [.ptr key off]=>K (.val (.c (.ptr key (off+f.offset))))
    | .v false [.rptr id idx sub]=>K (.val (.c (.rptr id idx (sub+f.offset))))
    | .v false [.vptr cs sub]=>K (.val (.c (.vptr cs (sub+f.offset))))
    |_=>none
   |_=>none
  |none=>none
 | .field t x i=>match UB P t i,E x with
  |some f, .v true cs=>match Ob P f.type cs f.offset with
   |some v=>K (.val v)
   |none=>none
  |_,_=>none
 | .indexAddr t x ix=>match(E ix).int?,P.underlying t with
  |some i,some (.array n e)=>match szT P e,E x with
   |some m, .v false [.ptr key off]=>Ha i n 0 λj=>K (.val (.c (.ptr key (off+j*m))))
   |some m, .v false [.rptr id idx sub]=>Ha i n 0 λj=>K (.val (.c (.rptr id idx (sub+j*m))))
   |some m, .v false [.vptr cs sub]=>Ha i n 0 λj=>K (.val (.c (.vptr cs (sub+j*m))))
   |_,_=>none
  |some i,some (.slice e)=>match szT P e,E x with
   |some m, .v false [.vC ks l]=>bif Nat.beq m ks.length then cond (decide (0<=i)&&decide (i<(l.length:Int))) (K (.val (.c (.vptr (AT ks (nth [] l i.toNat)) 0)))) none else none
   |some m, .v false [.own id w n]=>bif Nat.beq m w then cond (decide (0<=i)&&decide (i<(n:Int))) (K (.val (.c (.rptr id i.toNat 0)))) none else none
   |some m, .v false [.bsl key n]=>bif Nat.beq m 1 then Ha i n 0 λj=>K (.val (.c (.ptr key j)))else none
   |_,_=>none
  |_,_=>none
 | .index t x ix=>match(E ix).int?,P.underlying t,E x with
  |some i,some (.array n e), .v true cs=>match szT P e with
   |some m=>Ha i n 0 λj=>match Ob P e cs (j*m)with
    |some v=>K (.val v)
    |none=>none
   |none=>none
  |_,_,_=>none
 | .slice t x lo hi mx=>match mx,K8 E lo,K8 E hi,P.underlying t with
  |none,some lo,some hi,some (.slice e)=>match szT P e,E x with
   |some m, .v false [.vC ks l]=>bif Nat.beq m ks.length then
    match lo,hi with
    |none,none=>K (.val (.c (.vC ks l)))
    |some a,none=>cond (decide (0<=a)&&decide (a<=(l.length:Int))) (K (.val (.c (.vC ks (l.drop a.toNat))))) none
    |none,some b=>cond (decide (0<=b)&&decide (b<=(l.length:Int))) (K (.val (.c (.vC ks (l.take b.toNat))))) none
    |some a,some b=>cond (decide (0<=a)&&decide (a<=b)&&decide (b<=(l.length:Int))) (K (.val (.c (.vC ks ((l.take b.toNat).drop a.toNat))))) none
    else none
   |some m, .v false [.own id w n]=>match lo,hi with
    |some a,none=>bif Nat.beq m w then cond (decide (0<=a)&&decide (a<=(n:Int))) (K (.cutR id a.toNat)) none else none
    |_,_=>none
   |some _, .v false [.nilSl]=>match lo,hi with
    |none,none=>K (.val (.c .nilSl))
    |some a,none=>cond (decide (a=0)) (K (.val (.c .nilSl))) none
    |none,some b=>cond (decide (b=0)) (K (.val (.c .nilSl))) none
    |some a,some b=>cond (decide (a=0)&&decide (b=0)) (K (.val (.c .nilSl))) none
   |_,_=>none
  |_,_,_,_=>none
 | .extract t i=>match E t with
  | .tup ps=>match ps[i]? with
   |some (g,cs)=>K (.val (.v g cs))
   |none=>none
  |_=>none
 | .call c=>match c.callee with
  | .builtin b=>Np P b c.argTypes.toList (C9 E c.args.toList) K
  | .value (.func f)=>cond (C.pure f) (K (.call f (C9 E c.args.toList))) (K (.callM f (C9 E c.args.toList)))
  | .value (.tmp t)=>match E (.tmp t)with
   | .v false [.clo f fs cs]=>bif Al AC.clOk fs&&Al AC.clOk cs then K (.callM f (fs.map TV.c++(C9 E c.args.toList++cs.map TV.c)))else none
   |_=>none
  |_=>none
 |_=>none
def A8 (tmps:List TV):Operand->TV
 | .tmp t=>nth .dead tmps t
 | .const v=>ofValue v
 |_=> .dead
def AC.kill (id:Nat):AC->AC
 | .own j w n=>bif Nat.beq j id then .dead else .own j w n
 | .rptr j a b=>bif Nat.beq j id then .dead else .rptr j a b
 |a=>a
def TV.kill (id:Nat):TV->TV
 | .v g cs=> .v g (cs.map (AC.kill id))
 | .tup ps=> .tup (ps.map λp=>(p.1,p.2.map (AC.kill id)))
 | .dead=> .dead
def Box.kill (id:Nat) (b:Box):Box:=⟨b.ty,b.cells.map (AC.kill id)⟩
def AC.fz (id:Nat) (ks:List Kd) (l:List (List AC)):AC->AC
 | .own j w n=>bif Nat.beq j id then .vC ks l else .own j w n
 | .rptr j a b=>bif Nat.beq j id then .dead else .rptr j a b
 |a=>a
def TV.fz (id:Nat) (ks:List Kd) (l:List (List AC)):TV->TV
 | .v g cs=> .v g (cs.map (AC.fz id ks l))
 | .tup ps=> .tup (ps.map λp=>(p.1,p.2.map (AC.fz id ks l)))
 | .dead=> .dead
def Box.fz (id:Nat) (ks:List Kd) (l:List (List AC)) (b:Box):Box:=⟨b.ty,b.cells.map (AC.fz id ks l)⟩
def del {α:Type} (id:Nat):List (Nat×α)->List (Nat×α)
 |[]=>[]
 |(k,b)::l=>bif Nat.beq k id then del id l else(k,b)::del id l
def I8:List Nat->St->(St->Option R)->Option R
 |[],s,K=>K s
 |id::l,⟨tmps,aB,aC⟩,K=>match Ac aC id with
  |some r=>AX (tmps.map (TV.fz id r.ks r.l)) λG=>AX (aB.map λp=>(p.1,p.2.fz id r.ks r.l)) λE=>AX (del id aC) λI=>I8 l ⟨G,E,I⟩ K
  |none=>I8 l ⟨tmps,aB,aC⟩ K
def AC.res (aC:List (Nat×Row)):AC->Option AC
 | .own id _ _=>match Ac aC id with
  |some r=>some (.vC r.ks r.l)
  |none=>none
 | .int k n=>some (.int k n)
 | .bool b=>some (.bool b)
 | .raw v=>some (.raw v)
 | .nilSl=>some .nilSl
 | .vC ks l=>some (.vC ks l)
 |_=>none
def FV (aC:List (Nat×Row)):List AC->Option (List AC)
 |[]=>some []
 |a::l=>match a.res aC with
  |some E=>match FV aC l with
   |some G=>some (E::G)
   |none=>none
  |none=>none
def TV.res (aC:List (Nat×Row)):TV->Option TV
 | .v g cs=>match FV aC cs with
  |some l=>some (.v g l)
  |none=>none
 |_=>none
def Hb (aC:List (Nat×Row)):List TV->Option (List TV)
 |[]=>some []
 |a::l=>match a.res aC with
  |some E=>match Hb aC l with
   |some G=>some (E::G)
   |none=>none
  |none=>none
def AC.isOwn:AC->Bool
 | .own _ _ _=>true
 |_=>false
def TV.hasOwn:TV->Bool
 | .v _ cs=>cs.any AC.isOwn
 |_=>true
def AC.flat:AC->Bool
 | .int _ _| .bool _| .raw _| .nilSl=>true
 |_=>false
def TV.flat:TV->Bool
 | .v _ cs=>Al AC.flat cs
 | .tup ps=>Al (λp:Bool×List AC=>Al AC.flat p.2) ps
 | .dead=>false
def TV.plainB:TV->Bool
 | .v _ cs=>Al AC.plain cs
 | .tup ps=>Al (λp:Bool×List AC=>Al AC.plain p.2) ps
 | .dead=>false
def Prim.dr:Bool->Prim->Prim
 |false, .callM f args=>bif Al TV.plainB args then .callF f args else .callD f args
 |false, .append e ks b s x=> .appD e ks b s x
 |_,p=>p
def Hy (aC:List (Nat×Row)) (ks:List Kd):AC->Option (List (List AC))
 | .nilSl=>some []
 | .vC E l=>bif Ds ks E then some l else none
 | .own id _ _=>match Ac aC id with
  |some r=>bif Ds ks r.ks then some r.l else none
  |none=>none
 |_=>none
def put (s:St) (dst:Option Tmp) (v:TV) (K:St->Option R):Option R:=
 match dst with
 |none=>K s
 |some d=>match s with
  |⟨tmps,aB,aC⟩=>AX (setL tmps d v) λl=>K ⟨l,aB,aC⟩
def AC.keys:AC->List Nat
 | .ptr k _=>[k]
 | .bsl k _=>[k]
 | .clo _ fs cs=>keysL fs++keysL cs
 |_=>[]
 where keysL:List AC->List Nat
 |[]=>[]
 | .ptr k _::l=>k::keysL l
 |_::l=>keysL l
def AC.ids:AC->List Nat
 | .own id _ _=>[id]
 |_=>[]
def cat {α β:Type} (g:α->List β):List α->List β
 |[]=>[]
 |a::l=>g a++cat g l
def TV.cellsOf:TV->List AC
 | .v _ cs=>cs
 | .tup ps=>cat (λp:Bool×List AC=>p.2) ps
 | .dead=>[]
def QZ (n:Nat):List Nat->List Nat
 |[]=>[n]
 |m::l=>bif Nat.beq m n then m::l else m::QZ n l
def A_:List Nat->List Nat->List Nat
 |[],l=>l
 |n::E,l=>A_ E (QZ n l)
def E4 (aB:List (Nat×Box)) (k:Nat):List AC:=match Ac aB k with
 |some b=>b.cells
 |none=>[]
def Z1e (aB:List (Nat×Box)) (keys:List Nat):List Nat:=A_ (cat (λk=>cat AC.keys (E4 aB k)) keys) keys
def LX (aB:List (Nat×Box)):Nat->List Nat->List Nat
 |0,l=>l
 |n+1,l=>LX aB n (Z1e aB l)
def OA (aB:List (Nat×Box)) (cells:List AC) (keys:List Nat):List Nat:=
 A_ (cat AC.ids cells++cat (λk=>cat AC.ids (E4 aB k)) keys) []
def pos:List Nat->Nat->Nat
 |[],_=>0
 |m::l,n=>bif Nat.beq m n then 0 else pos l n+1
def AW:List Nat->Nat->Bool
 |[],_=>false
 |m::l,n=>bif Nat.beq m n then true else AW l n
def AC.ren (rk ri:Nat->Nat):AC->AC
 | .ptr k o=> .ptr (rk k) o
 | .bsl k n=> .bsl (rk k) n
 | .own id w n=> .own (ri id) w n
 | .rptr id i s=> .rptr (ri id) i s
 | .clo f fs cs=> .clo f (renP rk fs) (renP rk cs)
 |a=>a
 where renP (rk:Nat->Nat):List AC->List AC
 |[]=>[]
 | .ptr k o::l=> .ptr (rk k) o::renP rk l
 |a::l=>a::renP rk l
def TV.ren (E ri:Nat->Nat):TV->TV
 | .v g cs=> .v g (cs.map (AC.ren E ri))
 | .tup ps=> .tup (ps.map λp=>(p.1,p.2.map (AC.ren E ri)))
 | .dead=> .dead
def AC.inK (keys ids:List Nat):AC->Bool
 | .ptr k _=>AW keys k
 | .bsl k _=>AW keys k
 | .own id _ _=>AW ids id
 | .rptr id _ _=>AW ids id
 | .clo _ fs cs=>Al (inP keys) fs&&Al (inP keys) cs
 |_=>true
 where inP (keys:List Nat):AC->Bool
 | .ptr k _=>AW keys k
 |_=>true
def TV.inK (keys ids:List Nat):TV->Bool
 | .v _ cs=>Al (AC.inK keys ids) cs
 | .tup ps=>Al (λp:Bool×List AC=>Al (AC.inK keys ids) p.2) ps
 | .dead=>true
def Ef (aB:List (Nat×Box)) (E ri:Nat->Nat):Nat->List Nat->Option (List (Nat×Box))
 |_,[]=>some []
 |b,k::ks=>match Ac aB k with
  |some x=>match Ef aB E ri (b+1) ks with
   |some l=>some ((b,⟨x.ty,x.cells.map (AC.ren E ri)⟩)::l)
   |none=>none
  |none=>none
def GS (aC:List (Nat×Row)):Nat->List Nat->Option (List (Nat×Row))
 |_,[]=>some []
 |b,k::ks=>match Ac aC k with
  |some x=>match GS aC (b+1) ks with
   |some l=>some ((b,x)::l)
   |none=>none
  |none=>none
def base:Nat:=20000
def BX (names fresh:List Nat) (d:Nat) (n:Nat):Nat:=
 bif Nat.ble base n&&Nat.blt (n-base) names.length then nth 0 names (n-base)else 100000+100*d+pos fresh n
def Bu {α:Type} (names:List Nat):List (Nat×α)->List Nat
 |[]=>[]
 |(k,_)::l=>bif Nat.ble base k&&Nat.blt (k-base) names.length then Bu names l else k::Bu names l
def Ej {α:Type}:List Nat->List (Nat×α)->List (Nat×α)
 |[],l=>l
 |k::ks,l=>Ej ks (del k l)
def Nj (E ri:Nat->Nat):List (Nat×Box)->List (Nat×Box)->List (Nat×Box)
 |[],l=>l
 |(k,b)::m,l=>Nj E ri m (ins l (E k) ⟨b.ty,b.cells.map (AC.ren E ri)⟩)
def Ko (ri:Nat->Nat):List (Nat×Row)->List (Nat×Row)->List (Nat×Row)
 |[],l=>l
 |(k,b)::m,l=>Ko ri m (ins l (ri k) b)
def C2 (keys:List Nat):List (Nat×Box)->List (Nat×Box)->List (Nat×Box)
 |[],l=>l
 |(k,b)::m,l=>C2 keys m (upd l (nth 0 keys (k-base)) b)
def H4 (ids:List Nat) (v:TV):TV:=match ids with
 |[]=>v
 |id::l=>H4 l (v.kill id)
def Eb (ids:List Nat) (b:Box):Box:=match ids with
 |[]=>b
 |id::l=>Eb l (b.kill id)
def Ih {α:Type} (l:List (Nat×α)) (k:Nat):Bool:=match Ac l k with
 |some _=>false
 |none=>true
def BY:List Nat->Bool
 |[]=>true
 |k::l=>bif AW l k then false else BY l
def EO {α:Type} (l:List (Nat×α)) (k:Nat):Bool:=match Ac l k with
 |some _=>true
 |none=>false
def HR (d:Nat):Nat:=100000+100*d
def Bh (dst:Option Tmp) (p:Prim) (s:St) (K:TV->St->Option R):Option R:=
 match s with
 |⟨tmps,aB,aC⟩=>
 match p with
 | .val v=>K v ⟨tmps,aB,aC⟩
 | .load g sz key off=>match Ac aB key with
  |some b=>match DV g sz b.cells off with
   |some v=>K v ⟨tmps,aB,aC⟩
   |none=>none
  |none=>none
 | .store key off cs=>match Ac aB key with
  |some b=>bif Nat.ble (off+cs.length) b.cells.length then
    AX (splice b.cells off cs) λcells=>AX (upd aB key ⟨b.ty,cells⟩) λE=>K .dead ⟨tmps,E,aC⟩
   else none
  |none=>none
 | .new ty cs=>match dst with
  |some d=>match Ac aB d with
   |some _=>none
   |none=>AX (ins aB d ⟨ty,cs⟩) λE=>K (.c (.ptr d 0)) ⟨tmps,E,aC⟩
  |none=>none
 | .newS ty n cs=>match dst with
  |some d=>match Ac aB d with
   |some _=>none
   |none=>AX (ins aB d ⟨ty,cs⟩) λE=>K (.c (.bsl d n)) ⟨tmps,E,aC⟩
  |none=>none
 | .cutR id a=>match Ac aC id with
  |some r=>bif Nat.ble a r.l.length then
    AX (tmps.map (TV.kill id)) λI=>
    AX (aB.map λp=>(p.1,p.2.kill id)) λE=>
    AX (upd aC id ⟨r.ty,r.ks,r.l.drop a⟩) λG=>
    K (.c (.own id r.ks.length (r.l.drop a).length)) ⟨I,E,G⟩
   else none
  |none=>none
 | .rload g sz id idx sub=>match Ac aC id with
  |some r=>match DV g sz (r.f idx) sub with
   |some v=>K v ⟨tmps,aB,aC⟩
   |none=>none
  |none=>none
 | .rstore id idx sub cs=>match Ac aC id with
  |some r=>bif Nat.ble (sub+cs.length) r.w&&Al AC.plain cs then
    match IC r.ks (splice (r.f idx) sub cs)with
    |some c=>AX (upd aC id ⟨r.ty,r.ks,r.l.set idx c⟩) λG=>K .dead ⟨tmps,aB,G⟩
    |none=>none else none
  |none=>none
 | .newRow e ks l=>match dst with
  |some d=>match Ac aC (C.rowAs d)with
   |some _=>none
   |none=>AX (ins aC (C.rowAs d) ⟨e,ks,l⟩) λG=>K (.c (.own (C.rowAs d) ks.length l.length)) ⟨tmps,aB,G⟩
  |none=>none
 | .newView _ ks l=>K (.c (.vC ks l)) ⟨tmps,aB,aC⟩
 | .make e ks bytes n z=>match dst with
  |some d=>match Ac aC d with
   |some _=>none
   |none=>cond (decide (0<=n)&&decide (n*(bytes:Int)<=140737488355328))
     (AX (ins aC d ⟨e,ks,List.replicate n.toNat z⟩) λG=>K (.c (.own d ks.length (List.replicate n.toNat z).length)) ⟨tmps,aB,G⟩) none
  |none=>none
 | .append e ks bytes s x=>match Hy aC ks x with
  |some m=>match s with
   | .nilSl=>match dst with
    |some d=>match Ac aC d with
     |some _=>none
     |none=>bif(Nat.ble 1 ks.length&&Nat.ble 1 bytes)then cond (Nat.ble (m.length*bytes) 140737488355328) (AX (ins aC d ⟨e,ks,m⟩) λG=>K (.c (.own d ks.length m.length)) ⟨tmps,aB,G⟩) none else none
    |none=>none
   | .own id _ _=>match Ac aC id with
    |some r=>bif(Ds ks r.ks&&Nat.beq r.ty e&&Nat.ble 1 bytes)then
      cond (Nat.ble ((r.l ++ m).length * bytes) 140737488355328) (
       AX (tmps.map (TV.kill id)) λI=>
       AX (aB.map λp=>(p.1,p.2.kill id)) λE=>
       AX (upd aC id ⟨e,r.ks,r.l++m⟩) λG=>
       K (.c (.own id r.ks.length (r.l++m).length)) ⟨I,E,G⟩) none
     else none
    |none=>none
   |_=>none
  |none=>none
 | .appD e ks bytes s x=>match Hy aC ks x with
  |some m=>match s with
   | .own id _ _=>match Ac aC id with
    |some r=>bif(Ds ks r.ks&&Nat.beq r.ty e&&Nat.ble 1 bytes)then
      cond (Nat.ble ((r.l ++ m).length * bytes) 140737488355328) (
       AX (tmps.map (TV.kill id)) λI=>
       AX (aB.map λp=>(p.1,p.2.kill id)) λE=>
       AX (upd aC id ⟨e,r.ks,r.l++m⟩) λG=>
       K (.c (.own id r.ks.length (r.l++m).length)) ⟨I,E,G⟩) none
     else none
    |none=>none
   | .nilSl=>match dst with
    |some d=>match Ac aC d with
     |some _=>none
     | none => bif (Nat.ble 1 ks.length && Nat.ble 1 bytes) then cond (Nat.ble (m.length * bytes) 140737488355328) (
       AX (tmps.map (TV.kill d)) λI=>
       AX (aB.map λp=>(p.1,p.2.kill d)) λE=>
       AX (ins aC d ⟨e,ks,m⟩) λG=>K (.c (.own d ks.length m.length)) ⟨I,E,G⟩) none else none
    |none=>none
   |_=>none
  |none=>none
 | .call f args=>match C.spec f with
  |some g=>match Hb aC args with
   |some as=>g R as ⟨[],[]⟩ λv m=>match m with
    |⟨[],[]⟩=>bif((!(args.any TV.hasOwn)||v.flat)&&v.plainB)then K v ⟨tmps,aB,aC⟩else none
    |_=>none
   |none=>none
  |none=>none
 | .callM f args=>match C.spec f with
  |some g=>
   AX (LX aB 4 (A_ (cat AC.keys (cat TV.cellsOf args)) [])) λkeys=>
   AX (OA aB (cat TV.cellsOf args) keys) λids=>
   bif Al (TV.inK keys ids) args&&Al (λk=>Al (AC.inK keys ids) (E4 aB k)) keys&&BY keys&&BY ids then
    match Ef aB (λk=>base+pos keys k) (λi=>base+pos ids i) base keys,GS aC base ids with
    |some N,some T=>g R (args.map (TV.ren (λk=>base+pos keys k) (λi=>base+pos ids i))) ⟨N,T⟩ λv m=>match m with
     |⟨J,M⟩=>
      AX (Bu keys J) λS=>AX (Bu ids M) λO=>
      bif Al (λp:Nat×Box=>EO J p.1) N&&BY (J.map (·.1))&&BY (M.map (·.1))&&Al (λk=>Ih aB (BX keys S (dst.getD 0) k)) S&&Al (λk=>Ih aC (BX ids O (dst.getD 0) k)) O&&Nat.ble S.length 100&&Nat.ble O.length 100 then
       AX (tmps.map (H4 ids)) λI=>
       AX (Nj (BX keys S (dst.getD 0)) (BX ids O (dst.getD 0)) J ((Ej keys aB).map λp=>(p.1,Eb ids p.2))) λE=>
       AX (Ko (BX ids O (dst.getD 0)) M (Ej ids aC)) λG=>
       K (v.ren (BX keys S (dst.getD 0)) (BX ids O (dst.getD 0))) ⟨I,E,G⟩
      else none
    |_,_=>none
   else none
  |none=>none
 | .callD f args=>match C.spec f with
  |some g=>
   AX (A_ (cat AC.keys (cat TV.cellsOf args)) []) λkeys=>
   bif Al (TV.inK keys []) args&&Al (λk=>Al AC.calm (E4 aB k)) keys&&BY keys then
    match Ef aB (λk=>base+pos keys k) (λi=>base+pos [] i) base keys with
    |some N=>g R (args.map (TV.ren (λk=>base+pos keys k) (λi=>base+pos [] i))) ⟨N,[]⟩ λv m=>match m with
     |⟨J,[]⟩=>
      bif Al (λp:Nat×Box=>EO J p.1) N&&Al (λp:Nat×Box=>EO N p.1) J&&BY (J.map (·.1))&&Al (λp:Nat×Box=>Al AC.calm p.2.cells) J&&v.plainB then
       AX (C2 keys J aB) λE=>K v ⟨tmps,E,aC⟩
      else none
     |⟨_,_::_⟩=>none
    |none=>none
   else none
  |none=>none
 | .callF f args=>match C.spec f with
  |some g=>bif Al TV.plainB args then g R args ⟨[],[]⟩ λv m=>match m with
   |⟨[],[]⟩=>bif v.plainB then K v ⟨tmps,aB,aC⟩else none
   |⟨[],[(k,r)]⟩=>match v with
    | .v false [.own j _ _] => bif Nat.beq j k then (match Ac aC (HR (dst.getD 0)) with
     |some _=>none
     |none=>AX (ins aC (HR (dst.getD 0)) r) λG=>K (.c (.own (HR (dst.getD 0)) r.ks.length r.l.length)) ⟨tmps,aB,G⟩)else none
    |_=>none
   |_=>none
   else none
  |none=>none
def Qe (ops:List Oper) (o:Oper) (s:St) (run skip:St->Option R):Option R:=
 match o.guard with
 |none=>run s
 |some (j,want)=>match ops[j]? with
  |some E=>match E.dst with
   |some t=>match nth .dead s.tmps t with
    | .v false [.bool g]=>cond g (put s (some t) (.c (.bool true)) (bif want then run else skip)) (put s (some t) (.c (.bool false)) (bif want then skip else run))
    | .tup []=>skip s
    |_=>none
   |none=>none
  |none=>none
def Ne (k o:Nat) (e:TypeId) (s:St) (K:St->Option R):Option R:=match s with
 |⟨tmps,aB,aC⟩=>match Ac aB k with
  |some b=>match nth .dead b.cells o with
   | .nilSl=>match Gx P 8 e with
    |some ks=>bif Nat.ble 1 ks.length&&Ih aC (1000000+1000*k+o)then
      AX (ins aC (1000000+1000*k+o) ⟨e,ks,[]⟩) λG=>AX (setL b.cells o (.own (1000000+1000*k+o) ks.length 0)) λcells=>AX (upd aB k ⟨b.ty,cells⟩) λE=>K ⟨tmps,E,G⟩
     else none
    |none=>none
   |_=>K ⟨tmps,aB,aC⟩
  |none=>K ⟨tmps,aB,aC⟩
def JB:List (Nat×Nat×TypeId)->St->(St->Option R)->Option R
 |[],s,K=>K s
 |(k,o,e)::l,s,K=>Ne P k o e s λE=>JB l E K
def Em:List Kd->List AC->List AC
 | .sl ks::l, .nilSl::cs=> .vC ks []::Em l cs
 |_::l,a::cs=>a::Em l cs
 |_,cs=>cs
def TN (b:Box):Box:=match Gx P 8 b.ty with
 |some ks=>⟨b.ty,Em ks b.cells⟩
 |none=>b
def Jx:List (Nat×TypeId)->St->(St->Option R)->Option R
 |[],s,K=>K s
 |(t,e)::l,⟨tmps,aB,aC⟩,K=>match nth .dead tmps t with
  | .v false [.nilSl]=>match Ac aC t,Gx P 8 e with
   |none,some ks=>bif Nat.ble 1 ks.length then AX (setL tmps t (.c (.own t ks.length 0))) λE=>AX (ins aC t ⟨e,ks,[]⟩) λG=>Jx l ⟨E,aB,G⟩ K else none
   |_,_=>none
  |_=>Jx l ⟨tmps,aB,aC⟩ K
def Ij (s:St) (K:St->Option R):Option R:=
 JB P (cat (λp:Nat×Box=>bif AW C.ownBut p.1 then []else(C.ownOff p.2.ty).map λq=>(p.1,q.1,q.2)) s.aB) s λG=>match G with
  |⟨tmps,aB,aC⟩=>AX (aB.map λp=>(p.1,TN P p.2)) λE=>Jx P C.tprom ⟨tmps,E,aC⟩ K
def Z5u:TV->Bool
 | .v false [.rptr _ _ _]=>true
 |_=>false
def Z33 (C:Cfg):Operand->Bool
 | .tmp t=>AW C.cuts t
 |_=>false
def Q9w (E:Operand->TV) (o:Op):List Nat:=
 match o with
 | .slice _ x _ _ _=>bif Z33 C x then []else cat AC.ids (TV.cellsOf (E x))
 | .store _ a x=>bif C.fstore||Z5u (E a)then cat AC.ids (TV.cellsOf (E x))else []
 | .buildSlice _ _ parts=>cat AC.ids (cat TV.cellsOf (parts.toList.map λp=>E p.2))
 | .makeFunc _ a b=>cat AC.ids (cat TV.cellsOf (C9 E a.toList++C9 E b.toList))
 | .call c=>match c.callee with
  | .value (.func f)=>bif C.lend f then []else cat AC.ids (cat TV.cellsOf (C9 E c.args.toList))
  | .value _=>cat AC.ids (cat TV.cellsOf (C9 E c.args.toList))
  |_=>[]
 |_=>[]
def Xq (o:Op):Bool:=match o with
 | .call c=>match c.callee with
  | .value (.func f)=> !(C.pure f)
  | .value _=>true
  |_=>false
 |_=>false
def IV (o:Op) (s:St) (K:St->Option R):Option R:=
 I8 (Q9w C (A8 s.tmps) o) s λE=>bif Xq C o then Ij P C E K else K E
def F7 (pre:Bool) (ops:List Oper) (o:Oper) (s:St) (K:Option Prim->St->Option R):Option R:=
 Qe ops o s
  (λs=>(bif pre then IV P C o.op s else λK=>K s) λs=>opK P C (A8 s.tmps) o.dst o.op λp=>Bh C o.dst (p.dr pre) s λv E=>put E o.dst v (K (some (p.dr pre))))
  (λs=>put s o.dst (.tup []) (K none))
def Prim.simple:Option Prim->Bool
 |none=>true
 |some (.val _)=>true
 |some (.load _ _ _ _)=>true
 |some (.store _ _ _)=>true
 |some (.new _ _)=>true
 |some (.newView _ _ _)=>true
 |some (.rload _ _ _ _ _)=>true
 |some (.call _ _)=>true
 |some (.callD _ _)=>true
 |some (.callF _ _)=>true
 |some (.newRow _ _ _)=>true
 |some (.appD _ _ _ _ _)=>true
 |_=>false
def AC.live:AC->Bool
 | .int _ _| .bool _| .raw _| .nilSl| .vC _ _| .ptr _ _=>true
 |_=>false
def Prim.isPtr:Option Prim->Bool
 |some (.val (.v false [.ptr _ _]))=>true
 |_=>false
def Prim.isLive:Option Prim->Bool
 |some (.val (.v _ cs))=>Al AC.live cs
 |_=>false
def Prim.still (o:Op) (p:Option Prim):Bool:=match o with
 | .move _=>Prim.isLive p
 | .nilCheck _=>Prim.isPtr p
 | .fieldAddr _ _ _=>Prim.isPtr p
 |_=>false
def Prim.isApp:Option Prim->Bool
 |some (.appD _ _ _ _ _)=>true
 |_=>false
def Prim.isMk:Option Prim->Bool
 |some (.newRow _ _ _)=>true
 |some (.callF _ _)=>true
 |_=>false
def Prim.mkStill:Option Prim->Bool
 |none=>true
 |some (.val _)=>true
 |some (.load _ _ _ _)=>true
 |some (.newView _ _ _)=>true
 |some (.call _ args)=>Al TV.plainB args
 |some (.newRow _ _ _)=>true
 |some (.callF _ _)=>true
 |_=>false
def IW (y:Oper) (G:Option Prim) (x:Oper) (E:Option Prim):Bool:=
 bif Prim.isApp G then !(Prim.isApp E)&&y.guard.isNone&&x.guard.isNone&&Prim.still x.op E
 else bif Prim.isApp E then y.guard.isNone&&x.guard.isNone&&Prim.still y.op G
 else bif Prim.isMk G then Prim.mkStill E else bif Prim.isMk E then Prim.mkStill G else true
def Prim.meet (ro:FuncId->Bool):Option Prim->Option Prim->Bool
 |some (.load _ _ k _),some (.store k' _ _)=>Nat.beq k k'
 |some (.store k _ _),some (.load _ _ k' _)=>Nat.beq k k'
 |some (.store k _ _),some (.store k' _ _)=>Nat.beq k k'
 |some (.callD f as),some (.load _ _ k _)=> !(ro f)&&AW (A_ (cat AC.keys (cat TV.cellsOf as)) []) k
 |some (.callD _ as),some (.store k _ _)=>AW (A_ (cat AC.keys (cat TV.cellsOf as)) []) k
 |some (.load _ _ k _),some (.callD f as)=> !(ro f)&&AW (A_ (cat AC.keys (cat TV.cellsOf as)) []) k
 |some (.store k _ _),some (.callD _ as)=>AW (A_ (cat AC.keys (cat TV.cellsOf as)) []) k
 |some (.callD f _),some (.callD g _)=> !(ro f&&ro g)
 |_,_=>false
def T9 (ops:List Oper):List Oper->St->(St->Option R)->Option R
 |[],s,K=>K s
 |o::l,s,K=>F7 P C true ops o s λ_ E=>T9 ops l E K
def S6 (m:List Nat):List Edge->Nat->Nat
 |[],acc=>acc
 |e::l,acc=>S6 m l (bif Region.binds .any e then Nat.lor acc (Nat.lor (2^e.on) (nth 0 m e.on))else acc)
def Q9g {α:Type} (n:Nat) (K:Nat->α):α:=match n with
 |0=>K 0
 |n+1=>K (n+1)
def T3:List Oper->List Nat->(List Nat->Option R)->Option R
 |[],m,K=>K m
 |o::l,m,K=>Q9g (S6 m o.after.toList 0) λx=>AX (m++[x]) λE=>T3 l E K
def K4 (m:List Nat) (i j:Nat):Bool:=Nat.testBit (nth 0 m i) j
def Zo5:Op->Bool
 | .call _=>true
 | .makeSlice _ _ _=>true
 | .buildSlice _ _ _=>true
 | .store _ _ _=>true
 | .slice _ _ _ _ _=>true
 |_=>false
def DJ (ops:List Oper) (m:List Nat) (i:Nat):Bool:=match ops[i]? with
 |some o=>Zo5 o.op&&Al (λj=>Nat.beq j i||K4 m i j||K4 m j i) (List.range ops.length)
 |none=>false
def NE (ops:List Oper) (m:List Nat):List Oper->Nat->St->(List (Oper×Option Prim)->St->Option R)->Option R
 |[],_,s,K=>K [] s
 |o::l,i,s,K=>F7 P C (DJ ops m i) ops o s λp E=>NE ops m l (i+1) E λrest G=>K ((o,p)::rest) G
def Ku (ops:Array Oper) (m:List Nat):Nat->List (Nat×Oper×Option Prim)->List (Oper×Option Prim)->Bool
 |_,_,[]=>true
 |i,E,(o,p)::l=>
  bif(DJ ops.toList m i||Prim.simple p)&&o.after.toList.all (λe=> !(Region.binds .any e)||Nat.blt e.on i)&&Al (λy:Nat×Oper×Option Prim=>K4 m i y.1||(!(DJ ops.toList m i)&& !(DJ ops.toList m y.1)&&(Oper.apart ops y.2.1 o&& !(Prim.meet C.ro y.2.2 p)&&IW y.2.1 y.2.2 o p))) E then Ku ops m (i+1) (E++[(i,o,p)]) l else false
def Qac (ops:Array Oper) (draw:Bool) (s:St) (K:St->Option R):Option R:=
 bif draw then T3 ops.toList [] λm=>NE P C ops.toList m ops.toList 0 s λacc E=>bif Ku C ops m 0 [] acc then K E else none
 else T9 P C ops.toList ops.toList s K
def JP:List (Nat×Nat)->List AC->Bool
 |[],[]=>true
 |(k,o)::l, .ptr k' E::cs=>Nat.beq k k'&&Nat.beq o E&&JP l cs
 |_,_=>false
def KX:CS->AC->Option (List AC)
 | .any,_=>some []
 | .int k, .int k' n=>bif kEq k k' then some [.int k n]else none
 | .bool, .bool b=>some [.bool b]
 | .sl ks, .nilSl=>some [.vC ks []]
 | .sl ks, .vC E l=>bif Ds ks E then some [.vC ks l]else none
 | .rawc, .raw v=>some [.raw v]
 | .nil, .nilSl=>some []
 | .ptr k o, .ptr k' J=>bif Nat.beq k k'&&Nat.beq o J then some []else none
 | .own id w, .own id' w' _=>bif Nat.beq id id'&&Nat.beq w w' then some []else none
 | .bsl k n, .bsl k' M=>bif Nat.beq k k'&&Nat.beq n M then some []else none
 | .clo f fs cs, .clo N G I=>bif Nat.beq f N&&JP fs G&&JP cs I then some []else none
 |_,_=>none
def G8:List CS->List AC->Option (List AC)
 |[],[]=>some []
 |c::cs,a::as=>match KX c a with
  |some v=>match G8 cs as with
   |some E=>some (v++E)
   |none=>none
  |none=>none
 |_,_=>none
def Ml:List (Bool×List CS)->List (Bool×List AC)->Option (List AC)
 |[],[]=>some []
 | (g, cs) :: l, (E, as) :: m => bif g == E then (match G8 cs as with
  |some v=>match Ml l m with
   |some G=>some (v++G)
   |none=>none
  |none=>none)else none
 |_,_=>none
def J3:TS->TV->Option (List AC)
 | .dead,_=>some []
 | .v g cs, .v E as=>bif g==E then G8 cs as else none
 | .tup ps, .tup G=>Ml ps G
 |_,_=>none
def KV:List TS->List TV->Option (List AC)
 |[],[]=>some []
 |t::E,v::G=>match J3 t v with
  |some a=>match KV E G with
   |some l=>some (a++l)
   |none=>none
  |none=>none
 |_,_=>none
def Kh:List (Nat×TypeId×List CS)->List (Nat×Box)->Option (List AC)
 |[],_=>some []
 |(k,t,cs)::l,aB=>match Ac aB k with
  | some b => bif Nat.beq t b.ty then (match G8 cs b.cells with
   |some v=>match Kh l aB with
    |some E=>some (v++E)
    |none=>none
   |none=>none)else none
  |none=>none
def JX:List (Nat×TypeId×List Kd)->List (Nat×Row)->Option (List AC)
 |[],_=>some []
 |(k,t,ks)::l,aC=>match Ac aC k with
  | some r => bif Nat.beq t r.ty && Ds ks r.ks then (match JX l aC with
    |some E=>some (.vC ks r.l::E)
    |none=>none)else none
  |none=>none
def GE (k:Nat):Bool:=Nat.ble base k&&Nat.blt k 100000
def FW (sk:Sk) (s:St):Option (List AC):=match s with
 | ⟨tmps, aB, aC⟩ => bif Al (λp : Nat × Box => !(GE p.1) || AW (sk.aB.map (·.1)) p.1) aB then (match JX sk.aC aC with
  |some a=>match KV sk.tmps tmps with
   |some b=>match Kh sk.aB aB with
    |some c=>some (a++(b++c))
    |none=>none
   |none=>none
  |none=>none)else none
def Mg:List (Nat×Nat)->List AC
 |[]=>[]
 |(k,o)::l=> .ptr k o::Mg l
def EF (rl:Nat->Nat) (l:List AC):CS->Nat->AC×Nat
 | .any,i=>(.dead,i)
 | .int k,i=>(.int k (Ah (nth .dead l i)),i+1)
 | .bool,i=>(.bool (Dh (nth .dead l i)),i+1)
 | .sl ks,i=>(.vC ks (CI (nth .dead l i)),i+1)
 | .rawc,i=>(M9 .raw (nth .dead l i),i+1)
 | .nil,i=>(.nilSl,i)
 | .ptr k o,i=>(.ptr k o,i)
 | .own id w,i=>(.own id w (rl id),i)
 | .clo f fs cs,i=>(.clo f (Mg fs) (Mg cs),i)
 | .bsl k n,i=>(.bsl k n,i)
def EG (rl:Nat->Nat) (l:List AC):List CS->Nat->List AC×Nat
 |[],i=>([],i)
 |c::cs,i=>match EF rl l c i with
  |(a,G)=>match EG rl l cs G with
   |(as,E)=>(a::as,E)
def HF (rl:Nat->Nat) (l:List AC):List (Bool×List CS)->Nat->List (Bool×List AC)×Nat
 |[],i=>([],i)
 |(g,cs)::ps,i=>match EG rl l cs i with
  |(as,G)=>match HF rl l ps G with
   |(I,E)=>((g,as)::I,E)
def HZ (rl:Nat->Nat) (l:List AC):TS->Nat->TV×Nat
 | .dead,i=>(.dead,i)
 | .v g cs,i=>match EG rl l cs i with
  |(as,E)=>(.v g as,E)
 | .tup ps,i=>match HF rl l ps i with
  |(G,E)=>(.tup G,E)
def Fx (rl:Nat->Nat) (l:List AC):List TS->Nat->List TV×Nat
 |[],i=>([],i)
 |t::G,i=>match HZ rl l t i with
  |(v,I)=>match Fx rl l G I with
   |(J,E)=>(v::J,E)
def FG (rl:Nat->Nat) (l:List AC):List (Nat×TypeId×List CS)->Nat->List (Nat×Box)
 |[],_=>[]
 |(k,t,cs)::bs,i=>match EG rl l cs i with
  |(as,E)=>(k,⟨t,as⟩)::FG rl l bs E
def Hn (l:List AC):List (Nat×TypeId×List Kd)->Nat->List (Nat×Row)×Nat
 |[],i=>([],i)
 |(k,t,ks)::rs,i=>match Hn l rs (i+1)with
  |(q,E)=>((k,⟨t,ks,CI (nth .dead l i)⟩)::q,E)
def En (aC:List (Nat×Row)) (id:Nat):Nat:=match Ac aC id with
 |some r=>r.l.length
 |none=>0
def BH (sk:Sk) (vars:List AC):St:=match Hn vars sk.aC 0 with
 |(aC,i)=>match Fx (En aC) vars sk.tmps i with
  |(tmps,E)=>⟨tmps,FG (En aC) vars sk.aB E,aC⟩
def CS.okB (keys:List Nat) (aC:List (Nat×TypeId×List Kd)):CS->Bool
 | .ptr k _=>AW keys k
 | .bsl k _=>AW keys k
 | .own id w=>match Ac aC id with
  |some (_,ks)=>Nat.beq ks.length w
  |none=>false
 | .clo _ fs cs=>Al (λp:Nat×Nat=>AW keys p.1) fs&&Al (λp:Nat×Nat=>AW keys p.1) cs
 |_=>true
def TS.okB (keys:List Nat) (aC:List (Nat×TypeId×List Kd)):TS->Bool
 | .dead=>true
 | .v _ cs=>Al (CS.okB keys aC) cs
 | .tup ps=>Al (λp:Bool×List CS=>Al (CS.okB keys aC) p.2) ps
def Sk.okB (sk:Sk):Bool:=
 BY (sk.aB.map (·.1))&&BY (sk.aC.map (·.1))&&Al (TS.okB (sk.aB.map (·.1)) sk.aC) sk.tmps&&Al (λp:Nat×TypeId×List CS=>Al (CS.okB (sk.aB.map (·.1)) sk.aC) p.2.2) sk.aB
def K5 (d:Nat):AC->Bool
 | .ptr k _=> !(Nat.beq k d)
 |_=>true
def AC.killP (d:Nat):AC->AC
 | .ptr k o=>bif Nat.beq k d then .dead else .ptr k o
 | .bsl k n=>bif Nat.beq k d then .dead else .bsl k n
 | .clo f fs cs=>bif Al (K5 d) fs&&Al (K5 d) cs then .clo f fs cs else .dead
 |a=>a
def TV.mapC (f:AC->AC):TV->TV
 | .v g cs=> .v g (cs.map f)
 | .tup ps=> .tup (ps.map λp=>(p.1,p.2.map f))
 | .dead=> .dead
def VK:List Oper->List Nat
 |[]=>[]
 |o::l=>match o.op,o.dst with
  | .alloc _,some d=>d::VK l
  | .box _ _,some d=>d::VK l
  |_,_=>VK l
def So:List Nat->St->(St->Option R)->Option R
 |[],s,K=>K s
 |d::l,⟨tmps,aB,aC⟩,K=>match Ac aB d with
  |none=>So l ⟨tmps,aB,aC⟩ K
  |some _=>bif GE d then none else AX (tmps.map (TV.mapC (AC.killP d))) λG=>AX ((del d aB).map λp=>(p.1,(⟨p.2.ty,p.2.cells.map (AC.killP d)⟩:Box))) λE=>So l ⟨G,E,aC⟩ K
def Ql (step:St->(Ex->St->Option R)->Option R):Nat->St->(Ex->St->Option R)->Option R
 |0,_,_=>none
 |n+1,s,K=>step s fun
  | .normal,E=>Ij P C E λE=>Ql step n E K
  | .exit id,E=>K (.exit id) E
  | .ret,E=>K .ret E
def RV (a:Option (Sk×Kk)) (s:St) (K:Ex->St->Option R) (run:Option R):Option R:=match a with
 |none=>run
 | some (sk, g) => bif sk.okB then (match FW sk s with
  |some vars=>g R vars K
  |none=>none)else none
def Q54 (C:Cfg) (c:Operand):Option (Sk×Kk):=match c with
 | .tmp t=>C.conds t
 |_=>none
def Ma:Code->Option Nat
 | .region id _ _=>some id
 | .seq a b=>match Ma a with
  |some n=>some n
  |none=>Ma b
 | .cond _ a b=>match Ma a with
  |some n=>some n
  |none=>Ma b
 | .block _ b=>Ma b
 | .loop b=>Ma b
 |_=>none
def VL (body:Code):Nat:=match Ma body with
 |some n=>n
 |none=>0
def DK (L:Nat):Code->Nat->St->(Ex->St->Option R)->Option R
 | .skip,_,s,K=>K .normal s
 | .region _ ops draw,_,s,K=>So (VK ops.toList) s λs=>Qac P C ops draw s (K .normal)
 | .seq a b,blk,s,K=>DK L a blk s fun
  | .normal,E=>DK L b blk E K
  | .exit id,E=>K (.exit id) E
  | .ret,E=>K .ret E
 | .cond c x y, blk, s, K => RV (Q54 C c) s K (match A8 s.tmps c with
  | .v false [.bool g]=>match c with
   | .tmp t=>cond g (put s (some t) (.c (.bool true)) λE=>DK L x blk E K) (put s (some t) (.c (.bool false)) λE=>DK L y blk E K)
   |_=>cond g (DK L x blk s K) (DK L y blk s K)
  |_=>none)
 | .block id body,_,s,K=>RV (C.blocks id) s K (DK L body id s fun
  | .normal,E=>K .normal E
  | .exit i,E=>bif Nat.beq i id then K .normal E else K (.exit i) E
  | .ret,E=>K .ret E)
 | .loop body,blk,s,K=>Jx P (C.prom (VL body)) s λE=>
   Ij P C E λE=>RV (C.loops (VL body)) E K (Ql P C (λs K=>DK L body blk s K) L E K)
 | .exit id,_,s,K=>K (.exit id) s
 | .ret,_,s,K=>K .ret s
 | .scope b,blk,s,K=>DK L b blk s K
 | .label _,_,s,K=>K .normal s
 |_,_,_,_=>none
def VZ:Ex->Ex->Bool
 | .normal, .normal=>true
 | .exit i, .exit j=>Nat.beq i j
 | .ret, .ret=>true
 |_,_=>false
def Hl:List (Ex×Sk)->Nat->Ex->St->Option (Nat×List AC)
 |[],_,_,_=>none
 | (e, sk) :: l, i, E, s => bif VZ e E && sk.okB then (match FW sk s with
  |some vars=>some (i,vars)
  |none=>none)else Hl l (i+1) E s
def P6 (o:List AC) (K:Ex->St->Option R):List (Ex×Sk)->Nat->Nat->Option R
 |[],_,_=>none
 |(e,sk)::l,i,n=>bif Nat.beq n i then K e (BH sk o)else P6 o K l (i+1) n
def gOf (E:List (Ex×Sk)) (m:List AC->Option (Nat×List AC)):Kk:=λ_ vars K=>(m vars).bind λo=>P6 o.2 K E 1 o.1
def A5 (L blk:Nat) (body:Code) (sk:Sk) (E:List (Ex×Sk)) (vars:List AC):Option (Nat×List AC):=
 DK P C L body blk (BH sk vars) λe G=>match e with
  | .normal=>Ij P C G λG=>match FW sk G with
   |some vars=>some (0,vars)
   |none=>none
  | .exit i=>Hl E 1 (.exit i) G
  | .ret=>Hl E 1 .ret G
def C8 (step:List AC->Option (Nat×List AC)):Nat->List AC->Option (Nat×List AC)
 |0,_=>none
 |n+1,vars=>(step vars).bind λo=>if o.1=0 then C8 step n o.2 else some o
def Q65 (L id:Nat) (body:Code) (sk:Sk) (E:List (Ex×Sk)) (vars:List AC):Option (Nat×List AC):=
 DK P C L body id (BH sk vars) fun
  | .normal,G=>Hl E 1 .normal G
  | .exit i,G=>bif Nat.beq i id then Hl E 1 .normal G else Hl E 1 (.exit i) G
  | .ret,G=>Hl E 1 .ret G
def Qoc (s:St):ResultVar->Option TV
 | .tmp t=>match nth .dead s.tmps t with
  | .v g cs=>some (.v g cs)
  |_=>none
 | .cell a t=>match nth .dead s.tmps a,CY P t,szT P t with
  | .v false [.ptr key off],some g,some sz=>match Ac s.aB key with
   |some b=>DV g sz b.cells off
   |none=>none
  |_,_,_=>none
def LC (s:St):List ResultVar->Option (List (Bool×List AC))
 |[]=>some []
 |r::l=>match Qoc P s r with
  |some (.v g cs)=>match LC s l with
   |some ps=>some ((g,cs)::ps)
   |none=>none
  |_=>none
def H2:List TypeId->List (Bool×List AC)->List (Bool×List AC)
 | t :: E, (g, cs) :: l => (g, match Gx P 8 t with
  |some ks=>Em ks cs
  |none=>cs)::H2 E l
 |_,l=>l
def Lt:List (Bool×List AC)->TV
 |[(g,cs)]=> .v g cs
 |ps=> .tup ps
def R4 (J:Func) (E:List Nat) (s:St) (K:TV->Mem->Option R):Option R:=
 match LC P s J.results.toList with
 |none=>none
 |some ps=>(bif C.ownRes then λK=>K s else I8 (cat (λp:Bool×List AC=>cat AC.ids p.2) ps) s) λs1=>Ij P C s1 λs1=>
  match LC P s1 J.results.toList with
  |none=>none
  |some ps=>match s1 with
   |⟨_,aB,aC⟩=>
    AX (H2 P J.resultTypes.toList ps) λps=>
    AX (LX aB 4 (A_ (cat (λp:Bool×List AC=>cat AC.keys p.2) ps) E)) λkeys=>
    AX (OA aB (cat (λp:Bool×List AC=>p.2) ps) keys) λids=>
    AX (aB.filter λp=>AW keys p.1) λG=>
    AX (aC.filter λp=>AW ids p.1) λI=>
    bif Al (λp:Bool×List AC=>Al (AC.inK keys ids) p.2) ps&&Al (λp:Nat×Box=>Al (AC.inK keys ids) p.2.cells) G&&Al (EO aB) E&&Al (AW keys) E then K (Lt ps) ⟨G,I⟩else none
def Fh (L:Nat) (f:FuncId) (args:List TV) (mem:Mem) (K:TV->Mem->Option R):Option R:=
 match P.funcs.toList[f]? with
 |some E=>match E.body with
  |some c=>bif Al (λp:Nat×Box=>GE p.1) mem.aB then
    AX (args++List.replicate (E.ntmps-args.length) TV.dead) λtmps=>
     DK P C L c 0 ⟨tmps,mem.aB,mem.aC⟩ λe s=>match e with
      | .normal=>R4 P C E (mem.aB.map (·.1)) s K
      | .ret=>R4 P C E (mem.aB.map (·.1)) s K
      | .exit _=>none
   else none
  |none=>none
 |none=>none
def AV:Code->Nat->List (Nat×Code)
 | .seq a b,blk=>AV a blk++AV b blk
 | .cond _ a b,blk=>AV a blk++AV b blk
 | .block _ b,blk=>AV b blk
 | .loop b,blk=>(VL b,b)::AV b blk
 | .scope b,blk=>AV b blk
 |_,_=>[]
def Bf:Code->List (Nat×Code)
 | .seq a b=>Bf a++Bf b
 | .cond _ a b=>Bf a++Bf b
 | .block id b=>(id,b)::Bf b
 | .loop b=>Bf b
 | .scope b=>Bf b
 |_=>[]
def Bn:Code->Nat->List (Nat×Nat×Code×Code)
 | .seq a b,blk=>Bn a blk++Bn b blk
 | .cond (.tmp t) a b,blk=>(t,0,a,b)::(Bn a blk++Bn b blk)
 | .cond _ a b,blk=>Bn a blk++Bn b blk
 | .block _ b,blk=>Bn b blk
 | .loop b,blk=>Bn b blk
 | .scope b,blk=>Bn b blk
 |_,_=>[]
def KL (f:FuncId):Option Code:=
 match P.funcs.toList[f]? with
 |some E=>E.body
 |none=>none
def IH (f:FuncId):List (Nat×Code):=match KL P f with
 |some c=>AV c 0
 |none=>[]
def KB (f:FuncId):List (Nat×Code):=match KL P f with
 |some c=>Bf c
 |none=>[]
def Sv (f:FuncId):List (Nat×Nat×Code×Code):=match KL P f with
 |some c=>Bn c 0
 |none=>[]
def An (L:Nat) (f:FuncId) (sig E:Sk) (vars:List AC):Option (List AC):=match BH sig vars with
 |⟨args,aB,aC⟩=>Fh P C L f args ⟨aB,aC⟩ λv m=>match m with
  |⟨b,r⟩=>FW E ⟨[v],b,r⟩
end prog
def Ad (sig E:Sk) (m:List AC->Option (List AC)):Spec:=λR args mem K=>match mem with
 | ⟨aB, aC⟩ => bif Al (λp : Nat × Box => GE p.1) aB then (match FW sig ⟨args, aB, aC⟩ with
  |some vars=>(m vars).bind λo=>match BH E o with
   |⟨tm,b,r⟩=>match tm with
    |[v]=>K v ⟨b,r⟩
    |_=>none
  |none=>none)else none
def WH:CS->AC->Bool
 | .int k, .int k' _=>kEq k k'
 | .bool, .bool _=>true
 | .sl ks, .vC E _=>Ds ks E
 | .ptr k o, .ptr k' G=>Nat.beq k k'&&Nat.beq o G
 |_,_=>false
def Pq:List CS->List AC->Bool
 |[],[]=>true
 |c::cs,a::as=>WH c a&&Pq cs as
 |_,_=>false
def HP:List (Nat×TypeId×List CS)->List (Nat×Box)->Bool
 |[],[]=>true
 |(k,t,cs)::l,(k',b)::m=>Nat.beq k k'&&(Nat.beq t b.ty&&(Pq cs b.cells&&HP l m))
 |_,_=>false
def E0 (sig E:Sk) (m:List AC->Option (List AC)):Spec:=λR args mem K=>match mem with
 | ⟨aB, aC⟩ => bif Al (λp : Nat × Box => GE p.1) aB && (HP sig.aB aB && (aC.isEmpty && (sig.aC.isEmpty && BY (sig.aB.map (·.1))))) then (match FW sig ⟨args, aB, aC⟩ with
  |some vars=>(m vars).bind λo=>match BH E o with
   |⟨tm,[],[]⟩=>match tm with
    |[v]=>K v ⟨aB,aC⟩
    |_=>none
   |_=>none
  |none=>none)else none
def L6 (P:Program) (C:Cfg) (L:Nat) (f:FuncId) (sig E:Sk) (vars:List AC):Option (List AC):=match BH sig vars with
 |⟨args,aB,aC⟩=>Fh P C L f args ⟨aB,aC⟩ λv _=>FW E ⟨[v],[],[]⟩
def A4 (P:Program) (f blk:Nat):Code:=match Ac (IH P f) blk with
 |some c=>c
 |none=> .skip
def Qaq (P:Program) (f id:Nat):Code:=match Ac (KB P f) id with
 |some c=>c
 |none=> .skip
def Cfg.loop (C:Cfg) (blk:Nat) (sk:Sk) (E:List (Ex×Sk)) (m:List AC->Option (Nat×List AC)):Cfg:=
 {C with loops:=λb=>bif Nat.beq b blk then some (sk,gOf E m)else C.loops b}
def Cfg.block (C:Cfg) (id:Nat) (sk:Sk) (E:List (Ex×Sk)) (m:List AC->Option (Nat×List AC)):Cfg:=
 {C with blocks:=λb=>bif Nat.beq b id then some (sk,gOf E m)else C.blocks b}
open Go.RowKit
theorem Ra {a b c d:Prop} (h:a\/b) (f:a->c) (g:b->d):c\/d:=by
 rcases h with h|h
 ·exact .inl (f h)
 ·exact .inr (g h)
mutual
def CP (im:Nat->Prop) (w:World):AC->Value->Prop
 | .int k n,x=>x= .int k n
 | .bool b,x=>x= .bool b
 | .raw v,x=>x=v/\v.oneCell'=true
 | .nilSl,x=>x= .slice none 0 0
 | .vC ks l,x=>∃E cap,x= .slice E l.length cap/\l.length<=cap/\(∀c∈l,AT ks c=c)/\(l=[]\/∃b o,E=some ⟨b,o,none⟩/\im b/\CPss im w ks.length l b o)
 | .dead,_=>False
 | .ptr _ _,_=>False
 | .own _ _ _,_=>False
 | .rptr _ _ _,_=>False
 | .vptr _ _,_=>False
 | .clo _ _ _,_=>False
 | .bsl _ _,_=>False
def CPs (im:Nat->Prop) (w:World):List AC->Nat->Nat->Prop
 |[],_,_=>True
 |c::cs,b,o=>(∃y,w.cell? ⟨b,o,none⟩=some y/\CP im w c y)/\CPs im w cs b (o+1)
def CPss (im:Nat->Prop) (w:World) (wd:Nat):List (List AC)->Nat->Nat->Prop
 |[],_,_=>True
 |c::cs,b,o=>(c.length=wd/\CPs im w c b o)/\CPss im w wd cs b (o+wd)
end
theorem Q4u:∀(ks:List Kd) (cs:List AC) (j:Nat),(E7 ks cs j).length=ks.length
 |[],_,_=>rfl
 |_::ks,cs,j=>by simp[E7,Q4u ks cs (j+1)]
theorem Rg (ks:List Kd) (cs:List AC):(AT ks cs).length=ks.length:=Q4u ks cs 0
theorem Qbi {im:Nat->Prop} {w:World} {wd:Nat}:∀{l:List (List AC)} {b o:Nat},CPss im w wd l b o->∀i (hi:i<l.length),(l[i]).length=wd/\CPs im w l[i] b (o+i*wd)
 |[],_,_,_,i,hi=>by simp at hi
 |c::l,b,o,h,0,_=>by rw[CPss]at h;rw[ja,jv];exact h.1
 |c::l,b,o,h,i+1,hi=>by
  rw[CPss]at h;have:=Qbi h.2 i (by simpa using hi);simp only[jq];rw[dt,gy,kf (i*wd) wd,<-du];exact this
theorem TG {im:Nat->Prop} {w:World} {wd:Nat}:∀{l:List (List AC)} {b o:Nat},(∀i (hi:i<l.length),(l[i]).length=wd/\CPs im w l[i] b (o+i*wd))->CPss im w wd l b o
 |[],_,_,_=>by simp[CPss]
 |c::l,b,o,h=>by
  rw[CPss];refine⟨by have:=h 0 (by simp);rw[ja,jv]at this;exact this,TG λi hi=> ?_⟩;have:=h (i+1) (by simpa using hi);simp only[jq]at this;rw[dt,gy,kf (i*wd) wd,<-du]at this;exact this
def E1 (w:World) (e:TypeId) (size:Nat) (v:Value) (n:Nat) (xs:List Value):Prop:=
 xs.length = n * size /\ ((v = .slice none 0 0 /\ n = 0) \/
  ∃g o cap cur,v= .slice (some ⟨g,o,none⟩) n cap/\w.heap[g]? =some (.cells cur e (0,0))/\n<=cap/\cap<=maxLen/\o+cap*size<=cur.size/\(cur.toList.drop o).take (n*size)=xs)
theorem Yd (w:World) (e:TypeId) (size:Nat):E1 w e size (.slice none 0 0) 0 []:=⟨by simp, .inl ⟨rfl,rfl⟩⟩
theorem Zdk {w:World} {base:Nat} {e:TypeId} {size:Nat} {v:Value} {n:Nat} {xs:List Value} (h:w.ownsRow base e size v n xs):E1 w e size v n xs:=by
 refine⟨h.1,?_⟩;rcases h.2 with h|⟨g,cap,cur,E,_,G,I,J,N,M⟩
 ·exact .inl h
 ·exact .inr ⟨g,0,cap,cur,E,G,I,J,by omega,by simpa using M⟩
theorem Q4o {w:World} {e:TypeId} {size:Nat} {v:Value} {n:Nat} {xs:List Value} (h:E1 w e size v n xs):∀k,v.ownBlock=some k->k<w.heap.size:=by
 intro k E;rcases h.2 with⟨rfl,_⟩|⟨g,o,cap,cur,rfl,G,_⟩
 ·simp[Value.ownBlock]at E
 ·simp[Value.ownBlock]at E;subst E;exact(dv.1 G).1
theorem Nw {w w':World} {e:TypeId} {size n:Nat} {v:Value} {xs:List Value} (h:E1 w e size v n xs) (hb:∀g,v.ownBlock=some g->w'.heap[g]? =w.heap[g]?):E1 w' e size v n xs:=by
 refine⟨h.1,?_⟩;rcases h.2 with E|⟨g,o,cap,cur,rfl,G,I⟩
 ·exact .inl E
 ·exact .inr ⟨g,o,cap,cur,rfl,by rw[hb g rfl];exact G,I⟩
def HX:Value->Nat
 | .slice (some a) _ _=>a.off
 |_=>0
theorem Rj {w:World} {e:TypeId} {size:Nat} {v:Value} {n:Nat} {xs:List Value} (h:E1 w e size v n xs) {g:Nat} (G:v.ownBlock=some g):∀j u,xs[j]? =some u->w.cell? ⟨g,HX v+j,none⟩=some u:=by
 intro j u E;rcases h.2 with⟨rfl,rfl⟩|⟨M,o,cap,cur,rfl,I,N,O,S,J⟩
 ·simp[Value.ownBlock]at G
 ·simp[Value.ownBlock]at G;subst G;rw[<-J,gh]at E;split at E
  ·rw[fe]at E;simp[World.cell?,I,HX];simpa using E
  ·simp at E
structure Env where
 bx:Nat->Nat
 rv:Nat->Value
 wd:Nat->Nat
 im:Nat->Prop
def CCc (ρ:Env) (w:World):AC->Value->Prop
 | .ptr key off,x=>x= .pointer (some ⟨ρ.bx key,off,none⟩)
 |a,x=>CP ρ.im w a x
def CLc (ρ:Env) (w:World):List AC->List Value->Prop
 |[],[]=>True
 |a::l,x::xs=>CCc ρ w a x/\CLc ρ w l xs
 |_,_=>False
def CC (ρ:Env) (w:World):AC->Value->Prop
 | .dead,x=>x.oneCell'=true
 | .ptr key off,x=>x= .pointer (some ⟨ρ.bx key,off,none⟩)
 | .own id wd n,x=>x=ρ.rv id/\ρ.wd id=wd/\((x= .slice none 0 0/\n=0)\/∃g o c,x= .slice (some ⟨g,o,none⟩) n c)
 | .rptr id idx sub,x=>∃g,(ρ.rv id).ownBlock=some g/\x= .pointer (some ⟨g,HX (ρ.rv id)+(idx*ρ.wd id+sub),none⟩)
 | .vptr cs sub,x=>∃b o,x= .pointer (some ⟨b,o+sub,none⟩)/\ρ.im b/\CPs ρ.im w cs b o
 | .clo f fs cs,x=>∃xs E:Array Value,x= .func (.func f) xs E/\CLc ρ w fs xs.toList/\CLc ρ w cs E.toList
 | .bsl key n,x=>x= .slice (some ⟨ρ.bx key,0,none⟩) n n
 |a,x=>CP ρ.im w a x
def CL (R:AC->Value->Prop):List AC->List Value->Prop
 |[],[]=>True
 |a::l,x::xs=>R a x/\CL R l xs
 |_,_=>False
def TP (ρ:Env) (w:World):List (Bool×List AC)->List Value->Prop
 |[],[]=>True
 | (g, cs) :: l, x :: xs => (match g with
   |true=>∃E:Array Value,x= .agg E/\CL (CC ρ w) cs E.toList
   |false=>∃a,cs=[a]/\CC ρ w a x)/\TP ρ w l xs
 |_,_=>False
def TVR (ρ:Env) (w:World):TV->Value->Prop
 | .dead,_=>True
 | .v true cs,x=>∃E:Array Value,x= .agg E/\CL (CC ρ w) cs E.toList
 | .v false cs,x=>∃a,cs=[a]/\CC ρ w a x
 | .tup ps,x=>∃E:Array Value,x= .tuple E/\TP ρ w ps E.toList
theorem CL.length {R:AC->Value->Prop}:∀{l:List AC} {xs:List Value},CL R l xs->l.length=xs.length
 |[],[],_=>rfl
 |_::l,_::xs,h=>by simp[CL.length h.2]
 |[],_::_,h=>h.elim
 |_::_,[],h=>h.elim
theorem CL.mono {R R':AC->Value->Prop}:∀{l:List AC} {xs:List Value},(∀a∈l,∀x,R a x->R' a x)->CL R l xs->CL R' l xs
 |[],[],_,_=>trivial
 |a::l,x::xs,h,E=>⟨h a (by simp) x E.1,CL.mono (λb hb=>h b (by simp[hb])) E.2⟩
 |[],_::_,_,h=>h.elim
 |_::_,[],_,h=>h.elim
theorem CL.get {R:AC->Value->Prop}:∀{l:List AC} {xs:List Value} {i:Nat} {a:AC},CL R l xs->l[i]? =some a->∃x,xs[i]? =some x/\R a x
 |[],[],i,_,_,h=>by simp at h
 |a::l,x::xs,0,b,E,h=>by simp at h;subst h;exact⟨x,rfl,E.1⟩
 |a::l,x::xs,i+1,b,E,h=>by simpa using CL.get E.2 (by simpa using h)
 |[],_::_,_,_,h,_=>h.elim
 |_::_,[],_,_,h,_=>h.elim
theorem CL.drop {R:AC->Value->Prop}:∀(n:Nat) {l:List AC} {xs:List Value},CL R l xs->CL R (l.drop n) (xs.drop n)
 |0,_,_,h=>h
 |_+1,[],[],_=>trivial
 |n+1,_::_,_::_,h=>CL.drop n h.2
 |_+1,[],_::_,h=>h.elim
 |_+1,_::_,[],h=>h.elim
theorem CL.take {R:AC->Value->Prop}:∀(n:Nat) {l:List AC} {xs:List Value},CL R l xs->CL R (l.take n) (xs.take n)
 |0,_,_,_=>by simp[CL]
 |_+1,[],[],_=>trivial
 |n+1,_::_,_::_,h=>⟨h.1,CL.take n h.2⟩
 |_+1,[],_::_,h=>h.elim
 |_+1,_::_,[],h=>h.elim
theorem CL.cut {R:AC->Value->Prop} {l:List AC} {xs:List Value} (o m:Nat) (h:CL R l xs):CL R (cut l o m) (cut xs o m):=CL.take m (CL.drop o h)
theorem CL.append {R:AC->Value->Prop}:∀{l G:List AC} {xs E:List Value},CL R l xs->CL R G E->CL R (l++G) (xs++E)
 |[],_,[],_,_,h=>h
 |_::_,_,_::_,_,h,h'=>⟨h.1,CL.append h.2 h'⟩
 |[],_,_::_,_,h,_=>h.elim
 |_::_,_,[],_,h,_=>h.elim
theorem CL.splice {R:AC->Value->Prop}:∀{l:List AC} {xs:List Value} (o:Nat) {E:List AC} {G:List Value},CL R l xs->CL R E G->CL R (splice l o E) (splice xs o G)
 |l,xs,o,[],[],h,_=>by cases l<;>cases xs<;>simpa [Bm.splice]using h
 |[],[],o,_::_,_::_,_,_=>by simp[Bm.splice,CL]
 |a::l,x::xs,0,v::E,y::G,h,h'=>by simp only[Bm.splice];exact⟨h'.1,CL.splice 0 h.2 h'.2⟩
 |a::l,x::xs,o+1,v::E,y::G,h,h'=>by simp only[Bm.splice];exact⟨h.1,CL.splice o h.2 h'⟩
 |[],_::_,_,_,_,h,_=>h.elim
 |_::_,[],_,_,_,h,_=>h.elim
 |_,_,_,[],_::_,_,h=>h.elim
 |_,_,_,_::_,[],_,h=>h.elim
mutual
theorem CP.mono {im E:Nat->Prop} {w w':World} (hi:∀b,im b->E b) (hb:∀b,im b->w'.heap[b]? =w.heap[b]?):∀(a:AC) (x:Value),CP im w a x->CP E w' a x
 | .int k n,x,h=>by simpa [CP]using h
 | .bool b,x,h=>by simpa [CP]using h
 | .raw v,x,h=>by simpa [CP]using h
 | .nilSl,x,h=>by simpa [CP]using h
 | .vC ks l,x,h=>by
  rw[CP]at h⊢;obtain⟨I,cap,J,hle,M,hf⟩:=h;refine⟨I,cap,J,hle,M,?_⟩;rcases hf with hf|⟨b,o,N,G,O⟩
  ·exact .inl hf
  ·exact .inr ⟨b,o,N,hi b G,CPss.mono hi hb _ l b o G O⟩
 | .dead,x,h=>by simp[CP]at h
 | .ptr _ _,x,h=>by simp[CP]at h
 | .own _ _ _,x,h=>by simp[CP]at h
 | .rptr _ _ _,x,h=>by simp[CP]at h
 | .vptr _ _,x,h=>by simp[CP]at h
 | .clo _ _ _,x,h=>by simp[CP]at h
 | .bsl _ _,x,h=>by simp[CP]at h
theorem CPs.mono {im E:Nat->Prop} {w w':World} (hi:∀b,im b->E b) (hb:∀b,im b->w'.heap[b]? =w.heap[b]?):∀(cs:List AC) (b o:Nat),im b->CPs im w cs b o->CPs E w' cs b o
 |[],_,_,_,_=>by simp[CPs]
 |c::cs,b,o,G,h=>by
  rw[CPs]at h⊢;obtain⟨⟨y,I,J⟩,M⟩:=h;exact⟨⟨y,(World.cell?_of_block (w:=w) (a:=⟨b,o,none⟩) (hb b G)).trans I,CP.mono hi hb c y J⟩,CPs.mono hi hb cs b _ G M⟩
theorem CPss.mono {im E:Nat->Prop} {w w':World} (hi:∀b,im b->E b) (hb:∀b,im b->w'.heap[b]? =w.heap[b]?) (wd:Nat):∀(l:List (List AC)) (b o:Nat),im b->CPss im w wd l b o->CPss E w' wd l b o
 |[],_,_,_,_=>by simp[CPss]
 |c::cs,b,o,G,h=>by
  rw[CPss]at h⊢;exact⟨⟨h.1.1,CPs.mono hi hb c b o G h.1.2⟩,CPss.mono hi hb wd cs b _ G h.2⟩
end
def AC.agreeP (ρ E:Env):AC->Prop
 | .ptr key _=>E.bx key=ρ.bx key
 |_=>True
def AC.agree (ρ E:Env):AC->Prop
 | .ptr key _=>E.bx key=ρ.bx key
 | .bsl key _=>E.bx key=ρ.bx key
 | .own id _ _=>E.rv id=ρ.rv id/\E.wd id=ρ.wd id
 | .rptr id _ _=>E.rv id=ρ.rv id/\E.wd id=ρ.wd id
 | .clo _ fs cs=>(∀a∈fs,AC.agreeP ρ E a)/\∀a∈cs,AC.agreeP ρ E a
 |_=>True
theorem CLc.mono {ρ ρ':Env} {w w':World} (hi:∀b,ρ.im b->ρ'.im b) (hb:∀b,ρ.im b->w'.heap[b]? =w.heap[b]?):∀(l:List AC) (xs:List Value),(∀a∈l,a.agreeP ρ ρ')->CLc ρ w l xs->CLc ρ' w' l xs
 |[],[],_,_=>trivial
 |a::l,x::xs,E,h=>by
  refine⟨?_,CLc.mono hi hb l xs (λb hb=>E b (by simp[hb])) h.2⟩;have I:=E a (by simp);have G:=h.1;cases a<;>first
   |exact CP.mono hi hb _ _ G
   |(simp only[CCc,AC.agreeP]at*;rw[I];exact G)
 |[],_::_,_,h=>h.elim
 |_::_,[],_,h=>h.elim
theorem CC.mono {ρ ρ':Env} {w w':World} (hi:∀b,ρ.im b->ρ'.im b) (hb:∀b,ρ.im b->w'.heap[b]? =w.heap[b]?) (a:AC) (x:Value) (E:a.agree ρ ρ') (h:CC ρ w a x):CC ρ' w' a x:=by
 cases a with
 |dead=>exact h
 |ptr key off=>simp only[CC,AC.agree]at*;rw[E];exact h
 |bsl key n=>simp only[CC,AC.agree]at*;rw[E];exact h
 |own id w n=>simp only[CC,AC.agree]at*;rw[E.1,E.2];exact h
 |rptr id idx sub=>simp only[CC,AC.agree]at*;rw[E.1,E.2];exact h
 |vptr cs sub=>
  simp only[CC]at*;obtain⟨b,o,I,G,J⟩:=h;exact⟨b,o,I,hi b G,CPs.mono hi hb cs b o G J⟩
 |clo f fs cs=>
  simp only[CC,AC.agree]at*;obtain⟨xs,M,I,G,J⟩:=h;exact⟨xs,M,I,CLc.mono hi hb fs _ E.1 G,CLc.mono hi hb cs _ E.2 J⟩
 |int k n=>exact CP.mono hi hb _ _ h
 |bool b=>exact CP.mono hi hb _ _ h
 |raw v=>exact CP.mono hi hb _ _ h
 |nilSl=>exact CP.mono hi hb _ _ h
 |vC ks l=>exact CP.mono hi hb _ _ h
theorem J7 {ρ:Env} {w:World} {a:AC} {x:Value} (h:CP ρ.im w a x):CC ρ w a x:=by
 cases a<;>first|exact h|(simp[CP]at h)
theorem Zyc {ρ:Env} {w:World} {a:AC} {x:Value} (E:a.plain=true) (h:CC ρ w a x):CP ρ.im w a x:=by
 cases a<;>first|exact h|(simp[AC.plain]at E)
theorem CP.one {im:Nat->Prop} {w:World} {a:AC} {x:Value} (h:CP im w a x):x.oneCell'=true:=by
 cases a<;>simp only[CP]at h
 case int=>subst h;rfl
 case bool=>subst h;rfl
 case raw=>rw[h.1];exact h.2
 case nilSl=>subst h;rfl
 case vC=>obtain⟨_,_,rfl,_⟩:=h;rfl
theorem CC.one {ρ:Env} {w:World} {a:AC} {x:Value} (h:CC ρ w a x):x.oneCell'=true:=by
 cases a with
 |dead=>exact h
 |ptr=>simp only[CC]at h;subst h;rfl
 |bsl=>simp only[CC]at h;subst h;rfl
 |own=>obtain⟨_,_,⟨rfl,_⟩|⟨_,_,_,rfl⟩⟩:=h<;>rfl
 |rptr=>obtain⟨_,_,rfl⟩:=h;rfl
 |vptr=>obtain⟨_,_,rfl,_⟩:=h;rfl
 |clo=>obtain⟨_,_,rfl,_⟩:=h;rfl
 |int=>exact CP.one h
 |bool=>exact CP.one h
 |raw=>exact CP.one h
 |nilSl=>exact CP.one h
 |vC=>exact CP.one h
theorem AD {α:Type} {p:α->Bool}:∀{l:List α},Al p l=true↔∀x∈l,p x=true
 |[]=>by simp[Al]
 |x::l=>by
  simp only[Al,av,jh,<-AD (l:=l)];cases p x<;>simp
theorem Bj {α R:Type}:∀(l:List α) (K:List α->Option R),AX l K=K l
 |[],_=>rfl
 |x::xs,K=>by rw[AX,Bj xs]
theorem B7 {α:Type} (d:α):∀(l:List α) (n:Nat),nth d l n=l.getD n d
 |[],_=>by simp[nth]
 |_::_,0=>by simp[nth]
 |_::xs,n+1=>by simp only[nth,B7 d xs n];simp
theorem I7 {α:Type}:∀(l:List α) (n:Nat) (v:α),setL l n v=l.set n v
 |[],_,_=>by simp[setL]
 |_::_,0,_=>by simp[setL]
 |x::xs,n+1,v=>by simp[setL,I7 xs n v]
section tables
variable {α:Type}
theorem Fb:∀(l:List (Nat×α)) (k:Nat) (x y:α),Ac l k=some y->Ac (upd l k x) k=some x
 |[],_,_,_,h=>by simp[Ac]at h
 |(k',b)::l,k,x,y,h=>by
  simp only[Ac,upd]at*;cases E:Nat.beq k' k
  ·simp only[E,ao,Ac]at*;exact Fb l k x y h
  ·simp[Ac,ac E]
theorem DG:∀(l:List (Nat×α)) (k j:Nat) (x:α),j≠k->Ac (upd l k x) j=Ac l j
 |[],_,_,_,_=>rfl
 |(k',b)::l,k,j,x,h=>by
  simp only[Ac,upd];cases G:Nat.beq k' k
  ·simp only[ao,Ac,DG l k j x h]
  ·have e:=ac G;subst e;have E:Nat.beq k' j=false:=by
    cases hb:Nat.beq k' j
    ·rfl
    ·exact absurd (ac hb).symm h
   simp[Ac,E]
theorem Fk:∀(l:List (Nat×α)) (k:Nat) (x:α),Ac l k=none->Ac (ins l k x) k=some x
 |[],k,x,_=>by simp[Ac,ins]
 |(k',b)::l,k,x,h=>by
  simp only[Ac,ins]at*;cases E:Nat.beq k' k
  ·simp only[E,ao]at h;cases hb:Nat.blt k k'
   ·simp only[ao,Ac,E];exact Fk l k x h
   ·simp[Ac]
  ·simp[E]at h
theorem Ec:∀(l:List (Nat×α)) (k j:Nat) (x:α),j≠k->Ac (ins l k x) j=Ac l j
 |[],k,j,x,h=>by
  have E:Nat.beq k j=false:=by
   cases hb:Nat.beq k j
   ·rfl
   ·exact absurd (ac hb).symm h
  simp[Ac,ins,E]
 |(k',b)::l,k,j,x,h=>by
  have E:Nat.beq k j=false:=by
   cases hb:Nat.beq k j
   ·rfl
   ·exact absurd (ac hb).symm h
  simp only[Ac,ins];cases hb:Nat.blt k k'
  ·simp only[ao,Ac,Ec l k j x h]
  ·simp[Ac,E]
theorem UL:∀(l:List (Nat×α)) (k:Nat),Ac (del k l) k=none
 |[],k=>by simp[Ac,del]
 |(k',b)::l,k=>by
  simp only[del];cases E:Nat.beq k' k
  ·simp only[ao,Ac,E,UL l k]
  ·simp only[aj];exact UL l k
theorem Mc:∀(l:List (Nat×α)) (k j:Nat),j≠k->Ac (del k l) j=Ac l j
 |[],_,_,_=>by simp[Ac,del]
 |(k',b)::l,k,j,h=>by
  simp only[del];cases G:Nat.beq k' k
  ·simp only[ao,Ac,Mc l k j h]
  ·have e:=ac G;subst e;have E:Nat.beq k' j=false:=by
    cases hb:Nat.beq k' j
    ·rfl
    ·exact absurd (ac hb).symm h
   simp only[aj,Ac,E,ao];exact Mc l k' j h
theorem Mr {l:List (Nat×α)} {k j:Nat} {x:α} (h:Ac (del k l) j=some x):j≠k/\Ac l j=some x:=by
 by_cases E:j=k
 ·subst E;rw[UL]at h;cases h
 ·rw[Mc _ _ _ E]at h;exact⟨E,h⟩
end tables
open Go.RowKit
section
variable {P:Program} {C:Cfg} {ρ:Env} {w:World} {R:Type}
theorem Zx6 {x:Value} (h:x.oneCell'=true):x.cells= #[x]:=by
 cases x<;>first|rfl|(simp[Value.oneCell']at h)
theorem Zah (v:Value) (h:v.oneCell'=true):CC ρ w (NL v) v:=by
 unfold NL;split<;>first|(simp[CC,CP,Value.oneCell'];done)|exact h
theorem UF:∀(l:List Value) {cs:List AC},Jj l=some cs->CL (CC ρ w) cs l
 |[],cs,h=>by simp[Jj]at h;subst h;trivial
 |v::l,cs,h=>by
  simp only[Jj]at h;cases E:v.oneCell'
  ·simp[E]at h
  ·simp only[E,aj]at h;split at h
   ·rename_i G I;simp at h;subst h;exact⟨Zah v E,UF l I⟩
   ·simp at h
theorem Z5k (v:Value):TVR ρ w (ofValue v) v:=by
 unfold ofValue;split
 ·rename_i cs;split
  ·rename_i l E;exact⟨cs,rfl,UF _ E⟩
  ·trivial
 ·trivial
 ·rename_i G I;exact⟨_,rfl,Zah v (by cases v<;>first|rfl|(exfalso;first|exact G _ rfl|exact I _ rfl))⟩
theorem TVR.cells {t:TV} {x:Value} {cs:List AC} (h:TVR ρ w t x) (E:t.cells=some cs):CL (CC ρ w) cs x.cells.toList:=by
 cases t with
 |dead=>simp[TV.cells]at E
 |tup ps=>simp[TV.cells]at E
 |v g l=>
  simp[TV.cells]at E;subst E;cases g
  ·obtain⟨a,rfl,G⟩:=h;rw[Zx6 G.one];exact⟨G,trivial⟩
  ·obtain⟨J,rfl,I⟩:=h;exact I
theorem TVR.c {a:AC} {x:Value} (h:TVR ρ w (.c a) x):CC ρ w a x:=by
 obtain⟨b,hb,E⟩:=h;simp at hb;subst hb;exact E
theorem TVR.c' {a:AC} {x:Value} (h:CC ρ w a x):TVR ρ w (.c a) x:=⟨a,rfl,h⟩
theorem TVR.int {k:IntKind} {n:Int} {x:Value} (h:TVR ρ w (.c (.int k n)) x):x= .int k n:=by have:=h.c;simpa [CC,CP]using this
theorem TVR.bool {b:Bool} {x:Value} (h:TVR ρ w (.c (.bool b)) x):x= .bool b:=by have:=h.c;simpa [CC,CP]using this
theorem TVR.mkInt (k:IntKind) (n:Int):TVR ρ w (.c (.int k n)) (.int k n):=TVR.c' (by simp[CC,CP])
theorem TVR.mkBool (b:Bool):TVR ρ w (.c (.bool b)) (.bool b):=TVR.c' (by simp[CC,CP])
theorem TVR.agg {cs:List AC} {x:Value} (h:TVR ρ w (.agg cs) x):∃E:Array Value,x= .agg E/\CL (CC ρ w) cs E.toList:=h
def RowC (im:Nat->Prop) (w:World) (ks:List Kd) (l:List (List AC)) (xs:List Value):Prop:=
 xs.length=l.length*ks.length/\(∀c∈l,AT ks c=c)/\∀i c,l[i]? =some c->CL (CP im w) c (cut xs (i*ks.length) ks.length)
theorem PU {k k':IntKind} (h:kEq k k'=true):k=k':=by cases k<;>cases k'<;>first|rfl|(simp[kEq]at h)
mutual
theorem Zv5:∀{k k':Kd},Fc k k'=true->k=k'
 | .int k, .int k',h=>by rw[Fc]at h;rw[PU h]
 | .bool, .bool,_=>rfl
 | .sl ks, .sl E,h=>by rw[Fc]at h;rw[J_ h]
 | .raw, .raw,_=>rfl
 | .int _, .bool,h=>by simp[Fc]at h
 | .int _, .sl _,h=>by simp[Fc]at h
 | .int _, .raw,h=>by simp[Fc]at h
 | .bool, .int _,h=>by simp[Fc]at h
 | .bool, .sl _,h=>by simp[Fc]at h
 | .bool, .raw,h=>by simp[Fc]at h
 | .sl _, .int _,h=>by simp[Fc]at h
 | .sl _, .bool,h=>by simp[Fc]at h
 | .sl _, .raw,h=>by simp[Fc]at h
 | .raw, .int _,h=>by simp[Fc]at h
 | .raw, .bool,h=>by simp[Fc]at h
 | .raw, .sl _,h=>by simp[Fc]at h
theorem J_:∀{ks E:List Kd},Ds ks E=true->ks=E
 |[],[],_=>rfl
 |k::ks,k'::E,h=>by
  rw[Ds]at h;cases G:Fc k k'
  ·rw[G]at h;simp at h
  ·rw[G]at h;simp only[aj]at h;rw[Zv5 G,J_ h]
 |[],_::_,h=>by simp[Ds]at h
 |_::_,[],h=>by simp[Ds]at h
end
theorem UN {im:Nat->Prop} (ks:List Kd):CP im w (.vC ks []) (.slice none 0 0):=by
 rw[CP];exact⟨none,0,rfl,db _,by simp, .inl rfl⟩
theorem Zte {k:Kd} {a I:AC} {x:Value} (h:YA k a=some I) (E:CC ρ w a x):CP ρ.im w I x/\M9 k I=I:=by
 cases k<;>cases a<;>simp only[YA]at h<;>try (simp at h;done)
 case int.int k k' n=>
  cases G:kEq k k'<;>rw[G]at h
  ·simp at h
  ·simp at h;subst h;rw[<-PU G]at E;exact⟨E,rfl⟩
 case bool.bool b=>simp at h;subst h;exact⟨E,rfl⟩
 case sl.nilSl ks=>
  simp at h;subst h;simp only[CC,CP]at E;subst E;exact⟨UN ks,rfl⟩
 case sl.vC ks J l=>
  cases G:Ds ks J<;>rw[G]at h
  ·simp at h
  ·simp at h;subst h;rw[<-J_ G]at E;exact⟨E,rfl⟩
 case raw.raw v=>simp at h;subst h;exact⟨E,rfl⟩
theorem Z47 {α:Type} (d:α) (x:α) (l:List α) (n:Nat):nth d (x::l) (n+1)=nth d l n:=rfl
theorem Q6k (a:AC):∀(ks:List Kd) (cs:List AC) (j:Nat),E7 ks (a::cs) (j+1)=E7 ks cs j
 |[],_,_=>rfl
 |k::ks,cs,j=>by rw[E7,E7,Z47,Q6k a ks cs (j+1)]
theorem Qsg (k:Kd) (ks:List Kd) (a:AC) (cs:List AC):AT (k::ks) (a::cs)=M9 k a::AT ks cs:=by
 show M9 k a::E7 ks (a::cs) 1=_;rw[Q6k];rfl
theorem SN:∀{ks:List Kd} {cs E:List AC} {xs:List Value},IC ks cs=some E->CL (CC ρ w) cs xs->CL (CP ρ.im w) E xs/\AT ks E=E
 |[],[],E,xs,h,G=>by
  simp[IC]at h;subst h;cases xs with
  |nil=>exact⟨trivial,rfl⟩
  |cons=>exact G.elim
 |k::ks,a::cs,E,xs,h,G=>by
  simp only[IC]at h;split at h
  ·rename_i T I;split at h
   ·rename_i l J;simp at h;subst h;cases xs with
    |nil=>exact G.elim
    |cons x xs=>
     obtain⟨M,N⟩:=Zte I G.1;obtain⟨O,S⟩:=SN J G.2;exact⟨⟨M,O⟩,by rw[Qsg,N,S]⟩
   ·simp at h
  ·simp at h
 |[],_::_,_,_,h,_=>by simp[IC]at h
 |_::_,[],_,_,h,_=>by simp[IC]at h
def JQ (P:Program) (ρ:Env) (w:World) (e:Operand->Value) (o:Oper):Prim->Prop
 | .val v=>∃x,(execOp e o).run P w= .ok (.value x) w/\TVR ρ w v x
 | .load g sz key off=>∃t,CY P t=some g/\szT P t=some sz/\
   (execOp e o).run P w=((loadVar t ⟨ρ.bx key,off,none⟩).run P w).andThen λv w'=> .ok (.value v) w'
 | .rload g sz id idx sub=>∃t b,CY P t=some g/\szT P t=some sz/\(ρ.rv id).ownBlock=some b/\
   (execOp e o).run P w=((loadVar t ⟨b,HX (ρ.rv id)+(idx*ρ.wd id+sub),none⟩).run P w).andThen λv w'=> .ok (.value v) w'
 | .store key off cs=>∃t x,szT P t=some cs.length/\CL (CC ρ w) cs x.cells.toList/\
   (execOp e o).run P w=((storeVar t ⟨ρ.bx key,off,none⟩ x).run P w).andThen λ_ w'=> .ok .skip w'
 | .rstore id idx sub cs=>∃t x b,szT P t=some cs.length/\CL (CC ρ w) cs x.cells.toList/\(ρ.rv id).ownBlock=some b/\
   (execOp e o).run P w=((storeVar t ⟨b,HX (ρ.rv id)+(idx*ρ.wd id+sub),none⟩ x).run P w).andThen λ_ w'=> .ok .skip w'
 | .new ty cs=>∃arr:Array Value,CL (CC ρ w) cs arr.toList/\(execOp e o).run P w= .ok (.value (.pointer (some ⟨w.heap.size,0,none⟩))) (w.alloc (.cells arr ty))
 | .cutR id a=>∀J n cap,ρ.rv id= .slice J n cap->n<=cap->a<=n->(execOp e o).run P w= .ok (.value (.slice (if cap=a then J else J.map (·.add (a*ρ.wd id))) (n-a) (cap-a))) w
 | .newS ty n cs=>∃arr:Array Value,CL (CC ρ w) cs arr.toList/\(execOp e o).run P w= .ok (.value (.slice (some ⟨w.heap.size,0,none⟩) n n)) (w.alloc (.cells arr ty))
 | .newRow E ks l=>∃arr:Array Value,0<ks.length/\l.length<=maxLen/\RowC ρ.im w ks l arr.toList/\
   (execOp e o).run P w= .ok (.value (.slice (some ⟨w.heap.size,0,none⟩) l.length l.length)) (w.alloc (.cells arr E))
 | .newView E ks l=>∃arr:Array Value,0<ks.length/\l.length<=maxLen/\RowC ρ.im w ks l arr.toList/\
   (execOp e o).run P w= .ok (.value (.slice (some ⟨w.heap.size,0,none⟩) l.length l.length)) (w.alloc (.cells arr E))
 | .make E ks bytes n z=>∃t i M N O,P.underlying t=some (.slice E)/\P.info? E=some i/\i.zero=some M/\i.size=ks.length/\i.bytes=bytes/\0<ks.length/\0<bytes/\AT ks z=z/\CL (CP ρ.im w) z M.cells.toList/\
   (execOp e o).run P w=((Instr.makeSlice t (.int N n) (.int O n)).run P w).andThen λv w'=> .ok (.value v) w'
 | .append E ks bytes s x=>∃t ty i z G I,P.underlying t=some (.slice E)/\P.info? E=some i/\i.zero=some z/\i.size=ks.length/\i.bytes=bytes/\z.cells.size=ks.length/\CC ρ w s G/\CC ρ w x I/\
   (execOp e o).run P w=((Builtin.append_ #[t,t] ty #[G,I]).run P w).andThen λv w'=> .ok (.value v) w'
 | .appD E ks bytes s x=>∃t ty i z G I,P.underlying t=some (.slice E)/\P.info? E=some i/\i.zero=some z/\i.size=ks.length/\i.bytes=bytes/\z.cells.size=ks.length/\CC ρ w s G/\CC ρ w x I/\
   (execOp e o).run P w=((Builtin.append_ #[t,t] ty #[G,I]).run P w).andThen λv w'=> .ok (.value v) w'
 | .callM f args=>∃xs:List Value,xs.length=args.length/\(∀(i:Nat) (a:TV) (x:Value),args[i]? =some a->xs[i]? =some x->TVR ρ w a x)/\execOp e o=callFunc f xs.toArray
 | .callF f args=>∃xs:List Value,xs.length=args.length/\(∀(i:Nat) (a:TV) (x:Value),args[i]? =some a->xs[i]? =some x->TVR ρ w a x)/\execOp e o=callFunc f xs.toArray
 | .callD f args=>∃xs:List Value,xs.length=args.length/\(∀(i:Nat) (a:TV) (x:Value),args[i]? =some a->xs[i]? =some x->TVR ρ w a x)/\execOp e o=callFunc f xs.toArray
 | .call f args=>∃xs:List Value,xs.length=args.length/\(∀(i:Nat) (a:TV) (x:Value),args[i]? =some a->xs[i]? =some x->TVR ρ w a x)/\execOp e o=callFunc f xs.toArray
theorem Zxv {t:TypeId} {n:Nat} (h:szT P t=some n):∃i,P.info? t=some i/\i.size=n:=by
 unfold szT at h;split at h
 ·rename_i i hi;simp at h;exact⟨i,hi,h⟩
 ·simp at h
theorem Eu {t:TypeId} {n:Nat} (h:szT P t=some n) (w:World):(sizeOf t).run P w= .ok n w:=by
 obtain⟨i,hi,rfl⟩:=Zxv h;simp[sizeOf,typeInfo,hi]
theorem O3 {t:TypeId} {g:Bool} (h:CY P t=some g) (w:World):(isAgg t).run P w= .ok g w:=by
 unfold CY at h;split at h
 ·rename_i fs E;simp at h;subst h;simp[isAgg,run_underlying E]
 ·rename_i n e E;simp at h;subst h;simp[isAgg,run_underlying E]
 ·rename_i d G I E;simp at h;subst h;simp only[isAgg,Sem.run_bind,run_underlying E,dh];cases d<;>first|rfl|(exfalso;first|exact G _ rfl|exact I _ _ rfl)
 ·simp at h
theorem UT {t:TypeId} {cs:List AC} (h:JN P t=some cs):∃v,(∀w,(zeroValue t).run P w= .ok v w)/\CL (CC ρ w) cs v.cells.toList:=by
 unfold JN at h;split at h
 ·rename_i i hi;split at h
  ·rename_i v E;exact⟨v,λw=>by simp[zeroValue,typeInfo,hi,E],UF _ h⟩
  ·simp at h
 ·simp at h
theorem G6 {im:Nat->Prop} {w:World} (k:IntKind) (n:Int):CP im w (.int k n) (.int k n):=by simp[CP]
theorem Quf {im:Nat->Prop} {w:World} (b:Bool):CP im w (.bool b) (.bool b):=by simp[CP]
theorem Ztv (op:BinOp) (t:TypeId) (k:IntKind) (a b:Int) (K:AC->Option R) {r:R} (h:G0 op k a b K=some r):
  ∃c x,K c=some r/\CP ρ.im w c x/\(binOp op t (.int k a) (.int k b)).run P w= .ok x w:=by
 cases op<;>simp only[G0]at h
 case quo=>
  cases hb:decide (b=0)
  ·rw[hb]at h;simp only[ao]at h;have E: ¬b=0:=by simpa using hb
   exact⟨_,_,h,G6 _ _,by simp[binOp_quo,Op.intDiv,E]⟩
  ·rw[hb]at h;simp at h
 case rem=>
  cases hb:decide (b=0)
  ·rw[hb]at h;simp only[ao]at h;have E: ¬b=0:=by simpa using hb
   exact⟨_,_,h,G6 _ _,by simp[binOp_rem,Op.intDiv,E]⟩
  ·rw[hb]at h;simp at h
 case shl=>
  cases hb:decide (b<0)
  ·rw[hb]at h;simp only[ao]at h;have E: ¬b<0:=by simpa using hb
   exact⟨_,_,h,G6 _ _,by simp[binOp_shl,Op.shift,E]⟩
  ·rw[hb]at h;simp at h
 case shr=>
  cases hb:decide (b<0)
  ·rw[hb]at h;simp only[ao]at h;have E: ¬b<0:=by simpa using hb
   exact⟨_,_,h,G6 _ _,by simp[binOp_shr,Op.shift,E]⟩
  ·rw[hb]at h;simp at h
 case and=>exact⟨_,_,h,G6 _ _,by rw[binOp_and];rfl⟩
 case or=>exact⟨_,_,h,G6 _ _,by rw[binOp_or];rfl⟩
 case xor=>exact⟨_,_,h,G6 _ _,by rw[binOp_xor];rfl⟩
 case andNot=>exact⟨_,_,h,G6 _ _,by rw[binOp_andNot];rfl⟩
 all_goals first|exact⟨_,_,h,G6 _ _,by simp[go_sem]⟩|exact⟨_,_,h,Quf _,by simp[go_sem]⟩
theorem Ze9 {op:BinOp} (G:NO op=true) (t:TypeId) (k k':IntKind) (a b:Int) (K:AC->Option R) {r:R} (h:G0 op k a b K=some r):
  ∃c x,K c=some r/\CP ρ.im w c x/\(binOp op t (.int k a) (.int k' b)).run P w= .ok x w/\op≠ .eql/\op≠ .neq:=by
 cases op<;>simp[NO]at G<;>simp only[G0]at h
 case shl=>
  cases hb:decide (b<0)
  ·rw[hb]at h;simp only[ao]at h;have E: ¬b<0:=by simpa using hb
   exact⟨_,_,h,G6 _ _,by simp[binOp_shl,Op.shift,E],by simp,by simp⟩
  ·rw[hb]at h;simp at h
 case shr=>
  cases hb:decide (b<0)
  ·rw[hb]at h;simp only[ao]at h;have E: ¬b<0:=by simpa using hb
   exact⟨_,_,h,G6 _ _,by simp[binOp_shr,Op.shift,E],by simp,by simp⟩
  ·rw[hb]at h;simp at h
theorem Ib {i:Int}:∀{n k:Nat} {K:Nat->Option R} {r:R},Ha i n k K=some r->∃j,K j=some r/\i=(j:Int)/\k<=j/\j<k+n
 |0,_,_,_,h=>by simp[Ha]at h
 |n+1,k,K,r,h=>by
  rw[Ha]at h;cases E:decide (i=(k:Int))
  ·rw[E]at h;simp only[ao]at h;obtain⟨j,G,I,J,M⟩:=Ib h;exact⟨j,G,I,by omega,by omega⟩
  ·rw[E]at h;simp only[aj]at h;exact⟨k,h,by simpa using E,by omega,by omega⟩
theorem Qu1 {g:Bool} {sz:Nat} {cells:List AC} {off:Nat} {v:TV} {xs:List Value} (h:DV g sz cells off=some v) (E:CL (CC ρ w) cells xs):
  match g with
  |true=>off+sz<=xs.length/\TVR ρ w v (.agg (cut xs off sz).toArray)
  |false=>∃x,xs[off]? =some x/\TVR ρ w v x:=by
 cases g
 ·simp only[DV,ao]at h;split at h
  ·rename_i a G;simp at h;subst h;obtain⟨x,I,J⟩:=E.get G;exact⟨x,I,TVR.c' J⟩
  ·simp at h
 ·simp only[DV,aj]at h;cases hb:Nat.ble (off+sz) cells.length
  ·rw[hb]at h;simp at h
  ·rw[hb]at h;simp at h;subst h;exact⟨by rw[<-E.length];exact bc hb,⟨_,rfl,by simpa using E.cut off sz⟩⟩
theorem Q2q {t:TypeId} {cs:List AC} {off:Nat} {v:TV} {E:Array Value} (h:Ob P t cs off=some v) (N:CL (CC ρ w) cs E.toList):
  ∃x,(part t E off).run P w= .ok x w/\TVR ρ w v x:=by
 unfold Ob at h;split at h
 ·rename_i g sz J O;have M:=Qu1 h N;cases g
  ·obtain⟨x,S,G⟩:=M;refine⟨x,?_,G⟩;have I:E[off]? =some x:=by simpa using S
   simp[part,O3 J,I]
  ·obtain⟨hle,G⟩:=M;refine⟨_,?_,G⟩;simp only[part,Sem.run_bind,O3 J,dh,dz,Eu O,Sem.run_pure];congr 2;apply Array.ext';simp[cut]
 ·simp at h
theorem CL.plain {l:List AC} {xs:List Value} (E:Al AC.plain l=true) (h:CL (CC ρ w) l xs):CL (CP ρ.im w) l xs:=
 h.mono λa G _ I=>Zyc (AD.1 E a G) I
end
open Go.RowKit
section
variable {P:Program} {ρ:Env} {w:World}
def FO (P:Program) (ρ:Env) (w:World) (t:TypeId) (cs:List AC) (x:Value):Prop:=
 match CY P t with
 |some true=>∃E:Array Value,x= .agg E/\CL (CC ρ w) cs E.toList
 |some false=>∃a,cs=[a]/\CC ρ w a x
 |none=>False
theorem S_ {t:TypeId} {n:Nat} {cs:List AC} {off:Nat} {I:Array Value} (O:szT P t=some n) (S:CY P t≠none) (N:CL (CC ρ w) cs I.toList) (hle:off+n<=cs.length)
  (T:CY P t=some false->n=1):∃x,(part t I off).run P w= .ok x w/\FO P ρ w t (cut cs off n) x:=by
 cases E:CY P t with
 |none=>exact absurd E S
 |some g=>
  cases g
  ·have J:=T E;subst J;have G:off<cs.length:=by omega
   obtain⟨x,U,V⟩:=N.get (ai G);have M:I[off]? =some x:=by simpa using U
   refine⟨x,by simp[part,O3 E,M],?_⟩;unfold FO;rw[E];refine⟨cs[off],?_,V⟩;simp only[cut,il G,List.take_succ_cons,List.take_zero]
  ·refine⟨.agg (I.extract off (off+n)),by simp[part,O3 E,Eu O],?_⟩;unfold FO;rw[E];refine⟨_,rfl,?_⟩;have:=N.cut off n;simpa [cut]using this
theorem Q3i {ok:List TypeId} {d D:Nat} {xs ys:List AC} {X Y:Array Value}
  (ih:∀(t:TypeId) (as bs:List AC) (r:Bool) (A B:Value),eqC P ok d t as bs=some r->FO P ρ w t as A->FO P ρ w t bs B->(Op.equalIn D t A B).run P w= .ok r w)
  (hX:CL (CC ρ w) xs X.toList) (hY:CL (CC ρ w) ys Y.toList):∀(fs:List Field) (r:Bool),
  Ju (λf : Field => bif f.name == "_" then none else match szT P f.type with
    |some n=>bif(Nat.ble (f.offset+n) xs.length&&Nat.ble (f.offset+n) ys.length&&IS P f.type n)then eqC P ok d f.type (cut xs f.offset n) (cut ys f.offset n)else none
    |none=>none) fs=some r->
  (Op.eqFields D X Y fs).run P w= .ok r w
 |[],r,h=>by simp[Ju]at h;subst h;simp[Op.eqFields]
 |f::fs,r,h=>by
  simp only[Ju]at h;split at h
  ·rename_i b hb;split at h
   ·rename_i b' hb';simp at h;subst h;have ht:=Q3i ih hX hY fs b' hb';cases hnm:f.name== "_"
    ·rw[hnm]at hb;simp only[ao]at hb;split at hb
     ·rename_i n hn;cases hle:(Nat.ble (f.offset+n) xs.length&&Nat.ble (f.offset+n) ys.length&&IS P f.type n)
      ·rw[hle]at hb;simp at hb
      ·rw[hle]at hb;simp only[aj]at hb;simp only[al]at hle;obtain⟨⟨h1,h2⟩,h3⟩:=hle;have h1':=bc h1;have h2':=bc h2;have hg:CY P f.type≠none:=by intro e;simp[IS,e]at h3
       have ho:CY P f.type=some false->n=1:=by intro e;simp[IS,e]at h3;exact h3
       obtain⟨A,hA,vA⟩:=S_ hn hg hX h1' ho;obtain⟨B,hB,vB⟩:=S_ hn hg hY h2' ho;have he:=ih f.type _ _ b A B hb vA vB;have hne:f.name≠ "_" :=by simpa using hnm
       simp only[Op.eqFields,hne,ne_eq,kk,dz,Sem.run_bind,hA,dh,hB,he];cases b
       ·simp
       ·simpa using ht
     ·simp at hb
    ·rw[hnm]at hb;simp at hb
   ·simp at h
  ·simp at h
theorem Qzx {ok:List TypeId} {d D e m:Nat} {xs G:List AC} {X Y:Array Value}
  (N:∀(t:TypeId) (as bs:List AC) (r:Bool) (A B:Value),eqC P ok d t as bs=some r->FO P ρ w t as A->FO P ρ w t bs B->(Op.equalIn D t A B).run P w= .ok r w)
  (O:CL (CC ρ w) xs X.toList) (S:CL (CC ρ w) G Y.toList) (I:szT P e=some m) (E:IS P e m=true):∀(l:List Nat) (r:Bool),
  (∀i∈l,i*m+m<=xs.length/\i*m+m<=G.length)->
  Ju (λi=>eqC P ok d e (cut xs (i*m) m) (cut G (i*m) m)) l=some r->
  ((forIn l ((none : Option Bool), PUnit.unit) λi _ => do
    let a<-part e X (i*m)
    let b<-part e Y (i*m)
    let q<-Op.equalIn D e a b
    if(!q)=true then pure (ForInStep.done (some false,PUnit.unit))else pure (ForInStep.yield (none,PUnit.unit)):Sem (Option Bool×PUnit))>>=λs=>match s.1 with
     |none=>pure true
     |some a=>pure a).run P w= .ok r w
 |[],r,_,h=>by simp[Ju]at h;subst h;simp
 |i::l,r,J,h=>by
  simp only[Ju]at h;split at h
  ·rename_i b hb;split at h
   ·rename_i b' M;simp at h;subst h;have T:=Qzx N O S I E l b' (λj hj=>J j (by simp[hj])) M;have U:CY P e≠none:=by intro q;simp[IS,q]at E
    have V:CY P e=some false->m=1:=by intro q;simp[IS,q]at E;exact E
    obtain⟨A,hA,vA⟩:=S_ I U O (J i (by simp)).1 V;obtain⟨B,hB,vB⟩:=S_ I U S (J i (by simp)).2 V;have he:=N e _ _ b A B hb vA vB;rw[List.forIn_cons];simp only[Sem.run_bind,hA,dh,hB,he];cases b
    ·simp
    ·simp only[Sem.run_bind]at T;simpa using T
   ·simp at h
  ·simp at h
theorem Q18 {ok:List TypeId} (S:∀t∈ok,P.stoodInHeld t=false):∀(d D:Nat),d<=D->∀(t:TypeId) (as bs:List AC) (r:Bool) (A B:Value),
  eqC P ok d t as bs=some r->FO P ρ w t as A->FO P ρ w t bs B->(Op.equalIn D t A B).run P w= .ok r w
 |0,_,_,t,as,bs,r,A,B,h,_,_=>by simp[eqC]at h
 |d+1,0,hd,_,_,_,_,_,_,_,_,_=>by omega
 |d+1,D+1,hd,t,as,bs,r,A,B,h,G,I=>by
  have ih:=Q18 S d D (by omega);simp only[eqC]at h;split at h
  ·rename_i E;have J:CY P t=some false:=by simp[CY,E]
   simp only[FO,J]at G I;obtain⟨a,rfl,U⟩:=G;obtain⟨b,rfl,V⟩:=I;split at h
   ·rename_i x y M N;simp at h M N;subst M N h;have e1:A= .bool x:=by simpa [CC,CP]using U
    have e2:B= .bool y:=by simpa [CC,CP]using V
    subst e1 e2;exact run_equalIn_bool' w D t x y E
   ·simp at h
  ·rename_i k0 E;have J:CY P t=some false:=by simp[CY,E]
   simp only[FO,J]at G I;obtain⟨a,rfl,U⟩:=G;obtain⟨b,rfl,V⟩:=I;split at h
   ·rename_i k x k' y M N;simp at M N;subst M N;cases hk:kEq k k'
    ·rw[hk]at h;simp at h
    ·rw[hk]at h;have:=PU hk;subst this;simp at h;subst h;have e1:A= .int k x:=by simpa [CC,CP]using U
     have e2:B= .int k y:=by simpa [CC,CP]using V
     subst e1 e2;exact run_equalIn_int w D t k k0 x y E
   ·simp at h
  ·rename_i fs E;have J:CY P t=some true:=by simp[CY,E]
   simp only[FO,J]at G I;obtain⟨X,rfl,hX⟩:=G;obtain⟨Y,rfl,hY⟩:=I;cases O:ok.elem t
   ·rw[O]at h;simp at h
   ·rw[O]at h;simp only[aj]at h;have T:P.fieldsOf t=fs:=by simp[Program.fieldsOf,E]
    rw[run_equalIn_struct w D t X Y (by rw[T];exact E) (S t (by simpa using O)),T];exact Q3i ih hX hY fs.toList r h
  ·rename_i n e E;have J:CY P t=some true:=by simp[CY,E]
   simp only[FO,J]at G I;obtain⟨X,rfl,hX⟩:=G;obtain⟨Y,rfl,hY⟩:=I;split at h
   ·rename_i m hm;cases hle:(Nat.ble (n*m) as.length&&Nat.ble (n*m) bs.length&&IS P e m)
    ·rw[hle]at h;simp at h
    ·rw[hle]at h;simp only[aj]at h;simp only[al]at hle;obtain⟨⟨M,N⟩,h3⟩:=hle;have a2:=bc M;have a3:=bc N;have hr := Qzx (P := P) (ρ := ρ) (w := w) (D := D) (X := X) (Y := Y) ih hX hY hm h3 (List.range n) r (λi hi => by
      have a0:i<n:=by simpa using hi
      have:i*m+m<=n*m:=by
       calc i*m+m=(i+1)*m:=by rw[dt,gy]
        _<=n*m:=bp _ a0
      omega) h
     simp only[Op.equalIn,Sem.run_bind,run_underlying E,dh,Eu hm];rw[Std.Legacy.Range.forIn_eq_forIn_range'];have a1:List.range' [:n].start [:n].size [:n].step=List.range n:=by
      simp[Std.Legacy.Range.size,List.range_eq_range']
     rw[a1];simp only[Sem.run_bind]at hr;rw[<-hr];congr 1
     funext a w'
     cases a.1<;>rfl
   ·simp at h
  ·simp at h
end
open Go.RowKit
section
variable {P:Program} {C:Cfg} {ρ:Env} {w:World} {R:Type}
theorem R6 {G:Operand->TV} {e:Operand->Value} (E:∀x,TVR ρ w (G x) (e x)):∀(l:List Operand),(C9 G l).length=(l.map e).length/\
  ∀(i:Nat) (a:TV) (x:Value),(C9 G l)[i]? =some a->(l.map e)[i]? =some x->TVR ρ w a x
 |[]=>⟨rfl,λi a x h=>by simp[C9]at h⟩
 |o::l=>⟨by simp[C9,(R6 E l).1],λi a x h h'=>by
   cases i with
   |zero=>simp[C9]at h h';subst h h';exact E o
   |succ i=>simp[C9]at h h';exact(R6 E l).2 i a x (by simpa using h) (by simpa using h')⟩
theorem RY {α:Type} (l:List α) (o:Nat):splice l o []=l:=by cases l<;>simp[splice]
theorem L9 {α:Type}:∀(l:List α) (o:Nat) (E:List α),(splice l o E).length=l.length
 |[],_,[]=>by simp[splice]
 |[],_,_::_=>by simp[splice]
 |_::_,_,[]=>by simp[splice]
 |_::l,0,v::E=>by simp[splice,L9 l 0 E]
 |_::l,o+1,v::E=>by simp[splice,L9 l o (v::E)]
theorem Qxt {α:Type} (v:α) (E:List α):∀(l:List α) (o:Nat),o<l.length->splice (l.set o v) (o+1) E=splice l o (v::E)
 |[],o,h=>by simp at h
 |y::l,0,_=>by
  cases E with
  |nil=>simp[RY,splice]
  |cons u I=>simp[splice]
 |y::l,o+1,h=>by
  have G:=Qxt v E l o (by simpa using h);cases E with
  |nil=>simp only[RY]at*;simp[splice,G]
  |cons u I=>simp only[List.set_cons_succ,splice];rw[G]
theorem Q8c (off:Nat):∀(E:List Value) (k:Nat) (xs:Array Value),off+k+E.length<=xs.size->
  ((E.zipIdx k).foldl (λcs (c,j)=>cs.setIfInBounds (off+j) c) xs).toList=splice xs.toList (off+k) E
 |[],k,xs,_=>by simp[RY]
 |v::E,k,xs,h=>by
  simp only[List.zipIdx_cons,fj];rw[Q8c off E (k+1) _ (by simp at h⊢;omega),Array.toList_setIfInBounds,<-Qxt v E xs.toList (off+k) (by simp at h⊢;omega),du]
theorem Uj {place:Nat->Option (Nat×Nat)} {S:Operand->TV} {e:Operand->Value} (E:∀x,TVR ρ w (S x) (e x)):∀(parts:List (Nat×Operand)) (z cs:List AC) (xs:Array Value),
  CL (CC ρ w) z xs.toList->Jd place z (Gu S parts)=some cs->
  ∃G:Array Value,Instr.fill place xs (parts.map λp=>(p.1,e p.2))=some G/\CL (CC ρ w) cs G.toList/\G.size=xs.size
 |[],z,cs,xs,N,h=>by simp[Gu,Jd]at h;subst h;exact⟨xs,rfl,N,rfl⟩
 |(i,o)::parts,z,cs,xs,N,h=>by
  simp only[Gu,Jd]at h;split at h
  ·rename_i off size l T U;have I:=(E o).cells U;cases hb:(Nat.beq l.length size&&Nat.ble (off+size) z.length)
   ·rw[hb]at h;simp at h
   ·rw[hb]at h;simp only[aj]at h;simp only[al]at hb;have e1:l.length=size:=ac hb.1;have e2:=bc hb.2;have e3:=I.length;have V:=N.length;have J:(e o).cells.size=size:=by rw[<-e1,e3];simp
    have e5:off+(e o).cells.size<=xs.size:=by rw[J,<-dy,<-V];exact e2
    have O:=Q8c off (e o).cells.toList 0 xs (by simp;omega);have M:((e o).cells.zipIdx.foldl (λcs (c,j)=>cs.setIfInBounds (off+j) c) xs).toList=splice xs.toList (off+0) (e o).cells.toList:=by
     rw[<-Array.foldl_toList,Array.toList_zipIdx];exact O
    obtain⟨G,X,Y,h3⟩:=Uj E parts _ _ _ (by rw[M];exact N.splice _ I) h;refine⟨G,?_,Y,?_⟩
    ·simp only[bt,Instr.fill,T];rw[aa (by simp only[jp,da,not_or];exact⟨λhh=>hh J,by omega⟩)];exact X
    ·rw[h3,<-dy,M,L9,dy]
  ·simp at h
theorem Q2f {ks:List Kd}:∀(n:Nat) (cs:List AC) (l:List (List AC)) (xs:List Value),IA ks n cs=some l->CL (CC ρ w) cs xs->l.length=n/\xs.length=n*ks.length->RowC ρ.im w ks l xs
 |0,cs,l,xs,h,I,G=>by
  cases cs with
  |nil=>
   simp[IA]at h;subst h;exact⟨by simpa using G.2,by simp,λi c hi=>by simp at hi⟩
  |cons=>simp[IA]at h
 |n+1,cs,l,xs,h,I,G=>by
  simp only[IA]at h;split at h
  ·rename_i c J;split at h
   ·rename_i T M;simp at h;subst h;have O:=SN J (I.take ks.length);have N:xs.length=n*ks.length+ks.length:=by rw[G.2,dt,gy]
    have S:=Q2f n _ T (xs.drop ks.length) M (I.drop ks.length) ⟨by simpa using G.1,by simp[N]⟩;refine⟨by rw[G.2];simp at G⊢;rw[G.1],?_,?_⟩
    ·intro c' E;simp only[av]at E;rcases E with rfl|E
     ·exact O.2
     ·exact S.2.1 c' E
    ·intro i c' hi;cases i with
     |zero=>simp at hi;subst hi;simpa [cut]using O.1
     |succ i=>
      have:=S.2.2 i c' (by simpa using hi);have e:cut (xs.drop ks.length) (i*ks.length) ks.length=cut xs ((i+1)*ks.length) ks.length:=by
       simp only[cut,js];rw[dt,gy,kf]
      rw[<-e];exact this
   ·simp at h
  ·simp at h
theorem Q1z {ks:List Kd}:∀(n:Nat) (cs:List AC) (l:List (List AC)),IA ks n cs=some l->l.length=n
 |0,[],l,h=>by simp[IA]at h;subst h;rfl
 |0,_::_,l,h=>by simp[IA]at h
 |n+1,cs,l,h=>by
  simp only[IA]at h;split at h
  ·split at h
   ·rename_i G E;simp at h;subst h;simp[Q1z n _ G E]
   ·simp at h
  ·simp at h
theorem Q4h {z:List AC} {v:List Value} (E:CL (CC ρ w) z v):∀n,CL (CC ρ w) (Ns z n) ((List.replicate n v).flatten)
 |0=>trivial
 |n+1=>by rw[Ns,j0,List.flatten_cons];exact E.append (Q4h E n)
theorem Q7i (v:List Value) (I:0<v.length):∀(n j:Nat),j<n*v.length->(List.replicate n v).flatten[j]? =v[j%v.length]?
 |0,j,h=>by simp at h
 |n+1,j,h=>by
  rw[j0,List.flatten_cons,gz];split
  ·rename_i G;rw[Nat.mod_eq_of_lt G]
  ·rename_i J;have E:v.length<=j:=by omega
   rw[Q7i v I n (j-v.length) (by rw[dt]at h;omega),Nat.mod_eq_sub_mod E]
def ZM (e:Operand->Value):Option Operand->Option Int->Prop
 |none,none=>True
 |some x,some n=>∃k,e x= .int k n
 |_,_=>False
theorem Zcc {G:Operand->TV} {e:Operand->Value} (I:∀x,TVR ρ w (G x) (e x)) {o:Option Operand} {i:Option Int} (h:K8 G o=some i):
  ZM e o i:=by
 cases o with
 |none=>simp[K8]at h;subst h;trivial
 |some x=>
  simp only[K8]at h;split at h
  ·rename_i n E;simp at h;subst h;have J:=I x
   revert E J
   generalize G x=t;intro E J;unfold TV.int? at E;split at E
   ·rename_i k m;simp at E;subst E;exact⟨k,J.int⟩
   ·simp at E
  ·simp at h
theorem Rb {t:TV} {x:Value} {n:Int} (h:t.int? =some n) (E:TVR ρ w t x):∃k,x= .int k n:=by
 unfold TV.int? at h;split at h
 ·rename_i k m;simp at h;subst h;exact⟨k,E.int⟩
 ·simp at h
theorem Qtr {e:Operand->Value} {o:Oper} {c:Call} {f:FuncId} (E:o.op= .call c) (G:c.callee= .value (.func f)) (hf:e (.func f)= .func (.func f) #[] #[]):
  execOp e o=callFunc f (c.args.toList.map e).toArray:=by
 unfold execOp;simp only[E,resolve,G,hf,Deferred.ofValue,pure_bind];simp only[invoke,Array.append_empty,Array.empty_append];rw[<-i7]
theorem Zx4 {e:Operand->Value} {o:Oper} {c:Call} {f:FuncId} {t:Tmp} {xs E:Array Value} (G:o.op= .call c) (I:c.callee= .value (.tmp t)) (hf:e (.tmp t)= .func (.func f) xs E):
  execOp e o=callFunc f (xs.toList++(c.args.toList.map e++E.toList)).toArray:=by
 unfold execOp;simp only[G,resolve,I,hf,Deferred.ofValue,pure_bind];simp only[invoke];congr 1;apply Array.ext';simp
theorem Zwc {e:Operand->Value} {o:Oper} {c:Call} {b:Builtin} (E:o.op= .call c) (G:c.callee= .builtin b):
  ∃cs,execOp e o=builtin b c.argTypes o.type cs (c.args.map e):=by
 unfold execOp;simp only[E,resolve,G];exact⟨_,rfl⟩
theorem Qd4 (I:Value->Value->Sem Value) (g:Int->Int->Int) (E:∀k a k' b w,(I (.int k a) (.int k' b)).run P w= .ok (.int k (g a b)) w) (k:IntKind):
  ∀(l:List TV) (xs:List Value) (a:Int) (Kp:Prim->Option R) (r:R),l.length=xs.length->(∀(i:Nat) (t:TV) (x:Value),l[i]? =some t->xs[i]? =some x->TVR ρ w t x)->GC g k a l Kp=some r->
  ∃n,Kp (.val (.c (.int k n)))=some r/\(xs.foldlM I (.int k a)).run P w= .ok (.int k n) w
 |[],[],a,Kp,r,_,_,h=>by simp[GC]at h;exact⟨a,h,by simp⟩
 |[],_::_,_,_,_,G,_,_=>by simp at G
 |_::_,[],_,_,_,G,_,_=>by simp at G
 |t::l,x::xs,a,Kp,r,G,N,h=>by
  unfold GC at h;split at h
  ·rename_i k' b;cases O:kEq k k'
   ·rw[O]at h;simp at h
   ·rw[O]at h;simp only[aj]at h;have S:x= .int k' b:=(N 0 _ x rfl rfl).int;subst S;obtain⟨n,J,M⟩:=Qd4 I g E k l xs (g a b) _ r (by simpa using G) (λi t x J M=>N (i+1) t x (by simpa using J) (by simpa using M)) h;exact⟨n,J,by rw[List.foldlM_cons];simp only[Sem.run_bind,E,dh,M]⟩
  ·simp at h
theorem Zms {b:Builtin} {S:List TypeId} {args:List TV} {xs:List Value} {ty:TypeId} {cs:Array Bool} {Kp:Prim->Option R} {r:R}
  (I:args.length=xs.length) (M:∀(i:Nat) (t:TV) (x:Value),args[i]? =some t->xs[i]? =some x->TVR ρ w t x)
  (h:Np P b S args Kp=some r) {e:Operand->Value} {o:Oper} (he:execOp e o=builtin b S.toArray ty cs xs.toArray):
  ∃p,Kp p=some r/\JQ P ρ w e o p:=by
 unfold Np at h;split at h
 ·rename_i ks l
  match xs,I with
  |[x],_=>
   have E:=(M 0 _ x rfl rfl).c;simp only[CC,CP]at E;obtain⟨ad,cap,rfl,_⟩:=E;split at h
   ·rename_i t G;split at h
    ·rename_i T J;refine⟨_,h, .int .i64 l.length,?_,TVR.mkInt _ _⟩;rw[he];simp[builtin,Builtin.len_,run_underlying J,goInt]
    ·simp at h
   ·simp at h
 ·rename_i id wd n
  match xs,I with
  |[x],_=>
   have E:=(M 0 _ x rfl rfl).c;obtain⟨_,_,E⟩:=E;split at h
   ·rename_i t G;split at h
    ·rename_i T J;refine⟨_,h, .int .i64 n,?_,TVR.mkInt _ _⟩;rw[he];rcases E with⟨rfl,rfl⟩|⟨g,o',c,rfl⟩
     ·simp[builtin,Builtin.len_,run_underlying J,goInt]
     ·simp[builtin,Builtin.len_,run_underlying J,goInt]
    ·simp at h
   ·simp at h
 ·rename_i key n
  match xs,I with
  |[x],_=>
   have E:=(M 0 _ x rfl rfl).c;simp only[CC]at E;subst E;split at h
   ·rename_i t G;split at h
    ·rename_i T J;refine⟨_,h, .int .i64 n,?_,TVR.mkInt _ _⟩;rw[he];simp[builtin,Builtin.len_,run_underlying J,goInt]
    ·simp at h
   ·simp at h
 ·match xs,I with
  |[x],_=>
   have E:=(M 0 _ x rfl rfl).c;simp only[CC,CP]at E;subst E;split at h
   ·rename_i t G;split at h
    ·rename_i T J;refine⟨_,h, .int .i64 0,?_,TVR.mkInt _ _⟩;rw[he];simp[builtin,Builtin.len_,run_underlying J,goInt]
    ·simp at h
   ·simp at h
 ·rename_i l
  match xs,I with
  |[x],_=>
   obtain⟨ys,rfl,_⟩:=(M 0 _ x rfl rfl).agg;split at h
   ·rename_i t G;split at h
    ·rename_i n T J;refine⟨_,h, .int .i64 n,?_,TVR.mkInt _ _⟩;rw[he];simp[builtin,Builtin.len_,run_underlying J,goInt]
    ·simp at h
   ·simp at h
 ·rename_i k a rest
  match xs,I with
  |x::xs,I=>
   have E:x= .int k a:=(M 0 _ x rfl rfl).int;subst E;obtain⟨n,N,O⟩:=Qd4 (P:=P) (ρ:=ρ) (w:=w) Builtin.min2 mn (λk a k' b w=>by simp[Builtin.min2,mn]) k rest xs a Kp r (by simpa using I) (λi t x N O=>M (i+1) t x (by simpa using N) (by simpa using O)) h;refine⟨_,N, .int k n,?_,TVR.mkInt _ _⟩;rw[he];simp[builtin,Builtin.min_,O]
 ·rename_i k a rest
  match xs,I with
  |x::xs,I=>
   have E:x= .int k a:=(M 0 _ x rfl rfl).int;subst E;obtain⟨n,N,O⟩:=Qd4 (P:=P) (ρ:=ρ) (w:=w) Builtin.max2 mx (λk a k' b w=>by simp[Builtin.max2,mx]) k rest xs a Kp r (by simpa using I) (λi t x N O=>M (i+1) t x (by simpa using N) (by simpa using O)) h;refine⟨_,N, .int k n,?_,TVR.mkInt _ _⟩;rw[he];simp[builtin,Builtin.max_,O]
 ·rename_i s x'
  match xs,I with
  |[x,y],_=>
   have E:=(M 0 _ x rfl rfl).c;have U:=(M 1 _ y rfl rfl).c;split at h
   ·rename_i t u;split at h
    ·rename_i el V J X;split at h
     ·rename_i i ks hi Y;split at h
      ·rename_i z hz;cases hb:(Nat.beq t u&&Nat.beq z.cells.size i.size&&Nat.beq ks.length i.size)<;>rw[hb]at h
       ·simp at h
       ·simp only[aj]at h;simp only[al]at hb;have e1:=ac hb.1.1;have e2:=ac hb.1.2;have e3:=ac hb.2;subst e1;refine⟨_,h,t,ty,i,z,x,y,J,hi,hz,e3.symm,rfl,by rw[e3];exact e2,E,U,?_⟩;rw[he];simp[builtin]
      ·simp at h
     ·simp at h
    ·simp at h
   ·simp at h
 ·simp at h
end
open Go.RowKit
section
variable {P:Program} {C:Cfg} {ρ:Env} {w:World} {R:Type}
theorem Qym {α β:Type} (g:α->Sem β) (s:α->β):∀(l:List α) (w:World),(∀x∈l,(g x).run P w= .ok (s x) w)->(l.mapM g).run P w= .ok (l.map s) w
 |[],w,_=>by simp
 |x::l,w,h=>by
  rw[List.mapM_cons];simp only[Sem.run_bind,h x (by simp),dh,Qym g s l w (λy E=>h y (by simp[E])),Sem.run_pure,bt]
theorem Zmk {fs:Array Field} (h:Al (Mb P) fs.toList=true) (w:World):
  (fs.mapM λf:Field=>(do let n<-sizeOf f.type;pure (f.offset,n):Sem (Nat×Nat))).run P w= .ok (fs.map λf=>(f.offset,(szT P f.type).getD 0)) w:=by
 rw[Array.mapM_eq_mapM_toList];have := Qym (P := P) (λf : Field => (do let n <- sizeOf f.type; pure (f.offset, n) : Sem (Nat × Nat))) (λf => (f.offset, (szT P f.type).getD 0)) fs.toList w (λf hf => by
  have E:=AD.1 h f hf;unfold Mb at E;split at E
  ·rename_i n G;simp[Eu G,G]
  ·simp at E)
 simp only[Sem.run_map,this,dh];congr 1;apply Array.ext';simp
theorem Z8e {fs:Array Field} (h:Al (Mb P) fs.toList=true):
  XM P fs.toList=λi:Nat=>(fs.map λf=>(f.offset,(szT P f.type).getD 0))[i]? :=by
 funext i
 rw[Array.getElem?_map,<-Array.getElem?_toList,XM];cases hf:fs.toList[i]? with
 |none=>rfl
 |some f=>
  have E:=AD.1 h f (cq hf);unfold Mb at E;cases G:szT P f.type with
  |none=>rw[G]at E;simp at E
  |some n=>simp[G]
def R2 (w:World) (b o:Nat) (E:List Value):Prop:=∀(j:Nat) (y:Value),E[j]? =some y->w.cell? ⟨b,o+j,none⟩=some y
theorem Qn4 {im:Nat->Prop}:∀(cs:List AC) (b o:Nat),CPs im w cs b o->∃E,CL (CP im w) cs E/\R2 w b o E
 |[],b,o,_=>⟨[],trivial,λj y h=>by simp at h⟩
 |c::cs,b,o,h=>by
  rw[CPs]at h;obtain⟨⟨y,I,J⟩,M⟩:=h;obtain⟨E,N,O⟩:=Qn4 cs b (o+1) M;refine⟨y::E,⟨J,N⟩,λj z G=> ?_⟩;cases j with
  |zero=>simp at G;subst G;exact I
  |succ j=>have:=O j z (by simpa using G);rwa [show o+(j+1)=o+1+j from by omega]
theorem Wq {im:Nat->Prop}:∀(cs:List AC) (E:List Value) (b o:Nat),CL (CP im w) cs E->R2 w b o E->CPs im w cs b o
 |[],[],b,o,_,_=>by simp[CPs]
 |c::cs,y::E,b,o,h,G=>by
  rw[CPs];exact⟨⟨y,G 0 y rfl,h.1⟩,Wq cs E b (o+1) h.2 λj z I=>by
   have:=G (j+1) z (by simpa using I)
   rwa [show o+1+j=o+(j+1)from by omega]⟩
 |[],_::_,_,_,h,_=>h.elim
 |_::_,[],_,_,h,_=>h.elim
theorem V2 {t:TypeId} {g:Bool} {sz:Nat} {cells:List AC} {sub b o:Nat} {v:TV} {G:List Value} (J:CY P t=some g) (O:szT P t=some sz)
  (h:DV g sz cells sub=some v) (S:CL (CC ρ w) cells G) (M:R2 w b o G):
  ∃x,(loadVar t ⟨b,o+sub,none⟩).run P w= .ok x w/\TVR ρ w v x:=by
 have N:=Qu1 h S;cases g
 ·obtain⟨x,T,I⟩:=N;refine⟨x,?_,I⟩;simp[loadVar,O3 J,M sub x T]
 ·obtain⟨hle,I⟩:=N;refine⟨_,?_,I⟩;have U:(cut G sub sz).length=sz:=by simp[cut];omega
  have := run_loadCells_list (P := P) w ⟨b, o + sub, none⟩ (cut G sub sz) (λj y E => by
   rw[Addr.add_lit];rw[show o+sub+j=o+(sub+j)from by omega];refine M (sub+j) y ?_;simp only[cut,gh]at E;split at E
   ·rw[fe]at E;exact E
   ·simp at E)
  rw[U]at this;simp[loadVar,O3 J,Eu O,this]
theorem Yt {e:Operand->Value} {o:Oper} {t:TypeId} {x:Operand} {lo hi:Option Operand} {Y:TypeId} {m n cap:Nat} {V:Option Addr} {E I:Option Int} {l hh':Int}
  (ho:o.op= .slice t x lo hi none) (hu:P.underlying t=some (.slice Y)) (S:szT P Y=some m) (hc:e x= .slice V n cap) (a0:n<=cap)
  (G:ZM e lo E) (J:ZM e hi I)
  (M:E.getD 0=l) (T:I.getD (n:Int)=hh') (d1:0<=l) (d2:l<=hh') (d3:hh'<=(n:Int)):
  (execOp e o).run P w= .ok (.value (.slice (if cap=l.toNat then V else V.map (·.add (l.toNat*m))) (hh'.toNat-l.toNat) (cap-l.toNat))) w:=by
 simp only[execOp,ho,Instr.sliceAt,Sem.run_bind,run_underlying hu,dh,hc,Option.map_none,Instr.slice,Instr.sliceBounds,Sem.run_pure,dz,Option.isSome_none,dx,ig];have hH:∀y,hi=some y->∃k,e y= .int k hh':=by
  rintro y rfl;cases I with
  |none=>exact J.elim
  |some q=>simp at T;subst T;exact J
 have hL:∀y,lo=some y->∃k,e y= .int k l:=by
  rintro y rfl;cases E with
  |none=>exact G.elim
  |some q=>simp at M;subst M;exact G
 cases hi with
 |none=>
  have N:I=none:=by cases I with
   |none=>rfl
   |some _=>exact J.elim
  subst N;simp at T;subst T;cases lo with
  |none=>
   have N:E=none:=by cases E with
    |none=>rfl
    |some _=>exact G.elim
   subst N;simp at M;subst M;simp[Eu S]
  |some y=>
   obtain⟨k,X⟩:=hL y rfl;have U:l<=(n:Int):=d2;simp[Eu S,X,Instr.sliceBound,asIntOf,d1,U]
 |some z=>
  obtain⟨k',O⟩:=hH z rfl;have q1:0<=hh':=by omega
  have U:hh'<=(cap:Int):=by omega
  cases lo with
  |none=>
   have N:E=none:=by cases E with
    |none=>rfl
    |some _=>exact G.elim
   subst N;simp at M;subst M;simp[Eu S,O,Instr.sliceBound,asIntOf,q1,U]
  |some y=>
   obtain⟨k,X⟩:=hL y rfl;simp[Eu S,X,O,Instr.sliceBound,asIntOf,d1,q1,U];intro q4;omega
theorem Z02 {im:Nat->Prop} {ks:List Kd} {l:List (List AC)} {G:Option Addr} {cap a b:Nat} (S:a<=b) (hb:b<=l.length)
  (h:CP im w (.vC ks l) (.slice G l.length cap)):CP im w (.vC ks ((l.take b).drop a)) (.slice (if cap=a then G else G.map (·.add (a*ks.length))) (b-a) (cap-a)):=by
 rw[CP]at h⊢;obtain⟨T,M,he,hle,U,hf⟩:=h;simp only[Value.slice.injEq,true_and]at he;obtain⟨rfl,rfl⟩:=he;have hlen:((l.take b).drop a).length=b-a:=by simp;omega
 refine⟨_,_,by rw[hlen],by rw[hlen];omega,λc V=>U c (eu (d6 V)),?_⟩;by_cases N:(l.take b).drop a=[]
 ·exact .inl N
 ·right;have E:0<((l.take b).drop a).length:=List.length_pos_iff.2 N;rw[hlen]at E;rcases hf with hf|⟨b',o,rfl,I,J⟩
  ·subst hf;simp at hb;omega
  ·refine⟨b',o+a*ks.length,?_,I,TG λi hi=> ?_⟩
   ·rw[aa];simp[Addr.add_lit]
   ·rw[hlen]at hi;have O:=Qbi J (a+i) (by omega);have e:((l.take b).drop a)[i]'(by rw[hlen];exact hi)=l[a+i]'(by omega):=by simp
    rw[e];refine⟨O.1,?_⟩;have:=O.2;rw[dt,<-du]at this;exact this
theorem Qmi:∀{E:List TV} {as:List AC},JY E=some as->∀{xs:List Value},E.length=xs.length->(∀(i:Nat) (v:TV) (x:Value),E[i]? =some v->xs[i]? =some x->TVR ρ w v x)->CLc ρ w as xs
 |[],as,h,xs,G,_=>by
  simp[JY]at h;subst h;cases xs with
  |nil=>trivial
  |cons=>simp at G
 |v::E,as,h,xs,G,M=>by
  cases xs with
  |nil=>simp at G
  |cons x xs=>
   have h0:=M 0 v x rfl rfl;unfold JY at h;split at h
   ·simp at*
   ·rename_i a l heq;simp only[jn]at heq;obtain⟨rfl,rfl⟩:=heq;cases I:a.clOk<;>rw[I]at h
    ·simp at h
    ·simp only[aj]at h;split at h
     ·rename_i r J;simp at h;subst h;refine⟨?_,Qmi J (by simpa using G) λi v x N O=>M (i+1) v x (by simpa using N) (by simpa using O)⟩;have S:=h0.c;cases a<;>simp only[AC.clOk]at I<;>first|(simp at I;done)|exact S
     ·simp at h
   ·simp at h
theorem Qal:∀{as:List AC} {xs:List Value},CLc ρ w as xs->(as.map TV.c).length=xs.length/\∀(i:Nat) (v:TV) (x:Value),(as.map TV.c)[i]? =some v->xs[i]? =some x->TVR ρ w v x
 |[],[],_=>⟨rfl,λi v x h=>by simp at h⟩
 |a::as,x::xs,h=>by
  obtain⟨I,J⟩:=Qal h.2;refine⟨by simpa using I,λi v y E G=> ?_⟩;cases i with
  |zero=>
   simp at E G;subst E;subst G;have:=h.1;cases a<;>first|exact TVR.c' this|(exact TVR.c' (J7 this))|(simp[CCc,CP]at this)
  |succ i=>exact J i v y (by simpa using E) (by simpa using G)
 |[],_::_,h=>h.elim
 |_::_,[],h=>h.elim
theorem Q23 {a b:List TV} {xs I:List Value} (J:a.length=xs.length/\∀(i:Nat) (v:TV) (x:Value),a[i]? =some v->xs[i]? =some x->TVR ρ w v x)
  (M:b.length=I.length/\∀(i:Nat) (v:TV) (x:Value),b[i]? =some v->I[i]? =some x->TVR ρ w v x):
  (a++b).length=(xs++I).length/\∀(i:Nat) (v:TV) (x:Value),(a++b)[i]? =some v->(xs++I)[i]? =some x->TVR ρ w v x:=by
 refine⟨by simp[J.1,M.1],λi v x E G=> ?_⟩;rw[gz]at E G;by_cases hi:i<a.length
 ·rw[ab hi]at E;rw[ab]at G;exact J.2 i v x E G
 ·rw[aa hi]at E;rw[aa]at G;rw[J.1]at E;exact M.2 _ v x E G
theorem Zfz (g1:∀t∈C.eqOk,P.stoodInHeld t=false) {ev:Operand->TV} {e:Operand->Value} (I:∀x,TVR ρ w (ev x) (e x))
  (d5:∀f,e (.func f)= .func (.func f) #[] #[]) (o:Oper) {Kp:Prim->Option R} {r:R} (h:opK P C ev o.dst o.op Kp=some r):
  ∃p,Kp p=some r/\JQ P ρ w e o p:=by
 obtain⟨dst,op,type,pos,after,guard⟩:=o;have hx:∀(e4:Op) (v:TV) (x:Value),op=e4->((execOp e ⟨dst,e4,type,pos,after,guard⟩).run P w= .ok (.value x) w)->TVR ρ w v x->JQ P ρ w e ⟨dst,op,type,pos,after,guard⟩ (.val v):=by
  rintro _ v x rfl S T;exact⟨x,S,T⟩
 cases op<;>simp only[opK]at h<;>try (simp at h;done)
 case move x=>exact⟨_,h,e x,by simp[execOp],I x⟩
 case assign x=>exact⟨_,h,e x,by simp[execOp],I x⟩
 case pick c a b=>
  split at h
  ·rename_i g J;have b7:e c= .bool g:=by have:=I c;rw[J]at this;exact this.bool
   cases g
   ·simp only[ao]at h;exact⟨_,h,e b,by simp[execOp,b7,asBool],I b⟩
   ·simp only[aj]at h;exact⟨_,h,e a,by simp[execOp,b7,asBool],I a⟩
  ·simp at h
 case alloc t=>
  split at h
  ·rename_i cs hz;obtain⟨v,G,J⟩:=UT (ρ:=ρ) (w:=w) hz;refine⟨_,h,v.cells,J,?_⟩;simp[execOp,Instr.alloc,G,newVar,newRow]
  ·simp at h
 case box t x=>
  split at h
  ·rename_i cs J;exact⟨_,h,(e x).cells,(I x).cells J,by simp[execOp,Instr.box,newVar,newRow]⟩
  ·simp at h
 case build t parts=>
  split at h
  ·rename_i z fs hz N;obtain⟨v,G,J⟩:=UT (ρ:=ρ) (w:=w) hz;cases a9:(Al (Mb P) fs.toList)<;>rw[a9]at h
   ·simp at h
   ·simp only[aj]at h;split at h
    ·rename_i cs hb;rw[Z8e a9]at hb;obtain⟨U,S,T,_⟩:=Uj I _ _ _ _ J hb;refine⟨_,h, .agg U,?_,⟨U,rfl,T⟩⟩;have g2:=Zmk (P:=P) a9 w;simp only[execOp,Instr.build,Sem.run_bind,G,dh,run_underlying N,g2,i7];rw[S];simp
    ·simp at h
  ·rename_i z n el hz N;obtain⟨v,G,J⟩:=UT (ρ:=ρ) (w:=w) hz;split at h
   ·rename_i m hm;split at h
    ·rename_i cs hb;obtain⟨U,S,T,_⟩:=Uj I _ _ _ _ J hb;refine⟨_,h, .agg U,?_,⟨U,rfl,T⟩⟩;simp only[execOp,Instr.build,Sem.run_bind,G,dh,run_underlying N,Eu hm,i7];rw[S];simp
    ·simp at h
   ·simp at h
  ·simp at h
 case buildSlice t n parts=>
  split at h
  ·rename_i el N;split at h
   ·rename_i m z ks hm hz g3;obtain⟨v,G,J⟩:=UT (ρ:=ρ) (w:=w) hz;cases hb:(Nat.beq z.length m&&Nat.beq ks.length m&&Nat.ble 1 m&&Nat.ble (n*m) 65536)<;>rw[hb]at h
    ·simp at h
    ·simp only[aj]at h;simp only[al]at hb;have e1:=ac hb.1.1.1;have ek:=ac hb.1.1.2;have e2:=bc hb.1.2;have e3:=bc hb.2;split at h
     ·rename_i cs g4;have a2:∃U:Array Value,CL (CC ρ w) cs U.toList/\U.toList.length=n*m/\(execOp e ⟨dst, .buildSlice t n parts,type,pos,after,guard⟩).run P w= .ok (.value (.slice (some ⟨w.heap.size,0,none⟩) n n)) (w.alloc (.cells U el)):=by
       have b8:v.cells.toList.length=m:=by rw[<-J.length];exact e1
       have g5:((Array.range (n*m)).map λi=>(if n*m=0 then #[]else v.cells)[i%(if n*m=0 then(#[]:Array Value)else v.cells).size]!).toList=(List.replicate n v.cells.toList).flatten:=by
        by_cases hn:n*m=0
        ·have:n=0:=by
          rcases Nat.mul_eq_zero.1 hn with h0|h0
          ·exact h0
          ·omega
         subst this;simp
        ·simp only[hn,ig];apply iu;intro j;by_cases hj:j<n*m
         ·rw[Q7i _ (by omega) n j (by rw[b8];exact hj),b8];have hs:v.cells.size=m:=by rw[<-b8];simp
          have V:j%m<v.cells.size:=by rw[hs];exact ia _ (by omega)
          simp[hj,hs];rw[getElem!_pos v.cells (j%m) V,jg V]
         ·have e5:v.cells.size=m:=by rw[<-b8];simp
          rw[dm (by simp;omega),dm (by simp[e5];omega)]
       have e6:=Q4h J n;rw[<-g5]at e6;obtain⟨U,S,T,h3⟩:=Uj I _ _ _ _ e6 g4;have c7:U.toList.length=n*m:=by rw[dy,h3];simp
       refine⟨U,T,c7,?_⟩;have b0: ¬(n*m>2^24):=by omega
       simp only[execOp,Instr.buildSlice,Sem.run_bind,run_underlying N,dh,Eu hm,b0,ig,Sem.run_pure,i7];by_cases hn:n*m=0
       ·simp only[hn,dz]at S;simp only[hn,dz,Sem.run_bind,Sem.run_pure,dh];rw[S];simp[newRow]
       ·simp only[hn,ig]at S;simp only[hn,ig,Sem.run_bind,G,Sem.run_pure,dh];rw[S];simp[newRow]
      obtain⟨U,T,c7,a2⟩:=a2;split at h
      ·rename_i l e7;have b9:=Q1z _ _ _ e7;have key:∃arr:Array Value,0<ks.length/\l.length<=maxLen/\RowC ρ.im w ks l arr.toList/\
         (execOp e ⟨dst, .buildSlice t n parts,type,pos,after,guard⟩).run P w= .ok (.value (.slice (some ⟨w.heap.size,0,none⟩) l.length l.length)) (w.alloc (.cells arr el)):=by
        rw[b9];refine⟨U,by omega,?_,?_,a2⟩
        ·have:n<=n*m:=jm n (by omega);simp only[maxLen];omega
        ·exact Q2f n cs l _ e7 T ⟨b9,by rw[ek];exact c7⟩
       cases b7:Tu C dst n<;>rw[b7]at h
       ·exact⟨_,h,key⟩
       ·exact⟨_,h,key⟩
      ·cases a0:(Al AC.isClo cs&&Nat.beq m 1)<;>rw[a0]at h
       ·simp at h
       ·simp only[aj]at h;simp only[al]at a0;exact⟨_,h,U,T,a2⟩
     ·simp at h
   ·simp at h
  ·simp at h
 case makeSlice t len cap=>
  split at h
  ·rename_i el n c N b9 b1;obtain⟨kl,g6⟩:=Rb b9 (I len);obtain⟨kc,g7⟩:=Rb b1 (I cap);split at h
   ·rename_i i z ks hi hz g3;split at h
    ·rename_i z' g8;cases hb:(Nat.beq ks.length i.size&&Nat.ble 1 i.size&&Nat.ble 1 i.bytes)<;>rw[hb]at h
     ·simp at h
     ·simp only[aj]at h;simp only[al]at hb;have e1:=ac hb.1.1;have e2:=bc hb.1.2;have e3:=bc hb.2;cases M:decide (n=c)<;>rw[M]at h
      ·simp at h
      ·simp only[aj]at h;have c8:n=c:=by simpa using M
       subst c8;unfold JN at hz;rw[hi]at hz;dsimp only at hz;split at hz
       ·rename_i zv g9;have a0:CL (CC ρ w) z zv.cells.toList:=UF _ hz;obtain⟨f1,f2⟩:=SN g8 a0;refine⟨_,h,t,i,zv,kl,kc,N,hi,g9,e1.symm,rfl,by omega,e3,f2,f1,?_⟩;simp[execOp,g6,g7]
       ·simp at hz
    ·simp at h
   ·simp at h
  ·simp at h
 case makeFunc fn first captured=>
  split at h
  ·rename_i f;split at h
   ·rename_i fs cs b2 a1;have ha:=R6 I first.toList;have hb:=R6 I captured.toList;refine⟨_,h, .func (.func f) (first.map e) (captured.map e),by simp[execOp,Instr.makeFunc],TVR.c' ⟨_,_,rfl,?_,?_⟩⟩
    ·rw[i7];exact Qmi b2 ha.1 ha.2
    ·rw[i7];exact Qmi a1 hb.1 hb.2
   ·simp at h
  ·simp at h
 case load t a=>
  split at h
  ·rename_i g sz hg hs;have ha:=I a;split at h
   ·rename_i key off E;rw[E]at ha;have G:=ha.c;simp only[CC]at G;refine⟨_,h,t,hg,hs,?_⟩;simp[execOp,Instr.loadAt,G,Instr.sureAddr]
   ·rename_i cells sub E;rw[E]at ha;obtain⟨b,o,G,c0,a1⟩:=ha.c;split at h
    ·rename_i v h6;obtain⟨U,a6,a7⟩:=Qn4 cells b o a1;obtain⟨x,h7,h8⟩:=V2 hg hs h6 (a6.mono λ_ _ _ hh=>J7 hh) a7;refine⟨_,h,x,?_,h8⟩;simp[execOp,Instr.loadAt,G,Instr.sureAddr,h7]
    ·simp at h
   ·rename_i id idx sub E;rw[E]at ha;obtain⟨g',a3,G⟩:=ha.c;refine⟨_,h,t,g',hg,hs,a3,?_⟩;simp[execOp,Instr.loadAt,G,Instr.sureAddr]
   ·simp at h
  ·simp at h
 case store t a x=>
  split at h
  ·rename_i sz cs hs a1;cases hb:Nat.beq cs.length sz<;>rw[hb]at h
   ·simp at h
   ·simp only[aj]at h;have e1:=ac hb;subst e1;have ha:=I a;split at h
    ·rename_i key off E;rw[E]at ha;have G:=ha.c;simp only[CC]at G;refine⟨_,h,t,e x,hs,(I x).cells a1,?_⟩;simp[execOp,Instr.storeAt,G,Instr.sureAddr]
    ·rename_i id idx sub E;rw[E]at ha;obtain⟨g',a3,G⟩:=ha.c;refine⟨_,h,t,e x,g',hs,(I x).cells a1,a3,?_⟩;simp[execOp,Instr.storeAt,G,Instr.sureAddr]
    ·simp at h
  ·simp at h
 case nilCheck x=>
  have G:=I x;split at h
  ·rename_i key off E;rw[E]at G;have J:=G.c;simp only[CC]at J;exact⟨_,h,e x,by simp[execOp,J],G⟩
  ·rename_i id idx sub E;rw[E]at G;obtain⟨g',a3,J⟩:=G.c;exact⟨_,h,e x,by simp[execOp,J],G⟩
  ·rename_i cs sub E;rw[E]at G;obtain⟨b,o,J,_⟩:=G.c;exact⟨_,h,e x,by simp[execOp,J],G⟩
  ·simp at h
 case binOp e8 t x y yt=>
  have a4:=I x;have a5:=I y;split at h
  ·rename_i k a k' b hex a8;rw[hex]at a4;rw[a8]at a5;have e1:=a4.int;have e2:=a5.int;cases hk:kEq k k'<;>rw[hk]at h
   ·cases e9:NO e8<;>rw[e9]at h
    ·simp at h
    ·simp only[Bool.false_or,aj]at h;obtain⟨c,v,S,T,h3,h4,h5⟩:=Ze9 (P:=P) (ρ:=ρ) (w:=w) e9 t k k' a b _ h;refine⟨_,S,v,?_,TVR.c' (J7 T)⟩;simp[execOp,e1,e2,eqGuard_at_int,h3]
   ·simp only[Bool.true_or,aj]at h;have:=PU hk;subst this;obtain⟨c,v,S,T,h3⟩:=Ztv (P:=P) (ρ:=ρ) (w:=w) e8 t k a b _ h;refine⟨_,S,v,?_,TVR.c' (J7 T)⟩;simp[execOp,e1,e2,eqGuard_at_int,h3]
  ·rename_i a b hex a8;rw[hex]at a4;rw[a8]at a5;have e1:=a4.bool;have e2:=a5.bool;split at h
   ·rename_i N;refine⟨_,h, .bool (a==b),?_,TVR.mkBool _⟩;simp[execOp,e1,e2,eqGuard_at_bool,binOp,Op.equal,Op.maxDepth,run_equalIn_bool' w 9999 t a b N]
   ·rename_i N;refine⟨_,h, .bool (!(a==b)),?_,TVR.mkBool _⟩;simp[execOp,e1,e2,eqGuard_at_bool,binOp,Op.equal,Op.maxDepth,run_equalIn_bool' w 9999 t a b N]
   ·simp at h
  ·rename_i key off hex a8;rw[hex]at a4;rw[a8]at a5;have e1:=a4.c;have e2:=a5.c;simp only[CC]at e1;simp only[CC,CP]at e2;have e2:=e2.1;split at h
   ·rename_i el N;have hp:P.underlying t=some (.pointer (P.pointee t)):=by simp[Program.pointee,N]
    refine⟨_,h, .bool false,?_,TVR.mkBool _⟩;simp[execOp,e1,e2,eqGuard_at_pointer,run_eql_pointer_nil w t _ hp]
   ·rename_i el N;have hp:P.underlying t=some (.pointer (P.pointee t)):=by simp[Program.pointee,N]
    refine⟨_,h, .bool true,?_,TVR.mkBool _⟩;simp[execOp,e1,e2,eqGuard_at_pointer,run_neq_pointer_nil w t _ hp]
   ·simp at h
  ·rename_i xs U hex a8;rw[hex]at a4;rw[a8]at a5;obtain⟨X,e1,hX⟩:=a4.agg;obtain⟨Y,e2,hY⟩:=a5.agg;cases b0:P.eqGuardType P.depth t<;>rw[b0]at h
   ·simp only[ao]at h;have key:∀q,CY P t=some true->eqC P C.eqOk 20 t xs U=some q->(Op.equalIn 10000 t (.agg X) (.agg Y)).run P w= .ok q w:=by
     intro q hg hq;exact Q18 g1 20 10000 (by omega) t xs U q _ _ hq (by simp only[FO,hg];exact⟨X,rfl,hX⟩) (by simp only[FO,hg];exact⟨Y,rfl,hY⟩)
    split at h
    ·rename_i q hg hq;refine⟨_,h, .bool q,?_,TVR.mkBool _⟩;simp[execOp,e1,e2,run_eqGuard_agg w .eql t x y X Y b0,run_eql_struct,key q hg hq]
    ·rename_i q hg hq;refine⟨_,h, .bool (!q),?_,TVR.mkBool _⟩;simp[execOp,e1,e2,run_eqGuard_agg w .neq t x y X Y b0,run_neq_struct,key q hg hq]
    ·simp at h
   ·simp at h
  ·simp at h
 case unOp i5 t x=>
  have G:=I x;split at h
  ·rename_i k n E;rw[E]at G;have e1:=G.int;exact⟨_,h, .int k (k.wrap (0-n)),by simp[execOp,e1,Op.unary,Op.intArith],TVR.mkInt _ _⟩
  ·rename_i b E;rw[E]at G;have e1:=G.bool;exact⟨_,h, .bool (!b),by simp[execOp,e1,Op.unary],TVR.mkBool _⟩
  ·simp at h
 case convert src i4 x=>
  have G:=I x;split at h
  ·rename_i d k k' n hs M E;rw[E]at G;have e1:=G.int;refine⟨_,h, .int k (k.wrap n),?_,TVR.mkInt _ _⟩;simp[execOp,e1,convert,run_underlying hs,run_underlying M,Conv.intToInt]
  ·simp at h
 case fieldAddr t x i=>
  split at h
  ·rename_i f hf;have b2:∃fs,P.underlying t=some (.struct fs)/\fs[i]? =some f:=by
    unfold UB at hf;split at hf
    ·rename_i fs N;exact⟨fs,N,by simpa using hf⟩
    ·simp at hf
   obtain⟨fs,N,b3⟩:=b2;split at h
   ·rename_i n hn;have j1:n+1≠0:=by omega
    have G:=I x;have fp:∀(b o:Nat),(fieldPlace ⟨b,o,none⟩ f).run P w= .ok ⟨b,o+f.offset,none⟩ w:=by
     intro b o;simp[fieldPlace,Eu hn,Addr.add_lit]
    split at h
    ·rename_i key off E;rw[E]at G;have J:=G.c;simp only[CC]at J;refine⟨_,h, .pointer (some ⟨ρ.bx key,off+f.offset,none⟩),?_,TVR.c' (by simp[CC])⟩;simp[execOp,Instr.fieldAt,run_underlying N,b3,J,Instr.sureAddr,fp]
    ·rename_i id idx sub E;rw[E]at G;obtain⟨g',a3,J⟩:=G.c;refine⟨_,h, .pointer (some ⟨g',HX (ρ.rv id)+(idx*ρ.wd id+sub)+f.offset,none⟩),?_,TVR.c' ⟨g',a3,by rw[du,du]⟩⟩;simp[execOp,Instr.fieldAt,run_underlying N,b3,J,Instr.sureAddr,fp]
    ·rename_i cs sub E;rw[E]at G;obtain⟨b,o,J,S,T⟩:=G.c;refine⟨_,h, .pointer (some ⟨b,o+sub+f.offset,none⟩),?_,TVR.c' ⟨b,o,by rw[du],S,T⟩⟩;simp[execOp,Instr.fieldAt,run_underlying N,b3,J,Instr.sureAddr,fp]
    ·simp at h
   ·simp at h
  ·simp at h
 case field t x i=>
  split at h
  ·rename_i f cs hf E;have b2:∃fs,P.underlying t=some (.struct fs)/\fs[i]? =some f:=by
    unfold UB at hf;split at hf
    ·rename_i fs N;exact⟨fs,N,by simpa using hf⟩
    ·simp at hf
   obtain⟨fs,N,b3⟩:=b2;have G:=I x;rw[E]at G;obtain⟨U,J,a0⟩:=G.agg;split at h
   ·rename_i v hp;obtain⟨y,a6,a7⟩:=Q2q (P:=P) hp a0;refine⟨_,h,y,?_,a7⟩;simp[execOp,Instr.field,run_underlying N,b3,J,asAgg,a6]
   ·simp at h
  ·simp at h
 case indexAddr t x ix=>
  split at h
  ·rename_i i n el hi N;obtain⟨k,hk⟩:=Rb hi (I ix);have G:=I x;split at h
   ·rename_i m key off hm E;rw[E]at G;have J:=G.c;simp only[CC]at J;obtain⟨j,S,T,h3,h4⟩:=Ib h;refine⟨_,S, .pointer (some ⟨ρ.bx key,off+j*m,none⟩),?_,TVR.c' (by simp[CC])⟩;have V:j<n:=by omega
    simp[execOp,Instr.indexAt,run_underlying N,hk,asIntOf,J,Instr.sureAddr,T,V,Eu hm,Addr.add_lit]
   ·rename_i m id idx sub hm E;rw[E]at G;obtain⟨g',a3,J⟩:=G.c;obtain⟨j,S,T,h3,h4⟩:=Ib h;refine⟨_,S, .pointer (some ⟨g',HX (ρ.rv id)+(idx*ρ.wd id+sub)+j*m,none⟩),?_,TVR.c' ⟨g',a3,by rw[du,du]⟩⟩;have V:j<n:=by omega
    simp[execOp,Instr.indexAt,run_underlying N,hk,asIntOf,J,Instr.sureAddr,T,V,Eu hm,Addr.add_lit]
   ·rename_i m cs sub hm E;rw[E]at G;obtain⟨b,o,J,c0,a1⟩:=G.c;obtain⟨j,S,T,h3,h4⟩:=Ib h;refine⟨_,S, .pointer (some ⟨b,o+sub+j*m,none⟩),?_,TVR.c' ⟨b,o,by rw[du],c0,a1⟩⟩;have V:j<n:=by omega
    simp[execOp,Instr.indexAt,run_underlying N,hk,asIntOf,J,Instr.sureAddr,T,V,Eu hm,Addr.add_lit]
   ·simp at h
  ·rename_i i el hi N;obtain⟨k,hk⟩:=Rb hi (I ix);have G:=I x;split at h
   ·rename_i m ks l hm E;rw[E]at G;have J:=G.c;simp only[CC,CP]at J;obtain⟨ad,cap,J,c6,h9,hf⟩:=J;cases hb:Nat.beq m ks.length<;>rw[hb]at h
    ·simp at h
    ·simp only[aj]at h;have e1:=ac hb;subst e1;cases M:(decide (0<=i)&&decide (i<(l.length:Int)))<;>rw[M]at h
     ·simp at h
     ·simp only[aj]at h;simp at M;have c5:i.toNat<l.length:=by omega
      rcases hf with hf|⟨b,o,rfl,c0,i0⟩
      ·subst hf;simp at c5
      ·obtain⟨j2,a1⟩:=Qbi i0 i.toNat c5;have f0:AT ks (nth [] l i.toNat)=l[i.toNat]:=by
        rw[B7,List.getD,ai c5];exact h9 _ (bn c5)
       refine⟨_,h, .pointer (some ⟨b,o+i.toNat*ks.length+0,none⟩),?_,TVR.c' ⟨b,o+i.toNat*ks.length,rfl,c0,by rw[f0];exact a1⟩⟩;simp[execOp,Instr.indexAt,run_underlying N,hk,asIntOf,J,M,Eu hm,Addr.add_lit]
   ·rename_i m id wd n hm E;rw[E]at G;obtain⟨f3,i1,b4⟩:=G.c;cases hb:Nat.beq m wd<;>rw[hb]at h
    ·simp at h
    ·simp only[aj]at h;have e1:=ac hb;subst e1;cases M:(decide (0<=i)&&decide (i<(n:Int)))<;>rw[M]at h
     ·simp at h
     ·simp only[aj]at h;simp at M;rcases b4 with⟨_,rfl⟩|⟨g',o',c',b4⟩
      ·omega
      ·refine⟨_,h, .pointer (some ⟨g',o'+(i.toNat*ρ.wd id+0),none⟩),?_,TVR.c' ⟨g',by rw[<-f3,b4];rfl,by rw[<-f3,b4];rfl⟩⟩;simp[execOp,Instr.indexAt,run_underlying N,hk,asIntOf,b4,M,Eu hm,Addr.add_lit,i1]
   ·rename_i m key n hm E;rw[E]at G;have J:=G.c;simp only[CC]at J;cases hb:Nat.beq m 1<;>rw[hb]at h
    ·simp at h
    ·simp only[aj]at h;have e1:=ac hb;subst e1;obtain⟨j,S,T,h3,h4⟩:=Ib h;refine⟨_,S, .pointer (some ⟨ρ.bx key,j,none⟩),?_,TVR.c' (by simp[CC])⟩;have V:j<n:=by omega
     simp[execOp,Instr.indexAt,run_underlying N,hk,asIntOf,J,T,V,Eu hm,Addr.add_lit]
   ·simp at h
  ·simp at h
 case index t x ix=>
  split at h
  ·rename_i i n el cs hi N E;obtain⟨k,hk⟩:=Rb hi (I ix);have G:=I x;rw[E]at G;obtain⟨U,J,a0⟩:=G.agg;split at h
   ·rename_i m hm;obtain⟨j,S,T,h3,h4⟩:=Ib h;have V:j<n:=by omega
    split at S
    ·rename_i v hp;obtain⟨y,a6,a7⟩:=Q2q (P:=P) hp a0;refine⟨_,S,y,?_,a7⟩;simp[execOp,Instr.index,run_underlying N,hk,asIntOf,J,T,V,Eu hm,a6]
    ·simp at S
   ·simp at h
  ·simp at h
 case slice t x lo hi mx=>
  split at h
  ·rename_i _ f4 f5 el i2 i3 N;have b5:=Zcc I i2;have b6:=Zcc I i3;have G:=I x;split at h
   ·rename_i m ks l hm E;rw[E]at G;have b1:=G.c;have J:=b1;simp only[CC,CP]at J;obtain⟨ad,cap,J,c6,_⟩:=J;rw[J]at b1;cases hb:Nat.beq m ks.length<;>rw[hb]at h
    ·simp at h
    ·simp only[aj]at h;have e1:=ac hb;subst e1;have key:∀(a b:Int),f4.getD 0=a->f5.getD (l.length:Int)=b->0<=a->a<=b->b<=(l.length:Int)->JQ P ρ w e ⟨dst, .slice t x lo hi none,type,pos,after,guard⟩ (.val (.c (.vC ks ((l.take b.toNat).drop a.toNat)))):=by
      intro a b ha c9 d1 d2 d3;refine⟨_,Yt rfl N hm J c6 b5 b6 ha c9 d1 d2 d3,TVR.c' ?_⟩;exact Z02 (by omega) (by omega) b1
     split at h
     ·refine⟨_,h,?_⟩;have:=key 0 l.length rfl rfl (by omega) (by omega) (by omega);simpa using this
     ·rename_i a;cases M:(decide (0<=a)&&decide (a<=(l.length:Int)))<;>rw[M]at h
      ·simp at h
      ·simp only[aj]at h;simp only[al,da]at M;refine⟨_,h,?_⟩;have:=key a l.length rfl rfl M.1 M.2 (by omega);simpa using this
     ·rename_i b;cases M:(decide (0<=b)&&decide (b<=(l.length:Int)))<;>rw[M]at h
      ·simp at h
      ·simp only[aj]at h;simp only[al,da]at M;refine⟨_,h,?_⟩;have:=key 0 b rfl rfl (by omega) M.1 M.2;simpa using this
     ·rename_i a b;cases M:(decide (0<=a)&&decide (a<=b)&&decide (b<=(l.length:Int)))<;>rw[M]at h
      ·simp at h
      ·simp only[aj]at h;simp only[al,da]at M;exact⟨_,h,key a b rfl rfl M.1.1 M.1.2 M.2⟩
   ·rename_i m id wd n hm E;rw[E]at G;obtain⟨c1,c2,c3⟩:=G.c;split at h
    ·rename_i a;cases hb:Nat.beq m wd<;>rw[hb]at h
     ·simp at h
     ·simp only[aj]at h;have e1:=ac hb;subst e1;cases M:(decide (0<=a)&&decide (a<=(n:Int)))<;>rw[M]at h
      ·simp at h
      ·simp only[aj]at h;simp only[al,da]at M;refine⟨_,h,λad n' cap d0 c8 j3=> ?_⟩;have hn:n'=n:=by
        rcases c3 with⟨c3,c4⟩|⟨_,_,_,c3⟩
        ·rw[c1,d0]at c3;simp at c3;omega
        ·rw[c1,d0]at c3;simp at c3;exact c3.2.1
       subst hn;have a2:=Yt (P:=P) (w:=w) (e:=e) (o:=⟨dst, .slice t x lo hi none,type,pos,after,guard⟩) rfl N hm (c1.trans d0) c8 b5 b6 (l:=a) (hh':=(n':Int)) rfl rfl M.1 M.2 (bz _);rw[c2];simpa using a2
    ·simp at h
   ·rename_i m hm E;rw[E]at G;have J:=G.c;simp only[CC,CP]at J;have key:f4.getD 0=0->f5.getD ((0:Nat):Int)=0->JQ P ρ w e ⟨dst, .slice t x lo hi none,type,pos,after,guard⟩ (.val (.c .nilSl)):=by
     intro ha c9;refine⟨_,Yt rfl N hm J (db _) b5 b6 ha c9 (by omega) (by omega) (by omega),TVR.c' ?_⟩;simp[CC,CP]
    split at h
    ·exact⟨_,h,key rfl rfl⟩
    ·rename_i a;cases M:decide (a=0)<;>rw[M]at h
     ·simp at h
     ·simp only[aj]at h;simp only[da]at M;exact⟨_,h,key M rfl⟩
    ·rename_i b;cases M:decide (b=0)<;>rw[M]at h
     ·simp at h
     ·simp only[aj]at h;simp only[da]at M;exact⟨_,h,key rfl M⟩
    ·rename_i a b;cases M:(decide (a=0)&&decide (b=0))<;>rw[M]at h
     ·simp at h
     ·simp only[aj]at h;simp only[al,da]at M;exact⟨_,h,key M.1 M.2⟩
   ·simp at h
  ·simp at h
 case extract t i=>
  have G:=I t;split at h
  ·rename_i ps E;rw[E]at G;obtain⟨U,J,hp⟩:=G;split at h
   ·rename_i g cs hg;have key:∀(l:List (Bool×List AC)) (xs:List Value) (i:Nat),TP ρ w l xs->l[i]? =some (g,cs)->∃y,xs[i]? =some y/\TVR ρ w (.v g cs) y:=by
     intro l;induction l with
     |nil=>intro xs i _ hh;simp at hh
     |cons p l ih=>
      intro xs i d4 hh;cases xs with
      |nil=>exact d4.elim
      |cons y xs=>
       cases i with
       |zero=>
        simp at hh;subst hh;refine⟨y,rfl,?_⟩;have:=d4.1;cases g<;>exact this
       |succ i=>simpa using ih xs i d4.2 (by simpa using hh)
    obtain⟨y,a6,a7⟩:=key ps U.toList i hp hg;refine⟨_,h,y,?_,a7⟩;have g0:U[i]? =some y:=by simpa using a6
    simp[execOp,Instr.extract,J,g0]
   ·simp at h
  ·simp at h
 case call c=>
  have O:=R6 I c.args.toList;split at h
  ·rename_i b hb;obtain⟨cs,a1⟩:=Zwc (e:=e) (o:=⟨dst, .call c,type,pos,after,guard⟩) (c:=c) rfl hb;refine Zms (xs:=c.args.toList.map e) (by rw[O.1]) O.2 h (ty:=type) (cs:=cs) ?_;rw[a1,<-i7]
  ·rename_i f hf;cases hp:C.pure f<;>rw[hp]at h
   ·exact⟨_,h,c.args.toList.map e,O.1.symm,O.2,Qtr rfl hf (d5 f)⟩
   ·exact⟨_,h,c.args.toList.map e,O.1.symm,O.2,Qtr rfl hf (d5 f)⟩
  ·rename_i t ht;split at h
   ·rename_i f fs cs a0;have G:=I (.tmp t);rw[a0]at G;obtain⟨xs,U,J,S,T⟩:=G.c;obtain⟨q1,q2⟩:=Q23 (Qal S) (Q23 O (Qal T));cases a0:(Al AC.clOk fs&&Al AC.clOk cs)<;>rw[a0]at h
    ·simp at h
    ·exact⟨_,h,_,q1.symm,q2,Zx4 rfl ht J⟩
   ·simp at h
  ·simp at h
end
open Go.RowKit
section defs
variable (aB:List (Nat×Box)) (aC:List (Nat×Row))
def AC.wfP:AC->Prop
 | .ptr key _=>∃b,Ac aB key=some b
 |_=>True
def AC.wf:AC->Prop
 | .ptr key _=>∃b,Ac aB key=some b
 | .bsl key _=>∃b,Ac aB key=some b
 | .own id w n=>∃r,Ac aC id=some r/\r.n=n/\r.w=w
 | .rptr id idx _=>∃r,Ac aC id=some r/\idx<r.n
 | .vptr cs _=>Al AC.calm cs=true
 | .clo _ fs cs=>(∀a∈fs,AC.wfP aB a)/\∀a∈cs,AC.wfP aB a
 |_=>True
def TV.wf:TV->Prop
 | .v _ cs=>∀a∈cs,AC.wf aB aC a
 | .tup ps=>∀p∈ps,∀a∈p.2,AC.wf aB aC a
 | .dead=>True
end defs
structure Fr (F : Nat -> Prop) (w w' : World) : Prop where
 os:w'.os=w.os
 tape:w'.tape=w.tape
 output:w'.output=w.output
 size:w.heap.size<=w'.heap.size
 block:∀k,F k->w'.heap[k]? =w.heap[k]?
theorem Fr.refl (F:Nat->Prop) (w:World):Fr F w w:=⟨rfl,rfl,rfl,db _,λ_ _=>rfl⟩
theorem Fr.trans {F:Nat->Prop} {a b c:World} (h:Fr F a b) (k:Fr F b c):Fr F a c:=
 ⟨k.os.trans h.os,k.tape.trans h.tape,k.output.trans h.output,df h.size k.size,λi hi=>(k.block i hi).trans (h.block i hi)⟩
theorem Fr.mono {F E:Nat->Prop} {w w':World} (h:Fr F w w') (G:∀k,E k->F k):Fr E w w':=⟨h.os,h.tape,h.output,h.size,λk I=>h.block k (G k I)⟩
theorem Fr.drew {F:Nat->Prop} {a w:World} (h:Fr F a w):Fr F a w.drew:=⟨h.os,h.tape,h.output,h.size,h.block⟩
theorem Fr.alloc {F:Nat->Prop} {a w:World} (h:Fr F a w) (E:∀k,F k->k<w.heap.size) (o:Obj):Fr F a (w.alloc o):=
 h.trans ⟨rfl,rfl,rfl,by simp,λk G=>Below.heap_alloc _ _ _ (E k G)⟩
theorem Fr.of_below {w w':World} {F:Nat->Prop} (h:Below w.heap.size w w') (E:∀k,F k->k<w.heap.size):Fr F w w':=⟨h.os,h.tape,h.output,h.size,λk G=>h.block k (E k G)⟩
theorem Fr.grown {F:Nat->Prop} {a w w':World} {row:Option Nat} (h:Fr F a w) (E:w.grownBy w' row) (I:∀k,F k->k<w.heap.size) (J:∀k,row=some k-> ¬F k):Fr F a w':=
 h.trans ⟨E.os,E.tape,E.output,E.size,λk G=>E.block k (I k G) (λe=>J k e.symm G)⟩
structure Base where
 F:Nat->Prop
 w0:World
 I0:Nat->Prop
 K0:Nat->Option Nat
structure RelE (Z : Base) (tm : List TV) (aB : List (Nat × Box)) (aC : List (Nat × Row)) (ρ : Env) (tmps : Array Value) (w : World) : Prop where
 tl:tm.length=tmps.size
 tv:∀(i:Nat) (v:TV),tm[i]? =some v->TVR ρ w v (tmps.getD i undef)
 wt:∀v∈tm,TV.wf aB aC v
 wb:∀(k:Nat) (b:Box),Ac aB k=some b->∀a∈b.cells,AC.wf aB aC a
 bx:∀(k:Nat) (b:Box),Ac aB k=some b->∃arr:Array Value,w.heap[ρ.bx k]? =some (.cells arr b.ty (0,0))/\CL (CC ρ w) b.cells arr.toList/\ ¬Z.F (ρ.bx k)
 bi:∀(k k':Nat) (b b':Box),Ac aB k=some b->Ac aB k'=some b'->ρ.bx k=ρ.bx k'->k=k'
 ro:∀(id:Nat) (r:Row),Ac aC id=some r->0<r.w/\ρ.wd id=r.w/\(∀g,(ρ.rv id).ownBlock=some g-> ¬Z.F g)/\∃xs,E1 w r.ty r.w (ρ.rv id) r.n xs/\RowC ρ.im w r.ks r.l xs
 ri:∀(id id':Nat) (r r':Row) (g:Nat),Ac aC id=some r->Ac aC id'=some r'->(ρ.rv id).ownBlock=some g->(ρ.rv id').ownBlock=some g->id=id'
 br:∀(k:Nat) (b:Box) (id:Nat) (r:Row),Ac aB k=some b->Ac aC id=some r->(ρ.rv id).ownBlock≠some (ρ.bx k)
 ib:∀b,ρ.im b->b<w.heap.size/\(∀(k:Nat) (bo:Box),Ac aB k=some bo->ρ.bx k≠b)/\(∀(id:Nat) (r:Row),Ac aC id=some r->(ρ.rv id).ownBlock≠some b)
 fr:Fr Z.F Z.w0 w
 fs:∀k,Z.F k->k<w.heap.size
 i0:∀b,Z.I0 b->ρ.im b
 i1:∀b,ρ.im b->Z.I0 b\/ ¬Z.F b
 k0:∀k b,Z.K0 k=some b->ρ.bx k=b/\∃bo,Ac aB k=some bo
section
variable {P:Program} {C:Cfg} {ρ:Env} {w:World} {R:Type} {Z:Base} {tm:List TV} {aB:List (Nat×Box)} {aC:List (Nat×Row)} {tmps:Array Value}
theorem PY {w:World} {b:Nat} {o:Obj} (h:w.heap[b]? =some o):b<w.heap.size:=(dv.1 h).1
theorem RelE.bxlt (h:RelE Z tm aB aC ρ tmps w) {k:Nat} {b:Box} (E:Ac aB k=some b):ρ.bx k<w.heap.size:=by
 obtain⟨arr,G,_⟩:=h.bx k b E;exact PY G
theorem RelE.rwlt (h:RelE Z tm aB aC ρ tmps w) {id:Nat} {r:Row} (G:Ac aC id=some r) {g:Nat} (E:(ρ.rv id).ownBlock=some g): ¬Z.F g/\g<w.heap.size:=by
 obtain⟨_,_,h0,xs,I,_⟩:=h.ro id r G;exact⟨h0 g E,Q4o I g E⟩
theorem TVR.mono {ρ ρ':Env} {w w':World} (I:∀(a:AC) (x:Value),CC ρ w a x->CC ρ' w' a x):∀(v:TV) (x:Value),TVR ρ w v x->TVR ρ' w' v x:=by
 intro v x h;have M:∀{l xs},CL (CC ρ w) l xs->CL (CC ρ' w') l xs:=λh=>h.mono λa _ x N=>I a x N;cases v with
 |dead=>trivial
 |v g cs=>
  cases g
  ·obtain⟨a,G,E⟩:=h;exact⟨a,G,I a _ E⟩
  ·obtain⟨J,G,E⟩:=h;exact⟨J,G,M E⟩
 |tup ps=>
  obtain⟨J,G,E⟩:=h;refine⟨J,G,?_⟩;generalize J.toList=l at E;clear G;induction ps generalizing l with
  |nil=>cases l<;>first|exact E|exact E.elim
  |cons p ps O=>
   cases l with
   |nil=>exact E.elim
   |cons y l=>
    obtain⟨g,cs⟩:=p;refine⟨?_,O l E.2⟩;have:=E.1;cases g
    ·obtain⟨a,G,E⟩:=this;exact⟨a,G,I a _ E⟩
    ·obtain⟨J,G,E⟩:=this;exact⟨J,G,M E⟩
theorem TVR.mono' {ρ N:Env} {w w':World} {v:TV} (G:∀(a:AC) (x:Value),AC.wf aB aC a->CC ρ w a x->CC N w' a x) (M:TV.wf aB aC v) {x:Value} (h:TVR ρ w v x):TVR N w' v x:=by
 have T:∀{l xs},(∀a∈l,AC.wf aB aC a)->CL (CC ρ w) l xs->CL (CC N w') l xs:=λU h=>h.mono λa V x X=>G a x (U a V) X;cases v with
 |dead=>trivial
 |v g cs=>
  cases g
  ·obtain⟨a,I,E⟩:=h;subst I;exact⟨a,rfl,G a _ (M a (by simp)) E⟩
  ·obtain⟨J,I,E⟩:=h;exact⟨J,I,T M E⟩
 |tup ps=>
  obtain⟨J,I,E⟩:=h;refine⟨J,I,?_⟩;generalize J.toList=l at E;clear I;induction ps generalizing l with
  |nil=>cases l<;>first|exact E|exact E.elim
  |cons p ps Y=>
   cases l with
   |nil=>exact E.elim
   |cons y l=>
    obtain⟨g,cs⟩:=p;refine⟨?_,Y (λq hq=>M q (by simp[hq])) l E.2⟩;have:=E.1;cases g
    ·obtain⟨a,O,S⟩:=this;subst O;exact⟨a,rfl,G a _ (M (false,[a]) (by simp) a (by simp)) S⟩
    ·obtain⟨J,O,S⟩:=this;exact⟨J,O,T (M (true,cs) (by simp)) S⟩
theorem RowC.mono {im E:Nat->Prop} {w w':World} {ks:List Kd} {l:List (List AC)} {xs:List Value} (hi:∀b,im b->E b) (hb:∀b,im b->w'.heap[b]? =w.heap[b]?) (h:RowC im w ks l xs):RowC E w' ks l xs:=
 ⟨h.1,h.2.1,λi c G=>(h.2.2 i c G).mono λa _ x I=>CP.mono hi hb a x I⟩
theorem AC.agree_refl {ρ E:Env} (G:E.bx=ρ.bx) (I:E.rv=ρ.rv) (J:E.wd=ρ.wd) (a:AC):a.agree ρ E:=by
 have M:∀a:AC,a.agreeP ρ E:=by intro a;cases a<;>first|(simp only[AC.agreeP,G];done)|trivial
 cases a with
 |ptr=>simp only[AC.agree,G]
 |bsl=>simp only[AC.agree,G]
 |own=>simp only[AC.agree,I,J,and_self]
 |rptr=>simp only[AC.agree,I,J,and_self]
 |clo=>exact⟨λa _=>M a,λa _=>M a⟩
 |_=>trivial
theorem CC.keep {g:Nat} {w':World} (G: ¬ρ.im g) (hb:∀b,b≠g->w'.heap[b]? =w.heap[b]?) (a:AC) (x:Value) (h:CC ρ w a x):CC ρ w' a x:=
 CC.mono (λ_ h=>h) (λb E=>hb b (λe=>G (e▸E))) a x (AC.agree_refl rfl rfl rfl a) h
def upN {α:Type} (f:Nat->α) (k:Nat) (v:α):Nat->α:=λj=>if j=k then v else f j
theorem B0 {α:Type} (f:Nat->α) (k:Nat) (v:α):upN f k v k=v:=by simp[upN]
theorem Cs {α:Type} (f:Nat->α) (k:Nat) (v:α) {j:Nat} (h:j≠k):upN f k v j=f j:=by simp[upN,h]
theorem AC.wfP_mono {E:List (Nat×Box)} (hb:∀(k:Nat) (b:Box),Ac aB k=some b->∃b',Ac E k=some b') {a:AC} (h:AC.wfP aB a):AC.wfP E a:=by
 cases a with
 |ptr k o=>obtain⟨b,h⟩:=h;exact hb k b h
 |_=>trivial
theorem AC.wf_mono {E:List (Nat×Box)} {G:List (Nat×Row)} (hb:∀(k:Nat) (b:Box),Ac aB k=some b->∃b',Ac E k=some b')
  (S:∀(k:Nat) (r:Row),Ac aC k=some r->∃r',Ac G k=some r'/\r'.n=r.n/\r'.w=r.w) {a:AC} (h:AC.wf aB aC a):AC.wf E G a:=by
 cases a with
 |ptr k o=>obtain⟨b,h⟩:=h;exact hb k b h
 |bsl k o=>obtain⟨b,h⟩:=h;exact hb k b h
 |own id w' n=>obtain⟨r,I,J,U⟩:=h;obtain⟨r',M,N,T⟩:=S id r I;exact⟨r',M,by rw[N,J],by rw[T,U]⟩
 |rptr id i s=>obtain⟨r,I,J⟩:=h;obtain⟨r',M,N,T⟩:=S id r I;exact⟨r',M,by rw[N];exact J⟩
 |vptr=>exact h
 |clo f fs cs=>exact⟨λa O=>AC.wfP_mono hb (h.1 a O),λa O=>AC.wfP_mono hb (h.2 a O)⟩
 |_=>trivial
theorem AC.agree_of {ρ':Env} (E:∀k,(∃b,Ac aB k=some b)->ρ'.bx k=ρ.bx k) (I:∀id,(∃r,Ac aC id=some r)->ρ'.rv id=ρ.rv id/\ρ'.wd id=ρ.wd id) {a:AC} (h:AC.wf aB aC a):a.agree ρ ρ':=by
 have J:∀l:List AC,(∀a∈l,AC.wfP aB a)->∀a∈l,a.agreeP ρ ρ':=by
  intro l M a N;have:=M a N;cases a<;>first|exact E _ this|trivial
 cases a with
 |ptr k o=>exact E k h
 |bsl k o=>exact E k h
 |own id w n=>obtain⟨r,G,_⟩:=h;exact I id ⟨r,G⟩
 |rptr id i s=>obtain⟨r,G,_⟩:=h;exact I id ⟨r,G⟩
 |clo f fs cs=>exact⟨J fs h.1,J cs h.2⟩
 |_=>trivial
theorem TV.wf_mono {E:List (Nat×Box)} {G:List (Nat×Row)} (J:∀a,AC.wf aB aC a->AC.wf E G a) {v:TV} (h:TV.wf aB aC v):TV.wf E G v:=by
 cases v with
 |dead=>trivial
 |v g cs=>exact λa I=>J a (h a I)
 |tup ps=>exact λp M a I=>J a (h p M a I)
theorem RelE.new (h:RelE Z tm aB aC ρ tmps w) {d:Nat} (hd:Ac aB d=none) {ty:TypeId} {cs:List AC} {arr:Array Value} (hw:∀a∈cs,AC.wf aB aC a) (hc:CL (CC ρ w) cs arr.toList):
  RelE Z tm (ins aB d ⟨ty,cs⟩) aC {ρ with bx:=upN ρ.bx d w.heap.size} tmps (w.alloc (.cells arr ty)):=by
 have V:∀(k:Nat) (b:Box),Ac aB k=some b->Ac (ins aB d ⟨ty,cs⟩) k=some b:=by
  intro k b E;rw[Ec]
  ·exact E
  ·rintro rfl;rw[hd]at E;cases E
 have I:∀(k:Nat) (b:Box),Ac (ins aB d ⟨ty,cs⟩) k=some b->(k=d/\b=⟨ty,cs⟩)\/(k≠d/\Ac aB k=some b):=by
  intro k b E;by_cases O:k=d
  ·subst O;rw[Fk _ _ _ hd]at E;simp at E;exact .inl ⟨rfl,E.symm⟩
  ·rw[Ec _ _ _ _ O]at E;exact .inr ⟨O,E⟩
 have S:∀a,AC.wf aB aC a->AC.wf (ins aB d ⟨ty,cs⟩) aC a:=λa=>AC.wf_mono (λk b E=>⟨b,V k b E⟩) (λk r E=>⟨r,E,rfl,rfl⟩);have hold:∀b,b<w.heap.size->(w.alloc (.cells arr ty)).heap[b]? =w.heap[b]? :=λb hb=>Below.heap_alloc w _ b hb;have T:∀(a:AC) (x:Value),AC.wf aB aC a->CC ρ w a x->CC {ρ with bx:=upN ρ.bx d w.heap.size} (w.alloc (.cells arr ty)) a x:=by
  intro a x J X;refine CC.mono (ρ:=ρ) (ρ':={ρ with bx:=upN ρ.bx d w.heap.size}) (λb hb=>hb) (λb hb=>hold b (h.ib b hb).1) a x ?_ X;refine AC.agree_of (ρ:=ρ) (ρ':={ρ with bx:=upN ρ.bx d w.heap.size}) (λk a1=>Cs _ _ _ ?_) (λid _=>⟨rfl,rfl⟩) J;rintro rfl;obtain⟨b,hb⟩:=a1;rw[hd]at hb;cases hb
 refine⟨h.tl,λi v hi=>TVR.mono' T (h.wt v (cq hi)) (h.tv i v hi),λv hv=>TV.wf_mono S (h.wt v hv),?_,?_,?_,?_,h.ri,?_,?_,?_,?_,h.i0,h.i1,?_⟩
 ·intro k b E a J;rcases I k b E with⟨rfl,rfl⟩|⟨G,E⟩
  ·exact S a (hw a J)
  ·exact S a (h.wb k b E a J)
 ·intro k b E;rcases I k b E with⟨rfl,rfl⟩|⟨G,E⟩
  ·refine⟨arr,?_,hc.mono λa J x X=>T a x (hw a J) X,?_⟩
   ·show(w.alloc _).heap[upN ρ.bx k w.heap.size k]? =_;rw[B0];exact heap_alloc_new w _
   ·show¬Z.F (upN ρ.bx k w.heap.size k);rw[B0];exact λhf=>Nat.lt_irrefl _ (h.fs _ hf)
  ·obtain⟨ar,Y,h2,U⟩:=h.bx k b E;refine⟨ar,?_,h2.mono λa J x X=>T a x (h.wb k b E a J) X,?_⟩
   ·show(w.alloc _).heap[upN ρ.bx d w.heap.size k]? =_;rw[Cs _ _ _ G,hold _ (PY Y)];exact Y
   ·show¬Z.F (upN ρ.bx d w.heap.size k);rw[Cs _ _ _ G];exact U
 ·intro k k' b b' E a2 he;change upN ρ.bx d w.heap.size k=upN ρ.bx d w.heap.size k' at he;rcases I k b E with⟨e1,_⟩|⟨G,a0⟩<;>rcases I k' b' a2 with⟨e2,_⟩|⟨M,N⟩
  ·rw[e1,e2]
  ·rw[e1,B0,Cs _ _ _ M]at he;have:=h.bxlt N;omega
  ·rw[e2,B0,Cs _ _ _ G]at he;have:=h.bxlt a0;omega
  ·rw[Cs _ _ _ G,Cs _ _ _ M]at he;exact h.bi k k' b b' a0 N he
 ·intro id r hr;obtain⟨Y,h2,h0,xs,U,h4⟩:=h.ro id r hr;exact⟨Y,h2,h0,xs,Nw U (λg hg=>hold g (Q4o U g hg)),h4.mono (λb hb=>hb) (λb hb=>hold b (h.ib b hb).1)⟩
 ·intro k b id r E hr he;change (ρ.rv id).ownBlock=some (upN ρ.bx d w.heap.size k)at he;rcases I k b E with⟨rfl,rfl⟩|⟨G,E⟩
  ·rw[B0]at he;have:=(h.rwlt hr he).2;omega
  ·rw[Cs _ _ _ G]at he;exact h.br k b id r E hr he
 ·intro b hb;obtain⟨Y,h2,U⟩:=h.ib b hb;refine⟨by simp;omega,λk bo E=> ?_,U⟩;show upN ρ.bx d w.heap.size k≠b;rcases I k bo E with⟨rfl,rfl⟩|⟨G,E⟩
  ·rw[B0];omega
  ·rw[Cs _ _ _ G];exact h2 k bo E
 ·exact h.fr.alloc h.fs _
 ·intro k E;have:=h.fs k E;simp;omega
 ·intro k b E;obtain⟨q1,bo,q2⟩:=h.k0 k b E;exact⟨by show upN ρ.bx d w.heap.size k=b;rw[Cs _ _ _ (by rintro rfl;rw[hd]at q2;cases q2)];exact q1,bo,V k bo q2⟩
theorem RelE.store (h:RelE Z tm aB aC ρ tmps w) {key:Nat} {b:Box} (I:Ac aB key=some b) {cells:List AC} (hw:∀a∈cells,AC.wf aB aC a) {arr:Array Value} (hc:CL (CC ρ w) cells arr.toList):
  RelE Z tm (upd aB key ⟨b.ty,cells⟩) aC ρ tmps (w.setRow (ρ.bx key) arr):=by
 obtain⟨ar,h1,h2,h3⟩:=h.bx key b I;have Y: ¬ρ.im (ρ.bx key):=λhi=>(h.ib _ hi).2.1 key b I rfl;have hold:∀g,g≠ρ.bx key->(w.setRow (ρ.bx key) arr).heap[g]? =w.heap[g]? :=λg N=>setRow_other w _ g _ N;have S:∀(a:AC) (x:Value),CC ρ w a x->CC ρ (w.setRow (ρ.bx key) arr) a x:=λa x hx=>CC.keep Y hold a x hx;have J:∀(k:Nat) (bo:Box),Ac (upd aB key ⟨b.ty,cells⟩) k=some bo->(k=key/\bo=⟨b.ty,cells⟩)\/(k≠key/\Ac aB k=some bo):=by
  intro k bo E;by_cases G:k=key
  ·subst G;rw[Fb _ _ _ _ I]at E;simp at E;exact .inl ⟨rfl,E.symm⟩
  ·rw[DG _ _ _ _ G]at E;exact .inr ⟨G,E⟩
 have O:∀(k:Nat) (bo:Box),Ac (upd aB key ⟨b.ty,cells⟩) k=some bo->∃T,Ac aB k=some T:=by
  intro k bo E;rcases J k bo E with⟨rfl,rfl⟩|⟨_,h⟩
  ·exact⟨b,I⟩
  ·exact⟨bo,h⟩
 have U : ∀ a, AC.wf aB aC a -> AC.wf (upd aB key ⟨b.ty, cells⟩) aC a := λa => AC.wf_mono (λk bo E => by
  by_cases G:k=key
  ·subst G;exact⟨_,Fb _ _ _ _ I⟩
  ·exact⟨bo,by rw[DG _ _ _ _ G];exact E⟩) (λk r I=>⟨r,I,rfl,rfl⟩)
 refine⟨h.tl,λi v hi=>TVR.mono S v _ (h.tv i v hi),λv hv=>TV.wf_mono U (h.wt v hv),?_,?_,?_,?_,h.ri,?_,?_,?_,?_,h.i0,h.i1,?_⟩
 ·intro k bo E a ha;rcases J k bo E with⟨rfl,rfl⟩|⟨a0,E⟩
  ·exact U a (hw a ha)
  ·exact U a (h.wb k bo E a ha)
 ·intro k bo E;rcases J k bo E with⟨rfl,rfl⟩|⟨a0,E⟩
  ·exact⟨arr,setRow_heap w _ ar _ b.ty _ h1,hc.mono λa _ x hx=>S a x hx,h3⟩
  ·obtain⟨a1,V,X,q3⟩:=h.bx k bo E;refine⟨a1,?_,X.mono λa _ x hx=>S a x hx,q3⟩;rw[hold _ (λe=>a0 (h.bi k key bo b E I e))];exact V
 ·intro k k' bo T M a2 he;obtain⟨_,p1⟩:=O k bo M;obtain⟨_,p2⟩:=O k' T a2;exact h.bi k k' _ _ p1 p2 he
 ·intro id r hr;obtain⟨V,X,q0,xs,q3,q4⟩:=h.ro id r hr;exact⟨V,X,q0,xs,Nw q3 (λg N=>hold g (λe=>h.br key b id r I hr (by rw[N,e]))),q4.mono (λ_ hb=>hb) (λg N=>hold g (λe=>Y (e▸N)))⟩
 ·intro k bo id r M hr;obtain⟨_,p1⟩:=O k bo M;exact h.br k _ id r p1 hr
 ·intro g N;obtain⟨V,X,q3⟩:=h.ib g N;exact⟨by simpa using V,λk bo M=>by obtain⟨_,p1⟩:=O k bo M;exact X k _ p1,q3⟩
 ·exact h.fr.trans ⟨rfl,rfl,rfl,by simp,λg N=>hold g (λe=>h3 (e▸N))⟩
 ·intro k I;simpa using h.fs k I
 ·intro k b' E;obtain⟨V,bo,X⟩:=h.k0 k b' E;refine⟨V,?_⟩;by_cases G:k=key
  ·subst G;exact⟨_,Fb _ _ _ _ I⟩
  ·exact⟨bo,by rw[DG _ _ _ _ G];exact X⟩
theorem RelE.addRow (h:RelE Z tm aB aC ρ tmps w) {d:Nat} (hd:Ac aC d=none) {r:Row} {v':Value} {xs:List Value} {w':World} (hb:Below w.heap.size w w')
  (hw:0<r.w) (Y:E1 w' r.ty r.w v' r.n xs) (a0:RowC ρ.im w' r.ks r.l xs) (E:∀g,v'.ownBlock=some g->w.heap.size<=g):
  RelE Z tm aB (ins aC d r) {ρ with rv:=upN ρ.rv d v',wd:=upN ρ.wd d r.w} tmps w':=by
 have a3:∀(k:Nat) (q:Row),Ac aC k=some q->Ac (ins aC d r) k=some q:=by
  intro k q G;rw[Ec]
  ·exact G
  ·rintro rfl;rw[hd]at G;cases G
 have J:∀(k:Nat) (q:Row),Ac (ins aC d r) k=some q->(k=d/\q=r)\/(k≠d/\Ac aC k=some q):=by
  intro k q G;by_cases V:k=d
  ·subst V;rw[Fk _ _ _ hd]at G;simp at G;exact .inl ⟨rfl,G.symm⟩
  ·rw[Ec _ _ _ _ V]at G;exact .inr ⟨V,G⟩
 have a1:∀a,AC.wf aB aC a->AC.wf aB (ins aC d r) a:=λa=>AC.wf_mono (λk b G=>⟨b,G⟩) (λk q G=>⟨q,a3 k q G,rfl,rfl⟩);have hold:∀b,b<w.heap.size->w'.heap[b]? =w.heap[b]? :=λb a4=>hb.block b a4;have a2:∀(a:AC) (x:Value),AC.wf aB aC a->CC ρ w a x->CC {ρ with rv:=upN ρ.rv d v',wd:=upN ρ.wd d r.w} w' a x:=by
  intro a x ha hx;refine CC.mono (ρ:=ρ) (ρ':={ρ with rv:=upN ρ.rv d v',wd:=upN ρ.wd d r.w}) (λb hb=>hb) (λb hb=>hold b (h.ib b hb).1) a x ?_ hx;refine AC.agree_of (ρ:=ρ) (ρ':={ρ with rv:=upN ρ.rv d v',wd:=upN ρ.wd d r.w}) (λk _=>rfl) (λid ⟨q,N⟩=> ?_) ha;have:id≠d:=by rintro rfl;rw[hd]at N;cases N
  exact⟨Cs _ _ _ this,Cs _ _ _ this⟩
 refine⟨h.tl,λi v hi=>TVR.mono' a2 (h.wt v (cq hi)) (h.tv i v hi),λv hv=>TV.wf_mono a1 (h.wt v hv),λk b G a ha=>a1 a (h.wb k b G a ha),?_,h.bi,?_,?_,?_,?_,?_,?_,h.i0,h.i1,λk b G=>h.k0 k b G⟩
 ·intro k b G;obtain⟨ar,X,h2,h3⟩:=h.bx k b G;exact⟨ar,by rw[hold _ (PY X)];exact X,h2.mono λa ha x hx=>a2 a x (h.wb k b G a ha) hx,h3⟩
 ·intro id q N;rcases J id q N with⟨e1,e2⟩|⟨I,N⟩
  ·subst e1 e2;refine⟨hw,B0 _ _ _,?_,xs,?_,a0⟩
   ·intro g O hf;change (upN ρ.rv id v' id).ownBlock=some g at O;rw[B0]at O;exact Nat.lt_irrefl _ (gf (h.fs g hf) (E g O))
   show E1 w' q.ty q.w (upN ρ.rv id v' id) q.n xs;rw[B0];exact Y
  ·obtain⟨X,h2,h0,ys,h3,h4⟩:=h.ro id q N;refine⟨X,by show upN ρ.wd d r.w id=_;rw[Cs _ _ _ I];exact h2,by show∀g,(upN ρ.rv d v' id).ownBlock=some g->_;rw[Cs _ _ _ I];exact h0,ys,?_,h4.mono (λb hb=>hb) (λb hb=>hold b (h.ib b hb).1)⟩;show E1 w' q.ty q.w (upN ρ.rv d v' id) q.n ys;rw[Cs _ _ _ I];exact Nw h3 λg O=>hold g (h.rwlt N O).2
 ·intro id id' q q' g N a5 O M;change (upN ρ.rv d v' id).ownBlock=_ at O;change (upN ρ.rv d v' id').ownBlock=_ at M;rcases J id q N with⟨e1,_⟩|⟨I,S⟩<;>rcases J id' q' a5 with⟨e2,_⟩|⟨T,U⟩
  ·rw[e1,e2]
  ·rw[e1,B0]at O;rw[Cs _ _ _ T]at M;have:=E g O;have:=(h.rwlt U M).2;omega
  ·rw[e2,B0]at M;rw[Cs _ _ _ I]at O;have:=E g M;have:=(h.rwlt S O).2;omega
  ·rw[Cs _ _ _ I]at O;rw[Cs _ _ _ T]at M;exact h.ri id id' q q' g S U O M
 ·intro k b id q G N he;change (upN ρ.rv d v' id).ownBlock=some (ρ.bx k)at he;rcases J id q N with⟨e1,_⟩|⟨I,S⟩
  ·rw[e1,B0]at he;have:=E _ he;have:=h.bxlt G;omega
  ·rw[Cs _ _ _ I]at he;exact h.br k b id q G S he
 ·intro b a6;obtain⟨X,h2,h3⟩:=h.ib b a6;refine⟨gf X hb.size,h2,λid q N he=> ?_⟩;change (upN ρ.rv d v' id).ownBlock=some b at he;rcases J id q N with⟨e1,_⟩|⟨I,S⟩
  ·rw[e1,B0]at he;have:=E _ he;omega
  ·rw[Cs _ _ _ I]at he;exact h3 id q S he
 ·exact h.fr.trans (Fr.of_below hb h.fs)
 ·exact λk G=>gf (h.fs k G) hb.size
def AC.free (id:Nat):AC->Prop
 | .own j _ _=>j≠id
 | .rptr j _ _=>j≠id
 |_=>True
def TV.free (id:Nat):TV->Prop
 | .v _ cs=>∀a∈cs,AC.free id a
 | .tup ps=>∀p∈ps,∀a∈p.2,AC.free id a
 | .dead=>True
theorem TVR.mono2 {ρ N:Env} {w w':World} {v:TV} {Q:AC->Prop} (G:∀(a:AC) (x:Value),Q a->CC ρ w a x->CC N w' a x)
  (M:match v with| .v _ cs=>∀a∈cs,Q a| .tup ps=>∀p∈ps,∀a∈p.2,Q a| .dead=>True) {x:Value} (h:TVR ρ w v x):TVR N w' v x:=by
 have T:∀{l xs},(∀a∈l,Q a)->CL (CC ρ w) l xs->CL (CC N w') l xs:=λU h=>h.mono λa V x X=>G a x (U a V) X;cases v with
 |dead=>trivial
 |v g cs=>
  cases g
  ·obtain⟨a,I,E⟩:=h;subst I;exact⟨a,rfl,G a _ (M a (by simp)) E⟩
  ·obtain⟨J,I,E⟩:=h;exact⟨J,I,T M E⟩
 |tup ps=>
  obtain⟨J,I,E⟩:=h;refine⟨J,I,?_⟩;generalize J.toList=l at E;clear I;induction ps generalizing l with
  |nil=>cases l<;>first|exact E|exact E.elim
  |cons p ps Y=>
   cases l with
   |nil=>exact E.elim
   |cons y l=>
    obtain⟨g,cs⟩:=p;refine⟨?_,Y (λq hq=>M q (by simp[hq])) l E.2⟩;have:=E.1;cases g
    ·obtain⟨a,O,S⟩:=this;subst O;exact⟨a,rfl,G a _ (M (false,[a]) (by simp) a (by simp)) S⟩
    ·obtain⟨J,O,S⟩:=this;exact⟨J,O,T (M (true,cs) (by simp)) S⟩
theorem RelE.turnRow (h:RelE Z tm aB aC ρ tmps w) {id:Nat} {r:Row} (E:Ac aC id=some r) {r':Row} {v':Value} {xs:List Value} {w':World} (hg:w.grownBy w' (ρ.rv id).ownBlock)
  (hw:r'.w=r.w) (a6:E1 w' r'.ty r'.w v' r'.n xs) (a7:RowC ρ.im w' r'.ks r'.l xs) (a1:v'.ownBlock=(ρ.rv id).ownBlock\/∀g,v'.ownBlock=some g->w.heap.size<=g)
  (a8:(v'=ρ.rv id/\r'.n=r.n)\/((∀v∈tm,TV.free id v)/\∀(k:Nat) (b:Box),Ac aB k=some b->∀a∈b.cells,AC.free id a)):
  RelE Z tm aB (upd aC id r') {ρ with rv:=upN ρ.rv id v'} tmps w':=by
 have S:∀(k:Nat) (q:Row),Ac (upd aC id r') k=some q->(k=id/\q=r')\/(k≠id/\Ac aC k=some q):=by
  intro k q J;by_cases a4:k=id
  ·subst a4;rw[Fb _ _ _ _ E]at J;simp at J;exact .inl ⟨rfl,J.symm⟩
  ·rw[DG _ _ _ _ a4]at J;exact .inr ⟨a4,J⟩
 have b3:∀b,ρ.im b->some b≠(ρ.rv id).ownBlock:=λb hb e=>(h.ib b hb).2.2 id r E e.symm;have a2:∀b,ρ.im b->w'.heap[b]? =w.heap[b]? :=λb hb=>hg.block b (h.ib b hb).1 (b3 b hb)
 let Q:AC->Prop:=λa=>AC.wf aB aC a/\((v'=ρ.rv id/\r'.n=r.n)\/AC.free id a)
 have a5:∀a,Q a->AC.wf aB (upd aC id r') a:=by
  rintro a ⟨M,V⟩;cases a with
  |ptr=>exact M
  |own j w1 n1=>
   obtain⟨q,Y,q2,q3⟩:=M;by_cases hj:j=id
   ·subst hj;rcases V with⟨_,O⟩|hf
    ·rw[E]at Y;simp at Y;subst Y;exact⟨r',Fb _ _ _ _ E,by rw[O,q2],by rw[hw,q3]⟩
    ·exact absurd rfl hf
   ·exact⟨q,by rw[DG _ _ _ _ hj];exact Y,q2,q3⟩
  |rptr j i1 s1=>
   obtain⟨q,Y,q2⟩:=M;by_cases hj:j=id
   ·subst hj;rcases V with⟨_,O⟩|hf
    ·rw[E]at Y;simp at Y;subst Y;exact⟨r',Fb _ _ _ _ E,by rw[O];exact q2⟩
    ·exact absurd rfl hf
   ·exact⟨q,by rw[DG _ _ _ _ hj];exact Y,q2⟩
  |vptr=>exact M
  |clo=>exact M
  |_=>trivial
 have a9:∀(a:AC) (x:Value),Q a->CC ρ w a x->CC {ρ with rv:=upN ρ.rv id v'} w' a x:=by
  rintro a x ⟨_,V⟩ hx;refine CC.mono (ρ:=ρ) (ρ':={ρ with rv:=upN ρ.rv id v'}) (λb hb=>hb) a2 a x ?_ hx;have key:∀j,((v'=ρ.rv id/\r'.n=r.n)\/j≠id)->upN ρ.rv id v' j=ρ.rv j:=by
   intro j hj;by_cases b0:j=id
   ·subst b0;rcases hj with⟨e,_⟩|hf
    ·rw[B0,e]
    ·exact absurd rfl hf
   ·exact Cs _ _ _ b0
  cases a with
  |own j _ _=>exact⟨key j V,rfl⟩
  |rptr j _ _=>exact⟨key j V,rfl⟩
  |ptr=>rfl
  |clo f fs cs=>exact⟨λa _=>by cases a<;>first|rfl|trivial,λa _=>by cases a<;>first|rfl|trivial⟩
  |_=>trivial
 have b1:∀v∈tm,match v with| .v _ cs=>∀a∈cs,Q a| .tup ps=>∀p∈ps,∀a∈p.2,Q a| .dead=>True:=by
  intro v hv;have h1:=h.wt v hv;have h2:(v'=ρ.rv id/\r'.n=r.n)\/TV.free id v:=Ra a8 (λx=>x) λx=>x.1 v hv;cases v with
  |dead=>trivial
  |v g cs=>exact λa M=>⟨h1 a M,Ra h2 (λx=>x) λx=>x a M⟩
  |tup ps=>exact λp hp a M=>⟨h1 p hp a M,Ra h2 (λx=>x) λx=>x p hp a M⟩
 have b2:∀(k:Nat) (b:Box),Ac aB k=some b->∀a∈b.cells,Q a:=λk b J a M=>⟨h.wb k b J a M,Ra a8 (λx=>x) λx=>x.2 k b J a M⟩;have T:∀g,v'.ownBlock=some g->(ρ.rv id).ownBlock=some g\/w.heap.size<=g:=by
  intro g e;rcases a1 with hp|hp
  ·rw[hp]at e;exact .inl e
  ·exact .inr (hp g e)
 refine⟨h.tl,λi v hi=>TVR.mono2 a9 (b1 v (cq hi)) (h.tv i v hi),λv hv=> ?_,λk b J a M=>a5 a (b2 k b J a M),?_,h.bi,?_,?_,?_,?_,?_,?_,h.i0,h.i1,λk b J=>h.k0 k b J⟩
 ·have:=b1 v hv;cases v with
  |dead=>trivial
  |v g cs=>exact λa M=>a5 a (this a M)
  |tup ps=>exact λp hp a M=>a5 a (this p hp a M)
 ·intro k b J;obtain⟨ar,h1,h2,h3⟩:=h.bx k b J;refine⟨ar,?_,h2.mono λa M x hx=>a9 a x (b2 k b J a M) hx,h3⟩;rw[hg.block _ (PY h1) (λe=>h.br k b id r J E e.symm)];exact h1
 ·intro j q V;rcases S j q V with⟨e1,e2⟩|⟨N,I⟩
  ·subst e1 e2;obtain⟨Y,q2,q0,_⟩:=h.ro j r E;refine⟨by rw[hw];exact Y,by rw[hw];exact q2,?_,xs,?_,a7⟩
   ·intro g X hf;change (upN ρ.rv j v' j).ownBlock=some g at X;rw[B0]at X;rcases T g X with O|O
    ·exact q0 g O hf
    ·exact Nat.lt_irrefl _ (gf (h.fs g hf) O)
   show E1 w' q.ty q.w (upN ρ.rv j v' j) q.n xs;rw[B0];exact a6
  ·obtain⟨h1,h2,h0,ys,h3,h4⟩:=h.ro j q I;refine⟨h1,h2,by show∀g,(upN ρ.rv id v' j).ownBlock=some g->_;rw[Cs _ _ _ N];exact h0,ys,?_,h4.mono (λb hb=>hb) a2⟩;show E1 w' q.ty q.w (upN ρ.rv id v' j) q.n ys;rw[Cs _ _ _ N];exact Nw h3 λg X=>hg.block g (h.rwlt I X).2 (λe=>N (h.ri j id q r g I E X e.symm))
 ·intro j j' q q' g V b4 U G;change (upN ρ.rv id v' j).ownBlock=_ at U;change (upN ρ.rv id v' j').ownBlock=_ at G;rcases S j q V with⟨e1,_⟩|⟨N,I⟩<;>rcases S j' q' b4 with⟨e2,_⟩|⟨a3,a0⟩
  ·rw[e1,e2]
  ·rw[e1,B0]at U;rw[Cs _ _ _ a3]at G;rcases T g U with O|O
   ·rw[e1];exact(h.ri j' id q' r g a0 E G O).symm
   ·have:=(h.rwlt a0 G).2;omega
  ·rw[e2,B0]at G;rw[Cs _ _ _ N]at U;rcases T g G with O|O
   ·rw[e2];exact h.ri j id q r g I E U O
   ·have:=(h.rwlt I U).2;omega
  ·rw[Cs _ _ _ N]at U;rw[Cs _ _ _ a3]at G;exact h.ri j j' q q' g I a0 U G
 ·intro k b j q J V he;change (upN ρ.rv id v' j).ownBlock=some (ρ.bx k)at he;rcases S j q V with⟨e1,_⟩|⟨N,I⟩
  ·rw[e1,B0]at he;rcases T _ he with O|O
   ·exact h.br k b id r J E O
   ·have:=h.bxlt J;omega
  ·rw[Cs _ _ _ N]at he;exact h.br k b j q J I he
 ·intro b b5;obtain⟨h1,h2,h3⟩:=h.ib b b5;refine⟨gf h1 hg.size,h2,λj q V he=> ?_⟩;change (upN ρ.rv id v' j).ownBlock=some b at he;rcases S j q V with⟨e1,_⟩|⟨N,I⟩
  ·rw[e1,B0]at he;rcases T _ he with O|O
   ·exact h3 id r E O
   ·omega
  ·rw[Cs _ _ _ N]at he;exact h3 j q I he
 ·refine h.fr.grown hg h.fs λg e=>(h.rwlt E e).1
 ·exact λk J=>gf (h.fs k J) hg.size
end
open Go.RowKit
def FA (F:Nat->Prop) (w:World) (ρ:Env) (aB:List (Nat×Box)):Base:=⟨F,w,ρ.im,λk=>(Ac aB k).map λ_=>ρ.bx k⟩
def PCallM (P:Program) (f:FuncId) (args:List TV) (mem:Mem) (v:TV) (mem':Mem):Prop:=
 ∀(F:Nat->Prop) (w:World) (ρ:Env) (xs:List Value),RelE (FA F w ρ mem.aB) args mem.aB mem.aC ρ xs.toArray w->
  Calls P f xs.toArray w λe w'=>∃(x:Value) (E:Env),e= .returned x/\RelE (FA F w ρ mem.aB) [v] mem'.aB mem'.aC E #[x] w'
def QW (P:Program) (f:FuncId):Prop:=∃fn,P.funcs[f]? =some fn/\(fn.name== "runtime.NumGoroutine")=false/\fn.body.isNone=false
def CallsX (P:Program) (f:FuncId) (xs:Array Value) (w:World) (R:Ending->World->Prop):Prop:=
 (QW P f/\Calls P f xs w R)\/∃x w',(callFunc f xs).run P w= .ok (.value x) w'/\R (.returned x) w'
theorem CallsX.mono {P:Program} {f:FuncId} {xs:Array Value} {w:World} {R R':Ending->World->Prop} (h:CallsX P f xs w R) (I:∀e w',R e w'->R' e w'):CallsX P f xs w R':=by
 rcases h with⟨E,G⟩|⟨x,w',E,G⟩
 ·exact .inl ⟨E,G.mono I⟩
 ·exact .inr ⟨x,w',E,I _ _ G⟩
def Qgo (P:Program) (f:FuncId) (args:List TV) (mem:Mem) (v:TV) (mem':Mem):Prop:=
 ∀(F:Nat->Prop) (w:World) (ρ:Env) (xs:List Value),RelE (FA F w ρ mem.aB) args mem.aB mem.aC ρ xs.toArray w->
  CallsX P f xs.toArray w λe w'=>∃(x:Value) (E:Env),e= .returned x/\RelE (FA F w ρ mem.aB) [v] mem'.aB mem'.aC E #[x] w'
theorem PCallM.x {P:Program} {f:FuncId} {args:List TV} {mem:Mem} {v:TV} {mem':Mem} (h:PCallM P f args mem v mem') (E:QW P f):Qgo P f args mem v mem':=
 λF w ρ xs G=> .inl ⟨E,h F w ρ xs G⟩
structure SpecRight (P : Program) (f : FuncId) (g : Spec) : Prop where
 nat:∀(R:Type) (args:List TV) (mem:Mem) (K:TV->Mem->Option R),g R args mem K=(g (TV×Mem) args mem λv m=>some (v,m)).bind λp=>K p.1 p.2
 ok:∀(args:List TV) (mem:Mem) (v:TV) (mem':Mem),(g (TV×Mem) args mem λv m=>some (v,m))=some (v,mem')->Qgo P f args mem v mem'
def U3 (g:Spec):Prop:=∀(args:List TV) (mem:Mem) (v:TV) (m:Mem),(g (TV×Mem) args mem λv m=>some (v,m))=some (v,m)->m=mem
def Ai (P:Program) (C:Cfg):Prop:=
 (∀(f:FuncId) (g:Spec),C.spec f=some g->SpecRight P f g)/\∀(f:FuncId) (g:Spec),C.spec f=some g->C.ro f=true->U3 g
theorem SpecRight.run {P:Program} {f:FuncId} {g:Spec} (h:SpecRight P f g) {R:Type} {args:List TV} {mem:Mem} {K:TV->Mem->Option R} {r:R} (E:g R args mem K=some r):
  ∃v mem',K v mem'=some r/\Qgo P f args mem v mem':=by
 rw[h.nat]at E;simp only[dl]at E;obtain⟨⟨v,m⟩,G,I⟩:=E;exact⟨v,m,I,h.ok args mem v m G⟩
def Prim.wf (aB:List (Nat×Box)) (aC:List (Nat×Row)):Prim->Prop
 | .val v=>TV.wf aB aC v
 | .load _ _ key _=>∃b,Ac aB key=some b
 | .store key _ cs=>(∃b,Ac aB key=some b)/\∀a∈cs,AC.wf aB aC a
 | .new _ cs=>∀a∈cs,AC.wf aB aC a
 | .newS _ _ cs=>∀a∈cs,AC.wf aB aC a
 | .rload _ _ id idx _=>∃r,Ac aC id=some r/\idx<r.n
 | .rstore id idx _ _=>∃r,Ac aC id=some r/\idx<r.n
 | .append _ _ _ s x=>AC.wf aB aC s/\AC.wf aB aC x
 | .appD _ _ _ s x=>AC.wf aB aC s/\AC.wf aB aC x
 | .call _ args=>∀v∈args,TV.wf aB aC v
 | .callM _ args=>∀v∈args,TV.wf aB aC v
 | .callF _ args=>∀v∈args,TV.wf aB aC v
 | .callD _ args=>∀v∈args,TV.wf aB aC v
 |_=>True
section
variable {P:Program} {C:Cfg} {ρ:Env} {w:World} {R:Type} {Z:Base} {tm:List TV} {aB:List (Nat×Box)} {aC:List (Nat×Row)} {tmps:Array Value}
theorem GO {α β:Type} (g:α->β):∀(l:List (Nat×α)) (k:Nat),Ac (l.map λp=>(p.1,g p.2)) k=(Ac l k).map g
 |[],_=>rfl
 |(j,b)::l,k=>by
  simp only[bt,Ac,GO g l k];cases Nat.beq j k<;>rfl
theorem AC.kill_wf {id:Nat} {a:AC} (h:AC.wf aB aC a):AC.wf aB aC (a.kill id):=by
 cases a with
 |own j w n=>simp only[AC.kill];cases Nat.beq j id<;>first|exact h|trivial
 |rptr j i s=>simp only[AC.kill];cases Nat.beq j id<;>first|exact h|trivial
 |_=>exact h
theorem AC.kill_free (id:Nat) (a:AC):AC.free id (a.kill id):=by
 cases a with
 |own j w n=>
  simp only[AC.kill];cases hb:Nat.beq j id
  ·exact λe=>by rw[e]at hb;simp at hb
  ·trivial
 |rptr j i s=>
  simp only[AC.kill];cases hb:Nat.beq j id
  ·exact λe=>by rw[e]at hb;simp at hb
  ·trivial
 |_=>trivial
theorem AC.kill_CC {id:Nat} {a:AC} {x:Value} (h:CC ρ w a x):CC ρ w (a.kill id) x:=by
 cases a with
 |own j w n=>simp only[AC.kill];cases Nat.beq j id<;>first|exact h|exact h.one
 |rptr j i s=>simp only[AC.kill];cases Nat.beq j id<;>first|exact h|exact h.one
 |_=>exact h
theorem CL.kill {id:Nat}:∀{l:List AC} {xs:List Value},CL (CC ρ w) l xs->CL (CC ρ w) (l.map (AC.kill id)) xs
 |[],[],_=>trivial
 |_::_,_::_,h=>⟨AC.kill_CC h.1,CL.kill h.2⟩
 |[],_::_,h=>h.elim
 |_::_,[],h=>h.elim
theorem TV.kill_TVR {id:Nat} {v:TV} {x:Value} (h:TVR ρ w v x):TVR ρ w (v.kill id) x:=by
 cases v with
 |dead=>trivial
 |tup ps=>
  obtain⟨G,rfl,E⟩:=h;refine⟨G,rfl,?_⟩;generalize G.toList=l at E;induction ps generalizing l with
  |nil=>cases l<;>first|exact E|exact E.elim
  |cons p ps M=>
   cases l with
   |nil=>exact E.elim
   |cons y l=>
    obtain⟨g,cs⟩:=p;refine⟨?_,M l E.2⟩;have:=E.1;cases g
    ·obtain⟨a,I,J⟩:=this;subst I;exact⟨_,rfl,AC.kill_CC J⟩
    ·obtain⟨N,I,O⟩:=this;exact⟨N,I,O.kill⟩
 |v g cs=>
  cases g
  ·obtain⟨a,rfl,J⟩:=h;exact⟨_,rfl,AC.kill_CC J⟩
  ·obtain⟨G,rfl,E⟩:=h;exact⟨G,rfl,E.kill⟩
theorem TV.kill_wf {id:Nat} {v:TV} (h:TV.wf aB aC v):TV.wf aB aC (v.kill id):=by
 cases v with
 |v g cs=>
  intro a E;simp only[ba]at E;obtain⟨b,hb,rfl⟩:=E;exact AC.kill_wf (h b hb)
 |tup ps=>
  intro p G a E;simp only[ba]at G;obtain⟨q,I,rfl⟩:=G;simp only[ba]at E;obtain⟨b,hb,rfl⟩:=E;exact AC.kill_wf (h q I b hb)
 |_=>trivial
theorem TV.kill_free (id:Nat) (v:TV):TV.free id (v.kill id):=by
 cases v with
 |v g cs=>
  intro a E;simp only[ba]at E;obtain⟨b,hb,rfl⟩:=E;exact AC.kill_free id b
 |tup ps=>
  intro p G a E;simp only[ba]at G;obtain⟨q,I,rfl⟩:=G;simp only[ba]at E;obtain⟨b,hb,rfl⟩:=E;exact AC.kill_free id b
 |_=>trivial
theorem RelE.kill (h:RelE Z tm aB aC ρ tmps w) (id:Nat):
  RelE Z (tm.map (TV.kill id)) (aB.map λp=>(p.1,p.2.kill id)) aC ρ tmps w:=by
 have I:∀k,Ac (aB.map λp=>(p.1,p.2.kill id)) k=(Ac aB k).map (Box.kill id):=λk=>GO (Box.kill id) aB k;have G:∀(k:Nat) (b:Box),Ac (aB.map λp=>(p.1,p.2.kill id)) k=some b->∃b',Ac aB k=some b'/\b=b'.kill id:=by
  intro k b E;rw[I]at E;cases V:Ac aB k with
  |none=>rw[V]at E;simp at E
  |some b'=>rw[V]at E;simp at E;exact⟨b',rfl,E.symm⟩
 have M:∀a,AC.wf aB aC a->AC.wf (aB.map λp=>(p.1,p.2.kill id)) aC a:=λa=>AC.wf_mono (λk b E=>⟨b.kill id,by rw[I,E];rfl⟩) (λk r E=>⟨r,E,rfl,rfl⟩);refine⟨by simpa using h.tl,?_,?_,?_,?_,?_,h.ro,h.ri,?_,?_,h.fr,h.fs,h.i0,h.i1,?_⟩
 ·intro i v hi;simp only[fo,cd]at hi;obtain⟨u,O,rfl⟩:=hi;exact TV.kill_TVR (h.tv i u O)
 ·intro v X;simp only[ba]at X;obtain⟨u,O,rfl⟩:=X;exact TV.wf_mono M (TV.kill_wf (h.wt u O))
 ·intro k b E a Y;obtain⟨b',J,rfl⟩:=G k b E;simp only[Box.kill,ba]at Y;obtain⟨c,hc,rfl⟩:=Y;exact M _ (AC.kill_wf (h.wb k b' J c hc))
 ·intro k b E;obtain⟨b',J,rfl⟩:=G k b E;obtain⟨arr,h1,h2,h3⟩:=h.bx k b' J;exact⟨arr,h1,h2.kill,h3⟩
 ·intro k k' b b' E S;obtain⟨_,N,_⟩:=G k b E;obtain⟨_,p2,_⟩:=G k' b' S;exact h.bi k k' _ _ N p2
 ·intro k b id' r E hr;obtain⟨_,N,_⟩:=G k b E;exact h.br k _ id' r N hr
 ·intro b hb;obtain⟨T,U,q3⟩:=h.ib b hb;refine⟨T,λk bo E=> ?_,q3⟩;obtain⟨_,N,_⟩:=G k bo E;exact U k _ N
 ·intro k b E;obtain⟨T,bo,U⟩:=h.k0 k b E;exact⟨T,bo.kill id,by rw[I,U];rfl⟩
theorem Zyl {im:Nat->Prop} {ks:List Kd} {b o:Nat}:∀(l:List (List AC)),(∀c∈l,AT ks c=c)->CPss im w ks.length l b o->
  ∃G,RowC im w ks l G/\R2 w b o G:=by
 intro l N h;induction l generalizing o with
 |nil=>exact⟨[],⟨by simp,by simp,λi c hi=>by simp at hi⟩,λj y h=>by simp at h⟩
 |cons c l S=>
  rw[CPss]at h;obtain⟨G,⟨T,h2,U⟩,V⟩:=S (λc X=>N c (by simp[X])) h.2;obtain⟨I,O,Y⟩:=Qn4 _ _ _ h.1.2;have E:I.length=ks.length:=by rw[<-O.length];exact h.1.1
  refine⟨I++G,⟨by rw[ay,T,E,bj,dt,gy,kf],N,λi c' hi=> ?_⟩,λj y J=> ?_⟩
  ·cases i with
   |zero=>
    simp at hi;subst hi;have:cut (I++G) (0*ks.length) ks.length=I:=by
     simp only[cut,ja,f9];rw[<-E,List.take_left'];rfl
    rw[this];exact O
   |succ i=>
    have:=U i c' (by simpa using hi);have e:cut (I++G) ((i+1)*ks.length) ks.length=cut G (i*ks.length) ks.length:=by
     simp only[cut];rw[dt,gy,List.drop_append,kq (by omega),bf,E,Nat.add_sub_cancel]
    rw[e];exact this
  ·rw[gz]at J;split at J
   ·exact Y j y J
   ·rename_i M;have:=V (j-I.length) y J;rw[E]at this M
    rwa [show o+ks.length+(j-ks.length)=o+j from by omega]at this
theorem ZB {im:Nat->Prop} {ks:List Kd} {l:List (List AC)} {xs:List Value} {v:Value} {e:TypeId} (G:E1 w e ks.length v l.length xs) (E:RowC im w ks l xs)
  (M:∀g,v.ownBlock=some g->im g):CP im w (.vC ks l) v:=by
 rw[CP];rcases G.2 with⟨e1,e2⟩|⟨I,o,cap,cur,e1,e3,O,S,T,e7⟩
 ·refine⟨none,0,by rw[e1,e2],by omega,E.2.1, .inl (f7 e2)⟩
 ·refine⟨some ⟨I,o,none⟩,cap,e1,O,E.2.1, .inr ⟨I,o,rfl,M I (by rw[e1];rfl),TG λi hi=> ?_⟩⟩;have N:=E.2.2 i l[i] (ai hi);refine⟨?_,?_⟩
  ·rw[<-E.2.1 l[i] (bn hi)];exact Rg _ _
  ·refine Wq _ (cut xs (i*ks.length) ks.length) I _ N ?_;intro j y J;simp only[cut,gh]at J;split at J
   ·rw[fe]at J;have:=Rj G (g:=I) (by rw[e1];rfl) (i*ks.length+j) y J;rw[e1]at this;simpa [HX,du]using this
   ·simp at J
theorem R0 {a:AC} {x:Value} {G:Env} {w':World} (I:a.plain=true) (h:CC ρ w a x) (E:CP ρ.im w a x->CP G.im w' a x):CC G w' a x:=by
 cases a<;>first|exact E h|(simp[AC.plain]at I)
theorem Q52 {ρ2:Env} {v:TV} {x:Value} {w':World} (J:v.plainB=true) (G:∀(a:AC) (x:Value),a.plain=true->CP ρ.im w a x->CP ρ2.im w' a x) (h:TVR ρ w v x):TVR ρ2 w' v x:=by
 have T:∀{l:List AC} {xs:List Value},Al AC.plain l=true->CL (CC ρ w) l xs->CL (CC ρ2 w') l xs:=λU h=>h.mono λa M x V=>R0 (AD.1 U a M) V (G a x (AD.1 U a M));cases v with
 |dead=>trivial
 |v g cs=>
  cases g
  ·obtain⟨a,rfl,M⟩:=h;exact⟨a,rfl,R0 (AD.1 J a (by simp)) M (G a x (AD.1 J a (by simp)))⟩
  ·obtain⟨N,rfl,E⟩:=h;exact⟨N,rfl,T J E⟩
 |tup ps=>
  obtain⟨N,rfl,E⟩:=h;refine⟨N,rfl,?_⟩;generalize N.toList=l at E;simp only[TV.plainB]at J;induction ps generalizing l with
  |nil=>cases l<;>first|exact E|exact E.elim
  |cons p ps X=>
   cases l with
   |nil=>exact E.elim
   |cons y l=>
    obtain⟨g,cs⟩:=p;have I:=AD.1 J (g,cs) (by simp);have O:Al (λp:Bool×List AC=>Al AC.plain p.2) ps=true:=AD.2 λq Y=>AD.1 J q (by simp[Y]);refine⟨?_,X O l E.2⟩;have:=E.1;cases g
    ·obtain⟨a,S,M⟩:=this;subst S;exact⟨a,rfl,R0 (AD.1 I a (by simp)) M (G a y (AD.1 I a (by simp)))⟩
    ·obtain⟨zs,S,hz⟩:=this;exact⟨zs,S,T I hz⟩
theorem Qyp {im E:Nat->Prop} {w w':World} {a:AC} {x:Value} (hf:a.flat=true) (h:CP im w a x):CP E w' a x:=by
 cases a<;>simp only[CP,AC.flat]at* <;>first|exact h|(simp at hf)
theorem Zsj {N:Env} {v:TV} {x:Value} {w':World} (hf:v.flat=true) (h:TVR ρ w v x):TVR N w' v x:=by
 have U:∀{l:List AC} {xs:List Value},Al AC.flat l=true->CL (CC ρ w) l xs->CL (CC N w') l xs:=λJ h=>h.mono λa G x X=>by
  have:=AD.1 J a G;have O:a.plain=true:=by cases a<;>first|rfl|(simp[AC.flat]at this)
  exact R0 O X (Qyp this)
 have V:∀{a:AC} {x:Value},a.flat=true->CC ρ w a x->CC N w' a x:=fun{a x} J h=>by
  have O:a.plain=true:=by cases a<;>first|rfl|(simp[AC.flat]at J)
  exact R0 O h (Qyp J)
 cases v with
 |dead=>trivial
 |v g cs=>
  cases g
  ·obtain⟨a,rfl,G⟩:=h;exact⟨a,rfl,V (AD.1 hf a (by simp)) G⟩
  ·obtain⟨M,rfl,E⟩:=h;exact⟨M,rfl,U hf E⟩
 |tup ps=>
  obtain⟨M,rfl,E⟩:=h;refine⟨M,rfl,?_⟩;generalize M.toList=l at E;simp only[TV.flat]at hf;induction ps generalizing l with
  |nil=>cases l<;>first|exact E|exact E.elim
  |cons p ps Y=>
   cases l with
   |nil=>exact E.elim
   |cons y l=>
    obtain⟨g,cs⟩:=p;have I:=AD.1 hf (g,cs) (by simp);have S:Al (λp:Bool×List AC=>Al AC.flat p.2) ps=true:=AD.2 λq hq=>AD.1 hf q (by simp[hq]);refine⟨?_,Y S l E.2⟩;have:=E.1;cases g
    ·obtain⟨a,T,G⟩:=this;subst T;exact⟨a,rfl,V (AD.1 I a (by simp)) G⟩
    ·obtain⟨zs,T,hz⟩:=this;exact⟨zs,T,U I hz⟩
theorem KQ {v:TV} (h:v.plainB=true):TV.wf aB aC v:=by
 have E:∀{l:List AC},Al AC.plain l=true->∀a∈l,AC.wf aB aC a:=λh a G=>by
  have:=AD.1 h a G;cases a<;>first|trivial|(simp[AC.plain]at this)
 cases v with
 |dead=>trivial
 |v g cs=>exact E h
 |tup ps=>exact λp I=>E (AD.1 h p I)
theorem Ze4 {im:Nat->Prop} {a:AC} {x:Value} (h:CP im w a x):AC.wf aB aC a:=by
 cases a<;>first|trivial|(simp[CP]at h)
theorem Znq {im:Nat->Prop} {l:List AC} {xs:List Value} (h:CL (CP im w) l xs):∀a∈l,AC.wf aB aC a:=by
 induction l generalizing xs with
 |nil=>intro a E;simp at E
 |cons b l G=>
  cases xs with
  |nil=>exact h.elim
  |cons y xs=>
   intro a E;simp only[av]at E;rcases E with rfl|E
   ·exact Ze4 h.1
   ·exact G h.2 a E
theorem Zgk {U:Env} (S:∀(a J:AC) (x:Value),a.res aC=some J->CC ρ w a x->AC.wf aB aC a->CC U w J x) {v V:TV} {x:Value} (M:v.res aC=some V) (X:TV.wf aB aC v) (h:TVR ρ w v x):TVR U w V x:=by
 have Y:∀(cs I:List AC) (xs:List Value),FV aC cs=some I->(∀a∈cs,AC.wf aB aC a)->CL (CC ρ w) cs xs->CL (CC U w) I xs:=by
  intro cs;induction cs with
  |nil=>intro I xs G _ O;simp[FV]at G;subst G;cases xs<;>first|exact O|exact O.elim
  |cons a cs ih=>
   intro I xs G T O;cases xs with
   |nil=>exact O.elim
   |cons y xs=>
    simp only[FV]at G;split at G
    ·rename_i J N;split at G
     ·rename_i l' E;simp at G;subst G;exact⟨S a J y N O.1 (T a (by simp)),ih _ _ E (λb hb=>T b (by simp[hb])) O.2⟩
     ·simp at G
    ·simp at G
 cases v with
 |dead=>simp[TV.res]at M
 |tup ps=>simp[TV.res]at M
 |v g cs=>
  simp only[TV.res]at M;split at M
  ·rename_i l E;simp at M;subst M;cases g
   ·obtain⟨a,rfl,ha⟩:=h;simp only[FV]at E;split at E
    ·rename_i J N;simp at E;subst E;exact⟨J,rfl,S a J x N ha (X a (by simp))⟩
    ·simp at E
   ·obtain⟨ys,rfl,hy⟩:=h;exact⟨ys,rfl,Y _ _ _ E X hy⟩
  ·simp at M
theorem Zyz {a E:AC} (h:a.res aC=some E):E.plain=true:=by
 cases a<;>simp only[AC.res]at h<;>try (simp at h;done)
 case own=>split at h<;>simp at h;subst h;rfl
 all_goals (simp at h;subst h;rfl)
theorem Qu6:∀{l G:List AC},FV aC l=some G->Al AC.plain G=true
 |[],G,h=>by simp[FV]at h;subst h;rfl
 |a::l,G,h=>by
  simp only[FV]at h;split at h
  ·rename_i M I;split at h
   ·rename_i J E;simp at h;subst h;simp only[Al,Zyz I,aj];exact Qu6 E
   ·simp at h
  ·simp at h
theorem Qtn:∀{l G:List TV},Hb aC l=some G->G.length=l.length/\∀(i:Nat) (J:TV),G[i]? =some J->J.plainB=true/\∃a,l[i]? =some a/\a.res aC=some J
 |[],G,h=>by simp[Hb]at h;subst h;exact⟨rfl,λi a h=>by simp at h⟩
 |a::l,G,h=>by
  simp only[Hb]at h;split at h
  ·rename_i J E;split at h
   ·rename_i M I;simp at h;subst h;obtain⟨N,O⟩:=Qtn I;refine⟨by simp[N],λi b hb=> ?_⟩;cases i with
    |zero=>
     simp at hb;subst hb;refine⟨?_,a,rfl,E⟩;cases a with
     |dead=>simp[TV.res]at E
     |tup=>simp[TV.res]at E
     |v g cs=>
      simp only[TV.res]at E;split at E
      ·rename_i q S;simp at E;subst E;exact Qu6 S
      ·simp at E
    |succ i=>simpa using O i b (by simpa using hb)
   ·simp at h
  ·simp at h
end
open Go.RowKit
section
variable {P:Program} {C:Cfg} {ρ:Env} {w:World} {R:Type} {Z:Base} {tm:List TV} {aB:List (Nat×Box)} {aC:List (Nat×Row)} {tmps:Array Value}
theorem KC {a b:Nat} (h:a≠b):Nat.beq a b=false:=by
  cases hb:Nat.beq a b
  · rfl
  · exact absurd (ac hb) h
theorem Hk {a b:Nat} (h:Nat.beq a b=false):a≠b:=by rintro rfl;simp at h
theorem TVR.map {M:Env} {w':World} {g:AC->AC} {v:TV} (N:∀(a:AC) (x:Value),AC.wf aB aC a->CC ρ w a x->CC M w' (g a) x) (I:TV.wf aB aC v) {x:Value} (h:TVR ρ w v x):
    TVR M w' (v.mapC g) x:=by
  have U:∀{l:List AC} {xs:List Value},(∀a∈l,AC.wf aB aC a)->CL (CC ρ w) l xs->CL (CC M w') (l.map g) xs:=by
    intro l;induction l with
    |nil=>intro xs _ h;cases xs<;>first|exact h|exact h.elim
    |cons a l O=>
      intro xs V h;cases xs with
      |nil=>exact h.elim
      |cons y xs=>exact⟨N a y (V a (by simp)) h.1,O (λb hb=>V b (by simp[hb])) h.2⟩
  cases v with
  |dead=>trivial
  |v b cs=>
    cases b
    · obtain⟨a,rfl,Y⟩:=h;exact⟨g a,rfl,N a x (I a (by simp)) Y⟩
    · obtain⟨J,rfl,E⟩:=h;exact⟨J,rfl,U I E⟩
  |tup ps=>
    obtain⟨J,rfl,E⟩:=h;refine⟨J,rfl,?_⟩;generalize J.toList=l at E;induction ps generalizing l with
    |nil=>cases l<;>first|exact E|exact E.elim
    |cons p ps O=>
      cases l with
      |nil=>exact E.elim
      |cons y l=>
        obtain⟨b,cs⟩:=p;refine⟨?_,O (λq hq=>I q (by simp[hq])) l E.2⟩;have X:=E.1;have G:=I (b,cs) (by simp);cases b
        · obtain⟨a,S,T⟩:=X;subst S;exact⟨g a,rfl,N a y (G a (by simp)) T⟩
        · obtain⟨zs,S,T⟩:=X;exact⟨zs,S,U G T⟩
theorem CL.mapg {E:Env} {w':World} {g:AC->AC}:∀{l:List AC} {xs:List Value},(∀(a:AC) (x:Value),AC.wf aB aC a->CC ρ w a x->CC E w' (g a) x)->(∀a∈l,AC.wf aB aC a)->CL (CC ρ w) l xs->CL (CC E w') (l.map g) xs
  |[],[],_,_,h=>h
  |a::l,y::xs,G,I,h=>⟨G a y (I a (by simp)) h.1,CL.mapg G (λb hb=>I b (by simp[hb])) h.2⟩
  |[],_::_,_,_,h=>h.elim
  |_::_,[],_,_,h=>h.elim
theorem TV.wf_map {E:List (Nat×Box)} {G:List (Nat×Row)} {g:AC->AC} {v:TV} (M:∀a,AC.wf aB aC a->AC.wf E G (g a)) (N:TV.wf aB aC v):
    TV.wf E G (v.mapC g):=by
  cases v with
  |dead=>trivial
  |v b cs=>
    intro a I;simp only[ba]at I;obtain⟨c,J,rfl⟩:=I;exact M c (N c J)
  |tup ps=>
    intro p O a I;simp only[ba]at O;obtain⟨q,S,rfl⟩:=O;simp only[ba]at I;obtain⟨c,J,rfl⟩:=I;exact M c (N q S c J)
theorem TV.fz_eq (id:Nat) (ks:List Kd) (l:List (List AC)) (v:TV):v.fz id ks l=v.mapC (AC.fz id ks l):=by cases v<;>rfl
theorem RelE.freeze (h:RelE Z tm aB aC ρ tmps w) {id:Nat} {r:Row} (O:Ac aC id=some r):
    RelE Z (tm.map (TV.fz id r.ks r.l)) (aB.map λp=>(p.1,p.2.fz id r.ks r.l)) (del id aC) {ρ with im:=λb=>ρ.im b\/(ρ.rv id).ownBlock=some b} tmps w:=by
  have X:∀k,Ac (aB.map λp=>(p.1,p.2.fz id r.ks r.l)) k=(Ac aB k).map (Box.fz id r.ks r.l):=λk=>GO (Box.fz id r.ks r.l) aB k;have E:∀(k:Nat) (b:Box),Ac (aB.map λp=>(p.1,p.2.fz id r.ks r.l)) k=some b->∃b',Ac aB k=some b'/\b=b'.fz id r.ks r.l:=by
    intro k b G;rw[X]at G;cases hl:Ac aB k with
    |none=>rw[hl]at G;simp at G
    |some b'=>rw[hl]at G;simp at G;exact⟨b',rfl,G.symm⟩
  have J:∀(k:Nat) (b:Box),Ac aB k=some b->∃b',Ac (aB.map λp=>(p.1,p.2.fz id r.ks r.l)) k=some b':=λk b G=>⟨b.fz id r.ks r.l,by rw[X,G];rfl⟩;obtain⟨q1,q2,q0,xs,q3,q4⟩:=h.ro id r O;have U:CP (λb=>ρ.im b\/(ρ.rv id).ownBlock=some b) w (.vC r.ks r.l) (ρ.rv id):=
    ZB q3 (q4.mono (λ_ h=> .inl h) (λ_ _=>rfl)) (λg hg=> .inr hg)
  have Y:∀(a:AC) (x:Value),AC.wf aB aC a->CC ρ w a x->CC {ρ with im:=λb=>ρ.im b\/(ρ.rv id).ownBlock=some b} w (a.fz id r.ks r.l) x:=by
    intro a x _ hx;have V:CC {ρ with im:=λb=>ρ.im b\/(ρ.rv id).ownBlock=some b} w a x:=CC.mono (ρ:=ρ) (ρ':={ρ with im:=λb=>ρ.im b\/(ρ.rv id).ownBlock=some b}) (λ_ h=> .inl h) (λ_ _=>rfl) a x (AC.agree_refl rfl rfl rfl a) hx;cases a with
    |own j w1 n1=>
      simp only[AC.fz];cases hb:Nat.beq j id
      · exact V
      · have:=ac hb;subst this
        obtain⟨c1,_,_⟩:=hx;subst c1;exact U
    |rptr j i1 s1=>
      simp only[AC.fz];cases hb:Nat.beq j id
      · exact V
      · exact hx.one
    |_=>exact V
  have a0:∀a,AC.wf aB aC a->AC.wf (aB.map λp=>(p.1,p.2.fz id r.ks r.l)) (del id aC) (a.fz id r.ks r.l):=by
    intro a N;cases a with
    |ptr k o=>obtain⟨b,hb⟩:=N;exact J k b hb
    |bsl k o=>obtain⟨b,hb⟩:=N;exact J k b hb
    |own j w1 n1=>
      simp only[AC.fz];cases hb:Nat.beq j id
      · obtain⟨q,I,M⟩:=N
        exact⟨q,by rw[Mc _ _ _ (Hk hb)];exact I,M⟩
      · trivial
    |rptr j i1 s1=>
      simp only[AC.fz];cases hb:Nat.beq j id
      · obtain⟨q,I,M⟩:=N
        exact⟨q,by rw[Mc _ _ _ (Hk hb)];exact I,M⟩
      · trivial
    |vptr=>exact N
    |clo f fs cs=>exact⟨λa V=>AC.wfP_mono J (N.1 a V),λa V=>AC.wfP_mono J (N.2 a V)⟩
    |_=>trivial
  refine⟨by simpa using h.tl,?_,?_,?_,?_,?_,?_,?_,?_,?_,h.fr,h.fs,λb hb=> .inl (h.i0 b hb),?_,?_⟩
  · intro i v hi
    simp only[fo,cd]at hi;obtain⟨u,hu,rfl⟩:=hi;rw[TV.fz_eq];exact TVR.map Y (h.wt u (cq hu)) (h.tv i u hu)
  · intro v hv
    simp only[ba]at hv;obtain⟨u,hu,rfl⟩:=hv;rw[TV.fz_eq];exact TV.wf_map a0 (h.wt u hu)
  · intro k b G a N
    obtain⟨b',S,rfl⟩:=E k b G;simp only[Box.fz,ba]at N;obtain⟨c,hc,rfl⟩:=N;exact a0 _ (h.wb k b' S c hc)
  · intro k b G
    obtain⟨b',S,rfl⟩:=E k b G;obtain⟨arr,h1,h2,h3⟩:=h.bx k b' S;exact⟨arr,h1,CL.mapg Y (h.wb k b' S) h2,h3⟩
  · intro k k' b b' G a1
    obtain⟨_,I,_⟩:=E k b G;obtain⟨_,M,_⟩:=E k' b' a1;exact h.bi k k' _ _ I M
  · intro j q T
    obtain⟨a4,a2⟩:=Mr T;obtain⟨I,M,p0,ys,p3,p4⟩:=h.ro j q a2;exact⟨I,M,p0,ys,p3,p4.mono (λ_ h=> .inl h) (λ_ _=>rfl)⟩
  · intro j j' q q' g T a3
    exact h.ri j j' q q' g (Mr T).2 (Mr a3).2
  · intro k b j q G T
    obtain⟨_,I,_⟩:=E k b G;exact h.br k _ j q I (Mr T).2
  · rintro b (hb|hb)
    · obtain⟨I,M,p3⟩:=h.ib b hb
      exact⟨I,λk bo G=>by obtain⟨_,p,_⟩:=E k bo G;exact M k _ p,λj q T=>p3 j q (Mr T).2⟩
    · refine⟨(h.rwlt O hb).2,λk bo G e=> ?_,λj q T e=> ?_⟩
      · obtain⟨_,p,_⟩:=E k bo G
        exact h.br k _ id r p O (by rw[hb];exact ii some e.symm)
      · have hd:=Mr T
        exact hd.1 (h.ri j id q r b hd.2 O e hb)
  · rintro b (hb|hb)
    · exact h.i1 b hb
    · exact .inr (q0 b hb)
  · intro k b G
    obtain⟨I,bo,M⟩:=h.k0 k b G;exact⟨I,J k bo M⟩
theorem Fy:∀{l:List Nat} {n:Nat},AW l n=true↔n∈l
  |[],n=>by simp[AW]
  |m::l,n=>by
    simp only[AW,av];cases h:Nat.beq m n
    · simp only[ao,Fy (l:=l)]
      constructor
      · exact .inr
      · rintro(e|e)
        · exact absurd e.symm (Hk h)
        · exact e
    · simp[ac h]
theorem O9 {α:Type}:∀{l:List (Nat×α)} {k:Nat} {b:α},Ac l k=some b->(k,b)∈l
  |[],_,_,h=>by simp[Ac]at h
  |(j,c)::l,k,b,h=>by
    simp only[Ac]at h;cases hb:Nat.beq j k<;>rw[hb]at h
    · simp only[ao]at h;exact List.mem_cons_of_mem _ (O9 h)
    · simp at h;subst h;rw[ac hb];simp
theorem TF {α:Type} (keys:List Nat):∀{l:List (Nat×α)} {k:Nat} {b:α},Ac (l.filter λp=>AW keys p.1) k=some b->Ac l k=some b/\AW keys k=true
  |[],k,b,h=>by simp[Ac]at h
  |(j,c)::l,k,b,h=>by
    simp only[List.filter_cons]at h;cases E:AW keys j
    · rw[E]at h
      simp only[dx,ig]at h;obtain⟨I,G⟩:=TF keys (l:=l) h;refine⟨?_,G⟩;simp only[Ac];rw[KC (by rintro rfl;rw[E]at G;cases G)];exact I
    · rw[E]at h
      simp only[dz,Ac]at h⊢;cases hb:Nat.beq j k<;>rw[hb]at h
      · exact TF keys (l:=l) h
      · have:=ac hb;subst this
        exact⟨h,E⟩
theorem Kt {α:Type} (keys:List Nat):∀{l:List (Nat×α)} {k:Nat} {b:α},AW keys k=true->Ac l k=some b->Ac (l.filter λp=>AW keys p.1) k=some b
  |[],k,b,_,h=>by simp[Ac]at h
  |(j,c)::l,k,b,E,h=>by
    simp only[List.filter_cons];simp only[Ac]at h;cases hb:Nat.beq j k<;>rw[hb]at h
    · simp only[ao]at h
      split
      · simp only[Ac,hb,ao];exact Kt keys E h
      · exact Kt keys E h
    · have:=ac hb;subst this
      rw[E];simp only[dz,Ac,hb];exact h
theorem AC.wf_filter {keys ids:List Nat} {a:AC} (E:AC.inK keys ids a=true) (G:AC.wf aB aC a):AC.wf (aB.filter λp=>AW keys p.1) (aC.filter λp=>AW ids p.1) a:=by
  have N:∀l:List AC,Al (AC.inK.inP keys) l=true->(∀a∈l,AC.wfP aB a)->∀a∈l,AC.wfP (aB.filter λp=>AW keys p.1) a:=by
    intro l O S a G;have J:=AD.1 O a G;have M:=S a G;cases a<;>first|trivial|(obtain⟨b,hb⟩:=M;exact⟨b,Kt keys J hb⟩)
  cases a with
  |ptr k o=>obtain⟨b,I⟩:=G;exact⟨b,Kt keys E I⟩
  |bsl k o=>obtain⟨b,I⟩:=G;exact⟨b,Kt keys E I⟩
  |own id T n=>obtain⟨q,J,M⟩:=G;exact⟨q,Kt ids E J,M⟩
  |rptr id i s1=>obtain⟨q,J,M⟩:=G;exact⟨q,Kt ids E J,M⟩
  |vptr=>exact G
  |clo f fs cs=>
    simp only[AC.inK,al]at E;exact⟨N fs E.1 G.1,N cs E.2 G.2⟩
  |_=>trivial
theorem TV.wf_filter {keys ids:List Nat} {v:TV} (E:TV.inK keys ids v=true) (I:TV.wf aB aC v):TV.wf (aB.filter λp=>AW keys p.1) (aC.filter λp=>AW ids p.1) v:=by
  cases v with
  |dead=>trivial
  |v g cs=>exact λa G=>AC.wf_filter (AD.1 E a G) (I a G)
  |tup ps=>exact λp J a G=>AC.wf_filter (AD.1 (AD.1 E p J) a G) (I p J a G)
theorem RelE.filter (h:RelE Z tm aB aC ρ tmps w) {keys ids:List Nat} {I:List TV} {G:Array Value} (N:I.length=G.size)
    (O:∀(i:Nat) (v:TV),I[i]? =some v->TVR ρ w v (G.getD i undef)) (S:∀v∈I,TV.wf aB aC v)
    (T:Al (TV.inK keys ids) I=true) (U:Al (λp:Nat×Box=>Al (AC.inK keys ids) p.2.cells) (aB.filter λp=>AW keys p.1)=true)
    (V:∀k b,Z.K0 k=some b->AW keys k=true):
    RelE Z I (aB.filter λp=>AW keys p.1) (aC.filter λp=>AW ids p.1) ρ G w:=by
  have hb:∀(k:Nat) (b:Box),Ac (aB.filter λp=>AW keys p.1) k=some b->Ac aB k=some b:=λk b E=>(TF keys E).1;have M:∀(k:Nat) (b:Row),Ac (aC.filter λp=>AW ids p.1) k=some b->Ac aC k=some b:=λk b E=>(TF ids E).1;refine⟨N,O,λv hv=>TV.wf_filter (AD.1 T v hv) (S v hv),λk b E a ha=> ?_,λk b E=>h.bx k b (hb k b E),λk k' b b' E X=>h.bi k k' b b' (hb k b E) (hb k' b' X),
    λid q J=>h.ro id q (M id q J),λid id' q q' g J Y=>h.ri id id' q q' g (M id q J) (M id' q' Y),λk b id q E J=>h.br k b id q (hb k b E) (M id q J),λb a0=> ?_,h.fr,h.fs,h.i0,h.i1,λk b E=> ?_⟩
  · exact AC.wf_filter (AD.1 (AD.1 U (k,b) (O9 E)) a ha) (h.wb k b (hb k b E) a ha)
  · obtain⟨q1,q2,q3⟩:=h.ib b a0
    exact⟨q1,λk bo E=>q2 k bo (hb k bo E),λid q J=>q3 id q (M id q J)⟩
  · obtain⟨q1,bo,q2⟩:=h.k0 k b E
    exact⟨q1,bo,Kt keys (V k b E) q2⟩
theorem RelE.lookB {E:List (Nat×Box)} {G:List (Nat×Row)} (h:RelE Z tm aB aC ρ tmps w) (hb:∀j,Ac aB j=Ac E j) (M:∀j,Ac aC j=Ac G j):RelE Z tm E G ρ tmps w:=by
  have N:∀a,AC.wf aB aC a->AC.wf E G a:=λa=>AC.wf_mono (λk b I=>⟨b,by rw[<-hb];exact I⟩) (λk r I=>⟨r,by rw[<-M];exact I,rfl,rfl⟩);refine⟨h.tl,h.tv,λv X=>TV.wf_mono N (h.wt v X),λk b I a Y=>N a (h.wb k b (by rw[hb];exact I) a Y),λk b I=>h.bx k b (by rw[hb];exact I),λk k' b b' I O=>h.bi k k' b b' (by rw[hb];exact I) (by rw[hb];exact O),
    λid q J=>h.ro id q (by rw[M];exact J),λid id' q q' g J S=>h.ri id id' q q' g (by rw[M];exact J) (by rw[M];exact S),λk b id q I J=>h.br k b id q (by rw[hb];exact I) (by rw[M];exact J),λb T=> ?_,h.fr,h.fs,h.i0,h.i1,λk b I=> ?_⟩
  · obtain⟨U,V,q3⟩:=h.ib b T
    exact⟨U,λk bo I=>V k bo (by rw[hb];exact I),λid q J=>q3 id q (by rw[M];exact J)⟩
  · obtain⟨U,bo,V⟩:=h.k0 k b I
    exact⟨U,bo,by rw[<-hb];exact V⟩
theorem RelE.reBox (h:RelE Z tm aB aC ρ tmps w) {g:Nat->Box->Box} (T:∀k b,(g k b).ty=b.ty)
    (J:∀(k:Nat) (b:Box),Ac aB k=some b->(∀(xs:List Value),CL (CC ρ w) b.cells xs->CL (CC ρ w) (g k b).cells xs)/\∀a∈(g k b).cells,AC.wf aB aC a):
    RelE Z tm (aB.map λp=>(p.1,g p.1 p.2)) aC ρ tmps w:=by
  have M:∀(l:List (Nat×Box)) k,Ac (l.map λp=>(p.1,g p.1 p.2)) k=(Ac l k).map (g k):=by
    intro l;induction l with
    |nil=>intro k;rfl
    |cons p l Y=>
      intro k;obtain⟨j,b⟩:=p;simp only[bt,Ac,Y];cases hb:Nat.beq j k
      · rfl
      · have:=ac hb;subst this;rfl
  have G:∀(k:Nat) (b:Box),Ac (aB.map λp=>(p.1,g p.1 p.2)) k=some b->∃b',Ac aB k=some b'/\b=g k b':=by
    intro k b E;rw[M]at E;cases X:Ac aB k with
    |none=>rw[X]at E;simp at E
    |some b'=>rw[X]at E;simp at E;exact⟨b',rfl,E.symm⟩
  have N:∀(k:Nat) (b:Box),Ac aB k=some b->∃b',Ac (aB.map λp=>(p.1,g p.1 p.2)) k=some b':=λk b E=>⟨g k b,by rw[M,E];rfl⟩;have O:∀a,AC.wf aB aC a->AC.wf (aB.map λp=>(p.1,g p.1 p.2)) aC a:=λa=>AC.wf_mono N (λk r E=>⟨r,E,rfl,rfl⟩);refine⟨h.tl,h.tv,λv hv=>TV.wf_mono O (h.wt v hv),?_,?_,?_,h.ro,h.ri,?_,?_,h.fr,h.fs,h.i0,h.i1,?_⟩
  · intro k b E a ha
    obtain⟨b',I,rfl⟩:=G k b E;exact O a ((J k b' I).2 a ha)
  · intro k b E
    obtain⟨b',I,rfl⟩:=G k b E;obtain⟨arr,h1,h2,h3⟩:=h.bx k b' I;exact⟨arr,by rw[T];exact h1,(J k b' I).1 _ h2,h3⟩
  · intro k k' b b' E U
    obtain⟨_,S,_⟩:=G k b E;obtain⟨_,V,_⟩:=G k' b' U;exact h.bi k k' _ _ S V
  · intro k b j q E hq
    obtain⟨_,S,_⟩:=G k b E;exact h.br k _ j q S hq
  · intro b hb
    obtain⟨q1,q2,q3⟩:=h.ib b hb;exact⟨q1,λk bo E=>by obtain⟨_,p,_⟩:=G k bo E;exact q2 k _ p,q3⟩
  · intro k b E
    obtain⟨S,bo,V⟩:=h.k0 k b E;exact⟨S,N k bo V⟩
theorem Ll {w:World}:∀(ks:List Kd) (cs:List AC) (xs:List Value),CL (CC ρ w) cs xs->CL (CC ρ w) (Em ks cs) xs
  |[],cs,xs,h=>by cases cs<;>exact h
  | .sl ks::l,[],xs,h=>h
  | .int k::l,[],xs,h=>h
  | .bool::l,[],xs,h=>h
  | .raw::l,[],xs,h=>h
  |_::l,a::cs,[],h=>h.elim
  | .int _::l,a::cs,x::xs,h=>by simp only[Em];exact⟨h.1,Ll l cs xs h.2⟩
  | .bool::l,a::cs,x::xs,h=>by simp only[Em];exact⟨h.1,Ll l cs xs h.2⟩
  | .raw::l,a::cs,x::xs,h=>by simp only[Em];exact⟨h.1,Ll l cs xs h.2⟩
  | .sl ks::l,a::cs,x::xs,h=>by
    cases a<;>simp only[Em]<;>first
      |exact⟨h.1,Ll l cs xs h.2⟩
      | (refine ⟨?_, Ll l cs xs h.2⟩
         have E:=h.1;simp only[CC,CP]at E;subst E;exact UN ks)
theorem NV:∀(ks:List Kd) (cs:List AC),(∀a∈cs,AC.wf aB aC a)->∀a∈Em ks cs,AC.wf aB aC a
  |[],cs,h=>by cases cs<;>exact h
  | .sl ks::l,[],h=>h
  | .int k::l,[],h=>h
  | .bool::l,[],h=>h
  | .raw::l,[],h=>h
  | .int _::l,a::cs,h=>by
    simp only[Em,av,jh]at h⊢;exact⟨h.1,NV l cs h.2⟩
  | .bool::l,a::cs,h=>by
    simp only[Em,av,jh]at h⊢;exact⟨h.1,NV l cs h.2⟩
  | .raw::l,a::cs,h=>by
    simp only[Em,av,jh]at h⊢;exact⟨h.1,NV l cs h.2⟩
  | .sl ks::l,a::cs,h=>by
    simp only[av,jh]at h;have E:=NV l cs h.2;cases a<;>simp only[Em,av,jh]<;>first
      |exact⟨h.1,E⟩
      |exact⟨trivial,E⟩
theorem Zxh {α:Type} {l:List α} {n:Nat} {v x:α} (h:x∈setL l n v):x∈l\/x=v:=by
  rw[I7]at h;exact d8 h
theorem CL.setL {E:AC->Value->Prop}:∀{l:List AC} {xs:List Value} (n:Nat) {a:AC},CL E l xs->(∀x,xs[n]? =some x->E a x)->CL E (setL l n a) xs
  |[],[],_,_,h,_=>h
  |b::l,x::xs,0,a,h,G=>⟨G x rfl,h.2⟩
  |b::l,x::xs,n+1,a,h,G=>⟨h.1,CL.setL n h.2 λy I=>G y (by simpa using I)⟩
  |[],_::_,_,_,h,_=>h.elim
  |_::_,[],_,_,h,_=>h.elim
theorem RelE.promB (h:RelE Z tm aB aC ρ tmps w) {k o:Nat} {b:Box} (V:Ac aB k=some b) (T:nth .dead b.cells o= .nilSl) {id:Nat} (J:Ac aC id=none) {e:TypeId} {ks:List Kd} (X:0<ks.length):
    RelE Z tm (upd aB k ⟨b.ty,setL b.cells o (.own id ks.length 0)⟩) (ins aC id ⟨e,ks,[]⟩) {ρ with rv:=upN ρ.rv id (.slice none 0 0),wd:=upN ρ.wd id ks.length} tmps w:=by
  have G:=h.addRow (d:=id) J (r:=⟨e,ks,[]⟩) (v':= .slice none 0 0) (xs:=[]) (w':=w) (Below.refl _ _) X (Yd w e ks.length) ⟨by simp,by simp,λi c hi=>by simp at hi⟩ (λg Y=>by simp[Value.ownBlock]at Y);have M:=Fk aC id (⟨e,ks,[]⟩:Row) J;generalize hρ:({ρ with rv:=upN ρ.rv id (.slice none 0 0),wd:=upN ρ.wd id ks.length}:Env)=ρ2 at G;have e1:ρ2.rv id= .slice none 0 0:=by rw[<-hρ];exact B0 _ _ _
  have e2:ρ2.wd id=ks.length:=by rw[<-hρ];exact B0 _ _ _
  have a0 := G.reBox (g := λj c => bif Nat.beq j k then ⟨c.ty, setL c.cells o (.own id ks.length 0)⟩ else c) (λj c => by cases Nat.beq j k <;> rfl) (by
    intro j c U;cases hb:Nat.beq j k
    · exact⟨λxs h=>h,G.wb j c U⟩
    · have:=ac hb;subst this
      rw[V]at U;simp at U;subst U;simp only[aj];refine⟨λxs hx=>hx.setL o λx a1=> ?_,λa ha=> ?_⟩
      · have I:o<b.cells.length:=by
          rcases ke o b.cells.length with I|a2
          · exact I
          · rw[B7,List.getD,dm a2]at T;simp at T
        have Y:b.cells[o]? =some .nilSl:=by
          rw[B7,List.getD,ai I]at T;rw[ai I];simpa using T
        obtain⟨y,hy,N⟩:=hx.get Y;rw[a1]at hy;simp at hy;subst hy;simp only[CC,CP]at N;subst N;exact⟨e1.symm,e2, .inl ⟨rfl,rfl⟩⟩
      · rcases Zxh ha with ha|rfl
        · exact G.wb j b V a ha
        · exact⟨_,M,rfl,rfl⟩)
  have O:∀(l:List (Nat×Box)) (b':Box),Ac l k=some b'->∀j,Ac (l.map λp=>(p.1,bif Nat.beq p.1 k then(⟨p.2.ty,setL p.2.cells o (.own id ks.length 0)⟩:Box)else p.2)) j=Ac (upd l k ⟨b'.ty,setL b'.cells o (.own id ks.length 0)⟩) j:=by
    intro l;induction l with
    |nil=>intro b' E;simp[Ac]at E
    |cons p l ih=>
      intro b' E j;obtain⟨q,c⟩:=p;simp only[Ac]at E;cases S:Nat.beq q k
      · rw[S]at E;simp only[ao]at E
        simp only[bt,upd,S,ao,Ac];rw[ih b' E j]
      · rw[S]at E;simp at E;subst E
        have:=ac S;subst this;simp only[bt,upd,S,aj,Ac];cases a3:Nat.beq q j
        · simp only[ao]
          have a4:=Hk a3;have:∀m:List (Nat×Box),Ac (m.map λp=>(p.1,bif Nat.beq p.1 q then(⟨p.2.ty,setL p.2.cells o (.own id ks.length 0)⟩:Box)else p.2)) j=Ac m j:=by
            intro m;induction m with
            |nil=>rfl
            |cons p m a5=>
              obtain⟨q',c'⟩:=p;simp only[bt,Ac,a5];cases hb:Nat.beq q' j
              · rfl
              · have e:=ac hb;subst e
                rw[KC (λe=>a4 e.symm)];rfl
          exact this l
        · rfl
  exact a0.lookB (O aB b V) λ_=>rfl
end
end Go.Bm
