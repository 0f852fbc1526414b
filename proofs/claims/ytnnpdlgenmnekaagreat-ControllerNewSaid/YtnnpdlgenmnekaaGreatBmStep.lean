/- the abstract machine -/
import Derived.WalkKit
import Derived.ProofKit
import Derived.Laws.StructEq
import Derived.Maps.AppendAt
set_option linter.unusedVariables false
set_option linter.unusedSimpArgs false
namespace Go.Bm
theorem aa {c:Prop} {_:Decidable c} (h:c:=by omega) {α:Sort _} {t e:α}:ite c t e=t:=if_pos h
theorem ab {c:Prop} {_:Decidable c} (h:¬c:=by omega) {α:Sort _} {t e:α}:ite c t e=e:=if_neg h
abbrev ac:=@Nat.eq_of_beq_eq_true
abbrev af:=@List.length_map
abbrev ag:=@Int.toNat_natCast
abbrev ah:=@decide_eq_true
abbrev ai:=@cond_true
abbrev aj:=@decide_eq_false
abbrev ak:=@Option.bind_some
abbrev al:=@Bool.and_eq_true
abbrev am:=@List.length_append
abbrev an:=@List.getElem?_eq_getElem
abbrev ao:=@cond_false
abbrev ap:=@Option.some.injEq
abbrev aq:=@List.cons_append
abbrev av:=@List.mem_map
abbrev ay:=@List.nil_append
abbrev az:=@List.mem_cons
abbrev ba:=@List.map_cons
abbrev bc:=@Nat.le_of_ble_eq_true
abbrev be:=@Nat.mul_le_mul_right
abbrev bf:=@List.length_cons
abbrev bg:=@Option.map_eq_some_iff
abbrev bh:=@List.map_append
abbrev bj:=@Int.eq_ofNat_of_zero_le
abbrev bm:=@List.length_nil
abbrev bn:=@Nat.le_trans
abbrev bp:=@decide_eq_true_eq
abbrev bq:=@List.mem_of_getElem?
abbrev bt:=@Prod.mk.injEq
abbrev bv:=@List.getElem_mem
abbrev bz:=@Int.natCast_mul
abbrev cd:=@Result.andThen_ok
abbrev cg:=@Nat.mul_comm
abbrev cm:=@List.map_nil
abbrev co:=@List.mem_append
abbrev cq:=@Nat.le_refl
abbrev cr:=@Option.bind_eq_some_iff
abbrev cv:=@Bool.false_eq_true
abbrev cx:=@Nat.mul_le_mul
abbrev cy:=@Nat.add_mul
abbrev cz:=@List.eq_nil_of_length_eq_zero
abbrev da:=@Array.getElem?_eq_some_iff
abbrev db:=@List.getElem?_eq_none
abbrev dc:=@if_true
abbrev de:=@Nat.add_assoc
abbrev df:=@iff_of_false
abbrev dg:=@Eq.trans
abbrev dh:=@Int.tdiv_eq_ediv_of_nonneg
abbrev dk:=@List.length_drop
abbrev dl:=@Nat.zero_add
abbrev dm:=@Array.length_toList
abbrev dn:=@Nat.eq_zero_or_pos
abbrev dp:=@Int.fdiv_eq_ediv_of_nonneg
abbrev dq:=@Nat.mul_assoc
abbrev dt:=@Nat.add_sub_cancel_left
abbrev du:=@List.drop_of_length_le
abbrev dv:=@List.getElem?_drop
abbrev dw:=@Nat.two_pow_pos
abbrev dx:=@Nat.pow_succ
abbrev dy:=@Nat.mul_lt_mul_of_pos_right
abbrev dz:=@Classical.choose_spec
abbrev d6:=@Int.mul_le_mul
abbrev d7:=@List.mem_of_mem_take
abbrev d8:=@List.mem_or_eq_of_mem_set
abbrev d9:=@List.getElem?_eq_some_iff
abbrev ed:=@Nat.div_lt_iff_lt_mul
abbrev ef:=@Nat.ble_eq_true_of_le
abbrev eg:=@List.getElem?_map
abbrev ej:=@Nat.lt_of_lt_of_le
abbrev em:=@Nat.div_add_mod
abbrev ep:=@List.getElem?_take
abbrev eu:=@List.mem_of_mem_drop
abbrev ez:=@if_false
abbrev fa:=@List.getD_eq_getElem?_getD
abbrev fc:=@Int.natAbs_mul_self
abbrev fd:=@List.drop_zero
abbrev fe:=@Option.map_some
abbrev ff:=@List.length_singleton
abbrev fg:=@List.foldl_cons
abbrev fh:=@List.cons.injEq
abbrev fj:=@iff_of_true
abbrev fm:=@Nat.one_mul
abbrev fo:=@List.take_length
abbrev fq:=@List.length_take
abbrev ft:=@List.getElem?_append
abbrev fu:=@Nat.succ_mul
abbrev fv:=@Nat.mod_lt
abbrev fw:=@BitVec.toNat_ofInt
abbrev fx:=@List.nodup_nil
abbrev fy:=@Nat.mul_self_lt_mul_self
abbrev f0:=@Nat.div_le_self
abbrev f5:=@List.ext_getElem?
abbrev f6:=@List.append_assoc
abbrev f7:=@Int.natCast_add
abbrev f8:=@Int.mul_self_le_mul_self
abbrev f9:=@Array.toList_map
abbrev ga:=@Int.mul_nonneg
abbrev gb:=@List.getElem_cons_succ
abbrev gc:=@Nat.zero_mul
abbrev gd:=@List.length_set
abbrev gf:=@Int.one_mul
abbrev gh:=@List.getElem?_set
abbrev gi:=@Int.tmod_eq_emod_of_nonneg
abbrev gj:=@Array.getElem?_eq_getElem
abbrev gk:=@forall_eq_or_imp
abbrev gm:=@Int.not_lt
abbrev gn:=@Nat.le_mul_of_pos_right
abbrev gp:=@List.mem_singleton
abbrev gq:=@Int.natAbs_natCast
abbrev gr:=@Int.cast_ofNat_Int
abbrev gu:=@not_true_eq_false
abbrev gv:=@not_false_eq_true
abbrev gw:=@Nat.mul_add
abbrev gx:=@Bool.not_eq_true'
abbrev gy:=@List.drop_drop
abbrev gz:=@Nat.beq_refl
abbrev ia:=@List.drop_append_of_le_length
abbrev ic:=@List.mem_cons_of_mem
abbrev ie:=@congrArg
abbrev ig:=@Nat.two_pow_add_eq_or_of_lt
abbrev ii:=@Nat.mul_le_mul_left
abbrev ij:=@List.replicate_succ
abbrev ik:=@List.nodup_cons
abbrev il:=@Int.add_mul
abbrev ip:=@Bool.or_eq_true
abbrev iq:=@Nat.lt_or_ge
abbrev iu:=@Nat.add_comm
abbrev iv:=@Int.mul_comm
abbrev iw:=@Int.add_zero
abbrev iy:=@List.getElem?_append_left
abbrev iz:=@List.take_add_one
abbrev i6:=@and_true
abbrev i7:=@List.map_take
abbrev i8:=@List.map_drop
abbrev i9:=@Bool.not_true
abbrev ja:=@List.take_of_length_le
abbrev jb:=@List.drop_eq_nil_of_le
def Qxv:Option (Nat×List Value):=none
def Gt (F:Nat->Prop) (w:World):Prop:=∀g cs,Qxv=some (g,cs)->F g/\∃t z,w.heap[g]? =some (.cells cs.toArray t z)
theorem Gt.mono {F D:Nat->Prop} {w w':World} (h:Gt F w) (E:∀g cs,Qxv=some (g,cs)->F g->D g/\w'.heap[g]? =w.heap[g]?):Gt D w':=by
 intro g cs e;obtain⟨G,t,z,I⟩:=h g cs e;obtain⟨J,L⟩:=E g cs e G;exact⟨J,t,z,by rw[L];exact I⟩
inductive Kd where
 |int (k:IntKind)
 |bool
 |sl (ks:List Kd)
 |raw
inductive AC where
 |dead
 |int (k:IntKind) (n:Int)
 |bool (b:Bool)
 |raw (v:Value)
 |nilSl
 |ptr (key off:Nat)
 |own (id w n:Nat)
 |vC (ks:List Kd) (l:List (List AC))
 |rptr (id idx sub:Nat)
 |vptr (cells:List AC) (sub:Nat)
 |clo (f:FuncId) (first caps:List AC)
 |bsl (key n:Nat)
inductive TV where
 |dead
 |v (g:Bool) (cs:List AC)
 |tup (ps:List (Bool×List AC))
abbrev TV.c (a:AC):TV:= .v false [a]
abbrev TV.agg (cs:List AC):TV:= .v true cs
def Ah:AC->Int
 | .int _ n=>n
 |_=>0
def CD:AC->Bool
 | .bool b=>b
 |_=>false
def Q0t:AC->ByteArray
 | .raw (.string s)=>s
 |_=>⟨#[]⟩
def Bb:AC->List (List AC)
 | .vC _ l=>l
 |_=>[]
structure Box where
 ty:TypeId
 cells:List AC
variable {R:Type}
def nth {α:Type} (d:α):List α->Nat->α
 |[],_=>d
 |x::_,0=>x
 |_::xs,n+1=>nth d xs n
def JX:Kd->AC->AC
 | .int k,a=> .int k (Ah a)
 | .bool,a=> .bool (CD a)
 | .sl ks,a=> .vC ks (Bb a)
 | .raw, .raw v=> .raw v
 | .raw,_=> .dead
def DQ:List Kd->List AC->Nat->List AC
 |[],_,_=>[]
 |k::ks,cs,j=>JX k (nth .dead cs j)::DQ ks cs (j+1)
def AF (ks:List Kd) (cs:List AC):List AC:=DQ ks cs 0
structure Row where
 ty:TypeId
 ks:List Kd
 l:List (List AC)
abbrev Row.w (r:Row):Nat:=r.ks.length
abbrev Row.n (r:Row):Nat:=r.l.length
abbrev Row.f (r:Row) (i:Nat):List AC:=AF r.ks (nth [] r.l i)
structure Mem where
 aB:List (Nat×Box)
 aC:List (Nat×Row)
structure St where
 tmps:List TV
 aB:List (Nat×Box)
 aC:List (Nat×Row)
def setL {α:Type}:List α->Nat->α->List α
 |[],_,_=>[]
 |_::xs,0,v=>v::xs
 |x::xs,n+1,v=>x::setL xs n v
def AL {α:Type}:List α->(List α->Option R)->Option R
 |[],K=>K []
 |x::xs,K=>AL xs λD=>K (x::D)
def Ab {α:Type}:List (Nat×α)->Nat->Option α
 |[],_=>none
 |(k,b)::l,key=>bif Nat.beq k key then some b else Ab l key
def upd {α:Type}:List (Nat×α)->Nat->α->List (Nat×α)
 |[],_,_=>[]
 |(k,b)::l,key,x=>bif Nat.beq k key then(k,x)::l else(k,b)::upd l key x
def ins {α:Type}:List (Nat×α)->Nat->α->List (Nat×α)
 |[],key,x=>[(key,x)]
 |(k,b)::l,key,x=>bif Nat.blt key k then(key,x)::(k,b)::l else(k,b)::ins l key x
def cut {α:Type} (l:List α) (off m:Nat):List α:=(l.drop off).take m
def splice {α:Type}:List α->Nat->List α->List α
 |l,_,[]=>l
 |[],_,_::_=>[]
 |_::xs,0,v::D=>v::splice xs 0 D
 |x::xs,n+1,v::D=>x::splice xs n (v::D)
def KA:Value->AC
 | .int k n=> .int k n
 | .bool b=> .bool b
 | .slice none 0 0=> .nilSl
 | .string s=> .raw (.string s)
 | .pointer none=> .raw (.pointer none)
 | .nilFunc=> .raw .nilFunc
 | .nilIface=> .raw .nilIface
 |_=> .dead
def Hq:List Value->Option (List AC)
 |[]=>some []
 | v :: l => bif v.oneCell' then (match Hq l with
  |some cs=>some (KA v::cs)
  |none=>none)else none
def ofValue:Value->TV
 | .agg cs=>match Hq cs.toList with
  |some l=> .agg l
  |none=> .dead
 | .tuple _=> .dead
 |v=> .c (KA v)
def TV.cells:TV->Option (List AC)
 | .v _ cs=>some cs
 |_=>none
def TV.int? :TV->Option Int
 | .v false [.int _ n]=>some n
 |_=>none
def kEq:IntKind->IntKind->Bool
 | .i8, .i8| .i16, .i16| .i32, .i32| .i64, .i64| .u8, .u8| .u16, .u16| .u32, .u32| .u64, .u64=>true
 |_,_=>false
def AC.plain:AC->Bool
 | .int _ _| .bool _| .raw _| .nilSl| .vC _ _=>true
 |_=>false
def AC.calm:AC->Bool
 | .int _ _| .bool _| .raw _| .nilSl| .vC _ _| .dead=>true
 |_=>false
def Ai {α:Type} (p:α->Bool):List α->Bool
 |[]=>true
 |x::l=>bif p x then Ai p l else false
mutual
def DW:Kd->Kd->Bool
 | .int k, .int k'=>kEq k k'
 | .bool, .bool=>true
 | .sl ks, .sl D=>Cj ks D
 | .raw, .raw=>true
 |_,_=>false
def Cj:List Kd->List Kd->Bool
 |[],[]=>true
 |k::ks,k'::D=>bif DW k k' then Cj ks D else false
 |_,_=>false
end
def UE:Kd->AC->Option AC
 | .int k, .int k' n=>bif kEq k k' then some (.int k n)else none
 | .bool, .bool b=>some (.bool b)
 | .sl ks, .nilSl=>some (.vC ks [])
 | .sl ks, .vC D l=>bif Cj ks D then some (.vC ks l)else none
 | .raw, .raw v=>some (.raw v)
 |_,_=>none
def GR:List Kd->List AC->Option (List AC)
 |[],[]=>some []
 |k::ks,a::cs=>match UE k a with
  |some E=>match GR ks cs with
   |some D=>some (E::D)
   |none=>none
  |none=>none
 |_,_=>none
def GQ (ks:List Kd):Nat->List AC->Option (List (List AC))
 |0,[]=>some []
 |0,_=>none
 |n+1,cs=>match GR ks (cs.take ks.length)with
  |some c=>match GQ ks n (cs.drop ks.length)with
   |some l=>some (c::l)
   |none=>none
  |none=>none
inductive Prim where
 |val (v:TV)
 |load (agg:Bool) (sz key off:Nat)
 |store (key off:Nat) (cells:List AC)
 |new (ty:TypeId) (cells:List AC)
 |newS (ty:TypeId) (n:Nat) (cells:List AC)
 |cutR (id a:Nat)
 |rload (agg:Bool) (sz id idx sub:Nat)
 |rstore (id idx sub:Nat) (cells:List AC)
 |append (e:TypeId) (ks:List Kd) (bytes:Nat) (s x:AC)
 |newRow (e:TypeId) (ks:List Kd) (l:List (List AC))
 |newView (e:TypeId) (ks:List Kd) (l:List (List AC))
 |make (e:TypeId) (ks:List Kd) (bytes:Nat) (n:Int) (z:List AC)
 |call (f:FuncId) (args:List TV)
 |callM (f:FuncId) (args:List TV)
 |callD (f:FuncId) (args:List TV)
 |callF (f:FuncId) (args:List TV)
 |appD (e:TypeId) (ks:List Kd) (bytes:Nat) (s x:AC)
def mn (x y:Int):Int:=if y<x then y else x
def mx (x y:Int):Int:=if y>x then y else x
def Fw (op:BinOp) (k:IntKind) (a b:Int) (K:AC->Option R):Option R:=
 match op with
 | .add=>K (.int k (k.wrap (a+b)))
 | .sub=>K (.int k (k.wrap (a-b)))
 | .mul=>K (.int k (k.wrap (a*b)))
 | .quo=>cond (decide (b=0)) none (K (.int k (k.wrap (a.tdiv b))))
 | .rem=>cond (decide (b=0)) none (K (.int k (a.tmod b)))
 | .and=>K (.int k (k.wrap ((BitVec.ofInt k.bits a&&&BitVec.ofInt k.bits b).toNat:Int)))
 | .or=>K (.int k (k.wrap ((BitVec.ofInt k.bits a|||BitVec.ofInt k.bits b).toNat:Int)))
 | .xor=>K (.int k (k.wrap ((BitVec.ofInt k.bits a^^^BitVec.ofInt k.bits b).toNat:Int)))
 | .andNot=>K (.int k (k.wrap ((BitVec.ofInt k.bits a&&& ~~~BitVec.ofInt k.bits b).toNat:Int)))
 | .eql=>K (.bool (a==b))
 | .neq=>K (.bool (a !=b))
 | .lss=>K (.bool (decide (a<b)))
 | .leq=>K (.bool (decide (a<=b)))
 | .gtr=>K (.bool (decide (a>b)))
 | .geq=>K (.bool (decide (a>=b)))
 | .shl=>cond (decide (b<0)) none (K (.int k (k.wrap (a*2^(min b.toNat k.bits)))))
 | .shr=>cond (decide (b<0)) none (K (.int k (a.fdiv (2^(min b.toNat k.bits)))))
def KC:BinOp->Bool
 | .shl| .shr=>true
 |_=>false
inductive CS where
 |any
 |int (k:IntKind)
 |bool
 |sl (ks:List Kd)
 |rawc
 |str
 |nil
 |nilp
 |ptr (key off:Nat)
 |own (id w:Nat)
 |clo (f:FuncId) (fs cs:List (Nat×Nat))
 |bsl (key n:Nat)
inductive TS where
 |dead
 |v (g:Bool) (cs:List CS)
 |tup (ps:List (Bool×List CS))
structure Sk where
 tmps:List TS
 aB:List (Nat×TypeId×List CS):=[]
 aC:List (Nat×TypeId×List Kd):=[]
inductive Ex where
 |normal
 |exit (id:Nat)
 |ret
def Spec:=∀R:Type,List TV->Mem->(TV->Mem->Option R)->Option R
def Hs:=∀R:Type,List AC->(Ex->St->Option R)->Option R
def GE:List (Nat×Spec)->FuncId->Option Spec
 |[],_=>none
 |(k,b)::l,f=>bif Nat.beq k f then some b else GE l f
structure Cfg where
 spec:FuncId->Option Spec
 eqOk:List TypeId:=[]
 tprom:List (Nat×TypeId):=[]
 prom:Nat->List (Nat×TypeId):=λ_=>[]
 loops:Nat->Option (Sk×Hs):=λ_=>none
 blocks:Nat->Option (Sk×Hs):=λ_=>none
 conds:Nat->Option (Sk×Hs):=λ_=>none
 pure:FuncId->Bool:=λ_=>true
 ro:FuncId->Bool:=λ_=>false
 lend:FuncId->Bool:=λ_=>false
 keepR:FuncId->Bool:=λ_=>false
 keepIn:Bool:=false
 ownOff:TypeId->List (Nat×TypeId):=λ_=>[]
 rowAs:Nat->Nat:=λd=>d
 ownBut:List Nat:=[]
 rowDst:List Nat:=[]
 cuts:List Nat:=[]
 fstore:Bool:=false
 ownRes:Bool:=false
 unroll:List Nat:=[]
section prog
variable (P:Program)
def B7 (t:TypeId):Option Bool:=
 match P.underlying t with
 |some (.struct _)=>some true
 |some (.array _ _)=>some true
 |some _=>some false
 |none=>none
def szT (t:TypeId):Option Nat:=
 match P.info? t with
 |some i=>some i.size
 |none=>none
def HU (t:TypeId):Option (List AC):=
 match P.info? t with
 |some i=>match i.zero with
  |some v=>Hq v.cells.toList
  |none=>none
 |none=>none
def QW (t:TypeId) (i:Nat):Option Field:=
 match P.underlying t with
 |some (.struct fs)=>fs.toList[i]?
 |_=>none
def Cp (agg:Bool) (sz:Nat) (cells:List AC) (off:Nat):Option TV:=
 bif agg then(bif Nat.ble (off+sz) cells.length then some (.agg (cut cells off sz))else none)
 else match cells[off]? with
  |some a=>some (.c a)
  |none=>none
def G5 (t:TypeId) (n:Nat):Bool:=
 match B7 P t with
 |some true=>true
 |some false=>Nat.beq n 1
 |none=>false
def Hx {β:Type} (g:β->Option Bool):List β->Option Bool
 |[]=>some true
 |x::l=>match g x with
  |some b=>match Hx g l with
   |some b'=>some (b&&b')
   |none=>none
  |none=>none
def eqC (ok:List TypeId):Nat->TypeId->List AC->List AC->Option Bool
 |0,_,_,_=>none
 |d+1,t,xs,ys=>
  match P.underlying t with
  |some .bool=>match xs,ys with
   |[.bool a],[.bool b]=>some (a==b)
   |_,_=>none
  |some (.int _)=>match xs,ys with
   |[.int k a],[.int k' b]=>bif kEq k k' then some (a==b)else none
   |_,_=>none
  | some (.struct fs) => bif ok.elem t then Hx (λf : Field => bif f.name == "_" then none else match szT P f.type with
    |some n=>bif(Nat.ble (f.offset+n) xs.length&&Nat.ble (f.offset+n) ys.length&&G5 P f.type n)then eqC ok d f.type (cut xs f.offset n) (cut ys f.offset n)else none
    |none=>none) fs.toList else none
  |some (.array n e)=>match szT P e with
   |some m=>bif(Nat.ble (n*m) xs.length&&Nat.ble (n*m) ys.length&&G5 P e m)then Hx (λi=>eqC ok d e (cut xs (i*m) m) (cut ys (i*m) m)) (List.range n)else none
   |none=>none
  |_=>none
def FF (i:Int):(todo k:Nat)->(Nat->Option R)->Option R
 |0,_,_=>none
 |n+1,k,K=>cond (decide (i=(k:Int))) (K k) (FF i n (k+1) K)
def KT (t:TypeId) (cs:List AC) (off:Nat):Option TV:=
 match B7 P t,szT P t with
 |some a,some sz=>Cp a sz cs off
 |_,_=>none
def Hm (place:Nat->Option (Nat×Nat)):List AC->List (Nat×TV)->Option (List AC)
 |cells,[]=>some cells
 |cells,(i,v)::rest=>
  match place i,v.cells with
  |some (off,size),some cs=>bif(Nat.beq cs.length size&&Nat.ble (off+size) cells.length)then Hm place (splice cells off cs) rest else none
  |_,_=>none
def Qp4 (g:TypeId->Option (List Kd)):List Field->Nat->Option (List Kd)
 |[],_=>some []
 |f::fs,o=>match g f.type with
  | some ks => bif Nat.beq f.offset o then (match Qp4 g fs (o + ks.length) with
   |some l=>some (ks++l)
   |none=>none)else none
  |none=>none
def OC (ks:List Kd):Nat->List Kd
 |0=>[]
 |n+1=>ks++OC ks n
def E9:Nat->TypeId->Option (List Kd)
 |0,_=>none
 |n+1,t=>match P.underlying t with
  |some .bool=>some [.bool]
  |some (.int k)=>some [.int k]
  |some (.slice e)=>match E9 n e with
   |some ks=>some [.sl ks]
   |none=>none
  |some (.struct fs)=>Qp4 (E9 n) fs.toList 0
  |some (.array m e)=>match E9 n e with
   |some ks=>some (OC ks m)
   |none=>none
  |some _=>some [.raw]
  |none=>none
def Ka (zero:List AC):Nat->List AC
 |0=>[]
 |n+1=>zero++Ka zero n
def Ed (g:Int->Int->Int) (k:IntKind) (a:Int):List TV->(Prim->Option R)->Option R
 |[],K=>K (.val (.c (.int k a)))
 |t::rest,K=>match t with
  | .v false [.int k' b]=>bif kEq k k' then Ed g k (g a b) rest K else none
  |_=>none
def H8 (b:Builtin) (argTypes:List TypeId) (args:List TV) (K:Prim->Option R):Option R:=
 match b,args with
 | .len,[.v false [.vC _ l]]=>match argTypes with
  |t::_=>match P.underlying t with
   |some (.slice _)=>K (.val (.c (.int .i64 (l.length:Int))))
   |_=>none
  |[]=>none
 | .len,[.v false [.own _ _ n]]=>match argTypes with
  |t::_=>match P.underlying t with
   |some (.slice _)=>K (.val (.c (.int .i64 (n:Int))))
   |_=>none
  |[]=>none
 | .len,[.v false [.bsl _ n]]=>match argTypes with
  |t::_=>match P.underlying t with
   |some (.slice _)=>K (.val (.c (.int .i64 (n:Int))))
   |_=>none
  |[]=>none
 | .len,[.v false [.nilSl]]=>match argTypes with
  |t::_=>match P.underlying t with
   |some (.slice _)=>K (.val (.c (.int .i64 0)))
   |_=>none
  |[]=>none
 | .len,[.v true _]=>match argTypes with
  |t::_=>match P.underlying t with
   |some (.array n _)=>K (.val (.c (.int .i64 (n:Int))))
   |_=>none
  |[]=>none
 | .min, .v false [.int k a]::rest=>Ed mn k a rest K
 | .max, .v false [.int k a]::rest=>Ed mx k a rest K
 | .append,[.c s, .c x]=>match argTypes with
  |[t,u]=>match P.underlying t,P.underlying u with
   |some (.slice e),some (.slice _)=>match P.info? e,E9 P 8 e with
    |some i,some ks=>match i.zero with
     |some z=>bif(Nat.beq t u&&Nat.beq z.cells.size i.size&&Nat.beq ks.length i.size)then K (.append e ks i.bytes s x)else none
     |none=>none
    |_,_=>none
   |_,_=>none
  |_=>none
 |_,_=>none
def II (D:Operand->TV):Option Operand->Option (Option Int)
 |none=>some none
 |some x=>match(D x).int? with
  |some n=>some (some n)
  |none=>none
def BH (D:Operand->TV):List Operand->List TV
 |[]=>[]
 |x::l=>D x::BH D l
def E6 (D:Operand->TV):List (Nat×Operand)->List (Nat×TV)
 |[]=>[]
 |x::l=>(x.1,D x.2)::E6 D l
def Jz (f:Field):Bool:=
 match szT P f.type with
 |some _=>true
 |none=>false
def TN (fs:List Field) (i:Nat):Option (Nat×Nat):=
 match fs[i]? with
 |some f=>match szT P f.type with
  |some n=>some (f.offset,n)
  |none=>none
 |none=>none
variable (C:Cfg)
def Qa (dst:Option Tmp) (n:Nat):Bool:=match dst with
 |some d=>C.rowDst.elem d||Nat.beq n 0
 |none=>false
def AC.isClo:AC->Bool
 | .clo _ _ _=>true
 |_=>false
def AC.clOk:AC->Bool
 | .int _ _| .bool _| .raw _| .nilSl| .vC _ _| .ptr _ _=>true
 |_=>false
def H0:List TV->Option (List AC)
 |[]=>some []
 | .v false [a] :: l => bif a.clOk then (match H0 l with
  |some r=>some (a::r)
  |none=>none)else none
 |_=>none
def opK (D:Operand->TV) (dst:Option Tmp) (o:Op) (K:Prim->Option R):Option R:=
 match o with
 | .move x=>K (.val (D x))
 | .assign x=>K (.val (D x))
 | .pick c a b=>match D c with
  | .v false [.bool g]=>cond g (K (.val (D a))) (K (.val (D b)))
  |_=>none
 | .alloc t=>match HU P t with
  |some cs=>K (.new t cs)
  |none=>none
 | .box t x=>match(D x).cells with
  |some cs=>K (.new t cs)
  |none=>none
 | .build t parts=>match HU P t,P.underlying t with
  |some z,some (.struct fs)=>bif Ai (Jz P) fs.toList then match Hm (TN P fs.toList) z (E6 D parts.toList)with
   |some cs=>K (.val (.agg cs))
   |none=>none else none
  |some z,some (.array _ e)=>match szT P e with
   |some n=>match Hm (λi=>some (i*n,n)) z (E6 D parts.toList)with
    |some cs=>K (.val (.agg cs))
    |none=>none
   |none=>none
  |_,_=>none
 | .buildSlice t n parts=>match P.underlying t with
  |some (.slice e)=>match szT P e,HU P e,E9 P 8 e with
   |some w,some z,some ks=>bif(Nat.beq z.length w&&Nat.beq ks.length w&&Nat.ble 1 w&&Nat.ble (n*w) 65536)then match Hm (λi=>some (i*w,w)) (Ka z n) (E6 D parts.toList)with
    |some cs=>match GQ ks n cs with
     |some l=>cond (Qa C dst n) (K (.newRow e ks l)) (K (.newView e ks l))
     |none=>bif Ai AC.isClo cs&&Nat.beq w 1 then K (.newS e n cs)else none
    |none=>none else none
   |_,_,_=>none
  |_=>none
 | .makeSlice t len cap=>match P.underlying t,(D len).int?,(D cap).int? with
  |some (.slice e),some n,some c=>match P.info? e,HU P e,E9 P 8 e with
   |some i,some z,some ks=>match GR ks z with
    |some J=>bif(Nat.beq ks.length i.size&&Nat.ble 1 i.size&&Nat.ble 1 i.bytes)then cond (decide (n=c)) (K (.make e ks i.bytes n J)) none else none
    |none=>none
   |_,_,_=>none
  |_,_,_=>none
 | .makeFunc L first captured=>match L with
  | .func f=>match H0 (BH D first.toList),H0 (BH D captured.toList)with
   |some fs,some cs=>K (.val (.c (.clo f fs cs)))
   |_,_=>none
  |_=>none
 | .load t a=>match B7 P t,szT P t with
  |some g,some sz=>match D a with
   | .v false [.ptr key off]=>K (.load g sz key off)
   | .v false [.vptr cells sub]=>match Cp g sz cells sub with
    |some v=>K (.val v)
    |none=>none
   | .v false [.rptr id idx sub]=>K (.rload g sz id idx sub)
   |_=>none
  |_,_=>none
 | .store t a x=>match szT P t,(D x).cells with
  |some sz,some cs=>bif Nat.beq cs.length sz then match D a with
    | .v false [.ptr key off]=>K (.store key off cs)
    | .v false [.rptr id idx sub]=>K (.rstore id idx sub cs)
    |_=>none else none
  |_,_=>none
 | .nilCheck x=>match D x with
  | .v false [.ptr key off]=>K (.val (.c (.ptr key off)))
  | .v false [.rptr id idx sub]=>K (.val (.c (.rptr id idx sub)))
  | .v false [.vptr cs sub]=>K (.val (.c (.vptr cs sub)))
  |_=>none
 | .binOp op t x y _=>match D x,D y with
  | .v false [.int k a], .v false [.int k' b]=>bif kEq k k'||KC op then Fw op k a b λv=>K (.val (.c v))else none
  | .v false [.bool a], .v false [.bool b]=>match P.underlying t,op with
   |some .bool, .eql=>K (.val (.c (.bool (a==b))))
   |some .bool, .neq=>K (.val (.c (.bool (!(a==b)))))
   |_,_=>none
  | .v false [.raw (.string a)], .v false [.raw (.string b)]=>match op with
   | .eql=>K (.val (.c (.bool (a.toList==b.toList))))
   | .neq=>K (.val (.c (.bool (!(a.toList==b.toList)))))
   | .add=>cond (Nat.ble (a.size+b.size) 9223372036854775807) (K (.val (.c (.raw (.string (a++b)))))) none
   |_=>none
  | .v false [.ptr _ _], .v false [.raw (.pointer none)]=>match P.underlying t,op with
   |some (.pointer _), .eql=>K (.val (.c (.bool false)))
   |some (.pointer _), .neq=>K (.val (.c (.bool true)))
   |_,_=>none
  | .v false [.raw (.pointer none)], .v false [.raw (.pointer none)]=>match P.underlying t,op with
   |some (.pointer _), .eql=>K (.val (.c (.bool true)))
   |some (.pointer _), .neq=>K (.val (.c (.bool false)))
   |_,_=>none
  | .v true xs, .v true M=>bif P.eqGuardType P.depth t then none else match B7 P t,eqC P C.eqOk 20 t xs M,op with
   |some true,some r, .eql=>K (.val (.c (.bool r)))
   |some true,some r, .neq=>K (.val (.c (.bool (!r))))
   |_,_,_=>none
  |_,_=>none
 | .unOp op _ x=>match op,D x with
  | .neg, .v false [.int k n]=>K (.val (.c (.int k (k.wrap (0-n)))))
  | .not, .v false [.bool b]=>K (.val (.c (.bool (!b))))
  |_,_=>none
 | .convert src dst x=>match P.underlying src,P.underlying dst,D x with
  |some _,some (.int k), .v false [.int _ n]=>K (.val (.c (.int k (k.wrap n))))
  |_,_,_=>none
 | .fieldAddr t x i=>match QW P t i with
  |some f=>match szT P f.type with
   |some (_+1)=>match D x with
    | .v false [.ptr key off]=>K (.val (.c (.ptr key (off+f.offset))))
    | .v false [.rptr id idx sub]=>K (.val (.c (.rptr id idx (sub+f.offset))))
    | .v false [.vptr cs sub]=>K (.val (.c (.vptr cs (sub+f.offset))))
    |_=>none
   |_=>none
  |none=>none
 | .field t x i=>match QW P t i,D x with
  |some f, .v true cs=>match KT P f.type cs f.offset with
   |some v=>K (.val v)
   |none=>none
  |_,_=>none
 | .indexAddr t x I=>match(D I).int?,P.underlying t with
  |some i,some (.array n e)=>match szT P e,D x with
   |some m, .v false [.ptr key off]=>FF i n 0 λj=>K (.val (.c (.ptr key (off+j*m))))
   |some m, .v false [.rptr id idx sub]=>FF i n 0 λj=>K (.val (.c (.rptr id idx (sub+j*m))))
   |some m, .v false [.vptr cs sub]=>FF i n 0 λj=>K (.val (.c (.vptr cs (sub+j*m))))
   |_,_=>none
  |some i,some (.slice e)=>match szT P e,D x with
   |some m, .v false [.vC ks l]=>bif Nat.beq m ks.length then cond (decide (0<=i)&&decide (i<(l.length:Int))) (K (.val (.c (.vptr (AF ks (nth [] l i.toNat)) 0)))) none else none
   |some m, .v false [.own id w n]=>bif Nat.beq m w then cond (decide (0<=i)&&decide (i<(n:Int))) (K (.val (.c (.rptr id i.toNat 0)))) none else none
   |some m, .v false [.bsl key n]=>bif Nat.beq m 1 then FF i n 0 λj=>K (.val (.c (.ptr key j)))else none
   |_,_=>none
  |_,_=>none
 | .index t x I=>match(D I).int?,P.underlying t,D x with
  |some i,some (.array n e), .v true cs=>match szT P e with
   |some m=>FF i n 0 λj=>match KT P e cs (j*m)with
    |some v=>K (.val v)
    |none=>none
   |none=>none
  |_,_,_=>none
 | .slice t x E G mx=>match mx,II D E,II D G,P.underlying t with
  |none,some E,some G,some (.slice e)=>match szT P e,D x with
   |some m, .v false [.vC ks l]=>bif Nat.beq m ks.length then
    match E,G with
    |none,none=>K (.val (.c (.vC ks l)))
    |some a,none=>cond (decide (0<=a)&&decide (a<=(l.length:Int))) (K (.val (.c (.vC ks (l.drop a.toNat))))) none
    |none,some b=>cond (decide (0<=b)&&decide (b<=(l.length:Int))) (K (.val (.c (.vC ks (l.take b.toNat))))) none
    |some a,some b=>cond (decide (0<=a)&&decide (a<=b)&&decide (b<=(l.length:Int))) (K (.val (.c (.vC ks ((l.take b.toNat).drop a.toNat))))) none
    else none
   |some m, .v false [.own id w n]=>match E,G with
    |some a,none=>bif Nat.beq m w then cond (decide (0<=a)&&decide (a<=(n:Int))) (K (.cutR id a.toNat)) none else none
    |_,_=>none
   |some _, .v false [.nilSl]=>match E,G with
    |none,none=>K (.val (.c .nilSl))
    |some a,none=>cond (decide (a=0)) (K (.val (.c .nilSl))) none
    |none,some b=>cond (decide (b=0)) (K (.val (.c .nilSl))) none
    |some a,some b=>cond (decide (a=0)&&decide (b=0)) (K (.val (.c .nilSl))) none
   |_,_=>none
  |_,_,_,_=>none
 | .extract t i=>match D t with
  | .tup ps=>match ps[i]? with
   |some (g,cs)=>K (.val (.v g cs))
   |none=>none
  |_=>none
 | .call c=>match c.callee with
  | .builtin b=>H8 P b c.argTypes.toList (BH D c.args.toList) K
  | .value (.func f)=>cond (C.pure f) (K (.call f (BH D c.args.toList))) (K (.callM f (BH D c.args.toList)))
  | .value (.tmp t)=>match D (.tmp t)with
   | .v false [.clo f fs cs]=>bif Ai AC.clOk fs&&Ai AC.clOk cs then K (.callM f (fs.map TV.c++(BH D c.args.toList++cs.map TV.c)))else none
   |_=>none
  |_=>none
 |_=>none
def AK (tmps:List TV):Operand->TV
 | .tmp t=>nth .dead tmps t
 | .const v=>ofValue v
 |_=> .dead
def AC.kill (id:Nat):AC->AC
 | .own j w n=>bif Nat.beq j id then .dead else .own j w n
 | .rptr j a b=>bif Nat.beq j id then .dead else .rptr j a b
 |a=>a
def TV.kill (id:Nat):TV->TV
 | .v g cs=> .v g (cs.map (AC.kill id))
 | .tup ps=> .tup (ps.map λp=>(p.1,p.2.map (AC.kill id)))
 | .dead=> .dead
def Box.kill (id:Nat) (b:Box):Box:=⟨b.ty,b.cells.map (AC.kill id)⟩
def AC.fz (id:Nat) (ks:List Kd) (l:List (List AC)):AC->AC
 | .own j w n=>bif Nat.beq j id then .vC ks l else .own j w n
 | .rptr j a b=>bif Nat.beq j id then .dead else .rptr j a b
 |a=>a
def TV.fz (id:Nat) (ks:List Kd) (l:List (List AC)):TV->TV
 | .v g cs=> .v g (cs.map (AC.fz id ks l))
 | .tup ps=> .tup (ps.map λp=>(p.1,p.2.map (AC.fz id ks l)))
 | .dead=> .dead
def Box.fz (id:Nat) (ks:List Kd) (l:List (List AC)) (b:Box):Box:=⟨b.ty,b.cells.map (AC.fz id ks l)⟩
def del {α:Type} (id:Nat):List (Nat×α)->List (Nat×α)
 |[]=>[]
 |(k,b)::l=>bif Nat.beq k id then del id l else(k,b)::del id l
def Hi:List Nat->St->(St->Option R)->Option R
 |[],s,K=>K s
 |id::l,⟨tmps,aB,aC⟩,K=>match Ab aC id with
  |some r=>AL (tmps.map (TV.fz id r.ks r.l)) λE=>AL (aB.map λp=>(p.1,p.2.fz id r.ks r.l)) λD=>AL (del id aC) λG=>Hi l ⟨E,D,G⟩ K
  |none=>Hi l ⟨tmps,aB,aC⟩ K
def AC.res (aC:List (Nat×Row)):AC->Option AC
 | .own id _ _=>match Ab aC id with
  |some r=>some (.vC r.ks r.l)
  |none=>none
 | .int k n=>some (.int k n)
 | .bool b=>some (.bool b)
 | .raw v=>some (.raw v)
 | .nilSl=>some .nilSl
 | .vC ks l=>some (.vC ks l)
 |_=>none
def DJ (aC:List (Nat×Row)):List AC->Option (List AC)
 |[]=>some []
 |a::l=>match a.res aC with
  |some D=>match DJ aC l with
   |some E=>some (D::E)
   |none=>none
  |none=>none
def TV.res (aC:List (Nat×Row)):TV->Option TV
 | .v g cs=>match DJ aC cs with
  |some l=>some (.v g l)
  |none=>none
 |_=>none
def Ep (aC:List (Nat×Row)):List TV->Option (List TV)
 |[]=>some []
 |a::l=>match a.res aC with
  |some D=>match Ep aC l with
   |some E=>some (D::E)
   |none=>none
  |none=>none
def AC.isOwn:AC->Bool
 | .own _ _ _=>true
 |_=>false
def TV.hasOwn:TV->Bool
 | .v _ cs=>cs.any AC.isOwn
 |_=>true
def AC.flat:AC->Bool
 | .int _ _| .bool _| .raw _| .nilSl=>true
 |_=>false
def TV.flat:TV->Bool
 | .v _ cs=>Ai AC.flat cs
 | .tup ps=>Ai (λp:Bool×List AC=>Ai AC.flat p.2) ps
 | .dead=>false
def TV.plainB:TV->Bool
 | .v _ cs=>Ai AC.plain cs
 | .tup ps=>Ai (λp:Bool×List AC=>Ai AC.plain p.2) ps
 | .dead=>false
def Prim.dr:Bool->Prim->Prim
 |false, .callM f args=>bif Ai TV.plainB args then .callF f args else .callD f args
 |false, .append e ks b s x=> .appD e ks b s x
 |_,p=>p
def F4 (aC:List (Nat×Row)) (ks:List Kd):AC->Option (List (List AC))
 | .nilSl=>some []
 | .vC D l=>bif Cj ks D then some l else none
 | .own id _ _=>match Ab aC id with
  |some r=>bif Cj ks r.ks then some r.l else none
  |none=>none
 |_=>none
def put (s:St) (dst:Option Tmp) (v:TV) (K:St->Option R):Option R:=
 match dst with
 |none=>K s
 |some d=>match s with
  |⟨tmps,aB,aC⟩=>AL (setL tmps d v) λl=>K ⟨l,aB,aC⟩
def AC.keys:AC->List Nat
 | .ptr k _=>[k]
 | .bsl k _=>[k]
 | .clo _ fs cs=>keysL fs++keysL cs
 |_=>[]
 where keysL:List AC->List Nat
 |[]=>[]
 | .ptr k _::l=>k::keysL l
 |_::l=>keysL l
def AC.ids:AC->List Nat
 | .own id _ _=>[id]
 |_=>[]
def cat {α β:Type} (g:α->List β):List α->List β
 |[]=>[]
 |a::l=>g a++cat g l
def TV.cellsOf:TV->List AC
 | .v _ cs=>cs
 | .tup ps=>cat (λp:Bool×List AC=>p.2) ps
 | .dead=>[]
def Oe (n:Nat):List Nat->List Nat
 |[]=>[n]
 |m::l=>bif Nat.beq m n then m::l else m::Oe n l
def AZ:List Nat->List Nat->List Nat
 |[],l=>l
 |n::D,l=>AZ D (Oe n l)
def DM (aB:List (Nat×Box)) (k:Nat):List AC:=match Ab aB k with
 |some b=>b.cells
 |none=>[]
def Znz (aB:List (Nat×Box)) (keys:List Nat):List Nat:=AZ (cat (λk=>cat AC.keys (DM aB k)) keys) keys
def Jn (aB:List (Nat×Box)):Nat->List Nat->List Nat
 |0,l=>l
 |n+1,l=>Jn aB n (Znz aB l)
def Lf (aB:List (Nat×Box)) (cells:List AC) (keys:List Nat):List Nat:=
 AZ (cat AC.ids cells++cat (λk=>cat AC.ids (DM aB k)) keys) []
def pos:List Nat->Nat->Nat
 |[],_=>0
 |m::l,n=>bif Nat.beq m n then 0 else pos l n+1
def AI:List Nat->Nat->Bool
 |[],_=>false
 |m::l,n=>bif Nat.beq m n then true else AI l n
def AC.ren (rk ri:Nat->Nat):AC->AC
 | .ptr k o=> .ptr (rk k) o
 | .bsl k n=> .bsl (rk k) n
 | .own id w n=> .own (ri id) w n
 | .rptr id i s=> .rptr (ri id) i s
 | .clo f fs cs=> .clo f (renP rk fs) (renP rk cs)
 |a=>a
 where renP (rk:Nat->Nat):List AC->List AC
 |[]=>[]
 | .ptr k o::l=> .ptr (rk k) o::renP rk l
 |a::l=>a::renP rk l
def TV.ren (D ri:Nat->Nat):TV->TV
 | .v g cs=> .v g (cs.map (AC.ren D ri))
 | .tup ps=> .tup (ps.map λp=>(p.1,p.2.map (AC.ren D ri)))
 | .dead=> .dead
def AC.inK (keys ids:List Nat):AC->Bool
 | .ptr k _=>AI keys k
 | .bsl k _=>AI keys k
 | .own id _ _=>AI ids id
 | .rptr id _ _=>AI ids id
 | .clo _ fs cs=>Ai (inP keys) fs&&Ai (inP keys) cs
 |_=>true
 where inP (keys:List Nat):AC->Bool
 | .ptr k _=>AI keys k
 |_=>true
def TV.inK (keys ids:List Nat):TV->Bool
 | .v _ cs=>Ai (AC.inK keys ids) cs
 | .tup ps=>Ai (λp:Bool×List AC=>Ai (AC.inK keys ids) p.2) ps
 | .dead=>true
def CK (aB:List (Nat×Box)) (D ri:Nat->Nat):Nat->List Nat->Option (List (Nat×Box))
 |_,[]=>some []
 |b,k::ks=>match Ab aB k with
  |some x=>match CK aB D ri (b+1) ks with
   |some l=>some ((b,⟨x.ty,x.cells.map (AC.ren D ri)⟩)::l)
   |none=>none
  |none=>none
def Eg (aC:List (Nat×Row)):Nat->List Nat->Option (List (Nat×Row))
 |_,[]=>some []
 |b,k::ks=>match Ab aC k with
  |some x=>match Eg aC (b+1) ks with
   |some l=>some ((b,x)::l)
   |none=>none
  |none=>none
def base:Nat:=20000
def Bj (names fresh:List Nat) (d:Nat) (n:Nat):Nat:=
 bif Nat.ble base n&&Nat.blt (n-base) names.length then nth 0 names (n-base)else 100000+100*d+pos fresh n
def A7 {α:Type} (names:List Nat):List (Nat×α)->List Nat
 |[]=>[]
 |(k,_)::l=>bif Nat.ble base k&&Nat.blt (k-base) names.length then A7 names l else k::A7 names l
def Cy {α:Type}:List Nat->List (Nat×α)->List (Nat×α)
 |[],l=>l
 |k::ks,l=>Cy ks (del k l)
def H2 (D ri:Nat->Nat):List (Nat×Box)->List (Nat×Box)->List (Nat×Box)
 |[],l=>l
 |(k,b)::m,l=>H2 D ri m (ins l (D k) ⟨b.ty,b.cells.map (AC.ren D ri)⟩)
def GM (ri:Nat->Nat):List (Nat×Row)->List (Nat×Row)->List (Nat×Row)
 |[],l=>l
 |(k,b)::m,l=>GM ri m (ins l (ri k) b)
def Cb (keys:List Nat):List (Nat×Box)->List (Nat×Box)->List (Nat×Box)
 |[],l=>l
 |(k,b)::m,l=>Cb keys m (upd l (nth 0 keys (k-base)) b)
def Gr (ids:List Nat) (v:TV):TV:=match ids with
 |[]=>v
 |id::l=>Gr l (v.kill id)
def CJ (ids:List Nat) (b:Box):Box:=match ids with
 |[]=>b
 |id::l=>CJ l (b.kill id)
def GG {α:Type} (l:List (Nat×α)) (k:Nat):Bool:=match Ab l k with
 |some _=>false
 |none=>true
def Bz:List Nat->Bool
 |[]=>true
 |k::l=>bif AI l k then false else Bz l
def DA {α:Type} (l:List (Nat×α)) (k:Nat):Bool:=match Ab l k with
 |some _=>true
 |none=>false
def Gk (d:Nat):Nat:=100000+100*d
def AC.relen (id D:Nat):AC->AC
 | .own j w n=>bif Nat.beq j id then .own j w D else .own j w n
 | .rptr j a b=>bif Nat.beq j id then .dead else .rptr j a b
 |a=>a
def TV.relen (id D:Nat):TV->TV
 | .v g cs=> .v g (cs.map (AC.relen id D))
 | .tup ps=> .tup (ps.map λp=>(p.1,p.2.map (AC.relen id D)))
 | .dead=> .dead
def Box.relen (id D:Nat) (b:Box):Box:=⟨b.ty,b.cells.map (AC.relen id D)⟩
def YC:List TV->Option Nat
 | .v false [.own id _ _]::rest=>bif Ai TV.plainB rest then some id else none
 |_=>none
def Pj (g:Spec) (args:List TV) (tmps:List TV) (aB:List (Nat×Box)) (aC:List (Nat×Row)) (K:TV->St->Option R):Option R:=
 match YC args with
 |some id=>match Ab aC id with
  |some r=>g R (args.map (TV.ren (λk=>base+pos [] k) (λi=>base+pos [id] i))) ⟨[],[(base,r)]⟩ λv m=>match m with
   |⟨[],[(k,r')]⟩=>bif Nat.beq k base&&Nat.beq r'.ty r.ty&&Cj r'.ks r.ks&&v.plainB then
     AL (tmps.map (TV.relen id r'.l.length)) λE=>AL (aB.map λp=>(p.1,p.2.relen id r'.l.length)) λD=>AL (upd aC id r') λG=>K v ⟨E,D,G⟩else none
   |_=>none
  |none=>none
 |none=>none
def A6 (dst:Option Tmp) (p:Prim) (s:St) (K:TV->St->Option R):Option R:=
 match s with
 |⟨tmps,aB,aC⟩=>
 match p with
 | .val v=>K v ⟨tmps,aB,aC⟩
 | .load g sz key off=>match Ab aB key with
  |some b=>match Cp g sz b.cells off with
   |some v=>K v ⟨tmps,aB,aC⟩
   |none=>none
  |none=>none
 | .store key off cs=>match Ab aB key with
  |some b=>bif Nat.ble (off+cs.length) b.cells.length then
    AL (splice b.cells off cs) λcells=>AL (upd aB key ⟨b.ty,cells⟩) λD=>K .dead ⟨tmps,D,aC⟩
   else none
  |none=>none
 | .new ty cs=>match dst with
  |some d=>match Ab aB d with
   |some _=>none
   |none=>AL (ins aB d ⟨ty,cs⟩) λD=>K (.c (.ptr d 0)) ⟨tmps,D,aC⟩
  |none=>none
 | .newS ty n cs=>match dst with
  |some d=>match Ab aB d with
   |some _=>none
   |none=>AL (ins aB d ⟨ty,cs⟩) λD=>K (.c (.bsl d n)) ⟨tmps,D,aC⟩
  |none=>none
 | .cutR id a=>match Ab aC id with
  |some r=>bif Nat.ble a r.l.length then
    AL (tmps.map (TV.kill id)) λG=>
    AL (aB.map λp=>(p.1,p.2.kill id)) λD=>
    AL (upd aC id ⟨r.ty,r.ks,r.l.drop a⟩) λE=>
    K (.c (.own id r.ks.length (r.l.drop a).length)) ⟨G,D,E⟩
   else none
  |none=>none
 | .rload g sz id idx sub=>match Ab aC id with
  |some r=>match Cp g sz (r.f idx) sub with
   |some v=>K v ⟨tmps,aB,aC⟩
   |none=>none
  |none=>none
 | .rstore id idx sub cs=>match Ab aC id with
  |some r=>bif Nat.ble (sub+cs.length) r.w&&Ai AC.plain cs then
    match GR r.ks (splice (r.f idx) sub cs)with
    |some c=>AL (upd aC id ⟨r.ty,r.ks,r.l.set idx c⟩) λE=>K .dead ⟨tmps,aB,E⟩
    |none=>none else none
  |none=>none
 | .newRow e ks l=>match dst with
  |some d=>match Ab aC (C.rowAs d)with
   |some _=>none
   |none=>AL (ins aC (C.rowAs d) ⟨e,ks,l⟩) λE=>K (.c (.own (C.rowAs d) ks.length l.length)) ⟨tmps,aB,E⟩
  |none=>none
 | .newView _ ks l=>K (.c (.vC ks l)) ⟨tmps,aB,aC⟩
 | .make e ks bytes n z=>match dst with
  |some d=>match Ab aC d with
   |some _=>none
   |none=>cond (decide (0<=n)&&decide (n*(bytes:Int)<=140737488355328))
     (AL (ins aC d ⟨e,ks,List.replicate n.toNat z⟩) λE=>K (.c (.own d ks.length (List.replicate n.toNat z).length)) ⟨tmps,aB,E⟩) none
  |none=>none
 | .append e ks bytes s x=>match F4 aC ks x with
  |some m=>match s with
   | .nilSl=>match dst with
    |some d=>match Ab aC d with
     |some _=>none
     |none=>bif(Nat.ble 1 ks.length&&Nat.ble 1 bytes)then cond (Nat.ble (m.length*bytes) 140737488355328) (AL (ins aC d ⟨e,ks,m⟩) λE=>K (.c (.own d ks.length m.length)) ⟨tmps,aB,E⟩) none else none
    |none=>none
   | .own id _ _=>match Ab aC id with
    |some r=>bif(Cj ks r.ks&&Nat.beq r.ty e&&Nat.ble 1 bytes)then
      cond (Nat.ble ((r.l ++ m).length * bytes) 140737488355328) (
       AL (tmps.map (TV.kill id)) λG=>
       AL (aB.map λp=>(p.1,p.2.kill id)) λD=>
       AL (upd aC id ⟨e,r.ks,r.l++m⟩) λE=>
       K (.c (.own id r.ks.length (r.l++m).length)) ⟨G,D,E⟩) none
     else none
    |none=>none
   |_=>none
  |none=>none
 | .appD e ks bytes s x=>match F4 aC ks x with
  |some m=>match s with
   | .own id _ _=>match Ab aC id with
    |some r=>bif(Cj ks r.ks&&Nat.beq r.ty e&&Nat.ble 1 bytes)then
      cond (Nat.ble ((r.l ++ m).length * bytes) 140737488355328) (
       AL (tmps.map (TV.kill id)) λG=>
       AL (aB.map λp=>(p.1,p.2.kill id)) λD=>
       AL (upd aC id ⟨e,r.ks,r.l++m⟩) λE=>
       K (.c (.own id r.ks.length (r.l++m).length)) ⟨G,D,E⟩) none
     else none
    |none=>none
   | .nilSl=>match dst with
    |some d=>match Ab aC d with
     |some _=>none
     | none => bif (Nat.ble 1 ks.length && Nat.ble 1 bytes) then cond (Nat.ble (m.length * bytes) 140737488355328) (
       AL (tmps.map (TV.kill d)) λG=>
       AL (aB.map λp=>(p.1,p.2.kill d)) λD=>
       AL (ins aC d ⟨e,ks,m⟩) λE=>K (.c (.own d ks.length m.length)) ⟨G,D,E⟩) none else none
    |none=>none
   |_=>none
  |none=>none
 | .call f args=>match C.spec f with
  |some g=>match Ep aC args with
   |some as=>g R as ⟨[],[]⟩ λv m=>match m with
    |⟨[],[]⟩=>bif((!(args.any TV.hasOwn)||v.flat)&&v.plainB)then K v ⟨tmps,aB,aC⟩else none
    |_=>none
   |none=>none
  |none=>none
 | .callM f args=>match C.spec f with
  |some g=>bif C.keepR f then Pj g args tmps aB aC K else
   AL (Jn aB 4 (AZ (cat AC.keys (cat TV.cellsOf args)) [])) λkeys=>
   AL (Lf aB (cat TV.cellsOf args) keys) λids=>
   bif Ai (TV.inK keys ids) args&&Ai (λk=>Ai (AC.inK keys ids) (DM aB k)) keys&&Bz keys&&Bz ids then
    match CK aB (λk=>base+pos keys k) (λi=>base+pos ids i) base keys,Eg aC base ids with
    |some L,some O=>g R (args.map (TV.ren (λk=>base+pos keys k) (λi=>base+pos ids i))) ⟨L,O⟩ λv m=>match m with
     |⟨I,J⟩=>
      AL (A7 keys I) λN=>AL (A7 ids J) λM=>
      bif Ai (λp:Nat×Box=>DA I p.1) L&&Bz (I.map (·.1))&&Bz (J.map (·.1))&&Ai (λk=>GG aB (Bj keys N (dst.getD 0) k)) N&&Ai (λk=>GG aC (Bj ids M (dst.getD 0) k)) M&&Nat.ble N.length 100&&Nat.ble M.length 100 then
       AL (tmps.map (Gr ids)) λG=>
       AL (H2 (Bj keys N (dst.getD 0)) (Bj ids M (dst.getD 0)) I ((Cy keys aB).map λp=>(p.1,CJ ids p.2))) λD=>
       AL (GM (Bj ids M (dst.getD 0)) J (Cy ids aC)) λE=>
       K (v.ren (Bj keys N (dst.getD 0)) (Bj ids M (dst.getD 0))) ⟨G,D,E⟩
      else none
    |_,_=>none
   else none
  |none=>none
 | .callD f args=>match C.spec f with
  |some g=>
   AL (AZ (cat AC.keys (cat TV.cellsOf args)) []) λkeys=>
   bif Ai (TV.inK keys []) args&&Ai (λk=>Ai AC.calm (DM aB k)) keys&&Bz keys then
    match CK aB (λk=>base+pos keys k) (λi=>base+pos [] i) base keys with
    |some L=>g R (args.map (TV.ren (λk=>base+pos keys k) (λi=>base+pos [] i))) ⟨L,[]⟩ λv m=>match m with
     |⟨I,[]⟩=>
      bif Ai (λp:Nat×Box=>DA I p.1) L&&Ai (λp:Nat×Box=>DA L p.1) I&&Bz (I.map (·.1))&&Ai (λp:Nat×Box=>Ai AC.calm p.2.cells) I&&v.plainB then
       AL (Cb keys I aB) λD=>K v ⟨tmps,D,aC⟩
      else none
     |⟨_,_::_⟩=>none
    |none=>none
   else none
  |none=>none
 | .callF f args=>match C.spec f with
  |some g=>bif Ai TV.plainB args then g R args ⟨[],[]⟩ λv m=>match m with
   |⟨[],[]⟩=>bif v.plainB then K v ⟨tmps,aB,aC⟩else none
   |⟨[],[(k,r)]⟩=>match v with
    | .v false [.own j _ _] => bif Nat.beq j k then (match Ab aC (Gk (dst.getD 0)) with
     |some _=>none
     |none=>AL (ins aC (Gk (dst.getD 0)) r) λE=>K (.c (.own (Gk (dst.getD 0)) r.ks.length r.l.length)) ⟨tmps,aB,E⟩)else none
    |_=>none
   |_=>none
   else none
  |none=>none
def Ny (ops:List Oper) (o:Oper) (s:St) (run skip:St->Option R):Option R:=
 match o.guard with
 |none=>run s
 |some (j,want)=>match ops[j]? with
  |some D=>match D.dst with
   |some t=>match nth .dead s.tmps t with
    | .v false [.bool g]=>cond g (put s (some t) (.c (.bool true)) (bif want then run else skip)) (put s (some t) (.c (.bool false)) (bif want then skip else run))
    | .tup []=>skip s
    |_=>none
   |none=>none
  |none=>none
def J4 (k o:Nat) (e:TypeId) (s:St) (K:St->Option R):Option R:=match s with
 |⟨tmps,aB,aC⟩=>match Ab aB k with
  |some b=>match nth .dead b.cells o with
   | .nilSl=>match E9 P 8 e with
    |some ks=>bif Nat.ble 1 ks.length&&GG aC (1000000+1000*k+o)then
      AL (ins aC (1000000+1000*k+o) ⟨e,ks,[]⟩) λE=>AL (setL b.cells o (.own (1000000+1000*k+o) ks.length 0)) λcells=>AL (upd aB k ⟨b.ty,cells⟩) λD=>K ⟨tmps,D,E⟩
     else none
    |none=>none
   |_=>K ⟨tmps,aB,aC⟩
  |none=>K ⟨tmps,aB,aC⟩
def HF:List (Nat×Nat×TypeId)->St->(St->Option R)->Option R
 |[],s,K=>K s
 |(k,o,e)::l,s,K=>J4 P k o e s λD=>HF l D K
def Dh:List Kd->List AC->List AC
 | .sl ks::l, .nilSl::cs=> .vC ks []::Dh l cs
 |_::l,a::cs=>a::Dh l cs
 |_,cs=>cs
def Qp (b:Box):Box:=match E9 P 8 b.ty with
 |some ks=>⟨b.ty,Dh ks b.cells⟩
 |none=>b
def HB:List (Nat×TypeId)->St->(St->Option R)->Option R
 |[],s,K=>K s
 |(t,e)::l,⟨tmps,aB,aC⟩,K=>match nth .dead tmps t with
  | .v false [.nilSl]=>match Ab aC t,E9 P 8 e with
   |none,some ks=>bif Nat.ble 1 ks.length then AL (setL tmps t (.c (.own t ks.length 0))) λD=>AL (ins aC t ⟨e,ks,[]⟩) λE=>HB l ⟨D,aB,E⟩ K else none
   |_,_=>none
  |_=>HB l ⟨tmps,aB,aC⟩ K
def GH (s:St) (K:St->Option R):Option R:=
 HF P (cat (λp:Nat×Box=>bif AI C.ownBut p.1 then []else(C.ownOff p.2.ty).map λq=>(p.1,q.1,q.2)) s.aB) s λE=>match E with
  |⟨tmps,aB,aC⟩=>AL (aB.map λp=>(p.1,Qp P p.2)) λD=>HB P C.tprom ⟨tmps,D,aC⟩ K
def Zrp:TV->Bool
 | .v false [.rptr _ _ _]=>true
 |_=>false
def Zp9 (C:Cfg):Operand->Bool
 | .tmp t=>AI C.cuts t
 |_=>false
def Qzc (D:Operand->TV) (o:Op):List Nat:=
 match o with
 | .slice _ x _ _ _=>bif Zp9 C x then []else cat AC.ids (TV.cellsOf (D x))
 | .store _ a x=>bif C.fstore||Zrp (D a)then cat AC.ids (TV.cellsOf (D x))else []
 | .buildSlice _ _ parts=>cat AC.ids (cat TV.cellsOf (parts.toList.map λp=>D p.2))
 | .makeFunc _ a b=>cat AC.ids (cat TV.cellsOf (BH D a.toList++BH D b.toList))
 | .call c=>match c.callee with
  | .value (.func f)=>bif C.lend f then []else cat AC.ids (cat TV.cellsOf (BH D c.args.toList))
  | .value _=>cat AC.ids (cat TV.cellsOf (BH D c.args.toList))
  |_=>[]
 |_=>[]
def Ts (o:Op):Bool:=match o with
 | .call c=>match c.callee with
  | .value (.func f)=> !(C.pure f)
  | .value _=>true
  |_=>false
 |_=>false
def G_ (o:Op) (s:St) (K:St->Option R):Option R:=
 Hi (Qzc C (AK s.tmps) o) s λD=>bif Ts C o then GH P C D K else K D
def En (pre:Bool) (ops:List Oper) (o:Oper) (s:St) (K:Option Prim->St->Option R):Option R:=
 Ny ops o s
  (λs=>(bif pre then G_ P C o.op s else λK=>K s) λs=>opK P C (AK s.tmps) o.dst o.op λp=>A6 C o.dst (p.dr pre) s λv D=>put D o.dst v (K (some (p.dr pre))))
  (λs=>put s o.dst (.tup []) (K none))
def Prim.simple:Option Prim->Bool
 |none=>true
 |some (.val _)=>true
 |some (.load _ _ _ _)=>true
 |some (.store _ _ _)=>true
 |some (.new _ _)=>true
 |some (.newView _ _ _)=>true
 |some (.rload _ _ _ _ _)=>true
 |some (.call _ _)=>true
 |some (.callD _ _)=>true
 |some (.callF _ _)=>true
 |some (.newRow _ _ _)=>true
 |some (.appD _ _ _ _ _)=>true
 |_=>false
def AC.live:AC->Bool
 | .int _ _| .bool _| .raw _| .nilSl| .vC _ _| .ptr _ _=>true
 |_=>false
def Prim.isPtr:Option Prim->Bool
 |some (.val (.v false [.ptr _ _]))=>true
 |_=>false
def Prim.isLive:Option Prim->Bool
 |some (.val (.v _ cs))=>Ai AC.live cs
 |_=>false
def Prim.isCallP:Option Prim->Bool
 |some (.call _ args)=>Ai TV.plainB args
 |_=>false
def Prim.isLoad:Option Prim->Bool
 |some (.load _ _ _ _)=>true
 |_=>false
def Q0k:Operand->Bool
 | .const _=>true
 |_=>false
def Prim.still (o:Op) (p:Option Prim):Bool:=match o with
 | .move _=>Prim.isLive p
 | .nilCheck _=>Prim.isPtr p
 | .fieldAddr _ _ _=>Prim.isPtr p
 | .call _=>Prim.isCallP p
 | .load _ _=>Prim.isLoad p
 | .build _ parts=>Ai (λq:Nat×Operand=>Q0k q.2) parts.toList&&Prim.isLive p
 |_=>false
def Prim.isApp:Option Prim->Bool
 |some (.appD _ _ _ _ _)=>true
 |_=>false
def Prim.isMk:Option Prim->Bool
 |some (.newRow _ _ _)=>true
 |some (.callF _ _)=>true
 |_=>false
def Prim.mkStill:Option Prim->Bool
 |none=>true
 |some (.val _)=>true
 |some (.load _ _ _ _)=>true
 |some (.newView _ _ _)=>true
 |some (.call _ args)=>Ai TV.plainB args
 |some (.newRow _ _ _)=>true
 |some (.callF _ _)=>true
 |_=>false
def Ha (y:Oper) (E:Option Prim) (x:Oper) (D:Option Prim):Bool:=
 bif Prim.isApp E then !(Prim.isApp D)&&y.guard.isNone&&x.guard.isNone&&Prim.still x.op D
 else bif Prim.isApp D then y.guard.isNone&&x.guard.isNone&&Prim.still y.op E
 else bif Prim.isMk E then Prim.mkStill D else bif Prim.isMk D then Prim.mkStill E else true
def Prim.meet (ro:FuncId->Bool):Option Prim->Option Prim->Bool
 |some (.load _ _ k _),some (.store k' _ _)=>Nat.beq k k'
 |some (.store k _ _),some (.load _ _ k' _)=>Nat.beq k k'
 |some (.store k _ _),some (.store k' _ _)=>Nat.beq k k'
 |some (.callD f as),some (.load _ _ k _)=> !(ro f)&&AI (AZ (cat AC.keys (cat TV.cellsOf as)) []) k
 |some (.callD _ as),some (.store k _ _)=>AI (AZ (cat AC.keys (cat TV.cellsOf as)) []) k
 |some (.load _ _ k _),some (.callD f as)=> !(ro f)&&AI (AZ (cat AC.keys (cat TV.cellsOf as)) []) k
 |some (.store k _ _),some (.callD _ as)=>AI (AZ (cat AC.keys (cat TV.cellsOf as)) []) k
 |some (.callD f _),some (.callD g _)=> !(ro f&&ro g)
 |_,_=>false
def QB (ops:List Oper):List Oper->St->(St->Option R)->Option R
 |[],s,K=>K s
 |o::l,s,K=>En P C true ops o s λ_ D=>QB ops l D K
def PV (m:List Nat):List Edge->Nat->Nat
 |[],acc=>acc
 |e::l,acc=>PV m l (bif Region.binds .any e then Nat.lor acc (Nat.lor (2^e.on) (nth 0 m e.on))else acc)
def Qy0 {α:Type} (n:Nat) (K:Nat->α):α:=match n with
 |0=>K 0
 |n+1=>K (n+1)
def Qz:List Oper->List Nat->(List Nat->Option R)->Option R
 |[],m,K=>K m
 |o::l,m,K=>Qy0 (PV m o.after.toList 0) λx=>AL (m++[x]) λD=>Qz l D K
def JJ (m:List Nat) (i j:Nat):Bool:=Nat.testBit (nth 0 m i) j
def Zcv:Op->Bool
 | .call _=>true
 | .makeSlice _ _ _=>true
 | .buildSlice _ _ _=>true
 | .store _ _ _=>true
 | .slice _ _ _ _ _=>true
 |_=>false
def C5 (ops:List Oper) (m:List Nat) (i:Nat):Bool:=match ops[i]? with
 |some o=>Zcv o.op&&Ai (λj=>Nat.beq j i||JJ m i j||JJ m j i) (List.range ops.length)
 |none=>false
def Ku (ops:List Oper) (m:List Nat):List Oper->Nat->St->(List (Oper×Option Prim)->St->Option R)->Option R
 |[],_,s,K=>K [] s
 |o::l,i,s,K=>En P C (C5 ops m i) ops o s λp D=>Ku ops m l (i+1) D λrest E=>K ((o,p)::rest) E
def Ij (ops:Array Oper) (m:List Nat):Nat->List (Nat×Oper×Option Prim)->List (Oper×Option Prim)->Bool
 |_,_,[]=>true
 |i,D,(o,p)::l=>
  bif(C5 ops.toList m i||Prim.simple p)&&o.after.toList.all (λe=> !(Region.binds .any e)||Nat.blt e.on i)&&Ai (λy:Nat×Oper×Option Prim=>JJ m i y.1||(!(C5 ops.toList m i)&& !(C5 ops.toList m y.1)&&(Oper.apart ops y.2.1 o&& !(Prim.meet C.ro y.2.2 p)&&Ha y.2.1 y.2.2 o p))) D then Ij ops m (i+1) (D++[(i,o,p)]) l else false
def We (ops:Array Oper) (draw:Bool) (s:St) (K:St->Option R):Option R:=
 bif draw then Qz ops.toList [] λm=>Ku P C ops.toList m ops.toList 0 s λacc D=>bif Ij C ops m 0 [] acc then K D else none
 else QB P C ops.toList ops.toList s K
def HW:List (Nat×Nat)->List AC->Bool
 |[],[]=>true
 |(k,o)::l, .ptr k' D::cs=>Nat.beq k k'&&Nat.beq o D&&HW l cs
 |_,_=>false
def Lr:CS->AC->Option (List AC)
 | .any,_=>some []
 | .int k, .int k' n=>bif kEq k k' then some [.int k n]else none
 | .bool, .bool b=>some [.bool b]
 | .sl ks, .nilSl=>some [.vC ks []]
 | .sl ks, .vC D l=>bif Cj ks D then some [.vC ks l]else none
 | .rawc, .raw v=>some [.raw v]
 | .str, .raw (.string s)=>some [.raw (.string s)]
 | .nil, .nilSl=>some []
 | .nilp, .raw (.pointer none)=>some []
 | .ptr k o, .ptr k' I=>bif Nat.beq k k'&&Nat.beq o I then some []else none
 | .own id w, .own id' w' _=>bif Nat.beq id id'&&Nat.beq w w' then some []else none
 | .bsl k n, .bsl k' J=>bif Nat.beq k k'&&Nat.beq n J then some []else none
 | .clo f fs cs, .clo L E G=>bif Nat.beq f L&&HW fs E&&HW cs G then some []else none
 |_,_=>none
def Hy:List CS->List AC->Option (List AC)
 |[],[]=>some []
 |c::cs,a::as=>match Lr c a with
  |some v=>match Hy cs as with
   |some D=>some (v++D)
   |none=>none
  |none=>none
 |_,_=>none
def JK:List (Bool×List CS)->List (Bool×List AC)->Option (List AC)
 |[],[]=>some []
 | (g, cs) :: l, (D, as) :: m => bif g == D then (match Hy cs as with
  |some v=>match JK l m with
   |some E=>some (v++E)
   |none=>none
  |none=>none)else none
 |_,_=>none
def H4:TS->TV->Option (List AC)
 | .dead,_=>some []
 | .v g cs, .v D as=>bif g==D then Hy cs as else none
 | .tup ps, .tup E=>JK ps E
 |_,_=>none
def IE:List TS->List TV->Option (List AC)
 |[],[]=>some []
 |t::D,v::E=>match H4 t v with
  |some a=>match IE D E with
   |some l=>some (a++l)
   |none=>none
  |none=>none
 |_,_=>none
def Nv:List (Nat×TypeId×List CS)->List (Nat×Box)->Option (List AC)
 |[],_=>some []
 |(k,t,cs)::l,aB=>match Ab aB k with
  | some b => bif Nat.beq t b.ty then (match Hy cs b.cells with
   |some v=>match Nv l aB with
    |some D=>some (v++D)
    |none=>none
   |none=>none)else none
  |none=>none
def L9:List (Nat×TypeId×List Kd)->List (Nat×Row)->Option (List AC)
 |[],_=>some []
 |(k,t,ks)::l,aC=>match Ab aC k with
  | some r => bif Nat.beq t r.ty && Cj ks r.ks then (match L9 l aC with
    |some D=>some (.vC ks r.l::D)
    |none=>none)else none
  |none=>none
def CR (k:Nat):Bool:=Nat.ble base k&&Nat.blt k 100000
def Fl (sk:Sk) (s:St):Option (List AC):=match s with
 | ⟨tmps, aB, aC⟩ => bif Ai (λp : Nat × Box => !(CR p.1) || AI (sk.aB.map (·.1)) p.1) aB then (match L9 sk.aC aC with
  |some a=>match IE sk.tmps tmps with
   |some b=>match Nv sk.aB aB with
    |some c=>some (a++(b++c))
    |none=>none
   |none=>none
  |none=>none)else none
def JD:List (Nat×Nat)->List AC
 |[]=>[]
 |(k,o)::l=> .ptr k o::JD l
def El (rl:Nat->Nat) (l:List AC):CS->Nat->AC×Nat
 | .any,i=>(.dead,i)
 | .int k,i=>(.int k (Ah (nth .dead l i)),i+1)
 | .bool,i=>(.bool (CD (nth .dead l i)),i+1)
 | .sl ks,i=>(.vC ks (Bb (nth .dead l i)),i+1)
 | .rawc,i=>(JX .raw (nth .dead l i),i+1)
 | .str,i=>(.raw (.string (Q0t (nth .dead l i))),i+1)
 | .nil,i=>(.nilSl,i)
 | .nilp,i=>(.raw (.pointer none),i)
 | .ptr k o,i=>(.ptr k o,i)
 | .own id w,i=>(.own id w (rl id),i)
 | .clo f fs cs,i=>(.clo f (JD fs) (JD cs),i)
 | .bsl k n,i=>(.bsl k n,i)
def DS (rl:Nat->Nat) (l:List AC):List CS->Nat->List AC×Nat
 |[],i=>([],i)
 |c::cs,i=>match El rl l c i with
  |(a,E)=>match DS rl l cs E with
   |(as,D)=>(a::as,D)
def F7 (rl:Nat->Nat) (l:List AC):List (Bool×List CS)->Nat->List (Bool×List AC)×Nat
 |[],i=>([],i)
 |(g,cs)::ps,i=>match DS rl l cs i with
  |(as,E)=>match F7 rl l ps E with
   |(G,D)=>((g,as)::G,D)
def Gn (rl:Nat->Nat) (l:List AC):TS->Nat->TV×Nat
 | .dead,i=>(.dead,i)
 | .v g cs,i=>match DS rl l cs i with
  |(as,D)=>(.v g as,D)
 | .tup ps,i=>match F7 rl l ps i with
  |(E,D)=>(.tup E,D)
def EN (rl:Nat->Nat) (l:List AC):List TS->Nat->List TV×Nat
 |[],i=>([],i)
 |t::E,i=>match Gn rl l t i with
  |(v,G)=>match EN rl l E G with
   |(I,D)=>(v::I,D)
def E1 (rl:Nat->Nat) (l:List AC):List (Nat×TypeId×List CS)->Nat->List (Nat×Box)
 |[],_=>[]
 |(k,t,cs)::bs,i=>match DS rl l cs i with
  |(as,D)=>(k,⟨t,as⟩)::E1 rl l bs D
def HK (l:List AC):List (Nat×TypeId×List Kd)->Nat->List (Nat×Row)×Nat
 |[],i=>([],i)
 |(k,t,ks)::rs,i=>match HK l rs (i+1)with
  |(q,D)=>((k,⟨t,ks,Bb (nth .dead l i)⟩)::q,D)
def Ek (aC:List (Nat×Row)) (id:Nat):Nat:=match Ab aC id with
 |some r=>r.l.length
 |none=>0
def Ce (sk:Sk) (vars:List AC):St:=match HK vars sk.aC 0 with
 |(aC,i)=>match EN (Ek aC) vars sk.tmps i with
  |(tmps,D)=>⟨tmps,E1 (Ek aC) vars sk.aB D,aC⟩
def CS.okB (keys:List Nat) (aC:List (Nat×TypeId×List Kd)):CS->Bool
 | .ptr k _=>AI keys k
 | .bsl k _=>AI keys k
 | .own id w=>match Ab aC id with
  |some (_,ks)=>Nat.beq ks.length w
  |none=>false
 | .clo _ fs cs=>Ai (λp:Nat×Nat=>AI keys p.1) fs&&Ai (λp:Nat×Nat=>AI keys p.1) cs
 |_=>true
def TS.okB (keys:List Nat) (aC:List (Nat×TypeId×List Kd)):TS->Bool
 | .dead=>true
 | .v _ cs=>Ai (CS.okB keys aC) cs
 | .tup ps=>Ai (λp:Bool×List CS=>Ai (CS.okB keys aC) p.2) ps
def Sk.okB (sk:Sk):Bool:=
 Bz (sk.aB.map (·.1))&&Bz (sk.aC.map (·.1))&&Ai (TS.okB (sk.aB.map (·.1)) sk.aC) sk.tmps&&Ai (λp:Nat×TypeId×List CS=>Ai (CS.okB (sk.aB.map (·.1)) sk.aC) p.2.2) sk.aB
def IG (d:Nat):AC->Bool
 | .ptr k _=> !(Nat.beq k d)
 |_=>true
def AC.killP (d:Nat):AC->AC
 | .ptr k o=>bif Nat.beq k d then .dead else .ptr k o
 | .bsl k n=>bif Nat.beq k d then .dead else .bsl k n
 | .clo f fs cs=>bif Ai (IG d) fs&&Ai (IG d) cs then .clo f fs cs else .dead
 |a=>a
def TV.mapC (f:AC->AC):TV->TV
 | .v g cs=> .v g (cs.map f)
 | .tup ps=> .tup (ps.map λp=>(p.1,p.2.map f))
 | .dead=> .dead
def RN:List Oper->List Nat
 |[]=>[]
 |o::l=>match o.op,o.dst with
  | .alloc _,some d=>d::RN l
  | .box _ _,some d=>d::RN l
  |_,_=>RN l
def Pg:List Nat->St->(St->Option R)->Option R
 |[],s,K=>K s
 |d::l,⟨tmps,aB,aC⟩,K=>match Ab aB d with
  |none=>Pg l ⟨tmps,aB,aC⟩ K
  |some _=>bif CR d then none else AL (tmps.map (TV.mapC (AC.killP d))) λE=>AL ((del d aB).map λp=>(p.1,(⟨p.2.ty,p.2.cells.map (AC.killP d)⟩:Box))) λD=>Pg l ⟨E,D,aC⟩ K
def NG (step:St->(Ex->St->Option R)->Option R):Nat->St->(Ex->St->Option R)->Option R
 |0,_,_=>none
 |n+1,s,K=>step s fun
  | .normal,D=>GH P C D λD=>NG step n D K
  | .exit id,D=>K (.exit id) D
  | .ret,D=>K .ret D
def OX (a:Option (Sk×Hs)) (s:St) (K:Ex->St->Option R) (run:Option R):Option R:=match a with
 |none=>run
 | some (sk, g) => bif sk.okB then (match Fl sk s with
  |some vars=>g R vars K
  |none=>none)else none
def Qv5 (C:Cfg) (c:Operand):Option (Sk×Hs):=match c with
 | .tmp t=>C.conds t
 |_=>none
def Jy:Code->Option Nat
 | .region id _ _=>some id
 | .seq a b=>match Jy a with
  |some n=>some n
  |none=>Jy b
 | .cond _ a b=>match Jy a with
  |some n=>some n
  |none=>Jy b
 | .block _ b=>Jy b
 | .loop b=>Jy b
 |_=>none
def RQ (body:Code):Nat:=match Jy body with
 |some n=>n
 |none=>0
def C6 (L:Nat):Code->Nat->St->(Ex->St->Option R)->Option R
 | .skip,_,s,K=>K .normal s
 | .region _ ops draw,_,s,K=>Pg (RN ops.toList) s λs=>We P C ops draw s (K .normal)
 | .seq a b,blk,s,K=>C6 L a blk s fun
  | .normal,D=>C6 L b blk D K
  | .exit id,D=>K (.exit id) D
  | .ret,D=>K .ret D
 | .cond c x y, blk, s, K => OX (Qv5 C c) s K (match AK s.tmps c with
  | .v false [.bool g]=>match c with
   | .tmp t=>cond g (put s (some t) (.c (.bool true)) λD=>C6 L x blk D K) (put s (some t) (.c (.bool false)) λD=>C6 L y blk D K)
   |_=>cond g (C6 L x blk s K) (C6 L y blk s K)
  |_=>none)
 | .block id body,_,s,K=>OX (C.blocks id) s K (C6 L body id s fun
  | .normal,D=>K .normal D
  | .exit i,D=>bif Nat.beq i id then K .normal D else K (.exit i) D
  | .ret,D=>K .ret D)
 | .loop body,blk,s,K=>HB P (C.prom (RQ body)) s λD=>
   GH P C D λD=>OX (C.loops (RQ body)) D K (NG P C (λs K=>C6 L body blk s K) L D K)
 | .exit id,_,s,K=>K (.exit id) s
 | .ret,_,s,K=>K .ret s
 | .scope b,blk,s,K=>C6 L b blk s K
 | .label _,_,s,K=>K .normal s
 |_,_,_,_=>none
def Sa:Ex->Ex->Bool
 | .normal, .normal=>true
 | .exit i, .exit j=>Nat.beq i j
 | .ret, .ret=>true
 |_,_=>false
def FQ:List (Ex×Sk)->Nat->Ex->St->Option (Nat×List AC)
 |[],_,_,_=>none
 | (e, sk) :: l, i, D, s => bif Sa e D && sk.okB then (match Fl sk s with
  |some vars=>some (i,vars)
  |none=>none)else FQ l (i+1) D s
def Ns (o:List AC) (K:Ex->St->Option R):List (Ex×Sk)->Nat->Nat->Option R
 |[],_,_=>none
 |(e,sk)::l,i,n=>bif Nat.beq n i then K e (Ce sk o)else Ns o K l (i+1) n
def gOf (D:List (Ex×Sk)) (m:List AC->Option (Nat×List AC)):Hs:=λ_ vars K=>(m vars).bind λo=>Ns o.2 K D 1 o.1
def A4 (L blk:Nat) (body:Code) (sk:Sk) (D:List (Ex×Sk)) (vars:List AC):Option (Nat×List AC):=
 C6 P C L body blk (Ce sk vars) λe E=>match e with
  | .normal=>GH P C E λE=>match Fl sk E with
   |some vars=>some (0,vars)
   |none=>none
  | .exit i=>FQ D 1 (.exit i) E
  | .ret=>FQ D 1 .ret E
def CI (step:List AC->Option (Nat×List AC)):Nat->List AC->Option (Nat×List AC)
 |0,_=>none
 |n+1,vars=>(step vars).bind λo=>if o.1=0 then CI step n o.2 else some o
def Qwx (L id:Nat) (body:Code) (sk:Sk) (D:List (Ex×Sk)) (vars:List AC):Option (Nat×List AC):=
 C6 P C L body id (Ce sk vars) fun
  | .normal,E=>FQ D 1 .normal E
  | .exit i,E=>bif Nat.beq i id then FQ D 1 .normal E else FQ D 1 (.exit i) E
  | .ret,E=>FQ D 1 .ret E
def Qgw (s:St):ResultVar->Option TV
 | .tmp t=>match nth .dead s.tmps t with
  | .v g cs=>some (.v g cs)
  |_=>none
 | .cell a t=>match nth .dead s.tmps a,B7 P t,szT P t with
  | .v false [.ptr key off],some g,some sz=>match Ab s.aB key with
   |some b=>Cp g sz b.cells off
   |none=>none
  |_,_,_=>none
def Ja (s:St):List ResultVar->Option (List (Bool×List AC))
 |[]=>some []
 |r::l=>match Qgw P s r with
  |some (.v g cs)=>match Ja s l with
   |some ps=>some ((g,cs)::ps)
   |none=>none
  |_=>none
def Gq:List TypeId->List (Bool×List AC)->List (Bool×List AC)
 | t :: D, (g, cs) :: l => (g, match E9 P 8 t with
  |some ks=>Dh ks cs
  |none=>cs)::Gq D l
 |_,l=>l
def I2:List (Bool×List AC)->TV
 |[(g,cs)]=> .v g cs
 |ps=> .tup ps
def ZI:List TV->Bool
 | .v false [.own id _ _]::_=>Nat.beq id base
 |_=>false
def O5 (I:Func) (D:List Nat) (s:St) (K:TV->Mem->Option R):Option R:=
 match Ja P s I.results.toList with
 |none=>none
 |some ps=>(bif C.ownRes then λK=>K s else Hi (cat (λp:Bool×List AC=>cat AC.ids p.2) ps) s) λs1=>GH P C s1 λs1=>
  match Ja P s1 I.results.toList with
  |none=>none
  |some ps=>match s1 with
   |⟨tm,aB,aC⟩=>
    bif !C.keepIn||ZI tm then
    AL (Gq P I.resultTypes.toList ps) λps=>
    AL (Jn aB 4 (AZ (cat (λp:Bool×List AC=>cat AC.keys p.2) ps) D)) λkeys=>
    AL (Lf aB (cat (λp:Bool×List AC=>p.2) ps) keys) λids=>
    AL (aB.filter λp=>AI keys p.1) λE=>
    AL (aC.filter λp=>AI ids p.1||CR p.1) λG=>
    bif Ai (λp:Bool×List AC=>Ai (AC.inK keys ids) p.2) ps&&Ai (λp:Nat×Box=>Ai (AC.inK keys ids) p.2.cells) E&&Ai (DA aB) D&&Ai (AI keys) D then K (I2 ps) ⟨E,G⟩else none else none
def F3 (L:Nat) (f:FuncId) (args:List TV) (mem:Mem) (K:TV->Mem->Option R):Option R:=
 match P.funcs.toList[f]? with
 |some D=>match D.body with
  |some c=>bif Ai (λp:Nat×Box=>CR p.1) mem.aB then
    AL (args++List.replicate (D.ntmps-args.length) TV.dead) λtmps=>
     C6 P C L c 0 ⟨tmps,mem.aB,mem.aC⟩ λe s=>match e with
      | .normal=>O5 P C D (mem.aB.map (·.1)) s K
      | .ret=>O5 P C D (mem.aB.map (·.1)) s K
      | .exit _=>none
   else none
  |none=>none
 |none=>none
def AN:Code->Nat->List (Nat×Code)
 | .seq a b,blk=>AN a blk++AN b blk
 | .cond _ a b,blk=>AN a blk++AN b blk
 | .block _ b,blk=>AN b blk
 | .loop b,blk=>(RQ b,b)::AN b blk
 | .scope b,blk=>AN b blk
 |_,_=>[]
def A5:Code->List (Nat×Code)
 | .seq a b=>A5 a++A5 b
 | .cond _ a b=>A5 a++A5 b
 | .block id b=>(id,b)::A5 b
 | .loop b=>A5 b
 | .scope b=>A5 b
 |_=>[]
def A8:Code->Nat->List (Nat×Nat×Code×Code)
 | .seq a b,blk=>A8 a blk++A8 b blk
 | .cond (.tmp t) a b,blk=>(t,0,a,b)::(A8 a blk++A8 b blk)
 | .cond _ a b,blk=>A8 a blk++A8 b blk
 | .block _ b,blk=>A8 b blk
 | .loop b,blk=>A8 b blk
 | .scope b,blk=>A8 b blk
 |_,_=>[]
def G0 (f:FuncId):Option Code:=
 match P.funcs.toList[f]? with
 |some D=>D.body
 |none=>none
def GV (f:FuncId):List (Nat×Code):=match G0 P f with
 |some c=>AN c 0
 |none=>[]
def Io (f:FuncId):List (Nat×Code):=match G0 P f with
 |some c=>A5 c
 |none=>[]
def Pn (f:FuncId):List (Nat×Nat×Code×Code):=match G0 P f with
 |some c=>A8 c 0
 |none=>[]
def Al (L:Nat) (f:FuncId) (sig D:Sk) (vars:List AC):Option (List AC):=match Ce sig vars with
 |⟨args,aB,aC⟩=>F3 P C L f args ⟨aB,aC⟩ λv m=>match m with
  |⟨b,r⟩=>Fl D ⟨[v],b,r⟩
end prog
def Ad (sig D:Sk) (m:List AC->Option (List AC)):Spec:=λR args mem K=>match mem with
 | ⟨aB, aC⟩ => bif Ai (λp : Nat × Box => CR p.1) aB then (match Fl sig ⟨args, aB, aC⟩ with
  |some vars=>(m vars).bind λo=>match Ce D o with
   |⟨tm,b,r⟩=>match tm with
    |[v]=>K v ⟨b,r⟩
    |_=>none
  |none=>none)else none
def Oi (P:Program) (C:Cfg) (L:Nat) (f:FuncId) (sig D E:Sk) (G:List AC->Bool) (vars:List AC):Option (List AC):=match Ce sig vars with
 |⟨args,aB,aC⟩=>F3 P C L f args ⟨aB,aC⟩ λv m=>match m with
  |⟨b,r⟩=>match Fl D ⟨[v],b,r⟩with
   |some o=>cond (G o) (some o) none
   |none=>match Fl E ⟨[v],b,r⟩with
    |some o=>cond (G o) none (some o)
    |none=>none
def goK {R:Type} (K:TV->Mem->Option R):St->Option R
 |⟨[v],b,r⟩=>K v ⟨b,r⟩
 |_=>none
def GD (sig D E:Sk) (G:List AC->Bool) (m:List AC->Option (List AC)):Spec:=λ_ args mem K=>match mem with
 | ⟨aB, aC⟩ => bif Ai (λp : Nat × Box => CR p.1) aB then (match Fl sig ⟨args, aB, aC⟩ with
  |some vars=>(m vars).bind λo=>cond (G o) (goK K (Ce D o)) (goK K (Ce E o))
  |none=>none)else none
def A3 (P:Program) (f blk:Nat):Code:=match Ab (GV P f) blk with
 |some c=>c
 |none=> .skip
def Wv (P:Program) (f id:Nat):Code:=match Ab (Io P f) id with
 |some c=>c
 |none=> .skip
def Cfg.loop (C:Cfg) (blk:Nat) (sk:Sk) (D:List (Ex×Sk)) (m:List AC->Option (Nat×List AC)):Cfg:=
 {C with loops:=λb=>bif Nat.beq b blk then some (sk,gOf D m)else C.loops b}
def Cfg.block (C:Cfg) (id:Nat) (sk:Sk) (D:List (Ex×Sk)) (m:List AC->Option (Nat×List AC)):Cfg:=
 {C with blocks:=λb=>bif Nat.beq b id then some (sk,gOf D m)else C.blocks b}
open Go.RowKit
theorem Ol {a b c d:Prop} (h:a\/b) (f:a->c) (g:b->d):c\/d:=by
 rcases h with h|h
 ·exact .inl (f h)
 ·exact .inr (g h)
mutual
def CP (im:Nat->Prop) (w:World):AC->Value->Prop
 | .int k n,x=>x= .int k n
 | .bool b,x=>x= .bool b
 | .raw v,x=>x=v/\v.oneCell'=true
 | .nilSl,x=>x= .slice none 0 0
 | .vC ks l,x=>∃D cap,x= .slice D l.length cap/\l.length<=cap/\(∀c∈l,AF ks c=c)/\(l=[]\/∃b o,D=some ⟨b,o,none⟩/\im b/\CPss im w ks.length l b o)
 | .dead,_=>False
 | .ptr _ _,_=>False
 | .own _ _ _,_=>False
 | .rptr _ _ _,_=>False
 | .vptr _ _,_=>False
 | .clo _ _ _,_=>False
 | .bsl _ _,_=>False
def CPs (im:Nat->Prop) (w:World):List AC->Nat->Nat->Prop
 |[],_,_=>True
 |c::cs,b,o=>(∃y,w.cell? ⟨b,o,none⟩=some y/\CP im w c y)/\CPs im w cs b (o+1)
def CPss (im:Nat->Prop) (w:World) (wd:Nat):List (List AC)->Nat->Nat->Prop
 |[],_,_=>True
 |c::cs,b,o=>(c.length=wd/\CPs im w c b o)/\CPss im w wd cs b (o+wd)
end
theorem Qu6:∀(ks:List Kd) (cs:List AC) (j:Nat),(DQ ks cs j).length=ks.length
 |[],_,_=>rfl
 |_::ks,cs,j=>by simp[DQ,Qu6 ks cs (j+1)]
theorem Ou (ks:List Kd) (cs:List AC):(AF ks cs).length=ks.length:=Qu6 ks cs 0
theorem WW {im:Nat->Prop} {w:World} {wd:Nat}:∀{l:List (List AC)} {b o:Nat},CPss im w wd l b o->∀i (D:i<l.length),(l[i]).length=wd/\CPs im w l[i] b (o+i*wd)
 |[],_,_,_,i,D=>by simp at D
 |c::l,b,o,h,0,_=>by rw[CPss]at h;rw[gc,Nat.add_zero];exact h.1
 |c::l,b,o,h,i+1,D=>by
  rw[CPss]at h;have:=WW h.2 i (by simpa using D);simp only[gb];rw[cy,fm,iu (i*wd) wd,<-de];exact this
theorem Qn {im:Nat->Prop} {w:World} {wd:Nat}:∀{l:List (List AC)} {b o:Nat},(∀i (D:i<l.length),(l[i]).length=wd/\CPs im w l[i] b (o+i*wd))->CPss im w wd l b o
 |[],_,_,_=>by simp[CPss]
 |c::l,b,o,h=>by
  rw[CPss];refine⟨by have:=h 0 (by simp);rw[gc,Nat.add_zero]at this;exact this,Qn λi D=> ?_⟩;have:=h (i+1) (by simpa using D);simp only[gb]at this;rw[cy,fm,iu (i*wd) wd,<-de]at this;exact this
def DK (w:World) (e:TypeId) (size:Nat) (v:Value) (n:Nat) (xs:List Value):Prop:=
 xs.length = n * size /\ ((v = .slice none 0 0 /\ n = 0) \/
  ∃g o cap cur,v= .slice (some ⟨g,o,none⟩) n cap/\w.heap[g]? =some (.cells cur e (0,0))/\n<=cap/\cap<=maxLen/\o+cap*size<=cur.size/\(cur.toList.drop o).take (n*size)=xs)
theorem Ud (w:World) (e:TypeId) (size:Nat):DK w e size (.slice none 0 0) 0 []:=⟨by simp, .inl ⟨rfl,rfl⟩⟩
theorem Q2l {w:World} {base:Nat} {e:TypeId} {size:Nat} {v:Value} {n:Nat} {xs:List Value} (h:w.ownsRow base e size v n xs):DK w e size v n xs:=by
 refine⟨h.1,?_⟩;rcases h.2 with h|⟨g,cap,cur,D,_,E,G,I,L,J⟩
 ·exact .inl h
 ·exact .inr ⟨g,0,cap,cur,D,E,G,I,by omega,by simpa using J⟩
theorem Qu0 {w:World} {e:TypeId} {size:Nat} {v:Value} {n:Nat} {xs:List Value} (h:DK w e size v n xs):∀k,v.ownBlock=some k->k<w.heap.size:=by
 intro k D;rcases h.2 with⟨rfl,_⟩|⟨g,o,cap,cur,rfl,E,_⟩
 ·simp[Value.ownBlock]at D
 ·simp[Value.ownBlock]at D;subst D;exact(da.1 E).1
theorem Kk {w w':World} {e:TypeId} {size n:Nat} {v:Value} {xs:List Value} (h:DK w e size v n xs) (hb:∀g,v.ownBlock=some g->w'.heap[g]? =w.heap[g]?):DK w' e size v n xs:=by
 refine⟨h.1,?_⟩;rcases h.2 with D|⟨g,o,cap,cur,rfl,E,G⟩
 ·exact .inl D
 ·exact .inr ⟨g,o,cap,cur,rfl,by rw[hb g rfl];exact E,G⟩
def Gm:Value->Nat
 | .slice (some a) _ _=>a.off
 |_=>0
theorem Ow {w:World} {e:TypeId} {size:Nat} {v:Value} {n:Nat} {xs:List Value} (h:DK w e size v n xs) {g:Nat} (E:v.ownBlock=some g):∀j u,xs[j]? =some u->w.cell? ⟨g,Gm v+j,none⟩=some u:=by
 intro j u D;rcases h.2 with⟨rfl,rfl⟩|⟨J,o,cap,cur,rfl,G,L,M,N,I⟩
 ·simp[Value.ownBlock]at E
 ·simp[Value.ownBlock]at E;subst E;rw[<-I,ep]at D;split at D
  ·rw[dv]at D;simp[World.cell?,G,Gm];simpa using D
  ·simp at D
structure Env where
 bx:Nat->Nat
 rv:Nat->Value
 wd:Nat->Nat
 im:Nat->Prop
def CCc (ρ:Env) (w:World):AC->Value->Prop
 | .ptr key off,x=>x= .pointer (some ⟨ρ.bx key,off,none⟩)
 |a,x=>CP ρ.im w a x
def CLc (ρ:Env) (w:World):List AC->List Value->Prop
 |[],[]=>True
 |a::l,x::xs=>CCc ρ w a x/\CLc ρ w l xs
 |_,_=>False
def CC (ρ:Env) (w:World):AC->Value->Prop
 | .dead,x=>x.oneCell'=true
 | .ptr key off,x=>x= .pointer (some ⟨ρ.bx key,off,none⟩)
 | .own id wd n,x=>x=ρ.rv id/\ρ.wd id=wd/\((x= .slice none 0 0/\n=0)\/∃g o c,x= .slice (some ⟨g,o,none⟩) n c)
 | .rptr id idx sub,x=>∃g,(ρ.rv id).ownBlock=some g/\x= .pointer (some ⟨g,Gm (ρ.rv id)+(idx*ρ.wd id+sub),none⟩)
 | .vptr cs sub,x=>∃b o,x= .pointer (some ⟨b,o+sub,none⟩)/\ρ.im b/\CPs ρ.im w cs b o
 | .clo f fs cs,x=>∃xs D:Array Value,x= .func (.func f) xs D/\CLc ρ w fs xs.toList/\CLc ρ w cs D.toList
 | .bsl key n,x=>x= .slice (some ⟨ρ.bx key,0,none⟩) n n
 |a,x=>CP ρ.im w a x
def CL (R:AC->Value->Prop):List AC->List Value->Prop
 |[],[]=>True
 |a::l,x::xs=>R a x/\CL R l xs
 |_,_=>False
def TP (ρ:Env) (w:World):List (Bool×List AC)->List Value->Prop
 |[],[]=>True
 | (g, cs) :: l, x :: xs => (match g with
   |true=>∃D:Array Value,x= .agg D/\CL (CC ρ w) cs D.toList
   |false=>∃a,cs=[a]/\CC ρ w a x)/\TP ρ w l xs
 |_,_=>False
def TVR (ρ:Env) (w:World):TV->Value->Prop
 | .dead,_=>True
 | .v true cs,x=>∃D:Array Value,x= .agg D/\CL (CC ρ w) cs D.toList
 | .v false cs,x=>∃a,cs=[a]/\CC ρ w a x
 | .tup ps,x=>∃D:Array Value,x= .tuple D/\TP ρ w ps D.toList
theorem CL.length {R:AC->Value->Prop}:∀{l:List AC} {xs:List Value},CL R l xs->l.length=xs.length
 |[],[],_=>rfl
 |_::l,_::xs,h=>by simp[CL.length h.2]
 |[],_::_,h=>h.elim
 |_::_,[],h=>h.elim
theorem CL.mono {R R':AC->Value->Prop}:∀{l:List AC} {xs:List Value},(∀a∈l,∀x,R a x->R' a x)->CL R l xs->CL R' l xs
 |[],[],_,_=>trivial
 |a::l,x::xs,h,D=>⟨h a (by simp) x D.1,CL.mono (λb hb=>h b (by simp[hb])) D.2⟩
 |[],_::_,_,h=>h.elim
 |_::_,[],_,h=>h.elim
theorem CL.get {R:AC->Value->Prop}:∀{l:List AC} {xs:List Value} {i:Nat} {a:AC},CL R l xs->l[i]? =some a->∃x,xs[i]? =some x/\R a x
 |[],[],i,_,_,h=>by simp at h
 |a::l,x::xs,0,b,D,h=>by simp at h;subst h;exact⟨x,rfl,D.1⟩
 |a::l,x::xs,i+1,b,D,h=>by simpa using CL.get D.2 (by simpa using h)
 |[],_::_,_,_,h,_=>h.elim
 |_::_,[],_,_,h,_=>h.elim
theorem CL.drop {R:AC->Value->Prop}:∀(n:Nat) {l:List AC} {xs:List Value},CL R l xs->CL R (l.drop n) (xs.drop n)
 |0,_,_,h=>h
 |_+1,[],[],_=>trivial
 |n+1,_::_,_::_,h=>CL.drop n h.2
 |_+1,[],_::_,h=>h.elim
 |_+1,_::_,[],h=>h.elim
theorem CL.take {R:AC->Value->Prop}:∀(n:Nat) {l:List AC} {xs:List Value},CL R l xs->CL R (l.take n) (xs.take n)
 |0,_,_,_=>by simp[CL]
 |_+1,[],[],_=>trivial
 |n+1,_::_,_::_,h=>⟨h.1,CL.take n h.2⟩
 |_+1,[],_::_,h=>h.elim
 |_+1,_::_,[],h=>h.elim
theorem CL.cut {R:AC->Value->Prop} {l:List AC} {xs:List Value} (o m:Nat) (h:CL R l xs):CL R (cut l o m) (cut xs o m):=CL.take m (CL.drop o h)
theorem CL.append {R:AC->Value->Prop}:∀{l E:List AC} {xs D:List Value},CL R l xs->CL R E D->CL R (l++E) (xs++D)
 |[],_,[],_,_,h=>h
 |_::_,_,_::_,_,h,h'=>⟨h.1,CL.append h.2 h'⟩
 |[],_,_::_,_,h,_=>h.elim
 |_::_,_,[],_,h,_=>h.elim
theorem CL.splice {R:AC->Value->Prop}:∀{l:List AC} {xs:List Value} (o:Nat) {D:List AC} {E:List Value},CL R l xs->CL R D E->CL R (splice l o D) (splice xs o E)
 |l,xs,o,[],[],h,_=>by cases l<;>cases xs<;>simpa [Bm.splice]using h
 |[],[],o,_::_,_::_,_,_=>by simp[Bm.splice,CL]
 |a::l,x::xs,0,v::D,y::E,h,h'=>by simp only[Bm.splice];exact⟨h'.1,CL.splice 0 h.2 h'.2⟩
 |a::l,x::xs,o+1,v::D,y::E,h,h'=>by simp only[Bm.splice];exact⟨h.1,CL.splice o h.2 h'⟩
 |[],_::_,_,_,_,h,_=>h.elim
 |_::_,[],_,_,_,h,_=>h.elim
 |_,_,_,[],_::_,_,h=>h.elim
 |_,_,_,_::_,[],_,h=>h.elim
mutual
theorem CP.mono {im D:Nat->Prop} {w w':World} (E:∀b,im b->D b) (hb:∀b,im b->w'.heap[b]? =w.heap[b]?):∀(a:AC) (x:Value),CP im w a x->CP D w' a x
 | .int k n,x,h=>by simpa [CP]using h
 | .bool b,x,h=>by simpa [CP]using h
 | .raw v,x,h=>by simpa [CP]using h
 | .nilSl,x,h=>by simpa [CP]using h
 | .vC ks l,x,h=>by
  rw[CP]at h⊢;obtain⟨I,cap,J,hle,L,hf⟩:=h;refine⟨I,cap,J,hle,L,?_⟩;rcases hf with hf|⟨b,o,M,G,N⟩
  ·exact .inl hf
  ·exact .inr ⟨b,o,M,E b G,CPss.mono E hb _ l b o G N⟩
 | .dead,x,h=>by simp[CP]at h
 | .ptr _ _,x,h=>by simp[CP]at h
 | .own _ _ _,x,h=>by simp[CP]at h
 | .rptr _ _ _,x,h=>by simp[CP]at h
 | .vptr _ _,x,h=>by simp[CP]at h
 | .clo _ _ _,x,h=>by simp[CP]at h
 | .bsl _ _,x,h=>by simp[CP]at h
theorem CPs.mono {im D:Nat->Prop} {w w':World} (G:∀b,im b->D b) (hb:∀b,im b->w'.heap[b]? =w.heap[b]?):∀(cs:List AC) (b o:Nat),im b->CPs im w cs b o->CPs D w' cs b o
 |[],_,_,_,_=>by simp[CPs]
 |c::cs,b,o,E,h=>by
  rw[CPs]at h⊢;obtain⟨⟨y,I,J⟩,L⟩:=h;exact⟨⟨y,(World.cell?_of_block (w:=w) (a:=⟨b,o,none⟩) (hb b E)).trans I,CP.mono G hb c y J⟩,CPs.mono G hb cs b _ E L⟩
theorem CPss.mono {im D:Nat->Prop} {w w':World} (G:∀b,im b->D b) (hb:∀b,im b->w'.heap[b]? =w.heap[b]?) (wd:Nat):∀(l:List (List AC)) (b o:Nat),im b->CPss im w wd l b o->CPss D w' wd l b o
 |[],_,_,_,_=>by simp[CPss]
 |c::cs,b,o,E,h=>by
  rw[CPss]at h⊢;exact⟨⟨h.1.1,CPs.mono G hb c b o E h.1.2⟩,CPss.mono G hb wd cs b _ E h.2⟩
end
def AC.agreeP (ρ D:Env):AC->Prop
 | .ptr key _=>D.bx key=ρ.bx key
 |_=>True
def AC.agree (ρ D:Env):AC->Prop
 | .ptr key _=>D.bx key=ρ.bx key
 | .bsl key _=>D.bx key=ρ.bx key
 | .own id _ _=>D.rv id=ρ.rv id/\D.wd id=ρ.wd id
 | .rptr id _ _=>D.rv id=ρ.rv id/\D.wd id=ρ.wd id
 | .clo _ fs cs=>(∀a∈fs,AC.agreeP ρ D a)/\∀a∈cs,AC.agreeP ρ D a
 |_=>True
theorem CLc.mono {ρ ρ':Env} {w w':World} (D:∀b,ρ.im b->ρ'.im b) (hb:∀b,ρ.im b->w'.heap[b]? =w.heap[b]?):∀(l:List AC) (xs:List Value),(∀a∈l,a.agreeP ρ ρ')->CLc ρ w l xs->CLc ρ' w' l xs
 |[],[],_,_=>trivial
 |a::l,x::xs,E,h=>by
  refine⟨?_,CLc.mono D hb l xs (λb hb=>E b (by simp[hb])) h.2⟩;have I:=E a (by simp);have G:=h.1;cases a<;>first
   |exact CP.mono D hb _ _ G
   |(simp only[CCc,AC.agreeP]at*;rw[I];exact G)
 |[],_::_,_,h=>h.elim
 |_::_,[],_,h=>h.elim
theorem CC.mono {ρ ρ':Env} {w w':World} (D:∀b,ρ.im b->ρ'.im b) (hb:∀b,ρ.im b->w'.heap[b]? =w.heap[b]?) (a:AC) (x:Value) (E:a.agree ρ ρ') (h:CC ρ w a x):CC ρ' w' a x:=by
 cases a with
 |dead=>exact h
 |ptr key off=>simp only[CC,AC.agree]at*;rw[E];exact h
 |bsl key n=>simp only[CC,AC.agree]at*;rw[E];exact h
 |own id w n=>simp only[CC,AC.agree]at*;rw[E.1,E.2];exact h
 |rptr id idx sub=>simp only[CC,AC.agree]at*;rw[E.1,E.2];exact h
 |vptr cs sub=>
  simp only[CC]at*;obtain⟨b,o,I,G,J⟩:=h;exact⟨b,o,I,D b G,CPs.mono D hb cs b o G J⟩
 |clo f fs cs=>
  simp only[CC,AC.agree]at*;obtain⟨xs,L,I,G,J⟩:=h;exact⟨xs,L,I,CLc.mono D hb fs _ E.1 G,CLc.mono D hb cs _ E.2 J⟩
 |int k n=>exact CP.mono D hb _ _ h
 |bool b=>exact CP.mono D hb _ _ h
 |raw v=>exact CP.mono D hb _ _ h
 |nilSl=>exact CP.mono D hb _ _ h
 |vC ks l=>exact CP.mono D hb _ _ h
theorem Ho {ρ:Env} {w:World} {a:AC} {x:Value} (h:CP ρ.im w a x):CC ρ w a x:=by
 cases a<;>first|exact h|(simp[CP]at h)
theorem Zks {ρ:Env} {w:World} {a:AC} {x:Value} (D:a.plain=true) (h:CC ρ w a x):CP ρ.im w a x:=by
 cases a<;>first|exact h|(simp[AC.plain]at D)
theorem CP.one {im:Nat->Prop} {w:World} {a:AC} {x:Value} (h:CP im w a x):x.oneCell'=true:=by
 cases a<;>simp only[CP]at h
 case int=>subst h;rfl
 case bool=>subst h;rfl
 case raw=>rw[h.1];exact h.2
 case nilSl=>subst h;rfl
 case vC=>obtain⟨_,_,rfl,_⟩:=h;rfl
theorem CC.one {ρ:Env} {w:World} {a:AC} {x:Value} (h:CC ρ w a x):x.oneCell'=true:=by
 cases a with
 |dead=>exact h
 |ptr=>simp only[CC]at h;subst h;rfl
 |bsl=>simp only[CC]at h;subst h;rfl
 |own=>obtain⟨_,_,⟨rfl,_⟩|⟨_,_,_,rfl⟩⟩:=h<;>rfl
 |rptr=>obtain⟨_,_,rfl⟩:=h;rfl
 |vptr=>obtain⟨_,_,rfl,_⟩:=h;rfl
 |clo=>obtain⟨_,_,rfl,_⟩:=h;rfl
 |int=>exact CP.one h
 |bool=>exact CP.one h
 |raw=>exact CP.one h
 |nilSl=>exact CP.one h
 |vC=>exact CP.one h
theorem As {α:Type} {p:α->Bool}:∀{l:List α},Ai p l=true↔∀x∈l,p x=true
 |[]=>by simp[Ai]
 |x::l=>by
  simp only[Ai,az,gk,<-As (l:=l)];cases p x<;>simp
theorem A2 {α R:Type}:∀(l:List α) (K:List α->Option R),AL l K=K l
 |[],_=>rfl
 |x::xs,K=>by rw[AL,A2 xs]
theorem B3 {α:Type} (d:α):∀(l:List α) (n:Nat),nth d l n=l.getD n d
 |[],_=>by simp[nth]
 |_::_,0=>by simp[nth]
 |_::xs,n+1=>by simp only[nth,B3 d xs n];simp
theorem Hh {α:Type}:∀(l:List α) (n:Nat) (v:α),setL l n v=l.set n v
 |[],_,_=>by simp[setL]
 |_::_,0,_=>by simp[setL]
 |x::xs,n+1,v=>by simp[setL,Hh xs n v]
section tables
variable {α:Type}
theorem DU:∀(l:List (Nat×α)) (k:Nat) (x y:α),Ab l k=some y->Ab (upd l k x) k=some x
 |[],_,_,_,h=>by simp[Ab]at h
 |(k',b)::l,k,x,y,h=>by
  simp only[Ab,upd]at*;cases D:Nat.beq k' k
  ·simp only[D,ao,Ab]at*;exact DU l k x y h
  ·simp[Ab,ac D]
theorem C4:∀(l:List (Nat×α)) (k j:Nat) (x:α),j≠k->Ab (upd l k x) j=Ab l j
 |[],_,_,_,_=>rfl
 |(k',b)::l,k,j,x,h=>by
  simp only[Ab,upd];cases E:Nat.beq k' k
  ·simp only[ao,Ab,C4 l k j x h]
  ·have e:=ac E;subst e;have D:Nat.beq k' j=false:=by
    cases hb:Nat.beq k' j
    ·rfl
    ·exact absurd (ac hb).symm h
   simp[Ab,D]
theorem DI:∀(l:List (Nat×α)) (k:Nat) (x:α),Ab l k=none->Ab (ins l k x) k=some x
 |[],k,x,_=>by simp[Ab,ins]
 |(k',b)::l,k,x,h=>by
  simp only[Ab,ins]at*;cases D:Nat.beq k' k
  ·simp only[D,ao]at h;cases hb:Nat.blt k k'
   ·simp only[ao,Ab,D];exact DI l k x h
   ·simp[Ab]
  ·simp[D]at h
theorem C7:∀(l:List (Nat×α)) (k j:Nat) (x:α),j≠k->Ab (ins l k x) j=Ab l j
 |[],k,j,x,h=>by
  have D:Nat.beq k j=false:=by
   cases hb:Nat.beq k j
   ·rfl
   ·exact absurd (ac hb).symm h
  simp[Ab,ins,D]
 |(k',b)::l,k,j,x,h=>by
  have D:Nat.beq k j=false:=by
   cases hb:Nat.beq k j
   ·rfl
   ·exact absurd (ac hb).symm h
  simp only[Ab,ins];cases hb:Nat.blt k k'
  ·simp only[ao,Ab,C7 l k j x h]
  ·simp[Ab,D]
theorem OF:∀(l:List (Nat×α)) (k:Nat),Ab (del k l) k=none
 |[],k=>by simp[Ab,del]
 |(k',b)::l,k=>by
  simp only[del];cases D:Nat.beq k' k
  ·simp only[ao,Ab,D,OF l k]
  ·simp only[ai];exact OF l k
theorem Iz:∀(l:List (Nat×α)) (k j:Nat),j≠k->Ab (del k l) j=Ab l j
 |[],_,_,_=>by simp[Ab,del]
 |(k',b)::l,k,j,h=>by
  simp only[del];cases E:Nat.beq k' k
  ·simp only[ao,Ab,Iz l k j h]
  ·have e:=ac E;subst e;have D:Nat.beq k' j=false:=by
    cases hb:Nat.beq k' j
    ·rfl
    ·exact absurd (ac hb).symm h
   simp only[ai,Ab,D,ao];exact Iz l k' j h
theorem JO {l:List (Nat×α)} {k j:Nat} {x:α} (h:Ab (del k l) j=some x):j≠k/\Ab l j=some x:=by
 by_cases D:j=k
 ·subst D;rw[OF]at h;cases h
 ·rw[Iz _ _ _ D]at h;exact⟨D,h⟩
end tables
open Go.RowKit
section
variable {P:Program} {C:Cfg} {ρ:Env} {w:World} {R:Type}
theorem Zkm {x:Value} (h:x.oneCell'=true):x.cells= #[x]:=by
 cases x<;>first|rfl|(simp[Value.oneCell']at h)
theorem Qzv (v:Value) (h:v.oneCell'=true):CC ρ w (KA v) v:=by
 unfold KA;split<;>first|(simp[CC,CP,Value.oneCell'];done)|exact h
theorem Q0:∀(l:List Value) {cs:List AC},Hq l=some cs->CL (CC ρ w) cs l
 |[],cs,h=>by simp[Hq]at h;subst h;trivial
 |v::l,cs,h=>by
  simp only[Hq]at h;cases D:v.oneCell'
  ·simp[D]at h
  ·simp only[D,ai]at h;split at h
   ·rename_i E G;simp at h;subst h;exact⟨Qzv v D,Q0 l G⟩
   ·simp at h
theorem Zrc (v:Value):TVR ρ w (ofValue v) v:=by
 unfold ofValue;split
 ·rename_i cs;split
  ·rename_i l D;exact⟨cs,rfl,Q0 _ D⟩
  ·trivial
 ·trivial
 ·rename_i E G;exact⟨_,rfl,Qzv v (by cases v<;>first|rfl|(exfalso;first|exact E _ rfl|exact G _ rfl))⟩
theorem TVR.cells {t:TV} {x:Value} {cs:List AC} (h:TVR ρ w t x) (D:t.cells=some cs):CL (CC ρ w) cs x.cells.toList:=by
 cases t with
 |dead=>simp[TV.cells]at D
 |tup ps=>simp[TV.cells]at D
 |v g l=>
  simp[TV.cells]at D;subst D;cases g
  ·obtain⟨a,rfl,E⟩:=h;rw[Zkm E.one];exact⟨E,trivial⟩
  ·obtain⟨I,rfl,G⟩:=h;exact G
theorem TVR.c {a:AC} {x:Value} (h:TVR ρ w (.c a) x):CC ρ w a x:=by
 obtain⟨b,hb,D⟩:=h;simp at hb;subst hb;exact D
theorem TVR.c' {a:AC} {x:Value} (h:CC ρ w a x):TVR ρ w (.c a) x:=⟨a,rfl,h⟩
theorem TVR.int {k:IntKind} {n:Int} {x:Value} (h:TVR ρ w (.c (.int k n)) x):x= .int k n:=by have:=h.c;simpa [CC,CP]using this
theorem TVR.bool {b:Bool} {x:Value} (h:TVR ρ w (.c (.bool b)) x):x= .bool b:=by have:=h.c;simpa [CC,CP]using this
theorem TVR.mkInt (k:IntKind) (n:Int):TVR ρ w (.c (.int k n)) (.int k n):=TVR.c' (by simp[CC,CP])
theorem TVR.mkBool (b:Bool):TVR ρ w (.c (.bool b)) (.bool b):=TVR.c' (by simp[CC,CP])
theorem TVR.agg {cs:List AC} {x:Value} (h:TVR ρ w (.agg cs) x):∃D:Array Value,x= .agg D/\CL (CC ρ w) cs D.toList:=h
def RowC (im:Nat->Prop) (w:World) (ks:List Kd) (l:List (List AC)) (xs:List Value):Prop:=
 xs.length=l.length*ks.length/\(∀c∈l,AF ks c=c)/\∀i c,l[i]? =some c->CL (CP im w) c (cut xs (i*ks.length) ks.length)
theorem M_ {k k':IntKind} (h:kEq k k'=true):k=k':=by cases k<;>cases k'<;>first|rfl|(simp[kEq]at h)
mutual
theorem Zif:∀{k k':Kd},DW k k'=true->k=k'
 | .int k, .int k',h=>by rw[DW]at h;rw[M_ h]
 | .bool, .bool,_=>rfl
 | .sl ks, .sl D,h=>by rw[DW]at h;rw[Hp h]
 | .raw, .raw,_=>rfl
 | .int _, .bool,h=>by simp[DW]at h
 | .int _, .sl _,h=>by simp[DW]at h
 | .int _, .raw,h=>by simp[DW]at h
 | .bool, .int _,h=>by simp[DW]at h
 | .bool, .sl _,h=>by simp[DW]at h
 | .bool, .raw,h=>by simp[DW]at h
 | .sl _, .int _,h=>by simp[DW]at h
 | .sl _, .bool,h=>by simp[DW]at h
 | .sl _, .raw,h=>by simp[DW]at h
 | .raw, .int _,h=>by simp[DW]at h
 | .raw, .bool,h=>by simp[DW]at h
 | .raw, .sl _,h=>by simp[DW]at h
theorem Hp:∀{ks D:List Kd},Cj ks D=true->ks=D
 |[],[],_=>rfl
 |k::ks,k'::D,h=>by
  rw[Cj]at h;cases E:DW k k'
  ·rw[E]at h;simp at h
  ·rw[E]at h;simp only[ai]at h;rw[Zif E,Hp h]
 |[],_::_,h=>by simp[Cj]at h
 |_::_,[],h=>by simp[Cj]at h
end
theorem Q6 {im:Nat->Prop} (ks:List Kd):CP im w (.vC ks []) (.slice none 0 0):=by
 rw[CP];exact⟨none,0,rfl,cq _,by simp, .inl rfl⟩
theorem Zf4 {k:Kd} {a G:AC} {x:Value} (h:UE k a=some G) (D:CC ρ w a x):CP ρ.im w G x/\JX k G=G:=by
 cases k<;>cases a<;>simp only[UE]at h<;>try (simp at h;done)
 case int.int k k' n=>
  cases E:kEq k k'<;>rw[E]at h
  ·simp at h
  ·simp at h;subst h;rw[<-M_ E]at D;exact⟨D,rfl⟩
 case bool.bool b=>simp at h;subst h;exact⟨D,rfl⟩
 case sl.nilSl ks=>
  simp at h;subst h;simp only[CC,CP]at D;subst D;exact⟨Q6 ks,rfl⟩
 case sl.vC ks I l=>
  cases E:Cj ks I<;>rw[E]at h
  ·simp at h
  ·simp at h;subst h;rw[<-Hp E]at D;exact⟨D,rfl⟩
 case raw.raw v=>simp at h;subst h;exact⟨D,rfl⟩
theorem Zq4 {α:Type} (d:α) (x:α) (l:List α) (n:Nat):nth d (x::l) (n+1)=nth d l n:=rfl
theorem Qwc (a:AC):∀(ks:List Kd) (cs:List AC) (j:Nat),DQ ks (a::cs) (j+1)=DQ ks cs j
 |[],_,_=>rfl
 |k::ks,cs,j=>by rw[DQ,DQ,Zq4,Qwc a ks cs (j+1)]
theorem Qj1 (k:Kd) (ks:List Kd) (a:AC) (cs:List AC):AF (k::ks) (a::cs)=JX k a::AF ks cs:=by
 show JX k a::DQ ks (a::cs) 1=_;rw[Qwc];rfl
theorem PI:∀{ks:List Kd} {cs D:List AC} {xs:List Value},GR ks cs=some D->CL (CC ρ w) cs xs->CL (CP ρ.im w) D xs/\AF ks D=D
 |[],[],D,xs,h,E=>by
  simp[GR]at h;subst h;cases xs with
  |nil=>exact⟨trivial,rfl⟩
  |cons=>exact E.elim
 |k::ks,a::cs,D,xs,h,E=>by
  simp only[GR]at h;split at h
  ·rename_i O G;split at h
   ·rename_i l I;simp at h;subst h;cases xs with
    |nil=>exact E.elim
    |cons x xs=>
     obtain⟨J,L⟩:=Zf4 G E.1;obtain⟨M,N⟩:=PI I E.2;exact⟨⟨J,M⟩,by rw[Qj1,L,N]⟩
   ·simp at h
  ·simp at h
 |[],_::_,_,_,h,_=>by simp[GR]at h
 |_::_,[],_,_,h,_=>by simp[GR]at h
def HX (P:Program) (ρ:Env) (w:World) (e:Operand->Value) (o:Oper):Prim->Prop
 | .val v=>∃x,(execOp e o).run P w= .ok (.value x) w/\TVR ρ w v x
 | .load g sz key off=>∃t,B7 P t=some g/\szT P t=some sz/\
   (execOp e o).run P w=((loadVar t ⟨ρ.bx key,off,none⟩).run P w).andThen λv w'=> .ok (.value v) w'
 | .rload g sz id idx sub=>∃t b,B7 P t=some g/\szT P t=some sz/\(ρ.rv id).ownBlock=some b/\
   (execOp e o).run P w=((loadVar t ⟨b,Gm (ρ.rv id)+(idx*ρ.wd id+sub),none⟩).run P w).andThen λv w'=> .ok (.value v) w'
 | .store key off cs=>∃t x,szT P t=some cs.length/\CL (CC ρ w) cs x.cells.toList/\
   (execOp e o).run P w=((storeVar t ⟨ρ.bx key,off,none⟩ x).run P w).andThen λ_ w'=> .ok .skip w'
 | .rstore id idx sub cs=>∃t x b,szT P t=some cs.length/\CL (CC ρ w) cs x.cells.toList/\(ρ.rv id).ownBlock=some b/\
   (execOp e o).run P w=((storeVar t ⟨b,Gm (ρ.rv id)+(idx*ρ.wd id+sub),none⟩ x).run P w).andThen λ_ w'=> .ok .skip w'
 | .new ty cs=>∃arr:Array Value,CL (CC ρ w) cs arr.toList/\(execOp e o).run P w= .ok (.value (.pointer (some ⟨w.heap.size,0,none⟩))) (w.alloc (.cells arr ty))
 | .cutR id a=>∀I n cap,ρ.rv id= .slice I n cap->n<=cap->a<=n->(execOp e o).run P w= .ok (.value (.slice (if cap=a then I else I.map (·.add (a*ρ.wd id))) (n-a) (cap-a))) w
 | .newS ty n cs=>∃arr:Array Value,CL (CC ρ w) cs arr.toList/\(execOp e o).run P w= .ok (.value (.slice (some ⟨w.heap.size,0,none⟩) n n)) (w.alloc (.cells arr ty))
 | .newRow D ks l=>∃arr:Array Value,0<ks.length/\l.length<=maxLen/\RowC ρ.im w ks l arr.toList/\
   (execOp e o).run P w= .ok (.value (.slice (some ⟨w.heap.size,0,none⟩) l.length l.length)) (w.alloc (.cells arr D))
 | .newView D ks l=>∃arr:Array Value,0<ks.length/\l.length<=maxLen/\RowC ρ.im w ks l arr.toList/\
   (execOp e o).run P w= .ok (.value (.slice (some ⟨w.heap.size,0,none⟩) l.length l.length)) (w.alloc (.cells arr D))
 | .make D ks bytes n z=>∃t i J L M,P.underlying t=some (.slice D)/\P.info? D=some i/\i.zero=some J/\i.size=ks.length/\i.bytes=bytes/\0<ks.length/\0<bytes/\AF ks z=z/\CL (CP ρ.im w) z J.cells.toList/\
   (execOp e o).run P w=((Instr.makeSlice t (.int L n) (.int M n)).run P w).andThen λv w'=> .ok (.value v) w'
 | .append D ks bytes s x=>∃t ty i z E G,P.underlying t=some (.slice D)/\P.info? D=some i/\i.zero=some z/\i.size=ks.length/\i.bytes=bytes/\z.cells.size=ks.length/\CC ρ w s E/\CC ρ w x G/\
   (execOp e o).run P w=((Builtin.append_ #[t,t] ty #[E,G]).run P w).andThen λv w'=> .ok (.value v) w'
 | .appD D ks bytes s x=>∃t ty i z E G,P.underlying t=some (.slice D)/\P.info? D=some i/\i.zero=some z/\i.size=ks.length/\i.bytes=bytes/\z.cells.size=ks.length/\CC ρ w s E/\CC ρ w x G/\
   (execOp e o).run P w=((Builtin.append_ #[t,t] ty #[E,G]).run P w).andThen λv w'=> .ok (.value v) w'
 | .callM f args=>∃xs:List Value,xs.length=args.length/\(∀(i:Nat) (a:TV) (x:Value),args[i]? =some a->xs[i]? =some x->TVR ρ w a x)/\execOp e o=callFunc f xs.toArray
 | .callF f args=>∃xs:List Value,xs.length=args.length/\(∀(i:Nat) (a:TV) (x:Value),args[i]? =some a->xs[i]? =some x->TVR ρ w a x)/\execOp e o=callFunc f xs.toArray
 | .callD f args=>∃xs:List Value,xs.length=args.length/\(∀(i:Nat) (a:TV) (x:Value),args[i]? =some a->xs[i]? =some x->TVR ρ w a x)/\execOp e o=callFunc f xs.toArray
 | .call f args=>∃xs:List Value,xs.length=args.length/\(∀(i:Nat) (a:TV) (x:Value),args[i]? =some a->xs[i]? =some x->TVR ρ w a x)/\execOp e o=callFunc f xs.toArray
theorem Zkh {t:TypeId} {n:Nat} (h:szT P t=some n):∃i,P.info? t=some i/\i.size=n:=by
 unfold szT at h;split at h
 ·rename_i i D;simp at h;exact⟨i,D,h⟩
 ·simp at h
theorem Dm {t:TypeId} {n:Nat} (h:szT P t=some n) (w:World):(sizeOf t).run P w= .ok n w:=by
 obtain⟨i,D,rfl⟩:=Zkh h;simp[sizeOf,typeInfo,D]
theorem LM {t:TypeId} {g:Bool} (h:B7 P t=some g) (w:World):(isAgg t).run P w= .ok g w:=by
 unfold B7 at h;split at h
 ·rename_i fs D;simp at h;subst h;simp[isAgg,run_underlying D]
 ·rename_i n e D;simp at h;subst h;simp[isAgg,run_underlying D]
 ·rename_i d E G D;simp at h;subst h;simp only[isAgg,Sem.run_bind,run_underlying D,cd];cases d<;>first|rfl|(exfalso;first|exact E _ rfl|exact G _ _ rfl)
 ·simp at h
theorem Ra {t:TypeId} {cs:List AC} (h:HU P t=some cs):∃v,(∀w,(zeroValue t).run P w= .ok v w)/\CL (CC ρ w) cs v.cells.toList:=by
 unfold HU at h;split at h
 ·rename_i i D;split at h
  ·rename_i v E;exact⟨v,λw=>by simp[zeroValue,typeInfo,D,E],Q0 _ h⟩
  ·simp at h
 ·simp at h
theorem FD {im:Nat->Prop} {w:World} (k:IntKind) (n:Int):CP im w (.int k n) (.int k n):=by simp[CP]
theorem Qlq {im:Nat->Prop} {w:World} (b:Bool):CP im w (.bool b) (.bool b):=by simp[CP]
theorem Zgg (op:BinOp) (t:TypeId) (k:IntKind) (a b:Int) (K:AC->Option R) {r:R} (h:Fw op k a b K=some r):
  ∃c x,K c=some r/\CP ρ.im w c x/\(binOp op t (.int k a) (.int k b)).run P w= .ok x w:=by
 cases op<;>simp only[Fw]at h
 case quo=>
  cases hb:decide (b=0)
  ·rw[hb]at h;simp only[ao]at h;have D: ¬b=0:=by simpa using hb
   exact⟨_,_,h,FD _ _,by simp[binOp_quo,Op.intDiv,D]⟩
  ·rw[hb]at h;simp at h
 case rem=>
  cases hb:decide (b=0)
  ·rw[hb]at h;simp only[ao]at h;have D: ¬b=0:=by simpa using hb
   exact⟨_,_,h,FD _ _,by simp[binOp_rem,Op.intDiv,D]⟩
  ·rw[hb]at h;simp at h
 case shl=>
  cases hb:decide (b<0)
  ·rw[hb]at h;simp only[ao]at h;have D: ¬b<0:=by simpa using hb
   exact⟨_,_,h,FD _ _,by simp[binOp_shl,Op.shift,D]⟩
  ·rw[hb]at h;simp at h
 case shr=>
  cases hb:decide (b<0)
  ·rw[hb]at h;simp only[ao]at h;have D: ¬b<0:=by simpa using hb
   exact⟨_,_,h,FD _ _,by simp[binOp_shr,Op.shift,D]⟩
  ·rw[hb]at h;simp at h
 case and=>exact⟨_,_,h,FD _ _,by rw[binOp_and];rfl⟩
 case or=>exact⟨_,_,h,FD _ _,by rw[binOp_or];rfl⟩
 case xor=>exact⟨_,_,h,FD _ _,by rw[binOp_xor];rfl⟩
 case andNot=>exact⟨_,_,h,FD _ _,by rw[binOp_andNot];rfl⟩
 all_goals first|exact⟨_,_,h,FD _ _,by simp[go_sem]⟩|exact⟨_,_,h,Qlq _,by simp[go_sem]⟩
theorem Q31 {op:BinOp} (E:KC op=true) (t:TypeId) (k k':IntKind) (a b:Int) (K:AC->Option R) {r:R} (h:Fw op k a b K=some r):
  ∃c x,K c=some r/\CP ρ.im w c x/\(binOp op t (.int k a) (.int k' b)).run P w= .ok x w/\op≠ .eql/\op≠ .neq:=by
 cases op<;>simp[KC]at E<;>simp only[Fw]at h
 case shl=>
  cases hb:decide (b<0)
  ·rw[hb]at h;simp only[ao]at h;have D: ¬b<0:=by simpa using hb
   exact⟨_,_,h,FD _ _,by simp[binOp_shl,Op.shift,D],by simp,by simp⟩
  ·rw[hb]at h;simp at h
 case shr=>
  cases hb:decide (b<0)
  ·rw[hb]at h;simp only[ao]at h;have D: ¬b<0:=by simpa using hb
   exact⟨_,_,h,FD _ _,by simp[binOp_shr,Op.shift,D],by simp,by simp⟩
  ·rw[hb]at h;simp at h
theorem GA {i:Int}:∀{n k:Nat} {K:Nat->Option R} {r:R},FF i n k K=some r->∃j,K j=some r/\i=(j:Int)/\k<=j/\j<k+n
 |0,_,_,_,h=>by simp[FF]at h
 |n+1,k,K,r,h=>by
  rw[FF]at h;cases D:decide (i=(k:Int))
  ·rw[D]at h;simp only[ao]at h;obtain⟨j,E,G,I,J⟩:=GA h;exact⟨j,E,G,by omega,by omega⟩
  ·rw[D]at h;simp only[ai]at h;exact⟨k,h,by simpa using D,by omega,by omega⟩
theorem Ql9 {g:Bool} {sz:Nat} {cells:List AC} {off:Nat} {v:TV} {xs:List Value} (h:Cp g sz cells off=some v) (D:CL (CC ρ w) cells xs):
  match g with
  |true=>off+sz<=xs.length/\TVR ρ w v (.agg (cut xs off sz).toArray)
  |false=>∃x,xs[off]? =some x/\TVR ρ w v x:=by
 cases g
 ·simp only[Cp,ao]at h;split at h
  ·rename_i a E;simp at h;subst h;obtain⟨x,G,I⟩:=D.get E;exact⟨x,G,TVR.c' I⟩
  ·simp at h
 ·simp only[Cp,ai]at h;cases hb:Nat.ble (off+sz) cells.length
  ·rw[hb]at h;simp at h
  ·rw[hb]at h;simp at h;subst h;exact⟨by rw[<-D.length];exact bc hb,⟨_,rfl,by simpa using D.cut off sz⟩⟩
theorem Qs8 {t:TypeId} {cs:List AC} {off:Nat} {v:TV} {D:Array Value} (h:KT P t cs off=some v) (L:CL (CC ρ w) cs D.toList):
  ∃x,(part t D off).run P w= .ok x w/\TVR ρ w v x:=by
 unfold KT at h;split at h
 ·rename_i g sz I M;have J:=Ql9 h L;cases g
  ·obtain⟨x,N,E⟩:=J;refine⟨x,?_,E⟩;have G:D[off]? =some x:=by simpa using N
   simp[part,LM I,G]
  ·obtain⟨hle,E⟩:=J;refine⟨_,?_,E⟩;simp only[part,Sem.run_bind,LM I,cd,dc,Dm M,Sem.run_pure];congr 2;apply Array.ext';simp[cut]
 ·simp at h
theorem CL.plain {l:List AC} {xs:List Value} (D:Ai AC.plain l=true) (h:CL (CC ρ w) l xs):CL (CP ρ.im w) l xs:=
 h.mono λa E _ G=>Zks (As.1 D a E) G
end
open Go.RowKit
section
variable {P:Program} {ρ:Env} {w:World}
def Ey (P:Program) (ρ:Env) (w:World) (t:TypeId) (cs:List AC) (x:Value):Prop:=
 match B7 P t with
 |some true=>∃D:Array Value,x= .agg D/\CL (CC ρ w) cs D.toList
 |some false=>∃a,cs=[a]/\CC ρ w a x
 |none=>False
theorem PY {t:TypeId} {n:Nat} {cs:List AC} {off:Nat} {G:Array Value} (M:szT P t=some n) (N:B7 P t≠none) (L:CL (CC ρ w) cs G.toList) (hle:off+n<=cs.length)
  (O:B7 P t=some false->n=1):∃x,(part t G off).run P w= .ok x w/\Ey P ρ w t (cut cs off n) x:=by
 cases D:B7 P t with
 |none=>exact absurd D N
 |some g=>
  cases g
  ·have I:=O D;subst I;have E:off<cs.length:=by omega
   obtain⟨x,S,T⟩:=L.get (an E);have J:G[off]? =some x:=by simpa using S
   refine⟨x,by simp[part,LM D,J],?_⟩;unfold Ey;rw[D];refine⟨cs[off],?_,T⟩;simp only[cut,List.drop_eq_getElem_cons E,List.take_succ_cons,List.take_zero]
  ·refine⟨.agg (G.extract off (off+n)),by simp[part,LM D,Dm M],?_⟩;unfold Ey;rw[D];refine⟨_,rfl,?_⟩;have:=L.cut off n;simpa [cut]using this
theorem Qt4 {ok:List TypeId} {d D:Nat} {xs ys:List AC} {X Y:Array Value}
  (ih:∀(t:TypeId) (as bs:List AC) (r:Bool) (A B:Value),eqC P ok d t as bs=some r->Ey P ρ w t as A->Ey P ρ w t bs B->(Op.equalIn D t A B).run P w= .ok r w)
  (hX:CL (CC ρ w) xs X.toList) (hY:CL (CC ρ w) ys Y.toList):∀(fs:List Field) (r:Bool),
  Hx (λf : Field => bif f.name == "_" then none else match szT P f.type with
    |some n=>bif(Nat.ble (f.offset+n) xs.length&&Nat.ble (f.offset+n) ys.length&&G5 P f.type n)then eqC P ok d f.type (cut xs f.offset n) (cut ys f.offset n)else none
    |none=>none) fs=some r->
  (Op.eqFields D X Y fs).run P w= .ok r w
 |[],r,h=>by simp[Hx]at h;subst h;simp[Op.eqFields]
 |f::fs,r,h=>by
  simp only[Hx]at h;split at h
  ·rename_i b hb;split at h
   ·rename_i b' hb';simp at h;subst h;have ht:=Qt4 ih hX hY fs b' hb';cases hnm:f.name== "_"
    ·rw[hnm]at hb;simp only[ao]at hb;split at hb
     ·rename_i n hn;cases hle:(Nat.ble (f.offset+n) xs.length&&Nat.ble (f.offset+n) ys.length&&G5 P f.type n)
      ·rw[hle]at hb;simp at hb
      ·rw[hle]at hb;simp only[ai]at hb;simp only[al]at hle;obtain⟨⟨h1,h2⟩,h3⟩:=hle;have h1':=bc h1;have h2':=bc h2;have hg:B7 P f.type≠none:=by intro e;simp[G5,e]at h3
       have ho:B7 P f.type=some false->n=1:=by intro e;simp[G5,e]at h3;exact h3
       obtain⟨A,hA,vA⟩:=PY hn hg hX h1' ho;obtain⟨B,hB,vB⟩:=PY hn hg hY h2' ho;have he:=ih f.type _ _ b A B hb vA vB;have hne:f.name≠ "_" :=by simpa using hnm
       simp only[Op.eqFields,hne,ne_eq,gv,dc,Sem.run_bind,hA,cd,hB,he];cases b
       ·simp
       ·simpa using ht
     ·simp at hb
    ·rw[hnm]at hb;simp at hb
   ·simp at h
  ·simp at h
theorem Qq3 {ok:List TypeId} {d D e m:Nat} {xs G:List AC} {X Y:Array Value}
  (M:∀(t:TypeId) (as bs:List AC) (r:Bool) (A B:Value),eqC P ok d t as bs=some r->Ey P ρ w t as A->Ey P ρ w t bs B->(Op.equalIn D t A B).run P w= .ok r w)
  (N:CL (CC ρ w) xs X.toList) (O:CL (CC ρ w) G Y.toList) (I:szT P e=some m) (E:G5 P e m=true):∀(l:List Nat) (r:Bool),
  (∀i∈l,i*m+m<=xs.length/\i*m+m<=G.length)->
  Hx (λi=>eqC P ok d e (cut xs (i*m) m) (cut G (i*m) m)) l=some r->
  ((forIn l ((none : Option Bool), PUnit.unit) λi _ => do
    let a<-part e X (i*m)
    let b<-part e Y (i*m)
    let q<-Op.equalIn D e a b
    if(!q)=true then pure (ForInStep.done (some false,PUnit.unit))else pure (ForInStep.yield (none,PUnit.unit)):Sem (Option Bool×PUnit))>>=λs=>match s.1 with
     |none=>pure true
     |some a=>pure a).run P w= .ok r w
 |[],r,_,h=>by simp[Hx]at h;subst h;simp
 |i::l,r,J,h=>by
  simp only[Hx]at h;split at h
  ·rename_i b hb;split at h
   ·rename_i b' L;simp at h;subst h;have S:=Qq3 M N O I E l b' (λj V=>J j (by simp[V])) L;have T:B7 P e≠none:=by intro q;simp[G5,q]at E
    have U:B7 P e=some false->m=1:=by intro q;simp[G5,q]at E;exact E
    obtain⟨A,hA,vA⟩:=PY I T N (J i (by simp)).1 U;obtain⟨B,hB,vB⟩:=PY I T O (J i (by simp)).2 U;have he:=M e _ _ b A B hb vA vB;rw[List.forIn_cons];simp only[Sem.run_bind,hA,cd,hB,he];cases b
    ·simp
    ·simp only[Sem.run_bind]at S;simpa using S
   ·simp at h
  ·simp at h
theorem Qso {ok:List TypeId} (O:∀t∈ok,P.stoodInHeld t=false):∀(d D:Nat),d<=D->∀(t:TypeId) (as bs:List AC) (r:Bool) (A B:Value),
  eqC P ok d t as bs=some r->Ey P ρ w t as A->Ey P ρ w t bs B->(Op.equalIn D t A B).run P w= .ok r w
 |0,_,_,t,as,bs,r,A,B,h,_,_=>by simp[eqC]at h
 |d+1,0,hd,_,_,_,_,_,_,_,_,_=>by omega
 |d+1,D+1,hd,t,as,bs,r,A,B,h,G,I=>by
  have ih:=Qso O d D (by omega);simp only[eqC]at h;split at h
  ·rename_i E;have J:B7 P t=some false:=by simp[B7,E]
   simp only[Ey,J]at G I;obtain⟨a,rfl,T⟩:=G;obtain⟨b,rfl,U⟩:=I;split at h
   ·rename_i x y L M;simp at h L M;subst L M h;have e1:A= .bool x:=by simpa [CC,CP]using T
    have e2:B= .bool y:=by simpa [CC,CP]using U
    subst e1 e2;exact run_equalIn_bool' w D t x y E
   ·simp at h
  ·rename_i k0 E;have J:B7 P t=some false:=by simp[B7,E]
   simp only[Ey,J]at G I;obtain⟨a,rfl,T⟩:=G;obtain⟨b,rfl,U⟩:=I;split at h
   ·rename_i k x k' y L M;simp at L M;subst L M;cases V:kEq k k'
    ·rw[V]at h;simp at h
    ·rw[V]at h;have:=M_ V;subst this;simp at h;subst h;have e1:A= .int k x:=by simpa [CC,CP]using T
     have e2:B= .int k y:=by simpa [CC,CP]using U
     subst e1 e2;exact run_equalIn_int w D t k k0 x y E
   ·simp at h
  ·rename_i fs E;have J:B7 P t=some true:=by simp[B7,E]
   simp only[Ey,J]at G I;obtain⟨X,rfl,hX⟩:=G;obtain⟨Y,rfl,hY⟩:=I;cases N:ok.elem t
   ·rw[N]at h;simp at h
   ·rw[N]at h;simp only[ai]at h;have S:P.fieldsOf t=fs:=by simp[Program.fieldsOf,E]
    rw[run_equalIn_struct w D t X Y (by rw[S];exact E) (O t (by simpa using N)),S];exact Qt4 ih hX hY fs.toList r h
  ·rename_i n e E;have J:B7 P t=some true:=by simp[B7,E]
   simp only[Ey,J]at G I;obtain⟨X,rfl,hX⟩:=G;obtain⟨Y,rfl,hY⟩:=I;split at h
   ·rename_i m hm;cases hle:(Nat.ble (n*m) as.length&&Nat.ble (n*m) bs.length&&G5 P e m)
    ·rw[hle]at h;simp at h
    ·rw[hle]at h;simp only[ai]at h;simp only[al]at hle;obtain⟨⟨L,M⟩,h3⟩:=hle;have a2:=bc L;have a3:=bc M;have hr := Qq3 (P := P) (ρ := ρ) (w := w) (D := D) (X := X) (Y := Y) ih hX hY hm h3 (List.range n) r (λi hi => by
      have a0:i<n:=by simpa using hi
      have:i*m+m<=n*m:=by
       calc i*m+m=(i+1)*m:=by rw[cy,fm]
        _<=n*m:=be _ a0
      omega) h
     simp only[Op.equalIn,Sem.run_bind,run_underlying E,cd,Dm hm];rw[Std.Legacy.Range.forIn_eq_forIn_range'];have a1:List.range' [:n].start [:n].size [:n].step=List.range n:=by
      simp[Std.Legacy.Range.size,List.range_eq_range']
     rw[a1];simp only[Sem.run_bind]at hr;rw[<-hr];congr 1
     funext a w'
     cases a.1<;>rfl
   ·simp at h
  ·simp at h
end
open Go.RowKit
section
variable {P:Program} {C:Cfg} {ρ:Env} {w:World} {R:Type}
theorem O7 {E:Operand->TV} {e:Operand->Value} (D:∀x,TVR ρ w (E x) (e x)):∀(l:List Operand),(BH E l).length=(l.map e).length/\
  ∀(i:Nat) (a:TV) (x:Value),(BH E l)[i]? =some a->(l.map e)[i]? =some x->TVR ρ w a x
 |[]=>⟨rfl,λi a x h=>by simp[BH]at h⟩
 |o::l=>⟨by simp[BH,(O7 D l).1],λi a x h h'=>by
   cases i with
   |zero=>simp[BH]at h h';subst h h';exact D o
   |succ i=>simp[BH]at h h';exact(O7 D l).2 i a x (by simpa using h) (by simpa using h')⟩
theorem OZ {α:Type} (l:List α) (o:Nat):splice l o []=l:=by cases l<;>simp[splice]
theorem Jx {α:Type}:∀(l:List α) (o:Nat) (D:List α),(splice l o D).length=l.length
 |[],_,[]=>by simp[splice]
 |[],_,_::_=>by simp[splice]
 |_::_,_,[]=>by simp[splice]
 |_::l,0,v::D=>by simp[splice,Jx l 0 D]
 |_::l,o+1,v::D=>by simp[splice,Jx l o (v::D)]
theorem Qox {α:Type} (v:α) (D:List α):∀(l:List α) (o:Nat),o<l.length->splice (l.set o v) (o+1) D=splice l o (v::D)
 |[],o,h=>by simp at h
 |y::l,0,_=>by
  cases D with
  |nil=>simp[OZ,splice]
  |cons u G=>simp[splice]
 |y::l,o+1,h=>by
  have E:=Qox v D l o (by simpa using h);cases D with
  |nil=>simp only[OZ]at*;simp[splice,E]
  |cons u G=>simp only[List.set_cons_succ,splice];rw[E]
theorem Qx2 (off:Nat):∀(D:List Value) (k:Nat) (xs:Array Value),off+k+D.length<=xs.size->
  ((D.zipIdx k).foldl (λcs (c,j)=>cs.setIfInBounds (off+j) c) xs).toList=splice xs.toList (off+k) D
 |[],k,xs,_=>by simp[OZ]
 |v::D,k,xs,h=>by
  simp only[List.zipIdx_cons,fg];rw[Qx2 off D (k+1) _ (by simp at h⊢;omega),Array.toList_setIfInBounds,<-Qox v D xs.toList (off+k) (by simp at h⊢;omega),de]
theorem QM {place:Nat->Option (Nat×Nat)} {N:Operand->TV} {e:Operand->Value} (D:∀x,TVR ρ w (N x) (e x)):∀(parts:List (Nat×Operand)) (z cs:List AC) (xs:Array Value),
  CL (CC ρ w) z xs.toList->Hm place z (E6 N parts)=some cs->
  ∃E:Array Value,Instr.fill place xs (parts.map λp=>(p.1,e p.2))=some E/\CL (CC ρ w) cs E.toList/\E.size=xs.size
 |[],z,cs,xs,L,h=>by simp[E6,Hm]at h;subst h;exact⟨xs,rfl,L,rfl⟩
 |(i,o)::parts,z,cs,xs,L,h=>by
  simp only[E6,Hm]at h;split at h
  ·rename_i off size l O S;have G:=(D o).cells S;cases hb:(Nat.beq l.length size&&Nat.ble (off+size) z.length)
   ·rw[hb]at h;simp at h
   ·rw[hb]at h;simp only[ai]at h;simp only[al]at hb;have e1:l.length=size:=ac hb.1;have e2:=bc hb.2;have e3:=G.length;have T:=L.length;have I:(e o).cells.size=size:=by rw[<-e1,e3];simp
    have e5:off+(e o).cells.size<=xs.size:=by rw[I,<-dm,<-T];exact e2
    have M:=Qx2 off (e o).cells.toList 0 xs (by simp;omega);have J:((e o).cells.zipIdx.foldl (λcs (c,j)=>cs.setIfInBounds (off+j) c) xs).toList=splice xs.toList (off+0) (e o).cells.toList:=by
     rw[<-Array.foldl_toList,Array.toList_zipIdx];exact M
    obtain⟨E,U,V,X⟩:=QM D parts _ _ _ (by rw[J];exact L.splice _ G) h;refine⟨E,?_,V,?_⟩
    ·simp only[ba,Instr.fill,O];rw[ab (by simp only[ip,bp,not_or];exact⟨λY=>Y I,by omega⟩)];exact U
    ·rw[X,<-dm,J,Jx,dm]
  ·simp at h
theorem Zqy {α β:Type} (g:α->β) (l:List α) (o m:Nat):cut (l.map g) o m=(cut l o m).map g:=by simp[cut]
theorem Qsx {ks:List Kd}:∀(n:Nat) (cs:List AC) (l:List (List AC)) (xs:List Value),GQ ks n cs=some l->CL (CC ρ w) cs xs->l.length=n/\xs.length=n*ks.length->RowC ρ.im w ks l xs
 |0,cs,l,xs,h,I,E=>by
  cases cs with
  |nil=>
   simp[GQ]at h;subst h;exact⟨by simpa using E.2,by simp,λi c G=>by simp at G⟩
  |cons=>simp[GQ]at h
 |n+1,cs,l,xs,h,I,E=>by
  simp only[GQ]at h;split at h
  ·rename_i c J;split at h
   ·rename_i S L;simp at h;subst h;have N:=PI J (I.take ks.length);have M:xs.length=n*ks.length+ks.length:=by rw[E.2,cy,fm]
    have O:=Qsx n _ S (xs.drop ks.length) L (I.drop ks.length) ⟨by simpa using E.1,by simp[M]⟩;refine⟨by rw[E.2];simp at E⊢;rw[E.1],?_,?_⟩
    ·intro c' D;simp only[az]at D;rcases D with rfl|D
     ·exact N.2
     ·exact O.2.1 c' D
    ·intro i c' G;cases i with
     |zero=>simp at G;subst G;simpa [cut]using N.1
     |succ i=>
      have:=O.2.2 i c' (by simpa using G);have e:cut (xs.drop ks.length) (i*ks.length) ks.length=cut xs ((i+1)*ks.length) ks.length:=by
       simp only[cut,gy];rw[cy,fm,iu]
      rw[<-e];exact this
   ·simp at h
  ·simp at h
theorem Qsh {ks:List Kd}:∀(n:Nat) (cs:List AC) (l:List (List AC)),GQ ks n cs=some l->l.length=n
 |0,[],l,h=>by simp[GQ]at h;subst h;rfl
 |0,_::_,l,h=>by simp[GQ]at h
 |n+1,cs,l,h=>by
  simp only[GQ]at h;split at h
  ·split at h
   ·rename_i E D;simp at h;subst h;simp[Qsh n _ E D]
   ·simp at h
  ·simp at h
theorem Quv {z:List AC} {v:List Value} (D:CL (CC ρ w) z v):∀n,CL (CC ρ w) (Ka z n) ((List.replicate n v).flatten)
 |0=>trivial
 |n+1=>by rw[Ka,ij,List.flatten_cons];exact D.append (Quv D n)
theorem Qxc (v:List Value) (G:0<v.length):∀(n j:Nat),j<n*v.length->(List.replicate n v).flatten[j]? =v[j%v.length]?
 |0,j,h=>by simp at h
 |n+1,j,h=>by
  rw[ij,List.flatten_cons,ft];split
  ·rename_i E;rw[Nat.mod_eq_of_lt E]
  ·rename_i I;have D:v.length<=j:=by omega
   rw[Qxc v G n (j-v.length) (by rw[cy]at h;omega),Nat.mod_eq_sub_mod D]
def VP (e:Operand->Value):Option Operand->Option Int->Prop
 |none,none=>True
 |some x,some n=>∃k,e x= .int k n
 |_,_=>False
theorem Q1c {E:Operand->TV} {e:Operand->Value} (G:∀x,TVR ρ w (E x) (e x)) {o:Option Operand} {i:Option Int} (h:II E o=some i):
  VP e o i:=by
 cases o with
 |none=>simp[II]at h;subst h;trivial
 |some x=>
  simp only[II]at h;split at h
  ·rename_i n D;simp at h;subst h;have I:=G x
   revert D I
   generalize E x=t;intro D I;unfold TV.int? at D;split at D
   ·rename_i k m;simp at D;subst D;exact⟨k,I.int⟩
   ·simp at D
  ·simp at h
theorem Om {t:TV} {x:Value} {n:Int} (h:t.int? =some n) (D:TVR ρ w t x):∃k,x= .int k n:=by
 unfold TV.int? at h;split at h
 ·rename_i k m;simp at h;subst h;exact⟨k,D.int⟩
 ·simp at h
theorem Qk7 {e:Operand->Value} {o:Oper} {c:Call} {f:FuncId} (D:o.op= .call c) (E:c.callee= .value (.func f)) (hf:e (.func f)= .func (.func f) #[] #[]):
  execOp e o=callFunc f (c.args.toList.map e).toArray:=by
 unfold execOp;simp only[D,resolve,E,hf,Deferred.ofValue,pure_bind];simp only[invoke,Array.append_empty,Array.empty_append];rw[<-f9]
theorem Zkl {e:Operand->Value} {o:Oper} {c:Call} {f:FuncId} {t:Tmp} {xs D:Array Value} (E:o.op= .call c) (G:c.callee= .value (.tmp t)) (hf:e (.tmp t)= .func (.func f) xs D):
  execOp e o=callFunc f (xs.toList++(c.args.toList.map e++D.toList)).toArray:=by
 unfold execOp;simp only[E,resolve,G,hf,Deferred.ofValue,pure_bind];simp only[invoke];congr 1;apply Array.ext';simp
theorem Zio {e:Operand->Value} {o:Oper} {c:Call} {b:Builtin} (D:o.op= .call c) (E:c.callee= .builtin b):
  ∃cs,execOp e o=builtin b c.argTypes o.type cs (c.args.map e):=by
 unfold execOp;simp only[D,resolve,E];exact⟨_,rfl⟩
theorem Yg (I:Value->Value->Sem Value) (g:Int->Int->Int) (D:∀k a k' b w,(I (.int k a) (.int k' b)).run P w= .ok (.int k (g a b)) w) (k:IntKind):
  ∀(l:List TV) (xs:List Value) (a:Int) (G:Prim->Option R) (r:R),l.length=xs.length->(∀(i:Nat) (t:TV) (x:Value),l[i]? =some t->xs[i]? =some x->TVR ρ w t x)->Ed g k a l G=some r->
  ∃n,G (.val (.c (.int k n)))=some r/\(xs.foldlM I (.int k a)).run P w= .ok (.int k n) w
 |[],[],a,G,r,_,_,h=>by simp[Ed]at h;exact⟨a,h,by simp⟩
 |[],_::_,_,_,_,E,_,_=>by simp at E
 |_::_,[],_,_,_,E,_,_=>by simp at E
 |t::l,x::xs,a,G,r,E,M,h=>by
  unfold Ed at h;split at h
  ·rename_i k' b;cases N:kEq k k'
   ·rw[N]at h;simp at h
   ·rw[N]at h;simp only[ai]at h;have O:x= .int k' b:=(M 0 _ x rfl rfl).int;subst O;obtain⟨n,J,L⟩:=Yg I g D k l xs (g a b) _ r (by simpa using E) (λi t x J L=>M (i+1) t x (by simpa using J) (by simpa using L)) h;exact⟨n,J,by rw[List.foldlM_cons];simp only[Sem.run_bind,D,cd,L]⟩
  ·simp at h
theorem Zaw {b:Builtin} {N:List TypeId} {args:List TV} {xs:List Value} {ty:TypeId} {cs:Array Bool} {O:Prim->Option R} {r:R}
  (G:args.length=xs.length) (J:∀(i:Nat) (t:TV) (x:Value),args[i]? =some t->xs[i]? =some x->TVR ρ w t x)
  (h:H8 P b N args O=some r) {e:Operand->Value} {o:Oper} (he:execOp e o=builtin b N.toArray ty cs xs.toArray):
  ∃p,O p=some r/\HX P ρ w e o p:=by
 unfold H8 at h;split at h
 ·rename_i ks l
  match xs,G with
  |[x],_=>
   have D:=(J 0 _ x rfl rfl).c;simp only[CC,CP]at D;obtain⟨ad,cap,rfl,_⟩:=D;split at h
   ·rename_i t E;split at h
    ·rename_i S I;refine⟨_,h, .int .i64 l.length,?_,TVR.mkInt _ _⟩;rw[he];simp[builtin,Builtin.len_,run_underlying I,goInt]
    ·simp at h
   ·simp at h
 ·rename_i id wd n
  match xs,G with
  |[x],_=>
   have D:=(J 0 _ x rfl rfl).c;obtain⟨_,_,D⟩:=D;split at h
   ·rename_i t E;split at h
    ·rename_i S I;refine⟨_,h, .int .i64 n,?_,TVR.mkInt _ _⟩;rw[he];rcases D with⟨rfl,rfl⟩|⟨g,o',c,rfl⟩
     ·simp[builtin,Builtin.len_,run_underlying I,goInt]
     ·simp[builtin,Builtin.len_,run_underlying I,goInt]
    ·simp at h
   ·simp at h
 ·rename_i key n
  match xs,G with
  |[x],_=>
   have D:=(J 0 _ x rfl rfl).c;simp only[CC]at D;subst D;split at h
   ·rename_i t E;split at h
    ·rename_i S I;refine⟨_,h, .int .i64 n,?_,TVR.mkInt _ _⟩;rw[he];simp[builtin,Builtin.len_,run_underlying I,goInt]
    ·simp at h
   ·simp at h
 ·match xs,G with
  |[x],_=>
   have D:=(J 0 _ x rfl rfl).c;simp only[CC,CP]at D;subst D;split at h
   ·rename_i t E;split at h
    ·rename_i S I;refine⟨_,h, .int .i64 0,?_,TVR.mkInt _ _⟩;rw[he];simp[builtin,Builtin.len_,run_underlying I,goInt]
    ·simp at h
   ·simp at h
 ·rename_i l
  match xs,G with
  |[x],_=>
   obtain⟨ys,rfl,_⟩:=(J 0 _ x rfl rfl).agg;split at h
   ·rename_i t E;split at h
    ·rename_i n S I;refine⟨_,h, .int .i64 n,?_,TVR.mkInt _ _⟩;rw[he];simp[builtin,Builtin.len_,run_underlying I,goInt]
    ·simp at h
   ·simp at h
 ·rename_i k a rest
  match xs,G with
  |x::xs,G=>
   have D:x= .int k a:=(J 0 _ x rfl rfl).int;subst D;obtain⟨n,L,M⟩:=Yg (P:=P) (ρ:=ρ) (w:=w) Builtin.min2 mn (λk a k' b w=>by simp[Builtin.min2,mn]) k rest xs a O r (by simpa using G) (λi t x L M=>J (i+1) t x (by simpa using L) (by simpa using M)) h;refine⟨_,L, .int k n,?_,TVR.mkInt _ _⟩;rw[he];simp[builtin,Builtin.min_,M]
 ·rename_i k a rest
  match xs,G with
  |x::xs,G=>
   have D:x= .int k a:=(J 0 _ x rfl rfl).int;subst D;obtain⟨n,L,M⟩:=Yg (P:=P) (ρ:=ρ) (w:=w) Builtin.max2 mx (λk a k' b w=>by simp[Builtin.max2,mx]) k rest xs a O r (by simpa using G) (λi t x L M=>J (i+1) t x (by simpa using L) (by simpa using M)) h;refine⟨_,L, .int k n,?_,TVR.mkInt _ _⟩;rw[he];simp[builtin,Builtin.max_,M]
 ·rename_i s x'
  match xs,G with
  |[x,y],_=>
   have D:=(J 0 _ x rfl rfl).c;have T:=(J 1 _ y rfl rfl).c;split at h
   ·rename_i t u;split at h
    ·rename_i el U I V;split at h
     ·rename_i i ks X Y;split at h
      ·rename_i z hz;cases hb:(Nat.beq t u&&Nat.beq z.cells.size i.size&&Nat.beq ks.length i.size)<;>rw[hb]at h
       ·simp at h
       ·simp only[ai]at h;simp only[al]at hb;have e1:=ac hb.1.1;have e2:=ac hb.1.2;have e3:=ac hb.2;subst e1;refine⟨_,h,t,ty,i,z,x,y,I,X,hz,e3.symm,rfl,by rw[e3];exact e2,D,T,?_⟩;rw[he];simp[builtin]
      ·simp at h
     ·simp at h
    ·simp at h
   ·simp at h
 ·simp at h
end
open Go.RowKit
section
variable {P:Program} {C:Cfg} {ρ:Env} {w:World} {R:Type}
theorem Qps {α β:Type} (g:α->Sem β) (s:α->β):∀(l:List α) (w:World),(∀x∈l,(g x).run P w= .ok (s x) w)->(l.mapM g).run P w= .ok (l.map s) w
 |[],w,_=>by simp
 |x::l,w,h=>by
  rw[List.mapM_cons];simp only[Sem.run_bind,h x (by simp),cd,Qps g s l w (λy D=>h y (by simp[D])),Sem.run_pure,ba]
theorem Zal {fs:Array Field} (h:Ai (Jz P) fs.toList=true) (w:World):
  (fs.mapM λf:Field=>(do let n<-sizeOf f.type;pure (f.offset,n):Sem (Nat×Nat))).run P w= .ok (fs.map λf=>(f.offset,(szT P f.type).getD 0)) w:=by
 rw[Array.mapM_eq_mapM_toList];have := Qps (P := P) (λf : Field => (do let n <- sizeOf f.type; pure (f.offset, n) : Sem (Nat × Nat))) (λf => (f.offset, (szT P f.type).getD 0)) fs.toList w (λf hf => by
  have D:=As.1 h f hf;unfold Jz at D;split at D
  ·rename_i n E;simp[Dm E,E]
  ·simp at D)
 simp only[Sem.run_map,this,cd];congr 1;apply Array.ext';simp
theorem Ztt {fs:Array Field} (h:Ai (Jz P) fs.toList=true):
  TN P fs.toList=λi:Nat=>(fs.map λf=>(f.offset,(szT P f.type).getD 0))[i]? :=by
 funext i
 rw[Array.getElem?_map,<-Array.getElem?_toList,TN];cases hf:fs.toList[i]? with
 |none=>rfl
 |some f=>
  have D:=As.1 h f (bq hf);unfold Jz at D;cases E:szT P f.type with
  |none=>rw[E]at D;simp at D
  |some n=>simp[E]
def O2 (w:World) (b o:Nat) (D:List Value):Prop:=∀(j:Nat) (y:Value),D[j]? =some y->w.cell? ⟨b,o+j,none⟩=some y
theorem Qgi {im:Nat->Prop}:∀(cs:List AC) (b o:Nat),CPs im w cs b o->∃D,CL (CP im w) cs D/\O2 w b o D
 |[],b,o,_=>⟨[],trivial,λj y h=>by simp at h⟩
 |c::cs,b,o,h=>by
  rw[CPs]at h;obtain⟨⟨y,G,I⟩,J⟩:=h;obtain⟨D,L,M⟩:=Qgi cs b (o+1) J;refine⟨y::D,⟨I,L⟩,λj z E=> ?_⟩;cases j with
  |zero=>simp at E;subst E;exact G
  |succ j=>have:=M j z (by simpa using E);rwa [show o+(j+1)=o+1+j from by omega]
theorem SC {im:Nat->Prop}:∀(cs:List AC) (D:List Value) (b o:Nat),CL (CP im w) cs D->O2 w b o D->CPs im w cs b o
 |[],[],b,o,_,_=>by simp[CPs]
 |c::cs,y::D,b,o,h,E=>by
  rw[CPs];exact⟨⟨y,E 0 y rfl,h.1⟩,SC cs D b (o+1) h.2 λj z G=>by
   have:=E (j+1) z (by simpa using G)
   rwa [show o+1+j=o+(j+1)from by omega]⟩
 |[],_::_,_,_,h,_=>h.elim
 |_::_,[],_,_,h,_=>h.elim
theorem Se {t:TypeId} {g:Bool} {sz:Nat} {cells:List AC} {sub b o:Nat} {v:TV} {E:List Value} (I:B7 P t=some g) (M:szT P t=some sz)
  (h:Cp g sz cells sub=some v) (N:CL (CC ρ w) cells E) (J:O2 w b o E):
  ∃x,(loadVar t ⟨b,o+sub,none⟩).run P w= .ok x w/\TVR ρ w v x:=by
 have L:=Ql9 h N;cases g
 ·obtain⟨x,O,G⟩:=L;refine⟨x,?_,G⟩;simp[loadVar,LM I,J sub x O]
 ·obtain⟨hle,G⟩:=L;refine⟨_,?_,G⟩;have S:(cut E sub sz).length=sz:=by simp[cut];omega
  have := run_loadCells_list (P := P) w ⟨b, o + sub, none⟩ (cut E sub sz) (λj y D => by
   rw[Addr.add_lit];rw[show o+sub+j=o+(sub+j)from by omega];refine J (sub+j) y ?_;simp only[cut,ep]at D;split at D
   ·rw[dv]at D;exact D
   ·simp at D)
  rw[S]at this;simp[loadVar,LM I,Dm M,this]
theorem Ux {e:Operand->Value} {o:Oper} {t:TypeId} {x:Operand} {L O:Option Operand} {Y:TypeId} {m n cap:Nat} {V:Option Addr} {D G:Option Int} {l hh':Int}
  (ho:o.op= .slice t x L O none) (hu:P.underlying t=some (.slice Y)) (S:szT P Y=some m) (hc:e x= .slice V n cap) (a0:n<=cap)
  (E:VP e L D) (I:VP e O G)
  (J:D.getD 0=l) (T:G.getD (n:Int)=hh') (d1:0<=l) (d2:l<=hh') (d3:hh'<=(n:Int)):
  (execOp e o).run P w= .ok (.value (.slice (if cap=l.toNat then V else V.map (·.add (l.toNat*m))) (hh'.toNat-l.toNat) (cap-l.toNat))) w:=by
 simp only[execOp,ho,Instr.sliceAt,Sem.run_bind,run_underlying hu,cd,hc,Option.map_none,Instr.slice,Instr.sliceBounds,Sem.run_pure,dc,Option.isSome_none,cv,ez];have hH:∀y,O=some y->∃k,e y= .int k hh':=by
  rintro y rfl;cases G with
  |none=>exact I.elim
  |some q=>simp at T;subst T;exact I
 have hL:∀y,L=some y->∃k,e y= .int k l:=by
  rintro y rfl;cases D with
  |none=>exact E.elim
  |some q=>simp at J;subst J;exact E
 cases O with
 |none=>
  have M:G=none:=by cases G with
   |none=>rfl
   |some _=>exact I.elim
  subst M;simp at T;subst T;cases L with
  |none=>
   have M:D=none:=by cases D with
    |none=>rfl
    |some _=>exact E.elim
   subst M;simp at J;subst J;simp[Dm S]
  |some y=>
   obtain⟨k,X⟩:=hL y rfl;have U:l<=(n:Int):=d2;simp[Dm S,X,Instr.sliceBound,asIntOf,d1,U]
 |some z=>
  obtain⟨k',N⟩:=hH z rfl;have q1:0<=hh':=by omega
  have U:hh'<=(cap:Int):=by omega
  cases L with
  |none=>
   have M:D=none:=by cases D with
    |none=>rfl
    |some _=>exact E.elim
   subst M;simp at J;subst J;simp[Dm S,N,Instr.sliceBound,asIntOf,q1,U]
  |some y=>
   obtain⟨k,X⟩:=hL y rfl;simp[Dm S,X,N,Instr.sliceBound,asIntOf,d1,q1,U];intro q4;omega
theorem Znh {im:Nat->Prop} {ks:List Kd} {l:List (List AC)} {E:Option Addr} {cap a b:Nat} (O:a<=b) (hb:b<=l.length)
  (h:CP im w (.vC ks l) (.slice E l.length cap)):CP im w (.vC ks ((l.take b).drop a)) (.slice (if cap=a then E else E.map (·.add (a*ks.length))) (b-a) (cap-a)):=by
 rw[CP]at h⊢;obtain⟨S,J,he,hle,T,hf⟩:=h;simp only[Value.slice.injEq,true_and]at he;obtain⟨rfl,rfl⟩:=he;have hlen:((l.take b).drop a).length=b-a:=by simp;omega
 refine⟨_,_,by rw[hlen],by rw[hlen];omega,λc U=>T c (d7 (eu U)),?_⟩;by_cases L:(l.take b).drop a=[]
 ·exact .inl L
 ·right;have D:0<((l.take b).drop a).length:=List.length_pos_iff.2 L;rw[hlen]at D;rcases hf with hf|⟨b',o,rfl,G,I⟩
  ·subst hf;simp at hb;omega
  ·refine⟨b',o+a*ks.length,?_,G,Qn λi M=> ?_⟩
   ·rw[ab];simp[Addr.add_lit]
   ·rw[hlen]at M;have N:=WW I (a+i) (by omega);have e:((l.take b).drop a)[i]'(by rw[hlen];exact M)=l[a+i]'(by omega):=by simp
    rw[e];refine⟨N.1,?_⟩;have:=N.2;rw[cy,<-de]at this;exact this
theorem Qe4:∀{D:List TV} {as:List AC},H0 D=some as->∀{xs:List Value},D.length=xs.length->(∀(i:Nat) (v:TV) (x:Value),D[i]? =some v->xs[i]? =some x->TVR ρ w v x)->CLc ρ w as xs
 |[],as,h,xs,E,_=>by
  simp[H0]at h;subst h;cases xs with
  |nil=>trivial
  |cons=>simp at E
 |v::D,as,h,xs,E,J=>by
  cases xs with
  |nil=>simp at E
  |cons x xs=>
   have L:=J 0 v x rfl rfl;unfold H0 at h;split at h
   ·simp at*
   ·rename_i a l heq;simp only[fh]at heq;obtain⟨rfl,rfl⟩:=heq;cases G:a.clOk<;>rw[G]at h
    ·simp at h
    ·simp only[ai]at h;split at h
     ·rename_i r I;simp at h;subst h;refine⟨?_,Qe4 I (by simpa using E) λi v x M N=>J (i+1) v x (by simpa using M) (by simpa using N)⟩;have O:=L.c;cases a<;>simp only[AC.clOk]at G<;>first|(simp at G;done)|exact O
     ·simp at h
   ·simp at h
theorem Wq:∀{as:List AC} {xs:List Value},CLc ρ w as xs->(as.map TV.c).length=xs.length/\∀(i:Nat) (v:TV) (x:Value),(as.map TV.c)[i]? =some v->xs[i]? =some x->TVR ρ w v x
 |[],[],_=>⟨rfl,λi v x h=>by simp at h⟩
 |a::as,x::xs,h=>by
  obtain⟨G,I⟩:=Wq h.2;refine⟨by simpa using G,λi v y D E=> ?_⟩;cases i with
  |zero=>
   simp at D E;subst D;subst E;have:=h.1;cases a<;>first|exact TVR.c' this|(exact TVR.c' (Ho this))|(simp[CCc,CP]at this)
  |succ i=>exact I i v y (by simpa using D) (by simpa using E)
 |[],_::_,h=>h.elim
 |_::_,[],h=>h.elim
theorem Qtj {a b:List TV} {xs G:List Value} (I:a.length=xs.length/\∀(i:Nat) (v:TV) (x:Value),a[i]? =some v->xs[i]? =some x->TVR ρ w v x)
  (J:b.length=G.length/\∀(i:Nat) (v:TV) (x:Value),b[i]? =some v->G[i]? =some x->TVR ρ w v x):
  (a++b).length=(xs++G).length/\∀(i:Nat) (v:TV) (x:Value),(a++b)[i]? =some v->(xs++G)[i]? =some x->TVR ρ w v x:=by
 refine⟨by simp[I.1,J.1],λi v x D E=> ?_⟩;rw[ft]at D E;by_cases L:i<a.length
 ·rw[aa L]at D;rw[aa]at E;exact I.2 i v x D E
 ·rw[ab L]at D;rw[ab]at E;rw[I.1]at D;exact J.2 _ v x D E
theorem Q4q (g0:∀t∈C.eqOk,P.stoodInHeld t=false) {ev:Operand->TV} {e:Operand->Value} (G:∀x,TVR ρ w (ev x) (e x))
  (d0:∀f,e (.func f)= .func (.func f) #[] #[]) (o:Oper) {Kp:Prim->Option R} {r:R} (h:opK P C ev o.dst o.op Kp=some r):
  ∃p,Kp p=some r/\HX P ρ w e o p:=by
 obtain⟨dst,op,type,pos,after,guard⟩:=o;have hx:∀(d4:Op) (v:TV) (x:Value),op=d4->((execOp e ⟨dst,d4,type,pos,after,guard⟩).run P w= .ok (.value x) w)->TVR ρ w v x->HX P ρ w e ⟨dst,op,type,pos,after,guard⟩ (.val v):=by
  rintro _ v x rfl N O;exact⟨x,N,O⟩
 cases op<;>simp only[opK]at h<;>try (simp at h;done)
 case move x=>exact⟨_,h,e x,by simp[execOp],G x⟩
 case assign x=>exact⟨_,h,e x,by simp[execOp],G x⟩
 case pick c a b=>
  split at h
  ·rename_i g I;have b5:e c= .bool g:=by have:=G c;rw[I]at this;exact this.bool
   cases g
   ·simp only[ao]at h;exact⟨_,h,e b,by simp[execOp,b5,asBool],G b⟩
   ·simp only[ai]at h;exact⟨_,h,e a,by simp[execOp,b5,asBool],G a⟩
  ·simp at h
 case alloc t=>
  split at h
  ·rename_i cs hz;obtain⟨v,E,I⟩:=Ra (ρ:=ρ) (w:=w) hz;refine⟨_,h,v.cells,I,?_⟩;simp[execOp,Instr.alloc,E,newVar,newRow]
  ·simp at h
 case box t x=>
  split at h
  ·rename_i cs I;exact⟨_,h,(e x).cells,(G x).cells I,by simp[execOp,Instr.box,newVar,newRow]⟩
  ·simp at h
 case build t parts=>
  split at h
  ·rename_i z fs hz L;obtain⟨v,E,I⟩:=Ra (ρ:=ρ) (w:=w) hz;cases a7:(Ai (Jz P) fs.toList)<;>rw[a7]at h
   ·simp at h
   ·simp only[ai]at h;split at h
    ·rename_i cs hb;rw[Ztt a7]at hb;obtain⟨S,N,O,_⟩:=QM G _ _ _ _ I hb;refine⟨_,h, .agg S,?_,⟨S,rfl,O⟩⟩;have g1:=Zal (P:=P) a7 w;simp only[execOp,Instr.build,Sem.run_bind,E,cd,run_underlying L,g1,f9];rw[N];simp
    ·simp at h
  ·rename_i z n el hz L;obtain⟨v,E,I⟩:=Ra (ρ:=ρ) (w:=w) hz;split at h
   ·rename_i m hm;split at h
    ·rename_i cs hb;obtain⟨S,N,O,_⟩:=QM G _ _ _ _ I hb;refine⟨_,h, .agg S,?_,⟨S,rfl,O⟩⟩;simp only[execOp,Instr.build,Sem.run_bind,E,cd,run_underlying L,Dm hm,f9];rw[N];simp
    ·simp at h
   ·simp at h
  ·simp at h
 case buildSlice t n parts=>
  split at h
  ·rename_i el L;split at h
   ·rename_i m z ks hm hz g2;obtain⟨v,E,I⟩:=Ra (ρ:=ρ) (w:=w) hz;cases hb:(Nat.beq z.length m&&Nat.beq ks.length m&&Nat.ble 1 m&&Nat.ble (n*m) 65536)<;>rw[hb]at h
    ·simp at h
    ·simp only[ai]at h;simp only[al]at hb;have e1:=ac hb.1.1.1;have ek:=ac hb.1.1.2;have e2:=bc hb.1.2;have e3:=bc hb.2;split at h
     ·rename_i cs g3;have a3:∃S:Array Value,CL (CC ρ w) cs S.toList/\S.toList.length=n*m/\(execOp e ⟨dst, .buildSlice t n parts,type,pos,after,guard⟩).run P w= .ok (.value (.slice (some ⟨w.heap.size,0,none⟩) n n)) (w.alloc (.cells S el)):=by
       have b6:v.cells.toList.length=m:=by rw[<-I.length];exact e1
       have g4:((Array.range (n*m)).map λi=>(if n*m=0 then #[]else v.cells)[i%(if n*m=0 then(#[]:Array Value)else v.cells).size]!).toList=(List.replicate n v.cells.toList).flatten:=by
        by_cases hn:n*m=0
        ·have:n=0:=by
          rcases Nat.mul_eq_zero.1 hn with h0|h0
          ·exact h0
          ·omega
         subst this;simp
        ·simp only[hn,ez];apply f5;intro j;by_cases hj:j<n*m
         ·rw[Qxc _ (by omega) n j (by rw[b6];exact hj),b6];have hs:v.cells.size=m:=by rw[<-b6];simp
          have T:j%m<v.cells.size:=by rw[hs];exact fv _ (by omega)
          simp[hj,hs];rw[getElem!_pos v.cells (j%m) T,gj T]
         ·have d5:v.cells.size=m:=by rw[<-b6];simp
          rw[db (by simp;omega),db (by simp[d5];omega)]
       have e0:=Quv I n;rw[<-g4]at e0;obtain⟨S,N,O,h3⟩:=QM G _ _ _ _ e0 g3;have c5:S.toList.length=n*m:=by rw[dm,h3];simp
       refine⟨S,O,c5,?_⟩;have a8: ¬(n*m>2^24):=by omega
       simp only[execOp,Instr.buildSlice,Sem.run_bind,run_underlying L,cd,Dm hm,a8,ez,Sem.run_pure,f9];by_cases hn:n*m=0
       ·simp only[hn,dc]at N;simp only[hn,dc,Sem.run_bind,Sem.run_pure,cd];rw[N];simp[newRow]
       ·simp only[hn,ez]at N;simp only[hn,ez,Sem.run_bind,E,Sem.run_pure,cd];rw[N];simp[newRow]
      obtain⟨S,O,c5,a3⟩:=a3;split at h
      ·rename_i l e4;have b7:=Qsh _ _ _ e4;have key:∃arr:Array Value,0<ks.length/\l.length<=maxLen/\RowC ρ.im w ks l arr.toList/\
         (execOp e ⟨dst, .buildSlice t n parts,type,pos,after,guard⟩).run P w= .ok (.value (.slice (some ⟨w.heap.size,0,none⟩) l.length l.length)) (w.alloc (.cells arr el)):=by
        rw[b7];refine⟨S,by omega,?_,?_,a3⟩
        ·have:n<=n*m:=gn n (by omega);simp only[maxLen];omega
        ·exact Qsx n cs l _ e4 O ⟨b7,by rw[ek];exact c5⟩
       cases b5:Qa C dst n<;>rw[b5]at h
       ·exact⟨_,h,key⟩
       ·exact⟨_,h,key⟩
      ·cases U:(Ai AC.isClo cs&&Nat.beq m 1)<;>rw[U]at h
       ·simp at h
       ·simp only[ai]at h;simp only[al]at U;exact⟨_,h,S,O,a3⟩
     ·simp at h
   ·simp at h
  ·simp at h
 case makeSlice t len cap=>
  split at h
  ·rename_i el n c L b7 a9;obtain⟨kl,g5⟩:=Om b7 (G len);obtain⟨kc,g6⟩:=Om a9 (G cap);split at h
   ·rename_i i z ks hi hz g2;split at h
    ·rename_i z' g7;cases hb:(Nat.beq ks.length i.size&&Nat.ble 1 i.size&&Nat.ble 1 i.bytes)<;>rw[hb]at h
     ·simp at h
     ·simp only[ai]at h;simp only[al]at hb;have e1:=ac hb.1.1;have e2:=bc hb.1.2;have e3:=bc hb.2;cases J:decide (n=c)<;>rw[J]at h
      ·simp at h
      ·simp only[ai]at h;have c6:n=c:=by simpa using J
       subst c6;unfold HU at hz;rw[hi]at hz;dsimp only at hz;split at hz
       ·rename_i zv g8;have U:CL (CC ρ w) z zv.cells.toList:=Q0 _ hz;obtain⟨f1,f2⟩:=PI g7 U;refine⟨_,h,t,i,zv,kl,kc,L,hi,g8,e1.symm,rfl,by omega,e3,f2,f1,?_⟩;simp[execOp,g5,g6]
       ·simp at hz
    ·simp at h
   ·simp at h
  ·simp at h
 case makeFunc fn first captured=>
  split at h
  ·rename_i f;split at h
   ·rename_i fs cs b0 V;have ha:=O7 G first.toList;have hb:=O7 G captured.toList;refine⟨_,h, .func (.func f) (first.map e) (captured.map e),by simp[execOp,Instr.makeFunc],TVR.c' ⟨_,_,rfl,?_,?_⟩⟩
    ·rw[f9];exact Qe4 b0 ha.1 ha.2
    ·rw[f9];exact Qe4 V hb.1 hb.2
   ·simp at h
  ·simp at h
 case load t a=>
  split at h
  ·rename_i g sz hg hs;have ha:=G a;split at h
   ·rename_i key off D;rw[D]at ha;have E:=ha.c;simp only[CC]at E;refine⟨_,h,t,hg,hs,?_⟩;simp[execOp,Instr.loadAt,E,Instr.sureAddr]
   ·rename_i cells sub D;rw[D]at ha;obtain⟨b,o,E,b8,V⟩:=ha.c;split at h
    ·rename_i v g9;obtain⟨S,a5,a6⟩:=Qgi cells b o V;obtain⟨x,h6,h7⟩:=Se hg hs g9 (a5.mono λ_ _ _ hh=>Ho hh) a6;refine⟨_,h,x,?_,h7⟩;simp[execOp,Instr.loadAt,E,Instr.sureAddr,h6]
    ·simp at h
   ·rename_i id idx sub D;rw[D]at ha;obtain⟨g',a4,E⟩:=ha.c;refine⟨_,h,t,g',hg,hs,a4,?_⟩;simp[execOp,Instr.loadAt,E,Instr.sureAddr]
   ·simp at h
  ·simp at h
 case store t a x=>
  split at h
  ·rename_i sz cs hs V;cases hb:Nat.beq cs.length sz<;>rw[hb]at h
   ·simp at h
   ·simp only[ai]at h;have e1:=ac hb;subst e1;have ha:=G a;split at h
    ·rename_i key off D;rw[D]at ha;have E:=ha.c;simp only[CC]at E;refine⟨_,h,t,e x,hs,(G x).cells V,?_⟩;simp[execOp,Instr.storeAt,E,Instr.sureAddr]
    ·rename_i id idx sub D;rw[D]at ha;obtain⟨g',a4,E⟩:=ha.c;refine⟨_,h,t,e x,g',hs,(G x).cells V,a4,?_⟩;simp[execOp,Instr.storeAt,E,Instr.sureAddr]
    ·simp at h
  ·simp at h
 case nilCheck x=>
  have E:=G x;split at h
  ·rename_i key off D;rw[D]at E;have I:=E.c;simp only[CC]at I;exact⟨_,h,e x,by simp[execOp,I],E⟩
  ·rename_i id idx sub D;rw[D]at E;obtain⟨g',a4,I⟩:=E.c;exact⟨_,h,e x,by simp[execOp,I],E⟩
  ·rename_i cs sub D;rw[D]at E;obtain⟨b,o,I,_⟩:=E.c;exact⟨_,h,e x,by simp[execOp,I],E⟩
  ·simp at h
 case binOp e5 t x y yt=>
  have a0:=G x;have a1:=G y;split at h
  ·rename_i k a k' b hex a2;rw[hex]at a0;rw[a2]at a1;have e1:=a0.int;have e2:=a1.int;cases hk:kEq k k'<;>rw[hk]at h
   ·cases e6:KC e5<;>rw[e6]at h
    ·simp at h
    ·simp only[Bool.false_or,ai]at h;obtain⟨c,v,N,O,h3,h4,h5⟩:=Q31 (P:=P) (ρ:=ρ) (w:=w) e6 t k k' a b _ h;refine⟨_,N,v,?_,TVR.c' (Ho O)⟩;simp[execOp,e1,e2,eqGuard_at_int,h3]
   ·simp only[Bool.true_or,ai]at h;have:=M_ hk;subst this;obtain⟨c,v,N,O,h3⟩:=Zgg (P:=P) (ρ:=ρ) (w:=w) e5 t k a b _ h;refine⟨_,N,v,?_,TVR.c' (Ho O)⟩;simp[execOp,e1,e2,eqGuard_at_int,h3]
  ·rename_i a b hex a2;rw[hex]at a0;rw[a2]at a1;have e1:=a0.bool;have e2:=a1.bool;split at h
   ·rename_i L;refine⟨_,h, .bool (a==b),?_,TVR.mkBool _⟩;simp[execOp,e1,e2,eqGuard_at_bool,binOp,Op.equal,Op.maxDepth,run_equalIn_bool' w 9999 t a b L]
   ·rename_i L;refine⟨_,h, .bool (!(a==b)),?_,TVR.mkBool _⟩;simp[execOp,e1,e2,eqGuard_at_bool,binOp,Op.equal,Op.maxDepth,run_equalIn_bool' w 9999 t a b L]
   ·simp at h
  ·rename_i a b hex a2;rw[hex]at a0;rw[a2]at a1;have e1:=a0.c;have e2:=a1.c;simp only[CC,CP]at e1 e2;have e1:=e1.1;have e2:=e2.1;split at h
   ·refine⟨_,h, .bool (a.toList==b.toList),?_,TVR.mkBool _⟩;simp[execOp,e1,e2,eqGuard_at_string,binOp,Op.stringOp]
   ·refine⟨_,h, .bool (!(a.toList==b.toList)),?_,TVR.mkBool _⟩;simp[execOp,e1,e2,eqGuard_at_string,binOp,Op.stringOp]
   ·cases hle:Nat.ble (a.size+b.size) 9223372036854775807<;>rw[hle]at h
    ·cases h
    simp only[ai]at h;have hle:=bc hle;refine⟨_,h, .string (a++b),?_,TVR.c' (Ho ⟨rfl,rfl⟩)⟩;simp[execOp,e1,e2,eqGuard_at_string,binOp,Op.stringOp];omega
   ·simp at h
  ·rename_i key off hex a2;rw[hex]at a0;rw[a2]at a1;have e1:=a0.c;have e2:=a1.c;simp only[CC]at e1;simp only[CC,CP]at e2;have e2:=e2.1;split at h
   ·rename_i el L;have hp:P.underlying t=some (.pointer (P.pointee t)):=by simp[Program.pointee,L]
    refine⟨_,h, .bool false,?_,TVR.mkBool _⟩;simp[execOp,e1,e2,eqGuard_at_pointer,run_eql_pointer_nil w t _ hp]
   ·rename_i el L;have hp:P.underlying t=some (.pointer (P.pointee t)):=by simp[Program.pointee,L]
    refine⟨_,h, .bool true,?_,TVR.mkBool _⟩;simp[execOp,e1,e2,eqGuard_at_pointer,run_neq_pointer_nil w t _ hp]
   ·simp at h
  ·rename_i hex a2;rw[hex]at a0;rw[a2]at a1;have e1:=a0.c;have e2:=a1.c;simp only[CC,CP]at e1 e2;have e1:=e1.1;have e2:=e2.1;split at h
   ·rename_i el L;have hp:P.underlying t=some (.pointer (P.pointee t)):=by simp[Program.pointee,L]
    refine⟨_,h, .bool true,?_,TVR.mkBool _⟩;simp[execOp,e1,e2,eqGuard_at_pointer,run_eql_pointer_nil w t _ hp]
   ·rename_i el L;have hp:P.underlying t=some (.pointer (P.pointee t)):=by simp[Program.pointee,L]
    refine⟨_,h, .bool false,?_,TVR.mkBool _⟩;simp[execOp,e1,e2,eqGuard_at_pointer,run_neq_pointer_nil w t _ hp]
   ·simp at h
  ·rename_i xs S hex a2;rw[hex]at a0;rw[a2]at a1;obtain⟨X,e1,hX⟩:=a0.agg;obtain⟨Y,e2,hY⟩:=a1.agg;cases a8:P.eqGuardType P.depth t<;>rw[a8]at h
   ·simp only[ao]at h;have key:∀q,B7 P t=some true->eqC P C.eqOk 20 t xs S=some q->(Op.equalIn 10000 t (.agg X) (.agg Y)).run P w= .ok q w:=by
     intro q hg hq;exact Qso g0 20 10000 (by omega) t xs S q _ _ hq (by simp only[Ey,hg];exact⟨X,rfl,hX⟩) (by simp only[Ey,hg];exact⟨Y,rfl,hY⟩)
    split at h
    ·rename_i q hg hq;refine⟨_,h, .bool q,?_,TVR.mkBool _⟩;simp[execOp,e1,e2,run_eqGuard_agg w .eql t x y X Y a8,run_eql_struct,key q hg hq]
    ·rename_i q hg hq;refine⟨_,h, .bool (!q),?_,TVR.mkBool _⟩;simp[execOp,e1,e2,run_eqGuard_agg w .neq t x y X Y a8,run_neq_struct,key q hg hq]
    ·simp at h
   ·simp at h
  ·simp at h
 case unOp i4 t x=>
  have E:=G x;split at h
  ·rename_i k n D;rw[D]at E;have e1:=E.int;exact⟨_,h, .int k (k.wrap (0-n)),by simp[execOp,e1,Op.unary,Op.intArith],TVR.mkInt _ _⟩
  ·rename_i b D;rw[D]at E;have e1:=E.bool;exact⟨_,h, .bool (!b),by simp[execOp,e1,Op.unary],TVR.mkBool _⟩
  ·simp at h
 case convert src i3 x=>
  have E:=G x;split at h
  ·rename_i d k k' n hs J D;rw[D]at E;have e1:=E.int;refine⟨_,h, .int k (k.wrap n),?_,TVR.mkInt _ _⟩;simp[execOp,e1,convert,run_underlying hs,run_underlying J,Conv.intToInt]
  ·simp at h
 case fieldAddr t x i=>
  split at h
  ·rename_i f hf;have b0:∃fs,P.underlying t=some (.struct fs)/\fs[i]? =some f:=by
    unfold QW at hf;split at hf
    ·rename_i fs L;exact⟨fs,L,by simpa using hf⟩
    ·simp at hf
   obtain⟨fs,L,b1⟩:=b0;split at h
   ·rename_i n hn;have i5:n+1≠0:=by omega
    have E:=G x;have fp:∀(b o:Nat),(fieldPlace ⟨b,o,none⟩ f).run P w= .ok ⟨b,o+f.offset,none⟩ w:=by
     intro b o;simp[fieldPlace,Dm hn,Addr.add_lit]
    split at h
    ·rename_i key off D;rw[D]at E;have I:=E.c;simp only[CC]at I;refine⟨_,h, .pointer (some ⟨ρ.bx key,off+f.offset,none⟩),?_,TVR.c' (by simp[CC])⟩;simp[execOp,Instr.fieldAt,run_underlying L,b1,I,Instr.sureAddr,fp]
    ·rename_i id idx sub D;rw[D]at E;obtain⟨g',a4,I⟩:=E.c;refine⟨_,h, .pointer (some ⟨g',Gm (ρ.rv id)+(idx*ρ.wd id+sub)+f.offset,none⟩),?_,TVR.c' ⟨g',a4,by rw[de,de]⟩⟩;simp[execOp,Instr.fieldAt,run_underlying L,b1,I,Instr.sureAddr,fp]
    ·rename_i cs sub D;rw[D]at E;obtain⟨b,o,I,N,O⟩:=E.c;refine⟨_,h, .pointer (some ⟨b,o+sub+f.offset,none⟩),?_,TVR.c' ⟨b,o,by rw[de],N,O⟩⟩;simp[execOp,Instr.fieldAt,run_underlying L,b1,I,Instr.sureAddr,fp]
    ·simp at h
   ·simp at h
  ·simp at h
 case field t x i=>
  split at h
  ·rename_i f cs hf D;have b0:∃fs,P.underlying t=some (.struct fs)/\fs[i]? =some f:=by
    unfold QW at hf;split at hf
    ·rename_i fs L;exact⟨fs,L,by simpa using hf⟩
    ·simp at hf
   obtain⟨fs,L,b1⟩:=b0;have E:=G x;rw[D]at E;obtain⟨S,I,U⟩:=E.agg;split at h
   ·rename_i v hp;obtain⟨y,a5,a6⟩:=Qs8 (P:=P) hp U;refine⟨_,h,y,?_,a6⟩;simp[execOp,Instr.field,run_underlying L,b1,I,asAgg,a5]
   ·simp at h
  ·simp at h
 case indexAddr t x ix=>
  split at h
  ·rename_i i n el hi L;obtain⟨k,hk⟩:=Om hi (G ix);have E:=G x;split at h
   ·rename_i m key off hm D;rw[D]at E;have I:=E.c;simp only[CC]at I;obtain⟨j,N,O,h3,h4⟩:=GA h;refine⟨_,N, .pointer (some ⟨ρ.bx key,off+j*m,none⟩),?_,TVR.c' (by simp[CC])⟩;have T:j<n:=by omega
    simp[execOp,Instr.indexAt,run_underlying L,hk,asIntOf,I,Instr.sureAddr,O,T,Dm hm,Addr.add_lit]
   ·rename_i m id idx sub hm D;rw[D]at E;obtain⟨g',a4,I⟩:=E.c;obtain⟨j,N,O,h3,h4⟩:=GA h;refine⟨_,N, .pointer (some ⟨g',Gm (ρ.rv id)+(idx*ρ.wd id+sub)+j*m,none⟩),?_,TVR.c' ⟨g',a4,by rw[de,de]⟩⟩;have T:j<n:=by omega
    simp[execOp,Instr.indexAt,run_underlying L,hk,asIntOf,I,Instr.sureAddr,O,T,Dm hm,Addr.add_lit]
   ·rename_i m cs sub hm D;rw[D]at E;obtain⟨b,o,I,b8,V⟩:=E.c;obtain⟨j,N,O,h3,h4⟩:=GA h;refine⟨_,N, .pointer (some ⟨b,o+sub+j*m,none⟩),?_,TVR.c' ⟨b,o,by rw[de],b8,V⟩⟩;have T:j<n:=by omega
    simp[execOp,Instr.indexAt,run_underlying L,hk,asIntOf,I,Instr.sureAddr,O,T,Dm hm,Addr.add_lit]
   ·simp at h
  ·rename_i i el hi L;obtain⟨k,hk⟩:=Om hi (G ix);have E:=G x;split at h
   ·rename_i m ks l hm D;rw[D]at E;have I:=E.c;simp only[CC,CP]at I;obtain⟨ad,cap,I,c0,h8,hf⟩:=I;cases hb:Nat.beq m ks.length<;>rw[hb]at h
    ·simp at h
    ·simp only[ai]at h;have e1:=ac hb;subst e1;cases J:(decide (0<=i)&&decide (i<(l.length:Int)))<;>rw[J]at h
     ·simp at h
     ·simp only[ai]at h;simp at J;have b9:i.toNat<l.length:=by omega
      rcases hf with hf|⟨b,o,rfl,b8,h9⟩
      ·subst hf;simp at b9
      ·obtain⟨j0,V⟩:=WW h9 i.toNat b9;have e7:AF ks (nth [] l i.toNat)=l[i.toNat]:=by
        rw[B3,List.getD,an b9];exact h8 _ (bv b9)
       refine⟨_,h, .pointer (some ⟨b,o+i.toNat*ks.length+0,none⟩),?_,TVR.c' ⟨b,o+i.toNat*ks.length,rfl,b8,by rw[e7];exact V⟩⟩;simp[execOp,Instr.indexAt,run_underlying L,hk,asIntOf,I,J,Dm hm,Addr.add_lit]
   ·rename_i m id wd n hm D;rw[D]at E;obtain⟨e8,i0,b2⟩:=E.c;cases hb:Nat.beq m wd<;>rw[hb]at h
    ·simp at h
    ·simp only[ai]at h;have e1:=ac hb;subst e1;cases J:(decide (0<=i)&&decide (i<(n:Int)))<;>rw[J]at h
     ·simp at h
     ·simp only[ai]at h;simp at J;rcases b2 with⟨_,rfl⟩|⟨g',o',c',b2⟩
      ·omega
      ·refine⟨_,h, .pointer (some ⟨g',o'+(i.toNat*ρ.wd id+0),none⟩),?_,TVR.c' ⟨g',by rw[<-e8,b2];rfl,by rw[<-e8,b2];rfl⟩⟩;simp[execOp,Instr.indexAt,run_underlying L,hk,asIntOf,b2,J,Dm hm,Addr.add_lit,i0]
   ·rename_i m key n hm D;rw[D]at E;have I:=E.c;simp only[CC]at I;cases hb:Nat.beq m 1<;>rw[hb]at h
    ·simp at h
    ·simp only[ai]at h;have e1:=ac hb;subst e1;obtain⟨j,N,O,h3,h4⟩:=GA h;refine⟨_,N, .pointer (some ⟨ρ.bx key,j,none⟩),?_,TVR.c' (by simp[CC])⟩;have T:j<n:=by omega
     simp[execOp,Instr.indexAt,run_underlying L,hk,asIntOf,I,O,T,Dm hm,Addr.add_lit]
   ·simp at h
  ·simp at h
 case index t x ix=>
  split at h
  ·rename_i i n el cs hi L D;obtain⟨k,hk⟩:=Om hi (G ix);have E:=G x;rw[D]at E;obtain⟨S,I,U⟩:=E.agg;split at h
   ·rename_i m hm;obtain⟨j,N,O,h3,h4⟩:=GA h;have T:j<n:=by omega
    split at N
    ·rename_i v hp;obtain⟨y,a5,a6⟩:=Qs8 (P:=P) hp U;refine⟨_,N,y,?_,a6⟩;simp[execOp,Instr.index,run_underlying L,hk,asIntOf,I,O,T,Dm hm,a5]
    ·simp at N
   ·simp at h
  ·simp at h
 case slice t x lo hi mx=>
  split at h
  ·rename_i _ e9 f3 el i1 i2 L;have b3:=Q1c G i1;have b4:=Q1c G i2;have E:=G x;split at h
   ·rename_i m ks l hm D;rw[D]at E;have a9:=E.c;have I:=a9;simp only[CC,CP]at I;obtain⟨ad,cap,I,c0,_⟩:=I;rw[I]at a9;cases hb:Nat.beq m ks.length<;>rw[hb]at h
    ·simp at h
    ·simp only[ai]at h;have e1:=ac hb;subst e1;have key:∀(a b:Int),e9.getD 0=a->f3.getD (l.length:Int)=b->0<=a->a<=b->b<=(l.length:Int)->HX P ρ w e ⟨dst, .slice t x lo hi none,type,pos,after,guard⟩ (.val (.c (.vC ks ((l.take b.toNat).drop a.toNat)))):=by
      intro a b ha c7 d1 d2 d3;refine⟨_,Ux rfl L hm I c0 b3 b4 ha c7 d1 d2 d3,TVR.c' ?_⟩;exact Znh (by omega) (by omega) a9
     split at h
     ·refine⟨_,h,?_⟩;have:=key 0 l.length rfl rfl (by omega) (by omega) (by omega);simpa using this
     ·rename_i a;cases J:(decide (0<=a)&&decide (a<=(l.length:Int)))<;>rw[J]at h
      ·simp at h
      ·simp only[ai]at h;simp only[al,bp]at J;refine⟨_,h,?_⟩;have:=key a l.length rfl rfl J.1 J.2 (by omega);simpa using this
     ·rename_i b;cases J:(decide (0<=b)&&decide (b<=(l.length:Int)))<;>rw[J]at h
      ·simp at h
      ·simp only[ai]at h;simp only[al,bp]at J;refine⟨_,h,?_⟩;have:=key 0 b rfl rfl (by omega) J.1 J.2;simpa using this
     ·rename_i a b;cases J:(decide (0<=a)&&decide (a<=b)&&decide (b<=(l.length:Int)))<;>rw[J]at h
      ·simp at h
      ·simp only[ai]at h;simp only[al,bp]at J;exact⟨_,h,key a b rfl rfl J.1.1 J.1.2 J.2⟩
   ·rename_i m id wd n hm D;rw[D]at E;obtain⟨c1,c2,c3⟩:=E.c;split at h
    ·rename_i a;cases hb:Nat.beq m wd<;>rw[hb]at h
     ·simp at h
     ·simp only[ai]at h;have e1:=ac hb;subst e1;cases J:(decide (0<=a)&&decide (a<=(n:Int)))<;>rw[J]at h
      ·simp at h
      ·simp only[ai]at h;simp only[al,bp]at J;refine⟨_,h,λad n' cap c8 c6 j1=> ?_⟩;have hn:n'=n:=by
        rcases c3 with⟨c3,c4⟩|⟨_,_,_,c3⟩
        ·rw[c1,c8]at c3;simp at c3;omega
        ·rw[c1,c8]at c3;simp at c3;exact c3.2.1
       subst hn;have a3:=Ux (P:=P) (w:=w) (e:=e) (o:=⟨dst, .slice t x lo hi none,type,pos,after,guard⟩) rfl L hm (c1.trans c8) c6 b3 b4 (l:=a) (hh':=(n':Int)) rfl rfl J.1 J.2 (Int.le_refl _);rw[c2];simpa using a3
    ·simp at h
   ·rename_i m hm D;rw[D]at E;have I:=E.c;simp only[CC,CP]at I;have key:e9.getD 0=0->f3.getD ((0:Nat):Int)=0->HX P ρ w e ⟨dst, .slice t x lo hi none,type,pos,after,guard⟩ (.val (.c .nilSl)):=by
     intro ha c7;refine⟨_,Ux rfl L hm I (cq _) b3 b4 ha c7 (by omega) (by omega) (by omega),TVR.c' ?_⟩;simp[CC,CP]
    split at h
    ·exact⟨_,h,key rfl rfl⟩
    ·rename_i a;cases J:decide (a=0)<;>rw[J]at h
     ·simp at h
     ·simp only[ai]at h;simp only[bp]at J;exact⟨_,h,key J rfl⟩
    ·rename_i b;cases J:decide (b=0)<;>rw[J]at h
     ·simp at h
     ·simp only[ai]at h;simp only[bp]at J;exact⟨_,h,key rfl J⟩
    ·rename_i a b;cases J:(decide (a=0)&&decide (b=0))<;>rw[J]at h
     ·simp at h
     ·simp only[ai]at h;simp only[al,bp]at J;exact⟨_,h,key J.1 J.2⟩
   ·simp at h
  ·simp at h
 case extract t i=>
  have E:=G t;split at h
  ·rename_i ps D;rw[D]at E;obtain⟨S,I,hp⟩:=E;split at h
   ·rename_i g cs hg;have key:∀(l:List (Bool×List AC)) (xs:List Value) (i:Nat),TP ρ w l xs->l[i]? =some (g,cs)->∃y,xs[i]? =some y/\TVR ρ w (.v g cs) y:=by
     intro l;induction l with
     |nil=>intro xs i _ hh;simp at hh
     |cons p l ih=>
      intro xs i c9 hh;cases xs with
      |nil=>exact c9.elim
      |cons y xs=>
       cases i with
       |zero=>
        simp at hh;subst hh;refine⟨y,rfl,?_⟩;have:=c9.1;cases g<;>exact this
       |succ i=>simpa using ih xs i c9.2 (by simpa using hh)
    obtain⟨y,a5,a6⟩:=key ps S.toList i hp hg;refine⟨_,h,y,?_,a6⟩;have f4:S[i]? =some y:=by simpa using a5
    simp[execOp,Instr.extract,I,f4]
   ·simp at h
  ·simp at h
 case call c=>
  have M:=O7 G c.args.toList;split at h
  ·rename_i b hb;obtain⟨cs,V⟩:=Zio (e:=e) (o:=⟨dst, .call c,type,pos,after,guard⟩) (c:=c) rfl hb;refine Zaw (xs:=c.args.toList.map e) (by rw[M.1]) M.2 h (ty:=type) (cs:=cs) ?_;rw[V,<-f9]
  ·rename_i f hf;cases hp:C.pure f<;>rw[hp]at h
   ·exact⟨_,h,c.args.toList.map e,M.1.symm,M.2,Qk7 rfl hf (d0 f)⟩
   ·exact⟨_,h,c.args.toList.map e,M.1.symm,M.2,Qk7 rfl hf (d0 f)⟩
  ·rename_i t ht;split at h
   ·rename_i f fs cs U;have E:=G (.tmp t);rw[U]at E;obtain⟨xs,S,I,N,O⟩:=E.c;obtain⟨q1,q2⟩:=Qtj (Wq N) (Qtj M (Wq O));cases U:(Ai AC.clOk fs&&Ai AC.clOk cs)<;>rw[U]at h
    ·simp at h
    ·exact⟨_,h,_,q1.symm,q2,Zkl rfl ht I⟩
   ·simp at h
  ·simp at h
end
open Go.RowKit
section defs
variable (aB:List (Nat×Box)) (aC:List (Nat×Row))
def AC.wfP:AC->Prop
 | .ptr key _=>∃b,Ab aB key=some b
 |_=>True
def AC.wf:AC->Prop
 | .ptr key _=>∃b,Ab aB key=some b
 | .bsl key _=>∃b,Ab aB key=some b
 | .own id w n=>∃r,Ab aC id=some r/\r.n=n/\r.w=w
 | .rptr id idx _=>∃r,Ab aC id=some r/\idx<r.n
 | .vptr cs _=>Ai AC.calm cs=true
 | .clo _ fs cs=>(∀a∈fs,AC.wfP aB a)/\∀a∈cs,AC.wfP aB a
 |_=>True
def TV.wf:TV->Prop
 | .v _ cs=>∀a∈cs,AC.wf aB aC a
 | .tup ps=>∀p∈ps,∀a∈p.2,AC.wf aB aC a
 | .dead=>True
end defs
structure Fr (F : Nat -> Prop) (w w' : World) : Prop where
 os:w'.os=w.os
 tape:w'.tape=w.tape
 output:w'.output=w.output
 size:w.heap.size<=w'.heap.size
 block:∀k,F k->w'.heap[k]? =w.heap[k]?
theorem Fr.refl (F:Nat->Prop) (w:World):Fr F w w:=⟨rfl,rfl,rfl,cq _,λ_ _=>rfl⟩
theorem Fr.trans {F:Nat->Prop} {a b c:World} (h:Fr F a b) (k:Fr F b c):Fr F a c:=
 ⟨k.os.trans h.os,k.tape.trans h.tape,k.output.trans h.output,bn h.size k.size,λi D=>(k.block i D).trans (h.block i D)⟩
theorem Fr.mono {F D:Nat->Prop} {w w':World} (h:Fr F w w') (E:∀k,D k->F k):Fr D w w':=⟨h.os,h.tape,h.output,h.size,λk G=>h.block k (E k G)⟩
theorem Fr.drew {F:Nat->Prop} {a w:World} (h:Fr F a w):Fr F a w.drew:=⟨h.os,h.tape,h.output,h.size,h.block⟩
theorem Fr.alloc {F:Nat->Prop} {a w:World} (h:Fr F a w) (D:∀k,F k->k<w.heap.size) (o:Obj):Fr F a (w.alloc o):=
 h.trans ⟨rfl,rfl,rfl,by simp,λk E=>Below.heap_alloc _ _ _ (D k E)⟩
theorem Fr.of_below {w w':World} {F:Nat->Prop} (h:Below w.heap.size w w') (D:∀k,F k->k<w.heap.size):Fr F w w':=⟨h.os,h.tape,h.output,h.size,λk E=>h.block k (D k E)⟩
theorem Fr.grown {F:Nat->Prop} {a w w':World} {row:Option Nat} (h:Fr F a w) (D:w.grownBy w' row) (G:∀k,F k->k<w.heap.size) (I:∀k,row=some k-> ¬F k):Fr F a w':=
 h.trans ⟨D.os,D.tape,D.output,D.size,λk E=>D.block k (G k E) (λe=>I k e.symm E)⟩
structure Base where
 F:Nat->Prop
 w0:World
 I0:Nat->Prop
 K0:Nat->Option Nat
 gt:Gt F w0
structure RelE (Z : Base) (tm : List TV) (aB : List (Nat × Box)) (aC : List (Nat × Row)) (ρ : Env) (tmps : Array Value) (w : World) : Prop where
 tl:tm.length=tmps.size
 tv:∀(i:Nat) (v:TV),tm[i]? =some v->TVR ρ w v (tmps.getD i undef)
 wt:∀v∈tm,TV.wf aB aC v
 wb:∀(k:Nat) (b:Box),Ab aB k=some b->∀a∈b.cells,AC.wf aB aC a
 bx:∀(k:Nat) (b:Box),Ab aB k=some b->∃arr:Array Value,w.heap[ρ.bx k]? =some (.cells arr b.ty (0,0))/\CL (CC ρ w) b.cells arr.toList/\ ¬Z.F (ρ.bx k)
 bi:∀(k k':Nat) (b b':Box),Ab aB k=some b->Ab aB k'=some b'->ρ.bx k=ρ.bx k'->k=k'
 ro:∀(id:Nat) (r:Row),Ab aC id=some r->0<r.w/\ρ.wd id=r.w/\(∀g,(ρ.rv id).ownBlock=some g-> ¬Z.F g)/\∃xs,DK w r.ty r.w (ρ.rv id) r.n xs/\RowC ρ.im w r.ks r.l xs
 ri:∀(id id':Nat) (r r':Row) (g:Nat),Ab aC id=some r->Ab aC id'=some r'->(ρ.rv id).ownBlock=some g->(ρ.rv id').ownBlock=some g->id=id'
 br:∀(k:Nat) (b:Box) (id:Nat) (r:Row),Ab aB k=some b->Ab aC id=some r->(ρ.rv id).ownBlock≠some (ρ.bx k)
 ib:∀b,ρ.im b->b<w.heap.size/\(∀(k:Nat) (bo:Box),Ab aB k=some bo->ρ.bx k≠b)/\(∀(id:Nat) (r:Row),Ab aC id=some r->(ρ.rv id).ownBlock≠some b)
 fr:Fr Z.F Z.w0 w
 fs:∀k,Z.F k->k<w.heap.size
 i0:∀b,Z.I0 b->ρ.im b
 i1:∀b,ρ.im b->Z.I0 b\/ ¬Z.F b
 k0:∀k b,Z.K0 k=some b->ρ.bx k=b/\∃bo,Ab aB k=some bo
section
variable {P:Program} {C:Cfg} {ρ:Env} {w:World} {R:Type} {Z:Base} {tm:List TV} {aB:List (Nat×Box)} {aC:List (Nat×Row)} {tmps:Array Value}
theorem Nc {w:World} {b:Nat} {o:Obj} (h:w.heap[b]? =some o):b<w.heap.size:=(da.1 h).1
theorem RelE.bxlt (h:RelE Z tm aB aC ρ tmps w) {k:Nat} {b:Box} (D:Ab aB k=some b):ρ.bx k<w.heap.size:=by
 obtain⟨arr,E,_⟩:=h.bx k b D;exact Nc E
theorem RelE.rwlt (h:RelE Z tm aB aC ρ tmps w) {id:Nat} {r:Row} (E:Ab aC id=some r) {g:Nat} (D:(ρ.rv id).ownBlock=some g): ¬Z.F g/\g<w.heap.size:=by
 obtain⟨_,_,G,xs,I,_⟩:=h.ro id r E;exact⟨G g D,Qu0 I g D⟩
theorem TVR.mono {ρ ρ':Env} {w w':World} (G:∀(a:AC) (x:Value),CC ρ w a x->CC ρ' w' a x):∀(v:TV) (x:Value),TVR ρ w v x->TVR ρ' w' v x:=by
 intro v x h;have J:∀{l xs},CL (CC ρ w) l xs->CL (CC ρ' w') l xs:=λh=>h.mono λa _ x L=>G a x L;cases v with
 |dead=>trivial
 |v g cs=>
  cases g
  ·obtain⟨a,E,D⟩:=h;exact⟨a,E,G a _ D⟩
  ·obtain⟨I,E,D⟩:=h;exact⟨I,E,J D⟩
 |tup ps=>
  obtain⟨I,E,D⟩:=h;refine⟨I,E,?_⟩;generalize I.toList=l at D;clear E;induction ps generalizing l with
  |nil=>cases l<;>first|exact D|exact D.elim
  |cons p ps M=>
   cases l with
   |nil=>exact D.elim
   |cons y l=>
    obtain⟨g,cs⟩:=p;refine⟨?_,M l D.2⟩;have:=D.1;cases g
    ·obtain⟨a,E,D⟩:=this;exact⟨a,E,G a _ D⟩
    ·obtain⟨I,E,D⟩:=this;exact⟨I,E,J D⟩
theorem TVR.mono' {ρ L:Env} {w w':World} {v:TV} (E:∀(a:AC) (x:Value),AC.wf aB aC a->CC ρ w a x->CC L w' a x) (J:TV.wf aB aC v) {x:Value} (h:TVR ρ w v x):TVR L w' v x:=by
 have O:∀{l xs},(∀a∈l,AC.wf aB aC a)->CL (CC ρ w) l xs->CL (CC L w') l xs:=λS h=>h.mono λa T x U=>E a x (S a T) U;cases v with
 |dead=>trivial
 |v g cs=>
  cases g
  ·obtain⟨a,G,D⟩:=h;subst G;exact⟨a,rfl,E a _ (J a (by simp)) D⟩
  ·obtain⟨I,G,D⟩:=h;exact⟨I,G,O J D⟩
 |tup ps=>
  obtain⟨I,G,D⟩:=h;refine⟨I,G,?_⟩;generalize I.toList=l at D;clear G;induction ps generalizing l with
  |nil=>cases l<;>first|exact D|exact D.elim
  |cons p ps V=>
   cases l with
   |nil=>exact D.elim
   |cons y l=>
    obtain⟨g,cs⟩:=p;refine⟨?_,V (λq X=>J q (by simp[X])) l D.2⟩;have:=D.1;cases g
    ·obtain⟨a,M,N⟩:=this;subst M;exact⟨a,rfl,E a _ (J (false,[a]) (by simp) a (by simp)) N⟩
    ·obtain⟨I,M,N⟩:=this;exact⟨I,M,O (J (true,cs) (by simp)) N⟩
theorem RowC.mono {im D:Nat->Prop} {w w':World} {ks:List Kd} {l:List (List AC)} {xs:List Value} (G:∀b,im b->D b) (hb:∀b,im b->w'.heap[b]? =w.heap[b]?) (h:RowC im w ks l xs):RowC D w' ks l xs:=
 ⟨h.1,h.2.1,λi c E=>(h.2.2 i c E).mono λa _ x I=>CP.mono G hb a x I⟩
theorem AC.agree_refl {ρ D:Env} (E:D.bx=ρ.bx) (G:D.rv=ρ.rv) (I:D.wd=ρ.wd) (a:AC):a.agree ρ D:=by
 have J:∀a:AC,a.agreeP ρ D:=by intro a;cases a<;>first|(simp only[AC.agreeP,E];done)|trivial
 cases a with
 |ptr=>simp only[AC.agree,E]
 |bsl=>simp only[AC.agree,E]
 |own=>simp only[AC.agree,G,I,and_self]
 |rptr=>simp only[AC.agree,G,I,and_self]
 |clo=>exact⟨λa _=>J a,λa _=>J a⟩
 |_=>trivial
theorem CC.keep {g:Nat} {w':World} (E: ¬ρ.im g) (hb:∀b,b≠g->w'.heap[b]? =w.heap[b]?) (a:AC) (x:Value) (h:CC ρ w a x):CC ρ w' a x:=
 CC.mono (λ_ h=>h) (λb D=>hb b (λe=>E (e▸D))) a x (AC.agree_refl rfl rfl rfl a) h
def upN {α:Type} (f:Nat->α) (k:Nat) (v:α):Nat->α:=λj=>if j=k then v else f j
theorem Bt {α:Type} (f:Nat->α) (k:Nat) (v:α):upN f k v k=v:=by simp[upN]
theorem BN {α:Type} (f:Nat->α) (k:Nat) (v:α) {j:Nat} (h:j≠k):upN f k v j=f j:=by simp[upN,h]
theorem AC.wfP_mono {D:List (Nat×Box)} (hb:∀(k:Nat) (b:Box),Ab aB k=some b->∃b',Ab D k=some b') {a:AC} (h:AC.wfP aB a):AC.wfP D a:=by
 cases a with
 |ptr k o=>obtain⟨b,h⟩:=h;exact hb k b h
 |_=>trivial
theorem AC.wf_mono {D:List (Nat×Box)} {E:List (Nat×Row)} (hb:∀(k:Nat) (b:Box),Ab aB k=some b->∃b',Ab D k=some b')
  (N:∀(k:Nat) (r:Row),Ab aC k=some r->∃r',Ab E k=some r'/\r'.n=r.n/\r'.w=r.w) {a:AC} (h:AC.wf aB aC a):AC.wf D E a:=by
 cases a with
 |ptr k o=>obtain⟨b,h⟩:=h;exact hb k b h
 |bsl k o=>obtain⟨b,h⟩:=h;exact hb k b h
 |own id w' n=>obtain⟨r,G,I,S⟩:=h;obtain⟨r',J,L,O⟩:=N id r G;exact⟨r',J,by rw[L,I],by rw[O,S]⟩
 |rptr id i s=>obtain⟨r,G,I⟩:=h;obtain⟨r',J,L,O⟩:=N id r G;exact⟨r',J,by rw[L];exact I⟩
 |vptr=>exact h
 |clo f fs cs=>exact⟨λa M=>AC.wfP_mono hb (h.1 a M),λa M=>AC.wfP_mono hb (h.2 a M)⟩
 |_=>trivial
theorem AC.agree_of {ρ':Env} (D:∀k,(∃b,Ab aB k=some b)->ρ'.bx k=ρ.bx k) (G:∀id,(∃r,Ab aC id=some r)->ρ'.rv id=ρ.rv id/\ρ'.wd id=ρ.wd id) {a:AC} (h:AC.wf aB aC a):a.agree ρ ρ':=by
 have I:∀l:List AC,(∀a∈l,AC.wfP aB a)->∀a∈l,a.agreeP ρ ρ':=by
  intro l J a L;have:=J a L;cases a<;>first|exact D _ this|trivial
 cases a with
 |ptr k o=>exact D k h
 |bsl k o=>exact D k h
 |own id w n=>obtain⟨r,E,_⟩:=h;exact G id ⟨r,E⟩
 |rptr id i s=>obtain⟨r,E,_⟩:=h;exact G id ⟨r,E⟩
 |clo f fs cs=>exact⟨I fs h.1,I cs h.2⟩
 |_=>trivial
theorem TV.wf_mono {D:List (Nat×Box)} {E:List (Nat×Row)} (I:∀a,AC.wf aB aC a->AC.wf D E a) {v:TV} (h:TV.wf aB aC v):TV.wf D E v:=by
 cases v with
 |dead=>trivial
 |v g cs=>exact λa G=>I a (h a G)
 |tup ps=>exact λp J a G=>I a (h p J a G)
theorem RelE.new (h:RelE Z tm aB aC ρ tmps w) {d:Nat} (hd:Ab aB d=none) {ty:TypeId} {cs:List AC} {arr:Array Value} (hw:∀a∈cs,AC.wf aB aC a) (hc:CL (CC ρ w) cs arr.toList):
  RelE Z tm (ins aB d ⟨ty,cs⟩) aC {ρ with bx:=upN ρ.bx d w.heap.size} tmps (w.alloc (.cells arr ty)):=by
 have T:∀(k:Nat) (b:Box),Ab aB k=some b->Ab (ins aB d ⟨ty,cs⟩) k=some b:=by
  intro k b D;rw[C7]
  ·exact D
  ·rintro rfl;rw[hd]at D;cases D
 have G:∀(k:Nat) (b:Box),Ab (ins aB d ⟨ty,cs⟩) k=some b->(k=d/\b=⟨ty,cs⟩)\/(k≠d/\Ab aB k=some b):=by
  intro k b D;by_cases M:k=d
  ·subst M;rw[DI _ _ _ hd]at D;simp at D;exact .inl ⟨rfl,D.symm⟩
  ·rw[C7 _ _ _ _ M]at D;exact .inr ⟨M,D⟩
 have N:∀a,AC.wf aB aC a->AC.wf (ins aB d ⟨ty,cs⟩) aC a:=λa=>AC.wf_mono (λk b D=>⟨b,T k b D⟩) (λk r D=>⟨r,D,rfl,rfl⟩);have hold:∀b,b<w.heap.size->(w.alloc (.cells arr ty)).heap[b]? =w.heap[b]? :=λb hb=>Below.heap_alloc w _ b hb;have O:∀(a:AC) (x:Value),AC.wf aB aC a->CC ρ w a x->CC {ρ with bx:=upN ρ.bx d w.heap.size} (w.alloc (.cells arr ty)) a x:=by
  intro a x I U;refine CC.mono (ρ:=ρ) (ρ':={ρ with bx:=upN ρ.bx d w.heap.size}) (λb hb=>hb) (λb hb=>hold b (h.ib b hb).1) a x ?_ U;refine AC.agree_of (ρ:=ρ) (ρ':={ρ with bx:=upN ρ.bx d w.heap.size}) (λk a0=>BN _ _ _ ?_) (λid _=>⟨rfl,rfl⟩) I;rintro rfl;obtain⟨b,hb⟩:=a0;rw[hd]at hb;cases hb
 refine⟨h.tl,λi v hi=>TVR.mono' O (h.wt v (bq hi)) (h.tv i v hi),λv hv=>TV.wf_mono N (h.wt v hv),?_,?_,?_,?_,h.ri,?_,?_,?_,?_,h.i0,h.i1,?_⟩
 ·intro k b D a I;rcases G k b D with⟨rfl,rfl⟩|⟨E,D⟩
  ·exact N a (hw a I)
  ·exact N a (h.wb k b D a I)
 ·intro k b D;rcases G k b D with⟨rfl,rfl⟩|⟨E,D⟩
  ·refine⟨arr,?_,hc.mono λa I x U=>O a x (hw a I) U,?_⟩
   ·show(w.alloc _).heap[upN ρ.bx k w.heap.size k]? =_;rw[Bt];exact heap_alloc_new w _
   ·show¬Z.F (upN ρ.bx k w.heap.size k);rw[Bt];exact λhf=>Nat.lt_irrefl _ (h.fs _ hf)
  ·obtain⟨ar,V,X,S⟩:=h.bx k b D;refine⟨ar,?_,X.mono λa I x U=>O a x (h.wb k b D a I) U,?_⟩
   ·show(w.alloc _).heap[upN ρ.bx d w.heap.size k]? =_;rw[BN _ _ _ E,hold _ (Nc V)];exact V
   ·show¬Z.F (upN ρ.bx d w.heap.size k);rw[BN _ _ _ E];exact S
 ·intro k k' b b' D a1 he;change upN ρ.bx d w.heap.size k=upN ρ.bx d w.heap.size k' at he;rcases G k b D with⟨e1,_⟩|⟨E,Y⟩<;>rcases G k' b' a1 with⟨e2,_⟩|⟨J,L⟩
  ·rw[e1,e2]
  ·rw[e1,Bt,BN _ _ _ J]at he;have:=h.bxlt L;omega
  ·rw[e2,Bt,BN _ _ _ E]at he;have:=h.bxlt Y;omega
  ·rw[BN _ _ _ E,BN _ _ _ J]at he;exact h.bi k k' b b' Y L he
 ·intro id r hr;obtain⟨V,X,h0,xs,S,h4⟩:=h.ro id r hr;exact⟨V,X,h0,xs,Kk S (λg hg=>hold g (Qu0 S g hg)),h4.mono (λb hb=>hb) (λb hb=>hold b (h.ib b hb).1)⟩
 ·intro k b id r D hr he;change (ρ.rv id).ownBlock=some (upN ρ.bx d w.heap.size k)at he;rcases G k b D with⟨rfl,rfl⟩|⟨E,D⟩
  ·rw[Bt]at he;have:=(h.rwlt hr he).2;omega
  ·rw[BN _ _ _ E]at he;exact h.br k b id r D hr he
 ·intro b hb;obtain⟨V,X,S⟩:=h.ib b hb;refine⟨by simp;omega,λk bo D=> ?_,S⟩;show upN ρ.bx d w.heap.size k≠b;rcases G k bo D with⟨rfl,rfl⟩|⟨E,D⟩
  ·rw[Bt];omega
  ·rw[BN _ _ _ E];exact X k bo D
 ·exact h.fr.alloc h.fs _
 ·intro k D;have:=h.fs k D;simp;omega
 ·intro k b D;obtain⟨q1,bo,q2⟩:=h.k0 k b D;exact⟨by show upN ρ.bx d w.heap.size k=b;rw[BN _ _ _ (by rintro rfl;rw[hd]at q2;cases q2)];exact q1,bo,T k bo q2⟩
theorem RelE.store (h:RelE Z tm aB aC ρ tmps w) {key:Nat} {b:Box} (G:Ab aB key=some b) {cells:List AC} (hw:∀a∈cells,AC.wf aB aC a) {arr:Array Value} (hc:CL (CC ρ w) cells arr.toList):
  RelE Z tm (upd aB key ⟨b.ty,cells⟩) aC ρ tmps (w.setRow (ρ.bx key) arr):=by
 obtain⟨ar,h1,h2,h3⟩:=h.bx key b G;have V: ¬ρ.im (ρ.bx key):=λhi=>(h.ib _ hi).2.1 key b G rfl;have hold:∀g,g≠ρ.bx key->(w.setRow (ρ.bx key) arr).heap[g]? =w.heap[g]? :=λg L=>setRow_other w _ g _ L;have N:∀(a:AC) (x:Value),CC ρ w a x->CC ρ (w.setRow (ρ.bx key) arr) a x:=λa x X=>CC.keep V hold a x X;have I:∀(k:Nat) (bo:Box),Ab (upd aB key ⟨b.ty,cells⟩) k=some bo->(k=key/\bo=⟨b.ty,cells⟩)\/(k≠key/\Ab aB k=some bo):=by
  intro k bo D;by_cases E:k=key
  ·subst E;rw[DU _ _ _ _ G]at D;simp at D;exact .inl ⟨rfl,D.symm⟩
  ·rw[C4 _ _ _ _ E]at D;exact .inr ⟨E,D⟩
 have M:∀(k:Nat) (bo:Box),Ab (upd aB key ⟨b.ty,cells⟩) k=some bo->∃O,Ab aB k=some O:=by
  intro k bo D;rcases I k bo D with⟨rfl,rfl⟩|⟨_,h⟩
  ·exact⟨b,G⟩
  ·exact⟨bo,h⟩
 have S : ∀ a, AC.wf aB aC a -> AC.wf (upd aB key ⟨b.ty, cells⟩) aC a := λa => AC.wf_mono (λk bo D => by
  by_cases E:k=key
  ·subst E;exact⟨_,DU _ _ _ _ G⟩
  ·exact⟨bo,by rw[C4 _ _ _ _ E];exact D⟩) (λk r G=>⟨r,G,rfl,rfl⟩)
 refine⟨h.tl,λi v hi=>TVR.mono N v _ (h.tv i v hi),λv hv=>TV.wf_mono S (h.wt v hv),?_,?_,?_,?_,h.ri,?_,?_,?_,?_,h.i0,h.i1,?_⟩
 ·intro k bo D a ha;rcases I k bo D with⟨rfl,rfl⟩|⟨Y,D⟩
  ·exact S a (hw a ha)
  ·exact S a (h.wb k bo D a ha)
 ·intro k bo D;rcases I k bo D with⟨rfl,rfl⟩|⟨Y,D⟩
  ·exact⟨arr,setRow_heap w _ ar _ b.ty _ h1,hc.mono λa _ x X=>N a x X,h3⟩
  ·obtain⟨a0,T,U,q3⟩:=h.bx k bo D;refine⟨a0,?_,U.mono λa _ x X=>N a x X,q3⟩;rw[hold _ (λe=>Y (h.bi k key bo b D G e))];exact T
 ·intro k k' bo O J a1 he;obtain⟨_,p1⟩:=M k bo J;obtain⟨_,p2⟩:=M k' O a1;exact h.bi k k' _ _ p1 p2 he
 ·intro id r hr;obtain⟨T,U,q0,xs,q3,q4⟩:=h.ro id r hr;exact⟨T,U,q0,xs,Kk q3 (λg L=>hold g (λe=>h.br key b id r G hr (by rw[L,e]))),q4.mono (λ_ hb=>hb) (λg L=>hold g (λe=>V (e▸L)))⟩
 ·intro k bo id r J hr;obtain⟨_,p1⟩:=M k bo J;exact h.br k _ id r p1 hr
 ·intro g L;obtain⟨T,U,q3⟩:=h.ib g L;exact⟨by simpa using T,λk bo J=>by obtain⟨_,p1⟩:=M k bo J;exact U k _ p1,q3⟩
 ·exact h.fr.trans ⟨rfl,rfl,rfl,by simp,λg L=>hold g (λe=>h3 (e▸L))⟩
 ·intro k G;simpa using h.fs k G
 ·intro k b' D;obtain⟨T,bo,U⟩:=h.k0 k b' D;refine⟨T,?_⟩;by_cases E:k=key
  ·subst E;exact⟨_,DU _ _ _ _ G⟩
  ·exact⟨bo,by rw[C4 _ _ _ _ E];exact U⟩
theorem RelE.addRow (h:RelE Z tm aB aC ρ tmps w) {d:Nat} (hd:Ab aC d=none) {r:Row} {v':Value} {xs:List Value} {w':World} (hb:Below w.heap.size w w')
  (hw:0<r.w) (V:DK w' r.ty r.w v' r.n xs) (X:RowC ρ.im w' r.ks r.l xs) (D:∀g,v'.ownBlock=some g->w.heap.size<=g):
  RelE Z tm aB (ins aC d r) {ρ with rv:=upN ρ.rv d v',wd:=upN ρ.wd d r.w} tmps w':=by
 have a1:∀(k:Nat) (q:Row),Ab aC k=some q->Ab (ins aC d r) k=some q:=by
  intro k q E;rw[C7]
  ·exact E
  ·rintro rfl;rw[hd]at E;cases E
 have I:∀(k:Nat) (q:Row),Ab (ins aC d r) k=some q->(k=d/\q=r)\/(k≠d/\Ab aC k=some q):=by
  intro k q E;by_cases T:k=d
  ·subst T;rw[DI _ _ _ hd]at E;simp at E;exact .inl ⟨rfl,E.symm⟩
  ·rw[C7 _ _ _ _ T]at E;exact .inr ⟨T,E⟩
 have Y:∀a,AC.wf aB aC a->AC.wf aB (ins aC d r) a:=λa=>AC.wf_mono (λk b E=>⟨b,E⟩) (λk q E=>⟨q,a1 k q E,rfl,rfl⟩);have hold:∀b,b<w.heap.size->w'.heap[b]? =w.heap[b]? :=λb a2=>hb.block b a2;have a0:∀(a:AC) (x:Value),AC.wf aB aC a->CC ρ w a x->CC {ρ with rv:=upN ρ.rv d v',wd:=upN ρ.wd d r.w} w' a x:=by
  intro a x ha hx;refine CC.mono (ρ:=ρ) (ρ':={ρ with rv:=upN ρ.rv d v',wd:=upN ρ.wd d r.w}) (λb hb=>hb) (λb hb=>hold b (h.ib b hb).1) a x ?_ hx;refine AC.agree_of (ρ:=ρ) (ρ':={ρ with rv:=upN ρ.rv d v',wd:=upN ρ.wd d r.w}) (λk _=>rfl) (λid ⟨q,L⟩=> ?_) ha;have:id≠d:=by rintro rfl;rw[hd]at L;cases L
  exact⟨BN _ _ _ this,BN _ _ _ this⟩
 refine⟨h.tl,λi v hi=>TVR.mono' a0 (h.wt v (bq hi)) (h.tv i v hi),λv hv=>TV.wf_mono Y (h.wt v hv),λk b E a ha=>Y a (h.wb k b E a ha),?_,h.bi,?_,?_,?_,?_,?_,?_,h.i0,h.i1,λk b E=>h.k0 k b E⟩
 ·intro k b E;obtain⟨ar,U,h2,h3⟩:=h.bx k b E;exact⟨ar,by rw[hold _ (Nc U)];exact U,h2.mono λa ha x hx=>a0 a x (h.wb k b E a ha) hx,h3⟩
 ·intro id q L;rcases I id q L with⟨e1,e2⟩|⟨G,L⟩
  ·subst e1 e2;refine⟨hw,Bt _ _ _,?_,xs,?_,X⟩
   ·intro g M hf;change (upN ρ.rv id v' id).ownBlock=some g at M;rw[Bt]at M;exact Nat.lt_irrefl _ (ej (h.fs g hf) (D g M))
   show DK w' q.ty q.w (upN ρ.rv id v' id) q.n xs;rw[Bt];exact V
  ·obtain⟨U,h2,h0,ys,h3,h4⟩:=h.ro id q L;refine⟨U,by show upN ρ.wd d r.w id=_;rw[BN _ _ _ G];exact h2,by show∀g,(upN ρ.rv d v' id).ownBlock=some g->_;rw[BN _ _ _ G];exact h0,ys,?_,h4.mono (λb hb=>hb) (λb hb=>hold b (h.ib b hb).1)⟩;show DK w' q.ty q.w (upN ρ.rv d v' id) q.n ys;rw[BN _ _ _ G];exact Kk h3 λg M=>hold g (h.rwlt L M).2
 ·intro id id' q q' g L a3 M J;change (upN ρ.rv d v' id).ownBlock=_ at M;change (upN ρ.rv d v' id').ownBlock=_ at J;rcases I id q L with⟨e1,_⟩|⟨G,N⟩<;>rcases I id' q' a3 with⟨e2,_⟩|⟨O,S⟩
  ·rw[e1,e2]
  ·rw[e1,Bt]at M;rw[BN _ _ _ O]at J;have:=D g M;have:=(h.rwlt S J).2;omega
  ·rw[e2,Bt]at J;rw[BN _ _ _ G]at M;have:=D g J;have:=(h.rwlt N M).2;omega
  ·rw[BN _ _ _ G]at M;rw[BN _ _ _ O]at J;exact h.ri id id' q q' g N S M J
 ·intro k b id q E L he;change (upN ρ.rv d v' id).ownBlock=some (ρ.bx k)at he;rcases I id q L with⟨e1,_⟩|⟨G,N⟩
  ·rw[e1,Bt]at he;have:=D _ he;have:=h.bxlt E;omega
  ·rw[BN _ _ _ G]at he;exact h.br k b id q E N he
 ·intro b a4;obtain⟨U,h2,h3⟩:=h.ib b a4;refine⟨ej U hb.size,h2,λid q L he=> ?_⟩;change (upN ρ.rv d v' id).ownBlock=some b at he;rcases I id q L with⟨e1,_⟩|⟨G,N⟩
  ·rw[e1,Bt]at he;have:=D _ he;omega
  ·rw[BN _ _ _ G]at he;exact h3 id q N he
 ·exact h.fr.trans (Fr.of_below hb h.fs)
 ·exact λk E=>ej (h.fs k E) hb.size
def AC.free (id:Nat):AC->Prop
 | .own j _ _=>j≠id
 | .rptr j _ _=>j≠id
 |_=>True
def TV.free (id:Nat):TV->Prop
 | .v _ cs=>∀a∈cs,AC.free id a
 | .tup ps=>∀p∈ps,∀a∈p.2,AC.free id a
 | .dead=>True
theorem TVR.mono2 {ρ L:Env} {w w':World} {v:TV} {Q:AC->Prop} (E:∀(a:AC) (x:Value),Q a->CC ρ w a x->CC L w' a x)
  (J:match v with| .v _ cs=>∀a∈cs,Q a| .tup ps=>∀p∈ps,∀a∈p.2,Q a| .dead=>True) {x:Value} (h:TVR ρ w v x):TVR L w' v x:=by
 have O:∀{l xs},(∀a∈l,Q a)->CL (CC ρ w) l xs->CL (CC L w') l xs:=λS h=>h.mono λa T x U=>E a x (S a T) U;cases v with
 |dead=>trivial
 |v g cs=>
  cases g
  ·obtain⟨a,G,D⟩:=h;subst G;exact⟨a,rfl,E a _ (J a (by simp)) D⟩
  ·obtain⟨I,G,D⟩:=h;exact⟨I,G,O J D⟩
 |tup ps=>
  obtain⟨I,G,D⟩:=h;refine⟨I,G,?_⟩;generalize I.toList=l at D;clear G;induction ps generalizing l with
  |nil=>cases l<;>first|exact D|exact D.elim
  |cons p ps V=>
   cases l with
   |nil=>exact D.elim
   |cons y l=>
    obtain⟨g,cs⟩:=p;refine⟨?_,V (λq X=>J q (by simp[X])) l D.2⟩;have:=D.1;cases g
    ·obtain⟨a,M,N⟩:=this;subst M;exact⟨a,rfl,E a _ (J (false,[a]) (by simp) a (by simp)) N⟩
    ·obtain⟨I,M,N⟩:=this;exact⟨I,M,O (J (true,cs) (by simp)) N⟩
theorem RelE.turnRow (h:RelE Z tm aB aC ρ tmps w) {id:Nat} {r:Row} (D:Ab aC id=some r) {r':Row} {v':Value} {xs:List Value} {w':World} (hg:w.grownBy w' (ρ.rv id).ownBlock)
  (hw:r'.w=r.w) (a4:DK w' r'.ty r'.w v' r'.n xs) (a5:RowC ρ.im w' r'.ks r'.l xs) (Y:v'.ownBlock=(ρ.rv id).ownBlock\/∀g,v'.ownBlock=some g->w.heap.size<=g)
  (a6:(v'=ρ.rv id/\r'.n=r.n)\/((∀v∈tm,TV.free id v)/\∀(k:Nat) (b:Box),Ab aB k=some b->∀a∈b.cells,AC.free id a)):
  RelE Z tm aB (upd aC id r') {ρ with rv:=upN ρ.rv id v'} tmps w':=by
 have N:∀(k:Nat) (q:Row),Ab (upd aC id r') k=some q->(k=id/\q=r')\/(k≠id/\Ab aC k=some q):=by
  intro k q I;by_cases a2:k=id
  ·subst a2;rw[DU _ _ _ _ D]at I;simp at I;exact .inl ⟨rfl,I.symm⟩
  ·rw[C4 _ _ _ _ a2]at I;exact .inr ⟨a2,I⟩
 have b1:∀b,ρ.im b->some b≠(ρ.rv id).ownBlock:=λb hb e=>(h.ib b hb).2.2 id r D e.symm;have a0:∀b,ρ.im b->w'.heap[b]? =w.heap[b]? :=λb hb=>hg.block b (h.ib b hb).1 (b1 b hb)
 let Q:AC->Prop:=λa=>AC.wf aB aC a/\((v'=ρ.rv id/\r'.n=r.n)\/AC.free id a)
 have a3:∀a,Q a->AC.wf aB (upd aC id r') a:=by
  rintro a ⟨J,T⟩;cases a with
  |ptr=>exact J
  |own j w1 n1=>
   obtain⟨q,V,q2,q3⟩:=J;by_cases hj:j=id
   ·subst hj;rcases T with⟨_,M⟩|hf
    ·rw[D]at V;simp at V;subst V;exact⟨r',DU _ _ _ _ D,by rw[M,q2],by rw[hw,q3]⟩
    ·exact absurd rfl hf
   ·exact⟨q,by rw[C4 _ _ _ _ hj];exact V,q2,q3⟩
  |rptr j i1 s1=>
   obtain⟨q,V,q2⟩:=J;by_cases hj:j=id
   ·subst hj;rcases T with⟨_,M⟩|hf
    ·rw[D]at V;simp at V;subst V;exact⟨r',DU _ _ _ _ D,by rw[M];exact q2⟩
    ·exact absurd rfl hf
   ·exact⟨q,by rw[C4 _ _ _ _ hj];exact V,q2⟩
  |vptr=>exact J
  |clo=>exact J
  |_=>trivial
 have a7:∀(a:AC) (x:Value),Q a->CC ρ w a x->CC {ρ with rv:=upN ρ.rv id v'} w' a x:=by
  rintro a x ⟨_,T⟩ hx;refine CC.mono (ρ:=ρ) (ρ':={ρ with rv:=upN ρ.rv id v'}) (λb hb=>hb) a0 a x ?_ hx;have key:∀j,((v'=ρ.rv id/\r'.n=r.n)\/j≠id)->upN ρ.rv id v' j=ρ.rv j:=by
   intro j hj;by_cases a8:j=id
   ·subst a8;rcases hj with⟨e,_⟩|hf
    ·rw[Bt,e]
    ·exact absurd rfl hf
   ·exact BN _ _ _ a8
  cases a with
  |own j _ _=>exact⟨key j T,rfl⟩
  |rptr j _ _=>exact⟨key j T,rfl⟩
  |ptr=>rfl
  |clo f fs cs=>exact⟨λa _=>by cases a<;>first|rfl|trivial,λa _=>by cases a<;>first|rfl|trivial⟩
  |_=>trivial
 have a9:∀v∈tm,match v with| .v _ cs=>∀a∈cs,Q a| .tup ps=>∀p∈ps,∀a∈p.2,Q a| .dead=>True:=by
  intro v hv;have h1:=h.wt v hv;have h2:(v'=ρ.rv id/\r'.n=r.n)\/TV.free id v:=Ol a6 (λx=>x) λx=>x.1 v hv;cases v with
  |dead=>trivial
  |v g cs=>exact λa J=>⟨h1 a J,Ol h2 (λx=>x) λx=>x a J⟩
  |tup ps=>exact λp hp a J=>⟨h1 p hp a J,Ol h2 (λx=>x) λx=>x p hp a J⟩
 have b0:∀(k:Nat) (b:Box),Ab aB k=some b->∀a∈b.cells,Q a:=λk b I a J=>⟨h.wb k b I a J,Ol a6 (λx=>x) λx=>x.2 k b I a J⟩;have O:∀g,v'.ownBlock=some g->(ρ.rv id).ownBlock=some g\/w.heap.size<=g:=by
  intro g e;rcases Y with hp|hp
  ·rw[hp]at e;exact .inl e
  ·exact .inr (hp g e)
 refine⟨h.tl,λi v hi=>TVR.mono2 a7 (a9 v (bq hi)) (h.tv i v hi),λv hv=> ?_,λk b I a J=>a3 a (b0 k b I a J),?_,h.bi,?_,?_,?_,?_,?_,?_,h.i0,h.i1,λk b I=>h.k0 k b I⟩
 ·have:=a9 v hv;cases v with
  |dead=>trivial
  |v g cs=>exact λa J=>a3 a (this a J)
  |tup ps=>exact λp hp a J=>a3 a (this p hp a J)
 ·intro k b I;obtain⟨ar,h1,h2,h3⟩:=h.bx k b I;refine⟨ar,?_,h2.mono λa J x hx=>a7 a x (b0 k b I a J) hx,h3⟩;rw[hg.block _ (Nc h1) (λe=>h.br k b id r I D e.symm)];exact h1
 ·intro j q T;rcases N j q T with⟨e1,e2⟩|⟨L,G⟩
  ·subst e1 e2;obtain⟨V,q2,q0,_⟩:=h.ro j r D;refine⟨by rw[hw];exact V,by rw[hw];exact q2,?_,xs,?_,a5⟩
   ·intro g U hf;change (upN ρ.rv j v' j).ownBlock=some g at U;rw[Bt]at U;rcases O g U with M|M
    ·exact q0 g M hf
    ·exact Nat.lt_irrefl _ (ej (h.fs g hf) M)
   show DK w' q.ty q.w (upN ρ.rv j v' j) q.n xs;rw[Bt];exact a4
  ·obtain⟨h1,h2,h0,ys,h3,h4⟩:=h.ro j q G;refine⟨h1,h2,by show∀g,(upN ρ.rv id v' j).ownBlock=some g->_;rw[BN _ _ _ L];exact h0,ys,?_,h4.mono (λb hb=>hb) a0⟩;show DK w' q.ty q.w (upN ρ.rv id v' j) q.n ys;rw[BN _ _ _ L];exact Kk h3 λg U=>hg.block g (h.rwlt G U).2 (λe=>L (h.ri j id q r g G D U e.symm))
 ·intro j j' q q' g T b2 S E;change (upN ρ.rv id v' j).ownBlock=_ at S;change (upN ρ.rv id v' j').ownBlock=_ at E;rcases N j q T with⟨e1,_⟩|⟨L,G⟩<;>rcases N j' q' b2 with⟨e2,_⟩|⟨a1,X⟩
  ·rw[e1,e2]
  ·rw[e1,Bt]at S;rw[BN _ _ _ a1]at E;rcases O g S with M|M
   ·rw[e1];exact(h.ri j' id q' r g X D E M).symm
   ·have:=(h.rwlt X E).2;omega
  ·rw[e2,Bt]at E;rw[BN _ _ _ L]at S;rcases O g E with M|M
   ·rw[e2];exact h.ri j id q r g G D S M
   ·have:=(h.rwlt G S).2;omega
  ·rw[BN _ _ _ L]at S;rw[BN _ _ _ a1]at E;exact h.ri j j' q q' g G X S E
 ·intro k b j q I T he;change (upN ρ.rv id v' j).ownBlock=some (ρ.bx k)at he;rcases N j q T with⟨e1,_⟩|⟨L,G⟩
  ·rw[e1,Bt]at he;rcases O _ he with M|M
   ·exact h.br k b id r I D M
   ·have:=h.bxlt I;omega
  ·rw[BN _ _ _ L]at he;exact h.br k b j q I G he
 ·intro b b3;obtain⟨h1,h2,h3⟩:=h.ib b b3;refine⟨ej h1 hg.size,h2,λj q T he=> ?_⟩;change (upN ρ.rv id v' j).ownBlock=some b at he;rcases N j q T with⟨e1,_⟩|⟨L,G⟩
  ·rw[e1,Bt]at he;rcases O _ he with M|M
   ·exact h3 id r D M
   ·omega
  ·rw[BN _ _ _ L]at he;exact h3 j q G he
 ·refine h.fr.grown hg h.fs λg e=>(h.rwlt D e).1
 ·exact λk I=>ej (h.fs k I) hg.size
end
open Go.RowKit
def DG (F:Nat->Prop) (w:World) (ρ:Env) (aB:List (Nat×Box)) (D:Gt F w):Base:=⟨F,w,ρ.im,λk=>(Ab aB k).map λ_=>ρ.bx k,D⟩
def PCallM (P:Program) (f:FuncId) (args:List TV) (mem:Mem) (v:TV) (mem':Mem):Prop:=
 ∀{F:Nat->Prop} {w:World} {D:Gt F w} (ρ:Env) (xs:List Value),RelE (DG F w ρ mem.aB D) args mem.aB mem.aC ρ xs.toArray w->
  Calls P f xs.toArray w λe w'=>∃(x:Value) (E:Env),e= .returned x/\RelE (DG F w ρ mem.aB D) [v] mem'.aB mem'.aC E #[x] w'
def Ob (P:Program) (f:FuncId):Prop:=∃fn,P.funcs[f]? =some fn/\(fn.name== "runtime.NumGoroutine")=false/\fn.body.isNone=false
def CallsX (P:Program) (f:FuncId) (xs:Array Value) (w:World) (R:Ending->World->Prop):Prop:=
 (Ob P f/\Calls P f xs w R)\/∃x w',(callFunc f xs).run P w= .ok (.value x) w'/\R (.returned x) w'
theorem CallsX.mono {P:Program} {f:FuncId} {xs:Array Value} {w:World} {R R':Ending->World->Prop} (h:CallsX P f xs w R) (G:∀e w',R e w'->R' e w'):CallsX P f xs w R':=by
 rcases h with⟨D,E⟩|⟨x,w',D,E⟩
 ·exact .inl ⟨D,E.mono G⟩
 ·exact .inr ⟨x,w',D,G _ _ E⟩
def ZO (P:Program) (f:FuncId) (args:List TV) (mem:Mem) (v:TV) (mem':Mem):Prop:=
 ∀{F:Nat->Prop} {w:World} {D:Gt F w} (ρ:Env) (xs:List Value),RelE (DG F w ρ mem.aB D) args mem.aB mem.aC ρ xs.toArray w->
  CallsX P f xs.toArray w λe w'=>∃(x:Value) (E:Env),e= .returned x/\RelE (DG F w ρ mem.aB D) [v] mem'.aB mem'.aC E #[x] w'
theorem PCallM.x {P:Program} {f:FuncId} {args:List TV} {mem:Mem} {v:TV} {mem':Mem} (h:PCallM P f args mem v mem') (D:Ob P f):ZO P f args mem v mem':=
 λρ xs E=> .inl ⟨D,h ρ xs E⟩
structure SpecRight (P : Program) (f : FuncId) (g : Spec) : Prop where
 nat:∀(R:Type) (args:List TV) (mem:Mem) (K:TV->Mem->Option R),g R args mem K=(g (TV×Mem) args mem λv m=>some (v,m)).bind λp=>K p.1 p.2
 ok:∀(args:List TV) (mem:Mem) (v:TV) (mem':Mem),(g (TV×Mem) args mem λv m=>some (v,m))=some (v,mem')->ZO P f args mem v mem'
def Qcz (g:Spec):Prop:=∀(args:List TV) (mem:Mem) (v:TV) (m:Mem),(g (TV×Mem) args mem λv m=>some (v,m))=some (v,m)->m=mem
def Qap (P:Program) (f:FuncId) (g:Spec):Prop:=
 ∀(args:List TV) (mem:Mem) (v:TV) (mem':Mem),(g (TV×Mem) args mem λv m=>some (v,m))=some (v,mem')->
  ∀{F:Nat->Prop} {w:World} {D:Gt F w} (ρ:Env) (xs:List Value),RelE (DG F w ρ mem.aB D) args mem.aB mem.aC ρ xs.toArray w->
   CallsX P f xs.toArray w λe w'=>∃(x:Value) (E:Env),e= .returned x/\RelE (DG F w ρ mem.aB D) [v] mem'.aB mem'.aC E #[x] w'/\E.rv base=ρ.rv base
def Aj (P:Program) (C:Cfg):Prop:=
 (∀(f:FuncId) (g:Spec),C.spec f=some g->SpecRight P f g)/\(∀(f:FuncId) (g:Spec),C.spec f=some g->C.ro f=true->Qcz g)/\∀(f:FuncId) (g:Spec),C.spec f=some g->C.keepR f=true->Qap P f g
theorem SpecRight.run2 {P:Program} {f:FuncId} {g:Spec} (h:SpecRight P f g) {R:Type} {args:List TV} {mem:Mem} {K:TV->Mem->Option R} {r:R} (D:g R args mem K=some r):
  ∃v mem',K v mem'=some r/\(g (TV×Mem) args mem λv m=>some (v,m))=some (v,mem'):=by
 rw[h.nat]at D;simp only[cr]at D;obtain⟨⟨v,m⟩,E,G⟩:=D;exact⟨v,m,G,E⟩
theorem SpecRight.run {P:Program} {f:FuncId} {g:Spec} (h:SpecRight P f g) {R:Type} {args:List TV} {mem:Mem} {K:TV->Mem->Option R} {r:R} (D:g R args mem K=some r):
  ∃v mem',K v mem'=some r/\ZO P f args mem v mem':=by
 rw[h.nat]at D;simp only[cr]at D;obtain⟨⟨v,m⟩,E,G⟩:=D;exact⟨v,m,G,h.ok args mem v m E⟩
def Prim.wf (aB:List (Nat×Box)) (aC:List (Nat×Row)):Prim->Prop
 | .val v=>TV.wf aB aC v
 | .load _ _ key _=>∃b,Ab aB key=some b
 | .store key _ cs=>(∃b,Ab aB key=some b)/\∀a∈cs,AC.wf aB aC a
 | .new _ cs=>∀a∈cs,AC.wf aB aC a
 | .newS _ _ cs=>∀a∈cs,AC.wf aB aC a
 | .rload _ _ id idx _=>∃r,Ab aC id=some r/\idx<r.n
 | .rstore id idx _ _=>∃r,Ab aC id=some r/\idx<r.n
 | .append _ _ _ s x=>AC.wf aB aC s/\AC.wf aB aC x
 | .appD _ _ _ s x=>AC.wf aB aC s/\AC.wf aB aC x
 | .call _ args=>∀v∈args,TV.wf aB aC v
 | .callM _ args=>∀v∈args,TV.wf aB aC v
 | .callF _ args=>∀v∈args,TV.wf aB aC v
 | .callD _ args=>∀v∈args,TV.wf aB aC v
 |_=>True
section
variable {P:Program} {C:Cfg} {ρ:Env} {w:World} {R:Type} {Z:Base} {tm:List TV} {aB:List (Nat×Box)} {aC:List (Nat×Row)} {tmps:Array Value}
theorem ED {α β:Type} (g:α->β):∀(l:List (Nat×α)) (k:Nat),Ab (l.map λp=>(p.1,g p.2)) k=(Ab l k).map g
 |[],_=>rfl
 |(j,b)::l,k=>by
  simp only[ba,Ab,ED g l k];cases Nat.beq j k<;>rfl
theorem AC.kill_wf {id:Nat} {a:AC} (h:AC.wf aB aC a):AC.wf aB aC (a.kill id):=by
 cases a with
 |own j w n=>simp only[AC.kill];cases Nat.beq j id<;>first|exact h|trivial
 |rptr j i s=>simp only[AC.kill];cases Nat.beq j id<;>first|exact h|trivial
 |_=>exact h
theorem AC.kill_free (id:Nat) (a:AC):AC.free id (a.kill id):=by
 cases a with
 |own j w n=>
  simp only[AC.kill];cases hb:Nat.beq j id
  ·exact λe=>by rw[e]at hb;simp at hb
  ·trivial
 |rptr j i s=>
  simp only[AC.kill];cases hb:Nat.beq j id
  ·exact λe=>by rw[e]at hb;simp at hb
  ·trivial
 |_=>trivial
theorem AC.kill_CC {id:Nat} {a:AC} {x:Value} (h:CC ρ w a x):CC ρ w (a.kill id) x:=by
 cases a with
 |own j w n=>simp only[AC.kill];cases Nat.beq j id<;>first|exact h|exact h.one
 |rptr j i s=>simp only[AC.kill];cases Nat.beq j id<;>first|exact h|exact h.one
 |_=>exact h
theorem CL.kill {id:Nat}:∀{l:List AC} {xs:List Value},CL (CC ρ w) l xs->CL (CC ρ w) (l.map (AC.kill id)) xs
 |[],[],_=>trivial
 |_::_,_::_,h=>⟨AC.kill_CC h.1,CL.kill h.2⟩
 |[],_::_,h=>h.elim
 |_::_,[],h=>h.elim
theorem TV.kill_TVR {id:Nat} {v:TV} {x:Value} (h:TVR ρ w v x):TVR ρ w (v.kill id) x:=by
 cases v with
 |dead=>trivial
 |tup ps=>
  obtain⟨E,rfl,D⟩:=h;refine⟨E,rfl,?_⟩;generalize E.toList=l at D;induction ps generalizing l with
  |nil=>cases l<;>first|exact D|exact D.elim
  |cons p ps J=>
   cases l with
   |nil=>exact D.elim
   |cons y l=>
    obtain⟨g,cs⟩:=p;refine⟨?_,J l D.2⟩;have:=D.1;cases g
    ·obtain⟨a,G,I⟩:=this;subst G;exact⟨_,rfl,AC.kill_CC I⟩
    ·obtain⟨L,G,M⟩:=this;exact⟨L,G,M.kill⟩
 |v g cs=>
  cases g
  ·obtain⟨a,rfl,I⟩:=h;exact⟨_,rfl,AC.kill_CC I⟩
  ·obtain⟨E,rfl,D⟩:=h;exact⟨E,rfl,D.kill⟩
theorem TV.kill_wf {id:Nat} {v:TV} (h:TV.wf aB aC v):TV.wf aB aC (v.kill id):=by
 cases v with
 |v g cs=>
  intro a D;simp only[av]at D;obtain⟨b,hb,rfl⟩:=D;exact AC.kill_wf (h b hb)
 |tup ps=>
  intro p E a D;simp only[av]at E;obtain⟨q,G,rfl⟩:=E;simp only[av]at D;obtain⟨b,hb,rfl⟩:=D;exact AC.kill_wf (h q G b hb)
 |_=>trivial
theorem TV.kill_free (id:Nat) (v:TV):TV.free id (v.kill id):=by
 cases v with
 |v g cs=>
  intro a D;simp only[av]at D;obtain⟨b,hb,rfl⟩:=D;exact AC.kill_free id b
 |tup ps=>
  intro p E a D;simp only[av]at E;obtain⟨q,G,rfl⟩:=E;simp only[av]at D;obtain⟨b,hb,rfl⟩:=D;exact AC.kill_free id b
 |_=>trivial
theorem RelE.kill (h:RelE Z tm aB aC ρ tmps w) (id:Nat):
  RelE Z (tm.map (TV.kill id)) (aB.map λp=>(p.1,p.2.kill id)) aC ρ tmps w:=by
 have G:∀k,Ab (aB.map λp=>(p.1,p.2.kill id)) k=(Ab aB k).map (Box.kill id):=λk=>ED (Box.kill id) aB k;have E:∀(k:Nat) (b:Box),Ab (aB.map λp=>(p.1,p.2.kill id)) k=some b->∃b',Ab aB k=some b'/\b=b'.kill id:=by
  intro k b D;rw[G]at D;cases T:Ab aB k with
  |none=>rw[T]at D;simp at D
  |some b'=>rw[T]at D;simp at D;exact⟨b',rfl,D.symm⟩
 have J:∀a,AC.wf aB aC a->AC.wf (aB.map λp=>(p.1,p.2.kill id)) aC a:=λa=>AC.wf_mono (λk b D=>⟨b.kill id,by rw[G,D];rfl⟩) (λk r D=>⟨r,D,rfl,rfl⟩);refine⟨by simpa using h.tl,?_,?_,?_,?_,?_,h.ro,h.ri,?_,?_,h.fr,h.fs,h.i0,h.i1,?_⟩
 ·intro i v U;simp only[eg,bg]at U;obtain⟨u,M,rfl⟩:=U;exact TV.kill_TVR (h.tv i u M)
 ·intro v V;simp only[av]at V;obtain⟨u,M,rfl⟩:=V;exact TV.wf_mono J (TV.kill_wf (h.wt u M))
 ·intro k b D a X;obtain⟨b',I,rfl⟩:=E k b D;simp only[Box.kill,av]at X;obtain⟨c,Y,rfl⟩:=X;exact J _ (AC.kill_wf (h.wb k b' I c Y))
 ·intro k b D;obtain⟨b',I,rfl⟩:=E k b D;obtain⟨arr,h1,h2,h3⟩:=h.bx k b' I;exact⟨arr,h1,h2.kill,h3⟩
 ·intro k k' b b' D N;obtain⟨_,L,_⟩:=E k b D;obtain⟨_,p2,_⟩:=E k' b' N;exact h.bi k k' _ _ L p2
 ·intro k b id' r D hr;obtain⟨_,L,_⟩:=E k b D;exact h.br k _ id' r L hr
 ·intro b hb;obtain⟨O,S,q3⟩:=h.ib b hb;refine⟨O,λk bo D=> ?_,q3⟩;obtain⟨_,L,_⟩:=E k bo D;exact S k _ L
 ·intro k b D;obtain⟨O,bo,S⟩:=h.k0 k b D;exact⟨O,bo.kill id,by rw[G,S];rfl⟩
theorem Zkz {im:Nat->Prop} {ks:List Kd} {b o:Nat}:∀(l:List (List AC)),(∀c∈l,AF ks c=c)->CPss im w ks.length l b o->
  ∃E,RowC im w ks l E/\O2 w b o E:=by
 intro l M h;induction l generalizing o with
 |nil=>exact⟨[],⟨by simp,by simp,λi c I=>by simp at I⟩,λj y h=>by simp at h⟩
 |cons c l O=>
  rw[CPss]at h;obtain⟨E,⟨S,Y,T⟩,U⟩:=O (λc V=>M c (by simp[V])) h.2;obtain⟨G,N,X⟩:=Qgi _ _ _ h.1.2;have D:G.length=ks.length:=by rw[<-N.length];exact h.1.1
  refine⟨G++E,⟨by rw[am,S,D,bf,cy,fm,iu],M,λi c' I=> ?_⟩,λj y J=> ?_⟩
  ·cases i with
   |zero=>
    simp at I;subst I;have:cut (G++E) (0*ks.length) ks.length=G:=by
     simp only[cut,gc,fd];rw[<-D,List.take_left'];rfl
    rw[this];exact N
   |succ i=>
    have:=T i c' (by simpa using I);have e:cut (G++E) ((i+1)*ks.length) ks.length=cut E (i*ks.length) ks.length:=by
     simp only[cut];rw[cy,fm,List.drop_append,jb (by omega),ay,D,Nat.add_sub_cancel]
    rw[e];exact this
  ·rw[ft]at J;split at J
   ·exact X j y J
   ·rename_i L;have:=U (j-G.length) y J;rw[D]at this L
    rwa [show o+ks.length+(j-ks.length)=o+j from by omega]at this
theorem VG {im:Nat->Prop} {ks:List Kd} {l:List (List AC)} {xs:List Value} {v:Value} {e:TypeId} (E:DK w e ks.length v l.length xs) (D:RowC im w ks l xs)
  (J:∀g,v.ownBlock=some g->im g):CP im w (.vC ks l) v:=by
 rw[CP];rcases E.2 with⟨e1,e2⟩|⟨G,o,cap,cur,e1,e3,N,O,S,T⟩
 ·refine⟨none,0,by rw[e1,e2],by omega,D.2.1, .inl (cz e2)⟩
 ·refine⟨some ⟨G,o,none⟩,cap,e1,N,D.2.1, .inr ⟨G,o,rfl,J G (by rw[e1];rfl),Qn λi M=> ?_⟩⟩;have L:=D.2.2 i l[i] (an M);refine⟨?_,?_⟩
  ·rw[<-D.2.1 l[i] (bv M)];exact Ou _ _
  ·refine SC _ (cut xs (i*ks.length) ks.length) G _ L ?_;intro j y I;simp only[cut,ep]at I;split at I
   ·rw[dv]at I;have:=Ow E (g:=G) (by rw[e1];rfl) (i*ks.length+j) y I;rw[e1]at this;simpa [Gm,de]using this
   ·simp at I
theorem O1 {a:AC} {x:Value} {E:Env} {w':World} (G:a.plain=true) (h:CC ρ w a x) (D:CP ρ.im w a x->CP E.im w' a x):CC E w' a x:=by
 cases a<;>first|exact D h|(simp[AC.plain]at G)
theorem Qv3 {ρ2:Env} {v:TV} {x:Value} {w':World} (I:v.plainB=true) (E:∀(a:AC) (x:Value),a.plain=true->CP ρ.im w a x->CP ρ2.im w' a x) (h:TVR ρ w v x):TVR ρ2 w' v x:=by
 have O:∀{l:List AC} {xs:List Value},Ai AC.plain l=true->CL (CC ρ w) l xs->CL (CC ρ2 w') l xs:=λS h=>h.mono λa J x T=>O1 (As.1 S a J) T (E a x (As.1 S a J));cases v with
 |dead=>trivial
 |v g cs=>
  cases g
  ·obtain⟨a,rfl,J⟩:=h;exact⟨a,rfl,O1 (As.1 I a (by simp)) J (E a x (As.1 I a (by simp)))⟩
  ·obtain⟨L,rfl,D⟩:=h;exact⟨L,rfl,O I D⟩
 |tup ps=>
  obtain⟨L,rfl,D⟩:=h;refine⟨L,rfl,?_⟩;generalize L.toList=l at D;simp only[TV.plainB]at I;induction ps generalizing l with
  |nil=>cases l<;>first|exact D|exact D.elim
  |cons p ps U=>
   cases l with
   |nil=>exact D.elim
   |cons y l=>
    obtain⟨g,cs⟩:=p;have G:=As.1 I (g,cs) (by simp);have M:Ai (λp:Bool×List AC=>Ai AC.plain p.2) ps=true:=As.2 λq V=>As.1 I q (by simp[V]);refine⟨?_,U M l D.2⟩;have:=D.1;cases g
    ·obtain⟨a,N,J⟩:=this;subst N;exact⟨a,rfl,O1 (As.1 G a (by simp)) J (E a y (As.1 G a (by simp)))⟩
    ·obtain⟨X,N,Y⟩:=this;exact⟨X,N,O G Y⟩
theorem Qpu {im D:Nat->Prop} {w w':World} {a:AC} {x:Value} (hf:a.flat=true) (h:CP im w a x):CP D w' a x:=by
 cases a<;>simp only[CP,AC.flat]at* <;>first|exact h|(simp at hf)
theorem Zfh {L:Env} {v:TV} {x:Value} {w':World} (hf:v.flat=true) (h:TVR ρ w v x):TVR L w' v x:=by
 have S:∀{l:List AC} {xs:List Value},Ai AC.flat l=true->CL (CC ρ w) l xs->CL (CC L w') l xs:=λI h=>h.mono λa E x U=>by
  have:=As.1 I a E;have M:a.plain=true:=by cases a<;>first|rfl|(simp[AC.flat]at this)
  exact O1 M U (Qpu this)
 have T:∀{a:AC} {x:Value},a.flat=true->CC ρ w a x->CC L w' a x:=fun{a x} I h=>by
  have M:a.plain=true:=by cases a<;>first|rfl|(simp[AC.flat]at I)
  exact O1 M h (Qpu I)
 cases v with
 |dead=>trivial
 |v g cs=>
  cases g
  ·obtain⟨a,rfl,E⟩:=h;exact⟨a,rfl,T (As.1 hf a (by simp)) E⟩
  ·obtain⟨J,rfl,D⟩:=h;exact⟨J,rfl,S hf D⟩
 |tup ps=>
  obtain⟨J,rfl,D⟩:=h;refine⟨J,rfl,?_⟩;generalize J.toList=l at D;simp only[TV.flat]at hf;induction ps generalizing l with
  |nil=>cases l<;>first|exact D|exact D.elim
  |cons p ps V=>
   cases l with
   |nil=>exact D.elim
   |cons y l=>
    obtain⟨g,cs⟩:=p;have G:=As.1 hf (g,cs) (by simp);have N:Ai (λp:Bool×List AC=>Ai AC.flat p.2) ps=true:=As.2 λq X=>As.1 hf q (by simp[X]);refine⟨?_,V N l D.2⟩;have:=D.1;cases g
    ·obtain⟨a,O,E⟩:=this;subst O;exact⟨a,rfl,T (As.1 G a (by simp)) E⟩
    ·obtain⟨Y,O,hz⟩:=this;exact⟨Y,O,S G hz⟩
theorem HO {v:TV} (h:v.plainB=true):TV.wf aB aC v:=by
 have D:∀{l:List AC},Ai AC.plain l=true->∀a∈l,AC.wf aB aC a:=λh a E=>by
  have:=As.1 h a E;cases a<;>first|trivial|(simp[AC.plain]at this)
 cases v with
 |dead=>trivial
 |v g cs=>exact D h
 |tup ps=>exact λp G=>D (As.1 h p G)
theorem Q3x {im:Nat->Prop} {a:AC} {x:Value} (h:CP im w a x):AC.wf aB aC a:=by
 cases a<;>first|trivial|(simp[CP]at h)
theorem Zbn {im:Nat->Prop} {l:List AC} {xs:List Value} (h:CL (CP im w) l xs):∀a∈l,AC.wf aB aC a:=by
 induction l generalizing xs with
 |nil=>intro a D;simp at D
 |cons b l E=>
  cases xs with
  |nil=>exact h.elim
  |cons y xs=>
   intro a D;simp only[az]at D;rcases D with rfl|D
   ·exact Q3x h.1
   ·exact E h.2 a D
theorem Q48 {S:Env} (N:∀(a I:AC) (x:Value),a.res aC=some I->CC ρ w a x->AC.wf aB aC a->CC S w I x) {v T:TV} {x:Value} (J:v.res aC=some T) (U:TV.wf aB aC v) (h:TVR ρ w v x):TVR S w T x:=by
 have V:∀(cs G:List AC) (xs:List Value),DJ aC cs=some G->(∀a∈cs,AC.wf aB aC a)->CL (CC ρ w) cs xs->CL (CC S w) G xs:=by
  intro cs;induction cs with
  |nil=>intro G xs E _ M;simp[DJ]at E;subst E;cases xs<;>first|exact M|exact M.elim
  |cons a cs X=>
   intro G xs E O M;cases xs with
   |nil=>exact M.elim
   |cons y xs=>
    simp only[DJ]at E;split at E
    ·rename_i I L;split at E
     ·rename_i l' D;simp at E;subst E;exact⟨N a I y L M.1 (O a (by simp)),X _ _ D (λb hb=>O b (by simp[hb])) M.2⟩
     ·simp at E
    ·simp at E
 cases v with
 |dead=>simp[TV.res]at J
 |tup ps=>simp[TV.res]at J
 |v g cs=>
  simp only[TV.res]at J;split at J
  ·rename_i l D;simp at J;subst J;cases g
   ·obtain⟨a,rfl,Y⟩:=h;simp only[DJ]at D;split at D
    ·rename_i I L;simp at D;subst D;exact⟨I,rfl,N a I x L Y (U a (by simp))⟩
    ·simp at D
   ·obtain⟨ys,rfl,hy⟩:=h;exact⟨ys,rfl,V _ _ _ D U hy⟩
  ·simp at J
theorem Zlg {a D:AC} (h:a.res aC=some D):D.plain=true:=by
 cases a<;>simp only[AC.res]at h<;>try (simp at h;done)
 case own=>split at h<;>simp at h;subst h;rfl
 all_goals (simp at h;subst h;rfl)
theorem Qmf:∀{l E:List AC},DJ aC l=some E->Ai AC.plain E=true
 |[],E,h=>by simp[DJ]at h;subst h;rfl
 |a::l,E,h=>by
  simp only[DJ]at h;split at h
  ·rename_i J G;split at h
   ·rename_i I D;simp at h;subst h;simp only[Ai,Zlg G,ai];exact Qmf D
   ·simp at h
  ·simp at h
theorem Qk4:∀{l E:List TV},Ep aC l=some E->E.length=l.length/\∀(i:Nat) (I:TV),E[i]? =some I->I.plainB=true/\∃a,l[i]? =some a/\a.res aC=some I
 |[],E,h=>by simp[Ep]at h;subst h;exact⟨rfl,λi a h=>by simp at h⟩
 |a::l,E,h=>by
  simp only[Ep]at h;split at h
  ·rename_i I D;split at h
   ·rename_i J G;simp at h;subst h;obtain⟨L,M⟩:=Qk4 G;refine⟨by simp[L],λi b hb=> ?_⟩;cases i with
    |zero=>
     simp at hb;subst hb;refine⟨?_,a,rfl,D⟩;cases a with
     |dead=>simp[TV.res]at D
     |tup=>simp[TV.res]at D
     |v g cs=>
      simp only[TV.res]at D;split at D
      ·rename_i q N;simp at D;subst D;exact Qmf N
      ·simp at D
    |succ i=>simpa using M i b (by simpa using hb)
   ·simp at h
  ·simp at h
end
end Go.Bm
