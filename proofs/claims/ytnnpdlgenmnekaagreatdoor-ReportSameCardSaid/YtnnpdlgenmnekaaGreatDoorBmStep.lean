/- the abstract machine -/
import Derived.WalkKit
import Derived.ProofKit
import Derived.Laws.StructEq
import Derived.Maps.AppendAt
set_option linter.unusedVariables false
set_option linter.unusedSimpArgs false
namespace Go.Bm
theorem aa {c:Prop} {_:Decidable c} (h:¬c:=by omega) {α:Sort _} {t e:α}:ite c t e=e:=if_neg h
theorem ab {c:Prop} {_:Decidable c} (h:c:=by omega) {α:Sort _} {t e:α}:ite c t e=t:=if_pos h
abbrev ac:=@Nat.eq_of_beq_eq_true
abbrev af:=@Option.bind_some
abbrev ag:=@cond_true
abbrev ah:=@List.length_map
abbrev ai:=@Bool.and_eq_true
abbrev aj:=@decide_eq_true
abbrev ak:=@Int.toNat_natCast
abbrev al:=@List.getElem?_eq_getElem
abbrev am:=@Option.some.injEq
abbrev an:=@decide_eq_false
abbrev ap:=@List.length_append
abbrev aq:=@cond_false
abbrev av:=@List.mem_map
abbrev ax:=@List.mem_cons
abbrev ay:=@Nat.le_of_ble_eq_true
abbrev az:=@List.cons_append
abbrev ba:=@List.map_cons
abbrev bc:=@List.nil_append
abbrev be:=@Nat.mul_le_mul_right
abbrev bf:=@Option.bind_eq_some_iff
abbrev bh:=@Option.map_eq_some_iff
abbrev bj:=@List.mem_of_getElem?
abbrev bm:=@List.length_cons
abbrev bn:=@List.mem_append
abbrev bp:=@Int.tdiv_eq_ediv_of_nonneg
abbrev bq:=@Int.eq_ofNat_of_zero_le
abbrev bt:=@Array.getElem?_eq_some_iff
abbrev bv:=@List.map_append
abbrev bz:=@Nat.le_trans
abbrev cd:=@Prod.mk.injEq
abbrev cg:=@List.getElem_mem
abbrev co:=@Nat.le_refl
abbrev cq:=@decide_eq_true_eq
abbrev cv:=@Result.andThen_ok
abbrev da:=@List.length_nil
abbrev db:=@List.getElem?_eq_none
abbrev dc:=@Int.natCast_mul
abbrev de:=@Nat.lt_of_lt_of_le
abbrev df:=@Nat.mul_le_mul
abbrev dg:=@List.length_drop
abbrev dh:=@Eq.trans
abbrev dk:=@Nat.add_mul
abbrev dl:=@Bool.false_eq_true
abbrev dm:=@Nat.add_assoc
abbrev dp:=@List.map_nil
abbrev dq:=@if_true
abbrev dt:=@Int.le_refl
abbrev du:=@List.mem_singleton
abbrev dv:=@List.length_singleton
abbrev dw:=@Array.length_toList
abbrev dx:=@List.mem_of_mem_drop
abbrev dy:=@Nat.zero_add
abbrev dz:=@Nat.add_sub_cancel_left
abbrev d6:=@List.eq_nil_of_length_eq_zero
abbrev d7:=@List.cons.injEq
abbrev d8:=@List.getElem?_map
abbrev d9:=@Nat.mul_comm
abbrev ec:=@Nat.eq_zero_or_pos
abbrev ee:=@List.getElem?_drop
abbrev eg:=@Nat.mul_lt_mul_of_pos_right
abbrev ew:=@Nat.div_lt_iff_lt_mul
abbrev ez:=@Classical.choose_spec
abbrev fa:=@List.append_assoc
abbrev fc:=@List.getD_eq_getElem?_getD
abbrev fd:=@List.mem_of_mem_take
abbrev fe:=@Int.mul_le_mul_of_nonneg_right
abbrev ff:=@List.drop_of_length_le
abbrev fg:=@List.getElem?_eq_some_iff
abbrev fh:=@List.foldl_cons
abbrev fj:=@Int.mul_le_mul
abbrev fm:=@Int.natAbs_mul_self
abbrev fo:=@List.drop_zero
abbrev fq:=@Nat.two_pow_pos
abbrev fu:=@List.mem_replicate
abbrev fv:=@List.getElem?_take
abbrev fw:=@List.append_nil
abbrev fx:=@Array.getD_eq_getD_getElem?
abbrev fy:=@List.getElem?_append
abbrev f6:=@Int.fdiv_eq_ediv_of_nonneg
abbrev f7:=@List.mem_or_eq_of_mem_set
abbrev f8:=@Int.mul_nonneg
abbrev f9:=@Option.map_some
abbrev gf:=@Nat.div_add_mod
abbrev gh:=@Nat.ble_eq_true_of_le
abbrev gi:=@Nat.mul_self_lt_mul_self
abbrev gj:=@Int.natAbs_natCast
abbrev gk:=@Nat.one_mul
abbrev gn:=@Nat.succ_mul
abbrev gq:=@if_false
abbrev gv:=@List.take_of_length_le
abbrev gw:=@Nat.mod_lt
abbrev gx:=@List.length_take
abbrev gy:=@iff_of_false
abbrev gz:=@Nat.mul_assoc
abbrev ia:=@List.nodup_nil
abbrev ic:=@List.drop_eq_getElem_cons
abbrev ie:=@Nat.div_le_self
abbrev ig:=@List.ext_getElem?
abbrev ii:=@Int.natCast_add
abbrev ij:=@Int.mul_self_le_mul_self
abbrev ik:=@Nat.zero_mul
abbrev il:=@congrArg
abbrev ip:=@List.take_length
abbrev iq:=@List.getElem_map
abbrev iu:=@Array.toList_map
abbrev iv:=@Int.cast_ofNat_Int
abbrev iw:=@Nat.sub_self
abbrev iy:=@Nat.pow_succ
abbrev iz:=@List.length_set
abbrev i6:=@List.take_add_one
abbrev i7:=@List.getElem?_set
abbrev i8:=@Int.tmod_eq_emod_of_nonneg
abbrev i9:=@List.mem_cons_of_mem
abbrev ja:=@Array.getElem?_eq_getElem
abbrev jb:=@forall_eq_or_imp
abbrev jc:=@Int.one_mul
abbrev jd:=@and_true
abbrev je:=@Nat.le_mul_of_pos_right
abbrev jf:=@BitVec.toNat_ofInt
abbrev jg:=@List.getElem_cons_succ
abbrev jh:=@dif_pos
abbrev ji:=@List.drop_drop
abbrev jj:=@Nat.beq_refl
abbrev jk:=@Int.mul_comm
abbrev jl:=@Int.add_zero
abbrev jm:=@Array.getElem?_append
abbrev jn:=@List.drop_append_of_le_length
abbrev jo:=@Nat.two_pow_add_eq_or_of_lt
abbrev jp:=@List.nodup_cons
abbrev jq:=@List.mem_map_of_mem
abbrev jr:=@Int.natCast_one
abbrev js:=@Int.add_mul
abbrev jt:=@Bool.or_eq_true
abbrev ju:=@Nat.lt_or_ge
abbrev jv:=@Nat.add_zero
abbrev jx:=@Nat.add_comm
abbrev jy:=@List.pairwise_cons
abbrev jz:=@Int.le_trans
abbrev j0:=@List.getElem?_append_left
abbrev j4:=@Decidable.byContradiction
abbrev j5:=@not_false_eq_true
abbrev j6:=@Bool.not_eq_true'
abbrev j7:=@Int.natCast_zero
abbrev j8:=@List.drop_eq_nil_of_le
def Qjh:Option (Nat×List Value):=some (2,(List.range 20).map λi=>Value.int .u64 (10^i))
def Gt (F:Nat->Prop) (w:World):Prop:=∀g cs,Qjh=some (g,cs)->F g/\∃t z,w.heap[g]? =some (.cells cs.toArray t z)
theorem Gt.mono {F D:Nat->Prop} {w w':World} (h:Gt F w) (G:∀g cs,Qjh=some (g,cs)->F g->D g/\w'.heap[g]? =w.heap[g]?):Gt D w':=by
 intro g cs e;obtain⟨I,t,z,L⟩:=h g cs e;obtain⟨M,N⟩:=G g cs e I;exact⟨M,t,z,by rw[N];exact L⟩
inductive Kd where
 |int (k:IntKind)
 |bool
 |sl (ks:List Kd)
 |raw
inductive AC where
 |vD
 |int (k:IntKind) (n:Int)
 |bool (b:Bool)
 |raw (v:Value)
 |nilSl
 |ptr (key off:Nat)
 |own (id w n:Nat)
 |vC (ks:List Kd) (l:List (List AC))
 |rptr (id idx sub:Nat)
 |vptr (cells:List AC) (sub:Nat)
 |clo (f:FuncId) (first caps:List AC)
 |bsl (key n:Nat)
inductive TV where
 |vD
 |v (g:Bool) (cs:List AC)
 |tup (ps:List (Bool×List AC))
abbrev TV.c (a:AC):TV:= .v false [a]
abbrev TV.agg (cs:List AC):TV:= .v true cs
def Af:AC->Int
 | .int _ n=>n
 |_=>0
def Dn:AC->Bool
 | .bool b=>b
 |_=>false
def A7:AC->ByteArray
 | .raw (.string s)=>s
 |_=>⟨#[]⟩
def Bq:AC->List (List AC)
 | .vC _ l=>l
 |_=>[]
structure Box where
 ty:TypeId
 cells:List AC
variable {R:Type}
def nth {α:Type} (d:α):List α->Nat->α
 |[],_=>d
 |x::_,0=>x
 |_::xs,n+1=>nth d xs n
def LQ:Kd->AC->AC
 | .int k,a=> .int k (Af a)
 | .bool,a=> .bool (Dn a)
 | .sl ks,a=> .vC ks (Bq a)
 | .raw, .raw v=> .raw v
 | .raw,_=> .vD
def Er:List Kd->List AC->Nat->List AC
 |[],_,_=>[]
 |k::ks,cs,j=>LQ k (nth .vD cs j)::Er ks cs (j+1)
def AM (ks:List Kd) (cs:List AC):List AC:=Er ks cs 0
structure Row where
 ty:TypeId
 ks:List Kd
 l:List (List AC)
abbrev Row.w (r:Row):Nat:=r.ks.length
abbrev Row.n (r:Row):Nat:=r.l.length
abbrev Row.f (r:Row) (i:Nat):List AC:=AM r.ks (nth [] r.l i)
structure Mem where
 aB:List (Nat×Box)
 aC:List (Nat×Row)
structure St where
 tmps:List TV
 aB:List (Nat×Box)
 aC:List (Nat×Row)
def setL {α:Type}:List α->Nat->α->List α
 |[],_,_=>[]
 |_::xs,0,v=>v::xs
 |x::xs,n+1,v=>x::setL xs n v
def AO {α:Type}:List α->(List α->Option R)->Option R
 |[],K=>K []
 |x::xs,K=>AO xs λD=>K (x::D)
def Ab {α:Type}:List (Nat×α)->Nat->Option α
 |[],_=>none
 |(k,b)::l,key=>bif Nat.beq k key then some b else Ab l key
def upd {α:Type}:List (Nat×α)->Nat->α->List (Nat×α)
 |[],_,_=>[]
 |(k,b)::l,key,x=>bif Nat.beq k key then(k,x)::l else(k,b)::upd l key x
def ins {α:Type}:List (Nat×α)->Nat->α->List (Nat×α)
 |[],key,x=>[(key,x)]
 |(k,b)::l,key,x=>bif Nat.blt key k then(key,x)::(k,b)::l else(k,b)::ins l key x
def cut {α:Type} (l:List α) (off m:Nat):List α:=(l.drop off).take m
def splice {α:Type}:List α->Nat->List α->List α
 |l,_,[]=>l
 |[],_,_::_=>[]
 |_::xs,0,v::D=>v::splice xs 0 D
 |x::xs,n+1,v::D=>x::splice xs n (v::D)
def Mw:Value->AC
 | .int k n=> .int k n
 | .bool b=> .bool b
 | .slice none 0 0=> .nilSl
 | .string s=> .raw (.string s)
 | .pointer none=> .raw (.pointer none)
 | .nilFunc=> .raw .nilFunc
 | .nilIface=> .raw .nilIface
 |_=> .vD
def IB:List Value->Option (List AC)
 |[]=>some []
 | v :: l => bif v.oneCell' then (match IB l with
  |some cs=>some (Mw v::cs)
  |none=>none)else none
def ofValue:Value->TV
 | .agg cs=>match IB cs.toList with
  |some l=> .agg l
  |none=> .vD
 | .tuple _=> .vD
 |v=> .c (Mw v)
def TV.cells:TV->Option (List AC)
 | .v _ cs=>some cs
 |_=>none
def TV.int? :TV->Option Int
 | .v false [.int _ n]=>some n
 |_=>none
def kEq:IntKind->IntKind->Bool
 | .i8, .i8| .i16, .i16| .i32, .i32| .i64, .i64| .u8, .u8| .u16, .u16| .u32, .u32| .u64, .u64=>true
 |_,_=>false
def AC.plain:AC->Bool
 | .int _ _| .bool _| .raw _| .nilSl| .vC _ _=>true
 |_=>false
def AC.calm:AC->Bool
 | .int _ _| .bool _| .raw _| .nilSl| .vC _ _| .vD=>true
 |_=>false
def Ak {α:Type} (p:α->Bool):List α->Bool
 |[]=>true
 |x::l=>bif p x then Ak p l else false
mutual
def Ew:Kd->Kd->Bool
 | .int k, .int k'=>kEq k k'
 | .bool, .bool=>true
 | .sl ks, .sl D=>Cy ks D
 | .raw, .raw=>true
 |_,_=>false
def Cy:List Kd->List Kd->Bool
 |[],[]=>true
 |k::ks,k'::D=>bif Ew k k' then Cy ks D else false
 |_,_=>false
end
def PF:Kd->AC->Option AC
 | .int k, .int k' n=>bif kEq k k' then some (.int k n)else none
 | .bool, .bool b=>some (.bool b)
 | .sl ks, .nilSl=>some (.vC ks [])
 | .sl ks, .vC D l=>bif Cy ks D then some (.vC ks l)else none
 | .raw, .raw v=>some (.raw v)
 |_,_=>none
def Fj:List Kd->List AC->Option (List AC)
 |[],[]=>some []
 |k::ks,a::cs=>match PF k a with
  |some G=>match Fj ks cs with
   |some D=>some (G::D)
   |none=>none
  |none=>none
 |_,_=>none
def Hp (ks:List Kd):Nat->List AC->Option (List (List AC))
 |0,[]=>some []
 |0,_=>none
 |n+1,cs=>match Fj ks (cs.take ks.length)with
  |some c=>match Hp ks n (cs.drop ks.length)with
   |some l=>some (c::l)
   |none=>none
  |none=>none
inductive Prim where
 |val (v:TV)
 |load (agg:Bool) (sz key off:Nat)
 |store (key off:Nat) (cells:List AC)
 |new (ty:TypeId) (cells:List AC)
 |newS (ty:TypeId) (n:Nat) (cells:List AC)
 |cutR (id a:Nat)
 |rload (agg:Bool) (sz id idx sub:Nat)
 |rstore (id idx sub:Nat) (cells:List AC)
 |append (e:TypeId) (ks:List Kd) (bytes:Nat) (s x:AC)
 |newRow (e:TypeId) (ks:List Kd) (l:List (List AC))
 |newView (e:TypeId) (ks:List Kd) (l:List (List AC))
 |make (e:TypeId) (ks:List Kd) (bytes:Nat) (n:Int) (z:List AC)
 |call (f:FuncId) (args:List TV)
 |callM (f:FuncId) (args:List TV)
 |callD (f:FuncId) (args:List TV)
 |callF (f:FuncId) (args:List TV)
 |appD (e:TypeId) (ks:List Kd) (bytes:Nat) (s x:AC)
def mn (x y:Int):Int:=if y<x then y else x
def mx (x y:Int):Int:=if y>x then y else x
def Gm (op:BinOp) (k:IntKind) (a b:Int) (K:AC->Option R):Option R:=
 match op with
 | .add=>K (.int k (k.wrap (a+b)))
 | .sub=>K (.int k (k.wrap (a-b)))
 | .mul=>K (.int k (k.wrap (a*b)))
 | .quo=>cond (decide (b=0)) none (K (.int k (k.wrap (a.tdiv b))))
 | .rem=>cond (decide (b=0)) none (K (.int k (a.tmod b)))
 | .and=>K (.int k (k.wrap ((BitVec.ofInt k.bits a&&&BitVec.ofInt k.bits b).toNat:Int)))
 | .or=>K (.int k (k.wrap ((BitVec.ofInt k.bits a|||BitVec.ofInt k.bits b).toNat:Int)))
 | .xor=>K (.int k (k.wrap ((BitVec.ofInt k.bits a^^^BitVec.ofInt k.bits b).toNat:Int)))
 | .andNot=>K (.int k (k.wrap ((BitVec.ofInt k.bits a&&& ~~~BitVec.ofInt k.bits b).toNat:Int)))
 | .eql=>K (.bool (a==b))
 | .neq=>K (.bool (a !=b))
 | .lss=>K (.bool (decide (a<b)))
 | .leq=>K (.bool (decide (a<=b)))
 | .gtr=>K (.bool (decide (a>b)))
 | .geq=>K (.bool (decide (a>=b)))
 | .shl=>cond (decide (b<0)) none (K (.int k (k.wrap (a*2^(min b.toNat k.bits)))))
 | .shr=>cond (decide (b<0)) none (K (.int k (a.fdiv (2^(min b.toNat k.bits)))))
def My:BinOp->Bool
 | .shl| .shr=>true
 |_=>false
inductive CS where
 |any
 |int (k:IntKind)
 |bool
 |sl (ks:List Kd)
 |rawc
 |str
 |nil
 |nilp
 |ptr (key off:Nat)
 |own (id w:Nat)
 |clo (f:FuncId) (fs cs:List (Nat×Nat))
 |bsl (key n:Nat)
inductive TS where
 |vD
 |v (g:Bool) (cs:List CS)
 |tup (ps:List (Bool×List CS))
structure Sk where
 tmps:List TS
 aB:List (Nat×TypeId×List CS):=[]
 aC:List (Nat×TypeId×List Kd):=[]
inductive Ex where
 |normal
 |exit (id:Nat)
 |ret
def Spec:=∀R:Type,List TV->Mem->(TV->Mem->Option R)->Option R
def IC:=∀R:Type,List AC->(Ex->St->Option R)->Option R
def F8:List (Nat×Spec)->FuncId->Option Spec
 |[],_=>none
 |(k,b)::l,f=>bif Nat.beq k f then some b else F8 l f
structure Cfg where
 spec:FuncId->Option Spec
 eqOk:List TypeId:=[]
 tprom:List (Nat×TypeId):=[]
 prom:Nat->List (Nat×TypeId):=λ_=>[]
 loops:Nat->Option (Sk×IC):=λ_=>none
 blocks:Nat->Option (Sk×IC):=λ_=>none
 conds:Nat->Option (Sk×IC):=λ_=>none
 pure:FuncId->Bool:=λ_=>true
 ro:FuncId->Bool:=λ_=>false
 lend:FuncId->Bool:=λ_=>false
 keepR:FuncId->Bool:=λ_=>false
 keepIn:Bool:=false
 ownOff:TypeId->List (Nat×TypeId):=λ_=>[]
 rowAs:Nat->Nat:=λd=>d
 ownBut:List Nat:=[]
 rowDst:List Nat:=[]
 cuts:List Nat:=[]
 fstore:Bool:=false
 ownRes:Bool:=false
 unroll:List Nat:=[]
section prog
variable (P:Program)
def Ck (t:TypeId):Option Bool:=
 match P.underlying t with
 |some (.struct _)=>some true
 |some (.array _ _)=>some true
 |some _=>some false
 |none=>none
def szT (t:TypeId):Option Nat:=
 match P.info? t with
 |some i=>some i.size
 |none=>none
def I9 (t:TypeId):Option (List AC):=
 match P.info? t with
 |some i=>match i.zero with
  |some v=>IB v.cells.toList
  |none=>none
 |none=>none
def Tt (t:TypeId) (i:Nat):Option Field:=
 match P.underlying t with
 |some (.struct fs)=>fs.toList[i]?
 |_=>none
def CJ (agg:Bool) (sz:Nat) (cells:List AC) (off:Nat):Option TV:=
 bif agg then(bif Nat.ble (off+sz) cells.length then some (.agg (cut cells off sz))else none)
 else match cells[off]? with
  |some a=>some (.c a)
  |none=>none
def Ic (t:TypeId) (n:Nat):Bool:=
 match Ck P t with
 |some true=>true
 |some false=>Nat.beq n 1
 |none=>false
def IK {β:Type} (g:β->Option Bool):List β->Option Bool
 |[]=>some true
 |x::l=>match g x with
  |some b=>match IK g l with
   |some b'=>some (b&&b')
   |none=>none
  |none=>none
def eqC (ok:List TypeId):Nat->TypeId->List AC->List AC->Option Bool
 |0,_,_,_=>none
 |d+1,t,xs,ys=>
  match P.underlying t with
  |some .bool=>match xs,ys with
   |[.bool a],[.bool b]=>some (a==b)
   |_,_=>none
  |some (.int _)=>match xs,ys with
   |[.int k a],[.int k' b]=>bif kEq k k' then some (a==b)else none
   |_,_=>none
  | some (.struct fs) => bif ok.elem t then IK (λf : Field => bif f.name == "_" then none else match szT P f.type with
    |some n=>bif(Nat.ble (f.offset+n) xs.length&&Nat.ble (f.offset+n) ys.length&&Ic P f.type n)then eqC ok d f.type (cut xs f.offset n) (cut ys f.offset n)else none
    |none=>none) fs.toList else none
  |some (.array n e)=>match szT P e with
   |some m=>bif(Nat.ble (n*m) xs.length&&Nat.ble (n*m) ys.length&&Ic P e m)then IK (λi=>eqC ok d e (cut xs (i*m) m) (cut ys (i*m) m)) (List.range n)else none
   |none=>none
  |_=>none
def Gy (i:Int):(todo k:Nat)->(Nat->Option R)->Option R
 |0,_,_=>none
 |n+1,k,K=>cond (decide (i=(k:Int))) (K k) (Gy i n (k+1) K)
def Ni (t:TypeId) (cs:List AC) (off:Nat):Option TV:=
 match Ck P t,szT P t with
 |some a,some sz=>CJ a sz cs off
 |_,_=>none
def Gc (place:Nat->Option (Nat×Nat)):List AC->List (Nat×TV)->Option (List AC)
 |cells,[]=>some cells
 |cells,(i,v)::rest=>
  match place i,v.cells with
  |some (off,size),some cs=>bif(Nat.beq cs.length size&&Nat.ble (off+size) cells.length)then Gc place (splice cells off cs) rest else none
  |_,_=>none
def Qxh (g:TypeId->Option (List Kd)):List Field->Nat->Option (List Kd)
 |[],_=>some []
 |f::fs,o=>match g f.type with
  | some ks => bif Nat.beq f.offset o then (match Qxh g fs (o + ks.length) with
   |some l=>some (ks++l)
   |none=>none)else none
  |none=>none
def Qz (ks:List Kd):Nat->List Kd
 |0=>[]
 |n+1=>ks++Qz ks n
def FU:Nat->TypeId->Option (List Kd)
 |0,_=>none
 |n+1,t=>match P.underlying t with
  |some .bool=>some [.bool]
  |some (.int k)=>some [.int k]
  |some (.slice e)=>match FU n e with
   |some ks=>some [.sl ks]
   |none=>none
  |some (.struct fs)=>Qxh (FU n) fs.toList 0
  |some (.array m e)=>match FU n e with
   |some ks=>some (Qz ks m)
   |none=>none
  |some _=>some [.raw]
  |none=>none
def chunk (zero:List AC):Nat->List AC
 |0=>[]
 |n+1=>zero++chunk zero n
def EP (g:Int->Int->Int) (k:IntKind) (a:Int):List TV->(Prim->Option R)->Option R
 |[],K=>K (.val (.c (.int k a)))
 |t::rest,K=>match t with
  | .v false [.int k' b]=>bif kEq k k' then EP g k (g a b) rest K else none
  |_=>none
def Jt (b:Builtin) (argTypes:List TypeId) (args:List TV) (K:Prim->Option R):Option R:=
 match b,args with
 | .len,[.v false [.vC _ l]]=>match argTypes with
  |t::_=>match P.underlying t with
   |some (.slice _)=>K (.val (.c (.int .i64 (l.length:Int))))
   |_=>none
  |[]=>none
 | .len,[.v false [.own _ _ n]]=>match argTypes with
  |t::_=>match P.underlying t with
   |some (.slice _)=>K (.val (.c (.int .i64 (n:Int))))
   |_=>none
  |[]=>none
 | .len,[.v false [.bsl _ n]]=>match argTypes with
  |t::_=>match P.underlying t with
   |some (.slice _)=>K (.val (.c (.int .i64 (n:Int))))
   |_=>none
  |[]=>none
 | .len,[.v false [.nilSl]]=>match argTypes with
  |t::_=>match P.underlying t with
   |some (.slice _)=>K (.val (.c (.int .i64 0)))
   |_=>none
  |[]=>none
 | .len,[.v true _]=>match argTypes with
  |t::_=>match P.underlying t with
   |some (.array n _)=>K (.val (.c (.int .i64 (n:Int))))
   |_=>none
  |[]=>none
 | .min, .v false [.int k a]::rest=>EP mn k a rest K
 | .max, .v false [.int k a]::rest=>EP mx k a rest K
 | .append,[.c s, .c x]=>match argTypes with
  |[t,u]=>match P.underlying t,P.underlying u with
   |some (.slice e),some (.slice _)=>match P.info? e,FU P 8 e with
    |some i,some ks=>match i.zero with
     |some z=>bif(Nat.beq t u&&Nat.beq z.cells.size i.size&&Nat.beq ks.length i.size)then K (.append e ks i.bytes s x)else none
     |none=>none
    |_,_=>none
   |_,_=>none
  |_=>none
 |_,_=>none
def Kn (D:Operand->TV):Option Operand->Option (Option Int)
 |none=>some none
 |some x=>match(D x).int? with
  |some n=>some (some n)
  |none=>none
def BU (D:Operand->TV):List Operand->List TV
 |[]=>[]
 |x::l=>D x::BU D l
def Ff (D:Operand->TV):List (Nat×Operand)->List (Nat×TV)
 |[]=>[]
 |x::l=>(x.1,D x.2)::Ff D l
def Ls (f:Field):Bool:=
 match szT P f.type with
 |some _=>true
 |none=>false
def WG (fs:List Field) (i:Nat):Option (Nat×Nat):=
 match fs[i]? with
 |some f=>match szT P f.type with
  |some n=>some (f.offset,n)
  |none=>none
 |none=>none
variable (C:Cfg)
def Sr (dst:Option Tmp) (n:Nat):Bool:=match dst with
 |some d=>C.rowDst.elem d||Nat.beq n 0
 |none=>false
def AC.isClo:AC->Bool
 | .clo _ _ _=>true
 |_=>false
def AC.clOk:AC->Bool
 | .int _ _| .bool _| .raw _| .nilSl| .vC _ _| .ptr _ _=>true
 |_=>false
def Jh:List TV->Option (List AC)
 |[]=>some []
 | .v false [a] :: l => bif a.clOk then (match Jh l with
  |some r=>some (a::r)
  |none=>none)else none
 |_=>none
def opK (D:Operand->TV) (dst:Option Tmp) (o:Op) (K:Prim->Option R):Option R:=
 match o with
 | .move x=>K (.val (D x))
 | .assign x=>K (.val (D x))
 | .pick c a b=>match D c with
  | .v false [.bool g]=>cond g (K (.val (D a))) (K (.val (D b)))
  |_=>none
 | .alloc t=>match I9 P t with
  |some cs=>K (.new t cs)
  |none=>none
 | .box t x=>match(D x).cells with
  |some cs=>K (.new t cs)
  |none=>none
 | .build t parts=>match I9 P t,P.underlying t with
  |some z,some (.struct fs)=>bif Ak (Ls P) fs.toList then match Gc (WG P fs.toList) z (Ff D parts.toList)with
   |some cs=>K (.val (.agg cs))
   |none=>none else none
  |some z,some (.array _ e)=>match szT P e with
   |some n=>match Gc (λi=>some (i*n,n)) z (Ff D parts.toList)with
    |some cs=>K (.val (.agg cs))
    |none=>none
   |none=>none
  |_,_=>none
 | .buildSlice t n parts=>match P.underlying t with
  |some (.slice e)=>match szT P e,I9 P e,FU P 8 e with
   |some w,some z,some ks=>bif(Nat.beq z.length w&&Nat.beq ks.length w&&Nat.ble 1 w&&Nat.ble (n*w) 65536)then match Gc (λi=>some (i*w,w)) (chunk z n) (Ff D parts.toList)with
    |some cs=>match Hp ks n cs with
     |some l=>cond (Sr C dst n) (K (.newRow e ks l)) (K (.newView e ks l))
     |none=>bif Ak AC.isClo cs&&Nat.beq w 1 then K (.newS e n cs)else none
    |none=>none else none
   |_,_,_=>none
  |_=>none
 | .makeSlice t len cap=>match P.underlying t,(D len).int?,(D cap).int? with
  |some (.slice e),some n,some c=>match P.info? e,I9 P e,FU P 8 e with
   |some i,some z,some ks=>match Fj ks z with
    |some L=>bif(Nat.beq ks.length i.size&&Nat.ble 1 i.size&&Nat.ble 1 i.bytes)then cond (decide (n=c)) (K (.make e ks i.bytes n L)) none else none
    |none=>none
   |_,_,_=>none
  |_,_,_=>none
 | .makeFunc M first captured=>match M with
  | .func f=>match Jh (BU D first.toList),Jh (BU D captured.toList)with
   |some fs,some cs=>K (.val (.c (.clo f fs cs)))
   |_,_=>none
  |_=>none
 | .load t a=>match Ck P t,szT P t with
  |some g,some sz=>match D a with
   | .v false [.ptr key off]=>K (.load g sz key off)
   | .v false [.vptr cells sub]=>match CJ g sz cells sub with
    |some v=>K (.val v)
    |none=>none
   | .v false [.rptr id idx sub]=>K (.rload g sz id idx sub)
   |_=>none
  |_,_=>none
 | .store t a x=>match szT P t,(D x).cells with
  |some sz,some cs=>bif Nat.beq cs.length sz then match D a with
    | .v false [.ptr key off]=>K (.store key off cs)
    | .v false [.rptr id idx sub]=>K (.rstore id idx sub cs)
    |_=>none else none
  |_,_=>none
 | .nilCheck x=>match D x with
  | .v false [.ptr key off]=>K (.val (.c (.ptr key off)))
  | .v false [.rptr id idx sub]=>K (.val (.c (.rptr id idx sub)))
  | .v false [.vptr cs sub]=>K (.val (.c (.vptr cs sub)))
  |_=>none
 | .binOp op t x y _=>match D x,D y with
  | .v false [.int k a], .v false [.int k' b]=>bif kEq k k'||My op then Gm op k a b λv=>K (.val (.c v))else none
  | .v false [.bool a], .v false [.bool b]=>match P.underlying t,op with
   |some .bool, .eql=>K (.val (.c (.bool (a==b))))
   |some .bool, .neq=>K (.val (.c (.bool (!(a==b)))))
   |_,_=>none
  | .v false [.raw (.string a)], .v false [.raw (.string b)]=>match op with
   | .eql=>K (.val (.c (.bool (a.toList==b.toList))))
   | .neq=>K (.val (.c (.bool (!(a.toList==b.toList)))))
   | .add=>cond (Nat.ble (a.size+b.size) 9223372036854775807) (K (.val (.c (.raw (.string (a++b)))))) none
   |_=>none
  | .v false [.ptr _ _], .v false [.raw (.pointer none)]=>match P.underlying t,op with
   |some (.pointer _), .eql=>K (.val (.c (.bool false)))
   |some (.pointer _), .neq=>K (.val (.c (.bool true)))
   |_,_=>none
  | .v false [.raw (.pointer none)], .v false [.raw (.pointer none)]=>match P.underlying t,op with
   |some (.pointer _), .eql=>K (.val (.c (.bool true)))
   |some (.pointer _), .neq=>K (.val (.c (.bool false)))
   |_,_=>none
  | .v true xs, .v true N=>bif P.eqGuardType P.depth t then none else match Ck P t,eqC P C.eqOk 20 t xs N,op with
   |some true,some r, .eql=>K (.val (.c (.bool r)))
   |some true,some r, .neq=>K (.val (.c (.bool (!r))))
   |_,_,_=>none
  |_,_=>none
 | .unOp op _ x=>match op,D x with
  | .neg, .v false [.int k n]=>K (.val (.c (.int k (k.wrap (0-n)))))
  | .not, .v false [.bool b]=>K (.val (.c (.bool (!b))))
  |_,_=>none
 | .convert src dst x=>match P.underlying src,P.underlying dst,D x with
  |some _,some (.int k), .v false [.int _ n]=>K (.val (.c (.int k (k.wrap n))))
  |_,_,_=>none
 | .fieldAddr t x i=>match Tt P t i with
  |some f=>match szT P f.type with
   |some (_+1)=>match D x with
    | .v false [.ptr key off]=>K (.val (.c (.ptr key (off+f.offset))))
    | .v false [.rptr id idx sub]=>K (.val (.c (.rptr id idx (sub+f.offset))))
    | .v false [.vptr cs sub]=>K (.val (.c (.vptr cs (sub+f.offset))))
    |_=>none
   |_=>none
  |none=>none
 | .field t x i=>match Tt P t i,D x with
  |some f, .v true cs=>match Ni P f.type cs f.offset with
   |some v=>K (.val v)
   |none=>none
  |_,_=>none
 | .indexAddr t x I=>match(D I).int?,P.underlying t with
  |some i,some (.array n e)=>match szT P e,D x with
   |some m, .v false [.ptr key off]=>Gy i n 0 λj=>K (.val (.c (.ptr key (off+j*m))))
   |some m, .v false [.rptr id idx sub]=>Gy i n 0 λj=>K (.val (.c (.rptr id idx (sub+j*m))))
   |some m, .v false [.vptr cs sub]=>Gy i n 0 λj=>K (.val (.c (.vptr cs (sub+j*m))))
   |_,_=>none
  |some i,some (.slice e)=>match szT P e,D x with
   |some m, .v false [.vC ks l]=>bif Nat.beq m ks.length then cond (decide (0<=i)&&decide (i<(l.length:Int))) (K (.val (.c (.vptr (AM ks (nth [] l i.toNat)) 0)))) none else none
   |some m, .v false [.own id w n]=>bif Nat.beq m w then cond (decide (0<=i)&&decide (i<(n:Int))) (K (.val (.c (.rptr id i.toNat 0)))) none else none
   |some m, .v false [.bsl key n]=>bif Nat.beq m 1 then Gy i n 0 λj=>K (.val (.c (.ptr key j)))else none
   |_,_=>none
  |_,_=>none
 | .index t x I=>match(D I).int?,P.underlying t,D x with
  |some i,some (.array n e), .v true cs=>match szT P e with
   |some m=>Gy i n 0 λj=>match Ni P e cs (j*m)with
    |some v=>K (.val v)
    |none=>none
   |none=>none
  |_,_,_=>none
 | .slice t x lo G mx=>match mx,Kn D lo,Kn D G,P.underlying t with
  |none,some lo,some G,some (.slice e)=>match szT P e,D x with
   |some m, .v false [.vC ks l]=>bif Nat.beq m ks.length then
    match lo,G with
    |none,none=>K (.val (.c (.vC ks l)))
    |some a,none=>cond (decide (0<=a)&&decide (a<=(l.length:Int))) (K (.val (.c (.vC ks (l.drop a.toNat))))) none
    |none,some b=>cond (decide (0<=b)&&decide (b<=(l.length:Int))) (K (.val (.c (.vC ks (l.take b.toNat))))) none
    |some a,some b=>cond (decide (0<=a)&&decide (a<=b)&&decide (b<=(l.length:Int))) (K (.val (.c (.vC ks ((l.take b.toNat).drop a.toNat))))) none
    else none
   |some m, .v false [.own id w n]=>match lo,G with
    |some a,none=>bif Nat.beq m w then cond (decide (0<=a)&&decide (a<=(n:Int))) (K (.cutR id a.toNat)) none else none
    |_,_=>none
   |some _, .v false [.nilSl]=>match lo,G with
    |none,none=>K (.val (.c .nilSl))
    |some a,none=>cond (decide (a=0)) (K (.val (.c .nilSl))) none
    |none,some b=>cond (decide (b=0)) (K (.val (.c .nilSl))) none
    |some a,some b=>cond (decide (a=0)&&decide (b=0)) (K (.val (.c .nilSl))) none
   |_,_=>none
  |_,_,_,_=>none
 | .extract t i=>match D t with
  | .tup ps=>match ps[i]? with
   |some (g,cs)=>K (.val (.v g cs))
   |none=>none
  |_=>none
 | .call c=>match c.callee with
  | .builtin b=>Jt P b c.argTypes.toList (BU D c.args.toList) K
  | .value (.func f)=>cond (C.pure f) (K (.call f (BU D c.args.toList))) (K (.callM f (BU D c.args.toList)))
  | .value (.tmp t)=>match D (.tmp t)with
   | .v false [.clo f fs cs]=>bif Ak AC.clOk fs&&Ak AC.clOk cs then K (.callM f (fs.map TV.c++(BU D c.args.toList++cs.map TV.c)))else none
   |_=>none
  |_=>none
 |_=>none
def AG (tmps:List TV):Operand->TV
 | .tmp t=>nth .vD tmps t
 | .const v=>ofValue v
 |_=> .vD
def AC.kill (id:Nat):AC->AC
 | .own j w n=>bif Nat.beq j id then .vD else .own j w n
 | .rptr j a b=>bif Nat.beq j id then .vD else .rptr j a b
 |a=>a
def TV.kill (id:Nat):TV->TV
 | .v g cs=> .v g (cs.map (AC.kill id))
 | .tup ps=> .tup (ps.map λp=>(p.1,p.2.map (AC.kill id)))
 | .vD=> .vD
def Box.kill (id:Nat) (b:Box):Box:=⟨b.ty,b.cells.map (AC.kill id)⟩
def AC.fz (id:Nat) (ks:List Kd) (l:List (List AC)):AC->AC
 | .own j w n=>bif Nat.beq j id then .vC ks l else .own j w n
 | .rptr j a b=>bif Nat.beq j id then .vD else .rptr j a b
 |a=>a
def TV.fz (id:Nat) (ks:List Kd) (l:List (List AC)):TV->TV
 | .v g cs=> .v g (cs.map (AC.fz id ks l))
 | .tup ps=> .tup (ps.map λp=>(p.1,p.2.map (AC.fz id ks l)))
 | .vD=> .vD
def Box.fz (id:Nat) (ks:List Kd) (l:List (List AC)) (b:Box):Box:=⟨b.ty,b.cells.map (AC.fz id ks l)⟩
def del {α:Type} (id:Nat):List (Nat×α)->List (Nat×α)
 |[]=>[]
 |(k,b)::l=>bif Nat.beq k id then del id l else(k,b)::del id l
def In:List Nat->St->(St->Option R)->Option R
 |[],s,K=>K s
 |id::l,⟨tmps,aB,aC⟩,K=>match Ab aC id with
  |some r=>AO (tmps.map (TV.fz id r.ks r.l)) λG=>AO (aB.map λp=>(p.1,p.2.fz id r.ks r.l)) λD=>AO (del id aC) λI=>In l ⟨G,D,I⟩ K
  |none=>In l ⟨tmps,aB,aC⟩ K
def AC.res (aC:List (Nat×Row)):AC->Option AC
 | .own id _ _=>match Ab aC id with
  |some r=>some (.vC r.ks r.l)
  |none=>none
 | .int k n=>some (.int k n)
 | .bool b=>some (.bool b)
 | .raw v=>some (.raw v)
 | .nilSl=>some .nilSl
 | .vC ks l=>some (.vC ks l)
 |_=>none
def Ee (aC:List (Nat×Row)):List AC->Option (List AC)
 |[]=>some []
 |a::l=>match a.res aC with
  |some D=>match Ee aC l with
   |some G=>some (D::G)
   |none=>none
  |none=>none
def TV.res (aC:List (Nat×Row)):TV->Option TV
 | .v g cs=>match Ee aC cs with
  |some l=>some (.v g l)
  |none=>none
 |_=>none
def E2 (aC:List (Nat×Row)):List TV->Option (List TV)
 |[]=>some []
 |a::l=>match a.res aC with
  |some D=>match E2 aC l with
   |some G=>some (D::G)
   |none=>none
  |none=>none
def AC.isOwn:AC->Bool
 | .own _ _ _=>true
 |_=>false
def TV.hasOwn:TV->Bool
 | .v _ cs=>cs.any AC.isOwn
 |_=>true
def AC.flat:AC->Bool
 | .int _ _| .bool _| .raw _| .nilSl=>true
 |_=>false
def TV.flat:TV->Bool
 | .v _ cs=>Ak AC.flat cs
 | .tup ps=>Ak (λp:Bool×List AC=>Ak AC.flat p.2) ps
 | .vD=>false
def TV.plainB:TV->Bool
 | .v _ cs=>Ak AC.plain cs
 | .tup ps=>Ak (λp:Bool×List AC=>Ak AC.plain p.2) ps
 | .vD=>false
def Prim.dr:Bool->Prim->Prim
 |false, .callM f args=>bif Ak TV.plainB args then .callF f args else .callD f args
 |false, .append e ks b s x=> .appD e ks b s x
 |_,p=>p
def GX (aC:List (Nat×Row)) (ks:List Kd):AC->Option (List (List AC))
 | .nilSl=>some []
 | .vC D l=>bif Cy ks D then some l else none
 | .own id _ _=>match Ab aC id with
  |some r=>bif Cy ks r.ks then some r.l else none
  |none=>none
 |_=>none
def put (s:St) (dst:Option Tmp) (v:TV) (K:St->Option R):Option R:=
 match dst with
 |none=>K s
 |some d=>match s with
  |⟨tmps,aB,aC⟩=>AO (setL tmps d v) λl=>K ⟨l,aB,aC⟩
def AC.keys:AC->List Nat
 | .ptr k _=>[k]
 | .bsl k _=>[k]
 | .clo _ fs cs=>keysL fs++keysL cs
 |_=>[]
 where keysL:List AC->List Nat
 |[]=>[]
 | .ptr k _::l=>k::keysL l
 |_::l=>keysL l
def AC.ids:AC->List Nat
 | .own id _ _=>[id]
 |_=>[]
def cat {α β:Type} (g:α->List β):List α->List β
 |[]=>[]
 |a::l=>g a++cat g l
def TV.cellsOf:TV->List AC
 | .v _ cs=>cs
 | .tup ps=>cat (λp:Bool×List AC=>p.2) ps
 | .vD=>[]
def Qb (n:Nat):List Nat->List Nat
 |[]=>[n]
 |m::l=>bif Nat.beq m n then m::l else m::Qb n l
def AV:List Nat->List Nat->List Nat
 |[],l=>l
 |n::D,l=>AV D (Qb n l)
def Ei (aB:List (Nat×Box)) (k:Nat):List AC:=match Ab aB k with
 |some b=>b.cells
 |none=>[]
def Z1k (aB:List (Nat×Box)) (keys:List Nat):List Nat:=AV (cat (λk=>cat AC.keys (Ei aB k)) keys) keys
def Lc (aB:List (Nat×Box)):Nat->List Nat->List Nat
 |0,l=>l
 |n+1,l=>Lc aB n (Z1k aB l)
def NA (aB:List (Nat×Box)) (cells:List AC) (keys:List Nat):List Nat:=
 AV (cat AC.ids cells++cat (λk=>cat AC.ids (Ei aB k)) keys) []
def pos:List Nat->Nat->Nat
 |[],_=>0
 |m::l,n=>bif Nat.beq m n then 0 else pos l n+1
def AH:List Nat->Nat->Bool
 |[],_=>false
 |m::l,n=>bif Nat.beq m n then true else AH l n
def AC.ren (rk ri:Nat->Nat):AC->AC
 | .ptr k o=> .ptr (rk k) o
 | .bsl k n=> .bsl (rk k) n
 | .own id w n=> .own (ri id) w n
 | .rptr id i s=> .rptr (ri id) i s
 | .clo f fs cs=> .clo f (renP rk fs) (renP rk cs)
 |a=>a
 where renP (rk:Nat->Nat):List AC->List AC
 |[]=>[]
 | .ptr k o::l=> .ptr (rk k) o::renP rk l
 |a::l=>a::renP rk l
def TV.ren (D ri:Nat->Nat):TV->TV
 | .v g cs=> .v g (cs.map (AC.ren D ri))
 | .tup ps=> .tup (ps.map λp=>(p.1,p.2.map (AC.ren D ri)))
 | .vD=> .vD
def AC.inK (keys ids:List Nat):AC->Bool
 | .ptr k _=>AH keys k
 | .bsl k _=>AH keys k
 | .own id _ _=>AH ids id
 | .rptr id _ _=>AH ids id
 | .clo _ fs cs=>Ak (inP keys) fs&&Ak (inP keys) cs
 |_=>true
 where inP (keys:List Nat):AC->Bool
 | .ptr k _=>AH keys k
 |_=>true
def TV.inK (keys ids:List Nat):TV->Bool
 | .v _ cs=>Ak (AC.inK keys ids) cs
 | .tup ps=>Ak (λp:Bool×List AC=>Ak (AC.inK keys ids) p.2) ps
 | .vD=>true
def C0 (aB:List (Nat×Box)) (D ri:Nat->Nat):Nat->List Nat->Option (List (Nat×Box))
 |_,[]=>some []
 |b,k::ks=>match Ab aB k with
  |some x=>match C0 aB D ri (b+1) ks with
   |some l=>some ((b,⟨x.ty,x.cells.map (AC.ren D ri)⟩)::l)
   |none=>none
  |none=>none
def EX (aC:List (Nat×Row)):Nat->List Nat->Option (List (Nat×Row))
 |_,[]=>some []
 |b,k::ks=>match Ab aC k with
  |some x=>match EX aC (b+1) ks with
   |some l=>some ((b,x)::l)
   |none=>none
  |none=>none
def base:Nat:=20000
def Bs (names fresh:List Nat) (d:Nat) (n:Nat):Nat:=
 bif Nat.ble base n&&Nat.blt (n-base) names.length then nth 0 names (n-base)else 100000+100*d+pos fresh n
def A2 {α:Type} (names:List Nat):List (Nat×α)->List Nat
 |[]=>[]
 |(k,_)::l=>bif Nat.ble base k&&Nat.blt (k-base) names.length then A2 names l else k::A2 names l
def CU {α:Type}:List Nat->List (Nat×α)->List (Nat×α)
 |[],l=>l
 |k::ks,l=>CU ks (del k l)
def Jn (D ri:Nat->Nat):List (Nat×Box)->List (Nat×Box)->List (Nat×Box)
 |[],l=>l
 |(k,b)::m,l=>Jn D ri m (ins l (D k) ⟨b.ty,b.cells.map (AC.ren D ri)⟩)
def HX (ri:Nat->Nat):List (Nat×Row)->List (Nat×Row)->List (Nat×Row)
 |[],l=>l
 |(k,b)::m,l=>HX ri m (ins l (ri k) b)
def Cr (keys:List Nat):List (Nat×Box)->List (Nat×Box)->List (Nat×Box)
 |[],l=>l
 |(k,b)::m,l=>Cr keys m (upd l (nth 0 keys (k-base)) b)
def Hy (ids:List Nat) (v:TV):TV:=match ids with
 |[]=>v
 |id::l=>Hy l (v.kill id)
def CZ (ids:List Nat) (b:Box):Box:=match ids with
 |[]=>b
 |id::l=>CZ l (b.kill id)
def HN {α:Type} (l:List (Nat×α)) (k:Nat):Bool:=match Ab l k with
 |some _=>false
 |none=>true
def BH:List Nat->Bool
 |[]=>true
 |k::l=>bif AH l k then false else BH l
def DZ {α:Type} (l:List (Nat×α)) (k:Nat):Bool:=match Ab l k with
 |some _=>true
 |none=>false
def Hl (d:Nat):Nat:=100000+100*d
def AC.relen (id D:Nat):AC->AC
 | .own j w n=>bif Nat.beq j id then .own j w D else .own j w n
 | .rptr j a b=>bif Nat.beq j id then .vD else .rptr j a b
 |a=>a
def TV.relen (id D:Nat):TV->TV
 | .v g cs=> .v g (cs.map (AC.relen id D))
 | .tup ps=> .tup (ps.map λp=>(p.1,p.2.map (AC.relen id D)))
 | .vD=> .vD
def Box.relen (id D:Nat) (b:Box):Box:=⟨b.ty,b.cells.map (AC.relen id D)⟩
def Qcj:List TV->Option Nat
 | .v false [.own id _ _]::rest=>bif Ak TV.plainB rest then some id else none
 |_=>none
def Ru (g:Spec) (args:List TV) (tmps:List TV) (aB:List (Nat×Box)) (aC:List (Nat×Row)) (K:TV->St->Option R):Option R:=
 match Qcj args with
 |some id=>match Ab aC id with
  |some r=>g R (args.map (TV.ren (λk=>base+pos [] k) (λi=>base+pos [id] i))) ⟨[],[(base,r)]⟩ λv m=>match m with
   |⟨[],[(k,r')]⟩=>bif Nat.beq k base&&Nat.beq r'.ty r.ty&&Cy r'.ks r.ks&&v.plainB then
     AO (tmps.map (TV.relen id r'.l.length)) λG=>AO (aB.map λp=>(p.1,p.2.relen id r'.l.length)) λD=>AO (upd aC id r') λI=>K v ⟨G,D,I⟩else none
   |_=>none
  |none=>none
 |none=>none
def A0 (dst:Option Tmp) (p:Prim) (s:St) (K:TV->St->Option R):Option R:=
 match s with
 |⟨tmps,aB,aC⟩=>
 match p with
 | .val v=>K v ⟨tmps,aB,aC⟩
 | .load g sz key off=>match Ab aB key with
  |some b=>match CJ g sz b.cells off with
   |some v=>K v ⟨tmps,aB,aC⟩
   |none=>none
  |none=>none
 | .store key off cs=>match Ab aB key with
  |some b=>bif Nat.ble (off+cs.length) b.cells.length then
    AO (splice b.cells off cs) λcells=>AO (upd aB key ⟨b.ty,cells⟩) λD=>K .vD ⟨tmps,D,aC⟩
   else none
  |none=>none
 | .new ty cs=>match dst with
  |some d=>match Ab aB d with
   |some _=>none
   |none=>AO (ins aB d ⟨ty,cs⟩) λD=>K (.c (.ptr d 0)) ⟨tmps,D,aC⟩
  |none=>none
 | .newS ty n cs=>match dst with
  |some d=>match Ab aB d with
   |some _=>none
   |none=>AO (ins aB d ⟨ty,cs⟩) λD=>K (.c (.bsl d n)) ⟨tmps,D,aC⟩
  |none=>none
 | .cutR id a=>match Ab aC id with
  |some r=>bif Nat.ble a r.l.length then
    AO (tmps.map (TV.kill id)) λI=>
    AO (aB.map λp=>(p.1,p.2.kill id)) λD=>
    AO (upd aC id ⟨r.ty,r.ks,r.l.drop a⟩) λG=>
    K (.c (.own id r.ks.length (r.l.drop a).length)) ⟨I,D,G⟩
   else none
  |none=>none
 | .rload g sz id idx sub=>match Ab aC id with
  |some r=>match CJ g sz (r.f idx) sub with
   |some v=>K v ⟨tmps,aB,aC⟩
   |none=>none
  |none=>none
 | .rstore id idx sub cs=>match Ab aC id with
  |some r=>bif Nat.ble (sub+cs.length) r.w&&Ak AC.plain cs then
    match Fj r.ks (splice (r.f idx) sub cs)with
    |some c=>AO (upd aC id ⟨r.ty,r.ks,r.l.set idx c⟩) λG=>K .vD ⟨tmps,aB,G⟩
    |none=>none else none
  |none=>none
 | .newRow e ks l=>match dst with
  |some d=>match Ab aC (C.rowAs d)with
   |some _=>none
   |none=>AO (ins aC (C.rowAs d) ⟨e,ks,l⟩) λG=>K (.c (.own (C.rowAs d) ks.length l.length)) ⟨tmps,aB,G⟩
  |none=>none
 | .newView _ ks l=>K (.c (.vC ks l)) ⟨tmps,aB,aC⟩
 | .make e ks bytes n z=>match dst with
  |some d=>match Ab aC d with
   |some _=>none
   |none=>cond (decide (0<=n)&&decide (n*(bytes:Int)<=140737488355328))
     (AO (ins aC d ⟨e,ks,List.replicate n.toNat z⟩) λG=>K (.c (.own d ks.length (List.replicate n.toNat z).length)) ⟨tmps,aB,G⟩) none
  |none=>none
 | .append e ks bytes s x=>match GX aC ks x with
  |some m=>match s with
   | .nilSl=>match dst with
    |some d=>match Ab aC d with
     |some _=>none
     |none=>bif(Nat.ble 1 ks.length&&Nat.ble 1 bytes)then cond (Nat.ble (m.length*bytes) 140737488355328) (AO (ins aC d ⟨e,ks,m⟩) λG=>K (.c (.own d ks.length m.length)) ⟨tmps,aB,G⟩) none else none
    |none=>none
   | .own id _ _=>match Ab aC id with
    |some r=>bif(Cy ks r.ks&&Nat.beq r.ty e&&Nat.ble 1 bytes)then
      cond (Nat.ble ((r.l ++ m).length * bytes) 140737488355328) (
       AO (tmps.map (TV.kill id)) λI=>
       AO (aB.map λp=>(p.1,p.2.kill id)) λD=>
       AO (upd aC id ⟨e,r.ks,r.l++m⟩) λG=>
       K (.c (.own id r.ks.length (r.l++m).length)) ⟨I,D,G⟩) none
     else none
    |none=>none
   |_=>none
  |none=>none
 | .appD e ks bytes s x=>match GX aC ks x with
  |some m=>match s with
   | .own id _ _=>match Ab aC id with
    |some r=>bif(Cy ks r.ks&&Nat.beq r.ty e&&Nat.ble 1 bytes)then
      cond (Nat.ble ((r.l ++ m).length * bytes) 140737488355328) (
       AO (tmps.map (TV.kill id)) λI=>
       AO (aB.map λp=>(p.1,p.2.kill id)) λD=>
       AO (upd aC id ⟨e,r.ks,r.l++m⟩) λG=>
       K (.c (.own id r.ks.length (r.l++m).length)) ⟨I,D,G⟩) none
     else none
    |none=>none
   | .nilSl=>match dst with
    |some d=>match Ab aC d with
     |some _=>none
     | none => bif (Nat.ble 1 ks.length && Nat.ble 1 bytes) then cond (Nat.ble (m.length * bytes) 140737488355328) (
       AO (tmps.map (TV.kill d)) λI=>
       AO (aB.map λp=>(p.1,p.2.kill d)) λD=>
       AO (ins aC d ⟨e,ks,m⟩) λG=>K (.c (.own d ks.length m.length)) ⟨I,D,G⟩) none else none
    |none=>none
   |_=>none
  |none=>none
 | .call f args=>match C.spec f with
  |some g=>match E2 aC args with
   |some as=>g R as ⟨[],[]⟩ λv m=>match m with
    |⟨[],[]⟩=>bif((!(args.any TV.hasOwn)||v.flat)&&v.plainB)then K v ⟨tmps,aB,aC⟩else none
    |_=>none
   |none=>none
  |none=>none
 | .callM f args=>match C.spec f with
  |some g=>bif C.keepR f then Ru g args tmps aB aC K else
   AO (Lc aB 4 (AV (cat AC.keys (cat TV.cellsOf args)) [])) λkeys=>
   AO (NA aB (cat TV.cellsOf args) keys) λids=>
   bif Ak (TV.inK keys ids) args&&Ak (λk=>Ak (AC.inK keys ids) (Ei aB k)) keys&&BH keys&&BH ids then
    match C0 aB (λk=>base+pos keys k) (λi=>base+pos ids i) base keys,EX aC base ids with
    |some N,some T=>g R (args.map (TV.ren (λk=>base+pos keys k) (λi=>base+pos ids i))) ⟨N,T⟩ λv m=>match m with
     |⟨L,M⟩=>
      AO (A2 keys L) λS=>AO (A2 ids M) λO=>
      bif Ak (λp:Nat×Box=>DZ L p.1) N&&BH (L.map (·.1))&&BH (M.map (·.1))&&Ak (λk=>HN aB (Bs keys S (dst.getD 0) k)) S&&Ak (λk=>HN aC (Bs ids O (dst.getD 0) k)) O&&Nat.ble S.length 100&&Nat.ble O.length 100 then
       AO (tmps.map (Hy ids)) λI=>
       AO (Jn (Bs keys S (dst.getD 0)) (Bs ids O (dst.getD 0)) L ((CU keys aB).map λp=>(p.1,CZ ids p.2))) λD=>
       AO (HX (Bs ids O (dst.getD 0)) M (CU ids aC)) λG=>
       K (v.ren (Bs keys S (dst.getD 0)) (Bs ids O (dst.getD 0))) ⟨I,D,G⟩
      else none
    |_,_=>none
   else none
  |none=>none
 | .callD f args=>match C.spec f with
  |some g=>
   AO (AV (cat AC.keys (cat TV.cellsOf args)) []) λkeys=>
   bif Ak (TV.inK keys []) args&&Ak (λk=>Ak AC.calm (Ei aB k)) keys&&BH keys then
    match C0 aB (λk=>base+pos keys k) (λi=>base+pos [] i) base keys with
    |some N=>g R (args.map (TV.ren (λk=>base+pos keys k) (λi=>base+pos [] i))) ⟨N,[]⟩ λv m=>match m with
     |⟨L,[]⟩=>
      bif Ak (λp:Nat×Box=>DZ L p.1) N&&Ak (λp:Nat×Box=>DZ N p.1) L&&BH (L.map (·.1))&&Ak (λp:Nat×Box=>Ak AC.calm p.2.cells) L&&v.plainB then
       AO (Cr keys L aB) λD=>K v ⟨tmps,D,aC⟩
      else none
     |⟨_,_::_⟩=>none
    |none=>none
   else none
  |none=>none
 | .callF f args=>match C.spec f with
  |some g=>bif Ak TV.plainB args then g R args ⟨[],[]⟩ λv m=>match m with
   |⟨[],[]⟩=>bif v.plainB then K v ⟨tmps,aB,aC⟩else none
   |⟨[],[(k,r)]⟩=>match v with
    | .v false [.own j _ _] => bif Nat.beq j k then (match Ab aC (Hl (dst.getD 0)) with
     |some _=>none
     |none=>AO (ins aC (Hl (dst.getD 0)) r) λG=>K (.c (.own (Hl (dst.getD 0)) r.ks.length r.l.length)) ⟨tmps,aB,G⟩)else none
    |_=>none
   |_=>none
   else none
  |none=>none
def Pq (ops:List Oper) (o:Oper) (s:St) (run skip:St->Option R):Option R:=
 match o.guard with
 |none=>run s
 |some (j,want)=>match ops[j]? with
  |some D=>match D.dst with
   |some t=>match nth .vD s.tmps t with
    | .v false [.bool g]=>cond g (put s (some t) (.c (.bool true)) (bif want then run else skip)) (put s (some t) (.c (.bool false)) (bif want then skip else run))
    | .tup []=>skip s
    |_=>none
   |none=>none
  |none=>none
def LW (k o:Nat) (e:TypeId) (s:St) (K:St->Option R):Option R:=match s with
 |⟨tmps,aB,aC⟩=>match Ab aB k with
  |some b=>match nth .vD b.cells o with
   | .nilSl=>match FU P 8 e with
    |some ks=>bif Nat.ble 1 ks.length&&HN aC (1000000+1000*k+o)then
      AO (ins aC (1000000+1000*k+o) ⟨e,ks,[]⟩) λG=>AO (setL b.cells o (.own (1000000+1000*k+o) ks.length 0)) λcells=>AO (upd aB k ⟨b.ty,cells⟩) λD=>K ⟨tmps,D,G⟩
     else none
    |none=>none
   |_=>K ⟨tmps,aB,aC⟩
  |none=>K ⟨tmps,aB,aC⟩
def IS:List (Nat×Nat×TypeId)->St->(St->Option R)->Option R
 |[],s,K=>K s
 |(k,o,e)::l,s,K=>LW P k o e s λD=>IS l D K
def DA:List Kd->List AC->List AC
 | .sl ks::l, .nilSl::cs=> .vC ks []::DA l cs
 |_::l,a::cs=>a::DA l cs
 |_,cs=>cs
def SE (b:Box):Box:=match FU P 8 b.ty with
 |some ks=>⟨b.ty,DA ks b.cells⟩
 |none=>b
def IP:List (Nat×TypeId)->St->(St->Option R)->Option R
 |[],s,K=>K s
 |(t,e)::l,⟨tmps,aB,aC⟩,K=>match nth .vD tmps t with
  | .v false [.nilSl]=>match Ab aC t,FU P 8 e with
   |none,some ks=>bif Nat.ble 1 ks.length then AO (setL tmps t (.c (.own t ks.length 0))) λD=>AO (ins aC t ⟨e,ks,[]⟩) λG=>IP l ⟨D,aB,G⟩ K else none
   |_,_=>none
  |_=>IP l ⟨tmps,aB,aC⟩ K
def HP (s:St) (K:St->Option R):Option R:=
 IS P (cat (λp:Nat×Box=>bif AH C.ownBut p.1 then []else(C.ownOff p.2.ty).map λq=>(p.1,q.1,q.2)) s.aB) s λG=>match G with
  |⟨tmps,aB,aC⟩=>AO (aB.map λp=>(p.1,SE P p.2)) λD=>IP P C.tprom ⟨tmps,D,aC⟩ K
def Z58:TV->Bool
 | .v false [.rptr _ _ _]=>true
 |_=>false
def Z4i (C:Cfg):Operand->Bool
 | .tmp t=>AH C.cuts t
 |_=>false
def Q77 (D:Operand->TV) (o:Op):List Nat:=
 match o with
 | .slice _ x _ _ _=>bif Z4i C x then []else cat AC.ids (TV.cellsOf (D x))
 | .store _ a x=>bif C.fstore||Z58 (D a)then cat AC.ids (TV.cellsOf (D x))else []
 | .buildSlice _ _ parts=>cat AC.ids (cat TV.cellsOf (parts.toList.map λp=>D p.2))
 | .makeFunc _ a b=>cat AC.ids (cat TV.cellsOf (BU D a.toList++BU D b.toList))
 | .call c=>match c.callee with
  | .value (.func f)=>bif C.lend f then []else cat AC.ids (cat TV.cellsOf (BU D c.args.toList))
  | .value _=>cat AC.ids (cat TV.cellsOf (BU D c.args.toList))
  |_=>[]
 |_=>[]
def Wj (o:Op):Bool:=match o with
 | .call c=>match c.callee with
  | .value (.func f)=> !(C.pure f)
  | .value _=>true
  |_=>false
 |_=>false
def Ie (o:Op) (s:St) (K:St->Option R):Option R:=
 In (Q77 C (AG s.tmps) o) s λD=>bif Wj C o then HP P C D K else K D
def E0 (pre:Bool) (ops:List Oper) (o:Oper) (s:St) (K:Option Prim->St->Option R):Option R:=
 Pq ops o s
  (λs=>(bif pre then Ie P C o.op s else λK=>K s) λs=>opK P C (AG s.tmps) o.dst o.op λp=>A0 C o.dst (p.dr pre) s λv D=>put D o.dst v (K (some (p.dr pre))))
  (λs=>put s o.dst (.tup []) (K none))
def Prim.simple:Option Prim->Bool
 |none=>true
 |some (.val _)=>true
 |some (.load _ _ _ _)=>true
 |some (.store _ _ _)=>true
 |some (.new _ _)=>true
 |some (.newView _ _ _)=>true
 |some (.rload _ _ _ _ _)=>true
 |some (.call _ _)=>true
 |some (.callD _ _)=>true
 |some (.callF _ _)=>true
 |some (.newRow _ _ _)=>true
 |some (.appD _ _ _ _ _)=>true
 |_=>false
def AC.live:AC->Bool
 | .int _ _| .bool _| .raw _| .nilSl| .vC _ _| .ptr _ _=>true
 |_=>false
def Prim.isPtr:Option Prim->Bool
 |some (.val (.v false [.ptr _ _]))=>true
 |_=>false
def Prim.isLive:Option Prim->Bool
 |some (.val (.v _ cs))=>Ak AC.live cs
 |_=>false
def Prim.isCallP:Option Prim->Bool
 |some (.call _ args)=>Ak TV.plainB args
 |_=>false
def Prim.isLoad:Option Prim->Bool
 |some (.load _ _ _ _)=>true
 |_=>false
def Q9t:Operand->Bool
 | .const _=>true
 |_=>false
def oneP:List (Nat×Operand)->Bool
 |[(0,_)]=>true
 |_=>false
def Prim.isView:Option Prim->Bool
 |some (.newView _ _ _)=>true
 |_=>false
def Prim.still (o:Op) (p:Option Prim):Bool:=match o with
 | .move _=>Prim.isLive p
 | .nilCheck _=>Prim.isPtr p
 | .fieldAddr _ _ _=>Prim.isPtr p
 | .call _=>Prim.isCallP p
 | .load _ _=>Prim.isLoad p
 | .build _ parts=>Ak (λq:Nat×Operand=>Q9t q.2) parts.toList&&Prim.isLive p
 | .buildSlice _ n parts=>Nat.beq n 1&&oneP parts.toList&&Prim.isView p
 |_=>false
def Prim.isApp:Option Prim->Bool
 |some (.appD _ _ _ _ _)=>true
 |_=>false
def Prim.isMk:Option Prim->Bool
 |some (.newRow _ _ _)=>true
 |some (.callF _ _)=>true
 |_=>false
def Prim.mkStill:Option Prim->Bool
 |none=>true
 |some (.val _)=>true
 |some (.load _ _ _ _)=>true
 |some (.newView _ _ _)=>true
 |some (.call _ args)=>Ak TV.plainB args
 |some (.newRow _ _ _)=>true
 |some (.callF _ _)=>true
 |_=>false
def If (y:Oper) (G:Option Prim) (x:Oper) (D:Option Prim):Bool:=
 bif Prim.isApp G then !(Prim.isApp D)&&y.guard.isNone&&x.guard.isNone&&Prim.still x.op D
 else bif Prim.isApp D then y.guard.isNone&&x.guard.isNone&&Prim.still y.op G
 else bif Prim.isMk G then Prim.mkStill D else bif Prim.isMk D then Prim.mkStill G else true
def Prim.meet (ro:FuncId->Bool):Option Prim->Option Prim->Bool
 |some (.load _ _ k _),some (.store k' _ _)=>Nat.beq k k'
 |some (.store k _ _),some (.load _ _ k' _)=>Nat.beq k k'
 |some (.store k _ _),some (.store k' _ _)=>Nat.beq k k'
 |some (.callD f as),some (.load _ _ k _)=> !(ro f)&&AH (AV (cat AC.keys (cat TV.cellsOf as)) []) k
 |some (.callD _ as),some (.store k _ _)=>AH (AV (cat AC.keys (cat TV.cellsOf as)) []) k
 |some (.load _ _ k _),some (.callD f as)=> !(ro f)&&AH (AV (cat AC.keys (cat TV.cellsOf as)) []) k
 |some (.store k _ _),some (.callD _ as)=>AH (AV (cat AC.keys (cat TV.cellsOf as)) []) k
 |some (.callD f _),some (.callD g _)=> !(ro f&&ro g)
 |_,_=>false
def H_ (ops:List Oper):List Oper->St->(St->Option R)->Option R
 |[],s,K=>K s
 |o::l,s,K=>E0 P C true ops o s λ_ D=>H_ ops l D K
def R9 (m:List Nat):List Edge->Nat->Nat
 |[],acc=>acc
 |e::l,acc=>R9 m l (bif Region.binds .any e then Nat.lor acc (Nat.lor (2^e.on) (nth 0 m e.on))else acc)
def Q7q {α:Type} (n:Nat) (K:Nat->α):α:=match n with
 |0=>K 0
 |n+1=>K (n+1)
def ST:List Oper->List Nat->(List Nat->Option R)->Option R
 |[],m,K=>K m
 |o::l,m,K=>Q7q (R9 m o.after.toList 0) λx=>AO (m++[x]) λD=>ST l D K
def LB (m:List Nat) (i j:Nat):Bool:=Nat.testBit (nth 0 m i) j
def Znz:Op->Bool
 | .call _=>true
 | .makeSlice _ _ _=>true
 | .buildSlice _ _ _=>true
 | .store _ _ _=>true
 | .slice _ _ _ _ _=>true
 |_=>false
def Da (ops:List Oper) (m:List Nat) (i:Nat):Bool:=match ops[i]? with
 |some o=>Znz o.op&&Ak (λj=>Nat.beq j i||LB m i j||LB m j i) (List.range ops.length)
 |none=>false
def Mm (ops:List Oper) (m:List Nat):List Oper->Nat->St->(List (Oper×Option Prim)->St->Option R)->Option R
 |[],_,s,K=>K [] s
 |o::l,i,s,K=>E0 P C (Da ops m i) ops o s λp D=>Mm ops m l (i+1) D λrest G=>K ((o,p)::rest) G
def JN (ops:Array Oper) (m:List Nat):Nat->List (Nat×Oper×Option Prim)->List (Oper×Option Prim)->Bool
 |_,_,[]=>true
 |i,D,(o,p)::l=>
  bif(Da ops.toList m i||Prim.simple p)&&o.after.toList.all (λe=> !(Region.binds .any e)||Nat.blt e.on i)&&Ak (λy:Nat×Oper×Option Prim=>LB m i y.1||(!(Da ops.toList m i)&& !(Da ops.toList m y.1)&&(Oper.apart ops y.2.1 o&& !(Prim.meet C.ro y.2.2 p)&&If y.2.1 y.2.2 o p))) D then JN ops m (i+1) (D++[(i,o,p)]) l else false
def Y0 (ops:Array Oper) (draw:Bool) (s:St) (K:St->Option R):Option R:=
 bif draw then ST ops.toList [] λm=>Mm P C ops.toList m ops.toList 0 s λacc D=>bif JN C ops m 0 [] acc then K D else none
 else H_ P C ops.toList ops.toList s K
def Ja:List (Nat×Nat)->List AC->Bool
 |[],[]=>true
 |(k,o)::l, .ptr k' D::cs=>Nat.beq k k'&&Nat.beq o D&&Ja l cs
 |_,_=>false
def HD:CS->AC->Option (List AC)
 | .any,_=>some []
 | .int k, .int k' n=>bif kEq k k' then some [.int k n]else none
 | .bool, .bool b=>some [.bool b]
 | .sl ks, .nilSl=>some [.vC ks []]
 | .sl ks, .vC D l=>bif Cy ks D then some [.vC ks l]else none
 | .rawc, .raw v=>some [.raw v]
 | .str, .raw (.string s)=>some [.raw (.string s)]
 | .nil, .nilSl=>some []
 | .nilp, .raw (.pointer none)=>some []
 | .ptr k o, .ptr k' L=>bif Nat.beq k k'&&Nat.beq o L then some []else none
 | .own id w, .own id' w' _=>bif Nat.beq id id'&&Nat.beq w w' then some []else none
 | .bsl k n, .bsl k' M=>bif Nat.beq k k'&&Nat.beq n M then some []else none
 | .clo f fs cs, .clo N G I=>bif Nat.beq f N&&Ja fs G&&Ja cs I then some []else none
 |_,_=>none
def Gw:List CS->List AC->Option (List AC)
 |[],[]=>some []
 |c::cs,a::as=>match HD c a with
  |some v=>match Gw cs as with
   |some D=>some (v++D)
   |none=>none
  |none=>none
 |_,_=>none
def LC:List (Bool×List CS)->List (Bool×List AC)->Option (List AC)
 |[],[]=>some []
 | (g, cs) :: l, (D, as) :: m => bif g == D then (match Gw cs as with
  |some v=>match LC l m with
   |some G=>some (v++G)
   |none=>none
  |none=>none)else none
 |_,_=>none
def Jq:TS->TV->Option (List AC)
 | .vD,_=>some []
 | .v g cs, .v D as=>bif g==D then Gw cs as else none
 | .tup ps, .tup G=>LC ps G
 |_,_=>none
def Kh:List TS->List TV->Option (List AC)
 |[],[]=>some []
 |t::D,v::G=>match Jq t v with
  |some a=>match Kh D G with
   |some l=>some (a++l)
   |none=>none
  |none=>none
 |_,_=>none
def JF:List (Nat×TypeId×List CS)->List (Nat×Box)->Option (List AC)
 |[],_=>some []
 |(k,t,cs)::l,aB=>match Ab aB k with
  | some b => bif Nat.beq t b.ty then (match Gw cs b.cells with
   |some v=>match JF l aB with
    |some D=>some (v++D)
    |none=>none
   |none=>none)else none
  |none=>none
def Jg:List (Nat×TypeId×List Kd)->List (Nat×Row)->Option (List AC)
 |[],_=>some []
 |(k,t,ks)::l,aC=>match Ab aC k with
  | some r => bif Nat.beq t r.ty && Cy ks r.ks then (match Jg l aC with
    |some D=>some (.vC ks r.l::D)
    |none=>none)else none
  |none=>none
def Dd (k:Nat):Bool:=Nat.ble base k&&Nat.blt k 100000
def Di (sk:Sk) (s:St):Option (List AC):=match s with
 | ⟨tmps, aB, aC⟩ => bif Ak (λp : Nat × Box => !(Dd p.1) || AH (sk.aB.map (·.1)) p.1) aB then (match Jg sk.aC aC with
  |some a=>match Kh sk.tmps tmps with
   |some b=>match JF sk.aB aB with
    |some c=>some (a++(b++c))
    |none=>none
   |none=>none
  |none=>none)else none
def Lx:List (Nat×Nat)->List AC
 |[]=>[]
 |(k,o)::l=> .ptr k o::Lx l
def Dm (rl:Nat->Nat) (l:List AC):CS->Nat->AC×Nat
 | .any,i=>(.vD,i)
 | .int k,i=>(.int k (Af (nth .vD l i)),i+1)
 | .bool,i=>(.bool (Dn (nth .vD l i)),i+1)
 | .sl ks,i=>(.vC ks (Bq (nth .vD l i)),i+1)
 | .rawc,i=>(LQ .raw (nth .vD l i),i+1)
 | .str,i=>(.raw (.string (A7 (nth .vD l i))),i+1)
 | .nil,i=>(.nilSl,i)
 | .nilp,i=>(.raw (.pointer none),i)
 | .ptr k o,i=>(.ptr k o,i)
 | .own id w,i=>(.own id w (rl id),i)
 | .clo f fs cs,i=>(.clo f (Lx fs) (Lx cs),i)
 | .bsl k n,i=>(.bsl k n,i)
def DE (rl:Nat->Nat) (l:List AC):List CS->Nat->List AC×Nat
 |[],i=>([],i)
 |c::cs,i=>match Dm rl l c i with
  |(a,G)=>match DE rl l cs G with
   |(as,D)=>(a::as,D)
def G4 (rl:Nat->Nat) (l:List AC):List (Bool×List CS)->Nat->List (Bool×List AC)×Nat
 |[],i=>([],i)
 |(g,cs)::ps,i=>match DE rl l cs i with
  |(as,G)=>match G4 rl l ps G with
   |(I,D)=>((g,as)::I,D)
def GE (rl:Nat->Nat) (l:List AC):TS->Nat->TV×Nat
 | .vD,i=>(.vD,i)
 | .v g cs,i=>match DE rl l cs i with
  |(as,D)=>(.v g as,D)
 | .tup ps,i=>match G4 rl l ps i with
  |(G,D)=>(.tup G,D)
def Es (rl:Nat->Nat) (l:List AC):List TS->Nat->List TV×Nat
 |[],i=>([],i)
 |t::G,i=>match GE rl l t i with
  |(v,I)=>match Es rl l G I with
   |(L,D)=>(v::L,D)
def EW (rl:Nat->Nat) (l:List AC):List (Nat×TypeId×List CS)->Nat->List (Nat×Box)
 |[],_=>[]
 |(k,t,cs)::bs,i=>match DE rl l cs i with
  |(as,D)=>(k,⟨t,as⟩)::EW rl l bs D
def GL (l:List AC):List (Nat×TypeId×List Kd)->Nat->List (Nat×Row)×Nat
 |[],i=>([],i)
 |(k,t,ks)::rs,i=>match GL l rs (i+1)with
  |(q,D)=>((k,⟨t,ks,Bq (nth .vD l i)⟩)::q,D)
def DB (aC:List (Nat×Row)) (id:Nat):Nat:=match Ab aC id with
 |some r=>r.l.length
 |none=>0
def AA (sk:Sk) (vars:List AC):St:=match GL vars sk.aC 0 with
 |(aC,i)=>match Es (DB aC) vars sk.tmps i with
  |(tmps,D)=>⟨tmps,EW (DB aC) vars sk.aB D,aC⟩
def CS.okB (keys:List Nat) (aC:List (Nat×TypeId×List Kd)):CS->Bool
 | .ptr k _=>AH keys k
 | .bsl k _=>AH keys k
 | .own id w=>match Ab aC id with
  |some (_,ks)=>Nat.beq ks.length w
  |none=>false
 | .clo _ fs cs=>Ak (λp:Nat×Nat=>AH keys p.1) fs&&Ak (λp:Nat×Nat=>AH keys p.1) cs
 |_=>true
def TS.okB (keys:List Nat) (aC:List (Nat×TypeId×List Kd)):TS->Bool
 | .vD=>true
 | .v _ cs=>Ak (CS.okB keys aC) cs
 | .tup ps=>Ak (λp:Bool×List CS=>Ak (CS.okB keys aC) p.2) ps
def Sk.okB (sk:Sk):Bool:=
 BH (sk.aB.map (·.1))&&BH (sk.aC.map (·.1))&&Ak (TS.okB (sk.aB.map (·.1)) sk.aC) sk.tmps&&Ak (λp:Nat×TypeId×List CS=>Ak (CS.okB (sk.aB.map (·.1)) sk.aC) p.2.2) sk.aB
def Kk (d:Nat):AC->Bool
 | .ptr k _=> !(Nat.beq k d)
 |_=>true
def AC.killP (d:Nat):AC->AC
 | .ptr k o=>bif Nat.beq k d then .vD else .ptr k o
 | .bsl k n=>bif Nat.beq k d then .vD else .bsl k n
 | .clo f fs cs=>bif Ak (Kk d) fs&&Ak (Kk d) cs then .clo f fs cs else .vD
 |a=>a
def TV.mapC (f:AC->AC):TV->TV
 | .v g cs=> .v g (cs.map f)
 | .tup ps=> .tup (ps.map λp=>(p.1,p.2.map f))
 | .vD=> .vD
def UH:List Oper->List Nat
 |[]=>[]
 |o::l=>match o.op,o.dst with
  | .alloc _,some d=>d::UH l
  | .box _ _,some d=>d::UH l
  |_,_=>UH l
def Rs:List Nat->St->(St->Option R)->Option R
 |[],s,K=>K s
 |d::l,⟨tmps,aB,aC⟩,K=>match Ab aB d with
  |none=>Rs l ⟨tmps,aB,aC⟩ K
  |some _=>bif Dd d then none else AO (tmps.map (TV.mapC (AC.killP d))) λG=>AO ((del d aB).map λp=>(p.1,(⟨p.2.ty,p.2.cells.map (AC.killP d)⟩:Box))) λD=>Rs l ⟨G,D,aC⟩ K
def Pz (step:St->(Ex->St->Option R)->Option R):Nat->St->(Ex->St->Option R)->Option R
 |0,_,_=>none
 |n+1,s,K=>step s fun
  | .normal,D=>HP P C D λD=>Pz step n D K
  | .exit id,D=>K (.exit id) D
  | .ret,D=>K .ret D
def KD (a:Option (Sk×IC)) (s:St) (K:Ex->St->Option R) (run:Option R):Option R:=match a with
 |none=>run
 | some (sk, g) => bif sk.okB then (match Di sk s with
  |some vars=>g R vars K
  |none=>none)else none
def TW (C:Cfg) (c:Operand):Option (Sk×IC):=match c with
 | .tmp t=>C.conds t
 |_=>none
def Lr:Code->Option Nat
 | .region id _ _=>some id
 | .seq a b=>match Lr a with
  |some n=>some n
  |none=>Lr b
 | .cond _ a b=>match Lr a with
  |some n=>some n
  |none=>Lr b
 | .block _ b=>Lr b
 | .loop b=>Lr b
 |_=>none
def Rj (body:Code):Nat:=match Lr body with
 |some n=>n
 |none=>0
def Bp (L:Nat):Code->Nat->St->(Ex->St->Option R)->Option R
 | .skip,_,s,K=>K .normal s
 | .region _ ops draw,_,s,K=>Rs (UH ops.toList) s λs=>Y0 P C ops draw s (K .normal)
 | .seq a b,blk,s,K=>Bp L a blk s fun
  | .normal,D=>Bp L b blk D K
  | .exit id,D=>K (.exit id) D
  | .ret,D=>K .ret D
 | .cond c x y, blk, s, K => KD (TW C c) s K (match AG s.tmps c with
  | .v false [.bool g]=>match c with
   | .tmp t=>cond g (put s (some t) (.c (.bool true)) λD=>Bp L x blk D K) (put s (some t) (.c (.bool false)) λD=>Bp L y blk D K)
   |_=>cond g (Bp L x blk s K) (Bp L y blk s K)
  |_=>none)
 | .block id body,_,s,K=>KD (C.blocks id) s K (Bp L body id s fun
  | .normal,D=>K .normal D
  | .exit i,D=>bif Nat.beq i id then K .normal D else K (.exit i) D
  | .ret,D=>K .ret D)
 | .loop body,blk,s,K=>IP P (C.prom (Rj body)) s λD=>
   HP P C D λD=>KD (C.loops (Rj body)) D K (Pz P C (λs K=>Bp L body blk s K) L D K)
 | .exit id,_,s,K=>K (.exit id) s
 | .ret,_,s,K=>K .ret s
 | .scope b,blk,s,K=>Bp L b blk s K
 | .label _,_,s,K=>K .normal s
 |_,_,_,_=>none
def UT:Ex->Ex->Bool
 | .normal, .normal=>true
 | .exit i, .exit j=>Nat.beq i j
 | .ret, .ret=>true
 |_,_=>false
def J9:List (Ex×Sk)->Nat->Ex->St->Option (Nat×List AC)
 |[],_,_,_=>none
 | (e, sk) :: l, i, D, s => bif UT e D && sk.okB then (match Di sk s with
  |some vars=>some (i,vars)
  |none=>none)else J9 l (i+1) D s
def Ph (o:List AC) (K:Ex->St->Option R):List (Ex×Sk)->Nat->Nat->Option R
 |[],_,_=>none
 |(e,sk)::l,i,n=>bif Nat.beq n i then K e (AA sk o)else Ph o K l (i+1) n
def gOf (D:List (Ex×Sk)) (m:List AC->Option (Nat×List AC)):IC:=λ_ vars K=>(m vars).bind λo=>Ph o.2 K D 1 o.1
def AL (L blk:Nat) (body:Code) (sk:Sk) (D:List (Ex×Sk)) (vars:List AC):Option (Nat×List AC):=
 Bp P C L body blk (AA sk vars) λe G=>match e with
  | .normal=>HP P C G λG=>match Di sk G with
   |some vars=>some (0,vars)
   |none=>none
  | .exit i=>J9 D 1 (.exit i) G
  | .ret=>J9 D 1 .ret G
def Cc (step:List AC->Option (Nat×List AC)):Nat->List AC->Option (Nat×List AC)
 |0,_=>none
 |n+1,vars=>(step vars).bind λo=>if o.1=0 then Cc step n o.2 else some o
def Qmt (s:St):ResultVar->Option TV
 | .tmp t=>match nth .vD s.tmps t with
  | .v g cs=>some (.v g cs)
  |_=>none
 | .cell a t=>match nth .vD s.tmps a,Ck P t,szT P t with
  | .v false [.ptr key off],some g,some sz=>match Ab s.aB key with
   |some b=>CJ g sz b.cells off
   |none=>none
  |_,_,_=>none
def KS (s:St):List ResultVar->Option (List (Bool×List AC))
 |[]=>some []
 |r::l=>match Qmt P s r with
  |some (.v g cs)=>match KS s l with
   |some ps=>some ((g,cs)::ps)
   |none=>none
  |_=>none
def Hw:List TypeId->List (Bool×List AC)->List (Bool×List AC)
 | t :: D, (g, cs) :: l => (g, match FU P 8 t with
  |some ks=>DA ks cs
  |none=>cs)::Hw D l
 |_,l=>l
def KH:List (Bool×List AC)->TV
 |[(g,cs)]=> .v g cs
 |ps=> .tup ps
def Qeh:List TV->Bool
 | .v false [.own id _ _]::_=>Nat.beq id base
 |_=>false
def L5 (L:Func) (D:List Nat) (s:St) (K:TV->Mem->Option R):Option R:=
 match KS P s L.results.toList with
 |none=>none
 |some ps=>(bif C.ownRes then λK=>K s else In (cat (λp:Bool×List AC=>cat AC.ids p.2) ps) s) λs1=>HP P C s1 λs1=>
  match KS P s1 L.results.toList with
  |none=>none
  |some ps=>match s1 with
   |⟨tm,aB,aC⟩=>
    bif !C.keepIn||Qeh tm then
    AO (Hw P L.resultTypes.toList ps) λps=>
    AO (Lc aB 4 (AV (cat (λp:Bool×List AC=>cat AC.keys p.2) ps) D)) λkeys=>
    AO (NA aB (cat (λp:Bool×List AC=>p.2) ps) keys) λids=>
    AO (aB.filter λp=>AH keys p.1) λG=>
    AO (aC.filter λp=>AH ids p.1||Dd p.1) λI=>
    bif Ak (λp:Bool×List AC=>Ak (AC.inK keys ids) p.2) ps&&Ak (λp:Nat×Box=>Ak (AC.inK keys ids) p.2.cells) G&&Ak (DZ aB) D&&Ak (AH keys) D then K (KH ps) ⟨G,I⟩else none else none
def EB (L:Nat) (f:FuncId) (args:List TV) (mem:Mem) (K:TV->Mem->Option R):Option R:=
 match P.funcs.toList[f]? with
 |some D=>match D.body with
  |some c=>bif Ak (λp:Nat×Box=>Dd p.1) mem.aB then
    AO (args++List.replicate (D.ntmps-args.length) TV.vD) λtmps=>
     Bp P C L c 0 ⟨tmps,mem.aB,mem.aC⟩ λe s=>match e with
      | .normal=>L5 P C D (mem.aB.map (·.1)) s K
      | .ret=>L5 P C D (mem.aB.map (·.1)) s K
      | .exit _=>none
   else none
  |none=>none
 |none=>none
def AQ:Code->Nat->List (Nat×Code)
 | .seq a b,blk=>AQ a blk++AQ b blk
 | .cond _ a b,blk=>AQ a blk++AQ b blk
 | .block _ b,blk=>AQ b blk
 | .loop b,blk=>(Rj b,b)::AQ b blk
 | .scope b,blk=>AQ b blk
 |_,_=>[]
def Cj:Code->List (Nat×Code)
 | .seq a b=>Cj a++Cj b
 | .cond _ a b=>Cj a++Cj b
 | .block id b=>(id,b)::Cj b
 | .loop b=>Cj b
 | .scope b=>Cj b
 |_=>[]
def BA:Code->Nat->List (Nat×Nat×Code×Code)
 | .seq a b,blk=>BA a blk++BA b blk
 | .cond (.tmp t) a b,blk=>(t,0,a,b)::(BA a blk++BA b blk)
 | .cond _ a b,blk=>BA a blk++BA b blk
 | .block _ b,blk=>BA b blk
 | .loop b,blk=>BA b blk
 | .scope b,blk=>BA b blk
 |_,_=>[]
def Fq (f:FuncId):Option Code:=
 match P.funcs.toList[f]? with
 |some D=>D.body
 |none=>none
def GA (f:FuncId):List (Nat×Code):=match Fq P f with
 |some c=>AQ c 0
 |none=>[]
def YB (f:FuncId):List (Nat×Code):=match Fq P f with
 |some c=>Cj c
 |none=>[]
def Vd (f:FuncId):List (Nat×Nat×Code×Code):=match Fq P f with
 |some c=>BA c 0
 |none=>[]
def An (L:Nat) (f:FuncId) (sig D:Sk) (vars:List AC):Option (List AC):=match AA sig vars with
 |⟨args,aB,aC⟩=>EB P C L f args ⟨aB,aC⟩ λv m=>match m with
  |⟨b,r⟩=>Di D ⟨[v],b,r⟩
end prog
def Ac (sig D:Sk) (m:List AC->Option (List AC)):Spec:=λR args mem K=>match mem with
 | ⟨aB, aC⟩ => bif Ak (λp : Nat × Box => Dd p.1) aB then (match Di sig ⟨args, aB, aC⟩ with
  |some vars=>(m vars).bind λo=>match AA D o with
   |⟨tm,b,r⟩=>match tm with
    |[v]=>K v ⟨b,r⟩
    |_=>none
  |none=>none)else none
def VG:CS->AC->Bool
 | .int k, .int k' _=>kEq k k'
 | .bool, .bool _=>true
 | .sl ks, .vC D _=>Cy ks D
 | .ptr k o, .ptr k' G=>Nat.beq k k'&&Nat.beq o G
 |_,_=>false
def OD:List CS->List AC->Bool
 |[],[]=>true
 |c::cs,a::as=>VG c a&&OD cs as
 |_,_=>false
def Hi:List (Nat×TypeId×List CS)->List (Nat×Box)->Bool
 |[],[]=>true
 |(k,t,cs)::l,(k',b)::m=>Nat.beq k k'&&(Nat.beq t b.ty&&(OD cs b.cells&&Hi l m))
 |_,_=>false
def ET (sig D:Sk) (m:List AC->Option (List AC)):Spec:=λR args mem K=>match mem with
 | ⟨aB, aC⟩ => bif Ak (λp : Nat × Box => Dd p.1) aB && (Hi sig.aB aB && (aC.isEmpty && (sig.aC.isEmpty && BH (sig.aB.map (·.1))))) then (match Di sig ⟨args, aB, aC⟩ with
  |some vars=>(m vars).bind λo=>match AA D o with
   |⟨tm,[],[]⟩=>match tm with
    |[v]=>K v ⟨aB,aC⟩
    |_=>none
   |_=>none
  |none=>none)else none
def Lm (P:Program) (C:Cfg) (L:Nat) (f:FuncId) (sig D:Sk) (vars:List AC):Option (List AC):=match AA sig vars with
 |⟨args,aB,aC⟩=>EB P C L f args ⟨aB,aC⟩ λv _=>Di D ⟨[v],[],[]⟩
def AN (P:Program) (f blk:Nat):Code:=match Ab (GA P f) blk with
 |some c=>c
 |none=> .skip
def Cfg.loop (C:Cfg) (blk:Nat) (sk:Sk) (D:List (Ex×Sk)) (m:List AC->Option (Nat×List AC)):Cfg:=
 {C with loops:=λb=>bif Nat.beq b blk then some (sk,gOf D m)else C.loops b}
open Go.RowKit
theorem Qp {a b c d:Prop} (h:a\/b) (f:a->c) (g:b->d):c\/d:=by
 rcases h with h|h
 ·exact .inl (f h)
 ·exact .inr (g h)
mutual
def CP (im:Nat->Prop) (w:World):AC->Value->Prop
 | .int k n,x=>x= .int k n
 | .bool b,x=>x= .bool b
 | .raw v,x=>x=v/\v.oneCell'=true
 | .nilSl,x=>x= .slice none 0 0
 | .vC ks l,x=>∃D cap,x= .slice D l.length cap/\l.length<=cap/\(∀c∈l,AM ks c=c)/\(l=[]\/∃b o,D=some ⟨b,o,none⟩/\im b/\CPss im w ks.length l b o)
 | .vD,_=>False
 | .ptr _ _,_=>False
 | .own _ _ _,_=>False
 | .rptr _ _ _,_=>False
 | .vptr _ _,_=>False
 | .clo _ _ _,_=>False
 | .bsl _ _,_=>False
def CPs (im:Nat->Prop) (w:World):List AC->Nat->Nat->Prop
 |[],_,_=>True
 |c::cs,b,o=>(∃y,w.cell? ⟨b,o,none⟩=some y/\CP im w c y)/\CPs im w cs b (o+1)
def CPss (im:Nat->Prop) (w:World) (wd:Nat):List (List AC)->Nat->Nat->Prop
 |[],_,_=>True
 |c::cs,b,o=>(c.length=wd/\CPs im w c b o)/\CPss im w wd cs b (o+wd)
end
theorem Q2x:∀(ks:List Kd) (cs:List AC) (j:Nat),(Er ks cs j).length=ks.length
 |[],_,_=>rfl
 |_::ks,cs,j=>by simp[Er,Q2x ks cs (j+1)]
theorem S7 (ks:List Kd) (cs:List AC):(AM ks cs).length=ks.length:=Q2x ks cs 0
theorem ZJ {im:Nat->Prop} {w:World} {wd:Nat}:∀{l:List (List AC)} {b o:Nat},CPss im w wd l b o->∀i (D:i<l.length),(l[i]).length=wd/\CPs im w l[i] b (o+i*wd)
 |[],_,_,_,i,D=>by simp at D
 |c::l,b,o,h,0,_=>by rw[CPss]at h;rw[ik,jv];exact h.1
 |c::l,b,o,h,i+1,D=>by
  rw[CPss]at h;have:=ZJ h.2 i (by simpa using D);simp only[jg];rw[dk,gk,jx (i*wd) wd,<-dm];exact this
theorem SA {im:Nat->Prop} {w:World} {wd:Nat}:∀{l:List (List AC)} {b o:Nat},(∀i (D:i<l.length),(l[i]).length=wd/\CPs im w l[i] b (o+i*wd))->CPss im w wd l b o
 |[],_,_,_=>by simp[CPss]
 |c::l,b,o,h=>by
  rw[CPss];refine⟨by have:=h 0 (by simp);rw[ik,jv]at this;exact this,SA λi D=> ?_⟩;have:=h (i+1) (by simpa using D);simp only[jg]at this;rw[dk,gk,jx (i*wd) wd,<-dm]at this;exact this
def Ef (w:World) (e:TypeId) (size:Nat) (v:Value) (n:Nat) (xs:List Value):Prop:=
 xs.length = n * size /\ ((v = .slice none 0 0 /\ n = 0) \/
  ∃g o cap cur,v= .slice (some ⟨g,o,none⟩) n cap/\w.heap[g]? =some (.cells cur e (0,0))/\n<=cap/\cap<=maxLen/\o+cap*size<=cur.size/\(cur.toList.drop o).take (n*size)=xs)
theorem W7 (w:World) (e:TypeId) (size:Nat):Ef w e size (.slice none 0 0) 0 []:=⟨by simp, .inl ⟨rfl,rfl⟩⟩
theorem Zbv {w:World} {base:Nat} {e:TypeId} {size:Nat} {v:Value} {n:Nat} {xs:List Value} (h:w.ownsRow base e size v n xs):Ef w e size v n xs:=by
 refine⟨h.1,?_⟩;rcases h.2 with h|⟨g,cap,cur,D,_,G,I,L,N,M⟩
 ·exact .inl h
 ·exact .inr ⟨g,0,cap,cur,D,G,I,L,by omega,by simpa using M⟩
theorem Q2s {w:World} {e:TypeId} {size:Nat} {v:Value} {n:Nat} {xs:List Value} (h:Ef w e size v n xs):∀k,v.ownBlock=some k->k<w.heap.size:=by
 intro k D;rcases h.2 with⟨rfl,_⟩|⟨g,o,cap,cur,rfl,G,_⟩
 ·simp[Value.ownBlock]at D
 ·simp[Value.ownBlock]at D;subst D;exact(bt.1 G).1
theorem Mh {w w':World} {e:TypeId} {size n:Nat} {v:Value} {xs:List Value} (h:Ef w e size v n xs) (hb:∀g,v.ownBlock=some g->w'.heap[g]? =w.heap[g]?):Ef w' e size v n xs:=by
 refine⟨h.1,?_⟩;rcases h.2 with D|⟨g,o,cap,cur,rfl,G,I⟩
 ·exact .inl D
 ·exact .inr ⟨g,o,cap,cur,rfl,by rw[hb g rfl];exact G,I⟩
def Hs:Value->Nat
 | .slice (some a) _ _=>a.off
 |_=>0
theorem Qt {w:World} {e:TypeId} {size:Nat} {v:Value} {n:Nat} {xs:List Value} (h:Ef w e size v n xs) {g:Nat} (G:v.ownBlock=some g):∀j u,xs[j]? =some u->w.cell? ⟨g,Hs v+j,none⟩=some u:=by
 intro j u D;rcases h.2 with⟨rfl,rfl⟩|⟨M,o,cap,cur,rfl,I,N,O,S,L⟩
 ·simp[Value.ownBlock]at G
 ·simp[Value.ownBlock]at G;subst G;rw[<-L,fv]at D;split at D
  ·rw[ee]at D;simp[World.cell?,I,Hs];simpa using D
  ·simp at D
structure Env where
 bx:Nat->Nat
 rv:Nat->Value
 wd:Nat->Nat
 im:Nat->Prop
def CCc (ρ:Env) (w:World):AC->Value->Prop
 | .ptr key off,x=>x= .pointer (some ⟨ρ.bx key,off,none⟩)
 |a,x=>CP ρ.im w a x
def CLc (ρ:Env) (w:World):List AC->List Value->Prop
 |[],[]=>True
 |a::l,x::xs=>CCc ρ w a x/\CLc ρ w l xs
 |_,_=>False
def CC (ρ:Env) (w:World):AC->Value->Prop
 | .vD,x=>x.oneCell'=true
 | .ptr key off,x=>x= .pointer (some ⟨ρ.bx key,off,none⟩)
 | .own id wd n,x=>x=ρ.rv id/\ρ.wd id=wd/\((x= .slice none 0 0/\n=0)\/∃g o c,x= .slice (some ⟨g,o,none⟩) n c)
 | .rptr id idx sub,x=>∃g,(ρ.rv id).ownBlock=some g/\x= .pointer (some ⟨g,Hs (ρ.rv id)+(idx*ρ.wd id+sub),none⟩)
 | .vptr cs sub,x=>∃b o,x= .pointer (some ⟨b,o+sub,none⟩)/\ρ.im b/\CPs ρ.im w cs b o
 | .clo f fs cs,x=>∃xs D:Array Value,x= .func (.func f) xs D/\CLc ρ w fs xs.toList/\CLc ρ w cs D.toList
 | .bsl key n,x=>x= .slice (some ⟨ρ.bx key,0,none⟩) n n
 |a,x=>CP ρ.im w a x
def CL (R:AC->Value->Prop):List AC->List Value->Prop
 |[],[]=>True
 |a::l,x::xs=>R a x/\CL R l xs
 |_,_=>False
def TP (ρ:Env) (w:World):List (Bool×List AC)->List Value->Prop
 |[],[]=>True
 | (g, cs) :: l, x :: xs => (match g with
   |true=>∃D:Array Value,x= .agg D/\CL (CC ρ w) cs D.toList
   |false=>∃a,cs=[a]/\CC ρ w a x)/\TP ρ w l xs
 |_,_=>False
def TVR (ρ:Env) (w:World):TV->Value->Prop
 | .vD,_=>True
 | .v true cs,x=>∃D:Array Value,x= .agg D/\CL (CC ρ w) cs D.toList
 | .v false cs,x=>∃a,cs=[a]/\CC ρ w a x
 | .tup ps,x=>∃D:Array Value,x= .tuple D/\TP ρ w ps D.toList
theorem CL.length {R:AC->Value->Prop}:∀{l:List AC} {xs:List Value},CL R l xs->l.length=xs.length
 |[],[],_=>rfl
 |_::l,_::xs,h=>by simp[CL.length h.2]
 |[],_::_,h=>h.elim
 |_::_,[],h=>h.elim
theorem CL.mono {R R':AC->Value->Prop}:∀{l:List AC} {xs:List Value},(∀a∈l,∀x,R a x->R' a x)->CL R l xs->CL R' l xs
 |[],[],_,_=>trivial
 |a::l,x::xs,h,D=>⟨h a (by simp) x D.1,CL.mono (λb hb=>h b (by simp[hb])) D.2⟩
 |[],_::_,_,h=>h.elim
 |_::_,[],_,h=>h.elim
theorem CL.get {R:AC->Value->Prop}:∀{l:List AC} {xs:List Value} {i:Nat} {a:AC},CL R l xs->l[i]? =some a->∃x,xs[i]? =some x/\R a x
 |[],[],i,_,_,h=>by simp at h
 |a::l,x::xs,0,b,D,h=>by simp at h;subst h;exact⟨x,rfl,D.1⟩
 |a::l,x::xs,i+1,b,D,h=>by simpa using CL.get D.2 (by simpa using h)
 |[],_::_,_,_,h,_=>h.elim
 |_::_,[],_,_,h,_=>h.elim
theorem CL.drop {R:AC->Value->Prop}:∀(n:Nat) {l:List AC} {xs:List Value},CL R l xs->CL R (l.drop n) (xs.drop n)
 |0,_,_,h=>h
 |_+1,[],[],_=>trivial
 |n+1,_::_,_::_,h=>CL.drop n h.2
 |_+1,[],_::_,h=>h.elim
 |_+1,_::_,[],h=>h.elim
theorem CL.take {R:AC->Value->Prop}:∀(n:Nat) {l:List AC} {xs:List Value},CL R l xs->CL R (l.take n) (xs.take n)
 |0,_,_,_=>by simp[CL]
 |_+1,[],[],_=>trivial
 |n+1,_::_,_::_,h=>⟨h.1,CL.take n h.2⟩
 |_+1,[],_::_,h=>h.elim
 |_+1,_::_,[],h=>h.elim
theorem CL.cut {R:AC->Value->Prop} {l:List AC} {xs:List Value} (o m:Nat) (h:CL R l xs):CL R (cut l o m) (cut xs o m):=CL.take m (CL.drop o h)
theorem CL.append {R:AC->Value->Prop}:∀{l G:List AC} {xs D:List Value},CL R l xs->CL R G D->CL R (l++G) (xs++D)
 |[],_,[],_,_,h=>h
 |_::_,_,_::_,_,h,h'=>⟨h.1,CL.append h.2 h'⟩
 |[],_,_::_,_,h,_=>h.elim
 |_::_,_,[],_,h,_=>h.elim
theorem CL.splice {R:AC->Value->Prop}:∀{l:List AC} {xs:List Value} (o:Nat) {D:List AC} {G:List Value},CL R l xs->CL R D G->CL R (splice l o D) (splice xs o G)
 |l,xs,o,[],[],h,_=>by cases l<;>cases xs<;>simpa [Bm.splice]using h
 |[],[],o,_::_,_::_,_,_=>by simp[Bm.splice,CL]
 |a::l,x::xs,0,v::D,y::G,h,h'=>by simp only[Bm.splice];exact⟨h'.1,CL.splice 0 h.2 h'.2⟩
 |a::l,x::xs,o+1,v::D,y::G,h,h'=>by simp only[Bm.splice];exact⟨h.1,CL.splice o h.2 h'⟩
 |[],_::_,_,_,_,h,_=>h.elim
 |_::_,[],_,_,_,h,_=>h.elim
 |_,_,_,[],_::_,_,h=>h.elim
 |_,_,_,_::_,[],_,h=>h.elim
mutual
theorem CP.mono {im D:Nat->Prop} {w w':World} (G:∀b,im b->D b) (hb:∀b,im b->w'.heap[b]? =w.heap[b]?):∀(a:AC) (x:Value),CP im w a x->CP D w' a x
 | .int k n,x,h=>by simpa [CP]using h
 | .bool b,x,h=>by simpa [CP]using h
 | .raw v,x,h=>by simpa [CP]using h
 | .nilSl,x,h=>by simpa [CP]using h
 | .vC ks l,x,h=>by
  rw[CP]at h⊢;obtain⟨L,cap,M,hle,N,hf⟩:=h;refine⟨L,cap,M,hle,N,?_⟩;rcases hf with hf|⟨b,o,O,I,S⟩
  ·exact .inl hf
  ·exact .inr ⟨b,o,O,G b I,CPss.mono G hb _ l b o I S⟩
 | .vD,x,h=>by simp[CP]at h
 | .ptr _ _,x,h=>by simp[CP]at h
 | .own _ _ _,x,h=>by simp[CP]at h
 | .rptr _ _ _,x,h=>by simp[CP]at h
 | .vptr _ _,x,h=>by simp[CP]at h
 | .clo _ _ _,x,h=>by simp[CP]at h
 | .bsl _ _,x,h=>by simp[CP]at h
theorem CPs.mono {im D:Nat->Prop} {w w':World} (I:∀b,im b->D b) (hb:∀b,im b->w'.heap[b]? =w.heap[b]?):∀(cs:List AC) (b o:Nat),im b->CPs im w cs b o->CPs D w' cs b o
 |[],_,_,_,_=>by simp[CPs]
 |c::cs,b,o,G,h=>by
  rw[CPs]at h⊢;obtain⟨⟨y,L,M⟩,N⟩:=h;exact⟨⟨y,(World.cell?_of_block (w:=w) (a:=⟨b,o,none⟩) (hb b G)).trans L,CP.mono I hb c y M⟩,CPs.mono I hb cs b _ G N⟩
theorem CPss.mono {im D:Nat->Prop} {w w':World} (I:∀b,im b->D b) (hb:∀b,im b->w'.heap[b]? =w.heap[b]?) (wd:Nat):∀(l:List (List AC)) (b o:Nat),im b->CPss im w wd l b o->CPss D w' wd l b o
 |[],_,_,_,_=>by simp[CPss]
 |c::cs,b,o,G,h=>by
  rw[CPss]at h⊢;exact⟨⟨h.1.1,CPs.mono I hb c b o G h.1.2⟩,CPss.mono I hb wd cs b _ G h.2⟩
end
def AC.agreeP (ρ D:Env):AC->Prop
 | .ptr key _=>D.bx key=ρ.bx key
 |_=>True
def AC.agree (ρ D:Env):AC->Prop
 | .ptr key _=>D.bx key=ρ.bx key
 | .bsl key _=>D.bx key=ρ.bx key
 | .own id _ _=>D.rv id=ρ.rv id/\D.wd id=ρ.wd id
 | .rptr id _ _=>D.rv id=ρ.rv id/\D.wd id=ρ.wd id
 | .clo _ fs cs=>(∀a∈fs,AC.agreeP ρ D a)/\∀a∈cs,AC.agreeP ρ D a
 |_=>True
theorem CLc.mono {ρ ρ':Env} {w w':World} (D:∀b,ρ.im b->ρ'.im b) (hb:∀b,ρ.im b->w'.heap[b]? =w.heap[b]?):∀(l:List AC) (xs:List Value),(∀a∈l,a.agreeP ρ ρ')->CLc ρ w l xs->CLc ρ' w' l xs
 |[],[],_,_=>trivial
 |a::l,x::xs,G,h=>by
  refine⟨?_,CLc.mono D hb l xs (λb hb=>G b (by simp[hb])) h.2⟩;have L:=G a (by simp);have I:=h.1;cases a<;>first
   |exact CP.mono D hb _ _ I
   |(simp only[CCc,AC.agreeP]at*;rw[L];exact I)
 |[],_::_,_,h=>h.elim
 |_::_,[],_,h=>h.elim
theorem CC.mono {ρ ρ':Env} {w w':World} (D:∀b,ρ.im b->ρ'.im b) (hb:∀b,ρ.im b->w'.heap[b]? =w.heap[b]?) (a:AC) (x:Value) (G:a.agree ρ ρ') (h:CC ρ w a x):CC ρ' w' a x:=by
 cases a with
 |vD=>exact h
 |ptr key off=>simp only[CC,AC.agree]at*;rw[G];exact h
 |bsl key n=>simp only[CC,AC.agree]at*;rw[G];exact h
 |own id w n=>simp only[CC,AC.agree]at*;rw[G.1,G.2];exact h
 |rptr id idx sub=>simp only[CC,AC.agree]at*;rw[G.1,G.2];exact h
 |vptr cs sub=>
  simp only[CC]at*;obtain⟨b,o,L,I,M⟩:=h;exact⟨b,o,L,D b I,CPs.mono D hb cs b o I M⟩
 |clo f fs cs=>
  simp only[CC,AC.agree]at*;obtain⟨xs,N,L,I,M⟩:=h;exact⟨xs,N,L,CLc.mono D hb fs _ G.1 I,CLc.mono D hb cs _ G.2 M⟩
 |int k n=>exact CP.mono D hb _ _ h
 |bool b=>exact CP.mono D hb _ _ h
 |raw v=>exact CP.mono D hb _ _ h
 |nilSl=>exact CP.mono D hb _ _ h
 |vC ks l=>exact CP.mono D hb _ _ h
theorem Ix {ρ:Env} {w:World} {a:AC} {x:Value} (h:CP ρ.im w a x):CC ρ w a x:=by
 cases a<;>first|exact h|(simp[CP]at h)
theorem CP.one {im:Nat->Prop} {w:World} {a:AC} {x:Value} (h:CP im w a x):x.oneCell'=true:=by
 cases a<;>simp only[CP]at h
 case int=>subst h;rfl
 case bool=>subst h;rfl
 case raw=>rw[h.1];exact h.2
 case nilSl=>subst h;rfl
 case vC=>obtain⟨_,_,rfl,_⟩:=h;rfl
theorem CC.one {ρ:Env} {w:World} {a:AC} {x:Value} (h:CC ρ w a x):x.oneCell'=true:=by
 cases a with
 |vD=>exact h
 |ptr=>simp only[CC]at h;subst h;rfl
 |bsl=>simp only[CC]at h;subst h;rfl
 |own=>obtain⟨_,_,⟨rfl,_⟩|⟨_,_,_,rfl⟩⟩:=h<;>rfl
 |rptr=>obtain⟨_,_,rfl⟩:=h;rfl
 |vptr=>obtain⟨_,_,rfl,_⟩:=h;rfl
 |clo=>obtain⟨_,_,rfl,_⟩:=h;rfl
 |int=>exact CP.one h
 |bool=>exact CP.one h
 |raw=>exact CP.one h
 |nilSl=>exact CP.one h
 |vC=>exact CP.one h
theorem Au {α:Type} {p:α->Bool}:∀{l:List α},Ak p l=true↔∀x∈l,p x=true
 |[]=>by simp[Ak]
 |x::l=>by
  simp only[Ak,ax,jb,<-Au (l:=l)];cases p x<;>simp
theorem AW {α R:Type}:∀(l:List α) (K:List α->Option R),AO l K=K l
 |[],_=>rfl
 |x::xs,K=>by rw[AO,AW xs]
theorem BV {α:Type} (d:α):∀(l:List α) (n:Nat),nth d l n=l.getD n d
 |[],_=>by simp[nth]
 |_::_,0=>by simp[nth]
 |_::xs,n+1=>by simp only[nth,BV d xs n];simp
theorem Im {α:Type}:∀(l:List α) (n:Nat) (v:α),setL l n v=l.set n v
 |[],_,_=>by simp[setL]
 |_::_,0,_=>by simp[setL]
 |x::xs,n+1,v=>by simp[setL,Im xs n v]
section tables
variable {α:Type}
theorem Eu:∀(l:List (Nat×α)) (k:Nat) (x y:α),Ab l k=some y->Ab (upd l k x) k=some x
 |[],_,_,_,h=>by simp[Ab]at h
 |(k',b)::l,k,x,y,h=>by
  simp only[Ab,upd]at*;cases D:Nat.beq k' k
  ·simp only[D,aq,Ab]at*;exact Eu l k x y h
  ·simp[Ab,ac D]
theorem C_:∀(l:List (Nat×α)) (k j:Nat) (x:α),j≠k->Ab (upd l k x) j=Ab l j
 |[],_,_,_,_=>rfl
 |(k',b)::l,k,j,x,h=>by
  simp only[Ab,upd];cases G:Nat.beq k' k
  ·simp only[aq,Ab,C_ l k j x h]
  ·have e:=ac G;subst e;have D:Nat.beq k' j=false:=by
    cases hb:Nat.beq k' j
    ·rfl
    ·exact absurd (ac hb).symm h
   simp[Ab,D]
theorem Ed:∀(l:List (Nat×α)) (k:Nat) (x:α),Ab l k=none->Ab (ins l k x) k=some x
 |[],k,x,_=>by simp[Ab,ins]
 |(k',b)::l,k,x,h=>by
  simp only[Ab,ins]at*;cases D:Nat.beq k' k
  ·simp only[D,aq]at h;cases hb:Nat.blt k k'
   ·simp only[aq,Ab,D];exact Ed l k x h
   ·simp[Ab]
  ·simp[D]at h
theorem Dg:∀(l:List (Nat×α)) (k j:Nat) (x:α),j≠k->Ab (ins l k x) j=Ab l j
 |[],k,j,x,h=>by
  have D:Nat.beq k j=false:=by
   cases hb:Nat.beq k j
   ·rfl
   ·exact absurd (ac hb).symm h
  simp[Ab,ins,D]
 |(k',b)::l,k,j,x,h=>by
  have D:Nat.beq k j=false:=by
   cases hb:Nat.beq k j
   ·rfl
   ·exact absurd (ac hb).symm h
  simp only[Ab,ins];cases hb:Nat.blt k k'
  ·simp only[aq,Ab,Dg l k j x h]
  ·simp[Ab,D]
theorem QH:∀(l:List (Nat×α)) (k:Nat),Ab (del k l) k=none
 |[],k=>by simp[Ab,del]
 |(k',b)::l,k=>by
  simp only[del];cases D:Nat.beq k' k
  ·simp only[aq,Ab,D,QH l k]
  ·simp only[ag];exact QH l k
theorem J8:∀(l:List (Nat×α)) (k j:Nat),j≠k->Ab (del k l) j=Ab l j
 |[],_,_,_=>by simp[Ab,del]
 |(k',b)::l,k,j,h=>by
  simp only[del];cases G:Nat.beq k' k
  ·simp only[aq,Ab,J8 l k j h]
  ·have e:=ac G;subst e;have D:Nat.beq k' j=false:=by
    cases hb:Nat.beq k' j
    ·rfl
    ·exact absurd (ac hb).symm h
   simp only[ag,Ab,D,aq];exact J8 l k' j h
theorem LG {l:List (Nat×α)} {k j:Nat} {x:α} (h:Ab (del k l) j=some x):j≠k/\Ab l j=some x:=by
 by_cases D:j=k
 ·subst D;rw[QH]at h;cases h
 ·rw[J8 _ _ _ D]at h;exact⟨D,h⟩
end tables
open Go.RowKit
section
variable {P:Program} {C:Cfg} {ρ:Env} {w:World} {R:Type}
theorem Zxo {x:Value} (h:x.oneCell'=true):x.cells= #[x]:=by
 cases x<;>first|rfl|(simp[Value.oneCell']at h)
theorem Q8s (v:Value) (h:v.oneCell'=true):CC ρ w (Mw v) v:=by
 unfold Mw;split<;>first|(simp[CC,CP,Value.oneCell'];done)|exact h
theorem TA:∀(l:List Value) {cs:List AC},IB l=some cs->CL (CC ρ w) cs l
 |[],cs,h=>by simp[IB]at h;subst h;trivial
 |v::l,cs,h=>by
  simp only[IB]at h;cases D:v.oneCell'
  ·simp[D]at h
  ·simp only[D,ag]at h;split at h
   ·rename_i G I;simp at h;subst h;exact⟨Q8s v D,TA l I⟩
   ·simp at h
theorem Z5x (v:Value):TVR ρ w (ofValue v) v:=by
 unfold ofValue;split
 ·rename_i cs;split
  ·rename_i l D;exact⟨cs,rfl,TA _ D⟩
  ·trivial
 ·trivial
 ·rename_i G I;exact⟨_,rfl,Q8s v (by cases v<;>first|rfl|(exfalso;first|exact G _ rfl|exact I _ rfl))⟩
theorem TVR.cells {t:TV} {x:Value} {cs:List AC} (h:TVR ρ w t x) (D:t.cells=some cs):CL (CC ρ w) cs x.cells.toList:=by
 cases t with
 |vD=>simp[TV.cells]at D
 |tup ps=>simp[TV.cells]at D
 |v g l=>
  simp[TV.cells]at D;subst D;cases g
  ·obtain⟨a,rfl,G⟩:=h;rw[Zxo G.one];exact⟨G,trivial⟩
  ·obtain⟨L,rfl,I⟩:=h;exact I
theorem TVR.c {a:AC} {x:Value} (h:TVR ρ w (.c a) x):CC ρ w a x:=by
 obtain⟨b,hb,D⟩:=h;simp at hb;subst hb;exact D
theorem TVR.c' {a:AC} {x:Value} (h:CC ρ w a x):TVR ρ w (.c a) x:=⟨a,rfl,h⟩
theorem TVR.int {k:IntKind} {n:Int} {x:Value} (h:TVR ρ w (.c (.int k n)) x):x= .int k n:=by have:=h.c;simpa [CC,CP]using this
theorem TVR.bool {b:Bool} {x:Value} (h:TVR ρ w (.c (.bool b)) x):x= .bool b:=by have:=h.c;simpa [CC,CP]using this
theorem TVR.mkInt (k:IntKind) (n:Int):TVR ρ w (.c (.int k n)) (.int k n):=TVR.c' (by simp[CC,CP])
theorem TVR.mkBool (b:Bool):TVR ρ w (.c (.bool b)) (.bool b):=TVR.c' (by simp[CC,CP])
theorem TVR.agg {cs:List AC} {x:Value} (h:TVR ρ w (.agg cs) x):∃D:Array Value,x= .agg D/\CL (CC ρ w) cs D.toList:=h
def RowC (im:Nat->Prop) (w:World) (ks:List Kd) (l:List (List AC)) (xs:List Value):Prop:=
 xs.length=l.length*ks.length/\(∀c∈l,AM ks c=c)/\∀i c,l[i]? =some c->CL (CP im w) c (cut xs (i*ks.length) ks.length)
theorem O7 {k k':IntKind} (h:kEq k k'=true):k=k':=by cases k<;>cases k'<;>first|rfl|(simp[kEq]at h)
mutual
theorem Zvd:∀{k k':Kd},Ew k k'=true->k=k'
 | .int k, .int k',h=>by rw[Ew]at h;rw[O7 h]
 | .bool, .bool,_=>rfl
 | .sl ks, .sl D,h=>by rw[Ew]at h;rw[Iy h]
 | .raw, .raw,_=>rfl
 | .int _, .bool,h=>by simp[Ew]at h
 | .int _, .sl _,h=>by simp[Ew]at h
 | .int _, .raw,h=>by simp[Ew]at h
 | .bool, .int _,h=>by simp[Ew]at h
 | .bool, .sl _,h=>by simp[Ew]at h
 | .bool, .raw,h=>by simp[Ew]at h
 | .sl _, .int _,h=>by simp[Ew]at h
 | .sl _, .bool,h=>by simp[Ew]at h
 | .sl _, .raw,h=>by simp[Ew]at h
 | .raw, .int _,h=>by simp[Ew]at h
 | .raw, .bool,h=>by simp[Ew]at h
 | .raw, .sl _,h=>by simp[Ew]at h
theorem Iy:∀{ks D:List Kd},Cy ks D=true->ks=D
 |[],[],_=>rfl
 |k::ks,k'::D,h=>by
  rw[Cy]at h;cases G:Ew k k'
  ·rw[G]at h;simp at h
  ·rw[G]at h;simp only[ag]at h;rw[Zvd G,Iy h]
 |[],_::_,h=>by simp[Cy]at h
 |_::_,[],h=>by simp[Cy]at h
end
theorem TK {im:Nat->Prop} (ks:List Kd):CP im w (.vC ks []) (.slice none 0 0):=by
 rw[CP];exact⟨none,0,rfl,co _,by simp, .inl rfl⟩
theorem Zsc {k:Kd} {a I:AC} {x:Value} (h:PF k a=some I) (D:CC ρ w a x):CP ρ.im w I x/\LQ k I=I:=by
 cases k<;>cases a<;>simp only[PF]at h<;>try (simp at h;done)
 case int.int k k' n=>
  cases G:kEq k k'<;>rw[G]at h
  ·simp at h
  ·simp at h;subst h;rw[<-O7 G]at D;exact⟨D,rfl⟩
 case bool.bool b=>simp at h;subst h;exact⟨D,rfl⟩
 case sl.nilSl ks=>
  simp at h;subst h;simp only[CC,CP]at D;subst D;exact⟨TK ks,rfl⟩
 case sl.vC ks L l=>
  cases G:Cy ks L<;>rw[G]at h
  ·simp at h
  ·simp at h;subst h;rw[<-Iy G]at D;exact⟨D,rfl⟩
 case raw.raw v=>simp at h;subst h;exact⟨D,rfl⟩
theorem Z5h {α:Type} (d:α) (x:α) (l:List α) (n:Nat):nth d (x::l) (n+1)=nth d l n:=rfl
theorem Q4o (a:AC):∀(ks:List Kd) (cs:List AC) (j:Nat),Er ks (a::cs) (j+1)=Er ks cs j
 |[],_,_=>rfl
 |k::ks,cs,j=>by rw[Er,Er,Z5h,Q4o a ks cs (j+1)]
theorem Qqu (k:Kd) (ks:List Kd) (a:AC) (cs:List AC):AM (k::ks) (a::cs)=LQ k a::AM ks cs:=by
 show LQ k a::Er ks (a::cs) 1=_;rw[Q4o];rfl
theorem RQ:∀{ks:List Kd} {cs D:List AC} {xs:List Value},Fj ks cs=some D->CL (CC ρ w) cs xs->CL (CP ρ.im w) D xs/\AM ks D=D
 |[],[],D,xs,h,G=>by
  simp[Fj]at h;subst h;cases xs with
  |nil=>exact⟨trivial,rfl⟩
  |cons=>exact G.elim
 |k::ks,a::cs,D,xs,h,G=>by
  simp only[Fj]at h;split at h
  ·rename_i T I;split at h
   ·rename_i l L;simp at h;subst h;cases xs with
    |nil=>exact G.elim
    |cons x xs=>
     obtain⟨M,N⟩:=Zsc I G.1;obtain⟨O,S⟩:=RQ L G.2;exact⟨⟨M,O⟩,by rw[Qqu,N,S]⟩
   ·simp at h
  ·simp at h
 |[],_::_,_,_,h,_=>by simp[Fj]at h
 |_::_,[],_,_,h,_=>by simp[Fj]at h
def Jb (P:Program) (ρ:Env) (w:World) (e:Operand->Value) (o:Oper):Prim->Prop
 | .val v=>∃x,(execOp e o).run P w= .ok (.value x) w/\TVR ρ w v x
 | .load g sz key off=>∃t,Ck P t=some g/\szT P t=some sz/\
   (execOp e o).run P w=((loadVar t ⟨ρ.bx key,off,none⟩).run P w).andThen λv w'=> .ok (.value v) w'
 | .rload g sz id idx sub=>∃t b,Ck P t=some g/\szT P t=some sz/\(ρ.rv id).ownBlock=some b/\
   (execOp e o).run P w=((loadVar t ⟨b,Hs (ρ.rv id)+(idx*ρ.wd id+sub),none⟩).run P w).andThen λv w'=> .ok (.value v) w'
 | .store key off cs=>∃t x,szT P t=some cs.length/\CL (CC ρ w) cs x.cells.toList/\
   (execOp e o).run P w=((storeVar t ⟨ρ.bx key,off,none⟩ x).run P w).andThen λ_ w'=> .ok .skip w'
 | .rstore id idx sub cs=>∃t x b,szT P t=some cs.length/\CL (CC ρ w) cs x.cells.toList/\(ρ.rv id).ownBlock=some b/\
   (execOp e o).run P w=((storeVar t ⟨b,Hs (ρ.rv id)+(idx*ρ.wd id+sub),none⟩ x).run P w).andThen λ_ w'=> .ok .skip w'
 | .new ty cs=>∃arr:Array Value,CL (CC ρ w) cs arr.toList/\(execOp e o).run P w= .ok (.value (.pointer (some ⟨w.heap.size,0,none⟩))) (w.alloc (.cells arr ty))
 | .cutR id a=>∀L n cap,ρ.rv id= .slice L n cap->n<=cap->a<=n->(execOp e o).run P w= .ok (.value (.slice (if cap=a then L else L.map (·.add (a*ρ.wd id))) (n-a) (cap-a))) w
 | .newS ty n cs=>∃arr:Array Value,CL (CC ρ w) cs arr.toList/\(execOp e o).run P w= .ok (.value (.slice (some ⟨w.heap.size,0,none⟩) n n)) (w.alloc (.cells arr ty))
 | .newRow D ks l=>∃arr:Array Value,0<ks.length/\l.length<=maxLen/\RowC ρ.im w ks l arr.toList/\
   (execOp e o).run P w= .ok (.value (.slice (some ⟨w.heap.size,0,none⟩) l.length l.length)) (w.alloc (.cells arr D))
 | .newView D ks l=>∃arr:Array Value,0<ks.length/\l.length<=maxLen/\RowC ρ.im w ks l arr.toList/\
   (execOp e o).run P w= .ok (.value (.slice (some ⟨w.heap.size,0,none⟩) l.length l.length)) (w.alloc (.cells arr D))
 | .make D ks bytes n z=>∃t i M N O,P.underlying t=some (.slice D)/\P.info? D=some i/\i.zero=some M/\i.size=ks.length/\i.bytes=bytes/\0<ks.length/\0<bytes/\AM ks z=z/\CL (CP ρ.im w) z M.cells.toList/\
   (execOp e o).run P w=((Instr.makeSlice t (.int N n) (.int O n)).run P w).andThen λv w'=> .ok (.value v) w'
 | .append D ks bytes s x=>∃t ty i z G I,P.underlying t=some (.slice D)/\P.info? D=some i/\i.zero=some z/\i.size=ks.length/\i.bytes=bytes/\z.cells.size=ks.length/\CC ρ w s G/\CC ρ w x I/\
   (execOp e o).run P w=((Builtin.append_ #[t,t] ty #[G,I]).run P w).andThen λv w'=> .ok (.value v) w'
 | .appD D ks bytes s x=>∃t ty i z G I,P.underlying t=some (.slice D)/\P.info? D=some i/\i.zero=some z/\i.size=ks.length/\i.bytes=bytes/\z.cells.size=ks.length/\CC ρ w s G/\CC ρ w x I/\
   (execOp e o).run P w=((Builtin.append_ #[t,t] ty #[G,I]).run P w).andThen λv w'=> .ok (.value v) w'
 | .callM f args=>∃xs:List Value,xs.length=args.length/\(∀(i:Nat) (a:TV) (x:Value),args[i]? =some a->xs[i]? =some x->TVR ρ w a x)/\execOp e o=callFunc f xs.toArray
 | .callF f args=>∃xs:List Value,xs.length=args.length/\(∀(i:Nat) (a:TV) (x:Value),args[i]? =some a->xs[i]? =some x->TVR ρ w a x)/\execOp e o=callFunc f xs.toArray
 | .callD f args=>∃xs:List Value,xs.length=args.length/\(∀(i:Nat) (a:TV) (x:Value),args[i]? =some a->xs[i]? =some x->TVR ρ w a x)/\execOp e o=callFunc f xs.toArray
 | .call f args=>∃xs:List Value,xs.length=args.length/\(∀(i:Nat) (a:TV) (x:Value),args[i]? =some a->xs[i]? =some x->TVR ρ w a x)/\execOp e o=callFunc f xs.toArray
theorem Zxf {t:TypeId} {n:Nat} (h:szT P t=some n):∃i,P.info? t=some i/\i.size=n:=by
 unfold szT at h;split at h
 ·rename_i i D;simp at h;exact⟨i,D,h⟩
 ·simp at h
theorem DJ {t:TypeId} {n:Nat} (h:szT P t=some n) (w:World):(sizeOf t).run P w= .ok n w:=by
 obtain⟨i,D,rfl⟩:=Zxf h;simp[sizeOf,typeInfo,D]
theorem Oc {t:TypeId} {g:Bool} (h:Ck P t=some g) (w:World):(isAgg t).run P w= .ok g w:=by
 unfold Ck at h;split at h
 ·rename_i fs D;simp at h;subst h;simp[isAgg,run_underlying D]
 ·rename_i n e D;simp at h;subst h;simp[isAgg,run_underlying D]
 ·rename_i d G I D;simp at h;subst h;simp only[isAgg,Sem.run_bind,run_underlying D,cv];cases d<;>first|rfl|(exfalso;first|exact G _ rfl|exact I _ _ rfl)
 ·simp at h
theorem TT {t:TypeId} {cs:List AC} (h:I9 P t=some cs):∃v,(∀w,(zeroValue t).run P w= .ok v w)/\CL (CC ρ w) cs v.cells.toList:=by
 unfold I9 at h;split at h
 ·rename_i i D;split at h
  ·rename_i v G;exact⟨v,λw=>by simp[zeroValue,typeInfo,D,G],TA _ h⟩
  ·simp at h
 ·simp at h
theorem Gv {im:Nat->Prop} {w:World} (k:IntKind) (n:Int):CP im w (.int k n) (.int k n):=by simp[CP]
theorem Qst {im:Nat->Prop} {w:World} (b:Bool):CP im w (.bool b) (.bool b):=by simp[CP]
theorem Zsp (op:BinOp) (t:TypeId) (k:IntKind) (a b:Int) (K:AC->Option R) {r:R} (h:Gm op k a b K=some r):
  ∃c x,K c=some r/\CP ρ.im w c x/\(binOp op t (.int k a) (.int k b)).run P w= .ok x w:=by
 cases op<;>simp only[Gm]at h
 case quo=>
  cases hb:decide (b=0)
  ·rw[hb]at h;simp only[aq]at h;have D: ¬b=0:=by simpa using hb
   exact⟨_,_,h,Gv _ _,by simp[binOp_quo,Op.intDiv,D]⟩
  ·rw[hb]at h;simp at h
 case rem=>
  cases hb:decide (b=0)
  ·rw[hb]at h;simp only[aq]at h;have D: ¬b=0:=by simpa using hb
   exact⟨_,_,h,Gv _ _,by simp[binOp_rem,Op.intDiv,D]⟩
  ·rw[hb]at h;simp at h
 case shl=>
  cases hb:decide (b<0)
  ·rw[hb]at h;simp only[aq]at h;have D: ¬b<0:=by simpa using hb
   exact⟨_,_,h,Gv _ _,by simp[binOp_shl,Op.shift,D]⟩
  ·rw[hb]at h;simp at h
 case shr=>
  cases hb:decide (b<0)
  ·rw[hb]at h;simp only[aq]at h;have D: ¬b<0:=by simpa using hb
   exact⟨_,_,h,Gv _ _,by simp[binOp_shr,Op.shift,D]⟩
  ·rw[hb]at h;simp at h
 case and=>exact⟨_,_,h,Gv _ _,by rw[binOp_and];rfl⟩
 case or=>exact⟨_,_,h,Gv _ _,by rw[binOp_or];rfl⟩
 case xor=>exact⟨_,_,h,Gv _ _,by rw[binOp_xor];rfl⟩
 case andNot=>exact⟨_,_,h,Gv _ _,by rw[binOp_andNot];rfl⟩
 all_goals first|exact⟨_,_,h,Gv _ _,by simp[go_sem]⟩|exact⟨_,_,h,Qst _,by simp[go_sem]⟩
theorem Zdh {op:BinOp} (G:My op=true) (t:TypeId) (k k':IntKind) (a b:Int) (K:AC->Option R) {r:R} (h:Gm op k a b K=some r):
  ∃c x,K c=some r/\CP ρ.im w c x/\(binOp op t (.int k a) (.int k' b)).run P w= .ok x w/\op≠ .eql/\op≠ .neq:=by
 cases op<;>simp[My]at G<;>simp only[Gm]at h
 case shl=>
  cases hb:decide (b<0)
  ·rw[hb]at h;simp only[aq]at h;have D: ¬b<0:=by simpa using hb
   exact⟨_,_,h,Gv _ _,by simp[binOp_shl,Op.shift,D],by simp,by simp⟩
  ·rw[hb]at h;simp at h
 case shr=>
  cases hb:decide (b<0)
  ·rw[hb]at h;simp only[aq]at h;have D: ¬b<0:=by simpa using hb
   exact⟨_,_,h,Gv _ _,by simp[binOp_shr,Op.shift,D],by simp,by simp⟩
  ·rw[hb]at h;simp at h
theorem HJ {i:Int}:∀{n k:Nat} {K:Nat->Option R} {r:R},Gy i n k K=some r->∃j,K j=some r/\i=(j:Int)/\k<=j/\j<k+n
 |0,_,_,_,h=>by simp[Gy]at h
 |n+1,k,K,r,h=>by
  rw[Gy]at h;cases D:decide (i=(k:Int))
  ·rw[D]at h;simp only[aq]at h;obtain⟨j,G,I,L,M⟩:=HJ h;exact⟨j,G,I,by omega,by omega⟩
  ·rw[D]at h;simp only[ag]at h;exact⟨k,h,by simpa using D,by omega,by omega⟩
theorem Qti {g:Bool} {sz:Nat} {cells:List AC} {off:Nat} {v:TV} {xs:List Value} (h:CJ g sz cells off=some v) (D:CL (CC ρ w) cells xs):
  match g with
  |true=>off+sz<=xs.length/\TVR ρ w v (.agg (cut xs off sz).toArray)
  |false=>∃x,xs[off]? =some x/\TVR ρ w v x:=by
 cases g
 ·simp only[CJ,aq]at h;split at h
  ·rename_i a G;simp at h;subst h;obtain⟨x,I,L⟩:=D.get G;exact⟨x,I,TVR.c' L⟩
  ·simp at h
 ·simp only[CJ,ag]at h;cases hb:Nat.ble (off+sz) cells.length
  ·rw[hb]at h;simp at h
  ·rw[hb]at h;simp at h;subst h;exact⟨by rw[<-D.length];exact ay hb,⟨_,rfl,by simpa using D.cut off sz⟩⟩
theorem Q0u {t:TypeId} {cs:List AC} {off:Nat} {v:TV} {D:Array Value} (h:Ni P t cs off=some v) (N:CL (CC ρ w) cs D.toList):
  ∃x,(part t D off).run P w= .ok x w/\TVR ρ w v x:=by
 unfold Ni at h;split at h
 ·rename_i g sz L O;have M:=Qti h N;cases g
  ·obtain⟨x,S,G⟩:=M;refine⟨x,?_,G⟩;have I:D[off]? =some x:=by simpa using S
   simp[part,Oc L,I]
  ·obtain⟨hle,G⟩:=M;refine⟨_,?_,G⟩;simp only[part,Sem.run_bind,Oc L,cv,dq,DJ O,Sem.run_pure];congr 2;apply Array.ext';simp[cut]
 ·simp at h
end
open Go.RowKit
section
variable {P:Program} {ρ:Env} {w:World}
def E5 (P:Program) (ρ:Env) (w:World) (t:TypeId) (cs:List AC) (x:Value):Prop:=
 match Ck P t with
 |some true=>∃D:Array Value,x= .agg D/\CL (CC ρ w) cs D.toList
 |some false=>∃a,cs=[a]/\CC ρ w a x
 |none=>False
theorem Sc {t:TypeId} {n:Nat} {cs:List AC} {off:Nat} {I:Array Value} (O:szT P t=some n) (S:Ck P t≠none) (N:CL (CC ρ w) cs I.toList) (hle:off+n<=cs.length)
  (T:Ck P t=some false->n=1):∃x,(part t I off).run P w= .ok x w/\E5 P ρ w t (cut cs off n) x:=by
 cases D:Ck P t with
 |none=>exact absurd D S
 |some g=>
  cases g
  ·have L:=T D;subst L;have G:off<cs.length:=by omega
   obtain⟨x,U,V⟩:=N.get (al G);have M:I[off]? =some x:=by simpa using U
   refine⟨x,by simp[part,Oc D,M],?_⟩;unfold E5;rw[D];refine⟨cs[off],?_,V⟩;simp only[cut,ic G,List.take_succ_cons,List.take_zero]
  ·refine⟨.agg (I.extract off (off+n)),by simp[part,Oc D,DJ O],?_⟩;unfold E5;rw[D];refine⟨_,rfl,?_⟩;have:=N.cut off n;simpa [cut]using this
theorem Q1n {ok:List TypeId} {d D:Nat} {xs ys:List AC} {X Y:Array Value}
  (ih:∀(t:TypeId) (as bs:List AC) (r:Bool) (A B:Value),eqC P ok d t as bs=some r->E5 P ρ w t as A->E5 P ρ w t bs B->(Op.equalIn D t A B).run P w= .ok r w)
  (hX:CL (CC ρ w) xs X.toList) (hY:CL (CC ρ w) ys Y.toList):∀(fs:List Field) (r:Bool),
  IK (λf : Field => bif f.name == "_" then none else match szT P f.type with
    |some n=>bif(Nat.ble (f.offset+n) xs.length&&Nat.ble (f.offset+n) ys.length&&Ic P f.type n)then eqC P ok d f.type (cut xs f.offset n) (cut ys f.offset n)else none
    |none=>none) fs=some r->
  (Op.eqFields D X Y fs).run P w= .ok r w
 |[],r,h=>by simp[IK]at h;subst h;simp[Op.eqFields]
 |f::fs,r,h=>by
  simp only[IK]at h;split at h
  ·rename_i b hb;split at h
   ·rename_i b' hb';simp at h;subst h;have ht:=Q1n ih hX hY fs b' hb';cases hnm:f.name== "_"
    ·rw[hnm]at hb;simp only[aq]at hb;split at hb
     ·rename_i n hn;cases hle:(Nat.ble (f.offset+n) xs.length&&Nat.ble (f.offset+n) ys.length&&Ic P f.type n)
      ·rw[hle]at hb;simp at hb
      ·rw[hle]at hb;simp only[ag]at hb;simp only[ai]at hle;obtain⟨⟨h1,h2⟩,h3⟩:=hle;have h1':=ay h1;have h2':=ay h2;have hg:Ck P f.type≠none:=by intro e;simp[Ic,e]at h3
       have ho:Ck P f.type=some false->n=1:=by intro e;simp[Ic,e]at h3;exact h3
       obtain⟨A,hA,vA⟩:=Sc hn hg hX h1' ho;obtain⟨B,hB,vB⟩:=Sc hn hg hY h2' ho;have he:=ih f.type _ _ b A B hb vA vB;have hne:f.name≠ "_" :=by simpa using hnm
       simp only[Op.eqFields,hne,ne_eq,j5,dq,Sem.run_bind,hA,cv,hB,he];cases b
       ·simp
       ·simpa using ht
     ·simp at hb
    ·rw[hnm]at hb;simp at hb
   ·simp at h
  ·simp at h
theorem Qyf {ok:List TypeId} {d D e m:Nat} {xs I:List AC} {X Y:Array Value}
  (O:∀(t:TypeId) (as bs:List AC) (r:Bool) (A B:Value),eqC P ok d t as bs=some r->E5 P ρ w t as A->E5 P ρ w t bs B->(Op.equalIn D t A B).run P w= .ok r w)
  (S:CL (CC ρ w) xs X.toList) (T:CL (CC ρ w) I Y.toList) (L:szT P e=some m) (G:Ic P e m=true):∀(l:List Nat) (r:Bool),
  (∀i∈l,i*m+m<=xs.length/\i*m+m<=I.length)->
  IK (λi=>eqC P ok d e (cut xs (i*m) m) (cut I (i*m) m)) l=some r->
  ((forIn l ((none : Option Bool), PUnit.unit) λi _ => do
    let a<-part e X (i*m)
    let b<-part e Y (i*m)
    let q<-Op.equalIn D e a b
    if(!q)=true then pure (ForInStep.done (some false,PUnit.unit))else pure (ForInStep.yield (none,PUnit.unit)):Sem (Option Bool×PUnit))>>=λs=>match s.1 with
     |none=>pure true
     |some a=>pure a).run P w= .ok r w
 |[],r,_,h=>by simp[IK]at h;subst h;simp
 |i::l,r,M,h=>by
  simp only[IK]at h;split at h
  ·rename_i b hb;split at h
   ·rename_i b' N;simp at h;subst h;have U:=Qyf O S T L G l b' (λj hj=>M j (by simp[hj])) N;have V:Ck P e≠none:=by intro q;simp[Ic,q]at G
    have ho:Ck P e=some false->m=1:=by intro q;simp[Ic,q]at G;exact G
    obtain⟨A,hA,vA⟩:=Sc L V S (M i (by simp)).1 ho;obtain⟨B,hB,vB⟩:=Sc L V T (M i (by simp)).2 ho;have he:=O e _ _ b A B hb vA vB;rw[List.forIn_cons];simp only[Sem.run_bind,hA,cv,hB,he];cases b
    ·simp
    ·simp only[Sem.run_bind]at U;simpa using U
   ·simp at h
  ·simp at h
theorem Q0a {ok:List TypeId} (S:∀t∈ok,P.stoodInHeld t=false):∀(d D:Nat),d<=D->∀(t:TypeId) (as bs:List AC) (r:Bool) (A B:Value),
  eqC P ok d t as bs=some r->E5 P ρ w t as A->E5 P ρ w t bs B->(Op.equalIn D t A B).run P w= .ok r w
 |0,_,_,t,as,bs,r,A,B,h,_,_=>by simp[eqC]at h
 |d+1,0,hd,_,_,_,_,_,_,_,_,_=>by omega
 |d+1,D+1,hd,t,as,bs,r,A,B,h,I,vB=>by
  have ih:=Q0a S d D (by omega);simp only[eqC]at h;split at h
  ·rename_i G;have L:Ck P t=some false:=by simp[Ck,G]
   simp only[E5,L]at I vB;obtain⟨a,rfl,U⟩:=I;obtain⟨b,rfl,V⟩:=vB;split at h
   ·rename_i x y M N;simp at h M N;subst M N h;have e1:A= .bool x:=by simpa [CC,CP]using U
    have e2:B= .bool y:=by simpa [CC,CP]using V
    subst e1 e2;exact run_equalIn_bool' w D t x y G
   ·simp at h
  ·rename_i k0 G;have L:Ck P t=some false:=by simp[Ck,G]
   simp only[E5,L]at I vB;obtain⟨a,rfl,U⟩:=I;obtain⟨b,rfl,V⟩:=vB;split at h
   ·rename_i k x k' y M N;simp at M N;subst M N;cases hk:kEq k k'
    ·rw[hk]at h;simp at h
    ·rw[hk]at h;have:=O7 hk;subst this;simp at h;subst h;have e1:A= .int k x:=by simpa [CC,CP]using U
     have e2:B= .int k y:=by simpa [CC,CP]using V
     subst e1 e2;exact run_equalIn_int w D t k k0 x y G
   ·simp at h
  ·rename_i fs G;have L:Ck P t=some true:=by simp[Ck,G]
   simp only[E5,L]at I vB;obtain⟨X,rfl,hX⟩:=I;obtain⟨Y,rfl,hY⟩:=vB;cases O:ok.elem t
   ·rw[O]at h;simp at h
   ·rw[O]at h;simp only[ag]at h;have T:P.fieldsOf t=fs:=by simp[Program.fieldsOf,G]
    rw[run_equalIn_struct w D t X Y (by rw[T];exact G) (S t (by simpa using O)),T];exact Q1n ih hX hY fs.toList r h
  ·rename_i n e G;have L:Ck P t=some true:=by simp[Ck,G]
   simp only[E5,L]at I vB;obtain⟨X,rfl,hX⟩:=I;obtain⟨Y,rfl,hY⟩:=vB;split at h
   ·rename_i m hm;cases hle:(Nat.ble (n*m) as.length&&Nat.ble (n*m) bs.length&&Ic P e m)
    ·rw[hle]at h;simp at h
    ·rw[hle]at h;simp only[ag]at h;simp only[ai]at hle;obtain⟨⟨M,N⟩,h3⟩:=hle;have a2:=ay M;have a3:=ay N;have hr := Qyf (P := P) (ρ := ρ) (w := w) (D := D) (X := X) (Y := Y) ih hX hY hm h3 (List.range n) r (λi hi => by
      have a0:i<n:=by simpa using hi
      have:i*m+m<=n*m:=by
       calc i*m+m=(i+1)*m:=by rw[dk,gk]
        _<=n*m:=be _ a0
      omega) h
     simp only[Op.equalIn,Sem.run_bind,run_underlying G,cv,DJ hm];rw[Std.Legacy.Range.forIn_eq_forIn_range'];have a1:List.range' [:n].start [:n].size [:n].step=List.range n:=by
      simp[Std.Legacy.Range.size,List.range_eq_range']
     rw[a1];simp only[Sem.run_bind]at hr;rw[<-hr];congr 1
     funext a w'
     cases a.1<;>rfl
   ·simp at h
  ·simp at h
end
open Go.RowKit
section
variable {P:Program} {C:Cfg} {ρ:Env} {w:World} {R:Type}
theorem Rd {G:Operand->TV} {e:Operand->Value} (D:∀x,TVR ρ w (G x) (e x)):∀(l:List Operand),(BU G l).length=(l.map e).length/\
  ∀(i:Nat) (a:TV) (x:Value),(BU G l)[i]? =some a->(l.map e)[i]? =some x->TVR ρ w a x
 |[]=>⟨rfl,λi a x h=>by simp[BU]at h⟩
 |o::l=>⟨by simp[BU,(Rd D l).1],λi a x h h'=>by
   cases i with
   |zero=>simp[BU]at h h';subst h h';exact D o
   |succ i=>simp[BU]at h h';exact(Rd D l).2 i a x (by simpa using h) (by simpa using h')⟩
theorem Q6 {α:Type} (l:List α) (o:Nat):splice l o []=l:=by cases l<;>simp[splice]
theorem Lo {α:Type}:∀(l:List α) (o:Nat) (D:List α),(splice l o D).length=l.length
 |[],_,[]=>by simp[splice]
 |[],_,_::_=>by simp[splice]
 |_::_,_,[]=>by simp[splice]
 |_::l,0,v::D=>by simp[splice,Lo l 0 D]
 |_::l,o+1,v::D=>by simp[splice,Lo l o (v::D)]
theorem Qv8 {α:Type} (v:α) (D:List α):∀(l:List α) (o:Nat),o<l.length->splice (l.set o v) (o+1) D=splice l o (v::D)
 |[],o,h=>by simp at h
 |y::l,0,_=>by
  cases D with
  |nil=>simp[Q6,splice]
  |cons u I=>simp[splice]
 |y::l,o+1,h=>by
  have G:=Qv8 v D l o (by simpa using h);cases D with
  |nil=>simp only[Q6]at*;simp[splice,G]
  |cons u I=>simp only[List.set_cons_succ,splice];rw[G]
theorem Q6m (off:Nat):∀(D:List Value) (k:Nat) (xs:Array Value),off+k+D.length<=xs.size->
  ((D.zipIdx k).foldl (λcs (c,j)=>cs.setIfInBounds (off+j) c) xs).toList=splice xs.toList (off+k) D
 |[],k,xs,_=>by simp[Q6]
 |v::D,k,xs,h=>by
  simp only[List.zipIdx_cons,fh];rw[Q6m off D (k+1) _ (by simp at h⊢;omega),Array.toList_setIfInBounds,<-Qv8 v D xs.toList (off+k) (by simp at h⊢;omega),dm]
theorem Tc {place:Nat->Option (Nat×Nat)} {S:Operand->TV} {e:Operand->Value} (D:∀x,TVR ρ w (S x) (e x)):∀(parts:List (Nat×Operand)) (z cs:List AC) (xs:Array Value),
  CL (CC ρ w) z xs.toList->Gc place z (Ff S parts)=some cs->
  ∃G:Array Value,Instr.fill place xs (parts.map λp=>(p.1,e p.2))=some G/\CL (CC ρ w) cs G.toList/\G.size=xs.size
 |[],z,cs,xs,N,h=>by simp[Ff,Gc]at h;subst h;exact⟨xs,rfl,N,rfl⟩
 |(i,o)::parts,z,cs,xs,N,h=>by
  simp only[Ff,Gc]at h;split at h
  ·rename_i off size l T U;have I:=(D o).cells U;cases hb:(Nat.beq l.length size&&Nat.ble (off+size) z.length)
   ·rw[hb]at h;simp at h
   ·rw[hb]at h;simp only[ag]at h;simp only[ai]at hb;have e1:l.length=size:=ac hb.1;have e2:=ay hb.2;have e3:=I.length;have V:=N.length;have L:(e o).cells.size=size:=by rw[<-e1,e3];simp
    have e5:off+(e o).cells.size<=xs.size:=by rw[L,<-dw,<-V];exact e2
    have O:=Q6m off (e o).cells.toList 0 xs (by simp;omega);have M:((e o).cells.zipIdx.foldl (λcs (c,j)=>cs.setIfInBounds (off+j) c) xs).toList=splice xs.toList (off+0) (e o).cells.toList:=by
     rw[<-Array.foldl_toList,Array.toList_zipIdx];exact O
    obtain⟨G,X,Y,h3⟩:=Tc D parts _ _ _ (by rw[M];exact N.splice _ I) h;refine⟨G,?_,Y,?_⟩
    ·simp only[ba,Instr.fill,T];rw[aa (by simp only[jt,cq,not_or];exact⟨λhh=>hh L,by omega⟩)];exact X
    ·rw[h3,<-dw,M,Lo,dw]
  ·simp at h
theorem Z5b {α β:Type} (g:α->β) (l:List α) (o m:Nat):cut (l.map g) o m=(cut l o m).map g:=by simp[cut]
theorem Q0g {ks:List Kd}:∀(n:Nat) (cs:List AC) (l:List (List AC)) (xs:List Value),Hp ks n cs=some l->CL (CC ρ w) cs xs->l.length=n/\xs.length=n*ks.length->RowC ρ.im w ks l xs
 |0,cs,l,xs,h,L,G=>by
  cases cs with
  |nil=>
   simp[Hp]at h;subst h;exact⟨by simpa using G.2,by simp,λi c I=>by simp at I⟩
  |cons=>simp[Hp]at h
 |n+1,cs,l,xs,h,L,G=>by
  simp only[Hp]at h;split at h
  ·rename_i c M;split at h
   ·rename_i U N;simp at h;subst h;have S:=RQ M (L.take ks.length);have O:xs.length=n*ks.length+ks.length:=by rw[G.2,dk,gk]
    have T:=Q0g n _ U (xs.drop ks.length) N (L.drop ks.length) ⟨by simpa using G.1,by simp[O]⟩;refine⟨by rw[G.2];simp at G⊢;rw[G.1],?_,?_⟩
    ·intro c' D;simp only[ax]at D;rcases D with rfl|D
     ·exact S.2
     ·exact T.2.1 c' D
    ·intro i c' I;cases i with
     |zero=>simp at I;subst I;simpa [cut]using S.1
     |succ i=>
      have:=T.2.2 i c' (by simpa using I);have e:cut (xs.drop ks.length) (i*ks.length) ks.length=cut xs ((i+1)*ks.length) ks.length:=by
       simp only[cut,ji];rw[dk,gk,jx]
      rw[<-e];exact this
   ·simp at h
  ·simp at h
theorem Qz3 {ks:List Kd}:∀(n:Nat) (cs:List AC) (l:List (List AC)),Hp ks n cs=some l->l.length=n
 |0,[],l,h=>by simp[Hp]at h;subst h;rfl
 |0,_::_,l,h=>by simp[Hp]at h
 |n+1,cs,l,h=>by
  simp only[Hp]at h;split at h
  ·split at h
   ·rename_i G D;simp at h;subst h;simp[Qz3 n _ G D]
   ·simp at h
  ·simp at h
theorem Q2m {z:List AC} {v:List Value} (D:CL (CC ρ w) z v):∀n,CL (CC ρ w) (chunk z n) ((List.replicate n v).flatten)
 |0=>trivial
 |n+1=>by rw[chunk,List.replicate_succ,List.flatten_cons];exact D.append (Q2m D n)
theorem Q5p (v:List Value) (I:0<v.length):∀(n j:Nat),j<n*v.length->(List.replicate n v).flatten[j]? =v[j%v.length]?
 |0,j,h=>by simp at h
 |n+1,j,h=>by
  rw[List.replicate_succ,List.flatten_cons,fy];split
  ·rename_i G;rw[Nat.mod_eq_of_lt G]
  ·rename_i L;have D:v.length<=j:=by omega
   rw[Q5p v I n (j-v.length) (by rw[dk]at h;omega),Nat.mod_eq_sub_mod D]
def YA (e:Operand->Value):Option Operand->Option Int->Prop
 |none,none=>True
 |some x,some n=>∃k,e x= .int k n
 |_,_=>False
theorem Zal {G:Operand->TV} {e:Operand->Value} (I:∀x,TVR ρ w (G x) (e x)) {o:Option Operand} {i:Option Int} (h:Kn G o=some i):
  YA e o i:=by
 cases o with
 |none=>simp[Kn]at h;subst h;trivial
 |some x=>
  simp only[Kn]at h;split at h
  ·rename_i n D;simp at h;subst h;have L:=I x
   revert D L
   generalize G x=t;intro D L;unfold TV.int? at D;split at D
   ·rename_i k m;simp at D;subst D;exact⟨k,L.int⟩
   ·simp at D
  ·simp at h
theorem Qq {t:TV} {x:Value} {n:Int} (h:t.int? =some n) (D:TVR ρ w t x):∃k,x= .int k n:=by
 unfold TV.int? at h;split at h
 ·rename_i k m;simp at h;subst h;exact⟨k,D.int⟩
 ·simp at h
theorem RC {e:Operand->Value} {o:Oper} {c:Call} {f:FuncId} (D:o.op= .call c) (G:c.callee= .value (.func f)) (hf:e (.func f)= .func (.func f) #[] #[]):
  execOp e o=callFunc f (c.args.toList.map e).toArray:=by
 unfold execOp;simp only[D,resolve,G,hf,Deferred.ofValue,pure_bind];simp only[invoke,Array.append_empty,Array.empty_append];rw[<-iu]
theorem Zxn {e:Operand->Value} {o:Oper} {c:Call} {f:FuncId} {t:Tmp} {xs D:Array Value} (G:o.op= .call c) (I:c.callee= .value (.tmp t)) (hf:e (.tmp t)= .func (.func f) xs D):
  execOp e o=callFunc f (xs.toList++(c.args.toList.map e++D.toList)).toArray:=by
 unfold execOp;simp only[G,resolve,I,hf,Deferred.ofValue,pure_bind];simp only[invoke];congr 1;apply Array.ext';simp
theorem Zvj {e:Operand->Value} {o:Oper} {c:Call} {b:Builtin} (D:o.op= .call c) (G:c.callee= .builtin b):
  ∃cs,execOp e o=builtin b c.argTypes o.type cs (c.args.map e):=by
 unfold execOp;simp only[D,resolve,G];exact⟨_,rfl⟩
theorem Qbz (I:Value->Value->Sem Value) (g:Int->Int->Int) (D:∀k a k' b w,(I (.int k a) (.int k' b)).run P w= .ok (.int k (g a b)) w) (k:IntKind):
  ∀(l:List TV) (xs:List Value) (a:Int) (Kp:Prim->Option R) (r:R),l.length=xs.length->(∀(i:Nat) (t:TV) (x:Value),l[i]? =some t->xs[i]? =some x->TVR ρ w t x)->EP g k a l Kp=some r->
  ∃n,Kp (.val (.c (.int k n)))=some r/\(xs.foldlM I (.int k a)).run P w= .ok (.int k n) w
 |[],[],a,Kp,r,_,_,h=>by simp[EP]at h;exact⟨a,h,by simp⟩
 |[],_::_,_,_,_,G,_,_=>by simp at G
 |_::_,[],_,_,_,G,_,_=>by simp at G
 |t::l,x::xs,a,Kp,r,G,N,h=>by
  unfold EP at h;split at h
  ·rename_i k' b;cases O:kEq k k'
   ·rw[O]at h;simp at h
   ·rw[O]at h;simp only[ag]at h;have S:x= .int k' b:=(N 0 _ x rfl rfl).int;subst S;obtain⟨n,L,M⟩:=Qbz I g D k l xs (g a b) _ r (by simpa using G) (λi t x L M=>N (i+1) t x (by simpa using L) (by simpa using M)) h;exact⟨n,L,by rw[List.foldlM_cons];simp only[Sem.run_bind,D,cv,M]⟩
  ·simp at h
theorem Zld {b:Builtin} {S:List TypeId} {args:List TV} {xs:List Value} {ty:TypeId} {cs:Array Bool} {Kp:Prim->Option R} {r:R}
  (I:args.length=xs.length) (M:∀(i:Nat) (t:TV) (x:Value),args[i]? =some t->xs[i]? =some x->TVR ρ w t x)
  (h:Jt P b S args Kp=some r) {e:Operand->Value} {o:Oper} (he:execOp e o=builtin b S.toArray ty cs xs.toArray):
  ∃p,Kp p=some r/\Jb P ρ w e o p:=by
 unfold Jt at h;split at h
 ·rename_i ks l
  match xs,I with
  |[x],_=>
   have D:=(M 0 _ x rfl rfl).c;simp only[CC,CP]at D;obtain⟨ad,cap,rfl,_⟩:=D;split at h
   ·rename_i t G;split at h
    ·rename_i T L;refine⟨_,h, .int .i64 l.length,?_,TVR.mkInt _ _⟩;rw[he];simp[builtin,Builtin.len_,run_underlying L,goInt]
    ·simp at h
   ·simp at h
 ·rename_i id wd n
  match xs,I with
  |[x],_=>
   have D:=(M 0 _ x rfl rfl).c;obtain⟨_,_,D⟩:=D;split at h
   ·rename_i t G;split at h
    ·rename_i T L;refine⟨_,h, .int .i64 n,?_,TVR.mkInt _ _⟩;rw[he];rcases D with⟨rfl,rfl⟩|⟨g,o',c,rfl⟩
     ·simp[builtin,Builtin.len_,run_underlying L,goInt]
     ·simp[builtin,Builtin.len_,run_underlying L,goInt]
    ·simp at h
   ·simp at h
 ·rename_i key n
  match xs,I with
  |[x],_=>
   have D:=(M 0 _ x rfl rfl).c;simp only[CC]at D;subst D;split at h
   ·rename_i t G;split at h
    ·rename_i T L;refine⟨_,h, .int .i64 n,?_,TVR.mkInt _ _⟩;rw[he];simp[builtin,Builtin.len_,run_underlying L,goInt]
    ·simp at h
   ·simp at h
 ·match xs,I with
  |[x],_=>
   have D:=(M 0 _ x rfl rfl).c;simp only[CC,CP]at D;subst D;split at h
   ·rename_i t G;split at h
    ·rename_i T L;refine⟨_,h, .int .i64 0,?_,TVR.mkInt _ _⟩;rw[he];simp[builtin,Builtin.len_,run_underlying L,goInt]
    ·simp at h
   ·simp at h
 ·rename_i l
  match xs,I with
  |[x],_=>
   obtain⟨ys,rfl,_⟩:=(M 0 _ x rfl rfl).agg;split at h
   ·rename_i t G;split at h
    ·rename_i n T L;refine⟨_,h, .int .i64 n,?_,TVR.mkInt _ _⟩;rw[he];simp[builtin,Builtin.len_,run_underlying L,goInt]
    ·simp at h
   ·simp at h
 ·rename_i k a rest
  match xs,I with
  |x::xs,I=>
   have D:x= .int k a:=(M 0 _ x rfl rfl).int;subst D;obtain⟨n,N,O⟩:=Qbz (P:=P) (ρ:=ρ) (w:=w) Builtin.min2 mn (λk a k' b w=>by simp[Builtin.min2,mn]) k rest xs a Kp r (by simpa using I) (λi t x N O=>M (i+1) t x (by simpa using N) (by simpa using O)) h;refine⟨_,N, .int k n,?_,TVR.mkInt _ _⟩;rw[he];simp[builtin,Builtin.min_,O]
 ·rename_i k a rest
  match xs,I with
  |x::xs,I=>
   have D:x= .int k a:=(M 0 _ x rfl rfl).int;subst D;obtain⟨n,N,O⟩:=Qbz (P:=P) (ρ:=ρ) (w:=w) Builtin.max2 mx (λk a k' b w=>by simp[Builtin.max2,mx]) k rest xs a Kp r (by simpa using I) (λi t x N O=>M (i+1) t x (by simpa using N) (by simpa using O)) h;refine⟨_,N, .int k n,?_,TVR.mkInt _ _⟩;rw[he];simp[builtin,Builtin.max_,O]
 ·rename_i s x'
  match xs,I with
  |[x,y],_=>
   have D:=(M 0 _ x rfl rfl).c;have U:=(M 1 _ y rfl rfl).c;split at h
   ·rename_i t u;split at h
    ·rename_i el V L X;split at h
     ·rename_i i ks Y a0;split at h
      ·rename_i z hz;cases hb:(Nat.beq t u&&Nat.beq z.cells.size i.size&&Nat.beq ks.length i.size)<;>rw[hb]at h
       ·simp at h
       ·simp only[ag]at h;simp only[ai]at hb;have e1:=ac hb.1.1;have e2:=ac hb.1.2;have e3:=ac hb.2;subst e1;refine⟨_,h,t,ty,i,z,x,y,L,Y,hz,e3.symm,rfl,by rw[e3];exact e2,D,U,?_⟩;rw[he];simp[builtin]
      ·simp at h
     ·simp at h
    ·simp at h
   ·simp at h
 ·simp at h
end
open Go.RowKit
section
variable {P:Program} {C:Cfg} {ρ:Env} {w:World} {R:Type}
theorem Qw3 {α β:Type} (g:α->Sem β) (s:α->β):∀(l:List α) (w:World),(∀x∈l,(g x).run P w= .ok (s x) w)->(l.mapM g).run P w= .ok (l.map s) w
 |[],w,_=>by simp
 |x::l,w,h=>by
  rw[List.mapM_cons];simp only[Sem.run_bind,h x (by simp),cv,Qw3 g s l w (λy D=>h y (by simp[D])),Sem.run_pure,ba]
theorem Zk1 {fs:Array Field} (h:Ak (Ls P) fs.toList=true) (w:World):
  (fs.mapM λf:Field=>(do let n<-sizeOf f.type;pure (f.offset,n):Sem (Nat×Nat))).run P w= .ok (fs.map λf=>(f.offset,(szT P f.type).getD 0)) w:=by
 rw[Array.mapM_eq_mapM_toList];have := Qw3 (P := P) (λf : Field => (do let n <- sizeOf f.type; pure (f.offset, n) : Sem (Nat × Nat))) (λf => (f.offset, (szT P f.type).getD 0)) fs.toList w (λf hf => by
  have D:=Au.1 h f hf;unfold Ls at D;split at D
  ·rename_i n G;simp[DJ G,G]
  ·simp at D)
 simp only[Sem.run_map,this,cv];congr 1;apply Array.ext';simp
theorem Z8u {fs:Array Field} (h:Ak (Ls P) fs.toList=true):
  WG P fs.toList=λi:Nat=>(fs.map λf=>(f.offset,(szT P f.type).getD 0))[i]? :=by
 funext i
 rw[Array.getElem?_map,<-Array.getElem?_toList,WG];cases hf:fs.toList[i]? with
 |none=>rfl
 |some f=>
  have D:=Au.1 h f (bj hf);unfold Ls at D;cases G:szT P f.type with
  |none=>rw[G]at D;simp at D
  |some n=>simp[G]
def Ra (w:World) (b o:Nat) (D:List Value):Prop:=∀(j:Nat) (y:Value),D[j]? =some y->w.cell? ⟨b,o+j,none⟩=some y
theorem Qmj {im:Nat->Prop}:∀(cs:List AC) (b o:Nat),CPs im w cs b o->∃D,CL (CP im w) cs D/\Ra w b o D
 |[],b,o,_=>⟨[],trivial,λj y h=>by simp at h⟩
 |c::cs,b,o,h=>by
  rw[CPs]at h;obtain⟨⟨y,I,L⟩,M⟩:=h;obtain⟨D,N,O⟩:=Qmj cs b (o+1) M;refine⟨y::D,⟨L,N⟩,λj z G=> ?_⟩;cases j with
  |zero=>simp at G;subst G;exact I
  |succ j=>have:=O j z (by simpa using G);rwa [show o+(j+1)=o+1+j from by omega]
theorem Vp {im:Nat->Prop}:∀(cs:List AC) (D:List Value) (b o:Nat),CL (CP im w) cs D->Ra w b o D->CPs im w cs b o
 |[],[],b,o,_,_=>by simp[CPs]
 |c::cs,y::D,b,o,h,G=>by
  rw[CPs];exact⟨⟨y,G 0 y rfl,h.1⟩,Vp cs D b (o+1) h.2 λj z I=>by
   have:=G (j+1) z (by simpa using I)
   rwa [show o+1+j=o+(j+1)from by omega]⟩
 |[],_::_,_,_,h,_=>h.elim
 |_::_,[],_,_,h,_=>h.elim
theorem UY {t:TypeId} {g:Bool} {sz:Nat} {cells:List AC} {sub b o:Nat} {v:TV} {G:List Value} (L:Ck P t=some g) (O:szT P t=some sz)
  (h:CJ g sz cells sub=some v) (S:CL (CC ρ w) cells G) (M:Ra w b o G):
  ∃x,(loadVar t ⟨b,o+sub,none⟩).run P w= .ok x w/\TVR ρ w v x:=by
 have N:=Qti h S;cases g
 ·obtain⟨x,T,I⟩:=N;refine⟨x,?_,I⟩;simp[loadVar,Oc L,M sub x T]
 ·obtain⟨hle,I⟩:=N;refine⟨_,?_,I⟩;have U:(cut G sub sz).length=sz:=by simp[cut];omega
  have := run_loadCells_list (P := P) w ⟨b, o + sub, none⟩ (cut G sub sz) (λj y D => by
   rw[Addr.add_lit];rw[show o+sub+j=o+(sub+j)from by omega];refine M (sub+j) y ?_;simp only[cut,fv]at D;split at D
   ·rw[ee]at D;exact D
   ·simp at D)
  rw[U]at this;simp[loadVar,Oc L,DJ O,this]
theorem Xm {e:Operand->Value} {o:Oper} {t:TypeId} {x:Operand} {lo S:Option Operand} {el:TypeId} {m n cap:Nat} {X:Option Addr} {D I:Option Int} {l hh':Int}
  (ho:o.op= .slice t x lo S none) (hu:P.underlying t=some (.slice el)) (T:szT P el=some m) (hc:e x= .slice X n cap) (a0:n<=cap)
  (G:YA e lo D) (L:YA e S I)
  (M:D.getD 0=l) (U:I.getD (n:Int)=hh') (d1:0<=l) (d2:l<=hh') (d3:hh'<=(n:Int)):
  (execOp e o).run P w= .ok (.value (.slice (if cap=l.toNat then X else X.map (·.add (l.toNat*m))) (hh'.toNat-l.toNat) (cap-l.toNat))) w:=by
 simp only[execOp,ho,Instr.sliceAt,Sem.run_bind,run_underlying hu,cv,hc,Option.map_none,Instr.slice,Instr.sliceBounds,Sem.run_pure,dq,Option.isSome_none,dl,gq];have hH:∀y,S=some y->∃k,e y= .int k hh':=by
  rintro y rfl;cases I with
  |none=>exact L.elim
  |some q=>simp at U;subst U;exact L
 have hL:∀y,lo=some y->∃k,e y= .int k l:=by
  rintro y rfl;cases D with
  |none=>exact G.elim
  |some q=>simp at M;subst M;exact G
 cases S with
 |none=>
  have N:I=none:=by cases I with
   |none=>rfl
   |some _=>exact L.elim
  subst N;simp at U;subst U;cases lo with
  |none=>
   have N:D=none:=by cases D with
    |none=>rfl
    |some _=>exact G.elim
   subst N;simp at M;subst M;simp[DJ T]
  |some y=>
   obtain⟨k,Y⟩:=hL y rfl;have V:l<=(n:Int):=d2;simp[DJ T,Y,Instr.sliceBound,asIntOf,d1,V]
 |some z=>
  obtain⟨k',O⟩:=hH z rfl;have q1:0<=hh':=by omega
  have V:hh'<=(cap:Int):=by omega
  cases lo with
  |none=>
   have N:D=none:=by cases D with
    |none=>rfl
    |some _=>exact G.elim
   subst N;simp at M;subst M;simp[DJ T,O,Instr.sliceBound,asIntOf,q1,V]
  |some y=>
   obtain⟨k,Y⟩:=hL y rfl;simp[DJ T,Y,O,Instr.sliceBound,asIntOf,d1,q1,V];intro q4;omega
theorem Z08 {im:Nat->Prop} {ks:List Kd} {l:List (List AC)} {G:Option Addr} {cap a b:Nat} (T:a<=b) (hb:b<=l.length)
  (h:CP im w (.vC ks l) (.slice G l.length cap)):CP im w (.vC ks ((l.take b).drop a)) (.slice (if cap=a then G else G.map (·.add (a*ks.length))) (b-a) (cap-a)):=by
 rw[CP]at h⊢;obtain⟨U,M,he,hle,V,hf⟩:=h;simp only[Value.slice.injEq,true_and]at he;obtain⟨rfl,rfl⟩:=he;have hlen:((l.take b).drop a).length=b-a:=by simp;omega
 refine⟨_,_,by rw[hlen],by rw[hlen];omega,λc X=>V c (fd (dx X)),?_⟩;by_cases N:(l.take b).drop a=[]
 ·exact .inl N
 ·right;have D:0<((l.take b).drop a).length:=List.length_pos_iff.2 N;rw[hlen]at D;rcases hf with hf|⟨b',o,rfl,I,L⟩
  ·subst hf;simp at hb;omega
  ·refine⟨b',o+a*ks.length,?_,I,SA λi O=> ?_⟩
   ·rw[aa];simp[Addr.add_lit]
   ·rw[hlen]at O;have S:=ZJ L (a+i) (by omega);have e:((l.take b).drop a)[i]'(by rw[hlen];exact O)=l[a+i]'(by omega):=by simp
    rw[e];refine⟨S.1,?_⟩;have:=S.2;rw[dk,<-dm]at this;exact this
theorem Qks:∀{D:List TV} {as:List AC},Jh D=some as->∀{xs:List Value},D.length=xs.length->(∀(i:Nat) (v:TV) (x:Value),D[i]? =some v->xs[i]? =some x->TVR ρ w v x)->CLc ρ w as xs
 |[],as,h,xs,G,_=>by
  simp[Jh]at h;subst h;cases xs with
  |nil=>trivial
  |cons=>simp at G
 |v::D,as,h,xs,G,M=>by
  cases xs with
  |nil=>simp at G
  |cons x xs=>
   have N:=M 0 v x rfl rfl;unfold Jh at h;split at h
   ·simp at*
   ·rename_i a l heq;simp only[d7]at heq;obtain⟨rfl,rfl⟩:=heq;cases I:a.clOk<;>rw[I]at h
    ·simp at h
    ·simp only[ag]at h;split at h
     ·rename_i r L;simp at h;subst h;refine⟨?_,Qks L (by simpa using G) λi v x O S=>M (i+1) v x (by simpa using O) (by simpa using S)⟩;have T:=N.c;cases a<;>simp only[AC.clOk]at I<;>first|(simp at I;done)|exact T
     ·simp at h
   ·simp at h
theorem Y9:∀{as:List AC} {xs:List Value},CLc ρ w as xs->(as.map TV.c).length=xs.length/\∀(i:Nat) (v:TV) (x:Value),(as.map TV.c)[i]? =some v->xs[i]? =some x->TVR ρ w v x
 |[],[],_=>⟨rfl,λi v x h=>by simp at h⟩
 |a::as,x::xs,h=>by
  obtain⟨I,L⟩:=Y9 h.2;refine⟨by simpa using I,λi v y D G=> ?_⟩;cases i with
  |zero=>
   simp at D G;subst D;subst G;have:=h.1;cases a<;>first|exact TVR.c' this|(exact TVR.c' (Ix this))|(simp[CCc,CP]at this)
  |succ i=>exact L i v y (by simpa using D) (by simpa using G)
 |[],_::_,h=>h.elim
 |_::_,[],h=>h.elim
theorem Q08 {a b:List TV} {xs I:List Value} (L:a.length=xs.length/\∀(i:Nat) (v:TV) (x:Value),a[i]? =some v->xs[i]? =some x->TVR ρ w v x)
  (M:b.length=I.length/\∀(i:Nat) (v:TV) (x:Value),b[i]? =some v->I[i]? =some x->TVR ρ w v x):
  (a++b).length=(xs++I).length/\∀(i:Nat) (v:TV) (x:Value),(a++b)[i]? =some v->(xs++I)[i]? =some x->TVR ρ w v x:=by
 refine⟨by simp[L.1,M.1],λi v x D G=> ?_⟩;rw[fy]at D G;by_cases N:i<a.length
 ·rw[ab N]at D;rw[ab]at G;exact L.2 i v x D G
 ·rw[aa N]at D;rw[aa]at G;rw[L.1]at D;exact M.2 _ v x D G
theorem Zd6 (g1:∀t∈C.eqOk,P.stoodInHeld t=false) {ev:Operand->TV} {e:Operand->Value} (I:∀x,TVR ρ w (ev x) (e x))
  (d5:∀f,e (.func f)= .func (.func f) #[] #[]) (o:Oper) {Kp:Prim->Option R} {r:R} (h:opK P C ev o.dst o.op Kp=some r):
  ∃p,Kp p=some r/\Jb P ρ w e o p:=by
 obtain⟨dst,op,type,pos,after,guard⟩:=o;have hx:∀(e4:Op) (v:TV) (x:Value),op=e4->((execOp e ⟨dst,e4,type,pos,after,guard⟩).run P w= .ok (.value x) w)->TVR ρ w v x->Jb P ρ w e ⟨dst,op,type,pos,after,guard⟩ (.val v):=by
  rintro _ v x rfl S T;exact⟨x,S,T⟩
 cases op<;>simp only[opK]at h<;>try (simp at h;done)
 case move x=>exact⟨_,h,e x,by simp[execOp],I x⟩
 case assign x=>exact⟨_,h,e x,by simp[execOp],I x⟩
 case pick c a b=>
  split at h
  ·rename_i g L;have b7:e c= .bool g:=by have:=I c;rw[L]at this;exact this.bool
   cases g
   ·simp only[aq]at h;exact⟨_,h,e b,by simp[execOp,b7,asBool],I b⟩
   ·simp only[ag]at h;exact⟨_,h,e a,by simp[execOp,b7,asBool],I a⟩
  ·simp at h
 case alloc t=>
  split at h
  ·rename_i cs hz;obtain⟨v,G,L⟩:=TT (ρ:=ρ) (w:=w) hz;refine⟨_,h,v.cells,L,?_⟩;simp[execOp,Instr.alloc,G,newVar,newRow]
  ·simp at h
 case box t x=>
  split at h
  ·rename_i cs L;exact⟨_,h,(e x).cells,(I x).cells L,by simp[execOp,Instr.box,newVar,newRow]⟩
  ·simp at h
 case build t parts=>
  split at h
  ·rename_i z fs hz N;obtain⟨v,G,L⟩:=TT (ρ:=ρ) (w:=w) hz;cases a9:(Ak (Ls P) fs.toList)<;>rw[a9]at h
   ·simp at h
   ·simp only[ag]at h;split at h
    ·rename_i cs hb;rw[Z8u a9]at hb;obtain⟨U,S,T,_⟩:=Tc I _ _ _ _ L hb;refine⟨_,h, .agg U,?_,⟨U,rfl,T⟩⟩;have g2:=Zk1 (P:=P) a9 w;simp only[execOp,Instr.build,Sem.run_bind,G,cv,run_underlying N,g2,iu];rw[S];simp
    ·simp at h
  ·rename_i z n el hz N;obtain⟨v,G,L⟩:=TT (ρ:=ρ) (w:=w) hz;split at h
   ·rename_i m hm;split at h
    ·rename_i cs hb;obtain⟨U,S,T,_⟩:=Tc I _ _ _ _ L hb;refine⟨_,h, .agg U,?_,⟨U,rfl,T⟩⟩;simp only[execOp,Instr.build,Sem.run_bind,G,cv,run_underlying N,DJ hm,iu];rw[S];simp
    ·simp at h
   ·simp at h
  ·simp at h
 case buildSlice t n parts=>
  split at h
  ·rename_i el N;split at h
   ·rename_i m z ks hm hz g3;obtain⟨v,G,L⟩:=TT (ρ:=ρ) (w:=w) hz;cases hb:(Nat.beq z.length m&&Nat.beq ks.length m&&Nat.ble 1 m&&Nat.ble (n*m) 65536)<;>rw[hb]at h
    ·simp at h
    ·simp only[ag]at h;simp only[ai]at hb;have e1:=ac hb.1.1.1;have ek:=ac hb.1.1.2;have e2:=ay hb.1.2;have e3:=ay hb.2;split at h
     ·rename_i cs g4;have a5:∃U:Array Value,CL (CC ρ w) cs U.toList/\U.toList.length=n*m/\(execOp e ⟨dst, .buildSlice t n parts,type,pos,after,guard⟩).run P w= .ok (.value (.slice (some ⟨w.heap.size,0,none⟩) n n)) (w.alloc (.cells U el)):=by
       have b8:v.cells.toList.length=m:=by rw[<-L.length];exact e1
       have g5:((Array.range (n*m)).map λi=>(if n*m=0 then #[]else v.cells)[i%(if n*m=0 then(#[]:Array Value)else v.cells).size]!).toList=(List.replicate n v.cells.toList).flatten:=by
        by_cases hn:n*m=0
        ·have:n=0:=by
          rcases Nat.mul_eq_zero.1 hn with h0|h0
          ·exact h0
          ·omega
         subst this;simp
        ·simp only[hn,gq];apply ig;intro j;by_cases hj:j<n*m
         ·rw[Q5p _ (by omega) n j (by rw[b8];exact hj),b8];have hs:v.cells.size=m:=by rw[<-b8];simp
          have V:j%m<v.cells.size:=by rw[hs];exact gw _ (by omega)
          simp[hj,hs];rw[getElem!_pos v.cells (j%m) V,ja V]
         ·have e5:v.cells.size=m:=by rw[<-b8];simp
          rw[db (by simp;omega),db (by simp[e5];omega)]
       have e6:=Q2m L n;rw[<-g5]at e6;obtain⟨U,S,T,h3⟩:=Tc I _ _ _ _ e6 g4;have c7:U.toList.length=n*m:=by rw[dw,h3];simp
       refine⟨U,T,c7,?_⟩;have b0: ¬(n*m>2^24):=by omega
       simp only[execOp,Instr.buildSlice,Sem.run_bind,run_underlying N,cv,DJ hm,b0,gq,Sem.run_pure,iu];by_cases hn:n*m=0
       ·simp only[hn,dq]at S;simp only[hn,dq,Sem.run_bind,Sem.run_pure,cv];rw[S];simp[newRow]
       ·simp only[hn,gq]at S;simp only[hn,gq,Sem.run_bind,G,Sem.run_pure,cv];rw[S];simp[newRow]
      obtain⟨U,T,c7,a5⟩:=a5;split at h
      ·rename_i l e7;have b9:=Qz3 _ _ _ e7;have key:∃arr:Array Value,0<ks.length/\l.length<=maxLen/\RowC ρ.im w ks l arr.toList/\
         (execOp e ⟨dst, .buildSlice t n parts,type,pos,after,guard⟩).run P w= .ok (.value (.slice (some ⟨w.heap.size,0,none⟩) l.length l.length)) (w.alloc (.cells arr el)):=by
        rw[b9];refine⟨U,by omega,?_,?_,a5⟩
        ·have:n<=n*m:=je n (by omega);simp only[maxLen];omega
        ·exact Q0g n cs l _ e7 T ⟨b9,by rw[ek];exact c7⟩
       cases b7:Sr C dst n<;>rw[b7]at h
       ·exact⟨_,h,key⟩
       ·exact⟨_,h,key⟩
      ·cases a0:(Ak AC.isClo cs&&Nat.beq m 1)<;>rw[a0]at h
       ·simp at h
       ·simp only[ag]at h;simp only[ai]at a0;exact⟨_,h,U,T,a5⟩
     ·simp at h
   ·simp at h
  ·simp at h
 case makeSlice t len cap=>
  split at h
  ·rename_i el n c N b9 b1;obtain⟨kl,g6⟩:=Qq b9 (I len);obtain⟨kc,g7⟩:=Qq b1 (I cap);split at h
   ·rename_i i z ks hi hz g3;split at h
    ·rename_i z' g8;cases hb:(Nat.beq ks.length i.size&&Nat.ble 1 i.size&&Nat.ble 1 i.bytes)<;>rw[hb]at h
     ·simp at h
     ·simp only[ag]at h;simp only[ai]at hb;have e1:=ac hb.1.1;have e2:=ay hb.1.2;have e3:=ay hb.2;cases M:decide (n=c)<;>rw[M]at h
      ·simp at h
      ·simp only[ag]at h;have c8:n=c:=by simpa using M
       subst c8;unfold I9 at hz;rw[hi]at hz;dsimp only at hz;split at hz
       ·rename_i zv g9;have a0:CL (CC ρ w) z zv.cells.toList:=TA _ hz;obtain⟨f1,f2⟩:=RQ g8 a0;refine⟨_,h,t,i,zv,kl,kc,N,hi,g9,e1.symm,rfl,by omega,e3,f2,f1,?_⟩;simp[execOp,g6,g7]
       ·simp at hz
    ·simp at h
   ·simp at h
  ·simp at h
 case makeFunc fn first captured=>
  split at h
  ·rename_i f;split at h
   ·rename_i fs cs b2 a1;have ha:=Rd I first.toList;have hb:=Rd I captured.toList;refine⟨_,h, .func (.func f) (first.map e) (captured.map e),by simp[execOp,Instr.makeFunc],TVR.c' ⟨_,_,rfl,?_,?_⟩⟩
    ·rw[iu];exact Qks b2 ha.1 ha.2
    ·rw[iu];exact Qks a1 hb.1 hb.2
   ·simp at h
  ·simp at h
 case load t a=>
  split at h
  ·rename_i g sz hg hs;have ha:=I a;split at h
   ·rename_i key off D;rw[D]at ha;have G:=ha.c;simp only[CC]at G;refine⟨_,h,t,hg,hs,?_⟩;simp[execOp,Instr.loadAt,G,Instr.sureAddr]
   ·rename_i cells sub D;rw[D]at ha;obtain⟨b,o,G,c0,a1⟩:=ha.c;split at h
    ·rename_i v h6;obtain⟨U,a7,a8⟩:=Qmj cells b o a1;obtain⟨x,h7,h8⟩:=UY hg hs h6 (a7.mono λ_ _ _ hh=>Ix hh) a8;refine⟨_,h,x,?_,h8⟩;simp[execOp,Instr.loadAt,G,Instr.sureAddr,h7]
    ·simp at h
   ·rename_i id idx sub D;rw[D]at ha;obtain⟨g',a6,G⟩:=ha.c;refine⟨_,h,t,g',hg,hs,a6,?_⟩;simp[execOp,Instr.loadAt,G,Instr.sureAddr]
   ·simp at h
  ·simp at h
 case store t a x=>
  split at h
  ·rename_i sz cs hs a1;cases hb:Nat.beq cs.length sz<;>rw[hb]at h
   ·simp at h
   ·simp only[ag]at h;have e1:=ac hb;subst e1;have ha:=I a;split at h
    ·rename_i key off D;rw[D]at ha;have G:=ha.c;simp only[CC]at G;refine⟨_,h,t,e x,hs,(I x).cells a1,?_⟩;simp[execOp,Instr.storeAt,G,Instr.sureAddr]
    ·rename_i id idx sub D;rw[D]at ha;obtain⟨g',a6,G⟩:=ha.c;refine⟨_,h,t,e x,g',hs,(I x).cells a1,a6,?_⟩;simp[execOp,Instr.storeAt,G,Instr.sureAddr]
    ·simp at h
  ·simp at h
 case nilCheck x=>
  have G:=I x;split at h
  ·rename_i key off D;rw[D]at G;have L:=G.c;simp only[CC]at L;exact⟨_,h,e x,by simp[execOp,L],G⟩
  ·rename_i id idx sub D;rw[D]at G;obtain⟨g',a6,L⟩:=G.c;exact⟨_,h,e x,by simp[execOp,L],G⟩
  ·rename_i cs sub D;rw[D]at G;obtain⟨b,o,L,_⟩:=G.c;exact⟨_,h,e x,by simp[execOp,L],G⟩
  ·simp at h
 case binOp e8 t x y yt=>
  have a2:=I x;have a3:=I y;split at h
  ·rename_i k a k' b hex a4;rw[hex]at a2;rw[a4]at a3;have e1:=a2.int;have e2:=a3.int;cases hk:kEq k k'<;>rw[hk]at h
   ·cases e9:My e8<;>rw[e9]at h
    ·simp at h
    ·simp only[Bool.false_or,ag]at h;obtain⟨c,v,S,T,h3,h4,h5⟩:=Zdh (P:=P) (ρ:=ρ) (w:=w) e9 t k k' a b _ h;refine⟨_,S,v,?_,TVR.c' (Ix T)⟩;simp[execOp,e1,e2,eqGuard_at_int,h3]
   ·simp only[Bool.true_or,ag]at h;have:=O7 hk;subst this;obtain⟨c,v,S,T,h3⟩:=Zsp (P:=P) (ρ:=ρ) (w:=w) e8 t k a b _ h;refine⟨_,S,v,?_,TVR.c' (Ix T)⟩;simp[execOp,e1,e2,eqGuard_at_int,h3]
  ·rename_i a b hex a4;rw[hex]at a2;rw[a4]at a3;have e1:=a2.bool;have e2:=a3.bool;split at h
   ·rename_i N;refine⟨_,h, .bool (a==b),?_,TVR.mkBool _⟩;simp[execOp,e1,e2,eqGuard_at_bool,binOp,Op.equal,Op.maxDepth,run_equalIn_bool' w 9999 t a b N]
   ·rename_i N;refine⟨_,h, .bool (!(a==b)),?_,TVR.mkBool _⟩;simp[execOp,e1,e2,eqGuard_at_bool,binOp,Op.equal,Op.maxDepth,run_equalIn_bool' w 9999 t a b N]
   ·simp at h
  ·rename_i a b hex a4;rw[hex]at a2;rw[a4]at a3;have e1:=a2.c;have e2:=a3.c;simp only[CC,CP]at e1 e2;have e1:=e1.1;have e2:=e2.1;split at h
   ·refine⟨_,h, .bool (a.toList==b.toList),?_,TVR.mkBool _⟩;simp[execOp,e1,e2,eqGuard_at_string,binOp,Op.stringOp]
   ·refine⟨_,h, .bool (!(a.toList==b.toList)),?_,TVR.mkBool _⟩;simp[execOp,e1,e2,eqGuard_at_string,binOp,Op.stringOp]
   ·cases hle:Nat.ble (a.size+b.size) 9223372036854775807<;>rw[hle]at h
    ·cases h
    simp only[ag]at h;have hle:=ay hle;refine⟨_,h, .string (a++b),?_,TVR.c' (Ix ⟨rfl,rfl⟩)⟩;simp[execOp,e1,e2,eqGuard_at_string,binOp,Op.stringOp];omega
   ·simp at h
  ·rename_i key off hex a4;rw[hex]at a2;rw[a4]at a3;have e1:=a2.c;have e2:=a3.c;simp only[CC]at e1;simp only[CC,CP]at e2;have e2:=e2.1;split at h
   ·rename_i el N;have hp:P.underlying t=some (.pointer (P.pointee t)):=by simp[Program.pointee,N]
    refine⟨_,h, .bool false,?_,TVR.mkBool _⟩;simp[execOp,e1,e2,eqGuard_at_pointer,run_eql_pointer_nil w t _ hp]
   ·rename_i el N;have hp:P.underlying t=some (.pointer (P.pointee t)):=by simp[Program.pointee,N]
    refine⟨_,h, .bool true,?_,TVR.mkBool _⟩;simp[execOp,e1,e2,eqGuard_at_pointer,run_neq_pointer_nil w t _ hp]
   ·simp at h
  ·rename_i hex a4;rw[hex]at a2;rw[a4]at a3;have e1:=a2.c;have e2:=a3.c;simp only[CC,CP]at e1 e2;have e1:=e1.1;have e2:=e2.1;split at h
   ·rename_i el N;have hp:P.underlying t=some (.pointer (P.pointee t)):=by simp[Program.pointee,N]
    refine⟨_,h, .bool true,?_,TVR.mkBool _⟩;simp[execOp,e1,e2,eqGuard_at_pointer,run_eql_pointer_nil w t _ hp]
   ·rename_i el N;have hp:P.underlying t=some (.pointer (P.pointee t)):=by simp[Program.pointee,N]
    refine⟨_,h, .bool false,?_,TVR.mkBool _⟩;simp[execOp,e1,e2,eqGuard_at_pointer,run_neq_pointer_nil w t _ hp]
   ·simp at h
  ·rename_i xs U hex a4;rw[hex]at a2;rw[a4]at a3;obtain⟨X,e1,hX⟩:=a2.agg;obtain⟨Y,e2,hY⟩:=a3.agg;cases b0:P.eqGuardType P.depth t<;>rw[b0]at h
   ·simp only[aq]at h;have key:∀q,Ck P t=some true->eqC P C.eqOk 20 t xs U=some q->(Op.equalIn 10000 t (.agg X) (.agg Y)).run P w= .ok q w:=by
     intro q hg hq;exact Q0a g1 20 10000 (by omega) t xs U q _ _ hq (by simp only[E5,hg];exact⟨X,rfl,hX⟩) (by simp only[E5,hg];exact⟨Y,rfl,hY⟩)
    split at h
    ·rename_i q hg hq;refine⟨_,h, .bool q,?_,TVR.mkBool _⟩;simp[execOp,e1,e2,run_eqGuard_agg w .eql t x y X Y b0,run_eql_struct,key q hg hq]
    ·rename_i q hg hq;refine⟨_,h, .bool (!q),?_,TVR.mkBool _⟩;simp[execOp,e1,e2,run_eqGuard_agg w .neq t x y X Y b0,run_neq_struct,key q hg hq]
    ·simp at h
   ·simp at h
  ·simp at h
 case unOp i5 t x=>
  have G:=I x;split at h
  ·rename_i k n D;rw[D]at G;have e1:=G.int;exact⟨_,h, .int k (k.wrap (0-n)),by simp[execOp,e1,Op.unary,Op.intArith],TVR.mkInt _ _⟩
  ·rename_i b D;rw[D]at G;have e1:=G.bool;exact⟨_,h, .bool (!b),by simp[execOp,e1,Op.unary],TVR.mkBool _⟩
  ·simp at h
 case convert src i4 x=>
  have G:=I x;split at h
  ·rename_i d k k' n hs M D;rw[D]at G;have e1:=G.int;refine⟨_,h, .int k (k.wrap n),?_,TVR.mkInt _ _⟩;simp[execOp,e1,convert,run_underlying hs,run_underlying M,Conv.intToInt]
  ·simp at h
 case fieldAddr t x i=>
  split at h
  ·rename_i f hf;have b2:∃fs,P.underlying t=some (.struct fs)/\fs[i]? =some f:=by
    unfold Tt at hf;split at hf
    ·rename_i fs N;exact⟨fs,N,by simpa using hf⟩
    ·simp at hf
   obtain⟨fs,N,b3⟩:=b2;split at h
   ·rename_i n hn;have j1:n+1≠0:=by omega
    have G:=I x;have fp:∀(b o:Nat),(fieldPlace ⟨b,o,none⟩ f).run P w= .ok ⟨b,o+f.offset,none⟩ w:=by
     intro b o;simp[fieldPlace,DJ hn,Addr.add_lit]
    split at h
    ·rename_i key off D;rw[D]at G;have L:=G.c;simp only[CC]at L;refine⟨_,h, .pointer (some ⟨ρ.bx key,off+f.offset,none⟩),?_,TVR.c' (by simp[CC])⟩;simp[execOp,Instr.fieldAt,run_underlying N,b3,L,Instr.sureAddr,fp]
    ·rename_i id idx sub D;rw[D]at G;obtain⟨g',a6,L⟩:=G.c;refine⟨_,h, .pointer (some ⟨g',Hs (ρ.rv id)+(idx*ρ.wd id+sub)+f.offset,none⟩),?_,TVR.c' ⟨g',a6,by rw[dm,dm]⟩⟩;simp[execOp,Instr.fieldAt,run_underlying N,b3,L,Instr.sureAddr,fp]
    ·rename_i cs sub D;rw[D]at G;obtain⟨b,o,L,S,T⟩:=G.c;refine⟨_,h, .pointer (some ⟨b,o+sub+f.offset,none⟩),?_,TVR.c' ⟨b,o,by rw[dm],S,T⟩⟩;simp[execOp,Instr.fieldAt,run_underlying N,b3,L,Instr.sureAddr,fp]
    ·simp at h
   ·simp at h
  ·simp at h
 case field t x i=>
  split at h
  ·rename_i f cs hf D;have b2:∃fs,P.underlying t=some (.struct fs)/\fs[i]? =some f:=by
    unfold Tt at hf;split at hf
    ·rename_i fs N;exact⟨fs,N,by simpa using hf⟩
    ·simp at hf
   obtain⟨fs,N,b3⟩:=b2;have G:=I x;rw[D]at G;obtain⟨U,L,a0⟩:=G.agg;split at h
   ·rename_i v hp;obtain⟨y,a7,a8⟩:=Q0u (P:=P) hp a0;refine⟨_,h,y,?_,a8⟩;simp[execOp,Instr.field,run_underlying N,b3,L,asAgg,a7]
   ·simp at h
  ·simp at h
 case indexAddr t x ix=>
  split at h
  ·rename_i i n el hi N;obtain⟨k,hk⟩:=Qq hi (I ix);have G:=I x;split at h
   ·rename_i m key off hm D;rw[D]at G;have L:=G.c;simp only[CC]at L;obtain⟨j,S,T,h3,h4⟩:=HJ h;refine⟨_,S, .pointer (some ⟨ρ.bx key,off+j*m,none⟩),?_,TVR.c' (by simp[CC])⟩;have V:j<n:=by omega
    simp[execOp,Instr.indexAt,run_underlying N,hk,asIntOf,L,Instr.sureAddr,T,V,DJ hm,Addr.add_lit]
   ·rename_i m id idx sub hm D;rw[D]at G;obtain⟨g',a6,L⟩:=G.c;obtain⟨j,S,T,h3,h4⟩:=HJ h;refine⟨_,S, .pointer (some ⟨g',Hs (ρ.rv id)+(idx*ρ.wd id+sub)+j*m,none⟩),?_,TVR.c' ⟨g',a6,by rw[dm,dm]⟩⟩;have V:j<n:=by omega
    simp[execOp,Instr.indexAt,run_underlying N,hk,asIntOf,L,Instr.sureAddr,T,V,DJ hm,Addr.add_lit]
   ·rename_i m cs sub hm D;rw[D]at G;obtain⟨b,o,L,c0,a1⟩:=G.c;obtain⟨j,S,T,h3,h4⟩:=HJ h;refine⟨_,S, .pointer (some ⟨b,o+sub+j*m,none⟩),?_,TVR.c' ⟨b,o,by rw[dm],c0,a1⟩⟩;have V:j<n:=by omega
    simp[execOp,Instr.indexAt,run_underlying N,hk,asIntOf,L,Instr.sureAddr,T,V,DJ hm,Addr.add_lit]
   ·simp at h
  ·rename_i i el hi N;obtain⟨k,hk⟩:=Qq hi (I ix);have G:=I x;split at h
   ·rename_i m ks l hm D;rw[D]at G;have L:=G.c;simp only[CC,CP]at L;obtain⟨ad,cap,L,c6,h9,hf⟩:=L;cases hb:Nat.beq m ks.length<;>rw[hb]at h
    ·simp at h
    ·simp only[ag]at h;have e1:=ac hb;subst e1;cases M:(decide (0<=i)&&decide (i<(l.length:Int)))<;>rw[M]at h
     ·simp at h
     ·simp only[ag]at h;simp at M;have c5:i.toNat<l.length:=by omega
      rcases hf with hf|⟨b,o,rfl,c0,i0⟩
      ·subst hf;simp at c5
      ·obtain⟨j2,a1⟩:=ZJ i0 i.toNat c5;have f0:AM ks (nth [] l i.toNat)=l[i.toNat]:=by
        rw[BV,List.getD,al c5];exact h9 _ (cg c5)
       refine⟨_,h, .pointer (some ⟨b,o+i.toNat*ks.length+0,none⟩),?_,TVR.c' ⟨b,o+i.toNat*ks.length,rfl,c0,by rw[f0];exact a1⟩⟩;simp[execOp,Instr.indexAt,run_underlying N,hk,asIntOf,L,M,DJ hm,Addr.add_lit]
   ·rename_i m id wd n hm D;rw[D]at G;obtain⟨f3,i1,b4⟩:=G.c;cases hb:Nat.beq m wd<;>rw[hb]at h
    ·simp at h
    ·simp only[ag]at h;have e1:=ac hb;subst e1;cases M:(decide (0<=i)&&decide (i<(n:Int)))<;>rw[M]at h
     ·simp at h
     ·simp only[ag]at h;simp at M;rcases b4 with⟨_,rfl⟩|⟨g',o',c',b4⟩
      ·omega
      ·refine⟨_,h, .pointer (some ⟨g',o'+(i.toNat*ρ.wd id+0),none⟩),?_,TVR.c' ⟨g',by rw[<-f3,b4];rfl,by rw[<-f3,b4];rfl⟩⟩;simp[execOp,Instr.indexAt,run_underlying N,hk,asIntOf,b4,M,DJ hm,Addr.add_lit,i1]
   ·rename_i m key n hm D;rw[D]at G;have L:=G.c;simp only[CC]at L;cases hb:Nat.beq m 1<;>rw[hb]at h
    ·simp at h
    ·simp only[ag]at h;have e1:=ac hb;subst e1;obtain⟨j,S,T,h3,h4⟩:=HJ h;refine⟨_,S, .pointer (some ⟨ρ.bx key,j,none⟩),?_,TVR.c' (by simp[CC])⟩;have V:j<n:=by omega
     simp[execOp,Instr.indexAt,run_underlying N,hk,asIntOf,L,T,V,DJ hm,Addr.add_lit]
   ·simp at h
  ·simp at h
 case index t x ix=>
  split at h
  ·rename_i i n el cs hi N D;obtain⟨k,hk⟩:=Qq hi (I ix);have G:=I x;rw[D]at G;obtain⟨U,L,a0⟩:=G.agg;split at h
   ·rename_i m hm;obtain⟨j,S,T,h3,h4⟩:=HJ h;have V:j<n:=by omega
    split at S
    ·rename_i v hp;obtain⟨y,a7,a8⟩:=Q0u (P:=P) hp a0;refine⟨_,S,y,?_,a8⟩;simp[execOp,Instr.index,run_underlying N,hk,asIntOf,L,T,V,DJ hm,a7]
    ·simp at S
   ·simp at h
  ·simp at h
 case slice t x lo hi mx=>
  split at h
  ·rename_i _ f4 f5 el i2 i3 N;have b5:=Zal I i2;have b6:=Zal I i3;have G:=I x;split at h
   ·rename_i m ks l hm D;rw[D]at G;have b1:=G.c;have L:=b1;simp only[CC,CP]at L;obtain⟨ad,cap,L,c6,_⟩:=L;rw[L]at b1;cases hb:Nat.beq m ks.length<;>rw[hb]at h
    ·simp at h
    ·simp only[ag]at h;have e1:=ac hb;subst e1;have key:∀(a b:Int),f4.getD 0=a->f5.getD (l.length:Int)=b->0<=a->a<=b->b<=(l.length:Int)->Jb P ρ w e ⟨dst, .slice t x lo hi none,type,pos,after,guard⟩ (.val (.c (.vC ks ((l.take b.toNat).drop a.toNat)))):=by
      intro a b ha c9 d1 d2 d3;refine⟨_,Xm rfl N hm L c6 b5 b6 ha c9 d1 d2 d3,TVR.c' ?_⟩;exact Z08 (by omega) (by omega) b1
     split at h
     ·refine⟨_,h,?_⟩;have:=key 0 l.length rfl rfl (by omega) (by omega) (by omega);simpa using this
     ·rename_i a;cases M:(decide (0<=a)&&decide (a<=(l.length:Int)))<;>rw[M]at h
      ·simp at h
      ·simp only[ag]at h;simp only[ai,cq]at M;refine⟨_,h,?_⟩;have:=key a l.length rfl rfl M.1 M.2 (by omega);simpa using this
     ·rename_i b;cases M:(decide (0<=b)&&decide (b<=(l.length:Int)))<;>rw[M]at h
      ·simp at h
      ·simp only[ag]at h;simp only[ai,cq]at M;refine⟨_,h,?_⟩;have:=key 0 b rfl rfl (by omega) M.1 M.2;simpa using this
     ·rename_i a b;cases M:(decide (0<=a)&&decide (a<=b)&&decide (b<=(l.length:Int)))<;>rw[M]at h
      ·simp at h
      ·simp only[ag]at h;simp only[ai,cq]at M;exact⟨_,h,key a b rfl rfl M.1.1 M.1.2 M.2⟩
   ·rename_i m id wd n hm D;rw[D]at G;obtain⟨c1,c2,c3⟩:=G.c;split at h
    ·rename_i a;cases hb:Nat.beq m wd<;>rw[hb]at h
     ·simp at h
     ·simp only[ag]at h;have e1:=ac hb;subst e1;cases M:(decide (0<=a)&&decide (a<=(n:Int)))<;>rw[M]at h
      ·simp at h
      ·simp only[ag]at h;simp only[ai,cq]at M;refine⟨_,h,λad n' cap d0 c8 j3=> ?_⟩;have hn:n'=n:=by
        rcases c3 with⟨c3,c4⟩|⟨_,_,_,c3⟩
        ·rw[c1,d0]at c3;simp at c3;omega
        ·rw[c1,d0]at c3;simp at c3;exact c3.2.1
       subst hn;have a5:=Xm (P:=P) (w:=w) (e:=e) (o:=⟨dst, .slice t x lo hi none,type,pos,after,guard⟩) rfl N hm (c1.trans d0) c8 b5 b6 (l:=a) (hh':=(n':Int)) rfl rfl M.1 M.2 (dt _);rw[c2];simpa using a5
    ·simp at h
   ·rename_i m hm D;rw[D]at G;have L:=G.c;simp only[CC,CP]at L;have key:f4.getD 0=0->f5.getD ((0:Nat):Int)=0->Jb P ρ w e ⟨dst, .slice t x lo hi none,type,pos,after,guard⟩ (.val (.c .nilSl)):=by
     intro ha c9;refine⟨_,Xm rfl N hm L (co _) b5 b6 ha c9 (by omega) (by omega) (by omega),TVR.c' ?_⟩;simp[CC,CP]
    split at h
    ·exact⟨_,h,key rfl rfl⟩
    ·rename_i a;cases M:decide (a=0)<;>rw[M]at h
     ·simp at h
     ·simp only[ag]at h;simp only[cq]at M;exact⟨_,h,key M rfl⟩
    ·rename_i b;cases M:decide (b=0)<;>rw[M]at h
     ·simp at h
     ·simp only[ag]at h;simp only[cq]at M;exact⟨_,h,key rfl M⟩
    ·rename_i a b;cases M:(decide (a=0)&&decide (b=0))<;>rw[M]at h
     ·simp at h
     ·simp only[ag]at h;simp only[ai,cq]at M;exact⟨_,h,key M.1 M.2⟩
   ·simp at h
  ·simp at h
 case extract t i=>
  have G:=I t;split at h
  ·rename_i ps D;rw[D]at G;obtain⟨U,L,hp⟩:=G;split at h
   ·rename_i g cs hg;have key:∀(l:List (Bool×List AC)) (xs:List Value) (i:Nat),TP ρ w l xs->l[i]? =some (g,cs)->∃y,xs[i]? =some y/\TVR ρ w (.v g cs) y:=by
     intro l;induction l with
     |nil=>intro xs i _ hh;simp at hh
     |cons p l ih=>
      intro xs i d4 hh;cases xs with
      |nil=>exact d4.elim
      |cons y xs=>
       cases i with
       |zero=>
        simp at hh;subst hh;refine⟨y,rfl,?_⟩;have:=d4.1;cases g<;>exact this
       |succ i=>simpa using ih xs i d4.2 (by simpa using hh)
    obtain⟨y,a7,a8⟩:=key ps U.toList i hp hg;refine⟨_,h,y,?_,a8⟩;have g0:U[i]? =some y:=by simpa using a7
    simp[execOp,Instr.extract,L,g0]
   ·simp at h
  ·simp at h
 case call c=>
  have O:=Rd I c.args.toList;split at h
  ·rename_i b hb;obtain⟨cs,a1⟩:=Zvj (e:=e) (o:=⟨dst, .call c,type,pos,after,guard⟩) (c:=c) rfl hb;refine Zld (xs:=c.args.toList.map e) (by rw[O.1]) O.2 h (ty:=type) (cs:=cs) ?_;rw[a1,<-iu]
  ·rename_i f hf;cases hp:C.pure f<;>rw[hp]at h
   ·exact⟨_,h,c.args.toList.map e,O.1.symm,O.2,RC rfl hf (d5 f)⟩
   ·exact⟨_,h,c.args.toList.map e,O.1.symm,O.2,RC rfl hf (d5 f)⟩
  ·rename_i t ht;split at h
   ·rename_i f fs cs a0;have G:=I (.tmp t);rw[a0]at G;obtain⟨xs,U,L,S,T⟩:=G.c;obtain⟨q1,q2⟩:=Q08 (Y9 S) (Q08 O (Y9 T));cases a0:(Ak AC.clOk fs&&Ak AC.clOk cs)<;>rw[a0]at h
    ·simp at h
    ·exact⟨_,h,_,q1.symm,q2,Zxn rfl ht L⟩
   ·simp at h
  ·simp at h
end
open Go.RowKit
section defs
variable (aB:List (Nat×Box)) (aC:List (Nat×Row))
def AC.wfP:AC->Prop
 | .ptr key _=>∃b,Ab aB key=some b
 |_=>True
def AC.wf:AC->Prop
 | .ptr key _=>∃b,Ab aB key=some b
 | .bsl key _=>∃b,Ab aB key=some b
 | .own id w n=>∃r,Ab aC id=some r/\r.n=n/\r.w=w
 | .rptr id idx _=>∃r,Ab aC id=some r/\idx<r.n
 | .vptr cs _=>Ak AC.calm cs=true
 | .clo _ fs cs=>(∀a∈fs,AC.wfP aB a)/\∀a∈cs,AC.wfP aB a
 |_=>True
def TV.wf:TV->Prop
 | .v _ cs=>∀a∈cs,AC.wf aB aC a
 | .tup ps=>∀p∈ps,∀a∈p.2,AC.wf aB aC a
 | .vD=>True
end defs
structure Fr (F : Nat -> Prop) (w w' : World) : Prop where
 os:w'.os=w.os
 tape:w'.tape=w.tape
 output:w'.output=w.output
 size:w.heap.size<=w'.heap.size
 block:∀k,F k->w'.heap[k]? =w.heap[k]?
theorem Fr.refl (F:Nat->Prop) (w:World):Fr F w w:=⟨rfl,rfl,rfl,co _,λ_ _=>rfl⟩
theorem Fr.trans {F:Nat->Prop} {a b c:World} (h:Fr F a b) (k:Fr F b c):Fr F a c:=
 ⟨k.os.trans h.os,k.tape.trans h.tape,k.output.trans h.output,bz h.size k.size,λi D=>(k.block i D).trans (h.block i D)⟩
theorem Fr.mono {F D:Nat->Prop} {w w':World} (h:Fr F w w') (G:∀k,D k->F k):Fr D w w':=⟨h.os,h.tape,h.output,h.size,λk I=>h.block k (G k I)⟩
theorem Fr.drew {F:Nat->Prop} {a w:World} (h:Fr F a w):Fr F a w.drew:=⟨h.os,h.tape,h.output,h.size,h.block⟩
theorem Fr.alloc {F:Nat->Prop} {a w:World} (h:Fr F a w) (D:∀k,F k->k<w.heap.size) (o:Obj):Fr F a (w.alloc o):=
 h.trans ⟨rfl,rfl,rfl,by simp,λk G=>Below.heap_alloc _ _ _ (D k G)⟩
theorem Fr.of_below {w w':World} {F:Nat->Prop} (h:Below w.heap.size w w') (D:∀k,F k->k<w.heap.size):Fr F w w':=⟨h.os,h.tape,h.output,h.size,λk G=>h.block k (D k G)⟩
theorem Fr.grown {F:Nat->Prop} {a w w':World} {row:Option Nat} (h:Fr F a w) (D:w.grownBy w' row) (I:∀k,F k->k<w.heap.size) (L:∀k,row=some k-> ¬F k):Fr F a w':=
 h.trans ⟨D.os,D.tape,D.output,D.size,λk G=>D.block k (I k G) (λe=>L k e.symm G)⟩
structure Base where
 F:Nat->Prop
 w0:World
 I0:Nat->Prop
 K0:Nat->Option Nat
 gt:Gt F w0
structure RelE (Z : Base) (tm : List TV) (aB : List (Nat × Box)) (aC : List (Nat × Row)) (ρ : Env) (tmps : Array Value) (w : World) : Prop where
 tl:tm.length=tmps.size
 tv:∀(i:Nat) (v:TV),tm[i]? =some v->TVR ρ w v (tmps.getD i undef)
 wt:∀v∈tm,TV.wf aB aC v
 wb:∀(k:Nat) (b:Box),Ab aB k=some b->∀a∈b.cells,AC.wf aB aC a
 bx:∀(k:Nat) (b:Box),Ab aB k=some b->∃arr:Array Value,w.heap[ρ.bx k]? =some (.cells arr b.ty (0,0))/\CL (CC ρ w) b.cells arr.toList/\ ¬Z.F (ρ.bx k)
 bi:∀(k k':Nat) (b b':Box),Ab aB k=some b->Ab aB k'=some b'->ρ.bx k=ρ.bx k'->k=k'
 ro:∀(id:Nat) (r:Row),Ab aC id=some r->0<r.w/\ρ.wd id=r.w/\(∀g,(ρ.rv id).ownBlock=some g-> ¬Z.F g)/\∃xs,Ef w r.ty r.w (ρ.rv id) r.n xs/\RowC ρ.im w r.ks r.l xs
 ri:∀(id id':Nat) (r r':Row) (g:Nat),Ab aC id=some r->Ab aC id'=some r'->(ρ.rv id).ownBlock=some g->(ρ.rv id').ownBlock=some g->id=id'
 br:∀(k:Nat) (b:Box) (id:Nat) (r:Row),Ab aB k=some b->Ab aC id=some r->(ρ.rv id).ownBlock≠some (ρ.bx k)
 ib:∀b,ρ.im b->b<w.heap.size/\(∀(k:Nat) (bo:Box),Ab aB k=some bo->ρ.bx k≠b)/\(∀(id:Nat) (r:Row),Ab aC id=some r->(ρ.rv id).ownBlock≠some b)
 fr:Fr Z.F Z.w0 w
 fs:∀k,Z.F k->k<w.heap.size
 i0:∀b,Z.I0 b->ρ.im b
 i1:∀b,ρ.im b->Z.I0 b\/ ¬Z.F b
 k0:∀k b,Z.K0 k=some b->ρ.bx k=b/\∃bo,Ab aB k=some bo
section
variable {P:Program} {C:Cfg} {ρ:Env} {w:World} {R:Type} {Z:Base} {tm:List TV} {aB:List (Nat×Box)} {aC:List (Nat×Row)} {tmps:Array Value}
theorem O_ {w:World} {b:Nat} {o:Obj} (h:w.heap[b]? =some o):b<w.heap.size:=(bt.1 h).1
theorem RelE.bxlt (h:RelE Z tm aB aC ρ tmps w) {k:Nat} {b:Box} (D:Ab aB k=some b):ρ.bx k<w.heap.size:=by
 obtain⟨arr,G,_⟩:=h.bx k b D;exact O_ G
theorem RelE.rwlt (h:RelE Z tm aB aC ρ tmps w) {id:Nat} {r:Row} (G:Ab aC id=some r) {g:Nat} (D:(ρ.rv id).ownBlock=some g): ¬Z.F g/\g<w.heap.size:=by
 obtain⟨_,_,I,xs,L,_⟩:=h.ro id r G;exact⟨I g D,Q2s L g D⟩
theorem TVR.mono {ρ ρ':Env} {w w':World} (I:∀(a:AC) (x:Value),CC ρ w a x->CC ρ' w' a x):∀(v:TV) (x:Value),TVR ρ w v x->TVR ρ' w' v x:=by
 intro v x h;have M:∀{l xs},CL (CC ρ w) l xs->CL (CC ρ' w') l xs:=λh=>h.mono λa _ x N=>I a x N;cases v with
 |vD=>trivial
 |v g cs=>
  cases g
  ·obtain⟨a,G,D⟩:=h;exact⟨a,G,I a _ D⟩
  ·obtain⟨L,G,D⟩:=h;exact⟨L,G,M D⟩
 |tup ps=>
  obtain⟨L,G,D⟩:=h;refine⟨L,G,?_⟩;generalize L.toList=l at D;clear G;induction ps generalizing l with
  |nil=>cases l<;>first|exact D|exact D.elim
  |cons p ps O=>
   cases l with
   |nil=>exact D.elim
   |cons y l=>
    obtain⟨g,cs⟩:=p;refine⟨?_,O l D.2⟩;have:=D.1;cases g
    ·obtain⟨a,G,D⟩:=this;exact⟨a,G,I a _ D⟩
    ·obtain⟨L,G,D⟩:=this;exact⟨L,G,M D⟩
theorem TVR.mono' {ρ N:Env} {w w':World} {v:TV} (G:∀(a:AC) (x:Value),AC.wf aB aC a->CC ρ w a x->CC N w' a x) (M:TV.wf aB aC v) {x:Value} (h:TVR ρ w v x):TVR N w' v x:=by
 have T:∀{l xs},(∀a∈l,AC.wf aB aC a)->CL (CC ρ w) l xs->CL (CC N w') l xs:=λU h=>h.mono λa V x X=>G a x (U a V) X;cases v with
 |vD=>trivial
 |v g cs=>
  cases g
  ·obtain⟨a,I,D⟩:=h;subst I;exact⟨a,rfl,G a _ (M a (by simp)) D⟩
  ·obtain⟨L,I,D⟩:=h;exact⟨L,I,T M D⟩
 |tup ps=>
  obtain⟨L,I,D⟩:=h;refine⟨L,I,?_⟩;generalize L.toList=l at D;clear I;induction ps generalizing l with
  |nil=>cases l<;>first|exact D|exact D.elim
  |cons p ps Y=>
   cases l with
   |nil=>exact D.elim
   |cons y l=>
    obtain⟨g,cs⟩:=p;refine⟨?_,Y (λq hq=>M q (by simp[hq])) l D.2⟩;have:=D.1;cases g
    ·obtain⟨a,O,S⟩:=this;subst O;exact⟨a,rfl,G a _ (M (false,[a]) (by simp) a (by simp)) S⟩
    ·obtain⟨L,O,S⟩:=this;exact⟨L,O,T (M (true,cs) (by simp)) S⟩
theorem RowC.mono {im D:Nat->Prop} {w w':World} {ks:List Kd} {l:List (List AC)} {xs:List Value} (I:∀b,im b->D b) (hb:∀b,im b->w'.heap[b]? =w.heap[b]?) (h:RowC im w ks l xs):RowC D w' ks l xs:=
 ⟨h.1,h.2.1,λi c G=>(h.2.2 i c G).mono λa _ x L=>CP.mono I hb a x L⟩
theorem AC.agree_refl {ρ D:Env} (G:D.bx=ρ.bx) (I:D.rv=ρ.rv) (L:D.wd=ρ.wd) (a:AC):a.agree ρ D:=by
 have M:∀a:AC,a.agreeP ρ D:=by intro a;cases a<;>first|(simp only[AC.agreeP,G];done)|trivial
 cases a with
 |ptr=>simp only[AC.agree,G]
 |bsl=>simp only[AC.agree,G]
 |own=>simp only[AC.agree,I,L,and_self]
 |rptr=>simp only[AC.agree,I,L,and_self]
 |clo=>exact⟨λa _=>M a,λa _=>M a⟩
 |_=>trivial
theorem CC.keep {g:Nat} {w':World} (G: ¬ρ.im g) (hb:∀b,b≠g->w'.heap[b]? =w.heap[b]?) (a:AC) (x:Value) (h:CC ρ w a x):CC ρ w' a x:=
 CC.mono (λ_ h=>h) (λb D=>hb b (λe=>G (e▸D))) a x (AC.agree_refl rfl rfl rfl a) h
def upN {α:Type} (f:Nat->α) (k:Nat) (v:α):Nat->α:=λj=>if j=k then v else f j
theorem BG {α:Type} (f:Nat->α) (k:Nat) (v:α):upN f k v k=v:=by simp[upN]
theorem BY {α:Type} (f:Nat->α) (k:Nat) (v:α) {j:Nat} (h:j≠k):upN f k v j=f j:=by simp[upN,h]
theorem AC.wfP_mono {D:List (Nat×Box)} (hb:∀(k:Nat) (b:Box),Ab aB k=some b->∃b',Ab D k=some b') {a:AC} (h:AC.wfP aB a):AC.wfP D a:=by
 cases a with
 |ptr k o=>obtain⟨b,h⟩:=h;exact hb k b h
 |_=>trivial
theorem AC.wf_mono {D:List (Nat×Box)} {G:List (Nat×Row)} (hb:∀(k:Nat) (b:Box),Ab aB k=some b->∃b',Ab D k=some b')
  (S:∀(k:Nat) (r:Row),Ab aC k=some r->∃r',Ab G k=some r'/\r'.n=r.n/\r'.w=r.w) {a:AC} (h:AC.wf aB aC a):AC.wf D G a:=by
 cases a with
 |ptr k o=>obtain⟨b,h⟩:=h;exact hb k b h
 |bsl k o=>obtain⟨b,h⟩:=h;exact hb k b h
 |own id w' n=>obtain⟨r,I,L,U⟩:=h;obtain⟨r',M,N,T⟩:=S id r I;exact⟨r',M,by rw[N,L],by rw[T,U]⟩
 |rptr id i s=>obtain⟨r,I,L⟩:=h;obtain⟨r',M,N,T⟩:=S id r I;exact⟨r',M,by rw[N];exact L⟩
 |vptr=>exact h
 |clo f fs cs=>exact⟨λa O=>AC.wfP_mono hb (h.1 a O),λa O=>AC.wfP_mono hb (h.2 a O)⟩
 |_=>trivial
theorem AC.agree_of {ρ':Env} (D:∀k,(∃b,Ab aB k=some b)->ρ'.bx k=ρ.bx k) (I:∀id,(∃r,Ab aC id=some r)->ρ'.rv id=ρ.rv id/\ρ'.wd id=ρ.wd id) {a:AC} (h:AC.wf aB aC a):a.agree ρ ρ':=by
 have L:∀l:List AC,(∀a∈l,AC.wfP aB a)->∀a∈l,a.agreeP ρ ρ':=by
  intro l M a N;have:=M a N;cases a<;>first|exact D _ this|trivial
 cases a with
 |ptr k o=>exact D k h
 |bsl k o=>exact D k h
 |own id w n=>obtain⟨r,G,_⟩:=h;exact I id ⟨r,G⟩
 |rptr id i s=>obtain⟨r,G,_⟩:=h;exact I id ⟨r,G⟩
 |clo f fs cs=>exact⟨L fs h.1,L cs h.2⟩
 |_=>trivial
theorem TV.wf_mono {D:List (Nat×Box)} {G:List (Nat×Row)} (L:∀a,AC.wf aB aC a->AC.wf D G a) {v:TV} (h:TV.wf aB aC v):TV.wf D G v:=by
 cases v with
 |vD=>trivial
 |v g cs=>exact λa I=>L a (h a I)
 |tup ps=>exact λp M a I=>L a (h p M a I)
theorem RelE.new (h:RelE Z tm aB aC ρ tmps w) {d:Nat} (hd:Ab aB d=none) {ty:TypeId} {cs:List AC} {arr:Array Value} (hw:∀a∈cs,AC.wf aB aC a) (hc:CL (CC ρ w) cs arr.toList):
  RelE Z tm (ins aB d ⟨ty,cs⟩) aC {ρ with bx:=upN ρ.bx d w.heap.size} tmps (w.alloc (.cells arr ty)):=by
 have V:∀(k:Nat) (b:Box),Ab aB k=some b->Ab (ins aB d ⟨ty,cs⟩) k=some b:=by
  intro k b D;rw[Dg]
  ·exact D
  ·rintro rfl;rw[hd]at D;cases D
 have I:∀(k:Nat) (b:Box),Ab (ins aB d ⟨ty,cs⟩) k=some b->(k=d/\b=⟨ty,cs⟩)\/(k≠d/\Ab aB k=some b):=by
  intro k b D;by_cases O:k=d
  ·subst O;rw[Ed _ _ _ hd]at D;simp at D;exact .inl ⟨rfl,D.symm⟩
  ·rw[Dg _ _ _ _ O]at D;exact .inr ⟨O,D⟩
 have S:∀a,AC.wf aB aC a->AC.wf (ins aB d ⟨ty,cs⟩) aC a:=λa=>AC.wf_mono (λk b D=>⟨b,V k b D⟩) (λk r D=>⟨r,D,rfl,rfl⟩);have hold:∀b,b<w.heap.size->(w.alloc (.cells arr ty)).heap[b]? =w.heap[b]? :=λb hb=>Below.heap_alloc w _ b hb;have T:∀(a:AC) (x:Value),AC.wf aB aC a->CC ρ w a x->CC {ρ with bx:=upN ρ.bx d w.heap.size} (w.alloc (.cells arr ty)) a x:=by
  intro a x L X;refine CC.mono (ρ:=ρ) (ρ':={ρ with bx:=upN ρ.bx d w.heap.size}) (λb hb=>hb) (λb hb=>hold b (h.ib b hb).1) a x ?_ X;refine AC.agree_of (ρ:=ρ) (ρ':={ρ with bx:=upN ρ.bx d w.heap.size}) (λk a1=>BY _ _ _ ?_) (λid _=>⟨rfl,rfl⟩) L;rintro rfl;obtain⟨b,hb⟩:=a1;rw[hd]at hb;cases hb
 refine⟨h.tl,λi v hi=>TVR.mono' T (h.wt v (bj hi)) (h.tv i v hi),λv hv=>TV.wf_mono S (h.wt v hv),?_,?_,?_,?_,h.ri,?_,?_,?_,?_,h.i0,h.i1,?_⟩
 ·intro k b D a L;rcases I k b D with⟨rfl,rfl⟩|⟨G,D⟩
  ·exact S a (hw a L)
  ·exact S a (h.wb k b D a L)
 ·intro k b D;rcases I k b D with⟨rfl,rfl⟩|⟨G,D⟩
  ·refine⟨arr,?_,hc.mono λa L x X=>T a x (hw a L) X,?_⟩
   ·show(w.alloc _).heap[upN ρ.bx k w.heap.size k]? =_;rw[BG];exact heap_alloc_new w _
   ·show¬Z.F (upN ρ.bx k w.heap.size k);rw[BG];exact λhf=>Nat.lt_irrefl _ (h.fs _ hf)
  ·obtain⟨ar,Y,h2,U⟩:=h.bx k b D;refine⟨ar,?_,h2.mono λa L x X=>T a x (h.wb k b D a L) X,?_⟩
   ·show(w.alloc _).heap[upN ρ.bx d w.heap.size k]? =_;rw[BY _ _ _ G,hold _ (O_ Y)];exact Y
   ·show¬Z.F (upN ρ.bx d w.heap.size k);rw[BY _ _ _ G];exact U
 ·intro k k' b b' D a2 he;change upN ρ.bx d w.heap.size k=upN ρ.bx d w.heap.size k' at he;rcases I k b D with⟨e1,_⟩|⟨G,a0⟩<;>rcases I k' b' a2 with⟨e2,_⟩|⟨M,N⟩
  ·rw[e1,e2]
  ·rw[e1,BG,BY _ _ _ M]at he;have:=h.bxlt N;omega
  ·rw[e2,BG,BY _ _ _ G]at he;have:=h.bxlt a0;omega
  ·rw[BY _ _ _ G,BY _ _ _ M]at he;exact h.bi k k' b b' a0 N he
 ·intro id r hr;obtain⟨Y,h2,h0,xs,U,h4⟩:=h.ro id r hr;exact⟨Y,h2,h0,xs,Mh U (λg hg=>hold g (Q2s U g hg)),h4.mono (λb hb=>hb) (λb hb=>hold b (h.ib b hb).1)⟩
 ·intro k b id r D hr he;change (ρ.rv id).ownBlock=some (upN ρ.bx d w.heap.size k)at he;rcases I k b D with⟨rfl,rfl⟩|⟨G,D⟩
  ·rw[BG]at he;have:=(h.rwlt hr he).2;omega
  ·rw[BY _ _ _ G]at he;exact h.br k b id r D hr he
 ·intro b hb;obtain⟨Y,h2,U⟩:=h.ib b hb;refine⟨by simp;omega,λk bo D=> ?_,U⟩;show upN ρ.bx d w.heap.size k≠b;rcases I k bo D with⟨rfl,rfl⟩|⟨G,D⟩
  ·rw[BG];omega
  ·rw[BY _ _ _ G];exact h2 k bo D
 ·exact h.fr.alloc h.fs _
 ·intro k D;have:=h.fs k D;simp;omega
 ·intro k b D;obtain⟨q1,bo,q2⟩:=h.k0 k b D;exact⟨by show upN ρ.bx d w.heap.size k=b;rw[BY _ _ _ (by rintro rfl;rw[hd]at q2;cases q2)];exact q1,bo,V k bo q2⟩
theorem RelE.store (h:RelE Z tm aB aC ρ tmps w) {key:Nat} {b:Box} (I:Ab aB key=some b) {cells:List AC} (hw:∀a∈cells,AC.wf aB aC a) {arr:Array Value} (hc:CL (CC ρ w) cells arr.toList):
  RelE Z tm (upd aB key ⟨b.ty,cells⟩) aC ρ tmps (w.setRow (ρ.bx key) arr):=by
 obtain⟨ar,h1,h2,h3⟩:=h.bx key b I;have Y: ¬ρ.im (ρ.bx key):=λhi=>(h.ib _ hi).2.1 key b I rfl;have hold:∀g,g≠ρ.bx key->(w.setRow (ρ.bx key) arr).heap[g]? =w.heap[g]? :=λg N=>setRow_other w _ g _ N;have S:∀(a:AC) (x:Value),CC ρ w a x->CC ρ (w.setRow (ρ.bx key) arr) a x:=λa x hx=>CC.keep Y hold a x hx;have L:∀(k:Nat) (bo:Box),Ab (upd aB key ⟨b.ty,cells⟩) k=some bo->(k=key/\bo=⟨b.ty,cells⟩)\/(k≠key/\Ab aB k=some bo):=by
  intro k bo D;by_cases G:k=key
  ·subst G;rw[Eu _ _ _ _ I]at D;simp at D;exact .inl ⟨rfl,D.symm⟩
  ·rw[C_ _ _ _ _ G]at D;exact .inr ⟨G,D⟩
 have O:∀(k:Nat) (bo:Box),Ab (upd aB key ⟨b.ty,cells⟩) k=some bo->∃T,Ab aB k=some T:=by
  intro k bo D;rcases L k bo D with⟨rfl,rfl⟩|⟨_,h⟩
  ·exact⟨b,I⟩
  ·exact⟨bo,h⟩
 have U : ∀ a, AC.wf aB aC a -> AC.wf (upd aB key ⟨b.ty, cells⟩) aC a := λa => AC.wf_mono (λk bo D => by
  by_cases G:k=key
  ·subst G;exact⟨_,Eu _ _ _ _ I⟩
  ·exact⟨bo,by rw[C_ _ _ _ _ G];exact D⟩) (λk r I=>⟨r,I,rfl,rfl⟩)
 refine⟨h.tl,λi v hi=>TVR.mono S v _ (h.tv i v hi),λv hv=>TV.wf_mono U (h.wt v hv),?_,?_,?_,?_,h.ri,?_,?_,?_,?_,h.i0,h.i1,?_⟩
 ·intro k bo D a ha;rcases L k bo D with⟨rfl,rfl⟩|⟨a0,D⟩
  ·exact U a (hw a ha)
  ·exact U a (h.wb k bo D a ha)
 ·intro k bo D;rcases L k bo D with⟨rfl,rfl⟩|⟨a0,D⟩
  ·exact⟨arr,setRow_heap w _ ar _ b.ty _ h1,hc.mono λa _ x hx=>S a x hx,h3⟩
  ·obtain⟨a1,V,X,q3⟩:=h.bx k bo D;refine⟨a1,?_,X.mono λa _ x hx=>S a x hx,q3⟩;rw[hold _ (λe=>a0 (h.bi k key bo b D I e))];exact V
 ·intro k k' bo T M a2 he;obtain⟨_,p1⟩:=O k bo M;obtain⟨_,p2⟩:=O k' T a2;exact h.bi k k' _ _ p1 p2 he
 ·intro id r hr;obtain⟨V,X,q0,xs,q3,q4⟩:=h.ro id r hr;exact⟨V,X,q0,xs,Mh q3 (λg N=>hold g (λe=>h.br key b id r I hr (by rw[N,e]))),q4.mono (λ_ hb=>hb) (λg N=>hold g (λe=>Y (e▸N)))⟩
 ·intro k bo id r M hr;obtain⟨_,p1⟩:=O k bo M;exact h.br k _ id r p1 hr
 ·intro g N;obtain⟨V,X,q3⟩:=h.ib g N;exact⟨by simpa using V,λk bo M=>by obtain⟨_,p1⟩:=O k bo M;exact X k _ p1,q3⟩
 ·exact h.fr.trans ⟨rfl,rfl,rfl,by simp,λg N=>hold g (λe=>h3 (e▸N))⟩
 ·intro k I;simpa using h.fs k I
 ·intro k b' D;obtain⟨V,bo,X⟩:=h.k0 k b' D;refine⟨V,?_⟩;by_cases G:k=key
  ·subst G;exact⟨_,Eu _ _ _ _ I⟩
  ·exact⟨bo,by rw[C_ _ _ _ _ G];exact X⟩
theorem RelE.addRow (h:RelE Z tm aB aC ρ tmps w) {d:Nat} (hd:Ab aC d=none) {r:Row} {v':Value} {xs:List Value} {w':World} (hb:Below w.heap.size w w')
  (hw:0<r.w) (Y:Ef w' r.ty r.w v' r.n xs) (a0:RowC ρ.im w' r.ks r.l xs) (D:∀g,v'.ownBlock=some g->w.heap.size<=g):
  RelE Z tm aB (ins aC d r) {ρ with rv:=upN ρ.rv d v',wd:=upN ρ.wd d r.w} tmps w':=by
 have a3:∀(k:Nat) (q:Row),Ab aC k=some q->Ab (ins aC d r) k=some q:=by
  intro k q G;rw[Dg]
  ·exact G
  ·rintro rfl;rw[hd]at G;cases G
 have L:∀(k:Nat) (q:Row),Ab (ins aC d r) k=some q->(k=d/\q=r)\/(k≠d/\Ab aC k=some q):=by
  intro k q G;by_cases V:k=d
  ·subst V;rw[Ed _ _ _ hd]at G;simp at G;exact .inl ⟨rfl,G.symm⟩
  ·rw[Dg _ _ _ _ V]at G;exact .inr ⟨V,G⟩
 have a1:∀a,AC.wf aB aC a->AC.wf aB (ins aC d r) a:=λa=>AC.wf_mono (λk b G=>⟨b,G⟩) (λk q G=>⟨q,a3 k q G,rfl,rfl⟩);have hold:∀b,b<w.heap.size->w'.heap[b]? =w.heap[b]? :=λb a4=>hb.block b a4;have a2:∀(a:AC) (x:Value),AC.wf aB aC a->CC ρ w a x->CC {ρ with rv:=upN ρ.rv d v',wd:=upN ρ.wd d r.w} w' a x:=by
  intro a x ha hx;refine CC.mono (ρ:=ρ) (ρ':={ρ with rv:=upN ρ.rv d v',wd:=upN ρ.wd d r.w}) (λb hb=>hb) (λb hb=>hold b (h.ib b hb).1) a x ?_ hx;refine AC.agree_of (ρ:=ρ) (ρ':={ρ with rv:=upN ρ.rv d v',wd:=upN ρ.wd d r.w}) (λk _=>rfl) (λid ⟨q,N⟩=> ?_) ha;have:id≠d:=by rintro rfl;rw[hd]at N;cases N
  exact⟨BY _ _ _ this,BY _ _ _ this⟩
 refine⟨h.tl,λi v hi=>TVR.mono' a2 (h.wt v (bj hi)) (h.tv i v hi),λv hv=>TV.wf_mono a1 (h.wt v hv),λk b G a ha=>a1 a (h.wb k b G a ha),?_,h.bi,?_,?_,?_,?_,?_,?_,h.i0,h.i1,λk b G=>h.k0 k b G⟩
 ·intro k b G;obtain⟨ar,X,h2,h3⟩:=h.bx k b G;exact⟨ar,by rw[hold _ (O_ X)];exact X,h2.mono λa ha x hx=>a2 a x (h.wb k b G a ha) hx,h3⟩
 ·intro id q N;rcases L id q N with⟨e1,e2⟩|⟨I,N⟩
  ·subst e1 e2;refine⟨hw,BG _ _ _,?_,xs,?_,a0⟩
   ·intro g O hf;change (upN ρ.rv id v' id).ownBlock=some g at O;rw[BG]at O;exact Nat.lt_irrefl _ (de (h.fs g hf) (D g O))
   show Ef w' q.ty q.w (upN ρ.rv id v' id) q.n xs;rw[BG];exact Y
  ·obtain⟨X,h2,h0,ys,h3,h4⟩:=h.ro id q N;refine⟨X,by show upN ρ.wd d r.w id=_;rw[BY _ _ _ I];exact h2,by show∀g,(upN ρ.rv d v' id).ownBlock=some g->_;rw[BY _ _ _ I];exact h0,ys,?_,h4.mono (λb hb=>hb) (λb hb=>hold b (h.ib b hb).1)⟩;show Ef w' q.ty q.w (upN ρ.rv d v' id) q.n ys;rw[BY _ _ _ I];exact Mh h3 λg O=>hold g (h.rwlt N O).2
 ·intro id id' q q' g N a5 O M;change (upN ρ.rv d v' id).ownBlock=_ at O;change (upN ρ.rv d v' id').ownBlock=_ at M;rcases L id q N with⟨e1,_⟩|⟨I,S⟩<;>rcases L id' q' a5 with⟨e2,_⟩|⟨T,U⟩
  ·rw[e1,e2]
  ·rw[e1,BG]at O;rw[BY _ _ _ T]at M;have:=D g O;have:=(h.rwlt U M).2;omega
  ·rw[e2,BG]at M;rw[BY _ _ _ I]at O;have:=D g M;have:=(h.rwlt S O).2;omega
  ·rw[BY _ _ _ I]at O;rw[BY _ _ _ T]at M;exact h.ri id id' q q' g S U O M
 ·intro k b id q G N he;change (upN ρ.rv d v' id).ownBlock=some (ρ.bx k)at he;rcases L id q N with⟨e1,_⟩|⟨I,S⟩
  ·rw[e1,BG]at he;have:=D _ he;have:=h.bxlt G;omega
  ·rw[BY _ _ _ I]at he;exact h.br k b id q G S he
 ·intro b a6;obtain⟨X,h2,h3⟩:=h.ib b a6;refine⟨de X hb.size,h2,λid q N he=> ?_⟩;change (upN ρ.rv d v' id).ownBlock=some b at he;rcases L id q N with⟨e1,_⟩|⟨I,S⟩
  ·rw[e1,BG]at he;have:=D _ he;omega
  ·rw[BY _ _ _ I]at he;exact h3 id q S he
 ·exact h.fr.trans (Fr.of_below hb h.fs)
 ·exact λk G=>de (h.fs k G) hb.size
def AC.free (id:Nat):AC->Prop
 | .own j _ _=>j≠id
 | .rptr j _ _=>j≠id
 |_=>True
def TV.free (id:Nat):TV->Prop
 | .v _ cs=>∀a∈cs,AC.free id a
 | .tup ps=>∀p∈ps,∀a∈p.2,AC.free id a
 | .vD=>True
theorem TVR.mono2 {ρ N:Env} {w w':World} {v:TV} {Q:AC->Prop} (G:∀(a:AC) (x:Value),Q a->CC ρ w a x->CC N w' a x)
  (M:match v with| .v _ cs=>∀a∈cs,Q a| .tup ps=>∀p∈ps,∀a∈p.2,Q a| .vD=>True) {x:Value} (h:TVR ρ w v x):TVR N w' v x:=by
 have T:∀{l xs},(∀a∈l,Q a)->CL (CC ρ w) l xs->CL (CC N w') l xs:=λU h=>h.mono λa V x X=>G a x (U a V) X;cases v with
 |vD=>trivial
 |v g cs=>
  cases g
  ·obtain⟨a,I,D⟩:=h;subst I;exact⟨a,rfl,G a _ (M a (by simp)) D⟩
  ·obtain⟨L,I,D⟩:=h;exact⟨L,I,T M D⟩
 |tup ps=>
  obtain⟨L,I,D⟩:=h;refine⟨L,I,?_⟩;generalize L.toList=l at D;clear I;induction ps generalizing l with
  |nil=>cases l<;>first|exact D|exact D.elim
  |cons p ps Y=>
   cases l with
   |nil=>exact D.elim
   |cons y l=>
    obtain⟨g,cs⟩:=p;refine⟨?_,Y (λq hq=>M q (by simp[hq])) l D.2⟩;have:=D.1;cases g
    ·obtain⟨a,O,S⟩:=this;subst O;exact⟨a,rfl,G a _ (M (false,[a]) (by simp) a (by simp)) S⟩
    ·obtain⟨L,O,S⟩:=this;exact⟨L,O,T (M (true,cs) (by simp)) S⟩
theorem RelE.turnRow (h:RelE Z tm aB aC ρ tmps w) {id:Nat} {r:Row} (hid:Ab aC id=some r) {r':Row} {v':Value} {xs:List Value} {w':World} (hg:w.grownBy w' (ρ.rv id).ownBlock)
  (hw:r'.w=r.w) (a5:Ef w' r'.ty r'.w v' r'.n xs) (a6:RowC ρ.im w' r'.ks r'.l xs) (a0:v'.ownBlock=(ρ.rv id).ownBlock\/∀g,v'.ownBlock=some g->w.heap.size<=g)
  (a7:(v'=ρ.rv id/\r'.n=r.n)\/((∀v∈tm,TV.free id v)/\∀(k:Nat) (b:Box),Ab aB k=some b->∀a∈b.cells,AC.free id a)):
  RelE Z tm aB (upd aC id r') {ρ with rv:=upN ρ.rv id v'} tmps w':=by
 have O:∀(k:Nat) (q:Row),Ab (upd aC id r') k=some q->(k=id/\q=r')\/(k≠id/\Ab aC k=some q):=by
  intro k q I;by_cases a3:k=id
  ·subst a3;rw[Eu _ _ _ _ hid]at I;simp at I;exact .inl ⟨rfl,I.symm⟩
  ·rw[C_ _ _ _ _ a3]at I;exact .inr ⟨a3,I⟩
 have b2:∀b,ρ.im b->some b≠(ρ.rv id).ownBlock:=λb hb e=>(h.ib b hb).2.2 id r hid e.symm;have a1:∀b,ρ.im b->w'.heap[b]? =w.heap[b]? :=λb hb=>hg.block b (h.ib b hb).1 (b2 b hb)
 let Q:AC->Prop:=λa=>AC.wf aB aC a/\((v'=ρ.rv id/\r'.n=r.n)\/AC.free id a)
 have a4:∀a,Q a->AC.wf aB (upd aC id r') a:=by
  rintro a ⟨L,U⟩;cases a with
  |ptr=>exact L
  |own j w1 n1=>
   obtain⟨q,X,q2,q3⟩:=L;by_cases hj:j=id
   ·subst hj;rcases U with⟨_,N⟩|hf
    ·rw[hid]at X;simp at X;subst X;exact⟨r',Eu _ _ _ _ hid,by rw[N,q2],by rw[hw,q3]⟩
    ·exact absurd rfl hf
   ·exact⟨q,by rw[C_ _ _ _ _ hj];exact X,q2,q3⟩
  |rptr j i1 s1=>
   obtain⟨q,X,q2⟩:=L;by_cases hj:j=id
   ·subst hj;rcases U with⟨_,N⟩|hf
    ·rw[hid]at X;simp at X;subst X;exact⟨r',Eu _ _ _ _ hid,by rw[N];exact q2⟩
    ·exact absurd rfl hf
   ·exact⟨q,by rw[C_ _ _ _ _ hj];exact X,q2⟩
  |vptr=>exact L
  |clo=>exact L
  |_=>trivial
 have a8:∀(a:AC) (x:Value),Q a->CC ρ w a x->CC {ρ with rv:=upN ρ.rv id v'} w' a x:=by
  rintro a x ⟨_,U⟩ hx;refine CC.mono (ρ:=ρ) (ρ':={ρ with rv:=upN ρ.rv id v'}) (λb hb=>hb) a1 a x ?_ hx;have key:∀j,((v'=ρ.rv id/\r'.n=r.n)\/j≠id)->upN ρ.rv id v' j=ρ.rv j:=by
   intro j hj;by_cases a9:j=id
   ·subst a9;rcases hj with⟨e,_⟩|hf
    ·rw[BG,e]
    ·exact absurd rfl hf
   ·exact BY _ _ _ a9
  cases a with
  |own j _ _=>exact⟨key j U,rfl⟩
  |rptr j _ _=>exact⟨key j U,rfl⟩
  |ptr=>rfl
  |clo f fs cs=>exact⟨λa _=>by cases a<;>first|rfl|trivial,λa _=>by cases a<;>first|rfl|trivial⟩
  |_=>trivial
 have b0:∀v∈tm,match v with| .v _ cs=>∀a∈cs,Q a| .tup ps=>∀p∈ps,∀a∈p.2,Q a| .vD=>True:=by
  intro v hv;have h1:=h.wt v hv;have h2:(v'=ρ.rv id/\r'.n=r.n)\/TV.free id v:=Qp a7 (λx=>x) λx=>x.1 v hv;cases v with
  |vD=>trivial
  |v g cs=>exact λa L=>⟨h1 a L,Qp h2 (λx=>x) λx=>x a L⟩
  |tup ps=>exact λp hp a L=>⟨h1 p hp a L,Qp h2 (λx=>x) λx=>x p hp a L⟩
 have b1:∀(k:Nat) (b:Box),Ab aB k=some b->∀a∈b.cells,Q a:=λk b I a L=>⟨h.wb k b I a L,Qp a7 (λx=>x) λx=>x.2 k b I a L⟩;have S:∀g,v'.ownBlock=some g->(ρ.rv id).ownBlock=some g\/w.heap.size<=g:=by
  intro g e;rcases a0 with hp|hp
  ·rw[hp]at e;exact .inl e
  ·exact .inr (hp g e)
 refine⟨h.tl,λi v hi=>TVR.mono2 a8 (b0 v (bj hi)) (h.tv i v hi),λv hv=> ?_,λk b I a L=>a4 a (b1 k b I a L),?_,h.bi,?_,?_,?_,?_,?_,?_,h.i0,h.i1,λk b I=>h.k0 k b I⟩
 ·have:=b0 v hv;cases v with
  |vD=>trivial
  |v g cs=>exact λa L=>a4 a (this a L)
  |tup ps=>exact λp hp a L=>a4 a (this p hp a L)
 ·intro k b I;obtain⟨ar,h1,h2,h3⟩:=h.bx k b I;refine⟨ar,?_,h2.mono λa L x hx=>a8 a x (b1 k b I a L) hx,h3⟩;rw[hg.block _ (O_ h1) (λe=>h.br k b id r I hid e.symm)];exact h1
 ·intro j q U;rcases O j q U with⟨e1,e2⟩|⟨M,G⟩
  ·subst e1 e2;obtain⟨X,q2,q0,_⟩:=h.ro j r hid;refine⟨by rw[hw];exact X,by rw[hw];exact q2,?_,xs,?_,a6⟩
   ·intro g V hf;change (upN ρ.rv j v' j).ownBlock=some g at V;rw[BG]at V;rcases S g V with N|N
    ·exact q0 g N hf
    ·exact Nat.lt_irrefl _ (de (h.fs g hf) N)
   show Ef w' q.ty q.w (upN ρ.rv j v' j) q.n xs;rw[BG];exact a5
  ·obtain⟨h1,h2,h0,ys,h3,h4⟩:=h.ro j q G;refine⟨h1,h2,by show∀g,(upN ρ.rv id v' j).ownBlock=some g->_;rw[BY _ _ _ M];exact h0,ys,?_,h4.mono (λb hb=>hb) a1⟩;show Ef w' q.ty q.w (upN ρ.rv id v' j) q.n ys;rw[BY _ _ _ M];exact Mh h3 λg V=>hg.block g (h.rwlt G V).2 (λe=>M (h.ri j id q r g G hid V e.symm))
 ·intro j j' q q' g U b3 T D;change (upN ρ.rv id v' j).ownBlock=_ at T;change (upN ρ.rv id v' j').ownBlock=_ at D;rcases O j q U with⟨e1,_⟩|⟨M,G⟩<;>rcases O j' q' b3 with⟨e2,_⟩|⟨a2,Y⟩
  ·rw[e1,e2]
  ·rw[e1,BG]at T;rw[BY _ _ _ a2]at D;rcases S g T with N|N
   ·rw[e1];exact(h.ri j' id q' r g Y hid D N).symm
   ·have:=(h.rwlt Y D).2;omega
  ·rw[e2,BG]at D;rw[BY _ _ _ M]at T;rcases S g D with N|N
   ·rw[e2];exact h.ri j id q r g G hid T N
   ·have:=(h.rwlt G T).2;omega
  ·rw[BY _ _ _ M]at T;rw[BY _ _ _ a2]at D;exact h.ri j j' q q' g G Y T D
 ·intro k b j q I U he;change (upN ρ.rv id v' j).ownBlock=some (ρ.bx k)at he;rcases O j q U with⟨e1,_⟩|⟨M,G⟩
  ·rw[e1,BG]at he;rcases S _ he with N|N
   ·exact h.br k b id r I hid N
   ·have:=h.bxlt I;omega
  ·rw[BY _ _ _ M]at he;exact h.br k b j q I G he
 ·intro b b4;obtain⟨h1,h2,h3⟩:=h.ib b b4;refine⟨de h1 hg.size,h2,λj q U he=> ?_⟩;change (upN ρ.rv id v' j).ownBlock=some b at he;rcases O j q U with⟨e1,_⟩|⟨M,G⟩
  ·rw[e1,BG]at he;rcases S _ he with N|N
   ·exact h3 id r hid N
   ·omega
  ·rw[BY _ _ _ M]at he;exact h3 j q G he
 ·refine h.fr.grown hg h.fs λg e=>(h.rwlt hid e).1
 ·exact λk I=>de (h.fs k I) hg.size
end
open Go.RowKit
def DS (F:Nat->Prop) (w:World) (ρ:Env) (aB:List (Nat×Box)) (D:Gt F w):Base:=⟨F,w,ρ.im,λk=>(Ab aB k).map λ_=>ρ.bx k,D⟩
def PCallM (P:Program) (f:FuncId) (args:List TV) (mem:Mem) (v:TV) (mem':Mem):Prop:=
 ∀{F:Nat->Prop} {w:World} {D:Gt F w} (ρ:Env) (xs:List Value),RelE (DS F w ρ mem.aB D) args mem.aB mem.aC ρ xs.toArray w->
  Calls P f xs.toArray w λe w'=>∃(x:Value) (G:Env),e= .returned x/\RelE (DS F w ρ mem.aB D) [v] mem'.aB mem'.aC G #[x] w'
def Nu (P:Program) (f:FuncId):Prop:=∃fn,P.funcs[f]? =some fn/\(fn.name== "runtime.NumGoroutine")=false/\fn.body.isNone=false
def CallsX (P:Program) (f:FuncId) (xs:Array Value) (w:World) (R:Ending->World->Prop):Prop:=
 (Nu P f/\Calls P f xs w R)\/∃x w',(callFunc f xs).run P w= .ok (.value x) w'/\R (.returned x) w'
theorem CallsX.mono {P:Program} {f:FuncId} {xs:Array Value} {w:World} {R R':Ending->World->Prop} (h:CallsX P f xs w R) (I:∀e w',R e w'->R' e w'):CallsX P f xs w R':=by
 rcases h with⟨D,G⟩|⟨x,w',D,G⟩
 ·exact .inl ⟨D,G.mono I⟩
 ·exact .inr ⟨x,w',D,I _ _ G⟩
def Qen (P:Program) (f:FuncId) (args:List TV) (mem:Mem) (v:TV) (mem':Mem):Prop:=
 ∀{F:Nat->Prop} {w:World} {D:Gt F w} (ρ:Env) (xs:List Value),RelE (DS F w ρ mem.aB D) args mem.aB mem.aC ρ xs.toArray w->
  CallsX P f xs.toArray w λe w'=>∃(x:Value) (G:Env),e= .returned x/\RelE (DS F w ρ mem.aB D) [v] mem'.aB mem'.aC G #[x] w'
theorem PCallM.x {P:Program} {f:FuncId} {args:List TV} {mem:Mem} {v:TV} {mem':Mem} (h:PCallM P f args mem v mem') (D:Nu P f):Qen P f args mem v mem':=
 λρ xs G=> .inl ⟨D,h ρ xs G⟩
structure SpecRight (P : Program) (f : FuncId) (g : Spec) : Prop where
 nat:∀(R:Type) (args:List TV) (mem:Mem) (K:TV->Mem->Option R),g R args mem K=(g (TV×Mem) args mem λv m=>some (v,m)).bind λp=>K p.1 p.2
 ok:∀(args:List TV) (mem:Mem) (v:TV) (mem':Mem),(g (TV×Mem) args mem λv m=>some (v,m))=some (v,mem')->Qen P f args mem v mem'
def T4 (g:Spec):Prop:=∀(args:List TV) (mem:Mem) (v:TV) (m:Mem),(g (TV×Mem) args mem λv m=>some (v,m))=some (v,m)->m=mem
def NU (P:Program) (f:FuncId) (g:Spec):Prop:=
 ∀(args:List TV) (mem:Mem) (v:TV) (mem':Mem),(g (TV×Mem) args mem λv m=>some (v,m))=some (v,mem')->
  ∀{F:Nat->Prop} {w:World} {D:Gt F w} (ρ:Env) (xs:List Value),RelE (DS F w ρ mem.aB D) args mem.aB mem.aC ρ xs.toArray w->
   CallsX P f xs.toArray w λe w'=>∃(x:Value) (G:Env),e= .returned x/\RelE (DS F w ρ mem.aB D) [v] mem'.aB mem'.aC G #[x] w'/\G.rv base=ρ.rv base
def Ai (P:Program) (C:Cfg):Prop:=
 (∀(f:FuncId) (g:Spec),C.spec f=some g->SpecRight P f g)/\(∀(f:FuncId) (g:Spec),C.spec f=some g->C.ro f=true->T4 g)/\∀(f:FuncId) (g:Spec),C.spec f=some g->C.keepR f=true->NU P f g
theorem SpecRight.run2 {P:Program} {f:FuncId} {g:Spec} (h:SpecRight P f g) {R:Type} {args:List TV} {mem:Mem} {K:TV->Mem->Option R} {r:R} (D:g R args mem K=some r):
  ∃v mem',K v mem'=some r/\(g (TV×Mem) args mem λv m=>some (v,m))=some (v,mem'):=by
 rw[h.nat]at D;simp only[bf]at D;obtain⟨⟨v,m⟩,G,I⟩:=D;exact⟨v,m,I,G⟩
theorem SpecRight.run {P:Program} {f:FuncId} {g:Spec} (h:SpecRight P f g) {R:Type} {args:List TV} {mem:Mem} {K:TV->Mem->Option R} {r:R} (D:g R args mem K=some r):
  ∃v mem',K v mem'=some r/\Qen P f args mem v mem':=by
 rw[h.nat]at D;simp only[bf]at D;obtain⟨⟨v,m⟩,G,I⟩:=D;exact⟨v,m,I,h.ok args mem v m G⟩
def Prim.wf (aB:List (Nat×Box)) (aC:List (Nat×Row)):Prim->Prop
 | .val v=>TV.wf aB aC v
 | .load _ _ key _=>∃b,Ab aB key=some b
 | .store key _ cs=>(∃b,Ab aB key=some b)/\∀a∈cs,AC.wf aB aC a
 | .new _ cs=>∀a∈cs,AC.wf aB aC a
 | .newS _ _ cs=>∀a∈cs,AC.wf aB aC a
 | .rload _ _ id idx _=>∃r,Ab aC id=some r/\idx<r.n
 | .rstore id idx _ _=>∃r,Ab aC id=some r/\idx<r.n
 | .append _ _ _ s x=>AC.wf aB aC s/\AC.wf aB aC x
 | .appD _ _ _ s x=>AC.wf aB aC s/\AC.wf aB aC x
 | .call _ args=>∀v∈args,TV.wf aB aC v
 | .callM _ args=>∀v∈args,TV.wf aB aC v
 | .callF _ args=>∀v∈args,TV.wf aB aC v
 | .callD _ args=>∀v∈args,TV.wf aB aC v
 |_=>True
section
variable {P:Program} {C:Cfg} {ρ:Env} {w:World} {R:Type} {Z:Base} {tm:List TV} {aB:List (Nat×Box)} {aC:List (Nat×Row)} {tmps:Array Value}
theorem E_ {α β:Type} (g:α->β):∀(l:List (Nat×α)) (k:Nat),Ab (l.map λp=>(p.1,g p.2)) k=(Ab l k).map g
 |[],_=>rfl
 |(j,b)::l,k=>by
  simp only[ba,Ab,E_ g l k];cases Nat.beq j k<;>rfl
theorem AC.kill_wf {id:Nat} {a:AC} (h:AC.wf aB aC a):AC.wf aB aC (a.kill id):=by
 cases a with
 |own j w n=>simp only[AC.kill];cases Nat.beq j id<;>first|exact h|trivial
 |rptr j i s=>simp only[AC.kill];cases Nat.beq j id<;>first|exact h|trivial
 |_=>exact h
theorem AC.kill_free (id:Nat) (a:AC):AC.free id (a.kill id):=by
 cases a with
 |own j w n=>
  simp only[AC.kill];cases hb:Nat.beq j id
  ·exact λe=>by rw[e]at hb;simp at hb
  ·trivial
 |rptr j i s=>
  simp only[AC.kill];cases hb:Nat.beq j id
  ·exact λe=>by rw[e]at hb;simp at hb
  ·trivial
 |_=>trivial
theorem AC.kill_CC {id:Nat} {a:AC} {x:Value} (h:CC ρ w a x):CC ρ w (a.kill id) x:=by
 cases a with
 |own j w n=>simp only[AC.kill];cases Nat.beq j id<;>first|exact h|exact h.one
 |rptr j i s=>simp only[AC.kill];cases Nat.beq j id<;>first|exact h|exact h.one
 |_=>exact h
theorem CL.kill {id:Nat}:∀{l:List AC} {xs:List Value},CL (CC ρ w) l xs->CL (CC ρ w) (l.map (AC.kill id)) xs
 |[],[],_=>trivial
 |_::_,_::_,h=>⟨AC.kill_CC h.1,CL.kill h.2⟩
 |[],_::_,h=>h.elim
 |_::_,[],h=>h.elim
theorem TV.kill_TVR {id:Nat} {v:TV} {x:Value} (h:TVR ρ w v x):TVR ρ w (v.kill id) x:=by
 cases v with
 |vD=>trivial
 |tup ps=>
  obtain⟨G,rfl,D⟩:=h;refine⟨G,rfl,?_⟩;generalize G.toList=l at D;induction ps generalizing l with
  |nil=>cases l<;>first|exact D|exact D.elim
  |cons p ps M=>
   cases l with
   |nil=>exact D.elim
   |cons y l=>
    obtain⟨g,cs⟩:=p;refine⟨?_,M l D.2⟩;have:=D.1;cases g
    ·obtain⟨a,I,L⟩:=this;subst I;exact⟨_,rfl,AC.kill_CC L⟩
    ·obtain⟨N,I,O⟩:=this;exact⟨N,I,O.kill⟩
 |v g cs=>
  cases g
  ·obtain⟨a,rfl,L⟩:=h;exact⟨_,rfl,AC.kill_CC L⟩
  ·obtain⟨G,rfl,D⟩:=h;exact⟨G,rfl,D.kill⟩
theorem TV.kill_wf {id:Nat} {v:TV} (h:TV.wf aB aC v):TV.wf aB aC (v.kill id):=by
 cases v with
 |v g cs=>
  intro a D;simp only[av]at D;obtain⟨b,hb,rfl⟩:=D;exact AC.kill_wf (h b hb)
 |tup ps=>
  intro p G a D;simp only[av]at G;obtain⟨q,I,rfl⟩:=G;simp only[av]at D;obtain⟨b,hb,rfl⟩:=D;exact AC.kill_wf (h q I b hb)
 |_=>trivial
theorem TV.kill_free (id:Nat) (v:TV):TV.free id (v.kill id):=by
 cases v with
 |v g cs=>
  intro a D;simp only[av]at D;obtain⟨b,hb,rfl⟩:=D;exact AC.kill_free id b
 |tup ps=>
  intro p G a D;simp only[av]at G;obtain⟨q,I,rfl⟩:=G;simp only[av]at D;obtain⟨b,hb,rfl⟩:=D;exact AC.kill_free id b
 |_=>trivial
theorem RelE.kill (h:RelE Z tm aB aC ρ tmps w) (id:Nat):
  RelE Z (tm.map (TV.kill id)) (aB.map λp=>(p.1,p.2.kill id)) aC ρ tmps w:=by
 have I:∀k,Ab (aB.map λp=>(p.1,p.2.kill id)) k=(Ab aB k).map (Box.kill id):=λk=>E_ (Box.kill id) aB k;have G:∀(k:Nat) (b:Box),Ab (aB.map λp=>(p.1,p.2.kill id)) k=some b->∃b',Ab aB k=some b'/\b=b'.kill id:=by
  intro k b D;rw[I]at D;cases V:Ab aB k with
  |none=>rw[V]at D;simp at D
  |some b'=>rw[V]at D;simp at D;exact⟨b',rfl,D.symm⟩
 have M:∀a,AC.wf aB aC a->AC.wf (aB.map λp=>(p.1,p.2.kill id)) aC a:=λa=>AC.wf_mono (λk b D=>⟨b.kill id,by rw[I,D];rfl⟩) (λk r D=>⟨r,D,rfl,rfl⟩);refine⟨by simpa using h.tl,?_,?_,?_,?_,?_,h.ro,h.ri,?_,?_,h.fr,h.fs,h.i0,h.i1,?_⟩
 ·intro i v X;simp only[d8,bh]at X;obtain⟨u,O,rfl⟩:=X;exact TV.kill_TVR (h.tv i u O)
 ·intro v Y;simp only[av]at Y;obtain⟨u,O,rfl⟩:=Y;exact TV.wf_mono M (TV.kill_wf (h.wt u O))
 ·intro k b D a ha;obtain⟨b',L,rfl⟩:=G k b D;simp only[Box.kill,av]at ha;obtain⟨c,hc,rfl⟩:=ha;exact M _ (AC.kill_wf (h.wb k b' L c hc))
 ·intro k b D;obtain⟨b',L,rfl⟩:=G k b D;obtain⟨arr,h1,h2,h3⟩:=h.bx k b' L;exact⟨arr,h1,h2.kill,h3⟩
 ·intro k k' b b' D S;obtain⟨_,N,_⟩:=G k b D;obtain⟨_,p2,_⟩:=G k' b' S;exact h.bi k k' _ _ N p2
 ·intro k b id' r D hr;obtain⟨_,N,_⟩:=G k b D;exact h.br k _ id' r N hr
 ·intro b hb;obtain⟨T,U,q3⟩:=h.ib b hb;refine⟨T,λk bo D=> ?_,q3⟩;obtain⟨_,N,_⟩:=G k bo D;exact U k _ N
 ·intro k b D;obtain⟨T,bo,U⟩:=h.k0 k b D;exact⟨T,bo.kill id,by rw[I,U];rfl⟩
theorem Zx3 {im:Nat->Prop} {ks:List Kd} {b o:Nat}:∀(l:List (List AC)),(∀c∈l,AM ks c=c)->CPss im w ks.length l b o->
  ∃G,RowC im w ks l G/\Ra w b o G:=by
 intro l O h;induction l generalizing o with
 |nil=>exact⟨[],⟨by simp,by simp,λi c L=>by simp at L⟩,λj y h=>by simp at h⟩
 |cons c l T=>
  rw[CPss]at h;obtain⟨G,⟨U,h2,V⟩,X⟩:=T (λc Y=>O c (by simp[Y])) h.2;obtain⟨I,S,h6⟩:=Qmj _ _ _ h.1.2;have D:I.length=ks.length:=by rw[<-S.length];exact h.1.1
  refine⟨I++G,⟨by rw[ap,U,D,bm,dk,gk,jx],O,λi c' L=> ?_⟩,λj y M=> ?_⟩
  ·cases i with
   |zero=>
    simp at L;subst L;have:cut (I++G) (0*ks.length) ks.length=I:=by
     simp only[cut,ik,fo];rw[<-D,List.take_left'];rfl
    rw[this];exact S
   |succ i=>
    have:=V i c' (by simpa using L);have e:cut (I++G) ((i+1)*ks.length) ks.length=cut G (i*ks.length) ks.length:=by
     simp only[cut];rw[dk,gk,List.drop_append,j8 (by omega),bc,D,Nat.add_sub_cancel]
    rw[e];exact this
  ·rw[fy]at M;split at M
   ·exact h6 j y M
   ·rename_i N;have:=X (j-I.length) y M;rw[D]at this N
    rwa [show o+ks.length+(j-ks.length)=o+j from by omega]at this
theorem Ys {im:Nat->Prop} {ks:List Kd} {l:List (List AC)} {xs:List Value} {v:Value} {e:TypeId} (G:Ef w e ks.length v l.length xs) (D:RowC im w ks l xs)
  (M:∀g,v.ownBlock=some g->im g):CP im w (.vC ks l) v:=by
 rw[CP];rcases G.2 with⟨e1,e2⟩|⟨I,o,cap,cur,e1,e3,S,T,U,V⟩
 ·refine⟨none,0,by rw[e1,e2],by omega,D.2.1, .inl (d6 e2)⟩
 ·refine⟨some ⟨I,o,none⟩,cap,e1,S,D.2.1, .inr ⟨I,o,rfl,M I (by rw[e1];rfl),SA λi O=> ?_⟩⟩;have N:=D.2.2 i l[i] (al O);refine⟨?_,?_⟩
  ·rw[<-D.2.1 l[i] (cg O)];exact S7 _ _
  ·refine Vp _ (cut xs (i*ks.length) ks.length) I _ N ?_;intro j y L;simp only[cut,fv]at L;split at L
   ·rw[ee]at L;have:=Qt G (g:=I) (by rw[e1];rfl) (i*ks.length+j) y L;rw[e1]at this;simpa [Hs,dm]using this
   ·simp at L
theorem Q9 {a:AC} {x:Value} {G:Env} {w':World} (I:a.plain=true) (h:CC ρ w a x) (D:CP ρ.im w a x->CP G.im w' a x):CC G w' a x:=by
 cases a<;>first|exact D h|(simp[AC.plain]at I)
theorem Q4b {ρ2:Env} {v:TV} {x:Value} {w':World} (L:v.plainB=true) (G:∀(a:AC) (x:Value),a.plain=true->CP ρ.im w a x->CP ρ2.im w' a x) (h:TVR ρ w v x):TVR ρ2 w' v x:=by
 have T:∀{l:List AC} {xs:List Value},Ak AC.plain l=true->CL (CC ρ w) l xs->CL (CC ρ2 w') l xs:=λU h=>h.mono λa M x V=>Q9 (Au.1 U a M) V (G a x (Au.1 U a M));cases v with
 |vD=>trivial
 |v g cs=>
  cases g
  ·obtain⟨a,rfl,M⟩:=h;exact⟨a,rfl,Q9 (Au.1 L a (by simp)) M (G a x (Au.1 L a (by simp)))⟩
  ·obtain⟨N,rfl,D⟩:=h;exact⟨N,rfl,T L D⟩
 |tup ps=>
  obtain⟨N,rfl,D⟩:=h;refine⟨N,rfl,?_⟩;generalize N.toList=l at D;simp only[TV.plainB]at L;induction ps generalizing l with
  |nil=>cases l<;>first|exact D|exact D.elim
  |cons p ps X=>
   cases l with
   |nil=>exact D.elim
   |cons y l=>
    obtain⟨g,cs⟩:=p;have I:=Au.1 L (g,cs) (by simp);have O:Ak (λp:Bool×List AC=>Ak AC.plain p.2) ps=true:=Au.2 λq Y=>Au.1 L q (by simp[Y]);refine⟨?_,X O l D.2⟩;have:=D.1;cases g
    ·obtain⟨a,S,M⟩:=this;subst S;exact⟨a,rfl,Q9 (Au.1 I a (by simp)) M (G a y (Au.1 I a (by simp)))⟩
    ·obtain⟨zs,S,hz⟩:=this;exact⟨zs,S,T I hz⟩
theorem Qw6 {im D:Nat->Prop} {w w':World} {a:AC} {x:Value} (hf:a.flat=true) (h:CP im w a x):CP D w' a x:=by
 cases a<;>simp only[CP,AC.flat]at* <;>first|exact h|(simp at hf)
theorem Zrl {N:Env} {v:TV} {x:Value} {w':World} (hf:v.flat=true) (h:TVR ρ w v x):TVR N w' v x:=by
 have U:∀{l:List AC} {xs:List Value},Ak AC.flat l=true->CL (CC ρ w) l xs->CL (CC N w') l xs:=λL h=>h.mono λa G x X=>by
  have:=Au.1 L a G;have O:a.plain=true:=by cases a<;>first|rfl|(simp[AC.flat]at this)
  exact Q9 O X (Qw6 this)
 have V:∀{a:AC} {x:Value},a.flat=true->CC ρ w a x->CC N w' a x:=fun{a x} L h=>by
  have O:a.plain=true:=by cases a<;>first|rfl|(simp[AC.flat]at L)
  exact Q9 O h (Qw6 L)
 cases v with
 |vD=>trivial
 |v g cs=>
  cases g
  ·obtain⟨a,rfl,G⟩:=h;exact⟨a,rfl,V (Au.1 hf a (by simp)) G⟩
  ·obtain⟨M,rfl,D⟩:=h;exact⟨M,rfl,U hf D⟩
 |tup ps=>
  obtain⟨M,rfl,D⟩:=h;refine⟨M,rfl,?_⟩;generalize M.toList=l at D;simp only[TV.flat]at hf;induction ps generalizing l with
  |nil=>cases l<;>first|exact D|exact D.elim
  |cons p ps Y=>
   cases l with
   |nil=>exact D.elim
   |cons y l=>
    obtain⟨g,cs⟩:=p;have I:=Au.1 hf (g,cs) (by simp);have S:Ak (λp:Bool×List AC=>Ak AC.flat p.2) ps=true:=Au.2 λq hq=>Au.1 hf q (by simp[hq]);refine⟨?_,Y S l D.2⟩;have:=D.1;cases g
    ·obtain⟨a,T,G⟩:=this;subst T;exact⟨a,rfl,V (Au.1 I a (by simp)) G⟩
    ·obtain⟨zs,T,hz⟩:=this;exact⟨zs,T,U I hz⟩
theorem I3 {v:TV} (h:v.plainB=true):TV.wf aB aC v:=by
 have D:∀{l:List AC},Ak AC.plain l=true->∀a∈l,AC.wf aB aC a:=λh a G=>by
  have:=Au.1 h a G;cases a<;>first|trivial|(simp[AC.plain]at this)
 cases v with
 |vD=>trivial
 |v g cs=>exact D h
 |tup ps=>exact λp I=>D (Au.1 h p I)
theorem Zdb {im:Nat->Prop} {a:AC} {x:Value} (h:CP im w a x):AC.wf aB aC a:=by
 cases a<;>first|trivial|(simp[CP]at h)
theorem Zmg {im:Nat->Prop} {l:List AC} {xs:List Value} (h:CL (CP im w) l xs):∀a∈l,AC.wf aB aC a:=by
 induction l generalizing xs with
 |nil=>intro a D;simp at D
 |cons b l G=>
  cases xs with
  |nil=>exact h.elim
  |cons y xs=>
   intro a D;simp only[ax]at D;rcases D with rfl|D
   ·exact Zdb h.1
   ·exact G h.2 a D
theorem Zep {U:Env} (S:∀(a L:AC) (x:Value),a.res aC=some L->CC ρ w a x->AC.wf aB aC a->CC U w L x) {v V:TV} {x:Value} (M:v.res aC=some V) (X:TV.wf aB aC v) (h:TVR ρ w v x):TVR U w V x:=by
 have Y:∀(cs I:List AC) (xs:List Value),Ee aC cs=some I->(∀a∈cs,AC.wf aB aC a)->CL (CC ρ w) cs xs->CL (CC U w) I xs:=by
  intro cs;induction cs with
  |nil=>intro I xs G _ O;simp[Ee]at G;subst G;cases xs<;>first|exact O|exact O.elim
  |cons a cs ih=>
   intro I xs G T O;cases xs with
   |nil=>exact O.elim
   |cons y xs=>
    simp only[Ee]at G;split at G
    ·rename_i L N;split at G
     ·rename_i l' D;simp at G;subst G;exact⟨S a L y N O.1 (T a (by simp)),ih _ _ D (λb hb=>T b (by simp[hb])) O.2⟩
     ·simp at G
    ·simp at G
 cases v with
 |vD=>simp[TV.res]at M
 |tup ps=>simp[TV.res]at M
 |v g cs=>
  simp only[TV.res]at M;split at M
  ·rename_i l D;simp at M;subst M;cases g
   ·obtain⟨a,rfl,ha⟩:=h;simp only[Ee]at D;split at D
    ·rename_i L N;simp at D;subst D;exact⟨L,rfl,S a L x N ha (X a (by simp))⟩
    ·simp at D
   ·obtain⟨ys,rfl,hy⟩:=h;exact⟨ys,rfl,Y _ _ _ D X hy⟩
  ·simp at M
theorem Zyk {a D:AC} (h:a.res aC=some D):D.plain=true:=by
 cases a<;>simp only[AC.res]at h<;>try (simp at h;done)
 case own=>split at h<;>simp at h;subst h;rfl
 all_goals (simp at h;subst h;rfl)
theorem Qtn:∀{l G:List AC},Ee aC l=some G->Ak AC.plain G=true
 |[],G,h=>by simp[Ee]at h;subst h;rfl
 |a::l,G,h=>by
  simp only[Ee]at h;split at h
  ·rename_i M I;split at h
   ·rename_i L D;simp at h;subst h;simp only[Ak,Zyk I,ag];exact Qtn D
   ·simp at h
  ·simp at h
theorem Qrz:∀{l G:List TV},E2 aC l=some G->G.length=l.length/\∀(i:Nat) (L:TV),G[i]? =some L->L.plainB=true/\∃a,l[i]? =some a/\a.res aC=some L
 |[],G,h=>by simp[E2]at h;subst h;exact⟨rfl,λi a h=>by simp at h⟩
 |a::l,G,h=>by
  simp only[E2]at h;split at h
  ·rename_i L D;split at h
   ·rename_i M I;simp at h;subst h;obtain⟨N,O⟩:=Qrz I;refine⟨by simp[N],λi b hb=> ?_⟩;cases i with
    |zero=>
     simp at hb;subst hb;refine⟨?_,a,rfl,D⟩;cases a with
     |vD=>simp[TV.res]at D
     |tup=>simp[TV.res]at D
     |v g cs=>
      simp only[TV.res]at D;split at D
      ·rename_i q S;simp at D;subst D;exact Qtn S
      ·simp at D
    |succ i=>simpa using O i b (by simpa using hb)
   ·simp at h
  ·simp at h
end
end Go.Bm
