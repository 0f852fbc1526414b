/- the abstract machine -/
import Derived.WalkKit
import Derived.ProofKit
import Derived.Laws.StructEq
import Derived.Maps.AppendAt
set_option linter.unusedVariables false
set_option linter.unusedSimpArgs false
namespace Go.Bm
theorem aa {c:Prop} {_:Decidable c} (h:c:=by omega) {α:Sort _} {t e:α}:ite c t e=t:=if_pos h
theorem ab {c:Prop} {_:Decidable c} (h:¬c:=by omega) {α:Sort _} {t e:α}:ite c t e=e:=if_neg h
abbrev ac:=@List.length_map
abbrev af:=@Int.toNat_natCast
abbrev ag:=@Nat.eq_of_beq_eq_true
abbrev ah:=@decide_eq_true
abbrev ai:=@List.getElem?_eq_getElem
abbrev aj:=@cond_true
abbrev ak:=@Bool.and_eq_true
abbrev al:=@decide_eq_false
abbrev am:=@Option.bind_some
abbrev an:=@Option.some.injEq
abbrev ap:=@List.length_append
abbrev aq:=@cond_false
abbrev av:=@List.mem_cons
abbrev ax:=@List.cons_append
abbrev ay:=@List.nil_append
abbrev az:=@Nat.le_of_ble_eq_true
abbrev ba:=@List.mem_map
abbrev bc:=@Int.eq_ofNat_of_zero_le
abbrev be:=@List.map_cons
abbrev bf:=@List.length_cons
abbrev bg:=@Nat.mul_le_mul_right
abbrev bh:=@List.getElem_mem
abbrev bj:=@Nat.le_trans
abbrev bm:=@Option.bind_eq_some_iff
abbrev bn:=@Option.map_eq_some_iff
abbrev bp:=@List.map_append
abbrev bq:=@List.mem_append
abbrev bt:=@Nat.le_refl
abbrev bv:=@List.length_nil
abbrev bz:=@List.mem_of_getElem?
abbrev cd:=@Nat.mul_le_mul
abbrev cg:=@decide_eq_true_eq
abbrev cm:=@Int.natCast_mul
abbrev co:=@Int.tdiv_eq_ediv_of_nonneg
abbrev cq:=@Array.getElem?_eq_some_iff
abbrev cx:=@Nat.mul_comm
abbrev cy:=@Eq.trans
abbrev cz:=@List.drop_of_length_le
abbrev da:=@List.map_nil
abbrev db:=@Nat.lt_of_lt_of_le
abbrev dc:=@List.length_drop
abbrev de:=@Bool.false_eq_true
abbrev df:=@Prod.mk.injEq
abbrev dg:=@iff_of_false
abbrev dh:=@Nat.zero_add
abbrev dk:=@List.mem_of_mem_take
abbrev dl:=@List.mem_of_mem_drop
abbrev dm:=@Result.andThen_ok
abbrev dp:=@Nat.eq_zero_or_pos
abbrev dq:=@Int.fdiv_eq_ediv_of_nonneg
abbrev dt:=@Nat.mul_assoc
abbrev du:=@List.getElem?_map
abbrev dv:=@Nat.two_pow_pos
abbrev dw:=@Nat.pow_succ
abbrev dx:=@Nat.mul_lt_mul_of_pos_right
abbrev dy:=@Nat.div_lt_iff_lt_mul
abbrev dz:=@List.foldl_cons
abbrev d6:=@List.cons.injEq
abbrev d7:=@Int.natAbs_mul_self
abbrev d8:=@Int.mul_le_mul
abbrev d9:=@List.append_assoc
abbrev eg:=@List.getD_eq_getElem?_getD
abbrev eu:=@List.mem_singleton
abbrev ew:=@if_true
abbrev ez:=@Nat.ble_eq_true_of_le
abbrev fa:=@List.length_singleton
abbrev fc:=@Nat.div_add_mod
abbrev fd:=@List.getElem?_drop
abbrev fe:=@Array.length_toList
abbrev ff:=@List.mem_or_eq_of_mem_set
abbrev fg:=@List.getElem?_eq_some_iff
abbrev fh:=@List.drop_zero
abbrev fj:=@Int.mul_le_mul_of_nonneg_right
abbrev fm:=@Classical.choose_spec
abbrev fo:=@Nat.mul_self_lt_mul_self
abbrev fq:=@List.mem_replicate
abbrev fu:=@Int.natAbs_natCast
abbrev fv:=@iff_of_true
abbrev fx:=@List.length_take
abbrev fy:=@List.eq_nil_of_length_eq_zero
abbrev f6:=@Int.le_refl
abbrev f7:=@List.getElem?_append
abbrev f8:=@Nat.div_le_self
abbrev f9:=@if_false
abbrev gd:=@Nat.mod_lt
abbrev gf:=@List.take_length
abbrev gh:=@List.getElem_map
abbrev gi:=@Nat.succ_mul
abbrev gj:=@List.getElem?_take
abbrev gk:=@BitVec.toNat_ofInt
abbrev gn:=@List.nodup_nil
abbrev gp:=@List.drop_eq_getElem_cons
abbrev gq:=@List.ext_getElem?
abbrev gr:=@List.append_nil
abbrev gv:=@Int.natCast_add
abbrev gw:=@Int.mul_self_le_mul_self
abbrev gx:=@Nat.add_mul
abbrev gy:=@Nat.add_assoc
abbrev gz:=@Int.mul_nonneg
abbrev ia:=@List.take_of_length_le
abbrev ic:=@Int.cast_ofNat_Int
abbrev ie:=@congrArg
abbrev ig:=@List.take_add_one
abbrev ii:=@Int.tmod_eq_emod_of_nonneg
abbrev ij:=@List.mem_cons_of_mem
abbrev ik:=@forall_eq_or_imp
abbrev il:=@Int.mul_comm
abbrev ip:=@Int.add_zero
abbrev iq:=@Nat.le_mul_of_pos_right
abbrev iu:=@not_true_eq_false
abbrev iv:=@not_false_eq_true
abbrev iw:=@Nat.mul_add
abbrev iy:=@Int.one_mul
abbrev iz:=@and_true
abbrev i6:=@Nat.sub_self
abbrev i7:=@List.take_append_drop
abbrev i8:=@Array.getElem?_append
abbrev i9:=@List.drop_append_of_le_length
abbrev ja:=@Array.toList_map
abbrev jb:=@dif_pos
abbrev jc:=@Nat.two_pow_add_eq_or_of_lt
abbrev jd:=@Nat.mul_le_mul_left
abbrev je:=@List.replicate_succ
abbrev jf:=@List.nodup_cons
abbrev jg:=@Int.natCast_one
abbrev jh:=@Int.add_mul
abbrev ji:=@Array.getD_eq_getD_getElem?
abbrev jj:=@Nat.lt_or_ge
abbrev jk:=@Int.zero_mul
abbrev jl:=@Int.emod_lt_of_pos
abbrev jm:=@List.getElem?_append_left
abbrev jn:=@List.drop_drop
abbrev jo:=@Bool.not_eq_true'
abbrev jp:=@List.map_take
abbrev jq:=@List.map_drop
abbrev jr:=@Int.natCast_zero
abbrev js:=@List.getElem_cons_succ
abbrev jt:=@List.drop_eq_nil_of_le
def Qnl:Option (Nat×List Value):=some (2,(List.range 20).map λi=>Value.int .u64 (10^i))
def Gt (F:Nat->Prop) (w:World):Prop:=∀g cs,Qnl=some (g,cs)->F g/\∃t z,w.heap[g]? =some (.cells cs.toArray t z)
theorem Gt.mono {F D:Nat->Prop} {w w':World} (h:Gt F w) (G:∀g cs,Qnl=some (g,cs)->F g->D g/\w'.heap[g]? =w.heap[g]?):Gt D w':=by
 intro g cs e;obtain⟨I,t,z,L⟩:=h g cs e;obtain⟨M,N⟩:=G g cs e I;exact⟨M,t,z,by rw[N];exact L⟩
inductive Kd where
 |int (k:IntKind)
 |bool
 |sl (ks:List Kd)
 |raw
inductive AC where
 |vD
 |int (k:IntKind) (n:Int)
 |bool (b:Bool)
 |raw (v:Value)
 |nilSl
 |ptr (key off:Nat)
 |own (id w n:Nat)
 |vC (ks:List Kd) (l:List (List AC))
 |rptr (id idx sub:Nat)
 |vptr (cells:List AC) (sub:Nat)
 |clo (f:FuncId) (first caps:List AC)
 |bsl (key n:Nat)
inductive TV where
 |vD
 |v (g:Bool) (cs:List AC)
 |tup (ps:List (Bool×List AC))
abbrev TV.c (a:AC):TV:= .v false [a]
abbrev TV.agg (cs:List AC):TV:= .v true cs
def Ah:AC->Int
 | .int _ n=>n
 |_=>0
def Fb:AC->Bool
 | .bool b=>b
 |_=>false
def Bd:AC->ByteArray
 | .raw (.string s)=>s
 |_=>⟨#[]⟩
def AX:AC->List (List AC)
 | .vC _ l=>l
 |_=>[]
structure Box where
 ty:TypeId
 cells:List AC
variable {R:Type}
def nth {α:Type} (d:α):List α->Nat->α
 |[],_=>d
 |x::_,0=>x
 |_::xs,n+1=>nth d xs n
def Mh:Kd->AC->AC
 | .int k,a=> .int k (Ah a)
 | .bool,a=> .bool (Fb a)
 | .sl ks,a=> .vC ks (AX a)
 | .raw, .raw v=> .raw v
 | .raw,_=> .vD
def EA:List Kd->List AC->Nat->List AC
 |[],_,_=>[]
 |k::ks,cs,j=>Mh k (nth .vD cs j)::EA ks cs (j+1)
def AE (ks:List Kd) (cs:List AC):List AC:=EA ks cs 0
structure Row where
 ty:TypeId
 ks:List Kd
 l:List (List AC)
abbrev Row.w (r:Row):Nat:=r.ks.length
abbrev Row.n (r:Row):Nat:=r.l.length
abbrev Row.f (r:Row) (i:Nat):List AC:=AE r.ks (nth [] r.l i)
structure Mem where
 aB:List (Nat×Box)
 aC:List (Nat×Row)
structure St where
 tmps:List TV
 aB:List (Nat×Box)
 aC:List (Nat×Row)
def setL {α:Type}:List α->Nat->α->List α
 |[],_,_=>[]
 |_::xs,0,v=>v::xs
 |x::xs,n+1,v=>x::setL xs n v
def AQ {α:Type}:List α->(List α->Option R)->Option R
 |[],K=>K []
 |x::xs,K=>AQ xs λD=>K (x::D)
def Ac {α:Type}:List (Nat×α)->Nat->Option α
 |[],_=>none
 |(k,b)::l,key=>bif Nat.beq k key then some b else Ac l key
def upd {α:Type}:List (Nat×α)->Nat->α->List (Nat×α)
 |[],_,_=>[]
 |(k,b)::l,key,x=>bif Nat.beq k key then(k,x)::l else(k,b)::upd l key x
def ins {α:Type}:List (Nat×α)->Nat->α->List (Nat×α)
 |[],key,x=>[(key,x)]
 |(k,b)::l,key,x=>bif Nat.blt key k then(key,x)::(k,b)::l else(k,b)::ins l key x
def cut {α:Type} (l:List α) (off m:Nat):List α:=(l.drop off).take m
def splice {α:Type}:List α->Nat->List α->List α
 |l,_,[]=>l
 |[],_,_::_=>[]
 |_::xs,0,v::D=>v::splice xs 0 D
 |x::xs,n+1,v::D=>x::splice xs n (v::D)
def No:Value->AC
 | .int k n=> .int k n
 | .bool b=> .bool b
 | .slice none 0 0=> .nilSl
 | .string s=> .raw (.string s)
 | .pointer none=> .raw (.pointer none)
 | .nilFunc=> .raw .nilFunc
 | .nilIface=> .raw .nilIface
 |_=> .vD
def IS:List Value->Option (List AC)
 |[]=>some []
 | v :: l => bif v.oneCell' then (match IS l with
  |some cs=>some (No v::cs)
  |none=>none)else none
def ofValue:Value->TV
 | .agg cs=>match IS cs.toList with
  |some l=> .agg l
  |none=> .vD
 | .tuple _=> .vD
 |v=> .c (No v)
def TV.cells:TV->Option (List AC)
 | .v _ cs=>some cs
 |_=>none
def TV.int? :TV->Option Int
 | .v false [.int _ n]=>some n
 |_=>none
def kEq:IntKind->IntKind->Bool
 | .i8, .i8| .i16, .i16| .i32, .i32| .i64, .i64| .u8, .u8| .u16, .u16| .u32, .u32| .u64, .u64=>true
 |_,_=>false
def AC.plain:AC->Bool
 | .int _ _| .bool _| .raw _| .nilSl| .vC _ _=>true
 |_=>false
def AC.calm:AC->Bool
 | .int _ _| .bool _| .raw _| .nilSl| .vC _ _| .vD=>true
 |_=>false
def Ao {α:Type} (p:α->Bool):List α->Bool
 |[]=>true
 |x::l=>bif p x then Ao p l else false
mutual
def EH:Kd->Kd->Bool
 | .int k, .int k'=>kEq k k'
 | .bool, .bool=>true
 | .sl ks, .sl D=>C6 ks D
 | .raw, .raw=>true
 |_,_=>false
def C6:List Kd->List Kd->Bool
 |[],[]=>true
 |k::ks,k'::D=>bif EH k k' then C6 ks D else false
 |_,_=>false
end
def Qv:Kd->AC->Option AC
 | .int k, .int k' n=>bif kEq k k' then some (.int k n)else none
 | .bool, .bool b=>some (.bool b)
 | .sl ks, .nilSl=>some (.vC ks [])
 | .sl ks, .vC D l=>bif C6 ks D then some (.vC ks l)else none
 | .raw, .raw v=>some (.raw v)
 |_,_=>none
def GU:List Kd->List AC->Option (List AC)
 |[],[]=>some []
 |k::ks,a::cs=>match Qv k a with
  |some G=>match GU ks cs with
   |some D=>some (G::D)
   |none=>none
  |none=>none
 |_,_=>none
def HE (ks:List Kd):Nat->List AC->Option (List (List AC))
 |0,[]=>some []
 |0,_=>none
 |n+1,cs=>match GU ks (cs.take ks.length)with
  |some c=>match HE ks n (cs.drop ks.length)with
   |some l=>some (c::l)
   |none=>none
  |none=>none
inductive Prim where
 |val (v:TV)
 |load (agg:Bool) (sz key off:Nat)
 |store (key off:Nat) (cells:List AC)
 |new (ty:TypeId) (cells:List AC)
 |newS (ty:TypeId) (n:Nat) (cells:List AC)
 |cutR (id a:Nat)
 |rload (agg:Bool) (sz id idx sub:Nat)
 |rstore (id idx sub:Nat) (cells:List AC)
 |append (e:TypeId) (ks:List Kd) (bytes:Nat) (s x:AC)
 |newRow (e:TypeId) (ks:List Kd) (l:List (List AC))
 |newView (e:TypeId) (ks:List Kd) (l:List (List AC))
 |make (e:TypeId) (ks:List Kd) (bytes:Nat) (n:Int) (z:List AC)
 |call (f:FuncId) (args:List TV)
 |callM (f:FuncId) (args:List TV)
 |callD (f:FuncId) (args:List TV)
 |callF (f:FuncId) (args:List TV)
 |appD (e:TypeId) (ks:List Kd) (bytes:Nat) (s x:AC)
def mn (x y:Int):Int:=if y<x then y else x
def mx (x y:Int):Int:=if y>x then y else x
def HC (op:BinOp) (k:IntKind) (a b:Int) (K:AC->Option R):Option R:=
 match op with
 | .add=>K (.int k (k.wrap (a+b)))
 | .sub=>K (.int k (k.wrap (a-b)))
 | .mul=>K (.int k (k.wrap (a*b)))
 | .quo=>cond (decide (b=0)) none (K (.int k (k.wrap (a.tdiv b))))
 | .rem=>cond (decide (b=0)) none (K (.int k (a.tmod b)))
 | .and=>K (.int k (k.wrap ((BitVec.ofInt k.bits a&&&BitVec.ofInt k.bits b).toNat:Int)))
 | .or=>K (.int k (k.wrap ((BitVec.ofInt k.bits a|||BitVec.ofInt k.bits b).toNat:Int)))
 | .xor=>K (.int k (k.wrap ((BitVec.ofInt k.bits a^^^BitVec.ofInt k.bits b).toNat:Int)))
 | .andNot=>K (.int k (k.wrap ((BitVec.ofInt k.bits a&&& ~~~BitVec.ofInt k.bits b).toNat:Int)))
 | .eql=>K (.bool (a==b))
 | .neq=>K (.bool (a !=b))
 | .lss=>K (.bool (decide (a<b)))
 | .leq=>K (.bool (decide (a<=b)))
 | .gtr=>K (.bool (decide (a>b)))
 | .geq=>K (.bool (decide (a>=b)))
 | .shl=>cond (decide (b<0)) none (K (.int k (k.wrap (a*2^(min b.toNat k.bits)))))
 | .shr=>cond (decide (b<0)) none (K (.int k (a.fdiv (2^(min b.toNat k.bits)))))
def Nq:BinOp->Bool
 | .shl| .shr=>true
 |_=>false
inductive CS where
 |any
 |int (k:IntKind)
 |bool
 |sl (ks:List Kd)
 |rawc
 |str
 |nil
 |nilp
 |ptr (key off:Nat)
 |own (id w:Nat)
 |clo (f:FuncId) (fs cs:List (Nat×Nat))
 |bsl (key n:Nat)
inductive TS where
 |vD
 |v (g:Bool) (cs:List CS)
 |tup (ps:List (Bool×List CS))
structure Sk where
 tmps:List TS
 aB:List (Nat×TypeId×List CS):=[]
 aC:List (Nat×TypeId×List Kd):=[]
inductive Ex where
 |normal
 |exit (id:Nat)
 |ret
def Spec:=∀R:Type,List TV->Mem->(TV->Mem->Option R)->Option R
def IU:=∀R:Type,List AC->(Ex->St->Option R)->Option R
def FX:List (Nat×Spec)->FuncId->Option Spec
 |[],_=>none
 |(k,b)::l,f=>bif Nat.beq k f then some b else FX l f
structure Cfg where
 spec:FuncId->Option Spec
 eqOk:List TypeId:=[]
 tprom:List (Nat×TypeId):=[]
 prom:Nat->List (Nat×TypeId):=λ_=>[]
 loops:Nat->Option (Sk×IU):=λ_=>none
 blocks:Nat->Option (Sk×IU):=λ_=>none
 conds:Nat->Option (Sk×IU):=λ_=>none
 pure:FuncId->Bool:=λ_=>true
 ro:FuncId->Bool:=λ_=>false
 lend:FuncId->Bool:=λ_=>false
 keepR:FuncId->Bool:=λ_=>false
 keepIn:Bool:=false
 ownOff:TypeId->List (Nat×TypeId):=λ_=>[]
 rowAs:Nat->Nat:=λd=>d
 ownBut:List Nat:=[]
 rowDst:List Nat:=[]
 cuts:List Nat:=[]
 fstore:Bool:=false
 ownRes:Bool:=false
 unroll:List Nat:=[]
section prog
variable (P:Program)
def CN (t:TypeId):Option Bool:=
 match P.underlying t with
 |some (.struct _)=>some true
 |some (.array _ _)=>some true
 |some _=>some false
 |none=>none
def szT (t:TypeId):Option Nat:=
 match P.info? t with
 |some i=>some i.size
 |none=>none
def Jr (t:TypeId):Option (List AC):=
 match P.info? t with
 |some i=>match i.zero with
  |some v=>IS v.cells.toList
  |none=>none
 |none=>none
def Uh (t:TypeId) (i:Nat):Option Field:=
 match P.underlying t with
 |some (.struct fs)=>fs.toList[i]?
 |_=>none
def Dw (agg:Bool) (sz:Nat) (cells:List AC) (off:Nat):Option TV:=
 bif agg then(bif Nat.ble (off+sz) cells.length then some (.agg (cut cells off sz))else none)
 else match cells[off]? with
  |some a=>some (.c a)
  |none=>none
def Iq (t:TypeId) (n:Nat):Bool:=
 match CN P t with
 |some true=>true
 |some false=>Nat.beq n 1
 |none=>false
def I3 {β:Type} (g:β->Option Bool):List β->Option Bool
 |[]=>some true
 |x::l=>match g x with
  |some b=>match I3 g l with
   |some b'=>some (b&&b')
   |none=>none
  |none=>none
def eqC (ok:List TypeId):Nat->TypeId->List AC->List AC->Option Bool
 |0,_,_,_=>none
 |d+1,t,xs,ys=>
  match P.underlying t with
  |some .bool=>match xs,ys with
   |[.bool a],[.bool b]=>some (a==b)
   |_,_=>none
  |some (.int _)=>match xs,ys with
   |[.int k a],[.int k' b]=>bif kEq k k' then some (a==b)else none
   |_,_=>none
  | some (.struct fs) => bif ok.elem t then I3 (λf : Field => bif f.name == "_" then none else match szT P f.type with
    |some n=>bif(Nat.ble (f.offset+n) xs.length&&Nat.ble (f.offset+n) ys.length&&Iq P f.type n)then eqC ok d f.type (cut xs f.offset n) (cut ys f.offset n)else none
    |none=>none) fs.toList else none
  |some (.array n e)=>match szT P e with
   |some m=>bif(Nat.ble (n*m) xs.length&&Nat.ble (n*m) ys.length&&Iq P e m)then I3 (λi=>eqC ok d e (cut xs (i*m) m) (cut ys (i*m) m)) (List.range n)else none
   |none=>none
  |_=>none
def GX (i:Int):(todo k:Nat)->(Nat->Option R)->Option R
 |0,_,_=>none
 |n+1,k,K=>cond (decide (i=(k:Int))) (K k) (GX i n (k+1) K)
def NM (t:TypeId) (cs:List AC) (off:Nat):Option TV:=
 match CN P t,szT P t with
 |some a,some sz=>Dw a sz cs off
 |_,_=>none
def Gy (place:Nat->Option (Nat×Nat)):List AC->List (Nat×TV)->Option (List AC)
 |cells,[]=>some cells
 |cells,(i,v)::rest=>
  match place i,v.cells with
  |some (off,size),some cs=>bif(Nat.beq cs.length size&&Nat.ble (off+size) cells.length)then Gy place (splice cells off cs) rest else none
  |_,_=>none
def Q2e (g:TypeId->Option (List Kd)):List Field->Nat->Option (List Kd)
 |[],_=>some []
 |f::fs,o=>match g f.type with
  | some ks => bif Nat.beq f.offset o then (match Q2e g fs (o + ks.length) with
   |some l=>some (ks++l)
   |none=>none)else none
  |none=>none
def Re (ks:List Kd):Nat->List Kd
 |0=>[]
 |n+1=>ks++Re ks n
def GO:Nat->TypeId->Option (List Kd)
 |0,_=>none
 |n+1,t=>match P.underlying t with
  |some .bool=>some [.bool]
  |some (.int k)=>some [.int k]
  |some (.slice e)=>match GO n e with
   |some ks=>some [.sl ks]
   |none=>none
  |some (.struct fs)=>Q2e (GO n) fs.toList 0
  |some (.array m e)=>match GO n e with
   |some ks=>some (Re ks m)
   |none=>none
  |some _=>some [.raw]
  |none=>none
def chunk (zero:List AC):Nat->List AC
 |0=>[]
 |n+1=>zero++chunk zero n
def Fh (g:Int->Int->Int) (k:IntKind) (a:Int):List TV->(Prim->Option R)->Option R
 |[],K=>K (.val (.c (.int k a)))
 |t::rest,K=>match t with
  | .v false [.int k' b]=>bif kEq k k' then Fh g k (g a b) rest K else none
  |_=>none
def JJ (b:Builtin) (argTypes:List TypeId) (args:List TV) (K:Prim->Option R):Option R:=
 match b,args with
 | .len,[.v false [.vC _ l]]=>match argTypes with
  |t::_=>match P.underlying t with
   |some (.slice _)=>K (.val (.c (.int .i64 (l.length:Int))))
   |_=>none
  |[]=>none
 | .len,[.v false [.own _ _ n]]=>match argTypes with
  |t::_=>match P.underlying t with
   |some (.slice _)=>K (.val (.c (.int .i64 (n:Int))))
   |_=>none
  |[]=>none
 | .len,[.v false [.bsl _ n]]=>match argTypes with
  |t::_=>match P.underlying t with
   |some (.slice _)=>K (.val (.c (.int .i64 (n:Int))))
   |_=>none
  |[]=>none
 | .len,[.v false [.nilSl]]=>match argTypes with
  |t::_=>match P.underlying t with
   |some (.slice _)=>K (.val (.c (.int .i64 0)))
   |_=>none
  |[]=>none
 | .len,[.v true _]=>match argTypes with
  |t::_=>match P.underlying t with
   |some (.array n _)=>K (.val (.c (.int .i64 (n:Int))))
   |_=>none
  |[]=>none
 | .min, .v false [.int k a]::rest=>Fh mn k a rest K
 | .max, .v false [.int k a]::rest=>Fh mx k a rest K
 | .append,[.c s, .c x]=>match argTypes with
  |[t,u]=>match P.underlying t,P.underlying u with
   |some (.slice e),some (.slice _)=>match P.info? e,GO P 8 e with
    |some i,some ks=>match i.zero with
     |some z=>bif(Nat.beq t u&&Nat.beq z.cells.size i.size&&Nat.beq ks.length i.size)then K (.append e ks i.bytes s x)else none
     |none=>none
    |_,_=>none
   |_,_=>none
  |_=>none
 |_,_=>none
def KA (D:Operand->TV):Option Operand->Option (Option Int)
 |none=>some none
 |some x=>match(D x).int? with
  |some n=>some (some n)
  |none=>none
def BT (D:Operand->TV):List Operand->List TV
 |[]=>[]
 |x::l=>D x::BT D l
def FC (D:Operand->TV):List (Nat×Operand)->List (Nat×TV)
 |[]=>[]
 |x::l=>(x.1,D x.2)::FC D l
def LM (f:Field):Bool:=
 match szT P f.type with
 |some _=>true
 |none=>false
def Xy (fs:List Field) (i:Nat):Option (Nat×Nat):=
 match fs[i]? with
 |some f=>match szT P f.type with
  |some n=>some (f.offset,n)
  |none=>none
 |none=>none
variable (C:Cfg)
def ZZ (dst:Option Tmp) (n:Nat):Bool:=match dst with
 |some d=>C.rowDst.elem d||Nat.beq n 0
 |none=>false
def AC.isClo:AC->Bool
 | .clo _ _ _=>true
 |_=>false
def AC.clOk:AC->Bool
 | .int _ _| .bool _| .raw _| .nilSl| .vC _ _| .ptr _ _=>true
 |_=>false
def JA:List TV->Option (List AC)
 |[]=>some []
 | .v false [a] :: l => bif a.clOk then (match JA l with
  |some r=>some (a::r)
  |none=>none)else none
 |_=>none
def opK (D:Operand->TV) (dst:Option Tmp) (o:Op) (K:Prim->Option R):Option R:=
 match o with
 | .move x=>K (.val (D x))
 | .assign x=>K (.val (D x))
 | .pick c a b=>match D c with
  | .v false [.bool g]=>cond g (K (.val (D a))) (K (.val (D b)))
  |_=>none
 | .alloc t=>match Jr P t with
  |some cs=>K (.new t cs)
  |none=>none
 | .box t x=>match(D x).cells with
  |some cs=>K (.new t cs)
  |none=>none
 | .build t parts=>match Jr P t,P.underlying t with
  |some z,some (.struct fs)=>bif Ao (LM P) fs.toList then match Gy (Xy P fs.toList) z (FC D parts.toList)with
   |some cs=>K (.val (.agg cs))
   |none=>none else none
  |some z,some (.array _ e)=>match szT P e with
   |some n=>match Gy (λi=>some (i*n,n)) z (FC D parts.toList)with
    |some cs=>K (.val (.agg cs))
    |none=>none
   |none=>none
  |_,_=>none
 | .buildSlice t n parts=>match P.underlying t with
  |some (.slice e)=>match szT P e,Jr P e,GO P 8 e with
   |some w,some z,some ks=>bif(Nat.beq z.length w&&Nat.beq ks.length w&&Nat.ble 1 w&&Nat.ble (n*w) 65536)then match Gy (λi=>some (i*w,w)) (chunk z n) (FC D parts.toList)with
    |some cs=>match HE ks n cs with
     |some l=>cond (ZZ C dst n) (K (.newRow e ks l)) (K (.newView e ks l))
     |none=>bif Ao AC.isClo cs&&Nat.beq w 1 then K (.newS e n cs)else none
    |none=>none else none
   |_,_,_=>none
  |_=>none
 | .makeSlice t len cap=>match P.underlying t,(D len).int?,(D cap).int? with
  |some (.slice e),some n,some c=>match P.info? e,Jr P e,GO P 8 e with
   |some i,some z,some ks=>match GU ks z with
    |some L=>bif(Nat.beq ks.length i.size&&Nat.ble 1 i.size&&Nat.ble 1 i.bytes)then cond (decide (n=c)) (K (.make e ks i.bytes n L)) none else none
    |none=>none
   |_,_,_=>none
  |_,_,_=>none
 | .makeFunc M first captured=>match M with
  | .func f=>match JA (BT D first.toList),JA (BT D captured.toList)with
   |some fs,some cs=>K (.val (.c (.clo f fs cs)))
   |_,_=>none
  |_=>none
 | .load t a=>match CN P t,szT P t with
  |some g,some sz=>match D a with
   | .v false [.ptr key off]=>K (.load g sz key off)
   | .v false [.vptr cells sub]=>match Dw g sz cells sub with
    |some v=>K (.val v)
    |none=>none
   | .v false [.rptr id idx sub]=>K (.rload g sz id idx sub)
   |_=>none
  |_,_=>none
 | .store t a x=>match szT P t,(D x).cells with
  |some sz,some cs=>bif Nat.beq cs.length sz then match D a with
    | .v false [.ptr key off]=>K (.store key off cs)
    | .v false [.rptr id idx sub]=>K (.rstore id idx sub cs)
    |_=>none else none
  |_,_=>none
 | .nilCheck x=>match D x with
  | .v false [.ptr key off]=>K (.val (.c (.ptr key off)))
  | .v false [.rptr id idx sub]=>K (.val (.c (.rptr id idx sub)))
  | .v false [.vptr cs sub]=>K (.val (.c (.vptr cs sub)))
  |_=>none
 | .binOp op t x y _=>match D x,D y with
  | .v false [.int k a], .v false [.int k' b]=>bif kEq k k'||Nq op then HC op k a b λv=>K (.val (.c v))else none
  | .v false [.bool a], .v false [.bool b]=>match P.underlying t,op with
   |some .bool, .eql=>K (.val (.c (.bool (a==b))))
   |some .bool, .neq=>K (.val (.c (.bool (!(a==b)))))
   |_,_=>none
  | .v false [.raw (.string a)], .v false [.raw (.string b)]=>match op with
   | .eql=>K (.val (.c (.bool (a.toList==b.toList))))
   | .neq=>K (.val (.c (.bool (!(a.toList==b.toList)))))
   | .add=>cond (Nat.ble (a.size+b.size) 9223372036854775807) (K (.val (.c (.raw (.string (a++b)))))) none
   |_=>none
  | .v false [.ptr _ _], .v false [.raw (.pointer none)]=>match P.underlying t,op with
   |some (.pointer _), .eql=>K (.val (.c (.bool false)))
   |some (.pointer _), .neq=>K (.val (.c (.bool true)))
   |_,_=>none
  | .v false [.raw (.pointer none)], .v false [.raw (.pointer none)]=>match P.underlying t,op with
   |some (.pointer _), .eql=>K (.val (.c (.bool true)))
   |some (.pointer _), .neq=>K (.val (.c (.bool false)))
   |_,_=>none
  | .v true xs, .v true N=>bif P.eqGuardType P.depth t then none else match CN P t,eqC P C.eqOk 20 t xs N,op with
   |some true,some r, .eql=>K (.val (.c (.bool r)))
   |some true,some r, .neq=>K (.val (.c (.bool (!r))))
   |_,_,_=>none
  |_,_=>none
 | .unOp op _ x=>match op,D x with
  | .neg, .v false [.int k n]=>K (.val (.c (.int k (k.wrap (0-n)))))
  | .not, .v false [.bool b]=>K (.val (.c (.bool (!b))))
  |_,_=>none
 | .convert src dst x=>match P.underlying src,P.underlying dst,D x with
  |some _,some (.int k), .v false [.int _ n]=>K (.val (.c (.int k (k.wrap n))))
  |_,_,_=>none
 | .fieldAddr t x i=>match Uh P t i with
  |some f=>match szT P f.type with
   |some (_+1)=>match D x with
    | .v false [.ptr key off]=>K (.val (.c (.ptr key (off+f.offset))))
    | .v false [.rptr id idx sub]=>K (.val (.c (.rptr id idx (sub+f.offset))))
    | .v false [.vptr cs sub]=>K (.val (.c (.vptr cs (sub+f.offset))))
    |_=>none
   |_=>none
  |none=>none
 | .field t x i=>match Uh P t i,D x with
  |some f, .v true cs=>match NM P f.type cs f.offset with
   |some v=>K (.val v)
   |none=>none
  |_,_=>none
 | .indexAddr t x I=>match(D I).int?,P.underlying t with
  |some i,some (.array n e)=>match szT P e,D x with
   |some m, .v false [.ptr key off]=>GX i n 0 λj=>K (.val (.c (.ptr key (off+j*m))))
   |some m, .v false [.rptr id idx sub]=>GX i n 0 λj=>K (.val (.c (.rptr id idx (sub+j*m))))
   |some m, .v false [.vptr cs sub]=>GX i n 0 λj=>K (.val (.c (.vptr cs (sub+j*m))))
   |_,_=>none
  |some i,some (.slice e)=>match szT P e,D x with
   |some m, .v false [.vC ks l]=>bif Nat.beq m ks.length then cond (decide (0<=i)&&decide (i<(l.length:Int))) (K (.val (.c (.vptr (AE ks (nth [] l i.toNat)) 0)))) none else none
   |some m, .v false [.own id w n]=>bif Nat.beq m w then cond (decide (0<=i)&&decide (i<(n:Int))) (K (.val (.c (.rptr id i.toNat 0)))) none else none
   |some m, .v false [.bsl key n]=>bif Nat.beq m 1 then GX i n 0 λj=>K (.val (.c (.ptr key j)))else none
   |_,_=>none
  |_,_=>none
 | .index t x I=>match(D I).int?,P.underlying t,D x with
  |some i,some (.array n e), .v true cs=>match szT P e with
   |some m=>GX i n 0 λj=>match NM P e cs (j*m)with
    |some v=>K (.val v)
    |none=>none
   |none=>none
  |_,_,_=>none
 | .slice t x lo G mx=>match mx,KA D lo,KA D G,P.underlying t with
  |none,some lo,some G,some (.slice e)=>match szT P e,D x with
   |some m, .v false [.vC ks l]=>bif Nat.beq m ks.length then
    match lo,G with
    |none,none=>K (.val (.c (.vC ks l)))
    |some a,none=>cond (decide (0<=a)&&decide (a<=(l.length:Int))) (K (.val (.c (.vC ks (l.drop a.toNat))))) none
    |none,some b=>cond (decide (0<=b)&&decide (b<=(l.length:Int))) (K (.val (.c (.vC ks (l.take b.toNat))))) none
    |some a,some b=>cond (decide (0<=a)&&decide (a<=b)&&decide (b<=(l.length:Int))) (K (.val (.c (.vC ks ((l.take b.toNat).drop a.toNat))))) none
    else none
   |some m, .v false [.own id w n]=>match lo,G with
    |some a,none=>bif Nat.beq m w then cond (decide (0<=a)&&decide (a<=(n:Int))) (K (.cutR id a.toNat)) none else none
    |_,_=>none
   |some _, .v false [.nilSl]=>match lo,G with
    |none,none=>K (.val (.c .nilSl))
    |some a,none=>cond (decide (a=0)) (K (.val (.c .nilSl))) none
    |none,some b=>cond (decide (b=0)) (K (.val (.c .nilSl))) none
    |some a,some b=>cond (decide (a=0)&&decide (b=0)) (K (.val (.c .nilSl))) none
   |_,_=>none
  |_,_,_,_=>none
 | .extract t i=>match D t with
  | .tup ps=>match ps[i]? with
   |some (g,cs)=>K (.val (.v g cs))
   |none=>none
  |_=>none
 | .call c=>match c.callee with
  | .builtin b=>JJ P b c.argTypes.toList (BT D c.args.toList) K
  | .value (.func f)=>cond (C.pure f) (K (.call f (BT D c.args.toList))) (K (.callM f (BT D c.args.toList)))
  | .value (.tmp t)=>match D (.tmp t)with
   | .v false [.clo f fs cs]=>bif Ao AC.clOk fs&&Ao AC.clOk cs then K (.callM f (fs.map TV.c++(BT D c.args.toList++cs.map TV.c)))else none
   |_=>none
  |_=>none
 |_=>none
def AL (tmps:List TV):Operand->TV
 | .tmp t=>nth .vD tmps t
 | .const v=>ofValue v
 |_=> .vD
def AC.kill (id:Nat):AC->AC
 | .own j w n=>bif Nat.beq j id then .vD else .own j w n
 | .rptr j a b=>bif Nat.beq j id then .vD else .rptr j a b
 |a=>a
def TV.kill (id:Nat):TV->TV
 | .v g cs=> .v g (cs.map (AC.kill id))
 | .tup ps=> .tup (ps.map λp=>(p.1,p.2.map (AC.kill id)))
 | .vD=> .vD
def Box.kill (id:Nat) (b:Box):Box:=⟨b.ty,b.cells.map (AC.kill id)⟩
def AC.fz (id:Nat) (ks:List Kd) (l:List (List AC)):AC->AC
 | .own j w n=>bif Nat.beq j id then .vC ks l else .own j w n
 | .rptr j a b=>bif Nat.beq j id then .vD else .rptr j a b
 |a=>a
def TV.fz (id:Nat) (ks:List Kd) (l:List (List AC)):TV->TV
 | .v g cs=> .v g (cs.map (AC.fz id ks l))
 | .tup ps=> .tup (ps.map λp=>(p.1,p.2.map (AC.fz id ks l)))
 | .vD=> .vD
def Box.fz (id:Nat) (ks:List Kd) (l:List (List AC)) (b:Box):Box:=⟨b.ty,b.cells.map (AC.fz id ks l)⟩
def del {α:Type} (id:Nat):List (Nat×α)->List (Nat×α)
 |[]=>[]
 |(k,b)::l=>bif Nat.beq k id then del id l else(k,b)::del id l
def IE:List Nat->St->(St->Option R)->Option R
 |[],s,K=>K s
 |id::l,⟨tmps,aB,aC⟩,K=>match Ac aC id with
  |some r=>AQ (tmps.map (TV.fz id r.ks r.l)) λG=>AQ (aB.map λp=>(p.1,p.2.fz id r.ks r.l)) λD=>AQ (del id aC) λI=>IE l ⟨G,D,I⟩ K
  |none=>IE l ⟨tmps,aB,aC⟩ K
def AC.res (aC:List (Nat×Row)):AC->Option AC
 | .own id _ _=>match Ac aC id with
  |some r=>some (.vC r.ks r.l)
  |none=>none
 | .int k n=>some (.int k n)
 | .bool b=>some (.bool b)
 | .raw v=>some (.raw v)
 | .nilSl=>some .nilSl
 | .vC ks l=>some (.vC ks l)
 |_=>none
def Er (aC:List (Nat×Row)):List AC->Option (List AC)
 |[]=>some []
 |a::l=>match a.res aC with
  |some D=>match Er aC l with
   |some G=>some (D::G)
   |none=>none
  |none=>none
def TV.res (aC:List (Nat×Row)):TV->Option TV
 | .v g cs=>match Er aC cs with
  |some l=>some (.v g l)
  |none=>none
 |_=>none
def FH (aC:List (Nat×Row)):List TV->Option (List TV)
 |[]=>some []
 |a::l=>match a.res aC with
  |some D=>match FH aC l with
   |some G=>some (D::G)
   |none=>none
  |none=>none
def AC.isOwn:AC->Bool
 | .own _ _ _=>true
 |_=>false
def TV.hasOwn:TV->Bool
 | .v _ cs=>cs.any AC.isOwn
 |_=>true
def AC.flat:AC->Bool
 | .int _ _| .bool _| .raw _| .nilSl=>true
 |_=>false
def TV.flat:TV->Bool
 | .v _ cs=>Ao AC.flat cs
 | .tup ps=>Ao (λp:Bool×List AC=>Ao AC.flat p.2) ps
 | .vD=>false
def TV.plainB:TV->Bool
 | .v _ cs=>Ao AC.plain cs
 | .tup ps=>Ao (λp:Bool×List AC=>Ao AC.plain p.2) ps
 | .vD=>false
def Prim.dr:Bool->Prim->Prim
 |false, .callM f args=>bif Ao TV.plainB args then .callF f args else .callD f args
 |false, .append e ks b s x=> .appD e ks b s x
 |_,p=>p
def ID (aC:List (Nat×Row)) (ks:List Kd):AC->Option (List (List AC))
 | .nilSl=>some []
 | .vC D l=>bif C6 ks D then some l else none
 | .own id _ _=>match Ac aC id with
  |some r=>bif C6 ks r.ks then some r.l else none
  |none=>none
 |_=>none
def put (s:St) (dst:Option Tmp) (v:TV) (K:St->Option R):Option R:=
 match dst with
 |none=>K s
 |some d=>match s with
  |⟨tmps,aB,aC⟩=>AQ (setL tmps d v) λl=>K ⟨l,aB,aC⟩
def AC.keys:AC->List Nat
 | .ptr k _=>[k]
 | .bsl k _=>[k]
 | .clo _ fs cs=>keysL fs++keysL cs
 |_=>[]
 where keysL:List AC->List Nat
 |[]=>[]
 | .ptr k _::l=>k::keysL l
 |_::l=>keysL l
def AC.ids:AC->List Nat
 | .own id _ _=>[id]
 |_=>[]
def cat {α β:Type} (g:α->List β):List α->List β
 |[]=>[]
 |a::l=>g a++cat g l
def TV.cellsOf:TV->List AC
 | .v _ cs=>cs
 | .tup ps=>cat (λp:Bool×List AC=>p.2) ps
 | .vD=>[]
def QW (n:Nat):List Nat->List Nat
 |[]=>[n]
 |m::l=>bif Nat.beq m n then m::l else m::QW n l
def A6:List Nat->List Nat->List Nat
 |[],l=>l
 |n::D,l=>A6 D (QW n l)
def Ev (aB:List (Nat×Box)) (k:Nat):List AC:=match Ac aB k with
 |some b=>b.cells
 |none=>[]
def Yax (aB:List (Nat×Box)) (keys:List Nat):List Nat:=A6 (cat (λk=>cat AC.keys (Ev aB k)) keys) keys
def Ly (aB:List (Nat×Box)):Nat->List Nat->List Nat
 |0,l=>l
 |n+1,l=>Ly aB n (Yax aB l)
def Og (aB:List (Nat×Box)) (cells:List AC) (keys:List Nat):List Nat:=
 A6 (cat AC.ids cells++cat (λk=>cat AC.ids (Ev aB k)) keys) []
def pos:List Nat->Nat->Nat
 |[],_=>0
 |m::l,n=>bif Nat.beq m n then 0 else pos l n+1
def AN:List Nat->Nat->Bool
 |[],_=>false
 |m::l,n=>bif Nat.beq m n then true else AN l n
def AC.ren (rk ri:Nat->Nat):AC->AC
 | .ptr k o=> .ptr (rk k) o
 | .bsl k n=> .bsl (rk k) n
 | .own id w n=> .own (ri id) w n
 | .rptr id i s=> .rptr (ri id) i s
 | .clo f fs cs=> .clo f (renP rk fs) (renP rk cs)
 |a=>a
 where renP (rk:Nat->Nat):List AC->List AC
 |[]=>[]
 | .ptr k o::l=> .ptr (rk k) o::renP rk l
 |a::l=>a::renP rk l
def TV.ren (D ri:Nat->Nat):TV->TV
 | .v g cs=> .v g (cs.map (AC.ren D ri))
 | .tup ps=> .tup (ps.map λp=>(p.1,p.2.map (AC.ren D ri)))
 | .vD=> .vD
def AC.inK (keys ids:List Nat):AC->Bool
 | .ptr k _=>AN keys k
 | .bsl k _=>AN keys k
 | .own id _ _=>AN ids id
 | .rptr id _ _=>AN ids id
 | .clo _ fs cs=>Ao (inP keys) fs&&Ao (inP keys) cs
 |_=>true
 where inP (keys:List Nat):AC->Bool
 | .ptr k _=>AN keys k
 |_=>true
def TV.inK (keys ids:List Nat):TV->Bool
 | .v _ cs=>Ao (AC.inK keys ids) cs
 | .tup ps=>Ao (λp:Bool×List AC=>Ao (AC.inK keys ids) p.2) ps
 | .vD=>true
def Da (aB:List (Nat×Box)) (D ri:Nat->Nat):Nat->List Nat->Option (List (Nat×Box))
 |_,[]=>some []
 |b,k::ks=>match Ac aB k with
  |some x=>match Da aB D ri (b+1) ks with
   |some l=>some ((b,⟨x.ty,x.cells.map (AC.ren D ri)⟩)::l)
   |none=>none
  |none=>none
def Fy (aC:List (Nat×Row)):Nat->List Nat->Option (List (Nat×Row))
 |_,[]=>some []
 |b,k::ks=>match Ac aC k with
  |some x=>match Fy aC (b+1) ks with
   |some l=>some ((b,x)::l)
   |none=>none
  |none=>none
def base:Nat:=20000
def Bz (names fresh:List Nat) (d:Nat) (n:Nat):Nat:=
 bif Nat.ble base n&&Nat.blt (n-base) names.length then nth 0 names (n-base)else 100000+100*d+pos fresh n
def Bi {α:Type} (names:List Nat):List (Nat×α)->List Nat
 |[]=>[]
 |(k,_)::l=>bif Nat.ble base k&&Nat.blt (k-base) names.length then Bi names l else k::Bi names l
def Dd {α:Type}:List Nat->List (Nat×α)->List (Nat×α)
 |[],l=>l
 |k::ks,l=>Dd ks (del k l)
def JD (D ri:Nat->Nat):List (Nat×Box)->List (Nat×Box)->List (Nat×Box)
 |[],l=>l
 |(k,b)::m,l=>JD D ri m (ins l (D k) ⟨b.ty,b.cells.map (AC.ren D ri)⟩)
def Ia (ri:Nat->Nat):List (Nat×Row)->List (Nat×Row)->List (Nat×Row)
 |[],l=>l
 |(k,b)::m,l=>Ia ri m (ins l (ri k) b)
def CW (keys:List Nat):List (Nat×Box)->List (Nat×Box)->List (Nat×Box)
 |[],l=>l
 |(k,b)::m,l=>CW keys m (upd l (nth 0 keys (k-base)) b)
def HM (ids:List Nat) (v:TV):TV:=match ids with
 |[]=>v
 |id::l=>HM l (v.kill id)
def C9 (ids:List Nat) (b:Box):Box:=match ids with
 |[]=>b
 |id::l=>C9 l (b.kill id)
def KS {α:Type} (l:List (Nat×α)) (k:Nat):Bool:=match Ac l k with
 |some _=>false
 |none=>true
def B8:List Nat->Bool
 |[]=>true
 |k::l=>bif AN l k then false else B8 l
def FZ {α:Type} (l:List (Nat×α)) (k:Nat):Bool:=match Ac l k with
 |some _=>true
 |none=>false
def IT (d:Nat):Nat:=100000+100*d
def AC.relen (id D:Nat):AC->AC
 | .own j w n=>bif Nat.beq j id then .own j w D else .own j w n
 | .rptr j a b=>bif Nat.beq j id then .vD else .rptr j a b
 |a=>a
def TV.relen (id D:Nat):TV->TV
 | .v g cs=> .v g (cs.map (AC.relen id D))
 | .tup ps=> .tup (ps.map λp=>(p.1,p.2.map (AC.relen id D)))
 | .vD=> .vD
def Box.relen (id D:Nat) (b:Box):Box:=⟨b.ty,b.cells.map (AC.relen id D)⟩
def Qfq:List TV->Option Nat
 | .v false [.own id _ _]::rest=>bif Ao TV.plainB rest then some id else none
 |_=>none
def Sa (g:Spec) (args:List TV) (tmps:List TV) (aB:List (Nat×Box)) (aC:List (Nat×Row)) (K:TV->St->Option R):Option R:=
 match Qfq args with
 |some id=>match Ac aC id with
  |some r=>g R (args.map (TV.ren (λk=>base+pos [] k) (λi=>base+pos [id] i))) ⟨[],[(base,r)]⟩ λv m=>match m with
   |⟨[],[(k,r')]⟩=>bif Nat.beq k base&&Nat.beq r'.ty r.ty&&C6 r'.ks r.ks&&v.plainB then
     AQ (tmps.map (TV.relen id r'.l.length)) λG=>AQ (aB.map λp=>(p.1,p.2.relen id r'.l.length)) λD=>AQ (upd aC id r') λI=>K v ⟨G,D,I⟩else none
   |_=>none
  |none=>none
 |none=>none
def A5 (dst:Option Tmp) (p:Prim) (s:St) (K:TV->St->Option R):Option R:=
 match s with
 |⟨tmps,aB,aC⟩=>
 match p with
 | .val v=>K v ⟨tmps,aB,aC⟩
 | .load g sz key off=>match Ac aB key with
  |some b=>match Dw g sz b.cells off with
   |some v=>K v ⟨tmps,aB,aC⟩
   |none=>none
  |none=>none
 | .store key off cs=>match Ac aB key with
  |some b=>bif Nat.ble (off+cs.length) b.cells.length then
    AQ (splice b.cells off cs) λcells=>AQ (upd aB key ⟨b.ty,cells⟩) λD=>K .vD ⟨tmps,D,aC⟩
   else none
  |none=>none
 | .new ty cs=>match dst with
  |some d=>match Ac aB d with
   |some _=>none
   |none=>AQ (ins aB d ⟨ty,cs⟩) λD=>K (.c (.ptr d 0)) ⟨tmps,D,aC⟩
  |none=>none
 | .newS ty n cs=>match dst with
  |some d=>match Ac aB d with
   |some _=>none
   |none=>AQ (ins aB d ⟨ty,cs⟩) λD=>K (.c (.bsl d n)) ⟨tmps,D,aC⟩
  |none=>none
 | .cutR id a=>match Ac aC id with
  |some r=>bif Nat.ble a r.l.length then
    AQ (tmps.map (TV.kill id)) λI=>
    AQ (aB.map λp=>(p.1,p.2.kill id)) λD=>
    AQ (upd aC id ⟨r.ty,r.ks,r.l.drop a⟩) λG=>
    K (.c (.own id r.ks.length (r.l.drop a).length)) ⟨I,D,G⟩
   else none
  |none=>none
 | .rload g sz id idx sub=>match Ac aC id with
  |some r=>match Dw g sz (r.f idx) sub with
   |some v=>K v ⟨tmps,aB,aC⟩
   |none=>none
  |none=>none
 | .rstore id idx sub cs=>match Ac aC id with
  |some r=>bif Nat.ble (sub+cs.length) r.w&&Ao AC.plain cs then
    match GU r.ks (splice (r.f idx) sub cs)with
    |some c=>AQ (upd aC id ⟨r.ty,r.ks,r.l.set idx c⟩) λG=>K .vD ⟨tmps,aB,G⟩
    |none=>none else none
  |none=>none
 | .newRow e ks l=>match dst with
  |some d=>match Ac aC (C.rowAs d)with
   |some _=>none
   |none=>AQ (ins aC (C.rowAs d) ⟨e,ks,l⟩) λG=>K (.c (.own (C.rowAs d) ks.length l.length)) ⟨tmps,aB,G⟩
  |none=>none
 | .newView _ ks l=>K (.c (.vC ks l)) ⟨tmps,aB,aC⟩
 | .make e ks bytes n z=>match dst with
  |some d=>match Ac aC d with
   |some _=>none
   |none=>cond (decide (0<=n)&&decide (n*(bytes:Int)<=140737488355328))
     (AQ (ins aC d ⟨e,ks,List.replicate n.toNat z⟩) λG=>K (.c (.own d ks.length (List.replicate n.toNat z).length)) ⟨tmps,aB,G⟩) none
  |none=>none
 | .append e ks bytes s x=>match ID aC ks x with
  |some m=>match s with
   | .nilSl=>match dst with
    |some d=>match Ac aC d with
     |some _=>none
     |none=>bif(Nat.ble 1 ks.length&&Nat.ble 1 bytes)then cond (Nat.ble (m.length*bytes) 140737488355328) (AQ (ins aC d ⟨e,ks,m⟩) λG=>K (.c (.own d ks.length m.length)) ⟨tmps,aB,G⟩) none else none
    |none=>none
   | .own id _ _=>match Ac aC id with
    |some r=>bif(C6 ks r.ks&&Nat.beq r.ty e&&Nat.ble 1 bytes)then
      cond (Nat.ble ((r.l ++ m).length * bytes) 140737488355328) (
       AQ (tmps.map (TV.kill id)) λI=>
       AQ (aB.map λp=>(p.1,p.2.kill id)) λD=>
       AQ (upd aC id ⟨e,r.ks,r.l++m⟩) λG=>
       K (.c (.own id r.ks.length (r.l++m).length)) ⟨I,D,G⟩) none
     else none
    |none=>none
   |_=>none
  |none=>none
 | .appD e ks bytes s x=>match ID aC ks x with
  |some m=>match s with
   | .own id _ _=>match Ac aC id with
    |some r=>bif(C6 ks r.ks&&Nat.beq r.ty e&&Nat.ble 1 bytes)then
      cond (Nat.ble ((r.l ++ m).length * bytes) 140737488355328) (
       AQ (tmps.map (TV.kill id)) λI=>
       AQ (aB.map λp=>(p.1,p.2.kill id)) λD=>
       AQ (upd aC id ⟨e,r.ks,r.l++m⟩) λG=>
       K (.c (.own id r.ks.length (r.l++m).length)) ⟨I,D,G⟩) none
     else none
    |none=>none
   | .nilSl=>match dst with
    |some d=>match Ac aC d with
     |some _=>none
     | none => bif (Nat.ble 1 ks.length && Nat.ble 1 bytes) then cond (Nat.ble (m.length * bytes) 140737488355328) (
       AQ (tmps.map (TV.kill d)) λI=>
       AQ (aB.map λp=>(p.1,p.2.kill d)) λD=>
       AQ (ins aC d ⟨e,ks,m⟩) λG=>K (.c (.own d ks.length m.length)) ⟨I,D,G⟩) none else none
    |none=>none
   |_=>none
  |none=>none
 | .call f args=>match C.spec f with
  |some g=>match FH aC args with
   |some as=>g R as ⟨[],[]⟩ λv m=>match m with
    |⟨[],[]⟩=>bif((!(args.any TV.hasOwn)||v.flat)&&v.plainB)then K v ⟨tmps,aB,aC⟩else none
    |_=>none
   |none=>none
  |none=>none
 | .callM f args=>match C.spec f with
  |some g=>bif C.keepR f then Sa g args tmps aB aC K else
   AQ (Ly aB 4 (A6 (cat AC.keys (cat TV.cellsOf args)) [])) λkeys=>
   AQ (Og aB (cat TV.cellsOf args) keys) λids=>
   bif Ao (TV.inK keys ids) args&&Ao (λk=>Ao (AC.inK keys ids) (Ev aB k)) keys&&B8 keys&&B8 ids then
    match Da aB (λk=>base+pos keys k) (λi=>base+pos ids i) base keys,Fy aC base ids with
    |some N,some T=>g R (args.map (TV.ren (λk=>base+pos keys k) (λi=>base+pos ids i))) ⟨N,T⟩ λv m=>match m with
     |⟨L,M⟩=>
      AQ (Bi keys L) λS=>AQ (Bi ids M) λO=>
      bif Ao (λp:Nat×Box=>FZ L p.1) N&&B8 (L.map (·.1))&&B8 (M.map (·.1))&&Ao (λk=>KS aB (Bz keys S (dst.getD 0) k)) S&&Ao (λk=>KS aC (Bz ids O (dst.getD 0) k)) O&&Nat.ble S.length 100&&Nat.ble O.length 100 then
       AQ (tmps.map (HM ids)) λI=>
       AQ (JD (Bz keys S (dst.getD 0)) (Bz ids O (dst.getD 0)) L ((Dd keys aB).map λp=>(p.1,C9 ids p.2))) λD=>
       AQ (Ia (Bz ids O (dst.getD 0)) M (Dd ids aC)) λG=>
       K (v.ren (Bz keys S (dst.getD 0)) (Bz ids O (dst.getD 0))) ⟨I,D,G⟩
      else none
    |_,_=>none
   else none
  |none=>none
 | .callD f args=>match C.spec f with
  |some g=>
   AQ (A6 (cat AC.keys (cat TV.cellsOf args)) []) λkeys=>
   bif Ao (TV.inK keys []) args&&Ao (λk=>Ao AC.calm (Ev aB k)) keys&&B8 keys then
    match Da aB (λk=>base+pos keys k) (λi=>base+pos [] i) base keys with
    |some N=>g R (args.map (TV.ren (λk=>base+pos keys k) (λi=>base+pos [] i))) ⟨N,[]⟩ λv m=>match m with
     |⟨L,[]⟩=>
      bif Ao (λp:Nat×Box=>FZ L p.1) N&&Ao (λp:Nat×Box=>FZ N p.1) L&&B8 (L.map (·.1))&&Ao (λp:Nat×Box=>Ao AC.calm p.2.cells) L&&v.plainB then
       AQ (CW keys L aB) λD=>K v ⟨tmps,D,aC⟩
      else none
     |⟨_,_::_⟩=>none
    |none=>none
   else none
  |none=>none
 | .callF f args=>match C.spec f with
  |some g=>bif Ao TV.plainB args then g R args ⟨[],[]⟩ λv m=>match m with
   |⟨[],[]⟩=>bif v.plainB then K v ⟨tmps,aB,aC⟩else none
   |⟨[],[(k,r)]⟩=>match v with
    | .v false [.own j _ _] => bif Nat.beq j k then (match Ac aC (IT (dst.getD 0)) with
     |some _=>none
     |none=>AQ (ins aC (IT (dst.getD 0)) r) λG=>K (.c (.own (IT (dst.getD 0)) r.ks.length r.l.length)) ⟨tmps,aB,G⟩)else none
    |_=>none
   |_=>none
   else none
  |none=>none
def P_ (ops:List Oper) (o:Oper) (s:St) (run skip:St->Option R):Option R:=
 match o.guard with
 |none=>run s
 |some (j,want)=>match ops[j]? with
  |some D=>match D.dst with
   |some t=>match nth .vD s.tmps t with
    | .v false [.bool g]=>cond g (put s (some t) (.c (.bool true)) (bif want then run else skip)) (put s (some t) (.c (.bool false)) (bif want then skip else run))
    | .tup []=>skip s
    |_=>none
   |none=>none
  |none=>none
def Ml (k o:Nat) (e:TypeId) (s:St) (K:St->Option R):Option R:=match s with
 |⟨tmps,aB,aC⟩=>match Ac aB k with
  |some b=>match nth .vD b.cells o with
   | .nilSl=>match GO P 8 e with
    |some ks=>bif Nat.ble 1 ks.length&&KS aC (1000000+1000*k+o)then
      AQ (ins aC (1000000+1000*k+o) ⟨e,ks,[]⟩) λG=>AQ (setL b.cells o (.own (1000000+1000*k+o) ks.length 0)) λcells=>AQ (upd aB k ⟨b.ty,cells⟩) λD=>K ⟨tmps,D,G⟩
     else none
    |none=>none
   |_=>K ⟨tmps,aB,aC⟩
  |none=>K ⟨tmps,aB,aC⟩
def Jb:List (Nat×Nat×TypeId)->St->(St->Option R)->Option R
 |[],s,K=>K s
 |(k,o,e)::l,s,K=>Ml P k o e s λD=>Jb l D K
def DH:List Kd->List AC->List AC
 | .sl ks::l, .nilSl::cs=> .vC ks []::DH l cs
 |_::l,a::cs=>a::DH l cs
 |_,cs=>cs
def Tl (b:Box):Box:=match GO P 8 b.ty with
 |some ks=>⟨b.ty,DH ks b.cells⟩
 |none=>b
def I8:List (Nat×TypeId)->St->(St->Option R)->Option R
 |[],s,K=>K s
 |(t,e)::l,⟨tmps,aB,aC⟩,K=>match nth .vD tmps t with
  | .v false [.nilSl]=>match Ac aC t,GO P 8 e with
   |none,some ks=>bif Nat.ble 1 ks.length then AQ (setL tmps t (.c (.own t ks.length 0))) λD=>AQ (ins aC t ⟨e,ks,[]⟩) λG=>I8 l ⟨D,aB,G⟩ K else none
   |_,_=>none
  |_=>I8 l ⟨tmps,aB,aC⟩ K
def H3 (s:St) (K:St->Option R):Option R:=
 Jb P (cat (λp:Nat×Box=>bif AN C.ownBut p.1 then []else(C.ownOff p.2.ty).map λq=>(p.1,q.1,q.2)) s.aB) s λG=>match G with
  |⟨tmps,aB,aC⟩=>AQ (aB.map λp=>(p.1,Tl P p.2)) λD=>I8 P C.tprom ⟨tmps,D,aC⟩ K
def Yfq:TV->Bool
 | .v false [.rptr _ _ _]=>true
 |_=>false
def Ydu (C:Cfg):Operand->Bool
 | .tmp t=>AN C.cuts t
 |_=>false
def Zek (D:Operand->TV) (o:Op):List Nat:=
 match o with
 | .slice _ x _ _ _=>bif Ydu C x then []else cat AC.ids (TV.cellsOf (D x))
 | .store _ a x=>bif C.fstore||Yfq (D a)then cat AC.ids (TV.cellsOf (D x))else []
 | .buildSlice _ _ parts=>cat AC.ids (cat TV.cellsOf (parts.toList.map λp=>D p.2))
 | .makeFunc _ a b=>cat AC.ids (cat TV.cellsOf (BT D a.toList++BT D b.toList))
 | .call c=>match c.callee with
  | .value (.func f)=>bif C.lend f then []else cat AC.ids (cat TV.cellsOf (BT D c.args.toList))
  | .value _=>cat AC.ids (cat TV.cellsOf (BT D c.args.toList))
  |_=>[]
 |_=>[]
def Zmx (o:Op):Bool:=match o with
 | .call c=>match c.callee with
  | .value (.func f)=> !(C.pure f)
  | .value _=>true
  |_=>false
 |_=>false
def Jo (o:Op) (s:St) (K:St->Option R):Option R:=
 IE (Zek C (AL s.tmps) o) s λD=>bif Zmx C o then H3 P C D K else K D
def E_ (pre:Bool) (ops:List Oper) (o:Oper) (s:St) (K:Option Prim->St->Option R):Option R:=
 P_ ops o s
  (λs=>(bif pre then Jo P C o.op s else λK=>K s) λs=>opK P C (AL s.tmps) o.dst o.op λp=>A5 C o.dst (p.dr pre) s λv D=>put D o.dst v (K (some (p.dr pre))))
  (λs=>put s o.dst (.tup []) (K none))
def Prim.simple:Option Prim->Bool
 |none=>true
 |some (.val _)=>true
 |some (.load _ _ _ _)=>true
 |some (.store _ _ _)=>true
 |some (.new _ _)=>true
 |some (.newView _ _ _)=>true
 |some (.rload _ _ _ _ _)=>true
 |some (.call _ _)=>true
 |some (.callD _ _)=>true
 |some (.callF _ _)=>true
 |some (.newRow _ _ _)=>true
 |some (.appD _ _ _ _ _)=>true
 |_=>false
def AC.live:AC->Bool
 | .int _ _| .bool _| .raw _| .nilSl| .vC _ _| .ptr _ _=>true
 |_=>false
def Prim.isPtr:Option Prim->Bool
 |some (.val (.v false [.ptr _ _]))=>true
 |_=>false
def Prim.isLive:Option Prim->Bool
 |some (.val (.v _ cs))=>Ao AC.live cs
 |_=>false
def Prim.isCallP:Option Prim->Bool
 |some (.call _ args)=>Ao TV.plainB args
 |_=>false
def Prim.isLoad:Option Prim->Bool
 |some (.load _ _ _ _)=>true
 |_=>false
def Zgk:Operand->Bool
 | .const _=>true
 |_=>false
def oneP:List (Nat×Operand)->Bool
 |[(0,_)]=>true
 |_=>false
def Prim.isView:Option Prim->Bool
 |some (.newView _ _ _)=>true
 |_=>false
def Prim.still (o:Op) (p:Option Prim):Bool:=match o with
 | .move _=>Prim.isLive p
 | .nilCheck _=>Prim.isPtr p
 | .fieldAddr _ _ _=>Prim.isPtr p
 | .call _=>Prim.isCallP p
 | .load _ _=>Prim.isLoad p
 | .build _ parts=>Ao (λq:Nat×Operand=>Zgk q.2) parts.toList&&Prim.isLive p
 | .buildSlice _ n parts=>Nat.beq n 1&&oneP parts.toList&&Prim.isView p
 |_=>false
def Prim.isApp:Option Prim->Bool
 |some (.appD _ _ _ _ _)=>true
 |_=>false
def Prim.isMk:Option Prim->Bool
 |some (.newRow _ _ _)=>true
 |some (.callF _ _)=>true
 |_=>false
def Prim.mkStill:Option Prim->Bool
 |none=>true
 |some (.val _)=>true
 |some (.load _ _ _ _)=>true
 |some (.newView _ _ _)=>true
 |some (.call _ args)=>Ao TV.plainB args
 |some (.newRow _ _ _)=>true
 |some (.callF _ _)=>true
 |_=>false
def It (y:Oper) (G:Option Prim) (x:Oper) (D:Option Prim):Bool:=
 bif Prim.isApp G then !(Prim.isApp D)&&y.guard.isNone&&x.guard.isNone&&Prim.still x.op D
 else bif Prim.isApp D then y.guard.isNone&&x.guard.isNone&&Prim.still y.op G
 else bif Prim.isMk G then Prim.mkStill D else bif Prim.isMk D then Prim.mkStill G else true
def Prim.meet (ro:FuncId->Bool):Option Prim->Option Prim->Bool
 |some (.load _ _ k _),some (.store k' _ _)=>Nat.beq k k'
 |some (.store k _ _),some (.load _ _ k' _)=>Nat.beq k k'
 |some (.store k _ _),some (.store k' _ _)=>Nat.beq k k'
 |some (.callD f as),some (.load _ _ k _)=> !(ro f)&&AN (A6 (cat AC.keys (cat TV.cellsOf as)) []) k
 |some (.callD _ as),some (.store k _ _)=>AN (A6 (cat AC.keys (cat TV.cellsOf as)) []) k
 |some (.load _ _ k _),some (.callD f as)=> !(ro f)&&AN (A6 (cat AC.keys (cat TV.cellsOf as)) []) k
 |some (.store k _ _),some (.callD _ as)=>AN (A6 (cat AC.keys (cat TV.cellsOf as)) []) k
 |some (.callD f _),some (.callD g _)=> !(ro f&&ro g)
 |_,_=>false
def Io (ops:List Oper):List Oper->St->(St->Option R)->Option R
 |[],s,K=>K s
 |o::l,s,K=>E_ P C true ops o s λ_ D=>Io ops l D K
def SR (m:List Nat):List Edge->Nat->Nat
 |[],acc=>acc
 |e::l,acc=>SR m l (bif Region.binds .any e then Nat.lor acc (Nat.lor (2^e.on) (nth 0 m e.on))else acc)
def Zd3 {α:Type} (n:Nat) (K:Nat->α):α:=match n with
 |0=>K 0
 |n+1=>K (n+1)
def TG:List Oper->List Nat->(List Nat->Option R)->Option R
 |[],m,K=>K m
 |o::l,m,K=>Zd3 (SR m o.after.toList 0) λx=>AQ (m++[x]) λD=>TG l D K
def LW (m:List Nat) (i j:Nat):Bool:=Nat.testBit (nth 0 m i) j
def Zwf:Op->Bool
 | .call _=>true
 | .makeSlice _ _ _=>true
 | .buildSlice _ _ _=>true
 | .store _ _ _=>true
 | .slice _ _ _ _ _=>true
 |_=>false
def Dn (ops:List Oper) (m:List Nat) (i:Nat):Bool:=match ops[i]? with
 |some o=>Zwf o.op&&Ao (λj=>Nat.beq j i||LW m i j||LW m j i) (List.range ops.length)
 |none=>false
def Ng (ops:List Oper) (m:List Nat):List Oper->Nat->St->(List (Oper×Option Prim)->St->Option R)->Option R
 |[],_,s,K=>K [] s
 |o::l,i,s,K=>E_ P C (Dn ops m i) ops o s λp D=>Ng ops m l (i+1) D λrest G=>K ((o,p)::rest) G
def J0 (ops:Array Oper) (m:List Nat):Nat->List (Nat×Oper×Option Prim)->List (Oper×Option Prim)->Bool
 |_,_,[]=>true
 |i,D,(o,p)::l=>
  bif(Dn ops.toList m i||Prim.simple p)&&o.after.toList.all (λe=> !(Region.binds .any e)||Nat.blt e.on i)&&Ao (λy:Nat×Oper×Option Prim=>LW m i y.1||(!(Dn ops.toList m i)&& !(Dn ops.toList m y.1)&&(Oper.apart ops y.2.1 o&& !(Prim.meet C.ro y.2.2 p)&&It y.2.1 y.2.2 o p))) D then J0 ops m (i+1) (D++[(i,o,p)]) l else false
def Qat (ops:Array Oper) (draw:Bool) (s:St) (K:St->Option R):Option R:=
 bif draw then TG ops.toList [] λm=>Ng P C ops.toList m ops.toList 0 s λacc D=>bif J0 C ops m 0 [] acc then K D else none
 else Io P C ops.toList ops.toList s K
def Jt:List (Nat×Nat)->List AC->Bool
 |[],[]=>true
 |(k,o)::l, .ptr k' D::cs=>Nat.beq k k'&&Nat.beq o D&&Jt l cs
 |_,_=>false
def HT:CS->AC->Option (List AC)
 | .any,_=>some []
 | .int k, .int k' n=>bif kEq k k' then some [.int k n]else none
 | .bool, .bool b=>some [.bool b]
 | .sl ks, .nilSl=>some [.vC ks []]
 | .sl ks, .vC D l=>bif C6 ks D then some [.vC ks l]else none
 | .rawc, .raw v=>some [.raw v]
 | .str, .raw (.string s)=>some [.raw (.string s)]
 | .nil, .nilSl=>some []
 | .nilp, .raw (.pointer none)=>some []
 | .ptr k o, .ptr k' L=>bif Nat.beq k k'&&Nat.beq o L then some []else none
 | .own id w, .own id' w' _=>bif Nat.beq id id'&&Nat.beq w w' then some []else none
 | .bsl k n, .bsl k' M=>bif Nat.beq k k'&&Nat.beq n M then some []else none
 | .clo f fs cs, .clo N G I=>bif Nat.beq f N&&Jt fs G&&Jt cs I then some []else none
 |_,_=>none
def GV:List CS->List AC->Option (List AC)
 |[],[]=>some []
 |c::cs,a::as=>match HT c a with
  |some v=>match GV cs as with
   |some D=>some (v++D)
   |none=>none
  |none=>none
 |_,_=>none
def LY:List (Bool×List CS)->List (Bool×List AC)->Option (List AC)
 |[],[]=>some []
 | (g, cs) :: l, (D, as) :: m => bif g == D then (match GV cs as with
  |some v=>match LY l m with
   |some G=>some (v++G)
   |none=>none
  |none=>none)else none
 |_,_=>none
def JG:TS->TV->Option (List AC)
 | .vD,_=>some []
 | .v g cs, .v D as=>bif g==D then GV cs as else none
 | .tup ps, .tup G=>LY ps G
 |_,_=>none
def Kv:List TS->List TV->Option (List AC)
 |[],[]=>some []
 |t::D,v::G=>match JG t v with
  |some a=>match Kv D G with
   |some l=>some (a++l)
   |none=>none
  |none=>none
 |_,_=>none
def JU:List (Nat×TypeId×List CS)->List (Nat×Box)->Option (List AC)
 |[],_=>some []
 |(k,t,cs)::l,aB=>match Ac aB k with
  | some b => bif Nat.beq t b.ty then (match GV cs b.cells with
   |some v=>match JU l aB with
    |some D=>some (v++D)
    |none=>none
   |none=>none)else none
  |none=>none
def Jz:List (Nat×TypeId×List Kd)->List (Nat×Row)->Option (List AC)
 |[],_=>some []
 |(k,t,ks)::l,aC=>match Ac aC k with
  | some r => bif Nat.beq t r.ty && C6 ks r.ks then (match Jz l aC with
    |some D=>some (.vC ks r.l::D)
    |none=>none)else none
  |none=>none
def DO (k:Nat):Bool:=Nat.ble base k&&Nat.blt k 100000
def DC (sk:Sk) (s:St):Option (List AC):=match s with
 | ⟨tmps, aB, aC⟩ => bif Ao (λp : Nat × Box => !(DO p.1) || AN (sk.aB.map (·.1)) p.1) aB then (match Jz sk.aC aC with
  |some a=>match Kv sk.tmps tmps with
   |some b=>match JU sk.aB aB with
    |some c=>some (a++(b++c))
    |none=>none
   |none=>none
  |none=>none)else none
def LP:List (Nat×Nat)->List AC
 |[]=>[]
 |(k,o)::l=> .ptr k o::LP l
def Dv (rl:Nat->Nat) (l:List AC):CS->Nat->AC×Nat
 | .any,i=>(.vD,i)
 | .int k,i=>(.int k (Ah (nth .vD l i)),i+1)
 | .bool,i=>(.bool (Fb (nth .vD l i)),i+1)
 | .sl ks,i=>(.vC ks (AX (nth .vD l i)),i+1)
 | .rawc,i=>(Mh .raw (nth .vD l i),i+1)
 | .str,i=>(.raw (.string (Bd (nth .vD l i))),i+1)
 | .nil,i=>(.nilSl,i)
 | .nilp,i=>(.raw (.pointer none),i)
 | .ptr k o,i=>(.ptr k o,i)
 | .own id w,i=>(.own id w (rl id),i)
 | .clo f fs cs,i=>(.clo f (LP fs) (LP cs),i)
 | .bsl k n,i=>(.bsl k n,i)
def DJ (rl:Nat->Nat) (l:List AC):List CS->Nat->List AC×Nat
 |[],i=>([],i)
 |c::cs,i=>match Dv rl l c i with
  |(a,G)=>match DJ rl l cs G with
   |(as,D)=>(a::as,D)
def Hp (rl:Nat->Nat) (l:List AC):List (Bool×List CS)->Nat->List (Bool×List AC)×Nat
 |[],i=>([],i)
 |(g,cs)::ps,i=>match DJ rl l cs i with
  |(as,G)=>match Hp rl l ps G with
   |(I,D)=>((g,as)::I,D)
def HI (rl:Nat->Nat) (l:List AC):TS->Nat->TV×Nat
 | .vD,i=>(.vD,i)
 | .v g cs,i=>match DJ rl l cs i with
  |(as,D)=>(.v g as,D)
 | .tup ps,i=>match Hp rl l ps i with
  |(G,D)=>(.tup G,D)
def EC (rl:Nat->Nat) (l:List AC):List TS->Nat->List TV×Nat
 |[],i=>([],i)
 |t::G,i=>match HI rl l t i with
  |(v,I)=>match EC rl l G I with
   |(L,D)=>(v::L,D)
def E6 (rl:Nat->Nat) (l:List AC):List (Nat×TypeId×List CS)->Nat->List (Nat×Box)
 |[],_=>[]
 |(k,t,cs)::bs,i=>match DJ rl l cs i with
  |(as,D)=>(k,⟨t,as⟩)::E6 rl l bs D
def G7 (l:List AC):List (Nat×TypeId×List Kd)->Nat->List (Nat×Row)×Nat
 |[],i=>([],i)
 |(k,t,ks)::rs,i=>match G7 l rs (i+1)with
  |(q,D)=>((k,⟨t,ks,AX (nth .vD l i)⟩)::q,D)
def DI (aC:List (Nat×Row)) (id:Nat):Nat:=match Ac aC id with
 |some r=>r.l.length
 |none=>0
def AF (sk:Sk) (vars:List AC):St:=match G7 vars sk.aC 0 with
 |(aC,i)=>match EC (DI aC) vars sk.tmps i with
  |(tmps,D)=>⟨tmps,E6 (DI aC) vars sk.aB D,aC⟩
def CS.okB (keys:List Nat) (aC:List (Nat×TypeId×List Kd)):CS->Bool
 | .ptr k _=>AN keys k
 | .bsl k _=>AN keys k
 | .own id w=>match Ac aC id with
  |some (_,ks)=>Nat.beq ks.length w
  |none=>false
 | .clo _ fs cs=>Ao (λp:Nat×Nat=>AN keys p.1) fs&&Ao (λp:Nat×Nat=>AN keys p.1) cs
 |_=>true
def TS.okB (keys:List Nat) (aC:List (Nat×TypeId×List Kd)):TS->Bool
 | .vD=>true
 | .v _ cs=>Ao (CS.okB keys aC) cs
 | .tup ps=>Ao (λp:Bool×List CS=>Ao (CS.okB keys aC) p.2) ps
def Sk.okB (sk:Sk):Bool:=
 B8 (sk.aB.map (·.1))&&B8 (sk.aC.map (·.1))&&Ao (TS.okB (sk.aB.map (·.1)) sk.aC) sk.tmps&&Ao (λp:Nat×TypeId×List CS=>Ao (CS.okB (sk.aB.map (·.1)) sk.aC) p.2.2) sk.aB
def Kx (d:Nat):AC->Bool
 | .ptr k _=> !(Nat.beq k d)
 |_=>true
def AC.killP (d:Nat):AC->AC
 | .ptr k o=>bif Nat.beq k d then .vD else .ptr k o
 | .bsl k n=>bif Nat.beq k d then .vD else .bsl k n
 | .clo f fs cs=>bif Ao (Kx d) fs&&Ao (Kx d) cs then .clo f fs cs else .vD
 |a=>a
def TV.mapC (f:AC->AC):TV->TV
 | .v g cs=> .v g (cs.map f)
 | .tup ps=> .tup (ps.map λp=>(p.1,p.2.map f))
 | .vD=> .vD
def Vm:List Oper->List Nat
 |[]=>[]
 |o::l=>match o.op,o.dst with
  | .alloc _,some d=>d::Vm l
  | .box _ _,some d=>d::Vm l
  |_,_=>Vm l
def R9:List Nat->St->(St->Option R)->Option R
 |[],s,K=>K s
 |d::l,⟨tmps,aB,aC⟩,K=>match Ac aB d with
  |none=>R9 l ⟨tmps,aB,aC⟩ K
  |some _=>bif DO d then none else AQ (tmps.map (TV.mapC (AC.killP d))) λG=>AQ ((del d aB).map λp=>(p.1,(⟨p.2.ty,p.2.cells.map (AC.killP d)⟩:Box))) λD=>R9 l ⟨G,D,aC⟩ K
def Ql (step:St->(Ex->St->Option R)->Option R):Nat->St->(Ex->St->Option R)->Option R
 |0,_,_=>none
 |n+1,s,K=>step s fun
  | .normal,D=>H3 P C D λD=>Ql step n D K
  | .exit id,D=>K (.exit id) D
  | .ret,D=>K .ret D
def KR (a:Option (Sk×IU)) (s:St) (K:Ex->St->Option R) (run:Option R):Option R:=match a with
 |none=>run
 | some (sk, g) => bif sk.okB then (match DC sk s with
  |some vars=>g R vars K
  |none=>none)else none
def UC (C:Cfg) (c:Operand):Option (Sk×IU):=match c with
 | .tmp t=>C.conds t
 |_=>none
def LL:Code->Option Nat
 | .region id _ _=>some id
 | .seq a b=>match LL a with
  |some n=>some n
  |none=>LL b
 | .cond _ a b=>match LL a with
  |some n=>some n
  |none=>LL b
 | .block _ b=>LL b
 | .loop b=>LL b
 |_=>none
def RZ (body:Code):Nat:=match LL body with
 |some n=>n
 |none=>0
def Bq (L:Nat):Code->Nat->St->(Ex->St->Option R)->Option R
 | .skip,_,s,K=>K .normal s
 | .region _ ops draw,_,s,K=>R9 (Vm ops.toList) s λs=>Qat P C ops draw s (K .normal)
 | .seq a b,blk,s,K=>Bq L a blk s fun
  | .normal,D=>Bq L b blk D K
  | .exit id,D=>K (.exit id) D
  | .ret,D=>K .ret D
 | .cond c x y, blk, s, K => KR (UC C c) s K (match AL s.tmps c with
  | .v false [.bool g]=>match c with
   | .tmp t=>cond g (put s (some t) (.c (.bool true)) λD=>Bq L x blk D K) (put s (some t) (.c (.bool false)) λD=>Bq L y blk D K)
   |_=>cond g (Bq L x blk s K) (Bq L y blk s K)
  |_=>none)
 | .block id body,_,s,K=>KR (C.blocks id) s K (Bq L body id s fun
  | .normal,D=>K .normal D
  | .exit i,D=>bif Nat.beq i id then K .normal D else K (.exit i) D
  | .ret,D=>K .ret D)
 | .loop body,blk,s,K=>I8 P (C.prom (RZ body)) s λD=>
   H3 P C D λD=>KR (C.loops (RZ body)) D K (Ql P C (λs K=>Bq L body blk s K) L D K)
 | .exit id,_,s,K=>K (.exit id) s
 | .ret,_,s,K=>K .ret s
 | .scope b,blk,s,K=>Bq L b blk s K
 | .label _,_,s,K=>K .normal s
 |_,_,_,_=>none
def Vz:Ex->Ex->Bool
 | .normal, .normal=>true
 | .exit i, .exit j=>Nat.beq i j
 | .ret, .ret=>true
 |_,_=>false
def Kk:List (Ex×Sk)->Nat->Ex->St->Option (Nat×List AC)
 |[],_,_,_=>none
 | (e, sk) :: l, i, D, s => bif Vz e D && sk.okB then (match DC sk s with
  |some vars=>some (i,vars)
  |none=>none)else Kk l (i+1) D s
def P7 (o:List AC) (K:Ex->St->Option R):List (Ex×Sk)->Nat->Nat->Option R
 |[],_,_=>none
 |(e,sk)::l,i,n=>bif Nat.beq n i then K e (AF sk o)else P7 o K l (i+1) n
def gOf (D:List (Ex×Sk)) (m:List AC->Option (Nat×List AC)):IU:=λ_ vars K=>(m vars).bind λo=>P7 o.2 K D 1 o.1
def AG (L blk:Nat) (body:Code) (sk:Sk) (D:List (Ex×Sk)) (vars:List AC):Option (Nat×List AC):=
 Bq P C L body blk (AF sk vars) λe G=>match e with
  | .normal=>H3 P C G λG=>match DC sk G with
   |some vars=>some (0,vars)
   |none=>none
  | .exit i=>Kk D 1 (.exit i) G
  | .ret=>Kk D 1 .ret G
def Ck (step:List AC->Option (Nat×List AC)):Nat->List AC->Option (Nat×List AC)
 |0,_=>none
 |n+1,vars=>(step vars).bind λo=>if o.1=0 then Ck step n o.2 else some o
def Qq8 (s:St):ResultVar->Option TV
 | .tmp t=>match nth .vD s.tmps t with
  | .v g cs=>some (.v g cs)
  |_=>none
 | .cell a t=>match nth .vD s.tmps a,CN P t,szT P t with
  | .v false [.ptr key off],some g,some sz=>match Ac s.aB key with
   |some b=>Dw g sz b.cells off
   |none=>none
  |_,_,_=>none
def Lc (s:St):List ResultVar->Option (List (Bool×List AC))
 |[]=>some []
 |r::l=>match Qq8 P s r with
  |some (.v g cs)=>match Lc s l with
   |some ps=>some ((g,cs)::ps)
   |none=>none
  |_=>none
def HL:List TypeId->List (Bool×List AC)->List (Bool×List AC)
 | t :: D, (g, cs) :: l => (g, match GO P 8 t with
  |some ks=>DH ks cs
  |none=>cs)::HL D l
 |_,l=>l
def KY:List (Bool×List AC)->TV
 |[(g,cs)]=> .v g cs
 |ps=> .tup ps
def Qhz:List TV->Bool
 | .v false [.own id _ _]::_=>Nat.beq id base
 |_=>false
def Mr (L:Func) (D:List Nat) (s:St) (K:TV->Mem->Option R):Option R:=
 match Lc P s L.results.toList with
 |none=>none
 |some ps=>(bif C.ownRes then λK=>K s else IE (cat (λp:Bool×List AC=>cat AC.ids p.2) ps) s) λs1=>H3 P C s1 λs1=>
  match Lc P s1 L.results.toList with
  |none=>none
  |some ps=>match s1 with
   |⟨tm,aB,aC⟩=>
    bif !C.keepIn||Qhz tm then
    AQ (HL P L.resultTypes.toList ps) λps=>
    AQ (Ly aB 4 (A6 (cat (λp:Bool×List AC=>cat AC.keys p.2) ps) D)) λkeys=>
    AQ (Og aB (cat (λp:Bool×List AC=>p.2) ps) keys) λids=>
    AQ (aB.filter λp=>AN keys p.1) λG=>
    AQ (aC.filter λp=>AN ids p.1||DO p.1) λI=>
    bif Ao (λp:Bool×List AC=>Ao (AC.inK keys ids) p.2) ps&&Ao (λp:Nat×Box=>Ao (AC.inK keys ids) p.2.cells) G&&Ao (FZ aB) D&&Ao (AN keys) D then K (KY ps) ⟨G,I⟩else none else none
def EM (L:Nat) (f:FuncId) (args:List TV) (mem:Mem) (K:TV->Mem->Option R):Option R:=
 match P.funcs.toList[f]? with
 |some D=>match D.body with
  |some c=>bif Ao (λp:Nat×Box=>DO p.1) mem.aB then
    AQ (args++List.replicate (D.ntmps-args.length) TV.vD) λtmps=>
     Bq P C L c 0 ⟨tmps,mem.aB,mem.aC⟩ λe s=>match e with
      | .normal=>Mr P C D (mem.aB.map (·.1)) s K
      | .ret=>Mr P C D (mem.aB.map (·.1)) s K
      | .exit _=>none
   else none
  |none=>none
 |none=>none
def AV:Code->Nat->List (Nat×Code)
 | .seq a b,blk=>AV a blk++AV b blk
 | .cond _ a b,blk=>AV a blk++AV b blk
 | .block _ b,blk=>AV b blk
 | .loop b,blk=>(RZ b,b)::AV b blk
 | .scope b,blk=>AV b blk
 |_,_=>[]
def Co:Code->List (Nat×Code)
 | .seq a b=>Co a++Co b
 | .cond _ a b=>Co a++Co b
 | .block id b=>(id,b)::Co b
 | .loop b=>Co b
 | .scope b=>Co b
 |_=>[]
def By:Code->Nat->List (Nat×Nat×Code×Code)
 | .seq a b,blk=>By a blk++By b blk
 | .cond (.tmp t) a b,blk=>(t,0,a,b)::(By a blk++By b blk)
 | .cond _ a b,blk=>By a blk++By b blk
 | .block _ b,blk=>By b blk
 | .loop b,blk=>By b blk
 | .scope b,blk=>By b blk
 |_,_=>[]
def FN (f:FuncId):Option Code:=
 match P.funcs.toList[f]? with
 |some D=>D.body
 |none=>none
def G0 (f:FuncId):List (Nat×Code):=match FN P f with
 |some c=>AV c 0
 |none=>[]
def Z1 (f:FuncId):List (Nat×Code):=match FN P f with
 |some c=>Co c
 |none=>[]
def VZ (f:FuncId):List (Nat×Nat×Code×Code):=match FN P f with
 |some c=>By c 0
 |none=>[]
def Am (L:Nat) (f:FuncId) (sig D:Sk) (vars:List AC):Option (List AC):=match AF sig vars with
 |⟨args,aB,aC⟩=>EM P C L f args ⟨aB,aC⟩ λv m=>match m with
  |⟨b,r⟩=>DC D ⟨[v],b,r⟩
end prog
def Ab (sig D:Sk) (m:List AC->Option (List AC)):Spec:=λR args mem K=>match mem with
 | ⟨aB, aC⟩ => bif Ao (λp : Nat × Box => DO p.1) aB then (match DC sig ⟨args, aB, aC⟩ with
  |some vars=>(m vars).bind λo=>match AF D o with
   |⟨tm,b,r⟩=>match tm with
    |[v]=>K v ⟨b,r⟩
    |_=>none
  |none=>none)else none
def Wt:CS->AC->Bool
 | .int k, .int k' _=>kEq k k'
 | .bool, .bool _=>true
 | .sl ks, .vC D _=>C6 ks D
 | .ptr k o, .ptr k' G=>Nat.beq k k'&&Nat.beq o G
 |_,_=>false
def Pf:List CS->List AC->Bool
 |[],[]=>true
 |c::cs,a::as=>Wt c a&&Pf cs as
 |_,_=>false
def HB:List (Nat×TypeId×List CS)->List (Nat×Box)->Bool
 |[],[]=>true
 |(k,t,cs)::l,(k',b)::m=>Nat.beq k k'&&(Nat.beq t b.ty&&(Pf cs b.cells&&HB l m))
 |_,_=>false
def E2 (sig D:Sk) (m:List AC->Option (List AC)):Spec:=λR args mem K=>match mem with
 | ⟨aB, aC⟩ => bif Ao (λp : Nat × Box => DO p.1) aB && (HB sig.aB aB && (aC.isEmpty && (sig.aC.isEmpty && B8 (sig.aB.map (·.1))))) then (match DC sig ⟨args, aB, aC⟩ with
  |some vars=>(m vars).bind λo=>match AF D o with
   |⟨tm,[],[]⟩=>match tm with
    |[v]=>K v ⟨aB,aC⟩
    |_=>none
   |_=>none
  |none=>none)else none
def Oc (P:Program) (C:Cfg) (L:Nat) (f:FuncId) (sig D:Sk) (vars:List AC):Option (List AC):=match AF sig vars with
 |⟨args,aB,aC⟩=>EM P C L f args ⟨aB,aC⟩ λv _=>DC D ⟨[v],[],[]⟩
def AH (P:Program) (f blk:Nat):Code:=match Ac (G0 P f) blk with
 |some c=>c
 |none=> .skip
def Cfg.loop (C:Cfg) (blk:Nat) (sk:Sk) (D:List (Ex×Sk)) (m:List AC->Option (Nat×List AC)):Cfg:=
 {C with loops:=λb=>bif Nat.beq b blk then some (sk,gOf D m)else C.loops b}
open Go.RowKit
theorem Q2 {a b c d:Prop} (h:a\/b) (f:a->c) (g:b->d):c\/d:=by grind
mutual
def CP (im:Nat->Prop) (w:World):AC->Value->Prop
 | .int k n,x=>x= .int k n
 | .bool b,x=>x= .bool b
 | .raw v,x=>x=v/\v.oneCell'=true
 | .nilSl,x=>x= .slice none 0 0
 | .vC ks l,x=>∃D cap,x= .slice D l.length cap/\l.length<=cap/\(∀c∈l,AE ks c=c)/\(l=[]\/∃b o,D=some ⟨b,o,none⟩/\im b/\CPss im w ks.length l b o)
 | .vD,_=>False
 | .ptr _ _,_=>False
 | .own _ _ _,_=>False
 | .rptr _ _ _,_=>False
 | .vptr _ _,_=>False
 | .clo _ _ _,_=>False
 | .bsl _ _,_=>False
def CPs (im:Nat->Prop) (w:World):List AC->Nat->Nat->Prop
 |[],_,_=>True
 |c::cs,b,o=>(∃y,w.cell? ⟨b,o,none⟩=some y/\CP im w c y)/\CPs im w cs b (o+1)
def CPss (im:Nat->Prop) (w:World) (wd:Nat):List (List AC)->Nat->Nat->Prop
 |[],_,_=>True
 |c::cs,b,o=>(c.length=wd/\CPs im w c b o)/\CPss im w wd cs b (o+wd)
end
theorem Q85:∀(ks:List Kd) (cs:List AC) (j:Nat),(EA ks cs j).length=ks.length
 |[],_,_=>rfl
 |_::ks,cs,j=>by simp[EA,Q85 ks cs (j+1)]
theorem TY (ks:List Kd) (cs:List AC):(AE ks cs).length=ks.length:=Q85 ks cs 0
theorem Qb8 {im:Nat->Prop} {w:World} {wd:Nat}:∀{l:List (List AC)} {b o:Nat},CPss im w wd l b o->∀i (D:i<l.length),(l[i]).length=wd/\CPs im w l[i] b (o+i*wd)
 |[],_,_,_,i,D=>by grind
 |c::l,b,o,h,0,_=>by simp_all [CPss]
 |c::l,b,o,h,i+1,D=>by
  rw[CPss]at h;have:=Qb8 h.2 i (by grind)
  grind
theorem Ti {im:Nat->Prop} {w:World} {wd:Nat}:∀{l:List (List AC)} {b o:Nat},(∀i (D:i<l.length),(l[i]).length=wd/\CPs im w l[i] b (o+i*wd))->CPss im w wd l b o
 |[],_,_,_=>by simp[CPss]
 |c::l,b,o,h=>by
  rw[CPss];refine⟨by have:=h 0 (by simp);grind,Ti λi D=> ?_⟩;have:=h (i+1) (by grind)
  grind
def E3 (w:World) (e:TypeId) (size:Nat) (v:Value) (n:Nat) (xs:List Value):Prop:=
 xs.length = n * size /\ ((v = .slice none 0 0 /\ n = 0) \/
  ∃g o cap cur,v= .slice (some ⟨g,o,none⟩) n cap/\w.heap[g]? =some (.cells cur e (0,0))/\n<=cap/\cap<=maxLen/\o+cap*size<=cur.size/\(cur.toList.drop o).take (n*size)=xs)
theorem X3 (w:World) (e:TypeId) (size:Nat):E3 w e size (.slice none 0 0) 0 []:=⟨by simp, .inl ⟨rfl,rfl⟩⟩
theorem Zjc {w:World} {base:Nat} {e:TypeId} {size:Nat} {v:Value} {n:Nat} {xs:List Value} (h:w.ownsRow base e size v n xs):E3 w e size v n xs:=by
 refine⟨h.1,?_⟩;rcases h.2 with h|⟨g,cap,cur,D,_,G,I,L,M,N⟩
 ·grind
 grind
theorem Q8x {w:World} {e:TypeId} {size:Nat} {v:Value} {n:Nat} {xs:List Value} (h:E3 w e size v n xs):∀k,v.ownBlock=some k->k<w.heap.size:=by
 intro k D;rcases h.2 with⟨rfl,_⟩|⟨g,o,cap,cur,rfl,G,_⟩
 ·grind [Value.ownBlock]
 grind [Value.ownBlock]
theorem M8 {w w':World} {e:TypeId} {size n:Nat} {v:Value} {xs:List Value} (h:E3 w e size v n xs) (hb:∀g,v.ownBlock=some g->w'.heap[g]? =w.heap[g]?):E3 w' e size v n xs:=by
 refine⟨h.1,?_⟩;rcases h.2 with I|⟨g,o,cap,cur,rfl,D,G⟩
 ·grind
 ·exact .inr ⟨g,o,cap,cur,rfl,by rw[hb g rfl];exact D,G⟩
def HH:Value->Nat
 | .slice (some a) _ _=>a.off
 |_=>0
theorem Q9 {w:World} {e:TypeId} {size:Nat} {v:Value} {n:Nat} {xs:List Value} (h:E3 w e size v n xs) {g:Nat} (D:v.ownBlock=some g):∀j u,xs[j]? =some u->w.cell? ⟨g,HH v+j,none⟩=some u:=by
 intro j u G;rcases h.2 with⟨rfl,rfl⟩|⟨I,o,cap,cur,rfl,L,M,N,O,S⟩
 ·grind [Value.ownBlock]
 grind [Value.ownBlock,World.cell?,HH]
structure Env where
 bx:Nat->Nat
 rv:Nat->Value
 wd:Nat->Nat
 im:Nat->Prop
def CCc (ρ:Env) (w:World):AC->Value->Prop
 | .ptr key off,x=>x= .pointer (some ⟨ρ.bx key,off,none⟩)
 |a,x=>CP ρ.im w a x
def CLc (ρ:Env) (w:World):List AC->List Value->Prop
 |[],[]=>True
 |a::l,x::xs=>CCc ρ w a x/\CLc ρ w l xs
 |_,_=>False
def CC (ρ:Env) (w:World):AC->Value->Prop
 | .vD,x=>x.oneCell'=true
 | .ptr key off,x=>x= .pointer (some ⟨ρ.bx key,off,none⟩)
 | .own id wd n,x=>x=ρ.rv id/\ρ.wd id=wd/\((x= .slice none 0 0/\n=0)\/∃g o c,x= .slice (some ⟨g,o,none⟩) n c)
 | .rptr id idx sub,x=>∃g,(ρ.rv id).ownBlock=some g/\x= .pointer (some ⟨g,HH (ρ.rv id)+(idx*ρ.wd id+sub),none⟩)
 | .vptr cs sub,x=>∃b o,x= .pointer (some ⟨b,o+sub,none⟩)/\ρ.im b/\CPs ρ.im w cs b o
 | .clo f fs cs,x=>∃xs D:Array Value,x= .func (.func f) xs D/\CLc ρ w fs xs.toList/\CLc ρ w cs D.toList
 | .bsl key n,x=>x= .slice (some ⟨ρ.bx key,0,none⟩) n n
 |a,x=>CP ρ.im w a x
def CL (R:AC->Value->Prop):List AC->List Value->Prop
 |[],[]=>True
 |a::l,x::xs=>R a x/\CL R l xs
 |_,_=>False
def TP (ρ:Env) (w:World):List (Bool×List AC)->List Value->Prop
 |[],[]=>True
 | (g, cs) :: l, x :: xs => (match g with
   |true=>∃D:Array Value,x= .agg D/\CL (CC ρ w) cs D.toList
   |false=>∃a,cs=[a]/\CC ρ w a x)/\TP ρ w l xs
 |_,_=>False
def TVR (ρ:Env) (w:World):TV->Value->Prop
 | .vD,_=>True
 | .v true cs,x=>∃D:Array Value,x= .agg D/\CL (CC ρ w) cs D.toList
 | .v false cs,x=>∃a,cs=[a]/\CC ρ w a x
 | .tup ps,x=>∃D:Array Value,x= .tuple D/\TP ρ w ps D.toList
theorem CL.length {R:AC->Value->Prop}:∀{l:List AC} {xs:List Value},CL R l xs->l.length=xs.length
 |[],[],_=>rfl
 |_::l,_::xs,h=>by simp[CL.length h.2]
 |[],_::_,h=>h.elim
 |_::_,[],h=>h.elim
theorem CL.mono {R R':AC->Value->Prop}:∀{l:List AC} {xs:List Value},(∀a∈l,∀x,R a x->R' a x)->CL R l xs->CL R' l xs
 |[],[],_,_=>trivial
 |a::l,x::xs,h,D=>⟨h a (by simp) x D.1,CL.mono (λb hb=>h b (by grind)) D.2⟩
 |[],_::_,_,h=>h.elim
 |_::_,[],_,h=>h.elim
theorem CL.get {R:AC->Value->Prop}:∀{l:List AC} {xs:List Value} {i:Nat} {a:AC},CL R l xs->l[i]? =some a->∃x,xs[i]? =some x/\R a x
 |[],[],i,_,_,h=>by grind
 |a::l,x::xs,0,b,D,h=>by simp at h;subst h;exact⟨x,rfl,D.1⟩
 |a::l,x::xs,i+1,b,D,h=>by simpa using CL.get D.2 (by grind)
 |[],_::_,_,_,h,_=>h.elim
 |_::_,[],_,_,h,_=>h.elim
theorem CL.drop {R:AC->Value->Prop}:∀(n:Nat) {l:List AC} {xs:List Value},CL R l xs->CL R (l.drop n) (xs.drop n)
 |0,_,_,h=>h
 |_+1,[],[],_=>trivial
 |n+1,_::_,_::_,h=>CL.drop n h.2
 |_+1,[],_::_,h=>h.elim
 |_+1,_::_,[],h=>h.elim
theorem CL.take {R:AC->Value->Prop}:∀(n:Nat) {l:List AC} {xs:List Value},CL R l xs->CL R (l.take n) (xs.take n)
 |0,_,_,_=>by simp[CL]
 |_+1,[],[],_=>trivial
 |n+1,_::_,_::_,h=>⟨h.1,CL.take n h.2⟩
 |_+1,[],_::_,h=>h.elim
 |_+1,_::_,[],h=>h.elim
theorem CL.cut {R:AC->Value->Prop} {l:List AC} {xs:List Value} (o m:Nat) (h:CL R l xs):CL R (cut l o m) (cut xs o m):=CL.take m (CL.drop o h)
theorem CL.append {R:AC->Value->Prop}:∀{l G:List AC} {xs D:List Value},CL R l xs->CL R G D->CL R (l++G) (xs++D)
 |[],_,[],_,_,h=>h
 |_::_,_,_::_,_,h,h'=>⟨h.1,CL.append h.2 h'⟩
 |[],_,_::_,_,h,_=>h.elim
 |_::_,_,[],_,h,_=>h.elim
theorem CL.splice {R:AC->Value->Prop}:∀{l:List AC} {xs:List Value} (o:Nat) {D:List AC} {G:List Value},CL R l xs->CL R D G->CL R (splice l o D) (splice xs o G)
 |l,xs,o,[],[],h,_=>by grind [Bm.splice]
 |[],[],o,_::_,_::_,_,_=>by simp[Bm.splice,CL]
 |a::l,x::xs,0,v::D,y::G,h,h'=>by simp only[Bm.splice];exact⟨h'.1,CL.splice 0 h.2 h'.2⟩
 |a::l,x::xs,o+1,v::D,y::G,h,h'=>by simp only[Bm.splice];exact⟨h.1,CL.splice o h.2 h'⟩
 |[],_::_,_,_,_,h,_=>h.elim
 |_::_,[],_,_,_,h,_=>h.elim
 |_,_,_,[],_::_,_,h=>h.elim
 |_,_,_,_::_,[],_,h=>h.elim
mutual
theorem CP.mono {im D:Nat->Prop} {w w':World} (G:∀b,im b->D b) (hb:∀b,im b->w'.heap[b]? =w.heap[b]?):∀(a:AC) (x:Value),CP im w a x->CP D w' a x
 | .int k n,x,h=>by grind [CP]
 | .bool b,x,h=>by grind [CP]
 | .raw v,x,h=>by grind [CP]
 | .nilSl,x,h=>by grind [CP]
 | .vC ks l,x,h=>by
  rw[CP]at h⊢;obtain⟨L,cap,M,hle,N,hf⟩:=h;refine⟨L,cap,M,hle,N,?_⟩;rcases hf with hf|⟨b,o,O,I,S⟩
  ·grind
  ·exact .inr ⟨b,o,O,G b I,CPss.mono G hb _ l b o I S⟩
 | .vD,x,h=>by grind [CP]
 | .ptr _ _,x,h=>by grind [CP]
 | .own _ _ _,x,h=>by grind [CP]
 | .rptr _ _ _,x,h=>by grind [CP]
 | .vptr _ _,x,h=>by grind [CP]
 | .clo _ _ _,x,h=>by grind [CP]
 | .bsl _ _,x,h=>by grind [CP]
theorem CPs.mono {im D:Nat->Prop} {w w':World} (I:∀b,im b->D b) (hb:∀b,im b->w'.heap[b]? =w.heap[b]?):∀(cs:List AC) (b o:Nat),im b->CPs im w cs b o->CPs D w' cs b o
 |[],_,_,_,_=>by simp[CPs]
 |c::cs,b,o,G,h=>by
  rw[CPs]at h⊢;obtain⟨⟨y,L,M⟩,N⟩:=h;exact⟨⟨y,(World.cell?_of_block (w:=w) (a:=⟨b,o,none⟩) (hb b G)).trans L,CP.mono I hb c y M⟩,CPs.mono I hb cs b _ G N⟩
theorem CPss.mono {im D:Nat->Prop} {w w':World} (I:∀b,im b->D b) (hb:∀b,im b->w'.heap[b]? =w.heap[b]?) (wd:Nat):∀(l:List (List AC)) (b o:Nat),im b->CPss im w wd l b o->CPss D w' wd l b o
 |[],_,_,_,_=>by simp[CPss]
 |c::cs,b,o,G,h=>by
  rw[CPss]at h⊢;exact⟨⟨h.1.1,CPs.mono I hb c b o G h.1.2⟩,CPss.mono I hb wd cs b _ G h.2⟩
end
def AC.agreeP (ρ D:Env):AC->Prop
 | .ptr key _=>D.bx key=ρ.bx key
 |_=>True
def AC.agree (ρ D:Env):AC->Prop
 | .ptr key _=>D.bx key=ρ.bx key
 | .bsl key _=>D.bx key=ρ.bx key
 | .own id _ _=>D.rv id=ρ.rv id/\D.wd id=ρ.wd id
 | .rptr id _ _=>D.rv id=ρ.rv id/\D.wd id=ρ.wd id
 | .clo _ fs cs=>(∀a∈fs,AC.agreeP ρ D a)/\∀a∈cs,AC.agreeP ρ D a
 |_=>True
theorem CLc.mono {ρ ρ':Env} {w w':World} (D:∀b,ρ.im b->ρ'.im b) (hb:∀b,ρ.im b->w'.heap[b]? =w.heap[b]?):∀(l:List AC) (xs:List Value),(∀a∈l,a.agreeP ρ ρ')->CLc ρ w l xs->CLc ρ' w' l xs
 |[],[],_,_=>trivial
 |a::l,x::xs,G,h=>by
  refine⟨?_,CLc.mono D hb l xs (λb hb=>G b (by grind)) h.2⟩;have L:=G a (by simp);have I:=h.1;cases a<;>first
   |exact CP.mono D hb _ _ I
   |grind [CCc,AC.agreeP]
 |[],_::_,_,h=>h.elim
 |_::_,[],_,h=>h.elim
theorem CC.mono {ρ ρ':Env} {w w':World} (D:∀b,ρ.im b->ρ'.im b) (hb:∀b,ρ.im b->w'.heap[b]? =w.heap[b]?) (a:AC) (x:Value) (G:a.agree ρ ρ') (h:CC ρ w a x):CC ρ' w' a x:=by
 cases a with
 |vD=>exact h
 |ptr key off=>grind [CC,AC.agree]
 |bsl key n=>grind [CC,AC.agree]
 |own id w n=>grind [CC,AC.agree]
 |rptr id idx sub=>grind [CC,AC.agree]
 |vptr cs sub=>grind [CC,CPs.mono]
 |clo f fs cs=>grind [CC,AC.agree,CLc.mono]
 |int k n=>exact CP.mono D hb _ _ h
 |bool b=>exact CP.mono D hb _ _ h
 |raw v=>exact CP.mono D hb _ _ h
 |nilSl=>exact CP.mono D hb _ _ h
 |vC ks l=>exact CP.mono D hb _ _ h
theorem IP {ρ:Env} {w:World} {a:AC} {x:Value} (h:CP ρ.im w a x):CC ρ w a x:=by
 cases a<;>first|exact h|grind [CP]
theorem CP.one {im:Nat->Prop} {w:World} {a:AC} {x:Value} (h:CP im w a x):x.oneCell'=true:=by
 cases a<;>simp only[CP]at h
 case int=>subst h;rfl
 case bool=>subst h;rfl
 case raw=>grind
 case nilSl=>subst h;rfl
 case vC=>obtain⟨_,_,rfl,_⟩:=h;rfl
theorem CC.one {ρ:Env} {w:World} {a:AC} {x:Value} (h:CC ρ w a x):x.oneCell'=true:=by
 cases a with
 |vD=>exact h
 |ptr=>simp only[CC]at h;subst h;rfl
 |bsl=>simp only[CC]at h;subst h;rfl
 |own=>obtain⟨_,_,⟨rfl,_⟩|⟨_,_,_,rfl⟩⟩:=h<;>rfl
 |rptr=>obtain⟨_,_,rfl⟩:=h;rfl
 |vptr=>obtain⟨_,_,rfl,_⟩:=h;rfl
 |clo=>obtain⟨_,_,rfl,_⟩:=h;rfl
 |int=>exact CP.one h
 |bool=>exact CP.one h
 |raw=>exact CP.one h
 |nilSl=>exact CP.one h
 |vC=>exact CP.one h
theorem Ax {α:Type} {p:α->Bool}:∀{l:List α},Ao p l=true↔∀x∈l,p x=true
 |[]=>by simp[Ao]
 |x::l=>by
  simp only[Ao,av,ik,<-Ax (l:=l)];simp
theorem A3 {α R:Type}:∀(l:List α) (K:List α->Option R),AQ l K=K l
 |[],_=>rfl
 |x::xs,K=>by rw[AQ,A3 xs]
theorem B5 {α:Type} (d:α):∀(l:List α) (n:Nat),nth d l n=l.getD n d
 |[],_=>by rfl
 |_::_,0=>by rfl
 |_::xs,n+1=>by simp only[nth,B5 d xs n];simp
theorem IC {α:Type}:∀(l:List α) (n:Nat) (v:α),setL l n v=l.set n v
 |[],_,_=>by rfl
 |_::_,0,_=>by rfl
 |x::xs,n+1,v=>by simp[setL,IC xs n v]
section tables
variable {α:Type}
theorem EF:∀(l:List (Nat×α)) (k:Nat) (x y:α),Ac l k=some y->Ac (upd l k x) k=some x
 |[],_,_,_,h=>by grind [Ac]
 |(k',b)::l,k,x,y,h=>by
  simp only[Ac,upd]at*;cases D:Nat.beq k' k
  ·simp only[D,aq,Ac]at*;exact EF l k x y h
  grind [Ac]
theorem Dm:∀(l:List (Nat×α)) (k j:Nat) (x:α),j≠k->Ac (upd l k x) j=Ac l j
 |[],_,_,_,_=>rfl
 |(k',b)::l,k,j,x,h=>by
  simp only[Ac,upd];cases D:Nat.beq k' k
  ·simp only[aq,Ac,Dm l k j x h]
  grind [Nat.eq_of_beq_eq_true,Ac]
theorem Ep:∀(l:List (Nat×α)) (k:Nat) (x:α),Ac l k=none->Ac (ins l k x) k=some x
 |[],k,x,_=>by simp[Ac,ins]
 |(k',b)::l,k,x,h=>by
  simp only[Ac,ins]at*;cases D:Nat.beq k' k
  ·simp only[D,aq]at h;cases hb:Nat.blt k k'
   ·simp only[aq,Ac,D];exact Ep l k x h
   ·simp[Ac]
  grind
theorem DR:∀(l:List (Nat×α)) (k j:Nat) (x:α),j≠k->Ac (ins l k x) j=Ac l j
 |[],k,j,x,h=>by grind [Nat.eq_of_beq_eq_true,Ac,ins]
 |(k',b)::l,k,j,x,h=>by
  have D:Nat.beq k j=false:=by
   cases hb:Nat.beq k j
   ·rfl
   ·simp_all
  simp only[Ac,ins];cases hb:Nat.blt k k'
  ·simp only[aq,Ac,DR l k j x h]
  grind [Ac]
theorem Rm:∀(l:List (Nat×α)) (k:Nat),Ac (del k l) k=none
 |[],k=>by rfl
 |(k',b)::l,k=>by
  simp only[del];cases D:Nat.beq k' k
  ·simp only[aq,Ac,D,Rm l k]
  ·simp only[aj];exact Rm l k
theorem Kj:∀(l:List (Nat×α)) (k j:Nat),j≠k->Ac (del k l) j=Ac l j
 |[],_,_,_=>by rfl
 |(k',b)::l,k,j,h=>by
  simp only[del];cases G:Nat.beq k' k
  ·simp only[aq,Ac,Kj l k j h]
  ·have e:=ag G;subst e;have D:Nat.beq k' j=false:=by
    cases hb:Nat.beq k' j
    ·rfl
    ·simp_all
   simp only[aj,Ac,D,aq];exact Kj l k' j h
theorem L6 {l:List (Nat×α)} {k j:Nat} {x:α} (h:Ac (del k l) j=some x):j≠k/\Ac l j=some x:=by grind [Rm,Kj]
end tables
open Go.RowKit
section
variable {P:Program} {C:Cfg} {ρ:Env} {w:World} {R:Type}
theorem Z6w {x:Value} (h:x.oneCell'=true):x.cells= #[x]:=by
 cases x<;>first|rfl|grind [Value.oneCell']
theorem Zfd (v:Value) (h:v.oneCell'=true):CC ρ w (No v) v:=by
 unfold No
 grind [CC,CP]
theorem Uo:∀(l:List Value) {cs:List AC},IS l=some cs->CL (CC ρ w) cs l
 |[],cs,h=>by simp[IS]at h;subst h;trivial
 |v::l,cs,h=>by
  simp only[IS]at h;cases D:v.oneCell'
  ·grind
  ·simp only[D,aj]at h;split at h
   ·rename_i G I;simp at h;subst h;exact⟨Zfd v D,Uo l I⟩
   grind
theorem Yfe (v:Value):TVR ρ w (ofValue v) v:=by
 unfold ofValue;split
 ·rename_i cs;split
  ·rename_i l D;exact⟨cs,rfl,Uo _ D⟩
  ·trivial
 ·trivial
 ·rename_i G I;exact⟨_,rfl,Zfd v (by cases v<;>first|rfl|grind)⟩
theorem TVR.cells {t:TV} {x:Value} {cs:List AC} (h:TVR ρ w t x) (D:t.cells=some cs):CL (CC ρ w) cs x.cells.toList:=by
 cases t with
 |vD=>grind [TV.cells]
 |tup ps=>grind [TV.cells]
 |v g l=>
  simp[TV.cells]at D;subst D;cases g
  ·obtain⟨a,rfl,G⟩:=h;rw[Z6w G.one];exact⟨G,trivial⟩
  ·obtain⟨L,rfl,I⟩:=h;exact I
theorem TVR.c {a:AC} {x:Value} (h:TVR ρ w (.c a) x):CC ρ w a x:=by
 obtain⟨b,hb,D⟩:=h
 grind
theorem TVR.c' {a:AC} {x:Value} (h:CC ρ w a x):TVR ρ w (.c a) x:=⟨a,rfl,h⟩
theorem TVR.int {k:IntKind} {n:Int} {x:Value} (h:TVR ρ w (.c (.int k n)) x):x= .int k n:=by grind [h.c,CC,CP]
theorem TVR.bool {b:Bool} {x:Value} (h:TVR ρ w (.c (.bool b)) x):x= .bool b:=by grind [h.c,CC,CP]
theorem TVR.mkInt (k:IntKind) (n:Int):TVR ρ w (.c (.int k n)) (.int k n):=TVR.c' (by rfl)
theorem TVR.mkBool (b:Bool):TVR ρ w (.c (.bool b)) (.bool b):=TVR.c' (by rfl)
theorem TVR.agg {cs:List AC} {x:Value} (h:TVR ρ w (.agg cs) x):∃D:Array Value,x= .agg D/\CL (CC ρ w) cs D.toList:=h
def RowC (im:Nat->Prop) (w:World) (ks:List Kd) (l:List (List AC)) (xs:List Value):Prop:=
 xs.length=l.length*ks.length/\(∀c∈l,AE ks c=c)/\∀i c,l[i]? =some c->CL (CP im w) c (cut xs (i*ks.length) ks.length)
theorem PT {k k':IntKind} (h:kEq k k'=true):k=k':=by cases k<;>cases k'<;>first|rfl|(simp[kEq]at h)
mutual
theorem Z4a:∀{k k':Kd},EH k k'=true->k=k'
 | .int k, .int k',h=>by grind [EH,PT]
 | .bool, .bool,_=>rfl
 | .sl ks, .sl D,h=>by rw[EH]at h;rw[IQ h]
 | .raw, .raw,_=>rfl
 | .int _, .bool,h=>by grind [EH]
 | .int _, .sl _,h=>by grind [EH]
 | .int _, .raw,h=>by grind [EH]
 | .bool, .int _,h=>by grind [EH]
 | .bool, .sl _,h=>by grind [EH]
 | .bool, .raw,h=>by grind [EH]
 | .sl _, .int _,h=>by grind [EH]
 | .sl _, .bool,h=>by grind [EH]
 | .sl _, .raw,h=>by grind [EH]
 | .raw, .int _,h=>by grind [EH]
 | .raw, .bool,h=>by grind [EH]
 | .raw, .sl _,h=>by grind [EH]
theorem IQ:∀{ks D:List Kd},C6 ks D=true->ks=D
 |[],[],_=>rfl
 |k::ks,k'::D,h=>by
  rw[C6]at h;cases G:EH k k'
  ·grind
  ·rw[G]at h;simp only[aj]at h;rw[Z4a G,IQ h]
 |[],_::_,h=>by grind [C6]
 |_::_,[],h=>by grind [C6]
end
theorem Q9x {im:Nat->Prop} (ks:List Kd):CP im w (.vC ks []) (.slice none 0 0):=by simp[CP]
theorem Z1a {k:Kd} {a I:AC} {x:Value} (h:Qv k a=some I) (D:CC ρ w a x):CP ρ.im w I x/\Mh k I=I:=by
 cases k<;>cases a<;>simp only[Qv]at h<;>try (simp at h;done)
 case int.int k k' n=>
  cases G:kEq k k'<;>rw[G]at h
  ·grind
  ·simp at h;subst h;rw[<-PT G]at D;exact⟨D,rfl⟩
 case bool.bool b=>simp at h;subst h;exact⟨D,rfl⟩
 case sl.nilSl ks=>
  simp at h;subst h;simp only[CC,CP]at D;subst D;exact⟨Q9x ks,rfl⟩
 case sl.vC ks L l=>
  cases G:C6 ks L<;>rw[G]at h
  ·grind
  ·simp at h;subst h;rw[<-IQ G]at D;exact⟨D,rfl⟩
 case raw.raw v=>simp at h;subst h;exact⟨D,rfl⟩
theorem Yex {α:Type} (d:α) (x:α) (l:List α) (n:Nat):nth d (x::l) (n+1)=nth d l n:=rfl
theorem Zau (a:AC):∀(ks:List Kd) (cs:List AC) (j:Nat),EA ks (a::cs) (j+1)=EA ks cs j
 |[],_,_=>rfl
 |k::ks,cs,j=>by rw[EA,EA,Yex,Zau a ks cs (j+1)]
theorem Qu4 (k:Kd) (ks:List Kd) (a:AC) (cs:List AC):AE (k::ks) (a::cs)=Mh k a::AE ks cs:=by
 show Mh k a::EA ks (a::cs) 1=_;rw[Zau];rfl
theorem SE:∀{ks:List Kd} {cs D:List AC} {xs:List Value},GU ks cs=some D->CL (CC ρ w) cs xs->CL (CP ρ.im w) D xs/\AE ks D=D
 |[],[],D,xs,h,G=>by
  simp[GU]at h;subst h;cases xs with
  |nil=>exact⟨trivial,rfl⟩
  |cons=>exact G.elim
 |k::ks,a::cs,D,xs,h,G=>by
  simp only[GU]at h;split at h
  ·rename_i O I;split at h
   ·rename_i l L;simp at h;subst h;cases xs with
    |nil=>exact G.elim
    |cons x xs=>
     obtain⟨M,S⟩:=Z1a I G.1;obtain⟨N,T⟩:=SE L G.2;exact⟨⟨M,N⟩,by grind [Qu4]⟩
   grind
  grind
 |[],_::_,_,_,h,_=>by grind [GU]
 |_::_,[],_,_,h,_=>by grind [GU]
def Ju (P:Program) (ρ:Env) (w:World) (e:Operand->Value) (o:Oper):Prim->Prop
 | .val v=>∃x,(execOp e o).run P w= .ok (.value x) w/\TVR ρ w v x
 | .load g sz key off=>∃t,CN P t=some g/\szT P t=some sz/\
   (execOp e o).run P w=((loadVar t ⟨ρ.bx key,off,none⟩).run P w).andThen λv w'=> .ok (.value v) w'
 | .rload g sz id idx sub=>∃t b,CN P t=some g/\szT P t=some sz/\(ρ.rv id).ownBlock=some b/\
   (execOp e o).run P w=((loadVar t ⟨b,HH (ρ.rv id)+(idx*ρ.wd id+sub),none⟩).run P w).andThen λv w'=> .ok (.value v) w'
 | .store key off cs=>∃t x,szT P t=some cs.length/\CL (CC ρ w) cs x.cells.toList/\
   (execOp e o).run P w=((storeVar t ⟨ρ.bx key,off,none⟩ x).run P w).andThen λ_ w'=> .ok .skip w'
 | .rstore id idx sub cs=>∃t x b,szT P t=some cs.length/\CL (CC ρ w) cs x.cells.toList/\(ρ.rv id).ownBlock=some b/\
   (execOp e o).run P w=((storeVar t ⟨b,HH (ρ.rv id)+(idx*ρ.wd id+sub),none⟩ x).run P w).andThen λ_ w'=> .ok .skip w'
 | .new ty cs=>∃arr:Array Value,CL (CC ρ w) cs arr.toList/\(execOp e o).run P w= .ok (.value (.pointer (some ⟨w.heap.size,0,none⟩))) (w.alloc (.cells arr ty))
 | .cutR id a=>∀L n cap,ρ.rv id= .slice L n cap->n<=cap->a<=n->(execOp e o).run P w= .ok (.value (.slice (if cap=a then L else L.map (·.add (a*ρ.wd id))) (n-a) (cap-a))) w
 | .newS ty n cs=>∃arr:Array Value,CL (CC ρ w) cs arr.toList/\(execOp e o).run P w= .ok (.value (.slice (some ⟨w.heap.size,0,none⟩) n n)) (w.alloc (.cells arr ty))
 | .newRow D ks l=>∃arr:Array Value,0<ks.length/\l.length<=maxLen/\RowC ρ.im w ks l arr.toList/\
   (execOp e o).run P w= .ok (.value (.slice (some ⟨w.heap.size,0,none⟩) l.length l.length)) (w.alloc (.cells arr D))
 | .newView D ks l=>∃arr:Array Value,0<ks.length/\l.length<=maxLen/\RowC ρ.im w ks l arr.toList/\
   (execOp e o).run P w= .ok (.value (.slice (some ⟨w.heap.size,0,none⟩) l.length l.length)) (w.alloc (.cells arr D))
 | .make D ks bytes n z=>∃t i M N O,P.underlying t=some (.slice D)/\P.info? D=some i/\i.zero=some M/\i.size=ks.length/\i.bytes=bytes/\0<ks.length/\0<bytes/\AE ks z=z/\CL (CP ρ.im w) z M.cells.toList/\
   (execOp e o).run P w=((Instr.makeSlice t (.int N n) (.int O n)).run P w).andThen λv w'=> .ok (.value v) w'
 | .append D ks bytes s x=>∃t ty i z G I,P.underlying t=some (.slice D)/\P.info? D=some i/\i.zero=some z/\i.size=ks.length/\i.bytes=bytes/\z.cells.size=ks.length/\CC ρ w s G/\CC ρ w x I/\
   (execOp e o).run P w=((Builtin.append_ #[t,t] ty #[G,I]).run P w).andThen λv w'=> .ok (.value v) w'
 | .appD D ks bytes s x=>∃t ty i z G I,P.underlying t=some (.slice D)/\P.info? D=some i/\i.zero=some z/\i.size=ks.length/\i.bytes=bytes/\z.cells.size=ks.length/\CC ρ w s G/\CC ρ w x I/\
   (execOp e o).run P w=((Builtin.append_ #[t,t] ty #[G,I]).run P w).andThen λv w'=> .ok (.value v) w'
 | .callM f args=>∃xs:List Value,xs.length=args.length/\(∀(i:Nat) (a:TV) (x:Value),args[i]? =some a->xs[i]? =some x->TVR ρ w a x)/\execOp e o=callFunc f xs.toArray
 | .callF f args=>∃xs:List Value,xs.length=args.length/\(∀(i:Nat) (a:TV) (x:Value),args[i]? =some a->xs[i]? =some x->TVR ρ w a x)/\execOp e o=callFunc f xs.toArray
 | .callD f args=>∃xs:List Value,xs.length=args.length/\(∀(i:Nat) (a:TV) (x:Value),args[i]? =some a->xs[i]? =some x->TVR ρ w a x)/\execOp e o=callFunc f xs.toArray
 | .call f args=>∃xs:List Value,xs.length=args.length/\(∀(i:Nat) (a:TV) (x:Value),args[i]? =some a->xs[i]? =some x->TVR ρ w a x)/\execOp e o=callFunc f xs.toArray
theorem Z6n {t:TypeId} {n:Nat} (h:szT P t=some n):∃i,P.info? t=some i/\i.size=n:=by grind [szT]
theorem DQ {t:TypeId} {n:Nat} (h:szT P t=some n) (w:World):(sizeOf t).run P w= .ok n w:=by
 obtain⟨i,D,rfl⟩:=Z6n h;simp[sizeOf,typeInfo,D]
theorem OP {t:TypeId} {g:Bool} (h:CN P t=some g) (w:World):(isAgg t).run P w= .ok g w:=by
 unfold CN at h;split at h
 ·simp_all [isAgg,run_underlying]
 ·simp_all [isAgg,run_underlying]
 ·simp_all [isAgg,run_underlying]
 grind
theorem Uz {t:TypeId} {cs:List AC} (h:Jr P t=some cs):∃v,(∀w,(zeroValue t).run P w= .ok v w)/\CL (CC ρ w) cs v.cells.toList:=by
 unfold Jr at h;split at h
 ·rename_i i D;split at h
  ·simp_all [zeroValue,typeInfo,Uo]
  grind
 grind
theorem GT {im:Nat->Prop} {w:World} (k:IntKind) (n:Int):CP im w (.int k n) (.int k n):=by rfl
theorem Qwz {im:Nat->Prop} {w:World} (b:Bool):CP im w (.bool b) (.bool b):=by rfl
theorem Z1q (op:BinOp) (t:TypeId) (k:IntKind) (a b:Int) (K:AC->Option R) {r:R} (h:HC op k a b K=some r):
  ∃c x,K c=some r/\CP ρ.im w c x/\(binOp op t (.int k a) (.int k b)).run P w= .ok x w:=by
 cases op<;>simp only[HC]at h
 case quo=>
  cases hb:decide (b=0)
  ·rw[hb]at h;simp only[aq]at h;have D: ¬b=0:=by simpa using hb
   exact⟨_,_,h,GT _ _,by simp[binOp_quo,Op.intDiv,D]⟩
  grind
 case rem=>
  cases hb:decide (b=0)
  ·rw[hb]at h;simp only[aq]at h;have D: ¬b=0:=by simpa using hb
   exact⟨_,_,h,GT _ _,by simp[binOp_rem,Op.intDiv,D]⟩
  grind
 case shl=>
  cases hb:decide (b<0)
  ·rw[hb]at h;simp only[aq]at h;have D: ¬b<0:=by simpa using hb
   exact⟨_,_,h,GT _ _,by simp[binOp_shl,Op.shift,D]⟩
  grind
 case shr=>
  cases hb:decide (b<0)
  ·rw[hb]at h;simp only[aq]at h;have D: ¬b<0:=by simpa using hb
   exact⟨_,_,h,GT _ _,by simp[binOp_shr,Op.shift,D]⟩
  grind
 case and=>exact⟨_,_,h,GT _ _,by rw[binOp_and];rfl⟩
 case or=>exact⟨_,_,h,GT _ _,by rw[binOp_or];rfl⟩
 case xor=>exact⟨_,_,h,GT _ _,by rw[binOp_xor];rfl⟩
 case andNot=>exact⟨_,_,h,GT _ _,by rw[binOp_andNot];rfl⟩
 all_goals first|exact⟨_,_,h,GT _ _,by simp[go_sem]⟩|exact⟨_,_,h,Qwz _,by simp[go_sem]⟩
theorem Zky {op:BinOp} (G:Nq op=true) (t:TypeId) (k k':IntKind) (a b:Int) (K:AC->Option R) {r:R} (h:HC op k a b K=some r):
  ∃c x,K c=some r/\CP ρ.im w c x/\(binOp op t (.int k a) (.int k' b)).run P w= .ok x w/\op≠ .eql/\op≠ .neq:=by
 cases op<;>simp[Nq]at G<;>simp only[HC]at h
 case shl=>
  cases hb:decide (b<0)
  ·rw[hb]at h;simp only[aq]at h;have D: ¬b<0:=by simpa using hb
   exact⟨_,_,h,GT _ _,by simp[binOp_shl,Op.shift,D],by simp,by simp⟩
  grind
 case shr=>
  cases hb:decide (b<0)
  ·rw[hb]at h;simp only[aq]at h;have D: ¬b<0:=by simpa using hb
   exact⟨_,_,h,GT _ _,by simp[binOp_shr,Op.shift,D],by simp,by simp⟩
  grind
theorem HZ {i:Int}:∀{n k:Nat} {K:Nat->Option R} {r:R},GX i n k K=some r->∃j,K j=some r/\i=(j:Int)/\k<=j/\j<k+n
 |0,_,_,_,h=>by grind [GX]
 |n+1,k,K,r,h=>by
  rw[GX]at h;cases D:decide (i=(k:Int))
  ·rw[D]at h;simp only[aq]at h;obtain⟨j,G,I,L,M⟩:=HZ h
   grind
  grind
theorem Qxq {g:Bool} {sz:Nat} {cells:List AC} {off:Nat} {v:TV} {xs:List Value} (h:Dw g sz cells off=some v) (D:CL (CC ρ w) cells xs):
  match g with
  |true=>off+sz<=xs.length/\TVR ρ w v (.agg (cut xs off sz).toArray)
  |false=>∃x,xs[off]? =some x/\TVR ρ w v x:=by
 cases g
 ·simp only[Dw,aq]at h;split at h
  ·rename_i a G;simp at h;subst h;obtain⟨x,I,L⟩:=D.get G
   grind [TVR.c']
  grind
 ·simp only[Dw,aj]at h;cases hb:Nat.ble (off+sz) cells.length
  ·grind
  ·rw[hb]at h;simp at h;subst h;exact⟨by simp_all [D.length],⟨_,rfl,by simpa using D.cut off sz⟩⟩
theorem Q6i {t:TypeId} {cs:List AC} {off:Nat} {v:TV} {D:Array Value} (h:NM P t cs off=some v) (L:CL (CC ρ w) cs D.toList):
  ∃x,(part t D off).run P w= .ok x w/\TVR ρ w v x:=by
 unfold NM at h;split at h
 ·rename_i g sz M N;have G:=Qxq h L;cases g
  ·obtain⟨x,O,I⟩:=G;simp_all [part,OP]
  ·obtain⟨hle,I⟩:=G;refine⟨_,?_,I⟩;simp only[part,Sem.run_bind,OP M,dm,ew,DQ N,Sem.run_pure];congr 2
   grind [cut]
 grind
end
open Go.RowKit
section
variable {P:Program} {ρ:Env} {w:World}
def Fj (P:Program) (ρ:Env) (w:World) (t:TypeId) (cs:List AC) (x:Value):Prop:=
 match CN P t with
 |some true=>∃D:Array Value,x= .agg D/\CL (CC ρ w) cs D.toList
 |some false=>∃a,cs=[a]/\CC ρ w a x
 |none=>False
theorem SU {t:TypeId} {n:Nat} {cs:List AC} {off:Nat} {G:Array Value} (N:szT P t=some n) (U:CN P t≠none) (M:CL (CC ρ w) cs G.toList) (hle:off+n<=cs.length)
  (O:CN P t=some false->n=1):∃x,(part t G off).run P w= .ok x w/\Fj P ρ w t (cut cs off n) x:=by
 cases D:CN P t with
 |none=>grind
 |some g=>
  cases g
  ·have I:=O D;subst I;have L:off<cs.length:=by omega
   obtain⟨x,S,V⟩:=M.get (ai L);have T:G[off]? =some x:=by simpa using S
   refine⟨x,by simp_all [part,OP],?_⟩
   grind [Fj,cut,List.drop_eq_getElem_cons]
  ·refine⟨.agg (G.extract off (off+n)),by simp[part,OP D,DQ N],?_⟩;unfold Fj;rw[D];refine⟨_,rfl,?_⟩;have:=M.cut off n;simp_all [cut]
theorem Q7k {ok:List TypeId} {d D:Nat} {xs ys:List AC} {X Y:Array Value}
  (ih:∀(t:TypeId) (as bs:List AC) (r:Bool) (A B:Value),eqC P ok d t as bs=some r->Fj P ρ w t as A->Fj P ρ w t bs B->(Op.equalIn D t A B).run P w= .ok r w)
  (hX:CL (CC ρ w) xs X.toList) (hY:CL (CC ρ w) ys Y.toList):∀(fs:List Field) (r:Bool),
  I3 (λf : Field => bif f.name == "_" then none else match szT P f.type with
    |some n=>bif(Nat.ble (f.offset+n) xs.length&&Nat.ble (f.offset+n) ys.length&&Iq P f.type n)then eqC P ok d f.type (cut xs f.offset n) (cut ys f.offset n)else none
    |none=>none) fs=some r->
  (Op.eqFields D X Y fs).run P w= .ok r w
 |[],r,h=>by simp_all [I3,Op.eqFields]
 |f::fs,r,h=>by
  simp only[I3]at h;split at h
  ·rename_i b hb;split at h
   ·rename_i b' hb';simp at h;subst h;have ht:=Q7k ih hX hY fs b' hb';cases hnm:f.name== "_"
    ·rw[hnm]at hb;simp only[aq]at hb;split at hb
     ·rename_i n hn;cases hle:(Nat.ble (f.offset+n) xs.length&&Nat.ble (f.offset+n) ys.length&&Iq P f.type n)
      ·grind
      ·rw[hle]at hb;simp only[aj]at hb;simp only[ak]at hle;obtain⟨⟨h1,h2⟩,h3⟩:=hle;have h1':=az h1;have h2':=az h2;have hg:CN P f.type≠none:=by intro e;simp[Iq,e]at h3
       have ho:CN P f.type=some false->n=1:=by intro e;simp[Iq,e]at h3;exact h3
       obtain⟨A,hA,vA⟩:=SU hn hg hX h1' ho;obtain⟨B,hB,vB⟩:=SU hn hg hY h2' ho;have he:=ih f.type _ _ b A B hb vA vB;have hne:f.name≠ "_" :=by simpa using hnm
       simp only[Op.eqFields,hne,ne_eq,iv,ew,Sem.run_bind,hA,dm,hB,he];cases b
       ·simp
       grind
     grind
    grind
   grind
  grind
theorem Q3j {ok:List TypeId} {d D e m:Nat} {xs I:List AC} {X Y:Array Value}
  (O:∀(t:TypeId) (as bs:List AC) (r:Bool) (A B:Value),eqC P ok d t as bs=some r->Fj P ρ w t as A->Fj P ρ w t bs B->(Op.equalIn D t A B).run P w= .ok r w)
  (S:CL (CC ρ w) xs X.toList) (T:CL (CC ρ w) I Y.toList) (L:szT P e=some m) (G:Iq P e m=true):∀(l:List Nat) (r:Bool),
  (∀i∈l,i*m+m<=xs.length/\i*m+m<=I.length)->
  I3 (λi=>eqC P ok d e (cut xs (i*m) m) (cut I (i*m) m)) l=some r->
  ((forIn l ((none : Option Bool), PUnit.unit) λi _ => do
    let a<-part e X (i*m)
    let b<-part e Y (i*m)
    let q<-Op.equalIn D e a b
    if(!q)=true then pure (ForInStep.done (some false,PUnit.unit))else pure (ForInStep.yield (none,PUnit.unit)):Sem (Option Bool×PUnit))>>=λs=>match s.1 with
     |none=>pure true
     |some a=>pure a).run P w= .ok r w
 |[],r,_,h=>by simp_all [I3]
 |i::l,r,M,h=>by
  simp only[I3]at h;split at h
  ·rename_i b hb;split at h
   ·rename_i b' N;simp at h;subst h;have ht:=Q3j O S T L G l b' (λj hj=>M j (by grind)) N;have U:CN P e≠none:=by intro q;simp[Iq,q]at G
    have V:CN P e=some false->m=1:=by intro q;simp[Iq,q]at G;exact G
    obtain⟨A,hA,vA⟩:=SU L U S (M i (by simp)).1 V;obtain⟨B,hB,vB⟩:=SU L U T (M i (by simp)).2 V;have he:=O e _ _ b A B hb vA vB;rw[List.forIn_cons];simp only[Sem.run_bind,hA,dm,hB,he];cases b
    ·simp
    simp_all
   grind
  grind
theorem Q5t {ok:List TypeId} (G:∀t∈ok,P.stoodInHeld t=false):∀(d D:Nat),d<=D->∀(t:TypeId) (as bs:List AC) (r:Bool) (A B:Value),
  eqC P ok d t as bs=some r->Fj P ρ w t as A->Fj P ρ w t bs B->(Op.equalIn D t A B).run P w= .ok r w
 |0,_,_,t,as,bs,r,A,B,h,_,_=>by grind [eqC]
 |d+1,0,hd,_,_,_,_,_,_,_,_,_=>by omega
 |d+1,D+1,hd,t,as,bs,r,A,B,h,L,vB=>by
  have V:=Q5t G d D (by omega);simp only[eqC]at h;split at h
  ·grind [CN,Fj,CC,CP,run_equalIn_bool']
  ·grind [CN,Fj,PT,CC,CP,run_equalIn_int]
  ·rename_i fs I;have M:CN P t=some true:=by simp[CN,I]
   simp only[Fj,M]at L vB;obtain⟨X,rfl,N⟩:=L;obtain⟨Y,rfl,O⟩:=vB;cases S:ok.elem t
   ·grind
   ·rw[S]at h;simp only[aj]at h;have T:P.fieldsOf t=fs:=by simp[Program.fieldsOf,I]
    rw[run_equalIn_struct w D t X Y (by grind) (G t (by grind)),T];exact Q7k V N O fs.toList r h
  ·rename_i n e I;have M:CN P t=some true:=by simp[CN,I]
   simp only[Fj,M]at L vB;obtain⟨X,rfl,N⟩:=L;obtain⟨Y,rfl,O⟩:=vB;split at h
   ·rename_i m hm;cases hle:(Nat.ble (n*m) as.length&&Nat.ble (n*m) bs.length&&Iq P e m)
    ·grind
    ·rw[hle]at h;simp only[aj]at h;simp only[ak]at hle;obtain⟨⟨h1,h2⟩,h3⟩:=hle;have a0:=az h1;have a1:=az h2;have hr := Q3j (P := P) (ρ := ρ) (w := w) (D := D) (X := X) (Y := Y) V N O hm h3 (List.range n) r (λi hi => by
      have U:i<n:=by simpa using hi
      have:i*m+m<=n*m:=by
       calc i*m+m=(i+1)*m:=by grind
        _<=n*m:=bg _ U
      omega) h
     simp only[Op.equalIn,Sem.run_bind,run_underlying I,dm,DQ hm]
     grind [Std.Legacy.Range.forIn_eq_forIn_range',Std.Legacy.Range.size,List.range_eq_range',Sem.run_bind]
   grind
  grind
end
open Go.RowKit
section
variable {P:Program} {C:Cfg} {ρ:Env} {w:World} {R:Type}
theorem RT {G:Operand->TV} {e:Operand->Value} (D:∀x,TVR ρ w (G x) (e x)):∀(l:List Operand),(BT G l).length=(l.map e).length/\
  ∀(i:Nat) (a:TV) (x:Value),(BT G l)[i]? =some a->(l.map e)[i]? =some x->TVR ρ w a x
 |[]=>by simp[BT]
 |o::l=>⟨by simp[BT,(RT D l).1],λi a x h h'=>by
   cases i with
   |zero=>grind [BT]
   |succ i=>simp[BT]at h h';exact(RT D l).2 i a x (by omega) (by grind)⟩
theorem Qpw {α:Type} (l:List α) (o:Nat):splice l o []=l:=by grind [splice]
theorem LJ {α:Type}:∀(l:List α) (o:Nat) (D:List α),(splice l o D).length=l.length
 |[],_,[]=>by rfl
 |[],_,_::_=>by rfl
 |_::_,_,[]=>by rfl
 |_::l,0,v::D=>by simp[splice,LJ l 0 D]
 |_::l,o+1,v::D=>by simp[splice,LJ l o (v::D)]
theorem Q01 {α:Type} (v:α) (D:List α):∀(l:List α) (o:Nat),o<l.length->splice (l.set o v) (o+1) D=splice l o (v::D)
 |[],o,h=>by grind
 |y::l,0,_=>by
  cases D with
  |nil=>grind [splice]
  |cons u G=>rfl
 |y::l,o+1,h=>by
  have I:=Q01 v D l o (by grind);cases D with
  |nil=>grind [splice]
  |cons u G=>grind [splice]
theorem Zct (off:Nat):∀(D:List Value) (k:Nat) (xs:Array Value),off+k+D.length<=xs.size->
  ((D.zipIdx k).foldl (λcs (c,j)=>cs.setIfInBounds (off+j) c) xs).toList=splice xs.toList (off+k) D
 |[],k,xs,_=>by simp[Qpw]
 |v::D,k,xs,h=>by
  simp only[List.zipIdx_cons,dz];rw[Zct off D (k+1) _ (by grind),Array.toList_setIfInBounds,<-Q01 v D xs.toList (off+k) (by grind),gy]
theorem T2 {place:Nat->Option (Nat×Nat)} {S:Operand->TV} {e:Operand->Value} (D:∀x,TVR ρ w (S x) (e x)):∀(parts:List (Nat×Operand)) (z cs:List AC) (xs:Array Value),
  CL (CC ρ w) z xs.toList->Gy place z (FC S parts)=some cs->
  ∃G:Array Value,Instr.fill place xs (parts.map λp=>(p.1,e p.2))=some G/\CL (CC ρ w) cs G.toList/\G.size=xs.size
 |[],z,cs,xs,L,h=>by simp[FC,Gy]at h;subst h;exact⟨xs,rfl,L,rfl⟩
 |(i,o)::parts,z,cs,xs,L,h=>by
  simp only[FC,Gy]at h;split at h
  ·rename_i off size l X T;have I:=(D o).cells T;cases hb:(Nat.beq l.length size&&Nat.ble (off+size) z.length)
   ·grind
   ·rw[hb]at h;simp only[aj]at h;simp only[ak]at hb;have e1:l.length=size:=ag hb.1;have e2:=az hb.2;have e3:=I.length;have U:=L.length;have M:(e o).cells.size=size:=by rw[<-e1,e3];simp
    have Y:off+(e o).cells.size<=xs.size:=by rw[M,<-fe,<-U];exact e2
    have N:=Zct off (e o).cells.toList 0 xs (by omega);have O:((e o).cells.zipIdx.foldl (λcs (c,j)=>cs.setIfInBounds (off+j) c) xs).toList=splice xs.toList (off+0) (e o).cells.toList:=by
     rw[<-Array.foldl_toList,Array.toList_zipIdx];exact N
    obtain⟨G,h1,V,h3⟩:=T2 D parts _ _ _ (by rw[O];exact L.splice _ I) h;refine⟨G,?_,V,?_⟩
    ·simp_all [Instr.fill]
    grind [LJ]
  grind
theorem Yep {α β:Type} (g:α->β) (l:List α) (o m:Nat):cut (l.map g) o m=(cut l o m).map g:=by simp[cut]
theorem Q50 {ks:List Kd}:∀(n:Nat) (cs:List AC) (l:List (List AC)) (xs:List Value),HE ks n cs=some l->CL (CC ρ w) cs xs->l.length=n/\xs.length=n*ks.length->RowC ρ.im w ks l xs
 |0,cs,l,xs,h,G,M=>by
  cases cs with
  |nil=>
   simp[HE]at h;subst h;exact⟨by grind,by simp,λi c O=>by grind⟩
  |cons=>grind [HE]
 |n+1,cs,l,xs,h,G,M=>by
  simp only[HE]at h;split at h
  ·rename_i c I;split at h
   ·rename_i S L;simp at h;subst h;have U:=SE I (G.take ks.length);have T:xs.length=n*ks.length+ks.length:=by rw[M.2,gx,Nat.one_mul]
    have N:=Q50 n _ S (xs.drop ks.length) L (G.drop ks.length) ⟨by grind,by grind⟩;refine⟨by grind,?_,?_⟩
    ·intro c' D;simp only[av]at D;rcases D with rfl|D
     ·grind
     ·exact N.2.1 c' D
    ·intro i c' O;cases i with
     |zero=>grind [cut]
     |succ i=>
      have:=N.2.2 i c' (by grind);simp_all [cut,gx,Nat.add_comm]
   grind
  grind
theorem Q5l {ks:List Kd}:∀(n:Nat) (cs:List AC) (l:List (List AC)),HE ks n cs=some l->l.length=n
 |0,[],l,h=>by grind [HE]
 |0,_::_,l,h=>by grind [HE]
 |n+1,cs,l,h=>by
  simp only[HE]at h;split at h
  ·split at h
   ·rename_i G D;simp at h;subst h;simp[Q5l n _ G D]
   grind
  grind
theorem Q8p {z:List AC} {v:List Value} (D:CL (CC ρ w) z v):∀n,CL (CC ρ w) (chunk z n) ((List.replicate n v).flatten)
 |0=>trivial
 |n+1=>by rw[chunk,je,List.flatten_cons];exact D.append (Q8p D n)
theorem Zbv (v:List Value) (G:0<v.length):∀(n j:Nat),j<n*v.length->(List.replicate n v).flatten[j]? =v[j%v.length]?
 |0,j,h=>by omega
 |n+1,j,h=>by
  rw[je,List.flatten_cons,f7];split
  ·grind [Nat.mod_eq_of_lt]
  ·rename_i I;have D:v.length<=j:=by omega
   rw[Zbv v G n (j-v.length) (by grind),Nat.mod_eq_sub_mod D]
def ZX (e:Operand->Value):Option Operand->Option Int->Prop
 |none,none=>True
 |some x,some n=>∃k,e x= .int k n
 |_,_=>False
theorem Zhj {G:Operand->TV} {e:Operand->Value} (I:∀x,TVR ρ w (G x) (e x)) {o:Option Operand} {i:Option Int} (h:KA G o=some i):
  ZX e o i:=by
 cases o with
 |none=>simp[KA]at h;subst h;trivial
 |some x=>
  simp only[KA]at h;split at h
  ·rename_i n D;simp at h;subst h;have L:=I x
   revert D L
   generalize G x=t;intro D L;unfold TV.int? at D;split at D
   ·rename_i k m;simp at D;subst D;exact⟨k,L.int⟩
   grind
  grind
theorem Q3 {t:TV} {x:Value} {n:Int} (h:t.int? =some n) (D:TVR ρ w t x):∃k,x= .int k n:=by
 unfold TV.int? at h;split at h
 ·grind [D.int]
 grind
theorem Sl {e:Operand->Value} {o:Oper} {c:Call} {f:FuncId} (D:o.op= .call c) (G:c.callee= .value (.func f)) (hf:e (.func f)= .func (.func f) #[] #[]):
  execOp e o=callFunc f (c.args.toList.map e).toArray:=by
 unfold execOp;simp only[D,resolve,G,hf,Deferred.ofValue,pure_bind];simp only[invoke,Array.append_empty,Array.empty_append];rw[<-ja]
theorem Z6v {e:Operand->Value} {o:Oper} {c:Call} {f:FuncId} {t:Tmp} {xs D:Array Value} (G:o.op= .call c) (I:c.callee= .value (.tmp t)) (hf:e (.tmp t)= .func (.func f) xs D):
  execOp e o=callFunc f (xs.toList++(c.args.toList.map e++D.toList)).toArray:=by
 unfold execOp;simp only[G,resolve,I,hf,Deferred.ofValue,pure_bind];simp only[invoke];congr 1;simp
theorem Z4k {e:Operand->Value} {o:Oper} {c:Call} {b:Builtin} (D:o.op= .call c) (G:c.callee= .builtin b):
  ∃cs,execOp e o=builtin b c.argTypes o.type cs (c.args.map e):=by
 unfold execOp;simp only[D,resolve,G];exact⟨_,rfl⟩
theorem Qe4 (D:Value->Value->Sem Value) (g:Int->Int->Int) (G:∀k a k' b w,(D (.int k a) (.int k' b)).run P w= .ok (.int k (g a b)) w) (k:IntKind):
  ∀(l:List TV) (xs:List Value) (a:Int) (Kp:Prim->Option R) (r:R),l.length=xs.length->(∀(i:Nat) (t:TV) (x:Value),l[i]? =some t->xs[i]? =some x->TVR ρ w t x)->Fh g k a l Kp=some r->
  ∃n,Kp (.val (.c (.int k n)))=some r/\(xs.foldlM D (.int k a)).run P w= .ok (.int k n) w
 |[],[],a,Kp,r,_,_,h=>by simp_all [Fh]
 |[],_::_,_,_,_,I,_,_=>by grind
 |_::_,[],_,_,_,I,_,_=>by grind
 |t::l,x::xs,a,Kp,r,I,L,h=>by
  unfold Fh at h;split at h
  ·rename_i k' b;cases M:kEq k k'
   ·grind
   ·rw[M]at h;simp only[aj]at h;have N:x= .int k' b:=(L 0 _ x rfl rfl).int;subst N;obtain⟨n,O,S⟩:=Qe4 D g G k l xs (g a b) _ r (by grind) (λi t x O S=>L (i+1) t x (by grind) (by grind)) h;simp_all
  grind
theorem Ztm {b:Builtin} {N:List TypeId} {args:List TV} {xs:List Value} {ty:TypeId} {cs:Array Bool} {Kp:Prim->Option R} {r:R}
  (M:args.length=xs.length) (L:∀(i:Nat) (t:TV) (x:Value),args[i]? =some t->xs[i]? =some x->TVR ρ w t x)
  (h:JJ P b N args Kp=some r) {e:Operand->Value} {o:Oper} (he:execOp e o=builtin b N.toArray ty cs xs.toArray):
  ∃p,Kp p=some r/\Ju P ρ w e o p:=by
 unfold JJ at h;split at h
 ·rename_i ks l
  match xs,M with
  |[x],_=>
   have D:=(L 0 _ x rfl rfl).c;simp only[CC,CP]at D;obtain⟨ad,cap,rfl,_⟩:=D;split at h
   ·rename_i t G;split at h
    ·rename_i S I;refine⟨_,h, .int .i64 l.length,?_,TVR.mkInt _ _⟩;rw[he];simp[builtin,Builtin.len_,run_underlying I,goInt]
    grind
   grind
 ·rename_i id wd n
  match xs,M with
  |[x],_=>
   have D:=(L 0 _ x rfl rfl).c;obtain⟨_,_,D⟩:=D;split at h
   ·rename_i t G;split at h
    ·rename_i S I;refine⟨_,h, .int .i64 n,?_,TVR.mkInt _ _⟩;rw[he];rcases D with⟨rfl,rfl⟩|⟨g,o',c,rfl⟩
     ·simp[builtin,Builtin.len_,run_underlying I,goInt]
     ·simp[builtin,Builtin.len_,run_underlying I,goInt]
    grind
   grind
 ·rename_i key n
  match xs,M with
  |[x],_=>
   have D:=(L 0 _ x rfl rfl).c;simp only[CC]at D;subst D;split at h
   ·rename_i t G;split at h
    ·rename_i S I;refine⟨_,h, .int .i64 n,?_,TVR.mkInt _ _⟩;rw[he];simp[builtin,Builtin.len_,run_underlying I,goInt]
    grind
   grind
 ·match xs,M with
  |[x],_=>
   have D:=(L 0 _ x rfl rfl).c;simp only[CC,CP]at D;subst D;split at h
   ·rename_i t G;split at h
    ·rename_i S I;refine⟨_,h, .int .i64 0,?_,TVR.mkInt _ _⟩;rw[he];simp[builtin,Builtin.len_,run_underlying I,goInt]
    grind
   grind
 ·rename_i l
  match xs,M with
  |[x],_=>
   obtain⟨ys,rfl,_⟩:=(L 0 _ x rfl rfl).agg;split at h
   ·rename_i t G;split at h
    ·rename_i n S I;refine⟨_,h, .int .i64 n,?_,TVR.mkInt _ _⟩;rw[he];simp[builtin,Builtin.len_,run_underlying I,goInt]
    grind
   grind
 ·rename_i k a rest
  match xs,M with
  |x::xs,M=>
   have D:x= .int k a:=(L 0 _ x rfl rfl).int;subst D;obtain⟨n,O,T⟩:=Qe4 (P:=P) (ρ:=ρ) (w:=w) Builtin.min2 mn (λk a k' b w=>by rfl) k rest xs a Kp r (by grind) (λi t x O T=>L (i+1) t x (by grind) (by grind)) h;refine⟨_,O, .int k n,?_,TVR.mkInt _ _⟩;simp_all [builtin,Builtin.min_]
 ·rename_i k a rest
  match xs,M with
  |x::xs,M=>
   have D:x= .int k a:=(L 0 _ x rfl rfl).int;subst D;obtain⟨n,O,T⟩:=Qe4 (P:=P) (ρ:=ρ) (w:=w) Builtin.max2 mx (λk a k' b w=>by rfl) k rest xs a Kp r (by grind) (λi t x O T=>L (i+1) t x (by grind) (by grind)) h;refine⟨_,O, .int k n,?_,TVR.mkInt _ _⟩;simp_all [builtin,Builtin.max_]
 ·rename_i s x'
  match xs,M with
  |[x,y],_=>
   have D:=(L 0 _ x rfl rfl).c;have U:=(L 1 _ y rfl rfl).c;split at h
   ·rename_i t u;split at h
    ·rename_i el V I X;split at h
     ·rename_i i ks Y a0;split at h
      ·rename_i z hz;cases hb:(Nat.beq t u&&Nat.beq z.cells.size i.size&&Nat.beq ks.length i.size)<;>rw[hb]at h
       ·grind
       ·simp only[aj]at h;simp only[ak]at hb;have e1:=ag hb.1.1;have e2:=ag hb.1.2;have e3:=ag hb.2;subst e1;refine⟨_,h,t,ty,i,z,x,y,I,Y,hz,e3.symm,rfl,by omega,D,U,?_⟩;simp_all [builtin]
      grind
     grind
    grind
   grind
 grind
end
open Go.RowKit
section
variable {P:Program} {C:Cfg} {ρ:Env} {w:World} {R:Type}
theorem Q10 {α β:Type} (g:α->Sem β) (s:α->β):∀(l:List α) (w:World),(∀x∈l,(g x).run P w= .ok (s x) w)->(l.mapM g).run P w= .ok (l.map s) w
 |[],w,_=>by simp
 |x::l,w,h=>by
  rw[List.mapM_cons];simp only[Sem.run_bind,h x (by simp),dm,Q10 g s l w (λy D=>h y (by grind)),Sem.run_pure,be]
theorem Zs5 {fs:Array Field} (h:Ao (LM P) fs.toList=true) (w:World):
  (fs.mapM λf:Field=>(do let n<-sizeOf f.type;pure (f.offset,n):Sem (Nat×Nat))).run P w= .ok (fs.map λf=>(f.offset,(szT P f.type).getD 0)) w:=by
 rw[Array.mapM_eq_mapM_toList];have := Q10 (P := P) (λf : Field => (do let n <- sizeOf f.type; pure (f.offset, n) : Sem (Nat × Nat))) (λf => (f.offset, (szT P f.type).getD 0)) fs.toList w (λf hf => by
  have D:=Ax.1 h f hf;unfold LM at D;split at D
  ·simp_all [DQ]
  grind)
 simp only[Sem.run_map,this,dm];congr 1
 grind
theorem Yhy {fs:Array Field} (h:Ao (LM P) fs.toList=true):
  Xy P fs.toList=λi:Nat=>(fs.map λf=>(f.offset,(szT P f.type).getD 0))[i]? :=by
 funext i
 rw[Array.getElem?_map,<-Array.getElem?_toList,Xy];cases hf:fs.toList[i]? with
 |none=>rfl
 |some f=>
  have D:=Ax.1 h f (bz hf);unfold LM at D
  grind
def RO (w:World) (b o:Nat) (D:List Value):Prop:=∀(j:Nat) (y:Value),D[j]? =some y->w.cell? ⟨b,o+j,none⟩=some y
theorem Qqu {im:Nat->Prop}:∀(cs:List AC) (b o:Nat),CPs im w cs b o->∃D,CL (CP im w) cs D/\RO w b o D
 |[],b,o,_=>⟨[],trivial,λj y h=>by grind⟩
 |c::cs,b,o,h=>by
  rw[CPs]at h;obtain⟨⟨y,N,G⟩,I⟩:=h;obtain⟨D,L,M⟩:=Qqu cs b (o+1) I;refine⟨y::D,⟨G,L⟩,λj z O=> ?_⟩;cases j with
  |zero=>grind
  |succ j=>have:=M j z (by grind);grind
theorem Wb {im:Nat->Prop}:∀(cs:List AC) (D:List Value) (b o:Nat),CL (CP im w) cs D->RO w b o D->CPs im w cs b o
 |[],[],b,o,_,_=>by simp[CPs]
 |c::cs,y::D,b,o,h,G=>by
  rw[CPs];exact⟨⟨y,G 0 y rfl,h.1⟩,Wb cs D b (o+1) h.2 λj z I=>by
   have:=G (j+1) z (by grind)
   grind⟩
 |[],_::_,_,_,h,_=>h.elim
 |_::_,[],_,_,h,_=>h.elim
theorem VH {t:TypeId} {g:Bool} {sz:Nat} {cells:List AC} {sub b o:Nat} {v:TV} {D:List Value} (M:CN P t=some g) (S:szT P t=some sz)
  (h:Dw g sz cells sub=some v) (N:CL (CC ρ w) cells D) (I:RO w b o D):
  ∃x,(loadVar t ⟨b,o+sub,none⟩).run P w= .ok x w/\TVR ρ w v x:=by
 have L:=Qxq h N;cases g
 ·obtain⟨x,O,G⟩:=L;refine⟨x,?_,G⟩;simp[loadVar,OP M,I sub x O]
 ·obtain⟨hle,G⟩:=L;refine⟨_,?_,G⟩;have T:(cut D sub sz).length=sz:=by simp[cut];omega
  have := run_loadCells_list (P := P) w ⟨b, o + sub, none⟩ (cut D sub sz) (λj y U => by
   rw[Addr.add_lit];rw[show o+sub+j=o+(sub+j)from by omega];refine I (sub+j) y ?_
   grind [cut])
  simp_all [loadVar,OP,DQ]
theorem Ys {e:Operand->Value} {o:Oper} {t:TypeId} {x:Operand} {lo O:Option Operand} {V:TypeId} {m n cap:Nat} {T:Option Addr} {D I:Option Int} {l hh':Int}
  (ho:o.op= .slice t x lo O none) (hu:P.underlying t=some (.slice V)) (X:szT P V=some m) (hc:e x= .slice T n cap) (Y:n<=cap)
  (G:ZX e lo D) (L:ZX e O I)
  (M:D.getD 0=l) (S:I.getD (n:Int)=hh') (d1:0<=l) (d2:l<=hh') (d3:hh'<=(n:Int)):
  (execOp e o).run P w= .ok (.value (.slice (if cap=l.toNat then T else T.map (·.add (l.toNat*m))) (hh'.toNat-l.toNat) (cap-l.toNat))) w:=by
 simp only[execOp,ho,Instr.sliceAt,Sem.run_bind,run_underlying hu,dm,hc,Option.map_none,Instr.slice,Instr.sliceBounds,Sem.run_pure,ew,Option.isSome_none,de,f9];have hH:∀y,O=some y->∃k,e y= .int k hh':=by
  rintro y rfl;cases I with
  |none=>exact L.elim
  |some q=>simp at S;subst S;exact L
 have hL:∀y,lo=some y->∃k,e y= .int k l:=by
  rintro y rfl;cases D with
  |none=>exact G.elim
  |some q=>simp at M;subst M;exact G
 cases O with
 |none=>
  have N:I=none:=by cases I with
   |none=>rfl
   |some _=>exact L.elim
  subst N;simp at S;subst S;cases lo with
  |none=>
   have N:D=none:=by cases D with
    |none=>rfl
    |some _=>exact G.elim
   subst N;simp at M;subst M;simp[DQ X]
  |some y=>
   obtain⟨k,hk⟩:=hL y rfl;simp_all [Instr.sliceBound,asIntOf,DQ]
 |some z=>
  obtain⟨k',U⟩:=hH z rfl;have q1:0<=hh':=by omega
  have q2:hh'<=(cap:Int):=by omega
  cases lo with
  |none=>
   have N:D=none:=by cases D with
    |none=>rfl
    |some _=>exact G.elim
   subst N;simp at M;subst M;simp_all [Instr.sliceBound,asIntOf,DQ]
  |some y=>
   obtain⟨k,hk⟩:=hL y rfl;simp[DQ X,hk,U,Instr.sliceBound,asIntOf,d1,q1,q2];omega
theorem Yah {im:Nat->Prop} {ks:List Kd} {l:List (List AC)} {G:Option Addr} {cap a b:Nat} (N:a<=b) (hb:b<=l.length)
  (h:CP im w (.vC ks l) (.slice G l.length cap)):CP im w (.vC ks ((l.take b).drop a)) (.slice (if cap=a then G else G.map (·.add (a*ks.length))) (b-a) (cap-a)):=by
 rw[CP]at h⊢;obtain⟨O,M,he,hle,S,hf⟩:=h;simp only[Value.slice.injEq,true_and]at he;obtain⟨rfl,rfl⟩:=he;have hlen:((l.take b).drop a).length=b-a:=by simp;omega
 refine⟨_,_,by rw[hlen],by omega,λc T=>S c (dk (dl T)),?_⟩;by_cases U:(l.take b).drop a=[]
 ·grind
 ·right;have D:0<((l.take b).drop a).length:=List.length_pos_iff.2 U;rw[hlen]at D;rcases hf with hf|⟨b',o,rfl,I,L⟩
  ·grind
  ·refine⟨b',o+a*ks.length,?_,I,Ti λi V=> ?_⟩
   ·rw[ab];simp[Addr.add_lit]
   ·rw[hlen]at V;have X:=Qb8 L (a+i) (by omega)
    grind
theorem Qow:∀{D:List TV} {as:List AC},JA D=some as->∀{xs:List Value},D.length=xs.length->(∀(i:Nat) (v:TV) (x:Value),D[i]? =some v->xs[i]? =some x->TVR ρ w v x)->CLc ρ w as xs
 |[],as,h,xs,M,_=>by
  simp[JA]at h;subst h;cases xs with
  |nil=>trivial
  |cons=>grind
 |v::D,as,h,xs,M,L=>by
  cases xs with
  |nil=>grind
  |cons x xs=>
   have N:=L 0 v x rfl rfl;unfold JA at h;split at h
   ·grind
   ·rename_i a l heq;simp only[d6]at heq;obtain⟨rfl,rfl⟩:=heq;cases G:a.clOk<;>rw[G]at h
    ·grind
    ·simp only[aj]at h;split at h
     ·rename_i r I;simp at h;subst h;refine⟨?_,Qow I (by grind) λi v x S T=>L (i+1) v x (by grind) (by grind)⟩;have O:=N.c;cases a<;>simp only[AC.clOk]at G<;>first|(simp at G;done)|exact O
     grind
   grind
theorem Qa5:∀{as:List AC} {xs:List Value},CLc ρ w as xs->(as.map TV.c).length=xs.length/\∀(i:Nat) (v:TV) (x:Value),(as.map TV.c)[i]? =some v->xs[i]? =some x->TVR ρ w v x
 |[],[],_=>by simp
 |a::as,x::xs,h=>by
  obtain⟨I,L⟩:=Qa5 h.2;refine⟨by grind,λi v y D G=> ?_⟩;cases i with
  |zero=>
   simp at D G;subst D;subst G;have:=h.1;cases a<;>first|exact TVR.c' this|(exact TVR.c' (IP this))|(simp[CCc,CP]at this)
  |succ i=>grind
 |[],_::_,h=>h.elim
 |_::_,[],h=>h.elim
theorem Q6v {a b:List TV} {xs D:List Value} (G:a.length=xs.length/\∀(i:Nat) (v:TV) (x:Value),a[i]? =some v->xs[i]? =some x->TVR ρ w v x)
  (I:b.length=D.length/\∀(i:Nat) (v:TV) (x:Value),b[i]? =some v->D[i]? =some x->TVR ρ w v x):
  (a++b).length=(xs++D).length/\∀(i:Nat) (v:TV) (x:Value),(a++b)[i]? =some v->(xs++D)[i]? =some x->TVR ρ w v x:=by grind
theorem Zlr (e8:∀t∈C.eqOk,P.stoodInHeld t=false) {ev:Operand->TV} {e:Operand->Value} (I:∀x,TVR ρ w (ev x) (e x))
  (c7:∀f,e (.func f)= .func (.func f) #[] #[]) (o:Oper) {Kp:Prim->Option R} {r:R} (h:opK P C ev o.dst o.op Kp=some r):
  ∃p,Kp p=some r/\Ju P ρ w e o p:=by
 obtain⟨dst,op,type,pos,after,guard⟩:=o;have hx:∀(c8:Op) (v:TV) (x:Value),op=c8->((execOp e ⟨dst,c8,type,pos,after,guard⟩).run P w= .ok (.value x) w)->TVR ρ w v x->Ju P ρ w e ⟨dst,op,type,pos,after,guard⟩ (.val v):=by
  rintro _ v x rfl h1 N;exact⟨x,h1,N⟩
 cases op<;>simp only[opK]at h<;>try (simp at h;done)
 case move x=>exact⟨_,h,e x,by rfl,I x⟩
 case assign x=>exact⟨_,h,e x,by rfl,I x⟩
 case pick c a b=>
  split at h
  ·rename_i g L;have b4:e c= .bool g:=by have:=I c;rw[L]at this;exact this.bool
   cases g
   ·simp only[aq]at h;exact⟨_,h,e b,by simp[execOp,b4,asBool],I b⟩
   ·simp only[aj]at h;exact⟨_,h,e a,by simp[execOp,b4,asBool],I a⟩
  grind
 case alloc t=>
  split at h
  ·rename_i cs hz;obtain⟨v,G,L⟩:=Uz (ρ:=ρ) (w:=w) hz;refine⟨_,h,v.cells,L,?_⟩;simp[execOp,Instr.alloc,G,newVar,newRow]
  grind
 case box t x=>
  split at h
  ·rename_i cs L;exact⟨_,h,(e x).cells,(I x).cells L,by rfl⟩
  grind
 case build t parts=>
  split at h
  ·rename_i z fs hz M;obtain⟨v,G,L⟩:=Uz (ρ:=ρ) (w:=w) hz;cases a7:(Ao (LM P) fs.toList)<;>rw[a7]at h
   ·grind
   ·simp only[aj]at h;split at h
    ·rename_i cs hb;rw[Yhy a7]at hb;obtain⟨S,h1,N,_⟩:=T2 I _ _ _ _ L hb;refine⟨_,h, .agg S,?_,⟨S,rfl,N⟩⟩;have e9:=Zs5 (P:=P) a7 w;simp only[execOp,Instr.build,Sem.run_bind,G,dm,run_underlying M,e9,ja];simp_all
    grind
  ·rename_i z n el hz M;obtain⟨v,G,L⟩:=Uz (ρ:=ρ) (w:=w) hz;split at h
   ·rename_i m hm;split at h
    ·rename_i cs hb;obtain⟨S,h1,N,_⟩:=T2 I _ _ _ _ L hb;refine⟨_,h, .agg S,?_,⟨S,rfl,N⟩⟩;simp only[execOp,Instr.build,Sem.run_bind,G,dm,run_underlying M,DQ hm,ja];simp_all
    grind
   grind
  grind
 case buildSlice t n parts=>
  split at h
  ·rename_i el M;split at h
   ·rename_i m z ks hm hz f0;obtain⟨v,G,L⟩:=Uz (ρ:=ρ) (w:=w) hz;cases hb:(Nat.beq z.length m&&Nat.beq ks.length m&&Nat.ble 1 m&&Nat.ble (n*m) 65536)<;>rw[hb]at h
    ·grind
    ·simp only[aj]at h;simp only[ak]at hb;have e1:=ag hb.1.1.1;have ek:=ag hb.1.1.2;have e2:=az hb.1.2;have e3:=az hb.2;split at h
     ·rename_i cs f3;have a3:∃S:Array Value,CL (CC ρ w) cs S.toList/\S.toList.length=n*m/\(execOp e ⟨dst, .buildSlice t n parts,type,pos,after,guard⟩).run P w= .ok (.value (.slice (some ⟨w.heap.size,0,none⟩) n n)) (w.alloc (.cells S el)):=by
       have c9:v.cells.toList.length=m:=by rw[<-L.length];exact e1
       have f4:((Array.range (n*m)).map λi=>(if n*m=0 then #[]else v.cells)[i%(if n*m=0 then(#[]:Array Value)else v.cells).size]!).toList=(List.replicate n v.cells.toList).flatten:=by
        by_cases hn:n*m=0
        ·grind [Nat.mul_eq_zero]
        ·simp only[hn,f9];apply gq;intro j;by_cases hj:j<n*m
         ·rw[Zbv _ (by omega) n j (by grind),c9];have hs:v.cells.size=m:=by rw[<-c9];simp
          have a1:j%m<v.cells.size:=by rw[hs];exact gd _ (by omega)
          grind
         simp_all
       have d0:=Q8p L n;rw[<-f4]at d0;obtain⟨S,h1,N,h3⟩:=T2 I _ _ _ _ d0 f3;have d4:S.toList.length=n*m:=by rw[fe,h3];simp
       refine⟨S,N,d4,?_⟩;have a8: ¬(n*m>2^24):=by omega
       simp only[execOp,Instr.buildSlice,Sem.run_bind,run_underlying M,dm,DQ hm,a8,f9,Sem.run_pure,ja];by_cases hn:n*m=0
       ·simp_all [newRow]
       ·simp_all [newRow]
      obtain⟨S,N,d4,a3⟩:=a3;split at h
      ·rename_i l f5;have b8:=Q5l _ _ _ f5;have key:∃arr:Array Value,0<ks.length/\l.length<=maxLen/\RowC ρ.im w ks l arr.toList/\
         (execOp e ⟨dst, .buildSlice t n parts,type,pos,after,guard⟩).run P w= .ok (.value (.slice (some ⟨w.heap.size,0,none⟩) l.length l.length)) (w.alloc (.cells arr el)):=by
        rw[b8];refine⟨S,by omega,?_,?_,a3⟩
        ·have:n<=n*m:=iq n (by omega)
         grind [maxLen]
        ·grind [Q50]
       cases b4:ZZ C dst n<;>rw[b4]at h
       ·exact⟨_,h,key⟩
       ·exact⟨_,h,key⟩
      ·cases T:(Ao AC.isClo cs&&Nat.beq m 1)<;>rw[T]at h
       ·grind
       ·simp only[aj]at h;simp only[ak]at T;exact⟨_,h,S,N,a3⟩
     grind
   grind
  grind
 case makeSlice t len cap=>
  split at h
  ·rename_i el n c M b8 a9;obtain⟨kl,g0⟩:=Q3 b8 (I len);obtain⟨kc,g1⟩:=Q3 a9 (I cap);split at h
   ·rename_i i z ks hi hz f0;split at h
    ·rename_i z' g2;cases hb:(Nat.beq ks.length i.size&&Nat.ble 1 i.size&&Nat.ble 1 i.bytes)<;>rw[hb]at h
     ·grind
     ·simp only[aj]at h;simp only[ak]at hb;have e1:=ag hb.1.1;have e2:=az hb.1.2;have e3:=az hb.2;cases hd:decide (n=c)<;>rw[hd]at h
      ·grind
      ·simp only[aj]at h;have b9:n=c:=by simpa using hd
       subst b9;unfold Jr at hz;rw[hi]at hz;dsimp only at hz;split at hz
       ·rename_i zv g3;have T:CL (CC ρ w) z zv.cells.toList:=Uo _ hz;obtain⟨f1,f2⟩:=SE g2 T;refine⟨_,h,t,i,zv,kl,kc,M,hi,g3,e1.symm,rfl,by omega,e3,f2,f1,?_⟩;simp[execOp,g0,g1]
       grind
    grind
   grind
  grind
 case makeFunc fn first captured=>
  split at h
  ·rename_i f;split at h
   ·rename_i fs cs b5 a2;have ha:=RT I first.toList;have hb:=RT I captured.toList;refine⟨_,h, .func (.func f) (first.map e) (captured.map e),by rfl,TVR.c' ⟨_,_,rfl,?_,?_⟩⟩
    ·grind [Qow]
    grind [Qow]
   grind
  grind
 case load t a=>
  split at h
  ·rename_i g sz hg hs;have ha:=I a;split at h
   ·rename_i key off D;rw[D]at ha;have G:=ha.c;simp only[CC]at G;refine⟨_,h,t,hg,hs,?_⟩;simp[execOp,Instr.loadAt,G,Instr.sureAddr]
   ·rename_i cells sub D;rw[D]at ha;obtain⟨b,o,G,b6,a2⟩:=ha.c;split at h
    ·rename_i v g4;obtain⟨S,a5,a6⟩:=Qqu cells b o a2;obtain⟨x,g5,g6⟩:=VH hg hs g4 (a5.mono λ_ _ _ hh=>IP hh) a6;refine⟨_,h,x,?_,g6⟩;simp[execOp,Instr.loadAt,G,Instr.sureAddr,g5]
    grind
   ·rename_i id idx sub D;rw[D]at ha;obtain⟨g',a4,G⟩:=ha.c;refine⟨_,h,t,g',hg,hs,a4,?_⟩;simp[execOp,Instr.loadAt,G,Instr.sureAddr]
   grind
  grind
 case store t a x=>
  split at h
  ·rename_i sz cs hs a2;cases hb:Nat.beq cs.length sz<;>rw[hb]at h
   ·grind
   ·simp only[aj]at h;have e1:=ag hb;subst e1;have ha:=I a;split at h
    ·rename_i key off D;rw[D]at ha;have G:=ha.c;simp only[CC]at G;refine⟨_,h,t,e x,hs,(I x).cells a2,?_⟩;simp[execOp,Instr.storeAt,G,Instr.sureAddr]
    ·rename_i id idx sub D;rw[D]at ha;obtain⟨g',a4,G⟩:=ha.c;refine⟨_,h,t,e x,g',hs,(I x).cells a2,a4,?_⟩;simp[execOp,Instr.storeAt,G,Instr.sureAddr]
    grind
  grind
 case nilCheck x=>
  have G:=I x;split at h
  ·rename_i key off D;rw[D]at G;have L:=G.c;simp only[CC]at L;exact⟨_,h,e x,by simp[execOp,L],G⟩
  ·rename_i id idx sub D;rw[D]at G;obtain⟨g',a4,L⟩:=G.c;exact⟨_,h,e x,by simp[execOp,L],G⟩
  ·rename_i cs sub D;rw[D]at G;obtain⟨b,o,L,_⟩:=G.c;exact⟨_,h,e x,by simp[execOp,L],G⟩
  grind
 case binOp d5 t x y yt=>
  have U:=I x;have V:=I y;split at h
  ·rename_i k a k' b hex a0;rw[hex]at U;rw[a0]at V;have e1:=U.int;have e2:=V.int;cases hk:kEq k k'<;>rw[hk]at h
   ·cases e0:Nq d5<;>rw[e0]at h
    ·grind
    ·simp only[Bool.false_or,aj]at h;obtain⟨c,v,h1,N,h3,h4,h5⟩:=Zky (P:=P) (ρ:=ρ) (w:=w) e0 t k k' a b _ h;refine⟨_,h1,v,?_,TVR.c' (IP N)⟩;simp[execOp,e1,e2,eqGuard_at_int,h3]
   ·simp only[Bool.true_or,aj]at h;have:=PT hk;subst this;obtain⟨c,v,h1,N,h3⟩:=Z1q (P:=P) (ρ:=ρ) (w:=w) d5 t k a b _ h;refine⟨_,h1,v,?_,TVR.c' (IP N)⟩;simp[execOp,e1,e2,eqGuard_at_int,h3]
  ·rename_i a b hex a0;rw[hex]at U;rw[a0]at V;have e1:=U.bool;have e2:=V.bool;split at h
   ·rename_i M;refine⟨_,h, .bool (a==b),?_,TVR.mkBool _⟩;simp[execOp,e1,e2,eqGuard_at_bool,binOp,Op.equal,Op.maxDepth,run_equalIn_bool' w 9999 t a b M]
   ·rename_i M;refine⟨_,h, .bool (!(a==b)),?_,TVR.mkBool _⟩;simp[execOp,e1,e2,eqGuard_at_bool,binOp,Op.equal,Op.maxDepth,run_equalIn_bool' w 9999 t a b M]
   grind
  ·rename_i a b hex a0;rw[hex]at U;rw[a0]at V;have e1:=U.c;have e2:=V.c;simp only[CC,CP]at e1 e2;have e1:=e1.1;have e2:=e2.1;split at h
   ·refine⟨_,h, .bool (a.toList==b.toList),?_,TVR.mkBool _⟩;simp[execOp,e1,e2,eqGuard_at_string,binOp,Op.stringOp]
   ·refine⟨_,h, .bool (!(a.toList==b.toList)),?_,TVR.mkBool _⟩;simp[execOp,e1,e2,eqGuard_at_string,binOp,Op.stringOp]
   ·cases hle:Nat.ble (a.size+b.size) 9223372036854775807<;>rw[hle]at h
    ·cases h
    simp only[aj]at h;have hle:=az hle;refine⟨_,h, .string (a++b),?_,TVR.c' (IP ⟨rfl,rfl⟩)⟩;simp[execOp,e1,e2,eqGuard_at_string,binOp,Op.stringOp];omega
   grind
  ·rename_i key off hex a0;rw[hex]at U;rw[a0]at V;have e1:=U.c;have e2:=V.c;simp only[CC]at e1;simp only[CC,CP]at e2;have e2:=e2.1;split at h
   ·rename_i el M;have hp:P.underlying t=some (.pointer (P.pointee t)):=by simp[Program.pointee,M]
    refine⟨_,h, .bool false,?_,TVR.mkBool _⟩;simp[execOp,e1,e2,eqGuard_at_pointer,run_eql_pointer_nil w t _ hp]
   ·rename_i el M;have hp:P.underlying t=some (.pointer (P.pointee t)):=by simp[Program.pointee,M]
    refine⟨_,h, .bool true,?_,TVR.mkBool _⟩;simp[execOp,e1,e2,eqGuard_at_pointer,run_neq_pointer_nil w t _ hp]
   grind
  ·rename_i hex a0;rw[hex]at U;rw[a0]at V;have e1:=U.c;have e2:=V.c;simp only[CC,CP]at e1 e2;have e1:=e1.1;have e2:=e2.1;split at h
   ·rename_i el M;have hp:P.underlying t=some (.pointer (P.pointee t)):=by simp[Program.pointee,M]
    refine⟨_,h, .bool true,?_,TVR.mkBool _⟩;simp[execOp,e1,e2,eqGuard_at_pointer,run_eql_pointer_nil w t _ hp]
   ·rename_i el M;have hp:P.underlying t=some (.pointer (P.pointee t)):=by simp[Program.pointee,M]
    refine⟨_,h, .bool false,?_,TVR.mkBool _⟩;simp[execOp,e1,e2,eqGuard_at_pointer,run_neq_pointer_nil w t _ hp]
   grind
  ·rename_i xs S hex a0;rw[hex]at U;rw[a0]at V;obtain⟨X,e1,hX⟩:=U.agg;obtain⟨Y,e2,hY⟩:=V.agg;cases a8:P.eqGuardType P.depth t<;>rw[a8]at h
   ·simp only[aq]at h;have key:∀q,CN P t=some true->eqC P C.eqOk 20 t xs S=some q->(Op.equalIn 10000 t (.agg X) (.agg Y)).run P w= .ok q w:=by
     intro q hg hq;exact Q5t e8 20 10000 (by omega) t xs S q _ _ hq (by simp only[Fj,hg];exact⟨X,rfl,hX⟩) (by simp_all [Fj])
    split at h
    ·rename_i q hg hq;refine⟨_,h, .bool q,?_,TVR.mkBool _⟩;simp[execOp,e1,e2,run_eqGuard_agg w .eql t x y X Y a8,run_eql_struct,key q hg hq]
    ·rename_i q hg hq;refine⟨_,h, .bool (!q),?_,TVR.mkBool _⟩;simp[execOp,e1,e2,run_eqGuard_agg w .neq t x y X Y a8,run_neq_struct,key q hg hq]
    grind
   grind
  grind
 case unOp i0 t x=>
  have G:=I x;split at h
  ·rename_i k n D;rw[D]at G;have e1:=G.int;exact⟨_,h, .int k (k.wrap (0-n)),by simp[execOp,e1,Op.unary,Op.intArith],TVR.mkInt _ _⟩
  ·rename_i b D;rw[D]at G;have e1:=G.bool;exact⟨_,h, .bool (!b),by simp[execOp,e1,Op.unary],TVR.mkBool _⟩
  grind
 case convert src h8 x=>
  have G:=I x;split at h
  ·rename_i d k k' n hs hd D;rw[D]at G;have e1:=G.int;refine⟨_,h, .int k (k.wrap n),?_,TVR.mkInt _ _⟩;simp[execOp,e1,convert,run_underlying hs,run_underlying hd,Conv.intToInt]
  grind
 case fieldAddr t x i=>
  split at h
  ·rename_i f hf;have b5:∃fs,P.underlying t=some (.struct fs)/\fs[i]? =some f:=by
    unfold Uh at hf;split at hf
    ·grind
    ·grind
   obtain⟨fs,M,b0⟩:=b5;split at h
   ·rename_i n hn;have i1:n+1≠0:=by omega
    have G:=I x;have fp:∀(b o:Nat),(fieldPlace ⟨b,o,none⟩ f).run P w= .ok ⟨b,o+f.offset,none⟩ w:=by
     intro b o;simp[fieldPlace,DQ hn,Addr.add_lit]
    split at h
    ·rename_i key off D;rw[D]at G;have L:=G.c;simp only[CC]at L;refine⟨_,h, .pointer (some ⟨ρ.bx key,off+f.offset,none⟩),?_,TVR.c' (by rfl)⟩;simp[execOp,Instr.fieldAt,run_underlying M,b0,L,Instr.sureAddr,fp]
    ·rename_i id idx sub D;rw[D]at G;obtain⟨g',a4,L⟩:=G.c;refine⟨_,h, .pointer (some ⟨g',HH (ρ.rv id)+(idx*ρ.wd id+sub)+f.offset,none⟩),?_,TVR.c' ⟨g',a4,by simp⟩⟩;simp[execOp,Instr.fieldAt,run_underlying M,b0,L,Instr.sureAddr,fp]
    ·rename_i cs sub D;rw[D]at G;obtain⟨b,o,L,h1,N⟩:=G.c;refine⟨_,h, .pointer (some ⟨b,o+sub+f.offset,none⟩),?_,TVR.c' ⟨b,o,by simp,h1,N⟩⟩;simp[execOp,Instr.fieldAt,run_underlying M,b0,L,Instr.sureAddr,fp]
    grind
   grind
  grind
 case field t x i=>
  split at h
  ·rename_i f cs hf D;have b5:∃fs,P.underlying t=some (.struct fs)/\fs[i]? =some f:=by
    unfold Uh at hf;split at hf
    ·grind
    ·grind
   obtain⟨fs,M,b0⟩:=b5;have G:=I x;rw[D]at G;obtain⟨S,L,T⟩:=G.agg;split at h
   ·rename_i v hp;obtain⟨y,a5,a6⟩:=Q6i (P:=P) hp T;refine⟨_,h,y,?_,a6⟩;simp[execOp,Instr.field,run_underlying M,b0,L,asAgg,a5]
   grind
  grind
 case indexAddr t x ix=>
  split at h
  ·rename_i i n el hi M;obtain⟨k,hk⟩:=Q3 hi (I ix);have G:=I x;split at h
   ·rename_i m key off hm D;rw[D]at G;have L:=G.c;simp only[CC]at L;obtain⟨j,h1,N,h3,h4⟩:=HZ h;refine⟨_,h1, .pointer (some ⟨ρ.bx key,off+j*m,none⟩),?_,TVR.c' (by rfl)⟩;have a1:j<n:=by omega
    simp[execOp,Instr.indexAt,run_underlying M,hk,asIntOf,L,Instr.sureAddr,N,a1,DQ hm,Addr.add_lit]
   ·rename_i m id idx sub hm D;rw[D]at G;obtain⟨g',a4,L⟩:=G.c;obtain⟨j,h1,N,h3,h4⟩:=HZ h;refine⟨_,h1, .pointer (some ⟨g',HH (ρ.rv id)+(idx*ρ.wd id+sub)+j*m,none⟩),?_,TVR.c' ⟨g',a4,by simp⟩⟩;have a1:j<n:=by omega
    simp[execOp,Instr.indexAt,run_underlying M,hk,asIntOf,L,Instr.sureAddr,N,a1,DQ hm,Addr.add_lit]
   ·rename_i m cs sub hm D;rw[D]at G;obtain⟨b,o,L,b6,a2⟩:=G.c;obtain⟨j,h1,N,h3,h4⟩:=HZ h;refine⟨_,h1, .pointer (some ⟨b,o+sub+j*m,none⟩),?_,TVR.c' ⟨b,o,by simp,b6,a2⟩⟩;have a1:j<n:=by omega
    simp[execOp,Instr.indexAt,run_underlying M,hk,asIntOf,L,Instr.sureAddr,N,a1,DQ hm,Addr.add_lit]
   grind
  ·rename_i i el hi M;obtain⟨k,hk⟩:=Q3 hi (I ix);have G:=I x;split at h
   ·rename_i m ks l hm D;rw[D]at G;have L:=G.c;simp only[CC,CP]at L;obtain⟨ad,cap,L,b7,g7,hf⟩:=L;cases hb:Nat.beq m ks.length<;>rw[hb]at h
    ·grind
    ·simp only[aj]at h;have e1:=ag hb;subst e1;cases hd:(decide (0<=i)&&decide (i<(l.length:Int)))<;>rw[hd]at h
     ·grind
     ·simp only[aj]at h;simp at hd;have c0:i.toNat<l.length:=by omega
      rcases hf with hf|⟨b,o,rfl,b6,g8⟩
      ·grind
      ·obtain⟨i2,a2⟩:=Qb8 g8 i.toNat c0;have h9:AE ks (nth [] l i.toNat)=l[i.toNat]:=by
        rw[B5,List.getD,ai c0];exact g7 _ (bh c0)
       refine⟨_,h, .pointer (some ⟨b,o+i.toNat*ks.length+0,none⟩),?_,TVR.c' ⟨b,o+i.toNat*ks.length,rfl,b6,by grind⟩⟩;simp[execOp,Instr.indexAt,run_underlying M,hk,asIntOf,L,hd,DQ hm,Addr.add_lit]
   ·rename_i m id wd n hm D;rw[D]at G;obtain⟨e4,g9,b1⟩:=G.c;cases hb:Nat.beq m wd<;>rw[hb]at h
    ·grind
    ·simp only[aj]at h;have e1:=ag hb;subst e1;cases hd:(decide (0<=i)&&decide (i<(n:Int)))<;>rw[hd]at h
     ·grind
     ·simp only[aj]at h;simp at hd;rcases b1 with⟨_,rfl⟩|⟨g',o',c',b1⟩
      ·omega
      ·refine⟨_,h, .pointer (some ⟨g',o'+(i.toNat*ρ.wd id+0),none⟩),?_,TVR.c' ⟨g',by rw[<-e4,b1];rfl,by rw[<-e4,b1];rfl⟩⟩;simp[execOp,Instr.indexAt,run_underlying M,hk,asIntOf,b1,hd,DQ hm,Addr.add_lit,g9]
   ·rename_i m key n hm D;rw[D]at G;have L:=G.c;simp only[CC]at L;cases hb:Nat.beq m 1<;>rw[hb]at h
    ·grind
    ·simp only[aj]at h;have e1:=ag hb;subst e1;obtain⟨j,h1,N,h3,h4⟩:=HZ h;refine⟨_,h1, .pointer (some ⟨ρ.bx key,j,none⟩),?_,TVR.c' (by rfl)⟩;have a1:j<n:=by omega
     simp[execOp,Instr.indexAt,run_underlying M,hk,asIntOf,L,N,a1,DQ hm,Addr.add_lit]
   grind
  grind
 case index t x ix=>
  split at h
  ·rename_i i n el cs hi M D;obtain⟨k,hk⟩:=Q3 hi (I ix);have G:=I x;rw[D]at G;obtain⟨S,L,T⟩:=G.agg;split at h
   ·rename_i m hm;obtain⟨j,h1,N,h3,h4⟩:=HZ h;have a1:j<n:=by omega
    split at h1
    ·rename_i v hp;obtain⟨y,a5,a6⟩:=Q6i (P:=P) hp T;refine⟨_,h1,y,?_,a6⟩;simp[execOp,Instr.index,run_underlying M,hk,asIntOf,L,N,a1,DQ hm,a5]
    grind
   grind
  grind
 case slice t x lo hi mx=>
  split at h
  ·rename_i _ e5 e6 el h0 h6 M;have b2:=Zhj I h0;have b3:=Zhj I h6;have G:=I x;split at h
   ·rename_i m ks l hm D;rw[D]at G;have a9:=G.c;have L:=a9;simp only[CC,CP]at L;obtain⟨ad,cap,L,b7,_⟩:=L;rw[L]at a9;cases hb:Nat.beq m ks.length<;>rw[hb]at h
    ·grind
    ·simp only[aj]at h;have e1:=ag hb;subst e1;have key:∀(a b:Int),e5.getD 0=a->e6.getD (l.length:Int)=b->0<=a->a<=b->b<=(l.length:Int)->Ju P ρ w e ⟨dst, .slice t x lo hi none,type,pos,after,guard⟩ (.val (.c (.vC ks ((l.take b.toNat).drop a.toNat)))):=by
      intro a b ha c5 d1 d2 d3;refine⟨_,Ys rfl M hm L b7 b2 b3 ha c5 d1 d2 d3,TVR.c' ?_⟩;exact Yah (by omega) (by omega) a9
     split at h
     ·refine⟨_,h,?_⟩;simp_all
     ·rename_i a;cases hd:(decide (0<=a)&&decide (a<=(l.length:Int)))<;>rw[hd]at h
      ·grind
      ·simp only[aj]at h;simp only[ak,cg]at hd;refine⟨_,h,?_⟩;simp_all
     ·rename_i b;cases hd:(decide (0<=b)&&decide (b<=(l.length:Int)))<;>rw[hd]at h
      ·grind
      ·simp only[aj]at h;simp only[ak,cg]at hd;refine⟨_,h,?_⟩;simp_all
     grind
   ·rename_i m id wd n hm D;rw[D]at G;obtain⟨c1,c2,c3⟩:=G.c;split at h
    ·rename_i a;cases hb:Nat.beq m wd<;>rw[hb]at h
     ·grind
     ·simp only[aj]at h;have e1:=ag hb;subst e1;cases hd:(decide (0<=a)&&decide (a<=(n:Int)))<;>rw[hd]at h
      ·grind
      ·simp only[aj]at h;simp only[ak,cg]at hd;refine⟨_,h,λad n' cap h7 b9 i3=> ?_⟩;have hn:n'=n:=by
        rcases c3 with⟨c3,c4⟩|⟨_,_,_,c3⟩
        ·grind
        ·grind
       subst hn;have a3:=Ys (P:=P) (w:=w) (e:=e) (o:=⟨dst, .slice t x lo hi none,type,pos,after,guard⟩) rfl M hm (c1.trans h7) b9 b2 b3 (l:=a) (hh':=(n':Int)) rfl rfl hd.1 hd.2 (f6 _)
       grind
    grind
   ·rename_i m hm D;rw[D]at G;have L:=G.c;simp only[CC,CP]at L;have key:e5.getD 0=0->e6.getD ((0:Nat):Int)=0->Ju P ρ w e ⟨dst, .slice t x lo hi none,type,pos,after,guard⟩ (.val (.c .nilSl)):=by
     intro ha c5;refine⟨_,Ys rfl M hm L (bt _) b2 b3 ha c5 (by omega) (by omega) (by omega),TVR.c' ?_⟩;simp[CC,CP]
    grind
   grind
  grind
 case extract t i=>
  have G:=I t;split at h
  ·rename_i ps D;rw[D]at G;obtain⟨S,L,hp⟩:=G;split at h
   ·rename_i g cs hg;have key:∀(l:List (Bool×List AC)) (xs:List Value) (i:Nat),TP ρ w l xs->l[i]? =some (g,cs)->∃y,xs[i]? =some y/\TVR ρ w (.v g cs) y:=by
     intro l;induction l with
     |nil=>simp
     |cons p l ih=>
      intro xs i c6 hh;cases xs with
      |nil=>exact c6.elim
      |cons y xs=>
       cases i with
       |zero=>
        simp at hh;subst hh;refine⟨y,rfl,?_⟩;have:=c6.1;cases g<;>exact this
       |succ i=>simpa using ih xs i c6.2 (by grind)
    obtain⟨y,a5,a6⟩:=key ps S.toList i hp hg;refine⟨_,h,y,?_,a6⟩;have e7:S[i]? =some y:=by simpa using a5
    simp[execOp,Instr.extract,L,e7]
   grind
  grind
 case call c=>
  have O:=RT I c.args.toList;split at h
  ·rename_i b hb;obtain⟨cs,a2⟩:=Z4k (e:=e) (o:=⟨dst, .call c,type,pos,after,guard⟩) (c:=c) rfl hb;refine Ztm (xs:=c.args.toList.map e) (by omega) O.2 h (ty:=type) (cs:=cs) ?_;rw[a2,<-ja]
  ·rename_i f hf;cases hp:C.pure f<;>rw[hp]at h
   ·exact⟨_,h,c.args.toList.map e,O.1.symm,O.2,Sl rfl hf (c7 f)⟩
   ·exact⟨_,h,c.args.toList.map e,O.1.symm,O.2,Sl rfl hf (c7 f)⟩
  ·rename_i t ht;split at h
   ·rename_i f fs cs T;have G:=I (.tmp t);rw[T]at G;obtain⟨xs,S,L,h1,N⟩:=G.c;obtain⟨q1,q2⟩:=Q6v (Qa5 h1) (Q6v O (Qa5 N));cases T:(Ao AC.clOk fs&&Ao AC.clOk cs)<;>rw[T]at h
    ·grind
    ·exact⟨_,h,_,q1.symm,q2,Z6v rfl ht L⟩
   grind
  grind
end
open Go.RowKit
section defs
variable (aB:List (Nat×Box)) (aC:List (Nat×Row))
def AC.wfP:AC->Prop
 | .ptr key _=>∃b,Ac aB key=some b
 |_=>True
def AC.wf:AC->Prop
 | .ptr key _=>∃b,Ac aB key=some b
 | .bsl key _=>∃b,Ac aB key=some b
 | .own id w n=>∃r,Ac aC id=some r/\r.n=n/\r.w=w
 | .rptr id idx _=>∃r,Ac aC id=some r/\idx<r.n
 | .vptr cs _=>Ao AC.calm cs=true
 | .clo _ fs cs=>(∀a∈fs,AC.wfP aB a)/\∀a∈cs,AC.wfP aB a
 |_=>True
def TV.wf:TV->Prop
 | .v _ cs=>∀a∈cs,AC.wf aB aC a
 | .tup ps=>∀p∈ps,∀a∈p.2,AC.wf aB aC a
 | .vD=>True
end defs
structure Fr (F : Nat -> Prop) (w w' : World) : Prop where
 os:w'.os=w.os
 tape:w'.tape=w.tape
 output:w'.output=w.output
 size:w.heap.size<=w'.heap.size
 block:∀k,F k->w'.heap[k]? =w.heap[k]?
theorem Fr.refl (F:Nat->Prop) (w:World):Fr F w w:=⟨rfl,rfl,rfl,bt _,λ_ _=>rfl⟩
theorem Fr.trans {F:Nat->Prop} {a b c:World} (h:Fr F a b) (k:Fr F b c):Fr F a c:=
 ⟨k.os.trans h.os,k.tape.trans h.tape,k.output.trans h.output,bj h.size k.size,λi D=>(k.block i D).trans (h.block i D)⟩
theorem Fr.mono {F D:Nat->Prop} {w w':World} (h:Fr F w w') (G:∀k,D k->F k):Fr D w w':=⟨h.os,h.tape,h.output,h.size,λk I=>h.block k (G k I)⟩
theorem Fr.drew {F:Nat->Prop} {a w:World} (h:Fr F a w):Fr F a w.drew:=⟨h.os,h.tape,h.output,h.size,h.block⟩
theorem Fr.alloc {F:Nat->Prop} {a w:World} (h:Fr F a w) (D:∀k,F k->k<w.heap.size) (o:Obj):Fr F a (w.alloc o):=
 h.trans ⟨rfl,rfl,rfl,by simp,λk G=>Below.heap_alloc _ _ _ (D k G)⟩
theorem Fr.of_below {w w':World} {F:Nat->Prop} (h:Below w.heap.size w w') (D:∀k,F k->k<w.heap.size):Fr F w w':=⟨h.os,h.tape,h.output,h.size,λk G=>h.block k (D k G)⟩
theorem Fr.grown {F:Nat->Prop} {a w w':World} {row:Option Nat} (h:Fr F a w) (D:w.grownBy w' row) (I:∀k,F k->k<w.heap.size) (L:∀k,row=some k-> ¬F k):Fr F a w':=
 h.trans ⟨D.os,D.tape,D.output,D.size,λk G=>D.block k (I k G) (λe=>L k e.symm G)⟩
structure Base where
 F:Nat->Prop
 w0:World
 I0:Nat->Prop
 K0:Nat->Option Nat
 gt:Gt F w0
structure RelE (Z : Base) (tm : List TV) (aB : List (Nat × Box)) (aC : List (Nat × Row)) (ρ : Env) (tmps : Array Value) (w : World) : Prop where
 tl:tm.length=tmps.size
 tv:∀(i:Nat) (v:TV),tm[i]? =some v->TVR ρ w v (tmps.getD i undef)
 wt:∀v∈tm,TV.wf aB aC v
 wb:∀(k:Nat) (b:Box),Ac aB k=some b->∀a∈b.cells,AC.wf aB aC a
 bx:∀(k:Nat) (b:Box),Ac aB k=some b->∃arr:Array Value,w.heap[ρ.bx k]? =some (.cells arr b.ty (0,0))/\CL (CC ρ w) b.cells arr.toList/\ ¬Z.F (ρ.bx k)
 bi:∀(k k':Nat) (b b':Box),Ac aB k=some b->Ac aB k'=some b'->ρ.bx k=ρ.bx k'->k=k'
 ro:∀(id:Nat) (r:Row),Ac aC id=some r->0<r.w/\ρ.wd id=r.w/\(∀g,(ρ.rv id).ownBlock=some g-> ¬Z.F g)/\∃xs,E3 w r.ty r.w (ρ.rv id) r.n xs/\RowC ρ.im w r.ks r.l xs
 ri:∀(id id':Nat) (r r':Row) (g:Nat),Ac aC id=some r->Ac aC id'=some r'->(ρ.rv id).ownBlock=some g->(ρ.rv id').ownBlock=some g->id=id'
 br:∀(k:Nat) (b:Box) (id:Nat) (r:Row),Ac aB k=some b->Ac aC id=some r->(ρ.rv id).ownBlock≠some (ρ.bx k)
 ib:∀b,ρ.im b->b<w.heap.size/\(∀(k:Nat) (bo:Box),Ac aB k=some bo->ρ.bx k≠b)/\(∀(id:Nat) (r:Row),Ac aC id=some r->(ρ.rv id).ownBlock≠some b)
 fr:Fr Z.F Z.w0 w
 fs:∀k,Z.F k->k<w.heap.size
 i0:∀b,Z.I0 b->ρ.im b
 i1:∀b,ρ.im b->Z.I0 b\/ ¬Z.F b
 k0:∀k b,Z.K0 k=some b->ρ.bx k=b/\∃bo,Ac aB k=some bo
section
variable {P:Program} {C:Cfg} {ρ:Env} {w:World} {R:Type} {Z:Base} {tm:List TV} {aB:List (Nat×Box)} {aC:List (Nat×Row)} {tmps:Array Value}
theorem Yj3 {w:World} {b:Nat} {o:Obj} (h:w.heap[b]? =some o):b<w.heap.size:=by grind
theorem RelE.bxlt (h:RelE Z tm aB aC ρ tmps w) {k:Nat} {b:Box} (D:Ac aB k=some b):ρ.bx k<w.heap.size:=by
 obtain⟨arr,G,_⟩:=h.bx k b D
 grind
theorem RelE.rwlt (h:RelE Z tm aB aC ρ tmps w) {id:Nat} {r:Row} (G:Ac aC id=some r) {g:Nat} (D:(ρ.rv id).ownBlock=some g): ¬Z.F g/\g<w.heap.size:=by
 obtain⟨_,_,I,xs,L,_⟩:=h.ro id r G;exact⟨I g D,Q8x L g D⟩
theorem TVR.mono {ρ ρ':Env} {w w':World} (I:∀(a:AC) (x:Value),CC ρ w a x->CC ρ' w' a x):∀(v:TV) (x:Value),TVR ρ w v x->TVR ρ' w' v x:=by
 intro v x h;have M:∀{l xs},CL (CC ρ w) l xs->CL (CC ρ' w') l xs:=λh=>h.mono λa _ x N=>I a x N;cases v with
 |vD=>trivial
 |v g cs=>
  cases g
  ·obtain⟨a,G,D⟩:=h;exact⟨a,G,I a _ D⟩
  ·obtain⟨L,G,D⟩:=h;exact⟨L,G,M D⟩
 |tup ps=>
  obtain⟨L,G,D⟩:=h;refine⟨L,G,?_⟩;generalize L.toList=l at D;clear G;induction ps generalizing l with
  |nil=>cases l<;>first|exact D|exact D.elim
  |cons p ps O=>
   cases l with
   |nil=>exact D.elim
   |cons y l=>
    obtain⟨g,cs⟩:=p;refine⟨?_,O l D.2⟩;have:=D.1
    grind
theorem TVR.mono' {ρ N:Env} {w w':World} {v:TV} (G:∀(a:AC) (x:Value),AC.wf aB aC a->CC ρ w a x->CC N w' a x) (M:TV.wf aB aC v) {x:Value} (h:TVR ρ w v x):TVR N w' v x:=by
 have T:∀{l xs},(∀a∈l,AC.wf aB aC a)->CL (CC ρ w) l xs->CL (CC N w') l xs:=λU h=>h.mono λa V x X=>G a x (U a V) X;cases v with
 |vD=>trivial
 |v g cs=>
  cases g
  ·obtain⟨a,I,D⟩:=h;subst I;exact⟨a,rfl,G a _ (M a (by simp)) D⟩
  ·obtain⟨L,I,D⟩:=h;exact⟨L,I,T M D⟩
 |tup ps=>
  obtain⟨L,I,D⟩:=h;refine⟨L,I,?_⟩;generalize L.toList=l at D;clear I;induction ps generalizing l with
  |nil=>cases l<;>first|exact D|exact D.elim
  |cons p ps Y=>
   cases l with
   |nil=>exact D.elim
   |cons y l=>
    obtain⟨g,cs⟩:=p;refine⟨?_,Y (λq hq=>M q (by grind)) l D.2⟩;have:=D.1;cases g
    ·obtain⟨a,O,S⟩:=this;subst O;exact⟨a,rfl,G a _ (M (false,[a]) (by simp) a (by simp)) S⟩
    ·obtain⟨L,O,S⟩:=this;exact⟨L,O,T (M (true,cs) (by simp)) S⟩
theorem RowC.mono {im D:Nat->Prop} {w w':World} {ks:List Kd} {l:List (List AC)} {xs:List Value} (I:∀b,im b->D b) (hb:∀b,im b->w'.heap[b]? =w.heap[b]?) (h:RowC im w ks l xs):RowC D w' ks l xs:=
 ⟨h.1,h.2.1,λi c G=>(h.2.2 i c G).mono λa _ x L=>CP.mono I hb a x L⟩
theorem AC.agree_refl {ρ D:Env} (I:D.bx=ρ.bx) (L:D.rv=ρ.rv) (M:D.wd=ρ.wd) (a:AC):a.agree ρ D:=by
 have G:∀a:AC,a.agreeP ρ D:=by intro a;cases a<;>first|grind [AC.agreeP]|trivial
 cases a with
 |ptr=>grind [AC.agree]
 |bsl=>grind [AC.agree]
 |own=>simp_all [AC.agree]
 |rptr=>simp_all [AC.agree]
 |clo=>exact⟨λa _=>G a,λa _=>G a⟩
 |_=>trivial
theorem CC.keep {g:Nat} {w':World} (G: ¬ρ.im g) (hb:∀b,b≠g->w'.heap[b]? =w.heap[b]?) (a:AC) (x:Value) (h:CC ρ w a x):CC ρ w' a x:=
 CC.mono (λ_ h=>h) (λb D=>hb b (λe=>G (e▸D))) a x (AC.agree_refl rfl rfl rfl a) h
def upN {α:Type} (f:Nat->α) (k:Nat) (v:α):Nat->α:=λj=>if j=k then v else f j
theorem BL {α:Type} (f:Nat->α) (k:Nat) (v:α):upN f k v k=v:=by simp[upN]
theorem CB {α:Type} (f:Nat->α) (k:Nat) (v:α) {j:Nat} (h:j≠k):upN f k v j=f j:=by simp[upN,h]
theorem AC.wfP_mono {D:List (Nat×Box)} (hb:∀(k:Nat) (b:Box),Ac aB k=some b->∃b',Ac D k=some b') {a:AC} (h:AC.wfP aB a):AC.wfP D a:=by
 cases a with
 |ptr k o=>obtain⟨b,h⟩:=h;exact hb k b h
 |_=>trivial
theorem AC.wf_mono {D:List (Nat×Box)} {G:List (Nat×Row)} (hb:∀(k:Nat) (b:Box),Ac aB k=some b->∃b',Ac D k=some b')
  (N:∀(k:Nat) (r:Row),Ac aC k=some r->∃r',Ac G k=some r'/\r'.n=r.n/\r'.w=r.w) {a:AC} (h:AC.wf aB aC a):AC.wf D G a:=by
 cases a with
 |ptr k o=>obtain⟨b,h⟩:=h;exact hb k b h
 |bsl k o=>obtain⟨b,h⟩:=h;exact hb k b h
 |own id w' n=>obtain⟨r,I,O,U⟩:=h;obtain⟨r',L,S,T⟩:=N id r I;exact⟨r',L,by omega,by omega⟩
 |rptr id i s=>obtain⟨r,I,O⟩:=h;obtain⟨r',L,S,T⟩:=N id r I;exact⟨r',L,by omega⟩
 |vptr=>exact h
 |clo f fs cs=>exact⟨λa M=>AC.wfP_mono hb (h.1 a M),λa M=>AC.wfP_mono hb (h.2 a M)⟩
 |_=>trivial
theorem AC.agree_of {ρ':Env} (D:∀k,(∃b,Ac aB k=some b)->ρ'.bx k=ρ.bx k) (I:∀id,(∃r,Ac aC id=some r)->ρ'.rv id=ρ.rv id/\ρ'.wd id=ρ.wd id) {a:AC} (h:AC.wf aB aC a):a.agree ρ ρ':=by
 have L:∀l:List AC,(∀a∈l,AC.wfP aB a)->∀a∈l,a.agreeP ρ ρ':=by
  intro l M a N;have:=M a N;cases a<;>first|exact D _ this|trivial
 cases a with
 |ptr k o=>exact D k h
 |bsl k o=>exact D k h
 |own id w n=>obtain⟨r,G,_⟩:=h;exact I id ⟨r,G⟩
 |rptr id i s=>obtain⟨r,G,_⟩:=h;exact I id ⟨r,G⟩
 |clo f fs cs=>exact⟨L fs h.1,L cs h.2⟩
 |_=>trivial
theorem TV.wf_mono {D:List (Nat×Box)} {G:List (Nat×Row)} (L:∀a,AC.wf aB aC a->AC.wf D G a) {v:TV} (h:TV.wf aB aC v):TV.wf D G v:=by
 cases v with
 |vD=>trivial
 |v g cs=>exact λa I=>L a (h a I)
 |tup ps=>exact λp M a I=>L a (h p M a I)
theorem RelE.new (h:RelE Z tm aB aC ρ tmps w) {d:Nat} (hd:Ac aB d=none) {ty:TypeId} {cs:List AC} {arr:Array Value} (hw:∀a∈cs,AC.wf aB aC a) (hc:CL (CC ρ w) cs arr.toList):
  RelE Z tm (ins aB d ⟨ty,cs⟩) aC {ρ with bx:=upN ρ.bx d w.heap.size} tmps (w.alloc (.cells arr ty)):=by
 have S:∀(k:Nat) (b:Box),Ac aB k=some b->Ac (ins aB d ⟨ty,cs⟩) k=some b:=by
  intro k b D;rw[DR]
  ·exact D
  ·grind
 have G:∀(k:Nat) (b:Box),Ac (ins aB d ⟨ty,cs⟩) k=some b->(k=d/\b=⟨ty,cs⟩)\/(k≠d/\Ac aB k=some b):=by
  intro k b D;by_cases a0:k=d
  ·subst a0;rw[Ep _ _ _ hd]at D;grind
  ·grind [DR]
 have T:∀a,AC.wf aB aC a->AC.wf (ins aB d ⟨ty,cs⟩) aC a:=λa=>AC.wf_mono (λk b D=>⟨b,S k b D⟩) (λk r D=>⟨r,D,rfl,rfl⟩);have hold:∀b,b<w.heap.size->(w.alloc (.cells arr ty)).heap[b]? =w.heap[b]? :=λb hb=>Below.heap_alloc w _ b hb;have N:∀(a:AC) (x:Value),AC.wf aB aC a->CC ρ w a x->CC {ρ with bx:=upN ρ.bx d w.heap.size} (w.alloc (.cells arr ty)) a x:=by
  intro a x O U;refine CC.mono (ρ:=ρ) (ρ':={ρ with bx:=upN ρ.bx d w.heap.size}) (λb hb=>hb) (λb hb=>hold b (h.ib b hb).1) a x ?_ U;refine AC.agree_of (ρ:=ρ) (ρ':={ρ with bx:=upN ρ.bx d w.heap.size}) (λk a1=>CB _ _ _ ?_) (λid _=>⟨rfl,rfl⟩) O;rintro rfl;obtain⟨b,hb⟩:=a1;rw[hd]at hb;cases hb
 refine⟨h.tl,λi v hi=>TVR.mono' N (h.wt v (bz hi)) (h.tv i v hi),λv hv=>TV.wf_mono T (h.wt v hv),?_,?_,?_,?_,h.ri,?_,?_,?_,?_,h.i0,h.i1,?_⟩
 ·intro k b D a O;rcases G k b D with⟨rfl,rfl⟩|⟨I,D⟩
  ·grind
  ·exact T a (h.wb k b D a O)
 ·intro k b D;rcases G k b D with⟨rfl,rfl⟩|⟨I,D⟩
  ·refine⟨arr,?_,hc.mono λa O x U=>N a x (hw a O) U,?_⟩
   ·show(w.alloc _).heap[upN ρ.bx k w.heap.size k]? =_
    grind [BL,heap_alloc_new]
   ·show¬Z.F (upN ρ.bx k w.heap.size k);rw[BL];exact λhf=>Nat.lt_irrefl _ (h.fs _ hf)
  ·obtain⟨ar,h1,Y,V⟩:=h.bx k b D;refine⟨ar,?_,Y.mono λa O x U=>N a x (h.wb k b D a O) U,?_⟩
   ·show(w.alloc _).heap[upN ρ.bx d w.heap.size k]? =_
    grind [CB]
   simp_all [upN]
 ·intro k k' b b' D a2 he;change upN ρ.bx d w.heap.size k=upN ρ.bx d w.heap.size k' at he;rcases G k b D with⟨e1,_⟩|⟨I,X⟩<;>rcases G k' b' a2 with⟨e2,_⟩|⟨L,M⟩
  ·omega
  ·rw[e1,BL,CB _ _ _ L]at he;have:=h.bxlt M;omega
  ·rw[e2,BL,CB _ _ _ I]at he;have:=h.bxlt X;omega
  ·rw[CB _ _ _ I,CB _ _ _ L]at he;exact h.bi k k' b b' X M he
 ·intro id r hr;obtain⟨h1,Y,h0,xs,V,h4⟩:=h.ro id r hr;exact⟨h1,Y,h0,xs,M8 V (λg hg=>hold g (Q8x V g hg)),h4.mono (λb hb=>hb) (λb hb=>hold b (h.ib b hb).1)⟩
 ·intro k b id r D hr he;change (ρ.rv id).ownBlock=some (upN ρ.bx d w.heap.size k)at he;rcases G k b D with⟨rfl,rfl⟩|⟨I,D⟩
  ·rw[BL]at he;have:=(h.rwlt hr he).2;omega
  ·rw[CB _ _ _ I]at he;exact h.br k b id r D hr he
 ·intro b hb;obtain⟨h1,Y,V⟩:=h.ib b hb;refine⟨by grind,λk bo D=> ?_,V⟩;show upN ρ.bx d w.heap.size k≠b
  grind [BL,CB]
 ·exact h.fr.alloc h.fs _
 ·intro k D;have:=h.fs k D;grind
 ·intro k b D;obtain⟨q1,bo,q2⟩:=h.k0 k b D;exact⟨by show upN ρ.bx d w.heap.size k=b;grind [CB],bo,S k bo q2⟩
theorem RelE.store (h:RelE Z tm aB aC ρ tmps w) {key:Nat} {b:Box} (I:Ac aB key=some b) {cells:List AC} (hw:∀a∈cells,AC.wf aB aC a) {arr:Array Value} (hc:CL (CC ρ w) cells arr.toList):
  RelE Z tm (upd aB key ⟨b.ty,cells⟩) aC ρ tmps (w.setRow (ρ.bx key) arr):=by
 obtain⟨ar,h1,h2,h3⟩:=h.bx key b I;have T: ¬ρ.im (ρ.bx key):=λhi=>(h.ib _ hi).2.1 key b I rfl;have hold:∀g,g≠ρ.bx key->(w.setRow (ρ.bx key) arr).heap[g]? =w.heap[g]? :=λg M=>setRow_other w _ g _ M;have N:∀(a:AC) (x:Value),CC ρ w a x->CC ρ (w.setRow (ρ.bx key) arr) a x:=λa x U=>CC.keep T hold a x U;have G:∀(k:Nat) (bo:Box),Ac (upd aB key ⟨b.ty,cells⟩) k=some bo->(k=key/\bo=⟨b.ty,cells⟩)\/(k≠key/\Ac aB k=some bo):=by
  intro k bo D;by_cases a0:k=key
  ·subst a0;rw[EF _ _ _ _ I]at D;grind
  ·grind [Dm]
 have O:∀(k:Nat) (bo:Box),Ac (upd aB key ⟨b.ty,cells⟩) k=some bo->∃S,Ac aB k=some S:=by
  intro k bo D;rcases G k bo D with⟨rfl,rfl⟩|⟨_,h⟩
  ·grind
  ·grind
 have V:∀a,AC.wf aB aC a->AC.wf (upd aB key ⟨b.ty,cells⟩) aC a:=λa=>AC.wf_mono (λk bo D=>by grind [EF,Dm]) (λk r I=>⟨r,I,rfl,rfl⟩);refine⟨h.tl,λi v hi=>TVR.mono N v _ (h.tv i v hi),λv hv=>TV.wf_mono V (h.wt v hv),?_,?_,?_,?_,h.ri,?_,?_,?_,?_,h.i0,h.i1,?_⟩
 ·intro k bo D a ha;rcases G k bo D with⟨rfl,rfl⟩|⟨X,D⟩
  ·grind
  ·exact V a (h.wb k bo D a ha)
 ·intro k bo D;rcases G k bo D with⟨rfl,rfl⟩|⟨X,D⟩
  ·exact⟨arr,setRow_heap w _ ar _ b.ty _ h1,hc.mono λa _ x U=>N a x U,h3⟩
  ·obtain⟨a1,Y,q2,q3⟩:=h.bx k bo D;refine⟨a1,?_,q2.mono λa _ x U=>N a x U,q3⟩;rw[hold _ (λe=>X (h.bi k key bo b D I e))];exact Y
 ·intro k k' bo S L a2 he;obtain⟨_,p1⟩:=O k bo L;obtain⟨_,p2⟩:=O k' S a2;exact h.bi k k' _ _ p1 p2 he
 ·intro id r hr;obtain⟨Y,q2,q0,xs,q3,q4⟩:=h.ro id r hr;exact⟨Y,q2,q0,xs,M8 q3 (λg M=>hold g (λe=>h.br key b id r I hr (by grind))),q4.mono (λ_ hb=>hb) (λg M=>hold g (λe=>T (e▸M)))⟩
 ·intro k bo id r L hr;obtain⟨_,p1⟩:=O k bo L;exact h.br k _ id r p1 hr
 ·intro g M;obtain⟨Y,q2,q3⟩:=h.ib g M;exact⟨by simp_all,λk bo L=>by grind,q3⟩
 ·exact h.fr.trans ⟨rfl,rfl,rfl,by simp,λg M=>hold g (λe=>h3 (e▸M))⟩
 ·intro k I;simpa using h.fs k I
 ·intro k b' D;obtain⟨Y,bo,q2⟩:=h.k0 k b' D
  grind [EF,Dm]
theorem RelE.addRow (h:RelE Z tm aB aC ρ tmps w) {d:Nat} (hd:Ac aC d=none) {r:Row} {v':Value} {xs:List Value} {w':World} (hb:Below w.heap.size w w')
  (hw:0<r.w) (a5:E3 w' r.ty r.w v' r.n xs) (V:RowC ρ.im w' r.ks r.l xs) (D:∀g,v'.ownBlock=some g->w.heap.size<=g):
  RelE Z tm aB (ins aC d r) {ρ with rv:=upN ρ.rv d v',wd:=upN ρ.wd d r.w} tmps w':=by
 have a0:∀(k:Nat) (q:Row),Ac aC k=some q->Ac (ins aC d r) k=some q:=by
  intro k q G;rw[DR]
  ·exact G
  ·grind
 have L:∀(k:Nat) (q:Row),Ac (ins aC d r) k=some q->(k=d/\q=r)\/(k≠d/\Ac aC k=some q):=by
  intro k q G;by_cases a1:k=d
  ·subst a1;rw[Ep _ _ _ hd]at G;grind
  ·grind [DR]
 have X:∀a,AC.wf aB aC a->AC.wf aB (ins aC d r) a:=λa=>AC.wf_mono (λk b G=>⟨b,G⟩) (λk q G=>⟨q,a0 k q G,rfl,rfl⟩);have hold:∀b,b<w.heap.size->w'.heap[b]? =w.heap[b]? :=λb a2=>hb.block b a2;have Y:∀(a:AC) (x:Value),AC.wf aB aC a->CC ρ w a x->CC {ρ with rv:=upN ρ.rv d v',wd:=upN ρ.wd d r.w} w' a x:=by
  intro a x ha hx;refine CC.mono (ρ:=ρ) (ρ':={ρ with rv:=upN ρ.rv d v',wd:=upN ρ.wd d r.w}) (λb hb=>hb) (λb hb=>hold b (h.ib b hb).1) a x ?_ hx;refine AC.agree_of (ρ:=ρ) (ρ':={ρ with rv:=upN ρ.rv d v',wd:=upN ρ.wd d r.w}) (λk _=>rfl) (λid ⟨q,O⟩=> ?_) ha;have:id≠d:=by rintro rfl;rw[hd]at O;cases O
  exact⟨CB _ _ _ this,CB _ _ _ this⟩
 refine⟨h.tl,λi v hi=>TVR.mono' Y (h.wt v (bz hi)) (h.tv i v hi),λv hv=>TV.wf_mono X (h.wt v hv),λk b G a ha=>X a (h.wb k b G a ha),?_,h.bi,?_,?_,?_,?_,?_,?_,h.i0,h.i1,λk b G=>h.k0 k b G⟩
 ·intro k b G;obtain⟨ar,h1,h2,h3⟩:=h.bx k b G;exact⟨ar,by grind,h2.mono λa ha x hx=>Y a x (h.wb k b G a ha) hx,h3⟩
 ·intro id q O;rcases L id q O with⟨e1,e2⟩|⟨M,O⟩
  ·subst e1 e2;refine⟨hw,BL _ _ _,?_,xs,?_,V⟩
   ·intro g N hf;change (upN ρ.rv id v' id).ownBlock=some g at N;rw[BL]at N;exact Nat.lt_irrefl _ (db (h.fs g hf) (D g N))
   simp_all [upN]
  ·obtain⟨h1,h2,h0,ys,h3,h4⟩:=h.ro id q O;refine⟨h1,by simp_all [upN],by simp_all [upN],ys,?_,h4.mono (λb hb=>hb) (λb hb=>hold b (h.ib b hb).1)⟩;show E3 w' q.ty q.w (upN ρ.rv d v' id) q.n ys;rw[CB _ _ _ M];exact M8 h3 λg N=>hold g (h.rwlt O N).2
 ·intro id id' q q' g O a3 N I;change (upN ρ.rv d v' id).ownBlock=_ at N;change (upN ρ.rv d v' id').ownBlock=_ at I;rcases L id q O with⟨e1,_⟩|⟨M,S⟩<;>rcases L id' q' a3 with⟨e2,_⟩|⟨T,U⟩
  ·omega
  ·rw[e1,BL]at N;rw[CB _ _ _ T]at I;have:=D g N;have:=(h.rwlt U I).2;omega
  ·rw[e2,BL]at I;rw[CB _ _ _ M]at N;have:=D g I;have:=(h.rwlt S N).2;omega
  ·rw[CB _ _ _ M]at N;rw[CB _ _ _ T]at I;exact h.ri id id' q q' g S U N I
 ·intro k b id q G O he;change (upN ρ.rv d v' id).ownBlock=some (ρ.bx k)at he;rcases L id q O with⟨e1,_⟩|⟨M,S⟩
  ·rw[e1,BL]at he;have:=D _ he;have:=h.bxlt G;omega
  ·rw[CB _ _ _ M]at he;exact h.br k b id q G S he
 ·intro b a4;obtain⟨h1,h2,h3⟩:=h.ib b a4;refine⟨db h1 hb.size,h2,λid q O he=> ?_⟩;change (upN ρ.rv d v' id).ownBlock=some b at he
  grind [BL,CB]
 ·exact h.fr.trans (Fr.of_below hb h.fs)
 ·exact λk G=>db (h.fs k G) hb.size
def AC.free (id:Nat):AC->Prop
 | .own j _ _=>j≠id
 | .rptr j _ _=>j≠id
 |_=>True
def TV.free (id:Nat):TV->Prop
 | .v _ cs=>∀a∈cs,AC.free id a
 | .tup ps=>∀p∈ps,∀a∈p.2,AC.free id a
 | .vD=>True
theorem TVR.mono2 {ρ M:Env} {w w':World} {v:TV} {Q:AC->Prop} (I:∀(a:AC) (x:Value),Q a->CC ρ w a x->CC M w' a x)
  (N:match v with| .v _ cs=>∀a∈cs,Q a| .tup ps=>∀p∈ps,∀a∈p.2,Q a| .vD=>True) {x:Value} (h:TVR ρ w v x):TVR M w' v x:=by
 have O:∀{l xs},(∀a∈l,Q a)->CL (CC ρ w) l xs->CL (CC M w') l xs:=λS h=>h.mono λa T x U=>I a x (S a T) U;cases v with
 |vD=>trivial
 |v g cs=>
  cases g
  ·obtain⟨a,G,D⟩:=h;subst G;exact⟨a,rfl,I a _ (N a (by simp)) D⟩
  ·obtain⟨L,G,D⟩:=h;exact⟨L,G,O N D⟩
 |tup ps=>
  obtain⟨L,G,D⟩:=h;refine⟨L,G,?_⟩;generalize L.toList=l at D;clear G;induction ps generalizing l with
  |nil=>cases l<;>first|exact D|exact D.elim
  |cons p ps V=>
   cases l with
   |nil=>exact D.elim
   |cons y l=>
    obtain⟨g,cs⟩:=p;refine⟨?_,V (λq hq=>N q (by grind)) l D.2⟩;have:=D.1;cases g
    ·obtain⟨a,X,Y⟩:=this;simp_all
    ·obtain⟨L,X,Y⟩:=this;simp_all
theorem RelE.turnRow (h:RelE Z tm aB aC ρ tmps w) {id:Nat} {r:Row} (hid:Ac aC id=some r) {r':Row} {v':Value} {xs:List Value} {w':World} (hg:w.grownBy w' (ρ.rv id).ownBlock)
  (hw:r'.w=r.w) (b2:E3 w' r'.ty r'.w v' r'.n xs) (a3:RowC ρ.im w' r'.ks r'.l xs) (Y:v'.ownBlock=(ρ.rv id).ownBlock\/∀g,v'.ownBlock=some g->w.heap.size<=g)
  (a4:(v'=ρ.rv id/\r'.n=r.n)\/((∀v∈tm,TV.free id v)/\∀(k:Nat) (b:Box),Ac aB k=some b->∀a∈b.cells,AC.free id a)):
  RelE Z tm aB (upd aC id r') {ρ with rv:=upN ρ.rv id v'} tmps w':=by
 have O:∀(k:Nat) (q:Row),Ac (upd aC id r') k=some q->(k=id/\q=r')\/(k≠id/\Ac aC k=some q):=by
  intro k q L;by_cases a8:k=id
  ·subst a8;rw[EF _ _ _ _ hid]at L;grind
  ·grind [Dm]
 have a9:∀b,ρ.im b->some b≠(ρ.rv id).ownBlock:=λb hb e=>(h.ib b hb).2.2 id r hid e.symm;have a0:∀b,ρ.im b->w'.heap[b]? =w.heap[b]? :=λb hb=>hg.block b (h.ib b hb).1 (a9 b hb)
 let Q:AC->Prop:=λa=>AC.wf aB aC a/\((v'=ρ.rv id/\r'.n=r.n)\/AC.free id a)
 have a2:∀a,Q a->AC.wf aB (upd aC id r') a:=by
  rintro a ⟨G,V⟩;cases a with
  |ptr=>exact G
  |own j w1 n1=>
   obtain⟨q,q1,q2,q3⟩:=G;by_cases hj:j=id
   ·subst hj;rcases V with⟨_,T⟩|hf
    ·rw[hid]at q1;simp at q1;subst q1;exact⟨r',EF _ _ _ _ hid,by omega,by omega⟩
    ·exact absurd rfl hf
   ·exact⟨q,by grind [Dm],q2,q3⟩
  |rptr j i1 s1=>
   obtain⟨q,q1,q2⟩:=G;by_cases hj:j=id
   ·subst hj;rcases V with⟨_,T⟩|hf
    ·rw[hid]at q1;simp at q1;subst q1;exact⟨r',EF _ _ _ _ hid,by omega⟩
    ·exact absurd rfl hf
   ·exact⟨q,by grind [Dm],q2⟩
  |vptr=>exact G
  |clo=>exact G
  |_=>trivial
 have a5:∀(a:AC) (x:Value),Q a->CC ρ w a x->CC {ρ with rv:=upN ρ.rv id v'} w' a x:=by
  rintro a x ⟨_,V⟩ hx;refine CC.mono (ρ:=ρ) (ρ':={ρ with rv:=upN ρ.rv id v'}) (λb hb=>hb) a0 a x ?_ hx;have key:∀j,((v'=ρ.rv id/\r'.n=r.n)\/j≠id)->upN ρ.rv id v' j=ρ.rv j:=by
   intro j hj;by_cases b3:j=id
   ·simp_all [BL]
   ·grind [CB]
  cases a with
  |own j _ _=>exact⟨key j V,rfl⟩
  |rptr j _ _=>exact⟨key j V,rfl⟩
  |ptr=>rfl
  |clo f fs cs=>exact⟨λa _=>by cases a<;>first|rfl|trivial,λa _=>by cases a<;>first|rfl|trivial⟩
  |_=>trivial
 have a6:∀v∈tm,match v with| .v _ cs=>∀a∈cs,Q a| .tup ps=>∀p∈ps,∀a∈p.2,Q a| .vD=>True:=by
  intro v hv;have h1:=h.wt v hv;have h2:(v'=ρ.rv id/\r'.n=r.n)\/TV.free id v:=Q2 a4 (λx=>x) λx=>x.1 v hv;cases v with
  |vD=>trivial
  |v g cs=>exact λa G=>⟨h1 a G,Q2 h2 (λx=>x) λx=>x a G⟩
  |tup ps=>exact λp hp a G=>⟨h1 p hp a G,Q2 h2 (λx=>x) λx=>x p hp a G⟩
 have a7:∀(k:Nat) (b:Box),Ac aB k=some b->∀a∈b.cells,Q a:=λk b L a G=>⟨h.wb k b L a G,Q2 a4 (λx=>x) λx=>x.2 k b L a G⟩;have S:∀g,v'.ownBlock=some g->(ρ.rv id).ownBlock=some g\/w.heap.size<=g:=by
  intro g e;rcases Y with hp|hp
  ·grind
  ·grind
 refine⟨h.tl,λi v hi=>TVR.mono2 a5 (a6 v (bz hi)) (h.tv i v hi),λv hv=> ?_,λk b L a G=>a2 a (a7 k b L a G),?_,h.bi,?_,?_,?_,?_,?_,?_,h.i0,h.i1,λk b L=>h.k0 k b L⟩
 ·have:=a6 v hv;cases v with
  |vD=>trivial
  |v g cs=>exact λa G=>a2 a (this a G)
  |tup ps=>exact λp hp a G=>a2 a (this p hp a G)
 ·intro k b L;obtain⟨ar,h1,h2,h3⟩:=h.bx k b L;refine⟨ar,?_,h2.mono λa G x hx=>a5 a x (a7 k b L a G) hx,h3⟩;rw[hg.block _ (Yj3 h1) (λe=>h.br k b id r L hid e.symm)];exact h1
 ·intro j q V;rcases O j q V with⟨e1,e2⟩|⟨N,I⟩
  ·subst e1 e2;obtain⟨q1,q2,q0,_⟩:=h.ro j r hid;refine⟨by omega,by grind,?_,xs,?_,a3⟩
   ·intro g U hf;change (upN ρ.rv j v' j).ownBlock=some g at U;rw[BL]at U;rcases S g U with T|T
    ·grind
    ·exact Nat.lt_irrefl _ (db (h.fs g hf) T)
   simp_all [upN]
  ·obtain⟨h1,h2,h0,ys,h3,h4⟩:=h.ro j q I;refine⟨h1,h2,by simp_all [upN],ys,?_,h4.mono (λb hb=>hb) a0⟩;show E3 w' q.ty q.w (upN ρ.rv id v' j) q.n ys;rw[CB _ _ _ N];exact M8 h3 λg U=>hg.block g (h.rwlt I U).2 (λe=>N (h.ri j id q r g I hid U e.symm))
 ·intro j j' q q' g V b0 M D;change (upN ρ.rv id v' j).ownBlock=_ at M;change (upN ρ.rv id v' j').ownBlock=_ at D;rcases O j q V with⟨e1,_⟩|⟨N,I⟩<;>rcases O j' q' b0 with⟨e2,_⟩|⟨a1,X⟩
  ·omega
  ·rw[e1,BL]at M;rw[CB _ _ _ a1]at D;rcases S g M with T|T
   ·rw[e1];exact(h.ri j' id q' r g X hid D T).symm
   ·have:=(h.rwlt X D).2;omega
  ·rw[e2,BL]at D;rw[CB _ _ _ N]at M;rcases S g D with T|T
   ·rw[e2];exact h.ri j id q r g I hid M T
   ·have:=(h.rwlt I M).2;omega
  ·rw[CB _ _ _ N]at M;rw[CB _ _ _ a1]at D;exact h.ri j j' q q' g I X M D
 ·intro k b j q L V he;change (upN ρ.rv id v' j).ownBlock=some (ρ.bx k)at he;rcases O j q V with⟨e1,_⟩|⟨N,I⟩
  ·rw[e1,BL]at he;rcases S _ he with T|T
   ·exact h.br k b id r L hid T
   ·have:=h.bxlt L;omega
  ·rw[CB _ _ _ N]at he;exact h.br k b j q L I he
 ·intro b b1;obtain⟨h1,h2,h3⟩:=h.ib b b1;refine⟨db h1 hg.size,h2,λj q V he=> ?_⟩;change (upN ρ.rv id v' j).ownBlock=some b at he
  grind [BL,CB]
 ·refine h.fr.grown hg h.fs λg e=>(h.rwlt hid e).1
 ·exact λk L=>db (h.fs k L) hg.size
end
open Go.RowKit
def D6 (F:Nat->Prop) (w:World) (ρ:Env) (aB:List (Nat×Box)) (D:Gt F w):Base:=⟨F,w,ρ.im,λk=>(Ac aB k).map λ_=>ρ.bx k,D⟩
def PCallM (P:Program) (f:FuncId) (args:List TV) (mem:Mem) (v:TV) (mem':Mem):Prop:=
 ∀{F:Nat->Prop} {w:World} {D:Gt F w} (ρ:Env) (xs:List Value),RelE (D6 F w ρ mem.aB D) args mem.aB mem.aC ρ xs.toArray w->
  Calls P f xs.toArray w λe w'=>∃(x:Value) (G:Env),e= .returned x/\RelE (D6 F w ρ mem.aB D) [v] mem'.aB mem'.aC G #[x] w'
def NY (P:Program) (f:FuncId):Prop:=∃fn,P.funcs[f]? =some fn/\(fn.name== "runtime.NumGoroutine")=false/\fn.body.isNone=false
def CallsX (P:Program) (f:FuncId) (xs:Array Value) (w:World) (R:Ending->World->Prop):Prop:=
 (NY P f/\Calls P f xs w R)\/∃x w',(callFunc f xs).run P w= .ok (.value x) w'/\R (.returned x) w'
theorem CallsX.mono {P:Program} {f:FuncId} {xs:Array Value} {w:World} {R R':Ending->World->Prop} (h:CallsX P f xs w R) (I:∀e w',R e w'->R' e w'):CallsX P f xs w R':=by
 rcases h with⟨D,G⟩|⟨x,w',D,G⟩
 ·exact .inl ⟨D,G.mono I⟩
 ·exact .inr ⟨x,w',D,I _ _ G⟩
def Qh5 (P:Program) (f:FuncId) (args:List TV) (mem:Mem) (v:TV) (mem':Mem):Prop:=
 ∀{F:Nat->Prop} {w:World} {D:Gt F w} (ρ:Env) (xs:List Value),RelE (D6 F w ρ mem.aB D) args mem.aB mem.aC ρ xs.toArray w->
  CallsX P f xs.toArray w λe w'=>∃(x:Value) (G:Env),e= .returned x/\RelE (D6 F w ρ mem.aB D) [v] mem'.aB mem'.aC G #[x] w'
theorem PCallM.x {P:Program} {f:FuncId} {args:List TV} {mem:Mem} {v:TV} {mem':Mem} (h:PCallM P f args mem v mem') (D:NY P f):Qh5 P f args mem v mem':=
 λρ xs G=> .inl ⟨D,h ρ xs G⟩
structure SpecRight (P : Program) (f : FuncId) (g : Spec) : Prop where
 nat:∀(R:Type) (args:List TV) (mem:Mem) (K:TV->Mem->Option R),g R args mem K=(g (TV×Mem) args mem λv m=>some (v,m)).bind λp=>K p.1 p.2
 ok:∀(args:List TV) (mem:Mem) (v:TV) (mem':Mem),(g (TV×Mem) args mem λv m=>some (v,m))=some (v,mem')->Qh5 P f args mem v mem'
def UK (g:Spec):Prop:=∀(args:List TV) (mem:Mem) (v:TV) (m:Mem),(g (TV×Mem) args mem λv m=>some (v,m))=some (v,m)->m=mem
def OE (P:Program) (f:FuncId) (g:Spec):Prop:=
 ∀(args:List TV) (mem:Mem) (v:TV) (mem':Mem),(g (TV×Mem) args mem λv m=>some (v,m))=some (v,mem')->
  ∀{F:Nat->Prop} {w:World} {D:Gt F w} (ρ:Env) (xs:List Value),RelE (D6 F w ρ mem.aB D) args mem.aB mem.aC ρ xs.toArray w->
   CallsX P f xs.toArray w λe w'=>∃(x:Value) (G:Env),e= .returned x/\RelE (D6 F w ρ mem.aB D) [v] mem'.aB mem'.aC G #[x] w'/\G.rv base=ρ.rv base
def Ai (P:Program) (C:Cfg):Prop:=
 (∀(f:FuncId) (g:Spec),C.spec f=some g->SpecRight P f g)/\(∀(f:FuncId) (g:Spec),C.spec f=some g->C.ro f=true->UK g)/\∀(f:FuncId) (g:Spec),C.spec f=some g->C.keepR f=true->OE P f g
theorem SpecRight.run2 {P:Program} {f:FuncId} {g:Spec} (h:SpecRight P f g) {R:Type} {args:List TV} {mem:Mem} {K:TV->Mem->Option R} {r:R} (D:g R args mem K=some r):
  ∃v mem',K v mem'=some r/\(g (TV×Mem) args mem λv m=>some (v,m))=some (v,mem'):=by grind [h.nat,Option.bind_eq_some_iff]
theorem SpecRight.run {P:Program} {f:FuncId} {g:Spec} (h:SpecRight P f g) {R:Type} {args:List TV} {mem:Mem} {K:TV->Mem->Option R} {r:R} (D:g R args mem K=some r):
  ∃v mem',K v mem'=some r/\Qh5 P f args mem v mem':=by
 rw[h.nat]at D;simp only[bm]at D;obtain⟨⟨v,m⟩,G,I⟩:=D;exact⟨v,m,I,h.ok args mem v m G⟩
def Prim.wf (aB:List (Nat×Box)) (aC:List (Nat×Row)):Prim->Prop
 | .val v=>TV.wf aB aC v
 | .load _ _ key _=>∃b,Ac aB key=some b
 | .store key _ cs=>(∃b,Ac aB key=some b)/\∀a∈cs,AC.wf aB aC a
 | .new _ cs=>∀a∈cs,AC.wf aB aC a
 | .newS _ _ cs=>∀a∈cs,AC.wf aB aC a
 | .rload _ _ id idx _=>∃r,Ac aC id=some r/\idx<r.n
 | .rstore id idx _ _=>∃r,Ac aC id=some r/\idx<r.n
 | .append _ _ _ s x=>AC.wf aB aC s/\AC.wf aB aC x
 | .appD _ _ _ s x=>AC.wf aB aC s/\AC.wf aB aC x
 | .call _ args=>∀v∈args,TV.wf aB aC v
 | .callM _ args=>∀v∈args,TV.wf aB aC v
 | .callF _ args=>∀v∈args,TV.wf aB aC v
 | .callD _ args=>∀v∈args,TV.wf aB aC v
 |_=>True
section
variable {P:Program} {C:Cfg} {ρ:Env} {w:World} {R:Type} {Z:Base} {tm:List TV} {aB:List (Nat×Box)} {aC:List (Nat×Row)} {tmps:Array Value}
theorem Ft {α β:Type} (g:α->β):∀(l:List (Nat×α)) (k:Nat),Ac (l.map λp=>(p.1,g p.2)) k=(Ac l k).map g
 |[],_=>rfl
 |(j,b)::l,k=>by
  simp only[be,Ac,Ft g l k]
  grind
theorem AC.kill_wf {id:Nat} {a:AC} (h:AC.wf aB aC a):AC.wf aB aC (a.kill id):=by
 cases a with
 |own j w n=>simp only[AC.kill];cases Nat.beq j id<;>first|exact h|trivial
 |rptr j i s=>simp only[AC.kill];cases Nat.beq j id<;>first|exact h|trivial
 |_=>exact h
theorem AC.kill_free (id:Nat) (a:AC):AC.free id (a.kill id):=by
 cases a with
 |own j w n=>
  simp only[AC.kill];cases hb:Nat.beq j id
  ·exact λe=>by simp_all
  ·trivial
 |rptr j i s=>
  simp only[AC.kill];cases hb:Nat.beq j id
  ·exact λe=>by simp_all
  ·trivial
 |_=>trivial
theorem AC.kill_CC {id:Nat} {a:AC} {x:Value} (h:CC ρ w a x):CC ρ w (a.kill id) x:=by
 cases a with
 |own j w n=>simp only[AC.kill];cases Nat.beq j id<;>first|exact h|exact h.one
 |rptr j i s=>simp only[AC.kill];cases Nat.beq j id<;>first|exact h|exact h.one
 |_=>exact h
theorem CL.kill {id:Nat}:∀{l:List AC} {xs:List Value},CL (CC ρ w) l xs->CL (CC ρ w) (l.map (AC.kill id)) xs
 |[],[],_=>trivial
 |_::_,_::_,h=>⟨AC.kill_CC h.1,CL.kill h.2⟩
 |[],_::_,h=>h.elim
 |_::_,[],h=>h.elim
theorem TV.kill_TVR {id:Nat} {v:TV} {x:Value} (h:TVR ρ w v x):TVR ρ w (v.kill id) x:=by
 cases v with
 |vD=>trivial
 |tup ps=>
  obtain⟨G,rfl,D⟩:=h;refine⟨G,rfl,?_⟩;generalize G.toList=l at D;induction ps generalizing l with
  |nil=>grind
  |cons p ps L=>
   cases l with
   |nil=>exact D.elim
   |cons y l=>
    obtain⟨g,cs⟩:=p;refine⟨?_,L l D.2⟩;have:=D.1;cases g
    ·obtain⟨a,M,I⟩:=this;simp_all [AC.kill_CC]
    ·obtain⟨O,M,N⟩:=this;grind [N.kill]
 |v g cs=>
  cases g
  ·obtain⟨a,rfl,I⟩:=h;exact⟨_,rfl,AC.kill_CC I⟩
  ·obtain⟨G,rfl,D⟩:=h;exact⟨G,rfl,D.kill⟩
theorem TV.kill_wf {id:Nat} {v:TV} (h:TV.wf aB aC v):TV.wf aB aC (v.kill id):=by
 cases v with
 |v g cs=>
  intro a D;simp only[ba]at D;obtain⟨b,hb,rfl⟩:=D;exact AC.kill_wf (h b hb)
 |tup ps=>
  intro p G a D;simp only[ba]at G;obtain⟨q,I,rfl⟩:=G;simp only[ba]at D;obtain⟨b,hb,rfl⟩:=D;exact AC.kill_wf (h q I b hb)
 |_=>trivial
theorem TV.kill_free (id:Nat) (v:TV):TV.free id (v.kill id):=by
 cases v with
 |v g cs=>
  intro a D
  grind [AC.kill_free]
 |tup ps=>
  intro p G a D
  grind [AC.kill_free]
 |_=>trivial
theorem RelE.kill (h:RelE Z tm aB aC ρ tmps w) (id:Nat):
  RelE Z (tm.map (TV.kill id)) (aB.map λp=>(p.1,p.2.kill id)) aC ρ tmps w:=by
 have M:∀k,Ac (aB.map λp=>(p.1,p.2.kill id)) k=(Ac aB k).map (Box.kill id):=λk=>Ft (Box.kill id) aB k;have D:∀(k:Nat) (b:Box),Ac (aB.map λp=>(p.1,p.2.kill id)) k=some b->∃b',Ac aB k=some b'/\b=b'.kill id:=by
  intro k b G;rw[M]at G;cases hl:Ac aB k with
  |none=>grind
  |some b'=>grind
 have L:∀a,AC.wf aB aC a->AC.wf (aB.map λp=>(p.1,p.2.kill id)) aC a:=λa=>AC.wf_mono (λk b G=>⟨b.kill id,by grind⟩) (λk r G=>⟨r,G,rfl,rfl⟩);refine⟨by grind [h.tl],?_,?_,?_,?_,?_,h.ro,h.ri,?_,?_,h.fr,h.fs,h.i0,h.i1,?_⟩
 ·intro i v T;simp only[du,bn]at T;obtain⟨u,N,rfl⟩:=T;exact TV.kill_TVR (h.tv i u N)
 ·intro v U;simp only[ba]at U;obtain⟨u,N,rfl⟩:=U;exact TV.wf_mono L (TV.kill_wf (h.wt u N))
 ·intro k b G a V;obtain⟨b',I,rfl⟩:=D k b G;simp only[Box.kill,ba]at V;obtain⟨c,X,rfl⟩:=V;exact L _ (AC.kill_wf (h.wb k b' I c X))
 ·intro k b G;obtain⟨b',I,rfl⟩:=D k b G;obtain⟨arr,Y,h2,h3⟩:=h.bx k b' I;exact⟨arr,Y,h2.kill,h3⟩
 ·intro k k' b b' G O;obtain⟨_,S,_⟩:=D k b G;obtain⟨_,p2,_⟩:=D k' b' O;exact h.bi k k' _ _ S p2
 ·intro k b id' r G hr;obtain⟨_,S,_⟩:=D k b G;exact h.br k _ id' r S hr
 ·intro b hb;obtain⟨q1,q2,q3⟩:=h.ib b hb
  grind
 ·intro k b G;obtain⟨q1,bo,q2⟩:=h.k0 k b G
  grind
theorem Z7a {im:Nat->Prop} {ks:List Kd} {b o:Nat}:∀(l:List (List AC)),(∀c∈l,AE ks c=c)->CPss im w ks.length l b o->
  ∃D,RowC im w ks l D/\RO w b o D:=by
 intro l L h;induction l generalizing o with
 |nil=>exact⟨[],⟨by simp,by simp,λi c M=>by grind⟩,λj y h=>by grind⟩
 |cons c l N=>
  rw[CPss]at h;obtain⟨D,⟨X,Y,h3⟩,O⟩:=N (λc hc=>L c (by grind)) h.2;obtain⟨I,S,T⟩:=Qqu _ _ _ h.1.2;have U:I.length=ks.length:=by rw[<-S.length];exact h.1.1
  refine⟨I++D,⟨by grind,L,λi c' M=> ?_⟩,λj y G=> ?_⟩
  ·cases i with
   |zero=>simp_all [cut]
   |succ i=>simp_all [cut,gx,List.drop_append,jt]
  ·rw[f7]at G;split at G
   ·exact T j y G
   ·rename_i V;have:=O (j-I.length) y G
    grind
theorem ZN {im:Nat->Prop} {ks:List Kd} {l:List (List AC)} {xs:List Value} {v:Value} {e:TypeId} (G:E3 w e ks.length v l.length xs) (D:RowC im w ks l xs)
  (M:∀g,v.ownBlock=some g->im g):CP im w (.vC ks l) v:=by
 rw[CP];rcases G.2 with⟨e1,e2⟩|⟨I,o,cap,cur,e1,e3,S,T,U,V⟩
 ·grind
 ·refine⟨some ⟨I,o,none⟩,cap,e1,S,D.2.1, .inr ⟨I,o,rfl,M I (by rw[e1];rfl),Ti λi O=> ?_⟩⟩;have N:=D.2.2 i l[i] (ai O);refine⟨?_,?_⟩
  ·rw[<-D.2.1 l[i] (bh O)];exact TY _ _
  ·refine Wb _ (cut xs (i*ks.length) ks.length) I _ N ?_;intro j y L;simp only[cut,gj]at L;split at L
   ·rw[fd]at L;have:=Q9 G (g:=I) (by rw[e1];rfl) (i*ks.length+j) y L
    grind [HH]
   grind
theorem RM {a:AC} {x:Value} {G:Env} {w':World} (I:a.plain=true) (h:CC ρ w a x) (D:CP ρ.im w a x->CP G.im w' a x):CC G w' a x:=by
 cases a<;>first|exact D h|grind [AC.plain]
theorem Zah {ρ2:Env} {v:TV} {x:Value} {w':World} (I:v.plainB=true) (G:∀(a:AC) (x:Value),a.plain=true->CP ρ.im w a x->CP ρ2.im w' a x) (h:TVR ρ w v x):TVR ρ2 w' v x:=by
 have T:∀{l:List AC} {xs:List Value},Ao AC.plain l=true->CL (CC ρ w) l xs->CL (CC ρ2 w') l xs:=λS h=>h.mono λa L x U=>RM (Ax.1 S a L) U (G a x (Ax.1 S a L));cases v with
 |vD=>trivial
 |v g cs=>
  cases g
  ·obtain⟨a,rfl,L⟩:=h;exact⟨a,rfl,RM (Ax.1 I a (by simp)) L (G a x (Ax.1 I a (by simp)))⟩
  ·obtain⟨N,rfl,D⟩:=h;exact⟨N,rfl,T I D⟩
 |tup ps=>
  obtain⟨N,rfl,D⟩:=h;refine⟨N,rfl,?_⟩;generalize N.toList=l at D;simp only[TV.plainB]at I;induction ps generalizing l with
  |nil=>cases l<;>first|exact D|exact D.elim
  |cons p ps V=>
   cases l with
   |nil=>exact D.elim
   |cons y l=>
    obtain⟨g,cs⟩:=p;have M:=Ax.1 I (g,cs) (by simp);have O:Ao (λp:Bool×List AC=>Ao AC.plain p.2) ps=true:=Ax.2 λq Y=>Ax.1 I q (by grind);refine⟨?_,V O l D.2⟩;have:=D.1;cases g
    ·obtain⟨a,X,L⟩:=this;subst X;exact⟨a,rfl,RM (Ax.1 M a (by simp)) L (G a y (Ax.1 M a (by simp)))⟩
    grind
theorem Q12 {im D:Nat->Prop} {w w':World} {a:AC} {x:Value} (hf:a.flat=true) (h:CP im w a x):CP D w' a x:=by
 cases a<;>simp only[CP,AC.flat]at* <;>first|exact h|grind
theorem Z0g {L:Env} {v:TV} {x:Value} {w':World} (hf:v.flat=true) (h:TVR ρ w v x):TVR L w' v x:=by
 have O:∀{l:List AC} {xs:List Value},Ao AC.flat l=true->CL (CC ρ w) l xs->CL (CC L w') l xs:=λN h=>h.mono λa G x X=>by
  have:=Ax.1 N a G;have S:a.plain=true:=by cases a<;>first|rfl|grind [AC.flat]
  grind [RM,Q12]
 have T:∀{a:AC} {x:Value},a.flat=true->CC ρ w a x->CC L w' a x:=fun{a x} N h=>by
  have S:a.plain=true:=by cases a<;>first|rfl|grind [AC.flat]
  grind [RM,Q12]
 cases v with
 |vD=>trivial
 |v g cs=>
  cases g
  ·obtain⟨a,rfl,G⟩:=h;exact⟨a,rfl,T (Ax.1 hf a (by simp)) G⟩
  ·obtain⟨I,rfl,D⟩:=h;exact⟨I,rfl,O hf D⟩
 |tup ps=>
  obtain⟨I,rfl,D⟩:=h;refine⟨I,rfl,?_⟩;generalize I.toList=l at D;simp only[TV.flat]at hf;induction ps generalizing l with
  |nil=>cases l<;>first|exact D|exact D.elim
  |cons p ps U=>
   cases l with
   |nil=>exact D.elim
   |cons y l=>
    obtain⟨g,cs⟩:=p;have V:=Ax.1 hf (g,cs) (by simp);have M:Ao (λp:Bool×List AC=>Ao AC.flat p.2) ps=true:=Ax.2 λq Y=>Ax.1 hf q (by grind);refine⟨?_,U M l D.2⟩;have:=D.1;cases g
    ·obtain⟨a,q1,G⟩:=this;simp_all [Ax]
    grind
theorem Jl {v:TV} (h:v.plainB=true):TV.wf aB aC v:=by
 have D:∀{l:List AC},Ao AC.plain l=true->∀a∈l,AC.wf aB aC a:=λh a G=>by
  have:=Ax.1 h a G;cases a<;>first|trivial|(simp[AC.plain]at this)
 cases v with
 |vD=>trivial
 |v g cs=>exact D h
 |tup ps=>exact λp I=>D (Ax.1 h p I)
theorem Zkt {im:Nat->Prop} {a:AC} {x:Value} (h:CP im w a x):AC.wf aB aC a:=by
 cases a<;>first|trivial|(simp[CP]at h)
theorem Zup {im:Nat->Prop} {l:List AC} {xs:List Value} (h:CL (CP im w) l xs):∀a∈l,AC.wf aB aC a:=by
 induction l generalizing xs with
 |nil=>simp
 |cons b l G=>
  cases xs with
  |nil=>exact h.elim
  |cons y xs=>
   intro a D;simp only[av]at D;rcases D with rfl|D
   ·exact Zkt h.1
   ·exact G h.2 a D
theorem Zmi {U:Env} (O:∀(a L:AC) (x:Value),a.res aC=some L->CC ρ w a x->AC.wf aB aC a->CC U w L x) {v V:TV} {x:Value} (T:v.res aC=some V) (X:TV.wf aB aC v) (h:TVR ρ w v x):TVR U w V x:=by
 have Y:∀(cs G:List AC) (xs:List Value),Er aC cs=some G->(∀a∈cs,AC.wf aB aC a)->CL (CC ρ w) cs xs->CL (CC U w) G xs:=by
  intro cs;induction cs with
  |nil=>intro G xs I _ N;simp[Er]at I;subst I;cases xs<;>first|exact N|exact N.elim
  |cons a cs ih=>
   intro G xs I S N;cases xs with
   |nil=>exact N.elim
   |cons y xs=>
    simp only[Er]at I;split at I
    ·rename_i L M;split at I
     ·rename_i l' D;simp at I;subst I;exact⟨O a L y M N.1 (S a (by simp)),ih _ _ D (λb hb=>S b (by grind)) N.2⟩
     grind
    grind
 cases v with
 |vD=>grind [TV.res]
 |tup ps=>grind [TV.res]
 |v g cs=>
  simp only[TV.res]at T;split at T
  ·rename_i l D;simp at T;subst T;cases g
   ·obtain⟨a,rfl,ha⟩:=h;simp only[Er]at D;split at D
    ·rename_i L M;simp at D;subst D;exact⟨L,rfl,O a L x M ha (X a (by simp))⟩
    grind
   ·obtain⟨ys,rfl,hy⟩:=h;exact⟨ys,rfl,Y _ _ _ D X hy⟩
  grind
theorem Z7p {a D:AC} (h:a.res aC=some D):D.plain=true:=by
 cases a<;>simp only[AC.res]at h<;>try (simp at h;done)
 case own=>split at h<;>simp at h;subst h;rfl
 all_goals (simp at h;subst h;rfl)
theorem Qxz:∀{l G:List AC},Er aC l=some G->Ao AC.plain G=true
 |[],G,h=>by simp[Er]at h;subst h;rfl
 |a::l,G,h=>by
  simp only[Er]at h;split at h
  ·rename_i M I;split at h
   ·rename_i L D;simp at h;subst h;simp only[Ao,Z7p I,aj];exact Qxz D
   grind
  grind
theorem Qwb:∀{l G:List TV},FH aC l=some G->G.length=l.length/\∀(i:Nat) (L:TV),G[i]? =some L->L.plainB=true/\∃a,l[i]? =some a/\a.res aC=some L
 |[],G,h=>by simp_all [FH]
 |a::l,G,h=>by
  simp only[FH]at h;split at h
  ·rename_i L D;split at h
   ·rename_i M I;simp at h;subst h;obtain⟨O,S⟩:=Qwb I;refine⟨by grind,λi b hb=> ?_⟩;cases i with
    |zero=>
     simp at hb;subst hb;refine⟨?_,a,rfl,D⟩;cases a with
     |vD=>grind [TV.res]
     |tup=>grind [TV.res]
     |v g cs=>
      simp only[TV.res]at D;split at D
      ·rename_i q N;simp at D;subst D;exact Qxz N
      grind
    |succ i=>grind
   grind
  grind
end
open Go.RowKit
section
variable {P:Program} {C:Cfg} {ρ:Env} {w:World} {R:Type} {Z:Base} {tm:List TV} {aB:List (Nat×Box)} {aC:List (Nat×Row)} {tmps:Array Value}
theorem Ka {a b:Nat} (h:a≠b):Nat.beq a b=false:=by grind [Nat.eq_of_beq_eq_true]
theorem G5 {a b:Nat} (h:Nat.beq a b=false):a≠b:=by rintro rfl;simp at h
theorem TVR.map {L:Env} {w':World} {g:AC->AC} {v:TV} (N:∀(a:AC) (x:Value),AC.wf aB aC a->CC ρ w a x->CC L w' (g a) x) (G:TV.wf aB aC v) {x:Value} (h:TVR ρ w v x):
    TVR L w' (v.mapC g) x:=by
  have S:∀{l:List AC} {xs:List Value},(∀a∈l,AC.wf aB aC a)->CL (CC ρ w) l xs->CL (CC L w') (l.map g) xs:=by
    intro l;induction l with
    |nil=>intro xs _ h;cases xs<;>first|exact h|exact h.elim
    |cons a l M=>
      intro xs O h;cases xs with
      |nil=>exact h.elim
      |cons y xs=>exact⟨N a y (O a (by simp)) h.1,M (λb hb=>O b (by grind)) h.2⟩
  cases v with
  |vD=>trivial
  |v b cs=>
    cases b
    · obtain⟨a,rfl,T⟩:=h;exact⟨g a,rfl,N a x (G a (by simp)) T⟩
    · obtain⟨I,rfl,D⟩:=h;exact⟨I,rfl,S G D⟩
  |tup ps=>
    obtain⟨I,rfl,D⟩:=h;refine⟨I,rfl,?_⟩;generalize I.toList=l at D;induction ps generalizing l with
    |nil=>cases l<;>first|exact D|exact D.elim
    |cons p ps M=>
      cases l with
      |nil=>exact D.elim
      |cons y l=>
        obtain⟨b,cs⟩:=p;refine⟨?_,M (λq V=>G q (by grind)) l D.2⟩;have X:=D.1;have U:=G (b,cs) (by simp);cases b
        · grind
        grind
theorem CL.mapg {D:Env} {w':World} {g:AC->AC}:∀{l:List AC} {xs:List Value},(∀(a:AC) (x:Value),AC.wf aB aC a->CC ρ w a x->CC D w' (g a) x)->(∀a∈l,AC.wf aB aC a)->CL (CC ρ w) l xs->CL (CC D w') (l.map g) xs
  |[],[],_,_,h=>h
  |a::l,y::xs,G,I,h=>⟨G a y (I a (by simp)) h.1,CL.mapg G (λb hb=>I b (by grind)) h.2⟩
  |[],_::_,_,_,h=>h.elim
  |_::_,[],_,_,h=>h.elim
theorem TV.wf_map {D:List (Nat×Box)} {G:List (Nat×Row)} {g:AC->AC} {v:TV} (M:∀a,AC.wf aB aC a->AC.wf D G (g a)) (N:TV.wf aB aC v):
    TV.wf D G (v.mapC g):=by
  cases v with
  |vD=>trivial
  |v b cs=>
    intro a I;simp only[ba]at I;obtain⟨c,L,rfl⟩:=I;exact M c (N c L)
  |tup ps=>
    intro p O a I;simp only[ba]at O;obtain⟨q,S,rfl⟩:=O;simp only[ba]at I;obtain⟨c,L,rfl⟩:=I;exact M c (N q S c L)
theorem TV.fz_eq (id:Nat) (ks:List Kd) (l:List (List AC)) (v:TV):v.fz id ks l=v.mapC (AC.fz id ks l):=by rfl
theorem RelE.freeze (h:RelE Z tm aB aC ρ tmps w) {id:Nat} {r:Row} (hid:Ac aC id=some r):
    RelE Z (tm.map (TV.fz id r.ks r.l)) (aB.map λp=>(p.1,p.2.fz id r.ks r.l)) (del id aC) {ρ with im:=λb=>ρ.im b\/(ρ.rv id).ownBlock=some b} tmps w:=by
  have a0:∀k,Ac (aB.map λp=>(p.1,p.2.fz id r.ks r.l)) k=(Ac aB k).map (Box.fz id r.ks r.l):=λk=>Ft (Box.fz id r.ks r.l) aB k;have D:∀(k:Nat) (b:Box),Ac (aB.map λp=>(p.1,p.2.fz id r.ks r.l)) k=some b->∃b',Ac aB k=some b'/\b=b'.fz id r.ks r.l:=by
    intro k b G;rw[a0]at G;cases hl:Ac aB k with
    |none=>grind
    |some b'=>grind
  have L:∀(k:Nat) (b:Box),Ac aB k=some b->∃b',Ac (aB.map λp=>(p.1,p.2.fz id r.ks r.l)) k=some b':=λk b G=>⟨b.fz id r.ks r.l,by grind⟩;obtain⟨q1,q2,q0,xs,q3,q4⟩:=h.ro id r hid;have S:CP (λb=>ρ.im b\/(ρ.rv id).ownBlock=some b) w (.vC r.ks r.l) (ρ.rv id):=
    ZN q3 (q4.mono (λ_ h=> .inl h) (λ_ _=>rfl)) (λg hg=> .inr hg)
  have V:∀(a:AC) (x:Value),AC.wf aB aC a->CC ρ w a x->CC {ρ with im:=λb=>ρ.im b\/(ρ.rv id).ownBlock=some b} w (a.fz id r.ks r.l) x:=by
    intro a x _ hx;have T:CC {ρ with im:=λb=>ρ.im b\/(ρ.rv id).ownBlock=some b} w a x:=CC.mono (ρ:=ρ) (ρ':={ρ with im:=λb=>ρ.im b\/(ρ.rv id).ownBlock=some b}) (λ_ h=> .inl h) (λ_ _=>rfl) a x (AC.agree_refl rfl rfl rfl a) hx;cases a with
    |own j w1 n1=>
      simp only[AC.fz];cases hb:Nat.beq j id
      · exact T
      · have:=ag hb;subst this
        obtain⟨c1,_,_⟩:=hx;subst c1;exact S
    |rptr j i1 s1=>
      simp only[AC.fz];cases hb:Nat.beq j id
      · exact T
      · exact hx.one
    |_=>exact T
  have X:∀a,AC.wf aB aC a->AC.wf (aB.map λp=>(p.1,p.2.fz id r.ks r.l)) (del id aC) (a.fz id r.ks r.l):=by
    intro a I;cases a with
    |ptr k o=>obtain⟨b,hb⟩:=I;exact L k b hb
    |bsl k o=>obtain⟨b,hb⟩:=I;exact L k b hb
    |own j w1 n1=>
      simp only[AC.fz];cases hb:Nat.beq j id
      · obtain⟨q,M,N⟩:=I
        exact⟨q,by grind [Kj,G5],N⟩
      · trivial
    |rptr j i1 s1=>
      simp only[AC.fz];cases hb:Nat.beq j id
      · obtain⟨q,M,N⟩:=I
        exact⟨q,by grind [Kj,G5],N⟩
      · trivial
    |vptr=>exact I
    |clo f fs cs=>exact⟨λa T=>AC.wfP_mono L (I.1 a T),λa T=>AC.wfP_mono L (I.2 a T)⟩
    |_=>trivial
  refine⟨by grind [h.tl],?_,?_,?_,?_,?_,?_,?_,?_,?_,h.fr,h.fs,λb hb=> .inl (h.i0 b hb),?_,?_⟩
  · intro i v hi
    simp only[du,bn]at hi;obtain⟨u,Y,rfl⟩:=hi;rw[TV.fz_eq];exact TVR.map V (h.wt u (bz Y)) (h.tv i u Y)
  · intro v hv
    simp only[ba]at hv;obtain⟨u,Y,rfl⟩:=hv;rw[TV.fz_eq];exact TV.wf_map X (h.wt u Y)
  · intro k b G a I
    obtain⟨b',O,rfl⟩:=D k b G;simp only[Box.fz,ba]at I;obtain⟨c,hc,rfl⟩:=I;exact X _ (h.wb k b' O c hc)
  · intro k b G
    obtain⟨b',O,rfl⟩:=D k b G;obtain⟨arr,h1,h2,h3⟩:=h.bx k b' O;exact⟨arr,h1,CL.mapg V (h.wb k b' O) h2,h3⟩
  · intro k k' b b' G a1
    obtain⟨_,M,_⟩:=D k b G;obtain⟨_,N,_⟩:=D k' b' a1;exact h.bi k k' _ _ M N
  · intro j q U
    obtain⟨a4,a2⟩:=L6 U;obtain⟨M,N,p0,ys,p3,p4⟩:=h.ro j q a2;exact⟨M,N,p0,ys,p3,p4.mono (λ_ h=> .inl h) (λ_ _=>rfl)⟩
  · intro j j' q q' g U a3
    exact h.ri j j' q q' g (L6 U).2 (L6 a3).2
  · intro k b j q G U
    obtain⟨_,M,_⟩:=D k b G;exact h.br k _ j q M (L6 U).2
  · rintro b (hb|hb)
    · obtain⟨M,N,p3⟩:=h.ib b hb
      grind [L6]
    · refine⟨(h.rwlt hid hb).2,λk bo G e=> ?_,λj q U e=> ?_⟩
      · obtain⟨_,p,_⟩:=D k bo G
        exact h.br k _ id r p hid (by grind)
      · have hd:=L6 U
        exact hd.1 (h.ri j id q r b hd.2 hid e hb)
  · rintro b (hb|hb)
    · exact h.i1 b hb
    grind
  · intro k b G
    obtain⟨M,bo,N⟩:=h.k0 k b G
    grind
theorem Fe:∀{l:List Nat} {n:Nat},AN l n=true↔n∈l
  |[],n=>by simp[AN]
  |m::l,n=>by
    simp only[AN,av];cases h:Nat.beq m n
    · simp only[aq,Fe (l:=l)]
      grind [G5]
    simp_all
theorem OX {α:Type}:∀{l:List (Nat×α)} {k:Nat} {b:α},Ac l k=some b->(k,b)∈l
  |[],_,_,h=>by grind [Ac]
  |(j,c)::l,k,b,h=>by
    simp only[Ac]at h;cases hb:Nat.beq j k<;>rw[hb]at h
    · simp only[aq]at h;exact ij _ (OX h)
    simp_all
theorem Tg {α:Type} (q:Nat->Bool):∀{l:List (Nat×α)} {k:Nat} {b:α},Ac (l.filter λp=>q p.1) k=some b->Ac l k=some b/\q k=true
  |[],k,b,h=>by grind [Ac]
  |(j,c)::l,k,b,h=>by
    simp only[List.filter_cons]at h;cases D:q j
    · rw[D]at h
      simp only[de,f9]at h;obtain⟨G,I⟩:=Tg q (l:=l) h
      grind [Ac,Ka]
    · rw[D]at h
      simp only[ew,Ac]at h⊢;cases hb:Nat.beq j k<;>rw[hb]at h
      · exact Tg q (l:=l) h
      simp_all
theorem JZ {α:Type} (q:Nat->Bool):∀{l:List (Nat×α)} {k:Nat} {b:α},q k=true->Ac l k=some b->Ac (l.filter λp=>q p.1) k=some b
  |[],k,b,_,h=>by grind
  |(j,c)::l,k,b,D,h=>by
    simp only[List.filter_cons];simp only[Ac]at h;cases hb:Nat.beq j k<;>rw[hb]at h
    · simp only[aq]at h
      split
      · simp only[Ac,hb,aq];exact JZ q D h
      · exact JZ q D h
    simp_all [Ac]
theorem AC.wf_filter {keys ids:List Nat} {a:AC} (D:AC.inK keys ids a=true) (G:AC.wf aB aC a):AC.wf (aB.filter λp=>AN keys p.1) (aC.filter λp=>AN ids p.1||DO p.1) a:=by
  have N:∀l:List AC,Ao (AC.inK.inP keys) l=true->(∀a∈l,AC.wfP aB a)->∀a∈l,AC.wfP (aB.filter λp=>AN keys p.1) a:=by
    intro l O S a G;have L:=Ax.1 O a G;have M:=S a G;cases a<;>first|trivial|(obtain⟨b,hb⟩:=M;exact⟨b,JZ (AN keys) L hb⟩)
  cases a with
  |ptr k o=>obtain⟨b,I⟩:=G;exact⟨b,JZ (AN keys) D I⟩
  |bsl k o=>obtain⟨b,I⟩:=G;exact⟨b,JZ (AN keys) D I⟩
  |own id T n=>obtain⟨q,L,M⟩:=G;exact⟨q,JZ (λk=>AN ids k||DO k) (by grind [AC.inK]) L,M⟩
  |rptr id i s1=>obtain⟨q,L,M⟩:=G;exact⟨q,JZ (λk=>AN ids k||DO k) (by grind [AC.inK]) L,M⟩
  |vptr=>exact G
  |clo f fs cs=>
    simp only[AC.inK,ak]at D;exact⟨N fs D.1 G.1,N cs D.2 G.2⟩
  |_=>trivial
theorem TV.wf_filter {keys ids:List Nat} {v:TV} (D:TV.inK keys ids v=true) (I:TV.wf aB aC v):TV.wf (aB.filter λp=>AN keys p.1) (aC.filter λp=>AN ids p.1||DO p.1) v:=by
  cases v with
  |vD=>trivial
  |v g cs=>exact λa G=>AC.wf_filter (Ax.1 D a G) (I a G)
  |tup ps=>exact λp L a G=>AC.wf_filter (Ax.1 (Ax.1 D p L) a G) (I p L a G)
theorem RelE.filter (h:RelE Z tm aB aC ρ tmps w) {keys ids:List Nat} {I:List TV} {D:Array Value} (N:I.length=D.size)
    (O:∀(i:Nat) (v:TV),I[i]? =some v->TVR ρ w v (D.getD i undef)) (S:∀v∈I,TV.wf aB aC v)
    (T:Ao (TV.inK keys ids) I=true) (U:Ao (λp:Nat×Box=>Ao (AC.inK keys ids) p.2.cells) (aB.filter λp=>AN keys p.1)=true)
    (hk0:∀k b,Z.K0 k=some b->AN keys k=true):
    RelE Z I (aB.filter λp=>AN keys p.1) (aC.filter λp=>AN ids p.1||DO p.1) ρ D w:=by
  have hb:∀(k:Nat) (b:Box),Ac (aB.filter λp=>AN keys p.1) k=some b->Ac aB k=some b:=λk b G=>(Tg (AN keys) G).1;have M:∀(k:Nat) (b:Row),Ac (aC.filter λp=>AN ids p.1||DO p.1) k=some b->Ac aC k=some b:=λk b G=>(Tg (λk=>AN ids k||DO k) G).1;refine⟨N,O,λv hv=>TV.wf_filter (Ax.1 T v hv) (S v hv),λk b G a ha=> ?_,λk b G=>h.bx k b (hb k b G),λk k' b b' G V=>h.bi k k' b b' (hb k b G) (hb k' b' V),
    λid q L=>h.ro id q (M id q L),λid id' q q' g L X=>h.ri id id' q q' g (M id q L) (M id' q' X),λk b id q G L=>h.br k b id q (hb k b G) (M id q L),λb Y=> ?_,h.fr,h.fs,h.i0,h.i1,λk b G=> ?_⟩
  · exact AC.wf_filter (Ax.1 (Ax.1 U (k,b) (OX G)) a ha) (h.wb k b (hb k b G) a ha)
  · obtain⟨q1,q2,q3⟩:=h.ib b Y
    grind
  · obtain⟨q1,bo,q2⟩:=h.k0 k b G
    simp_all [JZ]
theorem RelE.lookB {D:List (Nat×Box)} {G:List (Nat×Row)} (h:RelE Z tm aB aC ρ tmps w) (hb:∀j,Ac aB j=Ac D j) (hr:∀j,Ac aC j=Ac G j):RelE Z tm D G ρ tmps w:=by
  have L:∀a,AC.wf aB aC a->AC.wf D G a:=λa=>AC.wf_mono (λk b I=>⟨b,by grind⟩) (λk r I=>⟨r,by grind,rfl,rfl⟩);refine⟨h.tl,h.tv,λv O=>TV.wf_mono L (h.wt v O),λk b I a S=>L a (h.wb k b (by grind) a S),λk b I=>h.bx k b (by grind),λk k' b b' I T=>h.bi k k' b b' (by grind) (by grind),
    λid q N=>h.ro id q (by grind),λid id' q U g N V=>h.ri id id' q U g (by grind) (by grind),λk b id q I N=>h.br k b id q (by grind) (by grind),λb M=> ?_,h.fr,h.fs,h.i0,h.i1,λk b I=> ?_⟩
  · obtain⟨X,Y,q3⟩:=h.ib b M
    grind
  · obtain⟨X,bo,Y⟩:=h.k0 k b I
    grind
theorem RelE.reBox (h:RelE Z tm aB aC ρ tmps w) {g:Nat->Box->Box} (U:∀k b,(g k b).ty=b.ty)
    (V:∀(k:Nat) (b:Box),Ac aB k=some b->(∀(xs:List Value),CL (CC ρ w) b.cells xs->CL (CC ρ w) (g k b).cells xs)/\∀a∈(g k b).cells,AC.wf aB aC a):
    RelE Z tm (aB.map λp=>(p.1,g p.1 p.2)) aC ρ tmps w:=by
  have L:∀(l:List (Nat×Box)) k,Ac (l.map λp=>(p.1,g p.1 p.2)) k=(Ac l k).map (g k):=by
    intro l;induction l with
    |nil=>intro k;rfl
    |cons p l ih=>grind [Ac,Nat.eq_of_beq_eq_true]
  have D:∀(k:Nat) (b:Box),Ac (aB.map λp=>(p.1,g p.1 p.2)) k=some b->∃b',Ac aB k=some b'/\b=g k b':=by
    intro k b G;rw[L]at G;cases hl:Ac aB k with
    |none=>grind
    |some b'=>grind
  have M:∀(k:Nat) (b:Box),Ac aB k=some b->∃b',Ac (aB.map λp=>(p.1,g p.1 p.2)) k=some b':=λk b G=>⟨g k b,by grind⟩;have N:∀a,AC.wf aB aC a->AC.wf (aB.map λp=>(p.1,g p.1 p.2)) aC a:=λa=>AC.wf_mono M (λk r G=>⟨r,G,rfl,rfl⟩);refine⟨h.tl,h.tv,λv X=>TV.wf_mono N (h.wt v X),?_,?_,?_,h.ro,h.ri,?_,?_,h.fr,h.fs,h.i0,h.i1,?_⟩
  · grind
  · intro k b G
    obtain⟨b',O,rfl⟩:=D k b G;obtain⟨arr,h1,h2,h3⟩:=h.bx k b' O
    grind
  · intro k k' b b' G S
    obtain⟨_,I,_⟩:=D k b G;obtain⟨_,T,_⟩:=D k' b' S;exact h.bi k k' _ _ I T
  · intro k b j q G Y
    obtain⟨_,I,_⟩:=D k b G;exact h.br k _ j q I Y
  · intro b hb
    obtain⟨q1,q2,q3⟩:=h.ib b hb
    grind
  · intro k b G
    obtain⟨I,bo,T⟩:=h.k0 k b G
    grind
theorem KT {w:World}:∀(ks:List Kd) (cs:List AC) (xs:List Value),CL (CC ρ w) cs xs->CL (CC ρ w) (DH ks cs) xs
  |[],cs,xs,h=>by cases cs<;>exact h
  | .sl ks::l,[],xs,h=>h
  | .int k::l,[],xs,h=>h
  | .bool::l,[],xs,h=>h
  | .raw::l,[],xs,h=>h
  |_::l,a::cs,[],h=>h.elim
  | .int _::l,a::cs,x::xs,h=>by simp only[DH];exact⟨h.1,KT l cs xs h.2⟩
  | .bool::l,a::cs,x::xs,h=>by simp only[DH];exact⟨h.1,KT l cs xs h.2⟩
  | .raw::l,a::cs,x::xs,h=>by simp only[DH];exact⟨h.1,KT l cs xs h.2⟩
  | .sl ks::l,a::cs,x::xs,h=>by
    cases a<;>simp only[DH]<;>first
      |exact⟨h.1,KT l cs xs h.2⟩
      | (refine ⟨?_, KT l cs xs h.2⟩
         have D:=h.1
         grind [CC,CP])
theorem NA:∀(ks:List Kd) (cs:List AC),(∀a∈cs,AC.wf aB aC a)->∀a∈DH ks cs,AC.wf aB aC a
  |[],cs,h=>by cases cs<;>exact h
  | .sl ks::l,[],h=>h
  | .int k::l,[],h=>h
  | .bool::l,[],h=>h
  | .raw::l,[],h=>h
  | .int _::l,a::cs,h=>by
    simp only[DH,av,ik]at h⊢;exact⟨h.1,NA l cs h.2⟩
  | .bool::l,a::cs,h=>by
    simp only[DH,av,ik]at h⊢;exact⟨h.1,NA l cs h.2⟩
  | .raw::l,a::cs,h=>by
    simp only[DH,av,ik]at h⊢;exact⟨h.1,NA l cs h.2⟩
  | .sl ks::l,a::cs,h=>by
    simp only[av,ik]at h;have D:=NA l cs h.2;cases a<;>simp only[DH,av,ik]<;>first
      |exact⟨h.1,D⟩
      |exact⟨trivial,D⟩
theorem Z52 {α:Type} {l:List α} {n:Nat} {v x:α} (h:x∈setL l n v):x∈l\/x=v:=by grind [IC]
theorem CL.setL {D:AC->Value->Prop}:∀{l:List AC} {xs:List Value} (n:Nat) {a:AC},CL D l xs->(∀x,xs[n]? =some x->D a x)->CL D (setL l n a) xs
  |[],[],_,_,h,_=>h
  |b::l,x::xs,0,a,h,G=>⟨G x rfl,h.2⟩
  |b::l,x::xs,n+1,a,h,G=>⟨h.1,CL.setL n h.2 λy I=>G y (by grind)⟩
  |[],_::_,_,_,h,_=>h.elim
  |_::_,[],_,_,h,_=>h.elim
theorem RelE.promB (h:RelE Z tm aB aC ρ tmps w) {k o:Nat} {b:Box} (S:Ac aB k=some b) (ho:nth .vD b.cells o= .nilSl) {id:Nat} (hid:Ac aC id=none) {e:TypeId} {ks:List Kd} (T:0<ks.length):
    RelE Z tm (upd aB k ⟨b.ty,setL b.cells o (.own id ks.length 0)⟩) (ins aC id ⟨e,ks,[]⟩) {ρ with rv:=upN ρ.rv id (.slice none 0 0),wd:=upN ρ.wd id ks.length} tmps w:=by
  have D:=h.addRow (d:=id) hid (r:=⟨e,ks,[]⟩) (v':= .slice none 0 0) (xs:=[]) (w':=w) (Below.refl _ _) T (X3 w e ks.length) ⟨by simp,by simp,λi c hi=>by grind⟩ (λg hg=>by grind [Value.ownBlock]);have L:=Ep aC id (⟨e,ks,[]⟩:Row) hid;generalize hρ:({ρ with rv:=upN ρ.rv id (.slice none 0 0),wd:=upN ρ.wd id ks.length}:Env)=ρ2 at D;have e1:ρ2.rv id= .slice none 0 0:=by rw[<-hρ];exact BL _ _ _
  have e2:ρ2.wd id=ks.length:=by rw[<-hρ];exact BL _ _ _
  have U := D.reBox (g := λj c => bif Nat.beq j k then ⟨c.ty, setL c.cells o (.own id ks.length 0)⟩ else c) (λj c => by grind) (by
    intro j c O;cases hb:Nat.beq j k
    · exact⟨λxs h=>h,D.wb j c O⟩
    · have:=ag hb;subst this
      rw[S]at O;simp at O;subst O;simp only[aj];refine⟨λxs hx=>hx.setL o λx V=> ?_,λa X=> ?_⟩
      · have I:o<b.cells.length:=by
          rcases jj o b.cells.length with I|a1
          · omega
          · grind [B5]
        have hg:b.cells[o]? =some .nilSl:=by
          rw[B5,List.getD,ai I]at ho;rw[ai I];simpa using ho
        obtain⟨y,Y,M⟩:=hx.get hg;rw[V]at Y;simp at Y;subst Y;simp only[CC,CP]at M;subst M;exact⟨e1.symm,e2, .inl ⟨rfl,rfl⟩⟩
      · rcases Z52 X with X|rfl
        · exact D.wb j b S a X
        · exact⟨_,L,rfl,rfl⟩)
  have N:∀(l:List (Nat×Box)) (b':Box),Ac l k=some b'->∀j,Ac (l.map λp=>(p.1,bif Nat.beq p.1 k then(⟨p.2.ty,setL p.2.cells o (.own id ks.length 0)⟩:Box)else p.2)) j=Ac (upd l k ⟨b'.ty,setL b'.cells o (.own id ks.length 0)⟩) j:=by
    intro l;induction l with
    |nil=>grind [Ac]
    |cons p l ih=>
      intro b' G j;obtain⟨q,c⟩:=p;simp only[Ac]at G;cases hq:Nat.beq q k
      · simp_all [upd,Ac]
      · rw[hq]at G;simp at G;subst G
        have:=ag hq;subst this;simp only[be,upd,hq,aj,Ac];cases a0:Nat.beq q j
        · simp only[aq]
          have a2:=G5 a0;have:∀m:List (Nat×Box),Ac (m.map λp=>(p.1,bif Nat.beq p.1 q then(⟨p.2.ty,setL p.2.cells o (.own id ks.length 0)⟩:Box)else p.2)) j=Ac m j:=by
            intro m;induction m with
            |nil=>rfl
            |cons p m a3=>grind [Ac,Ka]
          grind
        · rfl
  exact U.lookB (N aB b S) λ_=>rfl
end
end Go.Bm
