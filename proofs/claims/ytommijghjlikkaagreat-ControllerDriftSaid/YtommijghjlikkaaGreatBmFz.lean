/- the abstract machine -/
import Derived.WalkKit
import Derived.ProofKit
import Derived.Laws.StructEq
import Derived.Maps.AppendAt
set_option linter.unusedVariables false
set_option linter.unusedSimpArgs false
namespace Go.Bm
abbrev aa:=@if_pos
abbrev ab:=@if_neg
abbrev ac:=@Nat.eq_of_beq_eq_true
abbrev af:=@Option.bind_some
abbrev ag:=@List.length_map
abbrev ah:=@cond_true
abbrev ai:=@List.getElem?_eq_getElem
abbrev aj:=@Bool.and_eq_true
abbrev ak:=@Int.toNat_natCast
abbrev al:=@decide_eq_true
abbrev am:=@decide_eq_false
abbrev an:=@cond_false
abbrev ao:=@List.length_append
abbrev ap:=@Option.some.injEq
abbrev aq:=@List.mem_cons
abbrev av:=@List.nil_append
abbrev ay:=@List.cons_append
abbrev az:=@Nat.le_of_ble_eq_true
abbrev ba:=@List.mem_map
abbrev bc:=@Int.tdiv_eq_ediv_of_nonneg
abbrev be:=@Nat.mul_le_mul_right
abbrev bf:=@List.map_cons
abbrev bh:=@List.length_cons
abbrev bj:=@List.mem_append
abbrev bm:=@Option.map_eq_some_iff
abbrev bn:=@List.mem_of_getElem?
abbrev bp:=@Int.eq_ofNat_of_zero_le
abbrev bq:=@List.getElem_mem
abbrev bt:=@List.map_append
abbrev bv:=@Nat.le_trans
abbrev bz:=@decide_eq_true_eq
abbrev cd:=@List.length_nil
abbrev cg:=@Result.andThen_ok
abbrev cm:=@Prod.mk.injEq
abbrev co:=@Nat.le_refl
abbrev cq:=@Option.bind_eq_some_iff
abbrev cv:=@List.getElem?_eq_none
abbrev da:=@List.length_drop
abbrev db:=@Array.getElem?_eq_some_iff
abbrev dc:=@Int.add_zero
abbrev de:=@List.mem_of_mem_drop
abbrev df:=@Int.le_refl
abbrev dg:=@List.mem_singleton
abbrev dh:=@List.map_nil
abbrev dk:=@List.mem_of_mem_take
abbrev dl:=@Nat.mul_le_mul
abbrev dm:=@Int.mul_le_mul
abbrev dq:=@Nat.lt_of_lt_of_le
inductive Kd where
 |int (k:IntKind)
 |bool
 |sl (ks:List Kd)
 |raw
inductive AC where
 |dead
 |int (k:IntKind) (n:Int)
 |bool (b:Bool)
 |raw (v:Value)
 |nilSl
 |ptr (key off:Nat)
 |own (id w n:Nat)
 |view (ks:List Kd) (l:List (List AC))
 |rptr (id idx sub:Nat)
 |vptr (cells:List AC) (sub:Nat)
 |clo (f:FuncId) (first caps:List AC)
 |bsl (key n:Nat)
inductive TV where
 |dead
 |v (g:Bool) (cs:List AC)
 |tup (ps:List (Bool×List AC))
abbrev TV.c (a:AC):TV:= .v false [a]
abbrev TV.agg (cs:List AC):TV:= .v true cs
def Af:AC->Int
 | .int _ n=>n
 |_=>0
def Dl:AC->Bool
 | .bool b=>b
 |_=>false
def BS:AC->List (List AC)
 | .view _ l=>l
 |_=>[]
structure Box where
 ty:TypeId
 cells:List AC
variable {R:Type}
def nth {α:Type} (d:α):List α->Nat->α
 |[],_=>d
 |x::_,0=>x
 |_::xs,n+1=>nth d xs n
def LU:Kd->AC->AC
 | .int k,a=> .int k (Af a)
 | .bool,a=> .bool (Dl a)
 | .sl ks,a=> .view ks (BS a)
 | .raw, .raw v=> .raw v
 | .raw,_=> .dead
def EL:List Kd->List AC->Nat->List AC
 |[],_,_=>[]
 |k::ks,cs,j=>LU k (nth .dead cs j)::EL ks cs (j+1)
def AN (ks:List Kd) (cs:List AC):List AC:=EL ks cs 0
structure Row where
 ty:TypeId
 ks:List Kd
 l:List (List AC)
abbrev Row.w (r:Row):Nat:=r.ks.length
abbrev Row.n (r:Row):Nat:=r.l.length
abbrev Row.f (r:Row) (i:Nat):List AC:=AN r.ks (nth [] r.l i)
structure Mem where
 aB:List (Nat×Box)
 aC:List (Nat×Row)
structure St where
 tmps:List TV
 aB:List (Nat×Box)
 aC:List (Nat×Row)
def setL {α:Type}:List α->Nat->α->List α
 |[],_,_=>[]
 |_::xs,0,v=>v::xs
 |x::xs,n+1,v=>x::setL xs n v
def AR {α:Type}:List α->(List α->Option R)->Option R
 |[],K=>K []
 |x::xs,K=>AR xs λys=>K (x::ys)
def Ac {α:Type}:List (Nat×α)->Nat->Option α
 |[],_=>none
 |(k,b)::l,key=>bif Nat.beq k key then some b else Ac l key
def upd {α:Type}:List (Nat×α)->Nat->α->List (Nat×α)
 |[],_,_=>[]
 |(k,b)::l,key,x=>bif Nat.beq k key then(k,x)::l else(k,b)::upd l key x
def ins {α:Type}:List (Nat×α)->Nat->α->List (Nat×α)
 |[],key,x=>[(key,x)]
 |(k,b)::l,key,x=>bif Nat.blt key k then(key,x)::(k,b)::l else(k,b)::ins l key x
def cut {α:Type} (l:List α) (off m:Nat):List α:=(l.drop off).take m
def splice {α:Type}:List α->Nat->List α->List α
 |l,_,[]=>l
 |[],_,_::_=>[]
 |_::xs,0,v::vs=>v::splice xs 0 vs
 |x::xs,n+1,v::vs=>x::splice xs n (v::vs)
def Np:Value->AC
 | .int k n=> .int k n
 | .bool b=> .bool b
 | .slice none 0 0=> .nilSl
 | .string s=> .raw (.string s)
 | .pointer none=> .raw (.pointer none)
 | .nilFunc=> .raw .nilFunc
 | .nilIface=> .raw .nilIface
 |_=> .dead
def JE:List Value->Option (List AC)
 |[]=>some []
 | v :: l => bif v.oneCell' then (match JE l with
  |some cs=>some (Np v::cs)
  |none=>none)else none
def ofValue:Value->TV
 | .agg cs=>match JE cs.toList with
  |some l=> .agg l
  |none=> .dead
 | .tuple _=> .dead
 |v=> .c (Np v)
def TV.cells:TV->Option (List AC)
 | .v _ cs=>some cs
 |_=>none
def TV.int? :TV->Option Int
 | .v false [.int _ n]=>some n
 |_=>none
def kEq:IntKind->IntKind->Bool
 | .i8, .i8| .i16, .i16| .i32, .i32| .i64, .i64| .u8, .u8| .u16, .u16| .u32, .u32| .u64, .u64=>true
 |_,_=>false
def AC.plain:AC->Bool
 | .int _ _| .bool _| .raw _| .nilSl| .view _ _=>true
 |_=>false
def AC.calm:AC->Bool
 | .int _ _| .bool _| .raw _| .nilSl| .view _ _| .dead=>true
 |_=>false
def Ak {α:Type} (p:α->Bool):List α->Bool
 |[]=>true
 |x::l=>bif p x then Ak p l else false
mutual
def ES:Kd->Kd->Bool
 | .int k, .int k'=>kEq k k'
 | .bool, .bool=>true
 | .sl ks, .sl ks'=>C6 ks ks'
 | .raw, .raw=>true
 |_,_=>false
def C6:List Kd->List Kd->Bool
 |[],[]=>true
 |k::ks,k'::ks'=>bif ES k k' then C6 ks ks' else false
 |_,_=>false
end
def Yi:Kd->AC->Option AC
 | .int k, .int k' n=>bif kEq k k' then some (.int k n)else none
 | .bool, .bool b=>some (.bool b)
 | .sl ks, .nilSl=>some (.view ks [])
 | .sl ks, .view ks' l=>bif C6 ks ks' then some (.view ks l)else none
 | .raw, .raw v=>some (.raw v)
 |_,_=>none
def Iz:List Kd->List AC->Option (List AC)
 |[],[]=>some []
 |k::ks,a::cs=>match Yi k a with
  |some a'=>match Iz ks cs with
   |some cs'=>some (a'::cs')
   |none=>none
  |none=>none
 |_,_=>none
def H_ (ks:List Kd):Nat->List AC->Option (List (List AC))
 |0,[]=>some []
 |0,_=>none
 |n+1,cs=>match Iz ks (cs.take ks.length)with
  |some c=>match H_ ks n (cs.drop ks.length)with
   |some l=>some (c::l)
   |none=>none
  |none=>none
inductive Prim where
 |val (v:TV)
 |load (agg:Bool) (sz key off:Nat)
 |store (key off:Nat) (cells:List AC)
 |new (ty:TypeId) (cells:List AC)
 |newS (ty:TypeId) (n:Nat) (cells:List AC)
 |cutR (id a:Nat)
 |rload (agg:Bool) (sz id idx sub:Nat)
 |rstore (id idx sub:Nat) (cells:List AC)
 |append (e:TypeId) (ks:List Kd) (bytes:Nat) (s x:AC)
 |newRow (e:TypeId) (ks:List Kd) (l:List (List AC))
 |newView (e:TypeId) (ks:List Kd) (l:List (List AC))
 |make (e:TypeId) (ks:List Kd) (bytes:Nat) (n:Int) (z:List AC)
 |call (f:FuncId) (args:List TV)
 |callM (f:FuncId) (args:List TV)
 |callD (f:FuncId) (args:List TV)
 |callF (f:FuncId) (args:List TV)
 |appD (e:TypeId) (ks:List Kd) (bytes:Nat) (s x:AC)
def mn (x y:Int):Int:=if y<x then y else x
def mx (x y:Int):Int:=if y>x then y else x
def GP (op:BinOp) (k:IntKind) (a b:Int) (K:AC->Option R):Option R:=
 match op with
 | .add=>K (.int k (k.wrap (a+b)))
 | .sub=>K (.int k (k.wrap (a-b)))
 | .mul=>K (.int k (k.wrap (a*b)))
 | .quo=>cond (decide (b=0)) none (K (.int k (k.wrap (a.tdiv b))))
 | .rem=>cond (decide (b=0)) none (K (.int k (a.tmod b)))
 | .and=>K (.int k (k.wrap ((BitVec.ofInt k.bits a&&&BitVec.ofInt k.bits b).toNat:Int)))
 | .or=>K (.int k (k.wrap ((BitVec.ofInt k.bits a|||BitVec.ofInt k.bits b).toNat:Int)))
 | .xor=>K (.int k (k.wrap ((BitVec.ofInt k.bits a^^^BitVec.ofInt k.bits b).toNat:Int)))
 | .andNot=>K (.int k (k.wrap ((BitVec.ofInt k.bits a&&& ~~~BitVec.ofInt k.bits b).toNat:Int)))
 | .eql=>K (.bool (a==b))
 | .neq=>K (.bool (a !=b))
 | .lss=>K (.bool (decide (a<b)))
 | .leq=>K (.bool (decide (a<=b)))
 | .gtr=>K (.bool (decide (a>b)))
 | .geq=>K (.bool (decide (a>=b)))
 | .shl=>cond (decide (b<0)) none (K (.int k (k.wrap (a*2^(min b.toNat k.bits)))))
 | .shr=>cond (decide (b<0)) none (K (.int k (a.fdiv (2^(min b.toNat k.bits)))))
def O6:BinOp->Bool
 | .shl| .shr=>true
 |_=>false
inductive CS where
 |any
 |int (k:IntKind)
 |bool
 |sl (ks:List Kd)
 |rawc
 |nil
 |ptr (key off:Nat)
 |own (id w:Nat)
 |clo (f:FuncId) (fs cs:List (Nat×Nat))
 |bsl (key n:Nat)
inductive TS where
 |dead
 |v (g:Bool) (cs:List CS)
 |tup (ps:List (Bool×List CS))
structure Sk where
 tmps:List TS
 aB:List (Nat×TypeId×List CS):=[]
 aC:List (Nat×TypeId×List Kd):=[]
inductive Ex where
 |normal
 |exit (id:Nat)
 |ret
def Spec:=∀R:Type,List TV->Mem->(TV->Mem->Option R)->Option R
def J8:=∀R:Type,List AC->(Ex->St->Option R)->Option R
def Il:List (Nat×Spec)->FuncId->Option Spec
 |[],_=>none
 |(k,b)::l,f=>bif Nat.beq k f then some b else Il l f
structure Cfg where
 spec:FuncId->Option Spec
 eqOk:List TypeId:=[]
 tprom:List (Nat×TypeId):=[]
 prom:Nat->List (Nat×TypeId):=λ_=>[]
 loops:Nat->Option (Sk×J8):=λ_=>none
 blocks:Nat->Option (Sk×J8):=λ_=>none
 conds:Nat->Option (Sk×J8):=λ_=>none
 pure:FuncId->Bool:=λ_=>true
 ro:FuncId->Bool:=λ_=>false
 lend:FuncId->Bool:=λ_=>false
 ownOff:TypeId->List (Nat×TypeId):=λ_=>[]
 rowAs:Nat->Nat:=λd=>d
 ownBut:List Nat:=[]
 rowDst:List Nat:=[]
 cuts:List Nat:=[]
 fstore:Bool:=false
 ownRes:Bool:=false
 unroll:List Nat:=[]
section prog
variable (P:Program)
def Cx (t:TypeId):Option Bool:=
 match P.underlying t with
 |some (.struct _)=>some true
 |some (.array _ _)=>some true
 |some _=>some false
 |none=>none
def szT (t:TypeId):Option Nat:=
 match P.info? t with
 |some i=>some i.size
 |none=>none
def JB (t:TypeId):Option (List AC):=
 match P.info? t with
 |some i=>match i.zero with
  |some v=>JE v.cells.toList
  |none=>none
 |none=>none
def R3 (t:TypeId) (i:Nat):Option Field:=
 match P.underlying t with
 |some (.struct fs)=>fs.toList[i]?
 |_=>none
def DE (agg:Bool) (sz:Nat) (cells:List AC) (off:Nat):Option TV:=
 bif agg then(bif Nat.ble (off+sz) cells.length then some (.agg (cut cells off sz))else none)
 else match cells[off]? with
  |some a=>some (.c a)
  |none=>none
def IF (t:TypeId) (n:Nat):Bool:=
 match Cx P t with
 |some true=>true
 |some false=>Nat.beq n 1
 |none=>false
def Jg {β:Type} (g:β->Option Bool):List β->Option Bool
 |[]=>some true
 |x::l=>match g x with
  |some b=>match Jg g l with
   |some b'=>some (b&&b')
   |none=>none
  |none=>none
def eqC (ok:List TypeId):Nat->TypeId->List AC->List AC->Option Bool
 |0,_,_,_=>none
 |d+1,t,xs,ys=>
  match P.underlying t with
  |some .bool=>match xs,ys with
   |[.bool a],[.bool b]=>some (a==b)
   |_,_=>none
  |some (.int _)=>match xs,ys with
   |[.int k a],[.int k' b]=>bif kEq k k' then some (a==b)else none
   |_,_=>none
  | some (.struct fs) => bif ok.elem t then Jg (λf : Field => bif f.name == "_" then none else match szT P f.type with
    |some n=>bif(Nat.ble (f.offset+n) xs.length&&Nat.ble (f.offset+n) ys.length&&IF P f.type n)then eqC ok d f.type (cut xs f.offset n) (cut ys f.offset n)else none
    |none=>none) fs.toList else none
  |some (.array n e)=>match szT P e with
   |some m=>bif(Nat.ble (n*m) xs.length&&Nat.ble (n*m) ys.length&&IF P e m)then Jg (λi=>eqC ok d e (cut xs (i*m) m) (cut ys (i*m) m)) (List.range n)else none
   |none=>none
  |_=>none
def GC (i:Int):(todo k:Nat)->(Nat->Option R)->Option R
 |0,_,_=>none
 |n+1,k,K=>cond (decide (i=(k:Int))) (K k) (GC i n (k+1) K)
def NZ (t:TypeId) (cs:List AC) (off:Nat):Option TV:=
 match Cx P t,szT P t with
 |some a,some sz=>DE a sz cs off
 |_,_=>none
def ID (place:Nat->Option (Nat×Nat)):List AC->List (Nat×TV)->Option (List AC)
 |cells,[]=>some cells
 |cells,(i,v)::rest=>
  match place i,v.cells with
  |some (off,size),some cs=>bif(Nat.beq cs.length size&&Nat.ble (off+size) cells.length)then ID place (splice cells off cs) rest else none
  |_,_=>none
def Qxu (g:TypeId->Option (List Kd)):List Field->Nat->Option (List Kd)
 |[],_=>some []
 |f::fs,o=>match g f.type with
  | some ks => bif Nat.beq f.offset o then (match Qxu g fs (o + ks.length) with
   |some l=>some (ks++l)
   |none=>none)else none
  |none=>none
def RB (ks:List Kd):Nat->List Kd
 |0=>[]
 |n+1=>ks++RB ks n
def Gf:Nat->TypeId->Option (List Kd)
 |0,_=>none
 |n+1,t=>match P.underlying t with
  |some .bool=>some [.bool]
  |some (.int k)=>some [.int k]
  |some (.slice e)=>match Gf n e with
   |some ks=>some [.sl ks]
   |none=>none
  |some (.struct fs)=>Qxu (Gf n) fs.toList 0
  |some (.array m e)=>match Gf n e with
   |some ks=>some (RB ks m)
   |none=>none
  |some _=>some [.raw]
  |none=>none
def LO (zero:List AC):Nat->List AC
 |0=>[]
 |n+1=>zero++LO zero n
def Gm (g:Int->Int->Int) (k:IntKind) (a:Int):List TV->(Prim->Option R)->Option R
 |[],K=>K (.val (.c (.int k a)))
 |t::rest,K=>match t with
  | .v false [.int k' b]=>bif kEq k k' then Gm g k (g a b) rest K else none
  |_=>none
def LA (b:Builtin) (argTypes:List TypeId) (args:List TV) (K:Prim->Option R):Option R:=
 match b,args with
 | .len,[.v false [.view _ l]]=>match argTypes with
  |t::_=>match P.underlying t with
   |some (.slice _)=>K (.val (.c (.int .i64 (l.length:Int))))
   |_=>none
  |[]=>none
 | .len,[.v false [.own _ _ n]]=>match argTypes with
  |t::_=>match P.underlying t with
   |some (.slice _)=>K (.val (.c (.int .i64 (n:Int))))
   |_=>none
  |[]=>none
 | .len,[.v false [.bsl _ n]]=>match argTypes with
  |t::_=>match P.underlying t with
   |some (.slice _)=>K (.val (.c (.int .i64 (n:Int))))
   |_=>none
  |[]=>none
 | .len,[.v false [.nilSl]]=>match argTypes with
  |t::_=>match P.underlying t with
   |some (.slice _)=>K (.val (.c (.int .i64 0)))
   |_=>none
  |[]=>none
 | .len,[.v true _]=>match argTypes with
  |t::_=>match P.underlying t with
   |some (.array n _)=>K (.val (.c (.int .i64 (n:Int))))
   |_=>none
  |[]=>none
 | .min, .v false [.int k a]::rest=>Gm mn k a rest K
 | .max, .v false [.int k a]::rest=>Gm mx k a rest K
 | .append,[.c s, .c x]=>match argTypes with
  |[t,u]=>match P.underlying t,P.underlying u with
   |some (.slice e),some (.slice _)=>match P.info? e,Gf P 8 e with
    |some i,some ks=>match i.zero with
     |some z=>bif(Nat.beq t u&&Nat.beq z.cells.size i.size&&Nat.beq ks.length i.size)then K (.append e ks i.bytes s x)else none
     |none=>none
    |_,_=>none
   |_,_=>none
  |_=>none
 |_,_=>none
def J7 (ev:Operand->TV):Option Operand->Option (Option Int)
 |none=>some none
 |some x=>match(ev x).int? with
  |some n=>some (some n)
  |none=>none
def CQ (ev:Operand->TV):List Operand->List TV
 |[]=>[]
 |x::l=>ev x::CQ ev l
def Gn (ev:Operand->TV):List (Nat×Operand)->List (Nat×TV)
 |[]=>[]
 |x::l=>(x.1,ev x.2)::Gn ev l
def Mb (f:Field):Bool:=
 match szT P f.type with
 |some _=>true
 |none=>false
def Qm0 (fs:List Field) (i:Nat):Option (Nat×Nat):=
 match fs[i]? with
 |some f=>match szT P f.type with
  |some n=>some (f.offset,n)
  |none=>none
 |none=>none
variable (C:Cfg)
def SO (dst:Option Tmp) (n:Nat):Bool:=match dst with
 |some d=>C.rowDst.elem d||Nat.beq n 0
 |none=>false
def AC.isClo:AC->Bool
 | .clo _ _ _=>true
 |_=>false
def AC.clOk:AC->Bool
 | .int _ _| .bool _| .raw _| .nilSl| .view _ _| .ptr _ _=>true
 |_=>false
def JK:List TV->Option (List AC)
 |[]=>some []
 | .v false [a] :: l => bif a.clOk then (match JK l with
  |some r=>some (a::r)
  |none=>none)else none
 |_=>none
def opK (ev:Operand->TV) (dst:Option Tmp) (o:Op) (K:Prim->Option R):Option R:=
 match o with
 | .move x=>K (.val (ev x))
 | .assign x=>K (.val (ev x))
 | .pick c a b=>match ev c with
  | .v false [.bool g]=>cond g (K (.val (ev a))) (K (.val (ev b)))
  |_=>none
 | .alloc t=>match JB P t with
  |some cs=>K (.new t cs)
  |none=>none
 | .box t x=>match(ev x).cells with
  |some cs=>K (.new t cs)
  |none=>none
 | .build t parts=>match JB P t,P.underlying t with
  |some z,some (.struct fs)=>bif Ak (Mb P) fs.toList then match ID (Qm0 P fs.toList) z (Gn ev parts.toList)with
   |some cs=>K (.val (.agg cs))
   |none=>none else none
  |some z,some (.array _ e)=>match szT P e with
   |some n=>match ID (λi=>some (i*n,n)) z (Gn ev parts.toList)with
    |some cs=>K (.val (.agg cs))
    |none=>none
   |none=>none
  |_,_=>none
 | .buildSlice t n parts=>match P.underlying t with
  |some (.slice e)=>match szT P e,JB P e,Gf P 8 e with
   |some w,some z,some ks=>bif(Nat.beq z.length w&&Nat.beq ks.length w&&Nat.ble 1 w&&Nat.ble (n*w) 65536)then match ID (λi=>some (i*w,w)) (LO z n) (Gn ev parts.toList)with
    |some cs=>match H_ ks n cs with
     |some l=>cond (SO C dst n) (K (.newRow e ks l)) (K (.newView e ks l))
     |none=>bif Ak AC.isClo cs&&Nat.beq w 1 then K (.newS e n cs)else none
    |none=>none else none
   |_,_,_=>none
  |_=>none
 | .makeSlice t len cap=>match P.underlying t,(ev len).int?,(ev cap).int? with
  |some (.slice e),some n,some c=>match P.info? e,JB P e,Gf P 8 e with
   |some i,some z,some ks=>match Iz ks z with
    |some z'=>bif(Nat.beq ks.length i.size&&Nat.ble 1 i.size&&Nat.ble 1 i.bytes)then cond (decide (n=c)) (K (.make e ks i.bytes n z')) none else none
    |none=>none
   |_,_,_=>none
  |_,_,_=>none
 | .makeFunc fn first captured=>match fn with
  | .func f=>match JK (CQ ev first.toList),JK (CQ ev captured.toList)with
   |some fs,some cs=>K (.val (.c (.clo f fs cs)))
   |_,_=>none
  |_=>none
 | .load t a=>match Cx P t,szT P t with
  |some g,some sz=>match ev a with
   | .v false [.ptr key off]=>K (.load g sz key off)
   | .v false [.vptr cells sub]=>match DE g sz cells sub with
    |some v=>K (.val v)
    |none=>none
   | .v false [.rptr id idx sub]=>K (.rload g sz id idx sub)
   |_=>none
  |_,_=>none
 | .store t a x=>match szT P t,(ev x).cells with
  |some sz,some cs=>bif Nat.beq cs.length sz then match ev a with
    | .v false [.ptr key off]=>K (.store key off cs)
    | .v false [.rptr id idx sub]=>K (.rstore id idx sub cs)
    |_=>none else none
  |_,_=>none
 | .nilCheck x=>match ev x with
  | .v false [.ptr key off]=>K (.val (.c (.ptr key off)))
  | .v false [.rptr id idx sub]=>K (.val (.c (.rptr id idx sub)))
  | .v false [.vptr cs sub]=>K (.val (.c (.vptr cs sub)))
  |_=>none
 | .binOp op t x y _=>match ev x,ev y with
  | .v false [.int k a], .v false [.int k' b]=>bif kEq k k'||O6 op then GP op k a b λv=>K (.val (.c v))else none
  | .v false [.bool a], .v false [.bool b]=>match P.underlying t,op with
   |some .bool, .eql=>K (.val (.c (.bool (a==b))))
   |some .bool, .neq=>K (.val (.c (.bool (!(a==b)))))
   |_,_=>none
  | .v false [.ptr _ _], .v false [.raw (.pointer none)]=>match P.underlying t,op with
   |some (.pointer _), .eql=>K (.val (.c (.bool false)))
   |some (.pointer _), .neq=>K (.val (.c (.bool true)))
   |_,_=>none
  | .v true xs, .v true ys=>bif P.eqGuardType P.depth t then none else match Cx P t,eqC P C.eqOk 20 t xs ys,op with
   |some true,some r, .eql=>K (.val (.c (.bool r)))
   |some true,some r, .neq=>K (.val (.c (.bool (!r))))
   |_,_,_=>none
  |_,_=>none
 | .unOp op _ x=>match op,ev x with
  | .neg, .v false [.int k n]=>K (.val (.c (.int k (k.wrap (0-n)))))
  | .not, .v false [.bool b]=>K (.val (.c (.bool (!b))))
  |_,_=>none
 | .convert src dst x=>match P.underlying src,P.underlying dst,ev x with
  |some _,some (.int k), .v false [.int _ n]=>K (.val (.c (.int k (k.wrap n))))
  |_,_,_=>none
 | .fieldAddr t x i=>match R3 P t i with
  |some f=>match szT P f.type with
   |some (_+1)=>match ev x with
    | .v false [.ptr key off]=>K (.val (.c (.ptr key (off+f.offset))))
    | .v false [.rptr id idx sub]=>K (.val (.c (.rptr id idx (sub+f.offset))))
    | .v false [.vptr cs sub]=>K (.val (.c (.vptr cs (sub+f.offset))))
    |_=>none
   |_=>none
  |none=>none
 | .field t x i=>match R3 P t i,ev x with
  |some f, .v true cs=>match NZ P f.type cs f.offset with
   |some v=>K (.val v)
   |none=>none
  |_,_=>none
 | .indexAddr t x ix=>match(ev ix).int?,P.underlying t with
  |some i,some (.array n e)=>match szT P e,ev x with
   |some m, .v false [.ptr key off]=>GC i n 0 λj=>K (.val (.c (.ptr key (off+j*m))))
   |some m, .v false [.rptr id idx sub]=>GC i n 0 λj=>K (.val (.c (.rptr id idx (sub+j*m))))
   |some m, .v false [.vptr cs sub]=>GC i n 0 λj=>K (.val (.c (.vptr cs (sub+j*m))))
   |_,_=>none
  |some i,some (.slice e)=>match szT P e,ev x with
   |some m, .v false [.view ks l]=>bif Nat.beq m ks.length then cond (decide (0<=i)&&decide (i<(l.length:Int))) (K (.val (.c (.vptr (AN ks (nth [] l i.toNat)) 0)))) none else none
   |some m, .v false [.own id w n]=>bif Nat.beq m w then cond (decide (0<=i)&&decide (i<(n:Int))) (K (.val (.c (.rptr id i.toNat 0)))) none else none
   |some m, .v false [.bsl key n]=>bif Nat.beq m 1 then GC i n 0 λj=>K (.val (.c (.ptr key j)))else none
   |_,_=>none
  |_,_=>none
 | .index t x ix=>match(ev ix).int?,P.underlying t,ev x with
  |some i,some (.array n e), .v true cs=>match szT P e with
   |some m=>GC i n 0 λj=>match NZ P e cs (j*m)with
    |some v=>K (.val v)
    |none=>none
   |none=>none
  |_,_,_=>none
 | .slice t x lo hi mx=>match mx,J7 ev lo,J7 ev hi,P.underlying t with
  |none,some lo,some hi,some (.slice e)=>match szT P e,ev x with
   |some m, .v false [.view ks l]=>bif Nat.beq m ks.length then
    match lo,hi with
    |none,none=>K (.val (.c (.view ks l)))
    |some a,none=>cond (decide (0<=a)&&decide (a<=(l.length:Int))) (K (.val (.c (.view ks (l.drop a.toNat))))) none
    |none,some b=>cond (decide (0<=b)&&decide (b<=(l.length:Int))) (K (.val (.c (.view ks (l.take b.toNat))))) none
    |some a,some b=>cond (decide (0<=a)&&decide (a<=b)&&decide (b<=(l.length:Int))) (K (.val (.c (.view ks ((l.take b.toNat).drop a.toNat))))) none
    else none
   |some m, .v false [.own id w n]=>match lo,hi with
    |some a,none=>bif Nat.beq m w then cond (decide (0<=a)&&decide (a<=(n:Int))) (K (.cutR id a.toNat)) none else none
    |_,_=>none
   |some _, .v false [.nilSl]=>match lo,hi with
    |none,none=>K (.val (.c .nilSl))
    |some a,none=>cond (decide (a=0)) (K (.val (.c .nilSl))) none
    |none,some b=>cond (decide (b=0)) (K (.val (.c .nilSl))) none
    |some a,some b=>cond (decide (a=0)&&decide (b=0)) (K (.val (.c .nilSl))) none
   |_,_=>none
  |_,_,_,_=>none
 | .extract t i=>match ev t with
  | .tup ps=>match ps[i]? with
   |some (g,cs)=>K (.val (.v g cs))
   |none=>none
  |_=>none
 | .call c=>match c.callee with
  | .builtin b=>LA P b c.argTypes.toList (CQ ev c.args.toList) K
  | .value (.func f)=>cond (C.pure f) (K (.call f (CQ ev c.args.toList))) (K (.callM f (CQ ev c.args.toList)))
  | .value (.tmp t)=>match ev (.tmp t)with
   | .v false [.clo f fs cs]=>bif Ak AC.clOk fs&&Ak AC.clOk cs then K (.callM f (fs.map TV.c++(CQ ev c.args.toList++cs.map TV.c)))else none
   |_=>none
  |_=>none
 |_=>none
def AY (tmps:List TV):Operand->TV
 | .tmp t=>nth .dead tmps t
 | .const v=>ofValue v
 |_=> .dead
def AC.kill (id:Nat):AC->AC
 | .own j w n=>bif Nat.beq j id then .dead else .own j w n
 | .rptr j a b=>bif Nat.beq j id then .dead else .rptr j a b
 |a=>a
def TV.kill (id:Nat):TV->TV
 | .v g cs=> .v g (cs.map (AC.kill id))
 | .tup ps=> .tup (ps.map λp=>(p.1,p.2.map (AC.kill id)))
 | .dead=> .dead
def Box.kill (id:Nat) (b:Box):Box:=⟨b.ty,b.cells.map (AC.kill id)⟩
def AC.fz (id:Nat) (ks:List Kd) (l:List (List AC)):AC->AC
 | .own j w n=>bif Nat.beq j id then .view ks l else .own j w n
 | .rptr j a b=>bif Nat.beq j id then .dead else .rptr j a b
 |a=>a
def TV.fz (id:Nat) (ks:List Kd) (l:List (List AC)):TV->TV
 | .v g cs=> .v g (cs.map (AC.fz id ks l))
 | .tup ps=> .tup (ps.map λp=>(p.1,p.2.map (AC.fz id ks l)))
 | .dead=> .dead
def Box.fz (id:Nat) (ks:List Kd) (l:List (List AC)) (b:Box):Box:=⟨b.ty,b.cells.map (AC.fz id ks l)⟩
def del {α:Type} (id:Nat):List (Nat×α)->List (Nat×α)
 |[]=>[]
 |(k,b)::l=>bif Nat.beq k id then del id l else(k,b)::del id l
def Iv:List Nat->St->(St->Option R)->Option R
 |[],s,K=>K s
 |id::l,⟨tmps,aB,aC⟩,K=>match Ac aC id with
  |some r=>AR (tmps.map (TV.fz id r.ks r.l)) λtmps'=>AR (aB.map λp=>(p.1,p.2.fz id r.ks r.l)) λboxes'=>AR (del id aC) λrows'=>Iv l ⟨tmps',boxes',rows'⟩ K
  |none=>Iv l ⟨tmps,aB,aC⟩ K
def AC.res (aC:List (Nat×Row)):AC->Option AC
 | .own id _ _=>match Ac aC id with
  |some r=>some (.view r.ks r.l)
  |none=>none
 | .int k n=>some (.int k n)
 | .bool b=>some (.bool b)
 | .raw v=>some (.raw v)
 | .nilSl=>some .nilSl
 | .view ks l=>some (.view ks l)
 |_=>none
def Fs (aC:List (Nat×Row)):List AC->Option (List AC)
 |[]=>some []
 |a::l=>match a.res aC with
  |some a'=>match Fs aC l with
   |some l'=>some (a'::l')
   |none=>none
  |none=>none
def TV.res (aC:List (Nat×Row)):TV->Option TV
 | .v g cs=>match Fs aC cs with
  |some l=>some (.v g l)
  |none=>none
 |_=>none
def GM (aC:List (Nat×Row)):List TV->Option (List TV)
 |[]=>some []
 |a::l=>match a.res aC with
  |some a'=>match GM aC l with
   |some l'=>some (a'::l')
   |none=>none
  |none=>none
def AC.isOwn:AC->Bool
 | .own _ _ _=>true
 |_=>false
def TV.hasOwn:TV->Bool
 | .v _ cs=>cs.any AC.isOwn
 |_=>true
def AC.flat:AC->Bool
 | .int _ _| .bool _| .raw _| .nilSl=>true
 |_=>false
def TV.flat:TV->Bool
 | .v _ cs=>Ak AC.flat cs
 | .tup ps=>Ak (λp:Bool×List AC=>Ak AC.flat p.2) ps
 | .dead=>false
def TV.plainB:TV->Bool
 | .v _ cs=>Ak AC.plain cs
 | .tup ps=>Ak (λp:Bool×List AC=>Ak AC.plain p.2) ps
 | .dead=>false
def Prim.dr:Bool->Prim->Prim
 |false, .callM f args=>bif Ak TV.plainB args then .callF f args else .callD f args
 |false, .append e ks b s x=> .appD e ks b s x
 |_,p=>p
def GR (aC:List (Nat×Row)) (ks:List Kd):AC->Option (List (List AC))
 | .nilSl=>some []
 | .view ks' l=>bif C6 ks ks' then some l else none
 | .own id _ _=>match Ac aC id with
  |some r=>bif C6 ks r.ks then some r.l else none
  |none=>none
 |_=>none
def put (s:St) (dst:Option Tmp) (v:TV) (K:St->Option R):Option R:=
 match dst with
 |none=>K s
 |some d=>match s with
  |⟨tmps,aB,aC⟩=>AR (setL tmps d v) λl=>K ⟨l,aB,aC⟩
def AC.keys:AC->List Nat
 | .ptr k _=>[k]
 | .bsl k _=>[k]
 | .clo _ fs cs=>keysL fs++keysL cs
 |_=>[]
 where keysL:List AC->List Nat
 |[]=>[]
 | .ptr k _::l=>k::keysL l
 |_::l=>keysL l
def AC.ids:AC->List Nat
 | .own id _ _=>[id]
 |_=>[]
def cat {α β:Type} (g:α->List β):List α->List β
 |[]=>[]
 |a::l=>g a++cat g l
def TV.cellsOf:TV->List AC
 | .v _ cs=>cs
 | .tup ps=>cat (λp:Bool×List AC=>p.2) ps
 | .dead=>[]
def Qy (n:Nat):List Nat->List Nat
 |[]=>[n]
 |m::l=>bif Nat.beq m n then m::l else m::Qy n l
def AX:List Nat->List Nat->List Nat
 |[],l=>l
 |n::ns,l=>AX ns (Qy n l)
def EE (aB:List (Nat×Box)) (k:Nat):List AC:=match Ac aB k with
 |some b=>b.cells
 |none=>[]
def Zcw (aB:List (Nat×Box)) (keys:List Nat):List Nat:=AX (cat (λk=>cat AC.keys (EE aB k)) keys) keys
def Ln (aB:List (Nat×Box)):Nat->List Nat->List Nat
 |0,l=>l
 |n+1,l=>Ln aB n (Zcw aB l)
def Nk (aB:List (Nat×Box)) (cells:List AC) (keys:List Nat):List Nat:=
 AX (cat AC.ids cells++cat (λk=>cat AC.ids (EE aB k)) keys) []
def pos:List Nat->Nat->Nat
 |[],_=>0
 |m::l,n=>bif Nat.beq m n then 0 else pos l n+1
def AP:List Nat->Nat->Bool
 |[],_=>false
 |m::l,n=>bif Nat.beq m n then true else AP l n
def AC.ren (rk ri:Nat->Nat):AC->AC
 | .ptr k o=> .ptr (rk k) o
 | .bsl k n=> .bsl (rk k) n
 | .own id w n=> .own (ri id) w n
 | .rptr id i s=> .rptr (ri id) i s
 | .clo f fs cs=> .clo f (renP rk fs) (renP rk cs)
 |a=>a
 where renP (rk:Nat->Nat):List AC->List AC
 |[]=>[]
 | .ptr k o::l=> .ptr (rk k) o::renP rk l
 |a::l=>a::renP rk l
def TV.ren (rk ri:Nat->Nat):TV->TV
 | .v g cs=> .v g (cs.map (AC.ren rk ri))
 | .tup ps=> .tup (ps.map λp=>(p.1,p.2.map (AC.ren rk ri)))
 | .dead=> .dead
def AC.inK (keys ids:List Nat):AC->Bool
 | .ptr k _=>AP keys k
 | .bsl k _=>AP keys k
 | .own id _ _=>AP ids id
 | .rptr id _ _=>AP ids id
 | .clo _ fs cs=>Ak (inP keys) fs&&Ak (inP keys) cs
 |_=>true
 where inP (keys:List Nat):AC->Bool
 | .ptr k _=>AP keys k
 |_=>true
def TV.inK (keys ids:List Nat):TV->Bool
 | .v _ cs=>Ak (AC.inK keys ids) cs
 | .tup ps=>Ak (λp:Bool×List AC=>Ak (AC.inK keys ids) p.2) ps
 | .dead=>true
def Du (aB:List (Nat×Box)) (rk ri:Nat->Nat):Nat->List Nat->Option (List (Nat×Box))
 |_,[]=>some []
 |b,k::ks=>match Ac aB k with
  |some x=>match Du aB rk ri (b+1) ks with
   |some l=>some ((b,⟨x.ty,x.cells.map (AC.ren rk ri)⟩)::l)
   |none=>none
  |none=>none
def F4 (aC:List (Nat×Row)):Nat->List Nat->Option (List (Nat×Row))
 |_,[]=>some []
 |b,k::ks=>match Ac aC k with
  |some x=>match F4 aC (b+1) ks with
   |some l=>some ((b,x)::l)
   |none=>none
  |none=>none
def base:Nat:=20000
def BJ (names fresh:List Nat) (d:Nat) (n:Nat):Nat:=
 bif Nat.ble base n&&Nat.blt (n-base) names.length then nth 0 names (n-base)else 100000+100*d+pos fresh n
def Bk {α:Type} (names:List Nat):List (Nat×α)->List Nat
 |[]=>[]
 |(k,_)::l=>bif Nat.ble base k&&Nat.blt (k-base) names.length then Bk names l else k::Bk names l
def DZ {α:Type}:List Nat->List (Nat×α)->List (Nat×α)
 |[],l=>l
 |k::ks,l=>DZ ks (del k l)
def Mg (rk ri:Nat->Nat):List (Nat×Box)->List (Nat×Box)->List (Nat×Box)
 |[],l=>l
 |(k,b)::m,l=>Mg rk ri m (ins l (rk k) ⟨b.ty,b.cells.map (AC.ren rk ri)⟩)
def J9 (ri:Nat->Nat):List (Nat×Row)->List (Nat×Row)->List (Nat×Row)
 |[],l=>l
 |(k,b)::m,l=>J9 ri m (ins l (ri k) b)
def Cw (keys:List Nat):List (Nat×Box)->List (Nat×Box)->List (Nat×Box)
 |[],l=>l
 |(k,b)::m,l=>Cw keys m (upd l (nth 0 keys (k-base)) b)
def H4 (ids:List Nat) (v:TV):TV:=match ids with
 |[]=>v
 |id::l=>H4 l (v.kill id)
def DC (ids:List Nat) (b:Box):Box:=match ids with
 |[]=>b
 |id::l=>DC l (b.kill id)
def H1 {α:Type} (l:List (Nat×α)) (k:Nat):Bool:=match Ac l k with
 |some _=>false
 |none=>true
def BL:List Nat->Bool
 |[]=>true
 |k::l=>bif AP l k then false else BL l
def Ej {α:Type} (l:List (Nat×α)) (k:Nat):Bool:=match Ac l k with
 |some _=>true
 |none=>false
def HD (d:Nat):Nat:=100000+100*d
def A3 (dst:Option Tmp) (p:Prim) (s:St) (K:TV->St->Option R):Option R:=
 match s with
 |⟨tmps,aB,aC⟩=>
 match p with
 | .val v=>K v ⟨tmps,aB,aC⟩
 | .load g sz key off=>match Ac aB key with
  |some b=>match DE g sz b.cells off with
   |some v=>K v ⟨tmps,aB,aC⟩
   |none=>none
  |none=>none
 | .store key off cs=>match Ac aB key with
  |some b=>bif Nat.ble (off+cs.length) b.cells.length then
    AR (splice b.cells off cs) λcells=>AR (upd aB key ⟨b.ty,cells⟩) λboxes'=>K .dead ⟨tmps,boxes',aC⟩
   else none
  |none=>none
 | .new ty cs=>match dst with
  |some d=>match Ac aB d with
   |some _=>none
   |none=>AR (ins aB d ⟨ty,cs⟩) λboxes'=>K (.c (.ptr d 0)) ⟨tmps,boxes',aC⟩
  |none=>none
 | .newS ty n cs=>match dst with
  |some d=>match Ac aB d with
   |some _=>none
   |none=>AR (ins aB d ⟨ty,cs⟩) λboxes'=>K (.c (.bsl d n)) ⟨tmps,boxes',aC⟩
  |none=>none
 | .cutR id a=>match Ac aC id with
  |some r=>bif Nat.ble a r.l.length then
    AR (tmps.map (TV.kill id)) λtmps'=>
    AR (aB.map λp=>(p.1,p.2.kill id)) λboxes'=>
    AR (upd aC id ⟨r.ty,r.ks,r.l.drop a⟩) λrows'=>
    K (.c (.own id r.ks.length (r.l.drop a).length)) ⟨tmps',boxes',rows'⟩
   else none
  |none=>none
 | .rload g sz id idx sub=>match Ac aC id with
  |some r=>match DE g sz (r.f idx) sub with
   |some v=>K v ⟨tmps,aB,aC⟩
   |none=>none
  |none=>none
 | .rstore id idx sub cs=>match Ac aC id with
  |some r=>bif Nat.ble (sub+cs.length) r.w&&Ak AC.plain cs then
    match Iz r.ks (splice (r.f idx) sub cs)with
    |some c=>AR (upd aC id ⟨r.ty,r.ks,r.l.set idx c⟩) λrows'=>K .dead ⟨tmps,aB,rows'⟩
    |none=>none else none
  |none=>none
 | .newRow e ks l=>match dst with
  |some d=>match Ac aC (C.rowAs d)with
   |some _=>none
   |none=>AR (ins aC (C.rowAs d) ⟨e,ks,l⟩) λrows'=>K (.c (.own (C.rowAs d) ks.length l.length)) ⟨tmps,aB,rows'⟩
  |none=>none
 | .newView _ ks l=>K (.c (.view ks l)) ⟨tmps,aB,aC⟩
 | .make e ks bytes n z=>match dst with
  |some d=>match Ac aC d with
   |some _=>none
   |none=>cond (decide (0<=n)&&decide (n*(bytes:Int)<=140737488355328))
     (AR (ins aC d ⟨e,ks,List.replicate n.toNat z⟩) λrows'=>K (.c (.own d ks.length (List.replicate n.toNat z).length)) ⟨tmps,aB,rows'⟩) none
  |none=>none
 | .append e ks bytes s x=>match GR aC ks x with
  |some m=>match s with
   | .nilSl=>match dst with
    |some d=>match Ac aC d with
     |some _=>none
     |none=>bif(Nat.ble 1 ks.length&&Nat.ble 1 bytes)then cond (Nat.ble (m.length*bytes) 140737488355328) (AR (ins aC d ⟨e,ks,m⟩) λrows'=>K (.c (.own d ks.length m.length)) ⟨tmps,aB,rows'⟩) none else none
    |none=>none
   | .own id _ _=>match Ac aC id with
    |some r=>bif(C6 ks r.ks&&Nat.beq r.ty e&&Nat.ble 1 bytes)then
      cond (Nat.ble ((r.l ++ m).length * bytes) 140737488355328) (
       AR (tmps.map (TV.kill id)) λtmps'=>
       AR (aB.map λp=>(p.1,p.2.kill id)) λboxes'=>
       AR (upd aC id ⟨e,r.ks,r.l++m⟩) λrows'=>
       K (.c (.own id r.ks.length (r.l++m).length)) ⟨tmps',boxes',rows'⟩) none
     else none
    |none=>none
   |_=>none
  |none=>none
 | .appD e ks bytes s x=>match GR aC ks x with
  |some m=>match s with
   | .own id _ _=>match Ac aC id with
    |some r=>bif(C6 ks r.ks&&Nat.beq r.ty e&&Nat.ble 1 bytes)then
      cond (Nat.ble ((r.l ++ m).length * bytes) 140737488355328) (
       AR (tmps.map (TV.kill id)) λtmps'=>
       AR (aB.map λp=>(p.1,p.2.kill id)) λboxes'=>
       AR (upd aC id ⟨e,r.ks,r.l++m⟩) λrows'=>
       K (.c (.own id r.ks.length (r.l++m).length)) ⟨tmps',boxes',rows'⟩) none
     else none
    |none=>none
   | .nilSl=>match dst with
    |some d=>match Ac aC d with
     |some _=>none
     | none => bif (Nat.ble 1 ks.length && Nat.ble 1 bytes) then cond (Nat.ble (m.length * bytes) 140737488355328) (
       AR (tmps.map (TV.kill d)) λtmps'=>
       AR (aB.map λp=>(p.1,p.2.kill d)) λboxes'=>
       AR (ins aC d ⟨e,ks,m⟩) λrows'=>K (.c (.own d ks.length m.length)) ⟨tmps',boxes',rows'⟩) none else none
    |none=>none
   |_=>none
  |none=>none
 | .call f args=>match C.spec f with
  |some g=>match GM aC args with
   |some as=>g R as ⟨[],[]⟩ λv m=>match m with
    |⟨[],[]⟩=>bif((!(args.any TV.hasOwn)||v.flat)&&v.plainB)then K v ⟨tmps,aB,aC⟩else none
    |_=>none
   |none=>none
  |none=>none
 | .callM f args=>match C.spec f with
  |some g=>
   AR (Ln aB 4 (AX (cat AC.keys (cat TV.cellsOf args)) [])) λkeys=>
   AR (Nk aB (cat TV.cellsOf args) keys) λids=>
   bif Ak (TV.inK keys ids) args&&Ak (λk=>Ak (AC.inK keys ids) (EE aB k)) keys&&BL keys&&BL ids then
    match Du aB (λk=>base+pos keys k) (λi=>base+pos ids i) base keys,F4 aC base ids with
    |some mb,some mr=>g R (args.map (TV.ren (λk=>base+pos keys k) (λi=>base+pos ids i))) ⟨mb,mr⟩ λv m=>match m with
     |⟨mb',mr'⟩=>
      AR (Bk keys mb') λfk=>AR (Bk ids mr') λfi=>
      bif Ak (λp:Nat×Box=>Ej mb' p.1) mb&&BL (mb'.map (·.1))&&BL (mr'.map (·.1))&&Ak (λk=>H1 aB (BJ keys fk (dst.getD 0) k)) fk&&Ak (λk=>H1 aC (BJ ids fi (dst.getD 0) k)) fi&&Nat.ble fk.length 100&&Nat.ble fi.length 100 then
       AR (tmps.map (H4 ids)) λtmps'=>
       AR (Mg (BJ keys fk (dst.getD 0)) (BJ ids fi (dst.getD 0)) mb' ((DZ keys aB).map λp=>(p.1,DC ids p.2))) λboxes'=>
       AR (J9 (BJ ids fi (dst.getD 0)) mr' (DZ ids aC)) λrows'=>
       K (v.ren (BJ keys fk (dst.getD 0)) (BJ ids fi (dst.getD 0))) ⟨tmps',boxes',rows'⟩
      else none
    |_,_=>none
   else none
  |none=>none
 | .callD f args=>match C.spec f with
  |some g=>
   AR (AX (cat AC.keys (cat TV.cellsOf args)) []) λkeys=>
   bif Ak (TV.inK keys []) args&&Ak (λk=>Ak AC.calm (EE aB k)) keys&&BL keys then
    match Du aB (λk=>base+pos keys k) (λi=>base+pos [] i) base keys with
    |some mb=>g R (args.map (TV.ren (λk=>base+pos keys k) (λi=>base+pos [] i))) ⟨mb,[]⟩ λv m=>match m with
     |⟨mb',[]⟩=>
      bif Ak (λp:Nat×Box=>Ej mb' p.1) mb&&Ak (λp:Nat×Box=>Ej mb p.1) mb'&&BL (mb'.map (·.1))&&Ak (λp:Nat×Box=>Ak AC.calm p.2.cells) mb'&&v.plainB then
       AR (Cw keys mb' aB) λboxes'=>K v ⟨tmps,boxes',aC⟩
      else none
     |⟨_,_::_⟩=>none
    |none=>none
   else none
  |none=>none
 | .callF f args=>match C.spec f with
  |some g=>bif Ak TV.plainB args then g R args ⟨[],[]⟩ λv m=>match m with
   |⟨[],[]⟩=>bif v.plainB then K v ⟨tmps,aB,aC⟩else none
   |⟨[],[(k,r)]⟩=>match v with
    | .v false [.own j _ _] => bif Nat.beq j k then (match Ac aC (HD (dst.getD 0)) with
     |some _=>none
     |none=>AR (ins aC (HD (dst.getD 0)) r) λrows'=>K (.c (.own (HD (dst.getD 0)) r.ks.length r.l.length)) ⟨tmps,aB,rows'⟩)else none
    |_=>none
   |_=>none
   else none
  |none=>none
def Ps (ops:List Oper) (o:Oper) (s:St) (run skip:St->Option R):Option R:=
 match o.guard with
 |none=>run s
 |some (j,want)=>match ops[j]? with
  |some oj=>match oj.dst with
   |some t=>match nth .dead s.tmps t with
    | .v false [.bool g]=>cond g (put s (some t) (.c (.bool true)) (bif want then run else skip)) (put s (some t) (.c (.bool false)) (bif want then skip else run))
    | .tup []=>skip s
    |_=>none
   |none=>none
  |none=>none
def Lj (k o:Nat) (e:TypeId) (s:St) (K:St->Option R):Option R:=match s with
 |⟨tmps,aB,aC⟩=>match Ac aB k with
  |some b=>match nth .dead b.cells o with
   | .nilSl=>match Gf P 8 e with
    |some ks=>bif Nat.ble 1 ks.length&&H1 aC (1000000+1000*k+o)then
      AR (ins aC (1000000+1000*k+o) ⟨e,ks,[]⟩) λrows'=>AR (setL b.cells o (.own (1000000+1000*k+o) ks.length 0)) λcells=>AR (upd aB k ⟨b.ty,cells⟩) λboxes'=>K ⟨tmps,boxes',rows'⟩
     else none
    |none=>none
   |_=>K ⟨tmps,aB,aC⟩
  |none=>K ⟨tmps,aB,aC⟩
def JH:List (Nat×Nat×TypeId)->St->(St->Option R)->Option R
 |[],s,K=>K s
 |(k,o,e)::l,s,K=>Lj P k o e s λs'=>JH l s' K
def DK:List Kd->List AC->List AC
 | .sl ks::l, .nilSl::cs=> .view ks []::DK l cs
 |_::l,a::cs=>a::DK l cs
 |_,cs=>cs
def SD (b:Box):Box:=match Gf P 8 b.ty with
 |some ks=>⟨b.ty,DK ks b.cells⟩
 |none=>b
def IX:List (Nat×TypeId)->St->(St->Option R)->Option R
 |[],s,K=>K s
 |(t,e)::l,⟨tmps,aB,aC⟩,K=>match nth .dead tmps t with
  | .v false [.nilSl]=>match Ac aC t,Gf P 8 e with
   |none,some ks=>bif Nat.ble 1 ks.length then AR (setL tmps t (.c (.own t ks.length 0))) λtmps'=>AR (ins aC t ⟨e,ks,[]⟩) λrows'=>IX l ⟨tmps',aB,rows'⟩ K else none
   |_,_=>none
  |_=>IX l ⟨tmps,aB,aC⟩ K
def HP (s:St) (K:St->Option R):Option R:=
 JH P (cat (λp:Nat×Box=>bif AP C.ownBut p.1 then []else(C.ownOff p.2.ty).map λq=>(p.1,q.1,q.2)) s.aB) s λs'=>match s' with
  |⟨tmps,aB,aC⟩=>AR (aB.map λp=>(p.1,SD P p.2)) λboxes'=>IX P C.tprom ⟨tmps,boxes',aC⟩ K
def Zmt:TV->Bool
 | .v false [.rptr _ _ _]=>true
 |_=>false
def Zeu (C:Cfg):Operand->Bool
 | .tmp t=>AP C.cuts t
 |_=>false
def Q86 (ev:Operand->TV) (o:Op):List Nat:=
 match o with
 | .slice _ x _ _ _=>bif Zeu C x then []else cat AC.ids (TV.cellsOf (ev x))
 | .store _ a x=>bif C.fstore||Zmt (ev a)then cat AC.ids (TV.cellsOf (ev x))else []
 | .buildSlice _ _ parts=>cat AC.ids (cat TV.cellsOf (parts.toList.map λp=>ev p.2))
 | .makeFunc _ a b=>cat AC.ids (cat TV.cellsOf (CQ ev a.toList++CQ ev b.toList))
 | .call c=>match c.callee with
  | .value (.func f)=>bif C.lend f then []else cat AC.ids (cat TV.cellsOf (CQ ev c.args.toList))
  | .value _=>cat AC.ids (cat TV.cellsOf (CQ ev c.args.toList))
  |_=>[]
 |_=>[]
def Qjq (o:Op):Bool:=match o with
 | .call c=>match c.callee with
  | .value (.func f)=> !(C.pure f)
  | .value _=>true
  |_=>false
 |_=>false
def Ig (o:Op) (s:St) (K:St->Option R):Option R:=
 Iv (Q86 C (AY s.tmps) o) s λs'=>bif Qjq C o then HP P C s' K else K s'
def FE (pre:Bool) (ops:List Oper) (o:Oper) (s:St) (K:Option Prim->St->Option R):Option R:=
 Ps ops o s
  (λs=>(bif pre then Ig P C o.op s else λK=>K s) λs=>opK P C (AY s.tmps) o.dst o.op λp=>A3 C o.dst (p.dr pre) s λv s'=>put s' o.dst v (K (some (p.dr pre))))
  (λs=>put s o.dst (.tup []) (K none))
def Prim.simple:Option Prim->Bool
 |none=>true
 |some (.val _)=>true
 |some (.load _ _ _ _)=>true
 |some (.store _ _ _)=>true
 |some (.new _ _)=>true
 |some (.newView _ _ _)=>true
 |some (.rload _ _ _ _ _)=>true
 |some (.call _ _)=>true
 |some (.callD _ _)=>true
 |some (.callF _ _)=>true
 |some (.newRow _ _ _)=>true
 |some (.appD _ _ _ _ _)=>true
 |_=>false
def AC.live:AC->Bool
 | .int _ _| .bool _| .raw _| .nilSl| .view _ _| .ptr _ _=>true
 |_=>false
def Prim.isPtr:Option Prim->Bool
 |some (.val (.v false [.ptr _ _]))=>true
 |_=>false
def Prim.isLive:Option Prim->Bool
 |some (.val (.v _ cs))=>Ak AC.live cs
 |_=>false
def Prim.still (o:Op) (p:Option Prim):Bool:=match o with
 | .move _=>Prim.isLive p
 | .nilCheck _=>Prim.isPtr p
 | .fieldAddr _ _ _=>Prim.isPtr p
 |_=>false
def Prim.isApp:Option Prim->Bool
 |some (.appD _ _ _ _ _)=>true
 |_=>false
def Prim.isMk:Option Prim->Bool
 |some (.newRow _ _ _)=>true
 |some (.callF _ _)=>true
 |_=>false
def Prim.mkStill:Option Prim->Bool
 |none=>true
 |some (.val _)=>true
 |some (.load _ _ _ _)=>true
 |some (.newView _ _ _)=>true
 |some (.call _ args)=>Ak TV.plainB args
 |some (.newRow _ _ _)=>true
 |some (.callF _ _)=>true
 |_=>false
def IE (y:Oper) (py:Option Prim) (x:Oper) (px:Option Prim):Bool:=
 bif Prim.isApp py then !(Prim.isApp px)&&y.guard.isNone&&x.guard.isNone&&Prim.still x.op px
 else bif Prim.isApp px then y.guard.isNone&&x.guard.isNone&&Prim.still y.op py
 else bif Prim.isMk py then Prim.mkStill px else bif Prim.isMk px then Prim.mkStill py else true
def Prim.meet (ro:FuncId->Bool):Option Prim->Option Prim->Bool
 |some (.load _ _ k _),some (.store k' _ _)=>Nat.beq k k'
 |some (.store k _ _),some (.load _ _ k' _)=>Nat.beq k k'
 |some (.store k _ _),some (.store k' _ _)=>Nat.beq k k'
 |some (.callD f as),some (.load _ _ k _)=> !(ro f)&&AP (AX (cat AC.keys (cat TV.cellsOf as)) []) k
 |some (.callD _ as),some (.store k _ _)=>AP (AX (cat AC.keys (cat TV.cellsOf as)) []) k
 |some (.load _ _ k _),some (.callD f as)=> !(ro f)&&AP (AX (cat AC.keys (cat TV.cellsOf as)) []) k
 |some (.store k _ _),some (.callD _ as)=>AP (AX (cat AC.keys (cat TV.cellsOf as)) []) k
 |some (.callD f _),some (.callD g _)=> !(ro f&&ro g)
 |_,_=>false
def Ug (ops:List Oper):List Oper->St->(St->Option R)->Option R
 |[],s,K=>K s
 |o::l,s,K=>FE P C true ops o s λ_ s'=>Ug ops l s' K
def S5 (m:List Nat):List Edge->Nat->Nat
 |[],acc=>acc
 |e::l,acc=>S5 m l (bif Region.binds .any e then Nat.lor acc (Nat.lor (2^e.on) (nth 0 m e.on))else acc)
def Q2m {α:Type} (n:Nat) (K:Nat->α):α:=match n with
 |0=>K 0
 |n+1=>K (n+1)
def R2:List Oper->List Nat->(List Nat->Option R)->Option R
 |[],m,K=>K m
 |o::l,m,K=>Q2m (S5 m o.after.toList 0) λx=>AR (m++[x]) λm'=>R2 l m' K
def L8 (m:List Nat) (i j:Nat):Bool:=Nat.testBit (nth 0 m i) j
def Ze7:Op->Bool
 | .call _=>true
 | .makeSlice _ _ _=>true
 | .buildSlice _ _ _=>true
 | .store _ _ _=>true
 | .slice _ _ _ _ _=>true
 |_=>false
def Da (ops:List Oper) (m:List Nat) (i:Nat):Bool:=match ops[i]? with
 |some o=>Ze7 o.op&&Ak (λj=>Nat.beq j i||L8 m i j||L8 m j i) (List.range ops.length)
 |none=>false
def N_ (ops:List Oper) (m:List Nat):List Oper->Nat->St->(List (Oper×Option Prim)->St->Option R)->Option R
 |[],_,s,K=>K [] s
 |o::l,i,s,K=>FE P C (Da ops m i) ops o s λp s'=>N_ ops m l (i+1) s' λrest sf=>K ((o,p)::rest) sf
def KF (ops:Array Oper) (m:List Nat):Nat->List (Nat×Oper×Option Prim)->List (Oper×Option Prim)->Bool
 |_,_,[]=>true
 |i,earlier,(o,p)::l=>
  bif(Da ops.toList m i||Prim.simple p)&&o.after.toList.all (λe=> !(Region.binds .any e)||Nat.blt e.on i)&&Ak (λy:Nat×Oper×Option Prim=>L8 m i y.1||(!(Da ops.toList m i)&& !(Da ops.toList m y.1)&&(Oper.apart ops y.2.1 o&& !(Prim.meet C.ro y.2.2 p)&&IE y.2.1 y.2.2 o p))) earlier then KF ops m (i+1) (earlier++[(i,o,p)]) l else false
def Qh1 (ops:Array Oper) (draw:Bool) (s:St) (K:St->Option R):Option R:=
 bif draw then R2 ops.toList [] λm=>N_ P C ops.toList m ops.toList 0 s λacc s'=>bif KF C ops m 0 [] acc then K s' else none
 else Ug P C ops.toList ops.toList s K
def I4:List (Nat×Nat)->List AC->Bool
 |[],[]=>true
 |(k,o)::l, .ptr k' o'::cs=>Nat.beq k k'&&Nat.beq o o'&&I4 l cs
 |_,_=>false
def JQ:CS->AC->Option (List AC)
 | .any,_=>some []
 | .int k, .int k' n=>bif kEq k k' then some [.int k n]else none
 | .bool, .bool b=>some [.bool b]
 | .sl ks, .nilSl=>some [.view ks []]
 | .sl ks, .view ks' l=>bif C6 ks ks' then some [.view ks l]else none
 | .rawc, .raw v=>some [.raw v]
 | .nil, .nilSl=>some []
 | .ptr k o, .ptr k' o'=>bif Nat.beq k k'&&Nat.beq o o' then some []else none
 | .own id w, .own id' w' _=>bif Nat.beq id id'&&Nat.beq w w' then some []else none
 | .bsl k n, .bsl k' n'=>bif Nat.beq k k'&&Nat.beq n n' then some []else none
 | .clo f fs cs, .clo f' fs' cs'=>bif Nat.beq f f'&&I4 fs fs'&&I4 cs cs' then some []else none
 |_,_=>none
def G_:List CS->List AC->Option (List AC)
 |[],[]=>some []
 |c::cs,a::as=>match JQ c a with
  |some v=>match G_ cs as with
   |some vs=>some (v++vs)
   |none=>none
  |none=>none
 |_,_=>none
def L9:List (Bool×List CS)->List (Bool×List AC)->Option (List AC)
 |[],[]=>some []
 | (g, cs) :: l, (g', as) :: m => bif g == g' then (match G_ cs as with
  |some v=>match L9 l m with
   |some vs=>some (v++vs)
   |none=>none
  |none=>none)else none
 |_,_=>none
def JF:TS->TV->Option (List AC)
 | .dead,_=>some []
 | .v g cs, .v g' as=>bif g==g' then G_ cs as else none
 | .tup ps, .tup qs=>L9 ps qs
 |_,_=>none
def Kv:List TS->List TV->Option (List AC)
 |[],[]=>some []
 |t::ts,v::vs=>match JF t v with
  |some a=>match Kv ts vs with
   |some l=>some (a++l)
   |none=>none
  |none=>none
 |_,_=>none
def Ka:List (Nat×TypeId×List CS)->List (Nat×Box)->Option (List AC)
 |[],_=>some []
 |(k,t,cs)::l,aB=>match Ac aB k with
  | some b => bif Nat.beq t b.ty then (match G_ cs b.cells with
   |some v=>match Ka l aB with
    |some vs=>some (v++vs)
    |none=>none
   |none=>none)else none
  |none=>none
def Jq:List (Nat×TypeId×List Kd)->List (Nat×Row)->Option (List AC)
 |[],_=>some []
 |(k,t,ks)::l,aC=>match Ac aC k with
  | some r => bif Nat.beq t r.ty && C6 ks r.ks then (match Jq l aC with
    |some vs=>some (.view ks r.l::vs)
    |none=>none)else none
  |none=>none
def F3 (k:Nat):Bool:=Nat.ble base k&&Nat.blt k 100000
def Fx (sk:Sk) (s:St):Option (List AC):=match s with
 | ⟨tmps, aB, aC⟩ => bif Ak (λp : Nat × Box => !(F3 p.1) || AP (sk.aB.map (·.1)) p.1) aB then (match Jq sk.aC aC with
  |some a=>match Kv sk.tmps tmps with
   |some b=>match Ka sk.aB aB with
    |some c=>some (a++(b++c))
    |none=>none
   |none=>none
  |none=>none)else none
def Mr:List (Nat×Nat)->List AC
 |[]=>[]
 |(k,o)::l=> .ptr k o::Mr l
def D_ (rl:Nat->Nat) (l:List AC):CS->Nat->AC×Nat
 | .any,i=>(.dead,i)
 | .int k,i=>(.int k (Af (nth .dead l i)),i+1)
 | .bool,i=>(.bool (Dl (nth .dead l i)),i+1)
 | .sl ks,i=>(.view ks (BS (nth .dead l i)),i+1)
 | .rawc,i=>(LU .raw (nth .dead l i),i+1)
 | .nil,i=>(.nilSl,i)
 | .ptr k o,i=>(.ptr k o,i)
 | .own id w,i=>(.own id w (rl id),i)
 | .clo f fs cs,i=>(.clo f (Mr fs) (Mr cs),i)
 | .bsl k n,i=>(.bsl k n,i)
def Eh (rl:Nat->Nat) (l:List AC):List CS->Nat->List AC×Nat
 |[],i=>([],i)
 |c::cs,i=>match D_ rl l c i with
  |(a,i')=>match Eh rl l cs i' with
   |(as,i'')=>(a::as,i'')
def GD (rl:Nat->Nat) (l:List AC):List (Bool×List CS)->Nat->List (Bool×List AC)×Nat
 |[],i=>([],i)
 |(g,cs)::ps,i=>match Eh rl l cs i with
  |(as,i')=>match GD rl l ps i' with
   |(qs,i'')=>((g,as)::qs,i'')
def HU (rl:Nat->Nat) (l:List AC):TS->Nat->TV×Nat
 | .dead,i=>(.dead,i)
 | .v g cs,i=>match Eh rl l cs i with
  |(as,i')=>(.v g as,i')
 | .tup ps,i=>match GD rl l ps i with
  |(qs,i')=>(.tup qs,i')
def E0 (rl:Nat->Nat) (l:List AC):List TS->Nat->List TV×Nat
 |[],i=>([],i)
 |t::ts,i=>match HU rl l t i with
  |(v,i')=>match E0 rl l ts i' with
   |(vs,i'')=>(v::vs,i'')
def Fd (rl:Nat->Nat) (l:List AC):List (Nat×TypeId×List CS)->Nat->List (Nat×Box)
 |[],_=>[]
 |(k,t,cs)::bs,i=>match Eh rl l cs i with
  |(as,i')=>(k,⟨t,as⟩)::Fd rl l bs i'
def G5 (l:List AC):List (Nat×TypeId×List Kd)->Nat->List (Nat×Row)×Nat
 |[],i=>([],i)
 |(k,t,ks)::rs,i=>match G5 l rs (i+1)with
  |(q,i')=>((k,⟨t,ks,BS (nth .dead l i)⟩)::q,i')
def D0 (aC:List (Nat×Row)) (id:Nat):Nat:=match Ac aC id with
 |some r=>r.l.length
 |none=>0
def BA (sk:Sk) (vars:List AC):St:=match G5 vars sk.aC 0 with
 |(aC,i)=>match E0 (D0 aC) vars sk.tmps i with
  |(tmps,i')=>⟨tmps,Fd (D0 aC) vars sk.aB i',aC⟩
def CS.okB (keys:List Nat) (aC:List (Nat×TypeId×List Kd)):CS->Bool
 | .ptr k _=>AP keys k
 | .bsl k _=>AP keys k
 | .own id w=>match Ac aC id with
  |some (_,ks)=>Nat.beq ks.length w
  |none=>false
 | .clo _ fs cs=>Ak (λp:Nat×Nat=>AP keys p.1) fs&&Ak (λp:Nat×Nat=>AP keys p.1) cs
 |_=>true
def TS.okB (keys:List Nat) (aC:List (Nat×TypeId×List Kd)):TS->Bool
 | .dead=>true
 | .v _ cs=>Ak (CS.okB keys aC) cs
 | .tup ps=>Ak (λp:Bool×List CS=>Ak (CS.okB keys aC) p.2) ps
def Sk.okB (sk:Sk):Bool:=
 BL (sk.aB.map (·.1))&&BL (sk.aC.map (·.1))&&Ak (TS.okB (sk.aB.map (·.1)) sk.aC) sk.tmps&&Ak (λp:Nat×TypeId×List CS=>Ak (CS.okB (sk.aB.map (·.1)) sk.aC) p.2.2) sk.aB
def Kk (d:Nat):AC->Bool
 | .ptr k _=> !(Nat.beq k d)
 |_=>true
def AC.killP (d:Nat):AC->AC
 | .ptr k o=>bif Nat.beq k d then .dead else .ptr k o
 | .bsl k n=>bif Nat.beq k d then .dead else .bsl k n
 | .clo f fs cs=>bif Ak (Kk d) fs&&Ak (Kk d) cs then .clo f fs cs else .dead
 |a=>a
def TV.mapC (f:AC->AC):TV->TV
 | .v g cs=> .v g (cs.map f)
 | .tup ps=> .tup (ps.map λp=>(p.1,p.2.map f))
 | .dead=> .dead
def S_:List Oper->List Nat
 |[]=>[]
 |o::l=>match o.op,o.dst with
  | .alloc _,some d=>d::S_ l
  | .box _ _,some d=>d::S_ l
  |_,_=>S_ l
def PS:List Nat->St->(St->Option R)->Option R
 |[],s,K=>K s
 |d::l,⟨tmps,aB,aC⟩,K=>match Ac aB d with
  |none=>PS l ⟨tmps,aB,aC⟩ K
  |some _=>bif F3 d then none else AR (tmps.map (TV.mapC (AC.killP d))) λtmps'=>AR ((del d aB).map λp=>(p.1,(⟨p.2.ty,p.2.cells.map (AC.killP d)⟩:Box))) λboxes'=>PS l ⟨tmps',boxes',aC⟩ K
def PE (step:St->(Ex->St->Option R)->Option R):Nat->St->(Ex->St->Option R)->Option R
 |0,_,_=>none
 |n+1,s,K=>step s fun
  | .normal,s'=>HP P C s' λs'=>PE step n s' K
  | .exit id,s'=>K (.exit id) s'
  | .ret,s'=>K .ret s'
def P6 (a:Option (Sk×J8)) (s:St) (K:Ex->St->Option R) (run:Option R):Option R:=match a with
 |none=>run
 | some (sk, g) => bif sk.okB then (match Fx sk s with
  |some vars=>g R vars K
  |none=>none)else none
def Q7y (C:Cfg) (c:Operand):Option (Sk×J8):=match c with
 | .tmp t=>C.conds t
 |_=>none
def Mp:Code->Option Nat
 | .region id _ _=>some id
 | .seq a b=>match Mp a with
  |some n=>some n
  |none=>Mp b
 | .cond _ a b=>match Mp a with
  |some n=>some n
  |none=>Mp b
 | .block _ b=>Mp b
 | .loop b=>Mp b
 |_=>none
def RN (body:Code):Nat:=match Mp body with
 |some n=>n
 |none=>0
def Dh (L:Nat):Code->Nat->St->(Ex->St->Option R)->Option R
 | .skip,_,s,K=>K .normal s
 | .region _ ops draw,_,s,K=>PS (S_ ops.toList) s λs=>Qh1 P C ops draw s (K .normal)
 | .seq a b,blk,s,K=>Dh L a blk s fun
  | .normal,s'=>Dh L b blk s' K
  | .exit id,s'=>K (.exit id) s'
  | .ret,s'=>K .ret s'
 | .cond c x y, blk, s, K => P6 (Q7y C c) s K (match AY s.tmps c with
  | .v false [.bool g]=>match c with
   | .tmp t=>cond g (put s (some t) (.c (.bool true)) λs'=>Dh L x blk s' K) (put s (some t) (.c (.bool false)) λs'=>Dh L y blk s' K)
   |_=>cond g (Dh L x blk s K) (Dh L y blk s K)
  |_=>none)
 | .block id body,_,s,K=>P6 (C.blocks id) s K (Dh L body id s fun
  | .normal,s'=>K .normal s'
  | .exit i,s'=>bif Nat.beq i id then K .normal s' else K (.exit i) s'
  | .ret,s'=>K .ret s')
 | .loop body,blk,s,K=>IX P (C.prom (RN body)) s λs'=>
   HP P C s' λs'=>P6 (C.loops (RN body)) s' K (PE P C (λs K=>Dh L body blk s K) L s' K)
 | .exit id,_,s,K=>K (.exit id) s
 | .ret,_,s,K=>K .ret s
 | .scope b,blk,s,K=>Dh L b blk s K
 | .label _,_,s,K=>K .normal s
 |_,_,_,_=>none
def Sq:Ex->Ex->Bool
 | .normal, .normal=>true
 | .exit i, .exit j=>Nat.beq i j
 | .ret, .ret=>true
 |_,_=>false
def Gy:List (Ex×Sk)->Nat->Ex->St->Option (Nat×List AC)
 |[],_,_,_=>none
 | (e, sk) :: l, i, e', s => bif Sq e e' && sk.okB then (match Fx sk s with
  |some vars=>some (i,vars)
  |none=>none)else Gy l (i+1) e' s
def QA (o:List AC) (K:Ex->St->Option R):List (Ex×Sk)->Nat->Nat->Option R
 |[],_,_=>none
 |(e,sk)::l,i,n=>bif Nat.beq n i then K e (BA sk o)else QA o K l (i+1) n
def gOf (exits:List (Ex×Sk)) (m:List AC->Option (Nat×List AC)):J8:=λ_ vars K=>(m vars).bind λo=>QA o.2 K exits 1 o.1
def AS (L blk:Nat) (body:Code) (sk:Sk) (exits:List (Ex×Sk)) (vars:List AC):Option (Nat×List AC):=
 Dh P C L body blk (BA sk vars) λe s'=>match e with
  | .normal=>HP P C s' λs'=>match Fx sk s' with
   |some vars=>some (0,vars)
   |none=>none
  | .exit i=>Gy exits 1 (.exit i) s'
  | .ret=>Gy exits 1 .ret s'
def CJ (step:List AC->Option (Nat×List AC)):Nat->List AC->Option (Nat×List AC)
 |0,_=>none
 |n+1,vars=>(step vars).bind λo=>if o.1=0 then CJ step n o.2 else some o
def Q8g (L id:Nat) (body:Code) (sk:Sk) (exits:List (Ex×Sk)) (vars:List AC):Option (Nat×List AC):=
 Dh P C L body id (BA sk vars) fun
  | .normal,s'=>Gy exits 1 .normal s'
  | .exit i,s'=>bif Nat.beq i id then Gy exits 1 .normal s' else Gy exits 1 (.exit i) s'
  | .ret,s'=>Gy exits 1 .ret s'
def Xm (s:St):ResultVar->Option TV
 | .tmp t=>match nth .dead s.tmps t with
  | .v g cs=>some (.v g cs)
  |_=>none
 | .cell a t=>match nth .dead s.tmps a,Cx P t,szT P t with
  | .v false [.ptr key off],some g,some sz=>match Ac s.aB key with
   |some b=>DE g sz b.cells off
   |none=>none
  |_,_,_=>none
def LM (s:St):List ResultVar->Option (List (Bool×List AC))
 |[]=>some []
 |r::l=>match Xm P s r with
  |some (.v g cs)=>match LM s l with
   |some ps=>some ((g,cs)::ps)
   |none=>none
  |_=>none
def HS:List TypeId->List (Bool×List AC)->List (Bool×List AC)
 | t :: ts, (g, cs) :: l => (g, match Gf P 8 t with
  |some ks=>DK ks cs
  |none=>cs)::HS ts l
 |_,l=>l
def J6:List (Bool×List AC)->TV
 |[(g,cs)]=> .v g cs
 |ps=> .tup ps
def Pr (fn:Func) (keys0:List Nat) (s:St) (K:TV->Mem->Option R):Option R:=
 match LM P s fn.results.toList with
 |none=>none
 |some ps=>(bif C.ownRes then λK=>K s else Iv (cat (λp:Bool×List AC=>cat AC.ids p.2) ps) s) λs1=>HP P C s1 λs1=>
  match LM P s1 fn.results.toList with
  |none=>none
  |some ps=>match s1 with
   |⟨_,aB,aC⟩=>
    AR (HS P fn.resultTypes.toList ps) λps=>
    AR (Ln aB 4 (AX (cat (λp:Bool×List AC=>cat AC.keys p.2) ps) keys0)) λkeys=>
    AR (Nk aB (cat (λp:Bool×List AC=>p.2) ps) keys) λids=>
    AR (aB.filter λp=>AP keys p.1) λboxes'=>
    AR (aC.filter λp=>AP ids p.1) λrows'=>
    bif Ak (λp:Bool×List AC=>Ak (AC.inK keys ids) p.2) ps&&Ak (λp:Nat×Box=>Ak (AC.inK keys ids) p.2.cells) boxes'&&Ak (Ej aB) keys0&&Ak (AP keys) keys0 then K (J6 ps) ⟨boxes',rows'⟩else none
def ET (L:Nat) (f:FuncId) (args:List TV) (mem:Mem) (K:TV->Mem->Option R):Option R:=
 match P.funcs.toList[f]? with
 |some fn=>match fn.body with
  |some c=>bif Ak (λp:Nat×Box=>F3 p.1) mem.aB then
    AR (args++List.replicate (fn.ntmps-args.length) TV.dead) λtmps=>
     Dh P C L c 0 ⟨tmps,mem.aB,mem.aC⟩ λe s=>match e with
      | .normal=>Pr P C fn (mem.aB.map (·.1)) s K
      | .ret=>Pr P C fn (mem.aB.map (·.1)) s K
      | .exit _=>none
   else none
  |none=>none
 |none=>none
def AL:Code->Nat->List (Nat×Code)
 | .seq a b,blk=>AL a blk++AL b blk
 | .cond _ a b,blk=>AL a blk++AL b blk
 | .block _ b,blk=>AL b blk
 | .loop b,blk=>(RN b,b)::AL b blk
 | .scope b,blk=>AL b blk
 |_,_=>[]
def A4:Code->List (Nat×Code)
 | .seq a b=>A4 a++A4 b
 | .cond _ a b=>A4 a++A4 b
 | .block id b=>(id,b)::A4 b
 | .loop b=>A4 b
 | .scope b=>A4 b
 |_=>[]
def Bd:Code->Nat->List (Nat×Nat×Code×Code)
 | .seq a b,blk=>Bd a blk++Bd b blk
 | .cond (.tmp t) a b,blk=>(t,0,a,b)::(Bd a blk++Bd b blk)
 | .cond _ a b,blk=>Bd a blk++Bd b blk
 | .block _ b,blk=>Bd b blk
 | .loop b,blk=>Bd b blk
 | .scope b,blk=>Bd b blk
 |_,_=>[]
def JP (f:FuncId):Option Code:=
 match P.funcs.toList[f]? with
 |some fn=>fn.body
 |none=>none
def Im (f:FuncId):List (Nat×Code):=match JP P f with
 |some c=>AL c 0
 |none=>[]
def Kw (f:FuncId):List (Nat×Code):=match JP P f with
 |some c=>A4 c
 |none=>[]
def Tm (f:FuncId):List (Nat×Nat×Code×Code):=match JP P f with
 |some c=>Bd c 0
 |none=>[]
def Am (L:Nat) (f:FuncId) (sig osig:Sk) (vars:List AC):Option (List AC):=match BA sig vars with
 |⟨args,aB,aC⟩=>ET P C L f args ⟨aB,aC⟩ λv m=>match m with
  |⟨b,r⟩=>Fx osig ⟨[v],b,r⟩
end prog
def Ad (sig osig:Sk) (m:List AC->Option (List AC)):Spec:=λR args mem K=>match mem with
 | ⟨aB, aC⟩ => bif Ak (λp : Nat × Box => F3 p.1) aB then (match Fx sig ⟨args, aB, aC⟩ with
  |some vars=>(m vars).bind λo=>match BA osig o with
   |⟨tm,b,r⟩=>match tm with
    |[v]=>K v ⟨b,r⟩
    |_=>none
  |none=>none)else none
def Qd2:CS->AC->Bool
 | .int k, .int k' _=>kEq k k'
 | .bool, .bool _=>true
 | .sl ks, .view ks' _=>C6 ks ks'
 | .ptr k o, .ptr k' o'=>Nat.beq k k'&&Nat.beq o o'
 |_,_=>false
def OU:List CS->List AC->Bool
 |[],[]=>true
 |c::cs,a::as=>Qd2 c a&&OU cs as
 |_,_=>false
def Hw:List (Nat×TypeId×List CS)->List (Nat×Box)->Bool
 |[],[]=>true
 |(k,t,cs)::l,(k',b)::m=>Nat.beq k k'&&(Nat.beq t b.ty&&(OU cs b.cells&&Hw l m))
 |_,_=>false
def Ev (sig osig:Sk) (m:List AC->Option (List AC)):Spec:=λR args mem K=>match mem with
 | ⟨aB, aC⟩ => bif Ak (λp : Nat × Box => F3 p.1) aB && (Hw sig.aB aB && (aC.isEmpty && (sig.aC.isEmpty && BL (sig.aB.map (·.1))))) then (match Fx sig ⟨args, aB, aC⟩ with
  |some vars=>(m vars).bind λo=>match BA osig o with
   |⟨tm,[],[]⟩=>match tm with
    |[v]=>K v ⟨aB,aC⟩
    |_=>none
   |_=>none
  |none=>none)else none
def L3 (P:Program) (C:Cfg) (L:Nat) (f:FuncId) (sig osig:Sk) (vars:List AC):Option (List AC):=match BA sig vars with
 |⟨args,aB,aC⟩=>ET P C L f args ⟨aB,aC⟩ λv _=>Fx osig ⟨[v],[],[]⟩
def AV (P:Program) (f blk:Nat):Code:=match Ac (Im P f) blk with
 |some c=>c
 |none=> .skip
def Qcw (P:Program) (f id:Nat):Code:=match Ac (Kw P f) id with
 |some c=>c
 |none=> .skip
def Cfg.loop (C:Cfg) (blk:Nat) (sk:Sk) (exits:List (Ex×Sk)) (m:List AC->Option (Nat×List AC)):Cfg:=
 {C with loops:=λb=>bif Nat.beq b blk then some (sk,gOf exits m)else C.loops b}
def Cfg.block (C:Cfg) (id:Nat) (sk:Sk) (exits:List (Ex×Sk)) (m:List AC->Option (Nat×List AC)):Cfg:=
 {C with blocks:=λb=>bif Nat.beq b id then some (sk,gOf exits m)else C.blocks b}
open Go.RowKit
theorem Re {a b c d:Prop} (h:a\/b) (f:a->c) (g:b->d):c\/d:=by
 rcases h with h|h
 ·exact .inl (f h)
 ·exact .inr (g h)
mutual
def CP (im:Nat->Prop) (w:World):AC->Value->Prop
 | .int k n,x=>x= .int k n
 | .bool b,x=>x= .bool b
 | .raw v,x=>x=v/\v.oneCell'=true
 | .nilSl,x=>x= .slice none 0 0
 | .view ks l,x=>∃ad cap,x= .slice ad l.length cap/\l.length<=cap/\(∀c∈l,AN ks c=c)/\(l=[]\/∃b o,ad=some ⟨b,o,none⟩/\im b/\CPss im w ks.length l b o)
 | .dead,_=>False
 | .ptr _ _,_=>False
 | .own _ _ _,_=>False
 | .rptr _ _ _,_=>False
 | .vptr _ _,_=>False
 | .clo _ _ _,_=>False
 | .bsl _ _,_=>False
def CPs (im:Nat->Prop) (w:World):List AC->Nat->Nat->Prop
 |[],_,_=>True
 |c::cs,b,o=>(∃y,w.cell? ⟨b,o,none⟩=some y/\CP im w c y)/\CPs im w cs b (o+1)
def CPss (im:Nat->Prop) (w:World) (wd:Nat):List (List AC)->Nat->Nat->Prop
 |[],_,_=>True
 |c::cs,b,o=>(c.length=wd/\CPs im w c b o)/\CPss im w wd cs b (o+wd)
end
theorem Qxe:∀(ks:List Kd) (cs:List AC) (j:Nat),(EL ks cs j).length=ks.length
 |[],_,_=>rfl
 |_::ks,cs,j=>by simp[EL,Qxe ks cs (j+1)]
theorem Qr (ks:List Kd) (cs:List AC):(AN ks cs).length=ks.length:=Qxe ks cs 0
theorem Zj {im:Nat->Prop} {w:World} {wd:Nat}:∀{l:List (List AC)} {b o:Nat},CPss im w wd l b o->∀i (hi:i<l.length),(l[i]).length=wd/\CPs im w l[i] b (o+i*wd)
 |[],_,_,_,i,hi=>by simp at hi
 |c::l,b,o,h,0,_=>by rw[CPss]at h;rw[Nat.zero_mul,Nat.add_zero];exact h.1
 |c::l,b,o,h,i+1,hi=>by
  rw[CPss]at h;have:=Zj h.2 i (by simpa using hi);simp only[List.getElem_cons_succ];rw[Nat.add_mul,Nat.one_mul,Nat.add_comm (i*wd) wd,<-Nat.add_assoc];exact this
theorem Tg {im:Nat->Prop} {w:World} {wd:Nat}:∀{l:List (List AC)} {b o:Nat},(∀i (hi:i<l.length),(l[i]).length=wd/\CPs im w l[i] b (o+i*wd))->CPss im w wd l b o
 |[],_,_,_=>by simp[CPss]
 |c::l,b,o,h=>by
  rw[CPss];refine⟨by have:=h 0 (by simp);rw[Nat.zero_mul,Nat.add_zero]at this;exact this,Tg λi hi=> ?_⟩;have:=h (i+1) (by simpa using hi);simp only[List.getElem_cons_succ]at this;rw[Nat.add_mul,Nat.one_mul,Nat.add_comm (i*wd) wd,<-Nat.add_assoc]at this;exact this
def EC (w:World) (e:TypeId) (size:Nat) (v:Value) (n:Nat) (xs:List Value):Prop:=
 xs.length = n * size /\ ((v = .slice none 0 0 /\ n = 0) \/
  ∃g o cap cur,v= .slice (some ⟨g,o,none⟩) n cap/\w.heap[g]? =some (.cells cur e (0,0))/\n<=cap/\cap<=maxLen/\o+cap*size<=cur.size/\(cur.toList.drop o).take (n*size)=xs)
theorem ZU (w:World) (e:TypeId) (size:Nat):EC w e size (.slice none 0 0) 0 []:=⟨by simp, .inl ⟨rfl,rfl⟩⟩
theorem Qzq {w:World} {base:Nat} {e:TypeId} {size:Nat} {v:Value} {n:Nat} {xs:List Value} (h:w.ownsRow base e size v n xs):EC w e size v n xs:=by
 refine⟨h.1,?_⟩;rcases h.2 with h|⟨g,cap,cur,h1,_,h2,h3,h4,h5,h6⟩
 ·exact .inl h
 ·exact .inr ⟨g,0,cap,cur,h1,h2,h3,h4,by omega,by simpa using h6⟩
theorem Q1a {w:World} {e:TypeId} {size:Nat} {v:Value} {n:Nat} {xs:List Value} (h:EC w e size v n xs):∀k,v.ownBlock=some k->k<w.heap.size:=by
 intro k hk;rcases h.2 with⟨rfl,_⟩|⟨g,o,cap,cur,rfl,hg,_⟩
 ·simp[Value.ownBlock]at hk
 ·simp[Value.ownBlock]at hk;subst hk;exact(db.1 hg).1
theorem LE {w w':World} {e:TypeId} {size n:Nat} {v:Value} {xs:List Value} (h:EC w e size v n xs) (hb:∀g,v.ownBlock=some g->w'.heap[g]? =w.heap[g]?):EC w' e size v n xs:=by
 refine⟨h.1,?_⟩;rcases h.2 with hn|⟨g,o,cap,cur,rfl,h2,h3⟩
 ·exact .inl hn
 ·exact .inr ⟨g,o,cap,cur,rfl,by rw[hb g rfl];exact h2,h3⟩
def HI:Value->Nat
 | .slice (some a) _ _=>a.off
 |_=>0
theorem PK {w:World} {e:TypeId} {size:Nat} {v:Value} {n:Nat} {xs:List Value} (h:EC w e size v n xs) {g:Nat} (hg:v.ownBlock=some g):∀j u,xs[j]? =some u->w.cell? ⟨g,HI v+j,none⟩=some u:=by
 intro j u hj;rcases h.2 with⟨rfl,rfl⟩|⟨g',o,cap,cur,rfl,h2,h3,h4,h5,h6⟩
 ·simp[Value.ownBlock]at hg
 ·simp[Value.ownBlock]at hg;subst hg;rw[<-h6,List.getElem?_take]at hj;split at hj
  ·rw[List.getElem?_drop]at hj;simp[World.cell?,h2,HI];simpa using hj
  ·simp at hj
structure Env where
 bx:Nat->Nat
 rv:Nat->Value
 wd:Nat->Nat
 im:Nat->Prop
def CCc (ρ:Env) (w:World):AC->Value->Prop
 | .ptr key off,x=>x= .pointer (some ⟨ρ.bx key,off,none⟩)
 |a,x=>CP ρ.im w a x
def CLc (ρ:Env) (w:World):List AC->List Value->Prop
 |[],[]=>True
 |a::l,x::xs=>CCc ρ w a x/\CLc ρ w l xs
 |_,_=>False
def CC (ρ:Env) (w:World):AC->Value->Prop
 | .dead,x=>x.oneCell'=true
 | .ptr key off,x=>x= .pointer (some ⟨ρ.bx key,off,none⟩)
 | .own id wd n,x=>x=ρ.rv id/\ρ.wd id=wd/\((x= .slice none 0 0/\n=0)\/∃g o c,x= .slice (some ⟨g,o,none⟩) n c)
 | .rptr id idx sub,x=>∃g,(ρ.rv id).ownBlock=some g/\x= .pointer (some ⟨g,HI (ρ.rv id)+(idx*ρ.wd id+sub),none⟩)
 | .vptr cs sub,x=>∃b o,x= .pointer (some ⟨b,o+sub,none⟩)/\ρ.im b/\CPs ρ.im w cs b o
 | .clo f fs cs,x=>∃xs ys:Array Value,x= .func (.func f) xs ys/\CLc ρ w fs xs.toList/\CLc ρ w cs ys.toList
 | .bsl key n,x=>x= .slice (some ⟨ρ.bx key,0,none⟩) n n
 |a,x=>CP ρ.im w a x
def CL (R:AC->Value->Prop):List AC->List Value->Prop
 |[],[]=>True
 |a::l,x::xs=>R a x/\CL R l xs
 |_,_=>False
def TP (ρ:Env) (w:World):List (Bool×List AC)->List Value->Prop
 |[],[]=>True
 | (g, cs) :: l, x :: xs => (match g with
   |true=>∃ys:Array Value,x= .agg ys/\CL (CC ρ w) cs ys.toList
   |false=>∃a,cs=[a]/\CC ρ w a x)/\TP ρ w l xs
 |_,_=>False
def TVR (ρ:Env) (w:World):TV->Value->Prop
 | .dead,_=>True
 | .v true cs,x=>∃ys:Array Value,x= .agg ys/\CL (CC ρ w) cs ys.toList
 | .v false cs,x=>∃a,cs=[a]/\CC ρ w a x
 | .tup ps,x=>∃ys:Array Value,x= .tuple ys/\TP ρ w ps ys.toList
theorem CL.length {R:AC->Value->Prop}:∀{l:List AC} {xs:List Value},CL R l xs->l.length=xs.length
 |[],[],_=>rfl
 |_::l,_::xs,h=>by simp[CL.length h.2]
 |[],_::_,h=>h.elim
 |_::_,[],h=>h.elim
theorem CL.mono {R R':AC->Value->Prop}:∀{l:List AC} {xs:List Value},(∀a∈l,∀x,R a x->R' a x)->CL R l xs->CL R' l xs
 |[],[],_,_=>trivial
 |a::l,x::xs,h,hc=>⟨h a (by simp) x hc.1,CL.mono (λb hb=>h b (by simp[hb])) hc.2⟩
 |[],_::_,_,h=>h.elim
 |_::_,[],_,h=>h.elim
theorem CL.get {R:AC->Value->Prop}:∀{l:List AC} {xs:List Value} {i:Nat} {a:AC},CL R l xs->l[i]? =some a->∃x,xs[i]? =some x/\R a x
 |[],[],i,_,_,h=>by simp at h
 |a::l,x::xs,0,b,hc,h=>by simp at h;subst h;exact⟨x,rfl,hc.1⟩
 |a::l,x::xs,i+1,b,hc,h=>by simpa using CL.get hc.2 (by simpa using h)
 |[],_::_,_,_,h,_=>h.elim
 |_::_,[],_,_,h,_=>h.elim
theorem CL.drop {R:AC->Value->Prop}:∀(n:Nat) {l:List AC} {xs:List Value},CL R l xs->CL R (l.drop n) (xs.drop n)
 |0,_,_,h=>h
 |_+1,[],[],_=>trivial
 |n+1,_::_,_::_,h=>CL.drop n h.2
 |_+1,[],_::_,h=>h.elim
 |_+1,_::_,[],h=>h.elim
theorem CL.take {R:AC->Value->Prop}:∀(n:Nat) {l:List AC} {xs:List Value},CL R l xs->CL R (l.take n) (xs.take n)
 |0,_,_,_=>by simp[CL]
 |_+1,[],[],_=>trivial
 |n+1,_::_,_::_,h=>⟨h.1,CL.take n h.2⟩
 |_+1,[],_::_,h=>h.elim
 |_+1,_::_,[],h=>h.elim
theorem CL.cut {R:AC->Value->Prop} {l:List AC} {xs:List Value} (o m:Nat) (h:CL R l xs):CL R (cut l o m) (cut xs o m):=CL.take m (CL.drop o h)
theorem CL.append {R:AC->Value->Prop}:∀{l l':List AC} {xs xs':List Value},CL R l xs->CL R l' xs'->CL R (l++l') (xs++xs')
 |[],_,[],_,_,h=>h
 |_::_,_,_::_,_,h,h'=>⟨h.1,CL.append h.2 h'⟩
 |[],_,_::_,_,h,_=>h.elim
 |_::_,_,[],_,h,_=>h.elim
theorem CL.splice {R:AC->Value->Prop}:∀{l:List AC} {xs:List Value} (o:Nat) {vs:List AC} {ys:List Value},CL R l xs->CL R vs ys->CL R (splice l o vs) (splice xs o ys)
 |l,xs,o,[],[],h,_=>by cases l<;>cases xs<;>simpa [Bm.splice]using h
 |[],[],o,_::_,_::_,_,_=>by simp[Bm.splice,CL]
 |a::l,x::xs,0,v::vs,y::ys,h,h'=>by simp only[Bm.splice];exact⟨h'.1,CL.splice 0 h.2 h'.2⟩
 |a::l,x::xs,o+1,v::vs,y::ys,h,h'=>by simp only[Bm.splice];exact⟨h.1,CL.splice o h.2 h'⟩
 |[],_::_,_,_,_,h,_=>h.elim
 |_::_,[],_,_,_,h,_=>h.elim
 |_,_,_,[],_::_,_,h=>h.elim
 |_,_,_,_::_,[],_,h=>h.elim
mutual
theorem CP.mono {im im':Nat->Prop} {w w':World} (hi:∀b,im b->im' b) (hb:∀b,im b->w'.heap[b]? =w.heap[b]?):∀(a:AC) (x:Value),CP im w a x->CP im' w' a x
 | .int k n,x,h=>by simpa [CP]using h
 | .bool b,x,h=>by simpa [CP]using h
 | .raw v,x,h=>by simpa [CP]using h
 | .nilSl,x,h=>by simpa [CP]using h
 | .view ks l,x,h=>by
  rw[CP]at h⊢;obtain⟨ad,cap,hx,hle,hk,hf⟩:=h;refine⟨ad,cap,hx,hle,hk,?_⟩;rcases hf with hf|⟨b,o,h1,h2,h3⟩
  ·exact .inl hf
  ·exact .inr ⟨b,o,h1,hi b h2,CPss.mono hi hb _ l b o h2 h3⟩
 | .dead,x,h=>by simp[CP]at h
 | .ptr _ _,x,h=>by simp[CP]at h
 | .own _ _ _,x,h=>by simp[CP]at h
 | .rptr _ _ _,x,h=>by simp[CP]at h
 | .vptr _ _,x,h=>by simp[CP]at h
 | .clo _ _ _,x,h=>by simp[CP]at h
 | .bsl _ _,x,h=>by simp[CP]at h
theorem CPs.mono {im im':Nat->Prop} {w w':World} (hi:∀b,im b->im' b) (hb:∀b,im b->w'.heap[b]? =w.heap[b]?):∀(cs:List AC) (b o:Nat),im b->CPs im w cs b o->CPs im' w' cs b o
 |[],_,_,_,_=>by simp[CPs]
 |c::cs,b,o,him,h=>by
  rw[CPs]at h⊢;obtain⟨⟨y,hy,hc⟩,hr⟩:=h;exact⟨⟨y,(World.cell?_of_block (w:=w) (a:=⟨b,o,none⟩) (hb b him)).trans hy,CP.mono hi hb c y hc⟩,CPs.mono hi hb cs b _ him hr⟩
theorem CPss.mono {im im':Nat->Prop} {w w':World} (hi:∀b,im b->im' b) (hb:∀b,im b->w'.heap[b]? =w.heap[b]?) (wd:Nat):∀(l:List (List AC)) (b o:Nat),im b->CPss im w wd l b o->CPss im' w' wd l b o
 |[],_,_,_,_=>by simp[CPss]
 |c::cs,b,o,him,h=>by
  rw[CPss]at h⊢;exact⟨⟨h.1.1,CPs.mono hi hb c b o him h.1.2⟩,CPss.mono hi hb wd cs b _ him h.2⟩
end
def AC.agreeP (ρ ρ':Env):AC->Prop
 | .ptr key _=>ρ'.bx key=ρ.bx key
 |_=>True
def AC.agree (ρ ρ':Env):AC->Prop
 | .ptr key _=>ρ'.bx key=ρ.bx key
 | .bsl key _=>ρ'.bx key=ρ.bx key
 | .own id _ _=>ρ'.rv id=ρ.rv id/\ρ'.wd id=ρ.wd id
 | .rptr id _ _=>ρ'.rv id=ρ.rv id/\ρ'.wd id=ρ.wd id
 | .clo _ fs cs=>(∀a∈fs,AC.agreeP ρ ρ' a)/\∀a∈cs,AC.agreeP ρ ρ' a
 |_=>True
theorem CLc.mono {ρ ρ':Env} {w w':World} (hi:∀b,ρ.im b->ρ'.im b) (hb:∀b,ρ.im b->w'.heap[b]? =w.heap[b]?):∀(l:List AC) (xs:List Value),(∀a∈l,a.agreeP ρ ρ')->CLc ρ w l xs->CLc ρ' w' l xs
 |[],[],_,_=>trivial
 |a::l,x::xs,hg,h=>by
  refine⟨?_,CLc.mono hi hb l xs (λb hb=>hg b (by simp[hb])) h.2⟩;have ha:=hg a (by simp);have h1:=h.1;cases a<;>first
   |exact CP.mono hi hb _ _ h1
   |(simp only[CCc,AC.agreeP]at*;rw[ha];exact h1)
 |[],_::_,_,h=>h.elim
 |_::_,[],_,h=>h.elim
theorem CC.mono {ρ ρ':Env} {w w':World} (hi:∀b,ρ.im b->ρ'.im b) (hb:∀b,ρ.im b->w'.heap[b]? =w.heap[b]?) (a:AC) (x:Value) (hg:a.agree ρ ρ') (h:CC ρ w a x):CC ρ' w' a x:=by
 cases a with
 |dead=>exact h
 |ptr key off=>simp only[CC,AC.agree]at*;rw[hg];exact h
 |bsl key n=>simp only[CC,AC.agree]at*;rw[hg];exact h
 |own id w n=>simp only[CC,AC.agree]at*;rw[hg.1,hg.2];exact h
 |rptr id idx sub=>simp only[CC,AC.agree]at*;rw[hg.1,hg.2];exact h
 |vptr cs sub=>
  simp only[CC]at*;obtain⟨b,o,h1,h2,h3⟩:=h;exact⟨b,o,h1,hi b h2,CPs.mono hi hb cs b o h2 h3⟩
 |clo f fs cs=>
  simp only[CC,AC.agree]at*;obtain⟨xs,ys,h1,h2,h3⟩:=h;exact⟨xs,ys,h1,CLc.mono hi hb fs _ hg.1 h2,CLc.mono hi hb cs _ hg.2 h3⟩
 |int k n=>exact CP.mono hi hb _ _ h
 |bool b=>exact CP.mono hi hb _ _ h
 |raw v=>exact CP.mono hi hb _ _ h
 |nilSl=>exact CP.mono hi hb _ _ h
 |view ks l=>exact CP.mono hi hb _ _ h
theorem IT {ρ:Env} {w:World} {a:AC} {x:Value} (h:CP ρ.im w a x):CC ρ w a x:=by
 cases a<;>first|exact h|(simp[CP]at h)
theorem Zfo {ρ:Env} {w:World} {a:AC} {x:Value} (hp:a.plain=true) (h:CC ρ w a x):CP ρ.im w a x:=by
 cases a<;>first|exact h|(simp[AC.plain]at hp)
theorem CP.one {im:Nat->Prop} {w:World} {a:AC} {x:Value} (h:CP im w a x):x.oneCell'=true:=by
 cases a<;>simp only[CP]at h
 case int=>subst h;rfl
 case bool=>subst h;rfl
 case raw=>rw[h.1];exact h.2
 case nilSl=>subst h;rfl
 case view=>obtain⟨_,_,rfl,_⟩:=h;rfl
theorem CC.one {ρ:Env} {w:World} {a:AC} {x:Value} (h:CC ρ w a x):x.oneCell'=true:=by
 cases a with
 |dead=>exact h
 |ptr=>simp only[CC]at h;subst h;rfl
 |bsl=>simp only[CC]at h;subst h;rfl
 |own=>obtain⟨_,_,⟨rfl,_⟩|⟨_,_,_,rfl⟩⟩:=h<;>rfl
 |rptr=>obtain⟨_,_,rfl⟩:=h;rfl
 |vptr=>obtain⟨_,_,rfl,_⟩:=h;rfl
 |clo=>obtain⟨_,_,rfl,_⟩:=h;rfl
 |int=>exact CP.one h
 |bool=>exact CP.one h
 |raw=>exact CP.one h
 |nilSl=>exact CP.one h
 |view=>exact CP.one h
theorem Ax {α:Type} {p:α->Bool}:∀{l:List α},Ak p l=true↔∀x∈l,p x=true
 |[]=>by simp[Ak]
 |x::l=>by
  simp only[Ak,aq,forall_eq_or_imp,<-Ax (l:=l)];cases p x<;>simp
theorem Ba {α R:Type}:∀(l:List α) (K:List α->Option R),AR l K=K l
 |[],_=>rfl
 |x::xs,K=>by rw[AR,Ba xs]
theorem B3 {α:Type} (d:α):∀(l:List α) (n:Nat),nth d l n=l.getD n d
 |[],_=>by simp[nth]
 |_::_,0=>by simp[nth]
 |_::xs,n+1=>by simp only[nth,B3 d xs n];simp
theorem H9 {α:Type}:∀(l:List α) (n:Nat) (v:α),setL l n v=l.set n v
 |[],_,_=>by simp[setL]
 |_::_,0,_=>by simp[setL]
 |x::xs,n+1,v=>by simp[setL,H9 xs n v]
section tables
variable {α:Type}
theorem EG:∀(l:List (Nat×α)) (k:Nat) (x y:α),Ac l k=some y->Ac (upd l k x) k=some x
 |[],_,_,_,h=>by simp[Ac]at h
 |(k',b)::l,k,x,y,h=>by
  simp only[Ac,upd]at*;cases hk:Nat.beq k' k
  ·simp only[hk,an,Ac]at*;exact EG l k x y h
  ·simp[Ac,ac hk]
theorem Dc:∀(l:List (Nat×α)) (k j:Nat) (x:α),j≠k->Ac (upd l k x) j=Ac l j
 |[],_,_,_,_=>rfl
 |(k',b)::l,k,j,x,h=>by
  simp only[Ac,upd];cases hk:Nat.beq k' k
  ·simp only[an,Ac,Dc l k j x h]
  ·have e:=ac hk;subst e;have hne:Nat.beq k' j=false:=by
    cases hb:Nat.beq k' j
    ·rfl
    ·exact absurd (ac hb).symm h
   simp[Ac,hne]
theorem EJ:∀(l:List (Nat×α)) (k:Nat) (x:α),Ac l k=none->Ac (ins l k x) k=some x
 |[],k,x,_=>by simp[Ac,ins]
 |(k',b)::l,k,x,h=>by
  simp only[Ac,ins]at*;cases hk:Nat.beq k' k
  ·simp only[hk,an]at h;cases hb:Nat.blt k k'
   ·simp only[an,Ac,hk];exact EJ l k x h
   ·simp[Ac]
  ·simp[hk]at h
theorem DA:∀(l:List (Nat×α)) (k j:Nat) (x:α),j≠k->Ac (ins l k x) j=Ac l j
 |[],k,j,x,h=>by
  have hne:Nat.beq k j=false:=by
   cases hb:Nat.beq k j
   ·rfl
   ·exact absurd (ac hb).symm h
  simp[Ac,ins,hne]
 |(k',b)::l,k,j,x,h=>by
  have hne:Nat.beq k j=false:=by
   cases hb:Nat.beq k j
   ·rfl
   ·exact absurd (ac hb).symm h
  simp only[Ac,ins];cases hb:Nat.blt k k'
  ·simp only[an,Ac,DA l k j x h]
  ·simp[Ac,hne]
theorem SL:∀(l:List (Nat×α)) (k:Nat),Ac (del k l) k=none
 |[],k=>by simp[Ac,del]
 |(k',b)::l,k=>by
  simp only[del];cases hk:Nat.beq k' k
  ·simp only[an,Ac,hk,SL l k]
  ·simp only[ah];exact SL l k
theorem L6:∀(l:List (Nat×α)) (k j:Nat),j≠k->Ac (del k l) j=Ac l j
 |[],_,_,_=>by simp[Ac,del]
 |(k',b)::l,k,j,h=>by
  simp only[del];cases hk:Nat.beq k' k
  ·simp only[an,Ac,L6 l k j h]
  ·have e:=ac hk;subst e;have hne:Nat.beq k' j=false:=by
    cases hb:Nat.beq k' j
    ·rfl
    ·exact absurd (ac hb).symm h
   simp only[ah,Ac,hne,an];exact L6 l k' j h
theorem Mn {l:List (Nat×α)} {k j:Nat} {x:α} (h:Ac (del k l) j=some x):j≠k/\Ac l j=some x:=by
 by_cases hj:j=k
 ·subst hj;rw[SL]at h;cases h
 ·rw[L6 _ _ _ hj]at h;exact⟨hj,h⟩
end tables
open Go.RowKit
section
variable {P:Program} {C:Cfg} {ρ:Env} {w:World} {R:Type}
theorem Z1q {x:Value} (h:x.oneCell'=true):x.cells= #[x]:=by
 cases x<;>first|rfl|(simp[Value.oneCell']at h)
theorem Qxi (v:Value) (h:v.oneCell'=true):CC ρ w (Np v) v:=by
 unfold Np;split<;>first|(simp[CC,CP,Value.oneCell'];done)|exact h
theorem Uo:∀(l:List Value) {cs:List AC},JE l=some cs->CL (CC ρ w) cs l
 |[],cs,h=>by simp[JE]at h;subst h;trivial
 |v::l,cs,h=>by
  simp only[JE]at h;cases hv:v.oneCell'
  ·simp[hv]at h
  ·simp only[hv,ah]at h;split at h
   ·rename_i cs' hc;simp at h;subst h;exact⟨Qxi v hv,Uo l hc⟩
   ·simp at h
theorem Z5g (v:Value):TVR ρ w (ofValue v) v:=by
 unfold ofValue;split
 ·rename_i cs;split
  ·rename_i l hl;exact⟨cs,rfl,Uo _ hl⟩
  ·trivial
 ·trivial
 ·rename_i h1 h2;exact⟨_,rfl,Qxi v (by cases v<;>first|rfl|(exfalso;first|exact h1 _ rfl|exact h2 _ rfl))⟩
theorem TVR.cells {t:TV} {x:Value} {cs:List AC} (h:TVR ρ w t x) (hc:t.cells=some cs):CL (CC ρ w) cs x.cells.toList:=by
 cases t with
 |dead=>simp[TV.cells]at hc
 |tup ps=>simp[TV.cells]at hc
 |v g l=>
  simp[TV.cells]at hc;subst hc;cases g
  ·obtain⟨a,rfl,ha⟩:=h;rw[Z1q ha.one];exact⟨ha,trivial⟩
  ·obtain⟨ys,rfl,hy⟩:=h;exact hy
theorem TVR.c {a:AC} {x:Value} (h:TVR ρ w (.c a) x):CC ρ w a x:=by
 obtain⟨b,hb,hc⟩:=h;simp at hb;subst hb;exact hc
theorem TVR.c' {a:AC} {x:Value} (h:CC ρ w a x):TVR ρ w (.c a) x:=⟨a,rfl,h⟩
theorem TVR.int {k:IntKind} {n:Int} {x:Value} (h:TVR ρ w (.c (.int k n)) x):x= .int k n:=by have:=h.c;simpa [CC,CP]using this
theorem TVR.bool {b:Bool} {x:Value} (h:TVR ρ w (.c (.bool b)) x):x= .bool b:=by have:=h.c;simpa [CC,CP]using this
theorem TVR.mkInt (k:IntKind) (n:Int):TVR ρ w (.c (.int k n)) (.int k n):=TVR.c' (by simp[CC,CP])
theorem TVR.mkBool (b:Bool):TVR ρ w (.c (.bool b)) (.bool b):=TVR.c' (by simp[CC,CP])
theorem TVR.agg {cs:List AC} {x:Value} (h:TVR ρ w (.agg cs) x):∃ys:Array Value,x= .agg ys/\CL (CC ρ w) cs ys.toList:=h
def RowC (im:Nat->Prop) (w:World) (ks:List Kd) (l:List (List AC)) (xs:List Value):Prop:=
 xs.length=l.length*ks.length/\(∀c∈l,AN ks c=c)/\∀i c,l[i]? =some c->CL (CP im w) c (cut xs (i*ks.length) ks.length)
theorem NV {k k':IntKind} (h:kEq k k'=true):k=k':=by cases k<;>cases k'<;>first|rfl|(simp[kEq]at h)
mutual
theorem Zv9:∀{k k':Kd},ES k k'=true->k=k'
 | .int k, .int k',h=>by rw[ES]at h;rw[NV h]
 | .bool, .bool,_=>rfl
 | .sl ks, .sl ks',h=>by rw[ES]at h;rw[I7 h]
 | .raw, .raw,_=>rfl
 | .int _, .bool,h=>by simp[ES]at h
 | .int _, .sl _,h=>by simp[ES]at h
 | .int _, .raw,h=>by simp[ES]at h
 | .bool, .int _,h=>by simp[ES]at h
 | .bool, .sl _,h=>by simp[ES]at h
 | .bool, .raw,h=>by simp[ES]at h
 | .sl _, .int _,h=>by simp[ES]at h
 | .sl _, .bool,h=>by simp[ES]at h
 | .sl _, .raw,h=>by simp[ES]at h
 | .raw, .int _,h=>by simp[ES]at h
 | .raw, .bool,h=>by simp[ES]at h
 | .raw, .sl _,h=>by simp[ES]at h
theorem I7:∀{ks ks':List Kd},C6 ks ks'=true->ks=ks'
 |[],[],_=>rfl
 |k::ks,k'::ks',h=>by
  rw[C6]at h;cases hk:ES k k'
  ·rw[hk]at h;simp at h
  ·rw[hk]at h;simp only[ah]at h;rw[Zv9 hk,I7 h]
 |[],_::_,h=>by simp[C6]at h
 |_::_,[],h=>by simp[C6]at h
end
theorem RO {im:Nat->Prop} (ks:List Kd):CP im w (.view ks []) (.slice none 0 0):=by
 rw[CP];exact⟨none,0,rfl,co _,by simp, .inl rfl⟩
theorem Zza {k:Kd} {a a':AC} {x:Value} (h:Yi k a=some a') (hc:CC ρ w a x):CP ρ.im w a' x/\LU k a'=a':=by
 cases k<;>cases a<;>simp only[Yi]at h<;>try (simp at h;done)
 case int.int k k' n=>
  cases hk:kEq k k'<;>rw[hk]at h
  ·simp at h
  ·simp at h;subst h;rw[<-NV hk]at hc;exact⟨hc,rfl⟩
 case bool.bool b=>simp at h;subst h;exact⟨hc,rfl⟩
 case sl.nilSl ks=>
  simp at h;subst h;simp only[CC,CP]at hc;subst hc;exact⟨RO ks,rfl⟩
 case sl.view ks ks' l=>
  cases hk:C6 ks ks'<;>rw[hk]at h
  ·simp at h
  ·simp at h;subst h;rw[<-I7 hk]at hc;exact⟨hc,rfl⟩
 case raw.raw v=>simp at h;subst h;exact⟨hc,rfl⟩
theorem Zjl {α:Type} (d:α) (x:α) (l:List α) (n:Nat):nth d (x::l) (n+1)=nth d l n:=rfl
theorem Qz5 (a:AC):∀(ks:List Kd) (cs:List AC) (j:Nat),EL ks (a::cs) (j+1)=EL ks cs j
 |[],_,_=>rfl
 |k::ks,cs,j=>by rw[EL,EL,Zjl,Qz5 a ks cs (j+1)]
theorem Qm8 (k:Kd) (ks:List Kd) (a:AC) (cs:List AC):AN (k::ks) (a::cs)=LU k a::AN ks cs:=by
 show LU k a::EL ks (a::cs) 1=_;rw[Qz5];rfl
theorem RW:∀{ks:List Kd} {cs cs':List AC} {xs:List Value},Iz ks cs=some cs'->CL (CC ρ w) cs xs->CL (CP ρ.im w) cs' xs/\AN ks cs'=cs'
 |[],[],cs',xs,h,hc=>by
  simp[Iz]at h;subst h;cases xs with
  |nil=>exact⟨trivial,rfl⟩
  |cons=>exact hc.elim
 |k::ks,a::cs,cs',xs,h,hc=>by
  simp only[Iz]at h;split at h
  ·rename_i a' ha;split at h
   ·rename_i l hl;simp at h;subst h;cases xs with
    |nil=>exact hc.elim
    |cons x xs=>
     obtain⟨h1,h2⟩:=Zza ha hc.1;obtain⟨h3,h4⟩:=RW hl hc.2;exact⟨⟨h1,h3⟩,by rw[Qm8,h2,h4]⟩
   ·simp at h
  ·simp at h
 |[],_::_,_,_,h,_=>by simp[Iz]at h
 |_::_,[],_,_,h,_=>by simp[Iz]at h
def Jn (P:Program) (ρ:Env) (w:World) (e:Operand->Value) (o:Oper):Prim->Prop
 | .val v=>∃x,(execOp e o).run P w= .ok (.value x) w/\TVR ρ w v x
 | .load g sz key off=>∃t,Cx P t=some g/\szT P t=some sz/\
   (execOp e o).run P w=((loadVar t ⟨ρ.bx key,off,none⟩).run P w).andThen λv w'=> .ok (.value v) w'
 | .rload g sz id idx sub=>∃t b,Cx P t=some g/\szT P t=some sz/\(ρ.rv id).ownBlock=some b/\
   (execOp e o).run P w=((loadVar t ⟨b,HI (ρ.rv id)+(idx*ρ.wd id+sub),none⟩).run P w).andThen λv w'=> .ok (.value v) w'
 | .store key off cs=>∃t x,szT P t=some cs.length/\CL (CC ρ w) cs x.cells.toList/\
   (execOp e o).run P w=((storeVar t ⟨ρ.bx key,off,none⟩ x).run P w).andThen λ_ w'=> .ok .skip w'
 | .rstore id idx sub cs=>∃t x b,szT P t=some cs.length/\CL (CC ρ w) cs x.cells.toList/\(ρ.rv id).ownBlock=some b/\
   (execOp e o).run P w=((storeVar t ⟨b,HI (ρ.rv id)+(idx*ρ.wd id+sub),none⟩ x).run P w).andThen λ_ w'=> .ok .skip w'
 | .new ty cs=>∃arr:Array Value,CL (CC ρ w) cs arr.toList/\(execOp e o).run P w= .ok (.value (.pointer (some ⟨w.heap.size,0,none⟩))) (w.alloc (.cells arr ty))
 | .cutR id a=>∀ad n cap,ρ.rv id= .slice ad n cap->n<=cap->a<=n->(execOp e o).run P w= .ok (.value (.slice (if cap=a then ad else ad.map (·.add (a*ρ.wd id))) (n-a) (cap-a))) w
 | .newS ty n cs=>∃arr:Array Value,CL (CC ρ w) cs arr.toList/\(execOp e o).run P w= .ok (.value (.slice (some ⟨w.heap.size,0,none⟩) n n)) (w.alloc (.cells arr ty))
 | .newRow el ks l=>∃arr:Array Value,0<ks.length/\l.length<=maxLen/\RowC ρ.im w ks l arr.toList/\
   (execOp e o).run P w= .ok (.value (.slice (some ⟨w.heap.size,0,none⟩) l.length l.length)) (w.alloc (.cells arr el))
 | .newView el ks l=>∃arr:Array Value,0<ks.length/\l.length<=maxLen/\RowC ρ.im w ks l arr.toList/\
   (execOp e o).run P w= .ok (.value (.slice (some ⟨w.heap.size,0,none⟩) l.length l.length)) (w.alloc (.cells arr el))
 | .make el ks bytes n z=>∃t i zv kl kc,P.underlying t=some (.slice el)/\P.info? el=some i/\i.zero=some zv/\i.size=ks.length/\i.bytes=bytes/\0<ks.length/\0<bytes/\AN ks z=z/\CL (CP ρ.im w) z zv.cells.toList/\
   (execOp e o).run P w=((Instr.makeSlice t (.int kl n) (.int kc n)).run P w).andThen λv w'=> .ok (.value v) w'
 | .append el ks bytes s x=>∃t ty i z sv xv,P.underlying t=some (.slice el)/\P.info? el=some i/\i.zero=some z/\i.size=ks.length/\i.bytes=bytes/\z.cells.size=ks.length/\CC ρ w s sv/\CC ρ w x xv/\
   (execOp e o).run P w=((Builtin.append_ #[t,t] ty #[sv,xv]).run P w).andThen λv w'=> .ok (.value v) w'
 | .appD el ks bytes s x=>∃t ty i z sv xv,P.underlying t=some (.slice el)/\P.info? el=some i/\i.zero=some z/\i.size=ks.length/\i.bytes=bytes/\z.cells.size=ks.length/\CC ρ w s sv/\CC ρ w x xv/\
   (execOp e o).run P w=((Builtin.append_ #[t,t] ty #[sv,xv]).run P w).andThen λv w'=> .ok (.value v) w'
 | .callM f args=>∃xs:List Value,xs.length=args.length/\(∀(i:Nat) (a:TV) (x:Value),args[i]? =some a->xs[i]? =some x->TVR ρ w a x)/\execOp e o=callFunc f xs.toArray
 | .callF f args=>∃xs:List Value,xs.length=args.length/\(∀(i:Nat) (a:TV) (x:Value),args[i]? =some a->xs[i]? =some x->TVR ρ w a x)/\execOp e o=callFunc f xs.toArray
 | .callD f args=>∃xs:List Value,xs.length=args.length/\(∀(i:Nat) (a:TV) (x:Value),args[i]? =some a->xs[i]? =some x->TVR ρ w a x)/\execOp e o=callFunc f xs.toArray
 | .call f args=>∃xs:List Value,xs.length=args.length/\(∀(i:Nat) (a:TV) (x:Value),args[i]? =some a->xs[i]? =some x->TVR ρ w a x)/\execOp e o=callFunc f xs.toArray
theorem Zos {t:TypeId} {n:Nat} (h:szT P t=some n):∃i,P.info? t=some i/\i.size=n:=by
 unfold szT at h;split at h
 ·rename_i i hi;simp at h;exact⟨i,hi,h⟩
 ·simp at h
theorem D5 {t:TypeId} {n:Nat} (h:szT P t=some n) (w:World):(sizeOf t).run P w= .ok n w:=by
 obtain⟨i,hi,rfl⟩:=Zos h;simp[sizeOf,typeInfo,hi]
theorem NW {t:TypeId} {g:Bool} (h:Cx P t=some g) (w:World):(isAgg t).run P w= .ok g w:=by
 unfold Cx at h;split at h
 ·rename_i fs hu;simp at h;subst h;simp[isAgg,run_underlying hu]
 ·rename_i n e hu;simp at h;subst h;simp[isAgg,run_underlying hu]
 ·rename_i d h1 h2 hu;simp at h;subst h;simp only[isAgg,Sem.run_bind,run_underlying hu,cg];cases d<;>first|rfl|(exfalso;first|exact h1 _ rfl|exact h2 _ _ rfl)
 ·simp at h
theorem UD {t:TypeId} {cs:List AC} (h:JB P t=some cs):∃v,(∀w,(zeroValue t).run P w= .ok v w)/\CL (CC ρ w) cs v.cells.toList:=by
 unfold JB at h;split at h
 ·rename_i i hi;split at h
  ·rename_i v hv;exact⟨v,λw=>by simp[zeroValue,typeInfo,hi,hv],Uo _ h⟩
  ·simp at h
 ·simp at h
theorem Gq {im:Nat->Prop} {w:World} (k:IntKind) (n:Int):CP im w (.int k n) (.int k n):=by simp[CP]
theorem Qvq {im:Nat->Prop} {w:World} (b:Bool):CP im w (.bool b) (.bool b):=by simp[CP]
theorem Zpd (op:BinOp) (t:TypeId) (k:IntKind) (a b:Int) (K:AC->Option R) {r:R} (h:GP op k a b K=some r):
  ∃c x,K c=some r/\CP ρ.im w c x/\(binOp op t (.int k a) (.int k b)).run P w= .ok x w:=by
 cases op<;>simp only[GP]at h
 case quo=>
  cases hb:decide (b=0)
  ·rw[hb]at h;simp only[an]at h;have hb': ¬b=0:=by simpa using hb
   exact⟨_,_,h,Gq _ _,by simp[binOp_quo,Op.intDiv,hb']⟩
  ·rw[hb]at h;simp at h
 case rem=>
  cases hb:decide (b=0)
  ·rw[hb]at h;simp only[an]at h;have hb': ¬b=0:=by simpa using hb
   exact⟨_,_,h,Gq _ _,by simp[binOp_rem,Op.intDiv,hb']⟩
  ·rw[hb]at h;simp at h
 case shl=>
  cases hb:decide (b<0)
  ·rw[hb]at h;simp only[an]at h;have hb': ¬b<0:=by simpa using hb
   exact⟨_,_,h,Gq _ _,by simp[binOp_shl,Op.shift,hb']⟩
  ·rw[hb]at h;simp at h
 case shr=>
  cases hb:decide (b<0)
  ·rw[hb]at h;simp only[an]at h;have hb': ¬b<0:=by simpa using hb
   exact⟨_,_,h,Gq _ _,by simp[binOp_shr,Op.shift,hb']⟩
  ·rw[hb]at h;simp at h
 case and=>exact⟨_,_,h,Gq _ _,by rw[binOp_and];rfl⟩
 case or=>exact⟨_,_,h,Gq _ _,by rw[binOp_or];rfl⟩
 case xor=>exact⟨_,_,h,Gq _ _,by rw[binOp_xor];rfl⟩
 case andNot=>exact⟨_,_,h,Gq _ _,by rw[binOp_andNot];rfl⟩
 all_goals first|exact⟨_,_,h,Gq _ _,by simp[go_sem]⟩|exact⟨_,_,h,Qvq _,by simp[go_sem]⟩
theorem Zo0 {op:BinOp} (hs:O6 op=true) (t:TypeId) (k k':IntKind) (a b:Int) (K:AC->Option R) {r:R} (h:GP op k a b K=some r):
  ∃c x,K c=some r/\CP ρ.im w c x/\(binOp op t (.int k a) (.int k' b)).run P w= .ok x w/\op≠ .eql/\op≠ .neq:=by
 cases op<;>simp[O6]at hs<;>simp only[GP]at h
 case shl=>
  cases hb:decide (b<0)
  ·rw[hb]at h;simp only[an]at h;have hb': ¬b<0:=by simpa using hb
   exact⟨_,_,h,Gq _ _,by simp[binOp_shl,Op.shift,hb'],by simp,by simp⟩
  ·rw[hb]at h;simp at h
 case shr=>
  cases hb:decide (b<0)
  ·rw[hb]at h;simp only[an]at h;have hb': ¬b<0:=by simpa using hb
   exact⟨_,_,h,Gq _ _,by simp[binOp_shr,Op.shift,hb'],by simp,by simp⟩
  ·rw[hb]at h;simp at h
theorem HO {i:Int}:∀{n k:Nat} {K:Nat->Option R} {r:R},GC i n k K=some r->∃j,K j=some r/\i=(j:Int)/\k<=j/\j<k+n
 |0,_,_,_,h=>by simp[GC]at h
 |n+1,k,K,r,h=>by
  rw[GC]at h;cases hd:decide (i=(k:Int))
  ·rw[hd]at h;simp only[an]at h;obtain⟨j,h1,h2,h3,h4⟩:=HO h;exact⟨j,h1,h2,by omega,by omega⟩
  ·rw[hd]at h;simp only[ah]at h;exact⟨k,h,by simpa using hd,by omega,by omega⟩
theorem Q5m {g:Bool} {sz:Nat} {cells:List AC} {off:Nat} {v:TV} {xs:List Value} (h:DE g sz cells off=some v) (hc:CL (CC ρ w) cells xs):
  match g with
  |true=>off+sz<=xs.length/\TVR ρ w v (.agg (cut xs off sz).toArray)
  |false=>∃x,xs[off]? =some x/\TVR ρ w v x:=by
 cases g
 ·simp only[DE,an]at h;split at h
  ·rename_i a ha;simp at h;subst h;obtain⟨x,hx,hr⟩:=hc.get ha;exact⟨x,hx,TVR.c' hr⟩
  ·simp at h
 ·simp only[DE,ah]at h;cases hb:Nat.ble (off+sz) cells.length
  ·rw[hb]at h;simp at h
  ·rw[hb]at h;simp at h;subst h;exact⟨by rw[<-hc.length];exact az hb,⟨_,rfl,by simpa using hc.cut off sz⟩⟩
theorem Q6x {t:TypeId} {cs:List AC} {off:Nat} {v:TV} {ys:Array Value} (h:NZ P t cs off=some v) (hc:CL (CC ρ w) cs ys.toList):
  ∃x,(part t ys off).run P w= .ok x w/\TVR ρ w v x:=by
 unfold NZ at h;split at h
 ·rename_i g sz hg hs;have hp:=Q5m h hc;cases g
  ·obtain⟨x,hx,hr⟩:=hp;refine⟨x,?_,hr⟩;have hx':ys[off]? =some x:=by simpa using hx
   simp[part,NW hg,hx']
  ·obtain⟨hle,hr⟩:=hp;refine⟨_,?_,hr⟩;simp only[part,Sem.run_bind,NW hg,cg,if_true,D5 hs,Sem.run_pure];congr 2;apply Array.ext';simp[cut]
 ·simp at h
theorem CL.plain {l:List AC} {xs:List Value} (hp:Ak AC.plain l=true) (h:CL (CC ρ w) l xs):CL (CP ρ.im w) l xs:=
 h.mono λa ha _ hx=>Zfo (Ax.1 hp a ha) hx
end
open Go.RowKit
section
variable {P:Program} {ρ:Env} {w:World}
def Fp (P:Program) (ρ:Env) (w:World) (t:TypeId) (cs:List AC) (x:Value):Prop:=
 match Cx P t with
 |some true=>∃ys:Array Value,x= .agg ys/\CL (CC ρ w) cs ys.toList
 |some false=>∃a,cs=[a]/\CC ρ w a x
 |none=>False
theorem UB {t:TypeId} {n:Nat} {cs:List AC} {off:Nat} {ys:Array Value} (hn:szT P t=some n) (hg:Cx P t≠none) (hc:CL (CC ρ w) cs ys.toList) (hle:off+n<=cs.length)
  (h1:Cx P t=some false->n=1):∃x,(part t ys off).run P w= .ok x w/\Fp P ρ w t (cut cs off n) x:=by
 cases hg':Cx P t with
 |none=>exact absurd hg' hg
 |some g=>
  cases g
  ·have hn1:=h1 hg';subst hn1;have hlt:off<cs.length:=by omega
   obtain⟨x,hx,hr⟩:=hc.get (ai hlt);have hx':ys[off]? =some x:=by simpa using hx
   refine⟨x,by simp[part,NW hg',hx'],?_⟩;unfold Fp;rw[hg'];refine⟨cs[off],?_,hr⟩;simp only[cut,List.drop_eq_getElem_cons hlt,List.take_succ_cons,List.take_zero]
  ·refine⟨.agg (ys.extract off (off+n)),by simp[part,NW hg',D5 hn],?_⟩;unfold Fp;rw[hg'];refine⟨_,rfl,?_⟩;have:=hc.cut off n;simpa [cut]using this
theorem Qte {ok:List TypeId} {d D:Nat} {xs ys:List AC} {X Y:Array Value}
  (ih:∀(t:TypeId) (as bs:List AC) (r:Bool) (A B:Value),eqC P ok d t as bs=some r->Fp P ρ w t as A->Fp P ρ w t bs B->(Op.equalIn D t A B).run P w= .ok r w)
  (hX:CL (CC ρ w) xs X.toList) (hY:CL (CC ρ w) ys Y.toList):∀(fs:List Field) (r:Bool),
  Jg (λf : Field => bif f.name == "_" then none else match szT P f.type with
    |some n=>bif(Nat.ble (f.offset+n) xs.length&&Nat.ble (f.offset+n) ys.length&&IF P f.type n)then eqC P ok d f.type (cut xs f.offset n) (cut ys f.offset n)else none
    |none=>none) fs=some r->
  (Op.eqFields D X Y fs).run P w= .ok r w
 |[],r,h=>by simp[Jg]at h;subst h;simp[Op.eqFields]
 |f::fs,r,h=>by
  simp only[Jg]at h;split at h
  ·rename_i b hb;split at h
   ·rename_i b' hb';simp at h;subst h;have ht:=Qte ih hX hY fs b' hb';cases hnm:f.name== "_"
    ·rw[hnm]at hb;simp only[an]at hb;split at hb
     ·rename_i n hn;cases hle:(Nat.ble (f.offset+n) xs.length&&Nat.ble (f.offset+n) ys.length&&IF P f.type n)
      ·rw[hle]at hb;simp at hb
      ·rw[hle]at hb;simp only[ah]at hb;simp only[aj]at hle;obtain⟨⟨h1,h2⟩,h3⟩:=hle;have h1':=az h1;have h2':=az h2;have hg:Cx P f.type≠none:=by intro e;simp[IF,e]at h3
       have ho:Cx P f.type=some false->n=1:=by intro e;simp[IF,e]at h3;exact h3
       obtain⟨A,hA,vA⟩:=UB hn hg hX h1' ho;obtain⟨B,hB,vB⟩:=UB hn hg hY h2' ho;have he:=ih f.type _ _ b A B hb vA vB;have hne:f.name≠ "_" :=by simpa using hnm
       simp only[Op.eqFields,hne,ne_eq,not_false_eq_true,if_true,Sem.run_bind,hA,cg,hB,he];cases b
       ·simp
       ·simpa using ht
     ·simp at hb
    ·rw[hnm]at hb;simp at hb
   ·simp at h
  ·simp at h
theorem Q4y {ok:List TypeId} {d D e m:Nat} {xs ys:List AC} {X Y:Array Value}
  (ih:∀(t:TypeId) (as bs:List AC) (r:Bool) (A B:Value),eqC P ok d t as bs=some r->Fp P ρ w t as A->Fp P ρ w t bs B->(Op.equalIn D t A B).run P w= .ok r w)
  (hX:CL (CC ρ w) xs X.toList) (hY:CL (CC ρ w) ys Y.toList) (hm:szT P e=some m) (h3:IF P e m=true):∀(l:List Nat) (r:Bool),
  (∀i∈l,i*m+m<=xs.length/\i*m+m<=ys.length)->
  Jg (λi=>eqC P ok d e (cut xs (i*m) m) (cut ys (i*m) m)) l=some r->
  ((forIn l ((none : Option Bool), PUnit.unit) λi _ => do
    let a<-part e X (i*m)
    let b<-part e Y (i*m)
    let q<-Op.equalIn D e a b
    if(!q)=true then pure (ForInStep.done (some false,PUnit.unit))else pure (ForInStep.yield (none,PUnit.unit)):Sem (Option Bool×PUnit))>>=λs=>match s.1 with
     |none=>pure true
     |some a=>pure a).run P w= .ok r w
 |[],r,_,h=>by simp[Jg]at h;subst h;simp
 |i::l,r,hl,h=>by
  simp only[Jg]at h;split at h
  ·rename_i b hb;split at h
   ·rename_i b' hb';simp at h;subst h;have ht:=Q4y ih hX hY hm h3 l b' (λj hj=>hl j (by simp[hj])) hb';have hg:Cx P e≠none:=by intro q;simp[IF,q]at h3
    have ho:Cx P e=some false->m=1:=by intro q;simp[IF,q]at h3;exact h3
    obtain⟨A,hA,vA⟩:=UB hm hg hX (hl i (by simp)).1 ho;obtain⟨B,hB,vB⟩:=UB hm hg hY (hl i (by simp)).2 ho;have he:=ih e _ _ b A B hb vA vB;rw[List.forIn_cons];simp only[Sem.run_bind,hA,cg,hB,he];cases b
    ·simp
    ·simp only[Sem.run_bind]at ht;simpa using ht
   ·simp at h
  ·simp at h
theorem Qyb {ok:List TypeId} (hok:∀t∈ok,P.stoodInHeld t=false):∀(d D:Nat),d<=D->∀(t:TypeId) (as bs:List AC) (r:Bool) (A B:Value),
  eqC P ok d t as bs=some r->Fp P ρ w t as A->Fp P ρ w t bs B->(Op.equalIn D t A B).run P w= .ok r w
 |0,_,_,t,as,bs,r,A,B,h,_,_=>by simp[eqC]at h
 |d+1,0,hd,_,_,_,_,_,_,_,_,_=>by omega
 |d+1,D+1,hd,t,as,bs,r,A,B,h,vA,vB=>by
  have ih:=Qyb hok d D (by omega);simp only[eqC]at h;split at h
  ·rename_i hu;have hg:Cx P t=some false:=by simp[Cx,hu]
   simp only[Fp,hg]at vA vB;obtain⟨a,rfl,ca⟩:=vA;obtain⟨b,rfl,cb⟩:=vB;split at h
   ·rename_i x y h1 h2;simp at h h1 h2;subst h1 h2 h;have e1:A= .bool x:=by simpa [CC,CP]using ca
    have e2:B= .bool y:=by simpa [CC,CP]using cb
    subst e1 e2;exact run_equalIn_bool' w D t x y hu
   ·simp at h
  ·rename_i k0 hu;have hg:Cx P t=some false:=by simp[Cx,hu]
   simp only[Fp,hg]at vA vB;obtain⟨a,rfl,ca⟩:=vA;obtain⟨b,rfl,cb⟩:=vB;split at h
   ·rename_i k x k' y h1 h2;simp at h1 h2;subst h1 h2;cases hk:kEq k k'
    ·rw[hk]at h;simp at h
    ·rw[hk]at h;have:=NV hk;subst this;simp at h;subst h;have e1:A= .int k x:=by simpa [CC,CP]using ca
     have e2:B= .int k y:=by simpa [CC,CP]using cb
     subst e1 e2;exact run_equalIn_int w D t k k0 x y hu
   ·simp at h
  ·rename_i fs hu;have hg:Cx P t=some true:=by simp[Cx,hu]
   simp only[Fp,hg]at vA vB;obtain⟨X,rfl,hX⟩:=vA;obtain⟨Y,rfl,hY⟩:=vB;cases hel:ok.elem t
   ·rw[hel]at h;simp at h
   ·rw[hel]at h;simp only[ah]at h;have hfo:P.fieldsOf t=fs:=by simp[Program.fieldsOf,hu]
    rw[run_equalIn_struct w D t X Y (by rw[hfo];exact hu) (hok t (by simpa using hel)),hfo];exact Qte ih hX hY fs.toList r h
  ·rename_i n e hu;have hg:Cx P t=some true:=by simp[Cx,hu]
   simp only[Fp,hg]at vA vB;obtain⟨X,rfl,hX⟩:=vA;obtain⟨Y,rfl,hY⟩:=vB;split at h
   ·rename_i m hm;cases hle:(Nat.ble (n*m) as.length&&Nat.ble (n*m) bs.length&&IF P e m)
    ·rw[hle]at h;simp at h
    ·rw[hle]at h;simp only[ah]at h;simp only[aj]at hle;obtain⟨⟨h1,h2⟩,h3⟩:=hle;have h1':=az h1;have h2':=az h2;have hr := Q4y (P := P) (ρ := ρ) (w := w) (D := D) (X := X) (Y := Y) ih hX hY hm h3 (List.range n) r (λi hi => by
      have hi':i<n:=by simpa using hi
      have:i*m+m<=n*m:=by
       calc i*m+m=(i+1)*m:=by rw[Nat.add_mul,Nat.one_mul]
        _<=n*m:=be _ hi'
      omega) h
     simp only[Op.equalIn,Sem.run_bind,run_underlying hu,cg,D5 hm];rw[Std.Legacy.Range.forIn_eq_forIn_range'];have hrg:List.range' [:n].start [:n].size [:n].step=List.range n:=by
      simp[Std.Legacy.Range.size,List.range_eq_range']
     rw[hrg];simp only[Sem.run_bind]at hr;rw[<-hr];congr 1
     funext a w'
     cases a.1<;>rfl
   ·simp at h
  ·simp at h
end
open Go.RowKit
section
variable {P:Program} {C:Cfg} {ρ:Env} {w:World} {R:Type}
theorem RA {ev:Operand->TV} {e:Operand->Value} (hev:∀x,TVR ρ w (ev x) (e x)):∀(l:List Operand),(CQ ev l).length=(l.map e).length/\
  ∀(i:Nat) (a:TV) (x:Value),(CQ ev l)[i]? =some a->(l.map e)[i]? =some x->TVR ρ w a x
 |[]=>⟨rfl,λi a x h=>by simp[CQ]at h⟩
 |o::l=>⟨by simp[CQ,(RA hev l).1],λi a x h h'=>by
   cases i with
   |zero=>simp[CQ]at h h';subst h h';exact hev o
   |succ i=>simp[CQ]at h h';exact(RA hev l).2 i a x (by simpa using h) (by simpa using h')⟩
theorem QI {α:Type} (l:List α) (o:Nat):splice l o []=l:=by cases l<;>simp[splice]
theorem Lu {α:Type}:∀(l:List α) (o:Nat) (vs:List α),(splice l o vs).length=l.length
 |[],_,[]=>by simp[splice]
 |[],_,_::_=>by simp[splice]
 |_::_,_,[]=>by simp[splice]
 |_::l,0,v::vs=>by simp[splice,Lu l 0 vs]
 |_::l,o+1,v::vs=>by simp[splice,Lu l o (v::vs)]
theorem Qyx {α:Type} (v:α) (vs:List α):∀(l:List α) (o:Nat),o<l.length->splice (l.set o v) (o+1) vs=splice l o (v::vs)
 |[],o,h=>by simp at h
 |y::l,0,_=>by
  cases vs with
  |nil=>simp[QI,splice]
  |cons u us=>simp[splice]
 |y::l,o+1,h=>by
  have ih:=Qyx v vs l o (by simpa using h);cases vs with
  |nil=>simp only[QI]at*;simp[splice,ih]
  |cons u us=>simp only[List.set_cons_succ,splice];rw[ih]
theorem Q8v (off:Nat):∀(vs:List Value) (k:Nat) (xs:Array Value),off+k+vs.length<=xs.size->
  ((vs.zipIdx k).foldl (λcs (c,j)=>cs.setIfInBounds (off+j) c) xs).toList=splice xs.toList (off+k) vs
 |[],k,xs,_=>by simp[QI]
 |v::vs,k,xs,h=>by
  simp only[List.zipIdx_cons,List.foldl_cons];rw[Q8v off vs (k+1) _ (by simp at h⊢;omega),Array.toList_setIfInBounds,<-Qyx v vs xs.toList (off+k) (by simp at h⊢;omega),Nat.add_assoc]
theorem Tr {place:Nat->Option (Nat×Nat)} {ev:Operand->TV} {e:Operand->Value} (hev:∀x,TVR ρ w (ev x) (e x)):∀(parts:List (Nat×Operand)) (z cs:List AC) (xs:Array Value),
  CL (CC ρ w) z xs.toList->ID place z (Gn ev parts)=some cs->
  ∃ys:Array Value,Instr.fill place xs (parts.map λp=>(p.1,e p.2))=some ys/\CL (CC ρ w) cs ys.toList/\ys.size=xs.size
 |[],z,cs,xs,hz,h=>by simp[Gn,ID]at h;subst h;exact⟨xs,rfl,hz,rfl⟩
 |(i,o)::parts,z,cs,xs,hz,h=>by
  simp only[Gn,ID]at h;split at h
  ·rename_i off size l hp hl;have hcl:=(hev o).cells hl;cases hb:(Nat.beq l.length size&&Nat.ble (off+size) z.length)
   ·rw[hb]at h;simp at h
   ·rw[hb]at h;simp only[ah]at h;simp only[aj]at hb;have e1:l.length=size:=ac hb.1;have e2:=az hb.2;have e3:=hcl.length;have e4:=hz.length;have hsz:(e o).cells.size=size:=by rw[<-e1,e3];simp
    have e5:off+(e o).cells.size<=xs.size:=by rw[hsz,<-Array.length_toList,<-e4];exact e2
    have hfs:=Q8v off (e o).cells.toList 0 xs (by simp;omega);have hfo:((e o).cells.zipIdx.foldl (λcs (c,j)=>cs.setIfInBounds (off+j) c) xs).toList=splice xs.toList (off+0) (e o).cells.toList:=by
     rw[<-Array.foldl_toList,Array.toList_zipIdx];exact hfs
    obtain⟨ys,h1,h2,h3⟩:=Tr hev parts _ _ _ (by rw[hfo];exact hz.splice _ hcl) h;refine⟨ys,?_,h2,?_⟩
    ·simp only[bf,Instr.fill,hp];rw[ab (by simp only[Bool.or_eq_true,bz,not_or];exact⟨λhh=>hh hsz,by omega⟩)];exact h1
    ·rw[h3,<-Array.length_toList,hfo,Lu,Array.length_toList]
  ·simp at h
theorem Qsg {ks:List Kd}:∀(n:Nat) (cs:List AC) (l:List (List AC)) (xs:List Value),H_ ks n cs=some l->CL (CC ρ w) cs xs->l.length=n/\xs.length=n*ks.length->RowC ρ.im w ks l xs
 |0,cs,l,xs,h,hc,hl=>by
  cases cs with
  |nil=>
   simp[H_]at h;subst h;exact⟨by simpa using hl.2,by simp,λi c hi=>by simp at hi⟩
  |cons=>simp[H_]at h
 |n+1,cs,l,xs,h,hc,hl=>by
  simp only[H_]at h;split at h
  ·rename_i c hcc;split at h
   ·rename_i l' hl';simp at h;subst h;have h1:=RW hcc (hc.take ks.length);have hxl:xs.length=n*ks.length+ks.length:=by rw[hl.2,Nat.add_mul,Nat.one_mul]
    have ih:=Qsg n _ l' (xs.drop ks.length) hl' (hc.drop ks.length) ⟨by simpa using hl.1,by simp[hxl]⟩;refine⟨by rw[hl.2];simp at hl⊢;rw[hl.1],?_,?_⟩
    ·intro c' hc';simp only[aq]at hc';rcases hc' with rfl|hc'
     ·exact h1.2
     ·exact ih.2.1 c' hc'
    ·intro i c' hi;cases i with
     |zero=>simp at hi;subst hi;simpa [cut]using h1.1
     |succ i=>
      have:=ih.2.2 i c' (by simpa using hi);have e:cut (xs.drop ks.length) (i*ks.length) ks.length=cut xs ((i+1)*ks.length) ks.length:=by
       simp only[cut,List.drop_drop];rw[Nat.add_mul,Nat.one_mul,Nat.add_comm]
      rw[<-e];exact this
   ·simp at h
  ·simp at h
theorem Q8j {ks:List Kd}:∀(n:Nat) (cs:List AC) (l:List (List AC)),H_ ks n cs=some l->l.length=n
 |0,[],l,h=>by simp[H_]at h;subst h;rfl
 |0,_::_,l,h=>by simp[H_]at h
 |n+1,cs,l,h=>by
  simp only[H_]at h;split at h
  ·split at h
   ·rename_i l' hl';simp at h;subst h;simp[Q8j n _ l' hl']
   ·simp at h
  ·simp at h
theorem Qy0 {z:List AC} {v:List Value} (hz:CL (CC ρ w) z v):∀n,CL (CC ρ w) (LO z n) ((List.replicate n v).flatten)
 |0=>trivial
 |n+1=>by rw[LO,List.replicate_succ,List.flatten_cons];exact hz.append (Qy0 hz n)
theorem Q46 (v:List Value) (hv:0<v.length):∀(n j:Nat),j<n*v.length->(List.replicate n v).flatten[j]? =v[j%v.length]?
 |0,j,h=>by simp at h
 |n+1,j,h=>by
  rw[List.replicate_succ,List.flatten_cons,List.getElem?_append];split
  ·rename_i hlt;rw[Nat.mod_eq_of_lt hlt]
  ·rename_i hge;have hge':v.length<=j:=by omega
   rw[Q46 v hv n (j-v.length) (by rw[Nat.add_mul]at h;omega),Nat.mod_eq_sub_mod hge']
def Qom (e:Operand->Value):Option Operand->Option Int->Prop
 |none,none=>True
 |some x,some n=>∃k,e x= .int k n
 |_,_=>False
theorem Qvv {ev:Operand->TV} {e:Operand->Value} (hev:∀x,TVR ρ w (ev x) (e x)) {o:Option Operand} {i:Option Int} (h:J7 ev o=some i):
  Qom e o i:=by
 cases o with
 |none=>simp[J7]at h;subst h;trivial
 |some x=>
  simp only[J7]at h;split at h
  ·rename_i n hn;simp at h;subst h;have hx:=hev x
   revert hn hx
   generalize ev x=t;intro hn hx;unfold TV.int? at hn;split at hn
   ·rename_i k m;simp at hn;subst hn;exact⟨k,hx.int⟩
   ·simp at hn
  ·simp at h
theorem Rf {t:TV} {x:Value} {n:Int} (h:t.int? =some n) (hx:TVR ρ w t x):∃k,x= .int k n:=by
 unfold TV.int? at h;split at h
 ·rename_i k m;simp at h;subst h;exact⟨k,hx.int⟩
 ·simp at h
theorem Qzs {e:Operand->Value} {o:Oper} {c:Call} {f:FuncId} (ho:o.op= .call c) (hc:c.callee= .value (.func f)) (hf:e (.func f)= .func (.func f) #[] #[]):
  execOp e o=callFunc f (c.args.toList.map e).toArray:=by
 unfold execOp;simp only[ho,resolve,hc,hf,Deferred.ofValue,pure_bind];simp only[invoke,Array.append_empty,Array.empty_append];rw[<-Array.toList_map]
theorem Zy8 {e:Operand->Value} {o:Oper} {c:Call} {f:FuncId} {t:Tmp} {xs ys:Array Value} (ho:o.op= .call c) (hc:c.callee= .value (.tmp t)) (hf:e (.tmp t)= .func (.func f) xs ys):
  execOp e o=callFunc f (xs.toList++(c.args.toList.map e++ys.toList)).toArray:=by
 unfold execOp;simp only[ho,resolve,hc,hf,Deferred.ofValue,pure_bind];simp only[invoke];congr 1;apply Array.ext';simp
theorem Zg4 {e:Operand->Value} {o:Oper} {c:Call} {b:Builtin} (ho:o.op= .call c) (hc:c.callee= .builtin b):
  ∃cs,execOp e o=builtin b c.argTypes o.type cs (c.args.map e):=by
 unfold execOp;simp only[ho,resolve,hc];exact⟨_,rfl⟩
theorem Qgz (mm:Value->Value->Sem Value) (g:Int->Int->Int) (hmm:∀k a k' b w,(mm (.int k a) (.int k' b)).run P w= .ok (.int k (g a b)) w) (k:IntKind):
  ∀(l:List TV) (xs:List Value) (a:Int) (Kp:Prim->Option R) (r:R),l.length=xs.length->(∀(i:Nat) (t:TV) (x:Value),l[i]? =some t->xs[i]? =some x->TVR ρ w t x)->Gm g k a l Kp=some r->
  ∃n,Kp (.val (.c (.int k n)))=some r/\(xs.foldlM mm (.int k a)).run P w= .ok (.int k n) w
 |[],[],a,Kp,r,_,_,h=>by simp[Gm]at h;exact⟨a,h,by simp⟩
 |[],_::_,_,_,_,hl,_,_=>by simp at hl
 |_::_,[],_,_,_,hl,_,_=>by simp at hl
 |t::l,x::xs,a,Kp,r,hl,hr,h=>by
  unfold Gm at h;split at h
  ·rename_i k' b;cases hk:kEq k k'
   ·rw[hk]at h;simp at h
   ·rw[hk]at h;simp only[ah]at h;have hx:x= .int k' b:=(hr 0 _ x rfl rfl).int;subst hx;obtain⟨n,h1,h2⟩:=Qgz mm g hmm k l xs (g a b) _ r (by simpa using hl) (λi t x h1 h2=>hr (i+1) t x (by simpa using h1) (by simpa using h2)) h;exact⟨n,h1,by rw[List.foldlM_cons];simp only[Sem.run_bind,hmm,cg,h2]⟩
  ·simp at h
theorem Zeg {b:Builtin} {ats:List TypeId} {args:List TV} {xs:List Value} {ty:TypeId} {cs:Array Bool} {Kp:Prim->Option R} {r:R}
  (hl:args.length=xs.length) (hr:∀(i:Nat) (t:TV) (x:Value),args[i]? =some t->xs[i]? =some x->TVR ρ w t x)
  (h:LA P b ats args Kp=some r) {e:Operand->Value} {o:Oper} (he:execOp e o=builtin b ats.toArray ty cs xs.toArray):
  ∃p,Kp p=some r/\Jn P ρ w e o p:=by
 unfold LA at h;split at h
 ·rename_i ks l
  match xs,hl with
  |[x],_=>
   have hx:=(hr 0 _ x rfl rfl).c;simp only[CC,CP]at hx;obtain⟨ad,cap,rfl,_⟩:=hx;split at h
   ·rename_i t ats';split at h
    ·rename_i e' hu;refine⟨_,h, .int .i64 l.length,?_,TVR.mkInt _ _⟩;rw[he];simp[builtin,Builtin.len_,run_underlying hu,goInt]
    ·simp at h
   ·simp at h
 ·rename_i id wd n
  match xs,hl with
  |[x],_=>
   have hx:=(hr 0 _ x rfl rfl).c;obtain⟨_,_,hx⟩:=hx;split at h
   ·rename_i t ats';split at h
    ·rename_i e' hu;refine⟨_,h, .int .i64 n,?_,TVR.mkInt _ _⟩;rw[he];rcases hx with⟨rfl,rfl⟩|⟨g,o',c,rfl⟩
     ·simp[builtin,Builtin.len_,run_underlying hu,goInt]
     ·simp[builtin,Builtin.len_,run_underlying hu,goInt]
    ·simp at h
   ·simp at h
 ·rename_i key n
  match xs,hl with
  |[x],_=>
   have hx:=(hr 0 _ x rfl rfl).c;simp only[CC]at hx;subst hx;split at h
   ·rename_i t ats';split at h
    ·rename_i e' hu;refine⟨_,h, .int .i64 n,?_,TVR.mkInt _ _⟩;rw[he];simp[builtin,Builtin.len_,run_underlying hu,goInt]
    ·simp at h
   ·simp at h
 ·match xs,hl with
  |[x],_=>
   have hx:=(hr 0 _ x rfl rfl).c;simp only[CC,CP]at hx;subst hx;split at h
   ·rename_i t ats';split at h
    ·rename_i e' hu;refine⟨_,h, .int .i64 0,?_,TVR.mkInt _ _⟩;rw[he];simp[builtin,Builtin.len_,run_underlying hu,goInt]
    ·simp at h
   ·simp at h
 ·rename_i l
  match xs,hl with
  |[x],_=>
   obtain⟨ys,rfl,_⟩:=(hr 0 _ x rfl rfl).agg;split at h
   ·rename_i t ats';split at h
    ·rename_i n e' hu;refine⟨_,h, .int .i64 n,?_,TVR.mkInt _ _⟩;rw[he];simp[builtin,Builtin.len_,run_underlying hu,goInt]
    ·simp at h
   ·simp at h
 ·rename_i k a rest
  match xs,hl with
  |x::xs,hl=>
   have hx:x= .int k a:=(hr 0 _ x rfl rfl).int;subst hx;obtain⟨n,h1,h2⟩:=Qgz (P:=P) (ρ:=ρ) (w:=w) Builtin.min2 mn (λk a k' b w=>by simp[Builtin.min2,mn]) k rest xs a Kp r (by simpa using hl) (λi t x h1 h2=>hr (i+1) t x (by simpa using h1) (by simpa using h2)) h;refine⟨_,h1, .int k n,?_,TVR.mkInt _ _⟩;rw[he];simp[builtin,Builtin.min_,h2]
 ·rename_i k a rest
  match xs,hl with
  |x::xs,hl=>
   have hx:x= .int k a:=(hr 0 _ x rfl rfl).int;subst hx;obtain⟨n,h1,h2⟩:=Qgz (P:=P) (ρ:=ρ) (w:=w) Builtin.max2 mx (λk a k' b w=>by simp[Builtin.max2,mx]) k rest xs a Kp r (by simpa using hl) (λi t x h1 h2=>hr (i+1) t x (by simpa using h1) (by simpa using h2)) h;refine⟨_,h1, .int k n,?_,TVR.mkInt _ _⟩;rw[he];simp[builtin,Builtin.max_,h2]
 ·rename_i s x'
  match xs,hl with
  |[x,y],_=>
   have hx:=(hr 0 _ x rfl rfl).c;have hy:=(hr 1 _ y rfl rfl).c;split at h
   ·rename_i t u;split at h
    ·rename_i el el' hu hu';split at h
     ·rename_i i ks hi hks;split at h
      ·rename_i z hz;cases hb:(Nat.beq t u&&Nat.beq z.cells.size i.size&&Nat.beq ks.length i.size)<;>rw[hb]at h
       ·simp at h
       ·simp only[ah]at h;simp only[aj]at hb;have e1:=ac hb.1.1;have e2:=ac hb.1.2;have e3:=ac hb.2;subst e1;refine⟨_,h,t,ty,i,z,x,y,hu,hi,hz,e3.symm,rfl,by rw[e3];exact e2,hx,hy,?_⟩;rw[he];simp[builtin]
      ·simp at h
     ·simp at h
    ·simp at h
   ·simp at h
 ·simp at h
end
open Go.RowKit
section
variable {P:Program} {C:Cfg} {ρ:Env} {w:World} {R:Type}
theorem Q4t {α β:Type} (g:α->Sem β) (s:α->β):∀(l:List α) (w:World),(∀x∈l,(g x).run P w= .ok (s x) w)->(l.mapM g).run P w= .ok (l.map s) w
 |[],w,_=>by simp
 |x::l,w,h=>by
  rw[List.mapM_cons];simp only[Sem.run_bind,h x (by simp),cg,Q4t g s l w (λy hy=>h y (by simp[hy])),Sem.run_pure,bf]
theorem Zre {fs:Array Field} (h:Ak (Mb P) fs.toList=true) (w:World):
  (fs.mapM λf:Field=>(do let n<-sizeOf f.type;pure (f.offset,n):Sem (Nat×Nat))).run P w= .ok (fs.map λf=>(f.offset,(szT P f.type).getD 0)) w:=by
 rw[Array.mapM_eq_mapM_toList];have := Q4t (P := P) (λf : Field => (do let n <- sizeOf f.type; pure (f.offset, n) : Sem (Nat × Nat))) (λf => (f.offset, (szT P f.type).getD 0)) fs.toList w (λf hf => by
  have hh:=Ax.1 h f hf;unfold Mb at hh;split at hh
  ·rename_i n hn;simp[D5 hn,hn]
  ·simp at hh)
 simp only[Sem.run_map,this,cg];congr 1;apply Array.ext';simp
theorem Zl9 {fs:Array Field} (h:Ak (Mb P) fs.toList=true):
  Qm0 P fs.toList=λi:Nat=>(fs.map λf=>(f.offset,(szT P f.type).getD 0))[i]? :=by
 funext i
 rw[Array.getElem?_map,<-Array.getElem?_toList,Qm0];cases hf:fs.toList[i]? with
 |none=>rfl
 |some f=>
  have hh:=Ax.1 h f (bn hf);unfold Mb at hh;cases hs:szT P f.type with
  |none=>rw[hs]at hh;simp at hh
  |some n=>simp[hs]
def PL (w:World) (b o:Nat) (ys:List Value):Prop:=∀(j:Nat) (y:Value),ys[j]? =some y->w.cell? ⟨b,o+j,none⟩=some y
theorem Qfd {im:Nat->Prop}:∀(cs:List AC) (b o:Nat),CPs im w cs b o->∃ys,CL (CP im w) cs ys/\PL w b o ys
 |[],b,o,_=>⟨[],trivial,λj y h=>by simp at h⟩
 |c::cs,b,o,h=>by
  rw[CPs]at h;obtain⟨⟨y,hy,hc⟩,hr⟩:=h;obtain⟨ys,h1,h2⟩:=Qfd cs b (o+1) hr;refine⟨y::ys,⟨hc,h1⟩,λj z hz=> ?_⟩;cases j with
  |zero=>simp at hz;subst hz;exact hy
  |succ j=>have:=h2 j z (by simpa using hz);rwa [show o+(j+1)=o+1+j from by omega]
theorem Qee {im:Nat->Prop}:∀(cs:List AC) (ys:List Value) (b o:Nat),CL (CP im w) cs ys->PL w b o ys->CPs im w cs b o
 |[],[],b,o,_,_=>by simp[CPs]
 |c::cs,y::ys,b,o,h,hr=>by
  rw[CPs];exact⟨⟨y,hr 0 y rfl,h.1⟩,Qee cs ys b (o+1) h.2 λj z hz=>by
   have:=hr (j+1) z (by simpa using hz)
   rwa [show o+1+j=o+(j+1)from by omega]⟩
 |[],_::_,_,_,h,_=>h.elim
 |_::_,[],_,_,h,_=>h.elim
theorem Tj {t:TypeId} {g:Bool} {sz:Nat} {cells:List AC} {sub b o:Nat} {v:TV} {ys:List Value} (hg:Cx P t=some g) (hs:szT P t=some sz)
  (h:DE g sz cells sub=some v) (hc:CL (CC ρ w) cells ys) (hr:PL w b o ys):
  ∃x,(loadVar t ⟨b,o+sub,none⟩).run P w= .ok x w/\TVR ρ w v x:=by
 have hp:=Q5m h hc;cases g
 ·obtain⟨x,hx,hv⟩:=hp;refine⟨x,?_,hv⟩;simp[loadVar,NW hg,hr sub x hx]
 ·obtain⟨hle,hv⟩:=hp;refine⟨_,?_,hv⟩;have hl:(cut ys sub sz).length=sz:=by simp[cut];omega
  have := run_loadCells_list (P := P) w ⟨b, o + sub, none⟩ (cut ys sub sz) (λj y hj => by
   rw[Addr.add_lit];rw[show o+sub+j=o+(sub+j)from by omega];refine hr (sub+j) y ?_;simp only[cut,List.getElem?_take]at hj;split at hj
   ·rw[List.getElem?_drop]at hj;exact hj
   ·simp at hj)
  rw[hl]at this;simp[loadVar,NW hg,D5 hs,this]
theorem Qdc {e:Operand->Value} {o:Oper} {t:TypeId} {x:Operand} {lo hi:Option Operand} {el:TypeId} {m n cap:Nat} {ad:Option Addr} {lo' hi':Option Int} {l hh':Int}
  (ho:o.op= .slice t x lo hi none) (hu:P.underlying t=some (.slice el)) (hm:szT P el=some m) (hc:e x= .slice ad n cap) (hcap:n<=cap)
  (hlo':Qom e lo lo') (hhi':Qom e hi hi')
  (hl:lo'.getD 0=l) (hh:hi'.getD (n:Int)=hh') (d1:0<=l) (d2:l<=hh') (d3:hh'<=(n:Int)):
  (execOp e o).run P w= .ok (.value (.slice (if cap=l.toNat then ad else ad.map (·.add (l.toNat*m))) (hh'.toNat-l.toNat) (cap-l.toNat))) w:=by
 simp only[execOp,ho,Instr.sliceAt,Sem.run_bind,run_underlying hu,cg,hc,Option.map_none,Instr.slice,Instr.sliceBounds,Sem.run_pure,if_true,Option.isSome_none,Bool.false_eq_true,if_false];have hH:∀y,hi=some y->∃k,e y= .int k hh':=by
  rintro y rfl;cases hi' with
  |none=>exact hhi'.elim
  |some q=>simp at hh;subst hh;exact hhi'
 have hL:∀y,lo=some y->∃k,e y= .int k l:=by
  rintro y rfl;cases lo' with
  |none=>exact hlo'.elim
  |some q=>simp at hl;subst hl;exact hlo'
 cases hi with
 |none=>
  have hn:hi'=none:=by cases hi' with
   |none=>rfl
   |some _=>exact hhi'.elim
  subst hn;simp at hh;subst hh;cases lo with
  |none=>
   have hn:lo'=none:=by cases lo' with
    |none=>rfl
    |some _=>exact hlo'.elim
   subst hn;simp at hl;subst hl;simp[D5 hm]
  |some y=>
   obtain⟨k,hk⟩:=hL y rfl;have q2:l<=(n:Int):=d2;simp[D5 hm,hk,Instr.sliceBound,asIntOf,d1,q2]
 |some z=>
  obtain⟨k',hk'⟩:=hH z rfl;have q1:0<=hh':=by omega
  have q2:hh'<=(cap:Int):=by omega
  cases lo with
  |none=>
   have hn:lo'=none:=by cases lo' with
    |none=>rfl
    |some _=>exact hlo'.elim
   subst hn;simp at hl;subst hl;simp[D5 hm,hk',Instr.sliceBound,asIntOf,q1,q2]
  |some y=>
   obtain⟨k,hk⟩:=hL y rfl;simp[D5 hm,hk,hk',Instr.sliceBound,asIntOf,d1,q1,q2];intro q4;omega
theorem Z4g {im:Nat->Prop} {ks:List Kd} {l:List (List AC)} {ad:Option Addr} {cap a b:Nat} (hab:a<=b) (hb:b<=l.length)
  (h:CP im w (.view ks l) (.slice ad l.length cap)):CP im w (.view ks ((l.take b).drop a)) (.slice (if cap=a then ad else ad.map (·.add (a*ks.length))) (b-a) (cap-a)):=by
 rw[CP]at h⊢;obtain⟨ad',cap',he,hle,hk,hf⟩:=h;simp only[Value.slice.injEq,true_and]at he;obtain⟨rfl,rfl⟩:=he;have hlen:((l.take b).drop a).length=b-a:=by simp;omega
 refine⟨_,_,by rw[hlen],by rw[hlen];omega,λc hc=>hk c (dk (de hc)),?_⟩;by_cases hz:(l.take b).drop a=[]
 ·exact .inl hz
 ·right;have hpos:0<((l.take b).drop a).length:=List.length_pos_iff.2 hz;rw[hlen]at hpos;rcases hf with hf|⟨b',o,rfl,him,hss⟩
  ·subst hf;simp at hb;omega
  ·refine⟨b',o+a*ks.length,?_,him,Tg λi hi=> ?_⟩
   ·rw[ab (by omega)];simp[Addr.add_lit]
   ·rw[hlen]at hi;have hg:=Zj hss (a+i) (by omega);have e:((l.take b).drop a)[i]'(by rw[hlen];exact hi)=l[a+i]'(by omega):=by simp
    rw[e];refine⟨hg.1,?_⟩;have:=hg.2;rw[Nat.add_mul,<-Nat.add_assoc]at this;exact this
theorem VA:∀{vs:List TV} {as:List AC},JK vs=some as->∀{xs:List Value},vs.length=xs.length->(∀(i:Nat) (v:TV) (x:Value),vs[i]? =some v->xs[i]? =some x->TVR ρ w v x)->CLc ρ w as xs
 |[],as,h,xs,hl,_=>by
  simp[JK]at h;subst h;cases xs with
  |nil=>trivial
  |cons=>simp at hl
 |v::vs,as,h,xs,hl,hr=>by
  cases xs with
  |nil=>simp at hl
  |cons x xs=>
   have h0:=hr 0 v x rfl rfl;unfold JK at h;split at h
   ·simp at*
   ·rename_i a l heq;simp only[List.cons.injEq]at heq;obtain⟨rfl,rfl⟩:=heq;cases ha:a.clOk<;>rw[ha]at h
    ·simp at h
    ·simp only[ah]at h;split at h
     ·rename_i r hr';simp at h;subst h;refine⟨?_,VA hr' (by simpa using hl) λi v x h1 h2=>hr (i+1) v x (by simpa using h1) (by simpa using h2)⟩;have hc:=h0.c;cases a<;>simp only[AC.clOk]at ha<;>first|(simp at ha;done)|exact hc
     ·simp at h
   ·simp at h
theorem Qoa:∀{as:List AC} {xs:List Value},CLc ρ w as xs->(as.map TV.c).length=xs.length/\∀(i:Nat) (v:TV) (x:Value),(as.map TV.c)[i]? =some v->xs[i]? =some x->TVR ρ w v x
 |[],[],_=>⟨rfl,λi v x h=>by simp at h⟩
 |a::as,x::xs,h=>by
  obtain⟨h1,h2⟩:=Qoa h.2;refine⟨by simpa using h1,λi v y hv hy=> ?_⟩;cases i with
  |zero=>
   simp at hv hy;subst hv;subst hy;have:=h.1;cases a<;>first|exact TVR.c' this|(exact TVR.c' (IT this))|(simp[CCc,CP]at this)
  |succ i=>exact h2 i v y (by simpa using hv) (by simpa using hy)
 |[],_::_,h=>h.elim
 |_::_,[],h=>h.elim
theorem Q8w {a b:List TV} {xs ys:List Value} (h1:a.length=xs.length/\∀(i:Nat) (v:TV) (x:Value),a[i]? =some v->xs[i]? =some x->TVR ρ w v x)
  (h2:b.length=ys.length/\∀(i:Nat) (v:TV) (x:Value),b[i]? =some v->ys[i]? =some x->TVR ρ w v x):
  (a++b).length=(xs++ys).length/\∀(i:Nat) (v:TV) (x:Value),(a++b)[i]? =some v->(xs++ys)[i]? =some x->TVR ρ w v x:=by
 refine⟨by simp[h1.1,h2.1],λi v x hv hx=> ?_⟩;rw[List.getElem?_append]at hv hx;by_cases hi:i<a.length
 ·rw[aa hi]at hv;rw[aa (by omega)]at hx;exact h1.2 i v x hv hx
 ·rw[ab hi]at hv;rw[ab (by omega)]at hx;rw[h1.1]at hv;exact h2.2 _ v x hv hx
theorem Zl3 (hok:∀t∈C.eqOk,P.stoodInHeld t=false) {ev:Operand->TV} {e:Operand->Value} (hev:∀x,TVR ρ w (ev x) (e x))
  (hfn:∀f,e (.func f)= .func (.func f) #[] #[]) (o:Oper) {Kp:Prim->Option R} {r:R} (h:opK P C ev o.dst o.op Kp=some r):
  ∃p,Kp p=some r/\Jn P ρ w e o p:=by
 obtain⟨dst,op,type,pos,after,guard⟩:=o;have hx:∀(op':Op) (v:TV) (x:Value),op=op'->((execOp e ⟨dst,op',type,pos,after,guard⟩).run P w= .ok (.value x) w)->TVR ρ w v x->Jn P ρ w e ⟨dst,op,type,pos,after,guard⟩ (.val v):=by
  rintro _ v x rfl h1 h2;exact⟨x,h1,h2⟩
 cases op<;>simp only[opK]at h<;>try (simp at h;done)
 case move x=>exact⟨_,h,e x,by simp[execOp],hev x⟩
 case assign x=>exact⟨_,h,e x,by simp[execOp],hev x⟩
 case pick c a b=>
  split at h
  ·rename_i g hc;have hcv:e c= .bool g:=by have:=hev c;rw[hc]at this;exact this.bool
   cases g
   ·simp only[an]at h;exact⟨_,h,e b,by simp[execOp,hcv,asBool],hev b⟩
   ·simp only[ah]at h;exact⟨_,h,e a,by simp[execOp,hcv,asBool],hev a⟩
  ·simp at h
 case alloc t=>
  split at h
  ·rename_i cs hz;obtain⟨v,hv,hc⟩:=UD (ρ:=ρ) (w:=w) hz;refine⟨_,h,v.cells,hc,?_⟩;simp[execOp,Instr.alloc,hv,newVar,newRow]
  ·simp at h
 case box t x=>
  split at h
  ·rename_i cs hc;exact⟨_,h,(e x).cells,(hev x).cells hc,by simp[execOp,Instr.box,newVar,newRow]⟩
  ·simp at h
 case build t parts=>
  split at h
  ·rename_i z fs hz hu;obtain⟨v,hv,hc⟩:=UD (ρ:=ρ) (w:=w) hz;cases hall:(Ak (Mb P) fs.toList)<;>rw[hall]at h
   ·simp at h
   ·simp only[ah]at h;split at h
    ·rename_i cs hb;rw[Zl9 hall]at hb;obtain⟨ys,h1,h2,_⟩:=Tr hev _ _ _ _ hc hb;refine⟨_,h, .agg ys,?_,⟨ys,rfl,h2⟩⟩;have hpl:=Zre (P:=P) hall w;simp only[execOp,Instr.build,Sem.run_bind,hv,cg,run_underlying hu,hpl,Array.toList_map];rw[h1];simp
    ·simp at h
  ·rename_i z n el hz hu;obtain⟨v,hv,hc⟩:=UD (ρ:=ρ) (w:=w) hz;split at h
   ·rename_i m hm;split at h
    ·rename_i cs hb;obtain⟨ys,h1,h2,_⟩:=Tr hev _ _ _ _ hc hb;refine⟨_,h, .agg ys,?_,⟨ys,rfl,h2⟩⟩;simp only[execOp,Instr.build,Sem.run_bind,hv,cg,run_underlying hu,D5 hm,Array.toList_map];rw[h1];simp
    ·simp at h
   ·simp at h
  ·simp at h
 case buildSlice t n parts=>
  split at h
  ·rename_i el hu;split at h
   ·rename_i m z ks hm hz hks;obtain⟨v,hv,hc⟩:=UD (ρ:=ρ) (w:=w) hz;cases hb:(Nat.beq z.length m&&Nat.beq ks.length m&&Nat.ble 1 m&&Nat.ble (n*m) 65536)<;>rw[hb]at h
    ·simp at h
    ·simp only[ah]at h;simp only[aj]at hb;have e1:=ac hb.1.1.1;have ek:=ac hb.1.1.2;have e2:=az hb.1.2;have e3:=az hb.2;split at h
     ·rename_i cs hbp;have hrun:∃ys:Array Value,CL (CC ρ w) cs ys.toList/\ys.toList.length=n*m/\(execOp e ⟨dst, .buildSlice t n parts,type,pos,after,guard⟩).run P w= .ok (.value (.slice (some ⟨w.heap.size,0,none⟩) n n)) (w.alloc (.cells ys el)):=by
       have hvl:v.cells.toList.length=m:=by rw[<-hc.length];exact e1
       have hz0:((Array.range (n*m)).map λi=>(if n*m=0 then #[]else v.cells)[i%(if n*m=0 then(#[]:Array Value)else v.cells).size]!).toList=(List.replicate n v.cells.toList).flatten:=by
        by_cases hn:n*m=0
        ·have:n=0:=by
          rcases Nat.mul_eq_zero.1 hn with h0|h0
          ·exact h0
          ·omega
         subst this;simp
        ·simp only[hn,if_false];apply List.ext_getElem?;intro j;by_cases hj:j<n*m
         ·rw[Q46 _ (by omega) n j (by rw[hvl];exact hj),hvl];have hs:v.cells.size=m:=by rw[<-hvl];simp
          have hlt:j%m<v.cells.size:=by rw[hs];exact Nat.mod_lt _ (by omega)
          simp[hj,hs];rw[getElem!_pos v.cells (j%m) hlt,Array.getElem?_eq_getElem hlt]
         ·have hvl':v.cells.size=m:=by rw[<-hvl];simp
          rw[cv (by simp;omega),cv (by simp[hvl'];omega)]
       have hch:=Qy0 hc n;rw[<-hz0]at hch;obtain⟨ys,h1,h2,h3⟩:=Tr hev _ _ _ _ hch hbp;have hys:ys.toList.length=n*m:=by rw[Array.length_toList,h3];simp
       refine⟨ys,h2,hys,?_⟩;have hgt: ¬(n*m>2^24):=by omega
       simp only[execOp,Instr.buildSlice,Sem.run_bind,run_underlying hu,cg,D5 hm,hgt,if_false,Sem.run_pure,Array.toList_map];by_cases hn:n*m=0
       ·simp only[hn,if_true]at h1;simp only[hn,if_true,Sem.run_bind,Sem.run_pure,cg];rw[h1];simp[newRow]
       ·simp only[hn,if_false]at h1;simp only[hn,if_false,Sem.run_bind,hv,Sem.run_pure,cg];rw[h1];simp[newRow]
      obtain⟨ys,h2,hys,hrun⟩:=hrun;split at h
      ·rename_i l hfr;have hln:=Q8j _ _ _ hfr;have key:∃arr:Array Value,0<ks.length/\l.length<=maxLen/\RowC ρ.im w ks l arr.toList/\
         (execOp e ⟨dst, .buildSlice t n parts,type,pos,after,guard⟩).run P w= .ok (.value (.slice (some ⟨w.heap.size,0,none⟩) l.length l.length)) (w.alloc (.cells arr el)):=by
        rw[hln];refine⟨ys,by omega,?_,?_,hrun⟩
        ·have:n<=n*m:=Nat.le_mul_of_pos_right n (by omega);simp only[maxLen];omega
        ·exact Qsg n cs l _ hfr h2 ⟨hln,by rw[ek];exact hys⟩
       cases hcv:SO C dst n<;>rw[hcv]at h
       ·exact⟨_,h,key⟩
       ·exact⟨_,h,key⟩
      ·cases hcl:(Ak AC.isClo cs&&Nat.beq m 1)<;>rw[hcl]at h
       ·simp at h
       ·simp only[ah]at h;simp only[aj]at hcl;exact⟨_,h,ys,h2,hrun⟩
     ·simp at h
   ·simp at h
  ·simp at h
 case makeSlice t len cap=>
  split at h
  ·rename_i el n c hu hln hcp;obtain⟨kl,hkl⟩:=Rf hln (hev len);obtain⟨kc,hkc⟩:=Rf hcp (hev cap);split at h
   ·rename_i i z ks hi hz hks;split at h
    ·rename_i z' hz';cases hb:(Nat.beq ks.length i.size&&Nat.ble 1 i.size&&Nat.ble 1 i.bytes)<;>rw[hb]at h
     ·simp at h
     ·simp only[ah]at h;simp only[aj]at hb;have e1:=ac hb.1.1;have e2:=az hb.1.2;have e3:=az hb.2;cases hd:decide (n=c)<;>rw[hd]at h
      ·simp at h
      ·simp only[ah]at h;have hnc:n=c:=by simpa using hd
       subst hnc;unfold JB at hz;rw[hi]at hz;dsimp only at hz;split at hz
       ·rename_i zv hzv;have hcl:CL (CC ρ w) z zv.cells.toList:=Uo _ hz;obtain⟨f1,f2⟩:=RW hz' hcl;refine⟨_,h,t,i,zv,kl,kc,hu,hi,hzv,e1.symm,rfl,by omega,e3,f2,f1,?_⟩;simp[execOp,hkl,hkc]
       ·simp at hz
    ·simp at h
   ·simp at h
  ·simp at h
 case makeFunc fn first captured=>
  split at h
  ·rename_i f;split at h
   ·rename_i fs cs hfs hcs;have ha:=RA hev first.toList;have hb:=RA hev captured.toList;refine⟨_,h, .func (.func f) (first.map e) (captured.map e),by simp[execOp,Instr.makeFunc],TVR.c' ⟨_,_,rfl,?_,?_⟩⟩
    ·rw[Array.toList_map];exact VA hfs ha.1 ha.2
    ·rw[Array.toList_map];exact VA hcs hb.1 hb.2
   ·simp at h
  ·simp at h
 case load t a=>
  split at h
  ·rename_i g sz hg hs;have ha:=hev a;split at h
   ·rename_i key off hea;rw[hea]at ha;have hv:=ha.c;simp only[CC]at hv;refine⟨_,h,t,hg,hs,?_⟩;simp[execOp,Instr.loadAt,hv,Instr.sureAddr]
   ·rename_i cells sub hea;rw[hea]at ha;obtain⟨b,o,hv,him,hcs⟩:=ha.c;split at h
    ·rename_i v hva;obtain⟨ys,hy1,hy2⟩:=Qfd cells b o hcs;obtain⟨x,hx1,hx2⟩:=Tj hg hs hva (hy1.mono λ_ _ _ hh=>IT hh) hy2;refine⟨_,h,x,?_,hx2⟩;simp[execOp,Instr.loadAt,hv,Instr.sureAddr,hx1]
    ·simp at h
   ·rename_i id idx sub hea;rw[hea]at ha;obtain⟨g',hg',hv⟩:=ha.c;refine⟨_,h,t,g',hg,hs,hg',?_⟩;simp[execOp,Instr.loadAt,hv,Instr.sureAddr]
   ·simp at h
  ·simp at h
 case store t a x=>
  split at h
  ·rename_i sz cs hs hcs;cases hb:Nat.beq cs.length sz<;>rw[hb]at h
   ·simp at h
   ·simp only[ah]at h;have e1:=ac hb;subst e1;have ha:=hev a;split at h
    ·rename_i key off hea;rw[hea]at ha;have hv:=ha.c;simp only[CC]at hv;refine⟨_,h,t,e x,hs,(hev x).cells hcs,?_⟩;simp[execOp,Instr.storeAt,hv,Instr.sureAddr]
    ·rename_i id idx sub hea;rw[hea]at ha;obtain⟨g',hg',hv⟩:=ha.c;refine⟨_,h,t,e x,g',hs,(hev x).cells hcs,hg',?_⟩;simp[execOp,Instr.storeAt,hv,Instr.sureAddr]
    ·simp at h
  ·simp at h
 case nilCheck x=>
  have hv:=hev x;split at h
  ·rename_i key off hea;rw[hea]at hv;have hc:=hv.c;simp only[CC]at hc;exact⟨_,h,e x,by simp[execOp,hc],hv⟩
  ·rename_i id idx sub hea;rw[hea]at hv;obtain⟨g',hg',hc⟩:=hv.c;exact⟨_,h,e x,by simp[execOp,hc],hv⟩
  ·rename_i cs sub hea;rw[hea]at hv;obtain⟨b,o,hc,_⟩:=hv.c;exact⟨_,h,e x,by simp[execOp,hc],hv⟩
  ·simp at h
 case binOp bop t x y yt=>
  have hvx:=hev x;have hvy:=hev y;split at h
  ·rename_i k a k' b hex hey;rw[hex]at hvx;rw[hey]at hvy;have e1:=hvx.int;have e2:=hvy.int;cases hk:kEq k k'<;>rw[hk]at h
   ·cases hsh:O6 bop<;>rw[hsh]at h
    ·simp at h
    ·simp only[Bool.false_or,ah]at h;obtain⟨c,v,h1,h2,h3,h4,h5⟩:=Zo0 (P:=P) (ρ:=ρ) (w:=w) hsh t k k' a b _ h;refine⟨_,h1,v,?_,TVR.c' (IT h2)⟩;simp[execOp,e1,e2,eqGuard_at_int,h3]
   ·simp only[Bool.true_or,ah]at h;have:=NV hk;subst this;obtain⟨c,v,h1,h2,h3⟩:=Zpd (P:=P) (ρ:=ρ) (w:=w) bop t k a b _ h;refine⟨_,h1,v,?_,TVR.c' (IT h2)⟩;simp[execOp,e1,e2,eqGuard_at_int,h3]
  ·rename_i a b hex hey;rw[hex]at hvx;rw[hey]at hvy;have e1:=hvx.bool;have e2:=hvy.bool;split at h
   ·rename_i hu;refine⟨_,h, .bool (a==b),?_,TVR.mkBool _⟩;simp[execOp,e1,e2,eqGuard_at_bool,binOp,Op.equal,Op.maxDepth,run_equalIn_bool' w 9999 t a b hu]
   ·rename_i hu;refine⟨_,h, .bool (!(a==b)),?_,TVR.mkBool _⟩;simp[execOp,e1,e2,eqGuard_at_bool,binOp,Op.equal,Op.maxDepth,run_equalIn_bool' w 9999 t a b hu]
   ·simp at h
  ·rename_i key off hex hey;rw[hex]at hvx;rw[hey]at hvy;have e1:=hvx.c;have e2:=hvy.c;simp only[CC]at e1;simp only[CC,CP]at e2;have e2:=e2.1;split at h
   ·rename_i el hu;have hp:P.underlying t=some (.pointer (P.pointee t)):=by simp[Program.pointee,hu]
    refine⟨_,h, .bool false,?_,TVR.mkBool _⟩;simp[execOp,e1,e2,eqGuard_at_pointer,run_eql_pointer_nil w t _ hp]
   ·rename_i el hu;have hp:P.underlying t=some (.pointer (P.pointee t)):=by simp[Program.pointee,hu]
    refine⟨_,h, .bool true,?_,TVR.mkBool _⟩;simp[execOp,e1,e2,eqGuard_at_pointer,run_neq_pointer_nil w t _ hp]
   ·simp at h
  ·rename_i xs ys hex hey;rw[hex]at hvx;rw[hey]at hvy;obtain⟨X,e1,hX⟩:=hvx.agg;obtain⟨Y,e2,hY⟩:=hvy.agg;cases hgt:P.eqGuardType P.depth t<;>rw[hgt]at h
   ·simp only[an]at h;have key:∀q,Cx P t=some true->eqC P C.eqOk 20 t xs ys=some q->(Op.equalIn 10000 t (.agg X) (.agg Y)).run P w= .ok q w:=by
     intro q hg hq;exact Qyb hok 20 10000 (by omega) t xs ys q _ _ hq (by simp only[Fp,hg];exact⟨X,rfl,hX⟩) (by simp only[Fp,hg];exact⟨Y,rfl,hY⟩)
    split at h
    ·rename_i q hg hq;refine⟨_,h, .bool q,?_,TVR.mkBool _⟩;simp[execOp,e1,e2,run_eqGuard_agg w .eql t x y X Y hgt,run_eql_struct,key q hg hq]
    ·rename_i q hg hq;refine⟨_,h, .bool (!q),?_,TVR.mkBool _⟩;simp[execOp,e1,e2,run_eqGuard_agg w .neq t x y X Y hgt,run_neq_struct,key q hg hq]
    ·simp at h
   ·simp at h
  ·simp at h
 case unOp uop t x=>
  have hv:=hev x;split at h
  ·rename_i k n hea;rw[hea]at hv;have e1:=hv.int;exact⟨_,h, .int k (k.wrap (0-n)),by simp[execOp,e1,Op.unary,Op.intArith],TVR.mkInt _ _⟩
  ·rename_i b hea;rw[hea]at hv;have e1:=hv.bool;exact⟨_,h, .bool (!b),by simp[execOp,e1,Op.unary],TVR.mkBool _⟩
  ·simp at h
 case convert src dst' x=>
  have hv:=hev x;split at h
  ·rename_i d k k' n hs hd hea;rw[hea]at hv;have e1:=hv.int;refine⟨_,h, .int k (k.wrap n),?_,TVR.mkInt _ _⟩;simp[execOp,e1,convert,run_underlying hs,run_underlying hd,Conv.intToInt]
  ·simp at h
 case fieldAddr t x i=>
  split at h
  ·rename_i f hf;have hfs:∃fs,P.underlying t=some (.struct fs)/\fs[i]? =some f:=by
    unfold R3 at hf;split at hf
    ·rename_i fs hu;exact⟨fs,hu,by simpa using hf⟩
    ·simp at hf
   obtain⟨fs,hu,hfi⟩:=hfs;split at h
   ·rename_i n hn;have hne:n+1≠0:=by omega
    have hv:=hev x;have fp:∀(b o:Nat),(fieldPlace ⟨b,o,none⟩ f).run P w= .ok ⟨b,o+f.offset,none⟩ w:=by
     intro b o;simp[fieldPlace,D5 hn,Addr.add_lit]
    split at h
    ·rename_i key off hea;rw[hea]at hv;have hc:=hv.c;simp only[CC]at hc;refine⟨_,h, .pointer (some ⟨ρ.bx key,off+f.offset,none⟩),?_,TVR.c' (by simp[CC])⟩;simp[execOp,Instr.fieldAt,run_underlying hu,hfi,hc,Instr.sureAddr,fp]
    ·rename_i id idx sub hea;rw[hea]at hv;obtain⟨g',hg',hc⟩:=hv.c;refine⟨_,h, .pointer (some ⟨g',HI (ρ.rv id)+(idx*ρ.wd id+sub)+f.offset,none⟩),?_,TVR.c' ⟨g',hg',by rw[Nat.add_assoc,Nat.add_assoc]⟩⟩;simp[execOp,Instr.fieldAt,run_underlying hu,hfi,hc,Instr.sureAddr,fp]
    ·rename_i cs sub hea;rw[hea]at hv;obtain⟨b,o,hc,h1,h2⟩:=hv.c;refine⟨_,h, .pointer (some ⟨b,o+sub+f.offset,none⟩),?_,TVR.c' ⟨b,o,by rw[Nat.add_assoc],h1,h2⟩⟩;simp[execOp,Instr.fieldAt,run_underlying hu,hfi,hc,Instr.sureAddr,fp]
    ·simp at h
   ·simp at h
  ·simp at h
 case field t x i=>
  split at h
  ·rename_i f cs hf hea;have hfs:∃fs,P.underlying t=some (.struct fs)/\fs[i]? =some f:=by
    unfold R3 at hf;split at hf
    ·rename_i fs hu;exact⟨fs,hu,by simpa using hf⟩
    ·simp at hf
   obtain⟨fs,hu,hfi⟩:=hfs;have hv:=hev x;rw[hea]at hv;obtain⟨ys,hc,hcl⟩:=hv.agg;split at h
   ·rename_i v hp;obtain⟨y,hy1,hy2⟩:=Q6x (P:=P) hp hcl;refine⟨_,h,y,?_,hy2⟩;simp[execOp,Instr.field,run_underlying hu,hfi,hc,asAgg,hy1]
   ·simp at h
  ·simp at h
 case indexAddr t x ix=>
  split at h
  ·rename_i i n el hi hu;obtain⟨k,hk⟩:=Rf hi (hev ix);have hv:=hev x;split at h
   ·rename_i m key off hm hea;rw[hea]at hv;have hc:=hv.c;simp only[CC]at hc;obtain⟨j,h1,h2,h3,h4⟩:=HO h;refine⟨_,h1, .pointer (some ⟨ρ.bx key,off+j*m,none⟩),?_,TVR.c' (by simp[CC])⟩;have hlt:j<n:=by omega
    simp[execOp,Instr.indexAt,run_underlying hu,hk,asIntOf,hc,Instr.sureAddr,h2,hlt,D5 hm,Addr.add_lit]
   ·rename_i m id idx sub hm hea;rw[hea]at hv;obtain⟨g',hg',hc⟩:=hv.c;obtain⟨j,h1,h2,h3,h4⟩:=HO h;refine⟨_,h1, .pointer (some ⟨g',HI (ρ.rv id)+(idx*ρ.wd id+sub)+j*m,none⟩),?_,TVR.c' ⟨g',hg',by rw[Nat.add_assoc,Nat.add_assoc]⟩⟩;have hlt:j<n:=by omega
    simp[execOp,Instr.indexAt,run_underlying hu,hk,asIntOf,hc,Instr.sureAddr,h2,hlt,D5 hm,Addr.add_lit]
   ·rename_i m cs sub hm hea;rw[hea]at hv;obtain⟨b,o,hc,him,hcs⟩:=hv.c;obtain⟨j,h1,h2,h3,h4⟩:=HO h;refine⟨_,h1, .pointer (some ⟨b,o+sub+j*m,none⟩),?_,TVR.c' ⟨b,o,by rw[Nat.add_assoc],him,hcs⟩⟩;have hlt:j<n:=by omega
    simp[execOp,Instr.indexAt,run_underlying hu,hk,asIntOf,hc,Instr.sureAddr,h2,hlt,D5 hm,Addr.add_lit]
   ·simp at h
  ·rename_i i el hi hu;obtain⟨k,hk⟩:=Rf hi (hev ix);have hv:=hev x;split at h
   ·rename_i m ks l hm hea;rw[hea]at hv;have hc:=hv.c;simp only[CC,CP]at hc;obtain⟨ad,cap,hc,hcap,hkk,hf⟩:=hc;cases hb:Nat.beq m ks.length<;>rw[hb]at h
    ·simp at h
    ·simp only[ah]at h;have e1:=ac hb;subst e1;cases hd:(decide (0<=i)&&decide (i<(l.length:Int)))<;>rw[hd]at h
     ·simp at h
     ·simp only[ah]at h;simp at hd;have hil:i.toNat<l.length:=by omega
      rcases hf with hf|⟨b,o,rfl,him,hss⟩
      ·subst hf;simp at hil
      ·obtain⟨hfl,hcs⟩:=Zj hss i.toNat hil;have hcan:AN ks (nth [] l i.toNat)=l[i.toNat]:=by
        rw[B3,List.getD,ai hil];exact hkk _ (bq hil)
       refine⟨_,h, .pointer (some ⟨b,o+i.toNat*ks.length+0,none⟩),?_,TVR.c' ⟨b,o+i.toNat*ks.length,rfl,him,by rw[hcan];exact hcs⟩⟩;simp[execOp,Instr.indexAt,run_underlying hu,hk,asIntOf,hc,hd,D5 hm,Addr.add_lit]
   ·rename_i m id wd n hm hea;rw[hea]at hv;obtain⟨hc1,hc2,hc3⟩:=hv.c;cases hb:Nat.beq m wd<;>rw[hb]at h
    ·simp at h
    ·simp only[ah]at h;have e1:=ac hb;subst e1;cases hd:(decide (0<=i)&&decide (i<(n:Int)))<;>rw[hd]at h
     ·simp at h
     ·simp only[ah]at h;simp at hd;rcases hc3 with⟨_,rfl⟩|⟨g',o',c',hc3⟩
      ·omega
      ·refine⟨_,h, .pointer (some ⟨g',o'+(i.toNat*ρ.wd id+0),none⟩),?_,TVR.c' ⟨g',by rw[<-hc1,hc3];rfl,by rw[<-hc1,hc3];rfl⟩⟩;simp[execOp,Instr.indexAt,run_underlying hu,hk,asIntOf,hc3,hd,D5 hm,Addr.add_lit,hc2]
   ·rename_i m key n hm hea;rw[hea]at hv;have hc:=hv.c;simp only[CC]at hc;cases hb:Nat.beq m 1<;>rw[hb]at h
    ·simp at h
    ·simp only[ah]at h;have e1:=ac hb;subst e1;obtain⟨j,h1,h2,h3,h4⟩:=HO h;refine⟨_,h1, .pointer (some ⟨ρ.bx key,j,none⟩),?_,TVR.c' (by simp[CC])⟩;have hlt:j<n:=by omega
     simp[execOp,Instr.indexAt,run_underlying hu,hk,asIntOf,hc,h2,hlt,D5 hm,Addr.add_lit]
   ·simp at h
  ·simp at h
 case index t x ix=>
  split at h
  ·rename_i i n el cs hi hu hea;obtain⟨k,hk⟩:=Rf hi (hev ix);have hv:=hev x;rw[hea]at hv;obtain⟨ys,hc,hcl⟩:=hv.agg;split at h
   ·rename_i m hm;obtain⟨j,h1,h2,h3,h4⟩:=HO h;have hlt:j<n:=by omega
    split at h1
    ·rename_i v hp;obtain⟨y,hy1,hy2⟩:=Q6x (P:=P) hp hcl;refine⟨_,h1,y,?_,hy2⟩;simp[execOp,Instr.index,run_underlying hu,hk,asIntOf,hc,h2,hlt,D5 hm,hy1]
    ·simp at h1
   ·simp at h
  ·simp at h
 case slice t x lo hi mx=>
  split at h
  ·rename_i _ lo' hi' el hlo hhi hu;have hlo':=Qvv hev hlo;have hhi':=Qvv hev hhi;have hv:=hev x;split at h
   ·rename_i m ks l hm hea;rw[hea]at hv;have hcp:=hv.c;have hc:=hcp;simp only[CC,CP]at hc;obtain⟨ad,cap,hc,hcap,_⟩:=hc;rw[hc]at hcp;cases hb:Nat.beq m ks.length<;>rw[hb]at h
    ·simp at h
    ·simp only[ah]at h;have e1:=ac hb;subst e1;have key:∀(a b:Int),lo'.getD 0=a->hi'.getD (l.length:Int)=b->0<=a->a<=b->b<=(l.length:Int)->Jn P ρ w e ⟨dst, .slice t x lo hi none,type,pos,after,guard⟩ (.val (.c (.view ks ((l.take b.toNat).drop a.toNat)))):=by
      intro a b ha hb' d1 d2 d3;refine⟨_,Qdc rfl hu hm hc hcap hlo' hhi' ha hb' d1 d2 d3,TVR.c' ?_⟩;exact Z4g (by omega) (by omega) hcp
     split at h
     ·refine⟨_,h,?_⟩;have:=key 0 l.length rfl rfl (by omega) (by omega) (by omega);simpa using this
     ·rename_i a;cases hd:(decide (0<=a)&&decide (a<=(l.length:Int)))<;>rw[hd]at h
      ·simp at h
      ·simp only[ah]at h;simp only[aj,bz]at hd;refine⟨_,h,?_⟩;have:=key a l.length rfl rfl hd.1 hd.2 (by omega);simpa using this
     ·rename_i b;cases hd:(decide (0<=b)&&decide (b<=(l.length:Int)))<;>rw[hd]at h
      ·simp at h
      ·simp only[ah]at h;simp only[aj,bz]at hd;refine⟨_,h,?_⟩;have:=key 0 b rfl rfl (by omega) hd.1 hd.2;simpa using this
     ·rename_i a b;cases hd:(decide (0<=a)&&decide (a<=b)&&decide (b<=(l.length:Int)))<;>rw[hd]at h
      ·simp at h
      ·simp only[ah]at h;simp only[aj,bz]at hd;exact⟨_,h,key a b rfl rfl hd.1.1 hd.1.2 hd.2⟩
   ·rename_i m id wd n hm hea;rw[hea]at hv;obtain⟨c1,c2,c3⟩:=hv.c;split at h
    ·rename_i a;cases hb:Nat.beq m wd<;>rw[hb]at h
     ·simp at h
     ·simp only[ah]at h;have e1:=ac hb;subst e1;cases hd:(decide (0<=a)&&decide (a<=(n:Int)))<;>rw[hd]at h
      ·simp at h
      ·simp only[ah]at h;simp only[aj,bz]at hd;refine⟨_,h,λad n' cap hrv hnc han=> ?_⟩;have hn:n'=n:=by
        rcases c3 with⟨c3,c4⟩|⟨_,_,_,c3⟩
        ·rw[c1,hrv]at c3;simp at c3;omega
        ·rw[c1,hrv]at c3;simp at c3;exact c3.2.1
       subst hn;have hrun:=Qdc (P:=P) (w:=w) (e:=e) (o:=⟨dst, .slice t x lo hi none,type,pos,after,guard⟩) rfl hu hm (c1.trans hrv) hnc hlo' hhi' (l:=a) (hh':=(n':Int)) rfl rfl hd.1 hd.2 (df _);rw[c2];simpa using hrun
    ·simp at h
   ·rename_i m hm hea;rw[hea]at hv;have hc:=hv.c;simp only[CC,CP]at hc;have key:lo'.getD 0=0->hi'.getD ((0:Nat):Int)=0->Jn P ρ w e ⟨dst, .slice t x lo hi none,type,pos,after,guard⟩ (.val (.c .nilSl)):=by
     intro ha hb';refine⟨_,Qdc rfl hu hm hc (co _) hlo' hhi' ha hb' (by omega) (by omega) (by omega),TVR.c' ?_⟩;simp[CC,CP]
    split at h
    ·exact⟨_,h,key rfl rfl⟩
    ·rename_i a;cases hd:decide (a=0)<;>rw[hd]at h
     ·simp at h
     ·simp only[ah]at h;simp only[bz]at hd;exact⟨_,h,key hd rfl⟩
    ·rename_i b;cases hd:decide (b=0)<;>rw[hd]at h
     ·simp at h
     ·simp only[ah]at h;simp only[bz]at hd;exact⟨_,h,key rfl hd⟩
    ·rename_i a b;cases hd:(decide (a=0)&&decide (b=0))<;>rw[hd]at h
     ·simp at h
     ·simp only[ah]at h;simp only[aj,bz]at hd;exact⟨_,h,key hd.1 hd.2⟩
   ·simp at h
  ·simp at h
 case extract t i=>
  have hv:=hev t;split at h
  ·rename_i ps hea;rw[hea]at hv;obtain⟨ys,hc,hp⟩:=hv;split at h
   ·rename_i g cs hg;have key:∀(l:List (Bool×List AC)) (xs:List Value) (i:Nat),TP ρ w l xs->l[i]? =some (g,cs)->∃y,xs[i]? =some y/\TVR ρ w (.v g cs) y:=by
     intro l;induction l with
     |nil=>intro xs i _ hh;simp at hh
     |cons p l ih=>
      intro xs i htp hh;cases xs with
      |nil=>exact htp.elim
      |cons y xs=>
       cases i with
       |zero=>
        simp at hh;subst hh;refine⟨y,rfl,?_⟩;have:=htp.1;cases g<;>exact this
       |succ i=>simpa using ih xs i htp.2 (by simpa using hh)
    obtain⟨y,hy1,hy2⟩:=key ps ys.toList i hp hg;refine⟨_,h,y,?_,hy2⟩;have hy1':ys[i]? =some y:=by simpa using hy1
    simp[execOp,Instr.extract,hc,hy1']
   ·simp at h
  ·simp at h
 case call c=>
  have hargs:=RA hev c.args.toList;split at h
  ·rename_i b hb;obtain⟨cs,hcs⟩:=Zg4 (e:=e) (o:=⟨dst, .call c,type,pos,after,guard⟩) (c:=c) rfl hb;refine Zeg (xs:=c.args.toList.map e) (by rw[hargs.1]) hargs.2 h (ty:=type) (cs:=cs) ?_;rw[hcs,<-Array.toList_map]
  ·rename_i f hf;cases hp:C.pure f<;>rw[hp]at h
   ·exact⟨_,h,c.args.toList.map e,hargs.1.symm,hargs.2,Qzs rfl hf (hfn f)⟩
   ·exact⟨_,h,c.args.toList.map e,hargs.1.symm,hargs.2,Qzs rfl hf (hfn f)⟩
  ·rename_i t ht;split at h
   ·rename_i f fs cs hcl;have hv:=hev (.tmp t);rw[hcl]at hv;obtain⟨xs,ys,hc,h1,h2⟩:=hv.c;obtain⟨q1,q2⟩:=Q8w (Qoa h1) (Q8w hargs (Qoa h2));cases hcl:(Ak AC.clOk fs&&Ak AC.clOk cs)<;>rw[hcl]at h
    ·simp at h
    ·exact⟨_,h,_,q1.symm,q2,Zy8 rfl ht hc⟩
   ·simp at h
  ·simp at h
end
open Go.RowKit
section defs
variable (aB:List (Nat×Box)) (aC:List (Nat×Row))
def AC.wfP:AC->Prop
 | .ptr key _=>∃b,Ac aB key=some b
 |_=>True
def AC.wf:AC->Prop
 | .ptr key _=>∃b,Ac aB key=some b
 | .bsl key _=>∃b,Ac aB key=some b
 | .own id w n=>∃r,Ac aC id=some r/\r.n=n/\r.w=w
 | .rptr id idx _=>∃r,Ac aC id=some r/\idx<r.n
 | .vptr cs _=>Ak AC.calm cs=true
 | .clo _ fs cs=>(∀a∈fs,AC.wfP aB a)/\∀a∈cs,AC.wfP aB a
 |_=>True
def TV.wf:TV->Prop
 | .v _ cs=>∀a∈cs,AC.wf aB aC a
 | .tup ps=>∀p∈ps,∀a∈p.2,AC.wf aB aC a
 | .dead=>True
end defs
structure Fr (F : Nat -> Prop) (w w' : World) : Prop where
 os:w'.os=w.os
 tape:w'.tape=w.tape
 output:w'.output=w.output
 size:w.heap.size<=w'.heap.size
 block:∀k,F k->w'.heap[k]? =w.heap[k]?
theorem Fr.refl (F:Nat->Prop) (w:World):Fr F w w:=⟨rfl,rfl,rfl,co _,λ_ _=>rfl⟩
theorem Fr.trans {F:Nat->Prop} {a b c:World} (h:Fr F a b) (k:Fr F b c):Fr F a c:=
 ⟨k.os.trans h.os,k.tape.trans h.tape,k.output.trans h.output,bv h.size k.size,λi hi=>(k.block i hi).trans (h.block i hi)⟩
theorem Fr.mono {F F':Nat->Prop} {w w':World} (h:Fr F w w') (hF:∀k,F' k->F k):Fr F' w w':=⟨h.os,h.tape,h.output,h.size,λk hk=>h.block k (hF k hk)⟩
theorem Fr.drew {F:Nat->Prop} {a w:World} (h:Fr F a w):Fr F a w.drew:=⟨h.os,h.tape,h.output,h.size,h.block⟩
theorem Fr.alloc {F:Nat->Prop} {a w:World} (h:Fr F a w) (hF:∀k,F k->k<w.heap.size) (o:Obj):Fr F a (w.alloc o):=
 h.trans ⟨rfl,rfl,rfl,by simp,λk hk=>Below.heap_alloc _ _ _ (hF k hk)⟩
theorem Fr.of_below {w w':World} {F:Nat->Prop} (h:Below w.heap.size w w') (hF:∀k,F k->k<w.heap.size):Fr F w w':=⟨h.os,h.tape,h.output,h.size,λk hk=>h.block k (hF k hk)⟩
theorem Fr.grown {F:Nat->Prop} {a w w':World} {row:Option Nat} (h:Fr F a w) (hg:w.grownBy w' row) (hF:∀k,F k->k<w.heap.size) (hr:∀k,row=some k-> ¬F k):Fr F a w':=
 h.trans ⟨hg.os,hg.tape,hg.output,hg.size,λk hk=>hg.block k (hF k hk) (λe=>hr k e.symm hk)⟩
structure Base where
 F:Nat->Prop
 w0:World
 I0:Nat->Prop
 K0:Nat->Option Nat
structure RelE (Z : Base) (tm : List TV) (aB : List (Nat × Box)) (aC : List (Nat × Row)) (ρ : Env) (tmps : Array Value) (w : World) : Prop where
 tl:tm.length=tmps.size
 tv:∀(i:Nat) (v:TV),tm[i]? =some v->TVR ρ w v (tmps.getD i undef)
 wt:∀v∈tm,TV.wf aB aC v
 wb:∀(k:Nat) (b:Box),Ac aB k=some b->∀a∈b.cells,AC.wf aB aC a
 bx:∀(k:Nat) (b:Box),Ac aB k=some b->∃arr:Array Value,w.heap[ρ.bx k]? =some (.cells arr b.ty (0,0))/\CL (CC ρ w) b.cells arr.toList/\ ¬Z.F (ρ.bx k)
 bi:∀(k k':Nat) (b b':Box),Ac aB k=some b->Ac aB k'=some b'->ρ.bx k=ρ.bx k'->k=k'
 ro:∀(id:Nat) (r:Row),Ac aC id=some r->0<r.w/\ρ.wd id=r.w/\(∀g,(ρ.rv id).ownBlock=some g-> ¬Z.F g)/\∃xs,EC w r.ty r.w (ρ.rv id) r.n xs/\RowC ρ.im w r.ks r.l xs
 ri:∀(id id':Nat) (r r':Row) (g:Nat),Ac aC id=some r->Ac aC id'=some r'->(ρ.rv id).ownBlock=some g->(ρ.rv id').ownBlock=some g->id=id'
 br:∀(k:Nat) (b:Box) (id:Nat) (r:Row),Ac aB k=some b->Ac aC id=some r->(ρ.rv id).ownBlock≠some (ρ.bx k)
 ib:∀b,ρ.im b->b<w.heap.size/\(∀(k:Nat) (bo:Box),Ac aB k=some bo->ρ.bx k≠b)/\(∀(id:Nat) (r:Row),Ac aC id=some r->(ρ.rv id).ownBlock≠some b)
 fr:Fr Z.F Z.w0 w
 fs:∀k,Z.F k->k<w.heap.size
 i0:∀b,Z.I0 b->ρ.im b
 i1:∀b,ρ.im b->Z.I0 b\/ ¬Z.F b
 k0:∀k b,Z.K0 k=some b->ρ.bx k=b/\∃bo,Ac aB k=some bo
section
variable {P:Program} {C:Cfg} {ρ:Env} {w:World} {R:Type} {Z:Base} {tm:List TV} {aB:List (Nat×Box)} {aC:List (Nat×Row)} {tmps:Array Value}
theorem Of {w:World} {b:Nat} {o:Obj} (h:w.heap[b]? =some o):b<w.heap.size:=(db.1 h).1
theorem RelE.bxlt (h:RelE Z tm aB aC ρ tmps w) {k:Nat} {b:Box} (hk:Ac aB k=some b):ρ.bx k<w.heap.size:=by
 obtain⟨arr,h1,_⟩:=h.bx k b hk;exact Of h1
theorem RelE.rwlt (h:RelE Z tm aB aC ρ tmps w) {id:Nat} {r:Row} (hk:Ac aC id=some r) {g:Nat} (hg:(ρ.rv id).ownBlock=some g): ¬Z.F g/\g<w.heap.size:=by
 obtain⟨_,_,h0,xs,h1,_⟩:=h.ro id r hk;exact⟨h0 g hg,Q1a h1 g hg⟩
theorem TVR.mono {ρ ρ':Env} {w w':World} (hcc:∀(a:AC) (x:Value),CC ρ w a x->CC ρ' w' a x):∀(v:TV) (x:Value),TVR ρ w v x->TVR ρ' w' v x:=by
 intro v x h;have hl:∀{l xs},CL (CC ρ w) l xs->CL (CC ρ' w') l xs:=λh=>h.mono λa _ x hx=>hcc a x hx;cases v with
 |dead=>trivial
 |v g cs=>
  cases g
  ·obtain⟨a,h1,h2⟩:=h;exact⟨a,h1,hcc a _ h2⟩
  ·obtain⟨ys,h1,h2⟩:=h;exact⟨ys,h1,hl h2⟩
 |tup ps=>
  obtain⟨ys,h1,h2⟩:=h;refine⟨ys,h1,?_⟩;generalize ys.toList=l at h2;clear h1;induction ps generalizing l with
  |nil=>cases l<;>first|exact h2|exact h2.elim
  |cons p ps ih=>
   cases l with
   |nil=>exact h2.elim
   |cons y l=>
    obtain⟨g,cs⟩:=p;refine⟨?_,ih l h2.2⟩;have:=h2.1;cases g
    ·obtain⟨a,h1,h2⟩:=this;exact⟨a,h1,hcc a _ h2⟩
    ·obtain⟨ys,h1,h2⟩:=this;exact⟨ys,h1,hl h2⟩
theorem TVR.mono' {ρ ρ':Env} {w w':World} {v:TV} (hcc:∀(a:AC) (x:Value),AC.wf aB aC a->CC ρ w a x->CC ρ' w' a x) (hw:TV.wf aB aC v) {x:Value} (h:TVR ρ w v x):TVR ρ' w' v x:=by
 have hl:∀{l xs},(∀a∈l,AC.wf aB aC a)->CL (CC ρ w) l xs->CL (CC ρ' w') l xs:=λhh h=>h.mono λa ha x hx=>hcc a x (hh a ha) hx;cases v with
 |dead=>trivial
 |v g cs=>
  cases g
  ·obtain⟨a,h1,h2⟩:=h;subst h1;exact⟨a,rfl,hcc a _ (hw a (by simp)) h2⟩
  ·obtain⟨ys,h1,h2⟩:=h;exact⟨ys,h1,hl hw h2⟩
 |tup ps=>
  obtain⟨ys,h1,h2⟩:=h;refine⟨ys,h1,?_⟩;generalize ys.toList=l at h2;clear h1;induction ps generalizing l with
  |nil=>cases l<;>first|exact h2|exact h2.elim
  |cons p ps ih=>
   cases l with
   |nil=>exact h2.elim
   |cons y l=>
    obtain⟨g,cs⟩:=p;refine⟨?_,ih (λq hq=>hw q (by simp[hq])) l h2.2⟩;have:=h2.1;cases g
    ·obtain⟨a,q1,q2⟩:=this;subst q1;exact⟨a,rfl,hcc a _ (hw (false,[a]) (by simp) a (by simp)) q2⟩
    ·obtain⟨ys,q1,q2⟩:=this;exact⟨ys,q1,hl (hw (true,cs) (by simp)) q2⟩
theorem RowC.mono {im im':Nat->Prop} {w w':World} {ks:List Kd} {l:List (List AC)} {xs:List Value} (hi:∀b,im b->im' b) (hb:∀b,im b->w'.heap[b]? =w.heap[b]?) (h:RowC im w ks l xs):RowC im' w' ks l xs:=
 ⟨h.1,h.2.1,λi c hin=>(h.2.2 i c hin).mono λa _ x hx=>CP.mono hi hb a x hx⟩
theorem AC.agree_refl {ρ ρ':Env} (h1:ρ'.bx=ρ.bx) (h2:ρ'.rv=ρ.rv) (h3:ρ'.wd=ρ.wd) (a:AC):a.agree ρ ρ':=by
 have hp:∀a:AC,a.agreeP ρ ρ':=by intro a;cases a<;>first|(simp only[AC.agreeP,h1];done)|trivial
 cases a with
 |ptr=>simp only[AC.agree,h1]
 |bsl=>simp only[AC.agree,h1]
 |own=>simp only[AC.agree,h2,h3,and_self]
 |rptr=>simp only[AC.agree,h2,h3,and_self]
 |clo=>exact⟨λa _=>hp a,λa _=>hp a⟩
 |_=>trivial
theorem CC.keep {g:Nat} {w':World} (hg: ¬ρ.im g) (hb:∀b,b≠g->w'.heap[b]? =w.heap[b]?) (a:AC) (x:Value) (h:CC ρ w a x):CC ρ w' a x:=
 CC.mono (λ_ h=>h) (λb hbm=>hb b (λe=>hg (e▸hbm))) a x (AC.agree_refl rfl rfl rfl a) h
def upN {α:Type} (f:Nat->α) (k:Nat) (v:α):Nat->α:=λj=>if j=k then v else f j
theorem BM {α:Type} (f:Nat->α) (k:Nat) (v:α):upN f k v k=v:=by simp[upN]
theorem B4 {α:Type} (f:Nat->α) (k:Nat) (v:α) {j:Nat} (h:j≠k):upN f k v j=f j:=by simp[upN,h]
theorem AC.wfP_mono {boxes':List (Nat×Box)} (hb:∀(k:Nat) (b:Box),Ac aB k=some b->∃b',Ac boxes' k=some b') {a:AC} (h:AC.wfP aB a):AC.wfP boxes' a:=by
 cases a with
 |ptr k o=>obtain⟨b,h⟩:=h;exact hb k b h
 |_=>trivial
theorem AC.wf_mono {boxes':List (Nat×Box)} {rows':List (Nat×Row)} (hb:∀(k:Nat) (b:Box),Ac aB k=some b->∃b',Ac boxes' k=some b')
  (hr:∀(k:Nat) (r:Row),Ac aC k=some r->∃r',Ac rows' k=some r'/\r'.n=r.n/\r'.w=r.w) {a:AC} (h:AC.wf aB aC a):AC.wf boxes' rows' a:=by
 cases a with
 |ptr k o=>obtain⟨b,h⟩:=h;exact hb k b h
 |bsl k o=>obtain⟨b,h⟩:=h;exact hb k b h
 |own id w' n=>obtain⟨r,h1,h2,h3⟩:=h;obtain⟨r',q1,q2,q3⟩:=hr id r h1;exact⟨r',q1,by rw[q2,h2],by rw[q3,h3]⟩
 |rptr id i s=>obtain⟨r,h1,h2⟩:=h;obtain⟨r',q1,q2,q3⟩:=hr id r h1;exact⟨r',q1,by rw[q2];exact h2⟩
 |vptr=>exact h
 |clo f fs cs=>exact⟨λa ha=>AC.wfP_mono hb (h.1 a ha),λa ha=>AC.wfP_mono hb (h.2 a ha)⟩
 |_=>trivial
theorem AC.agree_of {ρ':Env} (hk:∀k,(∃b,Ac aB k=some b)->ρ'.bx k=ρ.bx k) (hr:∀id,(∃r,Ac aC id=some r)->ρ'.rv id=ρ.rv id/\ρ'.wd id=ρ.wd id) {a:AC} (h:AC.wf aB aC a):a.agree ρ ρ':=by
 have hp:∀l:List AC,(∀a∈l,AC.wfP aB a)->∀a∈l,a.agreeP ρ ρ':=by
  intro l hl a ha;have:=hl a ha;cases a<;>first|exact hk _ this|trivial
 cases a with
 |ptr k o=>exact hk k h
 |bsl k o=>exact hk k h
 |own id w n=>obtain⟨r,h1,_⟩:=h;exact hr id ⟨r,h1⟩
 |rptr id i s=>obtain⟨r,h1,_⟩:=h;exact hr id ⟨r,h1⟩
 |clo f fs cs=>exact⟨hp fs h.1,hp cs h.2⟩
 |_=>trivial
theorem TV.wf_mono {boxes':List (Nat×Box)} {rows':List (Nat×Row)} (ha:∀a,AC.wf aB aC a->AC.wf boxes' rows' a) {v:TV} (h:TV.wf aB aC v):TV.wf boxes' rows' v:=by
 cases v with
 |dead=>trivial
 |v g cs=>exact λa hm=>ha a (h a hm)
 |tup ps=>exact λp hp a hm=>ha a (h p hp a hm)
theorem RelE.new (h:RelE Z tm aB aC ρ tmps w) {d:Nat} (hd:Ac aB d=none) {ty:TypeId} {cs:List AC} {arr:Array Value} (hw:∀a∈cs,AC.wf aB aC a) (hc:CL (CC ρ w) cs arr.toList):
  RelE Z tm (ins aB d ⟨ty,cs⟩) aC {ρ with bx:=upN ρ.bx d w.heap.size} tmps (w.alloc (.cells arr ty)):=by
 have hlk:∀(k:Nat) (b:Box),Ac aB k=some b->Ac (ins aB d ⟨ty,cs⟩) k=some b:=by
  intro k b hk;rw[DA]
  ·exact hk
  ·rintro rfl;rw[hd]at hk;cases hk
 have hlk':∀(k:Nat) (b:Box),Ac (ins aB d ⟨ty,cs⟩) k=some b->(k=d/\b=⟨ty,cs⟩)\/(k≠d/\Ac aB k=some b):=by
  intro k b hk;by_cases hkd:k=d
  ·subst hkd;rw[EJ _ _ _ hd]at hk;simp at hk;exact .inl ⟨rfl,hk.symm⟩
  ·rw[DA _ _ _ _ hkd]at hk;exact .inr ⟨hkd,hk⟩
 have hwf:∀a,AC.wf aB aC a->AC.wf (ins aB d ⟨ty,cs⟩) aC a:=λa=>AC.wf_mono (λk b hk=>⟨b,hlk k b hk⟩) (λk r hk=>⟨r,hk,rfl,rfl⟩);have hold:∀b,b<w.heap.size->(w.alloc (.cells arr ty)).heap[b]? =w.heap[b]? :=λb hb=>Below.heap_alloc w _ b hb;have hcc:∀(a:AC) (x:Value),AC.wf aB aC a->CC ρ w a x->CC {ρ with bx:=upN ρ.bx d w.heap.size} (w.alloc (.cells arr ty)) a x:=by
  intro a x ha hx;refine CC.mono (ρ:=ρ) (ρ':={ρ with bx:=upN ρ.bx d w.heap.size}) (λb hb=>hb) (λb hb=>hold b (h.ib b hb).1) a x ?_ hx;refine AC.agree_of (ρ:=ρ) (ρ':={ρ with bx:=upN ρ.bx d w.heap.size}) (λk hkb=>B4 _ _ _ ?_) (λid _=>⟨rfl,rfl⟩) ha;rintro rfl;obtain⟨b,hb⟩:=hkb;rw[hd]at hb;cases hb
 refine⟨h.tl,λi v hi=>TVR.mono' hcc (h.wt v (bn hi)) (h.tv i v hi),λv hv=>TV.wf_mono hwf (h.wt v hv),?_,?_,?_,?_,h.ri,?_,?_,?_,?_,h.i0,h.i1,?_⟩
 ·intro k b hk a ha;rcases hlk' k b hk with⟨rfl,rfl⟩|⟨hne,hk⟩
  ·exact hwf a (hw a ha)
  ·exact hwf a (h.wb k b hk a ha)
 ·intro k b hk;rcases hlk' k b hk with⟨rfl,rfl⟩|⟨hne,hk⟩
  ·refine⟨arr,?_,hc.mono λa ha x hx=>hcc a x (hw a ha) hx,?_⟩
   ·show(w.alloc _).heap[upN ρ.bx k w.heap.size k]? =_;rw[BM];exact heap_alloc_new w _
   ·show¬Z.F (upN ρ.bx k w.heap.size k);rw[BM];exact λhf=>Nat.lt_irrefl _ (h.fs _ hf)
  ·obtain⟨ar,h1,h2,h3⟩:=h.bx k b hk;refine⟨ar,?_,h2.mono λa ha x hx=>hcc a x (h.wb k b hk a ha) hx,?_⟩
   ·show(w.alloc _).heap[upN ρ.bx d w.heap.size k]? =_;rw[B4 _ _ _ hne,hold _ (Of h1)];exact h1
   ·show¬Z.F (upN ρ.bx d w.heap.size k);rw[B4 _ _ _ hne];exact h3
 ·intro k k' b b' hk hk' he;change upN ρ.bx d w.heap.size k=upN ρ.bx d w.heap.size k' at he;rcases hlk' k b hk with⟨e1,_⟩|⟨hne,hk1⟩<;>rcases hlk' k' b' hk' with⟨e2,_⟩|⟨hne',hk1'⟩
  ·rw[e1,e2]
  ·rw[e1,BM,B4 _ _ _ hne']at he;have:=h.bxlt hk1';omega
  ·rw[e2,BM,B4 _ _ _ hne]at he;have:=h.bxlt hk1;omega
  ·rw[B4 _ _ _ hne,B4 _ _ _ hne']at he;exact h.bi k k' b b' hk1 hk1' he
 ·intro id r hr;obtain⟨h1,h2,h0,xs,h3,h4⟩:=h.ro id r hr;exact⟨h1,h2,h0,xs,LE h3 (λg hg=>hold g (Q1a h3 g hg)),h4.mono (λb hb=>hb) (λb hb=>hold b (h.ib b hb).1)⟩
 ·intro k b id r hk hr he;change (ρ.rv id).ownBlock=some (upN ρ.bx d w.heap.size k)at he;rcases hlk' k b hk with⟨rfl,rfl⟩|⟨hne,hk⟩
  ·rw[BM]at he;have:=(h.rwlt hr he).2;omega
  ·rw[B4 _ _ _ hne]at he;exact h.br k b id r hk hr he
 ·intro b hb;obtain⟨h1,h2,h3⟩:=h.ib b hb;refine⟨by simp;omega,λk bo hk=> ?_,h3⟩;show upN ρ.bx d w.heap.size k≠b;rcases hlk' k bo hk with⟨rfl,rfl⟩|⟨hne,hk⟩
  ·rw[BM];omega
  ·rw[B4 _ _ _ hne];exact h2 k bo hk
 ·exact h.fr.alloc h.fs _
 ·intro k hk;have:=h.fs k hk;simp;omega
 ·intro k b hk;obtain⟨q1,bo,q2⟩:=h.k0 k b hk;exact⟨by show upN ρ.bx d w.heap.size k=b;rw[B4 _ _ _ (by rintro rfl;rw[hd]at q2;cases q2)];exact q1,bo,hlk k bo q2⟩
theorem RelE.store (h:RelE Z tm aB aC ρ tmps w) {key:Nat} {b:Box} (hk:Ac aB key=some b) {cells:List AC} (hw:∀a∈cells,AC.wf aB aC a) {arr:Array Value} (hc:CL (CC ρ w) cells arr.toList):
  RelE Z tm (upd aB key ⟨b.ty,cells⟩) aC ρ tmps (w.setRow (ρ.bx key) arr):=by
 obtain⟨ar,h1,h2,h3⟩:=h.bx key b hk;have hng: ¬ρ.im (ρ.bx key):=λhi=>(h.ib _ hi).2.1 key b hk rfl;have hold:∀g,g≠ρ.bx key->(w.setRow (ρ.bx key) arr).heap[g]? =w.heap[g]? :=λg hg=>setRow_other w _ g _ hg;have hcc:∀(a:AC) (x:Value),CC ρ w a x->CC ρ (w.setRow (ρ.bx key) arr) a x:=λa x hx=>CC.keep hng hold a x hx;have hlk':∀(k:Nat) (bo:Box),Ac (upd aB key ⟨b.ty,cells⟩) k=some bo->(k=key/\bo=⟨b.ty,cells⟩)\/(k≠key/\Ac aB k=some bo):=by
  intro k bo hk';by_cases hkd:k=key
  ·subst hkd;rw[EG _ _ _ _ hk]at hk';simp at hk';exact .inl ⟨rfl,hk'.symm⟩
  ·rw[Dc _ _ _ _ hkd]at hk';exact .inr ⟨hkd,hk'⟩
 have hbk:∀(k:Nat) (bo:Box),Ac (upd aB key ⟨b.ty,cells⟩) k=some bo->∃bo',Ac aB k=some bo':=by
  intro k bo hk';rcases hlk' k bo hk' with⟨rfl,rfl⟩|⟨_,h⟩
  ·exact⟨b,hk⟩
  ·exact⟨bo,h⟩
 have hwf : ∀ a, AC.wf aB aC a -> AC.wf (upd aB key ⟨b.ty, cells⟩) aC a := λa => AC.wf_mono (λk bo hk' => by
  by_cases hkd:k=key
  ·subst hkd;exact⟨_,EG _ _ _ _ hk⟩
  ·exact⟨bo,by rw[Dc _ _ _ _ hkd];exact hk'⟩) (λk r hk=>⟨r,hk,rfl,rfl⟩)
 refine⟨h.tl,λi v hi=>TVR.mono hcc v _ (h.tv i v hi),λv hv=>TV.wf_mono hwf (h.wt v hv),?_,?_,?_,?_,h.ri,?_,?_,?_,?_,h.i0,h.i1,?_⟩
 ·intro k bo hk' a ha;rcases hlk' k bo hk' with⟨rfl,rfl⟩|⟨hne,hk'⟩
  ·exact hwf a (hw a ha)
  ·exact hwf a (h.wb k bo hk' a ha)
 ·intro k bo hk';rcases hlk' k bo hk' with⟨rfl,rfl⟩|⟨hne,hk'⟩
  ·exact⟨arr,setRow_heap w _ ar _ b.ty _ h1,hc.mono λa _ x hx=>hcc a x hx,h3⟩
  ·obtain⟨ar',q1,q2,q3⟩:=h.bx k bo hk';refine⟨ar',?_,q2.mono λa _ x hx=>hcc a x hx,q3⟩;rw[hold _ (λe=>hne (h.bi k key bo b hk' hk e))];exact q1
 ·intro k k' bo bo' hk1 hk2 he;obtain⟨_,p1⟩:=hbk k bo hk1;obtain⟨_,p2⟩:=hbk k' bo' hk2;exact h.bi k k' _ _ p1 p2 he
 ·intro id r hr;obtain⟨q1,q2,q0,xs,q3,q4⟩:=h.ro id r hr;exact⟨q1,q2,q0,xs,LE q3 (λg hg=>hold g (λe=>h.br key b id r hk hr (by rw[hg,e]))),q4.mono (λ_ hb=>hb) (λg hg=>hold g (λe=>hng (e▸hg)))⟩
 ·intro k bo id r hk1 hr;obtain⟨_,p1⟩:=hbk k bo hk1;exact h.br k _ id r p1 hr
 ·intro g hg;obtain⟨q1,q2,q3⟩:=h.ib g hg;exact⟨by simpa using q1,λk bo hk1=>by obtain⟨_,p1⟩:=hbk k bo hk1;exact q2 k _ p1,q3⟩
 ·exact h.fr.trans ⟨rfl,rfl,rfl,by simp,λg hg=>hold g (λe=>h3 (e▸hg))⟩
 ·intro k hk;simpa using h.fs k hk
 ·intro k b' hk';obtain⟨q1,bo,q2⟩:=h.k0 k b' hk';refine⟨q1,?_⟩;by_cases hkd:k=key
  ·subst hkd;exact⟨_,EG _ _ _ _ hk⟩
  ·exact⟨bo,by rw[Dc _ _ _ _ hkd];exact q2⟩
theorem RelE.addRow (h:RelE Z tm aB aC ρ tmps w) {d:Nat} (hd:Ac aC d=none) {r:Row} {v':Value} {xs:List Value} {w':World} (hb:Below w.heap.size w w')
  (hw:0<r.w) (hown:EC w' r.ty r.w v' r.n xs) (hrow:RowC ρ.im w' r.ks r.l xs) (hfresh:∀g,v'.ownBlock=some g->w.heap.size<=g):
  RelE Z tm aB (ins aC d r) {ρ with rv:=upN ρ.rv d v',wd:=upN ρ.wd d r.w} tmps w':=by
 have hlk:∀(k:Nat) (q:Row),Ac aC k=some q->Ac (ins aC d r) k=some q:=by
  intro k q hk;rw[DA]
  ·exact hk
  ·rintro rfl;rw[hd]at hk;cases hk
 have hlk':∀(k:Nat) (q:Row),Ac (ins aC d r) k=some q->(k=d/\q=r)\/(k≠d/\Ac aC k=some q):=by
  intro k q hk;by_cases hkd:k=d
  ·subst hkd;rw[EJ _ _ _ hd]at hk;simp at hk;exact .inl ⟨rfl,hk.symm⟩
  ·rw[DA _ _ _ _ hkd]at hk;exact .inr ⟨hkd,hk⟩
 have hwf:∀a,AC.wf aB aC a->AC.wf aB (ins aC d r) a:=λa=>AC.wf_mono (λk b hk=>⟨b,hk⟩) (λk q hk=>⟨q,hlk k q hk,rfl,rfl⟩);have hold:∀b,b<w.heap.size->w'.heap[b]? =w.heap[b]? :=λb hlt=>hb.block b hlt;have hcc:∀(a:AC) (x:Value),AC.wf aB aC a->CC ρ w a x->CC {ρ with rv:=upN ρ.rv d v',wd:=upN ρ.wd d r.w} w' a x:=by
  intro a x ha hx;refine CC.mono (ρ:=ρ) (ρ':={ρ with rv:=upN ρ.rv d v',wd:=upN ρ.wd d r.w}) (λb hb=>hb) (λb hb=>hold b (h.ib b hb).1) a x ?_ hx;refine AC.agree_of (ρ:=ρ) (ρ':={ρ with rv:=upN ρ.rv d v',wd:=upN ρ.wd d r.w}) (λk _=>rfl) (λid ⟨q,hq⟩=> ?_) ha;have:id≠d:=by rintro rfl;rw[hd]at hq;cases hq
  exact⟨B4 _ _ _ this,B4 _ _ _ this⟩
 refine⟨h.tl,λi v hi=>TVR.mono' hcc (h.wt v (bn hi)) (h.tv i v hi),λv hv=>TV.wf_mono hwf (h.wt v hv),λk b hk a ha=>hwf a (h.wb k b hk a ha),?_,h.bi,?_,?_,?_,?_,?_,?_,h.i0,h.i1,λk b hk=>h.k0 k b hk⟩
 ·intro k b hk;obtain⟨ar,h1,h2,h3⟩:=h.bx k b hk;exact⟨ar,by rw[hold _ (Of h1)];exact h1,h2.mono λa ha x hx=>hcc a x (h.wb k b hk a ha) hx,h3⟩
 ·intro id q hq;rcases hlk' id q hq with⟨e1,e2⟩|⟨hne,hq⟩
  ·subst e1 e2;refine⟨hw,BM _ _ _,?_,xs,?_,hrow⟩
   ·intro g hg hf;change (upN ρ.rv id v' id).ownBlock=some g at hg;rw[BM]at hg;exact Nat.lt_irrefl _ (dq (h.fs g hf) (hfresh g hg))
   show EC w' q.ty q.w (upN ρ.rv id v' id) q.n xs;rw[BM];exact hown
  ·obtain⟨h1,h2,h0,ys,h3,h4⟩:=h.ro id q hq;refine⟨h1,by show upN ρ.wd d r.w id=_;rw[B4 _ _ _ hne];exact h2,by show∀g,(upN ρ.rv d v' id).ownBlock=some g->_;rw[B4 _ _ _ hne];exact h0,ys,?_,h4.mono (λb hb=>hb) (λb hb=>hold b (h.ib b hb).1)⟩;show EC w' q.ty q.w (upN ρ.rv d v' id) q.n ys;rw[B4 _ _ _ hne];exact LE h3 λg hg=>hold g (h.rwlt hq hg).2
 ·intro id id' q q' g hq hq' hg hg';change (upN ρ.rv d v' id).ownBlock=_ at hg;change (upN ρ.rv d v' id').ownBlock=_ at hg';rcases hlk' id q hq with⟨e1,_⟩|⟨hne,hq1⟩<;>rcases hlk' id' q' hq' with⟨e2,_⟩|⟨hne',hq1'⟩
  ·rw[e1,e2]
  ·rw[e1,BM]at hg;rw[B4 _ _ _ hne']at hg';have:=hfresh g hg;have:=(h.rwlt hq1' hg').2;omega
  ·rw[e2,BM]at hg';rw[B4 _ _ _ hne]at hg;have:=hfresh g hg';have:=(h.rwlt hq1 hg).2;omega
  ·rw[B4 _ _ _ hne]at hg;rw[B4 _ _ _ hne']at hg';exact h.ri id id' q q' g hq1 hq1' hg hg'
 ·intro k b id q hk hq he;change (upN ρ.rv d v' id).ownBlock=some (ρ.bx k)at he;rcases hlk' id q hq with⟨e1,_⟩|⟨hne,hq1⟩
  ·rw[e1,BM]at he;have:=hfresh _ he;have:=h.bxlt hk;omega
  ·rw[B4 _ _ _ hne]at he;exact h.br k b id q hk hq1 he
 ·intro b hbm;obtain⟨h1,h2,h3⟩:=h.ib b hbm;refine⟨dq h1 hb.size,h2,λid q hq he=> ?_⟩;change (upN ρ.rv d v' id).ownBlock=some b at he;rcases hlk' id q hq with⟨e1,_⟩|⟨hne,hq1⟩
  ·rw[e1,BM]at he;have:=hfresh _ he;omega
  ·rw[B4 _ _ _ hne]at he;exact h3 id q hq1 he
 ·exact h.fr.trans (Fr.of_below hb h.fs)
 ·exact λk hk=>dq (h.fs k hk) hb.size
def AC.free (id:Nat):AC->Prop
 | .own j _ _=>j≠id
 | .rptr j _ _=>j≠id
 |_=>True
def TV.free (id:Nat):TV->Prop
 | .v _ cs=>∀a∈cs,AC.free id a
 | .tup ps=>∀p∈ps,∀a∈p.2,AC.free id a
 | .dead=>True
theorem TVR.mono2 {ρ ρ':Env} {w w':World} {v:TV} {Q:AC->Prop} (hcc:∀(a:AC) (x:Value),Q a->CC ρ w a x->CC ρ' w' a x)
  (hw:match v with| .v _ cs=>∀a∈cs,Q a| .tup ps=>∀p∈ps,∀a∈p.2,Q a| .dead=>True) {x:Value} (h:TVR ρ w v x):TVR ρ' w' v x:=by
 have hl:∀{l xs},(∀a∈l,Q a)->CL (CC ρ w) l xs->CL (CC ρ' w') l xs:=λhh h=>h.mono λa ha x hx=>hcc a x (hh a ha) hx;cases v with
 |dead=>trivial
 |v g cs=>
  cases g
  ·obtain⟨a,h1,h2⟩:=h;subst h1;exact⟨a,rfl,hcc a _ (hw a (by simp)) h2⟩
  ·obtain⟨ys,h1,h2⟩:=h;exact⟨ys,h1,hl hw h2⟩
 |tup ps=>
  obtain⟨ys,h1,h2⟩:=h;refine⟨ys,h1,?_⟩;generalize ys.toList=l at h2;clear h1;induction ps generalizing l with
  |nil=>cases l<;>first|exact h2|exact h2.elim
  |cons p ps ih=>
   cases l with
   |nil=>exact h2.elim
   |cons y l=>
    obtain⟨g,cs⟩:=p;refine⟨?_,ih (λq hq=>hw q (by simp[hq])) l h2.2⟩;have:=h2.1;cases g
    ·obtain⟨a,q1,q2⟩:=this;subst q1;exact⟨a,rfl,hcc a _ (hw (false,[a]) (by simp) a (by simp)) q2⟩
    ·obtain⟨ys,q1,q2⟩:=this;exact⟨ys,q1,hl (hw (true,cs) (by simp)) q2⟩
theorem RelE.turnRow (h:RelE Z tm aB aC ρ tmps w) {id:Nat} {r:Row} (hid:Ac aC id=some r) {r':Row} {v':Value} {xs:List Value} {w':World} (hg:w.grownBy w' (ρ.rv id).ownBlock)
  (hw:r'.w=r.w) (hown:EC w' r'.ty r'.w v' r'.n xs) (hrow:RowC ρ.im w' r'.ks r'.l xs) (hplace:v'.ownBlock=(ρ.rv id).ownBlock\/∀g,v'.ownBlock=some g->w.heap.size<=g)
  (hag:(v'=ρ.rv id/\r'.n=r.n)\/((∀v∈tm,TV.free id v)/\∀(k:Nat) (b:Box),Ac aB k=some b->∀a∈b.cells,AC.free id a)):
  RelE Z tm aB (upd aC id r') {ρ with rv:=upN ρ.rv id v'} tmps w':=by
 have hlk':∀(k:Nat) (q:Row),Ac (upd aC id r') k=some q->(k=id/\q=r')\/(k≠id/\Ac aC k=some q):=by
  intro k q hk;by_cases hkd:k=id
  ·subst hkd;rw[EG _ _ _ _ hid]at hk;simp at hk;exact .inl ⟨rfl,hk.symm⟩
  ·rw[Dc _ _ _ _ hkd]at hk;exact .inr ⟨hkd,hk⟩
 have hng:∀b,ρ.im b->some b≠(ρ.rv id).ownBlock:=λb hb e=>(h.ib b hb).2.2 id r hid e.symm;have himb:∀b,ρ.im b->w'.heap[b]? =w.heap[b]? :=λb hb=>hg.block b (h.ib b hb).1 (hng b hb)
 let Q:AC->Prop:=λa=>AC.wf aB aC a/\((v'=ρ.rv id/\r'.n=r.n)\/AC.free id a)
 have hwf:∀a,Q a->AC.wf aB (upd aC id r') a:=by
  rintro a ⟨ha,hq⟩;cases a with
  |ptr=>exact ha
  |own j w1 n1=>
   obtain⟨q,q1,q2,q3⟩:=ha;by_cases hj:j=id
   ·subst hj;rcases hq with⟨_,hn⟩|hf
    ·rw[hid]at q1;simp at q1;subst q1;exact⟨r',EG _ _ _ _ hid,by rw[hn,q2],by rw[hw,q3]⟩
    ·exact absurd rfl hf
   ·exact⟨q,by rw[Dc _ _ _ _ hj];exact q1,q2,q3⟩
  |rptr j i1 s1=>
   obtain⟨q,q1,q2⟩:=ha;by_cases hj:j=id
   ·subst hj;rcases hq with⟨_,hn⟩|hf
    ·rw[hid]at q1;simp at q1;subst q1;exact⟨r',EG _ _ _ _ hid,by rw[hn];exact q2⟩
    ·exact absurd rfl hf
   ·exact⟨q,by rw[Dc _ _ _ _ hj];exact q1,q2⟩
  |vptr=>exact ha
  |clo=>exact ha
  |_=>trivial
 have hcc:∀(a:AC) (x:Value),Q a->CC ρ w a x->CC {ρ with rv:=upN ρ.rv id v'} w' a x:=by
  rintro a x ⟨_,hq⟩ hx;refine CC.mono (ρ:=ρ) (ρ':={ρ with rv:=upN ρ.rv id v'}) (λb hb=>hb) himb a x ?_ hx;have key:∀j,((v'=ρ.rv id/\r'.n=r.n)\/j≠id)->upN ρ.rv id v' j=ρ.rv j:=by
   intro j hj;by_cases hji:j=id
   ·subst hji;rcases hj with⟨e,_⟩|hf
    ·rw[BM,e]
    ·exact absurd rfl hf
   ·exact B4 _ _ _ hji
  cases a with
  |own j _ _=>exact⟨key j hq,rfl⟩
  |rptr j _ _=>exact⟨key j hq,rfl⟩
  |ptr=>rfl
  |clo f fs cs=>exact⟨λa _=>by cases a<;>first|rfl|trivial,λa _=>by cases a<;>first|rfl|trivial⟩
  |_=>trivial
 have hQt:∀v∈tm,match v with| .v _ cs=>∀a∈cs,Q a| .tup ps=>∀p∈ps,∀a∈p.2,Q a| .dead=>True:=by
  intro v hv;have h1:=h.wt v hv;have h2:(v'=ρ.rv id/\r'.n=r.n)\/TV.free id v:=Re hag (λx=>x) λx=>x.1 v hv;cases v with
  |dead=>trivial
  |v g cs=>exact λa ha=>⟨h1 a ha,Re h2 (λx=>x) λx=>x a ha⟩
  |tup ps=>exact λp hp a ha=>⟨h1 p hp a ha,Re h2 (λx=>x) λx=>x p hp a ha⟩
 have hQb:∀(k:Nat) (b:Box),Ac aB k=some b->∀a∈b.cells,Q a:=λk b hk a ha=>⟨h.wb k b hk a ha,Re hag (λx=>x) λx=>x.2 k b hk a ha⟩;have hnew:∀g,v'.ownBlock=some g->(ρ.rv id).ownBlock=some g\/w.heap.size<=g:=by
  intro g e;rcases hplace with hp|hp
  ·rw[hp]at e;exact .inl e
  ·exact .inr (hp g e)
 refine⟨h.tl,λi v hi=>TVR.mono2 hcc (hQt v (bn hi)) (h.tv i v hi),λv hv=> ?_,λk b hk a ha=>hwf a (hQb k b hk a ha),?_,h.bi,?_,?_,?_,?_,?_,?_,h.i0,h.i1,λk b hk=>h.k0 k b hk⟩
 ·have:=hQt v hv;cases v with
  |dead=>trivial
  |v g cs=>exact λa ha=>hwf a (this a ha)
  |tup ps=>exact λp hp a ha=>hwf a (this p hp a ha)
 ·intro k b hk;obtain⟨ar,h1,h2,h3⟩:=h.bx k b hk;refine⟨ar,?_,h2.mono λa ha x hx=>hcc a x (hQb k b hk a ha) hx,h3⟩;rw[hg.block _ (Of h1) (λe=>h.br k b id r hk hid e.symm)];exact h1
 ·intro j q hq;rcases hlk' j q hq with⟨e1,e2⟩|⟨hne,hq1⟩
  ·subst e1 e2;obtain⟨q1,q2,q0,_⟩:=h.ro j r hid;refine⟨by rw[hw];exact q1,by rw[hw];exact q2,?_,xs,?_,hrow⟩
   ·intro g hgg hf;change (upN ρ.rv j v' j).ownBlock=some g at hgg;rw[BM]at hgg;rcases hnew g hgg with hn|hn
    ·exact q0 g hn hf
    ·exact Nat.lt_irrefl _ (dq (h.fs g hf) hn)
   show EC w' q.ty q.w (upN ρ.rv j v' j) q.n xs;rw[BM];exact hown
  ·obtain⟨h1,h2,h0,ys,h3,h4⟩:=h.ro j q hq1;refine⟨h1,h2,by show∀g,(upN ρ.rv id v' j).ownBlock=some g->_;rw[B4 _ _ _ hne];exact h0,ys,?_,h4.mono (λb hb=>hb) himb⟩;show EC w' q.ty q.w (upN ρ.rv id v' j) q.n ys;rw[B4 _ _ _ hne];exact LE h3 λg hgg=>hg.block g (h.rwlt hq1 hgg).2 (λe=>hne (h.ri j id q r g hq1 hid hgg e.symm))
 ·intro j j' q q' g hq hq' hgj hgj';change (upN ρ.rv id v' j).ownBlock=_ at hgj;change (upN ρ.rv id v' j').ownBlock=_ at hgj';rcases hlk' j q hq with⟨e1,_⟩|⟨hne,hq1⟩<;>rcases hlk' j' q' hq' with⟨e2,_⟩|⟨hne',hq1'⟩
  ·rw[e1,e2]
  ·rw[e1,BM]at hgj;rw[B4 _ _ _ hne']at hgj';rcases hnew g hgj with hn|hn
   ·rw[e1];exact(h.ri j' id q' r g hq1' hid hgj' hn).symm
   ·have:=(h.rwlt hq1' hgj').2;omega
  ·rw[e2,BM]at hgj';rw[B4 _ _ _ hne]at hgj;rcases hnew g hgj' with hn|hn
   ·rw[e2];exact h.ri j id q r g hq1 hid hgj hn
   ·have:=(h.rwlt hq1 hgj).2;omega
  ·rw[B4 _ _ _ hne]at hgj;rw[B4 _ _ _ hne']at hgj';exact h.ri j j' q q' g hq1 hq1' hgj hgj'
 ·intro k b j q hk hq he;change (upN ρ.rv id v' j).ownBlock=some (ρ.bx k)at he;rcases hlk' j q hq with⟨e1,_⟩|⟨hne,hq1⟩
  ·rw[e1,BM]at he;rcases hnew _ he with hn|hn
   ·exact h.br k b id r hk hid hn
   ·have:=h.bxlt hk;omega
  ·rw[B4 _ _ _ hne]at he;exact h.br k b j q hk hq1 he
 ·intro b hbm;obtain⟨h1,h2,h3⟩:=h.ib b hbm;refine⟨dq h1 hg.size,h2,λj q hq he=> ?_⟩;change (upN ρ.rv id v' j).ownBlock=some b at he;rcases hlk' j q hq with⟨e1,_⟩|⟨hne,hq1⟩
  ·rw[e1,BM]at he;rcases hnew _ he with hn|hn
   ·exact h3 id r hid hn
   ·omega
  ·rw[B4 _ _ _ hne]at he;exact h3 j q hq1 he
 ·refine h.fr.grown hg h.fs λg e=>(h.rwlt hid e).1
 ·exact λk hk=>dq (h.fs k hk) hg.size
end
open Go.RowKit
def E6 (F:Nat->Prop) (w:World) (ρ:Env) (aB:List (Nat×Box)):Base:=⟨F,w,ρ.im,λk=>(Ac aB k).map λ_=>ρ.bx k⟩
def PCallM (P:Program) (f:FuncId) (args:List TV) (mem:Mem) (v:TV) (mem':Mem):Prop:=
 ∀(F:Nat->Prop) (w:World) (ρ:Env) (xs:List Value),RelE (E6 F w ρ mem.aB) args mem.aB mem.aC ρ xs.toArray w->
  Calls P f xs.toArray w λe w'=>∃(x:Value) (ρ':Env),e= .returned x/\RelE (E6 F w ρ mem.aB) [v] mem'.aB mem'.aC ρ' #[x] w'
def QY (P:Program) (f:FuncId):Prop:=∃fn,P.funcs[f]? =some fn/\(fn.name== "runtime.NumGoroutine")=false/\fn.body.isNone=false
def CallsX (P:Program) (f:FuncId) (xs:Array Value) (w:World) (R:Ending->World->Prop):Prop:=
 (QY P f/\Calls P f xs w R)\/∃x w',(callFunc f xs).run P w= .ok (.value x) w'/\R (.returned x) w'
theorem CallsX.mono {P:Program} {f:FuncId} {xs:Array Value} {w:World} {R R':Ending->World->Prop} (h:CallsX P f xs w R) (hm:∀e w',R e w'->R' e w'):CallsX P f xs w R':=by
 rcases h with⟨h1,h2⟩|⟨x,w',h1,h2⟩
 ·exact .inl ⟨h1,h2.mono hm⟩
 ·exact .inr ⟨x,w',h1,hm _ _ h2⟩
def XL (P:Program) (f:FuncId) (args:List TV) (mem:Mem) (v:TV) (mem':Mem):Prop:=
 ∀(F:Nat->Prop) (w:World) (ρ:Env) (xs:List Value),RelE (E6 F w ρ mem.aB) args mem.aB mem.aC ρ xs.toArray w->
  CallsX P f xs.toArray w λe w'=>∃(x:Value) (ρ':Env),e= .returned x/\RelE (E6 F w ρ mem.aB) [v] mem'.aB mem'.aC ρ' #[x] w'
theorem PCallM.x {P:Program} {f:FuncId} {args:List TV} {mem:Mem} {v:TV} {mem':Mem} (h:PCallM P f args mem v mem') (hc:QY P f):XL P f args mem v mem':=
 λF w ρ xs hR=> .inl ⟨hc,h F w ρ xs hR⟩
structure SpecRight (P : Program) (f : FuncId) (g : Spec) : Prop where
 nat:∀(R:Type) (args:List TV) (mem:Mem) (K:TV->Mem->Option R),g R args mem K=(g (TV×Mem) args mem λv m=>some (v,m)).bind λp=>K p.1 p.2
 ok:∀(args:List TV) (mem:Mem) (v:TV) (mem':Mem),(g (TV×Mem) args mem λv m=>some (v,m))=some (v,mem')->XL P f args mem v mem'
def Ue (g:Spec):Prop:=∀(args:List TV) (mem:Mem) (v:TV) (m:Mem),(g (TV×Mem) args mem λv m=>some (v,m))=some (v,m)->m=mem
def Ai (P:Program) (C:Cfg):Prop:=
 (∀(f:FuncId) (g:Spec),C.spec f=some g->SpecRight P f g)/\∀(f:FuncId) (g:Spec),C.spec f=some g->C.ro f=true->Ue g
theorem SpecRight.run {P:Program} {f:FuncId} {g:Spec} (h:SpecRight P f g) {R:Type} {args:List TV} {mem:Mem} {K:TV->Mem->Option R} {r:R} (hr:g R args mem K=some r):
  ∃v mem',K v mem'=some r/\XL P f args mem v mem':=by
 rw[h.nat]at hr;simp only[cq]at hr;obtain⟨⟨v,m⟩,h1,h2⟩:=hr;exact⟨v,m,h2,h.ok args mem v m h1⟩
def Prim.wf (aB:List (Nat×Box)) (aC:List (Nat×Row)):Prim->Prop
 | .val v=>TV.wf aB aC v
 | .load _ _ key _=>∃b,Ac aB key=some b
 | .store key _ cs=>(∃b,Ac aB key=some b)/\∀a∈cs,AC.wf aB aC a
 | .new _ cs=>∀a∈cs,AC.wf aB aC a
 | .newS _ _ cs=>∀a∈cs,AC.wf aB aC a
 | .rload _ _ id idx _=>∃r,Ac aC id=some r/\idx<r.n
 | .rstore id idx _ _=>∃r,Ac aC id=some r/\idx<r.n
 | .append _ _ _ s x=>AC.wf aB aC s/\AC.wf aB aC x
 | .appD _ _ _ s x=>AC.wf aB aC s/\AC.wf aB aC x
 | .call _ args=>∀v∈args,TV.wf aB aC v
 | .callM _ args=>∀v∈args,TV.wf aB aC v
 | .callF _ args=>∀v∈args,TV.wf aB aC v
 | .callD _ args=>∀v∈args,TV.wf aB aC v
 |_=>True
section
variable {P:Program} {C:Cfg} {ρ:Env} {w:World} {R:Type} {Z:Base} {tm:List TV} {aB:List (Nat×Box)} {aC:List (Nat×Row)} {tmps:Array Value}
theorem F6 {α β:Type} (g:α->β):∀(l:List (Nat×α)) (k:Nat),Ac (l.map λp=>(p.1,g p.2)) k=(Ac l k).map g
 |[],_=>rfl
 |(j,b)::l,k=>by
  simp only[bf,Ac,F6 g l k];cases Nat.beq j k<;>rfl
theorem AC.kill_wf {id:Nat} {a:AC} (h:AC.wf aB aC a):AC.wf aB aC (a.kill id):=by
 cases a with
 |own j w n=>simp only[AC.kill];cases Nat.beq j id<;>first|exact h|trivial
 |rptr j i s=>simp only[AC.kill];cases Nat.beq j id<;>first|exact h|trivial
 |_=>exact h
theorem AC.kill_free (id:Nat) (a:AC):AC.free id (a.kill id):=by
 cases a with
 |own j w n=>
  simp only[AC.kill];cases hb:Nat.beq j id
  ·exact λe=>by rw[e]at hb;simp at hb
  ·trivial
 |rptr j i s=>
  simp only[AC.kill];cases hb:Nat.beq j id
  ·exact λe=>by rw[e]at hb;simp at hb
  ·trivial
 |_=>trivial
theorem AC.kill_CC {id:Nat} {a:AC} {x:Value} (h:CC ρ w a x):CC ρ w (a.kill id) x:=by
 cases a with
 |own j w n=>simp only[AC.kill];cases Nat.beq j id<;>first|exact h|exact h.one
 |rptr j i s=>simp only[AC.kill];cases Nat.beq j id<;>first|exact h|exact h.one
 |_=>exact h
theorem CL.kill {id:Nat}:∀{l:List AC} {xs:List Value},CL (CC ρ w) l xs->CL (CC ρ w) (l.map (AC.kill id)) xs
 |[],[],_=>trivial
 |_::_,_::_,h=>⟨AC.kill_CC h.1,CL.kill h.2⟩
 |[],_::_,h=>h.elim
 |_::_,[],h=>h.elim
theorem TV.kill_TVR {id:Nat} {v:TV} {x:Value} (h:TVR ρ w v x):TVR ρ w (v.kill id) x:=by
 cases v with
 |dead=>trivial
 |tup ps=>
  obtain⟨ys,rfl,hy⟩:=h;refine⟨ys,rfl,?_⟩;generalize ys.toList=l at hy;induction ps generalizing l with
  |nil=>cases l<;>first|exact hy|exact hy.elim
  |cons p ps ih=>
   cases l with
   |nil=>exact hy.elim
   |cons y l=>
    obtain⟨g,cs⟩:=p;refine⟨?_,ih l hy.2⟩;have:=hy.1;cases g
    ·obtain⟨a,h1,ha⟩:=this;subst h1;exact⟨_,rfl,AC.kill_CC ha⟩
    ·obtain⟨zs,h1,hz⟩:=this;exact⟨zs,h1,hz.kill⟩
 |v g cs=>
  cases g
  ·obtain⟨a,rfl,ha⟩:=h;exact⟨_,rfl,AC.kill_CC ha⟩
  ·obtain⟨ys,rfl,hy⟩:=h;exact⟨ys,rfl,hy.kill⟩
theorem TV.kill_wf {id:Nat} {v:TV} (h:TV.wf aB aC v):TV.wf aB aC (v.kill id):=by
 cases v with
 |v g cs=>
  intro a ha;simp only[ba]at ha;obtain⟨b,hb,rfl⟩:=ha;exact AC.kill_wf (h b hb)
 |tup ps=>
  intro p hp a ha;simp only[ba]at hp;obtain⟨q,hq,rfl⟩:=hp;simp only[ba]at ha;obtain⟨b,hb,rfl⟩:=ha;exact AC.kill_wf (h q hq b hb)
 |_=>trivial
theorem TV.kill_free (id:Nat) (v:TV):TV.free id (v.kill id):=by
 cases v with
 |v g cs=>
  intro a ha;simp only[ba]at ha;obtain⟨b,hb,rfl⟩:=ha;exact AC.kill_free id b
 |tup ps=>
  intro p hp a ha;simp only[ba]at hp;obtain⟨q,hq,rfl⟩:=hp;simp only[ba]at ha;obtain⟨b,hb,rfl⟩:=ha;exact AC.kill_free id b
 |_=>trivial
theorem RelE.kill (h:RelE Z tm aB aC ρ tmps w) (id:Nat):
  RelE Z (tm.map (TV.kill id)) (aB.map λp=>(p.1,p.2.kill id)) aC ρ tmps w:=by
 have hlk:∀k,Ac (aB.map λp=>(p.1,p.2.kill id)) k=(Ac aB k).map (Box.kill id):=λk=>F6 (Box.kill id) aB k;have hlk':∀(k:Nat) (b:Box),Ac (aB.map λp=>(p.1,p.2.kill id)) k=some b->∃b',Ac aB k=some b'/\b=b'.kill id:=by
  intro k b hk;rw[hlk]at hk;cases hl:Ac aB k with
  |none=>rw[hl]at hk;simp at hk
  |some b'=>rw[hl]at hk;simp at hk;exact⟨b',rfl,hk.symm⟩
 have hwf:∀a,AC.wf aB aC a->AC.wf (aB.map λp=>(p.1,p.2.kill id)) aC a:=λa=>AC.wf_mono (λk b hk=>⟨b.kill id,by rw[hlk,hk];rfl⟩) (λk r hk=>⟨r,hk,rfl,rfl⟩);refine⟨by simpa using h.tl,?_,?_,?_,?_,?_,h.ro,h.ri,?_,?_,h.fr,h.fs,h.i0,h.i1,?_⟩
 ·intro i v hi;simp only[List.getElem?_map,bm]at hi;obtain⟨u,hu,rfl⟩:=hi;exact TV.kill_TVR (h.tv i u hu)
 ·intro v hv;simp only[ba]at hv;obtain⟨u,hu,rfl⟩:=hv;exact TV.wf_mono hwf (TV.kill_wf (h.wt u hu))
 ·intro k b hk a ha;obtain⟨b',hb',rfl⟩:=hlk' k b hk;simp only[Box.kill,ba]at ha;obtain⟨c,hc,rfl⟩:=ha;exact hwf _ (AC.kill_wf (h.wb k b' hb' c hc))
 ·intro k b hk;obtain⟨b',hb',rfl⟩:=hlk' k b hk;obtain⟨arr,h1,h2,h3⟩:=h.bx k b' hb';exact⟨arr,h1,h2.kill,h3⟩
 ·intro k k' b b' hk hk';obtain⟨_,p1,_⟩:=hlk' k b hk;obtain⟨_,p2,_⟩:=hlk' k' b' hk';exact h.bi k k' _ _ p1 p2
 ·intro k b id' r hk hr;obtain⟨_,p1,_⟩:=hlk' k b hk;exact h.br k _ id' r p1 hr
 ·intro b hb;obtain⟨q1,q2,q3⟩:=h.ib b hb;refine⟨q1,λk bo hk=> ?_,q3⟩;obtain⟨_,p1,_⟩:=hlk' k bo hk;exact q2 k _ p1
 ·intro k b hk;obtain⟨q1,bo,q2⟩:=h.k0 k b hk;exact⟨q1,bo.kill id,by rw[hlk,q2];rfl⟩
theorem Zq9 {im:Nat->Prop} {ks:List Kd} {b o:Nat}:∀(l:List (List AC)),(∀c∈l,AN ks c=c)->CPss im w ks.length l b o->
  ∃ys,RowC im w ks l ys/\PL w b o ys:=by
 intro l hk h;induction l generalizing o with
 |nil=>exact⟨[],⟨by simp,by simp,λi c hi=>by simp at hi⟩,λj y h=>by simp at h⟩
 |cons c l ih=>
  rw[CPss]at h;obtain⟨ys,⟨h1,h2,h3⟩,h4⟩:=ih (λc hc=>hk c (by simp[hc])) h.2;obtain⟨zs,h5,h6⟩:=Qfd _ _ _ h.1.2;have hzl:zs.length=ks.length:=by rw[<-h5.length];exact h.1.1
  refine⟨zs++ys,⟨by rw[ao,h1,hzl,bh,Nat.add_mul,Nat.one_mul,Nat.add_comm],hk,λi c' hi=> ?_⟩,λj y hj=> ?_⟩
  ·cases i with
   |zero=>
    simp at hi;subst hi;have:cut (zs++ys) (0*ks.length) ks.length=zs:=by
     simp only[cut,Nat.zero_mul,List.drop_zero];rw[<-hzl,List.take_left'];rfl
    rw[this];exact h5
   |succ i=>
    have:=h3 i c' (by simpa using hi);have e:cut (zs++ys) ((i+1)*ks.length) ks.length=cut ys (i*ks.length) ks.length:=by
     simp only[cut];rw[Nat.add_mul,Nat.one_mul,List.drop_append,List.drop_eq_nil_of_le (by omega),av,hzl,Nat.add_sub_cancel]
    rw[e];exact this
  ·rw[List.getElem?_append]at hj;split at hj
   ·exact h6 j y hj
   ·rename_i hge;have:=h4 (j-zs.length) y hj;rw[hzl]at this hge
    rwa [show o+ks.length+(j-ks.length)=o+j from by omega]at this
theorem Qml {im:Nat->Prop} {ks:List Kd} {l:List (List AC)} {xs:List Value} {v:Value} {e:TypeId} (hown:EC w e ks.length v l.length xs) (hrow:RowC im w ks l xs)
  (him:∀g,v.ownBlock=some g->im g):CP im w (.view ks l) v:=by
 rw[CP];rcases hown.2 with⟨e1,e2⟩|⟨g',o,cap,cur,e1,e3,e4,e5,e6,e7⟩
 ·refine⟨none,0,by rw[e1,e2],by omega,hrow.2.1, .inl (List.eq_nil_of_length_eq_zero e2)⟩
 ·refine⟨some ⟨g',o,none⟩,cap,e1,e4,hrow.2.1, .inr ⟨g',o,rfl,him g' (by rw[e1];rfl),Tg λi hi=> ?_⟩⟩;have hcl:=hrow.2.2 i l[i] (ai hi);refine⟨?_,?_⟩
  ·rw[<-hrow.2.1 l[i] (bq hi)];exact Qr _ _
  ·refine Qee _ (cut xs (i*ks.length) ks.length) g' _ hcl ?_;intro j y hj;simp only[cut,List.getElem?_take]at hj;split at hj
   ·rw[List.getElem?_drop]at hj;have:=PK hown (g:=g') (by rw[e1];rfl) (i*ks.length+j) y hj;rw[e1]at this;simpa [HI,Nat.add_assoc]using this
   ·simp at hj
theorem PQ {a:AC} {x:Value} {ρ2:Env} {w':World} (hp:a.plain=true) (h:CC ρ w a x) (hcp:CP ρ.im w a x->CP ρ2.im w' a x):CC ρ2 w' a x:=by
 cases a<;>first|exact hcp h|(simp[AC.plain]at hp)
theorem Q9c {ρ2:Env} {v:TV} {x:Value} {w':World} (hp:v.plainB=true) (hcp:∀(a:AC) (x:Value),a.plain=true->CP ρ.im w a x->CP ρ2.im w' a x) (h:TVR ρ w v x):TVR ρ2 w' v x:=by
 have hl:∀{l:List AC} {xs:List Value},Ak AC.plain l=true->CL (CC ρ w) l xs->CL (CC ρ2 w') l xs:=λhh h=>h.mono λa ha x hx=>PQ (Ax.1 hh a ha) hx (hcp a x (Ax.1 hh a ha));cases v with
 |dead=>trivial
 |v g cs=>
  cases g
  ·obtain⟨a,rfl,ha⟩:=h;exact⟨a,rfl,PQ (Ax.1 hp a (by simp)) ha (hcp a x (Ax.1 hp a (by simp)))⟩
  ·obtain⟨ys,rfl,hy⟩:=h;exact⟨ys,rfl,hl hp hy⟩
 |tup ps=>
  obtain⟨ys,rfl,hy⟩:=h;refine⟨ys,rfl,?_⟩;generalize ys.toList=l at hy;simp only[TV.plainB]at hp;induction ps generalizing l with
  |nil=>cases l<;>first|exact hy|exact hy.elim
  |cons p ps ih=>
   cases l with
   |nil=>exact hy.elim
   |cons y l=>
    obtain⟨g,cs⟩:=p;have hp1:=Ax.1 hp (g,cs) (by simp);have hp2:Ak (λp:Bool×List AC=>Ak AC.plain p.2) ps=true:=Ax.2 λq hq=>Ax.1 hp q (by simp[hq]);refine⟨?_,ih hp2 l hy.2⟩;have:=hy.1;cases g
    ·obtain⟨a,h1,ha⟩:=this;subst h1;exact⟨a,rfl,PQ (Ax.1 hp1 a (by simp)) ha (hcp a y (Ax.1 hp1 a (by simp)))⟩
    ·obtain⟨zs,h1,hz⟩:=this;exact⟨zs,h1,hl hp1 hz⟩
theorem Q6e {im im':Nat->Prop} {w w':World} {a:AC} {x:Value} (hf:a.flat=true) (h:CP im w a x):CP im' w' a x:=by
 cases a<;>simp only[CP,AC.flat]at* <;>first|exact h|(simp at hf)
theorem Zis {ρ2:Env} {v:TV} {x:Value} {w':World} (hf:v.flat=true) (h:TVR ρ w v x):TVR ρ2 w' v x:=by
 have hl:∀{l:List AC} {xs:List Value},Ak AC.flat l=true->CL (CC ρ w) l xs->CL (CC ρ2 w') l xs:=λhh h=>h.mono λa ha x hx=>by
  have:=Ax.1 hh a ha;have hp:a.plain=true:=by cases a<;>first|rfl|(simp[AC.flat]at this)
  exact PQ hp hx (Q6e this)
 have h1:∀{a:AC} {x:Value},a.flat=true->CC ρ w a x->CC ρ2 w' a x:=fun{a x} hh h=>by
  have hp:a.plain=true:=by cases a<;>first|rfl|(simp[AC.flat]at hh)
  exact PQ hp h (Q6e hh)
 cases v with
 |dead=>trivial
 |v g cs=>
  cases g
  ·obtain⟨a,rfl,ha⟩:=h;exact⟨a,rfl,h1 (Ax.1 hf a (by simp)) ha⟩
  ·obtain⟨ys,rfl,hy⟩:=h;exact⟨ys,rfl,hl hf hy⟩
 |tup ps=>
  obtain⟨ys,rfl,hy⟩:=h;refine⟨ys,rfl,?_⟩;generalize ys.toList=l at hy;simp only[TV.flat]at hf;induction ps generalizing l with
  |nil=>cases l<;>first|exact hy|exact hy.elim
  |cons p ps ih=>
   cases l with
   |nil=>exact hy.elim
   |cons y l=>
    obtain⟨g,cs⟩:=p;have hp1:=Ax.1 hf (g,cs) (by simp);have hp2:Ak (λp:Bool×List AC=>Ak AC.flat p.2) ps=true:=Ax.2 λq hq=>Ax.1 hf q (by simp[hq]);refine⟨?_,ih hp2 l hy.2⟩;have:=hy.1;cases g
    ·obtain⟨a,q1,ha⟩:=this;subst q1;exact⟨a,rfl,h1 (Ax.1 hp1 a (by simp)) ha⟩
    ·obtain⟨zs,q1,hz⟩:=this;exact⟨zs,q1,hl hp1 hz⟩
theorem Ko {v:TV} (h:v.plainB=true):TV.wf aB aC v:=by
 have hl:∀{l:List AC},Ak AC.plain l=true->∀a∈l,AC.wf aB aC a:=λh a ha=>by
  have:=Ax.1 h a ha;cases a<;>first|trivial|(simp[AC.plain]at this)
 cases v with
 |dead=>trivial
 |v g cs=>exact hl h
 |tup ps=>exact λp hp=>hl (Ax.1 h p hp)
theorem Z3p {im:Nat->Prop} {a:AC} {x:Value} (h:CP im w a x):AC.wf aB aC a:=by
 cases a<;>first|trivial|(simp[CP]at h)
theorem Zm0 {im:Nat->Prop} {l:List AC} {xs:List Value} (h:CL (CP im w) l xs):∀a∈l,AC.wf aB aC a:=by
 induction l generalizing xs with
 |nil=>intro a ha;simp at ha
 |cons b l ih=>
  cases xs with
  |nil=>exact h.elim
  |cons y xs=>
   intro a ha;simp only[aq]at ha;rcases ha with rfl|ha
   ·exact Z3p h.1
   ·exact ih h.2 a ha
theorem Zzu {ρ2:Env} (hcp:∀(a a':AC) (x:Value),a.res aC=some a'->CC ρ w a x->AC.wf aB aC a->CC ρ2 w a' x) {v v':TV} {x:Value} (hr:v.res aC=some v') (hw:TV.wf aB aC v) (h:TVR ρ w v x):TVR ρ2 w v' x:=by
 have hl:∀(cs cs':List AC) (xs:List Value),Fs aC cs=some cs'->(∀a∈cs,AC.wf aB aC a)->CL (CC ρ w) cs xs->CL (CC ρ2 w) cs' xs:=by
  intro cs;induction cs with
  |nil=>intro cs' xs h1 _ h2;simp[Fs]at h1;subst h1;cases xs<;>first|exact h2|exact h2.elim
  |cons a cs ih=>
   intro cs' xs h1 hwf h2;cases xs with
   |nil=>exact h2.elim
   |cons y xs=>
    simp only[Fs]at h1;split at h1
    ·rename_i a' ha';split at h1
     ·rename_i l' hl';simp at h1;subst h1;exact⟨hcp a a' y ha' h2.1 (hwf a (by simp)),ih _ _ hl' (λb hb=>hwf b (by simp[hb])) h2.2⟩
     ·simp at h1
    ·simp at h1
 cases v with
 |dead=>simp[TV.res]at hr
 |tup ps=>simp[TV.res]at hr
 |v g cs=>
  simp only[TV.res]at hr;split at hr
  ·rename_i l hl';simp at hr;subst hr;cases g
   ·obtain⟨a,rfl,ha⟩:=h;simp only[Fs]at hl';split at hl'
    ·rename_i a' ha';simp at hl';subst hl';exact⟨a',rfl,hcp a a' x ha' ha (hw a (by simp))⟩
    ·simp at hl'
   ·obtain⟨ys,rfl,hy⟩:=h;exact⟨ys,rfl,hl _ _ _ hl' hw hy⟩
  ·simp at hr
theorem Zjz {a a':AC} (h:a.res aC=some a'):a'.plain=true:=by
 cases a<;>simp only[AC.res]at h<;>try (simp at h;done)
 case own=>split at h<;>simp at h;subst h;rfl
 all_goals (simp at h;subst h;rfl)
theorem Q40:∀{l l':List AC},Fs aC l=some l'->Ak AC.plain l'=true
 |[],l',h=>by simp[Fs]at h;subst h;rfl
 |a::l,l',h=>by
  simp only[Fs]at h;split at h
  ·rename_i a' ha';split at h
   ·rename_i l'' hl'';simp at h;subst h;simp only[Ak,Zjz ha',ah];exact Q40 hl''
   ·simp at h
  ·simp at h
theorem Qr0:∀{l l':List TV},GM aC l=some l'->l'.length=l.length/\∀(i:Nat) (a':TV),l'[i]? =some a'->a'.plainB=true/\∃a,l[i]? =some a/\a.res aC=some a'
 |[],l',h=>by simp[GM]at h;subst h;exact⟨rfl,λi a h=>by simp at h⟩
 |a::l,l',h=>by
  simp only[GM]at h;split at h
  ·rename_i a' ha';split at h
   ·rename_i l'' hl'';simp at h;subst h;obtain⟨h1,h2⟩:=Qr0 hl'';refine⟨by simp[h1],λi b hb=> ?_⟩;cases i with
    |zero=>
     simp at hb;subst hb;refine⟨?_,a,rfl,ha'⟩;cases a with
     |dead=>simp[TV.res]at ha'
     |tup=>simp[TV.res]at ha'
     |v g cs=>
      simp only[TV.res]at ha';split at ha'
      ·rename_i q hq;simp at ha';subst ha';exact Q40 hq
      ·simp at ha'
    |succ i=>simpa using h2 i b (by simpa using hb)
   ·simp at h
  ·simp at h
end
open Go.RowKit
section
variable {P:Program} {C:Cfg} {ρ:Env} {w:World} {R:Type} {Z:Base} {tm:List TV} {aB:List (Nat×Box)} {aC:List (Nat×Row)} {tmps:Array Value}
theorem KH {a b:Nat} (h:a≠b):Nat.beq a b=false:=by
  cases hb:Nat.beq a b
  · rfl
  · exact absurd (ac hb) h
theorem Hq {a b:Nat} (h:Nat.beq a b=false):a≠b:=by rintro rfl;simp at h
theorem TVR.map {ρ':Env} {w':World} {g:AC->AC} {v:TV} (hg:∀(a:AC) (x:Value),AC.wf aB aC a->CC ρ w a x->CC ρ' w' (g a) x) (hw:TV.wf aB aC v) {x:Value} (h:TVR ρ w v x):
    TVR ρ' w' (v.mapC g) x:=by
  have hl:∀{l:List AC} {xs:List Value},(∀a∈l,AC.wf aB aC a)->CL (CC ρ w) l xs->CL (CC ρ' w') (l.map g) xs:=by
    intro l;induction l with
    |nil=>intro xs _ h;cases xs<;>first|exact h|exact h.elim
    |cons a l ih=>
      intro xs hh h;cases xs with
      |nil=>exact h.elim
      |cons y xs=>exact⟨hg a y (hh a (by simp)) h.1,ih (λb hb=>hh b (by simp[hb])) h.2⟩
  cases v with
  |dead=>trivial
  |v b cs=>
    cases b
    · obtain⟨a,rfl,ha⟩:=h;exact⟨g a,rfl,hg a x (hw a (by simp)) ha⟩
    · obtain⟨ys,rfl,hy⟩:=h;exact⟨ys,rfl,hl hw hy⟩
  |tup ps=>
    obtain⟨ys,rfl,hy⟩:=h;refine⟨ys,rfl,?_⟩;generalize ys.toList=l at hy;induction ps generalizing l with
    |nil=>cases l<;>first|exact hy|exact hy.elim
    |cons p ps ih=>
      cases l with
      |nil=>exact hy.elim
      |cons y l=>
        obtain⟨b,cs⟩:=p;refine⟨?_,ih (λq hq=>hw q (by simp[hq])) l hy.2⟩;have h1:=hy.1;have hw1:=hw (b,cs) (by simp);cases b
        · obtain⟨a,q1,q2⟩:=h1;subst q1;exact⟨g a,rfl,hg a y (hw1 a (by simp)) q2⟩
        · obtain⟨zs,q1,q2⟩:=h1;exact⟨zs,q1,hl hw1 q2⟩
theorem CL.mapg {ρ':Env} {w':World} {g:AC->AC}:∀{l:List AC} {xs:List Value},(∀(a:AC) (x:Value),AC.wf aB aC a->CC ρ w a x->CC ρ' w' (g a) x)->(∀a∈l,AC.wf aB aC a)->CL (CC ρ w) l xs->CL (CC ρ' w') (l.map g) xs
  |[],[],_,_,h=>h
  |a::l,y::xs,hg,hh,h=>⟨hg a y (hh a (by simp)) h.1,CL.mapg hg (λb hb=>hh b (by simp[hb])) h.2⟩
  |[],_::_,_,_,h=>h.elim
  |_::_,[],_,_,h=>h.elim
theorem TV.wf_map {boxes':List (Nat×Box)} {rows':List (Nat×Row)} {g:AC->AC} {v:TV} (hg:∀a,AC.wf aB aC a->AC.wf boxes' rows' (g a)) (hw:TV.wf aB aC v):
    TV.wf boxes' rows' (v.mapC g):=by
  cases v with
  |dead=>trivial
  |v b cs=>
    intro a ha;simp only[ba]at ha;obtain⟨c,hc,rfl⟩:=ha;exact hg c (hw c hc)
  |tup ps=>
    intro p hp a ha;simp only[ba]at hp;obtain⟨q,hq,rfl⟩:=hp;simp only[ba]at ha;obtain⟨c,hc,rfl⟩:=ha;exact hg c (hw q hq c hc)
theorem TV.fz_eq (id:Nat) (ks:List Kd) (l:List (List AC)) (v:TV):v.fz id ks l=v.mapC (AC.fz id ks l):=by cases v<;>rfl
theorem RelE.freeze (h:RelE Z tm aB aC ρ tmps w) {id:Nat} {r:Row} (hid:Ac aC id=some r):
    RelE Z (tm.map (TV.fz id r.ks r.l)) (aB.map λp=>(p.1,p.2.fz id r.ks r.l)) (del id aC) {ρ with im:=λb=>ρ.im b\/(ρ.rv id).ownBlock=some b} tmps w:=by
  have hlk:∀k,Ac (aB.map λp=>(p.1,p.2.fz id r.ks r.l)) k=(Ac aB k).map (Box.fz id r.ks r.l):=λk=>F6 (Box.fz id r.ks r.l) aB k;have hlk':∀(k:Nat) (b:Box),Ac (aB.map λp=>(p.1,p.2.fz id r.ks r.l)) k=some b->∃b',Ac aB k=some b'/\b=b'.fz id r.ks r.l:=by
    intro k b hk;rw[hlk]at hk;cases hl:Ac aB k with
    |none=>rw[hl]at hk;simp at hk
    |some b'=>rw[hl]at hk;simp at hk;exact⟨b',rfl,hk.symm⟩
  have hbx:∀(k:Nat) (b:Box),Ac aB k=some b->∃b',Ac (aB.map λp=>(p.1,p.2.fz id r.ks r.l)) k=some b':=λk b hk=>⟨b.fz id r.ks r.l,by rw[hlk,hk];rfl⟩;obtain⟨q1,q2,q0,xs,q3,q4⟩:=h.ro id r hid;have hview:CP (λb=>ρ.im b\/(ρ.rv id).ownBlock=some b) w (.view r.ks r.l) (ρ.rv id):=
    Qml q3 (q4.mono (λ_ h=> .inl h) (λ_ _=>rfl)) (λg hg=> .inr hg)
  have hcc:∀(a:AC) (x:Value),AC.wf aB aC a->CC ρ w a x->CC {ρ with im:=λb=>ρ.im b\/(ρ.rv id).ownBlock=some b} w (a.fz id r.ks r.l) x:=by
    intro a x _ hx;have hm:CC {ρ with im:=λb=>ρ.im b\/(ρ.rv id).ownBlock=some b} w a x:=CC.mono (ρ:=ρ) (ρ':={ρ with im:=λb=>ρ.im b\/(ρ.rv id).ownBlock=some b}) (λ_ h=> .inl h) (λ_ _=>rfl) a x (AC.agree_refl rfl rfl rfl a) hx;cases a with
    |own j w1 n1=>
      simp only[AC.fz];cases hb:Nat.beq j id
      · exact hm
      · have:=ac hb;subst this
        obtain⟨c1,_,_⟩:=hx;subst c1;exact hview
    |rptr j i1 s1=>
      simp only[AC.fz];cases hb:Nat.beq j id
      · exact hm
      · exact hx.one
    |_=>exact hm
  have hwf:∀a,AC.wf aB aC a->AC.wf (aB.map λp=>(p.1,p.2.fz id r.ks r.l)) (del id aC) (a.fz id r.ks r.l):=by
    intro a ha;cases a with
    |ptr k o=>obtain⟨b,hb⟩:=ha;exact hbx k b hb
    |bsl k o=>obtain⟨b,hb⟩:=ha;exact hbx k b hb
    |own j w1 n1=>
      simp only[AC.fz];cases hb:Nat.beq j id
      · obtain⟨q,p1,p2⟩:=ha
        exact⟨q,by rw[L6 _ _ _ (Hq hb)];exact p1,p2⟩
      · trivial
    |rptr j i1 s1=>
      simp only[AC.fz];cases hb:Nat.beq j id
      · obtain⟨q,p1,p2⟩:=ha
        exact⟨q,by rw[L6 _ _ _ (Hq hb)];exact p1,p2⟩
      · trivial
    |vptr=>exact ha
    |clo f fs cs=>exact⟨λa hm=>AC.wfP_mono hbx (ha.1 a hm),λa hm=>AC.wfP_mono hbx (ha.2 a hm)⟩
    |_=>trivial
  refine⟨by simpa using h.tl,?_,?_,?_,?_,?_,?_,?_,?_,?_,h.fr,h.fs,λb hb=> .inl (h.i0 b hb),?_,?_⟩
  · intro i v hi
    simp only[List.getElem?_map,bm]at hi;obtain⟨u,hu,rfl⟩:=hi;rw[TV.fz_eq];exact TVR.map hcc (h.wt u (bn hu)) (h.tv i u hu)
  · intro v hv
    simp only[ba]at hv;obtain⟨u,hu,rfl⟩:=hv;rw[TV.fz_eq];exact TV.wf_map hwf (h.wt u hu)
  · intro k b hk a ha
    obtain⟨b',hb',rfl⟩:=hlk' k b hk;simp only[Box.fz,ba]at ha;obtain⟨c,hc,rfl⟩:=ha;exact hwf _ (h.wb k b' hb' c hc)
  · intro k b hk
    obtain⟨b',hb',rfl⟩:=hlk' k b hk;obtain⟨arr,h1,h2,h3⟩:=h.bx k b' hb';exact⟨arr,h1,CL.mapg hcc (h.wb k b' hb') h2,h3⟩
  · intro k k' b b' hk hk'
    obtain⟨_,p1,_⟩:=hlk' k b hk;obtain⟨_,p2,_⟩:=hlk' k' b' hk';exact h.bi k k' _ _ p1 p2
  · intro j q hq
    obtain⟨hne,hq1⟩:=Mn hq;obtain⟨p1,p2,p0,ys,p3,p4⟩:=h.ro j q hq1;exact⟨p1,p2,p0,ys,p3,p4.mono (λ_ h=> .inl h) (λ_ _=>rfl)⟩
  · intro j j' q q' g hq hq'
    exact h.ri j j' q q' g (Mn hq).2 (Mn hq').2
  · intro k b j q hk hq
    obtain⟨_,p1,_⟩:=hlk' k b hk;exact h.br k _ j q p1 (Mn hq).2
  · rintro b (hb|hb)
    · obtain⟨p1,p2,p3⟩:=h.ib b hb
      exact⟨p1,λk bo hk=>by obtain⟨_,p,_⟩:=hlk' k bo hk;exact p2 k _ p,λj q hq=>p3 j q (Mn hq).2⟩
    · refine⟨(h.rwlt hid hb).2,λk bo hk e=> ?_,λj q hq e=> ?_⟩
      · obtain⟨_,p,_⟩:=hlk' k bo hk
        exact h.br k _ id r p hid (by rw[hb];exact congrArg some e.symm)
      · have hd:=Mn hq
        exact hd.1 (h.ri j id q r b hd.2 hid e hb)
  · rintro b (hb|hb)
    · exact h.i1 b hb
    · exact .inr (q0 b hb)
  · intro k b hk
    obtain⟨p1,bo,p2⟩:=h.k0 k b hk;exact⟨p1,hbx k bo p2⟩
theorem EZ:∀{l:List Nat} {n:Nat},AP l n=true↔n∈l
  |[],n=>by simp[AP]
  |m::l,n=>by
    simp only[AP,aq];cases h:Nat.beq m n
    · simp only[an,EZ (l:=l)]
      constructor
      · exact .inr
      · rintro(e|e)
        · exact absurd e.symm (Hq h)
        · exact e
    · simp[ac h]
theorem NT {α:Type}:∀{l:List (Nat×α)} {k:Nat} {b:α},Ac l k=some b->(k,b)∈l
  |[],_,_,h=>by simp[Ac]at h
  |(j,c)::l,k,b,h=>by
    simp only[Ac]at h;cases hb:Nat.beq j k<;>rw[hb]at h
    · simp only[an]at h;exact List.mem_cons_of_mem _ (NT h)
    · simp at h;subst h;rw[ac hb];simp
theorem R5 {α:Type} (keys:List Nat):∀{l:List (Nat×α)} {k:Nat} {b:α},Ac (l.filter λp=>AP keys p.1) k=some b->Ac l k=some b/\AP keys k=true
  |[],k,b,h=>by simp[Ac]at h
  |(j,c)::l,k,b,h=>by
    simp only[List.filter_cons]at h;cases hj:AP keys j
    · rw[hj]at h
      simp only[Bool.false_eq_true,if_false]at h;obtain⟨h1,h2⟩:=R5 keys (l:=l) h;refine⟨?_,h2⟩;simp only[Ac];rw[KH (by rintro rfl;rw[hj]at h2;cases h2)];exact h1
    · rw[hj]at h
      simp only[if_true,Ac]at h⊢;cases hb:Nat.beq j k<;>rw[hb]at h
      · exact R5 keys (l:=l) h
      · have:=ac hb;subst this
        exact⟨h,hj⟩
theorem J5 {α:Type} (keys:List Nat):∀{l:List (Nat×α)} {k:Nat} {b:α},AP keys k=true->Ac l k=some b->Ac (l.filter λp=>AP keys p.1) k=some b
  |[],k,b,_,h=>by simp[Ac]at h
  |(j,c)::l,k,b,hk,h=>by
    simp only[List.filter_cons];simp only[Ac]at h;cases hb:Nat.beq j k<;>rw[hb]at h
    · simp only[an]at h
      split
      · simp only[Ac,hb,an];exact J5 keys hk h
      · exact J5 keys hk h
    · have:=ac hb;subst this
      rw[hk];simp only[if_true,Ac,hb];exact h
theorem AC.wf_filter {keys ids:List Nat} {a:AC} (hin:AC.inK keys ids a=true) (ha:AC.wf aB aC a):AC.wf (aB.filter λp=>AP keys p.1) (aC.filter λp=>AP ids p.1) a:=by
  have hp:∀l:List AC,Ak (AC.inK.inP keys) l=true->(∀a∈l,AC.wfP aB a)->∀a∈l,AC.wfP (aB.filter λp=>AP keys p.1) a:=by
    intro l hl hw a ha;have h1:=Ax.1 hl a ha;have h2:=hw a ha;cases a<;>first|trivial|(obtain⟨b,hb⟩:=h2;exact⟨b,J5 keys h1 hb⟩)
  cases a with
  |ptr k o=>obtain⟨b,hb'⟩:=ha;exact⟨b,J5 keys hin hb'⟩
  |bsl k o=>obtain⟨b,hb'⟩:=ha;exact⟨b,J5 keys hin hb'⟩
  |own id w1 n=>obtain⟨q,h1,h2⟩:=ha;exact⟨q,J5 ids hin h1,h2⟩
  |rptr id i s1=>obtain⟨q,h1,h2⟩:=ha;exact⟨q,J5 ids hin h1,h2⟩
  |vptr=>exact ha
  |clo f fs cs=>
    simp only[AC.inK,aj]at hin;exact⟨hp fs hin.1 ha.1,hp cs hin.2 ha.2⟩
  |_=>trivial
theorem TV.wf_filter {keys ids:List Nat} {v:TV} (hin:TV.inK keys ids v=true) (hv:TV.wf aB aC v):TV.wf (aB.filter λp=>AP keys p.1) (aC.filter λp=>AP ids p.1) v:=by
  cases v with
  |dead=>trivial
  |v g cs=>exact λa ha=>AC.wf_filter (Ax.1 hin a ha) (hv a ha)
  |tup ps=>exact λp hp a ha=>AC.wf_filter (Ax.1 (Ax.1 hin p hp) a ha) (hv p hp a ha)
theorem RelE.filter (h:RelE Z tm aB aC ρ tmps w) {keys ids:List Nat} {tm':List TV} {tmps':Array Value} (htl:tm'.length=tmps'.size)
    (htv:∀(i:Nat) (v:TV),tm'[i]? =some v->TVR ρ w v (tmps'.getD i undef)) (hwt:∀v∈tm',TV.wf aB aC v)
    (hin:Ak (TV.inK keys ids) tm'=true) (hbx:Ak (λp:Nat×Box=>Ak (AC.inK keys ids) p.2.cells) (aB.filter λp=>AP keys p.1)=true)
    (hk0:∀k b,Z.K0 k=some b->AP keys k=true):
    RelE Z tm' (aB.filter λp=>AP keys p.1) (aC.filter λp=>AP ids p.1) ρ tmps' w:=by
  have hb:∀(k:Nat) (b:Box),Ac (aB.filter λp=>AP keys p.1) k=some b->Ac aB k=some b:=λk b hk=>(R5 keys hk).1;have hr:∀(k:Nat) (b:Row),Ac (aC.filter λp=>AP ids p.1) k=some b->Ac aC k=some b:=λk b hk=>(R5 ids hk).1;refine⟨htl,htv,λv hv=>TV.wf_filter (Ax.1 hin v hv) (hwt v hv),λk b hk a ha=> ?_,λk b hk=>h.bx k b (hb k b hk),λk k' b b' hk hk'=>h.bi k k' b b' (hb k b hk) (hb k' b' hk'),
    λid q hq=>h.ro id q (hr id q hq),λid id' q q' g hq hq'=>h.ri id id' q q' g (hr id q hq) (hr id' q' hq'),λk b id q hk hq=>h.br k b id q (hb k b hk) (hr id q hq),λb hbm=> ?_,h.fr,h.fs,h.i0,h.i1,λk b hk=> ?_⟩
  · exact AC.wf_filter (Ax.1 (Ax.1 hbx (k,b) (NT hk)) a ha) (h.wb k b (hb k b hk) a ha)
  · obtain⟨q1,q2,q3⟩:=h.ib b hbm
    exact⟨q1,λk bo hk=>q2 k bo (hb k bo hk),λid q hq=>q3 id q (hr id q hq)⟩
  · obtain⟨q1,bo,q2⟩:=h.k0 k b hk
    exact⟨q1,bo,J5 keys (hk0 k b hk) q2⟩
theorem RelE.lookB {boxes':List (Nat×Box)} {rows':List (Nat×Row)} (h:RelE Z tm aB aC ρ tmps w) (hb:∀j,Ac aB j=Ac boxes' j) (hr:∀j,Ac aC j=Ac rows' j):RelE Z tm boxes' rows' ρ tmps w:=by
  have hwf:∀a,AC.wf aB aC a->AC.wf boxes' rows' a:=λa=>AC.wf_mono (λk b hk=>⟨b,by rw[<-hb];exact hk⟩) (λk r hk=>⟨r,by rw[<-hr];exact hk,rfl,rfl⟩);refine⟨h.tl,h.tv,λv hv=>TV.wf_mono hwf (h.wt v hv),λk b hk a ha=>hwf a (h.wb k b (by rw[hb];exact hk) a ha),λk b hk=>h.bx k b (by rw[hb];exact hk),λk k' b b' hk hk'=>h.bi k k' b b' (by rw[hb];exact hk) (by rw[hb];exact hk'),
    λid q hq=>h.ro id q (by rw[hr];exact hq),λid id' q q' g hq hq'=>h.ri id id' q q' g (by rw[hr];exact hq) (by rw[hr];exact hq'),λk b id q hk hq=>h.br k b id q (by rw[hb];exact hk) (by rw[hr];exact hq),λb hbm=> ?_,h.fr,h.fs,h.i0,h.i1,λk b hk=> ?_⟩
  · obtain⟨q1,q2,q3⟩:=h.ib b hbm
    exact⟨q1,λk bo hk=>q2 k bo (by rw[hb];exact hk),λid q hq=>q3 id q (by rw[hr];exact hq)⟩
  · obtain⟨q1,bo,q2⟩:=h.k0 k b hk
    exact⟨q1,bo,by rw[<-hb];exact q2⟩
theorem RelE.reBox (h:RelE Z tm aB aC ρ tmps w) {g:Nat->Box->Box} (hty:∀k b,(g k b).ty=b.ty)
    (hcl:∀(k:Nat) (b:Box),Ac aB k=some b->(∀(xs:List Value),CL (CC ρ w) b.cells xs->CL (CC ρ w) (g k b).cells xs)/\∀a∈(g k b).cells,AC.wf aB aC a):
    RelE Z tm (aB.map λp=>(p.1,g p.1 p.2)) aC ρ tmps w:=by
  have hlk:∀(l:List (Nat×Box)) k,Ac (l.map λp=>(p.1,g p.1 p.2)) k=(Ac l k).map (g k):=by
    intro l;induction l with
    |nil=>intro k;rfl
    |cons p l ih=>
      intro k;obtain⟨j,b⟩:=p;simp only[bf,Ac,ih];cases hb:Nat.beq j k
      · rfl
      · have:=ac hb;subst this;rfl
  have hlk':∀(k:Nat) (b:Box),Ac (aB.map λp=>(p.1,g p.1 p.2)) k=some b->∃b',Ac aB k=some b'/\b=g k b':=by
    intro k b hk;rw[hlk]at hk;cases hl:Ac aB k with
    |none=>rw[hl]at hk;simp at hk
    |some b'=>rw[hl]at hk;simp at hk;exact⟨b',rfl,hk.symm⟩
  have hbx:∀(k:Nat) (b:Box),Ac aB k=some b->∃b',Ac (aB.map λp=>(p.1,g p.1 p.2)) k=some b':=λk b hk=>⟨g k b,by rw[hlk,hk];rfl⟩;have hwf:∀a,AC.wf aB aC a->AC.wf (aB.map λp=>(p.1,g p.1 p.2)) aC a:=λa=>AC.wf_mono hbx (λk r hk=>⟨r,hk,rfl,rfl⟩);refine⟨h.tl,h.tv,λv hv=>TV.wf_mono hwf (h.wt v hv),?_,?_,?_,h.ro,h.ri,?_,?_,h.fr,h.fs,h.i0,h.i1,?_⟩
  · intro k b hk a ha
    obtain⟨b',hb',rfl⟩:=hlk' k b hk;exact hwf a ((hcl k b' hb').2 a ha)
  · intro k b hk
    obtain⟨b',hb',rfl⟩:=hlk' k b hk;obtain⟨arr,h1,h2,h3⟩:=h.bx k b' hb';exact⟨arr,by rw[hty];exact h1,(hcl k b' hb').1 _ h2,h3⟩
  · intro k k' b b' hk hk'
    obtain⟨_,p1,_⟩:=hlk' k b hk;obtain⟨_,p2,_⟩:=hlk' k' b' hk';exact h.bi k k' _ _ p1 p2
  · intro k b j q hk hq
    obtain⟨_,p1,_⟩:=hlk' k b hk;exact h.br k _ j q p1 hq
  · intro b hb
    obtain⟨q1,q2,q3⟩:=h.ib b hb;exact⟨q1,λk bo hk=>by obtain⟨_,p,_⟩:=hlk' k bo hk;exact q2 k _ p,q3⟩
  · intro k b hk
    obtain⟨p1,bo,p2⟩:=h.k0 k b hk;exact⟨p1,hbx k bo p2⟩
theorem KX {w:World}:∀(ks:List Kd) (cs:List AC) (xs:List Value),CL (CC ρ w) cs xs->CL (CC ρ w) (DK ks cs) xs
  |[],cs,xs,h=>by cases cs<;>exact h
  | .sl ks::l,[],xs,h=>h
  | .int k::l,[],xs,h=>h
  | .bool::l,[],xs,h=>h
  | .raw::l,[],xs,h=>h
  |_::l,a::cs,[],h=>h.elim
  | .int _::l,a::cs,x::xs,h=>by simp only[DK];exact⟨h.1,KX l cs xs h.2⟩
  | .bool::l,a::cs,x::xs,h=>by simp only[DK];exact⟨h.1,KX l cs xs h.2⟩
  | .raw::l,a::cs,x::xs,h=>by simp only[DK];exact⟨h.1,KX l cs xs h.2⟩
  | .sl ks::l,a::cs,x::xs,h=>by
    cases a<;>simp only[DK]<;>first
      |exact⟨h.1,KX l cs xs h.2⟩
      | (refine ⟨?_, KX l cs xs h.2⟩
         have h1:=h.1;simp only[CC,CP]at h1;subst h1;exact RO ks)
theorem Ot:∀(ks:List Kd) (cs:List AC),(∀a∈cs,AC.wf aB aC a)->∀a∈DK ks cs,AC.wf aB aC a
  |[],cs,h=>by cases cs<;>exact h
  | .sl ks::l,[],h=>h
  | .int k::l,[],h=>h
  | .bool::l,[],h=>h
  | .raw::l,[],h=>h
  | .int _::l,a::cs,h=>by
    simp only[DK,aq,forall_eq_or_imp]at h⊢;exact⟨h.1,Ot l cs h.2⟩
  | .bool::l,a::cs,h=>by
    simp only[DK,aq,forall_eq_or_imp]at h⊢;exact⟨h.1,Ot l cs h.2⟩
  | .raw::l,a::cs,h=>by
    simp only[DK,aq,forall_eq_or_imp]at h⊢;exact⟨h.1,Ot l cs h.2⟩
  | .sl ks::l,a::cs,h=>by
    simp only[aq,forall_eq_or_imp]at h;have ih:=Ot l cs h.2;cases a<;>simp only[DK,aq,forall_eq_or_imp]<;>first
      |exact⟨h.1,ih⟩
      |exact⟨trivial,ih⟩
theorem Zk6 {α:Type} {l:List α} {n:Nat} {v x:α} (h:x∈setL l n v):x∈l\/x=v:=by
  rw[H9]at h;exact List.mem_or_eq_of_mem_set h
theorem CL.setL {Rr:AC->Value->Prop}:∀{l:List AC} {xs:List Value} (n:Nat) {a:AC},CL Rr l xs->(∀x,xs[n]? =some x->Rr a x)->CL Rr (setL l n a) xs
  |[],[],_,_,h,_=>h
  |b::l,x::xs,0,a,h,ha=>⟨ha x rfl,h.2⟩
  |b::l,x::xs,n+1,a,h,ha=>⟨h.1,CL.setL n h.2 λy hy=>ha y (by simpa using hy)⟩
  |[],_::_,_,_,h,_=>h.elim
  |_::_,[],_,_,h,_=>h.elim
theorem RelE.promB (h:RelE Z tm aB aC ρ tmps w) {k o:Nat} {b:Box} (hk:Ac aB k=some b) (ho:nth .dead b.cells o= .nilSl) {id:Nat} (hid:Ac aC id=none) {e:TypeId} {ks:List Kd} (hks:0<ks.length):
    RelE Z tm (upd aB k ⟨b.ty,setL b.cells o (.own id ks.length 0)⟩) (ins aC id ⟨e,ks,[]⟩) {ρ with rv:=upN ρ.rv id (.slice none 0 0),wd:=upN ρ.wd id ks.length} tmps w:=by
  have hadd:=h.addRow (d:=id) hid (r:=⟨e,ks,[]⟩) (v':= .slice none 0 0) (xs:=[]) (w':=w) (Below.refl _ _) hks (ZU w e ks.length) ⟨by simp,by simp,λi c hi=>by simp at hi⟩ (λg hg=>by simp[Value.ownBlock]at hg);have hnew:=EJ aC id (⟨e,ks,[]⟩:Row) hid;generalize hρ:({ρ with rv:=upN ρ.rv id (.slice none 0 0),wd:=upN ρ.wd id ks.length}:Env)=ρ2 at hadd;have e1:ρ2.rv id= .slice none 0 0:=by rw[<-hρ];exact BM _ _ _
  have e2:ρ2.wd id=ks.length:=by rw[<-hρ];exact BM _ _ _
  have hre := hadd.reBox (g := λj c => bif Nat.beq j k then ⟨c.ty, setL c.cells o (.own id ks.length 0)⟩ else c) (λj c => by cases Nat.beq j k <;> rfl) (by
    intro j c hj;cases hb:Nat.beq j k
    · exact⟨λxs h=>h,hadd.wb j c hj⟩
    · have:=ac hb;subst this
      rw[hk]at hj;simp at hj;subst hj;simp only[ah];refine⟨λxs hx=>hx.setL o λx hxo=> ?_,λa ha=> ?_⟩
      · have hlt:o<b.cells.length:=by
          rcases Nat.lt_or_ge o b.cells.length with hlt|hge
          · exact hlt
          · rw[B3,List.getD,cv hge]at ho;simp at ho
        have hg:b.cells[o]? =some .nilSl:=by
          rw[B3,List.getD,ai hlt]at ho;rw[ai hlt];simpa using ho
        obtain⟨y,hy,hcy⟩:=hx.get hg;rw[hxo]at hy;simp at hy;subst hy;simp only[CC,CP]at hcy;subst hcy;exact⟨e1.symm,e2, .inl ⟨rfl,rfl⟩⟩
      · rcases Zk6 ha with ha|rfl
        · exact hadd.wb j b hk a ha
        · exact⟨_,hnew,rfl,rfl⟩)
  have hupd:∀(l:List (Nat×Box)) (b':Box),Ac l k=some b'->∀j,Ac (l.map λp=>(p.1,bif Nat.beq p.1 k then(⟨p.2.ty,setL p.2.cells o (.own id ks.length 0)⟩:Box)else p.2)) j=Ac (upd l k ⟨b'.ty,setL b'.cells o (.own id ks.length 0)⟩) j:=by
    intro l;induction l with
    |nil=>intro b' hb';simp[Ac]at hb'
    |cons p l ih=>
      intro b' hb' j;obtain⟨q,c⟩:=p;simp only[Ac]at hb';cases hq:Nat.beq q k
      · rw[hq]at hb';simp only[an]at hb'
        simp only[bf,upd,hq,an,Ac];rw[ih b' hb' j]
      · rw[hq]at hb';simp at hb';subst hb'
        have:=ac hq;subst this;simp only[bf,upd,hq,ah,Ac];cases hqj:Nat.beq q j
        · simp only[an]
          have hne:=Hq hqj;have:∀m:List (Nat×Box),Ac (m.map λp=>(p.1,bif Nat.beq p.1 q then(⟨p.2.ty,setL p.2.cells o (.own id ks.length 0)⟩:Box)else p.2)) j=Ac m j:=by
            intro m;induction m with
            |nil=>rfl
            |cons p m ihm=>
              obtain⟨q',c'⟩:=p;simp only[bf,Ac,ihm];cases hb:Nat.beq q' j
              · rfl
              · have e:=ac hb;subst e
                rw[KH (λe=>hne e.symm)];rfl
          exact this l
        · rfl
  exact hre.lookB (hupd aB b hk) λ_=>rfl
end
end Go.Bm
