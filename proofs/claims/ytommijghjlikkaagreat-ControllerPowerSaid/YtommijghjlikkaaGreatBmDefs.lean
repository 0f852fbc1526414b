/- The abstract machine, second form: definitions. A Go function's code is evaluated over values that may hold Lean variables; rows are lists; calls may turn memory that is handed to them. -/
import Derived.WalkKit
import Derived.ProofKit
set_option linter.unusedVariables false
set_option linter.unusedSimpArgs false
namespace Go.Bm

inductive Kd where
 |int (k:IntKind)
 |bool
 |sl (ks:List Kd)
 |raw

inductive AC where
 |dead
 |int (k:IntKind) (n:Int)
 |bool (b:Bool)
 |raw (v:Value)
 |nilSl
 |ptr (key off:Nat)
 |own (id w n:Nat)
 |view (ks:List Kd) (l:List (List AC))
 |rptr (id idx sub:Nat)
 |vptr (cells:List AC) (sub:Nat)
 |clo (f:FuncId) (first caps:List AC)
 |bsl (key n:Nat)

inductive TV where
 |dead
 |v (g:Bool) (cs:List AC)
 |tup (ps:List (Bool×List AC))

abbrev TV.c (a:AC):TV:= .v false [a]
abbrev TV.agg (cs:List AC):TV:= .v true cs

def Af:AC->Int
 | .int _ n=>n
 |_=>0
def B6:AC->Bool
 | .bool b=>b
 |_=>false
def Br:AC->List (List AC)
 | .view _ l=>l
 |_=>[]

structure Box where
 ty:TypeId
 cells:List AC

variable {R:Type}

def nth {α:Type} (d:α):List α->Nat->α
 |[],_=>d
 |x::_,0=>x
 |_::xs,n+1=>nth d xs n

def Lm:Kd->AC->AC
 | .int k,a=> .int k (Af a)
 | .bool,a=> .bool (B6 a)
 | .sl ks,a=> .view ks (Br a)
 | .raw, .raw v=> .raw v
 | .raw,_=> .dead
def Eh:List Kd->List AC->Nat->List AC
 |[],_,_=>[]
 |k::ks,cs,j=>Lm k (nth .dead cs j)::Eh ks cs (j+1)
def AK (ks:List Kd) (cs:List AC):List AC:=Eh ks cs 0

structure Row where
 ty:TypeId
 ks:List Kd
 l:List (List AC)
abbrev Row.w (r:Row):Nat:=r.ks.length
abbrev Row.n (r:Row):Nat:=r.l.length
abbrev Row.f (r:Row) (i:Nat):List AC:=AK r.ks (nth [] r.l i)

structure Mem where
 boxes:List (Nat×Box)
 rows:List (Nat×Row)

structure St where
 tmps:List TV
 boxes:List (Nat×Box)
 rows:List (Nat×Row)

def setL {α:Type}:List α->Nat->α->List α
 |[],_,_=>[]
 |_::xs,0,v=>v::xs
 |x::xs,n+1,v=>x::setL xs n v

def AI {α:Type}:List α->(List α->Option R)->Option R
 |[],K=>K []
 |x::xs,K=>AI xs fun ys=>K (x::ys)

def Ab {α:Type}:List (Nat×α)->Nat->Option α
 |[],_=>none
 |(k,b)::l,key=>bif Nat.beq k key then some b else Ab l key

def upd {α:Type}:List (Nat×α)->Nat->α->List (Nat×α)
 |[],_,_=>[]
 |(k,b)::l,key,x=>bif Nat.beq k key then(k,x)::l else(k,b)::upd l key x

def ins {α:Type}:List (Nat×α)->Nat->α->List (Nat×α)
 |[],key,x=>[(key,x)]
 |(k,b)::l,key,x=>bif Nat.blt key k then(key,x)::(k,b)::l else(k,b)::ins l key x

def cut {α:Type} (l:List α) (off m:Nat):List α:=(l.drop off).take m

def splice {α:Type}:List α->Nat->List α->List α
 |l,_,[]=>l
 |[],_,_::_=>[]
 |_::xs,0,v::vs=>v::splice xs 0 vs
 |x::xs,n+1,v::vs=>x::splice xs n (v::vs)

def NF:Value->AC
 | .int k n=> .int k n
 | .bool b=> .bool b
 | .slice none 0 0=> .nilSl
 | .string s=> .raw (.string s)
 | .pointer none=> .raw (.pointer none)
 | .nilFunc=> .raw .nilFunc
 | .nilIface=> .raw .nilIface
 |_=> .dead

def Il:List Value->Option (List AC)
 |[]=>some []
 | v :: l => bif v.oneCell' then (match Il l with
  |some cs=>some (NF v::cs)
  |none=>none)else none

def ofValue:Value->TV
 | .agg cs=>match Il cs.toList with
  |some l=> .agg l
  |none=> .dead
 | .tuple _=> .dead
 |v=> .c (NF v)

def TV.cells:TV->Option (List AC)
 | .v _ cs=>some cs
 |_=>none

def TV.int? :TV->Option Int
 | .v false [.int _ n]=>some n
 |_=>none

def kEq:IntKind->IntKind->Bool
 | .i8, .i8| .i16, .i16| .i32, .i32| .i64, .i64| .u8, .u8| .u16, .u16| .u32, .u32| .u64, .u64=>true
 |_,_=>false

def AC.plain:AC->Bool
 | .int _ _| .bool _| .raw _| .nilSl| .view _ _=>true
 |_=>false

def AC.calm:AC->Bool
 | .int _ _| .bool _| .raw _| .nilSl| .view _ _| .dead=>true
 |_=>false

def Aj {α:Type} (p:α->Bool):List α->Bool
 |[]=>true
 |x::l=>bif p x then Aj p l else false

mutual
def D_:Kd->Kd->Bool
 | .int k, .int k'=>kEq k k'
 | .bool, .bool=>true
 | .sl ks, .sl ks'=>CD ks ks'
 | .raw, .raw=>true
 |_,_=>false
def CD:List Kd->List Kd->Bool
 |[],[]=>true
 |k::ks,k'::ks'=>bif D_ k k' then CD ks ks' else false
 |_,_=>false
end

def UB:Kd->AC->Option AC
 | .int k, .int k' n=>bif kEq k k' then some (.int k n)else none
 | .bool, .bool b=>some (.bool b)
 | .sl ks, .nilSl=>some (.view ks [])
 | .sl ks, .view ks' l=>bif CD ks ks' then some (.view ks l)else none
 | .raw, .raw v=>some (.raw v)
 |_,_=>none
def HT:List Kd->List AC->Option (List AC)
 |[],[]=>some []
 |k::ks,a::cs=>match UB k a with
  |some a'=>match HT ks cs with
   |some cs'=>some (a'::cs')
   |none=>none
  |none=>none
 |_,_=>none

def Hs (ks:List Kd):Nat->List AC->Option (List (List AC))
 |0,[]=>some []
 |0,_=>none
 |n+1,cs=>match HT ks (cs.take ks.length)with
  |some c=>match Hs ks n (cs.drop ks.length)with
   |some l=>some (c::l)
   |none=>none
  |none=>none

inductive Prim where
 |val (v:TV)
 |load (agg:Bool) (sz key off:Nat)
 |store (key off:Nat) (cells:List AC)
 |new (ty:TypeId) (cells:List AC)
 |newS (ty:TypeId) (n:Nat) (cells:List AC)
 |cutR (id a:Nat)
 |rload (agg:Bool) (sz id idx sub:Nat)
 |rstore (id idx sub:Nat) (cells:List AC)
 |append (e:TypeId) (ks:List Kd) (bytes:Nat) (s x:AC)
 |newRow (e:TypeId) (ks:List Kd) (l:List (List AC))
 |newView (e:TypeId) (ks:List Kd) (l:List (List AC))
 |make (e:TypeId) (ks:List Kd) (bytes:Nat) (n:Int) (z:List AC)
 |call (f:FuncId) (args:List TV)
 |callM (f:FuncId) (args:List TV)
 |callD (f:FuncId) (args:List TV)
 |callF (f:FuncId) (args:List TV)
 |appD (e:TypeId) (ks:List Kd) (bytes:Nat) (s x:AC)

def mn (x y:Int):Int:=if y<x then y else x
def mx (x y:Int):Int:=if y>x then y else x

def GI (op:BinOp) (k:IntKind) (a b:Int) (K:AC->Option R):Option R:=
 match op with
 | .add=>K (.int k (k.wrap (a+b)))
 | .sub=>K (.int k (k.wrap (a-b)))
 | .mul=>K (.int k (k.wrap (a*b)))
 | .quo=>cond (decide (b=0)) none (K (.int k (k.wrap (a.tdiv b))))
 | .rem=>cond (decide (b=0)) none (K (.int k (a.tmod b)))
 | .and=>K (.int k (k.wrap ((BitVec.ofInt k.bits a&&&BitVec.ofInt k.bits b).toNat:Int)))
 | .or=>K (.int k (k.wrap ((BitVec.ofInt k.bits a|||BitVec.ofInt k.bits b).toNat:Int)))
 | .xor=>K (.int k (k.wrap ((BitVec.ofInt k.bits a^^^BitVec.ofInt k.bits b).toNat:Int)))
 | .andNot=>K (.int k (k.wrap ((BitVec.ofInt k.bits a&&& ~~~BitVec.ofInt k.bits b).toNat:Int)))
 | .eql=>K (.bool (a==b))
 | .neq=>K (.bool (a !=b))
 | .lss=>K (.bool (decide (a<b)))
 | .leq=>K (.bool (decide (a<=b)))
 | .gtr=>K (.bool (decide (a>b)))
 | .geq=>K (.bool (decide (a>=b)))
 | .shl=>cond (decide (b<0)) none (K (.int k (k.wrap (a*2^(min b.toNat k.bits)))))
 | .shr=>cond (decide (b<0)) none (K (.int k (a.fdiv (2^(min b.toNat k.bits)))))

def L8:BinOp->Bool
 | .shl| .shr=>true
 |_=>false

inductive CS where
 |any
 |int (k:IntKind)
 |bool
 |sl (ks:List Kd)
 |rawc
 |nil
 |ptr (key off:Nat)
 |own (id w:Nat)
 |clo (f:FuncId) (fs cs:List (Nat×Nat))
 |bsl (key n:Nat)

inductive TS where
 |dead
 |v (g:Bool) (cs:List CS)
 |tup (ps:List (Bool×List CS))

structure Sk where
 tmps:List TS
 boxes:List (Nat×TypeId×List CS):=[]
 rows:List (Nat×TypeId×List Kd):=[]

inductive Ex where
 |normal
 |exit (id:Nat)
 |ret

def Spec:=∀R:Type,List TV->Mem->(TV->Mem->Option R)->Option R
def Jh:=∀R:Type,List AC->(Ex->St->Option R)->Option R

def H_:List (Nat×Spec)->FuncId->Option Spec
 |[],_=>none
 |(k,b)::l,f=>bif Nat.beq k f then some b else H_ l f

structure Cfg where
 spec:FuncId->Option Spec
 eqOk:List TypeId:=[]
 tprom:List (Nat×TypeId):=[]
 prom:Nat->List (Nat×TypeId):=fun _=>[]
 loops:Nat->Option (Sk×Jh):=fun _=>none
 blocks:Nat->Option (Sk×Jh):=fun _=>none
 conds:Nat->Option (Sk×Jh):=fun _=>none
 pure:FuncId->Bool:=fun _=>true
 ro:FuncId->Bool:=fun _=>false
 lend:FuncId->Bool:=fun _=>false
 ownOff:TypeId->List (Nat×TypeId):=fun _=>[]
 rowAs:Nat->Nat:=fun d=>d
 ownBut:List Nat:=[]
 rowDst:List Nat:=[]
 cuts:List Nat:=[]
 fstore:Bool:=false
 ownRes:Bool:=false
 unroll:List Nat:=[]

section prog
variable (P:Program)

def B4 (t:TypeId):Option Bool:=
 match P.underlying t with
 |some (.struct _)=>some true
 |some (.array _ _)=>some true
 |some _=>some false
 |none=>none

def szT (t:TypeId):Option Nat:=
 match P.info? t with
 |some i=>some i.size
 |none=>none

def Is (t:TypeId):Option (List AC):=
 match P.info? t with
 |some i=>match i.zero with
  |some v=>Il v.cells.toList
  |none=>none
 |none=>none

def Sb (t:TypeId) (i:Nat):Option Field:=
 match P.underlying t with
 |some (.struct fs)=>fs.toList[i]?
 |_=>none

def Dg (agg:Bool) (sz:Nat) (cells:List AC) (off:Nat):Option TV:=
 bif agg then(bif Nat.ble (off+sz) cells.length then some (.agg (cut cells off sz))else none)
 else match cells[off]? with
  |some a=>some (.c a)
  |none=>none

def HX (t:TypeId) (n:Nat):Bool:=
 match B4 P t with
 |some true=>true
 |some false=>Nat.beq n 1
 |none=>false

def IU {β:Type} (g:β->Option Bool):List β->Option Bool
 |[]=>some true
 |x::l=>match g x with
  |some b=>match IU g l with
   |some b'=>some (b&&b')
   |none=>none
  |none=>none

def eqC (ok:List TypeId):Nat->TypeId->List AC->List AC->Option Bool
 |0,_,_,_=>none
 |d+1,t,xs,ys=>
  match P.underlying t with
  |some .bool=>match xs,ys with
   |[.bool a],[.bool b]=>some (a==b)
   |_,_=>none
  |some (.int _)=>match xs,ys with
   |[.int k a],[.int k' b]=>bif kEq k k' then some (a==b)else none
   |_,_=>none
  | some (.struct fs) => bif ok.elem t then IU (fun f : Field => bif f.name == "_" then none else match szT P f.type with
    |some n=>bif(Nat.ble (f.offset+n) xs.length&&Nat.ble (f.offset+n) ys.length&&HX P f.type n)then eqC ok d f.type (cut xs f.offset n) (cut ys f.offset n)else none
    |none=>none) fs.toList else none
  |some (.array n e)=>match szT P e with
   |some m=>bif(Nat.ble (n*m) xs.length&&Nat.ble (n*m) ys.length&&HX P e m)then IU (fun i=>eqC ok d e (cut xs (i*m) m) (cut ys (i*m) m)) (List.range n)else none
   |none=>none
  |_=>none

def GK (i:Int):(todo k:Nat)->(Nat->Option R)->Option R
 |0,_,_=>none
 |n+1,k,K=>cond (decide (i=(k:Int))) (K k) (GK i n (k+1) K)

def LV (t:TypeId) (cs:List AC) (off:Nat):Option TV:=
 match B4 P t,szT P t with
 |some a,some sz=>Dg a sz cs off
 |_,_=>none

def HR (place:Nat->Option (Nat×Nat)):List AC->List (Nat×TV)->Option (List AC)
 |cells,[]=>some cells
 |cells,(i,v)::rest=>
  match place i,v.cells with
  |some (off,size),some cs=>bif(Nat.beq cs.length size&&Nat.ble (off+size) cells.length)then HR place (splice cells off cs) rest else none
  |_,_=>none

def Qyx (g:TypeId->Option (List Kd)):List Field->Nat->Option (List Kd)
 |[],_=>some []
 |f::fs,o=>match g f.type with
  | some ks => bif Nat.beq f.offset o then (match Qyx g fs (o + ks.length) with
   |some l=>some (ks++l)
   |none=>none)else none
  |none=>none
def Pz (ks:List Kd):Nat->List Kd
 |0=>[]
 |n+1=>ks++Pz ks n
def Fx:Nat->TypeId->Option (List Kd)
 |0,_=>none
 |n+1,t=>match P.underlying t with
  |some .bool=>some [.bool]
  |some (.int k)=>some [.int k]
  |some (.slice e)=>match Fx n e with
   |some ks=>some [.sl ks]
   |none=>none
  |some (.struct fs)=>Qyx (Fx n) fs.toList 0
  |some (.array m e)=>match Fx n e with
   |some ks=>some (Pz ks m)
   |none=>none
  |some _=>some [.raw]
  |none=>none

def Le (zero:List AC):Nat->List AC
 |0=>[]
 |n+1=>zero++Le zero n

def FP (g:Int->Int->Int) (k:IntKind) (a:Int):List TV->(Prim->Option R)->Option R
 |[],K=>K (.val (.c (.int k a)))
 |t::rest,K=>match t with
  | .v false [.int k' b]=>bif kEq k k' then FP g k (g a b) rest K else none
  |_=>none

def Lf (b:Builtin) (argTypes:List TypeId) (args:List TV) (K:Prim->Option R):Option R:=
 match b,args with
 | .len,[.v false [.view _ l]]=>match argTypes with
  |t::_=>match P.underlying t with
   |some (.slice _)=>K (.val (.c (.int .i64 (l.length:Int))))
   |_=>none
  |[]=>none
 | .len,[.v false [.own _ _ n]]=>match argTypes with
  |t::_=>match P.underlying t with
   |some (.slice _)=>K (.val (.c (.int .i64 (n:Int))))
   |_=>none
  |[]=>none
 | .len,[.v false [.bsl _ n]]=>match argTypes with
  |t::_=>match P.underlying t with
   |some (.slice _)=>K (.val (.c (.int .i64 (n:Int))))
   |_=>none
  |[]=>none
 | .len,[.v false [.nilSl]]=>match argTypes with
  |t::_=>match P.underlying t with
   |some (.slice _)=>K (.val (.c (.int .i64 0)))
   |_=>none
  |[]=>none
 | .len,[.v true _]=>match argTypes with
  |t::_=>match P.underlying t with
   |some (.array n _)=>K (.val (.c (.int .i64 (n:Int))))
   |_=>none
  |[]=>none
 | .min, .v false [.int k a]::rest=>FP mn k a rest K
 | .max, .v false [.int k a]::rest=>FP mx k a rest K
 | .append,[.c s, .c x]=>match argTypes with
  |[t,u]=>match P.underlying t,P.underlying u with
   |some (.slice e),some (.slice _)=>match P.info? e,Fx P 8 e with
    |some i,some ks=>match i.zero with
     |some z=>bif(Nat.beq t u&&Nat.beq z.cells.size i.size&&Nat.beq ks.length i.size)then K (.append e ks i.bytes s x)else none
     |none=>none
    |_,_=>none
   |_,_=>none
  |_=>none
 |_,_=>none

def JF (ev:Operand->TV):Option Operand->Option (Option Int)
 |none=>some none
 |some x=>match(ev x).int? with
  |some n=>some (some n)
  |none=>none

def Cj (ev:Operand->TV):List Operand->List TV
 |[]=>[]
 |x::l=>ev x::Cj ev l

def Fz (ev:Operand->TV):List (Nat×Operand)->List (Nat×TV)
 |[]=>[]
 |x::l=>(x.1,ev x.2)::Fz ev l

def Lj (f:Field):Bool:=
 match szT P f.type with
 |some _=>true
 |none=>false

def Qfy (fs:List Field) (i:Nat):Option (Nat×Nat):=
 match fs[i]? with
 |some f=>match szT P f.type with
  |some n=>some (f.offset,n)
  |none=>none
 |none=>none

variable (C:Cfg)

def Ql (dst:Option Tmp) (n:Nat):Bool:=match dst with
 |some d=>C.rowDst.elem d||Nat.beq n 0
 |none=>false

def AC.isClo:AC->Bool
 | .clo _ _ _=>true
 |_=>false
def AC.clOk:AC->Bool
 | .int _ _| .bool _| .raw _| .nilSl| .view _ _| .ptr _ _=>true
 |_=>false
def IP:List TV->Option (List AC)
 |[]=>some []
 | .v false [a] :: l => bif a.clOk then (match IP l with
  |some r=>some (a::r)
  |none=>none)else none
 |_=>none

def opK (ev:Operand->TV) (dst:Option Tmp) (o:Op) (K:Prim->Option R):Option R:=
 match o with
 | .move x=>K (.val (ev x))
 | .assign x=>K (.val (ev x))
 | .pick c a b=>match ev c with
  | .v false [.bool g]=>cond g (K (.val (ev a))) (K (.val (ev b)))
  |_=>none
 | .alloc t=>match Is P t with
  |some cs=>K (.new t cs)
  |none=>none
 | .box t x=>match(ev x).cells with
  |some cs=>K (.new t cs)
  |none=>none
 | .build t parts=>match Is P t,P.underlying t with
  |some z,some (.struct fs)=>bif Aj (Lj P) fs.toList then match HR (Qfy P fs.toList) z (Fz ev parts.toList)with
   |some cs=>K (.val (.agg cs))
   |none=>none else none
  |some z,some (.array _ e)=>match szT P e with
   |some n=>match HR (fun i=>some (i*n,n)) z (Fz ev parts.toList)with
    |some cs=>K (.val (.agg cs))
    |none=>none
   |none=>none
  |_,_=>none
 | .buildSlice t n parts=>match P.underlying t with
  |some (.slice e)=>match szT P e,Is P e,Fx P 8 e with
   |some w,some z,some ks=>bif(Nat.beq z.length w&&Nat.beq ks.length w&&Nat.ble 1 w&&Nat.ble (n*w) 65536)then match HR (fun i=>some (i*w,w)) (Le z n) (Fz ev parts.toList)with
    |some cs=>match Hs ks n cs with
     |some l=>cond (Ql C dst n) (K (.newRow e ks l)) (K (.newView e ks l))
     |none=>bif Aj AC.isClo cs&&Nat.beq w 1 then K (.newS e n cs)else none
    |none=>none else none
   |_,_,_=>none
  |_=>none
 | .makeSlice t len cap=>match P.underlying t,(ev len).int?,(ev cap).int? with
  |some (.slice e),some n,some c=>match P.info? e,Is P e,Fx P 8 e with
   |some i,some z,some ks=>match HT ks z with
    |some z'=>bif(Nat.beq ks.length i.size&&Nat.ble 1 i.size&&Nat.ble 1 i.bytes)then cond (decide (n=c)) (K (.make e ks i.bytes n z')) none else none
    |none=>none
   |_,_,_=>none
  |_,_,_=>none
 | .makeFunc fn first captured=>match fn with
  | .func f=>match IP (Cj ev first.toList),IP (Cj ev captured.toList)with
   |some fs,some cs=>K (.val (.c (.clo f fs cs)))
   |_,_=>none
  |_=>none
 | .load t a=>match B4 P t,szT P t with
  |some g,some sz=>match ev a with
   | .v false [.ptr key off]=>K (.load g sz key off)
   | .v false [.vptr cells sub]=>match Dg g sz cells sub with
    |some v=>K (.val v)
    |none=>none
   | .v false [.rptr id idx sub]=>K (.rload g sz id idx sub)
   |_=>none
  |_,_=>none
 | .store t a x=>match szT P t,(ev x).cells with
  |some sz,some cs=>bif Nat.beq cs.length sz then match ev a with
    | .v false [.ptr key off]=>K (.store key off cs)
    | .v false [.rptr id idx sub]=>K (.rstore id idx sub cs)
    |_=>none else none
  |_,_=>none
 | .nilCheck x=>match ev x with
  | .v false [.ptr key off]=>K (.val (.c (.ptr key off)))
  | .v false [.rptr id idx sub]=>K (.val (.c (.rptr id idx sub)))
  | .v false [.vptr cs sub]=>K (.val (.c (.vptr cs sub)))
  |_=>none
 | .binOp op t x y _=>match ev x,ev y with
  | .v false [.int k a], .v false [.int k' b]=>bif kEq k k'||L8 op then GI op k a b fun v=>K (.val (.c v))else none
  | .v false [.bool a], .v false [.bool b]=>match P.underlying t,op with
   |some .bool, .eql=>K (.val (.c (.bool (a==b))))
   |some .bool, .neq=>K (.val (.c (.bool (!(a==b)))))
   |_,_=>none
  | .v false [.ptr _ _], .v false [.raw (.pointer none)]=>match P.underlying t,op with
   |some (.pointer _), .eql=>K (.val (.c (.bool false)))
   |some (.pointer _), .neq=>K (.val (.c (.bool true)))
   |_,_=>none
  | .v true xs, .v true ys=>bif P.eqGuardType P.depth t then none else match B4 P t,eqC P C.eqOk 20 t xs ys,op with
   |some true,some r, .eql=>K (.val (.c (.bool r)))
   |some true,some r, .neq=>K (.val (.c (.bool (!r))))
   |_,_,_=>none
  |_,_=>none
 | .unOp op _ x=>match op,ev x with
  | .neg, .v false [.int k n]=>K (.val (.c (.int k (k.wrap (0-n)))))
  | .not, .v false [.bool b]=>K (.val (.c (.bool (!b))))
  |_,_=>none
 | .convert src dst x=>match P.underlying src,P.underlying dst,ev x with
  |some _,some (.int k), .v false [.int _ n]=>K (.val (.c (.int k (k.wrap n))))
  |_,_,_=>none
 | .fieldAddr t x i=>match Sb P t i with
  |some f=>match szT P f.type with
   |some (_+1)=>match ev x with
    | .v false [.ptr key off]=>K (.val (.c (.ptr key (off+f.offset))))
    | .v false [.rptr id idx sub]=>K (.val (.c (.rptr id idx (sub+f.offset))))
    | .v false [.vptr cs sub]=>K (.val (.c (.vptr cs (sub+f.offset))))
    |_=>none
   |_=>none
  |none=>none
 | .field t x i=>match Sb P t i,ev x with
  |some f, .v true cs=>match LV P f.type cs f.offset with
   |some v=>K (.val v)
   |none=>none
  |_,_=>none
 | .indexAddr t x ix=>match(ev ix).int?,P.underlying t with
  |some i,some (.array n e)=>match szT P e,ev x with
   |some m, .v false [.ptr key off]=>GK i n 0 fun j=>K (.val (.c (.ptr key (off+j*m))))
   |some m, .v false [.rptr id idx sub]=>GK i n 0 fun j=>K (.val (.c (.rptr id idx (sub+j*m))))
   |some m, .v false [.vptr cs sub]=>GK i n 0 fun j=>K (.val (.c (.vptr cs (sub+j*m))))
   |_,_=>none
  |some i,some (.slice e)=>match szT P e,ev x with
   |some m, .v false [.view ks l]=>bif Nat.beq m ks.length then cond (decide (0<=i)&&decide (i<(l.length:Int))) (K (.val (.c (.vptr (AK ks (nth [] l i.toNat)) 0)))) none else none
   |some m, .v false [.own id w n]=>bif Nat.beq m w then cond (decide (0<=i)&&decide (i<(n:Int))) (K (.val (.c (.rptr id i.toNat 0)))) none else none
   |some m, .v false [.bsl key n]=>bif Nat.beq m 1 then GK i n 0 fun j=>K (.val (.c (.ptr key j)))else none
   |_,_=>none
  |_,_=>none
 | .index t x ix=>match(ev ix).int?,P.underlying t,ev x with
  |some i,some (.array n e), .v true cs=>match szT P e with
   |some m=>GK i n 0 fun j=>match LV P e cs (j*m)with
    |some v=>K (.val v)
    |none=>none
   |none=>none
  |_,_,_=>none
 | .slice t x lo hi mx=>match mx,JF ev lo,JF ev hi,P.underlying t with
  |none,some lo,some hi,some (.slice e)=>match szT P e,ev x with
   |some m, .v false [.view ks l]=>bif Nat.beq m ks.length then
    match lo,hi with
    |none,none=>K (.val (.c (.view ks l)))
    |some a,none=>cond (decide (0<=a)&&decide (a<=(l.length:Int))) (K (.val (.c (.view ks (l.drop a.toNat))))) none
    |none,some b=>cond (decide (0<=b)&&decide (b<=(l.length:Int))) (K (.val (.c (.view ks (l.take b.toNat))))) none
    |some a,some b=>cond (decide (0<=a)&&decide (a<=b)&&decide (b<=(l.length:Int))) (K (.val (.c (.view ks ((l.take b.toNat).drop a.toNat))))) none
    else none
   |some m, .v false [.own id w n]=>match lo,hi with
    |some a,none=>bif Nat.beq m w then cond (decide (0<=a)&&decide (a<=(n:Int))) (K (.cutR id a.toNat)) none else none
    |_,_=>none
   |some _, .v false [.nilSl]=>match lo,hi with
    |none,none=>K (.val (.c .nilSl))
    |some a,none=>cond (decide (a=0)) (K (.val (.c .nilSl))) none
    |none,some b=>cond (decide (b=0)) (K (.val (.c .nilSl))) none
    |some a,some b=>cond (decide (a=0)&&decide (b=0)) (K (.val (.c .nilSl))) none
   |_,_=>none
  |_,_,_,_=>none
 | .extract t i=>match ev t with
  | .tup ps=>match ps[i]? with
   |some (g,cs)=>K (.val (.v g cs))
   |none=>none
  |_=>none
 | .call c=>match c.callee with
  | .builtin b=>Lf P b c.argTypes.toList (Cj ev c.args.toList) K
  | .value (.func f)=>cond (C.pure f) (K (.call f (Cj ev c.args.toList))) (K (.callM f (Cj ev c.args.toList)))
  | .value (.tmp t)=>match ev (.tmp t)with
   | .v false [.clo f fs cs]=>bif Aj AC.clOk fs&&Aj AC.clOk cs then K (.callM f (fs.map TV.c++(Cj ev c.args.toList++cs.map TV.c)))else none
   |_=>none
  |_=>none
 |_=>none

def AQ (tmps:List TV):Operand->TV
 | .tmp t=>nth .dead tmps t
 | .const v=>ofValue v
 |_=> .dead

def AC.kill (id:Nat):AC->AC
 | .own j w n=>bif Nat.beq j id then .dead else .own j w n
 | .rptr j a b=>bif Nat.beq j id then .dead else .rptr j a b
 |a=>a

def TV.kill (id:Nat):TV->TV
 | .v g cs=> .v g (cs.map (AC.kill id))
 | .tup ps=> .tup (ps.map fun p=>(p.1,p.2.map (AC.kill id)))
 | .dead=> .dead

def Box.kill (id:Nat) (b:Box):Box:=⟨b.ty,b.cells.map (AC.kill id)⟩

def AC.fz (id:Nat) (ks:List Kd) (l:List (List AC)):AC->AC
 | .own j w n=>bif Nat.beq j id then .view ks l else .own j w n
 | .rptr j a b=>bif Nat.beq j id then .dead else .rptr j a b
 |a=>a
def TV.fz (id:Nat) (ks:List Kd) (l:List (List AC)):TV->TV
 | .v g cs=> .v g (cs.map (AC.fz id ks l))
 | .tup ps=> .tup (ps.map fun p=>(p.1,p.2.map (AC.fz id ks l)))
 | .dead=> .dead
def Box.fz (id:Nat) (ks:List Kd) (l:List (List AC)) (b:Box):Box:=⟨b.ty,b.cells.map (AC.fz id ks l)⟩

def del {α:Type} (id:Nat):List (Nat×α)->List (Nat×α)
 |[]=>[]
 |(k,b)::l=>bif Nat.beq k id then del id l else(k,b)::del id l

def HQ:List Nat->St->(St->Option R)->Option R
 |[],s,K=>K s
 |id::l,⟨tmps,boxes,rows⟩,K=>match Ab rows id with
  |some r=>AI (tmps.map (TV.fz id r.ks r.l)) fun tmps'=>AI (boxes.map fun p=>(p.1,p.2.fz id r.ks r.l)) fun boxes'=>AI (del id rows) fun rows'=>HQ l ⟨tmps',boxes',rows'⟩ K
  |none=>HQ l ⟨tmps,boxes,rows⟩ K

def AC.res (rows:List (Nat×Row)):AC->Option AC
 | .own id _ _=>match Ab rows id with
  |some r=>some (.view r.ks r.l)
  |none=>none
 | .int k n=>some (.int k n)
 | .bool b=>some (.bool b)
 | .raw v=>some (.raw v)
 | .nilSl=>some .nilSl
 | .view ks l=>some (.view ks l)
 |_=>none

def ET (rows:List (Nat×Row)):List AC->Option (List AC)
 |[]=>some []
 |a::l=>match a.res rows with
  |some a'=>match ET rows l with
   |some l'=>some (a'::l')
   |none=>none
  |none=>none

def TV.res (rows:List (Nat×Row)):TV->Option TV
 | .v g cs=>match ET rows cs with
  |some l=>some (.v g l)
  |none=>none
 |_=>none

def Gf (rows:List (Nat×Row)):List TV->Option (List TV)
 |[]=>some []
 |a::l=>match a.res rows with
  |some a'=>match Gf rows l with
   |some l'=>some (a'::l')
   |none=>none
  |none=>none

def AC.isOwn:AC->Bool
 | .own _ _ _=>true
 |_=>false
def TV.hasOwn:TV->Bool
 | .v _ cs=>cs.any AC.isOwn
 |_=>true

def AC.flat:AC->Bool
 | .int _ _| .bool _| .raw _| .nilSl=>true
 |_=>false
def TV.flat:TV->Bool
 | .v _ cs=>Aj AC.flat cs
 | .tup ps=>Aj (fun p:Bool×List AC=>Aj AC.flat p.2) ps
 | .dead=>false

def TV.plainB:TV->Bool
 | .v _ cs=>Aj AC.plain cs
 | .tup ps=>Aj (fun p:Bool×List AC=>Aj AC.plain p.2) ps
 | .dead=>false

def Prim.dr:Bool->Prim->Prim
 |false, .callM f args=>bif Aj TV.plainB args then .callF f args else .callD f args
 |false, .append e ks b s x=> .appD e ks b s x
 |_,p=>p

def Gr (rows:List (Nat×Row)) (ks:List Kd):AC->Option (List (List AC))
 | .nilSl=>some []
 | .view ks' l=>bif CD ks ks' then some l else none
 | .own id _ _=>match Ab rows id with
  |some r=>bif CD ks r.ks then some r.l else none
  |none=>none
 |_=>none

def put (s:St) (dst:Option Tmp) (v:TV) (K:St->Option R):Option R:=
 match dst with
 |none=>K s
 |some d=>match s with
  |⟨tmps,boxes,rows⟩=>AI (setL tmps d v) fun l=>K ⟨l,boxes,rows⟩

def AC.keys:AC->List Nat
 | .ptr k _=>[k]
 | .bsl k _=>[k]
 | .clo _ fs cs=>keysL fs++keysL cs
 |_=>[]
where keysL:List AC->List Nat
 |[]=>[]
 | .ptr k _::l=>k::keysL l
 |_::l=>keysL l
def AC.ids:AC->List Nat
 | .own id _ _=>[id]
 |_=>[]
def cat {α β:Type} (g:α->List β):List α->List β
 |[]=>[]
 |a::l=>g a++cat g l
def TV.cellsOf:TV->List AC
 | .v _ cs=>cs
 | .tup ps=>cat (fun p:Bool×List AC=>p.2) ps
 | .dead=>[]
def P5 (n:Nat):List Nat->List Nat
 |[]=>[n]
 |m::l=>bif Nat.beq m n then m::l else m::P5 n l
def AS:List Nat->List Nat->List Nat
 |[],l=>l
 |n::ns,l=>AS ns (P5 n l)
def D5 (boxes:List (Nat×Box)) (k:Nat):List AC:=match Ab boxes k with
 |some b=>b.cells
 |none=>[]
def Zpw (boxes:List (Nat×Box)) (keys:List Nat):List Nat:=AS (cat (fun k=>cat AC.keys (D5 boxes k)) keys) keys
def Lu (boxes:List (Nat×Box)):Nat->List Nat->List Nat
 |0,l=>l
 |n+1,l=>Lu boxes n (Zpw boxes l)
def Nw (boxes:List (Nat×Box)) (cells:List AC) (keys:List Nat):List Nat:=
 AS (cat AC.ids cells++cat (fun k=>cat AC.ids (D5 boxes k)) keys) []

def pos:List Nat->Nat->Nat
 |[],_=>0
 |m::l,n=>bif Nat.beq m n then 0 else pos l n+1
def AH:List Nat->Nat->Bool
 |[],_=>false
 |m::l,n=>bif Nat.beq m n then true else AH l n

def AC.ren (rk ri:Nat->Nat):AC->AC
 | .ptr k o=> .ptr (rk k) o
 | .bsl k n=> .bsl (rk k) n
 | .own id w n=> .own (ri id) w n
 | .rptr id i s=> .rptr (ri id) i s
 | .clo f fs cs=> .clo f (renP rk fs) (renP rk cs)
 |a=>a
where renP (rk:Nat->Nat):List AC->List AC
 |[]=>[]
 | .ptr k o::l=> .ptr (rk k) o::renP rk l
 |a::l=>a::renP rk l
def TV.ren (rk ri:Nat->Nat):TV->TV
 | .v g cs=> .v g (cs.map (AC.ren rk ri))
 | .tup ps=> .tup (ps.map fun p=>(p.1,p.2.map (AC.ren rk ri)))
 | .dead=> .dead

def AC.inK (keys ids:List Nat):AC->Bool
 | .ptr k _=>AH keys k
 | .bsl k _=>AH keys k
 | .own id _ _=>AH ids id
 | .rptr id _ _=>AH ids id
 | .clo _ fs cs=>Aj (inP keys) fs&&Aj (inP keys) cs
 |_=>true
where inP (keys:List Nat):AC->Bool
 | .ptr k _=>AH keys k
 |_=>true
def TV.inK (keys ids:List Nat):TV->Bool
 | .v _ cs=>Aj (AC.inK keys ids) cs
 | .tup ps=>Aj (fun p:Bool×List AC=>Aj (AC.inK keys ids) p.2) ps
 | .dead=>true

def C9 (boxes:List (Nat×Box)) (rk ri:Nat->Nat):Nat->List Nat->Option (List (Nat×Box))
 |_,[]=>some []
 |b,k::ks=>match Ab boxes k with
  |some x=>match C9 boxes rk ri (b+1) ks with
   |some l=>some ((b,⟨x.ty,x.cells.map (AC.ren rk ri)⟩)::l)
   |none=>none
  |none=>none
def FO (rows:List (Nat×Row)):Nat->List Nat->Option (List (Nat×Row))
 |_,[]=>some []
 |b,k::ks=>match Ab rows k with
  |some x=>match FO rows (b+1) ks with
   |some l=>some ((b,x)::l)
   |none=>none
  |none=>none

def base:Nat:=20000
def Bq (names fresh:List Nat) (d:Nat) (n:Nat):Nat:=
 bif Nat.ble base n&&Nat.blt (n-base) names.length then nth 0 names (n-base)else 100000+100*d+pos fresh n
def A8 {α:Type} (names:List Nat):List (Nat×α)->List Nat
 |[]=>[]
 |(k,_)::l=>bif Nat.ble base k&&Nat.blt (k-base) names.length then A8 names l else k::A8 names l
def Dn {α:Type}:List Nat->List (Nat×α)->List (Nat×α)
 |[],l=>l
 |k::ks,l=>Dn ks (del k l)
def KZ (rk ri:Nat->Nat):List (Nat×Box)->List (Nat×Box)->List (Nat×Box)
 |[],l=>l
 |(k,b)::m,l=>KZ rk ri m (ins l (rk k) ⟨b.ty,b.cells.map (AC.ren rk ri)⟩)
def JN (ri:Nat->Nat):List (Nat×Row)->List (Nat×Row)->List (Nat×Row)
 |[],l=>l
 |(k,b)::m,l=>JN ri m (ins l (ri k) b)
def B8 (keys:List Nat):List (Nat×Box)->List (Nat×Box)->List (Nat×Box)
 |[],l=>l
 |(k,b)::m,l=>B8 keys m (upd l (nth 0 keys (k-base)) b)
def GW (ids:List Nat) (v:TV):TV:=match ids with
 |[]=>v
 |id::l=>GW l (v.kill id)
def Df (ids:List Nat) (b:Box):Box:=match ids with
 |[]=>b
 |id::l=>Df l (b.kill id)
def G3 {α:Type} (l:List (Nat×α)) (k:Nat):Bool:=match Ab l k with
 |some _=>false
 |none=>true
def Bw:List Nat->Bool
 |[]=>true
 |k::l=>bif AH l k then false else Bw l
def DE {α:Type} (l:List (Nat×α)) (k:Nat):Bool:=match Ab l k with
 |some _=>true
 |none=>false

def Hi (d:Nat):Nat:=100000+100*d
def AV (dst:Option Tmp) (p:Prim) (s:St) (K:TV->St->Option R):Option R:=
 match s with
 |⟨tmps,boxes,rows⟩=>
 match p with
 | .val v=>K v ⟨tmps,boxes,rows⟩
 | .load g sz key off=>match Ab boxes key with
  |some b=>match Dg g sz b.cells off with
   |some v=>K v ⟨tmps,boxes,rows⟩
   |none=>none
  |none=>none
 | .store key off cs=>match Ab boxes key with
  |some b=>bif Nat.ble (off+cs.length) b.cells.length then
    AI (splice b.cells off cs) fun cells=>AI (upd boxes key ⟨b.ty,cells⟩) fun boxes'=>K .dead ⟨tmps,boxes',rows⟩
   else none
  |none=>none
 | .new ty cs=>match dst with
  |some d=>match Ab boxes d with
   |some _=>none
   |none=>AI (ins boxes d ⟨ty,cs⟩) fun boxes'=>K (.c (.ptr d 0)) ⟨tmps,boxes',rows⟩
  |none=>none
 | .newS ty n cs=>match dst with
  |some d=>match Ab boxes d with
   |some _=>none
   |none=>AI (ins boxes d ⟨ty,cs⟩) fun boxes'=>K (.c (.bsl d n)) ⟨tmps,boxes',rows⟩
  |none=>none
 | .cutR id a=>match Ab rows id with
  |some r=>bif Nat.ble a r.l.length then
    AI (tmps.map (TV.kill id)) fun tmps'=>
    AI (boxes.map fun p=>(p.1,p.2.kill id)) fun boxes'=>
    AI (upd rows id ⟨r.ty,r.ks,r.l.drop a⟩) fun rows'=>
    K (.c (.own id r.ks.length (r.l.drop a).length)) ⟨tmps',boxes',rows'⟩
   else none
  |none=>none
 | .rload g sz id idx sub=>match Ab rows id with
  |some r=>match Dg g sz (r.f idx) sub with
   |some v=>K v ⟨tmps,boxes,rows⟩
   |none=>none
  |none=>none
 | .rstore id idx sub cs=>match Ab rows id with
  |some r=>bif Nat.ble (sub+cs.length) r.w&&Aj AC.plain cs then
    match HT r.ks (splice (r.f idx) sub cs)with
    |some c=>AI (upd rows id ⟨r.ty,r.ks,r.l.set idx c⟩) fun rows'=>K .dead ⟨tmps,boxes,rows'⟩
    |none=>none else none
  |none=>none
 | .newRow e ks l=>match dst with
  |some d=>match Ab rows (C.rowAs d)with
   |some _=>none
   |none=>AI (ins rows (C.rowAs d) ⟨e,ks,l⟩) fun rows'=>K (.c (.own (C.rowAs d) ks.length l.length)) ⟨tmps,boxes,rows'⟩
  |none=>none
 | .newView _ ks l=>K (.c (.view ks l)) ⟨tmps,boxes,rows⟩
 | .make e ks bytes n z=>match dst with
  |some d=>match Ab rows d with
   |some _=>none
   |none=>cond (decide (0<=n)&&decide (n*(bytes:Int)<=140737488355328))
     (AI (ins rows d ⟨e,ks,List.replicate n.toNat z⟩) fun rows'=>K (.c (.own d ks.length (List.replicate n.toNat z).length)) ⟨tmps,boxes,rows'⟩) none
  |none=>none
 | .append e ks bytes s x=>match Gr rows ks x with
  |some m=>match s with
   | .nilSl=>match dst with
    |some d=>match Ab rows d with
     |some _=>none
     |none=>bif(Nat.ble 1 ks.length&&Nat.ble 1 bytes)then cond (Nat.ble (m.length*bytes) 140737488355328) (AI (ins rows d ⟨e,ks,m⟩) fun rows'=>K (.c (.own d ks.length m.length)) ⟨tmps,boxes,rows'⟩) none else none
    |none=>none
   | .own id _ _=>match Ab rows id with
    |some r=>bif(CD ks r.ks&&Nat.beq r.ty e&&Nat.ble 1 bytes)then
      cond (Nat.ble ((r.l ++ m).length * bytes) 140737488355328) (
       AI (tmps.map (TV.kill id)) fun tmps'=>
       AI (boxes.map fun p=>(p.1,p.2.kill id)) fun boxes'=>
       AI (upd rows id ⟨e,r.ks,r.l++m⟩) fun rows'=>
       K (.c (.own id r.ks.length (r.l++m).length)) ⟨tmps',boxes',rows'⟩) none
     else none
    |none=>none
   |_=>none
  |none=>none
 | .appD e ks bytes s x=>match Gr rows ks x with
  |some m=>match s with
   | .own id _ _=>match Ab rows id with
    |some r=>bif(CD ks r.ks&&Nat.beq r.ty e&&Nat.ble 1 bytes)then
      cond (Nat.ble ((r.l ++ m).length * bytes) 140737488355328) (
       AI (tmps.map (TV.kill id)) fun tmps'=>
       AI (boxes.map fun p=>(p.1,p.2.kill id)) fun boxes'=>
       AI (upd rows id ⟨e,r.ks,r.l++m⟩) fun rows'=>
       K (.c (.own id r.ks.length (r.l++m).length)) ⟨tmps',boxes',rows'⟩) none
     else none
    |none=>none
   | .nilSl=>match dst with
    |some d=>match Ab rows d with
     |some _=>none
     | none => bif (Nat.ble 1 ks.length && Nat.ble 1 bytes) then cond (Nat.ble (m.length * bytes) 140737488355328) (
       AI (tmps.map (TV.kill d)) fun tmps'=>
       AI (boxes.map fun p=>(p.1,p.2.kill d)) fun boxes'=>
       AI (ins rows d ⟨e,ks,m⟩) fun rows'=>K (.c (.own d ks.length m.length)) ⟨tmps',boxes',rows'⟩) none else none
    |none=>none
   |_=>none
  |none=>none
 | .call f args=>match C.spec f with
  |some g=>match Gf rows args with
   |some as=>g R as ⟨[],[]⟩ fun v m=>match m with
    |⟨[],[]⟩=>bif((!(args.any TV.hasOwn)||v.flat)&&v.plainB)then K v ⟨tmps,boxes,rows⟩else none
    |_=>none
   |none=>none
  |none=>none
 | .callM f args=>match C.spec f with
  |some g=>
   AI (Lu boxes 4 (AS (cat AC.keys (cat TV.cellsOf args)) [])) fun keys=>
   AI (Nw boxes (cat TV.cellsOf args) keys) fun ids=>
   bif Aj (TV.inK keys ids) args&&Aj (fun k=>Aj (AC.inK keys ids) (D5 boxes k)) keys&&Bw keys&&Bw ids then
    match C9 boxes (fun k=>base+pos keys k) (fun i=>base+pos ids i) base keys,FO rows base ids with
    |some mb,some mr=>g R (args.map (TV.ren (fun k=>base+pos keys k) (fun i=>base+pos ids i))) ⟨mb,mr⟩ fun v m=>match m with
     |⟨mb',mr'⟩=>
      AI (A8 keys mb') fun fk=>AI (A8 ids mr') fun fi=>
      bif Aj (fun p:Nat×Box=>DE mb' p.1) mb&&Bw (mb'.map (·.1))&&Bw (mr'.map (·.1))&&Aj (fun k=>G3 boxes (Bq keys fk (dst.getD 0) k)) fk&&Aj (fun k=>G3 rows (Bq ids fi (dst.getD 0) k)) fi&&Nat.ble fk.length 100&&Nat.ble fi.length 100 then
       AI (tmps.map (GW ids)) fun tmps'=>
       AI (KZ (Bq keys fk (dst.getD 0)) (Bq ids fi (dst.getD 0)) mb' ((Dn keys boxes).map fun p=>(p.1,Df ids p.2))) fun boxes'=>
       AI (JN (Bq ids fi (dst.getD 0)) mr' (Dn ids rows)) fun rows'=>
       K (v.ren (Bq keys fk (dst.getD 0)) (Bq ids fi (dst.getD 0))) ⟨tmps',boxes',rows'⟩
      else none
    |_,_=>none
   else none
  |none=>none
 | .callD f args=>match C.spec f with
  |some g=>
   AI (AS (cat AC.keys (cat TV.cellsOf args)) []) fun keys=>
   bif Aj (TV.inK keys []) args&&Aj (fun k=>Aj AC.calm (D5 boxes k)) keys&&Bw keys then
    match C9 boxes (fun k=>base+pos keys k) (fun i=>base+pos [] i) base keys with
    |some mb=>g R (args.map (TV.ren (fun k=>base+pos keys k) (fun i=>base+pos [] i))) ⟨mb,[]⟩ fun v m=>match m with
     |⟨mb',[]⟩=>
      bif Aj (fun p:Nat×Box=>DE mb' p.1) mb&&Aj (fun p:Nat×Box=>DE mb p.1) mb'&&Bw (mb'.map (·.1))&&Aj (fun p:Nat×Box=>Aj AC.calm p.2.cells) mb'&&v.plainB then
       AI (B8 keys mb' boxes) fun boxes'=>K v ⟨tmps,boxes',rows⟩
      else none
     |⟨_,_::_⟩=>none
    |none=>none
   else none
  |none=>none
 | .callF f args=>match C.spec f with
  |some g=>bif Aj TV.plainB args then g R args ⟨[],[]⟩ fun v m=>match m with
   |⟨[],[]⟩=>bif v.plainB then K v ⟨tmps,boxes,rows⟩else none
   |⟨[],[(k,r)]⟩=>match v with
    | .v false [.own j _ _] => bif Nat.beq j k then (match Ab rows (Hi (dst.getD 0)) with
     |some _=>none
     |none=>AI (ins rows (Hi (dst.getD 0)) r) fun rows'=>K (.c (.own (Hi (dst.getD 0)) r.ks.length r.l.length)) ⟨tmps,boxes,rows'⟩)else none
    |_=>none
   |_=>none
   else none
  |none=>none

def Oq (ops:List Oper) (o:Oper) (s:St) (run skip:St->Option R):Option R:=
 match o.guard with
 |none=>run s
 |some (j,want)=>match ops[j]? with
  |some oj=>match oj.dst with
   |some t=>match nth .dead s.tmps t with
    | .v false [.bool g]=>cond g (put s (some t) (.c (.bool true)) (bif want then run else skip)) (put s (some t) (.c (.bool false)) (bif want then skip else run))
    | .tup []=>skip s
    |_=>none
   |none=>none
  |none=>none

def Kq (k o:Nat) (e:TypeId) (s:St) (K:St->Option R):Option R:=match s with
 |⟨tmps,boxes,rows⟩=>match Ab boxes k with
  |some b=>match nth .dead b.cells o with
   | .nilSl=>match Fx P 8 e with
    |some ks=>bif Nat.ble 1 ks.length&&G3 rows (1000000+1000*k+o)then
      AI (ins rows (1000000+1000*k+o) ⟨e,ks,[]⟩) fun rows'=>AI (setL b.cells o (.own (1000000+1000*k+o) ks.length 0)) fun cells=>AI (upd boxes k ⟨b.ty,cells⟩) fun boxes'=>K ⟨tmps,boxes',rows'⟩
     else none
    |none=>none
   |_=>K ⟨tmps,boxes,rows⟩
  |none=>K ⟨tmps,boxes,rows⟩
def IV:List (Nat×Nat×TypeId)->St->(St->Option R)->Option R
 |[],s,K=>K s
 |(k,o,e)::l,s,K=>Kq P k o e s fun s'=>IV l s' K
def Dr:List Kd->List AC->List AC
 | .sl ks::l, .nilSl::cs=> .view ks []::Dr l cs
 |_::l,a::cs=>a::Dr l cs
 |_,cs=>cs
def RP (b:Box):Box:=match Fx P 8 b.ty with
 |some ks=>⟨b.ty,Dr ks b.cells⟩
 |none=>b
def II:List (Nat×TypeId)->St->(St->Option R)->Option R
 |[],s,K=>K s
 |(t,e)::l,⟨tmps,boxes,rows⟩,K=>match nth .dead tmps t with
  | .v false [.nilSl]=>match Ab rows t,Fx P 8 e with
   |none,some ks=>bif Nat.ble 1 ks.length then AI (setL tmps t (.c (.own t ks.length 0))) fun tmps'=>AI (ins rows t ⟨e,ks,[]⟩) fun rows'=>II l ⟨tmps',boxes,rows'⟩ K else none
   |_,_=>none
  |_=>II l ⟨tmps,boxes,rows⟩ K

def GX (s:St) (K:St->Option R):Option R:=
 IV P (cat (fun p:Nat×Box=>bif AH C.ownBut p.1 then []else(C.ownOff p.2.ty).map fun q=>(p.1,q.1,q.2)) s.boxes) s fun s'=>match s' with
  |⟨tmps,boxes,rows⟩=>AI (boxes.map fun p=>(p.1,RP P p.2)) fun boxes'=>II P C.tprom ⟨tmps,boxes',rows⟩ K

def Zb0:TV->Bool
 | .v false [.rptr _ _ _]=>true
 |_=>false
def Zez (C:Cfg):Operand->Bool
 | .tmp t=>AH C.cuts t
 |_=>false
def Qpa (ev:Operand->TV) (o:Op):List Nat:=
 match o with
 | .slice _ x _ _ _=>bif Zez C x then []else cat AC.ids (TV.cellsOf (ev x))
 | .store _ a x=>bif C.fstore||Zb0 (ev a)then cat AC.ids (TV.cellsOf (ev x))else []
 | .buildSlice _ _ parts=>cat AC.ids (cat TV.cellsOf (parts.toList.map fun p=>ev p.2))
 | .makeFunc _ a b=>cat AC.ids (cat TV.cellsOf (Cj ev a.toList++Cj ev b.toList))
 | .call c=>match c.callee with
  | .value (.func f)=>bif C.lend f then []else cat AC.ids (cat TV.cellsOf (Cj ev c.args.toList))
  | .value _=>cat AC.ids (cat TV.cellsOf (Cj ev c.args.toList))
  |_=>[]
 |_=>[]
def Qjk (o:Op):Bool:=match o with
 | .call c=>match c.callee with
  | .value (.func f)=> !(C.pure f)
  | .value _=>true
  |_=>false
 |_=>false
def HF (o:Op) (s:St) (K:St->Option R):Option R:=
 HQ (Qpa C (AQ s.tmps) o) s fun s'=>bif Qjk C o then GX P C s' K else K s'

def Fq (pre:Bool) (ops:List Oper) (o:Oper) (s:St) (K:Option Prim->St->Option R):Option R:=
 Oq ops o s
  (fun s=>(bif pre then HF P C o.op s else fun K=>K s) fun s=>opK P C (AQ s.tmps) o.dst o.op fun p=>AV C o.dst (p.dr pre) s fun v s'=>put s' o.dst v (K (some (p.dr pre))))
  (fun s=>put s o.dst (.tup []) (K none))

def Prim.simple:Option Prim->Bool
 |none=>true
 |some (.val _)=>true
 |some (.load _ _ _ _)=>true
 |some (.store _ _ _)=>true
 |some (.new _ _)=>true
 |some (.newView _ _ _)=>true
 |some (.rload _ _ _ _ _)=>true
 |some (.call _ _)=>true
 |some (.callD _ _)=>true
 |some (.callF _ _)=>true
 |some (.newRow _ _ _)=>true
 |some (.appD _ _ _ _ _)=>true
 |_=>false

def AC.live:AC->Bool
 | .int _ _| .bool _| .raw _| .nilSl| .view _ _| .ptr _ _=>true
 |_=>false
def Prim.isPtr:Option Prim->Bool
 |some (.val (.v false [.ptr _ _]))=>true
 |_=>false
def Prim.isLive:Option Prim->Bool
 |some (.val (.v _ cs))=>Aj AC.live cs
 |_=>false
def Prim.still (o:Op) (p:Option Prim):Bool:=match o with
 | .move _=>Prim.isLive p
 | .nilCheck _=>Prim.isPtr p
 | .fieldAddr _ _ _=>Prim.isPtr p
 |_=>false
def Prim.isApp:Option Prim->Bool
 |some (.appD _ _ _ _ _)=>true
 |_=>false
def Prim.isMk:Option Prim->Bool
 |some (.newRow _ _ _)=>true
 |some (.callF _ _)=>true
 |_=>false
def Prim.mkStill:Option Prim->Bool
 |none=>true
 |some (.val _)=>true
 |some (.load _ _ _ _)=>true
 |some (.newView _ _ _)=>true
 |some (.call _ args)=>Aj TV.plainB args
 |some (.newRow _ _ _)=>true
 |some (.callF _ _)=>true
 |_=>false
def HY (y:Oper) (py:Option Prim) (x:Oper) (px:Option Prim):Bool:=
 bif Prim.isApp py then !(Prim.isApp px)&&y.guard.isNone&&x.guard.isNone&&Prim.still x.op px
 else bif Prim.isApp px then y.guard.isNone&&x.guard.isNone&&Prim.still y.op py
 else bif Prim.isMk py then Prim.mkStill px else bif Prim.isMk px then Prim.mkStill py else true

def Prim.meet (ro:FuncId->Bool):Option Prim->Option Prim->Bool
 |some (.load _ _ k _),some (.store k' _ _)=>Nat.beq k k'
 |some (.store k _ _),some (.load _ _ k' _)=>Nat.beq k k'
 |some (.store k _ _),some (.store k' _ _)=>Nat.beq k k'
 |some (.callD f as),some (.load _ _ k _)=> !(ro f)&&AH (AS (cat AC.keys (cat TV.cellsOf as)) []) k
 |some (.callD _ as),some (.store k _ _)=>AH (AS (cat AC.keys (cat TV.cellsOf as)) []) k
 |some (.load _ _ k _),some (.callD f as)=> !(ro f)&&AH (AS (cat AC.keys (cat TV.cellsOf as)) []) k
 |some (.store k _ _),some (.callD _ as)=>AH (AS (cat AC.keys (cat TV.cellsOf as)) []) k
 |some (.callD f _),some (.callD g _)=> !(ro f&&ro g)
 |_,_=>false

def SY (ops:List Oper):List Oper->St->(St->Option R)->Option R
 |[],s,K=>K s
 |o::l,s,K=>Fq P C true ops o s fun _ s'=>SY ops l s' K

def RH (m:List Nat):List Edge->Nat->Nat
 |[],acc=>acc
 |e::l,acc=>RH m l (bif Region.binds .any e then Nat.lor acc (Nat.lor (2^e.on) (nth 0 m e.on))else acc)
def Q5e {α:Type} (n:Nat) (K:Nat->α):α:=match n with
 |0=>K 0
 |n+1=>K (n+1)
def ST:List Oper->List Nat->(List Nat->Option R)->Option R
 |[],m,K=>K m
 |o::l,m,K=>Q5e (RH m o.after.toList 0) fun x=>AI (m++[x]) fun m'=>ST l m' K
def KB (m:List Nat) (i j:Nat):Bool:=Nat.testBit (nth 0 m i) j
def Zxy:Op->Bool
 | .call _=>true
 | .makeSlice _ _ _=>true
 | .buildSlice _ _ _=>true
 | .store _ _ _=>true
 | .slice _ _ _ _ _=>true
 |_=>false
def CJ (ops:List Oper) (m:List Nat) (i:Nat):Bool:=match ops[i]? with
 |some o=>Zxy o.op&&Aj (fun j=>Nat.beq j i||KB m i j||KB m j i) (List.range ops.length)
 |none=>false

def L6 (ops:List Oper) (m:List Nat):List Oper->Nat->St->(List (Oper×Option Prim)->St->Option R)->Option R
 |[],_,s,K=>K [] s
 |o::l,i,s,K=>Fq P C (CJ ops m i) ops o s fun p s'=>L6 ops m l (i+1) s' fun rest sf=>K ((o,p)::rest) sf

def Jp (ops:Array Oper) (m:List Nat):Nat->List (Nat×Oper×Option Prim)->List (Oper×Option Prim)->Bool
 |_,_,[]=>true
 |i,earlier,(o,p)::l=>
  bif(CJ ops.toList m i||Prim.simple p)&&o.after.toList.all (fun e=> !(Region.binds .any e)||Nat.blt e.on i)&&Aj (fun y:Nat×Oper×Option Prim=>KB m i y.1||(!(CJ ops.toList m i)&& !(CJ ops.toList m y.1)&&(Oper.apart ops y.2.1 o&& !(Prim.meet C.ro y.2.2 p)&&HY y.2.1 y.2.2 o p))) earlier then Jp ops m (i+1) (earlier++[(i,o,p)]) l else false

def Wo (ops:Array Oper) (draw:Bool) (s:St) (K:St->Option R):Option R:=
 bif draw then ST ops.toList [] fun m=>L6 P C ops.toList m ops.toList 0 s fun acc s'=>bif Jp C ops m 0 [] acc then K s' else none
 else SY P C ops.toList ops.toList s K

def I3:List (Nat×Nat)->List AC->Bool
 |[],[]=>true
 |(k,o)::l, .ptr k' o'::cs=>Nat.beq k k'&&Nat.beq o o'&&I3 l cs
 |_,_=>false
def JZ:CS->AC->Option (List AC)
 | .any,_=>some []
 | .int k, .int k' n=>bif kEq k k' then some [.int k n]else none
 | .bool, .bool b=>some [.bool b]
 | .sl ks, .nilSl=>some [.view ks []]
 | .sl ks, .view ks' l=>bif CD ks ks' then some [.view ks l]else none
 | .rawc, .raw v=>some [.raw v]
 | .nil, .nilSl=>some []
 | .ptr k o, .ptr k' o'=>bif Nat.beq k k'&&Nat.beq o o' then some []else none
 | .own id w, .own id' w' _=>bif Nat.beq id id'&&Nat.beq w w' then some []else none
 | .bsl k n, .bsl k' n'=>bif Nat.beq k k'&&Nat.beq n n' then some []else none
 | .clo f fs cs, .clo f' fs' cs'=>bif Nat.beq f f'&&I3 fs fs'&&I3 cs cs' then some []else none
 |_,_=>none
def Gv:List CS->List AC->Option (List AC)
 |[],[]=>some []
 |c::cs,a::as=>match JZ c a with
  |some v=>match Gv cs as with
   |some vs=>some (v++vs)
   |none=>none
  |none=>none
 |_,_=>none
def Lq:List (Bool×List CS)->List (Bool×List AC)->Option (List AC)
 |[],[]=>some []
 | (g, cs) :: l, (g', as) :: m => bif g == g' then (match Gv cs as with
  |some v=>match Lq l m with
   |some vs=>some (v++vs)
   |none=>none
  |none=>none)else none
 |_,_=>none
def Iqo:TS->TV->Option (List AC)
 | .dead,_=>some []
 | .v g cs, .v g' as=>bif g==g' then Gv cs as else none
 | .tup ps, .tup qs=>Lq ps qs
 |_,_=>none
def Jj:List TS->List TV->Option (List AC)
 |[],[]=>some []
 |t::ts,v::vs=>match Iqo t v with
  |some a=>match Jj ts vs with
   |some l=>some (a++l)
   |none=>none
  |none=>none
 |_,_=>none
def I9:List (Nat×TypeId×List CS)->List (Nat×Box)->Option (List AC)
 |[],_=>some []
 |(k,t,cs)::l,boxes=>match Ab boxes k with
  | some b => bif Nat.beq t b.ty then (match Gv cs b.cells with
   |some v=>match I9 l boxes with
    |some vs=>some (v++vs)
    |none=>none
   |none=>none)else none
  |none=>none
def IA:List (Nat×TypeId×List Kd)->List (Nat×Row)->Option (List AC)
 |[],_=>some []
 |(k,t,ks)::l,rows=>match Ab rows k with
  | some r => bif Nat.beq t r.ty && CD ks r.ks then (match IA l rows with
    |some vs=>some (.view ks r.l::vs)
    |none=>none)else none
  |none=>none
def FQ (k:Nat):Bool:=Nat.ble base k&&Nat.blt k 100000
def EX (sk:Sk) (s:St):Option (List AC):=match s with
 | ⟨tmps, boxes, rows⟩ => bif Aj (fun p : Nat × Box => !(FQ p.1) || AH (sk.boxes.map (·.1)) p.1) boxes then (match IA sk.rows rows with
  |some a=>match Jj sk.tmps tmps with
   |some b=>match I9 sk.boxes boxes with
    |some c=>some (a++(b++c))
    |none=>none
   |none=>none
  |none=>none)else none

def KV:List (Nat×Nat)->List AC
 |[]=>[]
 |(k,o)::l=> .ptr k o::KV l
def DG (rl:Nat->Nat) (l:List AC):CS->Nat->AC×Nat
 | .any,i=>(.dead,i)
 | .int k,i=>(.int k (Af (nth .dead l i)),i+1)
 | .bool,i=>(.bool (B6 (nth .dead l i)),i+1)
 | .sl ks,i=>(.view ks (Br (nth .dead l i)),i+1)
 | .rawc,i=>(Lm .raw (nth .dead l i),i+1)
 | .nil,i=>(.nilSl,i)
 | .ptr k o,i=>(.ptr k o,i)
 | .own id w,i=>(.own id w (rl id),i)
 | .clo f fs cs,i=>(.clo f (KV fs) (KV cs),i)
 | .bsl k n,i=>(.bsl k n,i)
def DM (rl:Nat->Nat) (l:List AC):List CS->Nat->List AC×Nat
 |[],i=>([],i)
 |c::cs,i=>match DG rl l c i with
  |(a,i')=>match DM rl l cs i' with
   |(as,i'')=>(a::as,i'')
def GA (rl:Nat->Nat) (l:List AC):List (Bool×List CS)->Nat->List (Bool×List AC)×Nat
 |[],i=>([],i)
 |(g,cs)::ps,i=>match DM rl l cs i with
  |(as,i')=>match GA rl l ps i' with
   |(qs,i'')=>((g,as)::qs,i'')
def Hp (rl:Nat->Nat) (l:List AC):TS->Nat->TV×Nat
 | .dead,i=>(.dead,i)
 | .v g cs,i=>match DM rl l cs i with
  |(as,i')=>(.v g as,i')
 | .tup ps,i=>match GA rl l ps i with
  |(qs,i')=>(.tup qs,i')
def Ez (rl:Nat->Nat) (l:List AC):List TS->Nat->List TV×Nat
 |[],i=>([],i)
 |t::ts,i=>match Hp rl l t i with
  |(v,i')=>match Ez rl l ts i' with
   |(vs,i'')=>(v::vs,i'')
def EF (rl:Nat->Nat) (l:List AC):List (Nat×TypeId×List CS)->Nat->List (Nat×Box)
 |[],_=>[]
 |(k,t,cs)::bs,i=>match DM rl l cs i with
  |(as,i')=>(k,⟨t,as⟩)::EF rl l bs i'
def GM (l:List AC):List (Nat×TypeId×List Kd)->Nat->List (Nat×Row)×Nat
 |[],i=>([],i)
 |(k,t,ks)::rs,i=>match GM l rs (i+1)with
  |(q,i')=>((k,⟨t,ks,Br (nth .dead l i)⟩)::q,i')
def Dy (rows:List (Nat×Row)) (id:Nat):Nat:=match Ab rows id with
 |some r=>r.l.length
 |none=>0
def Bf (sk:Sk) (vars:List AC):St:=match GM vars sk.rows 0 with
 |(rows,i)=>match Ez (Dy rows) vars sk.tmps i with
  |(tmps,i')=>⟨tmps,EF (Dy rows) vars sk.boxes i',rows⟩

def CS.okB (keys:List Nat) (rows:List (Nat×TypeId×List Kd)):CS->Bool
 | .ptr k _=>AH keys k
 | .bsl k _=>AH keys k
 | .own id w=>match Ab rows id with
  |some (_,ks)=>Nat.beq ks.length w
  |none=>false
 | .clo _ fs cs=>Aj (fun p:Nat×Nat=>AH keys p.1) fs&&Aj (fun p:Nat×Nat=>AH keys p.1) cs
 |_=>true
def TS.okB (keys:List Nat) (rows:List (Nat×TypeId×List Kd)):TS->Bool
 | .dead=>true
 | .v _ cs=>Aj (CS.okB keys rows) cs
 | .tup ps=>Aj (fun p:Bool×List CS=>Aj (CS.okB keys rows) p.2) ps
def Sk.okB (sk:Sk):Bool:=
 Bw (sk.boxes.map (·.1))&&Bw (sk.rows.map (·.1))&&Aj (TS.okB (sk.boxes.map (·.1)) sk.rows) sk.tmps&&Aj (fun p:Nat×TypeId×List CS=>Aj (CS.okB (sk.boxes.map (·.1)) sk.rows) p.2.2) sk.boxes

def J2 (d:Nat):AC->Bool
 | .ptr k _=> !(Nat.beq k d)
 |_=>true
def AC.killP (d:Nat):AC->AC
 | .ptr k o=>bif Nat.beq k d then .dead else .ptr k o
 | .bsl k n=>bif Nat.beq k d then .dead else .bsl k n
 | .clo f fs cs=>bif Aj (J2 d) fs&&Aj (J2 d) cs then .clo f fs cs else .dead
 |a=>a
def TV.mapC (f:AC->AC):TV->TV
 | .v g cs=> .v g (cs.map f)
 | .tup ps=> .tup (ps.map fun p=>(p.1,p.2.map f))
 | .dead=> .dead
def Qq:List Oper->List Nat
 |[]=>[]
 |o::l=>match o.op,o.dst with
  | .alloc _,some d=>d::Qq l
  | .box _ _,some d=>d::Qq l
  |_,_=>Qq l
def P6:List Nat->St->(St->Option R)->Option R
 |[],s,K=>K s
 |d::l,⟨tmps,boxes,rows⟩,K=>match Ab boxes d with
  |none=>P6 l ⟨tmps,boxes,rows⟩ K
  |some _=>bif FQ d then none else AI (tmps.map (TV.mapC (AC.killP d))) fun tmps'=>AI ((del d boxes).map fun p=>(p.1,(⟨p.2.ty,p.2.cells.map (AC.killP d)⟩:Box))) fun boxes'=>P6 l ⟨tmps',boxes',rows⟩ K

def OP (step:St->(Ex->St->Option R)->Option R):Nat->St->(Ex->St->Option R)->Option R
 |0,_,_=>none
 |n+1,s,K=>step s fun
  | .normal,s'=>GX P C s' fun s'=>OP step n s' K
  | .exit id,s'=>K (.exit id) s'
  | .ret,s'=>K .ret s'

def PO (a:Option (Sk×Jh)) (s:St) (K:Ex->St->Option R) (run:Option R):Option R:=match a with
 |none=>run
 | some (sk, g) => bif sk.okB then (match EX sk s with
  |some vars=>g R vars K
  |none=>none)else none
def Qrr (C:Cfg) (c:Operand):Option (Sk×Jh):=match c with
 | .tmp t=>C.conds t
 |_=>none

def KL:Code->Option Nat
 | .region id _ _=>some id
 | .seq a b=>match KL a with
  |some n=>some n
  |none=>KL b
 | .cond _ a b=>match KL a with
  |some n=>some n
  |none=>KL b
 | .block _ b=>KL b
 | .loop b=>KL b
 |_=>none
def Rj (body:Code):Nat:=match KL body with
 |some n=>n
 |none=>0

def CU (L:Nat):Code->Nat->St->(Ex->St->Option R)->Option R
 | .skip,_,s,K=>K .normal s
 | .region _ ops draw,_,s,K=>P6 (Qq ops.toList) s fun s=>Wo P C ops draw s (K .normal)
 | .seq a b,blk,s,K=>CU L a blk s fun
  | .normal,s'=>CU L b blk s' K
  | .exit id,s'=>K (.exit id) s'
  | .ret,s'=>K .ret s'
 | .cond c x y, blk, s, K => PO (Qrr C c) s K (match AQ s.tmps c with
  | .v false [.bool g]=>match c with
   | .tmp t=>cond g (put s (some t) (.c (.bool true)) fun s'=>CU L x blk s' K) (put s (some t) (.c (.bool false)) fun s'=>CU L y blk s' K)
   |_=>cond g (CU L x blk s K) (CU L y blk s K)
  |_=>none)
 | .block id body,_,s,K=>PO (C.blocks id) s K (CU L body id s fun
  | .normal,s'=>K .normal s'
  | .exit i,s'=>bif Nat.beq i id then K .normal s' else K (.exit i) s'
  | .ret,s'=>K .ret s')
 | .loop body,blk,s,K=>II P (C.prom (Rj body)) s fun s'=>
   GX P C s' fun s'=>PO (C.loops (Rj body)) s' K (OP P C (fun s K=>CU L body blk s K) L s' K)
 | .exit id,_,s,K=>K (.exit id) s
 | .ret,_,s,K=>K .ret s
 | .scope b,blk,s,K=>CU L b blk s K
 | .label _,_,s,K=>K .normal s
 |_,_,_,_=>none

def Qo:Ex->Ex->Bool
 | .normal, .normal=>true
 | .exit i, .exit j=>Nat.beq i j
 | .ret, .ret=>true
 |_,_=>false
def F7:List (Ex×Sk)->Nat->Ex->St->Option (Nat×List AC)
 |[],_,_,_=>none
 | (e, sk) :: l, i, e', s => bif Qo e e' && sk.okB then (match EX sk s with
  |some vars=>some (i,vars)
  |none=>none)else F7 l (i+1) e' s
def P2 (o:List AC) (K:Ex->St->Option R):List (Ex×Sk)->Nat->Nat->Option R
 |[],_,_=>none
 |(e,sk)::l,i,n=>bif Nat.beq n i then K e (Bf sk o)else P2 o K l (i+1) n
def gOf (exits:List (Ex×Sk)) (m:List AC->Option (Nat×List AC)):Jh:=fun _ vars K=>(m vars).bind fun o=>P2 o.2 K exits 1 o.1

def AP (L blk:Nat) (body:Code) (sk:Sk) (exits:List (Ex×Sk)) (vars:List AC):Option (Nat×List AC):=
 CU P C L body blk (Bf sk vars) fun e s'=>match e with
  | .normal=>GX P C s' fun s'=>match EX sk s' with
   |some vars=>some (0,vars)
   |none=>none
  | .exit i=>F7 exits 1 (.exit i) s'
  | .ret=>F7 exits 1 .ret s'
def CG (step:List AC->Option (Nat×List AC)):Nat->List AC->Option (Nat×List AC)
 |0,_=>none
 |n+1,vars=>(step vars).bind fun o=>if o.1=0 then CG step n o.2 else some o
def Qu4 (L id:Nat) (body:Code) (sk:Sk) (exits:List (Ex×Sk)) (vars:List AC):Option (Nat×List AC):=
 CU P C L body id (Bf sk vars) fun
  | .normal,s'=>F7 exits 1 .normal s'
  | .exit i,s'=>bif Nat.beq i id then F7 exits 1 .normal s' else F7 exits 1 (.exit i) s'
  | .ret,s'=>F7 exits 1 .ret s'
def Qk5 (s:St):ResultVar->Option TV
 | .tmp t=>match nth .dead s.tmps t with
  | .v g cs=>some (.v g cs)
  |_=>none
 | .cell a t=>match nth .dead s.tmps a,B4 P t,szT P t with
  | .v false [.ptr key off],some g,some sz=>match Ab s.boxes key with
   |some b=>Dg g sz b.cells off
   |none=>none
  |_,_,_=>none

def KQ (s:St):List ResultVar->Option (List (Bool×List AC))
 |[]=>some []
 |r::l=>match Qk5 P s r with
  |some (.v g cs)=>match KQ s l with
   |some ps=>some ((g,cs)::ps)
   |none=>none
  |_=>none

def Hd:List TypeId->List (Bool×List AC)->List (Bool×List AC)
 | t :: ts, (g, cs) :: l => (g, match Fx P 8 t with
  |some ks=>Dr ks cs
  |none=>cs)::Hd ts l
 |_,l=>l
def Jb:List (Bool×List AC)->TV
 |[(g,cs)]=> .v g cs
 |ps=> .tup ps

def P3 (fn:Func) (keys0:List Nat) (s:St) (K:TV->Mem->Option R):Option R:=
 match KQ P s fn.results.toList with
 |none=>none
 |some ps=>(bif C.ownRes then fun K=>K s else HQ (cat (fun p:Bool×List AC=>cat AC.ids p.2) ps) s) fun s1=>GX P C s1 fun s1=>
  match KQ P s1 fn.results.toList with
  |none=>none
  |some ps=>match s1 with
   |⟨_,boxes,rows⟩=>
    AI (Hd P fn.resultTypes.toList ps) fun ps=>
    AI (Lu boxes 4 (AS (cat (fun p:Bool×List AC=>cat AC.keys p.2) ps) keys0)) fun keys=>
    AI (Nw boxes (cat (fun p:Bool×List AC=>p.2) ps) keys) fun ids=>
    AI (boxes.filter fun p=>AH keys p.1) fun boxes'=>
    AI (rows.filter fun p=>AH ids p.1) fun rows'=>
    bif Aj (fun p:Bool×List AC=>Aj (AC.inK keys ids) p.2) ps&&Aj (fun p:Nat×Box=>Aj (AC.inK keys ids) p.2.cells) boxes'&&Aj (DE boxes) keys0&&Aj (AH keys) keys0 then K (Jb ps) ⟨boxes',rows'⟩else none

def EI (L:Nat) (f:FuncId) (args:List TV) (mem:Mem) (K:TV->Mem->Option R):Option R:=
 match P.funcs.toList[f]? with
 |some fn=>match fn.body with
  |some c=>bif Aj (fun p:Nat×Box=>FQ p.1) mem.boxes then
    AI (args++List.replicate (fn.ntmps-args.length) TV.dead) fun tmps=>
     CU P C L c 0 ⟨tmps,mem.boxes,mem.rows⟩ fun e s=>match e with
      | .normal=>P3 P C fn (mem.boxes.map (·.1)) s K
      | .ret=>P3 P C fn (mem.boxes.map (·.1)) s K
      | .exit _=>none
   else none
  |none=>none
 |none=>none

def AF:Code->Nat->List (Nat×Code)
 | .seq a b,blk=>AF a blk++AF b blk
 | .cond _ a b,blk=>AF a blk++AF b blk
 | .block _ b,blk=>AF b blk
 | .loop b,blk=>(Rj b,b)::AF b blk
 | .scope b,blk=>AF b blk
 |_,_=>[]
def AX:Code->List (Nat×Code)
 | .seq a b=>AX a++AX b
 | .cond _ a b=>AX a++AX b
 | .block id b=>(id,b)::AX b
 | .loop b=>AX b
 | .scope b=>AX b
 |_=>[]
def A2:Code->Nat->List (Nat×Nat×Code×Code)
 | .seq a b,blk=>A2 a blk++A2 b blk
 | .cond (.tmp t) a b,blk=>(t,0,a,b)::(A2 a blk++A2 b blk)
 | .cond _ a b,blk=>A2 a blk++A2 b blk
 | .block _ b,blk=>A2 b blk
 | .loop b,blk=>A2 b blk
 | .scope b,blk=>A2 b blk
 |_,_=>[]

def Jt (f:FuncId):Option Code:=
 match P.funcs.toList[f]? with
 |some fn=>fn.body
 |none=>none
def HP (f:FuncId):List (Nat×Code):=match Jt P f with
 |some c=>AF c 0
 |none=>[]
def JA (f:FuncId):List (Nat×Code):=match Jt P f with
 |some c=>AX c
 |none=>[]
def SS (f:FuncId):List (Nat×Nat×Code×Code):=match Jt P f with
 |some c=>A2 c 0
 |none=>[]

def Am (L:Nat) (f:FuncId) (sig osig:Sk) (vars:List AC):Option (List AC):=match Bf sig vars with
 |⟨args,boxes,rows⟩=>EI P C L f args ⟨boxes,rows⟩ fun v m=>match m with
  |⟨b,r⟩=>EX osig ⟨[v],b,r⟩
end prog

def Ac (sig osig:Sk) (m:List AC->Option (List AC)):Spec:=fun R args mem K=>match mem with
 | ⟨boxes, rows⟩ => bif Aj (fun p : Nat × Box => FQ p.1) boxes then (match EX sig ⟨args, boxes, rows⟩ with
  |some vars=>(m vars).bind fun o=>match Bf osig o with
   |⟨tm,b,r⟩=>match tm with
    |[v]=>K v ⟨b,r⟩
    |_=>none
  |none=>none)else none
def Qh7:CS->AC->Bool
 | .int k, .int k' _=>kEq k k'
 | .bool, .bool _=>true
 | .sl ks, .view ks' _=>CD ks ks'
 | .ptr k o, .ptr k' o'=>Nat.beq k k'&&Nat.beq o o'
 |_,_=>false
def LO:List CS->List AC->Bool
 |[],[]=>true
 |c::cs,a::as=>Qh7 c a&&LO cs as
 |_,_=>false
def G1:List (Nat×TypeId×List CS)->List (Nat×Box)->Bool
 |[],[]=>true
 |(k,t,cs)::l,(k',b)::m=>Nat.beq k k'&&(Nat.beq t b.ty&&(LO cs b.cells&&G1 l m))
 |_,_=>false
def Ep (sig osig:Sk) (m:List AC->Option (List AC)):Spec:=fun R args mem K=>match mem with
 | ⟨boxes, rows⟩ => bif Aj (fun p : Nat × Box => FQ p.1) boxes && (G1 sig.boxes boxes && (rows.isEmpty && (sig.rows.isEmpty && Bw (sig.boxes.map (·.1))))) then (match EX sig ⟨args, boxes, rows⟩ with
  |some vars=>(m vars).bind fun o=>match Bf osig o with
   |⟨tm,[],[]⟩=>match tm with
    |[v]=>K v ⟨boxes,rows⟩
    |_=>none
   |_=>none
  |none=>none)else none
def L2 (P:Program) (C:Cfg) (L:Nat) (f:FuncId) (sig osig:Sk) (vars:List AC):Option (List AC):=match Bf sig vars with
 |⟨args,boxes,rows⟩=>EI P C L f args ⟨boxes,rows⟩ fun v _=>EX osig ⟨[v],[],[]⟩
def AO (P:Program) (f blk:Nat):Code:=match Ab (HP P f) blk with
 |some c=>c
 |none=> .skip
def Qe4 (P:Program) (f id:Nat):Code:=match Ab (JA P f) id with
 |some c=>c
 |none=> .skip

def Cfg.loop (C:Cfg) (blk:Nat) (sk:Sk) (exits:List (Ex×Sk)) (m:List AC->Option (Nat×List AC)):Cfg:=
 {C with loops:=fun b=>bif Nat.beq b blk then some (sk,gOf exits m)else C.loops b}
def Cfg.block (C:Cfg) (id:Nat) (sk:Sk) (exits:List (Ex×Sk)) (m:List AC->Option (Nat×List AC)):Cfg:=
 {C with blocks:=fun b=>bif Nat.beq b id then some (sk,gOf exits m)else C.blocks b}

end Go.Bm
