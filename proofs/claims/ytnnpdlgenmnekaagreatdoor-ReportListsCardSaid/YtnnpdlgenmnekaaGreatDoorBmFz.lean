/- the abstract machine -/
import Derived.WalkKit
import Derived.ProofKit
import Derived.Laws.StructEq
import Derived.Maps.AppendAt
set_option linter.unusedVariables false
set_option linter.unusedSimpArgs false
namespace Go.Bm
abbrev ab:=@Nat.eq_of_beq_eq_true
abbrev ac:=@cond_true
abbrev af:=@Bool.and_eq_true
abbrev ag:=@Option.some.injEq
abbrev ah:=@List.getElem?_eq_getElem
abbrev ai:=@Option.bind_eq_some_iff
abbrev aj:=@cond_false
abbrev ak:=@Option.bind_some
abbrev al:=@Nat.le_of_ble_eq_true
abbrev am:=@List.mem_map
abbrev an:=@List.mem_cons
abbrev ap:=@Option.map_eq_some_iff
abbrev aq:=@List.getD_eq_getElem?_getD
abbrev au:=@decide_eq_true
abbrev av:=@List.map_cons
abbrev aw:=@Int.toNat_natCast
abbrev ax:=@Nat.lt_of_lt_of_le
abbrev ay:=@List.mem_of_getElem?
abbrev az:=@Array.getElem?_eq_some_iff
abbrev a8:=@Prod.mk.injEq
abbrev a9:=@List.cons.injEq
abbrev ba:=@Nat.mul_le_mul_right
abbrev bc:=@List.getElem?_eq_some_iff
abbrev bd:=@decide_eq_false
abbrev be:=@Result.andThen_ok
abbrev bf:=@Nat.le_refl
abbrev bg:=@List.mem_singleton
abbrev bh:=@List.length_append
abbrev bj:=@List.length_map
abbrev bl:=@Array.length_toList
abbrev bm:=@decide_eq_true_eq
abbrev bn:=@List.getElem?_map
abbrev bp:=@List.getElem?_drop
abbrev bq:=@List.getElem_mem
abbrev bt:=@List.mem_append
abbrev bu:=@List.eq_nil_of_length_eq_zero
abbrev bv:=@List.mem_of_mem_drop
abbrev bw:=@List.getElem?_set
abbrev bz:=@Nat.ble_eq_true_of_le
abbrev b7:=@List.getElem?_take
abbrev b8:=@List.nodup_nil
abbrev b9:=@List.mem_or_eq_of_mem_set
abbrev ca:=@List.mem_of_mem_take
abbrev cb:=@List.getElem?_append
theorem cd {c:Prop} {_:Decidable c} (h:¬c:=by omega) {α:Sort _} {t e:α}:ite c t e=e:=if_neg h
abbrev cg:=@List.ext_getElem?
abbrev ch:=@Int.eq_ofNat_of_zero_le
theorem cm {c:Prop} {_:Decidable c} (h:c:=by omega) {α:Sort _} {t e:α}:ite c t e=t:=if_pos h
abbrev cn:=@List.length_take
abbrev co:=@List.take_of_length_le
abbrev cp:=@List.mem_replicate
abbrev cq:=@if_true
abbrev cr:=@List.drop_eq_getElem_cons
abbrev ct:=@forall_eq_or_imp
abbrev cu:=@List.length_drop
abbrev cv:=@Int.toNat_of_nonneg
abbrev cw:=@List.map_nil
abbrev cx:=@Nat.le_mul_of_pos_right
abbrev cy:=@and_true
abbrev cz:=@Nat.zero_add
abbrev c7:=@List.length_singleton
abbrev c8:=@List.drop_append_of_le_length
abbrev c9:=@List.cons_append
abbrev db:=@Array.toList_map
abbrev dc:=@List.mem_cons_of_mem
abbrev de:=@congrArg
abbrev df:=@List.nodup_cons
abbrev dg:=@List.nil_append
abbrev dh:=@List.map_append
abbrev dk:=@List.getElem?_append_right
abbrev dl:=@Nat.lt_or_ge
abbrev dm:=@Int.emod_lt_of_pos
abbrev dp:=@List.drop_drop
abbrev dq:=@List.take_add_one
abbrev dt:=@List.append_assoc
abbrev du:=@Nat.add_mul
abbrev dv:=@Nat.add_assoc
abbrev dw:=@List.length_cons
abbrev dx:=@List.drop_of_length_le
abbrev dy:=@List.drop_eq_nil_of_le
def I4:Option (Nat×List Value):=some (2,(List.range 20).map λi=>Value.int .u64 (10^i))
def Gt (F:Nat->Prop) (w:World):Prop:=∀g cs,I4=some (g,cs)->F g/\∃t z,w.heap[g]? =some (.cells cs.toArray t z)
theorem Gt.mono {F A:Nat->Prop} {w w':World} (h:Gt F w) (h1:∀g cs,I4=some (g,cs)->F g->A g/\w'.heap[g]? =w.heap[g]?):Gt A w':=by
 intro g cs e;obtain⟨q1,t,z,q2⟩:=h g cs e;obtain⟨D,E⟩:=h1 g cs e q1;exact⟨D,t,z,by rw[E];exact q2⟩
inductive Kd where
 |int (k:IntKind)
 |bool
 |sl (ks:List Kd)
 |raw
inductive AC where
 |vD
 |int (k:IntKind) (n:Int)
 |bool (b:Bool)
 |raw (v:Value)
 |nilSl
 |ptr (key off:Nat)
 |own (id w n:Nat)
 |vC (ks:List Kd) (l:List (List AC))
 |rptr (id idx sub:Nat)
 |vptr (cells:List AC) (sub:Nat)
 |clo (f:FuncId) (first caps:List AC)
 |bsl (key n:Nat)
inductive TV where
 |vD
 |v (g:Bool) (cs:List AC)
 |tup (ps:List (Bool×List AC))
abbrev TV.c (a:AC):TV:= .v false [a]
abbrev TV.agg (cs:List AC):TV:= .v true cs
def Ad:AC->Int
 | .int _ n=>n
 |_=>0
def Ci:AC->Bool
 | .bool b=>b
 |_=>false
def Ah:AC->ByteArray
 | .raw (.string s)=>s
 |_=>⟨#[]⟩
def Aq:AC->List (List AC)
 | .vC _ l=>l
 |_=>[]
structure Box where
 ty:TypeId
 cells:List AC
variable {R:Type}
def nth {α:Type} (d:α):List α->Nat->α
 |[],_=>d
 |x::_,0=>x
 |_::xs,n+1=>nth d xs n
def DX (l:List (List AC)):ByteArray:=(l.map λc=>Ad (nth .vD c 0)).foldl (λr n=>r.push (UInt8.ofNat n.toNat)) ByteArray.empty
def E3:AC->Value
 | .raw v=>v
 |_=> .bool false
def Cq:Kd->AC->AC
 | .int k,a=> .int k (Ad a)
 | .bool,a=> .bool (Ci a)
 | .sl ks,a=> .vC ks (Aq a)
 | .raw,a=> .raw (E3 a)
def Bl:List Kd->List AC->Nat->List AC
 |[],_,_=>[]
 |k::ks,cs,j=>Cq k (nth .vD cs j)::Bl ks cs (j+1)
def Ap (ks:List Kd) (cs:List AC):List AC:=Bl ks cs 0
structure Row where
 ty:TypeId
 ks:List Kd
 l:List (List AC)
abbrev Row.w (r:Row):Nat:=r.ks.length
abbrev Row.n (r:Row):Nat:=r.l.length
abbrev Row.f (r:Row) (i:Nat):List AC:=Ap r.ks (nth [] r.l i)
structure Mem where
 aB:List (Nat×Box)
 aC:List (Nat×Row)
structure St where
 tmps:List TV
 aB:List (Nat×Box)
 aC:List (Nat×Row)
def setL {α:Type}:List α->Nat->α->List α
 |[],_,_=>[]
 |_::xs,0,v=>v::xs
 |x::xs,n+1,v=>x::setL xs n v
def Al {α:Type}:List α->(List α->Option R)->Option R
 |[],K=>K []
 |x::xs,K=>Al xs λA=>K (x::A)
def Aa {α:Type}:List (Nat×α)->Nat->Option α
 |[],_=>none
 |(k,b)::l,key=>bif Nat.beq k key then some b else Aa l key
def upd {α:Type}:List (Nat×α)->Nat->α->List (Nat×α)
 |[],_,_=>[]
 |(k,b)::l,key,x=>bif Nat.beq k key then(k,x)::l else(k,b)::upd l key x
def ins {α:Type}:List (Nat×α)->Nat->α->List (Nat×α)
 |[],key,x=>[(key,x)]
 |(k,b)::l,key,x=>bif Nat.blt key k then(key,x)::(k,b)::l else(k,b)::ins l key x
def cut {α:Type} (l:List α) (off m:Nat):List α:=(l.drop off).take m
def splice {α:Type}:List α->Nat->List α->List α
 |l,_,[]=>l
 |[],_,_::_=>[]
 |_::xs,0,v::A=>v::splice xs 0 A
 |x::xs,n+1,v::A=>x::splice xs n (v::A)
def EJ:Value->AC
 | .int k n=> .int k n
 | .bool b=> .bool b
 | .slice none 0 0=> .nilSl
 | .string s=> .raw (.string s)
 | .pointer none=> .raw (.pointer none)
 | .nilFunc=> .raw .nilFunc
 | .nilIface=> .raw .nilIface
 |_=> .vD
def Df:List Value->Option (List AC)
 |[]=>some []
 | v :: l => bif v.oneCell' then (match Df l with
  |some cs=>some (EJ v::cs)
  |none=>none)else none
def ofValue:Value->TV
 | .agg cs=>match Df cs.toList with
  |some l=> .agg l
  |none=> .vD
 | .tuple _=> .vD
 |v=> .c (EJ v)
def TV.cells:TV->Option (List AC)
 | .v _ cs=>some cs
 |_=>none
def TV.int? :TV->Option Int
 | .v false [.int _ n]=>some n
 |_=>none
def kEq:IntKind->IntKind->Bool
 | .i8, .i8| .i16, .i16| .i32, .i32| .i64, .i64| .u8, .u8| .u16, .u16| .u32, .u32| .u64, .u64=>true
 |_,_=>false
def AC.plain:AC->Bool
 | .int _ _| .bool _| .raw _| .nilSl| .vC _ _=>true
 |_=>false
def AC.calm:AC->Bool
 | .int _ _| .bool _| .raw _| .nilSl| .vC _ _| .vD=>true
 |_=>false
def Ab {α:Type} (p:α->Bool):List α->Bool
 |[]=>true
 |x::l=>bif p x then Ab p l else false
mutual
def Bz:Kd->Kd->Bool
 | .int k, .int k'=>kEq k k'
 | .bool, .bool=>true
 | .sl ks, .sl A=>AV ks A
 | .raw, .raw=>true
 |_,_=>false
def AV:List Kd->List Kd->Bool
 |[],[]=>true
 |k::ks,k'::A=>bif Bz k k' then AV ks A else false
 |_,_=>false
end
def Fk:Kd->AC->Option AC
 | .int k, .int k' n=>bif kEq k k' then some (.int k n)else none
 | .bool, .bool b=>some (.bool b)
 | .sl ks, .nilSl=>some (.vC ks [])
 | .sl ks, .vC A l=>bif AV ks A then some (.vC ks l)else none
 | .raw, .raw v=>some (.raw v)
 | .raw, .nilSl=>some (.raw (.slice none 0 0))
 |_,_=>none
def B0:List Kd->List AC->Option (List AC)
 |[],[]=>some []
 |k::ks,a::cs=>match Fk k a with
  |some D=>match B0 ks cs with
   |some A=>some (D::A)
   |none=>none
  |none=>none
 |_,_=>none
def Cw (ks:List Kd):Nat->List AC->Option (List (List AC))
 |0,[]=>some []
 |0,_=>none
 |n+1,cs=>match B0 ks (cs.take ks.length)with
  |some c=>match Cw ks n (cs.drop ks.length)with
   |some l=>some (c::l)
   |none=>none
  |none=>none
inductive Prim where
 |val (v:TV)
 |load (agg:Bool) (sz key off:Nat)
 |store (key off:Nat) (cells:List AC)
 |new (ty:TypeId) (cells:List AC)
 |newS (ty:TypeId) (n:Nat) (cells:List AC)
 |cutR (id a:Nat)
 |rload (agg:Bool) (sz id idx sub:Nat)
 |rstore (id idx sub:Nat) (cells:List AC)
 |append (e:TypeId) (ks:List Kd) (bytes:Nat) (s x:AC)
 |newRow (e:TypeId) (ks:List Kd) (l:List (List AC))
 |newView (e:TypeId) (ks:List Kd) (l:List (List AC))
 |make (e:TypeId) (ks:List Kd) (bytes:Nat) (n:Int) (z:List AC)
 |call (f:FuncId) (args:List TV)
 |callM (f:FuncId) (args:List TV)
 |callD (f:FuncId) (args:List TV)
 |callF (f:FuncId) (args:List TV)
 |appD (e:TypeId) (ks:List Kd) (bytes:Nat) (s x:AC)
def mn (x y:Int):Int:=if y<x then y else x
def mx (x y:Int):Int:=if y>x then y else x
def Cu (op:BinOp) (k:IntKind) (a b:Int) (K:AC->Option R):Option R:=
 match op with
 | .add=>K (.int k (k.wrap (a+b)))
 | .sub=>K (.int k (k.wrap (a-b)))
 | .mul=>K (.int k (k.wrap (a*b)))
 | .quo=>cond (decide (b=0)) none (K (.int k (k.wrap (a.tdiv b))))
 | .rem=>cond (decide (b=0)) none (K (.int k (a.tmod b)))
 | .and=>K (.int k (k.wrap ((BitVec.ofInt k.bits a&&&BitVec.ofInt k.bits b).toNat:Int)))
 | .or=>K (.int k (k.wrap ((BitVec.ofInt k.bits a|||BitVec.ofInt k.bits b).toNat:Int)))
 | .xor=>K (.int k (k.wrap ((BitVec.ofInt k.bits a^^^BitVec.ofInt k.bits b).toNat:Int)))
 | .andNot=>K (.int k (k.wrap ((BitVec.ofInt k.bits a&&& ~~~BitVec.ofInt k.bits b).toNat:Int)))
 | .eql=>K (.bool (a==b))
 | .neq=>K (.bool (a !=b))
 | .lss=>K (.bool (decide (a<b)))
 | .leq=>K (.bool (decide (a<=b)))
 | .gtr=>K (.bool (decide (a>b)))
 | .geq=>K (.bool (decide (a>=b)))
 | .shl=>cond (decide (b<0)) none (K (.int k (k.wrap (a*2^(min b.toNat k.bits)))))
 | .shr=>cond (decide (b<0)) none (K (.int k (a.fdiv (2^(min b.toNat k.bits)))))
def EK:BinOp->Bool
 | .shl| .shr=>true
 |_=>false
inductive CS where
 |any
 |int (k:IntKind)
 |bool
 |sl (ks:List Kd)
 |rawc
 |str
 |nil
 |nilp
 |ptr (key off:Nat)
 |own (id w:Nat)
 |clo (f:FuncId) (fs cs:List (Nat×Nat))
 |bsl (key n:Nat)
inductive TS where
 |vD
 |v (g:Bool) (cs:List CS)
 |tup (ps:List (Bool×List CS))
structure Sk where
 tmps:List TS
 aB:List (Nat×TypeId×List CS):=[]
 aC:List (Nat×TypeId×List Kd):=[]
inductive Ex where
 |normal
 |exit (id:Nat)
 |ret
def Spec:=∀R:Type,List TV->Mem->(TV->Mem->Option R)->Option R
def CJ:=∀R:Type,List AC->(Ex->St->Option R)->Option R
def CE:List (Nat×Spec)->FuncId->Option Spec
 |[],_=>none
 |(k,b)::l,f=>bif Nat.beq k f then some b else CE l f
structure Cfg where
 spec:FuncId->Option Spec
 eqOk:List TypeId:=[]
 tprom:List (Nat×TypeId):=[]
 prom:Nat->List (Nat×TypeId):=λ_=>[]
 loops:Nat->Option (Sk×CJ):=λ_=>none
 blocks:Nat->Option (Sk×CJ):=λ_=>none
 conds:Nat->Option (Sk×CJ):=λ_=>none
 pure:FuncId->Bool:=λ_=>true
 ro:FuncId->Bool:=λ_=>false
 lend:FuncId->Bool:=λ_=>false
 keepR:FuncId->Bool:=λ_=>false
 keepIn:Bool:=false
 ownOff:TypeId->List (Nat×TypeId):=λ_=>[]
 rowAs:Nat->Nat:=λd=>d
 ownBut:List Nat:=[]
 rowDst:List Nat:=[]
 cuts:List Nat:=[]
 fstore:Bool:=false
 ownRes:Bool:=false
 unroll:List Nat:=[]
section prog
variable (P:Program)
def AQ (t:TypeId):Option Bool:=
 match P.underlying t with
 |some (.struct _)=>some true
 |some (.array _ _)=>some true
 |some _=>some false
 |none=>none
def szT (t:TypeId):Option Nat:=
 match P.info? t with
 |some i=>some i.size
 |none=>none
def Dv (t:TypeId):Option (List AC):=
 match P.info? t with
 |some i=>match i.zero with
  |some v=>Df v.cells.toList
  |none=>none
 |none=>none
def EU (t:TypeId) (i:Nat):Option Field:=
 match P.underlying t with
 |some (.struct fs)=>fs.toList[i]?
 |_=>none
def Bb (agg:Bool) (sz:Nat) (cells:List AC) (off:Nat):Option TV:=
 bif agg then(bif Nat.ble (off+sz) cells.length then some (.agg (cut cells off sz))else none)
 else match cells[off]? with
  |some a=>some (.c a)
  |none=>none
def CW (t:TypeId) (n:Nat):Bool:=
 match AQ P t with
 |some true=>true
 |some false=>Nat.beq n 1
 |none=>false
def Di {β:Type} (g:β->Option Bool):List β->Option Bool
 |[]=>some true
 |x::l=>match g x with
  |some b=>match Di g l with
   |some b'=>some (b&&b')
   |none=>none
  |none=>none
def eqC (ok:List TypeId):Nat->TypeId->List AC->List AC->Option Bool
 |0,_,_,_=>none
 |d+1,t,xs,ys=>
  match P.underlying t with
  |some .bool=>match xs,ys with
   |[.bool a],[.bool b]=>some (a==b)
   |_,_=>none
  |some (.int _)=>match xs,ys with
   |[.int k a],[.int k' b]=>bif kEq k k' then some (a==b)else none
   |_,_=>none
  | some (.struct fs) => bif ok.elem t then Di (λf : Field => bif f.name == "_" then none else match szT P f.type with
    |some n=>bif(Nat.ble (f.offset+n) xs.length&&Nat.ble (f.offset+n) ys.length&&CW P f.type n)then eqC ok d f.type (cut xs f.offset n) (cut ys f.offset n)else none
    |none=>none) fs.toList else none
  |some (.array n e)=>match szT P e with
   |some m=>bif(Nat.ble (n*m) xs.length&&Nat.ble (n*m) ys.length&&CW P e m)then Di (λi=>eqC ok d e (cut xs (i*m) m) (cut ys (i*m) m)) (List.range n)else none
   |none=>none
  |_=>none
def Cl (i:Int):(todo k:Nat)->(Nat->Option R)->Option R
 |0,_,_=>none
 |n+1,k,K=>cond (decide (i=(k:Int))) (K k) (Cl i n (k+1) K)
def EM (t:TypeId) (cs:List AC) (off:Nat):Option TV:=
 match AQ P t,szT P t with
 |some a,some sz=>Bb a sz cs off
 |_,_=>none
def Cb (place:Nat->Option (Nat×Nat)):List AC->List (Nat×TV)->Option (List AC)
 |cells,[]=>some cells
 |cells,(i,v)::rest=>
  match place i,v.cells with
  |some (off,size),some cs=>bif(Nat.beq cs.length size&&Nat.ble (off+size) cells.length)then Cb place (splice cells off cs) rest else none
  |_,_=>none
def K1 (g:TypeId->Option (List Kd)):List Field->Nat->Option (List Kd)
 |[],_=>some []
 |f::fs,o=>match g f.type with
  | some ks => bif Nat.beq f.offset o then (match K1 g fs (o + ks.length) with
   |some l=>some (ks++l)
   |none=>none)else none
  |none=>none
def FE (ks:List Kd):Nat->List Kd
 |0=>[]
 |n+1=>ks++FE ks n
def Cg:Nat->TypeId->Option (List Kd)
 |0,_=>none
 |n+1,t=>match P.underlying t with
  |some .bool=>some [.bool]
  |some (.int k)=>some [.int k]
  |some (.slice e)=>match Cg n e with
   |some ks=>some [.sl ks]
   |none=>none
  |some (.struct fs)=>K1 (Cg n) fs.toList 0
  |some (.array m e)=>match Cg n e with
   |some ks=>some (FE ks m)
   |none=>none
  |some _=>some [.raw]
  |none=>none
def chunk (zero:List AC):Nat->List AC
 |0=>[]
 |n+1=>zero++chunk zero n
def BP (g:Int->Int->Int) (k:IntKind) (a:Int):List TV->(Prim->Option R)->Option R
 |[],K=>K (.val (.c (.int k a)))
 |t::rest,K=>match t with
  | .v false [.int k' b]=>bif kEq k k' then BP g k (g a b) rest K else none
  |_=>none
def DE (b:Builtin) (argTypes:List TypeId) (args:List TV) (K:Prim->Option R):Option R:=
 match b,args with
 | .len,[.v false [.vC _ l]]=>match argTypes with
  |t::_=>match P.underlying t with
   |some (.slice _)=>K (.val (.c (.int .i64 (l.length:Int))))
   |_=>none
  |[]=>none
 | .len,[.v false [.own _ _ n]]=>match argTypes with
  |t::_=>match P.underlying t with
   |some (.slice _)=>K (.val (.c (.int .i64 (n:Int))))
   |_=>none
  |[]=>none
 | .len,[.v false [.bsl _ n]]=>match argTypes with
  |t::_=>match P.underlying t with
   |some (.slice _)=>K (.val (.c (.int .i64 (n:Int))))
   |_=>none
  |[]=>none
 | .len,[.v false [.nilSl]]=>match argTypes with
  |t::_=>match P.underlying t with
   |some (.slice _)=>K (.val (.c (.int .i64 0)))
   |_=>none
  |[]=>none
 | .len,[.v true _]=>match argTypes with
  |t::_=>match P.underlying t with
   |some (.array n _)=>K (.val (.c (.int .i64 (n:Int))))
   |_=>none
  |[]=>none
 | .min, .v false [.int k a]::rest=>BP mn k a rest K
 | .max, .v false [.int k a]::rest=>BP mx k a rest K
 | .append,[.c s, .c x]=>match argTypes with
  |[t,u]=>match P.underlying t,P.underlying u with
   |some (.slice e),some (.slice _)=>match P.info? e,Cg P 8 e with
    |some i,some ks=>match i.zero with
     |some z=>bif(Nat.beq t u&&Nat.beq z.cells.size i.size&&Nat.beq ks.length i.size)then K (.append e ks i.bytes s x)else none
     |none=>none
    |_,_=>none
   |_,_=>none
  |_=>none
 |_,_=>none
def DW (A:Operand->TV):Option Operand->Option (Option Int)
 |none=>some none
 |some x=>match(A x).int? with
  |some n=>some (some n)
  |none=>none
def AG (A:Operand->TV):List Operand->List TV
 |[]=>[]
 |x::l=>A x::AG A l
def BZ (A:Operand->TV):List (Nat×Operand)->List (Nat×TV)
 |[]=>[]
 |x::l=>(x.1,A x.2)::BZ A l
def Ej (f:Field):Bool:=
 match szT P f.type with
 |some _=>true
 |none=>false
def HF (fs:List Field) (i:Nat):Option (Nat×Nat):=
 match fs[i]? with
 |some f=>match szT P f.type with
  |some n=>some (f.offset,n)
  |none=>none
 |none=>none
variable (C:Cfg)
def HV (dst:Option Tmp) (n:Nat):Bool:=match dst with
 |some d=>C.rowDst.elem d||Nat.beq n 0
 |none=>false
def AC.isClo:AC->Bool
 | .clo _ _ _=>true
 |_=>false
def AC.clOk:AC->Bool
 | .int _ _| .bool _| .raw _| .nilSl| .vC _ _| .ptr _ _=>true
 |_=>false
def DB:List TV->Option (List AC)
 |[]=>some []
 | .v false [a] :: l => bif a.clOk then (match DB l with
  |some r=>some (a::r)
  |none=>none)else none
 |_=>none
def opK (A:Operand->TV) (dst:Option Tmp) (o:Op) (K:Prim->Option R):Option R:=
 match o with
 | .move x=>K (.val (A x))
 | .assign x=>K (.val (A x))
 | .pick c a b=>match A c with
  | .v false [.bool g]=>cond g (K (.val (A a))) (K (.val (A b)))
  |_=>none
 | .alloc t=>match Dv P t with
  |some cs=>K (.new t cs)
  |none=>none
 | .box t x=>match(A x).cells with
  |some cs=>K (.new t cs)
  |none=>none
 | .build t parts=>match Dv P t,P.underlying t with
  |some z,some (.struct fs)=>bif Ab (Ej P) fs.toList then match Cb (HF P fs.toList) z (BZ A parts.toList)with
   |some cs=>K (.val (.agg cs))
   |none=>none else none
  |some z,some (.array _ e)=>match szT P e with
   |some n=>match Cb (λi=>some (i*n,n)) z (BZ A parts.toList)with
    |some cs=>K (.val (.agg cs))
    |none=>none
   |none=>none
  |_,_=>none
 | .buildSlice t n parts=>match P.underlying t with
  |some (.slice e)=>match szT P e,Dv P e,Cg P 8 e with
   |some w,some z,some ks=>bif(Nat.beq z.length w&&Nat.beq ks.length w&&Nat.ble 1 w&&Nat.ble (n*w) 65536)then match Cb (λi=>some (i*w,w)) (chunk z n) (BZ A parts.toList)with
    |some cs=>match Cw ks n cs with
     |some l=>cond (HV C dst n) (K (.newRow e ks l)) (K (.newView e ks l))
     |none=>bif Ab AC.isClo cs&&Nat.beq w 1 then K (.newS e n cs)else none
    |none=>none else none
   |_,_,_=>none
  |_=>none
 | .makeSlice t len cap=>match P.underlying t,(A len).int?,(A cap).int? with
  |some (.slice e),some n,some c=>match P.info? e,Dv P e,Cg P 8 e with
   |some i,some z,some ks=>match B0 ks z with
    |some G=>bif(Nat.beq ks.length i.size&&Nat.ble 1 i.size&&Nat.ble 1 i.bytes)then cond (decide (n=c)) (K (.make e ks i.bytes n G)) none else none
    |none=>none
   |_,_,_=>none
  |_,_,_=>none
 | .makeFunc J first captured=>match J with
  | .func f=>match DB (AG A first.toList),DB (AG A captured.toList)with
   |some fs,some cs=>K (.val (.c (.clo f fs cs)))
   |_,_=>none
  |_=>none
 | .load t a=>match AQ P t,szT P t with
  |some g,some sz=>match A a with
   | .v false [.ptr key off]=>K (.load g sz key off)
   | .v false [.vptr cells sub]=>match Bb g sz cells sub with
    |some v=>K (.val v)
    |none=>none
   | .v false [.rptr id idx sub]=>K (.rload g sz id idx sub)
   |_=>none
  |_,_=>none
 | .store t a x=>match szT P t,(A x).cells with
  |some sz,some cs=>bif Nat.beq cs.length sz then match A a with
    | .v false [.ptr key off]=>K (.store key off cs)
    | .v false [.rptr id idx sub]=>K (.rstore id idx sub cs)
    |_=>none else none
  |_,_=>none
 | .nilCheck x=>match A x with
  | .v false [.ptr key off]=>K (.val (.c (.ptr key off)))
  | .v false [.rptr id idx sub]=>K (.val (.c (.rptr id idx sub)))
  | .v false [.vptr cs sub]=>K (.val (.c (.vptr cs sub)))
  |_=>none
 | .binOp op t x y _=>match A x,A y with
  | .v false [.int k a], .v false [.int k' b]=>bif kEq k k'||EK op then Cu op k a b λv=>K (.val (.c v))else none
  | .v false [.bool a], .v false [.bool b]=>match P.underlying t,op with
   |some .bool, .eql=>K (.val (.c (.bool (a==b))))
   |some .bool, .neq=>K (.val (.c (.bool (!(a==b)))))
   |_,_=>none
  | .v false [.raw (.string a)], .v false [.raw (.string b)]=>match op with
   | .eql=>K (.val (.c (.bool (a.toList==b.toList))))
   | .neq=>K (.val (.c (.bool (!(a.toList==b.toList)))))
   | .add=>cond (Nat.ble (a.size+b.size) 9223372036854775807) (K (.val (.c (.raw (.string (a++b)))))) none
   |_=>none
  | .v false [.ptr _ _], .v false [.raw (.pointer none)]=>match P.underlying t,op with
   |some (.pointer _), .eql=>K (.val (.c (.bool false)))
   |some (.pointer _), .neq=>K (.val (.c (.bool true)))
   |_,_=>none
  | .v false [.raw (.pointer none)], .v false [.raw (.pointer none)]=>match P.underlying t,op with
   |some (.pointer _), .eql=>K (.val (.c (.bool true)))
   |some (.pointer _), .neq=>K (.val (.c (.bool false)))
   |_,_=>none
  | .v true xs, .v true L=>bif P.eqGuardType P.depth t then none else match AQ P t,eqC P C.eqOk 20 t xs L,op with
   |some true,some r, .eql=>K (.val (.c (.bool r)))
   |some true,some r, .neq=>K (.val (.c (.bool (!r))))
   |_,_,_=>none
  |_,_=>none
 | .unOp op _ x=>match op,A x with
  | .neg, .v false [.int k n]=>K (.val (.c (.int k (k.wrap (0-n)))))
  | .not, .v false [.bool b]=>K (.val (.c (.bool (!b))))
  |_,_=>none
 | .convert src dst x=>match P.underlying src,P.underlying dst,A x with
  |some _,some (.int k), .v false [.int _ n]=>K (.val (.c (.int k (k.wrap n))))
  |some (.slice e),some .string, .v false [.vC [.int .u8] l]=>match P.underlying e with
   |some (.int .u8)=>K (.val (.c (.raw (.string (DX l)))))
   |_=>none
  |_,_,_=>none
 | .fieldAddr t x i=>match EU P t i with
  |some f=>match szT P f.type with
   |some (_+1)=>match A x with
    | .v false [.ptr key off]=>K (.val (.c (.ptr key (off+f.offset))))
    | .v false [.rptr id idx sub]=>K (.val (.c (.rptr id idx (sub+f.offset))))
    | .v false [.vptr cs sub]=>K (.val (.c (.vptr cs (sub+f.offset))))
    |_=>none
   |_=>none
  |none=>none
 | .field t x i=>match EU P t i,A x with
  |some f, .v true cs=>match EM P f.type cs f.offset with
   |some v=>K (.val v)
   |none=>none
  |_,_=>none
 | .indexAddr t x E=>match(A E).int?,P.underlying t with
  |some i,some (.array n e)=>match szT P e,A x with
   |some m, .v false [.ptr key off]=>Cl i n 0 λj=>K (.val (.c (.ptr key (off+j*m))))
   |some m, .v false [.rptr id idx sub]=>Cl i n 0 λj=>K (.val (.c (.rptr id idx (sub+j*m))))
   |some m, .v false [.vptr cs sub]=>Cl i n 0 λj=>K (.val (.c (.vptr cs (sub+j*m))))
   |_,_=>none
  |some i,some (.slice e)=>match szT P e,A x with
   |some m, .v false [.vC ks l]=>bif Nat.beq m ks.length then cond (decide (0<=i)&&decide (i<(l.length:Int))) (K (.val (.c (.vptr (Ap ks (nth [] l i.toNat)) 0)))) none else none
   |some m, .v false [.own id w n]=>bif Nat.beq m w then cond (decide (0<=i)&&decide (i<(n:Int))) (K (.val (.c (.rptr id i.toNat 0)))) none else none
   |some m, .v false [.bsl key n]=>bif Nat.beq m 1 then Cl i n 0 λj=>K (.val (.c (.ptr key j)))else none
   |_,_=>none
  |_,_=>none
 | .index t x E=>match(A E).int?,P.underlying t,A x with
  |some i,some (.array n e), .v true cs=>match szT P e with
   |some m=>Cl i n 0 λj=>match EM P e cs (j*m)with
    |some v=>K (.val v)
    |none=>none
   |none=>none
  |_,_,_=>none
 | .slice t x lo D mx=>match mx,DW A lo,DW A D,P.underlying t with
  |none,some lo,some D,some (.slice e)=>match szT P e,A x with
   |some m, .v false [.vC ks l]=>bif Nat.beq m ks.length then
    match lo,D with
    |none,none=>K (.val (.c (.vC ks l)))
    |some a,none=>cond (decide (0<=a)&&decide (a<=(l.length:Int))) (K (.val (.c (.vC ks (l.drop a.toNat))))) none
    |none,some b=>cond (decide (0<=b)&&decide (b<=(l.length:Int))) (K (.val (.c (.vC ks (l.take b.toNat))))) none
    |some a,some b=>cond (decide (0<=a)&&decide (a<=b)&&decide (b<=(l.length:Int))) (K (.val (.c (.vC ks ((l.take b.toNat).drop a.toNat))))) none
    else none
   |some m, .v false [.own id w n]=>match lo,D with
    |some a,none=>bif Nat.beq m w then cond (decide (0<=a)&&decide (a<=(n:Int))) (K (.cutR id a.toNat)) none else none
    |_,_=>none
   |some _, .v false [.nilSl]=>match lo,D with
    |none,none=>K (.val (.c .nilSl))
    |some a,none=>cond (decide (a=0)) (K (.val (.c .nilSl))) none
    |none,some b=>cond (decide (b=0)) (K (.val (.c .nilSl))) none
    |some a,some b=>cond (decide (a=0)&&decide (b=0)) (K (.val (.c .nilSl))) none
   |_,_=>none
  |_,_,_,_=>none
 | .extract t i=>match A t with
  | .tup ps=>match ps[i]? with
   |some (g,cs)=>K (.val (.v g cs))
   |none=>none
  |_=>none
 | .call c=>match c.callee with
  | .builtin b=>DE P b c.argTypes.toList (AG A c.args.toList) K
  | .value (.func f)=>cond (C.pure f) (K (.call f (AG A c.args.toList))) (K (.callM f (AG A c.args.toList)))
  | .value (.tmp t)=>match A (.tmp t)with
   | .v false [.clo f fs cs]=>bif Ab AC.clOk fs&&Ab AC.clOk cs then K (.callM f (fs.map TV.c++(AG A c.args.toList++cs.map TV.c)))else none
   |_=>none
  |_=>none
 |_=>none
def Ai (tmps:List TV):Operand->TV
 | .tmp t=>nth .vD tmps t
 | .const v=>ofValue v
 |_=> .vD
def AC.kill (id:Nat):AC->AC
 | .own j w n=>bif Nat.beq j id then .vD else .own j w n
 | .rptr j a b=>bif Nat.beq j id then .vD else .rptr j a b
 |a=>a
def TV.kill (id:Nat):TV->TV
 | .v g cs=> .v g (cs.map (AC.kill id))
 | .tup ps=> .tup (ps.map λp=>(p.1,p.2.map (AC.kill id)))
 | .vD=> .vD
def Box.kill (id:Nat) (b:Box):Box:=⟨b.ty,b.cells.map (AC.kill id)⟩
def AC.fz (id:Nat) (ks:List Kd) (l:List (List AC)):AC->AC
 | .own j w n=>bif Nat.beq j id then .vC ks l else .own j w n
 | .rptr j a b=>bif Nat.beq j id then .vD else .rptr j a b
 |a=>a
def TV.fz (id:Nat) (ks:List Kd) (l:List (List AC)):TV->TV
 | .v g cs=> .v g (cs.map (AC.fz id ks l))
 | .tup ps=> .tup (ps.map λp=>(p.1,p.2.map (AC.fz id ks l)))
 | .vD=> .vD
def Box.fz (id:Nat) (ks:List Kd) (l:List (List AC)) (b:Box):Box:=⟨b.ty,b.cells.map (AC.fz id ks l)⟩
def del {α:Type} (id:Nat):List (Nat×α)->List (Nat×α)
 |[]=>[]
 |(k,b)::l=>bif Nat.beq k id then del id l else(k,b)::del id l
def C6:List Nat->St->(St->Option R)->Option R
 |[],s,K=>K s
 |id::l,⟨tmps,aB,aC⟩,K=>match Aa aC id with
  |some r=>Al (tmps.map (TV.fz id r.ks r.l)) λD=>Al (aB.map λp=>(p.1,p.2.fz id r.ks r.l)) λA=>Al (del id aC) λE=>C6 l ⟨D,A,E⟩ K
  |none=>C6 l ⟨tmps,aB,aC⟩ K
def AC.res (aC:List (Nat×Row)):AC->Option AC
 | .own id _ _=>match Aa aC id with
  |some r=>some (.vC r.ks r.l)
  |none=>none
 | .int k n=>some (.int k n)
 | .bool b=>some (.bool b)
 | .raw v=>some (.raw v)
 | .nilSl=>some .nilSl
 | .vC ks l=>some (.vC ks l)
 |_=>none
def Bt (aC:List (Nat×Row)):List AC->Option (List AC)
 |[]=>some []
 |a::l=>match a.res aC with
  |some A=>match Bt aC l with
   |some D=>some (A::D)
   |none=>none
  |none=>none
def TV.res (aC:List (Nat×Row)):TV->Option TV
 | .v g cs=>match Bt aC cs with
  |some l=>some (.v g l)
  |none=>none
 |_=>none
def B5 (aC:List (Nat×Row)):List TV->Option (List TV)
 |[]=>some []
 |a::l=>match a.res aC with
  |some A=>match B5 aC l with
   |some D=>some (A::D)
   |none=>none
  |none=>none
def AC.isOwn:AC->Bool
 | .own _ _ _=>true
 |_=>false
def TV.hasOwn:TV->Bool
 | .v _ cs=>cs.any AC.isOwn
 |_=>true
def AC.flat:AC->Bool
 | .int _ _| .bool _| .raw _| .nilSl=>true
 |_=>false
def TV.flat:TV->Bool
 | .v _ cs=>Ab AC.flat cs
 | .tup ps=>Ab (λp:Bool×List AC=>Ab AC.flat p.2) ps
 | .vD=>false
def TV.plainB:TV->Bool
 | .v _ cs=>Ab AC.plain cs
 | .tup ps=>Ab (λp:Bool×List AC=>Ab AC.plain p.2) ps
 | .vD=>false
def Prim.dr:Bool->Prim->Prim
 |false, .callM f args=>bif Ab TV.plainB args then .callF f args else .callD f args
 |false, .append e ks b s x=> .appD e ks b s x
 |_,p=>p
def C5 (aC:List (Nat×Row)) (ks:List Kd):AC->Option (List (List AC))
 | .nilSl=>some []
 | .vC A l=>bif AV ks A then some l else none
 | .own id _ _=>match Aa aC id with
  |some r=>bif AV ks r.ks then some r.l else none
  |none=>none
 |_=>none
def put (s:St) (dst:Option Tmp) (v:TV) (K:St->Option R):Option R:=
 match dst with
 |none=>K s
 |some d=>match s with
  |⟨tmps,aB,aC⟩=>Al (setL tmps d v) λl=>K ⟨l,aB,aC⟩
def AC.keys:AC->List Nat
 | .ptr k _=>[k]
 | .bsl k _=>[k]
 | .clo _ fs cs=>keysL fs++keysL cs
 |_=>[]
 where keysL:List AC->List Nat
 |[]=>[]
 | .ptr k _::l=>k::keysL l
 |_::l=>keysL l
def AC.ids:AC->List Nat
 | .own id _ _=>[id]
 |_=>[]
def cat {α β:Type} (g:α->List β):List α->List β
 |[]=>[]
 |a::l=>g a++cat g l
def TV.cellsOf:TV->List AC
 | .v _ cs=>cs
 | .tup ps=>cat (λp:Bool×List AC=>p.2) ps
 | .vD=>[]
def Fv (n:Nat):List Nat->List Nat
 |[]=>[n]
 |m::l=>bif Nat.beq m n then m::l else m::Fv n l
def As:List Nat->List Nat->List Nat
 |[],l=>l
 |n::A,l=>As A (Fv n l)
def Bv (aB:List (Nat×Box)) (k:Nat):List AC:=match Aa aB k with
 |some b=>b.cells
 |none=>[]
def SW (aB:List (Nat×Box)) (keys:List Nat):List Nat:=As (cat (λk=>cat AC.keys (Bv aB k)) keys) keys
def Ef (aB:List (Nat×Box)):Nat->List Nat->List Nat
 |0,l=>l
 |n+1,l=>Ef aB n (SW aB l)
def EO (aB:List (Nat×Box)) (cells:List AC) (keys:List Nat):List Nat:=
 As (cat AC.ids cells++cat (λk=>cat AC.ids (Bv aB k)) keys) []
def pos:List Nat->Nat->Nat
 |[],_=>0
 |m::l,n=>bif Nat.beq m n then 0 else pos l n+1
def Am:List Nat->Nat->Bool
 |[],_=>false
 |m::l,n=>bif Nat.beq m n then true else Am l n
def AC.ren (rk ri:Nat->Nat):AC->AC
 | .ptr k o=> .ptr (rk k) o
 | .bsl k n=> .bsl (rk k) n
 | .own id w n=> .own (ri id) w n
 | .rptr id i s=> .rptr (ri id) i s
 | .clo f fs cs=> .clo f (renP rk fs) (renP rk cs)
 |a=>a
 where renP (rk:Nat->Nat):List AC->List AC
 |[]=>[]
 | .ptr k o::l=> .ptr (rk k) o::renP rk l
 |a::l=>a::renP rk l
def TV.ren (A ri:Nat->Nat):TV->TV
 | .v g cs=> .v g (cs.map (AC.ren A ri))
 | .tup ps=> .tup (ps.map λp=>(p.1,p.2.map (AC.ren A ri)))
 | .vD=> .vD
def AC.inK (keys ids:List Nat):AC->Bool
 | .ptr k _=>Am keys k
 | .bsl k _=>Am keys k
 | .own id _ _=>Am ids id
 | .rptr id _ _=>Am ids id
 | .clo _ fs cs=>Ab (inP keys) fs&&Ab (inP keys) cs
 |_=>true
 where inP (keys:List Nat):AC->Bool
 | .ptr k _=>Am keys k
 |_=>true
def TV.inK (keys ids:List Nat):TV->Bool
 | .v _ cs=>Ab (AC.inK keys ids) cs
 | .tup ps=>Ab (λp:Bool×List AC=>Ab (AC.inK keys ids) p.2) ps
 | .vD=>true
def AZ (aB:List (Nat×Box)) (A ri:Nat->Nat):Nat->List Nat->Option (List (Nat×Box))
 |_,[]=>some []
 |b,k::ks=>match Aa aB k with
  |some x=>match AZ aB A ri (b+1) ks with
   |some l=>some ((b,⟨x.ty,x.cells.map (AC.ren A ri)⟩)::l)
   |none=>none
  |none=>none
def BX (aC:List (Nat×Row)):Nat->List Nat->Option (List (Nat×Row))
 |_,[]=>some []
 |b,k::ks=>match Aa aC k with
  |some x=>match BX aC (b+1) ks with
   |some l=>some ((b,x)::l)
   |none=>none
  |none=>none
def base:Nat:=20000
def AA (names fresh:List Nat) (d:Nat) (n:Nat):Nat:=
 bif Nat.ble base n&&Nat.blt (n-base) names.length then nth 0 names (n-base)else 100000+100*d+pos fresh n
def Aw {α:Type} (names:List Nat):List (Nat×α)->List Nat
 |[]=>[]
 |(k,_)::l=>bif Nat.ble base k&&Nat.blt (k-base) names.length then Aw names l else k::Aw names l
def A2 {α:Type}:List Nat->List (Nat×α)->List (Nat×α)
 |[],l=>l
 |k::ks,l=>A2 ks (del k l)
def DC (A ri:Nat->Nat):List (Nat×Box)->List (Nat×Box)->List (Nat×Box)
 |[],l=>l
 |(k,b)::m,l=>DC A ri m (ins l (A k) ⟨b.ty,b.cells.map (AC.ren A ri)⟩)
def CK (ri:Nat->Nat):List (Nat×Row)->List (Nat×Row)->List (Nat×Row)
 |[],l=>l
 |(k,b)::m,l=>CK ri m (ins l (ri k) b)
def AS (keys:List Nat):List (Nat×Box)->List (Nat×Box)->List (Nat×Box)
 |[],l=>l
 |(k,b)::m,l=>AS keys m (upd l (nth 0 keys (k-base)) b)
def Cz (ids:List Nat) (v:TV):TV:=match ids with
 |[]=>v
 |id::l=>Cz l (v.kill id)
def AX (ids:List Nat) (b:Box):Box:=match ids with
 |[]=>b
 |id::l=>AX l (b.kill id)
def D4 {α:Type} (l:List (Nat×α)) (k:Nat):Bool:=match Aa l k with
 |some _=>false
 |none=>true
def AK:List Nat->Bool
 |[]=>true
 |k::l=>bif Am l k then false else AK l
def B7 {α:Type} (l:List (Nat×α)) (k:Nat):Bool:=match Aa l k with
 |some _=>true
 |none=>false
def Dg (d:Nat):Nat:=100000+100*d
def AC.relen (id A:Nat):AC->AC
 | .own j w n=>bif Nat.beq j id then .own j w A else .own j w n
 | .rptr j a b=>bif Nat.beq j id then .vD else .rptr j a b
 |a=>a
def TV.relen (id A:Nat):TV->TV
 | .v g cs=> .v g (cs.map (AC.relen id A))
 | .tup ps=> .tup (ps.map λp=>(p.1,p.2.map (AC.relen id A)))
 | .vD=> .vD
def Box.relen (id A:Nat) (b:Box):Box:=⟨b.ty,b.cells.map (AC.relen id A)⟩
def It:List TV->Option Nat
 | .v false [.own id _ _]::rest=>bif Ab TV.plainB rest then some id else none
 |_=>none
def F5 (g:Spec) (args:List TV) (tmps:List TV) (aB:List (Nat×Box)) (aC:List (Nat×Row)) (K:TV->St->Option R):Option R:=
 match It args with
 |some id=>match Aa aC id with
  |some r=>g R (args.map (TV.ren (λk=>base+pos [] k) (λi=>base+pos [id] i))) ⟨[],[(base,r)]⟩ λv m=>match m with
   |⟨[],[(k,r')]⟩=>bif Nat.beq k base&&Nat.beq r'.ty r.ty&&AV r'.ks r.ks&&v.plainB then
     Al (tmps.map (TV.relen id r'.l.length)) λD=>Al (aB.map λp=>(p.1,p.2.relen id r'.l.length)) λA=>Al (upd aC id r') λE=>K v ⟨D,A,E⟩else none
   |_=>none
  |none=>none
 |none=>none
def Ao (dst:Option Tmp) (p:Prim) (s:St) (K:TV->St->Option R):Option R:=
 match s with
 |⟨tmps,aB,aC⟩=>
 match p with
 | .val v=>K v ⟨tmps,aB,aC⟩
 | .load g sz key off=>match Aa aB key with
  |some b=>match Bb g sz b.cells off with
   |some v=>K v ⟨tmps,aB,aC⟩
   |none=>none
  |none=>none
 | .store key off cs=>match Aa aB key with
  |some b=>bif Nat.ble (off+cs.length) b.cells.length then
    Al (splice b.cells off cs) λcells=>Al (upd aB key ⟨b.ty,cells⟩) λA=>K .vD ⟨tmps,A,aC⟩
   else none
  |none=>none
 | .new ty cs=>match dst with
  |some d=>match Aa aB d with
   |some _=>none
   |none=>Al (ins aB d ⟨ty,cs⟩) λA=>K (.c (.ptr d 0)) ⟨tmps,A,aC⟩
  |none=>none
 | .newS ty n cs=>match dst with
  |some d=>match Aa aB d with
   |some _=>none
   |none=>Al (ins aB d ⟨ty,cs⟩) λA=>K (.c (.bsl d n)) ⟨tmps,A,aC⟩
  |none=>none
 | .cutR id a=>match Aa aC id with
  |some r=>bif Nat.ble a r.l.length then
    Al (tmps.map (TV.kill id)) λE=>
    Al (aB.map λp=>(p.1,p.2.kill id)) λA=>
    Al (upd aC id ⟨r.ty,r.ks,r.l.drop a⟩) λD=>
    K (.c (.own id r.ks.length (r.l.drop a).length)) ⟨E,A,D⟩
   else none
  |none=>none
 | .rload g sz id idx sub=>match Aa aC id with
  |some r=>match Bb g sz (r.f idx) sub with
   |some v=>K v ⟨tmps,aB,aC⟩
   |none=>none
  |none=>none
 | .rstore id idx sub cs=>match Aa aC id with
  |some r=>bif Nat.ble (sub+cs.length) r.w&&Ab AC.plain cs then
    match B0 r.ks (splice (r.f idx) sub cs)with
    |some c=>Al (upd aC id ⟨r.ty,r.ks,r.l.set idx c⟩) λD=>K .vD ⟨tmps,aB,D⟩
    |none=>none else none
  |none=>none
 | .newRow e ks l=>match dst with
  |some d=>match Aa aC (C.rowAs d)with
   |some _=>none
   |none=>Al (ins aC (C.rowAs d) ⟨e,ks,l⟩) λD=>K (.c (.own (C.rowAs d) ks.length l.length)) ⟨tmps,aB,D⟩
  |none=>none
 | .newView _ ks l=>K (.c (.vC ks l)) ⟨tmps,aB,aC⟩
 | .make e ks bytes n z=>match dst with
  |some d=>match Aa aC d with
   |some _=>none
   |none=>cond (decide (0<=n)&&decide (n*(bytes:Int)<=140737488355328))
     (Al (ins aC d ⟨e,ks,List.replicate n.toNat z⟩) λD=>K (.c (.own d ks.length (List.replicate n.toNat z).length)) ⟨tmps,aB,D⟩) none
  |none=>none
 | .append e ks bytes s x=>match C5 aC ks x with
  |some m=>match s with
   | .nilSl=>match dst with
    |some d=>match Aa aC d with
     |some _=>none
     |none=>bif(Nat.ble 1 ks.length&&Nat.ble 1 bytes)then cond (Nat.ble (m.length*bytes) 140737488355328) (Al (ins aC d ⟨e,ks,m⟩) λD=>K (.c (.own d ks.length m.length)) ⟨tmps,aB,D⟩) none else none
    |none=>none
   | .own id _ _=>match Aa aC id with
    |some r=>bif(AV ks r.ks&&Nat.beq r.ty e&&Nat.ble 1 bytes)then
      cond (Nat.ble ((r.l ++ m).length * bytes) 140737488355328) (
       Al (tmps.map (TV.kill id)) λE=>
       Al (aB.map λp=>(p.1,p.2.kill id)) λA=>
       Al (upd aC id ⟨e,r.ks,r.l++m⟩) λD=>
       K (.c (.own id r.ks.length (r.l++m).length)) ⟨E,A,D⟩) none
     else none
    |none=>none
   |_=>none
  |none=>none
 | .appD e ks bytes s x=>match C5 aC ks x with
  |some m=>match s with
   | .own id _ _=>match Aa aC id with
    |some r=>bif(AV ks r.ks&&Nat.beq r.ty e&&Nat.ble 1 bytes)then
      cond (Nat.ble ((r.l ++ m).length * bytes) 140737488355328) (
       Al (tmps.map (TV.kill id)) λE=>
       Al (aB.map λp=>(p.1,p.2.kill id)) λA=>
       Al (upd aC id ⟨e,r.ks,r.l++m⟩) λD=>
       K (.c (.own id r.ks.length (r.l++m).length)) ⟨E,A,D⟩) none
     else none
    |none=>none
   | .nilSl=>match dst with
    |some d=>match Aa aC d with
     |some _=>none
     | none => bif (Nat.ble 1 ks.length && Nat.ble 1 bytes) then cond (Nat.ble (m.length * bytes) 140737488355328) (
       Al (tmps.map (TV.kill d)) λE=>
       Al (aB.map λp=>(p.1,p.2.kill d)) λA=>
       Al (ins aC d ⟨e,ks,m⟩) λD=>K (.c (.own d ks.length m.length)) ⟨E,A,D⟩) none else none
    |none=>none
   |_=>none
  |none=>none
 | .call f args=>match C.spec f with
  |some g=>match B5 aC args with
   |some as=>g R as ⟨[],[]⟩ λv m=>match m with
    |⟨[],[]⟩=>bif((!(args.any TV.hasOwn)||v.flat)&&v.plainB)then K v ⟨tmps,aB,aC⟩else none
    |_=>none
   |none=>none
  |none=>none
 | .callM f args=>match C.spec f with
  |some g=>bif C.keepR f then F5 g args tmps aB aC K else
   Al (Ef aB 4 (As (cat AC.keys (cat TV.cellsOf args)) [])) λkeys=>
   Al (EO aB (cat TV.cellsOf args) keys) λids=>
   bif Ab (TV.inK keys ids) args&&Ab (λk=>Ab (AC.inK keys ids) (Bv aB k)) keys&&AK keys&&AK ids then
    match AZ aB (λk=>base+pos keys k) (λi=>base+pos ids i) base keys,BX aC base ids with
    |some L,some Q=>g R (args.map (TV.ren (λk=>base+pos keys k) (λi=>base+pos ids i))) ⟨L,Q⟩ λv m=>match m with
     |⟨G,J⟩=>
      Al (Aw keys G) λO=>Al (Aw ids J) λN=>
      bif Ab (λp:Nat×Box=>B7 G p.1) L&&AK (G.map (·.1))&&AK (J.map (·.1))&&Ab (λk=>D4 aB (AA keys O (dst.getD 0) k)) O&&Ab (λk=>D4 aC (AA ids N (dst.getD 0) k)) N&&Nat.ble O.length 100&&Nat.ble N.length 100 then
       Al (tmps.map (Cz ids)) λE=>
       Al (DC (AA keys O (dst.getD 0)) (AA ids N (dst.getD 0)) G ((A2 keys aB).map λp=>(p.1,AX ids p.2))) λA=>
       Al (CK (AA ids N (dst.getD 0)) J (A2 ids aC)) λD=>
       K (v.ren (AA keys O (dst.getD 0)) (AA ids N (dst.getD 0))) ⟨E,A,D⟩
      else none
    |_,_=>none
   else none
  |none=>none
 | .callD f args=>match C.spec f with
  |some g=>
   Al (As (cat AC.keys (cat TV.cellsOf args)) []) λkeys=>
   bif Ab (TV.inK keys []) args&&Ab (λk=>Ab AC.calm (Bv aB k)) keys&&AK keys then
    match AZ aB (λk=>base+pos keys k) (λi=>base+pos [] i) base keys with
    |some L=>g R (args.map (TV.ren (λk=>base+pos keys k) (λi=>base+pos [] i))) ⟨L,[]⟩ λv m=>match m with
     |⟨G,[]⟩=>
      bif Ab (λp:Nat×Box=>B7 G p.1) L&&Ab (λp:Nat×Box=>B7 L p.1) G&&AK (G.map (·.1))&&Ab (λp:Nat×Box=>Ab AC.calm p.2.cells) G&&v.plainB then
       Al (AS keys G aB) λA=>K v ⟨tmps,A,aC⟩
      else none
     |⟨_,_::_⟩=>none
    |none=>none
   else none
  |none=>none
 | .callF f args=>match C.spec f with
  |some g=>bif Ab TV.plainB args then g R args ⟨[],[]⟩ λv m=>match m with
   |⟨[],[]⟩=>bif v.plainB then K v ⟨tmps,aB,aC⟩else none
   |⟨[],[(k,r)]⟩=>match v with
    | .v false [.own j _ _] => bif Nat.beq j k then (match Aa aC (Dg (dst.getD 0)) with
     |some _=>none
     |none=>Al (ins aC (Dg (dst.getD 0)) r) λD=>K (.c (.own (Dg (dst.getD 0)) r.ks.length r.l.length)) ⟨tmps,aB,D⟩)else none
    |_=>none
   |_=>none
   else none
  |none=>none
def Ff (ops:List Oper) (o:Oper) (s:St) (run skip:St->Option R):Option R:=
 match o.guard with
 |none=>run s
 |some (j,want)=>match ops[j]? with
  |some A=>match A.dst with
   |some t=>match nth .vD s.tmps t with
    | .v false [.bool g]=>cond g (put s (some t) (.c (.bool true)) (bif want then run else skip)) (put s (some t) (.c (.bool false)) (bif want then skip else run))
    | .tup []=>skip s
    |_=>none
   |none=>none
  |none=>none
def EC (k o:Nat) (e:TypeId) (s:St) (K:St->Option R):Option R:=match s with
 |⟨tmps,aB,aC⟩=>match Aa aB k with
  |some b=>match nth .vD b.cells o with
   | .nilSl=>match Cg P 8 e with
    |some ks=>bif Nat.ble 1 ks.length&&D4 aC (1000000+1000*k+o)then
      Al (ins aC (1000000+1000*k+o) ⟨e,ks,[]⟩) λD=>Al (setL b.cells o (.own (1000000+1000*k+o) ks.length 0)) λcells=>Al (upd aB k ⟨b.ty,cells⟩) λA=>K ⟨tmps,A,D⟩
     else none
    |none=>none
   |_=>K ⟨tmps,aB,aC⟩
  |none=>K ⟨tmps,aB,aC⟩
def Dn:List (Nat×Nat×TypeId)->St->(St->Option R)->Option R
 |[],s,K=>K s
 |(k,o,e)::l,s,K=>EC P k o e s λA=>Dn l A K
def Bc:List Kd->List AC->List AC
 | .sl ks::l, .nilSl::cs=> .vC ks []::Bc l cs
 |_::l,a::cs=>a::Bc l cs
 |_,cs=>cs
def GA (b:Box):Box:=match Cg P 8 b.ty with
 |some ks=>⟨b.ty,Bc ks b.cells⟩
 |none=>b
def Dl:List (Nat×TypeId)->St->(St->Option R)->Option R
 |[],s,K=>K s
 |(t,e)::l,⟨tmps,aB,aC⟩,K=>match nth .vD tmps t with
  | .v false [.nilSl]=>match Aa aC t,Cg P 8 e with
   |none,some ks=>bif Nat.ble 1 ks.length then Al (setL tmps t (.c (.own t ks.length 0))) λA=>Al (ins aC t ⟨e,ks,[]⟩) λD=>Dl l ⟨A,aB,D⟩ K else none
   |_,_=>none
  |_=>Dl l ⟨tmps,aB,aC⟩ K
def CG (s:St) (K:St->Option R):Option R:=
 Dn P (cat (λp:Nat×Box=>bif Am C.ownBut p.1 then []else(C.ownOff p.2.ty).map λq=>(p.1,q.1,q.2)) s.aB) s λD=>match D with
  |⟨tmps,aB,aC⟩=>Al (aB.map λp=>(p.1,GA P p.2)) λA=>Dl P C.tprom ⟨tmps,A,aC⟩ K
def TG:TV->Bool
 | .v false [.rptr _ _ _]=>true
 |_=>false
def Ts (C:Cfg):Operand->Bool
 | .tmp t=>Am C.cuts t
 |_=>false
def M8 (A:Operand->TV) (o:Op):List Nat:=
 match o with
 | .slice _ x _ _ _=>bif Ts C x then []else cat AC.ids (TV.cellsOf (A x))
 | .store _ a x=>bif C.fstore||TG (A a)then cat AC.ids (TV.cellsOf (A x))else []
 | .buildSlice _ _ parts=>cat AC.ids (cat TV.cellsOf (parts.toList.map λp=>A p.2))
 | .makeFunc _ a b=>cat AC.ids (cat TV.cellsOf (AG A a.toList++AG A b.toList))
 | .call c=>match c.callee with
  | .value (.func f)=>bif C.lend f then []else cat AC.ids (cat TV.cellsOf (AG A c.args.toList))
  | .value _=>cat AC.ids (cat TV.cellsOf (AG A c.args.toList))
  |_=>[]
 |_=>[]
def Oh (o:Op):Bool:=match o with
 | .call c=>match c.callee with
  | .value (.func f)=> !(C.pure f)
  | .value _=>true
  |_=>false
 |_=>false
def Dt (o:Op) (s:St) (K:St->Option R):Option R:=
 C6 (M8 C (Ai s.tmps) o) s λA=>bif Oh C o then CG P C A K else K A
def BL (pre:Bool) (ops:List Oper) (o:Oper) (s:St) (K:Option Prim->St->Option R):Option R:=
 Ff ops o s
  (λs=>(bif pre then Dt P C o.op s else λK=>K s) λs=>opK P C (Ai s.tmps) o.dst o.op λp=>Ao C o.dst (p.dr pre) s λv A=>put A o.dst v (K (some (p.dr pre))))
  (λs=>put s o.dst (.tup []) (K none))
def Prim.simple:Option Prim->Bool
 |none=>true
 |some (.val _)=>true
 |some (.load _ _ _ _)=>true
 |some (.store _ _ _)=>true
 |some (.new _ _)=>true
 |some (.newView _ _ _)=>true
 |some (.rload _ _ _ _ _)=>true
 |some (.rstore _ _ _ _)=>true
 |some (.call _ _)=>true
 |some (.callD _ _)=>true
 |some (.callF _ _)=>true
 |some (.newRow _ _ _)=>true
 |some (.appD _ _ _ _ _)=>true
 |_=>false
def AC.live:AC->Bool
 | .int _ _| .bool _| .raw _| .nilSl| .vC _ _| .ptr _ _=>true
 |_=>false
def Prim.isPtr:Option Prim->Bool
 |some (.val (.v false [.ptr _ _]))=>true
 |_=>false
def Prim.isLive:Option Prim->Bool
 |some (.val (.v _ cs))=>Ab AC.live cs
 |_=>false
def Prim.isCallP:Option Prim->Bool
 |some (.call _ args)=>Ab TV.plainB args
 |_=>false
def Prim.isLoad:Option Prim->Bool
 |some (.load _ _ _ _)=>true
 |_=>false
def Nq:Operand->Bool
 | .const _=>true
 |_=>false
def oneP:List (Nat×Operand)->Bool
 |[(0,_)]=>true
 |_=>false
def Prim.isView:Option Prim->Bool
 |some (.newView _ _ _)=>true
 |_=>false
def Prim.still (o:Op) (p:Option Prim):Bool:=match o with
 | .move _=>Prim.isLive p
 | .nilCheck _=>Prim.isPtr p
 | .fieldAddr _ _ _=>Prim.isPtr p
 | .call _=>Prim.isCallP p
 | .load _ _=>Prim.isLoad p
 | .build _ parts=>Ab (λq:Nat×Operand=>Nq q.2) parts.toList&&Prim.isLive p
 | .buildSlice _ n parts=>Nat.beq n 1&&oneP parts.toList&&Prim.isView p
 |_=>false
def Prim.isApp:Option Prim->Bool
 |some (.appD _ _ _ _ _)=>true
 |_=>false
def Prim.isMk:Option Prim->Bool
 |some (.newRow _ _ _)=>true
 |some (.callF _ _)=>true
 |some (.rstore _ _ _ _)=>true
 |_=>false
def Prim.isRst:Option Prim->Bool
 |some (.rstore _ _ _ _)=>true
 |_=>false
def Prim.mkStill:Option Prim->Bool
 |none=>true
 |some (.val _)=>true
 |some (.load _ _ _ _)=>true
 |some (.newView _ _ _)=>true
 |some (.call _ args)=>Ab TV.plainB args
 |some (.newRow _ _ _)=>true
 |some (.callF _ _)=>true
 |_=>false
def CY (y:Oper) (D:Option Prim) (x:Oper) (A:Option Prim):Bool:=
 bif Prim.isApp D then !(Prim.isApp A)&&y.guard.isNone&&x.guard.isNone&&Prim.still x.op A
 else bif Prim.isApp A then y.guard.isNone&&x.guard.isNone&&Prim.still y.op D
 else bif Prim.isMk D then Prim.mkStill A&& !(Prim.isRst D&&Prim.isMk A)else bif Prim.isMk A then Prim.mkStill D else true
def Prim.meet (ro:FuncId->Bool):Option Prim->Option Prim->Bool
 |some (.load _ _ k _),some (.store k' _ _)=>Nat.beq k k'
 |some (.store k _ _),some (.load _ _ k' _)=>Nat.beq k k'
 |some (.store k _ _),some (.store k' _ _)=>Nat.beq k k'
 |some (.callD f as),some (.load _ _ k _)=> !(ro f)&&Am (As (cat AC.keys (cat TV.cellsOf as)) []) k
 |some (.callD _ as),some (.store k _ _)=>Am (As (cat AC.keys (cat TV.cellsOf as)) []) k
 |some (.load _ _ k _),some (.callD f as)=> !(ro f)&&Am (As (cat AC.keys (cat TV.cellsOf as)) []) k
 |some (.store k _ _),some (.callD _ as)=>Am (As (cat AC.keys (cat TV.cellsOf as)) []) k
 |some (.callD f _),some (.callD g _)=> !(ro f&&ro g)
 |_,_=>false
def AF (ops:List Oper):List Oper->St->(St->Option R)->Option R
 |[],s,K=>K s
 |o::l,s,K=>BL P C true ops o s λ_ A=>AF ops l A K
def Gj (m:List Nat):List Edge->Nat->Nat
 |[],acc=>acc
 |e::l,acc=>Gj m l (bif Region.binds .any e then Nat.lor acc (Nat.lor (2^e.on) (nth 0 m e.on))else acc)
def M2 {α:Type} (n:Nat) (K:Nat->α):α:=match n with
 |0=>K 0
 |n+1=>K (n+1)
def GE:List Oper->List Nat->(List Nat->Option R)->Option R
 |[],m,K=>K m
 |o::l,m,K=>M2 (Gj m o.after.toList 0) λx=>Al (m++[x]) λA=>GE l A K
def Eo (m:List Nat) (i j:Nat):Bool:=Nat.testBit (nth 0 m i) j
def PX:Op->Bool
 | .call _=>true
 | .makeSlice _ _ _=>true
 | .buildSlice _ _ _=>true
 | .store _ _ _=>true
 | .slice _ _ _ _ _=>true
 |_=>false
def A7 (ops:List Oper) (m:List Nat) (i:Nat):Bool:=match ops[i]? with
 |some o=>PX o.op&&Ab (λj=>Nat.beq j i||Eo m i j||Eo m j i) (List.range ops.length)
 |none=>false
def EH (ops:List Oper) (m:List Nat):List Oper->Nat->St->(List (Oper×Option Prim)->St->Option R)->Option R
 |[],_,s,K=>K [] s
 |o::l,i,s,K=>BL P C (A7 ops m i) ops o s λp A=>EH ops m l (i+1) A λrest D=>K ((o,p)::rest) D
def DI (ops:Array Oper) (m:List Nat):Nat->List (Nat×Oper×Option Prim)->List (Oper×Option Prim)->Bool
 |_,_,[]=>true
 |i,A,(o,p)::l=>
  bif(A7 ops.toList m i||Prim.simple p)&&o.after.toList.all (λe=> !(Region.binds .any e)||Nat.blt e.on i)&&Ab (λy:Nat×Oper×Option Prim=>Eo m i y.1||(!(A7 ops.toList m i)&& !(A7 ops.toList m y.1)&&(Oper.apart ops y.2.1 o&& !(Prim.meet C.ro y.2.2 p)&&CY y.2.1 y.2.2 o p))) A then DI ops m (i+1) (A++[(i,o,p)]) l else false
def H0 (ops:Array Oper) (draw:Bool) (s:St) (K:St->Option R):Option R:=
 bif draw then GE ops.toList [] λm=>EH P C ops.toList m ops.toList 0 s λacc A=>bif DI C ops m 0 [] acc then K A else none
 else AF P C ops.toList ops.toList s K
def Dx:List (Nat×Nat)->List AC->Bool
 |[],[]=>true
 |(k,o)::l, .ptr k' A::cs=>Nat.beq k k'&&Nat.beq o A&&Dx l cs
 |_,_=>false
def ES:CS->AC->Option (List AC)
 | .any,_=>some []
 | .int k, .int k' n=>bif kEq k k' then some [.int k n]else none
 | .bool, .bool b=>some [.bool b]
 | .sl ks, .nilSl=>some [.vC ks []]
 | .sl ks, .vC A l=>bif AV ks A then some [.vC ks l]else none
 | .rawc, .raw v=>some [.raw v]
 | .str, .raw (.string s)=>some [.raw (.string s)]
 | .nil, .nilSl=>some []
 | .nilp, .raw (.pointer none)=>some []
 | .ptr k o, .ptr k' G=>bif Nat.beq k k'&&Nat.beq o G then some []else none
 | .own id w, .own id' w' _=>bif Nat.beq id id'&&Nat.beq w w' then some []else none
 | .bsl k n, .bsl k' J=>bif Nat.beq k k'&&Nat.beq n J then some []else none
 | .clo f fs cs, .clo L D E=>bif Nat.beq f L&&Dx fs D&&Dx cs E then some []else none
 |_,_=>none
def Dk:List CS->List AC->Option (List AC)
 |[],[]=>some []
 |c::cs,a::as=>match ES c a with
  |some v=>match Dk cs as with
   |some A=>some (v++A)
   |none=>none
  |none=>none
 |_,_=>none
def Ep:List (Bool×List CS)->List (Bool×List AC)->Option (List AC)
 |[],[]=>some []
 | (g, cs) :: l, (A, as) :: m => bif g == A then (match Dk cs as with
  |some v=>match Ep l m with
   |some D=>some (v++D)
   |none=>none
  |none=>none)else none
 |_,_=>none
def DD:TS->TV->Option (List AC)
 | .vD,_=>some []
 | .v g cs, .v A as=>bif g==A then Dk cs as else none
 | .tup ps, .tup D=>Ep ps D
 |_,_=>none
def DU:List TS->List TV->Option (List AC)
 |[],[]=>some []
 |t::A,v::D=>match DD t v with
  |some a=>match DU A D with
   |some l=>some (a++l)
   |none=>none
  |none=>none
 |_,_=>none
def Fe:List (Nat×TypeId×List CS)->List (Nat×Box)->Option (List AC)
 |[],_=>some []
 |(k,t,cs)::l,aB=>match Aa aB k with
  | some b => bif Nat.beq t b.ty then (match Dk cs b.cells with
   |some v=>match Fe l aB with
    |some A=>some (v++A)
    |none=>none
   |none=>none)else none
  |none=>none
def E5:List (Nat×TypeId×List Kd)->List (Nat×Row)->Option (List AC)
 |[],_=>some []
 |(k,t,ks)::l,aC=>match Aa aC k with
  | some r => bif Nat.beq t r.ty && AV ks r.ks then (match E5 l aC with
    |some A=>some (.vC ks r.l::A)
    |none=>none)else none
  |none=>none
def Bg (k:Nat):Bool:=Nat.ble base k&&Nat.blt k 100000
def AN (sk:Sk) (s:St):Option (List AC):=match s with
 | ⟨tmps, aB, aC⟩ => bif Ab (λp : Nat × Box => !(Bg p.1) || Am (sk.aB.map (·.1)) p.1) aB then (match E5 sk.aC aC with
  |some a=>match DU sk.tmps tmps with
   |some b=>match Fe sk.aB aB with
    |some c=>some (a++(b++c))
    |none=>none
   |none=>none
  |none=>none)else none
def Em:List (Nat×Nat)->List AC
 |[]=>[]
 |(k,o)::l=> .ptr k o::Em l
def BK (rl:Nat->Nat) (l:List AC):CS->Nat->AC×Nat
 | .any,i=>(.vD,i)
 | .int k,i=>(.int k (Ad (nth .vD l i)),i+1)
 | .bool,i=>(.bool (Ci (nth .vD l i)),i+1)
 | .sl ks,i=>(.vC ks (Aq (nth .vD l i)),i+1)
 | .rawc,i=>(Cq .raw (nth .vD l i),i+1)
 | .str,i=>(.raw (.string (Ah (nth .vD l i))),i+1)
 | .nil,i=>(.nilSl,i)
 | .nilp,i=>(.raw (.pointer none),i)
 | .ptr k o,i=>(.ptr k o,i)
 | .own id w,i=>(.own id w (rl id),i)
 | .clo f fs cs,i=>(.clo f (Em fs) (Em cs),i)
 | .bsl k n,i=>(.bsl k n,i)
def Bx (rl:Nat->Nat) (l:List AC):List CS->Nat->List AC×Nat
 |[],i=>([],i)
 |c::cs,i=>match BK rl l c i with
  |(a,D)=>match Bx rl l cs D with
   |(as,A)=>(a::as,A)
def Cs (rl:Nat->Nat) (l:List AC):List (Bool×List CS)->Nat->List (Bool×List AC)×Nat
 |[],i=>([],i)
 |(g,cs)::ps,i=>match Bx rl l cs i with
  |(as,D)=>match Cs rl l ps D with
   |(E,A)=>((g,as)::E,A)
def CN (rl:Nat->Nat) (l:List AC):TS->Nat->TV×Nat
 | .vD,i=>(.vD,i)
 | .v g cs,i=>match Bx rl l cs i with
  |(as,A)=>(.v g as,A)
 | .tup ps,i=>match Cs rl l ps i with
  |(D,A)=>(.tup D,A)
def B3 (rl:Nat->Nat) (l:List AC):List TS->Nat->List TV×Nat
 |[],i=>([],i)
 |t::D,i=>match CN rl l t i with
  |(v,E)=>match B3 rl l D E with
   |(G,A)=>(v::G,A)
def B8 (rl:Nat->Nat) (l:List AC):List (Nat×TypeId×List CS)->Nat->List (Nat×Box)
 |[],_=>[]
 |(k,t,cs)::bs,i=>match Bx rl l cs i with
  |(as,A)=>(k,⟨t,as⟩)::B8 rl l bs A
def Do (l:List AC):List (Nat×TypeId×List Kd)->Nat->List (Nat×Row)×Nat
 |[],i=>([],i)
 |(k,t,ks)::rs,i=>match Do l rs (i+1)with
  |(q,A)=>((k,⟨t,ks,Aq (nth .vD l i)⟩)::q,A)
def BJ (aC:List (Nat×Row)) (id:Nat):Nat:=match Aa aC id with
 |some r=>r.l.length
 |none=>0
def Ag (sk:Sk) (vars:List AC):St:=match Do vars sk.aC 0 with
 |(aC,i)=>match B3 (BJ aC) vars sk.tmps i with
  |(tmps,A)=>⟨tmps,B8 (BJ aC) vars sk.aB A,aC⟩
def CS.okB (keys:List Nat) (aC:List (Nat×TypeId×List Kd)):CS->Bool
 | .ptr k _=>Am keys k
 | .bsl k _=>Am keys k
 | .own id w=>match Aa aC id with
  |some (_,ks)=>Nat.beq ks.length w
  |none=>false
 | .clo _ fs cs=>Ab (λp:Nat×Nat=>Am keys p.1) fs&&Ab (λp:Nat×Nat=>Am keys p.1) cs
 |_=>true
def TS.okB (keys:List Nat) (aC:List (Nat×TypeId×List Kd)):TS->Bool
 | .vD=>true
 | .v _ cs=>Ab (CS.okB keys aC) cs
 | .tup ps=>Ab (λp:Bool×List CS=>Ab (CS.okB keys aC) p.2) ps
def Sk.okB (sk:Sk):Bool:=
 AK (sk.aB.map (·.1))&&AK (sk.aC.map (·.1))&&Ab (TS.okB (sk.aB.map (·.1)) sk.aC) sk.tmps&&Ab (λp:Nat×TypeId×List CS=>Ab (CS.okB (sk.aB.map (·.1)) sk.aC) p.2.2) sk.aB
def DV (d:Nat):AC->Bool
 | .ptr k _=> !(Nat.beq k d)
 |_=>true
def AC.killP (d:Nat):AC->AC
 | .ptr k o=>bif Nat.beq k d then .vD else .ptr k o
 | .bsl k n=>bif Nat.beq k d then .vD else .bsl k n
 | .clo f fs cs=>bif Ab (DV d) fs&&Ab (DV d) cs then .clo f fs cs else .vD
 |a=>a
def TV.mapC (f:AC->AC):TV->TV
 | .v g cs=> .v g (cs.map f)
 | .tup ps=> .tup (ps.map λp=>(p.1,p.2.map f))
 | .vD=> .vD
def Hb:List Oper->List Nat
 |[]=>[]
 |o::l=>match o.op,o.dst with
  | .alloc _,some d=>d::Hb l
  | .box _ _,some d=>d::Hb l
  |_,_=>Hb l
def F4:List Nat->St->(St->Option R)->Option R
 |[],s,K=>K s
 |d::l,⟨tmps,aB,aC⟩,K=>match Aa aB d with
  |none=>F4 l ⟨tmps,aB,aC⟩ K
  |some _=>bif Bg d then none else Al (tmps.map (TV.mapC (AC.killP d))) λD=>Al ((del d aB).map λp=>(p.1,(⟨p.2.ty,p.2.cells.map (AC.killP d)⟩:Box))) λA=>F4 l ⟨D,A,aC⟩ K
def Fi (step:St->(Ex->St->Option R)->Option R):Nat->St->(Ex->St->Option R)->Option R
 |0,_,_=>none
 |n+1,s,K=>step s fun
  | .normal,A=>CG P C A λA=>Fi step n A K
  | .exit id,A=>K (.exit id) A
  | .ret,A=>K .ret A
def FP (a:Option (Sk×CJ)) (s:St) (K:Ex->St->Option R) (run:Option R):Option R:=match a with
 |none=>run
 | some (sk, g) => bif sk.okB then (match AN sk s with
  |some vars=>g R vars K
  |none=>none)else none
def Mv (C:Cfg) (c:Operand):Option (Sk×CJ):=match c with
 | .tmp t=>C.conds t
 |_=>none
def Ei:Code->Option Nat
 | .region id _ _=>some id
 | .seq a b=>match Ei a with
  |some n=>some n
  |none=>Ei b
 | .cond _ a b=>match Ei a with
  |some n=>some n
  |none=>Ei b
 | .block _ b=>Ei b
 | .loop b=>Ei b
 |_=>none
def Hc (body:Code):Nat:=match Ei body with
 |some n=>n
 |none=>0
def Ax (L:Nat):Code->Nat->St->(Ex->St->Option R)->Option R
 | .skip,_,s,K=>K .normal s
 | .region _ ops draw,_,s,K=>F4 (Hb ops.toList) s λs=>H0 P C ops draw s (K .normal)
 | .seq a b,blk,s,K=>Ax L a blk s fun
  | .normal,A=>Ax L b blk A K
  | .exit id,A=>K (.exit id) A
  | .ret,A=>K .ret A
 | .cond c x y, blk, s, K => FP (Mv C c) s K (match Ai s.tmps c with
  | .v false [.bool g]=>match c with
   | .tmp t=>cond g (put s (some t) (.c (.bool true)) λA=>Ax L x blk A K) (put s (some t) (.c (.bool false)) λA=>Ax L y blk A K)
   |_=>cond g (Ax L x blk s K) (Ax L y blk s K)
  |_=>none)
 | .block id body,_,s,K=>FP (C.blocks id) s K (Ax L body id s fun
  | .normal,A=>K .normal A
  | .exit i,A=>bif Nat.beq i id then K .normal A else K (.exit i) A
  | .ret,A=>K .ret A)
 | .loop body,blk,s,K=>Dl P (C.prom (Hc body)) s λA=>
   CG P C A λA=>FP (C.loops (Hc body)) A K (Fi P C (λs K=>Ax L body blk s K) L A K)
 | .exit id,_,s,K=>K (.exit id) s
 | .ret,_,s,K=>K .ret s
 | .scope b,blk,s,K=>Ax L b blk s K
 | .label _,_,s,K=>K .normal s
 |_,_,_,_=>none
def Hm:Ex->Ex->Bool
 | .normal, .normal=>true
 | .exit i, .exit j=>Nat.beq i j
 | .ret, .ret=>true
 |_,_=>false
def Ek:List (Ex×Sk)->Nat->Ex->St->Option (Nat×List AC)
 |[],_,_,_=>none
 | (e, sk) :: l, i, A, s => bif Hm e A && sk.okB then (match AN sk s with
  |some vars=>some (i,vars)
  |none=>none)else Ek l (i+1) A s
def Fd (o:List AC) (K:Ex->St->Option R):List (Ex×Sk)->Nat->Nat->Option R
 |[],_,_=>none
 |(e,sk)::l,i,n=>bif Nat.beq n i then K e (Ag sk o)else Fd o K l (i+1) n
def gOf (A:List (Ex×Sk)) (m:List AC->Option (Nat×List AC)):CJ:=λ_ vars K=>(m vars).bind λo=>Fd o.2 K A 1 o.1
def Cm (L blk:Nat) (body:Code) (sk:Sk) (A:List (Ex×Sk)) (vars:List AC):Option (Nat×List AC):=
 Ax P C L body blk (Ag sk vars) λe D=>match e with
  | .normal=>CG P C D λD=>match AN sk D with
   |some vars=>some (0,vars)
   |none=>none
  | .exit i=>Ek A 1 (.exit i) D
  | .ret=>Ek A 1 .ret D
def AW (step:List AC->Option (Nat×List AC)):Nat->List AC->Option (Nat×List AC)
 |0,_=>none
 |n+1,vars=>(step vars).bind λo=>if o.1=0 then AW step n o.2 else some o
def Jj (s:St):ResultVar->Option TV
 | .tmp t=>match nth .vD s.tmps t with
  | .v g cs=>some (.v g cs)
  |_=>none
 | .cell a t=>match nth .vD s.tmps a,AQ P t,szT P t with
  | .v false [.ptr key off],some g,some sz=>match Aa s.aB key with
   |some b=>Bb g sz b.cells off
   |none=>none
  |_,_,_=>none
def Ea (s:St):List ResultVar->Option (List (Bool×List AC))
 |[]=>some []
 |r::l=>match Jj P s r with
  |some (.v g cs)=>match Ea s l with
   |some ps=>some ((g,cs)::ps)
   |none=>none
  |_=>none
def Cy:List TypeId->List (Bool×List AC)->List (Bool×List AC)
 | t :: A, (g, cs) :: l => (g, match Cg P 8 t with
  |some ks=>Bc ks cs
  |none=>cs)::Cy A l
 |_,l=>l
def D8:List (Bool×List AC)->TV
 |[(g,cs)]=> .v g cs
 |ps=> .tup ps
def IC:List TV->Bool
 | .v false [.own id _ _]::_=>Nat.beq id base
 |_=>false
def E_ (G:Func) (A:List Nat) (s:St) (K:TV->Mem->Option R):Option R:=
 match Ea P s G.results.toList with
 |none=>none
 |some ps=>(bif C.ownRes then λK=>K s else C6 (cat (λp:Bool×List AC=>cat AC.ids p.2) ps) s) λs1=>CG P C s1 λs1=>
  match Ea P s1 G.results.toList with
  |none=>none
  |some ps=>match s1 with
   |⟨tm,aB,aC⟩=>
    bif !C.keepIn||IC tm then
    Al (Cy P G.resultTypes.toList ps) λps=>
    Al (Ef aB 4 (As (cat (λp:Bool×List AC=>cat AC.keys p.2) ps) A)) λkeys=>
    Al (EO aB (cat (λp:Bool×List AC=>p.2) ps) keys) λids=>
    Al (aB.filter λp=>Am keys p.1) λD=>
    Al (aC.filter λp=>Am ids p.1||Bg p.1) λE=>
    bif Ab (λp:Bool×List AC=>Ab (AC.inK keys ids) p.2) ps&&Ab (λp:Nat×Box=>Ab (AC.inK keys ids) p.2.cells) D&&Ab (B7 aB) A&&Ab (Am keys) A then K (D8 ps) ⟨D,E⟩else none else none
def Dy (L:Nat) (f:FuncId) (args:List TV) (mem:Mem) (K:TV->Mem->Option R):Option R:=
 match P.funcs.toList[f]? with
 |some A=>match A.body with
  |some c=>bif Ab (λp:Nat×Box=>Bg p.1) mem.aB then
    Al (args++List.replicate (A.ntmps-args.length) TV.vD) λtmps=>
     Ax P C L c 0 ⟨tmps,mem.aB,mem.aC⟩ λe s=>match e with
      | .normal=>E_ P C A (mem.aB.map (·.1)) s K
      | .ret=>E_ P C A (mem.aB.map (·.1)) s K
      | .exit _=>none
   else none
  |none=>none
 |none=>none
def At:Code->Nat->List (Nat×Code)
 | .seq a b,blk=>At a blk++At b blk
 | .cond _ a b,blk=>At a blk++At b blk
 | .block _ b,blk=>At b blk
 | .loop b,blk=>(Hc b,b)::At b blk
 | .scope b,blk=>At b blk
 |_,_=>[]
def AM:Code->List (Nat×Code)
 | .seq a b=>AM a++AM b
 | .cond _ a b=>AM a++AM b
 | .block id b=>(id,b)::AM b
 | .loop b=>AM b
 | .scope b=>AM b
 |_=>[]
def Az:Code->Nat->List (Nat×Nat×Code×Code)
 | .seq a b,blk=>Az a blk++Az b blk
 | .cond (.tmp t) a b,blk=>(t,0,a,b)::(Az a blk++Az b blk)
 | .cond _ a b,blk=>Az a blk++Az b blk
 | .block _ b,blk=>Az b blk
 | .loop b,blk=>Az b blk
 | .scope b,blk=>Az b blk
 |_,_=>[]
def CT (f:FuncId):Option Code:=
 match P.funcs.toList[f]? with
 |some A=>A.body
 |none=>none
def Dm (f:FuncId):List (Nat×Code):=match CT P f with
 |some c=>At c 0
 |none=>[]
def Fm (f:FuncId):List (Nat×Code):=match CT P f with
 |some c=>AM c
 |none=>[]
def Hs (f:FuncId):List (Nat×Nat×Code×Code):=match CT P f with
 |some c=>Az c 0
 |none=>[]
def Bh (L:Nat) (f:FuncId) (sig A:Sk) (vars:List AC):Option (List AC):=match Ag sig vars with
 |⟨args,aB,aC⟩=>Dy P C L f args ⟨aB,aC⟩ λv m=>match m with
  |⟨b,r⟩=>AN A ⟨[v],b,r⟩
end prog
def Aj (sig A:Sk) (m:List AC->Option (List AC)):Spec:=λR args mem K=>match mem with
 | ⟨aB, aC⟩ => bif Ab (λp : Nat × Box => Bg p.1) aB then (match AN sig ⟨args, aB, aC⟩ with
  |some vars=>(m vars).bind λo=>match Ag A o with
   |⟨tm,b,r⟩=>match tm with
    |[v]=>K v ⟨b,r⟩
    |_=>none
  |none=>none)else none
def Ck (P:Program) (f blk:Nat):Code:=match Aa (Dm P f) blk with
 |some c=>c
 |none=> .skip
def KZ (P:Program) (f id:Nat):Code:=match Aa (Fm P f) id with
 |some c=>c
 |none=> .skip
def Cfg.loop (C:Cfg) (blk:Nat) (sk:Sk) (A:List (Ex×Sk)) (m:List AC->Option (Nat×List AC)):Cfg:=
 {C with loops:=λb=>bif Nat.beq b blk then some (sk,gOf A m)else C.loops b}
open Go.RowKit
theorem FA {a b c d:Prop} (h:a\/b) (f:a->c) (g:b->d):c\/d:=by grind
mutual
def CP (im:Nat->Prop) (w:World):AC->Value->Prop
 | .int k n,x=>x= .int k n
 | .bool b,x=>x= .bool b
 | .raw v,x=>x=v/\v.oneCell'=true
 | .nilSl,x=>x= .slice none 0 0
 | .vC ks l,x=>∃A cap,x= .slice A l.length cap/\l.length<=cap/\(∀c∈l,Ap ks c=c)/\(l=[]\/∃b o,A=some ⟨b,o,none⟩/\im b/\CPss im w ks.length l b o)
 | .vD,_=>False
 | .ptr _ _,_=>False
 | .own _ _ _,_=>False
 | .rptr _ _ _,_=>False
 | .vptr _ _,_=>False
 | .clo _ _ _,_=>False
 | .bsl _ _,_=>False
def CPs (im:Nat->Prop) (w:World):List AC->Nat->Nat->Prop
 |[],_,_=>True
 |c::cs,b,o=>(∃y,w.cell? ⟨b,o,none⟩=some y/\CP im w c y)/\CPs im w cs b (o+1)
def CPss (im:Nat->Prop) (w:World) (wd:Nat):List (List AC)->Nat->Nat->Prop
 |[],_,_=>True
 |c::cs,b,o=>(c.length=wd/\CPs im w c b o)/\CPss im w wd cs b (o+wd)
end
theorem Mc:∀(ks:List Kd) (cs:List AC) (j:Nat),(Bl ks cs j).length=ks.length
 |[],_,_=>rfl
 |_::ks,cs,j=>by simp[Bl,Mc ks cs (j+1)]
theorem GH (ks:List Kd) (cs:List AC):(Ap ks cs).length=ks.length:=Mc ks cs 0
theorem Gz {im:Nat->Prop} {w:World} {wd:Nat}:∀{l:List (List AC)} {b o:Nat},CPss im w wd l b o->∀i (A:i<l.length),(l[i]).length=wd/\CPs im w l[i] b (o+i*wd)
 |[],_,_,_,i,A=>by grind
 |c::l,b,o,h,0,_=>by simp_all [CPss]
 |c::l,b,o,h,i+1,A=>by
  rw[CPss]at h;have:=Gz h.2 i (by grind)
  grind
theorem Fs {im:Nat->Prop} {w:World} {wd:Nat}:∀{l:List (List AC)} {b o:Nat},(∀i (A:i<l.length),(l[i]).length=wd/\CPs im w l[i] b (o+i*wd))->CPss im w wd l b o
 |[],_,_,_=>by simp[CPss]
 |c::l,b,o,h=>by
  rw[CPss];refine⟨by have:=h 0 (by simp);grind,Fs λi A=> ?_⟩;have:=h (i+1) (by grind)
  grind
def A_ (w:World) (e:TypeId) (size:Nat) (v:Value) (n:Nat) (xs:List Value):Prop:=
 xs.length = n * size /\ ((v = .slice none 0 0 /\ n = 0) \/
  ∃g o cap cur,v= .slice (some ⟨g,o,none⟩) n cap/\w.heap[g]? =some (.cells cur e (0,0))/\n<=cap/\cap<=maxLen/\o+cap*size<=cur.size/\(cur.toList.drop o).take (n*size)=xs)
theorem Gf (w:World) (e:TypeId) (size:Nat):A_ w e size (.slice none 0 0) 0 []:=⟨by simp, .inl ⟨rfl,rfl⟩⟩
theorem NK {w:World} {base:Nat} {e:TypeId} {size:Nat} {v:Value} {n:Nat} {xs:List Value} (h:w.ownsRow base e size v n xs):A_ w e size v n xs:=by
 refine⟨h.1,?_⟩;rcases h.2 with h|⟨g,cap,cur,h1,_,h2,h3,A,D,E⟩
 ·grind
 grind
theorem GP {w:World} {e:TypeId} {size:Nat} {v:Value} {n:Nat} {xs:List Value} (h:A_ w e size v n xs):∀k,v.ownBlock=some k->k<w.heap.size:=by
 intro k A;rcases h.2 with⟨rfl,_⟩|⟨g,o,cap,cur,rfl,D,_⟩
 ·grind [Value.ownBlock]
 grind [Value.ownBlock]
theorem De {w w':World} {e:TypeId} {size n:Nat} {v:Value} {xs:List Value} (h:A_ w e size v n xs) (hb:∀g,v.ownBlock=some g->w'.heap[g]? =w.heap[g]?):A_ w' e size v n xs:=by
 refine⟨h.1,?_⟩;rcases h.2 with A|⟨g,o,cap,cur,rfl,h2,h3⟩
 ·grind
 ·exact .inr ⟨g,o,cap,cur,rfl,by rw[hb g rfl];exact h2,h3⟩
def Cx:Value->Nat
 | .slice (some a) _ _=>a.off
 |_=>0
theorem EQ {w:World} {e:TypeId} {size:Nat} {v:Value} {n:Nat} {xs:List Value} (h:A_ w e size v n xs) {g:Nat} (A:v.ownBlock=some g):∀j u,xs[j]? =some u->w.cell? ⟨g,Cx v+j,none⟩=some u:=by
 intro j u D;rcases h.2 with⟨rfl,rfl⟩|⟨E,o,cap,cur,rfl,h2,h3,G,J,L⟩
 ·grind [Value.ownBlock]
 grind [Value.ownBlock,World.cell?,Cx]
structure Env where
 bx:Nat->Nat
 rv:Nat->Value
 wd:Nat->Nat
 im:Nat->Prop
def CCc (ρ:Env) (w:World):AC->Value->Prop
 | .ptr key off,x=>x= .pointer (some ⟨ρ.bx key,off,none⟩)
 |a,x=>CP ρ.im w a x
def CLc (ρ:Env) (w:World):List AC->List Value->Prop
 |[],[]=>True
 |a::l,x::xs=>CCc ρ w a x/\CLc ρ w l xs
 |_,_=>False
def CC (ρ:Env) (w:World):AC->Value->Prop
 | .vD,x=>x.oneCell'=true
 | .ptr key off,x=>x= .pointer (some ⟨ρ.bx key,off,none⟩)
 | .own id wd n,x=>x=ρ.rv id/\ρ.wd id=wd/\((x= .slice none 0 0/\n=0)\/∃g o c,x= .slice (some ⟨g,o,none⟩) n c)
 | .rptr id idx sub,x=>∃g,(ρ.rv id).ownBlock=some g/\x= .pointer (some ⟨g,Cx (ρ.rv id)+(idx*ρ.wd id+sub),none⟩)
 | .vptr cs sub,x=>∃b o,x= .pointer (some ⟨b,o+sub,none⟩)/\ρ.im b/\CPs ρ.im w cs b o
 | .clo f fs cs,x=>∃xs A:Array Value,x= .func (.func f) xs A/\CLc ρ w fs xs.toList/\CLc ρ w cs A.toList
 | .bsl key n,x=>x= .slice (some ⟨ρ.bx key,0,none⟩) n n
 |a,x=>CP ρ.im w a x
def CL (R:AC->Value->Prop):List AC->List Value->Prop
 |[],[]=>True
 |a::l,x::xs=>R a x/\CL R l xs
 |_,_=>False
def TP (ρ:Env) (w:World):List (Bool×List AC)->List Value->Prop
 |[],[]=>True
 | (g, cs) :: l, x :: xs => (match g with
   |true=>∃A:Array Value,x= .agg A/\CL (CC ρ w) cs A.toList
   |false=>∃a,cs=[a]/\CC ρ w a x)/\TP ρ w l xs
 |_,_=>False
def TVR (ρ:Env) (w:World):TV->Value->Prop
 | .vD,_=>True
 | .v true cs,x=>∃A:Array Value,x= .agg A/\CL (CC ρ w) cs A.toList
 | .v false cs,x=>∃a,cs=[a]/\CC ρ w a x
 | .tup ps,x=>∃A:Array Value,x= .tuple A/\TP ρ w ps A.toList
theorem CL.length {R:AC->Value->Prop}:∀{l:List AC} {xs:List Value},CL R l xs->l.length=xs.length
 |[],[],_=>rfl
 |_::l,_::xs,h=>by simp[CL.length h.2]
 |[],_::_,h=>h.elim
 |_::_,[],h=>h.elim
theorem CL.mono {R R':AC->Value->Prop}:∀{l:List AC} {xs:List Value},(∀a∈l,∀x,R a x->R' a x)->CL R l xs->CL R' l xs
 |[],[],_,_=>trivial
 |a::l,x::xs,h,A=>⟨h a (by simp) x A.1,CL.mono (λb hb=>h b (by grind)) A.2⟩
 |[],_::_,_,h=>h.elim
 |_::_,[],_,h=>h.elim
theorem CL.get {R:AC->Value->Prop}:∀{l:List AC} {xs:List Value} {i:Nat} {a:AC},CL R l xs->l[i]? =some a->∃x,xs[i]? =some x/\R a x
 |[],[],i,_,_,h=>by grind
 |a::l,x::xs,0,b,A,h=>by simp at h;subst h;exact⟨x,rfl,A.1⟩
 |a::l,x::xs,i+1,b,A,h=>by simpa using CL.get A.2 (by grind)
 |[],_::_,_,_,h,_=>h.elim
 |_::_,[],_,_,h,_=>h.elim
theorem CL.drop {R:AC->Value->Prop}:∀(n:Nat) {l:List AC} {xs:List Value},CL R l xs->CL R (l.drop n) (xs.drop n)
 |0,_,_,h=>h
 |_+1,[],[],_=>trivial
 |n+1,_::_,_::_,h=>CL.drop n h.2
 |_+1,[],_::_,h=>h.elim
 |_+1,_::_,[],h=>h.elim
theorem CL.take {R:AC->Value->Prop}:∀(n:Nat) {l:List AC} {xs:List Value},CL R l xs->CL R (l.take n) (xs.take n)
 |0,_,_,_=>by simp[CL]
 |_+1,[],[],_=>trivial
 |n+1,_::_,_::_,h=>⟨h.1,CL.take n h.2⟩
 |_+1,[],_::_,h=>h.elim
 |_+1,_::_,[],h=>h.elim
theorem CL.cut {R:AC->Value->Prop} {l:List AC} {xs:List Value} (o m:Nat) (h:CL R l xs):CL R (cut l o m) (cut xs o m):=CL.take m (CL.drop o h)
theorem CL.append {R:AC->Value->Prop}:∀{l D:List AC} {xs A:List Value},CL R l xs->CL R D A->CL R (l++D) (xs++A)
 |[],_,[],_,_,h=>h
 |_::_,_,_::_,_,h,h'=>⟨h.1,CL.append h.2 h'⟩
 |[],_,_::_,_,h,_=>h.elim
 |_::_,_,[],_,h,_=>h.elim
theorem CL.splice {R:AC->Value->Prop}:∀{l:List AC} {xs:List Value} (o:Nat) {A:List AC} {D:List Value},CL R l xs->CL R A D->CL R (splice l o A) (splice xs o D)
 |l,xs,o,[],[],h,_=>by grind [Bm.splice]
 |[],[],o,_::_,_::_,_,_=>by simp[Bm.splice,CL]
 |a::l,x::xs,0,v::A,y::D,h,h'=>by simp only[Bm.splice];exact⟨h'.1,CL.splice 0 h.2 h'.2⟩
 |a::l,x::xs,o+1,v::A,y::D,h,h'=>by simp only[Bm.splice];exact⟨h.1,CL.splice o h.2 h'⟩
 |[],_::_,_,_,_,h,_=>h.elim
 |_::_,[],_,_,_,h,_=>h.elim
 |_,_,_,[],_::_,_,h=>h.elim
 |_,_,_,_::_,[],_,h=>h.elim
mutual
theorem CP.mono {im A:Nat->Prop} {w w':World} (D:∀b,im b->A b) (hb:∀b,im b->w'.heap[b]? =w.heap[b]?):∀(a:AC) (x:Value),CP im w a x->CP A w' a x
 | .int k n,x,h=>by grind [CP]
 | .bool b,x,h=>by grind [CP]
 | .raw v,x,h=>by grind [CP]
 | .nilSl,x,h=>by grind [CP]
 | .vC ks l,x,h=>by
  rw[CP]at h⊢;obtain⟨G,cap,J,hle,L,E⟩:=h;refine⟨G,cap,J,hle,L,?_⟩;rcases E with E|⟨b,o,h1,h2,h3⟩
  ·grind
  ·exact .inr ⟨b,o,h1,D b h2,CPss.mono D hb _ l b o h2 h3⟩
 | .vD,x,h=>by grind [CP]
 | .ptr _ _,x,h=>by grind [CP]
 | .own _ _ _,x,h=>by grind [CP]
 | .rptr _ _ _,x,h=>by grind [CP]
 | .vptr _ _,x,h=>by grind [CP]
 | .clo _ _ _,x,h=>by grind [CP]
 | .bsl _ _,x,h=>by grind [CP]
theorem CPs.mono {im A:Nat->Prop} {w w':World} (E:∀b,im b->A b) (hb:∀b,im b->w'.heap[b]? =w.heap[b]?):∀(cs:List AC) (b o:Nat),im b->CPs im w cs b o->CPs A w' cs b o
 |[],_,_,_,_=>by simp[CPs]
 |c::cs,b,o,D,h=>by
  rw[CPs]at h⊢;obtain⟨⟨y,G,J⟩,L⟩:=h;exact⟨⟨y,(World.cell?_of_block (w:=w) (a:=⟨b,o,none⟩) (hb b D)).trans G,CP.mono E hb c y J⟩,CPs.mono E hb cs b _ D L⟩
theorem CPss.mono {im A:Nat->Prop} {w w':World} (E:∀b,im b->A b) (hb:∀b,im b->w'.heap[b]? =w.heap[b]?) (wd:Nat):∀(l:List (List AC)) (b o:Nat),im b->CPss im w wd l b o->CPss A w' wd l b o
 |[],_,_,_,_=>by simp[CPss]
 |c::cs,b,o,D,h=>by
  rw[CPss]at h⊢;exact⟨⟨h.1.1,CPs.mono E hb c b o D h.1.2⟩,CPss.mono E hb wd cs b _ D h.2⟩
end
def AC.agreeP (ρ A:Env):AC->Prop
 | .ptr key _=>A.bx key=ρ.bx key
 |_=>True
def AC.agree (ρ A:Env):AC->Prop
 | .ptr key _=>A.bx key=ρ.bx key
 | .bsl key _=>A.bx key=ρ.bx key
 | .own id _ _=>A.rv id=ρ.rv id/\A.wd id=ρ.wd id
 | .rptr id _ _=>A.rv id=ρ.rv id/\A.wd id=ρ.wd id
 | .clo _ fs cs=>(∀a∈fs,AC.agreeP ρ A a)/\∀a∈cs,AC.agreeP ρ A a
 |_=>True
theorem CLc.mono {ρ ρ':Env} {w w':World} (A:∀b,ρ.im b->ρ'.im b) (hb:∀b,ρ.im b->w'.heap[b]? =w.heap[b]?):∀(l:List AC) (xs:List Value),(∀a∈l,a.agreeP ρ ρ')->CLc ρ w l xs->CLc ρ' w' l xs
 |[],[],_,_=>trivial
 |a::l,x::xs,D,h=>by
  refine⟨?_,CLc.mono A hb l xs (λb hb=>D b (by grind)) h.2⟩;have E:=D a (by simp);have h1:=h.1;cases a<;>first
   |exact CP.mono A hb _ _ h1
   |grind [CCc,AC.agreeP]
 |[],_::_,_,h=>h.elim
 |_::_,[],_,h=>h.elim
theorem CC.mono {ρ ρ':Env} {w w':World} (A:∀b,ρ.im b->ρ'.im b) (hb:∀b,ρ.im b->w'.heap[b]? =w.heap[b]?) (a:AC) (x:Value) (D:a.agree ρ ρ') (h:CC ρ w a x):CC ρ' w' a x:=by
 cases a with
 |vD=>exact h
 |ptr key off=>grind [CC,AC.agree]
 |bsl key n=>grind [CC,AC.agree]
 |own id w n=>grind [CC,AC.agree]
 |rptr id idx sub=>grind [CC,AC.agree]
 |vptr cs sub=>grind [CC,CPs.mono]
 |clo f fs cs=>grind [CC,AC.agree,CLc.mono]
 |int k n=>exact CP.mono A hb _ _ h
 |bool b=>exact CP.mono A hb _ _ h
 |raw v=>exact CP.mono A hb _ _ h
 |nilSl=>exact CP.mono A hb _ _ h
 |vC ks l=>exact CP.mono A hb _ _ h
theorem Db {ρ:Env} {w:World} {a:AC} {x:Value} (h:CP ρ.im w a x):CC ρ w a x:=by
 cases a<;>first|exact h|grind [CP]
theorem CP.one {im:Nat->Prop} {w:World} {a:AC} {x:Value} (h:CP im w a x):x.oneCell'=true:=by
 cases a<;>simp only[CP]at h
 case int=>subst h;rfl
 case bool=>subst h;rfl
 case raw=>grind
 case nilSl=>subst h;rfl
 case vC=>obtain⟨_,_,rfl,_⟩:=h;rfl
theorem CC.one {ρ:Env} {w:World} {a:AC} {x:Value} (h:CC ρ w a x):x.oneCell'=true:=by
 cases a with
 |vD=>exact h
 |ptr=>simp only[CC]at h;subst h;rfl
 |bsl=>simp only[CC]at h;subst h;rfl
 |own=>obtain⟨_,_,⟨rfl,_⟩|⟨_,_,_,rfl⟩⟩:=h<;>rfl
 |rptr=>obtain⟨_,_,rfl⟩:=h;rfl
 |vptr=>obtain⟨_,_,rfl,_⟩:=h;rfl
 |clo=>obtain⟨_,_,rfl,_⟩:=h;rfl
 |int=>exact CP.one h
 |bool=>exact CP.one h
 |raw=>exact CP.one h
 |nilSl=>exact CP.one h
 |vC=>exact CP.one h
theorem Af {α:Type} {p:α->Bool}:∀{l:List α},Ab p l=true↔∀x∈l,p x=true
 |[]=>by simp[Ab]
 |x::l=>by
  simp only[Ab,an,ct,<-Af (l:=l)];simp
theorem An {α R:Type}:∀(l:List α) (K:List α->Option R),Al l K=K l
 |[],_=>rfl
 |x::xs,K=>by rw[Al,An xs]
theorem Au {α:Type} (d:α):∀(l:List α) (n:Nat),nth d l n=l.getD n d
 |[],_=>by rfl
 |_::_,0=>by rfl
 |_::xs,n+1=>by simp only[nth,Au d xs n];simp
theorem CF {α:Type}:∀(l:List α) (n:Nat) (v:α),setL l n v=l.set n v
 |[],_,_=>by rfl
 |_::_,0,_=>by rfl
 |x::xs,n+1,v=>by simp[setL,CF xs n v]
section tables
variable {α:Type}
theorem Bn:∀(l:List (Nat×α)) (k:Nat) (x y:α),Aa l k=some y->Aa (upd l k x) k=some x
 |[],_,_,_,h=>by grind [Aa]
 |(k',b)::l,k,x,y,h=>by
  simp only[Aa,upd]at*;cases A:Nat.beq k' k
  ·simp only[A,aj,Aa]at*;exact Bn l k x y h
  grind [Aa]
theorem AY:∀(l:List (Nat×α)) (k j:Nat) (x:α),j≠k->Aa (upd l k x) j=Aa l j
 |[],_,_,_,_=>rfl
 |(k',b)::l,k,j,x,h=>by
  simp only[Aa,upd];cases A:Nat.beq k' k
  ·simp only[aj,Aa,AY l k j x h]
  grind [Nat.eq_of_beq_eq_true,Aa]
theorem Bs:∀(l:List (Nat×α)) (k:Nat) (x:α),Aa l k=none->Aa (ins l k x) k=some x
 |[],k,x,_=>by simp[Aa,ins]
 |(k',b)::l,k,x,h=>by
  simp only[Aa,ins]at*;cases A:Nat.beq k' k
  ·simp only[A,aj]at h;cases hb:Nat.blt k k'
   ·simp only[aj,Aa,A];exact Bs l k x h
   ·simp[Aa]
  grind
theorem Bd:∀(l:List (Nat×α)) (k j:Nat) (x:α),j≠k->Aa (ins l k x) j=Aa l j
 |[],k,j,x,h=>by grind [Nat.eq_of_beq_eq_true,Aa,ins]
 |(k',b)::l,k,j,x,h=>by
  have A:Nat.beq k j=false:=by
   cases hb:Nat.beq k j
   ·rfl
   ·simp_all
  simp only[Aa,ins];cases hb:Nat.blt k k'
  ·simp only[aj,Aa,Bd l k j x h]
  grind [Aa]
theorem FG:∀(l:List (Nat×α)) (k:Nat),Aa (del k l) k=none
 |[],k=>by rfl
 |(k',b)::l,k=>by
  simp only[del];cases A:Nat.beq k' k
  ·simp only[aj,Aa,A,FG l k]
  ·simp only[ac];exact FG l k
theorem DQ:∀(l:List (Nat×α)) (k j:Nat),j≠k->Aa (del k l) j=Aa l j
 |[],_,_,_=>by rfl
 |(k',b)::l,k,j,h=>by
  simp only[del];cases D:Nat.beq k' k
  ·simp only[aj,Aa,DQ l k j h]
  ·have e:=ab D;subst e;have A:Nat.beq k' j=false:=by
    cases hb:Nat.beq k' j
    ·rfl
    ·simp_all
   simp only[ac,Aa,A,aj];exact DQ l k' j h
theorem Er {l:List (Nat×α)} {k j:Nat} {x:α} (h:Aa (del k l) j=some x):j≠k/\Aa l j=some x:=by grind [FG,DQ]
end tables
open Go.RowKit
section
variable {P:Program} {C:Cfg} {ρ:Env} {w:World} {R:Type}
theorem RR {x:Value} (h:x.oneCell'=true):x.cells= #[x]:=by
 cases x<;>first|rfl|grind [Value.oneCell']
theorem Nf (v:Value) (h:v.oneCell'=true):CC ρ w (EJ v) v:=by
 unfold EJ
 grind [CC,CP]
theorem GR:∀(l:List Value) {cs:List AC},Df l=some cs->CL (CC ρ w) cs l
 |[],cs,h=>by simp[Df]at h;subst h;trivial
 |v::l,cs,h=>by
  simp only[Df]at h;cases A:v.oneCell'
  ·grind
  ·simp only[A,ac]at h;split at h
   ·rename_i D E;simp at h;subst h;exact⟨Nf v A,GR l E⟩
   grind
theorem TD (v:Value):TVR ρ w (ofValue v) v:=by
 unfold ofValue;split
 ·rename_i cs;split
  ·rename_i l A;exact⟨cs,rfl,GR _ A⟩
  ·trivial
 ·trivial
 ·rename_i h1 h2;exact⟨_,rfl,Nf v (by cases v<;>first|rfl|grind)⟩
theorem TVR.cells {t:TV} {x:Value} {cs:List AC} (h:TVR ρ w t x) (A:t.cells=some cs):CL (CC ρ w) cs x.cells.toList:=by
 cases t with
 |vD=>grind [TV.cells]
 |tup ps=>grind [TV.cells]
 |v g l=>
  simp[TV.cells]at A;subst A;cases g
  ·obtain⟨a,rfl,D⟩:=h;rw[RR D.one];exact⟨D,trivial⟩
  ·obtain⟨G,rfl,E⟩:=h;exact E
theorem TVR.c {a:AC} {x:Value} (h:TVR ρ w (.c a) x):CC ρ w a x:=by
 obtain⟨b,hb,A⟩:=h
 grind
theorem TVR.c' {a:AC} {x:Value} (h:CC ρ w a x):TVR ρ w (.c a) x:=⟨a,rfl,h⟩
theorem TVR.int {k:IntKind} {n:Int} {x:Value} (h:TVR ρ w (.c (.int k n)) x):x= .int k n:=by grind [h.c,CC,CP]
theorem TVR.bool {b:Bool} {x:Value} (h:TVR ρ w (.c (.bool b)) x):x= .bool b:=by grind [h.c,CC,CP]
theorem TVR.mkInt (k:IntKind) (n:Int):TVR ρ w (.c (.int k n)) (.int k n):=TVR.c' (by rfl)
theorem TVR.mkBool (b:Bool):TVR ρ w (.c (.bool b)) (.bool b):=TVR.c' (by rfl)
theorem TVR.agg {cs:List AC} {x:Value} (h:TVR ρ w (.agg cs) x):∃A:Array Value,x= .agg A/\CL (CC ρ w) cs A.toList:=h
def RowC (im:Nat->Prop) (w:World) (ks:List Kd) (l:List (List AC)) (xs:List Value):Prop:=
 xs.length=l.length*ks.length/\(∀c∈l,Ap ks c=c)/\∀i c,l[i]? =some c->CL (CP im w) c (cut xs (i*ks.length) ks.length)
theorem Fb {k k':IntKind} (h:kEq k k'=true):k=k':=by cases k<;>cases k'<;>first|rfl|(simp[kEq]at h)
mutual
theorem Rh:∀{k k':Kd},Bz k k'=true->k=k'
 | .int k, .int k',h=>by grind [Bz,Fb]
 | .bool, .bool,_=>rfl
 | .sl ks, .sl A,h=>by rw[Bz]at h;rw[Dd h]
 | .raw, .raw,_=>rfl
 | .int _, .bool,h=>by grind [Bz]
 | .int _, .sl _,h=>by grind [Bz]
 | .int _, .raw,h=>by grind [Bz]
 | .bool, .int _,h=>by grind [Bz]
 | .bool, .sl _,h=>by grind [Bz]
 | .bool, .raw,h=>by grind [Bz]
 | .sl _, .int _,h=>by grind [Bz]
 | .sl _, .bool,h=>by grind [Bz]
 | .sl _, .raw,h=>by grind [Bz]
 | .raw, .int _,h=>by grind [Bz]
 | .raw, .bool,h=>by grind [Bz]
 | .raw, .sl _,h=>by grind [Bz]
theorem Dd:∀{ks A:List Kd},AV ks A=true->ks=A
 |[],[],_=>rfl
 |k::ks,k'::A,h=>by
  rw[AV]at h;cases D:Bz k k'
  ·grind
  ·rw[D]at h;simp only[ac]at h;rw[Rh D,Dd h]
 |[],_::_,h=>by grind [AV]
 |_::_,[],h=>by grind [AV]
end
theorem Ml {im:Nat->Prop} (ks:List Kd):CP im w (.vC ks []) (.slice none 0 0):=by simp[CP]
theorem QC {k:Kd} {a E:AC} {x:Value} (h:Fk k a=some E) (A:CC ρ w a x):CP ρ.im w E x/\Cq k E=E:=by
 cases k<;>cases a<;>simp only[Fk]at h<;>try (simp at h;done)
 case int.int k k' n=>
  cases D:kEq k k'<;>rw[D]at h
  ·grind
  ·simp at h;subst h;rw[<-Fb D]at A;exact⟨A,rfl⟩
 case bool.bool b=>simp at h;subst h;exact⟨A,rfl⟩
 case sl.nilSl ks=>
  simp at h;subst h;simp only[CC,CP]at A;subst A;exact⟨Ml ks,rfl⟩
 case sl.vC ks G l=>
  cases D:AV ks G<;>rw[D]at h
  ·grind
  ·simp at h;subst h;rw[<-Dd D]at A;exact⟨A,rfl⟩
 case raw.raw v=>simp at h;subst h;exact⟨A,rfl⟩
 case raw.nilSl=>simp at h;subst h;simp only[CC,CP]at A;subst A;exact⟨⟨rfl,rfl⟩,rfl⟩
theorem TB {α:Type} (d:α) (x:α) (l:List α) (n:Nat):nth d (x::l) (n+1)=nth d l n:=rfl
theorem My (a:AC):∀(ks:List Kd) (cs:List AC) (j:Nat),Bl ks (a::cs) (j+1)=Bl ks cs j
 |[],_,_=>rfl
 |k::ks,cs,j=>by rw[Bl,Bl,TB,My a ks cs (j+1)]
theorem JB (k:Kd) (ks:List Kd) (a:AC) (cs:List AC):Ap (k::ks) (a::cs)=Cq k a::Ap ks cs:=by
 show Cq k a::Bl ks (a::cs) 1=_;rw[My];rfl
theorem Gd:∀{ks:List Kd} {cs A:List AC} {xs:List Value},B0 ks cs=some A->CL (CC ρ w) cs xs->CL (CP ρ.im w) A xs/\Ap ks A=A
 |[],[],A,xs,h,D=>by
  simp[B0]at h;subst h;cases xs with
  |nil=>exact⟨trivial,rfl⟩
  |cons=>exact D.elim
 |k::ks,a::cs,A,xs,h,D=>by
  simp only[B0]at h;split at h
  ·rename_i J E;split at h
   ·rename_i l G;simp at h;subst h;cases xs with
    |nil=>exact D.elim
    |cons x xs=>
     obtain⟨h1,h2⟩:=QC E D.1;obtain⟨h3,L⟩:=Gd G D.2;exact⟨⟨h1,h3⟩,by grind [JB]⟩
   grind
  grind
 |[],_::_,_,_,h,_=>by grind [B0]
 |_::_,[],_,_,h,_=>by grind [B0]
def Dz (P:Program) (ρ:Env) (w:World) (e:Operand->Value) (o:Oper):Prim->Prop
 | .val v=>∃x,(execOp e o).run P w= .ok (.value x) w/\TVR ρ w v x
 | .load g sz key off=>∃t,AQ P t=some g/\szT P t=some sz/\
   (execOp e o).run P w=((loadVar t ⟨ρ.bx key,off,none⟩).run P w).andThen λv w'=> .ok (.value v) w'
 | .rload g sz id idx sub=>∃t b,AQ P t=some g/\szT P t=some sz/\(ρ.rv id).ownBlock=some b/\
   (execOp e o).run P w=((loadVar t ⟨b,Cx (ρ.rv id)+(idx*ρ.wd id+sub),none⟩).run P w).andThen λv w'=> .ok (.value v) w'
 | .store key off cs=>∃t x,szT P t=some cs.length/\CL (CC ρ w) cs x.cells.toList/\
   (execOp e o).run P w=((storeVar t ⟨ρ.bx key,off,none⟩ x).run P w).andThen λ_ w'=> .ok .skip w'
 | .rstore id idx sub cs=>∃t x b,szT P t=some cs.length/\CL (CC ρ w) cs x.cells.toList/\(ρ.rv id).ownBlock=some b/\
   (execOp e o).run P w=((storeVar t ⟨b,Cx (ρ.rv id)+(idx*ρ.wd id+sub),none⟩ x).run P w).andThen λ_ w'=> .ok .skip w'
 | .new ty cs=>∃arr:Array Value,CL (CC ρ w) cs arr.toList/\(execOp e o).run P w= .ok (.value (.pointer (some ⟨w.heap.size,0,none⟩))) (w.alloc (.cells arr ty))
 | .cutR id a=>∀G n cap,ρ.rv id= .slice G n cap->n<=cap->a<=n->(execOp e o).run P w= .ok (.value (.slice (if cap=a then G else G.map (·.add (a*ρ.wd id))) (n-a) (cap-a))) w
 | .newS ty n cs=>∃arr:Array Value,CL (CC ρ w) cs arr.toList/\(execOp e o).run P w= .ok (.value (.slice (some ⟨w.heap.size,0,none⟩) n n)) (w.alloc (.cells arr ty))
 | .newRow A ks l=>∃arr:Array Value,0<ks.length/\l.length<=maxLen/\RowC ρ.im w ks l arr.toList/\
   (execOp e o).run P w= .ok (.value (.slice (some ⟨w.heap.size,0,none⟩) l.length l.length)) (w.alloc (.cells arr A))
 | .newView A ks l=>∃arr:Array Value,0<ks.length/\l.length<=maxLen/\RowC ρ.im w ks l arr.toList/\
   (execOp e o).run P w= .ok (.value (.slice (some ⟨w.heap.size,0,none⟩) l.length l.length)) (w.alloc (.cells arr A))
 | .make A ks bytes n z=>∃t i J L N,P.underlying t=some (.slice A)/\P.info? A=some i/\i.zero=some J/\i.size=ks.length/\i.bytes=bytes/\0<ks.length/\0<bytes/\Ap ks z=z/\CL (CP ρ.im w) z J.cells.toList/\
   (execOp e o).run P w=((Instr.makeSlice t (.int L n) (.int N n)).run P w).andThen λv w'=> .ok (.value v) w'
 | .append A ks bytes s x=>∃t ty i z D E,P.underlying t=some (.slice A)/\P.info? A=some i/\i.zero=some z/\i.size=ks.length/\i.bytes=bytes/\z.cells.size=ks.length/\CC ρ w s D/\CC ρ w x E/\
   (execOp e o).run P w=((Builtin.append_ #[t,t] ty #[D,E]).run P w).andThen λv w'=> .ok (.value v) w'
 | .appD A ks bytes s x=>∃t ty i z D E,P.underlying t=some (.slice A)/\P.info? A=some i/\i.zero=some z/\i.size=ks.length/\i.bytes=bytes/\z.cells.size=ks.length/\CC ρ w s D/\CC ρ w x E/\
   (execOp e o).run P w=((Builtin.append_ #[t,t] ty #[D,E]).run P w).andThen λv w'=> .ok (.value v) w'
 | .callM f args=>∃xs:List Value,xs.length=args.length/\(∀(i:Nat) (a:TV) (x:Value),args[i]? =some a->xs[i]? =some x->TVR ρ w a x)/\execOp e o=callFunc f xs.toArray
 | .callF f args=>∃xs:List Value,xs.length=args.length/\(∀(i:Nat) (a:TV) (x:Value),args[i]? =some a->xs[i]? =some x->TVR ρ w a x)/\execOp e o=callFunc f xs.toArray
 | .callD f args=>∃xs:List Value,xs.length=args.length/\(∀(i:Nat) (a:TV) (x:Value),args[i]? =some a->xs[i]? =some x->TVR ρ w a x)/\execOp e o=callFunc f xs.toArray
 | .call f args=>∃xs:List Value,xs.length=args.length/\(∀(i:Nat) (a:TV) (x:Value),args[i]? =some a->xs[i]? =some x->TVR ρ w a x)/\execOp e o=callFunc f xs.toArray
theorem RP {t:TypeId} {n:Nat} (h:szT P t=some n):∃i,P.info? t=some i/\i.size=n:=by grind [szT]
theorem A9 {t:TypeId} {n:Nat} (h:szT P t=some n) (w:World):(sizeOf t).run P w= .ok n w:=by
 obtain⟨i,A,rfl⟩:=RP h;simp[sizeOf,typeInfo,A]
theorem EX {t:TypeId} {g:Bool} (h:AQ P t=some g) (w:World):(isAgg t).run P w= .ok g w:=by
 unfold AQ at h;split at h
 ·simp_all [isAgg,run_underlying]
 ·simp_all [isAgg,run_underlying]
 ·simp_all [isAgg,run_underlying]
 grind
theorem GW {t:TypeId} {cs:List AC} (h:Dv P t=some cs):∃v,(∀w,(zeroValue t).run P w= .ok v w)/\CL (CC ρ w) cs v.cells.toList:=by
 unfold Dv at h;split at h
 ·rename_i i A;split at h
  ·simp_all [zeroValue,typeInfo,GR]
  grind
 grind
theorem Cj {im:Nat->Prop} {w:World} (k:IntKind) (n:Int):CP im w (.int k n) (.int k n):=by rfl
theorem JW {im:Nat->Prop} {w:World} (b:Bool):CP im w (.bool b) (.bool b):=by rfl
theorem QG (op:BinOp) (t:TypeId) (k:IntKind) (a b:Int) (K:AC->Option R) {r:R} (h:Cu op k a b K=some r):
  ∃c x,K c=some r/\CP ρ.im w c x/\(binOp op t (.int k a) (.int k b)).run P w= .ok x w:=by
 cases op<;>simp only[Cu]at h
 case quo=>
  cases hb:decide (b=0)
  ·rw[hb]at h;simp only[aj]at h;have A: ¬b=0:=by simpa using hb
   exact⟨_,_,h,Cj _ _,by simp[binOp_quo,Op.intDiv,A]⟩
  grind
 case rem=>
  cases hb:decide (b=0)
  ·rw[hb]at h;simp only[aj]at h;have A: ¬b=0:=by simpa using hb
   exact⟨_,_,h,Cj _ _,by simp[binOp_rem,Op.intDiv,A]⟩
  grind
 case shl=>
  cases hb:decide (b<0)
  ·rw[hb]at h;simp only[aj]at h;have A: ¬b<0:=by simpa using hb
   exact⟨_,_,h,Cj _ _,by simp[binOp_shl,Op.shift,A]⟩
  grind
 case shr=>
  cases hb:decide (b<0)
  ·rw[hb]at h;simp only[aj]at h;have A: ¬b<0:=by simpa using hb
   exact⟨_,_,h,Cj _ _,by simp[binOp_shr,Op.shift,A]⟩
  grind
 case and=>exact⟨_,_,h,Cj _ _,by rw[binOp_and];rfl⟩
 case or=>exact⟨_,_,h,Cj _ _,by rw[binOp_or];rfl⟩
 case xor=>exact⟨_,_,h,Cj _ _,by rw[binOp_xor];rfl⟩
 case andNot=>exact⟨_,_,h,Cj _ _,by rw[binOp_andNot];rfl⟩
 all_goals first|exact⟨_,_,h,Cj _ _,by simp[go_sem]⟩|exact⟨_,_,h,JW _,by simp[go_sem]⟩
theorem NX {op:BinOp} (D:EK op=true) (t:TypeId) (k k':IntKind) (a b:Int) (K:AC->Option R) {r:R} (h:Cu op k a b K=some r):
  ∃c x,K c=some r/\CP ρ.im w c x/\(binOp op t (.int k a) (.int k' b)).run P w= .ok x w/\op≠ .eql/\op≠ .neq:=by
 cases op<;>simp[EK]at D<;>simp only[Cu]at h
 case shl=>
  cases hb:decide (b<0)
  ·rw[hb]at h;simp only[aj]at h;have A: ¬b<0:=by simpa using hb
   exact⟨_,_,h,Cj _ _,by simp[binOp_shl,Op.shift,A],by simp,by simp⟩
  grind
 case shr=>
  cases hb:decide (b<0)
  ·rw[hb]at h;simp only[aj]at h;have A: ¬b<0:=by simpa using hb
   exact⟨_,_,h,Cj _ _,by simp[binOp_shr,Op.shift,A],by simp,by simp⟩
  grind
theorem CD {i:Int}:∀{n k:Nat} {K:Nat->Option R} {r:R},Cl i n k K=some r->∃j,K j=some r/\i=(j:Int)/\k<=j/\j<k+n
 |0,_,_,_,h=>by grind [Cl]
 |n+1,k,K,r,h=>by
  rw[Cl]at h;cases A:decide (i=(k:Int))
  ·rw[A]at h;simp only[aj]at h;obtain⟨j,h1,h2,h3,D⟩:=CD h
   grind
  grind
theorem J5 {g:Bool} {sz:Nat} {cells:List AC} {off:Nat} {v:TV} {xs:List Value} (h:Bb g sz cells off=some v) (A:CL (CC ρ w) cells xs):
  match g with
  |true=>off+sz<=xs.length/\TVR ρ w v (.agg (cut xs off sz).toArray)
  |false=>∃x,xs[off]? =some x/\TVR ρ w v x:=by
 cases g
 ·simp only[Bb,aj]at h;split at h
  ·rename_i a D;simp at h;subst h;obtain⟨x,E,G⟩:=A.get D
   grind [TVR.c']
  grind
 ·simp only[Bb,ac]at h;cases hb:Nat.ble (off+sz) cells.length
  ·grind
  ·rw[hb]at h;simp at h;subst h;exact⟨by simp_all [A.length],⟨_,rfl,by simpa using A.cut off sz⟩⟩
theorem LN {t:TypeId} {cs:List AC} {off:Nat} {v:TV} {A:Array Value} (h:EM P t cs off=some v) (G:CL (CC ρ w) cs A.toList):
  ∃x,(part t A off).run P w= .ok x w/\TVR ρ w v x:=by
 unfold EM at h;split at h
 ·rename_i g sz J L;have D:=J5 h G;cases g
  ·obtain⟨x,N,E⟩:=D;simp_all [part,EX]
  ·obtain⟨hle,E⟩:=D;refine⟨_,?_,E⟩;simp only[part,Sem.run_bind,EX J,be,cq,A9 L,Sem.run_pure];congr 2
   grind [cut]
 grind
end
open Go.RowKit
section
variable {P:Program} {ρ:Env} {w:World}
def BT (P:Program) (ρ:Env) (w:World) (t:TypeId) (cs:List AC) (x:Value):Prop:=
 match AQ P t with
 |some true=>∃A:Array Value,x= .agg A/\CL (CC ρ w) cs A.toList
 |some false=>∃a,cs=[a]/\CC ρ w a x
 |none=>False
theorem Gl {t:TypeId} {n:Nat} {cs:List AC} {off:Nat} {D:Array Value} (L:szT P t=some n) (Q:AQ P t≠none) (J:CL (CC ρ w) cs D.toList) (hle:off+n<=cs.length)
  (h1:AQ P t=some false->n=1):∃x,(part t D off).run P w= .ok x w/\BT P ρ w t (cut cs off n) x:=by
 cases A:AQ P t with
 |none=>grind
 |some g=>
  cases g
  ·have E:=h1 A;subst E;have G:off<cs.length:=by omega
   obtain⟨x,N,S⟩:=J.get (ah G);have O:D[off]? =some x:=by simpa using N
   refine⟨x,by simp_all [part,EX],?_⟩
   grind [BT,cut,List.drop_eq_getElem_cons]
  ·refine⟨.agg (D.extract off (off+n)),by simp[part,EX A,A9 L],?_⟩;unfold BT;rw[A];refine⟨_,rfl,?_⟩;have:=J.cut off n;simp_all [cut]
theorem LZ {ok:List TypeId} {d D:Nat} {xs ys:List AC} {X Y:Array Value}
  (ih:∀(t:TypeId) (as bs:List AC) (r:Bool) (A B:Value),eqC P ok d t as bs=some r->BT P ρ w t as A->BT P ρ w t bs B->(Op.equalIn D t A B).run P w= .ok r w)
  (hX:CL (CC ρ w) xs X.toList) (hY:CL (CC ρ w) ys Y.toList):∀(fs:List Field) (r:Bool),
  Di (λf : Field => bif f.name == "_" then none else match szT P f.type with
    |some n=>bif(Nat.ble (f.offset+n) xs.length&&Nat.ble (f.offset+n) ys.length&&CW P f.type n)then eqC P ok d f.type (cut xs f.offset n) (cut ys f.offset n)else none
    |none=>none) fs=some r->
  (Op.eqFields D X Y fs).run P w= .ok r w
 |[],r,h=>by simp_all [Di,Op.eqFields]
 |f::fs,r,h=>by
  simp only[Di]at h;split at h
  ·rename_i b hb;split at h
   ·rename_i b' hb';simp at h;subst h;have ht:=LZ ih hX hY fs b' hb';cases hnm:f.name== "_"
    ·rw[hnm]at hb;simp only[aj]at hb;split at hb
     ·rename_i n hn;cases hle:(Nat.ble (f.offset+n) xs.length&&Nat.ble (f.offset+n) ys.length&&CW P f.type n)
      ·grind
      ·rw[hle]at hb;simp only[ac]at hb;simp only[af]at hle;obtain⟨⟨h1,h2⟩,h3⟩:=hle;have h1':=al h1;have h2':=al h2;have hg:AQ P f.type≠none:=by intro e;simp[CW,e]at h3
       have ho:AQ P f.type=some false->n=1:=by intro e;simp[CW,e]at h3;exact h3
       obtain⟨A,hA,vA⟩:=Gl hn hg hX h1' ho;obtain⟨B,hB,vB⟩:=Gl hn hg hY h2' ho;have he:=ih f.type _ _ b A B hb vA vB;have hne:f.name≠ "_" :=by simpa using hnm
       simp only[Op.eqFields,hne,ne_eq,not_false_eq_true,cq,Sem.run_bind,hA,be,hB,he];cases b
       ·simp
       grind
     grind
    grind
   grind
  grind
theorem Lc {ok:List TypeId} {d D e m:Nat} {xs E:List AC} {X Y:Array Value}
  (N:∀(t:TypeId) (as bs:List AC) (r:Bool) (A B:Value),eqC P ok d t as bs=some r->BT P ρ w t as A->BT P ρ w t bs B->(Op.equalIn D t A B).run P w= .ok r w)
  (O:CL (CC ρ w) xs X.toList) (Q:CL (CC ρ w) E Y.toList) (G:szT P e=some m) (h3:CW P e m=true):∀(l:List Nat) (r:Bool),
  (∀i∈l,i*m+m<=xs.length/\i*m+m<=E.length)->
  Di (λi=>eqC P ok d e (cut xs (i*m) m) (cut E (i*m) m)) l=some r->
  ((forIn l ((none : Option Bool), PUnit.unit) λi _ => do
    let a<-part e X (i*m)
    let b<-part e Y (i*m)
    let q<-Op.equalIn D e a b
    if(!q)=true then pure (ForInStep.done (some false,PUnit.unit))else pure (ForInStep.yield (none,PUnit.unit)):Sem (Option Bool×PUnit))>>=λs=>match s.1 with
     |none=>pure true
     |some a=>pure a).run P w= .ok r w
 |[],r,_,h=>by simp_all [Di]
 |i::l,r,J,h=>by
  simp only[Di]at h;split at h
  ·rename_i b hb;split at h
   ·rename_i b' L;simp at h;subst h;have V:=Lc N O Q G h3 l b' (λj hj=>J j (by grind)) L;have S:AQ P e≠none:=by intro q;simp[CW,q]at h3
    have ho:AQ P e=some false->m=1:=by intro q;simp[CW,q]at h3;exact h3
    obtain⟨A,T,U⟩:=Gl G S O (J i (by simp)).1 ho;obtain⟨B,hB,vB⟩:=Gl G S Q (J i (by simp)).2 ho;have he:=N e _ _ b A B hb U vB;rw[List.forIn_cons];simp only[Sem.run_bind,T,be,hB,he];cases b
    ·simp
    simp_all
   grind
  grind
theorem LG {ok:List TypeId} (E:∀t∈ok,P.stoodInHeld t=false):∀(d D:Nat),d<=D->∀(t:TypeId) (as bs:List AC) (r:Bool) (A B:Value),
  eqC P ok d t as bs=some r->BT P ρ w t as A->BT P ρ w t bs B->(Op.equalIn D t A B).run P w= .ok r w
 |0,_,_,t,as,bs,r,A,B,h,_,_=>by grind [eqC]
 |d+1,0,hd,_,_,_,_,_,_,_,_,_=>by omega
 |d+1,D+1,hd,t,as,bs,r,A,B,h,J,vB=>by
  have U:=LG E d D (by omega);simp only[eqC]at h;split at h
  ·grind [AQ,BT,CC,CP,run_equalIn_bool']
  ·grind [AQ,BT,Fb,CC,CP,run_equalIn_int]
  ·rename_i fs G;have L:AQ P t=some true:=by simp[AQ,G]
   simp only[BT,L]at J vB;obtain⟨X,rfl,N⟩:=J;obtain⟨Y,rfl,O⟩:=vB;cases Q:ok.elem t
   ·grind
   ·rw[Q]at h;simp only[ac]at h;have S:P.fieldsOf t=fs:=by simp[Program.fieldsOf,G]
    rw[run_equalIn_struct w D t X Y (by grind) (E t (by grind)),S];exact LZ U N O fs.toList r h
  ·rename_i n e G;have L:AQ P t=some true:=by simp[AQ,G]
   simp only[BT,L]at J vB;obtain⟨X,rfl,N⟩:=J;obtain⟨Y,rfl,O⟩:=vB;split at h
   ·rename_i m V;cases hle:(Nat.ble (n*m) as.length&&Nat.ble (n*m) bs.length&&CW P e m)
    ·grind
    ·rw[hle]at h;simp only[ac]at h;simp only[af]at hle;obtain⟨⟨h1,h2⟩,h3⟩:=hle;have a0:=al h1;have a1:=al h2;have hr := Lc (P := P) (ρ := ρ) (w := w) (D := D) (X := X) (Y := Y) U N O V h3 (List.range n) r (λi hi => by
      have T:i<n:=by simpa using hi
      have:i*m+m<=n*m:=by
       calc i*m+m=(i+1)*m:=by grind
        _<=n*m:=ba _ T
      omega) h
     simp only[Op.equalIn,Sem.run_bind,run_underlying G,be,A9 V]
     grind [Std.Legacy.Range.forIn_eq_forIn_range',Std.Legacy.Range.size,List.range_eq_range',Sem.run_bind]
   grind
  grind
end
open Go.RowKit
section
variable {P:Program} {C:Cfg} {ρ:Env} {w:World} {R:Type}
theorem FV {D:Operand->TV} {e:Operand->Value} (A:∀x,TVR ρ w (D x) (e x)):∀(l:List Operand),(AG D l).length=(l.map e).length/\
  ∀(i:Nat) (a:TV) (x:Value),(AG D l)[i]? =some a->(l.map e)[i]? =some x->TVR ρ w a x
 |[]=>by simp[AG]
 |o::l=>⟨by simp[AG,(FV A l).1],λi a x h h'=>by
   cases i with
   |zero=>grind [AG]
   |succ i=>simp[AG]at h h';exact(FV A l).2 i a x (by omega) (by grind)⟩
theorem Jb {α:Type} (l:List α) (o:Nat):splice l o []=l:=by grind [splice]
theorem Eh {α:Type}:∀(l:List α) (o:Nat) (A:List α),(splice l o A).length=l.length
 |[],_,[]=>by rfl
 |[],_,_::_=>by rfl
 |_::_,_,[]=>by rfl
 |_::l,0,v::A=>by simp[splice,Eh l 0 A]
 |_::l,o+1,v::A=>by simp[splice,Eh l o (v::A)]
theorem KM {α:Type} (v:α) (A:List α):∀(l:List α) (o:Nat),o<l.length->splice (l.set o v) (o+1) A=splice l o (v::A)
 |[],o,h=>by grind
 |y::l,0,_=>by
  cases A with
  |nil=>grind [splice]
  |cons u D=>rfl
 |y::l,o+1,h=>by
  have E:=KM v A l o (by grind);cases A with
  |nil=>grind [splice]
  |cons u D=>grind [splice]
theorem MR (off:Nat):∀(A:List Value) (k:Nat) (xs:Array Value),off+k+A.length<=xs.size->
  ((A.zipIdx k).foldl (λcs (c,j)=>cs.setIfInBounds (off+j) c) xs).toList=splice xs.toList (off+k) A
 |[],k,xs,_=>by simp[Jb]
 |v::A,k,xs,h=>by
  simp only[List.zipIdx_cons,List.foldl_cons];rw[MR off A (k+1) _ (by grind),Array.toList_setIfInBounds,<-KM v A xs.toList (off+k) (by grind),dv]
theorem GJ {place:Nat->Option (Nat×Nat)} {O:Operand->TV} {e:Operand->Value} (A:∀x,TVR ρ w (O x) (e x)):∀(parts:List (Nat×Operand)) (z cs:List AC) (xs:Array Value),
  CL (CC ρ w) z xs.toList->Cb place z (BZ O parts)=some cs->
  ∃D:Array Value,Instr.fill place xs (parts.map λp=>(p.1,e p.2))=some D/\CL (CC ρ w) cs D.toList/\D.size=xs.size
 |[],z,cs,xs,G,h=>by simp[BZ,Cb]at h;subst h;exact⟨xs,rfl,G,rfl⟩
 |(i,o)::parts,z,cs,xs,G,h=>by
  simp only[BZ,Cb]at h;split at h
  ·rename_i off size l T Q;have E:=(A o).cells Q;cases hb:(Nat.beq l.length size&&Nat.ble (off+size) z.length)
   ·grind
   ·rw[hb]at h;simp only[ac]at h;simp only[af]at hb;have e1:l.length=size:=ab hb.1;have e2:=al hb.2;have e3:=E.length;have S:=G.length;have J:(e o).cells.size=size:=by rw[<-e1,e3];simp
    have U:off+(e o).cells.size<=xs.size:=by rw[J,<-bl,<-S];exact e2
    have L:=MR off (e o).cells.toList 0 xs (by omega);have N:((e o).cells.zipIdx.foldl (λcs (c,j)=>cs.setIfInBounds (off+j) c) xs).toList=splice xs.toList (off+0) (e o).cells.toList:=by
     rw[<-Array.foldl_toList,Array.toList_zipIdx];exact L
    obtain⟨D,h1,h2,h3⟩:=GJ A parts _ _ _ (by rw[N];exact G.splice _ E) h;refine⟨D,?_,h2,?_⟩
    ·simp_all [Instr.fill]
    grind [Eh]
  grind
theorem Tz {α β:Type} (g:α->β) (l:List α) (o m:Nat):cut (l.map g) o m=(cut l o m).map g:=by simp[cut]
theorem LI {ks:List Kd}:∀(n:Nat) (cs:List AC) (l:List (List AC)) (xs:List Value),Cw ks n cs=some l->CL (CC ρ w) cs xs->l.length=n/\xs.length=n*ks.length->RowC ρ.im w ks l xs
 |0,cs,l,xs,h,D,J=>by
  cases cs with
  |nil=>
   simp[Cw]at h;subst h;exact⟨by grind,by simp,λi c N=>by grind⟩
  |cons=>grind [Cw]
 |n+1,cs,l,xs,h,D,J=>by
  simp only[Cw]at h;split at h
  ·rename_i c E;split at h
   ·rename_i O G;simp at h;subst h;have h1:=Gd E (D.take ks.length);have Q:xs.length=n*ks.length+ks.length:=by rw[J.2,du,Nat.one_mul]
    have L:=LI n _ O (xs.drop ks.length) G (D.drop ks.length) ⟨by grind,by grind⟩;refine⟨by grind,?_,?_⟩
    ·intro c' A;simp only[an]at A;rcases A with rfl|A
     ·grind
     ·exact L.2.1 c' A
    ·intro i c' N;cases i with
     |zero=>grind [cut]
     |succ i=>
      have:=L.2.2 i c' (by grind);simp_all [cut,du,Nat.add_comm]
   grind
  grind
theorem LE {ks:List Kd}:∀(n:Nat) (cs:List AC) (l:List (List AC)),Cw ks n cs=some l->l.length=n
 |0,[],l,h=>by grind [Cw]
 |0,_::_,l,h=>by grind [Cw]
 |n+1,cs,l,h=>by
  simp only[Cw]at h;split at h
  ·split at h
   ·rename_i D A;simp at h;subst h;simp[LE n _ D A]
   grind
  grind
theorem Mb {z:List AC} {v:List Value} (A:CL (CC ρ w) z v):∀n,CL (CC ρ w) (chunk z n) ((List.replicate n v).flatten)
 |0=>trivial
 |n+1=>by rw[chunk,List.replicate_succ,List.flatten_cons];exact A.append (Mb A n)
theorem MM (v:List Value) (D:0<v.length):∀(n j:Nat),j<n*v.length->(List.replicate n v).flatten[j]? =v[j%v.length]?
 |0,j,h=>by omega
 |n+1,j,h=>by
  rw[List.replicate_succ,List.flatten_cons,cb];split
  ·grind [Nat.mod_eq_of_lt]
  ·rename_i E;have A:v.length<=j:=by omega
   rw[MM v D n (j-v.length) (by grind),Nat.mod_eq_sub_mod A]
def HT (e:Operand->Value):Option Operand->Option Int->Prop
 |none,none=>True
 |some x,some n=>∃k,e x= .int k n
 |_,_=>False
theorem Nx {D:Operand->TV} {e:Operand->Value} (E:∀x,TVR ρ w (D x) (e x)) {o:Option Operand} {i:Option Int} (h:DW D o=some i):
  HT e o i:=by
 cases o with
 |none=>simp[DW]at h;subst h;trivial
 |some x=>
  simp only[DW]at h;split at h
  ·rename_i n A;simp at h;subst h;have G:=E x
   revert A G
   generalize D x=t;intro A G;unfold TV.int? at A;split at A
   ·rename_i k m;simp at A;subst A;exact⟨k,G.int⟩
   grind
  grind
theorem FC {t:TV} {x:Value} {n:Int} (h:t.int? =some n) (A:TVR ρ w t x):∃k,x= .int k n:=by
 unfold TV.int? at h;split at h
 ·grind [A.int]
 grind
theorem F9 {e:Operand->Value} {o:Oper} {c:Call} {f:FuncId} (ho:o.op= .call c) (A:c.callee= .value (.func f)) (D:e (.func f)= .func (.func f) #[] #[]):
  execOp e o=callFunc f (c.args.toList.map e).toArray:=by
 unfold execOp;simp only[ho,resolve,A,D,Deferred.ofValue,pure_bind];simp only[invoke,Array.append_empty,Array.empty_append];rw[<-db]
theorem RQ {e:Operand->Value} {o:Oper} {c:Call} {f:FuncId} {t:Tmp} {xs A:Array Value} (ho:o.op= .call c) (D:c.callee= .value (.tmp t)) (E:e (.tmp t)= .func (.func f) xs A):
  execOp e o=callFunc f (xs.toList++(c.args.toList.map e++A.toList)).toArray:=by
 unfold execOp;simp only[ho,resolve,D,E,Deferred.ofValue,pure_bind];simp only[invoke];congr 1;simp
theorem Rj {e:Operand->Value} {o:Oper} {c:Call} {b:Builtin} (ho:o.op= .call c) (A:c.callee= .builtin b):
  ∃cs,execOp e o=builtin b c.argTypes o.type cs (c.args.map e):=by
 unfold execOp;simp only[ho,resolve,A];exact⟨_,rfl⟩
theorem In (D:Value->Value->Sem Value) (g:Int->Int->Int) (E:∀k a k' b w,(D (.int k a) (.int k' b)).run P w= .ok (.int k (g a b)) w) (k:IntKind):
  ∀(l:List TV) (xs:List Value) (a:Int) (A:Prim->Option R) (r:R),l.length=xs.length->(∀(i:Nat) (t:TV) (x:Value),l[i]? =some t->xs[i]? =some x->TVR ρ w t x)->BP g k a l A=some r->
  ∃n,A (.val (.c (.int k n)))=some r/\(xs.foldlM D (.int k a)).run P w= .ok (.int k n) w
 |[],[],a,A,r,_,_,h=>by simp_all [BP]
 |[],_::_,_,_,_,G,_,_=>by grind
 |_::_,[],_,_,_,G,_,_=>by grind
 |t::l,x::xs,a,A,r,G,J,h=>by
  unfold BP at h;split at h
  ·rename_i k' b;cases L:kEq k k'
   ·grind
   ·rw[L]at h;simp only[ac]at h;have N:x= .int k' b:=(J 0 _ x rfl rfl).int;subst N;obtain⟨n,h1,h2⟩:=In D g E k l xs (g a b) _ r (by grind) (λi t x h1 h2=>J (i+1) t x (by grind) (by grind)) h;simp_all
  grind
theorem Pw {b:Builtin} {L:List TypeId} {args:List TV} {xs:List Value} {ty:TypeId} {cs:Array Bool} {N:Prim->Option R} {r:R}
  (J:args.length=xs.length) (G:∀(i:Nat) (t:TV) (x:Value),args[i]? =some t->xs[i]? =some x->TVR ρ w t x)
  (h:DE P b L args N=some r) {e:Operand->Value} {o:Oper} (he:execOp e o=builtin b L.toArray ty cs xs.toArray):
  ∃p,N p=some r/\Dz P ρ w e o p:=by
 unfold DE at h;split at h
 ·rename_i ks l
  match xs,J with
  |[x],_=>
   have A:=(G 0 _ x rfl rfl).c;simp only[CC,CP]at A;obtain⟨Y,cap,rfl,_⟩:=A;split at h
   ·rename_i t D;split at h
    ·rename_i O E;refine⟨_,h, .int .i64 l.length,?_,TVR.mkInt _ _⟩;rw[he];simp[builtin,Builtin.len_,run_underlying E,goInt]
    grind
   grind
 ·rename_i id wd n
  match xs,J with
  |[x],_=>
   have A:=(G 0 _ x rfl rfl).c;obtain⟨_,_,A⟩:=A;split at h
   ·rename_i t D;split at h
    ·rename_i O E;refine⟨_,h, .int .i64 n,?_,TVR.mkInt _ _⟩;rw[he];rcases A with⟨rfl,rfl⟩|⟨g,o',c,rfl⟩
     ·simp[builtin,Builtin.len_,run_underlying E,goInt]
     ·simp[builtin,Builtin.len_,run_underlying E,goInt]
    grind
   grind
 ·rename_i key n
  match xs,J with
  |[x],_=>
   have A:=(G 0 _ x rfl rfl).c;simp only[CC]at A;subst A;split at h
   ·rename_i t D;split at h
    ·rename_i O E;refine⟨_,h, .int .i64 n,?_,TVR.mkInt _ _⟩;rw[he];simp[builtin,Builtin.len_,run_underlying E,goInt]
    grind
   grind
 ·match xs,J with
  |[x],_=>
   have A:=(G 0 _ x rfl rfl).c;simp only[CC,CP]at A;subst A;split at h
   ·rename_i t D;split at h
    ·rename_i O E;refine⟨_,h, .int .i64 0,?_,TVR.mkInt _ _⟩;rw[he];simp[builtin,Builtin.len_,run_underlying E,goInt]
    grind
   grind
 ·rename_i l
  match xs,J with
  |[x],_=>
   obtain⟨ys,rfl,_⟩:=(G 0 _ x rfl rfl).agg;split at h
   ·rename_i t D;split at h
    ·rename_i n O E;refine⟨_,h, .int .i64 n,?_,TVR.mkInt _ _⟩;rw[he];simp[builtin,Builtin.len_,run_underlying E,goInt]
    grind
   grind
 ·rename_i k a rest
  match xs,J with
  |x::xs,J=>
   have A:x= .int k a:=(G 0 _ x rfl rfl).int;subst A;obtain⟨n,h1,h2⟩:=In (P:=P) (ρ:=ρ) (w:=w) Builtin.min2 mn (λk a k' b w=>by rfl) k rest xs a N r (by grind) (λi t x h1 h2=>G (i+1) t x (by grind) (by grind)) h;refine⟨_,h1, .int k n,?_,TVR.mkInt _ _⟩;simp_all [builtin,Builtin.min_]
 ·rename_i k a rest
  match xs,J with
  |x::xs,J=>
   have A:x= .int k a:=(G 0 _ x rfl rfl).int;subst A;obtain⟨n,h1,h2⟩:=In (P:=P) (ρ:=ρ) (w:=w) Builtin.max2 mx (λk a k' b w=>by rfl) k rest xs a N r (by grind) (λi t x h1 h2=>G (i+1) t x (by grind) (by grind)) h;refine⟨_,h1, .int k n,?_,TVR.mkInt _ _⟩;simp_all [builtin,Builtin.max_]
 ·rename_i s x'
  match xs,J with
  |[x,y],_=>
   have A:=(G 0 _ x rfl rfl).c;have Q:=(G 1 _ y rfl rfl).c;split at h
   ·rename_i t u;split at h
    ·rename_i el S E T;split at h
     ·rename_i i ks U V;split at h
      ·rename_i z X;cases hb:(Nat.beq t u&&Nat.beq z.cells.size i.size&&Nat.beq ks.length i.size)<;>rw[hb]at h
       ·grind
       ·simp only[ac]at h;simp only[af]at hb;have e1:=ab hb.1.1;have e2:=ab hb.1.2;have e3:=ab hb.2;subst e1;refine⟨_,h,t,ty,i,z,x,y,E,U,X,e3.symm,rfl,by omega,A,Q,?_⟩;simp_all [builtin]
      grind
     grind
    grind
   grind
 grind
end
open Go.RowKit
section
variable {P:Program} {C:Cfg} {ρ:Env} {w:World} {R:Type}
theorem KW {α β:Type} (g:α->Sem β) (s:α->β):∀(l:List α) (w:World),(∀x∈l,(g x).run P w= .ok (s x) w)->(l.mapM g).run P w= .ok (l.map s) w
 |[],w,_=>by simp
 |x::l,w,h=>by
  rw[List.mapM_cons];simp only[Sem.run_bind,h x (by simp),be,KW g s l w (λy A=>h y (by grind)),Sem.run_pure,av]
theorem Ps {fs:Array Field} (h:Ab (Ej P) fs.toList=true) (w:World):
  (fs.mapM λf:Field=>(do let n<-sizeOf f.type;pure (f.offset,n):Sem (Nat×Nat))).run P w= .ok (fs.map λf=>(f.offset,(szT P f.type).getD 0)) w:=by
 rw[Array.mapM_eq_mapM_toList];have := KW (P := P) (λf : Field => (do let n <- sizeOf f.type; pure (f.offset, n) : Sem (Nat × Nat))) (λf => (f.offset, (szT P f.type).getD 0)) fs.toList w (λf D => by
  have A:=Af.1 h f D;unfold Ej at A;split at A
  ·simp_all [A9]
  grind)
 simp only[Sem.run_map,this,be];congr 1
 grind
theorem T8 {fs:Array Field} (h:Ab (Ej P) fs.toList=true):
  HF P fs.toList=λi:Nat=>(fs.map λf=>(f.offset,(szT P f.type).getD 0))[i]? :=by
 funext i
 rw[Array.getElem?_map,<-Array.getElem?_toList,HF];cases A:fs.toList[i]? with
 |none=>rfl
 |some f=>
  have D:=Af.1 h f (ay A);unfold Ej at D
  grind
def FU (w:World) (b o:Nat) (A:List Value):Prop:=∀(j:Nat) (y:Value),A[j]? =some y->w.cell? ⟨b,o+j,none⟩=some y
theorem Jg {im:Nat->Prop}:∀(cs:List AC) (b o:Nat),CPs im w cs b o->∃A,CL (CP im w) cs A/\FU w b o A
 |[],b,o,_=>⟨[],trivial,λj y h=>by grind⟩
 |c::cs,b,o,h=>by
  rw[CPs]at h;obtain⟨⟨y,G,D⟩,E⟩:=h;obtain⟨A,h1,h2⟩:=Jg cs b (o+1) E;refine⟨y::A,⟨D,h1⟩,λj z J=> ?_⟩;cases j with
  |zero=>grind
  |succ j=>have:=h2 j z (by grind);grind
theorem Hw {im:Nat->Prop}:∀(cs:List AC) (A:List Value) (b o:Nat),CL (CP im w) cs A->FU w b o A->CPs im w cs b o
 |[],[],b,o,_,_=>by simp[CPs]
 |c::cs,y::A,b,o,h,D=>by
  rw[CPs];exact⟨⟨y,D 0 y rfl,h.1⟩,Hw cs A b (o+1) h.2 λj z E=>by
   have:=D (j+1) z (by grind)
   grind⟩
 |[],_::_,_,_,h,_=>h.elim
 |_::_,[],_,_,h,_=>h.elim
theorem Hp {t:TypeId} {g:Bool} {sz:Nat} {cells:List AC} {sub b o:Nat} {v:TV} {A:List Value} (J:AQ P t=some g) (O:szT P t=some sz)
  (h:Bb g sz cells sub=some v) (L:CL (CC ρ w) cells A) (E:FU w b o A):
  ∃x,(loadVar t ⟨b,o+sub,none⟩).run P w= .ok x w/\TVR ρ w v x:=by
 have G:=J5 h L;cases g
 ·obtain⟨x,N,D⟩:=G;refine⟨x,?_,D⟩;simp[loadVar,EX J,E sub x N]
 ·obtain⟨hle,D⟩:=G;refine⟨_,?_,D⟩;have Q:(cut A sub sz).length=sz:=by simp[cut];omega
  have := run_loadCells_list (P := P) w ⟨b, o + sub, none⟩ (cut A sub sz) (λj y S => by
   rw[Addr.add_lit];rw[show o+sub+j=o+(sub+j)from by omega];refine E (sub+j) y ?_
   grind [cut])
  simp_all [loadVar,EX,A9]
theorem HK {e:Operand->Value} {o:Oper} {t:TypeId} {x:Operand} {lo N:Option Operand} {T:TypeId} {m n cap:Nat} {Q:Option Addr} {A E:Option Int} {l hh':Int}
  (ho:o.op= .slice t x lo N none) (hu:P.underlying t=some (.slice T)) (U:szT P T=some m) (hc:e x= .slice Q n cap) (V:n<=cap)
  (D:HT e lo A) (G:HT e N E)
  (J:A.getD 0=l) (O:E.getD (n:Int)=hh') (d1:0<=l) (d2:l<=hh') (d3:hh'<=(n:Int)):
  (execOp e o).run P w= .ok (.value (.slice (if cap=l.toNat then Q else Q.map (·.add (l.toNat*m))) (hh'.toNat-l.toNat) (cap-l.toNat))) w:=by
 simp only[execOp,ho,Instr.sliceAt,Sem.run_bind,run_underlying hu,be,hc,Option.map_none,Instr.slice,Instr.sliceBounds,Sem.run_pure,cq,Option.isSome_none,Bool.false_eq_true,if_false];have hH:∀y,N=some y->∃k,e y= .int k hh':=by
  rintro y rfl;cases E with
  |none=>exact G.elim
  |some q=>simp at O;subst O;exact G
 have X:∀y,lo=some y->∃k,e y= .int k l:=by
  rintro y rfl;cases A with
  |none=>exact D.elim
  |some q=>simp at J;subst J;exact D
 cases N with
 |none=>
  have L:E=none:=by cases E with
   |none=>rfl
   |some _=>exact G.elim
  subst L;simp at O;subst O;cases lo with
  |none=>
   have L:A=none:=by cases A with
    |none=>rfl
    |some _=>exact D.elim
   subst L;simp at J;subst J;simp[A9 U]
  |some y=>
   obtain⟨k,Y⟩:=X y rfl;simp_all [Instr.sliceBound,asIntOf,A9]
 |some z=>
  obtain⟨k',S⟩:=hH z rfl;have q1:0<=hh':=by omega
  have q2:hh'<=(cap:Int):=by omega
  cases lo with
  |none=>
   have L:A=none:=by cases A with
    |none=>rfl
    |some _=>exact D.elim
   subst L;simp at J;subst J;simp_all [Instr.sliceBound,asIntOf,A9]
  |some y=>
   obtain⟨k,Y⟩:=X y rfl;simp[A9 U,Y,S,Instr.sliceBound,asIntOf,d1,q1,q2];omega
theorem SQ {im:Nat->Prop} {ks:List Kd} {l:List (List AC)} {D:Option Addr} {cap a b:Nat} (N:a<=b) (hb:b<=l.length)
  (h:CP im w (.vC ks l) (.slice D l.length cap)):CP im w (.vC ks ((l.take b).drop a)) (.slice (if cap=a then D else D.map (·.add (a*ks.length))) (b-a) (cap-a)):=by
 rw[CP]at h⊢;obtain⟨O,J,he,hle,Q,L⟩:=h;simp only[Value.slice.injEq,true_and]at he;obtain⟨rfl,rfl⟩:=he;have hlen:((l.take b).drop a).length=b-a:=by simp;omega
 refine⟨_,_,by rw[hlen],by omega,λc S=>Q c (ca (bv S)),?_⟩;by_cases T:(l.take b).drop a=[]
 ·grind
 ·right;have A:0<((l.take b).drop a).length:=List.length_pos_iff.2 T;rw[hlen]at A;rcases L with L|⟨b',o,rfl,E,G⟩
  ·grind
  ·refine⟨b',o+a*ks.length,?_,E,Fs λi U=> ?_⟩
   ·rw[cd];simp[Addr.add_lit]
   ·rw[hlen]at U;have V:=Gz G (a+i) (by omega)
    grind
theorem I7:∀{A:List TV} {as:List AC},DB A=some as->∀{xs:List Value},A.length=xs.length->(∀(i:Nat) (v:TV) (x:Value),A[i]? =some v->xs[i]? =some x->TVR ρ w v x)->CLc ρ w as xs
 |[],as,h,xs,J,_=>by
  simp[DB]at h;subst h;cases xs with
  |nil=>trivial
  |cons=>grind
 |v::A,as,h,xs,J,G=>by
  cases xs with
  |nil=>grind
  |cons x xs=>
   have L:=G 0 v x rfl rfl;unfold DB at h;split at h
   ·grind
   ·rename_i a l heq;simp only[a9]at heq;obtain⟨rfl,rfl⟩:=heq;cases D:a.clOk<;>rw[D]at h
    ·grind
    ·simp only[ac]at h;split at h
     ·rename_i r E;simp at h;subst h;refine⟨?_,I7 E (by grind) λi v x h1 h2=>G (i+1) v x (by grind) (by grind)⟩;have N:=L.c;cases a<;>simp only[AC.clOk]at D<;>first|(simp at D;done)|exact N
     grind
   grind
theorem H2:∀{as:List AC} {xs:List Value},CLc ρ w as xs->(as.map TV.c).length=xs.length/\∀(i:Nat) (v:TV) (x:Value),(as.map TV.c)[i]? =some v->xs[i]? =some x->TVR ρ w v x
 |[],[],_=>by simp
 |a::as,x::xs,h=>by
  obtain⟨h1,h2⟩:=H2 h.2;refine⟨by grind,λi v y A D=> ?_⟩;cases i with
  |zero=>
   simp at A D;subst A;subst D;have:=h.1;cases a<;>first|exact TVR.c' this|(exact TVR.c' (Db this))|(simp[CCc,CP]at this)
  |succ i=>grind
 |[],_::_,h=>h.elim
 |_::_,[],h=>h.elim
theorem LU {a b:List TV} {xs A:List Value} (h1:a.length=xs.length/\∀(i:Nat) (v:TV) (x:Value),a[i]? =some v->xs[i]? =some x->TVR ρ w v x)
  (h2:b.length=A.length/\∀(i:Nat) (v:TV) (x:Value),b[i]? =some v->A[i]? =some x->TVR ρ w v x):
  (a++b).length=(xs++A).length/\∀(i:Nat) (v:TV) (x:Value),(a++b)[i]? =some v->(xs++A)[i]? =some x->TVR ρ w v x:=by grind
theorem JK (g0:∀t∈C.eqOk,P.stoodInHeld t=false) {ev:Operand->TV} {e:Operand->Value} (G:∀x,TVR ρ w (ev x) (e x))
  (e5:∀f,e (.func f)= .func (.func f) #[] #[]) (o:Oper) {Kp:Prim->Option R} {r:R} (h:opK P C ev o.dst o.op Kp=some r):
  ∃p,Kp p=some r/\Dz P ρ w e o p:=by
 obtain⟨dst,op,type,pos,after,guard⟩:=o;have hx:∀(e6:Op) (v:TV) (x:Value),op=e6->((execOp e ⟨dst,e6,type,pos,after,guard⟩).run P w= .ok (.value x) w)->TVR ρ w v x->Dz P ρ w e ⟨dst,op,type,pos,after,guard⟩ (.val v):=by
  rintro _ v x rfl h1 h2;exact⟨x,h1,h2⟩
 cases op<;>simp only[opK]at h<;>try (simp at h;done)
 case move x=>exact⟨_,h,e x,by rfl,G x⟩
 case assign x=>exact⟨_,h,e x,by rfl,G x⟩
 case pick c a b=>
  split at h
  ·rename_i g J;have b6:e c= .bool g:=by have:=G c;rw[J]at this;exact this.bool
   cases g
   ·simp only[aj]at h;exact⟨_,h,e b,by simp[execOp,b6,asBool],G b⟩
   ·simp only[ac]at h;exact⟨_,h,e a,by simp[execOp,b6,asBool],G a⟩
  grind
 case alloc t=>
  split at h
  ·rename_i cs hz;obtain⟨v,E,J⟩:=GW (ρ:=ρ) (w:=w) hz;refine⟨_,h,v.cells,J,?_⟩;simp[execOp,Instr.alloc,E,newVar,newRow]
  grind
 case box t x=>
  split at h
  ·rename_i cs J;exact⟨_,h,(e x).cells,(G x).cells J,by rfl⟩
  grind
 case build t parts=>
  split at h
  ·rename_i z fs hz L;obtain⟨v,E,J⟩:=GW (ρ:=ρ) (w:=w) hz;cases a7:(Ab (Ej P) fs.toList)<;>rw[a7]at h
   ·grind
   ·simp only[ac]at h;split at h
    ·rename_i cs hb;rw[T8 a7]at hb;obtain⟨O,h1,h2,_⟩:=GJ G _ _ _ _ J hb;refine⟨_,h, .agg O,?_,⟨O,rfl,h2⟩⟩;have g1:=Ps (P:=P) a7 w;simp only[execOp,Instr.build,Sem.run_bind,E,be,run_underlying L,g1,db];simp_all
    grind
  ·rename_i z n el hz L;obtain⟨v,E,J⟩:=GW (ρ:=ρ) (w:=w) hz;split at h
   ·rename_i m V;split at h
    ·rename_i cs hb;obtain⟨O,h1,h2,_⟩:=GJ G _ _ _ _ J hb;refine⟨_,h, .agg O,?_,⟨O,rfl,h2⟩⟩;simp only[execOp,Instr.build,Sem.run_bind,E,be,run_underlying L,A9 V,db];simp_all
    grind
   grind
  grind
 case buildSlice t n parts=>
  split at h
  ·rename_i el L;split at h
   ·rename_i m z ks V hz g2;obtain⟨v,E,J⟩:=GW (ρ:=ρ) (w:=w) hz;cases hb:(Nat.beq z.length m&&Nat.beq ks.length m&&Nat.ble 1 m&&Nat.ble (n*m) 65536)<;>rw[hb]at h
    ·grind
    ·simp only[ac]at h;simp only[af]at hb;have e1:=ab hb.1.1.1;have ek:=ab hb.1.1.2;have e2:=al hb.1.2;have e3:=al hb.2;split at h
     ·rename_i cs g3;have a3:∃O:Array Value,CL (CC ρ w) cs O.toList/\O.toList.length=n*m/\(execOp e ⟨dst, .buildSlice t n parts,type,pos,after,guard⟩).run P w= .ok (.value (.slice (some ⟨w.heap.size,0,none⟩) n n)) (w.alloc (.cells O el)):=by
       have e8:v.cells.toList.length=m:=by rw[<-J.length];exact e1
       have g4:((Array.range (n*m)).map λi=>(if n*m=0 then #[]else v.cells)[i%(if n*m=0 then(#[]:Array Value)else v.cells).size]!).toList=(List.replicate n v.cells.toList).flatten:=by
        by_cases hn:n*m=0
        ·grind [Nat.mul_eq_zero]
        ·simp only[hn,if_false];apply cg;intro j;by_cases hj:j<n*m
         ·rw[MM _ (by omega) n j (by grind),e8];have hs:v.cells.size=m:=by rw[<-e8];simp
          have a1:j%m<v.cells.size:=by rw[hs];exact Nat.mod_lt _ (by omega)
          grind
         simp_all
       have e9:=Mb J n;rw[<-g4]at e9;obtain⟨O,h1,h2,h3⟩:=GJ G _ _ _ _ e9 g3;have f0:O.toList.length=n*m:=by rw[bl,h3];simp
       refine⟨O,h2,f0,?_⟩;have b0: ¬(n*m>2^24):=by omega
       simp only[execOp,Instr.buildSlice,Sem.run_bind,run_underlying L,be,A9 V,b0,if_false,Sem.run_pure,db];by_cases hn:n*m=0
       ·simp_all [newRow]
       ·simp_all [newRow]
      obtain⟨O,h2,f0,a3⟩:=a3;split at h
      ·rename_i l g5;have d6:=LE _ _ _ g5;have key:∃arr:Array Value,0<ks.length/\l.length<=maxLen/\RowC ρ.im w ks l arr.toList/\
         (execOp e ⟨dst, .buildSlice t n parts,type,pos,after,guard⟩).run P w= .ok (.value (.slice (some ⟨w.heap.size,0,none⟩) l.length l.length)) (w.alloc (.cells arr el)):=by
        rw[d6];refine⟨O,by omega,?_,?_,a3⟩
        ·have:n<=n*m:=cx n (by omega)
         grind [maxLen]
        ·grind [LI]
       cases b6:HV C dst n<;>rw[b6]at h
       ·exact⟨_,h,key⟩
       ·exact⟨_,h,key⟩
      ·cases Q:(Ab AC.isClo cs&&Nat.beq m 1)<;>rw[Q]at h
       ·grind
       ·simp only[ac]at h;simp only[af]at Q;exact⟨_,h,O,h2,a3⟩
     grind
   grind
  grind
 case makeSlice t len cap=>
  split at h
  ·rename_i el n c L d6 b1;obtain⟨kl,g6⟩:=FC d6 (G len);obtain⟨kc,g7⟩:=FC b1 (G cap);split at h
   ·rename_i i z ks hi hz g2;split at h
    ·rename_i z' g8;cases hb:(Nat.beq ks.length i.size&&Nat.ble 1 i.size&&Nat.ble 1 i.bytes)<;>rw[hb]at h
     ·grind
     ·simp only[ac]at h;simp only[af]at hb;have e1:=ab hb.1.1;have e2:=al hb.1.2;have e3:=al hb.2;cases S:decide (n=c)<;>rw[S]at h
      ·grind
      ·simp only[ac]at h;have d7:n=c:=by simpa using S
       subst d7;unfold Dv at hz;rw[hi]at hz;dsimp only at hz;split at hz
       ·rename_i zv g9;have Q:CL (CC ρ w) z zv.cells.toList:=GR _ hz;obtain⟨f1,f2⟩:=Gd g8 Q;refine⟨_,h,t,i,zv,kl,kc,L,hi,g9,e1.symm,rfl,by omega,e3,f2,f1,?_⟩;simp[execOp,g6,g7]
       grind
    grind
   grind
  grind
 case makeFunc fn first captured=>
  split at h
  ·rename_i f;split at h
   ·rename_i fs cs c0 a2;have ha:=FV G first.toList;have hb:=FV G captured.toList;refine⟨_,h, .func (.func f) (first.map e) (captured.map e),by rfl,TVR.c' ⟨_,_,rfl,?_,?_⟩⟩
    ·grind [I7]
    grind [I7]
   grind
  grind
 case load t a=>
  split at h
  ·rename_i g sz hg hs;have ha:=G a;split at h
   ·rename_i key off A;rw[A]at ha;have E:=ha.c;simp only[CC]at E;refine⟨_,h,t,hg,hs,?_⟩;simp[execOp,Instr.loadAt,E,Instr.sureAddr]
   ·rename_i cells sub A;rw[A]at ha;obtain⟨b,o,E,c5,a2⟩:=ha.c;split at h
    ·rename_i v h0;obtain⟨O,a5,a6⟩:=Jg cells b o a2;obtain⟨x,h6,h7⟩:=Hp hg hs h0 (a5.mono λ_ _ _ hh=>Db hh) a6;refine⟨_,h,x,?_,h7⟩;simp[execOp,Instr.loadAt,E,Instr.sureAddr,h6]
    grind
   ·rename_i id idx sub A;rw[A]at ha;obtain⟨g',a4,E⟩:=ha.c;refine⟨_,h,t,g',hg,hs,a4,?_⟩;simp[execOp,Instr.loadAt,E,Instr.sureAddr]
   grind
  grind
 case store t a x=>
  split at h
  ·rename_i sz cs hs a2;cases hb:Nat.beq cs.length sz<;>rw[hb]at h
   ·grind
   ·simp only[ac]at h;have e1:=ab hb;subst e1;have ha:=G a;split at h
    ·rename_i key off A;rw[A]at ha;have E:=ha.c;simp only[CC]at E;refine⟨_,h,t,e x,hs,(G x).cells a2,?_⟩;simp[execOp,Instr.storeAt,E,Instr.sureAddr]
    ·rename_i id idx sub A;rw[A]at ha;obtain⟨g',a4,E⟩:=ha.c;refine⟨_,h,t,e x,g',hs,(G x).cells a2,a4,?_⟩;simp[execOp,Instr.storeAt,E,Instr.sureAddr]
    grind
  grind
 case nilCheck x=>
  have E:=G x;split at h
  ·rename_i key off A;rw[A]at E;have J:=E.c;simp only[CC]at J;exact⟨_,h,e x,by simp[execOp,J],E⟩
  ·rename_i id idx sub A;rw[A]at E;obtain⟨g',a4,J⟩:=E.c;exact⟨_,h,e x,by simp[execOp,J],E⟩
  ·rename_i cs sub A;rw[A]at E;obtain⟨b,o,J,_⟩:=E.c;exact⟨_,h,e x,by simp[execOp,J],E⟩
  grind
 case binOp f3 t x y yt=>
  have T:=G x;have U:=G y;split at h
  ·rename_i k a k' b hex a0;rw[hex]at T;rw[a0]at U;have e1:=T.int;have e2:=U.int;cases hk:kEq k k'<;>rw[hk]at h
   ·cases f4:EK f3<;>rw[f4]at h
    ·grind
    ·simp only[Bool.false_or,ac]at h;obtain⟨c,v,h1,h2,h3,h4,h5⟩:=NX (P:=P) (ρ:=ρ) (w:=w) f4 t k k' a b _ h;refine⟨_,h1,v,?_,TVR.c' (Db h2)⟩;simp[execOp,e1,e2,eqGuard_at_int,h3]
   ·simp only[Bool.true_or,ac]at h;have:=Fb hk;subst this;obtain⟨c,v,h1,h2,h3⟩:=QG (P:=P) (ρ:=ρ) (w:=w) f3 t k a b _ h;refine⟨_,h1,v,?_,TVR.c' (Db h2)⟩;simp[execOp,e1,e2,eqGuard_at_int,h3]
  ·rename_i a b hex a0;rw[hex]at T;rw[a0]at U;have e1:=T.bool;have e2:=U.bool;split at h
   ·rename_i L;refine⟨_,h, .bool (a==b),?_,TVR.mkBool _⟩;simp[execOp,e1,e2,eqGuard_at_bool,binOp,Op.equal,Op.maxDepth,run_equalIn_bool' w 9999 t a b L]
   ·rename_i L;refine⟨_,h, .bool (!(a==b)),?_,TVR.mkBool _⟩;simp[execOp,e1,e2,eqGuard_at_bool,binOp,Op.equal,Op.maxDepth,run_equalIn_bool' w 9999 t a b L]
   grind
  ·rename_i a b hex a0;rw[hex]at T;rw[a0]at U;have e1:=T.c;have e2:=U.c;simp only[CC,CP]at e1 e2;have e1:=e1.1;have e2:=e2.1;split at h
   ·refine⟨_,h, .bool (a.toList==b.toList),?_,TVR.mkBool _⟩;simp[execOp,e1,e2,eqGuard_at_string,binOp,Op.stringOp]
   ·refine⟨_,h, .bool (!(a.toList==b.toList)),?_,TVR.mkBool _⟩;simp[execOp,e1,e2,eqGuard_at_string,binOp,Op.stringOp]
   ·cases hle:Nat.ble (a.size+b.size) 9223372036854775807<;>rw[hle]at h
    ·cases h
    simp only[ac]at h;have hle:=al hle;refine⟨_,h, .string (a++b),?_,TVR.c' (Db ⟨rfl,rfl⟩)⟩;simp[execOp,e1,e2,eqGuard_at_string,binOp,Op.stringOp];omega
   grind
  ·rename_i key off hex a0;rw[hex]at T;rw[a0]at U;have e1:=T.c;have e2:=U.c;simp only[CC]at e1;simp only[CC,CP]at e2;have e2:=e2.1;split at h
   ·rename_i el L;have hp:P.underlying t=some (.pointer (P.pointee t)):=by simp[Program.pointee,L]
    refine⟨_,h, .bool false,?_,TVR.mkBool _⟩;simp[execOp,e1,e2,eqGuard_at_pointer,run_eql_pointer_nil w t _ hp]
   ·rename_i el L;have hp:P.underlying t=some (.pointer (P.pointee t)):=by simp[Program.pointee,L]
    refine⟨_,h, .bool true,?_,TVR.mkBool _⟩;simp[execOp,e1,e2,eqGuard_at_pointer,run_neq_pointer_nil w t _ hp]
   grind
  ·rename_i hex a0;rw[hex]at T;rw[a0]at U;have e1:=T.c;have e2:=U.c;simp only[CC,CP]at e1 e2;have e1:=e1.1;have e2:=e2.1;split at h
   ·rename_i el L;have hp:P.underlying t=some (.pointer (P.pointee t)):=by simp[Program.pointee,L]
    refine⟨_,h, .bool true,?_,TVR.mkBool _⟩;simp[execOp,e1,e2,eqGuard_at_pointer,run_eql_pointer_nil w t _ hp]
   ·rename_i el L;have hp:P.underlying t=some (.pointer (P.pointee t)):=by simp[Program.pointee,L]
    refine⟨_,h, .bool false,?_,TVR.mkBool _⟩;simp[execOp,e1,e2,eqGuard_at_pointer,run_neq_pointer_nil w t _ hp]
   grind
  ·rename_i xs O hex a0;rw[hex]at T;rw[a0]at U;obtain⟨X,e1,hX⟩:=T.agg;obtain⟨Y,e2,hY⟩:=U.agg;cases b0:P.eqGuardType P.depth t<;>rw[b0]at h
   ·simp only[aj]at h;have key:∀q,AQ P t=some true->eqC P C.eqOk 20 t xs O=some q->(Op.equalIn 10000 t (.agg X) (.agg Y)).run P w= .ok q w:=by
     intro q hg hq;exact LG g0 20 10000 (by omega) t xs O q _ _ hq (by simp only[BT,hg];exact⟨X,rfl,hX⟩) (by simp_all [BT])
    split at h
    ·rename_i q hg hq;refine⟨_,h, .bool q,?_,TVR.mkBool _⟩;simp[execOp,e1,e2,run_eqGuard_agg w .eql t x y X Y b0,run_eql_struct,key q hg hq]
    ·rename_i q hg hq;refine⟨_,h, .bool (!q),?_,TVR.mkBool _⟩;simp[execOp,e1,e2,run_eqGuard_agg w .neq t x y X Y b0,run_neq_struct,key q hg hq]
    grind
   grind
  grind
 case unOp i6 t x=>
  have E:=G x;split at h
  ·rename_i k n A;rw[A]at E;have e1:=E.int;exact⟨_,h, .int k (k.wrap (0-n)),by simp[execOp,e1,Op.unary,Op.intArith],TVR.mkInt _ _⟩
  ·rename_i b A;rw[A]at E;have e1:=E.bool;exact⟨_,h, .bool (!b),by simp[execOp,e1,Op.unary],TVR.mkBool _⟩
  grind
 case convert src c6 x=>
  have E:=G x;split at h
  ·rename_i d k k' n hs S A;rw[A]at E;have e1:=E.int;refine⟨_,h, .int k (k.wrap n),?_,TVR.mkInt _ _⟩;simp[execOp,e1,convert,run_underlying hs,run_underlying S,Conv.intToInt]
  ·rename_i ei l hs S A;split at h
   ·rename_i he;rw[A]at E;have J:=E.c;simp only[CC,CP]at J;obtain⟨D,cap,e1,hle,d0,hf⟩:=J;refine⟨_,h, .string (DX l),?_,TVR.c' (by simp[CC,CP,Value.oneCell'])⟩;have key:(convert src c6 (e x)).run P w= .ok (.string (DX l)) w:=by
     rw[e1,run_convert_bytes_string w src c6 ei D l.length cap hs he S];rcases hf with rfl|⟨b,o,rfl,-,hp⟩
     ·cases D with
      |none=>simp[Conv.bytesToString,DX]
      |some d=>exact run_bytesToString w d 0 cap [] (by simpa using run_loadCells_list (P:=P) w d [] (λj v hj=>by simp at hj))
     ·have hl:(loadCells (⟨b,o,none⟩:Addr) l.length).run P w= .ok ((l.map λc=>Ad (nth .vD c 0)).map (Value.int .u8)).toArray w:=by
       have := run_loadCells_list (P := P) w (⟨b, o, none⟩ : Addr) ((l.map λc => Ad (nth .vD c 0)).map (Value.int .u8)) (λj v hj => by
        obtain⟨d8,f5⟩:=bc.1 hj;simp at d8 f5;have hq:=(Gz hp j d8).2;have h8:=d0 _ (bq d8);rw[<-h8]at hq;rw[<-f5];simp only[Ap,Bl,Cq,CPs,CP]at hq;obtain⟨⟨y,h1,h2⟩,-⟩:=hq;subst h2;rw[Addr.add_lit];simpa using h1)
       simpa using this
      exact run_bytesToString w ⟨b,o,none⟩ l.length cap _ hl
    simp[execOp,key]
   ·simp at h
  grind
 case fieldAddr t x i=>
  split at h
  ·rename_i f hf;have c0:∃fs,P.underlying t=some (.struct fs)/\fs[i]? =some f:=by
    unfold EU at hf;split at hf
    ·grind
    ·grind
   obtain⟨fs,L,b2⟩:=c0;split at h
   ·rename_i n hn;have i7:n+1≠0:=by omega
    have E:=G x;have fp:∀(b o:Nat),(fieldPlace ⟨b,o,none⟩ f).run P w= .ok ⟨b,o+f.offset,none⟩ w:=by
     intro b o;simp[fieldPlace,A9 hn,Addr.add_lit]
    split at h
    ·rename_i key off A;rw[A]at E;have J:=E.c;simp only[CC]at J;refine⟨_,h, .pointer (some ⟨ρ.bx key,off+f.offset,none⟩),?_,TVR.c' (by rfl)⟩;simp[execOp,Instr.fieldAt,run_underlying L,b2,J,Instr.sureAddr,fp]
    ·rename_i id idx sub A;rw[A]at E;obtain⟨g',a4,J⟩:=E.c;refine⟨_,h, .pointer (some ⟨g',Cx (ρ.rv id)+(idx*ρ.wd id+sub)+f.offset,none⟩),?_,TVR.c' ⟨g',a4,by simp⟩⟩;simp[execOp,Instr.fieldAt,run_underlying L,b2,J,Instr.sureAddr,fp]
    ·rename_i cs sub A;rw[A]at E;obtain⟨b,o,J,h1,h2⟩:=E.c;refine⟨_,h, .pointer (some ⟨b,o+sub+f.offset,none⟩),?_,TVR.c' ⟨b,o,by simp,h1,h2⟩⟩;simp[execOp,Instr.fieldAt,run_underlying L,b2,J,Instr.sureAddr,fp]
    grind
   grind
  grind
 case field t x i=>
  split at h
  ·rename_i f cs hf A;have c0:∃fs,P.underlying t=some (.struct fs)/\fs[i]? =some f:=by
    unfold EU at hf;split at hf
    ·grind
    ·grind
   obtain⟨fs,L,b2⟩:=c0;have E:=G x;rw[A]at E;obtain⟨O,J,Q⟩:=E.agg;split at h
   ·rename_i v hp;obtain⟨y,a5,a6⟩:=LN (P:=P) hp Q;refine⟨_,h,y,?_,a6⟩;simp[execOp,Instr.field,run_underlying L,b2,J,asAgg,a5]
   grind
  grind
 case indexAddr t x ix=>
  split at h
  ·rename_i i n el hi L;obtain⟨k,hk⟩:=FC hi (G ix);have E:=G x;split at h
   ·rename_i m key off V A;rw[A]at E;have J:=E.c;simp only[CC]at J;obtain⟨j,h1,h2,h3,h4⟩:=CD h;refine⟨_,h1, .pointer (some ⟨ρ.bx key,off+j*m,none⟩),?_,TVR.c' (by rfl)⟩;have a1:j<n:=by omega
    simp[execOp,Instr.indexAt,run_underlying L,hk,asIntOf,J,Instr.sureAddr,h2,a1,A9 V,Addr.add_lit]
   ·rename_i m id idx sub V A;rw[A]at E;obtain⟨g',a4,J⟩:=E.c;obtain⟨j,h1,h2,h3,h4⟩:=CD h;refine⟨_,h1, .pointer (some ⟨g',Cx (ρ.rv id)+(idx*ρ.wd id+sub)+j*m,none⟩),?_,TVR.c' ⟨g',a4,by simp⟩⟩;have a1:j<n:=by omega
    simp[execOp,Instr.indexAt,run_underlying L,hk,asIntOf,J,Instr.sureAddr,h2,a1,A9 V,Addr.add_lit]
   ·rename_i m cs sub V A;rw[A]at E;obtain⟨b,o,J,c5,a2⟩:=E.c;obtain⟨j,h1,h2,h3,h4⟩:=CD h;refine⟨_,h1, .pointer (some ⟨b,o+sub+j*m,none⟩),?_,TVR.c' ⟨b,o,by simp,c5,a2⟩⟩;have a1:j<n:=by omega
    simp[execOp,Instr.indexAt,run_underlying L,hk,asIntOf,J,Instr.sureAddr,h2,a1,A9 V,Addr.add_lit]
   grind
  ·rename_i i el hi L;obtain⟨k,hk⟩:=FC hi (G ix);have E:=G x;split at h
   ·rename_i m ks l V A;rw[A]at E;have J:=E.c;simp only[CC,CP]at J;obtain⟨ad,cap,J,d5,h9,hf⟩:=J;cases hb:Nat.beq m ks.length<;>rw[hb]at h
    ·grind
    ·simp only[ac]at h;have e1:=ab hb;subst e1;cases S:(decide (0<=i)&&decide (i<(l.length:Int)))<;>rw[S]at h
     ·grind
     ·simp only[ac]at h;simp at S;have d9:i.toNat<l.length:=by omega
      rcases hf with hf|⟨b,o,rfl,c5,i1⟩
      ·grind
      ·obtain⟨i9,a2⟩:=Gz i1 i.toNat d9;have d0:Ap ks (nth [] l i.toNat)=l[i.toNat]:=by
        rw[Au,List.getD,ah d9];exact h9 _ (bq d9)
       refine⟨_,h, .pointer (some ⟨b,o+i.toNat*ks.length+0,none⟩),?_,TVR.c' ⟨b,o+i.toNat*ks.length,rfl,c5,by grind⟩⟩;simp[execOp,Instr.indexAt,run_underlying L,hk,asIntOf,J,S,A9 V,Addr.add_lit]
   ·rename_i m id wd n V A;rw[A]at E;obtain⟨f6,i2,b3⟩:=E.c;cases hb:Nat.beq m wd<;>rw[hb]at h
    ·grind
    ·simp only[ac]at h;have e1:=ab hb;subst e1;cases S:(decide (0<=i)&&decide (i<(n:Int)))<;>rw[S]at h
     ·grind
     ·simp only[ac]at h;simp at S;rcases b3 with⟨_,rfl⟩|⟨g',o',c',b3⟩
      ·omega
      ·refine⟨_,h, .pointer (some ⟨g',o'+(i.toNat*ρ.wd id+0),none⟩),?_,TVR.c' ⟨g',by rw[<-f6,b3];rfl,by rw[<-f6,b3];rfl⟩⟩;simp[execOp,Instr.indexAt,run_underlying L,hk,asIntOf,b3,S,A9 V,Addr.add_lit,i2]
   ·rename_i m key n V A;rw[A]at E;have J:=E.c;simp only[CC]at J;cases hb:Nat.beq m 1<;>rw[hb]at h
    ·grind
    ·simp only[ac]at h;have e1:=ab hb;subst e1;obtain⟨j,h1,h2,h3,h4⟩:=CD h;refine⟨_,h1, .pointer (some ⟨ρ.bx key,j,none⟩),?_,TVR.c' (by rfl)⟩;have a1:j<n:=by omega
     simp[execOp,Instr.indexAt,run_underlying L,hk,asIntOf,J,h2,a1,A9 V,Addr.add_lit]
   grind
  grind
 case index t x ix=>
  split at h
  ·rename_i i n el cs hi L A;obtain⟨k,hk⟩:=FC hi (G ix);have E:=G x;rw[A]at E;obtain⟨O,J,Q⟩:=E.agg;split at h
   ·rename_i m V;obtain⟨j,h1,h2,h3,h4⟩:=CD h;have a1:j<n:=by omega
    split at h1
    ·rename_i v hp;obtain⟨y,a5,a6⟩:=LN (P:=P) hp Q;refine⟨_,h1,y,?_,a6⟩;simp[execOp,Instr.index,run_underlying L,hk,asIntOf,J,h2,a1,A9 V,a5]
    grind
   grind
  grind
 case slice t x lo hi mx=>
  split at h
  ·rename_i _ f7 f8 el i3 i4 L;have b4:=Nx G i3;have b5:=Nx G i4;have E:=G x;split at h
   ·rename_i m ks l V A;rw[A]at E;have b1:=E.c;have J:=b1;simp only[CC,CP]at J;obtain⟨ad,cap,J,d5,_⟩:=J;rw[J]at b1;cases hb:Nat.beq m ks.length<;>rw[hb]at h
    ·grind
    ·simp only[ac]at h;have e1:=ab hb;subst e1;have key:∀(a b:Int),f7.getD 0=a->f8.getD (l.length:Int)=b->0<=a->a<=b->b<=(l.length:Int)->Dz P ρ w e ⟨dst, .slice t x lo hi none,type,pos,after,guard⟩ (.val (.c (.vC ks ((l.take b.toNat).drop a.toNat)))):=by
      intro a b ha e0 d1 d2 d3;refine⟨_,HK rfl L V J d5 b4 b5 ha e0 d1 d2 d3,TVR.c' ?_⟩;exact SQ (by omega) (by omega) b1
     split at h
     ·refine⟨_,h,?_⟩;simp_all
     ·rename_i a;cases S:(decide (0<=a)&&decide (a<=(l.length:Int)))<;>rw[S]at h
      ·grind
      ·simp only[ac]at h;simp only[af,bm]at S;refine⟨_,h,?_⟩;simp_all
     ·rename_i b;cases S:(decide (0<=b)&&decide (b<=(l.length:Int)))<;>rw[S]at h
      ·grind
      ·simp only[ac]at h;simp only[af,bm]at S;refine⟨_,h,?_⟩;simp_all
     grind
   ·rename_i m id wd n V A;rw[A]at E;obtain⟨c1,c2,c3⟩:=E.c;split at h
    ·rename_i a;cases hb:Nat.beq m wd<;>rw[hb]at h
     ·grind
     ·simp only[ac]at h;have e1:=ab hb;subst e1;cases S:(decide (0<=a)&&decide (a<=(n:Int)))<;>rw[S]at h
      ·grind
      ·simp only[ac]at h;simp only[af,bm]at S;refine⟨_,h,λad n' cap i5 d7 j0=> ?_⟩;have hn:n'=n:=by
        rcases c3 with⟨c3,c4⟩|⟨_,_,_,c3⟩
        ·grind
        ·grind
       subst hn;have a3:=HK (P:=P) (w:=w) (e:=e) (o:=⟨dst, .slice t x lo hi none,type,pos,after,guard⟩) rfl L V (c1.trans i5) d7 b4 b5 (l:=a) (hh':=(n':Int)) rfl rfl S.1 S.2 (Int.le_refl _)
       grind
    grind
   ·rename_i m V A;rw[A]at E;have J:=E.c;simp only[CC,CP]at J;have key:f7.getD 0=0->f8.getD ((0:Nat):Int)=0->Dz P ρ w e ⟨dst, .slice t x lo hi none,type,pos,after,guard⟩ (.val (.c .nilSl)):=by
     intro ha e0;refine⟨_,HK rfl L V J (bf _) b4 b5 ha e0 (by omega) (by omega) (by omega),TVR.c' ?_⟩;simp[CC,CP]
    grind
   grind
  grind
 case extract t i=>
  have E:=G t;split at h
  ·rename_i ps A;rw[A]at E;obtain⟨O,J,hp⟩:=E;split at h
   ·rename_i g cs hg;have key:∀(l:List (Bool×List AC)) (xs:List Value) (i:Nat),TP ρ w l xs->l[i]? =some (g,cs)->∃y,xs[i]? =some y/\TVR ρ w (.v g cs) y:=by
     intro l;induction l with
     |nil=>simp
     |cons p l ih=>
      intro xs i e4 hh;cases xs with
      |nil=>exact e4.elim
      |cons y xs=>
       cases i with
       |zero=>
        simp at hh;subst hh;refine⟨y,rfl,?_⟩;have:=e4.1;cases g<;>exact this
       |succ i=>simpa using ih xs i e4.2 (by grind)
    obtain⟨y,a5,a6⟩:=key ps O.toList i hp hg;refine⟨_,h,y,?_,a6⟩;have f9:O[i]? =some y:=by simpa using a5
    simp[execOp,Instr.extract,J,f9]
   grind
  grind
 case call c=>
  have N:=FV G c.args.toList;split at h
  ·rename_i b hb;obtain⟨cs,a2⟩:=Rj (e:=e) (o:=⟨dst, .call c,type,pos,after,guard⟩) (c:=c) rfl hb;refine Pw (xs:=c.args.toList.map e) (by omega) N.2 h (ty:=type) (cs:=cs) ?_;rw[a2,<-db]
  ·rename_i f hf;cases hp:C.pure f<;>rw[hp]at h
   ·exact⟨_,h,c.args.toList.map e,N.1.symm,N.2,F9 rfl hf (e5 f)⟩
   ·exact⟨_,h,c.args.toList.map e,N.1.symm,N.2,F9 rfl hf (e5 f)⟩
  ·rename_i t ht;split at h
   ·rename_i f fs cs Q;have E:=G (.tmp t);rw[Q]at E;obtain⟨xs,O,J,h1,h2⟩:=E.c;obtain⟨q1,q2⟩:=LU (H2 h1) (LU N (H2 h2));cases Q:(Ab AC.clOk fs&&Ab AC.clOk cs)<;>rw[Q]at h
    ·grind
    ·exact⟨_,h,_,q1.symm,q2,RQ rfl ht J⟩
   grind
  grind
end
open Go.RowKit
section defs
variable (aB:List (Nat×Box)) (aC:List (Nat×Row))
def AC.wfP:AC->Prop
 | .ptr key _=>∃b,Aa aB key=some b
 |_=>True
def AC.wf:AC->Prop
 | .ptr key _=>∃b,Aa aB key=some b
 | .bsl key _=>∃b,Aa aB key=some b
 | .own id w n=>∃r,Aa aC id=some r/\r.n=n/\r.w=w
 | .rptr id idx _=>∃r,Aa aC id=some r/\idx<r.n
 | .vptr cs _=>Ab AC.calm cs=true
 | .clo _ fs cs=>(∀a∈fs,AC.wfP aB a)/\∀a∈cs,AC.wfP aB a
 |_=>True
def TV.wf:TV->Prop
 | .v _ cs=>∀a∈cs,AC.wf aB aC a
 | .tup ps=>∀p∈ps,∀a∈p.2,AC.wf aB aC a
 | .vD=>True
end defs
structure Fr (F : Nat -> Prop) (w w' : World) : Prop where
 os:w'.os=w.os
 tape:w'.tape=w.tape
 output:w'.output=w.output
 size:w.heap.size<=w'.heap.size
 block:∀k,F k->w'.heap[k]? =w.heap[k]?
theorem Fr.refl (F:Nat->Prop) (w:World):Fr F w w:=⟨rfl,rfl,rfl,bf _,λ_ _=>rfl⟩
theorem Fr.trans {F:Nat->Prop} {a b c:World} (h:Fr F a b) (k:Fr F b c):Fr F a c:=
 ⟨k.os.trans h.os,k.tape.trans h.tape,k.output.trans h.output,Nat.le_trans h.size k.size,λi A=>(k.block i A).trans (h.block i A)⟩
theorem Fr.mono {F A:Nat->Prop} {w w':World} (h:Fr F w w') (hF:∀k,A k->F k):Fr A w w':=⟨h.os,h.tape,h.output,h.size,λk D=>h.block k (hF k D)⟩
theorem Fr.drew {F:Nat->Prop} {a w:World} (h:Fr F a w):Fr F a w.drew:=⟨h.os,h.tape,h.output,h.size,h.block⟩
theorem Fr.alloc {F:Nat->Prop} {a w:World} (h:Fr F a w) (hF:∀k,F k->k<w.heap.size) (o:Obj):Fr F a (w.alloc o):=
 h.trans ⟨rfl,rfl,rfl,by simp,λk A=>Below.heap_alloc _ _ _ (hF k A)⟩
theorem Fr.of_below {w w':World} {F:Nat->Prop} (h:Below w.heap.size w w') (hF:∀k,F k->k<w.heap.size):Fr F w w':=⟨h.os,h.tape,h.output,h.size,λk A=>h.block k (hF k A)⟩
theorem Fr.grown {F:Nat->Prop} {a w w':World} {row:Option Nat} (h:Fr F a w) (A:w.grownBy w' row) (hF:∀k,F k->k<w.heap.size) (E:∀k,row=some k-> ¬F k):Fr F a w':=
 h.trans ⟨A.os,A.tape,A.output,A.size,λk D=>A.block k (hF k D) (λe=>E k e.symm D)⟩
structure Base where
 F:Nat->Prop
 w0:World
 I0:Nat->Prop
 K0:Nat->Option Nat
 gt:Gt F w0
structure RelE (Z : Base) (tm : List TV) (aB : List (Nat × Box)) (aC : List (Nat × Row)) (ρ : Env) (tmps : Array Value) (w : World) : Prop where
 tl:tm.length=tmps.size
 tv:∀(i:Nat) (v:TV),tm[i]? =some v->TVR ρ w v (tmps.getD i undef)
 wt:∀v∈tm,TV.wf aB aC v
 wb:∀(k:Nat) (b:Box),Aa aB k=some b->∀a∈b.cells,AC.wf aB aC a
 bx:∀(k:Nat) (b:Box),Aa aB k=some b->∃arr:Array Value,w.heap[ρ.bx k]? =some (.cells arr b.ty (0,0))/\CL (CC ρ w) b.cells arr.toList/\ ¬Z.F (ρ.bx k)
 bi:∀(k k':Nat) (b b':Box),Aa aB k=some b->Aa aB k'=some b'->ρ.bx k=ρ.bx k'->k=k'
 ro:∀(id:Nat) (r:Row),Aa aC id=some r->0<r.w/\ρ.wd id=r.w/\(∀g,(ρ.rv id).ownBlock=some g-> ¬Z.F g)/\∃xs,A_ w r.ty r.w (ρ.rv id) r.n xs/\RowC ρ.im w r.ks r.l xs
 ri:∀(id id':Nat) (r r':Row) (g:Nat),Aa aC id=some r->Aa aC id'=some r'->(ρ.rv id).ownBlock=some g->(ρ.rv id').ownBlock=some g->id=id'
 br:∀(k:Nat) (b:Box) (id:Nat) (r:Row),Aa aB k=some b->Aa aC id=some r->(ρ.rv id).ownBlock≠some (ρ.bx k)
 ib:∀b,ρ.im b->b<w.heap.size/\(∀(k:Nat) (bo:Box),Aa aB k=some bo->ρ.bx k≠b)/\(∀(id:Nat) (r:Row),Aa aC id=some r->(ρ.rv id).ownBlock≠some b)
 fr:Fr Z.F Z.w0 w
 fs:∀k,Z.F k->k<w.heap.size
 i0:∀b,Z.I0 b->ρ.im b
 i1:∀b,ρ.im b->Z.I0 b\/ ¬Z.F b
 k0:∀k b,Z.K0 k=some b->ρ.bx k=b/\∃bo,Aa aB k=some bo
section
variable {P:Program} {C:Cfg} {ρ:Env} {w:World} {R:Type} {Z:Base} {tm:List TV} {aB:List (Nat×Box)} {aC:List (Nat×Row)} {tmps:Array Value}
theorem Ut {w:World} {b:Nat} {o:Obj} (h:w.heap[b]? =some o):b<w.heap.size:=by grind
theorem RelE.bxlt (h:RelE Z tm aB aC ρ tmps w) {k:Nat} {b:Box} (A:Aa aB k=some b):ρ.bx k<w.heap.size:=by
 obtain⟨arr,h1,_⟩:=h.bx k b A
 grind
theorem RelE.rwlt (h:RelE Z tm aB aC ρ tmps w) {id:Nat} {r:Row} (D:Aa aC id=some r) {g:Nat} (A:(ρ.rv id).ownBlock=some g): ¬Z.F g/\g<w.heap.size:=by
 obtain⟨_,_,E,xs,h1,_⟩:=h.ro id r D;exact⟨E g A,GP h1 g A⟩
theorem TVR.mono {ρ ρ':Env} {w w':World} (A:∀(a:AC) (x:Value),CC ρ w a x->CC ρ' w' a x):∀(v:TV) (x:Value),TVR ρ w v x->TVR ρ' w' v x:=by
 intro v x h;have E:∀{l xs},CL (CC ρ w) l xs->CL (CC ρ' w') l xs:=λh=>h.mono λa _ x G=>A a x G;cases v with
 |vD=>trivial
 |v g cs=>
  cases g
  ·obtain⟨a,h1,h2⟩:=h;exact⟨a,h1,A a _ h2⟩
  ·obtain⟨D,h1,h2⟩:=h;exact⟨D,h1,E h2⟩
 |tup ps=>
  obtain⟨D,h1,h2⟩:=h;refine⟨D,h1,?_⟩;generalize D.toList=l at h2;clear h1;induction ps generalizing l with
  |nil=>cases l<;>first|exact h2|exact h2.elim
  |cons p ps J=>
   cases l with
   |nil=>exact h2.elim
   |cons y l=>
    obtain⟨g,cs⟩:=p;refine⟨?_,J l h2.2⟩;have:=h2.1
    grind
theorem TVR.mono' {ρ G:Env} {w w':World} {v:TV} (A:∀(a:AC) (x:Value),AC.wf aB aC a->CC ρ w a x->CC G w' a x) (E:TV.wf aB aC v) {x:Value} (h:TVR ρ w v x):TVR G w' v x:=by
 have J:∀{l xs},(∀a∈l,AC.wf aB aC a)->CL (CC ρ w) l xs->CL (CC G w') l xs:=λL h=>h.mono λa N x O=>A a x (L a N) O;cases v with
 |vD=>trivial
 |v g cs=>
  cases g
  ·obtain⟨a,h1,h2⟩:=h;subst h1;exact⟨a,rfl,A a _ (E a (by simp)) h2⟩
  ·obtain⟨D,h1,h2⟩:=h;exact⟨D,h1,J E h2⟩
 |tup ps=>
  obtain⟨D,h1,h2⟩:=h;refine⟨D,h1,?_⟩;generalize D.toList=l at h2;clear h1;induction ps generalizing l with
  |nil=>cases l<;>first|exact h2|exact h2.elim
  |cons p ps Q=>
   cases l with
   |nil=>exact h2.elim
   |cons y l=>
    obtain⟨g,cs⟩:=p;refine⟨?_,Q (λq S=>E q (by grind)) l h2.2⟩;have:=h2.1;cases g
    ·obtain⟨a,q1,q2⟩:=this;subst q1;exact⟨a,rfl,A a _ (E (false,[a]) (by simp) a (by simp)) q2⟩
    ·obtain⟨D,q1,q2⟩:=this;exact⟨D,q1,J (E (true,cs) (by simp)) q2⟩
theorem RowC.mono {im A:Nat->Prop} {w w':World} {ks:List Kd} {l:List (List AC)} {xs:List Value} (E:∀b,im b->A b) (hb:∀b,im b->w'.heap[b]? =w.heap[b]?) (h:RowC im w ks l xs):RowC A w' ks l xs:=
 ⟨h.1,h.2.1,λi c D=>(h.2.2 i c D).mono λa _ x G=>CP.mono E hb a x G⟩
theorem AC.agree_refl {ρ A:Env} (h1:A.bx=ρ.bx) (h2:A.rv=ρ.rv) (h3:A.wd=ρ.wd) (a:AC):a.agree ρ A:=by
 have D:∀a:AC,a.agreeP ρ A:=by intro a;cases a<;>first|grind [AC.agreeP]|trivial
 cases a with
 |ptr=>grind [AC.agree]
 |bsl=>grind [AC.agree]
 |own=>simp_all [AC.agree]
 |rptr=>simp_all [AC.agree]
 |clo=>exact⟨λa _=>D a,λa _=>D a⟩
 |_=>trivial
theorem CC.keep {g:Nat} {w':World} (D: ¬ρ.im g) (hb:∀b,b≠g->w'.heap[b]? =w.heap[b]?) (a:AC) (x:Value) (h:CC ρ w a x):CC ρ w' a x:=
 CC.mono (λ_ h=>h) (λb A=>hb b (λe=>D (e▸A))) a x (AC.agree_refl rfl rfl rfl a) h
def upN {α:Type} (f:Nat->α) (k:Nat) (v:α):Nat->α:=λj=>if j=k then v else f j
theorem AE {α:Type} (f:Nat->α) (k:Nat) (v:α):upN f k v k=v:=by simp[upN]
theorem AO {α:Type} (f:Nat->α) (k:Nat) (v:α) {j:Nat} (h:j≠k):upN f k v j=f j:=by simp[upN,h]
theorem AC.wfP_mono {A:List (Nat×Box)} (hb:∀(k:Nat) (b:Box),Aa aB k=some b->∃b',Aa A k=some b') {a:AC} (h:AC.wfP aB a):AC.wfP A a:=by
 cases a with
 |ptr k o=>obtain⟨b,h⟩:=h;exact hb k b h
 |_=>trivial
theorem AC.wf_mono {A:List (Nat×Box)} {D:List (Nat×Row)} (hb:∀(k:Nat) (b:Box),Aa aB k=some b->∃b',Aa A k=some b')
  (G:∀(k:Nat) (r:Row),Aa aC k=some r->∃r',Aa D k=some r'/\r'.n=r.n/\r'.w=r.w) {a:AC} (h:AC.wf aB aC a):AC.wf A D a:=by
 cases a with
 |ptr k o=>obtain⟨b,h⟩:=h;exact hb k b h
 |bsl k o=>obtain⟨b,h⟩:=h;exact hb k b h
 |own id w' n=>obtain⟨r,h1,h2,h3⟩:=h;obtain⟨r',q1,q2,J⟩:=G id r h1;exact⟨r',q1,by omega,by omega⟩
 |rptr id i s=>obtain⟨r,h1,h2⟩:=h;obtain⟨r',q1,q2,J⟩:=G id r h1;exact⟨r',q1,by omega⟩
 |vptr=>exact h
 |clo f fs cs=>exact⟨λa E=>AC.wfP_mono hb (h.1 a E),λa E=>AC.wfP_mono hb (h.2 a E)⟩
 |_=>trivial
theorem AC.agree_of {ρ':Env} (A:∀k,(∃b,Aa aB k=some b)->ρ'.bx k=ρ.bx k) (D:∀id,(∃r,Aa aC id=some r)->ρ'.rv id=ρ.rv id/\ρ'.wd id=ρ.wd id) {a:AC} (h:AC.wf aB aC a):a.agree ρ ρ':=by
 have E:∀l:List AC,(∀a∈l,AC.wfP aB a)->∀a∈l,a.agreeP ρ ρ':=by
  intro l G a J;have:=G a J;cases a<;>first|exact A _ this|trivial
 cases a with
 |ptr k o=>exact A k h
 |bsl k o=>exact A k h
 |own id w n=>obtain⟨r,h1,_⟩:=h;exact D id ⟨r,h1⟩
 |rptr id i s=>obtain⟨r,h1,_⟩:=h;exact D id ⟨r,h1⟩
 |clo f fs cs=>exact⟨E fs h.1,E cs h.2⟩
 |_=>trivial
theorem TV.wf_mono {A:List (Nat×Box)} {D:List (Nat×Row)} (G:∀a,AC.wf aB aC a->AC.wf A D a) {v:TV} (h:TV.wf aB aC v):TV.wf A D v:=by
 cases v with
 |vD=>trivial
 |v g cs=>exact λa E=>G a (h a E)
 |tup ps=>exact λp J a E=>G a (h p J a E)
theorem RelE.new (h:RelE Z tm aB aC ρ tmps w) {d:Nat} (hd:Aa aB d=none) {ty:TypeId} {cs:List AC} {arr:Array Value} (hw:∀a∈cs,AC.wf aB aC a) (hc:CL (CC ρ w) cs arr.toList):
  RelE Z tm (ins aB d ⟨ty,cs⟩) aC {ρ with bx:=upN ρ.bx d w.heap.size} tmps (w.alloc (.cells arr ty)):=by
 have O:∀(k:Nat) (b:Box),Aa aB k=some b->Aa (ins aB d ⟨ty,cs⟩) k=some b:=by
  intro k b A;rw[Bd]
  ·exact A
  ·grind
 have D:∀(k:Nat) (b:Box),Aa (ins aB d ⟨ty,cs⟩) k=some b->(k=d/\b=⟨ty,cs⟩)\/(k≠d/\Aa aB k=some b):=by
  intro k b A;by_cases V:k=d
  ·subst V;rw[Bs _ _ _ hd]at A;grind
  ·grind [Bd]
 have Q:∀a,AC.wf aB aC a->AC.wf (ins aB d ⟨ty,cs⟩) aC a:=λa=>AC.wf_mono (λk b A=>⟨b,O k b A⟩) (λk r A=>⟨r,A,rfl,rfl⟩);have hold:∀b,b<w.heap.size->(w.alloc (.cells arr ty)).heap[b]? =w.heap[b]? :=λb hb=>Below.heap_alloc w _ b hb;have L:∀(a:AC) (x:Value),AC.wf aB aC a->CC ρ w a x->CC {ρ with bx:=upN ρ.bx d w.heap.size} (w.alloc (.cells arr ty)) a x:=by
  intro a x N S;refine CC.mono (ρ:=ρ) (ρ':={ρ with bx:=upN ρ.bx d w.heap.size}) (λb hb=>hb) (λb hb=>hold b (h.ib b hb).1) a x ?_ S;refine AC.agree_of (ρ:=ρ) (ρ':={ρ with bx:=upN ρ.bx d w.heap.size}) (λk X=>AO _ _ _ ?_) (λid _=>⟨rfl,rfl⟩) N;rintro rfl;obtain⟨b,hb⟩:=X;rw[hd]at hb;cases hb
 refine⟨h.tl,λi v hi=>TVR.mono' L (h.wt v (ay hi)) (h.tv i v hi),λv hv=>TV.wf_mono Q (h.wt v hv),?_,?_,?_,?_,h.ri,?_,?_,?_,?_,h.i0,h.i1,?_⟩
 ·intro k b A a N;rcases D k b A with⟨rfl,rfl⟩|⟨E,A⟩
  ·grind
  ·exact Q a (h.wb k b A a N)
 ·intro k b A;rcases D k b A with⟨rfl,rfl⟩|⟨E,A⟩
  ·refine⟨arr,?_,hc.mono λa N x S=>L a x (hw a N) S,?_⟩
   ·show(w.alloc _).heap[upN ρ.bx k w.heap.size k]? =_
    grind [AE,heap_alloc_new]
   ·show¬Z.F (upN ρ.bx k w.heap.size k);rw[AE];exact λhf=>Nat.lt_irrefl _ (h.fs _ hf)
  ·obtain⟨ar,h1,h2,h3⟩:=h.bx k b A;refine⟨ar,?_,h2.mono λa N x S=>L a x (h.wb k b A a N) S,?_⟩
   ·show(w.alloc _).heap[upN ρ.bx d w.heap.size k]? =_
    grind [AO]
   simp_all [upN]
 ·intro k k' b b' A Y he;change upN ρ.bx d w.heap.size k=upN ρ.bx d w.heap.size k' at he;rcases D k b A with⟨e1,_⟩|⟨E,T⟩<;>rcases D k' b' Y with⟨e2,_⟩|⟨G,J⟩
  ·omega
  ·rw[e1,AE,AO _ _ _ G]at he;have:=h.bxlt J;omega
  ·rw[e2,AE,AO _ _ _ E]at he;have:=h.bxlt T;omega
  ·rw[AO _ _ _ E,AO _ _ _ G]at he;exact h.bi k k' b b' T J he
 ·intro id r U;obtain⟨h1,h2,h0,xs,h3,h4⟩:=h.ro id r U;exact⟨h1,h2,h0,xs,De h3 (λg hg=>hold g (GP h3 g hg)),h4.mono (λb hb=>hb) (λb hb=>hold b (h.ib b hb).1)⟩
 ·intro k b id r A U he;change (ρ.rv id).ownBlock=some (upN ρ.bx d w.heap.size k)at he;rcases D k b A with⟨rfl,rfl⟩|⟨E,A⟩
  ·rw[AE]at he;have:=(h.rwlt U he).2;omega
  ·rw[AO _ _ _ E]at he;exact h.br k b id r A U he
 ·intro b hb;obtain⟨h1,h2,h3⟩:=h.ib b hb;refine⟨by grind,λk bo A=> ?_,h3⟩;show upN ρ.bx d w.heap.size k≠b
  grind [AE,AO]
 ·exact h.fr.alloc h.fs _
 ·intro k A;have:=h.fs k A;grind
 ·intro k b A;obtain⟨q1,bo,q2⟩:=h.k0 k b A;exact⟨by show upN ρ.bx d w.heap.size k=b;grind [AO],bo,O k bo q2⟩
theorem RelE.store (h:RelE Z tm aB aC ρ tmps w) {key:Nat} {b:Box} (E:Aa aB key=some b) {cells:List AC} (hw:∀a∈cells,AC.wf aB aC a) {arr:Array Value} (hc:CL (CC ρ w) cells arr.toList):
  RelE Z tm (upd aB key ⟨b.ty,cells⟩) aC ρ tmps (w.setRow (ρ.bx key) arr):=by
 obtain⟨ar,h1,h2,h3⟩:=h.bx key b E;have Q: ¬ρ.im (ρ.bx key):=λY=>(h.ib _ Y).2.1 key b E rfl;have hold:∀g,g≠ρ.bx key->(w.setRow (ρ.bx key) arr).heap[g]? =w.heap[g]? :=λg J=>setRow_other w _ g _ J;have L:∀(a:AC) (x:Value),CC ρ w a x->CC ρ (w.setRow (ρ.bx key) arr) a x:=λa x S=>CC.keep Q hold a x S;have D:∀(k:Nat) (bo:Box),Aa (upd aB key ⟨b.ty,cells⟩) k=some bo->(k=key/\bo=⟨b.ty,cells⟩)\/(k≠key/\Aa aB k=some bo):=by
  intro k bo A;by_cases a0:k=key
  ·subst a0;rw[Bn _ _ _ _ E]at A;grind
  ·grind [AY]
 have N:∀(k:Nat) (bo:Box),Aa (upd aB key ⟨b.ty,cells⟩) k=some bo->∃O,Aa aB k=some O:=by
  intro k bo A;rcases D k bo A with⟨rfl,rfl⟩|⟨_,h⟩
  ·grind
  ·grind
 have T:∀a,AC.wf aB aC a->AC.wf (upd aB key ⟨b.ty,cells⟩) aC a:=λa=>AC.wf_mono (λk bo A=>by grind [Bn,AY]) (λk r E=>⟨r,E,rfl,rfl⟩);refine⟨h.tl,λi v Y=>TVR.mono L v _ (h.tv i v Y),λv hv=>TV.wf_mono T (h.wt v hv),?_,?_,?_,?_,h.ri,?_,?_,?_,?_,h.i0,h.i1,?_⟩
 ·intro k bo A a ha;rcases D k bo A with⟨rfl,rfl⟩|⟨U,A⟩
  ·grind
  ·exact T a (h.wb k bo A a ha)
 ·intro k bo A;rcases D k bo A with⟨rfl,rfl⟩|⟨U,A⟩
  ·exact⟨arr,setRow_heap w _ ar _ b.ty _ h1,hc.mono λa _ x S=>L a x S,h3⟩
  ·obtain⟨a1,q1,q2,V⟩:=h.bx k bo A;refine⟨a1,?_,q2.mono λa _ x S=>L a x S,V⟩;rw[hold _ (λe=>U (h.bi k key bo b A E e))];exact q1
 ·intro k k' bo O G a2 he;obtain⟨_,p1⟩:=N k bo G;obtain⟨_,p2⟩:=N k' O a2;exact h.bi k k' _ _ p1 p2 he
 ·intro id r X;obtain⟨q1,q2,q0,xs,V,q4⟩:=h.ro id r X;exact⟨q1,q2,q0,xs,De V (λg J=>hold g (λe=>h.br key b id r E X (by grind))),q4.mono (λ_ hb=>hb) (λg J=>hold g (λe=>Q (e▸J)))⟩
 ·intro k bo id r G X;obtain⟨_,p1⟩:=N k bo G;exact h.br k _ id r p1 X
 ·intro g J;obtain⟨q1,q2,V⟩:=h.ib g J;exact⟨by simp_all,λk bo G=>by grind,V⟩
 ·exact h.fr.trans ⟨rfl,rfl,rfl,by simp,λg J=>hold g (λe=>h3 (e▸J))⟩
 ·intro k E;simpa using h.fs k E
 ·intro k b' A;obtain⟨q1,bo,q2⟩:=h.k0 k b' A
  grind [Bn,AY]
theorem RelE.addRow (h:RelE Z tm aB aC ρ tmps w) {d:Nat} (hd:Aa aC d=none) {r:Row} {v':Value} {xs:List Value} {w':World} (hb:Below w.heap.size w w')
  (hw:0<r.w) (a4:A_ w' r.ty r.w v' r.n xs) (T:RowC ρ.im w' r.ks r.l xs) (A:∀g,v'.ownBlock=some g->w.heap.size<=g):
  RelE Z tm aB (ins aC d r) {ρ with rv:=upN ρ.rv d v',wd:=upN ρ.wd d r.w} tmps w':=by
 have Y:∀(k:Nat) (q:Row),Aa aC k=some q->Aa (ins aC d r) k=some q:=by
  intro k q D;rw[Bd]
  ·exact D
  ·grind
 have G:∀(k:Nat) (q:Row),Aa (ins aC d r) k=some q->(k=d/\q=r)\/(k≠d/\Aa aC k=some q):=by
  intro k q D;by_cases a0:k=d
  ·subst a0;rw[Bs _ _ _ hd]at D;grind
  ·grind [Bd]
 have U:∀a,AC.wf aB aC a->AC.wf aB (ins aC d r) a:=λa=>AC.wf_mono (λk b D=>⟨b,D⟩) (λk q D=>⟨q,Y k q D,rfl,rfl⟩);have hold:∀b,b<w.heap.size->w'.heap[b]? =w.heap[b]? :=λb a1=>hb.block b a1;have V:∀(a:AC) (x:Value),AC.wf aB aC a->CC ρ w a x->CC {ρ with rv:=upN ρ.rv d v',wd:=upN ρ.wd d r.w} w' a x:=by
  intro a x X hx;refine CC.mono (ρ:=ρ) (ρ':={ρ with rv:=upN ρ.rv d v',wd:=upN ρ.wd d r.w}) (λb hb=>hb) (λb hb=>hold b (h.ib b hb).1) a x ?_ hx;refine AC.agree_of (ρ:=ρ) (ρ':={ρ with rv:=upN ρ.rv d v',wd:=upN ρ.wd d r.w}) (λk _=>rfl) (λid ⟨q,N⟩=> ?_) X;have:id≠d:=by rintro rfl;rw[hd]at N;cases N
  exact⟨AO _ _ _ this,AO _ _ _ this⟩
 refine⟨h.tl,λi v hi=>TVR.mono' V (h.wt v (ay hi)) (h.tv i v hi),λv hv=>TV.wf_mono U (h.wt v hv),λk b D a X=>U a (h.wb k b D a X),?_,h.bi,?_,?_,?_,?_,?_,?_,h.i0,h.i1,λk b D=>h.k0 k b D⟩
 ·intro k b D;obtain⟨ar,h1,h2,h3⟩:=h.bx k b D;exact⟨ar,by grind,h2.mono λa X x hx=>V a x (h.wb k b D a X) hx,h3⟩
 ·intro id q N;rcases G id q N with⟨e1,e2⟩|⟨J,N⟩
  ·subst e1 e2;refine⟨hw,AE _ _ _,?_,xs,?_,T⟩
   ·intro g L hf;change (upN ρ.rv id v' id).ownBlock=some g at L;rw[AE]at L;exact Nat.lt_irrefl _ (ax (h.fs g hf) (A g L))
   simp_all [upN]
  ·obtain⟨h1,h2,h0,ys,h3,h4⟩:=h.ro id q N;refine⟨h1,by simp_all [upN],by simp_all [upN],ys,?_,h4.mono (λb hb=>hb) (λb hb=>hold b (h.ib b hb).1)⟩;show A_ w' q.ty q.w (upN ρ.rv d v' id) q.n ys;rw[AO _ _ _ J];exact De h3 λg L=>hold g (h.rwlt N L).2
 ·intro id id' q q' g N a2 L E;change (upN ρ.rv d v' id).ownBlock=_ at L;change (upN ρ.rv d v' id').ownBlock=_ at E;rcases G id q N with⟨e1,_⟩|⟨J,O⟩<;>rcases G id' q' a2 with⟨e2,_⟩|⟨Q,S⟩
  ·omega
  ·rw[e1,AE]at L;rw[AO _ _ _ Q]at E;have:=A g L;have:=(h.rwlt S E).2;omega
  ·rw[e2,AE]at E;rw[AO _ _ _ J]at L;have:=A g E;have:=(h.rwlt O L).2;omega
  ·rw[AO _ _ _ J]at L;rw[AO _ _ _ Q]at E;exact h.ri id id' q q' g O S L E
 ·intro k b id q D N he;change (upN ρ.rv d v' id).ownBlock=some (ρ.bx k)at he;rcases G id q N with⟨e1,_⟩|⟨J,O⟩
  ·rw[e1,AE]at he;have:=A _ he;have:=h.bxlt D;omega
  ·rw[AO _ _ _ J]at he;exact h.br k b id q D O he
 ·intro b a3;obtain⟨h1,h2,h3⟩:=h.ib b a3;refine⟨ax h1 hb.size,h2,λid q N he=> ?_⟩;change (upN ρ.rv d v' id).ownBlock=some b at he
  grind [AE,AO]
 ·exact h.fr.trans (Fr.of_below hb h.fs)
 ·exact λk D=>ax (h.fs k D) hb.size
def AC.free (id:Nat):AC->Prop
 | .own j _ _=>j≠id
 | .rptr j _ _=>j≠id
 |_=>True
def TV.free (id:Nat):TV->Prop
 | .v _ cs=>∀a∈cs,AC.free id a
 | .tup ps=>∀p∈ps,∀a∈p.2,AC.free id a
 | .vD=>True
theorem TVR.mono2 {ρ E:Env} {w w':World} {v:TV} {Q:AC->Prop} (A:∀(a:AC) (x:Value),Q a->CC ρ w a x->CC E w' a x)
  (G:match v with| .v _ cs=>∀a∈cs,Q a| .tup ps=>∀p∈ps,∀a∈p.2,Q a| .vD=>True) {x:Value} (h:TVR ρ w v x):TVR E w' v x:=by
 have J:∀{l xs},(∀a∈l,Q a)->CL (CC ρ w) l xs->CL (CC E w') l xs:=λL h=>h.mono λa N x O=>A a x (L a N) O;cases v with
 |vD=>trivial
 |v g cs=>
  cases g
  ·obtain⟨a,h1,h2⟩:=h;subst h1;exact⟨a,rfl,A a _ (G a (by simp)) h2⟩
  ·obtain⟨D,h1,h2⟩:=h;exact⟨D,h1,J G h2⟩
 |tup ps=>
  obtain⟨D,h1,h2⟩:=h;refine⟨D,h1,?_⟩;generalize D.toList=l at h2;clear h1;induction ps generalizing l with
  |nil=>cases l<;>first|exact h2|exact h2.elim
  |cons p ps S=>
   cases l with
   |nil=>exact h2.elim
   |cons y l=>
    obtain⟨g,cs⟩:=p;refine⟨?_,S (λq T=>G q (by grind)) l h2.2⟩;have:=h2.1;cases g
    ·obtain⟨a,q1,q2⟩:=this;simp_all
    ·obtain⟨D,q1,q2⟩:=this;simp_all
theorem RelE.turnRow (h:RelE Z tm aB aC ρ tmps w) {id:Nat} {r:Row} (hid:Aa aC id=some r) {r':Row} {v':Value} {xs:List Value} {w':World} (hg:w.grownBy w' (ρ.rv id).ownBlock)
  (hw:r'.w=r.w) (b3:A_ w' r'.ty r'.w v' r'.n xs) (a2:RowC ρ.im w' r'.ks r'.l xs) (X:v'.ownBlock=(ρ.rv id).ownBlock\/∀g,v'.ownBlock=some g->w.heap.size<=g)
  (a3:(v'=ρ.rv id/\r'.n=r.n)\/((∀v∈tm,TV.free id v)/\∀(k:Nat) (b:Box),Aa aB k=some b->∀a∈b.cells,AC.free id a)):
  RelE Z tm aB (upd aC id r') {ρ with rv:=upN ρ.rv id v'} tmps w':=by
 have N:∀(k:Nat) (q:Row),Aa (upd aC id r') k=some q->(k=id/\q=r')\/(k≠id/\Aa aC k=some q):=by
  intro k q G;by_cases a7:k=id
  ·subst a7;rw[Bn _ _ _ _ hid]at G;grind
  ·grind [AY]
 have b0:∀b,ρ.im b->some b≠(ρ.rv id).ownBlock:=λb hb e=>(h.ib b hb).2.2 id r hid e.symm;have Y:∀b,ρ.im b->w'.heap[b]? =w.heap[b]? :=λb hb=>hg.block b (h.ib b hb).1 (b0 b hb)
 let Q:AC->Prop:=λa=>AC.wf aB aC a/\((v'=ρ.rv id/\r'.n=r.n)\/AC.free id a)
 have a1:∀a,Q a->AC.wf aB (upd aC id r') a:=by
  rintro a ⟨D,U⟩;cases a with
  |ptr=>exact D
  |own j w1 n1=>
   obtain⟨q,q1,q2,q3⟩:=D;by_cases hj:j=id
   ·subst hj;rcases U with⟨_,S⟩|hf
    ·rw[hid]at q1;simp at q1;subst q1;exact⟨r',Bn _ _ _ _ hid,by omega,by omega⟩
    ·exact absurd rfl hf
   ·exact⟨q,by grind [AY],q2,q3⟩
  |rptr j i1 s1=>
   obtain⟨q,q1,q2⟩:=D;by_cases hj:j=id
   ·subst hj;rcases U with⟨_,S⟩|hf
    ·rw[hid]at q1;simp at q1;subst q1;exact⟨r',Bn _ _ _ _ hid,by omega⟩
    ·exact absurd rfl hf
   ·exact⟨q,by grind [AY],q2⟩
  |vptr=>exact D
  |clo=>exact D
  |_=>trivial
 have a4:∀(a:AC) (x:Value),Q a->CC ρ w a x->CC {ρ with rv:=upN ρ.rv id v'} w' a x:=by
  rintro a x ⟨_,U⟩ hx;refine CC.mono (ρ:=ρ) (ρ':={ρ with rv:=upN ρ.rv id v'}) (λb hb=>hb) Y a x ?_ hx;have key:∀j,((v'=ρ.rv id/\r'.n=r.n)\/j≠id)->upN ρ.rv id v' j=ρ.rv j:=by
   intro j hj;by_cases b4:j=id
   ·simp_all [AE]
   ·grind [AO]
  cases a with
  |own j _ _=>exact⟨key j U,rfl⟩
  |rptr j _ _=>exact⟨key j U,rfl⟩
  |ptr=>rfl
  |clo f fs cs=>exact⟨λa _=>by cases a<;>first|rfl|trivial,λa _=>by cases a<;>first|rfl|trivial⟩
  |_=>trivial
 have a5:∀v∈tm,match v with| .v _ cs=>∀a∈cs,Q a| .tup ps=>∀p∈ps,∀a∈p.2,Q a| .vD=>True:=by
  intro v hv;have h1:=h.wt v hv;have h2:(v'=ρ.rv id/\r'.n=r.n)\/TV.free id v:=FA a3 (λx=>x) λx=>x.1 v hv;cases v with
  |vD=>trivial
  |v g cs=>exact λa D=>⟨h1 a D,FA h2 (λx=>x) λx=>x a D⟩
  |tup ps=>exact λp hp a D=>⟨h1 p hp a D,FA h2 (λx=>x) λx=>x p hp a D⟩
 have a6:∀(k:Nat) (b:Box),Aa aB k=some b->∀a∈b.cells,Q a:=λk b G a D=>⟨h.wb k b G a D,FA a3 (λx=>x) λx=>x.2 k b G a D⟩;have O:∀g,v'.ownBlock=some g->(ρ.rv id).ownBlock=some g\/w.heap.size<=g:=by
  intro g e;rcases X with hp|hp
  ·grind
  ·grind
 refine⟨h.tl,λi v hi=>TVR.mono2 a4 (a5 v (ay hi)) (h.tv i v hi),λv hv=> ?_,λk b G a D=>a1 a (a6 k b G a D),?_,h.bi,?_,?_,?_,?_,?_,?_,h.i0,h.i1,λk b G=>h.k0 k b G⟩
 ·have:=a5 v hv;cases v with
  |vD=>trivial
  |v g cs=>exact λa D=>a1 a (this a D)
  |tup ps=>exact λp hp a D=>a1 a (this p hp a D)
 ·intro k b G;obtain⟨ar,h1,h2,h3⟩:=h.bx k b G;refine⟨ar,?_,h2.mono λa D x hx=>a4 a x (a6 k b G a D) hx,h3⟩;rw[hg.block _ (Ut h1) (λe=>h.br k b id r G hid e.symm)];exact h1
 ·intro j q U;rcases N j q U with⟨e1,e2⟩|⟨L,E⟩
  ·subst e1 e2;obtain⟨q1,q2,q0,_⟩:=h.ro j r hid;refine⟨by omega,by grind,?_,xs,?_,a2⟩
   ·intro g T hf;change (upN ρ.rv j v' j).ownBlock=some g at T;rw[AE]at T;rcases O g T with S|S
    ·grind
    ·exact Nat.lt_irrefl _ (ax (h.fs g hf) S)
   simp_all [upN]
  ·obtain⟨h1,h2,h0,ys,h3,h4⟩:=h.ro j q E;refine⟨h1,h2,by simp_all [upN],ys,?_,h4.mono (λb hb=>hb) Y⟩;show A_ w' q.ty q.w (upN ρ.rv id v' j) q.n ys;rw[AO _ _ _ L];exact De h3 λg T=>hg.block g (h.rwlt E T).2 (λe=>L (h.ri j id q r g E hid T e.symm))
 ·intro j j' q q' g U b1 J A;change (upN ρ.rv id v' j).ownBlock=_ at J;change (upN ρ.rv id v' j').ownBlock=_ at A;rcases N j q U with⟨e1,_⟩|⟨L,E⟩<;>rcases N j' q' b1 with⟨e2,_⟩|⟨a0,V⟩
  ·omega
  ·rw[e1,AE]at J;rw[AO _ _ _ a0]at A;rcases O g J with S|S
   ·rw[e1];exact(h.ri j' id q' r g V hid A S).symm
   ·have:=(h.rwlt V A).2;omega
  ·rw[e2,AE]at A;rw[AO _ _ _ L]at J;rcases O g A with S|S
   ·rw[e2];exact h.ri j id q r g E hid J S
   ·have:=(h.rwlt E J).2;omega
  ·rw[AO _ _ _ L]at J;rw[AO _ _ _ a0]at A;exact h.ri j j' q q' g E V J A
 ·intro k b j q G U he;change (upN ρ.rv id v' j).ownBlock=some (ρ.bx k)at he;rcases N j q U with⟨e1,_⟩|⟨L,E⟩
  ·rw[e1,AE]at he;rcases O _ he with S|S
   ·exact h.br k b id r G hid S
   ·have:=h.bxlt G;omega
  ·rw[AO _ _ _ L]at he;exact h.br k b j q G E he
 ·intro b b2;obtain⟨h1,h2,h3⟩:=h.ib b b2;refine⟨ax h1 hg.size,h2,λj q U he=> ?_⟩;change (upN ρ.rv id v' j).ownBlock=some b at he
  grind [AE,AO]
 ·refine h.fr.grown hg h.fs λg e=>(h.rwlt hid e).1
 ·exact λk G=>ax (h.fs k G) hg.size
end
open Go.RowKit
def BA (F:Nat->Prop) (w:World) (ρ:Env) (aB:List (Nat×Box)) (A:Gt F w):Base:=⟨F,w,ρ.im,λk=>(Aa aB k).map λ_=>ρ.bx k,A⟩
def PCallM (P:Program) (f:FuncId) (args:List TV) (mem:Mem) (v:TV) (mem':Mem):Prop:=
 ∀{F:Nat->Prop} {w:World} {A:Gt F w} (ρ:Env) (xs:List Value),RelE (BA F w ρ mem.aB A) args mem.aB mem.aC ρ xs.toArray w->
  Calls P f xs.toArray w λe w'=>∃(x:Value) (D:Env),e= .returned x/\RelE (BA F w ρ mem.aB A) [v] mem'.aB mem'.aC D #[x] w'
def Ft (P:Program) (f:FuncId):Prop:=∃fn,P.funcs[f]? =some fn/\(fn.name== "runtime.NumGoroutine")=false/\fn.body.isNone=false
def CallsX (P:Program) (f:FuncId) (xs:Array Value) (w:World) (R:Ending->World->Prop):Prop:=
 (Ft P f/\Calls P f xs w R)\/∃x w',(callFunc f xs).run P w= .ok (.value x) w'/\R (.returned x) w'
theorem CallsX.mono {P:Program} {f:FuncId} {xs:Array Value} {w:World} {R R':Ending->World->Prop} (h:CallsX P f xs w R) (A:∀e w',R e w'->R' e w'):CallsX P f xs w R':=by
 rcases h with⟨h1,h2⟩|⟨x,w',h1,h2⟩
 ·exact .inl ⟨h1,h2.mono A⟩
 ·exact .inr ⟨x,w',h1,A _ _ h2⟩
def IE (P:Program) (f:FuncId) (args:List TV) (mem:Mem) (v:TV) (mem':Mem):Prop:=
 ∀{F:Nat->Prop} {w:World} {A:Gt F w} (ρ:Env) (xs:List Value),RelE (BA F w ρ mem.aB A) args mem.aB mem.aC ρ xs.toArray w->
  CallsX P f xs.toArray w λe w'=>∃(x:Value) (D:Env),e= .returned x/\RelE (BA F w ρ mem.aB A) [v] mem'.aB mem'.aC D #[x] w'
theorem PCallM.x {P:Program} {f:FuncId} {args:List TV} {mem:Mem} {v:TV} {mem':Mem} (h:PCallM P f args mem v mem') (A:Ft P f):IE P f args mem v mem':=
 λρ xs D=> .inl ⟨A,h ρ xs D⟩
structure SpecRight (P : Program) (f : FuncId) (g : Spec) : Prop where
 nat:∀(R:Type) (args:List TV) (mem:Mem) (K:TV->Mem->Option R),g R args mem K=(g (TV×Mem) args mem λv m=>some (v,m)).bind λp=>K p.1 p.2
 ok:∀(args:List TV) (mem:Mem) (v:TV) (mem':Mem),(g (TV×Mem) args mem λv m=>some (v,m))=some (v,mem')->IE P f args mem v mem'
def IZ (g:Spec):Prop:=∀(args:List TV) (mem:Mem) (v:TV) (m:Mem),(g (TV×Mem) args mem λv m=>some (v,m))=some (v,m)->m=mem
def Ry (P:Program) (f:FuncId) (g:Spec):Prop:=
 ∀(args:List TV) (mem:Mem) (v:TV) (mem':Mem),(g (TV×Mem) args mem λv m=>some (v,m))=some (v,mem')->
  ∀{F:Nat->Prop} {w:World} {A:Gt F w} (ρ:Env) (xs:List Value),RelE (BA F w ρ mem.aB A) args mem.aB mem.aC ρ xs.toArray w->
   CallsX P f xs.toArray w λe w'=>∃(x:Value) (D:Env),e= .returned x/\RelE (BA F w ρ mem.aB A) [v] mem'.aB mem'.aC D #[x] w'/\D.rv base=ρ.rv base
def Ak (P:Program) (C:Cfg):Prop:=
 (∀(f:FuncId) (g:Spec),C.spec f=some g->SpecRight P f g)/\(∀(f:FuncId) (g:Spec),C.spec f=some g->C.ro f=true->IZ g)/\∀(f:FuncId) (g:Spec),C.spec f=some g->C.keepR f=true->Ry P f g
theorem SpecRight.run2 {P:Program} {f:FuncId} {g:Spec} (h:SpecRight P f g) {R:Type} {args:List TV} {mem:Mem} {K:TV->Mem->Option R} {r:R} (A:g R args mem K=some r):
  ∃v mem',K v mem'=some r/\(g (TV×Mem) args mem λv m=>some (v,m))=some (v,mem'):=by grind [h.nat,Option.bind_eq_some_iff]
theorem SpecRight.run {P:Program} {f:FuncId} {g:Spec} (h:SpecRight P f g) {R:Type} {args:List TV} {mem:Mem} {K:TV->Mem->Option R} {r:R} (A:g R args mem K=some r):
  ∃v mem',K v mem'=some r/\IE P f args mem v mem':=by
 rw[h.nat]at A;simp only[ai]at A;obtain⟨⟨v,m⟩,h1,h2⟩:=A;exact⟨v,m,h2,h.ok args mem v m h1⟩
def Prim.wf (aB:List (Nat×Box)) (aC:List (Nat×Row)):Prim->Prop
 | .val v=>TV.wf aB aC v
 | .load _ _ key _=>∃b,Aa aB key=some b
 | .store key _ cs=>(∃b,Aa aB key=some b)/\∀a∈cs,AC.wf aB aC a
 | .new _ cs=>∀a∈cs,AC.wf aB aC a
 | .newS _ _ cs=>∀a∈cs,AC.wf aB aC a
 | .rload _ _ id idx _=>∃r,Aa aC id=some r/\idx<r.n
 | .rstore id idx _ _=>∃r,Aa aC id=some r/\idx<r.n
 | .append _ _ _ s x=>AC.wf aB aC s/\AC.wf aB aC x
 | .appD _ _ _ s x=>AC.wf aB aC s/\AC.wf aB aC x
 | .call _ args=>∀v∈args,TV.wf aB aC v
 | .callM _ args=>∀v∈args,TV.wf aB aC v
 | .callF _ args=>∀v∈args,TV.wf aB aC v
 | .callD _ args=>∀v∈args,TV.wf aB aC v
 |_=>True
section
variable {P:Program} {C:Cfg} {ρ:Env} {w:World} {R:Type} {Z:Base} {tm:List TV} {aB:List (Nat×Box)} {aC:List (Nat×Row)} {tmps:Array Value}
theorem BV {α β:Type} (g:α->β):∀(l:List (Nat×α)) (k:Nat),Aa (l.map λp=>(p.1,g p.2)) k=(Aa l k).map g
 |[],_=>rfl
 |(j,b)::l,k=>by
  simp only[av,Aa,BV g l k]
  grind
theorem AC.kill_wf {id:Nat} {a:AC} (h:AC.wf aB aC a):AC.wf aB aC (a.kill id):=by
 cases a with
 |own j w n=>simp only[AC.kill];cases Nat.beq j id<;>first|exact h|trivial
 |rptr j i s=>simp only[AC.kill];cases Nat.beq j id<;>first|exact h|trivial
 |_=>exact h
theorem AC.kill_free (id:Nat) (a:AC):AC.free id (a.kill id):=by
 cases a with
 |own j w n=>
  simp only[AC.kill];cases hb:Nat.beq j id
  ·exact λe=>by simp_all
  ·trivial
 |rptr j i s=>
  simp only[AC.kill];cases hb:Nat.beq j id
  ·exact λe=>by simp_all
  ·trivial
 |_=>trivial
theorem AC.kill_CC {id:Nat} {a:AC} {x:Value} (h:CC ρ w a x):CC ρ w (a.kill id) x:=by
 cases a with
 |own j w n=>simp only[AC.kill];cases Nat.beq j id<;>first|exact h|exact h.one
 |rptr j i s=>simp only[AC.kill];cases Nat.beq j id<;>first|exact h|exact h.one
 |_=>exact h
theorem CL.kill {id:Nat}:∀{l:List AC} {xs:List Value},CL (CC ρ w) l xs->CL (CC ρ w) (l.map (AC.kill id)) xs
 |[],[],_=>trivial
 |_::_,_::_,h=>⟨AC.kill_CC h.1,CL.kill h.2⟩
 |[],_::_,h=>h.elim
 |_::_,[],h=>h.elim
theorem TV.kill_TVR {id:Nat} {v:TV} {x:Value} (h:TVR ρ w v x):TVR ρ w (v.kill id) x:=by
 cases v with
 |vD=>trivial
 |tup ps=>
  obtain⟨D,rfl,A⟩:=h;refine⟨D,rfl,?_⟩;generalize D.toList=l at A;induction ps generalizing l with
  |nil=>grind
  |cons p ps G=>
   cases l with
   |nil=>exact A.elim
   |cons y l=>
    obtain⟨g,cs⟩:=p;refine⟨?_,G l A.2⟩;have:=A.1;cases g
    ·obtain⟨a,h1,E⟩:=this;simp_all [AC.kill_CC]
    ·obtain⟨L,h1,J⟩:=this;grind [J.kill]
 |v g cs=>
  cases g
  ·obtain⟨a,rfl,E⟩:=h;exact⟨_,rfl,AC.kill_CC E⟩
  ·obtain⟨D,rfl,A⟩:=h;exact⟨D,rfl,A.kill⟩
theorem TV.kill_wf {id:Nat} {v:TV} (h:TV.wf aB aC v):TV.wf aB aC (v.kill id):=by
 cases v with
 |v g cs=>
  intro a A;simp only[am]at A;obtain⟨b,hb,rfl⟩:=A;exact AC.kill_wf (h b hb)
 |tup ps=>
  intro p D a A;simp only[am]at D;obtain⟨q,E,rfl⟩:=D;simp only[am]at A;obtain⟨b,hb,rfl⟩:=A;exact AC.kill_wf (h q E b hb)
 |_=>trivial
theorem TV.kill_free (id:Nat) (v:TV):TV.free id (v.kill id):=by
 cases v with
 |v g cs=>
  intro a A
  grind [AC.kill_free]
 |tup ps=>
  intro p D a A
  grind [AC.kill_free]
 |_=>trivial
theorem RelE.kill (h:RelE Z tm aB aC ρ tmps w) (id:Nat):
  RelE Z (tm.map (TV.kill id)) (aB.map λp=>(p.1,p.2.kill id)) aC ρ tmps w:=by
 have J:∀k,Aa (aB.map λp=>(p.1,p.2.kill id)) k=(Aa aB k).map (Box.kill id):=λk=>BV (Box.kill id) aB k;have A:∀(k:Nat) (b:Box),Aa (aB.map λp=>(p.1,p.2.kill id)) k=some b->∃b',Aa aB k=some b'/\b=b'.kill id:=by
  intro k b D;rw[J]at D;cases Y:Aa aB k with
  |none=>grind
  |some b'=>grind
 have G:∀a,AC.wf aB aC a->AC.wf (aB.map λp=>(p.1,p.2.kill id)) aC a:=λa=>AC.wf_mono (λk b D=>⟨b.kill id,by grind⟩) (λk r D=>⟨r,D,rfl,rfl⟩);refine⟨by grind [h.tl],?_,?_,?_,?_,?_,h.ro,h.ri,?_,?_,h.fr,h.fs,h.i0,h.i1,?_⟩
 ·intro i v Q;simp only[bn,ap]at Q;obtain⟨u,L,rfl⟩:=Q;exact TV.kill_TVR (h.tv i u L)
 ·intro v S;simp only[am]at S;obtain⟨u,L,rfl⟩:=S;exact TV.wf_mono G (TV.kill_wf (h.wt u L))
 ·intro k b D a T;obtain⟨b',E,rfl⟩:=A k b D;simp only[Box.kill,am]at T;obtain⟨c,U,rfl⟩:=T;exact G _ (AC.kill_wf (h.wb k b' E c U))
 ·intro k b D;obtain⟨b',E,rfl⟩:=A k b D;obtain⟨arr,h1,h2,h3⟩:=h.bx k b' E;exact⟨arr,h1,h2.kill,h3⟩
 ·intro k k' b b' D N;obtain⟨_,O,_⟩:=A k b D;obtain⟨_,V,_⟩:=A k' b' N;exact h.bi k k' _ _ O V
 ·intro k b id' r D X;obtain⟨_,O,_⟩:=A k b D;exact h.br k _ id' r O X
 ·intro b hb;obtain⟨q1,q2,q3⟩:=h.ib b hb
  grind
 ·intro k b D;obtain⟨q1,bo,q2⟩:=h.k0 k b D
  grind
theorem RZ {im:Nat->Prop} {ks:List Kd} {b o:Nat}:∀(l:List (List AC)),(∀c∈l,Ap ks c=c)->CPss im w ks.length l b o->
  ∃A,RowC im w ks l A/\FU w b o A:=by
 intro l G h;induction l generalizing o with
 |nil=>exact⟨[],⟨by simp,by simp,λi c J=>by grind⟩,λj y h=>by grind⟩
 |cons c l L=>
  rw[CPss]at h;obtain⟨A,⟨h1,h2,h3⟩,N⟩:=L (λc U=>G c (by grind)) h.2;obtain⟨E,O,Q⟩:=Jg _ _ _ h.1.2;have S:E.length=ks.length:=by rw[<-O.length];exact h.1.1
  refine⟨E++A,⟨by grind,G,λi c' J=> ?_⟩,λj y D=> ?_⟩
  ·cases i with
   |zero=>simp_all [cut]
   |succ i=>simp_all [cut,du,List.drop_append,dy]
  ·rw[cb]at D;split at D
   ·exact Q j y D
   ·rename_i T;have:=N (j-E.length) y D
    grind
theorem HS {im:Nat->Prop} {ks:List Kd} {l:List (List AC)} {xs:List Value} {v:Value} {e:TypeId} (D:A_ w e ks.length v l.length xs) (A:RowC im w ks l xs)
  (J:∀g,v.ownBlock=some g->im g):CP im w (.vC ks l) v:=by
 rw[CP];rcases D.2 with⟨e1,e2⟩|⟨E,o,cap,cur,e1,e3,O,Q,S,e7⟩
 ·grind
 ·refine⟨some ⟨E,o,none⟩,cap,e1,O,A.2.1, .inr ⟨E,o,rfl,J E (by rw[e1];rfl),Fs λi N=> ?_⟩⟩;have L:=A.2.2 i l[i] (ah N);refine⟨?_,?_⟩
  ·rw[<-A.2.1 l[i] (bq N)];exact GH _ _
  ·refine Hw _ (cut xs (i*ks.length) ks.length) E _ L ?_;intro j y G;simp only[cut,b7]at G;split at G
   ·rw[bp]at G;have:=EQ D (g:=E) (by rw[e1];rfl) (i*ks.length+j) y G
    grind [Cx]
   grind
theorem FT {a:AC} {x:Value} {D:Env} {w':World} (E:a.plain=true) (h:CC ρ w a x) (A:CP ρ.im w a x->CP D.im w' a x):CC D w' a x:=by
 cases a<;>first|exact A h|grind [AC.plain]
theorem Mu {ρ2:Env} {v:TV} {x:Value} {w':World} (E:v.plainB=true) (D:∀(a:AC) (x:Value),a.plain=true->CP ρ.im w a x->CP ρ2.im w' a x) (h:TVR ρ w v x):TVR ρ2 w' v x:=by
 have Q:∀{l:List AC} {xs:List Value},Ab AC.plain l=true->CL (CC ρ w) l xs->CL (CC ρ2 w') l xs:=λO h=>h.mono λa G x S=>FT (Af.1 O a G) S (D a x (Af.1 O a G));cases v with
 |vD=>trivial
 |v g cs=>
  cases g
  ·obtain⟨a,rfl,G⟩:=h;exact⟨a,rfl,FT (Af.1 E a (by simp)) G (D a x (Af.1 E a (by simp)))⟩
  ·obtain⟨L,rfl,A⟩:=h;exact⟨L,rfl,Q E A⟩
 |tup ps=>
  obtain⟨L,rfl,A⟩:=h;refine⟨L,rfl,?_⟩;generalize L.toList=l at A;simp only[TV.plainB]at E;induction ps generalizing l with
  |nil=>cases l<;>first|exact A|exact A.elim
  |cons p ps T=>
   cases l with
   |nil=>exact A.elim
   |cons y l=>
    obtain⟨g,cs⟩:=p;have J:=Af.1 E (g,cs) (by simp);have N:Ab (λp:Bool×List AC=>Ab AC.plain p.2) ps=true:=Af.2 λq U=>Af.1 E q (by grind);refine⟨?_,T N l A.2⟩;have:=A.1;cases g
    ·obtain⟨a,h1,G⟩:=this;subst h1;exact⟨a,rfl,FT (Af.1 J a (by simp)) G (D a y (Af.1 J a (by simp)))⟩
    grind
theorem KX {im A:Nat->Prop} {w w':World} {a:AC} {x:Value} (D:a.flat=true) (h:CP im w a x):CP A w' a x:=by
 cases a<;>simp only[CP,AC.flat]at* <;>first|exact h|grind
theorem Qx {J:Env} {v:TV} {x:Value} {w':World} (D:v.flat=true) (h:TVR ρ w v x):TVR J w' v x:=by
 have O:∀{l:List AC} {xs:List Value},Ab AC.flat l=true->CL (CC ρ w) l xs->CL (CC J w') l xs:=λN h=>h.mono λa E x U=>by
  have:=Af.1 N a E;have Q:a.plain=true:=by cases a<;>first|rfl|grind [AC.flat]
  grind [FT,KX]
 have h1:∀{a:AC} {x:Value},a.flat=true->CC ρ w a x->CC J w' a x:=fun{a x} N h=>by
  have Q:a.plain=true:=by cases a<;>first|rfl|grind [AC.flat]
  grind [FT,KX]
 cases v with
 |vD=>trivial
 |v g cs=>
  cases g
  ·obtain⟨a,rfl,E⟩:=h;exact⟨a,rfl,h1 (Af.1 D a (by simp)) E⟩
  ·obtain⟨G,rfl,A⟩:=h;exact⟨G,rfl,O D A⟩
 |tup ps=>
  obtain⟨G,rfl,A⟩:=h;refine⟨G,rfl,?_⟩;generalize G.toList=l at A;simp only[TV.flat]at D;induction ps generalizing l with
  |nil=>cases l<;>first|exact A|exact A.elim
  |cons p ps S=>
   cases l with
   |nil=>exact A.elim
   |cons y l=>
    obtain⟨g,cs⟩:=p;have T:=Af.1 D (g,cs) (by simp);have L:Ab (λp:Bool×List AC=>Ab AC.flat p.2) ps=true:=Af.2 λq V=>Af.1 D q (by grind);refine⟨?_,S L l A.2⟩;have:=A.1;cases g
    ·obtain⟨a,q1,E⟩:=this;simp_all [Af]
    grind
theorem Dp {v:TV} (h:v.plainB=true):TV.wf aB aC v:=by
 have A:∀{l:List AC},Ab AC.plain l=true->∀a∈l,AC.wf aB aC a:=λh a D=>by
  have:=Af.1 h a D;cases a<;>first|trivial|(simp[AC.plain]at this)
 cases v with
 |vD=>trivial
 |v g cs=>exact A h
 |tup ps=>exact λp E=>A (Af.1 h p E)
theorem NW {im:Nat->Prop} {a:AC} {x:Value} (h:CP im w a x):AC.wf aB aC a:=by
 cases a<;>first|trivial|(simp[CP]at h)
theorem PK {im:Nat->Prop} {l:List AC} {xs:List Value} (h:CL (CP im w) l xs):∀a∈l,AC.wf aB aC a:=by
 induction l generalizing xs with
 |nil=>simp
 |cons b l D=>
  cases xs with
  |nil=>exact h.elim
  |cons y xs=>
   intro a A;simp only[an]at A;rcases A with rfl|A
   ·exact NW h.1
   ·exact D h.2 a A
theorem Oe {O:Env} (J:∀(a E:AC) (x:Value),a.res aC=some E->CC ρ w a x->AC.wf aB aC a->CC O w E x) {v Q:TV} {x:Value} (N:v.res aC=some Q) (S:TV.wf aB aC v) (h:TVR ρ w v x):TVR O w Q x:=by
 have T:∀(cs D:List AC) (xs:List Value),Bt aC cs=some D->(∀a∈cs,AC.wf aB aC a)->CL (CC ρ w) cs xs->CL (CC O w) D xs:=by
  intro cs;induction cs with
  |nil=>intro D xs h1 _ h2;simp[Bt]at h1;subst h1;cases xs<;>first|exact h2|exact h2.elim
  |cons a cs U=>
   intro D xs h1 L h2;cases xs with
   |nil=>exact h2.elim
   |cons y xs=>
    simp only[Bt]at h1;split at h1
    ·rename_i E G;split at h1
     ·rename_i l' A;simp at h1;subst h1;exact⟨J a E y G h2.1 (L a (by simp)),U _ _ A (λb hb=>L b (by grind)) h2.2⟩
     grind
    grind
 cases v with
 |vD=>grind [TV.res]
 |tup ps=>grind [TV.res]
 |v g cs=>
  simp only[TV.res]at N;split at N
  ·rename_i l A;simp at N;subst N;cases g
   ·obtain⟨a,rfl,V⟩:=h;simp only[Bt]at A;split at A
    ·rename_i E G;simp at A;subst A;exact⟨E,rfl,J a E x G V (S a (by simp))⟩
    grind
   ·obtain⟨X,rfl,Y⟩:=h;exact⟨X,rfl,T _ _ _ A S Y⟩
  grind
theorem Sc {a A:AC} (h:a.res aC=some A):A.plain=true:=by
 cases a<;>simp only[AC.res]at h<;>try (simp at h;done)
 case own=>split at h<;>simp at h;subst h;rfl
 all_goals (simp at h;subst h;rfl)
theorem J7:∀{l D:List AC},Bt aC l=some D->Ab AC.plain D=true
 |[],D,h=>by simp[Bt]at h;subst h;rfl
 |a::l,D,h=>by
  simp only[Bt]at h;split at h
  ·rename_i J E;split at h
   ·rename_i G A;simp at h;subst h;simp only[Ab,Sc E,ac];exact J7 A
   grind
  grind
theorem JI:∀{l D:List TV},B5 aC l=some D->D.length=l.length/\∀(i:Nat) (G:TV),D[i]? =some G->G.plainB=true/\∃a,l[i]? =some a/\a.res aC=some G
 |[],D,h=>by simp_all [B5]
 |a::l,D,h=>by
  simp only[B5]at h;split at h
  ·rename_i G A;split at h
   ·rename_i J E;simp at h;subst h;obtain⟨h1,h2⟩:=JI E;refine⟨by grind,λi b hb=> ?_⟩;cases i with
    |zero=>
     simp at hb;subst hb;refine⟨?_,a,rfl,A⟩;cases a with
     |vD=>grind [TV.res]
     |tup=>grind [TV.res]
     |v g cs=>
      simp only[TV.res]at A;split at A
      ·rename_i q L;simp at A;subst A;exact J7 L
      grind
    |succ i=>grind
   grind
  grind
end
open Go.RowKit
section
variable {P:Program} {C:Cfg} {ρ:Env} {w:World} {R:Type} {Z:Base} {tm:List TV} {aB:List (Nat×Box)} {aC:List (Nat×Row)} {tmps:Array Value}
theorem DN {a b:Nat} (h:a≠b):Nat.beq a b=false:=by grind [Nat.eq_of_beq_eq_true]
theorem Cn {a b:Nat} (h:Nat.beq a b=false):a≠b:=by rintro rfl;simp at h
theorem TVR.map {G:Env} {w':World} {g:AC->AC} {v:TV} (L:∀(a:AC) (x:Value),AC.wf aB aC a->CC ρ w a x->CC G w' (g a) x) (D:TV.wf aB aC v) {x:Value} (h:TVR ρ w v x):
    TVR G w' (v.mapC g) x:=by
  have O:∀{l:List AC} {xs:List Value},(∀a∈l,AC.wf aB aC a)->CL (CC ρ w) l xs->CL (CC G w') (l.map g) xs:=by
    intro l;induction l with
    |nil=>intro xs _ h;cases xs<;>first|exact h|exact h.elim
    |cons a l J=>
      intro xs N h;cases xs with
      |nil=>exact h.elim
      |cons y xs=>exact⟨L a y (N a (by simp)) h.1,J (λb hb=>N b (by grind)) h.2⟩
  cases v with
  |vD=>trivial
  |v b cs=>
    cases b
    · obtain⟨a,rfl,Q⟩:=h;exact⟨g a,rfl,L a x (D a (by simp)) Q⟩
    · obtain⟨E,rfl,A⟩:=h;exact⟨E,rfl,O D A⟩
  |tup ps=>
    obtain⟨E,rfl,A⟩:=h;refine⟨E,rfl,?_⟩;generalize E.toList=l at A;induction ps generalizing l with
    |nil=>cases l<;>first|exact A|exact A.elim
    |cons p ps J=>
      cases l with
      |nil=>exact A.elim
      |cons y l=>
        obtain⟨b,cs⟩:=p;refine⟨?_,J (λq T=>D q (by grind)) l A.2⟩;have h1:=A.1;have S:=D (b,cs) (by simp);cases b
        · grind
        grind
theorem CL.mapg {A:Env} {w':World} {g:AC->AC}:∀{l:List AC} {xs:List Value},(∀(a:AC) (x:Value),AC.wf aB aC a->CC ρ w a x->CC A w' (g a) x)->(∀a∈l,AC.wf aB aC a)->CL (CC ρ w) l xs->CL (CC A w') (l.map g) xs
  |[],[],_,_,h=>h
  |a::l,y::xs,D,E,h=>⟨D a y (E a (by simp)) h.1,CL.mapg D (λb hb=>E b (by grind)) h.2⟩
  |[],_::_,_,_,h=>h.elim
  |_::_,[],_,_,h=>h.elim
theorem TV.wf_map {A:List (Nat×Box)} {D:List (Nat×Row)} {g:AC->AC} {v:TV} (J:∀a,AC.wf aB aC a->AC.wf A D (g a)) (L:TV.wf aB aC v):
    TV.wf A D (v.mapC g):=by
  cases v with
  |vD=>trivial
  |v b cs=>
    intro a E;simp only[am]at E;obtain⟨c,G,rfl⟩:=E;exact J c (L c G)
  |tup ps=>
    intro p N a E;simp only[am]at N;obtain⟨q,O,rfl⟩:=N;simp only[am]at E;obtain⟨c,G,rfl⟩:=E;exact J c (L q O c G)
theorem TV.fz_eq (id:Nat) (ks:List Kd) (l:List (List AC)) (v:TV):v.fz id ks l=v.mapC (AC.fz id ks l):=by rfl
theorem RelE.freeze (h:RelE Z tm aB aC ρ tmps w) {id:Nat} {r:Row} (hid:Aa aC id=some r):
    RelE Z (tm.map (TV.fz id r.ks r.l)) (aB.map λp=>(p.1,p.2.fz id r.ks r.l)) (del id aC) {ρ with im:=λb=>ρ.im b\/(ρ.rv id).ownBlock=some b} tmps w:=by
  have X:∀k,Aa (aB.map λp=>(p.1,p.2.fz id r.ks r.l)) k=(Aa aB k).map (Box.fz id r.ks r.l):=λk=>BV (Box.fz id r.ks r.l) aB k;have A:∀(k:Nat) (b:Box),Aa (aB.map λp=>(p.1,p.2.fz id r.ks r.l)) k=some b->∃b',Aa aB k=some b'/\b=b'.fz id r.ks r.l:=by
    intro k b D;rw[X]at D;cases hl:Aa aB k with
    |none=>grind
    |some b'=>grind
  have G:∀(k:Nat) (b:Box),Aa aB k=some b->∃b',Aa (aB.map λp=>(p.1,p.2.fz id r.ks r.l)) k=some b':=λk b D=>⟨b.fz id r.ks r.l,by grind⟩;obtain⟨q1,q2,q0,xs,q3,q4⟩:=h.ro id r hid;have O:CP (λb=>ρ.im b\/(ρ.rv id).ownBlock=some b) w (.vC r.ks r.l) (ρ.rv id):=
    HS q3 (q4.mono (λ_ h=> .inl h) (λ_ _=>rfl)) (λg hg=> .inr hg)
  have T:∀(a:AC) (x:Value),AC.wf aB aC a->CC ρ w a x->CC {ρ with im:=λb=>ρ.im b\/(ρ.rv id).ownBlock=some b} w (a.fz id r.ks r.l) x:=by
    intro a x _ Y;have Q:CC {ρ with im:=λb=>ρ.im b\/(ρ.rv id).ownBlock=some b} w a x:=CC.mono (ρ:=ρ) (ρ':={ρ with im:=λb=>ρ.im b\/(ρ.rv id).ownBlock=some b}) (λ_ h=> .inl h) (λ_ _=>rfl) a x (AC.agree_refl rfl rfl rfl a) Y;cases a with
    |own j w1 n1=>
      simp only[AC.fz];cases hb:Nat.beq j id
      · exact Q
      · have:=ab hb;subst this
        obtain⟨c1,_,_⟩:=Y;subst c1;exact O
    |rptr j i1 s1=>
      simp only[AC.fz];cases hb:Nat.beq j id
      · exact Q
      · exact Y.one
    |_=>exact Q
  have U:∀a,AC.wf aB aC a->AC.wf (aB.map λp=>(p.1,p.2.fz id r.ks r.l)) (del id aC) (a.fz id r.ks r.l):=by
    intro a E;cases a with
    |ptr k o=>obtain⟨b,hb⟩:=E;exact G k b hb
    |bsl k o=>obtain⟨b,hb⟩:=E;exact G k b hb
    |own j w1 n1=>
      simp only[AC.fz];cases hb:Nat.beq j id
      · obtain⟨q,J,L⟩:=E
        exact⟨q,by grind [DQ,Cn],L⟩
      · trivial
    |rptr j i1 s1=>
      simp only[AC.fz];cases hb:Nat.beq j id
      · obtain⟨q,J,L⟩:=E
        exact⟨q,by grind [DQ,Cn],L⟩
      · trivial
    |vptr=>exact E
    |clo f fs cs=>exact⟨λa Q=>AC.wfP_mono G (E.1 a Q),λa Q=>AC.wfP_mono G (E.2 a Q)⟩
    |_=>trivial
  refine⟨by grind [h.tl],?_,?_,?_,?_,?_,?_,?_,?_,?_,h.fr,h.fs,λb hb=> .inl (h.i0 b hb),?_,?_⟩
  · intro i v hi
    simp only[bn,ap]at hi;obtain⟨u,V,rfl⟩:=hi;rw[TV.fz_eq];exact TVR.map T (h.wt u (ay V)) (h.tv i u V)
  · intro v hv
    simp only[am]at hv;obtain⟨u,V,rfl⟩:=hv;rw[TV.fz_eq];exact TV.wf_map U (h.wt u V)
  · intro k b D a E
    obtain⟨b',N,rfl⟩:=A k b D;simp only[Box.fz,am]at E;obtain⟨c,hc,rfl⟩:=E;exact U _ (h.wb k b' N c hc)
  · intro k b D
    obtain⟨b',N,rfl⟩:=A k b D;obtain⟨arr,h1,h2,h3⟩:=h.bx k b' N;exact⟨arr,h1,CL.mapg T (h.wb k b' N) h2,h3⟩
  · intro k k' b b' D a0
    obtain⟨_,J,_⟩:=A k b D;obtain⟨_,L,_⟩:=A k' b' a0;exact h.bi k k' _ _ J L
  · intro j q S
    obtain⟨a3,a1⟩:=Er S;obtain⟨J,L,p0,ys,p3,p4⟩:=h.ro j q a1;exact⟨J,L,p0,ys,p3,p4.mono (λ_ h=> .inl h) (λ_ _=>rfl)⟩
  · intro j j' q q' g S a2
    exact h.ri j j' q q' g (Er S).2 (Er a2).2
  · intro k b j q D S
    obtain⟨_,J,_⟩:=A k b D;exact h.br k _ j q J (Er S).2
  · rintro b (hb|hb)
    · obtain⟨J,L,p3⟩:=h.ib b hb
      grind [Er]
    · refine⟨(h.rwlt hid hb).2,λk bo D e=> ?_,λj q S e=> ?_⟩
      · obtain⟨_,p,_⟩:=A k bo D
        exact h.br k _ id r p hid (by grind)
      · have hd:=Er S
        exact hd.1 (h.ri j id q r b hd.2 hid e hb)
  · rintro b (hb|hb)
    · exact h.i1 b hb
    grind
  · intro k b D
    obtain⟨J,bo,L⟩:=h.k0 k b D
    grind
theorem BO:∀{l:List Nat} {n:Nat},Am l n=true↔n∈l
  |[],n=>by simp[Am]
  |m::l,n=>by
    simp only[Am,an];cases h:Nat.beq m n
    · simp only[aj,BO (l:=l)]
      grind [Cn]
    simp_all
theorem EY {α:Type}:∀{l:List (Nat×α)} {k:Nat} {b:α},Aa l k=some b->(k,b)∈l
  |[],_,_,h=>by grind [Aa]
  |(j,c)::l,k,b,h=>by
    simp only[Aa]at h;cases hb:Nat.beq j k<;>rw[hb]at h
    · simp only[aj]at h;exact dc _ (EY h)
    simp_all
theorem Gx {α:Type} (q:Nat->Bool):∀{l:List (Nat×α)} {k:Nat} {b:α},Aa (l.filter λp=>q p.1) k=some b->Aa l k=some b/\q k=true
  |[],k,b,h=>by grind [Aa]
  |(j,c)::l,k,b,h=>by
    simp only[List.filter_cons]at h;cases A:q j
    · rw[A]at h
      simp only[Bool.false_eq_true,if_false]at h;obtain⟨h1,h2⟩:=Gx q (l:=l) h
      grind [Aa,DN]
    · rw[A]at h
      simp only[cq,Aa]at h⊢;cases hb:Nat.beq j k<;>rw[hb]at h
      · exact Gx q (l:=l) h
      simp_all
theorem DH {α:Type} (q:Nat->Bool):∀{l:List (Nat×α)} {k:Nat} {b:α},q k=true->Aa l k=some b->Aa (l.filter λp=>q p.1) k=some b
  |[],k,b,_,h=>by grind
  |(j,c)::l,k,b,A,h=>by
    simp only[List.filter_cons];simp only[Aa]at h;cases hb:Nat.beq j k<;>rw[hb]at h
    · simp only[aj]at h
      split
      · simp only[Aa,hb,aj];exact DH q A h
      · exact DH q A h
    simp_all [Aa]
theorem AC.wf_filter {keys ids:List Nat} {a:AC} (A:AC.inK keys ids a=true) (D:AC.wf aB aC a):AC.wf (aB.filter λp=>Am keys p.1) (aC.filter λp=>Am ids p.1||Bg p.1) a:=by
  have G:∀l:List AC,Ab (AC.inK.inP keys) l=true->(∀a∈l,AC.wfP aB a)->∀a∈l,AC.wfP (aB.filter λp=>Am keys p.1) a:=by
    intro l J L a D;have h1:=Af.1 J a D;have h2:=L a D;cases a<;>first|trivial|(obtain⟨b,hb⟩:=h2;exact⟨b,DH (Am keys) h1 hb⟩)
  cases a with
  |ptr k o=>obtain⟨b,E⟩:=D;exact⟨b,DH (Am keys) A E⟩
  |bsl k o=>obtain⟨b,E⟩:=D;exact⟨b,DH (Am keys) A E⟩
  |own id N n=>obtain⟨q,h1,h2⟩:=D;exact⟨q,DH (λk=>Am ids k||Bg k) (by grind [AC.inK]) h1,h2⟩
  |rptr id i s1=>obtain⟨q,h1,h2⟩:=D;exact⟨q,DH (λk=>Am ids k||Bg k) (by grind [AC.inK]) h1,h2⟩
  |vptr=>exact D
  |clo f fs cs=>
    simp only[AC.inK,af]at A;exact⟨G fs A.1 D.1,G cs A.2 D.2⟩
  |_=>trivial
theorem TV.wf_filter {keys ids:List Nat} {v:TV} (A:TV.inK keys ids v=true) (E:TV.wf aB aC v):TV.wf (aB.filter λp=>Am keys p.1) (aC.filter λp=>Am ids p.1||Bg p.1) v:=by
  cases v with
  |vD=>trivial
  |v g cs=>exact λa D=>AC.wf_filter (Af.1 A a D) (E a D)
  |tup ps=>exact λp G a D=>AC.wf_filter (Af.1 (Af.1 A p G) a D) (E p G a D)
theorem RelE.filter (h:RelE Z tm aB aC ρ tmps w) {keys ids:List Nat} {E:List TV} {A:Array Value} (L:E.length=A.size)
    (N:∀(i:Nat) (v:TV),E[i]? =some v->TVR ρ w v (A.getD i undef)) (O:∀v∈E,TV.wf aB aC v)
    (Q:Ab (TV.inK keys ids) E=true) (S:Ab (λp:Nat×Box=>Ab (AC.inK keys ids) p.2.cells) (aB.filter λp=>Am keys p.1)=true)
    (a0:∀k b,Z.K0 k=some b->Am keys k=true):
    RelE Z E (aB.filter λp=>Am keys p.1) (aC.filter λp=>Am ids p.1||Bg p.1) ρ A w:=by
  have hb:∀(k:Nat) (b:Box),Aa (aB.filter λp=>Am keys p.1) k=some b->Aa aB k=some b:=λk b D=>(Gx (Am keys) D).1;have J:∀(k:Nat) (b:Row),Aa (aC.filter λp=>Am ids p.1||Bg p.1) k=some b->Aa aC k=some b:=λk b D=>(Gx (λk=>Am ids k||Bg k) D).1;refine⟨L,N,λv X=>TV.wf_filter (Af.1 Q v X) (O v X),λk b D a Y=> ?_,λk b D=>h.bx k b (hb k b D),λk k' b b' D T=>h.bi k k' b b' (hb k b D) (hb k' b' T),
    λid q G=>h.ro id q (J id q G),λid id' q q' g G U=>h.ri id id' q q' g (J id q G) (J id' q' U),λk b id q D G=>h.br k b id q (hb k b D) (J id q G),λb V=> ?_,h.fr,h.fs,h.i0,h.i1,λk b D=> ?_⟩
  · exact AC.wf_filter (Af.1 (Af.1 S (k,b) (EY D)) a Y) (h.wb k b (hb k b D) a Y)
  · obtain⟨q1,q2,q3⟩:=h.ib b V
    grind
  · obtain⟨q1,bo,q2⟩:=h.k0 k b D
    simp_all [DH]
theorem RelE.lookB {A:List (Nat×Box)} {D:List (Nat×Row)} (h:RelE Z tm aB aC ρ tmps w) (hb:∀j,Aa aB j=Aa A j) (U:∀j,Aa aC j=Aa D j):RelE Z tm A D ρ tmps w:=by
  have G:∀a,AC.wf aB aC a->AC.wf A D a:=λa=>AC.wf_mono (λk b E=>⟨b,by grind⟩) (λk r E=>⟨r,by grind,rfl,rfl⟩);refine⟨h.tl,h.tv,λv N=>TV.wf_mono G (h.wt v N),λk b E a O=>G a (h.wb k b (by grind) a O),λk b E=>h.bx k b (by grind),λk k' b b' E Q=>h.bi k k' b b' (by grind) (by grind),
    λid q L=>h.ro id q (by grind),λid id' q S g L T=>h.ri id id' q S g (by grind) (by grind),λk b id q E L=>h.br k b id q (by grind) (by grind),λb J=> ?_,h.fr,h.fs,h.i0,h.i1,λk b E=> ?_⟩
  · obtain⟨q1,q2,V⟩:=h.ib b J
    grind
  · obtain⟨q1,bo,q2⟩:=h.k0 k b E
    grind
theorem RelE.reBox (h:RelE Z tm aB aC ρ tmps w) {g:Nat->Box->Box} (S:∀k b,(g k b).ty=b.ty)
    (T:∀(k:Nat) (b:Box),Aa aB k=some b->(∀(xs:List Value),CL (CC ρ w) b.cells xs->CL (CC ρ w) (g k b).cells xs)/\∀a∈(g k b).cells,AC.wf aB aC a):
    RelE Z tm (aB.map λp=>(p.1,g p.1 p.2)) aC ρ tmps w:=by
  have G:∀(l:List (Nat×Box)) k,Aa (l.map λp=>(p.1,g p.1 p.2)) k=(Aa l k).map (g k):=by
    intro l;induction l with
    |nil=>intro k;rfl
    |cons p l X=>grind [Aa,Nat.eq_of_beq_eq_true]
  have A:∀(k:Nat) (b:Box),Aa (aB.map λp=>(p.1,g p.1 p.2)) k=some b->∃b',Aa aB k=some b'/\b=g k b':=by
    intro k b D;rw[G]at D;cases Y:Aa aB k with
    |none=>grind
    |some b'=>grind
  have J:∀(k:Nat) (b:Box),Aa aB k=some b->∃b',Aa (aB.map λp=>(p.1,g p.1 p.2)) k=some b':=λk b D=>⟨g k b,by grind⟩;have L:∀a,AC.wf aB aC a->AC.wf (aB.map λp=>(p.1,g p.1 p.2)) aC a:=λa=>AC.wf_mono J (λk r D=>⟨r,D,rfl,rfl⟩);refine⟨h.tl,h.tv,λv U=>TV.wf_mono L (h.wt v U),?_,?_,?_,h.ro,h.ri,?_,?_,h.fr,h.fs,h.i0,h.i1,?_⟩
  · grind
  · intro k b D
    obtain⟨b',N,rfl⟩:=A k b D;obtain⟨arr,h1,h2,h3⟩:=h.bx k b' N
    grind
  · intro k k' b b' D O
    obtain⟨_,E,_⟩:=A k b D;obtain⟨_,Q,_⟩:=A k' b' O;exact h.bi k k' _ _ E Q
  · intro k b j q D V
    obtain⟨_,E,_⟩:=A k b D;exact h.br k _ j q E V
  · intro b hb
    obtain⟨q1,q2,q3⟩:=h.ib b hb
    grind
  · intro k b D
    obtain⟨E,bo,Q⟩:=h.k0 k b D
    grind
theorem D5 {w:World}:∀(ks:List Kd) (cs:List AC) (xs:List Value),CL (CC ρ w) cs xs->CL (CC ρ w) (Bc ks cs) xs
  |[],cs,xs,h=>by cases cs<;>exact h
  | .sl ks::l,[],xs,h=>h
  | .int k::l,[],xs,h=>h
  | .bool::l,[],xs,h=>h
  | .raw::l,[],xs,h=>h
  |_::l,a::cs,[],h=>h.elim
  | .int _::l,a::cs,x::xs,h=>by simp only[Bc];exact⟨h.1,D5 l cs xs h.2⟩
  | .bool::l,a::cs,x::xs,h=>by simp only[Bc];exact⟨h.1,D5 l cs xs h.2⟩
  | .raw::l,a::cs,x::xs,h=>by simp only[Bc];exact⟨h.1,D5 l cs xs h.2⟩
  | .sl ks::l,a::cs,x::xs,h=>by
    cases a<;>simp only[Bc]<;>first
      |exact⟨h.1,D5 l cs xs h.2⟩
      | (refine ⟨?_, D5 l cs xs h.2⟩
         have h1:=h.1
         grind [CC,CP])
theorem EL:∀(ks:List Kd) (cs:List AC),(∀a∈cs,AC.wf aB aC a)->∀a∈Bc ks cs,AC.wf aB aC a
  |[],cs,h=>by cases cs<;>exact h
  | .sl ks::l,[],h=>h
  | .int k::l,[],h=>h
  | .bool::l,[],h=>h
  | .raw::l,[],h=>h
  | .int _::l,a::cs,h=>by
    simp only[Bc,an,ct]at h⊢;exact⟨h.1,EL l cs h.2⟩
  | .bool::l,a::cs,h=>by
    simp only[Bc,an,ct]at h⊢;exact⟨h.1,EL l cs h.2⟩
  | .raw::l,a::cs,h=>by
    simp only[Bc,an,ct]at h⊢;exact⟨h.1,EL l cs h.2⟩
  | .sl ks::l,a::cs,h=>by
    simp only[an,ct]at h;have A:=EL l cs h.2;cases a<;>simp only[Bc,an,ct]<;>first
      |exact⟨h.1,A⟩
      |exact⟨trivial,A⟩
theorem RH {α:Type} {l:List α} {n:Nat} {v x:α} (h:x∈setL l n v):x∈l\/x=v:=by grind [CF]
theorem CL.setL {A:AC->Value->Prop}:∀{l:List AC} {xs:List Value} (n:Nat) {a:AC},CL A l xs->(∀x,xs[n]? =some x->A a x)->CL A (setL l n a) xs
  |[],[],_,_,h,_=>h
  |b::l,x::xs,0,a,h,D=>⟨D x rfl,h.2⟩
  |b::l,x::xs,n+1,a,h,D=>⟨h.1,CL.setL n h.2 λy E=>D y (by grind)⟩
  |[],_::_,_,_,h,_=>h.elim
  |_::_,[],_,_,h,_=>h.elim
theorem RelE.promB (h:RelE Z tm aB aC ρ tmps w) {k o:Nat} {b:Box} (O:Aa aB k=some b) (ho:nth .vD b.cells o= .nilSl) {id:Nat} (hid:Aa aC id=none) {e:TypeId} {ks:List Kd} (Q:0<ks.length):
    RelE Z tm (upd aB k ⟨b.ty,setL b.cells o (.own id ks.length 0)⟩) (ins aC id ⟨e,ks,[]⟩) {ρ with rv:=upN ρ.rv id (.slice none 0 0),wd:=upN ρ.wd id ks.length} tmps w:=by
  have A:=h.addRow (d:=id) hid (r:=⟨e,ks,[]⟩) (v':= .slice none 0 0) (xs:=[]) (w':=w) (Below.refl _ _) Q (Gf w e ks.length) ⟨by simp,by simp,λi c hi=>by grind⟩ (λg hg=>by grind [Value.ownBlock]);have G:=Bs aC id (⟨e,ks,[]⟩:Row) hid;generalize hρ:({ρ with rv:=upN ρ.rv id (.slice none 0 0),wd:=upN ρ.wd id ks.length}:Env)=ρ2 at A;have e1:ρ2.rv id= .slice none 0 0:=by rw[<-hρ];exact AE _ _ _
  have e2:ρ2.wd id=ks.length:=by rw[<-hρ];exact AE _ _ _
  have S := A.reBox (g := λj c => bif Nat.beq j k then ⟨c.ty, setL c.cells o (.own id ks.length 0)⟩ else c) (λj c => by grind) (by
    intro j c N;cases hb:Nat.beq j k
    · exact⟨λxs h=>h,A.wb j c N⟩
    · have:=ab hb;subst this
      rw[O]at N;simp at N;subst N;simp only[ac];refine⟨λxs hx=>hx.setL o λx T=> ?_,λa U=> ?_⟩
      · have E:o<b.cells.length:=by
          rcases dl o b.cells.length with E|a0
          · omega
          · grind [Au]
        have hg:b.cells[o]? =some .nilSl:=by
          rw[Au,List.getD,ah E]at ho;rw[ah E];simpa using ho
        obtain⟨y,V,J⟩:=hx.get hg;rw[T]at V;simp at V;subst V;simp only[CC,CP]at J;subst J;exact⟨e1.symm,e2, .inl ⟨rfl,rfl⟩⟩
      · rcases RH U with U|rfl
        · exact A.wb j b O a U
        · exact⟨_,G,rfl,rfl⟩)
  have L:∀(l:List (Nat×Box)) (b':Box),Aa l k=some b'->∀j,Aa (l.map λp=>(p.1,bif Nat.beq p.1 k then(⟨p.2.ty,setL p.2.cells o (.own id ks.length 0)⟩:Box)else p.2)) j=Aa (upd l k ⟨b'.ty,setL b'.cells o (.own id ks.length 0)⟩) j:=by
    intro l;induction l with
    |nil=>grind [Aa]
    |cons p l ih=>
      intro b' D j;obtain⟨q,c⟩:=p;simp only[Aa]at D;cases X:Nat.beq q k
      · simp_all [upd,Aa]
      · rw[X]at D;simp at D;subst D
        have:=ab X;subst this;simp only[av,upd,X,ac,Aa];cases Y:Nat.beq q j
        · simp only[aj]
          have a1:=Cn Y;have:∀m:List (Nat×Box),Aa (m.map λp=>(p.1,bif Nat.beq p.1 q then(⟨p.2.ty,setL p.2.cells o (.own id ks.length 0)⟩:Box)else p.2)) j=Aa m j:=by
            intro m;induction m with
            |nil=>rfl
            |cons p m a2=>grind [Aa,DN]
          grind
        · rfl
  exact S.lookB (L aB b O) λ_=>rfl
end
end Go.Bm
