/- the abstract machine -/
import Derived.WalkKit
import Derived.ProofKit
import Derived.Laws.StructEq
import Derived.Maps.AppendAt
set_option linter.unusedVariables false
set_option linter.defProp false
set_option linter.unusedSimpArgs false
namespace Go.Bm
theorem ab {c:Prop} {_:Decidable c} (h:¬c:=by omega) {α:Sort _} {t e:α}:ite c t e=e:=if_neg h
theorem ac {c:Prop} {_:Decidable c} (h:c:=by omega) {α:Sort _} {t e:α}:ite c t e=t:=if_pos h
theorem af {a b c:Int} (h:a<=b:=by omega) (k:0<=c:=by omega):c*a<=c*b:=Int.mul_le_mul_of_nonneg_left h k
abbrev ag:=@Int.toNat_natCast
abbrev ah:=@Nat.eq_of_beq_eq_true
def ai {a b:Int} (h:0<=a:=by omega) (k:a<=b:=by omega):a*a<=b*b:=Int.mul_self_le_mul_self h k
abbrev aj:=@List.length_map
abbrev ak:=@Bool.and_eq_true
def al {a b:Int} (h:0<=a:=by omega) (k:0<=b:=by omega):0<=a*b:=Int.mul_nonneg h k
abbrev am:=@cond_true
abbrev an:=@List.getElem?_eq_getElem
def ap {a b c:Int} (h:a<=b:=by omega) (k:0<=c:=by omega):a*c<=b*c:=Int.mul_le_mul_of_nonneg_right h k
abbrev aq:=@Option.bind_some
abbrev av:=@decide_eq_true
abbrev ba:=@decide_eq_false
abbrev bc:=@Nat.le_of_ble_eq_true
abbrev be:=@List.mem_cons
abbrev bh:=@Int.eq_ofNat_of_zero_le
abbrev bj:=@List.mem_map
abbrev bm:=@Option.some.injEq
abbrev bn:=@cond_false
abbrev bp:=@Option.bind_eq_some_iff
abbrev bt:=@List.mem_append
abbrev bv:=@Int.natAbs_mul_self
abbrev bz:=@List.map_cons
abbrev cg:=@List.length_append
abbrev co:=@Nat.le_trans
abbrev cq:=@List.nil_append
def cv {a b c d:Int} (h:a<=b:=by omega) (k:c<=d:=by omega) (i:0<=c:=by omega) (j:0<=b:=by omega):a*c<=b*d:=Int.mul_le_mul h k i j
abbrev da:=@List.cons_append
abbrev db:=@Nat.mul_le_mul_right
abbrev dc:=@Option.map_eq_some_iff
abbrev de:=@Eq.trans
abbrev df:=@List.mem_of_getElem?
abbrev dg:=@Int.tdiv_eq_ediv_of_nonneg
abbrev dh:=@Int.le_trans
def dk {a b:Int} (h:0<a:=by omega) (k:0<b:=by omega):0<a*b:=Int.mul_pos h k
abbrev dl:=@List.getElem_mem
abbrev dm:=@Nat.le_refl
abbrev dq:=@Int.le_of_mul_le_mul_left
abbrev dt:=@Array.getElem?_eq_some_iff
abbrev du:=@Nat.lt_of_lt_of_le
abbrev dv:=@Result.andThen_ok
abbrev dw:=@Int.le_of_mul_le_mul_right
abbrev dx:=@decide_eq_true_eq
abbrev dy:=@List.drop_eq_getElem_cons
abbrev dz:=@Nat.div_lt_iff_lt_mul
abbrev d8:=@List.map_append
abbrev d9:=@Nat.mul_le_mul
abbrev fa:=@Int.le_refl
abbrev fc:=@List.drop_of_length_le
abbrev fd:=@Int.mul_nonpos_of_nonneg_of_nonpos
abbrev fe:=@Nat.eq_zero_or_pos
abbrev ff:=@List.length_nil
abbrev fg:=@List.getElem?_drop
abbrev fh:=@List.mem_of_mem_drop
abbrev fj:=@List.mem_cons_of_mem
abbrev fm:=@Nat.mul_comm
abbrev fo:=@List.length_drop
abbrev fq:=@List.getElem?_map
abbrev fu:=@Array.length_toList
abbrev fv:=@List.getElem?_eq_some_iff
abbrev fw:=@Nat.zero_add
abbrev fx:=@List.map_nil
abbrev fy:=@List.mem_replicate
abbrev f6:=@List.getElem?_append
abbrev f7:=@Int.le_of_lt
abbrev f8:=@Nat.two_pow_pos
abbrev f9:=@Nat.div_add_mod
abbrev gf:=@List.cons.injEq
abbrev gh:=@List.length_cons
abbrev gi:=@Nat.ble_eq_true_of_le
abbrev gj:=@List.getElem?_take
abbrev gk:=@List.nodup_nil
abbrev gn:=@List.mem_or_eq_of_mem_set
abbrev gq:=@Int.one_mul
abbrev gv:=@Int.lt_of_mul_lt_mul_left
abbrev gw:=@List.mem_of_mem_take
abbrev gx:=@Nat.mod_lt
abbrev gy:=@Nat.div_le_self
abbrev gz:=@List.take_add_one
abbrev ia:=@List.ext_getElem?
abbrev ic:=@List.append_assoc
abbrev ie:=@Int.add_zero
abbrev ig:=@if_true
abbrev ij:=@congrArg
abbrev ik:=@Int.cast_ofNat_Int
abbrev il:=@Nat.mul_lt_mul_of_pos_right
abbrev ip:=@List.length_singleton
abbrev iq:=@List.foldl_cons
abbrev iu:=@Int.natCast_mul
abbrev iv:=@Int.add_mul
abbrev iw:=@Int.tmod_eq_emod_of_nonneg
abbrev iy:=@List.drop_zero
abbrev iz:=@Decidable.byContradiction
abbrev i6:=@forall_eq_or_imp
abbrev i7:=@List.getElem_map
abbrev i8:=@Nat.zero_le
abbrev i9:=@Int.mul_zero
abbrev ja:=@Prod.mk.injEq
abbrev jb:=@Nat.mul_assoc
abbrev jc:=@Nat.le_mul_of_pos_right
abbrev jd:=@Nat.add_assoc
abbrev je:=@Int.natCast_add
abbrev jf:=@Int.emod_lt_of_pos
abbrev jg:=@Int.ediv_eq_zero_of_lt
abbrev jh:=@Nat.add_mul
abbrev ji:=@iff_of_false
abbrev jk:=@Int.mul_comm
abbrev jl:=@Classical.choose_spec
abbrev jm:=@List.length_take
abbrev jn:=@List.eq_nil_of_length_eq_zero
abbrev jo:=@List.drop_append_of_le_length
abbrev jp:=@Array.toList_map
abbrev jq:=@Nat.mul_self_le_mul_self_iff
abbrev jr:=@Int.mul_assoc
abbrev js:=@List.length_pos_iff
abbrev jt:=@Int.max_eq_left
abbrev ju:=@Int.emod_nonneg
abbrev jv:=@Int.ediv_nonneg
abbrev jx:=@List.getD_eq_getElem?_getD
abbrev jy:=@Nat.lt_or_ge
abbrev jz:=@List.mem_singleton
abbrev j0:=@Int.natAbs_natCast
abbrev j6:=@Bool.false_eq_true
abbrev j7:=@Nat.mul_self_lt_mul_self
abbrev j8:=@if_false
abbrev j9:=@Int.neg_mul
abbrev ke:=@List.take_length
abbrev kf:=@Int.max_eq_right
abbrev kg:=@List.take_of_length_le
def Qf5:Option (Nat×List Value):=some (2,(List.range 20).map λi=>Value.int .u64 (10^i))
def Gt (F:Nat->Prop) (w:World):Prop:=∀g cs,Qf5=some (g,cs)->F g/\∃t z,w.heap[g]? =some (.cells cs.toArray t z)
theorem Gt.mono {F D:Nat->Prop} {w w':World} (h:Gt F w) (G:∀g cs,Qf5=some (g,cs)->F g->D g/\w'.heap[g]? =w.heap[g]?):Gt D w':=by
 intro g cs e;obtain⟨I,t,z,L⟩:=h g cs e;obtain⟨M,N⟩:=G g cs e I;exact⟨M,t,z,by rw[N];exact L⟩
inductive Kd where
 |int (k:IntKind)
 |bool
 |sl (ks:List Kd)
 |raw
inductive AC where
 |vD
 |int (k:IntKind) (n:Int)
 |bool (b:Bool)
 |raw (v:Value)
 |nilSl
 |ptr (key off:Nat)
 |own (id w n:Nat)
 |vC (ks:List Kd) (l:List (List AC))
 |rptr (id idx sub:Nat)
 |vptr (cells:List AC) (sub:Nat)
 |clo (f:FuncId) (first caps:List AC)
 |bsl (key n:Nat)
inductive TV where
 |vD
 |v (g:Bool) (cs:List AC)
 |tup (ps:List (Bool×List AC))
abbrev TV.c (a:AC):TV:= .v false [a]
abbrev TV.agg (cs:List AC):TV:= .v true cs
def Af:AC->Int
 | .int _ n=>n
 |_=>0
def EJ:AC->Bool
 | .bool b=>b
 |_=>false
def Bp:AC->ByteArray
 | .raw (.string s)=>s
 |_=>⟨#[]⟩
def BI:AC->List (List AC)
 | .vC _ l=>l
 |_=>[]
structure Box where
 ty:TypeId
 cells:List AC
variable {R:Type}
def nth {α:Type} (d:α):List α->Nat->α
 |[],_=>d
 |x::_,0=>x
 |_::xs,n+1=>nth d xs n
def NR:Kd->AC->AC
 | .int k,a=> .int k (Af a)
 | .bool,a=> .bool (EJ a)
 | .sl ks,a=> .vC ks (BI a)
 | .raw, .raw v=> .raw v
 | .raw,_=> .vD
def EZ:List Kd->List AC->Nat->List AC
 |[],_,_=>[]
 |k::ks,cs,j=>NR k (nth .vD cs j)::EZ ks cs (j+1)
def AX (ks:List Kd) (cs:List AC):List AC:=EZ ks cs 0
structure Row where
 ty:TypeId
 ks:List Kd
 l:List (List AC)
abbrev Row.w (r:Row):Nat:=r.ks.length
abbrev Row.n (r:Row):Nat:=r.l.length
abbrev Row.f (r:Row) (i:Nat):List AC:=AX r.ks (nth [] r.l i)
structure Mem where
 aB:List (Nat×Box)
 aC:List (Nat×Row)
structure St where
 tmps:List TV
 aB:List (Nat×Box)
 aC:List (Nat×Row)
def setL {α:Type}:List α->Nat->α->List α
 |[],_,_=>[]
 |_::xs,0,v=>v::xs
 |x::xs,n+1,v=>x::setL xs n v
def AY {α:Type}:List α->(List α->Option R)->Option R
 |[],K=>K []
 |x::xs,K=>AY xs λD=>K (x::D)
def Ab {α:Type}:List (Nat×α)->Nat->Option α
 |[],_=>none
 |(k,b)::l,key=>bif Nat.beq k key then some b else Ab l key
def upd {α:Type}:List (Nat×α)->Nat->α->List (Nat×α)
 |[],_,_=>[]
 |(k,b)::l,key,x=>bif Nat.beq k key then(k,x)::l else(k,b)::upd l key x
def ins {α:Type}:List (Nat×α)->Nat->α->List (Nat×α)
 |[],key,x=>[(key,x)]
 |(k,b)::l,key,x=>bif Nat.blt key k then(key,x)::(k,b)::l else(k,b)::ins l key x
def cut {α:Type} (l:List α) (off m:Nat):List α:=(l.drop off).take m
def splice {α:Type}:List α->Nat->List α->List α
 |l,_,[]=>l
 |[],_,_::_=>[]
 |_::xs,0,v::D=>v::splice xs 0 D
 |x::xs,n+1,v::D=>x::splice xs n (v::D)
def ON:Value->AC
 | .int k n=> .int k n
 | .bool b=> .bool b
 | .slice none 0 0=> .nilSl
 | .string s=> .raw (.string s)
 | .pointer none=> .raw (.pointer none)
 | .nilFunc=> .raw .nilFunc
 | .nilIface=> .raw .nilIface
 |_=> .vD
def Js:List Value->Option (List AC)
 |[]=>some []
 | v :: l => bif v.oneCell' then (match Js l with
  |some cs=>some (ON v::cs)
  |none=>none)else none
def ofValue:Value->TV
 | .agg cs=>match Js cs.toList with
  |some l=> .agg l
  |none=> .vD
 | .tuple _=> .vD
 |v=> .c (ON v)
def TV.cells:TV->Option (List AC)
 | .v _ cs=>some cs
 |_=>none
def TV.int? :TV->Option Int
 | .v false [.int _ n]=>some n
 |_=>none
def kEq:IntKind->IntKind->Bool
 | .i8, .i8| .i16, .i16| .i32, .i32| .i64, .i64| .u8, .u8| .u16, .u16| .u32, .u32| .u64, .u64=>true
 |_,_=>false
def AC.plain:AC->Bool
 | .int _ _| .bool _| .raw _| .nilSl| .vC _ _=>true
 |_=>false
def AC.calm:AC->Bool
 | .int _ _| .bool _| .raw _| .nilSl| .vC _ _| .vD=>true
 |_=>false
def Al {α:Type} (p:α->Bool):List α->Bool
 |[]=>true
 |x::l=>bif p x then Al p l else false
mutual
def E5:Kd->Kd->Bool
 | .int k, .int k'=>kEq k k'
 | .bool, .bool=>true
 | .sl ks, .sl D=>Dj ks D
 | .raw, .raw=>true
 |_,_=>false
def Dj:List Kd->List Kd->Bool
 |[],[]=>true
 |k::ks,k'::D=>bif E5 k k' then Dj ks D else false
 |_,_=>false
end
def Rp:Kd->AC->Option AC
 | .int k, .int k' n=>bif kEq k k' then some (.int k n)else none
 | .bool, .bool b=>some (.bool b)
 | .sl ks, .nilSl=>some (.vC ks [])
 | .sl ks, .vC D l=>bif Dj ks D then some (.vC ks l)else none
 | .raw, .raw v=>some (.raw v)
 |_,_=>none
def G2:List Kd->List AC->Option (List AC)
 |[],[]=>some []
 |k::ks,a::cs=>match Rp k a with
  |some G=>match G2 ks cs with
   |some D=>some (G::D)
   |none=>none
  |none=>none
 |_,_=>none
def H4 (ks:List Kd):Nat->List AC->Option (List (List AC))
 |0,[]=>some []
 |0,_=>none
 |n+1,cs=>match G2 ks (cs.take ks.length)with
  |some c=>match H4 ks n (cs.drop ks.length)with
   |some l=>some (c::l)
   |none=>none
  |none=>none
inductive Prim where
 |val (v:TV)
 |load (agg:Bool) (sz key off:Nat)
 |store (key off:Nat) (cells:List AC)
 |new (ty:TypeId) (cells:List AC)
 |newS (ty:TypeId) (n:Nat) (cells:List AC)
 |cutR (id a:Nat)
 |rload (agg:Bool) (sz id idx sub:Nat)
 |rstore (id idx sub:Nat) (cells:List AC)
 |append (e:TypeId) (ks:List Kd) (bytes:Nat) (s x:AC)
 |newRow (e:TypeId) (ks:List Kd) (l:List (List AC))
 |newView (e:TypeId) (ks:List Kd) (l:List (List AC))
 |make (e:TypeId) (ks:List Kd) (bytes:Nat) (n:Int) (z:List AC)
 |call (f:FuncId) (args:List TV)
 |callM (f:FuncId) (args:List TV)
 |callD (f:FuncId) (args:List TV)
 |callF (f:FuncId) (args:List TV)
 |appD (e:TypeId) (ks:List Kd) (bytes:Nat) (s x:AC)
def mn (x y:Int):Int:=if y<x then y else x
def mx (x y:Int):Int:=if y>x then y else x
def H0 (op:BinOp) (k:IntKind) (a b:Int) (K:AC->Option R):Option R:=
 match op with
 | .add=>K (.int k (k.wrap (a+b)))
 | .sub=>K (.int k (k.wrap (a-b)))
 | .mul=>K (.int k (k.wrap (a*b)))
 | .quo=>cond (decide (b=0)) none (K (.int k (k.wrap (a.tdiv b))))
 | .rem=>cond (decide (b=0)) none (K (.int k (a.tmod b)))
 | .and=>K (.int k (k.wrap ((BitVec.ofInt k.bits a&&&BitVec.ofInt k.bits b).toNat:Int)))
 | .or=>K (.int k (k.wrap ((BitVec.ofInt k.bits a|||BitVec.ofInt k.bits b).toNat:Int)))
 | .xor=>K (.int k (k.wrap ((BitVec.ofInt k.bits a^^^BitVec.ofInt k.bits b).toNat:Int)))
 | .andNot=>K (.int k (k.wrap ((BitVec.ofInt k.bits a&&& ~~~BitVec.ofInt k.bits b).toNat:Int)))
 | .eql=>K (.bool (a==b))
 | .neq=>K (.bool (a !=b))
 | .lss=>K (.bool (decide (a<b)))
 | .leq=>K (.bool (decide (a<=b)))
 | .gtr=>K (.bool (decide (a>b)))
 | .geq=>K (.bool (decide (a>=b)))
 | .shl=>cond (decide (b<0)) none (K (.int k (k.wrap (a*2^(min b.toNat k.bits)))))
 | .shr=>cond (decide (b<0)) none (K (.int k (a.fdiv (2^(min b.toNat k.bits)))))
def OO:BinOp->Bool
 | .shl| .shr=>true
 |_=>false
inductive CS where
 |any
 |int (k:IntKind)
 |bool
 |sl (ks:List Kd)
 |rawc
 |str
 |nil
 |nilp
 |ptr (key off:Nat)
 |own (id w:Nat)
 |clo (f:FuncId) (fs cs:List (Nat×Nat))
 |bsl (key n:Nat)
inductive TS where
 |vD
 |v (g:Bool) (cs:List CS)
 |tup (ps:List (Bool×List CS))
structure Sk where
 tmps:List TS
 aB:List (Nat×TypeId×List CS):=[]
 aC:List (Nat×TypeId×List Kd):=[]
inductive Ex where
 |normal
 |exit (id:Nat)
 |ret
def Spec:=∀R:Type,List TV->Mem->(TV->Mem->Option R)->Option R
def Jw:=∀R:Type,List AC->(Ex->St->Option R)->Option R
def GF:List (Nat×Spec)->FuncId->Option Spec
 |[],_=>none
 |(k,b)::l,f=>bif Nat.beq k f then some b else GF l f
structure Cfg where
 spec:FuncId->Option Spec
 eqOk:List TypeId:=[]
 tprom:List (Nat×TypeId):=[]
 prom:Nat->List (Nat×TypeId):=λ_=>[]
 loops:Nat->Option (Sk×Jw):=λ_=>none
 blocks:Nat->Option (Sk×Jw):=λ_=>none
 conds:Nat->Option (Sk×Jw):=λ_=>none
 pure:FuncId->Bool:=λ_=>true
 ro:FuncId->Bool:=λ_=>false
 lend:FuncId->Bool:=λ_=>false
 keepR:FuncId->Bool:=λ_=>false
 keepIn:Bool:=false
 ownOff:TypeId->List (Nat×TypeId):=λ_=>[]
 rowAs:Nat->Nat:=λd=>d
 ownBut:List Nat:=[]
 rowDst:List Nat:=[]
 cuts:List Nat:=[]
 fstore:Bool:=false
 ownRes:Bool:=false
 unroll:List Nat:=[]
 split:Nat->Option (Nat×Nat×Nat):=λ_=>none
section prog
variable (P:Program)
def C8 (t:TypeId):Option Bool:=
 match P.underlying t with
 |some (.struct _)=>some true
 |some (.array _ _)=>some true
 |some _=>some false
 |none=>none
def szT (t:TypeId):Option Nat:=
 match P.info? t with
 |some i=>some i.size
 |none=>none
def J4 (t:TypeId):Option (List AC):=
 match P.info? t with
 |some i=>match i.zero with
  |some v=>Js v.cells.toList
  |none=>none
 |none=>none
def V5 (t:TypeId) (i:Nat):Option Field:=
 match P.underlying t with
 |some (.struct fs)=>fs.toList[i]?
 |_=>none
def DO (agg:Bool) (sz:Nat) (cells:List AC) (off:Nat):Option TV:=
 bif agg then(bif Nat.ble (off+sz) cells.length then some (.agg (cut cells off sz))else none)
 else match cells[off]? with
  |some a=>some (.c a)
  |none=>none
def I3 (t:TypeId) (n:Nat):Bool:=
 match C8 P t with
 |some true=>true
 |some false=>Nat.beq n 1
 |none=>false
def JE {β:Type} (g:β->Option Bool):List β->Option Bool
 |[]=>some true
 |x::l=>match g x with
  |some b=>match JE g l with
   |some b'=>some (b&&b')
   |none=>none
  |none=>none
def eqC (ok:List TypeId):Nat->TypeId->List AC->List AC->Option Bool
 |0,_,_,_=>none
 |d+1,t,xs,ys=>
  match P.underlying t with
  |some .bool=>match xs,ys with
   |[.bool a],[.bool b]=>some (a==b)
   |_,_=>none
  |some (.int _)=>match xs,ys with
   |[.int k a],[.int k' b]=>bif kEq k k' then some (a==b)else none
   |_,_=>none
  | some (.struct fs) => bif ok.elem t then JE (λf : Field => bif f.name == "_" then none else match szT P f.type with
    |some n=>bif(Nat.ble (f.offset+n) xs.length&&Nat.ble (f.offset+n) ys.length&&I3 P f.type n)then eqC ok d f.type (cut xs f.offset n) (cut ys f.offset n)else none
    |none=>none) fs.toList else none
  |some (.array n e)=>match szT P e with
   |some m=>bif(Nat.ble (n*m) xs.length&&Nat.ble (n*m) ys.length&&I3 P e m)then JE (λi=>eqC ok d e (cut xs (i*m) m) (cut ys (i*m) m)) (List.range n)else none
   |none=>none
  |_=>none
def G6 (i:Int):(todo k:Nat)->(Nat->Option R)->Option R
 |0,_,_=>none
 |n+1,k,K=>cond (decide (i=(k:Int))) (K k) (G6 i n (k+1) K)
def O6 (t:TypeId) (cs:List AC) (off:Nat):Option TV:=
 match C8 P t,szT P t with
 |some a,some sz=>DO a sz cs off
 |_,_=>none
def GI (place:Nat->Option (Nat×Nat)):List AC->List (Nat×TV)->Option (List AC)
 |cells,[]=>some cells
 |cells,(i,v)::rest=>
  match place i,v.cells with
  |some (off,size),some cs=>bif(Nat.beq cs.length size&&Nat.ble (off+size) cells.length)then GI place (splice cells off cs) rest else none
  |_,_=>none
def Qv1 (g:TypeId->Option (List Kd)):List Field->Nat->Option (List Kd)
 |[],_=>some []
 |f::fs,o=>match g f.type with
  | some ks => bif Nat.beq f.offset o then (match Qv1 g fs (o + ks.length) with
   |some l=>some (ks++l)
   |none=>none)else none
  |none=>none
def Q3v (ks:List Kd):Nat->List Kd
 |0=>[]
 |n+1=>ks++Q3v ks n
def GV:Nat->TypeId->Option (List Kd)
 |0,_=>none
 |n+1,t=>match P.underlying t with
  |some .bool=>some [.bool]
  |some (.int k)=>some [.int k]
  |some (.slice e)=>match GV n e with
   |some ks=>some [.sl ks]
   |none=>none
  |some (.struct fs)=>Qv1 (GV n) fs.toList 0
  |some (.array m e)=>match GV n e with
   |some ks=>some (Q3v ks m)
   |none=>none
  |some _=>some [.raw]
  |none=>none
def chunk (zero:List AC):Nat->List AC
 |0=>[]
 |n+1=>zero++chunk zero n
def FF (g:Int->Int->Int) (k:IntKind) (a:Int):List TV->(Prim->Option R)->Option R
 |[],K=>K (.val (.c (.int k a)))
 |t::rest,K=>match t with
  | .v false [.int k' b]=>bif kEq k k' then FF g k (g a b) rest K else none
  |_=>none
def Ko (b:Builtin) (argTypes:List TypeId) (args:List TV) (K:Prim->Option R):Option R:=
 match b,args with
 | .len,[.v false [.vC _ l]]=>match argTypes with
  |t::_=>match P.underlying t with
   |some (.slice _)=>K (.val (.c (.int .i64 (l.length:Int))))
   |_=>none
  |[]=>none
 | .len,[.v false [.own _ _ n]]=>match argTypes with
  |t::_=>match P.underlying t with
   |some (.slice _)=>K (.val (.c (.int .i64 (n:Int))))
   |_=>none
  |[]=>none
 | .len,[.v false [.bsl _ n]]=>match argTypes with
  |t::_=>match P.underlying t with
   |some (.slice _)=>K (.val (.c (.int .i64 (n:Int))))
   |_=>none
  |[]=>none
 | .len,[.v false [.nilSl]]=>match argTypes with
  |t::_=>match P.underlying t with
   |some (.slice _)=>K (.val (.c (.int .i64 0)))
   |_=>none
  |[]=>none
 | .len,[.v true _]=>match argTypes with
  |t::_=>match P.underlying t with
   |some (.array n _)=>K (.val (.c (.int .i64 (n:Int))))
   |_=>none
  |[]=>none
 | .min, .v false [.int k a]::rest=>FF mn k a rest K
 | .max, .v false [.int k a]::rest=>FF mx k a rest K
 | .append,[.c s, .c x]=>match argTypes with
  |[t,u]=>match P.underlying t,P.underlying u with
   |some (.slice e),some (.slice _)=>match P.info? e,GV P 8 e with
    |some i,some ks=>match i.zero with
     |some z=>bif(Nat.beq t u&&Nat.beq z.cells.size i.size&&Nat.beq ks.length i.size)then K (.append e ks i.bytes s x)else none
     |none=>none
    |_,_=>none
   |_,_=>none
  |_=>none
 |_,_=>none
def Ln (D:Operand->TV):Option Operand->Option (Option Int)
 |none=>some none
 |some x=>match(D x).int? with
  |some n=>some (some n)
  |none=>none
def B_ (D:Operand->TV):List Operand->List TV
 |[]=>[]
 |x::l=>D x::B_ D l
def FY (D:Operand->TV):List (Nat×Operand)->List (Nat×TV)
 |[]=>[]
 |x::l=>(x.1,D x.2)::FY D l
def Nh (f:Field):Bool:=
 match szT P f.type with
 |some _=>true
 |none=>false
def YK (fs:List Field) (i:Nat):Option (Nat×Nat):=
 match fs[i]? with
 |some f=>match szT P f.type with
  |some n=>some (f.offset,n)
  |none=>none
 |none=>none
variable (C:Cfg)
def ZM (dst:Option Tmp) (n:Nat):Bool:=match dst with
 |some d=>C.rowDst.elem d||Nat.beq n 0
 |none=>false
def AC.isClo:AC->Bool
 | .clo _ _ _=>true
 |_=>false
def AC.clOk:AC->Bool
 | .int _ _| .bool _| .raw _| .nilSl| .vC _ _| .ptr _ _=>true
 |_=>false
def Kg:List TV->Option (List AC)
 |[]=>some []
 | .v false [a] :: l => bif a.clOk then (match Kg l with
  |some r=>some (a::r)
  |none=>none)else none
 |_=>none
def opK (D:Operand->TV) (dst:Option Tmp) (o:Op) (K:Prim->Option R):Option R:=
 match o with
 | .move x=>K (.val (D x))
 | .assign x=>K (.val (D x))
 | .pick c a b=>match D c with
  | .v false [.bool g]=>cond g (K (.val (D a))) (K (.val (D b)))
  |_=>none
 | .alloc t=>match J4 P t with
  |some cs=>K (.new t cs)
  |none=>none
 | .box t x=>match(D x).cells with
  |some cs=>K (.new t cs)
  |none=>none
 | .build t parts=>match J4 P t,P.underlying t with
  |some z,some (.struct fs)=>bif Al (Nh P) fs.toList then match GI (YK P fs.toList) z (FY D parts.toList)with
   |some cs=>K (.val (.agg cs))
   |none=>none else none
  |some z,some (.array _ e)=>match szT P e with
   |some n=>match GI (λi=>some (i*n,n)) z (FY D parts.toList)with
    |some cs=>K (.val (.agg cs))
    |none=>none
   |none=>none
  |_,_=>none
 | .buildSlice t n parts=>match P.underlying t with
  |some (.slice e)=>match szT P e,J4 P e,GV P 8 e with
   |some w,some z,some ks=>bif(Nat.beq z.length w&&Nat.beq ks.length w&&Nat.ble 1 w&&Nat.ble (n*w) 65536)then match GI (λi=>some (i*w,w)) (chunk z n) (FY D parts.toList)with
    |some cs=>match H4 ks n cs with
     |some l=>cond (ZM C dst n) (K (.newRow e ks l)) (K (.newView e ks l))
     |none=>bif Al AC.isClo cs&&Nat.beq w 1 then K (.newS e n cs)else none
    |none=>none else none
   |_,_,_=>none
  |_=>none
 | .makeSlice t len cap=>match P.underlying t,(D len).int?,(D cap).int? with
  |some (.slice e),some n,some c=>match P.info? e,J4 P e,GV P 8 e with
   |some i,some z,some ks=>match G2 ks z with
    |some L=>bif(Nat.beq ks.length i.size&&Nat.ble 1 i.size&&Nat.ble 1 i.bytes)then cond (decide (n=c)) (K (.make e ks i.bytes n L)) none else none
    |none=>none
   |_,_,_=>none
  |_,_,_=>none
 | .makeFunc M first captured=>match M with
  | .func f=>match Kg (B_ D first.toList),Kg (B_ D captured.toList)with
   |some fs,some cs=>K (.val (.c (.clo f fs cs)))
   |_,_=>none
  |_=>none
 | .load t a=>match C8 P t,szT P t with
  |some g,some sz=>match D a with
   | .v false [.ptr key off]=>K (.load g sz key off)
   | .v false [.vptr cells sub]=>match DO g sz cells sub with
    |some v=>K (.val v)
    |none=>none
   | .v false [.rptr id idx sub]=>K (.rload g sz id idx sub)
   |_=>none
  |_,_=>none
 | .store t a x=>match szT P t,(D x).cells with
  |some sz,some cs=>bif Nat.beq cs.length sz then match D a with
    | .v false [.ptr key off]=>K (.store key off cs)
    | .v false [.rptr id idx sub]=>K (.rstore id idx sub cs)
    |_=>none else none
  |_,_=>none
 | .nilCheck x=>match D x with
  | .v false [.ptr key off]=>K (.val (.c (.ptr key off)))
  | .v false [.rptr id idx sub]=>K (.val (.c (.rptr id idx sub)))
  | .v false [.vptr cs sub]=>K (.val (.c (.vptr cs sub)))
  |_=>none
 | .binOp op t x y _=>match D x,D y with
  | .v false [.int k a], .v false [.int k' b]=>bif kEq k k'||OO op then H0 op k a b λv=>K (.val (.c v))else none
  | .v false [.bool a], .v false [.bool b]=>match P.underlying t,op with
   |some .bool, .eql=>K (.val (.c (.bool (a==b))))
   |some .bool, .neq=>K (.val (.c (.bool (!(a==b)))))
   |_,_=>none
  | .v false [.raw (.string a)], .v false [.raw (.string b)]=>match op with
   | .eql=>K (.val (.c (.bool (a.toList==b.toList))))
   | .neq=>K (.val (.c (.bool (!(a.toList==b.toList)))))
   | .add=>cond (Nat.ble (a.size+b.size) 9223372036854775807) (K (.val (.c (.raw (.string (a++b)))))) none
   |_=>none
  | .v false [.ptr _ _], .v false [.raw (.pointer none)]=>match P.underlying t,op with
   |some (.pointer _), .eql=>K (.val (.c (.bool false)))
   |some (.pointer _), .neq=>K (.val (.c (.bool true)))
   |_,_=>none
  | .v false [.raw (.pointer none)], .v false [.raw (.pointer none)]=>match P.underlying t,op with
   |some (.pointer _), .eql=>K (.val (.c (.bool true)))
   |some (.pointer _), .neq=>K (.val (.c (.bool false)))
   |_,_=>none
  | .v true xs, .v true N=>bif P.eqGuardType P.depth t then none else match C8 P t,eqC P C.eqOk 20 t xs N,op with
   |some true,some r, .eql=>K (.val (.c (.bool r)))
   |some true,some r, .neq=>K (.val (.c (.bool (!r))))
   |_,_,_=>none
  |_,_=>none
 | .unOp op _ x=>match op,D x with
  | .neg, .v false [.int k n]=>K (.val (.c (.int k (k.wrap (0-n)))))
  | .not, .v false [.bool b]=>K (.val (.c (.bool (!b))))
  |_,_=>none
 | .convert src dst x=>match P.underlying src,P.underlying dst,D x with
  |some _,some (.int k), .v false [.int _ n]=>K (.val (.c (.int k (k.wrap n))))
  |_,_,_=>none
 | .fieldAddr t x i=>match V5 P t i with
  |some f=>match szT P f.type with
   |some (_+1)=>match D x with
    | .v false [.ptr key off]=>K (.val (.c (.ptr key (off+f.offset))))
    | .v false [.rptr id idx sub]=>K (.val (.c (.rptr id idx (sub+f.offset))))
    | .v false [.vptr cs sub]=>K (.val (.c (.vptr cs (sub+f.offset))))
    |_=>none
   |_=>none
  |none=>none
 | .field t x i=>match V5 P t i,D x with
  |some f, .v true cs=>match O6 P f.type cs f.offset with
   |some v=>K (.val v)
   |none=>none
  |_,_=>none
 | .indexAddr t x I=>match(D I).int?,P.underlying t with
  |some i,some (.array n e)=>match szT P e,D x with
   |some m, .v false [.ptr key off]=>G6 i n 0 λj=>K (.val (.c (.ptr key (off+j*m))))
   |some m, .v false [.rptr id idx sub]=>G6 i n 0 λj=>K (.val (.c (.rptr id idx (sub+j*m))))
   |some m, .v false [.vptr cs sub]=>G6 i n 0 λj=>K (.val (.c (.vptr cs (sub+j*m))))
   |_,_=>none
  |some i,some (.slice e)=>match szT P e,D x with
   |some m, .v false [.vC ks l]=>bif Nat.beq m ks.length then cond (decide (0<=i)&&decide (i<(l.length:Int))) (K (.val (.c (.vptr (AX ks (nth [] l i.toNat)) 0)))) none else none
   |some m, .v false [.own id w n]=>bif Nat.beq m w then cond (decide (0<=i)&&decide (i<(n:Int))) (K (.val (.c (.rptr id i.toNat 0)))) none else none
   |some m, .v false [.bsl key n]=>bif Nat.beq m 1 then G6 i n 0 λj=>K (.val (.c (.ptr key j)))else none
   |_,_=>none
  |_,_=>none
 | .index t x I=>match(D I).int?,P.underlying t,D x with
  |some i,some (.array n e), .v true cs=>match szT P e with
   |some m=>G6 i n 0 λj=>match O6 P e cs (j*m)with
    |some v=>K (.val v)
    |none=>none
   |none=>none
  |_,_,_=>none
 | .slice t x lo G mx=>match mx,Ln D lo,Ln D G,P.underlying t with
  |none,some lo,some G,some (.slice e)=>match szT P e,D x with
   |some m, .v false [.vC ks l]=>bif Nat.beq m ks.length then
    match lo,G with
    |none,none=>K (.val (.c (.vC ks l)))
    |some a,none=>cond (decide (0<=a)&&decide (a<=(l.length:Int))) (K (.val (.c (.vC ks (l.drop a.toNat))))) none
    |none,some b=>cond (decide (0<=b)&&decide (b<=(l.length:Int))) (K (.val (.c (.vC ks (l.take b.toNat))))) none
    |some a,some b=>cond (decide (0<=a)&&decide (a<=b)&&decide (b<=(l.length:Int))) (K (.val (.c (.vC ks ((l.take b.toNat).drop a.toNat))))) none
    else none
   |some m, .v false [.own id w n]=>match lo,G with
    |some a,none=>bif Nat.beq m w then cond (decide (0<=a)&&decide (a<=(n:Int))) (K (.cutR id a.toNat)) none else none
    |_,_=>none
   |some _, .v false [.nilSl]=>match lo,G with
    |none,none=>K (.val (.c .nilSl))
    |some a,none=>cond (decide (a=0)) (K (.val (.c .nilSl))) none
    |none,some b=>cond (decide (b=0)) (K (.val (.c .nilSl))) none
    |some a,some b=>cond (decide (a=0)&&decide (b=0)) (K (.val (.c .nilSl))) none
   |_,_=>none
  |_,_,_,_=>none
 | .extract t i=>match D t with
  | .tup ps=>match ps[i]? with
   |some (g,cs)=>K (.val (.v g cs))
   |none=>none
  |_=>none
 | .call c=>match c.callee with
  | .builtin b=>Ko P b c.argTypes.toList (B_ D c.args.toList) K
  | .value (.func f)=>cond (C.pure f) (K (.call f (B_ D c.args.toList))) (K (.callM f (B_ D c.args.toList)))
  | .value (.tmp t)=>match D (.tmp t)with
   | .v false [.clo f fs cs]=>bif Al AC.clOk fs&&Al AC.clOk cs then K (.callM f (fs.map TV.c++(B_ D c.args.toList++cs.map TV.c)))else none
   |_=>none
  |_=>none
 |_=>none
def AL (tmps:List TV):Operand->TV
 | .tmp t=>nth .vD tmps t
 | .const v=>ofValue v
 |_=> .vD
def AC.kill (id:Nat):AC->AC
 | .own j w n=>bif Nat.beq j id then .vD else .own j w n
 | .rptr j a b=>bif Nat.beq j id then .vD else .rptr j a b
 |a=>a
def TV.kill (id:Nat):TV->TV
 | .v g cs=> .v g (cs.map (AC.kill id))
 | .tup ps=> .tup (ps.map λp=>(p.1,p.2.map (AC.kill id)))
 | .vD=> .vD
def Box.kill (id:Nat) (b:Box):Box:=⟨b.ty,b.cells.map (AC.kill id)⟩
def AC.fz (id:Nat) (ks:List Kd) (l:List (List AC)):AC->AC
 | .own j w n=>bif Nat.beq j id then .vC ks l else .own j w n
 | .rptr j a b=>bif Nat.beq j id then .vD else .rptr j a b
 |a=>a
def TV.fz (id:Nat) (ks:List Kd) (l:List (List AC)):TV->TV
 | .v g cs=> .v g (cs.map (AC.fz id ks l))
 | .tup ps=> .tup (ps.map λp=>(p.1,p.2.map (AC.fz id ks l)))
 | .vD=> .vD
def Box.fz (id:Nat) (ks:List Kd) (l:List (List AC)) (b:Box):Box:=⟨b.ty,b.cells.map (AC.fz id ks l)⟩
def del {α:Type} (id:Nat):List (Nat×α)->List (Nat×α)
 |[]=>[]
 |(k,b)::l=>bif Nat.beq k id then del id l else(k,b)::del id l
def Je:List Nat->St->(St->Option R)->Option R
 |[],s,K=>K s
 |id::l,⟨tmps,aB,aC⟩,K=>match Ab aC id with
  |some r=>AY (tmps.map (TV.fz id r.ks r.l)) λG=>AY (aB.map λp=>(p.1,p.2.fz id r.ks r.l)) λD=>AY (del id aC) λI=>Je l ⟨G,D,I⟩ K
  |none=>Je l ⟨tmps,aB,aC⟩ K
def AC.res (aC:List (Nat×Row)):AC->Option AC
 | .own id _ _=>match Ab aC id with
  |some r=>some (.vC r.ks r.l)
  |none=>none
 | .int k n=>some (.int k n)
 | .bool b=>some (.bool b)
 | .raw v=>some (.raw v)
 | .nilSl=>some .nilSl
 | .vC ks l=>some (.vC ks l)
 |_=>none
def EV (aC:List (Nat×Row)):List AC->Option (List AC)
 |[]=>some []
 |a::l=>match a.res aC with
  |some D=>match EV aC l with
   |some G=>some (D::G)
   |none=>none
  |none=>none
def TV.res (aC:List (Nat×Row)):TV->Option TV
 | .v g cs=>match EV aC cs with
  |some l=>some (.v g l)
  |none=>none
 |_=>none
def F1 (aC:List (Nat×Row)):List TV->Option (List TV)
 |[]=>some []
 |a::l=>match a.res aC with
  |some D=>match F1 aC l with
   |some G=>some (D::G)
   |none=>none
  |none=>none
def AC.isOwn:AC->Bool
 | .own _ _ _=>true
 |_=>false
def TV.hasOwn:TV->Bool
 | .v _ cs=>cs.any AC.isOwn
 |_=>true
def AC.flat:AC->Bool
 | .int _ _| .bool _| .raw _| .nilSl=>true
 |_=>false
def TV.flat:TV->Bool
 | .v _ cs=>Al AC.flat cs
 | .tup ps=>Al (λp:Bool×List AC=>Al AC.flat p.2) ps
 | .vD=>false
def TV.plainB:TV->Bool
 | .v _ cs=>Al AC.plain cs
 | .tup ps=>Al (λp:Bool×List AC=>Al AC.plain p.2) ps
 | .vD=>false
def Prim.dr:Bool->Prim->Prim
 |false, .callM f args=>bif Al TV.plainB args then .callF f args else .callD f args
 |false, .append e ks b s x=> .appD e ks b s x
 |_,p=>p
def Jd (aC:List (Nat×Row)) (ks:List Kd):AC->Option (List (List AC))
 | .nilSl=>some []
 | .vC D l=>bif Dj ks D then some l else none
 | .own id _ _=>match Ab aC id with
  |some r=>bif Dj ks r.ks then some r.l else none
  |none=>none
 |_=>none
def put (s:St) (dst:Option Tmp) (v:TV) (K:St->Option R):Option R:=
 match dst with
 |none=>K s
 |some d=>match s with
  |⟨tmps,aB,aC⟩=>AY (setL tmps d v) λl=>K ⟨l,aB,aC⟩
def AC.keys:AC->List Nat
 | .ptr k _=>[k]
 | .bsl k _=>[k]
 | .clo _ fs cs=>keysL fs++keysL cs
 |_=>[]
 where keysL:List AC->List Nat
 |[]=>[]
 | .ptr k _::l=>k::keysL l
 |_::l=>keysL l
def AC.ids:AC->List Nat
 | .own id _ _=>[id]
 |_=>[]
def cat {α β:Type} (g:α->List β):List α->List β
 |[]=>[]
 |a::l=>g a++cat g l
def TV.cellsOf:TV->List AC
 | .v _ cs=>cs
 | .tup ps=>cat (λp:Bool×List AC=>p.2) ps
 | .vD=>[]
def RR (n:Nat):List Nat->List Nat
 |[]=>[n]
 |m::l=>bif Nat.beq m n then m::l else m::RR n l
def Bi:List Nat->List Nat->List Nat
 |[],l=>l
 |n::D,l=>Bi D (RR n l)
def EX (aB:List (Nat×Box)) (k:Nat):List AC:=match Ab aB k with
 |some b=>b.cells
 |none=>[]
def Z7w (aB:List (Nat×Box)) (keys:List Nat):List Nat:=Bi (cat (λk=>cat AC.keys (EX aB k)) keys) keys
def M0 (aB:List (Nat×Box)):Nat->List Nat->List Nat
 |0,l=>l
 |n+1,l=>M0 aB n (Z7w aB l)
def PH (aB:List (Nat×Box)) (cells:List AC) (keys:List Nat):List Nat:=
 Bi (cat AC.ids cells++cat (λk=>cat AC.ids (EX aB k)) keys) []
def pos:List Nat->Nat->Nat
 |[],_=>0
 |m::l,n=>bif Nat.beq m n then 0 else pos l n+1
def AV:List Nat->Nat->Bool
 |[],_=>false
 |m::l,n=>bif Nat.beq m n then true else AV l n
def AC.ren (rk ri:Nat->Nat):AC->AC
 | .ptr k o=> .ptr (rk k) o
 | .bsl k n=> .bsl (rk k) n
 | .own id w n=> .own (ri id) w n
 | .rptr id i s=> .rptr (ri id) i s
 | .clo f fs cs=> .clo f (renP rk fs) (renP rk cs)
 |a=>a
 where renP (rk:Nat->Nat):List AC->List AC
 |[]=>[]
 | .ptr k o::l=> .ptr (rk k) o::renP rk l
 |a::l=>a::renP rk l
def TV.ren (D ri:Nat->Nat):TV->TV
 | .v g cs=> .v g (cs.map (AC.ren D ri))
 | .tup ps=> .tup (ps.map λp=>(p.1,p.2.map (AC.ren D ri)))
 | .vD=> .vD
def AC.inK (keys ids:List Nat):AC->Bool
 | .ptr k _=>AV keys k
 | .bsl k _=>AV keys k
 | .own id _ _=>AV ids id
 | .rptr id _ _=>AV ids id
 | .clo _ fs cs=>Al (inP keys) fs&&Al (inP keys) cs
 |_=>true
 where inP (keys:List Nat):AC->Bool
 | .ptr k _=>AV keys k
 |_=>true
def TV.inK (keys ids:List Nat):TV->Bool
 | .v _ cs=>Al (AC.inK keys ids) cs
 | .tup ps=>Al (λp:Bool×List AC=>Al (AC.inK keys ids) p.2) ps
 | .vD=>true
def Dk (aB:List (Nat×Box)) (D ri:Nat->Nat):Nat->List Nat->Option (List (Nat×Box))
 |_,[]=>some []
 |b,k::ks=>match Ab aB k with
  |some x=>match Dk aB D ri (b+1) ks with
   |some l=>some ((b,⟨x.ty,x.cells.map (AC.ren D ri)⟩)::l)
   |none=>none
  |none=>none
def GN (aC:List (Nat×Row)):Nat->List Nat->Option (List (Nat×Row))
 |_,[]=>some []
 |b,k::ks=>match Ab aC k with
  |some x=>match GN aC (b+1) ks with
   |some l=>some ((b,x)::l)
   |none=>none
  |none=>none
def base:Nat:=20000
def BV (names fresh:List Nat) (d:Nat) (n:Nat):Nat:=
 bif Nat.ble base n&&Nat.blt (n-base) names.length then nth 0 names (n-base)else 100000+100*d+pos fresh n
def BF {α:Type} (names:List Nat):List (Nat×α)->List Nat
 |[]=>[]
 |(k,_)::l=>bif Nat.ble base k&&Nat.blt (k-base) names.length then BF names l else k::BF names l
def DA {α:Type}:List Nat->List (Nat×α)->List (Nat×α)
 |[],l=>l
 |k::ks,l=>DA ks (del k l)
def Kk (D ri:Nat->Nat):List (Nat×Box)->List (Nat×Box)->List (Nat×Box)
 |[],l=>l
 |(k,b)::m,l=>Kk D ri m (ins l (D k) ⟨b.ty,b.cells.map (AC.ren D ri)⟩)
def ID (ri:Nat->Nat):List (Nat×Row)->List (Nat×Row)->List (Nat×Row)
 |[],l=>l
 |(k,b)::m,l=>ID ri m (ins l (ri k) b)
def DH (keys:List Nat):List (Nat×Box)->List (Nat×Box)->List (Nat×Box)
 |[],l=>l
 |(k,b)::m,l=>DH keys m (upd l (nth 0 keys (k-base)) b)
def H_ (ids:List Nat) (v:TV):TV:=match ids with
 |[]=>v
 |id::l=>H_ l (v.kill id)
def Du (ids:List Nat) (b:Box):Box:=match ids with
 |[]=>b
 |id::l=>Du l (b.kill id)
def LL {α:Type} (l:List (Nat×α)) (k:Nat):Bool:=match Ab l k with
 |some _=>false
 |none=>true
def Ck:List Nat->Bool
 |[]=>true
 |k::l=>bif AV l k then false else Ck l
def Gi {α:Type} (l:List (Nat×α)) (k:Nat):Bool:=match Ab l k with
 |some _=>true
 |none=>false
def Jv (d:Nat):Nat:=100000+100*d
def AC.relen (id D:Nat):AC->AC
 | .own j w n=>bif Nat.beq j id then .own j w D else .own j w n
 | .rptr j a b=>bif Nat.beq j id then .vD else .rptr j a b
 |a=>a
def TV.relen (id D:Nat):TV->TV
 | .v g cs=> .v g (cs.map (AC.relen id D))
 | .tup ps=> .tup (ps.map λp=>(p.1,p.2.map (AC.relen id D)))
 | .vD=> .vD
def Box.relen (id D:Nat) (b:Box):Box:=⟨b.ty,b.cells.map (AC.relen id D)⟩
def Qcg:List TV->Option Nat
 | .v false [.own id _ _]::rest=>bif Al TV.plainB rest then some id else none
 |_=>none
def TA (g:Spec) (args:List TV) (tmps:List TV) (aB:List (Nat×Box)) (aC:List (Nat×Row)) (K:TV->St->Option R):Option R:=
 match Qcg args with
 |some id=>match Ab aC id with
  |some r=>g R (args.map (TV.ren (λk=>base+pos [] k) (λi=>base+pos [id] i))) ⟨[],[(base,r)]⟩ λv m=>match m with
   |⟨[],[(k,r')]⟩=>bif Nat.beq k base&&Nat.beq r'.ty r.ty&&Dj r'.ks r.ks&&v.plainB then
     AY (tmps.map (TV.relen id r'.l.length)) λG=>AY (aB.map λp=>(p.1,p.2.relen id r'.l.length)) λD=>AY (upd aC id r') λI=>K v ⟨G,D,I⟩else none
   |_=>none
  |none=>none
 |none=>none
def Bb (dst:Option Tmp) (p:Prim) (s:St) (K:TV->St->Option R):Option R:=
 match s with
 |⟨tmps,aB,aC⟩=>
 match p with
 | .val v=>K v ⟨tmps,aB,aC⟩
 | .load g sz key off=>match Ab aB key with
  |some b=>match DO g sz b.cells off with
   |some v=>K v ⟨tmps,aB,aC⟩
   |none=>none
  |none=>none
 | .store key off cs=>match Ab aB key with
  |some b=>bif Nat.ble (off+cs.length) b.cells.length then
    AY (splice b.cells off cs) λcells=>AY (upd aB key ⟨b.ty,cells⟩) λD=>K .vD ⟨tmps,D,aC⟩
   else none
  |none=>none
 | .new ty cs=>match dst with
  |some d=>match Ab aB d with
   |some _=>none
   |none=>AY (ins aB d ⟨ty,cs⟩) λD=>K (.c (.ptr d 0)) ⟨tmps,D,aC⟩
  |none=>none
 | .newS ty n cs=>match dst with
  |some d=>match Ab aB d with
   |some _=>none
   |none=>AY (ins aB d ⟨ty,cs⟩) λD=>K (.c (.bsl d n)) ⟨tmps,D,aC⟩
  |none=>none
 | .cutR id a=>match Ab aC id with
  |some r=>bif Nat.ble a r.l.length then
    AY (tmps.map (TV.kill id)) λI=>
    AY (aB.map λp=>(p.1,p.2.kill id)) λD=>
    AY (upd aC id ⟨r.ty,r.ks,r.l.drop a⟩) λG=>
    K (.c (.own id r.ks.length (r.l.drop a).length)) ⟨I,D,G⟩
   else none
  |none=>none
 | .rload g sz id idx sub=>match Ab aC id with
  |some r=>match DO g sz (r.f idx) sub with
   |some v=>K v ⟨tmps,aB,aC⟩
   |none=>none
  |none=>none
 | .rstore id idx sub cs=>match Ab aC id with
  |some r=>bif Nat.ble (sub+cs.length) r.w&&Al AC.plain cs then
    match G2 r.ks (splice (r.f idx) sub cs)with
    |some c=>AY (upd aC id ⟨r.ty,r.ks,r.l.set idx c⟩) λG=>K .vD ⟨tmps,aB,G⟩
    |none=>none else none
  |none=>none
 | .newRow e ks l=>match dst with
  |some d=>match Ab aC (C.rowAs d)with
   |some _=>none
   |none=>AY (ins aC (C.rowAs d) ⟨e,ks,l⟩) λG=>K (.c (.own (C.rowAs d) ks.length l.length)) ⟨tmps,aB,G⟩
  |none=>none
 | .newView _ ks l=>K (.c (.vC ks l)) ⟨tmps,aB,aC⟩
 | .make e ks bytes n z=>match dst with
  |some d=>match Ab aC d with
   |some _=>none
   |none=>cond (decide (0<=n)&&decide (n*(bytes:Int)<=140737488355328))
     (AY (ins aC d ⟨e,ks,List.replicate n.toNat z⟩) λG=>K (.c (.own d ks.length (List.replicate n.toNat z).length)) ⟨tmps,aB,G⟩) none
  |none=>none
 | .append e ks bytes s x=>match Jd aC ks x with
  |some m=>match s with
   | .nilSl=>match dst with
    |some d=>match Ab aC d with
     |some _=>none
     |none=>bif(Nat.ble 1 ks.length&&Nat.ble 1 bytes)then cond (Nat.ble (m.length*bytes) 140737488355328) (AY (ins aC d ⟨e,ks,m⟩) λG=>K (.c (.own d ks.length m.length)) ⟨tmps,aB,G⟩) none else none
    |none=>none
   | .own id _ _=>match Ab aC id with
    |some r=>bif(Dj ks r.ks&&Nat.beq r.ty e&&Nat.ble 1 bytes)then
      cond (Nat.ble ((r.l ++ m).length * bytes) 140737488355328) (
       AY (tmps.map (TV.kill id)) λI=>
       AY (aB.map λp=>(p.1,p.2.kill id)) λD=>
       AY (upd aC id ⟨e,r.ks,r.l++m⟩) λG=>
       K (.c (.own id r.ks.length (r.l++m).length)) ⟨I,D,G⟩) none
     else none
    |none=>none
   |_=>none
  |none=>none
 | .appD e ks bytes s x=>match Jd aC ks x with
  |some m=>match s with
   | .own id _ _=>match Ab aC id with
    |some r=>bif(Dj ks r.ks&&Nat.beq r.ty e&&Nat.ble 1 bytes)then
      cond (Nat.ble ((r.l ++ m).length * bytes) 140737488355328) (
       AY (tmps.map (TV.kill id)) λI=>
       AY (aB.map λp=>(p.1,p.2.kill id)) λD=>
       AY (upd aC id ⟨e,r.ks,r.l++m⟩) λG=>
       K (.c (.own id r.ks.length (r.l++m).length)) ⟨I,D,G⟩) none
     else none
    |none=>none
   | .nilSl=>match dst with
    |some d=>match Ab aC d with
     |some _=>none
     | none => bif (Nat.ble 1 ks.length && Nat.ble 1 bytes) then cond (Nat.ble (m.length * bytes) 140737488355328) (
       AY (tmps.map (TV.kill d)) λI=>
       AY (aB.map λp=>(p.1,p.2.kill d)) λD=>
       AY (ins aC d ⟨e,ks,m⟩) λG=>K (.c (.own d ks.length m.length)) ⟨I,D,G⟩) none else none
    |none=>none
   |_=>none
  |none=>none
 | .call f args=>match C.spec f with
  |some g=>match F1 aC args with
   |some as=>g R as ⟨[],[]⟩ λv m=>match m with
    |⟨[],[]⟩=>bif((!(args.any TV.hasOwn)||v.flat)&&v.plainB)then K v ⟨tmps,aB,aC⟩else none
    |_=>none
   |none=>none
  |none=>none
 | .callM f args=>match C.spec f with
  |some g=>bif C.keepR f then TA g args tmps aB aC K else
   AY (M0 aB 4 (Bi (cat AC.keys (cat TV.cellsOf args)) [])) λkeys=>
   AY (PH aB (cat TV.cellsOf args) keys) λids=>
   bif Al (TV.inK keys ids) args&&Al (λk=>Al (AC.inK keys ids) (EX aB k)) keys&&Ck keys&&Ck ids then
    match Dk aB (λk=>base+pos keys k) (λi=>base+pos ids i) base keys,GN aC base ids with
    |some N,some V=>g R (args.map (TV.ren (λk=>base+pos keys k) (λi=>base+pos ids i))) ⟨N,V⟩ λv m=>match m with
     |⟨L,M⟩=>
      AY (BF keys L) λU=>AY (BF ids M) λO=>
      bif Al (λp:Nat×Box=>Gi L p.1) N&&Ck (L.map (·.1))&&Ck (M.map (·.1))&&Al (λk=>LL aB (BV keys U (dst.getD 0) k)) U&&Al (λk=>LL aC (BV ids O (dst.getD 0) k)) O&&Nat.ble U.length 100&&Nat.ble O.length 100 then
       AY (tmps.map (H_ ids)) λI=>
       AY (Kk (BV keys U (dst.getD 0)) (BV ids O (dst.getD 0)) L ((DA keys aB).map λp=>(p.1,Du ids p.2))) λD=>
       AY (ID (BV ids O (dst.getD 0)) M (DA ids aC)) λG=>
       K (v.ren (BV keys U (dst.getD 0)) (BV ids O (dst.getD 0))) ⟨I,D,G⟩
      else none
    |_,_=>none
   else none
  |none=>none
 | .callD f args=>match C.spec f with
  |some g=>
   AY (Bi (cat AC.keys (cat TV.cellsOf args)) []) λkeys=>
   bif Al (TV.inK keys []) args&&Al (λk=>Al AC.calm (EX aB k)) keys&&Ck keys then
    match Dk aB (λk=>base+pos keys k) (λi=>base+pos [] i) base keys with
    |some N=>g R (args.map (TV.ren (λk=>base+pos keys k) (λi=>base+pos [] i))) ⟨N,[]⟩ λv m=>match m with
     |⟨L,[]⟩=>
      bif Al (λp:Nat×Box=>Gi L p.1) N&&Al (λp:Nat×Box=>Gi N p.1) L&&Ck (L.map (·.1))&&Al (λp:Nat×Box=>Al AC.calm p.2.cells) L&&v.plainB then
       AY (DH keys L aB) λD=>K v ⟨tmps,D,aC⟩
      else none
     |⟨_,_::_⟩=>none
    |none=>none
   else none
  |none=>none
 | .callF f args=>match C.spec f with
  |some g=>bif Al TV.plainB args then g R args ⟨[],[]⟩ λv m=>match m with
   |⟨[],[]⟩=>bif v.plainB then K v ⟨tmps,aB,aC⟩else none
   |⟨[],[(k,r)]⟩=>match v with
    | .v false [.own j _ _] => bif Nat.beq j k then (match Ab aC (Jv (dst.getD 0)) with
     |some _=>none
     |none=>AY (ins aC (Jv (dst.getD 0)) r) λG=>K (.c (.own (Jv (dst.getD 0)) r.ks.length r.l.length)) ⟨tmps,aB,G⟩)else none
    |_=>none
   |_=>none
   else none
  |none=>none
def Rc (ops:List Oper) (o:Oper) (s:St) (run skip:St->Option R):Option R:=
 match o.guard with
 |none=>run s
 |some (j,want)=>match ops[j]? with
  |some D=>match D.dst with
   |some t=>match nth .vD s.tmps t with
    | .v false [.bool g]=>cond g (put s (some t) (.c (.bool true)) (bif want then run else skip)) (put s (some t) (.c (.bool false)) (bif want then skip else run))
    | .tup []=>skip s
    |_=>none
   |none=>none
  |none=>none
def N_ (k o:Nat) (e:TypeId) (s:St) (K:St->Option R):Option R:=match s with
 |⟨tmps,aB,aC⟩=>match Ab aB k with
  |some b=>match nth .vD b.cells o with
   | .nilSl=>match GV P 8 e with
    |some ks=>bif Nat.ble 1 ks.length&&LL aC (1000000+1000*k+o)then
      AY (ins aC (1000000+1000*k+o) ⟨e,ks,[]⟩) λG=>AY (setL b.cells o (.own (1000000+1000*k+o) ks.length 0)) λcells=>AY (upd aB k ⟨b.ty,cells⟩) λD=>K ⟨tmps,D,G⟩
     else none
    |none=>none
   |_=>K ⟨tmps,aB,aC⟩
  |none=>K ⟨tmps,aB,aC⟩
def KW:List (Nat×Nat×TypeId)->St->(St->Option R)->Option R
 |[],s,K=>K s
 |(k,o,e)::l,s,K=>N_ P k o e s λD=>KW l D K
def DX:List Kd->List AC->List AC
 | .sl ks::l, .nilSl::cs=> .vC ks []::DX l cs
 |_::l,a::cs=>a::DX l cs
 |_,cs=>cs
def U5 (b:Box):Box:=match GV P 8 b.ty with
 |some ks=>⟨b.ty,DX ks b.cells⟩
 |none=>b
def JI:List (Nat×TypeId)->St->(St->Option R)->Option R
 |[],s,K=>K s
 |(t,e)::l,⟨tmps,aB,aC⟩,K=>match nth .vD tmps t with
  | .v false [.nilSl]=>match Ab aC t,GV P 8 e with
   |none,some ks=>bif Nat.ble 1 ks.length then AY (setL tmps t (.c (.own t ks.length 0))) λD=>AY (ins aC t ⟨e,ks,[]⟩) λG=>JI l ⟨D,aB,G⟩ K else none
   |_,_=>none
  |_=>JI l ⟨tmps,aB,aC⟩ K
def Jm (s:St) (K:St->Option R):Option R:=
 KW P (cat (λp:Nat×Box=>bif AV C.ownBut p.1 then []else(C.ownOff p.2.ty).map λq=>(p.1,q.1,q.2)) s.aB) s λG=>match G with
  |⟨tmps,aB,aC⟩=>AY (aB.map λp=>(p.1,U5 P p.2)) λD=>JI P C.tprom ⟨tmps,D,aC⟩ K
def Ybb:TV->Bool
 | .v false [.rptr _ _ _]=>true
 |_=>false
def Z93 (C:Cfg):Operand->Bool
 | .tmp t=>AV C.cuts t
 |_=>false
def Zf8 (D:Operand->TV) (o:Op):List Nat:=
 match o with
 | .slice _ x _ _ _=>bif Z93 C x then []else cat AC.ids (TV.cellsOf (D x))
 | .store _ a x=>bif C.fstore||Ybb (D a)then cat AC.ids (TV.cellsOf (D x))else []
 | .buildSlice _ _ parts=>cat AC.ids (cat TV.cellsOf (parts.toList.map λp=>D p.2))
 | .makeFunc _ a b=>cat AC.ids (cat TV.cellsOf (B_ D a.toList++B_ D b.toList))
 | .call c=>match c.callee with
  | .value (.func f)=>bif C.lend f then []else cat AC.ids (cat TV.cellsOf (B_ D c.args.toList))
  | .value _=>cat AC.ids (cat TV.cellsOf (B_ D c.args.toList))
  |_=>[]
 |_=>[]
def Zpx (o:Op):Bool:=match o with
 | .call c=>match c.callee with
  | .value (.func f)=> !(C.pure f)
  | .value _=>true
  |_=>false
 |_=>false
def J1 (o:Op) (s:St) (K:St->Option R):Option R:=
 Je (Zf8 C (AL s.tmps) o) s λD=>bif Zpx C o then Jm P C D K else K D
def FC (pre:Bool) (ops:List Oper) (o:Oper) (s:St) (K:Option Prim->St->Option R):Option R:=
 Rc ops o s
  (λs=>(bif pre then J1 P C o.op s else λK=>K s) λs=>opK P C (AL s.tmps) o.dst o.op λp=>Bb C o.dst (p.dr pre) s λv D=>put D o.dst v (K (some (p.dr pre))))
  (λs=>put s o.dst (.tup []) (K none))
def Prim.simple:Option Prim->Bool
 |none=>true
 |some (.val _)=>true
 |some (.load _ _ _ _)=>true
 |some (.store _ _ _)=>true
 |some (.new _ _)=>true
 |some (.newView _ _ _)=>true
 |some (.rload _ _ _ _ _)=>true
 |some (.call _ _)=>true
 |some (.callD _ _)=>true
 |some (.callF _ _)=>true
 |some (.newRow _ _ _)=>true
 |some (.appD _ _ _ _ _)=>true
 |_=>false
def AC.live:AC->Bool
 | .int _ _| .bool _| .raw _| .nilSl| .vC _ _| .ptr _ _=>true
 |_=>false
def Prim.isPtr:Option Prim->Bool
 |some (.val (.v false [.ptr _ _]))=>true
 |_=>false
def Prim.isLive:Option Prim->Bool
 |some (.val (.v _ cs))=>Al AC.live cs
 |_=>false
def Prim.isCallP:Option Prim->Bool
 |some (.call _ args)=>Al TV.plainB args
 |_=>false
def Prim.isLoad:Option Prim->Bool
 |some (.load _ _ _ _)=>true
 |_=>false
def Zix:Operand->Bool
 | .const _=>true
 |_=>false
def oneP:List (Nat×Operand)->Bool
 |[(0,_)]=>true
 |_=>false
def Prim.isView:Option Prim->Bool
 |some (.newView _ _ _)=>true
 |_=>false
def Prim.still (o:Op) (p:Option Prim):Bool:=match o with
 | .move _=>Prim.isLive p
 | .nilCheck _=>Prim.isPtr p
 | .fieldAddr _ _ _=>Prim.isPtr p
 | .call _=>Prim.isCallP p
 | .load _ _=>Prim.isLoad p
 | .build _ parts=>Al (λq:Nat×Operand=>Zix q.2) parts.toList&&Prim.isLive p
 | .buildSlice _ n parts=>Nat.beq n 1&&oneP parts.toList&&Prim.isView p
 |_=>false
def Prim.isApp:Option Prim->Bool
 |some (.appD _ _ _ _ _)=>true
 |_=>false
def Prim.isMk:Option Prim->Bool
 |some (.newRow _ _ _)=>true
 |some (.callF _ _)=>true
 |_=>false
def Prim.mkStill:Option Prim->Bool
 |none=>true
 |some (.val _)=>true
 |some (.load _ _ _ _)=>true
 |some (.newView _ _ _)=>true
 |some (.call _ args)=>Al TV.plainB args
 |some (.newRow _ _ _)=>true
 |some (.callF _ _)=>true
 |_=>false
def I7 (y:Oper) (G:Option Prim) (x:Oper) (D:Option Prim):Bool:=
 bif Prim.isApp G then !(Prim.isApp D)&&y.guard.isNone&&x.guard.isNone&&Prim.still x.op D
 else bif Prim.isApp D then y.guard.isNone&&x.guard.isNone&&Prim.still y.op G
 else bif Prim.isMk G then Prim.mkStill D else bif Prim.isMk D then Prim.mkStill G else true
def Prim.meet (ro:FuncId->Bool):Option Prim->Option Prim->Bool
 |some (.load _ _ k _),some (.store k' _ _)=>Nat.beq k k'
 |some (.store k _ _),some (.load _ _ k' _)=>Nat.beq k k'
 |some (.store k _ _),some (.store k' _ _)=>Nat.beq k k'
 |some (.callD f as),some (.load _ _ k _)=> !(ro f)&&AV (Bi (cat AC.keys (cat TV.cellsOf as)) []) k
 |some (.callD _ as),some (.store k _ _)=>AV (Bi (cat AC.keys (cat TV.cellsOf as)) []) k
 |some (.load _ _ k _),some (.callD f as)=> !(ro f)&&AV (Bi (cat AC.keys (cat TV.cellsOf as)) []) k
 |some (.store k _ _),some (.callD _ as)=>AV (Bi (cat AC.keys (cat TV.cellsOf as)) []) k
 |some (.callD f _),some (.callD g _)=> !(ro f&&ro g)
 |_,_=>false
def K_ (ops:List Oper):List Oper->St->(St->Option R)->Option R
 |[],s,K=>K s
 |o::l,s,K=>FC P C true ops o s λ_ D=>K_ ops l D K
def Um (m:List Nat):List Edge->Nat->Nat
 |[],acc=>acc
 |e::l,acc=>Um m l (bif Region.binds .any e then Nat.lor acc (Nat.lor (2^e.on) (nth 0 m e.on))else acc)
def Zff {α:Type} (n:Nat) (K:Nat->α):α:=match n with
 |0=>K 0
 |n+1=>K (n+1)
def Vq:List Oper->List Nat->(List Nat->Option R)->Option R
 |[],m,K=>K m
 |o::l,m,K=>Zff (Um m o.after.toList 0) λx=>AY (m++[x]) λD=>Vq l D K
def Nq (m:List Nat) (i j:Nat):Bool:=Nat.testBit (nth 0 m i) j
def Zwz:Op->Bool
 | .call _=>true
 | .makeSlice _ _ _=>true
 | .buildSlice _ _ _=>true
 | .store _ _ _=>true
 | .slice _ _ _ _ _=>true
 |_=>false
def Dy (ops:List Oper) (m:List Nat) (i:Nat):Bool:=match ops[i]? with
 |some o=>Zwz o.op&&Al (λj=>Nat.beq j i||Nq m i j||Nq m j i) (List.range ops.length)
 |none=>false
def OE (ops:List Oper) (m:List Nat):List Oper->Nat->St->(List (Oper×Option Prim)->St->Option R)->Option R
 |[],_,s,K=>K [] s
 |o::l,i,s,K=>FC P C (Dy ops m i) ops o s λp D=>OE ops m l (i+1) D λrest G=>K ((o,p)::rest) G
def KE (ops:Array Oper) (m:List Nat):Nat->List (Nat×Oper×Option Prim)->List (Oper×Option Prim)->Bool
 |_,_,[]=>true
 |i,D,(o,p)::l=>
  bif(Dy ops.toList m i||Prim.simple p)&&o.after.toList.all (λe=> !(Region.binds .any e)||Nat.blt e.on i)&&Al (λy:Nat×Oper×Option Prim=>Nq m i y.1||(!(Dy ops.toList m i)&& !(Dy ops.toList m y.1)&&(Oper.apart ops y.2.1 o&& !(Prim.meet C.ro y.2.2 p)&&I7 y.2.1 y.2.2 o p))) D then KE ops m (i+1) (D++[(i,o,p)]) l else false
def Z3 (ops:Array Oper) (draw:Bool) (s:St) (K:St->Option R):Option R:=
 bif draw then Vq ops.toList [] λm=>OE P C ops.toList m ops.toList 0 s λacc D=>bif KE C ops m 0 [] acc then K D else none
 else K_ P C ops.toList ops.toList s K
def J6:List (Nat×Nat)->List AC->Bool
 |[],[]=>true
 |(k,o)::l, .ptr k' D::cs=>Nat.beq k k'&&Nat.beq o D&&J6 l cs
 |_,_=>false
def Ig:CS->AC->Option (List AC)
 | .any,_=>some []
 | .int k, .int k' n=>bif kEq k k' then some [.int k n]else none
 | .bool, .bool b=>some [.bool b]
 | .sl ks, .nilSl=>some [.vC ks []]
 | .sl ks, .vC D l=>bif Dj ks D then some [.vC ks l]else none
 | .rawc, .raw v=>some [.raw v]
 | .str, .raw (.string s)=>some [.raw (.string s)]
 | .nil, .nilSl=>some []
 | .nilp, .raw (.pointer none)=>some []
 | .ptr k o, .ptr k' L=>bif Nat.beq k k'&&Nat.beq o L then some []else none
 | .own id w, .own id' w' _=>bif Nat.beq id id'&&Nat.beq w w' then some []else none
 | .bsl k n, .bsl k' M=>bif Nat.beq k k'&&Nat.beq n M then some []else none
 | .clo f fs cs, .clo N G I=>bif Nat.beq f N&&J6 fs G&&J6 cs I then some []else none
 |_,_=>none
def G3:List CS->List AC->Option (List AC)
 |[],[]=>some []
 |c::cs,a::as=>match Ig c a with
  |some v=>match G3 cs as with
   |some D=>some (v++D)
   |none=>none
  |none=>none
 |_,_=>none
def Nt:List (Bool×List CS)->List (Bool×List AC)->Option (List AC)
 |[],[]=>some []
 | (g, cs) :: l, (D, as) :: m => bif g == D then (match G3 cs as with
  |some v=>match Nt l m with
   |some G=>some (v++G)
   |none=>none
  |none=>none)else none
 |_,_=>none
def LU:TS->TV->Option (List AC)
 | .vD,_=>some []
 | .v g cs, .v D as=>bif g==D then G3 cs as else none
 | .tup ps, .tup G=>Nt ps G
 |_,_=>none
def Lg:List TS->List TV->Option (List AC)
 |[],[]=>some []
 |t::D,v::G=>match LU t v with
  |some a=>match Lg D G with
   |some l=>some (a++l)
   |none=>none
  |none=>none
 |_,_=>none
def Kv:List (Nat×TypeId×List CS)->List (Nat×Box)->Option (List AC)
 |[],_=>some []
 |(k,t,cs)::l,aB=>match Ab aB k with
  | some b => bif Nat.beq t b.ty then (match G3 cs b.cells with
   |some v=>match Kv l aB with
    |some D=>some (v++D)
    |none=>none
   |none=>none)else none
  |none=>none
def Ke:List (Nat×TypeId×List Kd)->List (Nat×Row)->Option (List AC)
 |[],_=>some []
 |(k,t,ks)::l,aC=>match Ab aC k with
  | some r => bif Nat.beq t r.ty && Dj ks r.ks then (match Ke l aC with
    |some D=>some (.vC ks r.l::D)
    |none=>none)else none
  |none=>none
def D8 (k:Nat):Bool:=Nat.ble base k&&Nat.blt k 100000
def DU (sk:Sk) (s:St):Option (List AC):=match s with
 | ⟨tmps, aB, aC⟩ => bif Al (λp : Nat × Box => !(D8 p.1) || AV (sk.aB.map (·.1)) p.1) aB then (match Ke sk.aC aC with
  |some a=>match Lg sk.tmps tmps with
   |some b=>match Kv sk.aB aB with
    |some c=>some (a++(b++c))
    |none=>none
   |none=>none
  |none=>none)else none
def Nm:List (Nat×Nat)->List AC
 |[]=>[]
 |(k,o)::l=> .ptr k o::Nm l
def DM (rl:Nat->Nat) (l:List AC):CS->Nat->AC×Nat
 | .any,i=>(.vD,i)
 | .int k,i=>(.int k (Af (nth .vD l i)),i+1)
 | .bool,i=>(.bool (EJ (nth .vD l i)),i+1)
 | .sl ks,i=>(.vC ks (BI (nth .vD l i)),i+1)
 | .rawc,i=>(NR .raw (nth .vD l i),i+1)
 | .str,i=>(.raw (.string (Bp (nth .vD l i))),i+1)
 | .nil,i=>(.nilSl,i)
 | .nilp,i=>(.raw (.pointer none),i)
 | .ptr k o,i=>(.ptr k o,i)
 | .own id w,i=>(.own id w (rl id),i)
 | .clo f fs cs,i=>(.clo f (Nm fs) (Nm cs),i)
 | .bsl k n,i=>(.bsl k n,i)
def D5 (rl:Nat->Nat) (l:List AC):List CS->Nat->List AC×Nat
 |[],i=>([],i)
 |c::cs,i=>match DM rl l c i with
  |(a,G)=>match D5 rl l cs G with
   |(as,D)=>(a::as,D)
def HH (rl:Nat->Nat) (l:List AC):List (Bool×List CS)->Nat->List (Bool×List AC)×Nat
 |[],i=>([],i)
 |(g,cs)::ps,i=>match D5 rl l cs i with
  |(as,G)=>match HH rl l ps G with
   |(I,D)=>((g,as)::I,D)
def H7 (rl:Nat->Nat) (l:List AC):TS->Nat->TV×Nat
 | .vD,i=>(.vD,i)
 | .v g cs,i=>match D5 rl l cs i with
  |(as,D)=>(.v g as,D)
 | .tup ps,i=>match HH rl l ps i with
  |(G,D)=>(.tup G,D)
def E1 (rl:Nat->Nat) (l:List AC):List TS->Nat->List TV×Nat
 |[],i=>([],i)
 |t::G,i=>match H7 rl l t i with
  |(v,I)=>match E1 rl l G I with
   |(L,D)=>(v::L,D)
def Fy (rl:Nat->Nat) (l:List AC):List (Nat×TypeId×List CS)->Nat->List (Nat×Box)
 |[],_=>[]
 |(k,t,cs)::bs,i=>match D5 rl l cs i with
  |(as,D)=>(k,⟨t,as⟩)::Fy rl l bs D
def Hl (l:List AC):List (Nat×TypeId×List Kd)->Nat->List (Nat×Row)×Nat
 |[],i=>([],i)
 |(k,t,ks)::rs,i=>match Hl l rs (i+1)with
  |(q,D)=>((k,⟨t,ks,BI (nth .vD l i)⟩)::q,D)
def DY (aC:List (Nat×Row)) (id:Nat):Nat:=match Ab aC id with
 |some r=>r.l.length
 |none=>0
def AG (sk:Sk) (vars:List AC):St:=match Hl vars sk.aC 0 with
 |(aC,i)=>match E1 (DY aC) vars sk.tmps i with
  |(tmps,D)=>⟨tmps,Fy (DY aC) vars sk.aB D,aC⟩
def CS.okB (keys:List Nat) (aC:List (Nat×TypeId×List Kd)):CS->Bool
 | .ptr k _=>AV keys k
 | .bsl k _=>AV keys k
 | .own id w=>match Ab aC id with
  |some (_,ks)=>Nat.beq ks.length w
  |none=>false
 | .clo _ fs cs=>Al (λp:Nat×Nat=>AV keys p.1) fs&&Al (λp:Nat×Nat=>AV keys p.1) cs
 |_=>true
def TS.okB (keys:List Nat) (aC:List (Nat×TypeId×List Kd)):TS->Bool
 | .vD=>true
 | .v _ cs=>Al (CS.okB keys aC) cs
 | .tup ps=>Al (λp:Bool×List CS=>Al (CS.okB keys aC) p.2) ps
def Sk.okB (sk:Sk):Bool:=
 Ck (sk.aB.map (·.1))&&Ck (sk.aC.map (·.1))&&Al (TS.okB (sk.aB.map (·.1)) sk.aC) sk.tmps&&Al (λp:Nat×TypeId×List CS=>Al (CS.okB (sk.aB.map (·.1)) sk.aC) p.2.2) sk.aB
def Ll (d:Nat):AC->Bool
 | .ptr k _=> !(Nat.beq k d)
 |_=>true
def AC.killP (d:Nat):AC->AC
 | .ptr k o=>bif Nat.beq k d then .vD else .ptr k o
 | .bsl k n=>bif Nat.beq k d then .vD else .bsl k n
 | .clo f fs cs=>bif Al (Ll d) fs&&Al (Ll d) cs then .clo f fs cs else .vD
 |a=>a
def TV.mapC (f:AC->AC):TV->TV
 | .v g cs=> .v g (cs.map f)
 | .tup ps=> .tup (ps.map λp=>(p.1,p.2.map f))
 | .vD=> .vD
def Xl:List Oper->List Nat
 |[]=>[]
 |o::l=>match o.op,o.dst with
  | .alloc _,some d=>d::Xl l
  | .box _ _,some d=>d::Xl l
  |_,_=>Xl l
def Ts:List Nat->St->(St->Option R)->Option R
 |[],s,K=>K s
 |d::l,⟨tmps,aB,aC⟩,K=>match Ab aB d with
  |none=>Ts l ⟨tmps,aB,aC⟩ K
  |some _=>bif D8 d then none else AY (tmps.map (TV.mapC (AC.killP d))) λG=>AY ((del d aB).map λp=>(p.1,(⟨p.2.ty,p.2.cells.map (AC.killP d)⟩:Box))) λD=>Ts l ⟨G,D,aC⟩ K
def Ri (step:St->(Ex->St->Option R)->Option R):Nat->St->(Ex->St->Option R)->Option R
 |0,_,_=>none
 |n+1,s,K=>step s fun
  | .normal,D=>Jm P C D λD=>Ri step n D K
  | .exit id,D=>K (.exit id) D
  | .ret,D=>K .ret D
def W8 (F:Int->Option R) (D:Int):Nat->Option R
 |0=>none
 |n+1=>cond (decide (D=n)) (F n) (W8 F D n)
def Qfp (o:Option (Nat×Nat×Nat)) (s:St) (F:St->Option R):Option R:=match o with
 |none=>F s
 |some (t,j,n)=>match nth .vD s.tmps t with
  | .v _ [.ptr key off]=>match Ab s.aB key with
   |some b=>match nth .nilSl b.cells (off+j)with
    | .int k D=>W8 (λe=>F ⟨s.tmps,upd s.aB key ⟨b.ty,setL b.cells (off+j) (.int k e)⟩,s.aC⟩) D n
    |_=>none
   |none=>none
  |_=>none
def LK (a:Option (Sk×Jw)) (s:St) (K:Ex->St->Option R) (run:Option R):Option R:=match a with
 |none=>run
 | some (sk, g) => bif sk.okB then (match DU sk s with
  |some vars=>g R vars K
  |none=>none)else none
def Wo (C:Cfg) (c:Operand):Option (Sk×Jw):=match c with
 | .tmp t=>C.conds t
 |_=>none
def Ng:Code->Option Nat
 | .region id _ _=>some id
 | .seq a b=>match Ng a with
  |some n=>some n
  |none=>Ng b
 | .cond _ a b=>match Ng a with
  |some n=>some n
  |none=>Ng b
 | .block _ b=>Ng b
 | .loop b=>Ng b
 |_=>none
def Tf (body:Code):Nat:=match Ng body with
 |some n=>n
 |none=>0
def BC (L:Nat):Code->Nat->St->(Ex->St->Option R)->Option R
 | .skip,blk,s,K=>Qfp (C.split blk) s (K .normal)
 | .region _ ops draw,_,s,K=>Ts (Xl ops.toList) s λs=>Z3 P C ops draw s (K .normal)
 | .seq a b,blk,s,K=>BC L a blk s fun
  | .normal,D=>BC L b blk D K
  | .exit id,D=>K (.exit id) D
  | .ret,D=>K .ret D
 | .cond c x y, blk, s, K => LK (Wo C c) s K (match AL s.tmps c with
  | .v false [.bool g]=>match c with
   | .tmp t=>cond g (put s (some t) (.c (.bool true)) λD=>BC L x blk D K) (put s (some t) (.c (.bool false)) λD=>BC L y blk D K)
   |_=>cond g (BC L x blk s K) (BC L y blk s K)
  |_=>none)
 | .block id body,_,s,K=>LK (C.blocks id) s K (BC L body id s fun
  | .normal,D=>K .normal D
  | .exit i,D=>bif Nat.beq i id then K .normal D else K (.exit i) D
  | .ret,D=>K .ret D)
 | .loop body,blk,s,K=>JI P (C.prom (Tf body)) s λD=>
   Jm P C D λD=>LK (C.loops (Tf body)) D K (Ri P C (λs K=>BC L body blk s K) L D K)
 | .exit id,_,s,K=>K (.exit id) s
 | .ret,_,s,K=>K .ret s
 | .scope b,blk,s,K=>BC L b blk s K
 | .label _,_,s,K=>K .normal s
 |_,_,_,_=>none
def XK:Ex->Ex->Bool
 | .normal, .normal=>true
 | .exit i, .exit j=>Nat.beq i j
 | .ret, .ret=>true
 |_,_=>false
def K8:List (Ex×Sk)->Nat->Ex->St->Option (Nat×List AC)
 |[],_,_,_=>none
 | (e, sk) :: l, i, D, s => bif XK e D && sk.okB then (match DU sk s with
  |some vars=>some (i,vars)
  |none=>none)else K8 l (i+1) D s
def Q4 (o:List AC) (K:Ex->St->Option R):List (Ex×Sk)->Nat->Nat->Option R
 |[],_,_=>none
 |(e,sk)::l,i,n=>bif Nat.beq n i then K e (AG sk o)else Q4 o K l (i+1) n
def gOf (D:List (Ex×Sk)) (m:List AC->Option (Nat×List AC)):Jw:=λ_ vars K=>(m vars).bind λo=>Q4 o.2 K D 1 o.1
def AR (L blk:Nat) (body:Code) (sk:Sk) (D:List (Ex×Sk)) (vars:List AC):Option (Nat×List AC):=
 BC P C L body blk (AG sk vars) λe G=>match e with
  | .normal=>Jm P C G λG=>match DU sk G with
   |some vars=>some (0,vars)
   |none=>none
  | .exit i=>K8 D 1 (.exit i) G
  | .ret=>K8 D 1 .ret G
def Cf (step:List AC->Option (Nat×List AC)):Nat->List AC->Option (Nat×List AC)
 |0,_=>none
 |n+1,vars=>(step vars).bind λo=>if o.1=0 then Cf step n o.2 else some o
def Qhx (s:St):ResultVar->Option TV
 | .tmp t=>match nth .vD s.tmps t with
  | .v g cs=>some (.v g cs)
  |_=>none
 | .cell a t=>match nth .vD s.tmps a,C8 P t,szT P t with
  | .v false [.ptr key off],some g,some sz=>match Ab s.aB key with
   |some b=>DO g sz b.cells off
   |none=>none
  |_,_,_=>none
def Mg (s:St):List ResultVar->Option (List (Bool×List AC))
 |[]=>some []
 |r::l=>match Qhx P s r with
  |some (.v g cs)=>match Mg s l with
   |some ps=>some ((g,cs)::ps)
   |none=>none
  |_=>none
def H8:List TypeId->List (Bool×List AC)->List (Bool×List AC)
 | t :: D, (g, cs) :: l => (g, match GV P 8 t with
  |some ks=>DX ks cs
  |none=>cs)::H8 D l
 |_,l=>l
def L0:List (Bool×List AC)->TV
 |[(g,cs)]=> .v g cs
 |ps=> .tup ps
def Qdd:List TV->Bool
 | .v false [.own id _ _]::_=>Nat.beq id base
 |_=>false
def Oj (L:Func) (D:List Nat) (s:St) (K:TV->Mem->Option R):Option R:=
 match Mg P s L.results.toList with
 |none=>none
 |some ps=>(bif C.ownRes then λK=>K s else Je (cat (λp:Bool×List AC=>cat AC.ids p.2) ps) s) λs1=>Jm P C s1 λs1=>
  match Mg P s1 L.results.toList with
  |none=>none
  |some ps=>match s1 with
   |⟨tm,aB,aC⟩=>
    bif !C.keepIn||Qdd tm then
    AY (H8 P L.resultTypes.toList ps) λps=>
    AY (M0 aB 4 (Bi (cat (λp:Bool×List AC=>cat AC.keys p.2) ps) D)) λkeys=>
    AY (PH aB (cat (λp:Bool×List AC=>p.2) ps) keys) λids=>
    AY (aB.filter λp=>AV keys p.1) λG=>
    AY (aC.filter λp=>AV ids p.1||D8 p.1) λI=>
    bif Al (λp:Bool×List AC=>Al (AC.inK keys ids) p.2) ps&&Al (λp:Nat×Box=>Al (AC.inK keys ids) p.2.cells) G&&Al (Gi aB) D&&Al (AV keys) D then K (L0 ps) ⟨G,I⟩else none else none
def Ew (L:Nat) (f:FuncId) (args:List TV) (mem:Mem) (K:TV->Mem->Option R):Option R:=
 match P.funcs.toList[f]? with
 |some D=>match D.body with
  |some c=>bif Al (λp:Nat×Box=>D8 p.1) mem.aB then
    AY (args++List.replicate (D.ntmps-args.length) TV.vD) λtmps=>
     BC P C L c 0 ⟨tmps,mem.aB,mem.aC⟩ λe s=>match e with
      | .normal=>Oj P C D (mem.aB.map (·.1)) s K
      | .ret=>Oj P C D (mem.aB.map (·.1)) s K
      | .exit _=>none
   else none
  |none=>none
 |none=>none
def A5:Code->Nat->List (Nat×Code)
 | .seq a b,blk=>A5 a blk++A5 b blk
 | .cond _ a b,blk=>A5 a blk++A5 b blk
 | .block _ b,blk=>A5 b blk
 | .loop b,blk=>(Tf b,b)::A5 b blk
 | .scope b,blk=>A5 b blk
 |_,_=>[]
def CF:Code->List (Nat×Code)
 | .seq a b=>CF a++CF b
 | .cond _ a b=>CF a++CF b
 | .block id b=>(id,b)::CF b
 | .loop b=>CF b
 | .scope b=>CF b
 |_=>[]
def BO:Code->Nat->List (Nat×Nat×Code×Code)
 | .seq a b,blk=>BO a blk++BO b blk
 | .cond (.tmp t) a b,blk=>(t,0,a,b)::(BO a blk++BO b blk)
 | .cond _ a b,blk=>BO a blk++BO b blk
 | .block _ b,blk=>BO b blk
 | .loop b,blk=>BO b blk
 | .scope b,blk=>BO b blk
 |_,_=>[]
def F4 (f:FuncId):Option Code:=
 match P.funcs.toList[f]? with
 |some D=>D.body
 |none=>none
def G8 (f:FuncId):List (Nat×Code):=match F4 P f with
 |some c=>A5 c 0
 |none=>[]
def ZN (f:FuncId):List (Nat×Code):=match F4 P f with
 |some c=>CF c
 |none=>[]
def X2 (f:FuncId):List (Nat×Nat×Code×Code):=match F4 P f with
 |some c=>BO c 0
 |none=>[]
def Aj (L:Nat) (f:FuncId) (sig D:Sk) (vars:List AC):Option (List AC):=match AG sig vars with
 |⟨args,aB,aC⟩=>Ew P C L f args ⟨aB,aC⟩ λv m=>match m with
  |⟨b,r⟩=>DU D ⟨[v],b,r⟩
end prog
def Ah (sig D:Sk) (m:List AC->Option (List AC)):Spec:=λR args mem K=>match mem with
 | ⟨aB, aC⟩ => bif Al (λp : Nat × Box => D8 p.1) aB then (match DU sig ⟨args, aB, aC⟩ with
  |some vars=>(m vars).bind λo=>match AG D o with
   |⟨tm,b,r⟩=>match tm with
    |[v]=>K v ⟨b,r⟩
    |_=>none
  |none=>none)else none
def Yg:CS->AC->Bool
 | .int k, .int k' _=>kEq k k'
 | .bool, .bool _=>true
 | .sl ks, .vC D _=>Dj ks D
 | .ptr k o, .ptr k' G=>Nat.beq k k'&&Nat.beq o G
 |_,_=>false
def Qx:List CS->List AC->Bool
 |[],[]=>true
 |c::cs,a::as=>Yg c a&&Qx cs as
 |_,_=>false
def HY:List (Nat×TypeId×List CS)->List (Nat×Box)->Bool
 |[],[]=>true
 |(k,t,cs)::l,(k',b)::m=>Nat.beq k k'&&(Nat.beq t b.ty&&(Qx cs b.cells&&HY l m))
 |_,_=>false
def ET (sig D:Sk) (m:List AC->Option (List AC)):Spec:=λR args mem K=>match mem with
 | ⟨aB, aC⟩ => bif Al (λp : Nat × Box => D8 p.1) aB && (HY sig.aB aB && (aC.isEmpty && (sig.aC.isEmpty && Ck (sig.aB.map (·.1))))) then (match DU sig ⟨args, aB, aC⟩ with
  |some vars=>(m vars).bind λo=>match AG D o with
   |⟨tm,[],[]⟩=>match tm with
    |[v]=>K v ⟨aB,aC⟩
    |_=>none
   |_=>none
  |none=>none)else none
def Nd (P:Program) (C:Cfg) (L:Nat) (f:FuncId) (sig D:Sk) (vars:List AC):Option (List AC):=match AG sig vars with
 |⟨args,aB,aC⟩=>Ew P C L f args ⟨aB,aC⟩ λv _=>DU D ⟨[v],[],[]⟩
def AU (P:Program) (f blk:Nat):Code:=match Ab (G8 P f) blk with
 |some c=>c
 |none=> .skip
def Cfg.loop (C:Cfg) (blk:Nat) (sk:Sk) (D:List (Ex×Sk)) (m:List AC->Option (Nat×List AC)):Cfg:=
 {C with loops:=λb=>bif Nat.beq b blk then some (sk,gOf D m)else C.loops b}
open Go.RowKit
def R6 {a b c d:Prop} (h:a\/b) (f:a->c) (g:b->d):c\/d:=by grind
mutual
def CP (im:Nat->Prop) (w:World):AC->Value->Prop
 | .int k n,x=>x= .int k n
 | .bool b,x=>x= .bool b
 | .raw v,x=>x=v/\v.oneCell'=true
 | .nilSl,x=>x= .slice none 0 0
 | .vC ks l,x=>∃D cap,x= .slice D l.length cap/\l.length<=cap/\(∀c∈l,AX ks c=c)/\(l=[]\/∃b o,D=some ⟨b,o,none⟩/\im b/\CPss im w ks.length l b o)
 | .vD,_=>False
 | .ptr _ _,_=>False
 | .own _ _ _,_=>False
 | .rptr _ _ _,_=>False
 | .vptr _ _,_=>False
 | .clo _ _ _,_=>False
 | .bsl _ _,_=>False
def CPs (im:Nat->Prop) (w:World):List AC->Nat->Nat->Prop
 |[],_,_=>True
 |c::cs,b,o=>(∃y,w.cell? ⟨b,o,none⟩=some y/\CP im w c y)/\CPs im w cs b (o+1)
def CPss (im:Nat->Prop) (w:World) (wd:Nat):List (List AC)->Nat->Nat->Prop
 |[],_,_=>True
 |c::cs,b,o=>(c.length=wd/\CPs im w c b o)/\CPss im w wd cs b (o+wd)
end
theorem Q51:∀(ks:List Kd) (cs:List AC) (j:Nat),(EZ ks cs j).length=ks.length
 |[],_,_=>rfl
 |_::ks,cs,j=>by simp[EZ,Q51 ks cs (j+1)]
def Qcl (ks:List Kd) (cs:List AC):(AX ks cs).length=ks.length:=Q51 ks cs 0
def Qas {im:Nat->Prop} {w:World} {wd:Nat}:∀{l:List (List AC)} {b o:Nat},CPss im w wd l b o->∀i (D:i<l.length),(l[i]).length=wd/\CPs im w l[i] b (o+i*wd)
 |[],_,_,_,i,D=>by grind
 |c::l,b,o,h,0,_=>by simp_all [CPss]
 |c::l,b,o,h,i+1,D=>by
  have:=Qas h.2 i (by grind)
  grind
def U0 {im:Nat->Prop} {w:World} {wd:Nat}:∀{l:List (List AC)} {b o:Nat},(∀i (D:i<l.length),(l[i]).length=wd/\CPs im w l[i] b (o+i*wd))->CPss im w wd l b o
 |[],_,_,_=>by simp[CPss]
 |c::l,b,o,h=>by
  refine⟨by have:=h 0 (by simp);grind,U0 λi D=> ?_⟩;have:=h (i+1) (by grind)
  grind
def Fv (w:World) (e:TypeId) (size:Nat) (v:Value) (n:Nat) (xs:List Value):Prop:=
 xs.length = n * size /\ ((v = .slice none 0 0 /\ n = 0) \/
  ∃g o cap cur,v= .slice (some ⟨g,o,none⟩) n cap/\w.heap[g]? =some (.cells cur e (0,0))/\n<=cap/\cap<=maxLen/\o+cap*size<=cur.size/\(cur.toList.drop o).take (n*size)=xs)
def YV (w:World) (e:TypeId) (size:Nat):Fv w e size (.slice none 0 0) 0 []:=⟨by simp, .inl ⟨rfl,rfl⟩⟩
theorem Zmm {w:World} {base:Nat} {e:TypeId} {size:Nat} {v:Value} {n:Nat} {xs:List Value} (h:w.ownsRow base e size v n xs):Fv w e size v n xs:=by
 refine⟨h.1,?_⟩;rcases h.2 with h|⟨g,cap,cur,D,_,G,I,L,M,N⟩
 ·grind
 grind
def Q5s {w:World} {e:TypeId} {size:Nat} {v:Value} {n:Nat} {xs:List Value} (h:Fv w e size v n xs):∀k,v.ownBlock=some k->k<w.heap.size:=by
 rcases h.2 with⟨rfl,_⟩|⟨g,o,cap,cur,rfl,D,_⟩
 ·grind [Value.ownBlock]
 grind [Value.ownBlock]
def OA {w w':World} {e:TypeId} {size n:Nat} {v:Value} {xs:List Value} (h:Fv w e size v n xs) (hb:∀g,v.ownBlock=some g->w'.heap[g]? =w.heap[g]?):Fv w' e size v n xs:=by
 refine⟨h.1,?_⟩;rcases h.2 with hn|⟨g,o,cap,cur,rfl,D,G⟩
 ·grind
 exact .inr ⟨g,o,cap,cur,rfl,by rw[hb g rfl];exact D,G⟩
def H6:Value->Nat
 | .slice (some a) _ _=>a.off
 |_=>0
def Sb {w:World} {e:TypeId} {size:Nat} {v:Value} {n:Nat} {xs:List Value} (h:Fv w e size v n xs) {g:Nat} (D:v.ownBlock=some g):∀j u,xs[j]? =some u->w.cell? ⟨g,H6 v+j,none⟩=some u:=by
 rcases h.2 with⟨rfl,rfl⟩|⟨G,o,cap,cur,rfl,I,L,M,N,O⟩
 ·grind [Value.ownBlock]
 grind [Value.ownBlock,World.cell?,H6]
structure Env where
 bx:Nat->Nat
 rv:Nat->Value
 wd:Nat->Nat
 im:Nat->Prop
def CCc (ρ:Env) (w:World):AC->Value->Prop
 | .ptr key off,x=>x= .pointer (some ⟨ρ.bx key,off,none⟩)
 |a,x=>CP ρ.im w a x
def CLc (ρ:Env) (w:World):List AC->List Value->Prop
 |[],[]=>True
 |a::l,x::xs=>CCc ρ w a x/\CLc ρ w l xs
 |_,_=>False
def CC (ρ:Env) (w:World):AC->Value->Prop
 | .vD,x=>x.oneCell'=true
 | .ptr key off,x=>x= .pointer (some ⟨ρ.bx key,off,none⟩)
 | .own id wd n,x=>x=ρ.rv id/\ρ.wd id=wd/\((x= .slice none 0 0/\n=0)\/∃g o c,x= .slice (some ⟨g,o,none⟩) n c)
 | .rptr id idx sub,x=>∃g,(ρ.rv id).ownBlock=some g/\x= .pointer (some ⟨g,H6 (ρ.rv id)+(idx*ρ.wd id+sub),none⟩)
 | .vptr cs sub,x=>∃b o,x= .pointer (some ⟨b,o+sub,none⟩)/\ρ.im b/\CPs ρ.im w cs b o
 | .clo f fs cs,x=>∃xs D:Array Value,x= .func (.func f) xs D/\CLc ρ w fs xs.toList/\CLc ρ w cs D.toList
 | .bsl key n,x=>x= .slice (some ⟨ρ.bx key,0,none⟩) n n
 |a,x=>CP ρ.im w a x
def CL (R:AC->Value->Prop):List AC->List Value->Prop
 |[],[]=>True
 |a::l,x::xs=>R a x/\CL R l xs
 |_,_=>False
def TP (ρ:Env) (w:World):List (Bool×List AC)->List Value->Prop
 |[],[]=>True
 | (g, cs) :: l, x :: xs => (match g with
   |true=>∃D:Array Value,x= .agg D/\CL (CC ρ w) cs D.toList
   |false=>∃a,cs=[a]/\CC ρ w a x)/\TP ρ w l xs
 |_,_=>False
def TVR (ρ:Env) (w:World):TV->Value->Prop
 | .vD,_=>True
 | .v true cs,x=>∃D:Array Value,x= .agg D/\CL (CC ρ w) cs D.toList
 | .v false cs,x=>∃a,cs=[a]/\CC ρ w a x
 | .tup ps,x=>∃D:Array Value,x= .tuple D/\TP ρ w ps D.toList
theorem CL.length {R:AC->Value->Prop}:∀{l:List AC} {xs:List Value},CL R l xs->l.length=xs.length
 |[],[],_=>rfl
 |_::l,_::xs,h=>by simp[CL.length h.2]
 |[],_::_,h=>h.elim
 |_::_,[],h=>h.elim
theorem CL.mono {R R':AC->Value->Prop}:∀{l:List AC} {xs:List Value},(∀a∈l,∀x,R a x->R' a x)->CL R l xs->CL R' l xs
 |[],[],_,_=>trivial
 |a::l,x::xs,h,D=>⟨h a (by simp) x D.1,CL.mono (λb hb=>h b (by grind)) D.2⟩
 |[],_::_,_,h=>h.elim
 |_::_,[],_,h=>h.elim
def CL.get {R:AC->Value->Prop}:∀{l:List AC} {xs:List Value} {i:Nat} {a:AC},CL R l xs->l[i]? =some a->∃x,xs[i]? =some x/\R a x
 |[],[],i,_,_,h=>by grind
 |a::l,x::xs,0,b,D,h=>by simp at h;subst h;exact⟨x,rfl,D.1⟩
 |a::l,x::xs,i+1,b,D,h=>by simpa using CL.get D.2 (by grind)
 |[],_::_,_,_,h,_=>h.elim
 |_::_,[],_,_,h,_=>h.elim
def CL.drop {R:AC->Value->Prop}:∀(n:Nat) {l:List AC} {xs:List Value},CL R l xs->CL R (l.drop n) (xs.drop n)
 |0,_,_,h=>h
 |_+1,[],[],_=>trivial
 |n+1,_::_,_::_,h=>CL.drop n h.2
 |_+1,[],_::_,h=>h.elim
 |_+1,_::_,[],h=>h.elim
def CL.take {R:AC->Value->Prop}:∀(n:Nat) {l:List AC} {xs:List Value},CL R l xs->CL R (l.take n) (xs.take n)
 |0,_,_,_=>by simp[CL]
 |_+1,[],[],_=>trivial
 |n+1,_::_,_::_,h=>⟨h.1,CL.take n h.2⟩
 |_+1,[],_::_,h=>h.elim
 |_+1,_::_,[],h=>h.elim
theorem CL.cut {R:AC->Value->Prop} {l:List AC} {xs:List Value} (o m:Nat) (h:CL R l xs):CL R (cut l o m) (cut xs o m):=CL.take m (CL.drop o h)
def CL.append {R:AC->Value->Prop}:∀{l G:List AC} {xs D:List Value},CL R l xs->CL R G D->CL R (l++G) (xs++D)
 |[],_,[],_,_,h=>h
 |_::_,_,_::_,_,h,h'=>⟨h.1,CL.append h.2 h'⟩
 |[],_,_::_,_,h,_=>h.elim
 |_::_,_,[],_,h,_=>h.elim
theorem CL.splice {R:AC->Value->Prop}:∀{l:List AC} {xs:List Value} (o:Nat) {D:List AC} {G:List Value},CL R l xs->CL R D G->CL R (splice l o D) (splice xs o G)
 |l,xs,o,[],[],h,_=>by grind [Bm.splice]
 |[],[],o,_::_,_::_,_,_=>by simp[Bm.splice,CL]
 |a::l,x::xs,0,v::D,y::G,h,h'=>by simp only[Bm.splice];exact⟨h'.1,CL.splice 0 h.2 h'.2⟩
 |a::l,x::xs,o+1,v::D,y::G,h,h'=>by simp only[Bm.splice];exact⟨h.1,CL.splice o h.2 h'⟩
 |[],_::_,_,_,_,h,_=>h.elim
 |_::_,[],_,_,_,h,_=>h.elim
 |_,_,_,[],_::_,_,h=>h.elim
 |_,_,_,_::_,[],_,h=>h.elim
mutual
theorem CP.mono {im D:Nat->Prop} {w w':World} (G:∀b,im b->D b) (hb:∀b,im b->w'.heap[b]? =w.heap[b]?):∀(a:AC) (x:Value),CP im w a x->CP D w' a x
 | .int k n,x,h=>by grind [CP]
 | .bool b,x,h=>by grind [CP]
 | .raw v,x,h=>by grind [CP]
 | .nilSl,x,h=>by grind [CP]
 | .vC ks l,x,h=>by
  obtain⟨L,cap,M,hle,N,hf⟩:=h;refine⟨L,cap,M,hle,N,?_⟩;rcases hf with hf|⟨b,o,O,I,U⟩
  ·grind
  exact .inr ⟨b,o,O,G b I,CPss.mono G hb _ l b o I U⟩
 | .vD,x,h=>by grind [CP]
 | .ptr _ _,x,h=>by grind [CP]
 | .own _ _ _,x,h=>by grind [CP]
 | .rptr _ _ _,x,h=>by grind [CP]
 | .vptr _ _,x,h=>by grind [CP]
 | .clo _ _ _,x,h=>by grind [CP]
 | .bsl _ _,x,h=>by grind [CP]
theorem CPs.mono {im D:Nat->Prop} {w w':World} (I:∀b,im b->D b) (hb:∀b,im b->w'.heap[b]? =w.heap[b]?):∀(cs:List AC) (b o:Nat),im b->CPs im w cs b o->CPs D w' cs b o
 |[],_,_,_,_=>by simp[CPs]
 |c::cs,b,o,G,h=>by
  obtain⟨⟨y,L,M⟩,N⟩:=h;exact⟨⟨y,(World.cell?_of_block (hb b G)).trans L,CP.mono I hb c y M⟩,CPs.mono I hb cs b _ G N⟩
theorem CPss.mono {im D:Nat->Prop} {w w':World} (I:∀b,im b->D b) (hb:∀b,im b->w'.heap[b]? =w.heap[b]?) (wd:Nat):∀(l:List (List AC)) (b o:Nat),im b->CPss im w wd l b o->CPss D w' wd l b o
 |[],_,_,_,_=>by simp[CPss]
 |c::cs,b,o,G,h=>by
  exact⟨⟨h.1.1,CPs.mono I hb c b o G h.1.2⟩,CPss.mono I hb wd cs b _ G h.2⟩
end
def AC.agreeP (ρ D:Env):AC->Prop
 | .ptr key _=>D.bx key=ρ.bx key
 |_=>True
def AC.agree (ρ D:Env):AC->Prop
 | .ptr key _=>D.bx key=ρ.bx key
 | .bsl key _=>D.bx key=ρ.bx key
 | .own id _ _=>D.rv id=ρ.rv id/\D.wd id=ρ.wd id
 | .rptr id _ _=>D.rv id=ρ.rv id/\D.wd id=ρ.wd id
 | .clo _ fs cs=>(∀a∈fs,AC.agreeP ρ D a)/\∀a∈cs,AC.agreeP ρ D a
 |_=>True
theorem CLc.mono {ρ ρ':Env} {w w':World} (D:∀b,ρ.im b->ρ'.im b) (hb:∀b,ρ.im b->w'.heap[b]? =w.heap[b]?):∀(l:List AC) (xs:List Value),(∀a∈l,a.agreeP ρ ρ')->CLc ρ w l xs->CLc ρ' w' l xs
 |[],[],_,_=>trivial
 |a::l,x::xs,G,h=>by
  refine⟨?_,CLc.mono D hb l xs (λb hb=>G b (by grind)) h.2⟩;have L:=G a (by simp);have I:=h.1;cases a<;>first
   |exact CP.mono D hb _ _ I
   |grind [CCc,AC.agreeP]
 |[],_::_,_,h=>h.elim
 |_::_,[],_,h=>h.elim
theorem CC.mono {ρ ρ':Env} {w w':World} (D:∀b,ρ.im b->ρ'.im b) (hb:∀b,ρ.im b->w'.heap[b]? =w.heap[b]?) (a:AC) (x:Value) (G:a.agree ρ ρ') (h:CC ρ w a x):CC ρ' w' a x:=by
 cases a with
 |vD=>exact h
 |ptr key off=>grind [CC,AC.agree]
 |bsl key n=>grind [CC,AC.agree]
 |own id w n=>grind [CC,AC.agree]
 |rptr id idx sub=>grind [CC,AC.agree]
 |vptr cs sub=>grind [CC,CPs.mono]
 |clo f fs cs=>grind [CC,AC.agree,CLc.mono]
 |int k n=>exact CP.mono D hb _ _ h
 |bool b=>exact CP.mono D hb _ _ h
 |raw v=>exact CP.mono D hb _ _ h
 |nilSl=>exact CP.mono D hb _ _ h
 |vC ks l=>exact CP.mono D hb _ _ h
theorem Jp {ρ:Env} {w:World} {a:AC} {x:Value} (h:CP ρ.im w a x):CC ρ w a x:=by
 cases a<;>first|exact h|grind [CP]
theorem CP.one {im:Nat->Prop} {w:World} {a:AC} {x:Value} (h:CP im w a x):x.oneCell'=true:=by
 cases a<;>simp only[CP]at h
 case int=>subst h;rfl
 case bool=>subst h;rfl
 case raw=>grind
 case nilSl=>subst h;rfl
 case vC=>obtain⟨_,_,rfl,_⟩:=h;rfl
theorem CC.one {ρ:Env} {w:World} {a:AC} {x:Value} (h:CC ρ w a x):x.oneCell'=true:=by
 cases a with
 |vD=>exact h
 |ptr=>simp only[CC]at h;subst h;rfl
 |bsl=>simp only[CC]at h;subst h;rfl
 |own=>obtain⟨_,_,⟨rfl,_⟩|⟨_,_,_,rfl⟩⟩:=h<;>rfl
 |rptr=>obtain⟨_,_,rfl⟩:=h;rfl
 |vptr=>obtain⟨_,_,rfl,_⟩:=h;rfl
 |clo=>obtain⟨_,_,rfl,_⟩:=h;rfl
 |int=>exact CP.one h
 |bool=>exact CP.one h
 |raw=>exact CP.one h
 |nilSl=>exact CP.one h
 |vC=>exact CP.one h
theorem Au {α:Type} {p:α->Bool}:∀{l:List α},Al p l=true↔∀x∈l,p x=true
 |[]=>by simp[Al]
 |x::l=>by
  simp only[Al,be,i6,<-Au];simp
theorem A8 {α R:Type}:∀(l:List α) (K:List α->Option R),AY l K=K l
 |[],_=>rfl
 |x::xs,K=>by rw[AY,A8 xs]
theorem Ca {α:Type} (d:α):∀(l:List α) (n:Nat),nth d l n=l.getD n d
 |[],_=>by rfl
 |_::_,0=>by rfl
 |_::xs,n+1=>by simp only[nth,Ca d xs n];simp
theorem Jc {α:Type}:∀(l:List α) (n:Nat) (v:α),setL l n v=l.set n v
 |[],_,_=>by rfl
 |_::_,0,_=>by rfl
 |x::xs,n+1,v=>by simp[setL,Jc xs n v]
section tables
variable {α:Type}
theorem E4:∀(l:List (Nat×α)) (k:Nat) (x y:α),Ab l k=some y->Ab (upd l k x) k=some x
 |[],_,_,_,h=>by grind [Ab]
 |(k',b)::l,k,x,y,h=>by
  simp only[upd]at*;cases D:Nat.beq k' k
  ·simp only[D,bn,Ab]at*;exact E4 l k x y h
  grind [Ab]
theorem Dv:∀(l:List (Nat×α)) (k j:Nat) (x:α),j≠k->Ab (upd l k x) j=Ab l j
 |[],_,_,_,_=>rfl
 |(k',b)::l,k,j,x,h=>by
  simp only[upd];cases D:Nat.beq k' k
  ·simp only[bn,Ab,Dv l k j x h]
  grind [Nat.eq_of_beq_eq_true,Ab]
theorem EU:∀(l:List (Nat×α)) (k:Nat) (x:α),Ab l k=none->Ab (ins l k x) k=some x
 |[],k,x,_=>by simp[Ab,ins]
 |(k',b)::l,k,x,h=>by
  simp only[Ab,ins]at*;cases D:Nat.beq k' k
  ·simp only[D]at h;cases hb:Nat.blt k k'
   ·simp only[bn,Ab,D];exact EU l k x h
   simp[Ab]
  grind
theorem Ed:∀(l:List (Nat×α)) (k j:Nat) (x:α),j≠k->Ab (ins l k x) j=Ab l j
 |[],k,j,x,h=>by grind [Nat.eq_of_beq_eq_true,Ab,ins]
 |(k',b)::l,k,j,x,h=>by
  have D:Nat.beq k j=false:=by
   cases hb:Nat.beq k j
   ·rfl
   simp_all
  simp only[ins];cases hb:Nat.blt k k'
  ·simp only[bn,Ab,Ed l k j x h]
  grind [Ab]
theorem Sw:∀(l:List (Nat×α)) (k:Nat),Ab (del k l) k=none
 |[],k=>by rfl
 |(k',b)::l,k=>by
  simp only[del];cases D:Nat.beq k' k
  ·simp only[bn,Ab,D,Sw l k]
  simp;exact Sw l k
theorem K7:∀(l:List (Nat×α)) (k j:Nat),j≠k->Ab (del k l) j=Ab l j
 |[],_,_,_=>by rfl
 |(k',b)::l,k,j,h=>by
  simp only[del];cases G:Nat.beq k' k
  ·simp only[bn,Ab,K7 l k j h]
  have e:=ah G;subst e;have D:Nat.beq k' j=false:=by
   cases hb:Nat.beq k' j
   ·rfl
   simp_all
  simp only[Ab,D];exact K7 l k' j h
theorem NA {l:List (Nat×α)} {k j:Nat} {x:α} (h:Ab (del k l) j=some x):j≠k/\Ab l j=some x:=by grind [Sw,K7]
end tables
open Go.RowKit
section
variable {P:Program} {C:Cfg} {ρ:Env} {w:World} {R:Type}
theorem Z4m {x:Value} (h:x.oneCell'=true):x.cells= #[x]:=by
 cases x<;>first|rfl|grind [Value.oneCell']
def Zhc (v:Value) (h:v.oneCell'=true):CC ρ w (ON v) v:=by
 unfold ON
 grind [CC,CP]
theorem Wb:∀(l:List Value) {cs:List AC},Js l=some cs->CL (CC ρ w) cs l
 |[],cs,h=>by simp[Js]at h;subst h;trivial
 |v::l,cs,h=>by
  simp only[Js]at h;cases D:v.oneCell'
  ·grind
  simp only[D]at h;split at h
  ·rename_i G I;simp at h;subst h;exact⟨Zhc v D,Wb l I⟩
  grind
def Ya5 (v:Value):TVR ρ w (ofValue v) v:=by
 unfold ofValue;split
 ·rename_i cs;split
  ·rename_i l D;exact⟨cs,rfl,Wb _ D⟩
  trivial
 ·trivial
 rename_i G I;exact⟨_,rfl,Zhc v (by cases v<;>first|rfl|grind)⟩
theorem TVR.cells {t:TV} {x:Value} {cs:List AC} (h:TVR ρ w t x) (D:t.cells=some cs):CL (CC ρ w) cs x.cells.toList:=by
 cases t with
 |vD=>grind [TV.cells]
 |tup ps=>grind [TV.cells]
 |v g l=>
  simp[TV.cells]at D;subst D;cases g
  ·obtain⟨a,rfl,G⟩:=h;rw[Z4m G.one];exact⟨G,trivial⟩
  obtain⟨L,rfl,I⟩:=h;exact I
theorem TVR.c {a:AC} {x:Value} (h:TVR ρ w (.c a) x):CC ρ w a x:=by
 obtain⟨b,hb,D⟩:=h
 grind
theorem TVR.c' {a:AC} {x:Value} (h:CC ρ w a x):TVR ρ w (.c a) x:=⟨a,rfl,h⟩
theorem TVR.int {k:IntKind} {n:Int} {x:Value} (h:TVR ρ w (.c (.int k n)) x):x= .int k n:=by grind [h.c,CC,CP]
def TVR.bool {b:Bool} {x:Value} (h:TVR ρ w (.c (.bool b)) x):x= .bool b:=by grind [h.c,CC,CP]
def TVR.mkInt (k:IntKind) (n:Int):TVR ρ w (.c (.int k n)) (.int k n):=TVR.c' (by rfl)
theorem TVR.mkBool (b:Bool):TVR ρ w (.c (.bool b)) (.bool b):=TVR.c' (by rfl)
def TVR.agg {cs:List AC} {x:Value} (h:TVR ρ w (.agg cs) x):∃D:Array Value,x= .agg D/\CL (CC ρ w) cs D.toList:=h
def RowC (im:Nat->Prop) (w:World) (ks:List Kd) (l:List (List AC)) (xs:List Value):Prop:=
 xs.length=l.length*ks.length/\(∀c∈l,AX ks c=c)/\∀i c,l[i]? =some c->CL (CP im w) c (cut xs (i*ks.length) ks.length)
theorem QX {k k':IntKind} (h:kEq k k'=true):k=k':=by cases k<;>cases k'<;>first|rfl|(simp[kEq]at h)
mutual
theorem Z2y:∀{k k':Kd},E5 k k'=true->k=k'
 | .int k, .int k',h=>by grind [E5,QX]
 | .bool, .bool,_=>rfl
 | .sl ks, .sl D,h=>by rw[E5]at h;rw[Jq h]
 | .raw, .raw,_=>rfl
 | .int _, .bool,h=>by grind [E5]
 | .int _, .sl _,h=>by grind [E5]
 | .int _, .raw,h=>by grind [E5]
 | .bool, .int _,h=>by grind [E5]
 | .bool, .sl _,h=>by grind [E5]
 | .bool, .raw,h=>by grind [E5]
 | .sl _, .int _,h=>by grind [E5]
 | .sl _, .bool,h=>by grind [E5]
 | .sl _, .raw,h=>by grind [E5]
 | .raw, .int _,h=>by grind [E5]
 | .raw, .bool,h=>by grind [E5]
 | .raw, .sl _,h=>by grind [E5]
theorem Jq:∀{ks D:List Kd},Dj ks D=true->ks=D
 |[],[],_=>rfl
 |k::ks,k'::D,h=>by
  rw[Dj]at h;cases G:E5 k k'
  ·grind
  rw[G]at h;rw[Z2y G,Jq h]
 |[],_::_,h=>by grind [Dj]
 |_::_,[],h=>by grind [Dj]
end
def Q7v {im:Nat->Prop} (ks:List Kd):CP im w (.vC ks []) (.slice none 0 0):=by simp[CP]
def Zz2 {k:Kd} {a I:AC} {x:Value} (h:Rp k a=some I) (D:CC ρ w a x):CP ρ.im w I x/\NR k I=I:=by
 cases k<;>cases a<;>simp only[Rp]at h<;>try (simp at h;done)
 case int.int k k' n=>
  cases G:kEq k k'<;>rw[G]at h
  ·grind
  simp at h;subst h;rw[<-QX G]at D;exact⟨D,rfl⟩
 case bool.bool b=>simp at h;subst h;exact⟨D,rfl⟩
 case sl.nilSl ks=>
  simp at h;subst h;simp only[CC]at D;subst D;exact⟨Q7v ks,rfl⟩
 case sl.vC ks L l=>
  cases G:Dj ks L<;>rw[G]at h
  ·grind
  simp at h;subst h;rw[<-Jq G]at D;exact⟨D,rfl⟩
 case raw.raw v=>simp at h;subst h;exact⟨D,rfl⟩
theorem Yat {α:Type} (d:α) (x:α) (l:List α) (n:Nat):nth d (x::l) (n+1)=nth d l n:=rfl
theorem Q9n (a:AC):∀(ks:List Kd) (cs:List AC) (j:Nat),EZ ks (a::cs) (j+1)=EZ ks cs j
 |[],_,_=>rfl
 |k::ks,cs,j=>by rw[EZ,EZ,Yat,Q9n a ks cs (j+1)]
theorem Ye2 (k:Kd) (ks:List Kd) (a:AC) (cs:List AC):AX (k::ks) (a::cs)=NR k a::AX ks cs:=by
 show NR k a::EZ ks (a::cs) 1=_;rw[Q9n];rfl
def T5:∀{ks:List Kd} {cs D:List AC} {xs:List Value},G2 ks cs=some D->CL (CC ρ w) cs xs->CL (CP ρ.im w) D xs/\AX ks D=D
 |[],[],D,xs,h,G=>by
  simp[G2]at h;subst h;cases xs with
  |nil=>exact⟨trivial,rfl⟩
  |cons=>exact G.elim
 |k::ks,a::cs,D,xs,h,G=>by
  simp only[G2]at h;split at h
  ·rename_i O I;split at h
   ·rename_i l L;simp at h;subst h;cases xs with
    |nil=>exact G.elim
    |cons x xs=>
     obtain⟨M,U⟩:=Zz2 I G.1;obtain⟨N,V⟩:=T5 L G.2;exact⟨⟨M,N⟩,by grind [Ye2]⟩
   grind
  grind
 |[],_::_,_,_,h,_=>by grind [G2]
 |_::_,[],_,_,h,_=>by grind [G2]
def J7 (P:Program) (ρ:Env) (w:World) (e:Operand->Value) (o:Oper):Prim->Prop
 | .val v=>∃x,(execOp e o).run P w= .ok (.value x) w/\TVR ρ w v x
 | .load g sz key off=>∃t,C8 P t=some g/\szT P t=some sz/\
   (execOp e o).run P w=((loadVar t ⟨ρ.bx key,off,none⟩).run P w).andThen λv w'=> .ok (.value v) w'
 | .rload g sz id idx sub=>∃t b,C8 P t=some g/\szT P t=some sz/\(ρ.rv id).ownBlock=some b/\
   (execOp e o).run P w=((loadVar t ⟨b,H6 (ρ.rv id)+(idx*ρ.wd id+sub),none⟩).run P w).andThen λv w'=> .ok (.value v) w'
 | .store key off cs=>∃t x,szT P t=some cs.length/\CL (CC ρ w) cs x.cells.toList/\
   (execOp e o).run P w=((storeVar t ⟨ρ.bx key,off,none⟩ x).run P w).andThen λ_ w'=> .ok .skip w'
 | .rstore id idx sub cs=>∃t x b,szT P t=some cs.length/\CL (CC ρ w) cs x.cells.toList/\(ρ.rv id).ownBlock=some b/\
   (execOp e o).run P w=((storeVar t ⟨b,H6 (ρ.rv id)+(idx*ρ.wd id+sub),none⟩ x).run P w).andThen λ_ w'=> .ok .skip w'
 | .new ty cs=>∃arr:Array Value,CL (CC ρ w) cs arr.toList/\(execOp e o).run P w= .ok (.value (.pointer (some ⟨w.heap.size,0,none⟩))) (w.alloc (.cells arr ty))
 | .cutR id a=>∀L n cap,ρ.rv id= .slice L n cap->n<=cap->a<=n->(execOp e o).run P w= .ok (.value (.slice (if cap=a then L else L.map (·.add (a*ρ.wd id))) (n-a) (cap-a))) w
 | .newS ty n cs=>∃arr:Array Value,CL (CC ρ w) cs arr.toList/\(execOp e o).run P w= .ok (.value (.slice (some ⟨w.heap.size,0,none⟩) n n)) (w.alloc (.cells arr ty))
 | .newRow D ks l=>∃arr:Array Value,0<ks.length/\l.length<=maxLen/\RowC ρ.im w ks l arr.toList/\
   (execOp e o).run P w= .ok (.value (.slice (some ⟨w.heap.size,0,none⟩) l.length l.length)) (w.alloc (.cells arr D))
 | .newView D ks l=>∃arr:Array Value,0<ks.length/\l.length<=maxLen/\RowC ρ.im w ks l arr.toList/\
   (execOp e o).run P w= .ok (.value (.slice (some ⟨w.heap.size,0,none⟩) l.length l.length)) (w.alloc (.cells arr D))
 | .make D ks bytes n z=>∃t i M N O,P.underlying t=some (.slice D)/\P.info? D=some i/\i.zero=some M/\i.size=ks.length/\i.bytes=bytes/\0<ks.length/\0<bytes/\AX ks z=z/\CL (CP ρ.im w) z M.cells.toList/\
   (execOp e o).run P w=((Instr.makeSlice t (.int N n) (.int O n)).run P w).andThen λv w'=> .ok (.value v) w'
 | .append D ks bytes s x=>∃t ty i z G I,P.underlying t=some (.slice D)/\P.info? D=some i/\i.zero=some z/\i.size=ks.length/\i.bytes=bytes/\z.cells.size=ks.length/\CC ρ w s G/\CC ρ w x I/\
   (execOp e o).run P w=((Builtin.append_ #[t,t] ty #[G,I]).run P w).andThen λv w'=> .ok (.value v) w'
 | .appD D ks bytes s x=>∃t ty i z G I,P.underlying t=some (.slice D)/\P.info? D=some i/\i.zero=some z/\i.size=ks.length/\i.bytes=bytes/\z.cells.size=ks.length/\CC ρ w s G/\CC ρ w x I/\
   (execOp e o).run P w=((Builtin.append_ #[t,t] ty #[G,I]).run P w).andThen λv w'=> .ok (.value v) w'
 | .callM f args=>∃xs:List Value,xs.length=args.length/\(∀(i:Nat) (a:TV) (x:Value),args[i]? =some a->xs[i]? =some x->TVR ρ w a x)/\execOp e o=callFunc f xs.toArray
 | .callF f args=>∃xs:List Value,xs.length=args.length/\(∀(i:Nat) (a:TV) (x:Value),args[i]? =some a->xs[i]? =some x->TVR ρ w a x)/\execOp e o=callFunc f xs.toArray
 | .callD f args=>∃xs:List Value,xs.length=args.length/\(∀(i:Nat) (a:TV) (x:Value),args[i]? =some a->xs[i]? =some x->TVR ρ w a x)/\execOp e o=callFunc f xs.toArray
 | .call f args=>∃xs:List Value,xs.length=args.length/\(∀(i:Nat) (a:TV) (x:Value),args[i]? =some a->xs[i]? =some x->TVR ρ w a x)/\execOp e o=callFunc f xs.toArray
def Z4e {t:TypeId} {n:Nat} (h:szT P t=some n):∃i,P.info? t=some i/\i.size=n:=by grind [szT]
theorem D_ {t:TypeId} {n:Nat} (h:szT P t=some n) (w:World):(sizeOf t).run P w= .ok n w:=by
 obtain⟨i,D,rfl⟩:=Z4e h;simp[sizeOf,typeInfo,D]
theorem P9 {t:TypeId} {g:Bool} (h:C8 P t=some g) (w:World):(isAgg t).run P w= .ok g w:=by
 unfold C8 at h;split at h
 ·simp_all [isAgg,run_underlying]
 ·simp_all [isAgg,run_underlying]
 ·simp_all [isAgg,run_underlying]
 grind
def Wm {t:TypeId} {cs:List AC} (h:J4 P t=some cs):∃v,(∀w,(zeroValue t).run P w= .ok v w)/\CL (CC ρ w) cs v.cells.toList:=by
 unfold J4 at h;split at h
 ·rename_i i D;split at h
  ·simp_all [zeroValue,typeInfo,Wb]
  grind
 grind
def G0 {im:Nat->Prop} {w:World} (k:IntKind) (n:Int):CP im w (.int k n) (.int k n):=by rfl
def Zps {im:Nat->Prop} {w:World} (b:Bool):CP im w (.bool b) (.bool b):=by rfl
def Z0h (op:BinOp) (t:TypeId) (k:IntKind) (a b:Int) (K:AC->Option R) {r:R} (h:H0 op k a b K=some r):
  ∃c x,K c=some r/\CP ρ.im w c x/\(binOp op t (.int k a) (.int k b)).run P w= .ok x w:=by
 cases op<;>simp only[H0]at h
 case quo=>
  cases hb:decide (b=0)
  ·rw[hb]at h;simp at h;have D: ¬b=0:=by simpa using hb
   exact⟨_,_,h,G0 _ _,by simp[binOp_quo,Op.intDiv,D]⟩
  grind
 case rem=>
  cases hb:decide (b=0)
  ·rw[hb]at h;simp at h;have D: ¬b=0:=by simpa using hb
   exact⟨_,_,h,G0 _ _,by simp[binOp_rem,Op.intDiv,D]⟩
  grind
 case shl=>
  cases hb:decide (b<0)
  ·rw[hb]at h;simp at h;have D: ¬b<0:=by simpa using hb
   exact⟨_,_,h,G0 _ _,by simp[binOp_shl,Op.shift,D]⟩
  grind
 case shr=>
  cases hb:decide (b<0)
  ·rw[hb]at h;simp at h;have D: ¬b<0:=by simpa using hb
   exact⟨_,_,h,G0 _ _,by simp[binOp_shr,Op.shift,D]⟩
  grind
 case and=>exact⟨_,_,h,G0 _ _,by rw[binOp_and];rfl⟩
 case or=>exact⟨_,_,h,G0 _ _,by rw[binOp_or];rfl⟩
 case xor=>exact⟨_,_,h,G0 _ _,by rw[binOp_xor];rfl⟩
 case andNot=>exact⟨_,_,h,G0 _ _,by rw[binOp_andNot];rfl⟩
 all_goals first|exact⟨_,_,h,G0 _ _,by simp[go_sem]⟩|exact⟨_,_,h,Zps _,by simp[go_sem]⟩
def Zok {op:BinOp} (G:OO op=true) (t:TypeId) (k k':IntKind) (a b:Int) (K:AC->Option R) {r:R} (h:H0 op k a b K=some r):
  ∃c x,K c=some r/\CP ρ.im w c x/\(binOp op t (.int k a) (.int k' b)).run P w= .ok x w/\op≠ .eql/\op≠ .neq:=by
 cases op<;>simp[OO]at G<;>simp only[H0]at h
 case shl=>
  cases hb:decide (b<0)
  ·rw[hb]at h;simp at h;have D: ¬b<0:=by simpa using hb
   exact⟨_,_,h,G0 _ _,by simp[binOp_shl,Op.shift,D],by simp,by simp⟩
  grind
 case shr=>
  cases hb:decide (b<0)
  ·rw[hb]at h;simp at h;have D: ¬b<0:=by simpa using hb
   exact⟨_,_,h,G0 _ _,by simp[binOp_shr,Op.shift,D],by simp,by simp⟩
  grind
def Il {i:Int}:∀{n k:Nat} {K:Nat->Option R} {r:R},G6 i n k K=some r->∃j,K j=some r/\i=(j:Int)/\k<=j/\j<k+n
 |0,_,_,_,h=>by grind [G6]
 |n+1,k,K,r,h=>by
  rw[G6]at h;cases hd:decide (i=(k:Int))
  ·rw[hd]at h;simp at h;obtain⟨j,D,G,I,L⟩:=Il h
   grind
  grind
def Qok {g:Bool} {sz:Nat} {cells:List AC} {off:Nat} {v:TV} {xs:List Value} (h:DO g sz cells off=some v) (D:CL (CC ρ w) cells xs):
  match g with
  |true=>off+sz<=xs.length/\TVR ρ w v (.agg (cut xs off sz).toArray)
  |false=>∃x,xs[off]? =some x/\TVR ρ w v x:=by
 cases g
 ·simp only[DO]at h;split at h
  ·rename_i a G;obtain⟨x,I,L⟩:=D.get G
   grind [TVR.c']
  grind
 simp only[DO]at h;cases hb:Nat.ble (off+sz) cells.length
 ·grind
 rw[hb]at h;simp at h;subst h;exact⟨by simp_all [D.length],⟨_,rfl,by simpa using D.cut off sz⟩⟩
def Q2n {t:TypeId} {cs:List AC} {off:Nat} {v:TV} {D:Array Value} (h:O6 P t cs off=some v) (L:CL (CC ρ w) cs D.toList):
  ∃x,(part t D off).run P w= .ok x w/\TVR ρ w v x:=by
 unfold O6 at h;split at h
 ·rename_i g sz M N;have G:=Qok h L;cases g
  ·obtain⟨x,O,I⟩:=G;simp_all [part,P9]
  obtain⟨hle,I⟩:=G;refine⟨_,?_,I⟩;simp only[part,Sem.run_bind,P9 M,dv,ig,D_ N,Sem.run_pure];congr 2
  grind [cut]
 grind
end
open Go.RowKit
section
variable {P:Program} {ρ:Env} {w:World}
def FG (P:Program) (ρ:Env) (w:World) (t:TypeId) (cs:List AC) (x:Value):Prop:=
 match C8 P t with
 |some true=>∃D:Array Value,x= .agg D/\CL (CC ρ w) cs D.toList
 |some false=>∃a,cs=[a]/\CC ρ w a x
 |none=>False
def Ur {t:TypeId} {n:Nat} {cs:List AC} {off:Nat} {G:Array Value} (hn:szT P t=some n) (V:C8 P t≠none) (M:CL (CC ρ w) cs G.toList) (hle:off+n<=cs.length)
  (N:C8 P t=some false->n=1):∃x,(part t G off).run P w= .ok x w/\FG P ρ w t (cut cs off n) x:=by
 cases D:C8 P t with
 |none=>grind
 |some g=>
  cases g
  ·have I:=N D;subst I;have L:off<cs.length:=by omega
   obtain⟨x,O,X⟩:=M.get (an L);have U:G[off]? =some x:=by simpa using O
   refine⟨x,by simp_all [part,P9],?_⟩
   grind [FG,cut,List.drop_eq_getElem_cons]
  refine⟨.agg (G.extract off (off+n)),by simp[part,P9 D,D_ hn],?_⟩;unfold FG;rw[D];refine⟨_,rfl,?_⟩;have:=M.cut off n;simp_all [cut]
def Q4d {ok:List TypeId} {d D:Nat} {xs ys:List AC} {X Y:Array Value}
  (ih:∀(t:TypeId) (as bs:List AC) (r:Bool) (A B:Value),eqC P ok d t as bs=some r->FG P ρ w t as A->FG P ρ w t bs B->(Op.equalIn D t A B).run P w= .ok r w)
  (hX:CL (CC ρ w) xs X.toList) (hY:CL (CC ρ w) ys Y.toList):∀(fs:List Field) (r:Bool),
  JE (λf : Field => bif f.name == "_" then none else match szT P f.type with
    |some n=>bif(Nat.ble (f.offset+n) xs.length&&Nat.ble (f.offset+n) ys.length&&I3 P f.type n)then eqC P ok d f.type (cut xs f.offset n) (cut ys f.offset n)else none
    |none=>none) fs=some r->
  (Op.eqFields D X Y fs).run P w= .ok r w
 |[],r,h=>by simp_all [JE,Op.eqFields]
 |f::fs,r,h=>by
  simp only[JE]at h;split at h
  ·rename_i b hb;split at h
   ·rename_i b' hb';simp at h;subst h;have ht:=Q4d ih hX hY fs b' hb';cases hnm:f.name== "_"
    ·rw[hnm]at hb;simp only[bn]at hb;split at hb
     ·rename_i n hn;cases hle:(Nat.ble (f.offset+n) xs.length&&Nat.ble (f.offset+n) ys.length&&I3 P f.type n)
      ·grind
      rw[hle]at hb;simp only[am]at hb;simp only[ak]at hle;obtain⟨⟨h1,h2⟩,h3⟩:=hle;have h1':=bc h1;have h2':=bc h2;have hg:C8 P f.type≠none:=by intro e;simp[I3,e]at h3
      have ho:C8 P f.type=some false->n=1:=by intro e;simp[I3,e]at h3;exact h3
      obtain⟨A,hA,vA⟩:=Ur hn hg hX h1' ho;obtain⟨B,hB,vB⟩:=Ur hn hg hY h2' ho;have he:=ih f.type _ _ b A B hb vA vB;have hne:f.name≠ "_" :=by simpa using hnm
      simp only[Op.eqFields,hne,ne_eq,not_false_eq_true,ig,Sem.run_bind,hA,dv,hB,he];cases b
      ·simp
      grind
     grind
    grind
   grind
  grind
def Qx1 {ok:List TypeId} {d D e m:Nat} {xs I:List AC} {X Y:Array Value}
  (O:∀(t:TypeId) (as bs:List AC) (r:Bool) (A B:Value),eqC P ok d t as bs=some r->FG P ρ w t as A->FG P ρ w t bs B->(Op.equalIn D t A B).run P w= .ok r w)
  (U:CL (CC ρ w) xs X.toList) (V:CL (CC ρ w) I Y.toList) (L:szT P e=some m) (G:I3 P e m=true):∀(l:List Nat) (r:Bool),
  (∀i∈l,i*m+m<=xs.length/\i*m+m<=I.length)->
  JE (λi=>eqC P ok d e (cut xs (i*m) m) (cut I (i*m) m)) l=some r->
  ((forIn l ((none : Option Bool), PUnit.unit) λi _ => do
    let a<-part e X (i*m)
    let b<-part e Y (i*m)
    let q<-Op.equalIn D e a b
    if(!q)=true then pure (ForInStep.done (some false,PUnit.unit))else pure (ForInStep.yield (none,PUnit.unit)):Sem (Option Bool×PUnit))>>=λs=>match s.1 with
     |none=>pure true
     |some a=>pure a).run P w= .ok r w
 |[],r,_,h=>by simp_all [JE]
 |i::l,r,M,h=>by
  simp only[JE]at h;split at h
  ·rename_i b hb;split at h
   ·rename_i b' N;simp at h;subst h;have ht:=Qx1 O U V L G l b' (λj hj=>M j (by grind)) N;have hg:C8 P e≠none:=by intro q;simp[I3,q]at G
    have ho:C8 P e=some false->m=1:=by intro q;simp[I3,q]at G;exact G
    obtain⟨A,hA,vA⟩:=Ur L hg U (M i (by simp)).1 ho;obtain⟨B,hB,vB⟩:=Ur L hg V (M i (by simp)).2 ho;have he:=O e _ _ b A B hb vA vB;rw[List.forIn_cons];simp only[Sem.run_bind,hA,dv,hB,he];cases b
    ·simp
    simp_all
   grind
  grind
def Q1r {ok:List TypeId} (G:∀t∈ok,P.stoodInHeld t=false):∀(d D:Nat),d<=D->∀(t:TypeId) (as bs:List AC) (r:Bool) (A B:Value),
  eqC P ok d t as bs=some r->FG P ρ w t as A->FG P ρ w t bs B->(Op.equalIn D t A B).run P w= .ok r w
 |0,_,_,t,as,bs,r,A,B,h,_,_=>by grind [eqC]
 |d+1,0,hd,_,_,_,_,_,_,_,_,_=>by omega
 |d+1,D+1,hd,t,as,bs,r,A,B,h,L,vB=>by
  have ih:=Q1r G d D (by omega);simp only[eqC]at h;split at h
  ·grind [C8,FG,CC,CP,run_equalIn_bool']
  ·grind [C8,FG,QX,CC,CP,run_equalIn_int]
  ·rename_i fs I;have M:C8 P t=some true:=by simp[C8,I]
   simp only[FG,M]at L vB;obtain⟨X,rfl,N⟩:=L;obtain⟨Y,rfl,O⟩:=vB;cases U:ok.elem t
   ·grind
   rw[U]at h;simp only[am]at h;have V:P.fieldsOf t=fs:=by simp[Program.fieldsOf,I]
   rw[run_equalIn_struct w D t X Y (by grind) (G t (by grind)),V];exact Q4d ih N O fs.toList r h
  ·rename_i n e I;have M:C8 P t=some true:=by simp[C8,I]
   simp only[FG,M]at L vB;obtain⟨X,rfl,N⟩:=L;obtain⟨Y,rfl,O⟩:=vB;split at h
   ·rename_i m hm;cases hle:(Nat.ble (n*m) as.length&&Nat.ble (n*m) bs.length&&I3 P e m)
    ·grind
    rw[hle]at h;simp only[am]at h;simp only[ak]at hle;obtain⟨⟨h1,h2⟩,h3⟩:=hle;have a1:=bc h1;have a2:=bc h2;have hr := Qx1 (P := P) (ρ := ρ) (w := w) (D := D) (X := X) (Y := Y) ih N O hm h3 (List.range n) r (λi hi => by
     have a0:i<n:=by simpa using hi
     have:i*m+m<=n*m:=by
      calc i*m+m=(i+1)*m:=by grind
       _<=n*m:=db _ a0
     omega) h
    simp only[Op.equalIn,Sem.run_bind,run_underlying I,dv,D_ hm]
    grind [Std.Legacy.Range.forIn_eq_forIn_range',Std.Legacy.Range.size,List.range_eq_range',Sem.run_bind]
   grind
  grind
end
open Go.RowKit
section
variable {P:Program} {C:Cfg} {ρ:Env} {w:World} {R:Type}
theorem S9 {G:Operand->TV} {e:Operand->Value} (D:∀x,TVR ρ w (G x) (e x)):∀(l:List Operand),(B_ G l).length=(l.map e).length/\
  ∀(i:Nat) (a:TV) (x:Value),(B_ G l)[i]? =some a->(l.map e)[i]? =some x->TVR ρ w a x
 |[]=>by simp[B_]
 |o::l=>⟨by simp[B_,(S9 D l).1],λi a x h h'=>by
   cases i with
   |zero=>grind [B_]
   |succ i=>simp[B_]at h h';exact(S9 D l).2 i a x (by omega) (by grind)⟩
theorem Qg8 {α:Type} (l:List α) (o:Nat):splice l o []=l:=by grind [splice]
theorem Ne {α:Type}:∀(l:List α) (o:Nat) (D:List α),(splice l o D).length=l.length
 |[],_,[]=>by rfl
 |[],_,_::_=>by rfl
 |_::_,_,[]=>by rfl
 |_::l,0,v::D=>by simp[splice,Ne l 0 D]
 |_::l,o+1,v::D=>by simp[splice,Ne l o (v::D)]
theorem Qtg {α:Type} (v:α) (D:List α):∀(l:List α) (o:Nat),o<l.length->splice (l.set o v) (o+1) D=splice l o (v::D)
 |[],o,h=>by grind
 |y::l,0,_=>by
  cases D with
  |nil=>grind [splice]
  |cons u G=>rfl
 |y::l,o+1,h=>by
  have I:=Qtg v D l o (by grind);cases D with
  |nil=>grind [splice]
  |cons u G=>grind [splice]
theorem Zcv (off:Nat):∀(D:List Value) (k:Nat) (xs:Array Value),off+k+D.length<=xs.size->
  ((D.zipIdx k).foldl (λcs (c,j)=>cs.setIfInBounds (off+j) c) xs).toList=splice xs.toList (off+k) D
 |[],k,xs,_=>by simp[Qg8]
 |v::D,k,xs,h=>by
  simp;rw[Zcv off D (k+1) _ (by grind),Array.toList_setIfInBounds,<-Qtg v D xs.toList (off+k) (by grind),jd]
def VN {place:Nat->Option (Nat×Nat)} {U:Operand->TV} {e:Operand->Value} (D:∀x,TVR ρ w (U x) (e x)):∀(parts:List (Nat×Operand)) (z cs:List AC) (xs:Array Value),
  CL (CC ρ w) z xs.toList->GI place z (FY U parts)=some cs->
  ∃G:Array Value,Instr.fill place xs (parts.map λp=>(p.1,e p.2))=some G/\CL (CC ρ w) cs G.toList/\G.size=xs.size
 |[],z,cs,xs,L,h=>by simp[FY,GI]at h;subst h;exact⟨xs,rfl,L,rfl⟩
 |(i,o)::parts,z,cs,xs,L,h=>by
  simp only[FY,GI]at h;split at h
  ·rename_i off size l hp V;have I:=(D o).cells V;cases hb:(Nat.beq l.length size&&Nat.ble (off+size) z.length)
   ·grind
   rw[hb]at h;simp only[ak]at hb;have e1:=ah hb.1;have e2:=bc hb.2;have e3:=I.length;have X:=L.length;have M:(e o).cells.size=size:=by rw[<-e1,e3];simp
   have e5:off+(e o).cells.size<=xs.size:=by rw[M,<-fu,<-X];exact e2
   have N:=Zcv off (e o).cells.toList 0 xs (by omega);have O:((e o).cells.zipIdx.foldl (λcs (c,j)=>cs.setIfInBounds (off+j) c) xs).toList=splice xs.toList (off+0) (e o).cells.toList:=by
    rw[<-Array.foldl_toList,Array.toList_zipIdx];exact N
   obtain⟨G,h1,Y,h3⟩:=VN D parts _ _ _ (by rw[O];exact L.splice _ I) h;refine⟨G,?_,Y,?_⟩
   ·simp_all [Instr.fill]
   grind [Ne]
  grind
theorem Yao {α β:Type} (g:α->β) (l:List α) (o m:Nat):cut (l.map g) o m=(cut l o m).map g:=by simp[cut]
theorem Q14 {ks:List Kd}:∀(n:Nat) (cs:List AC) (l:List (List AC)) (xs:List Value),H4 ks n cs=some l->CL (CC ρ w) cs xs->l.length=n/\xs.length=n*ks.length->RowC ρ.im w ks l xs
 |0,cs,l,xs,h,G,N=>by
  cases cs with
  |nil=>
   simp[H4]at h;subst h;exact⟨by grind,by simp,λi c O=>by grind⟩
  |cons=>grind [H4]
 |n+1,cs,l,xs,h,G,N=>by
  simp only[H4]at h;split at h
  ·rename_i c I;split at h
   ·rename_i U L;simp at h;subst h;have V:=T5 I (G.take ks.length);have M:=Q14 n _ U (xs.drop ks.length) L (G.drop ks.length) ⟨by grind,by grind⟩;refine⟨by grind,?_,?_⟩
    ·intro c' D;simp at D;rcases D with rfl|D
     ·grind
     exact M.2.1 c' D
    intro i c' O;cases i with
    |zero=>grind [cut]
    |succ i=>
     have:=M.2.2 i c' (by grind);simp_all [cut,jh,Nat.add_comm]
   grind
  grind
theorem Q1f {ks:List Kd}:∀(n:Nat) (cs:List AC) (l:List (List AC)),H4 ks n cs=some l->l.length=n
 |0,[],l,h=>by grind [H4]
 |0,_::_,l,h=>by grind [H4]
 |n+1,cs,l,h=>by
  simp only[H4]at h;split at h
  ·split at h
   ·rename_i G D;simp at h;subst h;simp[Q1f n _ G D]
   grind
  grind
def Q5i {z:List AC} {v:List Value} (D:CL (CC ρ w) z v):∀n,CL (CC ρ w) (chunk z n) ((List.replicate n v).flatten)
 |0=>trivial
 |n+1=>by rw[chunk,List.replicate_succ,List.flatten_cons];exact D.append (Q5i D n)
theorem Zbb (v:List Value) (G:0<v.length):∀(n j:Nat),j<n*v.length->(List.replicate n v).flatten[j]? =v[j%v.length]?
 |0,j,h=>by omega
 |n+1,j,h=>by
  rw[List.replicate_succ,List.flatten_cons,f6];split
  ·grind [Nat.mod_eq_of_lt]
  rename_i I;have D:v.length<=j:=by omega
  rw[Zbb v G n (j-v.length) (by grind),Nat.mod_eq_sub_mod D]
def ZL (e:Operand->Value):Option Operand->Option Int->Prop
 |none,none=>True
 |some x,some n=>∃k,e x= .int k n
 |_,_=>False
def Zj8 {D:Operand->TV} {e:Operand->Value} (G:∀x,TVR ρ w (D x) (e x)) {o:Option Operand} {i:Option Int} (h:Ln D o=some i):
  ZL e o i:=by
 cases o with
 |none=>simp[Ln]at h;subst h;trivial
 |some x=>
  simp only[Ln]at h;split at h
  ·rename_i n hn;simp at h;subst h;have I:=G x
   revert hn I
   generalize D x=t;intro hn I;unfold TV.int? at hn;split at hn
   ·rename_i k m;simp at hn;subst hn;exact⟨k,I.int⟩
   grind
  grind
def R7 {t:TV} {x:Value} {n:Int} (h:t.int? =some n) (D:TVR ρ w t x):∃k,x= .int k n:=by
 unfold TV.int? at h;split at h
 ·grind [D.int]
 grind
def TR {e:Operand->Value} {o:Oper} {c:Call} {f:FuncId} (D:o.op= .call c) (G:c.callee= .value (.func f)) (hf:e (.func f)= .func (.func f) #[] #[]):
  execOp e o=callFunc f (c.args.toList.map e).toArray:=by
 unfold execOp;simp only[D,resolve,G,hf,Deferred.ofValue,pure_bind];simp only[invoke,Array.append_empty,Array.empty_append];rw[<-jp]
def Z4l {e:Operand->Value} {o:Oper} {c:Call} {f:FuncId} {t:Tmp} {xs D:Array Value} (G:o.op= .call c) (I:c.callee= .value (.tmp t)) (hf:e (.tmp t)= .func (.func f) xs D):
  execOp e o=callFunc f (xs.toList++(c.args.toList.map e++D.toList)).toArray:=by
 unfold execOp;simp only[G,resolve,I,hf,Deferred.ofValue,pure_bind];simp only[invoke];congr 1;simp
def Z22 {e:Operand->Value} {o:Oper} {c:Call} {b:Builtin} (D:o.op= .call c) (G:c.callee= .builtin b):
  ∃cs,execOp e o=builtin b c.argTypes o.type cs (c.args.map e):=by
 unfold execOp;simp only[D,resolve,G];exact⟨_,rfl⟩
def Qb3 (D:Value->Value->Sem Value) (g:Int->Int->Int) (G:∀k a k' b w,(D (.int k a) (.int k' b)).run P w= .ok (.int k (g a b)) w) (k:IntKind):
  ∀(l:List TV) (xs:List Value) (a:Int) (Kp:Prim->Option R) (r:R),l.length=xs.length->(∀(i:Nat) (t:TV) (x:Value),l[i]? =some t->xs[i]? =some x->TVR ρ w t x)->FF g k a l Kp=some r->
  ∃n,Kp (.val (.c (.int k n)))=some r/\(xs.foldlM D (.int k a)).run P w= .ok (.int k n) w
 |[],[],a,Kp,r,_,_,h=>by simp_all [FF]
 |[],_::_,_,_,_,I,_,_=>by grind
 |_::_,[],_,_,_,I,_,_=>by grind
 |t::l,x::xs,a,Kp,r,I,L,h=>by
  unfold FF at h;split at h
  ·rename_i k' b;cases M:kEq k k'
   ·grind
   rw[M]at h;simp at h;have U:=(L 0 _ x rfl rfl).int;obtain⟨n,N,O⟩:=Qb3 D g G k l xs (g a b) _ r (by grind) (λi t x N O=>L (i+1) t x (by grind) (by grind)) h;simp_all
  grind
def Zuv {b:Builtin} {N:List TypeId} {args:List TV} {xs:List Value} {ty:TypeId} {cs:Array Bool} {Kp:Prim->Option R} {r:R}
  (M:args.length=xs.length) (L:∀(i:Nat) (t:TV) (x:Value),args[i]? =some t->xs[i]? =some x->TVR ρ w t x)
  (h:Ko P b N args Kp=some r) {e:Operand->Value} {o:Oper} (he:execOp e o=builtin b N.toArray ty cs xs.toArray):
  ∃p,Kp p=some r/\J7 P ρ w e o p:=by
 unfold Ko at h;split at h
 ·rename_i ks l
  match xs,M with
  |[x],_=>
   have D:=(L 0 _ x rfl rfl).c;simp only[CC,CP]at D;obtain⟨ad,cap,rfl,_⟩:=D;split at h
   ·rename_i t G;split at h
    ·rename_i U I;refine⟨_,h, .int .i64 l.length,?_,TVR.mkInt _ _⟩;rw[he];simp[builtin,Builtin.len_,run_underlying I,goInt]
    grind
   grind
 ·rename_i id wd n
  match xs,M with
  |[x],_=>
   have D:=(L 0 _ x rfl rfl).c;obtain⟨_,_,D⟩:=D;split at h
   ·rename_i t G;split at h
    ·rename_i U I;refine⟨_,h, .int .i64 n,?_,TVR.mkInt _ _⟩;rw[he];rcases D with⟨rfl,rfl⟩|⟨g,o',c,rfl⟩
     ·simp[builtin,Builtin.len_,run_underlying I,goInt]
     simp[builtin,Builtin.len_,run_underlying I,goInt]
    grind
   grind
 ·rename_i key n
  match xs,M with
  |[x],_=>
   have D:=(L 0 _ x rfl rfl).c;simp only[CC]at D;subst D;split at h
   ·rename_i t G;split at h
    ·rename_i U I;refine⟨_,h, .int .i64 n,?_,TVR.mkInt _ _⟩;rw[he];simp[builtin,Builtin.len_,run_underlying I,goInt]
    grind
   grind
 ·match xs,M with
  |[x],_=>
   have D:=(L 0 _ x rfl rfl).c;simp only[CC,CP]at D;subst D;split at h
   ·rename_i t G;split at h
    ·rename_i U I;refine⟨_,h, .int .i64 0,?_,TVR.mkInt _ _⟩;rw[he];simp[builtin,Builtin.len_,run_underlying I,goInt]
    grind
   grind
 ·rename_i l
  match xs,M with
  |[x],_=>
   obtain⟨ys,rfl,_⟩:=(L 0 _ x rfl rfl).agg;split at h
   ·rename_i t G;split at h
    ·rename_i n U I;refine⟨_,h, .int .i64 n,?_,TVR.mkInt _ _⟩;rw[he];simp[builtin,Builtin.len_,run_underlying I,goInt]
    grind
   grind
 ·rename_i k a rest
  match xs,M with
  |x::xs,M=>
   have D:x= .int k a:=(L 0 _ x rfl rfl).int;subst D;obtain⟨n,O,V⟩:=Qb3 (P:=P) (ρ:=ρ) (w:=w) Builtin.min2 mn (λk a k' b w=>by rfl) k rest xs a Kp r (by grind) (λi t x O V=>L (i+1) t x (by grind) (by grind)) h;refine⟨_,O, .int k n,?_,TVR.mkInt _ _⟩;simp_all [builtin,Builtin.min_]
 ·rename_i k a rest
  match xs,M with
  |x::xs,M=>
   have D:x= .int k a:=(L 0 _ x rfl rfl).int;subst D;obtain⟨n,O,V⟩:=Qb3 (P:=P) (ρ:=ρ) (w:=w) Builtin.max2 mx (λk a k' b w=>by rfl) k rest xs a Kp r (by grind) (λi t x O V=>L (i+1) t x (by grind) (by grind)) h;refine⟨_,O, .int k n,?_,TVR.mkInt _ _⟩;simp_all [builtin,Builtin.max_]
 ·rename_i s x'
  match xs,M with
  |[x,y],_=>
   have D:=(L 0 _ x rfl rfl).c;have X:=(L 1 _ y rfl rfl).c;split at h
   ·rename_i t u;split at h
    ·rename_i el Y I a0;split at h
     ·rename_i i ks hi a1;split at h
      ·rename_i z hz;cases hb:(Nat.beq t u&&Nat.beq z.cells.size i.size&&Nat.beq ks.length i.size)<;>rw[hb]at h
       ·grind
       simp only[am]at h;simp only[ak]at hb;have e1:=ah hb.1.1;have e2:=ah hb.1.2;have e3:=ah hb.2;subst e1;refine⟨_,h,t,ty,i,z,x,y,I,hi,hz,e3.symm,rfl,by omega,D,X,?_⟩;simp_all [builtin]
      grind
     grind
    grind
   grind
 grind
end
open Go.RowKit
section
variable {P:Program} {C:Cfg} {ρ:Env} {w:World} {R:Type}
theorem Qvb {α β:Type} (g:α->Sem β) (s:α->β):∀(l:List α) (w:World),(∀x∈l,(g x).run P w= .ok (s x) w)->(l.mapM g).run P w= .ok (l.map s) w
 |[],w,_=>by simp
 |x::l,w,h=>by
  rw[List.mapM_cons];simp only[Sem.run_bind,h x (by simp),dv,Qvb g s l w (λy D=>h y (by grind)),Sem.run_pure,bz]
def Zuo {fs:Array Field} (h:Al (Nh P) fs.toList=true) (w:World):
  (fs.mapM λf:Field=>(do let n<-sizeOf f.type;pure (f.offset,n):Sem (Nat×Nat))).run P w= .ok (fs.map λf=>(f.offset,(szT P f.type).getD 0)) w:=by
 rw[Array.mapM_eq_mapM_toList];have := Qvb (P := P) (λf : Field => (do let n <- sizeOf f.type; pure (f.offset, n) : Sem (Nat × Nat))) (λf => (f.offset, (szT P f.type).getD 0)) fs.toList w (λf hf => by
  have D:=Au.1 h f hf;unfold Nh at D;split at D
  ·simp_all [D_]
  grind)
 simp only[Sem.run_map,this,dv];congr 1
 grind
theorem Yde {fs:Array Field} (h:Al (Nh P) fs.toList=true):
  YK P fs.toList=λi:Nat=>(fs.map λf=>(f.offset,(szT P f.type).getD 0))[i]? :=by
 funext i
 rw[Array.getElem?_map,<-Array.getElem?_toList,YK];cases hf:fs.toList[i]? with
 |none=>rfl
 |some f=>
  have D:=Au.1 h f (df hf);unfold Nh at D
  grind
def S5 (w:World) (b o:Nat) (D:List Value):Prop:=∀(j:Nat) (y:Value),D[j]? =some y->w.cell? ⟨b,o+j,none⟩=some y
def Qhm {im:Nat->Prop}:∀(cs:List AC) (b o:Nat),CPs im w cs b o->∃D,CL (CP im w) cs D/\S5 w b o D
 |[],b,o,_=>⟨[],trivial,λj y h=>by grind⟩
 |c::cs,b,o,h=>by
  obtain⟨⟨y,N,G⟩,I⟩:=h;obtain⟨D,L,M⟩:=Qhm cs b (o+1) I;refine⟨y::D,⟨G,L⟩,λj z O=> ?_⟩;cases j with
  |zero=>grind
  |succ j=>have:=M j z (by grind);grind
def X9 {im:Nat->Prop}:∀(cs:List AC) (D:List Value) (b o:Nat),CL (CP im w) cs D->S5 w b o D->CPs im w cs b o
 |[],[],b,o,_,_=>by simp[CPs]
 |c::cs,y::D,b,o,h,G=>by
  exact⟨⟨y,G 0 y rfl,h.1⟩,X9 cs D b (o+1) h.2 λj z I=>by
   have:=G (j+1) z (by grind)
   grind⟩
 |[],_::_,_,_,h,_=>h.elim
 |_::_,[],_,_,h,_=>h.elim
def XQ {t:TypeId} {g:Bool} {sz:Nat} {cells:List AC} {sub b o:Nat} {v:TV} {D:List Value} (M:C8 P t=some g) (U:szT P t=some sz)
  (h:DO g sz cells sub=some v) (N:CL (CC ρ w) cells D) (G:S5 w b o D):
  ∃x,(loadVar t ⟨b,o+sub,none⟩).run P w= .ok x w/\TVR ρ w v x:=by
 have I:=Qok h N;cases g
 ·obtain⟨x,O,L⟩:=I;refine⟨x,?_,L⟩;simp[loadVar,P9 M,G sub x O]
 obtain⟨hle,L⟩:=I;have V:(cut D sub sz).length=sz:=by simp[cut];omega
 have := run_loadCells_list (P := P) w ⟨b, o + sub, none⟩ (cut D sub sz) (λj y X => by
  rw[Addr.add_lit];rw[show o+sub+j=o+(sub+j)from by omega];refine G (sub+j) y ?_
  grind [cut])
 simp_all [loadVar,P9,D_]
def Y9 {e:Operand->Value} {o:Oper} {t:TypeId} {x:Operand} {lo N:Option Operand} {X:TypeId} {m n cap:Nat} {U:Option Addr} {D I:Option Int} {l hh':Int}
  (ho:o.op= .slice t x lo N none) (hu:P.underlying t=some (.slice X)) (Y:szT P X=some m) (hc:e x= .slice U n cap) (a0:n<=cap)
  (G:ZL e lo D) (L:ZL e N I)
  (M:D.getD 0=l) (O:I.getD (n:Int)=hh') (d1:0<=l) (d2:l<=hh') (d3:hh'<=(n:Int)):
  (execOp e o).run P w= .ok (.value (.slice (if cap=l.toNat then U else U.map (·.add (l.toNat*m))) (hh'.toNat-l.toNat) (cap-l.toNat))) w:=by
 simp only[execOp,ho,Instr.sliceAt,Sem.run_bind,run_underlying hu,dv,hc,Option.map_none,Instr.slice,Instr.sliceBounds,Sem.run_pure,ig,j8];have hH:∀y,N=some y->∃k,e y= .int k hh':=by
  rintro y rfl;cases I with
  |none=>exact L.elim
  |some q=>simp at O;subst O;exact L
 have hL:∀y,lo=some y->∃k,e y= .int k l:=by
  rintro y rfl;cases D with
  |none=>exact G.elim
  |some q=>simp at M;subst M;exact G
 cases N with
 |none=>
  have hn:I=none:=by cases I with
   |none=>rfl
   |some _=>exact L.elim
  subst hn;simp at O;subst O;cases lo with
  |none=>
   have hn:D=none:=by cases D with
    |none=>rfl
    |some _=>exact G.elim
   subst hn;simp at M;subst M;simp[D_ Y]
  |some y=>
   obtain⟨k,hk⟩:=hL y rfl;simp_all [Instr.sliceBound,asIntOf,D_]
 |some z=>
  obtain⟨k',V⟩:=hH z rfl;have q1:0<=hh':=by omega
  have q2:hh'<=(cap:Int):=by omega
  cases lo with
  |none=>
   have hn:D=none:=by cases D with
    |none=>rfl
    |some _=>exact G.elim
   subst hn;simp at M;subst M;simp_all [Instr.sliceBound,asIntOf,D_]
  |some y=>
   obtain⟨k,hk⟩:=hL y rfl;simp[D_ Y,hk,V,Instr.sliceBound,asIntOf,d1,q1,q2];omega
def Z7h {im:Nat->Prop} {ks:List Kd} {l:List (List AC)} {D:Option Addr} {cap a b:Nat} (N:a<=b) (hb:b<=l.length)
  (h:CP im w (.vC ks l) (.slice D l.length cap)):CP im w (.vC ks ((l.take b).drop a)) (.slice (if cap=a then D else D.map (·.add (a*ks.length))) (b-a) (cap-a)):=by
 obtain⟨O,L,he,hle,U,hf⟩:=h;obtain⟨rfl,rfl⟩:=he;have hlen:((l.take b).drop a).length=b-a:=by simp;omega
 refine⟨_,_,by rw[hlen],by omega,λc V=>U c (gw (fh V)),?_⟩;by_cases X:(l.take b).drop a=[]
 ·grind
 right;have M:=js.2 X;rcases hf with hf|⟨b',o,rfl,G,I⟩
 ·grind
 refine⟨b',o+a*ks.length,?_,G,U0 λi Y=> ?_⟩
 ·rw[ab];simp[Addr.add_lit]
 rw[hlen]at Y;have hg:=Qas I (a+i) (by omega)
 grind
theorem Qgv:∀{D:List TV} {as:List AC},Kg D=some as->∀{xs:List Value},D.length=xs.length->(∀(i:Nat) (v:TV) (x:Value),D[i]? =some v->xs[i]? =some x->TVR ρ w v x)->CLc ρ w as xs
 |[],as,h,xs,M,_=>by
  simp[Kg]at h;subst h;cases xs with
  |nil=>trivial
  |cons=>grind
 |v::D,as,h,xs,M,L=>by
  cases xs with
  |nil=>grind
  |cons x xs=>
   have N:=L 0 v x rfl rfl;unfold Kg at h;split at h
   ·grind
   ·rename_i a l heq;obtain⟨rfl,rfl⟩:=heq;cases G:a.clOk<;>rw[G]at h
    ·grind
    simp at h;split at h
    ·rename_i r I;simp at h;subst h;refine⟨?_,Qgv I (by grind) λi v x U V=>L (i+1) v x (by grind) (by grind)⟩;have O:=N.c;cases a<;>simp only[AC.clOk]at G<;>first|(simp at G;done)|exact O
    grind
   grind
def Z8:∀{as:List AC} {xs:List Value},CLc ρ w as xs->(as.map TV.c).length=xs.length/\∀(i:Nat) (v:TV) (x:Value),(as.map TV.c)[i]? =some v->xs[i]? =some x->TVR ρ w v x
 |[],[],_=>by simp
 |a::as,x::xs,h=>by
  obtain⟨I,L⟩:=Z8 h.2;refine⟨by grind,λi v y D G=> ?_⟩;cases i with
  |zero=>
   simp at D G;subst D;subst G;have:=h.1;cases a<;>first|exact TVR.c' this|(exact TVR.c' (Jp this))|(simp at this)
  |succ i=>grind
 |[],_::_,h=>h.elim
 |_::_,[],h=>h.elim
def Q3d {a b:List TV} {xs D:List Value} (G:a.length=xs.length/\∀(i:Nat) (v:TV) (x:Value),a[i]? =some v->xs[i]? =some x->TVR ρ w v x)
  (I:b.length=D.length/\∀(i:Nat) (v:TV) (x:Value),b[i]? =some v->D[i]? =some x->TVR ρ w v x):
  (a++b).length=(xs++D).length/\∀(i:Nat) (v:TV) (x:Value),(a++b)[i]? =some v->(xs++D)[i]? =some x->TVR ρ w v x:=by grind
def Zo2 (e9:∀t∈C.eqOk,P.stoodInHeld t=false) {ev:Operand->TV} {e:Operand->Value} (I:∀x,TVR ρ w (ev x) (e x))
  (c9:∀f,e (.func f)= .func (.func f) #[] #[]) (o:Oper) {Kp:Prim->Option R} {r:R} (h:opK P C ev o.dst o.op Kp=some r):
  ∃p,Kp p=some r/\J7 P ρ w e o p:=by
 obtain⟨dst,op,type,pos,after,guard⟩:=o;have hx:∀(d0:Op) (v:TV) (x:Value),op=d0->((execOp e ⟨dst,d0,type,pos,after,guard⟩).run P w= .ok (.value x) w)->TVR ρ w v x->J7 P ρ w e ⟨dst,op,type,pos,after,guard⟩ (.val v):=by
  rintro _ v x rfl h1 N;exact⟨x,h1,N⟩
 cases op<;>simp only[opK]at h<;>try (simp at h;done)
 case move x=>exact⟨_,h,e x,by rfl,I x⟩
 case assign x=>exact⟨_,h,e x,by rfl,I x⟩
 case pick c a b=>
  split at h
  ·rename_i g L;have b6:e c= .bool g:=by have:=I c;rw[L]at this;exact this.bool
   cases g
   ·simp only[bn]at h;exact⟨_,h,e b,by simp[execOp,b6,asBool],I b⟩
   simp only[am]at h;exact⟨_,h,e a,by simp[execOp,b6,asBool],I a⟩
  grind
 case alloc t=>
  split at h
  ·rename_i cs hz;obtain⟨v,G,L⟩:=Wm (ρ:=ρ) (w:=w) hz;refine⟨_,h,v.cells,L,?_⟩;simp[execOp,Instr.alloc,G,newVar,newRow]
  grind
 case box t x=>
  split at h
  ·rename_i cs L;exact⟨_,h,(e x).cells,(I x).cells L,by rfl⟩
  grind
 case build t parts=>
  split at h
  ·rename_i z fs hz M;obtain⟨v,G,L⟩:=Wm (ρ:=ρ) (w:=w) hz;cases a9:(Al (Nh P) fs.toList)<;>rw[a9]at h
   ·grind
   simp only[am]at h;split at h
   ·rename_i cs hb;rw[Yde a9]at hb;obtain⟨U,h1,N,_⟩:=VN I _ _ _ _ L hb;refine⟨_,h, .agg U,?_,⟨U,rfl,N⟩⟩;have f0:=Zuo (P:=P) a9 w;simp only[execOp,Instr.build,Sem.run_bind,G,dv,run_underlying M,f0,jp];simp_all
   grind
  ·rename_i z n el hz M;obtain⟨v,G,L⟩:=Wm (ρ:=ρ) (w:=w) hz;split at h
   ·rename_i m hm;split at h
    ·rename_i cs hb;obtain⟨U,h1,N,_⟩:=VN I _ _ _ _ L hb;refine⟨_,h, .agg U,?_,⟨U,rfl,N⟩⟩;simp only[execOp,Instr.build,Sem.run_bind,G,dv,run_underlying M,D_ hm,jp];simp_all
    grind
   grind
  grind
 case buildSlice t n parts=>
  split at h
  ·rename_i el M;split at h
   ·rename_i m z ks hm hz f3;obtain⟨v,G,L⟩:=Wm (ρ:=ρ) (w:=w) hz;cases hb:(Nat.beq z.length m&&Nat.beq ks.length m&&Nat.ble 1 m&&Nat.ble (n*m) 65536)<;>rw[hb]at h
    ·grind
    simp only[am]at h;simp only[ak]at hb;have e1:=ah hb.1.1.1;have ek:=ah hb.1.1.2;have e2:=bc hb.1.2;have e3:=bc hb.2;split at h
    ·rename_i cs f4;have a5:∃U:Array Value,CL (CC ρ w) cs U.toList/\U.toList.length=n*m/\(execOp e ⟨dst, .buildSlice t n parts,type,pos,after,guard⟩).run P w= .ok (.value (.slice (some ⟨w.heap.size,0,none⟩) n n)) (w.alloc (.cells U el)):=by
      have d4:v.cells.toList.length=m:=by rw[<-L.length];exact e1
      have f5:((Array.range (n*m)).map λi=>(if n*m=0 then #[]else v.cells)[i%(if n*m=0 then(#[]:Array Value)else v.cells).size]!).toList=(List.replicate n v.cells.toList).flatten:=by
       by_cases hn:n*m=0
       ·grind [Nat.mul_eq_zero]
       simp only[hn,j8];apply ia;intro j;by_cases hj:j<n*m
       ·rw[Zbb _ (by omega) n j (by grind),d4];have hs:v.cells.size=m:=by rw[<-d4];simp
        have a3:j%m<v.cells.size:=by rw[hs];exact gx _ (by omega)
        grind
       simp_all
      have d5:=Q5i L n;rw[<-f5]at d5;obtain⟨U,h1,N,h3⟩:=VN I _ _ _ _ d5 f4;have d6:U.toList.length=n*m:=by rw[fu,h3];simp
      refine⟨U,N,d6,?_⟩;have b0: ¬(n*m>2^24):=by omega
      simp only[execOp,Instr.buildSlice,Sem.run_bind,run_underlying M,dv,D_ hm,b0,j8,Sem.run_pure,jp];by_cases hn:n*m=0
      ·simp_all [newRow]
      simp_all [newRow]
     obtain⟨U,N,d6,a5⟩:=a5;split at h
     ·rename_i l g0;have c0:=Q1f _ _ _ g0;have key:∃arr:Array Value,0<ks.length/\l.length<=maxLen/\RowC ρ.im w ks l arr.toList/\
        (execOp e ⟨dst, .buildSlice t n parts,type,pos,after,guard⟩).run P w= .ok (.value (.slice (some ⟨w.heap.size,0,none⟩) l.length l.length)) (w.alloc (.cells arr el)):=by
       rw[c0];refine⟨U,by omega,?_,?_,a5⟩
       ·have:n<=n*m:=jc n (by omega)
        grind [maxLen]
       grind [Q14]
      cases b6:ZM C dst n<;>rw[b6]at h
      ·exact⟨_,h,key⟩
      exact⟨_,h,key⟩
     cases V:(Al AC.isClo cs&&Nat.beq m 1)<;>rw[V]at h
     ·grind
     simp only[am]at h;simp only[ak]at V;exact⟨_,h,U,N,a5⟩
    grind
   grind
  grind
 case makeSlice t len cap=>
  split at h
  ·rename_i el n c M c0 b1;obtain⟨kl,g1⟩:=R7 c0 (I len);obtain⟨kc,g2⟩:=R7 b1 (I cap);split at h
   ·rename_i i z ks hi hz f3;split at h
    ·rename_i z' g3;cases hb:(Nat.beq ks.length i.size&&Nat.ble 1 i.size&&Nat.ble 1 i.bytes)<;>rw[hb]at h
     ·grind
     simp only[am]at h;simp only[ak]at hb;have e1:=ah hb.1.1;have e2:=bc hb.1.2;have e3:=bc hb.2;cases hd:decide (n=c)<;>rw[hd]at h
     ·grind
     simp only[am]at h;have c5:n=c:=by simpa using hd
     subst c5;unfold J4 at hz;rw[hi]at hz;dsimp only at hz;split at hz
     ·rename_i zv g4;have V:CL (CC ρ w) z zv.cells.toList:=Wb _ hz;obtain⟨f1,f2⟩:=T5 g3 V;refine⟨_,h,t,i,zv,kl,kc,M,hi,g4,e1.symm,rfl,by omega,e3,f2,f1,?_⟩;simp[execOp,g1,g2]
     grind
    grind
   grind
  grind
 case makeFunc fn first captured=>
  split at h
  ·rename_i f;split at h
   ·rename_i fs cs b7 a4;have ha:=S9 I first.toList;have hb:=S9 I captured.toList;refine⟨_,h, .func (.func f) (first.map e) (captured.map e),by rfl,TVR.c' ⟨_,_,rfl,?_,?_⟩⟩
    ·grind [Qgv]
    grind [Qgv]
   grind
  grind
 case load t a=>
  split at h
  ·rename_i g sz hg hs;have ha:=I a;split at h
   ·rename_i key off D;rw[D]at ha;have G:=ha.c;simp only[CC]at G;refine⟨_,h,t,hg,hs,?_⟩;simp[execOp,Instr.loadAt,G,Instr.sureAddr]
   ·rename_i cells sub D;rw[D]at ha;obtain⟨b,o,G,b8,a4⟩:=ha.c;split at h
    ·rename_i v g5;obtain⟨U,a7,a8⟩:=Qhm cells b o a4;obtain⟨x,g6,g7⟩:=XQ hg hs g5 (a7.mono λ_ _ _ hh=>Jp hh) a8;refine⟨_,h,x,?_,g7⟩;simp[execOp,Instr.loadAt,G,Instr.sureAddr,g6]
    grind
   ·rename_i id idx sub D;rw[D]at ha;obtain⟨g',a6,G⟩:=ha.c;refine⟨_,h,t,g',hg,hs,a6,?_⟩;simp[execOp,Instr.loadAt,G,Instr.sureAddr]
   grind
  grind
 case store t a x=>
  split at h
  ·rename_i sz cs hs a4;cases hb:Nat.beq cs.length sz<;>rw[hb]at h
   ·grind
   simp only[am]at h;have e1:=ah hb;subst e1;have ha:=I a;split at h
   ·rename_i key off D;rw[D]at ha;have G:=ha.c;simp only[CC]at G;refine⟨_,h,t,e x,hs,(I x).cells a4,?_⟩;simp[execOp,Instr.storeAt,G,Instr.sureAddr]
   ·rename_i id idx sub D;rw[D]at ha;obtain⟨g',a6,G⟩:=ha.c;refine⟨_,h,t,e x,g',hs,(I x).cells a4,a6,?_⟩;simp[execOp,Instr.storeAt,G,Instr.sureAddr]
   grind
  grind
 case nilCheck x=>
  have G:=I x;split at h
  ·rename_i key off D;rw[D]at G;have L:=G.c;simp only[CC]at L;exact⟨_,h,e x,by simp[execOp,L],G⟩
  ·rename_i id idx sub D;rw[D]at G;obtain⟨g',a6,L⟩:=G.c;exact⟨_,h,e x,by simp[execOp,L],G⟩
  ·rename_i cs sub D;rw[D]at G;obtain⟨b,o,L,_⟩:=G.c;exact⟨_,h,e x,by simp[execOp,L],G⟩
  grind
 case binOp d7 t x y yt=>
  have a0:=I x;have a1:=I y;split at h
  ·rename_i k a k' b hex a2;rw[hex]at a0;rw[a2]at a1;have e1:=a0.int;have e2:=a1.int;cases hk:kEq k k'<;>rw[hk]at h
   ·cases e4:OO d7<;>rw[e4]at h
    ·grind
    simp only[Bool.false_or,am]at h;obtain⟨c,v,h1,N,h3,h4,h5⟩:=Zok (P:=P) (ρ:=ρ) (w:=w) e4 t k k' a b _ h;refine⟨_,h1,v,?_,TVR.c' (Jp N)⟩;simp[execOp,e1,e2,eqGuard_at_int,h3]
   simp only[Bool.true_or,am]at h;have:=QX hk;subst this;obtain⟨c,v,h1,N,h3⟩:=Z0h (P:=P) (ρ:=ρ) (w:=w) d7 t k a b _ h;refine⟨_,h1,v,?_,TVR.c' (Jp N)⟩;simp[execOp,e1,e2,eqGuard_at_int,h3]
  ·rename_i a b hex a2;rw[hex]at a0;rw[a2]at a1;have e1:=a0.bool;have e2:=a1.bool;split at h
   ·rename_i M;refine⟨_,h, .bool (a==b),?_,TVR.mkBool _⟩;simp[execOp,e1,e2,eqGuard_at_bool,binOp,Op.equal,Op.maxDepth,run_equalIn_bool' w 9999 t a b M]
   ·rename_i M;refine⟨_,h, .bool (!(a==b)),?_,TVR.mkBool _⟩;simp[execOp,e1,e2,eqGuard_at_bool,binOp,Op.equal,Op.maxDepth,run_equalIn_bool' w 9999 t a b M]
   grind
  ·rename_i a b hex a2;rw[hex]at a0;rw[a2]at a1;have e1:=a0.c;have e2:=a1.c;simp only[CC,CP]at e1 e2;have e1:=e1.1;have e2:=e2.1;split at h
   ·refine⟨_,h, .bool (a.toList==b.toList),?_,TVR.mkBool _⟩;simp[execOp,e1,e2,eqGuard_at_string,binOp,Op.stringOp]
   ·refine⟨_,h, .bool (!(a.toList==b.toList)),?_,TVR.mkBool _⟩;simp[execOp,e1,e2,eqGuard_at_string,binOp,Op.stringOp]
   ·cases hle:Nat.ble (a.size+b.size) 9223372036854775807<;>rw[hle]at h
    ·cases h
    simp only[am]at h;have hle:=bc hle;refine⟨_,h, .string (a++b),?_,TVR.c' (Jp ⟨rfl,rfl⟩)⟩;simp[execOp,e1,e2,eqGuard_at_string,binOp,Op.stringOp];omega
   grind
  ·rename_i key off hex a2;rw[hex]at a0;rw[a2]at a1;have e1:=a0.c;have e2:=a1.c;simp only[CC]at e1;simp only[CC,CP]at e2;have e2:=e2.1;split at h
   ·rename_i el M;have hp:P.underlying t=some (.pointer (P.pointee t)):=by simp[Program.pointee,M]
    refine⟨_,h, .bool false,?_,TVR.mkBool _⟩;simp[execOp,e1,e2,eqGuard_at_pointer,run_eql_pointer_nil w t _ hp]
   ·rename_i el M;have hp:P.underlying t=some (.pointer (P.pointee t)):=by simp[Program.pointee,M]
    refine⟨_,h, .bool true,?_,TVR.mkBool _⟩;simp[execOp,e1,e2,eqGuard_at_pointer,run_neq_pointer_nil w t _ hp]
   grind
  ·rename_i hex a2;rw[hex]at a0;rw[a2]at a1;have e1:=a0.c;have e2:=a1.c;simp only[CC,CP]at e1 e2;have e1:=e1.1;have e2:=e2.1;split at h
   ·rename_i el M;have hp:P.underlying t=some (.pointer (P.pointee t)):=by simp[Program.pointee,M]
    refine⟨_,h, .bool true,?_,TVR.mkBool _⟩;simp[execOp,e1,e2,eqGuard_at_pointer,run_eql_pointer_nil w t _ hp]
   ·rename_i el M;have hp:P.underlying t=some (.pointer (P.pointee t)):=by simp[Program.pointee,M]
    refine⟨_,h, .bool false,?_,TVR.mkBool _⟩;simp[execOp,e1,e2,eqGuard_at_pointer,run_neq_pointer_nil w t _ hp]
   grind
  ·rename_i xs U hex a2;rw[hex]at a0;rw[a2]at a1;obtain⟨X,e1,hX⟩:=a0.agg;obtain⟨Y,e2,hY⟩:=a1.agg;cases b0:P.eqGuardType P.depth t<;>rw[b0]at h
   ·simp only[bn]at h;have key:∀q,C8 P t=some true->eqC P C.eqOk 20 t xs U=some q->(Op.equalIn 10000 t (.agg X) (.agg Y)).run P w= .ok q w:=by
     intro q hg hq;exact Q1r e9 20 10000 (by omega) t xs U q _ _ hq (by simp only[FG,hg];exact⟨X,rfl,hX⟩) (by simp_all [FG])
    split at h
    ·rename_i q hg hq;refine⟨_,h, .bool q,?_,TVR.mkBool _⟩;simp[execOp,e1,e2,run_eqGuard_agg w .eql t x y X Y b0,run_eql_struct,key q hg hq]
    ·rename_i q hg hq;refine⟨_,h, .bool (!q),?_,TVR.mkBool _⟩;simp[execOp,e1,e2,run_eqGuard_agg w .neq t x y X Y b0,run_neq_struct,key q hg hq]
    grind
   grind
  grind
 case unOp i1 t x=>
  have G:=I x;split at h
  ·rename_i k n D;rw[D]at G;have e1:=G.int;exact⟨_,h, .int k (k.wrap (0-n)),by simp[execOp,e1,Op.unary,Op.intArith],TVR.mkInt _ _⟩
  ·rename_i b D;rw[D]at G;have e1:=G.bool;exact⟨_,h, .bool (!b),by simp[execOp,e1,Op.unary],TVR.mkBool _⟩
  grind
 case convert src h9 x=>
  have G:=I x;split at h
  ·rename_i d k k' n hs hd D;rw[D]at G;have e1:=G.int;refine⟨_,h, .int k (k.wrap n),?_,TVR.mkInt _ _⟩;simp[execOp,e1,convert,run_underlying hs,run_underlying hd,Conv.intToInt]
  grind
 case fieldAddr t x i=>
  split at h
  ·rename_i f hf;have b7:∃fs,P.underlying t=some (.struct fs)/\fs[i]? =some f:=by
    unfold V5 at hf;split at hf
    ·grind
    grind
   obtain⟨fs,M,b2⟩:=b7;split at h
   ·rename_i n hn;have i2:n+1≠0:=by omega
    have G:=I x;have fp:∀(b o:Nat),(fieldPlace ⟨b,o,none⟩ f).run P w= .ok ⟨b,o+f.offset,none⟩ w:=by
     intro b o;simp[fieldPlace,D_ hn,Addr.add_lit]
    split at h
    ·rename_i key off D;rw[D]at G;have L:=G.c;simp only[CC]at L;refine⟨_,h, .pointer (some ⟨ρ.bx key,off+f.offset,none⟩),?_,TVR.c' (by rfl)⟩;simp[execOp,Instr.fieldAt,run_underlying M,b2,L,Instr.sureAddr,fp]
    ·rename_i id idx sub D;rw[D]at G;obtain⟨g',a6,L⟩:=G.c;refine⟨_,h, .pointer (some ⟨g',H6 (ρ.rv id)+(idx*ρ.wd id+sub)+f.offset,none⟩),?_,TVR.c' ⟨g',a6,by simp⟩⟩;simp[execOp,Instr.fieldAt,run_underlying M,b2,L,Instr.sureAddr,fp]
    ·rename_i cs sub D;rw[D]at G;obtain⟨b,o,L,h1,N⟩:=G.c;refine⟨_,h, .pointer (some ⟨b,o+sub+f.offset,none⟩),?_,TVR.c' ⟨b,o,by simp,h1,N⟩⟩;simp[execOp,Instr.fieldAt,run_underlying M,b2,L,Instr.sureAddr,fp]
    grind
   grind
  grind
 case field t x i=>
  split at h
  ·rename_i f cs hf D;have b7:∃fs,P.underlying t=some (.struct fs)/\fs[i]? =some f:=by
    unfold V5 at hf;split at hf
    ·grind
    grind
   obtain⟨fs,M,b2⟩:=b7;have G:=I x;rw[D]at G;obtain⟨U,L,V⟩:=G.agg;split at h
   ·rename_i v hp;obtain⟨y,a7,a8⟩:=Q2n (P:=P) hp V;refine⟨_,h,y,?_,a8⟩;simp[execOp,Instr.field,run_underlying M,b2,L,asAgg,a7]
   grind
  grind
 case indexAddr t x ix=>
  split at h
  ·rename_i i n el hi M;obtain⟨k,hk⟩:=R7 hi (I ix);have G:=I x;split at h
   ·rename_i m key off hm D;rw[D]at G;have L:=G.c;simp only[CC]at L;obtain⟨j,h1,N,h3,h4⟩:=Il h;refine⟨_,h1, .pointer (some ⟨ρ.bx key,off+j*m,none⟩),?_,TVR.c' (by rfl)⟩;have a3:j<n:=by omega
    simp[execOp,Instr.indexAt,run_underlying M,hk,asIntOf,L,Instr.sureAddr,N,a3,D_ hm,Addr.add_lit]
   ·rename_i m id idx sub hm D;rw[D]at G;obtain⟨g',a6,L⟩:=G.c;obtain⟨j,h1,N,h3,h4⟩:=Il h;refine⟨_,h1, .pointer (some ⟨g',H6 (ρ.rv id)+(idx*ρ.wd id+sub)+j*m,none⟩),?_,TVR.c' ⟨g',a6,by simp⟩⟩;have a3:j<n:=by omega
    simp[execOp,Instr.indexAt,run_underlying M,hk,asIntOf,L,Instr.sureAddr,N,a3,D_ hm,Addr.add_lit]
   ·rename_i m cs sub hm D;rw[D]at G;obtain⟨b,o,L,b8,a4⟩:=G.c;obtain⟨j,h1,N,h3,h4⟩:=Il h;refine⟨_,h1, .pointer (some ⟨b,o+sub+j*m,none⟩),?_,TVR.c' ⟨b,o,by simp,b8,a4⟩⟩;have a3:j<n:=by omega
    simp[execOp,Instr.indexAt,run_underlying M,hk,asIntOf,L,Instr.sureAddr,N,a3,D_ hm,Addr.add_lit]
   grind
  ·rename_i i el hi M;obtain⟨k,hk⟩:=R7 hi (I ix);have G:=I x;split at h
   ·rename_i m ks l hm D;rw[D]at G;have L:=G.c;simp only[CC,CP]at L;obtain⟨ad,cap,L,b9,g8,hf⟩:=L;cases hb:Nat.beq m ks.length<;>rw[hb]at h
    ·grind
    simp only[am]at h;have e1:=ah hb;subst e1;cases hd:(decide (0<=i)&&decide (i<(l.length:Int)))<;>rw[hd]at h
    ·grind
    simp only[am]at h;simp at hd;have c6:i.toNat<l.length:=by omega
    rcases hf with hf|⟨b,o,rfl,b8,g9⟩
    ·grind
    obtain⟨i3,a4⟩:=Qas g9 i.toNat c6;have i0:AX ks (nth [] l i.toNat)=l[i.toNat]:=by
     rw[Ca,List.getD,an c6];exact g8 _ (dl c6)
    refine⟨_,h, .pointer (some ⟨b,o+i.toNat*ks.length+0,none⟩),?_,TVR.c' ⟨b,o+i.toNat*ks.length,rfl,b8,by grind⟩⟩;simp[execOp,Instr.indexAt,run_underlying M,hk,asIntOf,L,hd,D_ hm,Addr.add_lit]
   ·rename_i m id wd n hm D;rw[D]at G;obtain⟨e5,h0,b3⟩:=G.c;cases hb:Nat.beq m wd<;>rw[hb]at h
    ·grind
    simp only[am]at h;have e1:=ah hb;subst e1;cases hd:(decide (0<=i)&&decide (i<(n:Int)))<;>rw[hd]at h
    ·grind
    simp only[am]at h;simp at hd;rcases b3 with⟨_,rfl⟩|⟨g',o',c',b3⟩
    ·omega
    refine⟨_,h, .pointer (some ⟨g',o'+(i.toNat*ρ.wd id+0),none⟩),?_,TVR.c' ⟨g',by rw[<-e5,b3];rfl,by rw[<-e5,b3];rfl⟩⟩;simp[execOp,Instr.indexAt,run_underlying M,hk,asIntOf,b3,hd,D_ hm,Addr.add_lit,h0]
   ·rename_i m key n hm D;rw[D]at G;have L:=G.c;simp only[CC]at L;cases hb:Nat.beq m 1<;>rw[hb]at h
    ·grind
    simp only[am]at h;have e1:=ah hb;subst e1;obtain⟨j,h1,N,h3,h4⟩:=Il h;refine⟨_,h1, .pointer (some ⟨ρ.bx key,j,none⟩),?_,TVR.c' (by rfl)⟩;have a3:j<n:=by omega
    simp[execOp,Instr.indexAt,run_underlying M,hk,asIntOf,L,N,a3,D_ hm,Addr.add_lit]
   grind
  grind
 case index t x ix=>
  split at h
  ·rename_i i n el cs hi M D;obtain⟨k,hk⟩:=R7 hi (I ix);have G:=I x;rw[D]at G;obtain⟨U,L,V⟩:=G.agg;split at h
   ·rename_i m hm;obtain⟨j,h1,N,h3,h4⟩:=Il h;have a3:j<n:=by omega
    split at h1
    ·rename_i v hp;obtain⟨y,a7,a8⟩:=Q2n (P:=P) hp V;refine⟨_,h1,y,?_,a8⟩;simp[execOp,Instr.index,run_underlying M,hk,asIntOf,L,N,a3,D_ hm,a7]
    grind
   grind
  grind
 case slice t x lo hi mx=>
  split at h
  ·rename_i _ e6 e7 el h6 h7 M;have b4:=Zj8 I h6;have b5:=Zj8 I h7;have G:=I x;split at h
   ·rename_i m ks l hm D;rw[D]at G;have b1:=G.c;have L:=b1;simp only[CC,CP]at L;obtain⟨ad,cap,L,b9,_⟩:=L;rw[L]at b1;cases hb:Nat.beq m ks.length<;>rw[hb]at h
    ·grind
    simp only[am]at h;have e1:=ah hb;subst e1;have key:∀(a b:Int),e6.getD 0=a->e7.getD (l.length:Int)=b->0<=a->a<=b->b<=(l.length:Int)->J7 P ρ w e ⟨dst, .slice t x lo hi none,type,pos,after,guard⟩ (.val (.c (.vC ks ((l.take b.toNat).drop a.toNat)))):=by
     intro a b ha c7 d1 d2 d3;refine⟨_,Y9 rfl M hm L b9 b4 b5 ha c7 d1 d2 d3,TVR.c' ?_⟩;exact Z7h (by omega) (by omega) b1
    split at h
    ·refine⟨_,h,?_⟩;simp_all
    ·rename_i a;cases hd:(decide (0<=a)&&decide (a<=(l.length:Int)))<;>rw[hd]at h
     ·grind
     simp only[am]at h;simp only[ak,dx]at hd;refine⟨_,h,?_⟩;simp_all
    ·rename_i b;cases hd:(decide (0<=b)&&decide (b<=(l.length:Int)))<;>rw[hd]at h
     ·grind
     simp only[am]at h;simp only[ak,dx]at hd;refine⟨_,h,?_⟩;simp_all
    grind
   ·rename_i m id wd n hm D;rw[D]at G;obtain⟨c1,c2,c3⟩:=G.c;split at h
    ·rename_i a;cases hb:Nat.beq m wd<;>rw[hb]at h
     ·grind
     simp only[am]at h;have e1:=ah hb;subst e1;cases hd:(decide (0<=a)&&decide (a<=(n:Int)))<;>rw[hd]at h
     ·grind
     simp only[am]at h;simp only[ak,dx]at hd;refine⟨_,h,λad n' cap h8 c5 i4=> ?_⟩;have hn:n'=n:=by
      rcases c3 with⟨c3,c4⟩|⟨_,_,_,c3⟩
      ·grind
      grind
     subst hn;have a5:=Y9 (P:=P) (w:=w) (e:=e) (o:=⟨dst, .slice t x lo hi none,type,pos,after,guard⟩) rfl M hm (c1.trans h8) c5 b4 b5 (l:=a) (hh':=(n':Int)) rfl rfl hd.1 hd.2 (fa _)
     grind
    grind
   ·rename_i m hm D;rw[D]at G;have L:=G.c;simp only[CC,CP]at L;have key:e6.getD 0=0->e7.getD ((0:Nat):Int)=0->J7 P ρ w e ⟨dst, .slice t x lo hi none,type,pos,after,guard⟩ (.val (.c .nilSl)):=by
     intro ha c7;refine⟨_,Y9 rfl M hm L (dm _) b4 b5 ha c7 (by omega) (by omega) (by omega),TVR.c' ?_⟩;simp[CC,CP]
    grind
   grind
  grind
 case extract t i=>
  have G:=I t;split at h
  ·rename_i ps D;rw[D]at G;obtain⟨U,L,hp⟩:=G;split at h
   ·rename_i g cs hg;have key:∀(l:List (Bool×List AC)) (xs:List Value) (i:Nat),TP ρ w l xs->l[i]? =some (g,cs)->∃y,xs[i]? =some y/\TVR ρ w (.v g cs) y:=by
     intro l;induction l with
     |nil=>simp
     |cons p l ih=>
      intro xs i c8 hh;cases xs with
      |nil=>exact c8.elim
      |cons y xs=>
       cases i with
       |zero=>
        simp at hh;subst hh;refine⟨y,rfl,?_⟩;have:=c8.1;cases g<;>exact this
       |succ i=>simpa using ih xs i c8.2 (by grind)
    obtain⟨y,a7,a8⟩:=key ps U.toList i hp hg;refine⟨_,h,y,?_,a8⟩;have e8:U[i]? =some y:=by simpa using a7
    simp[execOp,Instr.extract,L,e8]
   grind
  grind
 case call c=>
  have O:=S9 I c.args.toList;split at h
  ·rename_i b hb;obtain⟨cs,a4⟩:=Z22 (e:=e) (o:=⟨dst, .call c,type,pos,after,guard⟩) (c:=c) rfl hb;refine Zuv (xs:=c.args.toList.map e) (by omega) O.2 h (ty:=type) (cs:=cs) ?_;rw[a4,<-jp]
  ·rename_i f hf;cases hp:C.pure f<;>rw[hp]at h
   ·exact⟨_,h,c.args.toList.map e,O.1.symm,O.2,TR rfl hf (c9 f)⟩
   exact⟨_,h,c.args.toList.map e,O.1.symm,O.2,TR rfl hf (c9 f)⟩
  ·rename_i t ht;split at h
   ·rename_i f fs cs V;have G:=I (.tmp t);rw[V]at G;obtain⟨xs,U,L,h1,N⟩:=G.c;obtain⟨q1,q2⟩:=Q3d (Z8 h1) (Q3d O (Z8 N));cases V:(Al AC.clOk fs&&Al AC.clOk cs)<;>rw[V]at h
    ·grind
    exact⟨_,h,_,q1.symm,q2,Z4l rfl ht L⟩
   grind
  grind
end
open Go.RowKit
section defs
variable (aB:List (Nat×Box)) (aC:List (Nat×Row))
def AC.wfP:AC->Prop
 | .ptr key _=>∃b,Ab aB key=some b
 |_=>True
def AC.wf:AC->Prop
 | .ptr key _=>∃b,Ab aB key=some b
 | .bsl key _=>∃b,Ab aB key=some b
 | .own id w n=>∃r,Ab aC id=some r/\r.n=n/\r.w=w
 | .rptr id idx _=>∃r,Ab aC id=some r/\idx<r.n
 | .vptr cs _=>Al AC.calm cs=true
 | .clo _ fs cs=>(∀a∈fs,AC.wfP aB a)/\∀a∈cs,AC.wfP aB a
 |_=>True
def TV.wf:TV->Prop
 | .v _ cs=>∀a∈cs,AC.wf aB aC a
 | .tup ps=>∀p∈ps,∀a∈p.2,AC.wf aB aC a
 | .vD=>True
end defs
structure Fr (F : Nat -> Prop) (w w' : World) : Prop where
 os:w'.os=w.os
 tape:w'.tape=w.tape
 output:w'.output=w.output
 size:w.heap.size<=w'.heap.size
 block:∀k,F k->w'.heap[k]? =w.heap[k]?
def Fr.refl (F:Nat->Prop) (w:World):Fr F w w:=⟨rfl,rfl,rfl,dm _,λ_ _=>rfl⟩
theorem Fr.trans {F:Nat->Prop} {a b c:World} (h:Fr F a b) (k:Fr F b c):Fr F a c:=
 ⟨k.os.trans h.os,k.tape.trans h.tape,k.output.trans h.output,co h.size k.size,λi D=>(k.block i D).trans (h.block i D)⟩
theorem Fr.mono {F D:Nat->Prop} {w w':World} (h:Fr F w w') (G:∀k,D k->F k):Fr D w w':=⟨h.os,h.tape,h.output,h.size,λk I=>h.block k (G k I)⟩
def Fr.drew {F:Nat->Prop} {a w:World} (h:Fr F a w):Fr F a w.drew:=⟨h.os,h.tape,h.output,h.size,h.block⟩
theorem Fr.alloc {F:Nat->Prop} {a w:World} (h:Fr F a w) (D:∀k,F k->k<w.heap.size) (o:Obj):Fr F a (w.alloc o):=
 h.trans ⟨rfl,rfl,rfl,by simp,λk G=>Below.heap_alloc _ _ _ (D k G)⟩
def Fr.of_below {w w':World} {F:Nat->Prop} (h:Below w.heap.size w w') (D:∀k,F k->k<w.heap.size):Fr F w w':=⟨h.os,h.tape,h.output,h.size,λk G=>h.block k (D k G)⟩
def Fr.grown {F:Nat->Prop} {a w w':World} {row:Option Nat} (h:Fr F a w) (D:w.grownBy w' row) (I:∀k,F k->k<w.heap.size) (L:∀k,row=some k-> ¬F k):Fr F a w':=
 h.trans ⟨D.os,D.tape,D.output,D.size,λk G=>D.block k (I k G) (λe=>L k e.symm G)⟩
structure Base where
 F:Nat->Prop
 w0:World
 I0:Nat->Prop
 K0:Nat->Option Nat
 gt:Gt F w0
structure RelE (Z : Base) (tm : List TV) (aB : List (Nat × Box)) (aC : List (Nat × Row)) (ρ : Env) (tmps : Array Value) (w : World) : Prop where
 tl:tm.length=tmps.size
 tv:∀(i:Nat) (v:TV),tm[i]? =some v->TVR ρ w v (tmps.getD i undef)
 wt:∀v∈tm,TV.wf aB aC v
 wb:∀(k:Nat) (b:Box),Ab aB k=some b->∀a∈b.cells,AC.wf aB aC a
 bx:∀(k:Nat) (b:Box),Ab aB k=some b->∃arr:Array Value,w.heap[ρ.bx k]? =some (.cells arr b.ty (0,0))/\CL (CC ρ w) b.cells arr.toList/\ ¬Z.F (ρ.bx k)
 bi:∀(k k':Nat) (b b':Box),Ab aB k=some b->Ab aB k'=some b'->ρ.bx k=ρ.bx k'->k=k'
 ro:∀(id:Nat) (r:Row),Ab aC id=some r->0<r.w/\ρ.wd id=r.w/\(∀g,(ρ.rv id).ownBlock=some g-> ¬Z.F g)/\∃xs,Fv w r.ty r.w (ρ.rv id) r.n xs/\RowC ρ.im w r.ks r.l xs
 ri:∀(id id':Nat) (r r':Row) (g:Nat),Ab aC id=some r->Ab aC id'=some r'->(ρ.rv id).ownBlock=some g->(ρ.rv id').ownBlock=some g->id=id'
 br:∀(k:Nat) (b:Box) (id:Nat) (r:Row),Ab aB k=some b->Ab aC id=some r->(ρ.rv id).ownBlock≠some (ρ.bx k)
 ib:∀b,ρ.im b->b<w.heap.size/\(∀(k:Nat) (bo:Box),Ab aB k=some bo->ρ.bx k≠b)/\(∀(id:Nat) (r:Row),Ab aC id=some r->(ρ.rv id).ownBlock≠some b)
 fr:Fr Z.F Z.w0 w
 fs:∀k,Z.F k->k<w.heap.size
 i0:∀b,Z.I0 b->ρ.im b
 i1:∀b,ρ.im b->Z.I0 b\/ ¬Z.F b
 k0:∀k b,Z.K0 k=some b->ρ.bx k=b/\∃bo,Ab aB k=some bo
section
variable {P:Program} {C:Cfg} {ρ:Env} {w:World} {R:Type} {Z:Base} {tm:List TV} {aB:List (Nat×Box)} {aC:List (Nat×Row)} {tmps:Array Value}
theorem Yeu {w:World} {b:Nat} {o:Obj} (h:w.heap[b]? =some o):b<w.heap.size:=by grind
def RelE.bxlt (h:RelE Z tm aB aC ρ tmps w) {k:Nat} {b:Box} (D:Ab aB k=some b):ρ.bx k<w.heap.size:=by
 obtain⟨arr,G,_⟩:=h.bx k b D
 grind
def RelE.rwlt (h:RelE Z tm aB aC ρ tmps w) {id:Nat} {r:Row} (G:Ab aC id=some r) {g:Nat} (D:(ρ.rv id).ownBlock=some g): ¬Z.F g/\g<w.heap.size:=by
 obtain⟨_,_,I,xs,L,_⟩:=h.ro id r G;exact⟨I g D,Q5s L g D⟩
theorem TVR.mono {ρ ρ':Env} {w w':World} (G:∀(a:AC) (x:Value),CC ρ w a x->CC ρ' w' a x):∀(v:TV) (x:Value),TVR ρ w v x->TVR ρ' w' v x:=by
 intro v x h;have M:∀{l xs},CL (CC ρ w) l xs->CL (CC ρ' w') l xs:=λh=>h.mono λa _ x N=>G a x N;cases v with
 |vD=>trivial
 |v g cs=>
  cases g
  ·obtain⟨a,I,D⟩:=h;exact⟨a,I,G a _ D⟩
  obtain⟨L,I,D⟩:=h;exact⟨L,I,M D⟩
 |tup ps=>
  obtain⟨L,I,D⟩:=h;refine⟨L,I,?_⟩;generalize L.toList=l at D;induction ps generalizing l with
  |nil=>cases l<;>first|exact D|exact D.elim
  |cons p ps O=>
   cases l with
   |nil=>exact D.elim
   |cons y l=>
    refine⟨?_,O l D.2⟩;have:=D.1
    grind
def TVR.mono' {ρ N:Env} {w w':World} {v:TV} (G:∀(a:AC) (x:Value),AC.wf aB aC a->CC ρ w a x->CC N w' a x) (L:TV.wf aB aC v) {x:Value} (h:TVR ρ w v x):TVR N w' v x:=by
 have V:∀{l xs},(∀a∈l,AC.wf aB aC a)->CL (CC ρ w) l xs->CL (CC N w') l xs:=λX h=>h.mono λa Y x hx=>G a x (X a Y) hx;cases v with
 |vD=>trivial
 |v g cs=>
  cases g
  ·obtain⟨a,M,D⟩:=h;subst M;exact⟨a,rfl,G a _ (L a (by simp)) D⟩
  obtain⟨I,M,D⟩:=h;exact⟨I,M,V L D⟩
 |tup ps=>
  obtain⟨I,M,D⟩:=h;refine⟨I,M,?_⟩;generalize I.toList=l at D;induction ps generalizing l with
  |nil=>cases l<;>first|exact D|exact D.elim
  |cons p ps ih=>
   cases l with
   |nil=>exact D.elim
   |cons y l=>
    obtain⟨g,cs⟩:=p;refine⟨?_,ih (λq hq=>L q (by grind)) l D.2⟩;have:=D.1;cases g
    ·obtain⟨a,O,U⟩:=this;subst O;exact⟨a,rfl,G a _ (L (false,[a]) (by simp) a (by simp)) U⟩
    obtain⟨I,O,U⟩:=this;exact⟨I,O,V (L (true,cs) (by simp)) U⟩
theorem RowC.mono {im D:Nat->Prop} {w w':World} {ks:List Kd} {l:List (List AC)} {xs:List Value} (I:∀b,im b->D b) (hb:∀b,im b->w'.heap[b]? =w.heap[b]?) (h:RowC im w ks l xs):RowC D w' ks l xs:=
 ⟨h.1,h.2.1,λi c G=>(h.2.2 i c G).mono λa _ x L=>CP.mono I hb a x L⟩
def AC.agree_refl {ρ D:Env} (I:D.bx=ρ.bx) (L:D.rv=ρ.rv) (M:D.wd=ρ.wd) (a:AC):a.agree ρ D:=by
 have G:∀a:AC,a.agreeP ρ D:=by intro a;cases a<;>first|grind [AC.agreeP]|trivial
 cases a with
 |ptr=>grind [AC.agree]
 |bsl=>grind [AC.agree]
 |own=>simp_all [AC.agree]
 |rptr=>simp_all [AC.agree]
 |clo=>exact⟨λa _=>G a,λa _=>G a⟩
 |_=>trivial
def CC.keep {g:Nat} {w':World} (G: ¬ρ.im g) (hb:∀b,b≠g->w'.heap[b]? =w.heap[b]?) (a:AC) (x:Value) (h:CC ρ w a x):CC ρ w' a x:=
 CC.mono (λ_ h=>h) (λb D=>hb b (λe=>G (e▸D))) a x (AC.agree_refl rfl rfl rfl a) h
def upN {α:Type} (f:Nat->α) (k:Nat) (v:α):Nat->α:=λj=>if j=k then v else f j
theorem B5 {α:Type} (f:Nat->α) (k:Nat) (v:α):upN f k v k=v:=by simp[upN]
theorem CW {α:Type} (f:Nat->α) (k:Nat) (v:α) {j:Nat} (h:j≠k):upN f k v j=f j:=by simp[upN,h]
def AC.wfP_mono {D:List (Nat×Box)} (hb:∀(k:Nat) (b:Box),Ab aB k=some b->∃b',Ab D k=some b') {a:AC} (h:AC.wfP aB a):AC.wfP D a:=by
 cases a with
 |ptr k o=>obtain⟨b,h⟩:=h;exact hb k b h
 |_=>trivial
def AC.wf_mono {D:List (Nat×Box)} {G:List (Nat×Row)} (hb:∀(k:Nat) (b:Box),Ab aB k=some b->∃b',Ab D k=some b')
  (N:∀(k:Nat) (r:Row),Ab aC k=some r->∃r',Ab G k=some r'/\r'.n=r.n/\r'.w=r.w) {a:AC} (h:AC.wf aB aC a):AC.wf D G a:=by
 cases a with
 |ptr k o=>obtain⟨b,h⟩:=h;exact hb k b h
 |bsl k o=>obtain⟨b,h⟩:=h;exact hb k b h
 |own id w' n=>obtain⟨r,I,O,X⟩:=h;obtain⟨r',L,U,V⟩:=N id r I;exact⟨r',L,by omega,by omega⟩
 |rptr id i s=>obtain⟨r,I,O⟩:=h;obtain⟨r',L,U,V⟩:=N id r I;exact⟨r',L,by omega⟩
 |vptr=>exact h
 |clo f fs cs=>exact⟨λa M=>AC.wfP_mono hb (h.1 a M),λa M=>AC.wfP_mono hb (h.2 a M)⟩
 |_=>trivial
def AC.agree_of {ρ':Env} (D:∀k,(∃b,Ab aB k=some b)->ρ'.bx k=ρ.bx k) (I:∀id,(∃r,Ab aC id=some r)->ρ'.rv id=ρ.rv id/\ρ'.wd id=ρ.wd id) {a:AC} (h:AC.wf aB aC a):a.agree ρ ρ':=by
 have L:∀l:List AC,(∀a∈l,AC.wfP aB a)->∀a∈l,a.agreeP ρ ρ':=by
  intro l M a N;have:=M a N;cases a<;>first|exact D _ this|trivial
 cases a with
 |ptr k o=>exact D k h
 |bsl k o=>exact D k h
 |own id w n=>obtain⟨r,G,_⟩:=h;exact I id ⟨r,G⟩
 |rptr id i s=>obtain⟨r,G,_⟩:=h;exact I id ⟨r,G⟩
 |clo f fs cs=>exact⟨L fs h.1,L cs h.2⟩
 |_=>trivial
def TV.wf_mono {D:List (Nat×Box)} {G:List (Nat×Row)} (L:∀a,AC.wf aB aC a->AC.wf D G a) {v:TV} (h:TV.wf aB aC v):TV.wf D G v:=by
 cases v with
 |vD=>trivial
 |v g cs=>exact λa I=>L a (h a I)
 |tup ps=>exact λp M a I=>L a (h p M a I)
def RelE.new (h:RelE Z tm aB aC ρ tmps w) {d:Nat} (hd:Ab aB d=none) {ty:TypeId} {cs:List AC} {arr:Array Value} (hw:∀a∈cs,AC.wf aB aC a) (hc:CL (CC ρ w) cs arr.toList):
  RelE Z tm (ins aB d ⟨ty,cs⟩) aC {ρ with bx:=upN ρ.bx d w.heap.size} tmps (w.alloc (.cells arr ty)):=by
 have U:∀(k:Nat) (b:Box),Ab aB k=some b->Ab (ins aB d ⟨ty,cs⟩) k=some b:=by
  intro k b D;rw[Ed]
  ·exact D
  grind
 have G:∀(k:Nat) (b:Box),Ab (ins aB d ⟨ty,cs⟩) k=some b->(k=d/\b=⟨ty,cs⟩)\/(k≠d/\Ab aB k=some b):=by
  intro k b D;by_cases a1:k=d
  ·subst a1;rw[EU _ _ _ hd]at D;grind
  grind [Ed]
 have V:∀a,AC.wf aB aC a->AC.wf (ins aB d ⟨ty,cs⟩) aC a:=λa=>AC.wf_mono (λk b D=>⟨b,U k b D⟩) (λk r D=>⟨r,D,rfl,rfl⟩);have hold:∀b,b<w.heap.size->(w.alloc (.cells arr ty)).heap[b]? =w.heap[b]? :=λb hb=>Below.heap_alloc w _ b hb;have N:∀(a:AC) (x:Value),AC.wf aB aC a->CC ρ w a x->CC {ρ with bx:=upN ρ.bx d w.heap.size} (w.alloc (.cells arr ty)) a x:=by
  intro a x O X;refine CC.mono (ρ:=ρ) (ρ':={ρ with bx:=upN ρ.bx d w.heap.size}) (λb hb=>hb) (λb hb=>hold b (h.ib b hb).1) a x ?_ X;refine AC.agree_of (ρ:=ρ) (ρ':={ρ with bx:=upN ρ.bx d w.heap.size}) (λk a2=>CW _ _ _ ?_) (λid _=>⟨rfl,rfl⟩) O;rintro rfl;obtain⟨b,hb⟩:=a2;rw[hd]at hb;cases hb
 refine⟨h.tl,λi v hi=>TVR.mono' N (h.wt v (df hi)) (h.tv i v hi),λv hv=>TV.wf_mono V (h.wt v hv),?_,?_,?_,?_,h.ri,?_,?_,?_,?_,h.i0,h.i1,?_⟩
 ·intro k b D a O;rcases G k b D with⟨rfl,rfl⟩|⟨I,D⟩
  ·grind
  exact V a (h.wb k b D a O)
 ·intro k b D;rcases G k b D with⟨rfl,rfl⟩|⟨I,D⟩
  ·refine⟨arr,?_,hc.mono λa O x X=>N a x (hw a O) X,?_⟩
   ·show(w.alloc _).heap[upN ρ.bx k w.heap.size k]? =_
    grind [B5,heap_alloc_new]
   show¬Z.F (upN ρ.bx k w.heap.size k);rw[B5];exact λhf=>Nat.lt_irrefl _ (h.fs _ hf)
  obtain⟨ar,h1,h2,Y⟩:=h.bx k b D;refine⟨ar,?_,h2.mono λa O x X=>N a x (h.wb k b D a O) X,?_⟩
  ·show(w.alloc _).heap[upN ρ.bx d w.heap.size k]? =_
   grind [CW]
  simp_all [upN]
 ·intro k k' b b' D a3 he;change upN ρ.bx d w.heap.size k=upN ρ.bx d w.heap.size k' at he;rcases G k b D with⟨e1,_⟩|⟨I,a0⟩<;>rcases G k' b' a3 with⟨e2,_⟩|⟨L,M⟩
  ·omega
  ·rw[e1,B5,CW _ _ _ L]at he;have:=h.bxlt M;omega
  ·rw[e2,B5,CW _ _ _ I]at he;have:=h.bxlt a0;omega
  rw[CW _ _ _ I,CW _ _ _ L]at he;exact h.bi k k' b b' a0 M he
 ·intro id r hr;obtain⟨h1,h2,h0,xs,Y,h4⟩:=h.ro id r hr;exact⟨h1,h2,h0,xs,OA Y (λg hg=>hold g (Q5s Y g hg)),h4.mono (λb hb=>hb) (λb hb=>hold b (h.ib b hb).1)⟩
 ·intro k b id r D hr he;change (ρ.rv id).ownBlock=some (upN ρ.bx d w.heap.size k)at he;rcases G k b D with⟨rfl,rfl⟩|⟨I,D⟩
  ·rw[B5]at he;have:=(h.rwlt hr he).2;omega
  rw[CW _ _ _ I]at he;exact h.br k b id r D hr he
 ·intro b hb;obtain⟨h1,h2,Y⟩:=h.ib b hb;refine⟨by grind,λk bo D=> ?_,Y⟩;show upN ρ.bx d w.heap.size k≠b
  grind [B5,CW]
 ·exact h.fr.alloc h.fs _
 ·intro k D;have:=h.fs k D;grind
 intro k b D;obtain⟨q1,bo,q2⟩:=h.k0 k b D;exact⟨by show upN ρ.bx d w.heap.size k=b;grind [CW],bo,U k bo q2⟩
def RelE.store (h:RelE Z tm aB aC ρ tmps w) {key:Nat} {b:Box} (I:Ab aB key=some b) {cells:List AC} (hw:∀a∈cells,AC.wf aB aC a) {arr:Array Value} (hc:CL (CC ρ w) cells arr.toList):
  RelE Z tm (upd aB key ⟨b.ty,cells⟩) aC ρ tmps (w.setRow (ρ.bx key) arr):=by
 obtain⟨ar,h1,h2,h3⟩:=h.bx key b I;have V: ¬ρ.im (ρ.bx key):=λhi=>(h.ib _ hi).2.1 key b I rfl;have hold:∀g,g≠ρ.bx key->(w.setRow (ρ.bx key) arr).heap[g]? =w.heap[g]? :=λg M=>setRow_other w _ g _ M;have N:=λa x X=>CC.keep V hold a x X;have G:∀(k:Nat) (bo:Box),Ab (upd aB key ⟨b.ty,cells⟩) k=some bo->(k=key/\bo=⟨b.ty,cells⟩)\/(k≠key/\Ab aB k=some bo):=by
  intro k bo D;by_cases a1:k=key
  ·subst a1;rw[E4 _ _ _ _ I]at D;grind
  grind [Dv]
 have O:∀(k:Nat) (bo:Box),Ab (upd aB key ⟨b.ty,cells⟩) k=some bo->∃U,Ab aB k=some U:=by
  intro k bo D;rcases G k bo D with⟨rfl,rfl⟩|⟨_,h⟩
  ·grind
  grind
 have Y:∀a,AC.wf aB aC a->AC.wf (upd aB key ⟨b.ty,cells⟩) aC a:=λa=>AC.wf_mono (λk bo D=>by grind [E4,Dv]) (λk r I=>⟨r,I,rfl,rfl⟩);refine⟨h.tl,λi v hi=>TVR.mono N v _ (h.tv i v hi),λv hv=>TV.wf_mono Y (h.wt v hv),?_,?_,?_,?_,h.ri,?_,?_,?_,?_,h.i0,h.i1,?_⟩
 ·intro k bo D a ha;rcases G k bo D with⟨rfl,rfl⟩|⟨a0,D⟩
  ·grind
  exact Y a (h.wb k bo D a ha)
 ·intro k bo D;rcases G k bo D with⟨rfl,rfl⟩|⟨a0,D⟩
  ·exact⟨arr,setRow_heap w _ ar _ b.ty _ h1,hc.mono λa _ x X=>N a x X,h3⟩
  obtain⟨a2,q1,q2,q3⟩:=h.bx k bo D;refine⟨a2,?_,q2.mono λa _ x X=>N a x X,q3⟩;rw[hold _ (λe=>a0 (h.bi k key bo b D I e))];exact q1
 ·intro k k' bo U L a3 he;obtain⟨_,p1⟩:=O k bo L;obtain⟨_,p2⟩:=O k' U a3;exact h.bi k k' _ _ p1 p2 he
 ·intro id r hr;obtain⟨q1,q2,q0,xs,q3,q4⟩:=h.ro id r hr;exact⟨q1,q2,q0,xs,OA q3 (λg M=>hold g (λe=>h.br key b id r I hr (by grind))),q4.mono (λ_ hb=>hb) (λg M=>hold g (λe=>V (e▸M)))⟩
 ·intro k bo id r L hr;obtain⟨_,p1⟩:=O k bo L;exact h.br k _ id r p1 hr
 ·intro g M;obtain⟨q1,q2,q3⟩:=h.ib g M;exact⟨by simp_all,λk bo L=>by grind,q3⟩
 ·exact h.fr.trans ⟨rfl,rfl,rfl,by simp,λg M=>hold g (λe=>h3 (e▸M))⟩
 ·intro k I;simpa using h.fs k I
 intro k b' D;obtain⟨q1,bo,q2⟩:=h.k0 k b' D
 grind [E4,Dv]
def RelE.addRow (h:RelE Z tm aB aC ρ tmps w) {d:Nat} (hd:Ab aC d=none) {r:Row} {v':Value} {xs:List Value} {w':World} (hb:Below w.heap.size w w')
  (hw:0<r.w) (a7:Fv w' r.ty r.w v' r.n xs) (Y:RowC ρ.im w' r.ks r.l xs) (D:∀g,v'.ownBlock=some g->w.heap.size<=g):
  RelE Z tm aB (ins aC d r) {ρ with rv:=upN ρ.rv d v',wd:=upN ρ.wd d r.w} tmps w':=by
 have a2:∀(k:Nat) (q:Row),Ab aC k=some q->Ab (ins aC d r) k=some q:=by
  intro k q G;rw[Ed]
  ·exact G
  grind
 have L:∀(k:Nat) (q:Row),Ab (ins aC d r) k=some q->(k=d/\q=r)\/(k≠d/\Ab aC k=some q):=by
  intro k q G;by_cases a3:k=d
  ·subst a3;rw[EU _ _ _ hd]at G;grind
  grind [Ed]
 have a0:∀a,AC.wf aB aC a->AC.wf aB (ins aC d r) a:=λa=>AC.wf_mono (λk b G=>⟨b,G⟩) (λk q G=>⟨q,a2 k q G,rfl,rfl⟩);have hold:=λb a4=>hb.block b a4;have a1:∀(a:AC) (x:Value),AC.wf aB aC a->CC ρ w a x->CC {ρ with rv:=upN ρ.rv d v',wd:=upN ρ.wd d r.w} w' a x:=by
  intro a x ha hx;refine CC.mono (ρ:=ρ) (ρ':={ρ with rv:=upN ρ.rv d v',wd:=upN ρ.wd d r.w}) (λb hb=>hb) (λb hb=>hold b (h.ib b hb).1) a x ?_ hx;refine AC.agree_of (ρ:=ρ) (ρ':={ρ with rv:=upN ρ.rv d v',wd:=upN ρ.wd d r.w}) (λk _=>rfl) (λid ⟨q,O⟩=> ?_) ha;have:id≠d:=by rintro rfl;rw[hd]at O;cases O
  exact⟨CW _ _ _ this,CW _ _ _ this⟩
 refine⟨h.tl,λi v hi=>TVR.mono' a1 (h.wt v (df hi)) (h.tv i v hi),λv hv=>TV.wf_mono a0 (h.wt v hv),λk b G a ha=>a0 a (h.wb k b G a ha),?_,h.bi,?_,?_,?_,?_,?_,?_,h.i0,h.i1,λk b G=>h.k0 k b G⟩
 ·intro k b G;obtain⟨ar,h1,h2,h3⟩:=h.bx k b G;exact⟨ar,by grind,h2.mono λa ha x hx=>a1 a x (h.wb k b G a ha) hx,h3⟩
 ·intro id q O;rcases L id q O with⟨e1,e2⟩|⟨M,O⟩
  ·subst e1 e2;refine⟨hw,B5 _ _ _,?_,xs,?_,Y⟩
   ·intro g N hf;change (upN ρ.rv id v' id).ownBlock=some g at N;rw[B5]at N;exact Nat.lt_irrefl _ (du (h.fs g hf) (D g N))
   simp_all [upN]
  obtain⟨h1,h2,h0,ys,h3,h4⟩:=h.ro id q O;refine⟨h1,by simp_all [upN],by simp_all [upN],ys,?_,h4.mono (λb hb=>hb) (λb hb=>hold b (h.ib b hb).1)⟩;show Fv w' q.ty q.w (upN ρ.rv d v' id) q.n ys;rw[CW _ _ _ M];exact OA h3 λg N=>hold g (h.rwlt O N).2
 ·intro id id' q q' g O a5 N I;change (upN ρ.rv d v' id).ownBlock=_ at N;change (upN ρ.rv d v' id').ownBlock=_ at I;rcases L id q O with⟨e1,_⟩|⟨M,U⟩<;>rcases L id' q' a5 with⟨e2,_⟩|⟨V,X⟩
  ·omega
  ·rw[e1,B5]at N;rw[CW _ _ _ V]at I;have:=D g N;have:=(h.rwlt X I).2;omega
  ·rw[e2,B5]at I;rw[CW _ _ _ M]at N;have:=D g I;have:=(h.rwlt U N).2;omega
  rw[CW _ _ _ M]at N;rw[CW _ _ _ V]at I;exact h.ri id id' q q' g U X N I
 ·intro k b id q G O he;change (upN ρ.rv d v' id).ownBlock=some (ρ.bx k)at he;rcases L id q O with⟨e1,_⟩|⟨M,U⟩
  ·rw[e1,B5]at he;have:=D _ he;have:=h.bxlt G;omega
  rw[CW _ _ _ M]at he;exact h.br k b id q G U he
 ·intro b a6;obtain⟨h1,h2,h3⟩:=h.ib b a6;refine⟨du h1 hb.size,h2,λid q O he=> ?_⟩;change (upN ρ.rv d v' id).ownBlock=some b at he
  grind [B5,CW]
 ·exact h.fr.trans (Fr.of_below hb h.fs)
 exact λk G=>du (h.fs k G) hb.size
def AC.free (id:Nat):AC->Prop
 | .own j _ _=>j≠id
 | .rptr j _ _=>j≠id
 |_=>True
def TV.free (id:Nat):TV->Prop
 | .v _ cs=>∀a∈cs,AC.free id a
 | .tup ps=>∀p∈ps,∀a∈p.2,AC.free id a
 | .vD=>True
def TVR.mono2 {ρ M:Env} {w w':World} {v:TV} {Q:AC->Prop} (G:∀(a:AC) (x:Value),Q a->CC ρ w a x->CC M w' a x)
  (N:match v with| .v _ cs=>∀a∈cs,Q a| .tup ps=>∀p∈ps,∀a∈p.2,Q a| .vD=>True) {x:Value} (h:TVR ρ w v x):TVR M w' v x:=by
 have O:∀{l xs},(∀a∈l,Q a)->CL (CC ρ w) l xs->CL (CC M w') l xs:=λU h=>h.mono λa V x X=>G a x (U a V) X;cases v with
 |vD=>trivial
 |v g cs=>
  cases g
  ·obtain⟨a,I,D⟩:=h;subst I;exact⟨a,rfl,G a _ (N a (by simp)) D⟩
  obtain⟨L,I,D⟩:=h;exact⟨L,I,O N D⟩
 |tup ps=>
  obtain⟨L,I,D⟩:=h;refine⟨L,I,?_⟩;generalize L.toList=l at D;induction ps generalizing l with
  |nil=>cases l<;>first|exact D|exact D.elim
  |cons p ps Y=>
   cases l with
   |nil=>exact D.elim
   |cons y l=>
    obtain⟨g,cs⟩:=p;refine⟨?_,Y (λq hq=>N q (by grind)) l D.2⟩;have:=D.1;cases g
    ·obtain⟨a,q1,q2⟩:=this;simp_all
    obtain⟨L,q1,q2⟩:=this;simp_all
def RelE.turnRow (h:RelE Z tm aB aC ρ tmps w) {id:Nat} {r:Row} (hid:Ab aC id=some r) {r':Row} {v':Value} {xs:List Value} {w':World} (hg:w.grownBy w' (ρ.rv id).ownBlock)
  (hw:r'.w=r.w) (b3:Fv w' r'.ty r'.w v' r'.n xs) (a4:RowC ρ.im w' r'.ks r'.l xs) (a0:v'.ownBlock=(ρ.rv id).ownBlock\/∀g,v'.ownBlock=some g->w.heap.size<=g)
  (a5:(v'=ρ.rv id/\r'.n=r.n)\/((∀v∈tm,TV.free id v)/\∀(k:Nat) (b:Box),Ab aB k=some b->∀a∈b.cells,AC.free id a)):
  RelE Z tm aB (upd aC id r') {ρ with rv:=upN ρ.rv id v'} tmps w':=by
 have O:∀(k:Nat) (q:Row),Ab (upd aC id r') k=some q->(k=id/\q=r')\/(k≠id/\Ab aC k=some q):=by
  intro k q L;by_cases a9:k=id
  ·subst a9;rw[E4 _ _ _ _ hid]at L;grind
  grind [Dv]
 have b0:∀b,ρ.im b->some b≠(ρ.rv id).ownBlock:=λb hb e=>(h.ib b hb).2.2 id r hid e.symm;have a1:∀b,ρ.im b->w'.heap[b]? =w.heap[b]? :=λb hb=>hg.block b (h.ib b hb).1 (b0 b hb)
 let Q:AC->Prop:=λa=>AC.wf aB aC a/\((v'=ρ.rv id/\r'.n=r.n)\/AC.free id a)
 have a3:∀a,Q a->AC.wf aB (upd aC id r') a:=by
  rintro a ⟨G,X⟩;cases a with
  |ptr=>exact G
  |own j w1 n1=>
   obtain⟨q,q1,q2,q3⟩:=G;by_cases hj:j=id
   ·subst hj;rcases X with⟨_,hn⟩|hf
    ·rw[hid]at q1;simp at q1;subst q1;exact⟨r',E4 _ _ _ _ hid,by omega,by omega⟩
    exact absurd rfl hf
   exact⟨q,by grind [Dv],q2,q3⟩
  |rptr j i1 s1=>
   obtain⟨q,q1,q2⟩:=G;by_cases hj:j=id
   ·subst hj;rcases X with⟨_,hn⟩|hf
    ·rw[hid]at q1;simp at q1;subst q1;exact⟨r',E4 _ _ _ _ hid,by omega⟩
    exact absurd rfl hf
   exact⟨q,by grind [Dv],q2⟩
  |vptr=>exact G
  |clo=>exact G
  |_=>trivial
 have a6:∀(a:AC) (x:Value),Q a->CC ρ w a x->CC {ρ with rv:=upN ρ.rv id v'} w' a x:=by
  rintro a x ⟨_,X⟩ hx;refine CC.mono (ρ:=ρ) (ρ':={ρ with rv:=upN ρ.rv id v'}) (λb hb=>hb) a1 a x ?_ hx;have key:∀j,((v'=ρ.rv id/\r'.n=r.n)\/j≠id)->upN ρ.rv id v' j=ρ.rv j:=by
   intro j hj;by_cases b4:j=id
   ·simp_all [B5]
   grind [CW]
  cases a with
  |own j _ _=>exact⟨key j X,rfl⟩
  |rptr j _ _=>exact⟨key j X,rfl⟩
  |ptr=>rfl
  |clo f fs cs=>exact⟨λa _=>by cases a<;>first|rfl|trivial,λa _=>by cases a<;>first|rfl|trivial⟩
  |_=>trivial
 have a7:∀v∈tm,match v with| .v _ cs=>∀a∈cs,Q a| .tup ps=>∀p∈ps,∀a∈p.2,Q a| .vD=>True:=by
  intro v hv;have h1:=h.wt v hv;have h2:(v'=ρ.rv id/\r'.n=r.n)\/TV.free id v:=R6 a5 (λx=>x) λx=>x.1 v hv;cases v with
  |vD=>trivial
  |v g cs=>exact λa G=>⟨h1 a G,R6 h2 (λx=>x) λx=>x a G⟩
  |tup ps=>exact λp hp a G=>⟨h1 p hp a G,R6 h2 (λx=>x) λx=>x p hp a G⟩
 have a8:∀(k:Nat) (b:Box),Ab aB k=some b->∀a∈b.cells,Q a:=λk b L a G=>⟨h.wb k b L a G,R6 a5 (λx=>x) λx=>x.2 k b L a G⟩;have U:∀g,v'.ownBlock=some g->(ρ.rv id).ownBlock=some g\/w.heap.size<=g:=by
  intro g e;rcases a0 with hp|hp
  ·grind
  grind
 refine⟨h.tl,λi v hi=>TVR.mono2 a6 (a7 v (df hi)) (h.tv i v hi),λv hv=> ?_,λk b L a G=>a3 a (a8 k b L a G),?_,h.bi,?_,?_,?_,?_,?_,?_,h.i0,h.i1,λk b L=>h.k0 k b L⟩
 ·have:=a7 v hv;cases v with
  |vD=>trivial
  |v g cs=>exact λa G=>a3 a (this a G)
  |tup ps=>exact λp hp a G=>a3 a (this p hp a G)
 ·intro k b L;obtain⟨ar,h1,h2,h3⟩:=h.bx k b L;refine⟨ar,?_,h2.mono λa G x hx=>a6 a x (a8 k b L a G) hx,h3⟩;rw[hg.block _ (Yeu h1) (λe=>h.br k b id r L hid e.symm)];exact h1
 ·intro j q X;rcases O j q X with⟨e1,e2⟩|⟨N,I⟩
  ·subst e1 e2;obtain⟨q1,q2,q0,_⟩:=h.ro j r hid;refine⟨by omega,by grind,?_,xs,?_,a4⟩
   ·intro g V hf;change (upN ρ.rv j v' j).ownBlock=some g at V;rw[B5]at V;rcases U g V with hn|hn
    ·grind
    exact Nat.lt_irrefl _ (du (h.fs g hf) hn)
   simp_all [upN]
  obtain⟨h1,h2,h0,ys,h3,h4⟩:=h.ro j q I;refine⟨h1,h2,by simp_all [upN],ys,?_,h4.mono (λb hb=>hb) a1⟩;show Fv w' q.ty q.w (upN ρ.rv id v' j) q.n ys;rw[CW _ _ _ N];exact OA h3 λg V=>hg.block g (h.rwlt I V).2 (λe=>N (h.ri j id q r g I hid V e.symm))
 ·intro j j' q q' g X b1 M D;change (upN ρ.rv id v' j).ownBlock=_ at M;change (upN ρ.rv id v' j').ownBlock=_ at D;rcases O j q X with⟨e1,_⟩|⟨N,I⟩<;>rcases O j' q' b1 with⟨e2,_⟩|⟨a2,Y⟩
  ·omega
  ·rw[e1,B5]at M;rw[CW _ _ _ a2]at D;rcases U g M with hn|hn
   ·rw[e1];exact(h.ri j' id q' r g Y hid D hn).symm
   have:=(h.rwlt Y D).2;omega
  ·rw[e2,B5]at D;rw[CW _ _ _ N]at M;rcases U g D with hn|hn
   ·rw[e2];exact h.ri j id q r g I hid M hn
   have:=(h.rwlt I M).2;omega
  rw[CW _ _ _ N]at M;rw[CW _ _ _ a2]at D;exact h.ri j j' q q' g I Y M D
 ·intro k b j q L X he;change (upN ρ.rv id v' j).ownBlock=some (ρ.bx k)at he;rcases O j q X with⟨e1,_⟩|⟨N,I⟩
  ·rw[e1,B5]at he;rcases U _ he with hn|hn
   ·exact h.br k b id r L hid hn
   have:=h.bxlt L;omega
  rw[CW _ _ _ N]at he;exact h.br k b j q L I he
 ·intro b b2;obtain⟨h1,h2,h3⟩:=h.ib b b2;refine⟨du h1 hg.size,h2,λj q X he=> ?_⟩;change (upN ρ.rv id v' j).ownBlock=some b at he
  grind [B5,CW]
 ·refine h.fr.grown hg h.fs λg e=>(h.rwlt hid e).1
 exact λk L=>du (h.fs k L) hg.size
end
open Go.RowKit
def Em (F:Nat->Prop) (w:World) (ρ:Env) (aB:List (Nat×Box)) (D:Gt F w):Base:=⟨F,w,ρ.im,λk=>(Ab aB k).map λ_=>ρ.bx k,D⟩
def PCallM (P:Program) (f:FuncId) (args:List TV) (mem:Mem) (v:TV) (mem':Mem):Prop:=
 ∀{F:Nat->Prop} {w:World} {D:Gt F w} (ρ:Env) (xs:List Value),RelE (Em F w ρ mem.aB D) args mem.aB mem.aC ρ xs.toArray w->
  Calls P f xs.toArray w λe w'=>∃(x:Value) (G:Env),e= .returned x/\RelE (Em F w ρ mem.aB D) [v] mem'.aB mem'.aC G #[x] w'
def Pr (P:Program) (f:FuncId):Prop:=∃fn,P.funcs[f]? =some fn/\(fn.name== "runtime.NumGoroutine")=false/\fn.body.isNone=false
def CallsX (P:Program) (f:FuncId) (xs:Array Value) (w:World) (R:Ending->World->Prop):Prop:=
 (Pr P f/\Calls P f xs w R)\/∃x w',(callFunc f xs).run P w= .ok (.value x) w'/\R (.returned x) w'
theorem CallsX.mono {P:Program} {f:FuncId} {xs:Array Value} {w:World} {R R':Ending->World->Prop} (h:CallsX P f xs w R) (I:∀e w',R e w'->R' e w'):CallsX P f xs w R':=by
 rcases h with⟨D,G⟩|⟨x,w',D,G⟩
 ·exact .inl ⟨D,G.mono I⟩
 exact .inr ⟨x,w',D,I _ _ G⟩
def Qdk (P:Program) (f:FuncId) (args:List TV) (mem:Mem) (v:TV) (mem':Mem):Prop:=
 ∀{F:Nat->Prop} {w:World} {D:Gt F w} (ρ:Env) (xs:List Value),RelE (Em F w ρ mem.aB D) args mem.aB mem.aC ρ xs.toArray w->
  CallsX P f xs.toArray w λe w'=>∃(x:Value) (G:Env),e= .returned x/\RelE (Em F w ρ mem.aB D) [v] mem'.aB mem'.aC G #[x] w'
theorem PCallM.x {P:Program} {f:FuncId} {args:List TV} {mem:Mem} {v:TV} {mem':Mem} (h:PCallM P f args mem v mem') (D:Pr P f):Qdk P f args mem v mem':=
 λρ xs G=> .inl ⟨D,h ρ xs G⟩
structure SpecRight (P : Program) (f : FuncId) (g : Spec) : Prop where
 nat:∀(R:Type) (args:List TV) (mem:Mem) (K:TV->Mem->Option R),g R args mem K=(g (TV×Mem) args mem λv m=>some (v,m)).bind λp=>K p.1 p.2
 ok:∀(args:List TV) (mem:Mem) (v:TV) (mem':Mem),(g (TV×Mem) args mem λv m=>some (v,m))=some (v,mem')->Qdk P f args mem v mem'
def Ww (g:Spec):Prop:=∀(args:List TV) (mem:Mem) (v:TV) (m:Mem),(g (TV×Mem) args mem λv m=>some (v,m))=some (v,m)->m=mem
def P1 (P:Program) (f:FuncId) (g:Spec):Prop:=
 ∀(args:List TV) (mem:Mem) (v:TV) (mem':Mem),(g (TV×Mem) args mem λv m=>some (v,m))=some (v,mem')->
  ∀{F:Nat->Prop} {w:World} {D:Gt F w} (ρ:Env) (xs:List Value),RelE (Em F w ρ mem.aB D) args mem.aB mem.aC ρ xs.toArray w->
   CallsX P f xs.toArray w λe w'=>∃(x:Value) (G:Env),e= .returned x/\RelE (Em F w ρ mem.aB D) [v] mem'.aB mem'.aC G #[x] w'/\G.rv base=ρ.rv base
def AK (P:Program) (C:Cfg):Prop:=
 (∀(f:FuncId) (g:Spec),C.spec f=some g->SpecRight P f g)/\(∀(f:FuncId) (g:Spec),C.spec f=some g->C.ro f=true->Ww g)/\∀(f:FuncId) (g:Spec),C.spec f=some g->C.keepR f=true->P1 P f g
def SpecRight.run2 {P:Program} {f:FuncId} {g:Spec} (h:SpecRight P f g) {R:Type} {args:List TV} {mem:Mem} {K:TV->Mem->Option R} {r:R} (D:g R args mem K=some r):
  ∃v mem',K v mem'=some r/\(g (TV×Mem) args mem λv m=>some (v,m))=some (v,mem'):=by grind [h.nat,Option.bind_eq_some_iff]
def SpecRight.run {P:Program} {f:FuncId} {g:Spec} (h:SpecRight P f g) {R:Type} {args:List TV} {mem:Mem} {K:TV->Mem->Option R} {r:R} (D:g R args mem K=some r):
  ∃v mem',K v mem'=some r/\Qdk P f args mem v mem':=by
 rw[h.nat]at D;simp only[bp]at D;obtain⟨⟨v,m⟩,G,I⟩:=D;exact⟨v,m,I,h.ok args mem v m G⟩
def Prim.wf (aB:List (Nat×Box)) (aC:List (Nat×Row)):Prim->Prop
 | .val v=>TV.wf aB aC v
 | .load _ _ key _=>∃b,Ab aB key=some b
 | .store key _ cs=>(∃b,Ab aB key=some b)/\∀a∈cs,AC.wf aB aC a
 | .new _ cs=>∀a∈cs,AC.wf aB aC a
 | .newS _ _ cs=>∀a∈cs,AC.wf aB aC a
 | .rload _ _ id idx _=>∃r,Ab aC id=some r/\idx<r.n
 | .rstore id idx _ _=>∃r,Ab aC id=some r/\idx<r.n
 | .append _ _ _ s x=>AC.wf aB aC s/\AC.wf aB aC x
 | .appD _ _ _ s x=>AC.wf aB aC s/\AC.wf aB aC x
 | .call _ args=>∀v∈args,TV.wf aB aC v
 | .callM _ args=>∀v∈args,TV.wf aB aC v
 | .callF _ args=>∀v∈args,TV.wf aB aC v
 | .callD _ args=>∀v∈args,TV.wf aB aC v
 |_=>True
section
variable {P:Program} {C:Cfg} {ρ:Env} {w:World} {R:Type} {Z:Base} {tm:List TV} {aB:List (Nat×Box)} {aC:List (Nat×Row)} {tmps:Array Value}
theorem FM {α β:Type} (g:α->β):∀(l:List (Nat×α)) (k:Nat),Ab (l.map λp=>(p.1,g p.2)) k=(Ab l k).map g
 |[],_=>rfl
 |(j,b)::l,k=>by
  simp only[bz,Ab,FM g l k]
  grind
theorem AC.kill_wf {id:Nat} {a:AC} (h:AC.wf aB aC a):AC.wf aB aC (a.kill id):=by
 cases a with
 |own j w n=>simp only[AC.kill];cases Nat.beq j id<;>first|exact h|trivial
 |rptr j i s=>simp only[AC.kill];cases Nat.beq j id<;>first|exact h|trivial
 |_=>exact h
theorem AC.kill_free (id:Nat) (a:AC):AC.free id (a.kill id):=by
 cases a with
 |own j w n=>
  simp only[AC.kill];cases hb:Nat.beq j id
  ·exact λe=>by simp_all
  trivial
 |rptr j i s=>
  simp only[AC.kill];cases hb:Nat.beq j id
  ·exact λe=>by simp_all
  trivial
 |_=>trivial
theorem AC.kill_CC {id:Nat} {a:AC} {x:Value} (h:CC ρ w a x):CC ρ w (a.kill id) x:=by
 cases a with
 |own j w n=>simp only[AC.kill];cases Nat.beq j id<;>first|exact h|exact h.one
 |rptr j i s=>simp only[AC.kill];cases Nat.beq j id<;>first|exact h|exact h.one
 |_=>exact h
theorem CL.kill {id:Nat}:∀{l:List AC} {xs:List Value},CL (CC ρ w) l xs->CL (CC ρ w) (l.map (AC.kill id)) xs
 |[],[],_=>trivial
 |_::_,_::_,h=>⟨AC.kill_CC h.1,CL.kill h.2⟩
 |[],_::_,h=>h.elim
 |_::_,[],h=>h.elim
def TV.kill_TVR {id:Nat} {v:TV} {x:Value} (h:TVR ρ w v x):TVR ρ w (v.kill id) x:=by
 cases v with
 |vD=>trivial
 |tup ps=>
  obtain⟨G,rfl,D⟩:=h;refine⟨G,rfl,?_⟩;generalize G.toList=l at D;induction ps generalizing l with
  |nil=>grind
  |cons p ps L=>
   cases l with
   |nil=>exact D.elim
   |cons y l=>
    obtain⟨g,cs⟩:=p;refine⟨?_,L l D.2⟩;have:=D.1;cases g
    ·obtain⟨a,M,I⟩:=this;simp_all [AC.kill_CC]
    obtain⟨O,M,N⟩:=this;grind [N.kill]
 |v g cs=>
  cases g
  ·obtain⟨a,rfl,I⟩:=h;exact⟨_,rfl,AC.kill_CC I⟩
  obtain⟨G,rfl,D⟩:=h;exact⟨G,rfl,D.kill⟩
theorem TV.kill_wf {id:Nat} {v:TV} (h:TV.wf aB aC v):TV.wf aB aC (v.kill id):=by
 cases v with
 |v g cs=>
  intro a D;simp only[bj]at D;obtain⟨b,hb,rfl⟩:=D;exact AC.kill_wf (h b hb)
 |tup ps=>
  intro p G a D;simp only[bj]at G;obtain⟨q,I,rfl⟩:=G;simp only[bj]at D;obtain⟨b,hb,rfl⟩:=D;exact AC.kill_wf (h q I b hb)
 |_=>trivial
theorem TV.kill_free (id:Nat) (v:TV):TV.free id (v.kill id):=by
 cases v with
 |v g cs=>
  intro a D
  grind [AC.kill_free]
 |tup ps=>
  intro p G a D
  grind [AC.kill_free]
 |_=>trivial
theorem RelE.kill (h:RelE Z tm aB aC ρ tmps w) (id:Nat):
  RelE Z (tm.map (TV.kill id)) (aB.map λp=>(p.1,p.2.kill id)) aC ρ tmps w:=by
 have M:∀k,Ab (aB.map λp=>(p.1,p.2.kill id)) k=(Ab aB k).map (Box.kill id):=λk=>FM (Box.kill id) aB k;have D:∀(k:Nat) (b:Box),Ab (aB.map λp=>(p.1,p.2.kill id)) k=some b->∃b',Ab aB k=some b'/\b=b'.kill id:=by
  intro k b G;rw[M]at G;cases hl:Ab aB k with
  |none=>grind
  |some b'=>grind
 have L:∀a,AC.wf aB aC a->AC.wf (aB.map λp=>(p.1,p.2.kill id)) aC a:=λa=>AC.wf_mono (λk b G=>⟨b.kill id,by grind⟩) (λk r G=>⟨r,G,rfl,rfl⟩);refine⟨by grind [h.tl],?_,?_,?_,?_,?_,h.ro,h.ri,?_,?_,h.fr,h.fs,h.i0,h.i1,?_⟩
 ·intro i v V;simp only[fq,dc]at V;obtain⟨u,N,rfl⟩:=V;exact TV.kill_TVR (h.tv i u N)
 ·intro v X;simp only[bj]at X;obtain⟨u,N,rfl⟩:=X;exact TV.wf_mono L (TV.kill_wf (h.wt u N))
 ·intro k b G a Y;obtain⟨b',I,rfl⟩:=D k b G;simp only[Box.kill,bj]at Y;obtain⟨c,hc,rfl⟩:=Y;exact L _ (AC.kill_wf (h.wb k b' I c hc))
 ·intro k b G;obtain⟨b',I,rfl⟩:=D k b G;obtain⟨arr,h1,h2,h3⟩:=h.bx k b' I;exact⟨arr,h1,h2.kill,h3⟩
 ·intro k k' b b' G O;obtain⟨_,U,_⟩:=D k b G;obtain⟨_,p2,_⟩:=D k' b' O;exact h.bi k k' _ _ U p2
 ·intro k b id' r G hr;obtain⟨_,U,_⟩:=D k b G;exact h.br k _ id' r U hr
 ·intro b hb;obtain⟨q1,q2,q3⟩:=h.ib b hb
  grind
 intro k b G;obtain⟨q1,bo,q2⟩:=h.k0 k b G
 grind
def Z4y {im:Nat->Prop} {ks:List Kd} {b o:Nat}:∀(l:List (List AC)),(∀c∈l,AX ks c=c)->CPss im w ks.length l b o->
  ∃D,RowC im w ks l D/\S5 w b o D:=by
 intro l L h;induction l generalizing o with
 |nil=>exact⟨[],⟨by simp,by simp,λi c M=>by grind⟩,λj y h=>by grind⟩
 |cons c l N=>
  rw[CPss]at h;obtain⟨D,⟨h1,h2,h3⟩,O⟩:=N (λc hc=>L c (by grind)) h.2;obtain⟨I,U,V⟩:=Qhm _ _ _ h.1.2;have X:I.length=ks.length:=by rw[<-U.length];exact h.1.1
  refine⟨I++D,⟨by grind,L,λi c' M=> ?_⟩,λj y G=> ?_⟩
  ·cases i with
   |zero=>simp_all [cut]
   |succ i=>simp_all [cut,jh,List.drop_append,List.drop_eq_nil_of_le]
  rw[f6]at G;split at G
  ·exact V j y G
  rename_i Y;have:=O (j-I.length) y G
  grind
def ZF {im:Nat->Prop} {ks:List Kd} {l:List (List AC)} {xs:List Value} {v:Value} {e:TypeId} (G:Fv w e ks.length v l.length xs) (D:RowC im w ks l xs)
  (M:∀g,v.ownBlock=some g->im g):CP im w (.vC ks l) v:=by
 rw[CP];rcases G.2 with⟨e1,e2⟩|⟨I,o,cap,cur,e1,e3,U,V,X,Y⟩
 ·grind
 refine⟨some ⟨I,o,none⟩,cap,e1,U,D.2.1, .inr ⟨I,o,rfl,M I (by rw[e1];rfl),U0 λi O=> ?_⟩⟩;have N:=D.2.2 i l[i] (an O);refine⟨?_,?_⟩
 ·rw[<-D.2.1 l[i] (dl O)];exact Qcl _ _
 refine X9 _ (cut xs (i*ks.length) ks.length) I _ N ?_;intro j y L;simp only[cut,gj]at L;split at L
 ·rw[fg]at L;have:=Sb G (g:=I) (by rw[e1];rfl) (i*ks.length+j) y L
  grind [H6]
 grind
theorem S4 {a:AC} {x:Value} {G:Env} {w':World} (I:a.plain=true) (h:CC ρ w a x) (D:CP ρ.im w a x->CP G.im w' a x):CC G w' a x:=by
 cases a<;>first|exact D h|grind [AC.plain]
theorem Q8v {ρ2:Env} {v:TV} {x:Value} {w':World} (I:v.plainB=true) (G:∀(a:AC) (x:Value),a.plain=true->CP ρ.im w a x->CP ρ2.im w' a x) (h:TVR ρ w v x):TVR ρ2 w' v x:=by
 have V:∀{l:List AC} {xs:List Value},Al AC.plain l=true->CL (CC ρ w) l xs->CL (CC ρ2 w') l xs:=λU h=>h.mono λa L x X=>S4 (Au.1 U a L) X (G a x (Au.1 U a L));cases v with
 |vD=>trivial
 |v g cs=>
  cases g
  ·obtain⟨a,rfl,L⟩:=h;exact⟨a,rfl,S4 (Au.1 I a (by simp)) L (G a x (Au.1 I a (by simp)))⟩
  obtain⟨N,rfl,D⟩:=h;exact⟨N,rfl,V I D⟩
 |tup ps=>
  obtain⟨N,rfl,D⟩:=h;refine⟨N,rfl,?_⟩;generalize N.toList=l at D;simp only[TV.plainB]at I;induction ps generalizing l with
  |nil=>cases l<;>first|exact D|exact D.elim
  |cons p ps Y=>
   cases l with
   |nil=>exact D.elim
   |cons y l=>
    obtain⟨g,cs⟩:=p;have M:=Au.1 I (g,cs) (by simp);have O:Al (λp:Bool×List AC=>Al AC.plain p.2) ps=true:=Au.2 λq hq=>Au.1 I q (by grind);refine⟨?_,Y O l D.2⟩;have:=D.1;cases g
    ·obtain⟨a,h1,L⟩:=this;subst h1;exact⟨a,rfl,S4 (Au.1 M a (by simp)) L (G a y (Au.1 M a (by simp)))⟩
    grind
theorem Qvi {im D:Nat->Prop} {w w':World} {a:AC} {x:Value} (hf:a.flat=true) (h:CP im w a x):CP D w' a x:=by
 cases a<;>simp only[CP,AC.flat]at* <;>first|exact h|grind
def Zzk {L:Env} {v:TV} {x:Value} {w':World} (hf:v.flat=true) (h:TVR ρ w v x):TVR L w' v x:=by
 have O:∀{l:List AC} {xs:List Value},Al AC.flat l=true->CL (CC ρ w) l xs->CL (CC L w') l xs:=λN h=>h.mono λa G x hx=>by
  have:=Au.1 N a G;have U:a.plain=true:=by cases a<;>first|rfl|grind [AC.flat]
  grind [S4,Qvi]
 have V:∀{a:AC} {x:Value},a.flat=true->CC ρ w a x->CC L w' a x:=fun{a x} N h=>by
  have U:a.plain=true:=by cases a<;>first|rfl|grind [AC.flat]
  grind [S4,Qvi]
 cases v with
 |vD=>trivial
 |v g cs=>
  cases g
  ·obtain⟨a,rfl,G⟩:=h;exact⟨a,rfl,V (Au.1 hf a (by simp)) G⟩
  obtain⟨I,rfl,D⟩:=h;exact⟨I,rfl,O hf D⟩
 |tup ps=>
  obtain⟨I,rfl,D⟩:=h;refine⟨I,rfl,?_⟩;generalize I.toList=l at D;simp only[TV.flat]at hf;induction ps generalizing l with
  |nil=>cases l<;>first|exact D|exact D.elim
  |cons p ps X=>
   cases l with
   |nil=>exact D.elim
   |cons y l=>
    obtain⟨g,cs⟩:=p;have Y:=Au.1 hf (g,cs) (by simp);have M:Al (λp:Bool×List AC=>Al AC.flat p.2) ps=true:=Au.2 λq hq=>Au.1 hf q (by grind);refine⟨?_,X M l D.2⟩;have:=D.1;cases g
    ·obtain⟨a,q1,G⟩:=this;simp_all [Au]
    grind
theorem JW {v:TV} (h:v.plainB=true):TV.wf aB aC v:=by
 have D:∀{l:List AC},Al AC.plain l=true->∀a∈l,AC.wf aB aC a:=λh a G=>by
  have:=Au.1 h a G;cases a<;>first|trivial|(simp[AC.plain]at this)
 cases v with
 |vD=>trivial
 |v g cs=>exact D h
 |tup ps=>exact λp I=>D (Au.1 h p I)
def Zoh {im:Nat->Prop} {a:AC} {x:Value} (h:CP im w a x):AC.wf aB aC a:=by
 cases a<;>first|trivial|(simp[CP]at h)
def Zvq {im:Nat->Prop} {l:List AC} {xs:List Value} (h:CL (CP im w) l xs):∀a∈l,AC.wf aB aC a:=by
 induction l generalizing xs with
 |nil=>simp
 |cons b l G=>
  cases xs with
  |nil=>exact h.elim
  |cons y xs=>
   intro a D;simp only[be]at D;rcases D with rfl|D
   ·exact Zoh h.1
   exact G h.2 a D
def Zpk {X:Env} (O:∀(a L:AC) (x:Value),a.res aC=some L->CC ρ w a x->AC.wf aB aC a->CC X w L x) {v Y:TV} {x:Value} (V:v.res aC=some Y) (hw:TV.wf aB aC v) (h:TVR ρ w v x):TVR X w Y x:=by
 have hl:∀(cs G:List AC) (xs:List Value),EV aC cs=some G->(∀a∈cs,AC.wf aB aC a)->CL (CC ρ w) cs xs->CL (CC X w) G xs:=by
  intro cs;induction cs with
  |nil=>intro G xs I _ N;simp[EV]at I;subst I;cases xs<;>first|exact N|exact N.elim
  |cons a cs ih=>
   intro G xs I U N;cases xs with
   |nil=>exact N.elim
   |cons y xs=>
    simp only[EV]at I;split at I
    ·rename_i L M;split at I
     ·rename_i l' D;simp at I;subst I;exact⟨O a L y M N.1 (U a (by simp)),ih _ _ D (λb hb=>U b (by grind)) N.2⟩
     grind
    grind
 cases v with
 |vD=>grind [TV.res]
 |tup ps=>grind [TV.res]
 |v g cs=>
  simp only[TV.res]at V;split at V
  ·rename_i l D;simp at V;subst V;cases g
   ·obtain⟨a,rfl,ha⟩:=h;simp only[EV]at D;split at D
    ·rename_i L M;simp at D;subst D;exact⟨L,rfl,O a L x M ha (hw a (by simp))⟩
    grind
   obtain⟨ys,rfl,hy⟩:=h;exact⟨ys,rfl,hl _ _ _ D hw hy⟩
  grind
theorem Z5c {a D:AC} (h:a.res aC=some D):D.plain=true:=by
 cases a<;>simp only[AC.res]at h<;>try (simp at h;done)
 case own=>split at h<;>simp at h;subst h;rfl
 all_goals (simp at h;subst h;rfl)
def Qoq:∀{l G:List AC},EV aC l=some G->Al AC.plain G=true
 |[],G,h=>by simp[EV]at h;subst h;rfl
 |a::l,G,h=>by
  simp only[EV]at h;split at h
  ·rename_i M I;split at h
   ·rename_i L D;simp at h;subst h;simp only[Al,Z5c I,am];exact Qoq D
   grind
  grind
def Qlu:∀{l G:List TV},F1 aC l=some G->G.length=l.length/\∀(i:Nat) (L:TV),G[i]? =some L->L.plainB=true/\∃a,l[i]? =some a/\a.res aC=some L
 |[],G,h=>by simp_all [F1]
 |a::l,G,h=>by
  simp only[F1]at h;split at h
  ·rename_i L D;split at h
   ·rename_i M I;simp at h;subst h;obtain⟨O,U⟩:=Qlu I;refine⟨by grind,λi b hb=> ?_⟩;cases i with
    |zero=>
     simp at hb;subst hb;refine⟨?_,a,rfl,D⟩;cases a with
     |vD=>grind [TV.res]
     |tup=>grind [TV.res]
     |v g cs=>
      simp only[TV.res]at D;split at D
      ·rename_i q N;simp at D;subst D;exact Qoq N
      grind
    |succ i=>grind
   grind
  grind
end
open Go.RowKit
section
variable {P:Program} {C:Cfg} {ρ:Env} {w:World} {R:Type} {Z:Base} {tm:List TV} {aB:List (Nat×Box)} {aC:List (Nat×Row)} {tmps:Array Value}
theorem KS {a b:Nat} (h:a≠b):Nat.beq a b=false:=by grind [Nat.eq_of_beq_eq_true]
theorem Hh {a b:Nat} (h:Nat.beq a b=false):a≠b:=by rintro rfl;simp at h
theorem TVR.map {L:Env} {w':World} {g:AC->AC} {v:TV} (N:∀(a:AC) (x:Value),AC.wf aB aC a->CC ρ w a x->CC L w' (g a) x) (G:TV.wf aB aC v) {x:Value} (h:TVR ρ w v x):
    TVR L w' (v.mapC g) x:=by
  have U:∀{l:List AC} {xs:List Value},(∀a∈l,AC.wf aB aC a)->CL (CC ρ w) l xs->CL (CC L w') (l.map g) xs:=by
    intro l;induction l with
    |nil=>intro xs _ h;cases xs<;>first|exact h|exact h.elim
    |cons a l M=>
      intro xs O h;cases xs with
      |nil=>exact h.elim
      |cons y xs=>exact⟨N a y (O a (by simp)) h.1,M (λb hb=>O b (by grind)) h.2⟩
  cases v with
  |vD=>trivial
  |v b cs=>
    cases b
    · obtain⟨a,rfl,V⟩:=h;exact⟨g a,rfl,N a x (G a (by simp)) V⟩
    obtain⟨I,rfl,D⟩:=h;exact⟨I,rfl,U G D⟩
  |tup ps=>
    obtain⟨I,rfl,D⟩:=h;refine⟨I,rfl,?_⟩;generalize I.toList=l at D;induction ps generalizing l with
    |nil=>cases l<;>first|exact D|exact D.elim
    |cons p ps M=>
      cases l with
      |nil=>exact D.elim
      |cons y l=>
        obtain⟨b,cs⟩:=p;refine⟨?_,M (λq Y=>G q (by grind)) l D.2⟩;have h1:=D.1;have X:=G (b,cs) (by simp);cases b
        · grind
        grind
def CL.mapg {D:Env} {w':World} {g:AC->AC}:∀{l:List AC} {xs:List Value},(∀(a:AC) (x:Value),AC.wf aB aC a->CC ρ w a x->CC D w' (g a) x)->(∀a∈l,AC.wf aB aC a)->CL (CC ρ w) l xs->CL (CC D w') (l.map g) xs
  |[],[],_,_,h=>h
  |a::l,y::xs,G,I,h=>⟨G a y (I a (by simp)) h.1,CL.mapg G (λb hb=>I b (by grind)) h.2⟩
  |[],_::_,_,_,h=>h.elim
  |_::_,[],_,_,h=>h.elim
def TV.wf_map {D:List (Nat×Box)} {G:List (Nat×Row)} {g:AC->AC} {v:TV} (M:∀a,AC.wf aB aC a->AC.wf D G (g a)) (N:TV.wf aB aC v):
    TV.wf D G (v.mapC g):=by
  cases v with
  |vD=>trivial
  |v b cs=>
    intro a I;simp only[bj]at I;obtain⟨c,L,rfl⟩:=I;exact M c (N c L)
  |tup ps=>
    intro p O a I;simp only[bj]at O;obtain⟨q,U,rfl⟩:=O;simp only[bj]at I;obtain⟨c,L,rfl⟩:=I;exact M c (N q U c L)
theorem TV.fz_eq (id:Nat) (ks:List Kd) (l:List (List AC)) (v:TV):v.fz id ks l=v.mapC (AC.fz id ks l):=by rfl
def RelE.freeze (h:RelE Z tm aB aC ρ tmps w) {id:Nat} {r:Row} (hid:Ab aC id=some r):
    RelE Z (tm.map (TV.fz id r.ks r.l)) (aB.map λp=>(p.1,p.2.fz id r.ks r.l)) (del id aC) {ρ with im:=λb=>ρ.im b\/(ρ.rv id).ownBlock=some b} tmps w:=by
  have a1:∀k,Ab (aB.map λp=>(p.1,p.2.fz id r.ks r.l)) k=(Ab aB k).map (Box.fz id r.ks r.l):=λk=>FM (Box.fz id r.ks r.l) aB k;have D:∀(k:Nat) (b:Box),Ab (aB.map λp=>(p.1,p.2.fz id r.ks r.l)) k=some b->∃b',Ab aB k=some b'/\b=b'.fz id r.ks r.l:=by
    intro k b G;rw[a1]at G;cases hl:Ab aB k with
    |none=>grind
    |some b'=>grind
  have L:∀(k:Nat) (b:Box),Ab aB k=some b->∃b',Ab (aB.map λp=>(p.1,p.2.fz id r.ks r.l)) k=some b':=λk b G=>⟨b.fz id r.ks r.l,by grind⟩;obtain⟨q1,q2,q0,xs,q3,q4⟩:=h.ro id r hid;have U:CP (λb=>ρ.im b\/(ρ.rv id).ownBlock=some b) w (.vC r.ks r.l) (ρ.rv id):=
    ZF q3 (q4.mono (λ_ h=> .inl h) (λ_ _=>rfl)) (λg hg=> .inr hg)
  have Y:∀(a:AC) (x:Value),AC.wf aB aC a->CC ρ w a x->CC {ρ with im:=λb=>ρ.im b\/(ρ.rv id).ownBlock=some b} w (a.fz id r.ks r.l) x:=by
    intro a x _ hx;have V:CC {ρ with im:=λb=>ρ.im b\/(ρ.rv id).ownBlock=some b} w a x:=CC.mono (ρ:=ρ) (ρ':={ρ with im:=λb=>ρ.im b\/(ρ.rv id).ownBlock=some b}) (λ_ h=> .inl h) (λ_ _=>rfl) a x (AC.agree_refl rfl rfl rfl a) hx;cases a with
    |own j w1 n1=>
      simp only[AC.fz];cases hb:Nat.beq j id
      · exact V
      have:=ah hb;subst this
      obtain⟨c1,_,_⟩:=hx;subst c1;exact U
    |rptr j i1 s1=>
      simp only[AC.fz];cases hb:Nat.beq j id
      · exact V
      exact hx.one
    |_=>exact V
  have a0:∀a,AC.wf aB aC a->AC.wf (aB.map λp=>(p.1,p.2.fz id r.ks r.l)) (del id aC) (a.fz id r.ks r.l):=by
    intro a I;cases a with
    |ptr k o=>obtain⟨b,hb⟩:=I;exact L k b hb
    |bsl k o=>obtain⟨b,hb⟩:=I;exact L k b hb
    |own j w1 n1=>
      simp only[AC.fz];cases hb:Nat.beq j id
      · obtain⟨q,M,N⟩:=I
        exact⟨q,by grind [K7,Hh],N⟩
      trivial
    |rptr j i1 s1=>
      simp only[AC.fz];cases hb:Nat.beq j id
      · obtain⟨q,M,N⟩:=I
        exact⟨q,by grind [K7,Hh],N⟩
      trivial
    |vptr=>exact I
    |clo f fs cs=>exact⟨λa V=>AC.wfP_mono L (I.1 a V),λa V=>AC.wfP_mono L (I.2 a V)⟩
    |_=>trivial
  refine⟨by grind [h.tl],?_,?_,?_,?_,?_,?_,?_,?_,?_,h.fr,h.fs,λb hb=> .inl (h.i0 b hb),?_,?_⟩
  · intro i v hi
    simp only[fq,dc]at hi;obtain⟨u,hu,rfl⟩:=hi;rw[TV.fz_eq];exact TVR.map Y (h.wt u (df hu)) (h.tv i u hu)
  · intro v hv
    simp only[bj]at hv;obtain⟨u,hu,rfl⟩:=hv;rw[TV.fz_eq];exact TV.wf_map a0 (h.wt u hu)
  · intro k b G a I
    obtain⟨b',O,rfl⟩:=D k b G;simp only[Box.fz,bj]at I;obtain⟨c,hc,rfl⟩:=I;exact a0 _ (h.wb k b' O c hc)
  · intro k b G
    obtain⟨b',O,rfl⟩:=D k b G;obtain⟨arr,h1,h2,h3⟩:=h.bx k b' O;exact⟨arr,h1,CL.mapg Y (h.wb k b' O) h2,h3⟩
  · intro k k' b b' G a2
    obtain⟨_,M,_⟩:=D k b G;obtain⟨_,N,_⟩:=D k' b' a2;exact h.bi k k' _ _ M N
  · intro j q X
    obtain⟨a5,a3⟩:=NA X;obtain⟨M,N,p0,ys,p3,p4⟩:=h.ro j q a3;exact⟨M,N,p0,ys,p3,p4.mono (λ_ h=> .inl h) (λ_ _=>rfl)⟩
  · intro j j' q q' g X a4
    exact h.ri j j' q q' g (NA X).2 (NA a4).2
  · intro k b j q G X
    obtain⟨_,M,_⟩:=D k b G;exact h.br k _ j q M (NA X).2
  · rintro b (hb|hb)
    · obtain⟨M,N,p3⟩:=h.ib b hb
      grind [NA]
    refine⟨(h.rwlt hid hb).2,λk bo G e=> ?_,λj q X e=> ?_⟩
    · obtain⟨_,p,_⟩:=D k bo G
      exact h.br k _ id r p hid (by grind)
    have hd:=NA X
    exact hd.1 (h.ri j id q r b hd.2 hid e hb)
  · rintro b (hb|hb)
    · exact h.i1 b hb
    grind
  intro k b G
  obtain⟨M,bo,N⟩:=h.k0 k b G
  grind
theorem FE:∀{l:List Nat} {n:Nat},AV l n=true↔n∈l
  |[],n=>by simp[AV]
  |m::l,n=>by
    simp only[AV,be];cases h:Nat.beq m n
    · simp only[bn,FE (l:=l)]
      grind [Hh]
    simp_all
def Qc {α:Type}:∀{l:List (Nat×α)} {k:Nat} {b:α},Ab l k=some b->(k,b)∈l
  |[],_,_,h=>by grind [Ab]
  |(j,c)::l,k,b,h=>by
    simp only[Ab]at h;cases hb:Nat.beq j k<;>rw[hb]at h
    · simp only[bn]at h;exact fj _ (Qc h)
    simp_all
def UZ {α:Type} (q:Nat->Bool):∀{l:List (Nat×α)} {k:Nat} {b:α},Ab (l.filter λp=>q p.1) k=some b->Ab l k=some b/\q k=true
  |[],k,b,h=>by grind [Ab]
  |(j,c)::l,k,b,h=>by
    simp only[List.filter_cons]at h;cases D:q j
    · rw[D]at h
      simp only[j6,j8]at h;obtain⟨G,I⟩:=UZ q (l:=l) h
      grind [Ab,KS]
    rw[D]at h
    simp only[ig,Ab]at h⊢;cases hb:Nat.beq j k<;>rw[hb]at h
    · exact UZ q (l:=l) h
    simp_all
theorem KD {α:Type} (q:Nat->Bool):∀{l:List (Nat×α)} {k:Nat} {b:α},q k=true->Ab l k=some b->Ab (l.filter λp=>q p.1) k=some b
  |[],k,b,_,h=>by grind
  |(j,c)::l,k,b,D,h=>by
    simp only[List.filter_cons];simp only[Ab]at h;cases hb:Nat.beq j k<;>rw[hb]at h
    · simp only[bn]at h
      split
      · simp only[Ab,hb,bn];exact KD q D h
      exact KD q D h
    simp_all [Ab]
def AC.wf_filter {keys ids:List Nat} {a:AC} (D:AC.inK keys ids a=true) (G:AC.wf aB aC a):AC.wf (aB.filter λp=>AV keys p.1) (aC.filter λp=>AV ids p.1||D8 p.1) a:=by
  have N:∀l:List AC,Al (AC.inK.inP keys) l=true->(∀a∈l,AC.wfP aB a)->∀a∈l,AC.wfP (aB.filter λp=>AV keys p.1) a:=by
    intro l O U a G;have L:=Au.1 O a G;have M:=U a G;cases a<;>first|trivial|(obtain⟨b,hb⟩:=M;exact⟨b,KD (AV keys) L hb⟩)
  cases a with
  |ptr k o=>obtain⟨b,I⟩:=G;exact⟨b,KD (AV keys) D I⟩
  |bsl k o=>obtain⟨b,I⟩:=G;exact⟨b,KD (AV keys) D I⟩
  |own id V n=>obtain⟨q,L,M⟩:=G;exact⟨q,KD (λk=>AV ids k||D8 k) (by grind [AC.inK]) L,M⟩
  |rptr id i s1=>obtain⟨q,L,M⟩:=G;exact⟨q,KD (λk=>AV ids k||D8 k) (by grind [AC.inK]) L,M⟩
  |vptr=>exact G
  |clo f fs cs=>
    simp only[AC.inK,ak]at D;exact⟨N fs D.1 G.1,N cs D.2 G.2⟩
  |_=>trivial
def TV.wf_filter {keys ids:List Nat} {v:TV} (D:TV.inK keys ids v=true) (I:TV.wf aB aC v):TV.wf (aB.filter λp=>AV keys p.1) (aC.filter λp=>AV ids p.1||D8 p.1) v:=by
  cases v with
  |vD=>trivial
  |v g cs=>exact λa G=>AC.wf_filter (Au.1 D a G) (I a G)
  |tup ps=>exact λp L a G=>AC.wf_filter (Au.1 (Au.1 D p L) a G) (I p L a G)
def RelE.filter (h:RelE Z tm aB aC ρ tmps w) {keys ids:List Nat} {I:List TV} {D:Array Value} (N:I.length=D.size)
    (O:∀(i:Nat) (v:TV),I[i]? =some v->TVR ρ w v (D.getD i undef)) (U:∀v∈I,TV.wf aB aC v)
    (V:Al (TV.inK keys ids) I=true) (X:Al (λp:Nat×Box=>Al (AC.inK keys ids) p.2.cells) (aB.filter λp=>AV keys p.1)=true)
    (a2:∀k b,Z.K0 k=some b->AV keys k=true):
    RelE Z I (aB.filter λp=>AV keys p.1) (aC.filter λp=>AV ids p.1||D8 p.1) ρ D w:=by
  have hb:∀(k:Nat) (b:Box),Ab (aB.filter λp=>AV keys p.1) k=some b->Ab aB k=some b:=λk b G=>(UZ (AV keys) G).1;have M:∀(k:Nat) (b:Row),Ab (aC.filter λp=>AV ids p.1||D8 p.1) k=some b->Ab aC k=some b:=λk b G=>(UZ (λk=>AV ids k||D8 k) G).1;refine⟨N,O,λv hv=>TV.wf_filter (Au.1 V v hv) (U v hv),λk b G a ha=> ?_,λk b G=>h.bx k b (hb k b G),λk k' b b' G Y=>h.bi k k' b b' (hb k b G) (hb k' b' Y),
    λid q L=>h.ro id q (M id q L),λid id' q q' g L a0=>h.ri id id' q q' g (M id q L) (M id' q' a0),λk b id q G L=>h.br k b id q (hb k b G) (M id q L),λb a1=> ?_,h.fr,h.fs,h.i0,h.i1,λk b G=> ?_⟩
  · exact AC.wf_filter (Au.1 (Au.1 X (k,b) (Qc G)) a ha) (h.wb k b (hb k b G) a ha)
  · obtain⟨q1,q2,q3⟩:=h.ib b a1
    grind
  obtain⟨q1,bo,q2⟩:=h.k0 k b G
  simp_all [KD]
def RelE.lookB {D:List (Nat×Box)} {G:List (Nat×Row)} (h:RelE Z tm aB aC ρ tmps w) (hb:∀j,Ab aB j=Ab D j) (hr:∀j,Ab aC j=Ab G j):RelE Z tm D G ρ tmps w:=by
  have L:∀a,AC.wf aB aC a->AC.wf D G a:=λa=>AC.wf_mono (λk b I=>⟨b,by grind⟩) (λk r I=>⟨r,by grind,rfl,rfl⟩);refine⟨h.tl,h.tv,λv O=>TV.wf_mono L (h.wt v O),λk b I a U=>L a (h.wb k b (by grind) a U),λk b I=>h.bx k b (by grind),λk k' b b' I V=>h.bi k k' b b' (by grind) (by grind),
    λid q N=>h.ro id q (by grind),λid id' q X g N Y=>h.ri id id' q X g (by grind) (by grind),λk b id q I N=>h.br k b id q (by grind) (by grind),λb M=> ?_,h.fr,h.fs,h.i0,h.i1,λk b I=> ?_⟩
  · obtain⟨q1,q2,q3⟩:=h.ib b M
    grind
  obtain⟨q1,bo,q2⟩:=h.k0 k b I
  grind
def RelE.reBox (h:RelE Z tm aB aC ρ tmps w) {g:Nat->Box->Box} (X:∀k b,(g k b).ty=b.ty)
    (Y:∀(k:Nat) (b:Box),Ab aB k=some b->(∀(xs:List Value),CL (CC ρ w) b.cells xs->CL (CC ρ w) (g k b).cells xs)/\∀a∈(g k b).cells,AC.wf aB aC a):
    RelE Z tm (aB.map λp=>(p.1,g p.1 p.2)) aC ρ tmps w:=by
  have L:∀(l:List (Nat×Box)) k,Ab (l.map λp=>(p.1,g p.1 p.2)) k=(Ab l k).map (g k):=by
    intro l;induction l with
    |nil=>intro k;rfl
    |cons p l ih=>grind [Ab,Nat.eq_of_beq_eq_true]
  have D:∀(k:Nat) (b:Box),Ab (aB.map λp=>(p.1,g p.1 p.2)) k=some b->∃b',Ab aB k=some b'/\b=g k b':=by
    intro k b G;rw[L]at G;cases hl:Ab aB k with
    |none=>grind
    |some b'=>grind
  have M:∀(k:Nat) (b:Box),Ab aB k=some b->∃b',Ab (aB.map λp=>(p.1,g p.1 p.2)) k=some b':=λk b G=>⟨g k b,by grind⟩;have N:∀a,AC.wf aB aC a->AC.wf (aB.map λp=>(p.1,g p.1 p.2)) aC a:=λa=>AC.wf_mono M (λk r G=>⟨r,G,rfl,rfl⟩);refine⟨h.tl,h.tv,λv hv=>TV.wf_mono N (h.wt v hv),?_,?_,?_,h.ro,h.ri,?_,?_,h.fr,h.fs,h.i0,h.i1,?_⟩
  · grind
  · intro k b G
    obtain⟨b',O,rfl⟩:=D k b G;obtain⟨arr,h1,h2,h3⟩:=h.bx k b' O
    grind
  · intro k k' b b' G U
    obtain⟨_,I,_⟩:=D k b G;obtain⟨_,V,_⟩:=D k' b' U;exact h.bi k k' _ _ I V
  · intro k b j q G hq
    obtain⟨_,I,_⟩:=D k b G;exact h.br k _ j q I hq
  · intro b hb
    obtain⟨q1,q2,q3⟩:=h.ib b hb
    grind
  intro k b G
  obtain⟨I,bo,V⟩:=h.k0 k b G
  grind
theorem LN {w:World}:∀(ks:List Kd) (cs:List AC) (xs:List Value),CL (CC ρ w) cs xs->CL (CC ρ w) (DX ks cs) xs
  |[],cs,xs,h=>by cases cs<;>exact h
  | .sl ks::l,[],xs,h=>h
  | .int k::l,[],xs,h=>h
  | .bool::l,[],xs,h=>h
  | .raw::l,[],xs,h=>h
  |_::l,a::cs,[],h=>h.elim
  | .int _::l,a::cs,x::xs,h=>by simp only[DX];exact⟨h.1,LN l cs xs h.2⟩
  | .bool::l,a::cs,x::xs,h=>by simp only[DX];exact⟨h.1,LN l cs xs h.2⟩
  | .raw::l,a::cs,x::xs,h=>by simp only[DX];exact⟨h.1,LN l cs xs h.2⟩
  | .sl ks::l,a::cs,x::xs,h=>by
    cases a<;>simp only[DX]<;>first
      |exact⟨h.1,LN l cs xs h.2⟩
      | (refine ⟨?_, LN l cs xs h.2⟩
         have D:=h.1
         grind [CC,CP])
def O0:∀(ks:List Kd) (cs:List AC),(∀a∈cs,AC.wf aB aC a)->∀a∈DX ks cs,AC.wf aB aC a
  |[],cs,h=>by cases cs<;>exact h
  | .sl ks::l,[],h=>h
  | .int k::l,[],h=>h
  | .bool::l,[],h=>h
  | .raw::l,[],h=>h
  | .int _::l,a::cs,h=>by
    simp only[DX,be,i6]at h⊢;exact⟨h.1,O0 l cs h.2⟩
  | .bool::l,a::cs,h=>by
    simp only[DX,be,i6]at h⊢;exact⟨h.1,O0 l cs h.2⟩
  | .raw::l,a::cs,h=>by
    simp only[DX,be,i6]at h⊢;exact⟨h.1,O0 l cs h.2⟩
  | .sl ks::l,a::cs,h=>by
    simp only[be,i6]at h;have D:=O0 l cs h.2;cases a<;>simp only[DX,be,i6]<;>first
      |exact⟨h.1,D⟩
      |exact⟨trivial,D⟩
def Z3y {α:Type} {l:List α} {n:Nat} {v x:α} (h:x∈setL l n v):x∈l\/x=v:=by grind [Jc]
theorem CL.setL {D:AC->Value->Prop}:∀{l:List AC} {xs:List Value} (n:Nat) {a:AC},CL D l xs->(∀x,xs[n]? =some x->D a x)->CL D (setL l n a) xs
  |[],[],_,_,h,_=>h
  |b::l,x::xs,0,a,h,G=>⟨G x rfl,h.2⟩
  |b::l,x::xs,n+1,a,h,G=>⟨h.1,CL.setL n h.2 λy I=>G y (by grind)⟩
  |[],_::_,_,_,h,_=>h.elim
  |_::_,[],_,_,h,_=>h.elim
def RelE.promB (h:RelE Z tm aB aC ρ tmps w) {k o:Nat} {b:Box} (U:Ab aB k=some b) (ho:nth .vD b.cells o= .nilSl) {id:Nat} (hid:Ab aC id=none) {e:TypeId} {ks:List Kd} (V:0<ks.length):
    RelE Z tm (upd aB k ⟨b.ty,setL b.cells o (.own id ks.length 0)⟩) (ins aC id ⟨e,ks,[]⟩) {ρ with rv:=upN ρ.rv id (.slice none 0 0),wd:=upN ρ.wd id ks.length} tmps w:=by
  have D:=h.addRow (d:=id) hid (r:=⟨e,ks,[]⟩) (v':= .slice none 0 0) (xs:=[]) (w':=w) (Below.refl _ _) V (YV w e ks.length) ⟨by simp,by simp,λi c hi=>by grind⟩ (λg hg=>by grind [Value.ownBlock]);have L:=EU aC id (⟨e,ks,[]⟩:Row) hid;generalize hρ:({ρ with rv:=upN ρ.rv id (.slice none 0 0),wd:=upN ρ.wd id ks.length}:Env)=ρ2 at D;have e1:ρ2.rv id= .slice none 0 0:=by rw[<-hρ];exact B5 _ _ _
  have e2:ρ2.wd id=ks.length:=by rw[<-hρ];exact B5 _ _ _
  have X := D.reBox (g := λj c => bif Nat.beq j k then ⟨c.ty, setL c.cells o (.own id ks.length 0)⟩ else c) (λj c => by grind) (by
    intro j c O;cases hb:Nat.beq j k
    · exact⟨λxs h=>h,D.wb j c O⟩
    have:=ah hb;subst this
    rw[U]at O;simp at O;subst O;simp only[am];refine⟨λxs hx=>hx.setL o λx Y=> ?_,λa ha=> ?_⟩
    · have I:o<b.cells.length:=by
        rcases jy o b.cells.length with I|a1
        · omega
        grind [Ca]
      have hg:b.cells[o]? =some .nilSl:=by
        rw[Ca,List.getD,an I]at ho;rw[an I];simpa using ho
      obtain⟨y,hy,M⟩:=hx.get hg;rw[Y]at hy;simp at hy;subst hy;simp only[CC,CP]at M;subst M;exact⟨e1.symm,e2, .inl ⟨rfl,rfl⟩⟩
    rcases Z3y ha with ha|rfl
    · exact D.wb j b U a ha
    exact⟨_,L,rfl,rfl⟩)
  have N:∀(l:List (Nat×Box)) (b':Box),Ab l k=some b'->∀j,Ab (l.map λp=>(p.1,bif Nat.beq p.1 k then(⟨p.2.ty,setL p.2.cells o (.own id ks.length 0)⟩:Box)else p.2)) j=Ab (upd l k ⟨b'.ty,setL b'.cells o (.own id ks.length 0)⟩) j:=by
    intro l;induction l with
    |nil=>grind [Ab]
    |cons p l ih=>
      intro b' G j;obtain⟨q,c⟩:=p;simp only[Ab]at G;cases hq:Nat.beq q k
      · simp_all [upd,Ab]
      rw[hq]at G;simp at G;subst G
      have:=ah hq;subst this;simp only[bz,upd,hq,am,Ab];cases a0:Nat.beq q j
      · simp only[bn]
        have a2:=Hh a0;have:∀m:List (Nat×Box),Ab (m.map λp=>(p.1,bif Nat.beq p.1 q then(⟨p.2.ty,setL p.2.cells o (.own id ks.length 0)⟩:Box)else p.2)) j=Ab m j:=by
          intro m;induction m with
          |nil=>rfl
          |cons p m a3=>grind [Ab,KS]
        grind
      rfl
  exact X.lookB (N aB b U) λ_=>rfl
end
end Go.Bm
