/- The abstract machine, second form: definitions. A Go function's code is evaluated over values that may hold Lean variables; rows are lists; calls may turn memory that is handed to them. -/
import Derived.WalkKit
import Derived.ProofKit
set_option linter.unusedVariables false
set_option linter.unusedSimpArgs false
namespace Go.Bm

inductive Kd where
 | int (k : IntKind)
 | bool
 | sl (ks : List Kd)
 | raw

inductive AC where
 | dead
 | int (k : IntKind) (n : Int)
 | bool (b : Bool)
 | raw (v : Value)
 | nilSl
 | ptr (key off : Nat)
 | own (id w n : Nat)
 | view (ks : List Kd) (l : List (List AC))
 | rptr (id idx sub : Nat)
 | vptr (cells : List AC) (sub : Nat)
 | clo (f : FuncId) (first caps : List AC)

inductive TV where
 | dead
 | v (g : Bool) (cs : List AC)
 | tup (ps : List (Bool × List AC))

abbrev TV.c (a : AC) : TV := .v false [a]
abbrev TV.agg (cs : List AC) : TV := .v true cs

def Qav : AC -> Int
 | .int _ n => n
 | _ => 0
def boolOf : AC -> Bool
 | .bool b => b
 | _ => false
def rowsOf : AC -> List (List AC)
 | .view _ l => l
 | _ => []

structure Box where
 ty : TypeId
 cells : List AC

variable {R : Type}

def nth {α : Type} (d : α) : List α -> Nat -> α
 | [], _ => d
 | x :: _, 0 => x
 | _ :: xs, n + 1 => nth d xs n

def canonC : Kd -> AC -> AC
 | .int k, a => .int k (Qav a)
 | .bool, a => .bool (boolOf a)
 | .sl ks, a => .view ks (rowsOf a)
 | .raw, .raw v => .raw v
 | .raw, _ => .dead
def canonF : List Kd -> List AC -> Nat -> List AC
 | [], _, _ => []
 | k :: ks, cs, j => canonC k (nth .dead cs j) :: canonF ks cs (j + 1)
def Qis (ks : List Kd) (cs : List AC) : List AC := canonF ks cs 0

structure Row where
 ty : TypeId
 ks : List Kd
 l : List (List AC)
abbrev Row.w (r : Row) : Nat := r.ks.length
abbrev Row.n (r : Row) : Nat := r.l.length
abbrev Row.f (r : Row) (i : Nat) : List AC := Qis r.ks (nth [] r.l i)

structure Mem where
 boxes : List (Nat × Box)
 rows : List (Nat × Row)

structure St where
 tmps : List TV
 boxes : List (Nat × Box)
 rows : List (Nat × Row)

def setL {α : Type} : List α -> Nat -> α -> List α
 | [], _, _ => []
 | _ :: xs, 0, v => v :: xs
 | x :: xs, n + 1, v => x :: setL xs n v

def Qcm {α : Type} : List α -> (List α -> Option R) -> Option R
 | [], K => K []
 | x :: xs, K => Qcm xs fun ys => K (x :: ys)

def look {α : Type} : List (Nat × α) -> Nat -> Option α
 | [], _ => none
 | (k, b) :: l, key => bif Nat.beq k key then some b else look l key

def upd {α : Type} : List (Nat × α) -> Nat -> α -> List (Nat × α)
 | [], _, _ => []
 | (k, b) :: l, key, x => bif Nat.beq k key then (k, x) :: l else (k, b) :: upd l key x

def ins {α : Type} : List (Nat × α) -> Nat -> α -> List (Nat × α)
 | [], key, x => [(key, x)]
 | (k, b) :: l, key, x => bif Nat.blt key k then (key, x) :: (k, b) :: l else (k, b) :: ins l key x

def cut {α : Type} (l : List α) (off m : Nat) : List α := (l.drop off).take m

def splice {α : Type} : List α -> Nat -> List α -> List α
 | l, _, [] => l
 | [], _, _ :: _ => []
 | _ :: xs, 0, v :: vs => v :: splice xs 0 vs
 | x :: xs, n + 1, v :: vs => x :: splice xs n (v :: vs)

def ofConst : Value -> AC
 | .int k n => .int k n
 | .bool b => .bool b
 | .slice none 0 0 => .nilSl
 | .string s => .raw (.string s)
 | .pointer none => .raw (.pointer none)
 | .nilFunc => .raw .nilFunc
 | .nilIface => .raw .nilIface
 | _ => .dead

def ofCells : List Value -> Option (List AC)
 | [] => some []
 | v :: l => bif v.oneCell' then (match ofCells l with
  | some cs => some (ofConst v :: cs)
  | none => none) else none

def ofValue : Value -> TV
 | .agg cs => match ofCells cs.toList with
  | some l => .agg l
  | none => .dead
 | .tuple _ => .dead
 | v => .c (ofConst v)

def TV.cells : TV -> Option (List AC)
 | .v _ cs => some cs
 | _ => none

def TV.int? : TV -> Option Int
 | .v false [.int _ n] => some n
 | _ => none

def kEq : IntKind -> IntKind -> Bool
 | .i8, .i8 | .i16, .i16 | .i32, .i32 | .i64, .i64 | .u8, .u8 | .u16, .u16 | .u32, .u32 | .u64, .u64 => true
 | _, _ => false

def AC.plain : AC -> Bool
 | .int _ _ | .bool _ | .raw _ | .nilSl | .view _ _ => true
 | _ => false

def AC.calm : AC -> Bool
 | .int _ _ | .bool _ | .raw _ | .nilSl | .view _ _ | .dead => true
 | _ => false

def allB {α : Type} (p : α -> Bool) : List α -> Bool
 | [] => true
 | x :: l => bif p x then allB p l else false

mutual
def kdEq : Kd -> Kd -> Bool
 | .int k, .int k' => kEq k k'
 | .bool, .bool => true
 | .sl ks, .sl ks' => kdsEq ks ks'
 | .raw, .raw => true
 | _, _ => false
def kdsEq : List Kd -> List Kd -> Bool
 | [], [] => true
 | k :: ks, k' :: ks' => bif kdEq k k' then kdsEq ks ks' else false
 | _, _ => false
end

def fitC : Kd -> AC -> Option AC
 | .int k, .int k' n => bif kEq k k' then some (.int k n) else none
 | .bool, .bool b => some (.bool b)
 | .sl ks, .nilSl => some (.view ks [])
 | .sl ks, .view ks' l => bif kdsEq ks ks' then some (.view ks l) else none
 | .raw, .raw v => some (.raw v)
 | _, _ => none
def fitL : List Kd -> List AC -> Option (List AC)
 | [], [] => some []
 | k :: ks, a :: cs => match fitC k a with
  | some a' => match fitL ks cs with
   | some cs' => some (a' :: cs')
   | none => none
  | none => none
 | _, _ => none

def fitRows (ks : List Kd) : Nat -> List AC -> Option (List (List AC))
 | 0, [] => some []
 | 0, _ => none
 | n + 1, cs => match fitL ks (cs.take ks.length) with
  | some c => match fitRows ks n (cs.drop ks.length) with
   | some l => some (c :: l)
   | none => none
  | none => none

inductive Prim where
 | val (v : TV)
 | load (agg : Bool) (sz key off : Nat)
 | store (key off : Nat) (cells : List AC)
 | new (ty : TypeId) (cells : List AC)
 | rload (agg : Bool) (sz id idx sub : Nat)
 | rstore (id idx sub : Nat) (cells : List AC)
 | append (e : TypeId) (ks : List Kd) (bytes : Nat) (s x : AC)
 | newRow (e : TypeId) (ks : List Kd) (l : List (List AC))
 | newView (e : TypeId) (ks : List Kd) (l : List (List AC))
 | make (e : TypeId) (ks : List Kd) (bytes : Nat) (n : Int) (z : List AC)
 | call (f : FuncId) (args : List TV)
 | callM (f : FuncId) (args : List TV)
 | callD (f : FuncId) (args : List TV)
 | callF (f : FuncId) (args : List TV)
 | appD (e : TypeId) (ks : List Kd) (bytes : Nat) (s x : AC)

def mn (x y : Int) : Int := if y < x then y else x
def mx (x y : Int) : Int := if y > x then y else x

def intOp (op : BinOp) (k : IntKind) (a b : Int) (K : AC -> Option R) : Option R :=
 match op with
 | .add => K (.int k (k.wrap (a + b)))
 | .sub => K (.int k (k.wrap (a - b)))
 | .mul => K (.int k (k.wrap (a * b)))
 | .quo => cond (decide (b = 0)) none (K (.int k (k.wrap (a.tdiv b))))
 | .rem => cond (decide (b = 0)) none (K (.int k (a.tmod b)))
 | .and => K (.int k (k.wrap ((BitVec.ofInt k.bits a &&& BitVec.ofInt k.bits b).toNat : Int)))
 | .or => K (.int k (k.wrap ((BitVec.ofInt k.bits a ||| BitVec.ofInt k.bits b).toNat : Int)))
 | .xor => K (.int k (k.wrap ((BitVec.ofInt k.bits a ^^^ BitVec.ofInt k.bits b).toNat : Int)))
 | .andNot => K (.int k (k.wrap ((BitVec.ofInt k.bits a &&& ~~~ BitVec.ofInt k.bits b).toNat : Int)))
 | .eql => K (.bool (a == b))
 | .neq => K (.bool (a != b))
 | .lss => K (.bool (decide (a < b)))
 | .leq => K (.bool (decide (a <= b)))
 | .gtr => K (.bool (decide (a > b)))
 | .geq => K (.bool (decide (a >= b)))
 | .shl => cond (decide (b < 0)) none (K (.int k (k.wrap (a * 2 ^ (min b.toNat k.bits)))))
 | .shr => cond (decide (b < 0)) none (K (.int k (a.fdiv (2 ^ (min b.toNat k.bits)))))

def isShift : BinOp -> Bool
 | .shl | .shr => true
 | _ => false

inductive CS where
 | any
 | int (k : IntKind)
 | bool
 | sl (ks : List Kd)
 | rawc
 | nil
 | ptr (key off : Nat)
 | own (id w : Nat)
 | clo (f : FuncId) (fs cs : List (Nat × Nat))     -- closures over boxes

inductive TS where
 | dead
 | v (g : Bool) (cs : List CS)
 | tup (ps : List (Bool × List CS))

structure Sk where
 tmps : List TS
 boxes : List (Nat × TypeId × List CS) := []
 rows : List (Nat × TypeId × List Kd) := []

inductive Ex where
 | normal
 | exit (id : Nat)
 | ret

def Spec := ∀ R : Type, List TV -> Mem -> (TV -> Mem -> Option R) -> Option R
def VSpec := ∀ R : Type, List AC -> (Ex -> St -> Option R) -> Option R

def Qbq : List (Nat × Spec) -> FuncId -> Option Spec
 | [], _ => none
 | (k, b) :: l, f => bif Nat.beq k f then some b else Qbq l f

structure Cfg where
 spec : FuncId -> Option Spec
 eqOk : List TypeId := []
 prom : Nat -> List (Nat × TypeId) := fun _ => []        -- nil slices that a loop appends to: by block; slot, element type
 loops : Nat -> Option (Sk × VSpec) := fun _ => none      -- loops, by the block that they stand in
 blocks : Nat -> Option (Sk × VSpec) := fun _ => none
 conds : Nat -> Option (Sk × VSpec) := fun _ => none      -- conditions, by the slot
 pure : FuncId -> Bool := fun _ => true            -- a call that neither takes nor gives memory
 lend : FuncId -> Bool := fun _ => false           -- own rows are shown to it, not frozen
 ownOff : TypeId -> List (Nat × TypeId) := fun _ => []   -- where a box of a type holds a row of its own: offset, element type
 rowAs : Nat -> Nat := fun d => d                  -- under which name a literal's row stands, by its slot
 ownBut : List Nat := []                          -- boxes that own nothing
 rowDst : List Nat := []                          -- literal slices that are written, by their slot
 fstore : Bool := false                           -- rows are frozen where they are stored in a box
 ownRes : Bool := false                           -- rows that are results stay own
 unroll : List Nat := []                          -- (for the tool: loops over a few places)

section prog
variable (P : Program)

def Qgv (t : TypeId) : Option Bool :=
 match P.underlying t with
 | some (.struct _) => some true
 | some (.array _ _) => some true
 | some _ => some false
 | none => none

def szT (t : TypeId) : Option Nat :=
 match P.info? t with
 | some i => some i.size
 | none => none

def zeroT (t : TypeId) : Option (List AC) :=
 match P.info? t with
 | some i => match i.zero with
  | some v => ofCells v.cells.toList
  | none => none
 | none => none

def fieldT (t : TypeId) (i : Nat) : Option Field :=
 match P.underlying t with
 | some (.struct fs) => fs.toList[i]?
 | _ => none

def Qgi (agg : Bool) (sz : Nat) (cells : List AC) (off : Nat) : Option TV :=
 bif agg then (bif Nat.ble (off + sz) cells.length then some (.agg (cut cells off sz)) else none)
 else match cells[off]? with
  | some a => some (.c a)
  | none => none

def oneOk (t : TypeId) (n : Nat) : Bool :=
 match Qgv P t with
 | some true => true
 | some false => Nat.beq n 1
 | none => false

def eqFs {β : Type} (g : β -> Option Bool) : List β -> Option Bool
 | [] => some true
 | x :: l => match g x with
  | some b => match eqFs g l with
   | some b' => some (b && b')
   | none => none
  | none => none

def eqC (ok : List TypeId) : Nat -> TypeId -> List AC -> List AC -> Option Bool
 | 0, _, _, _ => none
 | d + 1, t, xs, ys =>
  match P.underlying t with
  | some .bool => match xs, ys with
   | [.bool a], [.bool b] => some (a == b)
   | _, _ => none
  | some (.int _) => match xs, ys with
   | [.int k a], [.int k' b] => bif kEq k k' then some (a == b) else none
   | _, _ => none
  | some (.struct fs) => bif ok.elem t then eqFs (fun f : Field => bif f.name == "_" then none else match szT P f.type with
    | some n => bif (Nat.ble (f.offset + n) xs.length && Nat.ble (f.offset + n) ys.length && oneOk P f.type n) then eqC ok d f.type (cut xs f.offset n) (cut ys f.offset n) else none
    | none => none) fs.toList else none
  | some (.array n e) => match szT P e with
   | some m => bif (Nat.ble (n * m) xs.length && Nat.ble (n * m) ys.length && oneOk P e m) then eqFs (fun i => eqC ok d e (cut xs (i * m) m) (cut ys (i * m) m)) (List.range n) else none
   | none => none
  | _ => none

def pickIdx (i : Int) : (todo k : Nat) -> (Nat -> Option R) -> Option R
 | 0, _, _ => none
 | n + 1, k, K => cond (decide (i = (k : Int))) (K k) (pickIdx i n (k + 1) K)

def partOf (t : TypeId) (cs : List AC) (off : Nat) : Option TV :=
 match Qgv P t, szT P t with
 | some a, some sz => Qgi a sz cs off
 | _, _ => none

def Qib (place : Nat -> Option (Nat × Nat)) : List AC -> List (Nat × TV) -> Option (List AC)
 | cells, [] => some cells
 | cells, (i, v) :: rest =>
  match place i, v.cells with
  | some (off, size), some cs => bif (Nat.beq cs.length size && Nat.ble (off + size) cells.length) then Qib place (splice cells off cs) rest else none
  | _, _ => none

def fieldsKd (g : TypeId -> Option (List Kd)) : List Field -> Nat -> Option (List Kd)
 | [], _ => some []
 | f :: fs, o => match g f.type with
  | some ks => bif Nat.beq f.offset o then (match fieldsKd g fs (o + ks.length) with
   | some l => some (ks ++ l)
   | none => none) else none
  | none => none
def repK (ks : List Kd) : Nat -> List Kd
 | 0 => []
 | n + 1 => ks ++ repK ks n
def kindsT : Nat -> TypeId -> Option (List Kd)
 | 0, _ => none
 | n + 1, t => match P.underlying t with
  | some .bool => some [.bool]
  | some (.int k) => some [.int k]
  | some (.slice e) => match kindsT n e with
   | some ks => some [.sl ks]
   | none => none
  | some (.struct fs) => fieldsKd (kindsT n) fs.toList 0
  | some (.array m e) => match kindsT n e with
   | some ks => some (repK ks m)
   | none => none
  | some _ => some [.raw]
  | none => none

def chunk (zero : List AC) : Nat -> List AC
 | 0 => []
 | n + 1 => zero ++ chunk zero n

def foldM (g : Int -> Int -> Int) (k : IntKind) (a : Int) : List TV -> (Prim -> Option R) -> Option R
 | [], K => K (.val (.c (.int k a)))
 | t :: rest, K => match t with
  | .v false [.int k' b] => bif kEq k k' then foldM g k (g a b) rest K else none
  | _ => none

def builtinK (b : Builtin) (argTypes : List TypeId) (args : List TV) (K : Prim -> Option R) : Option R :=
 match b, args with
 | .len, [.v false [.view _ l]] => match argTypes with
  | t :: _ => match P.underlying t with
   | some (.slice _) => K (.val (.c (.int .i64 (l.length : Int))))
   | _ => none
  | [] => none
 | .len, [.v false [.own _ _ n]] => match argTypes with
  | t :: _ => match P.underlying t with
   | some (.slice _) => K (.val (.c (.int .i64 (n : Int))))
   | _ => none
  | [] => none
 | .len, [.v false [.nilSl]] => match argTypes with
  | t :: _ => match P.underlying t with
   | some (.slice _) => K (.val (.c (.int .i64 0)))
   | _ => none
  | [] => none
 | .len, [.v true _] => match argTypes with
  | t :: _ => match P.underlying t with
   | some (.array n _) => K (.val (.c (.int .i64 (n : Int))))
   | _ => none
  | [] => none
 | .min, .v false [.int k a] :: rest => foldM mn k a rest K
 | .max, .v false [.int k a] :: rest => foldM mx k a rest K
 | .append, [.c s, .c x] => match argTypes with
  | [t, u] => match P.underlying t, P.underlying u with
   | some (.slice e), some (.slice _) => match P.info? e, kindsT P 8 e with
    | some i, some ks => match i.zero with
     | some z => bif (Nat.beq t u && Nat.beq z.cells.size i.size && Nat.beq ks.length i.size) then K (.append e ks i.bytes s x) else none
     | none => none
    | _, _ => none
   | _, _ => none
  | _ => none
 | _, _ => none

def optInt (ev : Operand -> TV) : Option Operand -> Option (Option Int)
 | none => some none
 | some x => match (ev x).int? with
  | some n => some (some n)
  | none => none

def evalL (ev : Operand -> TV) : List Operand -> List TV
 | [] => []
 | x :: l => ev x :: evalL ev l

def evalP (ev : Operand -> TV) : List (Nat × Operand) -> List (Nat × TV)
 | [] => []
 | x :: l => (x.1, ev x.2) :: evalP ev l

def sizedF (f : Field) : Bool :=
 match szT P f.type with
 | some _ => true
 | none => false

def placeF (fs : List Field) (i : Nat) : Option (Nat × Nat) :=
 match fs[i]? with
 | some f => match szT P f.type with
  | some n => some (f.offset, n)
  | none => none
 | none => none

variable (C : Cfg)

def rowHere (dst : Option Tmp) (n : Nat) : Bool := match dst with
 | some d => C.rowDst.elem d || Nat.beq n 0
 | none => false

def AC.clOk : AC -> Bool
 | .int _ _ | .bool _ | .raw _ | .nilSl | .view _ _ | .ptr _ _ => true
 | _ => false
def cloL : List TV -> Option (List AC)
 | [] => some []
 | .v false [a] :: l => bif a.clOk then (match cloL l with
  | some r => some (a :: r)
  | none => none) else none
 | _ => none

def opK (ev : Operand -> TV) (dst : Option Tmp) (o : Op) (K : Prim -> Option R) : Option R :=
 match o with
 | .move x => K (.val (ev x))
 | .assign x => K (.val (ev x))
 | .pick c a b => match ev c with
  | .v false [.bool g] => cond g (K (.val (ev a))) (K (.val (ev b)))
  | _ => none
 | .alloc t => match zeroT P t with
  | some cs => K (.new t cs)
  | none => none
 | .box t x => match (ev x).cells with
  | some cs => K (.new t cs)
  | none => none
 | .build t parts => match zeroT P t, P.underlying t with
  | some z, some (.struct fs) => bif allB (sizedF P) fs.toList then match Qib (placeF P fs.toList) z (evalP ev parts.toList) with
   | some cs => K (.val (.agg cs))
   | none => none else none
  | some z, some (.array _ e) => match szT P e with
   | some n => match Qib (fun i => some (i * n, n)) z (evalP ev parts.toList) with
    | some cs => K (.val (.agg cs))
    | none => none
   | none => none
  | _, _ => none
 | .buildSlice t n parts => match P.underlying t with
  | some (.slice e) => match szT P e, zeroT P e, kindsT P 8 e with
   | some w, some z, some ks => bif (Nat.beq z.length w && Nat.beq ks.length w && Nat.ble 1 w && Nat.ble (n * w) 65536) then match Qib (fun i => some (i * w, w)) (chunk z n) (evalP ev parts.toList) with
    | some cs => match fitRows ks n cs with
     | some l => cond (rowHere C dst n) (K (.newRow e ks l)) (K (.newView e ks l))
     | none => none
    | none => none else none
   | _, _, _ => none
  | _ => none
 | .makeSlice t len cap => match P.underlying t, (ev len).int?, (ev cap).int? with
  | some (.slice e), some n, some c => match P.info? e, zeroT P e, kindsT P 8 e with
   | some i, some z, some ks => match fitL ks z with
    | some z' => bif (Nat.beq ks.length i.size && Nat.ble 1 i.size && Nat.ble 1 i.bytes) then cond (decide (n = c)) (K (.make e ks i.bytes n z')) none else none
    | none => none
   | _, _, _ => none
  | _, _, _ => none
 | .makeFunc fn first captured => match fn with
  | .func f => match cloL (evalL ev first.toList), cloL (evalL ev captured.toList) with
   | some fs, some cs => K (.val (.c (.clo f fs cs)))
   | _, _ => none
  | _ => none
 | .load t a => match Qgv P t, szT P t with
  | some g, some sz => match ev a with
   | .v false [.ptr key off] => K (.load g sz key off)
   | .v false [.vptr cells sub] => match Qgi g sz cells sub with
    | some v => K (.val v)
    | none => none
   | .v false [.rptr id idx sub] => K (.rload g sz id idx sub)
   | _ => none
  | _, _ => none
 | .store t a x => match szT P t, (ev x).cells with
  | some sz, some cs => bif Nat.beq cs.length sz then match ev a with
    | .v false [.ptr key off] => K (.store key off cs)
    | .v false [.rptr id idx sub] => K (.rstore id idx sub cs)
    | _ => none else none
  | _, _ => none
 | .nilCheck x => match ev x with
  | .v false [.ptr key off] => K (.val (.c (.ptr key off)))
  | .v false [.rptr id idx sub] => K (.val (.c (.rptr id idx sub)))
  | .v false [.vptr cs sub] => K (.val (.c (.vptr cs sub)))
  | _ => none
 | .binOp op t x y _ => match ev x, ev y with
  | .v false [.int k a], .v false [.int k' b] => bif kEq k k' || isShift op then intOp op k a b fun v => K (.val (.c v)) else none
  | .v false [.bool a], .v false [.bool b] => match P.underlying t, op with
   | some .bool, .eql => K (.val (.c (.bool (a == b))))
   | some .bool, .neq => K (.val (.c (.bool (!(a == b)))))
   | _, _ => none
  | .v true xs, .v true ys => bif P.eqGuardType P.depth t then none else match Qgv P t, eqC P C.eqOk 20 t xs ys, op with
   | some true, some r, .eql => K (.val (.c (.bool r)))
   | some true, some r, .neq => K (.val (.c (.bool (!r))))
   | _, _, _ => none
  | _, _ => none
 | .unOp op _ x => match op, ev x with
  | .neg, .v false [.int k n] => K (.val (.c (.int k (k.wrap (0 - n)))))
  | .not, .v false [.bool b] => K (.val (.c (.bool (!b))))
  | _, _ => none
 | .convert src dst x => match P.underlying src, P.underlying dst, ev x with
  | some _, some (.int k), .v false [.int _ n] => K (.val (.c (.int k (k.wrap n))))
  | _, _, _ => none
 | .fieldAddr t x i => match fieldT P t i with
  | some f => match szT P f.type with
   | some (_ + 1) => match ev x with
    | .v false [.ptr key off] => K (.val (.c (.ptr key (off + f.offset))))
    | .v false [.rptr id idx sub] => K (.val (.c (.rptr id idx (sub + f.offset))))
    | .v false [.vptr cs sub] => K (.val (.c (.vptr cs (sub + f.offset))))
    | _ => none
   | _ => none
  | none => none
 | .field t x i => match fieldT P t i, ev x with
  | some f, .v true cs => match partOf P f.type cs f.offset with
   | some v => K (.val v)
   | none => none
  | _, _ => none
 | .indexAddr t x ix => match (ev ix).int?, P.underlying t with
  | some i, some (.array n e) => match szT P e, ev x with
   | some m, .v false [.ptr key off] => pickIdx i n 0 fun j => K (.val (.c (.ptr key (off + j * m))))
   | some m, .v false [.rptr id idx sub] => pickIdx i n 0 fun j => K (.val (.c (.rptr id idx (sub + j * m))))
   | some m, .v false [.vptr cs sub] => pickIdx i n 0 fun j => K (.val (.c (.vptr cs (sub + j * m))))
   | _, _ => none
  | some i, some (.slice e) => match szT P e, ev x with
   | some m, .v false [.view ks l] => bif Nat.beq m ks.length then cond (decide (0 <= i) && decide (i < (l.length : Int))) (K (.val (.c (.vptr (Qis ks (nth [] l i.toNat)) 0)))) none else none
   | some m, .v false [.own id w n] => bif Nat.beq m w then cond (decide (0 <= i) && decide (i < (n : Int))) (K (.val (.c (.rptr id i.toNat 0)))) none else none
   | _, _ => none
  | _, _ => none
 | .index t x ix => match (ev ix).int?, P.underlying t, ev x with
  | some i, some (.array n e), .v true cs => match szT P e with
   | some m => pickIdx i n 0 fun j => match partOf P e cs (j * m) with
    | some v => K (.val v)
    | none => none
   | none => none
  | _, _, _ => none
 | .slice t x lo hi mx => match mx, optInt ev lo, optInt ev hi, P.underlying t with
  | none, some lo, some hi, some (.slice e) => match szT P e, ev x with
   | some m, .v false [.view ks l] => bif Nat.beq m ks.length then
    match lo, hi with
    | none, none => K (.val (.c (.view ks l)))
    | some a, none => cond (decide (0 <= a) && decide (a <= (l.length : Int))) (K (.val (.c (.view ks (l.drop a.toNat))))) none
    | none, some b => cond (decide (0 <= b) && decide (b <= (l.length : Int))) (K (.val (.c (.view ks (l.take b.toNat))))) none
    | some a, some b => cond (decide (0 <= a) && decide (a <= b) && decide (b <= (l.length : Int))) (K (.val (.c (.view ks ((l.take b.toNat).drop a.toNat))))) none
    else none
   | some _, .v false [.nilSl] => match lo, hi with
    | none, none => K (.val (.c .nilSl))
    | some a, none => cond (decide (a = 0)) (K (.val (.c .nilSl))) none
    | none, some b => cond (decide (b = 0)) (K (.val (.c .nilSl))) none
    | some a, some b => cond (decide (a = 0) && decide (b = 0)) (K (.val (.c .nilSl))) none
   | _, _ => none
  | _, _, _, _ => none
 | .extract t i => match ev t with
  | .tup ps => match ps[i]? with
   | some (g, cs) => K (.val (.v g cs))
   | none => none
  | _ => none
 | .call c => match c.callee with
  | .builtin b => builtinK P b c.argTypes.toList (evalL ev c.args.toList) K
  | .value (.func f) => cond (C.pure f) (K (.call f (evalL ev c.args.toList))) (K (.callM f (evalL ev c.args.toList)))
  | .value (.tmp t) => match ev (.tmp t) with
   | .v false [.clo f fs cs] => bif allB AC.clOk fs && allB AC.clOk cs then K (.callM f (fs.map TV.c ++ (evalL ev c.args.toList ++ cs.map TV.c))) else none
   | _ => none
  | _ => none
 | _ => none

def evOf (tmps : List TV) : Operand -> TV
 | .tmp t => nth .dead tmps t
 | .const v => ofValue v
 | _ => .dead

def AC.kill (id : Nat) : AC -> AC
 | .own j w n => bif Nat.beq j id then .dead else .own j w n
 | .rptr j a b => bif Nat.beq j id then .dead else .rptr j a b
 | a => a

def TV.kill (id : Nat) : TV -> TV
 | .v g cs => .v g (cs.map (AC.kill id))
 | .tup ps => .tup (ps.map fun p => (p.1, p.2.map (AC.kill id)))
 | .dead => .dead

def Box.kill (id : Nat) (b : Box) : Box := ⟨b.ty, b.cells.map (AC.kill id)⟩

def AC.fz (id : Nat) (ks : List Kd) (l : List (List AC)) : AC -> AC
 | .own j w n => bif Nat.beq j id then .view ks l else .own j w n
 | .rptr j a b => bif Nat.beq j id then .dead else .rptr j a b
 | a => a
def TV.fz (id : Nat) (ks : List Kd) (l : List (List AC)) : TV -> TV
 | .v g cs => .v g (cs.map (AC.fz id ks l))
 | .tup ps => .tup (ps.map fun p => (p.1, p.2.map (AC.fz id ks l)))
 | .dead => .dead
def Box.fz (id : Nat) (ks : List Kd) (l : List (List AC)) (b : Box) : Box := ⟨b.ty, b.cells.map (AC.fz id ks l)⟩

def del {α : Type} (id : Nat) : List (Nat × α) -> List (Nat × α)
 | [] => []
 | (k, b) :: l => bif Nat.beq k id then del id l else (k, b) :: del id l

def freezeK : List Nat -> St -> (St -> Option R) -> Option R
 | [], s, K => K s
 | id :: l, ⟨tmps, boxes, rows⟩, K => match look rows id with
  | some r => Qcm (tmps.map (TV.fz id r.ks r.l)) fun tmps' => Qcm (boxes.map fun p => (p.1, p.2.fz id r.ks r.l)) fun boxes' => Qcm (del id rows) fun rows' => freezeK l ⟨tmps', boxes', rows'⟩ K
  | none => freezeK l ⟨tmps, boxes, rows⟩ K

def AC.res (rows : List (Nat × Row)) : AC -> Option AC
 | .own id _ _ => match look rows id with
  | some r => some (.view r.ks r.l)
  | none => none
 | .int k n => some (.int k n)
 | .bool b => some (.bool b)
 | .raw v => some (.raw v)
 | .nilSl => some .nilSl
 | .view ks l => some (.view ks l)
 | _ => none

def resL (rows : List (Nat × Row)) : List AC -> Option (List AC)
 | [] => some []
 | a :: l => match a.res rows with
  | some a' => match resL rows l with
   | some l' => some (a' :: l')
   | none => none
  | none => none

def TV.res (rows : List (Nat × Row)) : TV -> Option TV
 | .v g cs => match resL rows cs with
  | some l => some (.v g l)
  | none => none
 | _ => none

def resArgs (rows : List (Nat × Row)) : List TV -> Option (List TV)
 | [] => some []
 | a :: l => match a.res rows with
  | some a' => match resArgs rows l with
   | some l' => some (a' :: l')
   | none => none
  | none => none

def AC.isOwn : AC -> Bool
 | .own _ _ _ => true
 | _ => false
def TV.hasOwn : TV -> Bool
 | .v _ cs => cs.any AC.isOwn
 | _ => true

def AC.flat : AC -> Bool
 | .int _ _ | .bool _ | .raw _ | .nilSl => true
 | _ => false
def TV.flat : TV -> Bool
 | .v _ cs => allB AC.flat cs
 | .tup ps => allB (fun p : Bool × List AC => allB AC.flat p.2) ps
 | .dead => false

def TV.plainB : TV -> Bool
 | .v _ cs => allB AC.plain cs
 | .tup ps => allB (fun p : Bool × List AC => allB AC.plain p.2) ps
 | .dead => false

def Prim.dr : Bool -> Prim -> Prim
 | false, .callM f args => bif allB TV.plainB args then .callF f args else .callD f args
 | false, .append e ks b s x => .appD e ks b s x
 | _, p => p

def source (rows : List (Nat × Row)) (ks : List Kd) : AC -> Option (List (List AC))
 | .nilSl => some []
 | .view ks' l => bif kdsEq ks ks' then some l else none
 | .own id _ _ => match look rows id with
  | some r => bif kdsEq ks r.ks then some r.l else none
  | none => none
 | _ => none

def put (s : St) (dst : Option Tmp) (v : TV) (K : St -> Option R) : Option R :=
 match dst with
 | none => K s
 | some d => match s with
  | ⟨tmps, boxes, rows⟩ => Qcm (setL tmps d v) fun l => K ⟨l, boxes, rows⟩

def AC.keys : AC -> List Nat
 | .ptr k _ => [k]
 | .clo _ fs cs => keysL fs ++ keysL cs
 | _ => []
where keysL : List AC -> List Nat
 | [] => []
 | .ptr k _ :: l => k :: keysL l
 | _ :: l => keysL l
def AC.ids : AC -> List Nat
 | .own id _ _ => [id]
 | _ => []
def cat {α β : Type} (g : α -> List β) : List α -> List β
 | [] => []
 | a :: l => g a ++ cat g l
def TV.cellsOf : TV -> List AC
 | .v _ cs => cs
 | .tup ps => cat (fun p : Bool × List AC => p.2) ps
 | .dead => []
def addN (n : Nat) : List Nat -> List Nat
 | [] => [n]
 | m :: l => bif Nat.beq m n then m :: l else m :: addN n l
def Qcs : List Nat -> List Nat -> List Nat
 | [], l => l
 | n :: ns, l => Qcs ns (addN n l)
def Qgq (boxes : List (Nat × Box)) (k : Nat) : List AC := match look boxes k with
 | some b => b.cells
 | none => []
def reach1 (boxes : List (Nat × Box)) (keys : List Nat) : List Nat := Qcs (cat (fun k => cat AC.keys (Qgq boxes k)) keys) keys
def reachN (boxes : List (Nat × Box)) : Nat -> List Nat -> List Nat
 | 0, l => l
 | n + 1, l => reachN boxes n (reach1 boxes l)
def idsOf (boxes : List (Nat × Box)) (cells : List AC) (keys : List Nat) : List Nat :=
 Qcs (cat AC.ids cells ++ cat (fun k => cat AC.ids (Qgq boxes k)) keys) []

def pos : List Nat -> Nat -> Nat
 | [], _ => 0
 | m :: l, n => bif Nat.beq m n then 0 else pos l n + 1
def Qej : List Nat -> Nat -> Bool
 | [], _ => false
 | m :: l, n => bif Nat.beq m n then true else Qej l n

def AC.ren (rk ri : Nat -> Nat) : AC -> AC
 | .ptr k o => .ptr (rk k) o
 | .own id w n => .own (ri id) w n
 | .rptr id i s => .rptr (ri id) i s
 | .clo f fs cs => .clo f (renP rk fs) (renP rk cs)
 | a => a
where renP (rk : Nat -> Nat) : List AC -> List AC
 | [] => []
 | .ptr k o :: l => .ptr (rk k) o :: renP rk l
 | a :: l => a :: renP rk l
def TV.ren (rk ri : Nat -> Nat) : TV -> TV
 | .v g cs => .v g (cs.map (AC.ren rk ri))
 | .tup ps => .tup (ps.map fun p => (p.1, p.2.map (AC.ren rk ri)))
 | .dead => .dead

def AC.inK (keys ids : List Nat) : AC -> Bool
 | .ptr k _ => Qej keys k
 | .own id _ _ => Qej ids id
 | .rptr id _ _ => Qej ids id
 | .clo _ fs cs => allB (inP keys) fs && allB (inP keys) cs
 | _ => true
where inP (keys : List Nat) : AC -> Bool
 | .ptr k _ => Qej keys k
 | _ => true
def TV.inK (keys ids : List Nat) : TV -> Bool
 | .v _ cs => allB (AC.inK keys ids) cs
 | .tup ps => allB (fun p : Bool × List AC => allB (AC.inK keys ids) p.2) ps
 | .dead => true

def subB (boxes : List (Nat × Box)) (rk ri : Nat -> Nat) : Nat -> List Nat -> Option (List (Nat × Box))
 | _, [] => some []
 | b, k :: ks => match look boxes k with
  | some x => match subB boxes rk ri (b + 1) ks with
   | some l => some ((b, ⟨x.ty, x.cells.map (AC.ren rk ri)⟩) :: l)
   | none => none
  | none => none
def subR (rows : List (Nat × Row)) : Nat -> List Nat -> Option (List (Nat × Row))
 | _, [] => some []
 | b, k :: ks => match look rows k with
  | some x => match subR rows (b + 1) ks with
   | some l => some ((b, x) :: l)
   | none => none
  | none => none

def base : Nat := 20000
def Qi1 (names fresh : List Nat) (d : Nat) (n : Nat) : Nat :=
 bif Nat.ble base n && Nat.blt (n - base) names.length then nth 0 names (n - base) else 100000 + 100 * d + pos fresh n
def Qdq {α : Type} (names : List Nat) : List (Nat × α) -> List Nat
 | [] => []
 | (k, _) :: l => bif Nat.ble base k && Nat.blt (k - base) names.length then Qdq names l else k :: Qdq names l
def Qmd {α : Type} : List Nat -> List (Nat × α) -> List (Nat × α)
 | [], l => l
 | k :: ks, l => Qmd ks (del k l)
def insB (rk ri : Nat -> Nat) : List (Nat × Box) -> List (Nat × Box) -> List (Nat × Box)
 | [], l => l
 | (k, b) :: m, l => insB rk ri m (ins l (rk k) ⟨b.ty, b.cells.map (AC.ren rk ri)⟩)
def insR (ri : Nat -> Nat) : List (Nat × Row) -> List (Nat × Row) -> List (Nat × Row)
 | [], l => l
 | (k, b) :: m, l => insR ri m (ins l (ri k) b)
def Qh8 (keys : List Nat) : List (Nat × Box) -> List (Nat × Box) -> List (Nat × Box)
 | [], l => l
 | (k, b) :: m, l => Qh8 keys m (upd l (nth 0 keys (k - base)) b)
def killAll (ids : List Nat) (v : TV) : TV := match ids with
 | [] => v
 | id :: l => killAll l (v.kill id)
def Qgk (ids : List Nat) (b : Box) : Box := match ids with
 | [] => b
 | id :: l => Qgk l (b.kill id)
def noKey {α : Type} (l : List (Nat × α)) (k : Nat) : Bool := match look l k with
 | some _ => false
 | none => true
def Qco : List Nat -> Bool
 | [] => true
 | k :: l => bif Qej l k then false else Qco l
def Qm7 {α : Type} (l : List (Nat × α)) (k : Nat) : Bool := match look l k with
 | some _ => true
 | none => false

def mkKey (d : Nat) : Nat := 100000 + 100 * d
def memK (dst : Option Tmp) (p : Prim) (s : St) (K : TV -> St -> Option R) : Option R :=
 match s with
 | ⟨tmps, boxes, rows⟩ =>
 match p with
 | .val v => K v ⟨tmps, boxes, rows⟩
 | .load g sz key off => match look boxes key with
  | some b => match Qgi g sz b.cells off with
   | some v => K v ⟨tmps, boxes, rows⟩
   | none => none
  | none => none
 | .store key off cs => match look boxes key with
  | some b => bif Nat.ble (off + cs.length) b.cells.length then
    Qcm (splice b.cells off cs) fun cells => Qcm (upd boxes key ⟨b.ty, cells⟩) fun boxes' => K .dead ⟨tmps, boxes', rows⟩
   else none
  | none => none
 | .new ty cs => match dst with
  | some d => match look boxes d with
   | some _ => none
   | none => Qcm (ins boxes d ⟨ty, cs⟩) fun boxes' => K (.c (.ptr d 0)) ⟨tmps, boxes', rows⟩
  | none => none
 | .rload g sz id idx sub => match look rows id with
  | some r => match Qgi g sz (r.f idx) sub with
   | some v => K v ⟨tmps, boxes, rows⟩
   | none => none
  | none => none
 | .rstore id idx sub cs => match look rows id with
  | some r => bif Nat.ble (sub + cs.length) r.w && allB AC.plain cs then
    match fitL r.ks (splice (r.f idx) sub cs) with
    | some c => Qcm (upd rows id ⟨r.ty, r.ks, r.l.set idx c⟩) fun rows' => K .dead ⟨tmps, boxes, rows'⟩
    | none => none else none
  | none => none
 | .newRow e ks l => match dst with
  | some d => match look rows (C.rowAs d) with
   | some _ => none
   | none => Qcm (ins rows (C.rowAs d) ⟨e, ks, l⟩) fun rows' => K (.c (.own (C.rowAs d) ks.length l.length)) ⟨tmps, boxes, rows'⟩
  | none => none
 | .newView _ ks l => K (.c (.view ks l)) ⟨tmps, boxes, rows⟩
 | .make e ks bytes n z => match dst with
  | some d => match look rows d with
   | some _ => none
   | none => cond (decide (0 <= n) && decide (n * (bytes : Int) <= 140737488355328))
     (Qcm (ins rows d ⟨e, ks, List.replicate n.toNat z⟩) fun rows' => K (.c (.own d ks.length (List.replicate n.toNat z).length)) ⟨tmps, boxes, rows'⟩) none
  | none => none
 | .append e ks bytes s x => match source rows ks x with
  | some m => match s with
   | .nilSl => match dst with
    | some d => match look rows d with
     | some _ => none
     | none => bif (Nat.ble 1 ks.length && Nat.ble 1 bytes) then cond (Nat.ble (m.length * bytes) 140737488355328) (Qcm (ins rows d ⟨e, ks, m⟩) fun rows' => K (.c (.own d ks.length m.length)) ⟨tmps, boxes, rows'⟩) none else none
    | none => none
   | .own id _ _ => match look rows id with
    | some r => bif (kdsEq ks r.ks && Nat.beq r.ty e && Nat.ble 1 bytes) then
      cond (Nat.ble ((r.l ++ m).length * bytes) 140737488355328) (
       Qcm (tmps.map (TV.kill id)) fun tmps' =>
       Qcm (boxes.map fun p => (p.1, p.2.kill id)) fun boxes' =>
       Qcm (upd rows id ⟨e, r.ks, r.l ++ m⟩) fun rows' =>
       K (.c (.own id r.ks.length (r.l ++ m).length)) ⟨tmps', boxes', rows'⟩) none
     else none
    | none => none
   | _ => none
  | none => none
 | .appD e ks bytes s x => match source rows ks x with
  | some m => match s with
   | .own id _ _ => match look rows id with
    | some r => bif (kdsEq ks r.ks && Nat.beq r.ty e && Nat.ble 1 bytes) then
      cond (Nat.ble ((r.l ++ m).length * bytes) 140737488355328) (
       Qcm (tmps.map (TV.kill id)) fun tmps' =>
       Qcm (boxes.map fun p => (p.1, p.2.kill id)) fun boxes' =>
       Qcm (upd rows id ⟨e, r.ks, r.l ++ m⟩) fun rows' =>
       K (.c (.own id r.ks.length (r.l ++ m).length)) ⟨tmps', boxes', rows'⟩) none
     else none
    | none => none
   | .nilSl => match dst with
    | some d => match look rows d with
     | some _ => none
     | none => bif (Nat.ble 1 ks.length && Nat.ble 1 bytes) then cond (Nat.ble (m.length * bytes) 140737488355328) (
       Qcm (tmps.map (TV.kill d)) fun tmps' =>
       Qcm (boxes.map fun p => (p.1, p.2.kill d)) fun boxes' =>
       Qcm (ins rows d ⟨e, ks, m⟩) fun rows' => K (.c (.own d ks.length m.length)) ⟨tmps', boxes', rows'⟩) none else none
    | none => none
   | _ => none
  | none => none
 | .call f args => match C.spec f with
  | some g => match resArgs rows args with
   | some as => g R as ⟨[], []⟩ fun v m => match m with
    | ⟨[], []⟩ => bif ((!(args.any TV.hasOwn) || v.flat) && v.plainB) then K v ⟨tmps, boxes, rows⟩ else none
    | _ => none
   | none => none
  | none => none
 | .callM f args => match C.spec f with
  | some g =>
   Qcm (reachN boxes 4 (Qcs (cat AC.keys (cat TV.cellsOf args)) [])) fun keys =>
   Qcm (idsOf boxes (cat TV.cellsOf args) keys) fun ids =>
   bif allB (TV.inK keys ids) args && allB (fun k => allB (AC.inK keys ids) (Qgq boxes k)) keys && Qco keys && Qco ids then
    match subB boxes (fun k => base + pos keys k) (fun i => base + pos ids i) base keys, subR rows base ids with
    | some mb, some mr => g R (args.map (TV.ren (fun k => base + pos keys k) (fun i => base + pos ids i))) ⟨mb, mr⟩ fun v m => match m with
     | ⟨mb', mr'⟩ =>
      Qcm (Qdq keys mb') fun fk => Qcm (Qdq ids mr') fun fi =>
      bif allB (fun p : Nat × Box => Qm7 mb' p.1) mb && Qco (mb'.map (·.1)) && Qco (mr'.map (·.1)) && allB (fun k => noKey boxes (Qi1 keys fk (dst.getD 0) k)) fk && allB (fun k => noKey rows (Qi1 ids fi (dst.getD 0) k)) fi && Nat.ble fk.length 100 && Nat.ble fi.length 100 then
       Qcm (tmps.map (killAll ids)) fun tmps' =>
       Qcm (insB (Qi1 keys fk (dst.getD 0)) (Qi1 ids fi (dst.getD 0)) mb' ((Qmd keys boxes).map fun p => (p.1, Qgk ids p.2))) fun boxes' =>
       Qcm (insR (Qi1 ids fi (dst.getD 0)) mr' (Qmd ids rows)) fun rows' =>
       K (v.ren (Qi1 keys fk (dst.getD 0)) (Qi1 ids fi (dst.getD 0))) ⟨tmps', boxes', rows'⟩
      else none
    | _, _ => none
   else none
  | none => none
 | .callD f args => match C.spec f with
  | some g =>
   Qcm (Qcs (cat AC.keys (cat TV.cellsOf args)) []) fun keys =>
   bif allB (TV.inK keys []) args && allB (fun k => allB AC.calm (Qgq boxes k)) keys && Qco keys then
    match subB boxes (fun k => base + pos keys k) (fun i => base + pos [] i) base keys with
    | some mb => g R (args.map (TV.ren (fun k => base + pos keys k) (fun i => base + pos [] i))) ⟨mb, []⟩ fun v m => match m with
     | ⟨mb', []⟩ =>
      bif allB (fun p : Nat × Box => Qm7 mb' p.1) mb && allB (fun p : Nat × Box => Qm7 mb p.1) mb' && Qco (mb'.map (·.1)) && allB (fun p : Nat × Box => allB AC.calm p.2.cells) mb' && v.plainB then
       Qcm (Qh8 keys mb' boxes) fun boxes' => K v ⟨tmps, boxes', rows⟩
      else none
     | ⟨_, _ :: _⟩ => none
    | none => none
   else none
  | none => none
 | .callF f args => match C.spec f with
  | some g => bif allB TV.plainB args then g R args ⟨[], []⟩ fun v m => match m with
   | ⟨[], []⟩ => bif v.plainB then K v ⟨tmps, boxes, rows⟩ else none
   | ⟨[], [(k, r)]⟩ => match v with
    | .v false [.own j _ _] => bif Nat.beq j k then (match look rows (mkKey (dst.getD 0)) with
     | some _ => none
     | none => Qcm (ins rows (mkKey (dst.getD 0)) r) fun rows' => K (.c (.own (mkKey (dst.getD 0)) r.ks.length r.l.length)) ⟨tmps, boxes, rows'⟩) else none
    | _ => none
   | _ => none
   else none
  | none => none

def guardK (ops : List Oper) (o : Oper) (s : St) (run skip : St -> Option R) : Option R :=
 match o.guard with
 | none => run s
 | some (j, want) => match ops[j]? with
  | some oj => match oj.dst with
   | some t => match nth .dead s.tmps t with
    | .v false [.bool g] => cond g (put s (some t) (.c (.bool true)) (bif want then run else skip)) (put s (some t) (.c (.bool false)) (bif want then skip else run))
    | .tup [] => skip s
    | _ => none
   | none => none
  | none => none

def promStep (k o : Nat) (e : TypeId) (s : St) (K : St -> Option R) : Option R := match s with
 | ⟨tmps, boxes, rows⟩ => match look boxes k with
  | some b => match nth .dead b.cells o with
   | .nilSl => match kindsT P 8 e with
    | some ks => bif Nat.ble 1 ks.length && noKey rows (1000000 + 1000 * k + o) then
      Qcm (ins rows (1000000 + 1000 * k + o) ⟨e, ks, []⟩) fun rows' => Qcm (setL b.cells o (.own (1000000 + 1000 * k + o) ks.length 0)) fun cells => Qcm (upd boxes k ⟨b.ty, cells⟩) fun boxes' => K ⟨tmps, boxes', rows'⟩
     else none
    | none => none
   | _ => K ⟨tmps, boxes, rows⟩
  | none => K ⟨tmps, boxes, rows⟩
def promL : List (Nat × Nat × TypeId) -> St -> (St -> Option R) -> Option R
 | [], s, K => K s
 | (k, o, e) :: l, s, K => promStep P k o e s fun s' => promL l s' K
def Qme : List Kd -> List AC -> List AC
 | .sl ks :: l, .nilSl :: cs => .view ks [] :: Qme l cs
 | _ :: l, a :: cs => a :: Qme l cs
 | _, cs => cs
def fitBox (b : Box) : Box := match kindsT P 8 b.ty with
 | some ks => ⟨b.ty, Qme ks b.cells⟩
 | none => b
def tidyK (s : St) (K : St -> Option R) : Option R :=
 promL P (cat (fun p : Nat × Box => bif Qej C.ownBut p.1 then [] else (C.ownOff p.2.ty).map fun q => (p.1, q.1, q.2)) s.boxes) s fun s' => match s' with
  | ⟨tmps, boxes, rows⟩ => Qcm (boxes.map fun p => (p.1, fitBox P p.2)) fun boxes' => K ⟨tmps, boxes', rows⟩

def isRp : TV -> Bool
 | .v false [.rptr _ _ _] => true
 | _ => false
def preIds (ev : Operand -> TV) (o : Op) : List Nat :=
 match o with
 | .slice _ x _ _ _ => cat AC.ids (TV.cellsOf (ev x))
 | .store _ a x => bif C.fstore || isRp (ev a) then cat AC.ids (TV.cellsOf (ev x)) else []
 | .buildSlice _ _ parts => cat AC.ids (cat TV.cellsOf (parts.toList.map fun p => ev p.2))
 | .makeFunc _ a b => cat AC.ids (cat TV.cellsOf (evalL ev a.toList ++ evalL ev b.toList))
 | .call c => match c.callee with
  | .value (.func f) => bif C.lend f then [] else cat AC.ids (cat TV.cellsOf (evalL ev c.args.toList))
  | .value _ => cat AC.ids (cat TV.cellsOf (evalL ev c.args.toList))
  | _ => []
 | _ => []
def isCallM (o : Op) : Bool := match o with
 | .call c => match c.callee with
  | .value (.func f) => !(C.pure f)
  | .value _ => true
  | _ => false
 | _ => false
def preK (o : Op) (s : St) (K : St -> Option R) : Option R :=
 freezeK (preIds C (evOf s.tmps) o) s fun s' => bif isCallM C o then tidyK P C s' K else K s'

def operK (pre : Bool) (ops : List Oper) (o : Oper) (s : St) (K : Option Prim -> St -> Option R) : Option R :=
 guardK ops o s
  (fun s => (bif pre then preK P C o.op s else fun K => K s) fun s => opK P C (evOf s.tmps) o.dst o.op fun p => memK C o.dst (p.dr pre) s fun v s' => put s' o.dst v (K (some (p.dr pre))))
  (fun s => put s o.dst (.tup []) (K none))

def Prim.simple : Option Prim -> Bool
 | none => true
 | some (.val _) => true
 | some (.load _ _ _ _) => true
 | some (.store _ _ _) => true
 | some (.new _ _) => true
 | some (.newView _ _ _) => true
 | some (.rload _ _ _ _ _) => true
 | some (.call _ _) => true
 | some (.callD _ _) => true
 | some (.callF _ _) => true
 | some (.newRow _ _ _) => true
 | some (.appD _ _ _ _ _) => true
 | _ => false

def AC.live : AC -> Bool
 | .int _ _ | .bool _ | .raw _ | .nilSl | .view _ _ | .ptr _ _ => true
 | _ => false
def Prim.isPtr : Option Prim -> Bool
 | some (.val (.v false [.ptr _ _])) => true
 | _ => false
def Prim.isLive : Option Prim -> Bool
 | some (.val (.v _ cs)) => allB AC.live cs
 | _ => false
def Prim.still (o : Op) (p : Option Prim) : Bool := match o with
 | .move _ => Prim.isLive p
 | .nilCheck _ => Prim.isPtr p
 | .fieldAddr _ _ _ => Prim.isPtr p
 | _ => false
def Prim.isApp : Option Prim -> Bool
 | some (.appD _ _ _ _ _) => true
 | _ => false
def Prim.isMk : Option Prim -> Bool
 | some (.newRow _ _ _) => true
 | some (.callF _ _) => true
 | _ => false
def Prim.mkStill : Option Prim -> Bool
 | none => true
 | some (.val _) => true
 | some (.load _ _ _ _) => true
 | some (.newView _ _ _) => true
 | some (.call _ args) => allB TV.plainB args
 | some (.newRow _ _ _) => true
 | some (.callF _ _) => true
 | _ => false
def appOk (y : Oper) (py : Option Prim) (x : Oper) (px : Option Prim) : Bool :=
 bif Prim.isApp py then !(Prim.isApp px) && y.guard.isNone && x.guard.isNone && Prim.still x.op px
 else bif Prim.isApp px then y.guard.isNone && x.guard.isNone && Prim.still y.op py
 else bif Prim.isMk py then Prim.mkStill px else bif Prim.isMk px then Prim.mkStill py else true

def Prim.meet : Option Prim -> Option Prim -> Bool
 | some (.load _ _ k _), some (.store k' _ _) => Nat.beq k k'
 | some (.store k _ _), some (.load _ _ k' _) => Nat.beq k k'
 | some (.store k _ _), some (.store k' _ _) => Nat.beq k k'
 | some (.callD _ as), some (.load _ _ k _) => Qej (Qcs (cat AC.keys (cat TV.cellsOf as)) []) k
 | some (.callD _ as), some (.store k _ _) => Qej (Qcs (cat AC.keys (cat TV.cellsOf as)) []) k
 | some (.load _ _ k _), some (.callD _ as) => Qej (Qcs (cat AC.keys (cat TV.cellsOf as)) []) k
 | some (.store k _ _), some (.callD _ as) => Qej (Qcs (cat AC.keys (cat TV.cellsOf as)) []) k
 | some (.callD _ _), some (.callD _ _) => true
 | _, _ => false

def seqK (ops : List Oper) : List Oper -> St -> (St -> Option R) -> Option R
 | [], s, K => K s
 | o :: l, s, K => operK P C true ops o s fun _ s' => seqK ops l s' K

def maskE (m : List Nat) : List Edge -> Nat -> Nat
 | [], acc => acc
 | e :: l, acc => maskE m l (bif Region.binds .any e then Nat.lor acc (Nat.lor (2 ^ e.on) (nth 0 m e.on)) else acc)
def forceN {α : Type} (n : Nat) (K : Nat -> α) : α := match n with
 | 0 => K 0
 | n + 1 => K (n + 1)
def masksK : List Oper -> List Nat -> (List Nat -> Option R) -> Option R
 | [], m, K => K m
 | o :: l, m, K => forceN (maskE m o.after.toList 0) fun x => Qcm (m ++ [x]) fun m' => masksK l m' K
def ahead (m : List Nat) (i j : Nat) : Bool := Nat.testBit (nth 0 m i) j
def wildOp : Op -> Bool
 | .call _ => true
 | .makeSlice _ _ _ => true
 | .buildSlice _ _ _ => true
 | .store _ _ _ => true
 | .slice _ _ _ _ _ => true
 | _ => false
def wildI (ops : List Oper) (m : List Nat) (i : Nat) : Bool := match ops[i]? with
 | some o => wildOp o.op && allB (fun j => Nat.beq j i || ahead m i j || ahead m j i) (List.range ops.length)
 | none => false

def drawK (ops : List Oper) (m : List Nat) : List Oper -> Nat -> St -> (List (Oper × Option Prim) -> St -> Option R) -> Option R
 | [], _, s, K => K [] s
 | o :: l, i, s, K => operK P C (wildI ops m i) ops o s fun p s' => drawK ops m l (i + 1) s' fun rest sf => K ((o, p) :: rest) sf

def drawOk (ops : Array Oper) (m : List Nat) : Nat -> List (Nat × Oper × Option Prim) -> List (Oper × Option Prim) -> Bool
 | _, _, [] => true
 | i, earlier, (o, p) :: l =>
  bif (wildI ops.toList m i || Prim.simple p) && o.after.toList.all (fun e => !(Region.binds .any e) || Nat.blt e.on i) && allB (fun y : Nat × Oper × Option Prim => ahead m i y.1 || (!(wildI ops.toList m i) && !(wildI ops.toList m y.1) && (Oper.apart ops y.2.1 o && !(Prim.meet y.2.2 p) && appOk y.2.1 y.2.2 o p))) earlier then drawOk ops m (i + 1) (earlier ++ [(i, o, p)]) l else false

def regK (ops : Array Oper) (draw : Bool) (s : St) (K : St -> Option R) : Option R :=
 bif draw then masksK ops.toList [] fun m => drawK P C ops.toList m ops.toList 0 s fun acc s' => bif drawOk ops m 0 [] acc then K s' else none
 else seqK P C ops.toList ops.toList s K

def promoteK : List (Nat × TypeId) -> St -> (St -> Option R) -> Option R
 | [], s, K => K s
 | (t, e) :: l, ⟨tmps, boxes, rows⟩, K => match nth .dead tmps t with
  | .v false [.nilSl] => match look rows t, kindsT P 8 e with
   | none, some ks => bif Nat.ble 1 ks.length then Qcm (setL tmps t (.c (.own t ks.length 0))) fun tmps' => Qcm (ins rows t ⟨e, ks, []⟩) fun rows' => promoteK l ⟨tmps', boxes, rows'⟩ K else none
   | _, _ => none
  | _ => promoteK l ⟨tmps, boxes, rows⟩ K

def ptrsEq : List (Nat × Nat) -> List AC -> Bool
 | [], [] => true
 | (k, o) :: l, .ptr k' o' :: cs => Nat.beq k k' && Nat.beq o o' && ptrsEq l cs
 | _, _ => false
def readC : CS -> AC -> Option (List AC)
 | .any, _ => some []
 | .int k, .int k' n => bif kEq k k' then some [.int k n] else none
 | .bool, .bool b => some [.bool b]
 | .sl ks, .nilSl => some [.view ks []]
 | .sl ks, .view ks' l => bif kdsEq ks ks' then some [.view ks l] else none
 | .rawc, .raw v => some [.raw v]
 | .nil, .nilSl => some []
 | .ptr k o, .ptr k' o' => bif Nat.beq k k' && Nat.beq o o' then some [] else none
 | .own id w, .own id' w' _ => bif Nat.beq id id' && Nat.beq w w' then some [] else none
 | .clo f fs cs, .clo f' fs' cs' => bif Nat.beq f f' && ptrsEq fs fs' && ptrsEq cs cs' then some [] else none
 | _, _ => none
def readCs : List CS -> List AC -> Option (List AC)
 | [], [] => some []
 | c :: cs, a :: as => match readC c a with
  | some v => match readCs cs as with
   | some vs => some (v ++ vs)
   | none => none
  | none => none
 | _, _ => none
def readPs : List (Bool × List CS) -> List (Bool × List AC) -> Option (List AC)
 | [], [] => some []
 | (g, cs) :: l, (g', as) :: m => bif g == g' then (match readCs cs as with
  | some v => match readPs l m with
   | some vs => some (v ++ vs)
   | none => none
  | none => none) else none
 | _, _ => none
def readT : TS -> TV -> Option (List AC)
 | .dead, _ => some []
 | .v g cs, .v g' as => bif g == g' then readCs cs as else none
 | .tup ps, .tup qs => readPs ps qs
 | _, _ => none
def readTs : List TS -> List TV -> Option (List AC)
 | [], [] => some []
 | t :: ts, v :: vs => match readT t v with
  | some a => match readTs ts vs with
   | some l => some (a ++ l)
   | none => none
  | none => none
 | _, _ => none
def readBs : List (Nat × TypeId × List CS) -> List (Nat × Box) -> Option (List AC)
 | [], _ => some []
 | (k, t, cs) :: l, boxes => match look boxes k with
  | some b => bif Nat.beq t b.ty then (match readCs cs b.cells with
   | some v => match readBs l boxes with
    | some vs => some (v ++ vs)
    | none => none
   | none => none) else none
  | none => none
def readRs : List (Nat × TypeId × List Kd) -> List (Nat × Row) -> Option (List AC)
 | [], _ => some []
 | (k, t, ks) :: l, rows => match look rows k with
  | some r => bif Nat.beq t r.ty && kdsEq ks r.ks then (match readRs l rows with
    | some vs => some (.view ks r.l :: vs)
    | none => none) else none
  | none => none
def isIn (k : Nat) : Bool := Nat.ble base k && Nat.blt k 100000
def readS (sk : Sk) (s : St) : Option (List AC) := match s with
 | ⟨tmps, boxes, rows⟩ => bif allB (fun p : Nat × Box => !(isIn p.1) || Qej (sk.boxes.map (·.1)) p.1) boxes then (match readRs sk.rows rows with
  | some a => match readTs sk.tmps tmps with
   | some b => match readBs sk.boxes boxes with
    | some c => some (a ++ (b ++ c))
    | none => none
   | none => none
  | none => none) else none

def ptrsOf : List (Nat × Nat) -> List AC
 | [] => []
 | (k, o) :: l => .ptr k o :: ptrsOf l
def buildC (rl : Nat -> Nat) (l : List AC) : CS -> Nat -> AC × Nat
 | .any, i => (.dead, i)
 | .int k, i => (.int k (Qav (nth .dead l i)), i + 1)
 | .bool, i => (.bool (boolOf (nth .dead l i)), i + 1)
 | .sl ks, i => (.view ks (rowsOf (nth .dead l i)), i + 1)
 | .rawc, i => (canonC .raw (nth .dead l i), i + 1)
 | .nil, i => (.nilSl, i)
 | .ptr k o, i => (.ptr k o, i)
 | .own id w, i => (.own id w (rl id), i)
 | .clo f fs cs, i => (.clo f (ptrsOf fs) (ptrsOf cs), i)
def Qix (rl : Nat -> Nat) (l : List AC) : List CS -> Nat -> List AC × Nat
 | [], i => ([], i)
 | c :: cs, i => match buildC rl l c i with
  | (a, i') => match Qix rl l cs i' with
   | (as, i'') => (a :: as, i'')
def buildPs (rl : Nat -> Nat) (l : List AC) : List (Bool × List CS) -> Nat -> List (Bool × List AC) × Nat
 | [], i => ([], i)
 | (g, cs) :: ps, i => match Qix rl l cs i with
  | (as, i') => match buildPs rl l ps i' with
   | (qs, i'') => ((g, as) :: qs, i'')
def buildT (rl : Nat -> Nat) (l : List AC) : TS -> Nat -> TV × Nat
 | .dead, i => (.dead, i)
 | .v g cs, i => match Qix rl l cs i with
  | (as, i') => (.v g as, i')
 | .tup ps, i => match buildPs rl l ps i with
  | (qs, i') => (.tup qs, i')
def Qna (rl : Nat -> Nat) (l : List AC) : List TS -> Nat -> List TV × Nat
 | [], i => ([], i)
 | t :: ts, i => match buildT rl l t i with
  | (v, i') => match Qna rl l ts i' with
   | (vs, i'') => (v :: vs, i'')
def Qno (rl : Nat -> Nat) (l : List AC) : List (Nat × TypeId × List CS) -> Nat -> List (Nat × Box)
 | [], _ => []
 | (k, t, cs) :: bs, i => match Qix rl l cs i with
  | (as, i') => (k, ⟨t, as⟩) :: Qno rl l bs i'
def buildRs (l : List AC) : List (Nat × TypeId × List Kd) -> Nat -> List (Nat × Row) × Nat
 | [], i => ([], i)
 | (k, t, ks) :: rs, i => match buildRs l rs (i + 1) with
  | (q, i') => ((k, ⟨t, ks, rowsOf (nth .dead l i)⟩) :: q, i')
def rlOf (rows : List (Nat × Row)) (id : Nat) : Nat := match look rows id with
 | some r => r.l.length
 | none => 0
def Qkv (sk : Sk) (vars : List AC) : St := match buildRs vars sk.rows 0 with
 | (rows, i) => match Qna (rlOf rows) vars sk.tmps i with
  | (tmps, i') => ⟨tmps, Qno (rlOf rows) vars sk.boxes i', rows⟩

def CS.okB (keys : List Nat) (rows : List (Nat × TypeId × List Kd)) : CS -> Bool
 | .ptr k _ => Qej keys k
 | .own id w => match look rows id with
  | some (_, ks) => Nat.beq ks.length w
  | none => false
 | .clo _ fs cs => allB (fun p : Nat × Nat => Qej keys p.1) fs && allB (fun p : Nat × Nat => Qej keys p.1) cs
 | _ => true
def TS.okB (keys : List Nat) (rows : List (Nat × TypeId × List Kd)) : TS -> Bool
 | .dead => true
 | .v _ cs => allB (CS.okB keys rows) cs
 | .tup ps => allB (fun p : Bool × List CS => allB (CS.okB keys rows) p.2) ps
def Sk.okB (sk : Sk) : Bool :=
 Qco (sk.boxes.map (·.1)) && Qco (sk.rows.map (·.1)) && allB (TS.okB (sk.boxes.map (·.1)) sk.rows) sk.tmps && allB (fun p : Nat × TypeId × List CS => allB (CS.okB (sk.boxes.map (·.1)) sk.rows) p.2.2) sk.boxes

def notP (d : Nat) : AC -> Bool
 | .ptr k _ => !(Nat.beq k d)
 | _ => true
def AC.killP (d : Nat) : AC -> AC
 | .ptr k o => bif Nat.beq k d then .dead else .ptr k o
 | .clo f fs cs => bif allB (notP d) fs && allB (notP d) cs then .clo f fs cs else .dead
 | a => a
def TV.mapC (f : AC -> AC) : TV -> TV
 | .v g cs => .v g (cs.map f)
 | .tup ps => .tup (ps.map fun p => (p.1, p.2.map f))
 | .dead => .dead
def newKeys : List Oper -> List Nat
 | [] => []
 | o :: l => match o.op, o.dst with
  | .alloc _, some d => d :: newKeys l
  | .box _ _, some d => d :: newKeys l
  | _, _ => newKeys l
def forgetK : List Nat -> St -> (St -> Option R) -> Option R
 | [], s, K => K s
 | d :: l, ⟨tmps, boxes, rows⟩, K => match look boxes d with
  | none => forgetK l ⟨tmps, boxes, rows⟩ K
  | some _ => bif isIn d then none else Qcm (tmps.map (TV.mapC (AC.killP d))) fun tmps' => Qcm ((del d boxes).map fun p => (p.1, (⟨p.2.ty, p.2.cells.map (AC.killP d)⟩ : Box))) fun boxes' => forgetK l ⟨tmps', boxes', rows⟩ K

def loopN (step : St -> (Ex -> St -> Option R) -> Option R) : Nat -> St -> (Ex -> St -> Option R) -> Option R
 | 0, _, _ => none
 | n + 1, s, K => step s fun
  | .normal, s' => tidyK P C s' fun s' => loopN step n s' K
  | .exit id, s' => K (.exit id) s'
  | .ret, s' => K .ret s'

def toldK (a : Option (Sk × VSpec)) (s : St) (K : Ex -> St -> Option R) (run : Option R) : Option R := match a with
 | none => run
 | some (sk, g) => bif sk.okB then (match readS sk s with
  | some vars => g R vars K
  | none => none) else none
def condTold (C : Cfg) (c : Operand) : Option (Sk × VSpec) := match c with
 | .tmp t => C.conds t
 | _ => none

def firstReg : Code -> Option Nat
 | .region id _ _ => some id
 | .seq a b => match firstReg a with
  | some n => some n
  | none => firstReg b
 | .cond _ a b => match firstReg a with
  | some n => some n
  | none => firstReg b
 | .block _ b => firstReg b
 | .loop b => firstReg b
 | _ => none
def loopKey (body : Code) : Nat := match firstReg body with
 | some n => n
 | none => 0

def codeK (L : Nat) : Code -> Nat -> St -> (Ex -> St -> Option R) -> Option R
 | .skip, _, s, K => K .normal s
 | .region _ ops draw, _, s, K => forgetK (newKeys ops.toList) s fun s => regK P C ops draw s (K .normal)
 | .seq a b, blk, s, K => codeK L a blk s fun
  | .normal, s' => codeK L b blk s' K
  | .exit id, s' => K (.exit id) s'
  | .ret, s' => K .ret s'
 | .cond c x y, blk, s, K => toldK (condTold C c) s K (match evOf s.tmps c with
  | .v false [.bool g] => match c with
   | .tmp t => cond g (put s (some t) (.c (.bool true)) fun s' => codeK L x blk s' K) (put s (some t) (.c (.bool false)) fun s' => codeK L y blk s' K)
   | _ => cond g (codeK L x blk s K) (codeK L y blk s K)
  | _ => none)
 | .block id body, _, s, K => toldK (C.blocks id) s K (codeK L body id s fun
  | .normal, s' => K .normal s'
  | .exit i, s' => bif Nat.beq i id then K .normal s' else K (.exit i) s'
  | .ret, s' => K .ret s')
 | .loop body, blk, s, K => promoteK P (C.prom (loopKey body)) s fun s' =>
   tidyK P C s' fun s' => toldK (C.loops (loopKey body)) s' K (loopN P C (fun s K => codeK L body blk s K) L s' K)
 | .exit id, _, s, K => K (.exit id) s
 | .ret, _, s, K => K .ret s
 | _, _, _, _ => none

def exEq : Ex -> Ex -> Bool
 | .normal, .normal => true
 | .exit i, .exit j => Nat.beq i j
 | .ret, .ret => true
 | _, _ => false
def readX : List (Ex × Sk) -> Nat -> Ex -> St -> Option (Nat × List AC)
 | [], _, _, _ => none
 | (e, sk) :: l, i, e', s => bif exEq e e' && sk.okB then (match readS sk s with
  | some vars => some (i, vars)
  | none => none) else readX l (i + 1) e' s
def pickX (o : List AC) (K : Ex -> St -> Option R) : List (Ex × Sk) -> Nat -> Nat -> Option R
 | [], _, _ => none
 | (e, sk) :: l, i, n => bif Nat.beq n i then K e (Qkv sk o) else pickX o K l (i + 1) n
def gOf (exits : List (Ex × Sk)) (m : List AC -> Option (Nat × List AC)) : VSpec := fun _ vars K => (m vars).bind fun o => pickX o.2 K exits 1 o.1

def stepL (L blk : Nat) (body : Code) (sk : Sk) (exits : List (Ex × Sk)) (vars : List AC) : Option (Nat × List AC) :=
 codeK P C L body blk (Qkv sk vars) fun e s' => match e with
  | .normal => tidyK P C s' fun s' => match readS sk s' with
   | some vars => some (0, vars)
   | none => none
  | .exit i => readX exits 1 (.exit i) s'
  | .ret => readX exits 1 .ret s'
def loopF (step : List AC -> Option (Nat × List AC)) : Nat -> List AC -> Option (Nat × List AC)
 | 0, _ => none
 | n + 1, vars => (step vars).bind fun o => if o.1 = 0 then loopF step n o.2 else some o
def blockM (L id : Nat) (body : Code) (sk : Sk) (exits : List (Ex × Sk)) (vars : List AC) : Option (Nat × List AC) :=
 codeK P C L body id (Qkv sk vars) fun
  | .normal, s' => readX exits 1 .normal s'
  | .exit i, s' => bif Nat.beq i id then readX exits 1 .normal s' else readX exits 1 (.exit i) s'
  | .ret, s' => readX exits 1 .ret s'
def resultOf (s : St) : ResultVar -> Option TV
 | .tmp t => match nth .dead s.tmps t with
  | .v g cs => some (.v g cs)
  | _ => none
 | .cell a t => match nth .dead s.tmps a, Qgv P t, szT P t with
  | .v false [.ptr key off], some g, some sz => match look s.boxes key with
   | some b => Qgi g sz b.cells off
   | none => none
  | _, _, _ => none

def resultL (s : St) : List ResultVar -> Option (List (Bool × List AC))
 | [] => some []
 | r :: l => match resultOf P s r with
  | some (.v g cs) => match resultL s l with
   | some ps => some ((g, cs) :: ps)
   | none => none
  | _ => none

def fitRes : List TypeId -> List (Bool × List AC) -> List (Bool × List AC)
 | t :: ts, (g, cs) :: l => (g, match kindsT P 8 t with
  | some ks => Qme ks cs
  | none => cs) :: fitRes ts l
 | _, l => l
def tupOf : List (Bool × List AC) -> TV
 | [(g, cs)] => .v g cs
 | ps => .tup ps

def finK (fn : Func) (keys0 : List Nat) (s : St) (K : TV -> Mem -> Option R) : Option R :=
 match resultL P s fn.results.toList with
 | none => none
 | some ps => (bif C.ownRes then fun K => K s else freezeK (cat (fun p : Bool × List AC => cat AC.ids p.2) ps) s) fun s1 => tidyK P C s1 fun s1 =>
  match resultL P s1 fn.results.toList with
  | none => none
  | some ps => match s1 with
   | ⟨_, boxes, rows⟩ =>
    Qcm (fitRes P fn.resultTypes.toList ps) fun ps =>
    Qcm (reachN boxes 4 (Qcs (cat (fun p : Bool × List AC => cat AC.keys p.2) ps) keys0)) fun keys =>
    Qcm (idsOf boxes (cat (fun p : Bool × List AC => p.2) ps) keys) fun ids =>
    Qcm (boxes.filter fun p => Qej keys p.1) fun boxes' =>
    Qcm (rows.filter fun p => Qej ids p.1) fun rows' =>
    bif allB (fun p : Bool × List AC => allB (AC.inK keys ids) p.2) ps && allB (fun p : Nat × Box => allB (AC.inK keys ids) p.2.cells) boxes' && allB (Qm7 boxes) keys0 && allB (Qej keys) keys0 then K (tupOf ps) ⟨boxes', rows'⟩ else none

def funM (L : Nat) (f : FuncId) (args : List TV) (mem : Mem) (K : TV -> Mem -> Option R) : Option R :=
 match P.funcs.toList[f]? with
 | some fn => match fn.body with
  | some c => bif allB (fun p : Nat × Box => isIn p.1) mem.boxes then
    Qcm (args ++ List.replicate (fn.ntmps - args.length) TV.dead) fun tmps =>
     codeK P C L c 0 ⟨tmps, mem.boxes, mem.rows⟩ fun e s => match e with
      | .normal => finK P C fn (mem.boxes.map (·.1)) s K
      | .ret => finK P C fn (mem.boxes.map (·.1)) s K
      | .exit _ => none
   else none
  | none => none
 | none => none

def Qbl : Code -> Nat -> List (Nat × Code)
 | .seq a b, blk => Qbl a blk ++ Qbl b blk
 | .cond _ a b, blk => Qbl a blk ++ Qbl b blk
 | .block _ b, blk => Qbl b blk
 | .loop b, blk => (loopKey b, b) :: Qbl b blk
 | _, _ => []
def Qbc : Code -> List (Nat × Code)
 | .seq a b => Qbc a ++ Qbc b
 | .cond _ a b => Qbc a ++ Qbc b
 | .block id b => (id, b) :: Qbc b
 | .loop b => Qbc b
 | _ => []
def Qcg : Code -> Nat -> List (Nat × Nat × Code × Code)
 | .seq a b, blk => Qcg a blk ++ Qcg b blk
 | .cond (.tmp t) a b, blk => (t, 0, a, b) :: (Qcg a blk ++ Qcg b blk)
 | .cond _ a b, blk => Qcg a blk ++ Qcg b blk
 | .block _ b, blk => Qcg b blk
 | .loop b, blk => Qcg b blk
 | _, _ => []

def codeOf (f : FuncId) : Option Code :=
 match P.funcs.toList[f]? with
 | some fn => fn.body
 | none => none
def fnLoops (f : FuncId) : List (Nat × Code) := match codeOf P f with
 | some c => Qbl c 0
 | none => []
def fnBlocks (f : FuncId) : List (Nat × Code) := match codeOf P f with
 | some c => Qbc c
 | none => []
def fnConds (f : FuncId) : List (Nat × Nat × Code × Code) := match codeOf P f with
 | some c => Qcg c 0
 | none => []

def Qat (L : Nat) (f : FuncId) (sig osig : Sk) (vars : List AC) : Option (List AC) := match Qkv sig vars with
 | ⟨args, boxes, rows⟩ => funM P C L f args ⟨boxes, rows⟩ fun v m => match m with
  | ⟨b, r⟩ => readS osig ⟨[v], b, r⟩
end prog

def spOf (sig osig : Sk) (m : List AC -> Option (List AC)) : Spec := fun R args mem K => match mem with
 | ⟨boxes, rows⟩ => bif allB (fun p : Nat × Box => isIn p.1) boxes then (match readS sig ⟨args, boxes, rows⟩ with
  | some vars => (m vars).bind fun o => match Qkv osig o with
   | ⟨tm, b, r⟩ => match tm with
    | [v] => K v ⟨b, r⟩
    | _ => none
  | none => none) else none
def Qhz (P : Program) (f blk : Nat) : Code := match look (fnLoops P f) blk with
 | some c => c
 | none => .skip
def blockOf (P : Program) (f id : Nat) : Code := match look (fnBlocks P f) id with
 | some c => c
 | none => .skip

def Cfg.loop (C : Cfg) (blk : Nat) (sk : Sk) (exits : List (Ex × Sk)) (m : List AC -> Option (Nat × List AC)) : Cfg :=
 { C with loops := fun b => bif Nat.beq b blk then some (sk, gOf exits m) else C.loops b }
def Cfg.block (C : Cfg) (id : Nat) (sk : Sk) (exits : List (Ex × Sk)) (m : List AC -> Option (Nat × List AC)) : Cfg :=
 { C with blocks := fun b => bif Nat.beq b id then some (sk, gOf exits m) else C.blocks b }

end Go.Bm
