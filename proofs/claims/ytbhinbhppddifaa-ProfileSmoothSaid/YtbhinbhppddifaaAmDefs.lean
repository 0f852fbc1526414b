/- The abstract machine: definitions. A Go function's code is evaluated over values that may hold Lean variables; the kernel does the evaluation. -/
import Derived.WalkKit
import Derived.ProofKit
namespace Go.Am

/-- What one cell may hold. -/
inductive AC where
  | dead
  | int (k : IntKind) (n : Int)
  | bool (b : Bool)
  | raw (v : Value)
  | nilSl
  | ptr (key off : Nat)
  | own (id w n : Nat)
  | view (n w : Nat) (f : Nat → List AC)
  | rptr (id idx sub : Nat)
  | vptr (cells : List AC) (sub : Nat)

/-- What a slot may hold: cells (of a struct or an array, or just one), a call's several results, or nothing known. -/
inductive TV where
  | dead
  | v (g : Bool) (cs : List AC)
  | tup (ps : List (Bool × List AC))

abbrev TV.c (a : AC) : TV := .v false [a]
abbrev TV.agg (cs : List AC) : TV := .v true cs

structure Box where
  ty : TypeId
  cells : List AC

structure Row where
  ty : TypeId
  w : Nat
  n : Nat
  f : Nat → List AC

structure St where
  tmps : List TV
  boxes : List (Nat × Box)
  rows : List (Nat × Row)

variable {R : Type}

def nth {α : Type} (d : α) : List α → Nat → α
  | [], _ => d
  | x :: _, 0 => x
  | _ :: xs, n + 1 => nth d xs n

def setL {α : Type} : List α → Nat → α → List α
  | [], _, _ => []
  | _ :: xs, 0, v => v :: xs
  | x :: xs, n + 1, v => x :: setL xs n v

def forceL {α : Type} : List α → (List α → Option R) → Option R
  | [], K => K []
  | x :: xs, K => forceL xs fun ys => K (x :: ys)

def look {α : Type} : List (Nat × α) → Nat → Option α
  | [], _ => none
  | (k, b) :: l, key => bif Nat.beq k key then some b else look l key

def upd {α : Type} : List (Nat × α) → Nat → α → List (Nat × α)
  | [], _, _ => []
  | (k, b) :: l, key, x => bif Nat.beq k key then (k, x) :: l else (k, b) :: upd l key x

def ins {α : Type} : List (Nat × α) → Nat → α → List (Nat × α)
  | [], key, x => [(key, x)]
  | (k, b) :: l, key, x => bif Nat.blt key k then (key, x) :: (k, b) :: l else (k, b) :: ins l key x

/-- cells off .. off + m of a list -/
def cut {α : Type} (l : List α) (off m : Nat) : List α := (l.drop off).take m

def splice {α : Type} : List α → Nat → List α → List α
  | l, _, [] => l
  | [], _, _ :: _ => []
  | _ :: xs, 0, v :: vs => v :: splice xs 0 vs
  | x :: xs, n + 1, v :: vs => x :: splice xs n (v :: vs)

/-- a constant's cell -/
def ofConst : Value → AC
  | .int k n => .int k n
  | .bool b => .bool b
  | .slice none 0 0 => .nilSl
  | .string s => .raw (.string s)
  | .pointer none => .raw (.pointer none)
  | .nilFunc => .raw .nilFunc
  | .nilIface => .raw .nilIface
  | _ => .dead

def ofCells : List Value → Option (List AC)
  | [] => some []
  | v :: l => bif v.oneCell' then (match ofCells l with
    | some cs => some (ofConst v :: cs)
    | none => none) else none

def ofValue : Value → TV
  | .agg cs => match ofCells cs.toList with
    | some l => .agg l
    | none => .dead
  | .tuple _ => .dead
  | v => .c (ofConst v)

def TV.cells : TV → Option (List AC)
  | .v _ cs => some cs
  | _ => none

def TV.int? : TV → Option Int
  | .v false [.int _ n] => some n
  | _ => none

def kEq : IntKind → IntKind → Bool
  | .i8, .i8 | .i16, .i16 | .i32, .i32 | .i64, .i64 | .u8, .u8 | .u16, .u16 | .u32, .u32 | .u64, .u64 => true
  | _, _ => false

/-- a cell that names no memory of the call's own -/
def AC.plain : AC → Bool
  | .int _ _ | .bool _ | .raw _ | .nilSl | .view _ _ _ => true
  | _ => false

def allB {α : Type} (p : α → Bool) : List α → Bool
  | [] => true
  | x :: l => bif p x then allB p l else false

inductive Prim where
  | val (v : TV)
  | load (agg : Bool) (sz key off : Nat)
  | store (key off : Nat) (cells : List AC)
  | new (ty : TypeId) (cells : List AC)
  | rload (agg : Bool) (sz id idx sub : Nat)
  | rstore (id idx sub : Nat) (cells : List AC)
  | append (e : TypeId) (w bytes : Nat) (s x : AC)
  | newRow (e : TypeId) (w n : Nat) (f : Nat → List AC)
  | newView (e : TypeId) (w n : Nat) (f : Nat → List AC)
  | call (f : FuncId) (args : List TV)

def mn (x y : Int) : Int := if y < x then y else x
def mx (x y : Int) : Int := if y > x then y else x

def intOp (op : BinOp) (k : IntKind) (a b : Int) (K : AC → Option R) : Option R :=
  match op with
  | .add => K (.int k (k.wrap (a + b)))
  | .sub => K (.int k (k.wrap (a - b)))
  | .mul => K (.int k (k.wrap (a * b)))
  | .quo => cond (decide (b = 0)) none (K (.int k (k.wrap (a.tdiv b))))
  | .rem => cond (decide (b = 0)) none (K (.int k (a.tmod b)))
  | .and => K (.int k (k.wrap ((BitVec.ofInt k.bits a &&& BitVec.ofInt k.bits b).toNat : Int)))
  | .or => K (.int k (k.wrap ((BitVec.ofInt k.bits a ||| BitVec.ofInt k.bits b).toNat : Int)))
  | .xor => K (.int k (k.wrap ((BitVec.ofInt k.bits a ^^^ BitVec.ofInt k.bits b).toNat : Int)))
  | .andNot => K (.int k (k.wrap ((BitVec.ofInt k.bits a &&& ~~~ BitVec.ofInt k.bits b).toNat : Int)))
  | .eql => K (.bool (a == b))
  | .neq => K (.bool (a != b))
  | .lss => K (.bool (decide (a < b)))
  | .leq => K (.bool (decide (a ≤ b)))
  | .gtr => K (.bool (decide (a > b)))
  | .geq => K (.bool (decide (a ≥ b)))
  | .shl => cond (decide (b < 0)) none (K (.int k (k.wrap (a * 2 ^ (min b.toNat k.bits)))))
  | .shr => cond (decide (b < 0)) none (K (.int k (a.fdiv (2 ^ (min b.toNat k.bits)))))

structure Ann where
  keep : Option (List Nat)                 -- the slots that are kept at the loop's head (none: all)
  out : Option (List Nat)                  -- the slots that are kept behind the loop
  promote : List (Nat × TypeId × Nat)      -- slot, element type, width

inductive Ex where
  | normal
  | exit (id : Nat)
  | ret

structure Cfg where
  spec : FuncId → Option (List TV → Option (Bool × TV))
  eqOk : List TypeId
  ann : Nat → Ann
  lspec : Nat → Option (St → List (Bool × Ex × St)) := fun _ => none
  ints : List Nat := []                    -- rows of numbers, told element by element at each loop's head
  views : Bool := false                    -- a literal slice is never written: it is read as one that came in

section prog
variable (P : Program)

def isAggT (t : TypeId) : Option Bool :=
  match P.underlying t with
  | some (.struct _) => some true
  | some (.array _ _) => some true
  | some _ => some false
  | none => none

def szT (t : TypeId) : Option Nat :=
  match P.info? t with
  | some i => some i.size
  | none => none

def zeroT (t : TypeId) : Option (List AC) :=
  match P.info? t with
  | some i => match i.zero with
    | some v => ofCells v.cells.toList
    | none => none
  | none => none

def fieldT (t : TypeId) (i : Nat) : Option Field :=
  match P.underlying t with
  | some (.struct fs) => fs.toList[i]?
  | _ => none

/-- the value that the cells at an address make, by the type -/
def valueAt (agg : Bool) (sz : Nat) (cells : List AC) (off : Nat) : Option TV :=
  bif agg then (bif Nat.ble (off + sz) cells.length then some (.agg (cut cells off sz)) else none)
  else match cells[off]? with
    | some a => some (.c a)
    | none => none

def oneOk (t : TypeId) (n : Nat) : Bool :=
  match isAggT P t with
  | some true => true
  | some false => Nat.beq n 1
  | none => false

/-- == on values of a type whose cells are ints and bools -/
def eqFs {β : Type} (g : β → Option Bool) : List β → Option Bool
  | [] => some true
  | x :: l => match g x with
    | some b => match eqFs g l with
      | some b' => some (b && b')
      | none => none
    | none => none

def eqC (ok : List TypeId) : Nat → TypeId → List AC → List AC → Option Bool
  | 0, _, _, _ => none
  | d + 1, t, xs, ys =>
    match P.underlying t with
    | some .bool => match xs, ys with
      | [.bool a], [.bool b] => some (a == b)
      | _, _ => none
    | some (.int _) => match xs, ys with
      | [.int k a], [.int k' b] => bif kEq k k' then some (a == b) else none
      | _, _ => none
    | some (.struct fs) => bif ok.elem t then eqFs (fun f : Field => bif f.name == "_" then none else match szT P f.type with
        | some n => bif (Nat.ble (f.offset + n) xs.length && Nat.ble (f.offset + n) ys.length && oneOk P f.type n) then eqC ok d f.type (cut xs f.offset n) (cut ys f.offset n) else none
        | none => none) fs.toList else none
    | some (.array n e) => match szT P e with
      | some m => bif (Nat.ble (n * m) xs.length && Nat.ble (n * m) ys.length && oneOk P e m) then eqFs (fun i => eqC ok d e (cut xs (i * m) m) (cut ys (i * m) m)) (List.range n) else none
      | none => none
    | _ => none

/-- an index into an array of known length: one way for each place -/
def pickIdx (i : Int) : (todo k : Nat) → (Nat → Option R) → Option R
  | 0, _, _ => none
  | n + 1, k, K => cond (decide (i = (k : Int))) (K k) (pickIdx i n (k + 1) K)

def partOf (t : TypeId) (cs : List AC) (off : Nat) : Option TV :=
  match isAggT P t, szT P t with
  | some a, some sz => valueAt a sz cs off
  | _, _ => none

def buildParts (place : Nat → Option (Nat × Nat)) : List AC → List (Nat × TV) → Option (List AC)
  | cells, [] => some cells
  | cells, (i, v) :: rest =>
    match place i, v.cells with
    | some (off, size), some cs => bif (Nat.beq cs.length size && Nat.ble (off + size) cells.length) then buildParts place (splice cells off cs) rest else none
    | _, _ => none

def allInts (k : IntKind) : List AC → Option (List Int)
  | [] => some []
  | .int k' n :: l => bif kEq k k' then (match allInts k l with | some ns => some (n :: ns) | none => none) else none
  | _ :: _ => none

/-- the content of a new slice: if all are ints of one kind, so that any index gives an int -/
def litRow (w : Nat) (cells : List AC) : Nat → List AC :=
  match w, cells with
  | 1, .int k n :: l => match allInts k (.int k n :: l) with
    | some ns => fun i => [.int k (nth 0 ns i)]
    | none => fun i => cut cells i 1
  | w, cells => fun i => cut cells (i * w) w

def chunk (zero : List AC) : Nat → List AC
  | 0 => []
  | n + 1 => zero ++ chunk zero n

def foldM (g : Int → Int → Int) (k : IntKind) (a : Int) : List TV → (Prim → Option R) → Option R
  | [], K => K (.val (.c (.int k a)))
  | t :: rest, K => match t with
    | .v false [.int k' b] => bif kEq k k' then foldM g k (g a b) rest K else none
    | _ => none

def builtinK (b : Builtin) (argTypes : List TypeId) (args : List TV) (K : Prim → Option R) : Option R :=
  match b, args with
  | .len, [.v false [.view n _ _]] => match argTypes with
    | t :: _ => match P.underlying t with
      | some (.slice _) => K (.val (.c (.int .i64 (n : Int))))
      | _ => none
    | [] => none
  | .len, [.v false [.own _ _ n]] => match argTypes with
    | t :: _ => match P.underlying t with
      | some (.slice _) => K (.val (.c (.int .i64 (n : Int))))
      | _ => none
    | [] => none
  | .len, [.v false [.nilSl]] => match argTypes with
    | t :: _ => match P.underlying t with
      | some (.slice _) => K (.val (.c (.int .i64 0)))
      | _ => none
    | [] => none
  | .len, [.v true _] => match argTypes with
    | t :: _ => match P.underlying t with
      | some (.array n _) => K (.val (.c (.int .i64 (n : Int))))
      | _ => none
    | [] => none
  | .min, .v false [.int k a] :: rest => foldM mn k a rest K
  | .max, .v false [.int k a] :: rest => foldM mx k a rest K
  | .append, [.c s, .c x] => match argTypes with
    | [t, u] => match P.underlying t, P.underlying u with
      | some (.slice e), some (.slice _) => match P.info? e with
        | some i => match i.zero with
          | some z => bif (Nat.beq t u && Nat.beq z.cells.size i.size) then K (.append e i.size i.bytes s x) else none
          | none => none
        | none => none
      | _, _ => none
    | _ => none
  | _, _ => none

def optInt (ev : Operand → TV) : Option Operand → Option (Option Int)
  | none => some none
  | some x => match (ev x).int? with
    | some n => some (some n)
    | none => none

def evalL (ev : Operand → TV) : List Operand → List TV
  | [] => []
  | x :: l => ev x :: evalL ev l

def evalP (ev : Operand → TV) : List (Nat × Operand) → List (Nat × TV)
  | [] => []
  | x :: l => (x.1, ev x.2) :: evalP ev l

def sizedF (f : Field) : Bool :=
  match szT P f.type with
  | some _ => true
  | none => false

def placeF (fs : List Field) (i : Nat) : Option (Nat × Nat) :=
  match fs[i]? with
  | some f => match szT P f.type with
    | some n => some (f.offset, n)
    | none => none
  | none => none

variable (C : Cfg)

def opK (ev : Operand → TV) (o : Op) (K : Prim → Option R) : Option R :=
  match o with
  | .move x => K (.val (ev x))
  | .assign x => K (.val (ev x))
  | .pick c a b => match ev c with
    | .v false [.bool g] => cond g (K (.val (ev a))) (K (.val (ev b)))
    | _ => none
  | .alloc t => match zeroT P t with
    | some cs => K (.new t cs)
    | none => none
  | .box t x => match (ev x).cells with
    | some cs => K (.new t cs)
    | none => none
  | .build t parts => match zeroT P t, P.underlying t with
    | some z, some (.struct fs) => bif allB (sizedF P) fs.toList then match buildParts (placeF P fs.toList) z (evalP ev parts.toList) with
      | some cs => K (.val (.agg cs))
      | none => none else none
    | some z, some (.array _ e) => match szT P e with
      | some n => match buildParts (fun i => some (i * n, n)) z (evalP ev parts.toList) with
        | some cs => K (.val (.agg cs))
        | none => none
      | none => none
    | _, _ => none
  | .buildSlice t n parts => match P.underlying t with
    | some (.slice e) => match szT P e, zeroT P e with
      | some w, some z => bif (Nat.beq z.length w && Nat.ble 1 w && Nat.ble (n * w) 65536) then match buildParts (fun i => some (i * w, w)) (chunk z n) (evalP ev parts.toList) with
        | some cs => bif allB AC.plain cs then cond C.views (K (.newView e w n (litRow w cs))) (K (.newRow e w n (litRow w cs))) else none
        | none => none else none
      | _, _ => none
    | _ => none
  | .load t a => match isAggT P t, szT P t with
    | some g, some sz => match ev a with
      | .v false [.ptr key off] => K (.load g sz key off)
      | .v false [.vptr cells sub] => match valueAt g sz cells sub with
        | some v => K (.val v)
        | none => none
      | .v false [.rptr id idx sub] => K (.rload g sz id idx sub)
      | _ => none
    | _, _ => none
  | .store t a x => match szT P t, (ev x).cells with
    | some sz, some cs => bif Nat.beq cs.length sz then match ev a with
        | .v false [.ptr key off] => K (.store key off cs)
        | .v false [.rptr id idx sub] => K (.rstore id idx sub cs)
        | _ => none else none
    | _, _ => none
  | .nilCheck x => match ev x with
    | .v false [.ptr key off] => K (.val (.c (.ptr key off)))
    | .v false [.rptr id idx sub] => K (.val (.c (.rptr id idx sub)))
    | .v false [.vptr cs sub] => K (.val (.c (.vptr cs sub)))
    | _ => none
  | .binOp op t x y _ => match ev x, ev y with
    | .v false [.int k a], .v false [.int k' b] => bif kEq k k' then intOp op k a b fun v => K (.val (.c v)) else none
    | .v false [.bool a], .v false [.bool b] => match P.underlying t, op with
      | some .bool, .eql => K (.val (.c (.bool (a == b))))
      | some .bool, .neq => K (.val (.c (.bool (!(a == b)))))
      | _, _ => none
    | .v true xs, .v true ys => bif P.eqGuardType P.depth t then none else match isAggT P t, eqC P C.eqOk 20 t xs ys, op with
      | some true, some r, .eql => K (.val (.c (.bool r)))
      | some true, some r, .neq => K (.val (.c (.bool (!r))))
      | _, _, _ => none
    | _, _ => none
  | .unOp op _ x => match op, ev x with
    | .neg, .v false [.int k n] => K (.val (.c (.int k (k.wrap (0 - n)))))
    | .not, .v false [.bool b] => K (.val (.c (.bool (!b))))
    | _, _ => none
  | .convert src dst x => match P.underlying src, P.underlying dst, ev x with
    | some _, some (.int k), .v false [.int _ n] => K (.val (.c (.int k (k.wrap n))))
    | _, _, _ => none
  | .fieldAddr t x i => match fieldT P t i with
    | some f => match szT P f.type with
      | some (_ + 1) => match ev x with
        | .v false [.ptr key off] => K (.val (.c (.ptr key (off + f.offset))))
        | .v false [.rptr id idx sub] => K (.val (.c (.rptr id idx (sub + f.offset))))
        | .v false [.vptr cs sub] => K (.val (.c (.vptr cs (sub + f.offset))))
        | _ => none
      | _ => none
    | none => none
  | .field t x i => match fieldT P t i, ev x with
    | some f, .v true cs => match partOf P f.type cs f.offset with
      | some v => K (.val v)
      | none => none
    | _, _ => none
  | .indexAddr t x ix => match (ev ix).int?, P.underlying t with
    | some i, some (.array n e) => match szT P e, ev x with
      | some m, .v false [.ptr key off] => pickIdx i n 0 fun j => K (.val (.c (.ptr key (off + j * m))))
      | some m, .v false [.rptr id idx sub] => pickIdx i n 0 fun j => K (.val (.c (.rptr id idx (sub + j * m))))
      | some m, .v false [.vptr cs sub] => pickIdx i n 0 fun j => K (.val (.c (.vptr cs (sub + j * m))))
      | _, _ => none
    | some i, some (.slice e) => match szT P e, ev x with
      | some m, .v false [.view n w f] => bif Nat.beq m w then cond (decide (0 ≤ i) && decide (i < (n : Int))) (bif allB AC.plain (f i.toNat) then K (.val (.c (.vptr (f i.toNat) 0))) else none) none else none
      | some m, .v false [.own id w n] => bif Nat.beq m w then cond (decide (0 ≤ i) && decide (i < (n : Int))) (K (.val (.c (.rptr id i.toNat 0)))) none else none
      | _, _ => none
    | _, _ => none
  | .index t x ix => match (ev ix).int?, P.underlying t, ev x with
    | some i, some (.array n e), .v true cs => match szT P e with
      | some m => pickIdx i n 0 fun j => match partOf P e cs (j * m) with
        | some v => K (.val v)
        | none => none
      | none => none
    | _, _, _ => none
  | .slice t x lo hi mx => match mx, optInt ev lo, optInt ev hi, P.underlying t with
    | none, some lo, some hi, some (.slice e) => match szT P e, ev x with
      | some m, .v false [.view n w f] => bif Nat.beq m w then
        cond (decide (0 ≤ lo.getD 0) && decide (lo.getD 0 ≤ hi.getD (n : Int)) && decide (hi.getD (n : Int) ≤ (n : Int)))
          (K (.val (.c (.view (hi.getD (n : Int) - lo.getD 0).toNat w fun i => f ((lo.getD 0).toNat + i))))) none else none
      | _, _ => none
    | _, _, _, _ => none
  | .extract t i => match ev t with
    | .tup ps => match ps[i]? with
      | some (g, cs) => K (.val (.v g cs))
      | none => none
    | _ => none
  | .call c => match c.callee with
    | .builtin b => builtinK P b c.argTypes.toList (evalL ev c.args.toList) K
    | .value (.func f) => K (.call f (evalL ev c.args.toList))
    | _ => none
  | _ => none

def evOf (tmps : List TV) : Operand → TV
  | .tmp t => nth .dead tmps t
  | .const v => ofValue v
  | _ => .dead

/-- other mentions of a row are forgotten -/
def AC.kill (id : Nat) : AC → AC
  | .own j w n => bif Nat.beq j id then .dead else .own j w n
  | .rptr j a b => bif Nat.beq j id then .dead else .rptr j a b
  | a => a

def TV.kill (id : Nat) : TV → TV
  | .v g cs => .v g (cs.map (AC.kill id))
  | .tup _ => .dead
  | .dead => .dead

def Box.kill (id : Nat) (b : Box) : Box := ⟨b.ty, b.cells.map (AC.kill id)⟩

/-- slices of the caller's own as what they hold -/
def AC.res (rows : List (Nat × Row)) : AC → Option AC
  | .own id _ _ => match look rows id with
    | some r => some (.view r.n r.w r.f)
    | none => none
  | .int k n => some (.int k n)
  | .bool b => some (.bool b)
  | .raw v => some (.raw v)
  | .nilSl => some .nilSl
  | .view n w f => some (.view n w f)
  | _ => none

def resL (rows : List (Nat × Row)) : List AC → Option (List AC)
  | [] => some []
  | a :: l => match a.res rows with
    | some a' => match resL rows l with
      | some l' => some (a' :: l')
      | none => none
    | none => none

def TV.res (rows : List (Nat × Row)) : TV → Option TV
  | .v g cs => match resL rows cs with
    | some l => some (.v g l)
    | none => none
  | _ => none

def resArgs (rows : List (Nat × Row)) : List TV → Option (List TV)
  | [] => some []
  | a :: l => match a.res rows with
    | some a' => match resArgs rows l with
      | some l' => some (a' :: l')
      | none => none
    | none => none

def AC.isOwn : AC → Bool
  | .own _ _ _ => true
  | _ => false
def TV.hasOwn : TV → Bool
  | .v _ cs => cs.any AC.isOwn
  | _ => true

/-- no slice in it -/
def AC.flat : AC → Bool
  | .int _ _ | .bool _ | .raw _ | .nilSl => true
  | _ => false
def TV.flat : TV → Bool
  | .v _ cs => allB AC.flat cs
  | .tup ps => allB (fun p : Bool × List AC => allB AC.flat p.2) ps
  | .dead => false

/-- no own memory in it -/
def TV.plainB : TV → Bool
  | .v _ cs => allB AC.plain cs
  | .tup ps => allB (fun p : Bool × List AC => allB AC.plain p.2) ps
  | .dead => false

/-- what an append's source holds: how many elements, and which -/
def source (rows : List (Nat × Row)) (w : Nat) : AC → Option (Nat × (Nat → List AC))
  | .nilSl => some (0, fun _ => [])
  | .view n w' f => bif Nat.beq w w' then some (n, f) else none
  | .own id _ _ => match look rows id with
    | some r => bif Nat.beq w r.w then some (r.n, r.f) else none
    | none => none
  | _ => none

def put (s : St) (dst : Option Tmp) (v : TV) (K : St → Option R) : Option R :=
  match dst with
  | none => K s
  | some d => match s with
    | ⟨tmps, boxes, rows⟩ => forceL (setL tmps d v) fun l => K ⟨l, boxes, rows⟩

/-- one primitive step upon the state -/
def memK (dst : Option Tmp) (p : Prim) (s : St) (K : TV → St → Option R) : Option R :=
  match s with
  | ⟨tmps, boxes, rows⟩ =>
  match p with
  | .val v => K v ⟨tmps, boxes, rows⟩
  | .load g sz key off => match look boxes key with
    | some b => match valueAt g sz b.cells off with
      | some v => K v ⟨tmps, boxes, rows⟩
      | none => none
    | none => none
  | .store key off cs => match look boxes key with
    | some b => bif Nat.ble (off + cs.length) b.cells.length then
        forceL (splice b.cells off cs) fun cells => forceL (upd boxes key ⟨b.ty, cells⟩) fun boxes' => K .dead ⟨tmps, boxes', rows⟩
      else none
    | none => none
  | .new ty cs => match dst with
    | some d => match look boxes d with
      | some _ => none
      | none => forceL (ins boxes d ⟨ty, cs⟩) fun boxes' => K (.c (.ptr d 0)) ⟨tmps, boxes', rows⟩
    | none => none
  | .rload g sz id idx sub => match look rows id with
    | some r => match valueAt g sz (r.f idx) sub with
      | some v => K v ⟨tmps, boxes, rows⟩
      | none => none
    | none => none
  | .rstore id idx sub cs => match look rows id with
    | some r => bif (Nat.ble (sub + cs.length) r.w && allB AC.plain cs) then
        forceL (upd rows id ⟨r.ty, r.w, r.n, fun i => bif Nat.beq i idx then splice (r.f i) sub cs else r.f i⟩) fun rows' => K .dead ⟨tmps, boxes, rows'⟩
      else none
    | none => none
  | .newRow e w n f => match dst with
    | some d => match look rows d with
      | some _ => none
      | none => forceL (ins rows d ⟨e, w, n, f⟩) fun rows' => K (.c (.own d w n)) ⟨tmps, boxes, rows'⟩
    | none => none
  | .newView _ w n f => K (.c (.view n w f)) ⟨tmps, boxes, rows⟩
  | .append e w bytes s x => match source rows w x with
    | some (m, g) => match s with
      | .nilSl => match dst with
        | some d => match look rows d with
          | some _ => none
          | none => bif (Nat.ble 1 w && Nat.ble 1 bytes) then cond (Nat.ble (m * bytes) 140737488355328) (forceL (ins rows d ⟨e, w, m, g⟩) fun rows' => K (.c (.own d w m)) ⟨tmps, boxes, rows'⟩) none else none
        | none => none
      | .own id _ _ => match look rows id with
        | some r => bif (Nat.beq r.w w && Nat.beq r.ty e && Nat.ble 1 bytes) then
            cond (Nat.ble ((r.n + m) * bytes) 140737488355328) (
              forceL (tmps.map (TV.kill id)) fun tmps' =>
              forceL (boxes.map fun p => (p.1, p.2.kill id)) fun boxes' =>
              forceL (upd rows id ⟨e, w, r.n + m, fun i => bif Nat.blt i r.n then r.f i else g (i - r.n)⟩) fun rows' =>
              K (.c (.own id w (r.n + m))) ⟨tmps', boxes', rows'⟩) none
          else none
        | none => none
      | _ => none
    | none => none
  | .call f args => match C.spec f with
    | some g => match resArgs rows args with
      | some as => match g as with
        | some (ok, v) => bif ((!(args.any TV.hasOwn) || v.flat) && v.plainB) then cond ok (K v ⟨tmps, boxes, rows⟩) none else none
        | none => none
      | none => none
    | none => none

/-- does an operation run; in each way the guard's slot is known -/
def guardK (ops : List Oper) (o : Oper) (s : St) (run skip : St → Option R) : Option R :=
  match o.guard with
  | none => run s
  | some (j, want) => match ops[j]? with
    | some oj => match oj.dst with
      | some t => match nth .dead s.tmps t with
        | .v false [.bool g] => cond g (put s (some t) (.c (.bool true)) (bif want then run else skip)) (put s (some t) (.c (.bool false)) (bif want then skip else run))
        | .tup [] => skip s
        | _ => none
      | none => none
    | none => none

def operK (ops : List Oper) (o : Oper) (s : St) (K : Option Prim → St → Option R) : Option R :=
  guardK ops o s
    (fun s => opK P C (evOf s.tmps) o.op fun p => memK C o.dst p s fun v s' => put s' o.dst v (K (some p)))
    (fun s => put s o.dst (.tup []) (K none))

/-- the steps that may stand in a region that draws its order -/
def Prim.simple : Option Prim → Bool
  | none => true
  | some (.val _) => true
  | some (.load _ _ _ _) => true
  | some (.store _ _ _) => true
  | some (.new _ _) => true
  | some (.newView _ _ _ _) => true
  | some (.call _ _) => true
  | _ => false

/-- do two steps meet in memory? -/
def Prim.meet : Option Prim → Option Prim → Bool
  | some (.load _ _ k _), some (.store k' _ _) => Nat.beq k k'
  | some (.store k _ _), some (.load _ _ k' _) => Nat.beq k k'
  | some (.store k _ _), some (.store k' _ _) => Nat.beq k k'
  | _, _ => false

def seqK (ops : List Oper) : List Oper → St → (St → Option R) → Option R
  | [], s, K => K s
  | o :: l, s, K => operK P C ops o s fun _ s' => seqK ops l s' K

/-- the canonical order of a region that draws, with what each step did -/
def drawK (ops : List Oper) : List Oper → St → (List (Oper × Option Prim) → St → Option R) → Option R
  | [], s, K => K [] s
  | o :: l, s, K => operK P C ops o s fun p s' => drawK ops l s' fun rest sf => K ((o, p) :: rest) sf

/-- is operation y ahead of operation i by the edges that bind, over at most k of them? -/
def reach (ops : List Oper) : Nat → Nat → Nat → Bool
  | 0, _, _ => false
  | k + 1, i, y => match ops[i]? with
    | some o => o.after.toList.any fun e => Region.binds .any e && (Nat.beq e.on y || reach ops k e.on y)
    | none => false

def drawOk (ops : Array Oper) : Nat → List (Nat × Oper × Option Prim) → List (Oper × Option Prim) → Bool
  | _, _, [] => true
  | i, earlier, (o, p) :: l =>
    bif Prim.simple p && o.after.toList.all (fun e => !(Region.binds .any e) || Nat.blt e.on i) && allB (fun y : Nat × Oper × Option Prim => reach ops.toList 2 i y.1 || (Oper.apart ops y.2.1 o && !(Prim.meet y.2.2 p))) earlier then drawOk ops (i + 1) (earlier ++ [(i, o, p)]) l else false

def regK (ops : Array Oper) (draw : Bool) (s : St) (K : St → Option R) : Option R :=
  bif draw then drawK P C ops.toList ops.toList s fun acc s' => bif drawOk ops 0 [] acc then K s' else none
  else seqK P C ops.toList ops.toList s K

/-- what is kept at a loop's head -/
def keepT (keep : List Nat) : Nat → List TV → List TV
  | _, [] => []
  | i, v :: l => (bif keep.elem i then v else .dead) :: keepT keep (i + 1) l

def AC.inK (keys ids : List Nat) : AC → Bool
  | .ptr k _ => keys.elem k
  | .own id _ _ => ids.elem id
  | .rptr id _ _ => ids.elem id
  | _ => true
def TV.inK (keys ids : List Nat) : TV → Bool
  | .v _ cs => allB (AC.inK keys ids) cs
  | .tup ps => allB (fun p : Bool × List AC => allB (AC.inK keys ids) p.2) ps
  | .dead => true

def normK (keep keys ids : List Nat) (s : St) (K : St → Option R) : Option R :=
  match s with
  | ⟨tmps, boxes, rows⟩ =>
    forceL (keepT keep 0 tmps) fun tmps' =>
    forceL (boxes.filter fun p => keys.elem p.1) fun boxes' =>
    forceL (rows.filter fun p => ids.elem p.1) fun rows' =>
    bif allB (TV.inK keys ids) tmps' && allB (fun p : Nat × Box => allB (AC.inK keys ids) p.2.cells) boxes' then K ⟨tmps', boxes', rows'⟩ else none

/-- nil slices that a loop appends to become rows -/
def promoteK : List (Nat × TypeId × Nat) → St → (St → Option R) → Option R
  | [], s, K => K s
  | (t, e, w) :: l, ⟨tmps, boxes, rows⟩, K => match nth .dead tmps t with
    | .v false [.nilSl] => match look rows t with
      | none => bif Nat.ble 1 w then forceL (setL tmps t (.c (.own t w 0))) fun tmps' => forceL (ins rows t ⟨e, w, 0, fun _ => []⟩) fun rows' => promoteK l ⟨tmps', boxes, rows'⟩ K else none
      | some _ => none
    | _ => promoteK l ⟨tmps, boxes, rows⟩ K

def normO (keep : Option (List Nat)) (keys ids : List Nat) (s : St) (K : St → Option R) : Option R :=
  match keep with
  | none => K s
  | some l => normK l keys ids s K

def intAt (l : List AC) : Int := match l with
  | [.int .i64 x] => x
  | _ => 0
def isInt (l : List AC) : Bool := match l with
  | [.int .i64 _] => true
  | _ => false
def allInt (f : Nat → List AC) : Nat → Bool
  | 0 => true
  | n + 1 => isInt (f n) && allInt f n
def toInts (f : Nat → List AC) : Nat → List AC := fun i => [.int .i64 (intAt (f i))]

/-- rows of numbers are told element by element -/
def canonK : List Nat → St → (St → Option R) → Option R
  | [], s, K => K s
  | id :: l, s, K => match s with
    | ⟨tmps, boxes, rows⟩ => match look rows id with
      | some r => cond (allInt r.f r.n) (forceL (upd rows id ⟨r.ty, r.w, r.n, toInts r.f⟩) fun rows' => canonK l ⟨tmps, boxes, rows'⟩ K) none
      | none => canonK l ⟨tmps, boxes, rows⟩ K

def loopN (step : St → (Ex → St → Option R) → Option R) (keep out : Option (List Nat)) (keys ids : List Nat) : Nat → St → (Ex → St → Option R) → Option R
  | 0, _, _ => none
  | n + 1, s, K => step s fun
    | .normal, s' => normO keep keys ids s' fun s'' => loopN step keep out keys ids n s'' K
    | .exit id, s' => normO out keys ids s' fun s'' => K (.exit id) s''
    | .ret, s' => normO out keys ids s' fun s'' => K .ret s''

def pickK : List (Bool × Ex × St) → (Ex → St → Option R) → Option R
  | [], _ => none
  | (g, e, s) :: l, K => cond g (K e s) (pickK l K)

def codeK (L : Nat) : Code → Nat → St → (Ex → St → Option R) → Option R
  | .skip, _, s, K => K .normal s
  | .region _ ops draw, _, s, K => regK P C ops draw s (K .normal)
  | .seq a b, blk, s, K => codeK L a blk s fun
    | .normal, s' => codeK L b blk s' K
    | .exit id, s' => K (.exit id) s'
    | .ret, s' => K .ret s'
  | .cond c x y, blk, s, K => match evOf s.tmps c with
    | .v false [.bool g] => match c with
      | .tmp t => cond g (put s (some t) (.c (.bool true)) fun s' => codeK L x blk s' K) (put s (some t) (.c (.bool false)) fun s' => codeK L y blk s' K)
      | _ => cond g (codeK L x blk s K) (codeK L y blk s K)
    | _ => none
  | .block id body, _, s, K => codeK L body id s fun
    | .normal, s' => K .normal s'
    | .exit i, s' => bif Nat.beq i id then K .normal s' else K (.exit i) s'
    | .ret, s' => K .ret s'
  | .loop body, blk, s, K => promoteK (C.ann blk).promote s fun s' =>
      canonK C.ints s' fun s' => normO (C.ann blk).keep (s'.boxes.map (·.1)) (s'.rows.map (·.1)) s' fun s1 =>
        match C.lspec blk with
        | some g => pickK (g s1) K
        | none => loopN (fun s K => codeK L body blk s K) (C.ann blk).keep (C.ann blk).out (s1.boxes.map (·.1)) (s1.rows.map (·.1)) L s1 K
  | .exit id, _, s, K => K (.exit id) s
  | .ret, _, s, K => K .ret s
  | _, _, _, _ => none

/-- the results of a function, taken out of the state -/
def resultOf (s : St) : ResultVar → Option TV
  | .tmp t => match nth .dead s.tmps t with
    | .v g cs => some (.v g cs)
    | _ => none
  | .cell a t => match nth .dead s.tmps a, isAggT P t, szT P t with
    | .v false [.ptr key off], some g, some sz => match look s.boxes key with
      | some b => valueAt g sz b.cells off
      | none => none
    | _, _, _ => none

def resultL (s : St) : List ResultVar → Option (List (Bool × List AC))
  | [] => some []
  | r :: l => match resultOf P s r with
    | some (.v g cs) => match resL s.rows cs with
      | some cs' => match resultL s l with
        | some ps => some ((g, cs') :: ps)
        | none => none
      | none => none
    | _ => none

def resultsK (fn : Func) (s : St) : Option TV :=
  match resultL P s fn.results.toList with
  | some [(g, cs)] => some (.v g cs)
  | some ps => some (.tup ps)
  | none => none

def argsOk : List TV → Bool
  | [] => true
  | .v _ cs :: l => bif allB AC.plain cs then argsOk l else false
  | _ :: _ => false

/-- what a call gives, by its code -/
def funK (L : Nat) (f : FuncId) (args : List TV) : Option TV :=
  match P.funcs.toList[f]? with
  | some fn => match fn.body with
    | some c => bif argsOk args && Nat.beq fn.nfree 0 then
        forceL (args ++ List.replicate (fn.ntmps - args.length) TV.dead) fun tmps =>
          codeK P C L c 0 ⟨tmps, [], []⟩ fun e s => match e with
            | .normal => resultsK P fn s
            | .ret => resultsK P fn s
            | .exit _ => none
      else none
    | none => none
  | none => none

/-- the loops of a code, each with the block that it lies in -/
def loopsOf : Code → Nat → List (Nat × Code)
  | .seq a b, blk => loopsOf a blk ++ loopsOf b blk
  | .cond _ a b, blk => loopsOf a blk ++ loopsOf b blk
  | .block id b, _ => loopsOf b id
  | .loop b, blk => (blk, b) :: loopsOf b blk
  | _, _ => []

def fnLoops (f : FuncId) : List (Nat × Code) :=
  match P.funcs.toList[f]? with
  | some fn => match fn.body with
    | some c => loopsOf c 0
    | none => []
  | none => []

end prog

/-- a state's shape: what its slots and boxes hold, the cells apart -/
structure Sk where
  tmps : List (Option (Bool × Nat))
  boxes : List (Nat × TypeId × Nat)
  rows : List (Nat × TypeId × Nat)

def takeC : Nat → List AC → List AC × List AC
  | 0, l => ([], l)
  | _ + 1, [] => ([], [])
  | n + 1, c :: l => match takeC n l with
    | (a, b) => (c :: a, b)

def readT : List (Option (Bool × Nat)) → List TV → Option (List AC)
  | [], [] => some []
  | none :: sk, .dead :: l => readT sk l
  | some (true, n) :: sk, .v true cs :: l => bif Nat.beq cs.length n then match readT sk l with
      | some r => some (cs ++ r)
      | none => none
    else none
  | some (false, n) :: sk, .v false cs :: l => bif Nat.beq cs.length n then match readT sk l with
      | some r => some (cs ++ r)
      | none => none
    else none
  | _, _ => none

def readB : List (Nat × TypeId × Nat) → List (Nat × Box) → Option (List AC)
  | [], [] => some []
  | (k, t, n) :: sk, (k', b) :: l => bif Nat.beq k k' && Nat.beq t b.ty && Nat.beq b.cells.length n then match readB sk l with
      | some r => some (b.cells ++ r)
      | none => none
    else none
  | _, _ => none

def readR : List (Nat × TypeId × Nat) → List (Nat × Row) → Option (List AC)
  | [], [] => some []
  | (k, t, n) :: sk, (k', r) :: l => bif Nat.beq k k' && Nat.beq t r.ty && Nat.beq r.w n then match readR sk l with
      | some q => some (.view r.n r.w r.f :: q)
      | none => none
    else none
  | _, _ => none

def readSk (sk : Sk) (s : St) : Option (List AC) :=
  match readT sk.tmps s.tmps with
  | some a => match readB sk.boxes s.boxes with
    | some b => match readR sk.rows s.rows with
      | some c => some (a ++ (b ++ c))
      | none => none
    | none => none
  | none => none

def buildT : List (Option (Bool × Nat)) → List AC → List TV × List AC
  | [], l => ([], l)
  | none :: sk, l => match buildT sk l with
    | (a, b) => (.dead :: a, b)
  | some (g, n) :: sk, l => match takeC n l with
    | (cs, l') => match buildT sk l' with
      | (a, b) => (.v g cs :: a, b)

def buildB : List (Nat × TypeId × Nat) → List AC → List (Nat × Box) × List AC
  | [], l => ([], l)
  | (k, t, n) :: sk, l => match takeC n l with
    | (cs, l') => match buildB sk l' with
      | (a, b) => ((k, ⟨t, cs⟩) :: a, b)

def buildR : List (Nat × TypeId × Nat) → List AC → List (Nat × Row)
  | (k, t, _) :: sk, .view n w f :: l => (k, ⟨t, w, n, f⟩) :: buildR sk l
  | _, _ => []

def buildSk (sk : Sk) (l : List AC) : St := match buildT sk.tmps l with
  | (a, b) => match buildB sk.boxes b with
    | (c, d) => ⟨a, c, buildR sk.rows d⟩
end Go.Am
