/- Part 1 of a proof in parts; the last part, YthhmonkjedemgaaGpart, proves this: At every input within the bounds that the given rows TrafficAlgebraSaid and TrafficSetsSaid name, the laws TrafficAlgebra and TrafficSets of the package flagstonelaw14 return true and leave their arguments as they were. There is no further condition. -/
import GoSem.Step
import Derived.Calls
import Derived.Orders
import Derived.KernelRfl
import Derived.Laws.Cells
import Derived.Laws.IdiomCopy
import Derived.Below

section
/- An abstract evaluator of the model's code over a heap of numbered rows: no tape, no capacities, no order of evaluation. Definitions and their plain laws; that the model's machine follows it stands in the texts behind this one. -/
namespace Go.Eng

/-! ### 1. The heap: a map from numbers to objects -/
inductive AObj where
  | cells (c : List Value) (own : Bool)
  | map (es : List (Value × Value))
  | dead
  deriving Inhabited

inductive Tr where
  | nil
  | node (l : Tr) (v : Option AObj) (r : Tr)
  deriving Inhabited

def Tr.get : Tr → Nat → Option AObj
  | .nil, _ => none
  | .node l v r, k => if k = 0 then v else if k % 2 = 1 then Tr.get l (k / 2) else Tr.get r (k / 2 - 1)
def Tr.setF : Nat → Tr → Nat → AObj → Tr
  | 0, t, _, _ => t
  | f + 1, .nil, k, o => if k = 0 then .node .nil (some o) .nil else if k % 2 = 1 then .node (Tr.setF f .nil (k / 2) o) none .nil else .node .nil none (Tr.setF f .nil (k / 2 - 1) o)
  | f + 1, .node l v r, k, o => if k = 0 then .node l (some o) r else if k % 2 = 1 then .node (Tr.setF f l (k / 2) o) v r else .node l v (Tr.setF f r (k / 2 - 1) o)

structure Heap where
  t : Tr
  deriving Inhabited
def Heap.get (h : Heap) (k : Nat) : Option AObj := Tr.get h.t k
def Heap.set (h : Heap) (k : Nat) (o : AObj) : Heap := ⟨Tr.setF (k + 1) h.t k o⟩
def Heap.empty : Heap := ⟨.nil⟩

theorem Tr.get_set (f : Nat) : ∀ (t : Tr) (k j : Nat) (o : AObj), k < f → Tr.get (Tr.setF f t k o) j = if j = k then some o else Tr.get t j := by
  induction f with
  | zero => intro t k j o h; omega
  | succ f ih =>
    intro t k j o h
    cases t with
    | nil =>
      simp only [Tr.setF]
      by_cases hk : k = 0
      · subst hk
        by_cases hj : j = 0
        · simp [Tr.get, hj]
        · simp [Tr.get, hj]
      · simp only [hk, if_false]
        by_cases ho : k % 2 = 1
        · simp only [ho, if_true, Tr.get]
          by_cases hj : j = 0
          · have : ¬ (0 = k) := by omega
            simp [hj, this]
          · simp only [hj, if_false]
            by_cases hp : j % 2 = 1
            · simp only [hp, if_true]
              rw [ih .nil (k / 2) (j / 2) o (by omega)]
              by_cases e : j = k
              · simp [e]
              · have : ¬ (j / 2 = k / 2) := by omega
                simp [e, this, Tr.get]
            · have : ¬ (j = k) := by omega
              simp [hp, this]
        · simp only [ho, if_false, Tr.get]
          by_cases hj : j = 0
          · have : ¬ (0 = k) := by omega
            simp [hj, this]
          · simp only [hj, if_false]
            by_cases hp : j % 2 = 1
            · have : ¬ (j = k) := by omega
              simp [hp, this]
            · simp only [hp, if_false]
              rw [ih .nil (k / 2 - 1) (j / 2 - 1) o (by omega)]
              by_cases e : j = k
              · simp [e]
              · have : ¬ (j / 2 - 1 = k / 2 - 1) := by omega
                simp [e, this, Tr.get]
    | node l v r =>
      simp only [Tr.setF]
      by_cases hk : k = 0
      · subst hk
        by_cases hj : j = 0
        · simp [Tr.get, hj]
        · simp [Tr.get, hj]
      · simp only [hk, if_false]
        by_cases ho : k % 2 = 1
        · simp only [ho, if_true, Tr.get]
          by_cases hj : j = 0
          · have : ¬ (0 = k) := by omega
            simp [hj, this]
          · simp only [hj, if_false]
            by_cases hp : j % 2 = 1
            · simp only [hp, if_true]
              rw [ih l (k / 2) (j / 2) o (by omega)]
              by_cases e : j = k
              · simp [e]
              · have : ¬ (j / 2 = k / 2) := by omega
                simp [e, this]
            · have : ¬ (j = k) := by omega
              simp [hp, this]
        · simp only [ho, if_false, Tr.get]
          by_cases hj : j = 0
          · have : ¬ (0 = k) := by omega
            simp [hj, this]
          · simp only [hj, if_false]
            by_cases hp : j % 2 = 1
            · have : ¬ (j = k) := by omega
              simp [hp, this]
            · simp only [hp, if_false]
              rw [ih r (k / 2 - 1) (j / 2 - 1) o (by omega)]
              by_cases e : j = k
              · simp [e]
              · have : ¬ (j / 2 - 1 = k / 2 - 1) := by omega
                simp [e, this]

theorem Heap.get_set (h : Heap) (k j : Nat) (o : AObj) : (h.set k o).get j = if j = k then some o else h.get j := Tr.get_set (k + 1) h.t k j o (by omega)
theorem Heap.get_set_eq (h : Heap) (k : Nat) (o : AObj) : (h.set k o).get k = some o := by rw [Heap.get_set, if_pos rfl]
theorem Heap.get_set_ne (h : Heap) {k j : Nat} (o : AObj) (e : j ≠ k) : (h.set k o).get j = h.get j := by rw [Heap.get_set, if_neg e]
theorem Heap.get_empty (k : Nat) : Heap.empty.get k = none := rfl

structure St where
  heap : Heap
  next : Nat
  /-- no number below it has been written -/
  low : Nat
  deriving Inhabited

abbrev Env := List (Option Value)

/-! ### 2. Values -/
/-- a value without an address -/
def atom : Value → Bool
  | .bool _ | .int _ _ | .float _ _ | .complex _ _ _ | .string _ | .nilFunc | .nilIface | .pointer none | .slice none 0 0 | .map none | .chan none => true
  | _ => false
/-- a value that a cell may hold -/
def isCell : Value → Bool
  | .agg _ | .tuple _ => false
  | _ => true

def opd (e : Env) : Operand → Option Value
  | .tmp t => (e[t]?).getD none
  | .const v => if atom v then some v else none
  | .func f => some (.func (.func f) #[] #[])
  | .global _ => none

def opds (e : Env) : List Operand → Option (List Value)
  | [] => some []
  | x :: r => match opd e x with
    | some v => (opds e r).map (v :: ·)
    | none => none
def opdO (e : Env) : Option Operand → Option (Option Value)
  | none => some none
  | some x => match opd e x with
    | some v => some (some v)
    | none => none
def parts (e : Env) : List (Nat × Operand) → Option (List (Nat × Value))
  | [] => some []
  | (i, x) :: r => match opd e x with
    | some v => (parts e r).map ((i, v) :: ·)
    | none => none

/-! ### 3. Rows -/
def isAggT (P : Program) (t : TypeId) : Option Bool :=
  match P.underlying t with
  | some (.struct _) | some (.array _ _) => some true
  | some _ => some false
  | none => none
def sizeT (P : Program) (t : TypeId) : Option Nat := (P.info? t).map (·.size)
def bytesT (P : Program) (t : TypeId) : Option Nat := (P.info? t).map (·.bytes)
def zeroT (P : Program) (t : TypeId) : Option Value :=
  match P.types[t]? with
  | some i => match i.zero with
    | some (.tuple _) => none
    | z => z
  | none => none

def St.row (s : St) (id : Nat) : Option (List Value × Bool) :=
  match s.heap.get id with
  | some (.cells c own) => some (c, own)
  | _ => none
def St.some? (s : St) (id off n : Nat) : Option (List Value) :=
  match s.row id with
  | some (c, _) => if off + n ≤ c.length then some ((c.drop off).take n) else none
  | none => none
def setAll (c : List Value) (off : Nat) : List Value → List Value
  | [] => c
  | v :: r => setAll (c.set off v) (off + 1) r
def St.put (s : St) (id : Nat) (o : AObj) : St := { s with heap := s.heap.set id o, low := min s.low id }
def St.new (s : St) (o : AObj) : St := { s with heap := s.heap.set s.next o, next := s.next + 1 }

def aLoad (P : Program) (s : St) (t : TypeId) (id off : Nat) : Option Value :=
  match isAggT P t with
  | some true => match sizeT P t with
    | some n => (s.some? id off n).map fun l => .agg l.toArray
    | none => none
  | some false => match s.row id with
    | some (c, _) => c[off]?
    | none => none
  | none => none
def aStore (P : Program) (s : St) (t : TypeId) (id off : Nat) (v : Value) : Option St :=
  match sizeT P t, s.row id with
  | some n, some (c, true) => if v.cells.size = n ∧ off + n ≤ c.length ∧ v.cells.toList.all isCell = true then some (s.put id (.cells (setAll c off v.cells.toList) true)) else none
  | _, _ => none
def repCells (z : List Value) (n : Nat) : List Value := (List.replicate n z).flatten

/-! ### 4. Pure operations -/
def aEqN.aPart (P : Program) (t : TypeId) (cs : Array Value) (off : Nat) : Option Value :=
  match isAggT P t with
  | some true => (sizeT P t).map fun n => .agg (cs.extract off (off + n))
  | some false => cs[off]?
  | none => none
def aEqFields (P : Program) (eq : TypeId → Value → Value → Option Bool) (xs ys : Array Value) : List Field → Option Bool
  | [] => some true
  | f :: r => if f.name = "_" then none else
    match aEqN.aPart P f.type xs f.offset, aEqN.aPart P f.type ys f.offset with
    | some a, some b => match eq f.type a b with
      | some true => aEqFields P eq xs ys r
      | some false => some false
      | none => none
    | _, _ => none
def aEqN (P : Program) : Nat → TypeId → Value → Value → Option Bool
  | 0, _, _, _ => none
  | d + 1, t, x, y =>
    match P.underlying t, x, y with
    | some .bool, .bool a, .bool b => some (a == b)
    | some (.int _), .int k a, .int k' b => if k = k' then some (a == b) else none
    | some .string, .string a, .string b => some (a == b)
    | some (.pointer _), .pointer none, .pointer b => some b.isNone
    | some (.pointer _), .pointer (some _), .pointer none => some false
    | some (.slice _), .slice none _ _, .slice b _ _ => some b.isNone
    | some (.slice _), .slice (some _) _ _, .slice none _ _ => some false
    | some (.map _ _), .map none, .map b => some b.isNone
    | some (.map _ _), .map (some _), .map none => some false
    | some (.func _ _ _), .nilFunc, .nilFunc => some true
    | some (.func _ _ _), .nilFunc, .func _ _ _ => some false
    | some (.func _ _ _), .func _ _ _, .nilFunc => some false
    | some (.struct fields), .agg xs, .agg ys =>
      if P.stoodInHeld t then none else
      aEqFields P (aEqN P d) xs ys fields.toList
    | _, _, _ => none

def aEq (P : Program) (t : TypeId) (x y : Value) : Option Bool :=
  match x, y with
  | .agg _, .agg _ => if P.eqGuardType P.depth t then none else aEqN P Op.maxDepth t x y
  | .nilIface, _ | .float _ _, _ | .complex _ _ _, _ => none
  | _, _ => aEqN P Op.maxDepth t x y

def aBin (P : Program) (op : BinOp) (t : TypeId) (x y : Value) : Option Value :=
  match x, y with
  | .int k a, .int k' b =>
    match op with
    | .shl => if b < 0 then none else some (.int k (k.wrap (a * 2 ^ (min b.toNat k.bits))))
    | .shr => if b < 0 then none else some (.int k (a.fdiv (2 ^ (min b.toNat k.bits))))
    | op => if k ≠ k' then none else
      match op with
      | .add => some (.int k (k.wrap (a + b)))
      | .sub => some (.int k (k.wrap (a - b)))
      | .mul => some (.int k (k.wrap (a * b)))
      | .quo => if b = 0 then none else some (.int k (k.wrap (a.tdiv b)))
      | .rem => if b = 0 then none else some (.int k (a.tmod b))
      | .and => some (.int k (k.wrap (BitVec.ofInt k.bits a &&& BitVec.ofInt k.bits b).toNat))
      | .or => some (.int k (k.wrap (BitVec.ofInt k.bits a ||| BitVec.ofInt k.bits b).toNat))
      | .xor => some (.int k (k.wrap (BitVec.ofInt k.bits a ^^^ BitVec.ofInt k.bits b).toNat))
      | .andNot => some (.int k (k.wrap (BitVec.ofInt k.bits a &&& ~~~ BitVec.ofInt k.bits b).toNat))
      | .eql => some (.bool (a == b))
      | .neq => some (.bool (a != b))
      | .lss => some (.bool (decide (a < b)))
      | .leq => some (.bool (decide (a ≤ b)))
      | .gtr => some (.bool (decide (a > b)))
      | .geq => some (.bool (decide (a ≥ b)))
      | _ => none
  | .string a, .string b =>
    match op with
    | .add => if ((a.size + b.size : Nat) : Int) > IntKind.i64.max then none else some (.string (a ++ b))
    | .eql => some (.bool (a.toList == b.toList))
    | .neq => some (.bool (!(a.toList == b.toList)))
    | .lss => some (.bool (Op.bytesLess a.toList b.toList))
    | .leq => some (.bool (Op.bytesLess a.toList b.toList || a.toList == b.toList))
    | .gtr => some (.bool (!(Op.bytesLess a.toList b.toList || a.toList == b.toList)))
    | .geq => some (.bool (!(Op.bytesLess a.toList b.toList)))
    | _ => none
  | x, y =>
    match op with
    | .eql => (aEq P t x y).map .bool
    | .neq => (aEq P t x y).map fun b => .bool (!b)
    | _ => none

def aUn (op : UnOp) (x : Value) : Option Value :=
  match op, x with
  | .not, .bool b => some (.bool (!b))
  | .neg, .int k n => some (.int k (k.wrap (0 - n)))
  | .xor, .int k n => some (.int k (k.wrap (BitVec.ofInt k.bits (if k.signed then -1 else k.max) ^^^ BitVec.ofInt k.bits n).toNat))
  | _, _ => none

/-- the low and high bound of a slice expression, the length being n -/
def aBounds (n : Nat) (low high : Option Value) : Option (Nat × Nat) :=
  match high with
  | none => match low with
    | none => some (0, n)
    | some (.int _ l) => if 0 ≤ l ∧ l ≤ n then some (l.toNat, n) else none
    | _ => none
  | some (.int _ h) => if 0 ≤ h ∧ h ≤ n then
      match low with
      | none => some (0, h.toNat)
      | some (.int _ l) => if 0 ≤ l ∧ l ≤ h.toNat then some (l.toNat, h.toNat) else none
      | _ => none
    else none
  | _ => none

/- The last number of an abstract slice: 2 e: its capacity is its length; 2 e + 1: its capacity isn't known; e: the cells of an element. -/
def aSlice (P : Program) (s : St) (t : TypeId) (x : Value) (low high max : Option Value) : Option Value :=
  match P.underlying t, x with
  | some (.array n el), .pointer (some ⟨id, off, none⟩) =>
    match max, sizeT P el, aBounds n low high, s.row id with
    | none, some z, some (l, h), some (c, _) => if off + n * z ≤ c.length then some (.slice (some ⟨id, off + l * z, none⟩) (h - l) (if h = n then 2 * z else 2 * z + 1)) else none
    | _, _, _, _ => none
  | some .string, .string s =>
    match max, aBounds s.size low high with
    | none, some (l, h) => some (.string (s.extract l h))
    | _, _ => none
  | some (.slice el), .slice (some ⟨id, off, none⟩) n c =>
    match sizeT P el, aBounds n low high with
    | some z, some (l, h) =>
      if c / 2 ≠ z then none else
      match max with
      | none => some (.slice (some ⟨id, off + l * z, none⟩) (h - l) (if c = 2 * z ∧ h = n then 2 * z else 2 * z + 1))
      | some (.int _ m) => if m = h ∧ high.isSome = true then some (.slice (some ⟨id, off + l * z, none⟩) (h - l) (2 * z)) else none
      | _ => none
    | _, _ => none
  | some (.slice el), .slice none 0 0 =>
    match max, aBounds 0 low high, sizeT P el with
    | none, some _, some _ => some (.slice none 0 0)
    | _, _, _ => none
  | _, _ => none

def bytesOfCells : List Value → Option (List UInt8)
  | [] => some []
  | .int .u8 n :: r => (bytesOfCells r).map (UInt8.ofNat n.toNat :: ·)
  | _ :: _ => none
def cellsOfBytes (s : ByteArray) : List Value := s.data.toList.map fun b => .int .u8 b.toNat

def aConvert (P : Program) (s : St) (src dst : TypeId) (x : Value) : Option (Value × St) :=
  match P.underlying src, P.underlying dst, x with
  | some _, some (.int k), .int _ n => some (.int k (k.wrap n), s)
  | some .string, some .string, .string b => some (.string b, s)
  | some .string, some (.slice e), .string b =>
    match P.underlying e with
    | some (.int .u8) => some (.slice (some ⟨s.next, 0, none⟩) b.size 3, s.new (.cells (cellsOfBytes b) true))
    | _ => none
  | some (.slice e), some .string, .slice a n _ =>
    match P.underlying e, a with
    | some (.int .u8), none => some (.string .empty, s)
    | some (.int .u8), some ⟨id, off, none⟩ => match s.some? id off n with
      | some l => (bytesOfCells l).map fun b => (.string ⟨b.toArray⟩, s)
      | none => none
    | _, _ => none
  | _, _, _ => none

/-! ### 5. Builtins -/
def aLen (P : Program) (s : St) (t : TypeId) (x : Value) : Option Value :=
  match P.underlying t, x with
  | some .string, .string b => some (.int .i64 b.size)
  | some (.array n _), _ => some (.int .i64 n)
  | some (.pointer arr), _ => match P.underlying arr with
    | some (.array n _) => some (.int .i64 n)
    | _ => none
  | some (.slice _), .slice _ n _ => some (.int .i64 n)
  | some (.map _ _), .map none => some (.int .i64 0)
  | some (.map _ _), .map (some r) => match s.heap.get r with
    | some (.map es) => some (.int .i64 es.length)
    | _ => none
  | _, _ => none

/-- the cells that are appended or copied: of n elements of z cells -/
def cellsIn (s : St) (z n : Nat) : Value → Option (List Value)
  | .slice (some ⟨id, off, none⟩) _ _ => s.some? id off (n * z)
  | .slice none _ _ => some []
  | .string b => if z = 1 then some ((cellsOfBytes b).take n) else none
  | _ => none
def lenIn : Value → Option Nat
  | .slice _ n _ => some n
  | .string b => some b.size
  | _ => none

def aAppend (P : Program) (s : St) (t : TypeId) (t2 : TypeId) (x y : Value) : Option (Value × St) :=
  match P.underlying t, P.underlying t2 with
  | some _, some (.int _) => none
  | some (.slice el), some _ =>
    match sizeT P el, bytesT P el, zeroT P el, lenIn y with
    | some z, some b, some zero, some m =>
      if z = 0 ∨ b = 0 ∨ zero.cells.size ≠ z then none else
      match x, cellsIn s z m y with
      | .slice none 0 0, some new =>
        if m = 0 then some (x, s)
        else if (2 * m + 400) * b > 2 ^ 48 then none
        else some (.slice (some ⟨s.next, 0, none⟩) m (2 * z + 1), s.new (.cells new true))
      | .slice (some ⟨id, off, none⟩) n c, some new =>
        if m = 0 then some (x, s)
        else if (2 * (n + m) + 400) * b > 2 ^ 48 ∨ c / 2 ≠ z then none
        else match s.some? id off (n * z) with
        | none => none
        | some old =>
          if c = 2 * z then some (.slice (some ⟨s.next, 0, none⟩) (n + m) (2 * z + 1), s.new (.cells (old ++ new) true))
          else match s.row id with
            | some (_, true) => if new.all isCell = true then some (.slice (some ⟨s.next, 0, none⟩) (n + m) (2 * z + 1), (s.put id .dead).new (.cells (old ++ new) true)) else none
            | _ => none
      | _, _ => none
    | _, _, _, _ => none
  | _, _ => none

def aCopy (P : Program) (s : St) (t : TypeId) (x y : Value) : Option (Value × St) :=
  match P.underlying t, x, lenIn y with
  | some (.slice el), .slice a n _, some m =>
    match sizeT P el with
    | some z => if min m n = 0 then some (.int .i64 0, s) else match cellsIn s z (min m n) y, a with
      | some new, some ⟨id, off, none⟩ => match s.row id with
        | some (c, true) => if off + new.length ≤ c.length ∧ new.all isCell = true then some (.int .i64 (min m n : Nat), s.put id (.cells (setAll c off new) true)) else none
        | _ => none
      | _, _ => none
    | none => none
  | _, _, _ => none

def aMin : List Value → Option Value
  | [] => none
  | x :: r => go x r
where
  go : Value → List Value → Option Value
    | v, [] => some v
    | .int k x, .int _ y :: r => go (.int k (if y < x then y else x)) r
    | _, _ => none
def aMax : List Value → Option Value
  | [] => none
  | x :: r => go x r
where
  go : Value → List Value → Option Value
    | v, [] => some v
    | .int k x, .int _ y :: r => go (.int k (if y > x then y else x)) r
    | _, _ => none

def aBuiltin (P : Program) (s : St) (b : Builtin) (ts : List TypeId) (args : List Value) : Option (Value × St) :=
  match b, ts, args with
  | .len, t :: _, x :: _ => (aLen P s t x).map (·, s)
  | .append, t :: t2 :: _, [x, y] => aAppend P s t t2 x y
  | .copy, t :: _, [x, y] => aCopy P s t x y
  | .min, _, l => (aMin l).map (·, s)
  | .max, _, l => (aMax l).map (·, s)
  | _, _, _ => none

/-! ### 6. One operation -/
abbrev CallF := FuncId → List Value → St → Option (Value × St)

def fillL (place : Nat → Option (Nat × Nat)) (cells : List Value) : List (Nat × Value) → Option (List Value)
  | [] => some cells
  | (i, v) :: rest =>
    match place i with
    | none => none
    | some (off, size) => if v.cells.size ≠ size ∨ off + v.cells.size > cells.length then none else fillL place (setAll cells off v.cells.toList) rest

def fieldPlaces (P : Program) (fields : Array Field) (i : Nat) : Option (Nat × Nat) :=
  match fields[i]? with
  | some f => (sizeT P f.type).map fun n => (f.offset, n)
  | none => none

def aBuild (P : Program) (t : TypeId) (ps : List (Nat × Value)) : Option Value :=
  match zeroT P t, P.underlying t with
  | some z, some (.struct fields) =>
    if fields.toList.all (fun f => (sizeT P f.type).isSome) then (fillL (fieldPlaces P fields) z.cells.toList ps).map fun l => .agg l.toArray else none
  | some z, some (.array _ el) => match sizeT P el with
    | some n => (fillL (fun i => some (i * n, n)) z.cells.toList ps).map fun l => .agg l.toArray
    | none => none
  | _, _ => none

def aBuildSlice (P : Program) (s : St) (t : TypeId) (len : Nat) (ps : List (Nat × Value)) : Option (Value × St) :=
  match P.underlying t with
  | some (.slice el) => match sizeT P el, zeroT P el with
    | some z, some zero =>
      if z = 0 ∨ zero.cells.size ≠ z ∨ len * z > 2 ^ 24 then none else
      match fillL (fun i => some (i * z, z)) (repCells zero.cells.toList len) ps with
      | some cells => some (.slice (some ⟨s.next, 0, none⟩) len (2 * z), s.new (.cells cells true))
      | none => none
    | _, _ => none
  | _ => none

def aMakeSlice (P : Program) (s : St) (t : TypeId) (l c : Value) : Option (Value × St) :=
  match P.underlying t, l, c with
  | some (.slice el), .int .i64 l, .int .i64 c =>
    match sizeT P el, bytesT P el, zeroT P el with
    | some z, some b, some zero =>
      if z = 0 ∨ zero.cells.size ≠ z ∨ b = 0 then none
      else if 0 ≤ l ∧ l ≤ c ∧ (b : Int) * c ≤ 2 ^ 48 then
        some (.slice (some ⟨s.next, 0, none⟩) l.toNat (if l = c then 2 * z else 2 * z + 1), s.new (.cells (repCells zero.cells.toList l.toNat) true))
      else none
    | _, _, _ => none
  | _, _, _ => none

def aFieldAddr (P : Program) (t : TypeId) (x : Value) (i : Nat) : Option Value :=
  match P.underlying t, x with
  | some (.struct fields), .pointer (some ⟨id, off, none⟩) =>
    match fields[i]? with
    | some f => match sizeT P f.type with
      | some (_ + 1) => some (.pointer (some ⟨id, off + f.offset, none⟩))
      | _ => none
    | none => none
  | _, _ => none
def aField (P : Program) (t : TypeId) (x : Value) (i : Nat) : Option Value :=
  match P.underlying t, x with
  | some (.struct fields), .agg cs => match fields[i]? with
    | some f => aEqN.aPart P f.type cs f.offset
    | none => none
  | _, _ => none
def aIndexAddr (P : Program) (t : TypeId) (x i : Value) : Option Value :=
  match i with
  | .int _ i => match P.underlying t, x with
    | some (.array len el), .pointer (some ⟨id, off, none⟩) => match sizeT P el with
      | some z => if 0 ≤ i ∧ i < len then some (.pointer (some ⟨id, off + i.toNat * z, none⟩)) else none
      | none => none
    | some (.slice el), .slice (some ⟨id, off, none⟩) len _ => match sizeT P el with
      | some z => if 0 ≤ i ∧ i < len then some (.pointer (some ⟨id, off + i.toNat * z, none⟩)) else none
      | none => none
    | _, _ => none
  | _ => none
def aIndex (P : Program) (t : TypeId) (x i : Value) : Option Value :=
  match i with
  | .int _ i => match P.underlying t, x with
    | some (.array len el), .agg cs => match sizeT P el with
      | some z => if 0 ≤ i ∧ i < len then aEqN.aPart P el cs (i.toNat * z) else none
      | none => none
    | some .string, .string s => if 0 ≤ i then (s[i.toNat]?).map fun b => .int .u8 b.toNat else none
    | _, _ => none
  | _ => none

def evalOp (P : Program) (call : CallF) (o : Oper) (e : Env) (s : St) : Option (Value × St) :=
  match o.op with
  | .move x | .assign x => (opd e x).map (·, s)
  | .pick c a b => match opd e c with
    | some (.bool true) => (opd e a).map (·, s)
    | some (.bool false) => (opd e b).map (·, s)
    | _ => none
  | .alloc t => (zeroT P t).map fun z => (.pointer (some ⟨s.next, 0, none⟩), s.new (.cells z.cells.toList true))
  | .box _ x => (opd e x).map fun v => (.pointer (some ⟨s.next, 0, none⟩), s.new (.cells v.cells.toList true))
  | .build t ps => match parts e ps.toList with
    | some l => (aBuild P t l).map (·, s)
    | none => none
  | .buildSlice t n ps => match parts e ps.toList with
    | some l => aBuildSlice P s t n l
    | none => none
  | .load t a => match opd e a with
    | some (.pointer (some ⟨id, off, none⟩)) => (aLoad P s t id off).map (·, s)
    | _ => none
  | .store t a x => match opd e a, opd e x with
    | some (.pointer (some ⟨id, off, none⟩)), some v => (aStore P s t id off v).map (undef, ·)
    | _, _ => none
  | .nilCheck x => match opd e x with
    | some (.pointer (some a)) => some (.pointer (some a), s)
    | some (.func (.func f) a b) => some (.func (.func f) a b, s)
    | _ => none
  | .binOp op t x y _ => match opd e x, opd e y with
    | some a, some b => (aBin P op t a b).map (·, s)
    | _, _ => none
  | .unOp op _ x => match opd e x with
    | some a => (aUn op a).map (·, s)
    | none => none
  | .convert src dst x => match opd e x with
    | some v => aConvert P s src dst v
    | none => none
  | .makeFunc (.func f) first captured => match opds e first.toList, opds e captured.toList with
    | some a, some b => some (.func (.func f) a.toArray b.toArray, s)
    | _, _ => none
  | .makeSlice t l c => match opd e l, opd e c with
    | some a, some b => aMakeSlice P s t a b
    | _, _ => none
  | .slice t x lo hi mx => match opd e x, opdO e lo, opdO e hi, opdO e mx with
    | some v, some l, some h, some m => (aSlice P s t v l h m).map (·, s)
    | _, _, _, _ => none
  | .fieldAddr t x i => match opd e x with
    | some v => (aFieldAddr P t v i).map (·, s)
    | none => none
  | .field t x i => match opd e x with
    | some v => (aField P t v i).map (·, s)
    | none => none
  | .indexAddr t x i => match opd e x, opd e i with
    | some v, some j => (aIndexAddr P t v j).map (·, s)
    | _, _ => none
  | .index t x i => match opd e x, opd e i with
    | some v, some j => (aIndex P t v j).map (·, s)
    | _, _ => none
  | .extract x i => match opd e x with
    | some (.tuple vs) => (vs[i]?).map (·, s)
    | _ => none
  | .call c => match c.callee with
    | .value f => match opd e f, opds e c.args.toList with
      | some (.func (.func g) first captured), some l => call g (first.toList ++ l ++ captured.toList) s
      | _, _ => none
    | .builtin b => match opds e c.args.toList with
      | some l => aBuiltin P s b c.argTypes.toList l
      | none => none
    | _ => none
  | _ => none

/-! ### 7. Regions, code, functions -/
def put (e : Env) (d : Option Tmp) (v : Option Value) : Env :=
  match d with
  | some d => e.set d v
  | none => e
/-- is the operation performed? -/
def wantedA (ops : Array Oper) (o : Oper) (e : Env) : Option Bool :=
  match o.guard with
  | none => some true
  | some (j, want) => match (ops[j]?).bind (·.dst) with
    | some t => match (e[t]?).getD none with
      | some (.bool b) => some (b == want)
      | _ => none
    | none => none

def evalOps (P : Program) (call : CallF) (ops : Array Oper) : List Oper → Env → St → Option (Env × St)
  | [], e, s => some (e, s)
  | o :: r, e, s =>
    match wantedA ops o e with
    | some true => match evalOp P call o e s with
      | some (v, s') => evalOps P call ops r (put e o.dst (some v)) s'
      | none => none
    | some false => evalOps P call ops r (put e o.dst none) s
    | none => none

/-- operations that ask and change nothing but slots -/
def still : Op → Bool
  | .move _ | .assign _ | .pick .. | .build .. | .nilCheck _ | .binOp .. | .unOp .. | .makeFunc .. | .fieldAddr .. | .field .. | .indexAddr .. | .index .. | .extract .. => true
  | _ => false

/-- a region that draws its order: done: what was performed and isn't still: its place, and was it loud -/
def evalDraw (P : Program) (call : CallF) (ops : Array Oper) (b : Array Nat) : List Oper → Nat → List (Nat × Bool) → Env → St → Option (Env × St)
  | [], _, _, e, s => some (e, s)
  | o :: r, i, done, e, s =>
    match wantedA ops o e with
    | some true => match evalOp P call o e { s with low := s.next } with
      | some (v, s') =>
        if still o.op then evalDraw P call ops b r (i + 1) done (put e o.dst (some v)) { s' with low := s.low }
        else
          let loud := decide (s'.low < s.next)
          if done.all (fun x => !(loud || x.2) || (b.getD i 0).testBit x.1) then
            evalDraw P call ops b r (i + 1) ((i, loud) :: done) (put e o.dst (some v)) { s' with low := min s.low s'.low }
          else none
      | none => none
    | some false => evalDraw P call ops b r (i + 1) done (put e o.dst none) s
    | none => none

/-- slots that aren't kept are forgotten -/
def forget (keep : Nat) (ops : List Oper) (e : Env) : Env :=
  ops.foldl (fun e o => match o.dst with
    | some d => if keep.testBit d then e else e.set d none
    | none => e) e

inductive Ex where
  | normal
  | ret
  | exit (id : Nat)
  deriving DecidableEq

def iter (body : Env → St → Option (Ex × Env × St)) : Nat → Env → St → Option (Ex × Env × St)
  | 0, _, _ => none
  | n + 1, e, s => match body e s with
    | some (.normal, e', s') => iter body n e' s'
    | r => r

def afterCond (hold : Nat) (c : Operand) (e : Env) : Env :=
  match c with
  | .tmp t => if hold.testBit t then e else e.set t none
  | _ => e
def evalCode (P : Program) (n : Nat) (call : CallF) (keep hold : Nat) : Code → Env → St → Option (Ex × Env × St)
  | .skip, e, s | .label _, e, s => some (.normal, e, s)
  | .region _ ops false, e, s => (evalOps P call ops ops.toList e s).map fun (e', s') => (.normal, forget keep ops.toList e', s')
  | .region _ ops true, e, s => (evalDraw P call ops (Region.before ops) ops.toList 0 [] e s).map fun (e', s') => (.normal, forget keep ops.toList e', s')
  | .seq a b, e, s => match evalCode P n call keep hold a e s with
    | some (.normal, e', s') => evalCode P n call keep hold b e' s'
    | r => r
  | .cond c a b, e, s =>
    match opd e c with
    | some (.bool true) => evalCode P n call keep hold a (afterCond hold c e) s
    | some (.bool false) => evalCode P n call keep hold b (afterCond hold c e) s
    | _ => none
  | .block id b, e, s => match evalCode P n call keep hold b e s with
    | some (.exit i, e', s') => if i = id then some (.normal, e', s') else some (.exit i, e', s')
    | r => r
  | .loop b, e, s => iter (evalCode P n call keep hold b) n e s
  | .exit id, e, s => some (.exit id, e, s)
  | .ret, e, s => some (.ret, e, s)
  | _, _, _ => none

def resVal (P : Program) (e : Env) (s : St) : ResultVar → Option Value
  | .tmp t => (e[t]?).getD none
  | .cell a t => match (e[a]?).getD none with
    | some (.pointer (some ⟨id, off, none⟩)) => aLoad P s t id off
    | _ => none
def resVals (P : Program) (e : Env) (s : St) : List ResultVar → Option (List Value)
  | [] => some []
  | r :: l => match resVal P e s r with
    | some v => (resVals P e s l).map (v :: ·)
    | none => none
def tupled : List Value → Value
  | [v] => v
  | l => .tuple l.toArray

structure Masks where
  keep : FuncId → Nat
  hold : FuncId → Nat
  /-- calls of which it is known already what they answer, wherever they stand -/
  closed : FuncId → List Value → Option Value := fun _ _ => none

def evalF (P : Program) (M : Masks) : Nat → CallF
  | 0, _, _, _ => none
  | n + 1, f, args, s =>
    match M.closed f args with
    | some v => some (v, s)
    | none =>
    match P.funcs[f]? with
    | some fn => match fn.body with
      | some c =>
        if fn.name == "runtime.NumGoroutine" || args.length > fn.ntmps then none else
        match evalCode P n (evalF P M n) (M.keep f) (M.hold f) c (args.map some ++ List.replicate (fn.ntmps - args.length) none) s with
        | some (.normal, e, s') | some (.ret, e, s') => (resVals P e s' fn.results.toList).map fun l => (tupled l, s')
        | _ => none
      | none => none
    | none => none

end Go.Eng
end

section
/- The evaluator's runs as plain propositions: what is shown of a function, of code and of a region; rules to step through them. -/
namespace Go.Eng

/-! ### 1. More rounds and deeper calls give the same answer -/
def CLe (c c' : CallF) : Prop := ∀ f a s r, c f a s = some r → c' f a s = some r
theorem CLe.refl (c : CallF) : CLe c c := fun _ _ _ _ h => h
theorem CLe.trans {a b c : CallF} (h : CLe a b) (k : CLe b c) : CLe a c := fun f x s r e => k f x s r (h f x s r e)

theorem evalOp_mono {P : Program} {c c' : CallF} (h : CLe c c') (o : Oper) (e : Env) (s : St) (r : Value × St) (hr : evalOp P c o e s = some r) : evalOp P c' o e s = some r := by
  unfold evalOp at hr ⊢
  split at hr <;> try exact hr
  split at hr <;> try exact hr
  split at hr
  · exact h _ _ _ _ hr
  · exact absurd hr (by simp)

theorem evalOps_mono {P : Program} {c c' : CallF} (h : CLe c c') (ops : Array Oper) (l : List Oper) : ∀ (e : Env) (s : St) (r : Env × St), evalOps P c ops l e s = some r → evalOps P c' ops l e s = some r := by
  induction l with
  | nil => intro e s r hr; exact hr
  | cons o l ih =>
    intro e s r hr
    simp only [evalOps] at hr ⊢
    split at hr
    · split at hr
      · rename_i v s' he
        rw [evalOp_mono h _ _ _ _ he]
        exact ih _ _ _ hr
      · exact absurd hr (by simp)
    · exact ih _ _ _ hr
    · exact absurd hr (by simp)

theorem evalDraw_mono {P : Program} {c c' : CallF} (h : CLe c c') (ops : Array Oper) (b : Array Nat) (l : List Oper) : ∀ (i : Nat) (d : List (Nat × Bool)) (e : Env) (s : St) (r : Env × St), evalDraw P c ops b l i d e s = some r → evalDraw P c' ops b l i d e s = some r := by
  induction l with
  | nil => intro i d e s r hr; exact hr
  | cons o l ih =>
    intro i d e s r hr
    simp only [evalDraw] at hr ⊢
    split at hr
    · split at hr
      · rename_i v s' he
        rw [evalOp_mono h _ _ _ _ he]
        simp only
        split at hr
        · rename_i hs
          rw [if_pos hs]
          exact ih _ _ _ _ _ hr
        · rename_i hs
          rw [if_neg hs]
          split at hr
          · rename_i hd
            rw [if_pos hd]
            exact ih _ _ _ _ _ hr
          · exact absurd hr (by simp)
      · exact absurd hr (by simp)
    · exact ih _ _ _ _ _ hr
    · exact absurd hr (by simp)

theorem iter_mono {b b' : Env → St → Option (Ex × Env × St)} (h : ∀ e s r, b e s = some r → b' e s = some r) : ∀ (n m : Nat), n ≤ m → ∀ (e : Env) (s : St) (r : Ex × Env × St), iter b n e s = some r → iter b' m e s = some r := by
  intro n
  induction n with
  | zero => intro m _ e s r hr; simp [iter] at hr
  | succ n ih =>
    intro m hm e s r hr
    obtain ⟨m, rfl⟩ : ∃ k, m = k + 1 := ⟨m - 1, by omega⟩
    simp only [iter] at hr ⊢
    cases hb : b e s with
    | none => rw [hb] at hr; exact absurd hr (by simp)
    | some q =>
      rw [hb] at hr
      rw [h _ _ _ hb]
      obtain ⟨x, e', s'⟩ := q
      cases x with
      | normal => exact ih m (by omega) _ _ _ hr
      | ret => exact hr
      | exit id => exact hr

theorem evalCode_mono {P : Program} {c c' : CallF} (h : CLe c c') {n m : Nat} (hn : n ≤ m) (keep hold : Nat) (k : Code) : ∀ (e : Env) (s : St) (r : Ex × Env × St), evalCode P n c keep hold k e s = some r → evalCode P m c' keep hold k e s = some r := by
  induction k with
  | region id ops draw =>
    intro e s r hr
    cases draw with
    | false =>
      simp only [evalCode, Option.map_eq_some_iff] at hr ⊢
      obtain ⟨q, hq, rfl⟩ := hr
      exact ⟨q, evalOps_mono h _ _ _ _ _ hq, rfl⟩
    | true =>
      simp only [evalCode, Option.map_eq_some_iff] at hr ⊢
      obtain ⟨q, hq, rfl⟩ := hr
      exact ⟨q, evalDraw_mono h _ _ _ _ _ _ _ _ hq, rfl⟩
  | seq a b iha ihb =>
    intro e s r hr
    simp only [evalCode] at hr ⊢
    cases ha : evalCode P n c keep hold a e s with
    | none => rw [ha] at hr; exact absurd hr (by simp)
    | some q =>
      rw [ha] at hr
      rw [iha _ _ _ ha]
      obtain ⟨x, e', s'⟩ := q
      cases x with
      | normal => exact ihb _ _ _ hr
      | ret => exact hr
      | exit id => exact hr
  | cond o a b iha ihb =>
    intro e s r hr
    simp only [evalCode] at hr ⊢
    split at hr
    · exact iha _ _ _ hr
    · exact ihb _ _ _ hr
    · exact absurd hr (by simp)
  | block id b ih =>
    intro e s r hr
    simp only [evalCode] at hr ⊢
    cases hb : evalCode P n c keep hold b e s with
    | none => rw [hb] at hr; exact absurd hr (by simp)
    | some q =>
      rw [hb] at hr
      rw [ih _ _ _ hb]
      exact hr
  | loop b ih => intro e s r hr; exact iter_mono ih n m hn e s r hr
  | skip => intro e s r hr; exact hr
  | rangeFunc f p a b => intro e s r hr; simp [evalCode] at hr
  | exit id => intro e s r hr; exact hr
  | scope b => intro e s r hr; simp [evalCode] at hr
  | label l => intro e s r hr; exact hr
  | goto l => intro e s r hr; simp [evalCode] at hr
  | ret => intro e s r hr; exact hr
  | refuse w => intro e s r hr; simp [evalCode] at hr

theorem evalF_mono1 {P : Program} {M : Masks} (n : Nat) : CLe (evalF P M n) (evalF P M (n + 1)) := by
  induction n with
  | zero => intro f a s r hr; simp [evalF] at hr
  | succ n ih =>
    intro f a s r hr
    unfold evalF at hr ⊢
    cases hc : M.closed f a with
    | some v => simp only [hc] at hr ⊢; exact hr
    | none =>
    simp only [hc] at hr ⊢
    cases hf : P.funcs[f]? with
    | none => simp [hf] at hr
    | some fn =>
      simp only [hf] at hr ⊢
      cases hb : fn.body with
      | none => simp [hb] at hr
      | some k =>
        simp only [hb] at hr ⊢
        split at hr
        · exact absurd hr (by simp)
        · rename_i hc
          rw [if_neg hc]
          cases hk : evalCode P n (evalF P M n) (M.keep f) (M.hold f) k (a.map some ++ List.replicate (fn.ntmps - a.length) none) s with
          | none => rw [hk] at hr; exact absurd hr (by simp)
          | some q =>
            rw [hk] at hr
            rw [evalCode_mono ih (Nat.le_succ n) _ _ _ _ _ _ hk]
            exact hr
theorem evalF_mono {P : Program} {M : Masks} {n m : Nat} (h : n ≤ m) : CLe (evalF P M n) (evalF P M m) := by
  induction h with
  | refl => exact CLe.refl _
  | step _ ih => exact ih.trans (evalF_mono1 _)

/-! ### 2. What is shown -/
/-- function f, called so, comes to an answer of which Q holds -/
def WF (P : Program) (M : Masks) (f : FuncId) (args : List Value) (s : St) (Q : Value → St → Prop) : Prop :=
  ∃ n v s', evalF P M n f args s = some (v, s') ∧ Q v s'
def WO (P : Program) (M : Masks) (o : Oper) (e : Env) (s : St) (Q : Value → St → Prop) : Prop :=
  ∃ n v s', evalOp P (evalF P M n) o e s = some (v, s') ∧ Q v s'
def WR (P : Program) (M : Masks) (ops : Array Oper) (l : List Oper) (e : Env) (s : St) (Q : Env → St → Prop) : Prop :=
  ∃ n e' s', evalOps P (evalF P M n) ops l e s = some (e', s') ∧ Q e' s'
def WD (P : Program) (M : Masks) (ops : Array Oper) (b : Array Nat) (l : List Oper) (i : Nat) (d : List (Nat × Bool)) (e : Env) (s : St) (Q : Env → St → Prop) : Prop :=
  ∃ n e' s', evalDraw P (evalF P M n) ops b l i d e s = some (e', s') ∧ Q e' s'
def WC (P : Program) (M : Masks) (f : FuncId) (k : Code) (e : Env) (s : St) (Q : Ex → Env → St → Prop) : Prop :=
  ∃ n x e' s', evalCode P n (evalF P M n) (M.keep f) (M.hold f) k e s = some (x, e', s') ∧ Q x e' s'

section
variable {P : Program} {M : Masks} {f : FuncId}

theorem WF.mono {args : List Value} {s : St} {Q R : Value → St → Prop} (h : WF P M f args s Q) (hq : ∀ v s', Q v s' → R v s') : WF P M f args s R :=
  let ⟨n, v, s', e, q⟩ := h; ⟨n, v, s', e, hq v s' q⟩
theorem WC.mono {k : Code} {e : Env} {s : St} {Q R : Ex → Env → St → Prop} (h : WC P M f k e s Q) (hq : ∀ x e' s', Q x e' s' → R x e' s') : WC P M f k e s R :=
  let ⟨n, x, e', s', h, q⟩ := h; ⟨n, x, e', s', h, hq x e' s' q⟩

theorem WR_nil {ops : Array Oper} {e : Env} {s : St} {Q : Env → St → Prop} : WR P M ops [] e s Q ↔ Q e s :=
  ⟨fun ⟨n, e', s', h, q⟩ => by simp only [evalOps, Option.some.injEq, Prod.mk.injEq] at h; obtain ⟨rfl, rfl⟩ := h; exact q, fun q => ⟨0, e, s, rfl, q⟩⟩
theorem WR_cons {ops : Array Oper} {o : Oper} {l : List Oper} {e : Env} {s : St} {Q : Env → St → Prop} :
    WR P M ops (o :: l) e s Q ↔ (wantedA ops o e = some true ∧ WO P M o e s (fun v s' => WR P M ops l (put e o.dst (some v)) s' Q)) ∨ (wantedA ops o e = some false ∧ WR P M ops l (put e o.dst none) s Q) := by
  constructor
  · rintro ⟨n, e', s', h, q⟩
    simp only [evalOps] at h
    split at h
    · rename_i hw
      split at h
      · rename_i v s1 ho
        exact .inl ⟨hw, n, v, s1, ho, n, e', s', h, q⟩
      · exact absurd h (by simp)
    · rename_i hw
      exact .inr ⟨hw, n, e', s', h, q⟩
    · exact absurd h (by simp)
  · rintro (⟨hw, n, v, s1, ho, m, e', s', h, q⟩ | ⟨hw, n, e', s', h, q⟩)
    · refine ⟨max n m, e', s', ?_, q⟩
      simp only [evalOps, hw]
      rw [evalOp_mono (evalF_mono (Nat.le_max_left n m)) _ _ _ _ ho]
      exact evalOps_mono (evalF_mono (Nat.le_max_right n m)) _ _ _ _ _ h
    · exact ⟨n, e', s', by simp only [evalOps, hw]; exact h, q⟩

theorem WD_nil {ops : Array Oper} {b : Array Nat} {i : Nat} {d : List (Nat × Bool)} {e : Env} {s : St} {Q : Env → St → Prop} : WD P M ops b [] i d e s Q ↔ Q e s :=
  ⟨fun ⟨n, e', s', h, q⟩ => by simp only [evalDraw, Option.some.injEq, Prod.mk.injEq] at h; obtain ⟨rfl, rfl⟩ := h; exact q, fun q => ⟨0, e, s, rfl, q⟩⟩
theorem WD_still {ops : Array Oper} {b : Array Nat} {i : Nat} {d : List (Nat × Bool)} {o : Oper} {l : List Oper} {e : Env} {s : St} {Q : Env → St → Prop} (ho : still o.op = true)
    (hw : wantedA ops o e = some true) (h : WO P M o e { s with low := s.next } (fun v s' => WD P M ops b l (i + 1) d (put e o.dst (some v)) { s' with low := s.low } Q)) : WD P M ops b (o :: l) i d e s Q := by
  obtain ⟨n, v, s1, h1, m, e', s', h2, q⟩ := h
  refine ⟨max n m, e', s', ?_, q⟩
  simp only [evalDraw, hw, ho, if_true]
  rw [evalOp_mono (evalF_mono (Nat.le_max_left n m)) _ _ _ _ h1]
  exact evalDraw_mono (evalF_mono (Nat.le_max_right n m)) _ _ _ _ _ _ _ _ h2
theorem WD_loud {ops : Array Oper} {b : Array Nat} {i : Nat} {d : List (Nat × Bool)} {o : Oper} {l : List Oper} {e : Env} {s : St} {Q : Env → St → Prop} (ho : still o.op = false)
    (hw : wantedA ops o e = some true)
    (h : WO P M o e { s with low := s.next } (fun v s' => d.all (fun x => !(decide (s'.low < s.next) || x.2) || (b.getD i 0).testBit x.1) = true ∧ WD P M ops b l (i + 1) ((i, decide (s'.low < s.next)) :: d) (put e o.dst (some v)) { s' with low := min s.low s'.low } Q)) : WD P M ops b (o :: l) i d e s Q := by
  obtain ⟨n, v, s1, h1, hd, m, e', s', h2, q⟩ := h
  refine ⟨max n m, e', s', ?_, q⟩
  simp only [evalDraw, hw, ho]
  rw [evalOp_mono (evalF_mono (Nat.le_max_left n m)) _ _ _ _ h1]
  simp only [Bool.false_eq_true, if_false, hd, if_true]
  exact evalDraw_mono (evalF_mono (Nat.le_max_right n m)) _ _ _ _ _ _ _ _ h2
theorem WD_skip {ops : Array Oper} {b : Array Nat} {i : Nat} {d : List (Nat × Bool)} {o : Oper} {l : List Oper} {e : Env} {s : St} {Q : Env → St → Prop}
    (hw : wantedA ops o e = some false) (h : WD P M ops b l (i + 1) d (put e o.dst none) s Q) : WD P M ops b (o :: l) i d e s Q := by
  obtain ⟨n, e', s', h, q⟩ := h
  exact ⟨n, e', s', by simp only [evalDraw, hw]; exact h, q⟩

theorem WC_region {id : Nat} {ops : Array Oper} {e : Env} {s : St} {Q : Ex → Env → St → Prop} (h : WR P M ops ops.toList e s (fun e' s' => Q .normal (forget (M.keep f) ops.toList e') s')) : WC P M f (.region id ops false) e s Q :=
  let ⟨n, e', s', h, q⟩ := h; ⟨n, .normal, _, s', by simp only [evalCode, h, Option.map_some], q⟩
theorem WC_draw {id : Nat} {ops : Array Oper} {e : Env} {s : St} {Q : Ex → Env → St → Prop} (h : WD P M ops (Region.before ops) ops.toList 0 [] e s (fun e' s' => Q .normal (forget (M.keep f) ops.toList e') s')) : WC P M f (.region id ops true) e s Q :=
  let ⟨n, e', s', h, q⟩ := h; ⟨n, .normal, _, s', by simp only [evalCode, h, Option.map_some], q⟩
theorem WC_skip {e : Env} {s : St} {Q : Ex → Env → St → Prop} (h : Q .normal e s) : WC P M f .skip e s Q := ⟨0, .normal, e, s, rfl, h⟩
theorem WC_ret {e : Env} {s : St} {Q : Ex → Env → St → Prop} (h : Q .ret e s) : WC P M f .ret e s Q := ⟨0, .ret, e, s, rfl, h⟩
theorem WC_exit {id : Nat} {e : Env} {s : St} {Q : Ex → Env → St → Prop} (h : Q (.exit id) e s) : WC P M f (.exit id) e s Q := ⟨0, _, e, s, rfl, h⟩
def Ex.then (N : Env → St → Prop) (Q : Ex → Env → St → Prop) : Ex → Env → St → Prop
  | .normal, e, s => N e s
  | x, e, s => Q x e s
theorem WC_seq {a b : Code} {e : Env} {s : St} {Q : Ex → Env → St → Prop} (h : WC P M f a e s (Ex.then (fun e' s' => WC P M f b e' s' Q) Q)) : WC P M f (.seq a b) e s Q := by
  obtain ⟨n, x, e1, s1, h1, q⟩ := h
  cases x with
  | normal =>
    obtain ⟨m, y, e', s', h2, q⟩ := q
    refine ⟨max n m, y, e', s', ?_, q⟩
    simp only [evalCode]
    rw [evalCode_mono (evalF_mono (Nat.le_max_left n m)) (Nat.le_max_left n m) _ _ _ _ _ _ h1]
    exact evalCode_mono (evalF_mono (Nat.le_max_right n m)) (Nat.le_max_right n m) _ _ _ _ _ _ h2
  | ret => exact ⟨n, .ret, e1, s1, by simp only [evalCode, h1], q⟩
  | exit id => exact ⟨n, .exit id, e1, s1, by simp only [evalCode, h1], q⟩
def condEnv (hold : Nat) (t : Nat) (e : Env) : Env := if hold.testBit t then e else e.set t none
theorem WC_cond {t : Tmp} {a b : Code} {e : Env} {s : St} {Q : Ex → Env → St → Prop} (c : Bool) (hc : (e[t]?).getD none = some (.bool c)) (h : WC P M f (if c then a else b) (condEnv (M.hold f) t e) s Q) : WC P M f (.cond (.tmp t) a b) e s Q := by
  obtain ⟨n, x, e', s', h, q⟩ := h
  refine ⟨n, x, e', s', ?_, q⟩
  simp only [evalCode, opd, hc]
  cases c <;> exact h
theorem WC_block {id : Nat} {b : Code} {e : Env} {s : St} {Q : Ex → Env → St → Prop} (h : WC P M f b e s (fun x e' s' => match x with | .exit i => if i = id then Q .normal e' s' else Q (.exit i) e' s' | x => Q x e' s')) : WC P M f (.block id b) e s Q := by
  obtain ⟨n, x, e', s', h, q⟩ := h
  cases x with
  | normal => exact ⟨n, .normal, e', s', by simp only [evalCode, h], q⟩
  | ret => exact ⟨n, .ret, e', s', by simp only [evalCode, h], q⟩
  | exit i =>
    simp only at q
    by_cases hi : i = id
    · rw [if_pos hi] at q
      exact ⟨n, .normal, e', s', by simp only [evalCode, h, hi, if_true], q⟩
    · rw [if_neg hi] at q
      exact ⟨n, .exit i, e', s', by simp only [evalCode, h, hi, if_false], q⟩
theorem WC_loop {b : Code} {e : Env} {s : St} {Q : Ex → Env → St → Prop} (h : WC P M f b e s (Ex.then (fun e' s' => WC P M f (.loop b) e' s' Q) Q)) : WC P M f (.loop b) e s Q := by
  obtain ⟨n, x, e1, s1, h1, q⟩ := h
  cases x with
  | normal =>
    obtain ⟨m, y, e', s', h2, q⟩ := q
    refine ⟨max n m + 1, y, e', s', ?_, q⟩
    have h1' := evalCode_mono (evalF_mono (show n ≤ max n m + 1 by omega)) (show n ≤ max n m + 1 by omega) _ _ _ _ _ _ h1
    have h2' := evalCode_mono (evalF_mono (show m ≤ max n m + 1 by omega)) (show m ≤ max n m by omega) (M.keep f) (M.hold f) (.loop b) _ _ _ h2
    simp only [evalCode, iter] at h1' h2' ⊢
    rw [h1']
    refine iter_mono ?_ _ _ (Nat.le_refl _) _ _ _ h2'
    exact fun e s r hr => evalCode_mono (CLe.refl _) (by omega) _ _ _ _ _ _ hr
  | ret =>
    refine ⟨n + 1, .ret, e1, s1, ?_, q⟩
    have h1' := evalCode_mono (evalF_mono (show n ≤ n + 1 by omega)) (show n ≤ n + 1 by omega) _ _ _ _ _ _ h1
    simp only [evalCode, iter, h1']
  | exit id =>
    refine ⟨n + 1, .exit id, e1, s1, ?_, q⟩
    have h1' := evalCode_mono (evalF_mono (show n ≤ n + 1 by omega)) (show n ≤ n + 1 by omega) _ _ _ _ _ _ h1
    simp only [evalCode, iter, h1']
/-- a loop, by induction on a measure -/
theorem WC_loop_inv {b : Code} {Q : Ex → Env → St → Prop} (I : Nat → Env → St → Prop) (round : ∀ d e s, I d e s → WC P M f b e s (Ex.then (fun e' s' => ∃ d', d' < d ∧ I d' e' s') Q)) :
    ∀ d e s, I d e s → WC P M f (.loop b) e s Q := by
  intro d
  induction d using Nat.strongRecOn with
  | _ d ih =>
    intro e s h
    refine WC_loop ((round d e s h).mono ?_)
    intro x e' s' hx
    cases x with
    | normal => obtain ⟨d', hd, hi⟩ := hx; exact ih d' hd e' s' hi
    | ret => exact hx
    | exit id => exact hx

theorem WF_closed {args : List Value} {s : St} {v : Value} {Q : Value → St → Prop} (hc : M.closed f args = some v) (q : Q v s) : WF P M f args s Q := ⟨1, v, s, by simp only [evalF, hc], q⟩
theorem WF_of {fn : Func} {k : Code} {args : List Value} {s : St} {Q : Value → St → Prop} (hc : M.closed f args = none) (hf : P.funcs[f]? = some fn) (hb : fn.body = some k) (hn : (fn.name == "runtime.NumGoroutine" || decide (args.length > fn.ntmps)) = false)
    (h : WC P M f k (args.map some ++ List.replicate (fn.ntmps - args.length) none) s (fun x e' s' => (x = .normal ∨ x = .ret) ∧ ∃ l, resVals P e' s' fn.results.toList = some l ∧ Q (tupled l) s')) : WF P M f args s Q := by
  obtain ⟨n, x, e', s', h, hx, l, hl, q⟩ := h
  refine ⟨n + 1, tupled l, s', ?_, q⟩
  simp only [evalF, hc, hf, hb, hn]
  rw [h]
  rcases hx with rfl | rfl <;> simp [hl]

/-- an operation that calls nothing -/
theorem WO_of {o : Oper} {e : Env} {s : St} {v : Value} {s' : St} {Q : Value → St → Prop} (h : evalOp P (fun _ _ _ => none) o e s = some (v, s')) (q : Q v s') : WO P M o e s Q :=
  ⟨0, v, s', evalOp_mono (fun _ _ _ _ h => absurd h (by simp)) _ _ _ _ h, q⟩
theorem WO_call {o : Oper} {c : Call} {x : Operand} {g : FuncId} {first captured : Array Value} {l : List Value} {e : Env} {s : St} {Q : Value → St → Prop} (ho : o.op = .call c) (hc : c.callee = .value x) (hx : opd e x = some (.func (.func g) first captured)) (hl : opds e c.args.toList = some l)
    (h : WF P M g (first.toList ++ l ++ captured.toList) s Q) : WO P M o e s Q := by
  obtain ⟨n, v, s', h, q⟩ := h
  exact ⟨n, v, s', by simp only [evalOp, ho, hc, hx, hl]; exact h, q⟩
end
end Go.Eng
end

section
/- Rules that a rewriting walk uses: a goal about code turns into the next question that isn't settled by sight. -/
namespace Go.Eng
section
variable {P : Program} {M : Masks} {f : FuncId}

/-- the function that an operation calls, and with what -/
def calleeOf (e : Env) (o : Oper) : Option (FuncId × List Value) :=
  match o.op with
  | .call c => match c.callee with
    | .value x => match opd e x, opds e c.args.toList with
      | some (.func (.func g) first captured), some l => some (g, first.toList ++ l ++ captured.toList)
      | _, _ => none
    | _ => none
  | _ => none
def noCall : CallF := fun _ _ _ => none

/-- the mark, set -/
def St.mark (s : St) (l : Nat) : St := { s with low := l }
/- continuations, each a name: the rewriting doesn't look into them before they are asked -/
def KReg (keep : Nat) (ops : List Oper) (Q : Ex → Env → St → Prop) : Env → St → Prop := fun e s => Q .normal (forget keep ops e) s
def KSeq (P : Program) (M : Masks) (f : FuncId) (b : Code) (Q : Ex → Env → St → Prop) : Ex → Env → St → Prop := Ex.then (fun e s => WC P M f b e s Q) Q
def KBlock (id : Nat) (Q : Ex → Env → St → Prop) : Ex → Env → St → Prop := fun x e s => match x with | .exit i => if i = id then Q .normal e s else Q (.exit i) e s | x => Q x e s
def KOp (P : Program) (M : Masks) (ops : Array Oper) (d : Option Tmp) (l : List Oper) (e : Env) (Q : Env → St → Prop) : Value → St → Prop := fun v s => WR P M ops l (put e d (some v)) s Q
def KOpD (P : Program) (M : Masks) (ops : Array Oper) (b : Array Nat) (o : Oper) (l : List Oper) (i : Nat) (d : List (Nat × Bool)) (e : Env) (s : St) (Q : Env → St → Prop) : Value → St → Prop :=
  fun v s' => d.all (fun x => !(decide (s'.low < s.next) || x.2) || (b.getD i 0).testBit x.1) = true ∧ WD P M ops b l (i + 1) ((i, decide (s'.low < s.next)) :: d) (put e o.dst (some v)) (s'.mark (min s.low s'.low)) Q
theorem kreg (keep : Nat) (ops : List Oper) (Q : Ex → Env → St → Prop) (e : Env) (s : St) : KReg keep ops Q e s = Q .normal (forget keep ops e) s := rfl
theorem kseq_normal (b : Code) (Q : Ex → Env → St → Prop) (e : Env) (s : St) : KSeq P M f b Q .normal e s = WC P M f b e s Q := rfl
theorem kseq_ret (b : Code) (Q : Ex → Env → St → Prop) (e : Env) (s : St) : KSeq P M f b Q .ret e s = Q .ret e s := rfl
theorem kseq_exit (b : Code) (Q : Ex → Env → St → Prop) (i : Nat) (e : Env) (s : St) : KSeq P M f b Q (.exit i) e s = Q (.exit i) e s := rfl
theorem kblock_normal (id : Nat) (Q : Ex → Env → St → Prop) (e : Env) (s : St) : KBlock id Q .normal e s = Q .normal e s := rfl
theorem kblock_ret (id : Nat) (Q : Ex → Env → St → Prop) (e : Env) (s : St) : KBlock id Q .ret e s = Q .ret e s := rfl
theorem kblock_exit (id i : Nat) (Q : Ex → Env → St → Prop) (e : Env) (s : St) : KBlock id Q (.exit i) e s = if i = id then Q .normal e s else Q (.exit i) e s := rfl
theorem kop (ops : Array Oper) (d : Option Tmp) (l : List Oper) (e : Env) (Q : Env → St → Prop) (v : Value) (s : St) : KOp P M ops d l e Q v s = WR P M ops l (put e d (some v)) s Q := rfl
theorem kopd (ops : Array Oper) (b : Array Nat) (o : Oper) (l : List Oper) (i : Nat) (d : List (Nat × Bool)) (e : Env) (s : St) (Q : Env → St → Prop) (v : Value) (s' : St) :
    KOpD P M ops b o l i d e s Q v s' = (d.all (fun x => !(decide (s'.low < s.next) || x.2) || (b.getD i 0).testBit x.1) = true ∧ WD P M ops b l (i + 1) ((i, decide (s'.low < s.next)) :: d) (put e o.dst (some v)) (s'.mark (min s.low s'.low)) Q) := rfl

/-- the step of one operation -/
def stepR (P : Program) (M : Masks) (ops : Array Oper) (o : Oper) (l : List Oper) (e : Env) (s : St) (Q : Env → St → Prop) : Prop :=
  match wantedA ops o e with
  | some true => match calleeOf e o with
    | some (g, args) => WF P M g args s (KOp P M ops o.dst l e Q)
    | none => match evalOp P noCall o e s with
      | some (v, s') => WR P M ops l (put e o.dst (some v)) s' Q
      | none => False
  | some false => WR P M ops l (put e o.dst none) s Q
  | none => False
/-- .. in a region that draws its order -/
def stepD (P : Program) (M : Masks) (ops : Array Oper) (b : Array Nat) (o : Oper) (l : List Oper) (i : Nat) (d : List (Nat × Bool)) (e : Env) (s : St) (Q : Env → St → Prop) : Prop :=
  match wantedA ops o e with
  | some true => match still o.op with
    | true => match evalOp P noCall o e (s.mark s.next) with
      | some (v, _) => WD P M ops b l (i + 1) d (put e o.dst (some v)) s Q
      | none => False
    | false => match calleeOf e o with
      | some (g, args) => WF P M g args (s.mark s.next) (KOpD P M ops b o l i d e s Q)
      | none => match evalOp P noCall o e (s.mark s.next) with
        | some (v, s') => KOpD P M ops b o l i d e s Q v s'
        | none => False
  | some false => WD P M ops b l (i + 1) d (put e o.dst none) s Q
  | none => False

theorem evalOp_calleeOf {c : CallF} {o : Oper} {e : Env} {s : St} {g : FuncId} {args : List Value} (h : calleeOf e o = some (g, args)) : evalOp P c o e s = c g args s := by
  unfold calleeOf at h
  split at h
  · rename_i k ho
    split at h
    · rename_i x hx
      split at h
      · rename_i g' first captured l' h1 h2
        simp only [Option.some.injEq, Prod.mk.injEq] at h
        obtain ⟨rfl, rfl⟩ := h
        simp only [evalOp, ho, hx, h1, h2]
      · exact absurd h (by simp)
    · exact absurd h (by simp)
  · exact absurd h (by simp)
theorem evalOp_noCall {c : CallF} {o : Oper} {e : Env} {s : St} (h : calleeOf e o = none) : evalOp P c o e s = evalOp P noCall o e s := by
  unfold calleeOf at h
  unfold evalOp
  split <;> try rfl
  rename_i k ho
  rw [ho] at h
  simp only at h
  split <;> try rfl
  rename_i x hx
  rw [hx] at h
  simp only at h
  split <;> try rfl
  rename_i h1 h2
  rw [h1, h2] at h
  exact absurd h (by simp)
theorem WO_noCall {o : Oper} {e : Env} {s : St} {Q : Value → St → Prop} (h : calleeOf e o = none) : WO P M o e s Q ↔ (match evalOp P noCall o e s with | some (v, s') => Q v s' | none => False) := by
  constructor
  · rintro ⟨n, v, s', h1, q⟩
    rw [evalOp_noCall h] at h1
    rw [h1]; exact q
  · intro hq
    split at hq
    · rename_i v s' h1
      exact ⟨0, v, s', by rw [evalOp_noCall h]; exact h1, hq⟩
    · exact hq.elim
theorem WO_calleeOf {o : Oper} {e : Env} {s : St} {Q : Value → St → Prop} {g : FuncId} {args : List Value} (h : calleeOf e o = some (g, args)) : WO P M o e s Q ↔ WF P M g args s Q := by
  constructor
  · rintro ⟨n, v, s', h1, q⟩
    rw [evalOp_calleeOf h] at h1
    exact ⟨n, v, s', h1, q⟩
  · rintro ⟨n, v, s', h1, q⟩
    exact ⟨n, v, s', by rw [evalOp_calleeOf h]; exact h1, q⟩

theorem wr_nil {ops : Array Oper} {e : Env} {s : St} {Q : Env → St → Prop} : WR P M ops [] e s Q = Q e s := propext WR_nil
theorem wr_cons {ops : Array Oper} {o : Oper} {l : List Oper} {e : Env} {s : St} {Q : Env → St → Prop} : WR P M ops (o :: l) e s Q = stepR P M ops o l e s Q := by
  refine propext (WR_cons.trans ?_)
  unfold stepR
  cases hw : wantedA ops o e with
  | none => simp
  | some b =>
    cases b with
    | false => simp
    | true =>
      simp only [true_and, Option.some.injEq, Bool.true_eq_false, false_and, or_false]
      cases hc : calleeOf e o with
      | none => simp only [WO_noCall hc]
      | some q => obtain ⟨g, args⟩ := q; simp only [WO_calleeOf hc]; rfl
theorem wd_nil {ops : Array Oper} {b : Array Nat} {i : Nat} {d : List (Nat × Bool)} {e : Env} {s : St} {Q : Env → St → Prop} : WD P M ops b [] i d e s Q = Q e s := propext WD_nil
theorem still_calls {o : Oper} {e : Env} (h : still o.op = true) : calleeOf e o = none := by
  unfold calleeOf
  split
  · rename_i c hc; rw [hc] at h; exact absurd h (by simp [still])
  · rfl
theorem map_same {α : Type} {x : Option α} {g : α → Value} {s s' : St} {v : Value} (h : x.map (fun a => (g a, s)) = some (v, s')) : s' = s ∧ ∀ t : St, x.map (fun a => (g a, t)) = some (v, t) := by
  cases x with
  | none => simp at h
  | some a => simp only [Option.map_some, Option.some.injEq, Prod.mk.injEq] at h ⊢; exact ⟨h.2.symm, fun t => ⟨h.1, trivial⟩⟩
theorem still_same {o : Oper} {e : Env} {s s' : St} {v : Value} {c : CallF} (h : still o.op = true) (h1 : evalOp P c o e s = some (v, s')) : s' = s ∧ ∀ t : St, evalOp P c o e t = some (v, t) := by
  unfold evalOp at h1 ⊢
  cases ho : o.op <;> rw [ho] at h h1 <;> simp only [still, Bool.false_eq_true] at h <;> simp only at h1 ⊢
  case makeFunc fn a b =>
    cases fn <;> simp only at h1 ⊢
    case func g =>
      cases h2 : opds e a.toList with
      | none => rw [h2] at h1; cases h1
      | some x => cases h3 : opds e b.toList with
        | none => rw [h2, h3] at h1; cases h1
        | some y =>
          rw [h2, h3] at h1
          simp only [Option.some.injEq, Prod.mk.injEq] at h1 ⊢
          exact ⟨h1.2.symm, fun t => ⟨h1.1, trivial⟩⟩
    all_goals cases h1
  all_goals first
    | exact map_same h1
    | (split at h1 <;> first
        | (cases h1; done)
        | exact map_same h1
        | (simp only [*]; exact map_same h1)
        | (simp only [*, Option.some.injEq, Prod.mk.injEq] at h1 ⊢; exact ⟨h1.2.symm, fun t => ⟨h1.1, trivial⟩⟩)
        | (simp only [Option.some.injEq, Prod.mk.injEq] at h1 ⊢; exact ⟨h1.2.symm, fun t => ⟨h1.1, trivial⟩⟩))
theorem WD_step {ops : Array Oper} {b : Array Nat} {o : Oper} {l : List Oper} {i : Nat} {d : List (Nat × Bool)} {e : Env} {s : St} {Q : Env → St → Prop} (h : stepD P M ops b o l i d e s Q) : WD P M ops b (o :: l) i d e s Q := by
  unfold stepD at h
  split at h
  · rename_i hw
    split at h
    · rename_i hs
      split at h
      · rename_i v s' h1
        refine WD_still hs hw ((WO_noCall (still_calls hs)).2 ?_)
        have h2 : evalOp P noCall o e { s with low := s.next } = _ := h1
        rw [h2]
        obtain ⟨rfl, _⟩ := still_same hs h1
        exact h
      · exact h.elim
    · rename_i hs
      refine WD_loud hs hw ?_
      split at h
      · rename_i g args hc
        exact (WO_calleeOf hc).2 h
      · rename_i hc
        refine (WO_noCall hc).2 ?_
        split at h
        · rename_i h1; have h2 : evalOp P noCall o e { s with low := s.next } = _ := h1; rw [h2]; exact h
        · exact h.elim
  · rename_i hw; exact WD_skip hw h
  · exact h.elim
theorem WD_step_iff {ops : Array Oper} {b : Array Nat} {o : Oper} {l : List Oper} {i : Nat} {d : List (Nat × Bool)} {e : Env} {s : St} {Q : Env → St → Prop} : WD P M ops b (o :: l) i d e s Q → stepD P M ops b o l i d e s Q := by
  rintro ⟨n, e', s', h, q⟩
  unfold stepD
  simp only [evalDraw] at h
  cases hw : wantedA ops o e with
  | none => rw [hw] at h; exact absurd h (by simp)
  | some w =>
    rw [hw] at h
    cases w with
    | false => exact ⟨n, e', s', h, q⟩
    | true =>
      simp only at h ⊢
      cases h1 : evalOp P (evalF P M n) o e { s with low := s.next } with
      | none => rw [h1] at h; exact absurd h (by simp)
      | some r =>
        obtain ⟨v, s1⟩ := r
        rw [h1] at h
        simp only at h
        cases hs : still o.op with
        | true =>
          rw [hs] at h
          simp only [if_true] at h
          obtain ⟨rfl, _⟩ := still_same hs h1
          rw [evalOp_noCall (still_calls hs)] at h1
          have h2 : evalOp P noCall o e (s.mark s.next) = _ := h1
          simp only [h2]
          exact ⟨n, e', s', h, q⟩
        | false =>
          rw [hs] at h
          simp only [Bool.false_eq_true, if_false] at h
          have hk : KOpD P M ops b o l i d e s Q v s1 := by
            rw [kopd]
            split at h
            · rename_i hd; exact ⟨hd, n, e', s', h, q⟩
            · exact absurd h (by simp)
          simp only
          cases hc : calleeOf e o with
          | none => rw [evalOp_noCall hc] at h1; have h2 : evalOp P noCall o e (s.mark s.next) = _ := h1; simp only [h2]; exact hk
          | some r => obtain ⟨g, args⟩ := r; rw [evalOp_calleeOf hc] at h1; exact ⟨n, v, s1, h1, hk⟩
theorem wd_cons {ops : Array Oper} {b : Array Nat} {o : Oper} {l : List Oper} {i : Nat} {d : List (Nat × Bool)} {e : Env} {s : St} {Q : Env → St → Prop} : WD P M ops b (o :: l) i d e s Q = stepD P M ops b o l i d e s Q := propext ⟨WD_step_iff, WD_step⟩

theorem wc_seq {a b : Code} {e : Env} {s : St} {Q : Ex → Env → St → Prop} : WC P M f (.seq a b) e s Q = WC P M f a e s (KSeq P M f b Q) := by
  refine propext ⟨?_, fun h => WC_seq h⟩
  rintro ⟨n, x, e', s', h, q⟩
  simp only [evalCode] at h
  cases ha : evalCode P n (evalF P M n) (M.keep f) (M.hold f) a e s with
  | none => rw [ha] at h; exact absurd h (by simp)
  | some r =>
    obtain ⟨y, e1, s1⟩ := r
    rw [ha] at h
    cases y with
    | normal => exact ⟨n, .normal, e1, s1, ha, n, x, e', s', h, q⟩
    | ret => simp only [Option.some.injEq, Prod.mk.injEq] at h; obtain ⟨rfl, rfl, rfl⟩ := h; exact ⟨n, .ret, e1, s1, ha, q⟩
    | exit i => simp only [Option.some.injEq, Prod.mk.injEq] at h; obtain ⟨rfl, rfl, rfl⟩ := h; exact ⟨n, .exit i, e1, s1, ha, q⟩
theorem wc_region {id : Nat} {l : List Oper} {e : Env} {s : St} {Q : Ex → Env → St → Prop} : WC P M f (.region id l.toArray false) e s Q = WR P M l.toArray l e s (KReg (M.keep f) l Q) := by
  refine propext ⟨?_, fun h => WC_region h⟩
  rintro ⟨n, x, e', s', h, q⟩
  simp only [evalCode, Option.map_eq_some_iff] at h
  obtain ⟨⟨e1, s1⟩, h1, h2⟩ := h
  simp only [Prod.mk.injEq] at h2
  obtain ⟨rfl, rfl, rfl⟩ := h2
  exact ⟨n, e1, s1, h1, q⟩
theorem wc_draw {id : Nat} {l : List Oper} {e : Env} {s : St} {Q : Ex → Env → St → Prop} : WC P M f (.region id l.toArray true) e s Q = WD P M l.toArray (Region.before l.toArray) l 0 [] e s (KReg (M.keep f) l Q) := by
  refine propext ⟨?_, fun h => WC_draw h⟩
  rintro ⟨n, x, e', s', h, q⟩
  simp only [evalCode, Option.map_eq_some_iff] at h
  obtain ⟨⟨e1, s1⟩, h1, h2⟩ := h
  simp only [Prod.mk.injEq] at h2
  obtain ⟨rfl, rfl, rfl⟩ := h2
  exact ⟨n, e1, s1, h1, q⟩
theorem wc_skip {e : Env} {s : St} {Q : Ex → Env → St → Prop} : WC P M f .skip e s Q = Q .normal e s := by
  refine propext ⟨?_, WC_skip⟩
  rintro ⟨n, x, e', s', h, q⟩
  simp only [evalCode, Option.some.injEq, Prod.mk.injEq] at h
  obtain ⟨rfl, rfl, rfl⟩ := h; exact q
theorem wc_ret {e : Env} {s : St} {Q : Ex → Env → St → Prop} : WC P M f .ret e s Q = Q .ret e s := by
  refine propext ⟨?_, WC_ret⟩
  rintro ⟨n, x, e', s', h, q⟩
  simp only [evalCode, Option.some.injEq, Prod.mk.injEq] at h
  obtain ⟨rfl, rfl, rfl⟩ := h; exact q
theorem wc_exit {id : Nat} {e : Env} {s : St} {Q : Ex → Env → St → Prop} : WC P M f (.exit id) e s Q = Q (.exit id) e s := by
  refine propext ⟨?_, WC_exit⟩
  rintro ⟨n, x, e', s', h, q⟩
  simp only [evalCode, Option.some.injEq, Prod.mk.injEq] at h
  obtain ⟨rfl, rfl, rfl⟩ := h; exact q
theorem wc_block {id : Nat} {b : Code} {e : Env} {s : St} {Q : Ex → Env → St → Prop} : WC P M f (.block id b) e s Q = WC P M f b e s (KBlock id Q) := by
  refine propext ⟨?_, fun h => WC_block h⟩
  rintro ⟨n, x, e', s', h, q⟩
  simp only [evalCode] at h
  cases hb : evalCode P n (evalF P M n) (M.keep f) (M.hold f) b e s with
  | none => rw [hb] at h; exact absurd h (by simp)
  | some r =>
    obtain ⟨y, e1, s1⟩ := r
    rw [hb] at h
    cases y with
    | normal => simp only [Option.some.injEq, Prod.mk.injEq] at h; obtain ⟨rfl, rfl, rfl⟩ := h; exact ⟨n, .normal, e1, s1, hb, q⟩
    | ret => simp only [Option.some.injEq, Prod.mk.injEq] at h; obtain ⟨rfl, rfl, rfl⟩ := h; exact ⟨n, .ret, e1, s1, hb, q⟩
    | exit i =>
      refine ⟨n, .exit i, e1, s1, hb, ?_⟩
      rw [kblock_exit]
      simp only at h
      by_cases hi : i = id
      · rw [if_pos hi] at h ⊢
        simp only [Option.some.injEq, Prod.mk.injEq] at h; obtain ⟨rfl, rfl, rfl⟩ := h; exact q
      · rw [if_neg hi] at h ⊢
        simp only [Option.some.injEq, Prod.mk.injEq] at h; obtain ⟨rfl, rfl, rfl⟩ := h; exact q
/-- the branch that a slot's value takes -/
def branch (v : Option Value) (yes no : Prop) : Prop :=
  match v with
  | some (.bool true) => yes
  | some (.bool false) => no
  | _ => False
theorem branch_true (yes no : Prop) : branch (some (.bool true)) yes no = yes := rfl
theorem branch_false (yes no : Prop) : branch (some (.bool false)) yes no = no := rfl
theorem wc_cond {t : Tmp} {a b : Code} {e : Env} {s : St} {Q : Ex → Env → St → Prop} : WC P M f (.cond (.tmp t) a b) e s Q = branch ((e[t]?).getD none) (WC P M f a (condEnv (M.hold f) t e) s Q) (WC P M f b (condEnv (M.hold f) t e) s Q) := by
  refine propext ⟨?_, ?_⟩
  · rintro ⟨n, x, e', s', h, q⟩
    simp only [evalCode, opd] at h
    unfold branch
    split at h
    · rename_i hc; first | exact ⟨n, x, e', s', h, q⟩ | (rw [hc]; exact ⟨n, x, e', s', h, q⟩)
    · rename_i hc; first | exact ⟨n, x, e', s', h, q⟩ | (rw [hc]; exact ⟨n, x, e', s', h, q⟩)
    · exact absurd h (by simp)
  · intro h
    unfold branch at h
    split at h
    · rename_i hc; exact WC_cond true hc h
    · rename_i hc; exact WC_cond false hc h
    · exact h.elim

/- the rewriting looks at slots and the state alone -/
@[congr] theorem WC_congr {k : Code} {e e' : Env} {s s' : St} {Q : Ex → Env → St → Prop} (h : e = e') (h' : s = s') : WC P M f k e s Q = WC P M f k e' s' Q := by rw [h, h']
@[congr] theorem WR_congr {ops : Array Oper} {l : List Oper} {e e' : Env} {s s' : St} {Q : Env → St → Prop} (h : e = e') (h' : s = s') : WR P M ops l e s Q = WR P M ops l e' s' Q := by rw [h, h']
@[congr] theorem WD_congr {ops : Array Oper} {b : Array Nat} {l : List Oper} {i i' : Nat} {d d' : List (Nat × Bool)} {e e' : Env} {s s' : St} {Q : Env → St → Prop} (h0 : i = i') (h1 : d = d') (h : e = e') (h' : s = s') : WD P M ops b l i d e s Q = WD P M ops b l i' d' e' s' Q := by rw [h0, h1, h, h']
@[congr] theorem WF_congr {args args' : List Value} {s s' : St} {Q : Value → St → Prop} (h : args = args') (h' : s = s') : WF P M f args s Q = WF P M f args' s' Q := by rw [h, h']
@[congr] theorem KSeq_congr {b : Code} {Q : Ex → Env → St → Prop} {x x' : Ex} {e e' : Env} {s s' : St} (h : x = x') (h1 : e = e') (h2 : s = s') : KSeq P M f b Q x e s = KSeq P M f b Q x' e' s' := by rw [h, h1, h2]
@[congr] theorem branch_congr {v v' : Option Value} {yes no : Prop} (h : v = v') : branch v yes no = branch v' yes no := by rw [h]
end
end Go.Eng
end

section
/- How the model's worlds stand to the evaluator's states: rows are blocks of cells; what a step may change; the machine's own part of each memory operation. -/
set_option linter.unusedVariables false
set_option linter.unusedSimpArgs false
namespace Go.Eng

abbrev Loc := Nat → Option (Nat × Nat)
/-- how many cells a block holds -/
def szw (w : World) (b : Nat) : Nat := match w.heap[b]? with | some (.cells c _ _) => c.size | _ => 0

inductive VR (β : Loc) (sz : Nat → Nat) : Value → Value → Prop
  | atom {v : Value} (h : atom v = true) : VR β sz v v
  | ptr {id off b base : Nat} (h : β id = some (b, base)) : VR β sz (.pointer (some ⟨id, off, none⟩)) (.pointer (some ⟨b, base + off, none⟩))
  | slice {id off b base n c b' o c' : Nat} {q : Option Nat} (h : β id = some (b, base)) (ho : n = 0 ∨ o = base + off) (hn : n ≤ c') (hx : c % 2 = 0 → c' = n) (hz : ((b' = b ∧ q = none) ∧ o + c' * (c / 2) ≤ sz b) ∨ c' = 0) :
      VR β sz (.slice (some ⟨id, off, none⟩) n c) (.slice (some ⟨b', o, q⟩) n c')
  | map {id b : Nat} (h : β id = some (b, 0)) : VR β sz (.map (some id)) (.map (some b))
  | func {g : FuncId} {x y x' y' : Array Value} (hx : x.size = x'.size) (hy : y.size = y'.size) (hx' : ∀ (i : Nat) u u', x[i]? = some u → x'[i]? = some u' → VR β sz u u') (hy' : ∀ (i : Nat) u u', y[i]? = some u → y'[i]? = some u' → VR β sz u u') :
      VR β sz (.func (.func g) x y) (.func (.func g) x' y')
  | agg {x x' : Array Value} (hx : x.size = x'.size) (hx' : ∀ (i : Nat) u u', x[i]? = some u → x'[i]? = some u' → VR β sz u u') : VR β sz (.agg x) (.agg x')
  | tuple {x x' : Array Value} (hx : x.size = x'.size) (hx' : ∀ (i : Nat) u u', x[i]? = some u → x'[i]? = some u' → VR β sz u u') : VR β sz (.tuple x) (.tuple x')

theorem VR.mono {β β' : Loc} {sz sz' : Nat → Nat} (h : ∀ id b base, β id = some (b, base) → β' id = some (b, base) ∧ sz b = sz' b) {v u : Value} (r : VR β sz v u) : VR β' sz' v u := by
  induction r with
  | atom h => exact .atom h
  | ptr h' => exact .ptr (h _ _ _ h').1
  | slice h' ho hn hx hz => exact .slice (h _ _ _ h').1 ho hn hx (by rw [← (h _ _ _ h').2]; exact hz)
  | map h' => exact .map (h _ _ _ h').1
  | func hx hy _ _ ihx ihy => exact .func hx hy ihx ihy
  | agg hx _ ih => exact .agg hx ih
  | tuple hx _ ih => exact .tuple hx ih

def VL (β : Loc) (sz : Nat → Nat) (l l' : List Value) : Prop := l.length = l'.length ∧ ∀ (i : Nat) u u', l[i]? = some u → l'[i]? = some u' → VR β sz u u'
theorem VL.nil {β : Loc} {sz : Nat → Nat} : VL β sz [] [] := ⟨rfl, by simp⟩
theorem VL.cons {β : Loc} {sz : Nat → Nat} {v u : Value} {l l' : List Value} (h : VR β sz v u) (t : VL β sz l l') : VL β sz (v :: l) (u :: l') :=
  ⟨by simp [t.1], fun i x y hx hy => by cases i with | zero => simp at hx hy; subst hx; subst hy; exact h | succ i => exact t.2 i x y (by simpa using hx) (by simpa using hy)⟩
theorem VL.inv {β : Loc} {sz : Nat → Nat} {v : Value} {l l' : List Value} (h : VL β sz (v :: l) l') : ∃ u r, l' = u :: r ∧ VR β sz v u ∧ VL β sz l r := by
  cases l' with
  | nil => exact absurd h.1 (by simp)
  | cons u r => exact ⟨u, r, rfl, h.2 0 v u rfl rfl, by simpa using h.1, fun i x y hx hy => h.2 (i + 1) x y (by simpa using hx) (by simpa using hy)⟩
theorem VL.append {β : Loc} {sz : Nat → Nat} {a a' b b' : List Value} (h : VL β sz a a') (k : VL β sz b b') : VL β sz (a ++ b) (a' ++ b') := by
  refine ⟨by simp [h.1, k.1], fun i x y hx hy => ?_⟩
  by_cases hi : i < a.length
  · rw [List.getElem?_append_left hi] at hx
    rw [List.getElem?_append_left (by rw [← h.1]; exact hi)] at hy
    exact h.2 i x y hx hy
  · rw [List.getElem?_append_right (by omega)] at hx
    rw [List.getElem?_append_right (by rw [← h.1]; omega), ← h.1] at hy
    exact k.2 _ x y hx hy
theorem VL.take {β : Loc} {sz : Nat → Nat} {a a' : List Value} (h : VL β sz a a') (n : Nat) : VL β sz (a.take n) (a'.take n) :=
  ⟨by simp [h.1], fun i x y hx hy => by
    rw [List.getElem?_take] at hx hy
    split at hx
    · rename_i hi; rw [if_pos hi] at hy; exact h.2 i x y hx hy
    · simp at hx⟩
theorem VL.drop {β : Loc} {sz : Nat → Nat} {a a' : List Value} (h : VL β sz a a') (n : Nat) : VL β sz (a.drop n) (a'.drop n) :=
  ⟨by simp [h.1], fun i x y hx hy => by rw [List.getElem?_drop] at hx hy; exact h.2 _ x y hx hy⟩
theorem VL.mono {β β' : Loc} {sz sz' : Nat → Nat} (h : ∀ id b base, β id = some (b, base) → β' id = some (b, base) ∧ sz b = sz' b) {l l' : List Value} (r : VL β sz l l') : VL β' sz' l l' :=
  ⟨r.1, fun i u u' hu hu' => (r.2 i u u' hu hu').mono h⟩
theorem VL.set {β : Loc} {sz : Nat → Nat} {a a' : List Value} (h : VL β sz a a') (n : Nat) {v u : Value} (hv : VR β sz v u) : VL β sz (a.set n v) (a'.set n u) := by
  refine ⟨by simp [h.1], fun i x y hx hy => ?_⟩
  rw [List.getElem?_set] at hx hy
  by_cases hi : n = i
  · rw [if_pos hi] at hx hy
    split at hx
    · split at hy
      · simp at hx hy; subst hx; subst hy; exact hv
      · simp at hy
    · simp at hx
  · rw [if_neg hi] at hx hy; exact h.2 i x y hx hy
theorem VL.setAll {β : Loc} {sz : Nat → Nat} {vs us : List Value} : ∀ {a a' : List Value} (h : VL β sz a a') (n : Nat) (hv : VL β sz vs us), VL β sz (setAll a n vs) (setAll a' n us) := by
  induction vs generalizing us with
  | nil => intro a a' h n hv; have : us = [] := List.eq_nil_of_length_eq_zero hv.1.symm
           subst this; exact h
  | cons v vs ih =>
    intro a a' h n hv
    obtain ⟨u, r, rfl, h1, h2⟩ := hv.inv
    exact ih (h.set n h1) (n + 1) h2
theorem length_setAll (vs : List Value) : ∀ (c : List Value) (n : Nat), (setAll c n vs).length = c.length := by
  induction vs with
  | nil => intro c n; rfl
  | cons v vs ih => intro c n; simp [setAll, ih]
theorem VL.array {β : Loc} {sz : Nat → Nat} {x x' : Array Value} (hx : x.size = x'.size) (hx' : ∀ (i : Nat) u u', x[i]? = some u → x'[i]? = some u' → VR β sz u u') : VL β sz x.toList x'.toList := ⟨by simpa using hx, fun i u u' h h' => hx' i u u' (by simpa using h) (by simpa using h')⟩
theorem VL.toArr {β : Loc} {sz : Nat → Nat} {x x' : Array Value} (h : VL β sz x.toList x'.toList) : x.size = x'.size ∧ ∀ (i : Nat) u u', x[i]? = some u → x'[i]? = some u' → VR β sz u u' :=
  ⟨by simpa using h.1, fun i u u' a b => h.2 i u u' (by simpa using a) (by simpa using b)⟩
theorem VR.cells {β : Loc} {sz : Nat → Nat} {v u : Value} (h : VR β sz v u) : VL β sz v.cells.toList u.cells.toList := by
  cases h with
  | atom h => cases v <;> first | exact VL.cons (.atom h) .nil | (simp [Eng.atom] at h; done)
  | agg hx hx' => exact VL.array hx hx'
  | ptr h => exact VL.cons (.ptr h) .nil
  | slice h a b c d => exact VL.cons (.slice h a b c d) .nil
  | map h => exact VL.cons (.map h) .nil
  | func a b c d => exact VL.cons (.func a b c d) .nil
  | tuple a b => exact VL.cons (.tuple a b) .nil
theorem VR.isCell {β : Loc} {sz : Nat → Nat} {v u : Value} (h : VR β sz v u) : u.oneCell' = Eng.isCell v := by
  cases h <;> first | rfl | (rename_i h; cases v <;> first | rfl | (simp [Eng.atom] at h; done))

def ER (β : Loc) (sz : Nat → Nat) (e : Env) (a : Array Value) : Prop := e.length = a.size ∧ ∀ (t : Nat) v, e[t]? = some (some v) → ∃ u, a[t]? = some u ∧ VR β sz v u
theorem ER.mono {β β' : Loc} {sz sz' : Nat → Nat} (h : ∀ id b base, β id = some (b, base) → β' id = some (b, base) ∧ sz b = sz' b) {e : Env} {a : Array Value} (r : ER β sz e a) : ER β' sz' e a :=
  ⟨r.1, fun t v hv => let ⟨u, hu, hr⟩ := r.2 t v hv; ⟨u, hu, hr.mono h⟩⟩

/-! ### objects -/
def AObj.mine : AObj → Bool
  | .cells _ own => own
  | .map _ => true
  | .dead => false
def AObj.live : AObj → Bool
  | .dead => false
  | _ => true
theorem AObj.mine_live {o : AObj} (h : o.mine = true) : o.live = true := by cases o <;> first | rfl | exact absurd h (by simp [AObj.mine])

def ObjR (β : Loc) (w : World) (b base : Nat) : AObj → Prop
  | .cells c own => ∃ C e fz, w.heap[b]? = some (.cells C e fz) ∧ base + c.length ≤ C.size ∧ VL β (szw w) c ((C.toList.drop base).take c.length) ∧ (own = true → ∀ j, j < C.size → ¬ (fz.1 ≤ j ∧ j < fz.2))
  | .map es => base = 0 ∧ ∃ (E : Array MapEntry) (clock : Nat), w.heap[b]? = some (.map E clock) ∧ E.size = es.length ∧ ∀ (i : Nat) k v (m : MapEntry), es[i]? = some (k, v) → E[i]? = some m → atom k = true ∧ m.key = k ∧ VR β (szw w) v m.val
  | .dead => True

structure Rel (β : Loc) (s : St) (w : World) : Prop where
  objs : ∀ id o b base, s.heap.get id = some o → β id = some (b, base) → ObjR β w b base o
  apart : ∀ i j oi oj b bi bj, s.heap.get i = some oi → s.heap.get j = some oj → oi.mine = true → oj.live = true → β i = some (b, bi) → β j = some (b, bj) → i = j
  dom : ∀ id b base, β id = some (b, base) → id < s.next ∧ b < w.heap.size
  nxt : ∀ id o, s.heap.get id = some o → id < s.next

structure Step (β : Loc) (s : St) (w : World) (β' : Loc) (s' : St) (w' : World) : Prop where
  rel : Rel β' s' w'
  ext : ∀ id, id < s.next → β' id = β id
  next : s.next ≤ s'.next
  low : s'.low ≤ s.low
  size : w.heap.size ≤ w'.heap.size
  szs : ∀ b, b < w.heap.size → szw w' b = szw w b
  os : w'.os = w.os
  tape : w'.tape = w.tape
  output : w'.output = w.output
  mono : ∀ id o', id < s.next → s'.heap.get id = some o' → o'.mine = true → ∃ o, s.heap.get id = some o ∧ o.mine = true
  frame : ∀ b, b < w.heap.size → (∀ id base o, β id = some (b, base) → s.heap.get id = some o → o.mine = true → id < s'.low) → w'.heap[b]? = w.heap[b]?
  fresh : ∀ id b base, s.next ≤ id → β' id = some (b, base) → w.heap.size ≤ b ∨ ∃ i o bi, i < s.next ∧ β i = some (b, bi) ∧ s.heap.get i = some o ∧ o.mine = true ∧ s'.low ≤ i
  same : ∀ id, id < s.next → id < s'.low → s'.heap.get id = s.heap.get id
  total : ∀ id, s.next ≤ id → id < s'.next → ∃ p, β' id = some p

/-- what is known of addresses lives on -/
theorem Step.locs {β β' : Loc} {s s' : St} {w w' : World} (hr : Rel β s w) (h : Step β s w β' s' w') : ∀ id b base, β id = some (b, base) → β' id = some (b, base) ∧ szw w b = szw w' b :=
  fun id b base e => ⟨(h.ext id (hr.dom id b base e).1).trans e, (h.szs b (hr.dom id b base e).2).symm⟩

theorem Step.refl {β : Loc} {s : St} {w : World} (hr : Rel β s w) : Step β s w β s w where
  rel := hr
  ext := fun _ _ => rfl
  next := Nat.le_refl _
  low := Nat.le_refl _
  size := Nat.le_refl _
  szs := fun _ _ => rfl
  os := rfl
  tape := rfl
  output := rfl
  mono := fun _ o' _ h hm => ⟨o', h, hm⟩
  frame := fun _ _ _ => rfl
  fresh := fun id b base hid e => absurd (hr.dom id b base e).1 (by omega)
  same := fun _ _ _ => rfl
  total := fun id h1 h2 => by omega

theorem Step.trans {β β1 β2 : Loc} {s s1 s2 : St} {w w1 w2 : World} (_hr : Rel β s w) (h : Step β s w β1 s1 w1) (k : Step β1 s1 w1 β2 s2 w2) : Step β s w β2 s2 w2 where
  rel := k.rel
  ext := fun id hid => (k.ext id (Nat.lt_of_lt_of_le hid h.next)).trans (h.ext id hid)
  next := Nat.le_trans h.next k.next
  low := Nat.le_trans k.low h.low
  size := Nat.le_trans h.size k.size
  szs := fun b hb => (k.szs b (Nat.lt_of_lt_of_le hb h.size)).trans (h.szs b hb)
  os := k.os.trans h.os
  tape := k.tape.trans h.tape
  output := k.output.trans h.output
  mono := fun id o' hid he hm =>
    let ⟨o1, h1, hm1⟩ := k.mono id o' (Nat.lt_of_lt_of_le hid h.next) he hm
    h.mono id o1 hid h1 hm1
  frame := fun b hb hyp => by
    have e1 := h.frame b hb (fun id base o a c d => Nat.lt_of_lt_of_le (hyp id base o a c d) k.low)
    refine (k.frame b (Nat.lt_of_lt_of_le hb h.size) ?_).trans e1
    intro id base o hid ho hm
    by_cases hlt : id < s.next
    · obtain ⟨o0, h0, hm0⟩ := h.mono id o hlt ho hm
      exact hyp id base o0 ((h.ext id hlt).symm.trans hid) h0 hm0
    · rcases h.fresh id b base (by omega) hid with hf | ⟨i, oi, bi, hi, hbi, hoi, hmi, hl⟩
      · omega
      · have := hyp i bi oi hbi hoi hmi
        have := k.low
        omega
  fresh := fun id b base hid e => by
    by_cases hlt : id < s1.next
    · rcases h.fresh id b base hid ((k.ext id hlt).symm.trans e) with hf | ⟨i, oi, bi, hi, hbi, hoi, hmi, hl⟩
      · exact .inl hf
      · exact .inr ⟨i, oi, bi, hi, hbi, hoi, hmi, Nat.le_trans k.low hl⟩
    · rcases k.fresh id b base (by omega) e with hf | ⟨i, oi, bi, hi, hbi, hoi, hmi, hl⟩
      · exact .inl (Nat.le_trans h.size hf)
      · by_cases hin : i < s.next
        · obtain ⟨o0, h0, hm0⟩ := h.mono i oi hin hoi hmi
          exact .inr ⟨i, o0, bi, hin, (h.ext i hin).symm.trans hbi, h0, hm0, hl⟩
        · rcases h.fresh i b bi (by omega) hbi with hf | ⟨i', oi', bi', hi', hbi', hoi', hmi', hl'⟩
          · exact .inl hf
          · exact .inr ⟨i', oi', bi', hi', hbi', hoi', hmi', Nat.le_trans k.low hl'⟩
  same := fun id hid hl => (k.same id (Nat.lt_of_lt_of_le hid h.next) hl).trans (h.same id hid (Nat.lt_of_lt_of_le hl k.low))
  total := fun id h1 h2 => by
    by_cases hlt : id < s1.next
    · obtain ⟨p, hp⟩ := h.total id h1 hlt; exact ⟨p, (k.ext id hlt).trans hp⟩
    · exact k.total id (by omega) h2

/-- lower the mark: nothing else turns -/
theorem Step.lower {β β' : Loc} {s s' : St} {w w' : World} (l l' : Nat) (h : Step β { s with low := l } w β' s' w') (hl : l' ≤ s.low) (hl' : l' ≤ s'.low) : Step β s w β' { s' with low := l' } w' where
  rel := ⟨h.rel.objs, h.rel.apart, h.rel.dom, h.rel.nxt⟩
  ext := h.ext
  next := h.next
  low := hl
  size := h.size
  szs := h.szs
  os := h.os
  tape := h.tape
  output := h.output
  mono := h.mono
  frame := fun b hb hyp => h.frame b hb (fun id base o a c d => Nat.lt_of_lt_of_le (hyp id base o a c d) hl')
  fresh := fun id b base hid e => by
    rcases h.fresh id b base hid e with hf | ⟨i, oi, bi, hi, hbi, hoi, hmi, hl⟩
    · exact .inl hf
    · exact .inr ⟨i, oi, bi, hi, hbi, hoi, hmi, Nat.le_trans hl' hl⟩
  same := fun id hid hl => h.same id hid (Nat.lt_of_lt_of_le hl hl')
  total := h.total

theorem ObjR.mono {β β' : Loc} {w w' : World} (h : ∀ id b base, β id = some (b, base) → β' id = some (b, base) ∧ szw w b = szw w' b) {b base : Nat} {o : AObj} (hb : w'.heap[b]? = w.heap[b]?) (r : ObjR β w b base o) : ObjR β' w' b base o := by
  cases o with
  | cells c own => obtain ⟨C, e, fz, h1, h2, h3, h4⟩ := r; exact ⟨C, e, fz, hb.trans h1, h2, h3.mono h, h4⟩
  | map es => obtain ⟨h0, E, cl, h1, h2, h3⟩ := r; exact ⟨h0, E, cl, hb.trans h1, h2, fun i k v m a c => let ⟨x, y, z⟩ := h3 i k v m a c; ⟨x, y, z.mono h⟩⟩
  | dead => exact True.intro

/-! ### a draw -/
theorem Rel.draw {β : Loc} {s : St} {w : World} (n : Nat) (h : Rel β s w) : Rel β s { w with drawn := n } :=
  ⟨fun id o b base ho hb => (h.objs id o b base ho hb).mono (fun _ _ _ e => ⟨e, rfl⟩) rfl, h.apart, h.dom, h.nxt⟩
theorem Step.draw {β : Loc} {s : St} {w : World} (n : Nat) (h : Rel β s w) : Step β s w β s { w with drawn := n } where
  rel := h.draw n
  ext := fun _ _ => rfl
  next := Nat.le_refl _
  low := Nat.le_refl _
  size := Nat.le_refl _
  szs := fun _ _ => rfl
  os := rfl
  tape := rfl
  output := rfl
  mono := fun _ o' _ h hm => ⟨o', h, hm⟩
  frame := fun _ _ _ => rfl
  fresh := fun id b base hid e => absurd (h.dom id b base e).1 (by omega)
  same := fun _ _ _ => rfl
  total := fun id h1 h2 => by omega

/-! ### a new row -/
def Loc.with (β : Loc) (id b base : Nat) : Loc := fun i => if i = id then some (b, base) else β i
theorem szw_push (w : World) (o : Obj) (b : Nat) (h : b < w.heap.size) : szw { w with heap := w.heap.push o } b = szw w b := by
  unfold szw
  simp only [Array.getElem?_push]
  rw [if_neg (by omega)]
theorem Rel.none {β : Loc} {s : St} {w : World} (h : Rel β s w) {id : Nat} (hid : s.next ≤ id) : β id = none := by
  cases e : β id with
  | none => rfl
  | some p => obtain ⟨b, base⟩ := p; exact absurd (h.dom id b base e).1 (by omega)
theorem Rel.noObj {β : Loc} {s : St} {w : World} (h : Rel β s w) {id : Nat} (hid : s.next ≤ id) : s.heap.get id = .none := by
  cases e : s.heap.get id with
  | none => rfl
  | some o => exact absurd (h.nxt id o e) (by omega)

theorem Step.new {β : Loc} {s : St} {w : World} (h : Rel β s w) (O : Obj) (o : AObj)
    (hobj : ObjR (β.with s.next w.heap.size 0) { w with heap := w.heap.push O } w.heap.size 0 o) :
    Step β s w (β.with s.next w.heap.size 0) (s.new o) { w with heap := w.heap.push O } := by
  have hn := h.none (Nat.le_refl s.next)
  have keep : ∀ id b base, β id = some (b, base) → (β.with s.next w.heap.size 0) id = some (b, base) ∧ szw w b = szw { w with heap := w.heap.push O } b := fun id b base e => by
    have := h.dom id b base e
    refine ⟨?_, (szw_push w O b this.2).symm⟩
    unfold Loc.with; rw [if_neg (by omega)]; exact e
  have old : ∀ id b base, (β.with s.next w.heap.size 0) id = some (b, base) → id ≠ s.next → β id = some (b, base) := fun id b base e hne => by
    unfold Loc.with at e; rw [if_neg hne] at e; exact e
  have mine : (β.with s.next w.heap.size 0) s.next = some (w.heap.size, 0) := by unfold Loc.with; rw [if_pos rfl]
  constructor
  case rel =>
    constructor
    · intro id o' b base ho hb
      simp only [St.new, Heap.get_set] at ho
      by_cases hid : id = s.next
      · rw [if_pos hid] at ho
        subst hid
        rw [mine] at hb
        simp only [Option.some.injEq, Prod.mk.injEq] at ho hb
        obtain ⟨rfl, rfl⟩ := hb
        subst ho
        exact hobj
      · rw [if_neg hid] at ho
        have hb' := old id b base hb hid
        refine (h.objs id o' b base ho hb').mono keep ?_
        simp only [Array.getElem?_push]
        rw [if_neg (by have := (h.dom id b base hb').2; omega)]
    · intro i j oi oj b bi bj hi hj hm hl hbi hbj
      simp only [St.new, Heap.get_set] at hi hj
      by_cases h1 : i = s.next
      · by_cases h2 : j = s.next
        · omega
        · rw [h1, mine] at hbi
          have := (h.dom j b bj (old j b bj hbj h2)).2
          simp at hbi
          omega
      · by_cases h2 : j = s.next
        · rw [h2, mine] at hbj
          have := (h.dom i b bi (old i b bi hbi h1)).2
          simp at hbj
          omega
        · rw [if_neg h1] at hi
          rw [if_neg h2] at hj
          exact h.apart i j oi oj b bi bj hi hj hm hl (old i b bi hbi h1) (old j b bj hbj h2)
    · intro id b base hb
      simp only [St.new, Array.size_push]
      by_cases hid : id = s.next
      · rw [hid, mine] at hb; simp at hb; omega
      · have := h.dom id b base (old id b base hb hid); omega
    · intro id o' ho
      simp only [St.new, Heap.get_set] at ho ⊢
      by_cases hid : id = s.next
      · omega
      · rw [if_neg hid] at ho; have := h.nxt id o' ho; omega
  case ext => intro id hid; unfold Loc.with; rw [if_neg (by omega)]
  case next => simp [St.new]
  case low => exact Nat.le_refl _
  case size => simp
  case szs => intro b hb; exact szw_push w O b hb
  case os => rfl
  case tape => rfl
  case output => rfl
  case mono =>
    intro id o' hid ho hm
    simp only [St.new, Heap.get_set] at ho
    rw [if_neg (by omega)] at ho
    exact ⟨o', ho, hm⟩
  case frame =>
    intro b hb _
    simp only [Array.getElem?_push]
    rw [if_neg (by omega)]
  case fresh =>
    intro id b base hid hb
    by_cases he : id = s.next
    · rw [he, mine] at hb; simp at hb; exact .inl (by omega)
    · have := (h.dom id b base (old id b base hb he)).1; omega
  case same =>
    intro id hid _
    simp only [St.new, Heap.get_set]
    rw [if_neg (by omega)]
  case total =>
    intro id h1 h2
    have h2 : id < s.next + 1 := h2
    have : id = s.next := by omega
    subst this
    exact ⟨_, mine⟩

/-! ### a row is written -/
def World.setBlock (w : World) (b : Nat) (o : Obj) : World := { w with heap := w.heap.setIfInBounds b o }
theorem setBlock_get (w : World) (b x : Nat) (o : Obj) (h : b < w.heap.size) : (World.setBlock w b o).heap[x]? = if x = b then some o else w.heap[x]? := by
  unfold World.setBlock
  simp only [Array.getElem?_setIfInBounds]
  by_cases e : b = x
  · subst e; simp [h]
  · rw [if_neg e, if_neg (fun h => e h.symm)]

/-- an object that is the call's own turns into another, its block into another of the same size -/
theorem Step.put {β : Loc} {s : St} {w : World} (h : Rel β s w) {id b base : Nat} {o o' : AObj} {O O' : Obj} (ho : s.heap.get id = some o) (hm : o.mine = true) (hb : β id = some (b, base)) (hO : w.heap[b]? = some O)
    (hsz : szw (World.setBlock w b O') b = szw w b)
    (hobj : ObjR β (World.setBlock w b O') b base o') : Step β s w β (s.put id o') (World.setBlock w b O') := by
  have hbs := (h.dom id b base hb).2
  have szs : ∀ x, szw (World.setBlock w b O') x = szw w x := fun x => by
    by_cases e : x = b
    · subst e; exact hsz
    · unfold szw; rw [setBlock_get _ _ _ _ hbs, if_neg e]
  have keep : ∀ i x y, β i = some (x, y) → β i = some (x, y) ∧ szw w x = szw (World.setBlock w b O') x := fun i x y e => ⟨e, (szs x).symm⟩
  constructor
  case rel =>
    constructor
    · intro i oi x y hi hx
      simp only [St.put, Heap.get_set] at hi
      by_cases e : i = id
      · rw [if_pos e] at hi
        subst e
        rw [hb] at hx
        simp only [Option.some.injEq, Prod.mk.injEq] at hi hx
        obtain ⟨rfl, rfl⟩ := hx
        subst hi
        exact hobj
      · rw [if_neg e] at hi
        cases hlv : oi.live with
        | false => cases oi <;> first | exact True.intro | (simp [AObj.live] at hlv; done)
        | true =>
          have hne : x ≠ b := fun hxb => by
            subst hxb
            exact e (h.apart id i o oi x base y ho hi hm hlv hb hx).symm
          refine (h.objs i oi x y hi hx).mono keep ?_
          rw [setBlock_get _ _ _ _ hbs, if_neg hne]
    · intro i j oi oj x bi bj hi hj hmi hlj hbi hbj
      simp only [St.put, Heap.get_set] at hi hj
      by_cases h1 : i = id
      · by_cases h2 : j = id
        · omega
        · rw [if_neg h2] at hj
          subst h1
          exact h.apart i j o oj x bi bj ho hj hm hlj hbi hbj
      · rw [if_neg h1] at hi
        by_cases h2 : j = id
        · subst h2
          exact h.apart i j oi o x bi bj hi ho hmi (AObj.mine_live hm) hbi hbj
        · rw [if_neg h2] at hj
          exact h.apart i j oi oj x bi bj hi hj hmi hlj hbi hbj
    · intro i x y e
      have := h.dom i x y e
      simpa [St.put, World.setBlock] using this
    · intro i oi hi
      simp only [St.put, Heap.get_set] at hi ⊢
      by_cases e : i = id
      · rw [e]; exact h.nxt id o ho
      · rw [if_neg e] at hi; exact h.nxt i oi hi
  case ext => intro _ _; rfl
  case next => exact Nat.le_refl _
  case low => simp [St.put]; omega
  case size => simp [World.setBlock]
  case szs => intro x _; exact szs x
  case os => rfl
  case tape => rfl
  case output => rfl
  case mono =>
    intro i oi _ hi hmi
    simp only [St.put, Heap.get_set] at hi
    by_cases e : i = id
    · subst e; exact ⟨o, ho, hm⟩
    · rw [if_neg e] at hi; exact ⟨oi, hi, hmi⟩
  case frame =>
    intro x hx hyp
    rw [setBlock_get _ _ _ _ hbs]
    by_cases e : x = b
    · subst e
      have := hyp id base o hb ho hm
      simp [St.put] at this
      omega
    · rw [if_neg e]
  case fresh => intro i x y hi e; exact absurd (h.dom i x y e).1 (by omega)
  case same =>
    intro i _ hl
    simp only [St.put, Heap.get_set] at hl ⊢
    rw [if_neg (by omega)]
  case total => intro i h1 h2; have h2 : i < s.next := h2; omega

end Go.Eng
end

section
/- The machine's operations follow the evaluator's: one lemma an operation. -/
set_option linter.unusedVariables false
set_option linter.unusedSimpArgs false
namespace Go.Eng

/-- what is asked of a program: its zero values hold no addresses -/
def goodZeros (P : Program) : Bool := P.types.toList.all fun i => match i.zero with
  | some (.tuple _) => true
  | some z => z.cells.toList.all atom
  | none => true

/-! ### inversion -/
section inv
variable {β : Loc} {sz : Nat → Nat} {u : Value}
theorem VR.int {k : IntKind} {n : Int} (h : VR β sz (.int k n) u) : u = .int k n := by cases h; rfl
theorem VR.bool {b : Bool} (h : VR β sz (.bool b) u) : u = .bool b := by cases h; rfl
theorem VR.string {b : ByteArray} (h : VR β sz (.string b) u) : u = .string b := by cases h; rfl
theorem VR.ptr' {id off : Nat} {sp : Option Nat} (h : VR β sz (.pointer (some ⟨id, off, sp⟩)) u) : sp = none ∧ ∃ b base, β id = some (b, base) ∧ u = .pointer (some ⟨b, base + off, none⟩) := by
  cases h with
  | atom h => simp [Eng.atom] at h
  | ptr h => exact ⟨rfl, _, _, h, rfl⟩
theorem VR.ptrNone (h : VR β sz (.pointer none) u) : u = .pointer none := by cases h; rfl
theorem VR.slice' {id off n c : Nat} {sp : Option Nat} (h : VR β sz (.slice (some ⟨id, off, sp⟩) n c) u) : sp = none ∧ ∃ b' q b base o c', β id = some (b, base) ∧ (n = 0 ∨ o = base + off) ∧ n ≤ c' ∧ (c % 2 = 0 → c' = n) ∧ (((b' = b ∧ q = none) ∧ o + c' * (c / 2) ≤ sz b) ∨ c' = 0) ∧ u = .slice (some ⟨b', o, q⟩) n c' := by
  cases h with
  | atom h => simp [Eng.atom] at h
  | slice h a b c d => exact ⟨rfl, _, _, _, _, _, _, h, a, b, c, d, rfl⟩
theorem VR.sliceNone {n c : Nat} (h : VR β sz (.slice none n c) u) : n = 0 ∧ c = 0 ∧ u = .slice none 0 0 := by
  cases h with
  | atom h =>
    unfold Eng.atom at h
    split at h <;> simp_all
theorem VR.mapNone (h : VR β sz (.map none) u) : u = .map none := by cases h; rfl
theorem VR.mapSome {r : Nat} (h : VR β sz (.map (some r)) u) : ∃ b, β r = some (b, 0) ∧ u = .map (some b) := by
  cases h with
  | atom h => simp [Eng.atom] at h
  | map h => exact ⟨_, h, rfl⟩
theorem VR.agg' {x : Array Value} (h : VR β sz (.agg x) u) : ∃ x', u = .agg x' ∧ VL β sz x.toList x'.toList := by
  cases h with
  | atom h => simp [Eng.atom] at h
  | agg a b => exact ⟨_, rfl, VL.array a b⟩
theorem VR.tuple' {x : Array Value} (h : VR β sz (.tuple x) u) : ∃ x', u = .tuple x' ∧ VL β sz x.toList x'.toList := by
  cases h with
  | atom h => simp [Eng.atom] at h
  | tuple a b => exact ⟨_, rfl, VL.array a b⟩
theorem VR.func' {g : FuncId} {x y : Array Value} (h : VR β sz (.func (.func g) x y) u) : ∃ x' y', u = .func (.func g) x' y' ∧ VL β sz x.toList x'.toList ∧ VL β sz y.toList y'.toList := by
  cases h with
  | atom h => simp [Eng.atom] at h
  | func a b c d => exact ⟨_, _, rfl, VL.array a c, VL.array b d⟩
theorem VR.nilFunc (h : VR β sz .nilFunc u) : u = .nilFunc := by cases h; rfl
theorem VR.aggMk {l : List Value} {l' : List Value} (h : VL β sz l l') : VR β sz (.agg l.toArray) (.agg l'.toArray) :=
  .agg (by simpa using h.1) (fun i u u' a b => h.2 i u u' (by simpa using a) (by simpa using b))
theorem VR.aggMk' {x x' : Array Value} (h : VL β sz x.toList x'.toList) : VR β sz (.agg x) (.agg x') := .agg h.toArr.1 h.toArr.2
theorem VR.tupleMk {x x' : Array Value} (h : VL β sz x.toList x'.toList) : VR β sz (.tuple x) (.tuple x') := .tuple h.toArr.1 h.toArr.2
theorem VL.atoms {l : List Value} (h : l.all Eng.atom = true) : VL β sz l l :=
  ⟨rfl, fun i u u' a b => by rw [a] at b; simp at b; subst b; exact .atom (List.all_eq_true.1 h u (List.mem_of_getElem? a))⟩
end inv

/-! ### operands -/
theorem opd_sim {β : Loc} {sz : Nat → Nat} {e : Env} {a : Act} (h : ER β sz e a.tmps) {x : Operand} {v : Value} (hx : opd e x = some v) : VR β sz v (a.eval x) := by
  cases x with
  | tmp t =>
    simp only [opd] at hx
    cases he : e[t]? with
    | none => simp [he] at hx
    | some q =>
      simp only [he, Option.getD_some] at hx
      subst hx
      obtain ⟨u, hu, hr⟩ := h.2 t v he
      simp only [Act.eval, Array.getD_eq_getD_getElem?, hu, Option.getD_some]
      exact hr
  | const c =>
    simp only [opd] at hx
    split at hx
    · simp at hx; subst hx; exact .atom (by assumption)
    · simp at hx
  | func f =>
    simp only [opd, Option.some.injEq] at hx
    subst hx
    exact .func rfl rfl (by simp) (by simp)
  | global g => simp [opd] at hx
theorem opds_sim {β : Loc} {sz : Nat → Nat} {e : Env} {a : Act} (h : ER β sz e a.tmps) : ∀ {xs : List Operand} {l : List Value}, opds e xs = some l → VL β sz l (xs.map a.eval)
  | [], l, hl => by simp [opds] at hl; subst hl; exact .nil
  | x :: r, l, hl => by
    simp only [opds] at hl
    split at hl
    · rename_i v hv
      cases hr : opds e r with
      | none => simp [hr] at hl
      | some l' =>
        simp [hr] at hl
        subst hl
        exact VL.cons (opd_sim h hv) (opds_sim h hr)
    · simp at hl
def PL (β : Loc) (sz : Nat → Nat) (l l' : List (Nat × Value)) : Prop := l.map (·.1) = l'.map (·.1) ∧ VL β sz (l.map (·.2)) (l'.map (·.2))
theorem PL.inv {β : Loc} {sz : Nat → Nat} {i : Nat} {v : Value} {r l' : List (Nat × Value)} (h : PL β sz ((i, v) :: r) l') : ∃ u r', l' = (i, u) :: r' ∧ VR β sz v u ∧ PL β sz r r' := by
  cases l' with
  | nil => exact absurd h.1 (by simp)
  | cons p r' =>
    obtain ⟨j, u⟩ := p
    have h1 := h.1
    simp only [List.map_cons, List.cons.injEq] at h1
    obtain ⟨rfl, h1⟩ := h1
    obtain ⟨_, _, he, hv, hl⟩ := h.2.inv
    simp only [List.map_cons, List.cons.injEq] at he
    obtain ⟨rfl, rfl⟩ := he
    exact ⟨u, r', rfl, hv, h1, hl⟩
theorem parts_sim {β : Loc} {sz : Nat → Nat} {e : Env} {a : Act} (h : ER β sz e a.tmps) : ∀ {xs : List (Nat × Operand)} {l : List (Nat × Value)}, parts e xs = some l → PL β sz l (xs.map fun p => (p.1, a.eval p.2))
  | [], l, hl => by simp [parts] at hl; subst hl; exact ⟨rfl, .nil⟩
  | (i, x) :: r, l, hl => by
    simp only [parts] at hl
    split at hl
    · rename_i v hv
      cases hr : parts e r with
      | none => simp [hr] at hl
      | some l' =>
        simp [hr] at hl
        subst hl
        have := parts_sim h hr
        exact ⟨by simp [this.1], VL.cons (opd_sim h hv) this.2⟩
    · simp at hl

/-! ### types -/
theorem info_of_size {P : Program} {t n : Nat} (h : sizeT P t = some n) : ∃ i, P.info? t = some i ∧ i.size = n := by
  unfold sizeT at h
  cases e : P.info? t with
  | none => simp [e] at h
  | some i => simp [e] at h; exact ⟨i, rfl, h⟩
theorem info_of_bytes {P : Program} {t n : Nat} (h : bytesT P t = some n) : ∃ i, P.info? t = some i ∧ i.bytes = n := by
  unfold bytesT at h
  cases e : P.info? t with
  | none => simp [e] at h
  | some i => simp [e] at h; exact ⟨i, rfl, h⟩
theorem info_of_zero {P : Program} {t : Nat} {z : Value} (h : zeroT P t = some z) : ∃ i, P.info? t = some i ∧ i.zero = some z ∧ i ∈ P.types ∧ (∀ x, z ≠ .tuple x) := by
  unfold zeroT at h
  cases e : P.types[t]? with
  | none => simp [e] at h
  | some i =>
    rw [e] at h
    have hlt := (Array.getElem?_eq_some_iff.1 e).1
    refine ⟨i, by simp only [Tables.info?, hlt, if_true]; exact e, ?_, Array.mem_of_getElem? e, ?_⟩
    · simp only at h; split at h
      · simp at h
      · exact h
    · rintro x rfl
      simp only at h
      split at h
      · simp at h
      · rename_i hne; exact hne x h
theorem zero_atoms {P : Program} (hP : goodZeros P = true) {t : Nat} {z : Value} (h : zeroT P t = some z) : z.cells.toList.all atom = true := by
  obtain ⟨i, _, hz, hm, hne⟩ := info_of_zero h
  have := List.all_eq_true.1 hP i (by simpa using hm)
  rw [hz] at this
  cases z <;> first | exact this | exact absurd rfl (hne _)
section
variable {P : Program} {w : World}
theorem run_size {t n : Nat} (h : sizeT P t = some n) : (sizeOf t).run P w = .ok n w := by
  obtain ⟨i, hi, rfl⟩ := info_of_size h
  simp [sizeOf, typeInfo, hi]
theorem run_bytes {t n : Nat} (h : bytesT P t = some n) : ∃ i, (typeInfo t).run P w = .ok i w ∧ i.bytes = n := by
  obtain ⟨i, hi, rfl⟩ := info_of_bytes h
  exact ⟨i, by simp [typeInfo, hi], rfl⟩
theorem run_zero {t : Nat} {z : Value} (h : zeroT P t = some z) : (zeroValue t).run P w = .ok z w := by
  obtain ⟨i, hi, hz, _⟩ := info_of_zero h
  simp [zeroValue, typeInfo, hi, hz]
theorem run_isAgg {t : Nat} {b : Bool} (h : isAggT P t = some b) : (isAgg t).run P w = .ok b w := by
  unfold isAggT at h
  cases e : P.underlying t with
  | none => simp [e] at h
  | some d =>
    rw [e] at h
    simp only [isAgg, Sem.run_bind, run_underlying e, Result.andThen_ok]
    cases d <;> simp at h <;> subst h <;> rfl
end

/-! ### loads and stores -/
theorem addr_add (b o j : Nat) : (⟨b, o, none⟩ : Addr).add j = ⟨b, o + j, none⟩ := by unfold Addr.add; split <;> simp_all
theorem row_obj {s : St} {id : Nat} {c : List Value} {own : Bool} (h : s.row id = some (c, own)) : s.heap.get id = some (.cells c own) := by
  unfold St.row at h
  split at h
  · simp at h; obtain ⟨rfl, rfl⟩ := h; assumption
  · simp at h

/-- a cell that the evaluator sees is there -/
theorem cell_sim {β : Loc} {s : St} {w : World} (hr : Rel β s w) {id b base off : Nat} {c : List Value} {own : Bool} (hc : s.row id = some (c, own)) (hb : β id = some (b, base)) {v : Value} (hv : c[off]? = some v) :
    ∃ u, w.cell? ⟨b, base + off, none⟩ = some u ∧ VR β (szw w) v u := by
  obtain ⟨C, e, fz, h1, h2, h3, _⟩ := hr.objs id _ b base (row_obj hc) hb
  have hlt : off < c.length := (List.getElem?_eq_some_iff.1 hv).1
  have hu : (C.toList.drop base)[off]? = some C[base + off] := by
    rw [List.getElem?_drop, Array.getElem?_toList, Array.getElem?_eq_getElem (by omega)]
  refine ⟨C[base + off], ?_, h3.2 off v _ hv ?_⟩
  · simp only [World.cell?, h1, Option.isSome_none, Bool.false_eq_true, if_false]
    rw [Array.getElem?_eq_getElem (by omega)]
  · rw [List.getElem?_take, if_pos hlt, hu]
theorem cells_sim {β : Loc} {s : St} {w : World} (hr : Rel β s w) {id b base off n : Nat} {l : List Value} (hc : s.some? id off n = some l) (hb : β id = some (b, base)) :
    ∃ l', (∀ j v, l'[j]? = some v → w.cell? ((⟨b, base + off, none⟩ : Addr).add j) = some v) ∧ l'.length = n ∧ VL β (szw w) l l' := by
  unfold St.some? at hc
  split at hc
  · rename_i c own hrow
    split at hc
    · rename_i hle
      simp only [Option.some.injEq] at hc
      subst hc
      obtain ⟨C, e, fz, h1, h2, h3, _⟩ := hr.objs id _ b base (row_obj hrow) hb
      refine ⟨(((C.toList.drop base).take c.length).drop off).take n, ?_, ?_, (h3.drop off).take n⟩
      · intro j v hv
        rw [addr_add]
        rw [List.getElem?_take] at hv
        split at hv
        · rw [List.getElem?_drop, List.getElem?_take] at hv
          split at hv
          · rw [List.getElem?_drop, Array.getElem?_toList] at hv
            simp only [World.cell?, h1, Option.isSome_none, Bool.false_eq_true, if_false]
            rw [← hv]
            congr 1
            omega
          · simp at hv
        · simp at hv
      · simp; omega
    · simp at hc
  · simp at hc
theorem run_loadCells_len {P : Program} {w : World} {a : Addr} {l : List Value} {n : Nat} (hl : l.length = n) (h : ∀ j v, l[j]? = some v → w.cell? (a.add j) = some v) : (loadCells a n).run P w = .ok l.toArray w := by
  subst hl; exact run_loadCells_list w a l h

theorem load_sim {P : Program} {β : Loc} {s : St} {w : World} (hr : Rel β s w) {t id off b base : Nat} {v : Value} (h : aLoad P s t id off = some v) (hb : β id = some (b, base)) :
    ∃ u, (loadVar t ⟨b, base + off, none⟩).run P w = .ok u w ∧ VR β (szw w) v u := by
  unfold aLoad at h
  split at h
  · rename_i ha
    split at h
    · rename_i n hn
      cases hs : s.some? id off n with
      | none => simp [hs] at h
      | some l =>
        simp [hs] at h
        subst h
        obtain ⟨l', h1, h2, h3⟩ := cells_sim hr hs hb
        refine ⟨.agg l'.toArray, ?_, VR.aggMk h3⟩
        simp [loadVar, run_isAgg ha, run_size hn, run_loadCells_len h2 h1]
    · simp at h
  · rename_i ha
    split at h
    · rename_i c own hc
      obtain ⟨u, hu, hv⟩ := cell_sim hr hc hb h
      refine ⟨u, ?_, hv⟩
      simp [loadVar, run_isAgg ha, hu]
    · simp at h
  · simp at h

def setArr (C : Array Value) (o : Nat) : List Value → Array Value
  | [] => C
  | v :: r => setArr (C.setIfInBounds o v) (o + 1) r
theorem size_setArr (l : List Value) : ∀ (C : Array Value) (o : Nat), (setArr C o l).size = C.size := by
  induction l with
  | nil => intro C o; rfl
  | cons v l ih => intro C o; simp [setArr, ih]
theorem toList_setArr (l : List Value) : ∀ (C : Array Value) (o : Nat), (setArr C o l).toList = setAll C.toList o l := by
  induction l with
  | nil => intro C o; rfl
  | cons v l ih => intro C o; simp only [setArr, setAll]; rw [ih]; simp
theorem setBlock_setBlock (w : World) (b : Nat) (o o' : Obj) : World.setBlock (World.setBlock w b o) b o' = World.setBlock w b o' := by
  unfold World.setBlock
  simp
theorem setBlock_self (w : World) (b : Nat) (o : Obj) (h : w.heap[b]? = some o) : World.setBlock w b o = w := by
  unfold World.setBlock
  have : w.heap.setIfInBounds b o = w.heap := by
    apply Array.ext_getElem?
    intro i
    rw [Array.getElem?_setIfInBounds]
    split
    · rename_i e; subst e; split
      · exact h.symm
      · rename_i hn; rw [Array.getElem?_eq_none (by omega)] at h; simp at h
    · rfl
  rw [this]
theorem setCell_setBlock (w : World) (b o : Nat) (v : Value) (C : Array Value) (e : TypeId) (fz : Nat × Nat) (h : w.heap[b]? = some (.cells C e fz)) :
    w.setCell ⟨b, o, none⟩ v = World.setBlock w b (.cells (C.setIfInBounds o v) e fz) := by
  unfold World.setCell World.setBlock
  congr 1
  apply Array.ext_getElem?
  intro i
  rw [Array.getElem?_modify, Array.getElem?_setIfInBounds]
  by_cases hi : b = i
  · subst hi
    obtain ⟨hlt, hg⟩ := Array.getElem?_eq_some_iff.1 h
    simp [hlt, hg]
  · simp [hi]
theorem run_storeCells' {P : Program} (b o : Nat) : ∀ (vs : List Value) (i : Nat) (w : World) (C : Array Value) (e : TypeId) (fz : Nat × Nat), w.heap[b]? = some (.cells C e fz) → o + i + vs.length ≤ C.size →
    (∀ j, j < C.size → ¬ (fz.1 ≤ j ∧ j < fz.2)) → vs.all (·.oneCell') = true → (storeCells ⟨b, o, none⟩ vs i).run P w = .ok () (World.setBlock w b (.cells (setArr C (o + i) vs) e fz))
  | [], i, w, C, e, fz, h, _, _, _ => by simp only [storeCells, setArr]; rw [setBlock_self w b _ h]; rfl
  | v :: r, i, w, C, e, fz, h, hl, hf, h1 => by
    simp only [List.length_cons] at hl
    simp only [List.all_cons, Bool.and_eq_true] at h1
    have hc : w.cell? ⟨b, o + i, none⟩ = some C[o + i] := by
      simp only [World.cell?, h, Option.isSome_none, Bool.false_eq_true, if_false]
      rw [Array.getElem?_eq_getElem (by omega)]
    have hfz : w.frozen? ⟨b, o + i, none⟩ = false := by
      simp only [World.frozen?, h]
      have := hf (o + i) (by omega)
      simp only [Bool.and_eq_false_imp, decide_eq_true_eq, decide_eq_false_iff_not]
      omega
    have hst : (store ((⟨b, o, none⟩ : Addr).add i) v).run P w = .ok () (World.setBlock w b (.cells (C.setIfInBounds (o + i) v) e fz)) := by
      rw [addr_add, run_store P w _ v _ h1.1, hc]
      simp only [hfz, Bool.false_eq_true, if_false]
      rw [setCell_setBlock w b (o + i) v C e fz h]
    have hlt := (Array.getElem?_eq_some_iff.1 h).1
    have ih := run_storeCells' (P := P) b o r (i + 1) (World.setBlock w b (.cells (C.setIfInBounds (o + i) v) e fz)) (C.setIfInBounds (o + i) v) e fz
      (by rw [setBlock_get _ _ _ _ hlt, if_pos rfl]) (by simp; omega) (by simpa using hf) h1.2
    simp only [storeCells, Sem.run_bind, hst, Result.andThen_ok, ih, setBlock_setBlock, setArr]
    rfl

/-- cells of a row of the call's own are written -/
theorem write_sim {P : Program} {β : Loc} {s : St} {w : World} (hr : Rel β s w) {id off b base : Nat} {c vs us : List Value} (hc : s.row id = some (c, true)) (hb : β id = some (b, base)) (hle : off + vs.length ≤ c.length)
    (hv : VL β (szw w) vs us) (h1 : vs.all isCell = true) :
    ∃ w', (storeCells ⟨b, base + off, none⟩ us).run P w = .ok () w' ∧ Step β s w β (s.put id (.cells (setAll c off vs) true)) w' := by
  obtain ⟨C, e, fz, h2, h3, h4, h5⟩ := hr.objs id _ b base (row_obj hc) hb
  have hone : us.all (·.oneCell') = true := by
    rw [List.all_eq_true]
    intro u hu
    obtain ⟨i, hi⟩ := List.getElem?_of_mem hu
    have hlt : i < vs.length := by rw [hv.1]; exact (List.getElem?_eq_some_iff.1 hi).1
    rw [(hv.2 i vs[i] u (List.getElem?_eq_getElem hlt) hi).isCell]
    exact List.all_eq_true.1 h1 _ (List.getElem_mem hlt)
  have hlt := (Array.getElem?_eq_some_iff.1 h2).1
  refine ⟨_, run_storeCells' b (base + off) us 0 w C e fz h2 (by have := hv.1; omega) (h5 rfl) hone, ?_⟩
  have hsz : szw (World.setBlock w b (.cells (setArr C (base + off + 0) us) e fz)) b = szw w b := by
    unfold szw
    rw [setBlock_get _ _ _ _ hlt, if_pos rfl, h2]
    simp [size_setArr]
  have hall : ∀ x, szw (World.setBlock w b (.cells (setArr C (base + off + 0) us) e fz)) x = szw w x := fun x => by
    by_cases e' : x = b
    · subst e'; exact hsz
    · unfold szw; rw [setBlock_get _ _ _ _ hlt, if_neg e']
  refine Step.put hr (row_obj hc) rfl hb h2 hsz ?_
  refine ⟨setArr C (base + off + 0) us, e, fz, by rw [setBlock_get _ _ _ _ hlt, if_pos rfl], by rw [length_setAll, size_setArr]; exact h3, ?_, fun _ j hj => h5 rfl j (by rwa [size_setArr] at hj)⟩
  have hfun : szw (World.setBlock w b (.cells (setArr C (base + off + 0) us) e fz)) = szw w := funext hall
  rw [hfun, toList_setArr, length_setAll]
  have cut : ∀ (us L : List Value) (k n : Nat), k + us.length ≤ n → ((setAll L (base + k) us).drop base).take n = setAll ((L.drop base).take n) k us := by
    intro us
    induction us with
    | nil => intro L k n _; rfl
    | cons u us ih =>
      intro L k n hk
      simp only [List.length_cons] at hk
      simp only [setAll]
      rw [show base + k + 1 = base + (k + 1) from rfl, ih _ (k + 1) n (by omega)]
      congr 1
      apply List.ext_getElem?
      intro j
      simp only [List.getElem?_take, List.getElem?_drop, List.getElem?_set, List.length_take, List.length_drop]
      by_cases hj : j < n
      · by_cases hkj : k = j
        · subst hkj
          simp only [hj, if_true]
          by_cases hl : base + k < L.length
          · simp [hl]; omega
          · simp [hl]; omega
        · have : ¬ (base + k = base + j) := by omega
          simp [hj, hkj, this]
      · have : ¬ (k = j) := by omega
        simp [hj, this]
  rw [Nat.add_zero, cut us C.toList off c.length (by have := hv.1; omega)]
  exact h4.setAll off hv
end Go.Eng
end

section
/- The machine's operations follow the evaluator's: operations that leave memory alone, and those that make a variable. -/
set_option linter.unusedVariables false
set_option linter.unusedSimpArgs false
namespace Go.Eng

def OK (β : Loc) (s : St) (w : World) (r : Result Next) (v : Value) (s' : St) : Prop :=
  ∃ β' w' u, (r = .ok (.value u) w' ∨ (r = .ok .skip w' ∧ u = undef)) ∧ Step β s w β' s' w' ∧ VR β' (szw w') v u

section
variable {P : Program} {β : Loc} {s : St} {w : World}

theorem OK.pure {r : Result Next} {v u : Value} (hr : Rel β s w) (h : r = .ok (.value u) w) (hv : VR β (szw w) v u) : OK β s w r v s := ⟨β, w, u, .inl h, Step.refl hr, hv⟩

theorem run_v (x : Sem Value) : ((do pure (.value (← x)) : Sem Next)).run P w = (x.run P w).andThen fun a w' => .ok (.value a) w' := by simp

/-! ### variables -/
theorem new_sim (hr : Rel β s w) (t : TypeId) {l : List Value} {c : Array Value} (h : VL β (szw w) l c.toList) :
    Step β s w (β.with s.next w.heap.size 0) (s.new (.cells l true)) { w with heap := w.heap.push (.cells c t) } ∧ (β.with s.next w.heap.size 0) s.next = some (w.heap.size, 0) := by
  have hb : (β.with s.next w.heap.size 0) s.next = some (w.heap.size, 0) := by unfold Loc.with; rw [if_pos rfl]
  refine ⟨Step.new hr _ _ ?_, hb⟩
  refine ⟨c, t, (0, 0), by simp, by have := h.1; simp at this; omega, ?_, fun _ j _ hj => by simp at hj⟩
  simp only [List.drop_zero]
  rw [List.take_of_length_le (by have := h.1; omega)]
  refine h.mono fun id b base e => ?_
  have := hr.dom id b base e
  refine ⟨?_, (szw_push w _ b this.2).symm⟩
  unfold Loc.with; rw [if_neg (by omega)]; exact e

theorem szw_new (t : TypeId) (c : Array Value) : szw { w with heap := w.heap.push (.cells c t) } w.heap.size = c.size := by simp [szw]

theorem alloc_sim (hP : goodZeros P = true) (hr : Rel β s w) {t : TypeId} {z : Value} (h : zeroT P t = some z) :
    OK β s w ((do pure (.value (← Instr.alloc t true (.tuple #[]))) : Sem Next).run P w) (.pointer (some ⟨s.next, 0, none⟩)) (s.new (.cells z.cells.toList true)) := by
  obtain ⟨h1, h2⟩ := new_sim hr t (VL.atoms (zero_atoms hP h))
  refine ⟨_, _, _, .inl ?_, h1, VR.ptr h2⟩
  simp [Instr.alloc, run_zero h, newVar, newRow]

theorem box_sim (hr : Rel β s w) (t : TypeId) {v u : Value} (h : VR β (szw w) v u) :
    OK β s w ((do pure (.value (← Instr.box t u)) : Sem Next).run P w) (.pointer (some ⟨s.next, 0, none⟩)) (s.new (.cells v.cells.toList true)) := by
  obtain ⟨h1, h2⟩ := new_sim hr t h.cells
  refine ⟨_, _, _, .inl ?_, h1, VR.ptr h2⟩
  simp [Instr.box, newVar, newRow]

/-! ### structs and arrays as values -/
theorem part_sim {t : TypeId} {cs cs' : Array Value} {off : Nat} {v : Value} (h : aEqN.aPart P t cs off = some v) (hv : VL β (szw w) cs.toList cs'.toList) : ∃ u, (part t cs' off).run P w = .ok u w ∧ VR β (szw w) v u := by
  unfold aEqN.aPart at h
  split at h
  · rename_i ha
    cases hs : sizeT P t with
    | none => simp [hs] at h
    | some n =>
      simp [hs] at h
      subst h
      refine ⟨.agg (cs'.extract off (off + n)), by simp [part, run_isAgg ha, run_size hs], VR.aggMk' ?_⟩
      have h := (hv.take (off + n)).drop off
      simpa [Array.toList_extract, List.extract, List.drop_take] using h
  · rename_i ha
    have hlt := (Array.getElem?_eq_some_iff.1 h).1
    have hlt' : off < cs'.size := by have := hv.1; simp at this; omega
    refine ⟨cs'[off], by simp [part, run_isAgg ha, hlt'], hv.2 off v _ (by simpa using h) (by simp [hlt'])⟩
  · simp at h

theorem field_sim (hr : Rel β s w) {t : TypeId} {x y v : Value} {i : Nat} (h : aField P t x i = some v) (hx : VR β (szw w) x y) : OK β s w ((do pure (.value (← Instr.field t y i)) : Sem Next).run P w) v s := by
  unfold aField at h
  split at h
  · rename_i fields cs hu
    split at h
    · rename_i f hf
      obtain ⟨cs', rfl, hl⟩ := hx.agg'
      obtain ⟨u, h1, h2⟩ := part_sim h hl
      refine OK.pure hr ?_ h2
      simp [Instr.field, run_underlying hu, hf, asAgg, h1]
    · simp at h
  · simp at h

theorem index_sim (hr : Rel β s w) {t : TypeId} {x y i j v : Value} (h : aIndex P t x i = some v) (hx : VR β (szw w) x y) (hi : VR β (szw w) i j) : OK β s w ((do pure (.value (← Instr.index t y j)) : Sem Next).run P w) v s := by
  unfold aIndex at h
  split at h
  · rename_i k n
    have := hi.int; subst this
    split at h
    · rename_i len el cs hu
      obtain ⟨cs', rfl, hl⟩ := hx.agg'
      split at h
      · rename_i z hz
        split at h
        · rename_i hb
          obtain ⟨u, h1, h2⟩ := part_sim h hl
          refine OK.pure hr ?_ h2
          simp [Instr.index, asIntOf, run_underlying hu, hb, run_size hz, h1]
        · simp at h
      · simp at h
    · rename_i bs hu
      have := hx.string; subst this
      split at h
      · rename_i h0
        cases hb : bs[n.toNat]? with
        | none => simp [hb] at h
        | some b =>
          simp [hb] at h
          subst h
          refine OK.pure hr ?_ (.atom rfl)
          simp [Instr.index, asIntOf, run_underlying hu, h0, hb]
      · simp at h
    · simp at h
  · simp at h

theorem extract_sim (hr : Rel β s w) {vs : Array Value} {y v : Value} {i : Nat} (h : vs[i]? = some v) (hx : VR β (szw w) (.tuple vs) y) : OK β s w ((do pure (.value (← Instr.extract y i)) : Sem Next).run P w) v s := by
  obtain ⟨vs', rfl, hl⟩ := hx.tuple'
  have hlt := (Array.getElem?_eq_some_iff.1 h).1
  have hlt' : i < vs'.size := by have := hl.1; simp at this; omega
  refine OK.pure hr (u := vs'[i]) ?_ (hl.2 i v _ (by simpa using h) (by simp [hlt']))
  simp [Instr.extract, hlt']

/-! ### addresses -/
theorem fieldAddr_sim (hr : Rel β s w) {t : TypeId} {x y v : Value} {i : Nat} (h : aFieldAddr P t x i = some v) (hx : VR β (szw w) x y) : OK β s w ((do pure (.value (← Instr.fieldAt t y i)) : Sem Next).run P w) v s := by
  unfold aFieldAddr at h
  split at h
  · rename_i fields id off hu
    obtain ⟨_, b, base, hb, rfl⟩ := hx.ptr'
    split at h
    · rename_i f hf
      split at h
      · rename_i n hn
        simp at h
        subst h
        refine OK.pure hr (u := .pointer (some ⟨b, base + off + f.offset, none⟩)) ?_ ?_
        · simp [Instr.fieldAt, run_underlying hu, hf, Instr.sureAddr, fieldPlace, run_size hn, addr_add]
        · rw [Nat.add_assoc]; exact .ptr hb
      · simp at h
    · simp at h
  · simp at h

theorem indexAddr_sim (hr : Rel β s w) {t : TypeId} {x y i j v : Value} (h : aIndexAddr P t x i = some v) (hx : VR β (szw w) x y) (hi : VR β (szw w) i j) : OK β s w ((do pure (.value (← Instr.indexAt t y j)) : Sem Next).run P w) v s := by
  unfold aIndexAddr at h
  split at h
  · rename_i k n
    have := hi.int; subst this
    split at h
    · rename_i len el id off hu
      obtain ⟨_, b, base, hb, rfl⟩ := hx.ptr'
      split at h
      · rename_i z hz
        split at h
        · rename_i hb'
          simp at h
          subst h
          refine OK.pure hr (u := .pointer (some ⟨b, base + off + n.toNat * z, none⟩)) ?_ ?_
          · simp [Instr.indexAt, asIntOf, run_underlying hu, Instr.sureAddr, hb', run_size hz, addr_add]
          · rw [Nat.add_assoc]; exact .ptr hb
        · simp at h
      · simp at h
    · rename_i el id off len c hu
      obtain ⟨_, b', q, b, base, o, c', hb, ho, hn, hx', hz', rfl⟩ := hx.slice'
      split at h
      · rename_i z hz
        split at h
        · rename_i hb'
          simp at h
          subst h
          have ho : o = base + off := by rcases ho with h0 | h0; (· omega); exact h0
          obtain ⟨rfl, rfl⟩ : b = b' ∧ q = none := by rcases hz' with h0 | h0; (· exact ⟨h0.1.1.symm, h0.1.2⟩); omega
          subst ho
          refine OK.pure hr (u := .pointer (some ⟨b, base + off + n.toNat * z, none⟩)) ?_ ?_
          · simp [Instr.indexAt, asIntOf, run_underlying hu, hb', run_size hz, addr_add]
          · rw [Nat.add_assoc]; exact .ptr hb
        · simp at h
      · simp at h
    · simp at h
  · simp at h

/-! ### arithmetic -/
theorem bin_int {k : IntKind} {a b : Int} {op : BinOp} {t : TypeId} {k' : IntKind} {v : Value} (h : aBin P op t (.int k a) (.int k' b) = some v) : (binOp op t (.int k a) (.int k' b)).run P w = .ok v w ∧ atom v = true := by
  simp only [aBin] at h
  split at h
  · split at h
    · simp at h
    · rename_i hb; simp at h; subst h; simp [binOp, Op.shift, hb]; rfl
  · split at h
    · simp at h
    · rename_i hb; simp at h; subst h; simp [binOp, Op.shift, hb]; rfl
  · rename_i h1 h2
    split at h
    · simp at h
    · rename_i hk
      simp only [ne_eq, Decidable.not_not] at hk
      subst hk
      split at h <;> first
        | (simp at h; done)
        | (simp at h; subst h; constructor <;> first | rfl | simp [binOp, Op.intArith, Op.intCmp, Op.intBits]; done)
        | (split at h
           · simp at h
           · rename_i hb; simp at h; subst h; constructor <;> first | rfl | simp [binOp, Op.intDiv, hb]; done)

end
end Go.Eng
end

section
/- The machine's operations follow the evaluator's: equality, strings, slices, conversions. -/
set_option linter.unusedVariables false
set_option linter.unusedSimpArgs false
namespace Go.Eng

section
variable {P : Program} {β : Loc} {s : St} {w : World}

theorem eqIn_sim : ∀ (d : Nat) (t : TypeId) (x y x' y' : Value) (b : Bool), aEqN P d t x y = some b → VR β (szw w) x x' → VR β (szw w) y y' → (Op.equalIn d t x' y').run P w = .ok b w := by
  intro d
  induction d with
  | zero => intro t x y x' y' b h; simp [aEqN] at h
  | succ d ih =>
    intro t x y x' y' b h hx hy
    unfold aEqN at h
    split at h <;> rename_i hu
    · have := hx.bool; have := hy.bool; subst_vars; simp at h; subst h; simp [Op.equalIn, run_underlying hu]
    · have := hx.int; have := hy.int; subst_vars
      split at h
      · rename_i hk; simp at h; subst h; subst hk; simp [Op.equalIn, run_underlying hu]
      · simp at h
    · have := hx.string; have := hy.string; subst_vars; simp at h; subst h; simp [Op.equalIn, run_underlying hu]
    · have := hx.ptrNone; subst this
      simp only [Option.some.injEq] at h
      subst h
      cases hy with
      | atom ha =>
        unfold Eng.atom at ha
        split at ha <;> simp_all [Op.equalIn, run_underlying hu]
      | ptr hb => simp [Op.equalIn, run_underlying hu]
    · rename_i a; obtain ⟨id, off, sp⟩ := a; obtain ⟨_, _, _, _, rfl⟩ := hx.ptr'; have := hy.ptrNone; subst this; simp at h; subst h; simp [Op.equalIn, run_underlying hu]
    · obtain ⟨_, _, rfl⟩ := hx.sliceNone
      simp only [Option.some.injEq] at h
      subst h
      cases hy with
      | atom ha =>
        unfold Eng.atom at ha
        split at ha <;> simp_all [Op.equalIn, run_underlying hu]
      | slice _ _ _ _ _ => simp [Op.equalIn, run_underlying hu]
    · rename_i a _ _ _ _; obtain ⟨id, off, sp⟩ := a; obtain ⟨_, _, _, _, _, _, _, _, _, _, _, _, rfl⟩ := hx.slice'; obtain ⟨_, _, rfl⟩ := hy.sliceNone; simp at h; subst h; simp [Op.equalIn, run_underlying hu]
    · have := hx.mapNone; subst this
      rename_i b'
      simp at h
      cases b' with
      | none => have := hy.mapNone; subst this; subst h; simp [Op.equalIn, run_underlying hu]
      | some a => obtain ⟨_, _, rfl⟩ := hy.mapSome; subst h; simp [Op.equalIn, run_underlying hu]
    · obtain ⟨_, _, rfl⟩ := hx.mapSome; have := hy.mapNone; subst this; simp at h; subst h; simp [Op.equalIn, run_underlying hu]
    · have := hx.nilFunc; have := hy.nilFunc; subst_vars; simp at h; subst h; simp [Op.equalIn, run_underlying hu]
    · have := hx.nilFunc; subst this; simp at h; subst h
      cases hy <;> first | (rename_i h; simp [Eng.atom] at h; done) | simp [Op.equalIn, run_underlying hu]
    · have := hy.nilFunc; subst this; simp at h; subst h
      cases hx <;> first | (rename_i h; simp [Eng.atom] at h; done) | simp [Op.equalIn, run_underlying hu]
    · rename_i fields xs ys
      split at h
      · simp at h
      · rename_i hst
        obtain ⟨xs', rfl, hxl⟩ := hx.agg'
        obtain ⟨ys', rfl, hyl⟩ := hy.agg'
        have key : ∀ (l : List Field) (b : Bool), aEqFields P (aEqN P d) xs ys l = some b →
            (forIn (m := Sem) l ((none, ()) : Option Bool × Unit) fun f q => do
              if f.name ≠ "_" then
                if !(← Op.equalIn d f.type (← part f.type xs' f.offset) (← part f.type ys' f.offset)) then pure (ForInStep.done (some false, ())) else pure (ForInStep.yield (none, ()))
              else pure (ForInStep.yield (none, ()))).run P w = .ok (if b then (none, ()) else (some false, ())) w := by
          intro l
          induction l with
          | nil => intro b hb; simp [aEqFields] at hb; subst hb; simp
          | cons f l ihl =>
            intro b hb
            simp only [aEqFields] at hb
            split at hb
            · simp at hb
            · rename_i hnm
              split at hb
              · rename_i a1 a2 hp1 hp2
                obtain ⟨u1, hu1, hv1⟩ := part_sim (w := w) hp1 hxl
                obtain ⟨u2, hu2, hv2⟩ := part_sim (w := w) hp2 hyl
                rw [List.forIn_cons]
                simp only [ne_eq, hnm, not_false_eq_true, if_true, Sem.run_bind, hu1, hu2, Result.andThen_ok]
                split at hb
                · rename_i he
                  simp only [ih _ _ _ _ _ _ he hv1 hv2, Result.andThen_ok, Bool.not_true, Bool.false_eq_true, if_false, Sem.run_pure]
                  exact ihl b hb
                · rename_i he
                  simp at hb; subst hb
                  simp [ih _ _ _ _ _ _ he hv1 hv2]
                · simp at hb
              · simp at hb
        have hk := key fields.toList b h
        simp only [Op.equalIn, Sem.run_bind, run_underlying hu, Result.andThen_ok, run_program, hst, Bool.false_eq_true, if_false]
        rw [← Array.forIn_toList]
        rw [hk]
        cases b <;> simp
    · simp at h

end
end Go.Eng
end

section
/- The machine's operations follow the evaluator's: binary operations, slices, conversions, builtins. -/
set_option linter.unusedVariables false
set_option linter.unusedSimpArgs false
namespace Go.Eng

section
variable {P : Program} {β : Loc} {s : St} {w : World}

theorem eqGuard_ok {op : BinOp} {t : TypeId} {a c : Operand} {u v : Value} (h1 : u ≠ .nilIface) (h2 : ∀ p q, u = .agg p → v = .agg q → False) : (eqGuard op t a c u v).run P w = .ok () w := by
  unfold eqGuard
  cases op <;> simp only [Bool.not_true, Bool.not_false, Bool.false_eq_true, if_true, if_false] <;> first
    | rfl
    | (split
       · exact absurd rfl h1
       · exact (h2 _ _ rfl rfl).elim
       · rfl)
theorem VR.nilIface_r {sz : Nat → Nat} {x : Value} (h : VR β sz x .nilIface) : x = .nilIface := by cases h; rfl
theorem VR.agg_r {sz : Nat → Nat} {x : Value} {p : Array Value} (h : VR β sz x (.agg p)) : ∃ q, x = .agg q := by
  cases h with
  | atom h => simp [Eng.atom] at h
  | agg _ _ => exact ⟨_, rfl⟩

theorem eq_sim {t : TypeId} {x y x' y' : Value} {b : Bool} (h : aEq P t x y = some b) (hx : VR β (szw w) x x') (hy : VR β (szw w) y y') : (Op.equal t x' y').run P w = .ok b w ∧ (∀ op a c, (eqGuard op t a c x' y').run P w = .ok () w) := by
  unfold aEq at h
  split at h
  · split at h
    · simp at h
    · rename_i hg
      refine ⟨eqIn_sim _ _ _ _ _ _ _ h hx hy, ?_⟩
      obtain ⟨_, rfl, _⟩ := hx.agg'
      obtain ⟨_, rfl, _⟩ := hy.agg'
      intro op a c
      cases op <;> simp [eqGuard, hg]
  · simp at h
  · simp at h
  · simp at h
  · rename_i hn2 hn1 hf1 hf2
    refine ⟨eqIn_sim _ _ _ _ _ _ _ h hx hy, ?_⟩
    intro op a c
    refine eqGuard_ok ?_ ?_
    · rintro rfl; first | exact hn1 hx.nilIface_r | exact hn2 hx.nilIface_r | exact hf1 hx.nilIface_r | exact hf2 hx.nilIface_r
    · rintro p q rfl rfl
      obtain ⟨p', rfl⟩ := hx.agg_r
      obtain ⟨q', rfl⟩ := hy.agg_r
      first | exact hn2 _ _ rfl rfl | exact hn1 _ _ rfl rfl | exact hf1 _ _ rfl rfl | exact hf2 _ _ rfl rfl

theorem bin_sim (hr : Rel β s w) {op : BinOp} {t : TypeId} {x y x' y' v : Value} {a c : Operand} (h : aBin P op t x y = some v) (hx : VR β (szw w) x x') (hy : VR β (szw w) y y') :
    OK β s w ((do pure (.value (← (do eqGuard op t a c x' y'; binOp op t x' y'))) : Sem Next).run P w) v s := by
  have hc := h
  unfold aBin at h
  split at h
  · have := hx.int; have := hy.int; subst_vars
    obtain ⟨h1, h2⟩ := bin_int (w := w) hc
    refine OK.pure hr (u := v) ?_ (.atom h2)
    simp [eqGuard_ok (P := P) (w := w) (op := op) (t := t) (a := a) (c := c) (u := .int _ _) (v := .int _ _) (by simp) (by simp), h1]
  · have := hx.string; have := hy.string; subst_vars
    have hg : ∀ (p q : ByteArray), (eqGuard op t a c (.string p) (.string q)).run P w = .ok () w := fun p q => eqGuard_ok (by simp) (by simp)
    split at h
    · split at h
      · simp at h
      · rename_i hb; simp at h; subst h; exact OK.pure hr (by simp only [Sem.run_bind, hg, Result.andThen_ok, binOp, Op.stringOp, hb, if_false, Sem.run_pure]) (.atom rfl)
    all_goals first
      | (simp at h; done)
      | (simp at h; subst h; exact OK.pure hr (by simp [hg, binOp, Op.stringOp]) (.atom rfl))
  · rename_i hn1 hn2
    have hn1' : ∀ k a k' b, x' = .int k a → y' = .int k' b → False := by
      rintro k a k' b rfl rfl
      cases hx; cases hy; exact hn1 _ _ _ _ rfl rfl
    have hn2' : ∀ a b, x' = .string a → y' = .string b → False := by
      rintro a b rfl rfl
      cases hx; cases hy; exact hn2 _ _ rfl rfl
    split at h
    · cases he : aEq P t x y with
      | none => simp [he] at h
      | some b =>
        simp [he] at h
        subst h
        obtain ⟨h1, h2⟩ := eq_sim he hx hy
        refine OK.pure hr (u := .bool b) ?_ (.atom rfl)
        simp only [Sem.run_bind, h2, Result.andThen_ok]
        have : (binOp .eql t x' y').run P w = .ok (.bool b) w := by
          unfold binOp
          split <;> first
            | contradiction
            | (exact (hn1' _ _ _ _ rfl rfl).elim)
            | (exact (hn2' _ _ rfl rfl).elim)
            | (simp [h1]; done)
            | (exfalso; apply ‹BinOp.eql = BinOp.eql → False›; rfl)
            | (exfalso; cases hx; simp [aEq] at he; done)
        simp [this]
    · cases he : aEq P t x y with
      | none => simp [he] at h
      | some b =>
        simp [he] at h
        subst h
        obtain ⟨h1, h2⟩ := eq_sim he hx hy
        refine OK.pure hr (u := .bool (!b)) ?_ (.atom rfl)
        simp only [Sem.run_bind, h2, Result.andThen_ok]
        have : (binOp .neq t x' y').run P w = .ok (.bool (!b)) w := by
          unfold binOp
          split <;> first
            | contradiction
            | (exact (hn1' _ _ _ _ rfl rfl).elim)
            | (exact (hn2' _ _ rfl rfl).elim)
            | (simp [h1]; done)
            | (exfalso; apply ‹BinOp.neq = BinOp.neq → False›; rfl)
            | (exfalso; cases hx; simp [aEq] at he; done)
        simp [this]
    · simp at h

theorem un_sim (hr : Rel β s w) {op : UnOp} {x x' v : Value} (h : aUn op x = some v) (hx : VR β (szw w) x x') : OK β s w ((do pure (.value (← Op.unary op x')) : Sem Next).run P w) v s := by
  unfold aUn at h
  split at h
  · have := hx.bool; subst this; simp at h; subst h; exact OK.pure hr (by simp [Op.unary]) (.atom rfl)
  · have := hx.int; subst this; simp at h; subst h; exact OK.pure hr (u := .int _ _) (by simp [Op.unary, Op.intArith]) (.atom rfl)
  · have := hx.int; subst this; simp at h; subst h; exact OK.pure hr (u := .int _ _) (by simp [Op.unary, Op.intBits]) (.atom rfl)
  · simp at h

/-! ### slices -/
def optR (β : Loc) (sz : Nat → Nat) : Option Value → Option Value → Prop
  | none, none => True
  | some v, some u => VR β sz v u
  | _, _ => False
theorem bounds_sim {n m : Nat} {isSlice : Bool} {low high : Option Value} {low' high' : Option Value} {l h : Nat} (hb : aBounds n low high = some (l, h)) (hnm : n ≤ m) (h1 : optR β (szw w) low low') (h2 : optR β (szw w) high high') :
    (Instr.sliceBounds isSlice n m low' high' none).run P w = .ok (l, h, m) w ∧ l ≤ h ∧ h ≤ n := by
  unfold aBounds at hb
  cases high with
  | none =>
    cases high' with
    | some _ => exact h2.elim
    | none =>
      cases low with
      | none =>
        cases low' with
        | some _ => exact h1.elim
        | none => simp at hb; obtain ⟨rfl, rfl⟩ := hb; simp [Instr.sliceBounds]
      | some lv =>
        cases low' with
        | none => exact h1.elim
        | some lv' =>
          cases lv <;> simp at hb
          rename_i k i
          obtain ⟨⟨ha, hb'⟩, rfl, rfl⟩ := hb
          have := VR.int h1; subst this
          refine ⟨?_, by omega, Nat.le_refl _⟩
          simp [Instr.sliceBounds, Instr.sliceBound, asIntOf, ha, hb']
  | some hv =>
    cases high' with
    | none => exact h2.elim
    | some hv' =>
      cases hv <;> simp at hb
      rename_i k i
      obtain ⟨⟨ha, hb'⟩, hb⟩ := hb
      have := VR.int h2; subst this
      have hm : i ≤ (m : Int) := by omega
      cases low with
      | none =>
        cases low' with
        | some _ => exact h1.elim
        | none =>
          simp at hb; obtain ⟨rfl, rfl⟩ := hb
          refine ⟨?_, by omega, by omega⟩
          simp [Instr.sliceBounds, Instr.sliceBound, asIntOf, ha, hm]
      | some lv =>
        cases low' with
        | none => exact h1.elim
        | some lv' =>
          cases lv <;> simp at hb
          rename_i k' j
          obtain ⟨⟨hc, hd⟩, rfl, rfl⟩ := hb
          have := VR.int h1; subst this
          refine ⟨?_, by omega, by omega⟩
          simp [Instr.sliceBounds, Instr.sliceBound, asIntOf, ha, hm, hc, hd]
end
end Go.Eng
end

section
/- The machine's operations follow the evaluator's: slices, conversions, builtins that only ask. -/
set_option linter.unusedVariables false
set_option linter.unusedSimpArgs false
namespace Go.Eng

section
variable {P : Program} {β : Loc} {s : St} {w : World}

theorem bounds3_sim {n m : Nat} {low high : Option Value} {low' high' : Option Value} {l h : Nat} {k : IntKind} {i : Int} (hb : aBounds n low high = some (l, h)) (hnm : n ≤ m) (h1 : optR β (szw w) low low') (h2 : optR β (szw w) high high') (hi : i = h) (hs : high.isSome = true) :
    (Instr.sliceBounds true n m low' high' (some (.int k i))).run P w = .ok (l, h, h) w ∧ l ≤ h ∧ h ≤ n := by
  unfold aBounds at hb
  cases high with
  | none => simp at hs
  | some hv =>
    cases high' with
    | none => exact h2.elim
    | some hv' =>
      cases hv <;> simp at hb
      rename_i kk ii
      obtain ⟨⟨ha, hb'⟩, hb⟩ := hb
      have := VR.int h2; subst this
      cases low with
      | none =>
        cases low' with
        | some _ => exact h1.elim
        | none =>
          simp at hb; obtain ⟨rfl, rfl⟩ := hb
          have e1 : (0 : Int) ≤ i := by omega
          have e2 : i ≤ (m : Int) := by omega
          have e3 : i.toNat = ii.toNat := by omega
          have e4 : ii ≤ (ii.toNat : Int) := by omega
          refine ⟨?_, by omega, by omega⟩
          simp [Instr.sliceBounds, Instr.sliceBound, asIntOf, ha, e1, e2, e3, e4]
          intro hlt; exact absurd hlt (by omega)
      | some lv =>
        cases low' with
        | none => exact h1.elim
        | some lv' =>
          cases lv <;> simp at hb
          rename_i k' j
          obtain ⟨⟨hc, hd⟩, rfl, rfl⟩ := hb
          have := VR.int h1; subst this
          have e1 : (0 : Int) ≤ i := by omega
          have e2 : i ≤ (m : Int) := by omega
          have e3 : i.toNat = ii.toNat := by omega
          have e4 : ii ≤ (ii.toNat : Int) := by omega
          refine ⟨?_, by omega, by omega⟩
          simp [Instr.sliceBounds, Instr.sliceBound, asIntOf, ha, e1, e2, e3, e4, hc, hd]
          intro hlt; exact absurd hlt (by omega)

theorem slice_sim (hr : Rel β s w) {t : TypeId} {x y v : Value} {low high max low' high' max' : Option Value} (h : aSlice P s t x low high max = some v) (hx : VR β (szw w) x y)
    (h1 : optR β (szw w) low low') (h2 : optR β (szw w) high high') (h3 : optR β (szw w) max max') : OK β s w ((do pure (.value (← Instr.sliceAt t y low' high' max')) : Sem Next).run P w) v s := by
  unfold aSlice at h
  split at h
  · rename_i n el id off hu
    obtain ⟨_, b, base, hb, rfl⟩ := hx.ptr'
    split at h
    · rename_i z l h' c own hz hbd hrow
      split at h
      · rename_i hle
        simp only [Option.some.injEq] at h
        subst h
        cases max' with
        | some _ => exact h3.elim
        | none =>
          obtain ⟨hrun, hl, hh⟩ := bounds_sim (P := P) (isSlice := false) hbd (Nat.le_refl n) h1 h2
          obtain ⟨C, e, fz, g1, g2, _, _⟩ := hr.objs id _ b base (row_obj hrow) hb
          have hszb : szw w b = C.size := by simp [szw, g1]
          have hmul : l * z + (n - l) * z = n * z := by rw [← Nat.add_mul]; congr 1; omega
          refine OK.pure hr (u := .slice (some ⟨b, if n = l then base + off else base + off + l * z, none⟩) (h' - l) (n - l)) ?_ ?_
          · simp only [Instr.sliceAt, Sem.run_bind, run_underlying hu, Result.andThen_ok, Instr.sureAddr, Sem.run_pure, hrun, run_size hz]
            by_cases e : n = l <;> simp [e, addr_add]
          · refine .slice hb ?_ (by omega) ?_ ?_
            · by_cases e : n = l
              · exact .inl (by omega)
              · rw [if_neg e]; exact .inr (by omega)
            · intro hx; by_cases e : h' = n
              · omega
              · rw [if_neg e] at hx; omega
            · have hc2 : (if h' = n then 2 * z else 2 * z + 1) / 2 = z := by split <;> omega
              rw [hc2, hszb]
              refine .inl ⟨⟨rfl, rfl⟩, ?_⟩
              by_cases e : n = l
              · rw [if_pos e, show n - l = 0 by omega]; omega
              · rw [if_neg e]; omega
      · simp at h
    · simp at h
  · rename_i bs hu
    have := hx.string; subst this
    split at h
    · rename_i l h' hbd
      simp only [Option.some.injEq] at h
      subst h
      cases max' with
      | some _ => exact h3.elim
      | none =>
        obtain ⟨hrun, hl, hh⟩ := bounds_sim (P := P) (isSlice := false) hbd (Nat.le_refl _) h1 h2
        refine OK.pure hr (u := .string (bs.extract l h')) ?_ (.atom rfl)
        simp [Instr.sliceAt, run_underlying hu, Instr.slice, hrun]
    · simp at h
  · rename_i el id off n c hu
    obtain ⟨_, b', q, b, base, o, c', hb, ho, hn, hex, hz', rfl⟩ := hx.slice'
    split at h
    · rename_i z l h' hz hbd
      split at h
      · simp at h
      · rename_i hcz
        simp only [ne_eq, Decidable.not_not] at hcz
        rw [hcz] at hz'
        split at h
        · simp only [Option.some.injEq] at h
          subst h
          cases max' with
          | some _ => exact h3.elim
          | none =>
            obtain ⟨hrun, hl, hh⟩ := bounds_sim (P := P) (isSlice := true) hbd hn h1 h2
            have hmul : l * z + (c' - l) * z = c' * z := by rw [← Nat.add_mul]; congr 1; omega
            refine OK.pure hr (u := .slice (some ⟨b', if c' = l then o else o + l * z, q⟩) (h' - l) (c' - l)) ?_ ?_
            · simp only [Instr.sliceAt, Sem.run_bind, run_underlying hu, Result.andThen_ok, Instr.slice, hrun, run_size hz]
              by_cases e : c' = l
              · simp [e]
              · obtain rfl : q = none := by rcases hz' with h0 | h0; (· exact h0.1.2); omega
                simp [e, addr_add]
            · refine .slice hb ?_ (by omega) ?_ ?_
              · by_cases e : c' = l
                · exact .inl (by omega)
                · rw [if_neg e]
                  rcases ho with h0 | h0
                  · exact .inl (by omega)
                  · exact .inr (by omega)
              · intro hx
                by_cases e : c = 2 * z ∧ h' = n
                · have := hex (by omega); omega
                · rw [if_neg e] at hx; omega
              · have hc2 : (if c = 2 * z ∧ h' = n then 2 * z else 2 * z + 1) / 2 = z := by split <;> omega
                rw [hc2]
                by_cases e : c' = l
                · exact .inr (by omega)
                · refine .inl ?_
                  rcases hz' with h0 | h0
                  · exact ⟨h0.1, by rw [if_neg e]; omega⟩
                  · omega
        · rename_i k m
          split at h
          · rename_i hm
            simp only [Option.some.injEq] at h
            subst h
            cases max' with
            | none => exact h3.elim
            | some mv =>
              have := VR.int h3; subst this
              obtain ⟨hrun, hl, hh⟩ := bounds3_sim (P := P) (k := k) (i := m) hbd hn h1 h2 hm.1 hm.2
              have hmul : l * z + (h' - l) * z = h' * z := by rw [← Nat.add_mul]; congr 1; omega
              have hle : h' * z ≤ c' * z := Nat.mul_le_mul_right z (by omega)
              refine OK.pure hr (u := .slice (some ⟨b', if h' = l then o else o + l * z, q⟩) (h' - l) (h' - l)) ?_ ?_
              · simp only [Instr.sliceAt, Sem.run_bind, run_underlying hu, Result.andThen_ok, Instr.slice, hrun, run_size hz]
                by_cases e : h' = l
                · simp [e]
                · obtain rfl : q = none := by rcases hz' with h0 | h0; (· exact h0.1.2); omega
                  simp [e, addr_add]
              · refine .slice hb ?_ (Nat.le_refl _) (fun _ => rfl) ?_
                · by_cases e : h' = l
                  · exact .inl (by omega)
                  · rw [if_neg e]
                    rcases ho with h0 | h0
                    · exact .inl (by omega)
                    · exact .inr (by omega)
                · rw [show 2 * z / 2 = z by omega]
                  by_cases e : h' = l
                  · exact .inr (by omega)
                  · refine .inl ?_
                    rcases hz' with h0 | h0
                    · exact ⟨h0.1, by rw [if_neg e]; omega⟩
                    · omega
          · simp at h
        · simp at h
    · simp at h
  · rename_i el hu
    obtain ⟨_, _, rfl⟩ := hx.sliceNone
    split at h
    · rename_i bd z hbd hz
      obtain ⟨l, h'⟩ := bd
      simp only [Option.some.injEq] at h
      subst h
      cases max' with
      | some _ => exact h3.elim
      | none =>
        obtain ⟨hrun, hl, hh⟩ := bounds_sim (P := P) (isSlice := true) hbd (Nat.le_refl 0) h1 h2
        have e1 : h' = 0 := by omega
        have e2 : l = 0 := by omega
        subst e1; subst e2
        refine OK.pure hr (u := .slice none 0 0) ?_ (.atom rfl)
        simp [Instr.sliceAt, Sem.run_bind, run_underlying hu, Instr.slice, hrun, run_size hz]
    · simp at h
  · simp at h

/-! ### conversions -/
theorem bytes_loop (l : List Value) : ∀ (bs : List UInt8) (acc : ByteArray) (w : World), bytesOfCells l = some bs →
    (forIn (m := Sem) l acc fun c r => match c with
      | .int .u8 n => pure (ForInStep.yield (r.push (UInt8.ofNat n.toNat)))
      | _ => do
        (stuck "bytesToString: byte expected" : Sem Unit)
        pure (ForInStep.yield r)).run P w = .ok ⟨acc.data ++ bs.toArray⟩ w := by
  induction l with
  | nil => intro bs acc w h; simp [bytesOfCells] at h; subst h; simp
  | cons v l ih =>
    intro bs acc w h
    cases v <;> try (simp [bytesOfCells] at h; done)
    rename_i k n
    cases k <;> try (simp [bytesOfCells] at h; done)
    simp only [bytesOfCells] at h
    cases hb : bytesOfCells l with
    | none => simp [hb] at h
    | some bs' =>
      simp [hb] at h
      subst h
      rw [List.forIn_cons]
      simp only [Sem.run_bind, Sem.run_pure, Result.andThen_ok]
      rw [ih bs' _ w hb]
      congr 1
      simp [ByteArray.push]

theorem atomsOf_bytes {l l' : List Value} {bs : List UInt8} (h : bytesOfCells l = some bs) (hv : VL β (szw w) l l') : l' = l := by
  induction l generalizing l' bs with
  | nil => exact List.eq_nil_of_length_eq_zero hv.1.symm
  | cons v l ih =>
    obtain ⟨u, r, rfl, h1, h2⟩ := hv.inv
    cases v <;> try (simp [bytesOfCells] at h; done)
    rename_i k n
    cases k <;> try (simp [bytesOfCells] at h; done)
    simp only [bytesOfCells] at h
    cases hb : bytesOfCells l with
    | none => simp [hb] at h
    | some bs' => rw [h1.int, ih hb h2]

theorem toString_sim (hr : Rel β s w) {id off n : Nat} {c : Nat} {y : Value} {l : List Value} {bs : List UInt8} (hl : s.some? id off n = some l) (hb : bytesOfCells l = some bs) (hx : VR β (szw w) (.slice (some ⟨id, off, none⟩) n c) y) :
    (Conv.bytesToString y).run P w = .ok (.string ⟨bs.toArray⟩) w := by
  obtain ⟨_, b1, q, b, base, o, c', hb', ho, hn, hex, hz', rfl⟩ := hx.slice'
  have ho : n = 0 ∨ ((b1 = b ∧ q = none) ∧ o = base + off) := by rcases ho with h0 | h0; (· exact .inl h0); rcases hz' with h1 | h1; (· exact .inr ⟨h1.1, h0⟩); exact .inl (by omega)
  obtain ⟨l', h1, h2, h3⟩ := cells_sim hr hl hb'
  have := atomsOf_bytes hb h3; subst this
  have hload : (loadCells ⟨b1, o, q⟩ n).run P w = .ok l'.toArray w := by
    rcases ho with h0 | h0
    · subst h0
      have : l' = [] := List.eq_nil_of_length_eq_zero h2
      subst this
      simp [loadCells, loadCellsFrom]
    · obtain ⟨⟨rfl, rfl⟩, rfl⟩ := h0; exact run_loadCells_len h2 h1
  simp only [Conv.bytesToString, Sem.run_bind, hload, Result.andThen_ok]
  have := bytes_loop (P := P) l' bs ByteArray.empty w hb
  rw [← Array.forIn_toList]
  simp only
  refine (congrArg (fun r => Result.andThen r _) this).trans ?_
  simp [ByteArray.empty, ByteArray.emptyWithCapacity]
  rfl

end
end Go.Eng
end

section
/- The machine's operations follow the evaluator's: what makes or turns rows. -/
set_option linter.unusedVariables false
set_option linter.unusedSimpArgs false
namespace Go.Eng

section
variable {P : Program} {β : Loc} {s : St} {w : World}

/-- a new row, of whatever capacity -/
theorem new_sim' (hr : Rel β s w) (t : TypeId) (fz : Nat × Nat) {l : List Value} {c : Array Value} (hl : l.length ≤ c.size) (hf : ∀ j, j < c.size → ¬ (fz.1 ≤ j ∧ j < fz.2)) (h : VL β (szw w) l (c.toList.take l.length)) :
    Step β s w (β.with s.next w.heap.size 0) (s.new (.cells l true)) { w with heap := w.heap.push (.cells c t fz) } ∧ (β.with s.next w.heap.size 0) s.next = some (w.heap.size, 0) := by
  have hb : (β.with s.next w.heap.size 0) s.next = some (w.heap.size, 0) := by unfold Loc.with; rw [if_pos rfl]
  refine ⟨Step.new hr _ _ ?_, hb⟩
  refine ⟨c, t, fz, by simp, by omega, ?_, fun _ j hj => hf j hj⟩
  simp only [List.drop_zero]
  refine h.mono fun id b base e => ?_
  have := hr.dom id b base e
  refine ⟨?_, (szw_push w _ b this.2).symm⟩
  unfold Loc.with; rw [if_neg (by omega)]; exact e

theorem cap_le (need old : Nat) (h : old < need) : Builtin.nextslicecap need old ≤ 2 * need + 400 := by
  unfold Builtin.nextslicecap
  split
  · omega
  · split
    · omega
    · have key : ∀ r c, c < need → Builtin.growBy need r c ≤ 2 * need + 400 := by
        intro r
        induction r with
        | zero => intro c hc; simp [Builtin.growBy]; omega
        | succ r ih =>
          intro c hc
          simp only [Builtin.growBy]
          split
          · omega
          · by_cases h2 : c + (c + 768) / 4 < need
            · exact ih _ h2
            · cases r with
              | zero => simp [Builtin.growBy]; omega
              | succ r => simp only [Builtin.growBy]; rw [if_pos (by omega)]; omega
      exact key 4 old h

theorem cellsOfBytes_take (b : ByteArray) (n : Nat) : ((b.extract 0 n).data.map fun x => Value.int .u8 x.toNat).toList = (cellsOfBytes b).take n := by
  simp [cellsOfBytes, ByteArray.data_extract, List.map_take, Array.toList_extract, List.extract]
theorem atoms_bytes (b : ByteArray) (n : Nat) : ((cellsOfBytes b).take n).all atom = true := by
  rw [List.all_eq_true]
  intro x hx
  have := List.mem_of_mem_take hx
  simp only [cellsOfBytes, List.mem_map] at this
  obtain ⟨y, _, rfl⟩ := this
  rfl

theorem len_sim {y y' : Value} {m : Nat} (h : lenIn y = some m) (hy : VR β (szw w) y y') : (Builtin.lenOf y').run P w = .ok m w := by
  cases y <;> simp [lenIn] at h
  · have := hy.string; subst this; subst h; simp [Builtin.lenOf]
  · subst h
    rename_i a n c
    cases a with
    | none => obtain ⟨rfl, rfl, rfl⟩ := hy.sliceNone; simp [Builtin.lenOf]
    | some a => obtain ⟨id, off, sp⟩ := a; obtain ⟨_, _, _, _, _, _, _, _, _, _, _, _, rfl⟩ := hy.slice'; simp [Builtin.lenOf]

/-- the cells that are appended or copied -/
theorem first_sim (hr : Rel β s w) {z n m : Nat} {y y' : Value} {l : List Value} (h : cellsIn s z n y = some l) (hm : lenIn y = some m) (hn : n ≤ m) (hy : VR β (szw w) y y') :
    ∃ l', (Builtin.firstCells z n y').run P w = .ok l'.toArray w ∧ VL β (szw w) l l' ∧ l.length = n * z := by
  unfold cellsIn at h
  split at h
  · rename_i id1 off1 len1 cap1
    obtain ⟨_, b1, q, b, base, o, c', hb, ho, hn', hx', hz', rfl⟩ := hy.slice'
    obtain ⟨l', h1, h2, h3⟩ := cells_sim hr h hb
    refine ⟨l', ?_, h3, by rw [h3.1, h2]⟩
    simp [lenIn] at hm
    have ho : n = 0 ∨ ((b1 = b ∧ q = none) ∧ o = base + off1) := by rcases ho with h0 | h0; (· exact .inl (by omega)); rcases hz' with h1 | h1; (· exact .inr ⟨h1.1, h0⟩); exact .inl (by omega)
    rcases ho with h0 | h0
    · have : l' = [] := List.eq_nil_of_length_eq_zero (by rw [h2, show n = 0 by omega]; simp)
      subst this
      have : n = 0 := by omega
      subst this
      simp [Builtin.firstCells, loadCells, loadCellsFrom]
    · obtain ⟨⟨rfl, rfl⟩, rfl⟩ := h0
      simp only [Builtin.firstCells]
      exact run_loadCells_len h2 h1
  · obtain ⟨rfl, _, rfl⟩ := hy.sliceNone
    simp at h; subst h
    simp [lenIn] at hm
    refine ⟨[], by simp [Builtin.firstCells], .nil, ?_⟩
    have : n = 0 := by omega
    simp [this]
  · rename_i bs
    split at h
    · rename_i hz
      simp at h; subst h; subst hz
      have := hy.string; subst this
      simp [lenIn] at hm
      refine ⟨(cellsOfBytes bs).take n, ?_, VL.atoms (atoms_bytes _ _), ?_⟩
      · simp only [Builtin.firstCells, Sem.run_pure]
        congr 1
        apply Array.ext'
        rw [cellsOfBytes_take]
      · have hlen : (cellsOfBytes bs).length = bs.size := by simp only [cellsOfBytes, List.length_map]; rfl
        rw [List.length_take, hlen]; omega
    · simp at h
  · simp at h

theorem draw_rel (hr : Rel β s w) (n : Nat) : Rel β s { w with drawn := n } := hr.draw n

theorem toBytes_sim (hr : Rel β s w) {e : TypeId} {b : ByteArray} : ∃ β' w' u, (Conv.stringToBytes e b).run P w = .ok u w' ∧ Step β s w β' (s.new (.cells (cellsOfBytes b) true)) w' ∧ VR β' (szw w') (.slice (some ⟨s.next, 0, none⟩) b.size 3) u := by
  let cap := b.size + w.tape w.drawn (.appendCap b.size 0 e) % (2 ^ 63 - b.size)
  let C : Array Value := (b.data.map fun x => Value.int .u8 x.toNat) ++ Array.replicate (cap - b.size) (.int .u8 0)
  have hcap : b.size ≤ cap := Nat.le_add_right _ _
  have hlen : (cellsOfBytes b).length = b.size := by simp only [cellsOfBytes, List.length_map]; rfl
  have hC : C.size = cap := by
    simp only [C, Array.size_append, Array.size_map, Array.size_replicate]
    show b.size + (cap - b.size) = cap
    omega
  have hd := hr.draw (w.drawn + 1)
  have htake : C.toList.take (cellsOfBytes b).length = cellsOfBytes b := by
    simp only [C, Array.toList_append, Array.toList_map]
    rw [List.take_append_of_le_length (by rw [hlen, List.length_map]; exact Nat.le_refl _)]
    exact List.take_of_length_le (by rw [hlen, List.length_map]; exact Nat.le_refl _)
  obtain ⟨h1, h2⟩ := new_sim' hd e (C.size, C.size + 1) (l := cellsOfBytes b) (c := C) (by rw [hC, hlen]; exact hcap) (fun j hj hh => by simp at hh; omega) (by
    rw [htake]
    exact VL.atoms (by have := atoms_bytes b b.size; rwa [List.take_of_length_le (by rw [hlen]; exact Nat.le_refl _)] at this))
  refine ⟨_, _, .slice (some ⟨w.heap.size, 0, none⟩) b.size cap, ?_, Step.trans hr (Step.draw (w.drawn + 1) hr) h1, ?_⟩
  · simp only [Conv.stringToBytes, Sem.run_bind, run_choose, Question.forced, Bool.false_eq_true, if_false, Result.andThen_ok, newRow, run_newObj, Sem.run_pure, markStringish, run_shape, World.shape?, Array.getElem?_push_size, run_freeze, World.freeze, Question.cut]
    simp only [Nat.succ_ne_zero, if_false, Result.andThen_ok]
    congr 1
    congr 1
    apply Array.ext_getElem?
    intro i
    rw [Array.getElem?_modify]
    by_cases hi : w.heap.size = i
    · subst hi; simp [C, cap]
    · simp only [hi, if_false]
      rw [Array.getElem?_push, Array.getElem?_push, if_neg (fun h => hi h.symm), if_neg (fun h => hi h.symm)]
  · refine .slice h2 (.inr rfl) hcap (by simp) (.inl ⟨⟨rfl, rfl⟩, ?_⟩)
    simp only [szw, Array.getElem?_push_size, hC]
    omega

end
end Go.Eng
end

section
/- The machine's operations follow the evaluator's: append and copy. -/
set_option linter.unusedVariables false
set_option linter.unusedSimpArgs false
namespace Go.Eng

section
variable {P : Program} {β : Loc} {s : St} {w : World}

theorem Step.dead (hr : Rel β s w) {id b base : Nat} {o : AObj} (ho : s.heap.get id = some o) (hm : o.mine = true) (hb : β id = some (b, base)) : Step β s w β (s.put id .dead) w := by
  have hlt := (hr.dom id b base hb).2
  have h := Step.put hr (o' := .dead) (O' := w.heap[b]) (O := w.heap[b]) ho hm hb (by simp) (by rw [setBlock_self w b _ (by simp)]) True.intro
  rwa [setBlock_self w b _ (by simp)] at h

theorem szw_setBlock {b : Nat} {C C' : Array Value} {e : TypeId} {fz : Nat × Nat} (h : w.heap[b]? = some (.cells C e fz)) (hs : C'.size = C.size) : szw (World.setBlock w b (.cells C' e fz)) = szw w := by
  have hlt := (Array.getElem?_eq_some_iff.1 h).1
  funext x
  unfold szw
  rw [setBlock_get _ _ _ _ hlt]
  by_cases e' : x = b
  · subst e'; rw [if_pos rfl, h]; exact hs
  · rw [if_neg e']

/-- a row that grows in place: the old number is dead, a new one has the block -/
theorem Step.takeover (hr : Rel β s w) {id b base o : Nat} {c new : List Value} {C C' : Array Value} {e : TypeId} {fz : Nat × Nat} (ho : s.heap.get id = some (.cells c true)) (hb : β id = some (b, base))
    (hC : w.heap[b]? = some (.cells C e fz)) (hs : C'.size = C.size) (hf : ∀ j, j < C.size → ¬ (fz.1 ≤ j ∧ j < fz.2)) (hle : o + new.length ≤ C.size)
    (hv : VL β (szw w) new ((C'.toList.drop o).take new.length)) :
    Step β s w (β.with s.next b o) ((s.put id .dead).new (.cells new true)) (World.setBlock w b (.cells C' e fz)) := by
  have hlt := (Array.getElem?_eq_some_iff.1 hC).1
  have hid := (hr.dom id b base hb).1
  have hn := hr.none (Nat.le_refl s.next)
  have hsz := szw_setBlock (w := w) hC hs
  have keep : ∀ i x y, β i = some (x, y) → (β.with s.next b o) i = some (x, y) ∧ szw w x = szw (World.setBlock w b (.cells C' e fz)) x := fun i x y h => by
    refine ⟨?_, by rw [hsz]⟩
    have := (hr.dom i x y h).1
    unfold Loc.with; rw [if_neg (by omega)]; exact h
  have old : ∀ i x y, (β.with s.next b o) i = some (x, y) → i ≠ s.next → β i = some (x, y) := fun i x y h hne => by unfold Loc.with at h; rw [if_neg hne] at h; exact h
  have mine : (β.with s.next b o) s.next = some (b, o) := by unfold Loc.with; rw [if_pos rfl]
  have get : ∀ i oi, ((s.put id .dead).new (.cells new true)).heap.get i = some oi → (i = s.next ∧ oi = .cells new true) ∨ (i ≠ s.next ∧ i = id ∧ oi = .dead) ∨ (i ≠ s.next ∧ i ≠ id ∧ s.heap.get i = some oi) := fun i oi h => by
    simp only [St.new, St.put, Heap.get_set] at h
    by_cases h1 : i = s.next
    · rw [if_pos h1] at h; simp at h; exact .inl ⟨h1, h.symm⟩
    · rw [if_neg h1] at h
      by_cases h2 : i = id
      · rw [if_pos h2] at h; simp at h; exact .inr (.inl ⟨h1, h2, h.symm⟩)
      · rw [if_neg h2] at h; exact .inr (.inr ⟨h1, h2, h⟩)
  constructor
  case rel =>
    constructor
    · intro i oi x y hi hx
      rcases get i oi hi with ⟨h1, rfl⟩ | ⟨h1, h2, rfl⟩ | ⟨h1, h2, h3⟩
      · rw [h1, mine] at hx
        simp only [Option.some.injEq, Prod.mk.injEq] at hx
        obtain ⟨rfl, rfl⟩ := hx
        refine ⟨C', e, fz, by rw [setBlock_get _ _ _ _ hlt, if_pos rfl], by omega, ?_, fun _ j hj => hf j (by omega)⟩
        exact hv.mono keep
      · exact True.intro
      · have hx' := old i x y hx h1
        cases hlv : oi.live with
        | false => cases oi <;> first | exact True.intro | (simp [AObj.live] at hlv; done)
        | true =>
          have hne : x ≠ b := fun hxb => by
            subst hxb
            exact h2 (hr.apart id i _ oi x base y ho h3 rfl hlv hb hx').symm
          refine (hr.objs i oi x y h3 hx').mono keep ?_
          rw [setBlock_get _ _ _ _ hlt, if_neg hne]
    · intro i j oi oj x bi bj hi hj hmi hlj hbi hbj
      rcases get i oi hi with ⟨h1, rfl⟩ | ⟨h1, h2, rfl⟩ | ⟨h1, h2, h3⟩
      · rcases get j oj hj with ⟨k1, rfl⟩ | ⟨k1, k2, rfl⟩ | ⟨k1, k2, k3⟩
        · omega
        · simp [AObj.live] at hlj
        · rw [h1, mine] at hbi
          simp only [Option.some.injEq, Prod.mk.injEq] at hbi
          obtain ⟨rfl, rfl⟩ := hbi
          exact absurd (hr.apart id j _ oj _ base bj ho k3 rfl hlj hb (old j _ _ hbj k1)).symm k2
      · simp [AObj.mine] at hmi
      · rcases get j oj hj with ⟨k1, rfl⟩ | ⟨k1, k2, rfl⟩ | ⟨k1, k2, k3⟩
        · rw [k1, mine] at hbj
          simp only [Option.some.injEq, Prod.mk.injEq] at hbj
          obtain ⟨rfl, rfl⟩ := hbj
          exact absurd (hr.apart i id oi _ _ bi base h3 ho hmi rfl (old i _ _ hbi h1) hb) h2
        · simp [AObj.live] at hlj
        · exact hr.apart i j oi oj x bi bj h3 k3 hmi hlj (old i _ _ hbi h1) (old j _ _ hbj k1)
    · intro i x y hx
      show i < s.next + 1 ∧ x < (World.setBlock w b _).heap.size
      simp only [World.setBlock, Array.size_setIfInBounds]
      by_cases h1 : i = s.next
      · rw [h1, mine] at hx; simp at hx; omega
      · have := hr.dom i x y (old i x y hx h1); omega
    · intro i oi hi
      show i < s.next + 1
      rcases get i oi hi with ⟨h1, _⟩ | ⟨_, h2, _⟩ | ⟨_, _, h3⟩
      · omega
      · omega
      · have := hr.nxt i oi h3; omega
  case ext => intro i hi; unfold Loc.with; rw [if_neg (by omega)]
  case next => show s.next ≤ s.next + 1; omega
  case low => show min s.low id ≤ s.low; omega
  case size => simp [World.setBlock]
  case szs => intro x _; rw [hsz]
  case os => rfl
  case tape => rfl
  case output => rfl
  case mono =>
    intro i oi hi hg hm
    rcases get i oi hg with ⟨h1, _⟩ | ⟨_, _, rfl⟩ | ⟨_, _, h3⟩
    · omega
    · simp [AObj.mine] at hm
    · exact ⟨oi, h3, hm⟩
  case frame =>
    intro x hx hyp
    rw [setBlock_get _ _ _ _ hlt]
    by_cases e' : x = b
    · subst e'
      have := hyp id base _ hb ho rfl
      simp [St.new, St.put] at this
      omega
    · rw [if_neg e']
  case fresh =>
    intro i x y hi hx
    by_cases h1 : i = s.next
    · rw [h1, mine] at hx
      simp only [Option.some.injEq, Prod.mk.injEq] at hx
      obtain ⟨rfl, rfl⟩ := hx
      refine .inr ⟨id, _, base, hid, hb, ho, rfl, ?_⟩
      show min s.low id ≤ id
      omega
    · have := (hr.dom i x y (old i x y hx h1)).1; omega
  case same =>
    intro i hi hl
    have hl : i < min s.low id := hl
    simp only [St.new, St.put, Heap.get_set]
    rw [if_neg (by omega), if_neg (by omega)]
  case total =>
    intro i h1 h2
    have h2 : i < s.next + 1 := h2
    have : i = s.next := by omega
    subst this
    exact ⟨_, mine⟩

theorem arr_row (C : Array Value) (o : Nat) (us : List Value) (k n : Nat) (hk : k + us.length ≤ n) : ((setArr C (o + k) us).toList.drop o).take n = setAll ((C.toList.drop o).take n) k us := by
  rw [toList_setArr]
  revert k
  generalize C.toList = L
  induction us generalizing L with
  | nil => intro k _; rfl
  | cons u us ih =>
    intro k hk
    simp only [List.length_cons] at hk
    simp only [setAll]
    rw [show o + k + 1 = o + (k + 1) from rfl, ih _ (k + 1) (by omega)]
    congr 1
    apply List.ext_getElem?
    intro j
    simp only [List.getElem?_take, List.getElem?_drop, List.getElem?_set, List.length_take, List.length_drop]
    by_cases hj : j < n
    · by_cases hkj : k = j
      · subst hkj
        simp only [hj, if_true]
        by_cases hl : o + k < L.length
        · simp [hl]; omega
        · simp [hl]; omega
      · have : ¬ (o + k = o + j) := by omega
        simp [hj, hkj, this]
    · have : ¬ (k = j) := by omega
      simp [hj, this]
theorem setAll_end (us : List Value) : ∀ (l : List Value) (k : Nat), k + us.length = l.length → setAll l k us = l.take k ++ us := by
  induction us with
  | nil => intro l k h; simp [setAll]; simp at h; rw [List.take_of_length_le (by omega)]
  | cons u us ih =>
    intro l k h
    simp only [List.length_cons] at h
    simp only [setAll]
    rw [ih _ (k + 1) (by simp; omega)]
    apply List.ext_getElem?
    intro j
    have hk : k < l.length := by omega
    by_cases hj : j < k
    · rw [List.getElem?_append_left (by simp; omega), List.getElem?_append_left (by simp; omega)]
      have : ¬ (k = j) := by omega
      simp [List.getElem?_take, hj, show j < k + 1 by omega, List.getElem?_set, this]
    · by_cases hj2 : j = k
      · subst hj2
        rw [List.getElem?_append_left (by simp; omega), List.getElem?_append_right (by simp; omega)]
        simp [List.getElem?_take, List.getElem?_set, hk, Nat.min_eq_left (Nat.le_of_lt hk)]
      · rw [List.getElem?_append_right (by simp; omega), List.getElem?_append_right (by simp; omega)]
        simp only [List.length_take, List.length_set, Nat.min_eq_left (show k + 1 ≤ l.length by omega), Nat.min_eq_left (Nat.le_of_lt hk)]
        rw [show j - k = (j - (k + 1)) + 1 by omega]
        simp

/-- what append does where there is room, and where there isn't -/
theorem run_append {ts : Array TypeId} {ty t t2 el : TypeId} {d2 : TypeDesc} {y : Value} {base : Option Addr} {n c z b m : Nat} {zero : Value} (h0 : ts[0]? = some t) (h1 : ts[1]? = some t2) (hu : P.underlying t = some (.slice el)) (hu2 : P.underlying t2 = some d2) (hd : ∀ k, d2 ≠ .int k)
    (hz : sizeT P el = some z) (hb : bytesT P el = some b) (hzero : zeroT P el = some zero) (hb0 : b ≠ 0) (hlen : (Builtin.lenOf y).run P w = .ok m w) (hfit : n + m ≤ c ∨ Builtin.nextslicecap (n + m) c * b ≤ 2 ^ 48) :
    (Builtin.append_ ts ty #[.slice base n c, y]).run P w =
      if n + m ≤ c then
        (Builtin.firstCells z m y).run P w |>.andThen fun new w1 => (match base with | some a => (storeCells (a.add (n * z)) new.toList).run P w1 | none => .ok () w1).andThen fun _ w2 => .ok (.slice base (n + m) c) w2
      else
        (Builtin.firstCells z n (.slice base n c)).run P { w with drawn := w.drawn + 1 } |>.andThen fun old w1 => (Builtin.firstCells z m y).run P w1 |>.andThen fun new w2 =>
          let cap := n + m + w.tape w.drawn (.appendCap (n + m) c el) % (2 ^ 63 - (n + m))
          .ok (.slice (some ⟨w2.heap.size, 0, none⟩) (n + m) cap) { w2 with heap := w2.heap.push (.cells (old ++ new ++ Builtin.zeroCells zero.cells (cap - (n + m))) el) } := by
  obtain ⟨ib, hib', hbb⟩ := info_of_bytes hb
  have hib : ∀ w', (typeInfo el).run P w' = .ok ib w' := fun w' => by simp [typeInfo, hib']
  have hnint : (d2 matches .int _) = false := by cases d2 <;> first | rfl | exact absurd rfl (hd _)
  simp only [Builtin.append_, h0, h1, Sem.run_bind, run_underlying hu, run_underlying hu2, run_size hz, Result.andThen_ok, Sem.run_pure, hlen, List.getElem?_toArray, List.getElem?_cons_zero, List.getElem?_cons_succ]
  cases d2 <;> first
    | exact absurd rfl (hd _)
    | skip
  all_goals
    simp only [Bool.false_eq_true, if_false, hlen, Result.andThen_ok, Sem.run_ite, Sem.run_bind]
    by_cases hc : n + m ≤ c
    · simp only [hc, if_true]
      cases base <;> simp
    · simp only [hc, if_false]
      have hfit' : ¬ (Builtin.nextslicecap (n + m) c * ib.bytes > 2 ^ 48) := by
        rcases hfit with h | h
        · exact absurd h hc
        · rw [hbb]; omega
      rw [hbb] at hfit'
      simp only [hib, Result.andThen_ok, hbb, false_or, hb0, and_false, if_false, Sem.run_pure, hfit', run_choose, Question.forced, Bool.false_eq_true, run_askRoom, Bool.not_false, if_true, run_zero hzero, newRow, Sem.run_bind, run_newObj, Question.cut]
end
end Go.Eng
end

section
/- The machine's operations follow the evaluator's: append and copy, whole; make, composite values. -/
set_option linter.unusedVariables false
set_option linter.unusedSimpArgs false
namespace Go.Eng

section
variable {P : Program} {β : Loc} {s : St} {w : World}

theorem okv {x : Sem Value} {u : Value} {w' : World} (h : x.run P w = .ok u w') : ((do pure (.value (← x)) : Sem Next)).run P w = .ok (.value u) w' := by simp [h]
theorem OK.mk' {r : Result Next} {v u : Value} {s' : St} {β' : Loc} {w' : World} (h : r = .ok (.value u) w') (hs : Step β s w β' s' w') (hv : VR β' (szw w') v u) : OK β s w r v s' := ⟨β', w', u, .inl h, hs, hv⟩

theorem St.some_len {s : St} {id off n : Nat} {l : List Value} (h : s.some? id off n = some l) : l.length = n := by
  unfold St.some? at h
  split at h
  · split at h
    · simp at h; subst h; simp; omega
    · simp at h
  · simp at h

theorem zeroCells_size (z : Array Value) (n : Nat) : (Builtin.zeroCells z n).size = n * z.size := by simp [Builtin.zeroCells]

theorem first_self {β : Loc} {s : St} {w : World} (hr : Rel β s w) {id off n z b base o c' c : Nat} {old : List Value} (hb : β id = some (b, base)) {b1 : Nat} {q : Option Nat} (ho : n = 0 ∨ ((b1 = b ∧ q = none) ∧ o = base + off)) (h : s.some? id off (n * z) = some old) :
    ∃ old', (∀ (W : World), (∀ j v, old'[j]? = some v → W.cell? ((⟨b1, o, q⟩ : Addr).add j) = some v) → (Builtin.firstCells z n (.slice (some ⟨b1, o, q⟩) n c')).run P W = .ok old'.toArray W) ∧ (∀ j v, old'[j]? = some v → w.cell? ((⟨b1, o, q⟩ : Addr).add j) = some v) ∧ VL β (szw w) old old' ∧ old'.length = n * z := by
  obtain ⟨l', h1, h2, h3⟩ := cells_sim hr h hb
  refine ⟨l', ?_, ?_, h3, h2⟩
  · intro W hW
    simp only [Builtin.firstCells]
    exact run_loadCells_len h2 hW
  · rcases ho with h0 | h0
    · intro j v hv
      have : l' = [] := List.eq_nil_of_length_eq_zero (by rw [h2, h0]; simp)
      subst this; simp at hv
    · obtain ⟨⟨rfl, rfl⟩, rfl⟩ := h0; exact h1

theorem cell_drawn (w : World) (n : Nat) (a : Addr) : ({ w with drawn := n } : World).cell? a = w.cell? a := rfl

/-- the part of append that makes a new row -/
theorem grown_sim (hr : Rel β s w) {el : TypeId} {z n m cap : Nat} {old new : List Value} {old' new' : List Value} {zero : Array Value} (ho : VL β (szw w) old old') (hn : VL β (szw w) new new') (lo : old.length = n * z) (ln : new.length = m * z) (hz : zero.size = z) (hcap : n + m ≤ cap) :
    ∃ β', Step β s w β' (s.new (.cells (old ++ new) true)) { w with heap := w.heap.push (.cells (old'.toArray ++ new'.toArray ++ Builtin.zeroCells zero (cap - (n + m))) el) } ∧
      VR β' (szw { w with heap := w.heap.push (.cells (old'.toArray ++ new'.toArray ++ Builtin.zeroCells zero (cap - (n + m))) el) }) (.slice (some ⟨s.next, 0, none⟩) (n + m) (2 * z + 1)) (.slice (some ⟨w.heap.size, 0, none⟩) (n + m) cap) := by
  have hl : (old ++ new).length = (n + m) * z := by simp [lo, ln, Nat.add_mul]
  have hl' : (old' ++ new').length = (n + m) * z := by rw [← hl]; simp [ho.1, hn.1]
  have hsize : (old'.toArray ++ new'.toArray ++ Builtin.zeroCells zero (cap - (n + m))).size = cap * z := by
    have : (old'.toArray ++ new'.toArray).size = (n + m) * z := by rw [← hl']; simp
    rw [Array.size_append, this, zeroCells_size, hz, ← Nat.add_mul]
    congr 1
    omega
  obtain ⟨h1, h2⟩ := new_sim' hr el (0, 0) (l := old ++ new) (c := old'.toArray ++ new'.toArray ++ Builtin.zeroCells zero (cap - (n + m))) (by rw [hl, hsize]; exact Nat.mul_le_mul_right z hcap) (fun j _ hj => by simp at hj) (by
    have e : (old'.toArray ++ new'.toArray ++ Builtin.zeroCells zero (cap - (n + m))).toList.take (old ++ new).length = old' ++ new' := by
      rw [Array.toList_append, List.take_append_of_le_length (by simp [ho.1, hn.1])]
      simp [ho.1, hn.1, List.take_of_length_le]
    rw [e]
    exact ho.append hn)
  refine ⟨_, h1, .slice h2 (.inr rfl) hcap (by omega) (.inl ⟨⟨rfl, rfl⟩, ?_⟩)⟩
  rw [show (2 * z + 1) / 2 = z by omega]
  simp only [szw, Array.getElem?_push_size, hsize]
  omega

theorem append_sim (hP : goodZeros P = true) (hr : Rel β s w) {ts : Array TypeId} {ty t t2 : TypeId} {x y x' y' v : Value} {s' : St} (h0 : ts[0]? = some t) (h1 : ts[1]? = some t2) (h : aAppend P s t t2 x y = some (v, s')) (hx : VR β (szw w) x x') (hy : VR β (szw w) y y') :
    OK β s w ((do pure (.value (← Builtin.append_ ts ty #[x', y'])) : Sem Next).run P w) v s' := by
  unfold aAppend at h
  split at h
  · simp at h
  · rename_i el d2 hd hu hu2
    have hd' : ∀ k, d2 ≠ .int k := fun k e => hd k e
    split at h
    · rename_i z b zero m hz hb hzero hm
      split at h
      · simp at h
      · rename_i hcond
        simp only [not_or, ne_eq, Decidable.not_not] at hcond
        obtain ⟨hz0, hb0, hzs⟩ := hcond
        have hlen := len_sim (P := P) hm hy
        split at h
        · -- nil
          rename_i new hnew
          have := hx.sliceNone; obtain ⟨_, _, rfl⟩ := this
          obtain ⟨new', hf, hv, hl⟩ := first_sim (P := P) hr hnew hm (Nat.le_refl _) hy
          split at h
          · rename_i hm0
            simp only [Option.some.injEq, Prod.mk.injEq] at h
            obtain ⟨rfl, rfl⟩ := h
            subst hm0
            have := run_append (P := P) (w := w) (ty := ty) (base := none) (n := 0) (c := 0) h0 h1 hu hu2 hd' hz hb hzero hb0 hlen (.inl (by omega))
            refine OK.pure hr (u := .slice none 0 0) (okv ?_) (.atom rfl)
            rw [this]; simp [hf]
          · rename_i hm0
            split at h
            · simp at h
            · rename_i hbig
              simp only [Option.some.injEq, Prod.mk.injEq] at h
              obtain ⟨rfl, rfl⟩ := h
              have hfit : Builtin.nextslicecap (0 + m) 0 * b ≤ 2 ^ 48 := Nat.le_trans (Nat.mul_le_mul_right b (cap_le (0 + m) 0 (by omega))) (by simp only [Nat.zero_add]; omega)
              have hrun := run_append (P := P) (w := w) (ty := ty) (base := none) (n := 0) (c := 0) h0 h1 hu hu2 hd' hz hb hzero hb0 hlen (.inr hfit)
              rw [if_neg (by omega)] at hrun
              have hd := hr.draw (w.drawn + 1)
              obtain ⟨new2, hf2, hv2, hl2⟩ := first_sim (P := P) hd hnew hm (Nat.le_refl _) hy
              obtain ⟨β', hst, hvr⟩ := grown_sim hd (el := el) (z := z) (n := 0) (m := m) (cap := 0 + m + w.tape w.drawn (.appendCap (0 + m) 0 el) % (2 ^ 63 - (0 + m))) (old := []) (old' := []) .nil hv2 (by simp) hl2 hzs (Nat.le_add_right _ _)
              simp only [List.nil_append] at hst
              refine OK.mk' (u := .slice (some ⟨w.heap.size, 0, none⟩) (0 + m) (0 + m + w.tape w.drawn (.appendCap (0 + m) 0 el) % (2 ^ 63 - (0 + m)))) (okv (hrun.trans ?_)) (Step.trans hr (Step.draw _ hr) hst) ?_
              · have hfn : ∀ W, (Builtin.firstCells z 0 (.slice none 0 0)).run P W = .ok #[] W := fun _ => rfl
                simp only [hfn, Result.andThen_ok, hf2]
              · have e0 : (.slice (some ⟨s.next, 0, none⟩) m (2 * z + 1) : Value) = .slice (some ⟨s.next, 0, none⟩) (0 + m) (2 * z + 1) := by rw [Nat.zero_add]
                rw [e0]; exact hvr
        · -- a row
          rename_i id off n c new hnew
          obtain ⟨_, b1, q, bb, base, o, c', hbb, ho, hn, hex, hzz, rfl⟩ := hx.slice'
          have ho' : n = 0 ∨ ((b1 = bb ∧ q = none) ∧ o = base + off) := by rcases ho with h0 | h0; (· exact .inl h0); rcases hzz with h1 | h1; (· exact .inr ⟨h1.1, h0⟩); exact .inl (by omega)
          obtain ⟨new', hf, hv, hl⟩ := first_sim (P := P) hr hnew hm (Nat.le_refl _) hy
          have hld : new'.length = m * z := by rw [← hv.1, hl]
          split at h
          · rename_i hm0
            simp only [Option.some.injEq, Prod.mk.injEq] at h
            obtain ⟨rfl, rfl⟩ := h
            subst hm0
            have hrun := run_append (P := P) (w := w) (ty := ty) (base := some ⟨b1, o, q⟩) (n := n) (c := c') h0 h1 hu hu2 hd' hz hb hzero hb0 hlen (.inl (by omega))
            rw [if_pos (by omega)] at hrun
            have : new' = [] := List.eq_nil_of_length_eq_zero (by simp [hld])
            subst this
            refine OK.pure hr (u := .slice (some ⟨b1, o, q⟩) n c') (okv (hrun.trans ?_)) hx
            simp [hf, storeCells]
          · rename_i hm0
            split at h
            · simp at h
            · rename_i hbig
              simp only [not_or, ne_eq, Decidable.not_not] at hbig
              obtain ⟨hbig, hcz⟩ := hbig
              rw [hcz] at hzz
              have hfit : c' < n + m → Builtin.nextslicecap (n + m) c' * b ≤ 2 ^ 48 := fun hlt => Nat.le_trans (Nat.mul_le_mul_right b (cap_le (n + m) c' hlt)) (by omega)
              have hfit' : n + m ≤ c' ∨ Builtin.nextslicecap (n + m) c' * b ≤ 2 ^ 48 := by
                by_cases e : n + m ≤ c'
                · exact .inl e
                · exact .inr (hfit (by omega))
              have hrun := run_append (P := P) (w := w) (ty := ty) (base := some ⟨b1, o, q⟩) (n := n) (c := c') h0 h1 hu hu2 hd' hz hb hzero hb0 hlen hfit'
              split at h
              · simp at h
              · rename_i old hold
                have lold := St.some_len hold
                obtain ⟨old', hfo, hco, hvo, hlo⟩ := first_self (P := P) hr (c := c) (c' := c') hbb ho' hold
                -- the growing way
                have grow : ∀ (s1 : St), Step β s w β s1 w → s1.next = s.next → c' < n + m →
                    ∃ β' w' u, (Builtin.append_ ts ty #[.slice (some ⟨b1, o, q⟩) n c', y']).run P w = .ok u w' ∧ Step β s w β' (s1.new (.cells (old ++ new) true)) w' ∧ VR β' (szw w') (.slice (some ⟨s.next, 0, none⟩) (n + m) (2 * z + 1)) u := by
                  intro s1 hs1 hnx hlt
                  have hd := hs1.rel.draw (w.drawn + 1)
                  have hd0 := hr.draw (w.drawn + 1)
                  obtain ⟨new2, hf2, hv2, hl2⟩ := first_sim (P := P) hd0 hnew hm (Nat.le_refl _) hy
                  obtain ⟨β', hst, hvr⟩ := grown_sim hd (el := el) (z := z) (n := n) (m := m) (cap := n + m + w.tape w.drawn (.appendCap (n + m) c' el) % (2 ^ 63 - (n + m))) hvo hv2 lold hl2 hzs (Nat.le_add_right _ _)
                  refine ⟨β', _, _, ?_, Step.trans hr hs1 (Step.trans hs1.rel (Step.draw (w.drawn + 1) hs1.rel) hst), by rw [hnx] at hvr; exact hvr⟩
                  rw [hrun, if_neg (by omega), hfo { w with drawn := w.drawn + 1 } hco]
                  simp only [Result.andThen_ok, hf2]
                split at h
                · -- its capacity is its length
                  rename_i hc
                  simp only [Option.some.injEq, Prod.mk.injEq] at h
                  obtain ⟨rfl, rfl⟩ := h
                  obtain ⟨β', w', u, g1, g2, g3⟩ := grow s (Step.refl hr) rfl (by have := hex (by omega); omega)
                  exact OK.mk' (okv g1) g2 g3
                · rename_i hc
                  split at h
                  · rename_i cc hrow
                    split at h
                    case isFalse => simp at h
                    rename_i hcell
                    simp only [Option.some.injEq, Prod.mk.injEq] at h
                    obtain ⟨rfl, rfl⟩ := h
                    have hobj := row_obj hrow
                    by_cases hroom : n + m ≤ c'
                    · obtain ⟨rfl, rfl, hzz'⟩ : bb = b1 ∧ q = none ∧ o + c' * z ≤ szw w bb := by rcases hzz with h1 | h1; (· exact ⟨h1.1.1.symm, h1.1.2, h1.2⟩); omega
                      obtain ⟨C, e, fz, g1, g2, g3, g4⟩ := hr.objs id _ _ base hobj hbb
                      have hszC : szw w bb = C.size := by simp [szw, g1]
                      have hmul : (n + m) * z ≤ c' * z := Nat.mul_le_mul_right z hroom
                      rw [Nat.add_mul] at hmul
                      have hone : new'.all (·.oneCell') = true := by
                        rw [List.all_eq_true]
                        intro u hu
                        obtain ⟨i, hi⟩ := List.getElem?_of_mem hu
                        have hlt : i < new.length := by rw [hv.1]; exact (List.getElem?_eq_some_iff.1 hi).1
                        rw [(hv.2 i new[i] u (List.getElem?_eq_getElem hlt) hi).isCell]
                        exact List.all_eq_true.1 hcell _ (List.getElem_mem hlt)
                      have hst := run_storeCells' (P := P) bb (o + n * z) new' 0 w C e fz g1 (by omega) (g4 rfl) hone
                      have htake := Step.takeover hr (o := o) (new := old ++ new) (C' := setArr C (o + n * z) new') hobj hbb g1 (size_setArr _ _ _) (g4 rfl) (by simp [lold, hl]; omega) (by
                        have hcut : (old ++ new).length = n * z + m * z := by simp [lold, hl]
                        rw [hcut, arr_row C o new' (n * z) _ (by omega)]
                        have hcur : (C.toList.drop o).take (n * z) = old' := by
                          apply List.ext_getElem?
                          intro j
                          rw [List.getElem?_take]
                          by_cases hj : j < n * z
                          · rw [if_pos hj, List.getElem?_drop]
                            have hj' : j < old'.length := by omega
                            have := hco j old'[j] (List.getElem?_eq_getElem hj')
                            rw [addr_add] at this
                            simp only [World.cell?, g1, Option.isSome_none, Bool.false_eq_true, if_false] at this
                            rw [Array.getElem?_toList, this, List.getElem?_eq_getElem hj']
                          · rw [if_neg hj, List.getElem?_eq_none (by omega)]
                        rw [setAll_end _ _ _ (by simp; omega), List.take_take, Nat.min_eq_left (by omega), hcur]
                        exact hvo.append hv)
                      refine OK.mk' (u := .slice (some ⟨bb, o, none⟩) (n + m) c') (okv ?_) htake ?_
                      · rw [hrun, if_pos hroom, hf]
                        simp only [Result.andThen_ok, addr_add, hst, Nat.add_zero]
                      · refine .slice (show (β.with s.next bb o) s.next = some (bb, o) from ?_) (.inr rfl) hroom (by omega) (.inl ⟨⟨rfl, rfl⟩, ?_⟩)
                        · unfold Loc.with; rw [if_pos rfl]
                        · rw [szw_setBlock g1 (size_setArr _ _ _), show (2 * z + 1) / 2 = z by omega]; exact hzz'
                    · obtain ⟨β', w', u, g1, g2, g3⟩ := grow (s.put id .dead) (Step.dead hr hobj rfl hbb) rfl (by omega)
                      exact OK.mk' (okv g1) g2 g3
                  · simp at h
        · simp at h
    · simp at h
  · simp at h
end
end Go.Eng
end

section
/- The machine's operations follow the evaluator's: copy, make, composite values, min, max, len, conversions. -/
set_option linter.unusedVariables false
set_option linter.unusedSimpArgs false
namespace Go.Eng

section
variable {P : Program} {β : Loc} {s : St} {w : World}

theorem copy_sim (hr : Rel β s w) {ts : Array TypeId} {ty t : TypeId} {x y x' y' v : Value} {s' : St} (h0 : ts[0]? = some t) (h : aCopy P s t x y = some (v, s')) (hx : VR β (szw w) x x') (hy : VR β (szw w) y y') :
    OK β s w ((do pure (.value (← Builtin.copy_ ts ty #[x', y'])) : Sem Next).run P w) v s' := by
  unfold aCopy at h
  split at h
  · rename_i el a n c m hu hm
    have hlen := len_sim (P := P) hm hy
    split at h
    · rename_i z hz
      split at h
      · rename_i h0'
        simp only [Option.some.injEq, Prod.mk.injEq] at h
        obtain ⟨rfl, rfl⟩ := h
        have hmin : Nat.min m n = 0 := h0'
        refine OK.pure hr (u := .int .i64 0) (okv ?_) (.atom rfl)
        have hfirst : ∃ l', (Builtin.firstCells z 0 y').run P w = .ok l' w ∧ l'.toList = [] := by
          cases y <;> simp [lenIn] at hm
          · have := hy.string; subst this; exact ⟨_, rfl, by simp [ByteArray.data_extract]⟩
          · rename_i a' _ _
            cases a' with
            | none => obtain ⟨_, _, rfl⟩ := hy.sliceNone; exact ⟨#[], rfl, rfl⟩
            | some a' => obtain ⟨_, _, _⟩ := a'; obtain ⟨_, _, _, _, _, _, _, _, _, _, _, _, rfl⟩ := hy.slice'; exact ⟨#[], by simp [Builtin.firstCells, loadCells, loadCellsFrom], rfl⟩
        obtain ⟨l', hf, hl⟩ := hfirst
        cases a with
        | none =>
          obtain ⟨rfl, rfl, rfl⟩ := hx.sliceNone
          simp [Builtin.copy_, h0, run_underlying hu, hlen, run_size hz, hmin, hf, goInt]
        | some a =>
          obtain ⟨_, _, _⟩ := a
          obtain ⟨_, _, _, _, _, _, _, _, _, _, _, _, rfl⟩ := hx.slice'
          simp [Builtin.copy_, h0, run_underlying hu, hlen, run_size hz, hmin, hf, goInt, hl, storeCells]
      · rename_i h0'
        split at h
        · rename_i new id off hnew
          split at h
          · rename_i cc hrow
            split at h
            · rename_i hle
              simp only [Option.some.injEq, Prod.mk.injEq] at h
              obtain ⟨rfl, rfl⟩ := h
              obtain ⟨_, b1, q, b, base, o, c', hb, ho, hn, hex, hzz, rfl⟩ := hx.slice'
              obtain ⟨l', hf, hv, hl⟩ := first_sim (P := P) hr hnew hm (Nat.min_le_left _ _) hy
              have ho' : o = base + off := by rcases ho with h1 | h1; (· omega); exact h1
              obtain ⟨rfl, rfl⟩ : b = b1 ∧ q = none := by rcases hzz with h1 | h1; (· exact ⟨h1.1.1.symm, h1.1.2⟩); omega
              subst ho'
              obtain ⟨w', hst, hstep⟩ := write_sim (P := P) hr hrow hb hle.1 hv hle.2
              refine OK.mk' (u := .int .i64 (min m n : Nat)) (okv ?_) hstep (.atom rfl)
              have hf' : (Builtin.firstCells z (Nat.min m n) y').run P w = .ok l'.toArray w := hf
              simp [Builtin.copy_, h0, run_underlying hu, hlen, run_size hz, hf', hst, goInt]
            · simp at h
          · simp at h
        · simp at h
    · simp at h
  · simp at h

theorem rep_toList (z : Array Value) (k n : Nat) (hz : z.size = k) (hk : k ≠ 0) : ((Array.range (n * k)).map (z[· % z.size]!)).toList = repCells z.toList n := by
  subst hz
  unfold repCells
  simp only [Array.toList_map, Array.toList_range]
  induction n with
  | zero => simp
  | succ n ih =>
    rw [Nat.succ_mul, List.range_add, List.map_append, ih, List.replicate_succ', List.flatten_append]
    congr 1
    simp only [List.flatten_cons, List.flatten_nil, List.append_nil, List.map_map]
    apply List.ext_getElem?
    intro j
    simp only [List.getElem?_map]
    by_cases hj : j < z.size
    · rw [List.getElem?_range hj]
      simp only [Option.map_some, Function.comp_apply, Nat.mul_add_mod_self_right, Nat.mod_eq_of_lt hj, Array.getElem?_toList]
      rw [Array.getElem?_eq_getElem hj, getElem!_pos z j hj]
    · rw [List.getElem?_eq_none (by simp; omega), List.getElem?_eq_none (by simp; omega)]
      rfl
theorem rep_atoms {z : List Value} (h : z.all atom = true) (n : Nat) : (repCells z n).all atom = true := by
  unfold repCells
  rw [List.all_eq_true] at h ⊢
  intro x hx
  rw [List.mem_flatten] at hx
  obtain ⟨l, hl, hx⟩ := hx
  rw [List.mem_replicate] at hl
  exact h x (hl.2 ▸ hx)
theorem rep_length (z : List Value) (n : Nat) : (repCells z n).length = n * z.length := by
  unfold repCells
  induction n with
  | zero => simp
  | succ n ih => rw [List.replicate_succ, List.flatten_cons, List.length_append, ih, Nat.succ_mul]; omega
theorem rep_take (z : List Value) (n m : Nat) (h : n ≤ m) : (repCells z m).take (n * z.length) = repCells z n := by
  unfold repCells
  obtain ⟨k, rfl⟩ : ∃ k, m = n + k := ⟨m - n, by omega⟩
  rw [show List.replicate (n + k) z = List.replicate n z ++ List.replicate k z from by simp, List.flatten_append, List.take_append_of_le_length (by have := rep_length z n; unfold repCells at this; omega)]
  exact List.take_of_length_le (by have := rep_length z n; unfold repCells at this; omega)

theorem make_sim (hP : goodZeros P = true) (hr : Rel β s w) {t : TypeId} {l c l' c' v : Value} {s' : St} (h : aMakeSlice P s t l c = some (v, s')) (hl : VR β (szw w) l l') (hc : VR β (szw w) c c') :
    OK β s w ((do pure (.value (← Instr.makeSlice t l' c')) : Sem Next).run P w) v s' := by
  unfold aMakeSlice at h
  split at h
  · rename_i el l c hu
    have := hl.int; have := hc.int; subst_vars
    split at h
    · rename_i z b zero hz hb hzero
      split at h
      · simp at h
      · rename_i hcond
        simp only [not_or, ne_eq, Decidable.not_not] at hcond
        obtain ⟨hz0, hzs, hb0⟩ := hcond
        split at h
        · rename_i hle
          obtain ⟨h0, hlc, hbc⟩ := hle
          simp only [Option.some.injEq, Prod.mk.injEq] at h
          obtain ⟨rfl, rfl⟩ := h
          obtain ⟨ib, hib, hbb⟩ := run_bytes (w := w) hb
          have hc48 : c ≤ 2 ^ 48 := by
            have : (1 : Int) * c ≤ (b : Int) * c := Int.mul_le_mul_of_nonneg_right (by omega) (by omega)
            omega
          have wl : IntKind.i64.wrap l = l := by simp [IntKind.wrap, IntKind.bits, IntKind.signed]; omega
          have wc : IntKind.i64.wrap c = c := by simp [IntKind.wrap, IntKind.bits, IntKind.signed]; omega
          have hlt : l.toNat ≤ c.toNat := by omega
          let C : Array Value := (Array.range (c.toNat * z)).map (zero.cells[· % zero.cells.size]!)
          have hC : C.toList = repCells zero.cells.toList c.toNat := rep_toList zero.cells z c.toNat hzs hz0
          have hCs : C.size = c.toNat * z := by simp [C]
          have hzl : zero.cells.toList.length = z := by simpa using hzs
          obtain ⟨g1, g2⟩ := new_sim' hr el (0, 0) (l := repCells zero.cells.toList l.toNat) (c := C) (by rw [rep_length, hCs, hzl]; exact Nat.mul_le_mul_right z hlt) (fun j _ hj => by simp at hj) (by
            rw [hC, rep_length, rep_take _ _ _ hlt]
            exact VL.atoms (rep_atoms (zero_atoms hP hzero) _))
          refine OK.mk' (u := .slice (some ⟨w.heap.size, 0, none⟩) l.toNat c.toNat) (okv ?_) g1 ?_
          · have e1 : (decide (c < 0) || decide ((b : Int) * c > 2 ^ 48) || decide (l < 0) || decide (l > c)) = false := by
              simp only [Bool.or_eq_false_iff, decide_eq_false_iff_not]; omega
            have hr0 : ∀ f : Nat → Value, Array.map f (Array.range 0) = #[] := fun f => by simp [Array.range]
            by_cases hn0 : c.toNat * z = 0
            · have hCe : (#[] : Array Value) = C := (Array.eq_empty_of_size_eq_zero (by rw [hCs]; exact hn0)).symm
              simp only [Instr.makeSlice, Sem.run_bind, run_underlying hu, asInt, asIntOf, Sem.run_pure, Result.andThen_ok, hib, wl, wc, hbb, e1, Bool.false_eq_true, if_false, run_askRoom, run_size hz, hn0, newRow, run_newObj, if_true, hr0, hCe]
            · simp only [Instr.makeSlice, Sem.run_bind, run_underlying hu, asInt, asIntOf, Sem.run_pure, Result.andThen_ok, hib, wl, wc, hbb, e1, Bool.false_eq_true, if_false, run_askRoom, run_size hz, hn0, newRow, run_newObj, run_zero hzero]
              rfl
          · refine .slice g2 (.inr rfl) hlt ?_ ?_
            · intro hx; by_cases e : l = c
              · rw [e]
              · rw [if_neg e] at hx; omega
            · have : (if l = c then 2 * z else 2 * z + 1) / 2 = z := by split <;> omega
              rw [this]
              refine .inl ⟨⟨rfl, rfl⟩, ?_⟩
              simp only [szw, Array.getElem?_push_size, hCs]
              omega
        · simp at h
    · simp at h
  · simp at h

/-! ### composite values -/
theorem foldl_setAll (off : Nat) : ∀ (vs : List Value) (k : Nat) (cs : Array Value), ((vs.zipIdx k).foldl (fun cs (c, j) => cs.setIfInBounds (off + j) c) cs).toList = setAll cs.toList (off + k) vs
  | [], k, cs => rfl
  | v :: r, k, cs => by
    simp only [List.zipIdx_cons, List.foldl_cons, setAll]
    rw [foldl_setAll off r (k + 1)]
    simp [Nat.add_assoc]
theorem fill_sim {sz : Nat → Nat} (place : Nat → Option (Nat × Nat)) : ∀ (ps ps' : List (Nat × Value)) (cells r : List Value) (cells' : Array Value), fillL place cells ps = some r → PL β sz ps ps' → VL β sz cells cells'.toList →
    ∃ r' : Array Value, Instr.fill place cells' ps' = some r' ∧ VL β sz r r'.toList
  | [], ps', cells, r, cells', h, hp, hc => by
    have : ps' = [] := by have := hp.1; simp at this; exact this
    subst this
    simp [fillL] at h; subst h
    exact ⟨cells', rfl, hc⟩
  | (i, v) :: ps, ps', cells, r, cells', h, hp, hc => by
    obtain ⟨u, rest, rfl, hv, hrest⟩ := hp.inv
    simp only [fillL] at h
    split at h
    · simp at h
    · rename_i off size hpl
      split at h
      · simp at h
      · rename_i hcond
        simp only [not_or, ne_eq, Decidable.not_not] at hcond
        have hcl := hv.cells
        have hsz : u.cells.size = v.cells.size := by have := hcl.1; simp at this; exact this.symm
        have hlen := hc.1
        simp only [Array.length_toList] at hlen
        obtain ⟨r', h1, h2⟩ := fill_sim place ps rest _ r (u.cells.zipIdx.foldl (fun cs (c, j) => cs.setIfInBounds (off + j) c) cells') h hrest (by
          have e := foldl_setAll off u.cells.toList 0 cells'
          have e2 : (u.cells.zipIdx.foldl (fun cs (c, j) => cs.setIfInBounds (off + j) c) cells').toList = setAll cells'.toList off u.cells.toList := by
            rw [← Array.foldl_toList, Array.toList_zipIdx]; exact e
          rw [e2]
          exact hc.setAll off hcl)
        refine ⟨r', ?_, h2⟩
        simp only [Instr.fill, hpl]
        have hf : (decide (u.cells.size ≠ size) || decide (off + u.cells.size > cells'.size)) = false := by
          simp only [Bool.or_eq_false_iff, decide_eq_false_iff_not, ne_eq, Decidable.not_not]; omega
        simp only [hf, Bool.false_eq_true, if_false]
        exact h1

theorem run_fieldPlaces (fields : List Field) (h : fields.all (fun f => (sizeT P f.type).isSome) = true) :
    (fields.mapM (m := Sem) fun f => do pure (f.offset, ← sizeOf f.type)).run P w = .ok (fields.map fun f => (f.offset, (sizeT P f.type).getD 0)) w := by
  induction fields with
  | nil => simp
  | cons f l ih =>
    simp only [List.all_cons, Bool.and_eq_true] at h
    obtain ⟨n, hn⟩ := Option.isSome_iff_exists.1 h.1
    have := ih h.2
    simp only [List.mapM_cons, Sem.run_bind, run_size hn, Result.andThen_ok, Sem.run_pure, this, List.map_cons, hn, Option.getD_some]

theorem build_sim (hP : goodZeros P = true) (hr : Rel β s w) {t : TypeId} {ps ps' : List (Nat × Value)} {v : Value} (h : aBuild P t ps = some v) (hp : PL β (szw w) ps ps') :
    OK β s w ((do pure (.value (← Instr.build t ps'.toArray)) : Sem Next).run P w) v s := by
  unfold aBuild at h
  split at h
  · rename_i z fields hz hu
    split at h
    · rename_i hall
      cases hf : fillL (fieldPlaces P fields) z.cells.toList ps with
      | none => simp [hf] at h
      | some r =>
        simp [hf] at h
        subst h
        obtain ⟨r', h1, h2⟩ := fill_sim (fieldPlaces P fields) ps ps' _ r z.cells hf hp (VL.atoms (zero_atoms hP hz))
        refine OK.pure hr (u := .agg r') (okv ?_) (by have := VR.aggMk' (x := r.toArray) (x' := r') (by simpa using h2); exact this)
        have hpl : (fun i => ((fields.toList.map fun f => (f.offset, (sizeT P f.type).getD 0)).toArray)[i]?) = fieldPlaces P fields := by
          funext i
          unfold fieldPlaces
          simp only [List.getElem?_toArray, List.getElem?_map, Array.getElem?_toList]
          cases hfi : fields[i]? with
          | none => rfl
          | some f =>
            obtain ⟨n, hn⟩ := Option.isSome_iff_exists.1 (List.all_eq_true.1 hall f (by simpa using Array.mem_of_getElem? hfi))
            simp [hn]
        have hm := run_fieldPlaces (P := P) (w := w) fields.toList hall
        simp only [Instr.build, Sem.run_bind, run_zero hz, run_underlying hu, Result.andThen_ok]
        rw [Array.mapM_eq_mapM_toList]
        simp only [Sem.run_map, hm, Result.andThen_ok, hpl]
        simp [h1]
    · simp at h
  · rename_i z n el hz hu
    split at h
    · rename_i k hk
      cases hf : fillL (fun i => some (i * k, k)) z.cells.toList ps with
      | none => simp [hf] at h
      | some r =>
        simp [hf] at h
        subst h
        obtain ⟨r', h1, h2⟩ := fill_sim (fun i => some (i * k, k)) ps ps' _ r z.cells hf hp (VL.atoms (zero_atoms hP hz))
        refine OK.pure hr (u := .agg r') (okv ?_) (by have := VR.aggMk' (x := r.toArray) (x' := r') (by simpa using h2); exact this)
        simp [Instr.build, run_zero hz, run_underlying hu, run_size hk, h1]
    · simp at h
  · simp at h

theorem buildSlice_sim (hP : goodZeros P = true) (hr : Rel β s w) {t : TypeId} {len : Nat} {ps ps' : List (Nat × Value)} {v : Value} {s' : St} (h : aBuildSlice P s t len ps = some (v, s')) (hp : PL β (szw w) ps ps') :
    OK β s w ((do pure (.value (← Instr.buildSlice t len ps'.toArray)) : Sem Next).run P w) v s' := by
  unfold aBuildSlice at h
  split at h
  · rename_i el hu
    split at h
    · rename_i z zero hz hzero
      split at h
      · simp at h
      · rename_i hcond
        simp only [not_or, ne_eq, Decidable.not_not] at hcond
        obtain ⟨hz0, hzs, hbig⟩ := hcond
        split at h
        · rename_i cells hf
          simp only [Option.some.injEq, Prod.mk.injEq] at h
          obtain ⟨rfl, rfl⟩ := h
          let C : Array Value := (Array.range (len * z)).map (zero.cells[· % zero.cells.size]!)
          have hC : C.toList = repCells zero.cells.toList len := rep_toList zero.cells z len hzs hz0
          obtain ⟨r', h1, h2⟩ := fill_sim (fun i => some (i * z, z)) ps ps' _ cells C hf hp (by rw [hC]; exact VL.atoms (rep_atoms (zero_atoms hP hzero) _))
          have hlen : ∀ (ps : List (Nat × Value)) (c r : List Value), fillL (fun i => some (i * z, z)) c ps = some r → r.length = c.length := by
            intro ps
            induction ps with
            | nil => intro c r h; simp [fillL] at h; rw [h]
            | cons p ps ih =>
              intro c r h
              obtain ⟨i, v⟩ := p
              simp only [fillL] at h
              split at h
              · simp at h
              · rw [ih _ _ h, length_setAll]
          have hl : cells.length = len * z := by rw [hlen _ _ _ hf, rep_length]; simp [hzs]
          obtain ⟨g1, g2⟩ := new_sim hr el h2
          have hr's : r'.size = len * z := by have := h2.1; simp at this; omega
          refine OK.mk' (u := .slice (some ⟨w.heap.size, 0, none⟩) len len) (okv ?_) g1 (.slice g2 (.inr rfl) (Nat.le_refl _) (fun _ => rfl) ?_)
          · by_cases hn0 : len * z = 0
            · have hCe : (Array.range (len * z)).map (fun x => (#[] : Array Value)[x % (#[] : Array Value).size]!) = C := by
                rw [hn0]; apply Array.ext'; simp [C, hn0, Array.range]
              simp only [Instr.buildSlice, Sem.run_bind, run_underlying hu, run_size hz, Result.andThen_ok]
              rw [if_neg hbig]
              simp only [Sem.run_pure, Result.andThen_ok, hn0, if_true]
              rw [hn0] at hCe
              simp only [hCe, h1, newRow, Sem.run_bind, run_newObj, Result.andThen_ok, Sem.run_pure]
            · simp only [Instr.buildSlice, Sem.run_bind, run_underlying hu, run_size hz, Result.andThen_ok]
              rw [if_neg hbig]
              simp only [Sem.run_bind, run_zero hzero, Sem.run_pure, Result.andThen_ok, hn0, if_false]
              have h1' : Instr.fill (fun i => some (i * z, z)) ((Array.range (len * z)).map (zero.cells[· % zero.cells.size]!)) ps' = some r' := h1
              simp only [h1', newRow, Sem.run_bind, run_newObj, Result.andThen_ok, Sem.run_pure]
          · rw [show 2 * z / 2 = z by omega, szw_new, hr's]; exact .inl ⟨⟨rfl, rfl⟩, by omega⟩
        · simp at h
    · simp at h
  · simp at h

/-! ### min, max, len, conversions -/
theorem min_sim : ∀ (l l' : List Value) (x x' r : Value), aMin.go x l = some r → VR β (szw w) x x' → VL β (szw w) l l' → ∃ r', (l'.foldlM Builtin.min2 x').run P w = .ok r' w ∧ VR β (szw w) r r'
  | [], l', x, x', r, h, hx, hl => by
    have : l' = [] := List.eq_nil_of_length_eq_zero hl.1.symm
    subst this
    simp [aMin.go] at h; subst h
    exact ⟨x', rfl, hx⟩
  | y :: l, l', x, x', r, h, hx, hl => by
    obtain ⟨u, rest, rfl, hu, hrest⟩ := hl.inv
    unfold aMin.go at h
    split at h
    · contradiction
    · rename_i heq
      simp only [List.cons.injEq] at heq
      obtain ⟨rfl, rfl⟩ := heq
      have := hx.int; have := hu.int; subst_vars
      obtain ⟨r', h1, h2⟩ := min_sim _ rest _ _ r h (.atom rfl) hrest
      exact ⟨r', by simp only [List.foldlM_cons, Sem.run_bind, Builtin.min2, Sem.run_pure, Result.andThen_ok]; exact h1, h2⟩
    · simp at h
theorem max_sim : ∀ (l l' : List Value) (x x' r : Value), aMax.go x l = some r → VR β (szw w) x x' → VL β (szw w) l l' → ∃ r', (l'.foldlM Builtin.max2 x').run P w = .ok r' w ∧ VR β (szw w) r r'
  | [], l', x, x', r, h, hx, hl => by
    have : l' = [] := List.eq_nil_of_length_eq_zero hl.1.symm
    subst this
    simp [aMax.go] at h; subst h
    exact ⟨x', rfl, hx⟩
  | y :: l, l', x, x', r, h, hx, hl => by
    obtain ⟨u, rest, rfl, hu, hrest⟩ := hl.inv
    unfold aMax.go at h
    split at h
    · contradiction
    · rename_i heq
      simp only [List.cons.injEq] at heq
      obtain ⟨rfl, rfl⟩ := heq
      have := hx.int; have := hu.int; subst_vars
      obtain ⟨r', h1, h2⟩ := max_sim _ rest _ _ r h (.atom rfl) hrest
      exact ⟨r', by simp only [List.foldlM_cons, Sem.run_bind, Builtin.max2, Sem.run_pure, Result.andThen_ok]; exact h1, h2⟩
    · simp at h
theorem len_all_sim (hr : Rel β s w) {ts : Array TypeId} {ty t : TypeId} {as : Array Value} {x x' v : Value} (h0 : ts[0]? = some t) (h1 : as[0]? = some x') (h : aLen P s t x = some v) (hx : VR β (szw w) x x') :
    OK β s w ((do pure (.value (← Builtin.len_ ts ty as)) : Sem Next).run P w) v s := by
  unfold aLen at h
  split at h
  · rename_i b hu; have := hx.string; subst this; simp at h; subst h; exact OK.pure hr (u := .int .i64 _) (okv (by simp [Builtin.len_, h0, h1, run_underlying hu, goInt])) (.atom rfl)
  · rename_i n el hu; simp at h; subst h; exact OK.pure hr (u := .int .i64 _) (okv (by simp [Builtin.len_, h0, h1, run_underlying hu, goInt])) (.atom rfl)
  · rename_i arr hu
    split at h
    · rename_i n el hu2; simp at h; subst h; exact OK.pure hr (u := .int .i64 _) (okv (by simp [Builtin.len_, h0, h1, run_underlying hu, run_underlying hu2, goInt])) (.atom rfl)
    · simp at h
  · rename_i el a n c hu
    simp at h; subst h
    cases a with
    | none => obtain ⟨rfl, rfl, rfl⟩ := hx.sliceNone; exact OK.pure hr (u := .int .i64 _) (okv (by simp [Builtin.len_, h0, h1, run_underlying hu, goInt])) (.atom rfl)
    | some a => obtain ⟨_, _, _⟩ := a; obtain ⟨_, _, _, _, _, _, _, _, _, _, _, _, rfl⟩ := hx.slice'; exact OK.pure hr (u := .int .i64 _) (okv (by simp [Builtin.len_, h0, h1, run_underlying hu, goInt])) (.atom rfl)
  · rename_i k el hu; have := hx.mapNone; subst this; simp at h; subst h; exact OK.pure hr (u := .int .i64 _) (okv (by simp [Builtin.len_, h0, h1, run_underlying hu, goInt])) (.atom rfl)
  · rename_i k el r hu
    obtain ⟨b, hb, rfl⟩ := hx.mapSome
    split at h
    · rename_i es hes
      simp at h; subst h
      obtain ⟨_, E, cl, g1, g2, _⟩ := hr.objs r _ b 0 hes hb
      exact OK.pure hr (u := .int .i64 _) (okv (by simp [Builtin.len_, h0, h1, run_underlying hu, getObj, Sem.run, g1, g2, goInt])) (.atom rfl)
    · simp at h
  · simp at h

theorem convert_sim (hr : Rel β s w) {src dst : TypeId} {x x' v : Value} {s' : St} (h : aConvert P s src dst x = some (v, s')) (hx : VR β (szw w) x x') :
    OK β s w ((do pure (.value (← convert src dst x')) : Sem Next).run P w) v s' := by
  unfold aConvert at h
  split at h
  · rename_i d1 k k' n h1 h2
    have := hx.int; subst this
    simp only [Option.some.injEq, Prod.mk.injEq] at h
    obtain ⟨rfl, rfl⟩ := h
    exact OK.pure hr (u := .int k _) (okv (by simp [convert, run_underlying h1, run_underlying h2, Conv.intToInt])) (.atom rfl)
  · rename_i b h1 h2
    have := hx.string; subst this
    simp only [Option.some.injEq, Prod.mk.injEq] at h
    obtain ⟨rfl, rfl⟩ := h
    exact OK.pure hr (u := .string b) (okv (by simp [convert, run_underlying h1, run_underlying h2])) (.atom rfl)
  · rename_i e b h1 h2
    have := hx.string; subst this
    split at h
    · rename_i h3
      simp only [Option.some.injEq, Prod.mk.injEq] at h
      obtain ⟨rfl, rfl⟩ := h
      obtain ⟨β', w', u, g1, g2, g3⟩ := toBytes_sim (P := P) hr (e := e) (b := b)
      exact OK.mk' (okv (by simp [convert, run_underlying h1, run_underlying h2, run_underlying h3, g1])) g2 g3
    · simp at h
  · rename_i e a n c h1 h2
    split at h
    · rename_i h3
      simp only [Option.some.injEq, Prod.mk.injEq] at h
      obtain ⟨rfl, rfl⟩ := h
      obtain ⟨rfl, rfl, rfl⟩ := hx.sliceNone
      exact OK.pure hr (u := .string .empty) (okv (by simp [convert, run_underlying h1, run_underlying h2, run_underlying h3, Conv.bytesToString])) (.atom rfl)
    · rename_i id off h3
      split at h
      · rename_i l hl
        cases hb : bytesOfCells l with
        | none => simp [hb] at h
        | some bs =>
          simp [hb] at h
          obtain ⟨rfl, rfl⟩ := h
          have := toString_sim (P := P) hr hl hb hx
          obtain ⟨_, _, _, _, _, _, _, _, _, _, _, _, rfl⟩ := hx.slice'
          refine OK.pure hr (u := .string ⟨bs.toArray⟩) (okv ?_) (.atom rfl)
          simp [convert, run_underlying h1, run_underlying h2, run_underlying h3, this]
      · simp at h
    · simp at h
  · simp at h

end
end Go.Eng
end

section
/- The machine follows the evaluator: operations, regions in the text's order, code, functions. -/
set_option linter.unusedVariables false
set_option linter.unusedSimpArgs false
namespace Go.Eng

section
variable {P : Program} {β : Loc} {s : St} {w : World}

theorem opdO_sim {sz : Nat → Nat} {e : Env} {a : Act} (h : ER β sz e a.tmps) {x : Option Operand} {v : Option Value} (hx : opdO e x = some v) : optR β sz v (x.map a.eval) := by
  cases x with
  | none => simp [opdO] at hx; subst hx; trivial
  | some x =>
    simp only [opdO] at hx
    split at hx
    · rename_i u hu; simp at hx; subst hx; exact opd_sim h hu
    · simp at hx

theorem op_sim (hP : goodZeros P = true) (hr : Rel β s w) {o : Oper} {e : Env} {a : Act} (he : ER β (szw w) e a.tmps) {v : Value} {s' : St} (h : evalOp P noCall o e s = some (v, s')) :
    OK β s w ((execOp a.eval o).run P w) v s' := by
  unfold evalOp at h
  unfold execOp
  cases ho : o.op <;> rw [ho] at h <;> simp only at h ⊢
  case move x =>
    cases hx : opd e x with
    | none => simp [hx] at h
    | some u => simp [hx] at h; obtain ⟨rfl, rfl⟩ := h; exact OK.pure hr rfl (opd_sim he hx)
  case assign x =>
    cases hx : opd e x with
    | none => simp [hx] at h
    | some u => simp [hx] at h; obtain ⟨rfl, rfl⟩ := h; exact OK.pure hr rfl (opd_sim he hx)
  case pick c x y =>
    split at h
    · rename_i hc
      have hb := (opd_sim he hc).bool
      cases hx : opd e x with
      | none => simp [hx] at h
      | some u => simp [hx] at h; obtain ⟨rfl, rfl⟩ := h; exact OK.pure hr (by simp [hb, asBool]) (opd_sim he hx)
    · rename_i hc
      have hb := (opd_sim he hc).bool
      cases hx : opd e y with
      | none => simp [hx] at h
      | some u => simp [hx] at h; obtain ⟨rfl, rfl⟩ := h; exact OK.pure hr (by simp [hb, asBool]) (opd_sim he hx)
    · simp at h
  case alloc t =>
    cases hz : zeroT P t with
    | none => simp [hz] at h
    | some z => simp [hz] at h; obtain ⟨rfl, rfl⟩ := h; exact alloc_sim hP hr hz
  case box t x =>
    cases hx : opd e x with
    | none => simp [hx] at h
    | some u => simp [hx] at h; obtain ⟨rfl, rfl⟩ := h; exact box_sim hr t (opd_sim he hx)
  case build t ps =>
    split at h
    · rename_i l hl
      cases hb : aBuild P t l with
      | none => simp [hb] at h
      | some u =>
        simp [hb] at h; obtain ⟨rfl, rfl⟩ := h
        have := build_sim hP hr hb (parts_sim he hl)
        have e : (ps.map fun (i, x) => (i, a.eval x)) = (ps.toList.map fun p => (p.1, a.eval p.2)).toArray := by apply Array.ext'; simp
        rw [e]; exact this
    · simp at h
  case buildSlice t n ps =>
    split at h
    · rename_i l hl
      have := buildSlice_sim hP hr h (parts_sim he hl)
      have e : (ps.map fun (i, x) => (i, a.eval x)) = (ps.toList.map fun p => (p.1, a.eval p.2)).toArray := by apply Array.ext'; simp
      rw [e]; exact this
    · simp at h
  case load t x =>
    split at h
    · rename_i id off hx
      obtain ⟨_, b, base, hb, hu⟩ := (opd_sim he hx).ptr'
      cases hl : aLoad P s t id off with
      | none => simp [hl] at h
      | some u =>
        simp [hl] at h; obtain ⟨rfl, rfl⟩ := h
        obtain ⟨u', h1, h2⟩ := load_sim (P := P) hr hl hb
        exact OK.pure hr (okv (by simp [Instr.loadAt, hu, Instr.sureAddr, h1])) h2
    · simp at h
  case store t x y =>
    split at h
    · rename_i id off u hx hy
      obtain ⟨_, b, base, hb, hu⟩ := (opd_sim he hx).ptr'
      have hv := opd_sim he hy
      cases hs : aStore P s t id off u with
      | none => simp [hs] at h
      | some s1 =>
        simp [hs] at h; obtain ⟨rfl, rfl⟩ := h
        unfold aStore at hs
        split at hs
        · rename_i n c hn hrow
          split at hs
          · rename_i hcond
            simp at hs; subst hs
            have hc := hv.cells
            have hsz : (a.eval y).cells.size = n := by have := hc.1; simp at this; omega
            obtain ⟨w', g1, g2⟩ := write_sim (P := P) (off := off) hr hrow hb (by have := hcond.2.1; have := hcond.1; simp; omega) hc hcond.2.2
            refine ⟨β, w', undef, .inr ⟨?_, rfl⟩, g2, .tuple rfl (by simp)⟩
            simp [Instr.storeAt, hu, Instr.sureAddr, storeVar, run_size hn, hsz, g1]
          · simp at hs
        · simp at hs
    · simp at h
  case nilCheck x =>
    split at h
    · rename_i ad hx
      obtain ⟨id, off, sp⟩ := ad
      have hv := opd_sim he hx
      obtain ⟨_, b, base, hb, hu⟩ := hv.ptr'
      simp at h; obtain ⟨rfl, rfl⟩ := h
      exact OK.pure hr (by rw [hu]; rfl) (by rw [← hu]; exact hv)
    · rename_i f x1 y1 hx
      have hv := opd_sim he hx
      obtain ⟨x', y', hu, _, _⟩ := hv.func'
      simp at h; obtain ⟨rfl, rfl⟩ := h
      exact OK.pure hr (by rw [hu]; rfl) (by rw [← hu]; exact hv)
    · simp at h
  case binOp op t x y yt =>
    split at h
    · rename_i u1 u2 hx hy
      cases hb : aBin P op t u1 u2 with
      | none => simp [hb] at h
      | some u => simp [hb] at h; obtain ⟨rfl, rfl⟩ := h; exact bin_sim hr hb (opd_sim he hx) (opd_sim he hy)
    · simp at h
  case unOp op t x =>
    split at h
    · rename_i u1 hx
      cases hb : aUn op u1 with
      | none => simp [hb] at h
      | some u => simp [hb] at h; obtain ⟨rfl, rfl⟩ := h; exact un_sim hr hb (opd_sim he hx)
    · simp at h
  case convert src dst x =>
    split at h
    · rename_i u1 hx; exact convert_sim hr h (opd_sim he hx)
    · simp at h
  case makeFunc fn first captured =>
    cases fn <;> simp only at h
    case func g =>
      split at h
      · rename_i l1 l2 h1 h2
        simp at h; obtain ⟨rfl, rfl⟩ := h
        have g1 := opds_sim he h1
        have g2 := opds_sim he h2
        refine OK.pure hr (u := .func (.func g) (first.map a.eval) (captured.map a.eval)) (by simp [Instr.makeFunc]) (.func ?_ ?_ ?_ ?_)
        · have := g1.1; simpa using this
        · have := g2.1; simpa using this
        · intro i u u' hu hu'; exact g1.2 i u u' (by simpa using hu) (by simpa using hu')
        · intro i u u' hu hu'; exact g2.2 i u u' (by simpa using hu) (by simpa using hu')
      · simp at h
    all_goals simp at h
  case makeSlice t l c =>
    split at h
    · rename_i u1 u2 h1 h2; exact make_sim hP hr h (opd_sim he h1) (opd_sim he h2)
    · simp at h
  case slice t x lo hi mx =>
    split at h
    · rename_i u l1 h1 m1 hx hl hh hm
      cases hb : aSlice P s t u l1 h1 m1 with
      | none => simp [hb] at h
      | some u => simp [hb] at h; obtain ⟨rfl, rfl⟩ := h; exact slice_sim hr hb (opd_sim he hx) (opdO_sim he hl) (opdO_sim he hh) (opdO_sim he hm)
    · simp at h
  case fieldAddr t x i =>
    split at h
    · rename_i u1 hx
      cases hb : aFieldAddr P t u1 i with
      | none => simp [hb] at h
      | some u => simp [hb] at h; obtain ⟨rfl, rfl⟩ := h; exact fieldAddr_sim hr hb (opd_sim he hx)
    · simp at h
  case field t x i =>
    split at h
    · rename_i u1 hx
      cases hb : aField P t u1 i with
      | none => simp [hb] at h
      | some u => simp [hb] at h; obtain ⟨rfl, rfl⟩ := h; exact field_sim hr hb (opd_sim he hx)
    · simp at h
  case indexAddr t x i =>
    split at h
    · rename_i u1 u2 hx hy
      cases hb : aIndexAddr P t u1 u2 with
      | none => simp [hb] at h
      | some u => simp [hb] at h; obtain ⟨rfl, rfl⟩ := h; exact indexAddr_sim hr hb (opd_sim he hx) (opd_sim he hy)
    · simp at h
  case index t x i =>
    split at h
    · rename_i u1 u2 hx hy
      cases hb : aIndex P t u1 u2 with
      | none => simp [hb] at h
      | some u => simp [hb] at h; obtain ⟨rfl, rfl⟩ := h; exact index_sim hr hb (opd_sim he hx) (opd_sim he hy)
    · simp at h
  case extract x i =>
    split at h
    · rename_i vs hx
      cases hb : vs[i]? with
      | none => simp [hb] at h
      | some u => simp [hb] at h; obtain ⟨rfl, rfl⟩ := h; exact extract_sim hr hb (opd_sim he hx)
    · simp at h
  case call c =>
    split at h
    · split at h
      · simp [noCall] at h
      · simp at h
    · rename_i b hc
      split at h
      · rename_i l hl
        have hv := opds_sim he hl
        have hargs : (c.args.map a.eval).toList = c.args.toList.map a.eval := by simp
        unfold aBuiltin at h
        split at h
        · rename_i t ts x r hts
          cases hb : aLen P s t x with
          | none => simp [hb] at h
          | some u =>
            simp [hb] at h; obtain ⟨rfl, rfl⟩ := h
            obtain ⟨x', r', hx', hxr, _⟩ := hv.inv
            have := len_all_sim (ts := c.argTypes) (ty := o.type) (as := c.args.map a.eval) hr (by rw [← Array.getElem?_toList, hts]; rfl) (by rw [← Array.getElem?_toList, hargs, hx']; rfl) hb hxr
            simpa [resolve, hc, invoke, builtin] using this
        · rename_i t t2 ts x y hts
          obtain ⟨x', r', hx', hxr, hr'⟩ := hv.inv
          obtain ⟨y', r'', hy', hyr, hr''⟩ := hr'.inv
          have hnil : r'' = [] := List.eq_nil_of_length_eq_zero hr''.1.symm
          subst hnil; subst hy'
          have hq : c.args.map a.eval = #[x', y'] := by apply Array.ext'; rw [hargs, hx']
          have := append_sim (ts := c.argTypes) (ty := o.type) hP hr (by rw [← Array.getElem?_toList, hts]; rfl) (by rw [← Array.getElem?_toList, hts]; rfl) h hxr hyr
          simpa [resolve, hc, invoke, builtin, hq] using this
        · rename_i t ts x y hts
          obtain ⟨x', r', hx', hxr, hr'⟩ := hv.inv
          obtain ⟨y', r'', hy', hyr, hr''⟩ := hr'.inv
          have hnil : r'' = [] := List.eq_nil_of_length_eq_zero hr''.1.symm
          subst hnil; subst hy'
          have hq : c.args.map a.eval = #[x', y'] := by apply Array.ext'; rw [hargs, hx']
          have := copy_sim (ts := c.argTypes) (ty := o.type) hr (by rw [← Array.getElem?_toList, hts]; rfl) h hxr hyr
          simpa [resolve, hc, invoke, builtin, hq] using this
        · rename_i l2 _ _ _
          cases hb : aMin l2 with
          | none => simp [hb] at h
          | some u =>
            simp [hb] at h; obtain ⟨rfl, rfl⟩ := h
            cases l2 with
            | nil => simp [aMin] at hb
            | cons x l =>
              obtain ⟨x', r', hx', hxr, hr'⟩ := hv.inv
              obtain ⟨u', g1, g2⟩ := min_sim (P := P) l r' x x' u hb hxr hr'
              refine OK.pure hr (u := u') ?_ g2
              simp [resolve, hc, invoke, builtin, Builtin.min_, hx', g1]
        · rename_i l2 _ _ _
          cases hb : aMax l2 with
          | none => simp [hb] at h
          | some u =>
            simp [hb] at h; obtain ⟨rfl, rfl⟩ := h
            cases l2 with
            | nil => simp [aMax] at hb
            | cons x l =>
              obtain ⟨x', r', hx', hxr, hr'⟩ := hv.inv
              obtain ⟨u', g1, g2⟩ := max_sim (P := P) l r' x x' u hb hxr hr'
              refine OK.pure hr (u := u') ?_ g2
              simp [resolve, hc, invoke, builtin, Builtin.max_, hx', g1]
        · simp at h
      · simp at h
    · simp at h
  all_goals simp at h
end
end Go.Eng
end

