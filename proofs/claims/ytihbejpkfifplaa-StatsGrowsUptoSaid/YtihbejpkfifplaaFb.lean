/- What each operation makes of slots and blocks, and a region's operations, one behind the other. -/
import Derived.Test.YtihbejpkfifplaaFa
set_option linter.unusedVariables false
set_option linter.unusedSimpArgs false
namespace Go.Fw

/-- P: of its operands alone; R: reads blocks; A: makes a block; W: writes into one; X: any other; C: a call of a function. -/
inductive Cls where
  | p | r | a | w | x | c
  deriving DecidableEq

def cls : Op → Cls
  | .load _ _ => .r
  | .lookup _ _ _ _ => .r
  | .box _ _ | .alloc _ | .buildSlice _ _ _ | .makeSlice _ _ _ | .makeMap _ _ => .a
  | .store _ _ _ | .mapUpdate _ _ _ _ | .insert _ _ _ _ => .w
  | .move _ | .assign _ | .pick _ _ _ | .build _ _ | .nilCheck _ | .binOp _ _ _ _ _ | .unOp _ _ _ | .makeInterface _ _ | .makeFunc _ _ _ | .slice _ _ _ _ _
  | .fieldAddr _ _ _ | .field _ _ _ | .indexAddr _ _ _ | .index _ _ _ | .extract _ _ => .p
  | .convert _ _ _ => .p
  | .call c => match c.callee with
    | .builtin .len => .r
    | .builtin .max | .builtin .min => .p
    | .value _ => .c
    | _ => .x
  | _ => .x

def rowAt (rows : List (List D)) (n : Int) : List D := rows.getD n.toNat []
def rowN (rows : List (List D)) (n : Nat) : List D := rows.getD n []
def idxV (z : Nat) (x i : V) : Option (Prop × V) := match i with
  | .d (.lit (.int _ n)) => match x with
    | .d (.sl _ rows) => some (0 ≤ n ∧ n < (rows.length : Int) ∧ (rowAt rows n).length = z, .d (.ip (rowAt rows n) 0))
    | .rs id sz off len => if sz = z then some (0 ≤ n ∧ n < (len : Int), .pt id sz (off + n.toNat) 0) else none
    | _ => none
  | _ => none
/-- bounds of a slice expression: low, high -/
def optInt : Option V → Option (Option Int)
  | none => some none
  | some (.d (.lit (.int _ n))) => some (some n)
  | some _ => none
def cutStr (s : ByteArray) : Option Int → Option Int → Prop × V
  | none, none => (True, .d (.lit (.string (s.extract 0 s.size))))
  | some l, none => (0 ≤ l ∧ l ≤ (s.size : Int), .d (.lit (.string (s.extract l.toNat s.size))))
  | none, some h => (0 ≤ h ∧ h ≤ (s.size : Int), .d (.lit (.string (s.extract 0 h.toNat))))
  | some l, some h => ((0 ≤ l ∧ l ≤ h) ∧ h ≤ (s.size : Int), .d (.lit (.string (s.extract l.toNat h.toNat))))
def cutSl (z : Nat) (nn : Bool) (rows : List (List D)) : Option Int → Option Int → Prop × V
  | none, none => (True, .d (.sl nn rows))
  | some l, none => ((0 ≤ l ∧ l ≤ (rows.length : Int)) ∧ ∀ r ∈ rows, r.length = z, .d (.sl false (rows.drop l.toNat)))
  | none, some h => (0 ≤ h ∧ h ≤ (rows.length : Int), .d (.sl false (rows.take h.toNat)))
  | some l, some h => (((0 ≤ l ∧ l ≤ h) ∧ h ≤ (rows.length : Int)) ∧ ∀ r ∈ rows, r.length = z, .d (.sl false ((rows.take h.toNat).drop l.toNat)))
def cutRs (id sz off len : Nat) : Option Int → Option Int → Prop × V
  | none, none => (True, .rs id sz off len)
  | some l, none => (0 ≤ l ∧ l ≤ (len : Int), if l = (len : Int) then .d (.sl false []) else .rs id sz (off + l.toNat) (len - l.toNat))
  | none, some h => (0 ≤ h ∧ h ≤ (len : Int), if h = 0 then .d (.sl false []) else .rs id sz off h.toNat)
  | some l, some h => ((0 ≤ l ∧ l ≤ h) ∧ h ≤ (len : Int), if l = h then .d (.sl false []) else .rs id sz (off + l.toNat) (h.toNat - l.toNat))
def sliceV (z : Nat) (x : V) (lo hi mx : Option V) : Option (Prop × V) :=
  match optInt lo, optInt hi, mx with
  | some lo, some hi, none => match x with
    | .d (.sl nn rows) => some (cutSl z nn rows lo hi)
    | .rs id sz off len => if sz = z then some (cutRs id sz off len lo hi) else none
    | _ => none
  | _, _, _ => none
def sliceS (x : V) (lo hi mx : Option V) : Option (Prop × V) :=
  match optInt lo, optInt hi, mx with
  | some lo, some hi, none => match x with
    | .d (.lit (.string s)) => some (cutStr s lo hi)
    | _ => none
  | _, _, _ => none
def convV (P : Program) (src dst : TypeId) (x : V) : Option V := match x with
  | .d (.lit (.int _ n)) => match intOf? P src, intOf? P dst with
    | some _, some k => some (.d (.lit (.int k (k.wrap n))))
    | _, _ => none
  | _ => none
def minmax (mx : Bool) : List V → Option V
  | [.d (.lit (.int k a)), .d (.lit (.int k' b))] => if k = k' then some (.d (.lit (.int k (if mx then (if b > a then b else a) else (if b < a then b else a))))) else none
  | _ => none
def partV (agg : Bool) (n off : Nat) (cells : List V) : Option V := if off + n ≤ cells.length then one agg n ((cells.drop off).take n) else none

def opP (P : Program) (op : Op) (ρ : Operand → V) : Option (Prop × V) := match op with
  | .move x | .assign x => some (True, ρ x)
  | .pick c a b => match ρ c with
    | .d (.lit (.bool t)) => some (True, if t then ρ a else ρ b)
    | _ => none
  | .build t parts => match placesT P t, zeroOf P t with
    | some ps, some z => if oneCells z then match fillV (fun i => ps[i]?) (lits z) (parts.toList.map fun (i, x) => (i, ρ x)) with
      | some cs => some (True, mkAg cs)
      | none => none else none
    | _, _ => none
  | .nilCheck x => match ρ x with
    | .pt id sz r c => some (True, .pt id sz r c)
    | .d (.ip r c) => some (True, .d (.ip r c))
    | .fn f capt => some (True, .fn f capt)
    | _ => none
  | .binOp op t x y _ => binV P op t (ρ x) (ρ y)
  | .unOp op _ x => match unV op (ρ x) with | some v => some (True, v) | none => none
  | .makeFunc (.func f) first capt => if first.size = 0 then some (True, .fn f (capt.toList.map ρ)) else none
  | .slice t x lo hi mx => match elemOfT P t with
    | some e => if szOf P e = 0 then none else sliceV (szOf P e) (ρ x) (lo.map ρ) (hi.map ρ) (mx.map ρ)
    | none => if strT P t then sliceS (ρ x) (lo.map ρ) (hi.map ρ) (mx.map ρ) else none
  | .fieldAddr t x f => match fldOf P t f with
    | some (off, ft) => if szOf P ft = 0 then none else match ρ x with
      | .pt id sz r c => some (True, .pt id sz r (c + off))
      | .d (.ip row c) => some (True, .d (.ip row (c + off)))
      | _ => none
    | none => none
  | .field t x f => match fldOf P t f, aggCells (ρ x) with
    | some (off, ft), some cs => match aggOf P ft with
      | some g => if szOf P ft = 0 then none else match partV g (szOf P ft) off cs with | some v => some (True, v) | none => none
      | none => none
    | _, _ => none
  | .indexAddr t x i => match elemOfT P t with
    | some e => if szOf P e = 0 then none else idxV (szOf P e) (ρ x) (ρ i)
    | none => none
  | .index t x i => if strT P t then match ρ x, ρ i with
    | .d (.lit (.string s)), .d (.lit (.int _ n)) => some (0 ≤ n ∧ n < (s.size : Int), .d (.lit (.int .u8 ((s.data.toList.getD n.toNat 0).toNat : Int))))
    | _, _ => none else none
  | .extract t i => match ρ t with
    | .tup vs => match vs[i]? with | some v => some (True, v) | none => none
    | _ => none
  | .convert src dst x => match convV P src dst (ρ x) with | some v => some (True, v) | none => none
  | .call c => match c.callee with
    | .builtin .max => match minmax true (c.args.toList.map ρ) with | some v => some (True, v) | none => none
    | .builtin .min => match minmax false (c.args.toList.map ρ) with | some v => some (True, v) | none => none
    | _ => none
  | _ => none

def loadV (P : Program) (t : TypeId) (cells : List V) (off : Nat) : Option V := match aggOf P t with
  | some true => partV true (szOf P t) off cells
  | some false => cells[off]?
  | none => none
def lenV (P : Program) (t : TypeId) (x : V) : Option Int := match x with
  | .d (.lit (.string b)) => if strT P t then some b.size else none
  | .d (.sl _ rows) => if tkind P t = 1 then some rows.length else none
  | .d (.lit (.slice none 0 _)) => if tkind P t = 1 then some 0 else none
  | .rs _ _ _ len => if tkind P t = 1 then some len else none
  | _ => none
/-! maps -/
def mapT (P : Program) (t : TypeId) : Option (TypeId × TypeId) := match P.underlying t with
  | some (.map k e) => some (k, e)
  | _ => none
def keyD (P : Program) (k : TypeId) : Option TypeDesc := match P.underlying k with
  | some (.int k) => some (.int k)
  | some .string => some .string
  | some .bool => some .bool
  | _ => none
def zeroV (P : Program) (t : TypeId) : Option V := match P.info? t with
  | some i => match i.zero with
    | some (.agg cs) => if oneCells cs.toList then some (mkAg (lits cs.toList)) else none
    | some v => if okLit v then some (.d (.lit v)) else none
    | none => none
  | none => none
/-- a key's place -/
def findK (d : TypeDesc) (k : Value) : List Value → Nat → Option (Option Nat)
  | [], _ => some none
  | e :: es, i => match Instr.sameNow d k e with
    | some true => some (some i)
    | some false => findK d k es (i + 1)
    | none => none
def lookR (ok : Bool) (v : V) (b : Bool) : V := if ok then .tup [v, .bool b] else v
def lookV (P : Program) (t : TypeId) (m k : V) (ok : Bool) (s : Store) : Option (Prop × V) := match mapT P t with
  | some (kt, et) => match keyD P kt, k, zeroV P et with
    | some d, .d (.lit kv), some z => match m with
      | .mp id => match getB s id with
        | some (.mp ks vs) => match findK d kv ks 0 with
          | some (some i) => match vs[i]? with | some v => some (True, lookR ok v true) | none => none
          | some none => some (True, lookR ok z false)
          | none => none
        | _ => none
      | .d (.lit (.map none)) => some (True, lookR ok z false)
      | _ => none
    | _, _, _ => none
  | none => none
def updV (P : Program) (t : TypeId) (m k x : V) (s : Store) : Option (Prop × Store) := match mapT P t with
  | some (kt, et) => match keyD P kt, k, m with
    | some d, .d (.lit kv), .mp id => match getB s id with
      | some (.mp ks vs) => match findK d kv ks 0 with
        | some (some i) => some (True, putB s id (.mp (ks.set i kv) (vs.set i x)))
        | some none => some (True, putB s id (.mp (ks ++ [kv]) (vs ++ [x])))
        | none => none
      | _ => none
    | _, _, _ => none
  | none => none
def opR (P : Program) (op : Op) (ρ : Operand → V) (s : Store) : Option (Prop × V) := match op with
  | .load t x => match ρ x with
    | .pt id sz r c => match getB s id with
      | some (.vals cells) => match loadV P t cells (r * sz + c) with | some v => some (True, v) | none => none
      | some (.data n rows) => match loadV P t ((rowN rows r).map .d) c with | some v => some (r < rows.length ∧ n = sz, v) | none => none
      | _ => none
    | .d (.ip row c) => match loadV P t (row.map .d) c with | some v => some (True, v) | none => none
    | _ => none
  | .call c => match c.args.toList, c.argTypes.toList with
    | [x], [t] => match ρ x with
      | .mp id => match getB s id with
        | some (.mp ks _) => if tkind P t = 3 ∧ ks.length ≤ 9223372036854775807 then some (True, .int ks.length) else none
        | _ => none
      | y => match lenV P t y with | some n => some (True, .int n) | none => none
    | _, _ => none
  | .lookup t m k ok => lookV P t (ρ m) (ρ k) ok s
  | _ => none

/-- a made block, and what leads to it -/
def opA (P : Program) (op : Op) (ρ : Operand → V) (id : Nat) : Option (Prop × V × Blk) := match op with
  | .box _ x => match cellsOfV (ρ x) with
    | some cs => some (True, .pt id 0 0 0, .vals cs)
    | none => none
  | .alloc t => match zeroOf P t with
    | some z => if oneCells z then some (True, .pt id 0 0 0, .vals (lits z)) else none
    | none => none
  | .buildSlice t len parts => match elemOfT P t with
    | some e => match zeroOf P e with
      | some z => if oneCells z ∧ 0 < z.length ∧ len * z.length ≤ 16777216 then
          match fillV (fun i => some (i * z.length, z.length)) (lits ((List.replicate len z).flatten)) (parts.toList.map fun (i, x) => (i, ρ x)) with
          | some cs => match toDs cs with
            | some ds => some (True, .rs id z.length 0 len, .data z.length (chop z.length ds len))
            | none => some (True, .rs id z.length 0 len, .vals cs)
          | none => none else none
      | none => none
    | none => none
  | .makeSlice t l c => match elemOfT P t with
    | some e => match zeroOf P e, ρ l, ρ c with
      | some z, .d (.lit (.int _ n)), .d (.lit (.int _ m)) => if oneCells z ∧ 0 < z.length then
          some ((0 ≤ n ∧ n ≤ m) ∧ (bytesOfT P e : Int) * m ≤ 140737488355328 ∧ m ≤ 9223372036854775807, .rs id z.length 0 n.toNat, .data z.length (List.replicate n.toNat (litsD z))) else none
      | _, _, _ => none
    | none => none
  | .makeMap _ none => some (True, .mp id, .mp [] [])
  | _ => none

def setRow (cells : List D) (off : Nat) (vs : List D) : List D := cells.take off ++ vs ++ cells.drop (off + vs.length)
def opW (P : Program) (op : Op) (ρ : Operand → V) (s : Store) : Option (Prop × Store) := match op with
  | .store t x y => match ρ x, cellsOfV (ρ y) with
    | .pt id sz r c, some vs => if vs.length = szOf P t ∧ 0 < vs.length then match getB s id with
        | some (.vals cells) => if r * sz + c + vs.length ≤ cells.length then some (True, putB s id (.vals (setAt cells (r * sz + c) vs))) else none
        | some (.data n rows) => match toDs vs with
          | some ds => if c + ds.length ≤ n then some (r < rows.length ∧ n = sz, putB s id (.data n (rows.set r (setRow (rowN rows r) c ds)))) else none
          | none => none
        | _ => none else none
    | _, _ => none
  | .mapUpdate t m k x | .insert t m k x => updV P t (ρ m) (ρ k) (ρ x) s
  | _ => none

def newId (dst : Option Nat) : Nat := match dst with | some k => 100 * (k + 1) | none => 99

/-- append: the slice's block is let go, a new one begins -/
def srcRows (sz : Nat) (x : V) (s : Store) : Option (Prop × List (List D)) := match x with
  | .d (.sl _ rows) => some (∀ r ∈ rows, r.length = sz, rows)
  | .d (.lit (.slice none 0 _)) => some (True, [])
  | .rs id n off len => if n = sz then match getB s id with
    | some (.data n' rows) => some (n' = sz ∧ off + len ≤ rows.length, (rows.drop off).take len)
    | _ => none else none
  | _ => none
/-- the slice that is added to: its block, and what it has -/
def baseRows (sz : Nat) (x : V) (s : Store) : Option (Option Nat × Prop × List (List D)) := match x with
  | .d (.lit (.slice none 0 0)) => some (none, True, [])
  | .rs id n 0 len => if n = sz then match getB s id with
    | some (.data n' rows) => some (some id, n' = sz ∧ len ≤ rows.length, rows.take len)
    | _ => none else none
  | _ => none
def hitO (k : Option Nat) (id : Nat) (i : Nat) : Bool := i == id || k == some i
def opAppend (P : Program) (c : Call) (ρ : Operand → V) (s : Store) : Option (Option Nat × Prop × Nat × List (List D)) :=
  match c.args.toList, c.argTypes.toList with
  | [x, y], [t, u] => match elemOfT P t with
    | some e => match zeroOf P e with
      | some z => if oneCells z ∧ 0 < z.length ∧ 0 < bytesOfT P e ∧ tkind P u = 1 then
          match baseRows z.length (ρ x) s, srcRows z.length (ρ y) s with
          | some (k, c1, olds), some (c2, news) => some (k, c1 ∧ c2 ∧ (olds.length + news.length) * bytesOfT P e ≤ 140737488355328, z.length, olds ++ news)
          | _, _ => none else none
      | none => none
    | none => none
  | _, _ => none

/-! append, where cells name blocks -/
def srcV (sz : Nat) (x : V) (s : Store) : Option (Prop × Nat × List V) := match x with
  | .rs id n off len => if n = sz then match getB s id with
    | some (.vals cells) => some (0 < len ∧ off * sz + len * sz ≤ cells.length, len, (cells.drop (off * sz)).take (len * sz))
    | _ => none else none
  | _ => none
def baseV (sz : Nat) (x : V) (s : Store) : Option (Option Nat × Prop × Nat × List V) := match x with
  | .d (.lit (.slice none 0 0)) => some (none, True, 0, [])
  | .rs id n 0 len => if n = sz then match getB s id with
    | some (.vals cells) => some (some id, cells.length = len * sz, len, cells)
    | _ => none else none
  | _ => none
def opAppendV (P : Program) (c : Call) (ρ : Operand → V) (s : Store) : Option (Option Nat × Prop × Nat × Nat × List V) :=
  match c.args.toList, c.argTypes.toList with
  | [x, y], [t, u] => match elemOfT P t with
    | some e => match zeroOf P e with
      | some z => if oneCells z ∧ 0 < z.length ∧ 0 < bytesOfT P e ∧ tkind P u = 1 then
          match baseV z.length (ρ x) s, srcV z.length (ρ y) s with
          | some (k, c1, n, olds), some (c2, n', news) => some (k, c1 ∧ c2 ∧ (n + n') * bytesOfT P e ≤ 140737488355328, z.length, n + n', olds ++ news)
          | _, _ => none else none
      | none => none
    | none => none
  | _, _ => none

structure St where
  e : Env
  s : Store

/-- does an operation of this region stand, as its guard says? its guard's slot, what it is to hold, whether it holds it -/
def guardOf (all : List Oper) (e : Env) : Option (Nat × Bool) → Option (Option (Nat × Bool × Bool))
  | none => some none
  | some (j, want) => match all[j]? with
    | some g => match g.dst with
      | some k => match e.getD k .top with
        | .d (.lit (.bool b)) => some (some (k, want, b))
        | .d (.lit (.tuple _)) => some (some (k, want, !want))
        | _ => none
      | none => none
    | none => none

/-- a call of a function stands here -/
def EvCall (ev : List Oper → Env → Store → (St → Prop) → Prop) (P : Program) (C : FuncId → List V → V → Store → Prop) (o : Oper) (f : V) (args : List V) (os : List Oper) (e : Env) (s : Store) (K : St → Prop) : Prop :=
  match f with
  | .fn g capt => ∃ r τ, C g (args ++ capt) r τ ∧ ev os (put e o.dst r) τ K
  | _ => False
end Go.Fw
