/- Data as it is read, slots and blocks as a walk keeps them, and what an operation makes of them: plain functions; no program in sight. -/
import Derived.Wp
import Derived.Orders
import Derived.WalkKit
import Derived.KernelRfl
set_option linter.unusedVariables false
set_option linter.unusedSimpArgs false
namespace Go.Fw

/-- Data that is only read: a value of one cell that holds no address (lit); a slice, by its elements' cells; a pointer into an element that is only read; a struct, by its cells. -/
inductive D where
  | lit (v : Value)
  | sl (nn : Bool) (rows : List (List D))
  | ip (row : List D) (col : Nat)
  | ag (cells : List D)

/-- What a slot holds. -/
inductive V where
  | top
  | d (x : D)
  | rs (id sz off len : Nat)
  | pt (id sz row col : Nat)
  | mp (id : Nat)
  | fn (f : FuncId) (capt : List V)
  | ag (cells : List V)
  | tup (vs : List V)

inductive Blk where
  | vals (cells : List V)
  | mp (ks : List Value) (vs : List V)
  | data (sz : Nat) (rows : List (List D))

abbrev Env := List V
abbrev Store := List (Nat × Blk)

abbrev D.int (n : Int) : D := .lit (.int .i64 n)
abbrev D.bool (b : Bool) : D := .lit (.bool b)
abbrev D.str (s : ByteArray) : D := .lit (.string s)
abbrev V.int (n : Int) : V := .d (.lit (.int .i64 n))
abbrev V.bool (b : Bool) : V := .d (.lit (.bool b))
abbrev vundef : V := .d (.lit (.tuple #[]))
abbrev vnil : V := .d (.lit (.slice none 0 0))

/-- a number of its kind, a string of a length that there may be -/
def okLit : Value → Bool
  | .int k n => decide (k.min ≤ n) && decide (n ≤ k.max)
  | .string s => decide (s.size ≤ 9223372036854775807)
  | _ => true
def look (e : Env) : Operand → V
  | .tmp t => e.getD t .top
  | .const v => if okLit v then .d (.lit v) else .top
  | .func f => .fn f []
  | .global _ => .top
def put (e : Env) (dst : Option Nat) (v : V) : Env := match dst with | some k => e.set k v | none => e
def getB : Store → Nat → Option Blk
  | [], _ => none
  | (i, b) :: r, k => if i = k then some b else getB r k
def putB : Store → Nat → Blk → Store
  | [], k, b => [(k, b)]
  | (i, c) :: r, k, b => if i = k then (k, b) :: r else if k < i then (k, b) :: (i, c) :: r else (i, c) :: putB r k b

/-! what is forgotten: references to the blocks that some operations are to make anew -/
mutual
def V.fgt (p : Nat → Bool) : V → V
  | .top => .top
  | .d x => .d x
  | .rs id sz off len => if p id then .top else .rs id sz off len
  | .pt id sz row col => if p id then .top else .pt id sz row col
  | .mp id => if p id then .top else .mp id
  | .fn f capt => .fn f (V.fgtL p capt)
  | .ag cells => .ag (V.fgtL p cells)
  | .tup vs => .tup (V.fgtL p vs)
def V.fgtL (p : Nat → Bool) : List V → List V
  | [] => []
  | v :: r => v.fgt p :: V.fgtL p r
end
def Blk.fgt (p : Nat → Bool) : Blk → Blk
  | .vals cells => .vals (V.fgtL p cells)
  | .mp ks vs => .mp ks (V.fgtL p vs)
  | .data sz rows => .data sz rows
def fgtS (p : Nat → Bool) : Store → Store
  | [] => []
  | (i, b) :: r => if p i then fgtS p r else (i, b.fgt p) :: fgtS p r
/-- what the operations in these slots have made before -/
def made (ks : List Nat) (id : Nat) : Bool := ks.contains (id / 100)

/-! values -/
def V.toD : V → Option D
  | .d x => some x
  | _ => none
def toDs : List V → Option (List D)
  | [] => some []
  | .d x :: r => match toDs r with | some l => some (x :: l) | none => none
  | _ :: _ => none
def mkAg (cells : List V) : V := match toDs cells with | some l => .d (.ag l) | none => .ag cells
def cellsOfV : V → Option (List V)
  | .ag cs => some cs
  | .d (.ag cs) => some (cs.map .d)
  | .d (.lit v) => if v.oneCell then some [.d (.lit v)] else none
  | .d (.sl nn rows) => some [.d (.sl nn rows)]
  | .d (.ip row col) => some [.d (.ip row col)]
  | .rs id sz off len => some [.rs id sz off len]
  | .pt id sz row col => some [.pt id sz row col]
  | .mp id => some [.mp id]
  | .fn f capt => some [.fn f capt]
  | _ => none
def aggCells : V → Option (List V)
  | .ag cs => some cs
  | .d (.ag cs) => some (cs.map .d)
  | _ => none
def one (agg : Bool) (n : Nat) (cells : List V) : Option V := if agg then (if cells.length = n then some (mkAg cells) else none) else cells.head?

/-! types, off the program -/
def szOf (P : Program) (t : TypeId) : Nat := match P.info? t with | some i => i.size | none => 0
def aggOf (P : Program) (t : TypeId) : Option Bool := match P.underlying t with
  | some (.struct _) | some (.array _ _) => some true
  | some _ => some false
  | none => none
def fldOf (P : Program) (t : TypeId) (f : Nat) : Option (Nat × TypeId) := match P.underlying t with
  | some (.struct fs) => match fs[f]? with | some x => some (x.offset, x.type) | none => none
  | _ => none
def elemOfT (P : Program) (t : TypeId) : Option TypeId := match P.underlying t with
  | some (.slice e) => some e
  | _ => none
def arrOfT (P : Program) (t : TypeId) : Option (Nat × TypeId) := match P.underlying t with
  | some (.array n e) => some (n, e)
  | _ => none
def zeroOf (P : Program) (t : TypeId) : Option (List Value) := match P.info? t with
  | some i => match i.zero with | some z => if z.cells.size = i.size then some z.cells.toList else none | none => none
  | none => none
/-- the places of a struct's fields: where they begin, how many cells they have -/
def placesT (P : Program) (t : TypeId) : Option (List (Nat × Nat)) := match P.underlying t with
  | some (.struct fs) => fs.toList.mapM (fun f => (P.info? f.type).map fun i => (f.offset, i.size))
  | _ => none
def intOf? (P : Program) (t : TypeId) : Option IntKind := match P.underlying t with
  | some (.int k) => some k
  | _ => none
def strT (P : Program) (t : TypeId) : Bool := match P.underlying t with
  | some .string => true
  | _ => false
def bytesOfT (P : Program) (t : TypeId) : Nat := match P.info? t with | some i => i.bytes | none => 0

def boolT (P : Program) (t : TypeId) : Bool := match P.underlying t with
  | some .bool => true
  | _ => false

/-! operations on numbers, bools, strings -/
def bits2 (f : (k : IntKind) → BitVec k.bits → BitVec k.bits → BitVec k.bits) (k : IntKind) (a b : Int) : Int := k.wrap ((f k (BitVec.ofInt k.bits a) (BitVec.ofInt k.bits b)).toNat : Int)
def binI (op : BinOp) (k : IntKind) (a b : Int) : Option (Prop × Value) := match op with
  | .add => some (True, .int k (k.wrap (a + b)))
  | .sub => some (True, .int k (k.wrap (a - b)))
  | .mul => some (True, .int k (k.wrap (a * b)))
  | .quo => some (b ≠ 0, .int k (k.wrap (a.tdiv b)))
  | .rem => some (b ≠ 0, .int k (a.tmod b))
  | .and => some (True, .int k (bits2 (fun _ x y => x &&& y) k a b))
  | .or => some (True, .int k (bits2 (fun _ x y => x ||| y) k a b))
  | .xor => some (True, .int k (bits2 (fun _ x y => x ^^^ y) k a b))
  | .andNot => some (True, .int k (bits2 (fun _ x y => x &&& ~~~y) k a b))
  | .eql => some (True, .bool (a == b))
  | .neq => some (True, .bool (a != b))
  | .lss => some (True, .bool (decide (a < b)))
  | .leq => some (True, .bool (decide (a ≤ b)))
  | .gtr => some (True, .bool (decide (b < a)))
  | .geq => some (True, .bool (decide (b ≤ a)))
  | _ => none
def binS (op : BinOp) (x y : ByteArray) : Option (Prop × Value) := match op with
  | .add => some (((x.size + y.size : Nat) : Int) ≤ 9223372036854775807, .string (x ++ y))
  | .eql => some (True, .bool (x.toList == y.toList))
  | .neq => some (True, .bool !(x.toList == y.toList))
  | .lss => some (True, .bool (Op.bytesLess x.toList y.toList))
  | .leq => some (True, .bool (Op.bytesLess x.toList y.toList || x.toList == y.toList))
  | .gtr => some (True, .bool !(Op.bytesLess x.toList y.toList || x.toList == y.toList))
  | .geq => some (True, .bool !(Op.bytesLess x.toList y.toList))
  | _ => none
def shiftI (op : BinOp) (k : IntKind) (a b : Int) : Option (Prop × Value) := match op with
  | .shl => some (0 ≤ b, .int k (k.wrap (a * 2 ^ min b.toNat k.bits)))
  | .shr => some (0 ≤ b, .int k (a.fdiv (2 ^ min b.toNat k.bits)))
  | _ => none
/-- a value against nil: is it? -/
def isNil : V → Option (Prop × Bool)
  | .d (.lit (.slice none _ _)) | .d (.lit (.pointer none)) | .d (.lit (.map none)) | .d (.lit .nilFunc) => some (True, true)
  | .d (.sl true _) => some (True, false)
  | .d (.sl false rows) => some (rows ≠ [], false)
  | .d (.ip _ _) | .pt _ _ _ _ | .mp _ | .fn _ _ => some (True, false)
  | .rs _ _ _ len => some (0 < len, false)
  | _ => none
def nilLit : V → Bool
  | .d (.lit (.slice none _ _)) | .d (.lit (.pointer none)) | .d (.lit (.map none)) | .d (.lit .nilFunc) => true
  | _ => false
def vkind : V → Nat
  | .d (.lit (.slice _ _ _)) | .d (.sl _ _) | .rs _ _ _ _ => 1
  | .d (.lit (.pointer _)) | .d (.ip _ _) | .pt _ _ _ _ => 2
  | .d (.lit (.map _)) | .mp _ => 3
  | .d (.lit .nilFunc) | .fn _ _ => 4
  | _ => 0
def tkind (P : Program) (t : TypeId) : Nat := match P.underlying t with
  | some (.slice _) => 1
  | some (.pointer _) => 2
  | some (.map _ _) => 3
  | some (.func _ _ _) => 4
  | _ => 5
def eqNil (op : BinOp) (c : Prop) (b : Bool) : Option (Prop × V) := match op with
  | .eql => some (c, .bool b)
  | .neq => some (c, .bool !b)
  | _ => none
def nilV (P : Program) (op : BinOp) (t : TypeId) (x y : V) : Option (Prop × V) :=
  if vkind x = tkind P t ∧ vkind y = tkind P t then
    if nilLit y then match isNil x with | some (c, b) => eqNil op c b | none => none
    else if nilLit x then match isNil y with | some (c, b) => eqNil op c b | none => none else none
  else none
def binV (P : Program) (op : BinOp) (t : TypeId) (x y : V) : Option (Prop × V) :=
  match x, y with
  | .d (.lit (.int k a)), .d (.lit (.int k' b)) => match op with
    | .shl | .shr => match shiftI op k a b with | some (c, v) => some (c, .d (.lit v)) | none => none
    | _ => if k = k' then match binI op k a b with | some (c, v) => some (c, .d (.lit v)) | none => none else none
  | .d (.lit (.bool a)), .d (.lit (.bool b)) => if boolT P t then match op with
    | .eql => some (True, .bool (a == b))
    | .neq => some (True, .bool !(a == b))
    | _ => none else none
  | .d (.lit (.string a)), .d (.lit (.string b)) => match binS op a b with | some (c, v) => some (c, .d (.lit v)) | none => none
  | x, y => nilV P op t x y
def unV (op : UnOp) (x : V) : Option V := match op, x with
  | .neg, .d (.lit (.int k n)) => some (.d (.lit (.int k (k.wrap (0 - n)))))
  | .not, .d (.lit (.bool b)) => some (.bool !b)
  | _, _ => none

/-! parts of aggregates -/
def setAt (cells : List V) (off : Nat) : List V → List V
  | [] => cells
  | v :: r => setAt (cells.set off v) (off + 1) r
def fillV (place : Nat → Option (Nat × Nat)) (cells : List V) : List (Nat × V) → Option (List V)
  | [] => some cells
  | (i, v) :: r => match place i, cellsOfV v with
    | some (off, n), some cs => if cs.length = n ∧ off + cs.length ≤ cells.length then fillV place (setAt cells off cs) r else none
    | _, _ => none
def lits (l : List Value) : List V := l.map fun v => .d (.lit v)
def litsD (l : List Value) : List D := l.map .lit
def oneCells (l : List Value) : Bool := l.all fun v => v.oneCell && okLit v
/-- a list cut into rows -/
def chop (n : Nat) (l : List D) : Nat → List (List D)
  | 0 => []
  | k + 1 => l.take n :: chop n (l.drop n) k
end Go.Fw
