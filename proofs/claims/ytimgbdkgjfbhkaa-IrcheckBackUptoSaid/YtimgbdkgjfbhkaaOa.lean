/- Texts of this claim, put together: Fa, Fb, Fc, Fd, Fe, Ff, Fg, Fh, Fi, Fj, Fk, Fl, Fm, Fn, Fnv, Fo, Fof, Fp. -/
import Derived.Wp
import Derived.Orders
import Derived.WalkKit
import Derived.KernelRfl
import Derived.Below
import Derived.Laws.Sem
import Derived.Laws.Tables
import Derived.Laws.Cells
import Derived.Laws.Slices
import Derived.Laws.Build
import Derived.Laws.Strings
import Derived.Laws.Strings2
import Derived.Laws.Strings3
import Derived.Laws.Append
set_option linter.unusedVariables false
set_option linter.unusedSimpArgs false
theorem Go.Fw.aI {a b : Prop} (h : a) (k : b) : a ∧ b := ⟨h, k⟩
section
namespace Go.Fw
inductive D where
 | lit (v : Value)
 | sl (nn : Bool) (rows : List (List D))
 | ip (row : List D) (col : Nat)
 | ag (cells : List D)
inductive V where
 | top
 | d (x : D)
 | rs (id sz off len : Nat)
 | pt (id sz row col : Nat)
 | mp (id : Nat)
 | fn (f : FuncId) (capt : List V)
 | ag (cells : List V)
 | tup (vs : List V)
inductive Blk where
 | vals (cells : List V)
 | mp (ks : List Value) (vs : List V)
 | data (sz : Nat) (rows : List (List D))
abbrev Env := List V
abbrev Store := List (Nat × Blk)
abbrev D.int (n : Int) : D := .lit (.int .i64 n)
abbrev D.bool (b : Bool) : D := .lit (.bool b)
abbrev D.str (s : ByteArray) : D := .lit (.string s)
abbrev V.int (n : Int) : V := .d (.lit (.int .i64 n))
abbrev V.bool (b : Bool) : V := .d (.lit (.bool b))
abbrev vundef : V := .d (.lit (.tuple #[]))
abbrev vnil : V := .d (.lit (.slice none 0 0))
def okLit : Value → Bool
 | .int k n => decide (k.min ≤ n) && decide (n ≤ k.max)
 | .string s => decide (s.size ≤ 9223372036854775807)
 | _ => true
def litsD (l : List Value) : List D := l.map .lit
def oneCells (l : List Value) : Bool := l.all fun v => v.oneCell && okLit v
def litV : Value → V
 | .agg cs => if oneCells cs.toList then .d (.ag (litsD cs.toList)) else .d (.lit (.agg cs))
 | v => if okLit v then .d (.lit v) else .top
def look (e : Env) : Operand → V
 | .tmp t => e.getD t .top
 | .const v => litV v
 | .func f => .fn f []
 | .global _ => .top
def put (e : Env) (dst : Option Nat) (v : V) : Env := match dst with | some k => e.set k v | none => e
def getB : Store → Nat → Option Blk
 | [], _ => none
 | (i, b) :: r, k => if i = k then some b else getB r k
def putB : Store → Nat → Blk → Store
 | [], k, b => [(k, b)]
 | (i, c) :: r, k, b => if i = k then (k, b) :: r else if k < i then (k, b) :: (i, c) :: r else (i, c) :: putB r k b
mutual
def V.fgt (p : Nat → Bool) : V → V
 | .top => .top
 | .d x => .d x
 | .rs id sz off len => if p id then .top else .rs id sz off len
 | .pt id sz row col => if p id then .top else .pt id sz row col
 | .mp id => if p id then .top else .mp id
 | .fn f capt => .fn f (V.fgtL p capt)
 | .ag cells => .ag (V.fgtL p cells)
 | .tup vs => .tup (V.fgtL p vs)
def V.fgtL (p : Nat → Bool) : List V → List V
 | [] => []
 | v :: r => v.fgt p :: V.fgtL p r
end
def Blk.fgt (p : Nat → Bool) : Blk → Blk
 | .vals cells => .vals (V.fgtL p cells)
 | .mp ks vs => .mp ks (V.fgtL p vs)
 | .data sz rows => .data sz rows
def fgtS (p : Nat → Bool) : Store → Store
 | [] => []
 | (i, b) :: r => if p i then fgtS p r else (i, b.fgt p) :: fgtS p r
def made (ks : List Nat) (id : Nat) : Bool := ks.contains (id / 100)
def V.toD : V → Option D
 | .d x => some x
 | _ => none
def toDs : List V → Option (List D)
 | [] => some []
 | .d x :: r => match toDs r with | some l => some (x :: l) | none => none
 | _ :: _ => none
def mkAg (cells : List V) : V := match toDs cells with | some l => .d (.ag l) | none => .ag cells
def cellsOfV : V → Option (List V)
 | .ag cs => some cs
 | .d (.ag cs) => some (cs.map .d)
 | .d (.lit v) => if v.oneCell then some [.d (.lit v)] else none
 | .d (.sl nn rows) => some [.d (.sl nn rows)]
 | .d (.ip row col) => some [.d (.ip row col)]
 | .rs id sz off len => some [.rs id sz off len]
 | .pt id sz row col => some [.pt id sz row col]
 | .mp id => some [.mp id]
 | .fn f capt => some [.fn f capt]
 | _ => none
def aggCells : V → Option (List V)
 | .ag cs => some cs
 | .d (.ag cs) => some (cs.map .d)
 | _ => none
def one (agg : Bool) (n : Nat) (cells : List V) : Option V := if agg then (if cells.length = n then some (mkAg cells) else none) else cells.head?
def szOf (P : Program) (t : TypeId) : Nat := match P.info? t with | some i => i.size | none => 0
def aggOf (P : Program) (t : TypeId) : Option Bool := match P.underlying t with
 | some (.struct _) | some (.array _ _) => some true
 | some _ => some false
 | none => none
def fldOf (P : Program) (t : TypeId) (f : Nat) : Option (Nat × TypeId) := match P.underlying t with
 | some (.struct fs) => match fs[f]? with | some x => some (x.offset, x.type) | none => none
 | _ => none
def elemOfT (P : Program) (t : TypeId) : Option TypeId := match P.underlying t with
 | some (.slice e) => some e
 | _ => none
def arrOfT (P : Program) (t : TypeId) : Option (Nat × TypeId) := match P.underlying t with
 | some (.array n e) => some (n, e)
 | _ => none
def zeroOf (P : Program) (t : TypeId) : Option (List Value) := match P.info? t with
 | some i => match i.zero with | some z => if z.cells.size = i.size then some z.cells.toList else none | none => none
 | none => none
def placesT (P : Program) (t : TypeId) : Option (List (Nat × Nat)) := match P.underlying t with
 | some (.struct fs) => fs.toList.mapM (fun f => (P.info? f.type).map fun i => (f.offset, i.size))
 | _ => none
def intOf? (P : Program) (t : TypeId) : Option IntKind := match P.underlying t with
 | some (.int k) => some k
 | _ => none
def strT (P : Program) (t : TypeId) : Bool := match P.underlying t with
 | some .string => true
 | _ => false
def bytesOfT (P : Program) (t : TypeId) : Nat := match P.info? t with | some i => i.bytes | none => 0
def boolT (P : Program) (t : TypeId) : Bool := match P.underlying t with
 | some .bool => true
 | _ => false
def bits2 (f : (k : IntKind) → BitVec k.bits → BitVec k.bits → BitVec k.bits) (k : IntKind) (a b : Int) : Int := k.wrap ((f k (BitVec.ofInt k.bits a) (BitVec.ofInt k.bits b)).toNat : Int)
def binI (op : BinOp) (k : IntKind) (a b : Int) : Option (Prop × Value) := match op with
 | .add => some (True, .int k (k.wrap (a + b)))
 | .sub => some (True, .int k (k.wrap (a - b)))
 | .mul => some (True, .int k (k.wrap (a * b)))
 | .quo => some (b ≠ 0, .int k (k.wrap (a.tdiv b)))
 | .rem => some (b ≠ 0, .int k (a.tmod b))
 | .and => some (True, .int k (bits2 (fun _ x y => x &&& y) k a b))
 | .or => some (True, .int k (bits2 (fun _ x y => x ||| y) k a b))
 | .xor => some (True, .int k (bits2 (fun _ x y => x ^^^ y) k a b))
 | .andNot => some (True, .int k (bits2 (fun _ x y => x &&& ~~~y) k a b))
 | .eql => some (True, .bool (a == b))
 | .neq => some (True, .bool (a != b))
 | .lss => some (True, .bool (decide (a < b)))
 | .leq => some (True, .bool (decide (a ≤ b)))
 | .gtr => some (True, .bool (decide (b < a)))
 | .geq => some (True, .bool (decide (b ≤ a)))
 | _ => none
def binS (op : BinOp) (x y : ByteArray) : Option (Prop × Value) := match op with
 | .add => some (((x.size + y.size : Nat) : Int) ≤ 9223372036854775807, .string (x ++ y))
 | .eql => some (True, .bool (x.toList == y.toList))
 | .neq => some (True, .bool !(x.toList == y.toList))
 | .lss => some (True, .bool (Op.bytesLess x.toList y.toList))
 | .leq => some (True, .bool (Op.bytesLess x.toList y.toList || x.toList == y.toList))
 | .gtr => some (True, .bool !(Op.bytesLess x.toList y.toList || x.toList == y.toList))
 | .geq => some (True, .bool !(Op.bytesLess x.toList y.toList))
 | _ => none
def shiftI (op : BinOp) (k : IntKind) (a b : Int) : Option (Prop × Value) := match op with
 | .shl => some (0 ≤ b, .int k (k.wrap (a * 2 ^ min b.toNat k.bits)))
 | .shr => some (0 ≤ b, .int k (a.fdiv (2 ^ min b.toNat k.bits)))
 | _ => none
def isNil : V → Option (Prop × Bool)
 | .d (.lit (.slice none _ _)) | .d (.lit (.pointer none)) | .d (.lit (.map none)) | .d (.lit .nilFunc) => some (True, true)
 | .d (.sl true _) => some (True, false)
 | .d (.sl false rows) => some (rows ≠ [], false)
 | .d (.ip _ _) | .pt _ _ _ _ | .mp _ | .fn _ _ => some (True, false)
 | .rs _ _ _ len => some (0 < len, false)
 | _ => none
def nilLit : V → Bool
 | .d (.lit (.slice none _ _)) | .d (.lit (.pointer none)) | .d (.lit (.map none)) | .d (.lit .nilFunc) => true
 | _ => false
def vkind : V → Nat
 | .d (.lit (.slice _ _ _)) | .d (.sl _ _) | .rs _ _ _ _ => 1
 | .d (.lit (.pointer _)) | .d (.ip _ _) | .pt _ _ _ _ => 2
 | .d (.lit (.map _)) | .mp _ => 3
 | .d (.lit .nilFunc) | .fn _ _ => 4
 | _ => 0
def tkind (P : Program) (t : TypeId) : Nat := match P.underlying t with
 | some (.slice _) => 1
 | some (.pointer _) => 2
 | some (.map _ _) => 3
 | some (.func _ _ _) => 4
 | _ => 5
def eqNil (op : BinOp) (c : Prop) (b : Bool) : Option (Prop × V) := match op with
 | .eql => some (c, .bool b)
 | .neq => some (c, .bool !b)
 | _ => none
def nilV (P : Program) (op : BinOp) (t : TypeId) (x y : V) : Option (Prop × V) :=
 if vkind x = tkind P t ∧ vkind y = tkind P t then
  if nilLit y then match isNil x with | some (c, b) => eqNil op c b | none => none
  else if nilLit x then match isNil y with | some (c, b) => eqNil op c b | none => none else none
 else none
def binV (P : Program) (op : BinOp) (t : TypeId) (x y : V) : Option (Prop × V) :=
 match x, y with
 | .d (.lit (.int k a)), .d (.lit (.int k' b)) => match op with
   | .shl | .shr => match shiftI op k a b with | some (c, v) => some (c, .d (.lit v)) | none => none
   | _ => if k = k' then match binI op k a b with | some (c, v) => some (c, .d (.lit v)) | none => none else none
 | .d (.lit (.bool a)), .d (.lit (.bool b)) => if boolT P t then match op with
   | .eql => some (True, .bool (a == b))
   | .neq => some (True, .bool !(a == b))
   | _ => none else none
 | .d (.lit (.string a)), .d (.lit (.string b)) => match binS op a b with | some (c, v) => some (c, .d (.lit v)) | none => none
 | x, y => nilV P op t x y
def unV (op : UnOp) (x : V) : Option V := match op, x with
 | .neg, .d (.lit (.int k n)) => some (.d (.lit (.int k (k.wrap (0 - n)))))
 | .not, .d (.lit (.bool b)) => some (.bool !b)
 | _, _ => none
def setAt (cells : List V) (off : Nat) : List V → List V
 | [] => cells
 | v :: r => setAt (cells.set off v) (off + 1) r
def fillV (place : Nat → Option (Nat × Nat)) (cells : List V) : List (Nat × V) → Option (List V)
 | [] => some cells
 | (i, v) :: r => match place i, cellsOfV v with
   | some (off, n), some cs => if cs.length = n ∧ off + cs.length ≤ cells.length then fillV place (setAt cells off cs) r else none
   | _, _ => none
def lits (l : List Value) : List V := l.map fun v => .d (.lit v)
def chop (n : Nat) (l : List D) : Nat → List (List D)
 | 0 => []
 | k + 1 => l.take n :: chop n (l.drop n) k
def buildA (P : Program) (t : TypeId) (parts : List (Nat × V)) : Option V := match arrOfT P t, zeroOf P t with
 | some (_, e), some z => if oneCells z ∧ szOf P e ≠ 0 then (match fillV (fun i => some (i * szOf P e, szOf P e)) (lits z) parts with | some cs => some (mkAg cs) | none => none) else none
 | _, _ => none
end Go.Fw
end
section
namespace Go.Fw
inductive Cls where
 | p | r | a | w | x | c
 deriving DecidableEq
def cls : Op → Cls
 | .load _ _ => .r
 | .lookup _ _ _ _ => .r
 | .box _ _ | .alloc _ | .buildSlice _ _ _ | .makeSlice _ _ _ | .makeMap _ _ => .a
 | .store _ _ _ | .mapUpdate _ _ _ _ | .insert _ _ _ _ => .w
 | .move _ | .assign _ | .pick _ _ _ | .build _ _ | .nilCheck _ | .binOp _ _ _ _ _ | .unOp _ _ _ | .makeInterface _ _ | .makeFunc _ _ _ | .slice _ _ _ _ _
 | .fieldAddr _ _ _ | .field _ _ _ | .indexAddr _ _ _ | .index _ _ _ | .extract _ _ => .p
 | .convert _ _ _ => .p
 | .call c => match c.callee with
   | .builtin .len => .r
   | .builtin .max | .builtin .min => .p
   | .value _ => .c
   | _ => .x
 | _ => .x
def rowAt (rows : List (List D)) (n : Int) : List D := rows.getD n.toNat []
def rowN (rows : List (List D)) (n : Nat) : List D := rows.getD n []
def idxV (z : Nat) (x i : V) : Option (Prop × V) := match i with
 | .d (.lit (.int _ n)) => match x with
   | .d (.sl _ rows) => some (0 ≤ n ∧ n < (rows.length : Int) ∧ (rowAt rows n).length = z, .d (.ip (rowAt rows n) 0))
   | .rs id sz off len => if sz = z then some (0 ≤ n ∧ n < (len : Int), .pt id sz (off + n.toNat) 0) else none
   | _ => none
 | _ => none
def optInt : Option V → Option (Option Int)
 | none => some none
 | some (.d (.lit (.int _ n))) => some (some n)
 | some _ => none
def cutStr (s : ByteArray) : Option Int → Option Int → Prop × V
 | none, none => (True, .d (.lit (.string (s.extract 0 s.size))))
 | some l, none => (0 ≤ l ∧ l ≤ (s.size : Int), .d (.lit (.string (s.extract l.toNat s.size))))
 | none, some h => (0 ≤ h ∧ h ≤ (s.size : Int), .d (.lit (.string (s.extract 0 h.toNat))))
 | some l, some h => ((0 ≤ l ∧ l ≤ h) ∧ h ≤ (s.size : Int), .d (.lit (.string (s.extract l.toNat h.toNat))))
def cutSl (z : Nat) (nn : Bool) (rows : List (List D)) : Option Int → Option Int → Prop × V
 | none, none => (True, .d (.sl nn rows))
 | some l, none => ((0 ≤ l ∧ l ≤ (rows.length : Int)) ∧ ∀ r ∈ rows, r.length = z, .d (.sl false (rows.drop l.toNat)))
 | none, some h => (0 ≤ h ∧ h ≤ (rows.length : Int), .d (.sl false (rows.take h.toNat)))
 | some l, some h => (((0 ≤ l ∧ l ≤ h) ∧ h ≤ (rows.length : Int)) ∧ ∀ r ∈ rows, r.length = z, .d (.sl false ((rows.take h.toNat).drop l.toNat)))
def cutRs (id sz off len : Nat) : Option Int → Option Int → Prop × V
 | none, none => (True, .rs id sz off len)
 | some l, none => (0 ≤ l ∧ l ≤ (len : Int), if l = (len : Int) then .d (.sl false []) else .rs id sz (off + l.toNat) (len - l.toNat))
 | none, some h => (0 ≤ h ∧ h ≤ (len : Int), if h = 0 then .d (.sl false []) else .rs id sz off h.toNat)
 | some l, some h => ((0 ≤ l ∧ l ≤ h) ∧ h ≤ (len : Int), if l = h then .d (.sl false []) else .rs id sz (off + l.toNat) (h.toNat - l.toNat))
def sliceV (z : Nat) (x : V) (lo hi mx : Option V) : Option (Prop × V) :=
 match optInt lo, optInt hi, mx with
 | some lo, some hi, none => match x with
   | .d (.sl nn rows) => some (cutSl z nn rows lo hi)
   | .rs id sz off len => if sz = z then some (cutRs id sz off len lo hi) else none
   | _ => none
 | _, _, _ => none
def sliceS (x : V) (lo hi mx : Option V) : Option (Prop × V) :=
 match optInt lo, optInt hi, mx with
 | some lo, some hi, none => match x with
   | .d (.lit (.string s)) => some (cutStr s lo hi)
   | _ => none
 | _, _, _ => none
def convV (P : Program) (src dst : TypeId) (x : V) : Option V := match x with
 | .d (.lit (.int _ n)) => match intOf? P src, intOf? P dst with
   | some _, some k => some (.d (.lit (.int k (k.wrap n))))
   | _, _ => none
 | _ => none
def minmax (mx : Bool) : List V → Option V
 | [.d (.lit (.int k a)), .d (.lit (.int k' b))] => if k = k' then some (.d (.lit (.int k (if mx then (if b > a then b else a) else (if b < a then b else a))))) else none
 | _ => none
def partV (agg : Bool) (n off : Nat) (cells : List V) : Option V := if off + n ≤ cells.length then one agg n ((cells.drop off).take n) else none
def indexA (P : Program) (t : TypeId) (x i : V) : Option (Prop × V) := match arrOfT P t, aggCells x, i with
 | some (n, e), some cs, .d (.lit (.int _ k)) => match aggOf P e with
   | some g => if szOf P e = 0 then none else (match partV g (szOf P e) (k.toNat * szOf P e) cs with | some v => some (0 ≤ k ∧ k < (n : Int), v) | none => none)
   | none => none
 | _, _, _ => none
def opP (P : Program) (op : Op) (ρ : Operand → V) : Option (Prop × V) := match op with
 | .move x | .assign x => some (True, ρ x)
 | .pick c a b => match ρ c with
   | .d (.lit (.bool t)) => some (True, if t then ρ a else ρ b)
   | _ => none
 | .build t parts => match placesT P t, zeroOf P t with
   | some ps, some z => if oneCells z then match fillV (fun i => ps[i]?) (lits z) (parts.toList.map fun (i, x) => (i, ρ x)) with
     | some cs => some (True, mkAg cs)
     | none => none else none
   | none, _ => match buildA P t (parts.toList.map fun (i, x) => (i, ρ x)) with
     | some v => some (True, v)
     | none => none
   | _, _ => none
 | .nilCheck x => match ρ x with
   | .pt id sz r c => some (True, .pt id sz r c)
   | .d (.ip r c) => some (True, .d (.ip r c))
   | .fn f capt => some (True, .fn f capt)
   | _ => none
 | .binOp op t x y _ => binV P op t (ρ x) (ρ y)
 | .unOp op _ x => match unV op (ρ x) with | some v => some (True, v) | none => none
 | .makeFunc (.func f) first capt => if first.size = 0 then some (True, .fn f (capt.toList.map ρ)) else none
 | .slice t x lo hi mx => match elemOfT P t with
   | some e => if szOf P e = 0 then none else sliceV (szOf P e) (ρ x) (lo.map ρ) (hi.map ρ) (mx.map ρ)
   | none => if strT P t then sliceS (ρ x) (lo.map ρ) (hi.map ρ) (mx.map ρ) else none
 | .fieldAddr t x f => match fldOf P t f with
   | some (off, ft) => if szOf P ft = 0 then none else match ρ x with
     | .pt id sz r c => some (True, .pt id sz r (c + off))
     | .d (.ip row c) => some (True, .d (.ip row (c + off)))
     | _ => none
   | none => none
 | .field t x f => match fldOf P t f, aggCells (ρ x) with
   | some (off, ft), some cs => match aggOf P ft with
     | some g => if szOf P ft = 0 then none else match partV g (szOf P ft) off cs with | some v => some (True, v) | none => none
     | none => none
   | _, _ => none
 | .indexAddr t x i => match elemOfT P t with
   | some e => if szOf P e = 0 then none else idxV (szOf P e) (ρ x) (ρ i)
   | none => none
 | .index t x i => if strT P t then match ρ x, ρ i with
   | .d (.lit (.string s)), .d (.lit (.int _ n)) => some (0 ≤ n ∧ n < (s.size : Int), .d (.lit (.int .u8 ((s.data.toList.getD n.toNat 0).toNat : Int))))
   | _, _ => none else indexA P t (ρ x) (ρ i)
 | .extract t i => match ρ t with
   | .tup vs => match vs[i]? with | some v => some (True, v) | none => none
   | _ => none
 | .convert src dst x => match convV P src dst (ρ x) with | some v => some (True, v) | none => none
 | .call c => match c.callee with
   | .builtin .max => match minmax true (c.args.toList.map ρ) with | some v => some (True, v) | none => none
   | .builtin .min => match minmax false (c.args.toList.map ρ) with | some v => some (True, v) | none => none
   | _ => none
 | _ => none
def loadV (P : Program) (t : TypeId) (cells : List V) (off : Nat) : Option V := match aggOf P t with
 | some true => partV true (szOf P t) off cells
 | some false => cells[off]?
 | none => none
def lenV (P : Program) (t : TypeId) (x : V) : Option Int := match x with
 | .d (.lit (.string b)) => if strT P t then some b.size else none
 | .d (.sl _ rows) => if tkind P t = 1 then some rows.length else none
 | .d (.lit (.slice none 0 _)) => if tkind P t = 1 then some 0 else none
 | .rs _ _ _ len => if tkind P t = 1 then some len else none
 | _ => none
def mapT (P : Program) (t : TypeId) : Option (TypeId × TypeId) := match P.underlying t with
 | some (.map k e) => some (k, e)
 | _ => none
def keyD (P : Program) (k : TypeId) : Option TypeDesc := match P.underlying k with
 | some (.int k) => some (.int k)
 | some .string => some .string
 | some .bool => some .bool
 | _ => none
def zeroV (P : Program) (t : TypeId) : Option V := match P.info? t with
 | some i => match i.zero with
   | some (.agg cs) => if oneCells cs.toList then some (mkAg (lits cs.toList)) else none
   | some v => if okLit v then some (.d (.lit v)) else none
   | none => none
 | none => none
def findK (d : TypeDesc) (k : Value) : List Value → Nat → Option (Option Nat)
 | [], _ => some none
 | e :: es, i => match Instr.sameNow d k e with
   | some true => some (some i)
   | some false => findK d k es (i + 1)
   | none => none
def lookR (ok : Bool) (v : V) (b : Bool) : V := if ok then .tup [v, .bool b] else v
def lookV (P : Program) (t : TypeId) (m k : V) (ok : Bool) (s : Store) : Option (Prop × V) := match mapT P t with
 | some (kt, et) => match keyD P kt, k, zeroV P et with
   | some d, .d (.lit kv), some z => match m with
     | .mp id => match getB s id with
       | some (.mp ks vs) => match findK d kv ks 0 with
         | some (some i) => match vs[i]? with | some v => some (True, lookR ok v true) | none => none
         | some none => some (True, lookR ok z false)
         | none => none
       | _ => none
     | .d (.lit (.map none)) => some (True, lookR ok z false)
     | _ => none
   | _, _, _ => none
 | none => none
def updV (P : Program) (t : TypeId) (m k x : V) (s : Store) : Option (Prop × Store) := match mapT P t with
 | some (kt, et) => match keyD P kt, k, m with
   | some d, .d (.lit kv), .mp id => match getB s id with
     | some (.mp ks vs) => match findK d kv ks 0 with
       | some (some i) => some (True, putB s id (.mp (ks.set i kv) (vs.set i x)))
       | some none => some (True, putB s id (.mp (ks ++ [kv]) (vs ++ [x])))
       | none => none
     | _ => none
   | _, _, _ => none
 | none => none
def opR (P : Program) (op : Op) (ρ : Operand → V) (s : Store) : Option (Prop × V) := match op with
 | .load t x => match ρ x with
   | .pt id sz r c => match getB s id with
     | some (.vals cells) => match loadV P t cells (r * sz + c) with | some v => some (True, v) | none => none
     | some (.data n rows) => match loadV P t ((rowN rows r).map .d) c with | some v => some (r < rows.length ∧ n = sz, v) | none => none
     | _ => none
   | .d (.ip row c) => match loadV P t (row.map .d) c with | some v => some (True, v) | none => none
   | _ => none
 | .call c => match c.args.toList, c.argTypes.toList with
   | [x], [t] => match ρ x with
     | .mp id => match getB s id with
       | some (.mp ks _) => if tkind P t = 3 ∧ ks.length ≤ 9223372036854775807 then some (True, .int ks.length) else none
       | _ => none
     | y => match lenV P t y with | some n => some (True, .int n) | none => none
   | _, _ => none
 | .lookup t m k ok => lookV P t (ρ m) (ρ k) ok s
 | _ => none
def opA (P : Program) (op : Op) (ρ : Operand → V) (id : Nat) : Option (Prop × V × Blk) := match op with
 | .box _ x => match cellsOfV (ρ x) with
   | some cs => some (True, .pt id 0 0 0, .vals cs)
   | none => none
 | .alloc t => match zeroOf P t with
   | some z => if oneCells z then some (True, .pt id 0 0 0, .vals (lits z)) else none
   | none => none
 | .buildSlice t len parts => match elemOfT P t with
   | some e => match zeroOf P e with
     | some z => if oneCells z ∧ 0 < z.length ∧ len * z.length ≤ 16777216 then
        match fillV (fun i => some (i * z.length, z.length)) (lits ((List.replicate len z).flatten)) (parts.toList.map fun (i, x) => (i, ρ x)) with
        | some cs => match toDs cs with
          | some ds => some (True, .rs id z.length 0 len, .data z.length (chop z.length ds len))
          | none => some (True, .rs id z.length 0 len, .vals cs)
        | none => none else none
     | none => none
   | none => none
 | .makeSlice t l c => match elemOfT P t with
   | some e => match zeroOf P e, ρ l, ρ c with
     | some z, .d (.lit (.int _ n)), .d (.lit (.int _ m)) => if oneCells z ∧ 0 < z.length then
        some ((0 ≤ n ∧ n ≤ m) ∧ (bytesOfT P e : Int) * m ≤ 140737488355328 ∧ m ≤ 9223372036854775807, .rs id z.length 0 n.toNat, .data z.length (List.replicate n.toNat (litsD z))) else none
     | _, _, _ => none
   | none => none
 | .makeMap _ none => some (True, .mp id, .mp [] [])
 | _ => none
def setRow (cells : List D) (off : Nat) (vs : List D) : List D := cells.take off ++ vs ++ cells.drop (off + vs.length)
def opW (P : Program) (op : Op) (ρ : Operand → V) (s : Store) : Option (Prop × Store) := match op with
 | .store t x y => match ρ x, cellsOfV (ρ y) with
   | .pt id sz r c, some vs => if vs.length = szOf P t ∧ 0 < vs.length then match getB s id with
      | some (.vals cells) => if r * sz + c + vs.length ≤ cells.length then some (True, putB s id (.vals (setAt cells (r * sz + c) vs))) else none
      | some (.data n rows) => match toDs vs with
        | some ds => if c + ds.length ≤ n then some (r < rows.length ∧ n = sz, putB s id (.data n (rows.set r (setRow (rowN rows r) c ds)))) else none
        | none => none
      | _ => none else none
   | _, _ => none
 | .mapUpdate t m k x | .insert t m k x => updV P t (ρ m) (ρ k) (ρ x) s
 | _ => none
def newId (dst : Option Nat) : Nat := match dst with | some k => 100 * (k + 1) | none => 99
def srcRows (sz : Nat) (x : V) (s : Store) : Option (Prop × List (List D)) := match x with
 | .d (.sl _ rows) => some (∀ r ∈ rows, r.length = sz, rows)
 | .d (.lit (.slice none 0 _)) => some (True, [])
 | .rs id n off len => if n = sz then match getB s id with
   | some (.data n' rows) => some (n' = sz ∧ off + len ≤ rows.length, (rows.drop off).take len)
   | _ => none else none
 | _ => none
def baseRows (sz : Nat) (x : V) (s : Store) : Option (Option Nat × Prop × List (List D)) := match x with
 | .d (.lit (.slice none 0 0)) => some (none, True, [])
 | .rs id n 0 len => if n = sz then match getB s id with
   | some (.data n' rows) => some (some id, n' = sz ∧ len ≤ rows.length, rows.take len)
   | _ => none else none
 | _ => none
def hitO (k : Option Nat) (id : Nat) (i : Nat) : Bool := i == id || k == some i
def opAppend (P : Program) (c : Call) (ρ : Operand → V) (s : Store) : Option (Option Nat × Prop × Nat × List (List D)) :=
 match c.args.toList, c.argTypes.toList with
 | [x, y], [t, u] => match elemOfT P t with
   | some e => match zeroOf P e with
     | some z => if oneCells z ∧ 0 < z.length ∧ 0 < bytesOfT P e ∧ tkind P u = 1 then
        match baseRows z.length (ρ x) s, srcRows z.length (ρ y) s with
        | some (k, c1, olds), some (c2, news) => some (k, c1 ∧ c2 ∧ (olds.length + news.length) * bytesOfT P e ≤ 140737488355328, z.length, olds ++ news)
        | _, _ => none else none
     | none => none
   | none => none
 | _, _ => none
def srcV (sz : Nat) (x : V) (s : Store) : Option (Prop × Nat × List V) := match x with
 | .rs id n off len => if n = sz then match getB s id with
   | some (.vals cells) => some (0 < len ∧ off * sz + len * sz ≤ cells.length, len, (cells.drop (off * sz)).take (len * sz))
   | _ => none else none
 | _ => none
def baseV (sz : Nat) (x : V) (s : Store) : Option (Option Nat × Prop × Nat × List V) := match x with
 | .d (.lit (.slice none 0 0)) => some (none, True, 0, [])
 | .rs id n 0 len => if n = sz then match getB s id with
   | some (.vals cells) => some (some id, cells.length = len * sz, len, cells)
   | _ => none else none
 | _ => none
def opAppendV (P : Program) (c : Call) (ρ : Operand → V) (s : Store) : Option (Option Nat × Prop × Nat × Nat × List V) :=
 match c.args.toList, c.argTypes.toList with
 | [x, y], [t, u] => match elemOfT P t with
   | some e => match zeroOf P e with
     | some z => if oneCells z ∧ 0 < z.length ∧ 0 < bytesOfT P e ∧ tkind P u = 1 then
        match baseV z.length (ρ x) s, srcV z.length (ρ y) s with
        | some (k, c1, n, olds), some (c2, n', news) => some (k, c1 ∧ c2 ∧ (n + n') * bytesOfT P e ≤ 140737488355328, z.length, n + n', olds ++ news)
        | _, _ => none else none
     | none => none
   | none => none
 | _, _ => none
structure St where
 e : Env
 s : Store
def guardOf (all : List Oper) (e : Env) : Option (Nat × Bool) → Option (Option (Nat × Bool × Bool))
 | none => some none
 | some (j, want) => match all[j]? with
   | some g => match g.dst with
     | some k => match e.getD k .top with
       | .d (.lit (.bool b)) => some (some (k, want, b))
       | .d (.lit (.tuple _)) => some (some (k, want, !want))
       | _ => none
     | none => none
   | none => none
def EvCall (ev : List Oper → Env → Store → (St → Prop) → Prop) (P : Program) (C : FuncId → List V → V → Store → Prop) (o : Oper) (f : V) (args : List V) (os : List Oper) (e : Env) (s : Store) (K : St → Prop) : Prop :=
 match f with
 | .fn g capt => ∃ r τ, C g (args ++ capt) r τ ∧ ev os (put e o.dst r) τ K
 | _ => False
end Go.Fw
end
section
namespace Go.Fw
inductive DRel (w : World) (L : Nat → Prop) : D → Value → Prop
 | lit (v : Value) (h : okLit v = true) : DRel w L (.lit v) v
 | slE (nn : Bool) (A : Option Addr) (cap : Nat) (h : nn = true → A ≠ none) : DRel w L (.sl nn []) (.slice A 0 cap)
 | sl (nn : Bool) (rows : List (List D)) (b off cap sz : Nat) (vals : Nat → Nat → Value) (hb : ∀ (i j : Nat) (r : List D) (x : D), rows[i]? = some r → r[j]? = some x → ¬ L b) (hc : rows.length ≤ cap) (hm : rows.length ≤ 9223372036854775807) (hz : ∀ r ∈ rows, r.length = sz)
    (hv : ∀ (i j : Nat) (r : List D) (x : D), rows[i]? = some r → r[j]? = some x → w.cell? ⟨b, off + i * sz + j, none⟩ = some (vals i j)) (ho : ∀ (i j : Nat) (r : List D) (x : D), rows[i]? = some r → r[j]? = some x → (vals i j).oneCell = true)
    (hr : ∀ (i j : Nat) (r : List D) (x : D), rows[i]? = some r → r[j]? = some x → DRel w L x (vals i j)) : DRel w L (.sl nn rows) (.slice (some ⟨b, off, none⟩) rows.length cap)
 | ip (row : List D) (b off col : Nat) (vals : Nat → Value) (hb : ∀ (j : Nat) (x : D), row[j]? = some x → ¬ L b) (hv : ∀ (j : Nat) (x : D), row[j]? = some x → w.cell? ⟨b, off + j, none⟩ = some (vals j)) (ho : ∀ (j : Nat) (x : D), row[j]? = some x → (vals j).oneCell = true)
    (hr : ∀ (j : Nat) (x : D), row[j]? = some x → DRel w L x (vals j)) : DRel w L (.ip row col) (.pointer (some ⟨b, off + col, none⟩))
 | ag (cells : List D) (vs : List Value) (hl : vs.length = cells.length) (ho : ∀ v ∈ vs, v.oneCell = true) (hr : ∀ (j : Nat) (x : D) (v : Value), cells[j]? = some x → vs[j]? = some v → DRel w L x v) : DRel w L (.ag cells) (.agg vs.toArray)
inductive VRel (w : World) (L : Nat → Prop) (m : Nat → Option Nat) : V → Value → Prop
 | top (v : Value) : VRel w L m .top v
 | d {x : D} {v : Value} (h : DRel w L x v) : VRel w L m (.d x) v
 | rsE (id sz : Nat) : VRel w L m (.rs id sz 0 0) (.slice none 0 0)
 | rs (id sz off len cap b : Nat) (cs : Array Value) (ty : TypeId) (fr : Nat × Nat) (hm : m id = some b) (hc : len ≤ cap) (hx : len ≤ 9223372036854775807) (hh : w.heap[b]? = some (.cells cs ty fr)) (hs : (off + cap) * sz ≤ cs.size) :
    VRel w L m (.rs id sz off len) (.slice (some ⟨b, off * sz, none⟩) len cap)
 | pt (id sz row col b : Nat) (hm : m id = some b) : VRel w L m (.pt id sz row col) (.pointer (some ⟨b, row * sz + col, none⟩))
 | mp (id b : Nat) (hm : m id = some b) : VRel w L m (.mp id) (.map (some b))
 | fn (f : FuncId) (capt : List V) (vs : List Value) (hl : vs.length = capt.length) (hr : ∀ (j : Nat) (x : V) (v : Value), capt[j]? = some x → vs[j]? = some v → VRel w L m x v) : VRel w L m (.fn f capt) (.func (.func f) #[] vs.toArray)
 | ag (cells : List V) (vs : List Value) (hl : vs.length = cells.length) (ho : ∀ v ∈ vs, v.oneCell = true) (hr : ∀ (j : Nat) (x : V) (v : Value), cells[j]? = some x → vs[j]? = some v → VRel w L m x v) : VRel w L m (.ag cells) (.agg vs.toArray)
 | tup (cells : List V) (vs : List Value) (hl : vs.length = cells.length) (hr : ∀ (j : Nat) (x : V) (v : Value), cells[j]? = some x → vs[j]? = some v → VRel w L m x v) : VRel w L m (.tup cells) (.tuple vs.toArray)
def CellsKept (L : Nat → Prop) (w w' : World) : Prop := ∀ (a : Addr) (v : Value), ¬ L a.block → w.cell? a = some v → w'.cell? a = some v
def SizesKept (w w' : World) : Prop := ∀ (b : Nat) (cs : Array Value) (ty : TypeId) (fr : Nat × Nat), w.heap[b]? = some (Obj.cells cs ty fr) → ∃ cs' : Array Value, w'.heap[b]? = some (Obj.cells cs' ty fr) ∧ cs'.size = cs.size
theorem DRel.mono {w w' : World} {L L' : Nat → Prop} (hk : CellsKept L w w') (hL : ∀ b, L' b → L b ∨ w.heap.size ≤ b) {x : D} {v : Value} (h : DRel w L x v) : DRel w' L' x v := by
 have key : ∀ (a : Addr) (v : Value), w.cell? a = some v → ¬ L a.block → ¬ L' a.block := fun a v hc hb hl => by
  have := World.block_lt_of_cell? w _ hc
  rcases hL _ hl with h | h
  ·exact hb h
  ·omega
 induction h with
 | lit v h => exact .lit v h
 | slE nn A cap h => exact .slE nn A cap h
 | sl nn rows b off cap sz vals hb hc hm hz hv ho hr ih =>
   exact .sl nn rows b off cap sz vals (fun i j r x h1 h2 => key _ _ (hv i j r x h1 h2) (hb i j r x h1 h2)) hc hm hz (fun i j r x h1 h2 => hk _ _ (hb i j r x h1 h2) (hv i j r x h1 h2)) ho ih
 | ip row b off col vals hb hv ho hr ih =>
   exact .ip row b off col vals (fun j x h => key _ _ (hv j x h) (hb j x h)) (fun j x h => hk _ _ (hb j x h) (hv j x h)) ho ih
 | ag cells vs hl ho hr ih => exact .ag cells vs hl ho ih
mutual
def V.men (p : Nat → Bool) : V → Bool
 | .top => false
 | .d _ => false
 | .rs id _ _ _ => p id
 | .pt id _ _ _ => p id
 | .mp id => p id
 | .fn _ capt => V.menL p capt
 | .ag cells => V.menL p cells
 | .tup vs => V.menL p vs
def V.menL (p : Nat → Bool) : List V → Bool
 | [] => false
 | v :: r => v.men p || V.menL p r
end
theorem menL_at {p : Nat → Bool} {l : List V} (h : V.menL p l = false) {j : Nat} {x : V} (hj : l[j]? = some x) : x.men p = false := by
 induction l generalizing j with
 | nil => simp at hj
 | cons v r ih =>
   simp only [V.menL, Bool.or_eq_false_iff] at h
   cases j with
   | zero => simp at hj; rw [← hj]; exact h.1
   | succ j => simp at hj; exact ih h.2 hj
theorem menL_of {p : Nat → Bool} {l : List V} (h : ∀ (j : Nat) (x : V), l[j]? = some x → x.men p = false) : V.menL p l = false := by
 induction l with
 | nil => rfl
 | cons v r ih =>
   simp only [V.menL, Bool.or_eq_false_iff]
   exact ⟨h 0 v rfl, ih fun j x hj => h (j + 1) x (by simpa using hj)⟩
theorem VRel.mono {w w' : World} {L L' : Nat → Prop} {m m' : Nat → Option Nat} {p : Nat → Bool} (hk : CellsKept L w w') (hs : SizesKept w w') (hL : ∀ b, L' b → L b ∨ w.heap.size ≤ b)
  (hm : ∀ i, p i = false → m' i = m i) {x : V} {v : Value} (hp : x.men p = false) (h : VRel w L m x v) : VRel w' L' m' x v := by
 induction h with
 | top v => exact .top v
 | d h => exact .d (h.mono hk hL)
 | rsE id sz => exact .rsE id sz
 | rs id sz off len cap b cs ty fr hm0 hc hx hh hs0 =>
   obtain ⟨cs', h1, h2⟩ := hs b cs ty fr hh
   exact .rs id sz off len cap b cs' ty fr ((hm id (by simpa [V.men] using hp)).trans hm0) hc hx h1 (by rw [h2]; exact hs0)
 | pt id sz row col b hm0 => exact .pt id sz row col b ((hm id (by simpa [V.men] using hp)).trans hm0)
 | mp id b hm0 => exact .mp id b ((hm id (by simpa [V.men] using hp)).trans hm0)
 | fn f capt vs hl hr ih => exact .fn f capt vs hl fun j x v h1 h2 => ih j x v h1 h2 (menL_at (by simpa [V.men] using hp) h1)
 | ag cells vs hl ho hr ih => exact .ag cells vs hl ho fun j x v h1 h2 => ih j x v h1 h2 (menL_at (by simpa [V.men] using hp) h1)
 | tup cells vs hl hr ih => exact .tup cells vs hl fun j x v h1 h2 => ih j x v h1 h2 (menL_at (by simpa [V.men] using hp) h1)
theorem VRel.mono' {w w' : World} {L L' : Nat → Prop} {m : Nat → Option Nat} (hk : CellsKept L w w') (hs : SizesKept w w') (hL : ∀ b, L' b → L b ∨ w.heap.size ≤ b) {x : V} {v : Value} (h : VRel w L m x v) : VRel w' L' m x v :=
 have key : ∀ x : V, x.men (fun _ => false) = false := fun x => by
  induction x using V.rec (motive_2 := fun l => V.menL (fun _ => false) l = false) <;> simp_all [V.men, V.menL]
 VRel.mono (p := fun _ => false) hk hs hL (fun _ _ => rfl) (key x) h
theorem VRel.fgt {w : World} {L : Nat → Prop} {m : Nat → Option Nat} (p : Nat → Bool) {x : V} {v : Value} (h : VRel w L m x v) : VRel w L m (x.fgt p) v := by
 have key : ∀ (l : List V) (j : Nat) (x : V), (V.fgtL p l)[j]? = some x → ∃ y, l[j]? = some y ∧ x = y.fgt p := by
  intro l
  induction l with
  | nil => intro j x h; simp [V.fgtL] at h
  | cons v r ih =>
    intro j x h
    cases j with
    | zero => simp [V.fgtL] at h; exact ⟨v, rfl, h.symm⟩
    | succ j => simp [V.fgtL] at h; simpa using ih j x h
 have len : ∀ l : List V, (V.fgtL p l).length = l.length := by
  intro l
  induction l with
  | nil => rfl
  | cons v r ih => simp [V.fgtL, ih]
 induction h with
 | top v => exact .top v
 | d h => exact .d h
 | rsE id sz => simp only [V.fgt]; split <;> constructor
 | rs id sz off len cap b cs ty fr hm0 hc hx hh hs0 =>
   simp only [V.fgt]; split
   ·exact .top _
   ·exact .rs id sz off len cap b cs ty fr hm0 hc hx hh hs0
 | pt id sz row col b hm0 =>
   simp only [V.fgt]; split
   ·exact .top _
   ·exact .pt id sz row col b hm0
 | mp id b hm0 =>
   simp only [V.fgt]; split
   ·exact .top _
   ·exact .mp id b hm0
 | fn f capt vs hl hr ih =>
   refine .fn f _ vs (hl.trans (len _).symm) fun j x v h1 h2 => ?_
   obtain ⟨y, h3, rfl⟩ := key _ _ _ h1
   exact ih j y v h3 h2
 | ag cells vs hl ho hr ih =>
   refine .ag _ vs (hl.trans (len _).symm) ho fun j x v h1 h2 => ?_
   obtain ⟨y, h3, rfl⟩ := key _ _ _ h1
   exact ih j y v h3 h2
 | tup cells vs hl hr ih =>
   refine .tup _ vs (hl.trans (len _).symm) fun j x v h1 h2 => ?_
   obtain ⟨y, h3, rfl⟩ := key _ _ _ h1
   exact ih j y v h3 h2
theorem fgtL_len (p : Nat → Bool) : ∀ l : List V, (V.fgtL p l).length = l.length := by
 intro l
 induction l with
 | nil => rfl
 | cons v r ih => simp [V.fgtL, ih]
theorem fgtL_at (p : Nat → Bool) : ∀ (l : List V) (j : Nat), (V.fgtL p l)[j]? = (l[j]?).map (V.fgt p) := by
 intro l
 induction l with
 | nil => intro j; simp [V.fgtL]
 | cons v r ih => intro j; cases j <;> simp [V.fgtL, ih]
theorem fgt_men (p : Nat → Bool) (x : V) : (x.fgt p).men p = false := by
 induction x using V.rec (motive_2 := fun l => V.menL p (V.fgtL p l) = false) <;> simp_all [V.fgt, V.fgtL, V.men, V.menL]
 all_goals (split <;> simp_all [V.men])
end Go.Fw
end
section
namespace Go.Fw
structure All2 {α β : Type} (R : α → β → Prop) (l : List α) (r : List β) : Prop where
 len : r.length = l.length
 at_ : ∀ (j : Nat) (x : α) (y : β), l[j]? = some x → r[j]? = some y → R x y
theorem All2.nil {α β : Type} {R : α → β → Prop} : All2 R [] [] := ⟨rfl, by simp⟩
theorem All2.cons {α β : Type} {R : α → β → Prop} {x : α} {y : β} {l : List α} {r : List β} (h : R x y) (hs : All2 R l r) : All2 R (x :: l) (y :: r) :=
 ⟨by simp [hs.len], fun j a b ha hb => by
  cases j with
  | zero => simp at ha hb; rw [← ha, ← hb]; exact h
  | succ j => simp at ha hb; exact hs.at_ j a b ha hb⟩
theorem All2.head {α β : Type} {R : α → β → Prop} {x : α} {l : List α} {r : List β} (h : All2 R (x :: l) r) : ∃ y s, r = y :: s ∧ R x y ∧ All2 R l s := by
 cases r with
 | nil => simpa using h.len
 | cons y s => exact ⟨y, s, rfl, h.at_ 0 x y rfl rfl, by simpa using h.len, fun j a b ha hb => h.at_ (j + 1) a b (by simpa using ha) (by simpa using hb)⟩
theorem All2.mono {α β : Type} {R S : α → β → Prop} {l : List α} {r : List β} (h : All2 R l r) (hs : ∀ x y, R x y → S x y) : All2 S l r := ⟨h.len, fun j x y a b => hs _ _ (h.at_ j x y a b)⟩
theorem All2.get {α β : Type} {R : α → β → Prop} {l : List α} {r : List β} (h : All2 R l r) {j : Nat} {x : α} (hx : l[j]? = some x) : ∃ y, r[j]? = some y ∧ R x y := by
 have hj : j < l.length := (List.getElem?_eq_some_iff.1 hx).1
 refine ⟨r[j]'(by rw [h.len]; exact hj), by simp [h.len, hj], h.at_ j x _ hx (by simp [h.len, hj])⟩
theorem All2.map {α β γ : Type} {R : α → β → Prop} {S : γ → β → Prop} {f : γ → α} {l : List γ} {r : List β} (h : All2 R (l.map f) r) (hs : ∀ x y, R (f x) y → S x y) : All2 S l r :=
 ⟨by simpa using h.len, fun j x y a b => hs _ _ (h.at_ j (f x) y (by simp [a]) b)⟩
theorem All2.of_map {α β γ : Type} {R : α → β → Prop} {S : γ → β → Prop} {f : γ → α} {l : List γ} {r : List β} (h : All2 S l r) (hs : ∀ x y, S x y → R (f x) y) : All2 R (l.map f) r :=
 ⟨by simpa using h.len, fun j x y a b => by
  simp only [List.getElem?_map, Option.map_eq_some_iff] at a
  obtain ⟨z, hz, rfl⟩ := a
  exact hs _ _ (h.at_ j z y hz b)⟩
theorem All2.maps {α β γ δ : Type} {R : α → β → Prop} {S : γ → δ → Prop} {f : γ → α} {g : δ → β} {l : List γ} {r : List δ} (h : All2 S l r) (hs : ∀ x y, S x y → R (f x) (g y)) : All2 R (l.map f) (r.map g) :=
 ⟨by simpa using h.len, fun j x y a b => by
  simp only [List.getElem?_map, Option.map_eq_some_iff] at a b
  obtain ⟨z, hz, rfl⟩ := a
  obtain ⟨u, hu, rfl⟩ := b
  exact hs _ _ (h.at_ j z u hz hu)⟩
theorem All2.append {α β : Type} {R : α → β → Prop} {l l' : List α} {r r' : List β} (h : All2 R l r) (h' : All2 R l' r') : All2 R (l ++ l') (r ++ r') :=
 ⟨by simp [h.len, h'.len], fun j x y a b => by
  rw [List.getElem?_append] at a b
  rw [h.len] at b
  split at a <;> rename_i hj
  ·rw [if_pos hj] at b; exact h.at_ j x y a b
  ·rw [if_neg hj] at b; exact h'.at_ _ x y a b⟩
theorem All2.take {α β : Type} {R : α → β → Prop} {l : List α} {r : List β} (h : All2 R l r) (n : Nat) : All2 R (l.take n) (r.take n) :=
 ⟨by simp [h.len], fun j x y a b => by
  rw [List.getElem?_take] at a b
  split at a <;> rename_i hj
  ·rw [if_pos hj] at b; exact h.at_ j x y a b
  ·cases a⟩
theorem All2.drop {α β : Type} {R : α → β → Prop} {l : List α} {r : List β} (h : All2 R l r) (n : Nat) : All2 R (l.drop n) (r.drop n) :=
 ⟨by simp [h.len], fun j x y a b => by
  rw [List.getElem?_drop] at a b
  exact h.at_ _ x y a b⟩
theorem All2.set {α β : Type} {R : α → β → Prop} {l : List α} {r : List β} (h : All2 R l r) (n : Nat) {x : α} {y : β} (hx : R x y) : All2 R (l.set n x) (r.set n y) :=
 ⟨by simp [h.len], fun j a b ha hb => by
  rw [List.getElem?_set] at ha hb
  rw [h.len] at hb
  split at ha
  ·rename_i hj
   rw [if_pos hj] at hb
   split at ha
   ·rename_i hlt
    rw [if_pos hlt] at hb
    cases ha; cases hb; exact hx
   ·cases ha
  ·rename_i hj
   rw [if_neg hj] at hb
   exact h.at_ j a b ha hb⟩
def Ones (vs : List Value) : Prop := ∀ v ∈ vs, v.oneCell = true
theorem Ones.one' {vs : List Value} (h : Ones vs) : ∀ v ∈ vs, v.oneCell' = true := fun v hv => by
 have := h v hv
 cases v <;> simp_all [Value.oneCell, Value.oneCell']
theorem DRel.ag_inv {w : World} {L : Nat → Prop} {cells : List D} {v : Value} (h : DRel w L (.ag cells) v) : ∃ vs : List Value, v = .agg vs.toArray ∧ Ones vs ∧ All2 (DRel w L) cells vs := by
 cases h with
 | ag _ vs hl ho hr => exact ⟨vs, rfl, ho, hl, hr⟩
theorem VRel.ag_inv {w : World} {L : Nat → Prop} {m : Nat → Option Nat} {cells : List V} {v : Value} (h : VRel w L m (.ag cells) v) : ∃ vs : List Value, v = .agg vs.toArray ∧ Ones vs ∧ All2 (VRel w L m) cells vs := by
 cases h with
 | ag _ vs hl ho hr => exact ⟨vs, rfl, ho, hl, hr⟩
theorem VRel.lit_inv {w : World} {L : Nat → Prop} {m : Nat → Option Nat} {u v : Value} (h : VRel w L m (.d (.lit u)) v) : v = u := by
 cases h with
 | d h => cases h; rfl
theorem VRel.lit_ok {w : World} {L : Nat → Prop} {m : Nat → Option Nat} {u v : Value} (h : VRel w L m (.d (.lit u)) v) : okLit u = true := by
 cases h with
 | d h => cases h; assumption
theorem VRel.int {w : World} {L : Nat → Prop} {m : Nat → Option Nat} {u : Value} (h : okLit u = true := by rfl) : VRel w L m (.d (.lit u)) u := .d (.lit u h)
theorem cells_rel {w : World} {L : Nat → Prop} {m : Nat → Option Nat} {x : V} {v : Value} {cs : List V} (h : VRel w L m x v) (hc : cellsOfV x = some cs) : ∃ vs : List Value, v.cells = vs.toArray ∧ Ones vs ∧ All2 (VRel w L m) cs vs := by
 have one : ∀ {x : V} {v : Value}, VRel w L m x v → v.oneCell = true → (v.cells = #[v]) → ∃ vs : List Value, v.cells = vs.toArray ∧ Ones vs ∧ All2 (VRel w L m) [x] vs := fun {x v} h ho hv => ⟨[v], hv, by simp [Ones, ho], .cons h .nil⟩
 cases h with
 | top v => simp [cellsOfV] at hc
 | d h =>
   cases h with
   | lit v hlit =>
     simp only [cellsOfV] at hc
     split at hc
     ·rename_i ho
      cases hc
      exact one (.d (.lit v hlit)) ho (by cases v <;> simp_all [Value.oneCell, Value.cells])
     ·cases hc
   | slE nn A cap h => simp only [cellsOfV] at hc; cases hc; exact one (.d (.slE nn A cap h)) rfl rfl
   | sl nn rows b off cap sz vals hb hc' hmx hz hv ho hr => simp only [cellsOfV] at hc; cases hc; exact one (.d (.sl nn rows b off cap sz vals hb hc' hmx hz hv ho hr)) rfl rfl
   | ip row b off col vals hb hv ho hr => simp only [cellsOfV] at hc; cases hc; exact one (.d (.ip row b off col vals hb hv ho hr)) rfl rfl
   | ag cells vs hl ho hr =>
     simp only [cellsOfV] at hc
     cases hc
     exact ⟨vs, rfl, ho, All2.of_map (S := DRel w L) ⟨hl, hr⟩ fun x y h => .d h⟩
 | rsE id sz => simp only [cellsOfV] at hc; cases hc; exact one (.rsE id sz) rfl rfl
 | rs id sz off len cap b cs' ty fr hm hc' hxl hh hs => simp only [cellsOfV] at hc; cases hc; exact one (.rs id sz off len cap b cs' ty fr hm hc' hxl hh hs) rfl rfl
 | pt id sz row col b hm => simp only [cellsOfV] at hc; cases hc; exact one (.pt id sz row col b hm) rfl rfl
 | mp id b hm => simp only [cellsOfV] at hc; cases hc; exact one (.mp id b hm) rfl rfl
 | fn f capt vs hl hr => simp only [cellsOfV] at hc; cases hc; exact one (.fn f capt vs hl hr) rfl rfl
 | ag cells vs hl ho hr => simp only [cellsOfV] at hc; cases hc; exact ⟨vs, rfl, ho, hl, hr⟩
 | tup cells vs hl hr => simp [cellsOfV] at hc
theorem toDs_eq {cells : List V} {l : List D} (h : toDs cells = some l) : cells = l.map .d := by
 induction cells generalizing l with
 | nil => simp [toDs] at h; subst h; rfl
 | cons v r ih =>
   cases v <;> simp only [toDs] at h <;> try (cases h; done)
   cases hr : toDs r with
   | none => rw [hr] at h; cases h
   | some k => rw [hr] at h; cases h; rw [ih hr]; rfl
theorem toDs_rel {w : World} {L : Nat → Prop} {m : Nat → Option Nat} {cells : List V} {l : List D} {vs : List Value} (h : toDs cells = some l) (hr : All2 (VRel w L m) cells vs) : All2 (DRel w L) l vs := by
 rw [toDs_eq h] at hr
 exact hr.map fun x y h => by cases h with | d h => exact h
theorem mkAg_rel {w : World} {L : Nat → Prop} {m : Nat → Option Nat} {cells : List V} {vs : List Value} (ho : Ones vs) (h : All2 (VRel w L m) cells vs) : VRel w L m (mkAg cells) (.agg vs.toArray) := by
 unfold mkAg
 cases hd : toDs cells with
 | some l => have := toDs_rel hd h; exact .d (.ag l vs this.len ho this.at_)
 | none => exact .ag cells vs h.len ho h.at_
theorem one_rel {w : World} {L : Nat → Prop} {m : Nat → Option Nat} {cells : List V} {vs : List Value} {agg : Bool} {n : Nat} {x : V} (h : All2 (VRel w L m) cells vs) (ho : Ones vs) (hx : one agg n cells = some x) :
  VRel w L m x (if agg then .agg vs.toArray else vs.headD undef) ∧ (agg = true → vs.length = n) ∧ (agg = false → vs ≠ []) := by
 unfold one at hx
 cases agg with
 | true =>
   simp only [if_true] at hx ⊢
   split at hx
   ·cases hx; exact ⟨mkAg_rel ho h, fun _ => by rw [h.len]; assumption, by simp⟩
   ·cases hx
 | false =>
   simp only [Bool.false_eq_true, if_false] at hx ⊢
   cases cells with
   | nil => cases hx
   | cons c r =>
     obtain ⟨y, s, rfl, h1, _⟩ := h.head
     cases hx
     exact ⟨h1, by simp, by simp⟩
def Own (m : Nat → Option Nat) (s : Store) (b : Nat) : Prop := ∃ id blk, getB s id = some blk ∧ m id = some b
def Live (X : Nat → Prop) (m : Nat → Option Nat) (s : Store) (b : Nat) : Prop := X b ∨ Own m s b
def Free (fr : Nat × Nat) (n : Nat) : Prop := ∀ o, o < n → ¬ (fr.1 ≤ o ∧ o < fr.2)
def BRel (w : World) (L : Nat → Prop) (m : Nat → Option Nat) (b : Nat) : Blk → Prop
 | .vals cells => ∃ (vs ex : List Value) (ty : TypeId) (fr : Nat × Nat), w.heap[b]? = some (Obj.cells (vs ++ ex).toArray ty fr) ∧ Free fr (vs ++ ex).length ∧ Ones vs ∧ All2 (VRel w L m) cells vs
 | .mp ks vs => ∃ (es : Array MapEntry) (clock : Nat), w.heap[b]? = some (Obj.map es clock) ∧ es.toList.map (·.key) = ks ∧ All2 (VRel w L m) vs (es.toList.map (·.val))
 | .data sz rows => ∃ (cs : Array Value) (ty : TypeId) (fr : Nat × Nat), w.heap[b]? = some (Obj.cells cs ty fr) ∧ Free fr cs.size ∧ rows.length * sz ≤ cs.size ∧ (∀ r ∈ rows, r.length = sz) ∧
    ∀ (i j : Nat) (r : List D) (x : D), rows[i]? = some r → r[j]? = some x → ∃ v, cs[i * sz + j]? = some v ∧ v.oneCell = true ∧ DRel w L x v
structure SRel (w : World) (X : Nat → Prop) (m : Nat → Option Nat) (s : Store) : Prop where
 blk : ∀ id blk, getB s id = some blk → (∃ b, m id = some b ∧ BRel w (Live X m s) m b blk) ∨ (m id = none ∧ ∃ sz, blk = .data sz [])
 inj : ∀ i j b, m i = some b → m j = some b → (getB s i).isSome = true → (getB s j).isSome = true → i = j
structure Ext (L0 : Nat → Prop) (w0 w : World) : Prop where
 os : w.os = w0.os
 tape : w.tape = w0.tape
 output : w.output = w0.output
 size : w0.heap.size ≤ w.heap.size
 block : ∀ b, b < w0.heap.size → ¬ L0 b → w.heap[b]? = w0.heap[b]?
 sizes : SizesKept w0 w
abbrev Par := Nat → Option Nat
def Reach (Z : Par) (b : Nat) : Prop := ∃ i, Z i = some b
structure Rel (w0 : World) (L0 : Par) (X : Nat → Prop) (m : Nat → Option Nat) (e : Env) (s : Store) (a : Act) (w : World) : Prop where
 env : All2 (VRel w (Live X m s) m) e a.tmps.toList
 sto : SRel w X m s
 dfr : a.defers = []
 ext : Ext (Reach L0) w0 w
 liv : ∀ b, Own m s b → Reach L0 b ∨ w0.heap.size ≤ b
 old : ∀ b, X b → b < w0.heap.size ∧ ¬ Reach L0 b
 par : ∀ i, i < 90 → (getB s i).isSome = true → m i = L0 i
theorem Rel.look {w0 : World} {L0 : Par} {X : Nat → Prop} {m : Nat → Option Nat} {e : Env} {s : Store} {a : Act} {w : World} (h : Rel w0 L0 X m e s a w) (x : Operand) : VRel w (Live X m s) m (look e x) (a.eval x) := by
 cases x with
 | tmp t =>
   simp only [Fw.look, Act.eval]
   cases hx : e[t]? with
   | none => rw [List.getD_eq_getElem?_getD, hx]; exact .top _
   | some v =>
     obtain ⟨y, h1, h2⟩ := h.env.get hx
     rw [List.getD_eq_getElem?_getD, hx]
     have : a.tmps.getD t undef = y := by
      rw [Array.getElem?_toList] at h1
      simp [Array.getD_eq_getD_getElem?, h1]
     rw [this]
     exact h2
 | const v =>
   show VRel w (Live X m s) m (litV v) v
   unfold litV
   split
   ·rename_i cs
    split
    ·rename_i hv
     have hv : ∀ x ∈ cs.toList, x.oneCell = true ∧ okLit x = true := by simpa only [oneCells, List.all_eq_true, Bool.and_eq_true] using hv
     have := DRel.ag (w := w) (L := Live X m s) (litsD cs.toList) cs.toList (by simp [litsD]) (fun x hx => (hv x hx).1) (fun j x v h1 h2 => by
      simp only [litsD, List.getElem?_map, h2, Option.map_some, Option.some.injEq] at h1
      subst h1
      exact .lit v (hv v (List.mem_of_getElem? h2)).2)
     exact .d (by simpa using this)
    ·exact .d (.lit _ rfl)
   ·split
    ·rename_i hv; exact .d (.lit _ hv)
    ·exact .top _
 | global g => exact .top _
 | func f => exact .fn f [] [] rfl (by simp)
theorem Rel.put {w0 : World} {L0 : Par} {X : Nat → Prop} {m : Nat → Option Nat} {e : Env} {s : Store} {a : Act} {w : World} (h : Rel w0 L0 X m e s a w) (dst : Option Nat) {x : V} {v : Value} (hx : VRel w (Live X m s) m x v) : Rel w0 L0 X m (put e dst x) s (a.put dst v) w := by
 cases dst with
 | none => exact h
 | some k => exact ⟨by simpa [Fw.put, Act.put] using h.env.set k hx, h.sto, h.dfr, h.ext, h.liv, h.old, h.par⟩
end Go.Fw
end
section
namespace Go.Fw
variable {P : Program} {w : World} {L : Nat → Prop} {m : Nat → Option Nat}
theorem und_run {t : TypeId} {d : TypeDesc} (h : P.underlying t = some d) : (underlying t).run P w = .ok d w := by simp [underlying, h]
theorem info_run {t : TypeId} {i : TypeInfo} (h : P.info? t = some i) : (typeInfo t).run P w = .ok i w := by simp [typeInfo, h]
theorem sz_run {t : TypeId} (h : szOf P t ≠ 0) : (sizeOf t).run P w = .ok (szOf P t) w := by
 unfold szOf at h ⊢
 cases hi : P.info? t with
 | none => simp [hi] at h
 | some i => simp [sizeOf, typeInfo, hi]
theorem agg_run {t : TypeId} {b : Bool} (h : aggOf P t = some b) : (isAgg t).run P w = .ok b w := by
 unfold aggOf at h
 split at h
 ·rename_i fs hu; cases h; simp [isAgg, und_run hu]
 ·rename_i n e hu; cases h; simp [isAgg, und_run hu]
 ·rename_i d h1 h2 hu
  cases h
  simp only [isAgg, Sem.run_bind, und_run hu, Result.andThen_ok]
  rfl
 ·cases h
theorem add_none (b o n : Nat) : (⟨b, o, none⟩ : Addr).add n = ⟨b, o + n, none⟩ := by
 unfold Addr.add; split
 ·subst_vars; rfl
 ·rfl
theorem binI_run {op : BinOp} {k : IntKind} {a b : Int} {t : TypeId} {c : Prop} {v : Value} (hsh : op ≠ .shl ∧ op ≠ .shr) (h : binI op k a b = some (c, v)) (hc : c) : (binOp op t (.int k a) (.int k b)).run P w = .ok v w := by
 cases op <;> simp only [binI, Option.some.injEq, Prod.mk.injEq, reduceCtorEq] at h <;> obtain ⟨rfl, rfl⟩ := h <;> simp_all [binOp, Op.intArith, Op.intDiv, Op.intBits, Op.intCmp, bits2]
theorem shiftI_run {op : BinOp} {k k' : IntKind} {a b : Int} {t : TypeId} {c : Prop} {v : Value} (h : shiftI op k a b = some (c, v)) (hc : c) : (binOp op t (.int k a) (.int k' b)).run P w = .ok v w := by
 cases op <;> simp only [shiftI, Option.some.injEq, Prod.mk.injEq, reduceCtorEq] at h <;> obtain ⟨rfl, rfl⟩ := h <;> simp [binOp, Op.shift, show ¬ b < 0 by omega]
theorem binS_run {op : BinOp} {x y : ByteArray} {t : TypeId} {c : Prop} {v : Value} (h : binS op x y = some (c, v)) (hc : c) : (binOp op t (.string x) (.string y)).run P w = .ok v w := by
 have e : IntKind.i64.max = 9223372036854775807 := by decide
 cases op <;> simp only [binS, Option.some.injEq, Prod.mk.injEq, reduceCtorEq] at h <;> obtain ⟨rfl, rfl⟩ := h <;> simp_all [binOp, Op.stringOp] <;> omega
theorem guard_none {op : BinOp} {t : TypeId} {x y : Operand} {a b : Value} (h1 : ¬ (a = .nilIface ∧ b = .nilIface)) (h2 : ∀ cs ds, ¬ (a = .agg cs ∧ b = .agg ds)) : (eqGuard op t x y a b).run P w = .ok () w := by
 unfold eqGuard
 cases op <;> simp only [Bool.not_false, Bool.not_true, if_true, Sem.run_ite, Sem.run_pure, Sem.run_bind, Result.andThen_ok, Bool.false_eq_true, if_false] <;> try rfl
 all_goals cases a <;> cases b <;> first | rfl | exact absurd ⟨rfl, rfl⟩ h1 | exact absurd ⟨rfl, rfl⟩ (h2 _ _)
theorem isNil_run {x : V} {v : Value} {c : Prop} {b : Bool} (hx : VRel w L m x v) (h : isNil x = some (c, b)) (hc : c) :
  (∃ A n k, v = .slice A n k ∧ A.isNone = b) ∨ (∃ a, v = .pointer a ∧ a.isNone = b) ∨ (∃ r, v = .map r ∧ r.isNone = b) ∨ (v = .nilFunc ∧ b = true) ∨ (∃ f a k, v = .func f a k ∧ b = false) := by
 cases hx with
 | top v => simp [isNil] at h
 | d hd =>
   cases hd with
   | lit v =>
     unfold isNil at h
     split at h <;> try (cases h; done)
     all_goals (rename_i e; cases e <;> (simp only [Option.some.injEq, Prod.mk.injEq] at h; obtain ⟨-, rfl⟩ := h))
     ·exact .inl ⟨_, _, _, rfl, rfl⟩
     ·exact .inr (.inl ⟨_, rfl, rfl⟩)
     ·exact .inr (.inr (.inl ⟨_, rfl, rfl⟩))
     ·exact .inr (.inr (.inr (.inl ⟨rfl, rfl⟩)))
   | slE nn A cap hn =>
     cases nn
     ·simp only [isNil, Option.some.injEq, Prod.mk.injEq] at h; rw [← h.1] at hc; simp at hc
     ·simp only [isNil, Option.some.injEq, Prod.mk.injEq] at h
      refine .inl ⟨_, _, _, rfl, ?_⟩
      rw [← h.2]
      cases A
      ·simp at hn
      ·rfl
   | sl nn rows b' off cap sz vals hb hc' hmx hz hv ho hr =>
     refine .inl ⟨_, _, _, rfl, ?_⟩
     cases nn <;> simp only [isNil, Option.some.injEq, Prod.mk.injEq] at h <;> exact h.2
   | ip row b' off col vals hb hv ho hr => simp only [isNil, Option.some.injEq, Prod.mk.injEq] at h; exact .inr (.inl ⟨_, rfl, h.2⟩)
   | ag cells vs hl ho hr => simp [isNil] at h
 | rsE id sz => simp only [isNil, Option.some.injEq, Prod.mk.injEq] at h; rw [← h.1] at hc; simp at hc
 | rs id sz off len cap b' cs ty fr hm hc' hxl hh hs => simp only [isNil, Option.some.injEq, Prod.mk.injEq] at h; exact .inl ⟨_, _, _, rfl, h.2⟩
 | pt id sz row col b' hm => simp only [isNil, Option.some.injEq, Prod.mk.injEq] at h; exact .inr (.inl ⟨_, rfl, h.2⟩)
 | mp id b' hm => simp only [isNil, Option.some.injEq, Prod.mk.injEq] at h; exact .inr (.inr (.inl ⟨_, rfl, h.2⟩))
 | fn f capt vs hl hr => simp only [isNil, Option.some.injEq, Prod.mk.injEq] at h; exact .inr (.inr (.inr (.inr ⟨_, _, _, rfl, h.2.symm⟩)))
 | ag cells vs hl ho hr => simp [isNil] at h
 | tup cells vs hl hr => simp [isNil] at h
theorem nilLit_run {x : V} {v : Value} (hx : VRel w L m x v) (h : nilLit x = true) : (∃ n k, v = .slice none n k) ∨ v = .pointer none ∨ v = .map none ∨ v = .nilFunc := by
 unfold nilLit at h
 split at h <;> first | (cases h; done) | (cases hx with | d hd => cases hd; simp)
theorem vk_sh {t : TypeId} {x : V} {u : Value} (hx : VRel w L m x u) (he : vkind x = tkind P t) : (∃ e, P.underlying t = some (.slice e) ∧ ∃ A n k, u = .slice A n k) ∨ (∃ e, P.underlying t = some (.pointer e) ∧ ∃ A, u = .pointer A) ∨ (∃ k e, P.underlying t = some (.map k e) ∧ ∃ A, u = .map A) ∨ (∃ ps rs v, P.underlying t = some (.func ps rs v) ∧ (u = .nilFunc ∨ ∃ f a k, u = .func f a k)) := by
 unfold tkind at he
 cases hx with
 | top v => simp only [vkind] at he; split at he <;> simp at he
 | d hd =>
   cases hd with
   | lit _ => cases u <;> simp only [vkind] at he <;> split at he <;> simp_all
   | slE nn A cap hn => simp only [vkind] at he; split at he <;> simp_all
   | sl nn rows b' off cap sz vals hb hc' hmx hz hv ho hr => simp only [vkind] at he; split at he <;> simp_all
   | ip row b' off col vals hb hv ho hr => simp only [vkind] at he; split at he <;> simp_all
   | ag cells vs hl ho hr => simp only [vkind] at he; split at he <;> simp_all
 | rsE id sz => simp only [vkind] at he; split at he <;> simp_all
 | rs id sz off len cap b' cs ty fr hm hc' hxl hh hs => simp only [vkind] at he; split at he <;> simp_all
 | pt id sz row col b' hm => simp only [vkind] at he; split at he <;> simp_all
 | mp id b' hm => simp only [vkind] at he; split at he <;> simp_all
 | fn f capt vs hl hr => simp only [vkind] at he; split at he <;> simp_all
 | ag cells vs hl ho hr => simp only [vkind] at he; split at he <;> simp_all
 | tup cells vs hl hr => simp only [vkind] at he; split at he <;> simp_all
theorem eqNil_run {op : BinOp} {t : TypeId} {u v : Value} {c c' : Prop} {b : Bool} {r : V} (heq : (Op.equal t u v).run P w = .ok b w) (hs : (∃ A n k, u = .slice A n k) ∨ (∃ A, u = .pointer A) ∨ (∃ A, u = .map A) ∨ u = .nilFunc ∨ ∃ f a k, u = .func f a k)
  (hv : (∃ A n k, v = .slice A n k) ∨ (∃ A, v = .pointer A) ∨ (∃ A, v = .map A) ∨ v = .nilFunc ∨ ∃ f a k, v = .func f a k)
  (h : eqNil op c' b = some (c, r)) (ox oy : Operand) : ∃ q, ((eqGuard op t ox oy u v) >>= fun _ => binOp op t u v).run P w = .ok q w ∧ VRel w L m r q := by
 have g : (eqGuard op t ox oy u v).run P w = .ok () w := guard_none (by rcases hs with ⟨A, n, k, rfl⟩ | ⟨A, rfl⟩ | ⟨A, rfl⟩ | rfl | ⟨f, a, k, rfl⟩ <;> simp) (by rcases hs with ⟨A, n, k, rfl⟩ | ⟨A, rfl⟩ | ⟨A, rfl⟩ | rfl | ⟨f, a, k, rfl⟩ <;> simp)
 rw [Sem.run_bind, g, Result.andThen_ok]
 cases op <;> simp only [eqNil, Option.some.injEq, Prod.mk.injEq, reduceCtorEq] at h <;> obtain ⟨-, rfl⟩ := h
 ·refine ⟨_, ?_, .int⟩
  rcases hs with ⟨A, n, k, rfl⟩ | ⟨A, rfl⟩ | ⟨A, rfl⟩ | rfl | ⟨f, a, k, rfl⟩ <;> rcases hv with ⟨A', n', k', rfl⟩ | ⟨A', rfl⟩ | ⟨A', rfl⟩ | rfl | ⟨f', a', k', rfl⟩ <;> simp [binOp, heq]
 ·refine ⟨_, ?_, .int⟩
  rcases hs with ⟨A, n, k, rfl⟩ | ⟨A, rfl⟩ | ⟨A, rfl⟩ | rfl | ⟨f, a, k, rfl⟩ <;> rcases hv with ⟨A', n', k', rfl⟩ | ⟨A', rfl⟩ | ⟨A', rfl⟩ | rfl | ⟨f', a', k', rfl⟩ <;> simp [binOp, heq]
theorem eqd {t : TypeId} {u v : Value} : Op.equal t u v = Op.equalIn (9999 + 1) t u v := rfl
theorem eq_slice {t e : TypeId} (ht : P.underlying t = some (.slice e)) {A B : Option Addr} {n k n' k' : Nat} (h : A = none ∨ B = none) : (Op.equal t (.slice A n k) (.slice B n' k')).run P w = .ok (A.isNone && B.isNone) w := by
 rw [eqd, Op.equalIn, Sem.run_bind, und_run ht, Result.andThen_ok]
 rcases h with rfl | rfl
 ·simp
 ·cases A <;> simp
theorem eq_pointer {t e : TypeId} (ht : P.underlying t = some (.pointer e)) {A B : Option Addr} (h : A = none ∨ B = none) : (Op.equal t (.pointer A) (.pointer B)).run P w = .ok (A.isNone && B.isNone) w := by
 rw [eqd, Op.equalIn, Sem.run_bind, und_run ht, Result.andThen_ok]
 rcases h with rfl | rfl
 ·simp
 ·cases A <;> simp
theorem eq_map {t k e : TypeId} (ht : P.underlying t = some (.map k e)) {A B : Option Nat} (h : A = none ∨ B = none) : (Op.equal t (.map A) (.map B)).run P w = .ok (A.isNone && B.isNone) w := by
 rw [eqd, Op.equalIn, Sem.run_bind, und_run ht, Result.andThen_ok]
 rcases h with rfl | rfl
 ·simp
 ·cases A <;> simp
def nilVal : Value → Bool
 | .slice none _ _ | .pointer none | .map none | .nilFunc => true
 | _ => false
theorem eq_func {t : TypeId} {ps rs : Array TypeId} {vv : Bool} (ht : P.underlying t = some (.func ps rs vv)) {u v : Value} (hu : u = .nilFunc ∨ ∃ f a k, u = .func f a k) (hv : v = .nilFunc ∨ ∃ f a k, v = .func f a k) (h : nilVal u = true ∨ nilVal v = true) : (Op.equal t u v).run P w = .ok (nilVal u && nilVal v) w := by
 rw [eqd, Op.equalIn, Sem.run_bind, und_run ht, Result.andThen_ok]
 rcases hu with rfl | ⟨f, a, k, rfl⟩ <;> rcases hv with rfl | ⟨f', a', k', rfl⟩ <;> simp_all [nilVal]
theorem eq_nil {t : TypeId} {x y : V} {u v : Value} (hx : VRel w L m x u) (hy : VRel w L m y v) (kx : vkind x = tkind P t) (ky : vkind y = tkind P t) (h : nilVal u = true ∨ nilVal v = true) : (Op.equal t u v).run P w = .ok (nilVal u && nilVal v) w := by
 have sx := vk_sh hx kx
 have sy := vk_sh hy ky
 rcases sx with ⟨e, ht, A, n, k, rfl⟩ | ⟨e, ht, A, rfl⟩ | ⟨k, e, ht, A, rfl⟩ | ⟨p, rs, vv, ht, hu⟩
 ·rcases sy with ⟨e', ht', A', n', k', rfl⟩ | ⟨e', ht', _⟩ | ⟨k', e', ht', _⟩ | ⟨p', rs', vv', ht', _⟩ <;> try (rw [ht] at ht'; cases ht'; done)
  rw [eq_slice ht (by cases A <;> cases A' <;> simp_all [nilVal])]
  cases A <;> cases A' <;> rfl
 ·rcases sy with ⟨e', ht', _⟩ | ⟨e', ht', A', rfl⟩ | ⟨k', e', ht', _⟩ | ⟨p', rs', vv', ht', _⟩ <;> try (rw [ht] at ht'; cases ht'; done)
  rw [eq_pointer ht (by cases A <;> cases A' <;> simp_all [nilVal])]
  cases A <;> cases A' <;> rfl
 ·rcases sy with ⟨e', ht', _⟩ | ⟨e', ht', _⟩ | ⟨k', e', ht', A', rfl⟩ | ⟨p', rs', vv', ht', _⟩ <;> try (rw [ht] at ht'; cases ht'; done)
  rw [eq_map ht (by cases A <;> cases A' <;> simp_all [nilVal])]
  cases A <;> cases A' <;> rfl
 ·rcases sy with ⟨e', ht', _⟩ | ⟨e', ht', _⟩ | ⟨k', e', ht', _⟩ | ⟨p', rs', vv', ht', hv⟩ <;> try (rw [ht] at ht'; cases ht'; done)
  exact eq_func ht hu hv h
theorem isNil_val {x : V} {v : Value} {c : Prop} {b : Bool} (hx : VRel w L m x v) (h : isNil x = some (c, b)) (hc : c) : nilVal v = b := by
 rcases isNil_run hx h hc with ⟨A, n, k, rfl, rfl⟩ | ⟨A, rfl, rfl⟩ | ⟨A, rfl, rfl⟩ | ⟨rfl, rfl⟩ | ⟨f, a, k, rfl, rfl⟩
 ·cases A <;> rfl
 ·cases A <;> rfl
 ·cases A <;> rfl
 ·rfl
 ·rfl
theorem nilLit_val {x : V} {v : Value} (hx : VRel w L m x v) (h : nilLit x = true) : nilVal v = true := by
 rcases nilLit_run hx h with ⟨n, k, rfl⟩ | rfl | rfl | rfl <;> rfl
theorem sh_of {t : TypeId} {x : V} {u : Value} (hx : VRel w L m x u) (he : vkind x = tkind P t) : (∃ A n k, u = .slice A n k) ∨ (∃ A, u = .pointer A) ∨ (∃ A, u = .map A) ∨ u = .nilFunc ∨ ∃ f a k, u = .func f a k := by
 rcases vk_sh hx he with ⟨e, _, h⟩ | ⟨e, _, h⟩ | ⟨k, e, _, h⟩ | ⟨a, b, c, _, h⟩
 ·exact .inl h
 ·exact .inr (.inl h)
 ·exact .inr (.inr (.inl h))
 ·exact .inr (.inr (.inr h))
theorem nilV_run {op : BinOp} {t : TypeId} {x y : V} {u v : Value} {c : Prop} {r : V} (hx : VRel w L m x u) (hy : VRel w L m y v) (h : nilV P op t x y = some (c, r)) (hc : c) (ox oy : Operand) :
  ∃ q, ((eqGuard op t ox oy u v) >>= fun _ => binOp op t u v).run P w = .ok q w ∧ VRel w L m r q := by
 unfold nilV at h
 by_cases hk : vkind x = tkind P t ∧ vkind y = tkind P t
 ·rw [if_pos hk] at h
  have noc : ∀ {c' : Prop} {b : Bool}, eqNil op c' b = some (c, r) → c' := by
   intro c' b he
   cases op <;> simp only [eqNil, Option.some.injEq, Prod.mk.injEq, reduceCtorEq] at he <;> rw [he.1] <;> exact hc
  by_cases hn : nilLit y = true
  ·rw [if_pos hn] at h
   cases hi : isNil x with
   | none => rw [hi] at h; cases h
   | some q =>
     obtain ⟨c', b⟩ := q
     rw [hi] at h
     have e1 := isNil_val hx hi (noc h)
     have e2 := nilLit_val hy hn
     have e3 := eq_nil hx hy hk.1 hk.2 (.inr e2)
     rw [e1, e2, Bool.and_true] at e3
     exact eqNil_run e3 (sh_of hx hk.1) (sh_of hy hk.2) h ox oy
  ·rw [if_neg hn] at h
   by_cases hn' : nilLit x = true
   ·rw [if_pos hn'] at h
    cases hi : isNil y with
    | none => rw [hi] at h; cases h
    | some q =>
      obtain ⟨c', b⟩ := q
      rw [hi] at h
      have e1 := isNil_val hy hi (noc h)
      have e2 := nilLit_val hx hn'
      have e3 := eq_nil hx hy hk.1 hk.2 (.inl e2)
      rw [e1, e2, Bool.true_and] at e3
      exact eqNil_run e3 (sh_of hx hk.1) (sh_of hy hk.2) h ox oy
   ·rw [if_neg hn'] at h; cases h
 ·rw [if_neg hk] at h; cases h
end Go.Fw
end
section
namespace Go.Fw
variable {P : Program} {w : World} {L : Nat → Prop} {m : Nat → Option Nat}
theorem wrap_lit (k : IntKind) (n : Int) : okLit (.int k (k.wrap n)) = true := by
 cases k <;> simp only [okLit, IntKind.wrap, IntKind.min, IntKind.max, IntKind.bits, IntKind.signed, Bool.and_eq_true, decide_eq_true_eq, ge_iff_le, Bool.false_and, Bool.true_and, Bool.false_eq_true, if_false, if_true, Int.reducePow, Nat.reduceSub, Int.reduceNeg, Int.reduceSub] <;> (try split) <;> omega
theorem int_lit {k : IntKind} {n : Int} : okLit (.int k n) = true ↔ k.min ≤ n ∧ n ≤ k.max := by simp [okLit]
theorem min_nonpos (k : IntKind) : k.min ≤ 0 := by cases k <;> decide
theorem max_nonneg (k : IntKind) : 0 ≤ k.max := by cases k <;> decide
theorem tmod_lit {k : IntKind} {a b : Int} (h : okLit (.int k a) = true) : okLit (.int k (a.tmod b)) = true := by
 rw [int_lit] at h ⊢
 have h1 := min_nonpos k
 have h2 := max_nonneg k
 have h3 : (a.tmod b).natAbs ≤ a.natAbs := by rw [Int.natAbs_tmod]; exact Nat.mod_le _ _
 rcases Int.le_total 0 a with h0 | h0
 ·have := Int.tmod_nonneg b h0; omega
 ·have := Int.tmod_nonneg b (show 0 ≤ -a by omega)
  rw [Int.neg_tmod] at this
  omega
theorem fdiv_lit {k : IntKind} {a : Int} (n : Nat) (h : okLit (.int k a) = true) : okLit (.int k (a.fdiv (2 ^ n))) = true := by
 rw [int_lit] at h ⊢
 have h1 := min_nonpos k
 have h2 := max_nonneg k
 have hp : (1 : Int) ≤ 2 ^ n := by
  have : (0 : Int) < 2 ^ n := Int.pow_pos (by omega)
  omega
 rw [Int.fdiv_eq_ediv_of_nonneg _ (by omega)]
 rcases Int.le_total 0 a with h0 | h0
 ·have a1 := Int.ediv_le_self (2 ^ n : Int) h0
  have a2 := Int.ediv_nonneg h0 (show (0 : Int) ≤ 2 ^ n by omega)
  omega
 ·have a1 : a ≤ a / 2 ^ n := by
   rw [Int.le_ediv_iff_mul_le (by omega)]
   have := Int.mul_le_mul_of_nonpos_left h0 hp
   omega
  have a2 : a / 2 ^ n ≤ 0 := by
   have := Int.ediv_le_ediv (show (0 : Int) < 2 ^ n by omega) h0
   simpa using this
  omega
theorem binI_lit {op : BinOp} {k : IntKind} {a b : Int} {c : Prop} {v : Value} (ha : okLit (.int k a) = true) (h : binI op k a b = some (c, v)) : okLit v = true := by
 cases op <;> simp only [binI, Option.some.injEq, Prod.mk.injEq, reduceCtorEq] at h <;> obtain ⟨rfl, rfl⟩ := h <;> first | rfl | exact wrap_lit _ _ | exact tmod_lit ha
theorem shiftI_lit {op : BinOp} {k : IntKind} {a b : Int} {c : Prop} {v : Value} (ha : okLit (.int k a) = true) (h : shiftI op k a b = some (c, v)) : okLit v = true := by
 cases op <;> simp only [shiftI, Option.some.injEq, Prod.mk.injEq, reduceCtorEq] at h <;> obtain ⟨rfl, rfl⟩ := h <;> first | rfl | exact wrap_lit _ _ | exact fdiv_lit _ ha
theorem binS_lit {op : BinOp} {x y : ByteArray} {c : Prop} {v : Value} (h : binS op x y = some (c, v)) (hc : c) : okLit v = true := by
 cases op <;> simp only [binS, Option.some.injEq, Prod.mk.injEq, reduceCtorEq] at h <;> obtain ⟨rfl, rfl⟩ := h <;> first | rfl | (simp only [okLit, ByteArray.size_append, decide_eq_true_eq]; omega)
theorem extract_lit {s : ByteArray} (l h : Nat) (hs : okLit (.string s) = true) : okLit (.string (s.extract l h)) = true := by
 simp only [okLit, decide_eq_true_eq, ByteArray.size_extract] at hs ⊢
 omega
theorem binV_run {op : BinOp} {t : TypeId} {x y : V} {u v : Value} {c : Prop} {r : V} (hx : VRel w L m x u) (hy : VRel w L m y v) (h : binV P op t x y = some (c, r)) (hc : c) (ox oy : Operand) :
  ∃ q, ((eqGuard op t ox oy u v) >>= fun _ => binOp op t u v).run P w = .ok q w ∧ VRel w L m r q := by
 unfold binV at h
 split at h
 ·rename_i k a k' b
  have hl := hx.lit_ok; have := hx.lit_inv; subst this
  have := hy.lit_inv; subst this
  have g : (eqGuard op t ox oy (.int k a) (.int k' b)).run P w = .ok () w := guard_none (by simp) (by simp)
  rw [Sem.run_bind, g, Result.andThen_ok]
  split at h
  ·cases hs : shiftI .shl k a b with
   | none => rw [hs] at h; cases h
   | some q => obtain ⟨c', v⟩ := q; rw [hs] at h; cases h; exact ⟨v, shiftI_run hs hc, .int (shiftI_lit hl hs)⟩
  ·cases hs : shiftI .shr k a b with
   | none => rw [hs] at h; cases h
   | some q => obtain ⟨c', v⟩ := q; rw [hs] at h; cases h; exact ⟨v, shiftI_run hs hc, .int (shiftI_lit hl hs)⟩
  ·rename_i h1 h2
   split at h
   ·rename_i hk; subst hk
    cases hs : binI op k a b with
    | none => rw [hs] at h; cases h
    | some q => obtain ⟨c', v⟩ := q; rw [hs] at h; cases h; exact ⟨v, binI_run ⟨h1, h2⟩ hs hc, .int (binI_lit hl hs)⟩
   ·cases h
 ·rename_i a b
  have hl := hx.lit_ok; have := hx.lit_inv; subst this
  have := hy.lit_inv; subst this
  have g : (eqGuard op t ox oy (.bool a) (.bool b)).run P w = .ok () w := guard_none (by simp) (by simp)
  rw [Sem.run_bind, g, Result.andThen_ok]
  split at h
  ·rename_i hb
   unfold boolT at hb
   split at hb
   ·rename_i ht
    have e : (Op.equal t (.bool a) (.bool b)).run P w = .ok (a == b) w := by
     rw [eqd, Op.equalIn, Sem.run_bind, und_run ht, Result.andThen_ok]; simp
    split at h <;> cases h
    ·exact ⟨.bool (a == b), by simp [binOp, e], .int⟩
    ·exact ⟨.bool !(a == b), by simp [binOp, e], .int⟩
   ·cases hb
  ·cases h
 ·rename_i a b
  have hl := hx.lit_ok; have := hx.lit_inv; subst this
  have := hy.lit_inv; subst this
  have g : (eqGuard op t ox oy (.string a) (.string b)).run P w = .ok () w := guard_none (by simp) (by simp)
  rw [Sem.run_bind, g, Result.andThen_ok]
  cases hs : binS op a b with
  | none => rw [hs] at h; cases h
  | some q => obtain ⟨c', v⟩ := q; rw [hs] at h; cases h; exact ⟨v, binS_run hs hc, .int (binS_lit hs hc)⟩
 ·exact nilV_run hx hy h hc ox oy
theorem unV_run {op : UnOp} {x r : V} {u : Value} (hx : VRel w L m x u) (h : unV op x = some r) : ∃ q, (Op.unary op u).run P w = .ok q w ∧ VRel w L m r q := by
 unfold unV at h
 split at h <;> cases h
 ·have := hx.lit_inv; subst this
  exact ⟨_, by simp [Op.unary, Op.intArith], .int (wrap_lit _ _)⟩
 ·have := hx.lit_inv; subst this
  exact ⟨_, by simp [Op.unary], .int⟩
theorem elem_und {t e : TypeId} (h : elemOfT P t = some e) : P.underlying t = some (.slice e) := by
 unfold elemOfT at h
 split at h
 ·rename_i hu; cases h; exact hu
 ·cases h
theorem idxV_run {t e : TypeId} {x i r : V} {u v : Value} {c : Prop} (ht : elemOfT P t = some e) (hz : szOf P e ≠ 0) (hx : VRel w L m x u) (hi : VRel w L m i v) (h : idxV (szOf P e) x i = some (c, r)) (hc : c) :
  ∃ q, (Instr.indexAt t u v).run P w = .ok q w ∧ VRel w L m r q := by
 have hu := elem_und ht
 unfold idxV at h
 split at h
 ·rename_i kk n
  have := hi.lit_inv; subst this
  split at h
  ·rename_i nn rows
   cases h
   obtain ⟨h0, h1, h2⟩ := hc
   unfold rowAt at h2 ⊢
   have hlt : n.toNat < rows.length := by omega
   have hrow : rows[n.toNat]? = some (rows.getD n.toNat []) := by simp [List.getD_eq_getElem?_getD, List.getElem?_eq_getElem hlt]
   cases hx with
   | d hd =>
     cases hd with
     | slE nn A cap hn => simp at hlt
     | sl nn rows b off cap sz vals hb hc' hmx hz' hv ho hr =>
       have hsz : sz = szOf P e := by rw [← h2]; exact (hz' _ (List.mem_of_getElem? hrow)).symm
       refine ⟨.pointer (some ⟨b, off + n.toNat * sz + 0, none⟩), ?_, .d (.ip _ b (off + n.toNat * sz) 0 (vals n.toNat) (fun j y hy => hb _ _ _ _ hrow hy) (fun j y hy => hv _ _ _ _ hrow hy) (fun j y hy => ho _ _ _ _ hrow hy) (fun j y hy => hr _ _ _ _ hrow hy))⟩
       simp [Instr.indexAt, asIntOf, und_run hu, sz_run hz, add_none, h0, h1, hsz]
  ·rename_i id sz off len
   split at h
   ·rename_i hsz; subst hsz
    cases h
    obtain ⟨h0, h1⟩ := hc
    cases hx with
    | rsE id sz => omega
    | rs id sz off len cap b cs ty fr hm hc' hxl hh hs =>
      refine ⟨.pointer (some ⟨b, (off + n.toNat) * szOf P e + 0, none⟩), ?_, .pt id _ (off + n.toNat) 0 b hm⟩
      simp [Instr.indexAt, asIntOf, und_run hu, sz_run hz, add_none, h0, h1, Nat.add_mul]
   ·cases h
  ·cases h
 ·cases h
theorem optInt_run {x : Option V} {u : Option Value} {o : Option Int} (h : optInt x = some o) (hx : match x, u with | none, none => True | some x, some u => VRel w L m x u | _, _ => False) : (o = none ∧ u = none) ∨ ∃ k n, o = some n ∧ u = some (.int k n) := by
 unfold optInt at h
 split at h
 ·cases h
  cases u with
  | none => exact .inl ⟨rfl, rfl⟩
  | some u => exact hx.elim
 ·rename_i k n
  cases h
  cases u with
  | none => exact hx.elim
  | some u => have := VRel.lit_inv hx; subst this; exact .inr ⟨k, n, rfl, rfl⟩
 ·cases h
theorem bounds_run {len cap : Nat} (hlc : len ≤ cap) {lo hi : Option Value} {l h : Nat} (hl : (lo = none ∧ l = 0) ∨ ∃ k n, lo = some (.int k n) ∧ 0 ≤ n ∧ n.toNat = l) (hh : (hi = none ∧ h = len) ∨ ∃ k n, hi = some (.int k n) ∧ 0 ≤ n ∧ n.toNat = h) (h1 : l ≤ h) (h2 : h ≤ cap) (isS : Bool) :
  (Instr.sliceBounds isS len cap lo hi none).run P w = .ok (l, h, cap) w := by
 have sb : ∀ (k : IntKind) (n : Int) (y : Nat) (code : BoundsCode), 0 ≤ n → n.toNat ≤ y → (Instr.sliceBound (.int k n) y code).run P w = .ok n.toNat w := by
  intro k n y code a b
  simp [Instr.sliceBound, asIntOf, a, show n ≤ (y : Int) by omega]
 rcases hl with ⟨rfl, rfl⟩ | ⟨k, n, rfl, a, rfl⟩ <;> rcases hh with ⟨rfl, rfl⟩ | ⟨k', n', rfl, a', rfl⟩
 ·simp [Instr.sliceBounds]
 ·simp [Instr.sliceBounds, sb _ _ _ _ a' h2]
 ·simp [Instr.sliceBounds, sb _ _ _ _ a h1]
 ·simp [Instr.sliceBounds, sb _ _ _ _ a' h2, sb _ _ _ _ a h1]
theorem slice_run {t e : TypeId} (ht : elemOfT P t = some e) (hz : szOf P e ≠ 0) {A : Option Addr} {len cap : Nat} (hlc : len ≤ cap) {lo hi : Option Value} {l h : Nat} (hl : (lo = none ∧ l = 0) ∨ ∃ k n, lo = some (.int k n) ∧ 0 ≤ n ∧ n.toNat = l) (hh : (hi = none ∧ h = len) ∨ ∃ k n, hi = some (.int k n) ∧ 0 ≤ n ∧ n.toNat = h) (h1 : l ≤ h) (h2 : h ≤ cap) :
  (Instr.sliceAt t (.slice A len cap) lo hi none).run P w = .ok (.slice (if cap = l then A else A.map (·.add (l * szOf P e))) (h - l) (cap - l)) w := by
 have hu := elem_und ht
 simp only [Instr.sliceAt, Sem.run_bind, und_run hu, Result.andThen_ok]
 simp only [Instr.slice, Sem.run_bind, und_run hu, Result.andThen_ok, bounds_run hlc hl hh h1 h2, sz_run hz, Sem.run_pure]
theorem str_und {t : TypeId} (h : strT P t = true) : P.underlying t = some .string := by
 unfold strT at h
 split at h
 ·assumption
 ·cases h
theorem sliceStr_run {t : TypeId} (ht : strT P t = true) {s : ByteArray} {lo hi : Option Value} {l h : Nat} (hl : (lo = none ∧ l = 0) ∨ ∃ k n, lo = some (.int k n) ∧ 0 ≤ n ∧ n.toNat = l) (hh : (hi = none ∧ h = s.size) ∨ ∃ k n, hi = some (.int k n) ∧ 0 ≤ n ∧ n.toNat = h) (h1 : l ≤ h) (h2 : h ≤ s.size) :
  (Instr.sliceAt t (.string s) lo hi none).run P w = .ok (.string (s.extract l h)) w := by
 have hu := str_und ht
 simp only [Instr.sliceAt, Sem.run_bind, und_run hu, Result.andThen_ok]
 simp only [Instr.slice, Sem.run_bind, und_run hu, Result.andThen_ok, bounds_run (Nat.le_refl _) hl hh h1 h2, Sem.run_pure, Option.isSome_none, Bool.false_eq_true, if_false, Sem.run_ite]
def optRel (w : World) (L : Nat → Prop) (m : Nat → Option Nat) : Option V → Option Value → Prop
 | none, none => True
 | some x, some u => VRel w L m x u
 | _, _ => False
theorem optInt_run' {x : Option V} {u : Option Value} {o : Option Int} (h : optInt x = some o) (hx : optRel w L m x u) : (o = none ∧ u = none) ∨ ∃ k n, o = some n ∧ u = some (.int k n) := by
 refine optInt_run (w := w) (L := L) (m := m) h ?_
 cases x <;> cases u <;> exact hx
theorem sliceS_run {t : TypeId} {x r : V} {u : Value} {lo hi mx : Option V} {lo' hi' mx' : Option Value} {c : Prop} (ht : strT P t = true) (hx : VRel w L m x u) (hlo : optRel w L m lo lo') (hhi : optRel w L m hi hi') (hmx : optRel w L m mx mx')
  (h : sliceS x lo hi mx = some (c, r)) (hc : c) : ∃ q, (Instr.sliceAt t u lo' hi' mx').run P w = .ok q w ∧ VRel w L m r q := by
 unfold sliceS at h
 split at h
 ·rename_i lo1 hi1 e1 e2
  cases mx' with
  | some _ => exact hmx.elim
  | none =>
  split at h
  ·rename_i s
   have hsl := hx.lit_ok; have := hx.lit_inv; subst this
   rcases optInt_run' e1 hlo with ⟨rfl, rfl⟩ | ⟨k, n, rfl, rfl⟩ <;> rcases optInt_run' e2 hhi with ⟨rfl, rfl⟩ | ⟨k', n', rfl, rfl⟩ <;> simp only [cutStr, Option.some.injEq, Prod.mk.injEq] at h <;> obtain ⟨rfl, rfl⟩ := h
   ·exact ⟨_, sliceStr_run ht (.inl ⟨rfl, rfl⟩) (.inl ⟨rfl, rfl⟩) (Nat.zero_le _) (Nat.le_refl _), .int (extract_lit _ _ hsl)⟩
   ·exact ⟨_, sliceStr_run ht (.inl ⟨rfl, rfl⟩) (.inr ⟨k', n', rfl, hc.1, rfl⟩) (Nat.zero_le _) (by omega), .int (extract_lit _ _ hsl)⟩
   ·exact ⟨_, sliceStr_run ht (.inr ⟨k, n, rfl, hc.1, rfl⟩) (.inl ⟨rfl, rfl⟩) (by omega) (by omega), .int (extract_lit _ _ hsl)⟩
   ·exact ⟨_, sliceStr_run ht (.inr ⟨k, n, rfl, hc.1.1, rfl⟩) (.inr ⟨k', n', rfl, by omega, rfl⟩) (by omega) (by omega), .int (extract_lit _ _ hsl)⟩
  ·cases h
 ·cases h
theorem sl_cut {rows : List (List D)} {nn : Bool} {A : Option Addr} {len cap z l h : Nat} (hx : VRel w L m (.d (.sl nn rows)) (.slice A len cap)) (hl : l ≤ h) (hh : h ≤ rows.length) (hz : l ≠ 0 → ∀ r ∈ rows, r.length = z) :
  len = rows.length ∧ len ≤ cap ∧ VRel w L m (.d (.sl false ((rows.take h).drop l))) (.slice (if cap = l then A else A.map (·.add (l * z))) (h - l) (cap - l)) := by
 cases hx with
 | d hd =>
   cases hd with
   | slE nn A cap hn =>
     refine ⟨rfl, Nat.zero_le _, ?_⟩
     simp at hh
     have e1 : h = 0 := hh
     have e2 : l = 0 := by omega
     subst e1; subst e2
     exact .d (.slE false _ _ (by simp))
   | sl nn rows b off cap sz vals hb hc' hmx hz' hv ho hr =>
     refine ⟨rfl, hc', ?_⟩
     by_cases he : l = h
     ·subst he
      have e : (rows.take l).drop l = [] := by simp
      rw [e, Nat.sub_self]
      exact .d (.slE false _ _ (by simp))
     ·have hne : cap ≠ l := by omega
      rw [if_neg hne]
      have hzz : l * z = l * sz := by
       by_cases h0 : l = 0
       ·simp [h0]
       ·have hr0 : rows[0]? = some (rows[0]'(by omega)) := by simp
        rw [← hz' _ (List.mem_of_getElem? hr0), hz h0 _ (List.mem_of_getElem? hr0)]
      have hlen : ((rows.take h).drop l).length = h - l := by simp; omega
      have key : ∀ (i j : Nat) (r : List D) (x : D), ((rows.take h).drop l)[i]? = some r → r[j]? = some x → rows[l + i]? = some r := by
       intro i j r x h1 h2
       rw [List.getElem?_drop, List.getElem?_take] at h1
       split at h1
       ·exact h1
       ·cases h1
      have q := VRel.d (m := m) (DRel.sl (w := w) (L := L) false ((rows.take h).drop l) b (off + l * sz) (cap - l) sz (fun i j => vals (l + i) j)
       (fun i j r x h1 h2 => hb _ j r x (key i j r x h1 h2) h2) (by rw [hlen]; omega) (by rw [hlen]; omega) (fun r hr' => hz' r (List.mem_of_mem_take (List.mem_of_mem_drop hr')))
       (fun i j r x h1 h2 => by
         have := hv _ j r x (key i j r x h1 h2) h2
         rw [Nat.add_mul, ← Nat.add_assoc] at this
         exact this)
       (fun i j r x h1 h2 => ho _ j r x (key i j r x h1 h2) h2) (fun i j r x h1 h2 => hr _ j r x (key i j r x h1 h2) h2))
      rw [hlen] at q
      simp only [Option.map_some, add_none, hzz]
      exact q
theorem sliceV_run {t e : TypeId} {x r : V} {u : Value} {lo hi mx : Option V} {lo' hi' mx' : Option Value} {c : Prop} (ht : elemOfT P t = some e) (hz : szOf P e ≠ 0) (hx : VRel w L m x u) (hlo : optRel w L m lo lo') (hhi : optRel w L m hi hi') (hmx : optRel w L m mx mx')
  (h : sliceV (szOf P e) x lo hi mx = some (c, r)) (hc : c) : ∃ q, (Instr.sliceAt t u lo' hi' mx').run P w = .ok q w ∧ VRel w L m r q := by
 unfold sliceV at h
 split at h
 ·rename_i lo1 hi1 e1 e2
  cases mx' with
  | some _ => exact hmx.elim
  | none =>
  split at h
  ·rename_i nn rows
   obtain ⟨A, len, cap, rfl⟩ : ∃ A len cap, u = .slice A len cap := by cases hx with | d hd => cases hd <;> exact ⟨_, _, _, rfl⟩
   have hlen : len = rows.length ∧ len ≤ cap := by cases hx with | d hd => cases hd <;> simp_all
   obtain ⟨rfl, hlc⟩ := hlen
   rcases optInt_run' e1 hlo with ⟨rfl, rfl⟩ | ⟨k, n, rfl, rfl⟩ <;> rcases optInt_run' e2 hhi with ⟨rfl, rfl⟩ | ⟨k', n', rfl, rfl⟩ <;> simp only [cutSl, Option.some.injEq, Prod.mk.injEq] at h <;> obtain ⟨rfl, rfl⟩ := h
   ·refine ⟨_, slice_run ht hz hlc (.inl ⟨rfl, rfl⟩) (.inl ⟨rfl, rfl⟩) (Nat.zero_le _) hlc, ?_⟩
    have : (if cap = 0 then A else A.map (·.add (0 * szOf P e))) = A := by
     split
     ·rfl
     ·cases A with
      | none => rfl
      | some a => simp [Addr.add]
    rw [this]; exact hx
   ·have q := (sl_cut (z := szOf P e) hx (Nat.zero_le _) (show n'.toNat ≤ rows.length by omega) (by simp)).2.2
    simp only [List.drop_zero] at q
    exact ⟨_, slice_run ht hz hlc (.inl ⟨rfl, rfl⟩) (.inr ⟨k', n', rfl, hc.1, rfl⟩) (Nat.zero_le _) (by omega), q⟩
   ·have q := (sl_cut (z := szOf P e) (h := rows.length) hx (show n.toNat ≤ rows.length by omega) (Nat.le_refl _) (fun _ => hc.2)).2.2
    rw [List.take_length] at q
    exact ⟨_, slice_run ht hz hlc (.inr ⟨k, n, rfl, hc.1.1, rfl⟩) (.inl ⟨rfl, rfl⟩) (by omega) hlc, q⟩
   ·have q := (sl_cut (z := szOf P e) (h := n'.toNat) (l := n.toNat) hx (by omega) (by omega) (fun _ => hc.2)).2.2
    exact ⟨_, slice_run ht hz hlc (.inr ⟨k, n, rfl, hc.1.1.1, rfl⟩) (.inr ⟨k', n', rfl, by omega, rfl⟩) (by omega) (by omega), q⟩
  ·rename_i id sz off len
   split at h
   ·rename_i hsz
    subst hsz
    -- a slice over a block
    have cut : ∀ (l h' : Nat) (A : Option Addr) (cap : Nat), u = .slice A len cap → len ≤ cap → l ≤ h' → h' ≤ len → VRel w L m (if l = h' then .d (.sl false []) else .rs id (szOf P e) (off + l) (h' - l)) (.slice (if cap = l then A else A.map (·.add (l * szOf P e))) (h' - l) (cap - l)) := by
     intro l h' A cap hu hlc h1 h2
     split
     ·rename_i he; subst he; rw [Nat.sub_self]; exact .d (.slE false _ _ (by simp))
     ·subst hu
      cases hx with
      | rsE id sz => omega
      | rs id sz off len cap b cs ty fr hm hc' hxl hh hs =>
        rw [if_neg (by omega)]
        simp only [Option.map_some, add_none]
        rw [show off * szOf P e + l * szOf P e = (off + l) * szOf P e by rw [Nat.add_mul]]
        exact .rs id _ (off + l) (h' - l) (cap - l) b cs ty fr hm (by omega) (by omega) hh (by rw [show off + l + (cap - l) = off + cap by omega]; exact hs)
    obtain ⟨A, cap, rfl, hlc⟩ : ∃ A cap, u = .slice A len cap ∧ len ≤ cap := by
     cases hx with
     | rsE => exact ⟨_, _, rfl, Nat.le_refl _⟩
     | rs => exact ⟨_, _, rfl, by assumption⟩
    rcases optInt_run' e1 hlo with ⟨rfl, rfl⟩ | ⟨k, n, rfl, rfl⟩ <;> rcases optInt_run' e2 hhi with ⟨rfl, rfl⟩ | ⟨k', n', rfl, rfl⟩ <;> simp only [cutRs, Option.some.injEq, Prod.mk.injEq] at h <;> obtain ⟨rfl, rfl⟩ := h
    ·refine ⟨_, slice_run ht hz hlc (.inl ⟨rfl, rfl⟩) (.inl ⟨rfl, rfl⟩) (Nat.zero_le _) hlc, ?_⟩
     have : (if cap = 0 then A else A.map (·.add (0 * szOf P e))) = A := by
      split
      ·rfl
      ·cases A with
       | none => rfl
       | some a => simp [Addr.add]
     rw [this]; exact hx
    ·have q := cut 0 n'.toNat A cap rfl hlc (Nat.zero_le _) (by omega)
     refine ⟨_, slice_run ht hz hlc (.inl ⟨rfl, rfl⟩) (.inr ⟨k', n', rfl, hc.1, rfl⟩) (Nat.zero_le _) (by omega), ?_⟩
     by_cases h0 : n' = 0
     ·subst h0; simpa using q
     ·rw [if_neg (by omega)] at q; rw [if_neg h0]; exact q
    ·have q := cut n.toNat len A cap rfl hlc (by omega) (Nat.le_refl _)
     refine ⟨_, slice_run ht hz hlc (.inr ⟨k, n, rfl, hc.1, rfl⟩) (.inl ⟨rfl, rfl⟩) (by omega) hlc, ?_⟩
     by_cases h0 : n = (len : Int)
     ·rw [if_pos (by omega)] at q; rw [if_pos h0]; exact q
     ·rw [if_neg (by omega)] at q; rw [if_neg h0]; exact q
    ·have q := cut n.toNat n'.toNat A cap rfl hlc (by omega) (by omega)
     refine ⟨_, slice_run ht hz hlc (.inr ⟨k, n, rfl, hc.1.1, rfl⟩) (.inr ⟨k', n', rfl, by omega, rfl⟩) (by omega) (by omega), ?_⟩
     by_cases h0 : n = n'
     ·rw [if_pos (by omega)] at q; rw [if_pos h0]; exact q
     ·rw [if_neg (by omega)] at q; rw [if_neg h0]; exact q
   ·cases h
  ·cases h
 ·cases h
end Go.Fw
end
section
namespace Go.Fw
variable {P : Program} {w : World} {L : Nat → Prop} {m : Nat → Option Nat}
theorem convV_run {src dst : TypeId} {x r : V} {u : Value} (hx : VRel w L m x u) (h : convV P src dst x = some r) : ∃ q, (convert src dst u).run P w = .ok q w ∧ VRel w L m r q := by
 unfold convV at h
 split at h
 ·have := hx.lit_inv; subst this
  have io : ∀ {t : TypeId} {k : IntKind}, intOf? P t = some k → P.underlying t = some (.int k) := by
   intro t k h
   unfold intOf? at h
   split at h
   ·cases h; assumption
   ·cases h
  split at h
  ·rename_i k1 k2 h1 h2
   cases h
   refine ⟨_, ?_, .int (wrap_lit _ _)⟩
   simp [convert, und_run (io h1), und_run (io h2), Conv.intToInt]
  ·cases h
 ·cases h
theorem minmax_run {mx : Bool} {l : List V} {r : V} {us : List Value} (hl : All2 (VRel w L m) l us) (h : minmax mx l = some r) (ts : Array TypeId) (t : TypeId) : ∃ q, (if mx then Builtin.max_ ts t us.toArray else Builtin.min_ ts t us.toArray).run P w = .ok q w ∧ VRel w L m r q := by
 unfold minmax at h
 split at h
 ·rename_i k a k' b
  split at h
  ·rename_i hk; subst hk
   cases h
   obtain ⟨y, s, rfl, h1, h2⟩ := hl.head
   obtain ⟨y', s', rfl, h3, h4⟩ := h2.head
   have : s' = [] := by have := h4.len; simpa using this
   subst this
   have k1 := h1.lit_ok
   have k2 := h3.lit_ok
   have := h1.lit_inv; subst this
   have := h3.lit_inv; subst this
   cases mx
   ·refine ⟨_, by simp [Builtin.min_, Builtin.min2], .int ?_⟩
    simp only [Bool.false_eq_true, if_false]; split <;> assumption
   ·refine ⟨_, by simp [Builtin.max_, Builtin.max2], .int ?_⟩
    simp only [if_true]; split <;> assumption
  ·cases h
 ·cases h
theorem fill_step {cells : List V} {arr : List Value} {cs : List V} {vs : List Value} (h : All2 (VRel w L m) cells arr) (hc : All2 (VRel w L m) cs vs) : ∀ (off k : Nat), All2 (VRel w L m) (setAt cells (off + k) cs) ((vs.zipIdx k).foldl (fun a (x : Value × Nat) => a.setIfInBounds (off + x.2) x.1) arr.toArray).toList := by
 induction cs generalizing cells arr vs with
 | nil =>
   intro off k
   have : vs = [] := by have := hc.len; simpa using this
   subst this
   simpa [setAt] using h
 | cons c r ih =>
   intro off k
   obtain ⟨y, s, rfl, h1, h2⟩ := hc.head
   simp only [setAt, List.zipIdx_cons, List.foldl_cons]
   have h3 : All2 (VRel w L m) (cells.set (off + k) c) (arr.set (off + k) y) := h.set _ h1
   have := ih h3 h2 off (k + 1)
   simpa [Nat.add_assoc] using this
theorem foldl_ones {vs : List Value} (hv : Ones vs) : ∀ (off k : Nat) {arr : List Value}, Ones arr → Ones ((vs.zipIdx k).foldl (fun a (x : Value × Nat) => a.setIfInBounds (off + x.2) x.1) arr.toArray).toList := by
 induction vs with
 | nil => intro off k arr h; simpa using h
 | cons v r ih =>
   intro off k arr h
   simp only [List.zipIdx_cons, List.foldl_cons]
   have h3 : Ones (arr.set (off + k) v) := by
    intro x hx
    rcases List.mem_or_eq_of_mem_set hx with hx | rfl
    ·exact h x hx
    ·exact hv _ (by simp)
   have := ih (fun x hx => hv x (by simp [hx])) off (k + 1) h3
   simpa using this
theorem fill_rel {place : Nat → Option (Nat × Nat)} : ∀ {parts : List (Nat × V)} {ps : List (Nat × Value)} {cells out : List V} {arr : List Value}, All2 (VRel w L m) cells arr → Ones arr →
  All2 (fun (a : Nat × V) (b : Nat × Value) => a.1 = b.1 ∧ VRel w L m a.2 b.2) parts ps → fillV place cells parts = some out → ∃ res : List Value, Instr.fill place arr.toArray ps = some res.toArray ∧ Ones res ∧ All2 (VRel w L m) out res := by
 intro parts
 induction parts with
 | nil =>
   intro ps cells out arr h ho hp hf
   have : ps = [] := by have := hp.len; simpa using this
   subst this
   cases hf
   exact ⟨arr, rfl, ho, h⟩
 | cons a r ih =>
   intro ps cells out arr h ho hp hf
   obtain ⟨y, s, rfl, h1, h2⟩ := hp.head
   obtain ⟨i, x⟩ := a
   obtain ⟨j, v⟩ := y
   obtain ⟨hij, hxv⟩ := h1
   simp only at hij hxv
   subst hij
   simp only [fillV] at hf
   cases hpl : place i with
   | none => simp [hpl] at hf
   | some q =>
     obtain ⟨off, n⟩ := q
     cases hcs : cellsOfV x with
     | none => simp [hpl, hcs] at hf
     | some cs =>
       simp only [hpl, hcs] at hf
       split at hf
       ·rename_i hn
        obtain ⟨vs, e1, e2, e3⟩ := cells_rel hxv hcs
        have hsz : v.cells.size = n := by rw [e1]; simpa [e3.len] using hn.1
        have hst := fill_step h e3 off 0
        have hon := foldl_ones e2 off 0 ho
        simp only [Nat.add_zero] at hst
        obtain ⟨res, r1, r2, r3⟩ := ih hst hon h2 hf
        refine ⟨res, ?_, r2, r3⟩
        simp only [Instr.fill, hpl]
        have hle : ¬ (v.cells.size ≠ n ∨ off + v.cells.size > arr.toArray.size) := by
         have := h.len
         have := hn.2
         have := e3.len
         rw [e1] at hsz ⊢
         simp at hsz ⊢
         omega
        have hbool : (decide (v.cells.size ≠ n) || decide (off + v.cells.size > arr.toArray.size)) = false := by simpa using hle
        simp only [hbool, Bool.false_eq_true, if_false]
        rw [← r1, e1]
        congr 1
        simp only [Array.toArray_toList, ← Array.foldl_toList, Array.toList_zipIdx]
       ·cases hf
theorem places_und {t : TypeId} {ps : List (Nat × Nat)} (h : placesT P t = some ps) : ∃ fs, P.underlying t = some (.struct fs) ∧ fs.toList.mapM (fun f => (P.info? f.type).map fun i => (f.offset, i.size)) = some ps := by
 unfold placesT at h
 split at h
 ·exact ⟨_, by assumption, h⟩
 ·cases h
theorem zero_info {t : TypeId} {z : List Value} (h : zeroOf P t = some z) : ∃ i v, P.info? t = some i ∧ i.zero = some v ∧ v.cells = z.toArray ∧ z.length = i.size := by
 unfold zeroOf at h
 split at h
 ·rename_i i hi
  split at h
  ·rename_i v hv
   split at h
   ·rename_i hs
    cases h
    exact ⟨i, v, hi, hv, by simp, by simpa using hs⟩
   ·cases h
  ·cases h
 ·cases h
theorem oneCells_ones {z : List Value} (h : oneCells z = true) : Ones z := fun v hv => by
 simp only [oneCells, List.all_eq_true, Bool.and_eq_true] at h
 exact (h v hv).1
theorem lits_rel {z : List Value} (hz : oneCells z = true) : All2 (VRel w L m) (lits z) z := ⟨by simp [lits], fun j x y h1 h2 => by
 simp only [lits, List.getElem?_map, h2, Option.map_some, Option.some.injEq] at h1
 simp only [oneCells, List.all_eq_true, Bool.and_eq_true] at hz
 rw [← h1]; exact .int (hz y (List.mem_of_getElem? h2)).2⟩
theorem build_run {t : TypeId} {ps : List (Nat × Nat)} {z : List Value} {parts : List (Nat × V)} {vs : Array (Nat × Value)} {out : List V} (hp : placesT P t = some ps) (hz : zeroOf P t = some z) (ho : oneCells z = true)
  (hr : All2 (fun (a : Nat × V) (b : Nat × Value) => a.1 = b.1 ∧ VRel w L m a.2 b.2) parts vs.toList) (h : fillV (fun i => ps[i]?) (lits z) parts = some out) : ∃ q, (Instr.build t vs).run P w = .ok q w ∧ VRel w L m (mkAg out) q := by
 obtain ⟨fs, hu, hm⟩ := places_und hp
 obtain ⟨i, v, hi, hv, hc, hl⟩ := zero_info hz
 obtain ⟨res, r1, r2, r3⟩ := fill_rel (lits_rel ho) (oneCells_ones ho) hr h
 refine ⟨.agg res.toArray, run_build w t vs res.toArray ?_, mkAg_rel r2 r3⟩
 unfold Program.built
 simp only [hi, hu, hv, hm, hc]
 simpa using r1
theorem arr_und {t : TypeId} {n : Nat} {e : TypeId} (h : arrOfT P t = some (n, e)) : P.underlying t = some (.array n e) := by
 unfold arrOfT at h
 split at h
 ·cases h; assumption
 ·cases h
theorem sz_info {t : TypeId} (h : szOf P t ≠ 0) : ∃ i, P.info? t = some i ∧ i.size = szOf P t := by
 unfold szOf at h ⊢
 split at h
 ·rename_i i hi; exact ⟨i, hi, rfl⟩
 ·exact absurd rfl h
theorem buildA_run {t : TypeId} {parts : List (Nat × V)} {vs : Array (Nat × Value)} {r : V} (hr : All2 (fun (a : Nat × V) (b : Nat × Value) => a.1 = b.1 ∧ VRel w L m a.2 b.2) parts vs.toList) (h : buildA P t parts = some r) : ∃ q, (Instr.build t vs).run P w = .ok q w ∧ VRel w L m r q := by
 unfold buildA at h
 split at h
 ·rename_i n e z ha hz
  split at h
  ·rename_i hc
   obtain ⟨ho, hs⟩ := hc
   split at h
   ·rename_i cs hcs
    cases h
    have hu := arr_und ha
    obtain ⟨i, v, hi, hv, hcv, hl⟩ := zero_info hz
    obtain ⟨ie, hie, hes⟩ := sz_info hs
    obtain ⟨res, r1, r2, r3⟩ := fill_rel (lits_rel ho) (oneCells_ones ho) hr hcs
    refine ⟨.agg res.toArray, run_build w t vs res.toArray ?_, mkAg_rel r2 r3⟩
    unfold Program.built
    simp only [hi, hu, hv, hie, hcv, hes]
    simpa using r1
   ·cases h
  ·cases h
 ·cases h
theorem fld_und {t : TypeId} {f off : Nat} {ft : TypeId} (h : fldOf P t f = some (off, ft)) : ∃ fs x, P.underlying t = some (.struct fs) ∧ fs[f]? = some x ∧ x.offset = off ∧ x.type = ft := by
 unfold fldOf at h
 split at h
 ·rename_i fs hu
  split at h
  ·rename_i x hx; cases h; exact ⟨fs, x, hu, hx, rfl, rfl⟩
  ·cases h
 ·cases h
theorem aggCells_rel {x : V} {v : Value} {cs : List V} (h : VRel w L m x v) (hc : aggCells x = some cs) : ∃ vs : List Value, v = .agg vs.toArray ∧ Ones vs ∧ All2 (VRel w L m) cs vs := by
 unfold aggCells at hc
 split at hc
 ·cases hc; exact h.ag_inv
 ·cases hc
  cases h with
  | d h =>
    obtain ⟨vs, e, ho, hr⟩ := h.ag_inv
    exact ⟨vs, e, ho, All2.of_map hr fun x y h => .d h⟩
 ·cases hc
theorem Ones.sub {vs us : List Value} (h : Ones vs) (hs : ∀ v ∈ us, v ∈ vs) : Ones us := fun v hv => h v (hs v hv)
theorem part_run {ft : TypeId} {g : Bool} {off : Nat} {cs : List V} {vs : List Value} {r : V} (hg : aggOf P ft = some g) (hz : szOf P ft ≠ 0) (h : All2 (VRel w L m) cs vs) (ho : Ones vs) (hp : partV g (szOf P ft) off cs = some r) :
  ∃ q, (part ft vs.toArray off).run P w = .ok q w ∧ VRel w L m r q := by
 unfold partV at hp
 split at hp
 ·rename_i hle
  have h1 := (h.drop off).take (szOf P ft)
  have o1 : Ones ((vs.drop off).take (szOf P ft)) := ho.sub fun v hv => List.mem_of_mem_drop (List.mem_of_mem_take hv)
  obtain ⟨h2, h3, h4⟩ := one_rel h1 o1 hp
  refine ⟨_, ?_, h2⟩
  cases g with
  | true =>
    simp only [part, Sem.run_bind, agg_run hg, Result.andThen_ok, if_true, sz_run hz, Sem.run_pure]
    congr 2
    simp [List.extract_eq_take_drop, List.take_drop]
  | false =>
    have hlt : off < vs.length := by have := h.len; omega
    simp only [part, Sem.run_bind, agg_run hg, Result.andThen_ok, Bool.false_eq_true, if_false]
    have e : vs.toArray[off]? = some vs[off] := by simp [hlt]
    rw [e]
    simp only [Sem.run_pure]
    congr 1
    have : (vs.drop off).take (szOf P ft) = vs[off] :: ((vs.drop (off + 1)).take (szOf P ft - 1)) := by
     rw [List.drop_eq_getElem_cons hlt]
     cases hn : szOf P ft with
     | zero => exact absurd hn hz
     | succ n => rw [List.take_succ_cons]; rfl
    rw [this]; rfl
 ·cases hp
theorem All2.arr {R : V → Value → Prop} {ρ : Operand → V} {ρ' : Operand → Value} (hρ : ∀ x, R (ρ x) (ρ' x)) (xs : Array Operand) : All2 R (xs.toList.map ρ) (xs.map ρ').toList :=
 ⟨by simp, fun j x y h1 h2 => by
  simp only [List.getElem?_map, Option.map_eq_some_iff] at h1
  obtain ⟨z, hz, rfl⟩ := h1
  simp only [Array.toList_map, List.getElem?_map, hz, Option.map_some, Option.some.injEq] at h2
  rw [← h2]; exact hρ z⟩
theorem optRel_map {ρ : Operand → V} {ρ' : Operand → Value} (hρ : ∀ x, VRel w L m (ρ x) (ρ' x)) (x : Option Operand) : optRel w L m (x.map ρ) (x.map ρ') := by
 cases x with
 | none => trivial
 | some x => exact hρ x
theorem opP_run {ρ : Operand → V} {ρ' : Operand → Value} (hρ : ∀ x, VRel w L m (ρ x) (ρ' x)) {o : Oper} {c : Prop} {r : V} (h : opP P o.op ρ = some (c, r)) (hc : c) : ∃ q, (execOp ρ' o).run P w = .ok (.value q) w ∧ VRel w L m r q := by
 have lift : ∀ {s : Sem Value} {q : Value}, s.run P w = .ok q w → ((s >>= fun v => pure (.value v)) : Sem Next).run P w = .ok (.value q) w := by
  intro s q hs
  rw [Sem.run_bind, hs]; rfl
 unfold opP at h
 unfold execOp
 split at h <;> rename_i heq <;> simp only [heq] <;> try (cases h; done)
 ·cases h; exact ⟨_, rfl, hρ _⟩
 ·cases h; exact ⟨_, rfl, hρ _⟩
 ·-- pick
  rename_i cc a b
  split at h
  ·rename_i t ht
   cases h
   have h1 := hρ cc
   rw [ht] at h1
   have h2 := h1.lit_inv
   rw [h2]
   cases t
   ·exact ⟨ρ' b, by simp [asBool], hρ b⟩
   ·exact ⟨ρ' a, by simp [asBool], hρ a⟩
  ·cases h
 ·-- build
  rename_i t parts
  split at h
  ·rename_i ps z hp hz
   split at h
   ·rename_i hone
    split at h
    ·rename_i cs hcs
     cases h
     obtain ⟨q, h1, h2⟩ := build_run (w := w) (L := L) (m := m) (vs := parts.map fun (i, x) => (i, ρ' x)) hp hz hone (All2.mono (S := fun (a : Nat × V) (b : Nat × Value) => a.1 = b.1 ∧ VRel w L m a.2 b.2) ⟨by simp, fun j x y a b => by
      simp only [List.getElem?_map, Option.map_eq_some_iff] at a
      obtain ⟨u, hu, rfl⟩ := a
      simp only [Array.toList_map, List.getElem?_map, hu, Option.map_some, Option.some.injEq] at b
      rw [← b]; exact (show _ = _ ∧ VRel w L m _ _ from ⟨rfl, hρ u.2⟩)⟩ fun _ _ h => h) hcs
     exact ⟨q, lift h1, h2⟩
    ·cases h
   ·cases h
  ·split at h
   ·rename_i v hv
    cases h
    obtain ⟨q, h1, h2⟩ := buildA_run (P := P) (w := w) (L := L) (m := m) (vs := parts.map fun (i, x) => (i, ρ' x)) (All2.mono (S := fun (a : Nat × V) (b : Nat × Value) => a.1 = b.1 ∧ VRel w L m a.2 b.2) ⟨by simp, fun j x y a b => by
     simp only [List.getElem?_map, Option.map_eq_some_iff] at a
     obtain ⟨u, hu, rfl⟩ := a
     simp only [Array.toList_map, List.getElem?_map, hu, Option.map_some, Option.some.injEq] at b
     rw [← b]; exact (show _ = _ ∧ VRel w L m _ _ from ⟨rfl, hρ u.2⟩)⟩ fun _ _ h => h) hv
    exact ⟨q, lift h1, h2⟩
   ·cases h
  ·cases h
 ·-- nilCheck
  rename_i x
  have hx := hρ x
  generalize ρ' x = u at hx ⊢
  split at h <;> cases h <;> rename_i hv <;> rw [hv] at hx
  ·cases hx with
   | pt id sz row col b hm => exact ⟨_, rfl, .pt _ _ _ _ _ hm⟩
  ·cases hx with
   | d hd => cases hd with | ip row b off col vals hb hv' ho hr => exact ⟨_, rfl, .d (.ip _ b off _ vals hb hv' ho hr)⟩
  ·cases hx with
   | fn f capt vs hl hr => exact ⟨_, rfl, .fn _ _ vs hl hr⟩
 ·-- binOp
  rename_i op t x y t'
  obtain ⟨q, h1, h2⟩ := binV_run (hρ x) (hρ y) h hc x y
  exact ⟨q, lift h1, h2⟩
 ·-- unOp
  rename_i op t x
  split at h
  ·rename_i v hv
   cases h
   obtain ⟨q, h1, h2⟩ := unV_run (P := P) (hρ x) hv
   exact ⟨q, lift h1, h2⟩
  ·cases h
 ·-- makeFunc
  rename_i f first capt
  split at h
  ·rename_i h0
   cases h
   have e : first = #[] := Array.eq_empty_of_size_eq_zero h0
   subst e
   have hl := All2.arr hρ capt
   have q := VRel.fn f _ _ hl.len hl.at_
   refine ⟨.func (.func f) #[] (capt.map ρ'), by simp [Instr.makeFunc], ?_⟩
   have e : (capt.map ρ').toList.toArray = capt.map ρ' := Array.toArray_toList
   exact e ▸ q
  ·cases h
 ·-- slice
  rename_i t x lo hi mx
  split at h
  ·rename_i e he
   split at h
   ·cases h
   ·rename_i hz
    obtain ⟨q, h1, h2⟩ := sliceV_run he hz (hρ x) (optRel_map hρ lo) (optRel_map hρ hi) (optRel_map hρ mx) h hc
    exact ⟨q, lift h1, h2⟩
  ·split at h
   ·rename_i hs
    obtain ⟨q, h1, h2⟩ := sliceS_run hs (hρ x) (optRel_map hρ lo) (optRel_map hρ hi) (optRel_map hρ mx) h hc
    exact ⟨q, lift h1, h2⟩
   ·cases h
 ·-- fieldAddr
  rename_i t x f
  split at h
  ·rename_i off ft hf
   obtain ⟨fs, fx, hu, hfx, rfl, rfl⟩ := fld_und hf
   split at h
   ·cases h
   ·rename_i hz
    have hx := hρ x
    have run : ∀ a : Addr, (Instr.fieldAt t (.pointer (some a)) f).run P w = .ok (.pointer (some (a.add fx.offset))) w := by
     intro a
     simp [Instr.fieldAt, und_run hu, hfx, Instr.sureAddr, fieldPlace, sz_run hz, hz]
    generalize ρ' x = u at hx ⊢
    split at h <;> cases h <;> rename_i hv <;> rw [hv] at hx
    ·cases hx with
     | pt id sz row col b hm =>
       refine ⟨_, lift (run _), ?_⟩
       rw [add_none, Nat.add_assoc]
       exact .pt _ _ _ _ b hm
    ·cases hx with
     | d hd =>
       cases hd with
       | ip row b off col vals hb hv' ho hr =>
         refine ⟨_, lift (run _), ?_⟩
         rw [add_none, Nat.add_assoc]
         exact .d (.ip _ b off _ vals hb hv' ho hr)
  ·cases h
 ·-- field
  rename_i t x f
  split at h
  ·rename_i off ft cs hf hcs
   obtain ⟨fs, fx, hu, hfx, rfl, rfl⟩ := fld_und hf
   split at h
   ·rename_i g hg
    split at h
    ·cases h
    ·rename_i hz
     split at h
     ·rename_i v hv
      cases h
      obtain ⟨vs, e, ho, hr⟩ := aggCells_rel (hρ x) hcs
      obtain ⟨q, h1, h2⟩ := part_run hg hz hr ho hv
      refine ⟨q, lift ?_, h2⟩
      rw [e]
      simp [Instr.field, und_run hu, hfx, asAgg, h1]
     ·cases h
   ·cases h
  ·cases h
 ·-- indexAddr
  rename_i t x i
  split at h
  ·rename_i e he
   split at h
   ·cases h
   ·rename_i hz
    obtain ⟨q, h1, h2⟩ := idxV_run he hz (hρ x) (hρ i) h hc
    exact ⟨q, lift h1, h2⟩
  ·cases h
 ·-- index
  rename_i t x i
  split at h
  ·rename_i hs
   split at h
   ·rename_i s k n e1 e2
    cases h
    have h1 := hρ x
    have h2 := hρ i
    rw [e1] at h1
    rw [e2] at h2
    have h1 := h1.lit_inv
    have h2 := h2.lit_inv
    rw [h1, h2]
    refine ⟨_, lift ?_, .int (int_lit.mpr ⟨Int.natCast_nonneg _, by
     have := (s.data.toList.getD n.toNat 0).toNat_lt
     simp only [IntKind.max, IntKind.signed, IntKind.bits, Bool.false_eq_true, if_false, Int.reducePow, Int.reduceSub]
     omega⟩)⟩
    have hlt : n.toNat < s.size := by omega
    have e3 : s[n.toNat]? = some (s.data.toList.getD n.toNat 0) := by
     rw [List.getD_eq_getElem?_getD]
     have : s.data.toList[n.toNat]? = some (s[n.toNat]) := by
      rw [Array.getElem?_toList]
      exact Array.getElem?_eq_getElem (xs := s.data) hlt
     rw [this]
     simp [hlt]
    simp [Instr.index, asIntOf, und_run (str_und hs), hc.1, e3]
   ·cases h
  ·unfold indexA at h
   split at h
   ·rename_i n e cs kk k ha hcs hi
    split at h
    ·rename_i g hg
     split at h
     ·cases h
     ·rename_i hz
      split at h
      ·rename_i v hv
       cases h
       obtain ⟨vs, e1, ho, hr⟩ := aggCells_rel (hρ x) hcs
       obtain ⟨q, h1, h2⟩ := part_run hg hz hr ho hv
       have h3 := hρ i
       rw [hi] at h3
       have h3 := h3.lit_inv
       refine ⟨q, lift ?_, h2⟩
       rw [e1, h3]
       simp [Instr.index, asIntOf, und_run (arr_und ha), hc.1, hc.2, sz_run hz, h1]
      ·cases h
    ·cases h
   ·cases h
 ·-- extract
  rename_i t i
  split at h
  ·rename_i vs hv
   split at h
   ·rename_i v hi
    cases h
    have h1 := hρ t
    rw [hv] at h1
    generalize ρ' t = u at h1 ⊢
    cases h1 with
    | tup cells us hl hr =>
      obtain ⟨y, hy, hxy⟩ := (All2.mk hl hr).get hi
      refine ⟨y, lift ?_, hxy⟩
      have : us.toArray[i]? = some y := by simpa using hy
      simp only [Instr.extract, this, Sem.run_pure]
   ·cases h
  ·cases h
 ·-- convert
  rename_i src dst x
  split at h
  ·rename_i v hv
   cases h
   obtain ⟨q, h1, h2⟩ := convV_run (P := P) (hρ x) hv
   exact ⟨q, lift h1, h2⟩
  ·cases h
 ·-- max, min
  rename_i cl
  split at h
  ·rename_i hcal
   split at h
   ·rename_i v hv
    cases h
    obtain ⟨q, h1, h2⟩ := minmax_run (P := P) (All2.arr hρ cl.args) hv cl.argTypes o.type
    rw [Array.toArray_toList] at h1
    exact ⟨q, by simpa only [resolve, hcal, invoke, builtin, pure_bind] using lift (by simpa using h1), h2⟩
   ·cases h
  ·rename_i hcal
   split at h
   ·rename_i v hv
    cases h
    obtain ⟨q, h1, h2⟩ := minmax_run (P := P) (All2.arr hρ cl.args) hv cl.argTypes o.type
    rw [Array.toArray_toList] at h1
    exact ⟨q, by simpa only [resolve, hcal, invoke, builtin, pure_bind] using lift (by simpa using h1), h2⟩
   ·cases h
  ·cases h
end Go.Fw
end
section
namespace Go.Fw
variable {P : Program} {w : World} {L : Nat → Prop} {m : Nat → Option Nat}
theorem loadVar_run {t : TypeId} {b o off : Nat} {xs : List V} {vs : List Value} {r : V} (h : All2 (VRel w L m) xs vs) (ho : Ones vs) (hc : ∀ (j : Nat) (v : Value), vs[j]? = some v → w.cell? ⟨b, o + j, none⟩ = some v) (hl : loadV P t xs off = some r) :
  ∃ q, (loadVar t ⟨b, o + off, none⟩).run P w = .ok q w ∧ VRel w L m r q := by
 unfold loadV at hl
 split at hl
 ·rename_i hg
  unfold partV at hl
  split at hl
  ·rename_i hle
   have h1 := (h.drop off).take (szOf P t)
   have o1 : Ones ((vs.drop off).take (szOf P t)) := ho.sub fun v hv => List.mem_of_mem_drop (List.mem_of_mem_take hv)
   obtain ⟨h2, h3, -⟩ := one_rel h1 o1 hl
   refine ⟨_, ?_, h2⟩
   have hcs : (loadCells ⟨b, o + off, none⟩ ((vs.drop off).take (szOf P t)).length).run P w = .ok ((vs.drop off).take (szOf P t)).toArray w := by
    refine run_loadCells_list _ _ _ fun j v hj => ?_
    rw [add_none, Nat.add_assoc]
    rw [List.getElem?_take] at hj
    split at hj
    ·rw [List.getElem?_drop] at hj; exact hc _ _ hj
    ·cases hj
   rw [h3 rfl] at hcs
   by_cases hz : szOf P t = 0
   ·simp only [loadVar, Sem.run_bind, agg_run hg, Result.andThen_ok, if_true]
    have hi : ∃ i, P.info? t = some i := by
     unfold aggOf Program.underlying at hg
     cases hi : P.info? t with
     | none => simp [hi] at hg
     | some i => exact ⟨i, rfl⟩
    obtain ⟨i, hi⟩ := hi
    have hs : (sizeOf t).run P w = .ok (szOf P t) w := by simp [sizeOf, typeInfo, hi, szOf]
    rw [hs, Result.andThen_ok, hcs]
    rfl
   ·simp only [loadVar, Sem.run_bind, agg_run hg, Result.andThen_ok, if_true, sz_run hz, hcs, Sem.run_pure]
  ·cases hl
 ·rename_i hg
  obtain ⟨y, hy, hr⟩ := h.get hl
  refine ⟨y, ?_, hr⟩
  simp only [loadVar, Sem.run_bind, agg_run hg, Result.andThen_ok, Bool.false_eq_true, if_false, run_load, hc _ _ hy]
 ·cases hl
theorem cell_of {b : Nat} {cs : Array Value} {ty : TypeId} {fr : Nat × Nat} (h : w.heap[b]? = some (Obj.cells cs ty fr)) (j : Nat) : w.cell? ⟨b, j, none⟩ = cs[j]? := by
 simp [World.cell?, h]
theorem DRel.rows {L' : Nat → Prop} {b off cap : Nat} {row : List D} {vals : Nat → Value} (ho : ∀ (j : Nat) (x : D), row[j]? = some x → (vals j).oneCell = true) (hr : ∀ (j : Nat) (x : D), row[j]? = some x → DRel w L' x (vals j)) :
  All2 (VRel w L' m) (row.map .d) ((List.range row.length).map vals) ∧ Ones ((List.range row.length).map vals) := by
 constructor
 ·refine ⟨by simp, fun j x y h1 h2 => ?_⟩
  simp only [List.getElem?_map, Option.map_eq_some_iff] at h1 h2
  obtain ⟨z, hz, rfl⟩ := h1
  obtain ⟨i, hi, rfl⟩ := h2
  rw [List.getElem?_range (by have := (List.getElem?_eq_some_iff.1 hz).1; omega)] at hi
  cases hi
  exact .d (hr j z hz)
 ·intro v hv
  simp only [List.mem_map, List.mem_range] at hv
  obtain ⟨j, hj, rfl⟩ := hv
  exact ho j _ (List.getElem?_eq_getElem hj)
theorem tkind1 {t : TypeId} (h : tkind P t = 1) : ∃ e, P.underlying t = some (.slice e) := by
 unfold tkind at h
 split at h <;> first | (cases h; done) | exact ⟨_, by assumption⟩
theorem tkind3 {t : TypeId} (h : tkind P t = 3) : ∃ k e, P.underlying t = some (.map k e) := by
 unfold tkind at h
 split at h <;> first | (cases h; done) | exact ⟨_, _, by assumption⟩
theorem mapT_und {t kt et : TypeId} (h : mapT P t = some (kt, et)) : P.underlying t = some (.map kt et) := by
 unfold mapT at h
 split at h
 ·rename_i hu; cases h; exact hu
 ·cases h
theorem keyD_und {k : TypeId} {d : TypeDesc} (h : keyD P k = some d) : P.underlying k = some d ∧ ((∃ q, d = .int q) ∨ d = .string ∨ d = .bool) := by
 unfold keyD at h
 split at h
 ·rename_i q hu; cases h; exact ⟨hu, .inl ⟨q, rfl⟩⟩
 ·rename_i hu; cases h; exact ⟨hu, .inr (.inl rfl)⟩
 ·rename_i hu; cases h; exact ⟨hu, .inr (.inr rfl)⟩
 ·cases h
theorem check_run {k : TypeId} {d : TypeDesc} (h : keyD P k = some d) (em : Bool) (v : Value) : (Instr.checkKey em 10000 k v).run P w = .ok () w := by
 obtain ⟨hu, hd⟩ := keyD_und h
 rw [show (10000 : Nat) = 9999 + 1 from rfl, Instr.checkKey]
 rcases hd with ⟨q, rfl⟩ | rfl | rfl <;> simp [und_run hu]
theorem zeroV_run {t : TypeId} {z : V} (h : zeroV P t = some z) : ∃ q, (zeroValue t).run P w = .ok q w ∧ VRel w L m z q := by
 unfold zeroV at h
 split at h
 ·rename_i i hi
  split at h
  ·rename_i cs hz
   split at h
   ·rename_i ho
    cases h
    refine ⟨.agg cs, by simp [zeroValue, typeInfo, hi, hz], ?_⟩
    have := mkAg_rel (w := w) (L := L) (m := m) (oneCells_ones ho) (lits_rel ho)
    simpa using this
   ·cases h
  ·rename_i v hv hz
   split at h
   ·rename_i ho
    cases h
    exact ⟨v, by simp [zeroValue, typeInfo, hi, hz], .d (.lit v ho)⟩
   ·cases h
  ·cases h
 ·cases h
theorem findNow_eq {d : TypeDesc} {k : Value} : ∀ {es : List MapEntry} {i : Nat} {r : Option Nat}, findK d k (es.map (·.key)) i = some r →
  (r = none ∧ Instr.findNow d k es i = some none) ∨ ∃ j e, r = some (i + j) ∧ es[j]? = some e ∧ Instr.sameNow d k e.key = some true ∧ Instr.findNow d k es i = some (some (i + j, e.val)) := by
 intro es
 induction es with
 | nil => intro i r h; cases h; exact .inl ⟨rfl, rfl⟩
 | cons e es ih =>
   intro i r h
   simp only [List.map_cons, findK] at h
   cases hs : Instr.sameNow d k e.key with
   | none => rw [hs] at h; cases h
   | some b =>
     rw [hs] at h
     cases b with
     | true => cases h; exact .inr ⟨0, e, rfl, rfl, hs, by simp [Instr.findNow, hs]⟩
     | false =>
       rcases ih h with ⟨rfl, h1⟩ | ⟨j, e', rfl, h1, h2, h3⟩
       ·exact .inl ⟨rfl, by simp [Instr.findNow, hs, h1]⟩
       ·exact .inr ⟨j + 1, e', by congr 1; omega, by simpa using h1, h2, by simp only [Instr.findNow, hs, h3]; rw [show i + (j + 1) = i + 1 + j by omega]⟩
theorem lookV_run {X : Nat → Prop} {s : Store} (hs : SRel w X m s) {t : TypeId} {x k : V} {u kv : Value} {ok : Bool} {c : Prop} {r : V} (hx : VRel w (Live X m s) m x u) (hk : VRel w (Live X m s) m k kv) (h : lookV P t x k ok s = some (c, r)) :
  ∃ q, (Instr.lookup t u kv ok).run P w = .ok q w ∧ VRel w (Live X m s) m r q := by
 have fin : ∀ {v : V} {q : Value} {b : Bool}, VRel w (Live X m s) m v q → VRel w (Live X m s) m (lookR ok v b) (if ok then .tuple #[q, .bool b] else q) := by
  intro v q b hv
  unfold lookR
  cases ok with
  | true =>
    refine .tup _ [q, .bool b] rfl fun j x y h1 h2 => ?_
    match j with
    | 0 => simp at h1 h2; subst h1 h2; exact hv
    | 1 => simp at h1 h2; subst h1 h2; exact .int
    | j + 2 => simp at h1
  | false => exact hv
 unfold lookV at h
 split at h
 ·rename_i kt et ht
  have hu := mapT_und ht
  split at h
  ·rename_i d kv' z hd hz
   have := hk.lit_inv; subst this
   obtain ⟨hku, _⟩ := keyD_und hd
   obtain ⟨zq, hz1, hz2⟩ := zeroV_run (w := w) (L := Live X m s) (m := m) hz
   split at h
   ·rename_i id
    split at h
    ·rename_i ks vs hg
     cases hx with
     | mp _ b hm =>
       rcases hs.blk id _ hg with ⟨b', hm', es, cl, hh, rfl, hall⟩ | ⟨hn, _, hn'⟩
       ·rw [hm] at hm'; cases hm'
        have hget : (getObj b).run P w = .ok (.map es cl) w := by simp [getObj, Sem.run, hh]
        split at h
        ·rename_i i hf
         split at h
         ·rename_i v hv
          cases h
          rcases findNow_eq hf with ⟨h1, _⟩ | ⟨j, e, h1, h2, h3, h4⟩
          ·cases h1
          ·simp only [Option.some.injEq, Nat.zero_add] at h1 h4
           subst h1
           have hev : VRel w (Live X m s) m v e.val := hall.at_ _ _ _ hv (by simp [h2])
           refine ⟨_, ?_, fin (b := true) hev⟩
           simp [Instr.lookup, und_run hu, hget, check_run hd, Instr.findKey, und_run hku, h4]
         ·cases h
        ·rename_i hf
         cases h
         rcases findNow_eq hf with ⟨_, h1⟩ | ⟨j, e, h1, _⟩
         ·refine ⟨_, ?_, fin (b := false) hz2⟩
          simp [Instr.lookup, und_run hu, hget, check_run hd, Instr.findKey, und_run hku, h1, hz1]
         ·cases h1
        ·cases h
       ·cases hn'
    ·cases h
   ·cases h
    have := hx.lit_inv; subst this
    refine ⟨_, ?_, fin (b := false) hz2⟩
    simp [Instr.lookup, und_run hu, check_run hd, Instr.findKey, und_run hku, Instr.findNow, hz1]
   ·cases h
  ·cases h
 ·cases h
theorem opR_run {X : Nat → Prop} {s : Store} (hs : SRel w X m s) {ρ : Operand → V} {ρ' : Operand → Value} (hρ : ∀ x, VRel w (Live X m s) m (ρ x) (ρ' x)) {o : Oper} {c : Prop} {r : V} (h : opR P o.op ρ s = some (c, r)) (hk : cls o.op = .r) (hc : c) :
  ∃ q, (execOp ρ' o).run P w = .ok (.value q) w ∧ VRel w (Live X m s) m r q := by
 have lift : ∀ {s : Sem Value} {q : Value}, s.run P w = .ok q w → ((s >>= fun v => pure (.value v)) : Sem Next).run P w = .ok (.value q) w := by
  intro s q hs
  rw [Sem.run_bind, hs]; rfl
 unfold opR at h
 unfold execOp
 split at h <;> rename_i heq <;> simp only [heq] <;> try (cases h; done)
 ·-- load
  rename_i t x
  have hx := hρ x
  generalize ρ' x = u at hx ⊢
  split at h
  ·rename_i id sz rw_ cl hv
   rw [hv] at hx
   cases hx with
   | pt _ _ _ _ b hm =>
     split at h
     ·rename_i cells hb
      rcases hs.blk id _ hb with ⟨b', hm', vs, ex, ty, fr, hh, hfr, hone, hall⟩ | ⟨hn, _⟩
      ·rw [hm] at hm'; cases hm'
       split at h
       ·rename_i v hv'
        cases h
        obtain ⟨q, h1, h2⟩ := loadVar_run (P := P) (b := b) (o := 0) hall hone (fun j v hj => by rw [cell_of hh, List.getElem?_toArray, Nat.zero_add, List.getElem?_append_left (List.getElem?_eq_some_iff.1 hj).1]; exact hj) hv'
        refine ⟨q, lift ?_, h2⟩
        simpa [Instr.loadAt, Instr.sureAddr] using h1
       ·cases h
      ·rw [hm] at hn; cases hn
     ·rename_i n rows hb
      simp only [rowN] at h
      rcases hs.blk id _ hb with ⟨b', hm', cs, ty, fr, hh, hfr, hsz, hlen, hall⟩ | ⟨hn, _⟩
      ·rw [hm] at hm'; cases hm'
       split at h
       ·rename_i v hv'
        cases h
        obtain ⟨h0, rfl⟩ := hc
        have hrow : rows[rw_]? = some (rows.getD rw_ []) := by simp [List.getD_eq_getElem?_getD, List.getElem?_eq_getElem h0]
        have hq : ∀ (j : Nat) (x : D), (rows.getD rw_ [])[j]? = some x → ∃ v, cs[rw_ * n + j]? = some v ∧ v.oneCell = true ∧ DRel w (Live X m s) x v := fun j x hj => hall rw_ j _ x hrow hj
        have key := DRel.rows (w := w) (m := m) (L' := Live X m s) (b := b) (off := 0) (cap := 0) (row := rows.getD rw_ []) (vals := fun j => (cs[rw_ * n + j]?).getD undef)
         (fun j x hj => by obtain ⟨v, e, h1, h2⟩ := hq j x hj; rw [e]; exact h1) (fun j x hj => by obtain ⟨v, e, h1, h2⟩ := hq j x hj; rw [e]; exact h2)
        obtain ⟨q, h1, h2⟩ := loadVar_run (P := P) (b := b) (o := rw_ * n) key.1 key.2 (fun j v hj => by
         simp only [List.getElem?_map, Option.map_eq_some_iff] at hj
         obtain ⟨i, hi, rfl⟩ := hj
         have hlt := (List.getElem?_eq_some_iff.1 hi).1
         rw [List.length_range] at hlt
         rw [List.getElem?_range hlt] at hi
         cases hi
         obtain ⟨v, e, _, _⟩ := hq j _ (List.getElem?_eq_getElem hlt)
         rw [cell_of hh, e]; rfl) hv'
        refine ⟨q, lift ?_, h2⟩
        simpa [Instr.loadAt, Instr.sureAddr] using h1
       ·cases h
      ·rw [hm] at hn; cases hn
     ·cases h
  ·rename_i row cl hv
   rw [hv] at hx
   cases hx with
   | d hd =>
     cases hd with
     | ip _ b off _ vals hb hv' ho hr =>
       split at h
       ·rename_i v hv2
        cases h
        have key := DRel.rows (w := w) (m := m) (L' := Live X m s) (b := b) (off := off) (cap := 0) ho hr
        obtain ⟨q, h1, h2⟩ := loadVar_run (P := P) (b := b) (o := off) key.1 key.2 (fun j v hj => by
         simp only [List.getElem?_map, Option.map_eq_some_iff] at hj
         obtain ⟨i, hi, rfl⟩ := hj
         have hlt := (List.getElem?_eq_some_iff.1 hi).1
         rw [List.length_range] at hlt
         rw [List.getElem?_range hlt] at hi
         cases hi
         exact hv' j _ (List.getElem?_eq_getElem hlt)) hv2
        refine ⟨q, lift ?_, h2⟩
        simpa [Instr.loadAt, Instr.sureAddr] using h1
       ·cases h
  ·cases h
 ·-- len
  rename_i cl
  simp only [heq, cls] at hk
  split at h
  ·rename_i x t hargs htys
   have ha : cl.args = #[x] := by rw [← Array.toArray_toList (xs := cl.args), hargs]
   have ht : cl.argTypes = #[t] := by rw [← Array.toArray_toList (xs := cl.argTypes), htys]
   split at hk
   ·rename_i hcal
    split at h
    ·-- of a map
     rename_i id hv
     split at h
     ·rename_i ks vs hg
      split at h
      ·rename_i hcond
       cases h
       have hx := hρ x
       rw [hv] at hx
       have hb : (Builtin.len_ #[t] o.type #[ρ' x]).run P w = .ok (.int .i64 ks.length) w := by
        generalize ρ' x = u at hx ⊢
        cases hx with
        | mp _ b hm =>
          rcases hs.blk id _ hg with ⟨b', hm', es, cl, hh, hks, _⟩ | ⟨hn, _, hn'⟩
          ·rw [hm] at hm'; cases hm'
           have hlen : es.size = ks.length := by rw [← hks]; simp
           have : (getObj b).run P w = .ok (.map es cl) w := by simp [getObj, Sem.run, hh]
           obtain ⟨kt, et, he⟩ := tkind3 hcond.1
           simp [Builtin.len_, und_run he, this, goInt, hlen]
          ·cases hn'
       refine ⟨.int .i64 ks.length, ?_, .int (int_lit.mpr ⟨?_, ?_⟩)⟩
       ·simpa only [resolve, hcal, ha, ht, invoke, builtin, pure_bind, List.map_toArray, List.map_cons, List.map_nil] using lift hb
       ·simp only [IntKind.min, IntKind.signed, IntKind.bits, if_true, Nat.reduceSub, Int.reducePow, Int.reduceNeg]; omega
       ·have := hcond.2
        simp only [IntKind.max, IntKind.signed, IntKind.bits, if_true, Nat.reduceSub, Int.reducePow, Int.reduceSub]; omega
      ·cases h
     ·cases h
    ·split at h
     ·rename_i y hnm n hn
      cases h
      have hx := hρ x
      have hrange : okLit (.int .i64 n) = true := by
       have : 0 ≤ n ∧ n ≤ 9223372036854775807 := by
        generalize ρ' x = u at hx
        unfold lenV at hn
        split at hn <;> try (cases hn; done)
        all_goals (rename_i hv; rw [hv] at hx)
        ·split at hn
         ·cases hn
          have := hx.lit_ok
          simp only [okLit, decide_eq_true_eq] at this
          omega
         ·cases hn
        ·split at hn
         ·cases hn
          cases hx with
          | d hd =>
            cases hd
            ·simp
            ·omega
         ·cases hn
        ·split at hn
         ·cases hn; omega
         ·cases hn
        ·split at hn
         ·cases hn
          cases hx
          ·simp
          ·omega
         ·cases hn
       rw [int_lit]
       simp only [IntKind.min, IntKind.max, IntKind.signed, IntKind.bits, if_true, Nat.reduceSub, Int.reducePow, Int.reduceNeg, Int.reduceSub]
       omega
      refine ⟨.int .i64 n, ?_, .int hrange⟩
      have hb : (Builtin.len_ #[t] o.type #[ρ' x]).run P w = .ok (.int .i64 n) w := by
       generalize ρ' x = u at hx ⊢
       unfold lenV at hn
       split at hn <;> try (cases hn; done)
       all_goals (rename_i hv; rw [hv] at hx)
       ·split at hn
        ·rename_i hst
         cases hn
         have := hx.lit_inv; subst this
         simp [Builtin.len_, und_run (str_und hst), goInt]
        ·cases hn
       ·split at hn
        ·rename_i hst
         obtain ⟨e, he⟩ := tkind1 hst
         cases hn
         cases hx with
         | d hd => cases hd <;> simp [Builtin.len_, und_run he, goInt]
        ·cases hn
       ·split at hn
        ·rename_i hst
         obtain ⟨e, he⟩ := tkind1 hst
         cases hn
         have := hx.lit_inv; subst this
         simp [Builtin.len_, und_run he, goInt]
        ·cases hn
       ·split at hn
        ·rename_i hst
         obtain ⟨e, he⟩ := tkind1 hst
         cases hn
         cases hx <;> simp [Builtin.len_, und_run he, goInt]
        ·cases hn
      simpa only [resolve, hcal, ha, ht, invoke, builtin, pure_bind, List.map_toArray, List.map_cons, List.map_nil] using lift hb
     ·cases h
   ·rename_i hcal; cases hk
   ·cases hk
   ·cases hk
   ·cases hk
  ·cases h
 ·-- lookup
  obtain ⟨q, h1, h2⟩ := lookV_run (P := P) hs (hρ _) (hρ _) h
  exact ⟨q, lift h1, h2⟩
end Go.Fw
end
section
namespace Go.Fw
variable {P : Program}
theorem getB_putB (s : Store) (k : Nat) (b : Blk) (i : Nat) : getB (putB s k b) i = if i = k then some b else getB s i := by
 induction s with
 | nil => simp only [putB, getB]; by_cases h : k = i <;> simp [h, eq_comm]
 | cons x r ih =>
   obtain ⟨j, c⟩ := x
   simp only [putB]
   split
   ·rename_i h; subst h
    simp only [getB]
    by_cases h : j = i
    ·simp [h]
    ·simp [h, Ne.symm h]
   ·split
    ·simp only [getB]
     by_cases h : k = i
     ·simp [h]
     ·simp [h, Ne.symm h]
    ·simp only [getB, ih]
     by_cases h : j = i
     ·subst h; simp_all
     ·simp [h]
def FreshB (p : Nat → Bool) : Blk → Prop
 | .vals cells => V.menL p cells = false
 | .mp _ vs => V.menL p vs = false
 | .data _ _ => True
structure Fresh (p : Nat → Bool) (e : Env) (s : Store) : Prop where
 env : V.menL p e = false
 sto : ∀ i blk, getB s i = some blk → p i = false ∧ FreshB p blk
theorem BRel.mono {w w' : World} {L L' : Nat → Prop} {m m' : Nat → Option Nat} {p : Nat → Bool} (hk : CellsKept L w w') (hs : SizesKept w w') (hL : ∀ b, L' b → L b ∨ w.heap.size ≤ b)
  (hm : ∀ i, p i = false → m' i = m i) {b : Nat} {blk : Blk} (hb : w'.heap[b]? = w.heap[b]?) (hp : FreshB p blk) (h : BRel w L m b blk) : BRel w' L' m' b blk := by
 cases blk with
 | vals cells =>
   obtain ⟨vs, ex, ty, fr, h1, h2, h3, h4⟩ := h
   exact ⟨vs, ex, ty, fr, hb.trans h1, h2, h3, ⟨h4.len, fun j x v a c => VRel.mono hk hs hL hm (menL_at hp a) (h4.at_ j x v a c)⟩⟩
 | mp ks vs =>
   obtain ⟨es, cl, h1, h2, h3⟩ := h
   exact ⟨es, cl, hb.trans h1, h2, ⟨h3.len, fun j x v a c => VRel.mono hk hs hL hm (menL_at hp a) (h3.at_ j x v a c)⟩⟩
 | data sz rows =>
   obtain ⟨cs, ty, fr, h1, h2, h3, h4, h5⟩ := h
   exact ⟨cs, ty, fr, hb.trans h1, h2, h3, h4, fun i j r x a c => by
    obtain ⟨v, q1, q2, q3⟩ := h5 i j r x a c
    exact ⟨v, q1, q2, q3.mono hk hL⟩⟩
def addM (m : Nat → Option Nat) (id b : Nat) : Nat → Option Nat := fun i => if i = id then some b else m i
abbrev wand (w : World) (o : Obj) : World := { w with heap := w.heap.push o }
theorem and_kept (w : World) (o : Obj) (L : Nat → Prop) : CellsKept L w (wand w o) := fun a v _ h => by
 have hlt := World.block_lt_of_cell? w a h
 simpa [World.cell?, wand, Array.getElem?_push, Nat.ne_of_lt hlt] using h
theorem and_sizes (w : World) (o : Obj) : SizesKept w (wand w o) := fun b cs ty fr h => by
 have hlt : b < w.heap.size := (Array.getElem?_eq_some_iff.1 h).1
 exact ⟨cs, by simpa [wand, Array.getElem?_push, Nat.ne_of_lt hlt] using h, rfl⟩
theorem and_heap (w : World) (o : Obj) {b : Nat} (h : b < w.heap.size) : (wand w o).heap[b]? = w.heap[b]? := by
 simp [wand, Array.getElem?_push, Nat.ne_of_lt h]
theorem BRel.lt {w : World} {L : Nat → Prop} {m : Nat → Option Nat} {b : Nat} {blk : Blk} (h : BRel w L m b blk) : b < w.heap.size := by
 cases blk with
 | vals cells => obtain ⟨vs, ex, ty, fr, h1, _⟩ := h; exact (Array.getElem?_eq_some_iff.1 h1).1
 | mp ks vs => obtain ⟨es, cl, h1, _⟩ := h; exact (Array.getElem?_eq_some_iff.1 h1).1
 | data sz rows => obtain ⟨cs, ty, fr, h1, _⟩ := h; exact (Array.getElem?_eq_some_iff.1 h1).1
section
variable {w0 : World} {L0 : Par} {X : Nat → Prop} {m : Nat → Option Nat} {e : Env} {s : Store} {a : Act} {w : World}
theorem Rel.m_lt (h : Rel w0 L0 X m e s a w) {i b : Nat} {blk : Blk} (hi : getB s i = some blk) (hb : m i = some b) : b < w.heap.size := by
 rcases h.sto.blk i blk hi with ⟨b', h1, h2⟩ | ⟨h1, _⟩
 ·rw [hb] at h1; cases h1; exact h2.lt
 ·rw [hb] at h1; cases h1
theorem own_and (h : Rel w0 L0 X m e s a w) {id : Nat} {blk : Blk} (hid : getB s id = none) {b : Nat} (hl : Own (addM m id w.heap.size) (putB s id blk) b) : Own m s b ∨ b = w.heap.size := by
 obtain ⟨i, c, h1, h2⟩ := hl
 rw [getB_putB] at h1
 unfold addM at h2
 by_cases hi : i = id
 ·subst hi; simp at h2; exact .inr h2.symm
 ·rw [if_neg hi] at h1 h2
  exact .inl ⟨i, c, h1, h2⟩
theorem live_and (h : Rel w0 L0 X m e s a w) {id : Nat} {blk : Blk} (hid : getB s id = none) {b : Nat} (hl : Live X (addM m id w.heap.size) (putB s id blk) b) : Live X m s b ∨ b = w.heap.size := by
 rcases hl with hl | hl
 ·exact .inl (.inl hl)
 ·exact (own_and h hid hl).imp_left .inr
theorem Rel.made (h : Rel w0 L0 X m e s a w) {id : Nat} {blk : Blk} (h90 : 90 ≤ id) (hf : Fresh (· == id) e s) (hid : getB s id = none) {o : Obj}
  (hb : BRel (wand w o) (Live X (addM m id w.heap.size) (putB s id blk)) (addM m id w.heap.size) w.heap.size blk) : Rel w0 L0 X (addM m id w.heap.size) e (putB s id blk) a (wand w o) := by
 have hL : ∀ b, Live X (addM m id w.heap.size) (putB s id blk) b → Live X m s b ∨ w.heap.size ≤ b := fun b hl => (live_and h hid hl).imp_right fun e => by omega
 have hm : ∀ i, ((· == id) i : Bool) = false → addM m id w.heap.size i = m i := fun i hi => by unfold addM; rw [if_neg (by simpa using hi)]
 have hk := and_kept w o (Live X m s)
 have hz := and_sizes w o
 refine ⟨⟨h.env.len, fun j x v q1 q2 => VRel.mono hk hz hL hm (menL_at hf.env q1) (h.env.at_ j x v q1 q2)⟩, ⟨fun i blk' hi => ?_, fun i j b q1 q2 q3 q4 => ?_⟩, h.dfr, ?_, fun b hl => ?_, ?_, ?_⟩
 ·rw [getB_putB] at hi
  by_cases e1 : i = id
  ·rw [if_pos e1] at hi; cases hi
   exact .inl ⟨w.heap.size, by simp [addM, e1], hb⟩
  ·rw [if_neg e1] at hi
   have e2 : addM m id w.heap.size i = m i := by simp [addM, e1]
   rcases h.sto.blk i blk' hi with ⟨b, r1, r2⟩ | ⟨r1, r2⟩
   ·exact .inl ⟨b, e2.trans r1, BRel.mono hk hz hL hm (and_heap _ _ r2.lt) (hf.sto i blk' hi).2 r2⟩
   ·exact .inr ⟨e2.trans r1, r2⟩
 ·have key : ∀ i, addM m id w.heap.size i = some b → (getB (putB s id blk) i).isSome = true → (i = id ∧ b = w.heap.size) ∨ (i ≠ id ∧ m i = some b ∧ (getB s i).isSome = true ∧ b < w.heap.size) := by
   intro i r1 r2
   rw [getB_putB] at r2
   unfold addM at r1
   by_cases e1 : i = id
   ·rw [if_pos e1] at r1; cases r1; exact .inl ⟨e1, rfl⟩
   ·rw [if_neg e1] at r1 r2
    obtain ⟨c, hc⟩ := Option.isSome_iff_exists.1 r2
    exact .inr ⟨e1, r1, r2, h.m_lt hc r1⟩
  rcases key i q1 q3 with ⟨e1, e2⟩ | ⟨e1, e2, e3, e4⟩ <;> rcases key j q2 q4 with ⟨f1, f2⟩ | ⟨f1, f2, f3, f4⟩
  ·omega
  ·omega
  ·omega
  ·exact h.sto.inj i j b e2 f2 e3 f3
 ·exact ⟨h.ext.os, h.ext.tape, h.ext.output, by have := h.ext.size; simp [wand]; omega, fun b hb hl => by
   rw [and_heap _ _ (Nat.lt_of_lt_of_le hb h.ext.size)]; exact h.ext.block b hb hl, fun b cs' ty' fr hb => by
   obtain ⟨c1, h1, h2⟩ := h.ext.sizes b cs' ty' fr hb
   obtain ⟨c2, h3, h4⟩ := hz b c1 ty' fr h1
   exact ⟨c2, h3, h4.trans h2⟩⟩
 ·rcases own_and h hid hl with hl | rfl
  ·exact h.liv b hl
  ·exact .inr h.ext.size
 ·exact h.old
 ·intro i hi hs
  have e1 : i ≠ id := by omega
  rw [getB_putB, if_neg e1] at hs
  simp only [addM, if_neg e1]
  exact h.par i hi hs
end
theorem heap_new (w : World) (o : Obj) : (wand w o).heap[w.heap.size]? = some o := by simp [wand]
theorem free00 (n : Nat) : Free (0, 0) n := fun o _ h => by omega
theorem range_zero (z : List Value) (hz : 0 < z.length) (n : Nat) : ((Array.range (n * z.length)).map (z.toArray[· % z.toArray.size]!)).toList = (List.replicate n z).flatten := by
 have key : ∀ n, (List.range (n * z.length)).map (fun i => z.toArray[i % z.toArray.size]!) = (List.replicate n z).flatten := by
  intro n
  induction n with
  | zero => simp
  | succ n ih =>
    rw [List.replicate_succ', List.flatten_append, ← ih, Nat.add_mul, Nat.one_mul, List.range_add, List.map_append]
    congr 1
    simp only [List.flatten_cons, List.flatten_nil, List.append_nil, List.map_map]
    apply List.ext_getElem
    ·simp
    ·intro j h1 h2
     simp at h1
     simp [Nat.mod_eq_of_lt h1, h1]
 simpa using key n
theorem flat_at (z : List Value) (n i j : Nat) (hi : i < n) (hj : j < z.length) : (List.replicate n z).flatten[i * z.length + j]? = z[j]? := by
 induction n generalizing i with
 | zero => omega
 | succ n ih =>
   rw [List.replicate_succ, List.flatten_cons, List.getElem?_append]
   cases i with
   | zero => rw [if_pos (by omega)]; simp
   | succ i =>
     rw [if_neg (by rw [Nat.add_mul]; omega)]
     have := ih i (by omega)
     rw [show (i + 1) * z.length + j - z.length = i * z.length + j by rw [Nat.add_mul]; omega]
     exact this
theorem chop_len (n : Nat) (l : List D) : ∀ k, (chop n l k).length = k := by
 intro k
 induction k generalizing l with
 | zero => rfl
 | succ k ih => simp [chop, ih]
theorem chop_at (n : Nat) (l : List D) (k i : Nat) (hi : i < k) : (chop n l k)[i]? = some ((l.drop (i * n)).take n) := by
 induction k generalizing l i with
 | zero => omega
 | succ k ih =>
   cases i with
   | zero => simp [chop]
   | succ i =>
     simp only [chop, List.getElem?_cons_succ]
     rw [ih (l.drop n) i (by omega), List.drop_drop, Nat.add_mul]
     congr 3
     omega
end Go.Fw
end
section
namespace Go.Fw
variable {P : Program}
theorem menL_map_d (p : Nat → Bool) (l : List D) : V.menL p (l.map .d) = false := by
 induction l with
 | nil => rfl
 | cons x r ih => simp [V.menL, V.men, ih]
theorem men_cells {p : Nat → Bool} {x : V} {cs : List V} (h : x.men p = false) (hc : cellsOfV x = some cs) : V.menL p cs = false := by
 unfold cellsOfV at hc
 split at hc <;> first | (cases hc; done) | skip
 ·cases hc; simpa [V.men] using h
 ·cases hc; exact menL_map_d p _
 ·split at hc <;> cases hc; rfl
 all_goals (cases hc; simpa [V.menL] using h)
theorem look_men {p : Nat → Bool} {e : Env} (h : V.menL p e = false) (x : Operand) : (look e x).men p = false := by
 cases x with
 | tmp t =>
   simp only [look]
   rw [List.getD_eq_getElem?_getD]
   cases hx : e[t]? with
   | none => rfl
   | some v => exact menL_at h hx
 | const v => cases v <;> simp only [look, litV] <;> first | rfl | (split <;> rfl)
 | global g => rfl
 | func f => rfl
theorem lits_men (p : Nat → Bool) (z : List Value) : V.menL p (lits z) = false := by
 unfold lits
 induction z with
 | nil => rfl
 | cons x r ih => simp [V.menL, V.men, ih]
section
variable {w0 : World} {L0 : Par} {X : Nat → Prop} {m : Nat → Option Nat} {e : Env} {s : Store} {a : Act} {w : World}
theorem Rel.vrel_made (h : Rel w0 L0 X m e s a w) {id : Nat} {blk : Blk} (hid : getB s id = none) {o : Obj} {x : V} {v : Value} (hx : x.men (· == id) = false) (hr : VRel w (Live X m s) m x v) :
  VRel (wand w o) (Live X (addM m id w.heap.size) (putB s id blk)) (addM m id w.heap.size) x v :=
 VRel.mono (p := (· == id)) (and_kept w o (Live X m s)) (and_sizes w o) (fun b hl => (live_and h hid hl).imp_right fun e => by omega) (fun i hi => by unfold addM; rw [if_neg (by simpa using hi)]) hx hr
theorem Rel.vals_made (h : Rel w0 L0 X m e s a w) {id : Nat} (h90 : 90 ≤ id) (hf : Fresh (· == id) e s) (hid : getB s id = none) {cs : List V} {vs : List Value} {ty : TypeId} (hm : V.menL (· == id) cs = false) (ho : Ones vs) (hr : All2 (VRel w (Live X m s) m) cs vs) (dst : Option Nat) :
  Rel w0 L0 X (addM m id w.heap.size) (Fw.put e dst (.pt id 0 0 0)) (putB s id (.vals cs)) (a.put dst (.pointer (some ⟨w.heap.size, 0, none⟩))) (wand w (.cells vs.toArray ty)) := by
 have h1 := h.made h90 hf hid (o := .cells vs.toArray ty) (blk := .vals cs) ⟨vs, [], ty, (0, 0), by rw [List.append_nil]; exact heap_new w _, free00 _, ho, ⟨hr.len, fun j x v q1 q2 => h.vrel_made hid (menL_at hm q1) (hr.at_ j x v q1 q2)⟩⟩
 exact h1.put dst (by simpa using VRel.pt (w := wand w (.cells vs.toArray ty)) (L := Live X (addM m id w.heap.size) (putB s id (.vals cs))) (m := addM m id w.heap.size) id 0 0 0 w.heap.size (by simp [addM]))
theorem Rel.data_made (h : Rel w0 L0 X m e s a w) {id : Nat} (h90 : 90 ≤ id) (hf : Fresh (· == id) e s) (hid : getB s id = none) {sz : Nat} {rows : List (List D)} {vs : List Value} {ty : TypeId} {cap : Nat} (hc : rows.length ≤ cap) (hmx : rows.length ≤ 9223372036854775807) (hv : cap * sz ≤ vs.length) (hz : ∀ r ∈ rows, r.length = sz)
  (hr : ∀ (i j : Nat) (r : List D) (x : D), rows[i]? = some r → r[j]? = some x → ∃ v, vs[i * sz + j]? = some v ∧ v.oneCell = true ∧ DRel w (Live X m s) x v) (dst : Option Nat) :
  Rel w0 L0 X (addM m id w.heap.size) (Fw.put e dst (.rs id sz 0 rows.length)) (putB s id (.data sz rows)) (a.put dst (.slice (some ⟨w.heap.size, 0, none⟩) rows.length cap)) (wand w (.cells vs.toArray ty)) := by
 have hle : rows.length * sz ≤ vs.length := Nat.le_trans (Nat.mul_le_mul_right _ hc) hv
 have h1 := h.made h90 hf hid (o := .cells vs.toArray ty) (blk := .data sz rows) ⟨vs.toArray, ty, (0, 0), heap_new w _, free00 _, by simpa using hle, hz, fun i j r x q1 q2 => by
  obtain ⟨v, r1, r2, r3⟩ := hr i j r x q1 q2
  exact ⟨v, by simpa using r1, r2, r3.mono (and_kept w _ (Live X m s)) (fun b hl => (live_and h hid hl).imp_right fun e => by omega)⟩⟩
 refine h1.put dst ?_
 have q := VRel.rs (w := wand w (.cells vs.toArray ty)) (L := Live X (addM m id w.heap.size) (putB s id (.data sz rows))) (m := addM m id w.heap.size) id sz 0 rows.length cap w.heap.size vs.toArray ty (0, 0) (by simp [addM]) hc hmx (heap_new w _) (by simpa using hv)
 simpa using q
theorem setAt_men {p : Nat → Bool} {cs : List V} (hc : V.menL p cs = false) : ∀ {cells : List V} (o : Nat), V.menL p cells = false → V.menL p (setAt cells o cs) = false := by
 induction cs with
 | nil => intro cells o h; exact h
 | cons c r ih =>
   intro cells o h
   simp only [setAt]
   simp only [V.menL, Bool.or_eq_false_iff] at hc
   refine ih hc.2 _ (menL_of fun j x hj => ?_)
   rcases List.mem_or_eq_of_mem_set (List.mem_of_getElem? hj) with hx | rfl
   ·obtain ⟨i, hi⟩ := List.getElem?_of_mem hx; exact menL_at h hi
   ·exact hc.1
theorem fillV_men {p : Nat → Bool} {place : Nat → Option (Nat × Nat)} : ∀ {parts : List (Nat × V)} {cells out : List V}, V.menL p cells = false → (∀ x ∈ parts, x.2.men p = false) → fillV place cells parts = some out → V.menL p out = false := by
 intro parts
 induction parts with
 | nil => intro cells out h _ hf; cases hf; exact h
 | cons a r ih =>
   intro cells out h hp hf
   obtain ⟨i, x⟩ := a
   simp only [fillV] at hf
   split at hf
   ·rename_i off n cs _ hcs
    split at hf
    ·exact ih (setAt_men (men_cells (hp (i, x) (by simp)) hcs) _ h) (fun y hy => hp y (by simp [hy])) hf
    ·cases hf
   ·cases hf
theorem Rel.rows_made (h : Rel w0 L0 X m e s a w) {id : Nat} (h90 : 90 ≤ id) (hf : Fresh (· == id) e s) (hid : getB s id = none) {sz len : Nat} {cs : List V} {vs : List Value} {ty : TypeId} (hm : V.menL (· == id) cs = false) (ho : Ones vs) (hr : All2 (VRel w (Live X m s) m) cs vs) (hl : vs.length = len * sz) (hmx : len ≤ 9223372036854775807) (dst : Option Nat) :
  Rel w0 L0 X (addM m id w.heap.size) (Fw.put e dst (.rs id sz 0 len)) (putB s id (.vals cs)) (a.put dst (.slice (some ⟨w.heap.size, 0, none⟩) len len)) (wand w (.cells vs.toArray ty)) := by
 have h1 := h.made h90 hf hid (o := .cells vs.toArray ty) (blk := .vals cs) ⟨vs, [], ty, (0, 0), by rw [List.append_nil]; exact heap_new w _, free00 _, ho, ⟨hr.len, fun j x v q1 q2 => h.vrel_made hid (menL_at hm q1) (hr.at_ j x v q1 q2)⟩⟩
 refine h1.put dst ?_
 have q := VRel.rs (w := wand w (.cells vs.toArray ty)) (L := Live X (addM m id w.heap.size) (putB s id (.vals cs))) (m := addM m id w.heap.size) id sz 0 len len w.heap.size vs.toArray ty (0, 0) (by simp [addM]) (Nat.le_refl _) hmx (heap_new w _) (by simp [hl])
 simpa using q
theorem Rel.map_made (h : Rel w0 L0 X m e s a w) {id : Nat} (h90 : 90 ≤ id) (hf : Fresh (· == id) e s) (hid : getB s id = none) (dst : Option Nat) :
  Rel w0 L0 X (addM m id w.heap.size) (Fw.put e dst (.mp id)) (putB s id (.mp [] [])) (a.put dst (.map (some w.heap.size))) (wand w (.map #[] 0)) := by
 have h1 := h.made h90 hf hid (o := .map #[] 0) (blk := .mp [] []) ⟨#[], 0, heap_new w _, rfl, All2.nil⟩
 exact h1.put dst (.mp id _ (by simp [addM]))
theorem litsD_at {z : List Value} {j : Nat} {x : D} (h : (litsD z)[j]? = some x) : ∃ v, z[j]? = some v ∧ x = .lit v := by
 simp only [litsD, List.getElem?_map, Option.map_eq_some_iff] at h
 obtain ⟨v, h1, h2⟩ := h
 exact ⟨v, h1, h2.symm⟩
theorem opA_run (h : Rel w0 L0 X m e s a w) {id : Nat} (h90 : 90 ≤ id) (hf : Fresh (· == id) e s) (hid : getB s id = none) {o : Oper} {c : Prop} {v : V} {blk : Blk} (hop : opA P o.op (look e) id = some (c, v, blk)) (hc : c) :
  ∃ q w', (execOp a.eval o).run P w = .ok (.value q) w' ∧ Rel w0 L0 X (addM m id w.heap.size) (put e o.dst v) (putB s id blk) (a.put o.dst q) w' := by
 have lift : ∀ {s : Sem Value} {q : Value} {w' : World}, s.run P w = .ok q w' → ((s >>= fun v => pure (.value v)) : Sem Next).run P w = .ok (.value q) w' := by
  intro s q w' hs
  rw [Sem.run_bind, hs]; rfl
 unfold opA at hop
 unfold execOp
 split at hop <;> rename_i heq <;> simp only [heq] <;> try (cases hop; done)
 ·-- box
  rename_i t x
  split at hop
  ·rename_i cs hcs
   cases hop
   obtain ⟨vs, e1, e2, e3⟩ := cells_rel (h.look x) hcs
   refine ⟨_, _, lift (q := .pointer (some ⟨w.heap.size, 0, none⟩)) (w' := wand w (.cells vs.toArray t)) ?_, h.vals_made h90 hf hid (men_cells (look_men hf.env x) hcs) e2 e3 o.dst⟩
   simp [Instr.box, newVar, newRow, e1]
  ·cases hop
 ·-- alloc
  rename_i t
  split at hop
  ·rename_i z hz
   split at hop
   ·rename_i h1
    cases hop
    obtain ⟨i, v, hi, hv, hcell, hl⟩ := zero_info hz
    refine ⟨_, _, lift (q := .pointer (some ⟨w.heap.size, 0, none⟩)) (w' := wand w (.cells z.toArray t)) ?_, h.vals_made h90 hf hid (lits_men _ _) (oneCells_ones h1) (lits_rel h1) o.dst⟩
    simp [Instr.alloc, zeroValue, typeInfo, hi, hv, newVar, newRow, hcell]
   ·cases hop
  ·cases hop
 ·-- buildSlice
  rename_i t len parts
  split at hop
  ·rename_i el hel
   split at hop
   ·rename_i z hz
    split at hop
    ·rename_i hcond
     obtain ⟨h1, h2, h3⟩ := hcond
     split at hop
     ·rename_i cs hcs
      split at hop
      ·rename_i ds hds
       cases hop
       obtain ⟨i, v, hi, hv, hcell, hl⟩ := zero_info hz
       have hones : Ones z := oneCells_ones h1
       have hflat1 : oneCells (List.replicate len z).flatten = true := by
        simp only [oneCells, List.all_eq_true] at h1 ⊢
        intro x hx
        simp only [List.mem_flatten, List.mem_replicate] at hx
        obtain ⟨l, ⟨_, rfl⟩, hx⟩ := hx
        exact h1 x hx
       have hflat : Ones (List.replicate len z).flatten := oneCells_ones hflat1
       obtain ⟨res, r1, r2, r3⟩ := fill_rel (w := w) (L := Live X m s) (m := m) (ps := (parts.map fun (i, x) => (i, a.eval x)).toList) (lits_rel hflat1) hflat (⟨by simp, fun j x y q1 q2 => by
        simp only [List.getElem?_map, Option.map_eq_some_iff] at q1
        obtain ⟨u, hu, rfl⟩ := q1
        simp only [Array.toList_map, List.getElem?_map, hu, Option.map_some, Option.some.injEq] at q2
        rw [← q2]; exact (show _ = _ ∧ VRel w _ m _ _ from ⟨rfl, h.look u.2⟩)⟩) hcs
       have r4 := toDs_rel hds r3
       have hlen : res.length = len * z.length := by
        have e1 := r3.len
        have e2 : cs.length = (lits (List.replicate len z).flatten).length := by
         have : ∀ {place : Nat → Option (Nat × Nat)} {ps : List (Nat × V)} {c out : List V}, fillV place c ps = some out → out.length = c.length := by
          intro place ps
          induction ps with
          | nil => intro c out h; cases h; rfl
          | cons x r ih =>
            intro c out h
            obtain ⟨i, y⟩ := x
            simp only [fillV] at h
            split at h
            ·split at h
             ·rw [ih h]
              have sl : ∀ (l : List V) (c : List V) (o : Nat), (setAt c o l).length = c.length := by
               intro l
               induction l with
               | nil => intro c o; rfl
               | cons x r ih => intro c o; simp [setAt, ih]
              exact sl _ _ _
             ·cases h
            ·cases h
         exact this hcs
        rw [e1, e2]
        simp [lits]
       have hsz : szOf P el = z.length := by simp [szOf, hi, hl]
       have key : ∀ (i j : Nat) (r : List D) (x : D), (chop z.length ds len)[i]? = some r → r[j]? = some x → i < len ∧ j < z.length ∧ ds[i * z.length + j]? = some x := by
        intro i j r x q1 q2
        have hi' : i < len := by have := (List.getElem?_eq_some_iff.1 q1).1; rwa [chop_len] at this
        rw [chop_at _ _ _ _ hi'] at q1
        cases q1
        rw [List.getElem?_take] at q2
        split at q2
        ·rw [List.getElem?_drop] at q2; exact ⟨hi', by assumption, q2⟩
        ·cases q2
       have hrl : ∀ r ∈ chop z.length ds len, r.length = z.length := by
        intro r hr
        obtain ⟨i, hi', rfl⟩ := List.getElem_of_mem hr
        have hlt : i < len := by rwa [chop_len] at hi'
        have e1 := chop_at z.length ds len i hlt
        rw [List.getElem?_eq_getElem hi'] at e1
        rw [Option.some.inj e1]
        have := r4.len
        rw [List.length_take, List.length_drop]
        have : (i + 1) * z.length ≤ len * z.length := Nat.mul_le_mul_right _ hlt
        rw [Nat.add_mul, Nat.one_mul] at this
        omega
       have hfin := h.data_made (ty := el) h90 hf hid (sz := z.length) (rows := chop z.length ds len) (vs := res) (cap := len) (by rw [chop_len]; exact Nat.le_refl _) (by rw [chop_len]; exact Nat.le_trans (Nat.le_mul_of_pos_right _ h2) (Nat.le_trans h3 (by omega))) (by rw [hlen]; exact Nat.le_refl _) hrl (fun i j r x q1 q2 => by
        obtain ⟨a1, a2, a3⟩ := key i j r x q1 q2
        obtain ⟨v, b1, b2⟩ := r4.get a3
        exact ⟨v, b1, r2 v (List.mem_of_getElem? b1), b2⟩) o.dst
       rw [chop_len] at hfin
       refine ⟨_, _, lift (q := .slice (some ⟨w.heap.size, 0, none⟩) len len) (w' := wand w (.cells res.toArray el)) ?_, hfin⟩
       have hz0 : z.length ≠ 0 := by omega
       have hrun : (sizeOf el).run P w = .ok z.length w := by rw [← hsz]; exact sz_run (by rw [hsz]; omega)
       by_cases hl0 : len * z.length = 0
       ·have hlen0 : len = 0 := by
         rcases Nat.mul_eq_zero.1 hl0 with h | h
         ·exact h
         ·omega
        subst hlen0
        simp only [Instr.buildSlice, Sem.run_bind, und_run (elem_und hel), Result.andThen_ok, hrun]
        have r1' : Instr.fill (fun i => some (i * z.length, z.length)) #[] (parts.toList.map fun (i, x) => (i, a.eval x)) = some res.toArray := by simpa using r1
        have e0 : ∀ f : Nat → Value, (Array.range (0 * z.length)).map f = #[] := fun f => by simp
        rw [if_neg (by simp)]
        simp only [if_pos hl0, Sem.run_bind, Sem.run_pure, Result.andThen_ok, e0]
        simp [r1', newRow]
       ·simp only [Instr.buildSlice, Sem.run_bind, und_run (elem_und hel), Result.andThen_ok, hrun]
        rw [if_neg (by omega)]
        simp only [if_neg hl0, Sem.run_bind, zeroValue, info_run hi, hv, Result.andThen_ok, Sem.run_pure, hcell]
        have e1 : ((Array.range (len * z.length)).map (z.toArray[· % z.toArray.size]!)) = (List.replicate len z).flatten.toArray := by
         rw [← range_zero z h2 len]
        have r1' : Instr.fill (fun i => some (i * z.length, z.length)) (List.replicate len z).flatten.toArray (parts.toList.map fun (i, x) => (i, a.eval x)) = some res.toArray := by simpa using r1
        rw [e1]
        simp [r1', newRow]
      ·rename_i hds
       cases hop
       obtain ⟨i, v, hi, hv, hcell, hl⟩ := zero_info hz
       have hones : Ones z := oneCells_ones h1
       have hflat1 : oneCells (List.replicate len z).flatten = true := by
        simp only [oneCells, List.all_eq_true] at h1 ⊢
        intro x hx
        simp only [List.mem_flatten, List.mem_replicate] at hx
        obtain ⟨l, ⟨_, rfl⟩, hx⟩ := hx
        exact h1 x hx
       have hflat : Ones (List.replicate len z).flatten := oneCells_ones hflat1
       obtain ⟨res, r1, r2, r3⟩ := fill_rel (w := w) (L := Live X m s) (m := m) (ps := (parts.map fun (i, x) => (i, a.eval x)).toList) (lits_rel hflat1) hflat (⟨by simp, fun j x y q1 q2 => by
        simp only [List.getElem?_map, Option.map_eq_some_iff] at q1
        obtain ⟨u, hu, rfl⟩ := q1
        simp only [Array.toList_map, List.getElem?_map, hu, Option.map_some, Option.some.injEq] at q2
        rw [← q2]; exact (show _ = _ ∧ VRel w _ m _ _ from ⟨rfl, h.look u.2⟩)⟩) hcs
       have hlen : res.length = len * z.length := by
        have e1 := r3.len
        have e2 : cs.length = (lits (List.replicate len z).flatten).length := by
         have : ∀ {place : Nat → Option (Nat × Nat)} {ps : List (Nat × V)} {c out : List V}, fillV place c ps = some out → out.length = c.length := by
          intro place ps
          induction ps with
          | nil => intro c out h; cases h; rfl
          | cons x r ih =>
            intro c out h
            obtain ⟨i, y⟩ := x
            simp only [fillV] at h
            split at h
            ·split at h
             ·rw [ih h]
              have sl : ∀ (l : List V) (c : List V) (o : Nat), (setAt c o l).length = c.length := by
               intro l
               induction l with
               | nil => intro c o; rfl
               | cons x r ih => intro c o; simp [setAt, ih]
              exact sl _ _ _
             ·cases h
            ·cases h
         exact this hcs
        rw [e1, e2]
        simp [lits]
       have hsz : szOf P el = z.length := by simp [szOf, hi, hl]
       have hfm : V.menL (· == id) cs = false := by
        refine fillV_men (lits_men _ _) (fun x hx => ?_) hcs
        simp only [List.mem_map] at hx
        obtain ⟨u, _, rfl⟩ := hx
        exact look_men hf.env u.2
       have hfin := h.rows_made (ty := el) h90 hf hid (sz := z.length) (len := len) hfm r2 r3 hlen (Nat.le_trans (Nat.le_mul_of_pos_right _ h2) (Nat.le_trans h3 (by omega))) o.dst
       refine ⟨_, _, lift (q := .slice (some ⟨w.heap.size, 0, none⟩) len len) (w' := wand w (.cells res.toArray el)) ?_, hfin⟩
       have hz0 : z.length ≠ 0 := by omega
       have hrun : (sizeOf el).run P w = .ok z.length w := by rw [← hsz]; exact sz_run (by rw [hsz]; omega)
       by_cases hl0 : len * z.length = 0
       ·have hlen0 : len = 0 := by
         rcases Nat.mul_eq_zero.1 hl0 with h | h
         ·exact h
         ·omega
        subst hlen0
        simp only [Instr.buildSlice, Sem.run_bind, und_run (elem_und hel), Result.andThen_ok, hrun]
        have r1' : Instr.fill (fun i => some (i * z.length, z.length)) #[] (parts.toList.map fun (i, x) => (i, a.eval x)) = some res.toArray := by simpa using r1
        have e0 : ∀ f : Nat → Value, (Array.range (0 * z.length)).map f = #[] := fun f => by simp
        rw [if_neg (by simp)]
        simp only [if_pos hl0, Sem.run_bind, Sem.run_pure, Result.andThen_ok, e0]
        simp [r1', newRow]
       ·simp only [Instr.buildSlice, Sem.run_bind, und_run (elem_und hel), Result.andThen_ok, hrun]
        rw [if_neg (by omega)]
        simp only [if_neg hl0, Sem.run_bind, zeroValue, info_run hi, hv, Result.andThen_ok, Sem.run_pure, hcell]
        have e1 : ((Array.range (len * z.length)).map (z.toArray[· % z.toArray.size]!)) = (List.replicate len z).flatten.toArray := by
         rw [← range_zero z h2 len]
        have r1' : Instr.fill (fun i => some (i * z.length, z.length)) (List.replicate len z).flatten.toArray (parts.toList.map fun (i, x) => (i, a.eval x)) = some res.toArray := by simpa using r1
        rw [e1]
        simp [r1', newRow]
     ·cases hop
    ·cases hop
   ·cases hop
  ·cases hop
 ·-- makeSlice
  rename_i t l cp
  split at hop
  ·rename_i el hel
   split at hop
   ·rename_i z kl n kc k hz hn hk
    split at hop
    ·rename_i hcond
     obtain ⟨h1, h2⟩ := hcond
     cases hop
     obtain ⟨⟨n0, nk⟩, hb, hk64⟩ := hc
     obtain ⟨i, v, hi, hv, hcell, hl⟩ := zero_info hz
     have hones : Ones z := oneCells_ones h1
     have e1 := h.look l
     have e2 := h.look cp
     rw [hn] at e1
     rw [hk] at e2
     have e1 := e1.lit_inv
     have e2 := e2.lit_inv
     rw [e1, e2]
     have hsz : szOf P el = z.length := by simp [szOf, hi, hl]
     have hrun : (sizeOf el).run P w = .ok z.length w := by rw [← hsz]; exact sz_run (by rw [hsz]; omega)
     have hfin := h.data_made (ty := el) h90 hf hid (sz := z.length) (rows := List.replicate n.toNat (litsD z)) (vs := (List.replicate k.toNat z).flatten) (cap := k.toNat) (by simp; omega) (by rw [List.length_replicate]; omega) (by simp) (by simp [litsD]) (fun i j r x q1 q2 => by
      have hi' : i < n.toNat := by have := (List.getElem?_eq_some_iff.1 q1).1; simpa using this
      rw [List.getElem?_replicate, if_pos hi'] at q1
      cases q1
      obtain ⟨v, b1, rfl⟩ := litsD_at q2
      exact ⟨v, by rw [flat_at z _ _ _ (by omega) (List.getElem?_eq_some_iff.1 b1).1]; exact b1, hones v (List.mem_of_getElem? b1), .lit v (by simp only [oneCells, List.all_eq_true, Bool.and_eq_true] at h1; exact (h1 v (List.mem_of_getElem? b1)).2)⟩) o.dst
     rw [List.length_replicate] at hfin
     refine ⟨_, _, lift (q := .slice (some ⟨w.heap.size, 0, none⟩) n.toNat k.toNat) (w' := wand w (.cells (List.replicate k.toNat z).flatten.toArray el)) ?_, hfin⟩
     have wr : ∀ x : Int, 0 ≤ x → x ≤ 9223372036854775807 → IntKind.i64.wrap x = x := by
      intro x a b
      simp only [IntKind.wrap, IntKind.bits, IntKind.signed]
      have : x % (2 ^ 64 : Int) = x := Int.emod_eq_of_lt a (by omega)
      simp [this]; omega
     have hby : bytesOfT P el = i.bytes := by simp [bytesOfT, hi]
     rw [hby] at hb
     have t1 : ¬ (k < 0 ∨ (i.bytes : Int) * k > 2 ^ 48) := by omega
     simp only [Instr.makeSlice, Sem.run_bind, und_run (elem_und hel), Result.andThen_ok, asInt, asIntOf, Sem.run_pure, info_run hi, wr n n0 (by omega), wr k (by omega) hk64]
     have t2 : (decide (k < 0) || decide ((i.bytes : Int) * k > 2 ^ 48)) = false := by simpa using t1
     simp only [t2, Bool.false_or, show decide (n < 0) = false by simpa using n0, show decide (n > k) = false by simpa using nk, Bool.false_eq_true, if_false, Sem.run_bind, run_askRoom, Result.andThen_ok, hrun, Sem.run_pure]
     by_cases hk0 : k.toNat * z.length = 0
     ·have hk1 : k.toNat = 0 := by
       rcases Nat.mul_eq_zero.1 hk0 with h | h
       ·exact h
       ·omega
      have e0 : ∀ f : Nat → Value, (Array.range (0 * z.length)).map f = #[] := fun f => by simp
      rw [hk1] at hk0 ⊢
      simp only [if_pos hk0, Sem.run_bind, Sem.run_pure, Result.andThen_ok, e0]
      simp [newRow]
     ·rw [if_neg hk0]
      simp only [Sem.run_bind, zeroValue, info_run hi, hv, Result.andThen_ok, Sem.run_pure, hcell]
      have e1 : ((Array.range (k.toNat * z.length)).map (z.toArray[· % z.toArray.size]!)) = (List.replicate k.toNat z).flatten.toArray := by
       rw [← range_zero z h2 k.toNat]
      rw [e1]
      simp [newRow]
    ·cases hop
   ·cases hop
  ·cases hop
 ·-- makeMap
  cases hop
  refine ⟨_, _, lift (q := .map (some w.heap.size)) (w' := wand w (.map #[] 0)) ?_, h.map_made h90 hf hid o.dst⟩
  simp [Instr.makeMap, newObj, Sem.run]
end
end Go.Fw
end
section
namespace Go.Fw
variable {P : Program}
def setArr (cs : Array Value) (o : Nat) : List Value → Array Value
 | [] => cs
 | v :: r => setArr (cs.setIfInBounds o v) (o + 1) r
theorem setArr_size (vs : List Value) : ∀ (cs : Array Value) (o : Nat), (setArr cs o vs).size = cs.size := by
 induction vs with
 | nil => intro cs o; rfl
 | cons v r ih => intro cs o; simp [setArr, ih]
theorem setArr_at (vs : List Value) : ∀ (cs : Array Value) (o j : Nat), o + vs.length ≤ cs.size → (setArr cs o vs)[j]? = if o ≤ j ∧ j < o + vs.length then vs[j - o]? else cs[j]? := by
 induction vs with
 | nil => intro cs o j h; simp [setArr]; omega
 | cons v r ih =>
   intro cs o j h
   simp only [List.length_cons] at h
   rw [setArr, ih _ _ _ (by simp; omega)]
   by_cases h1 : o + 1 ≤ j ∧ j < o + 1 + r.length
   ·rw [if_pos h1, if_pos (by simp; omega)]
    rw [show j - o = (j - (o + 1)) + 1 by omega]
    simp
   ·rw [if_neg h1]
    by_cases h2 : j = o
    ·subst h2
     rw [if_pos (by simp), Nat.sub_self]
     simp [show j < cs.size by omega]
    ·rw [if_neg (by simp; omega)]
     simp [Array.getElem?_setIfInBounds, Ne.symm h2]
theorem setArr_append {arr : List Value} (ex : List Value) {o : Nat} {vs : List Value} (h : o + vs.length ≤ arr.length) : setArr (arr ++ ex).toArray o vs = ((setArr arr.toArray o vs).toList ++ ex).toArray := by
 apply Array.ext_getElem?
 intro j
 have e1 : (setArr arr.toArray o vs).toList.length = arr.length := by simp [setArr_size]
 have r1 : (setArr (arr ++ ex).toArray o vs)[j]? = if o ≤ j ∧ j < o + vs.length then vs[j - o]? else (arr ++ ex)[j]? := by
  rw [setArr_at _ _ _ _ (by simp; omega), List.getElem?_toArray]
 have r2 : (((setArr arr.toArray o vs).toList ++ ex).toArray)[j]? = if j < arr.length then (if o ≤ j ∧ j < o + vs.length then vs[j - o]? else arr[j]?) else ex[j - arr.length]? := by
  rw [List.getElem?_toArray, List.getElem?_append, e1]
  have e2 : (setArr arr.toArray o vs).toList[j]? = (setArr arr.toArray o vs)[j]? := by simp
  rw [e2, setArr_at _ _ _ _ (by simpa using h), List.getElem?_toArray]
 rw [r1, r2, List.getElem?_append]
 by_cases hj : o ≤ j ∧ j < o + vs.length
 ·rw [if_pos hj, if_pos hj, if_pos (by omega)]
 ·rw [if_neg hj, if_neg hj]
theorem setArr_rel {w : World} {L : Nat → Prop} {m : Nat → Option Nat} {cells : List V} {arr : List Value} (h : All2 (VRel w L m) cells arr) {cs : List V} {vs : List Value} (hc : All2 (VRel w L m) cs vs) : ∀ o, All2 (VRel w L m) (setAt cells o cs) (setArr arr.toArray o vs).toList := by
 induction cs generalizing cells arr vs with
 | nil =>
   intro o
   have : vs = [] := by have := hc.len; simpa using this
   subst this
   simpa [setAt, setArr] using h
 | cons c r ih =>
   intro o
   obtain ⟨y, s, rfl, h1, h2⟩ := hc.head
   have := ih (h.set o h1) h2 (o + 1)
   simpa [setAt, setArr] using this
theorem setArr_ones {vs : List Value} (hv : Ones vs) : ∀ (o : Nat) {arr : List Value}, Ones arr → Ones (setArr arr.toArray o vs).toList := by
 induction vs with
 | nil => intro o arr h; simpa [setArr] using h
 | cons v r ih =>
   intro o arr h
   have h3 : Ones (arr.set o v) := by
    intro x hx
    rcases List.mem_or_eq_of_mem_set hx with hx | rfl
    ·exact h x hx
    ·exact hv _ (by simp)
   have := ih (fun x hx => hv x (by simp [hx])) (o + 1) h3
   simpa [setArr] using this
theorem storeCells_run {b : Nat} {ty : TypeId} {fr : Nat × Nat} (o : Nat) : ∀ (vs : List Value) (i : Nat) (cs : Array Value) (w : World), w.heap[b]? = some (Obj.cells cs ty fr) → Free fr cs.size → o + i + vs.length ≤ cs.size → Ones vs →
  (storeCells ⟨b, o, none⟩ vs i).run P w = .ok () (w.setRow b (setArr cs (o + i) vs)) := by
 intro vs
 induction vs with
 | nil =>
   intro i cs w hb hf hl ho
   simp only [storeCells, setArr, Sem.run_pure]
   congr 1
   unfold World.setRow
   cases w with
   | mk heap tape drawn os output =>
     congr 1
     apply Array.ext
     ·simp
     ·intro k h1 h2
      simp only [Array.getElem_modify]
      split
      ·rename_i hk; subst hk
       have hv := (Array.getElem?_eq_some_iff.1 hb).2
       simp at hv; simp [hv]
      ·rfl
 | cons v r ih =>
   intro i cs w hb hf hl ho
   simp only [List.length_cons] at hl
   have hi : o + i < cs.size := by omega
   have hcell : w.cell? ⟨b, o + i, none⟩ = some cs[o + i] := by simp [World.cell?, hb, hi]
   have hfro : w.frozen? ⟨b, o + i, none⟩ = false := by
    have := hf _ hi
    simp [World.frozen?, hb]
    omega
   have hst : (store ((⟨b, o, none⟩ : Addr).add i) v).run P w = .ok () (w.setRow b (cs.setIfInBounds (o + i) v)) := by
    rw [add_none, run_store P w _ v _ (Ones.one' ho v (by simp)), hcell]
    simp [hfro, setCell_eq_setRow w b (o + i) cs ty fr v hb]
   have := ih (i + 1) (cs.setIfInBounds (o + i) v) (w.setRow b (cs.setIfInBounds (o + i) v)) (setRow_heap w b cs _ ty fr hb) (by simpa using hf) (by simp; omega) (fun x hx => ho x (by simp [hx]))
   simp only [storeCells, Sem.run_bind, hst, Result.andThen_ok, this, setRow_setRow, setArr, Nat.add_assoc]
section
variable {w0 : World} {L0 : Par} {X : Nat → Prop} {m : Nat → Option Nat} {e : Env} {s : Store} {a : Act} {w : World}
theorem men_false : ∀ x : V, x.men (fun _ => false) = false := fun x => by
 induction x using V.rec (motive_2 := fun l => V.menL (fun _ => false) l = false) <;> simp_all [V.men, V.menL]
theorem menL_false (l : List V) : V.menL (fun _ => false) l = false := menL_of fun _ x _ => men_false x
theorem row_kept {b : Nat} {cs cs' : Array Value} {ty : TypeId} {fr : Nat × Nat} (L : Nat → Prop) (hL : L b) : CellsKept L w (w.setRow b cs') := fun x v hx h => by
 rw [cell_setRow_other _ _ _ _ (fun e => hx (by rw [e]; exact hL))]; exact h
theorem row_sizes {b : Nat} {cs cs' : Array Value} {ty : TypeId} {fr : Nat × Nat} (hb : w.heap[b]? = some (Obj.cells cs ty fr)) (hs : cs'.size = cs.size) : SizesKept w (w.setRow b cs') := fun k ds ty' fr' h => by
 by_cases hk : k = b
 ·subst hk
  rw [hb] at h; cases h
  exact ⟨cs', setRow_heap w k _ _ _ _ hb, hs⟩
 ·exact ⟨ds, by rw [setRow_other _ _ _ _ hk]; exact h, rfl⟩
theorem Rel.wroteG (h : Rel w0 L0 X m e s a w) {w' : World} {id b : Nat} {old blk : Blk} (hid : getB s id = some old) (hm : m id = some b) (hk : CellsKept (Live X m s) w w') (hz : SizesKept w w') (hsame : ∀ k, k ≠ b → w'.heap[k]? = w.heap[k]?) (hsize : w.heap.size ≤ w'.heap.size)
  (hos : w'.os = w.os) (htape : w'.tape = w.tape) (hout : w'.output = w.output) (hr : BRel w' (Live X m s) m b blk) : Rel w0 L0 X m e (putB s id blk) a w' := by
 have hown : Own m s b := ⟨id, old, hid, hm⟩
 have hlive : Live X m s b := .inr hown
 have hOv : ∀ b, Own m (putB s id blk) b → Own m s b := by
  rintro b' ⟨i, c, h1, h2⟩
  rw [getB_putB] at h1
  by_cases hi : i = id
  ·subst hi; exact ⟨i, old, hid, h2⟩
  ·rw [if_neg hi] at h1; exact ⟨i, c, h1, h2⟩
 have hLv : ∀ b, Live X m (putB s id blk) b → Live X m s b := fun b hl => hl.imp_right (hOv b)
 have hL : ∀ b', Live X m (putB s id blk) b' → Live X m s b' ∨ w.heap.size ≤ b' := fun b' hl => .inl (hLv b' hl)
 refine ⟨⟨h.env.len, fun j x v q1 q2 => VRel.mono (p := fun _ => false) hk hz hL (fun _ _ => rfl) (men_false x) (h.env.at_ j x v q1 q2)⟩, ⟨fun i blk' hi => ?_, fun i j b' q1 q2 q3 q4 => ?_⟩, h.dfr, ?_, fun b' hl => h.liv b' (hOv b' hl), h.old, fun i hi hs => h.par i hi (by
  rw [getB_putB] at hs
  by_cases e1 : i = id
  ·rw [e1, hid]; rfl
  ·rw [if_neg e1] at hs; exact hs)⟩
 ·rw [getB_putB] at hi
  by_cases e1 : i = id
  ·rw [if_pos e1] at hi; cases hi
   subst e1
   refine .inl ⟨b, hm, ?_⟩
   exact BRel.mono (w := w') (w' := w') (L := Live X m s) (p := fun _ => false) (fun _ _ _ q => q) (fun _ _ _ _ q => ⟨_, q, rfl⟩) (fun b' hl => .inl (hLv b' hl)) (fun _ _ => rfl) rfl (by cases blk <;> first | exact menL_false _ | trivial) hr
  ·rw [if_neg e1] at hi
   rcases h.sto.blk i blk' hi with ⟨b', r1, r2⟩ | ⟨r1, r2⟩
   ·refine .inl ⟨b', r1, BRel.mono (p := fun _ => false) hk hz hL (fun _ _ => rfl) ?_ (by cases blk' <;> first | exact menL_false _ | trivial) r2⟩
    refine hsame _ fun e2 => e1 ?_
    subst e2
    exact h.sto.inj i id b' r1 hm (by rw [hi]; rfl) (by rw [hid]; rfl)
   ·exact .inr ⟨r1, r2⟩
 ·have key : ∀ i, (getB (putB s id blk) i).isSome = true → (getB s i).isSome = true := by
   intro i q
   rw [getB_putB] at q
   by_cases e1 : i = id
   ·subst e1; rw [hid]; rfl
   ·rw [if_neg e1] at q; exact q
  exact h.sto.inj i j b' q1 q2 (key i q3) (key j q4)
 ·refine ⟨hos.trans h.ext.os, htape.trans h.ext.tape, hout.trans h.ext.output, Nat.le_trans h.ext.size hsize, fun k hk' hl => ?_, fun k cs1 ty1 fr1 hk' => ?_⟩
  ·have hne : k ≠ b := by
    intro e1; subst e1
    rcases h.liv k hown with q | q
    ·exact hl q
    ·omega
   rw [hsame _ hne]
   exact h.ext.block k hk' hl
  ·obtain ⟨c1, h1, h2⟩ := h.ext.sizes k cs1 ty1 fr1 hk'
   obtain ⟨c2, h3, h4⟩ := hz k c1 ty1 fr1 h1
   exact ⟨c2, h3, h4.trans h2⟩
theorem Rel.wrote (h : Rel w0 L0 X m e s a w) {id b : Nat} {old blk : Blk} (hid : getB s id = some old) (hm : m id = some b) {cs cs' : Array Value} {ty : TypeId} {fr : Nat × Nat} (hb : w.heap[b]? = some (Obj.cells cs ty fr)) (hs : cs'.size = cs.size)
  (hr : BRel (w.setRow b cs') (Live X m s) m b blk) : Rel w0 L0 X m e (putB s id blk) a (w.setRow b cs') := by
 exact h.wroteG hid hm (row_kept (w := w) (cs := cs) (cs' := cs') (ty := ty) (fr := fr) (Live X m s) (.inr ⟨id, old, hid, hm⟩)) (row_sizes hb hs) (fun k hk => setRow_other _ _ _ _ hk) (by simp) rfl rfl rfl hr
theorem Rel.wroteM (h : Rel w0 L0 X m e s a w) {id b : Nat} {ks ks' : List Value} {vs vs' : List V} (hid : getB s id = some (.mp ks vs)) (hm : m id = some b) {es es' : Array MapEntry} {cl cl' : Nat} (hb : w.heap[b]? = some (Obj.map es cl)) (hks : es'.toList.map (·.key) = ks') (hvs : All2 (VRel w (Live X m s) m) vs' (es'.toList.map (·.val))) :
  Rel w0 L0 X m e (putB s id (.mp ks' vs')) a { w with heap := w.heap.setIfInBounds b (.map es' cl') } := by
 have hlt : b < w.heap.size := (Array.getElem?_eq_some_iff.1 hb).1
 have hsame : ∀ k, k ≠ b → ({ w with heap := w.heap.setIfInBounds b (.map es' cl') } : World).heap[k]? = w.heap[k]? := fun k hk => by
  simp [Array.getElem?_setIfInBounds, Ne.symm hk]
 have hk : CellsKept (Live X m s) w { w with heap := w.heap.setIfInBounds b (.map es' cl') } := fun x v hx hc => by
  have hne : x.block ≠ b := fun e => hx (e ▸ .inr ⟨id, _, hid, hm⟩)
  have := hsame _ hne
  unfold World.cell? at hc ⊢
  rw [this]; exact hc
 have hz : SizesKept w { w with heap := w.heap.setIfInBounds b (.map es' cl') } := fun k cs ty fr hc => by
  have hne : k ≠ b := fun e => by subst e; rw [hb] at hc; cases hc
  exact ⟨cs, by rw [hsame _ hne]; exact hc, rfl⟩
 refine h.wroteG hid hm hk hz hsame (by simp) rfl rfl rfl ⟨es', cl', by simp [Array.getElem?_setIfInBounds, hlt], hks, hvs.mono fun x v hv => ?_⟩
 exact VRel.mono (p := fun _ => false) hk hz (fun b hl => .inl hl) (fun _ _ => rfl) (men_false x) hv
theorem toDs_len {cs : List V} {ds : List D} (h : toDs cs = some ds) : ds.length = cs.length := by rw [toDs_eq h]; simp
theorem setRow_list (cells : List D) (off : Nat) (vs : List D) (h : off + vs.length ≤ cells.length) (j : Nat) : (setRow cells off vs)[j]? = if off ≤ j ∧ j < off + vs.length then vs[j - off]? else cells[j]? := by
 unfold setRow
 rw [List.append_assoc, List.getElem?_append]
 have e1 : (cells.take off).length = off := by simp; omega
 rw [e1]
 split
 ·rename_i h1
  rw [if_neg (by omega), List.getElem?_take, if_pos h1]
 ·rename_i h1
  rw [List.getElem?_append]
  split
  ·rw [if_pos (by omega)]
  ·rename_i h2
   rw [if_neg (by omega), List.getElem?_drop]
   congr 1
   omega
theorem ba_eq {a b : ByteArray} (h : (a == b) = true) : a = b := by
 cases a with | mk a => cases b with | mk b =>
 have : (a == b) = true := h
 rw [eq_of_beq this]
theorem same_eq {d : TypeDesc} {a b : Value} (h : Instr.sameNow d a b = some true) : a = b := by
 unfold Instr.sameNow at h
 split at h
 ·split at h
  ·rename_i e; subst e; simp at h; rw [h]
  ·cases h
 ·simp only [Option.some.injEq] at h; rw [ba_eq h]
 ·simp only [Option.some.injEq, beq_iff_eq] at h; rw [h]
 ·cases h
theorem stays_run {d : TypeDesc} {a b : Value} (h : Instr.sameNow d a b = some true) {w : World} : (Instr.keyThatStays b a).run P w = .ok a w := by
 have e := same_eq h
 subst e
 have : Instr.sameBits 10000 a a = true := by
  rw [show (10000 : Nat) = 9999 + 1 from rfl]
  unfold Instr.sameNow at h
  split at h
  ·simp [Instr.sameBits]
  ·simpa [Instr.sameBits] using h
  ·simp [Instr.sameBits]
  ·cases h
 simp [Instr.keyThatStays, this]
theorem updV_run (h : Rel w0 L0 X m e s a w) {t : TypeId} {x k y : Operand} {c : Prop} {s' : Store} (hop : updV P t (look e x) (look e k) (look e y) s = some (c, s')) (dst : Option Nat) :
  ∃ w', ((do Instr.mapUpdate t (a.eval x) (a.eval k) (a.eval y); pure Next.skip : Sem Next)).run P w = .ok .skip w' ∧ Rel w0 L0 X m (put e dst vundef) s' (a.put dst undef) w' := by
 have hx := h.look x
 have hk := h.look k
 have hy := h.look y
 unfold updV at hop
 split at hop
 ·rename_i kt et ht
  have hu := mapT_und ht
  split at hop
  ·rename_i d kv id hd hkv hxv
   rw [hkv] at hk
   rw [hxv] at hx
   have hkl := hk.lit_inv
   rw [hkl]
   obtain ⟨hku, _⟩ := keyD_und hd
   generalize a.eval x = u at hx ⊢
   split at hop
   ·rename_i ks vs hg
    cases hx with
    | mp _ b hm =>
      rcases h.sto.blk id _ hg with ⟨b', hm', es, cl, hh, rfl, hall⟩ | ⟨hn, _, hn'⟩
      ·rw [hm] at hm'; cases hm'
       have hget : (getObj b).run P w = .ok (.map es cl) w := by simp [getObj, Sem.run, hh]
       have hset : ∀ o : Obj, (setObj b o).run P w = .ok () { w with heap := w.heap.setIfInBounds b o } := fun o => by simp [setObj, Sem.run, hh]
       split at hop
       ·rename_i i hf
        cases hop
        rcases findNow_eq hf with ⟨h1, _⟩ | ⟨j, en, h1, h2, h3, h4⟩
        ·cases h1
        ·simp only [Option.some.injEq, Nat.zero_add] at h1 h4
         subst h1
         have hj : i < es.size := by have := (List.getElem?_eq_some_iff.1 h2).1; simpa using this
         have hei : es[i]? = some en := by simpa using h2
         refine ⟨_, ?_, (h.wroteM (cl' := cl) hg hm hh (es' := es.modify i fun en => { en with key := kv, val := a.eval y }) (ks' := (es.toList.map (·.key)).set i kv) (vs' := vs.set i (look e y)) ?_ ?_).put dst .int⟩
         ·simp [Instr.mapUpdate, hu, und_run hu, hget, check_run hd, Instr.findKey, und_run hku, h4, hei, stays_run h3, hset]
         ·apply List.ext_getElem?
          intro q
          simp [List.getElem?_set, Array.getElem?_modify]
          by_cases e1 : i = q
          ·subst e1; simp [hj]
          ·simp [e1]
         ·have := hall.set i hy
          refine ⟨?_, fun q x v q1 q2 => this.at_ q x v q1 ?_⟩
          ·simpa using hall.len
          ·rw [← q2]
           simp [List.getElem?_set, Array.getElem?_modify]
           by_cases e1 : i = q
           ·subst e1; simp [hj]
           ·simp [e1]
       ·rename_i hf
        cases hop
        rcases findNow_eq hf with ⟨_, h1⟩ | ⟨j, en, h1, _⟩
        ·refine ⟨_, ?_, (h.wroteM (cl' := cl + 1) hg hm hh (es' := es.push { key := kv, val := a.eval y, born := cl }) (ks' := es.toList.map (·.key) ++ [kv]) (vs' := vs ++ [look e y]) (by simp) ?_).put dst .int⟩
         ·simp [Instr.mapUpdate, und_run hu, hget, check_run hd, Instr.findKey, und_run hku, h1, hset]
         ·have := hall.append (All2.cons hy All2.nil)
          simpa using this
        ·cases h1
       ·cases hop
      ·cases hn'
   ·cases hop
  ·cases hop
 ·cases hop
theorem opW_run (h : Rel w0 L0 X m e s a w) {o : Oper} {c : Prop} {s' : Store} (hop : opW P o.op (look e) s = some (c, s')) (hc : c) :
  ∃ w', (execOp a.eval o).run P w = .ok .skip w' ∧ Rel w0 L0 X m (put e o.dst vundef) s' (a.put o.dst undef) w' := by
 unfold opW at hop
 unfold execOp
 split at hop <;> rename_i heq <;> simp only [heq] <;> try (cases hop; done)
 case h_2 => exact updV_run h hop o.dst
 case h_3 => exact updV_run h hop o.dst
 rename_i t x y
 have hx := h.look x
 have hy := h.look y
 generalize a.eval x = u at hx ⊢
 split at hop
 ·rename_i id sz r cl vs ex ecs
  obtain ⟨vals, e1, e2, e3⟩ := cells_rel hy ecs
  split at hop
  ·rename_i hlen
   obtain ⟨hlen, hpos⟩ := hlen
   rw [ex] at hx
   cases hx with
   | pt _ _ _ _ b hm =>
   have hrun : ∀ {w' : World}, (storeCells ⟨b, r * sz + cl, none⟩ vals).run P w = .ok () w' → (do Instr.storeAt t (.pointer (some ⟨b, r * sz + cl, none⟩)) (a.eval y); pure Next.skip : Sem Next).run P w = .ok .skip w' := by
    intro w' hst
    have hsz : (sizeOf t).run P w = .ok (szOf P t) w := sz_run (by omega)
    have hsize : (a.eval y).cells.size = szOf P t := by rw [e1]; simp [e3.len, hlen]
    rw [e1] at hsize
    simp only [Instr.storeAt, Instr.sureAddr, storeVar, Sem.run_bind, Sem.run_pure, Result.andThen_ok, e1, hsz]
    rw [if_neg (by simpa using hsize)]
    simp [hst]
   split at hop
   ·rename_i cells hb
    split at hop
    ·rename_i hle
     cases hop
     rcases h.sto.blk id _ hb with ⟨b', hm', arr, ex, ty, fr, hh, hfr, hone, hall⟩ | ⟨hn, _⟩
     ·rw [hm] at hm'; cases hm'
      have hin : r * sz + cl + vals.length ≤ arr.length := by rw [hall.len, e3.len]; exact hle
      have hst := storeCells_run (P := P) (b := b) (r * sz + cl) vals 0 (arr ++ ex).toArray w hh (by simpa using hfr) (by simp; omega) e2
      simp only [Nat.add_zero, setArr_append ex hin] at hst
      refine ⟨_, hrun hst, Rel.put ?_ o.dst .int⟩
      have hs1 : (setArr arr.toArray (r * sz + cl) vals).toList.length = arr.length := by simp [setArr_size]
      have hs : ((setArr arr.toArray (r * sz + cl) vals).toList ++ ex).toArray.size = (arr ++ ex).toArray.size := by simp [setArr_size]
      refine h.wrote hb hm hh hs ⟨(setArr arr.toArray (r * sz + cl) vals).toList, ex, ty, fr, setRow_heap w b _ _ _ _ hh, ?_, setArr_ones e2 _ hone, ?_⟩
      ·rw [List.length_append, hs1, ← List.length_append]; exact hfr
      ·have q := setArr_rel hall e3 (r * sz + cl)
       exact q.mono fun x v hxv => VRel.mono (p := fun _ => false) (row_kept (cs := (arr ++ ex).toArray) (ty := ty) (fr := fr) _ (.inr ⟨id, _, hb, hm⟩)) (row_sizes hh hs) (fun b' hl => .inl hl) (fun _ _ => rfl) (men_false x) hxv
     ·rw [hm] at hn; cases hn
    ·cases hop
   ·rename_i n rows hb
    split at hop
    ·rename_i ds hds
     split at hop
     ·rename_i hcn
      simp only [rowN] at hop
      cases hop
      obtain ⟨hr, rfl⟩ := hc
      rcases h.sto.blk id _ hb with ⟨b', hm', arr, ty, fr, hh, hfr, hsz, hlen', hall⟩ | ⟨hn, _⟩
      ·rw [hm] at hm'; cases hm'
       have hdl : ds.length = vals.length := by rw [toDs_len hds, e3.len]
       have hin : r * n + cl + vals.length ≤ arr.size := by
        have : (r + 1) * n ≤ rows.length * n := Nat.mul_le_mul_right _ hr
        rw [Nat.add_mul, Nat.one_mul] at this
        omega
       have hst := storeCells_run (P := P) (b := b) (r * n + cl) vals 0 arr w hh hfr (by omega) e2
       simp only [Nat.add_zero] at hst
       refine ⟨_, hrun hst, Rel.put ?_ o.dst .int⟩
       have hs : (setArr arr (r * n + cl) vals).size = arr.size := setArr_size _ _ _
       have hrow : rows[r]? = some (rows.getD r []) := by simp [List.getD_eq_getElem?_getD, List.getElem?_eq_getElem hr]
       have hrl : (rows.getD r []).length = n := hlen' _ (List.mem_of_getElem? hrow)
       have hk := row_kept (w := w) (b := b) (cs := arr) (cs' := setArr arr (r * n + cl) vals) (ty := ty) (fr := fr) (Live X m s) (.inr ⟨id, _, hb, hm⟩)
       refine h.wrote hb hm hh hs ⟨setArr arr (r * n + cl) vals, ty, fr, setRow_heap w b _ _ _ _ hh, by rw [hs]; exact hfr, by rw [hs]; simpa using hsz, ?_, ?_⟩
       ·intro x hx
        rcases List.mem_or_eq_of_mem_set hx with hx | rfl
        ·exact hlen' x hx
        ·unfold setRow
         rw [List.length_append, List.length_append, List.length_take, List.length_drop, hrl]
         omega
       ·intro i j q x q1 q2
        rw [List.getElem?_set] at q1
        split at q1
        ·rename_i hi
         subst hi
         try rw [if_pos hr] at q1
         cases q1
         rw [setRow_list _ _ _ (by omega)] at q2
         split at q2
         ·rename_i hj
          obtain ⟨v, b1, b2⟩ := (toDs_rel hds e3).get q2
          refine ⟨v, ?_, e2 v (List.mem_of_getElem? b1), b2.mono hk (fun b' hl => .inl hl)⟩
          rw [setArr_at _ _ _ _ hin, if_pos (by omega), ← b1]
          congr 1; omega
         ·rename_i hj
          obtain ⟨v, b1, b2, b3⟩ := hall r j _ x hrow q2
          refine ⟨v, ?_, b2, b3.mono hk (fun b' hl => .inl hl)⟩
          rw [setArr_at _ _ _ _ hin, if_neg (by omega)]; exact b1
        ·rename_i hi
         obtain ⟨v, b1, b2, b3⟩ := hall i j q x q1 q2
         refine ⟨v, ?_, b2, b3.mono hk (fun b' hl => .inl hl)⟩
         rw [setArr_at _ _ _ _ hin, if_neg ?_]
         ·exact b1
         ·have hj : j < n := by
           have := (List.getElem?_eq_some_iff.1 q2).1
           rw [hlen' q (List.mem_of_getElem? q1)] at this
           exact this
          rintro ⟨a1, a2⟩
          rcases Nat.lt_or_gt_of_ne hi with hlt | hlt
          ·have : (r + 1) * n ≤ i * n := Nat.mul_le_mul_right _ hlt
           rw [Nat.add_mul, Nat.one_mul] at this
           omega
          ·have : (i + 1) * n ≤ r * n := Nat.mul_le_mul_right _ hlt
           rw [Nat.add_mul, Nat.one_mul] at this
           omega
      ·rw [hm] at hn; cases hn
     ·cases hop
    ·cases hop
   ·cases hop
  ·cases hop
 ·cases hop
end
end Go.Fw
end
section
namespace Go.Fw
variable {P : Program}
theorem src_run {w : World} {X : Nat → Prop} {m : Nat → Option Nat} {s : Store} (hs : SRel w X m s) {sz : Nat} (hsz : 0 < sz) {x : V} {v : Value} {c : Prop} {rows : List (List D)} (hx : VRel w (Live X m s) m x v) (h : srcRows sz x s = some (c, rows)) (hc : c) :
  (∃ A k, v = .slice A rows.length k) ∧ (∀ r ∈ rows, r.length = sz) ∧ ∃ vs : List Value, vs.length = rows.length * sz ∧ (∀ w', w'.heap = w.heap → (Builtin.firstCells sz rows.length v).run P w' = .ok vs.toArray w') ∧
    ∀ (i j : Nat) (r : List D) (x : D), rows[i]? = some r → r[j]? = some x → ∃ v, vs[i * sz + j]? = some v ∧ v.oneCell = true ∧ DRel w (Live X m s) x v := by
 have key : ∀ (b o : Nat) (k : Nat) (f : Nat → Nat → Value), (∀ r ∈ rows, r.length = sz) → (∀ (i j : Nat) (r : List D) (x : D), rows[i]? = some r → r[j]? = some x → w.cell? ⟨b, o + i * sz + j, none⟩ = some (f i j) ∧ (f i j).oneCell = true ∧ DRel w (Live X m s) x (f i j)) →
   ∃ vs : List Value, vs.length = rows.length * sz ∧ (∀ w', w'.heap = w.heap → (Builtin.firstCells sz rows.length (.slice (some ⟨b, o, none⟩) rows.length k)).run P w' = .ok vs.toArray w') ∧
   ∀ (i j : Nat) (r : List D) (x : D), rows[i]? = some r → r[j]? = some x → ∃ v, vs[i * sz + j]? = some v ∧ v.oneCell = true ∧ DRel w (Live X m s) x v := by
  intro b o k f hl hf
  have dm : ∀ i j, j < sz → (i * sz + j) / sz = i ∧ (i * sz + j) % sz = j := fun i j hj => by
   rw [Nat.mul_comm]
   exact ⟨by rw [Nat.mul_add_div hsz, Nat.div_eq_of_lt hj, Nat.add_zero], by rw [Nat.mul_add_mod, Nat.mod_eq_of_lt hj]⟩
  refine ⟨(List.range (rows.length * sz)).map fun q => f (q / sz) (q % sz), by simp, fun w' hw => ?_, fun i j r x h1 h2 => ?_⟩
  ·simp only [Builtin.firstCells]
   refine run_loadCells w' _ _ _ fun q hq => ?_
   rw [add_none]
   have hi : q / sz < rows.length := Nat.div_lt_of_lt_mul (by rw [Nat.mul_comm]; exact hq)
   have hr : rows[q / sz]? = some rows[q / sz] := List.getElem?_eq_getElem hi
   have hj : q % sz < rows[q / sz].length := by rw [hl _ (List.getElem_mem hi)]; exact Nat.mod_lt _ hsz
   have := (hf _ _ _ _ hr (List.getElem?_eq_getElem hj)).1
   have e : o + q / sz * sz + q % sz = o + q := by
    have := Nat.div_add_mod q sz
    rw [Nat.mul_comm] at this
    omega
   rw [e] at this
   simpa [World.cell?, hw] using this
  ·have hj : j < sz := by rw [← hl r (List.mem_of_getElem? h1)]; exact (List.getElem?_eq_some_iff.1 h2).1
   have hi := (List.getElem?_eq_some_iff.1 h1).1
   obtain ⟨e1, e2⟩ := dm i j hj
   have hlt : i * sz + j < rows.length * sz := by
    have : (i + 1) * sz ≤ rows.length * sz := Nat.mul_le_mul_right _ hi
    rw [Nat.add_mul, Nat.one_mul] at this
    omega
   refine ⟨f i j, ?_, (hf i j r x h1 h2).2⟩
   rw [List.getElem?_map, List.getElem?_range hlt]
   simp [e1, e2]
 have empty : ∀ {A : Option Addr} {k : Nat}, rows = [] → ∃ vs : List Value, vs.length = rows.length * sz ∧ (∀ w', w'.heap = w.heap → (Builtin.firstCells sz rows.length (.slice A rows.length k)).run P w' = .ok vs.toArray w') ∧
   ∀ (i j : Nat) (r : List D) (x : D), rows[i]? = some r → r[j]? = some x → ∃ v, vs[i * sz + j]? = some v ∧ v.oneCell = true ∧ DRel w (Live X m s) x v := by
  rintro A k rfl
  refine ⟨[], by simp, fun w' _ => ?_, by simp⟩
  cases A with
  | none => rfl
  | some a => simp [Builtin.firstCells, loadCells, loadCellsFrom]
 unfold srcRows at h
 split at h <;> try (cases h; done)
 ·cases h
  cases hx with
  | d hd =>
    cases hd with
    | slE nn A cap hn => exact ⟨⟨A, cap, rfl⟩, hc, empty rfl⟩
    | sl nn rows b off cap sz' vals hb hc' hmx hz hv ho hr =>
      by_cases h0 : rows = []
      ·exact ⟨⟨_, _, rfl⟩, hc, empty h0⟩
      ·obtain ⟨r, rs, rfl⟩ := List.exists_cons_of_ne_nil h0
       have e : sz' = sz := by rw [← hz r (by simp), hc r (by simp)]
       subst e
       exact ⟨⟨_, _, rfl⟩, hc, key b off cap vals hc fun i j r x h1 h2 => ⟨hv i j r x h1 h2, ho i j r x h1 h2, hr i j r x h1 h2⟩⟩
 ·cases h
  have := hx.lit_inv; subst this
  exact ⟨⟨_, _, rfl⟩, by simp, empty rfl⟩
 ·rename_i id n off len
  split at h
  ·rename_i hn
   subst hn
   split at h
   ·rename_i n' rows' hb
    cases h
    obtain ⟨rfl, hle⟩ := hc
    have hlen : ((rows'.drop off).take len).length = len := by simp; omega
    have hmem : ∀ r ∈ (rows'.drop off).take len, r ∈ rows' := fun r hr => List.mem_of_mem_drop (List.mem_of_mem_take hr)
    cases hx with
    | rsE => exact ⟨⟨none, 0, by simp⟩, by simp, empty (by simp)⟩
    | rs _ _ _ _ cap b cs ty fr hm hc' hxl hh hs' =>
      rcases hs.blk id _ hb with ⟨b', hm', cs', ty', fr', hh', hfr', hsz', hlen', hall⟩ | ⟨hn, _⟩
      ·rw [hm] at hm'; cases hm'
       rw [hh] at hh'; cases hh'
       have e : ∀ i r, ((rows'.drop off).take len)[i]? = some r → rows'[off + i]? = some r := by
        intro i r h1
        rw [List.getElem?_take] at h1
        split at h1
        ·rwa [List.getElem?_drop] at h1
        ·cases h1
       have q := key b (off * n') cap (fun i j => (cs[(off + i) * n' + j]?).getD undef) (fun r hr => hlen' r (hmem r hr)) (fun i j r x h1 h2 => by
        obtain ⟨v, b1, b2, b3⟩ := hall (off + i) j r x (e i r h1) h2
        rw [b1]
        refine ⟨?_, b2, b3⟩
        rw [cell_of hh, show off * n' + i * n' + j = (off + i) * n' + j by rw [Nat.add_mul], b1]; rfl)
       rw [hlen] at q ⊢
       exact ⟨⟨_, _, rfl⟩, fun r hr => hlen' r (hmem r hr), q⟩
      ·rw [hm] at hn; cases hn
   ·cases h
  ·cases h
end Go.Fw
end
section
namespace Go.Fw
variable {P : Program}
theorem getB_fgtS (p : Nat → Bool) (s : Store) (i : Nat) : getB (fgtS p s) i = if p i then none else (getB s i).map (Blk.fgt p) := by
 induction s with
 | nil => simp [fgtS, getB]
 | cons x r ih =>
   obtain ⟨j, c⟩ := x
   simp only [fgtS]
   split
   ·rename_i hj
    rw [ih]
    simp only [getB]
    by_cases e : j = i
    ·subst e; simp [hj]
    ·simp [e]
   ·rename_i hj
    simp only [getB, ih]
    by_cases e : j = i
    ·subst e; simp [hj]
    ·simp [e]
theorem fgt_fresh (p : Nat → Bool) (e : Env) (s : Store) : Fresh p (V.fgtL p e) (fgtS p s) := by
 refine ⟨menL_of fun j x hj => ?_, fun i blk hi => ?_⟩
 ·rw [fgtL_at] at hj
  obtain ⟨y, _, rfl⟩ := Option.map_eq_some_iff.1 hj
  exact fgt_men p y
 ·rw [getB_fgtS] at hi
  split at hi
  ·cases hi
  ·rename_i hp
   refine ⟨by simpa using hp, ?_⟩
   obtain ⟨c, _, rfl⟩ := Option.map_eq_some_iff.1 hi
   cases c with
   | vals cells =>
     simp only [Blk.fgt, FreshB]
     refine menL_of fun j x hj => ?_
     rw [fgtL_at] at hj
     obtain ⟨y, _, rfl⟩ := Option.map_eq_some_iff.1 hj
     exact fgt_men p y
   | mp ks vs =>
     simp only [Blk.fgt, FreshB]
     refine menL_of fun j x hj => ?_
     rw [fgtL_at] at hj
     obtain ⟨y, _, rfl⟩ := Option.map_eq_some_iff.1 hj
     exact fgt_men p y
   | data sz rows => trivial
theorem BRel.fgt {w : World} {L : Nat → Prop} {m : Nat → Option Nat} (p : Nat → Bool) {b : Nat} {blk : Blk} (h : BRel w L m b blk) : BRel w L m b (blk.fgt p) := by
 cases blk with
 | vals cells =>
   obtain ⟨vs, ex, ty, fr, h1, h2, h3, h4⟩ := h
   refine ⟨vs, ex, ty, fr, h1, h2, h3, (h4.len.trans (fgtL_len p _).symm), fun j x v a c => ?_⟩
   rw [fgtL_at] at a
   obtain ⟨y, hy, rfl⟩ := Option.map_eq_some_iff.1 a
   exact (h4.at_ j y v hy c).fgt p
 | mp ks vs =>
   obtain ⟨es, cl, h1, h2, h4⟩ := h
   refine ⟨es, cl, h1, h2, (h4.len.trans (fgtL_len p _).symm), fun j x v a c => ?_⟩
   rw [fgtL_at] at a
   obtain ⟨y, hy, rfl⟩ := Option.map_eq_some_iff.1 a
   exact (h4.at_ j y v hy c).fgt p
 | data sz rows => exact h
def setM (m : Nat → Option Nat) (id : Nat) (ob : Option Nat) : Nat → Option Nat := fun i => if i = id then ob else m i
section
variable {w0 : World} {L0 : Par} {X : Nat → Prop} {m : Nat → Option Nat} {e : Env} {s : Store} {a : Act} {w w' : World}
theorem Rel.swap (h : Rel w0 L0 X m e s a w) {k : Option Nat} {id : Nat} {ob : Option Nat} {blk : Blk} (h90 : 90 ≤ id) (hk0 : ∀ k0, k = some k0 → (getB s k0).isSome = true)
  (hck : CellsKept (Live X m s) w w') (hsz : SizesKept w w') (hother : ∀ b', b' < w.heap.size → (∀ k0, k = some k0 → m k0 ≠ some b') → w'.heap[b']? = w.heap[b']?)
  (hos : w'.os = w.os) (htape : w'.tape = w.tape) (hout : w'.output = w.output) (hsize : w.heap.size ≤ w'.heap.size)
  (hob : (ob = none ∧ ∃ sz, blk = .data sz []) ∨ ∃ b, ob = some b ∧ (w.heap.size ≤ b ∨ ∃ k0, k = some k0 ∧ m k0 = some b) ∧ BRel w' (Live X (setM m id ob) (putB (fgtS (hitO k id) s) id blk)) (setM m id ob) b blk) :
  Rel w0 L0 X (setM m id ob) (V.fgtL (hitO k id) e) (putB (fgtS (hitO k id) s) id blk) a w' := by
 have hp : ∀ i, hitO k id i = false → i ≠ id ∧ k ≠ some i := fun i hi => by
  simp only [hitO, Bool.or_eq_false_iff] at hi
  exact ⟨by simpa using hi.1, by simpa using hi.2⟩
 have hm : ∀ i, hitO k id i = false → setM m id ob i = m i := fun i hi => by unfold setM; rw [if_neg (hp i hi).1]
 have hget : ∀ i c, getB (putB (fgtS (hitO k id) s) id blk) i = some c → i ≠ id → hitO k id i = false ∧ ∃ c0, getB s i = some c0 ∧ c = c0.fgt (hitO k id) := by
  intro i c q hi
  rw [getB_putB, if_neg hi, getB_fgtS] at q
  split at q
  ·cases q
  ·rename_i hpi
   obtain ⟨c0, q1, q2⟩ := Option.map_eq_some_iff.1 q
   exact ⟨by simpa using hpi, c0, q1, q2.symm⟩
 have hown : ∀ b, Own (setM m id ob) (putB (fgtS (hitO k id) s) id blk) b → Own m s b ∨ w.heap.size ≤ b := by
  rintro b ⟨i, c, q1, q2⟩
  by_cases hi : i = id
  ·subst hi
   simp only [setM, if_true] at q2
   rcases hob with ⟨r1, _⟩ | ⟨b', r1, r2, _⟩
   ·rw [r1] at q2; cases q2
   ·rw [r1] at q2; cases q2
    rcases r2 with r2 | ⟨k0, r2, r3⟩
    ·exact .inr r2
    ·obtain ⟨c0, hc0⟩ := Option.isSome_iff_exists.1 (hk0 k0 r2)
     exact .inl ⟨k0, c0, hc0, r3⟩
  ·obtain ⟨q3, c0, q4, _⟩ := hget i c q1 hi
   rw [hm i q3] at q2
   exact .inl ⟨i, c0, q4, q2⟩
 have hlive : ∀ b, Live X (setM m id ob) (putB (fgtS (hitO k id) s) id blk) b → Live X m s b ∨ w.heap.size ≤ b := fun b hl => by
  rcases hl with hl | hl
  ·exact .inl (.inl hl)
  ·exact (hown b hl).imp_left .inr
 refine ⟨⟨h.env.len.trans (fgtL_len _ _).symm, fun j x v q1 q2 => ?_⟩, ⟨fun i c hi => ?_, fun i j b q1 q2 q3 q4 => ?_⟩, h.dfr, ?_, fun b hl => ?_, ?_, ?_⟩
 ·rw [fgtL_at] at q1
  obtain ⟨y, hy, rfl⟩ := Option.map_eq_some_iff.1 q1
  exact VRel.mono (p := hitO k id) hck hsz hlive hm (fgt_men _ y) ((h.env.at_ j y v hy q2).fgt _)
 ·by_cases e1 : i = id
  ·subst e1
   rw [getB_putB, if_pos rfl] at hi
   cases hi
   rcases hob with ⟨r1, r2⟩ | ⟨b, r1, r2, r3⟩
   ·exact .inr ⟨by simp [setM, r1], r2⟩
   ·exact .inl ⟨b, by simp [setM, r1], r3⟩
  ·obtain ⟨q3, c0, q4, rfl⟩ := hget i c hi e1
   rcases h.sto.blk i c0 q4 with ⟨b, r1, r2⟩ | ⟨r1, sz, rfl⟩
   ·refine .inl ⟨b, (hm i q3).trans r1, BRel.mono (p := hitO k id) hck hsz hlive hm (hother b r2.lt fun k0 hk hmk => ?_) ?_ (r2.fgt _)⟩
    ·have := h.sto.inj i k0 b r1 hmk (by rw [q4]; rfl) (hk0 k0 hk)
     subst this
     exact (hp i q3).2 hk
    ·cases c0 with
     | vals cells =>
       refine menL_of fun j x hj => ?_
       rw [fgtL_at] at hj
       obtain ⟨y, _, rfl⟩ := Option.map_eq_some_iff.1 hj
       exact fgt_men _ y
     | mp ks vs =>
       refine menL_of fun j x hj => ?_
       rw [fgtL_at] at hj
       obtain ⟨y, _, rfl⟩ := Option.map_eq_some_iff.1 hj
       exact fgt_men _ y
     | data sz rows => trivial
   ·exact .inr ⟨(hm i q3).trans r1, sz, rfl⟩
 ·have key : ∀ i, setM m id ob i = some b → (getB (putB (fgtS (hitO k id) s) id blk) i).isSome = true → (i = id ∧ (w.heap.size ≤ b ∨ ∃ k0, k = some k0 ∧ m k0 = some b)) ∨ (i ≠ id ∧ hitO k id i = false ∧ m i = some b ∧ ∃ c0, getB s i = some c0) := by
   intro i r1 r2
   by_cases e1 : i = id
   ·subst e1
    simp only [setM, if_true] at r1
    rcases hob with ⟨t1, _⟩ | ⟨b', t1, t2, _⟩
    ·rw [t1] at r1; cases r1
    ·rw [t1] at r1; cases r1; exact .inl ⟨rfl, t2⟩
   ·obtain ⟨c, hc⟩ := Option.isSome_iff_exists.1 r2
    obtain ⟨q3, c0, q4, _⟩ := hget i c hc e1
    exact .inr ⟨e1, q3, (hm i q3) ▸ r1, c0, q4⟩
  have clash : ∀ i, hitO k id i = false → m i = some b → (∃ c0, getB s i = some c0) → (w.heap.size ≤ b ∨ ∃ k0, k = some k0 ∧ m k0 = some b) → False := by
   rintro i t1 t2 ⟨c0, t3⟩ (t4 | ⟨k0, t4, t5⟩)
   ·have := h.m_lt t3 t2; omega
   ·have := h.sto.inj i k0 b t2 t5 (by rw [t3]; rfl) (hk0 k0 t4)
    subst this
    exact (hp i t1).2 t4
  rcases key i q1 q3 with ⟨e1, e2⟩ | ⟨e1, e2, e3, e4⟩ <;> rcases key j q2 q4 with ⟨f1, f2⟩ | ⟨f1, f2, f3, f4⟩
  ·omega
  ·exact (clash j f2 f3 f4 e2).elim
  ·exact (clash i e2 e3 e4 f2).elim
  ·obtain ⟨c0, hc0⟩ := e4
   obtain ⟨c1, hc1⟩ := f4
   exact h.sto.inj i j b e3 f3 (by rw [hc0]; rfl) (by rw [hc1]; rfl)
 ·refine ⟨hos.trans h.ext.os, htape.trans h.ext.tape, hout.trans h.ext.output, Nat.le_trans h.ext.size hsize, fun b hb hl => ?_, fun b cs ty fr hb => ?_⟩
  ·rw [hother b (Nat.lt_of_lt_of_le hb h.ext.size) fun k0 hk hmk => ?_]
   ·exact h.ext.block b hb hl
   ·obtain ⟨c0, hc0⟩ := Option.isSome_iff_exists.1 (hk0 k0 hk)
    rcases h.liv b ⟨k0, c0, hc0, hmk⟩ with q | q
    ·exact hl q
    ·omega
  ·obtain ⟨c1, h1, h2⟩ := h.ext.sizes b cs ty fr hb
   obtain ⟨c2, h3, h4⟩ := hsz b c1 ty fr h1
   exact ⟨c2, h3, h4.trans h2⟩
 ·rcases hown b hl with q | q
  ·exact h.liv b q
  ·exact .inr (Nat.le_trans h.ext.size q)
 ·exact h.old
 ·intro i hi hs
  have e1 : i ≠ id := by omega
  obtain ⟨c, hc⟩ := Option.isSome_iff_exists.1 hs
  obtain ⟨q3, c0, q4, _⟩ := hget i c hc e1
  rw [hm i q3]
  exact h.par i hi (by rw [q4]; rfl)
theorem base_run (h : SRel w X m s) {sz : Nat} {x : V} {v : Value} {c : Prop} {k : Option Nat} {rows : List (List D)} (hx : VRel w (Live X m s) m x v) (hb : baseRows sz x s = some (k, c, rows)) (hc : c) :
  (v = .slice none 0 0 ∧ rows = [] ∧ ∀ k0, k = some k0 → (getB s k0).isSome = true) ∨ ∃ k0 b len cap cs ty fr, k = some k0 ∧ (getB s k0).isSome = true ∧ m k0 = some b ∧ v = .slice (some ⟨b, 0, none⟩) len cap ∧ len ≤ cap ∧ w.heap[b]? = some (Obj.cells cs ty fr) ∧ Free fr cs.size ∧ cap * sz ≤ cs.size ∧
    rows.length = len ∧ (∀ r ∈ rows, r.length = sz) ∧ ∀ (i j : Nat) (r : List D) (x : D), rows[i]? = some r → r[j]? = some x → ∃ v, cs[i * sz + j]? = some v ∧ v.oneCell = true ∧ DRel w (Live X m s) x v := by
 unfold baseRows at hb
 split at hb <;> try (cases hb; done)
 ·cases hb
  have := hx.lit_inv; subst this
  exact .inl ⟨rfl, rfl, by simp⟩
 ·rename_i id n len
  split at hb
  ·rename_i hn
   subst hn
   split at hb
   ·rename_i n' rows' hg
    cases hb
    obtain ⟨rfl, hle⟩ := hc
    cases hx with
    | rsE => exact .inl ⟨rfl, by simp, by rintro k0 ⟨⟩; rw [hg]; rfl⟩
    | rs _ _ _ _ cap b cs ty fr hm hc' hxl hh hs' =>
      refine .inr ⟨id, b, len, cap, cs, ty, fr, rfl, by rw [hg]; rfl, hm, by simp, hc', hh, ?_⟩
      rcases h.blk id _ hg with ⟨b', hm', cs', ty', fr', hh', hfr', hsz', hlen', hall⟩ | ⟨hn, _⟩
      ·rw [hm] at hm'; cases hm'
       rw [hh] at hh'; cases hh'
       refine ⟨hfr', by simpa using hs', by simp; omega, fun r hr => hlen' r (List.mem_of_mem_take hr), fun i j r x h1 h2 => ?_⟩
       rw [List.getElem?_take] at h1
       split at h1
       ·exact hall i j r x h1 h2
       ·cases h1
      ·rw [hm] at hn; cases hn
   ·cases hb
  ·cases hb
end
end Go.Fw
end
section
namespace Go.Fw
variable {P : Program}
theorem app_room {t u el ty : TypeId} {sz : Nat} (ht : elemOfT P t = some el) (hu : tkind P u = 1) (hsz : (∀ w, (sizeOf el).run P w = .ok sz w)) {w : World} {base A : Option Addr} {sLen sCap n k : Nat} {vs : List Value} (hle : sLen + n ≤ sCap)
  (hnew : (Builtin.firstCells sz n (.slice A n k)).run P w = .ok vs.toArray w) :
  (Builtin.append_ #[t, u] ty #[.slice base sLen sCap, .slice A n k]).run P w = (match base with | some a => ((storeCells (a.add (sLen * sz)) vs).run P w).andThen (fun _ w' => .ok (.slice base (sLen + n) sCap) w') | none => .ok (.slice base (sLen + n) sCap) w) := by
 obtain ⟨eu, hue⟩ := tkind1 hu
 simp only [Builtin.append_, List.getElem?_toArray, List.getElem?_cons_zero, List.getElem?_cons_succ, Sem.run_bind, und_run (elem_und ht), Result.andThen_ok, hsz, und_run hue, Sem.run_pure, Builtin.lenOf, if_pos hle, Bool.not_false, if_true, hnew, Bool.false_eq_true, if_false, Sem.run_ite]
 cases base with
 | none => simp
 | some a => simp
theorem app_grow {t u el ty : TypeId} {z : List Value} (ht : elemOfT P t = some el) (hu : tkind P u = 1) (hz : zeroOf P el = some z) (hzl : 0 < z.length) (hby : 0 < bytesOfT P el) {w : World} {base A : Option Addr} {sLen sCap n k : Nat} {olds vs : List Value} (hgt : sCap < sLen + n)
  (hbd : (sLen + n) * bytesOfT P el ≤ 140737488355328)
  (hold : ∀ w', w'.heap = w.heap → (Builtin.firstCells z.length sLen (.slice base sLen sCap)).run P w' = .ok olds.toArray w')
  (hnew : ∀ w', w'.heap = w.heap → (Builtin.firstCells z.length n (.slice A n k)).run P w' = .ok vs.toArray w') :
  ∃ cap, sLen + n ≤ cap ∧ (Builtin.append_ #[t, u] ty #[.slice base sLen sCap, .slice A n k]).run P w = .ok (.slice (some ⟨w.heap.size, 0, none⟩) (sLen + n) cap) (wand { w with drawn := w.drawn + 1 } (.cells (olds ++ vs ++ (List.replicate (cap - (sLen + n)) z).flatten).toArray el)) := by
 obtain ⟨eu, hue⟩ := tkind1 hu
 obtain ⟨i, v, hi, hv, hcell, hl⟩ := zero_info hz
 have hsz : ∀ w, (sizeOf el).run P w = .ok z.length w := fun w => by simp [sizeOf, typeInfo, hi, hl]
 have hb : bytesOfT P el = i.bytes := by simp [bytesOfT, hi]
 rw [hb] at hby hbd
 have hneed : (sLen + n : Nat) ≤ 140737488355328 := Nat.le_trans (Nat.le_mul_of_pos_right _ hby) hbd
 have hn1 : ¬ (((sLen + n : Nat) : Int) > IntKind.i64.max ∧ i.bytes = 0) := by omega
 have hn2 : ¬ (Builtin.nextslicecap (sLen + n) sCap * i.bytes > 2 ^ 48) := by have := growslice_fits hgt hbd; omega
 have hgt' : ¬ (sLen + n ≤ sCap) := by omega
 let cap := (Question.appendCap (sLen + n) sCap el).cut (w.tape w.drawn (Question.appendCap (sLen + n) sCap el))
 have hcap : sLen + n ≤ cap := by show sLen + n ≤ (sLen + n) + _ % _; omega
 refine ⟨cap, hcap, ?_⟩
 have hz' : Builtin.zeroCells z.toArray (cap - (sLen + n)) = (List.replicate (cap - (sLen + n)) z).flatten.toArray := by
  unfold Builtin.zeroCells
  rw [← range_zero z hzl (cap - (sLen + n)), Array.toArray_toList]
  rfl
 simp only [Builtin.append_, List.getElem?_toArray, List.getElem?_cons_zero, List.getElem?_cons_succ, Sem.run_bind, und_run (elem_und ht), Result.andThen_ok, hsz, und_run hue, Sem.run_pure, Builtin.lenOf, if_neg hgt', info_run hi, Sem.run_ite, Bool.false_eq_true, false_or, if_neg hn1, if_neg hn2, if_false, Bool.not_false, if_true, run_choose, Question.forced, run_askRoom]
 rw [hold { w with drawn := w.drawn + 1 } rfl]
 simp only [Result.andThen_ok]
 rw [hnew { w with drawn := w.drawn + 1 } rfl]
 simp only [Result.andThen_ok, zeroValue, Sem.run_bind, info_run hi, hv, Sem.run_pure, hcell, newRow, run_newObj]
 show Result.ok (Value.slice _ _ cap) (World.mk (w.heap.push (Obj.cells (olds.toArray ++ vs.toArray ++ Builtin.zeroCells z.toArray (cap - (sLen + n))) el)) _ _ _ _) = _
 rw [hz']
 simp
 rfl
section
variable {w0 : World} {L0 : Par} {X : Nat → Prop} {m : Nat → Option Nat} {e : Env} {s : Store} {a : Act} {w : World}
theorem two_rows {R : D → Value → Prop} {sz : Nat} {olds news : List (List D)} {us vs : List Value} (hlu : us.length = olds.length * sz) (hu : ∀ (i j : Nat) (r : List D) (x : D), olds[i]? = some r → r[j]? = some x → ∃ v, us[i * sz + j]? = some v ∧ v.oneCell = true ∧ R x v)
  (hv : ∀ (i j : Nat) (r : List D) (x : D), news[i]? = some r → r[j]? = some x → ∃ v, vs[i * sz + j]? = some v ∧ v.oneCell = true ∧ R x v) (ws : List Value) (ho : ∀ r ∈ olds, r.length = sz) :
  ∀ (i j : Nat) (r : List D) (x : D), (olds ++ news)[i]? = some r → r[j]? = some x → ∃ v, (us ++ vs ++ ws)[i * sz + j]? = some v ∧ v.oneCell = true ∧ R x v := by
 intro i j r x h1 h2
 rw [List.getElem?_append] at h1
 split at h1
 ·rename_i hi
  obtain ⟨v, b1, b2⟩ := hu i j r x h1 h2
  refine ⟨v, ?_, b2⟩
  rw [List.append_assoc, List.getElem?_append, if_pos (List.getElem?_eq_some_iff.1 b1).1]
  exact b1
 ·rename_i hi
  obtain ⟨v, b1, b2⟩ := hv _ j r x h1 h2
  refine ⟨v, ?_, b2⟩
  have e1 : i * sz + j = olds.length * sz + ((i - olds.length) * sz + j) := by
   have : i = olds.length + (i - olds.length) := by omega
   rw [← Nat.add_assoc, ← Nat.add_mul, ← this]
  rw [List.append_assoc, List.getElem?_append, if_neg (by omega), e1, hlu, Nat.add_sub_cancel_left, List.getElem?_append, if_pos (List.getElem?_eq_some_iff.1 b1).1]
  exact b1
theorem append_run (h : Rel w0 L0 X m e s a w) {o : Oper} {cl : Call} (ho : o.op = .call cl) (hcal : cl.callee = .builtin .append) {k : Option Nat} {c : Prop} {sz : Nat} {all : List (List D)} (hop : opAppend P cl (look e) s = some (k, c, sz, all)) (hc : c) (id : Nat) (h90 : 90 ≤ id) :
  ∃ q w' m', (execOp a.eval o).run P w = .ok (.value q) w' ∧ Rel w0 L0 X m' (put (V.fgtL (hitO k id) e) o.dst (.rs id sz 0 all.length)) (putB (fgtS (hitO k id) s) id (.data sz all)) (a.put o.dst q) w' := by
 unfold opAppend at hop
 split at hop
 ·rename_i x y t u hargs htys
  have ha : cl.args = #[x, y] := by rw [← Array.toArray_toList (xs := cl.args), hargs]
  have htt : cl.argTypes = #[t, u] := by rw [← Array.toArray_toList (xs := cl.argTypes), htys]
  split at hop
  ·rename_i el hel
   split at hop
   ·rename_i z hz
    split at hop
    ·rename_i hcond
     obtain ⟨h1, h2, h3, h4⟩ := hcond
     split at hop
     ·rename_i k' c1 olds c2 news hb hsr
      cases hop
      obtain ⟨hc1, hc2, hbd⟩ := hc
      obtain ⟨⟨A, kk, hyv⟩, hnl, vs, hvl, hvr, hvd⟩ := src_run (P := P) h.sto h2 (h.look y) hsr hc2
      rw [hyv] at hvr
      have hbase := base_run h.sto (h.look x) hb hc1
      have lift : ∀ {q : Value} {w' : World}, (Builtin.append_ #[t, u] o.type #[a.eval x, a.eval y]).run P w = .ok q w' → (execOp a.eval o).run P w = .ok (.value q) w' := by
       intro q w' hq
       simp only [execOp, ho, resolve, hcal, ha, htt, invoke, builtin, pure_bind, List.map_toArray, List.map_cons, List.map_nil, Sem.run_bind, hq, Result.andThen_ok, Sem.run_pure]
      have hones : Ones z := oneCells_ones h1
      have hmx : olds.length + news.length ≤ 9223372036854775807 := Nat.le_trans (Nat.le_mul_of_pos_right _ h3) (Nat.le_trans hbd (by omega))
      obtain ⟨i, zv, hi, hzv, hcell, hl⟩ := zero_info hz
      have hsz : ∀ w, (sizeOf el).run P w = .ok z.length w := fun w => by simp [sizeOf, typeInfo, hi, hl]
      -- a new row
      have grow : ∀ {base : Option Addr} {sLen sCap : Nat} {us : List Value}, a.eval x = .slice base sLen sCap → sCap < sLen + news.length → sLen = olds.length → us.length = olds.length * z.length →
        (∀ w', w'.heap = w.heap → (Builtin.firstCells z.length sLen (.slice base sLen sCap)).run P w' = .ok us.toArray w') →
        (∀ (i j : Nat) (r : List D) (x : D), olds[i]? = some r → r[j]? = some x → ∃ v, us[i * z.length + j]? = some v ∧ v.oneCell = true ∧ DRel w (Live X m s) x v) → (∀ r ∈ olds, r.length = z.length) → (∀ k0, k = some k0 → (getB s k0).isSome = true) →
        ∃ q w' m', (execOp a.eval o).run P w = .ok (.value q) w' ∧ Rel w0 L0 X m' (put (V.fgtL (hitO k id) e) o.dst (.rs id z.length 0 (olds ++ news).length)) (putB (fgtS (hitO k id) s) id (.data z.length (olds ++ news))) (a.put o.dst q) w' := by
       intro base sLen sCap us hxv hgt hlo hul hur hud hol hk
       subst hlo
       obtain ⟨cap, hcap, hrun⟩ := app_grow (P := P) (ty := o.type) hel h4 hz h2 h3 hgt hbd hur hvr
       rw [← hxv, ← hyv] at hrun
       let w1 : World := { w with drawn := w.drawn + 1 }
       let cells := (us ++ vs ++ (List.replicate (cap - (olds.length + news.length)) z).flatten)
       have hclen : cells.length = cap * z.length := by
        simp only [cells, List.length_append, hul, hvl, List.length_flatten, List.map_replicate, List.sum_replicate_nat]
        rw [← Nat.add_mul, ← Nat.add_mul]
        congr 1; omega
       have hck : CellsKept (Live X m s) w (wand w1 (.cells cells.toArray el)) := fun b v hn hb => and_kept w (.cells cells.toArray el) (Live X m s) b v hn hb
       refine ⟨_, _, setM m id (some w.heap.size), lift hrun, Rel.put (h.swap h90 (k := k) (w' := wand w1 (.cells cells.toArray el)) hk hck (and_sizes w _) (fun b hb _ => and_heap w _ hb) rfl rfl rfl (by have e9 : w1.heap.size = w.heap.size := rfl; simp [wand]; omega) (.inr ⟨w.heap.size, rfl, .inl (Nat.le_refl _), ?_⟩)) o.dst ?_⟩
       ·refine ⟨cells.toArray, el, (0, 0), heap_new w _, free00 _, ?_, fun r hr => ?_, fun i j r x q1 q2 => ?_⟩
        ·simp only [List.size_toArray, hclen, List.length_append]
         exact Nat.mul_le_mul_right _ hcap
        ·rcases List.mem_append.1 hr with hr | hr
         ·exact hol r hr
         ·exact hnl r hr
        ·obtain ⟨v, b1, b2, b3⟩ := two_rows hul hud hvd ((List.replicate (cap - (olds.length + news.length)) z).flatten) hol i j r x q1 q2
         refine ⟨v, by simpa [cells] using b1, b2, b3.mono hck fun b hl => ?_⟩
         rcases hl with hl | ⟨i', c', t1, t2⟩
         ·exact .inl (.inl hl)
         rw [getB_putB] at t1
         by_cases e1 : i' = id
         ·subst e1; simp [setM] at t2; exact .inr (by omega)
         ·rw [if_neg e1, getB_fgtS] at t1
          split at t1
          ·cases t1
          ·obtain ⟨c0, t3, _⟩ := Option.map_eq_some_iff.1 t1
           simp only [setM, if_neg e1] at t2
           exact .inl (.inr ⟨i', c0, t3, t2⟩)
       ·have q := VRel.rs (w := wand w1 (.cells cells.toArray el)) (L := Live X (setM m id (some w.heap.size)) (putB (fgtS (hitO k id) s) id (.data z.length (olds ++ news)))) (m := setM m id (some w.heap.size)) id z.length 0 (olds.length + news.length) cap w.heap.size cells.toArray el (0, 0) (by simp [setM]) hcap hmx (heap_new w _) (by simp [hclen])
        simpa using q
      rcases hbase with ⟨hxv, rfl, hk⟩ | ⟨k0, b, len, cap, cs, ty, fr, rfl, hk0, hmk, hxv, hlc, hh, hfr, hcs, hol, holl, hod⟩
      ·by_cases hn : news = []
       ·subst hn
        have hrun := app_room (P := P) (ty := o.type) (base := none) (sLen := 0) (sCap := 0) (n := 0) (A := A) (k := kk) (vs := vs) hel h4 hsz (Nat.le_refl _) (hvr w rfl)
        rw [← hxv] at hrun
        simp only [List.length_nil] at hyv
        rw [← hyv] at hrun
        refine ⟨_, w, setM m id none, lift hrun, Rel.put (h.swap h90 (k := k) (ob := none) hk (fun _ _ _ q => q) (fun _ cs _ _ q => ⟨cs, q, rfl⟩) (fun _ _ _ => rfl) rfl rfl rfl (Nat.le_refl _) (.inl ⟨rfl, _, rfl⟩)) o.dst ?_⟩
        rw [hxv]
        exact .rsE id _
       ·exact grow hxv (by have := List.length_pos_iff.2 hn; omega) rfl (us := []) (by simp) (fun w' _ => rfl) (by simp) (by simp) hk
      ·by_cases hroom : len + news.length ≤ cap
       ·have hrun := app_room (P := P) (ty := o.type) (base := some ⟨b, 0, none⟩) (A := A) (k := kk) (vs := vs) hel h4 hsz hroom (hvr w rfl)
        have hin : len * z.length + vs.length ≤ cs.size := by
         rw [hvl, ← Nat.add_mul]
         exact Nat.le_trans (Nat.mul_le_mul_right _ hroom) hcs
        have hones' : Ones vs := by
         intro v hv
         obtain ⟨q, hq, rfl⟩ := List.getElem_of_mem hv
         have hi' : q / z.length < news.length := Nat.div_lt_of_lt_mul (by rw [Nat.mul_comm, ← hvl]; exact hq)
         have hr := List.getElem?_eq_getElem hi'
         have hj : q % z.length < (news[q / z.length]).length := by rw [hnl _ (List.getElem_mem hi')]; exact Nat.mod_lt _ h2
         obtain ⟨v, b1, b2, _⟩ := hvd _ _ _ _ hr (List.getElem?_eq_getElem hj)
         have e1 : q / z.length * z.length + q % z.length = q := by rw [Nat.mul_comm]; exact Nat.div_add_mod q z.length
         rw [e1, List.getElem?_eq_getElem hq] at b1
         cases b1; exact b2
        have hst := storeCells_run (P := P) (b := b) (len * z.length) vs 0 cs w hh hfr (by omega) hones'
        simp only [Nat.add_zero] at hst
        simp only [add_none, Nat.zero_add, hst, Result.andThen_ok] at hrun
        rw [← hxv, ← hyv] at hrun
        have hs : (setArr cs (len * z.length) vs).size = cs.size := setArr_size _ _ _
        obtain ⟨c0, hc0⟩ := Option.isSome_iff_exists.1 hk0
        have hlive : Live X m s b := .inr ⟨k0, c0, hc0, hmk⟩
        have hkept := row_kept (w := w) (b := b) (cs := cs) (cs' := setArr cs (len * z.length) vs) (ty := ty) (fr := fr) (Live X m s) hlive
        refine ⟨_, _, setM m id (some b), lift hrun, Rel.put (h.swap h90 (k := some k0) (by rintro k1 ⟨⟩; exact hk0) hkept (row_sizes hh hs) (fun b' hb' hne => setRow_other _ _ _ _ fun e1 => hne k0 rfl (by rw [e1]; exact hmk)) rfl rfl rfl (by simp) (.inr ⟨b, rfl, .inr ⟨k0, rfl, hmk⟩, ?_⟩)) o.dst ?_⟩
        ·refine ⟨setArr cs (len * z.length) vs, ty, fr, setRow_heap w b _ _ _ _ hh, by rw [hs]; exact hfr, ?_, fun r hr => ?_, fun i j r x q1 q2 => ?_⟩
         ·rw [hs, List.length_append, hol]
          exact Nat.le_trans (Nat.mul_le_mul_right _ hroom) hcs
         ·rcases List.mem_append.1 hr with hr | hr
          ·exact holl r hr
          ·exact hnl r hr
         ·have hL' : ∀ b', Live X (setM m id (some b)) (putB (fgtS (hitO (some k0) id) s) id (.data z.length (olds ++ news))) b' → Live X m s b' ∨ w.heap.size ≤ b' := by
           rintro b' (hl | ⟨i', c', t1, t2⟩)
           ·exact .inl (.inl hl)
           rw [getB_putB] at t1
           by_cases e1 : i' = id
           ·subst e1; simp [setM] at t2; rw [← t2]; exact .inl hlive
           ·rw [if_neg e1, getB_fgtS] at t1
            split at t1
            ·cases t1
            ·obtain ⟨c0, t3, _⟩ := Option.map_eq_some_iff.1 t1
             simp only [setM, if_neg e1] at t2
             exact .inl (.inr ⟨i', c0, t3, t2⟩)
          rw [List.getElem?_append] at q1
          split at q1
          ·rename_i hi'
           obtain ⟨v, b1, b2, b3⟩ := hod i j r x q1 q2
           refine ⟨v, ?_, b2, b3.mono hkept hL'⟩
           rw [setArr_at _ _ _ _ hin, if_neg ?_]
           ·exact b1
           ·have hj : j < z.length := by
             rw [← holl r (List.mem_of_getElem? q1)]; exact (List.getElem?_eq_some_iff.1 q2).1
            have : (i + 1) * z.length ≤ len * z.length := Nat.mul_le_mul_right _ (by omega)
            rw [Nat.add_mul, Nat.one_mul] at this
            omega
          ·rename_i hi'
           obtain ⟨v, b1, b2, b3⟩ := hvd _ j r x q1 q2
           refine ⟨v, ?_, b2, b3.mono hkept hL'⟩
           have hlt := (List.getElem?_eq_some_iff.1 b1).1
           have e1 : i * z.length + j = len * z.length + ((i - olds.length) * z.length + j) := by
            have : i = len + (i - olds.length) := by omega
            rw [← Nat.add_assoc, ← Nat.add_mul, ← this]
           rw [setArr_at _ _ _ _ hin, e1, if_pos (by omega), Nat.add_sub_cancel_left]
           exact b1
        ·have q := VRel.rs (w := w.setRow b (setArr cs (len * z.length) vs)) (L := Live X (setM m id (some b)) (putB (fgtS (hitO (some k0) id) s) id (.data z.length (olds ++ news)))) (m := setM m id (some b)) id z.length 0 (len + news.length) cap b (setArr cs (len * z.length) vs) ty fr (by simp [setM]) hroom (by omega) (setRow_heap w b _ _ _ _ hh) (by rw [hs]; simpa using hcs)
         simpa [hol] using q
       ·refine grow hxv (by omega) hol.symm (us := (cs.toList.take (len * z.length))) ?_ ?_ ?_ holl (by rintro k1 ⟨⟩; exact hk0)
        ·have : len * z.length ≤ cap * z.length := Nat.mul_le_mul_right _ hlc
         simp [hol]; omega
        ·intro w' hw
         have hle : len * z.length ≤ cs.size := Nat.le_trans (Nat.mul_le_mul_right _ hlc) hcs
         have q := run_loadCells_list (P := P) w' ⟨b, 0, none⟩ (cs.toList.take (len * z.length)) fun j v hj => by
          rw [add_none, Nat.zero_add]
          rw [List.getElem?_take] at hj
          split at hj
          ·rw [cell_of (by rw [hw]; exact hh)]; simpa using hj
          ·cases hj
         have e1 : (cs.toList.take (len * z.length)).length = len * z.length := by simp; omega
         rw [e1] at q
         exact q
        ·intro i j r x q1 q2
         obtain ⟨v, b1, b2, b3⟩ := hod i j r x q1 q2
         refine ⟨v, ?_, b2, b3⟩
         have hj : j < z.length := by
          rw [← holl r (List.mem_of_getElem? q1)]; exact (List.getElem?_eq_some_iff.1 q2).1
         have hi' := (List.getElem?_eq_some_iff.1 q1).1
         have : (i + 1) * z.length ≤ len * z.length := Nat.mul_le_mul_right _ (by omega)
         rw [Nat.add_mul, Nat.one_mul] at this
         rw [List.getElem?_take, if_pos (by omega)]
         simpa using b1
     ·cases hop
    ·cases hop
   ·cases hop
  ·cases hop
 ·cases hop
end
end Go.Fw
end
section
namespace Go.Fw
variable {P : Program}
theorem srcV_run {w : World} {X : Nat → Prop} {m : Nat → Option Nat} {s : Store} (hs : SRel w X m s) {sz n : Nat} {x : V} {v : Value} {c : Prop} {nv : List V} (hx : VRel w (Live X m s) m x v) (h : srcV sz x s = some (c, n, nv)) (hc : c) :
  (∃ A k, v = .slice A n k) ∧ 0 < n ∧ ∃ vs : List Value, vs.length = n * sz ∧ Ones vs ∧ All2 (VRel w (Live X m s) m) nv vs ∧ ∀ w', w'.heap = w.heap → (Builtin.firstCells sz n v).run P w' = .ok vs.toArray w' := by
 unfold srcV at h
 split at h <;> try (cases h; done)
 rename_i id n' off len
 split at h
 ·rename_i hn
  subst hn
  split at h
  ·rename_i cells hg
   cases h
   obtain ⟨hc0, hc⟩ := hc
   cases hx with
   | rsE => omega
   | rs _ _ _ _ cap b cs ty fr hm hc' hxl hh hs' =>
     rcases hs.blk id _ hg with ⟨b', hm', arr, ex, ty', fr', hh', hfr', hone, hall⟩ | ⟨_, _, hn⟩
     ·rw [hm] at hm'; cases hm'
      rw [hh] at hh'; cases hh'
      have hle : off * n' + n * n' ≤ arr.length := by rw [hall.len]; exact hc
      have hvl : ((arr.drop (off * n')).take (n * n')).length = n * n' := by simp; omega
      refine ⟨⟨_, _, rfl⟩, hc0, (arr.drop (off * n')).take (n * n'), hvl, fun v hv => hone v (List.mem_of_mem_drop (List.mem_of_mem_take hv)), (hall.drop _).take _, fun w' hw => ?_⟩
      have q := run_loadCells_list (P := P) w' ⟨b, off * n', none⟩ ((arr.drop (off * n')).take (n * n')) fun j v hj => by
       rw [List.getElem?_take] at hj
       split at hj
       ·rw [List.getElem?_drop] at hj
        rw [add_none, cell_of (by rw [hw]; exact hh), List.getElem?_toArray, List.getElem?_append_left (List.getElem?_eq_some_iff.1 hj).1]
        exact hj
       ·cases hj
      rw [hvl] at q
      exact q
     ·cases hn
  ·cases h
 ·cases h
theorem baseV_run {w : World} {X : Nat → Prop} {m : Nat → Option Nat} {s : Store} (hs : SRel w X m s) {sz n : Nat} {x : V} {v : Value} {c : Prop} {k : Option Nat} {cells : List V} (hx : VRel w (Live X m s) m x v) (hb : baseV sz x s = some (k, c, n, cells)) (hc : c) :
  (v = .slice none 0 0 ∧ n = 0 ∧ cells = [] ∧ ∀ k0, k = some k0 → (getB s k0).isSome = true) ∨ ∃ k0 b cap arr ex ty fr, k = some k0 ∧ (getB s k0).isSome = true ∧ m k0 = some b ∧ v = .slice (some ⟨b, 0, none⟩) n cap ∧ n ≤ cap ∧ w.heap[b]? = some (Obj.cells (arr ++ ex).toArray ty fr) ∧ Free fr (arr ++ ex).length ∧ cap * sz ≤ (arr ++ ex).length ∧
    cells.length = n * sz ∧ Ones arr ∧ All2 (VRel w (Live X m s) m) cells arr := by
 unfold baseV at hb
 split at hb <;> try (cases hb; done)
 ·cases hb
  have := hx.lit_inv; subst this
  exact .inl ⟨rfl, rfl, rfl, by simp⟩
 ·rename_i id n' len
  split at hb
  ·rename_i hn
   subst hn
   split at hb
   ·rename_i cells' hg
    cases hb
    cases hx with
    | rsE => exact .inl ⟨rfl, rfl, by simpa using hc, by rintro k0 ⟨⟩; rw [hg]; rfl⟩
    | rs _ _ _ _ cap b cs ty fr hm hc' hxl hh hs' =>
      rcases hs.blk id _ hg with ⟨b', hm', arr, ex, ty', fr', hh', hfr', hone, hall⟩ | ⟨_, _, hn⟩
      ·rw [hm] at hm'; cases hm'
       rw [hh] at hh'; cases hh'
       exact .inr ⟨id, b, cap, arr, ex, ty, fr, rfl, by rw [hg]; rfl, hm, by simp, hc', hh, hfr', by simpa using hs', hc, hone, hall⟩
      ·cases hn
   ·cases hb
  ·cases hb
section
variable {w0 : World} {L0 : Par} {X : Nat → Prop} {m : Nat → Option Nat} {e : Env} {s : Store} {a : Act} {w : World}
theorem setArr_end {arr ex : List Value} {vs : List Value} (h : vs.length ≤ ex.length) : setArr (arr ++ ex).toArray arr.length vs = (arr ++ vs ++ ex.drop vs.length).toArray := by
 apply Array.ext_getElem?
 intro j
 rw [setArr_at _ _ _ _ (by simp; omega), List.getElem?_toArray, List.getElem?_toArray, List.append_assoc, List.getElem?_append, List.getElem?_append]
 by_cases hj : j < arr.length
 ·rw [if_neg (by omega), if_pos hj, if_pos hj]
 ·rw [if_neg hj, if_neg hj, List.getElem?_append]
  by_cases h2 : j - arr.length < vs.length
  ·rw [if_pos (by omega), if_pos h2]
  ·rw [if_neg (by omega), if_neg h2, List.getElem?_drop]
   congr 1; omega
theorem append_runV (h : Rel w0 L0 X m e s a w) {o : Oper} {cl : Call} (ho : o.op = .call cl) (hcal : cl.callee = .builtin .append) {k : Option Nat} {c : Prop} {sz n : Nat} {all : List V} (hop : opAppendV P cl (look e) s = some (k, c, sz, n, all)) (hc : c) (id : Nat) (h90 : 90 ≤ id) :
  ∃ q w' m', (execOp a.eval o).run P w = .ok (.value q) w' ∧ Rel w0 L0 X m' (put (V.fgtL (hitO k id) e) o.dst (.rs id sz 0 n)) (putB (fgtS (hitO k id) s) id (.vals (V.fgtL (hitO k id) all))) (a.put o.dst q) w' := by
 unfold opAppendV at hop
 split at hop
 ·rename_i x y t u hargs htys
  have ha : cl.args = #[x, y] := by rw [← Array.toArray_toList (xs := cl.args), hargs]
  have htt : cl.argTypes = #[t, u] := by rw [← Array.toArray_toList (xs := cl.argTypes), htys]
  split at hop
  ·rename_i el hel
   split at hop
   ·rename_i z hz
    split at hop
    ·rename_i hcond
     obtain ⟨h1, h2, h3, h4⟩ := hcond
     split at hop
     ·rename_i k' c1 n1 olds c2 n2 news hb hsr
      cases hop
      obtain ⟨hc1, hc2, hbd⟩ := hc
      obtain ⟨⟨A, kk, hyv⟩, hn2, vs, hvl, hvo, hva, hvr⟩ := srcV_run (P := P) h.sto (h.look y) hsr hc2
      rw [hyv] at hvr
      have hbase := baseV_run h.sto (h.look x) hb hc1
      have lift : ∀ {q : Value} {w' : World}, (Builtin.append_ #[t, u] o.type #[a.eval x, a.eval y]).run P w = .ok q w' → (execOp a.eval o).run P w = .ok (.value q) w' := by
       intro q w' hq
       simp only [execOp, ho, resolve, hcal, ha, htt, invoke, builtin, pure_bind, List.map_toArray, List.map_cons, List.map_nil, Sem.run_bind, hq, Result.andThen_ok, Sem.run_pure]
      have hones : Ones z := oneCells_ones h1
      have hmx : n1 + n2 ≤ 9223372036854775807 := Nat.le_trans (Nat.le_mul_of_pos_right _ h3) (Nat.le_trans hbd (by omega))
      obtain ⟨i, zv, hi, hzv, hcell, hl⟩ := zero_info hz
      have hsz : ∀ w, (sizeOf el).run P w = .ok z.length w := fun w => by simp [sizeOf, typeInfo, hi, hl]
      -- cells, told less
      have less : ∀ {w' : World} {ob : Option Nat} {xs : List V} {us : List Value} {blk : Blk}, CellsKept (Live X m s) w w' → SizesKept w w' → (∀ b, ob = some b → Live X m s b ∨ w.heap.size ≤ b) → All2 (VRel w (Live X m s) m) xs us →
        All2 (VRel w' (Live X (setM m id ob) (putB (fgtS (hitO k id) s) id blk)) (setM m id ob)) (V.fgtL (hitO k id) xs) us := by
       intro w' ob xs us blk hck hszk hob hxs
       refine ⟨hxs.len.trans (fgtL_len _ _).symm, fun j x v q1 q2 => ?_⟩
       rw [fgtL_at] at q1
       obtain ⟨y, hy, rfl⟩ := Option.map_eq_some_iff.1 q1
       refine VRel.mono (p := hitO k id) hck hszk ?_ (fun i hi => ?_) (fgt_men _ y) ((hxs.at_ j y v hy q2).fgt _)
       ·rintro b (hl | ⟨i', c', t1, t2⟩)
        ·exact .inl (.inl hl)
        ·rw [getB_putB] at t1
         by_cases e1 : i' = id
         ·subst e1; simp only [setM, if_true] at t2; exact hob b t2
         ·rw [if_neg e1, getB_fgtS] at t1
          split at t1
          ·cases t1
          ·obtain ⟨c0, t3, _⟩ := Option.map_eq_some_iff.1 t1
           simp only [setM, if_neg e1] at t2
           exact .inl (.inr ⟨i', c0, t3, t2⟩)
       ·simp only [hitO, Bool.or_eq_false_iff, beq_eq_false_iff_ne] at hi
        simp only [setM, if_neg hi.1]
      -- a new row
      have grow : ∀ {base : Option Addr} {sCap : Nat} {us : List Value}, a.eval x = .slice base n1 sCap → sCap < n1 + n2 → us.length = n1 * z.length → Ones us → All2 (VRel w (Live X m s) m) olds us →
        (∀ w', w'.heap = w.heap → (Builtin.firstCells z.length n1 (.slice base n1 sCap)).run P w' = .ok us.toArray w') → (∀ k0, k = some k0 → (getB s k0).isSome = true) →
        ∃ q w' m', (execOp a.eval o).run P w = .ok (.value q) w' ∧ Rel w0 L0 X m' (put (V.fgtL (hitO k id) e) o.dst (.rs id z.length 0 (n1 + n2))) (putB (fgtS (hitO k id) s) id (.vals (V.fgtL (hitO k id) (olds ++ news)))) (a.put o.dst q) w' := by
       intro base sCap us hxv hgt hul huo hua hur hk
       obtain ⟨cap, hcap, hrun⟩ := app_grow (P := P) (ty := o.type) hel h4 hz h2 h3 hgt hbd hur hvr
       rw [← hxv, ← hyv] at hrun
       let w1 : World := { w with drawn := w.drawn + 1 }
       let ex := (List.replicate (cap - (n1 + n2)) z).flatten
       have hclen : (us ++ vs ++ ex).length = cap * z.length := by
        simp only [ex, List.length_append, hul, hvl, List.length_flatten, List.map_replicate, List.sum_replicate_nat]
        rw [← Nat.add_mul, ← Nat.add_mul]
        congr 1; omega
       have hck : CellsKept (Live X m s) w (wand w1 (.cells (us ++ vs ++ ex).toArray el)) := fun b v hn hb => and_kept w (.cells (us ++ vs ++ ex).toArray el) (Live X m s) b v hn hb
       refine ⟨_, _, setM m id (some w.heap.size), lift hrun, Rel.put (h.swap h90 (k := k) (w' := wand w1 (.cells (us ++ vs ++ ex).toArray el)) hk hck (and_sizes w _) (fun b hb _ => and_heap w _ hb) rfl rfl rfl (by have e9 : w1.heap.size = w.heap.size := rfl; simp [wand]; omega) (.inr ⟨w.heap.size, rfl, .inl (Nat.le_refl _), ?_⟩)) o.dst ?_⟩
       ·refine ⟨us ++ vs, ex, el, (0, 0), heap_new w _, free00 _, ?_, less hck (and_sizes w _) (fun b hb => by cases hb; exact .inr (Nat.le_refl _)) (hua.append hva)⟩
        intro v hv
        rcases List.mem_append.1 hv with hv | hv
        ·exact huo v hv
        ·exact hvo v hv
       ·have q := VRel.rs (w := wand w1 (.cells (us ++ vs ++ ex).toArray el)) (L := Live X (setM m id (some w.heap.size)) (putB (fgtS (hitO k id) s) id (.vals (V.fgtL (hitO k id) (olds ++ news))))) (m := setM m id (some w.heap.size)) id z.length 0 (n1 + n2) cap w.heap.size (us ++ vs ++ ex).toArray el (0, 0) (by simp [setM]) hcap hmx (heap_new w _) (by simp only [List.size_toArray, hclen, Nat.zero_add, Nat.le_refl])
        simpa using q
      rcases hbase with ⟨hxv, rfl, rfl, hk⟩ | ⟨k0, b, cap, arr, ex, ty, fr, rfl, hk0, hmk, hxv, hlc, hh, hfr, hcs, hol, hone, hall⟩
      ·exact grow hxv (by omega) (us := []) (by simp) (by intro v hv; cases hv) All2.nil (fun w' _ => rfl) hk
      ·have harr : arr.length = n1 * z.length := by rw [hall.len, hol]
       by_cases hroom : n1 + n2 ≤ cap
       ·have hrun := app_room (P := P) (ty := o.type) (base := some ⟨b, 0, none⟩) (A := A) (k := kk) (vs := vs) hel h4 hsz hroom (hvr w rfl)
        have hin : n1 * z.length + vs.length ≤ (arr ++ ex).length := by
         rw [hvl, ← Nat.add_mul]
         exact Nat.le_trans (Nat.mul_le_mul_right _ hroom) hcs
        have hst := storeCells_run (P := P) (b := b) (n1 * z.length) vs 0 (arr ++ ex).toArray w hh (by simpa using hfr) (by simpa using hin) hvo
        have hend : setArr (arr ++ ex).toArray (n1 * z.length) vs = (arr ++ vs ++ ex.drop vs.length).toArray := by
         rw [← harr]
         exact setArr_end (by simp only [List.length_append] at hin; omega)
        simp only [Nat.add_zero] at hst
        simp only [add_none, Nat.zero_add, hst, Result.andThen_ok] at hrun
        rw [← hxv, ← hyv] at hrun
        have hs : (setArr (arr ++ ex).toArray (n1 * z.length) vs).size = (arr ++ ex).toArray.size := setArr_size _ _ _
        obtain ⟨c0, hc0⟩ := Option.isSome_iff_exists.1 hk0
        have hlive : Live X m s b := .inr ⟨k0, c0, hc0, hmk⟩
        have hkept := row_kept (w := w) (b := b) (cs := (arr ++ ex).toArray) (cs' := setArr (arr ++ ex).toArray (n1 * z.length) vs) (ty := ty) (fr := fr) (Live X m s) hlive
        refine ⟨_, _, setM m id (some b), lift hrun, Rel.put (h.swap h90 (k := some k0) (by rintro k1 ⟨⟩; exact hk0) hkept (row_sizes hh hs) (fun b' hb' hne => setRow_other _ _ _ _ fun e1 => hne k0 rfl (by rw [e1]; exact hmk)) rfl rfl rfl (by simp) (.inr ⟨b, rfl, .inr ⟨k0, rfl, hmk⟩, ?_⟩)) o.dst ?_⟩
        ·refine ⟨arr ++ vs, ex.drop vs.length, ty, fr, ?_, ?_, ?_, less hkept (row_sizes hh hs) (fun b' hb' => by cases hb'; exact .inl hlive) (hall.append hva)⟩
         ·rw [← hend]; exact setRow_heap w b _ _ _ _ hh
         ·have : (arr ++ vs ++ ex.drop vs.length).length = (arr ++ ex).length := by
           simp only [List.length_append, List.length_drop] at hin ⊢; omega
          rw [this]; exact hfr
         ·intro v hv
          rcases List.mem_append.1 hv with hv | hv
          ·exact hone v hv
          ·exact hvo v hv
        ·have q := VRel.rs (w := w.setRow b (setArr (arr ++ ex).toArray (n1 * z.length) vs)) (L := Live X (setM m id (some b)) (putB (fgtS (hitO (some k0) id) s) id (.vals (V.fgtL (hitO (some k0) id) (olds ++ news))))) (m := setM m id (some b)) id z.length 0 (n1 + n2) cap b (setArr (arr ++ ex).toArray (n1 * z.length) vs) ty fr (by simp [setM]) hroom hmx (setRow_heap w b _ _ _ _ hh) (by rw [hs]; simpa using hcs)
         simpa using q
       ·refine grow hxv (by omega) harr hone hall ?_ (by rintro k1 ⟨⟩; exact hk0)
        intro w' hw
        have q := run_loadCells_list (P := P) w' ⟨b, 0, none⟩ arr fun j v hj => by
         rw [add_none, Nat.zero_add, cell_of (by rw [hw]; exact hh), List.getElem?_toArray, List.getElem?_append_left (List.getElem?_eq_some_iff.1 hj).1]
         exact hj
        rw [harr] at q
        exact q
     ·cases hop
    ·cases hop
   ·cases hop
  ·cases hop
 ·cases hop
end
end Go.Fw
end
section
namespace Go.Fw
variable {P : Program}
theorem map_congr_ops {α β : Type} {f g : α → β} {l : List α} (h : ∀ x ∈ l, f x = g x) : l.map f = l.map g := List.map_congr_left h
theorem optmap_congr {x : Option Operand} {ρ ρ' : Operand → V} (h : ∀ y ∈ x.toArray, ρ y = ρ' y) : x.map ρ = x.map ρ' := by
 cases x with
 | none => rfl
 | some y => simp [h y (by simp)]
theorem opP_congr {op : Op} {ρ ρ' : Operand → V} (h : ∀ x ∈ op.operands, ρ x = ρ' x) : opP P op ρ = opP P op ρ' := by
 cases op <;> simp only [opP] <;> simp only [Op.operands] at h
 case move x => rw [h x (by simp)]
 case assign x => rw [h x (by simp)]
 case pick c a b => rw [h c (by simp), h a (by simp), h b (by simp)]
 case build t ps =>
  have e : (ps.toList.map fun (i, x) => (i, ρ x)) = ps.toList.map fun (i, x) => (i, ρ' x) := map_congr_ops fun x hx => by
   obtain ⟨i, x⟩ := x
   simp only
   rw [h x (by simp; exact ⟨i, by simpa using hx⟩)]
  rw [e]
 case nilCheck x => rw [h x (by simp)]
 case binOp op t x y t' => rw [h x (by simp), h y (by simp)]
 case unOp op t x => rw [h x (by simp)]
 case convert s d x => rw [h x (by simp)]
 case makeFunc f first capt =>
  cases f <;> simp only
  rw [map_congr_ops (l := capt.toList) (f := ρ) (g := ρ') fun x hx => h x (by simp; exact .inr (by simpa using hx))]
 case slice t x lo hi mx =>
  rw [h x (by simp), optmap_congr (x := lo) fun y hy => h y (by simp [hy]), optmap_congr (x := hi) fun y hy => h y (by simp [hy]), optmap_congr (x := mx) fun y hy => h y (by simp [hy])]
 case fieldAddr t x f => rw [h x (by simp)]
 case field t x f => rw [h x (by simp)]
 case indexAddr t x i => rw [h x (by simp), h i (by simp)]
 case index t x i => rw [h x (by simp), h i (by simp)]
 case extract t i => rw [h t (by simp)]
 case call c =>
  rw [map_congr_ops (l := c.args.toList) (f := ρ) (g := ρ') fun x hx => h x (by simp [Call.operands]; exact .inr (by simpa using hx))]
theorem opR_congr {op : Op} {ρ ρ' : Operand → V} {s : Store} (h : ∀ x ∈ op.operands, ρ x = ρ' x) : opR P op ρ s = opR P op ρ' s := by
 cases op <;> simp only [opR] <;> simp only [Op.operands] at h
 case load t x => rw [h x (by simp)]
 case call c =>
  split
  ·rename_i x t h1 h2
   rw [h x (by
    simp only [Call.operands, Array.mem_append]
    exact .inr (Array.mem_toList_iff.1 (by rw [h1]; simp)))]
  ·rfl
 case lookup t m k ok => rw [h m (by simp), h k (by simp)]
theorem opA_congr {op : Op} {ρ ρ' : Operand → V} {id : Nat} (h : ∀ x ∈ op.operands, ρ x = ρ' x) : opA P op ρ id = opA P op ρ' id := by
 cases op <;> simp only [opA] <;> simp only [Op.operands] at h
 case box t x => rw [h x (by simp)]
 case buildSlice t n ps =>
  have e : (ps.toList.map fun (i, x) => (i, ρ x)) = ps.toList.map fun (i, x) => (i, ρ' x) := map_congr_ops fun x hx => by
   obtain ⟨i, x⟩ := x
   simp only
   rw [h x (by simp; exact ⟨i, by simpa using hx⟩)]
  rw [e]
 case makeSlice t l c => rw [h l (by simp), h c (by simp)]
 case makeMap t r => cases r <;> rfl
theorem opW_congr {op : Op} {ρ ρ' : Operand → V} {s : Store} (h : ∀ x ∈ op.operands, ρ x = ρ' x) : opW P op ρ s = opW P op ρ' s := by
 cases op <;> simp only [opW] <;> simp only [Op.operands] at h
 case store t x y => rw [h x (by simp), h y (by simp)]
 case mapUpdate t m k x => rw [h m (by simp), h k (by simp), h x (by simp)]
 case insert t m k x => rw [h m (by simp), h k (by simp), h x (by simp)]
theorem mkAg_men {p : Nat → Bool} {cells : List V} (h : V.menL p cells = false) : (mkAg cells).men p = false := by
 unfold mkAg
 split
 ·rfl
 ·exact h
theorem menL_sub {p : Nat → Bool} {l k : List V} (h : V.menL p l = false) (hs : ∀ x ∈ k, x ∈ l) : V.menL p k = false := by
 refine menL_of fun j x hj => ?_
 obtain ⟨i, hi⟩ := List.getElem?_of_mem (hs x (List.mem_of_getElem? hj))
 exact menL_at h hi
theorem one_men {p : Nat → Bool} {g : Bool} {n : Nat} {cells : List V} {v : V} (h : V.menL p cells = false) (ho : one g n cells = some v) : v.men p = false := by
 unfold one at ho
 split at ho
 ·split at ho
  ·cases ho; exact mkAg_men h
  ·cases ho
 ·cases cells with
  | nil => cases ho
  | cons c r => cases ho; exact menL_at h (j := 0) rfl
theorem partV_men {p : Nat → Bool} {g : Bool} {n off : Nat} {cells : List V} {v : V} (h : V.menL p cells = false) (ho : partV g n off cells = some v) : v.men p = false := by
 unfold partV at ho
 split at ho
 ·exact one_men (menL_sub h fun x hx => List.mem_of_mem_drop (List.mem_of_mem_take hx)) ho
 ·cases ho
theorem aggCells_men {p : Nat → Bool} {x : V} {cs : List V} (h : x.men p = false) (hc : aggCells x = some cs) : V.menL p cs = false := by
 unfold aggCells at hc
 split at hc
 ·cases hc; exact h
 ·cases hc; exact menL_map_d p _
 ·cases hc
theorem binV_men {p : Nat → Bool} {op : BinOp} {t : TypeId} {x y : V} {c : Prop} {v : V} (h : binV P op t x y = some (c, v)) : v.men p = false := by
 unfold binV at h
 have en : ∀ {c' : Prop} {b : Bool}, eqNil op c' b = some (c, v) → v.men p = false := by
  intro c' b h
  cases op <;> simp only [eqNil, Option.some.injEq, Prod.mk.injEq, reduceCtorEq] at h <;> rw [← h.2] <;> rfl
 split at h
 ·split at h
  ·split at h <;> cases h; rfl
  ·split at h <;> cases h; rfl
  ·split at h
   ·split at h <;> cases h; rfl
   ·cases h
 ·split at h
  ·split at h <;> cases h <;> rfl
  ·cases h
 ·split at h <;> cases h; rfl
 ·unfold nilV at h
  split at h
  ·split at h
   ·split at h
    ·exact en h
    ·cases h
   ·split at h
    ·split at h
     ·exact en h
     ·cases h
    ·cases h
  ·cases h
theorem sliceV_men {p : Nat → Bool} {z : Nat} {x : V} {lo hi mx : Option V} {c : Prop} {v : V} (hx : x.men p = false) (h : sliceV z x lo hi mx = some (c, v)) : v.men p = false := by
 unfold sliceV at h
 split at h
 ·rename_i l' h' _ _ 
  split at h
  ·cases l' <;> cases h' <;> simp only [cutSl, Option.some.injEq, Prod.mk.injEq] at h <;> rw [← h.2] <;> rfl
  ·split at h
   ·cases l' <;> cases h' <;> simp only [cutRs, Option.some.injEq, Prod.mk.injEq] at h <;> rw [← h.2] <;> (try split) <;> first | rfl | exact hx
   ·cases h
  ·cases h
 ·cases h
theorem sliceS_men {p : Nat → Bool} {x : V} {lo hi mx : Option V} {c : Prop} {v : V} (h : sliceS x lo hi mx = some (c, v)) : v.men p = false := by
 unfold sliceS at h
 split at h
 ·rename_i l' h' _ _
  split at h
  ·cases l' <;> cases h' <;> simp only [cutStr, Option.some.injEq, Prod.mk.injEq] at h <;> rw [← h.2] <;> rfl
  ·cases h
 ·cases h
theorem buildA_men {p : Nat → Bool} {t : TypeId} {parts : List (Nat × V)} {v : V} (hp : ∀ x ∈ parts, x.2.men p = false) (h : buildA P t parts = some v) : v.men p = false := by
 unfold buildA at h
 split at h
 ·split at h
  ·split at h
   ·rename_i hcs
    cases h
    exact mkAg_men (fillV_men (lits_men _ _) hp hcs)
   ·cases h
  ·cases h
 ·cases h
theorem indexA_men {p : Nat → Bool} {t : TypeId} {x i : V} {c : Prop} {v : V} (hx : x.men p = false) (h : indexA P t x i = some (c, v)) : v.men p = false := by
 unfold indexA at h
 split at h
 ·rename_i hcs _
  split at h
  ·split at h
   ·cases h
   ·split at h
    ·rename_i hv; cases h; exact partV_men (aggCells_men hx (by assumption)) hv
    ·cases h
  ·cases h
 ·cases h
theorem opP_men {p : Nat → Bool} {op : Op} {ρ : Operand → V} {c : Prop} {v : V} (hρ : ∀ x, (ρ x).men p = false) (h : opP P op ρ = some (c, v)) : v.men p = false := by
 unfold opP at h
 split at h <;> try (cases h; done)
 ·cases h; exact hρ _
 ·cases h; exact hρ _
 ·split at h
  ·rename_i t _; cases h; cases t <;> exact hρ _
  ·cases h
 ·split at h
  ·split at h
   ·split at h
    ·rename_i hcs
     cases h
     refine mkAg_men (fillV_men (lits_men _ _) (fun x hx => ?_) hcs)
     simp only [List.mem_map] at hx
     obtain ⟨y, _, rfl⟩ := hx
     exact hρ _
    ·cases h
   ·cases h
  ·split at h
   ·rename_i hb
    cases h
    refine buildA_men (fun x hx => ?_) hb
    simp only [List.mem_map] at hx
    obtain ⟨y, _, rfl⟩ := hx
    exact hρ _
   ·cases h
  ·cases h
 ·rename_i x
  have := hρ x
  split at h <;> cases h <;> rename_i hv <;> rw [hv] at this <;> exact this
 ·exact binV_men h
 ·split at h
  ·rename_i hv
   cases h
   unfold unV at hv
   split at hv <;> cases hv <;> rfl
  ·cases h
 ·split at h
  ·cases h
   refine menL_of fun j x hj => ?_
   simp only [List.getElem?_map, Option.map_eq_some_iff] at hj
   obtain ⟨y, _, rfl⟩ := hj
   exact hρ _
  ·cases h
 ·split at h
  ·split at h
   ·cases h
   ·exact sliceV_men (hρ _) h
  ·split at h
   ·exact sliceS_men h
   ·cases h
 ·rename_i t x f
  have := hρ x
  split at h
  ·split at h
   ·cases h
   ·split at h <;> cases h <;> rename_i hv <;> rw [hv] at this <;> exact this
  ·cases h
 ·split at h
  ·rename_i hcs
   split at h
   ·split at h
    ·cases h
    ·split at h
     ·rename_i hv; cases h; exact partV_men (aggCells_men (hρ _) hcs) hv
     ·cases h
   ·cases h
  ·cases h
 ·rename_i t x i
  have := hρ x
  split at h
  ·split at h
   ·cases h
   ·unfold idxV at h
    split at h
    ·split at h
     ·cases h; rfl
     ·rename_i hv
      rw [hv] at this
      split at h
      ·cases h; exact this
      ·cases h
     ·cases h
    ·cases h
  ·cases h
 ·split at h
  ·split at h
   ·cases h; rfl
   ·cases h
  ·exact indexA_men (hρ _) h
 ·rename_i t i
  have := hρ t
  split at h
  ·rename_i hv
   rw [hv] at this
   split at h
   ·rename_i hi; cases h; exact menL_at this hi
   ·cases h
  ·cases h
 ·split at h
  ·rename_i hv
   cases h
   unfold convV at hv
   split at hv
   ·split at hv <;> cases hv; rfl
   ·cases hv
  ·cases h
 ·have mm : ∀ {b : Bool} {l : List V} {v : V}, minmax b l = some v → v.men p = false := by
   intro b l v h
   unfold minmax at h
   split at h
   ·split at h <;> cases h; rfl
   ·cases h
  split at h
  ·split at h
   ·rename_i hv; cases h; exact mm hv
   ·cases h
  ·split at h
   ·rename_i hv; cases h; exact mm hv
   ·cases h
  ·cases h
theorem loadV_men {p : Nat → Bool} {t : TypeId} {cells : List V} {off : Nat} {v : V} (h : V.menL p cells = false) (hl : loadV P t cells off = some v) : v.men p = false := by
 unfold loadV at hl
 split at hl
 ·exact partV_men h hl
 ·exact menL_at h hl
 ·cases hl
theorem opR_men {p : Nat → Bool} {op : Op} {ρ : Operand → V} {e : Env} {s : Store} {c : Prop} {v : V} (hf : Fresh p e s) (hρ : ∀ x, (ρ x).men p = false) (h : opR P op ρ s = some (c, v)) : v.men p = false := by
 unfold opR at h
 split at h <;> try (cases h; done)
 ·split at h
  ·split at h
   ·rename_i hb
    split at h
    ·rename_i hv; cases h; exact loadV_men (hf.sto _ _ hb).2 hv
    ·cases h
   ·split at h
    ·rename_i hv; cases h; exact loadV_men (menL_map_d p _) hv
    ·cases h
   ·cases h
  ·split at h
   ·rename_i hv; cases h; exact loadV_men (menL_map_d p _) hv
   ·cases h
  ·cases h
 ·split at h
  ·split at h
   ·split at h
    ·split at h
     ·cases h; rfl
     ·cases h
    ·cases h
   ·split at h
    ·cases h; rfl
    ·cases h
  ·cases h
 ·-- lookup
  have lk : ∀ {ok : Bool} {v : V} {b : Bool}, v.men p = false → (lookR ok v b).men p = false := by
   intro ok v b hv
   unfold lookR
   cases ok <;> simp [V.men, V.menL, hv]
  have zm : ∀ {t : TypeId} {z : V}, zeroV P t = some z → z.men p = false := by
   intro t z hz
   unfold zeroV at hz
   split at hz
   ·split at hz
    ·split at hz
     ·cases hz; exact mkAg_men (lits_men p _)
     ·cases hz
    ·split at hz
     ·cases hz; rfl
     ·cases hz
    ·cases hz
   ·cases hz
  unfold lookV at h
  split at h
  ·split at h
   ·rename_i hz
    split at h
    ·split at h
     ·rename_i hg
      split at h
      ·split at h
       ·rename_i hv; cases h; exact lk (menL_at (hf.sto _ _ hg).2 hv)
       ·cases h
      ·cases h; exact lk (zm hz)
      ·cases h
     ·cases h
    ·cases h; exact lk (zm hz)
    ·cases h
   ·cases h
  ·cases h
theorem opR_grow {p : Nat → Bool} {op : Op} {ρ : Operand → V} {s s' : Store} {c : Prop} {v : V} (hρ : ∀ x, (ρ x).men p = false) (hs : ∀ i, p i = false → getB s' i = getB s i) (h : opR P op ρ s = some (c, v)) : opR P op ρ s' = some (c, v) := by
 unfold opR at h ⊢
 split at h <;> try (cases h; done)
 ·rename_i t x
  have hx := hρ x
  split at h
  ·rename_i hv
   rw [hv] at hx
   rw [hs _ (by simpa [V.men] using hx)]
   exact h
  ·rename_i hv
   exact h
  ·cases h
 ·split at h
  ·rename_i x t _ _
   have hx := hρ x
   split at h
   ·rename_i id hv
    rw [hv] at hx
    rw [hs _ (by simpa [V.men] using hx)]
    exact h
   ·exact h
  ·cases h
 ·rename_i t x k ok
  have hx := hρ x
  generalize ρ x = u at hx h ⊢
  unfold lookV at h ⊢
  split at h
  ·split at h
   ·split at h
    ·rw [hs _ (by simpa [V.men] using hx)]; exact h
    ·exact h
    ·exact h
   ·cases h
  ·cases h
end Go.Fw
end
section
namespace Go.Fw
variable {P : Program}
section
variable {w0 : World} {L0 : Par} {X : Nat → Prop} {m : Nat → Option Nat} {e : Env} {s : Store} {a : Act} {w : World}
theorem Rel.disj (h : Rel w0 L0 X m e s a w) {b : Nat} (hb : X b) : b < w.heap.size ∧ ¬ Own m s b := by
 refine ⟨Nat.lt_of_lt_of_le (h.old b hb).1 h.ext.size, fun ho => ?_⟩
 rcases h.liv b ho with q | q
 ·exact (h.old b hb).2 q
 ·have := (h.old b hb).1; omega
end
def frz (s : Store) (id sz off len : Nat) : V := match getB s id with
 | some (.data n rows) => if n = sz ∧ off + len ≤ rows.length then .d (.sl false ((rows.drop off).take len)) else .top
 | _ => .top
def frzP (s : Store) (id row col : Nat) : V := match getB s id with
 | some (.vals cells) => match toDs cells with
   | some ds => if row = 0 then .d (.ip ds col) else .top
   | none => .top
 | _ => .top
mutual
def V.fin (keep : List Nat) (s : Store) : V → V
 | .top => .top
 | .d x => .d x
 | .rs id sz off len => match keep.idxOf? id with | some j => .rs j sz off len | none => frz s id sz off len
 | .pt id sz row col => match keep.idxOf? id with | some j => .pt j sz row col | none => frzP s id row col
 | .mp id => match keep.idxOf? id with | some j => .mp j | none => .top
 | .fn f capt => .fn f (V.finL keep s capt)
 | .ag cells => mkAg (V.finL keep s cells)
 | .tup vs => .tup (V.finL keep s vs)
def V.finL (keep : List Nat) (s : Store) : List V → List V
 | [] => []
 | v :: r => v.fin keep s :: V.finL keep s r
end
def Blk.fin (keep : List Nat) (s : Store) : Blk → Blk
 | .vals cells => .vals (V.finL keep s cells)
 | .mp ks vs => .mp ks (V.finL keep s vs)
 | .data sz rows => .data sz rows
def finS (keep : List Nat) (s : Store) : List Nat → Nat → Store
 | [], _ => []
 | id :: r, j => (match getB s id with | some b => [(j, b.fin keep s)] | none => []) ++ finS keep s r (j + 1)
theorem finL_len (keep : List Nat) (s : Store) : ∀ l : List V, (V.finL keep s l).length = l.length := by
 intro l
 induction l with
 | nil => rfl
 | cons v r ih => simp [V.finL, ih]
theorem finL_at (keep : List Nat) (s : Store) : ∀ (l : List V) (j : Nat), (V.finL keep s l)[j]? = (l[j]?).map (V.fin keep s) := by
 intro l
 induction l with
 | nil => intro j; simp [V.finL]
 | cons v r ih => intro j; cases j <;> simp [V.finL, ih]
theorem getB_finS (keep : List Nat) (s : Store) : ∀ (l : List Nat) (j i : Nat), getB (finS keep s l j) i = if j ≤ i then (l[i - j]?).bind fun id => (getB s id).map (Blk.fin keep s) else none := by
 intro l
 induction l with
 | nil => intro j i; simp [finS, getB]
 | cons id r ih =>
   intro j i
   simp only [finS]
   have ga : ∀ (a b : Store), getB (a ++ b) i = (getB a i).or (getB b i) := by
    intro a
    induction a with
    | nil => intro b; simp [getB]
    | cons x a ih =>
      intro b
      obtain ⟨k, c⟩ := x
      simp only [List.cons_append, getB]
      split
      ·rfl
      ·exact ih b
   rw [ga, ih]
   by_cases e : i = j
   ·subst e
    rw [if_neg (show ¬ i + 1 ≤ i by omega), if_pos (Nat.le_refl _), Nat.sub_self]
    cases hg : getB s id with
    | none => simp [getB, hg]
    | some b => simp [getB, hg]
   ·have e1 : getB (match getB s id with | some b => [(j, b.fin keep s)] | none => []) i = none := by
     cases getB s id <;> simp [getB, Ne.symm e]
    rw [e1]
    simp only [Option.none_or]
    by_cases h : j ≤ i
    ·have h' : j + 1 ≤ i := by omega
     rw [if_pos h, if_pos h', show i - j = (i - (j + 1)) + 1 by omega]
     simp
    ·rw [if_neg h, if_neg (by omega)]
def finM (keep : List Nat) (m : Nat → Option Nat) (j : Nat) : Option Nat := (keep[j]?).bind m
section
variable {w0 : World} {L0 : Par} {X : Nat → Prop} {m : Nat → Option Nat} {e : Env} {s : Store} {a : Act} {w : World}
theorem idx_get {keep : List Nat} {id j : Nat} (h : keep.idxOf? id = some j) : keep[j]? = some id := by
 have := List.findIdx?_eq_some_iff_getElem.1 h
 obtain ⟨h1, h2, _⟩ := this
 rw [List.getElem?_eq_getElem h1]
 simpa using h2
theorem own_fin {keep : List Nat} {b : Nat} (h : Own (finM keep m) (finS keep s keep 0) b) : ∃ id blk, id ∈ keep ∧ getB s id = some blk ∧ m id = some b := by
 obtain ⟨j, blk, h1, h2⟩ := h
 rw [getB_finS] at h1
 simp only [Nat.zero_le, if_true, Nat.sub_zero] at h1
 obtain ⟨id, g1, g2⟩ := Option.bind_eq_some_iff.1 h1
 obtain ⟨b0, g3, g4⟩ := Option.map_eq_some_iff.1 g2
 simp only [finM, g1, Option.bind_some] at h2
 exact ⟨id, b0, List.mem_of_getElem? g1, g3, h2⟩
theorem live_fin {keep : List Nat} {b : Nat} (h : Live X (finM keep m) (finS keep s keep 0) b) : Live X m s b := h.imp_right fun h => by
 obtain ⟨id, blk, _, h2, h3⟩ := own_fin h
 exact ⟨id, blk, h2, h3⟩
theorem not_live (h : Rel w0 L0 X m e s a w) {keep : List Nat} {id b : Nat} {blk : Blk} (hid : getB s id = some blk) (hm : m id = some b) (hk : id ∉ keep) : ¬ Live X (finM keep m) (finS keep s keep 0) b := by
 rintro (hl | hl)
 ·exact (h.disj hl).2 ⟨id, blk, hid, hm⟩
 ·obtain ⟨i, c, h1, h2, h3⟩ := own_fin hl
  have := h.sto.inj i id b h3 hm (by rw [h2]; rfl) (by rw [hid]; rfl)
  subst this
  exact hk h1
theorem fin_rel (h : Rel w0 L0 X m e s a w) {keep : List Nat} {x : V} {v : Value} (hx : VRel w (Live X m s) m x v) : VRel w (Live X (finM keep m) (finS keep s keep 0)) (finM keep m) (x.fin keep s) v := by
 have hD : ∀ {x : D} {v : Value}, DRel w (Live X m s) x v → DRel w (Live X (finM keep m) (finS keep s keep 0)) x v := fun hx => hx.mono (fun _ _ _ q => q) (fun b hl => .inl (live_fin hl))
 have hkeep : ∀ {id j b : Nat}, keep.idxOf? id = some j → m id = some b → finM keep m j = some b := fun h1 h2 => by simp [finM, idx_get h1, h2]
 induction hx with
 | top v => exact .top v
 | d hx => exact .d (hD hx)
 | rsE id sz =>
   simp only [V.fin]
   split
   ·exact .rsE _ sz
   ·unfold frz
    split
    ·split
     ·exact .d (by simpa using DRel.slE false none 0 (by simp))
     ·exact .top _
    ·exact .top _
 | rs id sz off len cap b cs ty fr hm hc hxl hh hs =>
   simp only [V.fin]
   split
   ·rename_i j hj; exact .rs j sz off len cap b cs ty fr (hkeep hj hm) hc hxl hh hs
   ·rename_i hj
    have hnk : id ∉ keep := by
     intro hmem
     have := List.idxOf?_eq_none_iff.1 hj
     exact this hmem
    unfold frz
    split
    ·rename_i n rows hg
     split
     ·rename_i hcond
      obtain ⟨rfl, hle⟩ := hcond
      rcases h.sto.blk id _ hg with ⟨b', hm', cs', ty', fr', hh', hfr', hsz', hlen', hall⟩ | ⟨hn, _⟩
      ·rw [hm] at hm'; cases hm'
       rw [hh] at hh'; cases hh'
       have hl : ((rows.drop off).take len).length = len := by simp; omega
       have hrow : ∀ (i : Nat) (r : List D), ((rows.drop off).take len)[i]? = some r → rows[off + i]? = some r := by
        intro i r h1
        rw [List.getElem?_take] at h1
        split at h1
        ·rwa [List.getElem?_drop] at h1
        ·cases h1
       have q := VRel.d (m := finM keep m) (DRel.sl (w := w) (L := Live X (finM keep m) (finS keep s keep 0)) false ((rows.drop off).take len) b (off * n) cap n (fun i j => (cs[(off + i) * n + j]?).getD undef) (fun _ _ _ _ _ _ => not_live h hg hm hnk) (by rw [hl]; exact hc)
        (by rw [hl]; exact hxl) (fun r hr => hlen' r (List.mem_of_mem_drop (List.mem_of_mem_take hr)))
        (fun i j r x h1 h2 => by
          obtain ⟨v, b1, b2, b3⟩ := hall (off + i) j r x (hrow i r h1) h2
          rw [cell_of hh, show off * n + i * n + j = (off + i) * n + j by rw [Nat.add_mul], b1]; rfl)
        (fun i j r x h1 h2 => by obtain ⟨v, b1, b2, b3⟩ := hall (off + i) j r x (hrow i r h1) h2; rw [b1]; exact b2)
        (fun i j r x h1 h2 => by obtain ⟨v, b1, b2, b3⟩ := hall (off + i) j r x (hrow i r h1) h2; rw [b1]; exact hD b3))
       rw [hl] at q
       exact q
      ·rw [hm] at hn; cases hn
     ·exact .top _
    ·exact .top _
 | pt id sz row col b hm =>
   simp only [V.fin]
   split
   ·rename_i j hj; exact .pt j sz row col b (hkeep hj hm)
   ·rename_i hj
    have hnk : id ∉ keep := fun hmem => List.idxOf?_eq_none_iff.1 hj hmem
    unfold frzP
    split
    ·rename_i cells hg
     split
     ·rename_i ds hds
      split
      ·rename_i h0
       subst h0
       rcases h.sto.blk id _ hg with ⟨b', hm', vs, ex, ty, fr, hh, hfr, hone, hall⟩ | ⟨hn, _, hn'⟩
       ·rw [hm] at hm'; cases hm'
        have hd := toDs_rel hds hall
        have q := VRel.d (m := finM keep m) (DRel.ip (w := w) (L := Live X (finM keep m) (finS keep s keep 0)) ds b 0 col (fun j => (vs[j]?).getD undef) (fun _ _ _ => not_live h hg hm hnk)
         (fun j x hj => by obtain ⟨v, b1, b2⟩ := hd.get hj; rw [cell_of hh, Nat.zero_add, List.getElem?_toArray, List.getElem?_append_left (List.getElem?_eq_some_iff.1 b1).1]; simp [b1])
         (fun j x hj => by obtain ⟨v, b1, b2⟩ := hd.get hj; rw [b1]; exact hone v (List.mem_of_getElem? b1))
         (fun j x hj => by obtain ⟨v, b1, b2⟩ := hd.get hj; rw [b1]; exact hD b2))
        simpa using q
       ·cases hn'
      ·exact .top _
     ·exact .top _
    ·exact .top _
 | mp id b hm =>
   simp only [V.fin]
   split
   ·rename_i j hj; exact .mp j b (hkeep hj hm)
   ·exact .top _
 | fn f capt vs hl hr ih =>
   refine .fn f _ vs (hl.trans (finL_len _ _ _).symm) fun j x v h1 h2 => ?_
   rw [finL_at] at h1
   obtain ⟨y, hy, rfl⟩ := Option.map_eq_some_iff.1 h1
   exact ih j y v hy h2
 | ag cells vs hl ho hr ih =>
   refine mkAg_rel ho ⟨hl.trans (finL_len _ _ _).symm, fun j x v h1 h2 => ?_⟩
   rw [finL_at] at h1
   obtain ⟨y, hy, rfl⟩ := Option.map_eq_some_iff.1 h1
   exact ih j y v hy h2
 | tup cells vs hl hr ih =>
   refine .tup _ vs (hl.trans (finL_len _ _ _).symm) fun j x v h1 h2 => ?_
   rw [finL_at] at h1
   obtain ⟨y, hy, rfl⟩ := Option.map_eq_some_iff.1 h1
   exact ih j y v hy h2
end
theorem frz_grow {p : Nat → Bool} {s s' : Store} (hs : ∀ i, p i = false → getB s' i = getB s i) (x : V) (h : x.men p = false) : x.fin [] s' = x.fin [] s := by
 induction x using V.rec (motive_2 := fun l => V.menL p l = false → V.finL [] s' l = V.finL [] s l) with
 | rs id sz off len => simp only [V.men] at h; simp only [V.fin, List.idxOf?_nil, frz, hs id h]
 | pt id sz row col => simp only [V.men] at h; simp only [V.fin, List.idxOf?_nil, frzP, hs id h]
 | fn f capt ih => simp only [V.men] at h; simp only [V.fin, ih h]
 | ag cells ih => simp only [V.men] at h; simp only [V.fin, ih h]
 | tup vs ih => simp only [V.men] at h; simp only [V.fin, ih h]
 | nil => rfl
 | cons v r ih1 ih2 =>
   rename_i h
   simp only [V.menL, Bool.or_eq_false_iff] at h
   simp only [V.finL, ih1 h.1, ih2 h.2]
 | _ => rfl
theorem frzL_grow {p : Nat → Bool} {s s' : Store} (hs : ∀ i, p i = false → getB s' i = getB s i) (l : List V) (h : V.menL p l = false) : V.finL [] s' l = V.finL [] s l := by
 induction l with
 | nil => rfl
 | cons v r ih =>
   simp only [V.menL, Bool.or_eq_false_iff] at h
   simp only [V.finL, frz_grow hs v h.1, ih h.2]
end Go.Fw
end
section
namespace Go.Fw
variable {P : Program}
def goFn (P : Program) (f : FuncId) : Bool := match P.funcs[f]? with
 | some fn => fn.name != "runtime.NumGoroutine" && fn.body.isSome
 | none => false
def Snd (P : Program) (f : FuncId) (args : List V) (r : V) (τ : Store) : Prop := goFn P f = true ∧
 ∀ (w : World) (X : Nat → Prop) (vs : List Value), (∀ b, X b → b < w.heap.size) → All2 (VRel w X (fun _ => none)) args vs →
  Calls P f vs.toArray w fun x w' => ∃ v m', x = .returned v ∧ Ext (fun _ => False) w w' ∧ VRel w' (Live X m' τ) m' r v ∧ SRel w' X m' τ ∧ ∀ b, Own m' τ b → w.heap.size ≤ b
mutual
def V.shift (k : Nat) : V → V
 | .top => .top
 | .d x => .d x
 | .rs id sz off len => .rs (k + id) sz off len
 | .pt id sz row col => .pt (k + id) sz row col
 | .mp id => .mp (k + id)
 | .fn f capt => .fn f (V.shiftL k capt)
 | .ag cells => .ag (V.shiftL k cells)
 | .tup vs => .tup (V.shiftL k vs)
def V.shiftL (k : Nat) : List V → List V
 | [] => []
 | v :: r => v.shift k :: V.shiftL k r
end
def Blk.shift (k : Nat) : Blk → Blk
 | .vals cells => .vals (V.shiftL k cells)
 | .mp ks vs => .mp ks (V.shiftL k vs)
 | .data sz rows => .data sz rows
def addS (s : Store) (k : Nat) : Store → Store
 | [] => s
 | (i, b) :: r => putB (addS s k r) (k + i) (b.shift k)
def big (i : Nat) : Bool := decide (100 ≤ i)
def okB : Blk → Bool
 | .vals cells => !V.menL big cells
 | .mp _ vs => !V.menL big vs
 | .data _ _ => true
def okT : Store → Bool
 | [] => true
 | (i, b) :: r => !big i && okB b && okT r
def okIds (r : V) (τ : Store) : Bool := !r.men big && okT τ
theorem shiftL_len (k : Nat) : ∀ l : List V, (V.shiftL k l).length = l.length := by
 intro l
 induction l with
 | nil => rfl
 | cons v r ih => simp [V.shiftL, ih]
theorem shiftL_at (k : Nat) : ∀ (l : List V) (j : Nat), (V.shiftL k l)[j]? = (l[j]?).map (V.shift k) := by
 intro l
 induction l with
 | nil => intro j; simp [V.shiftL]
 | cons v r ih => intro j; cases j <;> simp [V.shiftL, ih]
def joinM (m m' : Nat → Option Nat) (q : Nat) : Nat → Option Nat := fun i => if i / 100 = q then m' (i % 100) else m i
theorem sh_div {q j : Nat} (h : j < 100) : (100 * q + j) / 100 = q ∧ (100 * q + j) % 100 = j := by omega
theorem VRel.shift {w : World} {L L' : Nat → Prop} {m m' : Nat → Option Nat} (q : Nat) (hL : ∀ b, L' b → L b) {x : V} {v : Value} (hx : x.men big = false) (h : VRel w L m' x v) : VRel w L' (joinM m m' q) (x.shift (100 * q)) v := by
 have hid : ∀ id, big id = false → joinM m m' q (100 * q + id) = m' id := fun id hb => by
  have : id < 100 := by simpa [big] using hb
  obtain ⟨e1, e2⟩ := sh_div (q := q) this
  simp [joinM, e1, e2]
 have hD : ∀ {x : D} {v : Value}, DRel w L x v → DRel w L' x v := fun h => h.mono (fun _ _ _ q => q) (fun b hl => .inl (hL b hl))
 induction h with
 | top v => exact .top v
 | d h => exact .d (hD h)
 | rsE id sz => exact .rsE _ sz
 | rs id sz off len cap b cs ty fr hm hc hxl hh hs => exact .rs _ sz off len cap b cs ty fr ((hid id (by simpa [V.men] using hx)).trans hm) hc hxl hh hs
 | pt id sz row col b hm => exact .pt _ sz row col b ((hid id (by simpa [V.men] using hx)).trans hm)
 | mp id b hm => exact .mp _ b ((hid id (by simpa [V.men] using hx)).trans hm)
 | fn f capt vs hl hr ih =>
   refine .fn f _ vs (hl.trans (shiftL_len _ _).symm) fun j x v h1 h2 => ?_
   rw [shiftL_at] at h1
   obtain ⟨y, hy, rfl⟩ := Option.map_eq_some_iff.1 h1
   exact ih j y v hy h2 (menL_at (by simpa [V.men] using hx) hy)
 | ag cells vs hl ho hr ih =>
   refine .ag _ vs (hl.trans (shiftL_len _ _).symm) ho fun j x v h1 h2 => ?_
   rw [shiftL_at] at h1
   obtain ⟨y, hy, rfl⟩ := Option.map_eq_some_iff.1 h1
   exact ih j y v hy h2 (menL_at (by simpa [V.men] using hx) hy)
 | tup cells vs hl hr ih =>
   refine .tup _ vs (hl.trans (shiftL_len _ _).symm) fun j x v h1 h2 => ?_
   rw [shiftL_at] at h1
   obtain ⟨y, hy, rfl⟩ := Option.map_eq_some_iff.1 h1
   exact ih j y v hy h2 (menL_at (by simpa [V.men] using hx) hy)
theorem shift_men {p : Nat → Bool} {k : Nat} (hp : ∀ id, big id = false → p (k + id) = false) (x : V) (h : x.men big = false) : (x.shift k).men p = false := by
 induction x using V.rec (motive_2 := fun l => V.menL big l = false → V.menL p (V.shiftL k l) = false) <;> simp_all [V.shift, V.shiftL, V.men, V.menL]
theorem okT_at {τ : Store} (h : okT τ = true) {i : Nat} {b : Blk} (hi : getB τ i = some b) : i < 100 ∧ okB b = true := by
 induction τ with
 | nil => cases hi
 | cons x r ih =>
   obtain ⟨j, c⟩ := x
   simp only [okT, Bool.and_eq_true] at h
   simp only [getB] at hi
   split at hi
   ·rename_i e; subst e; cases hi
    exact ⟨by have := h.1.1; simp [big] at this; omega, h.1.2⟩
   ·exact ih h.2 hi
theorem getB_addS (s : Store) (q : Nat) {τ : Store} (h : okT τ = true) (i : Nat) : getB (addS s (100 * q) τ) i = if i / 100 = q ∧ (getB τ (i % 100)).isSome = true then (getB τ (i % 100)).map (Blk.shift (100 * q)) else getB s i := by
 induction τ with
 | nil => simp [addS, getB]
 | cons x r ih =>
   obtain ⟨j, c⟩ := x
   simp only [okT, Bool.and_eq_true] at h
   have hj : j < 100 := by have := h.1.1; simp [big] at this; omega
   simp only [addS, getB_putB, ih h.2, getB]
   by_cases e : i = 100 * q + j
   ·subst e
    obtain ⟨e1, e2⟩ := sh_div (q := q) hj
    simp [e1, e2]
   ·rw [if_neg e]
    by_cases e1 : i / 100 = q
    ·have : j ≠ i % 100 := by omega
     simp [e1, this]
    ·simp [e1]
def callOf (op : Op) (ρ : Operand → V) : Option (FuncId × List V) := match op with
 | .call c => match c.callee with
   | .value f => match ρ f with
     | .fn g capt => some (g, c.args.toList.map ρ ++ capt)
     | _ => none
   | _ => none
 | _ => none
theorem callOf_congr {op : Op} {ρ ρ' : Operand → V} (h : ∀ x ∈ op.operands, ρ x = ρ' x) : callOf op ρ = callOf op ρ' := by
 cases op <;> simp only [callOf] <;> simp only [Op.operands] at h
 case call c =>
  split
  ·rename_i f hf
   rw [h f (by simp [Call.operands, hf]), map_congr_ops (l := c.args.toList) (f := ρ) (g := ρ') fun x hx => h x (by simp [Call.operands]; exact .inr (by simpa using hx))]
  ·rfl
def Loc (P : Program) (o : Oper) (ρ : Operand → V) (s : Store) (v : V) (s' : Store) : Prop := match cls o.op with
 | .p => ∃ c, opP P o.op ρ = some (c, v) ∧ c ∧ s' = s
 | .r => ∃ c, opR P o.op ρ s = some (c, v) ∧ c ∧ s' = s
 | .a => ∃ c blk, o.dst.isSome = true ∧ opA P o.op ρ (newId o.dst) = some (c, v, blk) ∧ c ∧ s' = putB s (newId o.dst) blk
 | .c => ∃ g args1 args r τ, o.dst.isSome = true ∧ callOf o.op ρ = some (g, args1) ∧ (args = args1 ∨ (args = V.finL [] s args1 ∧ ∃ x, r = .d (.lit x) ∧ τ = [])) ∧ V.menL (fun _ => true) args = false ∧ Snd P g args r τ ∧ okIds r τ = true ∧ v = r.shift (newId o.dst) ∧ s' = addS s (newId o.dst) τ
 | _ => False
def Do (P : Program) (o : Oper) (E E' : St) : Prop := match cls o.op with
 | .w => ∃ c s', opW P o.op (look E.e) E.s = some (c, s') ∧ c ∧ E' = ⟨put E.e o.dst vundef, s'⟩
 | .x => ∃ cl, o.op = .call cl ∧ cl.callee = .builtin .append ∧ ∃ k c sz n blk, ((∃ all, opAppend P cl (look E.e) E.s = some (k, c, sz, all) ∧ n = all.length ∧ blk = .data sz all) ∨ ∃ all, opAppendV P cl (look E.e) E.s = some (k, c, sz, n, all) ∧ blk = .vals (V.fgtL (hitO k (newId o.dst)) all)) ∧ c ∧
    E' = ⟨put (V.fgtL (hitO k (newId o.dst)) E.e) o.dst (.rs (newId o.dst) sz 0 n), putB (fgtS (hitO k (newId o.dst)) E.s) (newId o.dst) blk⟩
 | _ => ∃ v s', Loc P o (look E.e) E.s v s' ∧ E' = ⟨put E.e o.dst v, s'⟩
def makes (o : Oper) : Bool := match cls o.op with | .a | .c => true | _ => false
def mine (o : Oper) (i : Nat) : Bool := decide (i / 100 = newId o.dst / 100)
section
variable {w0 : World} {L0 : Par} {X : Nat → Prop} {m : Nat → Option Nat} {e : Env} {s : Store} {a : Act} {w : World}
theorem newId_some {dst : Option Nat} (h : dst.isSome = true) : ∃ q, q ≠ 0 ∧ newId dst = 100 * q := by
 obtain ⟨k, rfl⟩ := Option.isSome_iff_exists.1 h
 exact ⟨k + 1, by omega, rfl⟩
theorem newId_ge (dst : Option Nat) : 90 ≤ newId dst := by
 cases dst <;> simp only [newId] <;> omega
theorem Fresh.sub {p p' : Nat → Bool} (h : Fresh p e s) (hp : ∀ i, p i = false → p' i = false) : Fresh p' e s := by
 have mm : ∀ x : V, x.men p = false → x.men p' = false := fun x => by
  induction x using V.rec (motive_2 := fun l => V.menL p l = false → V.menL p' l = false) <;> simp_all [V.men, V.menL]
 have ml : ∀ l : List V, V.menL p l = false → V.menL p' l = false := fun l h => menL_of fun j x hj => mm x (menL_at h hj)
 refine ⟨ml _ h.env, fun i blk hi => ⟨hp _ (h.sto i blk hi).1, ?_⟩⟩
 have := (h.sto i blk hi).2
 cases blk with
 | vals cells => exact ml _ this
 | mp ks vs => exact ml _ this
 | data sz rows => trivial
theorem Rel.called (h : Rel w0 L0 X m e s a w) {q : Nat} (hq0 : q ≠ 0) (hf : Fresh (fun i => decide (i / 100 = q)) e s) {w' : World} {m' : Nat → Option Nat} {r : V} {v : Value} {τ : Store} (hx : Ext (fun _ => False) w w') (hr : VRel w' (Live (Live X m s) m' τ) m' r v) (hs : SRel w' (Live X m s) m' τ)
  (hn : ∀ b, Own m' τ b → w.heap.size ≤ b) (hk : okIds r τ = true) (dst : Option Nat) : Rel w0 L0 X (joinM m m' q) (Fw.put e dst (r.shift (100 * q))) (addS s (100 * q) τ) (a.put dst v) w' := by
 simp only [okIds, Bool.and_eq_true, Bool.not_eq_true'] at hk
 obtain ⟨hk1, hk2⟩ := hk
 have hm : ∀ i, (fun i => decide (i / 100 = q)) i = false → joinM m m' q i = m i := fun i hi => by
  have : i / 100 ≠ q := by simpa using hi
  simp [joinM, this]
 have hnone : ∀ i, i / 100 = q → getB s i = none := fun i hi => by
  cases hg : getB s i with
  | none => rfl
  | some blk => have := (hf.sto i blk hg).1; simp [hi] at this
 have hget : ∀ i blk, getB (addS s (100 * q) τ) i = some blk → (i / 100 = q ∧ ∃ b0, getB τ (i % 100) = some b0 ∧ blk = b0.shift (100 * q)) ∨ (i / 100 ≠ q ∧ getB s i = some blk) := by
  intro i blk hg
  rw [getB_addS _ _ hk2] at hg
  split at hg
  ·rename_i hc
   obtain ⟨b0, h1, h2⟩ := Option.map_eq_some_iff.1 hg
   exact .inl ⟨hc.1, b0, h1, h2.symm⟩
  ·by_cases hi : i / 100 = q
   ·rw [hnone i hi] at hg; cases hg
   ·exact .inr ⟨hi, hg⟩
 have hown : ∀ b, Own (joinM m m' q) (addS s (100 * q) τ) b → Own m s b ∨ Own m' τ b := by
  rintro b ⟨i, blk, h1, h2⟩
  rcases hget i blk h1 with ⟨e1, b0, e2, _⟩ | ⟨e1, e2⟩
  ·simp only [joinM, if_pos e1] at h2; exact .inr ⟨_, b0, e2, h2⟩
  ·simp only [joinM, if_neg e1] at h2; exact .inl ⟨i, blk, e2, h2⟩
 have hL1 : ∀ b, Live X (joinM m m' q) (addS s (100 * q) τ) b → Live (Live X m s) m' τ b := by
  rintro b (hl | hl)
  ·exact .inl (.inl hl)
  ·exact (hown b hl).imp .inr id
 have hL2 : ∀ b, Live X (joinM m m' q) (addS s (100 * q) τ) b → Live X m s b ∨ w.heap.size ≤ b := by
  intro b hl
  rcases hL1 b hl with hl | hl
  ·exact .inl hl
  ·exact .inr (hn b hl)
 have hck : CellsKept (Live X m s) w w' := fun a v _ hc => by
  have hlt := World.block_lt_of_cell? w a hc
  have := hx.block a.block hlt (fun f => f)
  simpa [World.cell?, this] using hc
 have hsz : SizesKept w w' := hx.sizes
 have h1 : Rel w0 L0 X (joinM m m' q) e (addS s (100 * q) τ) a w' := by
  refine ⟨⟨h.env.len, fun j x v q1 q2 => VRel.mono hck hsz hL2 hm (menL_at hf.env q1) (h.env.at_ j x v q1 q2)⟩, ⟨fun i blk hi => ?_, fun i j b q1 q2 q3 q4 => ?_⟩, h.dfr, ?_, fun b hl => ?_, h.old, fun i hi hs => ?_⟩
  ·rcases hget i blk hi with ⟨e1, b0, e2, rfl⟩ | ⟨e1, e2⟩
   ·have hok := (okT_at hk2 e2).2
    have ej : joinM m m' q i = m' (i % 100) := by simp [joinM, e1]
    rcases hs.blk _ _ e2 with ⟨b, r1, r2⟩ | ⟨r1, sz, rfl⟩
    ·refine .inl ⟨b, ej.trans r1, ?_⟩
     cases b0 with
     | vals cells =>
       obtain ⟨vs, ex, ty, fr, t1, t2, t3, t4⟩ := r2
       refine ⟨vs, ex, ty, fr, t1, t2, t3, t4.len.trans (shiftL_len _ _).symm, fun j x v s1 s2 => ?_⟩
       rw [shiftL_at] at s1
       obtain ⟨y, hy, rfl⟩ := Option.map_eq_some_iff.1 s1
       exact VRel.shift q hL1 (menL_at (by simpa [okB] using hok) hy) (t4.at_ j y v hy s2)
     | mp ks vs =>
       obtain ⟨es, cl, t1, t2, t4⟩ := r2
       refine ⟨es, cl, t1, t2, t4.len.trans (shiftL_len _ _).symm, fun j x v s1 s2 => ?_⟩
       rw [shiftL_at] at s1
       obtain ⟨y, hy, rfl⟩ := Option.map_eq_some_iff.1 s1
       exact VRel.shift q hL1 (menL_at (by simpa [okB] using hok) hy) (t4.at_ j y v hy s2)
     | data sz rows =>
       obtain ⟨cs, ty, fr, t1, t2, t3, t4, t5⟩ := r2
       exact ⟨cs, ty, fr, t1, t2, t3, t4, fun i j r x s1 s2 => by
        obtain ⟨v, u1, u2, u3⟩ := t5 i j r x s1 s2
        exact ⟨v, u1, u2, u3.mono (fun _ _ _ q => q) (fun b hl => .inl (hL1 b hl))⟩⟩
    ·exact .inr ⟨ej.trans r1, sz, rfl⟩
   ·have ej : joinM m m' q i = m i := by simp [joinM, e1]
    rcases h.sto.blk i blk e2 with ⟨b, r1, r2⟩ | ⟨r1, r2⟩
    ·exact .inl ⟨b, ej.trans r1, BRel.mono hck hsz hL2 hm (hx.block b r2.lt (fun f => f)) (hf.sto i blk e2).2 r2⟩
    ·exact .inr ⟨ej.trans r1, r2⟩
  ·obtain ⟨c1, hc1⟩ := Option.isSome_iff_exists.1 q3
   obtain ⟨c2, hc2⟩ := Option.isSome_iff_exists.1 q4
   rcases hget i c1 hc1 with ⟨e1, b0, e2, _⟩ | ⟨e1, e2⟩ <;> rcases hget j c2 hc2 with ⟨f1, b1, f2, _⟩ | ⟨f1, f2⟩
   ·simp only [joinM, if_pos e1] at q1
    simp only [joinM, if_pos f1] at q2
    have := hs.inj _ _ b q1 q2 (by rw [e2]; rfl) (by rw [f2]; rfl)
    omega
   ·simp only [joinM, if_pos e1] at q1
    simp only [joinM, if_neg f1] at q2
    have := hn b ⟨_, b0, e2, q1⟩
    have := h.m_lt f2 q2
    omega
   ·simp only [joinM, if_neg e1] at q1
    simp only [joinM, if_pos f1] at q2
    have := hn b ⟨_, b1, f2, q2⟩
    have := h.m_lt e2 q1
    omega
   ·simp only [joinM, if_neg e1] at q1
    simp only [joinM, if_neg f1] at q2
    exact h.sto.inj i j b q1 q2 (by rw [e2]; rfl) (by rw [f2]; rfl)
  ·exact ⟨hx.os.trans h.ext.os, hx.tape.trans h.ext.tape, hx.output.trans h.ext.output, Nat.le_trans h.ext.size hx.size, fun b hb hl => by
    rw [hx.block b (Nat.lt_of_lt_of_le hb h.ext.size) (fun f => f)]; exact h.ext.block b hb hl, fun b cs ty fr hb => by
    obtain ⟨c1, h1, h2⟩ := h.ext.sizes b cs ty fr hb
    obtain ⟨c2, h3, h4⟩ := hsz b c1 ty fr h1
    exact ⟨c2, h3, h4.trans h2⟩⟩
  ·rcases hown b hl with hl | hl
   ·exact h.liv b hl
   ·exact .inr (Nat.le_trans h.ext.size (hn b hl))
  ·have e1 : i / 100 ≠ q := by omega
   obtain ⟨c, hc⟩ := Option.isSome_iff_exists.1 hs
   rcases hget i c hc with ⟨e2, _⟩ | ⟨_, e2⟩
   ·exact absurd e2 e1
   ·simp only [joinM, if_neg e1]
    exact h.par i hi (by rw [e2]; rfl)
 exact h1.put dst (VRel.shift q hL1 hk1 hr)
theorem Rel.live_lt (h : Rel w0 L0 X m e s a w) {b : Nat} (hb : Live X m s b) : b < w.heap.size := by
 rcases hb with hb | ⟨i, blk, h1, h2⟩
 ·exact Nat.lt_of_lt_of_le (h.old b hb).1 h.ext.size
 ·exact h.m_lt h1 h2
theorem pure_rel {L : Nat → Prop} {args : List V} {vs : List Value} (hm : V.menL (fun _ => true) args = false) (h : All2 (VRel w L m) args vs) : All2 (VRel w L (fun _ => none)) args vs :=
 ⟨h.len, fun j x v h1 h2 => VRel.mono (p := fun _ => true) (fun _ _ _ q => q) (fun _ cs _ _ q => ⟨cs, q, rfl⟩) (fun b hl => .inl hl) (fun i hi => by cases hi) (menL_at hm h1) (h.at_ j x v h1 h2)⟩
end
end Go.Fw
end
