/- Types as the walks ask of them; a query's, a plan's and counts' data. -/
import Derived.Test.YtihbejpkfifplaaFw
import Derived.Test.YtihbejpkfifplaaProg
set_option linter.unusedVariables false
set_option linter.unusedSimpArgs false
namespace Go.Proofs.Ytihbejpkfifplaa.Z
open Go Go.Fw
noncomputable abbrev P := Try.prog
theorem mixed : P.follows .mixedOrders = true := by kernel_rfl
@[simp] theorem ty_ag100 : aggOf P 100 = some false := by kernel_rfl
@[simp] theorem ty_ag101 : aggOf P 101 = some false := by kernel_rfl
@[simp] theorem ty_ag103 : aggOf P 103 = some false := by kernel_rfl
@[simp] theorem ty_ag105 : aggOf P 105 = some true := by kernel_rfl
@[simp] theorem ty_ag127 : aggOf P 127 = some false := by kernel_rfl
@[simp] theorem ty_ag2 : aggOf P 2 = some false := by kernel_rfl
@[simp] theorem ty_ag22 : aggOf P 22 = some false := by kernel_rfl
@[simp] theorem ty_ag23 : aggOf P 23 = some false := by kernel_rfl
@[simp] theorem ty_ag24 : aggOf P 24 = some false := by kernel_rfl
@[simp] theorem ty_ag25 : aggOf P 25 = some false := by kernel_rfl
@[simp] theorem ty_ag27 : aggOf P 27 = some true := by kernel_rfl
@[simp] theorem ty_ag28 : aggOf P 28 = some false := by kernel_rfl
@[simp] theorem ty_ag29 : aggOf P 29 = some false := by kernel_rfl
@[simp] theorem ty_ag3 : aggOf P 3 = some false := by kernel_rfl
@[simp] theorem ty_ag33 : aggOf P 33 = some true := by kernel_rfl
@[simp] theorem ty_ag36 : aggOf P 36 = some false := by kernel_rfl
@[simp] theorem ty_ag37 : aggOf P 37 = some false := by kernel_rfl
@[simp] theorem ty_ag39 : aggOf P 39 = some true := by kernel_rfl
@[simp] theorem ty_ag4 : aggOf P 4 = some false := by kernel_rfl
@[simp] theorem ty_ag43 : aggOf P 43 = some false := by kernel_rfl
@[simp] theorem ty_ag45 : aggOf P 45 = some true := by kernel_rfl
@[simp] theorem ty_ag46 : aggOf P 46 = some false := by kernel_rfl
@[simp] theorem ty_ag48 : aggOf P 48 = some true := by kernel_rfl
@[simp] theorem ty_ag51 : aggOf P 51 = some false := by kernel_rfl
@[simp] theorem ty_ag53 : aggOf P 53 = some true := by kernel_rfl
@[simp] theorem ty_ag58 : aggOf P 58 = some false := by kernel_rfl
@[simp] theorem ty_ag60 : aggOf P 60 = some false := by kernel_rfl
@[simp] theorem ty_ag65 : aggOf P 65 = some false := by kernel_rfl
@[simp] theorem ty_ag66 : aggOf P 66 = some false := by kernel_rfl
@[simp] theorem ty_ag68 : aggOf P 68 = some true := by kernel_rfl
@[simp] theorem ty_ag70 : aggOf P 70 = some true := by kernel_rfl
@[simp] theorem ty_ag82 : aggOf P 82 = some true := by kernel_rfl
@[simp] theorem ty_ag86 : aggOf P 86 = some true := by kernel_rfl
@[simp] theorem ty_ag9 : aggOf P 9 = some false := by kernel_rfl
@[simp] theorem ty_bool4 : boolT P 4 = true := by kernel_rfl
@[simp] theorem ty_by2 : bytesOfT P 2 = 8 := by kernel_rfl
@[simp] theorem ty_by24 : bytesOfT P 24 = 24 := by kernel_rfl
@[simp] theorem ty_by27 : bytesOfT P 27 = 96 := by kernel_rfl
@[simp] theorem ty_by3 : bytesOfT P 3 = 8 := by kernel_rfl
@[simp] theorem ty_by4 : bytesOfT P 4 = 1 := by kernel_rfl
@[simp] theorem ty_by45 : bytesOfT P 45 = 40 := by kernel_rfl
@[simp] theorem ty_by48 : bytesOfT P 48 = 80 := by kernel_rfl
@[simp] theorem ty_by60 : bytesOfT P 60 = 24 := by kernel_rfl
@[simp] theorem ty_by70 : bytesOfT P 70 = 120 := by kernel_rfl
@[simp] theorem ty_by76 : bytesOfT P 76 = 24 := by kernel_rfl
@[simp] theorem ty_el106 : elemOfT P 106 = none := by kernel_rfl
@[simp] theorem ty_el121 : elemOfT P 121 = some 60 := by kernel_rfl
@[simp] theorem ty_el23 : elemOfT P 23 = some 27 := by kernel_rfl
@[simp] theorem ty_el24 : elemOfT P 24 = some 3 := by kernel_rfl
@[simp] theorem ty_el25 : elemOfT P 25 = some 70 := by kernel_rfl
@[simp] theorem ty_el28 : elemOfT P 28 = some 76 := by kernel_rfl
@[simp] theorem ty_el29 : elemOfT P 29 = some 105 := by kernel_rfl
@[simp] theorem ty_el36 : elemOfT P 36 = some 24 := by kernel_rfl
@[simp] theorem ty_el37 : elemOfT P 37 = some 45 := by kernel_rfl
@[simp] theorem ty_el43 : elemOfT P 43 = some 48 := by kernel_rfl
@[simp] theorem ty_el51 : elemOfT P 51 = some 2 := by kernel_rfl
@[simp] theorem ty_el57 : elemOfT P 57 = some 58 := by kernel_rfl
@[simp] theorem ty_el60 : elemOfT P 60 = some 4 := by kernel_rfl
@[simp] theorem ty_fl105_1 : fldOf P 105 1 = some (1, 3) := by kernel_rfl
@[simp] theorem ty_fl105_2 : fldOf P 105 2 = some (2, 3) := by kernel_rfl
@[simp] theorem ty_fl105_3 : fldOf P 105 3 = some (3, 3) := by kernel_rfl
@[simp] theorem ty_fl105_4 : fldOf P 105 4 = some (4, 103) := by kernel_rfl
@[simp] theorem ty_fl105_6 : fldOf P 105 6 = some (6, 3) := by kernel_rfl
@[simp] theorem ty_fl27_0 : fldOf P 27 0 = some (0, 22) := by kernel_rfl
@[simp] theorem ty_fl27_1 : fldOf P 27 1 = some (1, 23) := by kernel_rfl
@[simp] theorem ty_fl27_2 : fldOf P 27 2 = some (2, 3) := by kernel_rfl
@[simp] theorem ty_fl27_3 : fldOf P 27 3 = some (3, 24) := by kernel_rfl
@[simp] theorem ty_fl27_4 : fldOf P 27 4 = some (4, 4) := by kernel_rfl
@[simp] theorem ty_fl27_5 : fldOf P 27 5 = some (5, 25) := by kernel_rfl
@[simp] theorem ty_fl33_0 : fldOf P 33 0 = some (0, 28) := by kernel_rfl
@[simp] theorem ty_fl33_1 : fldOf P 33 1 = some (1, 29) := by kernel_rfl
@[simp] theorem ty_fl33_2 : fldOf P 33 2 = some (2, 25) := by kernel_rfl
@[simp] theorem ty_fl39_0 : fldOf P 39 0 = some (0, 36) := by kernel_rfl
@[simp] theorem ty_fl39_1 : fldOf P 39 1 = some (1, 37) := by kernel_rfl
@[simp] theorem ty_fl45_1 : fldOf P 45 1 = some (1, 43) := by kernel_rfl
@[simp] theorem ty_fl45_2 : fldOf P 45 2 = some (2, 3) := by kernel_rfl
@[simp] theorem ty_fl48_0 : fldOf P 48 0 = some (0, 46) := by kernel_rfl
@[simp] theorem ty_fl48_5 : fldOf P 48 5 = some (5, 3) := by kernel_rfl
@[simp] theorem ty_fl53_0 : fldOf P 53 0 = some (0, 51) := by kernel_rfl
@[simp] theorem ty_fl53_1 : fldOf P 53 1 = some (1, 51) := by kernel_rfl
@[simp] theorem ty_fl68_0 : fldOf P 68 0 = some (0, 66) := by kernel_rfl
@[simp] theorem ty_fl68_1 : fldOf P 68 1 = some (1, 4) := by kernel_rfl
@[simp] theorem ty_fl68_2 : fldOf P 68 2 = some (2, 2) := by kernel_rfl
@[simp] theorem ty_fl68_3 : fldOf P 68 3 = some (3, 9) := by kernel_rfl
@[simp] theorem ty_fl68_4 : fldOf P 68 4 = some (4, 51) := by kernel_rfl
@[simp] theorem ty_fl70_0 : fldOf P 70 0 = some (0, 65) := by kernel_rfl
@[simp] theorem ty_fl70_1 : fldOf P 70 1 = some (1, 25) := by kernel_rfl
@[simp] theorem ty_fl70_2 : fldOf P 70 2 = some (2, 3) := by kernel_rfl
@[simp] theorem ty_fl70_3 : fldOf P 70 3 = some (3, 9) := by kernel_rfl
@[simp] theorem ty_fl70_4 : fldOf P 70 4 = some (4, 68) := by kernel_rfl
@[simp] theorem ty_fl76_1 : fldOf P 76 1 = some (1, 3) := by kernel_rfl
@[simp] theorem ty_fl79_0 : fldOf P 79 0 = some (0, 33) := by kernel_rfl
@[simp] theorem ty_fl79_1 : fldOf P 79 1 = some (7, 39) := by kernel_rfl
@[simp] theorem ty_fl82_0 : fldOf P 82 0 = some (0, 33) := by kernel_rfl
@[simp] theorem ty_fl82_1 : fldOf P 82 1 = some (7, 53) := by kernel_rfl
@[simp] theorem ty_fl86_0 : fldOf P 86 0 = some (0, 33) := by kernel_rfl
@[simp] theorem ty_fl86_1 : fldOf P 86 1 = some (7, 3) := by kernel_rfl
@[simp] theorem ty_int141 : intOf? P 141 = some .u64 := by kernel_rfl
@[simp] theorem ty_int2 : intOf? P 2 = some .i64 := by kernel_rfl
@[simp] theorem ty_int3 : intOf? P 3 = some .i64 := by kernel_rfl
@[simp] theorem ty_int58 : intOf? P 58 = some .u32 := by kernel_rfl
@[simp] theorem ty_key22 : keyD P 22 = some (.int .i64) := by kernel_rfl
@[simp] theorem ty_key3 : keyD P 3 = some (.int .i64) := by kernel_rfl
@[simp] theorem ty_map101 : mapT P 101 = some (3, 4) := by kernel_rfl
@[simp] theorem ty_map119 : mapT P 119 = some (22, 3) := by kernel_rfl
@[simp] theorem ty_pl27 : placesT P 27 = some [(0, 1), (1, 1), (2, 1), (3, 1), (4, 1), (5, 1)] := by kernel_rfl
@[simp] theorem ty_pl33 : placesT P 33 = some [(0, 1), (1, 1), (2, 1), (3, 1), (4, 1), (5, 1), (6, 1)] := by kernel_rfl
@[simp] theorem ty_pl39 : placesT P 39 = some [(0, 1), (1, 1)] := by kernel_rfl
@[simp] theorem ty_pl45 : placesT P 45 = some [(0, 1), (1, 1), (2, 1)] := by kernel_rfl
@[simp] theorem ty_pl48 : placesT P 48 = some [(0, 1), (1, 1), (2, 1), (3, 1), (4, 1), (5, 1)] := by kernel_rfl
@[simp] theorem ty_pl53 : placesT P 53 = some [(0, 1), (1, 1)] := by kernel_rfl
@[simp] theorem ty_pl76 : placesT P 76 = some [(0, 1), (1, 1)] := by kernel_rfl
@[simp] theorem ty_pl79 : placesT P 79 = some [(0, 7), (7, 2)] := by kernel_rfl
@[simp] theorem ty_pl82 : placesT P 82 = some [(0, 7), (7, 2)] := by kernel_rfl
@[simp] theorem ty_pl86 : placesT P 86 = some [(0, 7), (7, 1)] := by kernel_rfl
@[simp] theorem ty_sz100 : szOf P 100 = 1 := by kernel_rfl
@[simp] theorem ty_sz101 : szOf P 101 = 1 := by kernel_rfl
@[simp] theorem ty_sz103 : szOf P 103 = 1 := by kernel_rfl
@[simp] theorem ty_sz105 : szOf P 105 = 7 := by kernel_rfl
@[simp] theorem ty_sz127 : szOf P 127 = 1 := by kernel_rfl
@[simp] theorem ty_sz2 : szOf P 2 = 1 := by kernel_rfl
@[simp] theorem ty_sz22 : szOf P 22 = 1 := by kernel_rfl
@[simp] theorem ty_sz23 : szOf P 23 = 1 := by kernel_rfl
@[simp] theorem ty_sz24 : szOf P 24 = 1 := by kernel_rfl
@[simp] theorem ty_sz25 : szOf P 25 = 1 := by kernel_rfl
@[simp] theorem ty_sz27 : szOf P 27 = 6 := by kernel_rfl
@[simp] theorem ty_sz28 : szOf P 28 = 1 := by kernel_rfl
@[simp] theorem ty_sz29 : szOf P 29 = 1 := by kernel_rfl
@[simp] theorem ty_sz3 : szOf P 3 = 1 := by kernel_rfl
@[simp] theorem ty_sz33 : szOf P 33 = 7 := by kernel_rfl
@[simp] theorem ty_sz36 : szOf P 36 = 1 := by kernel_rfl
@[simp] theorem ty_sz37 : szOf P 37 = 1 := by kernel_rfl
@[simp] theorem ty_sz39 : szOf P 39 = 2 := by kernel_rfl
@[simp] theorem ty_sz4 : szOf P 4 = 1 := by kernel_rfl
@[simp] theorem ty_sz43 : szOf P 43 = 1 := by kernel_rfl
@[simp] theorem ty_sz45 : szOf P 45 = 3 := by kernel_rfl
@[simp] theorem ty_sz46 : szOf P 46 = 1 := by kernel_rfl
@[simp] theorem ty_sz48 : szOf P 48 = 6 := by kernel_rfl
@[simp] theorem ty_sz51 : szOf P 51 = 1 := by kernel_rfl
@[simp] theorem ty_sz53 : szOf P 53 = 2 := by kernel_rfl
@[simp] theorem ty_sz58 : szOf P 58 = 1 := by kernel_rfl
@[simp] theorem ty_sz60 : szOf P 60 = 1 := by kernel_rfl
@[simp] theorem ty_sz65 : szOf P 65 = 1 := by kernel_rfl
@[simp] theorem ty_sz66 : szOf P 66 = 1 := by kernel_rfl
@[simp] theorem ty_sz68 : szOf P 68 = 5 := by kernel_rfl
@[simp] theorem ty_sz70 : szOf P 70 = 9 := by kernel_rfl
@[simp] theorem ty_sz76 : szOf P 76 = 2 := by kernel_rfl
@[simp] theorem ty_sz82 : szOf P 82 = 9 := by kernel_rfl
@[simp] theorem ty_sz86 : szOf P 86 = 8 := by kernel_rfl
@[simp] theorem ty_sz9 : szOf P 9 = 1 := by kernel_rfl
@[simp] theorem ty_tk121 : tkind P 121 = 1 := by kernel_rfl
@[simp] theorem ty_tk23 : tkind P 23 = 1 := by kernel_rfl
@[simp] theorem ty_tk24 : tkind P 24 = 1 := by kernel_rfl
@[simp] theorem ty_tk25 : tkind P 25 = 1 := by kernel_rfl
@[simp] theorem ty_tk28 : tkind P 28 = 1 := by kernel_rfl
@[simp] theorem ty_tk29 : tkind P 29 = 1 := by kernel_rfl
@[simp] theorem ty_tk36 : tkind P 36 = 1 := by kernel_rfl
@[simp] theorem ty_tk37 : tkind P 37 = 1 := by kernel_rfl
@[simp] theorem ty_tk43 : tkind P 43 = 1 := by kernel_rfl
@[simp] theorem ty_tk51 : tkind P 51 = 1 := by kernel_rfl
@[simp] theorem ty_tk57 : tkind P 57 = 1 := by kernel_rfl
@[simp] theorem ty_tk60 : tkind P 60 = 1 := by kernel_rfl
@[simp] theorem ty_zero100 : zeroOf P 100 = some [.nilFunc] := by kernel_rfl
@[simp] theorem ty_zero101 : zeroOf P 101 = some [.map none] := by kernel_rfl
@[simp] theorem ty_zero105 : zeroOf P 105 = some [.string ByteArray.empty, .int .i64 0, .int .i64 0, .int .i64 0, .int .i64 0, .int .i64 0, .int .i64 0] := by kernel_rfl
@[simp] theorem ty_zero106 : zeroOf P 106 = some [.bool false, .bool false] := by kernel_rfl
@[simp] theorem ty_zero2 : zeroOf P 2 = some [.int .i64 0] := by kernel_rfl
@[simp] theorem ty_zero24 : zeroOf P 24 = some [.slice none 0 0] := by kernel_rfl
@[simp] theorem ty_zero25 : zeroOf P 25 = some [.slice none 0 0] := by kernel_rfl
@[simp] theorem ty_zero27 : zeroOf P 27 = some [.int .i64 0, .slice none 0 0, .int .i64 0, .slice none 0 0, .bool false, .slice none 0 0] := by kernel_rfl
@[simp] theorem ty_zero3 : zeroOf P 3 = some [.int .i64 0] := by kernel_rfl
@[simp] theorem ty_zero33 : zeroOf P 33 = some [.slice none 0 0, .slice none 0 0, .slice none 0 0, .slice none 0 0, .bool false, .slice none 0 0, .int .i64 0] := by kernel_rfl
@[simp] theorem ty_zero39 : zeroOf P 39 = some [.slice none 0 0, .slice none 0 0] := by kernel_rfl
@[simp] theorem ty_zero4 : zeroOf P 4 = some [.bool false] := by kernel_rfl
@[simp] theorem ty_zero45 : zeroOf P 45 = some [.int .i64 0, .slice none 0 0, .int .i64 0] := by kernel_rfl
@[simp] theorem ty_zero48 : zeroOf P 48 = some [.int .i64 0, .int .i64 0, .slice none 0 0, .bool false, .slice none 0 0, .int .i64 0] := by kernel_rfl
@[simp] theorem ty_zero53 : zeroOf P 53 = some [.slice none 0 0, .slice none 0 0] := by kernel_rfl
@[simp] theorem ty_zero60 : zeroOf P 60 = some [.slice none 0 0] := by kernel_rfl
@[simp] theorem ty_zero70 : zeroOf P 70 = some [.int .i64 0, .slice none 0 0, .int .i64 0, .string ByteArray.empty, .int .i64 0, .bool false, .int .i64 0, .string ByteArray.empty, .slice none 0 0] := by kernel_rfl
@[simp] theorem ty_zero76 : zeroOf P 76 = some [.string ByteArray.empty, .int .i64 0] := by kernel_rfl
@[simp] theorem ty_zero79 : zeroOf P 79 = some [.slice none 0 0, .slice none 0 0, .slice none 0 0, .slice none 0 0, .bool false, .slice none 0 0, .int .i64 0, .slice none 0 0, .slice none 0 0] := by kernel_rfl
@[simp] theorem ty_zero82 : zeroOf P 82 = some [.slice none 0 0, .slice none 0 0, .slice none 0 0, .slice none 0 0, .bool false, .slice none 0 0, .int .i64 0, .slice none 0 0, .slice none 0 0] := by kernel_rfl
@[simp] theorem ty_zero86 : zeroOf P 86 = some [.slice none 0 0, .slice none 0 0, .slice none 0 0, .slice none 0 0, .bool false, .slice none 0 0, .int .i64 0, .int .i64 0] := by kernel_rfl
@[simp] theorem ty_zv3 : zeroV P 3 = some (.d (.lit (.int .i64 0))) := by kernel_rfl
@[simp] theorem ty_zv4 : zeroV P 4 = some (.d (.lit (.bool false))) := by kernel_rfl

/-! data -/
structure NodeT where
  name : ByteArray
  type : Int
structure EdgeT where
  name : ByteArray
  type : Int
  src : Int
  dst : Int
  mode : Int
  lo : Int
  hi : Int
structure ValT where
  kind : Int
  bool : Bool
  num : Int
  text : ByteArray
  path : List Int
inductive TermT where
  | mk (op : Int) (kids : List TermT) (slot : Int) (prop : ByteArray) (val : ValT)
inductive PlanT where
  | mk (op : Int) (kids : List PlanT) (slot : Int) (edges : List Int) (back : Bool) (terms : List TermT)
structure CoreT where
  nodes : List NodeT
  edges : List EdgeT
  wher : List TermT
  cols : D
  distinct : Bool
  order : D
  limit : Int
structure StatsT where
  nodes : List Int
  edges : List Int
instance : Inhabited NodeT := ⟨⟨ByteArray.empty, 0⟩⟩
instance : Inhabited EdgeT := ⟨⟨ByteArray.empty, 0, 0, 0, 0, 0, 0⟩⟩
instance : Inhabited TermT := ⟨⟨0, [], 0, ByteArray.empty, ⟨0, false, 0, ByteArray.empty, []⟩⟩⟩
instance : Inhabited PlanT := ⟨⟨0, [], 0, [], false, []⟩⟩
namespace TermT
def op : TermT → Int | mk o _ _ _ _ => o
def kids : TermT → List TermT | mk _ k _ _ _ => k
def slot : TermT → Int | mk _ _ s _ _ => s
def prop : TermT → ByteArray | mk _ _ _ p _ => p
def val : TermT → ValT | mk _ _ _ _ v => v
end TermT
namespace PlanT
def op : PlanT → Int | mk o _ _ _ _ _ => o
def kids : PlanT → List PlanT | mk _ k _ _ _ _ => k
def slot : PlanT → Int | mk _ _ s _ _ _ => s
def edges : PlanT → List Int | mk _ _ _ e _ _ => e
def back : PlanT → Bool | mk _ _ _ _ b _ => b
def terms : PlanT → List TermT | mk _ _ _ _ _ t => t
end PlanT
def encI (n : Int) : List D := [.int n]
def encB (b : Bool) : List D := [.bool b]
def encV (v : ValT) : List D := [.int v.kind, .bool v.bool, .int v.num, .str v.text, .sl false (v.path.map encI)]
mutual
def encT : TermT → List D
  | .mk o k s p v => .int o :: .sl false (encTs k) :: .int s :: .str p :: encV v
def encTs : List TermT → List (List D)
  | [] => []
  | t :: r => encT t :: encTs r
end
mutual
def encP : PlanT → List D
  | .mk o k s e b t => [.int o, .sl false (encPs k), .int s, .sl false (e.map encI), .bool b, .sl false (t.map encT)]
def encPs : List PlanT → List (List D)
  | [] => []
  | t :: r => encP t :: encPs r
end
theorem encTs_eq (l : List TermT) : encTs l = l.map encT := by
  induction l with
  | nil => rfl
  | cons t r ih => simp [encTs, ih]
theorem encPs_eq (l : List PlanT) : encPs l = l.map encP := by
  induction l with
  | nil => rfl
  | cons t r ih => simp [encPs, ih]
def encN (n : NodeT) : List D := [.str n.name, .int n.type]
def encE (e : EdgeT) : List D := [.str e.name, .int e.type, .int e.src, .int e.dst, .int e.mode, .int e.lo, .int e.hi]
def encC (c : CoreT) : List D := [.sl false (c.nodes.map encN), .sl false (c.edges.map encE), .sl false (c.wher.map encT), c.cols, .bool c.distinct, c.order, .int c.limit]
def encS (s : StatsT) : List D := [.sl false (s.nodes.map encI), .sl false (s.edges.map encI)]
@[simp] theorem encT_cells (t : TermT) : encT t = [.int t.op, .sl false (t.kids.map encT), .int t.slot, .str t.prop, .int t.val.kind, .bool t.val.bool, .int t.val.num, .str t.val.text, .sl false (t.val.path.map encI)] := by
  cases t; simp [encT, encV, encTs_eq, TermT.op, TermT.kids, TermT.slot, TermT.prop, TermT.val]
@[simp] theorem encP_cells (p : PlanT) : encP p = [.int p.op, .sl false (p.kids.map encP), .int p.slot, .sl false (p.edges.map encI), .bool p.back, .sl false (p.terms.map encT)] := by
  cases p; simp [encP, encPs_eq, PlanT.op, PlanT.kids, PlanT.slot, PlanT.edges, PlanT.back, PlanT.terms]
attribute [simp] encI encB encN encE encC encS
end Go.Proofs.Ytihbejpkfifplaa.Z
