/- What a slot's or a block's description says of memory, and how that lives on where memory changes. -/
import Derived.Test.YtihbejpkfifplaaFb
import Derived.Below
import Derived.Laws.Sem
set_option linter.unusedVariables false
set_option linter.unusedSimpArgs false
namespace Go.Fw

inductive DRel (w : World) (L : Nat → Prop) : D → Value → Prop
  | lit (v : Value) (h : okLit v = true) : DRel w L (.lit v) v
  | slE (nn : Bool) (A : Option Addr) (cap : Nat) (h : nn = true → A ≠ none) : DRel w L (.sl nn []) (.slice A 0 cap)
  | sl (nn : Bool) (rows : List (List D)) (b off cap sz : Nat) (vals : Nat → Nat → Value) (hb : ∀ (i j : Nat) (r : List D) (x : D), rows[i]? = some r → r[j]? = some x → ¬ L b) (hc : rows.length ≤ cap) (hm : rows.length ≤ 9223372036854775807) (hz : ∀ r ∈ rows, r.length = sz)
      (hv : ∀ (i j : Nat) (r : List D) (x : D), rows[i]? = some r → r[j]? = some x → w.cell? ⟨b, off + i * sz + j, none⟩ = some (vals i j)) (ho : ∀ (i j : Nat) (r : List D) (x : D), rows[i]? = some r → r[j]? = some x → (vals i j).oneCell = true)
      (hr : ∀ (i j : Nat) (r : List D) (x : D), rows[i]? = some r → r[j]? = some x → DRel w L x (vals i j)) : DRel w L (.sl nn rows) (.slice (some ⟨b, off, none⟩) rows.length cap)
  | ip (row : List D) (b off col : Nat) (vals : Nat → Value) (hb : ∀ (j : Nat) (x : D), row[j]? = some x → ¬ L b) (hv : ∀ (j : Nat) (x : D), row[j]? = some x → w.cell? ⟨b, off + j, none⟩ = some (vals j)) (ho : ∀ (j : Nat) (x : D), row[j]? = some x → (vals j).oneCell = true)
      (hr : ∀ (j : Nat) (x : D), row[j]? = some x → DRel w L x (vals j)) : DRel w L (.ip row col) (.pointer (some ⟨b, off + col, none⟩))
  | ag (cells : List D) (vs : List Value) (hl : vs.length = cells.length) (ho : ∀ v ∈ vs, v.oneCell = true) (hr : ∀ (j : Nat) (x : D) (v : Value), cells[j]? = some x → vs[j]? = some v → DRel w L x v) : DRel w L (.ag cells) (.agg vs.toArray)

inductive VRel (w : World) (L : Nat → Prop) (m : Nat → Option Nat) : V → Value → Prop
  | top (v : Value) : VRel w L m .top v
  | d {x : D} {v : Value} (h : DRel w L x v) : VRel w L m (.d x) v
  | rsE (id sz : Nat) : VRel w L m (.rs id sz 0 0) (.slice none 0 0)
  | rs (id sz off len cap b : Nat) (cs : Array Value) (ty : TypeId) (fr : Nat × Nat) (hm : m id = some b) (hc : len ≤ cap) (hx : len ≤ 9223372036854775807) (hh : w.heap[b]? = some (.cells cs ty fr)) (hs : (off + cap) * sz ≤ cs.size) :
      VRel w L m (.rs id sz off len) (.slice (some ⟨b, off * sz, none⟩) len cap)
  | pt (id sz row col b : Nat) (hm : m id = some b) : VRel w L m (.pt id sz row col) (.pointer (some ⟨b, row * sz + col, none⟩))
  | mp (id b : Nat) (hm : m id = some b) : VRel w L m (.mp id) (.map (some b))
  | fn (f : FuncId) (capt : List V) (vs : List Value) (hl : vs.length = capt.length) (hr : ∀ (j : Nat) (x : V) (v : Value), capt[j]? = some x → vs[j]? = some v → VRel w L m x v) : VRel w L m (.fn f capt) (.func (.func f) #[] vs.toArray)
  | ag (cells : List V) (vs : List Value) (hl : vs.length = cells.length) (ho : ∀ v ∈ vs, v.oneCell = true) (hr : ∀ (j : Nat) (x : V) (v : Value), cells[j]? = some x → vs[j]? = some v → VRel w L m x v) : VRel w L m (.ag cells) (.agg vs.toArray)
  | tup (cells : List V) (vs : List Value) (hl : vs.length = cells.length) (hr : ∀ (j : Nat) (x : V) (v : Value), cells[j]? = some x → vs[j]? = some v → VRel w L m x v) : VRel w L m (.tup cells) (.tuple vs.toArray)

/-! what lives on -/
/-- Cells outside L read as before. -/
def CellsKept (L : Nat → Prop) (w w' : World) : Prop := ∀ (a : Addr) (v : Value), ¬ L a.block → w.cell? a = some v → w'.cell? a = some v
/-- Each block of cells has its size. -/
def SizesKept (w w' : World) : Prop := ∀ (b : Nat) (cs : Array Value) (ty : TypeId) (fr : Nat × Nat), w.heap[b]? = some (Obj.cells cs ty fr) → ∃ cs' : Array Value, w'.heap[b]? = some (Obj.cells cs' ty fr) ∧ cs'.size = cs.size

theorem DRel.mono {w w' : World} {L L' : Nat → Prop} (hk : CellsKept L w w') (hL : ∀ b, L' b → L b ∨ w.heap.size ≤ b) {x : D} {v : Value} (h : DRel w L x v) : DRel w' L' x v := by
  have key : ∀ (a : Addr) (v : Value), w.cell? a = some v → ¬ L a.block → ¬ L' a.block := fun a v hc hb hl => by
    have := World.block_lt_of_cell? w _ hc
    rcases hL _ hl with h | h
    · exact hb h
    · omega
  induction h with
  | lit v h => exact .lit v h
  | slE nn A cap h => exact .slE nn A cap h
  | sl nn rows b off cap sz vals hb hc hm hz hv ho hr ih =>
    exact .sl nn rows b off cap sz vals (fun i j r x h1 h2 => key _ _ (hv i j r x h1 h2) (hb i j r x h1 h2)) hc hm hz (fun i j r x h1 h2 => hk _ _ (hb i j r x h1 h2) (hv i j r x h1 h2)) ho ih
  | ip row b off col vals hb hv ho hr ih =>
    exact .ip row b off col vals (fun j x h => key _ _ (hv j x h) (hb j x h)) (fun j x h => hk _ _ (hb j x h) (hv j x h)) ho ih
  | ag cells vs hl ho hr ih => exact .ag cells vs hl ho ih

/-! which blocks a value names -/
mutual
def V.men (p : Nat → Bool) : V → Bool
  | .top => false
  | .d _ => false
  | .rs id _ _ _ => p id
  | .pt id _ _ _ => p id
  | .mp id => p id
  | .fn _ capt => V.menL p capt
  | .ag cells => V.menL p cells
  | .tup vs => V.menL p vs
def V.menL (p : Nat → Bool) : List V → Bool
  | [] => false
  | v :: r => v.men p || V.menL p r
end
theorem menL_at {p : Nat → Bool} {l : List V} (h : V.menL p l = false) {j : Nat} {x : V} (hj : l[j]? = some x) : x.men p = false := by
  induction l generalizing j with
  | nil => simp at hj
  | cons v r ih =>
    simp only [V.menL, Bool.or_eq_false_iff] at h
    cases j with
    | zero => simp at hj; rw [← hj]; exact h.1
    | succ j => simp at hj; exact ih h.2 hj
theorem menL_of {p : Nat → Bool} {l : List V} (h : ∀ (j : Nat) (x : V), l[j]? = some x → x.men p = false) : V.menL p l = false := by
  induction l with
  | nil => rfl
  | cons v r ih =>
    simp only [V.menL, Bool.or_eq_false_iff]
    exact ⟨h 0 v rfl, ih fun j x hj => h (j + 1) x (by simpa using hj)⟩

theorem VRel.mono {w w' : World} {L L' : Nat → Prop} {m m' : Nat → Option Nat} {p : Nat → Bool} (hk : CellsKept L w w') (hs : SizesKept w w') (hL : ∀ b, L' b → L b ∨ w.heap.size ≤ b)
    (hm : ∀ i, p i = false → m' i = m i) {x : V} {v : Value} (hp : x.men p = false) (h : VRel w L m x v) : VRel w' L' m' x v := by
  induction h with
  | top v => exact .top v
  | d h => exact .d (h.mono hk hL)
  | rsE id sz => exact .rsE id sz
  | rs id sz off len cap b cs ty fr hm0 hc hx hh hs0 =>
    obtain ⟨cs', h1, h2⟩ := hs b cs ty fr hh
    exact .rs id sz off len cap b cs' ty fr ((hm id (by simpa [V.men] using hp)).trans hm0) hc hx h1 (by rw [h2]; exact hs0)
  | pt id sz row col b hm0 => exact .pt id sz row col b ((hm id (by simpa [V.men] using hp)).trans hm0)
  | mp id b hm0 => exact .mp id b ((hm id (by simpa [V.men] using hp)).trans hm0)
  | fn f capt vs hl hr ih => exact .fn f capt vs hl fun j x v h1 h2 => ih j x v h1 h2 (menL_at (by simpa [V.men] using hp) h1)
  | ag cells vs hl ho hr ih => exact .ag cells vs hl ho fun j x v h1 h2 => ih j x v h1 h2 (menL_at (by simpa [V.men] using hp) h1)
  | tup cells vs hl hr ih => exact .tup cells vs hl fun j x v h1 h2 => ih j x v h1 h2 (menL_at (by simpa [V.men] using hp) h1)
theorem VRel.mono' {w w' : World} {L L' : Nat → Prop} {m : Nat → Option Nat} (hk : CellsKept L w w') (hs : SizesKept w w') (hL : ∀ b, L' b → L b ∨ w.heap.size ≤ b) {x : V} {v : Value} (h : VRel w L m x v) : VRel w' L' m x v :=
  have key : ∀ x : V, x.men (fun _ => false) = false := fun x => by
    induction x using V.rec (motive_2 := fun l => V.menL (fun _ => false) l = false) <;> simp_all [V.men, V.menL]
  VRel.mono (p := fun _ => false) hk hs hL (fun _ _ => rfl) (key x) h
/-- less told -/
theorem VRel.fgt {w : World} {L : Nat → Prop} {m : Nat → Option Nat} (p : Nat → Bool) {x : V} {v : Value} (h : VRel w L m x v) : VRel w L m (x.fgt p) v := by
  have key : ∀ (l : List V) (j : Nat) (x : V), (V.fgtL p l)[j]? = some x → ∃ y, l[j]? = some y ∧ x = y.fgt p := by
    intro l
    induction l with
    | nil => intro j x h; simp [V.fgtL] at h
    | cons v r ih =>
      intro j x h
      cases j with
      | zero => simp [V.fgtL] at h; exact ⟨v, rfl, h.symm⟩
      | succ j => simp [V.fgtL] at h; simpa using ih j x h
  have len : ∀ l : List V, (V.fgtL p l).length = l.length := by
    intro l
    induction l with
    | nil => rfl
    | cons v r ih => simp [V.fgtL, ih]
  induction h with
  | top v => exact .top v
  | d h => exact .d h
  | rsE id sz => simp only [V.fgt]; split <;> constructor
  | rs id sz off len cap b cs ty fr hm0 hc hx hh hs0 =>
    simp only [V.fgt]; split
    · exact .top _
    · exact .rs id sz off len cap b cs ty fr hm0 hc hx hh hs0
  | pt id sz row col b hm0 =>
    simp only [V.fgt]; split
    · exact .top _
    · exact .pt id sz row col b hm0
  | mp id b hm0 =>
    simp only [V.fgt]; split
    · exact .top _
    · exact .mp id b hm0
  | fn f capt vs hl hr ih =>
    refine .fn f _ vs (hl.trans (len _).symm) fun j x v h1 h2 => ?_
    obtain ⟨y, h3, rfl⟩ := key _ _ _ h1
    exact ih j y v h3 h2
  | ag cells vs hl ho hr ih =>
    refine .ag _ vs (hl.trans (len _).symm) ho fun j x v h1 h2 => ?_
    obtain ⟨y, h3, rfl⟩ := key _ _ _ h1
    exact ih j y v h3 h2
  | tup cells vs hl hr ih =>
    refine .tup _ vs (hl.trans (len _).symm) fun j x v h1 h2 => ?_
    obtain ⟨y, h3, rfl⟩ := key _ _ _ h1
    exact ih j y v h3 h2
theorem fgtL_len (p : Nat → Bool) : ∀ l : List V, (V.fgtL p l).length = l.length := by
  intro l
  induction l with
  | nil => rfl
  | cons v r ih => simp [V.fgtL, ih]
theorem fgtL_at (p : Nat → Bool) : ∀ (l : List V) (j : Nat), (V.fgtL p l)[j]? = (l[j]?).map (V.fgt p) := by
  intro l
  induction l with
  | nil => intro j; simp [V.fgtL]
  | cons v r ih => intro j; cases j <;> simp [V.fgtL, ih]
theorem fgt_men (p : Nat → Bool) (x : V) : (x.fgt p).men p = false := by
  induction x using V.rec (motive_2 := fun l => V.menL p (V.fgtL p l) = false) <;> simp_all [V.fgt, V.fgtL, V.men, V.menL]
  all_goals (split <;> simp_all [V.men])
end Go.Fw
