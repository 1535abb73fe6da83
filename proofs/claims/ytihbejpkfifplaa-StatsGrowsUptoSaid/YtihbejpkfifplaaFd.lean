/- Memory against its description: the whole; what values' cells are. -/
import Derived.Test.YtihbejpkfifplaaFc
import Derived.Laws.Tables
import Derived.Laws.Cells
import Derived.Laws.Slices
set_option linter.unusedVariables false
set_option linter.unusedSimpArgs false
namespace Go.Fw

/-- related, one by one -/
structure All2 {α β : Type} (R : α → β → Prop) (l : List α) (r : List β) : Prop where
  len : r.length = l.length
  at_ : ∀ (j : Nat) (x : α) (y : β), l[j]? = some x → r[j]? = some y → R x y
theorem All2.nil {α β : Type} {R : α → β → Prop} : All2 R [] [] := ⟨rfl, by simp⟩
theorem All2.cons {α β : Type} {R : α → β → Prop} {x : α} {y : β} {l : List α} {r : List β} (h : R x y) (hs : All2 R l r) : All2 R (x :: l) (y :: r) :=
  ⟨by simp [hs.len], fun j a b ha hb => by
    cases j with
    | zero => simp at ha hb; rw [← ha, ← hb]; exact h
    | succ j => simp at ha hb; exact hs.at_ j a b ha hb⟩
theorem All2.head {α β : Type} {R : α → β → Prop} {x : α} {l : List α} {r : List β} (h : All2 R (x :: l) r) : ∃ y s, r = y :: s ∧ R x y ∧ All2 R l s := by
  cases r with
  | nil => simpa using h.len
  | cons y s => exact ⟨y, s, rfl, h.at_ 0 x y rfl rfl, by simpa using h.len, fun j a b ha hb => h.at_ (j + 1) a b (by simpa using ha) (by simpa using hb)⟩
theorem All2.mono {α β : Type} {R S : α → β → Prop} {l : List α} {r : List β} (h : All2 R l r) (hs : ∀ x y, R x y → S x y) : All2 S l r := ⟨h.len, fun j x y a b => hs _ _ (h.at_ j x y a b)⟩
theorem All2.get {α β : Type} {R : α → β → Prop} {l : List α} {r : List β} (h : All2 R l r) {j : Nat} {x : α} (hx : l[j]? = some x) : ∃ y, r[j]? = some y ∧ R x y := by
  have hj : j < l.length := (List.getElem?_eq_some_iff.1 hx).1
  refine ⟨r[j]'(by rw [h.len]; exact hj), by simp [h.len, hj], h.at_ j x _ hx (by simp [h.len, hj])⟩
theorem All2.map {α β γ : Type} {R : α → β → Prop} {S : γ → β → Prop} {f : γ → α} {l : List γ} {r : List β} (h : All2 R (l.map f) r) (hs : ∀ x y, R (f x) y → S x y) : All2 S l r :=
  ⟨by simpa using h.len, fun j x y a b => hs _ _ (h.at_ j (f x) y (by simp [a]) b)⟩
theorem All2.of_map {α β γ : Type} {R : α → β → Prop} {S : γ → β → Prop} {f : γ → α} {l : List γ} {r : List β} (h : All2 S l r) (hs : ∀ x y, S x y → R (f x) y) : All2 R (l.map f) r :=
  ⟨by simpa using h.len, fun j x y a b => by
    simp only [List.getElem?_map, Option.map_eq_some_iff] at a
    obtain ⟨z, hz, rfl⟩ := a
    exact hs _ _ (h.at_ j z y hz b)⟩
theorem All2.maps {α β γ δ : Type} {R : α → β → Prop} {S : γ → δ → Prop} {f : γ → α} {g : δ → β} {l : List γ} {r : List δ} (h : All2 S l r) (hs : ∀ x y, S x y → R (f x) (g y)) : All2 R (l.map f) (r.map g) :=
  ⟨by simpa using h.len, fun j x y a b => by
    simp only [List.getElem?_map, Option.map_eq_some_iff] at a b
    obtain ⟨z, hz, rfl⟩ := a
    obtain ⟨u, hu, rfl⟩ := b
    exact hs _ _ (h.at_ j z u hz hu)⟩
theorem All2.append {α β : Type} {R : α → β → Prop} {l l' : List α} {r r' : List β} (h : All2 R l r) (h' : All2 R l' r') : All2 R (l ++ l') (r ++ r') :=
  ⟨by simp [h.len, h'.len], fun j x y a b => by
    rw [List.getElem?_append] at a b
    rw [h.len] at b
    split at a <;> rename_i hj
    · rw [if_pos hj] at b; exact h.at_ j x y a b
    · rw [if_neg hj] at b; exact h'.at_ _ x y a b⟩
theorem All2.take {α β : Type} {R : α → β → Prop} {l : List α} {r : List β} (h : All2 R l r) (n : Nat) : All2 R (l.take n) (r.take n) :=
  ⟨by simp [h.len], fun j x y a b => by
    rw [List.getElem?_take] at a b
    split at a <;> rename_i hj
    · rw [if_pos hj] at b; exact h.at_ j x y a b
    · cases a⟩
theorem All2.drop {α β : Type} {R : α → β → Prop} {l : List α} {r : List β} (h : All2 R l r) (n : Nat) : All2 R (l.drop n) (r.drop n) :=
  ⟨by simp [h.len], fun j x y a b => by
    rw [List.getElem?_drop] at a b
    exact h.at_ _ x y a b⟩
theorem All2.set {α β : Type} {R : α → β → Prop} {l : List α} {r : List β} (h : All2 R l r) (n : Nat) {x : α} {y : β} (hx : R x y) : All2 R (l.set n x) (r.set n y) :=
  ⟨by simp [h.len], fun j a b ha hb => by
    rw [List.getElem?_set] at ha hb
    rw [h.len] at hb
    split at ha
    · rename_i hj
      rw [if_pos hj] at hb
      split at ha
      · rename_i hlt
        rw [if_pos hlt] at hb
        cases ha; cases hb; exact hx
      · cases ha
    · rename_i hj
      rw [if_neg hj] at hb
      exact h.at_ j a b ha hb⟩

def Ones (vs : List Value) : Prop := ∀ v ∈ vs, v.oneCell = true
theorem Ones.one' {vs : List Value} (h : Ones vs) : ∀ v ∈ vs, v.oneCell' = true := fun v hv => by
  have := h v hv
  cases v <;> simp_all [Value.oneCell, Value.oneCell']

theorem DRel.ag_inv {w : World} {L : Nat → Prop} {cells : List D} {v : Value} (h : DRel w L (.ag cells) v) : ∃ vs : List Value, v = .agg vs.toArray ∧ Ones vs ∧ All2 (DRel w L) cells vs := by
  cases h with
  | ag _ vs hl ho hr => exact ⟨vs, rfl, ho, hl, hr⟩
theorem VRel.ag_inv {w : World} {L : Nat → Prop} {m : Nat → Option Nat} {cells : List V} {v : Value} (h : VRel w L m (.ag cells) v) : ∃ vs : List Value, v = .agg vs.toArray ∧ Ones vs ∧ All2 (VRel w L m) cells vs := by
  cases h with
  | ag _ vs hl ho hr => exact ⟨vs, rfl, ho, hl, hr⟩
theorem VRel.lit_inv {w : World} {L : Nat → Prop} {m : Nat → Option Nat} {u v : Value} (h : VRel w L m (.d (.lit u)) v) : v = u := by
  cases h with
  | d h => cases h; rfl
theorem VRel.lit_ok {w : World} {L : Nat → Prop} {m : Nat → Option Nat} {u v : Value} (h : VRel w L m (.d (.lit u)) v) : okLit u = true := by
  cases h with
  | d h => cases h; assumption
theorem VRel.int {w : World} {L : Nat → Prop} {m : Nat → Option Nat} {u : Value} (h : okLit u = true := by rfl) : VRel w L m (.d (.lit u)) u := .d (.lit u h)

theorem cells_rel {w : World} {L : Nat → Prop} {m : Nat → Option Nat} {x : V} {v : Value} {cs : List V} (h : VRel w L m x v) (hc : cellsOfV x = some cs) : ∃ vs : List Value, v.cells = vs.toArray ∧ Ones vs ∧ All2 (VRel w L m) cs vs := by
  have one : ∀ {x : V} {v : Value}, VRel w L m x v → v.oneCell = true → (v.cells = #[v]) → ∃ vs : List Value, v.cells = vs.toArray ∧ Ones vs ∧ All2 (VRel w L m) [x] vs := fun {x v} h ho hv => ⟨[v], hv, by simp [Ones, ho], .cons h .nil⟩
  cases h with
  | top v => simp [cellsOfV] at hc
  | d h =>
    cases h with
    | lit v hlit =>
      simp only [cellsOfV] at hc
      split at hc
      · rename_i ho
        cases hc
        exact one (.d (.lit v hlit)) ho (by cases v <;> simp_all [Value.oneCell, Value.cells])
      · cases hc
    | slE nn A cap h => simp only [cellsOfV] at hc; cases hc; exact one (.d (.slE nn A cap h)) rfl rfl
    | sl nn rows b off cap sz vals hb hc' hmx hz hv ho hr => simp only [cellsOfV] at hc; cases hc; exact one (.d (.sl nn rows b off cap sz vals hb hc' hmx hz hv ho hr)) rfl rfl
    | ip row b off col vals hb hv ho hr => simp only [cellsOfV] at hc; cases hc; exact one (.d (.ip row b off col vals hb hv ho hr)) rfl rfl
    | ag cells vs hl ho hr =>
      simp only [cellsOfV] at hc
      cases hc
      exact ⟨vs, rfl, ho, All2.of_map (S := DRel w L) ⟨hl, hr⟩ fun x y h => .d h⟩
  | rsE id sz => simp only [cellsOfV] at hc; cases hc; exact one (.rsE id sz) rfl rfl
  | rs id sz off len cap b cs' ty fr hm hc' hxl hh hs => simp only [cellsOfV] at hc; cases hc; exact one (.rs id sz off len cap b cs' ty fr hm hc' hxl hh hs) rfl rfl
  | pt id sz row col b hm => simp only [cellsOfV] at hc; cases hc; exact one (.pt id sz row col b hm) rfl rfl
  | mp id b hm => simp only [cellsOfV] at hc; cases hc; exact one (.mp id b hm) rfl rfl
  | fn f capt vs hl hr => simp only [cellsOfV] at hc; cases hc; exact one (.fn f capt vs hl hr) rfl rfl
  | ag cells vs hl ho hr => simp only [cellsOfV] at hc; cases hc; exact ⟨vs, rfl, ho, hl, hr⟩
  | tup cells vs hl hr => simp [cellsOfV] at hc

theorem toDs_eq {cells : List V} {l : List D} (h : toDs cells = some l) : cells = l.map .d := by
  induction cells generalizing l with
  | nil => simp [toDs] at h; subst h; rfl
  | cons v r ih =>
    cases v <;> simp only [toDs] at h <;> try (cases h; done)
    cases hr : toDs r with
    | none => rw [hr] at h; cases h
    | some k => rw [hr] at h; cases h; rw [ih hr]; rfl
theorem toDs_rel {w : World} {L : Nat → Prop} {m : Nat → Option Nat} {cells : List V} {l : List D} {vs : List Value} (h : toDs cells = some l) (hr : All2 (VRel w L m) cells vs) : All2 (DRel w L) l vs := by
  rw [toDs_eq h] at hr
  exact hr.map fun x y h => by cases h with | d h => exact h
theorem mkAg_rel {w : World} {L : Nat → Prop} {m : Nat → Option Nat} {cells : List V} {vs : List Value} (ho : Ones vs) (h : All2 (VRel w L m) cells vs) : VRel w L m (mkAg cells) (.agg vs.toArray) := by
  unfold mkAg
  cases hd : toDs cells with
  | some l => have := toDs_rel hd h; exact .d (.ag l vs this.len ho this.at_)
  | none => exact .ag cells vs h.len ho h.at_
theorem one_rel {w : World} {L : Nat → Prop} {m : Nat → Option Nat} {cells : List V} {vs : List Value} {agg : Bool} {n : Nat} {x : V} (h : All2 (VRel w L m) cells vs) (ho : Ones vs) (hx : one agg n cells = some x) :
    VRel w L m x (if agg then .agg vs.toArray else vs.headD undef) ∧ (agg = true → vs.length = n) ∧ (agg = false → vs ≠ []) := by
  unfold one at hx
  cases agg with
  | true =>
    simp only [if_true] at hx ⊢
    split at hx
    · cases hx; exact ⟨mkAg_rel ho h, fun _ => by rw [h.len]; assumption, by simp⟩
    · cases hx
  | false =>
    simp only [Bool.false_eq_true, if_false] at hx ⊢
    cases cells with
    | nil => cases hx
    | cons c r =>
      obtain ⟨y, s, rfl, h1, _⟩ := h.head
      cases hx
      exact ⟨h1, by simp, by simp⟩

/-! blocks, stores -/
/-- blocks that this call may write into -/
def Own (m : Nat → Option Nat) (s : Store) (b : Nat) : Prop := ∃ id blk, getB s id = some blk ∧ m id = some b
/-- and those that are others' -/
def Live (X : Nat → Prop) (m : Nat → Option Nat) (s : Store) (b : Nat) : Prop := X b ∨ Own m s b
def Free (fr : Nat × Nat) (n : Nat) : Prop := ∀ o, o < n → ¬ (fr.1 ≤ o ∧ o < fr.2)
def BRel (w : World) (L : Nat → Prop) (m : Nat → Option Nat) (b : Nat) : Blk → Prop
  | .vals cells => ∃ (vs ex : List Value) (ty : TypeId) (fr : Nat × Nat), w.heap[b]? = some (Obj.cells (vs ++ ex).toArray ty fr) ∧ Free fr (vs ++ ex).length ∧ Ones vs ∧ All2 (VRel w L m) cells vs
  | .mp ks vs => ∃ (es : Array MapEntry) (clock : Nat), w.heap[b]? = some (Obj.map es clock) ∧ es.toList.map (·.key) = ks ∧ All2 (VRel w L m) vs (es.toList.map (·.val))
  | .data sz rows => ∃ (cs : Array Value) (ty : TypeId) (fr : Nat × Nat), w.heap[b]? = some (Obj.cells cs ty fr) ∧ Free fr cs.size ∧ rows.length * sz ≤ cs.size ∧ (∀ r ∈ rows, r.length = sz) ∧
      ∀ (i j : Nat) (r : List D) (x : D), rows[i]? = some r → r[j]? = some x → ∃ v, cs[i * sz + j]? = some v ∧ v.oneCell = true ∧ DRel w L x v
structure SRel (w : World) (X : Nat → Prop) (m : Nat → Option Nat) (s : Store) : Prop where
  blk : ∀ id blk, getB s id = some blk → (∃ b, m id = some b ∧ BRel w (Live X m s) m b blk) ∨ (m id = none ∧ ∃ sz, blk = .data sz [])
  inj : ∀ i j b, m i = some b → m j = some b → (getB s i).isSome = true → (getB s j).isSome = true → i = j
/-- What a call leaves as it was. -/
structure Ext (L0 : Nat → Prop) (w0 w : World) : Prop where
  os : w.os = w0.os
  tape : w.tape = w0.tape
  output : w.output = w0.output
  size : w0.heap.size ≤ w.heap.size
  block : ∀ b, b < w0.heap.size → ¬ L0 b → w.heap[b]? = w0.heap[b]?
  sizes : SizesKept w0 w
/-- which blocks a call was given, by their numbers -/
abbrev Par := Nat → Option Nat
def Reach (Z : Par) (b : Nat) : Prop := ∃ i, Z i = some b
structure Rel (w0 : World) (L0 : Par) (X : Nat → Prop) (m : Nat → Option Nat) (e : Env) (s : Store) (a : Act) (w : World) : Prop where
  env : All2 (VRel w (Live X m s) m) e a.tmps.toList
  sto : SRel w X m s
  dfr : a.defers = []
  ext : Ext (Reach L0) w0 w
  liv : ∀ b, Own m s b → Reach L0 b ∨ w0.heap.size ≤ b
  old : ∀ b, X b → b < w0.heap.size ∧ ¬ Reach L0 b
  par : ∀ i, i < 90 → (getB s i).isSome = true → m i = L0 i
theorem Rel.look {w0 : World} {L0 : Par} {X : Nat → Prop} {m : Nat → Option Nat} {e : Env} {s : Store} {a : Act} {w : World} (h : Rel w0 L0 X m e s a w) (x : Operand) : VRel w (Live X m s) m (look e x) (a.eval x) := by
  cases x with
  | tmp t =>
    simp only [Fw.look, Act.eval]
    cases hx : e[t]? with
    | none => rw [List.getD_eq_getElem?_getD, hx]; exact .top _
    | some v =>
      obtain ⟨y, h1, h2⟩ := h.env.get hx
      rw [List.getD_eq_getElem?_getD, hx]
      have : a.tmps.getD t undef = y := by
        rw [Array.getElem?_toList] at h1
        simp [Array.getD_eq_getD_getElem?, h1]
      rw [this]
      exact h2
  | const v =>
    simp only [Fw.look, Act.eval]
    split
    · rename_i hv; exact .d (.lit v hv)
    · exact .top _
  | global g => exact .top _
  | func f => exact .fn f [] [] rfl (by simp)
theorem Rel.put {w0 : World} {L0 : Par} {X : Nat → Prop} {m : Nat → Option Nat} {e : Env} {s : Store} {a : Act} {w : World} (h : Rel w0 L0 X m e s a w) (dst : Option Nat) {x : V} {v : Value} (hx : VRel w (Live X m s) m x v) : Rel w0 L0 X m (put e dst x) s (a.put dst v) w := by
  cases dst with
  | none => exact h
  | some k => exact ⟨by simpa [Fw.put, Act.put] using h.env.set k hx, h.sto, h.dfr, h.ext, h.liv, h.old, h.par⟩
end Go.Fw
