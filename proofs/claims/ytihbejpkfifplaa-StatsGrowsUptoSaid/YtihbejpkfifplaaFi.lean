/- A block more: what lives on; operations that make one. -/
import Derived.Test.YtihbejpkfifplaaFh
set_option linter.unusedVariables false
set_option linter.unusedSimpArgs false
namespace Go.Fw
variable {P : Program}

theorem getB_putB (s : Store) (k : Nat) (b : Blk) (i : Nat) : getB (putB s k b) i = if i = k then some b else getB s i := by
  induction s with
  | nil => simp only [putB, getB]; by_cases h : k = i <;> simp [h, eq_comm]
  | cons x r ih =>
    obtain ⟨j, c⟩ := x
    simp only [putB]
    split
    · rename_i h; subst h
      simp only [getB]
      by_cases h : j = i
      · simp [h]
      · simp [h, Ne.symm h]
    · split
      · simp only [getB]
        by_cases h : k = i
        · simp [h]
        · simp [h, Ne.symm h]
      · simp only [getB, ih]
        by_cases h : j = i
        · subst h; simp_all
        · simp [h]

/-- Nothing names these blocks. -/
def FreshB (p : Nat → Bool) : Blk → Prop
  | .vals cells => V.menL p cells = false
  | .mp _ vs => V.menL p vs = false
  | .data _ _ => True
structure Fresh (p : Nat → Bool) (e : Env) (s : Store) : Prop where
  env : V.menL p e = false
  sto : ∀ i blk, getB s i = some blk → p i = false ∧ FreshB p blk

theorem BRel.mono {w w' : World} {L L' : Nat → Prop} {m m' : Nat → Option Nat} {p : Nat → Bool} (hk : CellsKept L w w') (hs : SizesKept w w') (hL : ∀ b, L' b → L b ∨ w.heap.size ≤ b)
    (hm : ∀ i, p i = false → m' i = m i) {b : Nat} {blk : Blk} (hb : w'.heap[b]? = w.heap[b]?) (hp : FreshB p blk) (h : BRel w L m b blk) : BRel w' L' m' b blk := by
  cases blk with
  | vals cells =>
    obtain ⟨vs, ex, ty, fr, h1, h2, h3, h4⟩ := h
    exact ⟨vs, ex, ty, fr, hb.trans h1, h2, h3, ⟨h4.len, fun j x v a c => VRel.mono hk hs hL hm (menL_at hp a) (h4.at_ j x v a c)⟩⟩
  | mp ks vs =>
    obtain ⟨es, cl, h1, h2, h3⟩ := h
    exact ⟨es, cl, hb.trans h1, h2, ⟨h3.len, fun j x v a c => VRel.mono hk hs hL hm (menL_at hp a) (h3.at_ j x v a c)⟩⟩
  | data sz rows =>
    obtain ⟨cs, ty, fr, h1, h2, h3, h4, h5⟩ := h
    exact ⟨cs, ty, fr, hb.trans h1, h2, h3, h4, fun i j r x a c => by
      obtain ⟨v, q1, q2, q3⟩ := h5 i j r x a c
      exact ⟨v, q1, q2, q3.mono hk hL⟩⟩

def addM (m : Nat → Option Nat) (id b : Nat) : Nat → Option Nat := fun i => if i = id then some b else m i

/-- the world with a block more -/
abbrev wand (w : World) (o : Obj) : World := { w with heap := w.heap.push o }
theorem and_kept (w : World) (o : Obj) (L : Nat → Prop) : CellsKept L w (wand w o) := fun a v _ h => by
  have hlt := World.block_lt_of_cell? w a h
  simpa [World.cell?, wand, Array.getElem?_push, Nat.ne_of_lt hlt] using h
theorem and_sizes (w : World) (o : Obj) : SizesKept w (wand w o) := fun b cs ty fr h => by
  have hlt : b < w.heap.size := (Array.getElem?_eq_some_iff.1 h).1
  exact ⟨cs, by simpa [wand, Array.getElem?_push, Nat.ne_of_lt hlt] using h, rfl⟩
theorem and_heap (w : World) (o : Obj) {b : Nat} (h : b < w.heap.size) : (wand w o).heap[b]? = w.heap[b]? := by
  simp [wand, Array.getElem?_push, Nat.ne_of_lt h]
theorem BRel.lt {w : World} {L : Nat → Prop} {m : Nat → Option Nat} {b : Nat} {blk : Blk} (h : BRel w L m b blk) : b < w.heap.size := by
  cases blk with
  | vals cells => obtain ⟨vs, ex, ty, fr, h1, _⟩ := h; exact (Array.getElem?_eq_some_iff.1 h1).1
  | mp ks vs => obtain ⟨es, cl, h1, _⟩ := h; exact (Array.getElem?_eq_some_iff.1 h1).1
  | data sz rows => obtain ⟨cs, ty, fr, h1, _⟩ := h; exact (Array.getElem?_eq_some_iff.1 h1).1

section
variable {w0 : World} {L0 : Par} {X : Nat → Prop} {m : Nat → Option Nat} {e : Env} {s : Store} {a : Act} {w : World}
theorem Rel.m_lt (h : Rel w0 L0 X m e s a w) {i b : Nat} {blk : Blk} (hi : getB s i = some blk) (hb : m i = some b) : b < w.heap.size := by
  rcases h.sto.blk i blk hi with ⟨b', h1, h2⟩ | ⟨h1, _⟩
  · rw [hb] at h1; cases h1; exact h2.lt
  · rw [hb] at h1; cases h1
theorem own_and (h : Rel w0 L0 X m e s a w) {id : Nat} {blk : Blk} (hid : getB s id = none) {b : Nat} (hl : Own (addM m id w.heap.size) (putB s id blk) b) : Own m s b ∨ b = w.heap.size := by
  obtain ⟨i, c, h1, h2⟩ := hl
  rw [getB_putB] at h1
  unfold addM at h2
  by_cases hi : i = id
  · subst hi; simp at h2; exact .inr h2.symm
  · rw [if_neg hi] at h1 h2
    exact .inl ⟨i, c, h1, h2⟩
theorem live_and (h : Rel w0 L0 X m e s a w) {id : Nat} {blk : Blk} (hid : getB s id = none) {b : Nat} (hl : Live X (addM m id w.heap.size) (putB s id blk) b) : Live X m s b ∨ b = w.heap.size := by
  rcases hl with hl | hl
  · exact .inl (.inl hl)
  · exact (own_and h hid hl).imp_left .inr
/-- A NEW BLOCK. -/
theorem Rel.made (h : Rel w0 L0 X m e s a w) {id : Nat} {blk : Blk} (h90 : 90 ≤ id) (hf : Fresh (· == id) e s) (hid : getB s id = none) {o : Obj}
    (hb : BRel (wand w o) (Live X (addM m id w.heap.size) (putB s id blk)) (addM m id w.heap.size) w.heap.size blk) : Rel w0 L0 X (addM m id w.heap.size) e (putB s id blk) a (wand w o) := by
  have hL : ∀ b, Live X (addM m id w.heap.size) (putB s id blk) b → Live X m s b ∨ w.heap.size ≤ b := fun b hl => (live_and h hid hl).imp_right fun e => by omega
  have hm : ∀ i, ((· == id) i : Bool) = false → addM m id w.heap.size i = m i := fun i hi => by unfold addM; rw [if_neg (by simpa using hi)]
  have hk := and_kept w o (Live X m s)
  have hz := and_sizes w o
  refine ⟨⟨h.env.len, fun j x v q1 q2 => VRel.mono hk hz hL hm (menL_at hf.env q1) (h.env.at_ j x v q1 q2)⟩, ⟨fun i blk' hi => ?_, fun i j b q1 q2 q3 q4 => ?_⟩, h.dfr, ?_, fun b hl => ?_, ?_, ?_⟩
  · rw [getB_putB] at hi
    by_cases e1 : i = id
    · rw [if_pos e1] at hi; cases hi
      exact .inl ⟨w.heap.size, by simp [addM, e1], hb⟩
    · rw [if_neg e1] at hi
      have e2 : addM m id w.heap.size i = m i := by simp [addM, e1]
      rcases h.sto.blk i blk' hi with ⟨b, r1, r2⟩ | ⟨r1, r2⟩
      · exact .inl ⟨b, e2.trans r1, BRel.mono hk hz hL hm (and_heap _ _ r2.lt) (hf.sto i blk' hi).2 r2⟩
      · exact .inr ⟨e2.trans r1, r2⟩
  · have key : ∀ i, addM m id w.heap.size i = some b → (getB (putB s id blk) i).isSome = true → (i = id ∧ b = w.heap.size) ∨ (i ≠ id ∧ m i = some b ∧ (getB s i).isSome = true ∧ b < w.heap.size) := by
      intro i r1 r2
      rw [getB_putB] at r2
      unfold addM at r1
      by_cases e1 : i = id
      · rw [if_pos e1] at r1; cases r1; exact .inl ⟨e1, rfl⟩
      · rw [if_neg e1] at r1 r2
        obtain ⟨c, hc⟩ := Option.isSome_iff_exists.1 r2
        exact .inr ⟨e1, r1, r2, h.m_lt hc r1⟩
    rcases key i q1 q3 with ⟨e1, e2⟩ | ⟨e1, e2, e3, e4⟩ <;> rcases key j q2 q4 with ⟨f1, f2⟩ | ⟨f1, f2, f3, f4⟩
    · omega
    · omega
    · omega
    · exact h.sto.inj i j b e2 f2 e3 f3
  · exact ⟨h.ext.os, h.ext.tape, h.ext.output, by have := h.ext.size; simp [wand]; omega, fun b hb hl => by
      rw [and_heap _ _ (Nat.lt_of_lt_of_le hb h.ext.size)]; exact h.ext.block b hb hl, fun b cs' ty' fr hb => by
      obtain ⟨c1, h1, h2⟩ := h.ext.sizes b cs' ty' fr hb
      obtain ⟨c2, h3, h4⟩ := hz b c1 ty' fr h1
      exact ⟨c2, h3, h4.trans h2⟩⟩
  · rcases own_and h hid hl with hl | rfl
    · exact h.liv b hl
    · exact .inr h.ext.size
  · exact h.old
  · intro i hi hs
    have e1 : i ≠ id := by omega
    rw [getB_putB, if_neg e1] at hs
    simp only [addM, if_neg e1]
    exact h.par i hi hs
end

theorem heap_new (w : World) (o : Obj) : (wand w o).heap[w.heap.size]? = some o := by simp [wand]
theorem free00 (n : Nat) : Free (0, 0) n := fun o _ h => by omega

/-! the cells of a row made anew -/
theorem range_zero (z : List Value) (hz : 0 < z.length) (n : Nat) : ((Array.range (n * z.length)).map (z.toArray[· % z.toArray.size]!)).toList = (List.replicate n z).flatten := by
  have key : ∀ n, (List.range (n * z.length)).map (fun i => z.toArray[i % z.toArray.size]!) = (List.replicate n z).flatten := by
    intro n
    induction n with
    | zero => simp
    | succ n ih =>
      rw [List.replicate_succ', List.flatten_append, ← ih, Nat.add_mul, Nat.one_mul, List.range_add, List.map_append]
      congr 1
      simp only [List.flatten_cons, List.flatten_nil, List.append_nil, List.map_map]
      apply List.ext_getElem
      · simp
      · intro j h1 h2
        simp at h1
        simp [Nat.mod_eq_of_lt h1, h1]
  simpa using key n
theorem flat_at (z : List Value) (n i j : Nat) (hi : i < n) (hj : j < z.length) : (List.replicate n z).flatten[i * z.length + j]? = z[j]? := by
  induction n generalizing i with
  | zero => omega
  | succ n ih =>
    rw [List.replicate_succ, List.flatten_cons, List.getElem?_append]
    cases i with
    | zero => rw [if_pos (by omega)]; simp
    | succ i =>
      rw [if_neg (by rw [Nat.add_mul]; omega)]
      have := ih i (by omega)
      rw [show (i + 1) * z.length + j - z.length = i * z.length + j by rw [Nat.add_mul]; omega]
      exact this
theorem chop_len (n : Nat) (l : List D) : ∀ k, (chop n l k).length = k := by
  intro k
  induction k generalizing l with
  | zero => rfl
  | succ k ih => simp [chop, ih]
theorem chop_at (n : Nat) (l : List D) (k i : Nat) (hi : i < k) : (chop n l k)[i]? = some ((l.drop (i * n)).take n) := by
  induction k generalizing l i with
  | zero => omega
  | succ k ih =>
    cases i with
    | zero => simp [chop]
    | succ i =>
      simp only [chop, List.getElem?_cons_succ]
      rw [ih (l.drop n) i (by omega), List.drop_drop, Nat.add_mul]
      congr 3
      omega
end Go.Fw
