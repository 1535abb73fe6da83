/- A call that is given blocks: what it answers, what it leaves of them. -/
import Derived.Test.YtihbejpkfifplaaFp
set_option linter.unusedVariables false
set_option linter.unusedSimpArgs false
namespace Go.Fw
variable {P : Program}

def puts (s : Store) : Store → Store
  | [] => s
  | (i, b) :: r => putB (puts s r) i b

theorem getB_puts' (s t : Store) (i : Nat) : getB (puts s t) i = match getB t i with | some b => some b | none => getB s i := by
  induction t with
  | nil => rfl
  | cons x r ih =>
    obtain ⟨k, d⟩ := x
    simp only [puts, getB_putB, getB]
    by_cases e : i = k
    · simp [e]
    · rw [if_neg e, if_neg (Ne.symm e)]; exact ih

/-! numbers of blocks, changed -/
mutual
def V.ren (ρ : Nat → Nat) : V → V
  | .top => .top
  | .d x => .d x
  | .rs id sz off len => .rs (ρ id) sz off len
  | .pt id sz row col => .pt (ρ id) sz row col
  | .mp id => .mp (ρ id)
  | .fn f capt => .fn f (V.renL ρ capt)
  | .ag cells => .ag (V.renL ρ cells)
  | .tup vs => .tup (V.renL ρ vs)
def V.renL (ρ : Nat → Nat) : List V → List V
  | [] => []
  | v :: r => v.ren ρ :: V.renL ρ r
end
def Blk.ren (ρ : Nat → Nat) : Blk → Blk
  | .vals cells => .vals (V.renL ρ cells)
  | .mp ks vs => .mp ks (V.renL ρ vs)
  | .data sz rows => .data sz rows
def Blk.men (p : Nat → Bool) : Blk → Bool
  | .vals cells => V.menL p cells
  | .mp _ vs => V.menL p vs
  | .data _ _ => false
def renS (ρ : Nat → Nat) : Store → Store
  | [] => []
  | (i, b) :: r => (ρ i, b.ren ρ) :: renS ρ r
def dropS (p : Nat → Bool) : Store → Store
  | [] => []
  | (i, b) :: r => if p i then dropS p r else (i, b) :: dropS p r
/-- the call's numbers: those that it was given, and new ones -/
def rho (ids : List Nat) (base j : Nat) : Nat := if j < ids.length then ids.getD j 0 else base + j
/-- blocks that were given and are given up -/
def lost (ids : List Nat) (s1 : Store) (id : Nat) : Bool := (List.range ids.length).any fun j => ids.getD j 0 == id && (getB s1 j).isNone
def badId (n : Nat) (s1 : Store) (j : Nat) : Bool := decide (100 ≤ j) || (decide (j < n) && (getB s1 j).isNone)
def okW (ids : List Nat) (s0 : Store) (args : List V) (r : V) (s1 : Store) : Bool :=
  decide ids.Nodup && decide (ids.length ≤ 90) && (List.range ids.length).all (fun j => (getB s0 j).isSome) && s0.all (fun x => decide (x.1 < ids.length) && !x.2.men (fun j => decide (ids.length ≤ j))) &&
    !V.menL (fun j => decide (ids.length ≤ j)) args && !r.men (badId ids.length s1) && s1.all (fun x => decide (x.1 < 100) && !x.2.men (badId ids.length s1))

theorem renL_len (ρ : Nat → Nat) : ∀ l : List V, (V.renL ρ l).length = l.length := by
  intro l
  induction l with
  | nil => rfl
  | cons v r ih => simp [V.renL, ih]
theorem renL_at (ρ : Nat → Nat) : ∀ (l : List V) (j : Nat), (V.renL ρ l)[j]? = (l[j]?).map (V.ren ρ) := by
  intro l
  induction l with
  | nil => intro j; simp [V.renL]
  | cons v r ih => intro j; cases j <;> simp [V.renL, ih]
theorem getB_dropS (p : Nat → Bool) (s : Store) (i : Nat) : getB (dropS p s) i = if p i then none else getB s i := by
  induction s with
  | nil => simp [dropS, getB]
  | cons x r ih =>
    obtain ⟨k, d⟩ := x
    simp only [dropS]
    by_cases e : k = i
    · subst e
      cases hp : p k <;> simp [getB, hp, ih]
    · cases hp : p k <;> simp [getB, hp, ih, e]
theorem getB_renS {ρ : Nat → Nat} {t : Store} {i : Nat} {b : Blk} (h : getB (renS ρ t) i = some b) : ∃ j b0, getB t j = some b0 ∧ ρ j = i ∧ b = b0.ren ρ := by
  induction t with
  | nil => cases h
  | cons x r ih =>
    obtain ⟨k, d⟩ := x
    simp only [renS, getB] at h
    split at h
    · rename_i e; cases h; exact ⟨k, d, by simp [getB], e, rfl⟩
    · rename_i e
      obtain ⟨j, b0, h1, h2, h3⟩ := ih h
      refine ⟨j, b0, ?_, h2, h3⟩
      simp only [getB]
      rw [if_neg (fun e1 => e (by rw [e1, h2]))]
      exact h1
theorem renS_none {ρ : Nat → Nat} {t : Store} {i : Nat} (h : getB (renS ρ t) i = none) {j : Nat} (hj : (getB t j).isSome = true) : ρ j ≠ i := by
  induction t with
  | nil => cases hj
  | cons x r ih =>
    obtain ⟨k, d⟩ := x
    simp only [renS, getB] at h
    split at h
    · cases h
    · rename_i e
      simp only [getB] at hj
      split at hj
      · rename_i e1; subst e1; exact e
      · exact ih h hj
theorem all_get {s : Store} {f : Nat × Blk → Bool} (h : s.all f = true) {i : Nat} {b : Blk} (hi : getB s i = some b) : f (i, b) = true := by
  induction s with
  | nil => cases hi
  | cons x r ih =>
    obtain ⟨k, d⟩ := x
    simp only [List.all_cons, Bool.and_eq_true] at h
    simp only [getB] at hi
    split at hi
    · rename_i e; subst e; cases hi; exact h.1
    · exact ih h.2 hi
theorem getB_mem {s : Store} {i : Nat} {b : Blk} (hi : getB s i = some b) : (i, b) ∈ s := by
  induction s with
  | nil => cases hi
  | cons x r ih =>
    obtain ⟨k, d⟩ := x
    simp only [getB] at hi
    split at hi
    · rename_i e; subst e; cases hi; simp
    · exact List.mem_cons_of_mem _ (ih hi)

theorem VRel.ren {w : World} {L L' : Nat → Prop} {m m' : Nat → Option Nat} {ρ : Nat → Nat} {bad : Nat → Bool} (hL : ∀ b, L' b → L b) (hid : ∀ j, bad j = false → m' (ρ j) = m j) {x : V} {v : Value} (hx : x.men bad = false) (h : VRel w L m x v) : VRel w L' m' (x.ren ρ) v := by
  induction h with
  | top v => exact .top v
  | d h => exact .d (h.mono (fun _ _ _ q => q) (fun b hl => .inl (hL b hl)))
  | rsE id sz => exact .rsE _ sz
  | rs id sz off len cap b cs ty fr hm hc hxl hh hs => exact .rs _ sz off len cap b cs ty fr ((hid id (by simpa [V.men] using hx)).trans hm) hc hxl hh hs
  | pt id sz row col b hm => exact .pt _ sz row col b ((hid id (by simpa [V.men] using hx)).trans hm)
  | mp id b hm => exact .mp _ b ((hid id (by simpa [V.men] using hx)).trans hm)
  | fn f capt vs hl hr ih =>
    refine .fn f _ vs (hl.trans (renL_len _ _).symm) fun j x v h1 h2 => ?_
    rw [renL_at] at h1
    obtain ⟨y, hy, rfl⟩ := Option.map_eq_some_iff.1 h1
    exact ih j y v hy h2 (menL_at (by simpa [V.men] using hx) hy)
  | ag cells vs hl ho hr ih =>
    refine .ag _ vs (hl.trans (renL_len _ _).symm) ho fun j x v h1 h2 => ?_
    rw [renL_at] at h1
    obtain ⟨y, hy, rfl⟩ := Option.map_eq_some_iff.1 h1
    exact ih j y v hy h2 (menL_at (by simpa [V.men] using hx) hy)
  | tup cells vs hl hr ih =>
    refine .tup _ vs (hl.trans (renL_len _ _).symm) fun j x v h1 h2 => ?_
    rw [renL_at] at h1
    obtain ⟨y, hy, rfl⟩ := Option.map_eq_some_iff.1 h1
    exact ih j y v hy h2 (menL_at (by simpa [V.men] using hx) hy)
/-- and back -/
theorem VRel.unren {w : World} {L L' : Nat → Prop} {m m' : Nat → Option Nat} {ρ : Nat → Nat} {bad : Nat → Bool} (hL : ∀ b, L' b → L b) (hid : ∀ j, bad j = false → m' j = m (ρ j)) {x : V} {v : Value} (hx : x.men bad = false) (h : VRel w L m (x.ren ρ) v) : VRel w L' m' x v := by
  generalize hy : x.ren ρ = y at h
  induction h generalizing x with
  | top v => cases x <;> simp only [V.ren, reduceCtorEq] at hy; exact .top v
  | d h => cases x <;> simp only [V.ren, reduceCtorEq, V.d.injEq] at hy; subst hy; exact .d (h.mono (fun _ _ _ q => q) (fun b hl => .inl (hL b hl)))
  | rsE id sz => cases x <;> simp only [V.ren, reduceCtorEq, V.rs.injEq] at hy; obtain ⟨_, rfl, rfl, rfl⟩ := hy; exact .rsE _ _
  | rs id sz off len cap b cs ty fr hm hc hxl hh hs =>
    cases x <;> simp only [V.ren, reduceCtorEq, V.rs.injEq] at hy
    obtain ⟨rfl, rfl, rfl, rfl⟩ := hy
    exact .rs _ _ _ _ cap b cs ty fr ((hid _ (by simpa [V.men] using hx)).trans hm) hc hxl hh hs
  | pt id sz row col b hm =>
    cases x <;> simp only [V.ren, reduceCtorEq, V.pt.injEq] at hy
    obtain ⟨rfl, rfl, rfl, rfl⟩ := hy
    exact .pt _ _ _ _ b ((hid _ (by simpa [V.men] using hx)).trans hm)
  | mp id b hm =>
    cases x <;> simp only [V.ren, reduceCtorEq, V.mp.injEq] at hy
    subst hy
    exact .mp _ b ((hid _ (by simpa [V.men] using hx)).trans hm)
  | fn f capt vs hl hr ih =>
    cases x <;> simp only [V.ren, reduceCtorEq, V.fn.injEq] at hy
    obtain ⟨rfl, rfl⟩ := hy
    exact .fn _ _ vs (hl.trans (renL_len _ _)) fun j y v h1 h2 => ih j _ v (by rw [renL_at, h1]; rfl) h2 (menL_at (by simpa [V.men] using hx) h1) rfl
  | ag cells vs hl ho hr ih =>
    cases x <;> simp only [V.ren, reduceCtorEq, V.ag.injEq] at hy
    subst hy
    exact .ag _ vs (hl.trans (renL_len _ _)) ho fun j y v h1 h2 => ih j _ v (by rw [renL_at, h1]; rfl) h2 (menL_at (by simpa [V.men] using hx) h1) rfl
  | tup cells vs hl hr ih =>
    cases x <;> simp only [V.ren, reduceCtorEq, V.tup.injEq] at hy
    subst hy
    exact .tup _ vs (hl.trans (renL_len _ _)) fun j y v h1 h2 => ih j _ v (by rw [renL_at, h1]; rfl) h2 (menL_at (by simpa [V.men] using hx) h1) rfl
theorem BRel.ren {w : World} {L L' : Nat → Prop} {m m' : Nat → Option Nat} {ρ : Nat → Nat} {bad : Nat → Bool} (hL : ∀ b, L' b → L b) (hid : ∀ j, bad j = false → m' (ρ j) = m j) {x : Blk} {b : Nat} (hx : x.men bad = false) (h : BRel w L m b x) : BRel w L' m' b (x.ren ρ) := by
  cases x with
  | vals cells =>
    obtain ⟨vs, ex, ty, fr, t1, t2, t3, t4⟩ := h
    refine ⟨vs, ex, ty, fr, t1, t2, t3, t4.len.trans (renL_len _ _).symm, fun j x v s1 s2 => ?_⟩
    rw [renL_at] at s1
    obtain ⟨y, hy, rfl⟩ := Option.map_eq_some_iff.1 s1
    exact VRel.ren hL hid (menL_at (by simpa [Blk.men] using hx) hy) (t4.at_ j y v hy s2)
  | mp ks vs =>
    obtain ⟨es, cl, t1, t2, t4⟩ := h
    refine ⟨es, cl, t1, t2, t4.len.trans (renL_len _ _).symm, fun j x v s1 s2 => ?_⟩
    rw [renL_at] at s1
    obtain ⟨y, hy, rfl⟩ := Option.map_eq_some_iff.1 s1
    exact VRel.ren hL hid (menL_at (by simpa [Blk.men] using hx) hy) (t4.at_ j y v hy s2)
  | data sz rows =>
    obtain ⟨cs, ty, fr, t1, t2, t3, t4, t5⟩ := h
    exact ⟨cs, ty, fr, t1, t2, t3, t4, fun i j r x s1 s2 => by
      obtain ⟨v, u1, u2, u3⟩ := t5 i j r x s1 s2
      exact ⟨v, u1, u2, u3.mono (fun _ _ _ q => q) (fun b hl => .inl (hL b hl))⟩⟩
theorem BRel.unren {w : World} {L L' : Nat → Prop} {m m' : Nat → Option Nat} {ρ : Nat → Nat} {bad : Nat → Bool} (hL : ∀ b, L' b → L b) (hid : ∀ j, bad j = false → m' j = m (ρ j)) {x : Blk} {b : Nat} (hx : x.men bad = false) (h : BRel w L m b (x.ren ρ)) : BRel w L' m' b x := by
  cases x with
  | vals cells =>
    obtain ⟨vs, ex, ty, fr, t1, t2, t3, t4⟩ := h
    exact ⟨vs, ex, ty, fr, t1, t2, t3, t4.len.trans (renL_len _ _), fun j x v s1 s2 => VRel.unren hL hid (menL_at (by simpa [Blk.men] using hx) s1) (t4.at_ j _ v (by rw [renL_at, s1]; rfl) s2)⟩
  | mp ks vs =>
    obtain ⟨es, cl, t1, t2, t4⟩ := h
    exact ⟨es, cl, t1, t2, t4.len.trans (renL_len _ _), fun j x v s1 s2 => VRel.unren hL hid (menL_at (by simpa [Blk.men] using hx) s1) (t4.at_ j _ v (by rw [renL_at, s1]; rfl) s2)⟩
  | data sz rows =>
    obtain ⟨cs, ty, fr, t1, t2, t3, t4, t5⟩ := h
    exact ⟨cs, ty, fr, t1, t2, t3, t4, fun i j r x s1 s2 => by
      obtain ⟨v, u1, u2, u3⟩ := t5 i j r x s1 s2
      exact ⟨v, u1, u2, u3.mono (fun _ _ _ q => q) (fun b hl => .inl (hL b hl))⟩⟩

/-- A FUNCTION's ANSWER, of what names the blocks s0 (numbered from 0): the result, and what stands then. -/
def SndW (P : Program) (f : FuncId) (args : List V) (s0 : Store) (r : V) (s1 : Store) : Prop := goFn P f = true ∧
  ∀ (w : World) (X : Nat → Prop) (m0 : Nat → Option Nat) (vs : List Value), (∀ b, X b → b < w.heap.size ∧ ¬ Own m0 s0 b) → SRel w X m0 s0 → All2 (VRel w (Live X m0 s0) m0) args vs →
    Calls P f vs.toArray w fun x w' => ∃ v m', x = .returned v ∧ Ext (Own m0 s0) w w' ∧ VRel w' (Live X m' s1) m' r v ∧ SRel w' X m' s1 ∧ (∀ b, Own m' s1 b → Own m0 s0 b ∨ w.heap.size ≤ b) ∧
      ∀ j, (getB s0 j).isSome = true → (getB s1 j).isSome = true → m' j = m0 j
theorem SndW.pure {f : FuncId} {args : List V} {r : V} {τ : Store} (h : SndW P f args [] r τ) : Snd P f args r τ := by
  refine ⟨h.1, fun w X vs hX hargs => ?_⟩
  have hO : ∀ b, ¬ Own (fun _ => none) [] b := by rintro b ⟨i, blk, h1, _⟩; cases h1
  have hL : ∀ b, Live X (fun _ => none) [] b → X b := fun b hb => hb.resolve_right (hO b)
  refine (h.2 w X (fun _ => none) vs (fun b hb => ⟨hX b hb, hO b⟩) ⟨fun i blk hi => (by cases hi), fun i j b h => (by cases h)⟩ (hargs.mono fun x v h => VRel.mono' (fun _ _ _ q => q) (fun _ cs _ _ q => ⟨cs, q, rfl⟩) (fun b hb => .inl (hL b hb)) h)).mono fun x w' hx => ?_
  obtain ⟨v, m', h1, h2, h3, h4, h5, _⟩ := hx
  exact ⟨v, m', h1, ⟨h2.os, h2.tape, h2.output, h2.size, fun b hb _ => h2.block b hb (hO b), h2.sizes⟩, h3, h4, fun b hb => (h5 b hb).resolve_left (hO b)⟩
theorem Snd.w {f : FuncId} {args : List V} {r : V} {τ : Store} (hp : V.menL (fun _ => true) args = false) (h : Snd P f args r τ) : SndW P f args [] r τ := by
  refine ⟨h.1, fun w X m0 vs hX hs hargs => ?_⟩
  have hO : ∀ b, ¬ Own m0 [] b := by rintro b ⟨i, blk, h1, _⟩; cases h1
  have hL : ∀ b, X b → Live X m0 [] b := fun b hb => .inl hb
  have hargs' : All2 (VRel w X (fun _ => none)) args vs := ⟨hargs.len, fun j x v h1 h2 => VRel.mono (p := fun _ => true) (fun _ _ _ q => q) (fun _ cs _ _ q => ⟨cs, q, rfl⟩) (fun b hl => .inl (hL b hl)) (fun i hi => by cases hi) (menL_at hp h1) (hargs.at_ j x v h1 h2)⟩
  refine (h.2 w X vs (fun b hb => (hX b hb).1) hargs').mono fun x w' hx => ?_
  obtain ⟨v, m', h1, h2, h3, h4, h5⟩ := hx
  exact ⟨v, m', h1, ⟨h2.os, h2.tape, h2.output, h2.size, fun b hb _ => h2.block b hb (fun f => f), h2.sizes⟩, h3, h4, fun b hb => .inr (h5 b hb), fun j hj => by cases hj⟩

section
variable {w0 : World} {L0 : Par} {X : Nat → Prop} {m : Nat → Option Nat} {e : Env} {s : Store} {a : Act} {w : World}
/-- those that the call is not given -/
def Others (X : Nat → Prop) (m : Nat → Option Nat) (s : Store) (ids : List Nat) (b : Nat) : Prop := X b ∨ ∃ id blk, getB s id = some blk ∧ m id = some b ∧ id ∉ ids
def give (ids : List Nat) (m : Nat → Option Nat) (j : Nat) : Option Nat := m (ids.getD j 0)
theorem own_give {ids : List Nat} {s0 : Store} {ρ : Nat → Nat} (hs0 : s0.all (fun x => decide (x.1 < ids.length)) = true) (hm0 : ∀ x ∈ s0, getB s (ids.getD x.1 0) = some (x.2.ren ρ)) {b : Nat} (ho : Own (give ids m) s0 b) : ∃ id ∈ ids, (getB s id).isSome = true ∧ m id = some b := by
  obtain ⟨j, b0, h1, h2⟩ := ho
  have hj : j < ids.length := by simpa using all_get hs0 h1
  have := hm0 _ (getB_mem h1)
  refine ⟨ids.getD j 0, ?_, by rw [this]; rfl, h2⟩
  simp [List.getD_eq_getElem?_getD, hj]

end
structure OkW (ids : List Nat) (s0 : Store) (args : List V) (r : V) (s1 : Store) : Prop where
  nd : ids.Nodup
  le : ids.length ≤ 90
  all : ∀ j, j < ids.length → (getB s0 j).isSome = true
  keys : s0.all (fun x => decide (x.1 < ids.length)) = true
  ment : ∀ {j b}, getB s0 j = some b → b.men (fun j => decide (ids.length ≤ j)) = false
  args : V.menL (fun j => decide (ids.length ≤ j)) args = false
  res : r.men (badId ids.length s1) = false
  outs : ∀ {j b}, getB s1 j = some b → j < 100 ∧ b.men (badId ids.length s1) = false
theorem okW_iff {ids : List Nat} {s0 : Store} {args : List V} {r : V} {s1 : Store} (h : okW ids s0 args r s1 = true) : OkW ids s0 args r s1 := by
  simp only [okW, Bool.and_eq_true, Bool.not_eq_true', decide_eq_true_eq] at h
  obtain ⟨⟨⟨⟨⟨⟨h1, h2⟩, h3⟩, h4⟩, h5⟩, h6⟩, h7⟩ := h
  refine ⟨h1, h2, fun j hj => List.all_eq_true.1 h3 j (List.mem_range.2 hj), ?_, fun {j b} hg => ?_, h5, h6, fun {j b} hg => ?_⟩
  · rw [List.all_eq_true] at h4 ⊢
    intro x hx
    have := h4 x hx
    simp only [Bool.and_eq_true] at this
    exact this.1
  · have := all_get h4 hg
    simp only [Bool.and_eq_true, Bool.not_eq_true'] at this
    exact this.2
  · have := all_get h7 hg
    simp only [Bool.and_eq_true, Bool.not_eq_true', decide_eq_true_eq] at this
    exact this
theorem rho_lt {ids : List Nat} {base j : Nat} (h : j < ids.length) : rho ids base j = ids.getD j 0 := by simp [rho, h]
theorem rho_ge {ids : List Nat} {base j : Nat} (h : ¬ j < ids.length) : rho ids base j = base + j := by simp [rho, h]
theorem mem_ids {ids : List Nat} {j : Nat} (h : j < ids.length) : ids.getD j 0 ∈ ids := by simp [List.getD_eq_getElem?_getD, h]
theorem of_ids {ids : List Nat} {id : Nat} (h : id ∈ ids) : ∃ j, j < ids.length ∧ ids.getD j 0 = id := by
  obtain ⟨j, hj, rfl⟩ := List.getElem_of_mem h
  exact ⟨j, hj, by simp [List.getD_eq_getElem?_getD, hj]⟩
theorem inj_ids {ids : List Nat} (hn : ids.Nodup) {i j : Nat} (hi : i < ids.length) (hj : j < ids.length) (h : ids.getD i 0 = ids.getD j 0) : i = j := by
  simp only [List.getD_eq_getElem?_getD, List.getElem?_eq_getElem hi, List.getElem?_eq_getElem hj, Option.getD_some] at h
  exact (List.getElem_inj (h₀ := hi) (h₁ := hj) hn).1 h

section
variable {w0 : World} {L0 : Par} {X : Nat → Prop} {m : Nat → Option Nat} {e : Env} {s : Store} {a : Act} {w : World}
variable {ids : List Nat} {s0 s1 : Store} {args : List V} {r : V} {base : Nat}
theorem own_give' (ho : OkW ids s0 args r s1) (hm0 : ∀ x ∈ s0, getB s (ids.getD x.1 0) = some (x.2.ren (rho ids base))) {b : Nat} (h : Own (give ids m) s0 b) : Own m s b := by
  obtain ⟨id, _, h2, h3⟩ := own_give ho.keys hm0 h
  obtain ⟨c, hc⟩ := Option.isSome_iff_exists.1 h2
  exact ⟨id, c, hc, h3⟩
theorem live_give (ho : OkW ids s0 args r s1) (hm0 : ∀ x ∈ s0, getB s (ids.getD x.1 0) = some (x.2.ren (rho ids base))) {b : Nat} (h : Live (Others X m s ids) (give ids m) s0 b) : Live X m s b := by
  rcases h with (h | ⟨id, blk, h1, h2, _⟩) | h
  · exact .inl h
  · exact .inr ⟨id, blk, h1, h2⟩
  · exact .inr (own_give' ho hm0 h)
/-- WHAT THE CALL IS GIVEN. -/
theorem Rel.given (h : Rel w0 L0 X m e s a w) (ho : OkW ids s0 args r s1) (hm0 : ∀ x ∈ s0, getB s (ids.getD x.1 0) = some (x.2.ren (rho ids base))) {vs : List Value} (hargs : All2 (VRel w (Live X m s) m) (V.renL (rho ids base) args) vs) :
    (∀ b, Others X m s ids b → b < w.heap.size ∧ ¬ Own (give ids m) s0 b) ∧ SRel w (Others X m s ids) (give ids m) s0 ∧ All2 (VRel w (Live (Others X m s ids) (give ids m) s0) (give ids m)) args vs := by
  have hid : ∀ j, decide (ids.length ≤ j) = false → give ids m j = m (rho ids base j) := fun j hj => by
    rw [rho_lt (by simpa using hj)]; rfl
  refine ⟨fun b hb => ?_, ⟨fun j blk hj => ?_, fun i j b q1 q2 q3 q4 => ?_⟩, ⟨hargs.len.trans (renL_len _ _), fun j x v h1 h2 => VRel.unren (fun b => live_give ho hm0) hid (menL_at ho.args h1) (hargs.at_ j _ v (by rw [renL_at, h1]; rfl) h2)⟩⟩
  · rcases hb with hb | ⟨id, blk, h1, h2, h3⟩
    · exact ⟨(h.disj hb).1, fun q => (h.disj hb).2 (own_give' ho hm0 q)⟩
    · refine ⟨h.m_lt h1 h2, fun q => ?_⟩
      obtain ⟨id', g1, g2, g3⟩ := own_give ho.keys hm0 q
      have := h.sto.inj id id' b h2 g3 (by rw [h1]; rfl) g2
      exact h3 (this ▸ g1)
  · have hg := hm0 _ (getB_mem hj)
    rcases h.sto.blk _ _ hg with ⟨b, r1, r2⟩ | ⟨r1, sz, r2⟩
    · exact .inl ⟨b, r1, BRel.unren (fun b => live_give ho hm0) hid (ho.ment hj) r2⟩
    · refine .inr ⟨r1, sz, ?_⟩
      cases blk with
      | vals cells => cases r2
      | mp ks vs => cases r2
      | data n rows => exact r2
  · have key : ∀ i, (getB s0 i).isSome = true → i < ids.length ∧ (getB s (ids.getD i 0)).isSome = true := fun i q => by
      obtain ⟨c, hc⟩ := Option.isSome_iff_exists.1 q
      exact ⟨by simpa using all_get ho.keys hc, by rw [hm0 _ (getB_mem hc)]; rfl⟩
    obtain ⟨k1, k2⟩ := key i q3
    obtain ⟨k3, k4⟩ := key j q4
    exact inj_ids ho.nd k1 k3 (h.sto.inj _ _ b q1 q2 k2 k4)
/-- WHAT IT LEAVES. -/
theorem Rel.calledW (h : Rel w0 L0 X m e s a w) {q : Nat} (hq0 : q ≠ 0) (hf : Fresh (fun i => decide (i / 100 = q)) e s) (ho : OkW ids s0 args r s1) (hm0 : ∀ x ∈ s0, getB s (ids.getD x.1 0) = some (x.2.ren (rho ids (100 * q))))
    {w' : World} {m' : Nat → Option Nat} {v : Value} (hx : Ext (Own (give ids m) s0) w w') (hr : VRel w' (Live (Others X m s ids) m' s1) m' r v) (hs : SRel w' (Others X m s ids) m' s1) (hn : ∀ b, Own m' s1 b → Own (give ids m) s0 b ∨ w.heap.size ≤ b)
    (hk : ∀ j, (getB s0 j).isSome = true → (getB s1 j).isSome = true → m' j = give ids m j) (dst : Option Nat) :
    Rel w0 L0 X (joinM m m' q) (Fw.put e dst (r.ren (rho ids (100 * q)))) (puts (dropS (lost ids s1) s) (renS (rho ids (100 * q)) s1)) (a.put dst v) w' := by
  have hsome : ∀ {i}, i ∈ ids → (getB s i).isSome = true := fun {i} hi => by
    obtain ⟨j, hj, rfl⟩ := of_ids hi
    obtain ⟨c, hc⟩ := Option.isSome_iff_exists.1 (ho.all j hj)
    rw [hm0 _ (getB_mem hc)]; rfl
  have hfq : ∀ {i}, (getB s i).isSome = true → i / 100 ≠ q := fun {i} hi => by
    obtain ⟨c, hc⟩ := Option.isSome_iff_exists.1 hi
    have := (hf.sto i c hc).1
    simpa using this
  have hm : ∀ i, (fun i => decide (i / 100 = q)) i = false → joinM m m' q i = m i := fun i hi => by
    have : i / 100 ≠ q := by simpa using hi
    simp [joinM, this]
  have hid : ∀ j, badId ids.length s1 j = false → joinM m m' q (rho ids (100 * q) j) = m' j := fun j hj => by
    simp only [badId, Bool.or_eq_false_iff, decide_eq_false_iff_not, Bool.and_eq_false_iff] at hj
    obtain ⟨h1, h2⟩ := hj
    by_cases hl : j < ids.length
    · rw [rho_lt hl]
      have e1 := hfq (hsome (mem_ids hl))
      simp only [joinM, if_neg e1]
      have h3 : (getB s1 j).isSome = true := by
        rcases h2 with h2 | h2
        · exact absurd hl h2
        · cases hg : getB s1 j with
          | none => rw [hg] at h2; cases h2
          | some b => rfl
      exact (hk j (ho.all j hl) h3).symm
    · rw [rho_ge hl]
      obtain ⟨e1, e2⟩ := sh_div (q := q) (show j < 100 by omega)
      simp only [joinM, if_pos e1, e2]
  have hgood : ∀ {j}, (getB s1 j).isSome = true → badId ids.length s1 j = false := fun {j} hj => by
    obtain ⟨c, hc⟩ := Option.isSome_iff_exists.1 hj
    have := (ho.outs hc).1
    simp only [badId, Bool.or_eq_false_iff, decide_eq_false_iff_not, Bool.and_eq_false_iff]
    exact ⟨by omega, .inr (by rw [hc]; rfl)⟩
  have hget : ∀ i blk, getB (puts (dropS (lost ids s1) s) (renS (rho ids (100 * q)) s1)) i = some blk → (∃ j b0, getB s1 j = some b0 ∧ rho ids (100 * q) j = i ∧ blk = b0.ren (rho ids (100 * q))) ∨ (getB s i = some blk ∧ i ∉ ids ∧ i / 100 ≠ q) := by
    intro i blk hg
    rw [getB_puts'] at hg
    split at hg
    · rename_i b hb
      cases hg
      obtain ⟨j, b0, h1, h2, h3⟩ := getB_renS hb
      exact .inl ⟨j, b0, h1, h2, h3⟩
    · rename_i hno
      rw [getB_dropS] at hg
      split at hg
      · cases hg
      · rename_i hl
        refine .inr ⟨hg, fun hmem => ?_, hfq (by rw [hg]; rfl)⟩
        obtain ⟨j, hj, rfl⟩ := of_ids hmem
        cases hg1 : getB s1 j with
        | none =>
          refine hl ?_
          simp only [lost, List.any_eq_true]
          exact ⟨j, List.mem_range.2 hj, by simp [hg1]⟩
        | some b =>
          have := renS_none hno (j := j) (by rw [hg1]; rfl)
          exact this (rho_lt hj)
  have hown : ∀ b, Own (joinM m m' q) (puts (dropS (lost ids s1) s) (renS (rho ids (100 * q)) s1)) b → Own m' s1 b ∨ ∃ id blk, getB s id = some blk ∧ m id = some b ∧ id ∉ ids := by
    rintro b ⟨i, blk, h1, h2⟩
    rcases hget i blk h1 with ⟨j, b0, g1, rfl, _⟩ | ⟨g1, g2, g3⟩
    · rw [hid j (hgood (by rw [g1]; rfl))] at h2
      exact .inl ⟨j, b0, g1, h2⟩
    · simp only [joinM, if_neg g3] at h2
      exact .inr ⟨i, blk, g1, h2, g2⟩
  have hL1 : ∀ b, Live X (joinM m m' q) (puts (dropS (lost ids s1) s) (renS (rho ids (100 * q)) s1)) b → Live (Others X m s ids) m' s1 b := by
    rintro b (hl | hl)
    · exact .inl (.inl hl)
    · rcases hown b hl with q | q
      · exact .inr q
      · exact .inl (.inr q)
  have hOm : ∀ b, Own (give ids m) s0 b → Own m s b := fun b => own_give' ho hm0
  have hL2 : ∀ b, Live X (joinM m m' q) (puts (dropS (lost ids s1) s) (renS (rho ids (100 * q)) s1)) b → Live X m s b ∨ w.heap.size ≤ b := by
    rintro b (hl | hl)
    · exact .inl (.inl hl)
    · rcases hown b hl with q | ⟨id, blk, g1, g2, _⟩
      · exact (hn b q).imp (fun q => .inr (hOm b q)) id
      · exact .inl (.inr ⟨id, blk, g1, g2⟩)
  have hck : CellsKept (Live X m s) w w' := fun a v hnl hc => by
    have hlt := World.block_lt_of_cell? w a hc
    have := hx.block a.block hlt (fun q => hnl (.inr (hOm _ q)))
    simpa [World.cell?, this] using hc
  have hsz : SizesKept w w' := hx.sizes
  have h1 : Rel w0 L0 X (joinM m m' q) e (puts (dropS (lost ids s1) s) (renS (rho ids (100 * q)) s1)) a w' := by
    refine ⟨⟨h.env.len, fun j x v q1 q2 => VRel.mono hck hsz hL2 hm (menL_at hf.env q1) (h.env.at_ j x v q1 q2)⟩, ⟨fun i blk hi => ?_, fun i j b q1 q2 q3 q4 => ?_⟩, h.dfr, ?_, fun b hl => ?_, h.old, fun i hi hsm => ?_⟩
    · rcases hget i blk hi with ⟨j, b0, g1, rfl, rfl⟩ | ⟨g1, g2, g3⟩
      · have ej := hid j (hgood (by rw [g1]; rfl))
        rcases hs.blk _ _ g1 with ⟨b, r1, r2⟩ | ⟨r1, sz, rfl⟩
        · exact .inl ⟨b, ej.trans r1, BRel.ren hL1 hid (ho.outs g1).2 r2⟩
        · exact .inr ⟨ej.trans r1, sz, rfl⟩
      · have ej : joinM m m' q i = m i := by simp [joinM, g3]
        rcases h.sto.blk i blk g1 with ⟨b, r1, r2⟩ | ⟨r1, r2⟩
        · refine .inl ⟨b, ej.trans r1, BRel.mono hck hsz hL2 hm (hx.block b r2.lt fun q => ?_) (hf.sto i blk g1).2 r2⟩
          obtain ⟨id', t1, t2, t3⟩ := own_give ho.keys hm0 q
          have := h.sto.inj i id' b r1 t3 (by rw [g1]; rfl) t2
          exact g2 (this ▸ t1)
        · exact .inr ⟨ej.trans r1, r2⟩
    · obtain ⟨c1, hc1⟩ := Option.isSome_iff_exists.1 q3
      obtain ⟨c2, hc2⟩ := Option.isSome_iff_exists.1 q4
      have clash : ∀ {i j : Nat} {b0 : Blk} {c : Blk}, getB s1 j = some b0 → m' j = some b → getB s i = some c → m i = some b → i ∉ ids → False := by
        intro i j b0 c t1 t2 t3 t4 t5
        rcases hn b ⟨j, b0, t1, t2⟩ with t | t
        · obtain ⟨id', u1, u2, u3⟩ := own_give ho.keys hm0 t
          have := h.sto.inj i id' b t4 u3 (by rw [t3]; rfl) u2
          exact t5 (this ▸ u1)
        · have := h.m_lt t3 t4; omega
      rcases hget i c1 hc1 with ⟨j1, b1, g1, rfl, _⟩ | ⟨g1, g2, g3⟩ <;> rcases hget j c2 hc2 with ⟨j2, b2, f1, rfl, _⟩ | ⟨f1, f2, f3⟩
      · rw [hid j1 (hgood (by rw [g1]; rfl))] at q1
        rw [hid j2 (hgood (by rw [f1]; rfl))] at q2
        rw [hs.inj _ _ b q1 q2 (by rw [g1]; rfl) (by rw [f1]; rfl)]
      · rw [hid j1 (hgood (by rw [g1]; rfl))] at q1
        simp only [joinM, if_neg f3] at q2
        exact (clash g1 q1 f1 q2 f2).elim
      · rw [hid j2 (hgood (by rw [f1]; rfl))] at q2
        simp only [joinM, if_neg g3] at q1
        exact (clash f1 q2 g1 q1 g2).elim
      · simp only [joinM, if_neg g3] at q1
        simp only [joinM, if_neg f3] at q2
        exact h.sto.inj i j b q1 q2 (by rw [g1]; rfl) (by rw [f1]; rfl)
    · exact ⟨hx.os.trans h.ext.os, hx.tape.trans h.ext.tape, hx.output.trans h.ext.output, Nat.le_trans h.ext.size hx.size, fun b hb hl => by
        rw [hx.block b (Nat.lt_of_lt_of_le hb h.ext.size) (fun q => ?_)]
        · exact h.ext.block b hb hl
        · rcases h.liv b (hOm b q) with t | t
          · exact hl t
          · omega, fun b cs ty fr hb => by
        obtain ⟨c1, h1, h2⟩ := h.ext.sizes b cs ty fr hb
        obtain ⟨c2, h3, h4⟩ := hsz b c1 ty fr h1
        exact ⟨c2, h3, h4.trans h2⟩⟩
    · rcases hown b hl with q | ⟨id, blk, g1, g2, _⟩
      · rcases hn b q with q | q
        · exact h.liv b (hOm b q)
        · exact .inr (Nat.le_trans h.ext.size q)
      · exact h.liv b ⟨id, blk, g1, g2⟩
    · have e1 : i / 100 ≠ q := by omega
      obtain ⟨c, hc⟩ := Option.isSome_iff_exists.1 hsm
      simp only [joinM, if_neg e1]
      rcases hget i c hc with ⟨j, b0, g1, g2, _⟩ | ⟨g1, _⟩
      · by_cases hl : j < ids.length
        · rw [rho_lt hl] at g2
          exact h.par i hi (g2 ▸ hsome (mem_ids hl))
        · rw [rho_ge hl] at g2; omega
      · exact h.par i hi (by rw [g1]; rfl)
  exact h1.put dst (VRel.ren hL1 hid ho.res hr)
end
/-- a call that is given blocks -/
def Imp (P : Program) (o : Oper) (E E' : St) : Prop := ∃ g args ids s0 r s1, o.dst.isSome = true ∧ callOf o.op (look E.e) = some (g, V.renL (rho ids (newId o.dst)) args) ∧ (∀ x ∈ s0, getB E.s (ids.getD x.1 0) = some (x.2.ren (rho ids (newId o.dst)))) ∧
  okW ids s0 args r s1 = true ∧ SndW P g args s0 r s1 ∧ E' = ⟨put E.e o.dst (r.ren (rho ids (newId o.dst))), puts (dropS (lost ids s1) E.s) (renS (rho ids (newId o.dst)) s1)⟩
/-- A STEP; im: calls are given blocks. -/
def DoI (P : Program) (im : Bool) (o : Oper) (E E' : St) : Prop := match cls o.op, im with
  | .c, true => Imp P o E E'
  | _, _ => Do P o E E'
def Stp (P : Program) (im : Bool) (all : List Oper) (o : Oper) (E E' : St) : Prop := match guardOf all E.e o.guard with
  | none => False
  | some none => DoI P im o E E'
  | some (some (_, want, b)) => (b = want → DoI P im o E E') ∧ (b = !want → E' = ⟨put E.e o.dst vundef, E.s⟩)

theorem doI_do {im : Bool} {o : Oper} (h : im = true → cls o.op ≠ .c) {E E' : St} : DoI P im o E E' ↔ Do P o E E' := by
  unfold DoI
  cases hc : cls o.op <;> cases im <;> simp only
  exact absurd hc (h rfl)
end Go.Fw
