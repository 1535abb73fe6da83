/- Texts of this claim, put together: Fpw, Fq, Fr, Fs, Ft, Fu, Fv, Fw, Fx, Fy, Pa, Pb, Pc, Pd. -/
import Derived.Test.YtimgbdkgjfbhkaaOa
import Derived.ScopeJumps
import Derived.Test.YtimgbdkgjfbhkaaProg
set_option linter.unusedVariables false
set_option linter.unusedSimpArgs false
set_option maxRecDepth 100000
section
namespace Go.Fw
variable {P : Program}
def puts (s : Store) : Store → Store
 | [] => s
 | (i, b) :: r => putB (puts s r) i b
theorem getB_puts' (s t : Store) (i : Nat) : getB (puts s t) i = match getB t i with | some b => some b | none => getB s i := by
 induction t with
 | nil => rfl
 | cons x r ih =>
   obtain ⟨k, d⟩ := x
   simp only [puts, getB_putB, getB]
   by_cases e : i = k
   ·simp [e]
   ·rw [if_neg e, if_neg (Ne.symm e)]; exact ih
mutual
def V.ren (ρ : Nat → Nat) : V → V
 | .top => .top
 | .d x => .d x
 | .rs id sz off len => .rs (ρ id) sz off len
 | .pt id sz row col => .pt (ρ id) sz row col
 | .mp id => .mp (ρ id)
 | .fn f capt => .fn f (V.renL ρ capt)
 | .ag cells => .ag (V.renL ρ cells)
 | .tup vs => .tup (V.renL ρ vs)
def V.renL (ρ : Nat → Nat) : List V → List V
 | [] => []
 | v :: r => v.ren ρ :: V.renL ρ r
end
def Blk.ren (ρ : Nat → Nat) : Blk → Blk
 | .vals cells => .vals (V.renL ρ cells)
 | .mp ks vs => .mp ks (V.renL ρ vs)
 | .data sz rows => .data sz rows
def Blk.men (p : Nat → Bool) : Blk → Bool
 | .vals cells => V.menL p cells
 | .mp _ vs => V.menL p vs
 | .data _ _ => false
def renS (ρ : Nat → Nat) : Store → Store
 | [] => []
 | (i, b) :: r => (ρ i, b.ren ρ) :: renS ρ r
def dropS (p : Nat → Bool) : Store → Store
 | [] => []
 | (i, b) :: r => if p i then dropS p r else (i, b) :: dropS p r
def rho (ids : List Nat) (base j : Nat) : Nat := if j < ids.length then ids.getD j 0 else base + j
def lost (ids : List Nat) (s1 : Store) (id : Nat) : Bool := (List.range ids.length).any fun j => ids.getD j 0 == id && (getB s1 j).isNone
def badId (n : Nat) (s1 : Store) (j : Nat) : Bool := decide (100 ≤ j) || (decide (j < n) && (getB s1 j).isNone)
def okW (ids : List Nat) (s0 : Store) (args : List V) (r : V) (s1 : Store) : Bool :=
 decide ids.Nodup && decide (ids.length ≤ 90) && (List.range ids.length).all (fun j => (getB s0 j).isSome) && s0.all (fun x => decide (x.1 < ids.length) && !x.2.men (fun j => decide (ids.length ≤ j))) &&
  !V.menL (fun j => decide (ids.length ≤ j)) args && !r.men (badId ids.length s1) && s1.all (fun x => decide (x.1 < 100) && !x.2.men (badId ids.length s1))
theorem renL_len (ρ : Nat → Nat) : ∀ l : List V, (V.renL ρ l).length = l.length := by
 intro l
 induction l with
 | nil => rfl
 | cons v r ih => simp [V.renL, ih]
theorem renL_at (ρ : Nat → Nat) : ∀ (l : List V) (j : Nat), (V.renL ρ l)[j]? = (l[j]?).map (V.ren ρ) := by
 intro l
 induction l with
 | nil => intro j; simp [V.renL]
 | cons v r ih => intro j; cases j <;> simp [V.renL, ih]
theorem getB_dropS (p : Nat → Bool) (s : Store) (i : Nat) : getB (dropS p s) i = if p i then none else getB s i := by
 induction s with
 | nil => simp [dropS, getB]
 | cons x r ih =>
   obtain ⟨k, d⟩ := x
   simp only [dropS]
   by_cases e : k = i
   ·subst e
    cases hp : p k <;> simp [getB, hp, ih]
   ·cases hp : p k <;> simp [getB, hp, ih, e]
theorem getB_renS {ρ : Nat → Nat} {t : Store} {i : Nat} {b : Blk} (h : getB (renS ρ t) i = some b) : ∃ j b0, getB t j = some b0 ∧ ρ j = i ∧ b = b0.ren ρ := by
 induction t with
 | nil => cases h
 | cons x r ih =>
   obtain ⟨k, d⟩ := x
   simp only [renS, getB] at h
   split at h
   ·rename_i e; cases h; exact ⟨k, d, by simp [getB], e, rfl⟩
   ·rename_i e
    obtain ⟨j, b0, h1, h2, h3⟩ := ih h
    refine ⟨j, b0, ?_, h2, h3⟩
    simp only [getB]
    rw [if_neg (fun e1 => e (by rw [e1, h2]))]
    exact h1
theorem renS_none {ρ : Nat → Nat} {t : Store} {i : Nat} (h : getB (renS ρ t) i = none) {j : Nat} (hj : (getB t j).isSome = true) : ρ j ≠ i := by
 induction t with
 | nil => cases hj
 | cons x r ih =>
   obtain ⟨k, d⟩ := x
   simp only [renS, getB] at h
   split at h
   ·cases h
   ·rename_i e
    simp only [getB] at hj
    split at hj
    ·rename_i e1; subst e1; exact e
    ·exact ih h hj
theorem all_get {s : Store} {f : Nat × Blk → Bool} (h : s.all f = true) {i : Nat} {b : Blk} (hi : getB s i = some b) : f (i, b) = true := by
 induction s with
 | nil => cases hi
 | cons x r ih =>
   obtain ⟨k, d⟩ := x
   simp only [List.all_cons, Bool.and_eq_true] at h
   simp only [getB] at hi
   split at hi
   ·rename_i e; subst e; cases hi; exact h.1
   ·exact ih h.2 hi
theorem getB_mem {s : Store} {i : Nat} {b : Blk} (hi : getB s i = some b) : (i, b) ∈ s := by
 induction s with
 | nil => cases hi
 | cons x r ih =>
   obtain ⟨k, d⟩ := x
   simp only [getB] at hi
   split at hi
   ·rename_i e; subst e; cases hi; simp
   ·exact List.mem_cons_of_mem _ (ih hi)
theorem VRel.ren {w : World} {L L' : Nat → Prop} {m m' : Nat → Option Nat} {ρ : Nat → Nat} {bad : Nat → Bool} (hL : ∀ b, L' b → L b) (hid : ∀ j, bad j = false → m' (ρ j) = m j) {x : V} {v : Value} (hx : x.men bad = false) (h : VRel w L m x v) : VRel w L' m' (x.ren ρ) v := by
 induction h with
 | top v => exact .top v
 | d h => exact .d (h.mono (fun _ _ _ q => q) (fun b hl => .inl (hL b hl)))
 | rsE id sz => exact .rsE _ sz
 | rs id sz off len cap b cs ty fr hm hc hxl hh hs => exact .rs _ sz off len cap b cs ty fr ((hid id (by simpa [V.men] using hx)).trans hm) hc hxl hh hs
 | pt id sz row col b hm => exact .pt _ sz row col b ((hid id (by simpa [V.men] using hx)).trans hm)
 | mp id b hm => exact .mp _ b ((hid id (by simpa [V.men] using hx)).trans hm)
 | fn f capt vs hl hr ih =>
   refine .fn f _ vs (hl.trans (renL_len _ _).symm) fun j x v h1 h2 => ?_
   rw [renL_at] at h1
   obtain ⟨y, hy, rfl⟩ := Option.map_eq_some_iff.1 h1
   exact ih j y v hy h2 (menL_at (by simpa [V.men] using hx) hy)
 | ag cells vs hl ho hr ih =>
   refine .ag _ vs (hl.trans (renL_len _ _).symm) ho fun j x v h1 h2 => ?_
   rw [renL_at] at h1
   obtain ⟨y, hy, rfl⟩ := Option.map_eq_some_iff.1 h1
   exact ih j y v hy h2 (menL_at (by simpa [V.men] using hx) hy)
 | tup cells vs hl hr ih =>
   refine .tup _ vs (hl.trans (renL_len _ _).symm) fun j x v h1 h2 => ?_
   rw [renL_at] at h1
   obtain ⟨y, hy, rfl⟩ := Option.map_eq_some_iff.1 h1
   exact ih j y v hy h2 (menL_at (by simpa [V.men] using hx) hy)
theorem VRel.unren {w : World} {L L' : Nat → Prop} {m m' : Nat → Option Nat} {ρ : Nat → Nat} {bad : Nat → Bool} (hL : ∀ b, L' b → L b) (hid : ∀ j, bad j = false → m' j = m (ρ j)) {x : V} {v : Value} (hx : x.men bad = false) (h : VRel w L m (x.ren ρ) v) : VRel w L' m' x v := by
 generalize hy : x.ren ρ = y at h
 induction h generalizing x with
 | top v => cases x <;> simp only [V.ren, reduceCtorEq] at hy; exact .top v
 | d h => cases x <;> simp only [V.ren, reduceCtorEq, V.d.injEq] at hy; subst hy; exact .d (h.mono (fun _ _ _ q => q) (fun b hl => .inl (hL b hl)))
 | rsE id sz => cases x <;> simp only [V.ren, reduceCtorEq, V.rs.injEq] at hy; obtain ⟨_, rfl, rfl, rfl⟩ := hy; exact .rsE _ _
 | rs id sz off len cap b cs ty fr hm hc hxl hh hs =>
   cases x <;> simp only [V.ren, reduceCtorEq, V.rs.injEq] at hy
   obtain ⟨rfl, rfl, rfl, rfl⟩ := hy
   exact .rs _ _ _ _ cap b cs ty fr ((hid _ (by simpa [V.men] using hx)).trans hm) hc hxl hh hs
 | pt id sz row col b hm =>
   cases x <;> simp only [V.ren, reduceCtorEq, V.pt.injEq] at hy
   obtain ⟨rfl, rfl, rfl, rfl⟩ := hy
   exact .pt _ _ _ _ b ((hid _ (by simpa [V.men] using hx)).trans hm)
 | mp id b hm =>
   cases x <;> simp only [V.ren, reduceCtorEq, V.mp.injEq] at hy
   subst hy
   exact .mp _ b ((hid _ (by simpa [V.men] using hx)).trans hm)
 | fn f capt vs hl hr ih =>
   cases x <;> simp only [V.ren, reduceCtorEq, V.fn.injEq] at hy
   obtain ⟨rfl, rfl⟩ := hy
   exact .fn _ _ vs (hl.trans (renL_len _ _)) fun j y v h1 h2 => ih j _ v (by rw [renL_at, h1]; rfl) h2 (menL_at (by simpa [V.men] using hx) h1) rfl
 | ag cells vs hl ho hr ih =>
   cases x <;> simp only [V.ren, reduceCtorEq, V.ag.injEq] at hy
   subst hy
   exact .ag _ vs (hl.trans (renL_len _ _)) ho fun j y v h1 h2 => ih j _ v (by rw [renL_at, h1]; rfl) h2 (menL_at (by simpa [V.men] using hx) h1) rfl
 | tup cells vs hl hr ih =>
   cases x <;> simp only [V.ren, reduceCtorEq, V.tup.injEq] at hy
   subst hy
   exact .tup _ vs (hl.trans (renL_len _ _)) fun j y v h1 h2 => ih j _ v (by rw [renL_at, h1]; rfl) h2 (menL_at (by simpa [V.men] using hx) h1) rfl
theorem BRel.ren {w : World} {L L' : Nat → Prop} {m m' : Nat → Option Nat} {ρ : Nat → Nat} {bad : Nat → Bool} (hL : ∀ b, L' b → L b) (hid : ∀ j, bad j = false → m' (ρ j) = m j) {x : Blk} {b : Nat} (hx : x.men bad = false) (h : BRel w L m b x) : BRel w L' m' b (x.ren ρ) := by
 cases x with
 | vals cells =>
   obtain ⟨vs, ex, ty, fr, t1, t2, t3, t4⟩ := h
   refine ⟨vs, ex, ty, fr, t1, t2, t3, t4.len.trans (renL_len _ _).symm, fun j x v s1 s2 => ?_⟩
   rw [renL_at] at s1
   obtain ⟨y, hy, rfl⟩ := Option.map_eq_some_iff.1 s1
   exact VRel.ren hL hid (menL_at (by simpa [Blk.men] using hx) hy) (t4.at_ j y v hy s2)
 | mp ks vs =>
   obtain ⟨es, cl, t1, t2, t4⟩ := h
   refine ⟨es, cl, t1, t2, t4.len.trans (renL_len _ _).symm, fun j x v s1 s2 => ?_⟩
   rw [renL_at] at s1
   obtain ⟨y, hy, rfl⟩ := Option.map_eq_some_iff.1 s1
   exact VRel.ren hL hid (menL_at (by simpa [Blk.men] using hx) hy) (t4.at_ j y v hy s2)
 | data sz rows =>
   obtain ⟨cs, ty, fr, t1, t2, t3, t4, t5⟩ := h
   exact ⟨cs, ty, fr, t1, t2, t3, t4, fun i j r x s1 s2 => by
    obtain ⟨v, u1, u2, u3⟩ := t5 i j r x s1 s2
    exact ⟨v, u1, u2, u3.mono (fun _ _ _ q => q) (fun b hl => .inl (hL b hl))⟩⟩
theorem BRel.unren {w : World} {L L' : Nat → Prop} {m m' : Nat → Option Nat} {ρ : Nat → Nat} {bad : Nat → Bool} (hL : ∀ b, L' b → L b) (hid : ∀ j, bad j = false → m' j = m (ρ j)) {x : Blk} {b : Nat} (hx : x.men bad = false) (h : BRel w L m b (x.ren ρ)) : BRel w L' m' b x := by
 cases x with
 | vals cells =>
   obtain ⟨vs, ex, ty, fr, t1, t2, t3, t4⟩ := h
   exact ⟨vs, ex, ty, fr, t1, t2, t3, t4.len.trans (renL_len _ _), fun j x v s1 s2 => VRel.unren hL hid (menL_at (by simpa [Blk.men] using hx) s1) (t4.at_ j _ v (by rw [renL_at, s1]; rfl) s2)⟩
 | mp ks vs =>
   obtain ⟨es, cl, t1, t2, t4⟩ := h
   exact ⟨es, cl, t1, t2, t4.len.trans (renL_len _ _), fun j x v s1 s2 => VRel.unren hL hid (menL_at (by simpa [Blk.men] using hx) s1) (t4.at_ j _ v (by rw [renL_at, s1]; rfl) s2)⟩
 | data sz rows =>
   obtain ⟨cs, ty, fr, t1, t2, t3, t4, t5⟩ := h
   exact ⟨cs, ty, fr, t1, t2, t3, t4, fun i j r x s1 s2 => by
    obtain ⟨v, u1, u2, u3⟩ := t5 i j r x s1 s2
    exact ⟨v, u1, u2, u3.mono (fun _ _ _ q => q) (fun b hl => .inl (hL b hl))⟩⟩
def SndW (P : Program) (f : FuncId) (args : List V) (s0 : Store) (r : V) (s1 : Store) : Prop := goFn P f = true ∧
 ∀ (w : World) (X : Nat → Prop) (m0 : Nat → Option Nat) (vs : List Value), (∀ b, X b → b < w.heap.size ∧ ¬ Own m0 s0 b) → SRel w X m0 s0 → All2 (VRel w (Live X m0 s0) m0) args vs →
  Calls P f vs.toArray w fun x w' => ∃ v m', x = .returned v ∧ Ext (Own m0 s0) w w' ∧ VRel w' (Live X m' s1) m' r v ∧ SRel w' X m' s1 ∧ (∀ b, Own m' s1 b → Own m0 s0 b ∨ w.heap.size ≤ b) ∧
   ∀ j, (getB s0 j).isSome = true → (getB s1 j).isSome = true → m' j = m0 j
theorem SndW.pure {f : FuncId} {args : List V} {r : V} {τ : Store} (h : SndW P f args [] r τ) : Snd P f args r τ := by
 refine ⟨h.1, fun w X vs hX hargs => ?_⟩
 have hO : ∀ b, ¬ Own (fun _ => none) [] b := by rintro b ⟨i, blk, h1, _⟩; cases h1
 have hL : ∀ b, Live X (fun _ => none) [] b → X b := fun b hb => hb.resolve_right (hO b)
 refine (h.2 w X (fun _ => none) vs (fun b hb => ⟨hX b hb, hO b⟩) ⟨fun i blk hi => (by cases hi), fun i j b h => (by cases h)⟩ (hargs.mono fun x v h => VRel.mono' (fun _ _ _ q => q) (fun _ cs _ _ q => ⟨cs, q, rfl⟩) (fun b hb => .inl (hL b hb)) h)).mono fun x w' hx => ?_
 obtain ⟨v, m', h1, h2, h3, h4, h5, _⟩ := hx
 exact ⟨v, m', h1, ⟨h2.os, h2.tape, h2.output, h2.size, fun b hb _ => h2.block b hb (hO b), h2.sizes⟩, h3, h4, fun b hb => (h5 b hb).resolve_left (hO b)⟩
theorem Snd.w {f : FuncId} {args : List V} {r : V} {τ : Store} (hp : V.menL (fun _ => true) args = false) (h : Snd P f args r τ) : SndW P f args [] r τ := by
 refine ⟨h.1, fun w X m0 vs hX hs hargs => ?_⟩
 have hO : ∀ b, ¬ Own m0 [] b := by rintro b ⟨i, blk, h1, _⟩; cases h1
 have hL : ∀ b, X b → Live X m0 [] b := fun b hb => .inl hb
 have hargs' : All2 (VRel w X (fun _ => none)) args vs := ⟨hargs.len, fun j x v h1 h2 => VRel.mono (p := fun _ => true) (fun _ _ _ q => q) (fun _ cs _ _ q => ⟨cs, q, rfl⟩) (fun b hl => .inl (hL b hl)) (fun i hi => by cases hi) (menL_at hp h1) (hargs.at_ j x v h1 h2)⟩
 refine (h.2 w X vs (fun b hb => (hX b hb).1) hargs').mono fun x w' hx => ?_
 obtain ⟨v, m', h1, h2, h3, h4, h5⟩ := hx
 exact ⟨v, m', h1, ⟨h2.os, h2.tape, h2.output, h2.size, fun b hb _ => h2.block b hb (fun f => f), h2.sizes⟩, h3, h4, fun b hb => .inr (h5 b hb), fun j hj => by cases hj⟩
section
variable {w0 : World} {L0 : Par} {X : Nat → Prop} {m : Nat → Option Nat} {e : Env} {s : Store} {a : Act} {w : World}
def Others (X : Nat → Prop) (m : Nat → Option Nat) (s : Store) (ids : List Nat) (b : Nat) : Prop := X b ∨ ∃ id blk, getB s id = some blk ∧ m id = some b ∧ id ∉ ids
def give (ids : List Nat) (m : Nat → Option Nat) (j : Nat) : Option Nat := m (ids.getD j 0)
theorem own_give {ids : List Nat} {s0 : Store} {ρ : Nat → Nat} (hs0 : s0.all (fun x => decide (x.1 < ids.length)) = true) (hm0 : ∀ x ∈ s0, getB s (ids.getD x.1 0) = some (x.2.ren ρ)) {b : Nat} (ho : Own (give ids m) s0 b) : ∃ id ∈ ids, (getB s id).isSome = true ∧ m id = some b := by
 obtain ⟨j, b0, h1, h2⟩ := ho
 have hj : j < ids.length := by simpa using all_get hs0 h1
 have := hm0 _ (getB_mem h1)
 refine ⟨ids.getD j 0, ?_, by rw [this]; rfl, h2⟩
 simp [List.getD_eq_getElem?_getD, hj]
end
structure OkW (ids : List Nat) (s0 : Store) (args : List V) (r : V) (s1 : Store) : Prop where
 nd : ids.Nodup
 le : ids.length ≤ 90
 all : ∀ j, j < ids.length → (getB s0 j).isSome = true
 keys : s0.all (fun x => decide (x.1 < ids.length)) = true
 ment : ∀ {j b}, getB s0 j = some b → b.men (fun j => decide (ids.length ≤ j)) = false
 args : V.menL (fun j => decide (ids.length ≤ j)) args = false
 res : r.men (badId ids.length s1) = false
 outs : ∀ {j b}, getB s1 j = some b → j < 100 ∧ b.men (badId ids.length s1) = false
theorem okW_iff {ids : List Nat} {s0 : Store} {args : List V} {r : V} {s1 : Store} (h : okW ids s0 args r s1 = true) : OkW ids s0 args r s1 := by
 simp only [okW, Bool.and_eq_true, Bool.not_eq_true', decide_eq_true_eq] at h
 obtain ⟨⟨⟨⟨⟨⟨h1, h2⟩, h3⟩, h4⟩, h5⟩, h6⟩, h7⟩ := h
 refine ⟨h1, h2, fun j hj => List.all_eq_true.1 h3 j (List.mem_range.2 hj), ?_, fun {j b} hg => ?_, h5, h6, fun {j b} hg => ?_⟩
 ·rw [List.all_eq_true] at h4 ⊢
  intro x hx
  have := h4 x hx
  simp only [Bool.and_eq_true] at this
  exact this.1
 ·have := all_get h4 hg
  simp only [Bool.and_eq_true, Bool.not_eq_true'] at this
  exact this.2
 ·have := all_get h7 hg
  simp only [Bool.and_eq_true, Bool.not_eq_true', decide_eq_true_eq] at this
  exact this
theorem rho_lt {ids : List Nat} {base j : Nat} (h : j < ids.length) : rho ids base j = ids.getD j 0 := by simp [rho, h]
theorem rho_ge {ids : List Nat} {base j : Nat} (h : ¬ j < ids.length) : rho ids base j = base + j := by simp [rho, h]
theorem mem_ids {ids : List Nat} {j : Nat} (h : j < ids.length) : ids.getD j 0 ∈ ids := by simp [List.getD_eq_getElem?_getD, h]
theorem of_ids {ids : List Nat} {id : Nat} (h : id ∈ ids) : ∃ j, j < ids.length ∧ ids.getD j 0 = id := by
 obtain ⟨j, hj, rfl⟩ := List.getElem_of_mem h
 exact ⟨j, hj, by simp [List.getD_eq_getElem?_getD, hj]⟩
theorem inj_ids {ids : List Nat} (hn : ids.Nodup) {i j : Nat} (hi : i < ids.length) (hj : j < ids.length) (h : ids.getD i 0 = ids.getD j 0) : i = j := by
 simp only [List.getD_eq_getElem?_getD, List.getElem?_eq_getElem hi, List.getElem?_eq_getElem hj, Option.getD_some] at h
 exact (List.getElem_inj (h₀ := hi) (h₁ := hj) hn).1 h
section
variable {w0 : World} {L0 : Par} {X : Nat → Prop} {m : Nat → Option Nat} {e : Env} {s : Store} {a : Act} {w : World}
variable {ids : List Nat} {s0 s1 : Store} {args : List V} {r : V} {base : Nat}
theorem own_give' (ho : OkW ids s0 args r s1) (hm0 : ∀ x ∈ s0, getB s (ids.getD x.1 0) = some (x.2.ren (rho ids base))) {b : Nat} (h : Own (give ids m) s0 b) : Own m s b := by
 obtain ⟨id, _, h2, h3⟩ := own_give ho.keys hm0 h
 obtain ⟨c, hc⟩ := Option.isSome_iff_exists.1 h2
 exact ⟨id, c, hc, h3⟩
theorem live_give (ho : OkW ids s0 args r s1) (hm0 : ∀ x ∈ s0, getB s (ids.getD x.1 0) = some (x.2.ren (rho ids base))) {b : Nat} (h : Live (Others X m s ids) (give ids m) s0 b) : Live X m s b := by
 rcases h with (h | ⟨id, blk, h1, h2, _⟩) | h
 ·exact .inl h
 ·exact .inr ⟨id, blk, h1, h2⟩
 ·exact .inr (own_give' ho hm0 h)
theorem Rel.given (h : Rel w0 L0 X m e s a w) (ho : OkW ids s0 args r s1) (hm0 : ∀ x ∈ s0, getB s (ids.getD x.1 0) = some (x.2.ren (rho ids base))) {vs : List Value} (hargs : All2 (VRel w (Live X m s) m) (V.renL (rho ids base) args) vs) :
  (∀ b, Others X m s ids b → b < w.heap.size ∧ ¬ Own (give ids m) s0 b) ∧ SRel w (Others X m s ids) (give ids m) s0 ∧ All2 (VRel w (Live (Others X m s ids) (give ids m) s0) (give ids m)) args vs := by
 have hid : ∀ j, decide (ids.length ≤ j) = false → give ids m j = m (rho ids base j) := fun j hj => by
  rw [rho_lt (by simpa using hj)]; rfl
 refine ⟨fun b hb => ?_, ⟨fun j blk hj => ?_, fun i j b q1 q2 q3 q4 => ?_⟩, ⟨hargs.len.trans (renL_len _ _), fun j x v h1 h2 => VRel.unren (fun b => live_give ho hm0) hid (menL_at ho.args h1) (hargs.at_ j _ v (by rw [renL_at, h1]; rfl) h2)⟩⟩
 ·rcases hb with hb | ⟨id, blk, h1, h2, h3⟩
  ·exact ⟨(h.disj hb).1, fun q => (h.disj hb).2 (own_give' ho hm0 q)⟩
  ·refine ⟨h.m_lt h1 h2, fun q => ?_⟩
   obtain ⟨id', g1, g2, g3⟩ := own_give ho.keys hm0 q
   have := h.sto.inj id id' b h2 g3 (by rw [h1]; rfl) g2
   exact h3 (this ▸ g1)
 ·have hg := hm0 _ (getB_mem hj)
  rcases h.sto.blk _ _ hg with ⟨b, r1, r2⟩ | ⟨r1, sz, r2⟩
  ·exact .inl ⟨b, r1, BRel.unren (fun b => live_give ho hm0) hid (ho.ment hj) r2⟩
  ·refine .inr ⟨r1, sz, ?_⟩
   cases blk with
   | vals cells => cases r2
   | mp ks vs => cases r2
   | data n rows => exact r2
 ·have key : ∀ i, (getB s0 i).isSome = true → i < ids.length ∧ (getB s (ids.getD i 0)).isSome = true := fun i q => by
   obtain ⟨c, hc⟩ := Option.isSome_iff_exists.1 q
   exact ⟨by simpa using all_get ho.keys hc, by rw [hm0 _ (getB_mem hc)]; rfl⟩
  obtain ⟨k1, k2⟩ := key i q3
  obtain ⟨k3, k4⟩ := key j q4
  exact inj_ids ho.nd k1 k3 (h.sto.inj _ _ b q1 q2 k2 k4)
theorem Rel.calledW (h : Rel w0 L0 X m e s a w) {q : Nat} (hq0 : q ≠ 0) (hf : Fresh (fun i => decide (i / 100 = q)) e s) (ho : OkW ids s0 args r s1) (hm0 : ∀ x ∈ s0, getB s (ids.getD x.1 0) = some (x.2.ren (rho ids (100 * q))))
  {w' : World} {m' : Nat → Option Nat} {v : Value} (hx : Ext (Own (give ids m) s0) w w') (hr : VRel w' (Live (Others X m s ids) m' s1) m' r v) (hs : SRel w' (Others X m s ids) m' s1) (hn : ∀ b, Own m' s1 b → Own (give ids m) s0 b ∨ w.heap.size ≤ b)
  (hk : ∀ j, (getB s0 j).isSome = true → (getB s1 j).isSome = true → m' j = give ids m j) (dst : Option Nat) :
  Rel w0 L0 X (joinM m m' q) (Fw.put e dst (r.ren (rho ids (100 * q)))) (puts (dropS (lost ids s1) s) (renS (rho ids (100 * q)) s1)) (a.put dst v) w' := by
 have hsome : ∀ {i}, i ∈ ids → (getB s i).isSome = true := fun {i} hi => by
  obtain ⟨j, hj, rfl⟩ := of_ids hi
  obtain ⟨c, hc⟩ := Option.isSome_iff_exists.1 (ho.all j hj)
  rw [hm0 _ (getB_mem hc)]; rfl
 have hfq : ∀ {i}, (getB s i).isSome = true → i / 100 ≠ q := fun {i} hi => by
  obtain ⟨c, hc⟩ := Option.isSome_iff_exists.1 hi
  have := (hf.sto i c hc).1
  simpa using this
 have hm : ∀ i, (fun i => decide (i / 100 = q)) i = false → joinM m m' q i = m i := fun i hi => by
  have : i / 100 ≠ q := by simpa using hi
  simp [joinM, this]
 have hid : ∀ j, badId ids.length s1 j = false → joinM m m' q (rho ids (100 * q) j) = m' j := fun j hj => by
  simp only [badId, Bool.or_eq_false_iff, decide_eq_false_iff_not, Bool.and_eq_false_iff] at hj
  obtain ⟨h1, h2⟩ := hj
  by_cases hl : j < ids.length
  ·rw [rho_lt hl]
   have e1 := hfq (hsome (mem_ids hl))
   simp only [joinM, if_neg e1]
   have h3 : (getB s1 j).isSome = true := by
    rcases h2 with h2 | h2
    ·exact absurd hl h2
    ·cases hg : getB s1 j with
     | none => rw [hg] at h2; cases h2
     | some b => rfl
   exact (hk j (ho.all j hl) h3).symm
  ·rw [rho_ge hl]
   obtain ⟨e1, e2⟩ := sh_div (q := q) (show j < 100 by omega)
   simp only [joinM, if_pos e1, e2]
 have hgood : ∀ {j}, (getB s1 j).isSome = true → badId ids.length s1 j = false := fun {j} hj => by
  obtain ⟨c, hc⟩ := Option.isSome_iff_exists.1 hj
  have := (ho.outs hc).1
  simp only [badId, Bool.or_eq_false_iff, decide_eq_false_iff_not, Bool.and_eq_false_iff]
  exact ⟨by omega, .inr (by rw [hc]; rfl)⟩
 have hget : ∀ i blk, getB (puts (dropS (lost ids s1) s) (renS (rho ids (100 * q)) s1)) i = some blk → (∃ j b0, getB s1 j = some b0 ∧ rho ids (100 * q) j = i ∧ blk = b0.ren (rho ids (100 * q))) ∨ (getB s i = some blk ∧ i ∉ ids ∧ i / 100 ≠ q) := by
  intro i blk hg
  rw [getB_puts'] at hg
  split at hg
  ·rename_i b hb
   cases hg
   obtain ⟨j, b0, h1, h2, h3⟩ := getB_renS hb
   exact .inl ⟨j, b0, h1, h2, h3⟩
  ·rename_i hno
   rw [getB_dropS] at hg
   split at hg
   ·cases hg
   ·rename_i hl
    refine .inr ⟨hg, fun hmem => ?_, hfq (by rw [hg]; rfl)⟩
    obtain ⟨j, hj, rfl⟩ := of_ids hmem
    cases hg1 : getB s1 j with
    | none =>
      refine hl ?_
      simp only [lost, List.any_eq_true]
      exact ⟨j, List.mem_range.2 hj, by simp [hg1]⟩
    | some b =>
      have := renS_none hno (j := j) (by rw [hg1]; rfl)
      exact this (rho_lt hj)
 have hown : ∀ b, Own (joinM m m' q) (puts (dropS (lost ids s1) s) (renS (rho ids (100 * q)) s1)) b → Own m' s1 b ∨ ∃ id blk, getB s id = some blk ∧ m id = some b ∧ id ∉ ids := by
  rintro b ⟨i, blk, h1, h2⟩
  rcases hget i blk h1 with ⟨j, b0, g1, rfl, _⟩ | ⟨g1, g2, g3⟩
  ·rw [hid j (hgood (by rw [g1]; rfl))] at h2
   exact .inl ⟨j, b0, g1, h2⟩
  ·simp only [joinM, if_neg g3] at h2
   exact .inr ⟨i, blk, g1, h2, g2⟩
 have hL1 : ∀ b, Live X (joinM m m' q) (puts (dropS (lost ids s1) s) (renS (rho ids (100 * q)) s1)) b → Live (Others X m s ids) m' s1 b := by
  rintro b (hl | hl)
  ·exact .inl (.inl hl)
  ·rcases hown b hl with q | q
   ·exact .inr q
   ·exact .inl (.inr q)
 have hOm : ∀ b, Own (give ids m) s0 b → Own m s b := fun b => own_give' ho hm0
 have hL2 : ∀ b, Live X (joinM m m' q) (puts (dropS (lost ids s1) s) (renS (rho ids (100 * q)) s1)) b → Live X m s b ∨ w.heap.size ≤ b := by
  rintro b (hl | hl)
  ·exact .inl (.inl hl)
  ·rcases hown b hl with q | ⟨id, blk, g1, g2, _⟩
   ·exact (hn b q).imp (fun q => .inr (hOm b q)) id
   ·exact .inl (.inr ⟨id, blk, g1, g2⟩)
 have hck : CellsKept (Live X m s) w w' := fun a v hnl hc => by
  have hlt := World.block_lt_of_cell? w a hc
  have := hx.block a.block hlt (fun q => hnl (.inr (hOm _ q)))
  simpa [World.cell?, this] using hc
 have hsz : SizesKept w w' := hx.sizes
 have h1 : Rel w0 L0 X (joinM m m' q) e (puts (dropS (lost ids s1) s) (renS (rho ids (100 * q)) s1)) a w' := by
  refine ⟨⟨h.env.len, fun j x v q1 q2 => VRel.mono hck hsz hL2 hm (menL_at hf.env q1) (h.env.at_ j x v q1 q2)⟩, ⟨fun i blk hi => ?_, fun i j b q1 q2 q3 q4 => ?_⟩, h.dfr, ?_, fun b hl => ?_, h.old, fun i hi hsm => ?_⟩
  ·rcases hget i blk hi with ⟨j, b0, g1, rfl, rfl⟩ | ⟨g1, g2, g3⟩
   ·have ej := hid j (hgood (by rw [g1]; rfl))
    rcases hs.blk _ _ g1 with ⟨b, r1, r2⟩ | ⟨r1, sz, rfl⟩
    ·exact .inl ⟨b, ej.trans r1, BRel.ren hL1 hid (ho.outs g1).2 r2⟩
    ·exact .inr ⟨ej.trans r1, sz, rfl⟩
   ·have ej : joinM m m' q i = m i := by simp [joinM, g3]
    rcases h.sto.blk i blk g1 with ⟨b, r1, r2⟩ | ⟨r1, r2⟩
    ·refine .inl ⟨b, ej.trans r1, BRel.mono hck hsz hL2 hm (hx.block b r2.lt fun q => ?_) (hf.sto i blk g1).2 r2⟩
     obtain ⟨id', t1, t2, t3⟩ := own_give ho.keys hm0 q
     have := h.sto.inj i id' b r1 t3 (by rw [g1]; rfl) t2
     exact g2 (this ▸ t1)
    ·exact .inr ⟨ej.trans r1, r2⟩
  ·obtain ⟨c1, hc1⟩ := Option.isSome_iff_exists.1 q3
   obtain ⟨c2, hc2⟩ := Option.isSome_iff_exists.1 q4
   have clash : ∀ {i j : Nat} {b0 : Blk} {c : Blk}, getB s1 j = some b0 → m' j = some b → getB s i = some c → m i = some b → i ∉ ids → False := by
    intro i j b0 c t1 t2 t3 t4 t5
    rcases hn b ⟨j, b0, t1, t2⟩ with t | t
    ·obtain ⟨id', u1, u2, u3⟩ := own_give ho.keys hm0 t
     have := h.sto.inj i id' b t4 u3 (by rw [t3]; rfl) u2
     exact t5 (this ▸ u1)
    ·have := h.m_lt t3 t4; omega
   rcases hget i c1 hc1 with ⟨j1, b1, g1, rfl, _⟩ | ⟨g1, g2, g3⟩ <;> rcases hget j c2 hc2 with ⟨j2, b2, f1, rfl, _⟩ | ⟨f1, f2, f3⟩
   ·rw [hid j1 (hgood (by rw [g1]; rfl))] at q1
    rw [hid j2 (hgood (by rw [f1]; rfl))] at q2
    rw [hs.inj _ _ b q1 q2 (by rw [g1]; rfl) (by rw [f1]; rfl)]
   ·rw [hid j1 (hgood (by rw [g1]; rfl))] at q1
    simp only [joinM, if_neg f3] at q2
    exact (clash g1 q1 f1 q2 f2).elim
   ·rw [hid j2 (hgood (by rw [f1]; rfl))] at q2
    simp only [joinM, if_neg g3] at q1
    exact (clash f1 q2 g1 q1 g2).elim
   ·simp only [joinM, if_neg g3] at q1
    simp only [joinM, if_neg f3] at q2
    exact h.sto.inj i j b q1 q2 (by rw [g1]; rfl) (by rw [f1]; rfl)
  ·exact ⟨hx.os.trans h.ext.os, hx.tape.trans h.ext.tape, hx.output.trans h.ext.output, Nat.le_trans h.ext.size hx.size, fun b hb hl => by
    rw [hx.block b (Nat.lt_of_lt_of_le hb h.ext.size) (fun q => ?_)]
    ·exact h.ext.block b hb hl
    ·rcases h.liv b (hOm b q) with t | t
     ·exact hl t
     ·omega, fun b cs ty fr hb => by
    obtain ⟨c1, h1, h2⟩ := h.ext.sizes b cs ty fr hb
    obtain ⟨c2, h3, h4⟩ := hsz b c1 ty fr h1
    exact ⟨c2, h3, h4.trans h2⟩⟩
  ·rcases hown b hl with q | ⟨id, blk, g1, g2, _⟩
   ·rcases hn b q with q | q
    ·exact h.liv b (hOm b q)
    ·exact .inr (Nat.le_trans h.ext.size q)
   ·exact h.liv b ⟨id, blk, g1, g2⟩
  ·have e1 : i / 100 ≠ q := by omega
   obtain ⟨c, hc⟩ := Option.isSome_iff_exists.1 hsm
   simp only [joinM, if_neg e1]
   rcases hget i c hc with ⟨j, b0, g1, g2, _⟩ | ⟨g1, _⟩
   ·by_cases hl : j < ids.length
    ·rw [rho_lt hl] at g2
     exact h.par i hi (g2 ▸ hsome (mem_ids hl))
    ·rw [rho_ge hl] at g2; omega
   ·exact h.par i hi (by rw [g1]; rfl)
 exact h1.put dst (VRel.ren hL1 hid ho.res hr)
end
def Imp (P : Program) (o : Oper) (E E' : St) : Prop := ∃ g args ids s0 r s1, o.dst.isSome = true ∧ callOf o.op (look E.e) = some (g, V.renL (rho ids (newId o.dst)) args) ∧ (∀ x ∈ s0, getB E.s (ids.getD x.1 0) = some (x.2.ren (rho ids (newId o.dst)))) ∧
 okW ids s0 args r s1 = true ∧ SndW P g args s0 r s1 ∧ E' = ⟨put E.e o.dst (r.ren (rho ids (newId o.dst))), puts (dropS (lost ids s1) E.s) (renS (rho ids (newId o.dst)) s1)⟩
def DoI (P : Program) (im : Op → Bool) (o : Oper) (E E' : St) : Prop := match cls o.op, im o.op with
 | .c, true => Imp P o E E'
 | _, _ => Do P o E E'
def Stp (P : Program) (im : Op → Bool) (all : List Oper) (o : Oper) (E E' : St) : Prop := match guardOf all E.e o.guard with
 | none => False
 | some none => DoI P im o E E'
 | some (some (_, want, b)) => (b = want → DoI P im o E E') ∧ (b = !want → E' = ⟨put E.e o.dst vundef, E.s⟩)
theorem doI_do {im : Op → Bool} {o : Oper} (h : im o.op = true → cls o.op ≠ .c) {E E' : St} : DoI P im o E E' ↔ Do P o E E' := by
 unfold DoI
 cases hc : cls o.op <;> cases hi : im o.op <;> simp only
 exact absurd hc (h hi)
end Go.Fw
end
section
namespace Go.Fw
variable {P : Program}
section
variable {w0 : World} {L0 : Par} {X : Nat → Prop} {m : Nat → Option Nat} {a : Act} {w : World}
theorem upon_value {o : Oper} {K : Act → World → Prop} {Q : Exit → Act → World → Prop} {q : Value} {w' : World} (hr : (execOp a.eval o).run P w = .ok (.value q) w') (hK : K (a.put o.dst q) w') : o.wp P a w K Q := by
 unfold Oper.wp; rw [hr]; exact hK
theorem upon_skip {o : Oper} {K : Act → World → Prop} {Q : Exit → Act → World → Prop} {w' : World} (hr : (execOp a.eval o).run P w = .ok .skip w') (hK : K (a.put o.dst undef) w') : o.wp P a w K Q := by
 unfold Oper.wp; rw [hr]; exact hK
theorem call_run {g : FuncId} {o : Oper} {cl : Call} {fo : Operand} (ho : o.op = .call cl) (hc : cl.callee = .value fo) {caps : Array Value} (hf : a.eval fo = .func (.func g) #[] caps) (hg : goFn P g = true) :
  (execOp a.eval o).run P w = .ok (.enter g (cl.args.map a.eval ++ caps)) w := by
 unfold goFn at hg
 split at hg
 ·rename_i fn hfn
  simp only [Bool.and_eq_true] at hg
  obtain ⟨h1, h2⟩ := hg
  have h3 : fn.body ≠ none := fun e => by rw [e] at h2; cases h2
  have h4 : fn.name ≠ "runtime.NumGoroutine" := by simpa using h1
  simp [execOp, ho, resolve, hc, hf, Deferred.ofValue, invoke, callFunc, hfn]
  rw [if_neg h4, if_neg h3]
 ·cases hg
theorem callOf_inv {op : Op} {ρ : Operand → V} {g : FuncId} {args : List V} (h : callOf op ρ = some (g, args)) : ∃ cl fo capt, op = .call cl ∧ cl.callee = .value fo ∧ ρ fo = .fn g capt ∧ args = cl.args.toList.map ρ ++ capt := by
 cases op <;> simp only [callOf] at h <;> try (cases h; done)
 rename_i cl
 split at h
 ·rename_i fo hfo
  split at h
  ·rename_i g' capt hv
   cases h
   exact ⟨cl, fo, capt, rfl, hfo, hv, rfl⟩
  ·cases h
 ·cases h
theorem do_wp {E E' : St} (h : Rel w0 L0 X m E.e E.s a w) {o : Oper} (hf : makes o = true → Fresh (mine o) E.e E.s) (hd : Do P o E E') {K : Act → World → Prop} {Q : Exit → Act → World → Prop} (hK : ∀ m' a' w', Rel w0 L0 X m' E'.e E'.s a' w' → K a' w') : o.wp P a w K Q := by
 have idf : ∀ {dst : Option Nat} {q : Nat}, newId dst = 100 * q → Fresh (fun i => decide (i / 100 = newId dst / 100)) E.e E.s → Fresh (fun i => decide (i / 100 = q)) E.e E.s := fun {dst q} e hf => by
  rw [e] at hf
  simpa using hf
 unfold Do at hd
 cases hcl : cls o.op <;> rw [hcl] at hd <;> simp only at hd
 ·-- p
  obtain ⟨v, s', hl, rfl⟩ := hd
  unfold Loc at hl
  rw [hcl] at hl
  obtain ⟨c, h1, hc, rfl⟩ := hl
  obtain ⟨q, h2, h3⟩ := opP_run (P := P) (w := w) h.look h1 hc
  exact upon_value h2 (hK m _ _ (h.put o.dst h3))
 ·-- r
  obtain ⟨v, s', hl, rfl⟩ := hd
  unfold Loc at hl
  rw [hcl] at hl
  obtain ⟨c, h1, hc, rfl⟩ := hl
  obtain ⟨q, h2, h3⟩ := opR_run (P := P) h.sto h.look h1 hcl hc
  exact upon_value h2 (hK m _ _ (h.put o.dst h3))
 ·-- a
  obtain ⟨v, s', hl, rfl⟩ := hd
  unfold Loc at hl
  rw [hcl] at hl
  obtain ⟨c, blk, hds, h1, hc, rfl⟩ := hl
  have hfr := hf (by simp [makes, hcl])
  have hf1 : Fresh (· == newId o.dst) E.e E.s := hfr.sub fun i hi => by
   have : i / 100 ≠ newId o.dst / 100 := by simpa [mine] using hi
   simp; intro e; exact this (by rw [e])
  have hid : getB E.s (newId o.dst) = none := by
   cases hg : getB E.s (newId o.dst) with
   | none => rfl
   | some b => have := (hf1.sto _ b hg).1; simp at this
  obtain ⟨q, w', h2, h3⟩ := opA_run h (newId_ge _) hf1 hid h1 hc
  exact upon_value h2 (hK _ _ _ h3)
 ·-- w
  obtain ⟨c, s', h1, hc, rfl⟩ := hd
  obtain ⟨w', h2, h3⟩ := opW_run h h1 hc
  exact upon_skip h2 (hK _ _ _ h3)
 ·-- x
  obtain ⟨cl, ho, hcal, k, c, sz, n, blk, ⟨all, h1, rfl, rfl⟩ | ⟨all, h1, rfl⟩, hc, rfl⟩ := hd
  ·obtain ⟨q, w', m', h2, h3⟩ := append_run h ho hcal h1 hc (newId o.dst) (newId_ge _)
   exact upon_value h2 (hK _ _ _ h3)
  ·obtain ⟨q, w', m', h2, h3⟩ := append_runV h ho hcal h1 hc (newId o.dst) (newId_ge _)
   exact upon_value h2 (hK _ _ _ h3)
 ·-- c
  obtain ⟨v, s', hl, rfl⟩ := hd
  unfold Loc at hl
  rw [hcl] at hl
  obtain ⟨g, args1, args, r, τ, hds, hco, hfz, hpure, ⟨hg, hsnd⟩, hok, rfl, rfl⟩ := hl
  obtain ⟨cl, fo, capt, ho, hcal, hfo, rfl⟩ := callOf_inv hco
  have hfv := h.look fo
  rw [hfo] at hfv
  generalize hev : a.eval fo = u at hfv
  cases hfv with
  | fn _ _ vs hl hr =>
    have hrun := call_run (P := P) (w := w) ho hcal hev hg
    have hargs : All2 (VRel w (Live X m E.s) m) (cl.args.toList.map (look E.e) ++ capt) ((cl.args.map a.eval).toList ++ vs) := (All2.arr h.look cl.args).append ⟨hl, hr⟩
    unfold Oper.wp
    rw [hrun]
    simp only [Oper.upon]
    have ea : ((cl.args.map a.eval).toList ++ vs).toArray = cl.args.map a.eval ++ vs.toArray := by simp
    rw [← ea]
    obtain ⟨q, hq0, hq⟩ := newId_some hds
    have hfr := idf hq (hf (by simp [makes, hcl]))
    rcases hfz with rfl | ⟨rfl, y, rfl, rfl⟩
    ·have hcalls := hsnd w (Live X m E.s) _ (fun b hb => h.live_lt hb) (pure_rel hpure hargs)
     refine hcalls.mono fun x w' hx => ?_
     obtain ⟨v, m', rfl, hx1, hx2, hx3, hx4⟩ := hx
     simp only
     have := h.called hq0 hfr hx1 hx2 hx3 hx4 hok o.dst
     rw [← hq] at this
     exact hK _ _ _ this
    ·have hargs2 : All2 (VRel w (Live X (finM [] m) (finS [] E.s [] 0)) (finM [] m)) (V.finL [] E.s (cl.args.toList.map (look E.e) ++ capt)) ((cl.args.map a.eval).toList ++ vs) :=
      ⟨hargs.len.trans (finL_len _ _ _).symm, fun j x v h1 h2 => by
       rw [finL_at] at h1
       obtain ⟨z, hz, rfl⟩ := Option.map_eq_some_iff.1 h1
       exact fin_rel h (hargs.at_ j z v hz h2)⟩
     have hcalls := hsnd w (Live X (finM [] m) (finS [] E.s [] 0)) _ (fun b hb => h.live_lt (live_fin hb)) (pure_rel hpure hargs2)
     refine hcalls.mono fun x w' hx => ?_
     obtain ⟨v, m', rfl, hx1, hx2, hx3, hx4⟩ := hx
     simp only
     have hv : VRel w' (Live (Live X m E.s) m' []) m' (.d (.lit y)) v := by
      cases hx2 with
      | d hd => cases hd with
        | lit _ ho => exact .d (.lit _ ho)
     have := h.called hq0 hfr hx1 hv ⟨fun i blk hi => (by cases hi), fun i j b _ _ h3 => (by cases h3)⟩ hx4 hok o.dst
     rw [← hq] at this
     exact hK _ _ _ this
theorem doI_wp {im : Op → Bool} {E E' : St} (h : Rel w0 L0 X m E.e E.s a w) {o : Oper} (hf : makes o = true → Fresh (mine o) E.e E.s) (hd : DoI P im o E E') {K : Act → World → Prop} {Q : Exit → Act → World → Prop} (hK : ∀ m' a' w', Rel w0 L0 X m' E'.e E'.s a' w' → K a' w') : o.wp P a w K Q := by
 by_cases hi : im o.op = true → cls o.op ≠ .c
 ·exact do_wp h hf ((doI_do hi).1 hd) hK
 ·have him : im o.op = true := by
   cases q : im o.op with
   | true => rfl
   | false => exact absurd (fun h => by rw [q] at h; cases h) hi
  have hcl : cls o.op = .c := by
   cases hc : cls o.op <;> first | rfl | exact absurd (fun _ e => by cases hc.symm.trans e) hi
  unfold DoI at hd
  rw [hcl, him] at hd
  obtain ⟨g, args, ids, s0, r, s1, hds, hco, hm0, hok, ⟨hg, hsnd⟩, rfl⟩ := hd
  have ok := okW_iff hok
  obtain ⟨cl, fo, capt, ho, hcal, hfo, hargs0⟩ := callOf_inv hco
  obtain ⟨q, hq0, hq⟩ := newId_some hds
  have hfv := h.look fo
  rw [hfo] at hfv
  generalize hev : a.eval fo = u at hfv
  cases hfv with
  | fn _ _ vs hl hr =>
    have hrun := call_run (P := P) (w := w) ho hcal hev hg
    have hargs : All2 (VRel w (Live X m E.s) m) (V.renL (rho ids (newId o.dst)) args) ((cl.args.map a.eval).toList ++ vs) := by
     rw [hargs0]; exact (All2.arr h.look cl.args).append ⟨hl, hr⟩
    obtain ⟨g1, g2, g3⟩ := h.given ok hm0 hargs
    have hcalls := hsnd w (Others X m E.s ids) _ _ g1 g2 g3
    unfold Oper.wp
    rw [hrun]
    simp only [Oper.upon]
    have ea : ((cl.args.map a.eval).toList ++ vs).toArray = cl.args.map a.eval ++ vs.toArray := by simp
    rw [← ea]
    refine hcalls.mono fun x w' hx => ?_
    obtain ⟨v, m', rfl, hx1, hx2, hx3, hx4, hx5⟩ := hx
    have hfr : Fresh (fun i => decide (i / 100 = q)) E.e E.s := (hf (by simp [makes, hcl])).sub fun i hi => by
     simp only [mine, hq, decide_eq_false_iff_not] at hi ⊢
     omega
    simp only
    rw [hq] at hm0
    have := h.calledW hq0 hfr ok hm0 hx1 hx2 hx3 hx4 hx5 o.dst
    rw [← hq] at this
    exact hK _ _ _ this
end
end Go.Fw
end
section
namespace Go.Fw
variable {P : Program}
def shiftS (k : Nat) (τ : Store) : Store := τ.map fun (i, b) => (k + i, b.shift k)
theorem addS_puts (s : Store) (k : Nat) (τ : Store) : addS s k τ = puts s (shiftS k τ) := by
 induction τ with
 | nil => rfl
 | cons x r ih => obtain ⟨i, b⟩ := x; simp [addS, shiftS, puts, ih]
theorem putB_comm {i j : Nat} (h : i ≠ j) (b c : Blk) (s : Store) : putB (putB s i b) j c = putB (putB s j c) i b := by
 induction s with
 | nil =>
   simp only [putB, h, Ne.symm h, if_false]
   split <;> split <;> first | rfl | omega
 | cons x r ih =>
   obtain ⟨k, d⟩ := x
   simp only [putB]
   by_cases e1 : k = i
   ·subst e1
    simp only [if_true, if_neg h, putB]
    by_cases e2 : j < k
    ·simp [e2, putB, Ne.symm h, show ¬ k < j by omega]
    ·simp [e2, putB, h]
   ·by_cases e2 : k = j
    ·subst e2
     simp only [if_true, if_neg e1, putB]
     by_cases e3 : i < k
     ·simp [e3, putB, h, show ¬ k < i by omega]
     ·simp [e3, putB, e1]
    ·simp only [if_neg e1, if_neg e2]
     by_cases a1 : i < k <;> by_cases a2 : j < k <;> simp only [a1, a2, if_true, if_false, putB, h, Ne.symm h, e1, e2]
     ·by_cases a3 : j < i
      ·simp [a3, show ¬ i < j by omega]
      ·simp [a3, show i < j by omega]
     ·simp [show ¬ j < i by omega]
     ·simp [show ¬ i < j by omega]
     ·rw [ih]
theorem puts_put {i : Nat} (b : Blk) (s t : Store) (h : ∀ x ∈ t, x.1 ≠ i) : puts (putB s i b) t = putB (puts s t) i b := by
 induction t with
 | nil => rfl
 | cons x r ih =>
   obtain ⟨k, d⟩ := x
   simp only [puts]
   rw [ih fun x hx => h x (by simp [hx]), putB_comm (Ne.symm (h (k, d) (by simp)))]
theorem puts_comm (s t u : Store) (h : ∀ x ∈ t, ∀ y ∈ u, x.1 ≠ y.1) : puts (puts s t) u = puts (puts s u) t := by
 induction t with
 | nil => rfl
 | cons x r ih =>
   obtain ⟨k, d⟩ := x
   simp only [puts]
   rw [puts_put _ _ _ fun y hy => Ne.symm (h (k, d) (by simp) y hy), ih fun x hx y hy => h x (by simp [hx]) y hy]
theorem getB_puts (s t : Store) (i : Nat) (h : ∀ x ∈ t, x.1 ≠ i) : getB (puts s t) i = getB s i := by
 induction t with
 | nil => rfl
 | cons x r ih =>
   obtain ⟨k, d⟩ := x
   simp only [puts, getB_putB]
   rw [if_neg (Ne.symm (h (k, d) (by simp))), ih fun x hx => h x (by simp [hx])]
def LocX (P : Program) (o : Oper) (ρ : Operand → V) (s : Store) (v : V) (ext : Store) : Prop := match cls o.op with
 | .p => ∃ c, opP P o.op ρ = some (c, v) ∧ c ∧ ext = []
 | .r => ∃ c, opR P o.op ρ s = some (c, v) ∧ c ∧ ext = []
 | .a => ∃ c blk, o.dst.isSome = true ∧ opA P o.op ρ (newId o.dst) = some (c, v, blk) ∧ c ∧ ext = [(newId o.dst, blk)]
 | .c => ∃ g args1 args r τ, o.dst.isSome = true ∧ callOf o.op ρ = some (g, args1) ∧ (args = args1 ∨ (args = V.finL [] s args1 ∧ ∃ x, r = .d (.lit x) ∧ τ = [])) ∧ V.menL (fun _ => true) args = false ∧ Snd P g args r τ ∧ okIds r τ = true ∧ v = r.shift (newId o.dst) ∧ ext = shiftS (newId o.dst) τ
 | .w => ∃ c s', opW P o.op ρ s = some (c, s') ∧ c ∧ v = vundef ∧ ∃ id blk, s' = putB s id blk ∧ ext = [(id, blk)]
 | .x => False
def LocG (P : Program) (all : List Oper) (o : Oper) (e : Env) (s : Store) (v : V) (ext : Store) : Prop := match guardOf all e o.guard with
 | none => False
 | some none => LocX P o (look e) s v ext
 | some (some (_, want, b)) => (b = want → LocX P o (look e) s v ext) ∧ (b = !want → v = vundef ∧ ext = [])
theorem updV_put {t : TypeId} {x k y : V} {s s' : Store} {c : Prop} (h : updV P t x k y s = some (c, s')) : ∃ id ks vs ks' vs', getB s id = some (.mp ks vs) ∧ x = .mp id ∧ s' = putB s id (.mp ks' vs') ∧ ∀ v ∈ vs', v ∈ vs ∨ v = y := by
 unfold updV at h
 split at h
 ·split at h
  ·split at h
   ·rename_i hg
    split at h
    ·cases h; exact ⟨_, _, _, _, _, hg, rfl, rfl, fun v hv => List.mem_or_eq_of_mem_set hv⟩
    ·cases h; exact ⟨_, _, _, _, _, hg, rfl, rfl, fun v hv => by simpa using hv⟩
    ·cases h
   ·cases h
  ·cases h
 ·cases h
theorem opW_put {op : Op} {ρ : Operand → V} {s s' : Store} {c : Prop} (h : opW P op ρ s = some (c, s')) : ∃ id blk, s' = putB s id blk := by
 unfold opW at h
 split at h <;> try (cases h; done)
 ·split at h
  ·split at h
   ·split at h
    ·split at h
     ·cases h; exact ⟨_, _, rfl⟩
     ·cases h
    ·split at h
     ·split at h
      ·cases h; exact ⟨_, _, rfl⟩
      ·cases h
     ·cases h
    ·cases h
   ·cases h
  ·cases h
 ·obtain ⟨id, _, _, ks', vs', _, _, h, _⟩ := updV_put h; exact ⟨id, _, h⟩
 ·obtain ⟨id, _, _, ks', vs', _, _, h, _⟩ := updV_put h; exact ⟨id, _, h⟩
theorem locX_of {o : Oper} (hx : cls o.op ≠ .x) {E E' : St} : Do P o E E' ↔ ∃ v ext, LocX P o (look E.e) E.s v ext ∧ E' = ⟨put E.e o.dst v, puts E.s ext⟩ := by
 unfold Do LocX Loc
 cases hc : cls o.op <;> simp only
 ·constructor
  ·rintro ⟨v, s', ⟨c, h1, h2, rfl⟩, rfl⟩; exact ⟨v, [], ⟨c, h1, h2, rfl⟩, rfl⟩
  ·rintro ⟨v, ext, ⟨c, h1, h2, rfl⟩, rfl⟩; exact ⟨v, _, ⟨c, h1, h2, rfl⟩, rfl⟩
 ·constructor
  ·rintro ⟨v, s', ⟨c, h1, h2, rfl⟩, rfl⟩; exact ⟨v, [], ⟨c, h1, h2, rfl⟩, rfl⟩
  ·rintro ⟨v, ext, ⟨c, h1, h2, rfl⟩, rfl⟩; exact ⟨v, _, ⟨c, h1, h2, rfl⟩, rfl⟩
 ·constructor
  ·rintro ⟨v, s', ⟨c, blk, h0, h1, h2, rfl⟩, rfl⟩; exact ⟨v, _, ⟨c, blk, h0, h1, h2, rfl⟩, rfl⟩
  ·rintro ⟨v, ext, ⟨c, blk, h0, h1, h2, rfl⟩, rfl⟩; exact ⟨v, _, ⟨c, blk, h0, h1, h2, rfl⟩, rfl⟩
 ·constructor
  ·rintro ⟨c, s', h1, h2, rfl⟩
   obtain ⟨id, blk, rfl⟩ := opW_put h1
   exact ⟨vundef, [(id, blk)], ⟨c, _, h1, h2, rfl, id, blk, rfl, rfl⟩, rfl⟩
  ·rintro ⟨v, ext, ⟨c, s', h1, h2, rfl, id, blk, rfl, rfl⟩, rfl⟩; exact ⟨c, _, h1, h2, rfl⟩
 ·exact absurd hc hx
 ·constructor
  ·rintro ⟨v, s', ⟨g, args1, args, r, τ, h0, h1, h1b, h2, h3, h4, rfl, rfl⟩, rfl⟩; exact ⟨_, _, ⟨g, args1, args, r, τ, h0, h1, h1b, h2, h3, h4, rfl, rfl⟩, by rw [addS_puts]⟩
  ·rintro ⟨v, ext, ⟨g, args1, args, r, τ, h0, h1, h1b, h2, h3, h4, rfl, rfl⟩, rfl⟩; exact ⟨_, _, ⟨g, args1, args, r, τ, h0, h1, h1b, h2, h3, h4, rfl, rfl⟩, by rw [addS_puts]⟩
theorem bool_or (b want : Bool) : b = want ∨ b = !want := by cases b <;> cases want <;> simp
theorem locG_of {im : Op → Bool} {all : List Oper} {o : Oper} (hx : cls o.op ≠ .x) (hi : im o.op = true → cls o.op ≠ .c) {E E' : St} : Stp P im all o E E' ↔ ∃ v ext, LocG P all o E.e E.s v ext ∧ E' = ⟨put E.e o.dst v, puts E.s ext⟩ := by
 unfold Stp LocG
 simp only [doI_do hi]
 cases hg : guardOf all E.e o.guard with
 | none => simp
 | some g =>
   cases g with
   | none => exact locX_of hx
   | some q =>
     obtain ⟨k, want, b⟩ := q
     simp only
     rcases bool_or b want with hb | hb
     ·have hne : ¬ (b = !want) := by subst hb; cases b <;> simp
      simp only [hb, true_implies, show ¬ (want = !want) by cases want <;> simp, false_implies, and_true]
      exact locX_of hx
     ·have hne : ¬ (b = want) := by subst hb; cases want <;> simp
      simp only [hb, true_implies, show ¬ ((!want) = want) by cases want <;> simp, false_implies, true_and]
      constructor
      ·rintro rfl; exact ⟨vundef, [], ⟨rfl, rfl⟩, rfl⟩
      ·rintro ⟨v, ext, ⟨rfl, rfl⟩, rfl⟩; rfl
theorem locX_congr {o : Oper} {ρ ρ' : Operand → V} (h : ∀ x ∈ o.op.operands, ρ x = ρ' x) {s : Store} {v : V} {ext : Store} : LocX P o ρ s v ext ↔ LocX P o ρ' s v ext := by
 unfold LocX
 rw [opP_congr h, opR_congr h, opA_congr h, opW_congr h, callOf_congr h]
def looks (all : List Oper) (o : Oper) (k : Nat) : Bool := (o.op.operands.toList.any fun x => match x with | .tmp t => t == k | _ => false) || (match o.guard with | some (g, _) => ((all[g]?).bind (·.dst)) == some k | none => false)
theorem guardOf_congr {all : List Oper} {o : Oper} {e e' : Env} (h : ∀ k, looks all o k = true → e'.getD k .top = e.getD k .top) : guardOf all e' o.guard = guardOf all e o.guard := by
 unfold guardOf
 cases hg : o.guard with
 | none => rfl
 | some q =>
   obtain ⟨j, want⟩ := q
   simp only
   cases ha : all[j]? with
   | none => rfl
   | some g =>
     simp only
     cases hd : g.dst with
     | none => rfl
     | some k =>
       simp only
       rw [h k (by simp [looks, hg, ha, hd])]
theorem locG_congr {all : List Oper} {o : Oper} {e e' : Env} (h : ∀ k, looks all o k = true → e'.getD k .top = e.getD k .top) {s : Store} {v : V} {ext : Store} : LocG P all o e' s v ext ↔ LocG P all o e s v ext := by
 have hl : ∀ x ∈ o.op.operands, look e' x = look e x := fun x hx => by
  cases x with
  | tmp t => exact h t (by simp only [looks, Bool.or_eq_true, List.any_eq_true]; exact .inl ⟨.tmp t, by simpa using hx, by simp⟩)
  | const v => rfl
  | global g => rfl
  | func f => rfl
 unfold LocG
 rw [guardOf_congr h, locX_congr hl]
theorem callOf_men {op : Op} {ρ : Operand → V} {p : Nat → Bool} (hρ : ∀ x, (ρ x).men p = false) {g : FuncId} {args : List V} (h : callOf op ρ = some (g, args)) : V.menL p args = false := by
 obtain ⟨cl, fo, capt, ho, hcal, hfo, rfl⟩ := callOf_inv h
 have h1 : V.menL p capt = false := by
  have := hρ fo
  rw [hfo] at this
  simpa [V.men] using this
 exact menL_of fun j x hj => by
  rw [List.getElem?_append] at hj
  split at hj
  ·rw [List.getElem?_map] at hj
   obtain ⟨z, _, rfl⟩ := Option.map_eq_some_iff.1 hj
   exact hρ z
  ·exact menL_at h1 hj
theorem locX_grow {o : Oper} {p : Nat → Bool} {ρ : Operand → V} {s s' : Store} {v : V} {ext : Store} (hw : cls o.op ≠ .w) (hρ : ∀ x, (ρ x).men p = false) (hs : ∀ i, p i = false → getB s' i = getB s i) (h : LocX P o ρ s v ext) : LocX P o ρ s' v ext := by
 unfold LocX at h ⊢
 cases hc : cls o.op <;> rw [hc] at h <;> simp only at h ⊢
 ·exact h
 ·obtain ⟨c, h1, h2, h3⟩ := h; exact ⟨c, opR_grow hρ hs h1, h2, h3⟩
 ·exact h
 ·exact absurd hc hw
 ·obtain ⟨g, args1, args, r, τ, h0, h1, h1b, h2⟩ := h
  refine ⟨g, args1, args, r, τ, h0, h1, ?_, h2⟩
  rcases h1b with h1b | ⟨h1b, h3⟩
  ·exact .inl h1b
  ·exact .inr ⟨h1b.trans (frzL_grow hs _ (callOf_men hρ h1)).symm, h3⟩
theorem locG_grow {all : List Oper} {o : Oper} {p : Nat → Bool} {e : Env} {s s' : Store} {v : V} {ext : Store} (hw : cls o.op ≠ .w) (hρ : V.menL p e = false) (hs : ∀ i, p i = false → getB s' i = getB s i) (h : LocG P all o e s v ext) : LocG P all o e s' v ext := by
 unfold LocG at h ⊢
 cases hg : guardOf all e o.guard with
 | none => rw [hg] at h; exact h
 | some g =>
   rw [hg] at h
   cases g with
   | none => exact locX_grow hw (look_men hρ) hs h
   | some q => exact ⟨fun hb => locX_grow hw (look_men hρ) hs (h.1 hb), h.2⟩
theorem locX_any {o : Oper} {ρ : Operand → V} {s s' : Store} {v : V} {ext : Store} (hp : cls o.op = .p) (h : LocX P o ρ s v ext) : LocX P o ρ s' v ext := by
 unfold LocX at h ⊢; rw [hp] at h ⊢; exact h
theorem locG_any {all : List Oper} {o : Oper} {e : Env} {s s' : Store} {v : V} {ext : Store} (hp : cls o.op = .p) (h : LocG P all o e s v ext) : LocG P all o e s' v ext := by
 unfold LocG at h ⊢
 cases hg : guardOf all e o.guard with
 | none => rw [hg] at h; exact h
 | some g =>
   rw [hg] at h
   cases g with
   | none => exact locX_any hp h
   | some q => exact ⟨fun hb => locX_any hp (h.1 hb), h.2⟩
theorem locX_ext {o : Oper} {ρ : Operand → V} {s : Store} {v : V} {ext : Store} (hw : cls o.op ≠ .w) (h : LocX P o ρ s v ext) : ∀ x ∈ ext, makes o = true ∧ mine o x.1 = true := by
 unfold LocX at h
 intro x hx
 cases hc : cls o.op <;> rw [hc] at h <;> simp only at h
 ·obtain ⟨c, h1, h2, rfl⟩ := h; cases hx
 ·obtain ⟨c, h1, h2, rfl⟩ := h; cases hx
 ·obtain ⟨c, blk, h0, h1, h2, rfl⟩ := h
  simp at hx
  subst hx
  exact ⟨by simp [makes, hc], by simp [mine]⟩
 ·exact absurd hc hw
 ·obtain ⟨g, args1, args, r, τ, h0, h1, h1b, h2, h3, h4, rfl, rfl⟩ := h
  obtain ⟨q, _, hq⟩ := newId_some h0
  simp only [shiftS, List.mem_map] at hx
  obtain ⟨⟨i, b⟩, hi, rfl⟩ := hx
  refine ⟨by simp [makes, hc], ?_⟩
  have : i < 100 := by
   simp only [okIds, Bool.and_eq_true] at h4
   have : ∀ {τ : Store}, okT τ = true → (i, b) ∈ τ → i < 100 := by
    intro τ
    induction τ with
    | nil => intro _ h; cases h
    | cons y r ih =>
      obtain ⟨j, c⟩ := y
      intro h hm
      simp only [okT, Bool.and_eq_true] at h
      rcases List.mem_cons.1 hm with e | hm
      ·cases e; have := h.1.1; simp [big] at this; omega
      ·exact ih h.2 hm
   exact this h4.2 hi
  simp only [mine, hq, decide_eq_true_eq]
  omega
theorem locG_ext {all : List Oper} {o : Oper} {e : Env} {s : Store} {v : V} {ext : Store} (hw : cls o.op ≠ .w) (h : LocG P all o e s v ext) : ∀ x ∈ ext, makes o = true ∧ mine o x.1 = true := by
 unfold LocG at h
 cases hg : guardOf all e o.guard with
 | none => rw [hg] at h; exact h.elim
 | some g =>
   rw [hg] at h
   cases g with
   | none => exact locX_ext hw h
   | some q =>
     obtain ⟨k, want, b⟩ := q
     rcases bool_or b want with hb | hb
     ·exact locX_ext hw (h.1 hb)
     ·intro x hx; rw [(h.2 hb).2] at hx; cases hx
def apart (all : List Oper) (x y : Oper) : Bool := (match x.dst with | some d => !looks all y d && y.dst != some d | none => true) && (match y.dst with | some d => !looks all x d | none => true)
def quiet (im : Op → Bool) (o : Oper) : Bool := match cls o.op with | .w | .x => false | .c => !im o.op | _ => true
def isAddr (o : Oper) : Bool := (match o.op with | .nilCheck _ | .fieldAddr _ _ _ => true | _ => false) && o.guard.isNone
def isLoad (o : Oper) : Bool := (match o.op with | .load _ _ => true | _ => false) && o.guard.isNone
def isUpd (o : Oper) : Bool := (match o.op with | .mapUpdate _ _ _ _ => true | _ => false) && o.guard.isNone
def isMove (o : Oper) : Bool := (match o.op with | .move _ => true | _ => false) && o.guard.isNone
def comm (im : Op → Bool) (all : List Oper) (x y : Oper) : Bool := apart all x y && ((quiet im x && quiet im y) || (cls x.op == .p && cls y.op == .w) || (cls x.op == .w && cls y.op == .p) || (cls x.op == .x && x.guard.isNone && isAddr y) || (isMove x && (cls y.op == .x && y.guard.isNone)) || (isLoad x && isUpd y) || (isUpd x && isLoad y))
theorem put_getD {e : Env} {d : Option Nat} {v : V} {k : Nat} (h : d ≠ some k) : (put e d v).getD k .top = e.getD k .top := by
 cases d with
 | none => rfl
 | some j =>
   simp only [put, List.getD_eq_getElem?_getD]
   rw [List.getElem?_set_ne (fun e => h (by rw [e]))]
theorem put_comm {e : Env} {d d' : Option Nat} {v v' : V} (h : ∀ k, d = some k → d' ≠ some k) : put (put e d v) d' v' = put (put e d' v') d v := by
 cases d with
 | none => rfl
 | some k =>
   cases d' with
   | none => rfl
   | some k' =>
     simp only [put]
     exact List.set_comm _ _ (fun e => h k rfl (by rw [e]))
theorem look_fgt {p : Nat → Bool} {e : Env} {d : Option Nat} {v : V} {x : Operand} (hx : ∀ t, x = .tmp t → d ≠ some t) : look (put (V.fgtL p e) d v) x = (look e x).fgt p := by
 cases x with
 | tmp t =>
   have h : (put (V.fgtL p e) d v).getD t .top = (V.fgtL p e).getD t .top := put_getD (hx t rfl)
   show (put (V.fgtL p e) d v).getD t .top = (e.getD t .top).fgt p
   rw [h, List.getD_eq_getElem?_getD, List.getD_eq_getElem?_getD, fgtL_at]
   cases e[t]? <;> rfl
 | const v => cases v <;> simp only [look, litV] <;> first | rfl | (split <;> rfl)
 | func f => rfl
 | global g => rfl
theorem addr_fgt {p : Nat → Bool} {o : Oper} (ho : isAddr o = true) {ρ ρ' : Operand → V} (h : ∀ x ∈ o.op.operands, ρ' x = (ρ x).fgt p) {c : Prop} {r : V} (hr : opP P o.op ρ' = some (c, r)) : ∃ r0, opP P o.op ρ = some (c, r0) ∧ r0.fgt p = r := by
 obtain ⟨dst, op, ty, pos, after, guard⟩ := o
 simp only [isAddr, Bool.and_eq_true] at ho
 simp only at hr h ⊢
 cases op <;> (try (have hq := ho.1; simp at hq; done))
 ·rename_i x
  have hx := h x (by simp [Op.operands])
  simp only [opP] at hr ⊢
  rw [hx] at hr
  clear hx h ho
  generalize ρ x = u at hr ⊢
  cases u with
  | pt id sz r' c' =>
    simp only [V.fgt] at hr
    by_cases q : p id = true
    ·rw [if_pos q] at hr; cases hr
    ·rw [if_neg q] at hr; cases hr; exact ⟨_, rfl, by simp [V.fgt, q]⟩
  | d y => cases y <;> simp only [V.fgt] at hr <;> first | (cases hr; done) | (cases hr; exact ⟨_, rfl, rfl⟩)
  | fn f capt => simp only [V.fgt] at hr; cases hr; exact ⟨_, rfl, rfl⟩
  | rs id sz off len =>
    simp only [V.fgt] at hr
    by_cases q : p id = true
    ·rw [if_pos q] at hr; cases hr
    ·rw [if_neg q] at hr; cases hr
  | mp id =>
    simp only [V.fgt] at hr
    by_cases q : p id = true
    ·rw [if_pos q] at hr; cases hr
    ·rw [if_neg q] at hr; cases hr
  | top => cases hr
  | ag cells => cases hr
  | tup vs => cases hr
 ·rename_i t x f
  have hx := h x (by simp [Op.operands])
  simp only [opP] at hr ⊢
  rw [hx] at hr
  clear hx h ho
  generalize ρ x = u at hr ⊢
  split at hr
  ·rename_i off ft hf
   split at hr
   ·cases hr
   ·rename_i hz
    simp only [hf, if_neg hz]
    cases u with
    | pt id sz r' c' =>
      simp only [V.fgt] at hr
      by_cases q : p id = true
      ·rw [if_pos q] at hr; cases hr
      ·rw [if_neg q] at hr; cases hr; exact ⟨_, rfl, by simp [V.fgt, q]⟩
    | d y => cases y <;> simp only [V.fgt] at hr <;> first | (cases hr; done) | (cases hr; exact ⟨_, rfl, rfl⟩)
    | rs id sz off' len =>
      simp only [V.fgt] at hr
      by_cases q : p id = true
      ·rw [if_pos q] at hr; cases hr
      ·rw [if_neg q] at hr; cases hr
    | mp id =>
      simp only [V.fgt] at hr
      by_cases q : p id = true
      ·rw [if_pos q] at hr; cases hr
      ·rw [if_neg q] at hr; cases hr
    | fn f capt => cases hr
    | top => cases hr
    | ag cells => cases hr
    | tup vs => cases hr
  ·cases hr
theorem append_congr {cl : Call} {ρ ρ' : Operand → V} (h : ∀ x ∈ cl.args, ρ x = ρ' x) (s : Store) : opAppend P cl ρ s = opAppend P cl ρ' s ∧ opAppendV P cl ρ s = opAppendV P cl ρ' s := by
 have h2 : ∀ x ∈ cl.args.toList, ρ x = ρ' x := fun x hx => h x (by simpa using hx)
 rcases ha : cl.args.toList with _ | ⟨x, _ | ⟨y, _ | ⟨z, r⟩⟩⟩
 ·simp [opAppend, opAppendV, ha]
 ·simp [opAppend, opAppendV, ha]
 ·rw [ha] at h2
  have hx := h2 x (by simp)
  have hy := h2 y (by simp)
  rcases ht : cl.argTypes.toList with _ | ⟨t, _ | ⟨u, _ | ⟨q, r⟩⟩⟩ <;> simp [opAppend, opAppendV, ha, ht, hx, hy]
 ·simp [opAppend, opAppendV, ha]
theorem fgtL_put (p : Nat → Bool) (e : Env) (d : Option Nat) (v : V) : V.fgtL p (put e d v) = put (V.fgtL p e) d (v.fgt p) := by
 cases d with
 | none => rfl
 | some k =>
   simp only [put]
   apply List.ext_getElem?
   intro j
   rw [fgtL_at, List.getElem?_set, List.getElem?_set, fgtL_len]
   by_cases e1 : k = j
   ·subst e1
    simp only [if_true]
    split <;> rfl
   ·simp only [if_neg e1, fgtL_at]
theorem exchangeX {im : Op → Bool} {all : List Oper} {x y : Oper} (ha : apart all x y = true) (hx : cls x.op = .x) (hxg : x.guard = none) (hy : isAddr y = true) {E E1 E2 : St} (h1 : Stp P im all x E E1) (h2 : Stp P im all y E1 E2) : ∃ E1', Stp P im all y E E1' ∧ Stp P im all x E1' E2 := by
 have hyg : y.guard = none := by
  simp only [isAddr, Bool.and_eq_true, Option.isNone_iff_eq_none] at hy; exact hy.2
 have hyp : cls y.op = .p := by
  simp only [isAddr, Bool.and_eq_true] at hy
  have := hy.1
  split at this
  ·rename_i q; rw [q]; rfl
  ·rename_i q; rw [q]; rfl
  ·cases this
 have gx : ∀ e, guardOf all e x.guard = some none := fun e => by rw [hxg]; rfl
 have gy : ∀ e, guardOf all e y.guard = some none := fun e => by rw [hyg]; rfl
 have dx : ∀ {E E' : St}, Stp P im all x E E' ↔ Do P x E E' := fun {E E'} => by
  unfold Stp; rw [gx]; exact doI_do (fun _ => by rw [hx]; simp)
 have dy : ∀ {E E' : St}, Stp P im all y E E' ↔ Do P y E E' := fun {E E'} => by
  unfold Stp; rw [gy]; exact doI_do (fun _ => by rw [hyp]; simp)
 rw [dx] at h1
 rw [dy] at h2
 unfold Do at h1 h2
 rw [hx] at h1
 rw [hyp] at h2
 simp only at h1 h2
 obtain ⟨cl, ho, hcal, k, c, sz, n, blk, g1, hc, rfl⟩ := h1
 obtain ⟨r, s', hl, rfl⟩ := h2
 unfold Loc at hl
 rw [hyp] at hl
 obtain ⟨c2, g2, hc2, rfl⟩ := hl
 simp only [apart, Bool.and_eq_true] at ha
 have hne : ∀ q, x.dst = some q → y.dst ≠ some q := fun q e => by
  have := ha.1; rw [e] at this; simp at this; exact this.2
 have hlx : ∀ q, looks all y q = true → x.dst ≠ some q := fun q hk e => by
  have := ha.1; rw [e] at this; simp [hk] at this
 have hly : ∀ q, looks all x q = true → y.dst ≠ some q := fun q hk e => by
  have := ha.2; rw [e] at this; simp [hk] at this
 obtain ⟨r0, g3, g4⟩ := addr_fgt (P := P) (p := hitO k (newId x.dst)) hy (ρ := look E.e) (fun z hz => look_fgt fun t ht => by
  subst ht
  exact hlx t (by unfold looks; rw [Bool.or_eq_true]; exact .inl (List.any_eq_true.2 ⟨.tmp t, by simpa using hz, by simp⟩))) g2
 have hargs : ∀ z ∈ cl.args, look (put E.e y.dst r0) z = look E.e z := fun z hz => by
  cases z with
  | tmp t =>
    exact put_getD (hly t (by
     unfold looks
     rw [Bool.or_eq_true, ho]
     exact .inl (List.any_eq_true.2 ⟨.tmp t, by simp only [Op.operands, Call.operands, Array.toList_append, List.mem_append]; exact .inr (by simpa using hz), by simp⟩)))
  | _ => rfl
 obtain ⟨q1, q2⟩ := append_congr (P := P) hargs E.s
 refine ⟨⟨put E.e y.dst r0, E.s⟩, dy.2 ?_, dx.2 ?_⟩
 ·unfold Do; rw [hyp]
  refine ⟨r0, E.s, ?_, rfl⟩
  unfold Loc; rw [hyp]
  exact ⟨c2, g3, hc2, rfl⟩
 ·unfold Do; rw [hx]
  refine ⟨cl, ho, hcal, k, c, sz, n, blk, ?_, hc, ?_⟩
  ·rcases g1 with ⟨al, w1, w2, w3⟩ | ⟨al, w1, w2⟩
   ·exact .inl ⟨al, q1.trans w1, w2, w3⟩
   ·exact .inr ⟨al, q2.trans w1, w2⟩
  ·rw [fgtL_put, g4, put_comm fun q e1 e2 => hne q e2 e1]
theorem exchangeM {im : Op → Bool} {all : List Oper} {x y : Oper} (ha : apart all x y = true) (hx : isMove x = true) (hy : cls y.op = .x) (hyg : y.guard = none) {E E1 E2 : St} (h1 : Stp P im all x E E1) (h2 : Stp P im all y E1 E2) : ∃ E1', Stp P im all y E E1' ∧ Stp P im all x E1' E2 := by
 simp only [isMove, Bool.and_eq_true, Option.isNone_iff_eq_none] at hx
 obtain ⟨hm, hxg⟩ := hx
 obtain ⟨z, hz⟩ : ∃ z, x.op = .move z := by
  split at hm
  ·rename_i z q; exact ⟨z, q⟩
  ·cases hm
 have hxp : cls x.op = .p := by rw [hz]; rfl
 have gx : ∀ e, guardOf all e x.guard = some none := fun e => by rw [hxg]; rfl
 have gy : ∀ e, guardOf all e y.guard = some none := fun e => by rw [hyg]; rfl
 have dx : ∀ {E E' : St}, Stp P im all x E E' ↔ Do P x E E' := fun {E E'} => by
  unfold Stp; rw [gx]; exact doI_do (fun _ => by rw [hxp]; simp)
 have dy : ∀ {E E' : St}, Stp P im all y E E' ↔ Do P y E E' := fun {E E'} => by
  unfold Stp; rw [gy]; exact doI_do (fun _ => by rw [hy]; simp)
 rw [dx] at h1
 rw [dy] at h2
 unfold Do at h1 h2
 rw [hxp] at h1
 rw [hy] at h2
 simp only at h1 h2
 obtain ⟨r, s', hl, rfl⟩ := h1
 unfold Loc at hl
 rw [hxp] at hl
 obtain ⟨c2, g2, hc2, rfl⟩ := hl
 rw [hz] at g2
 simp only [opP] at g2
 cases g2
 obtain ⟨cl, ho, hcal, k, c, sz, n, blk, g1, hc, rfl⟩ := h2
 simp only [apart, Bool.and_eq_true] at ha
 have hne : ∀ q, x.dst = some q → y.dst ≠ some q := fun q e => by
  have := ha.1; rw [e] at this; simp at this; exact this.2
 have hlx : ∀ q, looks all y q = true → x.dst ≠ some q := fun q hk e => by
  have := ha.1; rw [e] at this; simp [hk] at this
 have hly : ∀ q, looks all x q = true → y.dst ≠ some q := fun q hk e => by
  have := ha.2; rw [e] at this; simp [hk] at this
 have hargs : ∀ u ∈ cl.args, look (put E.e x.dst (look E.e z)) u = look E.e u := fun u hu => by
  cases u with
  | tmp t =>
    exact put_getD (hlx t (by
     unfold looks
     rw [Bool.or_eq_true, ho]
     exact .inl (List.any_eq_true.2 ⟨.tmp t, by simp only [Op.operands, Call.operands, Array.toList_append, List.mem_append]; exact .inr (by simpa using hu), by simp⟩)))
  | _ => rfl
 obtain ⟨q1, q2⟩ := append_congr (P := P) hargs E.s
 refine ⟨⟨put (V.fgtL (hitO k (newId y.dst)) E.e) y.dst (.rs (newId y.dst) sz 0 n), putB (fgtS (hitO k (newId y.dst)) E.s) (newId y.dst) blk⟩, dy.2 ?_, dx.2 ?_⟩
 ·unfold Do; rw [hy]
  refine ⟨cl, ho, hcal, k, c, sz, n, blk, ?_, hc, rfl⟩
  rcases g1 with ⟨al, w1, w2, w3⟩ | ⟨al, w1, w2⟩
  ·exact .inl ⟨al, q1.symm.trans w1, w2, w3⟩
  ·exact .inr ⟨al, q2.symm.trans w1, w2⟩
 ·unfold Do; rw [hxp]
  have hlk : look (put (V.fgtL (hitO k (newId y.dst)) E.e) y.dst (.rs (newId y.dst) sz 0 n)) z = (look E.e z).fgt (hitO k (newId y.dst)) := look_fgt fun t ht => by
   subst ht
   exact hly t (by unfold looks; rw [Bool.or_eq_true, hz]; exact .inl (List.any_eq_true.2 ⟨.tmp t, by simp [Op.operands], by simp⟩))
  refine ⟨(look E.e z).fgt (hitO k (newId y.dst)), putB (fgtS (hitO k (newId y.dst)) E.s) (newId y.dst) blk, ?_, ?_⟩
  ·unfold Loc; rw [hxp]
   exact ⟨True, by rw [hz]; simp only [opP]; rw [hlk], trivial, rfl⟩
  ·simp only [fgtL_put]; rw [put_comm hne]
theorem load_upd {t : TypeId} {a : Operand} {ρ : Operand → V} {s : Store} {id : Nat} {ks ks' : List Value} {vs vs' : List V} (h : getB s id = some (.mp ks vs)) : opR P (.load t a) ρ (putB s id (.mp ks' vs')) = opR P (.load t a) ρ s := by
 simp only [opR]
 cases ρ a with
 | pt i sz r c =>
   simp only [getB_putB]
   by_cases e : i = id
   ·subst e
    rw [if_pos rfl, h]
   ·rw [if_neg e]
 | d y => cases y <;> rfl
 | _ => rfl
theorem exchangeL {im : Op → Bool} {all : List Oper} {x y : Oper} (ha : apart all x y = true) (h : (isLoad x = true ∧ isUpd y = true) ∨ (isUpd x = true ∧ isLoad y = true)) {E E1 E2 : St} (h1 : Stp P im all x E E1) (h2 : Stp P im all y E1 E2) : ∃ E1', Stp P im all y E E1' ∧ Stp P im all x E1' E2 := by
 have hl : ∀ {o : Oper}, isLoad o = true → (∃ t a, o.op = .load t a) ∧ o.guard = none := fun {o} q => by
  simp only [isLoad, Bool.and_eq_true, Option.isNone_iff_eq_none] at q
  refine ⟨?_, q.2⟩
  have := q.1
  split at this
  ·exact ⟨_, _, by assumption⟩
  ·cases this
 have hu : ∀ {o : Oper}, isUpd o = true → (∃ t m k v, o.op = .mapUpdate t m k v) ∧ o.guard = none := fun {o} q => by
  simp only [isUpd, Bool.and_eq_true, Option.isNone_iff_eq_none] at q
  refine ⟨?_, q.2⟩
  have := q.1
  split at this
  ·exact ⟨_, _, _, _, by assumption⟩
  ·cases this
 have dl : ∀ {o : Oper} {E E' : St}, isLoad o = true → (Stp P im all o E E' ↔ ∃ c v, opR P o.op (look E.e) E.s = some (c, v) ∧ c ∧ E' = ⟨put E.e o.dst v, E.s⟩) := fun {o E E'} q => by
  obtain ⟨⟨t, a, e⟩, g⟩ := hl q
  have hc : cls o.op = .r := by rw [e]; rfl
  unfold Stp
  rw [show guardOf all E.e o.guard = some none by rw [g]; rfl]
  show DoI P im o E E' ↔ _
  rw [doI_do (fun _ => by rw [hc]; simp)]
  unfold Do Loc
  rw [hc]
  simp only
  constructor
  ·rintro ⟨v, s', ⟨c, q1, q2, rfl⟩, rfl⟩; exact ⟨c, v, q1, q2, rfl⟩
  ·rintro ⟨c, v, q1, q2, rfl⟩; exact ⟨v, _, ⟨c, q1, q2, rfl⟩, rfl⟩
 have du : ∀ {o : Oper} {E E' : St}, isUpd o = true → (Stp P im all o E E' ↔ ∃ c s', opW P o.op (look E.e) E.s = some (c, s') ∧ c ∧ E' = ⟨put E.e o.dst vundef, s'⟩) := fun {o E E'} q => by
  obtain ⟨⟨t, m, k, v, e⟩, g⟩ := hu q
  have hc : cls o.op = .w := by rw [e]; rfl
  unfold Stp
  rw [show guardOf all E.e o.guard = some none by rw [g]; rfl]
  show DoI P im o E E' ↔ _
  rw [doI_do (fun _ => by rw [hc]; simp)]
  unfold Do
  rw [hc]
 simp only [apart, Bool.and_eq_true] at ha
 have hne : ∀ q, x.dst = some q → y.dst ≠ some q := fun q e => by
  have := ha.1; rw [e] at this; simp at this; exact this.2
 have hlx : ∀ q, looks all y q = true → x.dst ≠ some q := fun q hk e => by
  have := ha.1; rw [e] at this; simp [hk] at this
 have hly : ∀ q, looks all x q = true → y.dst ≠ some q := fun q hk e => by
  have := ha.2; rw [e] at this; simp [hk] at this
 have opx : ∀ (v : V), ∀ z ∈ x.op.operands, look (put E.e y.dst v) z = look E.e z := fun v z hz => by
  cases z with
  | tmp t => exact put_getD (hly t (by unfold looks; rw [Bool.or_eq_true]; exact .inl (List.any_eq_true.2 ⟨.tmp t, by simpa using hz, by simp⟩)))
  | _ => rfl
 have opy : ∀ (v : V), ∀ z ∈ y.op.operands, look (put E.e x.dst v) z = look E.e z := fun v z hz => by
  cases z with
  | tmp t => exact put_getD (hlx t (by unfold looks; rw [Bool.or_eq_true]; exact .inl (List.any_eq_true.2 ⟨.tmp t, by simpa using hz, by simp⟩)))
  | _ => rfl
 rcases h with ⟨qx, qy⟩ | ⟨qx, qy⟩
 ·obtain ⟨c1, v, g1, g2, rfl⟩ := (dl qx).1 h1
  obtain ⟨c2, s', g3, g4, rfl⟩ := (du qy).1 h2
  obtain ⟨⟨t, a, ex⟩, _⟩ := hl qx
  obtain ⟨⟨t2, m, k, v2, ey⟩, _⟩ := hu qy
  simp only at g3
  rw [opW_congr (opy v)] at g3
  refine ⟨⟨put E.e y.dst vundef, s'⟩, (du qy).2 ⟨c2, s', g3, g4, rfl⟩, (dl qx).2 ⟨c1, v, ?_, g2, ?_⟩⟩
  ·rw [ey] at g3
   obtain ⟨id, ks, vs, ks', vs', w1, _, rfl, _⟩ := updV_put g3
   simp only
   rw [opR_congr (opx vundef)]
   rw [ex] at g1 ⊢
   rw [load_upd w1]; exact g1
  ·simp only; rw [put_comm hne]
 ·obtain ⟨c1, s', g1, g2, rfl⟩ := (du qx).1 h1
  obtain ⟨c2, v, g3, g4, rfl⟩ := (dl qy).1 h2
  obtain ⟨⟨t, m, k, v2, ex⟩, _⟩ := hu qx
  obtain ⟨⟨t2, a, ey⟩, _⟩ := hl qy
  simp only at g3
  rw [opR_congr (opy vundef)] at g3
  have g1' := g1
  rw [ex] at g1'
  obtain ⟨id, ks, vs, ks', vs', w1, _, rfl, _⟩ := updV_put g1'
  rw [ey, load_upd w1, ← ey] at g3
  refine ⟨⟨put E.e y.dst v, E.s⟩, (dl qy).2 ⟨c2, v, g3, g4, rfl⟩, (du qx).2 ⟨c1, putB E.s id (.mp ks' vs'), ?_, g2, ?_⟩⟩
  ·simp only; rw [opW_congr (opx v)]; exact g1
  ·simp only; rw [put_comm hne]
theorem exchange {im : Op → Bool} {all : List Oper} {x y : Oper} (hc : comm im all x y = true) {E E1 E2 : St} (hfx : makes x = true → Fresh (mine x) E.e E.s) (hfy : makes y = true → Fresh (mine y) E.e E.s)
  (hd : makes x = true → makes y = true → ∀ i, mine x i = true → mine y i = false) (h1 : Stp P im all x E E1) (h2 : Stp P im all y E1 E2) : ∃ E1', Stp P im all y E E1' ∧ Stp P im all x E1' E2 := by
 simp only [comm, Bool.and_eq_true, Bool.or_eq_true] at hc
 obtain ⟨ha, hq⟩ := hc
 rcases hq with hq | hq
 case inr => exact exchangeL ha (.inr hq) h1 h2
 rcases hq with hq | hq
 case inr => exact exchangeL ha (.inl hq) h1 h2
 rcases hq with hq | ⟨hq1, hq2, hq3⟩
 case inr => exact exchangeM ha hq1 (by simpa using hq2) (by simpa using hq3) h1 h2
 rcases hq with hq | ⟨⟨hq1, hq2⟩, hq3⟩
 case inr => exact exchangeX ha (by simpa using hq1) (by simpa using hq2) hq3 h1 h2
 have hxx : cls x.op ≠ .x := by
  rcases hq with (⟨h, _⟩ | ⟨h, _⟩) | ⟨h, _⟩
  ·intro e; simp [quiet, e] at h
  ·intro e; simp [e] at h
  ·intro e; simp [e] at h
 have hyx : cls y.op ≠ .x := by
  rcases hq with (⟨_, h⟩ | ⟨_, h⟩) | ⟨_, h⟩
  ·intro e; simp [quiet, e] at h
  ·intro e; simp [e] at h
  ·intro e; simp [e] at h
 have hxc : im x.op = true → cls x.op ≠ .c := by
  intro him
  rcases hq with (⟨h, _⟩ | ⟨h, _⟩) | ⟨h, _⟩
  ·intro e; simp [quiet, e, him] at h
  ·intro e; simp [e] at h
  ·intro e; simp [e] at h
 have hyc : im y.op = true → cls y.op ≠ .c := by
  intro him
  rcases hq with (⟨_, h⟩ | ⟨_, h⟩) | ⟨_, h⟩
  ·intro e; simp [quiet, e, him] at h
  ·intro e; simp [e] at h
  ·intro e; simp [e] at h
 rw [locG_of hxx hxc] at h1
 obtain ⟨vx, ex, g1, rfl⟩ := h1
 rw [locG_of hyx hyc] at h2
 obtain ⟨vy, ey, g2, rfl⟩ := h2
 simp only [apart, Bool.and_eq_true] at ha
 have hne : ∀ k, x.dst = some k → y.dst ≠ some k := fun k e => by
  have := ha.1; rw [e] at this; simp at this; exact this.2
 have hlx : ∀ k, looks all y k = true → x.dst ≠ some k := fun k hk e => by
  have := ha.1; rw [e] at this; simp [hk] at this
 have hly : ∀ k, looks all x k = true → y.dst ≠ some k := fun k hk e => by
  have := ha.2; rw [e] at this; simp [hk] at this
 have g2' : LocG P all y E.e (puts E.s ex) vy ey := (locG_congr fun k hk => put_getD (hlx k hk)).1 g2
 have g1' : LocG P all x (put E.e y.dst vy) E.s vx ex := (locG_congr fun k hk => put_getD (hly k hk)).2 g1
 have key : LocG P all y E.e E.s vy ey ∧ LocG P all x (put E.e y.dst vy) (puts E.s ey) vx ex ∧ puts (puts E.s ex) ey = puts (puts E.s ey) ex := by
  rcases hq with (⟨q1, q2⟩ | ⟨q1, q2⟩) | ⟨q1, q2⟩
  ·have wx : cls x.op ≠ .w := fun e => by simp [quiet, e] at q1
   have wy : cls y.op ≠ .w := fun e => by simp [quiet, e] at q2
   have ex1 := locG_ext wx g1
   have ey1 := locG_ext wy g2
   have a1 : LocG P all y E.e E.s vy ey := by
    by_cases hex : ex = []
    ·subst hex; exact g2'
    ·obtain ⟨z, zs, rfl⟩ := List.exists_cons_of_ne_nil hex
     have hm := (ex1 z (by simp)).1
     exact locG_grow (p := mine x) wy (hfx hm).env (fun i hi => (getB_puts _ _ _ fun q hq e => by rw [← e, (ex1 q hq).2] at hi; cases hi).symm) g2'
   have a2 : LocG P all x E.e (puts E.s ey) vx ex := by
    by_cases hey : ey = []
    ·subst hey; exact g1
    ·obtain ⟨z, zs, rfl⟩ := List.exists_cons_of_ne_nil hey
     have hm := (ey1 z (by simp)).1
     exact locG_grow (p := mine y) wx (hfy hm).env (fun i hi => getB_puts _ _ _ fun q hq e => by rw [← e, (ey1 q hq).2] at hi; cases hi) g1
   refine ⟨a1, (locG_congr fun k hk => put_getD (hly k hk)).2 a2, puts_comm _ _ _ fun q hq r hr e => ?_⟩
   have := hd (ex1 q hq).1 (ey1 r hr).1 q.1 (ex1 q hq).2
   rw [e, (ey1 r hr).2] at this
   cases this
  ·have px : cls x.op = .p := by simpa using q1
   have e0 : ex = [] := by
    have := locG_ext (by rw [px]; simp) g1
    cases ex with
    | nil => rfl
    | cons z zs => have := (this z (by simp)).1; simp [makes, px] at this
   subst e0
   exact ⟨g2', locG_any px g1', rfl⟩
  ·have py : cls y.op = .p := by simpa using q2
   have e0 : ey = [] := by
    have := locG_ext (by rw [py]; simp) g2
    cases ey with
    | nil => rfl
    | cons z zs => have := (this z (by simp)).1; simp [makes, py] at this
   subst e0
   exact ⟨locG_any py g2', g1', rfl⟩
 obtain ⟨k1, k2, k3⟩ := key
 refine ⟨⟨put E.e y.dst vy, puts E.s ey⟩, (locG_of hyx hyc).2 ⟨vy, ey, k1, rfl⟩, (locG_of hxx hxc).2 ⟨vx, ex, k2, ?_⟩⟩
 rw [k3, put_comm hne]
end Go.Fw
end
section
namespace Go.Fw
variable {P : Program}
theorem put_menL {p : Nat → Bool} {e : Env} {d : Option Nat} {v : V} (h : V.menL p e = false) (hv : v.men p = false) : V.menL p (put e d v) = false := by
 cases d with
 | none => exact h
 | some k =>
   refine menL_of fun j x hj => ?_
   rcases List.mem_or_eq_of_mem_set (List.mem_of_getElem? hj) with hx | rfl
   ·obtain ⟨i, hi⟩ := List.getElem?_of_mem hx; exact menL_at h hi
   ·exact hv
theorem Fresh.puts {p : Nat → Bool} {e : Env} {s : Store} (h : Fresh p e s) {ext : Store} (hx : ∀ x ∈ ext, p x.1 = false ∧ FreshB p x.2) : Fresh p e (puts s ext) := by
 refine ⟨h.env, ?_⟩
 induction ext with
 | nil => exact h.sto
 | cons y r ih =>
   obtain ⟨i, b⟩ := y
   intro j blk hj
   simp only [Fw.puts, getB_putB] at hj
   split at hj
   ·rename_i e; subst e; cases hj; exact hx (j, b) (by simp)
   ·exact ih (fun x hx' => hx x (by simp [hx'])) j blk hj
theorem locX_fresh {o : Oper} {p : Nat → Bool} {e : Env} {s : Store} {v : V} {ext : Store} (hf : Fresh p e s) (hp : makes o = true → ∀ i, mine o i = true → p i = false) (h : LocX P o (look e) s v ext) : v.men p = false ∧ ∀ x ∈ ext, p x.1 = false ∧ FreshB p x.2 := by
 have hρ := look_men hf.env
 unfold LocX at h
 cases hc : cls o.op <;> rw [hc] at h <;> simp only at h
 ·obtain ⟨c, h1, h2, rfl⟩ := h; exact ⟨opP_men hρ h1, by simp⟩
 ·obtain ⟨c, h1, h2, rfl⟩ := h; exact ⟨opR_men hf hρ h1, by simp⟩
 ·obtain ⟨c, blk, h0, h1, h2, rfl⟩ := h
  have hid : p (newId o.dst) = false := hp (by simp [makes, hc]) _ (by simp [mine])
  have key : v.men p = false ∧ FreshB p blk := by
   unfold opA at h1
   split at h1 <;> try (cases h1; done)
   ·split at h1
    ·rename_i hcs; cases h1; exact ⟨hid, men_cells (hρ _) hcs⟩
    ·cases h1
   ·split at h1
    ·split at h1
     ·cases h1; exact ⟨hid, lits_men p _⟩
     ·cases h1
    ·cases h1
   ·split at h1
    ·split at h1
     ·split at h1
      ·split at h1
       ·rename_i hcs
        have hfm : V.menL p _ = false := fillV_men (lits_men p _) (fun x hx => by
         simp only [List.mem_map] at hx
         obtain ⟨u, _, rfl⟩ := hx
         exact hρ u.2) hcs
        split at h1
        ·cases h1; exact ⟨hid, trivial⟩
        ·cases h1; exact ⟨hid, hfm⟩
       ·cases h1
      ·cases h1
     ·cases h1
    ·cases h1
   ·split at h1
    ·split at h1
     ·split at h1
      ·cases h1; exact ⟨hid, trivial⟩
      ·cases h1
     ·cases h1
    ·cases h1
   ·cases h1; exact ⟨hid, rfl⟩
  exact ⟨key.1, by simpa using ⟨hid, key.2⟩⟩
 ·obtain ⟨c, s', h1, h2, rfl, id, blk, rfl, rfl⟩ := h
  refine ⟨rfl, ?_⟩
  simp only [List.mem_singleton, forall_eq]
  have key0 : ∀ {id0 : Nat} {b0 : Blk}, p id0 = false → FreshB p b0 → putB s id0 b0 = putB s id blk → p id = false ∧ FreshB p blk := by
   intro id0 b0 hp0 hb0 he
   have e1 := congrArg (fun t => getB t id) he
   simp only [getB_putB, if_true] at e1
   by_cases e2 : id = id0
   ·subst e2; simp at e1; exact ⟨hp0, e1 ▸ hb0⟩
   ·rw [if_neg e2] at e1
    exact ⟨(hf.sto id blk e1).1, (hf.sto id blk e1).2⟩
  have upd : ∀ {t : TypeId} {x k y : Operand}, updV P t (look e x) (look e k) (look e y) s = some (c, putB s id blk) → p id = false ∧ FreshB p blk := by
   intro t x k y h
   obtain ⟨id0, ks, vs, ks', vs', g1, _, g2, g3⟩ := updV_put h
   refine key0 (b0 := .mp ks' vs') (hf.sto _ _ g1).1 (menL_of fun j v hj => ?_) g2.symm
   rcases g3 v (List.mem_of_getElem? hj) with q | rfl
   ·obtain ⟨i, hi⟩ := List.getElem?_of_mem q
    exact menL_at (hf.sto _ _ g1).2 hi
   ·exact hρ y
  unfold opW at h1
  split at h1 <;> try (cases h1; done)
  case h_2 => exact upd h1
  case h_3 => exact upd h1
  split at h1
  ·rename_i id' sz r cl vs ex hcs
   have hvs := men_cells (hρ _) hcs
   have same : ∀ {id0 : Nat} {b0 : Blk}, putB s id0 b0 = putB s id blk → id0 = id ∧ b0 = blk ∨ True := fun _ => .inr trivial
   have key : ∀ {id0 : Nat} {b0 : Blk}, p id0 = false → FreshB p b0 → putB s id0 b0 = putB s id blk → getB s id0 ≠ some b0 → p id = false ∧ FreshB p blk := by
    intro id0 b0 hp0 hb0 he hne
    have e1 := congrArg (fun t => getB t id) he
    simp only [getB_putB, if_true] at e1
    by_cases e2 : id = id0
    ·subst e2; simp at e1; exact ⟨hp0, e1 ▸ hb0⟩
    ·rw [if_neg e2] at e1
     exact ⟨(hf.sto id blk e1).1, (hf.sto id blk e1).2⟩
   have key2 : ∀ {id0 : Nat} {b0 : Blk}, p id0 = false → FreshB p b0 → putB s id0 b0 = putB s id blk → p id = false ∧ FreshB p blk := by
    intro id0 b0 hp0 hb0 he
    have e1 := congrArg (fun t => getB t id) he
    simp only [getB_putB, if_true] at e1
    by_cases e2 : id = id0
    ·subst e2; simp at e1; exact ⟨hp0, e1 ▸ hb0⟩
    ·rw [if_neg e2] at e1
     exact ⟨(hf.sto id blk e1).1, (hf.sto id blk e1).2⟩
   split at h1
   ·split at h1
    ·rename_i cells hg
     split at h1
     ·simp only [Option.some.injEq, Prod.mk.injEq] at h1
      exact key2 (b0 := .vals (setAt cells (r * sz + cl) vs)) (hf.sto _ _ hg).1 (setAt_men hvs _ (hf.sto _ _ hg).2) h1.2
     ·cases h1
    ·rename_i n rows hg
     split at h1
     ·split at h1
      ·simp only [Option.some.injEq, Prod.mk.injEq] at h1
       refine key2 (hf.sto _ _ hg).1 ?_ h1.2
       trivial
      ·cases h1
     ·cases h1
    ·cases h1
   ·cases h1
  ·cases h1
 ·obtain ⟨g, args1, args, r, τ, h0, h1, h1b, h2, h3, h4, rfl, rfl⟩ := h
  obtain ⟨q, _, hq⟩ := newId_some h0
  simp only [okIds, Bool.and_eq_true, Bool.not_eq_true'] at h4
  have hsh : ∀ id, big id = false → p (newId o.dst + id) = false := fun id hb => by
   refine hp (by simp [makes, hc]) _ ?_
   have : id < 100 := by simpa [big] using hb
   simp only [mine, hq, decide_eq_true_eq]; omega
  refine ⟨shift_men hsh r h4.1, ?_⟩
  have : ∀ {τ : Store}, okT τ = true → ∀ x ∈ shiftS (newId o.dst) τ, p x.1 = false ∧ FreshB p x.2 := by
   intro τ
   induction τ with
   | nil => intro _ x hx; cases hx
   | cons y r ih =>
     obtain ⟨i, b⟩ := y
     intro h x hx
     simp only [okT, Bool.and_eq_true, Bool.not_eq_true'] at h
     simp only [shiftS, List.map_cons, List.mem_cons] at hx
     rcases hx with rfl | hx
     ·refine ⟨hsh i h.1.1, ?_⟩
      cases b with
      | vals cells =>
        refine menL_of fun j x hj => ?_
        rw [shiftL_at] at hj
        obtain ⟨y, hy, rfl⟩ := Option.map_eq_some_iff.1 hj
        exact shift_men hsh y (menL_at (by simpa [okB] using h.1.2) hy)
      | mp ks vs =>
        refine menL_of fun j x hj => ?_
        rw [shiftL_at] at hj
        obtain ⟨y, hy, rfl⟩ := Option.map_eq_some_iff.1 hj
        exact shift_men hsh y (menL_at (by simpa [okB] using h.1.2) hy)
      | data sz rows => trivial
     ·exact ih h.2 x hx
  exact this h4.2
theorem fgtL_men {p q : Nat → Bool} {l : List V} (h : V.menL p l = false) : V.menL p (V.fgtL q l) = false := by
 have key : ∀ x : V, x.men p = false → (x.fgt q).men p = false := fun x => by
  induction x using V.rec (motive_2 := fun l => V.menL p l = false → V.menL p (V.fgtL q l) = false) <;> simp_all [V.fgt, V.fgtL, V.men, V.menL]
  all_goals (split <;> simp_all [V.men])
 refine menL_of fun j x hj => ?_
 rw [fgtL_at] at hj
 obtain ⟨y, hy, rfl⟩ := Option.map_eq_some_iff.1 hj
 exact key y (menL_at h hy)
theorem stp_fresh {im : Op → Bool} {all : List Oper} {o : Oper} {p : Nat → Bool} {E E' : St} (hf : Fresh p E.e E.s) (hp : ∀ i, mine o i = true → p i = false) (h : Stp P im all o E E') : Fresh p E'.e E'.s := by
 by_cases hx : cls o.op = .x
 ·have hdo : DoI P im o E E' → Fresh p E'.e E'.s := by
   intro h
   rw [doI_do (fun _ => by rw [hx]; simp)] at h
   unfold Do at h
   rw [hx] at h
   obtain ⟨cl, ho, hcal, k, c, sz, n, blk, h1, hc, rfl⟩ := h
   have hid : p (newId o.dst) = false := hp _ (by simp [mine])
   refine ⟨put_menL (fgtL_men hf.env) hid, fun i blk hi => ?_⟩
   rw [getB_putB] at hi
   split at hi
   ·rename_i e; subst e; cases hi
    refine ⟨hid, ?_⟩
    rcases h1 with ⟨all, h1, rfl, rfl⟩ | ⟨all, h1, rfl⟩
    ·trivial
    ·-- what is added names no block that is to be new
     refine fgtL_men ?_
     unfold opAppendV at h1
     split at h1
     ·split at h1
      ·split at h1
       ·split at h1
        ·split at h1
         ·rename_i hb hsr
          cases h1
          have sub : ∀ {l l' : List V}, V.menL p l = false → (∀ v ∈ l', v ∈ l) → V.menL p l' = false := fun h hs => menL_sub h hs
          refine menL_of fun j x hj => ?_
          rcases List.mem_append.1 (List.mem_of_getElem? hj) with hm | hm
          ·unfold baseV at hb
           split at hb <;> try (cases hb; done)
           ·cases hb; cases hm
           ·split at hb
            ·split at hb
             ·rename_i hg
              cases hb
              obtain ⟨i, hi⟩ := List.getElem?_of_mem hm
              exact menL_at (hf.sto _ _ hg).2 hi
             ·cases hb
            ·cases hb
          ·unfold srcV at hsr
           split at hsr <;> try (cases hsr; done)
           split at hsr
           ·split at hsr
            ·rename_i hg
             cases hsr
             obtain ⟨i, hi⟩ := List.getElem?_of_mem (List.mem_of_mem_drop (List.mem_of_mem_take hm))
             exact menL_at (hf.sto _ _ hg).2 hi
            ·cases hsr
           ·cases hsr
         ·cases h1
        ·cases h1
       ·cases h1
      ·cases h1
     ·cases h1
   ·rw [getB_fgtS] at hi
    split at hi
    ·cases hi
    ·obtain ⟨b0, hb0, rfl⟩ := Option.map_eq_some_iff.1 hi
     refine ⟨(hf.sto i b0 hb0).1, ?_⟩
     cases b0 with
     | vals cells => exact fgtL_men (hf.sto i _ hb0).2
     | mp ks vs => exact fgtL_men (hf.sto i _ hb0).2
     | data sz rows => trivial
  unfold Stp at h
  split at h
  ·exact h.elim
  ·exact hdo h
  ·rename_i want b hg
   rcases bool_or b want with hb | hb
   ·exact hdo (h.1 hb)
   ·rw [h.2 hb]; exact ⟨put_menL hf.env rfl, hf.sto⟩
 ·by_cases hi : im o.op = true → cls o.op ≠ .c
  case neg =>
   have him : im o.op = true := by
    cases q : im o.op with
    | true => rfl
    | false => exact absurd (fun h => by rw [q] at h; cases h) hi
   have hcl : cls o.op = .c := by
    cases hc : cls o.op <;> first | rfl | exact absurd (fun _ e => by cases hc.symm.trans e) hi
   have hdo : DoI P im o E E' → Fresh p E'.e E'.s := by
    intro h
    unfold DoI at h
    rw [hcl, him] at h
    obtain ⟨g, args, ids, s0, r, s1, hds, hco, hm0, hok, _, rfl⟩ := h
    have ok := okW_iff hok
    obtain ⟨q, hq0, hq⟩ := newId_some hds
    have hrho : ∀ j, badId ids.length s1 j = false → p (rho ids (newId o.dst) j) = false := fun j hj => by
     simp only [badId, Bool.or_eq_false_iff, decide_eq_false_iff_not] at hj
     by_cases hl : j < ids.length
     ·rw [rho_lt hl]
      obtain ⟨c, hc⟩ := Option.isSome_iff_exists.1 (ok.all j hl)
      exact (hf.sto _ _ (hm0 _ (getB_mem hc))).1
     ·rw [rho_ge hl]
      refine hp _ ?_
      simp only [mine, decide_eq_true_eq]
      omega
    have hren : ∀ x : V, x.men (badId ids.length s1) = false → (x.ren (rho ids (newId o.dst))).men p = false := fun x => by
     induction x using V.rec (motive_2 := fun l => V.menL (badId ids.length s1) l = false → V.menL p (V.renL (rho ids (newId o.dst)) l) = false) <;> simp_all [V.men, V.menL, V.ren, V.renL]
    have hren' : ∀ b : Blk, b.men (badId ids.length s1) = false → FreshB p (b.ren (rho ids (newId o.dst))) := fun b hb => by
     cases b with
     | vals cells =>
       refine menL_of fun j x hj => ?_
       rw [renL_at] at hj
       obtain ⟨y, hy, rfl⟩ := Option.map_eq_some_iff.1 hj
       exact hren y (menL_at (by simpa [Blk.men] using hb) hy)
     | mp ks vs =>
       refine menL_of fun j x hj => ?_
       rw [renL_at] at hj
       obtain ⟨y, hy, rfl⟩ := Option.map_eq_some_iff.1 hj
       exact hren y (menL_at (by simpa [Blk.men] using hb) hy)
     | data sz rows => trivial
    refine ⟨put_menL hf.env (hren _ ok.res), fun i blk hi => ?_⟩
    rw [getB_puts'] at hi
    split at hi
    ·rename_i b hb
     cases hi
     obtain ⟨j, b0, h1, rfl, rfl⟩ := getB_renS hb
     refine ⟨hrho j ?_, hren' _ (ok.outs h1).2⟩
     have := (ok.outs h1).1
     simp only [badId, Bool.or_eq_false_iff, decide_eq_false_iff_not, Bool.and_eq_false_iff]
     exact ⟨by omega, .inr (by rw [h1]; rfl)⟩
    ·rw [getB_dropS] at hi
     split at hi
     ·cases hi
     ·exact hf.sto i blk hi
   unfold Stp at h
   split at h
   ·exact h.elim
   ·exact hdo h
   ·rename_i want b hg
    rcases bool_or b want with hb | hb
    ·exact hdo (h.1 hb)
    ·rw [h.2 hb]; exact ⟨put_menL hf.env rfl, hf.sto⟩
  rw [locG_of hx hi] at h
  obtain ⟨v, ext, hl, rfl⟩ := h
  have key : v.men p = false ∧ ∀ x ∈ ext, p x.1 = false ∧ FreshB p x.2 := by
   unfold LocG at hl
   split at hl
   ·exact hl.elim
   ·exact locX_fresh hf (fun _ => hp) hl
   ·rename_i want b hg
    rcases bool_or b want with hb | hb
    ·exact locX_fresh hf (fun _ => hp) (hl.1 hb)
    ·obtain ⟨rfl, rfl⟩ := hl.2 hb; exact ⟨rfl, by simp⟩
  exact ⟨put_menL hf.env key.1, (hf.puts key.2).sto⟩
def Steps (P : Program) (im : Op → Bool) (all : List Oper) : List Nat → St → St → Prop
 | [], E, E' => E' = E
 | i :: r, E, E' => ∃ o, all[i]? = some o ∧ ∃ E1, Stp P im all o E E1 ∧ Steps P im all r E1 E'
def dep (all : List Oper) : Nat → Nat → Nat → Bool
 | 0, _, _ => false
 | n + 1, j, i => match all[i]? with
   | some o => o.after.toList.any fun e => Region.binds .any e && (e.on == j || dep all n j e.on)
   | none => false
def ahead (all : List Oper) : Bool := (List.range all.length).all fun i => match all[i]? with | some o => o.after.toList.all fun e => !Region.binds .any e || decide (e.on < i) | none => true
def alone (all : List Oper) : Bool := (List.range all.length).all fun j => match all[j]? with
 | some x => !makes x || (List.range all.length).all fun i => i == j || (match all[i]? with | some y => y.dst != x.dst | none => true)
 | none => true
def indep (im : Op → Bool) (all : List Oper) : Bool := ahead all && (List.range all.length).all fun i => (List.range i).all fun j => dep all all.length j i || (match all[j]?, all[i]? with | some x, some y => comm im all x y | _, _ => true)
def ks (all : List Oper) : List Nat := all.filterMap fun o => if makes o then some (newId o.dst / 100) else none
def madeIn (all : List Oper) (i : Nat) : Bool := (ks all).contains (i / 100)
def FreshAll (all : List Oper) (R : List Nat) (E : St) : Prop := ∀ i ∈ R, ∀ o, all[i]? = some o → makes o = true → Fresh (mine o) E.e E.s
theorem newId_inj {d d' : Option Nat} (h : newId d / 100 = newId d' / 100) : d = d' := by
 cases d with
 | none =>
   cases d' with
   | none => rfl
   | some k => simp only [newId] at h; omega
 | some k =>
   cases d' with
   | none => simp only [newId] at h; omega
   | some k' =>
     simp only [newId] at h
     rw [show k = k' by omega]
theorem alone_mine {all : List Oper} (ha : alone all = true) {i j : Nat} (hij : i ≠ j) {x y : Oper} (hx : all[i]? = some x) (hy : all[j]? = some y) (hm : makes x = true) (k : Nat) (hk : mine y k = true) : mine x k = false := by
 have hi : i < all.length := (List.getElem?_eq_some_iff.1 hx).1
 have hj : j < all.length := (List.getElem?_eq_some_iff.1 hy).1
 have h1 := List.all_eq_true.1 ha i (List.mem_range.2 hi)
 rw [hx] at h1
 simp only [hm, Bool.not_true, Bool.false_or] at h1
 have h2 := List.all_eq_true.1 h1 j (List.mem_range.2 hj)
 rw [hy] at h2
 have h3 : y.dst ≠ x.dst := by
  simp only [Bool.or_eq_true, beq_iff_eq, bne_iff_ne] at h2
  rcases h2 with h2 | h2
  ·exact absurd h2.symm hij
  ·exact h2
 simp only [mine, decide_eq_true_eq, decide_eq_false_iff_not] at hk ⊢
 intro e
 exact h3 (newId_inj (hk.symm.trans e))
theorem freshAll_step {im : Op → Bool} {all : List Oper} (ha : alone all = true) {R : List Nat} {E E' : St} {i : Nat} {o : Oper} (hi : all[i]? = some o) (hni : i ∉ R) (hf : FreshAll all R E) (h : Stp P im all o E E') : FreshAll all R E' := by
 intro j hj x hx hm
 exact stp_fresh (hf j hj x hx hm) (fun k hk => alone_mine ha (fun e : j = i => hni (e ▸ hj)) hx hi hm k hk) h
theorem to_front {im : Op → Bool} {all : List Oper} (ha : alone all = true) {i : Nat} {o : Oper} (hi : all[i]? = some o) : ∀ {R : List Nat} {E E' : St}, R.Nodup → i ∈ R → FreshAll all R E → (∀ j ∈ R.takeWhile (· != i), ∀ x, all[j]? = some x → comm im all x o = true) → Steps P im all R E E' →
  ∃ E1, Stp P im all o E E1 ∧ Steps P im all (R.erase i) E1 E' := by
 intro R
 induction R with
 | nil => intro E E' _ h; cases h
 | cons j r ih =>
   intro E E' hnd hm hf hc hs
   obtain ⟨x, hx, E1, h1, h2⟩ := hs
   by_cases e : j = i
   ·subst e
    rw [hx] at hi; cases hi
    exact ⟨E1, h1, by simpa using h2⟩
   ·have hmr : i ∈ r := (List.mem_cons.1 hm).resolve_left (Ne.symm e)
    have hnd' := List.nodup_cons.1 hnd
    have hfr : FreshAll all r E1 := freshAll_step ha hx hnd'.1 (fun k hk => hf k (by simp [hk])) h1
    have htw : (j :: r).takeWhile (· != i) = j :: r.takeWhile (· != i) := by simp [e]
    rw [htw] at hc
    obtain ⟨E2, g1, g2⟩ := ih hnd'.2 hmr hfr (fun k hk => hc k (by simp [hk])) h2
    obtain ⟨E3, g3, g4⟩ := exchange (hc j (by simp) x hx) (hf j (by simp) x hx) (hf i hm o hi) (fun m1 m2 k hk => alone_mine ha (Ne.symm e) hi hx m2 k hk) h1 g1
    refine ⟨E3, g3, ?_⟩
    rw [List.erase_cons_tail (by simpa using e)]
    exact ⟨x, hx, E2, g4, g2⟩
section
variable {w0 : World} {L0 : Par} {X : Nat → Prop}
theorem stp_op {im : Op → Bool} {all : List Oper} {i : Nat} {o : Oper} (hi : all[i]? = some o) {m : Nat → Option Nat} {a : Act} {w : World} {E E1 : St} (h : Rel w0 L0 X m E.e E.s a w) (hf : makes o = true → Fresh (mine o) E.e E.s) (hs : Stp P im all o E E1) {K : Act → World → Prop} {Q : Exit → Act → World → Prop}
  (hK : ∀ m' a' w', Rel w0 L0 X m' E1.e E1.s a' w' → K a' w') : wpOp P all.toArray Q i K a w := by
 unfold wpOp
 have hi' : all.toArray[i]? = some o := by simpa using hi
 simp only [hi']
 have gy : ∀ {g : Nat} {want : Bool} {q : Oper} {k : Nat} {u : Value}, o.guard = some (g, want) → all[g]? = some q → q.dst = some k → k < E.e.length → a.tmps.toList[k]? = some u → Region.wanted o (yielded all.toArray a.tmps) = ((match u with | .bool b => some b | _ => none) == some want) := by
  intro g want q k u h1 h2 h3 _ h4
  have h5 : a.tmps[k]? = some u := by simpa using h4
  unfold Region.wanted
  rw [h1]
  simp only [yielded, List.getElem?_toArray, h2, Option.bind_some, h3, h5]
  cases u <;> rfl
 unfold Stp at hs
 cases hg : guardOf all E.e o.guard with
 | none => rw [hg] at hs; exact hs.elim
 | some gq =>
   rw [hg] at hs
   unfold guardOf at hg
   cases hog : o.guard with
   | none =>
     rw [hog] at hg
     cases hg
     have : Region.wanted o (yielded all.toArray a.tmps) = true := by simp [Region.wanted, hog]
     rw [if_pos this]
     exact .inl (doI_wp h hf hs hK)
   | some q0 =>
     obtain ⟨g, want⟩ := q0
     rw [hog] at hg
     simp only at hg
     cases hag : all[g]? with
     | none => rw [hag] at hg; cases hg
     | some q =>
       rw [hag] at hg
       simp only at hg
       cases hqd : q.dst with
       | none => rw [hqd] at hg; cases hg
       | some k =>
         rw [hqd] at hg
         simp only at hg
         have hlt : k < E.e.length := by
          rcases Nat.lt_or_ge k E.e.length with h | h
          ·exact h
          ·rw [List.getD_eq_getElem?_getD, List.getElem?_eq_none h] at hg
           cases hg
         have hek : E.e[k]? = some (E.e.getD k .top) := by simp [List.getD_eq_getElem?_getD, List.getElem?_eq_getElem hlt]
         obtain ⟨u, hu, hur⟩ := h.env.get hek
         have hw := gy hog hag hqd hlt hu
         split at hg
         ·rename_i b hb
          cases hg
          rw [hb] at hur
          have := hur.lit_inv; subst this
          simp only at hw hs
          rcases bool_or b want with e | e
          ·subst e
           rw [if_pos (by rw [hw]; simp)]
           exact .inl (doI_wp h hf (hs.1 rfl) hK)
          ·rw [if_neg (by rw [hw, e]; cases want <;> simp)]
           have := hs.2 e
           subst this
           exact hK m _ _ (h.put o.dst .int)
         ·rename_i vs hb
          cases hg
          rw [hb] at hur
          have := hur.lit_inv; subst this
          simp only at hw hs
          rw [if_neg (by rw [hw]; simp)]
          have := hs.2 (by first | rfl | trivial)
          subst this
          exact hK m _ _ (h.put o.dst .int)
         ·cases hg
theorem fresh_enter {all : List Oper} {e : Env} {s : Store} : FreshAll all (List.range all.length) ⟨V.fgtL (madeIn all) e, fgtS (madeIn all) s⟩ := by
 intro i _ o ho hm
 refine (fgt_fresh (madeIn all) e s).sub fun j hj => ?_
 have : newId o.dst / 100 ∈ ks all := by
  simp only [ks, List.mem_filterMap]
  exact ⟨o, List.mem_of_getElem? ho, by simp [hm]⟩
 simp only [mine, decide_eq_false_iff_not]
 intro e
 have : madeIn all j = true := by simp [madeIn, e, this]
 rw [this] at hj; cases hj
theorem Rel.fgt {m : Nat → Option Nat} {e : Env} {s : Store} {a : Act} {w : World} (h : Rel w0 L0 X m e s a w) (p : Nat → Bool) : Rel w0 L0 X m (V.fgtL p e) (fgtS p s) a w := by
 have hown : ∀ b, Own m (fgtS p s) b → Own m s b := by
  rintro b ⟨i, blk, h1, h2⟩
  rw [getB_fgtS] at h1
  split at h1
  ·cases h1
  ·obtain ⟨b0, hb0, _⟩ := Option.map_eq_some_iff.1 h1; exact ⟨i, b0, hb0, h2⟩
 have hL : ∀ b, Live X m (fgtS p s) b → Live X m s b ∨ w.heap.size ≤ b := fun b hl => .inl (hl.imp_right (hown b))
 have hk : CellsKept (Live X m s) w w := fun _ _ _ q => q
 have hz : SizesKept w w := fun _ cs _ _ q => ⟨cs, q, rfl⟩
 refine ⟨⟨h.env.len.trans (fgtL_len _ _).symm, fun j x v q1 q2 => ?_⟩, ⟨fun i blk hi => ?_, fun i j b q1 q2 q3 q4 => ?_⟩, h.dfr, h.ext, fun b hl => h.liv b (hown b hl), h.old, fun i hi hs => h.par i hi (by
  rw [getB_fgtS] at hs
  split at hs
  ·cases hs
  ·simpa using hs)⟩
 ·rw [fgtL_at] at q1
  obtain ⟨y, hy, rfl⟩ := Option.map_eq_some_iff.1 q1
  exact VRel.mono' hk hz hL ((h.env.at_ j y v hy q2).fgt p)
 ·rw [getB_fgtS] at hi
  split at hi
  ·cases hi
  ·obtain ⟨b0, hb0, rfl⟩ := Option.map_eq_some_iff.1 hi
   rcases h.sto.blk i b0 hb0 with ⟨b, r1, r2⟩ | ⟨r1, sz, rfl⟩
   ·exact .inl ⟨b, r1, BRel.mono (p := fun _ => false) hk hz hL (fun _ _ => rfl) rfl (by cases b0 <;> first | exact menL_false _ | trivial) (r2.fgt p)⟩
   ·exact .inr ⟨r1, sz, rfl⟩
 ·have key : ∀ i, (getB (fgtS p s) i).isSome = true → (getB s i).isSome = true := fun i q => by
   rw [getB_fgtS] at q
   split at q
   ·cases q
   ·simpa using q
  exact h.sto.inj i j b q1 q2 (key i q3) (key j q4)
theorem seq_ops {im : Op → Bool} {all : List Oper} (ha : alone all = true) : ∀ {R : List Nat} {m : Nat → Option Nat} {a : Act} {w : World} {E E' : St}, R.Nodup → FreshAll all R E → Rel w0 L0 X m E.e E.s a w → Steps P im all R E E' → ∀ {Q : Exit → Act → World → Prop}, (∀ m' a' w', Rel w0 L0 X m' E'.e E'.s a' w' → Q .normal a' w') → wpOps P all.toArray Q R a w := by
 intro R
 induction R with
 | nil => intro m a w E E' _ _ h hs Q hQ; cases hs; exact hQ m a w h
 | cons i r ih =>
   intro m a w E E' hnd hf h hs Q hQ
   obtain ⟨o, hi, E1, h1, h2⟩ := hs
   have hnd' := List.nodup_cons.1 hnd
   rw [wpOps_cons]
   exact stp_op hi h (hf i (by simp) o hi) h1 fun m' a' w' h' => ih hnd'.2 (freshAll_step ha hi hnd'.1 (fun k hk => hf k (by simp [hk])) h1) h' h2 hQ
theorem dep_listed {all : List Oper} {listed : Array Bool} (hcl : ∀ i o, all[i]? = some o → listed.getD i true = true → i < all.length → ∀ e ∈ o.after.toList, Region.binds .any e = true → listed.getD e.on false = true) (hlen : listed.size = all.length) :
  ∀ n j i o, all[i]? = some o → (∀ e ∈ o.after.toList, Region.binds .any e = true → listed.getD e.on false = true) → dep all n j i = true → listed.getD j false = true := by
 intro n
 induction n with
 | zero => intro j i o _ _ h; cases h
 | succ n ih =>
   intro j i o hi hd h
   simp only [dep, hi, List.any_eq_true, Bool.and_eq_true, Bool.or_eq_true, beq_iff_eq] at h
   obtain ⟨e, he, hb, h | h⟩ := h
   ·rw [← h]; exact hd e he hb
   ·have hl := hd e he hb
    cases hx : all[e.on]? with
    | none => cases n <;> simp [dep, hx] at h
    | some o' =>
      have hlt := (List.getElem?_eq_some_iff.1 hx).1
      refine ih j e.on o' hx (hcl e.on o' hx ?_ hlt) h
      have : e.on < listed.size := by omega
      simp [Array.getD, this] at hl ⊢
      exact hl
def undone (n : Nat) (listed : Array Bool) : List Nat := (List.range n).filter fun i => !listed.getD i true
theorem undone_set {n : Nat} {listed : Array Bool} {i : Nat} (hl : listed.size = n) (hi : i < n) : undone n (listed.setIfInBounds i true) = (undone n listed).erase i := by
 unfold undone
 rw [List.Nodup.erase_eq_filter (List.nodup_range.filter _), List.filter_filter]
 refine List.filter_congr fun k hk => ?_
 have hk' := List.mem_range.1 hk
 by_cases e : i = k
 ·subst e; simp [Array.getD, hl, hi]
 ·have h1 : (listed.setIfInBounds i true).getD k true = listed.getD k true := by
   simp [Array.getD_eq_getD_getElem?, Array.getElem?_setIfInBounds, e]
  rw [h1]
  simp [Ne.symm e]
theorem any_ops {im : Op → Bool} {all : List Oper} (ha : alone all = true) (hi : indep im all = true) : ∀ (fuel : Nat) {listed : Array Bool} {m : Nat → Option Nat} {a : Act} {w : World} {E E' : St}, listed.size = all.length → (undone all.length listed).length ≤ fuel →
  (∀ i o, all[i]? = some o → listed.getD i true = true → i < all.length → ∀ e ∈ o.after.toList, Region.binds .any e = true → listed.getD e.on false = true) →
  FreshAll all (undone all.length listed) E → Rel w0 L0 X m E.e E.s a w → Steps P im all (undone all.length listed) E E' → ∀ {Q : Exit → Act → World → Prop}, (∀ m' a' w', Rel w0 L0 X m' E'.e E'.s a' w' → Q .normal a' w') → wpAny P .any all.toArray Q fuel listed a w := by
 simp only [indep, Bool.and_eq_true] at hi
 obtain ⟨hah, hco⟩ := hi
 intro fuel
 have rdy : ∀ {listed : Array Bool}, listed.size = all.length → ∀ i, i ∈ Region.ready .any all.toArray listed ↔ i ∈ undone all.length listed ∧ ∃ o, all[i]? = some o ∧ ∀ e ∈ o.after.toList, Region.binds .any e = true → listed.getD e.on false = true := by
  intro listed hl i
  simp only [Region.ready, undone, List.mem_filter, List.size_toArray, List.getElem?_toArray, Bool.and_eq_true]
  constructor
  ·rintro ⟨h1, h2, h3⟩
   refine ⟨⟨h1, h2⟩, ?_⟩
   cases ho : all[i]? with
   | none => rw [ho] at h3; cases h3
   | some o =>
     rw [ho] at h3
     refine ⟨o, rfl, fun e he hb => ?_⟩
     simp only [Option.map_some, Option.getD_some, Array.all_eq_true_iff_forall_mem] at h3
     have := h3 e (by simpa using he)
     simpa [hb] using this
  ·rintro ⟨⟨h1, h2⟩, o, ho, h3⟩
   refine ⟨h1, h2, ?_⟩
   rw [ho]
   simp only [Option.map_some, Option.getD_some, Array.all_eq_true_iff_forall_mem]
   intro e he
   by_cases hb : Region.binds .any e = true
   ·simp [h3 e (by simpa using he) hb]
   ·simp [hb]
 -- as long as one is left, one may be taken
 have least : ∀ {listed : Array Bool}, listed.size = all.length → Region.ready .any all.toArray listed = [] → undone all.length listed = [] := by
  intro listed hl hr
  cases hu : undone all.length listed with
  | nil => rfl
  | cons i r =>
    exfalso
    have hmem : ∀ k, k ∈ undone all.length listed ↔ k < all.length ∧ listed.getD k true = false := fun k => by simp [undone]
    have hmin : ∀ k, k < i → listed.getD k false = true := by
     intro k hk
     have hii : i < all.length := ((hmem i).1 (by rw [hu]; simp)).1
     have hsort : (undone all.length listed).Pairwise (· < ·) := List.pairwise_lt_range.filter _
     rw [hu] at hsort
     have hks : k < listed.size := by omega
     cases hq : listed.getD k true with
     | true => simp [Array.getD, hks] at hq ⊢; exact hq
     | false =>
       have : k ∈ undone all.length listed := (hmem k).2 ⟨by omega, hq⟩
       rw [hu] at this
       rcases List.mem_cons.1 this with e | hm
       ·omega
       ·have := (List.pairwise_cons.1 hsort).1 k hm
        omega
    have hii : i < all.length := ((hmem i).1 (by rw [hu]; simp)).1
    have : i ∈ Region.ready .any all.toArray listed := (rdy hl i).2 ⟨by rw [hu]; simp, all[i], List.getElem?_eq_getElem hii, fun e he hb => by
     have h1 := List.all_eq_true.1 hah i (List.mem_range.2 hii)
     rw [List.getElem?_eq_getElem hii] at h1
     have h2 := List.all_eq_true.1 h1 e he
     simp only [hb, Bool.not_true, Bool.false_or, decide_eq_true_eq] at h2
     exact hmin _ h2⟩
    rw [hr] at this; cases this
 induction fuel with
 | zero =>
   intro listed m a w E E' hl hn hcl hf h hs Q hQ
   have hu : undone all.length listed = [] := List.eq_nil_of_length_eq_zero (by omega)
   rw [hu] at hs
   cases hs
   refine ⟨?_, hQ m a w h⟩
   cases hr : Region.ready .any all.toArray listed with
   | nil => rfl
   | cons i r =>
     have := ((rdy hl i).1 (by rw [hr]; simp)).1
     rw [hu] at this; cases this
 | succ n ih =>
   intro listed m a w E E' hl hn hcl hf h hs Q hQ
   refine ⟨fun hr => ?_, fun i hri => ?_⟩
   ·have hu := least hl hr
    rw [hu] at hs
    cases hs
    exact hQ m a w h
   ·obtain ⟨hu, o, ho, hd⟩ := (rdy hl i).1 hri
    have hii : i < all.length := (List.getElem?_eq_some_iff.1 ho).1
    have hnd : (undone all.length listed).Nodup := List.nodup_range.filter _
    have hsort : (undone all.length listed).Pairwise (· < ·) := List.pairwise_lt_range.filter _
    obtain ⟨E1, g1, g2⟩ := to_front ha ho hnd hu hf (fun j hj x hx => by
     have hju : j ∈ undone all.length listed := (List.takeWhile_prefix _).subset hj
     have hne : j ≠ i := by have := List.all_eq_true.1 List.all_takeWhile j hj; simpa using this
     have hji : j < i := by
      have : ∀ (R : List Nat), R.Pairwise (· < ·) → i ∈ R → j ∈ R.takeWhile (· != i) → j < i := by
       intro R
       induction R with
       | nil => intro _ h; cases h
       | cons k r ih =>
         intro hp hm hj
         have hp' := List.pairwise_cons.1 hp
         by_cases e : k = i
         ·simp [e] at hj
         ·have hmr : i ∈ r := (List.mem_cons.1 hm).resolve_left (Ne.symm e)
          simp only [List.takeWhile_cons, bne_iff_ne, ne_eq, e, not_false_eq_true, if_true, List.mem_cons] at hj
          rcases hj with rfl | hj
          ·exact hp'.1 i hmr
          ·exact ih hp'.2 hmr hj
      exact this _ hsort hu hj
     have h1 := List.all_eq_true.1 (List.all_eq_true.1 hco i (List.mem_range.2 hii)) j (List.mem_range.2 hji)
     simp only [hx, ho, Bool.or_eq_true] at h1
     rcases h1 with h1 | h1
     ·have := dep_listed hcl hl _ j i o ho hd h1
      have hjl : j < listed.size := by omega
      have h2 : listed.getD j true = false := by have := hju; simp only [undone, List.mem_filter, Bool.not_eq_true'] at this; exact this.2
      simp [Array.getD, hjl] at this h2
      rw [this] at h2; cases h2
     ·exact h1) hs
    refine stp_op ho h (hf i hu o ho) g1 fun m' a' w' h' => ?_
    have hue := undone_set (listed := listed) hl hii
    refine ih (by simpa using hl) ?_ ?_ ?_ h' (by rw [hue]; exact g2) hQ
    ·rw [hue, List.length_erase_of_mem hu]; omega
    ·intro k x hx hk hkl e he hb
     by_cases e1 : i = k
     ·subst e1
      rw [ho] at hx; cases hx
      have := hd e he hb
      have hne : e.on < all.length := by
       have hlt : e.on < listed.size := by
        rcases Nat.lt_or_ge e.on listed.size with h | h
        ·exact h
        ·simp [Array.getD, Nat.not_lt.2 h] at this
       omega
      simp [Array.getD_eq_getD_getElem?, Array.getElem?_setIfInBounds] at this ⊢
      split
      ·split <;> simp_all
      ·exact this
     ·have hk' : listed.getD k true = true := by
       simpa [Array.getD_eq_getD_getElem?, Array.getElem?_setIfInBounds, e1] using hk
      have := hcl k x hx hk' hkl e he hb
      simp [Array.getD_eq_getD_getElem?, Array.getElem?_setIfInBounds] at this ⊢
      split
      ·split <;> simp_all
      ·exact this
    ·rw [hue]
     have hf' : FreshAll all ((undone all.length listed).erase i) E := fun k hk => hf k (List.mem_of_mem_erase hk)
     exact freshAll_step ha ho (List.Nodup.not_mem_erase hnd) hf' g1
end
end Go.Fw
end
section
namespace Go.Fw
variable {P : Program}
def RunP (P : Program) (w0 : World) (L0 : Par) (X : Nat → Prop) (c : Code) (E : St) (Q : Exit → St → Prop) : Prop :=
 ∀ {m : Nat → Option Nat} {a : Act} {w : World}, Rel w0 L0 X m E.e E.s a w → c.wp P (fun x a' w' => ∃ E' m', Q x E' ∧ Rel w0 L0 X m' E'.e E'.s a' w') a w
def Run (P : Program) (c : Code) (E : St) (Q : Exit → St → Prop) : Prop := ∀ (w0 : World) (L0 : Par) (X : Nat → Prop), RunP P w0 L0 X c E Q
def Then (R : St → Prop) (Q : Exit → St → Prop) : Exit → St → Prop
 | .normal, E => R E
 | x, E => Q x E
theorem Then_normal {R : St → Prop} {Q : Exit → St → Prop} {E : St} : Then R Q .normal E = R E := rfl
theorem tN {R : St → Prop} {Q : Exit → St → Prop} {E : St} : Then R Q .normal E = R E := rfl
theorem Then_exit {R : St → Prop} {Q : Exit → St → Prop} {E : St} {i : Nat} : Then R Q (.exit i) E = Q (.exit i) E := rfl
theorem Then_goto {R : St → Prop} {Q : Exit → St → Prop} {E : St} {i : Nat} : Then R Q (.goto i) E = Q (.goto i) E := rfl
theorem Then_ret {R : St → Prop} {Q : Exit → St → Prop} {E : St} : Then R Q .ret E = Q .ret E := rfl
def Blok (id : Nat) (Q : Exit → St → Prop) : Exit → St → Prop
 | .exit i, E => if i = id then Q .normal E else Q (.exit i) E
 | x, E => Q x E
theorem Blok_normal {Q : Exit → St → Prop} {id : Nat} {E : St} : Blok id Q .normal E = Q .normal E := rfl
theorem Blok_exit {Q : Exit → St → Prop} {id i : Nat} {E : St} : Blok id Q (.exit i) E = if i = id then Q .normal E else Q (.exit i) E := rfl
theorem Blok_goto {Q : Exit → St → Prop} {id i : Nat} {E : St} : Blok id Q (.goto i) E = Q (.goto i) E := rfl
theorem Blok_ret {Q : Exit → St → Prop} {id : Nat} {E : St} : Blok id Q .ret E = Q .ret E := rfl
section
variable {w0 : World} {L0 : Par} {X : Nat → Prop} {Q Q' : Exit → St → Prop} {E : St}
theorem RunP.mono {c : Code} (h : RunP P w0 L0 X c E Q) (hq : ∀ x E, Q x E → Q' x E) : RunP P w0 L0 X c E Q' := fun hr => wp_mono (h hr) fun x a w ⟨E', m', q, r⟩ => ⟨E', m', hq _ _ q, r⟩
end
variable {Q Q' : Exit → St → Prop} {E : St}
theorem Run.mono {c : Code} (h : Run P c E Q) (hq : ∀ x E, Q x E → Q' x E) : Run P c E Q' := fun w0 L0 X => RunP.mono (h w0 L0 X) hq
theorem Run.skip (h : Q .normal E) : Run P .skip E Q := fun _ _ _ _ _ _ hr => wp_skip ⟨E, _, h, hr⟩
theorem Run.label {l : Nat} (h : Q .normal E) : Run P (.label l) E Q := fun _ _ _ _ _ _ hr => wp_label ⟨E, _, h, hr⟩
theorem Run.exit {id : Nat} (h : Q (.exit id) E) : Run P (.exit id) E Q := fun _ _ _ _ _ _ hr => wp_exit ⟨E, _, h, hr⟩
theorem Run.goto {l : Nat} (h : Q (.goto l) E) : Run P (.goto l) E Q := fun _ _ _ _ _ _ hr => wp_goto ⟨E, _, h, hr⟩
theorem Run.ret (h : Q .ret E) : Run P .ret E Q := fun _ _ _ _ _ _ hr => wp_ret ⟨E, _, h, hr⟩
theorem Run.seq {x y : Code} (h : Run P x E (Then (fun E' => Run P y E' Q) Q)) : Run P (.seq x y) E Q := fun w0 L0 X m a w hr => by
 refine wp_seq (wp_mono (h w0 L0 X hr) fun x a' w' hx => ?_)
 obtain ⟨E', m', q, r⟩ := hx
 cases x with
 | normal => exact q w0 L0 X r
 | exit i => exact ⟨E', m', q, r⟩
 | goto l => exact ⟨E', m', q, r⟩
 | ret => exact ⟨E', m', q, r⟩
 | panic ch => exact ⟨E', m', q, r⟩
 | outgrown => exact ⟨E', m', q, r⟩
theorem Run.cond {c : Operand} {x y : Code} {b : Bool} (hc : look E.e c = .d (.lit (.bool b))) (ht : b = true → Run P x E Q) (hf : b = false → Run P y E Q) : Run P (.cond c x y) E Q := fun w0 L0 X m a w hr => by
 have h1 := hr.look c
 rw [hc] at h1
 have h2 := h1.lit_inv
 cases b
 ·exact wp_cond_false h2 (hf rfl w0 L0 X hr)
 ·exact wp_cond_true h2 (ht rfl w0 L0 X hr)
theorem Run.block {id : Nat} {c : Code} (h : Run P c E (Blok id Q)) : Run P (.block id c) E Q := fun w0 L0 X m a w hr => by
 refine wp_block (wp_mono (h w0 L0 X hr) fun x a' w' hx => ?_)
 obtain ⟨E', m', q, r⟩ := hx
 cases x with
 | normal => exact ⟨E', m', q, r⟩
 | exit i =>
   simp only [Blok_exit] at q
   simp only [Exit.inBlock]
   split at q
   ·rename_i e; rw [if_pos e]; exact ⟨E', m', q, r⟩
   ·rename_i e; rw [if_neg e]; exact ⟨E', m', q, r⟩
 | goto l => exact ⟨E', m', q, r⟩
 | ret => exact ⟨E', m', q, r⟩
 | panic ch => exact ⟨E', m', q, r⟩
 | outgrown => exact ⟨E', m', q, r⟩
def leE : List V → List V → Prop
 | [], [] => True
 | a :: r, b :: t => (b = .top ∨ a = b) ∧ leE r t
 | _, _ => False
def leS (s : Store) : Store → Prop
 | [] => True
 | (i, b) :: r => getB s i = some b ∧ leS s r
def Le (E F : St) : Prop := leE E.e F.e ∧ leS E.s F.s
theorem leE_all {a b : List V} (h : leE a b) : b.length = a.length ∧ ∀ (j : Nat) (x : V), b[j]? = some x → x = .top ∨ a[j]? = some x := by
 induction a generalizing b with
 | nil => cases b <;> simp_all [leE]
 | cons v r ih =>
   cases b with
   | nil => exact h.elim
   | cons u t =>
     obtain ⟨h1, h2⟩ := h
     obtain ⟨h3, h4⟩ := ih h2
     refine ⟨by simp [h3], fun j x hj => ?_⟩
     cases j with
     | zero => simp at hj; subst hj; rcases h1 with h1 | h1 <;> simp [h1]
     | succ j => simp at hj ⊢; exact h4 j x hj
theorem leS_get {s t : Store} (h : leS s t) {i : Nat} {b : Blk} (hi : getB t i = some b) : getB s i = some b := by
 induction t with
 | nil => cases hi
 | cons x r ih =>
   obtain ⟨j, c⟩ := x
   simp only [getB] at hi
   split at hi
   ·rename_i e; subst e; cases hi; exact h.1
   ·exact ih h.2 hi
theorem Rel.le {w0 : World} {L0 : Par} {X : Nat → Prop} {m : Nat → Option Nat} {F : St} {a : Act} {w : World} (h : Rel w0 L0 X m E.e E.s a w) (hl : Le E F) : Rel w0 L0 X m F.e F.s a w := by
 obtain ⟨h1, h2⟩ := leE_all hl.1
 have hown : ∀ b, Own m F.s b → Own m E.s b := by
  rintro b ⟨i, blk, g1, g2⟩
  exact ⟨i, blk, leS_get hl.2 g1, g2⟩
 have hL : ∀ b, Live X m F.s b → Live X m E.s b ∨ w.heap.size ≤ b := fun b hb => .inl (hb.imp_right (hown b))
 have hk : CellsKept (Live X m E.s) w w := fun _ _ _ q => q
 have hz : SizesKept w w := fun _ cs _ _ q => ⟨cs, q, rfl⟩
 refine ⟨⟨h.env.len.trans h1.symm, fun j x v q1 q2 => ?_⟩, ⟨fun i blk hi => ?_, fun i j b q1 q2 q3 q4 => ?_⟩, h.dfr, h.ext, fun b hb => h.liv b (hown b hb), h.old, fun i hi hs => h.par i hi (by
  obtain ⟨c, hc⟩ := Option.isSome_iff_exists.1 hs
  rw [leS_get hl.2 hc]; rfl)⟩
 ·rcases h2 j x q1 with rfl | g
  ·exact .top v
  ·exact VRel.mono' hk hz hL (h.env.at_ j x v g q2)
 ·rcases h.sto.blk i blk (leS_get hl.2 hi) with ⟨b, r1, r2⟩ | r
  ·exact .inl ⟨b, r1, BRel.mono (p := fun _ => false) hk hz hL (fun _ _ => rfl) rfl (by cases blk <;> first | exact menL_false _ | trivial) r2⟩
  ·exact .inr r
 ·have key : ∀ i, (getB F.s i).isSome = true → (getB E.s i).isSome = true := fun i q => by
   obtain ⟨c, hc⟩ := Option.isSome_iff_exists.1 q
   rw [leS_get hl.2 hc]; rfl
  exact h.sto.inj i j b q1 q2 (key i q3) (key j q4)
theorem Run.le {c : Code} {F : St} (hl : Le E F) (h : Run P c F Q) : Run P c E Q := fun w0 L0 X m a w hr => h w0 L0 X (hr.le hl)
theorem Run.virt {c : Code} {e : Env} {s : Store} (k id sz : Nat) (h90 : 90 ≤ id) (hk : e.getD k .top = vnil ∨ e.getD k .top = .d (.sl false [])) (h : Run P c ⟨(V.fgtL (· == id) e).set k (.rs id sz 0 0), putB (fgtS (· == id) s) id (.data sz [])⟩ Q) (hn : e.getD k .top = vnil) : Run P c ⟨e, s⟩ Q := fun w0 L0 X m a w hr => by
 have hp : hitO none id = (· == id) := by funext i; simp [hitO]
 have h1 := hr.swap h90 (k := none) (id := id) (ob := none) (blk := .data sz []) (w' := w) (by simp) (fun _ _ _ q => q) (fun _ cs _ _ q => ⟨cs, q, rfl⟩) (fun _ _ _ => rfl) rfl rfl rfl (Nat.le_refl _) (.inl ⟨rfl, sz, rfl⟩)
 rw [hp] at h1
 have hv := hr.look (.tmp k)
 simp only [look, hn] at hv
 have hv := hv.lit_inv
 have hlt : k < e.length := by
  rcases Nat.lt_or_ge k e.length with h | h
  ·exact h
  ·rw [List.getD_eq_getElem?_getD, List.getElem?_eq_none h] at hn; cases hn
 have hlt' : k < a.tmps.size := by have := hr.env.len; simp at this; omega
 have e1 : a.put (some k) (.slice none 0 0) = a := by
  cases a with
  | mk tmps defers =>
    simp only [Act.eval] at hv
    simp only [Act.put]
    congr 1
    apply Array.ext
    ·simp
    ·intro j h1 h2
     by_cases e : k = j
     ·subst e
      have e2 : tmps.getD k undef = tmps[k] := by simp [Array.getD, h2]
      rw [e2] at hv
      simp [hv]
     ·rw [Array.getElem_setIfInBounds, if_neg e]
 have h2 := h1.put (some k) (x := .rs id sz 0 0) (v := .slice none 0 0) (.rsE id sz)
 rw [e1] at h2
 exact h w0 L0 X h2
theorem wp_loop_by {α : Type} {c : Code} {Q : Exit → Act → World → Prop} (J : α → Act → World → Prop) (μ : α → Nat) (round : ∀ x a w, J x a w → c.wp P (Exit.then (fun a' w' => ∃ y, J y a' w' ∧ μ y < μ x) Q) a w) {x0 : α} {a : Act} {w : World} (h0 : J x0 a w) : (Code.loop c).wp P Q a w := by
 intro b k cs
 have key : ∀ n x a w, μ x = n → J x a w → ∃ e a' w', Q e a' w' ∧ Arrives P (lone (b.at a (.code c :: .inLoop c :: k)) cs w) b k cs e a' w' := by
  intro n
  induction n using Nat.strongRecOn with
  | _ n ih =>
    intro x a w hn hI
    obtain ⟨e, a₁, w₁, hq, harr⟩ := round x a w hI b (.inLoop c :: k) cs
    cases e with
    | normal =>
      obtain ⟨y, hI₁, hlt⟩ := hq
      obtain ⟨e₂, a₂, w₂, hq₂, harr₂⟩ := ih (μ y) (hn ▸ hlt) y a₁ w₁ rfl hI₁
      exact ⟨e₂, a₂, w₂, hq₂, .of_steps (Steps.trans harr (.one step_inLoop)) harr₂⟩
    | exit id => exact ⟨_, a₁, w₁, hq, .pass (x := .inLoop c) rfl (fun _ _ => .inl (by simp)) harr⟩
    | goto l => exact ⟨_, a₁, w₁, hq, .pass (x := .inLoop c) rfl (fun _ _ => .inl (by simp)) harr⟩
    | ret => exact ⟨_, a₁, w₁, hq, .pass (x := .inLoop c) rfl (fun _ _ => .inl (by simp)) harr⟩
    | panic ch => exact ⟨_, a₁, w₁, hq, .pass (x := .inLoop c) rfl (fun _ _ => .inl (by simp)) harr⟩
    | outgrown => exact ⟨_, a₁, w₁, hq, .pass (x := .inLoop c) rfl (fun _ _ => .inl (by simp)) harr⟩
 obtain ⟨e, a', w', hq, harr⟩ := key _ x0 a w rfl h0
 exact ⟨e, a', w', hq, .of_steps (.one step_loop) harr⟩
theorem Run.loop {c : Code} {α : Type} (F : α → St) (I : α → Prop) (μ : α → Nat) (x0 : α) (h0 : I x0) (hE : Le E (F x0))
  (hstep : ∀ x, I x → Run P c (F x) (Then (fun E' => ∃ y, I y ∧ μ y < μ x ∧ Le E' (F y)) Q)) : Run P (.loop c) E Q := fun w0 L0 X m a w hr => by
 refine wp_loop_by (fun x a w => I x ∧ ∃ m, Rel w0 L0 X m (F x).e (F x).s a w) μ (fun x a w hx => ?_) (x0 := x0) ⟨h0, m, hr.le hE⟩
 obtain ⟨hI, m, hr⟩ := hx
 refine wp_mono (hstep x hI w0 L0 X hr) fun ex a' w' hx => ?_
 obtain ⟨E', m', q, r⟩ := hx
 cases ex with
 | normal =>
   obtain ⟨y, hy, hlt, hle⟩ := q
   exact ⟨y, ⟨hy, m', r.le hle⟩, hlt⟩
 | exit i => exact ⟨E', m', q, r⟩
 | goto l => exact ⟨E', m', q, r⟩
 | ret => exact ⟨E', m', q, r⟩
 | panic ch => exact ⟨E', m', q, r⟩
 | outgrown => exact ⟨E', m', q, r⟩
def enterE (all : List Oper) (e : Env) : Env := if (ks all).isEmpty then e else V.fgtL (madeIn all) e
def enterS (all : List Oper) (s : Store) : Store := if (ks all).isEmpty then s else fgtS (madeIn all) s
def okReg (im : Op → Bool) (draw : Bool) (all : List Oper) : Bool := alone all && (!draw || indep im all)
theorem ks_nil {all : List Oper} (h : (ks all).isEmpty = true) : ∀ o ∈ all, makes o = false := by
 intro o ho
 cases hm : makes o with
 | false => rfl
 | true =>
   have : newId o.dst / 100 ∈ ks all := by simp only [ks, List.mem_filterMap]; exact ⟨o, ho, by simp [hm]⟩
   rw [List.isEmpty_iff.1 h] at this
   cases this
theorem Run.region {im : Op → Bool} {id : Nat} {ops : Array Oper} {draw : Bool} (hm : P.follows .mixedOrders = true) (hk : okReg im draw ops.toList = true) {e : Env} {s : Store} {E' : St}
  (hs : Steps P im ops.toList (List.range ops.toList.length) ⟨enterE ops.toList e, enterS ops.toList s⟩ E') (hq : Q .normal E') : Run P (.region id ops draw) ⟨e, s⟩ Q := fun w0 L0 X m a w hr => by
 simp only [okReg, Bool.and_eq_true, Bool.or_eq_true, Bool.not_eq_true'] at hk
 obtain ⟨ha, hd⟩ := hk
 have henter : Rel w0 L0 X m (enterE ops.toList e) (enterS ops.toList s) a w ∧ FreshAll ops.toList (List.range ops.toList.length) ⟨enterE ops.toList e, enterS ops.toList s⟩ := by
  unfold enterE enterS
  by_cases h : (ks ops.toList).isEmpty = true
  ·simp only [h, if_true]
   refine ⟨hr, fun i _ o ho hm => ?_⟩
   have := ks_nil h o (List.mem_of_getElem? ho)
   rw [this] at hm; cases hm
  ·simp only [h, if_false]
   exact ⟨hr.fgt _, fresh_enter⟩
 obtain ⟨h1, h2⟩ := henter
 have fin : ∀ m' a' w', Rel w0 L0 X m' E'.e E'.s a' w' → ∃ E'' m'', Q .normal E'' ∧ Rel w0 L0 X m'' E''.e E''.s a' w' := fun m' a' w' h => ⟨E', m', hq, h⟩
 cases draw with
 | false =>
   refine wp_region ?_
   have := seq_ops (P := P) (w0 := w0) (L0 := L0) (X := X) ha List.nodup_range h2 h1 hs (Q := fun x a' w' => ∃ E' m', Q x E' ∧ Rel w0 L0 X m' E'.e E'.s a' w') fin
   simpa using this
 | true =>
   have hi : indep im ops.toList = true := by rcases hd with h | h; exact absurd h (by simp); exact h
   refine wp_region_any hm ?_
   have hu : undone ops.toList.length (Array.replicate ops.size false) = List.range ops.toList.length := by
    unfold undone
    rw [List.filter_eq_self]
    intro k hk
    have := List.mem_range.1 hk
    simp at this
    simp [Array.getD, this]
   have h3 : Rel w0 L0 X m (enterE ops.toList e) (enterS ops.toList s) a { w with drawn := w.drawn + 1 } := by
    have hk : CellsKept (Live X m (enterS ops.toList s)) w { w with drawn := w.drawn + 1 } := fun _ _ _ q => q
    have hz : SizesKept w { w with drawn := w.drawn + 1 } := fun _ cs _ _ q => ⟨cs, q, rfl⟩
    refine ⟨⟨h1.env.len, fun j x v q1 q2 => VRel.mono' hk hz (fun b hb => .inl hb) (h1.env.at_ j x v q1 q2)⟩, ⟨fun i blk hi => ?_, h1.sto.inj⟩, h1.dfr, ⟨h1.ext.os, h1.ext.tape, h1.ext.output, h1.ext.size, h1.ext.block, h1.ext.sizes⟩, h1.liv, h1.old, h1.par⟩
    rcases h1.sto.blk i blk hi with ⟨b, r1, r2⟩ | r
    ·exact .inl ⟨b, r1, BRel.mono (p := fun _ => false) hk hz (fun b hb => .inl hb) (fun _ _ => rfl) rfl (by cases blk <;> first | exact menL_false _ | trivial) r2⟩
    ·exact .inr r
   have := any_ops (P := P) (w0 := w0) (L0 := L0) (X := X) ha hi ops.size (listed := Array.replicate ops.size false) (by simp) (by rw [hu]; simp) (fun i o ho hl hlt e he hb => by
    simp at hlt
    simp [Array.getD, hlt] at hl) (by rw [hu]; exact h2) h3 (by rw [hu]; exact hs) (Q := fun x a' w' => ∃ E' m', Q x E' ∧ Rel w0 L0 X m' E'.e E'.s a' w') fin
   simpa using this
def ECall (P : Program) (g : FuncId) (args : List V) (dst : Option Nat) (k : Env → Store → Prop) (e : Env) (s : Store) : Prop := ∃ r τ, dst.isSome = true ∧ Snd P g args r τ ∧ okIds r τ = true ∧ k (put e dst (r.shift (newId dst))) (addS s (newId dst) τ)
def ECallF (P : Program) (g : FuncId) (args : List V) (dst : Option Nat) (k : Env → Store → Prop) (e : Env) (s : Store) : Prop := ∃ x, dst.isSome = true ∧ V.menL (fun _ => true) (V.finL [] s args) = false ∧ Snd P g (V.finL [] s args) (.d (.lit x)) [] ∧ k (put e dst (.d (.lit x))) s
def ECallW (P : Program) (g : FuncId) (args : List V) (dst : Option Nat) (k : Env → Store → Prop) (e : Env) (s : Store) : Prop := ∃ ids args0 s0 r s1, dst.isSome = true ∧ args = V.renL (rho ids (newId dst)) args0 ∧ (∀ x ∈ s0, getB s (ids.getD x.1 0) = some (x.2.ren (rho ids (newId dst)))) ∧
 okW ids s0 args0 r s1 = true ∧ SndW P g args0 s0 r s1 ∧ k (put e dst (r.ren (rho ids (newId dst)))) (puts (dropS (lost ids s1) s) (renS (rho ids (newId dst)) s1))
def exec (P : Program) (im : Op → Bool) (o : Oper) (k : Env → Store → Prop) (e : Env) (s : Store) : Prop := match cls o.op with
 | .p => match opP P o.op (look e) with | some (c, v) => c ∧ (c → k (put e o.dst v) s) | none => False
 | .r => match opR P o.op (look e) s with | some (c, v) => c ∧ (c → k (put e o.dst v) s) | none => False
 | .a => match o.dst with
   | some d => match opA P o.op (look e) (100 * (d + 1)) with | some (c, v, blk) => c ∧ (c → k (put e (some d) v) (putB s (100 * (d + 1)) blk)) | none => False
   | none => False
 | .w => match opW P o.op (look e) s with | some (c, s') => c ∧ (c → k (put e o.dst vundef) s') | none => False
 | .x => match o.op with
   | .call cl => match cl.callee with
     | .builtin .append => match opAppend P cl (look e) s with
       | some (kk, c, sz, all) => c ∧ (c → k (put (V.fgtL (hitO kk (newId o.dst)) e) o.dst (.rs (newId o.dst) sz 0 all.length)) (putB (fgtS (hitO kk (newId o.dst)) s) (newId o.dst) (.data sz all)))
       | none => match opAppendV P cl (look e) s with
         | some (kk, c, sz, n, all) => c ∧ (c → k (put (V.fgtL (hitO kk (newId o.dst)) e) o.dst (.rs (newId o.dst) sz 0 n)) (putB (fgtS (hitO kk (newId o.dst)) s) (newId o.dst) (.vals (V.fgtL (hitO kk (newId o.dst)) all))))
         | none => False
     | _ => False
   | _ => False
 | .c => match callOf o.op (look e) with
   | some (g, args) => match im o.op with
     | true => ECallW P g args o.dst k e s
     | false => if V.menL (fun _ => true) args = false then ECall P g args o.dst k e s else ECallF P g args o.dst k e s
   | none => False
theorem exec_do {im : Op → Bool} {o : Oper} {k : Env → Store → Prop} {e : Env} {s : Store} (h : exec P im o k e s) : ∃ E', DoI P im o ⟨e, s⟩ E' ∧ k E'.e E'.s := by
 unfold exec at h
 unfold DoI Do Loc
 cases hc : cls o.op <;> rw [hc] at h <;> simp only at h ⊢
 ·split at h
  ·rename_i c v hv; exact ⟨_, ⟨v, s, ⟨c, hv, h.1, rfl⟩, rfl⟩, h.2 h.1⟩
  ·exact h.elim
 ·split at h
  ·rename_i c v hv; exact ⟨_, ⟨v, s, ⟨c, hv, h.1, rfl⟩, rfl⟩, h.2 h.1⟩
  ·exact h.elim
 ·split at h
  ·rename_i d hd
   split at h
   ·rename_i c v blk hv
    refine ⟨⟨put e (some d) v, putB s (100 * (d + 1)) blk⟩, ⟨v, _, ⟨c, blk, by rw [hd]; rfl, by rw [hd]; exact hv, h.1, rfl⟩, ?_⟩, h.2 h.1⟩
    rw [hd]; rfl
   ·exact h.elim
  ·exact h.elim
 ·split at h
  ·rename_i c s' hv; exact ⟨_, ⟨c, s', hv, h.1, rfl⟩, h.2 h.1⟩
  ·exact h.elim
 ·split at h
  ·rename_i cl ho
   split at h
   ·rename_i hcal
    split at h
    ·rename_i kk c sz all hv
     exact ⟨_, ⟨cl, ho, hcal, kk, c, sz, _, _, .inl ⟨all, hv, rfl, rfl⟩, h.1, rfl⟩, h.2 h.1⟩
    ·split at h
     ·rename_i kk c sz n all hv
      exact ⟨_, ⟨cl, ho, hcal, kk, c, sz, n, _, .inr ⟨all, hv, rfl⟩, h.1, rfl⟩, h.2 h.1⟩
     ·exact h.elim
   ·exact h.elim
  ·exact h.elim
 ·split at h
  ·rename_i g args hv
   cases him : im o.op with
   | false =>
     rw [him] at h
     simp only at h ⊢
     split at h
     ·rename_i hp
      obtain ⟨r, τ, h1, h2, h3, h4⟩ := h
      exact ⟨_, ⟨_, _, ⟨g, args, args, r, τ, h1, hv, .inl rfl, hp, h2, h3, rfl, rfl⟩, rfl⟩, h4⟩
     ·obtain ⟨x, h1, hp, h2, h4⟩ := h
      exact ⟨_, ⟨_, _, ⟨g, args, _, _, [], h1, hv, .inr ⟨rfl, x, rfl, rfl⟩, hp, h2, rfl, rfl, rfl⟩, rfl⟩, h4⟩
   | true =>
     rw [him] at h
     simp only at h ⊢
     obtain ⟨ids, args0, s0, r, s1, h1, rfl, h3, h4, h5, h6⟩ := h
     exact ⟨_, ⟨g, args0, ids, s0, r, s1, h1, hv, h3, h4, h5, rfl⟩, h6⟩
  ·exact h.elim
def GSplit (b want : Bool) (A B : Prop) : Prop := (b = want → A) ∧ (b = !want → B)
theorem gsplit {b want : Bool} {A B : Prop} (h1 : b = want → A) (h2 : b = !want → B) : GSplit b want A B := ⟨h1, h2⟩
theorem gs_tt {A B : Prop} : GSplit true true A B = A := by simp [GSplit]
theorem gs_ff {A B : Prop} : GSplit false false A B = A := by simp [GSplit]
theorem gs_tf {A B : Prop} : GSplit true false A B = B := by simp [GSplit]
theorem gs_ft {A B : Prop} : GSplit false true A B = B := by simp [GSplit]
@[congr] theorem gs_congr {b b' want : Bool} {A B : Prop} (h : b = b') : GSplit b want A B = GSplit b' want A B := by rw [h]
theorem set_same {e : Env} {k : Nat} {v : V} (h : e.getD k .top = v) : e.set k v = e := by
 apply List.ext_getElem?
 intro j
 rw [List.getElem?_set]
 split
 ·rename_i e1; subst e1
  split
  ·rename_i hlt; rw [← h]; simp [List.getD_eq_getElem?_getD, List.getElem?_eq_getElem hlt]
  ·rename_i hlt; rw [List.getElem?_eq_none (by omega)]
 ·rfl
def setG (e : Env) (k : Nat) (want : Bool) : Env := match e.getD k .top with
 | .d (.lit (.bool _)) => e.set k (.d (.lit (.bool !want)))
 | _ => e
def EvO (P : Program) (im : Op → Bool) (all : List Oper) (K : Env → Store → Prop) : List Oper → Env → Store → Prop
 | [], e, s => K e s
 | o :: os, e, s => match guardOf all e o.guard with
   | none => False
   | some none => exec P im o (EvO P im all K os) e s
   | some (some (k, want, b)) => GSplit b want (exec P im o (EvO P im all K os) (e.set k (.d (.lit (.bool want)))) s) (EvO P im all K os (put (setG e k want) o.dst vundef) s)
theorem evO_steps {im : Op → Bool} {all : List Oper} {K : Env → Store → Prop} : ∀ {os : List Oper} {n : Nat} {e : Env} {s : Store}, all.drop n = os → EvO P im all K os e s → ∃ E', Steps P im all (List.range' n os.length) ⟨e, s⟩ E' ∧ K E'.e E'.s := by
 intro os
 induction os with
 | nil => intro n e s _ h; exact ⟨⟨e, s⟩, rfl, h⟩
 | cons o os ih =>
   intro n e s hd h
   have ho : all[n]? = some o := by
    have := congrArg List.head? hd
    simpa [List.head?_drop] using this
   have hd' : all.drop (n + 1) = os := by rw [← List.drop_drop, hd]; rfl
   have fin : ∀ {e' : Env} {s' : Store}, Stp P im all o ⟨e, s⟩ ⟨e', s'⟩ → EvO P im all K os e' s' → ∃ E', Steps P im all (List.range' n (o :: os).length) ⟨e, s⟩ E' ∧ K E'.e E'.s := by
    intro e' s' h1 h2
    obtain ⟨E', g1, g2⟩ := ih hd' h2
    exact ⟨E', ⟨o, ho, ⟨e', s'⟩, h1, g1⟩, g2⟩
   simp only [EvO] at h
   cases hg : guardOf all e o.guard with
   | none => rw [hg] at h; exact h.elim
   | some q =>
     rw [hg] at h
     cases q with
     | none =>
       obtain ⟨E1, h1, h2⟩ := exec_do h
       exact fin (by unfold Stp; rw [hg]; exact h1) h2
     | some q =>
       obtain ⟨k, want, b⟩ := q
       simp only [GSplit] at h
       rcases bool_or b want with hb | hb
       ·have he : e.set k (.d (.lit (.bool want))) = e ∨ b = !want := by
         unfold guardOf at hg
         split at hg
         ·cases hg
         ·split at hg
          ·split at hg
           ·split at hg
            ·rename_i b' hk'
             cases hg
             left
             rw [← hb, ← hk']
             apply List.ext_getElem?
             intro j
             rw [List.getElem?_set]
             split
             ·rename_i e1; subst e1
              split
              ·rename_i hlt; simp [List.getD_eq_getElem?_getD, List.getElem?_eq_getElem hlt]
              ·rename_i hlt; rw [List.getElem?_eq_none (by omega)]
             ·rfl
            ·cases hg; right; rfl
            ·cases hg
           ·cases hg
          ·cases hg
        rcases he with he | he
        ·have h1 := h.1 hb
         rw [he] at h1
         obtain ⟨E1, h1, h2⟩ := exec_do h1
         exact fin (by unfold Stp; rw [hg]; exact ⟨fun _ => h1, fun hn => by subst hb; cases b <;> simp at hn⟩) h2
        ·exact absurd he (by rw [hb]; cases want <;> simp)
       ·have he : setG e k want = e := by
         unfold guardOf at hg
         split at hg
         ·cases hg
         ·split at hg
          ·split at hg
           ·split at hg
            ·rename_i b' hk'
             cases hg
             unfold setG
             rw [hk']
             simp only
             exact set_same (by rw [hk', hb])
            ·rename_i v hk'
             cases hg
             unfold setG
             rw [hk']
            ·cases hg
           ·cases hg
          ·cases hg
        have h2 := h.2 hb
        rw [he] at h2
        exact fin (by unfold Stp; rw [hg]; exact ⟨fun hn => by subst hb; cases want <;> simp at hn, fun _ => rfl⟩) h2
theorem Run.opsI (im : Op → Bool) {id : Nat} {ops : Array Oper} {draw : Bool} (hm : P.follows .mixedOrders = true) (hk : okReg im draw ops.toList = true) {e : Env} {s : Store}
  (h : ∀ K : Env → Store → Prop, (∀ e s, Q .normal ⟨e, s⟩ → K e s) → EvO P im ops.toList K ops.toList (enterE ops.toList e) (enterS ops.toList s)) : Run P (.region id ops draw) ⟨e, s⟩ Q := by
 obtain ⟨E', h1, h2⟩ := evO_steps (P := P) (im := im) (n := 0) (List.drop_zero ..) (h (fun e s => Q .normal ⟨e, s⟩) fun _ _ h => h)
 rw [← List.range_eq_range'] at h1
 exact Run.region hm hk h1 h2
theorem Run.ops {id : Nat} {ops : Array Oper} {draw : Bool} (hm : P.follows .mixedOrders = true) (hk : okReg (fun _ => false) draw ops.toList = true) {e : Env} {s : Store}
  (h : ∀ K : Env → Store → Prop, (∀ e s, Q .normal ⟨e, s⟩ → K e s) → EvO P (fun _ => false) ops.toList K ops.toList (enterE ops.toList e) (enterS ops.toList s)) : Run P (.region id ops draw) ⟨e, s⟩ Q := Run.opsI (fun _ => false) hm hk h
theorem ecallW (ids : List Nat) {g : FuncId} {args args0 : List V} {d : Nat} {k : Env → Store → Prop} {e : Env} {s s0 s1 : Store} {r : V} (h : SndW P g args0 s0 r s1) (ha : V.renL (rho ids (100 * (d + 1))) args0 = args) (hs : ∀ x ∈ s0, getB s (ids.getD x.1 0) = some (x.2.ren (rho ids (100 * (d + 1)))))
  (hok : okW ids s0 args0 r s1 = true) (hk : k (put e (some d) (r.ren (rho ids (100 * (d + 1))))) (puts (dropS (lost ids s1) s) (renS (rho ids (100 * (d + 1))) s1))) : ECallW P g args (some d) k e s := ⟨ids, args0, s0, r, s1, rfl, ha.symm, hs, hok, h, hk⟩
theorem ecallP {g : FuncId} {args : List V} {d : Nat} {k : Env → Store → Prop} {e : Env} {s : Store} {x : D} (hp : V.menL (fun _ => true) args = false) (h : Snd P g args (.d x) []) (hk : k (put e (some d) (.d x)) s) : ECallW P g args (some d) k e s := by
 refine ecallW [] (h.w hp) ?_ (fun x hx => (by cases hx)) ?_ ?_
 ·have : ∀ (ρ : Nat → Nat) (x : V), x.men (fun _ => true) = false → x.ren ρ = x := fun ρ x => by
   induction x using V.rec (motive_2 := fun l => V.menL (fun _ => true) l = false → V.renL ρ l = l) <;> simp_all [V.men, V.menL, V.ren, V.renL]
  have l : ∀ (ρ : Nat → Nat) (l : List V), V.menL (fun _ => true) l = false → V.renL ρ l = l := fun ρ l => by
   induction l with
   | nil => intro _; rfl
   | cons v r ih => intro h; simp only [V.menL, Bool.or_eq_false_iff] at h; simp only [V.renL]; rw [this _ _ h.1, ih h.2]
  exact l _ _ hp
 ·have : V.menL (fun j => decide (([] : List Nat).length ≤ j)) args = false := by
   have : (fun j => decide (([] : List Nat).length ≤ j)) = fun _ => true := by funext j; simp
   rw [this]; exact hp
  simp only [okW, this]
  rfl
 ·have : dropS (lost [] []) s = s := by
   have nl : ∀ i, lost [] [] i = false := fun i => rfl
   clear hk
   induction s with
   | nil => rfl
   | cons x r ih => obtain ⟨i, b⟩ := x; simp [dropS, nl, ih]
  rw [this]
  exact hk
theorem ecall {g : FuncId} {args : List V} {d : Nat} {k : Env → Store → Prop} {e : Env} {s : Store} {r : V} {τ : Store} (h : Snd P g args r τ) (hok : okIds r τ = true) (hk : k (put e (some d) (r.shift (100 * (d + 1)))) (addS s (100 * (d + 1)) τ)) : ECall P g args (some d) k e s := ⟨r, τ, rfl, h, hok, hk⟩
theorem ecallD {g : FuncId} {args : List V} {d : Nat} {k : Env → Store → Prop} {e : Env} {s : Store} {x : D} (h : Snd P g args (.d x) []) (hk : k (put e (some d) (.d x)) s) : ECall P g args (some d) k e s := ⟨_, _, rfl, h, rfl, hk⟩
end Go.Fw
end
section
namespace Go.Fw
variable {P : Program}
section
variable {w0 : World} {L0 : Par} {X : Nat → Prop} {m : Nat → Option Nat} {e : Env} {s : Store} {a : Act} {w : World}
theorem fin_sto (h : Rel w0 L0 X m e s a w) {keep : List Nat} (hnd : keep.Nodup) : SRel w X (finM keep m) (finS keep s keep 0) := by
 refine ⟨fun j blk hj => ?_, fun i j b q1 q2 q3 q4 => ?_⟩
 ·rw [getB_finS] at hj
  simp only [Nat.zero_le, if_true, Nat.sub_zero] at hj
  obtain ⟨id, g1, g2⟩ := Option.bind_eq_some_iff.1 hj
  obtain ⟨b0, g3, rfl⟩ := Option.map_eq_some_iff.1 g2
  have hm : finM keep m j = m id := by simp [finM, g1]
  rcases h.sto.blk id b0 g3 with ⟨b, r1, r2⟩ | ⟨r1, sz, rfl⟩
  ·refine .inl ⟨b, hm.trans r1, ?_⟩
   cases b0 with
   | vals cells =>
     obtain ⟨vs, ex, ty, fr, t1, t2, t3, t4⟩ := r2
     refine ⟨vs, ex, ty, fr, t1, t2, t3, t4.len.trans (finL_len _ _ _).symm, fun j x v s1 s2 => ?_⟩
     rw [finL_at] at s1
     obtain ⟨y, hy, rfl⟩ := Option.map_eq_some_iff.1 s1
     exact fin_rel h (t4.at_ j y v hy s2)
   | mp ks vs =>
     obtain ⟨es, cl, t1, t2, t4⟩ := r2
     refine ⟨es, cl, t1, t2, t4.len.trans (finL_len _ _ _).symm, fun j x v s1 s2 => ?_⟩
     rw [finL_at] at s1
     obtain ⟨y, hy, rfl⟩ := Option.map_eq_some_iff.1 s1
     exact fin_rel h (t4.at_ j y v hy s2)
   | data sz rows =>
     obtain ⟨cs, ty, fr, t1, t2, t3, t4, t5⟩ := r2
     exact ⟨cs, ty, fr, t1, t2, t3, t4, fun i j r x s1 s2 => by
      obtain ⟨v, u1, u2, u3⟩ := t5 i j r x s1 s2
      exact ⟨v, u1, u2, u3.mono (fun _ _ _ q => q) (fun b hl => .inl (live_fin hl))⟩⟩
  ·exact .inr ⟨hm.trans r1, sz, rfl⟩
 ·have key : ∀ i, finM keep m i = some b → (getB (finS keep s keep 0) i).isSome = true → ∃ id, keep[i]? = some id ∧ m id = some b ∧ (getB s id).isSome = true := by
   intro i r1 r2
   obtain ⟨c, hc⟩ := Option.isSome_iff_exists.1 r2
   rw [getB_finS] at hc
   simp only [Nat.zero_le, if_true, Nat.sub_zero] at hc
   obtain ⟨id, g1, g2⟩ := Option.bind_eq_some_iff.1 hc
   obtain ⟨b0, g3, _⟩ := Option.map_eq_some_iff.1 g2
   exact ⟨id, g1, by simpa [finM, g1] using r1, by rw [g3]; rfl⟩
  obtain ⟨a1, a2, a3, a4⟩ := key i q1 q3
  obtain ⟨b1, b2, b3, b4⟩ := key j q2 q4
  have := h.sto.inj a1 b1 b a3 b3 a4 b4
  subst this
  have h1 := (List.getElem?_eq_some_iff.1 a2)
  have h2 := (List.getElem?_eq_some_iff.1 b2)
  exact (List.getElem_inj (h₀ := h1.1) (h₁ := h2.1) hnd).1 (h1.2.trans h2.2.symm)
def resList (P : Program) (e : Env) (s : Store) : List ResultVar → Option (List V)
 | [] => some []
 | .tmp t :: r => match resList P e s r with | some l => some (e.getD t .top :: l) | none => none
 | .cell a t :: r => match e.getD a .top with
   | .pt id sz row col => match getB s id with
     | some (.vals cells) => if row = 0 then match loadV P t cells col, resList P e s r with | some v, some l => some (v :: l) | _, _ => none else none
     | _ => none
   | _ => none
def resV (P : Program) (rs : List ResultVar) (e : Env) (s : Store) : Option V := match resList P e s rs with
 | some [v] => some v
 | some l => some (.tup l)
 | none => none
def resSem (tmps : Array Value) : ResultVar → Sem Value
 | .tmp t => pure (tmps.getD t undef)
 | .cell b t => do loadVar t (← asAddr (tmps.getD b undef))
theorem results_eq (fn : Func) (tmps : Array Value) : results fn tmps = (do let vs ← fn.results.mapM (resSem tmps); pure (if h : vs.size = 1 then vs[0] else .tuple vs)) := rfl
theorem resList_run (h : Rel w0 L0 X m e s a w) : ∀ {rs : List ResultVar} {l : List V}, resList P e s rs = some l → ∃ vs : List Value, (rs.mapM (resSem a.tmps)).run P w = .ok vs w ∧ All2 (VRel w (Live X m s) m) l vs := by
 intro rs
 induction rs with
 | nil => intro l hl; cases hl; exact ⟨[], rfl, All2.nil⟩
 | cons r rs ih =>
   intro l hl
   cases r with
   | tmp t =>
     simp only [resList] at hl
     split at hl
     ·rename_i l' hl'
      cases hl
      obtain ⟨vs, h1, h2⟩ := ih hl'
      refine ⟨a.tmps.getD t undef :: vs, ?_, All2.cons (h.look (.tmp t)) h2⟩
      simp [List.mapM_cons, resSem, h1]
     ·cases hl
   | cell b t =>
     simp only [resList] at hl
     split at hl
     ·rename_i id sz row col hv
      split at hl
      ·rename_i cells hg
       split at hl
       ·rename_i h0
        subst h0
        split at hl
        ·rename_i v l' hv' hl'
         cases hl
         obtain ⟨vs, h1, h2⟩ := ih hl'
         have hb := h.look (.tmp b)
         simp only [look, hv, Act.eval] at hb
         obtain ⟨u, hu⟩ : ∃ u, a.tmps.getD b undef = u := ⟨_, rfl⟩
         rw [hu] at hb
         cases hb with
         | pt _ _ _ _ bb hm =>
           rcases h.sto.blk id _ hg with ⟨b', hm', arr, ex, ty, fr, hh, hfr, hone, hall⟩ | ⟨hn, _, hn'⟩
           ·rw [hm] at hm'; cases hm'
            obtain ⟨q, g1, g2⟩ := loadVar_run (P := P) (b := bb) (o := 0) hall hone (fun j v hj => by rw [cell_of hh, List.getElem?_toArray, Nat.zero_add, List.getElem?_append_left (List.getElem?_eq_some_iff.1 hj).1]; exact hj) hv'
            refine ⟨q :: vs, ?_, All2.cons g2 h2⟩
            simp only [Nat.zero_add] at g1
            simp only [List.mapM_cons, resSem, Sem.run_bind, hu, asAddr, Sem.run_pure, Result.andThen_ok, Nat.zero_mul, Nat.zero_add, g1, h1]
           ·cases hn'
        ·cases hl
       ·cases hl
      ·cases hl
     ·cases hl
theorem res_run (h : Rel w0 L0 X m e s a w) {fn : Func} {r : V} (hr : resV P fn.results.toList e s = some r) : ∃ v, (results fn a.tmps).run P w = .ok v w ∧ VRel w (Live X m s) m r v := by
 unfold resV at hr
 cases hl : resList P e s fn.results.toList with
 | none => rw [hl] at hr; cases hr
 | some l =>
   rw [hl] at hr
   obtain ⟨vs, h1, h2⟩ := resList_run h hl
   have run : (results fn a.tmps).run P w = .ok (if h : vs.toArray.size = 1 then vs.toArray[0] else .tuple vs.toArray) w := by
    rw [results_eq, Array.mapM_eq_mapM_toList]
    simp [h1]
   refine ⟨_, run, ?_⟩
   match l, hr, h2 with
   | [], hr, h2 =>
     cases hr
     have : vs = [] := by have := h2.len; simpa using this
     subst this
     exact .tup [] [] rfl (by simp)
   | [x], hr, h2 =>
     cases hr
     obtain ⟨y, t, rfl, h3, h4⟩ := h2.head
     have : t = [] := by have := h4.len; simpa using this
     subst this
     simpa using h3
   | x :: y :: r, hr, h2 =>
     cases hr
     have hlen := h2.len
     rw [dif_neg (by simp; simp at hlen; omega)]
     exact .tup _ vs h2.len h2.at_
def Told (P : Program) (rs : List ResultVar) (keep : List Nat) (r : V) (τ : Store) (x : Exit) (E : St) : Prop := (x = .normal ∨ x = .ret) ∧ ∃ r', resV P rs E.e E.s = some r' ∧ r'.fin keep E.s = r ∧ finS keep E.s keep 0 = τ
theorem sndW_of {f : FuncId} {fn : Func} {c : Code} {args : List V} {s0 : Store} {r : V} {s1 : Store} {n : Nat} (keep : List Nat) (hfn : P.funcs[f]? = some fn) (hb : fn.body = some c) (hg : goFn P f = true) (hn : fn.ntmps = n) (hnd : keep.Nodup) (hs0 : s0.all (fun x => decide (x.1 < 90) && (keep[x.1]? == some x.1)) = true)
  (h : Run P c ⟨args ++ List.replicate (n - args.length) vundef, s0⟩ (Told P fn.results.toList keep r s1)) : SndW P f args s0 r s1 := by
 refine ⟨hg, fun w X m0 vs hX hS hargs => ?_⟩
 subst hn
 refine calls_of_wp hfn hb ?_
 have hkey : ∀ {j : Nat}, (getB s0 j).isSome = true → j < 90 ∧ keep[j]? = some j := fun {j} hj => by
  obtain ⟨c, hc⟩ := Option.isSome_iff_exists.1 hj
  have := all_get hs0 hc
  simpa using this
 -- what the call is given, by numbers
 have hZ : ∀ b, Reach (fun j => if (getB s0 j).isSome then m0 j else none) b ↔ Own m0 s0 b := by
  intro b
  constructor
  ·rintro ⟨j, hj⟩
   simp only at hj
   split at hj
   ·rename_i h1
    obtain ⟨c, hc⟩ := Option.isSome_iff_exists.1 h1
    exact ⟨j, c, hc, hj⟩
   ·cases hj
  ·rintro ⟨j, c, h1, h2⟩
   exact ⟨j, by simp [h1, h2]⟩
 have hrel : Rel w (fun j => if (getB s0 j).isSome then m0 j else none) X m0 (args ++ List.replicate (fn.ntmps - args.length) vundef) s0 { tmps := vs.toArray ++ Array.replicate (fn.ntmps - vs.toArray.size) undef, defers := [] } w := by
  refine ⟨?_, hS, rfl, ⟨rfl, rfl, rfl, Nat.le_refl _, fun _ _ _ => rfl, fun _ cs _ _ q => ⟨cs, q, rfl⟩⟩, fun b hb => .inl ((hZ b).2 hb), fun b hb => ⟨(hX b hb).1, fun q => (hX b hb).2 ((hZ b).1 q)⟩, fun i hi hs => by simp [hs]⟩
  simp only [Array.toList_append, Array.toList_replicate, List.size_toArray]
  refine All2.append hargs ⟨by simp [hargs.len], fun j x v h1 h2 => ?_⟩
  rw [List.getElem?_replicate] at h1 h2
  split at h1
  ·cases h1
   split at h2
   ·cases h2; exact .d (.lit _ rfl)
   ·cases h2
  ·cases h1
 refine wp_mono (h w _ X hrel) fun x a' w' hx => ?_
 obtain ⟨E', m', ⟨hx, r', h1, h2, h3⟩, hr⟩ := hx
 obtain ⟨v, g1, g2⟩ := res_run (fn := fn) hr h1
 have fin : a'.defers = [] ∧ ∃ v, (results fn a'.tmps).run P w' = .ok v w' ∧ ∃ v_1 m', Ending.returned v = Ending.returned v_1 ∧ Ext (Own m0 s0) w w' ∧ VRel w' (Live X m' s1) m' r v_1 ∧ SRel w' X m' s1 ∧ (∀ b, Own m' s1 b → Own m0 s0 b ∨ w.heap.size ≤ b) ∧
   ∀ j, (getB s0 j).isSome = true → (getB s1 j).isSome = true → m' j = m0 j := by
  refine ⟨hr.dfr, v, g1, v, finM keep m', rfl, ⟨hr.ext.os, hr.ext.tape, hr.ext.output, hr.ext.size, fun b hb hl => hr.ext.block b hb fun q => hl ((hZ b).1 q), hr.ext.sizes⟩, ?_, ?_, ?_, fun j hj hj' => ?_⟩
  ·rw [← h2, ← h3]; exact fin_rel hr g2
  ·rw [← h3]; exact fin_sto hr hnd
  ·rw [← h3]
   intro b hb
   obtain ⟨id, blk, _, q1, q2⟩ := own_fin hb
   exact (hr.liv b ⟨id, blk, q1, q2⟩).imp_left fun q => (hZ b).1 q
  ·obtain ⟨k1, k2⟩ := hkey hj
   rw [← h3, getB_finS] at hj'
   simp only [Nat.zero_le, if_true, Nat.sub_zero, k2, Option.bind_some, Option.isSome_map] at hj'
   have := hr.par j k1 hj'
   simp only [hj, if_true] at this
   simp only [finM, k2, Option.bind_some, this]
 rcases hx with rfl | rfl
 ·exact fin
 ·exact fin
theorem snd_of {f : FuncId} {fn : Func} {c : Code} {args : List V} {r : V} {τ : Store} {n : Nat} (keep : List Nat) (hfn : P.funcs[f]? = some fn) (hb : fn.body = some c) (hg : goFn P f = true) (hn : fn.ntmps = n) (hnd : keep.Nodup)
  (h : Run P c ⟨args ++ List.replicate (n - args.length) vundef, []⟩ (Told P fn.results.toList keep r τ)) : Snd P f args r τ :=
 (sndW_of keep hfn hb hg hn hnd rfl h).pure
end
end Go.Fw
end
section
namespace Go.Fw
attribute [simp] buildA indexA EvO exec cls look litV put getB putB guardOf opP opR opA opW opAppend callOf loadV partV one mkAg toDs cellsOfV aggCells binV binI isNil nilLit vkind nilV eqNil unV idxV sliceV sliceS optInt cutSl cutRs cutStr convV minmax lenV fillV setAt lits litsD oneCells chop newId hitO srcRows baseRows srcV baseV opAppendV lookV updV findK lookR Instr.sameNow V.fgt V.fgtL Blk.fgt fgtS V.men V.menL setRow V.shift V.shiftL Blk.shift addS Value.oneCell
attribute [simp] V.ren V.renL Blk.ren rho renS dropS lost puts Blk.men badId okW give
attribute [simp] setG gs_tt gs_ff gs_tf gs_ft
attribute [simp] Then_normal Then_exit Then_goto Then_ret Blok_normal Blok_exit Blok_goto Blok_ret leE leS
attribute [simp] enterE enterS ks makes madeIn
attribute [simp] resV resList V.fin V.finL Blk.fin finS frz frzP
def rdI {α : Type} [Inhabited α] (l : List α) (i : Int) : α := l.getD i.toNat default
theorem rdI_mem {α : Type} [Inhabited α] {l : List α} {i : Int} (h0 : 0 ≤ i) (h1 : i < (l.length : Int)) : rdI l i ∈ l := by
 have : i.toNat < l.length := by omega
 simp [rdI, List.getD_eq_getElem?_getD, this]
@[simp] theorem rowAt_map {α : Type} [Inhabited α] {f : α → List D} {l : List α} {i : Int} (h0 : 0 ≤ i) (h1 : i < (l.length : Int)) : rowAt (l.map f) i = f (rdI l i) := by
 have : i.toNat < l.length := by omega
 simp [rowAt, rdI, List.getD_eq_getElem?_getD, this]
end Go.Fw
end
section
namespace Go.Fw
variable {P : Program}
mutual
def D.ok : D → Prop
 | .lit v => okLit v = true
 | .sl _ rows => rows.length ≤ 9223372036854775807 ∧ D.okR rows
 | .ip row _ => D.okL row
 | .ag cells => D.okL cells
def D.okL : List D → Prop
 | [] => True
 | x :: r => x.ok ∧ D.okL r
def D.okR : List (List D) → Prop
 | [] => True
 | x :: r => D.okL x ∧ D.okR r
end
theorem okL_iff (l : List D) : D.okL l ↔ ∀ x ∈ l, x.ok := by
 induction l with
 | nil => simp [D.okL]
 | cons x r ih => simp [D.okL, ih]
theorem okR_iff (l : List (List D)) : D.okR l ↔ ∀ x ∈ l, D.okL x := by
 induction l with
 | nil => simp [D.okR]
 | cons x r ih => simp [D.okR, ih]
theorem okR_map {α : Type} (f : α → List D) (l : List α) : D.okR (l.map f) ↔ ∀ x ∈ l, D.okL (f x) := by simp [okR_iff]
theorem DRel.ok {w : World} {L : Nat → Prop} {x : D} {v : Value} (h : DRel w L x v) : x.ok := by
 induction h with
 | lit v h => exact h
 | slE nn A cap h => simp [D.ok, D.okR]
 | sl nn rows b off cap sz vals hb hc hm hz hv ho hr ih =>
   refine ⟨hm, (okR_iff _).2 fun r hr => (okL_iff _).2 fun x hx => ?_⟩
   obtain ⟨i, hi⟩ := List.getElem?_of_mem hr
   obtain ⟨j, hj⟩ := List.getElem?_of_mem hx
   exact ih i j r x hi hj
 | ip row b off col vals hb hv ho hr ih =>
   refine (okL_iff _).2 fun x hx => ?_
   obtain ⟨j, hj⟩ := List.getElem?_of_mem hx
   exact ih j x hj
 | ag cells vs hl ho hr ih =>
   refine (okL_iff _).2 fun x hx => ?_
   obtain ⟨j, hj⟩ := List.getElem?_of_mem hx
   have hlt : j < vs.length := by rw [hl]; exact (List.getElem?_eq_some_iff.1 hj).1
   exact ih j x _ hj (List.getElem?_eq_getElem hlt)
variable {Q : Exit → St → Prop} {E : St}
theorem Run.ok {c : Code} (i : Nat) {x : D} (hi : E.e.getD i .top = .d x) (h : x.ok → Run P c E Q) : Run P c E Q := fun w0 L0 X m a w hr => by
 have h1 := hr.look (.tmp i)
 simp only [look, hi] at h1
 cases h1 with
 | d hd => exact h hd.ok w0 L0 X hr
theorem Run.okB {c : Code} (id : Nat) {sz : Nat} {rows : List (List D)} (hi : getB E.s id = some (.data sz rows)) (h : D.okR rows → Run P c E Q) : Run P c E Q := fun w0 L0 X m a w hr => by
 refine h ?_ w0 L0 X hr
 rcases hr.sto.blk id _ hi with ⟨b, _, cs, ty, fr, _, _, _, _, h5⟩ | ⟨_, sz', h5⟩
 ·refine (okR_iff _).2 fun r hr => (okL_iff _).2 fun x hx => ?_
  obtain ⟨i, hi⟩ := List.getElem?_of_mem hr
  obtain ⟨j, hj⟩ := List.getElem?_of_mem hx
  obtain ⟨v, _, _, h6⟩ := h5 i j r x hi hj
  exact h6.ok
 ·cases h5; trivial
theorem Run.okV {c : Code} (i : Nat) {id sz off len : Nat} (hi : E.e.getD i .top = .rs id sz off len) (h : len ≤ 9223372036854775807 → Run P c E Q) : Run P c E Q := fun w0 L0 X m a w hr => by
 have h1 := hr.look (.tmp i)
 simp only [look, hi] at h1
 generalize a.eval (.tmp i) = u at h1
 cases h1 with
 | rsE => exact h (by omega) w0 L0 X hr
 | rs => exact h (by assumption) w0 L0 X hr
theorem SndW.ok {f : FuncId} {args : List V} {s0 s1 : Store} {r : V} (i : Nat) {x : D} (hi : args[i]? = some (.d x)) (hg : goFn P f = true) (h : x.ok → SndW P f args s0 r s1) : SndW P f args s0 r s1 := by
 refine ⟨hg, fun w X m0 vs hX hS hargs => ?_⟩
 obtain ⟨v, _, hv⟩ := hargs.get hi
 cases hv with
 | d hd => exact (h hd.ok).2 w X m0 vs hX hS hargs
theorem Snd.ok {f : FuncId} {args : List V} {τ : Store} {r : V} (i : Nat) {x : D} (hi : args[i]? = some (.d x)) (hg : goFn P f = true) (h : x.ok → Snd P f args r τ) : Snd P f args r τ := by
 refine ⟨hg, fun w X vs hX hargs => ?_⟩
 obtain ⟨v, _, hv⟩ := hargs.get hi
 cases hv with
 | d hd => exact (h hd.ok).2 w X vs hX hargs
def over (e : Env) (tops : List Nat) (vals : List (Nat × V)) : Env := vals.foldl (fun e x => e.set x.1 x.2) (tops.foldl (fun e k => e.set k .top) e)
theorem Run.cut {x y : Code} {e : Env} {s : Store} (tops : List Nat) (vals : List (Nat × V)) (s' : Store) (hx : Run P x ⟨e, s⟩ (Then (fun E' => Le E' ⟨over e tops vals, s'⟩) Q)) (hy : Run P y ⟨over e tops vals, s'⟩ Q) : Run P (.seq x y) ⟨e, s⟩ Q :=
 Run.seq (hx.mono fun x E h => by cases x <;> first | exact hy.le h | exact h)
theorem Run.cut0 {x y : Code} {e : Env} {s : Store} (tops : List Nat) (vals : List (Nat × V)) (hx : Run P x ⟨e, s⟩ (Then (fun E' => Le E' ⟨over e tops vals, s⟩) Q)) (hy : Run P y ⟨over e tops vals, s⟩ Q) : Run P (.seq x y) ⟨e, s⟩ Q := Run.cut tops vals s hx hy
theorem Run.loopO {c : Code} {e : Env} {s : Store} (tops : List Nat) {α : Type} (vals : α → List (Nat × V)) (st : α → Store) (I : α → Prop) (μ : α → Nat) (x0 : α) (h0 : I x0) (hE : Le ⟨e, s⟩ ⟨over e tops (vals x0), st x0⟩)
  (hstep : ∀ x, I x → Run P c ⟨over e tops (vals x), st x⟩ (Then (fun E' => ∃ y, I y ∧ μ y < μ x ∧ Le E' ⟨over e tops (vals y), st y⟩) Q)) : Run P (.loop c) ⟨e, s⟩ Q :=
 Run.loop (fun x => ⟨over e tops (vals x), st x⟩) I μ x0 h0 hE hstep
attribute [simp] Told over Le okLit IntKind.min IntKind.max IntKind.signed IntKind.bits
def swp (x y j : Nat) : Nat := if j = x then y else j
def renM (m : Nat → Option Nat) (x y i : Nat) : Option Nat := if i = y then m x else m i
theorem Rel.ren {w0 : World} {L0 : Par} {X : Nat → Prop} {m : Nat → Option Nat} {e : Env} {s : Store} {a : Act} {w : World} (h : Rel w0 L0 X m e s a w) (x y : Nat) (hx : 90 ≤ x) (hy : 90 ≤ y) (he : V.menL (· == y) e = false) (hs : s.all (fun z => z.1 != y && !z.2.men (· == y)) = true) :
  Rel w0 L0 X (renM m x y) (V.renL (swp x y) e) (puts [] (renS (swp x y) s)) a w := by
 have hid : ∀ j, (j == y) = false → renM m x y (swp x y j) = m j := fun j hj => by
  have hj : j ≠ y := by simpa using hj
  unfold renM swp
  by_cases e1 : j = x
  ·simp [e1]
  ·simp [e1, hj]
 have hkey : ∀ {j b}, getB s j = some b → j ≠ y ∧ b.men (· == y) = false := fun {j b} hg => by
  have := all_get hs hg
  simpa using this
 have hget : ∀ i blk, getB (puts [] (renS (swp x y) s)) i = some blk → ∃ j b0, getB s j = some b0 ∧ swp x y j = i ∧ blk = b0.ren (swp x y) := by
  intro i blk hg
  rw [getB_puts'] at hg
  split at hg
  ·rename_i b hb; cases hg; exact getB_renS hb
  ·cases hg
 have hown : ∀ b, Own (renM m x y) (puts [] (renS (swp x y) s)) b → Own m s b := by
  rintro b ⟨i, blk, h1, h2⟩
  obtain ⟨j, b0, g1, rfl, _⟩ := hget i blk h1
  rw [hid j (by simpa using (hkey g1).1)] at h2
  exact ⟨j, b0, g1, h2⟩
 have hL : ∀ b, Live X (renM m x y) (puts [] (renS (swp x y) s)) b → Live X m s b := fun b hl => hl.imp_right (hown b)
 refine ⟨⟨h.env.len.trans (renL_len _ _).symm, fun j v u q1 q2 => ?_⟩, ⟨fun i blk hi => ?_, fun i j b q1 q2 q3 q4 => ?_⟩, h.dfr, h.ext, fun b hb => h.liv b (hown b hb), h.old, fun i hi hsm => ?_⟩
 ·rw [renL_at] at q1
  obtain ⟨z, hz, rfl⟩ := Option.map_eq_some_iff.1 q1
  exact VRel.ren hL hid (menL_at he hz) (h.env.at_ j z u hz q2)
 ·obtain ⟨j, b0, g1, rfl, rfl⟩ := hget i blk hi
  have ej := hid j (by simpa using (hkey g1).1)
  rcases h.sto.blk j b0 g1 with ⟨b, r1, r2⟩ | ⟨r1, sz, rfl⟩
  ·exact .inl ⟨b, ej.trans r1, BRel.ren hL hid (hkey g1).2 r2⟩
  ·exact .inr ⟨ej.trans r1, sz, rfl⟩
 ·obtain ⟨c1, hc1⟩ := Option.isSome_iff_exists.1 q3
  obtain ⟨c2, hc2⟩ := Option.isSome_iff_exists.1 q4
  obtain ⟨j1, b1, g1, rfl, _⟩ := hget i c1 hc1
  obtain ⟨j2, b2, g2, rfl, _⟩ := hget j c2 hc2
  rw [hid j1 (by simpa using (hkey g1).1)] at q1
  rw [hid j2 (by simpa using (hkey g2).1)] at q2
  rw [h.sto.inj j1 j2 b q1 q2 (by rw [g1]; rfl) (by rw [g2]; rfl)]
 ·obtain ⟨c1, hc1⟩ := Option.isSome_iff_exists.1 hsm
  obtain ⟨j1, b1, g1, e1, _⟩ := hget i c1 hc1
  have : j1 = i := by unfold swp at e1; split at e1 <;> omega
  subst this
  simp only [renM, if_neg (show j1 ≠ y by omega)]
  exact h.par j1 hi (by rw [g1]; rfl)
theorem Run.ren {c : Code} {e : Env} {s : Store} (x y : Nat) (hx : 90 ≤ x) (hy : 90 ≤ y) (he : V.menL (· == y) e = false) (hs : s.all (fun z => z.1 != y && !z.2.men (· == y)) = true) (h : Run P c ⟨V.renL (swp x y) e, puts [] (renS (swp x y) s)⟩ Q) : Run P c ⟨e, s⟩ Q :=
 fun w0 L0 X m a w hr => h w0 L0 X (hr.ren x y hx hy he hs)
attribute [simp] swp
def NoGoto (Q : Exit → St → Prop) : Exit → St → Prop
 | .goto _, _ => False
 | x, E => Q x E
def Fwd (P : Program) (l : Nat) (rest : Code) (Q : Exit → St → Prop) : Exit → St → Prop
 | .goto l', E => l' = l ∧ Run P rest E (NoGoto Q)
 | x, E => Q x E
theorem Fwd_ret {l : Nat} {rest : Code} {Q : Exit → St → Prop} {E : St} : Fwd P l rest Q .ret E = Q .ret E := rfl
theorem Run.scope (l : Nat) (rest : Code) {c : Code} (hf : findLabel c l = some rest) (h : Run P c E (Fwd P l rest Q)) : Run P (.scope c) E Q := fun w0 L0 X m a w hr => by
 refine wp_scope_jumps l (fun a w => rest.wp P (Exit.noGoto (fun x a' w' => ∃ E' m', Q x E' ∧ Rel w0 L0 X m' E'.e E'.s a' w')) a w) (fun _ _ => 0) hf ?_ ?_
 ·refine wp_mono (h w0 L0 X hr) fun x a' w' hx => ?_
  obtain ⟨E', m', q, r⟩ := hx
  cases x with
  | goto l' =>
    obtain ⟨rfl, q⟩ := q
    refine ⟨rfl, wp_mono (q w0 L0 X r) fun x a' w' hx => ?_⟩
    obtain ⟨E', m', q, r⟩ := hx
    cases x <;> first | exact q.elim | exact ⟨E', m', q, r⟩
  | normal => exact ⟨E', m', q, r⟩
  | exit i => exact ⟨E', m', q, r⟩
  | ret => exact ⟨E', m', q, r⟩
  | panic ch => exact ⟨E', m', q, r⟩
  | outgrown => exact ⟨E', m', q, r⟩
 ·intro a w hJ
  refine wp_mono hJ fun x a w q => ?_
  cases x <;> first | exact q | exact q.elim
@[congr] theorem ECall_congr {g : FuncId} {args args' : List V} {dst : Option Nat} {k : Env → Store → Prop} {e e' : Env} {s s' : Store} (ha : args = args') (he : e = e') (hs : s = s') : ECall P g args dst k e s = ECall P g args' dst k e' s' := by subst ha he hs; rfl
@[congr] theorem ECallF_congr {g : FuncId} {args args' : List V} {dst : Option Nat} {k : Env → Store → Prop} {e e' : Env} {s s' : Store} (ha : args = args') (he : e = e') (hs : s = s') : ECallF P g args dst k e s = ECallF P g args' dst k e' s' := by subst ha he hs; rfl
@[congr] theorem ECallW_congr {g : FuncId} {args args' : List V} {dst : Option Nat} {k : Env → Store → Prop} {e e' : Env} {s s' : Store} (ha : args = args') (he : e = e') (hs : s = s') : ECallW P g args dst k e s = ECallW P g args' dst k e' s' := by subst ha he hs; rfl
@[congr] theorem Run_congr {c : Code} {E E' : St} {Q : Exit → St → Prop} (he : E = E') : Run P c E Q = Run P c E' Q := by subst he; rfl
structure LOp where
 op : Op
 dst : Option Nat
 guard : Option (Option Nat × Bool)
abbrev oL (t x d : Nat) : LOp := ⟨.load t (.tmp x), some d, none⟩
abbrev oF (t x f d : Nat) : LOp := ⟨.fieldAddr t (.tmp x) f, some d, none⟩
abbrev oM (x d : Nat) : LOp := ⟨.move (.tmp x), some d, none⟩
abbrev oA (x d : Nat) : LOp := ⟨.assign (.tmp x), some d, none⟩
abbrev oI (t x y d : Nat) : LOp := ⟨.indexAddr t (.tmp x) (.tmp y), some d, none⟩
abbrev oN (t x d : Nat) : LOp := ⟨.call { callee := .builtin .len, args := #[.tmp x], argTypes := #[t] }, some d, none⟩
abbrev oB (op : BinOp) (t x y u d : Nat) : LOp := ⟨.binOp op t (.tmp x) (.tmp y) u, some d, none⟩
abbrev oK (op : BinOp) (t x : Nat) (k : Int) (u d : Nat) : LOp := ⟨.binOp op t (.tmp x) (.const (.int .i64 k)) u, some d, none⟩
abbrev oC (f : Nat) (a : Array Operand) (t : Array TypeId) (d : Nat) : LOp := ⟨.call { callee := .value (.func f), args := a, argTypes := t }, some d, none⟩
abbrev oS (t x y : Nat) : LOp := ⟨.store t (.tmp x) (.tmp y), none, none⟩
abbrev oX (x i d : Nat) : LOp := ⟨.extract (.tmp x) i, some d, none⟩
abbrev oV (x d : Nat) : LOp := ⟨.nilCheck (.tmp x), some d, none⟩
abbrev oG (t x f d : Nat) : LOp := ⟨.field t (.tmp x) f, some d, none⟩
def lite (all : List Oper) (o : Oper) : LOp := ⟨o.op, o.dst, match o.guard with | none => none | some (j, want) => some ((all[j]?).bind (·.dst), want)⟩
def mkO (op : Op) (dst : Option Nat) : Oper := { op := op, dst := dst, type := 0, pos := "", after := #[], guard := none }
def EvL (P : Program) (im : Op → Bool) (K : Env → Store → Prop) : List LOp → Env → Store → Prop
 | [], e, s => K e s
 | o :: os, e, s => match o.guard with
   | none => exec P im (mkO o.op o.dst) (EvL P im K os) e s
   | some (none, _) => False
   | some (some k, want) => match e.getD k .top with
     | .d (.lit (.bool b)) => GSplit b want (exec P im (mkO o.op o.dst) (EvL P im K os) (e.set k (.d (.lit (.bool want)))) s) (EvL P im K os (put (e.set k (.d (.lit (.bool !want)))) o.dst vundef) s)
     | .d (.lit (.tuple _)) => EvL P im K os (put e o.dst vundef) s
     | _ => False
theorem exec_mono {im : Op → Bool} {o o' : Oper} {k k' : Env → Store → Prop} {e : Env} {s : Store} (h1 : o'.op = o.op) (h2 : o'.dst = o.dst) (hk : ∀ e s, k e s → k' e s) (h : exec P im o k e s) : exec P im o' k' e s := by
 unfold exec at h ⊢
 rw [h1, h2]
 cases hc : cls o.op <;> rw [hc] at h <;> simp only at h ⊢
 ·split at h
  ·exact ⟨h.1, fun c => hk _ _ (h.2 c)⟩
  ·exact h
 ·split at h
  ·exact ⟨h.1, fun c => hk _ _ (h.2 c)⟩
  ·exact h
 ·split at h
  ·split at h
   ·exact ⟨h.1, fun c => hk _ _ (h.2 c)⟩
   ·exact h
  ·exact h
 ·split at h
  ·exact ⟨h.1, fun c => hk _ _ (h.2 c)⟩
  ·exact h
 ·split at h
  ·split at h
   ·split at h
    ·exact ⟨h.1, fun c => hk _ _ (h.2 c)⟩
    ·split at h
     ·exact ⟨h.1, fun c => hk _ _ (h.2 c)⟩
     ·exact h
   ·exact h
  ·exact h
 ·split at h
  ·cases him : im o.op with
   | true =>
     rw [him] at h
     simp only at h ⊢
     obtain ⟨ids, a0, s0, r, s1, q1, q2, q3, q4, q5, q6⟩ := h
     exact ⟨ids, a0, s0, r, s1, q1, q2, q3, q4, q5, hk _ _ q6⟩
   | false =>
     rw [him] at h
     simp only at h ⊢
     split at h
     ·rename_i hp
      rw [if_pos hp]
      obtain ⟨r, t, q1, q2, q3, q4⟩ := h
      exact ⟨r, t, q1, q2, q3, hk _ _ q4⟩
     ·rename_i hp
      rw [if_neg hp]
      obtain ⟨x, q1, q2, q3, q4⟩ := h
      exact ⟨x, q1, q2, q3, hk _ _ q4⟩
  ·exact h
theorem evL_evO {im : Op → Bool} {all : List Oper} {K : Env → Store → Prop} : ∀ {os : List Oper} {e : Env} {s : Store}, EvL P im K (os.map (lite all)) e s → EvO P im all K os e s := by
 intro os
 induction os with
 | nil => intro e s h; exact h
 | cons o os ih =>
   intro e s h
   simp only [List.map_cons, EvL, lite] at h
   simp only [EvO, guardOf]
   cases hg : o.guard with
   | none =>
     rw [hg] at h
     exact exec_mono rfl rfl (fun e s h => ih h) h
   | some q =>
     obtain ⟨j, want⟩ := q
     rw [hg] at h
     simp only at h ⊢
     cases ha : all[j]? with
     | none => rw [ha] at h; exact h.elim
     | some g =>
       rw [ha] at h
       simp only [Option.bind_some] at h ⊢
       cases hd : g.dst with
       | none => rw [hd] at h; exact h.elim
       | some k =>
         rw [hd] at h
         simp only at h ⊢
         split at h
         ·rename_i b hb
          rw [hb]
          refine ⟨fun q => exec_mono rfl rfl (fun e s h => ih h) (h.1 q), fun q => ?_⟩
          have e1 : setG e k want = e.set k (.d (.lit (.bool !want))) := by unfold setG; rw [hb]
          rw [e1]
          exact ih (h.2 q)
         ·rename_i v hb
          rw [hb]
          refine ⟨fun q => by cases want <;> simp at q, fun q => ?_⟩
          have e1 : setG e k want = e := by unfold setG; rw [hb]
          rw [e1]
          exact ih h
         ·exact h.elim
theorem evL_cons {im : Op → Bool} {K : Env → Store → Prop} {op : Op} {dst : Option Nat} {os : List LOp} {e : Env} {s : Store} : EvL P im K (⟨op, dst, none⟩ :: os) e s = exec P im (mkO op dst) (EvL P im K os) e s := rfl
theorem evL_guard {im : Op → Bool} {K : Env → Store → Prop} {op : Op} {dst : Option Nat} {k : Nat} {want : Bool} {os : List LOp} {e : Env} {s : Store} : EvL P im K (⟨op, dst, some (some k, want)⟩ :: os) e s = (match e.getD k .top with
   | .d (.lit (.bool b)) => GSplit b want (exec P im (mkO op dst) (EvL P im K os) (e.set k (.d (.lit (.bool want)))) s) (EvL P im K os (put (e.set k (.d (.lit (.bool !want)))) dst vundef) s)
   | .d (.lit (.tuple _)) => EvL P im K os (put e dst vundef) s
   | _ => False) := rfl
theorem evL_nil {im : Op → Bool} {K : Env → Store → Prop} {e : Env} {s : Store} : EvL P im K [] e s = K e s := rfl
theorem Run.opsL (im : Bool) {id : Nat} {ops : Array Oper} {draw : Bool} (los : List LOp) (hm : P.follows .mixedOrders = true) (hk : okReg (fun _ => im) draw ops.toList = true) (hl : ops.toList.map (lite ops.toList) = los) {e : Env} {s : Store}
  (h : ∀ K : Env → Store → Prop, (∀ e s, Q .normal ⟨e, s⟩ → K e s) → EvL P (fun _ => im) K los (enterE ops.toList e) (enterS ops.toList s)) : Run P (.region id ops draw) ⟨e, s⟩ Q :=
 Run.opsI (fun _ => im) hm hk fun K hK => by subst hl; exact evL_evO (h K hK)
attribute [simp] mkO
def Fin (Q : Exit → St → Prop) (K : Env → Store → Prop) : Prop := ∀ e s, Q .normal ⟨e, s⟩ → K e s
theorem Fin.go {im : Op → Bool} {K : Env → Store → Prop} {e : Env} {s : Store} (h : Fin Q K) (hq : Q .normal ⟨e, s⟩) : EvL P im K [] e s := h e s hq
theorem Run.opsM (im : Bool) {id : Nat} {ops : Array Oper} {draw : Bool} (los : List LOp) (hm : P.follows .mixedOrders = true) (hk : okReg (fun _ => im) draw ops.toList = true) (hl : ops.toList.map (lite ops.toList) = los) {e : Env} {s : Store}
  (h : ∀ K : Env → Store → Prop, Fin Q K → EvL P (fun _ => im) K los (enterE ops.toList e) (enterS ops.toList s)) : Run P (.region id ops draw) ⟨e, s⟩ Q := Run.opsL im los hm hk hl h
def imp (l : List FuncId) (op : Op) : Bool := match op with
 | .call c => match c.callee with
   | .value (.func f) => !l.contains f
   | _ => true
 | _ => true
theorem Run.opsP (l : List FuncId) {id : Nat} {ops : Array Oper} {draw : Bool} (los : List LOp) (hm : P.follows .mixedOrders = true) (hk : okReg (imp l) draw ops.toList = true) (hl : ops.toList.map (lite ops.toList) = los) {e : Env} {s : Store}
  (h : ∀ K : Env → Store → Prop, Fin Q K → EvL P (imp l) K los (enterE ops.toList e) (enterS ops.toList s)) : Run P (.region id ops draw) ⟨e, s⟩ Q :=
 Run.opsI (imp l) hm hk fun K hK => by subst hl; exact evL_evO (h K hK)
attribute [simp] imp
theorem evL_c {im : Op → Bool} {K : Env → Store → Prop} {op : Op} {dst : Option Nat} {os : List LOp} {e : Env} {s : Store} (h : exec P im (mkO op dst) (EvL P im K os) e s) : EvL P im K (⟨op, dst, none⟩ :: os) e s := h
theorem evL_g {im : Op → Bool} {K : Env → Store → Prop} {op : Op} {dst : Option Nat} {k : Nat} {want : Bool} {os : List LOp} {e : Env} {s : Store} {b : Bool} (hb : e.getD k .top = .d (.lit (.bool b)))
  (h : GSplit b want (exec P im (mkO op dst) (EvL P im K os) (e.set k (.d (.lit (.bool want)))) s) (EvL P im K os (put (e.set k (.d (.lit (.bool !want)))) dst vundef) s)) : EvL P im K (⟨op, dst, some (some k, want)⟩ :: os) e s := by
 rw [evL_guard, hb]; exact h
theorem evL_u {im : Op → Bool} {K : Env → Store → Prop} {op : Op} {dst : Option Nat} {k : Nat} {want : Bool} {os : List LOp} {e : Env} {s : Store} {a : Array Value} (hb : e.getD k .top = .d (.lit (.tuple a)))
  (h : EvL P im K os (put e dst vundef) s) : EvL P im K (⟨op, dst, some (some k, want)⟩ :: os) e s := by
 rw [evL_guard, hb]; exact h
theorem leE_refl (e : Env) : leE e e := by
 induction e with
 | nil => trivial
 | cons v r ih => exact ⟨.inr rfl, ih⟩
theorem Run.drop {c : Code} {e : Env} {s : Store} (s' : Store) (hs : leS s s') (h : Run P c ⟨e, s'⟩ Q) : Run P c ⟨e, s⟩ Q := Run.le ⟨leE_refl e, hs⟩ h
@[simp] theorem rowN_map {α : Type} [Inhabited α] {f : α → List D} {l : List α} {i : Nat} (h : i < l.length) : rowN (l.map f) i = f (rdI l i) := by
 simp [rowN, rdI, List.getD_eq_getElem?_getD, h]
@[simp] theorem rowN_zero (x : List D) (l : List (List D)) : rowN (x :: l) 0 = x := rfl
@[simp] theorem rowN_succ (x : List D) (l : List (List D)) (n : Nat) : rowN (x :: l) (n + 1) = rowN l n := rfl
@[simp] theorem beq_dec (a b : Int) : (a == b) = decide (a = b) := rfl
@[simp] theorem bne_dec (a b : Int) : (a != b) = !decide (a = b) := rfl
theorem wrap_id {n : Int} (h0 : -9223372036854775808 ≤ n) (h1 : n ≤ 9223372036854775807) : IntKind.i64.wrap n = n := by
 simp only [IntKind.wrap, IntKind.bits, IntKind.signed, Bool.true_and, decide_eq_true_eq, Nat.reduceSub, Int.reducePow, ge_iff_le]
 split <;> omega
end Go.Fw
end
section
namespace Go.Fw
variable {P : Program} {Q : Exit → St → Prop}
theorem getB_fgtS' {p : Nat → Bool} {s : Store} {i : Nat} {b : Blk} (h : getB (fgtS p s) i = some b) : p i = false ∧ ∃ c, getB s i = some c := by
 induction s with
 | nil => cases h
 | cons x r ih =>
   obtain ⟨j, d⟩ := x
   simp only [fgtS] at h
   split at h
   ·rename_i hp
    obtain ⟨h1, c, h2⟩ := ih h
    refine ⟨h1, ?_⟩
    simp only [getB]
    split
    ·exact ⟨d, rfl⟩
    ·exact ⟨c, h2⟩
   ·rename_i hp
    simp only [getB] at h ⊢
    split at h
    ·rename_i e
     subst e
     rw [if_pos rfl]
     exact ⟨by simpa using hp, d, rfl⟩
    ·rename_i e
     rw [if_neg e]
     exact ih h
theorem Rel.frz {w0 : World} {L0 : Par} {X : Nat → Prop} {m : Nat → Option Nat} {e : Env} {s : Store} {a : Act} {w : World} (h : Rel w0 L0 X m e s a w) {k id sz off len : Nat} {rows : List (List D)} (hid : getB s id = some (.data sz rows)) (hle : off + len ≤ rows.length) (hk : e.getD k .top = .rs id sz off len) :
  Rel w0 L0 X m ((V.fgtL (· == id) e).set k (.d (.sl false ((rows.drop off).take len)))) (fgtS (· == id) s) a w := by
 have hv := h.look (.tmp k)
 simp only [Fw.look, hk] at hv
 have hlt : k < e.length := by
  rcases Nat.lt_or_ge k e.length with h | h
  ·exact h
  ·rw [List.getD_eq_getElem?_getD, List.getElem?_eq_none h] at hk; cases hk
 have hlt' : k < a.tmps.size := by have := h.env.len; simp at this; omega
 have hkeep : id ∉ (s.map (·.1)).filter (fun i => !(i == id)) := by simp
 have h1 := fin_rel h (keep := (s.map (·.1)).filter (fun i => !(i == id))) hv
 have e0 : V.fin ((s.map (·.1)).filter (fun i => !(i == id))) s (.rs id sz off len) = .d (.sl false ((rows.drop off).take len)) := by
  simp only [V.fin]
  rw [show ((s.map (·.1)).filter (fun i => !(i == id))).idxOf? id = none from List.idxOf?_eq_none_iff.2 hkeep]
  simp only [Fw.frz, hid]
  simp [hle]
 rw [e0] at h1
 have hL : ∀ b, Live X m (fgtS (· == id) s) b → Live X (finM ((s.map (·.1)).filter (fun i => !(i == id))) m) (finS ((s.map (·.1)).filter (fun i => !(i == id))) s ((s.map (·.1)).filter (fun i => !(i == id))) 0) b := by
  intro b hb
  refine hb.imp_right ?_
  rintro ⟨i, blk, g1, g2⟩
  obtain ⟨g3, c, g4⟩ := getB_fgtS' g1
  have hi : i ∈ (s.map (·.1)).filter (fun i => !(i == id)) := by
   rw [List.mem_filter]
   exact ⟨List.mem_map.2 ⟨_, getB_mem g4, rfl⟩, by simpa using g3⟩
  obtain ⟨j, hj⟩ := List.getElem?_of_mem hi
  refine ⟨j, c.fin ((s.map (·.1)).filter (fun i => !(i == id))) s, ?_, by simp [finM, hj, g2]⟩
  rw [getB_finS]
  simp [hj, g4]
 have hd : VRel w (Live X m (fgtS (· == id) s)) m (.d (.sl false ((rows.drop off).take len))) (a.eval (.tmp k)) := by
  cases h1 with
  | d hd => exact .d (hd.mono (fun _ _ _ q => q) fun b hb => .inl (hL b hb))
 have h2 := (h.fgt (· == id)).put (some k) hd
 have e1 : a.put (some k) (a.eval (.tmp k)) = a := by
  cases a with
  | mk tmps defers =>
    simp only [Act.eval, Act.put]
    congr 1
    apply Array.ext
    ·simp
    ·intro j h1 h2
     by_cases e : k = j
     ·subst e
      simp [Array.getD, h2]
     ·rw [Array.getElem_setIfInBounds, if_neg e]
 rw [e1] at h2
 exact h2
theorem Run.frz {c : Code} {e : Env} {s : Store} (k id : Nat) {sz off len : Nat} {rows : List (List D)} (hid : getB s id = some (.data sz rows)) (hle : off + len ≤ rows.length) (hk : e.getD k .top = .rs id sz off len)
  (h : Run P c ⟨(V.fgtL (· == id) e).set k (.d (.sl false ((rows.drop off).take len))), fgtS (· == id) s⟩ Q) : Run P c ⟨e, s⟩ Q := fun w0 L0 X m a w hr => h w0 L0 X (hr.frz hid hle hk)
theorem Run.sub {c : Code} {e : Env} {s : Store} (k : Nat) {x y : D} (hk : e.getD k .top = .d x) (hs : ∀ (w : World) (L : Nat → Prop) (v : Value), DRel w L x v → DRel w L y v) (h : Run P c ⟨e.set k (.d y), s⟩ Q) : Run P c ⟨e, s⟩ Q := fun w0 L0 X m a w hr => by
 have hv := hr.look (.tmp k)
 simp only [look, hk] at hv
 have hlt : k < e.length := by
  rcases Nat.lt_or_ge k e.length with h | h
  ·exact h
  ·rw [List.getD_eq_getElem?_getD, List.getElem?_eq_none h] at hk; cases hk
 have hlt' : k < a.tmps.size := by have := hr.env.len; simp at this; omega
 have hd : VRel w (Live X m s) m (.d y) (a.eval (.tmp k)) := by
  cases hv with
  | d hd => exact .d (hs _ _ _ hd)
 have h2 := hr.put (some k) hd
 have e1 : a.put (some k) (a.eval (.tmp k)) = a := by
  cases a with
  | mk tmps defers =>
    simp only [Act.eval, Act.put]
    congr 1
    apply Array.ext
    ·simp
    ·intro j h1 h2
     by_cases e : k = j
     ·subst e
      simp [Array.getD, h2]
     ·rw [Array.getElem_setIfInBounds, if_neg e]
 rw [e1] at h2
 exact h w0 L0 X h2
end Go.Fw
end
section
namespace Go.Fw
variable {P : Program} {Q : Exit → St → Prop}
mutual
def V.fra (id : Nat) (s : Store) : V → V
 | .top => .top
 | .d x => .d x
 | .rs i sz off len => if i = id then frz s i sz off len else .rs i sz off len
 | .pt i sz row col => if i = id then frzP s i row col else .pt i sz row col
 | .mp i => if i = id then .top else .mp i
 | .fn f capt => .fn f (V.fraL id s capt)
 | .ag cells => mkAg (V.fraL id s cells)
 | .tup vs => .tup (V.fraL id s vs)
def V.fraL (id : Nat) (s : Store) : List V → List V
 | [] => []
 | v :: r => v.fra id s :: V.fraL id s r
end
def Blk.fra (id : Nat) (s : Store) : Blk → Blk
 | .vals cells => .vals (V.fraL id s cells)
 | .mp ks vs => .mp ks (V.fraL id s vs)
 | .data sz rows => .data sz rows
def fraS (id : Nat) (s0 : Store) : Store → Store
 | [] => []
 | (i, b) :: r => if i = id then fraS id s0 r else (i, b.fra id s0) :: fraS id s0 r
theorem fraL_len (id : Nat) (s : Store) : ∀ l : List V, (V.fraL id s l).length = l.length := by
 intro l
 induction l with
 | nil => rfl
 | cons v r ih => simp [V.fraL, ih]
theorem fraL_at (id : Nat) (s : Store) : ∀ (l : List V) (j : Nat), (V.fraL id s l)[j]? = (l[j]?).map (V.fra id s) := by
 intro l
 induction l with
 | nil => intro j; simp [V.fraL]
 | cons v r ih => intro j; cases j <;> simp [V.fraL, ih]
theorem getB_fraS (id : Nat) (s0 : Store) : ∀ (s : Store) (i : Nat), getB (fraS id s0 s) i = if i = id then none else (getB s i).map (Blk.fra id s0) := by
 intro s
 induction s with
 | nil => intro i; simp [fraS, getB]
 | cons x r ih =>
   intro i
   obtain ⟨j, c⟩ := x
   simp only [fraS]
   by_cases e : j = id
   ·rw [if_pos e, ih]
    by_cases q : i = id
    ·rw [if_pos q, if_pos q]
    ·rw [if_neg q, if_neg q]
     simp only [getB]
     rw [if_neg (by omega)]
   ·rw [if_neg e]
    simp only [getB]
    by_cases q : j = i
    ·rw [if_pos q, if_pos q, if_neg (by omega)]; rfl
    ·rw [if_neg q, if_neg q, ih]
section
variable {w0 : World} {L0 : Par} {X : Nat → Prop} {m : Nat → Option Nat} {e : Env} {s : Store} {a : Act} {w : World}
theorem own_fra {id b : Nat} (h : Own m (fraS id s s) b) : ∃ i blk, i ≠ id ∧ getB s i = some blk ∧ m i = some b := by
 obtain ⟨i, blk, h1, h2⟩ := h
 rw [getB_fraS] at h1
 split at h1
 ·cases h1
 ·rename_i e
  obtain ⟨b0, g3, g4⟩ := Option.map_eq_some_iff.1 h1
  exact ⟨i, b0, e, g3, h2⟩
theorem live_fra {id b : Nat} (h : Live X m (fraS id s s) b) : Live X m s b := h.imp_right fun h => by
 obtain ⟨i, blk, _, h2, h3⟩ := own_fra h
 exact ⟨i, blk, h2, h3⟩
theorem not_live_fra (h : Rel w0 L0 X m e s a w) {id b : Nat} {blk : Blk} (hid : getB s id = some blk) (hm : m id = some b) : ¬ Live X m (fraS id s s) b := by
 rintro (hl | hl)
 ·exact (h.disj hl).2 ⟨id, blk, hid, hm⟩
 ·obtain ⟨i, c, h1, h2, h3⟩ := own_fra hl
  exact h1 (h.sto.inj i id b h3 hm (by rw [h2]; rfl) (by rw [hid]; rfl))
theorem fra_rel (h : Rel w0 L0 X m e s a w) {k : Nat} {x : V} {v : Value} (hx : VRel w (Live X m s) m x v) : VRel w (Live X m (fraS k s s)) m (x.fra k s) v := by
 have hD : ∀ {x : D} {v : Value}, DRel w (Live X m s) x v → DRel w (Live X m (fraS k s s)) x v := fun hx => hx.mono (fun _ _ _ q => q) (fun b hl => .inl (live_fra hl))
 induction hx with
 | top v => exact .top v
 | d hx => exact .d (hD hx)
 | rsE id sz =>
   simp only [V.fra]
   split
   ·unfold frz
    split
    ·split
     ·exact .d (by simpa using DRel.slE false none 0 (by simp))
     ·exact .top _
    ·exact .top _
   ·exact .rsE _ sz
 | rs id sz off len cap b cs ty fr hm hc hxl hh hs =>
   simp only [V.fra]
   split
   ·rename_i hj
    subst hj
    unfold frz
    split
    ·rename_i n rows hg
     split
     ·rename_i hcond
      obtain ⟨rfl, hle⟩ := hcond
      rcases h.sto.blk id _ hg with ⟨b', hm', cs', ty', fr', hh', hfr', hsz', hlen', hall⟩ | ⟨hn, _⟩
      ·rw [hm] at hm'; cases hm'
       rw [hh] at hh'; cases hh'
       have hl : ((rows.drop off).take len).length = len := by simp; omega
       have hrow : ∀ (i : Nat) (r : List D), ((rows.drop off).take len)[i]? = some r → rows[off + i]? = some r := by
        intro i r h1
        rw [List.getElem?_take] at h1
        split at h1
        ·rwa [List.getElem?_drop] at h1
        ·cases h1
       have q := VRel.d (m := m) (DRel.sl (w := w) (L := Live X m (fraS id s s)) false ((rows.drop off).take len) b (off * n) cap n (fun i j => (cs[(off + i) * n + j]?).getD undef) (fun _ _ _ _ _ _ => not_live_fra h hg hm) (by rw [hl]; exact hc)
        (by rw [hl]; exact hxl) (fun r hr => hlen' r (List.mem_of_mem_drop (List.mem_of_mem_take hr)))
        (fun i j r x h1 h2 => by
          obtain ⟨v, b1, b2, b3⟩ := hall (off + i) j r x (hrow i r h1) h2
          rw [cell_of hh, show off * n + i * n + j = (off + i) * n + j by rw [Nat.add_mul], b1]; rfl)
        (fun i j r x h1 h2 => by obtain ⟨v, b1, b2, b3⟩ := hall (off + i) j r x (hrow i r h1) h2; rw [b1]; exact b2)
        (fun i j r x h1 h2 => by obtain ⟨v, b1, b2, b3⟩ := hall (off + i) j r x (hrow i r h1) h2; rw [b1]; exact hD b3))
       rw [hl] at q
       exact q
      ·rw [hm] at hn; cases hn
     ·exact .top _
    ·exact .top _
   ·exact .rs id sz off len cap b cs ty fr hm hc hxl hh hs
 | pt id sz row col b hm =>
   simp only [V.fra]
   split
   ·rename_i hj
    subst hj
    unfold frzP
    split
    ·rename_i cells hg
     split
     ·rename_i ds hds
      split
      ·rename_i h0
       subst h0
       rcases h.sto.blk id _ hg with ⟨b', hm', vs, ex, ty, fr, hh, hfr, hone, hall⟩ | ⟨hn, _, hn'⟩
       ·rw [hm] at hm'; cases hm'
        have hd := toDs_rel hds hall
        have q := VRel.d (m := m) (DRel.ip (w := w) (L := Live X m (fraS id s s)) ds b 0 col (fun j => (vs[j]?).getD undef) (fun _ _ _ => not_live_fra h hg hm)
         (fun j x hj => by obtain ⟨v, b1, b2⟩ := hd.get hj; rw [cell_of hh, Nat.zero_add, List.getElem?_toArray, List.getElem?_append_left (List.getElem?_eq_some_iff.1 b1).1]; simp [b1])
         (fun j x hj => by obtain ⟨v, b1, b2⟩ := hd.get hj; rw [b1]; exact hone v (List.mem_of_getElem? b1))
         (fun j x hj => by obtain ⟨v, b1, b2⟩ := hd.get hj; rw [b1]; exact hD b2))
        simpa using q
       ·cases hn'
      ·exact .top _
     ·exact .top _
    ·exact .top _
   ·exact .pt id sz row col b hm
 | mp id b hm =>
   simp only [V.fra]
   split
   ·exact .top _
   ·exact .mp id b hm
 | fn f capt vs hl hr ih =>
   refine .fn f _ vs (hl.trans (fraL_len _ _ _).symm) fun j x v h1 h2 => ?_
   rw [fraL_at] at h1
   obtain ⟨y, hy, rfl⟩ := Option.map_eq_some_iff.1 h1
   exact ih j y v hy h2
 | ag cells vs hl ho hr ih =>
   refine mkAg_rel ho ⟨hl.trans (fraL_len _ _ _).symm, fun j x v h1 h2 => ?_⟩
   rw [fraL_at] at h1
   obtain ⟨y, hy, rfl⟩ := Option.map_eq_some_iff.1 h1
   exact ih j y v hy h2
 | tup cells vs hl hr ih =>
   refine .tup _ vs (hl.trans (fraL_len _ _ _).symm) fun j x v h1 h2 => ?_
   rw [fraL_at] at h1
   obtain ⟨y, hy, rfl⟩ := Option.map_eq_some_iff.1 h1
   exact ih j y v hy h2
theorem fraA_rel (h : Rel w0 L0 X m e s a w) {k : Nat} {l : List V} {vs : List Value} (hx : All2 (VRel w (Live X m s) m) l vs) : All2 (VRel w (Live X m (fraS k s s)) m) (V.fraL k s l) vs :=
 ⟨hx.len.trans (fraL_len _ _ _).symm, fun j x v h1 h2 => by
  rw [fraL_at] at h1
  obtain ⟨y, hy, rfl⟩ := Option.map_eq_some_iff.1 h1
  exact fra_rel h (hx.at_ j y v hy h2)⟩
theorem Rel.fra (h : Rel w0 L0 X m e s a w) (k : Nat) : Rel w0 L0 X m (V.fraL k s e) (fraS k s s) a w := by
 have hown : ∀ b, Own m (fraS k s s) b → Own m s b := fun b hb => by
  obtain ⟨i, blk, _, h2, h3⟩ := own_fra hb
  exact ⟨i, blk, h2, h3⟩
 have hsome : ∀ i, (getB (fraS k s s) i).isSome = true → (getB s i).isSome = true := fun i hi => by
  rw [getB_fraS] at hi
  split at hi
  ·cases hi
  ·simpa using hi
 refine ⟨fraA_rel h h.env, ⟨fun i blk hi => ?_, fun i j b q1 q2 q3 q4 => h.sto.inj i j b q1 q2 (hsome i q3) (hsome j q4)⟩, h.dfr, h.ext, fun b hb => h.liv b (hown b hb), h.old, fun i hi hs => h.par i hi (hsome i hs)⟩
 rw [getB_fraS] at hi
 split at hi
 ·cases hi
 ·obtain ⟨c, g1, rfl⟩ := Option.map_eq_some_iff.1 hi
  rcases h.sto.blk i c g1 with ⟨b, r1, r2⟩ | ⟨r1, sz, rfl⟩
  ·refine .inl ⟨b, r1, ?_⟩
   cases c with
   | vals cells =>
     obtain ⟨vs, ex, ty, fr, g2, g3, g4, g5⟩ := r2
     exact ⟨vs, ex, ty, fr, g2, g3, g4, fraA_rel h g5⟩
   | mp ks vs =>
     obtain ⟨es, clock, g2, g3, g4⟩ := r2
     exact ⟨es, clock, g2, g3, fraA_rel h g4⟩
   | data sz rows =>
     obtain ⟨cs, ty, fr, g2, g3, g4, g5, g6⟩ := r2
     exact ⟨cs, ty, fr, g2, g3, g4, g5, fun i j r x q1 q2 => by
      obtain ⟨v, b1, b2, b3⟩ := g6 i j r x q1 q2
      exact ⟨v, b1, b2, b3.mono (fun _ _ _ q => q) (fun b hl => .inl (live_fra hl))⟩⟩
  ·exact .inr ⟨r1, sz, rfl⟩
theorem Rel.subB (h : Rel w0 L0 X m e s a w) {b j : Nat} {cells : List V} {x y : V} (hb : getB s b = some (.vals cells)) (hx : cells[j]? = some x) (hs : ∀ (w : World) (L : Nat → Prop) (m : Nat → Option Nat) (v : Value), VRel w L m x v → VRel w L m y v) :
  Rel w0 L0 X m e (putB s b (.vals (cells.set j y))) a w := by
 have hsome : ∀ i, (getB (putB s b (.vals (cells.set j y))) i).isSome = true → (getB s i).isSome = true := fun i hi => by
  rw [getB_putB] at hi
  split at hi
  ·rename_i q; rw [q, hb]; rfl
  ·exact hi
 have hown : ∀ c, Own m (putB s b (.vals (cells.set j y))) c → Own m s c := by
  rintro c ⟨i, blk, g1, g2⟩
  obtain ⟨d, hd⟩ := Option.isSome_iff_exists.1 (hsome i (by rw [g1]; rfl))
  exact ⟨i, d, hd, g2⟩
 have hL : ∀ c, Live X m (putB s b (.vals (cells.set j y))) c → Live X m s c ∨ w.heap.size ≤ c := fun c hc => .inl (hc.imp_right (hown c))
 have hk : CellsKept (Live X m s) w w := fun _ _ _ q => q
 have hz : SizesKept w w := fun _ cs _ _ q => ⟨cs, q, rfl⟩
 refine ⟨h.env.mono fun x v q => VRel.mono' hk hz hL q, ⟨fun i blk hi => ?_, fun i j b q1 q2 q3 q4 => h.sto.inj i j b q1 q2 (hsome i q3) (hsome j q4)⟩, h.dfr, h.ext, fun b hb => h.liv b (hown b hb), h.old, fun i hi hs => h.par i hi (hsome i hs)⟩
 rw [getB_putB] at hi
 split at hi
 ·rename_i q
  subst q
  cases hi
  rcases h.sto.blk i _ hb with ⟨b', r1, vs, ex, ty, fr, g2, g3, g4, g5⟩ | ⟨_, _, r2⟩
  ·refine .inl ⟨b', r1, vs, ex, ty, fr, g2, g3, g4, ?_⟩
   have g6 : All2 (VRel w (Live X m (putB s i (.vals (cells.set j y)))) m) cells vs := g5.mono fun x v q => VRel.mono' hk hz hL q
   refine ⟨by simpa using g6.len, fun k z v q1 q2 => ?_⟩
   rw [List.getElem?_set] at q1
   split at q1
   ·rename_i e
    subst e
    split at q1
    ·cases q1; exact hs _ _ _ _ (g6.at_ j x v hx q2)
    ·cases q1
   ·exact g6.at_ k z v q1 q2
  ·cases r2
 ·rcases h.sto.blk i blk hi with ⟨b', r1, r2⟩ | r
  ·exact .inl ⟨b', r1, BRel.mono (p := fun _ => false) hk hz hL (fun _ _ => rfl) rfl (by cases blk <;> first | exact menL_false _ | trivial) r2⟩
  ·exact .inr r
theorem Rel.mv (h : Rel w0 L0 X m e s a w) (x y : Nat) (hy : 90 ≤ y) (he : V.menL (· == y) e = false) (hs : s.all (fun z => z.1 != y && !z.2.men (· == y)) = true) :
  Rel w0 L0 X (renM m x y) (V.renL (swp x y) e) (puts [] (renS (swp x y) s)) a w := by
 have hid : ∀ j, (j == y) = false → renM m x y (swp x y j) = m j := fun j hj => by
  have hj : j ≠ y := by simpa using hj
  unfold renM swp
  by_cases e1 : j = x
  ·simp [e1]
  ·simp [e1, hj]
 have hkey : ∀ {j b}, getB s j = some b → j ≠ y ∧ b.men (· == y) = false := fun {j b} hg => by
  have := all_get hs hg
  simpa using this
 have hget : ∀ i blk, getB (puts [] (renS (swp x y) s)) i = some blk → ∃ j b0, getB s j = some b0 ∧ swp x y j = i ∧ blk = b0.ren (swp x y) := by
  intro i blk hg
  rw [getB_puts'] at hg
  split at hg
  ·rename_i b hb; cases hg; exact getB_renS hb
  ·cases hg
 have hown : ∀ b, Own (renM m x y) (puts [] (renS (swp x y) s)) b → Own m s b := by
  rintro b ⟨i, blk, h1, h2⟩
  obtain ⟨j, b0, g1, rfl, _⟩ := hget i blk h1
  rw [hid j (by simpa using (hkey g1).1)] at h2
  exact ⟨j, b0, g1, h2⟩
 have hL : ∀ b, Live X (renM m x y) (puts [] (renS (swp x y) s)) b → Live X m s b := fun b hl => hl.imp_right (hown b)
 refine ⟨⟨h.env.len.trans (renL_len _ _).symm, fun j v u q1 q2 => ?_⟩, ⟨fun i blk hi => ?_, fun i j b q1 q2 q3 q4 => ?_⟩, h.dfr, h.ext, fun b hb => h.liv b (hown b hb), h.old, fun i hi hsm => ?_⟩
 ·rw [renL_at] at q1
  obtain ⟨z, hz, rfl⟩ := Option.map_eq_some_iff.1 q1
  exact VRel.ren hL hid (menL_at he hz) (h.env.at_ j z u hz q2)
 ·obtain ⟨j, b0, g1, rfl, rfl⟩ := hget i blk hi
  have ej := hid j (by simpa using (hkey g1).1)
  rcases h.sto.blk j b0 g1 with ⟨b, r1, r2⟩ | ⟨r1, sz, rfl⟩
  ·exact .inl ⟨b, ej.trans r1, BRel.ren hL hid (hkey g1).2 r2⟩
  ·exact .inr ⟨ej.trans r1, sz, rfl⟩
 ·obtain ⟨c1, hc1⟩ := Option.isSome_iff_exists.1 q3
  obtain ⟨c2, hc2⟩ := Option.isSome_iff_exists.1 q4
  obtain ⟨j1, b1, g1, rfl, _⟩ := hget i c1 hc1
  obtain ⟨j2, b2, g2, rfl, _⟩ := hget j c2 hc2
  rw [hid j1 (by simpa using (hkey g1).1)] at q1
  rw [hid j2 (by simpa using (hkey g2).1)] at q2
  rw [h.sto.inj j1 j2 b q1 q2 (by rw [g1]; rfl) (by rw [g2]; rfl)]
 ·obtain ⟨c1, hc1⟩ := Option.isSome_iff_exists.1 hsm
  obtain ⟨j1, b1, g1, e1, _⟩ := hget i c1 hc1
  have : j1 = i := by unfold swp at e1; split at e1 <;> omega
  subst this
  simp only [renM, if_neg (show j1 ≠ y by omega)]
  exact h.par j1 hi (by rw [g1]; rfl)
theorem Rel.subV (h : Rel w0 L0 X m e s a w) {k : Nat} {x y : V} (hk : e.getD k .top = x) (hs : ∀ v, VRel w (Live X m s) m x v → v = a.eval (.tmp k) → VRel w (Live X m s) m y v) : Rel w0 L0 X m (e.set k y) s a w := by
 rcases Nat.lt_or_ge k e.length with hlt | hge
 ·have hv := h.look (.tmp k)
  simp only [Fw.look, hk] at hv
  have hlt' : k < a.tmps.size := by have := h.env.len; simp at this; omega
  have h2 := h.put (some k) (hs _ hv rfl)
  have e1 : a.put (some k) (a.eval (.tmp k)) = a := by
   cases a with
   | mk tmps defers =>
     simp only [Act.eval, Act.put]
     congr 1
     apply Array.ext
     ·simp
     ·intro j h1 h2
      by_cases e : k = j
      ·subst e
       simp [Array.getD, h2]
      ·rw [Array.getElem_setIfInBounds, if_neg e]
  rw [e1] at h2
  exact h2
 ·rw [List.set_eq_of_length_le hge]; exact h
end
theorem Run.fra {c : Code} {e : Env} {s : Store} (id : Nat) (h : Run P c ⟨V.fraL id s e, fraS id s s⟩ Q) : Run P c ⟨e, s⟩ Q := fun w0 L0 X m a w hr => h w0 L0 X (hr.fra id)
theorem Run.subB {c : Code} {e : Env} {s : Store} (b j : Nat) {cells : List V} {x : V} (y : V) (hb : getB s b = some (.vals cells)) (hx : cells[j]? = some x) (hs : ∀ (w : World) (L : Nat → Prop) (m : Nat → Option Nat) (v : Value), VRel w L m x v → VRel w L m y v)
  (h : Run P c ⟨e, putB s b (.vals (cells.set j y))⟩ Q) : Run P c ⟨e, s⟩ Q := fun w0 L0 X m a w hr => h w0 L0 X (hr.subB hb hx hs)
theorem Run.subV {c : Code} {e : Env} {s : Store} (k : Nat) {x : V} (y : V) (hk : e.getD k .top = x) (hs : ∀ (w : World) (L : Nat → Prop) (m : Nat → Option Nat) (v : Value), VRel w L m x v → VRel w L m y v) (h : Run P c ⟨e.set k y, s⟩ Q) : Run P c ⟨e, s⟩ Q :=
 fun w0 L0 X m a w hr => h w0 L0 X (hr.subV hk fun v hv _ => hs _ _ _ _ hv)
theorem Run.mv {c : Code} {e : Env} {s : Store} (x y : Nat) (hy : 90 ≤ y) (he : V.menL (· == y) e = false) (hs : s.all (fun z => z.1 != y && !z.2.men (· == y)) = true) (h : Run P c ⟨V.renL (swp x y) e, puts [] (renS (swp x y) s)⟩ Q) : Run P c ⟨e, s⟩ Q :=
 fun w0 L0 X m a w hr => h w0 L0 X (hr.mv x y hy he hs)
theorem Run.spl {c : Code} {e : Env} {s : Store} (k : Nat) (hk : e.getD k .top = .d (.sl false [])) (h1 : ∀ cap, Run P c ⟨e.set k (.d (.lit (.slice none 0 cap))), s⟩ Q) (h2 : Run P c ⟨e.set k (.d (.sl true [])), s⟩ Q) : Run P c ⟨e, s⟩ Q := fun w0 L0 X m a w hr => by
 have hv := hr.look (.tmp k)
 simp only [Fw.look, hk] at hv
 cases hn : a.eval (.tmp k) with
 | slice A n cap =>
   rw [hn] at hv
   cases hv with
   | d hd =>
     cases hd with
     | slE _ _ _ _ =>
       cases A with
       | none => exact h1 cap w0 L0 X (hr.subV hk fun v _ hv => by rw [hv, hn]; exact .d (.lit _ rfl))
       | some A => exact h2 w0 L0 X (hr.subV hk fun v _ hv => by rw [hv, hn]; exact .d (.slE true _ _ (by simp)))
     | sl _ _ b off cap sz vals _ _ _ _ _ _ _ => exact h2 w0 L0 X (hr.subV hk fun v _ hv => by rw [hv, hn]; exact .d (.slE true _ _ (by simp)))
 | _ => rw [hn] at hv; cases hv with | d hd => cases hd
theorem Run.vir {c : Code} {e : Env} {s : Store} (id sz : Nat) (h90 : 90 ≤ id) (h : Run P c ⟨V.fgtL (· == id) e, putB (fgtS (· == id) s) id (.data sz [])⟩ Q) : Run P c ⟨e, s⟩ Q := fun w0 L0 X m a w hr => by
 have hp : hitO none id = (· == id) := by funext i; simp [hitO]
 have h1 := hr.swap h90 (k := none) (id := id) (ob := none) (blk := .data sz []) (w' := w) (by simp) (fun _ _ _ q => q) (fun _ cs _ _ q => ⟨cs, q, rfl⟩) (fun _ _ _ => rfl) rfl rfl rfl (Nat.le_refl _) (.inl ⟨rfl, sz, rfl⟩)
 rw [hp] at h1
 exact h w0 L0 X h1
theorem nil_rs (id sz : Nat) (w : World) (L : Nat → Prop) (m : Nat → Option Nat) (v : Value) (h : VRel w L m vnil v) : VRel w L m (.rs id sz 0 0) v := by
 have := h.lit_inv; subst this; exact .rsE id sz
theorem nil_sl (w : World) (L : Nat → Prop) (m : Nat → Option Nat) (v : Value) (h : VRel w L m vnil v) : VRel w L m (.d (.sl false [])) v := by
 have := h.lit_inv; subst this; exact .d (.slE false none 0 (by simp))
end Go.Fw
end
section
namespace Go.Proofs.Ytimgbdkgjfbhkaa.Z
open Go Go.Fw
noncomputable abbrev P := Try.prog
theorem mixed : P.follows .mixedOrders = true := by kernel_rfl
@[simp] theorem ty_ag100 : aggOf P 100 = some false := by kernel_rfl
@[simp] theorem ty_ag102 : aggOf P 102 = some true := by kernel_rfl
@[simp] theorem ty_ag112 : aggOf P 112 = some true := by kernel_rfl
@[simp] theorem ty_ag115 : aggOf P 115 = some true := by kernel_rfl
@[simp] theorem ty_ag117 : aggOf P 117 = some false := by kernel_rfl
@[simp] theorem ty_ag118 : aggOf P 118 = some false := by kernel_rfl
@[simp] theorem ty_ag128 : aggOf P 128 = some false := by kernel_rfl
@[simp] theorem ty_ag132 : aggOf P 132 = some false := by kernel_rfl
@[simp] theorem ty_ag180 : aggOf P 180 = some false := by kernel_rfl
@[simp] theorem ty_ag2 : aggOf P 2 = some false := by kernel_rfl
@[simp] theorem ty_ag22 : aggOf P 22 = some false := by kernel_rfl
@[simp] theorem ty_ag23 : aggOf P 23 = some false := by kernel_rfl
@[simp] theorem ty_ag25 : aggOf P 25 = some true := by kernel_rfl
@[simp] theorem ty_ag26 : aggOf P 26 = some false := by kernel_rfl
@[simp] theorem ty_ag27 : aggOf P 27 = some false := by kernel_rfl
@[simp] theorem ty_ag28 : aggOf P 28 = some false := by kernel_rfl
@[simp] theorem ty_ag3 : aggOf P 3 = some false := by kernel_rfl
@[simp] theorem ty_ag32 : aggOf P 32 = some true := by kernel_rfl
@[simp] theorem ty_ag34 : aggOf P 34 = some false := by kernel_rfl
@[simp] theorem ty_ag39 : aggOf P 39 = some false := by kernel_rfl
@[simp] theorem ty_ag4 : aggOf P 4 = some false := by kernel_rfl
@[simp] theorem ty_ag41 : aggOf P 41 = some true := by kernel_rfl
@[simp] theorem ty_ag44 : aggOf P 44 = some false := by kernel_rfl
@[simp] theorem ty_ag45 : aggOf P 45 = some false := by kernel_rfl
@[simp] theorem ty_ag46 : aggOf P 46 = some false := by kernel_rfl
@[simp] theorem ty_ag48 : aggOf P 48 = some true := by kernel_rfl
@[simp] theorem ty_ag59 : aggOf P 59 = some false := by kernel_rfl
@[simp] theorem ty_ag61 : aggOf P 61 = some true := by kernel_rfl
@[simp] theorem ty_ag73 : aggOf P 73 = some false := by kernel_rfl
@[simp] theorem ty_ag75 : aggOf P 75 = some true := by kernel_rfl
@[simp] theorem ty_ag77 : aggOf P 77 = some false := by kernel_rfl
@[simp] theorem ty_ag84 : aggOf P 84 = some false := by kernel_rfl
@[simp] theorem ty_ag85 : aggOf P 85 = some false := by kernel_rfl
@[simp] theorem ty_ag87 : aggOf P 87 = some true := by kernel_rfl
@[simp] theorem ty_ag89 : aggOf P 89 = some true := by kernel_rfl
@[simp] theorem ty_ag9 : aggOf P 9 = some false := by kernel_rfl
@[simp] theorem ty_ag96 : aggOf P 96 = some false := by kernel_rfl
@[simp] theorem ty_ag98 : aggOf P 98 = some true := by kernel_rfl
@[simp] theorem ty_bool4 : boolT P 4 = true := by kernel_rfl
@[simp] theorem ty_by2 : bytesOfT P 2 = 8 := by kernel_rfl
@[simp] theorem ty_by3 : bytesOfT P 3 = 8 := by kernel_rfl
@[simp] theorem ty_by34 : bytesOfT P 34 = 24 := by kernel_rfl
@[simp] theorem ty_by4 : bytesOfT P 4 = 1 := by kernel_rfl
@[simp] theorem ty_by41 : bytesOfT P 41 = 40 := by kernel_rfl
@[simp] theorem ty_by46 : bytesOfT P 46 = 24 := by kernel_rfl
@[simp] theorem ty_by48 : bytesOfT P 48 = 96 := by kernel_rfl
@[simp] theorem ty_by70 : bytesOfT P 70 = 24 := by kernel_rfl
@[simp] theorem ty_by75 : bytesOfT P 75 = 80 := by kernel_rfl
@[simp] theorem ty_by89 : bytesOfT P 89 = 120 := by kernel_rfl
@[simp] theorem ty_by98 : bytesOfT P 98 = 64 := by kernel_rfl
@[simp] theorem ty_el130 : elemOfT P 130 = none := by kernel_rfl
@[simp] theorem ty_el135 : elemOfT P 135 = none := by kernel_rfl
@[simp] theorem ty_el22 : elemOfT P 22 = some 46 := by kernel_rfl
@[simp] theorem ty_el23 : elemOfT P 23 = some 41 := by kernel_rfl
@[simp] theorem ty_el26 : elemOfT P 26 = some 70 := by kernel_rfl
@[simp] theorem ty_el27 : elemOfT P 27 = some 98 := by kernel_rfl
@[simp] theorem ty_el28 : elemOfT P 28 = some 89 := by kernel_rfl
@[simp] theorem ty_el34 : elemOfT P 34 = some 4 := by kernel_rfl
@[simp] theorem ty_el39 : elemOfT P 39 = some 75 := by kernel_rfl
@[simp] theorem ty_el45 : elemOfT P 45 = some 48 := by kernel_rfl
@[simp] theorem ty_el46 : elemOfT P 46 = some 3 := by kernel_rfl
@[simp] theorem ty_el59 : elemOfT P 59 = some 2 := by kernel_rfl
@[simp] theorem ty_el77 : elemOfT P 77 = some 34 := by kernel_rfl
@[simp] theorem ty_el9 : elemOfT P 9 = none := by kernel_rfl
@[simp] theorem ty_fl102_0 : fldOf P 102 0 = some (0, 48) := by kernel_rfl
@[simp] theorem ty_fl102_1 : fldOf P 102 1 = some (6, 28) := by kernel_rfl
@[simp] theorem ty_fl104_0 : fldOf P 104 0 = some (0, 32) := by kernel_rfl
@[simp] theorem ty_fl104_1 : fldOf P 104 1 = some (7, 61) := by kernel_rfl
@[simp] theorem ty_fl104_2 : fldOf P 104 2 = some (9, 102) := by kernel_rfl
@[simp] theorem ty_fl104_3 : fldOf P 104 3 = some (16, 34) := by kernel_rfl
@[simp] theorem ty_fl112_0 : fldOf P 112 0 = some (0, 32) := by kernel_rfl
@[simp] theorem ty_fl112_1 : fldOf P 112 1 = some (7, 3) := by kernel_rfl
@[simp] theorem ty_fl115_0 : fldOf P 115 0 = some (0, 32) := by kernel_rfl
@[simp] theorem ty_fl115_1 : fldOf P 115 1 = some (7, 61) := by kernel_rfl
@[simp] theorem ty_fl120_0 : fldOf P 120 0 = some (0, 32) := by kernel_rfl
@[simp] theorem ty_fl120_1 : fldOf P 120 1 = some (7, 25) := by kernel_rfl
@[simp] theorem ty_fl120_2 : fldOf P 120 2 = some (9, 45) := by kernel_rfl
@[simp] theorem ty_fl120_3 : fldOf P 120 3 = some (10, 118) := by kernel_rfl
@[simp] theorem ty_fl25_0 : fldOf P 25 0 = some (0, 22) := by kernel_rfl
@[simp] theorem ty_fl25_1 : fldOf P 25 1 = some (1, 23) := by kernel_rfl
@[simp] theorem ty_fl32_0 : fldOf P 32 0 = some (0, 26) := by kernel_rfl
@[simp] theorem ty_fl32_1 : fldOf P 32 1 = some (1, 27) := by kernel_rfl
@[simp] theorem ty_fl32_2 : fldOf P 32 2 = some (2, 28) := by kernel_rfl
@[simp] theorem ty_fl41_0 : fldOf P 41 0 = some (0, 3) := by kernel_rfl
@[simp] theorem ty_fl41_1 : fldOf P 41 1 = some (1, 39) := by kernel_rfl
@[simp] theorem ty_fl41_2 : fldOf P 41 2 = some (2, 3) := by kernel_rfl
@[simp] theorem ty_fl48_0 : fldOf P 48 0 = some (0, 44) := by kernel_rfl
@[simp] theorem ty_fl48_1 : fldOf P 48 1 = some (1, 45) := by kernel_rfl
@[simp] theorem ty_fl48_2 : fldOf P 48 2 = some (2, 3) := by kernel_rfl
@[simp] theorem ty_fl48_3 : fldOf P 48 3 = some (3, 46) := by kernel_rfl
@[simp] theorem ty_fl48_4 : fldOf P 48 4 = some (4, 4) := by kernel_rfl
@[simp] theorem ty_fl48_5 : fldOf P 48 5 = some (5, 28) := by kernel_rfl
@[simp] theorem ty_fl61_0 : fldOf P 61 0 = some (0, 59) := by kernel_rfl
@[simp] theorem ty_fl61_1 : fldOf P 61 1 = some (1, 59) := by kernel_rfl
@[simp] theorem ty_fl70_1 : fldOf P 70 1 = some (1, 3) := by kernel_rfl
@[simp] theorem ty_fl75_0 : fldOf P 75 0 = some (0, 73) := by kernel_rfl
@[simp] theorem ty_fl75_1 : fldOf P 75 1 = some (1, 3) := by kernel_rfl
@[simp] theorem ty_fl75_2 : fldOf P 75 2 = some (2, 46) := by kernel_rfl
@[simp] theorem ty_fl75_3 : fldOf P 75 3 = some (3, 4) := by kernel_rfl
@[simp] theorem ty_fl75_4 : fldOf P 75 4 = some (4, 28) := by kernel_rfl
@[simp] theorem ty_fl75_5 : fldOf P 75 5 = some (5, 3) := by kernel_rfl
@[simp] theorem ty_fl79_0 : fldOf P 79 0 = some (0, 25) := by kernel_rfl
@[simp] theorem ty_fl79_1 : fldOf P 79 1 = some (2, 32) := by kernel_rfl
@[simp] theorem ty_fl79_2 : fldOf P 79 2 = some (9, 77) := by kernel_rfl
@[simp] theorem ty_fl79_3 : fldOf P 79 3 = some (10, 34) := by kernel_rfl
@[simp] theorem ty_fl87_0 : fldOf P 87 0 = some (0, 85) := by kernel_rfl
@[simp] theorem ty_fl87_1 : fldOf P 87 1 = some (1, 4) := by kernel_rfl
@[simp] theorem ty_fl87_2 : fldOf P 87 2 = some (2, 2) := by kernel_rfl
@[simp] theorem ty_fl87_3 : fldOf P 87 3 = some (3, 9) := by kernel_rfl
@[simp] theorem ty_fl87_4 : fldOf P 87 4 = some (4, 59) := by kernel_rfl
@[simp] theorem ty_fl89_0 : fldOf P 89 0 = some (0, 84) := by kernel_rfl
@[simp] theorem ty_fl89_1 : fldOf P 89 1 = some (1, 28) := by kernel_rfl
@[simp] theorem ty_fl89_2 : fldOf P 89 2 = some (2, 3) := by kernel_rfl
@[simp] theorem ty_fl89_3 : fldOf P 89 3 = some (3, 9) := by kernel_rfl
@[simp] theorem ty_fl89_4 : fldOf P 89 4 = some (4, 87) := by kernel_rfl
@[simp] theorem ty_fl92_0 : fldOf P 92 0 = some (0, 32) := by kernel_rfl
@[simp] theorem ty_fl92_1 : fldOf P 92 1 = some (7, 25) := by kernel_rfl
@[simp] theorem ty_fl98_1 : fldOf P 98 1 = some (1, 3) := by kernel_rfl
@[simp] theorem ty_fl98_2 : fldOf P 98 2 = some (2, 3) := by kernel_rfl
@[simp] theorem ty_fl98_3 : fldOf P 98 3 = some (3, 3) := by kernel_rfl
@[simp] theorem ty_fl98_4 : fldOf P 98 4 = some (4, 96) := by kernel_rfl
@[simp] theorem ty_fl98_6 : fldOf P 98 6 = some (6, 3) := by kernel_rfl
@[simp] theorem ty_int167 : intOf? P 167 = some .u64 := by kernel_rfl
@[simp] theorem ty_int177 : intOf? P 177 = some .u32 := by kernel_rfl
@[simp] theorem ty_int179 : intOf? P 179 = some .u64 := by kernel_rfl
@[simp] theorem ty_int180 : intOf? P 180 = some .u64 := by kernel_rfl
@[simp] theorem ty_int3 : intOf? P 3 = some .i64 := by kernel_rfl
@[simp] theorem ty_int5 : intOf? P 5 = some .u8 := by kernel_rfl
@[simp] theorem ty_key3 : keyD P 3 = some (.int .i64) := by kernel_rfl
@[simp] theorem ty_key44 : keyD P 44 = some (.int .i64) := by kernel_rfl
@[simp] theorem ty_key73 : keyD P 73 = some (.int .i64) := by kernel_rfl
@[simp] theorem ty_map118 : mapT P 118 = some (3, 4) := by kernel_rfl
@[simp] theorem ty_map140 : mapT P 140 = some (44, 3) := by kernel_rfl
@[simp] theorem ty_map160 : mapT P 160 = some (73, 44) := by kernel_rfl
@[simp] theorem ty_pl102 : placesT P 102 = some [(0, 6), (6, 1)] := by kernel_rfl
@[simp] theorem ty_pl104 : placesT P 104 = some [(0, 7), (7, 2), (9, 7), (16, 1)] := by kernel_rfl
@[simp] theorem ty_pl112 : placesT P 112 = some [(0, 7), (7, 1)] := by kernel_rfl
@[simp] theorem ty_pl115 : placesT P 115 = some [(0, 7), (7, 2)] := by kernel_rfl
@[simp] theorem ty_pl120 : placesT P 120 = some [(0, 7), (7, 2), (9, 1), (10, 1)] := by kernel_rfl
@[simp] theorem ty_pl25 : placesT P 25 = some [(0, 1), (1, 1)] := by kernel_rfl
@[simp] theorem ty_pl32 : placesT P 32 = some [(0, 1), (1, 1), (2, 1), (3, 1), (4, 1), (5, 1), (6, 1)] := by kernel_rfl
@[simp] theorem ty_pl41 : placesT P 41 = some [(0, 1), (1, 1), (2, 1)] := by kernel_rfl
@[simp] theorem ty_pl48 : placesT P 48 = some [(0, 1), (1, 1), (2, 1), (3, 1), (4, 1), (5, 1)] := by kernel_rfl
@[simp] theorem ty_pl61 : placesT P 61 = some [(0, 1), (1, 1)] := by kernel_rfl
@[simp] theorem ty_pl70 : placesT P 70 = some [(0, 1), (1, 1)] := by kernel_rfl
@[simp] theorem ty_pl75 : placesT P 75 = some [(0, 1), (1, 1), (2, 1), (3, 1), (4, 1), (5, 1)] := by kernel_rfl
@[simp] theorem ty_pl79 : placesT P 79 = some [(0, 2), (2, 7), (9, 1), (10, 1)] := by kernel_rfl
@[simp] theorem ty_pl92 : placesT P 92 = some [(0, 7), (7, 2)] := by kernel_rfl
@[simp] theorem ty_pl98 : placesT P 98 = some [(0, 1), (1, 1), (2, 1), (3, 1), (4, 1), (5, 1), (6, 1)] := by kernel_rfl
@[simp] theorem ty_str9 : strT P 9 = true := by kernel_rfl
@[simp] theorem ty_sz100 : szOf P 100 = 1 := by kernel_rfl
@[simp] theorem ty_sz102 : szOf P 102 = 7 := by kernel_rfl
@[simp] theorem ty_sz112 : szOf P 112 = 8 := by kernel_rfl
@[simp] theorem ty_sz115 : szOf P 115 = 9 := by kernel_rfl
@[simp] theorem ty_sz117 : szOf P 117 = 1 := by kernel_rfl
@[simp] theorem ty_sz118 : szOf P 118 = 1 := by kernel_rfl
@[simp] theorem ty_sz128 : szOf P 128 = 1 := by kernel_rfl
@[simp] theorem ty_sz132 : szOf P 132 = 1 := by kernel_rfl
@[simp] theorem ty_sz180 : szOf P 180 = 1 := by kernel_rfl
@[simp] theorem ty_sz2 : szOf P 2 = 1 := by kernel_rfl
@[simp] theorem ty_sz22 : szOf P 22 = 1 := by kernel_rfl
@[simp] theorem ty_sz23 : szOf P 23 = 1 := by kernel_rfl
@[simp] theorem ty_sz25 : szOf P 25 = 2 := by kernel_rfl
@[simp] theorem ty_sz26 : szOf P 26 = 1 := by kernel_rfl
@[simp] theorem ty_sz27 : szOf P 27 = 1 := by kernel_rfl
@[simp] theorem ty_sz28 : szOf P 28 = 1 := by kernel_rfl
@[simp] theorem ty_sz3 : szOf P 3 = 1 := by kernel_rfl
@[simp] theorem ty_sz32 : szOf P 32 = 7 := by kernel_rfl
@[simp] theorem ty_sz34 : szOf P 34 = 1 := by kernel_rfl
@[simp] theorem ty_sz39 : szOf P 39 = 1 := by kernel_rfl
@[simp] theorem ty_sz4 : szOf P 4 = 1 := by kernel_rfl
@[simp] theorem ty_sz41 : szOf P 41 = 3 := by kernel_rfl
@[simp] theorem ty_sz44 : szOf P 44 = 1 := by kernel_rfl
@[simp] theorem ty_sz45 : szOf P 45 = 1 := by kernel_rfl
@[simp] theorem ty_sz46 : szOf P 46 = 1 := by kernel_rfl
@[simp] theorem ty_sz48 : szOf P 48 = 6 := by kernel_rfl
@[simp] theorem ty_sz59 : szOf P 59 = 1 := by kernel_rfl
@[simp] theorem ty_sz61 : szOf P 61 = 2 := by kernel_rfl
@[simp] theorem ty_sz70 : szOf P 70 = 2 := by kernel_rfl
@[simp] theorem ty_sz73 : szOf P 73 = 1 := by kernel_rfl
@[simp] theorem ty_sz75 : szOf P 75 = 6 := by kernel_rfl
@[simp] theorem ty_sz77 : szOf P 77 = 1 := by kernel_rfl
@[simp] theorem ty_sz84 : szOf P 84 = 1 := by kernel_rfl
@[simp] theorem ty_sz85 : szOf P 85 = 1 := by kernel_rfl
@[simp] theorem ty_sz87 : szOf P 87 = 5 := by kernel_rfl
@[simp] theorem ty_sz89 : szOf P 89 = 9 := by kernel_rfl
@[simp] theorem ty_sz9 : szOf P 9 = 1 := by kernel_rfl
@[simp] theorem ty_sz96 : szOf P 96 = 1 := by kernel_rfl
@[simp] theorem ty_sz98 : szOf P 98 = 7 := by kernel_rfl
@[simp] theorem ty_tk118 : tkind P 118 = 3 := by kernel_rfl
@[simp] theorem ty_tk22 : tkind P 22 = 1 := by kernel_rfl
@[simp] theorem ty_tk23 : tkind P 23 = 1 := by kernel_rfl
@[simp] theorem ty_tk26 : tkind P 26 = 1 := by kernel_rfl
@[simp] theorem ty_tk27 : tkind P 27 = 1 := by kernel_rfl
@[simp] theorem ty_tk28 : tkind P 28 = 1 := by kernel_rfl
@[simp] theorem ty_tk34 : tkind P 34 = 1 := by kernel_rfl
@[simp] theorem ty_tk39 : tkind P 39 = 1 := by kernel_rfl
@[simp] theorem ty_tk45 : tkind P 45 = 1 := by kernel_rfl
@[simp] theorem ty_tk46 : tkind P 46 = 1 := by kernel_rfl
@[simp] theorem ty_tk59 : tkind P 59 = 1 := by kernel_rfl
@[simp] theorem ty_tk77 : tkind P 77 = 1 := by kernel_rfl
@[simp] theorem ty_zero102 : zeroOf P 102 = some [.int .i64 0, .slice none 0 0, .int .i64 0, .slice none 0 0, .bool false, .slice none 0 0, .slice none 0 0] := by kernel_rfl
@[simp] theorem ty_zero104 : zeroOf P 104 = some [.slice none 0 0, .slice none 0 0, .slice none 0 0, .slice none 0 0, .bool false, .slice none 0 0, .int .i64 0, .slice none 0 0, .slice none 0 0, .int .i64 0, .slice none 0 0, .int .i64 0, .slice none 0 0, .bool false, .slice none 0 0, .slice none 0 0, .slice none 0 0] := by kernel_rfl
@[simp] theorem ty_zero112 : zeroOf P 112 = some [.slice none 0 0, .slice none 0 0, .slice none 0 0, .slice none 0 0, .bool false, .slice none 0 0, .int .i64 0, .int .i64 0] := by kernel_rfl
@[simp] theorem ty_zero115 : zeroOf P 115 = some [.slice none 0 0, .slice none 0 0, .slice none 0 0, .slice none 0 0, .bool false, .slice none 0 0, .int .i64 0, .slice none 0 0, .slice none 0 0] := by kernel_rfl
@[simp] theorem ty_zero118 : zeroOf P 118 = some [.map none] := by kernel_rfl
@[simp] theorem ty_zero120 : zeroOf P 120 = some [.slice none 0 0, .slice none 0 0, .slice none 0 0, .slice none 0 0, .bool false, .slice none 0 0, .int .i64 0, .slice none 0 0, .slice none 0 0, .slice none 0 0, .map none] := by kernel_rfl
@[simp] theorem ty_zero128 : zeroOf P 128 = some [.nilFunc] := by kernel_rfl
@[simp] theorem ty_zero130 : zeroOf P 130 = some [.bool false, .bool false] := by kernel_rfl
@[simp] theorem ty_zero132 : zeroOf P 132 = some [.nilFunc] := by kernel_rfl
@[simp] theorem ty_zero135 : zeroOf P 135 = some [.int .i64 0, .int .i64 0] := by kernel_rfl
@[simp] theorem ty_zero180 : zeroOf P 180 = some [.int .u64 0] := by kernel_rfl
@[simp] theorem ty_zero2 : zeroOf P 2 = some [.int .i64 0] := by kernel_rfl
@[simp] theorem ty_zero25 : zeroOf P 25 = some [.slice none 0 0, .slice none 0 0] := by kernel_rfl
@[simp] theorem ty_zero3 : zeroOf P 3 = some [.int .i64 0] := by kernel_rfl
@[simp] theorem ty_zero32 : zeroOf P 32 = some [.slice none 0 0, .slice none 0 0, .slice none 0 0, .slice none 0 0, .bool false, .slice none 0 0, .int .i64 0] := by kernel_rfl
@[simp] theorem ty_zero34 : zeroOf P 34 = some [.slice none 0 0] := by kernel_rfl
@[simp] theorem ty_zero4 : zeroOf P 4 = some [.bool false] := by kernel_rfl
@[simp] theorem ty_zero41 : zeroOf P 41 = some [.int .i64 0, .slice none 0 0, .int .i64 0] := by kernel_rfl
@[simp] theorem ty_zero46 : zeroOf P 46 = some [.slice none 0 0] := by kernel_rfl
@[simp] theorem ty_zero48 : zeroOf P 48 = some [.int .i64 0, .slice none 0 0, .int .i64 0, .slice none 0 0, .bool false, .slice none 0 0] := by kernel_rfl
@[simp] theorem ty_zero61 : zeroOf P 61 = some [.slice none 0 0, .slice none 0 0] := by kernel_rfl
@[simp] theorem ty_zero70 : zeroOf P 70 = some [.string ByteArray.empty, .int .i64 0] := by kernel_rfl
@[simp] theorem ty_zero75 : zeroOf P 75 = some [.int .i64 0, .int .i64 0, .slice none 0 0, .bool false, .slice none 0 0, .int .i64 0] := by kernel_rfl
@[simp] theorem ty_zero79 : zeroOf P 79 = some [.slice none 0 0, .slice none 0 0, .slice none 0 0, .slice none 0 0, .slice none 0 0, .slice none 0 0, .bool false, .slice none 0 0, .int .i64 0, .slice none 0 0, .slice none 0 0] := by kernel_rfl
@[simp] theorem ty_zero89 : zeroOf P 89 = some [.int .i64 0, .slice none 0 0, .int .i64 0, .string ByteArray.empty, .int .i64 0, .bool false, .int .i64 0, .string ByteArray.empty, .slice none 0 0] := by kernel_rfl
@[simp] theorem ty_zero92 : zeroOf P 92 = some [.slice none 0 0, .slice none 0 0, .slice none 0 0, .slice none 0 0, .bool false, .slice none 0 0, .int .i64 0, .slice none 0 0, .slice none 0 0] := by kernel_rfl
@[simp] theorem ty_zero98 : zeroOf P 98 = some [.string ByteArray.empty, .int .i64 0, .int .i64 0, .int .i64 0, .int .i64 0, .int .i64 0, .int .i64 0] := by kernel_rfl
@[simp] theorem ty_zv3 : zeroV P 3 = some (.d (.lit (.int .i64 0))) := by kernel_rfl
@[simp] theorem ty_zv4 : zeroV P 4 = some (.d (.lit (.bool false))) := by kernel_rfl
@[simp] theorem ty_zv44 : zeroV P 44 = some (.d (.lit (.int .i64 0))) := by kernel_rfl
structure NodeT where
 name : ByteArray
 type : Int
structure EdgeT where
 name : ByteArray
 type : Int
 src : Int
 dst : Int
 mode : Int
 lo : Int
 hi : Int
structure ValT where
 kind : Int
 bool : Bool
 num : Int
 text : ByteArray
 path : List Int
inductive TermT where
 | mk (op : Int) (kids : List TermT) (slot : Int) (prop : ByteArray) (val : ValT)
inductive PlanT where
 | mk (op : Int) (kids : List PlanT) (slot : Int) (edges : List Int) (back : Bool) (terms : List TermT)
structure CoreT where
 nodes : List NodeT
 edges : List EdgeT
 wher : List TermT
 cols : D
 distinct : Bool
 order : D
 limit : Int
structure StatsT where
 nodes : List Int
 edges : List Int
instance : Inhabited NodeT := ⟨⟨ByteArray.empty, 0⟩⟩
instance : Inhabited EdgeT := ⟨⟨ByteArray.empty, 0, 0, 0, 0, 0, 0⟩⟩
instance : Inhabited TermT := ⟨⟨0, [], 0, ByteArray.empty, ⟨0, false, 0, ByteArray.empty, []⟩⟩⟩
instance : Inhabited PlanT := ⟨⟨0, [], 0, [], false, []⟩⟩
namespace TermT
def op : TermT → Int | mk o _ _ _ _ => o
def kids : TermT → List TermT | mk _ k _ _ _ => k
def slot : TermT → Int | mk _ _ s _ _ => s
def prop : TermT → ByteArray | mk _ _ _ p _ => p
def val : TermT → ValT | mk _ _ _ _ v => v
end TermT
namespace PlanT
def op : PlanT → Int | mk o _ _ _ _ _ => o
def kids : PlanT → List PlanT | mk _ k _ _ _ _ => k
def slot : PlanT → Int | mk _ _ s _ _ _ => s
def edges : PlanT → List Int | mk _ _ _ e _ _ => e
def back : PlanT → Bool | mk _ _ _ _ b _ => b
def terms : PlanT → List TermT | mk _ _ _ _ _ t => t
end PlanT
def encI (n : Int) : List D := [.int n]
def encB (b : Bool) : List D := [.bool b]
def encV (v : ValT) : List D := [.int v.kind, .bool v.bool, .int v.num, .str v.text, .sl false (v.path.map encI)]
mutual
def encT : TermT → List D
 | .mk o k s p v => .int o :: .sl false (encTs k) :: .int s :: .str p :: encV v
def encTs : List TermT → List (List D)
 | [] => []
 | t :: r => encT t :: encTs r
end
mutual
def encP : PlanT → List D
 | .mk o k s e b t => [.int o, .sl false (encPs k), .int s, .sl false (e.map encI), .bool b, .sl false (t.map encT)]
def encPs : List PlanT → List (List D)
 | [] => []
 | t :: r => encP t :: encPs r
end
theorem encTs_eq (l : List TermT) : encTs l = l.map encT := by
 induction l with
 | nil => rfl
 | cons t r ih => simp [encTs, ih]
theorem encPs_eq (l : List PlanT) : encPs l = l.map encP := by
 induction l with
 | nil => rfl
 | cons t r ih => simp [encPs, ih]
def encN (n : NodeT) : List D := [.str n.name, .int n.type]
def encE (e : EdgeT) : List D := [.str e.name, .int e.type, .int e.src, .int e.dst, .int e.mode, .int e.lo, .int e.hi]
def encC (c : CoreT) : List D := [.sl false (c.nodes.map encN), .sl false (c.edges.map encE), .sl false (c.wher.map encT), c.cols, .bool c.distinct, c.order, .int c.limit]
def encS (s : StatsT) : List D := [.sl false (s.nodes.map encI), .sl false (s.edges.map encI)]
@[simp] theorem encT_cells (t : TermT) : encT t = [.int t.op, .sl false (t.kids.map encT), .int t.slot, .str t.prop, .int t.val.kind, .bool t.val.bool, .int t.val.num, .str t.val.text, .sl false (t.val.path.map encI)] := by
 cases t; simp [encT, encV, encTs_eq, TermT.op, TermT.kids, TermT.slot, TermT.prop, TermT.val]
@[simp] theorem encP_cells (p : PlanT) : encP p = [.int p.op, .sl false (p.kids.map encP), .int p.slot, .sl false (p.edges.map encI), .bool p.back, .sl false (p.terms.map encT)] := by
 cases p; simp [encP, encPs_eq, PlanT.op, PlanT.kids, PlanT.slot, PlanT.edges, PlanT.back, PlanT.terms]
attribute [simp] encI encB encN encE encC encS
end Go.Proofs.Ytimgbdkgjfbhkaa.Z
end
section
/- Counts: the small functions, as the program and the document write them. -/
namespace Go.Proofs.Ytimgbdkgjfbhkaa.Z
open Go Go.Fw
def clipS (n : Int) : Int := if n < 0 then 0 else if 1099511627776 < n then 1099511627776 else n
def cntF (t : Int) (n : Int) (x : Int × Nat) : Int := if (x.2 : Int) = t ∨ t = -1 then clipS (n + clipS x.1) else n
def cntS (l : List Int) (t : Int) : Int := l.zipIdx.foldl (cntF t) 0
def cntN (l : List Int) (t : Int) (i : Nat) : Int := (l.zipIdx.take i).foldl (cntF t) 0
def shareS (a b : Int) : Int := (a + max b 1 - 1) / max b 1
def mulS (a b : Int) : Int := if 0 < a ∧ 1099511627776 / a < b then 1099511627776 else a * b
theorem ends_ok (e : EdgeT) (back : Bool) : Snd P 94 [.d (.ag (encE e)), .bool back] (.tup [.int (if back then e.dst else e.src), .int (if back then e.src else e.dst)]) [] := by
 refine snd_of [] Try.func94 rfl (by kernel_rfl) Try.ntmps94 (by simp) ?_
 unfold Try.f94
 simp only [List.cons_append, List.nil_append, List.length_cons, List.length_nil, Nat.reduceAdd, Nat.reduceSub, List.replicate]
 apply Run.seq
 refine Run.opsL false [⟨.box 98 (.tmp 0), some 2, none⟩, ⟨.assign (.const (.int .i64 0)), some 4, none⟩, ⟨.assign (.const (.int .i64 0)), some 5, none⟩] mixed (by decide) rfl fun K hK => ?_
 try simp
 repeat' first | (simp only [evL_cons, evL_guard]; simp) | (refine gsplit (fun hg => ?_) (fun hg => ?_) <;> (try simp at hg) <;> (try simp)) | (with_reducible assumption) | omega | refine And.intro ?_ ?_ | intro _
 all_goals (try simp only [evL_nil]; refine hK _ _ ?_; clear hK K)
 simp only [tN]
 apply Run.seq
 apply Run.seq
 refine Run.opsL false [oM 1 6] mixed (by decide) rfl fun K hK => ?_
 try simp
 repeat' first | (simp only [evL_cons, evL_guard]; simp) | (refine gsplit (fun hg => ?_) (fun hg => ?_) <;> (try simp at hg) <;> (try simp)) | (with_reducible assumption) | omega | refine And.intro ?_ ?_ | intro _
 all_goals (try simp only [evL_nil]; refine hK _ _ ?_; clear hK K)
 simp only [tN]
 refine Run.cond rfl (fun h6 => ?_) (fun h6 => ?_)
 ·try simp at h6
  apply Run.seq
  refine Run.opsL false [oF 98 2 3 7, oL 3 7 8, oF 98 2 2 9, oL 3 9 10, oA 8 4, oA 10 5] mixed (by decide) rfl fun K hK => ?_
  try simp
  repeat' first | (simp only [evL_cons, evL_guard]; simp [h6]) | (refine gsplit (fun hg => ?_) (fun hg => ?_) <;> (try simp at hg) <;> (try simp [h6])) | (with_reducible assumption) | omega | refine And.intro ?_ ?_ | intro _
  all_goals (try simp only [evL_nil]; refine hK _ _ ?_; clear hK K)
  simp only [tN]
  apply Run.ret
  try simp only [Then_ret, Blok_ret]
  simp [*]
 ·try simp at h6
  apply Run.skip
  simp only [tN]
  apply Run.seq
  refine Run.opsL false [oF 98 2 2 11, oL 3 11 12, oF 98 2 3 13, oL 3 13 14, oA 12 4, oA 14 5] mixed (by decide) rfl fun K hK => ?_
  try simp
  repeat' first | (simp only [evL_cons, evL_guard]; simp [h6]) | (refine gsplit (fun hg => ?_) (fun hg => ?_) <;> (try simp at hg) <;> (try simp [h6])) | (with_reducible assumption) | omega | refine And.intro ?_ ?_ | intro _
  all_goals (try simp only [evL_nil]; refine hK _ _ ?_; clear hK K)
  simp only [tN]
  apply Run.ret
  try simp only [Then_ret, Blok_ret]
  simp [*]
end Go.Proofs.Ytimgbdkgjfbhkaa.Z
end
section
/- Counts: of a type; a product. -/
namespace Go.Proofs.Ytimgbdkgjfbhkaa.Z
open Go Go.Fw
theorem drop_rd {α : Type} [Inhabited α] {l : List α} {i : Nat} (h : i < l.length) : l.drop i = rdI l i :: l.drop (i + 1) := by
 rw [List.drop_eq_getElem_cons h]
 simp [rdI, List.getD_eq_getElem?_getD, h]
def prodS : Int → List Int → Int
 | n, [] => n
 | n, f :: r => if f = 0 then 0 else if 1099511627776 / f < n then (if 0 ∈ r then 0 else 1099511627776) else prodS (n * f) r
end Go.Proofs.Ytimgbdkgjfbhkaa.Z
end
section
namespace Go.Proofs.Ytimgbdkgjfbhkaa.Z
open Go Go.Fw
def badE (n : Int) (e : EdgeT) : Bool := decide ((if e.dst < e.src then e.dst else e.src) < 0) || decide (n ≤ if e.src < e.dst then e.dst else e.src)
def findS {α : Type} (p : α → Bool) (l : List α) : Int := match l.findIdx? p with | some i => i | none => -1
theorem findS_none {α : Type} [Inhabited α] {p : α → Bool} {l : List α} (h : ∀ j, j < l.length → p (rdI l (j : Nat)) = false) : findS p l = -1 := by
 have : l.findIdx? p = none := by
  rw [List.findIdx?_eq_none_iff]
  intro x hx
  obtain ⟨j, hj⟩ := List.getElem?_of_mem hx
  have hlt := (List.getElem?_eq_some_iff.1 hj).1
  have := h j hlt
  unfold rdI at this
  rw [Int.toNat_natCast, List.getD_eq_getElem?_getD, hj] at this
  exact this
 simp [findS, this]
theorem findS_some {α : Type} [Inhabited α] {p : α → Bool} {l : List α} {i : Nat} (hi : i < l.length) (h : ∀ j, j < i → p (rdI l (j : Nat)) = false) (hp : p (rdI l (i : Nat)) = true) : findS p l = i := by
 have key : ∀ j, j < l.length → ∃ h : j < l.length, rdI l (j : Nat) = l[j] := fun j hj => ⟨hj, by simp [rdI, List.getD_eq_getElem?_getD, hj]⟩
 have : l.findIdx? p = some i := by
  rw [List.findIdx?_eq_some_iff_getElem]
  refine ⟨hi, ?_, fun j hj => ?_⟩
  ·obtain ⟨_, e⟩ := key i hi; rw [e] at hp; exact hp
  ·obtain ⟨_, e⟩ := key j (by omega); have := h j hj; rw [e] at this; simpa using this
 simp [findS, this]
theorem findS_any {α : Type} (p : α → Bool) (l : List α) : decide (0 ≤ findS p l) = l.any p := by
 unfold findS
 cases h : l.findIdx? p with
 | none =>
   rw [List.findIdx?_eq_none_iff] at h
   have : l.any p = false := by rw [List.any_eq_false]; intro x hx; simp [h x hx]
   rw [this]; rfl
 | some i =>
   rw [List.findIdx?_eq_some_iff_getElem] at h
   obtain ⟨h1, h2, _⟩ := h
   have : l.any p = true := List.any_eq_true.2 ⟨_, List.getElem_mem h1, h2⟩
   rw [this]; simp
def patS (nodes : List NodeT) (edges : List EdgeT) : Bool := decide (1 ≤ nodes.length) && decide (nodes.length ≤ 8) && decide (edges.length ≤ 8) && !edges.any (badE nodes.length)
theorem badE_ok (e : EdgeT) (n : Int) : SndW P 69 [.d (.ag (encE e)), .pt 0 0 0 0] [(0, .vals [.int n])] (.bool (badE n e)) [(0, .vals [.int n])] := by
 refine sndW_of [0] Try.func69 rfl (by kernel_rfl) Try.ntmps69 (by simp) (by simp) ?_
 unfold Try.f69
 simp only [List.cons_append, List.nil_append, List.length_cons, List.length_nil, Nat.reduceAdd, Nat.reduceSub, List.replicate]
 apply Run.seq
 refine Run.opsL false [⟨.box 98 (.tmp 0), some 2, none⟩, ⟨.assign (.const (.bool false)), some 3, none⟩] mixed (by decide) rfl fun K hK => ?_
 try simp
 repeat' first | (simp only [evL_cons, evL_guard]; simp) | (refine gsplit (fun hg => ?_) (fun hg => ?_) <;> (try simp at hg) <;> (try simp)) | (with_reducible assumption) | omega | refine And.intro ?_ ?_ | intro _
 all_goals (try simp only [evL_nil]; refine hK _ _ ?_; clear hK K)
 simp only [tN]
 apply Run.seq
 refine Run.opsL false [oF 98 2 2 4, oL 3 4 5, oF 98 2 3 6, oL 3 6 7, ⟨.call { callee := .builtin .min, args := #[.tmp 5, .tmp 7], argTypes := #[3, 3] }, some 8, none⟩, oK .lss 3 8 0 3 9, oM 9 10, ⟨.fieldAddr 98 (.tmp 2) 2, some 11, some (some 10, false)⟩, ⟨.load 3 (.tmp 11), some 12, some (some 10, false)⟩, ⟨.fieldAddr 98 (.tmp 2) 3, some 13, some (some 10, false)⟩, ⟨.load 3 (.tmp 13), some 14, some (some 10, false)⟩, ⟨.call { callee := .builtin .max, args := #[.tmp 12, .tmp 14], argTypes := #[3, 3] }, some 15, some (some 10, false)⟩, ⟨.load 3 (.tmp 1), some 16, some (some 10, false)⟩, ⟨.binOp .geq 3 (.tmp 15) (.tmp 16) 3, some 17, some (some 10, false)⟩, ⟨.pick (.tmp 10) (.const (.bool true)) (.tmp 17), some 18, none⟩, oA 18 3] mixed (by decide) rfl fun K hK => ?_
 try simp
 repeat' first | (simp only [evL_cons, evL_guard]; simp) | (refine gsplit (fun hg => ?_) (fun hg => ?_) <;> (try simp at hg) <;> (try simp)) | (with_reducible assumption) | omega | refine And.intro ?_ ?_ | intro _
 all_goals (try simp only [evL_nil]; refine hK _ _ ?_; clear hK K)
 all_goals
  simp only [tN]
  apply Run.ret
  try simp only [Then_ret, Blok_ret]
  first | (simp_all [badE]; done) | (simp_all [badE]; intro h; omega)
theorem findE_ok (nn : Bool) (l : List EdgeT) (fn : FuncId) (x : D) (p : EdgeT → Bool) (hp : ∀ e ∈ l, SndW P fn [.d (.ag (encE e)), .pt 0 0 0 0] [(0, .vals [.d x])] (.bool (p e)) [(0, .vals [.d x])]) :
  SndW P 93 [.d (.sl nn (l.map encE)), .fn fn [.pt 0 0 0 0]] [(0, .vals [.d x])] (.int (findS p l)) [(0, .vals [.d x])] := by
 refine SndW.ok 0 rfl (by kernel_rfl) fun hl => ?_
 simp only [D.ok, List.length_map] at hl
 obtain ⟨hl, -⟩ := hl
 refine sndW_of [0] Try.func93 rfl (by kernel_rfl) Try.ntmps93 (by simp) (by simp) ?_
 unfold Try.f93
 simp only [List.cons_append, List.nil_append, List.length_cons, List.length_nil, Nat.reduceAdd, Nat.reduceSub, List.replicate]
 apply Run.seq
 refine Run.opsL false [⟨.assign (.const (.int .i64 0)), some 4, none⟩] mixed (by decide) rfl fun K hK => ?_
 try simp
 repeat' first | (simp only [evL_cons, evL_guard]; simp) | (refine gsplit (fun hg => ?_) (fun hg => ?_) <;> (try simp at hg) <;> (try simp)) | (with_reducible assumption) | omega | refine And.intro ?_ ?_ | intro _
 all_goals (try simp only [evL_nil]; refine hK _ _ ?_; clear hK K)
 simp only [tN]
 apply Run.seq
 apply Run.seq
 refine Run.opsL false [oM 0 6, oN 27 6 7, ⟨.move (.const (.int .i64 0)), some 8, none⟩] mixed (by decide) rfl fun K hK => ?_
 try simp
 repeat' first | (simp only [evL_cons, evL_guard]; simp) | (refine gsplit (fun hg => ?_) (fun hg => ?_) <;> (try simp at hg) <;> (try simp)) | (with_reducible assumption) | omega | refine And.intro ?_ ?_ | intro _
 all_goals (try simp only [evL_nil]; refine hK _ _ ?_; clear hK K)
 simp only [tN]
 apply Run.block
 refine Run.loopO [4, 5, 8, 9, 10, 11, 12, 13, 14, 15, 16, 17, 18] (fun (i : Nat) => [(8, .int i)]) (fun (i : Nat) => [(0, .vals [.d x])]) (fun (i : Nat) => i ≤ l.length ∧ ∀ j, j < i → p (rdI l (j : Nat)) = false) (fun (i : Nat) => l.length - i) 0 (by simp) (by simp) fun i ⟨hi, hz⟩ => ?_
 simp only [over, List.foldl, List.set]
 apply Run.seq
 refine Run.opsL false [oB .lss 3 8 7 3 9] mixed (by decide) rfl fun K hK => ?_
 try simp
 repeat' first | (simp only [evL_cons, evL_guard]; simp) | (refine gsplit (fun hg => ?_) (fun hg => ?_) <;> (try simp at hg) <;> (try simp)) | (with_reducible assumption) | omega | refine And.intro ?_ ?_ | intro _
 all_goals (try simp only [evL_nil]; refine hK _ _ ?_; clear hK K)
 simp only [tN]
 apply Run.seq
 refine Run.cond rfl (fun h9 => ?_) (fun h9 => ?_)
 ·try simp at h9
  apply Run.skip
  simp only [tN]
  apply Run.seq
  apply Run.block
  apply Run.seq
  refine Run.opsL false [oM 8 10, oA 10 5] mixed (by decide) rfl fun K hK => ?_
  try simp
  repeat' first | (simp only [evL_cons, evL_guard]; simp [h9]) | (refine gsplit (fun hg => ?_) (fun hg => ?_) <;> (try simp at hg) <;> (try simp [h9])) | (with_reducible assumption) | omega | refine And.intro ?_ ?_ | intro _
  all_goals (try simp only [evL_nil]; refine hK _ _ ?_; clear hK K)
  simp only [tN]
  apply Run.seq
  refine Run.opsL true [oM 1 11, oM 0 12, oM 5 13, oI 27 12 13 14, oL 98 14 15, ⟨.call { callee := .value (.tmp 11), args := #[.tmp 15], argTypes := #[98] }, some 16, none⟩] mixed (by decide) rfl fun K hK => ?_
  try simp
  repeat' first | (refine ecallW [0] (hp _ (rdI_mem (l := l) (i := i) (by omega) (by omega))) (by simp) (by simp) (by simp) ?_) | (simp only [evL_cons, evL_guard]; simp [h9]) | (refine gsplit (fun hg => ?_) (fun hg => ?_) <;> (try simp at hg) <;> (try simp [h9])) | (with_reducible assumption) | omega | refine And.intro ?_ ?_ | intro _
  all_goals (try simp only [evL_nil]; refine hK _ _ ?_; clear hK K)
  simp only [tN]
  refine Run.cond rfl (fun h16 => ?_) (fun h16 => ?_)
  ·try simp at h16
   apply Run.seq
   refine Run.opsL false [oM 5 17, oA 17 4] mixed (by decide) rfl fun K hK => ?_
   try simp
   repeat' first | (simp only [evL_cons, evL_guard]; simp [h9, h16]) | (refine gsplit (fun hg => ?_) (fun hg => ?_) <;> (try simp at hg) <;> (try simp [h9, h16])) | (with_reducible assumption) | omega | refine And.intro ?_ ?_ | intro _
   all_goals (try simp only [evL_nil]; refine hK _ _ ?_; clear hK K)
   simp only [tN]
   apply Run.ret
   try simp only [Then_ret, Blok_ret]
   first
    | (have e := findS_some h9 hz h16; simp [e]; done)
    | (have e := findS_none (p := p) (l := l) (fun j hj => hz j (by omega)); simp [e])
  ·try simp at h16
   apply Run.skip
   simp only [Blok_normal]
   simp only [tN]
   refine Run.opsL false [oK .add 3 8 1 3 18, oM 18 8] mixed (by decide) rfl fun K hK => ?_
   try simp
   repeat' first | (simp only [evL_cons, evL_guard]; simp [h9, h16]) | (refine gsplit (fun hg => ?_) (fun hg => ?_) <;> (try simp at hg) <;> (try simp [h9, h16])) | (with_reducible assumption) | omega | refine And.intro ?_ ?_ | intro _
   all_goals (try simp only [evL_nil]; refine hK _ _ ?_; clear hK K)
   refine ⟨i + 1, ⟨by omega, fun j hj => ?_⟩, by omega, ?_⟩
   ·by_cases e : j = i
    ·subst e; exact h16
    ·exact hz j (by omega)
   ·simp (disch := omega) [wrap_id]
 ·try simp at h9
  refine Run.exit ?_
  simp (decide := true) only [Then_exit, Blok_exit, if_true, if_false]
  simp only [tN]
  apply Run.seq
  refine Run.opsL false [⟨.assign (.const (.int .i64 (-1))), some 4, none⟩] mixed (by decide) rfl fun K hK => ?_
  try simp
  repeat' first | (simp only [evL_cons, evL_guard]; simp [h9]) | (refine gsplit (fun hg => ?_) (fun hg => ?_) <;> (try simp at hg) <;> (try simp [h9])) | (with_reducible assumption) | omega | refine And.intro ?_ ?_ | intro _
  all_goals (try simp only [evL_nil]; refine hK _ _ ?_; clear hK K)
  simp only [tN]
  apply Run.ret
  try simp only [Then_ret, Blok_ret]
  first
   | (have e := findS_some h9 hz h16; simp [e]; done)
   | (have e := findS_none (p := p) (l := l) (fun j hj => hz j (by omega)); simp [e])
theorem anyE_ok (nn : Bool) (l : List EdgeT) (fn : FuncId) (x : D) (p : EdgeT → Bool) (hp : ∀ e ∈ l, SndW P fn [.d (.ag (encE e)), .pt 0 0 0 0] [(0, .vals [.d x])] (.bool (p e)) [(0, .vals [.d x])]) :
  SndW P 68 [.d (.sl nn (l.map encE)), .fn fn [.pt 0 0 0 0]] [(0, .vals [.d x])] (.bool (l.any p)) [(0, .vals [.d x])] := by
 refine sndW_of [0] Try.func68 rfl (by kernel_rfl) Try.ntmps68 (by simp) (by simp) ?_
 unfold Try.f68
 simp only [List.cons_append, List.nil_append, List.length_cons, List.length_nil, Nat.reduceAdd, Nat.reduceSub, List.replicate]
 apply Run.seq
 refine Run.opsL false [⟨.assign (.const (.bool false)), some 4, none⟩] mixed (by decide) rfl fun K hK => ?_
 try simp
 repeat' first | (simp only [evL_cons, evL_guard]; simp) | (refine gsplit (fun hg => ?_) (fun hg => ?_) <;> (try simp at hg) <;> (try simp)) | (with_reducible assumption) | omega | refine And.intro ?_ ?_ | intro _
 all_goals (try simp only [evL_nil]; refine hK _ _ ?_; clear hK K)
 simp only [tN]
 apply Run.seq
 refine Run.opsL true [oM 0 5, oM 1 6, oC 93 #[.tmp 5, .tmp 6] #[27, 139] 7, oK .geq 3 7 0 3 8, oA 8 4] mixed (by decide) rfl fun K hK => ?_
 try simp
 repeat' first | (refine ecallW [0] (findE_ok nn l fn x p hp) (by simp) (by simp) (by simp) ?_) | (simp only [evL_cons, evL_guard]; simp) | (refine gsplit (fun hg => ?_) (fun hg => ?_) <;> (try simp at hg) <;> (try simp)) | (with_reducible assumption) | omega | refine And.intro ?_ ?_ | intro _
 all_goals (try simp only [evL_nil]; refine hK _ _ ?_; clear hK K)
 simp only [tN]
 apply Run.ret
 try simp only [Then_ret, Blok_ret]
 simp [findS_any]
theorem pattern_ok (c : CoreT) : Snd P 42 [.d (.ag (encC c))] (.bool (patS c.nodes c.edges)) [] := by
 refine snd_of [] Try.func42 rfl (by kernel_rfl) Try.ntmps42 (by simp) ?_
 unfold Try.f42
 simp only [List.cons_append, List.nil_append, List.length_cons, List.length_nil, Nat.reduceAdd, Nat.reduceSub, List.replicate]
 apply Run.seq
 refine Run.opsL false [⟨.box 32 (.tmp 0), some 1, none⟩, ⟨.assign (.const (.bool false)), some 2, none⟩] mixed (by decide) rfl fun K hK => ?_
 try simp
 repeat' first | (simp only [evL_cons, evL_guard]; simp) | (refine gsplit (fun hg => ?_) (fun hg => ?_) <;> (try simp at hg) <;> (try simp)) | (with_reducible assumption) | omega | refine And.intro ?_ ?_ | intro _
 all_goals (try simp only [evL_nil]; refine hK _ _ ?_; clear hK K)
 simp only [tN]
 apply Run.seq
 refine Run.opsL false [oF 32 1 0 4, oL 26 4 5, oN 26 5 6, ⟨.alloc 3, some 3, none⟩, oS 3 3 6] mixed (by decide) rfl fun K hK => ?_
 try simp
 repeat' first | (simp only [evL_cons, evL_guard]; simp) | (refine gsplit (fun hg => ?_) (fun hg => ?_) <;> (try simp at hg) <;> (try simp)) | (with_reducible assumption) | omega | refine And.intro ?_ ?_ | intro _
 all_goals (try simp only [evL_nil]; refine hK _ _ ?_; clear hK K)
 simp only [tN]
 apply Run.seq
 refine Run.opsL true [oL 3 3 7, oK .geq 3 7 1 3 8, oM 8 9, ⟨.load 3 (.tmp 3), some 10, some (some 9, true)⟩, ⟨.binOp .leq 3 (.tmp 10) (.const (.int .i64 8)) 3, some 11, some (some 9, true)⟩, ⟨.pick (.tmp 9) (.tmp 11) (.const (.bool false)), some 12, none⟩, oM 12 13, ⟨.fieldAddr 32 (.tmp 1) 1, some 14, some (some 13, true)⟩, ⟨.load 27 (.tmp 14), some 15, some (some 13, true)⟩, ⟨.call { callee := .builtin .len, args := #[.tmp 15], argTypes := #[27] }, some 16, some (some 13, true)⟩, ⟨.binOp .leq 3 (.tmp 16) (.const (.int .i64 8)) 3, some 17, some (some 13, true)⟩, ⟨.pick (.tmp 13) (.tmp 17) (.const (.bool false)), some 18, none⟩, oM 18 19, ⟨.fieldAddr 32 (.tmp 1) 1, some 20, some (some 19, true)⟩, ⟨.load 27 (.tmp 20), some 21, some (some 19, true)⟩, ⟨.makeFunc (Fn.func 69) #[] #[.tmp 3], some 22, some (some 19, true)⟩, ⟨.call { callee := .value (.func 68), args := #[.tmp 21, .tmp 22], argTypes := #[27, 139] }, some 23, some (some 19, true)⟩, ⟨.unOp .not 4 (.tmp 23), some 24, some (some 19, true)⟩, ⟨.pick (.tmp 19) (.tmp 24) (.const (.bool false)), some 25, none⟩, oA 25 2] mixed (by decide) rfl fun K hK => ?_
 try simp
 repeat' first | (refine ecallW [400] (anyE_ok false c.edges 69 (.int c.nodes.length) (badE c.nodes.length) (fun e _ => badE_ok e _)) (by simp) (by simp) (by simp) ?_) | (simp only [evL_cons, evL_guard]; simp) | (refine gsplit (fun hg => ?_) (fun hg => ?_) <;> (try simp at hg) <;> (try simp)) | (with_reducible assumption) | omega | refine And.intro ?_ ?_ | intro _
 all_goals (try simp only [evL_nil]; refine hK _ _ ?_; clear hK K)
 all_goals
  simp only [tN]
  apply Run.ret
  try simp only [Then_ret, Blok_ret]
  first
   | (simp_all [patS]; done)
   | (simp_all [patS]; omega)
   | (simp_all [patS]; intros; omega)
end Go.Proofs.Ytimgbdkgjfbhkaa.Z
end
