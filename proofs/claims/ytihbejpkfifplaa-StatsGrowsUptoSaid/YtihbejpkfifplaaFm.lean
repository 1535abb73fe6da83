/- append: what is let go, what begins. -/
import Derived.Test.YtihbejpkfifplaaFl
set_option linter.unusedVariables false
set_option linter.unusedSimpArgs false
namespace Go.Fw
variable {P : Program}

theorem getB_fgtS (p : Nat → Bool) (s : Store) (i : Nat) : getB (fgtS p s) i = if p i then none else (getB s i).map (Blk.fgt p) := by
  induction s with
  | nil => simp [fgtS, getB]
  | cons x r ih =>
    obtain ⟨j, c⟩ := x
    simp only [fgtS]
    split
    · rename_i hj
      rw [ih]
      simp only [getB]
      by_cases e : j = i
      · subst e; simp [hj]
      · simp [e]
    · rename_i hj
      simp only [getB, ih]
      by_cases e : j = i
      · subst e; simp [hj]
      · simp [e]
theorem fgt_fresh (p : Nat → Bool) (e : Env) (s : Store) : Fresh p (V.fgtL p e) (fgtS p s) := by
  refine ⟨menL_of fun j x hj => ?_, fun i blk hi => ?_⟩
  · rw [fgtL_at] at hj
    obtain ⟨y, _, rfl⟩ := Option.map_eq_some_iff.1 hj
    exact fgt_men p y
  · rw [getB_fgtS] at hi
    split at hi
    · cases hi
    · rename_i hp
      refine ⟨by simpa using hp, ?_⟩
      obtain ⟨c, _, rfl⟩ := Option.map_eq_some_iff.1 hi
      cases c with
      | vals cells =>
        simp only [Blk.fgt, FreshB]
        refine menL_of fun j x hj => ?_
        rw [fgtL_at] at hj
        obtain ⟨y, _, rfl⟩ := Option.map_eq_some_iff.1 hj
        exact fgt_men p y
      | mp ks vs =>
        simp only [Blk.fgt, FreshB]
        refine menL_of fun j x hj => ?_
        rw [fgtL_at] at hj
        obtain ⟨y, _, rfl⟩ := Option.map_eq_some_iff.1 hj
        exact fgt_men p y
      | data sz rows => trivial
theorem BRel.fgt {w : World} {L : Nat → Prop} {m : Nat → Option Nat} (p : Nat → Bool) {b : Nat} {blk : Blk} (h : BRel w L m b blk) : BRel w L m b (blk.fgt p) := by
  cases blk with
  | vals cells =>
    obtain ⟨vs, ex, ty, fr, h1, h2, h3, h4⟩ := h
    refine ⟨vs, ex, ty, fr, h1, h2, h3, (h4.len.trans (fgtL_len p _).symm), fun j x v a c => ?_⟩
    rw [fgtL_at] at a
    obtain ⟨y, hy, rfl⟩ := Option.map_eq_some_iff.1 a
    exact (h4.at_ j y v hy c).fgt p
  | mp ks vs =>
    obtain ⟨es, cl, h1, h2, h4⟩ := h
    refine ⟨es, cl, h1, h2, (h4.len.trans (fgtL_len p _).symm), fun j x v a c => ?_⟩
    rw [fgtL_at] at a
    obtain ⟨y, hy, rfl⟩ := Option.map_eq_some_iff.1 a
    exact (h4.at_ j y v hy c).fgt p
  | data sz rows => exact h
def setM (m : Nat → Option Nat) (id : Nat) (ob : Option Nat) : Nat → Option Nat := fun i => if i = id then ob else m i

section
variable {w0 : World} {L0 : Par} {X : Nat → Prop} {m : Nat → Option Nat} {e : Env} {s : Store} {a : Act} {w w' : World}
/-- ONE BLOCK IS LET GO, ANOTHER ONE (OR THE SAME) BEGINS. -/
theorem Rel.swap (h : Rel w0 L0 X m e s a w) {k : Option Nat} {id : Nat} {ob : Option Nat} {blk : Blk} (h90 : 90 ≤ id) (hk0 : ∀ k0, k = some k0 → (getB s k0).isSome = true)
    (hck : CellsKept (Live X m s) w w') (hsz : SizesKept w w') (hother : ∀ b', b' < w.heap.size → (∀ k0, k = some k0 → m k0 ≠ some b') → w'.heap[b']? = w.heap[b']?)
    (hos : w'.os = w.os) (htape : w'.tape = w.tape) (hout : w'.output = w.output) (hsize : w.heap.size ≤ w'.heap.size)
    (hob : (ob = none ∧ ∃ sz, blk = .data sz []) ∨ ∃ b, ob = some b ∧ (w.heap.size ≤ b ∨ ∃ k0, k = some k0 ∧ m k0 = some b) ∧ BRel w' (Live X (setM m id ob) (putB (fgtS (hitO k id) s) id blk)) (setM m id ob) b blk) :
    Rel w0 L0 X (setM m id ob) (V.fgtL (hitO k id) e) (putB (fgtS (hitO k id) s) id blk) a w' := by
  have hp : ∀ i, hitO k id i = false → i ≠ id ∧ k ≠ some i := fun i hi => by
    simp only [hitO, Bool.or_eq_false_iff] at hi
    exact ⟨by simpa using hi.1, by simpa using hi.2⟩
  have hm : ∀ i, hitO k id i = false → setM m id ob i = m i := fun i hi => by unfold setM; rw [if_neg (hp i hi).1]
  have hget : ∀ i c, getB (putB (fgtS (hitO k id) s) id blk) i = some c → i ≠ id → hitO k id i = false ∧ ∃ c0, getB s i = some c0 ∧ c = c0.fgt (hitO k id) := by
    intro i c q hi
    rw [getB_putB, if_neg hi, getB_fgtS] at q
    split at q
    · cases q
    · rename_i hpi
      obtain ⟨c0, q1, q2⟩ := Option.map_eq_some_iff.1 q
      exact ⟨by simpa using hpi, c0, q1, q2.symm⟩
  have hown : ∀ b, Own (setM m id ob) (putB (fgtS (hitO k id) s) id blk) b → Own m s b ∨ w.heap.size ≤ b := by
    rintro b ⟨i, c, q1, q2⟩
    by_cases hi : i = id
    · subst hi
      simp only [setM, if_true] at q2
      rcases hob with ⟨r1, _⟩ | ⟨b', r1, r2, _⟩
      · rw [r1] at q2; cases q2
      · rw [r1] at q2; cases q2
        rcases r2 with r2 | ⟨k0, r2, r3⟩
        · exact .inr r2
        · obtain ⟨c0, hc0⟩ := Option.isSome_iff_exists.1 (hk0 k0 r2)
          exact .inl ⟨k0, c0, hc0, r3⟩
    · obtain ⟨q3, c0, q4, _⟩ := hget i c q1 hi
      rw [hm i q3] at q2
      exact .inl ⟨i, c0, q4, q2⟩
  have hlive : ∀ b, Live X (setM m id ob) (putB (fgtS (hitO k id) s) id blk) b → Live X m s b ∨ w.heap.size ≤ b := fun b hl => by
    rcases hl with hl | hl
    · exact .inl (.inl hl)
    · exact (hown b hl).imp_left .inr
  refine ⟨⟨h.env.len.trans (fgtL_len _ _).symm, fun j x v q1 q2 => ?_⟩, ⟨fun i c hi => ?_, fun i j b q1 q2 q3 q4 => ?_⟩, h.dfr, ?_, fun b hl => ?_, ?_, ?_⟩
  · rw [fgtL_at] at q1
    obtain ⟨y, hy, rfl⟩ := Option.map_eq_some_iff.1 q1
    exact VRel.mono (p := hitO k id) hck hsz hlive hm (fgt_men _ y) ((h.env.at_ j y v hy q2).fgt _)
  · by_cases e1 : i = id
    · subst e1
      rw [getB_putB, if_pos rfl] at hi
      cases hi
      rcases hob with ⟨r1, r2⟩ | ⟨b, r1, r2, r3⟩
      · exact .inr ⟨by simp [setM, r1], r2⟩
      · exact .inl ⟨b, by simp [setM, r1], r3⟩
    · obtain ⟨q3, c0, q4, rfl⟩ := hget i c hi e1
      rcases h.sto.blk i c0 q4 with ⟨b, r1, r2⟩ | ⟨r1, sz, rfl⟩
      · refine .inl ⟨b, (hm i q3).trans r1, BRel.mono (p := hitO k id) hck hsz hlive hm (hother b r2.lt fun k0 hk hmk => ?_) ?_ (r2.fgt _)⟩
        · have := h.sto.inj i k0 b r1 hmk (by rw [q4]; rfl) (hk0 k0 hk)
          subst this
          exact (hp i q3).2 hk
        · cases c0 with
          | vals cells =>
            refine menL_of fun j x hj => ?_
            rw [fgtL_at] at hj
            obtain ⟨y, _, rfl⟩ := Option.map_eq_some_iff.1 hj
            exact fgt_men _ y
          | mp ks vs =>
            refine menL_of fun j x hj => ?_
            rw [fgtL_at] at hj
            obtain ⟨y, _, rfl⟩ := Option.map_eq_some_iff.1 hj
            exact fgt_men _ y
          | data sz rows => trivial
      · exact .inr ⟨(hm i q3).trans r1, sz, rfl⟩
  · have key : ∀ i, setM m id ob i = some b → (getB (putB (fgtS (hitO k id) s) id blk) i).isSome = true → (i = id ∧ (w.heap.size ≤ b ∨ ∃ k0, k = some k0 ∧ m k0 = some b)) ∨ (i ≠ id ∧ hitO k id i = false ∧ m i = some b ∧ ∃ c0, getB s i = some c0) := by
      intro i r1 r2
      by_cases e1 : i = id
      · subst e1
        simp only [setM, if_true] at r1
        rcases hob with ⟨t1, _⟩ | ⟨b', t1, t2, _⟩
        · rw [t1] at r1; cases r1
        · rw [t1] at r1; cases r1; exact .inl ⟨rfl, t2⟩
      · obtain ⟨c, hc⟩ := Option.isSome_iff_exists.1 r2
        obtain ⟨q3, c0, q4, _⟩ := hget i c hc e1
        exact .inr ⟨e1, q3, (hm i q3) ▸ r1, c0, q4⟩
    have clash : ∀ i, hitO k id i = false → m i = some b → (∃ c0, getB s i = some c0) → (w.heap.size ≤ b ∨ ∃ k0, k = some k0 ∧ m k0 = some b) → False := by
      rintro i t1 t2 ⟨c0, t3⟩ (t4 | ⟨k0, t4, t5⟩)
      · have := h.m_lt t3 t2; omega
      · have := h.sto.inj i k0 b t2 t5 (by rw [t3]; rfl) (hk0 k0 t4)
        subst this
        exact (hp i t1).2 t4
    rcases key i q1 q3 with ⟨e1, e2⟩ | ⟨e1, e2, e3, e4⟩ <;> rcases key j q2 q4 with ⟨f1, f2⟩ | ⟨f1, f2, f3, f4⟩
    · omega
    · exact (clash j f2 f3 f4 e2).elim
    · exact (clash i e2 e3 e4 f2).elim
    · obtain ⟨c0, hc0⟩ := e4
      obtain ⟨c1, hc1⟩ := f4
      exact h.sto.inj i j b e3 f3 (by rw [hc0]; rfl) (by rw [hc1]; rfl)
  · refine ⟨hos.trans h.ext.os, htape.trans h.ext.tape, hout.trans h.ext.output, Nat.le_trans h.ext.size hsize, fun b hb hl => ?_, fun b cs ty fr hb => ?_⟩
    · rw [hother b (Nat.lt_of_lt_of_le hb h.ext.size) fun k0 hk hmk => ?_]
      · exact h.ext.block b hb hl
      · obtain ⟨c0, hc0⟩ := Option.isSome_iff_exists.1 (hk0 k0 hk)
        rcases h.liv b ⟨k0, c0, hc0, hmk⟩ with q | q
        · exact hl q
        · omega
    · obtain ⟨c1, h1, h2⟩ := h.ext.sizes b cs ty fr hb
      obtain ⟨c2, h3, h4⟩ := hsz b c1 ty fr h1
      exact ⟨c2, h3, h4.trans h2⟩
  · rcases hown b hl with q | q
    · exact h.liv b q
    · exact .inr (Nat.le_trans h.ext.size q)
  · exact h.old
  · intro i hi hs
    have e1 : i ≠ id := by omega
    obtain ⟨c, hc⟩ := Option.isSome_iff_exists.1 hs
    obtain ⟨q3, c0, q4, _⟩ := hget i c hc e1
    rw [hm i q3]
    exact h.par i hi (by rw [q4]; rfl)

/-- the slice's own rows -/
theorem base_run (h : SRel w X m s) {sz : Nat} {x : V} {v : Value} {c : Prop} {k : Option Nat} {rows : List (List D)} (hx : VRel w (Live X m s) m x v) (hb : baseRows sz x s = some (k, c, rows)) (hc : c) :
    (v = .slice none 0 0 ∧ rows = [] ∧ ∀ k0, k = some k0 → (getB s k0).isSome = true) ∨ ∃ k0 b len cap cs ty fr, k = some k0 ∧ (getB s k0).isSome = true ∧ m k0 = some b ∧ v = .slice (some ⟨b, 0, none⟩) len cap ∧ len ≤ cap ∧ w.heap[b]? = some (Obj.cells cs ty fr) ∧ Free fr cs.size ∧ cap * sz ≤ cs.size ∧
      rows.length = len ∧ (∀ r ∈ rows, r.length = sz) ∧ ∀ (i j : Nat) (r : List D) (x : D), rows[i]? = some r → r[j]? = some x → ∃ v, cs[i * sz + j]? = some v ∧ v.oneCell = true ∧ DRel w (Live X m s) x v := by
  unfold baseRows at hb
  split at hb <;> try (cases hb; done)
  · cases hb
    have := hx.lit_inv; subst this
    exact .inl ⟨rfl, rfl, by simp⟩
  · rename_i id n len
    split at hb
    · rename_i hn
      subst hn
      split at hb
      · rename_i n' rows' hg
        cases hb
        obtain ⟨rfl, hle⟩ := hc
        cases hx with
        | rsE => exact .inl ⟨rfl, by simp, by rintro k0 ⟨⟩; rw [hg]; rfl⟩
        | rs _ _ _ _ cap b cs ty fr hm hc' hxl hh hs' =>
          refine .inr ⟨id, b, len, cap, cs, ty, fr, rfl, by rw [hg]; rfl, hm, by simp, hc', hh, ?_⟩
          rcases h.blk id _ hg with ⟨b', hm', cs', ty', fr', hh', hfr', hsz', hlen', hall⟩ | ⟨hn, _⟩
          · rw [hm] at hm'; cases hm'
            rw [hh] at hh'; cases hh'
            refine ⟨hfr', by simpa using hs', by simp; omega, fun r hr => hlen' r (List.mem_of_mem_take hr), fun i j r x h1 h2 => ?_⟩
            rw [List.getElem?_take] at h1
            split at h1
            · exact hall i j r x h1 h2
            · cases h1
          · rw [hm] at hn; cases hn
      · cases hb
    · cases hb
end
end Go.Fw
