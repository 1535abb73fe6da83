/- A region: its operations one behind the other serve every order. -/
import Derived.Test.YtihbejpkfifplaaFr
set_option linter.unusedVariables false
set_option linter.unusedSimpArgs false
namespace Go.Fw
variable {P : Program}

theorem put_menL {p : Nat → Bool} {e : Env} {d : Option Nat} {v : V} (h : V.menL p e = false) (hv : v.men p = false) : V.menL p (put e d v) = false := by
  cases d with
  | none => exact h
  | some k =>
    refine menL_of fun j x hj => ?_
    rcases List.mem_or_eq_of_mem_set (List.mem_of_getElem? hj) with hx | rfl
    · obtain ⟨i, hi⟩ := List.getElem?_of_mem hx; exact menL_at h hi
    · exact hv
theorem Fresh.puts {p : Nat → Bool} {e : Env} {s : Store} (h : Fresh p e s) {ext : Store} (hx : ∀ x ∈ ext, p x.1 = false ∧ FreshB p x.2) : Fresh p e (puts s ext) := by
  refine ⟨h.env, ?_⟩
  induction ext with
  | nil => exact h.sto
  | cons y r ih =>
    obtain ⟨i, b⟩ := y
    intro j blk hj
    simp only [Fw.puts, getB_putB] at hj
    split at hj
    · rename_i e; subst e; cases hj; exact hx (j, b) (by simp)
    · exact ih (fun x hx' => hx x (by simp [hx'])) j blk hj
theorem locX_fresh {o : Oper} {p : Nat → Bool} {e : Env} {s : Store} {v : V} {ext : Store} (hf : Fresh p e s) (hp : makes o = true → ∀ i, mine o i = true → p i = false) (h : LocX P o (look e) s v ext) : v.men p = false ∧ ∀ x ∈ ext, p x.1 = false ∧ FreshB p x.2 := by
  have hρ := look_men hf.env
  unfold LocX at h
  cases hc : cls o.op <;> rw [hc] at h <;> simp only at h
  · obtain ⟨c, h1, h2, rfl⟩ := h; exact ⟨opP_men hρ h1, by simp⟩
  · obtain ⟨c, h1, h2, rfl⟩ := h; exact ⟨opR_men hf hρ h1, by simp⟩
  · obtain ⟨c, blk, h0, h1, h2, rfl⟩ := h
    have hid : p (newId o.dst) = false := hp (by simp [makes, hc]) _ (by simp [mine])
    have key : v.men p = false ∧ FreshB p blk := by
      unfold opA at h1
      split at h1 <;> try (cases h1; done)
      · split at h1
        · rename_i hcs; cases h1; exact ⟨hid, men_cells (hρ _) hcs⟩
        · cases h1
      · split at h1
        · split at h1
          · cases h1; exact ⟨hid, lits_men p _⟩
          · cases h1
        · cases h1
      · split at h1
        · split at h1
          · split at h1
            · split at h1
              · rename_i hcs
                have hfm : V.menL p _ = false := fillV_men (lits_men p _) (fun x hx => by
                  simp only [List.mem_map] at hx
                  obtain ⟨u, _, rfl⟩ := hx
                  exact hρ u.2) hcs
                split at h1
                · cases h1; exact ⟨hid, trivial⟩
                · cases h1; exact ⟨hid, hfm⟩
              · cases h1
            · cases h1
          · cases h1
        · cases h1
      · split at h1
        · split at h1
          · split at h1
            · cases h1; exact ⟨hid, trivial⟩
            · cases h1
          · cases h1
        · cases h1
      · cases h1; exact ⟨hid, rfl⟩
    exact ⟨key.1, by simpa using ⟨hid, key.2⟩⟩
  · obtain ⟨c, s', h1, h2, rfl, id, blk, rfl, rfl⟩ := h
    refine ⟨rfl, ?_⟩
    simp only [List.mem_singleton, forall_eq]
    have key0 : ∀ {id0 : Nat} {b0 : Blk}, p id0 = false → FreshB p b0 → putB s id0 b0 = putB s id blk → p id = false ∧ FreshB p blk := by
      intro id0 b0 hp0 hb0 he
      have e1 := congrArg (fun t => getB t id) he
      simp only [getB_putB, if_true] at e1
      by_cases e2 : id = id0
      · subst e2; simp at e1; exact ⟨hp0, e1 ▸ hb0⟩
      · rw [if_neg e2] at e1
        exact ⟨(hf.sto id blk e1).1, (hf.sto id blk e1).2⟩
    have upd : ∀ {t : TypeId} {x k y : Operand}, updV P t (look e x) (look e k) (look e y) s = some (c, putB s id blk) → p id = false ∧ FreshB p blk := by
      intro t x k y h
      obtain ⟨id0, ks, vs, ks', vs', g1, _, g2, g3⟩ := updV_put h
      refine key0 (b0 := .mp ks' vs') (hf.sto _ _ g1).1 (menL_of fun j v hj => ?_) g2.symm
      rcases g3 v (List.mem_of_getElem? hj) with q | rfl
      · obtain ⟨i, hi⟩ := List.getElem?_of_mem q
        exact menL_at (hf.sto _ _ g1).2 hi
      · exact hρ y
    unfold opW at h1
    split at h1 <;> try (cases h1; done)
    case h_2 => exact upd h1
    case h_3 => exact upd h1
    split at h1
    · rename_i id' sz r cl vs ex hcs
      have hvs := men_cells (hρ _) hcs
      have same : ∀ {id0 : Nat} {b0 : Blk}, putB s id0 b0 = putB s id blk → id0 = id ∧ b0 = blk ∨ True := fun _ => .inr trivial
      have key : ∀ {id0 : Nat} {b0 : Blk}, p id0 = false → FreshB p b0 → putB s id0 b0 = putB s id blk → getB s id0 ≠ some b0 → p id = false ∧ FreshB p blk := by
        intro id0 b0 hp0 hb0 he hne
        have e1 := congrArg (fun t => getB t id) he
        simp only [getB_putB, if_true] at e1
        by_cases e2 : id = id0
        · subst e2; simp at e1; exact ⟨hp0, e1 ▸ hb0⟩
        · rw [if_neg e2] at e1
          exact ⟨(hf.sto id blk e1).1, (hf.sto id blk e1).2⟩
      have key2 : ∀ {id0 : Nat} {b0 : Blk}, p id0 = false → FreshB p b0 → putB s id0 b0 = putB s id blk → p id = false ∧ FreshB p blk := by
        intro id0 b0 hp0 hb0 he
        have e1 := congrArg (fun t => getB t id) he
        simp only [getB_putB, if_true] at e1
        by_cases e2 : id = id0
        · subst e2; simp at e1; exact ⟨hp0, e1 ▸ hb0⟩
        · rw [if_neg e2] at e1
          exact ⟨(hf.sto id blk e1).1, (hf.sto id blk e1).2⟩
      split at h1
      · split at h1
        · rename_i cells hg
          split at h1
          · simp only [Option.some.injEq, Prod.mk.injEq] at h1
            exact key2 (b0 := .vals (setAt cells (r * sz + cl) vs)) (hf.sto _ _ hg).1 (setAt_men hvs _ (hf.sto _ _ hg).2) h1.2
          · cases h1
        · rename_i n rows hg
          split at h1
          · split at h1
            · simp only [Option.some.injEq, Prod.mk.injEq] at h1
              refine key2 (hf.sto _ _ hg).1 ?_ h1.2
              trivial
            · cases h1
          · cases h1
        · cases h1
      · cases h1
    · cases h1
  · obtain ⟨g, args1, args, r, τ, h0, h1, h1b, h2, h3, h4, rfl, rfl⟩ := h
    obtain ⟨q, _, hq⟩ := newId_some h0
    simp only [okIds, Bool.and_eq_true, Bool.not_eq_true'] at h4
    have hsh : ∀ id, big id = false → p (newId o.dst + id) = false := fun id hb => by
      refine hp (by simp [makes, hc]) _ ?_
      have : id < 100 := by simpa [big] using hb
      simp only [mine, hq, decide_eq_true_eq]; omega
    refine ⟨shift_men hsh r h4.1, ?_⟩
    have : ∀ {τ : Store}, okT τ = true → ∀ x ∈ shiftS (newId o.dst) τ, p x.1 = false ∧ FreshB p x.2 := by
      intro τ
      induction τ with
      | nil => intro _ x hx; cases hx
      | cons y r ih =>
        obtain ⟨i, b⟩ := y
        intro h x hx
        simp only [okT, Bool.and_eq_true, Bool.not_eq_true'] at h
        simp only [shiftS, List.map_cons, List.mem_cons] at hx
        rcases hx with rfl | hx
        · refine ⟨hsh i h.1.1, ?_⟩
          cases b with
          | vals cells =>
            refine menL_of fun j x hj => ?_
            rw [shiftL_at] at hj
            obtain ⟨y, hy, rfl⟩ := Option.map_eq_some_iff.1 hj
            exact shift_men hsh y (menL_at (by simpa [okB] using h.1.2) hy)
          | mp ks vs =>
            refine menL_of fun j x hj => ?_
            rw [shiftL_at] at hj
            obtain ⟨y, hy, rfl⟩ := Option.map_eq_some_iff.1 hj
            exact shift_men hsh y (menL_at (by simpa [okB] using h.1.2) hy)
          | data sz rows => trivial
        · exact ih h.2 x hx
    exact this h4.2
theorem fgtL_men {p q : Nat → Bool} {l : List V} (h : V.menL p l = false) : V.menL p (V.fgtL q l) = false := by
  have key : ∀ x : V, x.men p = false → (x.fgt q).men p = false := fun x => by
    induction x using V.rec (motive_2 := fun l => V.menL p l = false → V.menL p (V.fgtL q l) = false) <;> simp_all [V.fgt, V.fgtL, V.men, V.menL]
    all_goals (split <;> simp_all [V.men])
  refine menL_of fun j x hj => ?_
  rw [fgtL_at] at hj
  obtain ⟨y, hy, rfl⟩ := Option.map_eq_some_iff.1 hj
  exact key y (menL_at h hy)
theorem stp_fresh {im : Bool} {all : List Oper} {o : Oper} {p : Nat → Bool} {E E' : St} (hf : Fresh p E.e E.s) (hp : ∀ i, mine o i = true → p i = false) (h : Stp P im all o E E') : Fresh p E'.e E'.s := by
  by_cases hx : cls o.op = .x
  · have hdo : DoI P im o E E' → Fresh p E'.e E'.s := by
      intro h
      rw [doI_do (fun _ => by rw [hx]; simp)] at h
      unfold Do at h
      rw [hx] at h
      obtain ⟨cl, ho, hcal, k, c, sz, n, blk, h1, hc, rfl⟩ := h
      have hid : p (newId o.dst) = false := hp _ (by simp [mine])
      refine ⟨put_menL (fgtL_men hf.env) hid, fun i blk hi => ?_⟩
      rw [getB_putB] at hi
      split at hi
      · rename_i e; subst e; cases hi
        refine ⟨hid, ?_⟩
        rcases h1 with ⟨all, h1, rfl, rfl⟩ | ⟨all, h1, rfl⟩
        · trivial
        · -- what is added names no block that is to be new
          refine fgtL_men ?_
          unfold opAppendV at h1
          split at h1
          · split at h1
            · split at h1
              · split at h1
                · split at h1
                  · rename_i hb hsr
                    cases h1
                    have sub : ∀ {l l' : List V}, V.menL p l = false → (∀ v ∈ l', v ∈ l) → V.menL p l' = false := fun h hs => menL_sub h hs
                    refine menL_of fun j x hj => ?_
                    rcases List.mem_append.1 (List.mem_of_getElem? hj) with hm | hm
                    · unfold baseV at hb
                      split at hb <;> try (cases hb; done)
                      · cases hb; cases hm
                      · split at hb
                        · split at hb
                          · rename_i hg
                            cases hb
                            obtain ⟨i, hi⟩ := List.getElem?_of_mem hm
                            exact menL_at (hf.sto _ _ hg).2 hi
                          · cases hb
                        · cases hb
                    · unfold srcV at hsr
                      split at hsr <;> try (cases hsr; done)
                      split at hsr
                      · split at hsr
                        · rename_i hg
                          cases hsr
                          obtain ⟨i, hi⟩ := List.getElem?_of_mem (List.mem_of_mem_drop (List.mem_of_mem_take hm))
                          exact menL_at (hf.sto _ _ hg).2 hi
                        · cases hsr
                      · cases hsr
                  · cases h1
                · cases h1
              · cases h1
            · cases h1
          · cases h1
      · rw [getB_fgtS] at hi
        split at hi
        · cases hi
        · obtain ⟨b0, hb0, rfl⟩ := Option.map_eq_some_iff.1 hi
          refine ⟨(hf.sto i b0 hb0).1, ?_⟩
          cases b0 with
          | vals cells => exact fgtL_men (hf.sto i _ hb0).2
          | mp ks vs => exact fgtL_men (hf.sto i _ hb0).2
          | data sz rows => trivial
    unfold Stp at h
    split at h
    · exact h.elim
    · exact hdo h
    · rename_i want b hg
      rcases bool_or b want with hb | hb
      · exact hdo (h.1 hb)
      · rw [h.2 hb]; exact ⟨put_menL hf.env rfl, hf.sto⟩
  · by_cases hi : im = true → cls o.op ≠ .c
    case neg =>
      have him : im = true := by
        cases im with
        | true => rfl
        | false => exact absurd (fun h => by cases h) hi
      subst him
      have hcl : cls o.op = .c := by
        cases hc : cls o.op <;> first | rfl | exact absurd (fun _ e => by cases hc.symm.trans e) hi
      have hdo : DoI P true o E E' → Fresh p E'.e E'.s := by
        intro h
        unfold DoI at h
        rw [hcl] at h
        obtain ⟨g, args, ids, s0, r, s1, hds, hco, hm0, hok, _, rfl⟩ := h
        have ok := okW_iff hok
        obtain ⟨q, hq0, hq⟩ := newId_some hds
        have hrho : ∀ j, badId ids.length s1 j = false → p (rho ids (newId o.dst) j) = false := fun j hj => by
          simp only [badId, Bool.or_eq_false_iff, decide_eq_false_iff_not] at hj
          by_cases hl : j < ids.length
          · rw [rho_lt hl]
            obtain ⟨c, hc⟩ := Option.isSome_iff_exists.1 (ok.all j hl)
            exact (hf.sto _ _ (hm0 _ (getB_mem hc))).1
          · rw [rho_ge hl]
            refine hp _ ?_
            simp only [mine, decide_eq_true_eq]
            omega
        have hren : ∀ x : V, x.men (badId ids.length s1) = false → (x.ren (rho ids (newId o.dst))).men p = false := fun x => by
          induction x using V.rec (motive_2 := fun l => V.menL (badId ids.length s1) l = false → V.menL p (V.renL (rho ids (newId o.dst)) l) = false) <;> simp_all [V.men, V.menL, V.ren, V.renL]
        have hren' : ∀ b : Blk, b.men (badId ids.length s1) = false → FreshB p (b.ren (rho ids (newId o.dst))) := fun b hb => by
          cases b with
          | vals cells =>
            refine menL_of fun j x hj => ?_
            rw [renL_at] at hj
            obtain ⟨y, hy, rfl⟩ := Option.map_eq_some_iff.1 hj
            exact hren y (menL_at (by simpa [Blk.men] using hb) hy)
          | mp ks vs =>
            refine menL_of fun j x hj => ?_
            rw [renL_at] at hj
            obtain ⟨y, hy, rfl⟩ := Option.map_eq_some_iff.1 hj
            exact hren y (menL_at (by simpa [Blk.men] using hb) hy)
          | data sz rows => trivial
        refine ⟨put_menL hf.env (hren _ ok.res), fun i blk hi => ?_⟩
        rw [getB_puts'] at hi
        split at hi
        · rename_i b hb
          cases hi
          obtain ⟨j, b0, h1, rfl, rfl⟩ := getB_renS hb
          refine ⟨hrho j ?_, hren' _ (ok.outs h1).2⟩
          have := (ok.outs h1).1
          simp only [badId, Bool.or_eq_false_iff, decide_eq_false_iff_not, Bool.and_eq_false_iff]
          exact ⟨by omega, .inr (by rw [h1]; rfl)⟩
        · rw [getB_dropS] at hi
          split at hi
          · cases hi
          · exact hf.sto i blk hi
      unfold Stp at h
      split at h
      · exact h.elim
      · exact hdo h
      · rename_i want b hg
        rcases bool_or b want with hb | hb
        · exact hdo (h.1 hb)
        · rw [h.2 hb]; exact ⟨put_menL hf.env rfl, hf.sto⟩
    rw [locG_of hx hi] at h
    obtain ⟨v, ext, hl, rfl⟩ := h
    have key : v.men p = false ∧ ∀ x ∈ ext, p x.1 = false ∧ FreshB p x.2 := by
      unfold LocG at hl
      split at hl
      · exact hl.elim
      · exact locX_fresh hf (fun _ => hp) hl
      · rename_i want b hg
        rcases bool_or b want with hb | hb
        · exact locX_fresh hf (fun _ => hp) (hl.1 hb)
        · obtain ⟨rfl, rfl⟩ := hl.2 hb; exact ⟨rfl, by simp⟩
    exact ⟨put_menL hf.env key.1, (hf.puts key.2).sto⟩

/-! the region -/
def Steps (P : Program) (im : Bool) (all : List Oper) : List Nat → St → St → Prop
  | [], E, E' => E' = E
  | i :: r, E, E' => ∃ o, all[i]? = some o ∧ ∃ E1, Stp P im all o E E1 ∧ Steps P im all r E1 E'
/-- the direct and the farther reasons why one stands behind another -/
def dep (all : List Oper) : Nat → Nat → Nat → Bool
  | 0, _, _ => false
  | n + 1, j, i => match all[i]? with
    | some o => o.after.toList.any fun e => Region.binds .any e && (e.on == j || dep all n j e.on)
    | none => false
def ahead (all : List Oper) : Bool := (List.range all.length).all fun i => match all[i]? with | some o => o.after.toList.all fun e => !Region.binds .any e || decide (e.on < i) | none => true
/-- what operations make stands in slots of their own -/
def alone (all : List Oper) : Bool := (List.range all.length).all fun j => match all[j]? with
  | some x => !makes x || (List.range all.length).all fun i => i == j || (match all[i]? with | some y => y.dst != x.dst | none => true)
  | none => true
def indep (im : Bool) (all : List Oper) : Bool := ahead all && (List.range all.length).all fun i => (List.range i).all fun j => dep all all.length j i || (match all[j]?, all[i]? with | some x, some y => comm im all x y | _, _ => true)
def ks (all : List Oper) : List Nat := all.filterMap fun o => if makes o then some (newId o.dst / 100) else none
def madeIn (all : List Oper) (i : Nat) : Bool := (ks all).contains (i / 100)

def FreshAll (all : List Oper) (R : List Nat) (E : St) : Prop := ∀ i ∈ R, ∀ o, all[i]? = some o → makes o = true → Fresh (mine o) E.e E.s
theorem newId_inj {d d' : Option Nat} (h : newId d / 100 = newId d' / 100) : d = d' := by
  cases d with
  | none =>
    cases d' with
    | none => rfl
    | some k => simp only [newId] at h; omega
  | some k =>
    cases d' with
    | none => simp only [newId] at h; omega
    | some k' =>
      simp only [newId] at h
      rw [show k = k' by omega]
theorem alone_mine {all : List Oper} (ha : alone all = true) {i j : Nat} (hij : i ≠ j) {x y : Oper} (hx : all[i]? = some x) (hy : all[j]? = some y) (hm : makes x = true) (k : Nat) (hk : mine y k = true) : mine x k = false := by
  have hi : i < all.length := (List.getElem?_eq_some_iff.1 hx).1
  have hj : j < all.length := (List.getElem?_eq_some_iff.1 hy).1
  have h1 := List.all_eq_true.1 ha i (List.mem_range.2 hi)
  rw [hx] at h1
  simp only [hm, Bool.not_true, Bool.false_or] at h1
  have h2 := List.all_eq_true.1 h1 j (List.mem_range.2 hj)
  rw [hy] at h2
  have h3 : y.dst ≠ x.dst := by
    simp only [Bool.or_eq_true, beq_iff_eq, bne_iff_ne] at h2
    rcases h2 with h2 | h2
    · exact absurd h2.symm hij
    · exact h2
  simp only [mine, decide_eq_true_eq, decide_eq_false_iff_not] at hk ⊢
  intro e
  exact h3 (newId_inj (hk.symm.trans e))
theorem freshAll_step {im : Bool} {all : List Oper} (ha : alone all = true) {R : List Nat} {E E' : St} {i : Nat} {o : Oper} (hi : all[i]? = some o) (hni : i ∉ R) (hf : FreshAll all R E) (h : Stp P im all o E E') : FreshAll all R E' := by
  intro j hj x hx hm
  exact stp_fresh (hf j hj x hx hm) (fun k hk => alone_mine ha (fun e : j = i => hni (e ▸ hj)) hx hi hm k hk) h
/-- one that may stand first is taken first -/
theorem to_front {im : Bool} {all : List Oper} (ha : alone all = true) {i : Nat} {o : Oper} (hi : all[i]? = some o) : ∀ {R : List Nat} {E E' : St}, R.Nodup → i ∈ R → FreshAll all R E → (∀ j ∈ R.takeWhile (· != i), ∀ x, all[j]? = some x → comm im all x o = true) → Steps P im all R E E' →
    ∃ E1, Stp P im all o E E1 ∧ Steps P im all (R.erase i) E1 E' := by
  intro R
  induction R with
  | nil => intro E E' _ h; cases h
  | cons j r ih =>
    intro E E' hnd hm hf hc hs
    obtain ⟨x, hx, E1, h1, h2⟩ := hs
    by_cases e : j = i
    · subst e
      rw [hx] at hi; cases hi
      exact ⟨E1, h1, by simpa using h2⟩
    · have hmr : i ∈ r := (List.mem_cons.1 hm).resolve_left (Ne.symm e)
      have hnd' := List.nodup_cons.1 hnd
      have hfr : FreshAll all r E1 := freshAll_step ha hx hnd'.1 (fun k hk => hf k (by simp [hk])) h1
      have htw : (j :: r).takeWhile (· != i) = j :: r.takeWhile (· != i) := by simp [e]
      rw [htw] at hc
      obtain ⟨E2, g1, g2⟩ := ih hnd'.2 hmr hfr (fun k hk => hc k (by simp [hk])) h2
      obtain ⟨E3, g3, g4⟩ := exchange (hc j (by simp) x hx) (hf j (by simp) x hx) (hf i hm o hi) (fun m1 m2 k hk => alone_mine ha (Ne.symm e) hi hx m2 k hk) h1 g1
      refine ⟨E3, g3, ?_⟩
      rw [List.erase_cons_tail (by simpa using e)]
      exact ⟨x, hx, E2, g4, g2⟩

section
variable {w0 : World} {L0 : Par} {X : Nat → Prop}
theorem stp_op {im : Bool} {all : List Oper} {i : Nat} {o : Oper} (hi : all[i]? = some o) {m : Nat → Option Nat} {a : Act} {w : World} {E E1 : St} (h : Rel w0 L0 X m E.e E.s a w) (hf : makes o = true → Fresh (mine o) E.e E.s) (hs : Stp P im all o E E1) {K : Act → World → Prop} {Q : Exit → Act → World → Prop}
    (hK : ∀ m' a' w', Rel w0 L0 X m' E1.e E1.s a' w' → K a' w') : wpOp P all.toArray Q i K a w := by
  unfold wpOp
  have hi' : all.toArray[i]? = some o := by simpa using hi
  simp only [hi']
  have gy : ∀ {g : Nat} {want : Bool} {q : Oper} {k : Nat} {u : Value}, o.guard = some (g, want) → all[g]? = some q → q.dst = some k → k < E.e.length → a.tmps.toList[k]? = some u → Region.wanted o (yielded all.toArray a.tmps) = ((match u with | .bool b => some b | _ => none) == some want) := by
    intro g want q k u h1 h2 h3 _ h4
    have h5 : a.tmps[k]? = some u := by simpa using h4
    unfold Region.wanted
    rw [h1]
    simp only [yielded, List.getElem?_toArray, h2, Option.bind_some, h3, h5]
    cases u <;> rfl
  unfold Stp at hs
  cases hg : guardOf all E.e o.guard with
  | none => rw [hg] at hs; exact hs.elim
  | some gq =>
    rw [hg] at hs
    unfold guardOf at hg
    cases hog : o.guard with
    | none =>
      rw [hog] at hg
      cases hg
      have : Region.wanted o (yielded all.toArray a.tmps) = true := by simp [Region.wanted, hog]
      rw [if_pos this]
      exact .inl (doI_wp h hf hs hK)
    | some q0 =>
      obtain ⟨g, want⟩ := q0
      rw [hog] at hg
      simp only at hg
      cases hag : all[g]? with
      | none => rw [hag] at hg; cases hg
      | some q =>
        rw [hag] at hg
        simp only at hg
        cases hqd : q.dst with
        | none => rw [hqd] at hg; cases hg
        | some k =>
          rw [hqd] at hg
          simp only at hg
          have hlt : k < E.e.length := by
            rcases Nat.lt_or_ge k E.e.length with h | h
            · exact h
            · rw [List.getD_eq_getElem?_getD, List.getElem?_eq_none h] at hg
              cases hg
          have hek : E.e[k]? = some (E.e.getD k .top) := by simp [List.getD_eq_getElem?_getD, List.getElem?_eq_getElem hlt]
          obtain ⟨u, hu, hur⟩ := h.env.get hek
          have hw := gy hog hag hqd hlt hu
          split at hg
          · rename_i b hb
            cases hg
            rw [hb] at hur
            have := hur.lit_inv; subst this
            simp only at hw hs
            rcases bool_or b want with e | e
            · subst e
              rw [if_pos (by rw [hw]; simp)]
              exact .inl (doI_wp h hf (hs.1 rfl) hK)
            · rw [if_neg (by rw [hw, e]; cases want <;> simp)]
              have := hs.2 e
              subst this
              exact hK m _ _ (h.put o.dst .int)
          · rename_i vs hb
            cases hg
            rw [hb] at hur
            have := hur.lit_inv; subst this
            simp only at hw hs
            rw [if_neg (by rw [hw]; simp)]
            have := hs.2 (by first | rfl | trivial)
            subst this
            exact hK m _ _ (h.put o.dst .int)
          · cases hg
theorem fresh_enter {all : List Oper} {e : Env} {s : Store} : FreshAll all (List.range all.length) ⟨V.fgtL (madeIn all) e, fgtS (madeIn all) s⟩ := by
  intro i _ o ho hm
  refine (fgt_fresh (madeIn all) e s).sub fun j hj => ?_
  have : newId o.dst / 100 ∈ ks all := by
    simp only [ks, List.mem_filterMap]
    exact ⟨o, List.mem_of_getElem? ho, by simp [hm]⟩
  simp only [mine, decide_eq_false_iff_not]
  intro e
  have : madeIn all j = true := by simp [madeIn, e, this]
  rw [this] at hj; cases hj
theorem Rel.fgt {m : Nat → Option Nat} {e : Env} {s : Store} {a : Act} {w : World} (h : Rel w0 L0 X m e s a w) (p : Nat → Bool) : Rel w0 L0 X m (V.fgtL p e) (fgtS p s) a w := by
  have hown : ∀ b, Own m (fgtS p s) b → Own m s b := by
    rintro b ⟨i, blk, h1, h2⟩
    rw [getB_fgtS] at h1
    split at h1
    · cases h1
    · obtain ⟨b0, hb0, _⟩ := Option.map_eq_some_iff.1 h1; exact ⟨i, b0, hb0, h2⟩
  have hL : ∀ b, Live X m (fgtS p s) b → Live X m s b ∨ w.heap.size ≤ b := fun b hl => .inl (hl.imp_right (hown b))
  have hk : CellsKept (Live X m s) w w := fun _ _ _ q => q
  have hz : SizesKept w w := fun _ cs _ _ q => ⟨cs, q, rfl⟩
  refine ⟨⟨h.env.len.trans (fgtL_len _ _).symm, fun j x v q1 q2 => ?_⟩, ⟨fun i blk hi => ?_, fun i j b q1 q2 q3 q4 => ?_⟩, h.dfr, h.ext, fun b hl => h.liv b (hown b hl), h.old, fun i hi hs => h.par i hi (by
    rw [getB_fgtS] at hs
    split at hs
    · cases hs
    · simpa using hs)⟩
  · rw [fgtL_at] at q1
    obtain ⟨y, hy, rfl⟩ := Option.map_eq_some_iff.1 q1
    exact VRel.mono' hk hz hL ((h.env.at_ j y v hy q2).fgt p)
  · rw [getB_fgtS] at hi
    split at hi
    · cases hi
    · obtain ⟨b0, hb0, rfl⟩ := Option.map_eq_some_iff.1 hi
      rcases h.sto.blk i b0 hb0 with ⟨b, r1, r2⟩ | ⟨r1, sz, rfl⟩
      · exact .inl ⟨b, r1, BRel.mono (p := fun _ => false) hk hz hL (fun _ _ => rfl) rfl (by cases b0 <;> first | exact menL_false _ | trivial) (r2.fgt p)⟩
      · exact .inr ⟨r1, sz, rfl⟩
  · have key : ∀ i, (getB (fgtS p s) i).isSome = true → (getB s i).isSome = true := fun i q => by
      rw [getB_fgtS] at q
      split at q
      · cases q
      · simpa using q
    exact h.sto.inj i j b q1 q2 (key i q3) (key j q4)
/-- in the text's order -/
theorem seq_ops {im : Bool} {all : List Oper} (ha : alone all = true) : ∀ {R : List Nat} {m : Nat → Option Nat} {a : Act} {w : World} {E E' : St}, R.Nodup → FreshAll all R E → Rel w0 L0 X m E.e E.s a w → Steps P im all R E E' → ∀ {Q : Exit → Act → World → Prop}, (∀ m' a' w', Rel w0 L0 X m' E'.e E'.s a' w' → Q .normal a' w') → wpOps P all.toArray Q R a w := by
  intro R
  induction R with
  | nil => intro m a w E E' _ _ h hs Q hQ; cases hs; exact hQ m a w h
  | cons i r ih =>
    intro m a w E E' hnd hf h hs Q hQ
    obtain ⟨o, hi, E1, h1, h2⟩ := hs
    have hnd' := List.nodup_cons.1 hnd
    rw [wpOps_cons]
    exact stp_op hi h (hf i (by simp) o hi) h1 fun m' a' w' h' => ih hnd'.2 (freshAll_step ha hi hnd'.1 (fun k hk => hf k (by simp [hk])) h1) h' h2 hQ

theorem dep_listed {all : List Oper} {listed : Array Bool} (hcl : ∀ i o, all[i]? = some o → listed.getD i true = true → i < all.length → ∀ e ∈ o.after.toList, Region.binds .any e = true → listed.getD e.on false = true) (hlen : listed.size = all.length) :
    ∀ n j i o, all[i]? = some o → (∀ e ∈ o.after.toList, Region.binds .any e = true → listed.getD e.on false = true) → dep all n j i = true → listed.getD j false = true := by
  intro n
  induction n with
  | zero => intro j i o _ _ h; cases h
  | succ n ih =>
    intro j i o hi hd h
    simp only [dep, hi, List.any_eq_true, Bool.and_eq_true, Bool.or_eq_true, beq_iff_eq] at h
    obtain ⟨e, he, hb, h | h⟩ := h
    · rw [← h]; exact hd e he hb
    · have hl := hd e he hb
      cases hx : all[e.on]? with
      | none => cases n <;> simp [dep, hx] at h
      | some o' =>
        have hlt := (List.getElem?_eq_some_iff.1 hx).1
        refine ih j e.on o' hx (hcl e.on o' hx ?_ hlt) h
        have : e.on < listed.size := by omega
        simp [Array.getD, this] at hl ⊢
        exact hl
def undone (n : Nat) (listed : Array Bool) : List Nat := (List.range n).filter fun i => !listed.getD i true
theorem undone_set {n : Nat} {listed : Array Bool} {i : Nat} (hl : listed.size = n) (hi : i < n) : undone n (listed.setIfInBounds i true) = (undone n listed).erase i := by
  unfold undone
  rw [List.Nodup.erase_eq_filter (List.nodup_range.filter _), List.filter_filter]
  refine List.filter_congr fun k hk => ?_
  have hk' := List.mem_range.1 hk
  by_cases e : i = k
  · subst e; simp [Array.getD, hl, hi]
  · have h1 : (listed.setIfInBounds i true).getD k true = listed.getD k true := by
      simp [Array.getD_eq_getD_getElem?, Array.getElem?_setIfInBounds, e]
    rw [h1]
    simp [Ne.symm e]
theorem any_ops {im : Bool} {all : List Oper} (ha : alone all = true) (hi : indep im all = true) : ∀ (fuel : Nat) {listed : Array Bool} {m : Nat → Option Nat} {a : Act} {w : World} {E E' : St}, listed.size = all.length → (undone all.length listed).length ≤ fuel →
    (∀ i o, all[i]? = some o → listed.getD i true = true → i < all.length → ∀ e ∈ o.after.toList, Region.binds .any e = true → listed.getD e.on false = true) →
    FreshAll all (undone all.length listed) E → Rel w0 L0 X m E.e E.s a w → Steps P im all (undone all.length listed) E E' → ∀ {Q : Exit → Act → World → Prop}, (∀ m' a' w', Rel w0 L0 X m' E'.e E'.s a' w' → Q .normal a' w') → wpAny P .any all.toArray Q fuel listed a w := by
  simp only [indep, Bool.and_eq_true] at hi
  obtain ⟨hah, hco⟩ := hi
  intro fuel
  have rdy : ∀ {listed : Array Bool}, listed.size = all.length → ∀ i, i ∈ Region.ready .any all.toArray listed ↔ i ∈ undone all.length listed ∧ ∃ o, all[i]? = some o ∧ ∀ e ∈ o.after.toList, Region.binds .any e = true → listed.getD e.on false = true := by
    intro listed hl i
    simp only [Region.ready, undone, List.mem_filter, List.size_toArray, List.getElem?_toArray, Bool.and_eq_true]
    constructor
    · rintro ⟨h1, h2, h3⟩
      refine ⟨⟨h1, h2⟩, ?_⟩
      cases ho : all[i]? with
      | none => rw [ho] at h3; cases h3
      | some o =>
        rw [ho] at h3
        refine ⟨o, rfl, fun e he hb => ?_⟩
        simp only [Option.map_some, Option.getD_some, Array.all_eq_true_iff_forall_mem] at h3
        have := h3 e (by simpa using he)
        simpa [hb] using this
    · rintro ⟨⟨h1, h2⟩, o, ho, h3⟩
      refine ⟨h1, h2, ?_⟩
      rw [ho]
      simp only [Option.map_some, Option.getD_some, Array.all_eq_true_iff_forall_mem]
      intro e he
      by_cases hb : Region.binds .any e = true
      · simp [h3 e (by simpa using he) hb]
      · simp [hb]
  -- as long as one is left, one may be taken
  have least : ∀ {listed : Array Bool}, listed.size = all.length → Region.ready .any all.toArray listed = [] → undone all.length listed = [] := by
    intro listed hl hr
    cases hu : undone all.length listed with
    | nil => rfl
    | cons i r =>
      exfalso
      have hmem : ∀ k, k ∈ undone all.length listed ↔ k < all.length ∧ listed.getD k true = false := fun k => by simp [undone]
      have hmin : ∀ k, k < i → listed.getD k false = true := by
        intro k hk
        have hii : i < all.length := ((hmem i).1 (by rw [hu]; simp)).1
        have hsort : (undone all.length listed).Pairwise (· < ·) := List.pairwise_lt_range.filter _
        rw [hu] at hsort
        have hks : k < listed.size := by omega
        cases hq : listed.getD k true with
        | true => simp [Array.getD, hks] at hq ⊢; exact hq
        | false =>
          have : k ∈ undone all.length listed := (hmem k).2 ⟨by omega, hq⟩
          rw [hu] at this
          rcases List.mem_cons.1 this with e | hm
          · omega
          · have := (List.pairwise_cons.1 hsort).1 k hm
            omega
      have hii : i < all.length := ((hmem i).1 (by rw [hu]; simp)).1
      have : i ∈ Region.ready .any all.toArray listed := (rdy hl i).2 ⟨by rw [hu]; simp, all[i], List.getElem?_eq_getElem hii, fun e he hb => by
        have h1 := List.all_eq_true.1 hah i (List.mem_range.2 hii)
        rw [List.getElem?_eq_getElem hii] at h1
        have h2 := List.all_eq_true.1 h1 e he
        simp only [hb, Bool.not_true, Bool.false_or, decide_eq_true_eq] at h2
        exact hmin _ h2⟩
      rw [hr] at this; cases this
  induction fuel with
  | zero =>
    intro listed m a w E E' hl hn hcl hf h hs Q hQ
    have hu : undone all.length listed = [] := List.eq_nil_of_length_eq_zero (by omega)
    rw [hu] at hs
    cases hs
    refine ⟨?_, hQ m a w h⟩
    cases hr : Region.ready .any all.toArray listed with
    | nil => rfl
    | cons i r =>
      have := ((rdy hl i).1 (by rw [hr]; simp)).1
      rw [hu] at this; cases this
  | succ n ih =>
    intro listed m a w E E' hl hn hcl hf h hs Q hQ
    refine ⟨fun hr => ?_, fun i hri => ?_⟩
    · have hu := least hl hr
      rw [hu] at hs
      cases hs
      exact hQ m a w h
    · obtain ⟨hu, o, ho, hd⟩ := (rdy hl i).1 hri
      have hii : i < all.length := (List.getElem?_eq_some_iff.1 ho).1
      have hnd : (undone all.length listed).Nodup := List.nodup_range.filter _
      have hsort : (undone all.length listed).Pairwise (· < ·) := List.pairwise_lt_range.filter _
      obtain ⟨E1, g1, g2⟩ := to_front ha ho hnd hu hf (fun j hj x hx => by
        have hju : j ∈ undone all.length listed := (List.takeWhile_prefix _).subset hj
        have hne : j ≠ i := by have := List.all_eq_true.1 List.all_takeWhile j hj; simpa using this
        have hji : j < i := by
          have : ∀ (R : List Nat), R.Pairwise (· < ·) → i ∈ R → j ∈ R.takeWhile (· != i) → j < i := by
            intro R
            induction R with
            | nil => intro _ h; cases h
            | cons k r ih =>
              intro hp hm hj
              have hp' := List.pairwise_cons.1 hp
              by_cases e : k = i
              · simp [e] at hj
              · have hmr : i ∈ r := (List.mem_cons.1 hm).resolve_left (Ne.symm e)
                simp only [List.takeWhile_cons, bne_iff_ne, ne_eq, e, not_false_eq_true, if_true, List.mem_cons] at hj
                rcases hj with rfl | hj
                · exact hp'.1 i hmr
                · exact ih hp'.2 hmr hj
          exact this _ hsort hu hj
        have h1 := List.all_eq_true.1 (List.all_eq_true.1 hco i (List.mem_range.2 hii)) j (List.mem_range.2 hji)
        simp only [hx, ho, Bool.or_eq_true] at h1
        rcases h1 with h1 | h1
        · have := dep_listed hcl hl _ j i o ho hd h1
          have hjl : j < listed.size := by omega
          have h2 : listed.getD j true = false := by have := hju; simp only [undone, List.mem_filter, Bool.not_eq_true'] at this; exact this.2
          simp [Array.getD, hjl] at this h2
          rw [this] at h2; cases h2
        · exact h1) hs
      refine stp_op ho h (hf i hu o ho) g1 fun m' a' w' h' => ?_
      have hue := undone_set (listed := listed) hl hii
      refine ih (by simpa using hl) ?_ ?_ ?_ h' (by rw [hue]; exact g2) hQ
      · rw [hue, List.length_erase_of_mem hu]; omega
      · intro k x hx hk hkl e he hb
        by_cases e1 : i = k
        · subst e1
          rw [ho] at hx; cases hx
          have := hd e he hb
          have hne : e.on < all.length := by
            have hlt : e.on < listed.size := by
              rcases Nat.lt_or_ge e.on listed.size with h | h
              · exact h
              · simp [Array.getD, Nat.not_lt.2 h] at this
            omega
          simp [Array.getD_eq_getD_getElem?, Array.getElem?_setIfInBounds] at this ⊢
          split
          · split <;> simp_all
          · exact this
        · have hk' : listed.getD k true = true := by
            simpa [Array.getD_eq_getD_getElem?, Array.getElem?_setIfInBounds, e1] using hk
          have := hcl k x hx hk' hkl e he hb
          simp [Array.getD_eq_getD_getElem?, Array.getElem?_setIfInBounds] at this ⊢
          split
          · split <;> simp_all
          · exact this
      · rw [hue]
        have hf' : FreshAll all ((undone all.length listed).erase i) E := fun k hk => hf k (List.mem_of_mem_erase hk)
        exact freshAll_step ha ho (List.Nodup.not_mem_erase hnd) hf' g1
end
end Go.Fw
