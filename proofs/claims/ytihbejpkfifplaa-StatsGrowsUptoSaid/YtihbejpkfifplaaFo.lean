/- Operations hang on their operands; what they make names no block that these do not name, but their own. -/
import Derived.Test.YtihbejpkfifplaaFnv
set_option linter.unusedVariables false
set_option linter.unusedSimpArgs false
namespace Go.Fw
variable {P : Program}

theorem map_congr_ops {α β : Type} {f g : α → β} {l : List α} (h : ∀ x ∈ l, f x = g x) : l.map f = l.map g := List.map_congr_left h
theorem optmap_congr {x : Option Operand} {ρ ρ' : Operand → V} (h : ∀ y ∈ x.toArray, ρ y = ρ' y) : x.map ρ = x.map ρ' := by
  cases x with
  | none => rfl
  | some y => simp [h y (by simp)]
theorem opP_congr {op : Op} {ρ ρ' : Operand → V} (h : ∀ x ∈ op.operands, ρ x = ρ' x) : opP P op ρ = opP P op ρ' := by
  cases op <;> simp only [opP] <;> simp only [Op.operands] at h
  case move x => rw [h x (by simp)]
  case assign x => rw [h x (by simp)]
  case pick c a b => rw [h c (by simp), h a (by simp), h b (by simp)]
  case build t ps =>
    have e : (ps.toList.map fun (i, x) => (i, ρ x)) = ps.toList.map fun (i, x) => (i, ρ' x) := map_congr_ops fun x hx => by
      obtain ⟨i, x⟩ := x
      simp only
      rw [h x (by simp; exact ⟨i, by simpa using hx⟩)]
    rw [e]
  case nilCheck x => rw [h x (by simp)]
  case binOp op t x y t' => rw [h x (by simp), h y (by simp)]
  case unOp op t x => rw [h x (by simp)]
  case convert s d x => rw [h x (by simp)]
  case makeFunc f first capt =>
    cases f <;> simp only
    rw [map_congr_ops (l := capt.toList) (f := ρ) (g := ρ') fun x hx => h x (by simp; exact .inr (by simpa using hx))]
  case slice t x lo hi mx =>
    rw [h x (by simp), optmap_congr (x := lo) fun y hy => h y (by simp [hy]), optmap_congr (x := hi) fun y hy => h y (by simp [hy]), optmap_congr (x := mx) fun y hy => h y (by simp [hy])]
  case fieldAddr t x f => rw [h x (by simp)]
  case field t x f => rw [h x (by simp)]
  case indexAddr t x i => rw [h x (by simp), h i (by simp)]
  case index t x i => rw [h x (by simp), h i (by simp)]
  case extract t i => rw [h t (by simp)]
  case call c =>
    rw [map_congr_ops (l := c.args.toList) (f := ρ) (g := ρ') fun x hx => h x (by simp [Call.operands]; exact .inr (by simpa using hx))]
theorem opR_congr {op : Op} {ρ ρ' : Operand → V} {s : Store} (h : ∀ x ∈ op.operands, ρ x = ρ' x) : opR P op ρ s = opR P op ρ' s := by
  cases op <;> simp only [opR] <;> simp only [Op.operands] at h
  case load t x => rw [h x (by simp)]
  case call c =>
    split
    · rename_i x t h1 h2
      rw [h x (by
        simp only [Call.operands, Array.mem_append]
        exact .inr (Array.mem_toList_iff.1 (by rw [h1]; simp)))]
    · rfl
  case lookup t m k ok => rw [h m (by simp), h k (by simp)]
theorem opA_congr {op : Op} {ρ ρ' : Operand → V} {id : Nat} (h : ∀ x ∈ op.operands, ρ x = ρ' x) : opA P op ρ id = opA P op ρ' id := by
  cases op <;> simp only [opA] <;> simp only [Op.operands] at h
  case box t x => rw [h x (by simp)]
  case buildSlice t n ps =>
    have e : (ps.toList.map fun (i, x) => (i, ρ x)) = ps.toList.map fun (i, x) => (i, ρ' x) := map_congr_ops fun x hx => by
      obtain ⟨i, x⟩ := x
      simp only
      rw [h x (by simp; exact ⟨i, by simpa using hx⟩)]
    rw [e]
  case makeSlice t l c => rw [h l (by simp), h c (by simp)]
  case makeMap t r => cases r <;> rfl
theorem opW_congr {op : Op} {ρ ρ' : Operand → V} {s : Store} (h : ∀ x ∈ op.operands, ρ x = ρ' x) : opW P op ρ s = opW P op ρ' s := by
  cases op <;> simp only [opW] <;> simp only [Op.operands] at h
  case store t x y => rw [h x (by simp), h y (by simp)]
  case mapUpdate t m k x => rw [h m (by simp), h k (by simp), h x (by simp)]
  case insert t m k x => rw [h m (by simp), h k (by simp), h x (by simp)]

/-! names -/
theorem mkAg_men {p : Nat → Bool} {cells : List V} (h : V.menL p cells = false) : (mkAg cells).men p = false := by
  unfold mkAg
  split
  · rfl
  · exact h
theorem menL_sub {p : Nat → Bool} {l k : List V} (h : V.menL p l = false) (hs : ∀ x ∈ k, x ∈ l) : V.menL p k = false := by
  refine menL_of fun j x hj => ?_
  obtain ⟨i, hi⟩ := List.getElem?_of_mem (hs x (List.mem_of_getElem? hj))
  exact menL_at h hi
theorem one_men {p : Nat → Bool} {g : Bool} {n : Nat} {cells : List V} {v : V} (h : V.menL p cells = false) (ho : one g n cells = some v) : v.men p = false := by
  unfold one at ho
  split at ho
  · split at ho
    · cases ho; exact mkAg_men h
    · cases ho
  · cases cells with
    | nil => cases ho
    | cons c r => cases ho; exact menL_at h (j := 0) rfl
theorem partV_men {p : Nat → Bool} {g : Bool} {n off : Nat} {cells : List V} {v : V} (h : V.menL p cells = false) (ho : partV g n off cells = some v) : v.men p = false := by
  unfold partV at ho
  split at ho
  · exact one_men (menL_sub h fun x hx => List.mem_of_mem_drop (List.mem_of_mem_take hx)) ho
  · cases ho
theorem aggCells_men {p : Nat → Bool} {x : V} {cs : List V} (h : x.men p = false) (hc : aggCells x = some cs) : V.menL p cs = false := by
  unfold aggCells at hc
  split at hc
  · cases hc; exact h
  · cases hc; exact menL_map_d p _
  · cases hc
theorem binV_men {p : Nat → Bool} {op : BinOp} {t : TypeId} {x y : V} {c : Prop} {v : V} (h : binV P op t x y = some (c, v)) : v.men p = false := by
  unfold binV at h
  have en : ∀ {c' : Prop} {b : Bool}, eqNil op c' b = some (c, v) → v.men p = false := by
    intro c' b h
    cases op <;> simp only [eqNil, Option.some.injEq, Prod.mk.injEq, reduceCtorEq] at h <;> rw [← h.2] <;> rfl
  split at h
  · split at h
    · split at h <;> cases h; rfl
    · split at h <;> cases h; rfl
    · split at h
      · split at h <;> cases h; rfl
      · cases h
  · split at h
    · split at h <;> cases h <;> rfl
    · cases h
  · split at h <;> cases h; rfl
  · unfold nilV at h
    split at h
    · split at h
      · split at h
        · exact en h
        · cases h
      · split at h
        · split at h
          · exact en h
          · cases h
        · cases h
    · cases h
theorem sliceV_men {p : Nat → Bool} {z : Nat} {x : V} {lo hi mx : Option V} {c : Prop} {v : V} (hx : x.men p = false) (h : sliceV z x lo hi mx = some (c, v)) : v.men p = false := by
  unfold sliceV at h
  split at h
  · rename_i l' h' _ _ 
    split at h
    · cases l' <;> cases h' <;> simp only [cutSl, Option.some.injEq, Prod.mk.injEq] at h <;> rw [← h.2] <;> rfl
    · split at h
      · cases l' <;> cases h' <;> simp only [cutRs, Option.some.injEq, Prod.mk.injEq] at h <;> rw [← h.2] <;> (try split) <;> first | rfl | exact hx
      · cases h
    · cases h
  · cases h
theorem sliceS_men {p : Nat → Bool} {x : V} {lo hi mx : Option V} {c : Prop} {v : V} (h : sliceS x lo hi mx = some (c, v)) : v.men p = false := by
  unfold sliceS at h
  split at h
  · rename_i l' h' _ _
    split at h
    · cases l' <;> cases h' <;> simp only [cutStr, Option.some.injEq, Prod.mk.injEq] at h <;> rw [← h.2] <;> rfl
    · cases h
  · cases h
theorem opP_men {p : Nat → Bool} {op : Op} {ρ : Operand → V} {c : Prop} {v : V} (hρ : ∀ x, (ρ x).men p = false) (h : opP P op ρ = some (c, v)) : v.men p = false := by
  unfold opP at h
  split at h <;> try (cases h; done)
  · cases h; exact hρ _
  · cases h; exact hρ _
  · split at h
    · rename_i t _; cases h; cases t <;> exact hρ _
    · cases h
  · split at h
    · split at h
      · split at h
        · rename_i hcs
          cases h
          refine mkAg_men (fillV_men (lits_men _ _) (fun x hx => ?_) hcs)
          simp only [List.mem_map] at hx
          obtain ⟨y, _, rfl⟩ := hx
          exact hρ _
        · cases h
      · cases h
    · cases h
  · rename_i x
    have := hρ x
    split at h <;> cases h <;> rename_i hv <;> rw [hv] at this <;> exact this
  · exact binV_men h
  · split at h
    · rename_i hv
      cases h
      unfold unV at hv
      split at hv <;> cases hv <;> rfl
    · cases h
  · split at h
    · cases h
      refine menL_of fun j x hj => ?_
      simp only [List.getElem?_map, Option.map_eq_some_iff] at hj
      obtain ⟨y, _, rfl⟩ := hj
      exact hρ _
    · cases h
  · split at h
    · split at h
      · cases h
      · exact sliceV_men (hρ _) h
    · split at h
      · exact sliceS_men h
      · cases h
  · rename_i t x f
    have := hρ x
    split at h
    · split at h
      · cases h
      · split at h <;> cases h <;> rename_i hv <;> rw [hv] at this <;> exact this
    · cases h
  · split at h
    · rename_i hcs
      split at h
      · split at h
        · cases h
        · split at h
          · rename_i hv; cases h; exact partV_men (aggCells_men (hρ _) hcs) hv
          · cases h
      · cases h
    · cases h
  · rename_i t x i
    have := hρ x
    split at h
    · split at h
      · cases h
      · unfold idxV at h
        split at h
        · split at h
          · cases h; rfl
          · rename_i hv
            rw [hv] at this
            split at h
            · cases h; exact this
            · cases h
          · cases h
        · cases h
    · cases h
  · split at h
    · split at h
      · cases h; rfl
      · cases h
    · cases h
  · rename_i t i
    have := hρ t
    split at h
    · rename_i hv
      rw [hv] at this
      split at h
      · rename_i hi; cases h; exact menL_at this hi
      · cases h
    · cases h
  · split at h
    · rename_i hv
      cases h
      unfold convV at hv
      split at hv
      · split at hv <;> cases hv; rfl
      · cases hv
    · cases h
  · have mm : ∀ {b : Bool} {l : List V} {v : V}, minmax b l = some v → v.men p = false := by
      intro b l v h
      unfold minmax at h
      split at h
      · split at h <;> cases h; rfl
      · cases h
    split at h
    · split at h
      · rename_i hv; cases h; exact mm hv
      · cases h
    · split at h
      · rename_i hv; cases h; exact mm hv
      · cases h
    · cases h
theorem loadV_men {p : Nat → Bool} {t : TypeId} {cells : List V} {off : Nat} {v : V} (h : V.menL p cells = false) (hl : loadV P t cells off = some v) : v.men p = false := by
  unfold loadV at hl
  split at hl
  · exact partV_men h hl
  · exact menL_at h hl
  · cases hl
theorem opR_men {p : Nat → Bool} {op : Op} {ρ : Operand → V} {e : Env} {s : Store} {c : Prop} {v : V} (hf : Fresh p e s) (hρ : ∀ x, (ρ x).men p = false) (h : opR P op ρ s = some (c, v)) : v.men p = false := by
  unfold opR at h
  split at h <;> try (cases h; done)
  · split at h
    · split at h
      · rename_i hb
        split at h
        · rename_i hv; cases h; exact loadV_men (hf.sto _ _ hb).2 hv
        · cases h
      · split at h
        · rename_i hv; cases h; exact loadV_men (menL_map_d p _) hv
        · cases h
      · cases h
    · split at h
      · rename_i hv; cases h; exact loadV_men (menL_map_d p _) hv
      · cases h
    · cases h
  · split at h
    · split at h
      · split at h
        · split at h
          · cases h; rfl
          · cases h
        · cases h
      · split at h
        · cases h; rfl
        · cases h
    · cases h
  · -- lookup
    have lk : ∀ {ok : Bool} {v : V} {b : Bool}, v.men p = false → (lookR ok v b).men p = false := by
      intro ok v b hv
      unfold lookR
      cases ok <;> simp [V.men, V.menL, hv]
    have zm : ∀ {t : TypeId} {z : V}, zeroV P t = some z → z.men p = false := by
      intro t z hz
      unfold zeroV at hz
      split at hz
      · split at hz
        · split at hz
          · cases hz; exact mkAg_men (lits_men p _)
          · cases hz
        · split at hz
          · cases hz; rfl
          · cases hz
        · cases hz
      · cases hz
    unfold lookV at h
    split at h
    · split at h
      · rename_i hz
        split at h
        · split at h
          · rename_i hg
            split at h
            · split at h
              · rename_i hv; cases h; exact lk (menL_at (hf.sto _ _ hg).2 hv)
              · cases h
            · cases h; exact lk (zm hz)
            · cases h
          · cases h
        · cases h; exact lk (zm hz)
        · cases h
      · cases h
    · cases h
theorem opR_grow {p : Nat → Bool} {op : Op} {ρ : Operand → V} {s s' : Store} {c : Prop} {v : V} (hρ : ∀ x, (ρ x).men p = false) (hs : ∀ i, p i = false → getB s' i = getB s i) (h : opR P op ρ s = some (c, v)) : opR P op ρ s' = some (c, v) := by
  unfold opR at h ⊢
  split at h <;> try (cases h; done)
  · rename_i t x
    have hx := hρ x
    split at h
    · rename_i hv
      rw [hv] at hx
      rw [hs _ (by simpa [V.men] using hx)]
      exact h
    · rename_i hv

      exact h
    · cases h
  · split at h
    · rename_i x t _ _
      have hx := hρ x
      split at h
      · rename_i id hv
        rw [hv] at hx
        rw [hs _ (by simpa [V.men] using hx)]
        exact h
      · exact h
    · cases h
  · rename_i t x k ok
    have hx := hρ x
    generalize ρ x = u at hx h ⊢
    unfold lookV at h ⊢
    split at h
    · split at h
      · split at h
        · rw [hs _ (by simpa [V.men] using hx)]; exact h
        · exact h
        · exact h
      · cases h
    · cases h
end Go.Fw
