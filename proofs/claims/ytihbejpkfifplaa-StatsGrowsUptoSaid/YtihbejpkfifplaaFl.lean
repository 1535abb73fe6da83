/- append. -/
import Derived.Test.YtihbejpkfifplaaFk
import Derived.Laws.Append
set_option linter.unusedVariables false
set_option linter.unusedSimpArgs false
namespace Go.Fw
variable {P : Program}

/-- cells of rows, one behind the other -/
theorem src_run {w : World} {X : Nat → Prop} {m : Nat → Option Nat} {s : Store} (hs : SRel w X m s) {sz : Nat} (hsz : 0 < sz) {x : V} {v : Value} {c : Prop} {rows : List (List D)} (hx : VRel w (Live X m s) m x v) (h : srcRows sz x s = some (c, rows)) (hc : c) :
    (∃ A k, v = .slice A rows.length k) ∧ (∀ r ∈ rows, r.length = sz) ∧ ∃ vs : List Value, vs.length = rows.length * sz ∧ (∀ w', w'.heap = w.heap → (Builtin.firstCells sz rows.length v).run P w' = .ok vs.toArray w') ∧
      ∀ (i j : Nat) (r : List D) (x : D), rows[i]? = some r → r[j]? = some x → ∃ v, vs[i * sz + j]? = some v ∧ v.oneCell = true ∧ DRel w (Live X m s) x v := by
  have key : ∀ (b o : Nat) (k : Nat) (f : Nat → Nat → Value), (∀ r ∈ rows, r.length = sz) → (∀ (i j : Nat) (r : List D) (x : D), rows[i]? = some r → r[j]? = some x → w.cell? ⟨b, o + i * sz + j, none⟩ = some (f i j) ∧ (f i j).oneCell = true ∧ DRel w (Live X m s) x (f i j)) →
      ∃ vs : List Value, vs.length = rows.length * sz ∧ (∀ w', w'.heap = w.heap → (Builtin.firstCells sz rows.length (.slice (some ⟨b, o, none⟩) rows.length k)).run P w' = .ok vs.toArray w') ∧
      ∀ (i j : Nat) (r : List D) (x : D), rows[i]? = some r → r[j]? = some x → ∃ v, vs[i * sz + j]? = some v ∧ v.oneCell = true ∧ DRel w (Live X m s) x v := by
    intro b o k f hl hf
    have dm : ∀ i j, j < sz → (i * sz + j) / sz = i ∧ (i * sz + j) % sz = j := fun i j hj => by
      rw [Nat.mul_comm]
      exact ⟨by rw [Nat.mul_add_div hsz, Nat.div_eq_of_lt hj, Nat.add_zero], by rw [Nat.mul_add_mod, Nat.mod_eq_of_lt hj]⟩
    refine ⟨(List.range (rows.length * sz)).map fun q => f (q / sz) (q % sz), by simp, fun w' hw => ?_, fun i j r x h1 h2 => ?_⟩
    · simp only [Builtin.firstCells]
      refine run_loadCells w' _ _ _ fun q hq => ?_
      rw [add_none]
      have hi : q / sz < rows.length := Nat.div_lt_of_lt_mul (by rw [Nat.mul_comm]; exact hq)
      have hr : rows[q / sz]? = some rows[q / sz] := List.getElem?_eq_getElem hi
      have hj : q % sz < rows[q / sz].length := by rw [hl _ (List.getElem_mem hi)]; exact Nat.mod_lt _ hsz
      have := (hf _ _ _ _ hr (List.getElem?_eq_getElem hj)).1
      have e : o + q / sz * sz + q % sz = o + q := by
        have := Nat.div_add_mod q sz
        rw [Nat.mul_comm] at this
        omega
      rw [e] at this
      simpa [World.cell?, hw] using this
    · have hj : j < sz := by rw [← hl r (List.mem_of_getElem? h1)]; exact (List.getElem?_eq_some_iff.1 h2).1
      have hi := (List.getElem?_eq_some_iff.1 h1).1
      obtain ⟨e1, e2⟩ := dm i j hj
      have hlt : i * sz + j < rows.length * sz := by
        have : (i + 1) * sz ≤ rows.length * sz := Nat.mul_le_mul_right _ hi
        rw [Nat.add_mul, Nat.one_mul] at this
        omega
      refine ⟨f i j, ?_, (hf i j r x h1 h2).2⟩
      rw [List.getElem?_map, List.getElem?_range hlt]
      simp [e1, e2]
  have empty : ∀ {A : Option Addr} {k : Nat}, rows = [] → ∃ vs : List Value, vs.length = rows.length * sz ∧ (∀ w', w'.heap = w.heap → (Builtin.firstCells sz rows.length (.slice A rows.length k)).run P w' = .ok vs.toArray w') ∧
      ∀ (i j : Nat) (r : List D) (x : D), rows[i]? = some r → r[j]? = some x → ∃ v, vs[i * sz + j]? = some v ∧ v.oneCell = true ∧ DRel w (Live X m s) x v := by
    rintro A k rfl
    refine ⟨[], by simp, fun w' _ => ?_, by simp⟩
    cases A with
    | none => rfl
    | some a => simp [Builtin.firstCells, loadCells, loadCellsFrom]
  unfold srcRows at h
  split at h <;> try (cases h; done)
  · cases h
    cases hx with
    | d hd =>
      cases hd with
      | slE nn A cap hn => exact ⟨⟨A, cap, rfl⟩, hc, empty rfl⟩
      | sl nn rows b off cap sz' vals hb hc' hmx hz hv ho hr =>
        by_cases h0 : rows = []
        · exact ⟨⟨_, _, rfl⟩, hc, empty h0⟩
        · obtain ⟨r, rs, rfl⟩ := List.exists_cons_of_ne_nil h0
          have e : sz' = sz := by rw [← hz r (by simp), hc r (by simp)]
          subst e
          exact ⟨⟨_, _, rfl⟩, hc, key b off cap vals hc fun i j r x h1 h2 => ⟨hv i j r x h1 h2, ho i j r x h1 h2, hr i j r x h1 h2⟩⟩
  · cases h
    have := hx.lit_inv; subst this
    exact ⟨⟨_, _, rfl⟩, by simp, empty rfl⟩
  · rename_i id n off len
    split at h
    · rename_i hn
      subst hn
      split at h
      · rename_i n' rows' hb
        cases h
        obtain ⟨rfl, hle⟩ := hc
        have hlen : ((rows'.drop off).take len).length = len := by simp; omega
        have hmem : ∀ r ∈ (rows'.drop off).take len, r ∈ rows' := fun r hr => List.mem_of_mem_drop (List.mem_of_mem_take hr)
        cases hx with
        | rsE => exact ⟨⟨none, 0, by simp⟩, by simp, empty (by simp)⟩
        | rs _ _ _ _ cap b cs ty fr hm hc' hxl hh hs' =>
          rcases hs.blk id _ hb with ⟨b', hm', cs', ty', fr', hh', hfr', hsz', hlen', hall⟩ | ⟨hn, _⟩
          · rw [hm] at hm'; cases hm'
            rw [hh] at hh'; cases hh'
            have e : ∀ i r, ((rows'.drop off).take len)[i]? = some r → rows'[off + i]? = some r := by
              intro i r h1
              rw [List.getElem?_take] at h1
              split at h1
              · rwa [List.getElem?_drop] at h1
              · cases h1
            have q := key b (off * n') cap (fun i j => (cs[(off + i) * n' + j]?).getD undef) (fun r hr => hlen' r (hmem r hr)) (fun i j r x h1 h2 => by
              obtain ⟨v, b1, b2, b3⟩ := hall (off + i) j r x (e i r h1) h2
              rw [b1]
              refine ⟨?_, b2, b3⟩
              rw [cell_of hh, show off * n' + i * n' + j = (off + i) * n' + j by rw [Nat.add_mul], b1]; rfl)
            rw [hlen] at q ⊢
            exact ⟨⟨_, _, rfl⟩, fun r hr => hlen' r (hmem r hr), q⟩
          · rw [hm] at hn; cases hn
      · cases h
    · cases h
end Go.Fw
