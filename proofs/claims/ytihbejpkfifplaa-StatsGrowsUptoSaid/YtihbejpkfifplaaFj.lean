/- Operations that make a block. -/
import Derived.Test.YtihbejpkfifplaaFi
set_option linter.unusedVariables false
set_option linter.unusedSimpArgs false
namespace Go.Fw
variable {P : Program}

theorem menL_map_d (p : Nat → Bool) (l : List D) : V.menL p (l.map .d) = false := by
  induction l with
  | nil => rfl
  | cons x r ih => simp [V.menL, V.men, ih]
theorem men_cells {p : Nat → Bool} {x : V} {cs : List V} (h : x.men p = false) (hc : cellsOfV x = some cs) : V.menL p cs = false := by
  unfold cellsOfV at hc
  split at hc <;> first | (cases hc; done) | skip
  · cases hc; simpa [V.men] using h
  · cases hc; exact menL_map_d p _
  · split at hc <;> cases hc; rfl
  all_goals (cases hc; simpa [V.menL] using h)
theorem look_men {p : Nat → Bool} {e : Env} (h : V.menL p e = false) (x : Operand) : (look e x).men p = false := by
  cases x with
  | tmp t =>
    simp only [look]
    rw [List.getD_eq_getElem?_getD]
    cases hx : e[t]? with
    | none => rfl
    | some v => exact menL_at h hx
  | const v => simp only [look]; split <;> rfl
  | global g => rfl
  | func f => rfl
theorem lits_men (p : Nat → Bool) (z : List Value) : V.menL p (lits z) = false := by
  unfold lits
  induction z with
  | nil => rfl
  | cons x r ih => simp [V.menL, V.men, ih]

section
variable {w0 : World} {L0 : Par} {X : Nat → Prop} {m : Nat → Option Nat} {e : Env} {s : Store} {a : Act} {w : World}
theorem Rel.vrel_made (h : Rel w0 L0 X m e s a w) {id : Nat} {blk : Blk} (hid : getB s id = none) {o : Obj} {x : V} {v : Value} (hx : x.men (· == id) = false) (hr : VRel w (Live X m s) m x v) :
    VRel (wand w o) (Live X (addM m id w.heap.size) (putB s id blk)) (addM m id w.heap.size) x v :=
  VRel.mono (p := (· == id)) (and_kept w o (Live X m s)) (and_sizes w o) (fun b hl => (live_and h hid hl).imp_right fun e => by omega) (fun i hi => by unfold addM; rw [if_neg (by simpa using hi)]) hx hr
theorem Rel.vals_made (h : Rel w0 L0 X m e s a w) {id : Nat} (h90 : 90 ≤ id) (hf : Fresh (· == id) e s) (hid : getB s id = none) {cs : List V} {vs : List Value} {ty : TypeId} (hm : V.menL (· == id) cs = false) (ho : Ones vs) (hr : All2 (VRel w (Live X m s) m) cs vs) (dst : Option Nat) :
    Rel w0 L0 X (addM m id w.heap.size) (Fw.put e dst (.pt id 0 0 0)) (putB s id (.vals cs)) (a.put dst (.pointer (some ⟨w.heap.size, 0, none⟩))) (wand w (.cells vs.toArray ty)) := by
  have h1 := h.made h90 hf hid (o := .cells vs.toArray ty) (blk := .vals cs) ⟨vs, [], ty, (0, 0), by rw [List.append_nil]; exact heap_new w _, free00 _, ho, ⟨hr.len, fun j x v q1 q2 => h.vrel_made hid (menL_at hm q1) (hr.at_ j x v q1 q2)⟩⟩
  exact h1.put dst (by simpa using VRel.pt (w := wand w (.cells vs.toArray ty)) (L := Live X (addM m id w.heap.size) (putB s id (.vals cs))) (m := addM m id w.heap.size) id 0 0 0 w.heap.size (by simp [addM]))
theorem Rel.data_made (h : Rel w0 L0 X m e s a w) {id : Nat} (h90 : 90 ≤ id) (hf : Fresh (· == id) e s) (hid : getB s id = none) {sz : Nat} {rows : List (List D)} {vs : List Value} {ty : TypeId} {cap : Nat} (hc : rows.length ≤ cap) (hmx : rows.length ≤ 9223372036854775807) (hv : cap * sz ≤ vs.length) (hz : ∀ r ∈ rows, r.length = sz)
    (hr : ∀ (i j : Nat) (r : List D) (x : D), rows[i]? = some r → r[j]? = some x → ∃ v, vs[i * sz + j]? = some v ∧ v.oneCell = true ∧ DRel w (Live X m s) x v) (dst : Option Nat) :
    Rel w0 L0 X (addM m id w.heap.size) (Fw.put e dst (.rs id sz 0 rows.length)) (putB s id (.data sz rows)) (a.put dst (.slice (some ⟨w.heap.size, 0, none⟩) rows.length cap)) (wand w (.cells vs.toArray ty)) := by
  have hle : rows.length * sz ≤ vs.length := Nat.le_trans (Nat.mul_le_mul_right _ hc) hv
  have h1 := h.made h90 hf hid (o := .cells vs.toArray ty) (blk := .data sz rows) ⟨vs.toArray, ty, (0, 0), heap_new w _, free00 _, by simpa using hle, hz, fun i j r x q1 q2 => by
    obtain ⟨v, r1, r2, r3⟩ := hr i j r x q1 q2
    exact ⟨v, by simpa using r1, r2, r3.mono (and_kept w _ (Live X m s)) (fun b hl => (live_and h hid hl).imp_right fun e => by omega)⟩⟩
  refine h1.put dst ?_
  have q := VRel.rs (w := wand w (.cells vs.toArray ty)) (L := Live X (addM m id w.heap.size) (putB s id (.data sz rows))) (m := addM m id w.heap.size) id sz 0 rows.length cap w.heap.size vs.toArray ty (0, 0) (by simp [addM]) hc hmx (heap_new w _) (by simpa using hv)
  simpa using q

theorem setAt_men {p : Nat → Bool} {cs : List V} (hc : V.menL p cs = false) : ∀ {cells : List V} (o : Nat), V.menL p cells = false → V.menL p (setAt cells o cs) = false := by
  induction cs with
  | nil => intro cells o h; exact h
  | cons c r ih =>
    intro cells o h
    simp only [setAt]
    simp only [V.menL, Bool.or_eq_false_iff] at hc
    refine ih hc.2 _ (menL_of fun j x hj => ?_)
    rcases List.mem_or_eq_of_mem_set (List.mem_of_getElem? hj) with hx | rfl
    · obtain ⟨i, hi⟩ := List.getElem?_of_mem hx; exact menL_at h hi
    · exact hc.1
theorem fillV_men {p : Nat → Bool} {place : Nat → Option (Nat × Nat)} : ∀ {parts : List (Nat × V)} {cells out : List V}, V.menL p cells = false → (∀ x ∈ parts, x.2.men p = false) → fillV place cells parts = some out → V.menL p out = false := by
  intro parts
  induction parts with
  | nil => intro cells out h _ hf; cases hf; exact h
  | cons a r ih =>
    intro cells out h hp hf
    obtain ⟨i, x⟩ := a
    simp only [fillV] at hf
    split at hf
    · rename_i off n cs _ hcs
      split at hf
      · exact ih (setAt_men (men_cells (hp (i, x) (by simp)) hcs) _ h) (fun y hy => hp y (by simp [hy])) hf
      · cases hf
    · cases hf
/-- a made row of cells that may name blocks -/
theorem Rel.rows_made (h : Rel w0 L0 X m e s a w) {id : Nat} (h90 : 90 ≤ id) (hf : Fresh (· == id) e s) (hid : getB s id = none) {sz len : Nat} {cs : List V} {vs : List Value} {ty : TypeId} (hm : V.menL (· == id) cs = false) (ho : Ones vs) (hr : All2 (VRel w (Live X m s) m) cs vs) (hl : vs.length = len * sz) (hmx : len ≤ 9223372036854775807) (dst : Option Nat) :
    Rel w0 L0 X (addM m id w.heap.size) (Fw.put e dst (.rs id sz 0 len)) (putB s id (.vals cs)) (a.put dst (.slice (some ⟨w.heap.size, 0, none⟩) len len)) (wand w (.cells vs.toArray ty)) := by
  have h1 := h.made h90 hf hid (o := .cells vs.toArray ty) (blk := .vals cs) ⟨vs, [], ty, (0, 0), by rw [List.append_nil]; exact heap_new w _, free00 _, ho, ⟨hr.len, fun j x v q1 q2 => h.vrel_made hid (menL_at hm q1) (hr.at_ j x v q1 q2)⟩⟩
  refine h1.put dst ?_
  have q := VRel.rs (w := wand w (.cells vs.toArray ty)) (L := Live X (addM m id w.heap.size) (putB s id (.vals cs))) (m := addM m id w.heap.size) id sz 0 len len w.heap.size vs.toArray ty (0, 0) (by simp [addM]) (Nat.le_refl _) hmx (heap_new w _) (by simp [hl])
  simpa using q
theorem Rel.map_made (h : Rel w0 L0 X m e s a w) {id : Nat} (h90 : 90 ≤ id) (hf : Fresh (· == id) e s) (hid : getB s id = none) (dst : Option Nat) :
    Rel w0 L0 X (addM m id w.heap.size) (Fw.put e dst (.mp id)) (putB s id (.mp [] [])) (a.put dst (.map (some w.heap.size))) (wand w (.map #[] 0)) := by
  have h1 := h.made h90 hf hid (o := .map #[] 0) (blk := .mp [] []) ⟨#[], 0, heap_new w _, rfl, All2.nil⟩
  exact h1.put dst (.mp id _ (by simp [addM]))

theorem litsD_at {z : List Value} {j : Nat} {x : D} (h : (litsD z)[j]? = some x) : ∃ v, z[j]? = some v ∧ x = .lit v := by
  simp only [litsD, List.getElem?_map, Option.map_eq_some_iff] at h
  obtain ⟨v, h1, h2⟩ := h
  exact ⟨v, h1, h2.symm⟩
/-- WHAT MAKES A BLOCK. -/
theorem opA_run (h : Rel w0 L0 X m e s a w) {id : Nat} (h90 : 90 ≤ id) (hf : Fresh (· == id) e s) (hid : getB s id = none) {o : Oper} {c : Prop} {v : V} {blk : Blk} (hop : opA P o.op (look e) id = some (c, v, blk)) (hc : c) :
    ∃ q w', (execOp a.eval o).run P w = .ok (.value q) w' ∧ Rel w0 L0 X (addM m id w.heap.size) (put e o.dst v) (putB s id blk) (a.put o.dst q) w' := by
  have lift : ∀ {s : Sem Value} {q : Value} {w' : World}, s.run P w = .ok q w' → ((s >>= fun v => pure (.value v)) : Sem Next).run P w = .ok (.value q) w' := by
    intro s q w' hs
    rw [Sem.run_bind, hs]; rfl
  unfold opA at hop
  unfold execOp
  split at hop <;> rename_i heq <;> simp only [heq] <;> try (cases hop; done)
  · -- box
    rename_i t x
    split at hop
    · rename_i cs hcs
      cases hop
      obtain ⟨vs, e1, e2, e3⟩ := cells_rel (h.look x) hcs
      refine ⟨_, _, lift (q := .pointer (some ⟨w.heap.size, 0, none⟩)) (w' := wand w (.cells vs.toArray t)) ?_, h.vals_made h90 hf hid (men_cells (look_men hf.env x) hcs) e2 e3 o.dst⟩
      simp [Instr.box, newVar, newRow, e1]
    · cases hop
  · -- alloc
    rename_i t
    split at hop
    · rename_i z hz
      split at hop
      · rename_i h1
        cases hop
        obtain ⟨i, v, hi, hv, hcell, hl⟩ := zero_info hz
        refine ⟨_, _, lift (q := .pointer (some ⟨w.heap.size, 0, none⟩)) (w' := wand w (.cells z.toArray t)) ?_, h.vals_made h90 hf hid (lits_men _ _) (oneCells_ones h1) (lits_rel h1) o.dst⟩
        simp [Instr.alloc, zeroValue, typeInfo, hi, hv, newVar, newRow, hcell]
      · cases hop
    · cases hop
  · -- buildSlice
    rename_i t len parts
    split at hop
    · rename_i el hel
      split at hop
      · rename_i z hz
        split at hop
        · rename_i hcond
          obtain ⟨h1, h2, h3⟩ := hcond
          split at hop
          · rename_i cs hcs
            split at hop
            · rename_i ds hds
              cases hop
              obtain ⟨i, v, hi, hv, hcell, hl⟩ := zero_info hz
              have hones : Ones z := oneCells_ones h1
              have hflat1 : oneCells (List.replicate len z).flatten = true := by
                simp only [oneCells, List.all_eq_true] at h1 ⊢
                intro x hx
                simp only [List.mem_flatten, List.mem_replicate] at hx
                obtain ⟨l, ⟨_, rfl⟩, hx⟩ := hx
                exact h1 x hx
              have hflat : Ones (List.replicate len z).flatten := oneCells_ones hflat1
              obtain ⟨res, r1, r2, r3⟩ := fill_rel (w := w) (L := Live X m s) (m := m) (ps := (parts.map fun (i, x) => (i, a.eval x)).toList) (lits_rel hflat1) hflat (⟨by simp, fun j x y q1 q2 => by
                simp only [List.getElem?_map, Option.map_eq_some_iff] at q1
                obtain ⟨u, hu, rfl⟩ := q1
                simp only [Array.toList_map, List.getElem?_map, hu, Option.map_some, Option.some.injEq] at q2
                rw [← q2]; exact (show _ = _ ∧ VRel w _ m _ _ from ⟨rfl, h.look u.2⟩)⟩) hcs
              have r4 := toDs_rel hds r3
              have hlen : res.length = len * z.length := by
                have e1 := r3.len
                have e2 : cs.length = (lits (List.replicate len z).flatten).length := by
                  have : ∀ {place : Nat → Option (Nat × Nat)} {ps : List (Nat × V)} {c out : List V}, fillV place c ps = some out → out.length = c.length := by
                    intro place ps
                    induction ps with
                    | nil => intro c out h; cases h; rfl
                    | cons x r ih =>
                      intro c out h
                      obtain ⟨i, y⟩ := x
                      simp only [fillV] at h
                      split at h
                      · split at h
                        · rw [ih h]
                          have sl : ∀ (l : List V) (c : List V) (o : Nat), (setAt c o l).length = c.length := by
                            intro l
                            induction l with
                            | nil => intro c o; rfl
                            | cons x r ih => intro c o; simp [setAt, ih]
                          exact sl _ _ _
                        · cases h
                      · cases h
                  exact this hcs
                rw [e1, e2]
                simp [lits]
              have hsz : szOf P el = z.length := by simp [szOf, hi, hl]
              have key : ∀ (i j : Nat) (r : List D) (x : D), (chop z.length ds len)[i]? = some r → r[j]? = some x → i < len ∧ j < z.length ∧ ds[i * z.length + j]? = some x := by
                intro i j r x q1 q2
                have hi' : i < len := by have := (List.getElem?_eq_some_iff.1 q1).1; rwa [chop_len] at this
                rw [chop_at _ _ _ _ hi'] at q1
                cases q1
                rw [List.getElem?_take] at q2
                split at q2
                · rw [List.getElem?_drop] at q2; exact ⟨hi', by assumption, q2⟩
                · cases q2
              have hrl : ∀ r ∈ chop z.length ds len, r.length = z.length := by
                intro r hr
                obtain ⟨i, hi', rfl⟩ := List.getElem_of_mem hr
                have hlt : i < len := by rwa [chop_len] at hi'
                have e1 := chop_at z.length ds len i hlt
                rw [List.getElem?_eq_getElem hi'] at e1
                rw [Option.some.inj e1]
                have := r4.len
                rw [List.length_take, List.length_drop]
                have : (i + 1) * z.length ≤ len * z.length := Nat.mul_le_mul_right _ hlt
                rw [Nat.add_mul, Nat.one_mul] at this
                omega
              have hfin := h.data_made (ty := el) h90 hf hid (sz := z.length) (rows := chop z.length ds len) (vs := res) (cap := len) (by rw [chop_len]; exact Nat.le_refl _) (by rw [chop_len]; exact Nat.le_trans (Nat.le_mul_of_pos_right _ h2) (Nat.le_trans h3 (by omega))) (by rw [hlen]; exact Nat.le_refl _) hrl (fun i j r x q1 q2 => by
                obtain ⟨a1, a2, a3⟩ := key i j r x q1 q2
                obtain ⟨v, b1, b2⟩ := r4.get a3
                exact ⟨v, b1, r2 v (List.mem_of_getElem? b1), b2⟩) o.dst
              rw [chop_len] at hfin
              refine ⟨_, _, lift (q := .slice (some ⟨w.heap.size, 0, none⟩) len len) (w' := wand w (.cells res.toArray el)) ?_, hfin⟩
              have hz0 : z.length ≠ 0 := by omega
              have hrun : (sizeOf el).run P w = .ok z.length w := by rw [← hsz]; exact sz_run (by rw [hsz]; omega)
              by_cases hl0 : len * z.length = 0
              · have hlen0 : len = 0 := by
                  rcases Nat.mul_eq_zero.1 hl0 with h | h
                  · exact h
                  · omega
                subst hlen0
                simp only [Instr.buildSlice, Sem.run_bind, und_run (elem_und hel), Result.andThen_ok, hrun]
                have r1' : Instr.fill (fun i => some (i * z.length, z.length)) #[] (parts.toList.map fun (i, x) => (i, a.eval x)) = some res.toArray := by simpa using r1
                have e0 : ∀ f : Nat → Value, (Array.range (0 * z.length)).map f = #[] := fun f => by simp
                rw [if_neg (by simp)]
                simp only [if_pos hl0, Sem.run_bind, Sem.run_pure, Result.andThen_ok, e0]
                simp [r1', newRow]
              · simp only [Instr.buildSlice, Sem.run_bind, und_run (elem_und hel), Result.andThen_ok, hrun]
                rw [if_neg (by omega)]
                simp only [if_neg hl0, Sem.run_bind, zeroValue, info_run hi, hv, Result.andThen_ok, Sem.run_pure, hcell]
                have e1 : ((Array.range (len * z.length)).map (z.toArray[· % z.toArray.size]!)) = (List.replicate len z).flatten.toArray := by
                  rw [← range_zero z h2 len]
                have r1' : Instr.fill (fun i => some (i * z.length, z.length)) (List.replicate len z).flatten.toArray (parts.toList.map fun (i, x) => (i, a.eval x)) = some res.toArray := by simpa using r1
                rw [e1]
                simp [r1', newRow]
            · rename_i hds
              cases hop
              obtain ⟨i, v, hi, hv, hcell, hl⟩ := zero_info hz
              have hones : Ones z := oneCells_ones h1
              have hflat1 : oneCells (List.replicate len z).flatten = true := by
                simp only [oneCells, List.all_eq_true] at h1 ⊢
                intro x hx
                simp only [List.mem_flatten, List.mem_replicate] at hx
                obtain ⟨l, ⟨_, rfl⟩, hx⟩ := hx
                exact h1 x hx
              have hflat : Ones (List.replicate len z).flatten := oneCells_ones hflat1
              obtain ⟨res, r1, r2, r3⟩ := fill_rel (w := w) (L := Live X m s) (m := m) (ps := (parts.map fun (i, x) => (i, a.eval x)).toList) (lits_rel hflat1) hflat (⟨by simp, fun j x y q1 q2 => by
                simp only [List.getElem?_map, Option.map_eq_some_iff] at q1
                obtain ⟨u, hu, rfl⟩ := q1
                simp only [Array.toList_map, List.getElem?_map, hu, Option.map_some, Option.some.injEq] at q2
                rw [← q2]; exact (show _ = _ ∧ VRel w _ m _ _ from ⟨rfl, h.look u.2⟩)⟩) hcs
              have hlen : res.length = len * z.length := by
                have e1 := r3.len
                have e2 : cs.length = (lits (List.replicate len z).flatten).length := by
                  have : ∀ {place : Nat → Option (Nat × Nat)} {ps : List (Nat × V)} {c out : List V}, fillV place c ps = some out → out.length = c.length := by
                    intro place ps
                    induction ps with
                    | nil => intro c out h; cases h; rfl
                    | cons x r ih =>
                      intro c out h
                      obtain ⟨i, y⟩ := x
                      simp only [fillV] at h
                      split at h
                      · split at h
                        · rw [ih h]
                          have sl : ∀ (l : List V) (c : List V) (o : Nat), (setAt c o l).length = c.length := by
                            intro l
                            induction l with
                            | nil => intro c o; rfl
                            | cons x r ih => intro c o; simp [setAt, ih]
                          exact sl _ _ _
                        · cases h
                      · cases h
                  exact this hcs
                rw [e1, e2]
                simp [lits]
              have hsz : szOf P el = z.length := by simp [szOf, hi, hl]
              have hfm : V.menL (· == id) cs = false := by
                refine fillV_men (lits_men _ _) (fun x hx => ?_) hcs
                simp only [List.mem_map] at hx
                obtain ⟨u, _, rfl⟩ := hx
                exact look_men hf.env u.2
              have hfin := h.rows_made (ty := el) h90 hf hid (sz := z.length) (len := len) hfm r2 r3 hlen (Nat.le_trans (Nat.le_mul_of_pos_right _ h2) (Nat.le_trans h3 (by omega))) o.dst
              refine ⟨_, _, lift (q := .slice (some ⟨w.heap.size, 0, none⟩) len len) (w' := wand w (.cells res.toArray el)) ?_, hfin⟩
              have hz0 : z.length ≠ 0 := by omega
              have hrun : (sizeOf el).run P w = .ok z.length w := by rw [← hsz]; exact sz_run (by rw [hsz]; omega)
              by_cases hl0 : len * z.length = 0
              · have hlen0 : len = 0 := by
                  rcases Nat.mul_eq_zero.1 hl0 with h | h
                  · exact h
                  · omega
                subst hlen0
                simp only [Instr.buildSlice, Sem.run_bind, und_run (elem_und hel), Result.andThen_ok, hrun]
                have r1' : Instr.fill (fun i => some (i * z.length, z.length)) #[] (parts.toList.map fun (i, x) => (i, a.eval x)) = some res.toArray := by simpa using r1
                have e0 : ∀ f : Nat → Value, (Array.range (0 * z.length)).map f = #[] := fun f => by simp
                rw [if_neg (by simp)]
                simp only [if_pos hl0, Sem.run_bind, Sem.run_pure, Result.andThen_ok, e0]
                simp [r1', newRow]
              · simp only [Instr.buildSlice, Sem.run_bind, und_run (elem_und hel), Result.andThen_ok, hrun]
                rw [if_neg (by omega)]
                simp only [if_neg hl0, Sem.run_bind, zeroValue, info_run hi, hv, Result.andThen_ok, Sem.run_pure, hcell]
                have e1 : ((Array.range (len * z.length)).map (z.toArray[· % z.toArray.size]!)) = (List.replicate len z).flatten.toArray := by
                  rw [← range_zero z h2 len]
                have r1' : Instr.fill (fun i => some (i * z.length, z.length)) (List.replicate len z).flatten.toArray (parts.toList.map fun (i, x) => (i, a.eval x)) = some res.toArray := by simpa using r1
                rw [e1]
                simp [r1', newRow]
          · cases hop
        · cases hop
      · cases hop
    · cases hop
  · -- makeSlice
    rename_i t l cp
    split at hop
    · rename_i el hel
      split at hop
      · rename_i z kl n kc k hz hn hk
        split at hop
        · rename_i hcond
          obtain ⟨h1, h2⟩ := hcond
          cases hop
          obtain ⟨⟨n0, nk⟩, hb, hk64⟩ := hc
          obtain ⟨i, v, hi, hv, hcell, hl⟩ := zero_info hz
          have hones : Ones z := oneCells_ones h1
          have e1 := h.look l
          have e2 := h.look cp
          rw [hn] at e1
          rw [hk] at e2
          have e1 := e1.lit_inv
          have e2 := e2.lit_inv
          rw [e1, e2]
          have hsz : szOf P el = z.length := by simp [szOf, hi, hl]
          have hrun : (sizeOf el).run P w = .ok z.length w := by rw [← hsz]; exact sz_run (by rw [hsz]; omega)
          have hfin := h.data_made (ty := el) h90 hf hid (sz := z.length) (rows := List.replicate n.toNat (litsD z)) (vs := (List.replicate k.toNat z).flatten) (cap := k.toNat) (by simp; omega) (by rw [List.length_replicate]; omega) (by simp) (by simp [litsD]) (fun i j r x q1 q2 => by
            have hi' : i < n.toNat := by have := (List.getElem?_eq_some_iff.1 q1).1; simpa using this
            rw [List.getElem?_replicate, if_pos hi'] at q1
            cases q1
            obtain ⟨v, b1, rfl⟩ := litsD_at q2
            exact ⟨v, by rw [flat_at z _ _ _ (by omega) (List.getElem?_eq_some_iff.1 b1).1]; exact b1, hones v (List.mem_of_getElem? b1), .lit v (by simp only [oneCells, List.all_eq_true, Bool.and_eq_true] at h1; exact (h1 v (List.mem_of_getElem? b1)).2)⟩) o.dst
          rw [List.length_replicate] at hfin
          refine ⟨_, _, lift (q := .slice (some ⟨w.heap.size, 0, none⟩) n.toNat k.toNat) (w' := wand w (.cells (List.replicate k.toNat z).flatten.toArray el)) ?_, hfin⟩
          have wr : ∀ x : Int, 0 ≤ x → x ≤ 9223372036854775807 → IntKind.i64.wrap x = x := by
            intro x a b
            simp only [IntKind.wrap, IntKind.bits, IntKind.signed]
            have : x % (2 ^ 64 : Int) = x := Int.emod_eq_of_lt a (by omega)
            simp [this]; omega
          have hby : bytesOfT P el = i.bytes := by simp [bytesOfT, hi]
          rw [hby] at hb
          have t1 : ¬ (k < 0 ∨ (i.bytes : Int) * k > 2 ^ 48) := by omega
          simp only [Instr.makeSlice, Sem.run_bind, und_run (elem_und hel), Result.andThen_ok, asInt, asIntOf, Sem.run_pure, info_run hi, wr n n0 (by omega), wr k (by omega) hk64]
          have t2 : (decide (k < 0) || decide ((i.bytes : Int) * k > 2 ^ 48)) = false := by simpa using t1
          simp only [t2, Bool.false_or, show decide (n < 0) = false by simpa using n0, show decide (n > k) = false by simpa using nk, Bool.false_eq_true, if_false, Sem.run_bind, run_askRoom, Result.andThen_ok, hrun, Sem.run_pure]
          by_cases hk0 : k.toNat * z.length = 0
          · have hk1 : k.toNat = 0 := by
              rcases Nat.mul_eq_zero.1 hk0 with h | h
              · exact h
              · omega
            have e0 : ∀ f : Nat → Value, (Array.range (0 * z.length)).map f = #[] := fun f => by simp
            rw [hk1] at hk0 ⊢
            simp only [if_pos hk0, Sem.run_bind, Sem.run_pure, Result.andThen_ok, e0]
            simp [newRow]
          · rw [if_neg hk0]
            simp only [Sem.run_bind, zeroValue, info_run hi, hv, Result.andThen_ok, Sem.run_pure, hcell]
            have e1 : ((Array.range (k.toNat * z.length)).map (z.toArray[· % z.toArray.size]!)) = (List.replicate k.toNat z).flatten.toArray := by
              rw [← range_zero z h2 k.toNat]
            rw [e1]
            simp [newRow]
        · cases hop
      · cases hop
    · cases hop
  · -- makeMap
    cases hop
    refine ⟨_, _, lift (q := .map (some w.heap.size)) (w' := wand w (.map #[] 0)) ?_, h.map_made h90 hf hid o.dst⟩
    simp [Instr.makeMap, newObj, Sem.run]
end
end Go.Fw
