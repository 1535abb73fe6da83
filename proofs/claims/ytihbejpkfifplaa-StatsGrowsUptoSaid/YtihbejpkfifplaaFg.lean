/- The rest of the operations that hang on their operands alone; all of them. -/
import Derived.Test.YtihbejpkfifplaaFf
set_option linter.unusedVariables false
set_option linter.unusedSimpArgs false
namespace Go.Fw
variable {P : Program} {w : World} {L : Nat → Prop} {m : Nat → Option Nat}

theorem convV_run {src dst : TypeId} {x r : V} {u : Value} (hx : VRel w L m x u) (h : convV P src dst x = some r) : ∃ q, (convert src dst u).run P w = .ok q w ∧ VRel w L m r q := by
  unfold convV at h
  split at h
  · have := hx.lit_inv; subst this
    have io : ∀ {t : TypeId} {k : IntKind}, intOf? P t = some k → P.underlying t = some (.int k) := by
      intro t k h
      unfold intOf? at h
      split at h
      · cases h; assumption
      · cases h
    split at h
    · rename_i k1 k2 h1 h2
      cases h
      refine ⟨_, ?_, .int (wrap_lit _ _)⟩
      simp [convert, und_run (io h1), und_run (io h2), Conv.intToInt]
    · cases h
  · cases h
theorem minmax_run {mx : Bool} {l : List V} {r : V} {us : List Value} (hl : All2 (VRel w L m) l us) (h : minmax mx l = some r) (ts : Array TypeId) (t : TypeId) : ∃ q, (if mx then Builtin.max_ ts t us.toArray else Builtin.min_ ts t us.toArray).run P w = .ok q w ∧ VRel w L m r q := by
  unfold minmax at h
  split at h
  · rename_i k a k' b
    split at h
    · rename_i hk; subst hk
      cases h
      obtain ⟨y, s, rfl, h1, h2⟩ := hl.head
      obtain ⟨y', s', rfl, h3, h4⟩ := h2.head
      have : s' = [] := by have := h4.len; simpa using this
      subst this
      have k1 := h1.lit_ok
      have k2 := h3.lit_ok
      have := h1.lit_inv; subst this
      have := h3.lit_inv; subst this
      cases mx
      · refine ⟨_, by simp [Builtin.min_, Builtin.min2], .int ?_⟩
        simp only [Bool.false_eq_true, if_false]; split <;> assumption
      · refine ⟨_, by simp [Builtin.max_, Builtin.max2], .int ?_⟩
        simp only [if_true]; split <;> assumption
    · cases h
  · cases h

theorem setAt_rel {α β : Type} {R : α → β → Prop} : True := trivial
/-- cells put at a place, as the model does it -/
theorem foldl_put (cs : List Value) : ∀ (off k : Nat) (arr : Array Value), (cs.zipIdx k).foldl (fun a (x : Value × Nat) => a.setIfInBounds (off + x.2) x.1) arr = (cs.zipIdx k).foldl (fun a (x : Value × Nat) => a.setIfInBounds (off + x.2) x.1) arr := fun _ _ _ => rfl
theorem fill_step {cells : List V} {arr : List Value} {cs : List V} {vs : List Value} (h : All2 (VRel w L m) cells arr) (hc : All2 (VRel w L m) cs vs) : ∀ (off k : Nat), All2 (VRel w L m) (setAt cells (off + k) cs) ((vs.zipIdx k).foldl (fun a (x : Value × Nat) => a.setIfInBounds (off + x.2) x.1) arr.toArray).toList := by
  induction cs generalizing cells arr vs with
  | nil =>
    intro off k
    have : vs = [] := by have := hc.len; simpa using this
    subst this
    simpa [setAt] using h
  | cons c r ih =>
    intro off k
    obtain ⟨y, s, rfl, h1, h2⟩ := hc.head
    simp only [setAt, List.zipIdx_cons, List.foldl_cons]
    have h3 : All2 (VRel w L m) (cells.set (off + k) c) (arr.set (off + k) y) := h.set _ h1
    have := ih h3 h2 off (k + 1)
    simpa [Nat.add_assoc] using this
theorem foldl_ones {vs : List Value} (hv : Ones vs) : ∀ (off k : Nat) {arr : List Value}, Ones arr → Ones ((vs.zipIdx k).foldl (fun a (x : Value × Nat) => a.setIfInBounds (off + x.2) x.1) arr.toArray).toList := by
  induction vs with
  | nil => intro off k arr h; simpa using h
  | cons v r ih =>
    intro off k arr h
    simp only [List.zipIdx_cons, List.foldl_cons]
    have h3 : Ones (arr.set (off + k) v) := by
      intro x hx
      rcases List.mem_or_eq_of_mem_set hx with hx | rfl
      · exact h x hx
      · exact hv _ (by simp)
    have := ih (fun x hx => hv x (by simp [hx])) off (k + 1) h3
    simpa using this
theorem fill_rel {place : Nat → Option (Nat × Nat)} : ∀ {parts : List (Nat × V)} {ps : List (Nat × Value)} {cells out : List V} {arr : List Value}, All2 (VRel w L m) cells arr → Ones arr →
    All2 (fun (a : Nat × V) (b : Nat × Value) => a.1 = b.1 ∧ VRel w L m a.2 b.2) parts ps → fillV place cells parts = some out → ∃ res : List Value, Instr.fill place arr.toArray ps = some res.toArray ∧ Ones res ∧ All2 (VRel w L m) out res := by
  intro parts
  induction parts with
  | nil =>
    intro ps cells out arr h ho hp hf
    have : ps = [] := by have := hp.len; simpa using this
    subst this
    cases hf
    exact ⟨arr, rfl, ho, h⟩
  | cons a r ih =>
    intro ps cells out arr h ho hp hf
    obtain ⟨y, s, rfl, h1, h2⟩ := hp.head
    obtain ⟨i, x⟩ := a
    obtain ⟨j, v⟩ := y
    obtain ⟨hij, hxv⟩ := h1
    simp only at hij hxv
    subst hij
    simp only [fillV] at hf
    cases hpl : place i with
    | none => simp [hpl] at hf
    | some q =>
      obtain ⟨off, n⟩ := q
      cases hcs : cellsOfV x with
      | none => simp [hpl, hcs] at hf
      | some cs =>
        simp only [hpl, hcs] at hf
        split at hf
        · rename_i hn
          obtain ⟨vs, e1, e2, e3⟩ := cells_rel hxv hcs
          have hsz : v.cells.size = n := by rw [e1]; simpa [e3.len] using hn.1
          have hst := fill_step h e3 off 0
          have hon := foldl_ones e2 off 0 ho
          simp only [Nat.add_zero] at hst
          obtain ⟨res, r1, r2, r3⟩ := ih hst hon h2 hf
          refine ⟨res, ?_, r2, r3⟩
          simp only [Instr.fill, hpl]
          have hle : ¬ (v.cells.size ≠ n ∨ off + v.cells.size > arr.toArray.size) := by
            have := h.len
            have := hn.2
            have := e3.len
            rw [e1] at hsz ⊢
            simp at hsz ⊢
            omega
          have hbool : (decide (v.cells.size ≠ n) || decide (off + v.cells.size > arr.toArray.size)) = false := by simpa using hle
          simp only [hbool, Bool.false_eq_true, if_false]
          rw [← r1, e1]
          congr 1
          simp only [Array.toArray_toList, ← Array.foldl_toList, Array.toList_zipIdx]
        · cases hf

theorem places_und {t : TypeId} {ps : List (Nat × Nat)} (h : placesT P t = some ps) : ∃ fs, P.underlying t = some (.struct fs) ∧ fs.toList.mapM (fun f => (P.info? f.type).map fun i => (f.offset, i.size)) = some ps := by
  unfold placesT at h
  split at h
  · exact ⟨_, by assumption, h⟩
  · cases h
theorem zero_info {t : TypeId} {z : List Value} (h : zeroOf P t = some z) : ∃ i v, P.info? t = some i ∧ i.zero = some v ∧ v.cells = z.toArray ∧ z.length = i.size := by
  unfold zeroOf at h
  split at h
  · rename_i i hi
    split at h
    · rename_i v hv
      split at h
      · rename_i hs
        cases h
        exact ⟨i, v, hi, hv, by simp, by simpa using hs⟩
      · cases h
    · cases h
  · cases h
theorem oneCells_ones {z : List Value} (h : oneCells z = true) : Ones z := fun v hv => by
  simp only [oneCells, List.all_eq_true, Bool.and_eq_true] at h
  exact (h v hv).1
theorem lits_rel {z : List Value} (hz : oneCells z = true) : All2 (VRel w L m) (lits z) z := ⟨by simp [lits], fun j x y h1 h2 => by
  simp only [lits, List.getElem?_map, h2, Option.map_some, Option.some.injEq] at h1
  simp only [oneCells, List.all_eq_true, Bool.and_eq_true] at hz
  rw [← h1]; exact .int (hz y (List.mem_of_getElem? h2)).2⟩
theorem build_run {t : TypeId} {ps : List (Nat × Nat)} {z : List Value} {parts : List (Nat × V)} {vs : Array (Nat × Value)} {out : List V} (hp : placesT P t = some ps) (hz : zeroOf P t = some z) (ho : oneCells z = true)
    (hr : All2 (fun (a : Nat × V) (b : Nat × Value) => a.1 = b.1 ∧ VRel w L m a.2 b.2) parts vs.toList) (h : fillV (fun i => ps[i]?) (lits z) parts = some out) : ∃ q, (Instr.build t vs).run P w = .ok q w ∧ VRel w L m (mkAg out) q := by
  obtain ⟨fs, hu, hm⟩ := places_und hp
  obtain ⟨i, v, hi, hv, hc, hl⟩ := zero_info hz
  obtain ⟨res, r1, r2, r3⟩ := fill_rel (lits_rel ho) (oneCells_ones ho) hr h
  refine ⟨.agg res.toArray, run_build w t vs res.toArray ?_, mkAg_rel r2 r3⟩
  unfold Program.built
  simp only [hi, hu, hv, hm, hc]
  simpa using r1
theorem fld_und {t : TypeId} {f off : Nat} {ft : TypeId} (h : fldOf P t f = some (off, ft)) : ∃ fs x, P.underlying t = some (.struct fs) ∧ fs[f]? = some x ∧ x.offset = off ∧ x.type = ft := by
  unfold fldOf at h
  split at h
  · rename_i fs hu
    split at h
    · rename_i x hx; cases h; exact ⟨fs, x, hu, hx, rfl, rfl⟩
    · cases h
  · cases h
theorem aggCells_rel {x : V} {v : Value} {cs : List V} (h : VRel w L m x v) (hc : aggCells x = some cs) : ∃ vs : List Value, v = .agg vs.toArray ∧ Ones vs ∧ All2 (VRel w L m) cs vs := by
  unfold aggCells at hc
  split at hc
  · cases hc; exact h.ag_inv
  · cases hc
    cases h with
    | d h =>
      obtain ⟨vs, e, ho, hr⟩ := h.ag_inv
      exact ⟨vs, e, ho, All2.of_map hr fun x y h => .d h⟩
  · cases hc
theorem Ones.sub {vs us : List Value} (h : Ones vs) (hs : ∀ v ∈ us, v ∈ vs) : Ones us := fun v hv => h v (hs v hv)
theorem part_run {ft : TypeId} {g : Bool} {off : Nat} {cs : List V} {vs : List Value} {r : V} (hg : aggOf P ft = some g) (hz : szOf P ft ≠ 0) (h : All2 (VRel w L m) cs vs) (ho : Ones vs) (hp : partV g (szOf P ft) off cs = some r) :
    ∃ q, (part ft vs.toArray off).run P w = .ok q w ∧ VRel w L m r q := by
  unfold partV at hp
  split at hp
  · rename_i hle
    have h1 := (h.drop off).take (szOf P ft)
    have o1 : Ones ((vs.drop off).take (szOf P ft)) := ho.sub fun v hv => List.mem_of_mem_drop (List.mem_of_mem_take hv)
    obtain ⟨h2, h3, h4⟩ := one_rel h1 o1 hp
    refine ⟨_, ?_, h2⟩
    cases g with
    | true =>
      simp only [part, Sem.run_bind, agg_run hg, Result.andThen_ok, if_true, sz_run hz, Sem.run_pure]
      congr 2
      simp [List.extract_eq_take_drop, List.take_drop]
    | false =>
      have hlt : off < vs.length := by have := h.len; omega
      simp only [part, Sem.run_bind, agg_run hg, Result.andThen_ok, Bool.false_eq_true, if_false]
      have e : vs.toArray[off]? = some vs[off] := by simp [hlt]
      rw [e]
      simp only [Sem.run_pure]
      congr 1
      have : (vs.drop off).take (szOf P ft) = vs[off] :: ((vs.drop (off + 1)).take (szOf P ft - 1)) := by
        rw [List.drop_eq_getElem_cons hlt]
        cases hn : szOf P ft with
        | zero => exact absurd hn hz
        | succ n => rw [List.take_succ_cons]; rfl
      rw [this]; rfl
  · cases hp

theorem All2.arr {R : V → Value → Prop} {ρ : Operand → V} {ρ' : Operand → Value} (hρ : ∀ x, R (ρ x) (ρ' x)) (xs : Array Operand) : All2 R (xs.toList.map ρ) (xs.map ρ').toList :=
  ⟨by simp, fun j x y h1 h2 => by
    simp only [List.getElem?_map, Option.map_eq_some_iff] at h1
    obtain ⟨z, hz, rfl⟩ := h1
    simp only [Array.toList_map, List.getElem?_map, hz, Option.map_some, Option.some.injEq] at h2
    rw [← h2]; exact hρ z⟩
theorem optRel_map {ρ : Operand → V} {ρ' : Operand → Value} (hρ : ∀ x, VRel w L m (ρ x) (ρ' x)) (x : Option Operand) : optRel w L m (x.map ρ) (x.map ρ') := by
  cases x with
  | none => trivial
  | some x => exact hρ x
/-- WHAT HANGS ON ITS OPERANDS ALONE. -/
theorem opP_run {ρ : Operand → V} {ρ' : Operand → Value} (hρ : ∀ x, VRel w L m (ρ x) (ρ' x)) {o : Oper} {c : Prop} {r : V} (h : opP P o.op ρ = some (c, r)) (hc : c) : ∃ q, (execOp ρ' o).run P w = .ok (.value q) w ∧ VRel w L m r q := by
  have lift : ∀ {s : Sem Value} {q : Value}, s.run P w = .ok q w → ((s >>= fun v => pure (.value v)) : Sem Next).run P w = .ok (.value q) w := by
    intro s q hs
    rw [Sem.run_bind, hs]; rfl
  unfold opP at h
  unfold execOp
  split at h <;> rename_i heq <;> simp only [heq] <;> try (cases h; done)
  · cases h; exact ⟨_, rfl, hρ _⟩
  · cases h; exact ⟨_, rfl, hρ _⟩
  · -- pick
    rename_i cc a b
    split at h
    · rename_i t ht
      cases h
      have h1 := hρ cc
      rw [ht] at h1
      have h2 := h1.lit_inv
      rw [h2]
      cases t
      · exact ⟨ρ' b, by simp [asBool], hρ b⟩
      · exact ⟨ρ' a, by simp [asBool], hρ a⟩
    · cases h
  · -- build
    rename_i t parts
    split at h
    · rename_i ps z hp hz
      split at h
      · rename_i hone
        split at h
        · rename_i cs hcs
          cases h
          obtain ⟨q, h1, h2⟩ := build_run (w := w) (L := L) (m := m) (vs := parts.map fun (i, x) => (i, ρ' x)) hp hz hone (All2.mono (S := fun (a : Nat × V) (b : Nat × Value) => a.1 = b.1 ∧ VRel w L m a.2 b.2) ⟨by simp, fun j x y a b => by
            simp only [List.getElem?_map, Option.map_eq_some_iff] at a
            obtain ⟨u, hu, rfl⟩ := a
            simp only [Array.toList_map, List.getElem?_map, hu, Option.map_some, Option.some.injEq] at b
            rw [← b]; exact (show _ = _ ∧ VRel w L m _ _ from ⟨rfl, hρ u.2⟩)⟩ fun _ _ h => h) hcs
          exact ⟨q, lift h1, h2⟩
        · cases h
      · cases h
    · cases h
  · -- nilCheck
    rename_i x
    have hx := hρ x
    generalize ρ' x = u at hx ⊢
    split at h <;> cases h <;> rename_i hv <;> rw [hv] at hx
    · cases hx with
      | pt id sz row col b hm => exact ⟨_, rfl, .pt _ _ _ _ _ hm⟩
    · cases hx with
      | d hd => cases hd with | ip row b off col vals hb hv' ho hr => exact ⟨_, rfl, .d (.ip _ b off _ vals hb hv' ho hr)⟩
    · cases hx with
      | fn f capt vs hl hr => exact ⟨_, rfl, .fn _ _ vs hl hr⟩
  · -- binOp
    rename_i op t x y t'
    obtain ⟨q, h1, h2⟩ := binV_run (hρ x) (hρ y) h hc x y
    exact ⟨q, lift h1, h2⟩
  · -- unOp
    rename_i op t x
    split at h
    · rename_i v hv
      cases h
      obtain ⟨q, h1, h2⟩ := unV_run (P := P) (hρ x) hv
      exact ⟨q, lift h1, h2⟩
    · cases h
  · -- makeFunc
    rename_i f first capt
    split at h
    · rename_i h0
      cases h
      have e : first = #[] := Array.eq_empty_of_size_eq_zero h0
      subst e
      have hl := All2.arr hρ capt
      have q := VRel.fn f _ _ hl.len hl.at_
      refine ⟨.func (.func f) #[] (capt.map ρ'), by simp [Instr.makeFunc], ?_⟩
      have e : (capt.map ρ').toList.toArray = capt.map ρ' := Array.toArray_toList
      exact e ▸ q
    · cases h
  · -- slice
    rename_i t x lo hi mx
    split at h
    · rename_i e he
      split at h
      · cases h
      · rename_i hz
        obtain ⟨q, h1, h2⟩ := sliceV_run he hz (hρ x) (optRel_map hρ lo) (optRel_map hρ hi) (optRel_map hρ mx) h hc
        exact ⟨q, lift h1, h2⟩
    · split at h
      · rename_i hs
        obtain ⟨q, h1, h2⟩ := sliceS_run hs (hρ x) (optRel_map hρ lo) (optRel_map hρ hi) (optRel_map hρ mx) h hc
        exact ⟨q, lift h1, h2⟩
      · cases h
  · -- fieldAddr
    rename_i t x f
    split at h
    · rename_i off ft hf
      obtain ⟨fs, fx, hu, hfx, rfl, rfl⟩ := fld_und hf
      split at h
      · cases h
      · rename_i hz
        have hx := hρ x
        have run : ∀ a : Addr, (Instr.fieldAt t (.pointer (some a)) f).run P w = .ok (.pointer (some (a.add fx.offset))) w := by
          intro a
          simp [Instr.fieldAt, und_run hu, hfx, Instr.sureAddr, fieldPlace, sz_run hz, hz]
        generalize ρ' x = u at hx ⊢
        split at h <;> cases h <;> rename_i hv <;> rw [hv] at hx
        · cases hx with
          | pt id sz row col b hm =>
            refine ⟨_, lift (run _), ?_⟩
            rw [add_none, Nat.add_assoc]
            exact .pt _ _ _ _ b hm
        · cases hx with
          | d hd =>
            cases hd with
            | ip row b off col vals hb hv' ho hr =>
              refine ⟨_, lift (run _), ?_⟩
              rw [add_none, Nat.add_assoc]
              exact .d (.ip _ b off _ vals hb hv' ho hr)
    · cases h
  · -- field
    rename_i t x f
    split at h
    · rename_i off ft cs hf hcs
      obtain ⟨fs, fx, hu, hfx, rfl, rfl⟩ := fld_und hf
      split at h
      · rename_i g hg
        split at h
        · cases h
        · rename_i hz
          split at h
          · rename_i v hv
            cases h
            obtain ⟨vs, e, ho, hr⟩ := aggCells_rel (hρ x) hcs
            obtain ⟨q, h1, h2⟩ := part_run hg hz hr ho hv
            refine ⟨q, lift ?_, h2⟩
            rw [e]
            simp [Instr.field, und_run hu, hfx, asAgg, h1]
          · cases h
      · cases h
    · cases h
  · -- indexAddr
    rename_i t x i
    split at h
    · rename_i e he
      split at h
      · cases h
      · rename_i hz
        obtain ⟨q, h1, h2⟩ := idxV_run he hz (hρ x) (hρ i) h hc
        exact ⟨q, lift h1, h2⟩
    · cases h
  · -- index
    rename_i t x i
    split at h
    · rename_i hs
      split at h
      · rename_i s k n e1 e2
        cases h
        have h1 := hρ x
        have h2 := hρ i
        rw [e1] at h1
        rw [e2] at h2
        have h1 := h1.lit_inv
        have h2 := h2.lit_inv
        rw [h1, h2]
        refine ⟨_, lift ?_, .int (int_lit.mpr ⟨Int.natCast_nonneg _, by
          have := (s.data.toList.getD n.toNat 0).toNat_lt
          simp only [IntKind.max, IntKind.signed, IntKind.bits, Bool.false_eq_true, if_false, Int.reducePow, Int.reduceSub]
          omega⟩)⟩
        have hlt : n.toNat < s.size := by omega
        have e3 : s[n.toNat]? = some (s.data.toList.getD n.toNat 0) := by
          rw [List.getD_eq_getElem?_getD]
          have : s.data.toList[n.toNat]? = some (s[n.toNat]) := by
            rw [Array.getElem?_toList]
            exact Array.getElem?_eq_getElem (xs := s.data) hlt
          rw [this]
          simp [hlt]
        simp [Instr.index, asIntOf, und_run (str_und hs), hc.1, e3]
      · cases h
    · cases h
  · -- extract
    rename_i t i
    split at h
    · rename_i vs hv
      split at h
      · rename_i v hi
        cases h
        have h1 := hρ t
        rw [hv] at h1
        generalize ρ' t = u at h1 ⊢
        cases h1 with
        | tup cells us hl hr =>
          obtain ⟨y, hy, hxy⟩ := (All2.mk hl hr).get hi
          refine ⟨y, lift ?_, hxy⟩
          have : us.toArray[i]? = some y := by simpa using hy
          simp only [Instr.extract, this, Sem.run_pure]
      · cases h
    · cases h
  · -- convert
    rename_i src dst x
    split at h
    · rename_i v hv
      cases h
      obtain ⟨q, h1, h2⟩ := convV_run (P := P) (hρ x) hv
      exact ⟨q, lift h1, h2⟩
    · cases h
  · -- max, min
    rename_i cl
    split at h
    · rename_i hcal
      split at h
      · rename_i v hv
        cases h
        obtain ⟨q, h1, h2⟩ := minmax_run (P := P) (All2.arr hρ cl.args) hv cl.argTypes o.type
        rw [Array.toArray_toList] at h1
        exact ⟨q, by simpa only [resolve, hcal, invoke, builtin, pure_bind] using lift (by simpa using h1), h2⟩
      · cases h
    · rename_i hcal
      split at h
      · rename_i v hv
        cases h
        obtain ⟨q, h1, h2⟩ := minmax_run (P := P) (All2.arr hρ cl.args) hv cl.argTypes o.type
        rw [Array.toArray_toList] at h1
        exact ⟨q, by simpa only [resolve, hcal, invoke, builtin, pure_bind] using lift (by simpa using h1), h2⟩
      · cases h
    · cases h
end Go.Fw
