/- Reads. -/
import Derived.Test.YtihbejpkfifplaaFg
set_option linter.unusedVariables false
set_option linter.unusedSimpArgs false
namespace Go.Fw
variable {P : Program} {w : World} {L : Nat → Prop} {m : Nat → Option Nat}

theorem loadVar_run {t : TypeId} {b o off : Nat} {xs : List V} {vs : List Value} {r : V} (h : All2 (VRel w L m) xs vs) (ho : Ones vs) (hc : ∀ (j : Nat) (v : Value), vs[j]? = some v → w.cell? ⟨b, o + j, none⟩ = some v) (hl : loadV P t xs off = some r) :
    ∃ q, (loadVar t ⟨b, o + off, none⟩).run P w = .ok q w ∧ VRel w L m r q := by
  unfold loadV at hl
  split at hl
  · rename_i hg
    unfold partV at hl
    split at hl
    · rename_i hle
      have h1 := (h.drop off).take (szOf P t)
      have o1 : Ones ((vs.drop off).take (szOf P t)) := ho.sub fun v hv => List.mem_of_mem_drop (List.mem_of_mem_take hv)
      obtain ⟨h2, h3, -⟩ := one_rel h1 o1 hl
      refine ⟨_, ?_, h2⟩
      have hcs : (loadCells ⟨b, o + off, none⟩ ((vs.drop off).take (szOf P t)).length).run P w = .ok ((vs.drop off).take (szOf P t)).toArray w := by
        refine run_loadCells_list _ _ _ fun j v hj => ?_
        rw [add_none, Nat.add_assoc]
        rw [List.getElem?_take] at hj
        split at hj
        · rw [List.getElem?_drop] at hj; exact hc _ _ hj
        · cases hj
      rw [h3 rfl] at hcs
      by_cases hz : szOf P t = 0
      · simp only [loadVar, Sem.run_bind, agg_run hg, Result.andThen_ok, if_true]
        have hi : ∃ i, P.info? t = some i := by
          unfold aggOf Program.underlying at hg
          cases hi : P.info? t with
          | none => simp [hi] at hg
          | some i => exact ⟨i, rfl⟩
        obtain ⟨i, hi⟩ := hi
        have hs : (sizeOf t).run P w = .ok (szOf P t) w := by simp [sizeOf, typeInfo, hi, szOf]
        rw [hs, Result.andThen_ok, hcs]
        rfl
      · simp only [loadVar, Sem.run_bind, agg_run hg, Result.andThen_ok, if_true, sz_run hz, hcs, Sem.run_pure]
    · cases hl
  · rename_i hg
    obtain ⟨y, hy, hr⟩ := h.get hl
    refine ⟨y, ?_, hr⟩
    simp only [loadVar, Sem.run_bind, agg_run hg, Result.andThen_ok, Bool.false_eq_true, if_false, run_load, hc _ _ hy]
  · cases hl

theorem cell_of {b : Nat} {cs : Array Value} {ty : TypeId} {fr : Nat × Nat} (h : w.heap[b]? = some (Obj.cells cs ty fr)) (j : Nat) : w.cell? ⟨b, j, none⟩ = cs[j]? := by
  simp [World.cell?, h]

theorem DRel.rows {L' : Nat → Prop} {b off cap : Nat} {row : List D} {vals : Nat → Value} (ho : ∀ (j : Nat) (x : D), row[j]? = some x → (vals j).oneCell = true) (hr : ∀ (j : Nat) (x : D), row[j]? = some x → DRel w L' x (vals j)) :
    All2 (VRel w L' m) (row.map .d) ((List.range row.length).map vals) ∧ Ones ((List.range row.length).map vals) := by
  constructor
  · refine ⟨by simp, fun j x y h1 h2 => ?_⟩
    simp only [List.getElem?_map, Option.map_eq_some_iff] at h1 h2
    obtain ⟨z, hz, rfl⟩ := h1
    obtain ⟨i, hi, rfl⟩ := h2
    rw [List.getElem?_range (by have := (List.getElem?_eq_some_iff.1 hz).1; omega)] at hi
    cases hi
    exact .d (hr j z hz)
  · intro v hv
    simp only [List.mem_map, List.mem_range] at hv
    obtain ⟨j, hj, rfl⟩ := hv
    exact ho j _ (List.getElem?_eq_getElem hj)

theorem tkind1 {t : TypeId} (h : tkind P t = 1) : ∃ e, P.underlying t = some (.slice e) := by
  unfold tkind at h
  split at h <;> first | (cases h; done) | exact ⟨_, by assumption⟩
theorem tkind3 {t : TypeId} (h : tkind P t = 3) : ∃ k e, P.underlying t = some (.map k e) := by
  unfold tkind at h
  split at h <;> first | (cases h; done) | exact ⟨_, _, by assumption⟩
/-! maps -/
theorem mapT_und {t kt et : TypeId} (h : mapT P t = some (kt, et)) : P.underlying t = some (.map kt et) := by
  unfold mapT at h
  split at h
  · rename_i hu; cases h; exact hu
  · cases h
theorem keyD_und {k : TypeId} {d : TypeDesc} (h : keyD P k = some d) : P.underlying k = some d ∧ ((∃ q, d = .int q) ∨ d = .string ∨ d = .bool) := by
  unfold keyD at h
  split at h
  · rename_i q hu; cases h; exact ⟨hu, .inl ⟨q, rfl⟩⟩
  · rename_i hu; cases h; exact ⟨hu, .inr (.inl rfl)⟩
  · rename_i hu; cases h; exact ⟨hu, .inr (.inr rfl)⟩
  · cases h
theorem check_run {k : TypeId} {d : TypeDesc} (h : keyD P k = some d) (em : Bool) (v : Value) : (Instr.checkKey em 10000 k v).run P w = .ok () w := by
  obtain ⟨hu, hd⟩ := keyD_und h
  rw [show (10000 : Nat) = 9999 + 1 from rfl, Instr.checkKey]
  rcases hd with ⟨q, rfl⟩ | rfl | rfl <;> simp [und_run hu]
theorem zeroV_run {t : TypeId} {z : V} (h : zeroV P t = some z) : ∃ q, (zeroValue t).run P w = .ok q w ∧ VRel w L m z q := by
  unfold zeroV at h
  split at h
  · rename_i i hi
    split at h
    · rename_i cs hz
      split at h
      · rename_i ho
        cases h
        refine ⟨.agg cs, by simp [zeroValue, typeInfo, hi, hz], ?_⟩
        have := mkAg_rel (w := w) (L := L) (m := m) (oneCells_ones ho) (lits_rel ho)
        simpa using this
      · cases h
    · rename_i v hv hz
      split at h
      · rename_i ho
        cases h
        exact ⟨v, by simp [zeroValue, typeInfo, hi, hz], .d (.lit v ho)⟩
      · cases h
    · cases h
  · cases h
theorem findNow_eq {d : TypeDesc} {k : Value} : ∀ {es : List MapEntry} {i : Nat} {r : Option Nat}, findK d k (es.map (·.key)) i = some r →
    (r = none ∧ Instr.findNow d k es i = some none) ∨ ∃ j e, r = some (i + j) ∧ es[j]? = some e ∧ Instr.sameNow d k e.key = some true ∧ Instr.findNow d k es i = some (some (i + j, e.val)) := by
  intro es
  induction es with
  | nil => intro i r h; cases h; exact .inl ⟨rfl, rfl⟩
  | cons e es ih =>
    intro i r h
    simp only [List.map_cons, findK] at h
    cases hs : Instr.sameNow d k e.key with
    | none => rw [hs] at h; cases h
    | some b =>
      rw [hs] at h
      cases b with
      | true => cases h; exact .inr ⟨0, e, rfl, rfl, hs, by simp [Instr.findNow, hs]⟩
      | false =>
        rcases ih h with ⟨rfl, h1⟩ | ⟨j, e', rfl, h1, h2, h3⟩
        · exact .inl ⟨rfl, by simp [Instr.findNow, hs, h1]⟩
        · exact .inr ⟨j + 1, e', by congr 1; omega, by simpa using h1, h2, by simp only [Instr.findNow, hs, h3]; rw [show i + (j + 1) = i + 1 + j by omega]⟩
theorem lookV_run {X : Nat → Prop} {s : Store} (hs : SRel w X m s) {t : TypeId} {x k : V} {u kv : Value} {ok : Bool} {c : Prop} {r : V} (hx : VRel w (Live X m s) m x u) (hk : VRel w (Live X m s) m k kv) (h : lookV P t x k ok s = some (c, r)) :
    ∃ q, (Instr.lookup t u kv ok).run P w = .ok q w ∧ VRel w (Live X m s) m r q := by
  have fin : ∀ {v : V} {q : Value} {b : Bool}, VRel w (Live X m s) m v q → VRel w (Live X m s) m (lookR ok v b) (if ok then .tuple #[q, .bool b] else q) := by
    intro v q b hv
    unfold lookR
    cases ok with
    | true =>
      refine .tup _ [q, .bool b] rfl fun j x y h1 h2 => ?_
      match j with
      | 0 => simp at h1 h2; subst h1 h2; exact hv
      | 1 => simp at h1 h2; subst h1 h2; exact .int
      | j + 2 => simp at h1
    | false => exact hv
  unfold lookV at h
  split at h
  · rename_i kt et ht
    have hu := mapT_und ht
    split at h
    · rename_i d kv' z hd hz
      have := hk.lit_inv; subst this
      obtain ⟨hku, _⟩ := keyD_und hd
      obtain ⟨zq, hz1, hz2⟩ := zeroV_run (w := w) (L := Live X m s) (m := m) hz
      split at h
      · rename_i id
        split at h
        · rename_i ks vs hg
          cases hx with
          | mp _ b hm =>
            rcases hs.blk id _ hg with ⟨b', hm', es, cl, hh, rfl, hall⟩ | ⟨hn, _, hn'⟩
            · rw [hm] at hm'; cases hm'
              have hget : (getObj b).run P w = .ok (.map es cl) w := by simp [getObj, Sem.run, hh]
              split at h
              · rename_i i hf
                split at h
                · rename_i v hv
                  cases h
                  rcases findNow_eq hf with ⟨h1, _⟩ | ⟨j, e, h1, h2, h3, h4⟩
                  · cases h1
                  · simp only [Option.some.injEq, Nat.zero_add] at h1 h4
                    subst h1
                    have hev : VRel w (Live X m s) m v e.val := hall.at_ _ _ _ hv (by simp [h2])
                    refine ⟨_, ?_, fin (b := true) hev⟩
                    simp [Instr.lookup, und_run hu, hget, check_run hd, Instr.findKey, und_run hku, h4]
                · cases h
              · rename_i hf
                cases h
                rcases findNow_eq hf with ⟨_, h1⟩ | ⟨j, e, h1, _⟩
                · refine ⟨_, ?_, fin (b := false) hz2⟩
                  simp [Instr.lookup, und_run hu, hget, check_run hd, Instr.findKey, und_run hku, h1, hz1]
                · cases h1
              · cases h
            · cases hn'
        · cases h
      · cases h
        have := hx.lit_inv; subst this
        refine ⟨_, ?_, fin (b := false) hz2⟩
        simp [Instr.lookup, und_run hu, check_run hd, Instr.findKey, und_run hku, Instr.findNow, hz1]
      · cases h
    · cases h
  · cases h
/-- WHAT READS. -/
theorem opR_run {X : Nat → Prop} {s : Store} (hs : SRel w X m s) {ρ : Operand → V} {ρ' : Operand → Value} (hρ : ∀ x, VRel w (Live X m s) m (ρ x) (ρ' x)) {o : Oper} {c : Prop} {r : V} (h : opR P o.op ρ s = some (c, r)) (hk : cls o.op = .r) (hc : c) :
    ∃ q, (execOp ρ' o).run P w = .ok (.value q) w ∧ VRel w (Live X m s) m r q := by
  have lift : ∀ {s : Sem Value} {q : Value}, s.run P w = .ok q w → ((s >>= fun v => pure (.value v)) : Sem Next).run P w = .ok (.value q) w := by
    intro s q hs
    rw [Sem.run_bind, hs]; rfl
  unfold opR at h
  unfold execOp
  split at h <;> rename_i heq <;> simp only [heq] <;> try (cases h; done)
  · -- load
    rename_i t x
    have hx := hρ x
    generalize ρ' x = u at hx ⊢
    split at h
    · rename_i id sz rw_ cl hv
      rw [hv] at hx
      cases hx with
      | pt _ _ _ _ b hm =>
        split at h
        · rename_i cells hb
          rcases hs.blk id _ hb with ⟨b', hm', vs, ex, ty, fr, hh, hfr, hone, hall⟩ | ⟨hn, _⟩
          · rw [hm] at hm'; cases hm'
            split at h
            · rename_i v hv'
              cases h
              obtain ⟨q, h1, h2⟩ := loadVar_run (P := P) (b := b) (o := 0) hall hone (fun j v hj => by rw [cell_of hh, List.getElem?_toArray, Nat.zero_add, List.getElem?_append_left (List.getElem?_eq_some_iff.1 hj).1]; exact hj) hv'
              refine ⟨q, lift ?_, h2⟩
              simpa [Instr.loadAt, Instr.sureAddr] using h1
            · cases h
          · rw [hm] at hn; cases hn
        · rename_i n rows hb
          simp only [rowN] at h
          rcases hs.blk id _ hb with ⟨b', hm', cs, ty, fr, hh, hfr, hsz, hlen, hall⟩ | ⟨hn, _⟩
          · rw [hm] at hm'; cases hm'
            split at h
            · rename_i v hv'
              cases h
              obtain ⟨h0, rfl⟩ := hc
              have hrow : rows[rw_]? = some (rows.getD rw_ []) := by simp [List.getD_eq_getElem?_getD, List.getElem?_eq_getElem h0]
              have hq : ∀ (j : Nat) (x : D), (rows.getD rw_ [])[j]? = some x → ∃ v, cs[rw_ * n + j]? = some v ∧ v.oneCell = true ∧ DRel w (Live X m s) x v := fun j x hj => hall rw_ j _ x hrow hj
              have key := DRel.rows (w := w) (m := m) (L' := Live X m s) (b := b) (off := 0) (cap := 0) (row := rows.getD rw_ []) (vals := fun j => (cs[rw_ * n + j]?).getD undef)
                (fun j x hj => by obtain ⟨v, e, h1, h2⟩ := hq j x hj; rw [e]; exact h1) (fun j x hj => by obtain ⟨v, e, h1, h2⟩ := hq j x hj; rw [e]; exact h2)
              obtain ⟨q, h1, h2⟩ := loadVar_run (P := P) (b := b) (o := rw_ * n) key.1 key.2 (fun j v hj => by
                simp only [List.getElem?_map, Option.map_eq_some_iff] at hj
                obtain ⟨i, hi, rfl⟩ := hj
                have hlt := (List.getElem?_eq_some_iff.1 hi).1
                rw [List.length_range] at hlt
                rw [List.getElem?_range hlt] at hi
                cases hi
                obtain ⟨v, e, _, _⟩ := hq j _ (List.getElem?_eq_getElem hlt)
                rw [cell_of hh, e]; rfl) hv'
              refine ⟨q, lift ?_, h2⟩
              simpa [Instr.loadAt, Instr.sureAddr] using h1
            · cases h
          · rw [hm] at hn; cases hn
        · cases h
    · rename_i row cl hv
      rw [hv] at hx
      cases hx with
      | d hd =>
        cases hd with
        | ip _ b off _ vals hb hv' ho hr =>
          split at h
          · rename_i v hv2
            cases h
            have key := DRel.rows (w := w) (m := m) (L' := Live X m s) (b := b) (off := off) (cap := 0) ho hr
            obtain ⟨q, h1, h2⟩ := loadVar_run (P := P) (b := b) (o := off) key.1 key.2 (fun j v hj => by
              simp only [List.getElem?_map, Option.map_eq_some_iff] at hj
              obtain ⟨i, hi, rfl⟩ := hj
              have hlt := (List.getElem?_eq_some_iff.1 hi).1
              rw [List.length_range] at hlt
              rw [List.getElem?_range hlt] at hi
              cases hi
              exact hv' j _ (List.getElem?_eq_getElem hlt)) hv2
            refine ⟨q, lift ?_, h2⟩
            simpa [Instr.loadAt, Instr.sureAddr] using h1
          · cases h
    · cases h
  · -- len
    rename_i cl
    simp only [heq, cls] at hk
    split at h
    · rename_i x t hargs htys
      have ha : cl.args = #[x] := by rw [← Array.toArray_toList (xs := cl.args), hargs]
      have ht : cl.argTypes = #[t] := by rw [← Array.toArray_toList (xs := cl.argTypes), htys]
      split at hk
      · rename_i hcal
        split at h
        · -- of a map
          rename_i id hv
          split at h
          · rename_i ks vs hg
            split at h
            · rename_i hcond
              cases h
              have hx := hρ x
              rw [hv] at hx
              have hb : (Builtin.len_ #[t] o.type #[ρ' x]).run P w = .ok (.int .i64 ks.length) w := by
                generalize ρ' x = u at hx ⊢
                cases hx with
                | mp _ b hm =>
                  rcases hs.blk id _ hg with ⟨b', hm', es, cl, hh, hks, _⟩ | ⟨hn, _, hn'⟩
                  · rw [hm] at hm'; cases hm'
                    have hlen : es.size = ks.length := by rw [← hks]; simp
                    have : (getObj b).run P w = .ok (.map es cl) w := by simp [getObj, Sem.run, hh]
                    obtain ⟨kt, et, he⟩ := tkind3 hcond.1
                    simp [Builtin.len_, und_run he, this, goInt, hlen]
                  · cases hn'
              refine ⟨.int .i64 ks.length, ?_, .int (int_lit.mpr ⟨?_, ?_⟩)⟩
              · simpa only [resolve, hcal, ha, ht, invoke, builtin, pure_bind, List.map_toArray, List.map_cons, List.map_nil] using lift hb
              · simp only [IntKind.min, IntKind.signed, IntKind.bits, if_true, Nat.reduceSub, Int.reducePow, Int.reduceNeg]; omega
              · have := hcond.2
                simp only [IntKind.max, IntKind.signed, IntKind.bits, if_true, Nat.reduceSub, Int.reducePow, Int.reduceSub]; omega
            · cases h
          · cases h
        · split at h
          · rename_i y hnm n hn
            cases h
            have hx := hρ x
            have hrange : okLit (.int .i64 n) = true := by
              have : 0 ≤ n ∧ n ≤ 9223372036854775807 := by
                generalize ρ' x = u at hx
                unfold lenV at hn
                split at hn <;> try (cases hn; done)
                all_goals (rename_i hv; rw [hv] at hx)
                · split at hn
                  · cases hn
                    have := hx.lit_ok
                    simp only [okLit, decide_eq_true_eq] at this
                    omega
                  · cases hn
                · split at hn
                  · cases hn
                    cases hx with
                    | d hd =>
                      cases hd
                      · simp
                      · omega
                  · cases hn
                · split at hn
                  · cases hn; omega
                  · cases hn
                · split at hn
                  · cases hn
                    cases hx
                    · simp
                    · omega
                  · cases hn
              rw [int_lit]
              simp only [IntKind.min, IntKind.max, IntKind.signed, IntKind.bits, if_true, Nat.reduceSub, Int.reducePow, Int.reduceNeg, Int.reduceSub]
              omega
            refine ⟨.int .i64 n, ?_, .int hrange⟩
            have hb : (Builtin.len_ #[t] o.type #[ρ' x]).run P w = .ok (.int .i64 n) w := by
              generalize ρ' x = u at hx ⊢
              unfold lenV at hn
              split at hn <;> try (cases hn; done)
              all_goals (rename_i hv; rw [hv] at hx)
              · split at hn
                · rename_i hst
                  cases hn
                  have := hx.lit_inv; subst this
                  simp [Builtin.len_, und_run (str_und hst), goInt]
                · cases hn
              · split at hn
                · rename_i hst
                  obtain ⟨e, he⟩ := tkind1 hst
                  cases hn
                  cases hx with
                  | d hd => cases hd <;> simp [Builtin.len_, und_run he, goInt]
                · cases hn
              · split at hn
                · rename_i hst
                  obtain ⟨e, he⟩ := tkind1 hst
                  cases hn
                  have := hx.lit_inv; subst this
                  simp [Builtin.len_, und_run he, goInt]
                · cases hn
              · split at hn
                · rename_i hst
                  obtain ⟨e, he⟩ := tkind1 hst
                  cases hn
                  cases hx <;> simp [Builtin.len_, und_run he, goInt]
                · cases hn
            simpa only [resolve, hcal, ha, ht, invoke, builtin, pure_bind, List.map_toArray, List.map_cons, List.map_nil] using lift hb
          · cases h
      · rename_i hcal; cases hk
      · cases hk
      · cases hk
      · cases hk
    · cases h
  · -- lookup
    obtain ⟨q, h1, h2⟩ := lookV_run (P := P) hs (hρ _) (hρ _) h
    exact ⟨q, lift h1, h2⟩
end Go.Fw
