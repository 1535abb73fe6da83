/- Operations that hang on their operands alone, one by one. -/
import Derived.Test.YtihbejpkfifplaaFe
set_option linter.unusedVariables false
set_option linter.unusedSimpArgs false
namespace Go.Fw
variable {P : Program} {w : World} {L : Nat → Prop} {m : Nat → Option Nat}

theorem wrap_lit (k : IntKind) (n : Int) : okLit (.int k (k.wrap n)) = true := by
  cases k <;> simp only [okLit, IntKind.wrap, IntKind.min, IntKind.max, IntKind.bits, IntKind.signed, Bool.and_eq_true, decide_eq_true_eq, ge_iff_le, Bool.false_and, Bool.true_and, Bool.false_eq_true, if_false, if_true, Int.reducePow, Nat.reduceSub, Int.reduceNeg, Int.reduceSub] <;> (try split) <;> omega
theorem int_lit {k : IntKind} {n : Int} : okLit (.int k n) = true ↔ k.min ≤ n ∧ n ≤ k.max := by simp [okLit]
theorem min_nonpos (k : IntKind) : k.min ≤ 0 := by cases k <;> decide
theorem max_nonneg (k : IntKind) : 0 ≤ k.max := by cases k <;> decide
theorem min_neg {k : IntKind} (h : k.signed = true) : k.min ≤ -1 := by cases k <;> revert h <;> decide
theorem tmod_lit {k : IntKind} {a b : Int} (h : okLit (.int k a) = true) : okLit (.int k (a.tmod b)) = true := by
  rw [int_lit] at h ⊢
  have h1 := min_nonpos k
  have h2 := max_nonneg k
  have h3 : (a.tmod b).natAbs ≤ a.natAbs := by rw [Int.natAbs_tmod]; exact Nat.mod_le _ _
  rcases Int.le_total 0 a with h0 | h0
  · have := Int.tmod_nonneg b h0; omega
  · have := Int.tmod_nonneg b (show 0 ≤ -a by omega)
    rw [Int.neg_tmod] at this
    omega
theorem fdiv_lit {k : IntKind} {a : Int} (n : Nat) (h : okLit (.int k a) = true) : okLit (.int k (a.fdiv (2 ^ n))) = true := by
  rw [int_lit] at h ⊢
  have h1 := min_nonpos k
  have h2 := max_nonneg k
  have hp : (1 : Int) ≤ 2 ^ n := by
    have : (0 : Int) < 2 ^ n := Int.pow_pos (by omega)
    omega
  rw [Int.fdiv_eq_ediv_of_nonneg _ (by omega)]
  rcases Int.le_total 0 a with h0 | h0
  · have a1 := Int.ediv_le_self (2 ^ n : Int) h0
    have a2 := Int.ediv_nonneg h0 (show (0 : Int) ≤ 2 ^ n by omega)
    omega
  · have a1 : a ≤ a / 2 ^ n := by
      rw [Int.le_ediv_iff_mul_le (by omega)]
      have := Int.mul_le_mul_of_nonpos_left h0 hp
      omega
    have a2 : a / 2 ^ n ≤ 0 := by
      have := Int.ediv_le_ediv (show (0 : Int) < 2 ^ n by omega) h0
      simpa using this
    omega
theorem binI_lit {op : BinOp} {k : IntKind} {a b : Int} {c : Prop} {v : Value} (ha : okLit (.int k a) = true) (h : binI op k a b = some (c, v)) : okLit v = true := by
  cases op <;> simp only [binI, Option.some.injEq, Prod.mk.injEq, reduceCtorEq] at h <;> obtain ⟨rfl, rfl⟩ := h <;> first | rfl | exact wrap_lit _ _ | exact tmod_lit ha
theorem shiftI_lit {op : BinOp} {k : IntKind} {a b : Int} {c : Prop} {v : Value} (ha : okLit (.int k a) = true) (h : shiftI op k a b = some (c, v)) : okLit v = true := by
  cases op <;> simp only [shiftI, Option.some.injEq, Prod.mk.injEq, reduceCtorEq] at h <;> obtain ⟨rfl, rfl⟩ := h <;> first | rfl | exact wrap_lit _ _ | exact fdiv_lit _ ha
theorem binS_lit {op : BinOp} {x y : ByteArray} {c : Prop} {v : Value} (h : binS op x y = some (c, v)) (hc : c) : okLit v = true := by
  cases op <;> simp only [binS, Option.some.injEq, Prod.mk.injEq, reduceCtorEq] at h <;> obtain ⟨rfl, rfl⟩ := h <;> first | rfl | (simp only [okLit, ByteArray.size_append, decide_eq_true_eq]; omega)
theorem extract_lit {s : ByteArray} (l h : Nat) (hs : okLit (.string s) = true) : okLit (.string (s.extract l h)) = true := by
  simp only [okLit, decide_eq_true_eq, ByteArray.size_extract] at hs ⊢
  omega

theorem binV_run {op : BinOp} {t : TypeId} {x y : V} {u v : Value} {c : Prop} {r : V} (hx : VRel w L m x u) (hy : VRel w L m y v) (h : binV P op t x y = some (c, r)) (hc : c) (ox oy : Operand) :
    ∃ q, ((eqGuard op t ox oy u v) >>= fun _ => binOp op t u v).run P w = .ok q w ∧ VRel w L m r q := by
  unfold binV at h
  split at h
  · rename_i k a k' b
    have hl := hx.lit_ok; have := hx.lit_inv; subst this
    have := hy.lit_inv; subst this
    have g : (eqGuard op t ox oy (.int k a) (.int k' b)).run P w = .ok () w := guard_none (by simp) (by simp)
    rw [Sem.run_bind, g, Result.andThen_ok]
    split at h
    · cases hs : shiftI .shl k a b with
      | none => rw [hs] at h; cases h
      | some q => obtain ⟨c', v⟩ := q; rw [hs] at h; cases h; exact ⟨v, shiftI_run hs hc, .int (shiftI_lit hl hs)⟩
    · cases hs : shiftI .shr k a b with
      | none => rw [hs] at h; cases h
      | some q => obtain ⟨c', v⟩ := q; rw [hs] at h; cases h; exact ⟨v, shiftI_run hs hc, .int (shiftI_lit hl hs)⟩
    · rename_i h1 h2
      split at h
      · rename_i hk; subst hk
        cases hs : binI op k a b with
        | none => rw [hs] at h; cases h
        | some q => obtain ⟨c', v⟩ := q; rw [hs] at h; cases h; exact ⟨v, binI_run ⟨h1, h2⟩ hs hc, .int (binI_lit hl hs)⟩
      · cases h
  · rename_i a b
    have hl := hx.lit_ok; have := hx.lit_inv; subst this
    have := hy.lit_inv; subst this
    have g : (eqGuard op t ox oy (.bool a) (.bool b)).run P w = .ok () w := guard_none (by simp) (by simp)
    rw [Sem.run_bind, g, Result.andThen_ok]
    split at h
    · rename_i hb
      unfold boolT at hb
      split at hb
      · rename_i ht
        have e : (Op.equal t (.bool a) (.bool b)).run P w = .ok (a == b) w := by
          rw [eqd, Op.equalIn, Sem.run_bind, und_run ht, Result.andThen_ok]; simp
        split at h <;> cases h
        · exact ⟨.bool (a == b), by simp [binOp, e], .int⟩
        · exact ⟨.bool !(a == b), by simp [binOp, e], .int⟩
      · cases hb
    · cases h
  · rename_i a b
    have hl := hx.lit_ok; have := hx.lit_inv; subst this
    have := hy.lit_inv; subst this
    have g : (eqGuard op t ox oy (.string a) (.string b)).run P w = .ok () w := guard_none (by simp) (by simp)
    rw [Sem.run_bind, g, Result.andThen_ok]
    cases hs : binS op a b with
    | none => rw [hs] at h; cases h
    | some q => obtain ⟨c', v⟩ := q; rw [hs] at h; cases h; exact ⟨v, binS_run hs hc, .int (binS_lit hs hc)⟩
  · exact nilV_run hx hy h hc ox oy

theorem unV_run {op : UnOp} {x r : V} {u : Value} (hx : VRel w L m x u) (h : unV op x = some r) : ∃ q, (Op.unary op u).run P w = .ok q w ∧ VRel w L m r q := by
  unfold unV at h
  split at h <;> cases h
  · have := hx.lit_inv; subst this
    exact ⟨_, by simp [Op.unary, Op.intArith], .int (wrap_lit _ _)⟩
  · have := hx.lit_inv; subst this
    exact ⟨_, by simp [Op.unary], .int⟩

theorem elem_und {t e : TypeId} (h : elemOfT P t = some e) : P.underlying t = some (.slice e) := by
  unfold elemOfT at h
  split at h
  · rename_i hu; cases h; exact hu
  · cases h

theorem idxV_run {t e : TypeId} {x i r : V} {u v : Value} {c : Prop} (ht : elemOfT P t = some e) (hz : szOf P e ≠ 0) (hx : VRel w L m x u) (hi : VRel w L m i v) (h : idxV (szOf P e) x i = some (c, r)) (hc : c) :
    ∃ q, (Instr.indexAt t u v).run P w = .ok q w ∧ VRel w L m r q := by
  have hu := elem_und ht
  unfold idxV at h
  split at h
  · rename_i kk n
    have := hi.lit_inv; subst this
    split at h
    · rename_i nn rows
      cases h
      obtain ⟨h0, h1, h2⟩ := hc
      unfold rowAt at h2 ⊢
      have hlt : n.toNat < rows.length := by omega
      have hrow : rows[n.toNat]? = some (rows.getD n.toNat []) := by simp [List.getD_eq_getElem?_getD, List.getElem?_eq_getElem hlt]
      cases hx with
      | d hd =>
        cases hd with
        | slE nn A cap hn => simp at hlt
        | sl nn rows b off cap sz vals hb hc' hmx hz' hv ho hr =>
          have hsz : sz = szOf P e := by rw [← h2]; exact (hz' _ (List.mem_of_getElem? hrow)).symm
          refine ⟨.pointer (some ⟨b, off + n.toNat * sz + 0, none⟩), ?_, .d (.ip _ b (off + n.toNat * sz) 0 (vals n.toNat) (fun j y hy => hb _ _ _ _ hrow hy) (fun j y hy => hv _ _ _ _ hrow hy) (fun j y hy => ho _ _ _ _ hrow hy) (fun j y hy => hr _ _ _ _ hrow hy))⟩
          simp [Instr.indexAt, asIntOf, und_run hu, sz_run hz, add_none, h0, h1, hsz]
    · rename_i id sz off len
      split at h
      · rename_i hsz; subst hsz
        cases h
        obtain ⟨h0, h1⟩ := hc
        cases hx with
        | rsE id sz => omega
        | rs id sz off len cap b cs ty fr hm hc' hxl hh hs =>
          refine ⟨.pointer (some ⟨b, (off + n.toNat) * szOf P e + 0, none⟩), ?_, .pt id _ (off + n.toNat) 0 b hm⟩
          simp [Instr.indexAt, asIntOf, und_run hu, sz_run hz, add_none, h0, h1, Nat.add_mul]
      · cases h
    · cases h
  · cases h

theorem optInt_run {x : Option V} {u : Option Value} {o : Option Int} (h : optInt x = some o) (hx : match x, u with | none, none => True | some x, some u => VRel w L m x u | _, _ => False) : (o = none ∧ u = none) ∨ ∃ k n, o = some n ∧ u = some (.int k n) := by
  unfold optInt at h
  split at h
  · cases h
    cases u with
    | none => exact .inl ⟨rfl, rfl⟩
    | some u => exact hx.elim
  · rename_i k n
    cases h
    cases u with
    | none => exact hx.elim
    | some u => have := VRel.lit_inv hx; subst this; exact .inr ⟨k, n, rfl, rfl⟩
  · cases h

/-- a slice's bounds -/
theorem bounds_run {len cap : Nat} (hlc : len ≤ cap) {lo hi : Option Value} {l h : Nat} (hl : (lo = none ∧ l = 0) ∨ ∃ k n, lo = some (.int k n) ∧ 0 ≤ n ∧ n.toNat = l) (hh : (hi = none ∧ h = len) ∨ ∃ k n, hi = some (.int k n) ∧ 0 ≤ n ∧ n.toNat = h) (h1 : l ≤ h) (h2 : h ≤ cap) (isS : Bool) :
    (Instr.sliceBounds isS len cap lo hi none).run P w = .ok (l, h, cap) w := by
  have sb : ∀ (k : IntKind) (n : Int) (y : Nat) (code : BoundsCode), 0 ≤ n → n.toNat ≤ y → (Instr.sliceBound (.int k n) y code).run P w = .ok n.toNat w := by
    intro k n y code a b
    simp [Instr.sliceBound, asIntOf, a, show n ≤ (y : Int) by omega]
  rcases hl with ⟨rfl, rfl⟩ | ⟨k, n, rfl, a, rfl⟩ <;> rcases hh with ⟨rfl, rfl⟩ | ⟨k', n', rfl, a', rfl⟩
  · simp [Instr.sliceBounds]
  · simp [Instr.sliceBounds, sb _ _ _ _ a' h2]
  · simp [Instr.sliceBounds, sb _ _ _ _ a h1]
  · simp [Instr.sliceBounds, sb _ _ _ _ a' h2, sb _ _ _ _ a h1]
theorem slice_run {t e : TypeId} (ht : elemOfT P t = some e) (hz : szOf P e ≠ 0) {A : Option Addr} {len cap : Nat} (hlc : len ≤ cap) {lo hi : Option Value} {l h : Nat} (hl : (lo = none ∧ l = 0) ∨ ∃ k n, lo = some (.int k n) ∧ 0 ≤ n ∧ n.toNat = l) (hh : (hi = none ∧ h = len) ∨ ∃ k n, hi = some (.int k n) ∧ 0 ≤ n ∧ n.toNat = h) (h1 : l ≤ h) (h2 : h ≤ cap) :
    (Instr.sliceAt t (.slice A len cap) lo hi none).run P w = .ok (.slice (if cap = l then A else A.map (·.add (l * szOf P e))) (h - l) (cap - l)) w := by
  have hu := elem_und ht
  simp only [Instr.sliceAt, Sem.run_bind, und_run hu, Result.andThen_ok]
  simp only [Instr.slice, Sem.run_bind, und_run hu, Result.andThen_ok, bounds_run hlc hl hh h1 h2, sz_run hz, Sem.run_pure]

theorem str_und {t : TypeId} (h : strT P t = true) : P.underlying t = some .string := by
  unfold strT at h
  split at h
  · assumption
  · cases h
theorem sliceStr_run {t : TypeId} (ht : strT P t = true) {s : ByteArray} {lo hi : Option Value} {l h : Nat} (hl : (lo = none ∧ l = 0) ∨ ∃ k n, lo = some (.int k n) ∧ 0 ≤ n ∧ n.toNat = l) (hh : (hi = none ∧ h = s.size) ∨ ∃ k n, hi = some (.int k n) ∧ 0 ≤ n ∧ n.toNat = h) (h1 : l ≤ h) (h2 : h ≤ s.size) :
    (Instr.sliceAt t (.string s) lo hi none).run P w = .ok (.string (s.extract l h)) w := by
  have hu := str_und ht
  simp only [Instr.sliceAt, Sem.run_bind, und_run hu, Result.andThen_ok]
  simp only [Instr.slice, Sem.run_bind, und_run hu, Result.andThen_ok, bounds_run (Nat.le_refl _) hl hh h1 h2, Sem.run_pure, Option.isSome_none, Bool.false_eq_true, if_false, Sem.run_ite]

def optRel (w : World) (L : Nat → Prop) (m : Nat → Option Nat) : Option V → Option Value → Prop
  | none, none => True
  | some x, some u => VRel w L m x u
  | _, _ => False
theorem optInt_run' {x : Option V} {u : Option Value} {o : Option Int} (h : optInt x = some o) (hx : optRel w L m x u) : (o = none ∧ u = none) ∨ ∃ k n, o = some n ∧ u = some (.int k n) := by
  refine optInt_run (w := w) (L := L) (m := m) h ?_
  cases x <;> cases u <;> exact hx
theorem sliceS_run {t : TypeId} {x r : V} {u : Value} {lo hi mx : Option V} {lo' hi' mx' : Option Value} {c : Prop} (ht : strT P t = true) (hx : VRel w L m x u) (hlo : optRel w L m lo lo') (hhi : optRel w L m hi hi') (hmx : optRel w L m mx mx')
    (h : sliceS x lo hi mx = some (c, r)) (hc : c) : ∃ q, (Instr.sliceAt t u lo' hi' mx').run P w = .ok q w ∧ VRel w L m r q := by
  unfold sliceS at h
  split at h
  · rename_i lo1 hi1 e1 e2
    cases mx' with
    | some _ => exact hmx.elim
    | none =>
    split at h
    · rename_i s
      have hsl := hx.lit_ok; have := hx.lit_inv; subst this
      rcases optInt_run' e1 hlo with ⟨rfl, rfl⟩ | ⟨k, n, rfl, rfl⟩ <;> rcases optInt_run' e2 hhi with ⟨rfl, rfl⟩ | ⟨k', n', rfl, rfl⟩ <;> simp only [cutStr, Option.some.injEq, Prod.mk.injEq] at h <;> obtain ⟨rfl, rfl⟩ := h
      · exact ⟨_, sliceStr_run ht (.inl ⟨rfl, rfl⟩) (.inl ⟨rfl, rfl⟩) (Nat.zero_le _) (Nat.le_refl _), .int (extract_lit _ _ hsl)⟩
      · exact ⟨_, sliceStr_run ht (.inl ⟨rfl, rfl⟩) (.inr ⟨k', n', rfl, hc.1, rfl⟩) (Nat.zero_le _) (by omega), .int (extract_lit _ _ hsl)⟩
      · exact ⟨_, sliceStr_run ht (.inr ⟨k, n, rfl, hc.1, rfl⟩) (.inl ⟨rfl, rfl⟩) (by omega) (by omega), .int (extract_lit _ _ hsl)⟩
      · exact ⟨_, sliceStr_run ht (.inr ⟨k, n, rfl, hc.1.1, rfl⟩) (.inr ⟨k', n', rfl, by omega, rfl⟩) (by omega) (by omega), .int (extract_lit _ _ hsl)⟩
    · cases h
  · cases h
theorem sl_cut {rows : List (List D)} {nn : Bool} {A : Option Addr} {len cap z l h : Nat} (hx : VRel w L m (.d (.sl nn rows)) (.slice A len cap)) (hl : l ≤ h) (hh : h ≤ rows.length) (hz : l ≠ 0 → ∀ r ∈ rows, r.length = z) :
    len = rows.length ∧ len ≤ cap ∧ VRel w L m (.d (.sl false ((rows.take h).drop l))) (.slice (if cap = l then A else A.map (·.add (l * z))) (h - l) (cap - l)) := by
  cases hx with
  | d hd =>
    cases hd with
    | slE nn A cap hn =>
      refine ⟨rfl, Nat.zero_le _, ?_⟩
      simp at hh
      have e1 : h = 0 := hh
      have e2 : l = 0 := by omega
      subst e1; subst e2
      exact .d (.slE false _ _ (by simp))
    | sl nn rows b off cap sz vals hb hc' hmx hz' hv ho hr =>
      refine ⟨rfl, hc', ?_⟩
      by_cases he : l = h
      · subst he
        have e : (rows.take l).drop l = [] := by simp
        rw [e, Nat.sub_self]
        exact .d (.slE false _ _ (by simp))
      · have hne : cap ≠ l := by omega
        rw [if_neg hne]
        have hzz : l * z = l * sz := by
          by_cases h0 : l = 0
          · simp [h0]
          · have hr0 : rows[0]? = some (rows[0]'(by omega)) := by simp
            rw [← hz' _ (List.mem_of_getElem? hr0), hz h0 _ (List.mem_of_getElem? hr0)]
        have hlen : ((rows.take h).drop l).length = h - l := by simp; omega
        have key : ∀ (i j : Nat) (r : List D) (x : D), ((rows.take h).drop l)[i]? = some r → r[j]? = some x → rows[l + i]? = some r := by
          intro i j r x h1 h2
          rw [List.getElem?_drop, List.getElem?_take] at h1
          split at h1
          · exact h1
          · cases h1
        have q := VRel.d (m := m) (DRel.sl (w := w) (L := L) false ((rows.take h).drop l) b (off + l * sz) (cap - l) sz (fun i j => vals (l + i) j)
          (fun i j r x h1 h2 => hb _ j r x (key i j r x h1 h2) h2) (by rw [hlen]; omega) (by rw [hlen]; omega) (fun r hr' => hz' r (List.mem_of_mem_take (List.mem_of_mem_drop hr')))
          (fun i j r x h1 h2 => by
            have := hv _ j r x (key i j r x h1 h2) h2
            rw [Nat.add_mul, ← Nat.add_assoc] at this
            exact this)
          (fun i j r x h1 h2 => ho _ j r x (key i j r x h1 h2) h2) (fun i j r x h1 h2 => hr _ j r x (key i j r x h1 h2) h2))
        rw [hlen] at q
        simp only [Option.map_some, add_none, hzz]
        exact q
theorem sliceV_run {t e : TypeId} {x r : V} {u : Value} {lo hi mx : Option V} {lo' hi' mx' : Option Value} {c : Prop} (ht : elemOfT P t = some e) (hz : szOf P e ≠ 0) (hx : VRel w L m x u) (hlo : optRel w L m lo lo') (hhi : optRel w L m hi hi') (hmx : optRel w L m mx mx')
    (h : sliceV (szOf P e) x lo hi mx = some (c, r)) (hc : c) : ∃ q, (Instr.sliceAt t u lo' hi' mx').run P w = .ok q w ∧ VRel w L m r q := by
  unfold sliceV at h
  split at h
  · rename_i lo1 hi1 e1 e2
    cases mx' with
    | some _ => exact hmx.elim
    | none =>
    split at h
    · rename_i nn rows
      obtain ⟨A, len, cap, rfl⟩ : ∃ A len cap, u = .slice A len cap := by cases hx with | d hd => cases hd <;> exact ⟨_, _, _, rfl⟩
      have hlen : len = rows.length ∧ len ≤ cap := by cases hx with | d hd => cases hd <;> simp_all
      obtain ⟨rfl, hlc⟩ := hlen
      rcases optInt_run' e1 hlo with ⟨rfl, rfl⟩ | ⟨k, n, rfl, rfl⟩ <;> rcases optInt_run' e2 hhi with ⟨rfl, rfl⟩ | ⟨k', n', rfl, rfl⟩ <;> simp only [cutSl, Option.some.injEq, Prod.mk.injEq] at h <;> obtain ⟨rfl, rfl⟩ := h
      · refine ⟨_, slice_run ht hz hlc (.inl ⟨rfl, rfl⟩) (.inl ⟨rfl, rfl⟩) (Nat.zero_le _) hlc, ?_⟩
        have : (if cap = 0 then A else A.map (·.add (0 * szOf P e))) = A := by
          split
          · rfl
          · cases A with
            | none => rfl
            | some a => simp [Addr.add]
        rw [this]; exact hx
      · have q := (sl_cut (z := szOf P e) hx (Nat.zero_le _) (show n'.toNat ≤ rows.length by omega) (by simp)).2.2
        simp only [List.drop_zero] at q
        exact ⟨_, slice_run ht hz hlc (.inl ⟨rfl, rfl⟩) (.inr ⟨k', n', rfl, hc.1, rfl⟩) (Nat.zero_le _) (by omega), q⟩
      · have q := (sl_cut (z := szOf P e) (h := rows.length) hx (show n.toNat ≤ rows.length by omega) (Nat.le_refl _) (fun _ => hc.2)).2.2
        rw [List.take_length] at q
        exact ⟨_, slice_run ht hz hlc (.inr ⟨k, n, rfl, hc.1.1, rfl⟩) (.inl ⟨rfl, rfl⟩) (by omega) hlc, q⟩
      · have q := (sl_cut (z := szOf P e) (h := n'.toNat) (l := n.toNat) hx (by omega) (by omega) (fun _ => hc.2)).2.2
        exact ⟨_, slice_run ht hz hlc (.inr ⟨k, n, rfl, hc.1.1.1, rfl⟩) (.inr ⟨k', n', rfl, by omega, rfl⟩) (by omega) (by omega), q⟩
    · rename_i id sz off len
      split at h
      · rename_i hsz
        subst hsz
        -- a slice over a block
        have cut : ∀ (l h' : Nat) (A : Option Addr) (cap : Nat), u = .slice A len cap → len ≤ cap → l ≤ h' → h' ≤ len → VRel w L m (if l = h' then .d (.sl false []) else .rs id (szOf P e) (off + l) (h' - l)) (.slice (if cap = l then A else A.map (·.add (l * szOf P e))) (h' - l) (cap - l)) := by
          intro l h' A cap hu hlc h1 h2
          split
          · rename_i he; subst he; rw [Nat.sub_self]; exact .d (.slE false _ _ (by simp))
          · subst hu
            cases hx with
            | rsE id sz => omega
            | rs id sz off len cap b cs ty fr hm hc' hxl hh hs =>
              rw [if_neg (by omega)]
              simp only [Option.map_some, add_none]
              rw [show off * szOf P e + l * szOf P e = (off + l) * szOf P e by rw [Nat.add_mul]]
              exact .rs id _ (off + l) (h' - l) (cap - l) b cs ty fr hm (by omega) (by omega) hh (by rw [show off + l + (cap - l) = off + cap by omega]; exact hs)
        obtain ⟨A, cap, rfl, hlc⟩ : ∃ A cap, u = .slice A len cap ∧ len ≤ cap := by
          cases hx with
          | rsE => exact ⟨_, _, rfl, Nat.le_refl _⟩
          | rs => exact ⟨_, _, rfl, by assumption⟩
        rcases optInt_run' e1 hlo with ⟨rfl, rfl⟩ | ⟨k, n, rfl, rfl⟩ <;> rcases optInt_run' e2 hhi with ⟨rfl, rfl⟩ | ⟨k', n', rfl, rfl⟩ <;> simp only [cutRs, Option.some.injEq, Prod.mk.injEq] at h <;> obtain ⟨rfl, rfl⟩ := h
        · refine ⟨_, slice_run ht hz hlc (.inl ⟨rfl, rfl⟩) (.inl ⟨rfl, rfl⟩) (Nat.zero_le _) hlc, ?_⟩
          have : (if cap = 0 then A else A.map (·.add (0 * szOf P e))) = A := by
            split
            · rfl
            · cases A with
              | none => rfl
              | some a => simp [Addr.add]
          rw [this]; exact hx
        · have q := cut 0 n'.toNat A cap rfl hlc (Nat.zero_le _) (by omega)
          refine ⟨_, slice_run ht hz hlc (.inl ⟨rfl, rfl⟩) (.inr ⟨k', n', rfl, hc.1, rfl⟩) (Nat.zero_le _) (by omega), ?_⟩
          by_cases h0 : n' = 0
          · subst h0; simpa using q
          · rw [if_neg (by omega)] at q; rw [if_neg h0]; exact q
        · have q := cut n.toNat len A cap rfl hlc (by omega) (Nat.le_refl _)
          refine ⟨_, slice_run ht hz hlc (.inr ⟨k, n, rfl, hc.1, rfl⟩) (.inl ⟨rfl, rfl⟩) (by omega) hlc, ?_⟩
          by_cases h0 : n = (len : Int)
          · rw [if_pos (by omega)] at q; rw [if_pos h0]; exact q
          · rw [if_neg (by omega)] at q; rw [if_neg h0]; exact q
        · have q := cut n.toNat n'.toNat A cap rfl hlc (by omega) (by omega)
          refine ⟨_, slice_run ht hz hlc (.inr ⟨k, n, rfl, hc.1.1, rfl⟩) (.inr ⟨k', n', rfl, by omega, rfl⟩) (by omega) (by omega), ?_⟩
          by_cases h0 : n = n'
          · rw [if_pos (by omega)] at q; rw [if_pos h0]; exact q
          · rw [if_neg (by omega)] at q; rw [if_neg h0]; exact q
      · cases h
    · cases h
  · cases h
end Go.Fw
