/- Operations that hang on their operands alone: what the model makes of them is what is described. -/
import Derived.Test.YtihbejpkfifplaaFd
import Derived.Laws.Build
import Derived.Laws.Strings
import Derived.Laws.Strings2
import Derived.Laws.Strings3
set_option linter.unusedVariables false
set_option linter.unusedSimpArgs false
namespace Go.Fw
variable {P : Program} {w : World} {L : Nat → Prop} {m : Nat → Option Nat}

theorem und_run {t : TypeId} {d : TypeDesc} (h : P.underlying t = some d) : (underlying t).run P w = .ok d w := by simp [underlying, h]
theorem info_run {t : TypeId} {i : TypeInfo} (h : P.info? t = some i) : (typeInfo t).run P w = .ok i w := by simp [typeInfo, h]
theorem sz_run {t : TypeId} (h : szOf P t ≠ 0) : (sizeOf t).run P w = .ok (szOf P t) w := by
  unfold szOf at h ⊢
  cases hi : P.info? t with
  | none => simp [hi] at h
  | some i => simp [sizeOf, typeInfo, hi]
theorem agg_run {t : TypeId} {b : Bool} (h : aggOf P t = some b) : (isAgg t).run P w = .ok b w := by
  unfold aggOf at h
  split at h
  · rename_i fs hu; cases h; simp [isAgg, und_run hu]
  · rename_i n e hu; cases h; simp [isAgg, und_run hu]
  · rename_i d h1 h2 hu
    cases h
    simp only [isAgg, Sem.run_bind, und_run hu, Result.andThen_ok]
    rfl
  · cases h

theorem add_none (b o n : Nat) : (⟨b, o, none⟩ : Addr).add n = ⟨b, o + n, none⟩ := by
  unfold Addr.add; split
  · subst_vars; rfl
  · rfl

theorem binI_run {op : BinOp} {k : IntKind} {a b : Int} {t : TypeId} {c : Prop} {v : Value} (hsh : op ≠ .shl ∧ op ≠ .shr) (h : binI op k a b = some (c, v)) (hc : c) : (binOp op t (.int k a) (.int k b)).run P w = .ok v w := by
  cases op <;> simp only [binI, Option.some.injEq, Prod.mk.injEq, reduceCtorEq] at h <;> obtain ⟨rfl, rfl⟩ := h <;> simp_all [binOp, Op.intArith, Op.intDiv, Op.intBits, Op.intCmp, bits2]
theorem shiftI_run {op : BinOp} {k k' : IntKind} {a b : Int} {t : TypeId} {c : Prop} {v : Value} (h : shiftI op k a b = some (c, v)) (hc : c) : (binOp op t (.int k a) (.int k' b)).run P w = .ok v w := by
  cases op <;> simp only [shiftI, Option.some.injEq, Prod.mk.injEq, reduceCtorEq] at h <;> obtain ⟨rfl, rfl⟩ := h <;> simp [binOp, Op.shift, show ¬ b < 0 by omega]
theorem binS_run {op : BinOp} {x y : ByteArray} {t : TypeId} {c : Prop} {v : Value} (h : binS op x y = some (c, v)) (hc : c) : (binOp op t (.string x) (.string y)).run P w = .ok v w := by
  have e : IntKind.i64.max = 9223372036854775807 := by decide
  cases op <;> simp only [binS, Option.some.injEq, Prod.mk.injEq, reduceCtorEq] at h <;> obtain ⟨rfl, rfl⟩ := h <;> simp_all [binOp, Op.stringOp] <;> omega
theorem guard_none {op : BinOp} {t : TypeId} {x y : Operand} {a b : Value} (h1 : ¬ (a = .nilIface ∧ b = .nilIface)) (h2 : ∀ cs ds, ¬ (a = .agg cs ∧ b = .agg ds)) : (eqGuard op t x y a b).run P w = .ok () w := by
  unfold eqGuard
  cases op <;> simp only [Bool.not_false, Bool.not_true, if_true, Sem.run_ite, Sem.run_pure, Sem.run_bind, Result.andThen_ok, Bool.false_eq_true, if_false] <;> try rfl
  all_goals cases a <;> cases b <;> first | rfl | exact absurd ⟨rfl, rfl⟩ h1 | exact absurd ⟨rfl, rfl⟩ (h2 _ _)

/-! against nil -/
theorem isNil_run {x : V} {v : Value} {c : Prop} {b : Bool} (hx : VRel w L m x v) (h : isNil x = some (c, b)) (hc : c) :
    (∃ A n k, v = .slice A n k ∧ A.isNone = b) ∨ (∃ a, v = .pointer a ∧ a.isNone = b) ∨ (∃ r, v = .map r ∧ r.isNone = b) ∨ (v = .nilFunc ∧ b = true) ∨ (∃ f a k, v = .func f a k ∧ b = false) := by
  cases hx with
  | top v => simp [isNil] at h
  | d hd =>
    cases hd with
    | lit v =>
      unfold isNil at h
      split at h <;> try (cases h; done)
      all_goals (rename_i e; cases e <;> (simp only [Option.some.injEq, Prod.mk.injEq] at h; obtain ⟨-, rfl⟩ := h))
      · exact .inl ⟨_, _, _, rfl, rfl⟩
      · exact .inr (.inl ⟨_, rfl, rfl⟩)
      · exact .inr (.inr (.inl ⟨_, rfl, rfl⟩))
      · exact .inr (.inr (.inr (.inl ⟨rfl, rfl⟩)))
    | slE nn A cap hn =>
      cases nn
      · simp only [isNil, Option.some.injEq, Prod.mk.injEq] at h; rw [← h.1] at hc; simp at hc
      · simp only [isNil, Option.some.injEq, Prod.mk.injEq] at h
        refine .inl ⟨_, _, _, rfl, ?_⟩
        rw [← h.2]
        cases A
        · simp at hn
        · rfl
    | sl nn rows b' off cap sz vals hb hc' hmx hz hv ho hr =>
      refine .inl ⟨_, _, _, rfl, ?_⟩
      cases nn <;> simp only [isNil, Option.some.injEq, Prod.mk.injEq] at h <;> exact h.2
    | ip row b' off col vals hb hv ho hr => simp only [isNil, Option.some.injEq, Prod.mk.injEq] at h; exact .inr (.inl ⟨_, rfl, h.2⟩)
    | ag cells vs hl ho hr => simp [isNil] at h
  | rsE id sz => simp only [isNil, Option.some.injEq, Prod.mk.injEq] at h; rw [← h.1] at hc; simp at hc
  | rs id sz off len cap b' cs ty fr hm hc' hxl hh hs => simp only [isNil, Option.some.injEq, Prod.mk.injEq] at h; exact .inl ⟨_, _, _, rfl, h.2⟩
  | pt id sz row col b' hm => simp only [isNil, Option.some.injEq, Prod.mk.injEq] at h; exact .inr (.inl ⟨_, rfl, h.2⟩)
  | mp id b' hm => simp only [isNil, Option.some.injEq, Prod.mk.injEq] at h; exact .inr (.inr (.inl ⟨_, rfl, h.2⟩))
  | fn f capt vs hl hr => simp only [isNil, Option.some.injEq, Prod.mk.injEq] at h; exact .inr (.inr (.inr (.inr ⟨_, _, _, rfl, h.2.symm⟩)))
  | ag cells vs hl ho hr => simp [isNil] at h
  | tup cells vs hl hr => simp [isNil] at h
theorem nilLit_run {x : V} {v : Value} (hx : VRel w L m x v) (h : nilLit x = true) : (∃ n k, v = .slice none n k) ∨ v = .pointer none ∨ v = .map none ∨ v = .nilFunc := by
  unfold nilLit at h
  split at h <;> first | (cases h; done) | (cases hx with | d hd => cases hd; simp)

theorem vk_sh {t : TypeId} {x : V} {u : Value} (hx : VRel w L m x u) (he : vkind x = tkind P t) : (∃ e, P.underlying t = some (.slice e) ∧ ∃ A n k, u = .slice A n k) ∨ (∃ e, P.underlying t = some (.pointer e) ∧ ∃ A, u = .pointer A) ∨ (∃ k e, P.underlying t = some (.map k e) ∧ ∃ A, u = .map A) ∨ (∃ ps rs v, P.underlying t = some (.func ps rs v) ∧ (u = .nilFunc ∨ ∃ f a k, u = .func f a k)) := by
  unfold tkind at he
  cases hx with
  | top v => simp only [vkind] at he; split at he <;> simp at he
  | d hd =>
    cases hd with
    | lit _ => cases u <;> simp only [vkind] at he <;> split at he <;> simp_all
    | slE nn A cap hn => simp only [vkind] at he; split at he <;> simp_all
    | sl nn rows b' off cap sz vals hb hc' hmx hz hv ho hr => simp only [vkind] at he; split at he <;> simp_all
    | ip row b' off col vals hb hv ho hr => simp only [vkind] at he; split at he <;> simp_all
    | ag cells vs hl ho hr => simp only [vkind] at he; split at he <;> simp_all
  | rsE id sz => simp only [vkind] at he; split at he <;> simp_all
  | rs id sz off len cap b' cs ty fr hm hc' hxl hh hs => simp only [vkind] at he; split at he <;> simp_all
  | pt id sz row col b' hm => simp only [vkind] at he; split at he <;> simp_all
  | mp id b' hm => simp only [vkind] at he; split at he <;> simp_all
  | fn f capt vs hl hr => simp only [vkind] at he; split at he <;> simp_all
  | ag cells vs hl ho hr => simp only [vkind] at he; split at he <;> simp_all
  | tup cells vs hl hr => simp only [vkind] at he; split at he <;> simp_all
theorem eqNil_run {op : BinOp} {t : TypeId} {u v : Value} {c c' : Prop} {b : Bool} {r : V} (heq : (Op.equal t u v).run P w = .ok b w) (hs : (∃ A n k, u = .slice A n k) ∨ (∃ A, u = .pointer A) ∨ (∃ A, u = .map A) ∨ u = .nilFunc ∨ ∃ f a k, u = .func f a k)
    (hv : (∃ A n k, v = .slice A n k) ∨ (∃ A, v = .pointer A) ∨ (∃ A, v = .map A) ∨ v = .nilFunc ∨ ∃ f a k, v = .func f a k)
    (h : eqNil op c' b = some (c, r)) (ox oy : Operand) : ∃ q, ((eqGuard op t ox oy u v) >>= fun _ => binOp op t u v).run P w = .ok q w ∧ VRel w L m r q := by
  have g : (eqGuard op t ox oy u v).run P w = .ok () w := guard_none (by rcases hs with ⟨A, n, k, rfl⟩ | ⟨A, rfl⟩ | ⟨A, rfl⟩ | rfl | ⟨f, a, k, rfl⟩ <;> simp) (by rcases hs with ⟨A, n, k, rfl⟩ | ⟨A, rfl⟩ | ⟨A, rfl⟩ | rfl | ⟨f, a, k, rfl⟩ <;> simp)
  rw [Sem.run_bind, g, Result.andThen_ok]
  cases op <;> simp only [eqNil, Option.some.injEq, Prod.mk.injEq, reduceCtorEq] at h <;> obtain ⟨-, rfl⟩ := h
  · refine ⟨_, ?_, .int⟩
    rcases hs with ⟨A, n, k, rfl⟩ | ⟨A, rfl⟩ | ⟨A, rfl⟩ | rfl | ⟨f, a, k, rfl⟩ <;> rcases hv with ⟨A', n', k', rfl⟩ | ⟨A', rfl⟩ | ⟨A', rfl⟩ | rfl | ⟨f', a', k', rfl⟩ <;> simp [binOp, heq]
  · refine ⟨_, ?_, .int⟩
    rcases hs with ⟨A, n, k, rfl⟩ | ⟨A, rfl⟩ | ⟨A, rfl⟩ | rfl | ⟨f, a, k, rfl⟩ <;> rcases hv with ⟨A', n', k', rfl⟩ | ⟨A', rfl⟩ | ⟨A', rfl⟩ | rfl | ⟨f', a', k', rfl⟩ <;> simp [binOp, heq]
theorem eqd {t : TypeId} {u v : Value} : Op.equal t u v = Op.equalIn (9999 + 1) t u v := rfl
theorem eq_slice {t e : TypeId} (ht : P.underlying t = some (.slice e)) {A B : Option Addr} {n k n' k' : Nat} (h : A = none ∨ B = none) : (Op.equal t (.slice A n k) (.slice B n' k')).run P w = .ok (A.isNone && B.isNone) w := by
  rw [eqd, Op.equalIn, Sem.run_bind, und_run ht, Result.andThen_ok]
  rcases h with rfl | rfl
  · simp
  · cases A <;> simp
theorem eq_pointer {t e : TypeId} (ht : P.underlying t = some (.pointer e)) {A B : Option Addr} (h : A = none ∨ B = none) : (Op.equal t (.pointer A) (.pointer B)).run P w = .ok (A.isNone && B.isNone) w := by
  rw [eqd, Op.equalIn, Sem.run_bind, und_run ht, Result.andThen_ok]
  rcases h with rfl | rfl
  · simp
  · cases A <;> simp
theorem eq_map {t k e : TypeId} (ht : P.underlying t = some (.map k e)) {A B : Option Nat} (h : A = none ∨ B = none) : (Op.equal t (.map A) (.map B)).run P w = .ok (A.isNone && B.isNone) w := by
  rw [eqd, Op.equalIn, Sem.run_bind, und_run ht, Result.andThen_ok]
  rcases h with rfl | rfl
  · simp
  · cases A <;> simp
def nilVal : Value → Bool
  | .slice none _ _ | .pointer none | .map none | .nilFunc => true
  | _ => false
theorem eq_func {t : TypeId} {ps rs : Array TypeId} {vv : Bool} (ht : P.underlying t = some (.func ps rs vv)) {u v : Value} (hu : u = .nilFunc ∨ ∃ f a k, u = .func f a k) (hv : v = .nilFunc ∨ ∃ f a k, v = .func f a k) (h : nilVal u = true ∨ nilVal v = true) : (Op.equal t u v).run P w = .ok (nilVal u && nilVal v) w := by
  rw [eqd, Op.equalIn, Sem.run_bind, und_run ht, Result.andThen_ok]
  rcases hu with rfl | ⟨f, a, k, rfl⟩ <;> rcases hv with rfl | ⟨f', a', k', rfl⟩ <;> simp_all [nilVal]
theorem eq_nil {t : TypeId} {x y : V} {u v : Value} (hx : VRel w L m x u) (hy : VRel w L m y v) (kx : vkind x = tkind P t) (ky : vkind y = tkind P t) (h : nilVal u = true ∨ nilVal v = true) : (Op.equal t u v).run P w = .ok (nilVal u && nilVal v) w := by
  have sx := vk_sh hx kx
  have sy := vk_sh hy ky
  rcases sx with ⟨e, ht, A, n, k, rfl⟩ | ⟨e, ht, A, rfl⟩ | ⟨k, e, ht, A, rfl⟩ | ⟨p, rs, vv, ht, hu⟩
  · rcases sy with ⟨e', ht', A', n', k', rfl⟩ | ⟨e', ht', _⟩ | ⟨k', e', ht', _⟩ | ⟨p', rs', vv', ht', _⟩ <;> try (rw [ht] at ht'; cases ht'; done)
    rw [eq_slice ht (by cases A <;> cases A' <;> simp_all [nilVal])]
    cases A <;> cases A' <;> rfl
  · rcases sy with ⟨e', ht', _⟩ | ⟨e', ht', A', rfl⟩ | ⟨k', e', ht', _⟩ | ⟨p', rs', vv', ht', _⟩ <;> try (rw [ht] at ht'; cases ht'; done)
    rw [eq_pointer ht (by cases A <;> cases A' <;> simp_all [nilVal])]
    cases A <;> cases A' <;> rfl
  · rcases sy with ⟨e', ht', _⟩ | ⟨e', ht', _⟩ | ⟨k', e', ht', A', rfl⟩ | ⟨p', rs', vv', ht', _⟩ <;> try (rw [ht] at ht'; cases ht'; done)
    rw [eq_map ht (by cases A <;> cases A' <;> simp_all [nilVal])]
    cases A <;> cases A' <;> rfl
  · rcases sy with ⟨e', ht', _⟩ | ⟨e', ht', _⟩ | ⟨k', e', ht', _⟩ | ⟨p', rs', vv', ht', hv⟩ <;> try (rw [ht] at ht'; cases ht'; done)
    exact eq_func ht hu hv h
theorem isNil_val {x : V} {v : Value} {c : Prop} {b : Bool} (hx : VRel w L m x v) (h : isNil x = some (c, b)) (hc : c) : nilVal v = b := by
  rcases isNil_run hx h hc with ⟨A, n, k, rfl, rfl⟩ | ⟨A, rfl, rfl⟩ | ⟨A, rfl, rfl⟩ | ⟨rfl, rfl⟩ | ⟨f, a, k, rfl, rfl⟩
  · cases A <;> rfl
  · cases A <;> rfl
  · cases A <;> rfl
  · rfl
  · rfl
theorem nilLit_val {x : V} {v : Value} (hx : VRel w L m x v) (h : nilLit x = true) : nilVal v = true := by
  rcases nilLit_run hx h with ⟨n, k, rfl⟩ | rfl | rfl | rfl <;> rfl
theorem sh_of {t : TypeId} {x : V} {u : Value} (hx : VRel w L m x u) (he : vkind x = tkind P t) : (∃ A n k, u = .slice A n k) ∨ (∃ A, u = .pointer A) ∨ (∃ A, u = .map A) ∨ u = .nilFunc ∨ ∃ f a k, u = .func f a k := by
  rcases vk_sh hx he with ⟨e, _, h⟩ | ⟨e, _, h⟩ | ⟨k, e, _, h⟩ | ⟨a, b, c, _, h⟩
  · exact .inl h
  · exact .inr (.inl h)
  · exact .inr (.inr (.inl h))
  · exact .inr (.inr (.inr h))
theorem nilV_run {op : BinOp} {t : TypeId} {x y : V} {u v : Value} {c : Prop} {r : V} (hx : VRel w L m x u) (hy : VRel w L m y v) (h : nilV P op t x y = some (c, r)) (hc : c) (ox oy : Operand) :
    ∃ q, ((eqGuard op t ox oy u v) >>= fun _ => binOp op t u v).run P w = .ok q w ∧ VRel w L m r q := by
  unfold nilV at h
  by_cases hk : vkind x = tkind P t ∧ vkind y = tkind P t
  · rw [if_pos hk] at h
    have noc : ∀ {c' : Prop} {b : Bool}, eqNil op c' b = some (c, r) → c' := by
      intro c' b he
      cases op <;> simp only [eqNil, Option.some.injEq, Prod.mk.injEq, reduceCtorEq] at he <;> rw [he.1] <;> exact hc
    by_cases hn : nilLit y = true
    · rw [if_pos hn] at h
      cases hi : isNil x with
      | none => rw [hi] at h; cases h
      | some q =>
        obtain ⟨c', b⟩ := q
        rw [hi] at h
        have e1 := isNil_val hx hi (noc h)
        have e2 := nilLit_val hy hn
        have e3 := eq_nil hx hy hk.1 hk.2 (.inr e2)
        rw [e1, e2, Bool.and_true] at e3
        exact eqNil_run e3 (sh_of hx hk.1) (sh_of hy hk.2) h ox oy
    · rw [if_neg hn] at h
      by_cases hn' : nilLit x = true
      · rw [if_pos hn'] at h
        cases hi : isNil y with
        | none => rw [hi] at h; cases h
        | some q =>
          obtain ⟨c', b⟩ := q
          rw [hi] at h
          have e1 := isNil_val hy hi (noc h)
          have e2 := nilLit_val hx hn'
          have e3 := eq_nil hx hy hk.1 hk.2 (.inl e2)
          rw [e1, e2, Bool.true_and] at e3
          exact eqNil_run e3 (sh_of hx hk.1) (sh_of hy hk.2) h ox oy
      · rw [if_neg hn'] at h; cases h
  · rw [if_neg hk] at h; cases h
end Go.Fw
