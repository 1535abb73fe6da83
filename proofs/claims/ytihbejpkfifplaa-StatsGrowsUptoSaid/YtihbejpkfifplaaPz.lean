/- The counts' law: what a Join may have, what a Filter may have. -/
import Derived.Test.YtihbejpkfifplaaPy
set_option linter.unusedVariables false
set_option linter.unusedSimpArgs false
set_option maxRecDepth 100000
namespace Go.Proofs.Ytihbejpkfifplaa.Z
open Go Go.Fw
/-! data that is read as other data -/
def DSub (x y : D) : Prop := ∀ (w : World) (L : Nat → Prop) (v : Value), DRel w L x v → DRel w L y v
def SubL : List D → List D → Prop
  | [], [] => True
  | x :: l, y :: r => DSub x y ∧ SubL l r
  | _, _ => False
theorem DSub.refl (x : D) : DSub x x := fun _ _ _ h => h
theorem DSub.nil : DSub (.lit (.slice none 0 0)) (.sl false []) := fun w L v h => by
  cases h with
  | lit _ h => exact .slE false none 0 (by simp)
theorem SubL.len {l r : List D} (h : SubL l r) : l.length = r.length := by
  induction l generalizing r with
  | nil => cases r <;> simp_all [SubL]
  | cons x l ih => cases r <;> simp_all [SubL]
                   exact ih h.2
theorem SubL.at_ {l r : List D} (h : SubL l r) {j : Nat} {x y : D} (hx : l[j]? = some x) (hy : r[j]? = some y) : DSub x y := by
  induction l generalizing r j with
  | nil => cases hx
  | cons a l ih =>
    cases r with
    | nil => cases hy
    | cons b r =>
      cases j with
      | zero => simp at hx hy; subst hx hy; exact h.1
      | succ j => simp at hx hy; exact ih h.2 hx hy
theorem DSub.ag {l r : List D} (h : SubL l r) : DSub (.ag l) (.ag r) := fun w L v hv => by
  cases hv with
  | ag _ vs hl ho hr => 
    refine .ag r vs (hl.trans h.len) ho fun j x v hx hv => ?_
    have hj : j < l.length := by rw [h.len]; exact (List.getElem?_eq_some_iff.1 hx).1
    exact h.at_ (List.getElem?_eq_getElem hj) hx _ _ _ (hr j _ v (List.getElem?_eq_getElem hj) hv)
def SubV : List V → List V → Prop
  | [], [] => True
  | .d x :: l, .d y :: r => DSub x y ∧ SubV l r
  | _, _ => False
theorem SubV.rel {w : World} {L : Nat → Prop} {m : Nat → Option Nat} {l r : List V} {vs : List Value} (h : SubV l r) (hv : All2 (VRel w L m) l vs) : All2 (VRel w L m) r vs := by
  induction l generalizing r vs with
  | nil =>
    cases r with
    | nil => exact hv
    | cons _ _ => exact h.elim
  | cons x l ih =>
    cases r with
    | nil => cases x <;> exact h.elim
    | cons y r =>
      cases x <;> cases y <;> first | exact h.elim | skip
      obtain ⟨v, tl, rfl, h1, h2⟩ := hv.head
      cases h1 with
      | d hd => exact All2.cons (.d (h.1 _ _ _ hd)) (ih h.2 h2)
theorem snd_sub {f : FuncId} {args args0 : List V} {r : V} {τ : Store} (h : Snd P f args0 r τ) (hs : SubV args args0) : Snd P f args r τ :=
  ⟨h.1, fun w X vs hX hargs => h.2 w X vs hX (hs.rel hargs)⟩
/-! parts, within a bound -/
mutual
theorem termsR_all : ∀ (t : TermT) (most : Int), termsR t most ≤ most → (cntT t : Int) = termsR t most
  | .mk o k s p v, most, h => by
    rw [termsR] at h ⊢
    have := goT_all k most 1 h
    rw [cntT, this]; omega
theorem goT_all : ∀ (l : List TermT) (most n : Int), goT l most n ≤ most → goT l most n = n + cntL l
  | [], most, n, h => by rw [goT, cntL]; omega
  | t :: r, most, n, h => by
    rw [goT] at h ⊢
    split at h
    · rename_i hn
      rw [if_pos hn]
      have h1 := goT_all r most (n + termsR t (most - n)) h
      have h2 := termsR_all t (most - n) (by omega)
      rw [h1, cntL]; omega
    · omega
end
mutual
theorem partsR_all : ∀ (p : PlanT) (most : Int), partsP p ≤ 2000000 → partsR p most ≤ most → (partsP p : Int) = partsR p most
  | .mk o k s e b t, most, hf, h => by
    rw [partsP] at hf
    rw [partsR] at h ⊢
    have h1 := goP_all k most _ (by omega) h
    have h0 := (goP_rng k most (goT t most (1 + t.length + e.length)) (by omega)).1
    have h2 := goT_all t most (1 + t.length + e.length) (by omega)
    rw [h1, h2, partsP]; omega
theorem goP_all : ∀ (l : List PlanT) (most n : Int), partsL l ≤ 2000000 → goP l most n ≤ most → goP l most n = n + partsL l
  | [], most, n, hf, h => by rw [goP, partsL]; omega
  | t :: r, most, n, hf, h => by
    rw [partsL] at hf
    rw [goP] at h ⊢
    split at h
    · rename_i hn
      rw [if_pos hn]
      have h1 := goP_all r most (n + partsR t (most - n)) (by omega) h
      have h2 := partsR_all t (most - n) (by omega) (by omega)
      rw [h1, partsL]; omega
    · omega
end
/-! a Join's sides -/
theorem mul_comm' {a b : Int} (ha : 0 ≤ a) (hb : 0 ≤ b) : mulS a b = mulS b a := by
  unfold mulS
  have h1 : 0 < a → (1099511627776 / a < b ↔ 1099511627776 < b * a) := fun h => Int.ediv_lt_iff_lt_mul h
  have h2 : 0 < b → (1099511627776 / b < a ↔ 1099511627776 < a * b) := fun h => Int.ediv_lt_iff_lt_mul h
  rw [Int.mul_comm b a] at h1 ⊢
  by_cases ea : 0 < a
  · by_cases eb : 0 < b
    · by_cases h : 1099511627776 < a * b
      · rw [if_pos ⟨ea, (h1 ea).2 h⟩, if_pos ⟨eb, (h2 eb).2 h⟩]
      · rw [if_neg (fun q => h ((h1 ea).1 q.2)), if_neg (fun q => h ((h2 eb).1 q.2))]
    · have : b = 0 := by omega
      subst this
      simp
      intro _
      exact Int.ediv_nonneg (by omega) ha
  · have : a = 0 := by omega
    subst this
    simp
    intro _
    exact Int.ediv_nonneg (by omega) hb
theorem rd_set_ne {l : List Bool} {i j : Nat} {x : Bool} (h : i ≠ j) : rdI (l.set i x) (j : Int) = rdI l j := by
  simp [rdI, List.getD_eq_getElem?_getD, List.getElem?_set_ne h]
theorem jn_tail (n : Int) (a b : List Bool) (i j : Nat) (h : i ≤ j) : rdI (jn n a b i).2 (j : Int) = rdI b j := by
  induction i with
  | zero => rfl
  | succ i ih => rw [jn]; simp only; rw [rd_set_ne (by omega), ih (by omega)]
theorem jn_one (n : Int) (a b : List Bool) (i : Nat) : (jn n a b i).1 = true ↔ ∀ j : Nat, j < i → ¬ (rdI a j = true ∧ rdI b j = true ∧ n ≤ j) := by
  induction i with
  | zero => simp [jn]
  | succ i ih =>
    rw [jn]
    simp only [Bool.and_eq_true, ih, Bool.not_eq_true', jn_tail n a b i i (Nat.le_refl _)]
    constructor
    · rintro ⟨h1, h2⟩ j hj
      by_cases e : j = i
      · subst e; rintro ⟨q1, q2, q3⟩; simp [q1, q2, q3] at h2
      · exact h1 j (by omega)
    · intro h
      refine ⟨fun j hj => h j (by omega), ?_⟩
      have := h i (by omega)
      by_cases q1 : rdI a (i : Int) = true
      · by_cases q2 : rdI b (i : Int) = true
        · have q3 : ¬ n ≤ (i : Int) := fun q3 => this ⟨q1, q2, q3⟩
          simp [q3]
        · simp [q2]
      · simp [q1]
theorem joinE_comm (c : CoreT) (s : StatsT) (a b : List Bool) (n : Int) (i : Nat) : joinE c s a b n i = joinE c s b a n i := by
  induction i with
  | zero => rfl
  | succ i ih => rw [joinE, joinE, ih, Bool.and_comm]
def joinP (p q : PlanT) : PlanT := .mk 4 [p, q] 0 [] false []
def filtP (p : PlanT) (l : List TermT) : PlanT := .mk 6 [p] 0 [] false l
theorem bnd_join (c : CoreT) (p q : PlanT) : (bndT c (joinP p q)).isSome = true ↔ ∃ a b, bndT c p = some a ∧ bndT c q = some b ∧ (jn c.nodes.length a b (c.nodes.length + c.edges.length)).1 = true := by
  rw [bnd_two (p := joinP p q) rfl rfl]
  show ((bndT c p).bind fun a => (bndT c q).bind fun b => opS c (joinP p q) [a, b]).isSome = true ↔ _
  cases bndT c p with
  | none => simp
  | some a =>
    cases bndT c q with
    | none => simp
    | some b =>
      simp only [Option.bind_some, Option.some.injEq, exists_and_left, exists_eq_left', opS, joinP, PlanT.op]
      simp
theorem est_join (c : CoreT) (s : StatsT) (p q : PlanT) : estS c s (joinP p q) = estS c s (joinP q p) := by
  have hb : (bndT c (joinP p q)).isSome = true ↔ (bndT c (joinP q p)).isSome = true := by
    rw [bnd_join, bnd_join]
    constructor
    · rintro ⟨a, b, h1, h2, h3⟩
      exact ⟨b, a, h2, h1, (jn_one _ _ _ _).2 fun j hj q => (jn_one _ _ _ _).1 h3 j hj ⟨q.2.1, q.1, q.2.2⟩⟩
    · rintro ⟨a, b, h1, h2, h3⟩
      exact ⟨b, a, h2, h1, (jn_one _ _ _ _).2 fun j hj q => (jn_one _ _ _ _).1 h3 j hj ⟨q.2.1, q.1, q.2.2⟩⟩
  unfold estS
  by_cases h : patS c.nodes c.edges = true ∧ (bndT c (joinP p q)).isSome = true
  · rw [if_pos h, if_pos ⟨h.1, hb.1 h.2⟩, estT_eq, estT_eq]
    obtain ⟨a, b, h1, h2, h3⟩ := (bnd_join c p q).1 h.2
    have e : ∀ p q, estOp c s (joinP p q) ((joinP p q).kids.map (estT c s)) = joinE c s (bndD c p) (bndD c q) (mulS (estT c s p) (estT c s q)) c.nodes.length := fun p q => by
      simp [estOp, joinP, PlanT.op, PlanT.kids, rdI]
    rw [e, e, joinE_comm, mul_comm' (est_rng c s p (by rw [h1]; rfl)).1 (est_rng c s q (by rw [h2]; rfl)).1]
  · rw [if_neg h, if_neg (fun q => h ⟨q.1, hb.2 q.2⟩)]
theorem bnd_filt (c : CoreT) (p : PlanT) (l : List TermT) : (bndT c (filtP p l)).isSome = true ↔ ∃ a, bndT c p = some a ∧ l.all (bindsS a) = true := by
  rw [bnd_one (p := filtP p l) rfl rfl]
  show ((bndT c p).bind fun a => opS c (filtP p l) [a]).isSome = true ↔ _
  cases bndT c p with
  | none => simp
  | some a => simp [opS, filtP, PlanT.op, PlanT.terms]
theorem estT_filt (c : CoreT) (s : StatsT) (p : PlanT) (l : List TermT) : estT c s (filtP p l) = filtE (estT c s p) l.length := by
  rw [estT_eq]
  simp [estOp, filtP, PlanT.op, PlanT.kids, PlanT.terms]
theorem estS_nn (c : CoreT) (s : StatsT) (p : PlanT) : 0 ≤ estS c s p ∧ estS c s p ≤ 1099511627776 := by
  unfold estS; split
  · rename_i h; exact est_rng c s p h.2
  · omega
theorem est_filt0 (c : CoreT) (s : StatsT) (p : PlanT) : estS c s (filtP p []) ≤ estS c s p := by
  have h0 := estS_nn c s p
  by_cases h : patS c.nodes c.edges = true ∧ (bndT c (filtP p [])).isSome = true
  · obtain ⟨a, h1, _⟩ := (bnd_filt c p []).1 h.2
    have e : estS c s p = estT c s p := by rw [estS, if_pos ⟨h.1, by rw [h1]; rfl⟩]
    rw [e, estS, if_pos h, estT_filt]
    exact Int.le_refl _
  · rw [estS, if_neg h]; exact h0.1
theorem est_filt (c : CoreT) (s : StatsT) (p : PlanT) (l : List TermT) (i : Nat) (hi : i < l.length) : estS c s (filtP p (l.take (i + 1))) ≤ estS c s (filtP p (l.take i)) := by
  have h0 := estS_nn c s (filtP p (l.take i))
  by_cases h : patS c.nodes c.edges = true ∧ (bndT c (filtP p (l.take (i + 1)))).isSome = true
  · obtain ⟨a, h1, h2⟩ := (bnd_filt c p _).1 h.2
    have h3 : (l.take i).all (bindsS a) = true := by
      rw [List.all_eq_true] at h2 ⊢
      exact fun t ht => h2 t (List.mem_of_mem_take (i := i) (by rw [List.take_take, Nat.min_eq_left (by omega)]; exact ht))
    have e : estS c s (filtP p (l.take i)) = estT c s (filtP p (l.take i)) := by rw [estS, if_pos ⟨h.1, (bnd_filt c p _).2 ⟨a, h1, h3⟩⟩]
    rw [e, estS, if_pos h, estT_filt, estT_filt, List.length_take, List.length_take, Nat.min_eq_left (by omega), Nat.min_eq_left (by omega)]
    have hr := filtE_rng (est_rng c s p (by rw [h1]; rfl)) i
    show shareS _ 3 ≤ _
    exact (share_rng hr.1 hr.2 (by omega)).2
  · rw [estS, if_neg h]; exact h0.1
end Go.Proofs.Ytihbejpkfifplaa.Z
