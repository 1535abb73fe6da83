/- What any plan's estimate is. -/
import Derived.Test.YtihbejpkfifplaaPu
import Derived.Test.YtihbejpkfifplaaPv
import Derived.Test.YtihbejpkfifplaaPw
set_option linter.unusedVariables false
set_option linter.unusedSimpArgs false
set_option maxRecDepth 100000
namespace Go.Proofs.Ytihbejpkfifplaa.Z
open Go Go.Fw
def bndD (c : CoreT) (p : PlanT) : List Bool := (bndT c p).getD []
def estOp (c : CoreT) (s : StatsT) (p : PlanT) (es : List Int) : Int :=
  if p.op = 1 then nodesS c s p.slot
  else if p.op = 2 ∨ p.op = 3 then stepS c s p (es.getD 0 0) (bndD c (rdI p.kids 0))
  else if p.op = 4 then joinE c s (bndD c (rdI p.kids 0)) (bndD c (rdI p.kids 1)) (mulS (es.getD 0 0) (es.getD 1 0)) c.nodes.length
  else if p.op = 5 then meetE c s p (es.getD 0 0) p.edges.length
  else filtE (es.getD 0 0) p.terms.length
mutual
def estT (c : CoreT) (s : StatsT) : PlanT → Int
  | .mk o k sl e b t => estOp c s (.mk o k sl e b t) (estL c s k)
def estL (c : CoreT) (s : StatsT) : List PlanT → List Int
  | [] => []
  | p :: r => estT c s p :: estL c s r
end
theorem estL_eq (c : CoreT) (s : StatsT) (l : List PlanT) : estL c s l = l.map (estT c s) := by
  induction l with
  | nil => rfl
  | cons p r ih => rw [estL, ih]; rfl
theorem estT_eq (c : CoreT) (s : StatsT) (p : PlanT) : estT c s p = estOp c s p (p.kids.map (estT c s)) := by cases p; rw [estT, estL_eq]; rfl
theorem getD_kids (c : CoreT) (s : StatsT) (p : PlanT) {i : Nat} (h : i < p.kids.length) : (p.kids.map (estT c s)).getD i 0 = estT c s (rdI p.kids (i : Int)) := by
  simp [List.getD_eq_getElem?_getD, rdI, h]
theorem meetL_all {c : CoreT} {sl : Int} {l : List Int} {b : List Bool} (h : (meetL c sl l b).1 = true) : ∀ x ∈ l, 0 ≤ x ∧ x < c.edges.length := by
  induction l generalizing b with
  | nil => intro x hx; cases hx
  | cons e r ih =>
    rw [meetL] at h
    split at h
    · cases h
    · rename_i hc
      simp only [Bool.or_eq_true, not_or, badM1, decide_eq_true_eq] at hc
      intro x hx
      rcases List.mem_cons.1 hx with rfl | hx
      · omega
      · exact ih h x hx
/-- a plan that is right: its kids are, and its parts lie where they must -/
theorem right_kids {c : CoreT} {p : PlanT} (h : (bndT c p).isSome = true) : ∀ q ∈ p.kids, (bndT c q).isSome = true := by
  rw [bndT_eq] at h
  split at h
  · obtain ⟨r, hr⟩ := Option.isSome_iff_exists.1 h
    obtain ⟨bs, hbs, _⟩ := Option.bind_eq_some_iff.1 hr
    have key : ∀ (l : List PlanT) (bs : List (List Bool)), bndL c l = some bs → ∀ q ∈ l, (bndT c q).isSome = true := by
      intro l
      induction l with
      | nil => intro _ _ q hq; cases hq
      | cons x t ih =>
        intro bs h q hq
        rw [bndL] at h
        obtain ⟨b, h1, h2⟩ := Option.bind_eq_some_iff.1 h
        obtain ⟨cs, h3, _⟩ := Option.map_eq_some_iff.1 h2
        rcases List.mem_cons.1 hq with rfl | hq
        · rw [h1]; rfl
        · exact ih cs h3 q hq
    exact key _ _ hbs
  · cases h
theorem right_wants {c : CoreT} {p : PlanT} (h : (bndT c p).isSome = true) : wants p.op = some p.kids.length := by
  rw [bndT_eq] at h
  split at h
  · assumption
  · cases h
theorem est_rng (c : CoreT) (s : StatsT) (p : PlanT) (hr : (bndT c p).isSome = true) : 0 ≤ estT c s p ∧ estT c s p ≤ 1099511627776 := by
  have hw := right_wants hr
  have hk : ∀ i : Nat, i < p.kids.length → 0 ≤ (p.kids.map (estT c s)).getD i 0 ∧ (p.kids.map (estT c s)).getD i 0 ≤ 1099511627776 := fun i hi => by
    rw [getD_kids c s p hi]
    have := kids_lt (kid_mem (p := p) hi)
    exact est_rng c s (rdI p.kids (i : Int)) (right_kids hr _ (kid_mem hi))
  rw [estT_eq]
  unfold estOp
  split
  · exact nodesS_rng _ _ _
  · rename_i n1
    have h0 := (wants_op hw).resolve_left n1
    have hl : 0 < p.kids.length := by
      rcases h0 with e | e | e | e | e <;> · rw [e] at hw; simp [wants] at hw; omega
    split
    · exact stepS_rng (hk 0 hl)
    · split
      · rename_i n3
        have hl2 : 1 < p.kids.length := by rw [n3] at hw; simp [wants] at hw; omega
        exact joinE_rng (mul_rng' (hk 0 hl) (hk 1 hl2)) _
      · split
        · exact meetE_rng (hk 0 hl) _
        · exact filtE_rng (hk 0 hl) _
termination_by SizeOf.sizeOf p
theorem boundD_some {c : CoreT} {p : PlanT} {b : List Bool} (hP : patS c.nodes c.edges = true) (hf : partsP p ≤ 1000000) (hb : bndT c p = some b) : Snd P 20 [.d (.ag (encP p)), .d (.ag (encC c))] (.tup [.d (.sl false (b.map encB)), .int 0]) [] := by
  have h := Bound_ok c p hf
  simp only [boundD, hP, hb, if_true] at h
  exact h
theorem est_ok (c : CoreT) (s : StatsT) (hP : patS c.nodes c.edges = true) (p : PlanT) (hf : partsP p ≤ 1000000) (hr : (bndT c p).isSome = true) : Snd P 32 [.d (.ag (encC c ++ encS s)), .d (.ag (encP p))] (.int (estT c s p)) [] := by
  have hw := right_wants hr
  have hk : ∀ i : Nat, i < p.kids.length → ∃ b, bndT c (rdI p.kids (i : Int)) = some b ∧ b.length = c.nodes.length + c.edges.length ∧ bndD c (rdI p.kids (i : Int)) = b ∧
      Snd P 32 [.d (.ag (encC c ++ encS s)), .d (.ag (encP (rdI p.kids (i : Int))))] (.int (estT c s (rdI p.kids (i : Int)))) [] ∧ (0 ≤ estT c s (rdI p.kids (i : Int)) ∧ estT c s (rdI p.kids (i : Int)) ≤ 1099511627776) ∧
      Snd P 20 [.d (.ag (encP (rdI p.kids (i : Int)))), .d (.ag (encC c))] (.tup [.d (.sl false (b.map encB)), .int 0]) [] := fun i hi => by
    have hq := right_kids hr _ (kid_mem hi)
    obtain ⟨b, hb⟩ := Option.isSome_iff_exists.1 hq
    have := kids_lt (kid_mem (p := p) hi)
    exact ⟨b, hb, bndT_len c _ _ hb, by simp [bndD, hb], est_ok c s hP (rdI p.kids (i : Int)) (kid_fine hf hi) hq, est_rng c s _ hq, boundD_some hP (kid_fine hf hi) hb⟩
  rw [estT_eq]
  unfold estOp
  rcases wants_op hw with e | e | e | e | e | e
  · have hl : p.kids.length = 0 := by rw [e] at hw; simp [wants] at hw; omega
    rw [if_pos e]
    have hsl : 0 ≤ p.slot ∧ p.slot < c.nodes.length := by
      rw [bndT_eq, if_pos hw, List.length_eq_zero_iff.1 hl, bndL] at hr
      simp only [Option.bind_some, opS, e, if_true] at hr
      split at hr
      · assumption
      · cases hr
    exact est1_ok c s p hP e hl hsl.1 hsl.2
  · have hl : p.kids.length = 1 := by rw [e] at hw; simp [wants] at hw; omega
    obtain ⟨b, h1, h2, h3, h4, h5, h6⟩ := hk 0 (by omega)
    rw [if_neg (by omega), if_pos (.inl e), getD_kids c s p (by omega)]
    simp only [Int.natCast_zero] at *
    rw [h3]
    rw [bnd_one hl (by rw [hw, hl]), h1] at hr
    have hE : edgeB c p b = true := by
      simp only [Option.bind_some, opS, e] at hr
      simp at hr
      exact hr
    simp [edgeB] at hE
    exact est2_ok c s p _ b hP e hl (by omega) (by omega) (by omega) h4 h5 h6 h2
  · have hl : p.kids.length = 1 := by rw [e] at hw; simp [wants] at hw; omega
    obtain ⟨b, h1, h2, h3, h4, h5, h6⟩ := hk 0 (by omega)
    rw [if_neg (by omega), if_pos (.inr e), getD_kids c s p (by omega)]
    simp only [Int.natCast_zero] at *
    rw [h3]
    rw [bnd_one hl (by rw [hw, hl]), h1] at hr
    have hE : edgeB c p b = true := by
      simp only [Option.bind_some, opS, e] at hr
      simp at hr
      exact hr
    simp [edgeB] at hE
    exact est3_ok c s p _ b hP e hl (by omega) (by omega) (by omega) h4 h5 h6 h2
  · have hl : p.kids.length = 2 := by rw [e] at hw; simp [wants] at hw; omega
    obtain ⟨b, h1, h2, h3, h4, h5, h6⟩ := hk 0 (by omega)
    obtain ⟨b', h1', h2', h3', h4', h5', h6'⟩ := hk 1 (by omega)
    rw [if_neg (by omega), if_neg (by omega), if_pos e, getD_kids c s p (by omega), getD_kids c s p (by omega)]
    simp only [Int.natCast_zero, Int.natCast_one] at *
    rw [h3, h3']
    exact est4_ok c s p _ _ b b' hP e hl h4 h5 h6 h2 h4' h5' h6' h2'
  · have hl : p.kids.length = 1 := by rw [e] at hw; simp [wants] at hw; omega
    obtain ⟨b, h1, h2, h3, h4, h5, h6⟩ := hk 0 (by omega)
    rw [if_neg (by omega), if_neg (by omega), if_neg (by omega), if_pos e, getD_kids c s p (by omega)]
    simp only [Int.natCast_zero] at *
    rw [bnd_one hl (by rw [hw, hl]), h1] at hr
    have hM : meetB c p b = true := by
      simp only [Option.bind_some, opS, e] at hr
      simp at hr
      exact hr
    simp only [meetB, Bool.and_eq_true, Bool.not_eq_true'] at hM
    have hs := hM.1
    simp [badSlot] at hs
    exact est5_ok c s p _ b hP e hl (by omega) (by omega) (fun i hi => meetL_all hM.2 _ (rdI_mem (by omega) (by omega))) h4 h5 h6 h2
  · have hl : p.kids.length = 1 := by rw [e] at hw; simp [wants] at hw; omega
    obtain ⟨b, h1, h2, h3, h4, h5, h6⟩ := hk 0 (by omega)
    rw [if_neg (by omega), if_neg (by omega), if_neg (by omega), if_neg (by omega), getD_kids c s p (by omega)]
    simp only [Int.natCast_zero] at *
    exact est6_ok c s p _ b hP e hl h4 h5 h6 h2
termination_by SizeOf.sizeOf p
/-- how many rows a plan may have -/
def estS (c : CoreT) (s : StatsT) (p : PlanT) : Int := if patS c.nodes c.edges = true ∧ (bndT c p).isSome = true then estT c s p else 0
theorem EstimateA_ok (c : CoreT) (s : StatsT) (p : PlanT) (b : List Bool) (hB : Snd P 20 [.d (.ag (encP p)), .d (.ag (encC c))] (.tup [.d (.sl false (b.map encB)), .int 0]) []) (hE : Snd P 32 [.d (.ag (encC c ++ encS s)), .d (.ag (encP p))] (.int (estT c s p)) []) : Snd P 15 [.d (.ag (encP p)), .d (.ag (encC c)), .d (.ag (encS s))] (.int (estT c s p)) [] := by
  rw [encP_cells] at hB hE
  refine snd_of [] Try.func15 rfl (by kernel_rfl) Try.ntmps15 (by simp) ?_
  unfold Try.f15
  simp only [List.cons_append, List.nil_append, List.length_cons, List.length_nil, Nat.reduceAdd, Nat.reduceSub, List.replicate]
  refine Run.seq ?_
  refine Run.opsM false [⟨Op.box 27 (Operand.tmp 0), some 3, none⟩, ⟨Op.box 33 (Operand.tmp 1), some 4, none⟩, ⟨Op.box 53 (Operand.tmp 2), some 5, none⟩, ⟨Op.assign (Operand.const (Value.int IntKind.i64 0)), some 6, none⟩] mixed (by decide) rfl fun K hK => ?_
  try simp
  repeat' first | ((refine evL_c ?_); simp) | (with_reducible refine And.intro ?_ ?_) | intro _ | (with_reducible assumption) | omega
  all_goals (refine Fin.go hK ?_; clear hK K)
  simp only [Then_normal]
  refine Run.seq ?_
  refine Run.seq ?_
  refine Run.opsM false [⟨Op.load 27 (Operand.tmp 3), some 10, none⟩, ⟨Op.load 33 (Operand.tmp 4), some 11, none⟩, ⟨Op.call { callee := Callee.value (Operand.func 20), args := #[Operand.tmp 10, Operand.tmp 11], argTypes := #[27, 33] }, some 12, none⟩, ⟨Op.move (Operand.tmp 12), some 9, none⟩, ⟨Op.extract (Operand.tmp 9) 0, some 13, none⟩, ⟨Op.extract (Operand.tmp 9) 1, some 14, none⟩, ⟨Op.assign (Operand.tmp 13), some 7, none⟩, ⟨Op.assign (Operand.tmp 14), some 8, none⟩] mixed (by decide) rfl fun K hK => ?_
  try simp
  repeat' first | (refine ecall (by exact hB) rfl ?_) | ((refine evL_c ?_); simp) | (with_reducible refine And.intro ?_ ?_) | intro _ | (with_reducible assumption) | omega
  all_goals (refine Fin.go hK ?_; clear hK K)
  simp only [Then_normal]
  refine Run.seq ?_
  refine Run.opsM false [⟨Op.move (Operand.tmp 8), some 15, none⟩, ⟨Op.binOp BinOp.neq 40 (Operand.tmp 15) (Operand.const (Value.int IntKind.i64 0)) 40, some 16, none⟩] mixed (by decide) rfl fun K hK => ?_
  try simp
  repeat' first | ((refine evL_c ?_); simp) | (with_reducible refine And.intro ?_ ?_) | intro _ | (with_reducible assumption) | omega
  all_goals (refine Fin.go hK ?_; clear hK K)
  simp only [Then_normal]
  refine Run.cond rfl (fun h16 => ?_) (fun h16 => ?_)
  · simp at h16
  · skip
    refine Run.skip ?_
    simp only [Then_normal]
    refine Run.seq ?_
    refine Run.opsM false [⟨Op.load 33 (Operand.tmp 4), some 17, none⟩, ⟨Op.load 53 (Operand.tmp 5), some 18, none⟩, ⟨Op.build 82 #[(0, Operand.tmp 17), (1, Operand.tmp 18)], some 19, none⟩, ⟨Op.load 27 (Operand.tmp 3), some 20, none⟩, ⟨Op.call { callee := Callee.value (Operand.func 32), args := #[Operand.tmp 19, Operand.tmp 20], argTypes := #[82, 27] }, some 21, none⟩, ⟨Op.assign (Operand.tmp 21), some 6, none⟩] mixed (by decide) rfl fun K hK => ?_
    try simp
    repeat' first | (refine ecallD (by exact hE) ?_) | ((refine evL_c ?_); simp) | (with_reducible refine And.intro ?_ ?_) | intro _ | (with_reducible assumption) | omega
    all_goals (refine Fin.go hK ?_; clear hK K)
    simp only [Then_normal]
    refine Run.ret ?_
    try simp only [Then_ret, Blok_ret]
    simp

theorem EstimateB_ok (c : CoreT) (s : StatsT) (p : PlanT) (x : D) (n : Int) (hB : Snd P 20 [.d (.ag (encP p)), .d (.ag (encC c))] (.tup [.d x, .int n]) []) (hn : n ≠ 0) : Snd P 15 [.d (.ag (encP p)), .d (.ag (encC c)), .d (.ag (encS s))] (.int 0) [] := by
  rw [encP_cells] at hB
  refine snd_of [] Try.func15 rfl (by kernel_rfl) Try.ntmps15 (by simp) ?_
  unfold Try.f15
  simp only [List.cons_append, List.nil_append, List.length_cons, List.length_nil, Nat.reduceAdd, Nat.reduceSub, List.replicate]
  refine Run.seq ?_
  refine Run.opsM false [⟨Op.box 27 (Operand.tmp 0), some 3, none⟩, ⟨Op.box 33 (Operand.tmp 1), some 4, none⟩, ⟨Op.box 53 (Operand.tmp 2), some 5, none⟩, ⟨Op.assign (Operand.const (Value.int IntKind.i64 0)), some 6, none⟩] mixed (by decide) rfl fun K hK => ?_
  try simp
  repeat' first | ((refine evL_c ?_); simp [hn]) | (with_reducible refine And.intro ?_ ?_) | intro _ | (with_reducible assumption) | omega
  all_goals (refine Fin.go hK ?_; clear hK K)
  simp only [Then_normal]
  refine Run.seq ?_
  refine Run.seq ?_
  refine Run.opsM false [⟨Op.load 27 (Operand.tmp 3), some 10, none⟩, ⟨Op.load 33 (Operand.tmp 4), some 11, none⟩, ⟨Op.call { callee := Callee.value (Operand.func 20), args := #[Operand.tmp 10, Operand.tmp 11], argTypes := #[27, 33] }, some 12, none⟩, ⟨Op.move (Operand.tmp 12), some 9, none⟩, ⟨Op.extract (Operand.tmp 9) 0, some 13, none⟩, ⟨Op.extract (Operand.tmp 9) 1, some 14, none⟩, ⟨Op.assign (Operand.tmp 13), some 7, none⟩, ⟨Op.assign (Operand.tmp 14), some 8, none⟩] mixed (by decide) rfl fun K hK => ?_
  try simp
  repeat' first | (refine ecall (by exact hB) rfl ?_) | ((refine evL_c ?_); simp [hn]) | (with_reducible refine And.intro ?_ ?_) | intro _ | (with_reducible assumption) | omega
  all_goals (refine Fin.go hK ?_; clear hK K)
  simp only [Then_normal]
  refine Run.seq ?_
  refine Run.opsM false [⟨Op.move (Operand.tmp 8), some 15, none⟩, ⟨Op.binOp BinOp.neq 40 (Operand.tmp 15) (Operand.const (Value.int IntKind.i64 0)) 40, some 16, none⟩] mixed (by decide) rfl fun K hK => ?_
  try simp
  repeat' first | ((refine evL_c ?_); simp [hn]) | (with_reducible refine And.intro ?_ ?_) | intro _ | (with_reducible assumption) | omega
  all_goals (refine Fin.go hK ?_; clear hK K)
  simp only [Then_normal]
  refine Run.cond rfl (fun h16 => ?_) (fun h16 => ?_)
  · skip
    refine Run.seq ?_
    refine Run.opsM false [⟨Op.assign (Operand.const (Value.int IntKind.i64 0)), some 6, none⟩] mixed (by decide) rfl fun K hK => ?_
    try simp
    repeat' first | ((refine evL_c ?_); simp [hn]) | (with_reducible refine And.intro ?_ ?_) | intro _ | (with_reducible assumption) | omega
    all_goals (refine Fin.go hK ?_; clear hK K)
    simp only [Then_normal]
    refine Run.ret ?_
    try simp only [Then_ret, Blok_ret]
    simp
  · simp at h16


theorem Estimate_ok (c : CoreT) (s : StatsT) (p : PlanT) (hf : partsP p ≤ 1000000) : Snd P 15 [.d (.ag (encP p)), .d (.ag (encC c)), .d (.ag (encS s))] (.int (estS c s p)) [] := by
  unfold estS
  by_cases h : patS c.nodes c.edges = true ∧ (bndT c p).isSome = true
  · rw [if_pos h]
    obtain ⟨b, hb⟩ := Option.isSome_iff_exists.1 h.2
    exact EstimateA_ok c s p b (boundD_some h.1 hf hb) (est_ok c s h.1 p hf h.2)
  · rw [if_neg h]
    refine EstimateB_ok c s p (.lit (.slice none 0 0)) (boundD c p).2 ?_ ?_
    · have hB := Bound_ok c p hf
      have e : (boundD c p).1 = .lit (.slice none 0 0) := by
        unfold boundD
        cases hP : patS c.nodes c.edges with
        | false => rfl
        | true =>
          cases hb : bndT c p with
          | none => rfl
          | some b => exact absurd ⟨hP, by rw [hb]; rfl⟩ h
      rw [e] at hB; exact hB
    · unfold boundD
      cases hP : patS c.nodes c.edges with
      | false => simp
      | true =>
        cases hb : bndT c p with
        | none => simp
        | some b => exact absurd ⟨hP, by rw [hb]; rfl⟩ h
end Go.Proofs.Ytihbejpkfifplaa.Z
