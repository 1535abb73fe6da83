/- Texts of this claim, put together: Rq, Rr, Qc, Rs. -/
import Derived.Test.YtihbejpkfifplaaCk
import Derived.Test.YtihbejpkfifplaaRows
import Derived.WalkKit
import Derived.ProofKit
import Derived.OpenShut
import Derived.ShutString
import Derived.ChangeOld
import Derived.Below
import Derived.Lib.SmallJoins
import Derived.Deep.Fields
import Derived.Deep.Slices
set_option linter.unusedVariables false
set_option linter.unusedSimpArgs false
namespace Go.Proofs.Ytihbejpkfifplaa.Z
open Go Go.Fw
abbrev oo117 : List LOp := [⟨Op.load 27 (Operand.tmp 3), some 10, none⟩, ⟨Op.load 33 (Operand.tmp 4), some 11, none⟩, ⟨Op.call { callee := Callee.value (Operand.func 21), args := #[Operand.tmp 10, Operand.tmp 11], argTypes := #[27, 33] }, some 12, none⟩, ⟨Op.move (Operand.tmp 12), some 9, none⟩, ⟨Op.extract (Operand.tmp 9) 0, some 13, none⟩, ⟨Op.extract (Operand.tmp 9) 1, some 14, none⟩, ⟨Op.assign (Operand.tmp 13), some 7, none⟩, ⟨Op.assign (Operand.tmp 14), some 8, none⟩]
end Go.Proofs.Ytihbejpkfifplaa.Z
section
set_option maxRecDepth 100000
namespace Go.Proofs.Ytihbejpkfifplaa.Z
open Go Go.Fw
theorem rboundD_some {c : CoreT} {p : PlanT} {b : List Bool} (hP : patS c.nodes c.edges = true) (hf : partsP p ≤ 1000000) (hb : bndT c p = some b) : Snd P 21 [.d (.ag (encP p)), .d (.ag (encC c))] (.tup [.d (.sl false (b.map encB)), .int 0]) [] := by
  have h := RBound_ok c p hf
  simp only [boundD, hP, hb, if_true] at h
  exact h
theorem rest_ok (c : CoreT) (s : StatsT) (hP : patS c.nodes c.edges = true) (p : PlanT) (hf : partsP p ≤ 1000000) (hr : (bndT c p).isSome = true) : Snd P 33 [.d (.ag (encP p)), .d (.ag (encC c)), .d (.ag (encS s))] (.int (estT c s p)) [] := by
  have hw := right_wants hr
  have hk : ∀ i : Nat, i < p.kids.length → ∃ b, bndT c (rdI p.kids (i : Int)) = some b ∧ b.length = c.nodes.length + c.edges.length ∧ bndD c (rdI p.kids (i : Int)) = b ∧
      Snd P 33 [.d (.ag (encP (rdI p.kids (i : Int)))), .d (.ag (encC c)), .d (.ag (encS s))] (.int (estT c s (rdI p.kids (i : Int)))) [] ∧ (0 ≤ estT c s (rdI p.kids (i : Int)) ∧ estT c s (rdI p.kids (i : Int)) ≤ 1099511627776) ∧
      Snd P 21 [.d (.ag (encP (rdI p.kids (i : Int)))), .d (.ag (encC c))] (.tup [.d (.sl false (b.map encB)), .int 0]) [] := fun i hi => by
    have hq := right_kids hr _ (kid_mem hi)
    obtain ⟨b, hb⟩ := Option.isSome_iff_exists.1 hq
    have := kids_lt (kid_mem (p := p) hi)
    exact ⟨b, hb, bndT_len c _ _ hb, by simp [bndD, hb], rest_ok c s hP (rdI p.kids (i : Int)) (kid_fine hf hi) hq, est_rng c s _ hq, rboundD_some hP (kid_fine hf hi) hb⟩
  rw [estT_eq]
  unfold estOp
  rcases wants_op hw with e | e | e | e | e | e
  · have hl : p.kids.length = 0 := by rw [e] at hw; simp [wants] at hw; omega
    rw [if_pos e]
    have hsl : 0 ≤ p.slot ∧ p.slot < c.nodes.length := by
      rw [bndT_eq, if_pos hw, List.length_eq_zero_iff.1 hl, bndL] at hr
      simp only [Option.bind_some, opS, e, if_true] at hr
      split at hr
      · assumption
      · cases hr
    exact rest1_ok c s p hP e hl hsl.1 hsl.2
  · have hl : p.kids.length = 1 := by rw [e] at hw; simp [wants] at hw; omega
    obtain ⟨b, h1, h2, h3, h4, h5, h6⟩ := hk 0 (by omega)
    rw [if_neg (by omega), if_pos (.inl e), getD_kids c s p (by omega)]
    simp only [Int.natCast_zero] at *
    rw [h3]
    rw [bnd_one hl (by rw [hw, hl]), h1] at hr
    have hE : edgeB c p b = true := by
      simp only [Option.bind_some, opS, e] at hr
      simp at hr
      exact hr
    simp [edgeB] at hE
    exact rest2_ok c s p _ b hP e hl (by omega) (by omega) (by omega) h4 h5 h6 h2
  · have hl : p.kids.length = 1 := by rw [e] at hw; simp [wants] at hw; omega
    obtain ⟨b, h1, h2, h3, h4, h5, h6⟩ := hk 0 (by omega)
    rw [if_neg (by omega), if_pos (.inr e), getD_kids c s p (by omega)]
    simp only [Int.natCast_zero] at *
    rw [h3]
    rw [bnd_one hl (by rw [hw, hl]), h1] at hr
    have hE : edgeB c p b = true := by
      simp only [Option.bind_some, opS, e] at hr
      simp at hr
      exact hr
    simp [edgeB] at hE
    exact rest3_ok c s p _ b hP e hl (by omega) (by omega) (by omega) h4 h5 h6 h2
  · have hl : p.kids.length = 2 := by rw [e] at hw; simp [wants] at hw; omega
    obtain ⟨b, h1, h2, h3, h4, h5, h6⟩ := hk 0 (by omega)
    obtain ⟨b', h1', h2', h3', h4', h5', h6'⟩ := hk 1 (by omega)
    rw [if_neg (by omega), if_neg (by omega), if_pos e, getD_kids c s p (by omega), getD_kids c s p (by omega)]
    simp only [Int.natCast_zero, Int.natCast_one] at *
    rw [h3, h3']
    exact rest4_ok c s p _ _ b b' hP e hl h4 h5 h6 h2 h4' h5' h6' h2'
  · have hl : p.kids.length = 1 := by rw [e] at hw; simp [wants] at hw; omega
    obtain ⟨b, h1, h2, h3, h4, h5, h6⟩ := hk 0 (by omega)
    rw [if_neg (by omega), if_neg (by omega), if_neg (by omega), if_pos e, getD_kids c s p (by omega)]
    simp only [Int.natCast_zero] at *
    rw [bnd_one hl (by rw [hw, hl]), h1] at hr
    have hM : meetB c p b = true := by
      simp only [Option.bind_some, opS, e] at hr
      simp at hr
      exact hr
    simp only [meetB, Bool.and_eq_true, Bool.not_eq_true'] at hM
    have hs := hM.1
    simp [badSlot] at hs
    exact rest5_ok c s p _ b hP e hl (by omega) (by omega) (fun i hi => meetL_all hM.2 _ (rdI_mem (by omega) (by omega))) h4 h5 h6 h2
  · have hl : p.kids.length = 1 := by rw [e] at hw; simp [wants] at hw; omega
    obtain ⟨b, h1, h2, h3, h4, h5, h6⟩ := hk 0 (by omega)
    rw [if_neg (by omega), if_neg (by omega), if_neg (by omega), if_neg (by omega), getD_kids c s p (by omega)]
    simp only [Int.natCast_zero] at *
    exact rest6_ok c s p _ b hP e hl h4 h5 h6 h2
termination_by SizeOf.sizeOf p
theorem REstimateA_ok (c : CoreT) (s : StatsT) (p : PlanT) (b : List Bool) (hB : Snd P 21 [.d (.ag (encP p)), .d (.ag (encC c))] (.tup [.d (.sl false (b.map encB)), .int 0]) []) (hE : Snd P 33 [.d (.ag (encP p)), .d (.ag (encC c)), .d (.ag (encS s))] (.int (estT c s p)) []) : Snd P 16 [.d (.ag (encP p)), .d (.ag (encC c)), .d (.ag (encS s))] (.int (estT c s p)) [] := by
  rw [encP_cells] at hB hE
  refine snd_of [] Try.func16 rfl (by kernel_rfl) Try.ntmps16 (by simp) ?_
  unfold Try.f16
  simp only [List.cons_append, List.nil_append, List.length_cons, List.length_nil, Nat.reduceAdd, Nat.reduceSub, List.replicate]
  refine Run.seq ?_
  refine opsF oo45 fun K hK => ?_
  try simp
  repeat' first | ((refine evL_c ?_); simp) | (with_reducible refine And.intro ?_ ?_) | intro _ | (with_reducible assumption) | omega
  all_goals (refine Fin.go hK ?_; clear hK K)
  simp only [Then_normal]
  refine Run.seq ?_
  refine opsF oo117 fun K hK => ?_
  try simp
  repeat' first | (refine ecall (by exact hB) rfl ?_) | ((refine evL_c ?_); simp) | (with_reducible refine And.intro ?_ ?_) | intro _ | (with_reducible assumption) | omega
  all_goals (refine Fin.go hK ?_; clear hK K)
  simp only [Then_normal]
  refine Run.seq ?_
  refine Run.seq ?_
  refine opsF oo89 fun K hK => ?_
  try simp
  repeat' first | ((refine evL_c ?_); simp) | (with_reducible refine And.intro ?_ ?_) | intro _ | (with_reducible assumption) | omega
  all_goals (refine Fin.go hK ?_; clear hK K)
  simp only [Then_normal]
  refine Run.cond rfl (fun h16 => ?_) (fun h16 => ?_)
  · simp at h16
  · skip
    refine Run.skip ?_
    simp only [Then_normal]
    refine Run.seq ?_
    refine opsF [⟨Op.load 27 (Operand.tmp 3), some 17, none⟩, ⟨Op.load 33 (Operand.tmp 4), some 18, none⟩, ⟨Op.load 53 (Operand.tmp 5), some 19, none⟩, ⟨Op.call { callee := Callee.value (Operand.func 33), args := #[Operand.tmp 17, Operand.tmp 18, Operand.tmp 19], argTypes := #[27, 33, 53] }, some 20, none⟩, ⟨Op.assign (Operand.tmp 20), some 6, none⟩] fun K hK => ?_
    try simp
    repeat' first | (refine ecallD (by exact hE) ?_) | ((refine evL_c ?_); simp) | (with_reducible refine And.intro ?_ ?_) | intro _ | (with_reducible assumption) | omega
    all_goals (refine Fin.go hK ?_; clear hK K)
    simp only [Then_normal]
    refine Run.ret ?_
    try simp only [Then_ret, Blok_ret]
    simp

theorem REstimateB_ok (c : CoreT) (s : StatsT) (p : PlanT) (x : D) (n : Int) (hB : Snd P 21 [.d (.ag (encP p)), .d (.ag (encC c))] (.tup [.d x, .int n]) []) (hn : n ≠ 0) : Snd P 16 [.d (.ag (encP p)), .d (.ag (encC c)), .d (.ag (encS s))] (.int 0) [] := by
  rw [encP_cells] at hB
  refine snd_of [] Try.func16 rfl (by kernel_rfl) Try.ntmps16 (by simp) ?_
  unfold Try.f16
  simp only [List.cons_append, List.nil_append, List.length_cons, List.length_nil, Nat.reduceAdd, Nat.reduceSub, List.replicate]
  refine Run.seq ?_
  refine opsF oo45 fun K hK => ?_
  try simp
  repeat' first | ((refine evL_c ?_); simp [hn]) | (with_reducible refine And.intro ?_ ?_) | intro _ | (with_reducible assumption) | omega
  all_goals (refine Fin.go hK ?_; clear hK K)
  simp only [Then_normal]
  refine Run.seq ?_
  refine opsF oo117 fun K hK => ?_
  try simp
  repeat' first | (refine ecall (by exact hB) rfl ?_) | ((refine evL_c ?_); simp [hn]) | (with_reducible refine And.intro ?_ ?_) | intro _ | (with_reducible assumption) | omega
  all_goals (refine Fin.go hK ?_; clear hK K)
  simp only [Then_normal]
  refine Run.seq ?_
  refine Run.seq ?_
  refine opsF oo89 fun K hK => ?_
  try simp
  repeat' first | ((refine evL_c ?_); simp [hn]) | (with_reducible refine And.intro ?_ ?_) | intro _ | (with_reducible assumption) | omega
  all_goals (refine Fin.go hK ?_; clear hK K)
  simp only [Then_normal]
  refine Run.cond rfl (fun h16 => ?_) (fun h16 => ?_)
  · skip
    refine Run.seq ?_
    refine opsF oo42 fun K hK => ?_
    try simp
    repeat' first | ((refine evL_c ?_); simp [hn]) | (with_reducible refine And.intro ?_ ?_) | intro _ | (with_reducible assumption) | omega
    all_goals (refine Fin.go hK ?_; clear hK K)
    simp only [Then_normal]
    refine Run.ret ?_
    try simp only [Then_ret, Blok_ret]
    simp
  · simp at h16


theorem REstimate_ok (c : CoreT) (s : StatsT) (p : PlanT) (hf : partsP p ≤ 1000000) : Snd P 16 [.d (.ag (encP p)), .d (.ag (encC c)), .d (.ag (encS s))] (.int (estS c s p)) [] := by
  unfold estS
  by_cases h : patS c.nodes c.edges = true ∧ (bndT c p).isSome = true
  · rw [if_pos h]
    obtain ⟨b, hb⟩ := Option.isSome_iff_exists.1 h.2
    exact REstimateA_ok c s p b (rboundD_some h.1 hf hb) (rest_ok c s h.1 p hf h.2)
  · rw [if_neg h]
    refine REstimateB_ok c s p (.lit (.slice none 0 0)) (boundD c p).2 ?_ ?_
    · have hB := RBound_ok c p hf
      have e : (boundD c p).1 = .lit (.slice none 0 0) := by
        unfold boundD
        cases hP : patS c.nodes c.edges with
        | false => rfl
        | true =>
          cases hb : bndT c p with
          | none => rfl
          | some b => exact absurd ⟨hP, by rw [hb]; rfl⟩ h
      rw [e] at hB; exact hB
    · unfold boundD
      cases hP : patS c.nodes c.edges with
      | false => simp
      | true =>
        cases hb : bndT c p with
        | none => simp
        | some b => exact absurd ⟨hP, by rw [hb]; rfl⟩ h
set_option maxHeartbeats 4000000 in
theorem rcost1_ok (c : CoreT) (s : StatsT) (p : PlanT) (hf : partsP p ≤ 1000000) (IH : ∀ i : Nat, i < p.kids.length → Snd P 18 [.d (.ag (encP (rdI p.kids i))), .d (.ag (encC c)), .d (.ag (encS s))] (.int (costT c s (rdI p.kids i))) []) : Snd P 18 [.d (.ag (encP p)), .d (.ag (encC c)), .d (.ag (encS s))] (.int (costT c s p)) [] := by
  refine Snd.ok 0 rfl (by kernel_rfl) fun hok => ?_
  have hkm := (encP_ok hok).1
  clear hok
  have hE := REstimate_ok c s p hf
  rw [encP_cells] at hE
  have hce := costT_eq c s p
  have her := estS_nn c s p
  obtain ⟨m, hm⟩ : ∃ m, p.kids.length = m := ⟨_, rfl⟩
  obtain ⟨e0, he0⟩ : ∃ m, estS c s p = m := ⟨_, rfl⟩
  rw [he0] at hE hce her
  rw [hm] at hkm
  refine snd_of [] Try.func18 rfl (by kernel_rfl) Try.ntmps18 (by simp) ?_
  unfold Try.f18
  simp only [List.cons_append, List.nil_append, List.length_cons, List.length_nil, Nat.reduceAdd, Nat.reduceSub, List.replicate]
  refine Run.seq ?_
  refine opsF oo45 fun K hK => ?_
  try simp
  repeat' first | ((refine evL_c ?_); simp [hm]) | (with_reducible refine And.intro ?_ ?_) | intro _ | (with_reducible assumption) | omega
  all_goals (refine Fin.go hK ?_; clear hK K)
  simp only [Then_normal]
  refine Run.seq ?_
  refine opsF [⟨Op.load 27 (Operand.tmp 3), some 9, none⟩, ⟨Op.load 33 (Operand.tmp 4), some 10, none⟩, ⟨Op.load 53 (Operand.tmp 5), some 11, none⟩, ⟨Op.call { callee := Callee.value (Operand.func 16), args := #[Operand.tmp 9, Operand.tmp 10, Operand.tmp 11], argTypes := #[27, 33, 53] }, some 12, none⟩, ⟨Op.assign (Operand.tmp 12), some 7, none⟩] fun K hK => ?_
  try simp
  repeat' first | (refine ecallD (by exact hE) ?_) | ((refine evL_c ?_); simp [hm]) | (with_reducible refine And.intro ?_ ?_) | intro _ | (with_reducible assumption) | omega
  all_goals (refine Fin.go hK ?_; clear hK K)
  simp only [Then_normal]
  refine Run.seq ?_
  refine Run.seq ?_
  refine opsF [⟨Op.assign (Operand.const (Value.int IntKind.i64 0)), some 8, none⟩] fun K hK => ?_
  try simp
  repeat' first | ((refine evL_c ?_); simp [hm]) | (with_reducible refine And.intro ?_ ?_) | intro _ | (with_reducible assumption) | omega
  all_goals (refine Fin.go hK ?_; clear hK K)
  simp only [Then_normal]
  refine Run.block ?_
  refine Run.loopO [7, 8, 13, 14, 15, 16, 17, 18, 19, 20, 21, 22, 23, 24, 25, 26, 27, 28, 29, 30] (fun (x : Nat × Int) => [(8, .int x.1), (7, .int x.2)]) (fun (x : Nat × Int) => [(400, .vals ((encP p).map .d)), (500, .vals ((encC c).map .d)), (600, .vals ((encS s).map .d))]) (fun (x : Nat × Int) => x.1 ≤ m ∧ (0 ≤ x.2 ∧ x.2 ≤ 1099511627776) ∧ costL c s (p.kids.drop x.1) x.2 = costT c s p) (fun (x : Nat × Int) => m - x.1) (0, e0) ⟨by omega, her, hce.symm⟩ (by simp) fun ⟨i, n⟩ ⟨hi, hr, hg⟩ => ?_
  simp only at hi hr hg
  simp only [over, List.foldl, List.set]
  refine Run.seq ?_
  refine Run.seq ?_
  refine opsF [⟨Op.move (Operand.tmp 8), some 13, none⟩, ⟨Op.fieldAddr 27 (Operand.tmp 3) 1, some 14, none⟩, ⟨Op.load 23 (Operand.tmp 14), some 15, none⟩, ⟨Op.call { callee := Callee.builtin Builtin.len, args := #[Operand.tmp 15], argTypes := #[23] }, some 16, none⟩, ⟨Op.binOp BinOp.lss 3 (Operand.tmp 13) (Operand.tmp 16) 3, some 17, none⟩] fun K hK => ?_
  try simp
  repeat' first | ((refine evL_c ?_); simp [hm]) | (with_reducible refine And.intro ?_ ?_) | intro _ | (with_reducible assumption) | omega
  all_goals (refine Fin.go hK ?_; clear hK K)
  simp only [Then_normal]
  refine Run.cond rfl (fun h17 => ?_) (fun h17 => ?_)
  · try simp at h17
    have hi1 : i < m := by omega
    have hT := IH i (by omega)
    have hkr := costT_rng c s (rdI p.kids i)
    obtain ⟨k, hk⟩ : ∃ x, costT c s (rdI p.kids i) = x := ⟨_, rfl⟩
    rw [hk] at hT hkr
    rw [encP_cells] at hT
    have hw : IntKind.i64.wrap (n + k) = n + k := wrap_id (by omega) (by omega)
    refine Run.skip ?_
    simp only [Then_normal]
    refine Run.seq ?_
    refine Run.block ?_
    refine opsF [⟨Op.move (Operand.tmp 7), some 20, none⟩, ⟨Op.fieldAddr 27 (Operand.tmp 3) 1, some 21, none⟩, ⟨Op.load 23 (Operand.tmp 21), some 22, none⟩, ⟨Op.move (Operand.tmp 8), some 23, none⟩, ⟨Op.indexAddr 23 (Operand.tmp 22) (Operand.tmp 23), some 24, none⟩, ⟨Op.load 27 (Operand.tmp 24), some 25, none⟩, ⟨Op.load 33 (Operand.tmp 4), some 26, none⟩, ⟨Op.load 53 (Operand.tmp 5), some 27, none⟩, ⟨Op.call { callee := Callee.value (Operand.func 18), args := #[Operand.tmp 25, Operand.tmp 26, Operand.tmp 27], argTypes := #[27, 33, 53] }, some 28, none⟩, ⟨Op.binOp BinOp.add 2 (Operand.tmp 20) (Operand.tmp 28) 2, some 29, none⟩, ⟨Op.call { callee := Callee.value (Operand.func 35), args := #[Operand.tmp 29], argTypes := #[2] }, some 30, none⟩, ⟨Op.assign (Operand.tmp 30), some 7, none⟩] fun K hK => ?_
    try simp
    repeat' first | (refine ecallD (by exact hT) ?_) | (refine ecallD (rclip_ok _) ?_) | ((refine evL_c ?_); simp [hm, hi1, hw]) | (with_reducible refine And.intro ?_ ?_) | intro _ | (with_reducible assumption) | omega
    all_goals (refine Fin.go hK ?_; clear hK K)
    simp only [Blok_normal]
    simp only [Then_normal]
    refine opsF [⟨Op.move (Operand.tmp 8), some 18, none⟩, ⟨Op.binOp BinOp.add 3 (Operand.tmp 18) (Operand.const (Value.int IntKind.i64 1)) 3, some 19, none⟩, ⟨Op.assign (Operand.tmp 19), some 8, none⟩] fun K hK => ?_
    try simp
    repeat' first | ((refine evL_c ?_); simp [hm, hi1, hw]) | (with_reducible refine And.intro ?_ ?_) | intro _ | (with_reducible assumption) | omega
    all_goals (refine Fin.go hK ?_; clear hK K)
    refine ⟨(i + 1, clipS (n + k)), ⟨by simp; omega, clip_rng _, ?_⟩, by simp; omega, ?_⟩
    · rw [← hg, costL_step (l := p.kids) (i := i) (n := n) (by omega), hk]
    · simp (disch := omega) [hm, wrap_id]
  · try simp at h17
    rw [costL_end (by omega)] at hg
    refine Run.exit ?_
    simp (decide := true) only [Then_exit, Blok_exit, if_true, if_false]
    simp only [Then_normal]
    refine Run.seq ?_
    refine opsF [⟨Op.move (Operand.tmp 7), some 31, none⟩, ⟨Op.assign (Operand.tmp 31), some 6, none⟩] fun K hK => ?_
    try simp
    repeat' first | ((refine evL_c ?_); simp [hm]) | (with_reducible refine And.intro ?_ ?_) | intro _ | (with_reducible assumption) | omega
    all_goals (refine Fin.go hK ?_; clear hK K)
    simp only [Then_normal]
    refine Run.ret ?_
    try simp only [Then_ret, Blok_ret]
    simp [hg]


theorem rcost_ok (c : CoreT) (s : StatsT) (p : PlanT) (hf : partsP p ≤ 1000000) : Snd P 18 [.d (.ag (encP p)), .d (.ag (encC c)), .d (.ag (encS s))] (.int (costT c s p)) [] :=
  rcost1_ok c s p hf fun i hi =>
    have := kids_lt (kid_mem (p := p) hi)
    rcost_ok c s (rdI p.kids i) (kid_fine hf hi)
termination_by SizeOf.sizeOf p
end Go.Proofs.Ytihbejpkfifplaa.Z
end
section
set_option maxRecDepth 100000
namespace Go.Proofs.Ytihbejpkfifplaa.Z
open Go Go.Fw
set_option maxHeartbeats 4000000 in
theorem ests_ok (p : PlanT) (c : CoreT) (s : StatsT) (hp : partsP p ≤ 2000000) : Snd P 6 [.d (.ag (encP p)), .d (.ag (encC c)), .d (.ag (encS s))] (.bool true) [] := by
  have hA := parts_ok p hp 400 (by omega) (by omega)
  obtain ⟨pa, hpa⟩ : ∃ x, partsR p 400 = x := ⟨_, rfl⟩
  rw [hpa, encP_cells] at hA
  refine snd_of [] Try.func6 rfl (by kernel_rfl) Try.ntmps6 (by simp) ?_
  unfold Try.f6
  simp only [List.cons_append, List.nil_append, List.length_cons, List.length_nil, Nat.reduceAdd, Nat.reduceSub, List.replicate]
  refine Run.seq ?_
  refine opsF [⟨Op.box 27 (Operand.tmp 0), some 3, none⟩, ⟨Op.box 33 (Operand.tmp 1), some 4, none⟩, ⟨Op.box 53 (Operand.tmp 2), some 5, none⟩, ⟨Op.assign (Operand.const (Value.bool false)), some 6, none⟩] fun K hK => ?_
  try simp
  repeat' first | ((refine evL_c ?_); simp) | (with_reducible refine And.intro ?_ ?_) | intro _ | (with_reducible assumption) | omega
  all_goals (refine Fin.go hK ?_; clear hK K)
  simp only [Then_normal]
  refine Run.seq ?_
  refine opsF [⟨Op.call { callee := Callee.value (Operand.func 14), args := #[], argTypes := #[] }, some 8, none⟩, ⟨Op.assign (Operand.tmp 8), some 7, none⟩] fun K hK => ?_
  try simp
  repeat' first | (refine ecallD head15_ok ?_) | ((refine evL_c ?_); simp) | (with_reducible refine And.intro ?_ ?_) | intro _ | (with_reducible assumption) | omega
  all_goals (refine Fin.go hK ?_; clear hK K)
  simp only [Then_normal]
  refine Run.seq ?_
  refine Run.seq ?_
  refine opsF [⟨Op.load 27 (Operand.tmp 3), some 9, none⟩, ⟨Op.call { callee := Callee.value (Operand.func 11), args := #[Operand.tmp 9, Operand.const (Value.int IntKind.i64 400)], argTypes := #[27, 3] }, some 10, none⟩, ⟨Op.binOp BinOp.gtr 3 (Operand.tmp 10) (Operand.const (Value.int IntKind.i64 400)) 3, some 11, none⟩] fun K hK => ?_
  try simp
  repeat' first | (refine ecallD (by exact hA) ?_) | ((refine evL_c ?_); simp) | (with_reducible refine And.intro ?_ ?_) | intro _ | (with_reducible assumption) | omega
  all_goals (refine Fin.go hK ?_; clear hK K)
  simp only [Then_normal]
  refine Run.cond rfl (fun h11 => ?_) (fun h11 => ?_)
  · try simp at h11
    refine Run.seq ?_
    refine opsF [⟨Op.move (Operand.tmp 7), some 12, none⟩, ⟨Op.assign (Operand.tmp 12), some 6, none⟩] fun K hK => ?_
    try simp
    repeat' first | ((refine evL_c ?_); simp) | (with_reducible refine And.intro ?_ ?_) | intro _ | (with_reducible assumption) | omega
    all_goals (refine Fin.go hK ?_; clear hK K)
    simp only [Then_normal]
    refine Run.ret ?_
    try simp only [Then_ret, Blok_ret]
    simp
  · try simp at h11
    have e1 := partsR_all p 400 hp (by omega)
    have hf : partsP p ≤ 1000000 := by omega
    have h1 := Estimate_ok c s p hf
    have h2 := REstimate_ok c s p hf
    have h3 := cost_ok c s p hf
    have h4 := rcost_ok c s p hf
    rw [encP_cells] at h1 h2 h3 h4
    obtain ⟨e0, he0⟩ : ∃ x, estS c s p = x := ⟨_, rfl⟩
    obtain ⟨k0, hk0⟩ : ∃ x, costT c s p = x := ⟨_, rfl⟩
    rw [he0] at h1 h2
    rw [hk0] at h3 h4
    refine Run.skip ?_
    simp only [Then_normal]
    refine Run.seq ?_
    refine opsF [⟨Op.move (Operand.tmp 7), some 13, none⟩, ⟨Op.move (Operand.tmp 13), some 14, none⟩, ⟨Op.load 27 (Operand.tmp 3), some 15, some (some 14, true)⟩, ⟨Op.load 33 (Operand.tmp 4), some 16, some (some 14, true)⟩, ⟨Op.load 53 (Operand.tmp 5), some 17, some (some 14, true)⟩, ⟨Op.call { callee := Callee.value (Operand.func 15), args := #[Operand.tmp 15, Operand.tmp 16, Operand.tmp 17], argTypes := #[27, 33, 53] }, some 18, some (some 14, true)⟩, ⟨Op.load 27 (Operand.tmp 3), some 19, some (some 14, true)⟩, ⟨Op.load 33 (Operand.tmp 4), some 20, some (some 14, true)⟩, ⟨Op.load 53 (Operand.tmp 5), some 21, some (some 14, true)⟩, ⟨Op.call { callee := Callee.value (Operand.func 16), args := #[Operand.tmp 19, Operand.tmp 20, Operand.tmp 21], argTypes := #[27, 33, 53] }, some 22, some (some 14, true)⟩, ⟨Op.binOp BinOp.eql 2 (Operand.tmp 18) (Operand.tmp 22) 2, some 23, some (some 14, true)⟩, ⟨Op.pick (Operand.tmp 14) (Operand.tmp 23) (Operand.const (Value.bool false)), some 24, none⟩, ⟨Op.move (Operand.tmp 24), some 25, none⟩, ⟨Op.load 27 (Operand.tmp 3), some 26, some (some 25, true)⟩, ⟨Op.load 33 (Operand.tmp 4), some 27, some (some 25, true)⟩, ⟨Op.load 53 (Operand.tmp 5), some 28, some (some 25, true)⟩, ⟨Op.call { callee := Callee.value (Operand.func 17), args := #[Operand.tmp 26, Operand.tmp 27, Operand.tmp 28], argTypes := #[27, 33, 53] }, some 29, some (some 25, true)⟩, ⟨Op.load 27 (Operand.tmp 3), some 30, some (some 25, true)⟩, ⟨Op.load 33 (Operand.tmp 4), some 31, some (some 25, true)⟩, ⟨Op.load 53 (Operand.tmp 5), some 32, some (some 25, true)⟩, ⟨Op.call { callee := Callee.value (Operand.func 18), args := #[Operand.tmp 30, Operand.tmp 31, Operand.tmp 32], argTypes := #[27, 33, 53] }, some 33, some (some 25, true)⟩, ⟨Op.binOp BinOp.eql 2 (Operand.tmp 29) (Operand.tmp 33) 2, some 34, some (some 25, true)⟩, ⟨Op.pick (Operand.tmp 25) (Operand.tmp 34) (Operand.const (Value.bool false)), some 35, none⟩, ⟨Op.assign (Operand.tmp 35), some 6, none⟩] fun K hK => ?_
    try simp
    repeat' first | (refine ecallD (by exact h1) ?_) | (refine ecallD (by exact h2) ?_) | (refine ecallD (by exact h3) ?_) | (refine ecallD (by exact h4) ?_) | ((first | refine evL_c ?_ | (refine evL_g rfl ?_; try simp only [gs_tt, gs_ff, gs_tf, gs_ft]) | refine evL_u rfl ?_ | (with_reducible refine gsplit (fun hg => ?_) (fun hg => ?_) <;> try simp at hg)) <;> try simp) | (with_reducible refine And.intro ?_ ?_) | intro _ | (with_reducible assumption) | omega
    all_goals (refine Fin.go hK ?_; clear hK K)
    all_goals
      simp only [Then_normal]
      refine Run.ret ?_
      try simp only [Then_ret, Blok_ret]
      simp


end Go.Proofs.Ytihbejpkfifplaa.Z
end
section
set_option maxRecDepth 100000
namespace Go.Proofs.Ytihbejpkfifplaa.Z
open Go Go.Fw Go.ChangeShapes Go.WideShapes Go.ChangeAt Go.RowKit Go.Joins Go.Deep
def lay (P : Program) (t : TypeId) : List (Nat × TypeId) := match P.underlying t with
  | some (.struct fs) => fs.toList.map fun f => (f.offset, f.type)
  | _ => []
abbrev CR (w : World) (ds : List D) (cs : List Value) : Prop := All2 (fun x v => v.oneCell = true ∧ DRel w (fun _ => False) x v) ds cs
theorem CR.one {w : World} {x : D} {v : Value} (h1 : v.oneCell = true) (h2 : DRel w (fun _ => False) x v) : CR w [x] [v] := All2.cons ⟨h1, h2⟩ All2.nil
theorem ok_wf {n : Int} (h : (Lit.int .i64 n).wf = true) : okLit (.int .i64 n) = true := by
  have := bounds_i64 h
  simp; omega
theorem ok_strl {s : ByteArray} (h : s.size ≤ maxLen) : okLit (.string s) = true := by
  have : s.size ≤ 9223372036854775807 := Nat.le_trans h (by decide)
  simp [this]
section
variable {H : Type} {enc : TypeId × Value → H} {P : Program} {w : World} {base : Nat} {spare : Nat → Bool} {held : Bool} {fuel : Nat} {t : TypeId} {cs : List Value} {x : DataW H × List MemPlace}
theorem rd_struct {l : List (Nat × TypeId)} (hl : lay P t = l) (h0 : l ≠ []) (h : DataW.trod enc P w base spare held fuel t cs = some x) :
    ∃ (xs : List (DataW H × List MemPlace)) (n : Nat), fuel = n + 1 ∧ x.1 = .agg (xs.map (·.1)) ∧ cs.length = P.cellsOf t ∧ xs.length = l.length ∧
      ∀ (i o : Nat) (ty : TypeId), l[i]? = some (o, ty) → DataW.trod enc P w base spare held n ty ((cs.drop o).take (P.cellsOf ty)) = xs[i]? := by
  unfold lay at hl
  split at hl
  · rename_i fs hu
    obtain ⟨xs, n, h1, h2, h3, h4, h5⟩ := DataW.trod_struct hu h
    subst hl
    refine ⟨xs, n, h1, by rw [h2], h3, by simp [h4], fun i o ty hi => ?_⟩
    rw [List.getElem?_map, Array.getElem?_toList] at hi
    obtain ⟨f, hf, e⟩ := Option.map_eq_some_iff.1 hi
    cases e
    exact h5 i f hf
  · exact absurd hl.symm h0
theorem rd_int (ht : P.underlying t = some (.int .i64)) (h : DataW.trod enc P w base spare held fuel t cs = some x) : ∃ v : Int, CR w (encI v) cs ∧ 1 ≤ Rows.uptoBulk x.1 := by
  obtain ⟨n, rfl, rfl, hw⟩ := DataW.trod_int ht h
  exact ⟨n, CR.one rfl (.lit _ (ok_wf hw)), by simp [Rows.uptoBulk]⟩
theorem rd_raw {e : TypeId} (ht : P.underlying t = some (.slice e)) (h : DataW.trod enc P w base spare held fuel t cs = some x) : ∃ v : Value, cs = [v] ∧ v.oneCell = true ∧ okLit v = true := by
  rcases DataW.trod_slice ht h with ⟨rfl, rfl⟩ | ⟨a, len, cap, elems, rest, n, hf, rfl, rfl, _⟩
  · exact ⟨_, rfl, rfl, rfl⟩
  · exact ⟨_, rfl, rfl, rfl⟩
theorem sum_bulk {α : Type} (μ : α → Nat) (l : List α) (es : List (DataW H × List MemPlace)) (hl : l.length = es.length) (h : ∀ (i : Nat) (v : α) (x : DataW H × List MemPlace), l[i]? = some v → es[i]? = some x → μ v ≤ Rows.uptoBulk x.1) : (l.map μ).sum ≤ Rows.uptoBulkAll (es.map (·.1)) := by
  induction l generalizing es with
  | nil => simp
  | cons v r ih =>
    cases es with
    | nil => simp at hl
    | cons x t =>
      have h1 := h 0 v x rfl rfl
      have h2 := ih t (by simpa using hl) fun i v x hv hx => h (i + 1) v x (by simpa using hv) (by simpa using hx)
      simp only [List.map_cons, List.sum_cons, Rows.uptoBulkAll]
      omega
theorem rd_slice {α : Type} [Inhabited α] (en : α → List D) (μ : α → Nat) {e : TypeId} {sz : Nat} (ht : P.underlying t = some (.slice e)) (hsz : P.cellsOf e = sz) (h0 : 0 < sz)
    (hel : ∀ n, fuel = n + 1 → ∀ cs x, DataW.trod enc P w base spare held n e cs = some x → ∃ v, CR w (en v) cs ∧ μ v ≤ Rows.uptoBulk x.1) (h : DataW.trod enc P w base spare held fuel t cs = some x) :
    ∃ (sv : Value) (l : List α), cs = [sv] ∧ sv.oneCell = true ∧ DRel w (fun _ => False) (.sl false (l.map en)) sv ∧ (l.map μ).sum + 1 ≤ Rows.uptoBulk x.1 := by
  rcases DataW.trod_slice ht h with ⟨rfl, rfl⟩ | ⟨a, len, cap, elems, rest, n, hf, rfl, rfl, hb, hl, hm, hlen, hi, _, _⟩
  · exact ⟨.slice none 0 0, [], rfl, rfl, .slE false none 0 (by simp), by simp [Rows.uptoBulk]⟩
  · obtain ⟨f, hF⟩ := choose_lt (α := α) (n := len) (p := fun i v => ∃ c, CR w (en v) c ∧ c.length = sz ∧ (∀ j u, c[j]? = some u → w.cell? (a.add (i * sz + j)) = some u) ∧ ∀ x, elems[i]? = some x → μ v ≤ Rows.uptoBulk x.1) (fun i hlt => by
      have h1 := hi i hlt
      rw [List.getElem?_eq_getElem (by omega)] at h1
      obtain ⟨c, h2, h3⟩ := Option.bind_eq_some_iff.1 h1
      obtain ⟨_, h4, h5⟩ := World.cells?_some h2
      obtain ⟨v, hk, hp⟩ := hel n hf c _ h3
      refine ⟨v, c, hk, h4.trans hsz, fun j u hu => ?_, fun x hx => ?_⟩
      · have hj : j < P.cellsOf e := by
          rw [← h4]
          exact (List.getElem?_eq_some_iff.1 hu).1
        have h6 := h5 j hj
        rw [hu, Go.Deep.add_add, hsz] at h6
        exact h6
      · rw [List.getElem?_eq_getElem (by omega)] at hx
        rw [← Option.some.inj hx]; exact hp)
    have hbk : (((List.range len).map f).map μ).sum + 1 ≤ Rows.uptoBulk (DataW.slice (elems.map (·.1)) (rest.map (·.1))) := by
      have := sum_bulk μ ((List.range len).map f) elems (by simp [hlen]) fun i v x hv hx => by
        rw [List.getElem?_map] at hv
        obtain ⟨k, hk, rfl⟩ := Option.map_eq_some_iff.1 hv
        have hlt : i < len := by have := (List.getElem?_eq_some_iff.1 hk).1; simpa using this
        have : k = i := by rw [List.getElem?_range hlt] at hk; exact (Option.some.inj hk).symm
        subst this
        obtain ⟨c, _, _, _, h4⟩ := hF k hlt
        exact h4 x hx
      simp only [Rows.uptoBulk]; omega
    by_cases hz : len = 0
    · subst hz
      exact ⟨.slice (some a) 0 cap, [], rfl, rfl, .slE false (some a) cap (by simp), by simpa using hbk⟩
    · refine ⟨.slice (some a) len cap, (List.range len).map f, rfl, rfl, ?_, hbk⟩
      obtain ⟨b, off, spot⟩ := a
      have hsp : spot = none := by
        obtain ⟨c, h1, h2, h3, _⟩ := hF 0 (by omega)
        obtain ⟨u, hu⟩ : ∃ u, c[0]? = some u := ⟨c[0], List.getElem?_eq_getElem (by omega)⟩
        have := h3 0 u hu
        cases spot with
        | none => rfl
        | some q =>
          simp [World.cell?, Addr.add] at this
          split at this
          · cases this
          · cases this
      subst hsp
      have key : ∀ i j r y, (((List.range len).map f).map en)[i]? = some r → r[j]? = some y → ∃ u, w.cell? ⟨b, off + i * sz + j, none⟩ = some u ∧ u.oneCell = true ∧ DRel w (fun _ => False) y u := fun i j r y hr hy => by
        rw [List.getElem?_map, List.getElem?_map] at hr
        obtain ⟨v, hv, rfl⟩ := Option.map_eq_some_iff.1 hr
        obtain ⟨k, hk, rfl⟩ := Option.map_eq_some_iff.1 hv
        have hlt : i < len := by have := (List.getElem?_eq_some_iff.1 hk).1; simpa using this
        have : k = i := by rw [List.getElem?_range hlt] at hk; exact (Option.some.inj hk).symm
        subst this
        obtain ⟨c, h1, _, h3, _⟩ := hF k hlt
        obtain ⟨u, hu, ho, hd⟩ := h1.get hy
        have := h3 j u hu
        have e : (Addr.add ⟨b, off, none⟩ (k * sz + j)) = ⟨b, off + k * sz + j, none⟩ := by
          unfold Addr.add
          split
          · rename_i q; rw [Nat.add_assoc, q]; rfl
          · simp [Nat.add_assoc]
        rw [e] at this
        exact ⟨u, this, ho, hd⟩
      have hlen2 : (((List.range len).map f).map en).length = len := by simp
      have := DRel.sl (w := w) (L := fun _ => False) false (((List.range len).map f).map en) b off cap sz (fun i j => (w.cell? ⟨b, off + i * sz + j, none⟩).getD (.bool false)) (fun _ _ _ _ _ _ h => h) (by rw [hlen2]; exact hl) (by rw [hlen2]; exact Nat.le_trans hl (Nat.le_trans hm (by decide)))
        (fun r hr => by
          obtain ⟨v, hv, rfl⟩ := List.mem_map.1 hr
          obtain ⟨i, hi, rfl⟩ := List.mem_map.1 hv
          obtain ⟨c, h1, h2, _⟩ := hF i (by simpa using hi)
          rw [← h1.len, h2])
        (fun i j r y hr hy => by obtain ⟨u, h1, _⟩ := key i j r y hr hy; simp [h1])
        (fun i j r y hr hy => by obtain ⟨u, h1, h2, _⟩ := key i j r y hr hy; simpa [h1] using h2)
        (fun i j r y hr hy => by obtain ⟨u, h1, _, h3⟩ := key i j r y hr hy; simpa [h1] using h3)
      rw [hlen2] at this
      exact this
theorem cntL_sum (l : List TermT) : cntL l = (l.map cntT).sum := by
  induction l with
  | nil => rfl
  | cons t r ih => rw [cntL, ih]; rfl
theorem partsL_sum (l : List PlanT) : partsL l = (l.map partsP).sum := by
  induction l with
  | nil => rfl
  | cons t r ih => rw [partsL, ih]; rfl
theorem sum_len (l : List Int) : (l.map fun _ => 1).sum = l.length := by
  induction l with
  | nil => rfl
  | cons t r ih => simp only [List.map_cons, List.sum_cons, List.length_cons, ih]; omega
theorem sum_one (l : List TermT) : (l.map fun t => 1 + cntT t).sum = l.length + (l.map cntT).sum := by
  induction l with
  | nil => rfl
  | cons t r ih => simp only [List.map_cons, List.sum_cons, List.length_cons]; omega
end
section
variable {H : Type} {enc : TypeId × Value → H} {w : World} {base : Nat} {spare : Nat → Bool} {held : Bool}
theorem lay_V : lay Try.prog 68 = [(0, 66), (1, 4), (2, 2), (3, 9), (4, 51)] := by kernel_rfl
set_option maxRecDepth 100000 in
theorem rd_V {fuel : Nat} {cs : List Value} {x : DataW H × List MemPlace} (h : DataW.trod enc Try.prog w base spare held fuel 68 cs = some x) : ∃ v : ValT, CR w (encV v) cs ∧ 1 ≤ Rows.uptoBulk x.1 := by
  obtain ⟨xs, n, hn, hx, hl, hlen, hg⟩ := rd_struct lay_V (by simp) h
  obtain ⟨c0, c1, c2, c3, c4, rfl⟩ : ∃ c0 c1 c2 c3 c4, cs = [c0, c1, c2, c3, c4] := by
    have hl2 : cs.length = 5 := hl.trans (show Try.prog.cellsOf 68 = 5 from by kernel_rfl)
    match cs, hl2 with
    | [c0, c1, c2, c3, c4], _ => exact ⟨c0, c1, c2, c3, c4, rfl⟩
  obtain ⟨y0, y1, y2, y3, y4, rfl⟩ : ∃ y0 y1 y2 y3 y4, xs = [y0, y1, y2, y3, y4] := by
    match xs, hlen with
    | [y0, y1, y2, y3, y4], _ => exact ⟨y0, y1, y2, y3, y4, rfl⟩
  have g0 := hg 0 0 66 rfl
  rw [show Try.prog.cellsOf 66 = 1 from by kernel_rfl] at g0
  have g1 := hg 1 1 4 rfl
  rw [show Try.prog.cellsOf 4 = 1 from by kernel_rfl] at g1
  have g2 := hg 2 2 2 rfl
  rw [show Try.prog.cellsOf 2 = 1 from by kernel_rfl] at g2
  have g3 := hg 3 3 9 rfl
  rw [show Try.prog.cellsOf 9 = 1 from by kernel_rfl] at g3
  have g4 := hg 4 4 51 rfl
  rw [show Try.prog.cellsOf 51 = 1 from by kernel_rfl] at g4
  simp only [List.drop_zero, List.drop_succ_cons, List.take_succ_cons, List.take_zero, List.getElem?_cons_zero, List.getElem?_cons_succ] at g0 g1 g2 g3 g4
  simp only [List.map_cons, List.map_nil] at hx
  obtain ⟨a0, e0, _, w0⟩ := DataW.trod_int (show Try.prog.underlying 66 = some (.int .i64) from by kernel_rfl) g0
  simp at e0
  subst e0
  obtain ⟨a1, e1, _⟩ := DataW.trod_bool (show Try.prog.underlying 4 = some .bool from by kernel_rfl) g1
  simp at e1
  subst e1
  obtain ⟨a2, e2, _, w2⟩ := DataW.trod_int (show Try.prog.underlying 2 = some (.int .i64) from by kernel_rfl) g2
  simp at e2
  subst e2
  obtain ⟨a3, e3, _, w3⟩ := DataW.trod_string (show Try.prog.underlying 9 = some .string from by kernel_rfl) g3
  simp at e3
  subst e3
  obtain ⟨s4, l4, e4, o4, r4, b4⟩ := rd_slice encI (fun _ => 1) (sz := 1) (show Try.prog.underlying 51 = some (.slice 2) from by kernel_rfl) (by kernel_rfl) (by omega) (fun m hm cs x hx => rd_int (show Try.prog.underlying 2 = some (.int .i64) from by kernel_rfl) hx) g4
  simp at e4
  subst e4
  refine ⟨⟨a0, a1, a2, a3, l4⟩, ?_, ?_⟩
  · exact (CR.one rfl (.lit _ (ok_wf w0))).append ((CR.one rfl (.lit _ rfl)).append ((CR.one rfl (.lit _ (ok_wf w2))).append ((CR.one rfl (.lit _ (ok_strl w3))).append (CR.one o4 r4))))
  · rw [hx]; simp only [Rows.uptoBulk, Rows.uptoBulkAll]
    omega
theorem lay_N : lay Try.prog 76 = [(0, 9), (1, 3)] := by kernel_rfl
set_option maxRecDepth 100000 in
theorem rd_N {fuel : Nat} {cs : List Value} {x : DataW H × List MemPlace} (h : DataW.trod enc Try.prog w base spare held fuel 76 cs = some x) : ∃ v : NodeT, CR w (encN v) cs ∧ 1 ≤ Rows.uptoBulk x.1 := by
  obtain ⟨xs, n, hn, hx, hl, hlen, hg⟩ := rd_struct lay_N (by simp) h
  obtain ⟨c0, c1, rfl⟩ : ∃ c0 c1, cs = [c0, c1] := by
    have hl2 : cs.length = 2 := hl.trans (show Try.prog.cellsOf 76 = 2 from by kernel_rfl)
    match cs, hl2 with
    | [c0, c1], _ => exact ⟨c0, c1, rfl⟩
  obtain ⟨y0, y1, rfl⟩ : ∃ y0 y1, xs = [y0, y1] := by
    match xs, hlen with
    | [y0, y1], _ => exact ⟨y0, y1, rfl⟩
  have g0 := hg 0 0 9 rfl
  rw [show Try.prog.cellsOf 9 = 1 from by kernel_rfl] at g0
  have g1 := hg 1 1 3 rfl
  rw [show Try.prog.cellsOf 3 = 1 from by kernel_rfl] at g1
  simp only [List.drop_zero, List.drop_succ_cons, List.take_succ_cons, List.take_zero, List.getElem?_cons_zero, List.getElem?_cons_succ] at g0 g1
  simp only [List.map_cons, List.map_nil] at hx
  obtain ⟨a0, e0, _, w0⟩ := DataW.trod_string (show Try.prog.underlying 9 = some .string from by kernel_rfl) g0
  simp at e0
  subst e0
  obtain ⟨a1, e1, _, w1⟩ := DataW.trod_int (show Try.prog.underlying 3 = some (.int .i64) from by kernel_rfl) g1
  simp at e1
  subst e1
  refine ⟨⟨a0, a1⟩, ?_, ?_⟩
  · exact (CR.one rfl (.lit _ (ok_strl w0))).append (CR.one rfl (.lit _ (ok_wf w1)))
  · rw [hx]; simp only [Rows.uptoBulk, Rows.uptoBulkAll]
    omega
theorem lay_E : lay Try.prog 105 = [(0, 9), (1, 3), (2, 3), (3, 3), (4, 103), (5, 3), (6, 3)] := by kernel_rfl
set_option maxRecDepth 100000 in
theorem rd_E {fuel : Nat} {cs : List Value} {x : DataW H × List MemPlace} (h : DataW.trod enc Try.prog w base spare held fuel 105 cs = some x) : ∃ v : EdgeT, CR w (encE v) cs ∧ 1 ≤ Rows.uptoBulk x.1 := by
  obtain ⟨xs, n, hn, hx, hl, hlen, hg⟩ := rd_struct lay_E (by simp) h
  obtain ⟨c0, c1, c2, c3, c4, c5, c6, rfl⟩ : ∃ c0 c1 c2 c3 c4 c5 c6, cs = [c0, c1, c2, c3, c4, c5, c6] := by
    have hl2 : cs.length = 7 := hl.trans (show Try.prog.cellsOf 105 = 7 from by kernel_rfl)
    match cs, hl2 with
    | [c0, c1, c2, c3, c4, c5, c6], _ => exact ⟨c0, c1, c2, c3, c4, c5, c6, rfl⟩
  obtain ⟨y0, y1, y2, y3, y4, y5, y6, rfl⟩ : ∃ y0 y1 y2 y3 y4 y5 y6, xs = [y0, y1, y2, y3, y4, y5, y6] := by
    match xs, hlen with
    | [y0, y1, y2, y3, y4, y5, y6], _ => exact ⟨y0, y1, y2, y3, y4, y5, y6, rfl⟩
  have g0 := hg 0 0 9 rfl
  rw [show Try.prog.cellsOf 9 = 1 from by kernel_rfl] at g0
  have g1 := hg 1 1 3 rfl
  rw [show Try.prog.cellsOf 3 = 1 from by kernel_rfl] at g1
  have g2 := hg 2 2 3 rfl
  rw [show Try.prog.cellsOf 3 = 1 from by kernel_rfl] at g2
  have g3 := hg 3 3 3 rfl
  rw [show Try.prog.cellsOf 3 = 1 from by kernel_rfl] at g3
  have g4 := hg 4 4 103 rfl
  rw [show Try.prog.cellsOf 103 = 1 from by kernel_rfl] at g4
  have g5 := hg 5 5 3 rfl
  rw [show Try.prog.cellsOf 3 = 1 from by kernel_rfl] at g5
  have g6 := hg 6 6 3 rfl
  rw [show Try.prog.cellsOf 3 = 1 from by kernel_rfl] at g6
  simp only [List.drop_zero, List.drop_succ_cons, List.take_succ_cons, List.take_zero, List.getElem?_cons_zero, List.getElem?_cons_succ] at g0 g1 g2 g3 g4 g5 g6
  simp only [List.map_cons, List.map_nil] at hx
  obtain ⟨a0, e0, _, w0⟩ := DataW.trod_string (show Try.prog.underlying 9 = some .string from by kernel_rfl) g0
  simp at e0
  subst e0
  obtain ⟨a1, e1, _, w1⟩ := DataW.trod_int (show Try.prog.underlying 3 = some (.int .i64) from by kernel_rfl) g1
  simp at e1
  subst e1
  obtain ⟨a2, e2, _, w2⟩ := DataW.trod_int (show Try.prog.underlying 3 = some (.int .i64) from by kernel_rfl) g2
  simp at e2
  subst e2
  obtain ⟨a3, e3, _, w3⟩ := DataW.trod_int (show Try.prog.underlying 3 = some (.int .i64) from by kernel_rfl) g3
  simp at e3
  subst e3
  obtain ⟨a4, e4, _, w4⟩ := DataW.trod_int (show Try.prog.underlying 103 = some (.int .i64) from by kernel_rfl) g4
  simp at e4
  subst e4
  obtain ⟨a5, e5, _, w5⟩ := DataW.trod_int (show Try.prog.underlying 3 = some (.int .i64) from by kernel_rfl) g5
  simp at e5
  subst e5
  obtain ⟨a6, e6, _, w6⟩ := DataW.trod_int (show Try.prog.underlying 3 = some (.int .i64) from by kernel_rfl) g6
  simp at e6
  subst e6
  refine ⟨⟨a0, a1, a2, a3, a4, a5, a6⟩, ?_, ?_⟩
  · exact (CR.one rfl (.lit _ (ok_strl w0))).append ((CR.one rfl (.lit _ (ok_wf w1))).append ((CR.one rfl (.lit _ (ok_wf w2))).append ((CR.one rfl (.lit _ (ok_wf w3))).append ((CR.one rfl (.lit _ (ok_wf w4))).append ((CR.one rfl (.lit _ (ok_wf w5))).append (CR.one rfl (.lit _ (ok_wf w6))))))))
  · rw [hx]; simp only [Rows.uptoBulk, Rows.uptoBulkAll]
    omega
theorem lay_T : lay Try.prog 70 = [(0, 65), (1, 25), (2, 3), (3, 9), (4, 68)] := by kernel_rfl
set_option maxRecDepth 100000 in
theorem rd_T : ∀ (fuel : Nat) {cs : List Value} {x : DataW H × List MemPlace}, DataW.trod enc Try.prog w base spare held fuel 70 cs = some x → ∃ v : TermT, CR w (encT v) cs ∧ (1 + cntT v) ≤ Rows.uptoBulk x.1 := by
  intro fuel
  induction fuel using Nat.strongRecOn with
  | _ fuel ih =>
  intro cs x h
  obtain ⟨xs, n, hn, hx, hl, hlen, hg⟩ := rd_struct lay_T (by simp) h
  obtain ⟨c0, c1, c2, c3, c4, c5, c6, c7, c8, rfl⟩ : ∃ c0 c1 c2 c3 c4 c5 c6 c7 c8, cs = [c0, c1, c2, c3, c4, c5, c6, c7, c8] := by
    have hl2 : cs.length = 9 := hl.trans (show Try.prog.cellsOf 70 = 9 from by kernel_rfl)
    match cs, hl2 with
    | [c0, c1, c2, c3, c4, c5, c6, c7, c8], _ => exact ⟨c0, c1, c2, c3, c4, c5, c6, c7, c8, rfl⟩
  obtain ⟨y0, y1, y2, y3, y4, rfl⟩ : ∃ y0 y1 y2 y3 y4, xs = [y0, y1, y2, y3, y4] := by
    match xs, hlen with
    | [y0, y1, y2, y3, y4], _ => exact ⟨y0, y1, y2, y3, y4, rfl⟩
  have g0 := hg 0 0 65 rfl
  rw [show Try.prog.cellsOf 65 = 1 from by kernel_rfl] at g0
  have g1 := hg 1 1 25 rfl
  rw [show Try.prog.cellsOf 25 = 1 from by kernel_rfl] at g1
  have g2 := hg 2 2 3 rfl
  rw [show Try.prog.cellsOf 3 = 1 from by kernel_rfl] at g2
  have g3 := hg 3 3 9 rfl
  rw [show Try.prog.cellsOf 9 = 1 from by kernel_rfl] at g3
  have g4 := hg 4 4 68 rfl
  rw [show Try.prog.cellsOf 68 = 5 from by kernel_rfl] at g4
  simp only [List.drop_zero, List.drop_succ_cons, List.take_succ_cons, List.take_zero, List.getElem?_cons_zero, List.getElem?_cons_succ] at g0 g1 g2 g3 g4
  simp only [List.map_cons, List.map_nil] at hx
  obtain ⟨a0, e0, _, w0⟩ := DataW.trod_int (show Try.prog.underlying 65 = some (.int .i64) from by kernel_rfl) g0
  simp at e0
  subst e0
  obtain ⟨s1, l1, e1, o1, r1, b1⟩ := rd_slice encT (fun t => 1 + cntT t) (sz := 9) (show Try.prog.underlying 25 = some (.slice 70) from by kernel_rfl) (by kernel_rfl) (by omega) (fun m hm cs x hx => ih m (by omega) hx) g1
  simp at e1
  subst e1
  obtain ⟨a2, e2, _, w2⟩ := DataW.trod_int (show Try.prog.underlying 3 = some (.int .i64) from by kernel_rfl) g2
  simp at e2
  subst e2
  obtain ⟨a3, e3, _, w3⟩ := DataW.trod_string (show Try.prog.underlying 9 = some .string from by kernel_rfl) g3
  simp at e3
  subst e3
  obtain ⟨v4, r4, b4⟩ := rd_V g4
  refine ⟨(.mk a0 l1 a2 a3 v4), ?_, ?_⟩
  · rw [encT_cells]
    exact (CR.one rfl (.lit _ (ok_wf w0))).append ((CR.one o1 r1).append ((CR.one rfl (.lit _ (ok_wf w2))).append ((CR.one rfl (.lit _ (ok_strl w3))).append (r4))))
  · rw [hx]; simp only [Rows.uptoBulk, Rows.uptoBulkAll]
    rw [cntT, cntL_sum]; rw [sum_one] at b1; omega
theorem lay_P : lay Try.prog 27 = [(0, 22), (1, 23), (2, 3), (3, 24), (4, 4), (5, 25)] := by kernel_rfl
set_option maxRecDepth 100000 in
theorem rd_P : ∀ (fuel : Nat) {cs : List Value} {x : DataW H × List MemPlace}, DataW.trod enc Try.prog w base spare held fuel 27 cs = some x → ∃ v : PlanT, CR w (encP v) cs ∧ (partsP v) ≤ Rows.uptoBulk x.1 := by
  intro fuel
  induction fuel using Nat.strongRecOn with
  | _ fuel ih =>
  intro cs x h
  obtain ⟨xs, n, hn, hx, hl, hlen, hg⟩ := rd_struct lay_P (by simp) h
  obtain ⟨c0, c1, c2, c3, c4, c5, rfl⟩ : ∃ c0 c1 c2 c3 c4 c5, cs = [c0, c1, c2, c3, c4, c5] := by
    have hl2 : cs.length = 6 := hl.trans (show Try.prog.cellsOf 27 = 6 from by kernel_rfl)
    match cs, hl2 with
    | [c0, c1, c2, c3, c4, c5], _ => exact ⟨c0, c1, c2, c3, c4, c5, rfl⟩
  obtain ⟨y0, y1, y2, y3, y4, y5, rfl⟩ : ∃ y0 y1 y2 y3 y4 y5, xs = [y0, y1, y2, y3, y4, y5] := by
    match xs, hlen with
    | [y0, y1, y2, y3, y4, y5], _ => exact ⟨y0, y1, y2, y3, y4, y5, rfl⟩
  have g0 := hg 0 0 22 rfl
  rw [show Try.prog.cellsOf 22 = 1 from by kernel_rfl] at g0
  have g1 := hg 1 1 23 rfl
  rw [show Try.prog.cellsOf 23 = 1 from by kernel_rfl] at g1
  have g2 := hg 2 2 3 rfl
  rw [show Try.prog.cellsOf 3 = 1 from by kernel_rfl] at g2
  have g3 := hg 3 3 24 rfl
  rw [show Try.prog.cellsOf 24 = 1 from by kernel_rfl] at g3
  have g4 := hg 4 4 4 rfl
  rw [show Try.prog.cellsOf 4 = 1 from by kernel_rfl] at g4
  have g5 := hg 5 5 25 rfl
  rw [show Try.prog.cellsOf 25 = 1 from by kernel_rfl] at g5
  simp only [List.drop_zero, List.drop_succ_cons, List.take_succ_cons, List.take_zero, List.getElem?_cons_zero, List.getElem?_cons_succ] at g0 g1 g2 g3 g4 g5
  simp only [List.map_cons, List.map_nil] at hx
  obtain ⟨a0, e0, _, w0⟩ := DataW.trod_int (show Try.prog.underlying 22 = some (.int .i64) from by kernel_rfl) g0
  simp at e0
  subst e0
  obtain ⟨s1, l1, e1, o1, r1, b1⟩ := rd_slice encP partsP (sz := 6) (show Try.prog.underlying 23 = some (.slice 27) from by kernel_rfl) (by kernel_rfl) (by omega) (fun m hm cs x hx => ih m (by omega) hx) g1
  simp at e1
  subst e1
  obtain ⟨a2, e2, _, w2⟩ := DataW.trod_int (show Try.prog.underlying 3 = some (.int .i64) from by kernel_rfl) g2
  simp at e2
  subst e2
  obtain ⟨s3, l3, e3, o3, r3, b3⟩ := rd_slice encI (fun _ => 1) (sz := 1) (show Try.prog.underlying 24 = some (.slice 3) from by kernel_rfl) (by kernel_rfl) (by omega) (fun m hm cs x hx => rd_int (show Try.prog.underlying 3 = some (.int .i64) from by kernel_rfl) hx) g3
  simp at e3
  subst e3
  obtain ⟨a4, e4, _⟩ := DataW.trod_bool (show Try.prog.underlying 4 = some .bool from by kernel_rfl) g4
  simp at e4
  subst e4
  obtain ⟨s5, l5, e5, o5, r5, b5⟩ := rd_slice encT (fun t => 1 + cntT t) (sz := 9) (show Try.prog.underlying 25 = some (.slice 70) from by kernel_rfl) (by kernel_rfl) (by omega) (fun m hm cs x hx => rd_T m hx) g5
  simp at e5
  subst e5
  refine ⟨(.mk a0 l1 a2 l3 a4 l5), ?_, ?_⟩
  · rw [encP_cells]
    exact (CR.one rfl (.lit _ (ok_wf w0))).append ((CR.one o1 r1).append ((CR.one rfl (.lit _ (ok_wf w2))).append ((CR.one o3 r3).append ((CR.one rfl (.lit _ rfl)).append (CR.one o5 r5)))))
  · rw [hx]; simp only [Rows.uptoBulk, Rows.uptoBulkAll]
    rw [partsP, cntL_sum, partsL_sum]; rw [sum_one] at b5; rw [sum_len] at b3; omega
theorem lay_S : lay Try.prog 53 = [(0, 51), (1, 51)] := by kernel_rfl
set_option maxRecDepth 100000 in
theorem rd_S {fuel : Nat} {cs : List Value} {x : DataW H × List MemPlace} (h : DataW.trod enc Try.prog w base spare held fuel 53 cs = some x) : ∃ v : StatsT, CR w (encS v) cs ∧ 0 ≤ Rows.uptoBulk x.1 := by
  obtain ⟨xs, n, hn, hx, hl, hlen, hg⟩ := rd_struct lay_S (by simp) h
  obtain ⟨c0, c1, rfl⟩ : ∃ c0 c1, cs = [c0, c1] := by
    have hl2 : cs.length = 2 := hl.trans (show Try.prog.cellsOf 53 = 2 from by kernel_rfl)
    match cs, hl2 with
    | [c0, c1], _ => exact ⟨c0, c1, rfl⟩
  obtain ⟨y0, y1, rfl⟩ : ∃ y0 y1, xs = [y0, y1] := by
    match xs, hlen with
    | [y0, y1], _ => exact ⟨y0, y1, rfl⟩
  have g0 := hg 0 0 51 rfl
  rw [show Try.prog.cellsOf 51 = 1 from by kernel_rfl] at g0
  have g1 := hg 1 1 51 rfl
  rw [show Try.prog.cellsOf 51 = 1 from by kernel_rfl] at g1
  simp only [List.drop_zero, List.drop_succ_cons, List.take_succ_cons, List.take_zero, List.getElem?_cons_zero, List.getElem?_cons_succ] at g0 g1
  simp only [List.map_cons, List.map_nil] at hx
  obtain ⟨s0, l0, e0, o0, r0, b0⟩ := rd_slice encI (fun _ => 1) (sz := 1) (show Try.prog.underlying 51 = some (.slice 2) from by kernel_rfl) (by kernel_rfl) (by omega) (fun m hm cs x hx => rd_int (show Try.prog.underlying 2 = some (.int .i64) from by kernel_rfl) hx) g0
  simp at e0
  subst e0
  obtain ⟨s1, l1, e1, o1, r1, b1⟩ := rd_slice encI (fun _ => 1) (sz := 1) (show Try.prog.underlying 51 = some (.slice 2) from by kernel_rfl) (by kernel_rfl) (by omega) (fun m hm cs x hx => rd_int (show Try.prog.underlying 2 = some (.int .i64) from by kernel_rfl) hx) g1
  simp at e1
  subst e1
  refine ⟨⟨l0, l1⟩, ?_, ?_⟩
  · exact (CR.one o0 r0).append (CR.one o1 r1)
  · exact Nat.zero_le _
theorem lay_C : lay Try.prog 33 = [(0, 28), (1, 29), (2, 25), (3, 30), (4, 4), (5, 31), (6, 3)] := by kernel_rfl
set_option maxRecDepth 100000 in
theorem rd_C {fuel : Nat} {cs : List Value} {x : DataW H × List MemPlace} (h : DataW.trod enc Try.prog w base spare held fuel 33 cs = some x) : ∃ v : CoreT, CR w (encC v) cs ∧ 0 ≤ Rows.uptoBulk x.1 := by
  obtain ⟨xs, n, hn, hx, hl, hlen, hg⟩ := rd_struct lay_C (by simp) h
  obtain ⟨c0, c1, c2, c3, c4, c5, c6, rfl⟩ : ∃ c0 c1 c2 c3 c4 c5 c6, cs = [c0, c1, c2, c3, c4, c5, c6] := by
    have hl2 : cs.length = 7 := hl.trans (show Try.prog.cellsOf 33 = 7 from by kernel_rfl)
    match cs, hl2 with
    | [c0, c1, c2, c3, c4, c5, c6], _ => exact ⟨c0, c1, c2, c3, c4, c5, c6, rfl⟩
  obtain ⟨y0, y1, y2, y3, y4, y5, y6, rfl⟩ : ∃ y0 y1 y2 y3 y4 y5 y6, xs = [y0, y1, y2, y3, y4, y5, y6] := by
    match xs, hlen with
    | [y0, y1, y2, y3, y4, y5, y6], _ => exact ⟨y0, y1, y2, y3, y4, y5, y6, rfl⟩
  have g0 := hg 0 0 28 rfl
  rw [show Try.prog.cellsOf 28 = 1 from by kernel_rfl] at g0
  have g1 := hg 1 1 29 rfl
  rw [show Try.prog.cellsOf 29 = 1 from by kernel_rfl] at g1
  have g2 := hg 2 2 25 rfl
  rw [show Try.prog.cellsOf 25 = 1 from by kernel_rfl] at g2
  have g3 := hg 3 3 30 rfl
  rw [show Try.prog.cellsOf 30 = 1 from by kernel_rfl] at g3
  have g4 := hg 4 4 4 rfl
  rw [show Try.prog.cellsOf 4 = 1 from by kernel_rfl] at g4
  have g5 := hg 5 5 31 rfl
  rw [show Try.prog.cellsOf 31 = 1 from by kernel_rfl] at g5
  have g6 := hg 6 6 3 rfl
  rw [show Try.prog.cellsOf 3 = 1 from by kernel_rfl] at g6
  simp only [List.drop_zero, List.drop_succ_cons, List.take_succ_cons, List.take_zero, List.getElem?_cons_zero, List.getElem?_cons_succ] at g0 g1 g2 g3 g4 g5 g6
  simp only [List.map_cons, List.map_nil] at hx
  obtain ⟨s0, l0, e0, o0, r0, b0⟩ := rd_slice encN (fun _ => 1) (sz := 2) (show Try.prog.underlying 28 = some (.slice 76) from by kernel_rfl) (by kernel_rfl) (by omega) (fun m hm cs x hx => rd_N hx) g0
  simp at e0
  subst e0
  obtain ⟨s1, l1, e1, o1, r1, b1⟩ := rd_slice encE (fun _ => 1) (sz := 7) (show Try.prog.underlying 29 = some (.slice 105) from by kernel_rfl) (by kernel_rfl) (by omega) (fun m hm cs x hx => rd_E hx) g1
  simp at e1
  subst e1
  obtain ⟨s2, l2, e2, o2, r2, b2⟩ := rd_slice encT (fun t => 1 + cntT t) (sz := 9) (show Try.prog.underlying 25 = some (.slice 70) from by kernel_rfl) (by kernel_rfl) (by omega) (fun m hm cs x hx => rd_T m hx) g2
  simp at e2
  subst e2
  obtain ⟨a3, e3, o3, k3⟩ := rd_raw (show Try.prog.underlying 30 = some (.slice 177) from by kernel_rfl) g3
  simp at e3
  subst e3
  obtain ⟨a4, e4, _⟩ := DataW.trod_bool (show Try.prog.underlying 4 = some .bool from by kernel_rfl) g4
  simp at e4
  subst e4
  obtain ⟨a5, e5, o5, k5⟩ := rd_raw (show Try.prog.underlying 31 = some (.slice 179) from by kernel_rfl) g5
  simp at e5
  subst e5
  obtain ⟨a6, e6, _, w6⟩ := DataW.trod_int (show Try.prog.underlying 3 = some (.int .i64) from by kernel_rfl) g6
  simp at e6
  subst e6
  refine ⟨⟨l0, l1, l2, .lit c3, a4, .lit c5, a6⟩, ?_, ?_⟩
  · exact (CR.one o0 r0).append ((CR.one o1 r1).append ((CR.one o2 r2).append ((CR.one o3 (.lit _ k3)).append ((CR.one rfl (.lit _ rfl)).append ((CR.one o5 (.lit _ k5)).append (CR.one rfl (.lit _ (ok_wf w6))))))))
  · exact Nat.zero_le _

end
end Go.Proofs.Ytihbejpkfifplaa.Z
end
section
namespace Go.Proofs.Ytihbejpkfifplaa.lawStatsEstimates
open Go Go.Fw Go.ChangeShapes Go.WideShapes Go.ChangeAt Go.RowKit Go.Joins Go.Deep Go.Proofs.Ytihbejpkfifplaa.Z
theorem own : ownKnob Try.prog.godebug = none := by kernel_rfl
theorem laidOut : laidOutB Try.prog = true := by kernel_rfl
theorem under_lay {P : Program} {t : TypeId} {l : List (Nat × TypeId)} (hl : lay P t = l) (h0 : l ≠ []) : ∃ fs, P.underlying t = some (.struct fs) := by
  unfold lay at hl
  split at hl
  · exact ⟨_, ‹_›⟩
  · exact absurd hl.symm h0
theorem vrel_ag {w : World} {m : Nat → Option Nat} {ds : List D} {cs : Array Value} (h : CR w ds cs.toList) : VRel w (fun _ => False) m (.d (.ag ds)) (.agg cs) := by
  have := DRel.ag (w := w) (L := fun _ => False) ds cs.toList h.len (fun v hv => by
    obtain ⟨j, hj⟩ := List.getElem?_of_mem hv
    have hlt : j < ds.length := by rw [← h.len]; exact (List.getElem?_eq_some_iff.1 hj).1
    exact (h.at_ j _ v (List.getElem?_eq_getElem hlt) hj).1) (fun j x v hx hv => (h.at_ j x v hx hv).2)
  rw [Array.toArray_toList] at this
  exact .d this
set_option maxRecDepth 100000 in
theorem contract (H : Type) (enc : TypeId × Value → H) (W : World) (base : Nat) (args : Array Value) (ds gs : List (DataW H)) (before : List MemPlace)
    (hval : ∀ (j : Nat) t v, Try.f6.params[j]? = some t → args[j]? = some v → Value.okWide Try.prog W .any base t v)
    (hW : DataW.Whole enc Try.prog Try.f6.params.toList Rows.statsEstimatesSpec.vars false W args.toList ds gs before) (hk : Rows.uptoSmall H (ds ++ gs) = true) :
    Calls Try.prog 6 args W fun e W' => ∃ v, e = .returned v ∧ Rows.statsEstimatesSpec.post enc Try.prog Try.f6 false true false false W args v W' := by
  have hW' := hW
  obtain ⟨p, q, hA0, hV, rfl, hfz, hnd⟩ := hW
  have hA : DataW.TrodAll enc Try.prog W 0 (fun _ => true) true Try.f6.params.toList args.toList ds p := hA0
  rw [show Try.f6.params = #[27, 33, 53] from by kernel_rfl] at hA hval
  obtain ⟨v0, vs0, d0, ds0, p0, q0, hargs, rfl, rfl, h0, r0⟩ := trodAll_cons hA
  obtain ⟨v1, vs1, d1, ds1, p1, q1, rfl, rfl, rfl, h1, r1⟩ := trodAll_cons r0
  obtain ⟨v2, vs2, d2, ds2, p2, q2, rfl, rfl, rfl, h2, r2⟩ := trodAll_cons r1
  obtain ⟨rfl, rfl, rfl⟩ := trodAll_nil r2
  obtain rfl : args = #[v0, v1, v2] := by cases args; simp_all
  obtain ⟨rfl, rfl⟩ := trodVars_none hV
  have k0 := h0
  have k1 := h1
  have k2 := h2
  have lt : ∀ {t v d ps}, DataW.Trod enc Try.prog W 0 (fun _ => true) true t v d ps → ∀ x ∈ ps, x.block < W.heap.size := fun h => by obtain ⟨m, hm⟩ := h; exact DataW.trod_lt m _ _ _ hm
  obtain ⟨fs0, u0⟩ := under_lay lay_P (by simp)
  obtain ⟨fs1, u1⟩ := under_lay lay_C (by simp)
  obtain ⟨fs2, u2⟩ := under_lay lay_S (by simp)
  obtain ⟨c0, rfl, -⟩ := okWide_struct u0 (hval 0 _ v0 rfl rfl)
  obtain ⟨c1, rfl, -⟩ := okWide_struct u1 (hval 1 _ v1 rfl rfl)
  obtain ⟨c2, rfl, -⟩ := okWide_struct u2 (hval 2 _ v2 rfl rfl)
  obtain ⟨f0, g0⟩ := h0
  obtain ⟨f1, g1⟩ := h1
  obtain ⟨f2, g2⟩ := h2
  simp only [Value.cells] at g0 g1 g2
  obtain ⟨pa, ra, ba⟩ := rd_P f0 g0
  obtain ⟨co, rc, -⟩ := rd_C g1
  obtain ⟨st, rs, -⟩ := rd_S g2
  have hb : Rows.uptoBulkAll [d0, d1, d2] ≤ 1048576 := by
    have := of_decide_eq_true hk
    simpa using this
  simp only [Rows.uptoBulkAll] at hb
  simp only at ba
  have hS := ests_ok pa co st (by omega)
  have hC := hS.2 W (fun _ => False) [.agg c0, .agg c1, .agg c2] (fun _ h => h.elim)
    (All2.cons (vrel_ag ra) (All2.cons (vrel_ag rc) (All2.cons (vrel_ag rs) All2.nil)))
  refine hC.mono fun e W' hx => ?_
  obtain ⟨v, m', rfl, hx, hv, -⟩ := hx
  have hv := hv.lit_inv
  subst hv
  have bel : Below W.heap.size W W' := ⟨hx.os, hx.tape, hx.output, hx.size, fun k hk => hx.block k hk fun f => f⟩
  exact ⟨_, rfl, _, _, _, [], _, [], hW', trodAll_mk1 (shut_bool (show Try.prog.underlying 4 = some .bool from by kernel_rfl) _),
    (trodAll_cons_mk (Below.trod laidOut (by kernel_rfl) (of_decide_eq_true (by kernel_rfl)) k0 bel (lt k0))
      (trodAll_cons_mk (Below.trod laidOut (by kernel_rfl) (of_decide_eq_true (by kernel_rfl)) k1 bel (lt k1))
        (trodAll_cons_mk (Below.trod laidOut (by kernel_rfl) (of_decide_eq_true (by kernel_rfl)) k2 bel (lt k2))
          trodAll_mk0))), rfl, bel.frame _, fun h => by cases h⟩
set_option maxRecDepth 100000 in
theorem lifted (os : Os) (started : os.Started) (H : Type) (enc : TypeId × Value → H) (F : Stop.Interp) :
    ReturnsInHanded {} Try.checked os 6 .any ((Rows.OpenSpec.upto Rows.statsEstimatesSpec).pre6 enc Try.prog Try.f6 Rows.statsEstimatesUptoRow.domain false) (((Rows.OpenSpec.upto Rows.statsEstimatesSpec).at F).post enc Try.prog Try.f6 false true false false) := by
  refine returnsInHanded_of_cond (C := Try.checked) (s := Rows.OpenSpec.upto Rows.statsEstimatesSpec) (k := Rows.uptoSmall) rfl own started (by kernel_rfl) Try.func6
    (OpenSpec.witness (enc := enc) (C := Try.checked) (s := Rows.OpenSpec.upto Rows.statsEstimatesSpec) (k := Rows.uptoSmall) rfl false ⟨#[], #[.agg #[.int .i64 0, .slice none 0 0, .int .i64 0, .slice none 0 0, .bool false, .slice none 0 0], .agg #[.slice none 0 0, .slice none 0 0, .slice none 0 0, .slice none 0 0, .bool false, .slice none 0 0, .int .i64 0], .agg #[.slice none 0 0, .slice none 0 0]], []⟩ 8 (by kernel_rfl) (by kernel_rfl) (by kernel_rfl)
      (x := ([.agg [.lit (.int .i64 0), .nil, .lit (.int .i64 0), .nil, .lit (.bool false), .nil], .agg [.nil, .nil, .nil, .nil, .lit (.bool false), .nil, .lit (.int .i64 0)], .agg [.nil, .nil]], [], [])) (by kernel_rfl) rfl (by kernel_rfl)) ?_
  intro W base args ds gs before hval hW _ hk _
  exact contract H enc W base args ds gs before hval hW hk
theorem proved : Rows.StatsEstimatesUptoSaid :=
  OpenClaim.holds_of_cond 6 Try.f6 rfl rfl rfl rfl rfl rfl rfl ⟨rfl, rfl, rfl, rfl, rfl⟩ rfl rfl rfl rfl rfl (by kernel_rfl) Try.func6 (by kernel_rfl)
    (of_decide_eq_true (by kernel_rfl)) (by unfold Func.isWrapper; first | (rw [if_pos (by decide +kernel)]; kernel_rfl) | (rw [if_neg (by decide +kernel)]; exact ⟨rfl, rfl⟩))
    (fun os started H enc _ F => lifted os started H enc F)
#print axioms proved
end Go.Proofs.Ytihbejpkfifplaa.lawStatsEstimates
end
