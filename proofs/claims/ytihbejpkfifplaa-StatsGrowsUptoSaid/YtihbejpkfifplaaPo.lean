/- How many parts a plan has, up to a bound. -/
import Derived.Test.YtihbejpkfifplaaPl
set_option linter.unusedVariables false
set_option linter.unusedSimpArgs false
set_option maxRecDepth 100000
namespace Go.Proofs.Ytihbejpkfifplaa.Z
open Go Go.Fw
mutual
def termsR : TermT → Int → Int
  | .mk _ k _ _ _, most => goT k most 1
def goT : List TermT → Int → Int → Int
  | [], _, n => n
  | t :: r, most, n => if n ≤ most then goT r most (n + termsR t (most - n)) else n
end
theorem termsR_eq (t : TermT) (most : Int) : termsR t most = goT t.kids most 1 := by cases t; rw [termsR]; rfl
mutual
theorem termsR_rng : ∀ (t : TermT) (most : Int), 0 ≤ most → 1 ≤ termsR t most ∧ termsR t most ≤ most + 1
  | .mk o k s p v, most, h => by
    rw [termsR]
    have := goT_rng k most 1
    omega
theorem goT_rng : ∀ (l : List TermT) (most n : Int), n ≤ goT l most n ∧ (goT l most n ≤ most + 1 ∨ goT l most n = n)
  | [], most, n => by rw [goT]; omega
  | t :: r, most, n => by
    rw [goT]
    split
    · have h1 := termsR_rng t (most - n) (by omega)
      have h2 := goT_rng r most (n + termsR t (most - n))
      omega
    · omega
end
theorem goT_end {l : List TermT} {most n : Int} {i : Nat} (h : l.length ≤ i ∨ most < n) : goT (l.drop i) most n = n := by
  rcases h with h | h
  · rw [List.drop_of_length_le h, goT]
  · cases l.drop i with
    | nil => rw [goT]
    | cons t r => rw [goT, if_neg (by omega)]
theorem goT_step {l : List TermT} {most n : Int} {i : Nat} (hi : i < l.length) (h : n ≤ most) : goT (l.drop i) most n = goT (l.drop (i + 1)) most (n + termsR (rdI l i) (most - n)) := by
  rw [drop_rd hi, goT, if_pos h]
mutual
def partsR : PlanT → Int → Int
  | .mk _ k _ e _ t, most => goP k most (goT t most (1 + t.length + e.length))
def goP : List PlanT → Int → Int → Int
  | [], _, n => n
  | t :: r, most, n => if n ≤ most then goP r most (n + partsR t (most - n)) else n
end
theorem partsR_eq (p : PlanT) (most : Int) : partsR p most = goP p.kids most (goT p.terms most (1 + p.terms.length + p.edges.length)) := by cases p; rw [partsR]; rfl
mutual
theorem partsR_rng : ∀ (p : PlanT) (most : Int), 0 ≤ most → partsP p ≤ 2000000 → 1 ≤ partsR p most ∧ partsR p most ≤ most + 2000001
  | .mk o k s e b t, most, h, hf => by
    rw [partsR]
    rw [partsP] at hf
    have h1 := goT_rng t most (1 + t.length + e.length)
    have h2 := goP_rng k most (goT t most (1 + t.length + e.length)) (by omega)
    omega
theorem goP_rng : ∀ (l : List PlanT) (most n : Int), partsL l ≤ 2000000 → n ≤ goP l most n ∧ (goP l most n ≤ most + 2000001 ∨ goP l most n = n)
  | [], most, n, _ => by rw [goP]; omega
  | t :: r, most, n, hf => by
    rw [partsL] at hf
    rw [goP]
    split
    · have h1 := partsR_rng t (most - n) (by omega) (by omega)
      have h2 := goP_rng r most (n + partsR t (most - n)) (by omega)
      omega
    · omega
end
theorem goP_end {l : List PlanT} {most n : Int} {i : Nat} (h : l.length ≤ i ∨ most < n) : goP (l.drop i) most n = n := by
  rcases h with h | h
  · rw [List.drop_of_length_le h, goP]
  · cases l.drop i with
    | nil => rw [goP]
    | cons t r => rw [goP, if_neg (by omega)]
theorem goP_step {l : List PlanT} {most n : Int} {i : Nat} (hi : i < l.length) (h : n ≤ most) : goP (l.drop i) most n = goP (l.drop (i + 1)) most (n + partsR (rdI l i) (most - n)) := by
  rw [drop_rd hi, goP, if_pos h]
theorem goP_le {l : List PlanT} {most n : Int} : n ≤ goP l most n ∨ 2000000 < partsL l := by
  by_cases h : partsL l ≤ 2000000
  · exact .inl (goP_rng l most n h).1
  · exact .inr (by omega)
set_option maxHeartbeats 4000000 in
theorem terms1_ok (t : TermT) (most : Int) (h0 : 0 ≤ most) (h1 : most ≤ 1000000) (IH : ∀ i : Nat, i < t.kids.length → ∀ m : Int, 0 ≤ m → m ≤ 1000000 → Snd P 25 [.d (.ag (encT (rdI t.kids i))), .int m] (.int (termsR (rdI t.kids i) m)) []) : Snd P 25 [.d (.ag (encT t)), .int most] (.int (termsR t most)) [] := by
  refine Snd.ok 0 rfl (by kernel_rfl) fun hok => ?_
  have hkm := encT_ok hok
  clear hok
  obtain ⟨m, hm⟩ : ∃ m, t.kids.length = m := ⟨_, rfl⟩
  rw [hm] at hkm
  refine snd_of [] Try.func25 rfl (by kernel_rfl) Try.ntmps25 (by simp) ?_
  unfold Try.f25
  simp only [List.cons_append, List.nil_append, List.length_cons, List.length_nil, Nat.reduceAdd, Nat.reduceSub, List.replicate]
  refine Run.seq ?_
  refine Run.opsM false [⟨Op.box 70 (Operand.tmp 0), some 2, none⟩, ⟨Op.assign (Operand.const (Value.int IntKind.i64 0)), some 4, none⟩] mixed (by decide) rfl fun K hK => ?_
  try simp
  repeat' first | ((refine evL_c ?_); simp [hm]) | (with_reducible refine And.intro ?_ ?_) | intro _ | (with_reducible assumption) | omega
  all_goals (refine Fin.go hK ?_; clear hK K)
  simp only [Then_normal]
  refine Run.seq ?_
  refine Run.opsM false [⟨Op.assign (Operand.const (Value.int IntKind.i64 1)), some 5, none⟩] mixed (by decide) rfl fun K hK => ?_
  try simp
  repeat' first | ((refine evL_c ?_); simp [hm]) | (with_reducible refine And.intro ?_ ?_) | intro _ | (with_reducible assumption) | omega
  all_goals (refine Fin.go hK ?_; clear hK K)
  simp only [Then_normal]
  refine Run.seq ?_
  refine Run.seq ?_
  refine Run.opsM false [⟨Op.assign (Operand.const (Value.int IntKind.i64 0)), some 6, none⟩] mixed (by decide) rfl fun K hK => ?_
  try simp
  repeat' first | ((refine evL_c ?_); simp [hm]) | (with_reducible refine And.intro ?_ ?_) | intro _ | (with_reducible assumption) | omega
  all_goals (refine Fin.go hK ?_; clear hK K)
  simp only [Then_normal]
  refine Run.block ?_
  refine Run.loopO [5, 6, 7, 8, 9, 10, 11, 12, 13, 14, 15, 16, 17, 18, 19, 20, 21, 22, 23, 24, 25, 26, 27, 28, 29] (fun (x : Nat × Int) => [(6, .int x.1), (5, .int x.2)]) (fun (x : Nat × Int) => [(300, .vals ((encT t).map .d))]) (fun (x : Nat × Int) => x.1 ≤ m ∧ 1 ≤ x.2 ∧ x.2 ≤ 4000000 ∧ goT (t.kids.drop x.1) most x.2 = termsR t most) (fun (x : Nat × Int) => m - x.1) (0, 1) ⟨by omega, by omega, by omega, by rw [termsR_eq]; rfl⟩ (by simp) fun ⟨i, n⟩ ⟨hi, hn1, hn2, hg⟩ => ?_
  simp only at hi hn1 hn2 hg
  simp only [over, List.foldl, List.set]
  refine Run.seq ?_
  refine Run.cut [7, 8, 9, 10, 11, 12, 13, 14, 15, 16] [(16, .bool (decide (i < m ∧ n ≤ most)))] [(300, .vals ((encT t).map .d))] ?_ ?_
  · refine Run.opsM false [⟨Op.move (Operand.tmp 6), some 7, none⟩, ⟨Op.fieldAddr 70 (Operand.tmp 2) 1, some 8, none⟩, ⟨Op.load 25 (Operand.tmp 8), some 9, none⟩, ⟨Op.call { callee := Callee.builtin Builtin.len, args := #[Operand.tmp 9], argTypes := #[25] }, some 10, none⟩, ⟨Op.binOp BinOp.lss 3 (Operand.tmp 7) (Operand.tmp 10) 3, some 11, none⟩, ⟨Op.move (Operand.tmp 11), some 12, none⟩, ⟨Op.move (Operand.tmp 5), some 13, some (some 12, true)⟩, ⟨Op.move (Operand.tmp 1), some 14, some (some 12, true)⟩, ⟨Op.binOp BinOp.leq 3 (Operand.tmp 13) (Operand.tmp 14) 3, some 15, some (some 12, true)⟩, ⟨Op.pick (Operand.tmp 12) (Operand.tmp 15) (Operand.const (Value.bool false)), some 16, none⟩] mixed (by decide) rfl fun K hK => ?_
    try simp
    repeat' first | ((refine evL_c ?_); simp [hm]) | ((refine evL_g rfl ?_); (try simp only [gs_tt, gs_ff, gs_tf, gs_ft]); (try simp [hm])) | (refine evL_u rfl ?_) | ((with_reducible refine gsplit (fun hg => ?_) (fun hg => ?_)) <;> (try simp at hg) <;> (try simp [hm])) | (with_reducible refine And.intro ?_ ?_) | intro _ | (with_reducible assumption) | omega
    all_goals (refine Fin.go hK ?_; clear hK K)
    all_goals
      (try simp [*]) <;> (first | omega | (simp; done) | grind)
  · simp only [over, List.foldl, List.set]
    refine Run.cond rfl (fun h16 => ?_) (fun h16 => ?_)
    · replace h16 := of_decide_eq_true h16
      obtain ⟨hc1, hc2⟩ := h16
      obtain ⟨r, hr⟩ : ∃ r, termsR (rdI t.kids i) (most - n) = r := ⟨_, rfl⟩
      have hrr := termsR_rng (rdI t.kids i) (most - n) (by omega)
      rw [hr] at hrr
      have hw1 : IntKind.i64.wrap (most - n) = most - n := wrap_id (by omega) (by omega)
      have hw2 : IntKind.i64.wrap (n + r) = n + r := wrap_id (by omega) (by omega)
      refine Run.skip ?_
      simp only [Then_normal]
      refine Run.seq ?_
      refine Run.block ?_
      refine Run.opsM false [⟨Op.move (Operand.tmp 5), some 19, none⟩, ⟨Op.fieldAddr 70 (Operand.tmp 2) 1, some 20, none⟩, ⟨Op.load 25 (Operand.tmp 20), some 21, none⟩, ⟨Op.move (Operand.tmp 6), some 22, none⟩, ⟨Op.indexAddr 25 (Operand.tmp 21) (Operand.tmp 22), some 23, none⟩, ⟨Op.load 70 (Operand.tmp 23), some 24, none⟩, ⟨Op.move (Operand.tmp 1), some 25, none⟩, ⟨Op.move (Operand.tmp 5), some 26, none⟩, ⟨Op.binOp BinOp.sub 3 (Operand.tmp 25) (Operand.tmp 26) 3, some 27, none⟩, ⟨Op.call { callee := Callee.value (Operand.func 25), args := #[Operand.tmp 24, Operand.tmp 27], argTypes := #[70, 3] }, some 28, none⟩, ⟨Op.binOp BinOp.add 3 (Operand.tmp 19) (Operand.tmp 28) 3, some 29, none⟩, ⟨Op.assign (Operand.tmp 29), some 5, none⟩] mixed (by decide) rfl fun K hK => ?_
      try simp
      repeat' first | (refine ecallD (by have h := IH i (by omega) (most - n) (by omega) (by omega); rw [encT_cells, hr] at h; exact h) ?_) | ((refine evL_c ?_); simp [hm, hc1, hr, hw1, hw2]) | (with_reducible refine And.intro ?_ ?_) | intro _ | (with_reducible assumption) | omega
      all_goals (refine Fin.go hK ?_; clear hK K)
      simp only [Blok_normal]
      simp only [Then_normal]
      refine Run.opsM false [⟨Op.move (Operand.tmp 6), some 17, none⟩, ⟨Op.binOp BinOp.add 3 (Operand.tmp 17) (Operand.const (Value.int IntKind.i64 1)) 3, some 18, none⟩, ⟨Op.assign (Operand.tmp 18), some 6, none⟩] mixed (by decide) rfl fun K hK => ?_
      try simp
      repeat' first | ((refine evL_c ?_); simp [hm, hc1, hr, hw1, hw2]) | (with_reducible refine And.intro ?_ ?_) | intro _ | (with_reducible assumption) | omega
      all_goals (refine Fin.go hK ?_; clear hK K)
      refine ⟨(i + 1, n + r), ⟨by simp; omega, by simp; omega, by simp; omega, ?_⟩, by simp; omega, ?_⟩
      · rw [← hg, goT_step (by omega) hc2, hr]
      · simp (disch := omega) [hm, wrap_id]
    · replace h16 := of_decide_eq_false h16
      rw [goT_end (by omega)] at hg
      refine Run.exit ?_
      simp (decide := true) only [Then_exit, Blok_exit, if_true, if_false]
      simp only [Then_normal]
      refine Run.seq ?_
      refine Run.opsM false [⟨Op.move (Operand.tmp 5), some 30, none⟩, ⟨Op.assign (Operand.tmp 30), some 4, none⟩] mixed (by decide) rfl fun K hK => ?_
      try simp
      repeat' first | ((refine evL_c ?_); simp [hm]) | (with_reducible refine And.intro ?_ ?_) | intro _ | (with_reducible assumption) | omega
      all_goals (refine Fin.go hK ?_; clear hK K)
      simp only [Then_normal]
      refine Run.ret ?_
      try simp only [Then_ret, Blok_ret]
      simp [hg]


theorem terms_ok (t : TermT) (most : Int) (h0 : 0 ≤ most) (h1 : most ≤ 1000000) : Snd P 25 [.d (.ag (encT t)), .int most] (.int (termsR t most)) [] :=
  terms1_ok t most h0 h1 fun i hi m hm0 hm1 =>
    have := kidT_lt (rdI_mem (l := t.kids) (i := i) (by omega) (by omega))
    terms_ok (rdI t.kids i) m hm0 hm1
termination_by SizeOf.sizeOf t

set_option maxHeartbeats 4000000 in
theorem parts1_ok (p : PlanT) (hf : partsP p ≤ 2000000) (most : Int) (h0 : 0 ≤ most) (h1 : most ≤ 1000000) (IH : ∀ i : Nat, i < p.kids.length → ∀ m : Int, 0 ≤ m → m ≤ 1000000 → Snd P 11 [.d (.ag (encP (rdI p.kids i))), .int m] (.int (partsR (rdI p.kids i) m)) []) : Snd P 11 [.d (.ag (encP p)), .int most] (.int (partsR p most)) [] := by
  refine Snd.ok 0 rfl (by kernel_rfl) fun hok => ?_
  obtain ⟨hkm, -, htm⟩ := encP_ok hok
  clear hok
  have hpr := partsR_rng p most h0 hf
  have hpe := partsR_eq p most
  have hfe := partsP_eq p
  obtain ⟨m, hm⟩ : ∃ m, p.kids.length = m := ⟨_, rfl⟩
  obtain ⟨tl, htl⟩ : ∃ m, p.terms.length = m := ⟨_, rfl⟩
  obtain ⟨el, hel⟩ : ∃ m, p.edges.length = m := ⟨_, rfl⟩
  rw [hm] at hkm
  rw [htl] at htm
  rw [htl, hel] at hpe hfe
  have hw0 : IntKind.i64.wrap (1 + (tl : Int)) = 1 + tl := wrap_id (by omega) (by omega)
  have hw9 : IntKind.i64.wrap (1 + (tl : Int) + el) = 1 + tl + el := wrap_id (by omega) (by omega)
  obtain ⟨g1, hg1⟩ : ∃ g, goT p.terms most (1 + (tl : Int) + el) = g := ⟨_, rfl⟩
  have hgr := goT_rng p.terms most (1 + (tl : Int) + el)
  rw [hg1] at hgr hpe
  refine snd_of [] Try.func11 rfl (by kernel_rfl) Try.ntmps11 (by simp) ?_
  unfold Try.f11
  simp only [List.cons_append, List.nil_append, List.length_cons, List.length_nil, Nat.reduceAdd, Nat.reduceSub, List.replicate]
  refine Run.seq ?_
  refine Run.opsM false [⟨Op.box 27 (Operand.tmp 0), some 2, none⟩, ⟨Op.assign (Operand.const (Value.int IntKind.i64 0)), some 4, none⟩] mixed (by decide) rfl fun K hK => ?_
  try simp
  repeat' first | ((refine evL_c ?_); simp [hm, htl, hel, hw0, hw9]) | (with_reducible refine And.intro ?_ ?_) | intro _ | (with_reducible assumption) | omega
  all_goals (refine Fin.go hK ?_; clear hK K)
  simp only [Then_normal]
  refine Run.seq ?_
  refine Run.opsM false [⟨Op.fieldAddr 27 (Operand.tmp 2) 5, some 8, none⟩, ⟨Op.load 25 (Operand.tmp 8), some 9, none⟩, ⟨Op.call { callee := Callee.builtin Builtin.len, args := #[Operand.tmp 9], argTypes := #[25] }, some 10, none⟩, ⟨Op.binOp BinOp.add 3 (Operand.const (Value.int IntKind.i64 1)) (Operand.tmp 10) 3, some 11, none⟩, ⟨Op.fieldAddr 27 (Operand.tmp 2) 3, some 12, none⟩, ⟨Op.load 24 (Operand.tmp 12), some 13, none⟩, ⟨Op.call { callee := Callee.builtin Builtin.len, args := #[Operand.tmp 13], argTypes := #[24] }, some 14, none⟩, ⟨Op.binOp BinOp.add 3 (Operand.tmp 11) (Operand.tmp 14) 3, some 15, none⟩, ⟨Op.assign (Operand.tmp 15), some 5, none⟩] mixed (by decide) rfl fun K hK => ?_
  try simp
  repeat' first | ((refine evL_c ?_); simp [hm, htl, hel, hw0, hw9]) | (with_reducible refine And.intro ?_ ?_) | intro _ | (with_reducible assumption) | omega
  all_goals (refine Fin.go hK ?_; clear hK K)
  simp only [Then_normal]
  refine Run.seq ?_
  refine Run.seq ?_
  refine Run.opsM false [⟨Op.assign (Operand.const (Value.int IntKind.i64 0)), some 6, none⟩] mixed (by decide) rfl fun K hK => ?_
  try simp
  repeat' first | ((refine evL_c ?_); simp [hm, htl, hel, hw0, hw9]) | (with_reducible refine And.intro ?_ ?_) | intro _ | (with_reducible assumption) | omega
  all_goals (refine Fin.go hK ?_; clear hK K)
  simp only [Then_normal]
  refine Run.block ?_
  refine Run.loopO [5, 6, 16, 17, 18, 19, 20, 21, 22, 23, 24, 25, 26, 27, 28, 29, 30, 31, 32, 33, 34, 35, 36, 37, 38] (fun (x : Nat × Int) => [(6, .int x.1), (5, .int x.2)]) (fun (x : Nat × Int) => [(300, .vals ((encP p).map .d))]) (fun (x : Nat × Int) => x.1 ≤ tl ∧ 1 ≤ x.2 ∧ x.2 ≤ 4000000 ∧ goT (p.terms.drop x.1) most x.2 = g1) (fun (x : Nat × Int) => tl - x.1) (0, 1 + (tl : Int) + el) ⟨by omega, by simp; omega, by simp; omega, by simpa using hg1⟩ (by simp) fun ⟨i, n⟩ ⟨hi, hn1, hn2, hg⟩ => ?_
  simp only at hi hn1 hn2 hg
  simp only [over, List.foldl, List.set]
  refine Run.seq ?_
  refine Run.cut [16, 17, 18, 19, 20, 21, 22, 23, 24, 25] [(25, .bool (decide (i < tl ∧ n ≤ most)))] [(300, .vals ((encP p).map .d))] ?_ ?_
  · refine Run.opsM false [⟨Op.move (Operand.tmp 6), some 16, none⟩, ⟨Op.fieldAddr 27 (Operand.tmp 2) 5, some 17, none⟩, ⟨Op.load 25 (Operand.tmp 17), some 18, none⟩, ⟨Op.call { callee := Callee.builtin Builtin.len, args := #[Operand.tmp 18], argTypes := #[25] }, some 19, none⟩, ⟨Op.binOp BinOp.lss 3 (Operand.tmp 16) (Operand.tmp 19) 3, some 20, none⟩, ⟨Op.move (Operand.tmp 20), some 21, none⟩, ⟨Op.move (Operand.tmp 5), some 22, some (some 21, true)⟩, ⟨Op.move (Operand.tmp 1), some 23, some (some 21, true)⟩, ⟨Op.binOp BinOp.leq 3 (Operand.tmp 22) (Operand.tmp 23) 3, some 24, some (some 21, true)⟩, ⟨Op.pick (Operand.tmp 21) (Operand.tmp 24) (Operand.const (Value.bool false)), some 25, none⟩] mixed (by decide) rfl fun K hK => ?_
    try simp
    repeat' first | ((refine evL_c ?_); simp [hm, htl, hel, hw0, hw9]) | ((refine evL_g rfl ?_); (try simp only [gs_tt, gs_ff, gs_tf, gs_ft]); (try simp [hm, htl, hel, hw0, hw9])) | (refine evL_u rfl ?_) | ((with_reducible refine gsplit (fun hg => ?_) (fun hg => ?_)) <;> (try simp at hg) <;> (try simp [hm, htl, hel, hw0, hw9])) | (with_reducible refine And.intro ?_ ?_) | intro _ | (with_reducible assumption) | omega
    all_goals (refine Fin.go hK ?_; clear hK K)
    all_goals
      (try simp [*]) <;> (first | omega | (simp; done) | grind)
  · simp only [over, List.foldl, List.set]
    refine Run.cond rfl (fun h25 => ?_) (fun h25 => ?_)
    · replace h25 := of_decide_eq_true h25
      obtain ⟨hc1, hc2⟩ := h25
      obtain ⟨r, hr⟩ : ∃ r, termsR (rdI p.terms i) (most - n) = r := ⟨_, rfl⟩
      have hrr := termsR_rng (rdI p.terms i) (most - n) (by omega)
      rw [hr] at hrr
      have hT := terms_ok (rdI p.terms i) (most - n) (by omega) (by omega)
      rw [encT_cells, hr] at hT
      have hw1 : IntKind.i64.wrap (most - n) = most - n := wrap_id (by omega) (by omega)
      have hw2 : IntKind.i64.wrap (n + r) = n + r := wrap_id (by omega) (by omega)
      refine Run.skip ?_
      simp only [Then_normal]
      refine Run.seq ?_
      refine Run.block ?_
      refine Run.opsM false [⟨Op.move (Operand.tmp 5), some 28, none⟩, ⟨Op.fieldAddr 27 (Operand.tmp 2) 5, some 29, none⟩, ⟨Op.load 25 (Operand.tmp 29), some 30, none⟩, ⟨Op.move (Operand.tmp 6), some 31, none⟩, ⟨Op.indexAddr 25 (Operand.tmp 30) (Operand.tmp 31), some 32, none⟩, ⟨Op.load 70 (Operand.tmp 32), some 33, none⟩, ⟨Op.move (Operand.tmp 1), some 34, none⟩, ⟨Op.move (Operand.tmp 5), some 35, none⟩, ⟨Op.binOp BinOp.sub 3 (Operand.tmp 34) (Operand.tmp 35) 3, some 36, none⟩, ⟨Op.call { callee := Callee.value (Operand.func 25), args := #[Operand.tmp 33, Operand.tmp 36], argTypes := #[70, 3] }, some 37, none⟩, ⟨Op.binOp BinOp.add 3 (Operand.tmp 28) (Operand.tmp 37) 3, some 38, none⟩, ⟨Op.assign (Operand.tmp 38), some 5, none⟩] mixed (by decide) rfl fun K hK => ?_
      try simp
      repeat' first | (refine ecallD (by exact hT) ?_) | ((refine evL_c ?_); simp [hm, htl, hel, hw0, hw9, hc1, hr, hw1, hw2]) | (with_reducible refine And.intro ?_ ?_) | intro _ | (with_reducible assumption) | omega
      all_goals (refine Fin.go hK ?_; clear hK K)
      simp only [Blok_normal]
      simp only [Then_normal]
      refine Run.opsM false [⟨Op.move (Operand.tmp 6), some 26, none⟩, ⟨Op.binOp BinOp.add 3 (Operand.tmp 26) (Operand.const (Value.int IntKind.i64 1)) 3, some 27, none⟩, ⟨Op.assign (Operand.tmp 27), some 6, none⟩] mixed (by decide) rfl fun K hK => ?_
      try simp
      repeat' first | ((refine evL_c ?_); simp [hm, htl, hel, hw0, hw9, hc1, hr, hw1, hw2]) | (with_reducible refine And.intro ?_ ?_) | intro _ | (with_reducible assumption) | omega
      all_goals (refine Fin.go hK ?_; clear hK K)
      refine ⟨(i + 1, n + r), ⟨by simp; omega, by simp; omega, by simp; omega, ?_⟩, by simp; omega, ?_⟩
      · rw [← hg, goT_step (by omega) hc2, hr]
      · simp (disch := omega) [hm, htl, hel, wrap_id]
    · replace h25 := of_decide_eq_false h25
      rw [goT_end (by omega)] at hg
      rw [← hg] at hpe hgr
      clear hg1 hg h25 hi
      refine Run.exit ?_
      simp (decide := true) only [Then_exit, Blok_exit, if_true, if_false]
      simp only [Then_normal]
      refine Run.seq ?_
      refine Run.seq ?_
      refine Run.opsM false [⟨Op.assign (Operand.const (Value.int IntKind.i64 0)), some 7, none⟩] mixed (by decide) rfl fun K hK => ?_
      try simp
      repeat' first | ((refine evL_c ?_); simp [hm, htl, hel, hw0, hw9]) | (with_reducible refine And.intro ?_ ?_) | intro _ | (with_reducible assumption) | omega
      all_goals (refine Fin.go hK ?_; clear hK K)
      simp only [Then_normal]
      refine Run.block ?_
      refine Run.loopO [5, 7, 39, 40, 41, 42, 43, 44, 45, 46, 47, 48, 49, 50, 51, 52, 53, 54, 55, 56, 57, 58, 59, 60, 61] (fun (x : Nat × Int) => [(7, .int x.1), (5, .int x.2)]) (fun (x : Nat × Int) => [(300, .vals ((encP p).map .d))]) (fun (x : Nat × Int) => x.1 ≤ m ∧ 1 ≤ x.2 ∧ x.2 ≤ 4000000 ∧ goP (p.kids.drop x.1) most x.2 = partsR p most) (fun (x : Nat × Int) => m - x.1) (0, n) ⟨by omega, by simp; omega, by simp; omega, by simpa using hpe.symm⟩ (by simp) fun ⟨j, q⟩ ⟨hi, hn1, hn2, hg⟩ => ?_
      simp only at hi hn1 hn2 hg
      simp only [over, List.foldl, List.set]
      refine Run.seq ?_
      refine Run.cut [39, 40, 41, 42, 43, 44, 45, 46, 47, 48] [(48, .bool (decide (j < m ∧ q ≤ most)))] [(300, .vals ((encP p).map .d))] ?_ ?_
      · refine Run.opsM false [⟨Op.move (Operand.tmp 7), some 39, none⟩, ⟨Op.fieldAddr 27 (Operand.tmp 2) 1, some 40, none⟩, ⟨Op.load 23 (Operand.tmp 40), some 41, none⟩, ⟨Op.call { callee := Callee.builtin Builtin.len, args := #[Operand.tmp 41], argTypes := #[23] }, some 42, none⟩, ⟨Op.binOp BinOp.lss 3 (Operand.tmp 39) (Operand.tmp 42) 3, some 43, none⟩, ⟨Op.move (Operand.tmp 43), some 44, none⟩, ⟨Op.move (Operand.tmp 5), some 45, some (some 44, true)⟩, ⟨Op.move (Operand.tmp 1), some 46, some (some 44, true)⟩, ⟨Op.binOp BinOp.leq 3 (Operand.tmp 45) (Operand.tmp 46) 3, some 47, some (some 44, true)⟩, ⟨Op.pick (Operand.tmp 44) (Operand.tmp 47) (Operand.const (Value.bool false)), some 48, none⟩] mixed (by decide) rfl fun K hK => ?_
        try simp
        repeat' first | ((refine evL_c ?_); simp [hm, htl, hel, hw0, hw9]) | ((refine evL_g rfl ?_); (try simp only [gs_tt, gs_ff, gs_tf, gs_ft]); (try simp [hm, htl, hel, hw0, hw9])) | (refine evL_u rfl ?_) | ((with_reducible refine gsplit (fun hg => ?_) (fun hg => ?_)) <;> (try simp at hg) <;> (try simp [hm, htl, hel, hw0, hw9])) | (with_reducible refine And.intro ?_ ?_) | intro _ | (with_reducible assumption) | omega
        all_goals (refine Fin.go hK ?_; clear hK K)
        all_goals
          (try simp [*]) <;> (first | omega | (simp; done) | grind)
      · simp only [over, List.foldl, List.set]
        refine Run.cond rfl (fun h48 => ?_) (fun h48 => ?_)
        · replace h48 := of_decide_eq_true h48
          obtain ⟨hc1, hc2⟩ := h48
          obtain ⟨r, hr⟩ : ∃ r, partsR (rdI p.kids j) (most - q) = r := ⟨_, rfl⟩
          have hrr := partsR_rng (rdI p.kids j) (most - q) (by omega) (kid_fine hf (by omega))
          rw [hr] at hrr
          have hT := IH j (by omega) (most - q) (by omega) (by omega)
          rw [encP_cells, hr] at hT
          have hw1 : IntKind.i64.wrap (most - q) = most - q := wrap_id (by omega) (by omega)
          have hw2 : IntKind.i64.wrap (q + r) = q + r := wrap_id (by omega) (by omega)
          refine Run.skip ?_
          simp only [Then_normal]
          refine Run.seq ?_
          refine Run.block ?_
          refine Run.opsM false [⟨Op.move (Operand.tmp 5), some 51, none⟩, ⟨Op.fieldAddr 27 (Operand.tmp 2) 1, some 52, none⟩, ⟨Op.load 23 (Operand.tmp 52), some 53, none⟩, ⟨Op.move (Operand.tmp 7), some 54, none⟩, ⟨Op.indexAddr 23 (Operand.tmp 53) (Operand.tmp 54), some 55, none⟩, ⟨Op.load 27 (Operand.tmp 55), some 56, none⟩, ⟨Op.move (Operand.tmp 1), some 57, none⟩, ⟨Op.move (Operand.tmp 5), some 58, none⟩, ⟨Op.binOp BinOp.sub 3 (Operand.tmp 57) (Operand.tmp 58) 3, some 59, none⟩, ⟨Op.call { callee := Callee.value (Operand.func 11), args := #[Operand.tmp 56, Operand.tmp 59], argTypes := #[27, 3] }, some 60, none⟩, ⟨Op.binOp BinOp.add 3 (Operand.tmp 51) (Operand.tmp 60) 3, some 61, none⟩, ⟨Op.assign (Operand.tmp 61), some 5, none⟩] mixed (by decide) rfl fun K hK => ?_
          try simp
          repeat' first | (refine ecallD (by exact hT) ?_) | ((refine evL_c ?_); simp [hm, htl, hel, hw0, hw9, hc1, hr, hw1, hw2]) | (with_reducible refine And.intro ?_ ?_) | intro _ | (with_reducible assumption) | omega
          all_goals (refine Fin.go hK ?_; clear hK K)
          simp only [Blok_normal]
          simp only [Then_normal]
          refine Run.opsM false [⟨Op.move (Operand.tmp 7), some 49, none⟩, ⟨Op.binOp BinOp.add 3 (Operand.tmp 49) (Operand.const (Value.int IntKind.i64 1)) 3, some 50, none⟩, ⟨Op.assign (Operand.tmp 50), some 7, none⟩] mixed (by decide) rfl fun K hK => ?_
          try simp
          repeat' first | ((refine evL_c ?_); simp [hm, htl, hel, hw0, hw9, hc1, hr, hw1, hw2]) | (with_reducible refine And.intro ?_ ?_) | intro _ | (with_reducible assumption) | omega
          all_goals (refine Fin.go hK ?_; clear hK K)
          refine ⟨(j + 1, q + r), ⟨by simp; omega, by simp; omega, by simp; omega, ?_⟩, by simp; omega, ?_⟩
          · rw [← hg, goP_step (by omega) hc2, hr]
          · simp (disch := omega) [hm, htl, hel, wrap_id]
        · replace h48 := of_decide_eq_false h48
          rw [goP_end (by omega)] at hg
          refine Run.exit ?_
          simp (decide := true) only [Then_exit, Blok_exit, if_true, if_false]
          simp only [Then_normal]
          refine Run.seq ?_
          refine Run.opsM false [⟨Op.move (Operand.tmp 5), some 62, none⟩, ⟨Op.assign (Operand.tmp 62), some 4, none⟩] mixed (by decide) rfl fun K hK => ?_
          try simp
          repeat' first | ((refine evL_c ?_); simp [hm, htl, hel, hw0, hw9]) | (with_reducible refine And.intro ?_ ?_) | intro _ | (with_reducible assumption) | omega
          all_goals (refine Fin.go hK ?_; clear hK K)
          simp only [Then_normal]
          refine Run.ret ?_
          try simp only [Then_ret, Blok_ret]
          simp [hg]


theorem parts_ok (p : PlanT) (hf : partsP p ≤ 2000000) (most : Int) (h0 : 0 ≤ most) (h1 : most ≤ 1000000) : Snd P 11 [.d (.ag (encP p)), .int most] (.int (partsR p most)) [] :=
  parts1_ok p hf most h0 h1 fun i hi m hm0 hm1 =>
    have := kids_lt (kid_mem (p := p) hi)
    parts_ok (rdI p.kids i) (kid_fine hf hi) m hm0 hm1
termination_by SizeOf.sizeOf p
end Go.Proofs.Ytihbejpkfifplaa.Z
