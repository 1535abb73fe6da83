/- Walks of the reference's Arith and of what it calls; the reference's Same on two values without text and path. -/
import Derived.Test.YtjanfjdiikddaaaA1
namespace Go.Proofs.Ytjanfjdiikddaaa.A2
set_option linter.unusedVariables false
set_option linter.unusedSimpArgs false
open Go.RowKit Go.Proofs.Ytjanfjdiikddaaa.A1 Go.Proofs.Ytjanfjdiikddaaa.Ar

set_option maxHeartbeats 400000 in
theorem fault_any (w : World) :
    Calls Try.prog 25 #[] w fun e w' => e = .returned (rv 7 0) ∧ Below w.heap.size w w' := by
  go_enter Try.func25, Try.ntmps25
  go_wp2
  go_returns
  exact ⟨rfl, by go_grown⟩

set_option maxHeartbeats 400000 in
theorem number_any (n : Int) (w : World) :
    Calls Try.prog 28 #[.int .i64 n] w fun e w' => e = .returned (rv 2 n) ∧ Below w.heap.size w w' := by
  go_enter Try.func28, Try.ntmps28
  go_wp2
  go_returns
  exact ⟨rfl, by go_grown⟩

def addOk (a b : Int) : Bool := decide (a < wrap64 (a + b)) == decide (0 < b)
set_option maxHeartbeats 400000 in
theorem add_any (a b : Int) (w : World) :
    Calls Try.prog 26 #[.int .i64 a, .int .i64 b] w fun e w' => e = .returned (.tuple #[.int .i64 (wrap64 (a + b)), .bool (addOk a b)]) ∧ w = w' := by
  go_enter Try.func26, Try.ntmps26
  go_wp2
  go_ret2
  exact ⟨rfl, rfl⟩

/-- the reference's product: the number, whether it may be -/
def mulR (a b : Int) : Int × Bool :=
  if a = 0 ∨ b = 0 then (0, true) else if a = -1 ∧ b = -9223372036854775808 ∨ b = -1 ∧ a = -9223372036854775808 then (0, false)
  else (wrap64 (a * b), wrap64 ((wrap64 (a * b)).tdiv b) == a)
theorem mulR_zero {a b : Int} (h : a = 0 ∨ b = 0) : mulR a b = (0, true) := by unfold mulR; rw [if_pos h]
theorem mulR_edge {a b : Int} (h : a = -1 ∧ b = -9223372036854775808 ∨ b = -1 ∧ a = -9223372036854775808) : mulR a b = (0, false) := by
  unfold mulR; rw [if_neg (by omega), if_pos h]
theorem mulR_else {a b : Int} (h1 : a ≠ 0) (h2 : b ≠ 0) (h3 : ¬ (a = -1 ∧ b = -9223372036854775808 ∨ b = -1 ∧ a = -9223372036854775808)) :
    mulR a b = (wrap64 (a * b), wrap64 ((wrap64 (a * b)).tdiv b) == a) := by
  unfold mulR; rw [if_neg (by omega), if_neg h3]
theorem edge_a : ∀ {a b : Int}, (a == -1) = true → (b == -9223372036854775808) = true → mulR a b = (0, false) := by
  intro a b h1 h2; simp at h1 h2; exact mulR_edge (.inl ⟨h1, h2⟩)
theorem edge_b : ∀ {a b : Int}, (b == -1) = true → (a == -9223372036854775808) = true → mulR a b = (0, false) := by
  intro a b h1 h2; simp at h1 h2; exact mulR_edge (.inr ⟨h1, h2⟩)
theorem ret_ib2 {a : Int} {c : Bool} {p : Int × Bool} (h : p = (a, c)) : Ending.returned (.tuple #[.int .i64 a, .bool c]) = .returned (.tuple #[.int .i64 p.1, .bool p.2]) := by rw [h]
set_option maxHeartbeats 400000 in
theorem mul_any (a b : Int) (w : World) :
    Calls Try.prog 27 #[.int .i64 a, .int .i64 b] w fun e w' => e = .returned (.tuple #[.int .i64 (mulR a b).1, .bool (mulR a b).2]) ∧ ∃ n, w' = w.drewN n := by
  by_cases h0 : a = 0
  · subst h0
    go_enter Try.func27, Try.ntmps27
    go_wp2
    go_ret2
    exact ⟨ret_ib2 (mulR_zero (.inl rfl)), 0, rfl⟩
  by_cases h1 : b = 0
  · subst h1
    have h2 : (a == 0) = false := by simpa using h0
    go_enter Try.func27, Try.ntmps27
    go_wp2
    go_ret2
    exact ⟨ret_ib2 (mulR_zero (.inr rfl)), 0, rfl⟩
  have h2 : (a == 0) = false := by simpa using h0
  have h3 : (b == 0) = false := by simpa using h1
  by_cases hE : a = -1 ∧ b = -9223372036854775808 ∨ b = -1 ∧ a = -9223372036854775808
  · rcases hE with ⟨rfl, rfl⟩ | ⟨rfl, rfl⟩
    · go_enter Try.func27, Try.ntmps27
      go_wp2
      go_ret2
      exact ⟨ret_ib2 (mulR_edge (.inl ⟨rfl, rfl⟩)), 0, rfl⟩
    · go_enter Try.func27, Try.ntmps27
      go_wp2
      go_ret2
      exact ⟨ret_ib2 (mulR_edge (.inr ⟨rfl, rfl⟩)), 0, rfl⟩
  · have e := mulR_else h0 h1 hE
    by_cases ha : a = -1 <;> by_cases hb : b = -1
    all_goals (try subst ha); (try subst hb)
    all_goals try simp only [Int.neg_mul, Int.mul_neg, Int.one_mul, Int.mul_one, Int.neg_neg, Int.tdiv_neg, Int.tdiv_one] at e
    all_goals
      have H := Lib.hid e
      clear e
      go_enter Try.func27, Try.ntmps27
      go_wp2
      all_goals go_quiet (fail)
      all_goals go_wp2
      all_goals go_ret2
      all_goals first | exact ⟨ret_ib2 H.out, _, rfl⟩ | exact ⟨ret_ib2 (by rw [H.out]; unfold wrap64; decide), _, rfl⟩

theorem mul_core (a b p c q r : Int) (b1 : -9223372036854775808 ≤ b) (b2 : b ≤ 9223372036854775807) (hc : c = wrap64 p) (h1 : b * q + r = c)
    (h2 : r < b.natAbs) (h3 : -(b.natAbs : Int) < r) (h4 : q.natAbs ≤ c.natAbs) (hE : ¬ (a = -1 ∧ b = -9223372036854775808 ∨ b = -1 ∧ a = -9223372036854775808)) (hp : p = b * a) (h : wrap64 q = a) :
    -9223372036854775808 ≤ p ∧ p ≤ 9223372036854775807 := by
  have hr := wrap64_range p
  rw [← hc] at hr
  by_cases hq : q = 9223372036854775808
  · have hc' : c = -9223372036854775808 := by omega
    subst hq
    have hb : b = -1 := by omega
    have ha : a = -9223372036854775808 := by rw [← h]; unfold wrap64; decide
    exact absurd (.inr ⟨hb, ha⟩) hE
  · have hqa : q = a := by unfold wrap64 at h; omega
    subst hqa
    rw [← hp] at h1
    unfold wrap64 at hc
    omega
theorem mulR_fit {a b : Int} (a1 : -9223372036854775808 ≤ a) (a2 : a ≤ 9223372036854775807) (b1 : -9223372036854775808 ≤ b) (b2 : b ≤ 9223372036854775807) :
    fit (a * b) = if (mulR a b).2 then (2, (mulR a b).1) else (7, 0) := by
  by_cases h0 : a = 0 ∨ b = 0
  · rw [mulR_zero h0, if_pos rfl]
    have : a * b = 0 := by rcases h0 with rfl | rfl <;> simp
    rw [this]; rfl
  · by_cases hE : a = -1 ∧ b = -9223372036854775808 ∨ b = -1 ∧ a = -9223372036854775808
    · rw [mulR_edge hE]
      rcases hE with ⟨rfl, rfl⟩ | ⟨rfl, rfl⟩ <;> rfl
    · rw [mulR_else (by omega) (by omega) hE]
      have hb : b ≠ 0 := by omega
      by_cases hf : -9223372036854775808 ≤ a * b ∧ a * b ≤ 9223372036854775807
      · have e : wrap64 (a * b) = a * b := by unfold wrap64; omega
        have e2 : (a * b).tdiv b = a := Int.mul_tdiv_cancel a hb
        have e3 : wrap64 a = a := by unfold wrap64; omega
        rw [fit_yes hf.1 hf.2, e, e2, e3]
        simp
      · rw [fit_no hf]
        suffices h : ¬ wrap64 ((wrap64 (a * b)).tdiv b) = a by simp [h]
        intro h
        have h6 : ((wrap64 (a * b)).tdiv b).natAbs ≤ (wrap64 (a * b)).natAbs := by
          rw [Int.natAbs_tdiv]; exact Nat.div_le_self _ _
        have h5 : (wrap64 (a * b)).tmod (b.natAbs : Int) = (wrap64 (a * b)).tmod b := by
          rcases Int.natAbs_eq b with h | h
          · rw [← h]
          · have : (wrap64 (a * b)).tmod b = (wrap64 (a * b)).tmod (-(b.natAbs : Int)) := by rw [← h]
            rw [this, Int.tmod_neg]
        have h3 := Int.tmod_lt_of_pos (wrap64 (a * b)) (b := (b.natAbs : Int)) (by omega)
        have h4 := Int.lt_tmod_of_pos (wrap64 (a * b)) (b := (b.natAbs : Int)) (by omega)
        rw [h5] at h3 h4
        exact hf (mul_core a b (a * b) _ _ _ b1 b2 rfl (Int.mul_tdiv_add_tmod _ _) h3 h4 h6 hE (Int.mul_comm a b) h)
theorem add_fit {a b : Int} (a1 : -9223372036854775808 ≤ a) (a2 : a ≤ 9223372036854775807) (b1 : -9223372036854775808 ≤ b) (b2 : b ≤ 9223372036854775807) :
    fit (a + b) = if addOk a b then (2, wrap64 (a + b)) else (7, 0) := by
  by_cases hf : -9223372036854775808 ≤ a + b ∧ a + b ≤ 9223372036854775807
  · have e : wrap64 (a + b) = a + b := by unfold wrap64; omega
    have e2 : addOk a b = true := by unfold addOk; rw [e]; by_cases h : 0 < b <;> simp [h] <;> omega
    rw [fit_yes hf.1 hf.2, e2, e]; rfl
  · have e2 : addOk a b = false := by
      unfold addOk wrap64
      by_cases h : 0 < b <;> simp [h] <;> omega
    rw [fit_no hf, e2]; rfl
end Go.Proofs.Ytjanfjdiikddaaa.A2
