/- Sums and differences by expr.Arith take back one another where they may be, a product by 1 is the number, quotient and rest make the number again: the law ExprSums answers true at every two numbers. No condition. -/
import Derived.Test.YtjanfjdiikddaaaOpen
import Derived.Test.YtjanfjdiikddaaaS1
namespace Go.Proofs.Ytjanfjdiikddaaa.lawExprSums
open Go.ChangeShapes Go.WideShapes Go.ChangeAt Go.RowKit Go.Proofs.Ytjanfjdiikddaaa.Opens Go.Proofs.Ytjanfjdiikddaaa.Ar
set_option linter.unusedVariables false

theorem ar_add {a b : Int} (h1 : -9223372036854775808 ≤ a + b) (h2 : a + b ≤ 9223372036854775807) : ar 12 2 a 2 b = (2, a + b) := fit_yes h1 h2
theorem ar_no {a b : Int} (h : ¬ (-9223372036854775808 ≤ a + b ∧ a + b ≤ 9223372036854775807)) : ar 12 2 a 2 b = (7, 0) := fit_no h
theorem ar_sub {a b : Int} (h1 : -9223372036854775808 ≤ a - b) (h2 : a - b ≤ 9223372036854775807) : ar 13 2 a 2 b = (2, a - b) := fit_yes h1 h2
theorem ar_mul {a b : Int} (h1 : -9223372036854775808 ≤ a * b) (h2 : a * b ≤ 9223372036854775807) : ar 14 2 a 2 b = (2, a * b) := fit_yes h1 h2
theorem ar_div {a b : Int} (hb : b ≠ 0) : ar 15 2 a 2 b = fit (a.tdiv b) := by simp [ar, ar2, hb]
theorem ar_rest {a b : Int} (hb : b ≠ 0) : ar 16 2 a 2 b = (2, a.tmod b) := by simp [ar, ar2, hb]

set_option maxRecDepth 100000 in
theorem law (a b : Int) (w : World) (a1 : -9223372036854775808 ≤ a) (a2 : a ≤ 9223372036854775807) (b1 : -9223372036854775808 ≤ b) (b2 : b ≤ 9223372036854775807) :
    Calls Try.prog 5 #[.int .i64 a, .int .i64 b] w fun e w' => e = .returned (.bool true) ∧ Below w.heap.size w w' := by
  have e4 : ar 14 2 a 2 1 = (2, a) := by rw [ar_mul (by omega) (by omega), Int.mul_one]
  have e5 : ar 15 2 a 2 0 = (7, 0) := by simp [ar, ar2]
  by_cases hb : b = 0
  · subst hb
    have e1 : ar 12 2 a 2 0 = (2, a) := by rw [ar_add (by omega) (by omega), Int.add_zero]
    have e2 : ar 12 2 0 2 a = (2, a) := by rw [ar_add (by omega) (by omega), Int.zero_add]
    have e3 : ar 13 2 a 2 0 = (2, a) := by rw [ar_sub (by omega) (by omega), Int.sub_zero]
    exact S1.way3 a 0 w a1 a2 (by omega) (by omega) a 0 0 a1 a2 (by omega) (by omega) (by omega) (by omega) (by simp) e1 e2 e3 e4 e5 (by simp [ar, ar2]) (by simp [ar, ar2])
  · have hb0 : (b == 0) = false := by simpa using hb
    by_cases hq : a = -9223372036854775808 ∧ b = -1
    · obtain ⟨rfl, rfl⟩ := hq
      have e1 : ar 12 2 (-9223372036854775808) 2 (-1) = (7, 0) := ar_no (by omega)
      have e2 : ar 12 2 (-1) 2 (-9223372036854775808) = (7, 0) := ar_no (by omega)
      have e6 : ar 15 2 (-9223372036854775808) 2 (-1) = (7, 0) := by rw [ar_div (by omega), A3.div_edge]
      have e7 : ar 16 2 (-9223372036854775808) 2 (-1) = (2, 0) := by rw [ar_rest (by omega), Int.tmod_neg, Int.tmod_one]
      exact S1.way4 _ _ w (by omega) (by omega) (by omega) (by omega) 0 0 0 (by omega) (by omega) (by omega) (by omega) (by omega) (by omega) hb0 (by simp) (by simp) e1 e2 e4 e5 e6 e7
    · have hd : b * a.tdiv b + a.tmod b = a := Int.mul_tdiv_add_tmod _ _
      have hqa := A3.quo_abs a b
      have h5 : a.tmod (b.natAbs : Int) = a.tmod b := by
        rcases Int.natAbs_eq b with h | h
        · rw [← h]
        · have : a.tmod b = a.tmod (-(b.natAbs : Int)) := by rw [← h]
          rw [this, Int.tmod_neg]
      have h3 := Int.tmod_lt_of_pos a (b := (b.natAbs : Int)) (by omega)
      have h4 := Int.lt_tmod_of_pos a (b := (b.natAbs : Int)) (by omega)
      rw [h5] at h3 h4
      have hm : (a.tmod b).natAbs ≤ a.natAbs := by rw [Int.natAbs_tmod]; exact Nat.mod_le _ _
      have hp : (a.tdiv b * b).natAbs ≤ a.natAbs := by
        rw [Int.natAbs_mul, Int.natAbs_tdiv]; exact Nat.div_mul_le_self _ _
      have hpr : -9223372036854775808 ≤ a.tdiv b * b ∧ a.tdiv b * b ≤ 9223372036854775807 := by
        by_cases h : a.tdiv b * b = 9223372036854775808
        · exfalso
          have h9 : a = -9223372036854775808 := by omega
          rw [Int.mul_comm] at h
          omega
        · omega
      have hqr : -9223372036854775808 ≤ a.tdiv b ∧ a.tdiv b ≤ 9223372036854775807 := by
        by_cases h : a.tdiv b = 9223372036854775808
        · exfalso
          have h9 : a = -9223372036854775808 := by omega
          rw [h] at hd
          have : b = -1 := by omega
          exact hq ⟨h9, this⟩
        · omega
      have hrr : -9223372036854775808 ≤ a.tmod b ∧ a.tmod b ≤ 9223372036854775807 := by
        by_cases h : a.tmod b = 9223372036854775808
        · exfalso
          have h9 : a = -9223372036854775808 := by omega
          omega
        · omega
      have e6 : ar 15 2 a 2 b = (2, a.tdiv b) := by rw [ar_div hb, fit_yes hqr.1 hqr.2]
      have e7 : ar 16 2 a 2 b = (2, a.tmod b) := ar_rest hb
      have e8 : ar 14 2 (a.tdiv b) 2 b = (2, a.tdiv b * b) := ar_mul hpr.1 hpr.2
      have hs : a.tdiv b * b + a.tmod b = a := by rw [Int.mul_comm]; exact hd
      have e9 : ar 12 2 (a.tdiv b * b) 2 (a.tmod b) = (2, a) := by rw [ar_add (by omega) (by omega), hs]
      by_cases hf : -9223372036854775808 ≤ a + b ∧ a + b ≤ 9223372036854775807
      · have e2 : ar 12 2 b 2 a = (2, a + b) := by rw [ar_add (by omega) (by omega), Int.add_comm]
        have e3 : ar 13 2 (a + b) 2 b = (2, a) := by rw [ar_sub (by omega) (by omega), Int.add_sub_cancel]
        exact S1.way1 a b w a1 a2 b1 b2 (a + b) _ _ hf.1 hf.2 hqr.1 hqr.2 hrr.1 hrr.2 hb0 (ar_add hf.1 hf.2) e2 e3 e4 e5 e6 e7 _ hpr.1 hpr.2 e8 e9
      · exact S1.way2 a b w a1 a2 b1 b2 0 _ _ (by omega) (by omega) hqr.1 hqr.2 hrr.1 hrr.2 hb0 (ar_no hf) (ar_no (by omega)) e4 e5 e6 e7 _ hpr.1 hpr.2 e8 e9

set_option maxRecDepth 100000 in
theorem lifted (os : Os) (started : os.Started) (H : Type) (enc : TypeId × Value → H) :
    ReturnsInHanded {} Try.checked os 5 .any (Rows.exprSumsSpec.pre6 enc Try.prog Try.f5 Rows.exprSumsRow.domain false) (Rows.exprSumsSpec.post enc Try.prog Try.f5 false true false false) := by
  refine returnsInHanded_of_change (C := Try.checked) own started (by kernel_rfl) Try.func5
    (ChangeSpec.witness6 (enc := enc) (C := Try.checked) false ⟨#[], #[.int .i64 0, .int .i64 0], []⟩ 8 (by kernel_rfl) (by kernel_rfl) (by kernel_rfl) (by kernel_rfl)) ?_
  intro W base args ds gs before hval0 hW hcnd _
  have hval : ∀ (j : Nat) t v, Try.f5.params[j]? = some t → args[j]? = some v → Value.okWide Try.prog W .any base t v := hval0
  have hW' := hW
  obtain ⟨p, q, hA0, hV, rfl, hfz, hnd⟩ := hW
  have hA : DataW.TrodAll enc Try.prog W 0 (fun _ => true) true Try.f5.params.toList args.toList ds p := hA0
  rw [Try.params5] at hA hval
  obtain ⟨v0, vs0, d0, ds0, p0, q0, hargs, rfl, rfl, h0, r0⟩ := trodAll_cons hA
  obtain ⟨v1, vs1, d1, ds1, p1, q1, rfl, rfl, rfl, h1, r1⟩ := trodAll_cons r0
  obtain ⟨rfl, rfl, rfl⟩ := trodAll_nil r1
  obtain rfl : args = #[v0, v1] := by cases args; simp_all
  obtain ⟨rfl, rfl⟩ := trodVars_none hV
  obtain ⟨a, rfl, rfl, rfl, w0⟩ := open_int Try.underlying2 (hval 0 2 v0 rfl rfl) h0
  obtain ⟨b, rfl, rfl, rfl, w1⟩ := open_int Try.underlying2 (hval 1 2 v1 rfl rfl) h1
  clear hA0 hval0
  refine (law a b W (i64_of w0).1 (i64_of w0).2 (i64_of w1).1 (i64_of w1).2).mono fun e W' ⟨he, bel⟩ => ?_
  subst he
  exact ⟨_, rfl, _, _, _, [], _, [], hW', trodAll_mk1 (shut_bool Try.underlying4 _), (trodAll_cons_mk (shut_int Try.underlying2 w0) (trodAll_cons_mk (shut_int Try.underlying2 w1) trodAll_mk0)), rfl, bel.frame _, fun h => by cases h⟩

theorem over : Rows.exprSumsRow.holds Try.pinned (OpenSpec.ofChange Rows.exprSumsSpec) :=
  OpenClaim.holds_of_wide 5 Try.f5 rfl rfl rfl rfl rfl rfl rfl ⟨rfl, rfl, rfl, rfl, rfl⟩ rfl rfl rfl rfl rfl (by kernel_rfl) Try.func5 (by kernel_rfl)
    (of_decide_eq_true (by kernel_rfl)) (by unfold Func.isWrapper; first | (rw [if_pos (by decide +kernel)]; kernel_rfl) | (rw [if_neg (by decide +kernel)]; exact ⟨rfl, rfl⟩))
    (fun os started H enc _ => lifted os started H enc)

theorem proved : Rows.ExprSumsSaid := over
#print axioms proved
end Go.Proofs.Ytjanfjdiikddaaa.lawExprSums
