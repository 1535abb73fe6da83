/- Plain numbers: what a sum, difference, product, quotient and rest of two whole numbers of 64 bits comes to, and how its fitting is seen by signs. -/
import Derived.WalkKit
import Derived.Laws.BitsLemmas
import Derived.Laws.BitsAllLaws
namespace Go.Proofs.Ytjanfjdiikddaaa.Ar
set_option linter.unusedVariables false
set_option linter.unusedSimpArgs false
open Go Go.RowKit

/-- a number that fits, or a fault: kind and number -/
def fit (z : Int) : Int × Int := if -9223372036854775808 ≤ z ∧ z ≤ 9223372036854775807 then (2, z) else (7, 0)
def ar2 (op a b : Int) : Int × Int :=
  if op = 12 then fit (a + b) else if op = 13 then fit (a - b) else if op = 14 then fit (a * b) else
  if op = 15 then (if b = 0 then (7, 0) else fit (a.tdiv b)) else if op = 16 then (if b = 0 then (7, 0) else (2, a.tmod b)) else (7, 0)
def ar (op ka a kb b : Int) : Int × Int := if ka = 0 ∨ kb = 0 then (0, 0) else if ka ≠ 2 ∨ kb ≠ 2 then (7, 0) else ar2 op a b

theorem fit_yes {z : Int} (h1 : -9223372036854775808 ≤ z) (h2 : z ≤ 9223372036854775807) : fit z = (2, z) := by unfold fit; rw [if_pos ⟨h1, h2⟩]
theorem fit_no {z : Int} (h : ¬ (-9223372036854775808 ≤ z ∧ z ≤ 9223372036854775807)) : fit z = (7, 0) := by unfold fit; rw [if_neg h]

theorem toInt_wrap (v : BitVec 64) : IntKind.i64.wrap (v.toNat : Int) = v.toInt := by
  rw [IntKind.wrap_i64, BitVec.toInt_eq_toNat_cond]
  have := v.isLt
  split <;> omega
theorem ofInt_toInt (v : BitVec 64) : BitVec.ofInt 64 v.toInt = v := by simp
theorem xor_eq (a b : Int) : bits .xor .i64 a b = (BitVec.ofInt 64 a ^^^ BitVec.ofInt 64 b).toInt := by
  rw [← toInt_wrap]; rfl
theorem and_eq (a b : Int) : bits .and .i64 a b = (BitVec.ofInt 64 a &&& BitVec.ofInt 64 b).toInt := by
  rw [← toInt_wrap]; rfl
theorem msb_of (a : Int) (h1 : -9223372036854775808 ≤ a) (h2 : a ≤ 9223372036854775807) : (BitVec.ofInt 64 a).msb = decide (a < 0) := by
  rw [BitVec.msb_eq_toInt, BitVec.toInt_ofInt]
  congr 1
  rw [Int.bmod_def]
  simp
  omega
theorem toInt_neg (v : BitVec 64) : v.toInt < 0 ↔ v.msb = true := by
  rw [BitVec.msb_eq_toInt]; simp
theorem wrap64_range (z : Int) : -9223372036854775808 ≤ wrap64 z ∧ wrap64 z ≤ 9223372036854775807 := by
  unfold wrap64; omega
theorem signs (x y n : Int) (x1 : -9223372036854775808 ≤ x) (x2 : x ≤ 9223372036854775807) (y1 : -9223372036854775808 ≤ y) (y2 : y ≤ 9223372036854775807)
    (n1 : -9223372036854775808 ≤ n) (n2 : n ≤ 9223372036854775807) :
    (bits .and .i64 (bits .xor .i64 x n) (bits .xor .i64 y n) < 0) ↔ ((x < 0 ∧ 0 ≤ n) ∨ (0 ≤ x ∧ n < 0)) ∧ ((y < 0 ∧ 0 ≤ n) ∨ (0 ≤ y ∧ n < 0)) := by
  rw [and_eq, xor_eq, xor_eq, ofInt_toInt, ofInt_toInt, toInt_neg, BitVec.msb_and, BitVec.msb_xor, BitVec.msb_xor, msb_of x x1 x2, msb_of y y1 y2, msb_of n n1 n2]
  by_cases a : x < 0 <;> by_cases b : y < 0 <;> by_cases c : n < 0 <;> simp [a, b, c] <;> omega
theorem add_no {x y : Int} (x1 : -9223372036854775808 ≤ x) (x2 : x ≤ 9223372036854775807) (y1 : -9223372036854775808 ≤ y) (y2 : y ≤ 9223372036854775807)
    (h : bits .and .i64 (bits .xor .i64 x (wrap64 (x + y))) (bits .xor .i64 y (wrap64 (x + y))) < 0) : fit (x + y) = (7, 0) := by
  have r := wrap64_range (x + y)
  rw [signs x y _ x1 x2 y1 y2 r.1 r.2] at h
  apply fit_no
  unfold wrap64 at h
  omega
theorem add_yes {x y : Int} (x1 : -9223372036854775808 ≤ x) (x2 : x ≤ 9223372036854775807) (y1 : -9223372036854775808 ≤ y) (y2 : y ≤ 9223372036854775807)
    (h : 0 ≤ bits .and .i64 (bits .xor .i64 x (wrap64 (x + y))) (bits .xor .i64 y (wrap64 (x + y)))) : fit (x + y) = (2, wrap64 (x + y)) := by
  have r := wrap64_range (x + y)
  have h := mt (signs x y _ x1 x2 y1 y2 r.1 r.2).2 (by omega)
  have e : wrap64 (x + y) = x + y := by unfold wrap64 at h ⊢; omega
  rw [e] at r ⊢
  exact fit_yes r.1 r.2
theorem signs2 (x y n : Int) (x1 : -9223372036854775808 ≤ x) (x2 : x ≤ 9223372036854775807) (y1 : -9223372036854775808 ≤ y) (y2 : y ≤ 9223372036854775807)
    (n1 : -9223372036854775808 ≤ n) (n2 : n ≤ 9223372036854775807) :
    (bits .and .i64 (bits .xor .i64 x y) (bits .xor .i64 x n) < 0) ↔ ((x < 0 ∧ 0 ≤ y) ∨ (0 ≤ x ∧ y < 0)) ∧ ((x < 0 ∧ 0 ≤ n) ∨ (0 ≤ x ∧ n < 0)) := by
  rw [and_eq, xor_eq, xor_eq, ofInt_toInt, ofInt_toInt, toInt_neg, BitVec.msb_and, BitVec.msb_xor, BitVec.msb_xor, msb_of x x1 x2, msb_of y y1 y2, msb_of n n1 n2]
  by_cases a : x < 0 <;> by_cases b : y < 0 <;> by_cases c : n < 0 <;> simp [a, b, c] <;> omega
theorem sub_no {x y : Int} (x1 : -9223372036854775808 ≤ x) (x2 : x ≤ 9223372036854775807) (y1 : -9223372036854775808 ≤ y) (y2 : y ≤ 9223372036854775807)
    (h : bits .and .i64 (bits .xor .i64 x y) (bits .xor .i64 x (wrap64 (x - y))) < 0) : fit (x - y) = (7, 0) := by
  have r := wrap64_range (x - y)
  rw [signs2 x y _ x1 x2 y1 y2 r.1 r.2] at h
  apply fit_no
  unfold wrap64 at h
  omega
theorem sub_yes {x y : Int} (x1 : -9223372036854775808 ≤ x) (x2 : x ≤ 9223372036854775807) (y1 : -9223372036854775808 ≤ y) (y2 : y ≤ 9223372036854775807)
    (h : 0 ≤ bits .and .i64 (bits .xor .i64 x y) (bits .xor .i64 x (wrap64 (x - y)))) : fit (x - y) = (2, wrap64 (x - y)) := by
  have r := wrap64_range (x - y)
  have h := mt (signs2 x y _ x1 x2 y1 y2 r.1 r.2).2 (by omega)
  have e : wrap64 (x - y) = x - y := by unfold wrap64 at h ⊢; omega
  rw [e] at r ⊢
  exact fit_yes r.1 r.2
/-- a size with a sign, as 64 bits; whether it fits -/
def sg (n : Int) (b : Bool) : Int := wrap64 (if b then -n else n)
def sgOk (n : Int) (b : Bool) : Bool := if b then decide (n ≤ 9223372036854775808) else decide (n ≤ 9223372036854775807)
theorem sgOk_yes {n z : Int} {b : Bool} (h0 : 0 ≤ n) (hz : z = if b then -n else n) (h : sgOk n b = true) : fit z = (2, sg n b) := by
  subst hz
  unfold sgOk at h
  unfold sg wrap64
  cases b <;> simp at h ⊢ <;> rw [fit_yes (by omega) (by omega)] <;> congr 1 <;> omega
theorem sgOk_no {n z : Int} {b : Bool} (_h0 : 0 ≤ n) (hz : z = if b then -n else n) (h : sgOk n b = false) : fit z = (7, 0) := by
  subst hz
  unfold sgOk at h
  cases b <;> simp at h ⊢ <;> exact fit_no (by omega)
theorem mul_sign (a b : Int) : a * b = if !(decide (a < 0) == decide (b < 0)) then -((a.natAbs : Int) * (b.natAbs : Int)) else (a.natAbs : Int) * (b.natAbs : Int) := by
  by_cases ha : a < 0 <;> by_cases hb : b < 0 <;> simp only [ha, hb, decide_true, decide_false]
  · rw [show (a.natAbs : Int) = -a from by omega, show (b.natAbs : Int) = -b from by omega]; simp [Int.neg_mul_neg]
  · rw [show (a.natAbs : Int) = -a from by omega, show (b.natAbs : Int) = b from by omega]; simp [Int.neg_mul]
  · rw [show (a.natAbs : Int) = a from by omega, show (b.natAbs : Int) = -b from by omega]; simp [Int.mul_neg]
  · rw [show (a.natAbs : Int) = a from by omega, show (b.natAbs : Int) = b from by omega]; simp
theorem div_sign (a b : Int) : a.tdiv b = if !(decide (a < 0) == decide (b < 0)) then -((a.natAbs : Int) / (b.natAbs : Int)) else (a.natAbs : Int) / (b.natAbs : Int) := by
  by_cases ha : a < 0 <;> by_cases hb : b < 0 <;> simp only [ha, hb, decide_true, decide_false]
  · rw [show (a.natAbs : Int) = -a from by omega, show (b.natAbs : Int) = -b from by omega, ← Int.tdiv_eq_ediv_of_nonneg (by omega)]; simp [Int.neg_tdiv, Int.tdiv_neg]
  · rw [show (a.natAbs : Int) = -a from by omega, show (b.natAbs : Int) = b from by omega, ← Int.tdiv_eq_ediv_of_nonneg (by omega)]; simp [Int.neg_tdiv]
  · rw [show (a.natAbs : Int) = a from by omega, show (b.natAbs : Int) = -b from by omega, ← Int.tdiv_eq_ediv_of_nonneg (by omega)]; simp [Int.tdiv_neg]
  · rw [show (a.natAbs : Int) = a from by omega, show (b.natAbs : Int) = b from by omega, ← Int.tdiv_eq_ediv_of_nonneg (by omega)]; simp
theorem mod_sign (a b : Int) : a.tmod b = if decide (a < 0) then -((a.natAbs : Int) % (b.natAbs : Int)) else (a.natAbs : Int) % (b.natAbs : Int) := by
  have hb : (a.natAbs : Int) % (b.natAbs : Int) = (a.natAbs : Int).tmod b := by
    rw [← Int.tmod_eq_emod_of_nonneg (by omega)]
    rcases Int.natAbs_eq b with h | h
    · rw [← h]
    · conv => rhs; rw [h]
      simp
  rw [hb]
  by_cases ha : a < 0 <;> simp only [ha, decide_true, decide_false]
  · rw [show (a.natAbs : Int) = -a from by omega]; simp
  · rw [show (a.natAbs : Int) = a from by omega]; simp
theorem mul_lt (a b : Int) (a1 : -9223372036854775808 ≤ a) (a2 : a ≤ 9223372036854775807) (b1 : -9223372036854775808 ≤ b) (b2 : b ≤ 9223372036854775807) :
    0 ≤ (a.natAbs : Int) * (b.natAbs : Int) := Int.mul_nonneg (by omega) (by omega)
theorem mul_yes {a b : Int} (h1 : sgOk ((a.natAbs : Int) * (b.natAbs : Int) % 18446744073709551616) (!(decide (a < 0) == decide (b < 0))) = true)
    (h2 : ((a.natAbs : Int) * (b.natAbs : Int) / 18446744073709551616 == 0) = true) :
    fit (a * b) = (2, sg ((a.natAbs : Int) * (b.natAbs : Int) % 18446744073709551616) (!(decide (a < 0) == decide (b < 0)))) := by
  have h0 : 0 ≤ (a.natAbs : Int) * (b.natAbs : Int) := Int.mul_nonneg (by omega) (by omega)
  have hs := mul_sign a b
  generalize (a.natAbs : Int) * (b.natAbs : Int) = p at *
  have h3 : p / 18446744073709551616 = 0 := by simpa using h2
  have e : p % 18446744073709551616 = p := by omega
  rw [e] at h1 ⊢
  exact sgOk_yes h0 hs h1
theorem mul_big {a b : Int} (h2 : ((a.natAbs : Int) * (b.natAbs : Int) / 18446744073709551616 == 0) = false) : fit (a * b) = (7, 0) := by
  have h0 : 0 ≤ (a.natAbs : Int) * (b.natAbs : Int) := Int.mul_nonneg (by omega) (by omega)
  have hs := mul_sign a b
  generalize (a.natAbs : Int) * (b.natAbs : Int) = p at *
  have h3 : p / 18446744073709551616 ≠ 0 := by simpa using h2
  rw [hs]
  apply fit_no
  split <;> omega
theorem mul_no {a b : Int} (h1 : ¬ sgOk ((a.natAbs : Int) * (b.natAbs : Int) % 18446744073709551616) (!(decide (a < 0) == decide (b < 0))) = true) : fit (a * b) = (7, 0) := by
  have h0 : 0 ≤ (a.natAbs : Int) * (b.natAbs : Int) := Int.mul_nonneg (by omega) (by omega)
  have hs := mul_sign a b
  generalize (a.natAbs : Int) * (b.natAbs : Int) = p at *
  have h1 : sgOk (p % 18446744073709551616) (!(decide (a < 0) == decide (b < 0))) = false := by simpa using h1
  rw [hs]
  apply fit_no
  unfold sgOk at h1
  split at h1 <;> rename_i hb <;> simp at h1 <;> simp only [hb] <;> simp <;> omega
theorem quo_in {a b : Int} (a1 : -9223372036854775808 ≤ a) (a2 : a ≤ 9223372036854775807) :
    IntKind.u64.wrap ((a.natAbs : Int) / (b.natAbs : Int)) = (a.natAbs : Int) / (b.natAbs : Int) ∧ 0 ≤ (a.natAbs : Int) / (b.natAbs : Int) := by
  have h1 : (a.natAbs : Int) / (b.natAbs : Int) ≤ (a.natAbs : Int) := Int.ediv_le_self _ (by omega)
  have h0 : 0 ≤ (a.natAbs : Int) / (b.natAbs : Int) := Int.ediv_nonneg (by omega) (by omega)
  rw [IntKind.wrap_u64]
  omega
theorem div_yes {a b : Int} (a1 : -9223372036854775808 ≤ a) (a2 : a ≤ 9223372036854775807)
    (h : sgOk (IntKind.u64.wrap ((a.natAbs : Int) / (b.natAbs : Int))) (!(decide (a < 0) == decide (b < 0))) = true) :
    fit (a.tdiv b) = (2, sg (IntKind.u64.wrap ((a.natAbs : Int) / (b.natAbs : Int))) (!(decide (a < 0) == decide (b < 0)))) := by
  have q := quo_in (b := b) a1 a2
  rw [q.1] at h ⊢
  exact sgOk_yes q.2 (div_sign a b) h
theorem div_no {a b : Int} (a1 : -9223372036854775808 ≤ a) (a2 : a ≤ 9223372036854775807)
    (h : sgOk (IntKind.u64.wrap ((a.natAbs : Int) / (b.natAbs : Int))) (!(decide (a < 0) == decide (b < 0))) = false) : fit (a.tdiv b) = (7, 0) := by
  have q := quo_in (b := b) a1 a2
  rw [q.1] at h
  exact sgOk_no q.2 (div_sign a b) h
theorem rest_is {a b : Int} (a1 : -9223372036854775808 ≤ a) (a2 : a ≤ 9223372036854775807) (hb : b ≠ 0) :
    sg ((a.natAbs : Int) % (b.natAbs : Int)) (decide (a < 0)) = a.tmod b := by
  rw [mod_sign]
  have h1 : (a.natAbs : Int) % (b.natAbs : Int) ≤ (a.natAbs : Int) := by
    rw [← Int.natCast_emod]; have := Nat.mod_le a.natAbs b.natAbs; omega
  have h0 : 0 ≤ (a.natAbs : Int) % (b.natAbs : Int) := Int.emod_nonneg _ (by omega)
  unfold sg wrap64
  by_cases ha : a < 0 <;> simp [ha] <;> omega
end Go.Proofs.Ytjanfjdiikddaaa.Ar
