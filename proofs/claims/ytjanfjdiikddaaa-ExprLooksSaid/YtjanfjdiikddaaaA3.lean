/- Walk of the reference's Arith: it returns what 'ar' says. -/
import Derived.Test.YtjanfjdiikddaaaA2
namespace Go.Proofs.Ytjanfjdiikddaaa.A3
set_option linter.unusedVariables false
set_option linter.unusedSimpArgs false
open Go.RowKit Go.Proofs.Ytjanfjdiikddaaa.A1 Go.Proofs.Ytjanfjdiikddaaa.Ar Go.Proofs.Ytjanfjdiikddaaa.A2

theorem ite_fst {b : Bool} {x y : Int × Int} (h : (!b) = false) : (if b then x else y) = x := by cases b <;> simp at h ⊢
theorem ite_snd {b : Bool} {x y : Int × Int} (h : (!b) = true) : (if b then x else y) = y := by cases b <;> simp at h ⊢
theorem ret_rv {z : Int × Int} {k n : Int} (h : z = (k, n)) : Ending.returned (rv k n) = .returned (rv z.1 z.2) := by rw [h]
theorem sub_edge1 {a : Int} (a2 : a ≤ 9223372036854775807) (a1 : -9223372036854775808 ≤ a) (h : a < 0) : fit (a - -9223372036854775808) = (2, wrap64 (a + -9223372036854775808)) := by
  rw [fit_yes (by omega) (by omega)]; congr 1; unfold wrap64; omega
theorem sub_edge2 {a : Int} (a2 : a ≤ 9223372036854775807) (h : 0 ≤ a) : fit (a - -9223372036854775808) = (7, 0) := fit_no (by omega)
theorem div_edge : fit ((-9223372036854775808 : Int).tdiv (-1)) = (7, 0) := by rw [fit_no (by decide)]
theorem quo_abs (a b : Int) : (a.tdiv b).natAbs ≤ a.natAbs := by rw [Int.natAbs_tdiv]; exact Nat.div_le_self _ _
theorem div_in {a b : Int} (a1 : -9223372036854775808 ≤ a) (a2 : a ≤ 9223372036854775807) (hb : b ≠ 0) (hb' : b ≠ -1) : fit (a.tdiv b) = (2, wrap64 (a.tdiv b)) := by
  have h := quo_abs a b
  have h1 : a.tdiv b ≠ 9223372036854775808 := by
    intro h8
    have h1 : b * a.tdiv b + a.tmod b = a := Int.mul_tdiv_add_tmod _ _
    have h9 : a = -9223372036854775808 := by omega
    have h3 := Int.tmod_lt_of_pos a (b := (b.natAbs : Int)) (by omega)
    have h4 := Int.lt_tmod_of_pos a (b := (b.natAbs : Int)) (by omega)
    have h5 : a.tmod (b.natAbs : Int) = a.tmod b := by
      rcases Int.natAbs_eq b with h | h
      · rw [← h]
      · have : a.tmod b = a.tmod (-(b.natAbs : Int)) := by rw [← h]
        rw [this, Int.tmod_neg]
    rw [h5] at h3 h4
    rw [h8] at h1
    omega
  rw [fit_yes (by omega) (by omega)]
  congr 1
  generalize a.tdiv b = q at *
  unfold wrap64
  omega
theorem div_neg {a : Int} (a1 : -9223372036854775807 ≤ a) (a2 : a ≤ 9223372036854775807) : fit (a.tdiv (-1)) = (2, wrap64 (-a)) := by
  rw [Int.tdiv_neg, Int.tdiv_one, fit_yes (by omega) (by omega)]; congr 1; unfold wrap64; omega
set_option maxHeartbeats 400000 in
set_option maxRecDepth 100000 in
theorem arith_null (op na kb nb : Int) (ba bb : Bool) (ta tb : ByteArray) (pa pb : Value) (w : World)  :
    Calls Try.prog 11 #[.int .i64 op, .agg #[.int .i64 0, .bool ba, .int .i64 na, .string ta, pa], .agg #[.int .i64 kb, .bool bb, .int .i64 nb, .string tb, pb]] w fun e w' => e = .returned (rv 0 0) ∧ Below w.heap.size w w' := by
  go_enter Try.func11, Try.ntmps11
  go_wp2
  refine bodyPost_ret (v := rv _ _) (by simp [results, Try.results11, go_sem]; rfl) rfl ?_
  refine ⟨rfl, ?_⟩
  go_grown
  try (refine below_drewN ?_ _; go_grown)
set_option maxHeartbeats 400000 in
set_option maxRecDepth 100000 in
theorem arith_null2 (op ka na nb : Int) (ba bb : Bool) (ta tb : ByteArray) (pa pb : Value) (w : World) (h : (ka == 0) = false) :
    Calls Try.prog 11 #[.int .i64 op, .agg #[.int .i64 ka, .bool ba, .int .i64 na, .string ta, pa], .agg #[.int .i64 0, .bool bb, .int .i64 nb, .string tb, pb]] w fun e w' => e = .returned (rv 0 0) ∧ Below w.heap.size w w' := by
  go_enter Try.func11, Try.ntmps11
  go_wp2
  refine bodyPost_ret (v := rv _ _) (by simp [results, Try.results11, go_sem]; rfl) rfl ?_
  refine ⟨rfl, ?_⟩
  go_grown
  try (refine below_drewN ?_ _; go_grown)
set_option maxHeartbeats 400000 in
set_option maxRecDepth 100000 in
theorem arith_no (op ka na kb nb : Int) (ba bb : Bool) (ta tb : ByteArray) (pa pb : Value) (w : World) (h : (ka == 0) = false) (h0 : (kb == 0) = false) (h1 : (ka != 2) = true) :
    Calls Try.prog 11 #[.int .i64 op, .agg #[.int .i64 ka, .bool ba, .int .i64 na, .string ta, pa], .agg #[.int .i64 kb, .bool bb, .int .i64 nb, .string tb, pb]] w fun e w' => e = .returned (rv 7 0) ∧ Below w.heap.size w w' := by
  go_enter Try.func11, Try.ntmps11
  go_wp2
  refine bodyPost_ret (v := rv _ _) (by simp [results, Try.results11, go_sem]; rfl) rfl ?_
  refine ⟨rfl, ?_⟩
  go_grown
  try (refine below_drewN ?_ _; go_grown)
set_option maxHeartbeats 400000 in
set_option maxRecDepth 100000 in
theorem arith_no2 (op na kb nb : Int) (ba bb : Bool) (ta tb : ByteArray) (pa pb : Value) (w : World) (h0 : (kb == 0) = false) (h1 : (kb != 2) = true) :
    Calls Try.prog 11 #[.int .i64 op, .agg #[.int .i64 2, .bool ba, .int .i64 na, .string ta, pa], .agg #[.int .i64 kb, .bool bb, .int .i64 nb, .string tb, pb]] w fun e w' => e = .returned (rv 7 0) ∧ Below w.heap.size w w' := by
  go_enter Try.func11, Try.ntmps11
  go_wp2
  refine bodyPost_ret (v := rv _ _) (by simp [results, Try.results11, go_sem]; rfl) rfl ?_
  refine ⟨rfl, ?_⟩
  go_grown
  try (refine below_drewN ?_ _; go_grown)
set_option maxHeartbeats 400000 in
set_option maxRecDepth 100000 in
theorem arith_div0 (na : Int) (ba bb : Bool) (ta tb : ByteArray) (pa pb : Value) (w : World)  :
    Calls Try.prog 11 #[.int .i64 15, .agg #[.int .i64 2, .bool ba, .int .i64 na, .string ta, pa], .agg #[.int .i64 2, .bool bb, .int .i64 0, .string tb, pb]] w fun e w' => e = .returned (rv 7 0) ∧ Below w.heap.size w w' := by
  go_enter Try.func11, Try.ntmps11
  go_wp2
  refine bodyPost_ret (v := rv _ _) (by simp [results, Try.results11, go_sem]; rfl) rfl ?_
  refine ⟨rfl, ?_⟩
  go_grown
  try (refine below_drewN ?_ _; go_grown)
set_option maxHeartbeats 400000 in
set_option maxRecDepth 100000 in
theorem arith_rest0 (na : Int) (ba bb : Bool) (ta tb : ByteArray) (pa pb : Value) (w : World)  :
    Calls Try.prog 11 #[.int .i64 16, .agg #[.int .i64 2, .bool ba, .int .i64 na, .string ta, pa], .agg #[.int .i64 2, .bool bb, .int .i64 0, .string tb, pb]] w fun e w' => e = .returned (rv 7 0) ∧ Below w.heap.size w w' := by
  go_enter Try.func11, Try.ntmps11
  go_wp2
  refine bodyPost_ret (v := rv _ _) (by simp [results, Try.results11, go_sem]; rfl) rfl ?_
  refine ⟨rfl, ?_⟩
  go_grown
  try (refine below_drewN ?_ _; go_grown)
set_option maxHeartbeats 400000 in
set_option maxRecDepth 100000 in
theorem arith_other (op na nb : Int) (ba bb : Bool) (ta tb : ByteArray) (pa pb : Value) (w : World) (h0 : (op == 12) = false) (h1 : (op == 13) = false) (h2 : (op == 14) = false) (h3 : (op == 15) = false) (h4 : (op == 16) = false) :
    Calls Try.prog 11 #[.int .i64 op, .agg #[.int .i64 2, .bool ba, .int .i64 na, .string ta, pa], .agg #[.int .i64 2, .bool bb, .int .i64 nb, .string tb, pb]] w fun e w' => e = .returned (rv 7 0) ∧ Below w.heap.size w w' := by
  go_enter Try.func11, Try.ntmps11
  go_wp2
  refine bodyPost_ret (v := rv _ _) (by simp [results, Try.results11, go_sem]; rfl) rfl ?_
  refine ⟨rfl, ?_⟩
  go_grown
  try (refine below_drewN ?_ _; go_grown)
set_option maxHeartbeats 400000 in
set_option maxRecDepth 100000 in
theorem arith_add (na nb : Int) (ba bb : Bool) (ta tb : ByteArray) (pa pb : Value) (w : World) (a1 : -9223372036854775808 ≤ na) (a2 : na ≤ 9223372036854775807) (b1 : -9223372036854775808 ≤ nb) (b2 : nb ≤ 9223372036854775807) :
    Calls Try.prog 11 #[.int .i64 12, .agg #[.int .i64 2, .bool ba, .int .i64 na, .string ta, pa], .agg #[.int .i64 2, .bool bb, .int .i64 nb, .string tb, pb]] w fun e w' => e = .returned (rv (fit (na + nb)).1 (fit (na + nb)).2) ∧ Below w.heap.size w w' := by
  go_enter Try.func11, Try.ntmps11
  have H := Lib.hid (add_fit a1 a2 b1 b2)
  go_wp2_with (first | (go_at_call 26; refine (add_any _ _ _).mono ?_; rintro e w' ⟨rfl, rfl⟩) | (go_at_call 27; refine (mul_any _ _ _).mono ?_; rintro e w' ⟨rfl, nd, rfl⟩))
  · go_wp2
    refine bodyPost_ret (v := rv _ _) (by simp [results, Try.results11, go_sem]; rfl) rfl ?_
    refine ⟨ret_rv (by rw [H.out, ite_snd (by assumption)]), ?_⟩
    go_grown
    try (refine below_drewN ?_ _; go_grown)
  · go_wp2
    refine bodyPost_ret (v := rv _ _) (by simp [results, Try.results11, go_sem]; rfl) rfl ?_
    refine ⟨ret_rv (by rw [H.out, ite_fst (by assumption)]), ?_⟩
    go_grown
    try (refine below_drewN ?_ _; go_grown)
set_option maxHeartbeats 400000 in
set_option maxRecDepth 100000 in
theorem arith_mul (na nb : Int) (ba bb : Bool) (ta tb : ByteArray) (pa pb : Value) (w : World) (a1 : -9223372036854775808 ≤ na) (a2 : na ≤ 9223372036854775807) (b1 : -9223372036854775808 ≤ nb) (b2 : nb ≤ 9223372036854775807) :
    Calls Try.prog 11 #[.int .i64 14, .agg #[.int .i64 2, .bool ba, .int .i64 na, .string ta, pa], .agg #[.int .i64 2, .bool bb, .int .i64 nb, .string tb, pb]] w fun e w' => e = .returned (rv (fit (na * nb)).1 (fit (na * nb)).2) ∧ Below w.heap.size w w' := by
  go_enter Try.func11, Try.ntmps11
  have H := Lib.hid (mulR_fit a1 a2 b1 b2)
  go_wp2_with (first | (go_at_call 26; refine (add_any _ _ _).mono ?_; rintro e w' ⟨rfl, rfl⟩) | (go_at_call 27; refine (mul_any _ _ _).mono ?_; rintro e w' ⟨rfl, nd, rfl⟩))
  · go_wp2
    refine bodyPost_ret (v := rv _ _) (by simp [results, Try.results11, go_sem]; rfl) rfl ?_
    refine ⟨ret_rv (by rw [H.out, ite_snd (by assumption)]), ?_⟩
    go_grown
    try (refine below_drewN ?_ _; go_grown)
  · go_wp2
    refine bodyPost_ret (v := rv _ _) (by simp [results, Try.results11, go_sem]; rfl) rfl ?_
    refine ⟨ret_rv (by rw [H.out, ite_fst (by assumption)]), ?_⟩
    go_grown
    try (refine below_drewN ?_ _; go_grown)
set_option maxHeartbeats 400000 in
set_option maxRecDepth 100000 in
theorem arith_sub (na nb : Int) (ba bb : Bool) (ta tb : ByteArray) (pa pb : Value) (w : World) (a1 : -9223372036854775808 ≤ na) (a2 : na ≤ 9223372036854775807) (b1 : -9223372036854775807 ≤ nb) (b2 : nb ≤ 9223372036854775807) (h0 : (nb == -9223372036854775808) = false) :
    Calls Try.prog 11 #[.int .i64 13, .agg #[.int .i64 2, .bool ba, .int .i64 na, .string ta, pa], .agg #[.int .i64 2, .bool bb, .int .i64 nb, .string tb, pb]] w fun e w' => e = .returned (rv (fit (na + -nb)).1 (fit (na + -nb)).2) ∧ Below w.heap.size w w' := by
  go_enter Try.func11, Try.ntmps11
  have H := Lib.hid (add_fit (b := -nb) a1 a2 (by omega) (by omega))
  go_wp2_with (first | (go_at_call 26; refine (add_any _ _ _).mono ?_; rintro e w' ⟨rfl, rfl⟩) | (go_at_call 27; refine (mul_any _ _ _).mono ?_; rintro e w' ⟨rfl, nd, rfl⟩))
  · go_wp2
    refine bodyPost_ret (v := rv _ _) (by simp [results, Try.results11, go_sem]; rfl) rfl ?_
    refine ⟨ret_rv (by rw [H.out, ite_snd (by assumption)]), ?_⟩
    go_grown
    try (refine below_drewN ?_ _; go_grown)
  · go_wp2
    refine bodyPost_ret (v := rv _ _) (by simp [results, Try.results11, go_sem]; rfl) rfl ?_
    refine ⟨ret_rv (by rw [H.out, ite_fst (by assumption)]), ?_⟩
    go_grown
    try (refine below_drewN ?_ _; go_grown)
set_option maxHeartbeats 400000 in
set_option maxRecDepth 100000 in
theorem arith_sub1 (na : Int) (ba bb : Bool) (ta tb : ByteArray) (pa pb : Value) (w : World) (a1 : -9223372036854775808 ≤ na) (a2 : na ≤ 9223372036854775807) (h : na < 0) :
    Calls Try.prog 11 #[.int .i64 13, .agg #[.int .i64 2, .bool ba, .int .i64 na, .string ta, pa], .agg #[.int .i64 2, .bool bb, .int .i64 (-9223372036854775808), .string tb, pb]] w fun e w' => e = .returned (rv (fit (na - -9223372036854775808)).1 (fit (na - -9223372036854775808)).2) ∧ Below w.heap.size w w' := by
  go_enter Try.func11, Try.ntmps11
  have H := Lib.hid (sub_edge1 a2 a1 h)
  go_wp2
  go_quiet (fail)
  go_wp2
  refine bodyPost_ret (v := rv _ _) (by simp [results, Try.results11, go_sem]; rfl) rfl ?_
  refine ⟨ret_rv H.out, ?_⟩
  go_grown
  try (refine below_drewN ?_ _; go_grown)
set_option maxHeartbeats 400000 in
set_option maxRecDepth 100000 in
theorem arith_sub2 (na : Int) (ba bb : Bool) (ta tb : ByteArray) (pa pb : Value) (w : World) (a1 : -9223372036854775808 ≤ na) (a2 : na ≤ 9223372036854775807) (h : 0 ≤ na) :
    Calls Try.prog 11 #[.int .i64 13, .agg #[.int .i64 2, .bool ba, .int .i64 na, .string ta, pa], .agg #[.int .i64 2, .bool bb, .int .i64 (-9223372036854775808), .string tb, pb]] w fun e w' => e = .returned (rv (fit (na - -9223372036854775808)).1 (fit (na - -9223372036854775808)).2) ∧ Below w.heap.size w w' := by
  go_enter Try.func11, Try.ntmps11
  have H := Lib.hid (sub_edge2 a2 h)
  have hd : decide (na < 0) = false := by simpa using h
  go_wp2
  go_quiet (fail)
  go_wp2
  refine bodyPost_ret (v := rv _ _) (by simp [results, Try.results11, go_sem]; rfl) rfl ?_
  refine ⟨ret_rv H.out, ?_⟩
  go_grown
  try (refine below_drewN ?_ _; go_grown)
set_option maxHeartbeats 400000 in
set_option maxRecDepth 100000 in
theorem arith_div (na nb : Int) (ba bb : Bool) (ta tb : ByteArray) (pa pb : Value) (w : World) (a1 : -9223372036854775808 ≤ na) (a2 : na ≤ 9223372036854775807) (h0 : (nb == 0) = false) (h1 : ¬ nb = 0) (h2 : (nb == -1) = false) (h3 : ¬ nb = -1) (h4 : (nb != 0) = true) :
    Calls Try.prog 11 #[.int .i64 15, .agg #[.int .i64 2, .bool ba, .int .i64 na, .string ta, pa], .agg #[.int .i64 2, .bool bb, .int .i64 nb, .string tb, pb]] w fun e w' => e = .returned (rv (fit (na.tdiv nb)).1 (fit (na.tdiv nb)).2) ∧ Below w.heap.size w w' := by
  go_enter Try.func11, Try.ntmps11
  have H := Lib.hid (div_in a1 a2 h1 h3)
  go_wp2
  refine bodyPost_ret (v := rv _ _) (by simp [results, Try.results11, go_sem]; rfl) rfl ?_
  refine ⟨ret_rv H.out, ?_⟩
  go_grown
  try (refine below_drewN ?_ _; go_grown)
set_option maxHeartbeats 400000 in
set_option maxRecDepth 100000 in
theorem arith_div1 (na : Int) (ba bb : Bool) (ta tb : ByteArray) (pa pb : Value) (w : World) (a1 : -9223372036854775807 ≤ na) (a2 : na ≤ 9223372036854775807) (h : (na == -9223372036854775808) = false) :
    Calls Try.prog 11 #[.int .i64 15, .agg #[.int .i64 2, .bool ba, .int .i64 na, .string ta, pa], .agg #[.int .i64 2, .bool bb, .int .i64 (-1), .string tb, pb]] w fun e w' => e = .returned (rv (fit (na.tdiv (-1))).1 (fit (na.tdiv (-1))).2) ∧ Below w.heap.size w w' := by
  go_enter Try.func11, Try.ntmps11
  have H := Lib.hid (div_neg a1 a2)
  go_wp2
  refine bodyPost_ret (v := rv _ _) (by simp [results, Try.results11, go_sem]; rfl) rfl ?_
  refine ⟨by first | exact ret_rv H.out | (rw [H.out]; congr 1; unfold wrap64; congr 1; omega), ?_⟩
  go_grown
  try (refine below_drewN ?_ _; go_grown)
set_option maxHeartbeats 400000 in
set_option maxRecDepth 100000 in
theorem arith_div2 (_x : Int) (ba bb : Bool) (ta tb : ByteArray) (pa pb : Value) (w : World)  :
    Calls Try.prog 11 #[.int .i64 15, .agg #[.int .i64 2, .bool ba, .int .i64 (-9223372036854775808), .string ta, pa], .agg #[.int .i64 2, .bool bb, .int .i64 (-1), .string tb, pb]] w fun e w' => e = .returned (rv 7 0) ∧ Below w.heap.size w w' := by
  go_enter Try.func11, Try.ntmps11
  go_wp2
  refine bodyPost_ret (v := rv _ _) (by simp [results, Try.results11, go_sem]; rfl) rfl ?_
  refine ⟨rfl, ?_⟩
  go_grown
  try (refine below_drewN ?_ _; go_grown)
set_option maxHeartbeats 400000 in
set_option maxRecDepth 100000 in
theorem arith_rest1 (na : Int) (ba bb : Bool) (ta tb : ByteArray) (pa pb : Value) (w : World)  :
    Calls Try.prog 11 #[.int .i64 16, .agg #[.int .i64 2, .bool ba, .int .i64 na, .string ta, pa], .agg #[.int .i64 2, .bool bb, .int .i64 (-1), .string tb, pb]] w fun e w' => e = .returned (rv 2 0) ∧ Below w.heap.size w w' := by
  go_enter Try.func11, Try.ntmps11
  go_wp2
  refine bodyPost_ret (v := rv _ _) (by simp [results, Try.results11, go_sem]; rfl) rfl ?_
  refine ⟨rfl, ?_⟩
  go_grown
  try (refine below_drewN ?_ _; go_grown)
set_option maxHeartbeats 400000 in
set_option maxRecDepth 100000 in
theorem arith_rest (na nb : Int) (ba bb : Bool) (ta tb : ByteArray) (pa pb : Value) (w : World) (h0 : (nb == 0) = false) (h1 : ¬ nb = 0) (h2 : (nb == -1) = false) (h3 : ¬ nb = -1) (h4 : (nb != 0) = true) (h5 : (nb != -1) = true) :
    Calls Try.prog 11 #[.int .i64 16, .agg #[.int .i64 2, .bool ba, .int .i64 na, .string ta, pa], .agg #[.int .i64 2, .bool bb, .int .i64 nb, .string tb, pb]] w fun e w' => e = .returned (rv 2 (na.tmod nb)) ∧ Below w.heap.size w w' := by
  go_enter Try.func11, Try.ntmps11
  go_wp2
  refine bodyPost_ret (v := rv _ _) (by simp [results, Try.results11, go_sem]; rfl) rfl ?_
  refine ⟨rfl, ?_⟩
  go_grown
  try (refine below_drewN ?_ _; go_grown)

end Go.Proofs.Ytjanfjdiikddaaa.A3
