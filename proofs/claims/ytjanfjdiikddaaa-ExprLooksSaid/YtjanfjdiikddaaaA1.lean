/- Walks of package expr's small functions: size, signed, number, fault; each returns what the Lean function says. -/
import Derived.Test.YtjanfjdiikddaaaProg
import Derived.WalkKit
import Derived.WalkLawsBesides
import Derived.WalkSpells
import Derived.BigQuiet
import Derived.Deep.QuietTactic
import Derived.Outline
import Derived.Handy
import Derived.Lib.Hide
import Derived.Test.YtjanfjdiikddaaaShelf
import Derived.Test.YtjanfjdiikddaaaFwd
import Derived.Test.YtjanfjdiikddaaaAr
namespace Go.Proofs.Ytjanfjdiikddaaa.A1
set_option linter.unusedVariables false
set_option linter.unusedSimpArgs false
open Go.RowKit
open Go.Proofs.Ytjanfjdiikddaaa.Fwd Go.Proofs.Ytjanfjdiikddaaa.Ar
attribute [local go_sem] fwd_normal fwd_exit fwd_ret fwd_panic fwd_goto

theorem ret_int {k : IntKind} {a b : Int} (h : a = b) : Ending.returned (.int k a) = .returned (.int k b) := by rw [h]
theorem ret_ib {k : IntKind} {a b : Int} {c d : Bool} (h : a = b) (h' : c = d) : Ending.returned (.tuple #[.int k a, .bool c]) = .returned (.tuple #[.int k b, .bool d]) := by rw [h, h']

theorem below_drewN {B : Nat} {a w : World} (h : Below B a w) (n : Nat) : Below B a (w.drewN n) := ⟨h.os, h.tape, h.output, h.size, h.block⟩

/-- a value of the program without text and path -/
def rv (k n : Int) : Value := .agg #[.int .i64 k, .bool false, .int .i64 n, .string ⟨#[]⟩, .slice none 0 0]

set_option maxHeartbeats 400000 in
theorem size_any (n : Int) (w : World) (h1 : -9223372036854775808 ≤ n) (h2 : n ≤ 9223372036854775807) :
    Calls Try.prog 21 #[.int .i64 n] w fun e w' => e = .returned (.int .u64 n.natAbs) ∧ w = w' := by
  go_enter Try.func21, Try.ntmps21
  go_wp2
  · go_ret
    exact ⟨ret_int (by rw [IntKind.wrap_u64, IntKind.wrap_u64]; omega), rfl⟩
  · go_ret
    exact ⟨ret_int (by omega), rfl⟩

set_option maxHeartbeats 400000 in
theorem fault_any (w : World) :
    Calls Try.prog 24 #[] w fun e w' => e = .returned (rv 7 0) ∧ Below w.heap.size w w' := by
  go_enter Try.func24, Try.ntmps24
  go_wp2
  go_returns
  exact ⟨rfl, by go_grown⟩

set_option maxHeartbeats 400000 in
theorem number_any (n : Int) (w : World) :
    Calls Try.prog 23 #[.int .i64 n] w fun e w' => e = .returned (rv 2 n) ∧ Below w.heap.size w w' := by
  go_enter Try.func23, Try.ntmps23
  go_wp2
  go_returns
  exact ⟨rfl, by go_grown⟩

set_option maxHeartbeats 400000 in
theorem signed_any (n : Int) (b : Bool) (w : World) :
    Calls Try.prog 22 #[.int .u64 n, .bool b] w fun e w' => e = .returned (.tuple #[.int .i64 (sg n b), .bool (sgOk n b)]) ∧ w = w' := by
  cases b
  · go_enter Try.func22, Try.ntmps22
    go_wp2
    go_ret2
    exact ⟨ret_ib (by simp [sg]) (by simp [sgOk]; omega), rfl⟩
  · go_enter Try.func22, Try.ntmps22
    go_wp2
    go_ret2
    exact ⟨ret_ib (by simp [sg]; go_arith) (by simp [sgOk]), rfl⟩

set_option maxHeartbeats 400000 in
set_option maxRecDepth 100000 in
theorem arith_null (op na kb nb : Int) (ba bb : Bool) (ta tb : ByteArray) (pa pb : Value) (w : World)  :
    Calls Try.prog 10 #[.int .i64 op, .agg #[.int .i64 0, .bool ba, .int .i64 na, .string ta, pa], .agg #[.int .i64 kb, .bool bb, .int .i64 nb, .string tb, pb]] w fun e w' => e = .returned (rv 0 0) ∧ Below w.heap.size w w' := by
  go_enter Try.func10, Try.ntmps10
  go_wp2
  refine wp_scope_fwd 0 _ rfl ?_
  go_wp2
  go_quiet (fail)
  go_wp2
  rw [fwd_ret]
  refine bodyPost_ret (v := rv 0 0) (by simp [results, Try.results10, go_sem]; rfl) rfl ?_
  refine ⟨rfl, ?_⟩
  go_grown
  refine below_drewN ?_ _
  go_grown
set_option maxHeartbeats 400000 in
set_option maxRecDepth 100000 in
theorem arith_null2 (op ka na nb : Int) (ba bb : Bool) (ta tb : ByteArray) (pa pb : Value) (w : World) (h : (ka == 0) = false) :
    Calls Try.prog 10 #[.int .i64 op, .agg #[.int .i64 ka, .bool ba, .int .i64 na, .string ta, pa], .agg #[.int .i64 0, .bool bb, .int .i64 nb, .string tb, pb]] w fun e w' => e = .returned (rv 0 0) ∧ Below w.heap.size w w' := by
  go_enter Try.func10, Try.ntmps10
  go_wp2
  refine wp_scope_fwd 0 _ rfl ?_
  go_wp2
  go_quiet (fail)
  go_wp2
  rw [fwd_ret]
  refine bodyPost_ret (v := rv 0 0) (by simp [results, Try.results10, go_sem]; rfl) rfl ?_
  refine ⟨rfl, ?_⟩
  go_grown
  refine below_drewN ?_ _
  go_grown
set_option maxHeartbeats 400000 in
set_option maxRecDepth 100000 in
theorem arith_no (op ka na kb nb : Int) (ba bb : Bool) (ta tb : ByteArray) (pa pb : Value) (w : World) (h : (ka == 0) = false) (h0 : (kb == 0) = false) (h1 : (ka != 2) = true) :
    Calls Try.prog 10 #[.int .i64 op, .agg #[.int .i64 ka, .bool ba, .int .i64 na, .string ta, pa], .agg #[.int .i64 kb, .bool bb, .int .i64 nb, .string tb, pb]] w fun e w' => e = .returned (rv 7 0) ∧ Below w.heap.size w w' := by
  go_enter Try.func10, Try.ntmps10
  go_wp2
  refine wp_scope_fwd 0 _ rfl ?_
  go_wp2
  go_quiet (fail)
  go_wp2
  go_step3
  simp only [Exit.then, Exit.inBlock, fwd_goto]
  go_wp2
  rw [Exit.noGoto_ret]
  refine bodyPost_ret (v := rv 7 0) (by simp [results, Try.results10, go_sem]; rfl) rfl ?_
  refine ⟨rfl, ?_⟩
  go_grown
  refine below_drewN ?_ _
  go_grown
set_option maxHeartbeats 400000 in
set_option maxRecDepth 100000 in
theorem arith_no2 (op na kb nb : Int) (ba bb : Bool) (ta tb : ByteArray) (pa pb : Value) (w : World) (h0 : (kb == 0) = false) (h1 : (kb != 2) = true) :
    Calls Try.prog 10 #[.int .i64 op, .agg #[.int .i64 2, .bool ba, .int .i64 na, .string ta, pa], .agg #[.int .i64 kb, .bool bb, .int .i64 nb, .string tb, pb]] w fun e w' => e = .returned (rv 7 0) ∧ Below w.heap.size w w' := by
  go_enter Try.func10, Try.ntmps10
  go_wp2
  refine wp_scope_fwd 0 _ rfl ?_
  go_wp2
  go_quiet (fail)
  go_wp2
  go_step3
  simp only [Exit.then, Exit.inBlock, fwd_goto]
  go_wp2
  rw [Exit.noGoto_ret]
  refine bodyPost_ret (v := rv 7 0) (by simp [results, Try.results10, go_sem]; rfl) rfl ?_
  refine ⟨rfl, ?_⟩
  go_grown
  refine below_drewN ?_ _
  go_grown
set_option maxHeartbeats 400000 in
set_option maxRecDepth 100000 in
theorem arith_div0 (na : Int) (ba bb : Bool) (ta tb : ByteArray) (pa pb : Value) (w : World)  :
    Calls Try.prog 10 #[.int .i64 15, .agg #[.int .i64 2, .bool ba, .int .i64 na, .string ta, pa], .agg #[.int .i64 2, .bool bb, .int .i64 0, .string tb, pb]] w fun e w' => e = .returned (rv 7 0) ∧ Below w.heap.size w w' := by
  go_enter Try.func10, Try.ntmps10
  go_wp2
  refine wp_scope_fwd 0 _ rfl ?_
  go_wp2
  go_quiet (fail)
  go_wp2
  go_step3
  simp only [Exit.then, Exit.inBlock, fwd_goto]
  go_wp2
  rw [Exit.noGoto_ret]
  refine bodyPost_ret (v := rv 7 0) (by simp [results, Try.results10, go_sem]; rfl) rfl ?_
  refine ⟨rfl, ?_⟩
  go_grown
  refine below_drewN ?_ _
  go_grown
set_option maxHeartbeats 400000 in
set_option maxRecDepth 100000 in
theorem arith_rest0 (na : Int) (ba bb : Bool) (ta tb : ByteArray) (pa pb : Value) (w : World)  :
    Calls Try.prog 10 #[.int .i64 16, .agg #[.int .i64 2, .bool ba, .int .i64 na, .string ta, pa], .agg #[.int .i64 2, .bool bb, .int .i64 0, .string tb, pb]] w fun e w' => e = .returned (rv 7 0) ∧ Below w.heap.size w w' := by
  go_enter Try.func10, Try.ntmps10
  go_wp2
  refine wp_scope_fwd 0 _ rfl ?_
  go_wp2
  go_quiet (fail)
  go_wp2
  go_step3
  simp only [Exit.then, Exit.inBlock, fwd_goto]
  go_wp2
  rw [Exit.noGoto_ret]
  refine bodyPost_ret (v := rv 7 0) (by simp [results, Try.results10, go_sem]; rfl) rfl ?_
  refine ⟨rfl, ?_⟩
  go_grown
  refine below_drewN ?_ _
  go_grown
set_option maxHeartbeats 400000 in
set_option maxRecDepth 100000 in
theorem arith_other (op na nb : Int) (ba bb : Bool) (ta tb : ByteArray) (pa pb : Value) (w : World) (h0 : (op == 12) = false) (h1 : (op == 13) = false) (h2 : (op == 14) = false) (h3 : (op == 15) = false) (h4 : (op == 16) = false) :
    Calls Try.prog 10 #[.int .i64 op, .agg #[.int .i64 2, .bool ba, .int .i64 na, .string ta, pa], .agg #[.int .i64 2, .bool bb, .int .i64 nb, .string tb, pb]] w fun e w' => e = .returned (rv 7 0) ∧ Below w.heap.size w w' := by
  go_enter Try.func10, Try.ntmps10
  go_wp2
  refine wp_scope_fwd 0 _ rfl ?_
  go_wp2
  go_quiet (fail)
  go_wp2
  go_step3
  simp only [Exit.then, Exit.inBlock, fwd_goto]
  go_wp2
  rw [Exit.noGoto_ret]
  refine bodyPost_ret (v := rv 7 0) (by simp [results, Try.results10, go_sem]; rfl) rfl ?_
  refine ⟨rfl, ?_⟩
  go_grown
  refine below_drewN ?_ _
  go_grown
set_option maxHeartbeats 400000 in
set_option maxRecDepth 100000 in
theorem arith_add (na nb : Int) (ba bb : Bool) (ta tb : ByteArray) (pa pb : Value) (w : World) (a1 : -9223372036854775808 ≤ na) (a2 : na ≤ 9223372036854775807) (b1 : -9223372036854775808 ≤ nb) (b2 : nb ≤ 9223372036854775807) :
    Calls Try.prog 10 #[.int .i64 12, .agg #[.int .i64 2, .bool ba, .int .i64 na, .string ta, pa], .agg #[.int .i64 2, .bool bb, .int .i64 nb, .string tb, pb]] w fun e w' => e = .returned (rv (ar2 12 na nb).1 (ar2 12 na nb).2) ∧ Below w.heap.size w w' := by
  go_enter Try.func10, Try.ntmps10
  go_wp2
  refine wp_scope_fwd 0 _ rfl ?_
  go_wp2
  go_quiet (fail)
  go_wp2
  · rw [fwd_ret]
    have e := add_yes a1 a2 b1 b2 (by assumption)
    refine bodyPost_ret (v := rv _ _) (by simp [results, Try.results10, go_sem]; rfl) rfl ?_
    refine ⟨by rw [show ar2 12 na nb = _ from e], ?_⟩
    go_grown
    refine below_drewN ?_ _
    go_grown
  · go_step3
    go_wp2
    rw [fwd_ret]
    have e := add_no a1 a2 b1 b2 (by assumption)
    refine bodyPost_ret (v := rv 7 0) (by simp [results, Try.results10, go_sem]; rfl) rfl ?_
    refine ⟨by rw [show ar2 12 na nb = _ from e], ?_⟩
    go_grown
    refine below_drewN ?_ _
    go_grown
set_option maxHeartbeats 400000 in
set_option maxRecDepth 100000 in
theorem arith_sub (na nb : Int) (ba bb : Bool) (ta tb : ByteArray) (pa pb : Value) (w : World) (a1 : -9223372036854775808 ≤ na) (a2 : na ≤ 9223372036854775807) (b1 : -9223372036854775808 ≤ nb) (b2 : nb ≤ 9223372036854775807) :
    Calls Try.prog 10 #[.int .i64 13, .agg #[.int .i64 2, .bool ba, .int .i64 na, .string ta, pa], .agg #[.int .i64 2, .bool bb, .int .i64 nb, .string tb, pb]] w fun e w' => e = .returned (rv (ar2 13 na nb).1 (ar2 13 na nb).2) ∧ Below w.heap.size w w' := by
  go_enter Try.func10, Try.ntmps10
  go_wp2
  refine wp_scope_fwd 0 _ rfl ?_
  go_wp2
  go_quiet (fail)
  go_wp2
  · rw [fwd_ret]
    have e := sub_yes a1 a2 b1 b2 (by assumption)
    refine bodyPost_ret (v := rv _ _) (by simp [results, Try.results10, go_sem]; rfl) rfl ?_
    refine ⟨by rw [show ar2 13 na nb = _ from e], ?_⟩
    go_grown
    refine below_drewN ?_ _
    go_grown
  · go_step3
    go_wp2
    rw [fwd_ret]
    have e := sub_no a1 a2 b1 b2 (by assumption)
    refine bodyPost_ret (v := rv 7 0) (by simp [results, Try.results10, go_sem]; rfl) rfl ?_
    refine ⟨by rw [show ar2 13 na nb = _ from e], ?_⟩
    go_grown
    refine below_drewN ?_ _
    go_grown
set_option maxHeartbeats 400000 in
set_option maxRecDepth 100000 in
theorem arith_mul (na nb : Int) (ba bb : Bool) (ta tb : ByteArray) (pa pb : Value) (w : World) (a1 : -9223372036854775808 ≤ na) (a2 : na ≤ 9223372036854775807) (b1 : -9223372036854775808 ≤ nb) (b2 : nb ≤ 9223372036854775807) :
    Calls Try.prog 10 #[.int .i64 14, .agg #[.int .i64 2, .bool ba, .int .i64 na, .string ta, pa], .agg #[.int .i64 2, .bool bb, .int .i64 nb, .string tb, pb]] w fun e w' => e = .returned (rv (ar2 14 na nb).1 (ar2 14 na nb).2) ∧ Below w.heap.size w w' := by
  go_enter Try.func10, Try.ntmps10
  go_wp2
  refine wp_scope_fwd 0 _ rfl ?_
  go_wp2
  go_quiet (fail)
  go_wp2_with (first | (go_at_call 21; refine (size_any _ _ (by omega) (by omega)).mono ?_; rintro e w' ⟨rfl, rfl⟩) | (go_at_call 20; refine (Try.bits_Mul64 _ _ (by omega) (by omega) _).mono ?_; rintro e w' ⟨rfl, rfl⟩) | (go_at_call 22; refine (signed_any _ _ _).mono ?_; rintro e w' ⟨rfl, rfl⟩))
  · go_wp2
    rw [fwd_ret]
    have e := mul_yes (a := na) (b := nb) (by assumption) (by assumption)
    refine bodyPost_ret (v := rv _ _) (by simp [results, Try.results10, go_sem]; rfl) rfl ?_
    refine ⟨by rw [show ar2 14 na nb = _ from e], ?_⟩
    go_grown
    refine below_drewN ?_ _
    go_grown
  · go_step3
    go_wp2
    rw [fwd_ret]
    have e := mul_big (a := na) (b := nb) (by assumption)
    refine bodyPost_ret (v := rv 7 0) (by simp [results, Try.results10, go_sem]; rfl) rfl ?_
    refine ⟨by rw [show ar2 14 na nb = _ from e], ?_⟩
    go_grown
    refine below_drewN ?_ _
    go_grown
  · go_step3
    go_wp2
    rw [fwd_ret]
    have e := mul_no (a := na) (b := nb) (by assumption)
    refine bodyPost_ret (v := rv 7 0) (by simp [results, Try.results10, go_sem]; rfl) rfl ?_
    refine ⟨by rw [show ar2 14 na nb = _ from e], ?_⟩
    go_grown
    refine below_drewN ?_ _
    go_grown

set_option maxHeartbeats 400000 in
set_option maxRecDepth 100000 in
theorem arith_div (na nb : Int) (ba bb : Bool) (ta tb : ByteArray) (pa pb : Value) (w : World) (a1 : -9223372036854775808 ≤ na) (a2 : na ≤ 9223372036854775807) (b1 : -9223372036854775808 ≤ nb) (b2 : nb ≤ 9223372036854775807) (h0 : (nb == 0) = false) (h1 : ¬ nb = 0) :
    Calls Try.prog 10 #[.int .i64 15, .agg #[.int .i64 2, .bool ba, .int .i64 na, .string ta, pa], .agg #[.int .i64 2, .bool bb, .int .i64 nb, .string tb, pb]] w fun e w' => e = .returned (rv (fit (na.tdiv nb)).1 (fit (na.tdiv nb)).2) ∧ Below w.heap.size w w' := by
  go_enter Try.func10, Try.ntmps10
  go_wp2
  refine wp_scope_fwd 0 _ rfl ?_
  go_wp2
  go_quiet (fail)
  go_wp2_with (first | (go_at_call 21; refine (size_any _ _ (by omega) (by omega)).mono ?_; rintro e w' ⟨rfl, rfl⟩) | (go_at_call 20; refine (Try.bits_Mul64 _ _ (by omega) (by omega) _).mono ?_; rintro e w' ⟨rfl, rfl⟩) | (go_at_call 22; refine (signed_any _ _ _).mono ?_; rintro e w' ⟨rfl, rfl⟩))
  · go_wp2
    rw [fwd_ret]
    have e := div_yes (a := na) (b := nb) a1 a2 (by assumption)
    refine bodyPost_ret (v := rv _ _) (by simp [results, Try.results10, go_sem]; rfl) rfl ?_
    refine ⟨by rw [e], ?_⟩
    go_grown
    refine below_drewN ?_ _
    go_grown
  · go_step3
    go_wp2
    rw [fwd_ret]
    have e := div_no (a := na) (b := nb) a1 a2 (by assumption)
    refine bodyPost_ret (v := rv 7 0) (by simp [results, Try.results10, go_sem]; rfl) rfl ?_
    refine ⟨by rw [e], ?_⟩
    go_grown
    refine below_drewN ?_ _
    go_grown

set_option maxHeartbeats 400000 in
set_option maxRecDepth 100000 in
theorem arith_rest (na nb : Int) (ba bb : Bool) (ta tb : ByteArray) (pa pb : Value) (w : World) (a1 : -9223372036854775808 ≤ na) (a2 : na ≤ 9223372036854775807) (b1 : -9223372036854775808 ≤ nb) (b2 : nb ≤ 9223372036854775807) (h0 : (nb == 0) = false) (h1 : ¬ nb = 0) :
    Calls Try.prog 10 #[.int .i64 16, .agg #[.int .i64 2, .bool ba, .int .i64 na, .string ta, pa], .agg #[.int .i64 2, .bool bb, .int .i64 nb, .string tb, pb]] w fun e w' => e = .returned (rv 2 (na.tmod nb)) ∧ Below w.heap.size w w' := by
  go_enter Try.func10, Try.ntmps10
  go_wp2
  refine wp_scope_fwd 0 _ rfl ?_
  go_wp2
  go_quiet (fail)
  go_wp2_with (first | (go_at_call 21; refine (size_any _ _ (by omega) (by omega)).mono ?_; rintro e w' ⟨rfl, rfl⟩) | (go_at_call 20; refine (Try.bits_Mul64 _ _ (by omega) (by omega) _).mono ?_; rintro e w' ⟨rfl, rfl⟩) | (go_at_call 22; refine (signed_any _ _ _).mono ?_; rintro e w' ⟨rfl, rfl⟩))
  · go_wp2
    rw [fwd_ret]
    have e := rest_is (a := na) (b := nb) a1 a2 h1
    refine bodyPost_ret (v := rv _ _) (by simp [results, Try.results10, go_sem]; rfl) rfl ?_
    refine ⟨by rw [← e], ?_⟩
    go_grown
    refine below_drewN ?_ _
    go_grown


end Go.Proofs.Ytjanfjdiikddaaa.A1
