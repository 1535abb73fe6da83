-- written by hyprint.py, this session's program over the kit's print
import Derived.Test.YtjanfjdiikddaaaQSafex0
namespace Go.Proofs.Ytjanfjdiikddaaa.QSafe
open Go.RowKit Go.Proofs.YtjanfjdiikddaaaW.PrintWords Go.Proofs.YtjanfjdiikddaaaW.PrintLast Go.Proofs.YtjanfjdiikddaaaW.PrintMore
attribute [local go_sem] max2_int min2_int max_two min_two max_three min_three max_four min_four   -- for this text's walks alone
set_option linter.unusedVariables false
set_option linter.unusedSimpArgs false

-- NOT PRINTED: function 20 (bits_Mul64)

/-! ### expr_size: function 21 -/
def expr_size.f (a0 : Int) : Option (Int) := if a0 < 0 then (some (IntKind.u64.wrap (-(IntKind.u64.wrap (a0))))) else (some (IntKind.u64.wrap (a0)))
set_option maxHeartbeats 8000000 in
set_option maxRecDepth 100000 in
theorem expr_size.calls (a0 : Int) (r : Int) (w : World) (h : expr_size.f a0 = some r) :
    Calls Try.prog 21 #[.int .i64 a0] w fun e w' => e = .returned (.int .u64 r) ∧ Drawn0 w w' := by
  have H : (if a0 < 0 then (some (IntKind.u64.wrap (-(IntKind.u64.wrap (a0))))) else (some (IntKind.u64.wrap (a0)))) = some r := h
  clear h
  by_cases c2 : a0 < 0
  · rw [if_pos c2] at H
    have c2b0 : decide (a0 < 0) = true := decide_eq_true c2
    clear c2
    obtain rfl := Option.some.inj H
    go_enter Try.func21, Try.ntmps21
    go_wp2
    go_ret
    exact ⟨by first | rfl | (simp; done) | (simp [*]; done), by repeat (first | exact Drawn0.refl _ | apply Drawn0.step)⟩
  · rw [if_neg c2] at H
    have c2b0 : decide (a0 < 0) = false := decide_eq_false c2
    clear c2
    obtain rfl := Option.some.inj H
    go_enter Try.func21, Try.ntmps21
    go_wp2
    go_ret
    exact ⟨by first | rfl | (simp; done) | (simp [*]; done), by repeat (first | exact Drawn0.refl _ | apply Drawn0.step)⟩

/-! ### expr_signed: function 22 -/
def expr_signed.f (a0 : Int) (a1 : Bool) : Option (Int × Bool) := if a1 = true then (some (wrap64 (-(wrap64 (a0))), decide (a0 ≤ 9223372036854775808))) else (some (wrap64 (a0), decide (a0 < 9223372036854775808)))
set_option maxHeartbeats 8000000 in
set_option maxRecDepth 100000 in
theorem expr_signed.calls (a0 : Int) (a1 : Bool) (r1 : Int) (r2 : Bool) (w : World) (h : expr_signed.f a0 a1 = some (r1, r2)) :
    Calls Try.prog 22 #[.int .u64 a0, .bool a1] w fun e w' => e = .returned (.tuple #[.int .i64 r1, .bool r2]) ∧ Drawn0 w w' := by
  have H : (if a1 = true then (some (wrap64 (-(wrap64 (a0))), decide (a0 ≤ 9223372036854775808))) else (some (wrap64 (a0), decide (a0 < 9223372036854775808)))) = some (r1, r2) := h
  clear h
  by_cases c3 : a1 = true
  · subst c3
    have H1 : (some (wrap64 (-(wrap64 (a0))), decide (a0 ≤ 9223372036854775808))) = some (r1, r2) := by rw [if_pos rfl] at H; exact H
    clear H
    have H := H1
    clear H1
    simp only [Option.some.injEq, Prod.mk.injEq] at H
    obtain ⟨rfl, rfl⟩ := H
    go_enter Try.func22, Try.ntmps22
    go_wp2
    go_ret2
    exact ⟨by first | rfl | (simp; done) | (simp [*]; done), by repeat (first | exact Drawn0.refl _ | apply Drawn0.step)⟩
  · replace c3 := Bool.eq_false_iff.mpr c3
    subst c3
    have H1 : (some (wrap64 (a0), decide (a0 < 9223372036854775808))) = some (r1, r2) := by rw [if_neg (show ¬ (false = true) by decide)] at H; exact H
    clear H
    have H := H1
    clear H1
    simp only [Option.some.injEq, Prod.mk.injEq] at H
    obtain ⟨rfl, rfl⟩ := H
    go_enter Try.func22, Try.ntmps22
    go_wp2
    go_ret2
    exact ⟨by first | rfl | (simp; done) | (simp [*]; done), by repeat (first | exact Drawn0.refl _ | apply Drawn0.step)⟩

/-! ### expr_number: function 23 -/
def expr_number.f (a0 : Int) : Option (Int × Bool × Int × ByteArray × List Int) := some (2, false, a0, (⟨#[]⟩ : ByteArray), ([] : List Int))
set_option maxHeartbeats 8000000 in
set_option maxRecDepth 100000 in
theorem expr_number.calls (a0 : Int) (r1 : Int) (r2 : Bool) (r3 : Int) (r4 : ByteArray) (r5 : List Int) (w : World) (h : expr_number.f a0 = some (r1, r2, r3, r4, r5)) :
    Calls Try.prog 23 #[.int .i64 a0] w fun e w' => ∃ v4_ : Value, e = .returned (.agg #[.int .i64 r1, .bool r2, .int .i64 r3, .string r4, v4_]) ∧ Kd.R (Kd.int .i64) 2 w' w.heap.size (fun _ => True) v4_ r5 ∧ Below w.heap.size w w' := by
  have hu26 := Try.underlying26
  have HB := Aside0.mk (Below.refl w.heap.size w)
  have H : (some (2, false, a0, (⟨#[]⟩ : ByteArray), ([] : List Int))) = some (r1, r2, r3, r4, r5) := h
  clear h
  simp only [Option.some.injEq, Prod.mk.injEq] at H
  obtain ⟨rfl, rfl, rfl, rfl, rfl⟩ := H
  go_enter Try.func23, Try.ntmps23
  go_wp2_with (first | ((with_reducible refine gate_dst (N := 2) rfl ?_); refine box_event ?hg (N := 2) ?hd (cs := #[.int .i64 0, .bool false, .int .i64 0, .string (⟨#[]⟩ : ByteArray), .slice none 0 0]) (t := 26) ?hr ?_; (case hd => rfl); (case hg => rfl); (case hr => first | (go_simp; done) | (go_simp; rfl)); intro gb101 hg w2 hbox hb; have n0_ := Aside0.mk (below_step (by repeat (first | (with_reducible first | exact HB.out | apply below_alloc | apply pw_below_drewN | apply below_drew1) | exact HB.out)) hb); have n1_ := Aside0.mk (hbox); have n2_ := Aside0.mk ((by rw [hg]; exact (below_size (by repeat (first | (with_reducible first | exact HB.out | apply below_alloc | apply pw_below_drewN | apply below_drew1) | exact HB.out))) : w.heap.size ≤ gb101)); have n3_ := Aside0.mk ((by rw [hg]; exact (below_size (by repeat (first | (with_reducible first | exact HB.out | apply below_alloc | apply pw_below_drewN | apply below_drew1) | exact HB.out))) : w.heap.size ≤ gb101)); clear HB; have HB := n0_; have BK101 := n1_; have GW101 := n2_; have GE101 := n3_; clear n0_ n1_ n2_ n3_; clear hb hbox hg; have hcz3_0 : w2.cell? ⟨gb101, 0, none⟩ = some (.int .i64 0) := (blk_cell BK101.out 0).trans rfl; have hcz3_1 : w2.cell? ⟨gb101, 1, none⟩ = some (.bool false) := (blk_cell BK101.out 1).trans rfl; have hcz3_2 : w2.cell? ⟨gb101, 2, none⟩ = some (.int .i64 0) := (blk_cell BK101.out 2).trans rfl; have hcz3_3 : w2.cell? ⟨gb101, 3, none⟩ = some (.string (⟨#[]⟩ : ByteArray)) := (blk_cell BK101.out 3).trans rfl; have hcz3_4 : w2.cell? ⟨gb101, 4, none⟩ = some (.slice none 0 0) := (blk_cell BK101.out 4).trans rfl; have hfz3_0 := blk_frozen BK101.out 0; have hfz3_1 := blk_frozen BK101.out 1; have hfz3_2 := blk_frozen BK101.out 2; have hfz3_3 := blk_frozen BK101.out 3; have hfz3_4 := blk_frozen BK101.out 4))
  refine bodyPost_ret (results_cell_row rfl _ _ gb101 26 #[.int .i64 2, .bool false, .int .i64 a0, .string (⟨#[]⟩ : ByteArray), .slice none 0 0] (0, 0) _ rfl (by (with_reducible repeat (first | refine blk_drewN ?_ _ | refine blk_drew ?_ | refine blk_alloc ?_ _)); refine blk_put (cs := #[.int .i64 2, .bool false, .int .i64 a0, .string (⟨#[]⟩ : ByteArray), .slice none 0 0]) ?_ 4 _ rfl; (with_reducible repeat (first | refine blk_drewN ?_ _ | refine blk_drew ?_ | refine blk_alloc ?_ _)); refine blk_put (cs := #[.int .i64 2, .bool false, .int .i64 a0, .string (⟨#[]⟩ : ByteArray), .slice none 0 0]) ?_ 3 _ rfl; (with_reducible repeat (first | refine blk_drewN ?_ _ | refine blk_drew ?_ | refine blk_alloc ?_ _)); refine blk_put (cs := #[.int .i64 2, .bool false, .int .i64 0, .string (⟨#[]⟩ : ByteArray), .slice none 0 0]) ?_ 2 _ rfl; (with_reducible repeat (first | refine blk_drewN ?_ _ | refine blk_drew ?_ | refine blk_alloc ?_ _)); refine blk_put (cs := #[.int .i64 2, .bool false, .int .i64 0, .string (⟨#[]⟩ : ByteArray), .slice none 0 0]) ?_ 1 _ rfl; (with_reducible repeat (first | refine blk_drewN ?_ _ | refine blk_drew ?_ | refine blk_alloc ?_ _)); refine blk_put (cs := #[.int .i64 0, .bool false, .int .i64 0, .string (⟨#[]⟩ : ByteArray), .slice none 0 0]) ?_ 0 _ rfl; (with_reducible repeat (first | refine blk_drewN ?_ _ | refine blk_drew ?_ | refine blk_alloc ?_ _)); exact BK101.out) Try.underlying26 rfl (by kernel_rfl)) rfl ?_
  exact ⟨_, by first | rfl | (simp [errW_none, errW_some] <;> rfl) | (simp [*, errW_none, errW_some] <;> rfl), by first | exact Kd.R_nil _ _ _ _ _ | exact Kd.N_nil _ _ _ _ _ | exact Kd.V_nil _ _ _ _ _ | exact Kd.Q_nil _ _ _ _ _ | exact Kd.S_nil _ _ _ _ _, by repeat (first | (with_reducible first | exact HB.out | apply below_alloc | apply pw_below_drewN | apply below_drew1 | refine below_set ?_ GE101.out) | exact HB.out)⟩

/-! ### expr_fault: function 24 -/
def expr_fault.f  : Option (Int × Bool × Int × ByteArray × List Int) := some (7, false, 0, (⟨#[]⟩ : ByteArray), ([] : List Int))
set_option maxHeartbeats 8000000 in
set_option maxRecDepth 100000 in
theorem expr_fault.calls  (r1 : Int) (r2 : Bool) (r3 : Int) (r4 : ByteArray) (r5 : List Int) (w : World) (h : expr_fault.f  = some (r1, r2, r3, r4, r5)) :
    Calls Try.prog 24 #[] w fun e w' => ∃ v4_ : Value, e = .returned (.agg #[.int .i64 r1, .bool r2, .int .i64 r3, .string r4, v4_]) ∧ Kd.R (Kd.int .i64) 2 w' w.heap.size (fun _ => True) v4_ r5 ∧ Below w.heap.size w w' := by
  have hu26 := Try.underlying26
  have HB := Aside0.mk (Below.refl w.heap.size w)
  have H : (some (7, false, 0, (⟨#[]⟩ : ByteArray), ([] : List Int))) = some (r1, r2, r3, r4, r5) := h
  clear h
  simp only [Option.some.injEq, Prod.mk.injEq] at H
  obtain ⟨rfl, rfl, rfl, rfl, rfl⟩ := H
  go_enter Try.func24, Try.ntmps24
  go_wp2_with (first | ((with_reducible refine gate_dst (N := 0) rfl ?_); refine box_event ?hg (N := 0) ?hd (cs := #[.int .i64 0, .bool false, .int .i64 0, .string (⟨#[]⟩ : ByteArray), .slice none 0 0]) (t := 26) ?hr ?_; (case hd => rfl); (case hg => rfl); (case hr => first | (go_simp; done) | (go_simp; rfl)); intro gb102 hg w1 hbox hb; have n0_ := Aside0.mk (below_step (by repeat (first | (with_reducible first | exact HB.out | apply below_alloc | apply pw_below_drewN | apply below_drew1) | exact HB.out)) hb); have n1_ := Aside0.mk (hbox); have n2_ := Aside0.mk ((by rw [hg]; exact (below_size (by repeat (first | (with_reducible first | exact HB.out | apply below_alloc | apply pw_below_drewN | apply below_drew1) | exact HB.out))) : w.heap.size ≤ gb102)); have n3_ := Aside0.mk ((by rw [hg]; exact (below_size (by repeat (first | (with_reducible first | exact HB.out | apply below_alloc | apply pw_below_drewN | apply below_drew1) | exact HB.out))) : w.heap.size ≤ gb102)); clear HB; have HB := n0_; have BK102 := n1_; have GW102 := n2_; have GE102 := n3_; clear n0_ n1_ n2_ n3_; clear hb hbox hg; have hcz2_0 : w1.cell? ⟨gb102, 0, none⟩ = some (.int .i64 0) := (blk_cell BK102.out 0).trans rfl; have hcz2_1 : w1.cell? ⟨gb102, 1, none⟩ = some (.bool false) := (blk_cell BK102.out 1).trans rfl; have hcz2_2 : w1.cell? ⟨gb102, 2, none⟩ = some (.int .i64 0) := (blk_cell BK102.out 2).trans rfl; have hcz2_3 : w1.cell? ⟨gb102, 3, none⟩ = some (.string (⟨#[]⟩ : ByteArray)) := (blk_cell BK102.out 3).trans rfl; have hcz2_4 : w1.cell? ⟨gb102, 4, none⟩ = some (.slice none 0 0) := (blk_cell BK102.out 4).trans rfl; have hfz2_0 := blk_frozen BK102.out 0; have hfz2_1 := blk_frozen BK102.out 1; have hfz2_2 := blk_frozen BK102.out 2; have hfz2_3 := blk_frozen BK102.out 3; have hfz2_4 := blk_frozen BK102.out 4))
  refine bodyPost_ret (results_cell_row rfl _ _ gb102 26 #[.int .i64 7, .bool false, .int .i64 0, .string (⟨#[]⟩ : ByteArray), .slice none 0 0] (0, 0) _ rfl (by (with_reducible repeat (first | refine blk_drewN ?_ _ | refine blk_drew ?_ | refine blk_alloc ?_ _)); refine blk_put (cs := #[.int .i64 7, .bool false, .int .i64 0, .string (⟨#[]⟩ : ByteArray), .slice none 0 0]) ?_ 4 _ rfl; (with_reducible repeat (first | refine blk_drewN ?_ _ | refine blk_drew ?_ | refine blk_alloc ?_ _)); refine blk_put (cs := #[.int .i64 7, .bool false, .int .i64 0, .string (⟨#[]⟩ : ByteArray), .slice none 0 0]) ?_ 3 _ rfl; (with_reducible repeat (first | refine blk_drewN ?_ _ | refine blk_drew ?_ | refine blk_alloc ?_ _)); refine blk_put (cs := #[.int .i64 7, .bool false, .int .i64 0, .string (⟨#[]⟩ : ByteArray), .slice none 0 0]) ?_ 2 _ rfl; (with_reducible repeat (first | refine blk_drewN ?_ _ | refine blk_drew ?_ | refine blk_alloc ?_ _)); refine blk_put (cs := #[.int .i64 7, .bool false, .int .i64 0, .string (⟨#[]⟩ : ByteArray), .slice none 0 0]) ?_ 1 _ rfl; (with_reducible repeat (first | refine blk_drewN ?_ _ | refine blk_drew ?_ | refine blk_alloc ?_ _)); refine blk_put (cs := #[.int .i64 0, .bool false, .int .i64 0, .string (⟨#[]⟩ : ByteArray), .slice none 0 0]) ?_ 0 _ rfl; (with_reducible repeat (first | refine blk_drewN ?_ _ | refine blk_drew ?_ | refine blk_alloc ?_ _)); exact BK102.out) Try.underlying26 rfl (by kernel_rfl)) rfl ?_
  exact ⟨_, by first | rfl | (simp [errW_none, errW_some] <;> rfl) | (simp [*, errW_none, errW_some] <;> rfl), by first | exact Kd.R_nil _ _ _ _ _ | exact Kd.N_nil _ _ _ _ _ | exact Kd.V_nil _ _ _ _ _ | exact Kd.Q_nil _ _ _ _ _ | exact Kd.S_nil _ _ _ _ _, by repeat (first | (with_reducible first | exact HB.out | apply below_alloc | apply pw_below_drewN | apply below_drew1 | refine below_set ?_ GE102.out) | exact HB.out)⟩

/-! ### expr_Arith: function 10 -/
def rng64 (n : Int) : Bool := decide (-9223372036854775808 ≤ n) && decide (n ≤ 9223372036854775807)
def expr_Arith.f (a0 : Int) (a1_0 : Int) (a1_1 : Bool) (a1_2 : Int) (a1_3 : ByteArray) (l1_4 : List Int) (a2_0 : Int) (a2_1 : Bool) (a2_2 : Int) (a2_3 : ByteArray) (l2_4 : List Int) : Option (Int × Bool × Int × ByteArray × List Int) :=
  if rng64 a1_2 && rng64 a2_2 then some ((Go.Proofs.Ytjanfjdiikddaaa.Ar.ar a0 a1_0 a1_2 a2_0 a2_2).1, false, (Go.Proofs.Ytjanfjdiikddaaa.Ar.ar a0 a1_0 a1_2 a2_0 a2_2).2, (⟨#[]⟩ : ByteArray), ([] : List Int)) else none
theorem expr_Arith.calls (a0 : Int) (a1_0 : Int) (a1_1 : Bool) (a1_2 : Int) (a1_3 : ByteArray) (A1_4 : Option Addr) (c1_4 : Nat) (l1_4 : List Int) (a2_0 : Int) (a2_1 : Bool) (a2_2 : Int) (a2_3 : ByteArray) (A2_4 : Option Addr) (c2_4 : Nat) (l2_4 : List Int) (r1 : Int) (r2 : Bool) (r3 : Int) (r4 : ByteArray) (r5 : List Int) (w : World) (hr1_4 : Kd.C (Kd.int .i64) w A1_4 l1_4.length l1_4) (hc1_4 : l1_4.length ≤ c1_4) (hr2_4 : Kd.C (Kd.int .i64) w A2_4 l2_4.length l2_4) (hc2_4 : l2_4.length ≤ c2_4) (h : expr_Arith.f a0 a1_0 a1_1 a1_2 a1_3 l1_4 a2_0 a2_1 a2_2 a2_3 l2_4 = some (r1, r2, r3, r4, r5)) :
    Calls Try.prog 10 #[.int .i64 a0, .agg #[.int .i64 a1_0, .bool a1_1, .int .i64 a1_2, .string a1_3, .slice A1_4 l1_4.length c1_4], .agg #[.int .i64 a2_0, .bool a2_1, .int .i64 a2_2, .string a2_3, .slice A2_4 l2_4.length c2_4]] w fun e w' => ∃ v4_ : Value, e = .returned (.agg #[.int .i64 r1, .bool r2, .int .i64 r3, .string r4, v4_]) ∧ Kd.R (Kd.int .i64) 2 w' w.heap.size (fun _ => True) v4_ r5 ∧ Below w.heap.size w w' := by
  unfold expr_Arith.f at h
  by_cases hb : (rng64 a1_2 && rng64 a2_2) = true
  · rw [if_pos hb] at h
    simp only [Option.some.injEq, Prod.mk.injEq] at h
    obtain ⟨rfl, rfl, rfl, rfl, rfl⟩ := h
    simp only [rng64, Bool.and_eq_true, decide_eq_true_eq] at hb
    refine (Go.Proofs.Ytjanfjdiikddaaa.A4.prog a0 a1_0 a1_2 a2_0 a2_2 a1_1 a2_1 a1_3 a2_3 _ _ w hb.1.1 hb.1.2 hb.2.1 hb.2.2).mono ?_
    rintro e w' ⟨rfl, hw⟩
    exact ⟨_, rfl, Kd.R_nil _ _ _ _ _, hw⟩
  · rw [if_neg hb] at h
    cases h


-- NOT PRINTED: function 42 (api_Term_42)

-- NOT PRINTED: function 29 (api_Term_29)

/-! ### expr_Safe: function 13 -/
def reck (op : Int) : Bool := (decide (12 ≤ op) && decide (op ≤ 16)) || op == 18
mutual
def safeT : S33 → Bool
  | ⟨op, kids, _, _, _⟩ => !reck op && safeL kids
def safeL : List S33 → Bool
  | [] => true
  | t :: r => safeT t && safeL r
end
theorem safeL_all (l : List S33) : safeL l = l.all safeT := by
  induction l with
  | nil => rfl
  | cons t r ih => rw [safeL, ih]; rfl
def expr_Safe.f (a0_0 : Int) (l0_1 : List S33) (a0_2 : Int) (a0_3 : ByteArray) (a0_4 : Int) (a0_5 : Bool) (a0_6 : Int) (a0_7 : ByteArray) (l0_8 : List Int) : Option Bool := some (!reck a0_0 && safeL l0_1)
/-- what a term's own call is to tell -/
def SafeAt (t : S33) : Prop := ∀ (A1 : Option Addr) (c1 : Nat) (A8 : Option Addr) (c8 : Nat) (w : World) (hr1 : Kd.C k33 w A1 t.f1.length t.f1) (hc1 : t.f1.length ≤ c1) (hr8 : Kd.C (Kd.int .i64) w A8 t.f4.f4.length t.f4.f4) (hc8 : t.f4.f4.length ≤ c8),
    Calls Try.prog 13 #[.agg #[.int .i64 t.f0, .slice A1 t.f1.length c1, .int .i64 t.f2, .string t.f3, .int .i64 t.f4.f0, .bool t.f4.f1, .int .i64 t.f4.f2, .string t.f4.f3, .slice A8 t.f4.f4.length c8]] w fun e w' => e = .returned (.bool (safeT t)) ∧ Below w.heap.size w w'
set_option maxHeartbeats 1000000 in
set_option maxRecDepth 100000 in
theorem safe_clos (t : S33) (HK : Hid (SafeAt t)) (A1 : Option Addr) (c1 : Nat) (A8 : Option Addr) (c8 : Nat) (w : World) (hr1 : Kd.C k33 w A1 t.f1.length t.f1) (hc1 : t.f1.length ≤ c1) (hr8 : Kd.C (Kd.int .i64) w A8 t.f4.f4.length t.f4.f4) (hc8 : t.f4.f4.length ≤ c8) :
    Calls Try.prog 30 #[.agg #[.int .i64 t.f0, .slice A1 t.f1.length c1, .int .i64 t.f2, .string t.f3, .int .i64 t.f4.f0, .bool t.f4.f1, .int .i64 t.f4.f2, .string t.f4.f3, .slice A8 t.f4.f4.length c8]] w fun e w' => e = .returned (.bool (!safeT t)) ∧ Below w.heap.size w w' := by
  go_enter Try.func30, Try.ntmps30
  go_wp2_with (go_at_call 13; refine (HK A1 c1 A8 c8 _ (Kd.C_alloc hr1 _) hc1 (Kd.C_alloc hr8 _) hc8).mono ?_; rintro e w9 ⟨rfl, hb9⟩)
  go_returns
  exact ⟨rfl, below_step (by repeat (first | exact Below.refl _ _ | apply below_alloc)) hb9⟩
set_option maxHeartbeats 1000000 in
set_option maxRecDepth 100000 in
theorem safe_index (l : List S33) (hk : ∀ t ∈ l, SafeAt t) (A : Option Addr) (c : Nat) (w : World) (hr : Kd.C k33 w A l.length l) (hc : l.length ≤ c) (hm : l.length ≤ 9223372036854775807) :
    Calls Try.prog 42 #[.slice A l.length c, .func (.func 30) #[] #[]] w fun e w' => ∃ i : Int, e = .returned (.int .i64 i) ∧ (decide (0 ≤ i) = !safeL l) ∧ Below w.heap.size w w' := by
  go_enter Try.func42, Try.ntmps42
  go_wp2
  go_loopw [8] (fun v8 wr => ∃ k : Nat, v8 = .int .i64 k ∧ k ≤ l.length ∧ Hid (safeL (l.take k) = true) ∧ Below w.heap.size w wr) (fun v8 _ => l.length - (intOf v8).toNat)
  case atStart => exact ⟨0, rfl, Nat.zero_le _, Lib.hid (by simp [safeL]), Below.refl _ _⟩
  case round =>
    obtain ⟨k, rfl, hkl, hs, hb⟩ := hrel
    by_cases hlt : k < l.length
    · obtain ⟨ad, A1, c1, A8, c8, e, h0, h1, h2, h3, h4, h5, h6, h7, h8, hl1, hi1, hl8, hi8⟩ := at_T33 hr (k : Int) (by omega) (by omega)
      cases e
      have z0 := (hb.cell (World.block_lt_of_cell? w _ h0)).trans h0
      have z1 := (hb.cell (World.block_lt_of_cell? w _ h1)).trans h1
      have z2 := (hb.cell (World.block_lt_of_cell? w _ h2)).trans h2
      have z3 := (hb.cell (World.block_lt_of_cell? w _ h3)).trans h3
      have z4 := (hb.cell (World.block_lt_of_cell? w _ h4)).trans h4
      have z5 := (hb.cell (World.block_lt_of_cell? w _ h5)).trans h5
      have z6 := (hb.cell (World.block_lt_of_cell? w _ h6)).trans h6
      have z7 := (hb.cell (World.block_lt_of_cell? w _ h7)).trans h7
      have z8 := (hb.cell (World.block_lt_of_cell? w _ h8)).trans h8
      clear h0 h1 h2 h3 h4 h5 h6 h7 h8
      simp only [Int.toNat_natCast] at z0 z1 z2 z3 z4 z5 z6 z7 z8
      have hmem : rd_T33 l (k : Int) ∈ l := by
        unfold rd_T33
        rw [Int.toNat_natCast, List.getD_eq_getElem?_getD, List.getElem?_eq_getElem hlt]
        exact List.getElem_mem hlt
      have hK := hk _ hmem
      have hsn : safeL (l.take (k + 1)) = (safeL (l.take k) && safeT (rd_T33 l (k : Int))) := by
        unfold rd_T33
        rw [Int.toNat_natCast, List.getD_eq_getElem?_getD, List.getElem?_eq_getElem hlt, safeL_all, safeL_all, List.take_succ_eq_append_getElem hlt, List.all_append]
        simp
      have HS := Lib.hid hsn
      have HK := Lib.hid hK
      clear hsn hK hmem
      generalize rd_T33 l (k : Int) = t at *
      go_wp2_with (go_at_call 30; refine (safe_clos t HK A1 c1 A8 c8 wr (Kd.C_below hi1 hb) hl1 (Kd.C_below hi8 hb) hl8).mono ?_; rintro e w9 ⟨rfl, hb9⟩)
      · go_returns
        refine ⟨k, rfl, ?_, below_step hb hb9⟩
        have hb0 : safeT t = false := by simpa using ‹(!safeT t) = true›
        have hf : safeL l = false := by
          have h2 : safeL (l.take (k + 1)) = false := by rw [HS, show safeT t = _ from hb0]; simp
          rw [safeL_all] at h2 ⊢
          rw [List.all_eq_false] at h2 ⊢
          obtain ⟨x, hx, hy⟩ := h2
          exact ⟨x, List.mem_of_mem_take hx, hy⟩
        rw [hf, decide_eq_true (Int.natCast_nonneg k)]
        rfl
      · have hb0 : safeT t = true := by simpa using ‹(!safeT t) = false›
        have hb0 := Lib.hid hb0
        go_roundw
        case measure => rw [show (↑k + 1 : Int) = ((k + 1 : Nat) : Int) by omega]; simp only [intOf, Int.toNat_natCast]; omega
        case rel =>
          refine ⟨k + 1, by simp, by omega, ?_, below_step hb hb9⟩
          show safeL (l.take (k + 1)) = true
          rw [HS, show safeT t = _ from hb0]
          rw [show safeL (l.take k) = true from hs]
          rfl
    · go_wp2_with fail
      go_returns
      refine ⟨-1, rfl, ?_, hb⟩
      have e : k = l.length := by omega
      subst e
      rw [List.take_length] at hs
      rw [show safeL l = true from hs]
      rfl
set_option maxHeartbeats 1000000 in
set_option maxRecDepth 100000 in
theorem safe_contains (l : List S33) (hk : ∀ t ∈ l, SafeAt t) (A : Option Addr) (c : Nat) (w : World) (hr : Kd.C k33 w A l.length l) (hc : l.length ≤ c) (hm : l.length ≤ 9223372036854775807) :
    Calls Try.prog 29 #[.slice A l.length c, .func (.func 30) #[] #[]] w fun e w' => e = .returned (.bool (!safeL l)) ∧ Below w.heap.size w w' := by
  go_enter Try.func29, Try.ntmps29
  go_wp2_with (go_at_call 42; refine (safe_index l hk A c _ hr hc hm).mono ?_; rintro e w9 ⟨i, rfl, hi, hb9⟩)
  go_returns
  refine ⟨?_, hb9⟩
  rw [← hi]; rfl
theorem S33_len (l : List S33) (A : Option Addr) (w : World) (hr : Kd.C k33 w A l.length l) : l.length ≤ 9223372036854775807 := by
  exact Kd.C_max hr
set_option maxHeartbeats 1000000 in
set_option maxRecDepth 100000 in
theorem safe_at (t : S33) : SafeAt t := by
  intro A1 c1 A8 c8 w hr1 hc1 hr8 hc8
  have IH : ∀ x ∈ t.f1, SafeAt x := by
    intro x hx
    have h1 := List.sizeOf_lt_of_mem hx
    exact safe_at x
  have HI := Lib.hid IH
  clear IH
  go_enter Try.func13, Try.ntmps13
  go_wp2_with (go_at_call 29; refine (safe_contains t.f1 HI A1 c1 _ (Kd.C_alloc hr1 _) hc1 (S33_len _ _ _ hr1)).mono ?_; rintro e w9 ⟨rfl, hb9⟩)
  all_goals (try go_returns)
  all_goals have hT : safeT t = (!reck t.f0 && safeL t.f1) := by cases t; rfl
  all_goals (first | refine ⟨?_, below_step (by repeat (first | exact Below.refl _ _ | apply below_alloc)) hb9⟩ | refine ⟨?_, by repeat (first | exact Below.refl _ _ | apply below_alloc)⟩)
  all_goals (rw [hT]; unfold reck)
  all_goals (refine congrArg (fun b => Ending.returned (Value.bool b)) ?_)
  all_goals (clear hT HI hr1 hc1 hr8 hc8; simp [*])
  · rw [show decide (12 ≤ t.f0) = false from decide_eq_false (by omega)]; simp
termination_by (SizeOf.sizeOf t : Nat)
decreasing_by
  cases t
  simp only at *
  simp
  omega
theorem expr_Safe.calls (a0_0 : Int) (A0_1 : Option Addr) (c0_1 : Nat) (l0_1 : List (S33)) (a0_2 : Int) (a0_3 : ByteArray) (a0_4 : Int) (a0_5 : Bool) (a0_6 : Int) (a0_7 : ByteArray) (A0_8 : Option Addr) (c0_8 : Nat) (l0_8 : List Int) (r : Bool) (w : World) (hr0_1 : Kd.C k33 w A0_1 l0_1.length l0_1) (hc0_1 : l0_1.length ≤ c0_1) (hr0_8 : Kd.C (Kd.int .i64) w A0_8 l0_8.length l0_8) (hc0_8 : l0_8.length ≤ c0_8) (h : expr_Safe.f a0_0 l0_1 a0_2 a0_3 a0_4 a0_5 a0_6 a0_7 l0_8 = some r) :
    Calls Try.prog 13 #[.agg #[.int .i64 a0_0, .slice A0_1 l0_1.length c0_1, .int .i64 a0_2, .string a0_3, .int .i64 a0_4, .bool a0_5, .int .i64 a0_6, .string a0_7, .slice A0_8 l0_8.length c0_8]] w fun e w' => e = .returned (.bool r) ∧ Below w.heap.size w w' := by
  have h0 := safe_at ⟨a0_0, l0_1, a0_2, a0_3, ⟨a0_4, a0_5, a0_6, a0_7, l0_8⟩⟩ A0_1 c0_1 A0_8 c0_8 w hr0_1 hc0_1 hr0_8 hc0_8
  have e := Option.some.inj h
  subst e
  exact h0


/-! ### portolanlaw11_head: function 8 -/
def portolanlaw11_head.f  : Option (Bool) := (expr_Arith.f 15 2 false 7 (⟨#[]⟩ : ByteArray) ([] : List Int) 2 false (-2) (⟨#[]⟩ : ByteArray) ([] : List Int)).bind fun bt103 => (if bt103.1 = 2 then (if bt103.2.2.1 = (-3) then ((expr_Safe.f 2 ([] : List (S33)) 0 (⟨#[]⟩ : ByteArray) 0 false 0 (⟨#[]⟩ : ByteArray) ([] : List Int)).bind fun t111 => (some t111)) else (some false)) else (some false))
set_option maxHeartbeats 8000000 in
set_option maxRecDepth 100000 in
theorem portolanlaw11_head.calls  (r : Bool) (w : World) (h : portolanlaw11_head.f  = some r) :
    Calls Try.prog 8 #[] w fun e w' => e = .returned (.bool r) ∧ Below w.heap.size w w' := by
  have hu26 := Try.underlying26
  have hu33 := Try.underlying33
  have HB := Aside0.mk (Below.refl w.heap.size w)
  have H : ((expr_Arith.f 15 2 false 7 (⟨#[]⟩ : ByteArray) ([] : List Int) 2 false (-2) (⟨#[]⟩ : ByteArray) ([] : List Int)).bind fun bt103 => (if bt103.1 = 2 then (if bt103.2.2.1 = (-3) then ((expr_Safe.f 2 ([] : List (S33)) 0 (⟨#[]⟩ : ByteArray) 0 false 0 (⟨#[]⟩ : ByteArray) ([] : List Int)).bind fun t111 => (some t111)) else (some false)) else (some false))) = some r := h
  clear h
  replace H := Option.bind_eq_some_iff.mp H
  obtain ⟨⟨t103, t104, t105, t106, t107⟩, A10, H⟩ := H
  replace H : (if t103 = 2 then (if t105 = (-3) then ((expr_Safe.f 2 ([] : List (S33)) 0 (⟨#[]⟩ : ByteArray) 0 false 0 (⟨#[]⟩ : ByteArray) ([] : List Int)).bind fun t111 => (some t111)) else (some false)) else (some false)) = some r := H
  have A1 := Aside0.mk A10
  clear A10
  by_cases c2 : t103 = 2
  · rw [if_pos c2] at H
    have c2b0 : (t103 == 2) = true := beq_iff_eq.mpr c2
    have c2b1 : (t103 != 2) = false := bne_eq_false_iff_eq.mpr c2
    clear c2
    by_cases c3 : t105 = (-3)
    · rw [if_pos c3] at H
      have c3b0 : (t105 == (-3)) = true := beq_iff_eq.mpr c3
      have c3b1 : (t105 != (-3)) = false := bne_eq_false_iff_eq.mpr c3
      clear c3
      replace H := Option.bind_eq_some_iff.mp H
      obtain ⟨t111, A40, H⟩ := H
      replace H : (some t111) = some r := H
      have A4 := Aside0.mk A40
      clear A40
      obtain rfl := Option.some.inj H
      go_enter Try.func8, Try.ntmps8
      go_wp2_with (first | ((with_reducible refine gate_callee (f := 10) rfl ?_); refine goesL_ (some 4) rfl rfl Try.func10 (by kernel_rfl) rfl #[.int .i64 15, .agg #[.int .i64 2, .bool false, .int .i64 7, .string (⟨#[]⟩ : ByteArray), .slice none 0 0], .agg #[.int .i64 2, .bool false, .int .i64 (-2), .string (⟨#[]⟩ : ByteArray), .slice none 0 0]] rfl (by (try simp only [List.map_toArray, List.map_cons, List.map_nil]); first | done | rfl | (simp only [List.length_drop, List.length_take]; rfl)) ?_; (refine (expr_Arith.calls 15 2 false 7 (⟨#[]⟩ : ByteArray) _ _ ([] : List Int) 2 false (-2) (⟨#[]⟩ : ByteArray) _ _ ([] : List Int) t103 t104 t105 t106 t107 _ ?side1 ?side2 ?side3 ?side4 A1.out).mono ?_); (case side1 => exact Kd.C_nil _ _); (case side2 => exact Nat.le_refl _); (case side3 => exact Kd.C_nil _ _); (case side4 => exact Nat.le_refl _); rintro e w5 ⟨v108, rfl, ho0, hb⟩; refine ⟨_, rfl, ?_⟩; have n0_ := Aside0.mk (Kd.R_lower ho0 (below_size (by repeat (first | (with_reducible first | exact HB.out | apply below_alloc | apply pw_below_drewN | apply below_drew1) | exact HB.out)))); have n1_ := Aside0.mk (below_step (by repeat (first | (with_reducible first | exact HB.out | apply below_alloc | apply pw_below_drewN | apply below_drew1) | exact HB.out)) hb); clear HB; have HO109 := n0_; have HB := n1_; clear n0_ n1_; (try clear hb); (try clear hb2); (try clear hk); (try clear hi); (try clear ho0)) | ((with_reducible refine gate_dst (N := 1) rfl ?_); refine box_event ?hg (N := 1) ?hd (cs := #[.int .i64 0, .bool false, .int .i64 0, .string (⟨#[]⟩ : ByteArray), .slice none 0 0]) (t := 26) ?hr ?_; (case hd => rfl); (case hg => rfl); (case hr => first | (go_simp; done) | (go_simp; rfl)); intro gb110 hg w6 hbox hb; have n0_ := Aside0.mk (Kd.R_below (by (with_reducible repeat (first | apply Kd.R_alloc | apply Kd.R_drewN | apply Kd.R_drew)); exact HO109.out) hb); have n1_ := Aside0.mk (below_step (by repeat (first | (with_reducible first | exact HB.out | apply below_alloc | apply pw_below_drewN | apply below_drew1) | exact HB.out)) hb); have n2_ := Aside0.mk (hbox); have n3_ := Aside0.mk ((by rw [hg]; exact (below_size (by repeat (first | (with_reducible first | exact HB.out | apply below_alloc | apply pw_below_drewN | apply below_drew1) | exact HB.out))) : w.heap.size ≤ gb110)); have n4_ := Aside0.mk ((by rw [hg]; exact (below_size (by repeat (first | (with_reducible first | exact HB.out | apply below_alloc | apply pw_below_drewN | apply below_drew1) | exact HB.out))) : w.heap.size ≤ gb110)); clear HO109; clear HB; have HO109 := n0_; have HB := n1_; have BK110 := n2_; have GW110 := n3_; have GE110 := n4_; clear n0_ n1_ n2_ n3_ n4_; clear hb hbox hg; have hcz7_0 : w6.cell? ⟨gb110, 0, none⟩ = some (.int .i64 0) := (blk_cell BK110.out 0).trans rfl; have hcz7_1 : w6.cell? ⟨gb110, 1, none⟩ = some (.bool false) := (blk_cell BK110.out 1).trans rfl; have hcz7_2 : w6.cell? ⟨gb110, 2, none⟩ = some (.int .i64 0) := (blk_cell BK110.out 2).trans rfl; have hcz7_3 : w6.cell? ⟨gb110, 3, none⟩ = some (.string (⟨#[]⟩ : ByteArray)) := (blk_cell BK110.out 3).trans rfl; have hcz7_4 : w6.cell? ⟨gb110, 4, none⟩ = some (.slice none 0 0) := (blk_cell BK110.out 4).trans rfl; have hfz7_0 := blk_frozen BK110.out 0; have hfz7_1 := blk_frozen BK110.out 1; have hfz7_2 := blk_frozen BK110.out 2; have hfz7_3 := blk_frozen BK110.out 3; have hfz7_4 := blk_frozen BK110.out 4; obtain ⟨Ao8, co8, eo8⟩ := Kd.R_slice HO109.out; subst eo8) | (go_at_call 13; (refine (expr_Safe.calls 2 _ _ ([] : List (S33)) 0 (⟨#[]⟩ : ByteArray) 0 false 0 (⟨#[]⟩ : ByteArray) _ _ ([] : List Int) t111 _ ?side1 ?side2 ?side3 ?side4 A4.out).mono ?_); (case side1 => exact Kd.C_nil _ _); (case side2 => exact Nat.le_refl _); (case side3 => exact Kd.C_nil _ _); (case side4 => exact Nat.le_refl _); rintro e w9 ⟨rfl, hb⟩; have n0_ := Aside0.mk (Kd.R_below (by (with_reducible repeat (first | apply Kd.R_alloc | apply Kd.R_drewN | apply Kd.R_drew)); exact (Kd.R_mono (Kd.R_far (p := ⟨gb110, 4, none⟩) (Kd.R_far (p := ⟨gb110, 3, none⟩) (Kd.R_far (p := ⟨gb110, 2, none⟩) (Kd.R_far (p := ⟨gb110, 1, none⟩) (Kd.R_far (p := ⟨gb110, 0, none⟩) (Kd.R_types HO109.out BK110.out (by decide)) (fun _ hk => hk.2) (.int .i64 t103)) (fun _ hk => hk.2) (.bool t104)) (fun _ hk => hk.2) (.int .i64 t105)) (fun _ hk => hk.2) (.string t106)) (fun _ hk => hk.2) (.slice Ao8 t107.length co8)) (fun _ h_ => h_.1))) hb); have n1_ := Aside0.mk (blk_below (g := gb110) (o := .cells #[.int .i64 t103, .bool t104, .int .i64 t105, .string t106, .slice Ao8 t107.length co8] 26 (0, 0)) (by (with_reducible repeat (first | refine blk_drewN ?_ _ | refine blk_drew ?_ | refine blk_alloc ?_ _)); refine blk_put (cs := #[.int .i64 t103, .bool t104, .int .i64 t105, .string t106, .slice none 0 0]) ?_ 4 _ rfl; (with_reducible repeat (first | refine blk_drewN ?_ _ | refine blk_drew ?_ | refine blk_alloc ?_ _)); refine blk_put (cs := #[.int .i64 t103, .bool t104, .int .i64 t105, .string (⟨#[]⟩ : ByteArray), .slice none 0 0]) ?_ 3 _ rfl; (with_reducible repeat (first | refine blk_drewN ?_ _ | refine blk_drew ?_ | refine blk_alloc ?_ _)); refine blk_put (cs := #[.int .i64 t103, .bool t104, .int .i64 0, .string (⟨#[]⟩ : ByteArray), .slice none 0 0]) ?_ 2 _ rfl; (with_reducible repeat (first | refine blk_drewN ?_ _ | refine blk_drew ?_ | refine blk_alloc ?_ _)); refine blk_put (cs := #[.int .i64 t103, .bool false, .int .i64 0, .string (⟨#[]⟩ : ByteArray), .slice none 0 0]) ?_ 1 _ rfl; (with_reducible repeat (first | refine blk_drewN ?_ _ | refine blk_drew ?_ | refine blk_alloc ?_ _)); refine blk_put (cs := #[.int .i64 0, .bool false, .int .i64 0, .string (⟨#[]⟩ : ByteArray), .slice none 0 0]) ?_ 0 _ rfl; (with_reducible repeat (first | refine blk_drewN ?_ _ | refine blk_drew ?_ | refine blk_alloc ?_ _)); exact BK110.out) hb); have n2_ := Aside0.mk (below_step (by repeat (first | (with_reducible first | exact HB.out | apply below_alloc | apply pw_below_drewN | apply below_drew1 | refine below_set ?_ GE110.out) | exact HB.out)) hb); clear HO109; clear BK110; clear HB; have HO109 := n0_; have BK110 := n1_; have HB := n2_; clear n0_ n1_ n2_; (try clear hb); (try clear hb2); (try clear hk); (try clear hi)))
      go_ret
      exact ⟨by first | rfl | (simp [errW_none, errW_some] <;> rfl) | (simp [*, errW_none, errW_some] <;> rfl), by repeat (first | (with_reducible first | exact HB.out | apply below_alloc | apply pw_below_drewN | apply below_drew1 | refine below_set ?_ GE110.out) | exact HB.out)⟩
    · rw [if_neg c3] at H
      have c3b0 : (t105 == (-3)) = false := beq_eq_false_iff_ne.mpr c3
      have c3b1 : (t105 != (-3)) = true := bne_iff_ne.mpr c3
      obtain rfl := Option.some.inj H
      go_enter Try.func8, Try.ntmps8
      go_wp2_with (first | ((with_reducible refine gate_callee (f := 10) rfl ?_); refine goesL_ (some 4) rfl rfl Try.func10 (by kernel_rfl) rfl #[.int .i64 15, .agg #[.int .i64 2, .bool false, .int .i64 7, .string (⟨#[]⟩ : ByteArray), .slice none 0 0], .agg #[.int .i64 2, .bool false, .int .i64 (-2), .string (⟨#[]⟩ : ByteArray), .slice none 0 0]] rfl (by (try simp only [List.map_toArray, List.map_cons, List.map_nil]); first | done | rfl | (simp only [List.length_drop, List.length_take]; rfl)) ?_; (refine (expr_Arith.calls 15 2 false 7 (⟨#[]⟩ : ByteArray) _ _ ([] : List Int) 2 false (-2) (⟨#[]⟩ : ByteArray) _ _ ([] : List Int) t103 t104 t105 t106 t107 _ ?side1 ?side2 ?side3 ?side4 A1.out).mono ?_); (case side1 => exact Kd.C_nil _ _); (case side2 => exact Nat.le_refl _); (case side3 => exact Kd.C_nil _ _); (case side4 => exact Nat.le_refl _); rintro e w10 ⟨v108, rfl, ho0, hb⟩; refine ⟨_, rfl, ?_⟩; have n0_ := Aside0.mk (Kd.R_lower ho0 (below_size (by repeat (first | (with_reducible first | exact HB.out | apply below_alloc | apply pw_below_drewN | apply below_drew1) | exact HB.out)))); have n1_ := Aside0.mk (below_step (by repeat (first | (with_reducible first | exact HB.out | apply below_alloc | apply pw_below_drewN | apply below_drew1) | exact HB.out)) hb); clear HB; have HO109 := n0_; have HB := n1_; clear n0_ n1_; (try clear hb); (try clear hb2); (try clear hk); (try clear hi); (try clear ho0)) | ((with_reducible refine gate_dst (N := 1) rfl ?_); refine box_event ?hg (N := 1) ?hd (cs := #[.int .i64 0, .bool false, .int .i64 0, .string (⟨#[]⟩ : ByteArray), .slice none 0 0]) (t := 26) ?hr ?_; (case hd => rfl); (case hg => rfl); (case hr => first | (go_simp; done) | (go_simp; rfl)); intro gb110 hg w11 hbox hb; have n0_ := Aside0.mk (Kd.R_below (by (with_reducible repeat (first | apply Kd.R_alloc | apply Kd.R_drewN | apply Kd.R_drew)); exact HO109.out) hb); have n1_ := Aside0.mk (below_step (by repeat (first | (with_reducible first | exact HB.out | apply below_alloc | apply pw_below_drewN | apply below_drew1) | exact HB.out)) hb); have n2_ := Aside0.mk (hbox); have n3_ := Aside0.mk ((by rw [hg]; exact (below_size (by repeat (first | (with_reducible first | exact HB.out | apply below_alloc | apply pw_below_drewN | apply below_drew1) | exact HB.out))) : w.heap.size ≤ gb110)); have n4_ := Aside0.mk ((by rw [hg]; exact (below_size (by repeat (first | (with_reducible first | exact HB.out | apply below_alloc | apply pw_below_drewN | apply below_drew1) | exact HB.out))) : w.heap.size ≤ gb110)); clear HO109; clear HB; have HO109 := n0_; have HB := n1_; have BK110 := n2_; have GW110 := n3_; have GE110 := n4_; clear n0_ n1_ n2_ n3_ n4_; clear hb hbox hg; have hcz12_0 : w11.cell? ⟨gb110, 0, none⟩ = some (.int .i64 0) := (blk_cell BK110.out 0).trans rfl; have hcz12_1 : w11.cell? ⟨gb110, 1, none⟩ = some (.bool false) := (blk_cell BK110.out 1).trans rfl; have hcz12_2 : w11.cell? ⟨gb110, 2, none⟩ = some (.int .i64 0) := (blk_cell BK110.out 2).trans rfl; have hcz12_3 : w11.cell? ⟨gb110, 3, none⟩ = some (.string (⟨#[]⟩ : ByteArray)) := (blk_cell BK110.out 3).trans rfl; have hcz12_4 : w11.cell? ⟨gb110, 4, none⟩ = some (.slice none 0 0) := (blk_cell BK110.out 4).trans rfl; have hfz12_0 := blk_frozen BK110.out 0; have hfz12_1 := blk_frozen BK110.out 1; have hfz12_2 := blk_frozen BK110.out 2; have hfz12_3 := blk_frozen BK110.out 3; have hfz12_4 := blk_frozen BK110.out 4; obtain ⟨Ao13, co13, eo13⟩ := Kd.R_slice HO109.out; subst eo13))
      go_ret
      exact ⟨by first | rfl | (simp [errW_none, errW_some] <;> rfl) | (simp [*, errW_none, errW_some] <;> rfl), by repeat (first | (with_reducible first | exact HB.out | apply below_alloc | apply pw_below_drewN | apply below_drew1 | refine below_set ?_ GE110.out) | exact HB.out)⟩
  · rw [if_neg c2] at H
    have c2b0 : (t103 == 2) = false := beq_eq_false_iff_ne.mpr c2
    have c2b1 : (t103 != 2) = true := bne_iff_ne.mpr c2
    obtain rfl := Option.some.inj H
    go_enter Try.func8, Try.ntmps8
    go_wp2_with (first | ((with_reducible refine gate_callee (f := 10) rfl ?_); refine goesL_ (some 4) rfl rfl Try.func10 (by kernel_rfl) rfl #[.int .i64 15, .agg #[.int .i64 2, .bool false, .int .i64 7, .string (⟨#[]⟩ : ByteArray), .slice none 0 0], .agg #[.int .i64 2, .bool false, .int .i64 (-2), .string (⟨#[]⟩ : ByteArray), .slice none 0 0]] rfl (by (try simp only [List.map_toArray, List.map_cons, List.map_nil]); first | done | rfl | (simp only [List.length_drop, List.length_take]; rfl)) ?_; (refine (expr_Arith.calls 15 2 false 7 (⟨#[]⟩ : ByteArray) _ _ ([] : List Int) 2 false (-2) (⟨#[]⟩ : ByteArray) _ _ ([] : List Int) t103 t104 t105 t106 t107 _ ?side1 ?side2 ?side3 ?side4 A1.out).mono ?_); (case side1 => exact Kd.C_nil _ _); (case side2 => exact Nat.le_refl _); (case side3 => exact Kd.C_nil _ _); (case side4 => exact Nat.le_refl _); rintro e w14 ⟨v108, rfl, ho0, hb⟩; refine ⟨_, rfl, ?_⟩; have n0_ := Aside0.mk (Kd.R_lower ho0 (below_size (by repeat (first | (with_reducible first | exact HB.out | apply below_alloc | apply pw_below_drewN | apply below_drew1) | exact HB.out)))); have n1_ := Aside0.mk (below_step (by repeat (first | (with_reducible first | exact HB.out | apply below_alloc | apply pw_below_drewN | apply below_drew1) | exact HB.out)) hb); clear HB; have HO109 := n0_; have HB := n1_; clear n0_ n1_; (try clear hb); (try clear hb2); (try clear hk); (try clear hi); (try clear ho0)) | ((with_reducible refine gate_dst (N := 1) rfl ?_); refine box_event ?hg (N := 1) ?hd (cs := #[.int .i64 0, .bool false, .int .i64 0, .string (⟨#[]⟩ : ByteArray), .slice none 0 0]) (t := 26) ?hr ?_; (case hd => rfl); (case hg => rfl); (case hr => first | (go_simp; done) | (go_simp; rfl)); intro gb110 hg w15 hbox hb; have n0_ := Aside0.mk (Kd.R_below (by (with_reducible repeat (first | apply Kd.R_alloc | apply Kd.R_drewN | apply Kd.R_drew)); exact HO109.out) hb); have n1_ := Aside0.mk (below_step (by repeat (first | (with_reducible first | exact HB.out | apply below_alloc | apply pw_below_drewN | apply below_drew1) | exact HB.out)) hb); have n2_ := Aside0.mk (hbox); have n3_ := Aside0.mk ((by rw [hg]; exact (below_size (by repeat (first | (with_reducible first | exact HB.out | apply below_alloc | apply pw_below_drewN | apply below_drew1) | exact HB.out))) : w.heap.size ≤ gb110)); have n4_ := Aside0.mk ((by rw [hg]; exact (below_size (by repeat (first | (with_reducible first | exact HB.out | apply below_alloc | apply pw_below_drewN | apply below_drew1) | exact HB.out))) : w.heap.size ≤ gb110)); clear HO109; clear HB; have HO109 := n0_; have HB := n1_; have BK110 := n2_; have GW110 := n3_; have GE110 := n4_; clear n0_ n1_ n2_ n3_ n4_; clear hb hbox hg; have hcz16_0 : w15.cell? ⟨gb110, 0, none⟩ = some (.int .i64 0) := (blk_cell BK110.out 0).trans rfl; have hcz16_1 : w15.cell? ⟨gb110, 1, none⟩ = some (.bool false) := (blk_cell BK110.out 1).trans rfl; have hcz16_2 : w15.cell? ⟨gb110, 2, none⟩ = some (.int .i64 0) := (blk_cell BK110.out 2).trans rfl; have hcz16_3 : w15.cell? ⟨gb110, 3, none⟩ = some (.string (⟨#[]⟩ : ByteArray)) := (blk_cell BK110.out 3).trans rfl; have hcz16_4 : w15.cell? ⟨gb110, 4, none⟩ = some (.slice none 0 0) := (blk_cell BK110.out 4).trans rfl; have hfz16_0 := blk_frozen BK110.out 0; have hfz16_1 := blk_frozen BK110.out 1; have hfz16_2 := blk_frozen BK110.out 2; have hfz16_3 := blk_frozen BK110.out 3; have hfz16_4 := blk_frozen BK110.out 4; obtain ⟨Ao17, co17, eo17⟩ := Kd.R_slice HO109.out; subst eo17))
    go_ret
    exact ⟨by first | rfl | (simp [errW_none, errW_some] <;> rfl) | (simp [*, errW_none, errW_some] <;> rfl), by repeat (first | (with_reducible first | exact HB.out | apply below_alloc | apply pw_below_drewN | apply below_drew1 | refine below_set ?_ GE110.out) | exact HB.out)⟩

/-! ### portolanlaw11_weight: function 12 -/
mutual
def portolanlaw11_weight.l0 : Nat → Int → Int → Int → Int → List (S33) → Int → ByteArray → Int → Bool → Int → ByteArray → List Int → Option (Int)
  | 0, _, _, _, _, _, _, _, _, _, _, _, _ => none
  | k + 1, x1, x5, x6, x113000, x113001, x113002, x113003, x113004, x113005, x113006, x113007, x113008 => if x6 < (x113001.length : Int) then (if x5 ≤ x1 then (if 0 ≤ x6 then ((portolanlaw11_weight.f k ((rd_T33 x113001 x6).f0) ((rd_T33 x113001 x6).f1) ((rd_T33 x113001 x6).f2) ((rd_T33 x113001 x6).f3) ((rd_T33 x113001 x6).f4.f0) ((rd_T33 x113001 x6).f4.f1) ((rd_T33 x113001 x6).f4.f2) ((rd_T33 x113001 x6).f4.f3) ((rd_T33 x113001 x6).f4.f4) (wrap64 (x1 - x5))).bind fun t114 => (portolanlaw11_weight.l0 k x1 (wrap64 (x5 + t114)) (wrap64 (x6 + 1)) x113000 x113001 x113002 x113003 x113004 x113005 x113006 x113007 x113008)) else (none)) else (some x5)) else (some x5)
def portolanlaw11_weight.f : Nat → Int → List (S33) → Int → ByteArray → Int → Bool → Int → ByteArray → List Int → Int → Option (Int)
  | 0, _, _, _, _, _, _, _, _, _, _ => none
  | k + 1, a0_0, l0_1, a0_2, a0_3, a0_4, a0_5, a0_6, a0_7, l0_8, a1 => portolanlaw11_weight.l0 k a1 1 0 a0_0 l0_1 a0_2 a0_3 a0_4 a0_5 a0_6 a0_7 l0_8
end
theorem portolanlaw11_weight.mono_l : ∀ k, (∀ y0 y1 y2 y3 y4 y5 y6 y7 y8 y9, LeO (portolanlaw11_weight.f k y0 y1 y2 y3 y4 y5 y6 y7 y8 y9) (portolanlaw11_weight.f (k + 1) y0 y1 y2 y3 y4 y5 y6 y7 y8 y9)) ∧ (∀ y0 y1 y2 y3 y4 y5 y6 y7 y8 y9 y10 y11, LeO (portolanlaw11_weight.l0 k y0 y1 y2 y3 y4 y5 y6 y7 y8 y9 y10 y11) (portolanlaw11_weight.l0 (k + 1) y0 y1 y2 y3 y4 y5 y6 y7 y8 y9 y10 y11))
  | 0 => ⟨fun _ _ _ _ _ _ _ _ _ _ r h => by simp [portolanlaw11_weight.f] at h, fun _ _ _ _ _ _ _ _ _ _ _ _ r h => by simp [portolanlaw11_weight.l0] at h⟩
  | k + 1 => by
    obtain ⟨ih0, ih1⟩ := portolanlaw11_weight.mono_l k
    refine ⟨?_, ?_⟩
    · intro y0 y1 y2 y3 y4 y5 y6 y7 y8 y9
      unfold portolanlaw11_weight.f
      repeat' first
      | (with_reducible exact ih0 _ _ _ _ _ _ _ _ _ _)
      | (with_reducible exact ih1 _ _ _ _ _ _ _ _ _ _ _ _)
      | (with_reducible exact LeO.refl _)
      | (with_reducible exact LeO.none _)
      | (with_reducible refine LeO.ite ?_ ?_)
      | (with_reducible refine LeO.bind ?_ (fun _ => ?_))
      | exact ih0 _ _ _ _ _ _ _ _ _ _
      | exact ih1 _ _ _ _ _ _ _ _ _ _ _ _
      | exact LeO.none _
      | refine LeO.ite ?_ ?_
      | refine LeO.bind ?_ (fun _ => ?_)
    · intro y0 y1 y2 y3 y4 y5 y6 y7 y8 y9 y10 y11
      unfold portolanlaw11_weight.l0
      repeat' first
      | (with_reducible exact ih0 _ _ _ _ _ _ _ _ _ _)
      | (with_reducible exact ih1 _ _ _ _ _ _ _ _ _ _ _ _)
      | (with_reducible exact LeO.refl _)
      | (with_reducible exact LeO.none _)
      | (with_reducible refine LeO.ite ?_ ?_)
      | (with_reducible refine LeO.bind ?_ (fun _ => ?_))
      | exact ih0 _ _ _ _ _ _ _ _ _ _
      | exact ih1 _ _ _ _ _ _ _ _ _ _ _ _
      | exact LeO.none _
      | refine LeO.ite ?_ ?_
      | refine LeO.bind ?_ (fun _ => ?_)
theorem portolanlaw11_weight.mono : ∀ a0 a1 a2 a3 a4 a5 a6 a7 a8 a9 k, LeO (portolanlaw11_weight.f k a0 a1 a2 a3 a4 a5 a6 a7 a8 a9) (portolanlaw11_weight.f (k + 1) a0 a1 a2 a3 a4 a5 a6 a7 a8 a9) := by
  intro a0 a1 a2 a3 a4 a5 a6 a7 a8 a9 k
  obtain ⟨ih0, ih1⟩ := portolanlaw11_weight.mono_l k
  exact ih0 a0 a1 a2 a3 a4 a5 a6 a7 a8 a9
set_option maxHeartbeats 8000000 in
set_option maxRecDepth 100000 in
theorem portolanlaw11_weight.calls (k : Nat) : ∀ (a0_0 : Int) (A0_1 : Option Addr) (c0_1 : Nat) (l0_1 : List (S33)) (a0_2 : Int) (a0_3 : ByteArray) (a0_4 : Int) (a0_5 : Bool) (a0_6 : Int) (a0_7 : ByteArray) (A0_8 : Option Addr) (c0_8 : Nat) (l0_8 : List Int) (a1 : Int) (r : Int) (w : World) (hr0_1 : Kd.C k33 w A0_1 l0_1.length l0_1) (hc0_1 : l0_1.length ≤ c0_1) (hr0_8 : Kd.C (Kd.int .i64) w A0_8 l0_8.length l0_8) (hc0_8 : l0_8.length ≤ c0_8) (h : portolanlaw11_weight.f k a0_0 l0_1 a0_2 a0_3 a0_4 a0_5 a0_6 a0_7 l0_8 a1 = some r),
    Calls Try.prog 12 #[.agg #[.int .i64 a0_0, .slice A0_1 l0_1.length c0_1, .int .i64 a0_2, .string a0_3, .int .i64 a0_4, .bool a0_5, .int .i64 a0_6, .string a0_7, .slice A0_8 l0_8.length c0_8], .int .i64 a1] w fun e w' => e = .returned (.int .i64 r) ∧ Below w.heap.size w w' := by
  induction k using Nat.strongRecOn with
  | _ k ih =>
  intro a0_0 A0_1 c0_1 l0_1 a0_2 a0_3 a0_4 a0_5 a0_6 a0_7 A0_8 c0_8 l0_8 a1 r w hr0_1 hc0_1 hr0_8 hc0_8 h
  cases k with
  | zero => exact absurd h (by simp [portolanlaw11_weight.f])
  | succ k =>
  simp only [portolanlaw11_weight.f] at h
  have hu33 := Try.underlying33
  have HR0_1 := Aside0.mk hr0_1
  have HC0_1 := Aside0.mk hc0_1
  clear hr0_1 hc0_1
  have HR0_8 := Aside0.mk hr0_8
  have HC0_8 := Aside0.mk hc0_8
  clear hr0_8 hc0_8
  have HB := Aside0.mk (Below.refl w.heap.size w)
  have H : (portolanlaw11_weight.l0 k a1 1 0 a0_0 l0_1 a0_2 a0_3 a0_4 a0_5 a0_6 a0_7 l0_8) = some r := h
  clear h
  have H' := Aside0.mk H
  clear H
  go_enter Try.func12, Try.ntmps12
  go_wp2_with (first | ((with_reducible refine gate_dst (N := 2) rfl ?_); refine box_event ?hg (N := 2) ?hd (cs := #[.int .i64 a0_0, .slice A0_1 l0_1.length c0_1, .int .i64 a0_2, .string a0_3, .int .i64 a0_4, .bool a0_5, .int .i64 a0_6, .string a0_7, .slice A0_8 l0_8.length c0_8]) (t := 33) ?hr ?_; (case hd => rfl); (case hg => rfl); (case hr => first | (go_simp; done) | (go_simp; rfl)); intro gb112 hg w3 hbox hb; have n0_ := Aside0.mk (below_step (by repeat (first | (with_reducible first | exact HB.out | apply below_alloc | apply pw_below_drewN | apply below_drew1) | exact HB.out)) hb); have n1_ := Aside0.mk (hbox); have n2_ := Aside0.mk ((by rw [hg]; exact (below_size (by repeat (first | (with_reducible first | exact HB.out | apply below_alloc | apply pw_below_drewN | apply below_drew1) | exact HB.out))) : w.heap.size ≤ gb112)); have n3_ := Aside0.mk ((by rw [hg]; exact (below_size (by repeat (first | (with_reducible first | exact HB.out | apply below_alloc | apply pw_below_drewN | apply below_drew1) | exact HB.out))) : w.heap.size ≤ gb112)); clear HB; have HB := n0_; have BK112 := n1_; have GW112 := n2_; have GE112 := n3_; clear n0_ n1_ n2_ n3_; clear hb hbox hg))
  go_loopg [5, 6] k (fun kq v5 v6 w' => ∃ (x5_1 : Int) (x6_1 : Int), v5 = .int .i64 x5_1 ∧ v6 = .int .i64 x6_1 ∧ Aside0 (portolanlaw11_weight.l0 kq a1 x5_1 x6_1 a0_0 l0_1 a0_2 a0_3 a0_4 a0_5 a0_6 a0_7 l0_8 = some r) ∧ Aside0 (kq ≤ k) ∧ Aside0 (w'.heap[gb112]? = some (.cells #[.int .i64 a0_0, (.slice A0_1 l0_1.length c0_1), .int .i64 a0_2, .string a0_3, .int .i64 a0_4, .bool a0_5, .int .i64 a0_6, .string a0_7, (.slice A0_8 l0_8.length c0_8)] 33 (0, 0))) ∧ Aside0 (Below w.heap.size w w'))
  case atStart => exact ⟨(1), (0), (by first | rfl | (simp; done) | (simp [*]; done)), (by first | rfl | (simp; done) | (simp [*]; done)), H', ⟨Nat.le_refl _⟩, ⟨by (with_reducible repeat (first | refine blk_drewN ?_ _ | refine blk_drew ?_ | refine blk_alloc ?_ _)); exact BK112.out⟩, ⟨by repeat (first | (with_reducible first | exact HB.out | apply below_alloc | apply pw_below_drewN | apply below_drew1 | refine below_set ?_ GE112.out) | exact HB.out)⟩⟩
  case round =>
    clear H'
    try clear c1
    try clear p2
    obtain ⟨x5_1, x6_1, rfl, rfl, HA, HK1, BK112, HB⟩ := hrel
    cases gk with
    | zero => exact absurd HA.out (by simp [portolanlaw11_weight.l0])
    | succ k1 =>
      have H := HA.out
      clear HA
      simp only [portolanlaw11_weight.l0] at H
      by_cases c4 : x6_1 < (l0_1.length : Int)
      · rw [if_pos c4] at H
        have c4b0 : decide (x6_1 < (l0_1.length : Int)) = true := decide_eq_true c4
        clear c4
        by_cases c5 : x5_1 ≤ a1
        · rw [if_pos c5] at H
          have c5b0 : decide (x5_1 ≤ a1) = true := decide_eq_true c5
          clear c5
          by_cases c6 : 0 ≤ x6_1
          · rw [if_pos c6] at H
            have c6b0 : decide (0 ≤ x6_1) = true := decide_eq_true c6
            clear c6
            replace H := Option.bind_eq_some_iff.mp H
            obtain ⟨t114, A70, H⟩ := H
            replace H : (portolanlaw11_weight.l0 k1 a1 (wrap64 (x5_1 + t114)) (wrap64 (x6_1 + 1)) a0_0 l0_1 a0_2 a0_3 a0_4 a0_5 a0_6 a0_7 l0_8) = some r := H
            have A7 := Aside0.mk A70
            clear A70
            have H' := Aside0.mk H
            clear H
            have hcz8_0 : wr.cell? ⟨gb112, 0, none⟩ = some (.int .i64 a0_0) := (blk_cell BK112.out 0).trans rfl
            have hcz8_1 : wr.cell? ⟨gb112, 1, none⟩ = some (.slice A0_1 l0_1.length c0_1) := (blk_cell BK112.out 1).trans rfl
            have hcz8_2 : wr.cell? ⟨gb112, 2, none⟩ = some (.int .i64 a0_2) := (blk_cell BK112.out 2).trans rfl
            have hcz8_3 : wr.cell? ⟨gb112, 3, none⟩ = some (.string a0_3) := (blk_cell BK112.out 3).trans rfl
            have hcz8_4 : wr.cell? ⟨gb112, 4, none⟩ = some (.int .i64 a0_4) := (blk_cell BK112.out 4).trans rfl
            have hcz8_5 : wr.cell? ⟨gb112, 5, none⟩ = some (.bool a0_5) := (blk_cell BK112.out 5).trans rfl
            have hcz8_6 : wr.cell? ⟨gb112, 6, none⟩ = some (.int .i64 a0_6) := (blk_cell BK112.out 6).trans rfl
            have hcz8_7 : wr.cell? ⟨gb112, 7, none⟩ = some (.string a0_7) := (blk_cell BK112.out 7).trans rfl
            have hcz8_8 : wr.cell? ⟨gb112, 8, none⟩ = some (.slice A0_8 l0_8.length c0_8) := (blk_cell BK112.out 8).trans rfl
            have hfz8_0 := blk_frozen BK112.out 0
            have hfz8_1 := blk_frozen BK112.out 1
            have hfz8_2 := blk_frozen BK112.out 2
            have hfz8_3 := blk_frozen BK112.out 3
            have hfz8_4 := blk_frozen BK112.out 4
            have hfz8_5 := blk_frozen BK112.out 5
            have hfz8_6 := blk_frozen BK112.out 6
            have hfz8_7 := blk_frozen BK112.out 7
            have hfz8_8 := blk_frozen BK112.out 8
            have p113 : 0 ≤ (x6_1 : Int) := of_decide_eq_true (by first | (with_reducible assumption) | assumption)
            have q113 : x6_1 < (l0_1.length : Int) := of_decide_eq_true (by first | (with_reducible assumption) | assumption)
            obtain ⟨ad113, A113_1, c113_1, A113_8, c113_8, e113, hx113_0, hx113_1, hx113_2, hx113_3, hx113_4, hx113_5, hx113_6, hx113_7, hx113_8, hl113_1, hi113_1, hl113_8, hi113_8⟩ := at_T33 HR0_1.out x6_1 p113 q113
            cases e113
            replace hx113_0 := (HB.out.cell (World.block_lt_of_cell? w _ hx113_0)).trans hx113_0
            replace hx113_1 := (HB.out.cell (World.block_lt_of_cell? w _ hx113_1)).trans hx113_1
            replace hx113_2 := (HB.out.cell (World.block_lt_of_cell? w _ hx113_2)).trans hx113_2
            replace hx113_3 := (HB.out.cell (World.block_lt_of_cell? w _ hx113_3)).trans hx113_3
            replace hx113_4 := (HB.out.cell (World.block_lt_of_cell? w _ hx113_4)).trans hx113_4
            replace hx113_5 := (HB.out.cell (World.block_lt_of_cell? w _ hx113_5)).trans hx113_5
            replace hx113_6 := (HB.out.cell (World.block_lt_of_cell? w _ hx113_6)).trans hx113_6
            replace hx113_7 := (HB.out.cell (World.block_lt_of_cell? w _ hx113_7)).trans hx113_7
            replace hx113_8 := (HB.out.cell (World.block_lt_of_cell? w _ hx113_8)).trans hx113_8
            have HR113_1 := Aside0.mk hi113_1
            have HC113_1 := Aside0.mk hl113_1
            clear hi113_1 hl113_1
            have HR113_8 := Aside0.mk hi113_8
            have HC113_8 := Aside0.mk hl113_8
            clear hi113_8 hl113_8
            replace p113 := eq_true p113
            replace q113 := eq_true q113
            go_wp2_with (first | ((with_reducible refine gate_callee (f := 12) rfl ?_); refine goesL_ (some 28) rfl rfl Try.func12 (by kernel_rfl) rfl #[.agg #[.int .i64 ((rd_T33 l0_1 x6_1).f0), .slice A113_1 ((rd_T33 l0_1 x6_1).f1).length c113_1, .int .i64 ((rd_T33 l0_1 x6_1).f2), .string ((rd_T33 l0_1 x6_1).f3), .int .i64 ((rd_T33 l0_1 x6_1).f4.f0), .bool ((rd_T33 l0_1 x6_1).f4.f1), .int .i64 ((rd_T33 l0_1 x6_1).f4.f2), .string ((rd_T33 l0_1 x6_1).f4.f3), .slice A113_8 ((rd_T33 l0_1 x6_1).f4.f4).length c113_8], .int .i64 (wrap64 (a1 - x5_1))] rfl (by (try simp only [List.map_toArray, List.map_cons, List.map_nil]); first | done | rfl | (simp only [List.length_drop, List.length_take]; rfl)) ?_; (with_reducible refine (ih k1 (by have := HK1.out; omega) ((rd_T33 l0_1 x6_1).f0) _ _ ((rd_T33 l0_1 x6_1).f1) ((rd_T33 l0_1 x6_1).f2) ((rd_T33 l0_1 x6_1).f3) ((rd_T33 l0_1 x6_1).f4.f0) ((rd_T33 l0_1 x6_1).f4.f1) ((rd_T33 l0_1 x6_1).f4.f2) ((rd_T33 l0_1 x6_1).f4.f3) _ _ ((rd_T33 l0_1 x6_1).f4.f4) (wrap64 (a1 - x5_1)) t114 _ ?side1 ?side2 ?side3 ?side4 A7.out).mono ?_); (case side1 => repeat (first | exact (Kd.C_below HR113_1.out HB.out) | (with_reducible refine Kd.C_alloc ?_ _) | (with_reducible refine Kd.C_drewN ?_ _) | (with_reducible refine Kd.C_drew ?_))); (case side2 => exact HC113_1.out); (case side3 => repeat (first | exact (Kd.C_below HR113_8.out HB.out) | (with_reducible refine Kd.C_alloc ?_ _) | (with_reducible refine Kd.C_drewN ?_ _) | (with_reducible refine Kd.C_drew ?_))); (case side4 => exact HC113_8.out); rintro e w9 ⟨rfl, hb⟩; refine ⟨_, rfl, ?_⟩; have n0_ := Aside0.mk (blk_below (g := gb112) (o := .cells #[.int .i64 a0_0, .slice (some ad113) l0_1.length c0_1, .int .i64 a0_2, .string a0_3, .int .i64 a0_4, .bool a0_5, .int .i64 a0_6, .string a0_7, .slice A0_8 l0_8.length c0_8] 33 (0, 0)) (by (with_reducible repeat (first | refine blk_drewN ?_ _ | refine blk_drew ?_ | refine blk_alloc ?_ _)); exact BK112.out) hb); have n1_ := Aside0.mk (below_step (by repeat (first | (with_reducible first | exact HB.out | apply below_alloc | apply pw_below_drewN | apply below_drew1 | refine below_set ?_ GE112.out) | exact HB.out)) hb); clear BK112; clear HB; have BK112 := n0_; have HB := n1_; clear n0_ n1_; (try clear hb); (try clear hb2); (try clear hk); (try clear hi)))
            go_roundg k1
            case measure => have := HK1.out; omega
            case rel => exact ⟨(wrap64 (x5_1 + t114)), (wrap64 (x6_1 + 1)), (by first | rfl | (simp; done) | (simp [*]; done)), (by first | rfl | (simp; done) | (simp [*]; done)), H', ⟨by have := HK1.out; omega⟩, ⟨by (with_reducible repeat (first | refine blk_drewN ?_ _ | refine blk_drew ?_ | refine blk_alloc ?_ _)); exact BK112.out⟩, ⟨by repeat (first | (with_reducible first | exact HB.out | apply below_alloc | apply pw_below_drewN | apply below_drew1 | refine below_set ?_ GE112.out) | exact HB.out)⟩⟩
          · rw [if_neg c6] at H
            exact absurd H (by simp)
        · rw [if_neg c5] at H
          have c5b0 : decide (x5_1 ≤ a1) = false := decide_eq_false c5
          clear c5
          obtain rfl := Option.some.inj H
          have hcz10_0 : wr.cell? ⟨gb112, 0, none⟩ = some (.int .i64 a0_0) := (blk_cell BK112.out 0).trans rfl
          have hcz10_1 : wr.cell? ⟨gb112, 1, none⟩ = some (.slice A0_1 l0_1.length c0_1) := (blk_cell BK112.out 1).trans rfl
          have hcz10_2 : wr.cell? ⟨gb112, 2, none⟩ = some (.int .i64 a0_2) := (blk_cell BK112.out 2).trans rfl
          have hcz10_3 : wr.cell? ⟨gb112, 3, none⟩ = some (.string a0_3) := (blk_cell BK112.out 3).trans rfl
          have hcz10_4 : wr.cell? ⟨gb112, 4, none⟩ = some (.int .i64 a0_4) := (blk_cell BK112.out 4).trans rfl
          have hcz10_5 : wr.cell? ⟨gb112, 5, none⟩ = some (.bool a0_5) := (blk_cell BK112.out 5).trans rfl
          have hcz10_6 : wr.cell? ⟨gb112, 6, none⟩ = some (.int .i64 a0_6) := (blk_cell BK112.out 6).trans rfl
          have hcz10_7 : wr.cell? ⟨gb112, 7, none⟩ = some (.string a0_7) := (blk_cell BK112.out 7).trans rfl
          have hcz10_8 : wr.cell? ⟨gb112, 8, none⟩ = some (.slice A0_8 l0_8.length c0_8) := (blk_cell BK112.out 8).trans rfl
          have hfz10_0 := blk_frozen BK112.out 0
          have hfz10_1 := blk_frozen BK112.out 1
          have hfz10_2 := blk_frozen BK112.out 2
          have hfz10_3 := blk_frozen BK112.out 3
          have hfz10_4 := blk_frozen BK112.out 4
          have hfz10_5 := blk_frozen BK112.out 5
          have hfz10_6 := blk_frozen BK112.out 6
          have hfz10_7 := blk_frozen BK112.out 7
          have hfz10_8 := blk_frozen BK112.out 8
          go_wp2
          go_ret
          exact ⟨by first | rfl | (simp [errW_none, errW_some] <;> rfl) | (simp [*, errW_none, errW_some] <;> rfl), by repeat (first | (with_reducible first | exact HB.out | apply below_alloc | apply pw_below_drewN | apply below_drew1 | refine below_set ?_ GE112.out) | exact HB.out)⟩
      · rw [if_neg c4] at H
        have c4b0 : decide (x6_1 < (l0_1.length : Int)) = false := decide_eq_false c4
        clear c4
        obtain rfl := Option.some.inj H
        have hcz11_0 : wr.cell? ⟨gb112, 0, none⟩ = some (.int .i64 a0_0) := (blk_cell BK112.out 0).trans rfl
        have hcz11_1 : wr.cell? ⟨gb112, 1, none⟩ = some (.slice A0_1 l0_1.length c0_1) := (blk_cell BK112.out 1).trans rfl
        have hcz11_2 : wr.cell? ⟨gb112, 2, none⟩ = some (.int .i64 a0_2) := (blk_cell BK112.out 2).trans rfl
        have hcz11_3 : wr.cell? ⟨gb112, 3, none⟩ = some (.string a0_3) := (blk_cell BK112.out 3).trans rfl
        have hcz11_4 : wr.cell? ⟨gb112, 4, none⟩ = some (.int .i64 a0_4) := (blk_cell BK112.out 4).trans rfl
        have hcz11_5 : wr.cell? ⟨gb112, 5, none⟩ = some (.bool a0_5) := (blk_cell BK112.out 5).trans rfl
        have hcz11_6 : wr.cell? ⟨gb112, 6, none⟩ = some (.int .i64 a0_6) := (blk_cell BK112.out 6).trans rfl
        have hcz11_7 : wr.cell? ⟨gb112, 7, none⟩ = some (.string a0_7) := (blk_cell BK112.out 7).trans rfl
        have hcz11_8 : wr.cell? ⟨gb112, 8, none⟩ = some (.slice A0_8 l0_8.length c0_8) := (blk_cell BK112.out 8).trans rfl
        have hfz11_0 := blk_frozen BK112.out 0
        have hfz11_1 := blk_frozen BK112.out 1
        have hfz11_2 := blk_frozen BK112.out 2
        have hfz11_3 := blk_frozen BK112.out 3
        have hfz11_4 := blk_frozen BK112.out 4
        have hfz11_5 := blk_frozen BK112.out 5
        have hfz11_6 := blk_frozen BK112.out 6
        have hfz11_7 := blk_frozen BK112.out 7
        have hfz11_8 := blk_frozen BK112.out 8
        go_wp2
        go_ret
        exact ⟨by first | rfl | (simp [errW_none, errW_some] <;> rfl) | (simp [*, errW_none, errW_some] <;> rfl), by repeat (first | (with_reducible first | exact HB.out | apply below_alloc | apply pw_below_drewN | apply below_drew1 | refine below_set ?_ GE112.out) | exact HB.out)⟩

end Go.Proofs.Ytjanfjdiikddaaa.QSafe
