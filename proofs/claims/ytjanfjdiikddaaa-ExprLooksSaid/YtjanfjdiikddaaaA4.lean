/- Both Ariths come to 'ar' of kinds and numbers; the reference's Same on two values without text and path. -/
import Derived.Test.YtjanfjdiikddaaaA3
import Derived.LoopN
import Derived.Test.YtjanfjdiikddaaaBase
import Derived.Deep.RegionHeld3
namespace Go.Proofs.Ytjanfjdiikddaaa.A4
set_option linter.unusedVariables false
set_option linter.unusedSimpArgs false
open Go.RowKit Go.Proofs.Ytjanfjdiikddaaa.Base Go.Proofs.Ytjanfjdiikddaaa.A1 Go.Proofs.Ytjanfjdiikddaaa.Ar Go.Proofs.Ytjanfjdiikddaaa.A2

/-- how a value lies: its text and path whatever they are -/
abbrev vv (k : Int) (b : Bool) (n : Int) (t : ByteArray) (p : Value) : Value := .agg #[.int .i64 k, .bool b, .int .i64 n, .string t, p]

theorem beqf {a b : Int} (h : a ≠ b) : (a == b) = false := by simpa using h
theorem bnet {a b : Int} (h : a ≠ b) : (a != b) = true := by simpa using h

theorem prog (op ka na kb nb : Int) (ba bb : Bool) (ta tb : ByteArray) (pa pb : Value) (w : World)
    (a1 : -9223372036854775808 ≤ na) (a2 : na ≤ 9223372036854775807) (b1 : -9223372036854775808 ≤ nb) (b2 : nb ≤ 9223372036854775807) :
    Calls Try.prog 10 #[.int .i64 op, vv ka ba na ta pa, vv kb bb nb tb pb] w fun e w' => e = .returned (rv (ar op ka na kb nb).1 (ar op ka na kb nb).2) ∧ Below w.heap.size w w' := by
  unfold vv
  by_cases h1 : ka = 0
  · subst h1
    rw [show ar op 0 na kb nb = (0, 0) from by unfold ar; rw [if_pos (.inl rfl)]]
    exact A1.arith_null op na kb nb ba bb ta tb pa pb w
  by_cases h2 : kb = 0
  · subst h2
    rw [show ar op ka na 0 nb = (0, 0) from by unfold ar; rw [if_pos (.inr rfl)]]
    exact A1.arith_null2 op ka na nb ba bb ta tb pa pb w (beqf h1)
  by_cases h3 : ka = 2
  · subst h3
    by_cases h4 : kb = 2
    · subst h4
      rw [show ar op 2 na 2 nb = ar2 op na nb from by unfold ar; rw [if_neg (by omega), if_neg (by omega)]]
      by_cases o1 : op = 12
      · subst o1; exact A1.arith_add na nb ba bb ta tb pa pb w a1 a2 b1 b2
      by_cases o2 : op = 13
      · subst o2; exact A1.arith_sub na nb ba bb ta tb pa pb w a1 a2 b1 b2
      by_cases o3 : op = 14
      · subst o3; exact A1.arith_mul na nb ba bb ta tb pa pb w a1 a2 b1 b2
      by_cases o4 : op = 15
      · subst o4
        by_cases hz : nb = 0
        · subst hz
          exact A1.arith_div0 na ba bb ta tb pa pb w
        · rw [show ar2 15 na nb = fit (na.tdiv nb) from by simp [ar2, hz]]
          exact A1.arith_div na nb ba bb ta tb pa pb w a1 a2 b1 b2 (beqf hz) hz
      by_cases o5 : op = 16
      · subst o5
        by_cases hz : nb = 0
        · subst hz
          exact A1.arith_rest0 na ba bb ta tb pa pb w
        · rw [show ar2 16 na nb = (2, na.tmod nb) from by simp [ar2, hz]]
          exact A1.arith_rest na nb ba bb ta tb pa pb w a1 a2 b1 b2 (beqf hz) hz
      · rw [show ar2 op na nb = (7, 0) from by simp [ar2, o1, o2, o3, o4, o5]]
        exact A1.arith_other op na nb ba bb ta tb pa pb w (beqf o1) (beqf o2) (beqf o3) (beqf o4) (beqf o5)
    · rw [show ar op 2 na kb nb = (7, 0) from by unfold ar; rw [if_neg (by omega), if_pos (by omega)]]
      exact A1.arith_no2 op na kb nb ba bb ta tb pa pb w (beqf h2) (bnet h4)
  · rw [show ar op ka na kb nb = (7, 0) from by unfold ar; rw [if_neg (by omega), if_pos (by omega)]]
    exact A1.arith_no op ka na kb nb ba bb ta tb pa pb w (beqf h1) (beqf h2) (bnet h3)

theorem ref (op ka na kb nb : Int) (ba bb : Bool) (ta tb : ByteArray) (pa pb : Value) (w : World)
    (a1 : -9223372036854775808 ≤ na) (a2 : na ≤ 9223372036854775807) (b1 : -9223372036854775808 ≤ nb) (b2 : nb ≤ 9223372036854775807) :
    Calls Try.prog 11 #[.int .i64 op, vv ka ba na ta pa, vv kb bb nb tb pb] w fun e w' => e = .returned (rv (ar op ka na kb nb).1 (ar op ka na kb nb).2) ∧ Below w.heap.size w w' := by
  unfold vv
  by_cases h1 : ka = 0
  · subst h1
    rw [show ar op 0 na kb nb = (0, 0) from by unfold ar; rw [if_pos (.inl rfl)]]
    exact A3.arith_null op na kb nb ba bb ta tb pa pb w
  by_cases h2 : kb = 0
  · subst h2
    rw [show ar op ka na 0 nb = (0, 0) from by unfold ar; rw [if_pos (.inr rfl)]]
    exact A3.arith_null2 op ka na nb ba bb ta tb pa pb w (beqf h1)
  by_cases h3 : ka = 2
  · subst h3
    by_cases h4 : kb = 2
    · subst h4
      rw [show ar op 2 na 2 nb = ar2 op na nb from by unfold ar; rw [if_neg (by omega), if_neg (by omega)]]
      by_cases o1 : op = 12
      · subst o1; exact A3.arith_add na nb ba bb ta tb pa pb w a1 a2 b1 b2
      by_cases o2 : op = 13
      · subst o2
        rw [show ar2 13 na nb = fit (na - nb) from rfl]
        by_cases hm : nb = -9223372036854775808
        · subst hm
          by_cases hn : na < 0
          · exact A3.arith_sub1 na ba bb ta tb pa pb w a1 a2 hn
          · exact A3.arith_sub2 na ba bb ta tb pa pb w a1 a2 (by omega)
        · rw [Int.sub_eq_add_neg]
          exact A3.arith_sub na nb ba bb ta tb pa pb w a1 a2 (by omega) b2 (beqf hm)
      by_cases o3 : op = 14
      · subst o3; exact A3.arith_mul na nb ba bb ta tb pa pb w a1 a2 b1 b2
      by_cases o4 : op = 15
      · subst o4
        by_cases hz : nb = 0
        · subst hz
          exact A3.arith_div0 na ba bb ta tb pa pb w
        · rw [show ar2 15 na nb = fit (na.tdiv nb) from by simp [ar2, hz]]
          by_cases hm : nb = -1
          · subst hm
            by_cases hn : na = -9223372036854775808
            · subst hn
              rw [A3.div_edge]
              exact A3.arith_div2 0 ba bb ta tb pa pb w
            · exact A3.arith_div1 na ba bb ta tb pa pb w (by omega) a2 (beqf hn)
          · exact A3.arith_div na nb ba bb ta tb pa pb w a1 a2 (beqf hz) hz (beqf hm) hm (bnet hz)
      by_cases o5 : op = 16
      · subst o5
        by_cases hz : nb = 0
        · subst hz
          exact A3.arith_rest0 na ba bb ta tb pa pb w
        · rw [show ar2 16 na nb = (2, na.tmod nb) from by simp [ar2, hz]]
          by_cases hm : nb = -1
          · subst hm
            rw [show na.tmod (-1) = 0 from by rw [Int.tmod_neg, Int.tmod_one]]
            exact A3.arith_rest1 na ba bb ta tb pa pb w
          · exact A3.arith_rest na nb ba bb ta tb pa pb w (beqf hz) hz (beqf hm) hm (bnet hz) (bnet hm)
      · rw [show ar2 op na nb = (7, 0) from by simp [ar2, o1, o2, o3, o4, o5]]
        exact A3.arith_other op na nb ba bb ta tb pa pb w (beqf o1) (beqf o2) (beqf o3) (beqf o4) (beqf o5)
    · rw [show ar op 2 na kb nb = (7, 0) from by unfold ar; rw [if_neg (by omega), if_pos (by omega)]]
      exact A3.arith_no2 op na kb nb ba bb ta tb pa pb w (beqf h2) (bnet h4)
  · rw [show ar op ka na kb nb = (7, 0) from by unfold ar; rw [if_neg (by omega), if_pos (by omega)]]
    exact A3.arith_no op ka na kb nb ba bb ta tb pa pb w (beqf h1) (beqf h2) (bnet h3)

/-- alike, for values without text and path -/
def sm (k n k' n' : Int) : Bool := k == k' && n == n'
set_option maxHeartbeats 400000 in
theorem same (k n k' n' : Int) (w : World) :
    Calls Try.prog 9 #[rv k n, rv k' n'] w fun e w' => e = .returned (.bool (sm k n k' n')) ∧ Below w.heap.size w w' := by
  unfold rv
  go_enter Try.func9, Try.ntmps9
  go_wp2
  go_rounds 1
  · have h1 : k = k' := by assumption
    have h2 : n = n' := by assumption
    subst h1 h2
    go_ret
    exact ⟨by simp [sm], by go_grown⟩
  · have h1 : k = k' := by assumption
    have h2 : ¬ n = n' := by assumption
    have e : sm k n k' n' = false := by simp [sm, h2]
    rw [e]
    go_ret
    exact ⟨rfl, by go_grown⟩
  · have h2 : ¬ k = k' := by assumption
    have e : sm k n k' n' = false := by simp [sm, h2]
    rw [e]
    go_ret
    exact ⟨rfl, by go_grown⟩

set_option maxHeartbeats 400000 in
theorem safe_var (w : World) :
    Calls Try.prog 13 #[.agg #[.int .i64 2, .slice none 0 0, .int .i64 0, .string ⟨#[]⟩, .int .i64 0, .bool false, .int .i64 0, .string ⟨#[]⟩, .slice none 0 0]] w fun e w' => e = .returned (.bool true) ∧ Below w.heap.size w w' := by
  go_enter Try.func13, Try.ntmps13
  go_wp2
  go_rounds 1
  go_ret
  exact ⟨rfl, by go_grown⟩

theorem div_7 (w : World) : Calls Try.prog 10 #[.int .i64 15, .agg #[.int .i64 2, .bool false, .int .i64 7, .string ⟨#[]⟩, .slice none 0 0], .agg #[.int .i64 2, .bool false, .int .i64 (-2), .string ⟨#[]⟩, .slice none 0 0]] w
    fun e w' => e = .returned (.agg #[.int .i64 2, .bool false, .int .i64 (-3), .string ⟨#[]⟩, .slice none 0 0]) ∧ Below w.heap.size w w' := by
  have c := prog 15 2 7 2 (-2) false false ⟨#[]⟩ ⟨#[]⟩ (.slice none 0 0) (.slice none 0 0) w (by omega) (by omega) (by omega) (by omega)
  rw [show ar 15 2 7 2 (-2) = (2, -3) from by decide] at c
  exact c
set_option maxHeartbeats 400000 in
theorem head (w : World) : Calls Try.prog 8 #[] w fun e w' => e = .returned (.bool true) ∧ Below w.heap.size w w' := by
  go_enter Try.func8, Try.ntmps8
  go_wp2_with fail
  refine (div_7 _).mono ?_
  rintro e w1 ⟨rfl, hb1⟩
  go_wp2_with fail
  refine (safe_var _).mono ?_
  rintro e w2 ⟨rfl, hb2⟩
  go_wp2_with fail
  go_ret
  refine ⟨rfl, ?_⟩
  exact bstep (by go_grown; exact hb1.size) hb2

/-- two boxes of values stand, and nothing that was before them has turned -/
abbrev Two (w : World) (ka na kb nb : Int) (ba bb : Bool) (ta tb : ByteArray) (pa pb : Value) (w' : World) : Prop :=
  (w'.cell? ⟨w.heap.size, 0, none⟩ = some (.int .i64 ka) ∧ w'.cell? ⟨w.heap.size, 1, none⟩ = some (.bool ba) ∧ w'.cell? ⟨w.heap.size, 2, none⟩ = some (.int .i64 na) ∧ w'.cell? ⟨w.heap.size, 3, none⟩ = some (.string ta) ∧ w'.cell? ⟨w.heap.size, 4, none⟩ = some pa) ∧
  (w'.cell? ⟨w.heap.size + 1, 0, none⟩ = some (.int .i64 kb) ∧ w'.cell? ⟨w.heap.size + 1, 1, none⟩ = some (.bool bb) ∧ w'.cell? ⟨w.heap.size + 1, 2, none⟩ = some (.int .i64 nb) ∧ w'.cell? ⟨w.heap.size + 1, 3, none⟩ = some (.string tb) ∧ w'.cell? ⟨w.heap.size + 1, 4, none⟩ = some pb) ∧
  w.heap.size + 1 < w'.heap.size ∧ Below w.heap.size w w'
theorem Two.past {w : World} {ka na kb nb : Int} {ba bb : Bool} {ta tb : ByteArray} {pa pb : Value} {W v : World} (hb : Below W.heap.size W v) (h : Two w ka na kb nb ba bb ta tb pa pb W) : Two w ka na kb nb ba bb ta tb pa pb v := by
  obtain ⟨⟨x0, x1, x2, x3, x4⟩, ⟨y0, y1, y2, y3, y4⟩, hz, hw⟩ := h
  obtain ⟨hc, _⟩ := bcell hb
  have hs := hb.size
  refine ⟨⟨?_, ?_, ?_, ?_, ?_⟩, ⟨?_, ?_, ?_, ?_, ?_⟩, by omega, hw.trans (hb.mono (by omega))⟩
  all_goals (rw [hc _ _ (by omega)]; assumption)
theorem Two.drew {w : World} {ka na kb nb : Int} {ba bb : Bool} {ta tb : ByteArray} {pa pb : Value} {W : World} (h : Two w ka na kb nb ba bb ta tb pa pb W) : Two w ka na kb nb ba bb ta tb pa pb W.drew :=
  ⟨h.1, h.2.1, h.2.2.1, h.2.2.2.drew⟩
theorem Two.made (w : World) (t : TypeId) (ka na kb nb : Int) (ba bb : Bool) (ta tb : ByteArray) (pa pb : Value) {v : World}
    (hb : Below ((w.alloc (.cells #[.int .i64 ka, .bool ba, .int .i64 na, .string ta, pa] t)).alloc (.cells #[.int .i64 kb, .bool bb, .int .i64 nb, .string tb, pb] t)).heap.size ((w.alloc (.cells #[.int .i64 ka, .bool ba, .int .i64 na, .string ta, pa] t)).alloc (.cells #[.int .i64 kb, .bool bb, .int .i64 nb, .string tb, pb] t)) v) :
    Two w ka na kb nb ba bb ta tb pa pb v := by
  have r1 := ((Row.new w t #[.int .i64 ka, .bool ba, .int .i64 na, .string ta, pa]).alloc (.cells #[.int .i64 kb, .bool bb, .int .i64 nb, .string tb, pb] t)).past hb
  have r2 := (Row.new (w.alloc (.cells #[.int .i64 ka, .bool ba, .int .i64 na, .string ta, pa] t)) t #[.int .i64 kb, .bool bb, .int .i64 nb, .string tb, pb]).past hb
  simp only [World.size_alloc] at r2
  refine ⟨⟨r1.cell 0, r1.cell 1, r1.cell 2, r1.cell 3, r1.cell 4⟩, ⟨r2.cell 0, r2.cell 1, r2.cell 2, r2.cell 3, r2.cell 4⟩, r2.lt, Below.trans ?_ (hb.mono (by simp; omega))⟩
  go_grown

/- the laws' walks -/
set_option maxHeartbeats 1000000 in
theorem arith_law (op ka na kb nb : Int) (ba bb : Bool) (ta tb : ByteArray) (pa pb : Option Addr) (la ca lb cb : Nat) (w : World)
    (a1 : -9223372036854775808 ≤ na) (a2 : na ≤ 9223372036854775807) (b1 : -9223372036854775808 ≤ nb) (b2 : nb ≤ 9223372036854775807) :
    Calls Try.prog 3 #[.int .i64 op, vv ka ba na ta (.slice pa la ca), vv kb bb nb tb (.slice pb lb cb)] w fun e w' => e = .returned (.bool true) ∧ Below w.heap.size w w' := by
  unfold vv
  go_enter Try.func3, Try.ntmps3
  go_wp2_with fail
  refine (head _).mono ?_
  rintro e w1 ⟨rfl, hb1⟩
  have S0 := Two.made w 26 ka na kb nb ba bb ta tb (.slice pa la ca) (.slice pb lb cb) hb1
  clear hb1
  have S1 := S0
  obtain ⟨⟨x0, x1, x2, x3, x4⟩, ⟨y0, y1, y2, y3, y4⟩, hz, hw⟩ := S1
  have hsm : ∀ k n : Int, sm k n k n = true := fun k n => by simp [sm]
  go_wp2_with fail
  go_region_held3 (fun w' => (w'.cell? ⟨w.heap.size, 0, none⟩ = some (.int .i64 ka) ∧ w'.cell? ⟨w.heap.size, 1, none⟩ = some (.bool ba) ∧ w'.cell? ⟨w.heap.size, 2, none⟩ = some (.int .i64 na) ∧ w'.cell? ⟨w.heap.size, 3, none⟩ = some (.string ta) ∧ w'.cell? ⟨w.heap.size, 4, none⟩ = some (.slice pa la ca)) ∧
      (w'.cell? ⟨w.heap.size + 1, 0, none⟩ = some (.int .i64 kb) ∧ w'.cell? ⟨w.heap.size + 1, 1, none⟩ = some (.bool bb) ∧ w'.cell? ⟨w.heap.size + 1, 2, none⟩ = some (.int .i64 nb) ∧ w'.cell? ⟨w.heap.size + 1, 3, none⟩ = some (.string tb) ∧ w'.cell? ⟨w.heap.size + 1, 4, none⟩ = some (.slice pb lb cb)) ∧
      w.heap.size + 1 < w'.heap.size ∧ Below w.heap.size w w') (first | exact Two.drew S0 | exact Two.past (by assumption) (by assumption))
    (first
      | (go_at_call 10; refine (prog op ka na kb nb ba bb ta tb _ _ _ a1 a2 b1 b2).mono ?_; rintro e w2 ⟨rfl, hb2⟩)
      | (go_at_call 11; refine (ref op ka na kb nb ba bb ta tb _ _ _ a1 a2 b1 b2).mono ?_; rintro e w3 ⟨rfl, hb3⟩)
      | (go_at_call 9; refine (same _ _ _ _ _).mono ?_; rintro e w4 ⟨rfl, hb4⟩))
  go_wp2_with fail
  go_ret
  refine ⟨rfl, ?_⟩
  exact (show Two w ka na kb nb ba bb ta tb (.slice pa la ca) (.slice pb lb cb) _ by assumption).2.2.2
end Go.Proofs.Ytjanfjdiikddaaa.A4
