/- Walk of the law ExprSums: every way through it. -/
import Derived.Test.YtjanfjdiikddaaaA4
import Derived.Lib.QuietBelow
import Derived.BigQuiet
namespace Go.Proofs.Ytjanfjdiikddaaa.S1
set_option linter.unusedVariables false
set_option linter.unusedSimpArgs false
open Go.RowKit Go.Sort Go.Proofs.Ytjanfjdiikddaaa.Base Go.Proofs.Ytjanfjdiikddaaa.A1 Go.Proofs.Ytjanfjdiikddaaa.Ar Go.Proofs.Ytjanfjdiikddaaa.A2 Go.Proofs.Ytjanfjdiikddaaa.A4

/-- block g holds a value without text and path -/
abbrev VC (w : World) (g : Nat) (k n : Int) : Prop :=
  w.cell? ⟨g, 0, none⟩ = some (.int .i64 k) ∧ w.cell? ⟨g, 1, none⟩ = some (.bool false) ∧ w.cell? ⟨g, 2, none⟩ = some (.int .i64 n) ∧ w.cell? ⟨g, 3, none⟩ = some (.string ⟨#[]⟩) ∧ w.cell? ⟨g, 4, none⟩ = some (.slice none 0 0) ∧ g < w.heap.size
theorem VC.past {W v : World} {g : Nat} {k n : Int} (hb : Below W.heap.size W v) (h : VC W g k n) : VC v g k n := by
  obtain ⟨x0, x1, x2, x3, x4, hl⟩ := h
  obtain ⟨hc, _⟩ := bcell hb
  have hs := hb.size
  refine ⟨?_, ?_, ?_, ?_, ?_, by omega⟩
  all_goals (rw [hc _ _ (by omega)]; assumption)
theorem VC.alloc {W : World} {g : Nat} {k n : Int} (h : VC W g k n) (o : Obj) : VC (W.alloc o) g k n := h.past (by go_grown)
theorem VC.drew {W : World} {g : Nat} {k n : Int} (h : VC W g k n) : VC W.drew g k n := h
theorem VC.regrown {W : World} {g : Nat} {k n : Int} (h : VC W g k n) (d : Nat) (os : Array Obj) : VC (grow (redrawn W d) os) g k n := h.past (below_regrown W d os)
theorem VC.new (W : World) (t : TypeId) (k n : Int) : VC (W.alloc (.cells #[.int .i64 k, .bool false, .int .i64 n, .string ⟨#[]⟩, .slice none 0 0] t)) W.heap.size k n := by
  have r := Row.new W t #[.int .i64 k, .bool false, .int .i64 n, .string ⟨#[]⟩, .slice none 0 0]
  exact ⟨r.cell 0, r.cell 1, r.cell 2, r.cell 3, r.cell 4, r.lt⟩

abbrev S3 (w : World) (gx gy g1 : Nat) (a b : Int) (w' : World) : Prop := VC w' gx 2 a ∧ VC w' gy 2 b ∧ VC w' g1 2 1 ∧ Below w.heap.size w w'
theorem S3.made (w w1 w2 : World) (t : TypeId) (a b : Int) (h1 : Below w.heap.size w w1)
    (h2 : Below ((((w1.alloc (.cells #[.int .i64 2, .bool false, .int .i64 a, .string ⟨#[]⟩, .slice none 0 0] t)).alloc (.cells #[.int .i64 2, .bool false, .int .i64 b, .string ⟨#[]⟩, .slice none 0 0] t)).alloc (.cells #[.int .i64 2, .bool false, .int .i64 1, .string ⟨#[]⟩, .slice none 0 0] t))).heap.size
      (((w1.alloc (.cells #[.int .i64 2, .bool false, .int .i64 a, .string ⟨#[]⟩, .slice none 0 0] t)).alloc (.cells #[.int .i64 2, .bool false, .int .i64 b, .string ⟨#[]⟩, .slice none 0 0] t)).alloc (.cells #[.int .i64 2, .bool false, .int .i64 1, .string ⟨#[]⟩, .slice none 0 0] t)) w2) :
    S3 w w1.heap.size (w1.heap.size + 1) (w1.heap.size + 1 + 1) a b w2 := by
  have h2y := VC.new (w1.alloc (.cells #[.int .i64 2, .bool false, .int .i64 a, .string ⟨#[]⟩, .slice none 0 0] t)) t 2 b
  have h3 := VC.new ((w1.alloc (.cells #[.int .i64 2, .bool false, .int .i64 a, .string ⟨#[]⟩, .slice none 0 0] t)).alloc (.cells #[.int .i64 2, .bool false, .int .i64 b, .string ⟨#[]⟩, .slice none 0 0] t)) t 2 1
  simp only [World.size_alloc] at h3 h2y
  refine ⟨((((VC.new w1 t 2 a).alloc _).alloc _).past h2), (h2y.alloc _).past h2, h3.past h2, bstep ?_ h2⟩
  go_grown
  all_goals (have := h1.size; simp only [World.size_alloc] at *; omega)
abbrev S4 (w : World) (gx gy g1 gs : Nat) (a b sk sn : Int) (w' : World) : Prop := VC w' gx 2 a ∧ VC w' gy 2 b ∧ VC w' g1 2 1 ∧ VC w' gs sk sn ∧ Below w.heap.size w w'
theorem S3.made4 {w w2 : World} {gx gy g1 : Nat} {a b : Int} (h : S3 w gx gy g1 a b w2) (t : TypeId) (sk sn : Int) :
    S4 w gx gy g1 w2.heap.size a b sk sn (w2.alloc (.cells #[.int .i64 sk, .bool false, .int .i64 sn, .string ⟨#[]⟩, .slice none 0 0] t)) :=
  ⟨h.1.alloc _, h.2.1.alloc _, h.2.2.1.alloc _, VC.new w2 t sk sn, h.2.2.2.alloc h.2.2.2.size _⟩
theorem S4.past {w W v : World} {gx gy g1 gs : Nat} {a b sk sn : Int} (hb : Below W.heap.size W v) (h : S4 w gx gy g1 gs a b sk sn W) : S4 w gx gy g1 gs a b sk sn v :=
  ⟨h.1.past hb, h.2.1.past hb, h.2.2.1.past hb, h.2.2.2.1.past hb, bstep h.2.2.2.2 hb⟩
theorem S4.drew {w W : World} {gx gy g1 gs : Nat} {a b sk sn : Int} (h : S4 w gx gy g1 gs a b sk sn W) : S4 w gx gy g1 gs a b sk sn W.drew :=
  ⟨h.1, h.2.1, h.2.2.1, h.2.2.2.1, h.2.2.2.2.drew⟩

abbrev S6 (w : World) (gx gy g1 gs gq gr : Nat) (a b sk sn qk qn rk rn : Int) (w' : World) : Prop := VC w' gx 2 a ∧ VC w' gy 2 b ∧ VC w' g1 2 1 ∧ VC w' gs sk sn ∧ VC w' gq qk qn ∧ VC w' gr rk rn ∧ Below w.heap.size w w'
theorem S4.made6 {w w2 w3 : World} {gx gy g1 gs : Nat} {a b sk sn : Int} (h : S4 w gx gy g1 gs a b sk sn w2) (t : TypeId) (qk qn rk rn : Int)
    (hb : Below (w2.alloc (.cells #[.int .i64 qk, .bool false, .int .i64 qn, .string ⟨#[]⟩, .slice none 0 0] t)).heap.size (w2.alloc (.cells #[.int .i64 qk, .bool false, .int .i64 qn, .string ⟨#[]⟩, .slice none 0 0] t)) w3) :
    S6 w gx gy g1 gs w2.heap.size w3.heap.size a b sk sn qk qn rk rn (w3.alloc (.cells #[.int .i64 rk, .bool false, .int .i64 rn, .string ⟨#[]⟩, .slice none 0 0] t)) :=
  ⟨((h.1.alloc _).past hb).alloc _, ((h.2.1.alloc _).past hb).alloc _, ((h.2.2.1.alloc _).past hb).alloc _, ((h.2.2.2.1.alloc _).past hb).alloc _, ((VC.new w2 t qk qn).past hb).alloc _, VC.new w3 t rk rn,
    (bstep (h.2.2.2.2.alloc h.2.2.2.2.size _) hb).alloc (bstep (h.2.2.2.2.alloc h.2.2.2.2.size _) hb).size _⟩
theorem S6.past {w W v : World} {gx gy g1 gs gq gr : Nat} {a b sk sn qk qn rk rn : Int} (hb : Below W.heap.size W v) (h : S6 w gx gy g1 gs gq gr a b sk sn qk qn rk rn W) : S6 w gx gy g1 gs gq gr a b sk sn qk qn rk rn v :=
  ⟨h.1.past hb, h.2.1.past hb, h.2.2.1.past hb, h.2.2.2.1.past hb, h.2.2.2.2.1.past hb, h.2.2.2.2.2.1.past hb, bstep h.2.2.2.2.2.2 hb⟩
theorem S6.drew {w W : World} {gx gy g1 gs gq gr : Nat} {a b sk sn qk qn rk rn : Int} (h : S6 w gx gy g1 gs gq gr a b sk sn qk qn rk rn W) : S6 w gx gy g1 gs gq gr a b sk sn qk qn rk rn W.drew :=
  ⟨h.1, h.2.1, h.2.2.1, h.2.2.2.1, h.2.2.2.2.1, h.2.2.2.2.2.1, h.2.2.2.2.2.2.drew⟩

theorem field0 (k n : Int) (b : Bool) (x : ByteArray) (p : Option Addr) (l c : Nat) (W : World) :
    (Instr.field 26 (.agg #[.int .i64 k, .bool b, .int .i64 n, .string x, .slice p l c]) 0).run Try.prog W = .ok (.int .i64 k) W := by
  kernel_rfl
theorem ari (op ka na kb nb : Int) (w : World) (a1 : -9223372036854775808 ≤ na) (a2 : na ≤ 9223372036854775807) (b1 : -9223372036854775808 ≤ nb) (b2 : nb ≤ 9223372036854775807) :
    Calls Try.prog 10 #[.int .i64 op, .agg #[.int .i64 ka, .bool false, .int .i64 na, .string ⟨#[]⟩, .slice none 0 0], .agg #[.int .i64 kb, .bool false, .int .i64 nb, .string ⟨#[]⟩, .slice none 0 0]] w
      fun e w' => e = .returned (.agg #[.int .i64 (ar op ka na kb nb).1, .bool false, .int .i64 (ar op ka na kb nb).2, .string ⟨#[]⟩, .slice none 0 0]) ∧ Below w.heap.size w w' := prog op ka na kb nb false false ⟨#[]⟩ ⟨#[]⟩ _ _ w a1 a2 b1 b2
theorem sam (k n k' n' : Int) (w : World) :
    Calls Try.prog 9 #[.agg #[.int .i64 k, .bool false, .int .i64 n, .string ⟨#[]⟩, .slice none 0 0], .agg #[.int .i64 k', .bool false, .int .i64 n', .string ⟨#[]⟩, .slice none 0 0]] w
      fun e w' => e = .returned (.bool (sm k n k' n')) ∧ Below w.heap.size w w' := same k n k' n' w

set_option maxHeartbeats 2000000 in
set_option maxRecDepth 100000 in
theorem way1 (a b : Int) (w : World) (a1 : -9223372036854775808 ≤ a) (a2 : a ≤ 9223372036854775807) (b1 : -9223372036854775808 ≤ b) (b2 : b ≤ 9223372036854775807)
    (sn qn rn : Int) (s1 : -9223372036854775808 ≤ sn) (s2 : sn ≤ 9223372036854775807) (q1 : -9223372036854775808 ≤ qn) (q2 : qn ≤ 9223372036854775807) (r1 : -9223372036854775808 ≤ rn) (r2 : rn ≤ 9223372036854775807)
    (hb0 : (b == 0) = false) (e1 : ar 12 2 a 2 b = (2, sn)) (e2 : ar 12 2 b 2 a = (2, sn)) (e3 : ar 13 2 sn 2 b = (2, a)) (e4 : ar 14 2 a 2 1 = (2, a)) (e5 : ar 15 2 a 2 0 = (7, 0)) (e6 : ar 15 2 a 2 b = (2, qn)) (e7 : ar 16 2 a 2 b = (2, rn)) (pn : Int) (p1 : -9223372036854775808 ≤ pn) (p2 : pn ≤ 9223372036854775807) (e8 : ar 14 2 qn 2 b = (2, pn)) (e9 : ar 12 2 pn 2 rn = (2, a)) :
    Calls Try.prog 5 #[.int .i64 a, .int .i64 b] w fun e w' => e = .returned (.bool true) ∧ Below w.heap.size w w' := by
  have hsm : ∀ k n : Int, sm k n k n = true := fun k n => by simp [sm]
  have hF := field0
  go_enter Try.func5, Try.ntmps5
  go_wp2_with fail
  refine (head _).mono ?_
  rintro e w1 ⟨rfl, hb1⟩
  go_wp2_with fail
  refine (ari _ _ _ _ _ _ (by omega) (by omega) (by omega) (by omega)).mono ?_
  rintro e w2 ⟨rfl, hb2⟩
  have V : ∃ gx gy g1, gx = w1.heap.size ∧ gy = w1.heap.size + 1 ∧ g1 = w1.heap.size + 1 + 1 ∧ S3 w gx gy g1 a b w2 := ⟨_, _, _, rfl, rfl, rfl, S3.made w w1 w2 26 a b hb1 hb2⟩
  obtain ⟨gx, gy, g1, ex, ey, e1', hS⟩ := V
  rw [← e1', ← ey, ← ex]
  clear ex ey e1' hb1 hb2
  go_wp2_with fail
  have hS4 := hS.made4 26 2 sn
  clear hS
  generalize w2.heap.size = gs at *
  generalize w2.alloc (.cells #[.int .i64 2, .bool false, .int .i64 sn, .string ⟨#[]⟩, .slice none 0 0] 26) = w3 at *
  have kx := fun d os => VC.regrown (hS4).1 d os
  have ky := fun d os => VC.regrown (hS4).2.1 d os
  have k1 := fun d os => VC.regrown (hS4).2.2.1 d os
  have ks := fun d os => VC.regrown (hS4).2.2.2.1 d os
  refine wp_region_quiet_below (by kernel_rfl) (by kernel_rfl) ?_
  repeat (first | go_big_quiet_step ((first
      | (go_at_call 10; exact Calls.regrown_of (ari _ _ _ _ _ _ (by first | omega | (simp only [e1, e2, e3, e4, e5, e6, e7, e8, e9]; omega)) (by first | omega | (simp only [e1, e2, e3, e4, e5, e6, e7, e8, e9]; omega)) (by first | omega | (simp only [e1, e2, e3, e4, e5, e6, e7, e8, e9]; omega)) (by first | omega | (simp only [e1, e2, e3, e4, e5, e6, e7, e8, e9]; omega))))
      | (go_at_call 9; exact Calls.regrown_of (sam _ _ _ _ _)))) | quiet_step (fail))
  refine wpQuiet_nil ?_
  intro _ hw'
  obtain ⟨⟨dq, osq⟩, hw''⟩ := hw'
  subst hw''
  clear kx ky k1 ks
  have hbq := below_regrown w3 dq osq
  generalize grow (redrawn w3 dq) osq = v1 at *
  have hN := (hS4).past hbq
  clear hS4 hbq
  have hS4 := hN
  clear hN
  go_wp2_with fail
  have kx := fun d os => VC.regrown (hS4).1 d os
  have ky := fun d os => VC.regrown (hS4).2.1 d os
  have k1 := fun d os => VC.regrown (hS4).2.2.1 d os
  have ks := fun d os => VC.regrown (hS4).2.2.2.1 d os
  refine wp_region_quiet_below (by kernel_rfl) (by kernel_rfl) ?_
  repeat (first | go_big_quiet_step ((first
      | (go_at_call 10; exact Calls.regrown_of (ari _ _ _ _ _ _ (by first | omega | (simp only [e1, e2, e3, e4, e5, e6, e7, e8, e9]; omega)) (by first | omega | (simp only [e1, e2, e3, e4, e5, e6, e7, e8, e9]; omega)) (by first | omega | (simp only [e1, e2, e3, e4, e5, e6, e7, e8, e9]; omega)) (by first | omega | (simp only [e1, e2, e3, e4, e5, e6, e7, e8, e9]; omega))))
      | (go_at_call 9; exact Calls.regrown_of (sam _ _ _ _ _)))) | quiet_step (fail))
  refine wpQuiet_nil ?_
  intro _ hw'
  obtain ⟨⟨dq, osq⟩, hw''⟩ := hw'
  subst hw''
  clear kx ky k1 ks
  have hbq := below_regrown v1 dq osq
  generalize grow (redrawn v1 dq) osq = v2 at *
  have hN := (hS4).past hbq
  clear hS4 hbq
  have hS4 := hN
  clear hN
  go_wp2_with fail
  have kx := fun d os => VC.regrown (hS4).1 d os
  have ky := fun d os => VC.regrown (hS4).2.1 d os
  have k1 := fun d os => VC.regrown (hS4).2.2.1 d os
  have ks := fun d os => VC.regrown (hS4).2.2.2.1 d os
  refine wp_region_quiet_below (by kernel_rfl) (by kernel_rfl) ?_
  repeat (first | go_big_quiet_step ((first
      | (go_at_call 10; exact Calls.regrown_of (ari _ _ _ _ _ _ (by first | omega | (simp only [e1, e2, e3, e4, e5, e6, e7, e8, e9]; omega)) (by first | omega | (simp only [e1, e2, e3, e4, e5, e6, e7, e8, e9]; omega)) (by first | omega | (simp only [e1, e2, e3, e4, e5, e6, e7, e8, e9]; omega)) (by first | omega | (simp only [e1, e2, e3, e4, e5, e6, e7, e8, e9]; omega))))
      | (go_at_call 9; exact Calls.regrown_of (sam _ _ _ _ _)))) | quiet_step (fail))
  refine wpQuiet_nil ?_
  intro _ hw'
  obtain ⟨⟨dq, osq⟩, hw''⟩ := hw'
  subst hw''
  clear kx ky k1 ks
  have hbq := below_regrown v2 dq osq
  generalize grow (redrawn v2 dq) osq = v3 at *
  have hN := (hS4).past hbq
  clear hS4 hbq
  have hS4 := hN
  clear hN
  have hS6 := hS4
  obtain ⟨⟨x0, x1, x2, x3, x4, x5⟩, ⟨y0, y1, y2, y3, y4, y5⟩, _⟩ := hS4
  go_wp2_with fail
  refine (ari _ _ _ _ _ _ (by omega) (by omega) (by omega) (by omega)).mono ?_
  rintro e w5 ⟨rfl, hb5⟩
  simp only [e1, e2, e3, e4, e5, e6, e7, e8, e9]
  clear x0 x1 x2 x3 x4 x5 y0 y1 y2 y3 y4 y5
  have hS7 := hS6.past hb5
  clear hS6 hb5
  have hS8 := hS7
  obtain ⟨⟨x0, x1, x2, x3, x4, x5⟩, ⟨y0, y1, y2, y3, y4, y5⟩, _⟩ := hS8
  go_wp2_with fail
  refine (ari _ _ _ _ _ _ (by omega) (by omega) (by omega) (by omega)).mono ?_
  rintro e w6 ⟨rfl, hb6⟩
  simp only [e1, e2, e3, e4, e5, e6, e7, e8, e9]
  clear x0 x1 x2 x3 x4 x5 y0 y1 y2 y3 y4 y5
  have hS9 := hS7.made6 26 2 qn 2 rn hb6
  obtain ⟨q0, q1, q2, q3, q4, q5⟩ := (VC.new w5 26 2 qn).past hb6
  clear hS7 hb6
  go_wp2_with fail
  generalize w5.heap.size = gq at *
  generalize w6.heap.size = gr at *
  generalize w6.alloc (.cells #[.int .i64 2, .bool false, .int .i64 rn, .string ⟨#[]⟩, .slice none 0 0] 26) = w7 at *
  have kx := fun d os => VC.regrown (hS9).1 d os
  have ky := fun d os => VC.regrown (hS9).2.1 d os
  have k1 := fun d os => VC.regrown (hS9).2.2.1 d os
  have ks := fun d os => VC.regrown (hS9).2.2.2.1 d os
  have kq := fun d os => VC.regrown (hS9).2.2.2.2.1 d os
  have kr := fun d os => VC.regrown (hS9).2.2.2.2.2.1 d os
  refine wp_region_quiet_below (by kernel_rfl) (by kernel_rfl) ?_
  repeat (first | go_big_quiet_step ((first
      | (go_at_call 10; exact Calls.regrown_of (ari _ _ _ _ _ _ (by first | omega | (simp only [e1, e2, e3, e4, e5, e6, e7, e8, e9]; omega)) (by first | omega | (simp only [e1, e2, e3, e4, e5, e6, e7, e8, e9]; omega)) (by first | omega | (simp only [e1, e2, e3, e4, e5, e6, e7, e8, e9]; omega)) (by first | omega | (simp only [e1, e2, e3, e4, e5, e6, e7, e8, e9]; omega))))
      | (go_at_call 9; exact Calls.regrown_of (sam _ _ _ _ _)))) | quiet_step (fail))
  refine wpQuiet_nil ?_
  intro _ hw'
  obtain ⟨⟨dq, osq⟩, hw''⟩ := hw'
  subst hw''
  clear kx ky k1 ks kq kr
  have hbq := below_regrown w7 dq osq
  generalize grow (redrawn w7 dq) osq = v4 at *
  have hN := (hS9).past hbq
  clear hS9 hbq
  have hS9 := hN
  clear hN
  go_wp2_with fail
  go_ret
  exact ⟨rfl, hS9.2.2.2.2.2.2⟩

set_option maxHeartbeats 2000000 in
set_option maxRecDepth 100000 in
theorem way2 (a b : Int) (w : World) (a1 : -9223372036854775808 ≤ a) (a2 : a ≤ 9223372036854775807) (b1 : -9223372036854775808 ≤ b) (b2 : b ≤ 9223372036854775807)
    (sn qn rn : Int) (s1 : -9223372036854775808 ≤ sn) (s2 : sn ≤ 9223372036854775807) (q1 : -9223372036854775808 ≤ qn) (q2 : qn ≤ 9223372036854775807) (r1 : -9223372036854775808 ≤ rn) (r2 : rn ≤ 9223372036854775807)
    (hb0 : (b == 0) = false) (e1 : ar 12 2 a 2 b = (7, 0)) (e2 : ar 12 2 b 2 a = (7, 0)) (e4 : ar 14 2 a 2 1 = (2, a)) (e5 : ar 15 2 a 2 0 = (7, 0)) (e6 : ar 15 2 a 2 b = (2, qn)) (e7 : ar 16 2 a 2 b = (2, rn)) (pn : Int) (p1 : -9223372036854775808 ≤ pn) (p2 : pn ≤ 9223372036854775807) (e8 : ar 14 2 qn 2 b = (2, pn)) (e9 : ar 12 2 pn 2 rn = (2, a)) :
    Calls Try.prog 5 #[.int .i64 a, .int .i64 b] w fun e w' => e = .returned (.bool true) ∧ Below w.heap.size w w' := by
  have hsm : ∀ k n : Int, sm k n k n = true := fun k n => by simp [sm]
  have hF := field0
  go_enter Try.func5, Try.ntmps5
  go_wp2_with fail
  refine (head _).mono ?_
  rintro e w1 ⟨rfl, hb1⟩
  go_wp2_with fail
  refine (ari _ _ _ _ _ _ (by omega) (by omega) (by omega) (by omega)).mono ?_
  rintro e w2 ⟨rfl, hb2⟩
  have V : ∃ gx gy g1, gx = w1.heap.size ∧ gy = w1.heap.size + 1 ∧ g1 = w1.heap.size + 1 + 1 ∧ S3 w gx gy g1 a b w2 := ⟨_, _, _, rfl, rfl, rfl, S3.made w w1 w2 26 a b hb1 hb2⟩
  obtain ⟨gx, gy, g1, ex, ey, e1', hS⟩ := V
  rw [← e1', ← ey, ← ex]
  clear ex ey e1' hb1 hb2
  go_wp2_with fail
  have hS4 := hS.made4 26 7 0
  clear hS
  generalize w2.heap.size = gs at *
  generalize w2.alloc (.cells #[.int .i64 7, .bool false, .int .i64 0, .string ⟨#[]⟩, .slice none 0 0] 26) = w3 at *
  have kx := fun d os => VC.regrown (hS4).1 d os
  have ky := fun d os => VC.regrown (hS4).2.1 d os
  have k1 := fun d os => VC.regrown (hS4).2.2.1 d os
  have ks := fun d os => VC.regrown (hS4).2.2.2.1 d os
  refine wp_region_quiet_below (by kernel_rfl) (by kernel_rfl) ?_
  repeat (first | go_big_quiet_step ((first
      | (go_at_call 10; exact Calls.regrown_of (ari _ _ _ _ _ _ (by first | omega | (simp only [e1, e2, e4, e5, e6, e7, e8, e9]; omega)) (by first | omega | (simp only [e1, e2, e4, e5, e6, e7, e8, e9]; omega)) (by first | omega | (simp only [e1, e2, e4, e5, e6, e7, e8, e9]; omega)) (by first | omega | (simp only [e1, e2, e4, e5, e6, e7, e8, e9]; omega))))
      | (go_at_call 9; exact Calls.regrown_of (sam _ _ _ _ _)))) | quiet_step (fail))
  refine wpQuiet_nil ?_
  intro _ hw'
  obtain ⟨⟨dq, osq⟩, hw''⟩ := hw'
  subst hw''
  clear kx ky k1 ks
  have hbq := below_regrown w3 dq osq
  generalize grow (redrawn w3 dq) osq = v5 at *
  have hN := (hS4).past hbq
  clear hS4 hbq
  have hS4 := hN
  clear hN
  go_wp2_with fail
  have kx := fun d os => VC.regrown (hS4).1 d os
  have ky := fun d os => VC.regrown (hS4).2.1 d os
  have k1 := fun d os => VC.regrown (hS4).2.2.1 d os
  have ks := fun d os => VC.regrown (hS4).2.2.2.1 d os
  refine wp_region_quiet_below (by kernel_rfl) (by kernel_rfl) ?_
  repeat (first | go_big_quiet_step ((first
      | (go_at_call 10; exact Calls.regrown_of (ari _ _ _ _ _ _ (by first | omega | (simp only [e1, e2, e4, e5, e6, e7, e8, e9]; omega)) (by first | omega | (simp only [e1, e2, e4, e5, e6, e7, e8, e9]; omega)) (by first | omega | (simp only [e1, e2, e4, e5, e6, e7, e8, e9]; omega)) (by first | omega | (simp only [e1, e2, e4, e5, e6, e7, e8, e9]; omega))))
      | (go_at_call 9; exact Calls.regrown_of (sam _ _ _ _ _)))) | quiet_step (fail))
  refine wpQuiet_nil ?_
  intro _ hw'
  obtain ⟨⟨dq, osq⟩, hw''⟩ := hw'
  subst hw''
  clear kx ky k1 ks
  have hbq := below_regrown v5 dq osq
  generalize grow (redrawn v5 dq) osq = v6 at *
  have hN := (hS4).past hbq
  clear hS4 hbq
  have hS4 := hN
  clear hN
  go_wp2_with fail
  have kx := fun d os => VC.regrown (hS4).1 d os
  have ky := fun d os => VC.regrown (hS4).2.1 d os
  have k1 := fun d os => VC.regrown (hS4).2.2.1 d os
  have ks := fun d os => VC.regrown (hS4).2.2.2.1 d os
  refine wp_region_quiet_below (by kernel_rfl) (by kernel_rfl) ?_
  repeat (first | go_big_quiet_step ((first
      | (go_at_call 10; exact Calls.regrown_of (ari _ _ _ _ _ _ (by first | omega | (simp only [e1, e2, e4, e5, e6, e7, e8, e9]; omega)) (by first | omega | (simp only [e1, e2, e4, e5, e6, e7, e8, e9]; omega)) (by first | omega | (simp only [e1, e2, e4, e5, e6, e7, e8, e9]; omega)) (by first | omega | (simp only [e1, e2, e4, e5, e6, e7, e8, e9]; omega))))
      | (go_at_call 9; exact Calls.regrown_of (sam _ _ _ _ _)))) | quiet_step (fail))
  refine wpQuiet_nil ?_
  intro _ hw'
  obtain ⟨⟨dq, osq⟩, hw''⟩ := hw'
  subst hw''
  clear kx ky k1 ks
  have hbq := below_regrown v6 dq osq
  generalize grow (redrawn v6 dq) osq = v7 at *
  have hN := (hS4).past hbq
  clear hS4 hbq
  have hS4 := hN
  clear hN
  have hS6 := hS4
  obtain ⟨⟨x0, x1, x2, x3, x4, x5⟩, ⟨y0, y1, y2, y3, y4, y5⟩, _⟩ := hS4
  go_wp2_with fail
  refine (ari _ _ _ _ _ _ (by omega) (by omega) (by omega) (by omega)).mono ?_
  rintro e w5 ⟨rfl, hb5⟩
  simp only [e1, e2, e4, e5, e6, e7, e8, e9]
  clear x0 x1 x2 x3 x4 x5 y0 y1 y2 y3 y4 y5
  have hS7 := hS6.past hb5
  clear hS6 hb5
  have hS8 := hS7
  obtain ⟨⟨x0, x1, x2, x3, x4, x5⟩, ⟨y0, y1, y2, y3, y4, y5⟩, _⟩ := hS8
  go_wp2_with fail
  refine (ari _ _ _ _ _ _ (by omega) (by omega) (by omega) (by omega)).mono ?_
  rintro e w6 ⟨rfl, hb6⟩
  simp only [e1, e2, e4, e5, e6, e7, e8, e9]
  clear x0 x1 x2 x3 x4 x5 y0 y1 y2 y3 y4 y5
  have hS9 := hS7.made6 26 2 qn 2 rn hb6
  obtain ⟨q0, q1, q2, q3, q4, q5⟩ := (VC.new w5 26 2 qn).past hb6
  clear hS7 hb6
  go_wp2_with fail
  generalize w5.heap.size = gq at *
  generalize w6.heap.size = gr at *
  generalize w6.alloc (.cells #[.int .i64 2, .bool false, .int .i64 rn, .string ⟨#[]⟩, .slice none 0 0] 26) = w7 at *
  have kx := fun d os => VC.regrown (hS9).1 d os
  have ky := fun d os => VC.regrown (hS9).2.1 d os
  have k1 := fun d os => VC.regrown (hS9).2.2.1 d os
  have ks := fun d os => VC.regrown (hS9).2.2.2.1 d os
  have kq := fun d os => VC.regrown (hS9).2.2.2.2.1 d os
  have kr := fun d os => VC.regrown (hS9).2.2.2.2.2.1 d os
  refine wp_region_quiet_below (by kernel_rfl) (by kernel_rfl) ?_
  repeat (first | go_big_quiet_step ((first
      | (go_at_call 10; exact Calls.regrown_of (ari _ _ _ _ _ _ (by first | omega | (simp only [e1, e2, e4, e5, e6, e7, e8, e9]; omega)) (by first | omega | (simp only [e1, e2, e4, e5, e6, e7, e8, e9]; omega)) (by first | omega | (simp only [e1, e2, e4, e5, e6, e7, e8, e9]; omega)) (by first | omega | (simp only [e1, e2, e4, e5, e6, e7, e8, e9]; omega))))
      | (go_at_call 9; exact Calls.regrown_of (sam _ _ _ _ _)))) | quiet_step (fail))
  refine wpQuiet_nil ?_
  intro _ hw'
  obtain ⟨⟨dq, osq⟩, hw''⟩ := hw'
  subst hw''
  clear kx ky k1 ks kq kr
  have hbq := below_regrown w7 dq osq
  generalize grow (redrawn w7 dq) osq = v8 at *
  have hN := (hS9).past hbq
  clear hS9 hbq
  have hS9 := hN
  clear hN
  go_wp2_with fail
  go_ret
  exact ⟨rfl, hS9.2.2.2.2.2.2⟩

set_option maxHeartbeats 2000000 in
set_option maxRecDepth 100000 in
theorem way3 (a b : Int) (w : World) (a1 : -9223372036854775808 ≤ a) (a2 : a ≤ 9223372036854775807) (b1 : -9223372036854775808 ≤ b) (b2 : b ≤ 9223372036854775807)
    (sn qn rn : Int) (s1 : -9223372036854775808 ≤ sn) (s2 : sn ≤ 9223372036854775807) (q1 : -9223372036854775808 ≤ qn) (q2 : qn ≤ 9223372036854775807) (r1 : -9223372036854775808 ≤ rn) (r2 : rn ≤ 9223372036854775807)
    (hb0 : (b == 0) = true) (e1 : ar 12 2 a 2 b = (2, sn)) (e2 : ar 12 2 b 2 a = (2, sn)) (e3 : ar 13 2 sn 2 b = (2, a)) (e4 : ar 14 2 a 2 1 = (2, a)) (e5 : ar 15 2 a 2 0 = (7, 0)) (e6 : ar 15 2 a 2 b = (7, 0)) (e7 : ar 16 2 a 2 b = (7, 0)) :
    Calls Try.prog 5 #[.int .i64 a, .int .i64 b] w fun e w' => e = .returned (.bool true) ∧ Below w.heap.size w w' := by
  have hsm : ∀ k n : Int, sm k n k n = true := fun k n => by simp [sm]
  have hF := field0
  go_enter Try.func5, Try.ntmps5
  go_wp2_with fail
  refine (head _).mono ?_
  rintro e w1 ⟨rfl, hb1⟩
  go_wp2_with fail
  refine (ari _ _ _ _ _ _ (by omega) (by omega) (by omega) (by omega)).mono ?_
  rintro e w2 ⟨rfl, hb2⟩
  have V : ∃ gx gy g1, gx = w1.heap.size ∧ gy = w1.heap.size + 1 ∧ g1 = w1.heap.size + 1 + 1 ∧ S3 w gx gy g1 a b w2 := ⟨_, _, _, rfl, rfl, rfl, S3.made w w1 w2 26 a b hb1 hb2⟩
  obtain ⟨gx, gy, g1, ex, ey, e1', hS⟩ := V
  rw [← e1', ← ey, ← ex]
  clear ex ey e1' hb1 hb2
  go_wp2_with fail
  have hS4 := hS.made4 26 2 sn
  clear hS
  generalize w2.heap.size = gs at *
  generalize w2.alloc (.cells #[.int .i64 2, .bool false, .int .i64 sn, .string ⟨#[]⟩, .slice none 0 0] 26) = w3 at *
  have kx := fun d os => VC.regrown (hS4).1 d os
  have ky := fun d os => VC.regrown (hS4).2.1 d os
  have k1 := fun d os => VC.regrown (hS4).2.2.1 d os
  have ks := fun d os => VC.regrown (hS4).2.2.2.1 d os
  refine wp_region_quiet_below (by kernel_rfl) (by kernel_rfl) ?_
  repeat (first | go_big_quiet_step ((first
      | (go_at_call 10; exact Calls.regrown_of (ari _ _ _ _ _ _ (by first | omega | (simp only [e1, e2, e3, e4, e5, e6, e7]; omega)) (by first | omega | (simp only [e1, e2, e3, e4, e5, e6, e7]; omega)) (by first | omega | (simp only [e1, e2, e3, e4, e5, e6, e7]; omega)) (by first | omega | (simp only [e1, e2, e3, e4, e5, e6, e7]; omega))))
      | (go_at_call 9; exact Calls.regrown_of (sam _ _ _ _ _)))) | quiet_step (fail))
  refine wpQuiet_nil ?_
  intro _ hw'
  obtain ⟨⟨dq, osq⟩, hw''⟩ := hw'
  subst hw''
  clear kx ky k1 ks
  have hbq := below_regrown w3 dq osq
  generalize grow (redrawn w3 dq) osq = v9 at *
  have hN := (hS4).past hbq
  clear hS4 hbq
  have hS4 := hN
  clear hN
  go_wp2_with fail
  have kx := fun d os => VC.regrown (hS4).1 d os
  have ky := fun d os => VC.regrown (hS4).2.1 d os
  have k1 := fun d os => VC.regrown (hS4).2.2.1 d os
  have ks := fun d os => VC.regrown (hS4).2.2.2.1 d os
  refine wp_region_quiet_below (by kernel_rfl) (by kernel_rfl) ?_
  repeat (first | go_big_quiet_step ((first
      | (go_at_call 10; exact Calls.regrown_of (ari _ _ _ _ _ _ (by first | omega | (simp only [e1, e2, e3, e4, e5, e6, e7]; omega)) (by first | omega | (simp only [e1, e2, e3, e4, e5, e6, e7]; omega)) (by first | omega | (simp only [e1, e2, e3, e4, e5, e6, e7]; omega)) (by first | omega | (simp only [e1, e2, e3, e4, e5, e6, e7]; omega))))
      | (go_at_call 9; exact Calls.regrown_of (sam _ _ _ _ _)))) | quiet_step (fail))
  refine wpQuiet_nil ?_
  intro _ hw'
  obtain ⟨⟨dq, osq⟩, hw''⟩ := hw'
  subst hw''
  clear kx ky k1 ks
  have hbq := below_regrown v9 dq osq
  generalize grow (redrawn v9 dq) osq = v10 at *
  have hN := (hS4).past hbq
  clear hS4 hbq
  have hS4 := hN
  clear hN
  go_wp2_with fail
  have kx := fun d os => VC.regrown (hS4).1 d os
  have ky := fun d os => VC.regrown (hS4).2.1 d os
  have k1 := fun d os => VC.regrown (hS4).2.2.1 d os
  have ks := fun d os => VC.regrown (hS4).2.2.2.1 d os
  refine wp_region_quiet_below (by kernel_rfl) (by kernel_rfl) ?_
  repeat (first | go_big_quiet_step ((first
      | (go_at_call 10; exact Calls.regrown_of (ari _ _ _ _ _ _ (by first | omega | (simp only [e1, e2, e3, e4, e5, e6, e7]; omega)) (by first | omega | (simp only [e1, e2, e3, e4, e5, e6, e7]; omega)) (by first | omega | (simp only [e1, e2, e3, e4, e5, e6, e7]; omega)) (by first | omega | (simp only [e1, e2, e3, e4, e5, e6, e7]; omega))))
      | (go_at_call 9; exact Calls.regrown_of (sam _ _ _ _ _)))) | quiet_step (fail))
  refine wpQuiet_nil ?_
  intro _ hw'
  obtain ⟨⟨dq, osq⟩, hw''⟩ := hw'
  subst hw''
  clear kx ky k1 ks
  have hbq := below_regrown v10 dq osq
  generalize grow (redrawn v10 dq) osq = v11 at *
  have hN := (hS4).past hbq
  clear hS4 hbq
  have hS4 := hN
  clear hN
  have hS6 := hS4
  obtain ⟨⟨x0, x1, x2, x3, x4, x5⟩, ⟨y0, y1, y2, y3, y4, y5⟩, _⟩ := hS4
  go_wp2_with fail
  refine (ari _ _ _ _ _ _ (by omega) (by omega) (by omega) (by omega)).mono ?_
  rintro e w5 ⟨rfl, hb5⟩
  simp only [e1, e2, e3, e4, e5, e6, e7]
  clear x0 x1 x2 x3 x4 x5 y0 y1 y2 y3 y4 y5
  have hS7 := hS6.past hb5
  clear hS6 hb5
  have hS8 := hS7
  obtain ⟨⟨x0, x1, x2, x3, x4, x5⟩, ⟨y0, y1, y2, y3, y4, y5⟩, _⟩ := hS8
  go_wp2_with fail
  refine (ari _ _ _ _ _ _ (by omega) (by omega) (by omega) (by omega)).mono ?_
  rintro e w6 ⟨rfl, hb6⟩
  simp only [e1, e2, e3, e4, e5, e6, e7]
  clear x0 x1 x2 x3 x4 x5 y0 y1 y2 y3 y4 y5
  have hS9 := hS7.made6 26 7 0 7 0 hb6
  obtain ⟨q0, q1, q2, q3, q4, q5⟩ := (VC.new w5 26 7 0).past hb6
  clear hS7 hb6
  go_wp2_with fail
  go_ret
  exact ⟨rfl, hS9.2.2.2.2.2.2⟩

set_option maxHeartbeats 2000000 in
set_option maxRecDepth 100000 in
theorem way4 (a b : Int) (w : World) (a1 : -9223372036854775808 ≤ a) (a2 : a ≤ 9223372036854775807) (b1 : -9223372036854775808 ≤ b) (b2 : b ≤ 9223372036854775807)
    (sn qn rn : Int) (s1 : -9223372036854775808 ≤ sn) (s2 : sn ≤ 9223372036854775807) (q1 : -9223372036854775808 ≤ qn) (q2 : qn ≤ 9223372036854775807) (r1 : -9223372036854775808 ≤ rn) (r2 : rn ≤ 9223372036854775807)
    (hb0 : (b == 0) = false) (ha1 : (a == -9223372036854775808) = true) (hb1 : (b == -1) = true) (e1 : ar 12 2 a 2 b = (7, 0)) (e2 : ar 12 2 b 2 a = (7, 0)) (e4 : ar 14 2 a 2 1 = (2, a)) (e5 : ar 15 2 a 2 0 = (7, 0)) (e6 : ar 15 2 a 2 b = (7, 0)) (e7 : ar 16 2 a 2 b = (2, 0)) :
    Calls Try.prog 5 #[.int .i64 a, .int .i64 b] w fun e w' => e = .returned (.bool true) ∧ Below w.heap.size w w' := by
  have hsm : ∀ k n : Int, sm k n k n = true := fun k n => by simp [sm]
  have hF := field0
  go_enter Try.func5, Try.ntmps5
  go_wp2_with fail
  refine (head _).mono ?_
  rintro e w1 ⟨rfl, hb1⟩
  go_wp2_with fail
  refine (ari _ _ _ _ _ _ (by omega) (by omega) (by omega) (by omega)).mono ?_
  rintro e w2 ⟨rfl, hb2⟩
  have V : ∃ gx gy g1, gx = w1.heap.size ∧ gy = w1.heap.size + 1 ∧ g1 = w1.heap.size + 1 + 1 ∧ S3 w gx gy g1 a b w2 := ⟨_, _, _, rfl, rfl, rfl, S3.made w w1 w2 26 a b hb1 hb2⟩
  obtain ⟨gx, gy, g1, ex, ey, e1', hS⟩ := V
  rw [← e1', ← ey, ← ex]
  clear ex ey e1' hb1 hb2
  go_wp2_with fail
  have hS4 := hS.made4 26 7 0
  clear hS
  generalize w2.heap.size = gs at *
  generalize w2.alloc (.cells #[.int .i64 7, .bool false, .int .i64 0, .string ⟨#[]⟩, .slice none 0 0] 26) = w3 at *
  have kx := fun d os => VC.regrown (hS4).1 d os
  have ky := fun d os => VC.regrown (hS4).2.1 d os
  have k1 := fun d os => VC.regrown (hS4).2.2.1 d os
  have ks := fun d os => VC.regrown (hS4).2.2.2.1 d os
  refine wp_region_quiet_below (by kernel_rfl) (by kernel_rfl) ?_
  repeat (first | go_big_quiet_step ((first
      | (go_at_call 10; exact Calls.regrown_of (ari _ _ _ _ _ _ (by first | omega | (simp only [e1, e2, e4, e5, e6, e7]; omega)) (by first | omega | (simp only [e1, e2, e4, e5, e6, e7]; omega)) (by first | omega | (simp only [e1, e2, e4, e5, e6, e7]; omega)) (by first | omega | (simp only [e1, e2, e4, e5, e6, e7]; omega))))
      | (go_at_call 9; exact Calls.regrown_of (sam _ _ _ _ _)))) | quiet_step (fail))
  refine wpQuiet_nil ?_
  intro _ hw'
  obtain ⟨⟨dq, osq⟩, hw''⟩ := hw'
  subst hw''
  clear kx ky k1 ks
  have hbq := below_regrown w3 dq osq
  generalize grow (redrawn w3 dq) osq = v12 at *
  have hN := (hS4).past hbq
  clear hS4 hbq
  have hS4 := hN
  clear hN
  go_wp2_with fail
  have kx := fun d os => VC.regrown (hS4).1 d os
  have ky := fun d os => VC.regrown (hS4).2.1 d os
  have k1 := fun d os => VC.regrown (hS4).2.2.1 d os
  have ks := fun d os => VC.regrown (hS4).2.2.2.1 d os
  refine wp_region_quiet_below (by kernel_rfl) (by kernel_rfl) ?_
  repeat (first | go_big_quiet_step ((first
      | (go_at_call 10; exact Calls.regrown_of (ari _ _ _ _ _ _ (by first | omega | (simp only [e1, e2, e4, e5, e6, e7]; omega)) (by first | omega | (simp only [e1, e2, e4, e5, e6, e7]; omega)) (by first | omega | (simp only [e1, e2, e4, e5, e6, e7]; omega)) (by first | omega | (simp only [e1, e2, e4, e5, e6, e7]; omega))))
      | (go_at_call 9; exact Calls.regrown_of (sam _ _ _ _ _)))) | quiet_step (fail))
  refine wpQuiet_nil ?_
  intro _ hw'
  obtain ⟨⟨dq, osq⟩, hw''⟩ := hw'
  subst hw''
  clear kx ky k1 ks
  have hbq := below_regrown v12 dq osq
  generalize grow (redrawn v12 dq) osq = v13 at *
  have hN := (hS4).past hbq
  clear hS4 hbq
  have hS4 := hN
  clear hN
  go_wp2_with fail
  have kx := fun d os => VC.regrown (hS4).1 d os
  have ky := fun d os => VC.regrown (hS4).2.1 d os
  have k1 := fun d os => VC.regrown (hS4).2.2.1 d os
  have ks := fun d os => VC.regrown (hS4).2.2.2.1 d os
  refine wp_region_quiet_below (by kernel_rfl) (by kernel_rfl) ?_
  repeat (first | go_big_quiet_step ((first
      | (go_at_call 10; exact Calls.regrown_of (ari _ _ _ _ _ _ (by first | omega | (simp only [e1, e2, e4, e5, e6, e7]; omega)) (by first | omega | (simp only [e1, e2, e4, e5, e6, e7]; omega)) (by first | omega | (simp only [e1, e2, e4, e5, e6, e7]; omega)) (by first | omega | (simp only [e1, e2, e4, e5, e6, e7]; omega))))
      | (go_at_call 9; exact Calls.regrown_of (sam _ _ _ _ _)))) | quiet_step (fail))
  refine wpQuiet_nil ?_
  intro _ hw'
  obtain ⟨⟨dq, osq⟩, hw''⟩ := hw'
  subst hw''
  clear kx ky k1 ks
  have hbq := below_regrown v13 dq osq
  generalize grow (redrawn v13 dq) osq = v14 at *
  have hN := (hS4).past hbq
  clear hS4 hbq
  have hS4 := hN
  clear hN
  have hS6 := hS4
  obtain ⟨⟨x0, x1, x2, x3, x4, x5⟩, ⟨y0, y1, y2, y3, y4, y5⟩, _⟩ := hS4
  go_wp2_with fail
  refine (ari _ _ _ _ _ _ (by omega) (by omega) (by omega) (by omega)).mono ?_
  rintro e w5 ⟨rfl, hb5⟩
  simp only [e1, e2, e4, e5, e6, e7]
  clear x0 x1 x2 x3 x4 x5 y0 y1 y2 y3 y4 y5
  have hS7 := hS6.past hb5
  clear hS6 hb5
  have hS8 := hS7
  obtain ⟨⟨x0, x1, x2, x3, x4, x5⟩, ⟨y0, y1, y2, y3, y4, y5⟩, _⟩ := hS8
  go_wp2_with fail
  refine (ari _ _ _ _ _ _ (by omega) (by omega) (by omega) (by omega)).mono ?_
  rintro e w6 ⟨rfl, hb6⟩
  simp only [e1, e2, e4, e5, e6, e7]
  clear x0 x1 x2 x3 x4 x5 y0 y1 y2 y3 y4 y5
  have hS9 := hS7.made6 26 7 0 2 0 hb6
  obtain ⟨q0, q1, q2, q3, q4, q5⟩ := (VC.new w5 26 7 0).past hb6
  clear hS7 hb6
  go_wp2_with fail
  go_ret
  exact ⟨rfl, hS9.2.2.2.2.2.2⟩

end Go.Proofs.Ytjanfjdiikddaaa.S1
