-- written by hyprint.py, this session's program over the kit's print
import Derived.Test.YtjanfjdiikddaaaQSafex0
import Derived.Test.YtjanfjdiikddaaaQSafex4
namespace Go.Proofs.Ytjanfjdiikddaaa.QSafe
open Go.RowKit Go.Proofs.YtjanfjdiikddaaaW.PrintWords Go.Proofs.YtjanfjdiikddaaaW.PrintLast Go.Proofs.YtjanfjdiikddaaaW.PrintMore
attribute [local go_sem] max2_int min2_int max_two min_two max_three min_three max_four min_four   -- for this text's walks alone
set_option linter.unusedVariables false
set_option linter.unusedSimpArgs false

/-! ### portolanref11_Slots: function 17 -/
mutual
def portolanref11_Slots.j0 : Nat → List Int → Bool → Int → List (S33) → Int → ByteArray → Int → Bool → Int → ByteArray → List Int → Option (List Int)
  | 0, _, _, _, _, _, _, _, _, _, _, _ => none
  | k + 1, x3, x12, x153000, x153001, x153002, x153003, x153004, x153005, x153006, x153007, x153008 => if x12 = true then (portolanref11_Slots.j1 k (([x153002] : List Int)) x153000 x153001 x153002 x153003 x153004 x153005 x153006 x153007 x153008) else (portolanref11_Slots.j1 k x3 x153000 x153001 x153002 x153003 x153004 x153005 x153006 x153007 x153008)
def portolanref11_Slots.j1 : Nat → List Int → Int → List (S33) → Int → ByteArray → Int → Bool → Int → ByteArray → List Int → Option (List Int)
  | 0, _, _, _, _, _, _, _, _, _, _ => none
  | k + 1, x3, x153000, x153001, x153002, x153003, x153004, x153005, x153006, x153007, x153008 => portolanref11_Slots.l0 k x3 0 x153000 x153001 x153002 x153003 x153004 x153005 x153006 x153007 x153008
def portolanref11_Slots.l0 : Nat → List Int → Int → Int → List (S33) → Int → ByteArray → Int → Bool → Int → ByteArray → List Int → Option (List Int)
  | 0, _, _, _, _, _, _, _, _, _, _, _ => none
  | k + 1, x3, x4, x153000, x153001, x153002, x153003, x153004, x153005, x153006, x153007, x153008 => if x4 < (x153001.length : Int) then (if 0 ≤ x4 then ((portolanref11_Slots.f k ((rd_T33 x153001 x4).f0) ((rd_T33 x153001 x4).f1) ((rd_T33 x153001 x4).f2) ((rd_T33 x153001 x4).f3) ((rd_T33 x153001 x4).f4.f0) ((rd_T33 x153001 x4).f4.f1) ((rd_T33 x153001 x4).f4.f2) ((rd_T33 x153001 x4).f4.f3) ((rd_T33 x153001 x4).f4.f4)).bind fun t157 => ((portolanref11_Union.f k x3 t157).bind fun t160 => (portolanref11_Slots.l0 k t160 (wrap64 (x4 + 1)) x153000 x153001 x153002 x153003 x153004 x153005 x153006 x153007 x153008))) else (none)) else (some x3)
def portolanref11_Slots.f : Nat → Int → List (S33) → Int → ByteArray → Int → Bool → Int → ByteArray → List Int → Option (List Int)
  | 0, _, _, _, _, _, _, _, _, _ => none
  | k + 1, a0_0, l0_1, a0_2, a0_3, a0_4, a0_5, a0_6, a0_7, l0_8 => if a0_0 = 2 then (portolanref11_Slots.j0 k ([] : List Int) true a0_0 l0_1 a0_2 a0_3 a0_4 a0_5 a0_6 a0_7 l0_8) else (portolanref11_Slots.j0 k ([] : List Int) (a0_0 == 3) a0_0 l0_1 a0_2 a0_3 a0_4 a0_5 a0_6 a0_7 l0_8)
end
theorem portolanref11_Slots.mono_l : ∀ k, (∀ y0 y1 y2 y3 y4 y5 y6 y7 y8, LeO (portolanref11_Slots.f k y0 y1 y2 y3 y4 y5 y6 y7 y8) (portolanref11_Slots.f (k + 1) y0 y1 y2 y3 y4 y5 y6 y7 y8)) ∧ (∀ y0 y1 y2 y3 y4 y5 y6 y7 y8 y9 y10, LeO (portolanref11_Slots.j0 k y0 y1 y2 y3 y4 y5 y6 y7 y8 y9 y10) (portolanref11_Slots.j0 (k + 1) y0 y1 y2 y3 y4 y5 y6 y7 y8 y9 y10)) ∧ (∀ y0 y1 y2 y3 y4 y5 y6 y7 y8 y9, LeO (portolanref11_Slots.j1 k y0 y1 y2 y3 y4 y5 y6 y7 y8 y9) (portolanref11_Slots.j1 (k + 1) y0 y1 y2 y3 y4 y5 y6 y7 y8 y9)) ∧ (∀ y0 y1 y2 y3 y4 y5 y6 y7 y8 y9 y10, LeO (portolanref11_Slots.l0 k y0 y1 y2 y3 y4 y5 y6 y7 y8 y9 y10) (portolanref11_Slots.l0 (k + 1) y0 y1 y2 y3 y4 y5 y6 y7 y8 y9 y10))
  | 0 => ⟨fun _ _ _ _ _ _ _ _ _ r h => by simp [portolanref11_Slots.f] at h, fun _ _ _ _ _ _ _ _ _ _ _ r h => by simp [portolanref11_Slots.j0] at h, fun _ _ _ _ _ _ _ _ _ _ r h => by simp [portolanref11_Slots.j1] at h, fun _ _ _ _ _ _ _ _ _ _ _ r h => by simp [portolanref11_Slots.l0] at h⟩
  | k + 1 => by
    obtain ⟨ih0, ih1, ih2, ih3⟩ := portolanref11_Slots.mono_l k
    refine ⟨?_, ?_, ?_, ?_⟩
    · intro y0 y1 y2 y3 y4 y5 y6 y7 y8
      unfold portolanref11_Slots.f
      repeat' first
      | (with_reducible exact ih0 _ _ _ _ _ _ _ _ _)
      | (with_reducible exact ih1 _ _ _ _ _ _ _ _ _ _ _)
      | (with_reducible exact ih2 _ _ _ _ _ _ _ _ _ _)
      | (with_reducible exact ih3 _ _ _ _ _ _ _ _ _ _ _)
      | (with_reducible exact portolanref11_Union.mono _ _ _)
      | (with_reducible exact LeO.refl _)
      | (with_reducible exact LeO.none _)
      | (with_reducible refine LeO.ite ?_ ?_)
      | (with_reducible refine LeO.bind ?_ (fun _ => ?_))
      | exact ih0 _ _ _ _ _ _ _ _ _
      | exact ih1 _ _ _ _ _ _ _ _ _ _ _
      | exact ih2 _ _ _ _ _ _ _ _ _ _
      | exact ih3 _ _ _ _ _ _ _ _ _ _ _
      | exact portolanref11_Union.mono _ _ _
      | exact LeO.none _
      | refine LeO.ite ?_ ?_
      | refine LeO.bind ?_ (fun _ => ?_)
    · intro y0 y1 y2 y3 y4 y5 y6 y7 y8 y9 y10
      unfold portolanref11_Slots.j0
      repeat' first
      | (with_reducible exact ih0 _ _ _ _ _ _ _ _ _)
      | (with_reducible exact ih1 _ _ _ _ _ _ _ _ _ _ _)
      | (with_reducible exact ih2 _ _ _ _ _ _ _ _ _ _)
      | (with_reducible exact ih3 _ _ _ _ _ _ _ _ _ _ _)
      | (with_reducible exact portolanref11_Union.mono _ _ _)
      | (with_reducible exact LeO.refl _)
      | (with_reducible exact LeO.none _)
      | (with_reducible refine LeO.ite ?_ ?_)
      | (with_reducible refine LeO.bind ?_ (fun _ => ?_))
      | exact ih0 _ _ _ _ _ _ _ _ _
      | exact ih1 _ _ _ _ _ _ _ _ _ _ _
      | exact ih2 _ _ _ _ _ _ _ _ _ _
      | exact ih3 _ _ _ _ _ _ _ _ _ _ _
      | exact portolanref11_Union.mono _ _ _
      | exact LeO.none _
      | refine LeO.ite ?_ ?_
      | refine LeO.bind ?_ (fun _ => ?_)
    · intro y0 y1 y2 y3 y4 y5 y6 y7 y8 y9
      unfold portolanref11_Slots.j1
      repeat' first
      | (with_reducible exact ih0 _ _ _ _ _ _ _ _ _)
      | (with_reducible exact ih1 _ _ _ _ _ _ _ _ _ _ _)
      | (with_reducible exact ih2 _ _ _ _ _ _ _ _ _ _)
      | (with_reducible exact ih3 _ _ _ _ _ _ _ _ _ _ _)
      | (with_reducible exact portolanref11_Union.mono _ _ _)
      | (with_reducible exact LeO.refl _)
      | (with_reducible exact LeO.none _)
      | (with_reducible refine LeO.ite ?_ ?_)
      | (with_reducible refine LeO.bind ?_ (fun _ => ?_))
      | exact ih0 _ _ _ _ _ _ _ _ _
      | exact ih1 _ _ _ _ _ _ _ _ _ _ _
      | exact ih2 _ _ _ _ _ _ _ _ _ _
      | exact ih3 _ _ _ _ _ _ _ _ _ _ _
      | exact portolanref11_Union.mono _ _ _
      | exact LeO.none _
      | refine LeO.ite ?_ ?_
      | refine LeO.bind ?_ (fun _ => ?_)
    · intro y0 y1 y2 y3 y4 y5 y6 y7 y8 y9 y10
      unfold portolanref11_Slots.l0
      repeat' first
      | (with_reducible exact ih0 _ _ _ _ _ _ _ _ _)
      | (with_reducible exact ih1 _ _ _ _ _ _ _ _ _ _ _)
      | (with_reducible exact ih2 _ _ _ _ _ _ _ _ _ _)
      | (with_reducible exact ih3 _ _ _ _ _ _ _ _ _ _ _)
      | (with_reducible exact portolanref11_Union.mono _ _ _)
      | (with_reducible exact LeO.refl _)
      | (with_reducible exact LeO.none _)
      | (with_reducible refine LeO.ite ?_ ?_)
      | (with_reducible refine LeO.bind ?_ (fun _ => ?_))
      | exact ih0 _ _ _ _ _ _ _ _ _
      | exact ih1 _ _ _ _ _ _ _ _ _ _ _
      | exact ih2 _ _ _ _ _ _ _ _ _ _
      | exact ih3 _ _ _ _ _ _ _ _ _ _ _
      | exact portolanref11_Union.mono _ _ _
      | exact LeO.none _
      | refine LeO.ite ?_ ?_
      | refine LeO.bind ?_ (fun _ => ?_)
theorem portolanref11_Slots.mono : ∀ a0 a1 a2 a3 a4 a5 a6 a7 a8 k, LeO (portolanref11_Slots.f k a0 a1 a2 a3 a4 a5 a6 a7 a8) (portolanref11_Slots.f (k + 1) a0 a1 a2 a3 a4 a5 a6 a7 a8) := by
  intro a0 a1 a2 a3 a4 a5 a6 a7 a8 k
  obtain ⟨ih0, ih1, ih2, ih3⟩ := portolanref11_Slots.mono_l k
  exact ih0 a0 a1 a2 a3 a4 a5 a6 a7 a8
set_option maxHeartbeats 8000000 in
set_option maxRecDepth 100000 in
theorem portolanref11_Slots.calls (k : Nat) : ∀ (a0_0 : Int) (A0_1 : Option Addr) (c0_1 : Nat) (l0_1 : List (S33)) (a0_2 : Int) (a0_3 : ByteArray) (a0_4 : Int) (a0_5 : Bool) (a0_6 : Int) (a0_7 : ByteArray) (A0_8 : Option Addr) (c0_8 : Nat) (l0_8 : List Int) (r : List Int) (w : World) (hr0_1 : Kd.C k33 w A0_1 l0_1.length l0_1) (hc0_1 : l0_1.length ≤ c0_1) (hr0_8 : Kd.C (Kd.int .i64) w A0_8 l0_8.length l0_8) (hc0_8 : l0_8.length ≤ c0_8) (h : portolanref11_Slots.f k a0_0 l0_1 a0_2 a0_3 a0_4 a0_5 a0_6 a0_7 l0_8 = some r),
    Calls Try.prog 17 #[.agg #[.int .i64 a0_0, .slice A0_1 l0_1.length c0_1, .int .i64 a0_2, .string a0_3, .int .i64 a0_4, .bool a0_5, .int .i64 a0_6, .string a0_7, .slice A0_8 l0_8.length c0_8]] w fun e w' => ∃ v0_ : Value, e = .returned (v0_) ∧ Kd.R (Kd.int .i64) 3 w' w.heap.size (fun _ => True) v0_ r ∧ Below w.heap.size w w' := by
  induction k using Nat.strongRecOn with
  | _ k ih =>
  intro a0_0 A0_1 c0_1 l0_1 a0_2 a0_3 a0_4 a0_5 a0_6 a0_7 A0_8 c0_8 l0_8 r w hr0_1 hc0_1 hr0_8 hc0_8 h
  cases k with
  | zero => exact absurd h (by simp [portolanref11_Slots.f])
  | succ k =>
  simp only [portolanref11_Slots.f] at h
  have hu33 := Try.underlying33
  have HR0_1 := Aside0.mk hr0_1
  have HC0_1 := Aside0.mk hc0_1
  clear hr0_1 hc0_1
  have HR0_8 := Aside0.mk hr0_8
  have HC0_8 := Aside0.mk hc0_8
  clear hr0_8 hc0_8
  have HB := Aside0.mk (Below.refl w.heap.size w)
  have H : (if a0_0 = 2 then (portolanref11_Slots.j0 k ([] : List Int) true a0_0 l0_1 a0_2 a0_3 a0_4 a0_5 a0_6 a0_7 l0_8) else (portolanref11_Slots.j0 k ([] : List Int) (a0_0 == 3) a0_0 l0_1 a0_2 a0_3 a0_4 a0_5 a0_6 a0_7 l0_8)) = some r := h
  clear h
  have HC2 := Aside0.mk H
  clear H
  go_enter Try.func17, Try.ntmps17
  go_upto_region 2 with (first | ((with_reducible refine gate_dst (N := 1) rfl ?_); refine box_event ?hg (N := 1) ?hd (cs := #[.int .i64 a0_0, .slice A0_1 l0_1.length c0_1, .int .i64 a0_2, .string a0_3, .int .i64 a0_4, .bool a0_5, .int .i64 a0_6, .string a0_7, .slice A0_8 l0_8.length c0_8]) (t := 33) ?hr ?_; (case hd => rfl); (case hg => rfl); (case hr => first | (go_simp; done) | (go_simp; rfl)); intro gb152 hg w3 hbox hb; have n0_ := Aside0.mk (below_step (by repeat (first | (with_reducible first | exact HB.out | apply below_alloc | apply pw_below_drewN | apply below_drew1) | exact HB.out)) hb); have n1_ := Aside0.mk (hbox); have n2_ := Aside0.mk ((by rw [hg]; exact (below_size (by repeat (first | (with_reducible first | exact HB.out | apply below_alloc | apply pw_below_drewN | apply below_drew1) | exact HB.out))) : w.heap.size ≤ gb152)); have n3_ := Aside0.mk ((by rw [hg]; exact (below_size (by repeat (first | (with_reducible first | exact HB.out | apply below_alloc | apply pw_below_drewN | apply below_drew1) | exact HB.out))) : w.heap.size ≤ gb152)); clear HB; have HB := n0_; have BK152 := n1_; have GW152 := n2_; have GE152 := n3_; clear n0_ n1_ n2_ n3_; clear hb hbox hg))
  (try simp only [Act.put, List.setIfInBounds_toArray, List.set_cons_zero, List.set_cons_succ])
  go_cut [12] (fun v12 wc => ∃ (kq : Nat) (x12_1 : Bool), v12 = .bool x12_1 ∧ Aside0 (portolanref11_Slots.j0 kq ([] : List Int) x12_1 a0_0 l0_1 a0_2 a0_3 a0_4 a0_5 a0_6 a0_7 l0_8 = some r) ∧ Aside0 (kq ≤ k) ∧ Aside0 (Kd.R (Kd.int .i64) 3 wc w.heap.size (fun _ => True) (.slice none 0 0) ([] : List Int)) ∧ Aside0 (wc.heap[gb152]? = some (.cells #[.int .i64 a0_0, (.slice A0_1 l0_1.length c0_1), .int .i64 a0_2, .string a0_3, .int .i64 a0_4, .bool a0_5, .int .i64 a0_6, .string a0_7, (.slice A0_8 l0_8.length c0_8)] 33 (0, 0))) ∧ Aside0 (Below w.heap.size w wc))
  case first =>
    have H := HC2.out
    clear HC2
    by_cases c4 : a0_0 = 2
    · rw [if_pos c4] at H
      have c4b0 : (a0_0 == 2) = true := beq_iff_eq.mpr c4
      have c4b1 : (a0_0 != 2) = false := bne_eq_false_iff_eq.mpr c4
      clear c4
      (first | rw [c4b0] | (simp only [i64_w, i32_w]; rw [c4b0]) | skip)
      have H' := Aside0.mk H
      clear H
      have hcz5_0 : w3.cell? ⟨gb152, 0, none⟩ = some (.int .i64 a0_0) := (blk_cell BK152.out 0).trans rfl
      have hcz5_1 : w3.cell? ⟨gb152, 1, none⟩ = some (.slice A0_1 l0_1.length c0_1) := (blk_cell BK152.out 1).trans rfl
      have hcz5_2 : w3.cell? ⟨gb152, 2, none⟩ = some (.int .i64 a0_2) := (blk_cell BK152.out 2).trans rfl
      have hcz5_3 : w3.cell? ⟨gb152, 3, none⟩ = some (.string a0_3) := (blk_cell BK152.out 3).trans rfl
      have hcz5_4 : w3.cell? ⟨gb152, 4, none⟩ = some (.int .i64 a0_4) := (blk_cell BK152.out 4).trans rfl
      have hcz5_5 : w3.cell? ⟨gb152, 5, none⟩ = some (.bool a0_5) := (blk_cell BK152.out 5).trans rfl
      have hcz5_6 : w3.cell? ⟨gb152, 6, none⟩ = some (.int .i64 a0_6) := (blk_cell BK152.out 6).trans rfl
      have hcz5_7 : w3.cell? ⟨gb152, 7, none⟩ = some (.string a0_7) := (blk_cell BK152.out 7).trans rfl
      have hcz5_8 : w3.cell? ⟨gb152, 8, none⟩ = some (.slice A0_8 l0_8.length c0_8) := (blk_cell BK152.out 8).trans rfl
      have hfz5_0 := blk_frozen BK152.out 0
      have hfz5_1 := blk_frozen BK152.out 1
      have hfz5_2 := blk_frozen BK152.out 2
      have hfz5_3 := blk_frozen BK152.out 3
      have hfz5_4 := blk_frozen BK152.out 4
      have hfz5_5 := blk_frozen BK152.out 5
      have hfz5_6 := blk_frozen BK152.out 6
      have hfz5_7 := blk_frozen BK152.out 7
      have hfz5_8 := blk_frozen BK152.out 8
      go_wp2
      go_meet
      case rel => exact ⟨_, (true), (by first | rfl | (simp; done) | (simp [*]; done)), H', ⟨by first | omega | exact Nat.le_refl _⟩, ⟨by first | exact Kd.R_nil _ _ _ _ _ | exact Kd.N_nil _ _ _ _ _ | exact Kd.V_nil _ _ _ _ _ | exact Kd.Q_nil _ _ _ _ _ | exact Kd.S_nil _ _ _ _ _⟩, ⟨by (with_reducible repeat (first | refine blk_drewN ?_ _ | refine blk_drew ?_ | refine blk_alloc ?_ _)); exact BK152.out⟩, ⟨by repeat (first | (with_reducible first | exact HB.out | apply below_alloc | apply pw_below_drewN | apply below_drew1 | refine below_set ?_ GE152.out) | exact HB.out)⟩⟩
    · rw [if_neg c4] at H
      have c4b0 : (a0_0 == 2) = false := beq_eq_false_iff_ne.mpr c4
      have c4b1 : (a0_0 != 2) = true := bne_iff_ne.mpr c4
      (first | rw [c4b0] | (simp only [i64_w, i32_w]; rw [c4b0]) | skip)
      have H' := Aside0.mk H
      clear H
      have hcz6_0 : w3.cell? ⟨gb152, 0, none⟩ = some (.int .i64 a0_0) := (blk_cell BK152.out 0).trans rfl
      have hcz6_1 : w3.cell? ⟨gb152, 1, none⟩ = some (.slice A0_1 l0_1.length c0_1) := (blk_cell BK152.out 1).trans rfl
      have hcz6_2 : w3.cell? ⟨gb152, 2, none⟩ = some (.int .i64 a0_2) := (blk_cell BK152.out 2).trans rfl
      have hcz6_3 : w3.cell? ⟨gb152, 3, none⟩ = some (.string a0_3) := (blk_cell BK152.out 3).trans rfl
      have hcz6_4 : w3.cell? ⟨gb152, 4, none⟩ = some (.int .i64 a0_4) := (blk_cell BK152.out 4).trans rfl
      have hcz6_5 : w3.cell? ⟨gb152, 5, none⟩ = some (.bool a0_5) := (blk_cell BK152.out 5).trans rfl
      have hcz6_6 : w3.cell? ⟨gb152, 6, none⟩ = some (.int .i64 a0_6) := (blk_cell BK152.out 6).trans rfl
      have hcz6_7 : w3.cell? ⟨gb152, 7, none⟩ = some (.string a0_7) := (blk_cell BK152.out 7).trans rfl
      have hcz6_8 : w3.cell? ⟨gb152, 8, none⟩ = some (.slice A0_8 l0_8.length c0_8) := (blk_cell BK152.out 8).trans rfl
      have hfz6_0 := blk_frozen BK152.out 0
      have hfz6_1 := blk_frozen BK152.out 1
      have hfz6_2 := blk_frozen BK152.out 2
      have hfz6_3 := blk_frozen BK152.out 3
      have hfz6_4 := blk_frozen BK152.out 4
      have hfz6_5 := blk_frozen BK152.out 5
      have hfz6_6 := blk_frozen BK152.out 6
      have hfz6_7 := blk_frozen BK152.out 7
      have hfz6_8 := blk_frozen BK152.out 8
      go_wp2
      go_meet
      case rel => exact ⟨_, ((a0_0 == 3)), (by first | rfl | (simp; done) | (simp [*]; done)), H', ⟨by first | omega | exact Nat.le_refl _⟩, ⟨by first | exact Kd.R_nil _ _ _ _ _ | exact Kd.N_nil _ _ _ _ _ | exact Kd.V_nil _ _ _ _ _ | exact Kd.Q_nil _ _ _ _ _ | exact Kd.S_nil _ _ _ _ _⟩, ⟨by (with_reducible repeat (first | refine blk_drewN ?_ _ | refine blk_drew ?_ | refine blk_alloc ?_ _)); exact BK152.out⟩, ⟨by repeat (first | (with_reducible first | exact HB.out | apply below_alloc | apply pw_below_drewN | apply below_drew1 | refine below_set ?_ GE152.out) | exact HB.out)⟩⟩
  case rest =>
    clear HC2
    try clear c1
    try clear p2
    try clear c4
    try clear c4b0
    try clear c4b1
    try clear hcz5_0
    try clear hcz5_1
    try clear hcz5_2
    try clear hcz5_3
    try clear hcz5_4
    try clear hcz5_5
    try clear hcz5_6
    try clear hcz5_7
    try clear hcz5_8
    try clear hcz6_0
    try clear hcz6_1
    try clear hcz6_2
    try clear hcz6_3
    try clear hcz6_4
    try clear hcz6_5
    try clear hcz6_6
    try clear hcz6_7
    try clear hcz6_8
    try clear hfz5_0
    try clear hfz5_1
    try clear hfz5_2
    try clear hfz5_3
    try clear hfz5_4
    try clear hfz5_5
    try clear hfz5_6
    try clear hfz5_7
    try clear hfz5_8
    try clear hfz6_0
    try clear hfz6_1
    try clear hfz6_2
    try clear hfz6_3
    try clear hfz6_4
    try clear hfz6_5
    try clear hfz6_6
    try clear hfz6_7
    try clear hfz6_8
    obtain ⟨kq, x12_1, rfl, HA, HJ1, HO_3, BK152, HB⟩ := hcut
    cases kq with
    | zero => exact absurd HA.out (by simp [portolanref11_Slots.j0])
    | succ kj1 =>
      have H := HA.out
      clear HA
      simp only [portolanref11_Slots.j0] at H
      have HC7 := Aside0.mk H
      clear H
      go_upto_if 12 with (fail)
      go_cut [3] (fun v3 wc => ∃ (kq : Nat) (x3_6 : List Int), Aside0 (portolanref11_Slots.j1 kq x3_6 a0_0 l0_1 a0_2 a0_3 a0_4 a0_5 a0_6 a0_7 l0_8 = some r) ∧ Aside0 (kq ≤ kj1) ∧ Aside0 (Kd.R (Kd.int .i64) 3 wc w.heap.size (fun _ => True) v3 x3_6) ∧ Aside0 (wc.heap[gb152]? = some (.cells #[.int .i64 a0_0, (.slice A0_1 l0_1.length c0_1), .int .i64 a0_2, .string a0_3, .int .i64 a0_4, .bool a0_5, .int .i64 a0_6, .string a0_7, (.slice A0_8 l0_8.length c0_8)] 33 (0, 0))) ∧ Aside0 (Below w.heap.size w wc))
      case first =>
        have H := HC7.out
        clear HC7
        by_cases c8 : x12_1 = true
        · subst c8
          have H1 : (portolanref11_Slots.j1 kj1 (([a0_2] : List Int)) a0_0 l0_1 a0_2 a0_3 a0_4 a0_5 a0_6 a0_7 l0_8) = some r := by rw [if_pos rfl] at H; exact H
          clear H
          have H := H1
          clear H1
          obtain ⟨y153, hy153⟩ : ∃ y_ : List Int, y_ = (([a0_2] : List Int)) := ⟨_, rfl⟩
          replace H : (portolanref11_Slots.j1 kj1 y153 a0_0 l0_1 a0_2 a0_3 a0_4 a0_5 a0_6 a0_7 l0_8) = some r := by first | (rw [hy153]; with_reducible exact H) | (have H2_ := (Option.bind_some _ _).symm.trans H; rw [hy153]; with_reducible exact H2_) | (have H2_ := (Option.bind_some _ _).symm.trans H; with_reducible exact H2_) | with_reducible exact H | (rw [hy153]; exact H) | exact H
          have Ny153 := Aside0.mk hy153
          clear hy153
          have H' := Aside0.mk H
          clear H
          have hcz9_0 : wc.cell? ⟨gb152, 0, none⟩ = some (.int .i64 a0_0) := (blk_cell BK152.out 0).trans rfl
          have hcz9_1 : wc.cell? ⟨gb152, 1, none⟩ = some (.slice A0_1 l0_1.length c0_1) := (blk_cell BK152.out 1).trans rfl
          have hcz9_2 : wc.cell? ⟨gb152, 2, none⟩ = some (.int .i64 a0_2) := (blk_cell BK152.out 2).trans rfl
          have hcz9_3 : wc.cell? ⟨gb152, 3, none⟩ = some (.string a0_3) := (blk_cell BK152.out 3).trans rfl
          have hcz9_4 : wc.cell? ⟨gb152, 4, none⟩ = some (.int .i64 a0_4) := (blk_cell BK152.out 4).trans rfl
          have hcz9_5 : wc.cell? ⟨gb152, 5, none⟩ = some (.bool a0_5) := (blk_cell BK152.out 5).trans rfl
          have hcz9_6 : wc.cell? ⟨gb152, 6, none⟩ = some (.int .i64 a0_6) := (blk_cell BK152.out 6).trans rfl
          have hcz9_7 : wc.cell? ⟨gb152, 7, none⟩ = some (.string a0_7) := (blk_cell BK152.out 7).trans rfl
          have hcz9_8 : wc.cell? ⟨gb152, 8, none⟩ = some (.slice A0_8 l0_8.length c0_8) := (blk_cell BK152.out 8).trans rfl
          have hfz9_0 := blk_frozen BK152.out 0
          have hfz9_1 := blk_frozen BK152.out 1
          have hfz9_2 := blk_frozen BK152.out 2
          have hfz9_3 := blk_frozen BK152.out 3
          have hfz9_4 := blk_frozen BK152.out 4
          have hfz9_5 := blk_frozen BK152.out 5
          have hfz9_6 := blk_frozen BK152.out 6
          have hfz9_7 := blk_frozen BK152.out 7
          have hfz9_8 := blk_frozen BK152.out 8
          go_wp2_with (first | ((with_reducible refine gate_dst (N := 15) rfl ?_); refine Kd.R_lit (Kd.int .i64) _ 3 ?hg (N := 15) ?hd (xs := ([a0_2] : List Int)) (inner := [.int .i64 a0_2]) (ok := fun _ => True) (okp := fun _ => True) ?hr ?hp (fun _ hk => hk) trivial (Below.refl _ _) (Nat.le_refl _) (by simp) ?_; (case hd => rfl); (case hg => rfl); (case hr => first | (go_simp; done) | (go_simp; rfl)); (case hp => exact (Reps.one (show Kd.M (Kd.int .i64) _ _ _ a0_2 [.int .i64 a0_2] from rfl) (Reps.none _ _))); intro v154 w10 ho11 hb hg_ hnew_; clear hg_ hnew_; (first | rw [← Ny153.out] at ho11 | (simp only [Int.reduceToNat] at ho11; rw [← Ny153.out] at ho11)); have n0_ := Aside0.mk (Kd.R_elder' (by (with_reducible repeat (first | apply Kd.R_alloc | apply Kd.R_drewN | apply Kd.R_drew)); exact HO_3.out) (Kd.R_base ho11) hb); have n1_ := Aside0.mk (Kd.R_lower (Kd.R_new' ho11 (Kd.R_lt (by (with_reducible repeat (first | apply Kd.R_alloc | apply Kd.R_drewN | apply Kd.R_drew)); exact HO_3.out))) (below_size (by repeat (first | (with_reducible first | exact HB.out | apply below_alloc | apply pw_below_drewN | apply below_drew1 | refine below_set ?_ GE152.out) | exact HB.out)))); have n2_ := Aside0.mk (blk_below (g := gb152) (o := .cells #[.int .i64 a0_0, .slice A0_1 l0_1.length c0_1, .int .i64 a0_2, .string a0_3, .int .i64 a0_4, .bool a0_5, .int .i64 a0_6, .string a0_7, .slice A0_8 l0_8.length c0_8] 33 (0, 0)) (by (with_reducible repeat (first | refine blk_drewN ?_ _ | refine blk_drew ?_ | refine blk_alloc ?_ _)); exact BK152.out) hb); have n3_ := Aside0.mk (below_step (by repeat (first | (with_reducible first | exact HB.out | apply below_alloc | apply pw_below_drewN | apply below_drew1 | refine below_set ?_ GE152.out) | exact HB.out)) hb); clear HO_3; clear BK152; clear HB; have HO_3 := n0_; have HO155 := n1_; have BK152 := n2_; have HB := n3_; clear n0_ n1_ n2_ n3_; clear hb ho11))
          go_meet
          case rel => exact ⟨_, (y153), H', ⟨by have := HJ1.out; first | omega | exact Nat.le_refl _⟩, ⟨by (with_reducible repeat (first | apply Kd.R_alloc | apply Kd.R_drewN | apply Kd.R_drew)); exact Kd.R_mono HO155.out (fun _ hk => trivial)⟩, ⟨by (with_reducible repeat (first | refine blk_drewN ?_ _ | refine blk_drew ?_ | refine blk_alloc ?_ _)); exact BK152.out⟩, ⟨by repeat (first | (with_reducible first | exact HB.out | apply below_alloc | apply pw_below_drewN | apply below_drew1 | refine below_set ?_ GE152.out) | exact HB.out)⟩⟩
        · replace c8 := Bool.eq_false_iff.mpr c8
          subst c8
          have H1 : (portolanref11_Slots.j1 kj1 ([] : List Int) a0_0 l0_1 a0_2 a0_3 a0_4 a0_5 a0_6 a0_7 l0_8) = some r := by rw [if_neg (show ¬ (false = true) by decide)] at H; exact H
          clear H
          have H := H1
          clear H1
          have H' := Aside0.mk H
          clear H
          go_wp2
          go_meet
          case rel => exact ⟨_, (([] : List Int)), H', ⟨by have := HJ1.out; first | omega | exact Nat.le_refl _⟩, ⟨by (with_reducible repeat (first | apply Kd.R_alloc | apply Kd.R_drewN | apply Kd.R_drew)); exact HO_3.out⟩, ⟨by (with_reducible repeat (first | refine blk_drewN ?_ _ | refine blk_drew ?_ | refine blk_alloc ?_ _)); exact BK152.out⟩, ⟨by repeat (first | (with_reducible first | exact HB.out | apply below_alloc | apply pw_below_drewN | apply below_drew1 | refine below_set ?_ GE152.out) | exact HB.out)⟩⟩
      case rest =>
        clear HC7
        try clear c1
        try clear p2
        try clear c4
        try clear c4b0
        try clear c4b1
        try clear c8
        try clear hcz5_0
        try clear hcz5_1
        try clear hcz5_2
        try clear hcz5_3
        try clear hcz5_4
        try clear hcz5_5
        try clear hcz5_6
        try clear hcz5_7
        try clear hcz5_8
        try clear hcz6_0
        try clear hcz6_1
        try clear hcz6_2
        try clear hcz6_3
        try clear hcz6_4
        try clear hcz6_5
        try clear hcz6_6
        try clear hcz6_7
        try clear hcz6_8
        try clear hcz9_0
        try clear hcz9_1
        try clear hcz9_2
        try clear hcz9_3
        try clear hcz9_4
        try clear hcz9_5
        try clear hcz9_6
        try clear hcz9_7
        try clear hcz9_8
        try clear hfz5_0
        try clear hfz5_1
        try clear hfz5_2
        try clear hfz5_3
        try clear hfz5_4
        try clear hfz5_5
        try clear hfz5_6
        try clear hfz5_7
        try clear hfz5_8
        try clear hfz6_0
        try clear hfz6_1
        try clear hfz6_2
        try clear hfz6_3
        try clear hfz6_4
        try clear hfz6_5
        try clear hfz6_6
        try clear hfz6_7
        try clear hfz6_8
        try clear hfz9_0
        try clear hfz9_1
        try clear hfz9_2
        try clear hfz9_3
        try clear hfz9_4
        try clear hfz9_5
        try clear hfz9_6
        try clear hfz9_7
        try clear hfz9_8
        try clear p2
        obtain ⟨kq, x3_6, HA, HJ6, HO_3, BK152, HB⟩ := hcut
        cases kq with
        | zero => exact absurd HA.out (by simp [portolanref11_Slots.j1])
        | succ kj6 =>
          have H := HA.out
          clear HA
          simp only [portolanref11_Slots.j1] at H
          have H' := Aside0.mk H
          clear H
          go_wp2
          go_loopg [3, 4] kj6 (fun kq v3 v4 w' => ∃ (x3_3 : List Int) (x4_3 : Int), v4 = .int .i64 x4_3 ∧ Aside0 (portolanref11_Slots.l0 kq x3_3 x4_3 a0_0 l0_1 a0_2 a0_3 a0_4 a0_5 a0_6 a0_7 l0_8 = some r) ∧ Aside0 (kq ≤ kj6) ∧ Aside0 (Kd.R (Kd.int .i64) 3 w' w.heap.size (fun _ => True) v3 x3_3) ∧ Aside0 (w'.heap[gb152]? = some (.cells #[.int .i64 a0_0, (.slice A0_1 l0_1.length c0_1), .int .i64 a0_2, .string a0_3, .int .i64 a0_4, .bool a0_5, .int .i64 a0_6, .string a0_7, (.slice A0_8 l0_8.length c0_8)] 33 (0, 0))) ∧ Aside0 (Below w.heap.size w w'))
          case atStart => exact ⟨(x3_6), (0), (by first | rfl | (simp; done) | (simp [*]; done)), H', ⟨Nat.le_refl _⟩, ⟨by (with_reducible repeat (first | apply Kd.R_alloc | apply Kd.R_drewN | apply Kd.R_drew)); exact HO_3.out⟩, ⟨by (with_reducible repeat (first | refine blk_drewN ?_ _ | refine blk_drew ?_ | refine blk_alloc ?_ _)); exact BK152.out⟩, ⟨by repeat (first | (with_reducible first | exact HB.out | apply below_alloc | apply pw_below_drewN | apply below_drew1 | refine below_set ?_ GE152.out) | exact HB.out)⟩⟩
          case round =>
            clear H'
            try clear c1
            try clear p2
            try clear c4
            try clear c4b0
            try clear c4b1
            try clear c8
            try clear hcz5_0
            try clear hcz5_1
            try clear hcz5_2
            try clear hcz5_3
            try clear hcz5_4
            try clear hcz5_5
            try clear hcz5_6
            try clear hcz5_7
            try clear hcz5_8
            try clear hcz6_0
            try clear hcz6_1
            try clear hcz6_2
            try clear hcz6_3
            try clear hcz6_4
            try clear hcz6_5
            try clear hcz6_6
            try clear hcz6_7
            try clear hcz6_8
            try clear hcz9_0
            try clear hcz9_1
            try clear hcz9_2
            try clear hcz9_3
            try clear hcz9_4
            try clear hcz9_5
            try clear hcz9_6
            try clear hcz9_7
            try clear hcz9_8
            try clear hfz5_0
            try clear hfz5_1
            try clear hfz5_2
            try clear hfz5_3
            try clear hfz5_4
            try clear hfz5_5
            try clear hfz5_6
            try clear hfz5_7
            try clear hfz5_8
            try clear hfz6_0
            try clear hfz6_1
            try clear hfz6_2
            try clear hfz6_3
            try clear hfz6_4
            try clear hfz6_5
            try clear hfz6_6
            try clear hfz6_7
            try clear hfz6_8
            try clear hfz9_0
            try clear hfz9_1
            try clear hfz9_2
            try clear hfz9_3
            try clear hfz9_4
            try clear hfz9_5
            try clear hfz9_6
            try clear hfz9_7
            try clear hfz9_8
            try clear p2
            obtain ⟨x3_3, x4_3, rfl, HA, HK3, HO_3, BK152, HB⟩ := hrel
            cases gk with
            | zero => exact absurd HA.out (by simp [portolanref11_Slots.l0])
            | succ k3 =>
              have H := HA.out
              clear HA
              simp only [portolanref11_Slots.l0] at H
              by_cases c12 : x4_3 < (l0_1.length : Int)
              · rw [if_pos c12] at H
                have c12b0 : decide (x4_3 < (l0_1.length : Int)) = true := decide_eq_true c12
                clear c12
                by_cases c13 : 0 ≤ x4_3
                · rw [if_pos c13] at H
                  have c13b0 : decide (0 ≤ x4_3) = true := decide_eq_true c13
                  clear c13
                  replace H := Option.bind_eq_some_iff.mp H
                  obtain ⟨t157, A140, H⟩ := H
                  replace H : ((portolanref11_Union.f k3 x3_3 t157).bind fun t160 => (portolanref11_Slots.l0 k3 t160 (wrap64 (x4_3 + 1)) a0_0 l0_1 a0_2 a0_3 a0_4 a0_5 a0_6 a0_7 l0_8)) = some r := H
                  have A14 := Aside0.mk A140
                  clear A140
                  replace H := Option.bind_eq_some_iff.mp H
                  obtain ⟨t160, A150, H⟩ := H
                  replace H : (portolanref11_Slots.l0 k3 t160 (wrap64 (x4_3 + 1)) a0_0 l0_1 a0_2 a0_3 a0_4 a0_5 a0_6 a0_7 l0_8) = some r := H
                  have A15 := Aside0.mk A150
                  clear A150
                  have H' := Aside0.mk H
                  clear H
                  have hcz16_0 : wr.cell? ⟨gb152, 0, none⟩ = some (.int .i64 a0_0) := (blk_cell BK152.out 0).trans rfl
                  have hcz16_1 : wr.cell? ⟨gb152, 1, none⟩ = some (.slice A0_1 l0_1.length c0_1) := (blk_cell BK152.out 1).trans rfl
                  have hcz16_2 : wr.cell? ⟨gb152, 2, none⟩ = some (.int .i64 a0_2) := (blk_cell BK152.out 2).trans rfl
                  have hcz16_3 : wr.cell? ⟨gb152, 3, none⟩ = some (.string a0_3) := (blk_cell BK152.out 3).trans rfl
                  have hcz16_4 : wr.cell? ⟨gb152, 4, none⟩ = some (.int .i64 a0_4) := (blk_cell BK152.out 4).trans rfl
                  have hcz16_5 : wr.cell? ⟨gb152, 5, none⟩ = some (.bool a0_5) := (blk_cell BK152.out 5).trans rfl
                  have hcz16_6 : wr.cell? ⟨gb152, 6, none⟩ = some (.int .i64 a0_6) := (blk_cell BK152.out 6).trans rfl
                  have hcz16_7 : wr.cell? ⟨gb152, 7, none⟩ = some (.string a0_7) := (blk_cell BK152.out 7).trans rfl
                  have hcz16_8 : wr.cell? ⟨gb152, 8, none⟩ = some (.slice A0_8 l0_8.length c0_8) := (blk_cell BK152.out 8).trans rfl
                  have hfz16_0 := blk_frozen BK152.out 0
                  have hfz16_1 := blk_frozen BK152.out 1
                  have hfz16_2 := blk_frozen BK152.out 2
                  have hfz16_3 := blk_frozen BK152.out 3
                  have hfz16_4 := blk_frozen BK152.out 4
                  have hfz16_5 := blk_frozen BK152.out 5
                  have hfz16_6 := blk_frozen BK152.out 6
                  have hfz16_7 := blk_frozen BK152.out 7
                  have hfz16_8 := blk_frozen BK152.out 8
                  have p156 : 0 ≤ (x4_3 : Int) := of_decide_eq_true (by first | (with_reducible assumption) | assumption)
                  have q156 : x4_3 < (l0_1.length : Int) := of_decide_eq_true (by first | (with_reducible assumption) | assumption)
                  obtain ⟨ad156, A156_1, c156_1, A156_8, c156_8, e156, hx156_0, hx156_1, hx156_2, hx156_3, hx156_4, hx156_5, hx156_6, hx156_7, hx156_8, hl156_1, hi156_1, hl156_8, hi156_8⟩ := at_T33 HR0_1.out x4_3 p156 q156
                  cases e156
                  replace hx156_0 := (HB.out.cell (World.block_lt_of_cell? w _ hx156_0)).trans hx156_0
                  replace hx156_1 := (HB.out.cell (World.block_lt_of_cell? w _ hx156_1)).trans hx156_1
                  replace hx156_2 := (HB.out.cell (World.block_lt_of_cell? w _ hx156_2)).trans hx156_2
                  replace hx156_3 := (HB.out.cell (World.block_lt_of_cell? w _ hx156_3)).trans hx156_3
                  replace hx156_4 := (HB.out.cell (World.block_lt_of_cell? w _ hx156_4)).trans hx156_4
                  replace hx156_5 := (HB.out.cell (World.block_lt_of_cell? w _ hx156_5)).trans hx156_5
                  replace hx156_6 := (HB.out.cell (World.block_lt_of_cell? w _ hx156_6)).trans hx156_6
                  replace hx156_7 := (HB.out.cell (World.block_lt_of_cell? w _ hx156_7)).trans hx156_7
                  replace hx156_8 := (HB.out.cell (World.block_lt_of_cell? w _ hx156_8)).trans hx156_8
                  have HR156_1 := Aside0.mk hi156_1
                  have HC156_1 := Aside0.mk hl156_1
                  clear hi156_1 hl156_1
                  have HR156_8 := Aside0.mk hi156_8
                  have HC156_8 := Aside0.mk hl156_8
                  clear hi156_8 hl156_8
                  replace p156 := eq_true p156
                  replace q156 := eq_true q156
                  go_wp2_with (first | ((with_reducible refine gate_callee (f := 17) rfl ?_); refine goesL_ (some 29) rfl rfl Try.func17 (by kernel_rfl) rfl #[.agg #[.int .i64 ((rd_T33 l0_1 x4_3).f0), .slice A156_1 ((rd_T33 l0_1 x4_3).f1).length c156_1, .int .i64 ((rd_T33 l0_1 x4_3).f2), .string ((rd_T33 l0_1 x4_3).f3), .int .i64 ((rd_T33 l0_1 x4_3).f4.f0), .bool ((rd_T33 l0_1 x4_3).f4.f1), .int .i64 ((rd_T33 l0_1 x4_3).f4.f2), .string ((rd_T33 l0_1 x4_3).f4.f3), .slice A156_8 ((rd_T33 l0_1 x4_3).f4.f4).length c156_8]] rfl (by (try simp only [List.map_toArray, List.map_cons, List.map_nil]); first | done | rfl | (simp only [List.length_drop, List.length_take]; rfl)) ?_; (with_reducible refine (ih k3 (by have := HJ1.out; have := HJ6.out; have := HK3.out; omega) ((rd_T33 l0_1 x4_3).f0) _ _ ((rd_T33 l0_1 x4_3).f1) ((rd_T33 l0_1 x4_3).f2) ((rd_T33 l0_1 x4_3).f3) ((rd_T33 l0_1 x4_3).f4.f0) ((rd_T33 l0_1 x4_3).f4.f1) ((rd_T33 l0_1 x4_3).f4.f2) ((rd_T33 l0_1 x4_3).f4.f3) _ _ ((rd_T33 l0_1 x4_3).f4.f4) t157 _ ?side1 ?side2 ?side3 ?side4 A14.out).mono ?_); (case side1 => repeat (first | exact (Kd.C_below HR156_1.out HB.out) | (with_reducible refine Kd.C_alloc ?_ _) | (with_reducible refine Kd.C_drewN ?_ _) | (with_reducible refine Kd.C_drew ?_))); (case side2 => exact HC156_1.out); (case side3 => repeat (first | exact (Kd.C_below HR156_8.out HB.out) | (with_reducible refine Kd.C_alloc ?_ _) | (with_reducible refine Kd.C_drewN ?_ _) | (with_reducible refine Kd.C_drew ?_))); (case side4 => exact HC156_8.out); rintro e w17 ⟨v158, rfl, ho0, hb⟩; refine ⟨_, rfl, ?_⟩; have n0_ := Aside0.mk (Kd.R_elder' (by (with_reducible repeat (first | apply Kd.R_alloc | apply Kd.R_drewN | apply Kd.R_drew)); exact HO_3.out) (Kd.R_base ho0) hb); have n1_ := Aside0.mk (Kd.R_lower (Kd.R_new' ho0 (Kd.R_lt (by (with_reducible repeat (first | apply Kd.R_alloc | apply Kd.R_drewN | apply Kd.R_drew)); exact HO_3.out))) (below_size (by repeat (first | (with_reducible first | exact HB.out | apply below_alloc | apply pw_below_drewN | apply below_drew1 | refine below_set ?_ GE152.out) | exact HB.out)))); have n2_ := Aside0.mk (blk_below (g := gb152) (o := .cells #[.int .i64 a0_0, .slice (some ad156) l0_1.length c0_1, .int .i64 a0_2, .string a0_3, .int .i64 a0_4, .bool a0_5, .int .i64 a0_6, .string a0_7, .slice A0_8 l0_8.length c0_8] 33 (0, 0)) (by (with_reducible repeat (first | refine blk_drewN ?_ _ | refine blk_drew ?_ | refine blk_alloc ?_ _)); exact BK152.out) hb); have n3_ := Aside0.mk (below_step (by repeat (first | (with_reducible first | exact HB.out | apply below_alloc | apply pw_below_drewN | apply below_drew1 | refine below_set ?_ GE152.out) | exact HB.out)) hb); clear HO_3; clear BK152; clear HB; have HO_3 := n0_; have HO159 := n1_; have BK152 := n2_; have HB := n3_; clear n0_ n1_ n2_ n3_; (try clear hb); (try clear hb2); (try clear hk); (try clear hi); (try clear ho0); obtain ⟨Ao18, co18, eo18⟩ := Kd.R_slice HO_3.out; subst eo18; obtain ⟨Ao19, co19, eo19⟩ := Kd.R_slice HO159.out; subst eo19) | ((with_reducible refine gate_callee (f := 33) rfl ?_); refine goesL_ (some 30) rfl rfl Try.func33 (by kernel_rfl) rfl #[.slice Ao18 x3_3.length co18, .slice Ao19 t157.length co19] rfl (by (try simp only [List.map_toArray, List.map_cons, List.map_nil]); first | done | rfl | (simp only [List.length_drop, List.length_take]; rfl)) ?_; (with_reducible refine (portolanref11_Union.calls k3 (fun k_ => some k_ = (.slice Ao18 x3_3.length co18 : Value).ownBlock) _ _ x3_3 (fun k_ => some k_ = (.slice Ao19 t157.length co19 : Value).ownBlock) _ _ t157 t160 _ ?side1 ?side2 A15.out).mono ?_); (case side1 => exact Kd.R_V (Kd.R_tight rfl (Kd.R_types (HO_3.out) BK152.out (by decide)))); (case side2 => exact Kd.R_V (Kd.R_tight rfl (Kd.R_types (HO159.out) BK152.out (by decide)))); rintro e w20 ⟨v161, rfl, ho0, hb⟩; refine ⟨_, rfl, ?_⟩; have n0_ := Aside0.mk (Kd.R_elder' (by (with_reducible repeat (first | apply Kd.R_alloc | apply Kd.R_drewN | apply Kd.R_drew)); exact HO_3.out) (Kd.R_base ho0) hb); have n1_ := Aside0.mk (Kd.R_elder' (by (with_reducible repeat (first | apply Kd.R_alloc | apply Kd.R_drewN | apply Kd.R_drew)); exact HO159.out) (Kd.R_base ho0) hb); have n2_ := Aside0.mk (Kd.R_lower (Kd.R_new' (Kd.R_new' (Kd.R_mono (ok' := fun k_ => True) ho0 (fun _ hk_ => trivial)) (Kd.R_lt (by (with_reducible repeat (first | apply Kd.R_alloc | apply Kd.R_drewN | apply Kd.R_drew)); exact HO_3.out))) (Kd.R_lt (by (with_reducible repeat (first | apply Kd.R_alloc | apply Kd.R_drewN | apply Kd.R_drew)); exact HO159.out))) (below_size (by repeat (first | (with_reducible first | exact HB.out | apply below_alloc | apply pw_below_drewN | apply below_drew1 | refine below_set ?_ GE152.out) | exact HB.out)))); have n3_ := Aside0.mk (blk_below (g := gb152) (o := .cells #[.int .i64 a0_0, .slice (some ad156) l0_1.length c0_1, .int .i64 a0_2, .string a0_3, .int .i64 a0_4, .bool a0_5, .int .i64 a0_6, .string a0_7, .slice A0_8 l0_8.length c0_8] 33 (0, 0)) (by (with_reducible repeat (first | refine blk_drewN ?_ _ | refine blk_drew ?_ | refine blk_alloc ?_ _)); exact BK152.out) hb); have n4_ := Aside0.mk (below_step (by repeat (first | (with_reducible first | exact HB.out | apply below_alloc | apply pw_below_drewN | apply below_drew1 | refine below_set ?_ GE152.out) | exact HB.out)) hb); clear HO_3; clear HO159; clear BK152; clear HB; have HO_3 := n0_; have HO159 := n1_; have HO162 := n2_; have BK152 := n3_; have HB := n4_; clear n0_ n1_ n2_ n3_ n4_; (try clear hb); (try clear hb2); (try clear hk); (try clear hi); (try clear ho0)))
                  go_roundg k3
                  case measure => have := HJ1.out; have := HJ6.out; have := HK3.out; omega
                  case rel => exact ⟨(t160), (wrap64 (x4_3 + 1)), (by first | rfl | (simp; done) | (simp [*]; done)), H', ⟨by have := HJ1.out; have := HJ6.out; have := HK3.out; omega⟩, ⟨by (with_reducible repeat (first | apply Kd.R_alloc | apply Kd.R_drewN | apply Kd.R_drew)); exact Kd.R_mono HO162.out (fun _ hk => trivial)⟩, ⟨by (with_reducible repeat (first | refine blk_drewN ?_ _ | refine blk_drew ?_ | refine blk_alloc ?_ _)); exact BK152.out⟩, ⟨by repeat (first | (with_reducible first | exact HB.out | apply below_alloc | apply pw_below_drewN | apply below_drew1 | refine below_set ?_ GE152.out) | exact HB.out)⟩⟩
                · rw [if_neg c13] at H
                  exact absurd H (by simp)
              · rw [if_neg c12] at H
                have c12b0 : decide (x4_3 < (l0_1.length : Int)) = false := decide_eq_false c12
                clear c12
                obtain rfl := Option.some.inj H
                have hcz21_0 : wr.cell? ⟨gb152, 0, none⟩ = some (.int .i64 a0_0) := (blk_cell BK152.out 0).trans rfl
                have hcz21_1 : wr.cell? ⟨gb152, 1, none⟩ = some (.slice A0_1 l0_1.length c0_1) := (blk_cell BK152.out 1).trans rfl
                have hcz21_2 : wr.cell? ⟨gb152, 2, none⟩ = some (.int .i64 a0_2) := (blk_cell BK152.out 2).trans rfl
                have hcz21_3 : wr.cell? ⟨gb152, 3, none⟩ = some (.string a0_3) := (blk_cell BK152.out 3).trans rfl
                have hcz21_4 : wr.cell? ⟨gb152, 4, none⟩ = some (.int .i64 a0_4) := (blk_cell BK152.out 4).trans rfl
                have hcz21_5 : wr.cell? ⟨gb152, 5, none⟩ = some (.bool a0_5) := (blk_cell BK152.out 5).trans rfl
                have hcz21_6 : wr.cell? ⟨gb152, 6, none⟩ = some (.int .i64 a0_6) := (blk_cell BK152.out 6).trans rfl
                have hcz21_7 : wr.cell? ⟨gb152, 7, none⟩ = some (.string a0_7) := (blk_cell BK152.out 7).trans rfl
                have hcz21_8 : wr.cell? ⟨gb152, 8, none⟩ = some (.slice A0_8 l0_8.length c0_8) := (blk_cell BK152.out 8).trans rfl
                have hfz21_0 := blk_frozen BK152.out 0
                have hfz21_1 := blk_frozen BK152.out 1
                have hfz21_2 := blk_frozen BK152.out 2
                have hfz21_3 := blk_frozen BK152.out 3
                have hfz21_4 := blk_frozen BK152.out 4
                have hfz21_5 := blk_frozen BK152.out 5
                have hfz21_6 := blk_frozen BK152.out 6
                have hfz21_7 := blk_frozen BK152.out 7
                have hfz21_8 := blk_frozen BK152.out 8
                go_wp2
                go_ret
                exact ⟨_, by first | rfl | (simp [errW_none, errW_some] <;> rfl) | (simp [*, errW_none, errW_some] <;> rfl), by (with_reducible repeat (first | apply Kd.R_alloc | apply Kd.R_drewN | apply Kd.R_drew)); exact HO_3.out, by repeat (first | (with_reducible first | exact HB.out | apply below_alloc | apply pw_below_drewN | apply below_drew1 | refine below_set ?_ GE152.out) | exact HB.out)⟩

end Go.Proofs.Ytjanfjdiikddaaa.QSafe
