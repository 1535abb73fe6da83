-- written by hyprint.py, this session's program over the kit's print
import Derived.Test.YtjanfjdiikddaaaQSafex0
namespace Go.Proofs.Ytjanfjdiikddaaa.QSafe
open Go.RowKit Go.Proofs.YtjanfjdiikddaaaW.PrintWords Go.Proofs.YtjanfjdiikddaaaW.PrintLast Go.Proofs.YtjanfjdiikddaaaW.PrintMore
attribute [local go_sem] max2_int min2_int max_two min_two max_three min_three max_four min_four   -- for this text's walks alone
set_option linter.unusedVariables false
set_option linter.unusedSimpArgs false

/-! ### expr_Slots: function 16 -/
mutual
def slotsT : S33 → List Int
  | ⟨op, kids, sl, _, _⟩ => Go.Lib.compact (((if op == 2 || op == 3 then [sl] else []) ++ slotsL kids).mergeSort fun x y => decide (x ≤ y))
def slotsL : List S33 → List Int
  | [] => []
  | t :: r => slotsT t ++ slotsL r
end
mutual
def cntT : S33 → Nat
  | ⟨_, kids, _, _, _⟩ => 1 + cntL kids
def cntL : List S33 → Nat
  | [] => 0
  | t :: r => cntT t + cntL r
end
def own1 (op sl : Int) : List Int := if op == 2 || op == 3 then [sl] else []
theorem own1_len (op sl : Int) : (own1 op sl).length ≤ 1 := by unfold own1; split <;> simp
theorem slotsT_eq (t : S33) : slotsT t = Go.Lib.compact ((own1 t.f0 t.f2 ++ slotsL t.f1).mergeSort fun x y => decide (x ≤ y)) := by cases t; rfl
theorem cntT_eq (t : S33) : cntT t = 1 + cntL t.f1 := by cases t; rfl
theorem slotsL_app (a b : List S33) : slotsL (a ++ b) = slotsL a ++ slotsL b := by
  induction a with
  | nil => rfl
  | cons x r ih => rw [List.cons_append, slotsL, slotsL, ih, List.append_assoc]
theorem cntL_app (a b : List S33) : cntL (a ++ b) = cntL a + cntL b := by
  induction a with
  | nil => simp [cntL]
  | cons x r ih => rw [List.cons_append, cntL, cntL, ih]; omega
mutual
theorem slotsT_len : ∀ t : S33, (slotsT t).length ≤ cntT t
  | ⟨op, kids, sl, nm, v⟩ => by
    have h := slotsL_len kids
    have h1 := own1_len op sl
    have h2 := Go.Lib.compact_length_le ((own1 op sl ++ slotsL kids).mergeSort fun x y => decide (x ≤ y))
    rw [slotsT_eq, cntT_eq]
    simp only [List.length_mergeSort, List.length_append] at h2
    exact Nat.le_trans h2 (by show _ ≤ 1 + cntL kids; omega)
theorem slotsL_len : ∀ l : List S33, (slotsL l).length ≤ cntL l
  | [] => by simp [slotsL]
  | t :: r => by
    have h1 := slotsT_len t
    have h2 := slotsL_len r
    rw [slotsL, cntL, List.length_append]
    omega
end
theorem take_step (l : List S33) (k : Nat) (h : k < l.length) : l.take (k + 1) = l.take k ++ [rd_T33 l (k : Int)] := by
  unfold rd_T33
  rw [Int.toNat_natCast, List.getD_eq_getElem?_getD, List.getElem?_eq_getElem h, List.take_succ_eq_append_getElem h]
  rfl
theorem cntL_take (l : List S33) (k : Nat) : cntL (l.take k) ≤ cntL l := by
  have h := cntL_app (l.take k) (l.drop k)
  rw [List.take_append_drop] at h
  omega

theorem infI : (Try.prog.info? 3).map (fun i => (i.zero, i.size, i.bytes)) = some (some (.int .i64 0), 1, 8) := by kernel_rfl
/-- slices.Sort and slices.Compact at a row of the call's own -/
theorem sort_own {base : Nat} {ok : Nat → Prop} {v : Value} {l : List Int} {w : World} (h : Kd.R (Kd.int .i64) 3 w base ok v l) (hl : l.length < 4611686018427387904) :
    Calls Try.prog 31 #[v] w fun e w' => e = .returned (.tuple #[]) ∧ Kd.R (Kd.int .i64) 3 w' base ok v (l.mergeSort fun x y => decide (x ≤ y)) ∧ w.grownBy w' v.ownBlock := by
  have ho := Kd.own_of_R h
  by_cases hp : 0 < l.length
  · have hv : v ≠ .slice none 0 0 := by
      intro e
      subst e
      rcases ho.2 with ⟨_, h0⟩ | ⟨g, cap, cur, h0, _⟩
      · omega
      · cases h0
    obtain ⟨g, cap, rfl, hb, hlt, hn, hm, hlen, hH⟩ := Go.Lib.holds_of_ownsRow (enc := Value.int .i64) ho hv
    refine (Try.slices_Sort_int g 0 cap l w hH hlt hl).mono ?_
    rintro e w' ⟨rfl, n, os, rfl⟩
    rcases ho.2 with ⟨h0, _⟩ | ⟨g', cap', cur, h0, _, hg, h1, h2, h3, h4⟩
    · cases h0
    injection h0 with e1 _ e3
    injection e1 with e1
    injection e1 with e1
    subst e1; subst e3
    refine ⟨rfl, ?_, grownBy_sortedI _⟩
    have r := ownsRow_sortedI (w := w) (base := base) (g := g) (cap := cap) (n := n) (e := 3) (os := os) (cur := cur) (ss := l) (ts := l.mergeSort fun x y => decide (x ≤ y)) (by simp) hb hg h1 h2 h3
    refine Kd.R_of_own (by rw [List.length_mergeSort]; exact r) h.1
  · obtain rfl : l = [] := by cases l with
      | nil => rfl
      | cons _ _ => simp at hp
    obtain ⟨A, c, rfl, hc, _⟩ := Kd.R_reads h
    refine (Try.slices_Sort_int_none A c w).mono ?_
    rintro e w' ⟨rfl, rfl⟩
    exact ⟨rfl, by simpa using h, ⟨rfl, rfl, rfl, Nat.le_refl _, fun _ _ _ => rfl⟩⟩
theorem compact_own {base : Nat} {ok : Nat → Prop} {v : Value} {l : List Int} {w : World} (h : Kd.R (Kd.int .i64) 3 w base ok v l) (hl : l.length ≤ 9223372036854775807) :
    Calls Try.prog 32 #[v] w fun e w' => ∃ v', e = .returned v' ∧ Kd.R (Kd.int .i64) 3 w' base ok v' (Go.Lib.compact l) ∧ w.grownBy w' v.ownBlock := by
  have ho := Kd.own_of_R h
  by_cases hp : 0 < l.length
  · have hv : v ≠ .slice none 0 0 := by
      intro e
      subst e
      rcases ho.2 with ⟨_, h0⟩ | ⟨g, cap, cur, h0, _⟩
      · omega
      · cases h0
    obtain ⟨g, cap, rfl, hb, hlt, hn, hm, hlen, hH⟩ := Go.Lib.holds_of_ownsRow (enc := Value.int .i64) ho hv
    refine (Try.slices_Compact_int g 0 cap l w hH hl hn).mono ?_
    rintro e w' ⟨rfl, q, rfl⟩
    have hc := Go.Lib.compact_length_le l
    have r := Go.Lib.ownsRow_putRow (enc := Value.int .i64) (q := q) (k := (Go.Lib.compact l).length) (ys := Go.Lib.compact l ++ List.replicate (l.length - (Go.Lib.compact l).length) 0) ho (by simp; omega) hc
    rw [List.take_left] at r
    refine ⟨_, rfl, Kd.R_of_own r (fun k hk => h.1 k hk), ?_⟩
    have g0 := grownBy_sortedI (w := w) (g := g) (n := q) (os := #[]) (Go.Lib.compact l ++ List.replicate (l.length - (Go.Lib.compact l).length) 0).toArray
    rw [Go.Sort.grow_empty] at g0
    exact g0
  · obtain rfl : l = [] := by cases l with
      | nil => rfl
      | cons _ _ => simp at hp
    obtain ⟨A, c, rfl, hc, _⟩ := Kd.R_reads h
    refine (Try.slices_Compact_int_empty A c w).mono ?_
    rintro e w' ⟨rfl, rfl⟩
    exact ⟨_, rfl, h, ⟨rfl, rfl, rfl, Nat.le_refl _, fun _ _ _ => rfl⟩⟩
/-- what a term's own call is to tell -/
def SlotsAt (t : S33) : Prop := ∀ (A1 : Option Addr) (c1 : Nat) (A8 : Option Addr) (c8 : Nat) (w : World) (hr1 : Kd.C k33 w A1 t.f1.length t.f1) (hc1 : t.f1.length ≤ c1) (hr8 : Kd.C (Kd.int .i64) w A8 t.f4.f4.length t.f4.f4) (hc8 : t.f4.f4.length ≤ c8) (hn : cntT t ≤ 17592186044415),
    Calls Try.prog 16 #[.agg #[.int .i64 t.f0, .slice A1 t.f1.length c1, .int .i64 t.f2, .string t.f3, .int .i64 t.f4.f0, .bool t.f4.f1, .int .i64 t.f4.f2, .string t.f4.f3, .slice A8 t.f4.f4.length c8]] w fun e w' => ∃ v, e = .returned v ∧ Kd.R (Kd.int .i64) 3 w' w.heap.size (fun _ => True) v (slotsT t) ∧ Below w.heap.size w w'
set_option maxHeartbeats 1000000 in
set_option maxRecDepth 100000 in
theorem slots_at (t : S33) (HI : Hid (∀ x ∈ t.f1, SlotsAt x)) : SlotsAt t := by
  intro A1 c1 A8 c8 w hr1 hc1 hr8 hc8 hn
  have hm := Kd.C_max hr1
  have hcL := cntT_eq t
  go_enter Try.func16, Try.ntmps16
  go_upto_region 2 with fail
  go_cut [13] (fun v13 wc => v13 = .bool (t.f0 == 2 || t.f0 == 3) ∧ Below w.heap.size w wc ∧ wc.heap[w.heap.size]? = some (.cells #[.int .i64 t.f0, .slice A1 t.f1.length c1, .int .i64 t.f2, .string t.f3, .int .i64 t.f4.f0, .bool t.f4.f1, .int .i64 t.f4.f2, .string t.f4.f3, .slice A8 t.f4.f4.length c8] 33 (0, 0)))
  case first =>
    have hb0 : Below w.heap.size w (w.alloc (.cells #[.int .i64 t.f0, .slice A1 t.f1.length c1, .int .i64 t.f2, .string t.f3, .int .i64 t.f4.f0, .bool t.f4.f1, .int .i64 t.f4.f2, .string t.f4.f3, .slice A8 t.f4.f4.length c8] 33)) := below_alloc (Below.refl _ _) _
    have hk0 : (w.alloc (.cells #[.int .i64 t.f0, .slice A1 t.f1.length c1, .int .i64 t.f2, .string t.f3, .int .i64 t.f4.f0, .bool t.f4.f1, .int .i64 t.f4.f2, .string t.f4.f3, .slice A8 t.f4.f4.length c8] 33)).heap[w.heap.size]? = some (.cells #[.int .i64 t.f0, .slice A1 t.f1.length c1, .int .i64 t.f2, .string t.f3, .int .i64 t.f4.f0, .bool t.f4.f1, .int .i64 t.f4.f2, .string t.f4.f3, .slice A8 t.f4.f4.length c8] 33 (0, 0)) := Base.Row.new w _ _
    have HH := Lib.hid (And.intro hb0 hk0)
    clear hb0 hk0
    cases h2 : (t.f0 == 2) <;> cases h3 : (t.f0 == 3)
    all_goals go_wp2_with fail
    all_goals go_meet
    all_goals exact ⟨by rw [h2, h3]; rfl, HH.1, HH.2⟩
  obtain ⟨rfl, hb, hk⟩ := hcut
  go_upto_if 13 with fail
  go_cut [3] (fun v3 wc => Kd.R (Kd.int .i64) 3 wc w.heap.size (fun k => w.heap.size < k) v3 (own1 t.f0 t.f2) ∧ Below w.heap.size w wc ∧ wc.heap[w.heap.size]? = some (.cells #[.int .i64 t.f0, .slice A1 t.f1.length c1, .int .i64 t.f2, .string t.f3, .int .i64 t.f4.f0, .bool t.f4.f1, .int .i64 t.f4.f2, .string t.f4.f3, .slice A8 t.f4.f4.length c8] 33 (0, 0)))
  case first =>
    cases hop : (t.f0 == 2 || t.f0 == 3)
    · go_wp2_with fail
      go_meet
      refine ⟨?_, hb, hk⟩
      unfold own1
      rw [hop]
      exact Kd.R_nil _ _ _ _ _
    · have hlt : w.heap.size < wc.heap.size := (Array.getElem?_eq_some_iff.1 hk).1
      have z2 : wc.cell? ⟨w.heap.size, 2, none⟩ = some (.int .i64 t.f2) := (blk_cell hk 2).trans rfl
      go_wp2_with (at_builtin; refine Kd.R_append (Kd.int .i64) (w0 := w) w.heap.size rfl (.tmp 14) (.tmp 17) 39 3 (.int .i64 0) 8 rfl Try.underlying39 infI rfl (by decide) (by omega) (.slice none 0 0) [] t.f2 [.int .i64 t.f2] (fun k => w.heap.size < k) (fun _ => False) rfl rfl rfl (fun _ hk => hk.elim) (fun k hk => by omega) (Kd.R_nil _ _ _ _ _) hb (by omega) (by simp) ?_; intro v1 w1 ho1 hb1 hg1 _)
      go_meet
      refine ⟨?_, hb1, (hg1.block _ hlt (by simp [Value.ownBlock])).trans hk⟩
      unfold own1
      rw [hop]
      exact ho1
  obtain ⟨ho, hb, hk⟩ := hcut
  have HO := Lib.hid ho
  have HB := Lib.hid hb
  have HK := Lib.hid hk
  have hz1 : wc.cell? ⟨w.heap.size, 1, none⟩ = some (.slice A1 t.f1.length c1) := (blk_cell hk 1).trans rfl
  clear ho hb hk
  go_wp2_with fail
  go_loopw [3, 22] (fun v3 v22 wr => ∃ k : Nat, v22 = .int .i64 k ∧ k ≤ t.f1.length ∧ Hid (Kd.R (Kd.int .i64) 3 wr w.heap.size (fun k => w.heap.size < k) v3 (own1 t.f0 t.f2 ++ slotsL (t.f1.take k))) ∧ Hid (Below w.heap.size w wr) ∧ Hid (w.heap.size < wr.heap.size)) (fun _ v22 _ => t.f1.length - (intOf v22).toNat)
  case atStart => exact ⟨0, rfl, Nat.zero_le _, by simpa [slotsL] using HO, HB, (Array.getElem?_eq_some_iff.1 HK).1⟩
  case round =>
    obtain ⟨k, rfl, hkl, ho, hb, hlt0⟩ := hrel
    clear HO HB HK
    by_cases hlt : k < t.f1.length
    · have hC := Kd.C_below hr1 (show Below w.heap.size w wr from hb)
      obtain ⟨ad, B1, d1, B8, d8, e, z0, z1, z2, z3, z4, z5, z6, z7, z8, hl1, hi1, hl8, hi8⟩ := at_T33 hC (k : Int) (by omega) (by omega)
      subst e
      simp only [Int.toNat_natCast] at z0 z1 z2 z3 z4 z5 z6 z7 z8
      have hmem : rd_T33 t.f1 (k : Int) ∈ t.f1 := by
        unfold rd_T33
        rw [Int.toNat_natCast, List.getD_eq_getElem?_getD, List.getElem?_eq_getElem hlt]
        exact List.getElem_mem hlt
      have hK := HI _ hmem
      have hts := take_step t.f1 k hlt
      have hcn := cntL_take t.f1 (k + 1)
      rw [hts, cntL_app] at hcn
      have hll := slotsL_len (t.f1.take k)
      have hlk := slotsT_len (rd_T33 t.f1 (k : Int))
      have ho1 := own1_len t.f0 t.f2
      have hc1' : cntL [rd_T33 t.f1 (k : Int)] = cntT (rd_T33 t.f1 (k : Int)) := by simp [cntL]
      have hsz : (own1 t.f0 t.f2 ++ slotsL (t.f1.take k)).length + (slotsT (rd_T33 t.f1 (k : Int))).length ≤ 17592186044415 ∧ cntT (rd_T33 t.f1 (k : Int)) ≤ 17592186044415 := by
        rw [List.length_append]
        omega
      have hsn : own1 t.f0 t.f2 ++ slotsL (t.f1.take (k + 1)) = (own1 t.f0 t.f2 ++ slotsL (t.f1.take k)) ++ slotsT (rd_T33 t.f1 (k : Int)) := by
        rw [hts, slotsL_app, List.append_assoc, slotsL, slotsL, List.append_nil]
      have HS := Lib.hid hsn
      have HK := Lib.hid hK
      have HZ := Lib.hid hsz
      clear hsn hK hmem hts hcn hll hlk ho1 hc1' hsz
      generalize rd_T33 t.f1 (k : Int) = q at *
      go_wp2_with (first
        | (go_at_call 16; refine (HK B1 d1 B8 d8 _ (Kd.C_alloc hi1 _) hl1 (Kd.C_alloc hi8 _) hl8 HZ.2).mono ?_; rintro e w9 ⟨v9, rfl, ho9, hb9⟩; obtain ⟨A9, c9, rfl, hc9, hC9⟩ := Kd.R_reads ho9; have HO9 := Lib.hid (Kd.R_below (Kd.R_alloc ho _) hb9); have HB9 := Lib.hid (below_step (below_alloc hb _) hb9); have HS9 := Lib.hid (show w.heap.size < w9.heap.size by have h1 := hb9.size; have h2 : w.heap.size < wr.heap.size := hlt0; simp only [World.size_alloc] at h1; omega); clear hb9 ho9)
        | (at_builtin; refine Kd.R_append_rows (Kd.int .i64) (w0 := w) w.heap.size rfl (.tmp 26) (.tmp 28) 39 3 (.int .i64 0) 8 rfl Try.underlying39 infI rfl (by decide) (by omega) u3 (own1 t.f0 t.f2 ++ slotsL (t.f1.take k)) (slotsT q) A9 (slotsT q).length c9 (fun k => w.heap.size < k) (fun _ => False) rfl rfl HO9 hC9 (fun x cs h => h) (fun _ hk => hk.elim) (fun k hk => Nat.lt_of_lt_of_le HS9 hk) HB9 (Nat.le_of_lt HS9) (by have h1 := HZ.1; omega) ?_; intro v1 w1 ho1 hb1 hg1 _))
      go_roundw
      case measure => rw [show (↑k + 1 : Int) = ((k + 1 : Nat) : Int) by omega]; simp only [intOf, Int.toNat_natCast]; omega
      case rel =>
        refine ⟨k + 1, by simp, by omega, ?_, hb1, ?_⟩
        · show Kd.R _ _ _ _ _ _ _
          rw [HS]
          exact ho1
        · show _ < _
          exact Nat.lt_of_lt_of_le HS9 hg1.size
    · have e : k = t.f1.length := by omega
      subst e
      rw [List.take_length] at ho
      have hll := slotsL_len t.f1
      have ho1 := own1_len t.f0 t.f2
      have hz : (own1 t.f0 t.f2 ++ slotsL t.f1).length ≤ 17592186044415 := by rw [List.length_append]; omega
      have hp : ∀ g : Nat, u3.ownBlock = some g → w.heap.size ≤ g := fun g hg => Nat.le_of_lt ((show Kd.R _ _ _ _ _ _ _ from ho).1 g hg)
      have HZ := Lib.hid hz
      have HP := Lib.hid hp
      clear hll ho1 hz hp
      go_wp2_with (first
        | (go_at_call 31; refine (sort_own ho (by have h1 := HZ; unfold Hid at h1; omega)).mono ?_; rintro e w1 ⟨rfl, ho1, hg1⟩; have HO1 := Lib.hid ho1; have HG1 := Lib.hid hg1; clear ho1 hg1)
        | (go_at_call 32; refine (compact_own HO1 (by have h1 := HZ; unfold Hid at h1; rw [List.length_mergeSort]; omega)).mono ?_; rintro e w2 ⟨v', rfl, ho2, hg2⟩))
      go_returns
      refine ⟨v', rfl, ?_, ?_⟩
      · rw [slotsT_eq]
        exact Kd.R_mono ho2 (fun _ _ => trivial)
      · exact Below.grown (Below.grown hb HG1 (Nat.le_of_lt hlt0) HP) hg2 (Nat.le_trans (Nat.le_of_lt hlt0) (World.grownBy.size HG1)) HP
theorem slots_all (t : S33) : SlotsAt t := by
  refine slots_at t (Lib.hid fun x hx => ?_)
  have h1 := List.sizeOf_lt_of_mem hx
  exact slots_all x
termination_by (SizeOf.sizeOf t : Nat)
decreasing_by
  cases t
  simp only at *
  simp
  omega
def expr_Slots.f (a0_0 : Int) (l0_1 : List S33) (a0_2 : Int) (a0_3 : ByteArray) (a0_4 : Int) (a0_5 : Bool) (a0_6 : Int) (a0_7 : ByteArray) (l0_8 : List Int) : Option (List Int) :=
  if cntT ⟨a0_0, l0_1, a0_2, a0_3, ⟨a0_4, a0_5, a0_6, a0_7, l0_8⟩⟩ ≤ 17592186044415 then some (slotsT ⟨a0_0, l0_1, a0_2, a0_3, ⟨a0_4, a0_5, a0_6, a0_7, l0_8⟩⟩) else none
theorem expr_Slots.calls (a0_0 : Int) (A0_1 : Option Addr) (c0_1 : Nat) (l0_1 : List (S33)) (a0_2 : Int) (a0_3 : ByteArray) (a0_4 : Int) (a0_5 : Bool) (a0_6 : Int) (a0_7 : ByteArray) (A0_8 : Option Addr) (c0_8 : Nat) (l0_8 : List Int) (r : List Int) (w : World) (hr0_1 : Kd.C k33 w A0_1 l0_1.length l0_1) (hc0_1 : l0_1.length ≤ c0_1) (hr0_8 : Kd.C (Kd.int .i64) w A0_8 l0_8.length l0_8) (hc0_8 : l0_8.length ≤ c0_8) (h : expr_Slots.f a0_0 l0_1 a0_2 a0_3 a0_4 a0_5 a0_6 a0_7 l0_8 = some r) :
    Calls Try.prog 16 #[.agg #[.int .i64 a0_0, .slice A0_1 l0_1.length c0_1, .int .i64 a0_2, .string a0_3, .int .i64 a0_4, .bool a0_5, .int .i64 a0_6, .string a0_7, .slice A0_8 l0_8.length c0_8]] w fun e w' => ∃ v0_ : Value, e = .returned (v0_) ∧ Kd.R (Kd.int .i64) 3 w' w.heap.size (fun _ => True) v0_ r ∧ Below w.heap.size w w' := by
  unfold expr_Slots.f at h
  split at h
  · rename_i hn
    have h0 := slots_all ⟨a0_0, l0_1, a0_2, a0_3, ⟨a0_4, a0_5, a0_6, a0_7, l0_8⟩⟩ A0_1 c0_1 A0_8 c0_8 w hr0_1 hc0_1 hr0_8 hc0_8 hn
    have e := Option.some.inj h
    subst e
    exact h0
  · cases h


end Go.Proofs.Ytjanfjdiikddaaa.QSafe
