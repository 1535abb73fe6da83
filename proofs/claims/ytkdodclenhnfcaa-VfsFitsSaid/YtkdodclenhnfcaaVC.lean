/- The law VfsFits' walk. -/
import Derived.Test.YtkdodclenhnfcaaVA
import Derived.Test.YtkdodclenhnfcaaVB
namespace Go.Proofs.Ytkdodclenhnfcaa.VC
set_option linter.unusedVariables false
set_option linter.unusedSimpArgs false
open Go Go.RowKit Go.ChangeMaps Go.Sort Go.Proofs.YtkdodclenhnfcaaW.PrintWords Go.Maps Go.Proofs.Ytkdodclenhnfcaa.V2 Go.Proofs.Ytkdodclenhnfcaa.V3 Go.Proofs.Ytkdodclenhnfcaa.V4 Go.Proofs.Ytkdodclenhnfcaa.V5 Go.Proofs.Ytkdodclenhnfcaa.V6 Go.Proofs.Ytkdodclenhnfcaa.V7 Go.Proofs.Ytkdodclenhnfcaa.V8 Go.Proofs.Ytkdodclenhnfcaa.V9 Go.Proofs.Ytkdodclenhnfcaa.VA

theorem FSI.size {w : World} {base : Nat} {own : Foot} {fb mb xb : Nat} {s : St} (h : FSI w base own fb mb xb s) : base < w.heap.size := by
  have := h.old fb (by rw [h.ofb]; simp)
  omega
theorem FSI.fresh {w : World} {base : Nat} {own : Foot} {fb mb xb : Nat} {s : St} (h : FSI w base own fb mb xb s) {k : Nat} (hk : w.heap.size ≤ k) : own k = none := by
  by_cases h0 : own k = none
  · exact h0
  · have := (h.old k h0).2
    omega
theorem frame_below2 {own own' : Foot} {base B fb mb xb : Nat} {w W W' : World} {s : St} (hF : FSI W base own fb mb xb s) (hb : Below B w W) (hle : B ≤ base) (f : V6.Frame own own' W W') : Below B w W' :=
  ⟨f.os.trans hb.os, f.tape.trans hb.tape, f.output.trans hb.output, Nat.le_trans hb.size f.size, fun k hk => (f.block k (by have := FSI.size hF; omega) (by
    by_cases h0 : own k = none
    · exact h0
    · have := (hF.old k h0).1
      omega)).trans (hb.block k hk)⟩
theorem C_zeros (W : World) (m : Nat) (hm : m ≤ maxLen) : Kd.C (Kd.int .u8) (W.alloc (.cells (madeCells #[.int .u8 0] m) 5)) (some ⟨W.heap.size, 0, none⟩) m (List.replicate m 0) := by
  have h := C_lit W (List.replicate m 0) (0, 0) (by simpa using hm)
  rw [List.length_replicate] at h
  have e : (List.map (Value.int .u8) (List.replicate m 0)).toArray = madeCells #[.int .u8 0] m := by
    apply Array.ext'
    apply List.ext_getElem
    · simp [madeCells]
    · intro i h1 h2
      simp [madeCells, Nat.mod_one]
  rw [e] at h
  exact h

set_option maxHeartbeats 2000000 in
set_option maxRecDepth 100000 in
theorem law (q : Int) (A : Option Addr) (c : Nat) (l : List Int) (w : World) (hC : Kd.C (Kd.int .u16) w A l.length l) (hc : l.length ≤ c) (hq0 : 0 ≤ q) (hq1 : q ≤ 65535) (hr : ∀ x ∈ l, 0 ≤ x ∧ x ≤ 65535) :
    Calls Try.prog 3 #[.int .u16 q, .slice A l.length c] w fun e w' => e = .returned (.bool true) ∧ Below w.heap.size w w' := by
  have hm := Kd.C_max hC
  have HC := Lib.hid hC
  clear hC
  go_enter Try.func3, Try.ntmps3
  go_wp2_with fail
  refine (head _).mono ?_
  rintro e w1 ⟨rfl, hb1⟩
  go_wp2_with fail
  refine (new q none 0 [] w1 (Kd.C_nil _ _) (Nat.le_refl _) (by simp)).mono ?_
  rintro e w2 ⟨rfl, hF2, hb2⟩
  have HF2 := Lib.hid hF2
  have HB1 := Lib.hid hb1
  have HB2 := Lib.hid (Base.bstep hb1 hb2)
  have hle := hb1.size
  clear hF2 hb1 hb2
  go_wp2_with fail
  go_loopw [7, 8] (fun v7 v8 wr => ∃ (k : Nat) (n : Int) (own : Foot) (s : St), v8 = .int .i64 k ∧ k ≤ l.length ∧ v7 = .int .i64 n ∧ 0 ≤ n ∧ n ≤ 65535 ∧ Hid (Fit s q n) ∧ Hid (FSI wr w1.heap.size own (w1.heap.size + 2) w1.heap.size (w1.heap.size + 1) s) ∧ Hid (Below w.heap.size w wr)) (fun _ v8 _ => l.length - (intOf v8).toNat)
  case atStart => exact ⟨0, 0, _, _, rfl, Nat.zero_le _, rfl, Int.le_refl _, by omega, fit_new q hq0 hq1, HF2, HB2⟩
  case round =>
    obtain ⟨k, n, own, s, rfl, hk, rfl, hn0, hn1, hfit, hF, hB⟩ := hrel
    by_cases hlt : k < l.length
    · have hc1 := Kd.C_below HC hB
      obtain ⟨ad, e, hx⟩ := hc1.2.2 (by omega)
      obtain ⟨cs, h1, h2, h3⟩ := hx k _ (List.getElem?_eq_getElem hlt)
      subst e
      have hz0 := h3 0 (.int .u16 l[k]) (by have e : cs = [.int .u16 l[k]] := h2; rw [e]; rfl)
      have hz : wr.cell? (ad.add k) = some (.int .u16 l[k]) := by
        have e : k * (Kd.sz (Kd.int .u16)) + 0 = k := Nat.mul_one k
        rw [e] at hz0
        exact hz0
      obtain ⟨hb, hb'⟩ := hr l[k] (List.getElem_mem hlt)
      clear hx h1 h2 h3 hz0 hc1
      generalize l[k] = x at *
      obtain ⟨m, hm1⟩ : ∃ m : Nat, x % 1024 + 1 = (m : Int) := ⟨(x % 1024 + 1).toNat, by omega⟩
      have hm2 : 1 ≤ m ∧ m ≤ 1024 := by omega
      have hmk : ∀ W : World, (Instr.makeSlice 29 (.int .i64 (x % 1024 + 1)) (.int .i64 (x % 1024 + 1))).run Try.prog W = .ok (.slice (some ⟨W.heap.size, 0, none⟩) m m) (W.alloc (.cells (madeCells #[.int .u8 0] m) 5)) := by
        rw [hm1]
        exact print_make 29 5 .u8 1 Try.underlying29 info_u8 (by decide) m (by omega)
      have hP := FSI.past hF (below_alloc (Below.refl _ _) (.cells (madeCells #[.int .u8 0] m) 5))
      have hA0 : Kd.C (Kd.int .u8) (wr.alloc (.cells (madeCells #[.int .u8 0] m) 5)) (some ⟨wr.heap.size, 0, none⟩) (List.replicate m (0 : Int)).length (List.replicate m (0 : Int)) := by
        rw [List.length_replicate]
        exact C_zeros wr m (by unfold maxLen; omega)
      have A1 := append hP nmA (by decide) (List.replicate m 0) (some ⟨wr.heap.size, 0, none⟩) m hA0 (by simp) (fun a ha => by
        have e := Option.some.inj ha
        subst e
        exact ⟨by simp, FSI.fresh hF (Nat.le_refl _)⟩)
      have hfa := fit_append (show VA.Fit s q n from hfit) (page := List.replicate m 0) (by simp; omega) (by simp; omega)
      rw [List.length_replicate] at A1 hfa
      have HPB : Hid (Below w.heap.size w (wr.alloc (.cells (madeCells #[.int .u8 0] m) 5))) := below_alloc hB _
      have HP := Lib.hid hP
      have HFA := Lib.hid hfa
      have HM1 := Lib.hid hm1
      have HA := Lib.hid A1
      clear hP hA0 hfa A1 hm1
      generalize hAr : append_ s nmA (List.replicate m 0) = ar at *
      obtain ⟨code, s1⟩ := ar
      go_wp2_with fail
      refine (show Calls _ _ _ _ _ from HA).mono ?_
      rintro e w4 ⟨rfl, own4, hF4, hFr4⟩
      clear hAr hmk hz
      have HF4 := Lib.hid hF4
      have HB4 := Lib.hid (frame_below2 HP HPB hle hFr4)
      clear hF4 hFr4 HA
      by_cases hq : q < n + (x % 1024 + 1)
      · obtain ⟨hcode, hf1⟩ := HFA.1 (by have := HM1.out; omega)
        have HF1 := Lib.hid hf1
        clear hf1 HFA
        by_cases hn : 0 < n
        · obtain ⟨d1, d2⟩ := fit_delete HF1 hn
          have D1 := delete (show FSI w4 _ own4 _ _ _ s1 from HF4) nmA (by decide)
          rw [d1] at D1
          have HD1 := Lib.hid D1
          have HD2 := Lib.hid d2
          clear D1 d1 d2
          rcases hcode with rfl | rfl
          all_goals go_wp2_with fail
          all_goals refine (show Calls _ _ _ _ _ from HD1).mono ?_
          all_goals rintro e w5 ⟨rfl, hF5, hFr5⟩
          all_goals have HB5 := Lib.hid (frame_below2 HF4 HB4 hle hFr5)
          all_goals have HF5 := Lib.hid hF5
          all_goals clear hF5 hFr5 HD1
          all_goals go_wp2_with fail
          all_goals refine ⟨⟨k + 1, 0, _, _, by simp, by omega, rfl, by omega, by omega, HD2, HF5, HB5⟩, ?_⟩
          all_goals rw [show (↑k + 1 : Int) = ((k + 1 : Nat) : Int) by omega]
          all_goals simp only [intOf, Int.toNat_natCast]
          all_goals omega
        · obtain rfl : n = 0 := by omega
          rcases hcode with rfl | rfl
          all_goals go_wp2_with fail
          all_goals refine ⟨⟨k + 1, 0, _, _, by simp, by omega, rfl, by omega, by omega, HF1, HF4, HB4⟩, ?_⟩
          all_goals rw [show (↑k + 1 : Int) = ((k + 1 : Nat) : Int) by omega]
          all_goals simp only [intOf, Int.toNat_natCast]
          all_goals omega
      · rcases HFA.2 (by have := HM1.out; omega) with ⟨rfl, hf1⟩ | rfl
        · have S4 := size_ (show FSI w4 _ own4 _ _ _ s1 from HF4)
          rw [hf1.size, ← HM1.out] at S4
          have HF1 : Hid (VA.Fit s1 q (n + (x % 1024 + 1))) := by rw [HM1.out]; exact hf1
          have HS4 := Lib.hid S4
          clear S4 hf1 HFA
          go_wp2_with fail
          refine (show Calls _ _ _ _ _ from HS4).mono ?_
          rintro e w5 ⟨rfl, rfl⟩
          go_wp2_with fail
          refine ⟨⟨k + 1, n + (x % 1024 + 1), _, _, by simp, by omega, rfl, by omega, by omega, HF1, HF4, HB4⟩, ?_⟩
          rw [show (↑k + 1 : Int) = ((k + 1 : Nat) : Int) by omega]
          simp only [intOf, Int.toNat_natCast]
          omega
        · go_wp2_with fail
          go_returns
          exact ⟨rfl, HB4⟩
    · go_wp2_with fail
      go_returns
      exact ⟨rfl, hB⟩
end Go.Proofs.Ytkdodclenhnfcaa.VC
