/- vfs: Size; head. -/
import Derived.Test.YtkdodclenhnfcaaV8
import Derived.Handy
import Derived.Lib.SlBytesConst
namespace Go.Proofs.Ytkdodclenhnfcaa.V9
set_option linter.unusedVariables false
set_option linter.unusedSimpArgs false
open Go Go.RowKit Go.ChangeMaps Go.Sort Go.Proofs.YtkdodclenhnfcaaW.PrintWords Go.Maps Go.Proofs.Ytkdodclenhnfcaa.V2 Go.Proofs.Ytkdodclenhnfcaa.V3 Go.Proofs.Ytkdodclenhnfcaa.V4 Go.Proofs.Ytkdodclenhnfcaa.V5 Go.Proofs.Ytkdodclenhnfcaa.V6 Go.Proofs.Ytkdodclenhnfcaa.V7 Go.Proofs.Ytkdodclenhnfcaa.V8

theorem size_ {w : World} {base : Nat} {own : Foot} {fb mb xb : Nat} {s : St} (h : FSI w base own fb mb xb s) :
    Calls Try.prog 13 #[.pointer (some ⟨fb, 0, none⟩)] w fun e w' => e = .returned (.int .i64 s.size) ∧ w' = w := by
  have z2 : w.cell? ⟨fb, 2, none⟩ = some (.int .i64 s.size) := h.row.cell 2
  go_enter Try.func13, Try.ntmps13
  go_wp2_with fail
  go_returns
  exact ⟨rfl, rfl⟩

theorem frame_below {own own' : Foot} {base fb mb xb : Nat} {w W W' : World} {s : St} (hF : FSI W base own fb mb xb s) (hb : Below base w W) (hle : base ≤ W.heap.size) (f : V6.Frame own own' W W') : Below base w W' :=
  ⟨f.os.trans hb.os, f.tape.trans hb.tape, f.output.trans hb.output, Nat.le_trans hb.size f.size, fun k hk => (f.block k (by omega) (by
    by_cases h0 : own k = none
    · exact h0
    · have := (hF.old k h0).1
      omega)).trans (hb.block k hk)⟩
theorem nm_a : V1.nm ⟨#[97]⟩ = true := by first | rfl | decide
theorem C_lit (W : World) (xs : List Int) (fz : Nat × Nat) (hm : xs.length ≤ maxLen) : Kd.C (Kd.int .u8) (W.alloc (.cells (xs.map (Value.int .u8)).toArray 5 fz)) (some ⟨W.heap.size, 0, none⟩) xs.length xs := by
  refine ⟨rfl, hm, fun _ => ⟨_, rfl, fun j p hp => ⟨_, rfl, rfl, fun i u hu => ?_⟩⟩⟩
  obtain ⟨hi, rfl⟩ := List.getElem?_eq_some_iff.1 hu
  obtain rfl : i = 0 := by simpa using hi
  have e : (⟨W.heap.size, 0, none⟩ : Addr).add (j * Kd.sz (Kd.int .u8) + 0) = ⟨W.heap.size, j, none⟩ := by
    have e1 : j * Kd.sz (Kd.int .u8) + 0 = j := Nat.mul_one j
    rw [e1]
    unfold Addr.add
    split
    · rename_i h0; subst h0; rfl
    · simp
  have hh : (W.alloc (.cells (xs.map (Value.int .u8)).toArray 5 fz)).heap[W.heap.size]? = some (.cells (xs.map (Value.int .u8)).toArray 5 fz) := by
    show (W.heap.push _)[W.heap.size]? = _
    simp
  rw [e]
  unfold World.cell?
  simp only [hh]
  simp [hp]
set_option maxHeartbeats 400000 in
set_option maxRecDepth 100000 in
theorem head (w : World) :
    Calls Try.prog 9 #[] w fun e w' => e = .returned (.bool true) ∧ Below w.heap.size w w' := by
  have a1 : append_ (new_st 4 []) ⟨#[97]⟩ [120, 121, 122] = (0, put_st (counted_st (new_st 4 [])) ⟨#[97]⟩ [120, 121, 122]) := by
    unfold append_
    rw [nm_a, if_neg (by decide), if_neg (by decide), if_neg (by simp [new_st]), if_neg (by simp [new_st]), if_neg (by simp only [new_st, List.length_cons, List.length_nil]; unfold wrap64; omega)]
  have kc := fun (w : World) (C : Array Value) (n c : Nat) => Go.Lib.run_convert_bytes_const (P := Try.prog) w 29 5 C n c Try.underlying29 Try.underlying5
  go_enter Try.func9, Try.ntmps9
  go_wp2_with fail
  refine (new 4 none 0 [] w (Kd.C_nil _ _) (Nat.le_refl _) (by simp)).mono ?_
  rintro e w1 ⟨rfl, hF1, hb1⟩
  have hP := FSI.past hF1 (below_alloc (Below.refl _ _) (.cells #[.int .u8 120, .int .u8 121, .int .u8 122] 5 (3, 4)))
  have A1 := append hP ⟨#[97]⟩ (by decide) [120, 121, 122] (some ⟨w1.heap.size, 0, none⟩) 3 (C_lit w1 [120, 121, 122] (3, 4) (by decide)) (by decide) (fun _ a ha => by
    have e := Option.some.inj ha
    subst e
    refine ⟨by simp, ?_⟩
    by_cases h0 : own0 w.heap.size w1.heap.size = none
    · exact h0
    · have := (hF1.old _ h0).2
      omega)
  obtain ⟨s1, hs1⟩ : ∃ s1, s1 = put_st (counted_st (new_st 4 [])) ⟨#[97]⟩ [120, 121, 122] := ⟨_, rfl⟩
  rw [a1, ← hs1] at A1
  simp only at A1
  have HA1 := Lib.hid A1
  have HP1 := Lib.hid hP
  have HB1 := Lib.hid hb1
  have HS1 := Lib.hid hs1
  clear A1 hP hs1 a1 hF1
  go_wp2_with fail
  refine (show Calls _ _ _ _ _ from HA1).mono ?_
  rintro e w2 ⟨rfl, own2, hF2, hFr2⟩
  have HF2 := Lib.hid hF2
  have HFr2 := Lib.hid hFr2
  have a2 : append_ s1 ⟨#[97]⟩ [112, 113] = (14, counted_st s1) := by
    have hs1 : s1 = put_st (counted_st (new_st 4 [])) ⟨#[97]⟩ [120, 121, 122] := HS1
    rw [hs1]
    unfold append_
    rw [nm_a, if_neg (by decide), if_neg (by decide), if_neg (by simp [new_st, put_st, counted_st]), if_neg (by simp [new_st, put_st, counted_st, setF]), if_pos (by simp only [new_st, put_st, counted_st, List.length_cons, List.length_nil]; unfold wrap64; omega)]
  have hsz : s1.size = 3 := by
    have hs1 : s1 = put_st (counted_st (new_st 4 [])) ⟨#[97]⟩ [120, 121, 122] := HS1
    rw [hs1]
    simp only [new_st, put_st, counted_st, List.length_cons, List.length_nil]
    unfold wrap64
    omega
  have hP2 := FSI.past HF2 (below_alloc (Below.refl _ _) (.cells #[.int .u8 112, .int .u8 113] 5 (2, 3)))
  have A2 := append hP2 ⟨#[97]⟩ (by decide) [112, 113] (some ⟨w2.heap.size, 0, none⟩) 2 (C_lit w2 [112, 113] (2, 3) (by decide)) (by decide) (fun _ a ha => by
    have e := Option.some.inj ha
    subst e
    refine ⟨by simp, ?_⟩
    by_cases h0 : own2 w2.heap.size = none
    · exact h0
    · have := ((show FSI w2 _ own2 _ _ _ _ from HF2).old _ h0).2
      omega)
  rw [a2] at A2
  simp only at A2
  have HA2 := Lib.hid A2
  have HP2 := Lib.hid hP2
  have HFr2' := HFr2
  clear A2 hP2 a2 hF2 hFr2 HA1 HS1
  go_wp2_with fail
  refine (show Calls _ _ _ _ _ from HA2).mono ?_
  rintro e w3 ⟨rfl, own3, hF3, hFr3⟩
  have S3 := size_ hF3
  rw [show (counted_st s1).size = 3 from hsz] at S3
  have HF3 := Lib.hid hF3
  have HFr3 := Lib.hid hFr3
  have HS3 := Lib.hid S3
  clear hF3 hFr3 HA2 S3 kc
  go_wp2_with fail
  refine (show Calls _ _ _ _ _ from HS3).mono ?_
  rintro e w4 ⟨rfl, rfl⟩
  go_wp2_with fail
  go_returns
  have b1 : Below w.heap.size w (w1.alloc (.cells #[.int .u8 120, .int .u8 121, .int .u8 122] 5 (3, 4))) := below_alloc HB1 _
  have b2 := frame_below HP1 b1 b1.size HFr2
  have b3 := below_alloc b2 (.cells #[.int .u8 112, .int .u8 113] 5 (2, 3))
  exact ⟨rfl, frame_below HP2 b3 b3.size HFr3⟩
end Go.Proofs.Ytkdodclenhnfcaa.V9
