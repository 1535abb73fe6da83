/- vfs: Read, Pages, Calls, Failed. -/
import Derived.Test.YtkdodclenhnfcaaV9
namespace Go.Proofs.Ytkdodclenhnfcaa.VB
set_option linter.unusedVariables false
set_option linter.unusedSimpArgs false
open Go Go.RowKit Go.ChangeMaps Go.Sort Go.Proofs.YtkdodclenhnfcaaW.PrintWords Go.Maps Go.Proofs.Ytkdodclenhnfcaa.V2 Go.Proofs.Ytkdodclenhnfcaa.V3 Go.Proofs.Ytkdodclenhnfcaa.V4 Go.Proofs.Ytkdodclenhnfcaa.V5 Go.Proofs.Ytkdodclenhnfcaa.V6

theorem calls_ {w : World} {base : Nat} {own : Foot} {fb mb xb : Nat} {s : St} (h : FSI w base own fb mb xb s) :
    Calls Try.prog 16 #[.pointer (some ⟨fb, 0, none⟩)] w fun e w' => e = .returned (.int .i64 s.calls) ∧ w' = w := by
  have z2 : w.cell? ⟨fb, 3, none⟩ = some (.int .i64 s.calls) := h.row.cell 3
  go_enter Try.func16, Try.ntmps16
  go_wp2_with fail
  go_returns
  exact ⟨rfl, rfl⟩
theorem failed_ {w : World} {base : Nat} {own : Foot} {fb mb xb : Nat} {s : St} (h : FSI w base own fb mb xb s) :
    Calls Try.prog 18 #[.pointer (some ⟨fb, 0, none⟩)] w fun e w' => e = .returned (.bool s.failed) ∧ w' = w := by
  have z2 : w.cell? ⟨fb, 5, none⟩ = some (.bool s.failed) := h.row.cell 5
  go_enter Try.func18, Try.ntmps18
  go_wp2_with fail
  go_returns
  exact ⟨rfl, rfl⟩
theorem look_file1 {W : World} {base : Nat} {own : Foot} {mb : Nat} {s : St} {D : DataW Value} (h : FilesAt W base own mb s D) (nm : ByteArray) (hn : nm.size ≤ maxLen) :
    ∃ v, (Instr.lookup 50 (.map (some mb)) (.string nm) false).run Try.prog W = .ok v W ∧ kP.R 29 W base (fun k => own k = some (some nm)) v ((s.files nm).getD []) := by
  obtain ⟨v, ps, hrun, hR⟩ := h.owns.lookup (string_keyed Try.underlying9) Try.underlying50 (z := .slice none 0 0) (zd := .held (.slice none 0 0)) (zp := []) (by kernel_rfl) rfl (key_of hn)
  refine ⟨v, hrun, ?_⟩
  simp only [hv, Option.some.injEq, Prod.mk.injEq] at hR
  cases hf : s.files nm with
  | none =>
    have hh := h.has nm
    rw [hf] at hh
    rw [Maps.atKey_of_not_has (by simpa using hh)] at hR
    have e : v = .slice none 0 0 := by injection hR.1
    subst e
    exact Kd.R_nil _ _ _ _ _
  | some l =>
    obtain ⟨v', h1, h2⟩ := h.pages nm l hf
    rw [h1] at hR
    have e : v = v' := by injection hR.1
    subst e
    exact h2
/-- how many pages a file has -/
def pages_ (s : St) (nm : ByteArray) : Int := ((s.files nm).getD []).length
set_option maxRecDepth 100000 in
theorem pages {w : World} {base : Nat} {own : Foot} {fb mb xb : Nat} {s : St} (h : FSI w base own fb mb xb s) (nm : ByteArray) (hn : nm.size ≤ maxLen) :
    Calls Try.prog 15 #[.pointer (some ⟨fb, 0, none⟩), .string nm] w fun e w' => e = .returned (.int .i64 (pages_ s nm)) ∧ w' = w := by
  obtain ⟨D, hD⟩ := h.files
  obtain ⟨v, hlook, hvR⟩ := look_file1 hD nm hn
  obtain ⟨A2, c2, rfl, hc2, hC2⟩ := Kd.R_reads hvR
  have z0 : w.cell? ⟨fb, 0, none⟩ = some (.map (some mb)) := h.row.cell 0
  unfold pages_
  clear hD h hvR hC2
  go_enter Try.func15, Try.ntmps15
  go_wp2_with fail
  go_returns
  exact ⟨rfl, rfl⟩

def read_ (s : St) (nm : ByteArray) (n : Int) : Int × List Int × St := match s.files nm with
  | none => (15, [], s)
  | some ps => if n < 0 ∨ ps.length ≤ n then (16, [], s) else if s.faults (wrap64 (s.calls + 1)) = true then (13, [], counted_st s) else (0, ps.getD n.toNat [], counted_st s)

set_option maxHeartbeats 1000000 in
set_option maxRecDepth 100000 in
theorem read {w : World} {base : Nat} {own : Foot} {fb mb xb : Nat} {s : St} (h : FSI w base own fb mb xb s) (nm : ByteArray) (hn : nm.size ≤ maxLen) (n : Int) :
    Calls Try.prog 14 #[.pointer (some ⟨fb, 0, none⟩), .string nm, .int .i64 n] w fun e w' => ∃ v, e = .returned (.tuple #[v, .int .i64 (read_ s nm n).1]) ∧ Kd.R (Kd.int .u8) 5 w' w.heap.size (fun k => w.heap.size ≤ k) v (read_ s nm n).2.1 ∧ FSI w' base own fb mb xb (read_ s nm n).2.2 ∧ V6.Frame own own w w' := by
  obtain ⟨D, hD⟩ := h.files
  obtain ⟨v, hlook, hvR⟩ := look_file hD nm hn
  obtain ⟨A2, c2, rfl, hc2, hC2⟩ := Kd.R_reads hvR
  have z0 : w.cell? ⟨fb, 0, none⟩ = some (.map (some mb)) := h.row.cell 0
  have HH := Lib.hid h
  have ofb : own fb ≠ none := by rw [h.ofb]; simp
  have hsm := fun ps hs => hD.small nm ps hs
  have HSM := Lib.hid hsm
  clear hD h hsm
  go_enter Try.func14, Try.ntmps14
  cases hs : s.files nm with
  | none =>
    have he : read_ s nm n = (15, [], s) := by unfold read_; rw [hs]
    rw [he]
    rw [hs] at hlook
    simp only [Option.isSome_none] at hlook
    clear hC2 hvR
    go_wp2_with fail
    go_returns
    exact ⟨_, rfl, Kd.R_nil _ _ _ _ _, HH, V6.Frame.of_below (Below.refl _ _)⟩
  | some ps =>
    rw [hs] at hlook hvR hC2 hc2
    simp only [Option.isSome_some, Option.getD_some, hs] at hlook hvR hC2 hc2
    have hm : ps.length ≤ 4096 := ((show ∀ ps, s.files nm = some ps → _ from HSM) ps hs).1
    by_cases hn : n < 0 ∨ (ps.length : Int) ≤ n
    · have he : read_ s nm n = (16, [], s) := by unfold read_; rw [hs]; simp only; rw [if_pos hn]
      rw [he]
      clear hC2 hvR
      by_cases h0 : n < 0
      · go_wp2_with fail
        go_returns
        exact ⟨_, rfl, Kd.R_nil _ _ _ _ _, HH, V6.Frame.of_below (Below.refl _ _)⟩
      · have hd : decide (n < (ps.length : Int)) = false := decide_eq_false (by omega)
        go_wp2_with fail
        go_returns
        exact ⟨_, rfl, Kd.R_nil _ _ _ _ _, HH, V6.Frame.of_below (Below.refl _ _)⟩
    · obtain ⟨m, rfl⟩ := Int.eq_ofNat_of_zero_le (show 0 ≤ n by omega)
      have hlt : m < ps.length := by omega
      have hd : decide (m < ps.length) = true := decide_eq_true hlt
      have HR := Lib.hid hvR
      clear hC2 hvR
      cases hfl : s.faults (wrap64 (s.calls + 1))
      case true =>
        have he : read_ s nm m = (13, [], counted_st s) := by unfold read_; rw [hs]; simp only; rw [if_neg hn, if_pos hfl]
        rw [he]
        go_wp2_with (go_at_call 26; refine (counted HH).mono ?_; rintro e w2 ⟨rfl, hF2, hg2⟩)
        go_returns
        exact ⟨_, rfl, Kd.R_nil _ _ _ _ _, hF2, V6.Frame.of_grown hg2 ofb⟩
      case false =>
        have he : read_ s nm m = (0, ps[m], counted_st s) := by unfold read_; rw [hs]; simp only; rw [if_neg hn, if_neg (by simp [hfl]), Int.toNat_natCast, List.getD_eq_getElem?_getD, List.getElem?_eq_getElem hlt]; rfl
        rw [he]
        go_wp2_with fail
        refine (counted HH).mono ?_
        rintro e w2 ⟨rfl, hF2, hg2⟩
        have hR2 := Kd.R_grown (show kP.R _ _ _ _ _ _ from HR) hg2 (fun j hj e => by rw [Option.some.inj e, (show FSI w base own fb mb xb s from HH).ofb] at hj; cases hj)
        obtain ⟨_, _, hC1⟩ := Kd.R_reads' hR2
        obtain ⟨ad, e, hx⟩ := hC1.2.2 (by omega)
        obtain ⟨cs, h1, h2, h3⟩ := hx m _ (List.getElem?_eq_getElem hlt)
        obtain ⟨Ak, ck, h2, hck, hCk⟩ := h2
        subst e h2
        have hz := h3 0 _ rfl
        have e1 : m * kP.sz + 0 = m := Nat.mul_one m
        rw [e1] at hz
        have hlen : (ps[m]).length ≤ 1024 := ((show ∀ ps, s.files nm = some ps → _ from HSM) ps hs).2 ps[m] (List.getElem_mem hlt)
        have HF2 := Lib.hid hF2
        have HG2 := Lib.hid hg2
        have HCK := Lib.hid hCk
        clear hC1 hx h1 h3 e1 hR2 hF2 hg2 hCk
        go_wp2_with fail
        refine (clone Ak ck ps[m] _ HCK hck (by omega)).mono ?_
        rintro e w3 ⟨pv, rfl, hpv, hb3⟩
        go_wp2_with fail
        go_returns
        have hle : w.heap.size ≤ w2.heap.size := (show w.grownBy w2 (some fb) from HG2).size
        exact ⟨_, rfl, Kd.R_lower (Kd.R_mono hpv (fun k hk => Nat.le_trans hle hk)) hle, FSI.past HF2 hb3, V6.Frame.trans (V6.Frame.of_grown HG2 ofb) (V6.Frame.of_below hb3)⟩
end Go.Proofs.Ytkdodclenhnfcaa.VB
