/- vfs: Delete. -/
import Derived.Test.YtkdodclenhnfcaaV7
namespace Go.Proofs.Ytkdodclenhnfcaa.V8
set_option linter.unusedVariables false
set_option linter.unusedSimpArgs false
open Go Go.RowKit Go.ChangeMaps Go.Sort Go.Proofs.YtkdodclenhnfcaaW.PrintWords Go.Maps Go.Proofs.Ytkdodclenhnfcaa.V2 Go.Proofs.Ytkdodclenhnfcaa.V3 Go.Proofs.Ytkdodclenhnfcaa.V4 Go.Proofs.Ytkdodclenhnfcaa.V5 Go.Proofs.Ytkdodclenhnfcaa.V6

def less (n : Int) (ps : List (List Int)) : Int := ps.foldl (fun n p => wrap64 (n - p.length)) n
def del_st (s : St) (nm : ByteArray) (ps : List (List Int)) : St := { s with files := setF s.files nm none, many := s.many - 1, size := less s.size ps }
def delete_ (s : St) (nm : ByteArray) : Int × St := match s.files nm with
  | none => (15, s)
  | some ps => (0, del_st s nm ps)
theorem less_take (n : Int) (ps : List (List Int)) (k : Nat) (h : k < ps.length) : less n (ps.take (k + 1)) = wrap64 (less n (ps.take k) - (ps[k]).length) := by
  unfold less
  rw [List.take_succ_eq_append_getElem h, List.foldl_append]
  rfl
theorem turned_grown {w w' : World} {b : Nat} (h : w.mapTurned w' b) : w.grownBy w' (some b) := by
  obtain ⟨es, clock, es', clock', hb, rfl⟩ := h
  exact ⟨rfl, rfl, rfl, by simp [setBlock], fun i _ hi => heap_setBlock_other hb _ (fun e => hi (by rw [e]))⟩
theorem FilesAt.del {w w2 : World} {base : Nat} {own : Foot} {mb : Nat} {s : St} {D : DataW Value} {nm : ByteArray} {ps0 : List (List Int)} (h : FilesAt w base own mb s D) (hm : own mb = some none) (old : ∀ k, own k ≠ none → base ≤ k ∧ k < w.heap.size) (hf0 : s.files nm = some ps0)
    (ho : w2.ownsMap Try.prog 9 hv mb s.many (D.del (key nm))) (hg2 : w.grownBy w2 (some mb)) (s' : St) (hf : s'.files = setF s.files nm none) (hc : s'.many = s.many - 1) : FilesAt w2 base own mb s' (D.del (key nm)) := by
  have hh : Maps.has D (key nm) = true := by rw [h.has, hf0]; rfl
  have hsz : Maps.size (D.del (key nm)) = s'.many := by
    have h1 := Maps.size_del (k := key nm) h.tidy
    rw [hh, if_pos rfl, h.many] at h1
    omega
  refine ⟨hsz ▸ V5.tight ho, h.tidy.del _, hsz, fun x => ?_, fun x ps hp => ?_, fun x ps hp => ?_, by have := h.cap; omega⟩
  · rw [hf]
    unfold setF
    by_cases hx : x = nm
    · rw [if_pos hx, hx, Maps.has_del_same]; rfl
    · rw [if_neg hx, Maps.has_del_other (fun e => hx (key_inj e))]; exact h.has x
  · rw [hf] at hp
    unfold setF at hp
    by_cases hx : x = nm
    · rw [if_pos hx] at hp; cases hp
    · rw [if_neg hx] at hp
      obtain ⟨v0, h1, h2⟩ := h.pages x ps hp
      refine ⟨v0, fun z => ?_, Kd.R_grown h2 hg2 (fun k hk e => ?_)⟩
      · rw [Maps.atKey_del_other (fun e => hx (key_inj e))]; exact h1 z
      · rw [Option.some.inj e, hm] at hk
        cases hk
  · rw [hf] at hp
    unfold setF at hp
    by_cases hx : x = nm
    · rw [if_pos hx] at hp; cases hp
    · rw [if_neg hx] at hp; exact h.small x ps hp

set_option maxHeartbeats 1000000 in
set_option maxRecDepth 100000 in
theorem delete {w : World} {base : Nat} {own : Foot} {fb mb xb : Nat} {s : St} (h : FSI w base own fb mb xb s) (nm : ByteArray) (hn : nm.size ≤ maxLen) :
    Calls Try.prog 12 #[.pointer (some ⟨fb, 0, none⟩), .string nm] w fun e w' => e = .returned (.int .i64 (delete_ s nm).1) ∧ FSI w' base own fb mb xb (delete_ s nm).2 ∧ V6.Frame own own w w' := by
  obtain ⟨D, hD⟩ := h.files
  obtain ⟨v, hlook, hvR⟩ := look_file hD nm hn
  obtain ⟨A2, c2, rfl, hc2, hC2⟩ := Kd.R_reads hvR
  have z0 : w.cell? ⟨fb, 0, none⟩ = some (.map (some mb)) := h.row.cell 0
  have HH := Lib.hid h
  have ofb : own fb ≠ none := by rw [h.ofb]; simp
  clear hD h
  go_enter Try.func12, Try.ntmps12
  cases hs : s.files nm with
  | none =>
    have he : delete_ s nm = (15, s) := by unfold delete_; rw [hs]
    rw [he]
    rw [hs] at hlook
    simp only [Option.isSome_none] at hlook
    go_wp2_with fail
    go_returns
    exact ⟨rfl, HH, V6.Frame.of_below (Below.refl _ _)⟩
  | some ps =>
    have he : delete_ s nm = (0, del_st s nm ps) := by unfold delete_; rw [hs]
    rw [he]
    rw [hs] at hlook hvR hC2
    simp only [Option.isSome_some, Option.getD_some, hs] at hlook hvR hC2
    have HC := Lib.hid hC2
    have HR := Lib.hid hvR
    clear hC2 hvR
    go_wp2_with fail
    go_loopw [22] (fun v22 wr => ∃ k : Nat, v22 = .int .i64 k ∧ k ≤ ps.length ∧ Hid (FSI wr base own fb mb xb { s with size := less s.size (ps.take k) }) ∧ Hid (kP.R 29 wr base (fun k => own k = some (some nm)) (.slice A2 ps.length c2) ps) ∧ Hid (V6.Frame own own w wr)) (fun v22 _ => ps.length - (intOf v22).toNat)
    case atStart => exact ⟨0, rfl, Nat.zero_le _, HH, HR, V6.Frame.of_below (Below.refl _ _)⟩
    case round =>
      obtain ⟨k, rfl, hk, hF, hRk, hFr⟩ := hrel
      have hF0 : FSI wr base own fb mb xb { s with size := less s.size (ps.take k) } := hF
      clear z0 hlook
      have z2 : wr.cell? ⟨fb, 2, none⟩ = some (.int .i64 (less s.size (ps.take k))) := hF0.row.cell 2
      have y2 : wr.frozen? ⟨fb, 2, none⟩ = false := hF0.row.free 2
      by_cases hlt : k < ps.length
      · obtain ⟨_, _, hC1⟩ := Kd.R_reads' (show kP.R _ _ _ _ _ _ from hRk)
        obtain ⟨ad, e, hx⟩ := hC1.2.2 (by omega)
        obtain ⟨cs, h1, h2, h3⟩ := hx k _ (List.getElem?_eq_getElem hlt)
        obtain ⟨Ak, ck, h2, hck, _⟩ := h2
        subst e h2
        have hz := h3 0 _ rfl
        have e1 : k * kP.sz + 0 = k := Nat.mul_one k
        rw [e1] at hz
        have hlen : (ps[k]).length ≤ 9223372036854775807 := by
          obtain ⟨D2, hD2⟩ := hF0.files
          have := (hD2.small nm ps hs).2 ps[k] (List.getElem_mem hlt)
          omega
        have hm : ps.length ≤ 4096 := by
          obtain ⟨D2, hD2⟩ := hF0.files
          exact (hD2.small nm ps hs).1
        have hls := less_take s.size ps k hlt
        have HS := Lib.hid hls
        clear hC1 hx h1 h3 e1 hls hF0
        generalize (ps[k]).length = n at *
        go_wp2_with fail
        go_roundw
        case measure => rw [show (↑k + 1 : Int) = ((k + 1 : Nat) : Int) by omega]; simp only [intOf, Int.toNat_natCast]; omega
        case rel =>
          have hF1 : FSI wr base own fb mb xb { s with size := less s.size (ps.take k) } := hF
          refine ⟨k + 1, by simp, by omega, ?_, ?_, ?_⟩
          · show FSI _ _ _ _ _ _ _
            rw [HS]
            exact FSI.stored hF1 (Base.Row.set_ hF1.row 2 _) (grownBy_set _ _ _ _) rfl rfl rfl hF1.calls
          · exact Kd.R_grown (show kP.R _ _ _ _ _ _ from hRk) (grownBy_set _ _ _ _) (fun j hj e => by rw [Option.some.inj e, hF1.ofb] at hj; cases hj)
          · exact V6.Frame.trans hFr (V6.Frame.of_grown (grownBy_set _ _ _ _) ofb)
      · have e : k = ps.length := by omega
        subst e
        rw [List.take_length] at hF hF0 z2
        obtain ⟨D2, hD2⟩ := hF0.files
        obtain ⟨w6, hdel, ho6, ht6⟩ := hD2.owns.drop (string_keyed Try.underlying9) Try.underlying50 (key_of hn) 0
        have zz0 : wr.cell? ⟨fb, 0, none⟩ = some (.map (some mb)) := hF0.row.cell 0
        have HO6 := Lib.hid ho6
        have HT6 := Lib.hid (turned_grown ht6)
        have HD2 := Lib.hid hD2
        clear ho6 ht6 hD2 hF0
        go_wp2_with fail
        go_returns
        have F1 : FSI wr base own fb mb xb { s with size := less s.size ps } := hF
        refine ⟨rfl, ?_, V6.Frame.trans hFr (V6.Frame.of_grown HT6 (by rw [F1.omb]; simp))⟩
        obtain ⟨K, X, hX⟩ := F1.faults
        have hg : wr.grownBy w6 (some mb) := HT6
        have lt : ∀ j, own j ≠ none → j < wr.heap.size := fun j hj => (F1.old j hj).2
        have hfm : fb ≠ mb := fun e => by
          have h1 := F1.row
          obtain ⟨es, clock, h2, _⟩ := (show FilesAt _ _ _ _ _ _ from HD2).owns
          unfold Base.Row at h1
          rw [e, h2] at h1
          cases h1
        refine ⟨(hg.block fb (lt fb ofb) (fun e => hfm (Option.some.inj e))).trans F1.row, ⟨_, FilesAt.del HD2 F1.omb F1.old hs HO6 hg _ rfl rfl⟩, ⟨K, X, (hX.step (hg.block xb (lt xb (by rw [F1.oxb]; simp)) (fun e => F1.mx (Option.some.inj e).symm))).owns, hX.at_⟩, F1.ofb, F1.omb, F1.oxb, F1.mx, fun j hj => ?_, F1.calls⟩
        have := F1.old j hj
        have := hg.size
        omega
end Go.Proofs.Ytkdodclenhnfcaa.V8
