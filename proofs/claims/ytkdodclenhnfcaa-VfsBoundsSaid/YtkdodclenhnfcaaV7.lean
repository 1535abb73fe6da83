/- vfs: New. -/
import Derived.Test.YtkdodclenhnfcaaV6
namespace Go.Proofs.Ytkdodclenhnfcaa.V7
set_option linter.unusedVariables false
set_option linter.unusedSimpArgs false
open Go Go.RowKit Go.Sort Go.Proofs.YtkdodclenhnfcaaW.PrintWords Go.Maps Go.Proofs.Ytkdodclenhnfcaa.V2 Go.Proofs.Ytkdodclenhnfcaa.V3 Go.Proofs.Ytkdodclenhnfcaa.V4 Go.Proofs.Ytkdodclenhnfcaa.V5 Go.Proofs.Ytkdodclenhnfcaa.V6

/-- a new file system -/
def new_st (q : Int) (l : List Int) : St := { files := fun _ => none, many := 0, quota := q, size := 0, calls := 0, faults := fun i => l.contains i, failed := false }
def own0 (n : Nat) : Foot := fun k => if k = n ∨ k = n + 1 ∨ k = n + 2 then some none else none
theorem files_new {w : World} {base mb : Nat} {own : Foot} {q : Int} {l : List Int} (h : w.ownsMap Try.prog 9 V2.hv mb 0 (.map [])) : FilesAt w base own mb (new_st q l) (.map []) :=
  ⟨h, Maps.tidy_empty, rfl, fun nm => rfl, fun nm ps hp => by simp [new_st] at hp, fun nm ps hp => by simp [new_st] at hp, by simp [new_st]⟩
set_option maxHeartbeats 1000000 in
set_option maxRecDepth 100000 in
theorem new (q : Int) (A : Option Addr) (c : Nat) (l : List Int) (w : World) (hC : Kd.C (Kd.int .i64) w A l.length l) (hc : l.length ≤ c) (hr : ∀ x ∈ l, -9223372036854775808 ≤ x ∧ x ≤ 9223372036854775807) :
    Calls Try.prog 10 #[.int .i64 q, .slice A l.length c] w fun e w' => e = .returned (.pointer (some ⟨w.heap.size + 2, 0, none⟩)) ∧ FSI w' w.heap.size (own0 w.heap.size) (w.heap.size + 2) w.heap.size (w.heap.size + 1) (new_st q l) ∧ Below w.heap.size w w' := by
  have hm := Kd.C_max hC
  have hmm := @run_makeMap Try.prog
  have HC := Lib.hid hC
  clear hC
  go_enter Try.func10, Try.ntmps10
  go_wp2_with fail
  go_loopw [15] (fun v15 wr => ∃ (k K : Nat) (D : DataW Value), v15 = .int .i64 k ∧ k ≤ l.length ∧ Hid (wr.ownsMap Try.prog 9 V2.hv w.heap.size 0 (.map [])) ∧ Hid (wr.ownsMap Try.prog 3 (plainElem Try.prog 4) (w.heap.size + 1) K D) ∧ Hid (∀ i : Int, D.atKey (.int .i64 i) (.lit (.bool false)) = .lit (.bool ((l.take k).contains i))) ∧ Hid (K ≤ k) ∧ Hid (Maps.IsMap D) ∧ Hid (Base.Row wr (w.heap.size + 1 + 1) 53 (cells w.heap.size (w.heap.size + 1) (new_st q l))) ∧ Hid (Below w.heap.size w wr)) (fun v15 _ => l.length - (intOf v15).toNat)
  case atStart =>
    refine ⟨0, 0, .map [], rfl, Nat.zero_le _, ?_, ?_, fun i => by simp [DataW.atKey], Nat.le_refl _, Maps.isMap_empty, ?_, ?_⟩
    · exact ((World.ownsMap_made w _ _ _).alloc _).alloc _
    · have h := World.ownsMap_made (H := Value) (w.alloc (.map #[] 0)) Try.prog 3 (plainElem Try.prog 4)
      simp only [World.size_alloc] at h
      exact h.alloc _
    · have h := Base.Row.new ((w.alloc (.map #[] 0)).alloc (.map #[] 0)) 53 (cells w.heap.size (w.heap.size + 1) (new_st q l))
      simp only [World.size_alloc] at h
      exact h
    · exact below_alloc (below_alloc (below_alloc (Below.refl _ _) _) _) _
  case round =>
    obtain ⟨k, K, D, rfl, hk, hF, hX, hat, hK, hD, hR, hB⟩ := hrel
    by_cases hlt : k < l.length
    · have hc1 := Kd.C_below HC hB
      obtain ⟨ad, e, hx⟩ := hc1.2.2 (by omega)
      obtain ⟨cs, h1, h2, h3⟩ := hx k _ (List.getElem?_eq_getElem hlt)
      subst e
      have hz0 := h3 0 (.int .i64 l[k]) (by have e : cs = [.int .i64 l[k]] := h2; rw [e]; rfl)
      have hz : wr.cell? (ad.add k) = some (.int .i64 l[k]) := by
        have e : k * (Kd.sz (Kd.int .i64)) + 0 = k := Nat.mul_one k
        rw [e] at hz0
        exact hz0
      have hb := hr l[k] (List.getElem_mem hlt)
      have hwf : (Lit.int .i64 l[k]).wf = true := by
        have e : wrap64 l[k] = l[k] := by unfold wrap64; omega
        rw [← e]
        exact wrap64_wf _
      have hz4 : wr.cell? ⟨w.heap.size + 1 + 1, 4, none⟩ = some (.map (some (w.heap.size + 1))) := Base.Row.cell hR 4
      obtain ⟨w6, hrun, ho6, hg6⟩ := World.ownsMap.update hX (int_keyed Try.underlying3) Try.underlying51 (Nat.lt_of_le_of_lt hK (Nat.lt_of_lt_of_le hlt hm)) (keyOf_int_mk Try.underlying3 hwf) (plainElem_bool Try.underlying4 true)
      have HO := Lib.hid ho6
      have HG := Lib.hid hg6
      clear ho6 hg6 hx h1 h2 h3 hz0 hc1
      generalize hxk : l[k] = x at *
      go_wp2_with fail
      have hts : l.take (k + 1) = l.take k ++ [x] := by rw [List.take_succ_eq_append_getElem hlt, hxk]
      have hsz := (show Base.Row wr (w.heap.size + 1 + 1) _ _ from hR).lt
      refine ⟨⟨k + 1, K + 1, D.put (.int .i64 x) (.lit (.bool true)), by simp, by omega, World.ownsMap.kept hF HG (by simp), HO, fun i => ?_, Nat.succ_le_succ hK, Maps.IsMap.put hD _ _, (World.grownBy.block HG _ hsz (by simp)).trans hR, Below.grown hB HG (Below.size hB) (fun g e => by have := Option.some.inj e; omega)⟩, ?_⟩
      · rw [hts]
        by_cases hix : i = x
        · subst hix
          rw [Maps.atKey_put_same hD (by first | exact trivial | simp [WideAt.IsKeyLit])]
          simp
        · rw [Maps.atKey_put_other (fun e => hix (by injection e)), (show ∀ i : Int, _ from hat) i]
          simp [List.contains_append, hix]
      · rw [show (↑k + 1 : Int) = ((k + 1 : Nat) : Int) by omega]
        simp only [intOf, Int.toNat_natCast]
        omega
    · have e : k = l.length := by omega
      subst e
      rw [List.take_length] at hat
      have hsz := (show Base.Row wr (w.heap.size + 1 + 1) _ _ from hR).lt
      go_wp2_with fail
      go_returns
      refine ⟨rfl, ⟨hR, ⟨_, files_new hF⟩, ⟨K, D, hX, fun i _ _ => (show ∀ i : Int, _ from hat) i⟩, by simp [own0], by simp [own0], by simp [own0], by omega, fun k hk => ?_, by simp [new_st]⟩, hB⟩
      unfold own0 at hk
      by_cases h0 : k = w.heap.size ∨ k = w.heap.size + 1 ∨ k = w.heap.size + 2
      · omega
      · rw [if_neg h0] at hk
        exact absurd rfl hk
end Go.Proofs.Ytkdodclenhnfcaa.V7
