/- slices.Clone at []byte. -/
import Derived.Test.YtkdodclenhnfcaaV3
import Derived.Laws.OwnMore
import Derived.Lib.SliceRun
namespace Go.Proofs.Ytkdodclenhnfcaa.V4
set_option linter.unusedVariables false
set_option linter.unusedSimpArgs false
open Go Go.RowKit Go.Sort Go.Proofs.Ytkdodclenhnfcaa.Fwd Go.Proofs.YtkdodclenhnfcaaW.PrintWords Go.Maps Go.Proofs.Ytkdodclenhnfcaa.V2 Go.Proofs.Ytkdodclenhnfcaa.V3

theorem info_u8 : (Try.prog.info? 5).map (fun i => (i.zero, i.size, i.bytes)) = some (some (.int .u8 0), 1, 1) := by kernel_rfl
theorem info_bytes : (Try.prog.info? 29).map (fun i => (i.zero, i.size, i.bytes)) = some (some (.slice none 0 0), 1, 24) := by kernel_rfl
set_option maxHeartbeats 1000000 in
set_option maxRecDepth 100000 in
theorem clone (A : Option Addr) (c : Nat) (xs : List Int) (w : World) (hC : Kd.C (Kd.int .u8) w A xs.length xs) (hc : xs.length ≤ c) (hn : xs.length ≤ 1048576) :
    Calls Try.prog 27 #[.slice A xs.length c] w fun e w' => ∃ v, e = .returned v ∧ Kd.R (Kd.int .u8) 5 w' w.heap.size (fun k => w.heap.size ≤ k) v xs ∧ Below w.heap.size w w' := by
  have hq := fun (W : World) (A : Option Addr) (n : Nat) => @Go.Lib.run_eql_slice_nil Try.prog W 29 5 A n c 0 0 Try.underlying29
  go_enter Try.func27, Try.ntmps27
  cases A with
  | none =>
    have hx : xs = [] := by
      cases xs with
      | nil => rfl
      | cons x xs =>
        obtain ⟨ad, h0, _⟩ := hC.2.2 (by simp)
        cases h0
    subst hx
    have hq1 : ∀ W, (binOp .eql 29 (.slice none 0 c) (.slice none 0 0)).run Try.prog W = .ok (.bool true) W := fun W => hq W none 0
    clear hq
    go_wp2_with fail
    go_returns
    exact ⟨_, rfl, Kd.R_nil _ _ _ _ _, Below.refl _ _⟩
  | some ad =>
    have hq1 : ∀ W, (binOp .eql 29 (.slice (some ad) xs.length c) (.slice none 0 0)).run Try.prog W = .ok (.bool false) W := fun W => hq W (some ad) xs.length
    clear hq
    have HO : Hid (Kd.R (Kd.int .u8) 5 (w.alloc (.cells #[] 5)) w.heap.size (fun k => w.heap.size ≤ k) (.slice (some ⟨w.heap.size, 0, none⟩) 0 0) []) := by
      refine Kd.R_of_own ?_ (fun k hk => ?_)
      · exact World.ownsRow_lit (base := w.heap.size) (size := 1) w #[] 0 (Nat.le_refl _) (by decide) rfl
      · simp [Value.ownBlock] at hk
        omega
    have HB : Hid (Below w.heap.size w (w.alloc (.cells #[] 5))) := below_alloc (Below.refl _ _) _
    go_wp2_with (at_builtin; refine Kd.R_append_rows (Kd.int .u8) (w0 := w) w.heap.size rfl (.tmp 5) (.tmp 6) 29 5 (.int .u8 0) 1 rfl Try.underlying29 info_u8 rfl (by decide) (by omega) (.slice (some ⟨w.heap.size, 0, none⟩) 0 0) [] xs (some ad) xs.length c (fun k => w.heap.size ≤ k) (fun _ => False) rfl rfl HO (Kd.C_alloc hC _) (fun x cs h => h) (fun _ hk => hk.elim) (fun k hk => ?hF) HB (by simp) (by simp; omega) ?_; (case hF => simp at hk; omega); intro v1 w1 ho1 hb1 hg1 _)
    go_returns
    exact ⟨v1, rfl, ho1, hb1⟩
end Go.Proofs.Ytkdodclenhnfcaa.V4
