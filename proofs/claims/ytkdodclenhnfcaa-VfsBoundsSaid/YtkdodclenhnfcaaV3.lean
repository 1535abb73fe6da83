/- vfs: counted. -/
import Derived.Test.YtkdodclenhnfcaaV2
import Derived.Lib.QuietBelow
import Derived.BigQuiet
namespace Go.Proofs.Ytkdodclenhnfcaa.V3
set_option linter.unusedVariables false
set_option linter.unusedSimpArgs false
open Go Go.RowKit Go.Sort Go.Proofs.Ytkdodclenhnfcaa.Fwd Go.Proofs.YtkdodclenhnfcaaW.PrintWords Go.Maps Go.Proofs.Ytkdodclenhnfcaa.V2

theorem look_fault {W : World} {xb K : Nat} {s : St} {D : DataW Value} (h : FaultsAt W xb s K D) (i : Int) (h1 : -9223372036854775808 ≤ i) (h2 : i ≤ 9223372036854775807) :
    (Instr.lookup 51 (.map (some xb)) (.int .i64 i) false).run Try.prog W = .ok (.bool (s.faults i)) W := by
  have hwf : (Lit.int .i64 i).wf = true := by
    have e : wrap64 i = i := by unfold wrap64; omega
    rw [← e]
    exact wrap64_wf i
  obtain ⟨v, ps, hrun, hv⟩ := h.owns.lookup (int_keyed Try.underlying3) Try.underlying51 (z := .bool false) (zd := .lit (.bool false)) (zp := []) (by kernel_rfl) (plainElem_bool Try.underlying4 false) (keyOf_int_mk Try.underlying3 hwf)
  rw [h.at_ i h1 h2] at hv
  rw [hrun]
  unfold plainElem at hv
  rw [Try.underlying4] at hv
  cases v <;> simp at hv
  rw [hv.1]

theorem grownBy_set (w : World) (g i : Nat) (u : Value) : w.grownBy (w.setCell ⟨g, i, none⟩ u) (some g) := ⟨rfl, rfl, rfl, by simp [World.setCell], fun k hk hne => by simp only [World.setCell, Array.getElem?_modify]; rw [if_neg (fun e => hne (by rw [e]))]⟩
def counted_st (s : St) : St := { s with calls := wrap64 (s.calls + 1), failed := s.failed || s.faults (wrap64 (s.calls + 1)) }
set_option maxHeartbeats 1000000 in
set_option maxRecDepth 100000 in
theorem counted {w : World} {base : Nat} {own : Foot} {fb mb xb : Nat} {s : St} (h : FSI w base own fb mb xb s) :
    Calls Try.prog 26 #[.pointer (some ⟨fb, 0, none⟩)] w fun e w' => e = .returned (.bool (s.faults (wrap64 (s.calls + 1)))) ∧ FSI w' base own fb mb xb (counted_st s) ∧ w.grownBy w' (some fb) := by
  have r := h.row
  have z0 := r.cell 0
  have z1 := r.cell 1
  have z2 := r.cell 2
  have z3 := r.cell 3
  have z4 := r.cell 4
  have z5 := r.cell 5
  have y3 := r.free 3
  have y5 := r.free 5
  simp only [List.getElem?_toArray, List.getElem?_cons_zero, List.getElem?_cons_succ] at z0 z1 z2 z3 z4 z5
  have hc := h.calls
  have hw : -9223372036854775808 ≤ wrap64 (s.calls + 1) ∧ wrap64 (s.calls + 1) ≤ 9223372036854775807 := by unfold wrap64; omega
  have HF := Lib.hid h
  have HR := Lib.hid r
  clear h r
  go_enter Try.func26, Try.ntmps26
  go_wp2_with fail
  have r1 : Base.Row (w.setCell ⟨fb, 3, none⟩ (.int .i64 (wrap64 (s.calls + 1)))) fb 53 (cells mb xb { s with calls := wrap64 (s.calls + 1) }) := Base.Row.set_ HR 3 _
  have g1 : w.grownBy (w.setCell ⟨fb, 3, none⟩ (.int .i64 (wrap64 (s.calls + 1)))) (some fb) := ⟨rfl, rfl, rfl, by simp [World.setCell], fun k hk hne => by simp only [World.setCell, Array.getElem?_modify]; rw [if_neg (fun e => hne (by rw [e]))]⟩
  have f1 := FSI.stored (s' := { s with calls := wrap64 (s.calls + 1) }) HF r1 g1 rfl rfl rfl hw
  generalize w.setCell ⟨fb, 3, none⟩ (.int .i64 (wrap64 (s.calls + 1))) = W at *
  clear z0 z1 z2 z3 z4 z5 y3 y5
  have q (d : Nat) (os : Array Obj) := Base.Row.past r1 (below_regrown W d os)
  have q3 : ∀ (d : Nat) (os : Array Obj), (grow (redrawn W d) os).cell? ⟨fb, 3, none⟩ = some (.int .i64 (wrap64 (s.calls + 1))) := fun d os => (q d os).cell 3
  have q4 : ∀ (d : Nat) (os : Array Obj), (grow (redrawn W d) os).cell? ⟨fb, 4, none⟩ = some (.map (some xb)) := fun d os => (q d os).cell 4
  have q5 : ∀ (d : Nat) (os : Array Obj), (grow (redrawn W d) os).cell? ⟨fb, 5, none⟩ = some (.bool s.failed) := fun d os => (q d os).cell 5
  have hl : ∀ (d : Nat) (os : Array Obj), (Instr.lookup 51 (.map (some xb)) (.int .i64 (wrap64 (s.calls + 1))) false).run Try.prog (grow (redrawn W d) os) = .ok (.bool (s.faults (wrap64 (s.calls + 1)))) (grow (redrawn W d) os) := fun d os => by
    obtain ⟨K, X, hX⟩ := (f1.past (below_regrown W d os)).faults
    exact look_fault hX _ hw.1 hw.2
  have R1 := Lib.hid r1
  have G1 := Lib.hid g1
  have F1 := Lib.hid f1
  clear q r1 g1 f1
  refine wp_region_quiet_below (by kernel_rfl) (by kernel_rfl) ?_
  repeat (first | go_big_quiet_step (fail) | quiet_step (fail))
  refine wpQuiet_nil ?_
  intro _ hw'
  obtain ⟨⟨dq, osq⟩, hw''⟩ := hw'
  subst hw''
  clear q3 q4 q5 hl
  have hbq := below_regrown W dq osq
  show Exit.then _ _ _ _ (grow (redrawn W dq) osq)
  generalize grow (redrawn W dq) osq = V at *
  have r2 := Base.Row.past R1 hbq
  have f2 := FSI.past F1 hbq
  have g2 : w.grownBy V (some fb) := World.grownBy.trans G1 ⟨hbq.os, hbq.tape, hbq.output, hbq.size, fun k hk _ => hbq.block k hk⟩
  have z5 : V.cell? ⟨fb, 5, none⟩ = some (.bool s.failed) := r2.cell 5
  have y5 := r2.free 5
  have R2 := Lib.hid r2
  have F2 := Lib.hid f2
  have G2 := Lib.hid g2
  clear r2 f2 g2 R1 F1 G1 hbq HF HR
  cases hfl : s.failed <;> rw [hfl] at z5
  all_goals go_wp2_with fail
  all_goals go_returns
  all_goals refine ⟨rfl, ?_⟩
  · have h := Base.Row.set_ R2 5 (.bool (s.faults (wrap64 (s.calls + 1))))
    exact ⟨FSI.stored (s' := counted_st s) F2 (by rw [counted_st, hfl]; exact h) (grownBy_set _ _ _ _) rfl rfl rfl hw, World.grownBy.trans G2 (grownBy_set _ _ _ _)⟩
  · have h := Base.Row.set_ R2 5 (.bool true)
    exact ⟨FSI.stored (s' := counted_st s) F2 (by rw [counted_st, hfl]; exact h) (grownBy_set _ _ _ _) rfl rfl rfl hw, World.grownBy.trans G2 (grownBy_set _ _ _ _)⟩
end Go.Proofs.Ytkdodclenhnfcaa.V3
