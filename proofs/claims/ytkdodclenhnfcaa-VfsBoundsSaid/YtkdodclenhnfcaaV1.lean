/- vfs.named: may a file be called so? -/
import Derived.Test.YtkdodclenhnfcaaProg
import Derived.Test.YtkdodclenhnfcaaFwd
import Derived.Test.YtkdodclenhnfcaaBase
import Derived.Handy
import Derived.LoopTactic
import Derived.Laws.RangeAny
import Derived.Laws.RangeString
namespace Go.Proofs.Ytkdodclenhnfcaa.V1
set_option linter.unusedVariables false
set_option linter.unusedSimpArgs false
open Go Go.RowKit Go.Proofs.Ytkdodclenhnfcaa.Fwd
attribute [local go_sem] fwd_normal fwd_exit fwd_ret fwd_panic fwd_goto

def okR (c : Int) : Bool := (decide (97 ≤ c) && decide (c ≤ 122)) || (decide (48 ≤ c) && decide (c ≤ 57)) || c == 45
def scan (s : ByteArray) : Nat → Nat → Bool
  | 0, _ => true
  | b + 1, pos => if pos < s.size then okR (Utf8.decode s pos).1 && scan s b (pos + (Utf8.decode s pos).2) else true
/-- a name that may be -/
def nm (s : ByteArray) : Bool := !(s.size == 0) && decide (s.size ≤ 32) && scan s s.size 0
theorem width_pos (s : ByteArray) (pos : Nat) (h : pos < s.size) : 1 ≤ (Utf8.decode s pos).2 := by
  by_cases ha : (s[pos]'h).toNat < 128
  · rw [decode_ascii s pos h ha]
    exact Nat.le_refl _
  · exact (decode_high s pos h (by omega)).2
theorem scan_end (s : ByteArray) (b pos : Nat) (h : ¬ pos < s.size) : scan s b pos = true := by
  cases b with
  | zero => rfl
  | succ b => simp [scan, h]

set_option maxHeartbeats 1000000 in
set_option maxRecDepth 100000 in
theorem named (s : ByteArray) (w : World) (hs : s.size ≤ 9223372036854775807) :
    Calls Try.prog 25 #[.string s] w fun e w' => e = .returned (.bool (nm s)) ∧ Below w.heap.size w w' := by
  go_enter Try.func25, Try.ntmps25
  go_wp2_with fail
  refine wp_scope_fwd 0 _ rfl ?_
  by_cases h0 : s.size = 0
  · have hn : nm s = false := by simp [nm, h0]
    go_wp2_with fail
    go_step3
    simp only [Exit.then, Exit.inBlock, fwd_goto]
    go_wp2_with fail
    rw [Exit.noGoto_ret]
    go_returns
    exact ⟨by rw [hn]; rfl, Below.refl _ _⟩
  · have hz : ((s.size : Int) == 0) = false := by simp [h0]
    by_cases h1 : s.size ≤ 32
    · have hl : decide (32 < (s.size : Int)) = false := decide_eq_false (by omega)
      have hn : nm s = scan s s.size 0 := by simp [nm, h0, h1]
      go_wp2_with fail
      go_loopw [4] (fun v4 w' => ∃ pos b : Nat, w' = w.iter s pos ∧ scan s b pos = scan s s.size 0 ∧ s.size ≤ pos + b) (fun _ w' => s.size - w'.iterPos w.heap.size)
      case atStart => exact ⟨0, s.size, rfl, rfl, by omega⟩
      case round =>
        obtain ⟨pos, b, rfl, hc, hb⟩ := hrel
        by_cases hp : pos < s.size
        · have hnx : ∀ ty, (Instr.next (.pointer (some ⟨w.heap.size, 0, none⟩)) true ty).run Try.prog (w.iter s pos) = _ := fun ty => run_next_any w s pos ty hp
          have hwd := width_pos s pos hp
          obtain ⟨b, rfl⟩ : ∃ b', b = b' + 1 := ⟨b - 1, by omega⟩
          rw [scan, if_pos hp] at hc
          go_wp2_with fail
          all_goals first
            | (have hok : okR (Utf8.decode s pos).1 = true := by
                unfold okR
                simp_all <;> omega
               rw [hok, Bool.true_and] at hc
               refine ⟨⟨_, b, rfl, hc, by omega⟩, ?_⟩
               rw [World.iterPos_iter, World.iterPos_iter]
               omega)
            | (have hok : okR (Utf8.decode s pos).1 = false := by
                unfold okR
                simp_all <;> omega
               rw [hok, Bool.false_and] at hc
               go_step3
               simp (config := { zetaDelta := true }) only [Exit.then, Exit.inBlock, fwd_goto]
               go_wp2_with fail
               rw [Exit.noGoto_ret]
               go_returns
               exact ⟨by rw [hn, ← hc]; rfl, (Below.refl _ _).alloc (Nat.le_refl _) _⟩)
            | skip
          all_goals go_goals
        · have hnx : ∀ ty, (Instr.next (.pointer (some ⟨w.heap.size, 0, none⟩)) true ty).run Try.prog (w.iter s pos) = _ := fun ty => run_next_end w s pos ty hp
          go_wp2_with fail
          rw [fwd_ret]
          go_returns
          rw [hn, ← hc, scan_end s b pos hp]
          exact ⟨rfl, (Below.refl _ _).alloc (Nat.le_refl _) _⟩
    · have hl : decide (32 < (s.size : Int)) = true := decide_eq_true (by omega)
      have hn : nm s = false := by simp [nm, h1]
      go_wp2_with fail
      go_step3
      simp only [Exit.then, Exit.inBlock, fwd_goto]
      go_wp2_with fail
      rw [Exit.noGoto_ret]
      go_returns
      exact ⟨by rw [hn]; rfl, Below.refl _ _⟩
end Go.Proofs.Ytkdodclenhnfcaa.V1
