/- Arguments opened: a value of five fields that came in. -/
import Derived.Test.YtjanfjdiikddaaaRows
import Derived.WalkKit
import Derived.ProofKit
import Derived.OpenShut
import Derived.ShutString
import Derived.ChangeOld
import Derived.Below
import Derived.Lib.SmallJoins
import Derived.Deep.Fields
namespace Go.Proofs.Ytjanfjdiikddaaa.Opens
set_option linter.unusedVariables false
set_option linter.unusedSimpArgs false
open Go.ChangeShapes Go.WideShapes Go.ChangeAt Go.RowKit Go.Joins Go.Deep
open Go.ChangeMaps (open_string shut_string)

theorem own : ownKnob Try.prog.godebug = none := by kernel_rfl
theorem laidOut : laidOutB Try.prog = true := by kernel_rfl
theorem cellsV : Try.prog.cellsOf 26 = 5 := by kernel_rfl

theorem i64_of {n : Int} (h : (Lit.int .i64 n).wf = true) : -9223372036854775808 ≤ n ∧ n ≤ 9223372036854775807 := bounds_i64 h

section
variable {H : Type} {enc : TypeId × Value → H} {w : World} {base : Nat} {spare : Nat → Bool} {held : Bool}
theorem five {α : Type} {l : List α} (h : l.length = 5) : ∃ a b c d e, l = [a, b, c, d, e] := by
  match l, h with
  | [a, b, c, d, e], _ => exact ⟨a, b, c, d, e, rfl⟩
set_option maxRecDepth 100000 in
theorem open_value {r : Reach} {b0 : Nat} {v : Value} {d : DataW H} {p : List MemPlace}
    (hv : Value.okWide Try.prog w r b0 26 v) (h : DataW.Trod enc Try.prog w base spare held 26 v d p) :
    ∃ (k : Int) (b : Bool) (n : Int) (t : ByteArray) (a : Option Addr) (l c : Nat), v = .agg #[.int .i64 k, .bool b, .int .i64 n, .string t, .slice a l c] ∧
      (-9223372036854775808 ≤ k ∧ k ≤ 9223372036854775807) ∧ (-9223372036854775808 ≤ n ∧ n ≤ 9223372036854775807) ∧ t.size ≤ maxLen := by
  obtain ⟨cs, rfl, hsz⟩ := okWide_struct Try.underlying26 hv
  obtain ⟨l⟩ := cs
  obtain ⟨c0, c1, c2, c3, c4, rfl⟩ := five (hsz.trans cellsV)
  obtain ⟨fuel, hf⟩ := h
  obtain ⟨xs, n, _, hx, _, hlen, hg⟩ := DataW.trod_struct Try.underlying26 hf
  have g0 := hg 0 _ rfl
  have g1 := hg 1 _ rfl
  have g2 := hg 2 _ rfl
  have g3 := hg 3 _ rfl
  have g4 := hg 4 _ rfl
  clear hg hf hv
  obtain ⟨y0, y1, y2, y3, y4, rfl⟩ := five hlen
  simp only [List.getElem_toArray, List.getElem_cons_zero, List.getElem_cons_succ] at g0 g1 g2 g3 g4
  rw [show Try.prog.cellsOf 23 = 1 from by kernel_rfl] at g0
  rw [show Try.prog.cellsOf 4 = 1 from by kernel_rfl] at g1
  rw [show Try.prog.cellsOf 2 = 1 from by kernel_rfl] at g2
  rw [show Try.prog.cellsOf 9 = 1 from by kernel_rfl] at g3
  rw [show Try.prog.cellsOf 24 = 1 from by kernel_rfl] at g4
  simp only [Value.cells, List.drop_zero, List.drop_succ_cons, List.take_succ_cons, List.take_zero] at g0 g1 g2 g3 g4
  obtain ⟨k, e0, _, w0⟩ := DataW.trod_int Try.underlying23 g0
  obtain ⟨b, e1, _⟩ := DataW.trod_bool Try.underlying4 g1
  obtain ⟨m, e2, _, w2⟩ := DataW.trod_int Try.underlying2 g2
  obtain ⟨s, e3, _, w3⟩ := DataW.trod_string Try.underlying9 g3
  obtain ⟨a, l, c, e4⟩ := slice_form Try.underlying24 g4
  simp at e0 e1 e2 e3 e4
  subst e0 e1 e2 e3 e4
  exact ⟨k, b, m, s, a, l, c, rfl, i64_of w0, i64_of w2, w3⟩
end
end Go.Proofs.Ytjanfjdiikddaaa.Opens
