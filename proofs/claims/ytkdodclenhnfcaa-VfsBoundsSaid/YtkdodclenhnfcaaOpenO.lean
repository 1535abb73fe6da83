/- Arguments opened: calls that came in. -/
import Derived.Test.YtkdodclenhnfcaaOpen
import Derived.Test.YtkdodclenhnfcaaVD
namespace Go.Proofs.Ytkdodclenhnfcaa.Opens
set_option linter.unusedVariables false
set_option linter.unusedSimpArgs false
open Go.ChangeShapes Go.WideShapes Go.ChangeAt Go.RowKit Go.Joins Go.Deep Go.Proofs.YtkdodclenhnfcaaW.PrintWords Go.Proofs.Ytkdodclenhnfcaa.VD
open Go.ChangeMaps (open_string shut_string)

section
variable {H : Type} {enc : TypeId × Value → H} {w : World} {base : Nat} {spare : Nat → Bool} {held : Bool}
theorem four {α : Type} {l : List α} (h : l.length = 4) : ∃ a b c d, l = [a, b, c, d] := by
  match l, h with
  | [a, b, c, d], _ => exact ⟨a, b, c, d, rfl⟩
def byte (x : Int) : Prop := 0 ≤ x ∧ x ≤ 255
/-- what a call that came in keeps -/
def goodOp (o : OpS) : Prop := (-9223372036854775808 ≤ o.what ∧ o.what ≤ 9223372036854775807) ∧ o.name.size ≤ maxLen ∧ (∀ x ∈ o.b, byte x) ∧ (-9223372036854775808 ≤ o.n ∧ o.n ≤ 9223372036854775807)
set_option maxRecDepth 100000 in
theorem trod_op {fuel : Nat} {cs : List Value} {x : DataW H × List MemPlace} (h : DataW.trod enc Try.prog w base spare held fuel 37 cs = some x) : ∃ o : OpS, kOp.K w o cs ∧ goodOp o := by
  obtain ⟨xs, n, _, hx, hl, hlen, hg⟩ := DataW.trod_struct Try.underlying37 h
  obtain ⟨c0, c1, c2, c3, rfl⟩ := four (hl.trans (show Try.prog.cellsOf 37 = 4 from by kernel_rfl))
  have g0 := hg 0 _ rfl
  have g1 := hg 1 _ rfl
  have g2 := hg 2 _ rfl
  have g3 := hg 3 _ rfl
  obtain ⟨y0, y1, y2, y3, rfl⟩ := four hlen
  simp only [List.getElem_toArray, List.getElem_cons_zero, List.getElem_cons_succ, List.getElem?_cons_zero, List.getElem?_cons_succ] at g0 g1 g2 g3
  rw [show Try.prog.cellsOf 3 = 1 from by kernel_rfl] at g0 g3
  rw [show Try.prog.cellsOf 9 = 1 from by kernel_rfl] at g1
  rw [show Try.prog.cellsOf 29 = 1 from by kernel_rfl] at g2
  simp only [List.drop_zero, List.drop_succ_cons, List.take_succ_cons, List.take_zero] at g0 g1 g2 g3
  obtain ⟨k, e0, _, w0⟩ := DataW.trod_int Try.underlying3 g0
  obtain ⟨s, e1, _, w1⟩ := DataW.trod_string Try.underlying9 g1
  obtain ⟨A, l, c, e2, hlc, hC, hr⟩ := open_ints (k := .u8) byte Try.underlying29 (by kernel_rfl) Try.underlying5 (fun q h => bounds_u8 h) g2
  obtain ⟨m, e3, _, w3⟩ := DataW.trod_int Try.underlying3 g3
  simp at e0 e1 e2 e3
  subst e0 e1 e2 e3
  exact ⟨⟨k, s, l, m⟩, kOp_mk w ⟨k, s, l, m⟩ hlc hC, i64_of w0, w1, hr, i64_of w3⟩
theorem open_ops {fuel : Nat} {cs : List Value} {x : DataW H × List MemPlace} (h : DataW.trod enc Try.prog w base spare held fuel 34 cs = some x) :
    ∃ (A : Option Addr) (l : List OpS) (c : Nat), cs = [.slice A l.length c] ∧ l.length ≤ c ∧ kOp.C w A l.length l ∧ ∀ x ∈ l, goodOp x :=
  C_of_trod (P := Try.prog) kOp goodOp Try.underlying34 (by kernel_rfl) (fun n _ cs x hx => trod_op hx) h
theorem open_pages {fuel : Nat} {cs : List Value} {x : DataW H × List MemPlace} (h : DataW.trod enc Try.prog w base spare held fuel 33 cs = some x) :
    ∃ (A : Option Addr) (l : List (List Int)) (c : Nat), cs = [.slice A l.length c] ∧ l.length ≤ c ∧ (Kd.slice 5 (Kd.int .u8)).C w A l.length l ∧ ∀ x ∈ l, ∀ y ∈ x, byte y :=
  C_of_trod (P := Try.prog) (Kd.slice 5 (Kd.int .u8)) (fun x => ∀ y ∈ x, byte y) Try.underlying33 (by kernel_rfl) (fun n _ cs x hx => by
    obtain ⟨A, l, c, e, hlc, hC, hr⟩ := open_ints (k := .u8) byte Try.underlying29 (by kernel_rfl) Try.underlying5 (fun q h => bounds_u8 h) hx
    exact ⟨l, ⟨A, c, e, hlc, hC⟩, hr⟩) h
end
end Go.Proofs.Ytkdodclenhnfcaa.Opens
