/- Arguments opened: slices of numbers, of bytes' slices, of calls, that came in. -/
import Derived.Test.YtkdodclenhnfcaaRows
import Derived.Test.YtkdodclenhnfcaaWWords
import Derived.WalkKit
import Derived.ProofKit
import Derived.OpenShut
import Derived.ShutString
import Derived.ChangeOld
import Derived.Below
import Derived.Lib.SmallJoins
import Derived.Deep.Fields
import Derived.Deep.Slices
namespace Go.Proofs.Ytkdodclenhnfcaa.Opens
set_option linter.unusedVariables false
set_option linter.unusedSimpArgs false
open Go.ChangeShapes Go.WideShapes Go.ChangeAt Go.RowKit Go.Joins Go.Deep Go.Proofs.YtkdodclenhnfcaaW.PrintWords
open Go.ChangeMaps (open_string shut_string)

theorem own : ownKnob Try.prog.godebug = none := by kernel_rfl
theorem laidOut : laidOutB Try.prog = true := by kernel_rfl

theorem i64_of {n : Int} (h : (Lit.int .i64 n).wf = true) : -9223372036854775808 ≤ n ∧ n ≤ 9223372036854775807 := bounds_i64 h

section
variable {H : Type} {enc : TypeId × Value → H} {P : Program} {w : World} {base : Nat} {spare : Nat → Bool} {held : Bool}
/-- a slice that came in, as a row of any kind -/
theorem C_of_trod {α : Type} [Inhabited α] (d : Kd α) {t e : TypeId} {fuel : Nat} {cs : List Value} {x : DataW H × List MemPlace} (p : α → Prop) (ht : P.underlying t = some (.slice e)) (hsz : P.cellsOf e = d.sz)
    (hel : ∀ n, fuel = n + 1 → ∀ cs x, DataW.trod enc P w base spare held n e cs = some x → ∃ v, d.K w v cs ∧ p v) (h : DataW.trod enc P w base spare held fuel t cs = some x) :
    ∃ (A : Option Addr) (l : List α) (c : Nat), cs = [.slice A l.length c] ∧ l.length ≤ c ∧ d.C w A l.length l ∧ ∀ x ∈ l, p x := by
  rcases DataW.trod_slice ht h with ⟨rfl, _⟩ | ⟨a, len, cap, elems, rest, n, hf, rfl, rfl, hb, hl, hm, hlen, hi, _, _⟩
  · exact ⟨none, [], 0, rfl, Nat.le_refl _, Kd.C_nil _ _, by simp⟩
  · obtain ⟨f, hF⟩ := choose_lt (α := α) (n := len) (p := fun i v => ∃ c, c.length = d.sz ∧ d.K w v c ∧ p v ∧ ∀ j u, c[j]? = some u → w.cell? (a.add (i * d.sz + j)) = some u) (fun i hlt => by
      have h1 := hi i hlt
      rw [List.getElem?_eq_getElem (by omega)] at h1
      obtain ⟨c, h2, h3⟩ := Option.bind_eq_some_iff.1 h1
      obtain ⟨_, h4, h5⟩ := World.cells?_some h2
      obtain ⟨v, hk, hp⟩ := hel n hf c _ h3
      refine ⟨v, c, h4.trans hsz, hk, hp, fun j u hu => ?_⟩
      have hj : j < P.cellsOf e := by
        rw [← h4]
        exact (List.getElem?_eq_some_iff.1 hu).1
      have h6 := h5 j hj
      rw [hu, Go.Deep.add_add, hsz] at h6
      exact h6)
    refine ⟨some a, (List.range len).map f, cap, by simp, by simpa using hl, ⟨rfl, ?_, fun _ => ⟨a, rfl, fun j q hq => ?_⟩⟩, ?_⟩
    · simp only [List.length_map, List.length_range]
      exact Nat.le_trans hl (Nat.le_trans hm (by decide))
    · obtain ⟨hlt, rfl⟩ := List.getElem?_eq_some_iff.1 hq
      simp only [List.length_map, List.length_range] at hlt
      obtain ⟨c, h1, h2, _, h3⟩ := hF j hlt
      exact ⟨c, h1, by simpa using h2, h3⟩
    · intro y hy
      simp only [List.mem_map, List.mem_range] at hy
      obtain ⟨i, hlt, rfl⟩ := hy
      obtain ⟨_, _, _, hp, _⟩ := hF i hlt
      exact hp
theorem open_ints {k : IntKind} {t e : TypeId} (p : Int → Prop) (ht : P.underlying t = some (.slice e)) (hsz : P.cellsOf e = 1) (he : P.underlying e = some (.int k)) (hp : ∀ q : Int, (Lit.int k q).wf = true → p q) {fuel : Nat} {cs : List Value} {x : DataW H × List MemPlace} (h : DataW.trod enc P w base spare held fuel t cs = some x) :
    ∃ (A : Option Addr) (l : List Int) (c : Nat), cs = [.slice A l.length c] ∧ l.length ≤ c ∧ (Kd.int k).C w A l.length l ∧ ∀ x ∈ l, p x :=
  C_of_trod (Kd.int k) p ht hsz (fun n _ cs x hx => by
    obtain ⟨q, rfl, _, hw⟩ := DataW.trod_int he hx
    exact ⟨q, rfl, hp q hw⟩) h
end
end Go.Proofs.Ytkdodclenhnfcaa.Opens
