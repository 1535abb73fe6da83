/- Arguments opened: a tree of terms that came in, as the print's own kind. -/
import Derived.Test.YtjanfjdiikddaaaOpen
import Derived.Test.YtjanfjdiikddaaaQSafex0
import Derived.Deep.Slices
namespace Go.Proofs.Ytjanfjdiikddaaa.OpenT
set_option linter.unusedVariables false
set_option linter.unusedSimpArgs false
open Go.ChangeShapes Go.WideShapes Go.ChangeAt Go.RowKit Go.Joins Go.Deep Go.Proofs.YtjanfjdiikddaaaW.PrintWords Go.Proofs.YtjanfjdiikddaaaW.PrintLast Go.Proofs.YtjanfjdiikddaaaW.PrintMore Go.Proofs.Ytjanfjdiikddaaa.QSafe Go.Proofs.Ytjanfjdiikddaaa.Opens

section
variable {H : Type} {enc : TypeId × Value → H} {P : Program} {w : World} {base : Nat} {spare : Nat → Bool} {held : Bool}
/-- a slice that came in, as a row of any kind -/
theorem C_of_trod {α : Type} [Inhabited α] (d : Kd α) {t e : TypeId} {fuel : Nat} {cs : List Value} {x : DataW H × List MemPlace} (p : α → Prop) (ht : P.underlying t = some (.slice e)) (hsz : P.cellsOf e = d.sz)
    (hel : ∀ n, fuel = n + 1 → ∀ cs x, DataW.trod enc P w base spare held n e cs = some x → ∃ v, d.K w v cs ∧ p v) (h : DataW.trod enc P w base spare held fuel t cs = some x) :
    ∃ (A : Option Addr) (l : List α) (c : Nat), cs = [.slice A l.length c] ∧ l.length ≤ c ∧ d.C w A l.length l ∧ ∀ x ∈ l, p x := by
  rcases DataW.trod_slice ht h with ⟨rfl, _⟩ | ⟨a, len, cap, elems, rest, n, hf, rfl, rfl, hb, hl, hm, hlen, hi, _, _⟩
  · exact ⟨none, [], 0, rfl, Nat.le_refl _, Kd.C_nil _ _, by simp⟩
  · obtain ⟨f, hF⟩ := choose_lt (α := α) (n := len) (p := fun i v => ∃ c, c.length = d.sz ∧ d.K w v c ∧ p v ∧ ∀ j u, c[j]? = some u → w.cell? (a.add (i * d.sz + j)) = some u) (fun i hlt => by
      have h1 := hi i hlt
      rw [List.getElem?_eq_getElem (by omega)] at h1
      obtain ⟨c, h2, h3⟩ := Option.bind_eq_some_iff.1 h1
      obtain ⟨_, h4, h5⟩ := World.cells?_some h2
      obtain ⟨v, hk, hp⟩ := hel n hf c _ h3
      refine ⟨v, c, h4.trans hsz, hk, hp, fun j u hu => ?_⟩
      have hj : j < P.cellsOf e := by
        rw [← h4]
        exact (List.getElem?_eq_some_iff.1 hu).1
      have h6 := h5 j hj
      rw [hu, Go.Deep.add_add, hsz] at h6
      exact h6)
    refine ⟨some a, (List.range len).map f, cap, by simp, by simpa using hl, ⟨rfl, ?_, fun _ => ⟨a, rfl, fun j q hq => ?_⟩⟩, ?_⟩
    · simp only [List.length_map, List.length_range]
      exact Nat.le_trans hl (Nat.le_trans hm (by decide))
    · obtain ⟨hlt, rfl⟩ := List.getElem?_eq_some_iff.1 hq
      simp only [List.length_map, List.length_range] at hlt
      obtain ⟨c, h1, h2, _, h3⟩ := hF j hlt
      exact ⟨c, h1, by simpa using h2, h3⟩
    · intro y hy
      simp only [List.mem_map, List.mem_range] at hy
      obtain ⟨i, hlt, rfl⟩ := hy
      obtain ⟨_, _, _, hp, _⟩ := hF i hlt
      exact hp

theorem nine {α : Type} {l : List α} (h : l.length = 9) : ∃ a b c d e f g i j, l = [a, b, c, d, e, f, g, i, j] := by
  match l, h with
  | [a, b, c, d, e, f, g, i, j], _ => exact ⟨a, b, c, d, e, f, g, i, j, rfl⟩

/-- what every value that came in keeps: its number is a number of 64 bits -/
def goodV (v : S26) : Prop := (-9223372036854775808 ≤ v.f0 ∧ v.f0 ≤ 9223372036854775807) ∧ (-9223372036854775808 ≤ v.f2 ∧ v.f2 ≤ 9223372036854775807) ∧ v.f3.size ≤ maxLen
set_option maxRecDepth 100000 in
theorem trod_value {fuel : Nat} {cs : List Value} {x : DataW H × List MemPlace} (h : DataW.trod enc Try.prog w base spare held fuel 26 cs = some x) :
    ∃ (v : S26) (A : Option Addr) (c : Nat), cs = [.int .i64 v.f0, .bool v.f1, .int .i64 v.f2, .string v.f3, .slice A v.f4.length c] ∧ v.f4.length ≤ c ∧ (Kd.int .i64).C w A v.f4.length v.f4 ∧ goodV v := by
  obtain ⟨xs, n, _, hx, hl, hlen, hg⟩ := DataW.trod_struct Try.underlying26 h
  obtain ⟨c0, c1, c2, c3, c4, rfl⟩ := five (hl.trans cellsV)
  have g0 := hg 0 _ rfl
  have g1 := hg 1 _ rfl
  have g2 := hg 2 _ rfl
  have g3 := hg 3 _ rfl
  have g4 := hg 4 _ rfl
  obtain ⟨y0, y1, y2, y3, y4, rfl⟩ := five hlen
  simp only [List.getElem_toArray, List.getElem_cons_zero, List.getElem_cons_succ, List.getElem?_cons_zero, List.getElem?_cons_succ] at g0 g1 g2 g3 g4
  rw [show Try.prog.cellsOf 23 = 1 from by kernel_rfl] at g0
  rw [show Try.prog.cellsOf 4 = 1 from by kernel_rfl] at g1
  rw [show Try.prog.cellsOf 2 = 1 from by kernel_rfl] at g2
  rw [show Try.prog.cellsOf 9 = 1 from by kernel_rfl] at g3
  rw [show Try.prog.cellsOf 24 = 1 from by kernel_rfl] at g4
  simp only [List.drop_zero, List.drop_succ_cons, List.take_succ_cons, List.take_zero] at g0 g1 g2 g3 g4
  obtain ⟨k, e0, _, w0⟩ := DataW.trod_int Try.underlying23 g0
  obtain ⟨b, e1, _⟩ := DataW.trod_bool Try.underlying4 g1
  obtain ⟨m, e2, _, w2⟩ := DataW.trod_int Try.underlying2 g2
  obtain ⟨s, e3, _, w3⟩ := DataW.trod_string Try.underlying9 g3
  obtain ⟨A, l, c, e4, hlc, hC, _⟩ := C_of_trod (P := Try.prog) (Kd.int .i64) (fun _ => True) Try.underlying24 (by kernel_rfl) (fun n _ cs x hx => by
    obtain ⟨q, rfl, _, _⟩ := DataW.trod_int Try.underlying2 hx
    exact ⟨q, rfl, trivial⟩) g4
  simp at e0 e1 e2 e3 e4
  subst e0 e1 e2 e3 e4
  exact ⟨⟨k, b, m, s, l⟩, A, c, rfl, hlc, hC, i64_of w0, i64_of w2, w3⟩

instance : Inhabited S33 := ⟨⟨0, [], 0, ⟨#[]⟩, ⟨0, false, 0, ⟨#[]⟩, []⟩⟩⟩
mutual
def goodT : S33 → Prop
  | ⟨op, kids, sl, nm, v⟩ => (-9223372036854775808 ≤ op ∧ op ≤ 9223372036854775807) ∧ (-9223372036854775808 ≤ sl ∧ sl ≤ 9223372036854775807) ∧ nm.size ≤ maxLen ∧ goodV v ∧ goodL kids
def goodL : List S33 → Prop
  | [] => True
  | t :: r => goodT t ∧ goodL r
end
theorem goodL_iff (l : List S33) : goodL l ↔ ∀ t ∈ l, goodT t := by
  induction l with
  | nil => simp [goodL]
  | cons t r ih => simp [goodL, ih]

set_option maxRecDepth 100000 in
theorem trod_term : ∀ (fuel : Nat) {cs : List Value} {x : DataW H × List MemPlace}, DataW.trod enc Try.prog w base spare held fuel 33 cs = some x → ∃ v : S33, k33.K w v cs ∧ goodT v := by
  intro fuel
  induction fuel using Nat.strongRecOn with
  | _ fuel ih =>
  intro cs x h
  obtain ⟨xs, n, hn, hx, hl, hlen, hg⟩ := DataW.trod_struct Try.underlying33 h
  obtain ⟨c0, c1, c2, c3, c4, c5, c6, c7, c8, rfl⟩ := nine (hl.trans (show Try.prog.cellsOf 33 = 9 from by kernel_rfl))
  have g0 := hg 0 _ rfl
  have g1 := hg 1 _ rfl
  have g2 := hg 2 _ rfl
  have g3 := hg 3 _ rfl
  have g4 := hg 4 _ rfl
  obtain ⟨y0, y1, y2, y3, y4, rfl⟩ := five hlen
  simp only [List.getElem_toArray, List.getElem_cons_zero, List.getElem_cons_succ, List.getElem?_cons_zero, List.getElem?_cons_succ] at g0 g1 g2 g3 g4
  rw [show Try.prog.cellsOf 22 = 1 from by kernel_rfl] at g0
  rw [show Try.prog.cellsOf 31 = 1 from by kernel_rfl] at g1
  rw [show Try.prog.cellsOf 3 = 1 from by kernel_rfl] at g2
  rw [show Try.prog.cellsOf 9 = 1 from by kernel_rfl] at g3
  rw [show Try.prog.cellsOf 26 = 5 from by kernel_rfl] at g4
  simp only [List.drop_zero, List.drop_succ_cons, List.take_succ_cons, List.take_zero] at g0 g1 g2 g3 g4
  obtain ⟨k, e0, _, w0⟩ := DataW.trod_int Try.underlying22 g0
  obtain ⟨A, l, c, e1, hlc, hC, hgl⟩ := C_of_trod (P := Try.prog) k33 goodT Try.underlying31 (by kernel_rfl) (fun m hm cs x hx => ih m (by omega) hx) g1
  obtain ⟨m, e2, _, w2⟩ := DataW.trod_int Try.underlying3 g2
  obtain ⟨s, e3, _, w3⟩ := DataW.trod_string Try.underlying9 g3
  obtain ⟨v, A8, cc8, e4, hlc8, hC8, hgv⟩ := trod_value g4
  simp at e0 e1 e2 e3 e4
  obtain ⟨rfl, rfl, rfl, rfl, rfl⟩ := e4
  subst e0 e1 e2 e3
  exact ⟨⟨k, l, m, s, v⟩, k33_mk w ⟨k, l, m, s, v⟩ hlc hC hlc8 hC8, i64_of w0, i64_of w2, w3, hgv, (goodL_iff l).2 hgl⟩
end
end Go.Proofs.Ytjanfjdiikddaaa.OpenT
