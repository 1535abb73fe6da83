/- Texts of this claim, put together: Uk, Vr. -/
import Derived.Test.YtimgbdkgjfbhkaaNg
import Derived.Test.YtimgbdkgjfbhkaaRows
import Derived.WalkKit
import Derived.ProofKit
import Derived.OpenShut
import Derived.ShutString
import Derived.ChangeOld
import Derived.Below
import Derived.Lib.SmallJoins
import Derived.Deep.Fields
import Derived.Deep.Slices
set_option linter.unusedVariables false
set_option linter.unusedSimpArgs false
set_option maxRecDepth 100000
section
namespace Go.Proofs.Ytimgbdkgjfbhkaa.Z
open Go Go.Fw Go.ChangeShapes Go.WideShapes Go.ChangeAt Go.RowKit Go.Joins Go.Deep
def lay (P : Program) (t : TypeId) : List (Nat × TypeId) := match P.underlying t with
 | some (.struct fs) => fs.toList.map fun f => (f.offset, f.type)
 | _ => []
abbrev CR (w : World) (ds : List D) (cs : List Value) : Prop := All2 (fun x v => v.oneCell = true ∧ DRel w (fun _ => False) x v) ds cs
theorem CR.one {w : World} {x : D} {v : Value} (h1 : v.oneCell = true) (h2 : DRel w (fun _ => False) x v) : CR w [x] [v] := All2.cons ⟨h1, h2⟩ All2.nil
theorem ok_wf {n : Int} (h : (Lit.int .i64 n).wf = true) : okLit (.int .i64 n) = true := by
 have := bounds_i64 h
 simp; omega
theorem ok_strl {s : ByteArray} (h : s.size ≤ maxLen) : okLit (.string s) = true := by
 have : s.size ≤ 9223372036854775807 := Nat.le_trans h (by decide)
 simp [this]
section
variable {H : Type} {enc : TypeId × Value → H} {P : Program} {w : World} {base : Nat} {spare : Nat → Bool} {held : Bool} {fuel : Nat} {t : TypeId} {cs : List Value} {x : DataW H × List MemPlace}
theorem rd_struct {l : List (Nat × TypeId)} (hl : lay P t = l) (h0 : l ≠ []) (h : DataW.trod enc P w base spare held fuel t cs = some x) :
  ∃ (xs : List (DataW H × List MemPlace)) (n : Nat), fuel = n + 1 ∧ x.1 = .agg (xs.map (·.1)) ∧ cs.length = P.cellsOf t ∧ xs.length = l.length ∧
   ∀ (i o : Nat) (ty : TypeId), l[i]? = some (o, ty) → DataW.trod enc P w base spare held n ty ((cs.drop o).take (P.cellsOf ty)) = xs[i]? := by
 unfold lay at hl
 split at hl
 ·rename_i fs hu
  obtain ⟨xs, n, h1, h2, h3, h4, h5⟩ := DataW.trod_struct hu h
  subst hl
  refine ⟨xs, n, h1, by rw [h2], h3, by simp [h4], fun i o ty hi => ?_⟩
  rw [List.getElem?_map, Array.getElem?_toList] at hi
  obtain ⟨f, hf, e⟩ := Option.map_eq_some_iff.1 hi
  cases e
  exact h5 i f hf
 ·exact absurd hl.symm h0
theorem rd_int (ht : P.underlying t = some (.int .i64)) (h : DataW.trod enc P w base spare held fuel t cs = some x) : ∃ v : Int, CR w (encI v) cs ∧ 1 ≤ Rows.uptoBulk x.1 := by
 obtain ⟨n, rfl, rfl, hw⟩ := DataW.trod_int ht h
 exact ⟨n, CR.one rfl (.lit _ (ok_wf hw)), by simp [Rows.uptoBulk]⟩
theorem rd_raw {e : TypeId} (ht : P.underlying t = some (.slice e)) (h : DataW.trod enc P w base spare held fuel t cs = some x) : ∃ v : Value, cs = [v] ∧ v.oneCell = true ∧ okLit v = true := by
 rcases DataW.trod_slice ht h with ⟨rfl, rfl⟩ | ⟨a, len, cap, elems, rest, n, hf, rfl, rfl, _⟩
 ·exact ⟨_, rfl, rfl, rfl⟩
 ·exact ⟨_, rfl, rfl, rfl⟩
theorem sum_bulk {α : Type} (μ : α → Nat) (l : List α) (es : List (DataW H × List MemPlace)) (hl : l.length = es.length) (h : ∀ (i : Nat) (v : α) (x : DataW H × List MemPlace), l[i]? = some v → es[i]? = some x → μ v ≤ Rows.uptoBulk x.1) : (l.map μ).sum ≤ Rows.uptoBulkAll (es.map (·.1)) := by
 induction l generalizing es with
 | nil => simp
 | cons v r ih =>
   cases es with
   | nil => simp at hl
   | cons x t =>
     have h1 := h 0 v x rfl rfl
     have h2 := ih t (by simpa using hl) fun i v x hv hx => h (i + 1) v x (by simpa using hv) (by simpa using hx)
     simp only [List.map_cons, List.sum_cons, Rows.uptoBulkAll]
     omega
theorem rd_slice {α : Type} [Inhabited α] (en : α → List D) (μ : α → Nat) {e : TypeId} {sz : Nat} (ht : P.underlying t = some (.slice e)) (hsz : P.cellsOf e = sz) (h0 : 0 < sz)
  (hel : ∀ n, fuel = n + 1 → ∀ cs x, DataW.trod enc P w base spare held n e cs = some x → ∃ v, CR w (en v) cs ∧ μ v ≤ Rows.uptoBulk x.1) (h : DataW.trod enc P w base spare held fuel t cs = some x) :
  ∃ (sv : Value) (l : List α), cs = [sv] ∧ sv.oneCell = true ∧ DRel w (fun _ => False) (.sl false (l.map en)) sv ∧ (l.map μ).sum + 1 ≤ Rows.uptoBulk x.1 := by
 rcases DataW.trod_slice ht h with ⟨rfl, rfl⟩ | ⟨a, len, cap, elems, rest, n, hf, rfl, rfl, hb, hl, hm, hlen, hi, _, _⟩
 ·exact ⟨.slice none 0 0, [], rfl, rfl, .slE false none 0 (by simp), by simp [Rows.uptoBulk]⟩
 ·obtain ⟨f, hF⟩ := choose_lt (α := α) (n := len) (p := fun i v => ∃ c, CR w (en v) c ∧ c.length = sz ∧ (∀ j u, c[j]? = some u → w.cell? (a.add (i * sz + j)) = some u) ∧ ∀ x, elems[i]? = some x → μ v ≤ Rows.uptoBulk x.1) (fun i hlt => by
   have h1 := hi i hlt
   rw [List.getElem?_eq_getElem (by omega)] at h1
   obtain ⟨c, h2, h3⟩ := Option.bind_eq_some_iff.1 h1
   obtain ⟨_, h4, h5⟩ := World.cells?_some h2
   obtain ⟨v, hk, hp⟩ := hel n hf c _ h3
   refine ⟨v, c, hk, h4.trans hsz, fun j u hu => ?_, fun x hx => ?_⟩
   ·have hj : j < P.cellsOf e := by
     rw [← h4]
     exact (List.getElem?_eq_some_iff.1 hu).1
    have h6 := h5 j hj
    rw [hu, Go.Deep.add_add, hsz] at h6
    exact h6
   ·rw [List.getElem?_eq_getElem (by omega)] at hx
    rw [← Option.some.inj hx]; exact hp)
  have hbk : (((List.range len).map f).map μ).sum + 1 ≤ Rows.uptoBulk (DataW.slice (elems.map (·.1)) (rest.map (·.1))) := by
   have := sum_bulk μ ((List.range len).map f) elems (by simp [hlen]) fun i v x hv hx => by
    rw [List.getElem?_map] at hv
    obtain ⟨k, hk, rfl⟩ := Option.map_eq_some_iff.1 hv
    have hlt : i < len := by have := (List.getElem?_eq_some_iff.1 hk).1; simpa using this
    have : k = i := by rw [List.getElem?_range hlt] at hk; exact (Option.some.inj hk).symm
    subst this
    obtain ⟨c, _, _, _, h4⟩ := hF k hlt
    exact h4 x hx
   simp only [Rows.uptoBulk]; omega
  by_cases hz : len = 0
  ·subst hz
   exact ⟨.slice (some a) 0 cap, [], rfl, rfl, .slE false (some a) cap (by simp), by simpa using hbk⟩
  ·refine ⟨.slice (some a) len cap, (List.range len).map f, rfl, rfl, ?_, hbk⟩
   obtain ⟨b, off, spot⟩ := a
   have hsp : spot = none := by
    obtain ⟨c, h1, h2, h3, _⟩ := hF 0 (by omega)
    obtain ⟨u, hu⟩ : ∃ u, c[0]? = some u := ⟨c[0], List.getElem?_eq_getElem (by omega)⟩
    have := h3 0 u hu
    cases spot with
    | none => rfl
    | some q =>
      simp [World.cell?, Addr.add] at this
      split at this
      ·cases this
      ·cases this
   subst hsp
   have key : ∀ i j r y, (((List.range len).map f).map en)[i]? = some r → r[j]? = some y → ∃ u, w.cell? ⟨b, off + i * sz + j, none⟩ = some u ∧ u.oneCell = true ∧ DRel w (fun _ => False) y u := fun i j r y hr hy => by
    rw [List.getElem?_map, List.getElem?_map] at hr
    obtain ⟨v, hv, rfl⟩ := Option.map_eq_some_iff.1 hr
    obtain ⟨k, hk, rfl⟩ := Option.map_eq_some_iff.1 hv
    have hlt : i < len := by have := (List.getElem?_eq_some_iff.1 hk).1; simpa using this
    have : k = i := by rw [List.getElem?_range hlt] at hk; exact (Option.some.inj hk).symm
    subst this
    obtain ⟨c, h1, _, h3, _⟩ := hF k hlt
    obtain ⟨u, hu, ho, hd⟩ := h1.get hy
    have := h3 j u hu
    have e : (Addr.add ⟨b, off, none⟩ (k * sz + j)) = ⟨b, off + k * sz + j, none⟩ := by
     unfold Addr.add
     split
     ·rename_i q; rw [Nat.add_assoc, q]; rfl
     ·simp [Nat.add_assoc]
    rw [e] at this
    exact ⟨u, this, ho, hd⟩
   have hlen2 : (((List.range len).map f).map en).length = len := by simp
   have := DRel.sl (w := w) (L := fun _ => False) false (((List.range len).map f).map en) b off cap sz (fun i j => (w.cell? ⟨b, off + i * sz + j, none⟩).getD (.bool false)) (fun _ _ _ _ _ _ h => h) (by rw [hlen2]; exact hl) (by rw [hlen2]; exact Nat.le_trans hl (Nat.le_trans hm (by decide)))
    (fun r hr => by
      obtain ⟨v, hv, rfl⟩ := List.mem_map.1 hr
      obtain ⟨i, hi, rfl⟩ := List.mem_map.1 hv
      obtain ⟨c, h1, h2, _⟩ := hF i (by simpa using hi)
      rw [← h1.len, h2])
    (fun i j r y hr hy => by obtain ⟨u, h1, _⟩ := key i j r y hr hy; simp [h1])
    (fun i j r y hr hy => by obtain ⟨u, h1, h2, _⟩ := key i j r y hr hy; simpa [h1] using h2)
    (fun i j r y hr hy => by obtain ⟨u, h1, _, h3⟩ := key i j r y hr hy; simpa [h1] using h3)
   rw [hlen2] at this
   exact this
theorem cntL_sum (l : List TermT) : cntL l = (l.map cntT).sum := by
 induction l with
 | nil => rfl
 | cons t r ih => rw [cntL, ih]; rfl
theorem sum_len (l : List Int) : (l.map fun _ => 1).sum = l.length := by
 induction l with
 | nil => rfl
 | cons t r ih => simp only [List.map_cons, List.sum_cons, List.length_cons, ih]; omega
theorem sum_one (l : List TermT) : (l.map fun t => 1 + cntT t).sum = l.length + (l.map cntT).sum := by
 induction l with
 | nil => rfl
 | cons t r ih => simp only [List.map_cons, List.sum_cons, List.length_cons]; omega
theorem wL_sum (l : List StepR) : wL l = (l.map wS).sum := by
 induction l with
 | nil => rfl
 | cons t r ih => rw [wL, ih]; rfl
theorem wP_sum (l : List PipeR) : wP l = (l.map fun x => 1 + wL x.steps).sum := by
 induction l with
 | nil => rfl
 | cons t r ih => rw [wP, ih]; rfl
def tbW (l : List (List Int)) : Nat := (l.map fun l => l.length + 1).sum
theorem tbW_len (l : List (List Int)) : l.length ≤ tbW l := by
 induction l with
 | nil => exact Nat.le_refl _
 | cons t r ih => simp only [tbW, List.map_cons, List.sum_cons, List.length_cons] at ih ⊢; omega
theorem tbW_mem {l : List (List Int)} {t : List Int} (h : t ∈ l) : t.length ≤ tbW l := by
 induction l with
 | nil => cases h
 | cons x r ih =>
   simp only [tbW, List.map_cons, List.sum_cons] at ih ⊢
   rcases List.mem_cons.1 h with rfl | h
   ·omega
   ·have := ih h; omega
end
section
variable {H : Type} {enc : TypeId × Value → H} {w : World} {base : Nat} {spare : Nat → Bool} {held : Bool}
theorem lay_V : lay Try.prog 87 = [(0, 85), (1, 4), (2, 2), (3, 9), (4, 59)] := by kernel_rfl
set_option maxRecDepth 100000 in
theorem rd_V {fuel : Nat} {cs : List Value} {x : DataW H × List MemPlace} (h : DataW.trod enc Try.prog w base spare held fuel 87 cs = some x) : ∃ v : ValT, CR w (encV v) cs ∧ 1 ≤ Rows.uptoBulk x.1 := by
 obtain ⟨xs, n, hn, hx, hl, hlen, hg⟩ := rd_struct lay_V (by simp) h
 obtain ⟨c0, c1, c2, c3, c4, rfl⟩ : ∃ c0 c1 c2 c3 c4, cs = [c0, c1, c2, c3, c4] := by
  have hl2 : cs.length = 5 := hl.trans (show Try.prog.cellsOf 87 = 5 from by kernel_rfl)
  match cs, hl2 with
  | [c0, c1, c2, c3, c4], _ => exact ⟨c0, c1, c2, c3, c4, rfl⟩
 obtain ⟨y0, y1, y2, y3, y4, rfl⟩ : ∃ y0 y1 y2 y3 y4, xs = [y0, y1, y2, y3, y4] := by
  match xs, hlen with
  | [y0, y1, y2, y3, y4], _ => exact ⟨y0, y1, y2, y3, y4, rfl⟩
 have g0 := hg 0 0 85 rfl
 rw [show Try.prog.cellsOf 85 = 1 from by kernel_rfl] at g0
 have g1 := hg 1 1 4 rfl
 rw [show Try.prog.cellsOf 4 = 1 from by kernel_rfl] at g1
 have g2 := hg 2 2 2 rfl
 rw [show Try.prog.cellsOf 2 = 1 from by kernel_rfl] at g2
 have g3 := hg 3 3 9 rfl
 rw [show Try.prog.cellsOf 9 = 1 from by kernel_rfl] at g3
 have g4 := hg 4 4 59 rfl
 rw [show Try.prog.cellsOf 59 = 1 from by kernel_rfl] at g4
 simp only [List.drop_zero, List.drop_succ_cons, List.take_succ_cons, List.take_zero, List.getElem?_cons_zero, List.getElem?_cons_succ] at g0 g1 g2 g3 g4
 simp only [List.map_cons, List.map_nil] at hx
 obtain ⟨a0, e0, _, w0⟩ := DataW.trod_int (show Try.prog.underlying 85 = some (.int .i64) from by kernel_rfl) g0
 simp at e0
 subst e0
 obtain ⟨a1, e1, _⟩ := DataW.trod_bool (show Try.prog.underlying 4 = some .bool from by kernel_rfl) g1
 simp at e1
 subst e1
 obtain ⟨a2, e2, _, w2⟩ := DataW.trod_int (show Try.prog.underlying 2 = some (.int .i64) from by kernel_rfl) g2
 simp at e2
 subst e2
 obtain ⟨a3, e3, _, w3⟩ := DataW.trod_string (show Try.prog.underlying 9 = some .string from by kernel_rfl) g3
 simp at e3
 subst e3
 obtain ⟨s4, l4, e4, o4, r4, b4⟩ := rd_slice encI (fun _ => 1) (sz := 1) (show Try.prog.underlying 59 = some (.slice 2) from by kernel_rfl) (by kernel_rfl) (by omega) (fun m hm cs x hx => rd_int (show Try.prog.underlying 2 = some (.int .i64) from by kernel_rfl) hx) g4
 simp at e4
 subst e4
 refine ⟨⟨a0, a1, a2, a3, l4⟩, ?_, ?_⟩
 ·exact (CR.one rfl (.lit _ (ok_wf w0))).append ((CR.one rfl (.lit _ rfl)).append ((CR.one rfl (.lit _ (ok_wf w2))).append ((CR.one rfl (.lit _ (ok_strl w3))).append (CR.one o4 r4))))
 ·rw [hx]; simp only [Rows.uptoBulk, Rows.uptoBulkAll]
  omega
theorem lay_N : lay Try.prog 70 = [(0, 9), (1, 3)] := by kernel_rfl
set_option maxRecDepth 100000 in
theorem rd_N {fuel : Nat} {cs : List Value} {x : DataW H × List MemPlace} (h : DataW.trod enc Try.prog w base spare held fuel 70 cs = some x) : ∃ v : NodeT, CR w (encN v) cs ∧ 1 ≤ Rows.uptoBulk x.1 := by
 obtain ⟨xs, n, hn, hx, hl, hlen, hg⟩ := rd_struct lay_N (by simp) h
 obtain ⟨c0, c1, rfl⟩ : ∃ c0 c1, cs = [c0, c1] := by
  have hl2 : cs.length = 2 := hl.trans (show Try.prog.cellsOf 70 = 2 from by kernel_rfl)
  match cs, hl2 with
  | [c0, c1], _ => exact ⟨c0, c1, rfl⟩
 obtain ⟨y0, y1, rfl⟩ : ∃ y0 y1, xs = [y0, y1] := by
  match xs, hlen with
  | [y0, y1], _ => exact ⟨y0, y1, rfl⟩
 have g0 := hg 0 0 9 rfl
 rw [show Try.prog.cellsOf 9 = 1 from by kernel_rfl] at g0
 have g1 := hg 1 1 3 rfl
 rw [show Try.prog.cellsOf 3 = 1 from by kernel_rfl] at g1
 simp only [List.drop_zero, List.drop_succ_cons, List.take_succ_cons, List.take_zero, List.getElem?_cons_zero, List.getElem?_cons_succ] at g0 g1
 simp only [List.map_cons, List.map_nil] at hx
 obtain ⟨a0, e0, _, w0⟩ := DataW.trod_string (show Try.prog.underlying 9 = some .string from by kernel_rfl) g0
 simp at e0
 subst e0
 obtain ⟨a1, e1, _, w1⟩ := DataW.trod_int (show Try.prog.underlying 3 = some (.int .i64) from by kernel_rfl) g1
 simp at e1
 subst e1
 refine ⟨⟨a0, a1⟩, ?_, ?_⟩
 ·exact (CR.one rfl (.lit _ (ok_strl w0))).append (CR.one rfl (.lit _ (ok_wf w1)))
 ·rw [hx]; simp only [Rows.uptoBulk, Rows.uptoBulkAll]
  omega
theorem lay_E : lay Try.prog 98 = [(0, 9), (1, 3), (2, 3), (3, 3), (4, 96), (5, 3), (6, 3)] := by kernel_rfl
set_option maxRecDepth 100000 in
theorem rd_E {fuel : Nat} {cs : List Value} {x : DataW H × List MemPlace} (h : DataW.trod enc Try.prog w base spare held fuel 98 cs = some x) : ∃ v : EdgeT, CR w (encE v) cs ∧ 1 ≤ Rows.uptoBulk x.1 := by
 obtain ⟨xs, n, hn, hx, hl, hlen, hg⟩ := rd_struct lay_E (by simp) h
 obtain ⟨c0, c1, c2, c3, c4, c5, c6, rfl⟩ : ∃ c0 c1 c2 c3 c4 c5 c6, cs = [c0, c1, c2, c3, c4, c5, c6] := by
  have hl2 : cs.length = 7 := hl.trans (show Try.prog.cellsOf 98 = 7 from by kernel_rfl)
  match cs, hl2 with
  | [c0, c1, c2, c3, c4, c5, c6], _ => exact ⟨c0, c1, c2, c3, c4, c5, c6, rfl⟩
 obtain ⟨y0, y1, y2, y3, y4, y5, y6, rfl⟩ : ∃ y0 y1 y2 y3 y4 y5 y6, xs = [y0, y1, y2, y3, y4, y5, y6] := by
  match xs, hlen with
  | [y0, y1, y2, y3, y4, y5, y6], _ => exact ⟨y0, y1, y2, y3, y4, y5, y6, rfl⟩
 have g0 := hg 0 0 9 rfl
 rw [show Try.prog.cellsOf 9 = 1 from by kernel_rfl] at g0
 have g1 := hg 1 1 3 rfl
 rw [show Try.prog.cellsOf 3 = 1 from by kernel_rfl] at g1
 have g2 := hg 2 2 3 rfl
 rw [show Try.prog.cellsOf 3 = 1 from by kernel_rfl] at g2
 have g3 := hg 3 3 3 rfl
 rw [show Try.prog.cellsOf 3 = 1 from by kernel_rfl] at g3
 have g4 := hg 4 4 96 rfl
 rw [show Try.prog.cellsOf 96 = 1 from by kernel_rfl] at g4
 have g5 := hg 5 5 3 rfl
 rw [show Try.prog.cellsOf 3 = 1 from by kernel_rfl] at g5
 have g6 := hg 6 6 3 rfl
 rw [show Try.prog.cellsOf 3 = 1 from by kernel_rfl] at g6
 simp only [List.drop_zero, List.drop_succ_cons, List.take_succ_cons, List.take_zero, List.getElem?_cons_zero, List.getElem?_cons_succ] at g0 g1 g2 g3 g4 g5 g6
 simp only [List.map_cons, List.map_nil] at hx
 obtain ⟨a0, e0, _, w0⟩ := DataW.trod_string (show Try.prog.underlying 9 = some .string from by kernel_rfl) g0
 simp at e0
 subst e0
 obtain ⟨a1, e1, _, w1⟩ := DataW.trod_int (show Try.prog.underlying 3 = some (.int .i64) from by kernel_rfl) g1
 simp at e1
 subst e1
 obtain ⟨a2, e2, _, w2⟩ := DataW.trod_int (show Try.prog.underlying 3 = some (.int .i64) from by kernel_rfl) g2
 simp at e2
 subst e2
 obtain ⟨a3, e3, _, w3⟩ := DataW.trod_int (show Try.prog.underlying 3 = some (.int .i64) from by kernel_rfl) g3
 simp at e3
 subst e3
 obtain ⟨a4, e4, _, w4⟩ := DataW.trod_int (show Try.prog.underlying 96 = some (.int .i64) from by kernel_rfl) g4
 simp at e4
 subst e4
 obtain ⟨a5, e5, _, w5⟩ := DataW.trod_int (show Try.prog.underlying 3 = some (.int .i64) from by kernel_rfl) g5
 simp at e5
 subst e5
 obtain ⟨a6, e6, _, w6⟩ := DataW.trod_int (show Try.prog.underlying 3 = some (.int .i64) from by kernel_rfl) g6
 simp at e6
 subst e6
 refine ⟨⟨a0, a1, a2, a3, a4, a5, a6⟩, ?_, ?_⟩
 ·exact (CR.one rfl (.lit _ (ok_strl w0))).append ((CR.one rfl (.lit _ (ok_wf w1))).append ((CR.one rfl (.lit _ (ok_wf w2))).append ((CR.one rfl (.lit _ (ok_wf w3))).append ((CR.one rfl (.lit _ (ok_wf w4))).append ((CR.one rfl (.lit _ (ok_wf w5))).append (CR.one rfl (.lit _ (ok_wf w6))))))))
 ·rw [hx]; simp only [Rows.uptoBulk, Rows.uptoBulkAll]
  omega
theorem lay_T : lay Try.prog 89 = [(0, 84), (1, 28), (2, 3), (3, 9), (4, 87)] := by kernel_rfl
set_option maxRecDepth 100000 in
theorem rd_T : ∀ (fuel : Nat) {cs : List Value} {x : DataW H × List MemPlace}, DataW.trod enc Try.prog w base spare held fuel 89 cs = some x → ∃ v : TermT, CR w (encT v) cs ∧ (1 + cntT v) ≤ Rows.uptoBulk x.1 := by
 intro fuel
 induction fuel using Nat.strongRecOn with
 | _ fuel ih =>
 intro cs x h
 obtain ⟨xs, n, hn, hx, hl, hlen, hg⟩ := rd_struct lay_T (by simp) h
 obtain ⟨c0, c1, c2, c3, c4, c5, c6, c7, c8, rfl⟩ : ∃ c0 c1 c2 c3 c4 c5 c6 c7 c8, cs = [c0, c1, c2, c3, c4, c5, c6, c7, c8] := by
  have hl2 : cs.length = 9 := hl.trans (show Try.prog.cellsOf 89 = 9 from by kernel_rfl)
  match cs, hl2 with
  | [c0, c1, c2, c3, c4, c5, c6, c7, c8], _ => exact ⟨c0, c1, c2, c3, c4, c5, c6, c7, c8, rfl⟩
 obtain ⟨y0, y1, y2, y3, y4, rfl⟩ : ∃ y0 y1 y2 y3 y4, xs = [y0, y1, y2, y3, y4] := by
  match xs, hlen with
  | [y0, y1, y2, y3, y4], _ => exact ⟨y0, y1, y2, y3, y4, rfl⟩
 have g0 := hg 0 0 84 rfl
 rw [show Try.prog.cellsOf 84 = 1 from by kernel_rfl] at g0
 have g1 := hg 1 1 28 rfl
 rw [show Try.prog.cellsOf 28 = 1 from by kernel_rfl] at g1
 have g2 := hg 2 2 3 rfl
 rw [show Try.prog.cellsOf 3 = 1 from by kernel_rfl] at g2
 have g3 := hg 3 3 9 rfl
 rw [show Try.prog.cellsOf 9 = 1 from by kernel_rfl] at g3
 have g4 := hg 4 4 87 rfl
 rw [show Try.prog.cellsOf 87 = 5 from by kernel_rfl] at g4
 simp only [List.drop_zero, List.drop_succ_cons, List.take_succ_cons, List.take_zero, List.getElem?_cons_zero, List.getElem?_cons_succ] at g0 g1 g2 g3 g4
 simp only [List.map_cons, List.map_nil] at hx
 obtain ⟨a0, e0, _, w0⟩ := DataW.trod_int (show Try.prog.underlying 84 = some (.int .i64) from by kernel_rfl) g0
 simp at e0
 subst e0
 obtain ⟨s1, l1, e1, o1, r1, b1⟩ := rd_slice encT (fun t => 1 + cntT t) (sz := 9) (show Try.prog.underlying 28 = some (.slice 89) from by kernel_rfl) (by kernel_rfl) (by omega) (fun m hm cs x hx => ih m (by omega) hx) g1
 simp at e1
 subst e1
 obtain ⟨a2, e2, _, w2⟩ := DataW.trod_int (show Try.prog.underlying 3 = some (.int .i64) from by kernel_rfl) g2
 simp at e2
 subst e2
 obtain ⟨a3, e3, _, w3⟩ := DataW.trod_string (show Try.prog.underlying 9 = some .string from by kernel_rfl) g3
 simp at e3
 subst e3
 obtain ⟨v4, r4, b4⟩ := rd_V g4
 refine ⟨(.mk a0 l1 a2 a3 v4), ?_, ?_⟩
 ·rw [encT_cells]
  exact (CR.one rfl (.lit _ (ok_wf w0))).append ((CR.one o1 r1).append ((CR.one rfl (.lit _ (ok_wf w2))).append ((CR.one rfl (.lit _ (ok_strl w3))).append (r4))))
 ·rw [hx]; simp only [Rows.uptoBulk, Rows.uptoBulkAll]
  rw [cntT, cntL_sum]; rw [sum_one] at b1; omega
theorem lay_C : lay Try.prog 32 = [(0, 26), (1, 27), (2, 28), (3, 29), (4, 4), (5, 30), (6, 3)] := by kernel_rfl
set_option maxRecDepth 100000 in
theorem rd_C {fuel : Nat} {cs : List Value} {x : DataW H × List MemPlace} (h : DataW.trod enc Try.prog w base spare held fuel 32 cs = some x) : ∃ v : CoreT, CR w (encC v) cs ∧ v.wher.length ≤ Rows.uptoBulk x.1 := by
 obtain ⟨xs, n, hn, hx, hl, hlen, hg⟩ := rd_struct lay_C (by simp) h
 obtain ⟨c0, c1, c2, c3, c4, c5, c6, rfl⟩ : ∃ c0 c1 c2 c3 c4 c5 c6, cs = [c0, c1, c2, c3, c4, c5, c6] := by
  have hl2 : cs.length = 7 := hl.trans (show Try.prog.cellsOf 32 = 7 from by kernel_rfl)
  match cs, hl2 with
  | [c0, c1, c2, c3, c4, c5, c6], _ => exact ⟨c0, c1, c2, c3, c4, c5, c6, rfl⟩
 obtain ⟨y0, y1, y2, y3, y4, y5, y6, rfl⟩ : ∃ y0 y1 y2 y3 y4 y5 y6, xs = [y0, y1, y2, y3, y4, y5, y6] := by
  match xs, hlen with
  | [y0, y1, y2, y3, y4, y5, y6], _ => exact ⟨y0, y1, y2, y3, y4, y5, y6, rfl⟩
 have g0 := hg 0 0 26 rfl
 rw [show Try.prog.cellsOf 26 = 1 from by kernel_rfl] at g0
 have g1 := hg 1 1 27 rfl
 rw [show Try.prog.cellsOf 27 = 1 from by kernel_rfl] at g1
 have g2 := hg 2 2 28 rfl
 rw [show Try.prog.cellsOf 28 = 1 from by kernel_rfl] at g2
 have g3 := hg 3 3 29 rfl
 rw [show Try.prog.cellsOf 29 = 1 from by kernel_rfl] at g3
 have g4 := hg 4 4 4 rfl
 rw [show Try.prog.cellsOf 4 = 1 from by kernel_rfl] at g4
 have g5 := hg 5 5 30 rfl
 rw [show Try.prog.cellsOf 30 = 1 from by kernel_rfl] at g5
 have g6 := hg 6 6 3 rfl
 rw [show Try.prog.cellsOf 3 = 1 from by kernel_rfl] at g6
 simp only [List.drop_zero, List.drop_succ_cons, List.take_succ_cons, List.take_zero, List.getElem?_cons_zero, List.getElem?_cons_succ] at g0 g1 g2 g3 g4 g5 g6
 simp only [List.map_cons, List.map_nil] at hx
 obtain ⟨s0, l0, e0, o0, r0, b0⟩ := rd_slice encN (fun _ => 1) (sz := 2) (show Try.prog.underlying 26 = some (.slice 70) from by kernel_rfl) (by kernel_rfl) (by omega) (fun m hm cs x hx => rd_N hx) g0
 simp at e0
 subst e0
 obtain ⟨s1, l1, e1, o1, r1, b1⟩ := rd_slice encE (fun _ => 1) (sz := 7) (show Try.prog.underlying 27 = some (.slice 98) from by kernel_rfl) (by kernel_rfl) (by omega) (fun m hm cs x hx => rd_E hx) g1
 simp at e1
 subst e1
 obtain ⟨s2, l2, e2, o2, r2, b2⟩ := rd_slice encT (fun t => 1 + cntT t) (sz := 9) (show Try.prog.underlying 28 = some (.slice 89) from by kernel_rfl) (by kernel_rfl) (by omega) (fun m hm cs x hx => rd_T m hx) g2
 simp at e2
 subst e2
 obtain ⟨a3, e3, o3, k3⟩ := rd_raw (show Try.prog.underlying 29 = some (.slice 204) from by kernel_rfl) g3
 simp at e3
 subst e3
 obtain ⟨a4, e4, _⟩ := DataW.trod_bool (show Try.prog.underlying 4 = some .bool from by kernel_rfl) g4
 simp at e4
 subst e4
 obtain ⟨a5, e5, o5, k5⟩ := rd_raw (show Try.prog.underlying 30 = some (.slice 206) from by kernel_rfl) g5
 simp at e5
 subst e5
 obtain ⟨a6, e6, _, w6⟩ := DataW.trod_int (show Try.prog.underlying 3 = some (.int .i64) from by kernel_rfl) g6
 simp at e6
 subst e6
 refine ⟨⟨l0, l1, l2, .lit c3, a4, .lit c5, a6⟩, ?_, ?_⟩
 ·exact (CR.one o0 r0).append ((CR.one o1 r1).append ((CR.one o2 r2).append ((CR.one o3 (.lit _ k3)).append ((CR.one rfl (.lit _ rfl)).append ((CR.one o5 (.lit _ k5)).append (CR.one rfl (.lit _ (ok_wf w6))))))))
 ·rw [hx]; simp only [Rows.uptoBulk, Rows.uptoBulkAll]
  rw [sum_one] at b2; omega
theorem lay_R : lay Try.prog 75 = [(0, 73), (1, 3), (2, 46), (3, 4), (4, 28), (5, 3)] := by kernel_rfl
set_option maxRecDepth 100000 in
theorem rd_R {fuel : Nat} {cs : List Value} {x : DataW H × List MemPlace} (h : DataW.trod enc Try.prog w base spare held fuel 75 cs = some x) : ∃ v : StepR, CR w (encR v) cs ∧ (wS v) ≤ Rows.uptoBulk x.1 := by
 obtain ⟨xs, n, hn, hx, hl, hlen, hg⟩ := rd_struct lay_R (by simp) h
 obtain ⟨c0, c1, c2, c3, c4, c5, rfl⟩ : ∃ c0 c1 c2 c3 c4 c5, cs = [c0, c1, c2, c3, c4, c5] := by
  have hl2 : cs.length = 6 := hl.trans (show Try.prog.cellsOf 75 = 6 from by kernel_rfl)
  match cs, hl2 with
  | [c0, c1, c2, c3, c4, c5], _ => exact ⟨c0, c1, c2, c3, c4, c5, rfl⟩
 obtain ⟨y0, y1, y2, y3, y4, y5, rfl⟩ : ∃ y0 y1 y2 y3 y4 y5, xs = [y0, y1, y2, y3, y4, y5] := by
  match xs, hlen with
  | [y0, y1, y2, y3, y4, y5], _ => exact ⟨y0, y1, y2, y3, y4, y5, rfl⟩
 have g0 := hg 0 0 73 rfl
 rw [show Try.prog.cellsOf 73 = 1 from by kernel_rfl] at g0
 have g1 := hg 1 1 3 rfl
 rw [show Try.prog.cellsOf 3 = 1 from by kernel_rfl] at g1
 have g2 := hg 2 2 46 rfl
 rw [show Try.prog.cellsOf 46 = 1 from by kernel_rfl] at g2
 have g3 := hg 3 3 4 rfl
 rw [show Try.prog.cellsOf 4 = 1 from by kernel_rfl] at g3
 have g4 := hg 4 4 28 rfl
 rw [show Try.prog.cellsOf 28 = 1 from by kernel_rfl] at g4
 have g5 := hg 5 5 3 rfl
 rw [show Try.prog.cellsOf 3 = 1 from by kernel_rfl] at g5
 simp only [List.drop_zero, List.drop_succ_cons, List.take_succ_cons, List.take_zero, List.getElem?_cons_zero, List.getElem?_cons_succ] at g0 g1 g2 g3 g4 g5
 simp only [List.map_cons, List.map_nil] at hx
 obtain ⟨a0, e0, _, w0⟩ := DataW.trod_int (show Try.prog.underlying 73 = some (.int .i64) from by kernel_rfl) g0
 simp at e0
 subst e0
 obtain ⟨a1, e1, _, w1⟩ := DataW.trod_int (show Try.prog.underlying 3 = some (.int .i64) from by kernel_rfl) g1
 simp at e1
 subst e1
 obtain ⟨s2, l2, e2, o2, r2, b2⟩ := rd_slice encI (fun _ => 1) (sz := 1) (show Try.prog.underlying 46 = some (.slice 3) from by kernel_rfl) (by kernel_rfl) (by omega) (fun m hm cs x hx => rd_int (show Try.prog.underlying 3 = some (.int .i64) from by kernel_rfl) hx) g2
 simp at e2
 subst e2
 obtain ⟨a3, e3, _⟩ := DataW.trod_bool (show Try.prog.underlying 4 = some .bool from by kernel_rfl) g3
 simp at e3
 subst e3
 obtain ⟨s4, l4, e4, o4, r4, b4⟩ := rd_slice encT (fun t => 1 + cntT t) (sz := 9) (show Try.prog.underlying 28 = some (.slice 89) from by kernel_rfl) (by kernel_rfl) (by omega) (fun m hm cs x hx => rd_T m hx) g4
 simp at e4
 subst e4
 obtain ⟨a5, e5, _, w5⟩ := DataW.trod_int (show Try.prog.underlying 3 = some (.int .i64) from by kernel_rfl) g5
 simp at e5
 subst e5
 refine ⟨⟨a0, a1, l2, a3, l4, a5⟩, ?_, ?_⟩
 ·exact (CR.one rfl (.lit _ (ok_wf w0))).append ((CR.one rfl (.lit _ (ok_wf w1))).append ((CR.one o2 r2).append ((CR.one rfl (.lit _ rfl)).append ((CR.one o4 r4).append (CR.one rfl (.lit _ (ok_wf w5)))))))
 ·rw [hx]; simp only [Rows.uptoBulk, Rows.uptoBulkAll]
  simp only [wS]; rw [cntL_sum]; rw [sum_one] at b4; rw [sum_len] at b2; omega
theorem lay_I : lay Try.prog 41 = [(0, 3), (1, 39), (2, 3)] := by kernel_rfl
set_option maxRecDepth 100000 in
theorem rd_I {fuel : Nat} {cs : List Value} {x : DataW H × List MemPlace} (h : DataW.trod enc Try.prog w base spare held fuel 41 cs = some x) : ∃ v : PipeR, CR w (encPi v) cs ∧ (1 + wL v.steps) ≤ Rows.uptoBulk x.1 := by
 obtain ⟨xs, n, hn, hx, hl, hlen, hg⟩ := rd_struct lay_I (by simp) h
 obtain ⟨c0, c1, c2, rfl⟩ : ∃ c0 c1 c2, cs = [c0, c1, c2] := by
  have hl2 : cs.length = 3 := hl.trans (show Try.prog.cellsOf 41 = 3 from by kernel_rfl)
  match cs, hl2 with
  | [c0, c1, c2], _ => exact ⟨c0, c1, c2, rfl⟩
 obtain ⟨y0, y1, y2, rfl⟩ : ∃ y0 y1 y2, xs = [y0, y1, y2] := by
  match xs, hlen with
  | [y0, y1, y2], _ => exact ⟨y0, y1, y2, rfl⟩
 have g0 := hg 0 0 3 rfl
 rw [show Try.prog.cellsOf 3 = 1 from by kernel_rfl] at g0
 have g1 := hg 1 1 39 rfl
 rw [show Try.prog.cellsOf 39 = 1 from by kernel_rfl] at g1
 have g2 := hg 2 2 3 rfl
 rw [show Try.prog.cellsOf 3 = 1 from by kernel_rfl] at g2
 simp only [List.drop_zero, List.drop_succ_cons, List.take_succ_cons, List.take_zero, List.getElem?_cons_zero, List.getElem?_cons_succ] at g0 g1 g2
 simp only [List.map_cons, List.map_nil] at hx
 obtain ⟨a0, e0, _, w0⟩ := DataW.trod_int (show Try.prog.underlying 3 = some (.int .i64) from by kernel_rfl) g0
 simp at e0
 subst e0
 obtain ⟨s1, l1, e1, o1, r1, b1⟩ := rd_slice encR wS (sz := 6) (show Try.prog.underlying 39 = some (.slice 75) from by kernel_rfl) (by kernel_rfl) (by omega) (fun m hm cs x hx => rd_R hx) g1
 simp at e1
 subst e1
 obtain ⟨a2, e2, _, w2⟩ := DataW.trod_int (show Try.prog.underlying 3 = some (.int .i64) from by kernel_rfl) g2
 simp at e2
 subst e2
 refine ⟨⟨a0, l1, a2⟩, ?_, ?_⟩
 ·exact (CR.one rfl (.lit _ (ok_wf w0))).append ((CR.one o1 r1).append (CR.one rfl (.lit _ (ok_wf w2))))
 ·rw [hx]; simp only [Rows.uptoBulk, Rows.uptoBulkAll]
  rw [wL_sum]; omega
set_option maxRecDepth 100000 in
theorem rd_L {fuel : Nat} {cs : List Value} {x : DataW H × List MemPlace} (h : DataW.trod enc Try.prog w base spare held fuel 46 cs = some x) : ∃ v : List Int, CR w [.sl false (v.map encI)] cs ∧ v.length + 1 ≤ Rows.uptoBulk x.1 := by
 obtain ⟨s, l, e, o, r, b⟩ := rd_slice encI (fun _ => 1) (sz := 1) (show Try.prog.underlying 46 = some (.slice 3) from by kernel_rfl) (by kernel_rfl) (by omega) (fun m hm cs x hx => rd_int (show Try.prog.underlying 3 = some (.int .i64) from by kernel_rfl) hx) h
 rw [sum_len] at b
 exact ⟨l, by subst e; exact CR.one o r, b⟩
theorem lay_G : lay Try.prog 25 = [(0, 22), (1, 23)] := by kernel_rfl
set_option maxRecDepth 100000 in
theorem rd_G {fuel : Nat} {cs : List Value} {x : DataW H × List MemPlace} (h : DataW.trod enc Try.prog w base spare held fuel 25 cs = some x) : ∃ v : ProgR, CR w (encPr v) cs ∧ (tbW v.tabs + wP v.pipes) ≤ Rows.uptoBulk x.1 := by
 obtain ⟨xs, n, hn, hx, hl, hlen, hg⟩ := rd_struct lay_G (by simp) h
 obtain ⟨c0, c1, rfl⟩ : ∃ c0 c1, cs = [c0, c1] := by
  have hl2 : cs.length = 2 := hl.trans (show Try.prog.cellsOf 25 = 2 from by kernel_rfl)
  match cs, hl2 with
  | [c0, c1], _ => exact ⟨c0, c1, rfl⟩
 obtain ⟨y0, y1, rfl⟩ : ∃ y0 y1, xs = [y0, y1] := by
  match xs, hlen with
  | [y0, y1], _ => exact ⟨y0, y1, rfl⟩
 have g0 := hg 0 0 22 rfl
 rw [show Try.prog.cellsOf 22 = 1 from by kernel_rfl] at g0
 have g1 := hg 1 1 23 rfl
 rw [show Try.prog.cellsOf 23 = 1 from by kernel_rfl] at g1
 simp only [List.drop_zero, List.drop_succ_cons, List.take_succ_cons, List.take_zero, List.getElem?_cons_zero, List.getElem?_cons_succ] at g0 g1
 simp only [List.map_cons, List.map_nil] at hx
 obtain ⟨s0, l0, e0, o0, r0, b0⟩ := rd_slice (fun l : List Int => [D.sl false (l.map encI)]) (fun l : List Int => l.length + 1) (sz := 1) (show Try.prog.underlying 22 = some (.slice 46) from by kernel_rfl) (by kernel_rfl) (by omega) (fun m hm cs x hx => rd_L hx) g0
 simp at e0
 subst e0
 obtain ⟨s1, l1, e1, o1, r1, b1⟩ := rd_slice encPi (fun x => 1 + wL x.steps) (sz := 3) (show Try.prog.underlying 23 = some (.slice 41) from by kernel_rfl) (by kernel_rfl) (by omega) (fun m hm cs x hx => rd_I hx) g1
 simp at e1
 subst e1
 refine ⟨⟨l0, l1⟩, ?_, ?_⟩
 ·exact (CR.one o0 r0).append (CR.one o1 r1)
 ·rw [hx]; simp only [Rows.uptoBulk, Rows.uptoBulkAll]
  simp only [tbW]; rw [wP_sum]; omega
end
end Go.Proofs.Ytimgbdkgjfbhkaa.Z
end
section
namespace Go.Proofs.Ytimgbdkgjfbhkaa.lawIrcheckLooks
open Go Go.Fw Go.ChangeShapes Go.WideShapes Go.ChangeAt Go.RowKit Go.Joins Go.Deep Go.Proofs.Ytimgbdkgjfbhkaa.Z
theorem own : ownKnob Try.prog.godebug = none := by kernel_rfl
theorem laidOut : laidOutB Try.prog = true := by kernel_rfl
theorem under_lay {P : Program} {t : TypeId} {l : List (Nat × TypeId)} (hl : lay P t = l) (h0 : l ≠ []) : ∃ fs, P.underlying t = some (.struct fs) := by
 unfold lay at hl
 split at hl
 ·exact ⟨_, ‹_›⟩
 ·exact absurd hl.symm h0
theorem vrel_ag {w : World} {m : Nat → Option Nat} {ds : List D} {cs : Array Value} (h : CR w ds cs.toList) : VRel w (fun _ => False) m (.d (.ag ds)) (.agg cs) := by
 have := DRel.ag (w := w) (L := fun _ => False) ds cs.toList h.len (fun v hv => by
  obtain ⟨j, hj⟩ := List.getElem?_of_mem hv
  have hlt : j < ds.length := by rw [← h.len]; exact (List.getElem?_eq_some_iff.1 hj).1
  exact (h.at_ j _ v (List.getElem?_eq_getElem hlt) hj).1) (fun j x v hx hv => (h.at_ j x v hx hv).2)
 rw [Array.toArray_toList] at this
 exact .d this
set_option maxRecDepth 100000 in
theorem contract (H : Type) (enc : TypeId × Value → H) (W : World) (base : Nat) (args : Array Value) (ds gs : List (DataW H)) (before : List MemPlace)
  (hval : ∀ (j : Nat) t v, Try.f4.params[j]? = some t → args[j]? = some v → Value.okWide Try.prog W .any base t v)
  (hW : DataW.Whole enc Try.prog Try.f4.params.toList Rows.ircheckLooksSpec.vars false W args.toList ds gs before) (hk : Rows.uptoSmall H (ds ++ gs) = true) :
  Calls Try.prog 4 args W fun e W' => ∃ v, e = .returned v ∧ Rows.ircheckLooksSpec.post enc Try.prog Try.f4 false true false false W args v W' := by
 have hW' := hW
 obtain ⟨p, q, hA0, hV, rfl, hfz, hnd⟩ := hW
 have hA : DataW.TrodAll enc Try.prog W 0 (fun _ => true) true Try.f4.params.toList args.toList ds p := hA0
 rw [show Try.f4.params = #[25, 32] from by kernel_rfl] at hA hval
 obtain ⟨v0, vs0, d0, ds0, p0, q0, hargs, rfl, rfl, h0, r0⟩ := trodAll_cons hA
 obtain ⟨v1, vs1, d1, ds1, p1, q1, rfl, rfl, rfl, h1, r1⟩ := trodAll_cons r0
 obtain ⟨rfl, rfl, rfl⟩ := trodAll_nil r1
 obtain rfl : args = #[v0, v1] := by cases args; simp_all
 obtain ⟨rfl, rfl⟩ := trodVars_none hV
 have k0 := h0
 have k1 := h1
 have lt : ∀ {t v d ps}, DataW.Trod enc Try.prog W 0 (fun _ => true) true t v d ps → ∀ x ∈ ps, x.block < W.heap.size := fun h => by obtain ⟨m, hm⟩ := h; exact DataW.trod_lt m _ _ _ hm
 obtain ⟨fs0, u0⟩ := under_lay lay_G (by simp)
 obtain ⟨fs1, u1⟩ := under_lay lay_C (by simp)
 obtain ⟨c0, rfl, -⟩ := okWide_struct u0 (hval 0 _ v0 rfl rfl)
 obtain ⟨c1, rfl, -⟩ := okWide_struct u1 (hval 1 _ v1 rfl rfl)
 obtain ⟨f0, g0⟩ := h0
 obtain ⟨f1, g1⟩ := h1
 simp only [Value.cells] at g0 g1
 obtain ⟨pr, ra, ba⟩ := rd_G g0
 obtain ⟨co, rc, bc⟩ := rd_C g1
 have hb : Rows.uptoBulkAll [d0, d1] ≤ 1048576 := by
  have := of_decide_eq_true hk
  simpa using this
 simp only [Rows.uptoBulkAll] at hb
 simp only at ba bc
 have ht := tbW_len pr.tabs
 have hS := looks_ok co pr (by omega) (by omega) (by omega) (fun t h => by have := tbW_mem h; omega)
 have hC := hS.2 W (fun _ => False) [.agg c0, .agg c1] (fun _ h => h.elim)
  (All2.cons (vrel_ag ra) (All2.cons (vrel_ag rc) All2.nil))
 refine hC.mono fun e W' hx => ?_
 obtain ⟨v, m', rfl, hx, hv, -⟩ := hx
 have hv := hv.lit_inv
 subst hv
 have bel : Below W.heap.size W W' := ⟨hx.os, hx.tape, hx.output, hx.size, fun k hk => hx.block k hk fun f => f⟩
 exact ⟨_, rfl, _, _, _, [], _, [], hW', trodAll_mk1 (shut_bool (show Try.prog.underlying 4 = some .bool from by kernel_rfl) _),
  (trodAll_cons_mk (Below.trod laidOut (by kernel_rfl) (of_decide_eq_true (by kernel_rfl)) k0 bel (lt k0))
    (trodAll_cons_mk (Below.trod laidOut (by kernel_rfl) (of_decide_eq_true (by kernel_rfl)) k1 bel (lt k1))
trodAll_mk0)), rfl, bel.frame _, fun h => by cases h⟩
set_option maxRecDepth 100000 in
theorem lifted (os : Os) (started : os.Started) (H : Type) (enc : TypeId × Value → H) (F : Stop.Interp) :
  ReturnsInHanded {} Try.checked os 4 .any ((Rows.OpenSpec.upto Rows.ircheckLooksSpec).pre6 enc Try.prog Try.f4 Rows.ircheckLooksUptoRow.domain false) (((Rows.OpenSpec.upto Rows.ircheckLooksSpec).at F).post enc Try.prog Try.f4 false true false false) := by
 refine returnsInHanded_of_cond (C := Try.checked) (s := Rows.OpenSpec.upto Rows.ircheckLooksSpec) (k := Rows.uptoSmall) rfl own started (by kernel_rfl) Try.func4
  (OpenSpec.witness (enc := enc) (C := Try.checked) (s := Rows.OpenSpec.upto Rows.ircheckLooksSpec) (k := Rows.uptoSmall) rfl false ⟨#[], #[.agg #[.slice none 0 0, .slice none 0 0], .agg #[.slice none 0 0, .slice none 0 0, .slice none 0 0, .slice none 0 0, .bool false, .slice none 0 0, .int .i64 0]], []⟩ 8 (by kernel_rfl) (by kernel_rfl) (by kernel_rfl)
    (x := ([.agg [.nil, .nil], .agg [.nil, .nil, .nil, .nil, .lit (.bool false), .nil, .lit (.int .i64 0)]], [], [])) (by kernel_rfl) rfl (by kernel_rfl)) ?_
 intro W base args ds gs before hval hW _ hk _
 exact contract H enc W base args ds gs before hval hW hk
theorem proved : Rows.IrcheckLooksUptoSaid :=
 OpenClaim.holds_of_cond 4 Try.f4 rfl rfl rfl rfl rfl rfl rfl ⟨rfl, rfl, rfl, rfl, rfl⟩ rfl rfl rfl rfl rfl (by kernel_rfl) Try.func4 (by kernel_rfl)
  (of_decide_eq_true (by kernel_rfl)) (by unfold Func.isWrapper; first | (rw [if_pos (by decide +kernel)]; kernel_rfl) | (rw [if_neg (by decide +kernel)]; exact ⟨rfl, rfl⟩))
  (fun os started H enc _ F => lifted os started H enc F)
#print axioms proved
end Go.Proofs.Ytimgbdkgjfbhkaa.lawIrcheckLooks
end
