/- The law VfsKeeps: what one file keeps (no program in sight); a row of what came in. -/
import Derived.Test.YtkdodclenhnfcaaVF
import Derived.Test.YtkdodclenhnfcaaVD
import Derived.Test.YtkdodclenhnfcaaWApart
namespace Go.Proofs.Ytkdodclenhnfcaa.VG
set_option linter.unusedVariables false
set_option linter.unusedSimpArgs false
open Go Go.RowKit Go.Proofs.YtkdodclenhnfcaaW.PrintWords Go.Proofs.Ytkdodclenhnfcaa.V2 Go.Proofs.Ytkdodclenhnfcaa.V3 Go.Proofs.Ytkdodclenhnfcaa.V5 Go.Proofs.Ytkdodclenhnfcaa.V6 Go.Proofs.Ytkdodclenhnfcaa.V7 Go.Proofs.Ytkdodclenhnfcaa.V8 Go.Proofs.Ytkdodclenhnfcaa.V9 Go.Proofs.Ytkdodclenhnfcaa.VA Go.Proofs.Ytkdodclenhnfcaa.VB Go.Proofs.Ytkdodclenhnfcaa.VD Go.Proofs.Ytkdodclenhnfcaa.VF

def nmO : ByteArray := ⟨#[111, 119, 110]⟩
theorem nm_o : V1.nm nmO = true := by first | rfl | decide
/-- the file 'own' keeps 'want' -/
structure K1 (s : St) (fl : List Int) (want : List (List Int)) : Prop where
  quota : s.quota = 1099511627776
  faults : s.faults = fun i => fl.contains i
  whole : ∃ names, Whole s names
  want : (s.files nmO).getD [] = want
theorem K1.len {s : St} {fl : List Int} {want : List (List Int)} (h : K1 s fl want) : want.length ≤ 4096 := by
  obtain ⟨names, hw⟩ := h.whole
  rw [← h.want]
  cases hs : s.files nmO with
  | none => simp
  | some ps => exact (hw.small _ _ hs).2.1
theorem k1_new (fl : List Int) : K1 (new_st 1099511627776 fl) fl [] := ⟨rfl, rfl, ⟨[], whole_new _ _⟩, rfl⟩
theorem k1_counted {s : St} {fl : List Int} {want : List (List Int)} (h : K1 s fl want) : K1 (counted_st s) fl want := ⟨h.quota, h.faults, by obtain ⟨n, hw⟩ := h.whole; exact ⟨n, whole_counted hw⟩, h.want⟩
theorem no_fault {s : St} {fl : List Int} {want : List (List Int)} {i : Int} (h : K1 s fl want) (hf : s.faults i = true) : 0 < fl.length := by
  rw [h.faults] at hf
  cases fl with
  | nil => simp at hf
  | cons => simp
theorem k1_append {s : St} {fl : List Int} {want : List (List Int)} (h : K1 s fl want) (nm : ByteArray) (page : List Int) :
    (nm ≠ nmO → K1 (append_ s nm page).2 fl want) ∧
    (nm = nmO → ((append_ s nm page).1 = 0 ∧ K1 (append_ s nm page).2 fl (want ++ [page])) ∨ (((append_ s nm page).1 = 12 ∨ (append_ s nm page).1 = 2 ∨ ((append_ s nm page).1 = 13 ∧ 0 < fl.length)) ∧ K1 (append_ s nm page).2 fl want)) := by
  unfold append_
  split
  · rename_i h1
    exact ⟨fun _ => h, fun e => by rw [e, nm_o] at h1; cases h1⟩
  rename_i h1
  split
  · exact ⟨fun _ => h, fun e => .inr ⟨.inl rfl, h⟩⟩
  rename_i h2
  split
  · rename_i hf
    exact ⟨fun _ => k1_counted h, fun e => .inr ⟨.inr (.inr ⟨rfl, no_fault h hf⟩), k1_counted h⟩⟩
  split
  · exact ⟨fun _ => k1_counted h, fun e => .inr ⟨.inr (.inl rfl), k1_counted h⟩⟩
  rename_i h3
  obtain ⟨names, hw⟩ := h.whole
  have hb := hw.bounds
  split
  · rename_i h4
    rw [h.quota] at h4
    unfold wrap64 at h4
    omega
  obtain ⟨hp, _⟩ := whole_put (whole_counted hw) (nm := nm) (page := page) (by simpa using h1) (by omega) (by omega) h3
  refine ⟨fun e => ⟨h.quota, h.faults, ⟨_, hp⟩, ?_⟩, fun e => .inl ⟨rfl, h.quota, h.faults, ⟨_, hp⟩, ?_⟩⟩
  · show (setF s.files nm _ nmO).getD [] = want
    unfold setF
    rw [if_neg (fun e' => e e'.symm)]
    exact h.want
  · subst e
    show (setF s.files nmO (some ((s.files nmO).getD [] ++ [page])) nmO).getD [] = want ++ [page]
    unfold setF
    rw [if_pos rfl, h.want]
    rfl
theorem k1_delete {s : St} {fl : List Int} {want : List (List Int)} (h : K1 s fl want) (nm : ByteArray) (hn : nm ≠ nmO) : K1 (delete_ s nm).2 fl want := by
  unfold delete_
  cases hs : s.files nm with
  | none => exact h
  | some ps =>
    obtain ⟨names, hw⟩ := h.whole
    refine ⟨h.quota, h.faults, ⟨_, (whole_del hw hs).1⟩, ?_⟩
    show (setF s.files nm _ nmO).getD [] = want
    unfold setF
    rw [if_neg (fun e' => hn e'.symm)]
    exact h.want
theorem k1_read {s : St} {fl : List Int} {want : List (List Int)} (h : K1 s fl want) (nm : ByteArray) (n : Int) : K1 (read_ s nm n).2.2 fl want := by
  unfold read_
  split
  · exact h
  · split
    · exact h
    · split
      · exact k1_counted h
      · exact k1_counted h
theorem k1_get {s : St} {fl : List Int} {want : List (List Int)} (h : K1 s fl want) (j : Nat) (hj : j < want.length) :
    ((read_ s nmO j).1 = 0 ∧ (read_ s nmO j).2.1 = want[j]) ∨ ((read_ s nmO j).1 = 13 ∧ 0 < fl.length) := by
  have hw := h.want
  unfold read_
  cases hs : s.files nmO with
  | none => rw [hs] at hw; subst hw; simp at hj
  | some ps =>
    rw [hs] at hw
    obtain rfl : ps = want := hw
    simp only
    rw [if_neg (by omega)]
    split
    · rename_i hf
      exact .inr ⟨rfl, no_fault h hf⟩
    · refine .inl ⟨rfl, ?_⟩
      simp [List.getD_eq_getElem?_getD, List.getElem?_eq_getElem hj]
theorem k1_pages {s : St} {fl : List Int} {want : List (List Int)} (h : K1 s fl want) : pages_ s nmO = want.length := by
  unfold pages_
  rw [h.want]

/-- what 'want' holds: slices that came in -/
def Wants (w : World) (want : List (List Int)) (cells : List (List Value)) : Prop :=
  cells.length = want.length ∧ ∀ (j : Nat) (p : List Int), want[j]? = some p → ∃ A c, cells[j]? = some [.slice A p.length c] ∧ p.length ≤ c ∧ Kd.C (Kd.int .u8) w A p.length p
theorem wants_nil (w : World) : Wants w [] [] := ⟨rfl, fun j p h => by simp at h⟩
theorem wants_snoc {w : World} {want : List (List Int)} {cells : List (List Value)} (h : Wants w want cells) {p : List Int} {A : Option Addr} {c : Nat} (hl : p.length ≤ c) (hC : Kd.C (Kd.int .u8) w A p.length p) : Wants w (want ++ [p]) (cells ++ [[.slice A p.length c]]) := by
  refine ⟨by simp [h.1], fun j q hq => ?_⟩
  rcases Nat.lt_trichotomy j want.length with hj | hj | hj
  · rw [List.getElem?_append_left hj] at hq
    obtain ⟨A', c', h1, h2⟩ := h.2 j q hq
    exact ⟨A', c', by rw [List.getElem?_append_left (by rw [h.1]; exact hj)]; exact h1, h2⟩
  · subst hj
    have e : p = q := by simpa using hq
    subst e
    exact ⟨A, c, by rw [← h.1]; simp, hl, hC⟩
  · rw [List.getElem?_eq_none (by simp; omega)] at hq
    cases hq
theorem raw_one {v : Value} (h : v.oneCell' = true) (w : World) (base : Nat) (ok : Nat → Prop) : (Kd.raw 1).M w base ok [v] [v] := ⟨rfl, rfl, fun u hu => by rw [List.mem_singleton.1 hu]; exact h⟩
/-- a row that no file owns lives on -/
theorem row_frame {α : Type} {d : Kd α} {e base : Nat} {own own' : Foot} {W W' : World} {v : Value} {xs : List α} (h : d.R e W base (fun k => own k = none) v xs) (f : V6.Frame own own' W W') : d.R e W' base (fun k => own' k = none) v xs :=
  Kd.R_mono (Kd.R_step (Kd.R_mono (Kd.R_bound h) (ok' := fun k => own k = none ∧ k < W.heap.size) (fun k hk => ⟨hk.1, hk.2.2.1⟩)) (fun k hk _ => f.block k hk.2 hk.1)) (fun k hk => (f.own k hk.2).trans hk.1)
/-- an append to a row that no file owns -/
theorem fsi_row {W W' : World} {base : Nat} {own : Foot} {fb mb xb : Nat} {s : St} {v : Value} (h : FSI W base own fb mb xb s) (hg : W.grownBy W' v.ownBlock) (hv : ∀ k, v.ownBlock = some k → own k = none) : FSI W' base own fb mb xb s :=
  h.step (fun k hk => hg.block k (h.old k hk).2 (fun e => hk (hv k e.symm))) hg.size
end Go.Proofs.Ytkdodclenhnfcaa.VG
