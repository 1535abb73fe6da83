/- The law VfsBounds: what an Append may turn (no program in sight). -/
import Derived.Test.YtkdodclenhnfcaaVJ
namespace Go.Proofs.Ytkdodclenhnfcaa.VK
set_option linter.unusedVariables false
set_option linter.unusedSimpArgs false
open Go Go.RowKit Go.Proofs.Ytkdodclenhnfcaa.V2 Go.Proofs.Ytkdodclenhnfcaa.V3 Go.Proofs.Ytkdodclenhnfcaa.V5 Go.Proofs.Ytkdodclenhnfcaa.V6 Go.Proofs.Ytkdodclenhnfcaa.V7 Go.Proofs.Ytkdodclenhnfcaa.V8 Go.Proofs.Ytkdodclenhnfcaa.V9 Go.Proofs.Ytkdodclenhnfcaa.VA Go.Proofs.Ytkdodclenhnfcaa.VB Go.Proofs.Ytkdodclenhnfcaa.VF

/-- what holds all along -/
structure K2 (s : St) (q : Int) (fl : List Int) : Prop where
  quota : s.quota = q
  faults : s.faults = fun i => fl.contains i
  whole : ∃ l, Whole s l
  fits : s.size ≤ max q 0
  fine : fl.length = 0 → s.failed = false
theorem k2_new (q : Int) (fl : List Int) : K2 (new_st q fl) q fl := ⟨rfl, rfl, ⟨[], whole_new _ _⟩, by simp [new_st]; omega, fun _ => rfl⟩
theorem no_fault {s : St} {q : Int} {fl : List Int} {i : Int} (h : K2 s q fl) (h0 : fl.length = 0) : s.faults i = false := by
  rw [h.faults]
  cases fl with
  | nil => rfl
  | cons => simp at h0
theorem k2_counted {s : St} {q : Int} {fl : List Int} (h : K2 s q fl) : K2 (counted_st s) q fl :=
  ⟨h.quota, h.faults, by obtain ⟨n, hw⟩ := h.whole; exact ⟨n, whole_counted hw⟩, h.fits, fun h0 => by
    show (s.failed || s.faults _) = false
    rw [h.fine h0, no_fault h h0]
    rfl⟩
theorem pages_put (s : St) (nm : ByteArray) (page : List Int) : pages_ (put_st s nm page) nm = pages_ s nm + 1 := by
  show (((setF s.files nm (some ((s.files nm).getD [] ++ [page])) nm).getD []).length : Int) = ((s.files nm).getD []).length + 1
  unfold setF
  rw [if_pos rfl]
  simp
/-- what an Append answers and turns -/
theorem k2_append {s : St} {q : Int} {fl : List Int} (hq : -9223372036854775808 ≤ q ∧ q ≤ 9223372036854775807) (h : K2 s q fl) (nm : ByteArray) (page : List Int) :
    K2 (append_ s nm page).2 q fl ∧
    (((append_ s nm page).1 = 0 ∧ page.length ≤ 1024 ∧ (append_ s nm page).2.size = s.size + page.length ∧ pages_ (append_ s nm page).2 nm = pages_ s nm + 1) ∨
     (((append_ s nm page).1 = 11 ∨ (append_ s nm page).1 = 12 ∨ (append_ s nm page).1 = 2 ∨ (append_ s nm page).1 = 14 ∨ ((append_ s nm page).1 = 13 ∧ 0 < fl.length)) ∧ (append_ s nm page).2.size = s.size ∧ pages_ (append_ s nm page).2 nm = pages_ s nm ∧ (append_ s nm page).2.many = s.many)) := by
  obtain ⟨names, hw⟩ := h.whole
  have hb := hw.bounds
  unfold append_
  split
  · exact ⟨h, .inr ⟨.inl rfl, rfl, rfl, rfl⟩⟩
  rename_i h1
  split
  · exact ⟨h, .inr ⟨.inr (.inl rfl), rfl, rfl, rfl⟩⟩
  rename_i h2
  split
  · rename_i hf
    refine ⟨k2_counted h, .inr ⟨.inr (.inr (.inr (.inr ⟨rfl, ?_⟩))), rfl, rfl, rfl⟩⟩
    rcases Nat.eq_zero_or_pos fl.length with h0 | h0
    · rw [no_fault h h0] at hf; cases hf
    · exact h0
  split
  · exact ⟨k2_counted h, .inr ⟨.inr (.inr (.inl rfl)), rfl, rfl, rfl⟩⟩
  rename_i h3
  split
  · exact ⟨k2_counted h, .inr ⟨.inr (.inr (.inr (.inl rfl))), rfl, rfl, rfl⟩⟩
  rename_i h4
  obtain ⟨hp, hz⟩ := whole_put (whole_counted hw) (nm := nm) (page := page) (by simpa using h1) (by omega) (by omega) h3
  have hk := k2_counted h
  have hz' : (put_st (counted_st s) nm page).size = s.size + page.length := hz
  have hfit : s.size + page.length ≤ max q 0 := by
    rw [h.quota] at h4
    have := h.fits
    unfold wrap64 at h4
    omega
  exact ⟨⟨h.quota, h.faults, ⟨_, hp⟩, by rw [hz']; exact hfit, hk.fine⟩, .inl ⟨rfl, by omega, hz', pages_put _ _ _⟩⟩
theorem k2_delete {s : St} {q : Int} {fl : List Int} (h : K2 s q fl) (nm : ByteArray) : K2 (delete_ s nm).2 q fl ∧ ((s.files nm).isSome = true → (delete_ s nm).1 = 0) := by
  unfold delete_
  cases hs : s.files nm with
  | none => exact ⟨h, fun e => by cases e⟩
  | some ps =>
    obtain ⟨names, hw⟩ := h.whole
    obtain ⟨h1, h2⟩ := whole_del hw hs
    refine ⟨⟨h.quota, h.faults, ⟨_, h1⟩, ?_, h.fine⟩, fun _ => rfl⟩
    show (del_st s nm ps).size ≤ _
    have := total_nonneg ps
    have := h.fits
    omega
/-- all names, one by one, are taken away -/
theorem k2_none {s : St} (h : Whole s []) : s.size = 0 ∧ s.many = 0 := ⟨h.size, h.many.symm⟩
theorem whole_tail {s : St} {nm : ByteArray} {r : List ByteArray} (h : Whole s (nm :: r)) : (s.files nm).isSome = true ∧ Whole (delete_ s nm).2 r := by
  have h1 : (s.files nm).isSome = true := (h.mem nm).1 (by simp)
  refine ⟨h1, ?_⟩
  have h2 := whole_delete nm h
  rw [if_pos h1, wo_head (List.nodup_cons.1 h.nodup).1] at h2
  exact h2
theorem whole_names {s : St} {l L : List ByteArray} (h : Whole s l) (hL : VI.Names s L) : Whole s L := by
  refine h.perm ((List.perm_ext_iff_of_nodup h.nodup ?_).2 fun x => (h.mem x).trans (hL.mem x).symm)
  exact hL.sorted.imp (fun {a b} hab e => by subst e; exact absurd hab (List.lt_irrefl _))
end Go.Proofs.Ytkdodclenhnfcaa.VK
