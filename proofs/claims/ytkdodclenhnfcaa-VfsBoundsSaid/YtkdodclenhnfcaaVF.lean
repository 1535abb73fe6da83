/- vfs: what a file system holds as a whole (no program in sight). -/
import Derived.Test.YtkdodclenhnfcaaVA
import Derived.Test.YtkdodclenhnfcaaVB
namespace Go.Proofs.Ytkdodclenhnfcaa.VF
set_option linter.unusedVariables false
set_option linter.unusedSimpArgs false
open Go Go.RowKit Go.Proofs.Ytkdodclenhnfcaa.V2 Go.Proofs.Ytkdodclenhnfcaa.V3 Go.Proofs.Ytkdodclenhnfcaa.V5 Go.Proofs.Ytkdodclenhnfcaa.V6 Go.Proofs.Ytkdodclenhnfcaa.V7 Go.Proofs.Ytkdodclenhnfcaa.V8 Go.Proofs.Ytkdodclenhnfcaa.V9 Go.Proofs.Ytkdodclenhnfcaa.VA Go.Proofs.Ytkdodclenhnfcaa.VB

def sumT (f : ByteArray → Option (List (List Int))) : List ByteArray → Int
  | [] => 0
  | x :: r => total ((f x).getD []) + sumT f r
/-- these are the files' names; all bytes are counted -/
structure Whole (s : St) (names : List ByteArray) : Prop where
  nodup : names.Nodup
  mem : ∀ x, x ∈ names ↔ (s.files x).isSome = true
  many : names.length = s.many
  size : s.size = sumT s.files names
  small : ∀ x ps, s.files x = some ps → ps ≠ [] ∧ ps.length ≤ 4096 ∧ ∀ p ∈ ps, 1 ≤ p.length ∧ p.length ≤ 1024
  cap : s.many ≤ 256
  named : ∀ x ∈ names, V1.nm x = true
theorem total_le {ps : List (List Int)} (h : ∀ p ∈ ps, p.length ≤ 1024) : total ps ≤ ps.length * 1024 := by
  induction ps with
  | nil => simp [total]
  | cons p r ih =>
    have h1 := h p (by simp)
    have h2 := ih (fun q hq => h q (by simp [hq]))
    unfold total
    simp only [List.length_cons]
    omega
theorem sumT_nonneg (f : ByteArray → Option (List (List Int))) (l : List ByteArray) : 0 ≤ sumT f l := by
  induction l with
  | nil => exact Int.le_refl _
  | cons x r ih => have := total_nonneg ((f x).getD []); unfold sumT; omega
theorem sumT_le {f : ByteArray → Option (List (List Int))} (h : ∀ x ps, f x = some ps → ps.length ≤ 4096 ∧ ∀ p ∈ ps, p.length ≤ 1024) (l : List ByteArray) : sumT f l ≤ l.length * 4194304 := by
  induction l with
  | nil => simp [sumT]
  | cons x r ih =>
    have h1 : total ((f x).getD []) ≤ 4194304 := by
      cases hx : f x with
      | none => simp [total]
      | some ps =>
        have := total_le (h x ps hx).2
        have := (h x ps hx).1
        simp only [Option.getD_some]
        omega
    unfold sumT
    simp only [List.length_cons]
    omega
theorem Whole.bounds {s : St} {names : List ByteArray} (h : Whole s names) : 0 ≤ s.size ∧ s.size ≤ 1073741824 := by
  have h1 := sumT_nonneg s.files names
  have h2 := sumT_le (f := s.files) (fun x ps hx => ⟨(h.small x ps hx).2.1, fun p hp => ((h.small x ps hx).2.2 p hp).2⟩) names
  have h3 := h.many
  have h4 := h.cap
  rw [h.size]
  omega
theorem sumT_other {f : ByteArray → Option (List (List Int))} {nm : ByteArray} {v : Option (List (List Int))} {l : List ByteArray} (h : nm ∉ l) : sumT (setF f nm v) l = sumT f l := by
  induction l with
  | nil => rfl
  | cons x r ih =>
    have h1 : x ≠ nm := fun e => h (by simp [e])
    unfold sumT
    rw [ih (fun e => h (by simp [e]))]
    simp [setF, h1]
theorem sumT_set {f : ByteArray → Option (List (List Int))} {nm : ByteArray} {v : Option (List (List Int))} {l : List ByteArray} (hd : l.Nodup) (h : nm ∈ l) : sumT (setF f nm v) l = sumT f l - total ((f nm).getD []) + total (v.getD []) := by
  induction l with
  | nil => simp at h
  | cons x r ih =>
    rw [List.nodup_cons] at hd
    unfold sumT
    by_cases hx : x = nm
    · subst hx
      rw [sumT_other hd.1]
      simp [setF]
      omega
    · have h2 : nm ∈ r := by
        rcases List.mem_cons.1 h with e | e
        · exact absurd e.symm hx
        · exact e
      rw [ih hd.2 h2]
      simp [setF, hx]
      omega
/-- a list without a name -/
def wo (l : List ByteArray) (nm : ByteArray) : List ByteArray := l.filter (fun x => decide (x ≠ nm))
theorem mem_wo {l : List ByteArray} {nm x : ByteArray} : x ∈ wo l nm ↔ x ≠ nm ∧ x ∈ l := by simp [wo, and_comm]
theorem wo_self {l : List ByteArray} {nm : ByteArray} (h : nm ∉ l) : wo l nm = l := by
  unfold wo
  rw [List.filter_eq_self]
  intro x hx
  refine decide_eq_true (fun e => h ?_)
  rw [← e]
  exact hx
theorem wo_head {l : List ByteArray} {nm : ByteArray} (h : nm ∉ l) : wo (nm :: l) nm = l := by
  have := wo_self h
  unfold wo at this ⊢
  rw [List.filter_cons_of_neg (by simp), this]
theorem wo_tail {l : List ByteArray} {x nm : ByteArray} (h : x ≠ nm) : wo (x :: l) nm = x :: wo l nm := by
  unfold wo
  rw [List.filter_cons_of_pos (by simpa using h)]
theorem nodup_wo {l : List ByteArray} (nm : ByteArray) (h : l.Nodup) : (wo l nm).Nodup := h.filter _
theorem length_wo {l : List ByteArray} {nm : ByteArray} (hd : l.Nodup) (h : nm ∈ l) : (wo l nm).length = l.length - 1 := by
  induction l with
  | nil => simp at h
  | cons x r ih =>
    rw [List.nodup_cons] at hd
    by_cases hx : x = nm
    · subst hx; rw [wo_head hd.1]; simp
    · have h2 : nm ∈ r := by
        rcases List.mem_cons.1 h with e | e
        · exact absurd e.symm hx
        · exact e
      have := List.length_pos_of_mem h2
      rw [wo_tail hx, List.length_cons, ih hd.2 h2, List.length_cons]
      omega
theorem sumT_erase {f : ByteArray → Option (List (List Int))} {nm : ByteArray} {l : List ByteArray} (hd : l.Nodup) (h : nm ∈ l) : sumT f (wo l nm) = sumT f l - total ((f nm).getD []) := by
  induction l with
  | nil => simp at h
  | cons x r ih =>
    rw [List.nodup_cons] at hd
    by_cases hx : x = nm
    · subst hx
      rw [wo_head hd.1]
      conv => rhs; unfold sumT
      omega
    · have h2 : nm ∈ r := by
        rcases List.mem_cons.1 h with e | e
        · exact absurd e.symm hx
        · exact e
      rw [wo_tail hx]
      unfold sumT
      rw [ih hd.2 h2]
      omega
theorem sumT_perm {f : ByteArray → Option (List (List Int))} {l l' : List ByteArray} (h : l.Perm l') : sumT f l = sumT f l' := by
  induction h with
  | nil => rfl
  | cons x _ ih => unfold sumT; rw [ih]
  | swap x y l => unfold sumT; unfold sumT; omega
  | trans _ _ ih1 ih2 => exact ih1.trans ih2
theorem Whole.perm {s : St} {l l' : List ByteArray} (h : Whole s l) (hp : l.Perm l') : Whole s l' :=
  ⟨hp.nodup_iff.1 h.nodup, fun x => (hp.mem_iff).symm.trans (h.mem x), hp.length_eq.symm.trans h.many, h.size.trans (sumT_perm hp), h.small, h.cap, fun x hx => h.named x (hp.mem_iff.2 hx)⟩
theorem whole_new (q : Int) (l : List Int) : Whole (new_st q l) [] :=
  ⟨List.nodup_nil, fun x => by simp [new_st], rfl, rfl, fun x ps h => by simp [new_st] at h, by simp [new_st], by simp⟩
theorem whole_counted {s : St} {l : List ByteArray} (h : Whole s l) : Whole (counted_st s) l := ⟨h.nodup, h.mem, h.many, h.size, h.small, h.cap, h.named⟩
/-- the names behind an Append that puts a page -/
def more (s : St) (nm : ByteArray) (l : List ByteArray) : List ByteArray := if (s.files nm).isSome then l else nm :: l
theorem whole_put {s : St} {l : List ByteArray} {nm : ByteArray} {page : List Int} (h : Whole s l) (hn : V1.nm nm = true) (h1 : 1 ≤ page.length) (h2 : page.length ≤ 1024) (hm : ¬ ((s.files nm = none ∧ s.many = 256) ∨ ((s.files nm).getD []).length = 4096)) :
    Whole (put_st s nm page) (more s nm l) ∧ (put_st s nm page).size = s.size + page.length := by
  have hb := h.bounds
  have hz : (put_st s nm page).size = s.size + page.length := by
    show wrap64 (s.size + page.length) = _
    unfold wrap64
    omega
  refine ⟨?_, hz⟩
  unfold more
  cases hs : s.files nm with
  | none =>
    have hnl : nm ∉ l := fun e => by rw [(h.mem nm), hs] at e; cases e
    have hf : (put_st s nm page).files = setF s.files nm (some [page]) := by show setF s.files nm (some ((s.files nm).getD [] ++ [page])) = _; rw [hs]; rfl
    have hmn : (put_st s nm page).many = s.many + 1 := by show (if (s.files nm).isSome then s.many else s.many + 1) = _; rw [hs]; rfl
    simp only [Option.isSome_none, Bool.false_eq_true, if_false]
    refine ⟨List.nodup_cons.2 ⟨hnl, h.nodup⟩, fun x => ?_, ?_, ?_, fun x ps hp => ?_, ?_, fun x hx => ?_⟩
    · rw [hf]
      by_cases hx : x = nm
      · simp [hx, setF]
      · simp [hx, setF, h.mem x]
    · rw [hmn, ← h.many]; rfl
    · rw [hz, hf]
      unfold sumT
      rw [sumT_other hnl, ← h.size]
      simp [setF, total]
      omega
    · rw [hf] at hp
      unfold setF at hp
      by_cases hx : x = nm
      · rw [if_pos hx] at hp
        obtain rfl := Option.some.inj hp
        exact ⟨by simp, by simp, by simp; omega⟩
      · rw [if_neg hx] at hp
        exact h.small x ps hp
    · rw [hmn]
      have h5 := h.cap
      have h6 : s.many ≠ 256 := fun e => hm (.inl ⟨hs, e⟩)
      omega
    · rcases List.mem_cons.1 hx with rfl | hx
      · exact hn
      · exact h.named x hx
  | some ps0 =>
    have hnl : nm ∈ l := by rw [(h.mem nm), hs]; rfl
    have hf : (put_st s nm page).files = setF s.files nm (some (ps0 ++ [page])) := by show setF s.files nm (some ((s.files nm).getD [] ++ [page])) = _; rw [hs]; rfl
    have hmn : (put_st s nm page).many = s.many := by show (if (s.files nm).isSome then s.many else s.many + 1) = _; rw [hs]; rfl
    simp only [Option.isSome_some, if_true]
    refine ⟨h.nodup, fun x => ?_, ?_, ?_, fun x ps hp => ?_, ?_, h.named⟩
    · rw [hf]
      by_cases hx : x = nm
      · simp [hx, setF, hnl]
      · simp [hx, setF, h.mem x]
    · rw [hmn, ← h.many]
    · rw [hz, hf, sumT_set h.nodup hnl, hs, ← h.size]
      simp only [Option.getD_some]
      rw [total_snoc]
      omega
    · rw [hf] at hp
      unfold setF at hp
      by_cases hx : x = nm
      · rw [if_pos hx] at hp
        obtain rfl := Option.some.inj hp
        have h3 := h.small nm ps0 hs
        refine ⟨by simp, ?_, fun p hp => ?_⟩
        · have : ps0.length ≠ 4096 := fun e => hm (.inr (by rw [hs]; exact e))
          simp only [List.length_append, List.length_cons, List.length_nil]
          omega
        · rcases List.mem_append.1 hp with hp | hp
          · exact h3.2.2 p hp
          · rw [List.mem_singleton.1 hp]; exact ⟨h1, h2⟩
      · rw [if_neg hx] at hp
        exact h.small x ps hp
    · rw [hmn]; exact h.cap
theorem whole_del {s : St} {l : List ByteArray} {nm : ByteArray} {ps0 : List (List Int)} (h : Whole s l) (hs : s.files nm = some ps0) :
    Whole (del_st s nm ps0) (wo l nm) ∧ (del_st s nm ps0).size = s.size - total ps0 := by
  have hb := h.bounds
  have hnl : nm ∈ l := by rw [(h.mem nm), hs]; rfl
  have hnn : nm ∉ wo l nm := fun e => (mem_wo.1 e).1 rfl
  have hse := sumT_erase (f := s.files) h.nodup hnl
  rw [hs] at hse
  simp only [Option.getD_some] at hse
  have hz : (del_st s nm ps0).size = s.size - total ps0 := by
    show less s.size ps0 = _
    refine less_eq _ _ ?_ (by omega)
    have := sumT_nonneg s.files (wo l nm)
    rw [h.size]
    omega
  refine ⟨⟨nodup_wo nm h.nodup, fun x => ?_, ?_, ?_, fun x ps hp => ?_, ?_, fun x hx => ?_⟩, hz⟩
  · rw [mem_wo, h.mem x]
    show _ ↔ (setF s.files nm none x).isSome = true
    by_cases hx : x = nm
    · simp [hx, setF]
    · simp [hx, setF]
  · show (wo l nm).length = s.many - 1
    rw [length_wo h.nodup hnl, h.many]
  · rw [hz, h.size]
    show _ = sumT (setF s.files nm none) (wo l nm)
    rw [sumT_other hnn, hse]
  · have hp' : setF s.files nm none x = some ps := hp
    unfold setF at hp'
    by_cases hx : x = nm
    · rw [if_pos hx] at hp'; cases hp'
    · rw [if_neg hx] at hp'; exact h.small x ps hp'
  · have := h.cap
    show s.many - 1 ≤ 256
    omega
  · exact h.named x (mem_wo.1 hx).2
theorem whole_delete {s : St} {l : List ByteArray} (nm : ByteArray) (h : Whole s l) : Whole (delete_ s nm).2 (if (s.files nm).isSome then wo l nm else l) := by
  unfold delete_
  cases hs : s.files nm with
  | none => simpa using h
  | some ps => simpa using (whole_del h hs).1
theorem whole_read {s : St} {l : List ByteArray} (nm : ByteArray) (n : Int) (h : Whole s l) : Whole (read_ s nm n).2.2 l := by
  unfold read_
  split
  · exact h
  · split
    · exact h
    · split
      · exact whole_counted h
      · exact whole_counted h
theorem more_counted (s : St) (nm : ByteArray) (l : List ByteArray) : more (counted_st s) nm l = more s nm l := rfl
/-- what Append answers, where no number is too great -/
theorem whole_append {s : St} {l : List ByteArray} (nm : ByteArray) (page : List Int) (h : Whole s l) : ∃ l', Whole (append_ s nm page).2 l' := by
  unfold append_
  split
  · exact ⟨l, h⟩
  rename_i h1
  split
  · exact ⟨l, h⟩
  rename_i h2
  split
  · exact ⟨l, whole_counted h⟩
  split
  · exact ⟨l, whole_counted h⟩
  rename_i h3
  split
  · exact ⟨l, whole_counted h⟩
  · exact ⟨_, (whole_put (whole_counted h) (by simpa using h1) (by omega) (by omega) h3).1⟩
end Go.Proofs.Ytkdodclenhnfcaa.VF
