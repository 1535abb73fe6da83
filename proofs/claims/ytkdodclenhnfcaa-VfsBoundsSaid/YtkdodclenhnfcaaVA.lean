/- vfs: what one file's bytes come to under Append and Delete (no program in sight). -/
import Derived.Test.YtkdodclenhnfcaaV9
namespace Go.Proofs.Ytkdodclenhnfcaa.VA
set_option linter.unusedVariables false
set_option linter.unusedSimpArgs false
open Go Go.RowKit Go.Proofs.Ytkdodclenhnfcaa.V2 Go.Proofs.Ytkdodclenhnfcaa.V3 Go.Proofs.Ytkdodclenhnfcaa.V5 Go.Proofs.Ytkdodclenhnfcaa.V6 Go.Proofs.Ytkdodclenhnfcaa.V7 Go.Proofs.Ytkdodclenhnfcaa.V8 Go.Proofs.Ytkdodclenhnfcaa.V9

def total : List (List Int) → Int
  | [] => 0
  | p :: r => p.length + total r
theorem total_nonneg (ps : List (List Int)) : 0 ≤ total ps := by
  induction ps with
  | nil => exact Int.le_refl _
  | cons p r ih => unfold total; omega
theorem total_snoc (ps : List (List Int)) (p : List Int) : total (ps ++ [p]) = total ps + p.length := by
  induction ps with
  | nil => simp [total]
  | cons q r ih => simp only [List.cons_append, total, ih]; omega
theorem less_eq (n : Int) (ps : List (List Int)) (h1 : total ps ≤ n) (h2 : n ≤ 9223372036854775807) : less n ps = n - total ps := by
  unfold less
  induction ps generalizing n with
  | nil => simp [total]
  | cons p r ih =>
    have h3 := total_nonneg r
    unfold total at h1 ⊢
    rw [List.foldl_cons, show wrap64 (n - p.length) = n - p.length from by unfold wrap64; omega, ih _ (by omega) (by omega)]
    omega
def nmA : ByteArray := ⟨#[97]⟩
/-- one file 'a' at most, n bytes -/
structure Fit (s : St) (q n : Int) : Prop where
  quota : s.quota = q
  faults : s.faults = fun _ => false
  size : s.size = n
  lo : 0 ≤ n
  hi : n ≤ q
  qhi : q ≤ 65535
  shape : (s.files nmA = none ∧ s.many = 0 ∧ n = 0) ∨ ∃ ps, s.files nmA = some ps ∧ s.many = 1 ∧ 0 < n ∧ total ps = n
theorem fit_new (q : Int) (h0 : 0 ≤ q) (h : q ≤ 65535) : Fit (new_st q []) q 0 :=
  ⟨rfl, by funext i; simp [new_st], rfl, Int.le_refl _, h0, h, .inl ⟨rfl, rfl, rfl⟩⟩
theorem fit_counted {s : St} {q n : Int} (h : Fit s q n) : Fit (counted_st s) q n := ⟨h.quota, h.faults, h.size, h.lo, h.hi, h.qhi, h.shape⟩
theorem fit_append {s : St} {q n : Int} {page : List Int} (h : Fit s q n) (h1 : 1 ≤ page.length) (h2 : page.length ≤ 1024) :
    (q < n + page.length → ((append_ s nmA page).1 = 14 ∨ (append_ s nmA page).1 = 2) ∧ Fit (append_ s nmA page).2 q n) ∧
    (n + page.length ≤ q → (append_ s nmA page).1 = 0 ∧ Fit (append_ s nmA page).2 q (n + page.length) ∨ (append_ s nmA page).1 = 2) := by
  have hn : V1.nm nmA = true := nm_a
  have hq := h.quota
  have hz := h.size
  have lo := h.lo
  have hi := h.hi
  have qhi := h.qhi
  unfold append_
  rw [if_neg (by simp [hn]), if_neg (by omega), if_neg (by rw [h.faults]; simp)]
  by_cases hm : (s.files nmA = none ∧ s.many = 256) ∨ ((s.files nmA).getD []).length = 4096
  · rw [if_pos hm]
    exact ⟨fun _ => ⟨.inr rfl, fit_counted h⟩, fun _ => .inr rfl⟩
  · rw [if_neg hm, hq, hz, show wrap64 (q - n) = q - n from by unfold wrap64; omega]
    refine ⟨fun hlt => ?_, fun hle => ?_⟩
    · rw [if_pos (by omega)]
      exact ⟨.inl rfl, fit_counted h⟩
    · rw [if_neg (by omega)]
      refine .inl ⟨rfl, hq, h.faults, ?_, by omega, by omega, qhi, .inr ⟨(s.files nmA).getD [] ++ [page], ?_, ?_, by omega, ?_⟩⟩
      · show wrap64 (s.size + page.length) = _
        rw [hz]
        unfold wrap64
        omega
      · show setF s.files nmA _ nmA = _
        unfold setF
        rw [if_pos rfl]
        rfl
      · show (if (s.files nmA).isSome then s.many else s.many + 1) = 1
        rcases h.shape with ⟨e1, e2, _⟩ | ⟨ps, e1, e2, _⟩ <;> rw [e1, e2] <;> rfl
      · rw [total_snoc]
        rcases h.shape with ⟨e1, _, e3⟩ | ⟨ps, e1, _, _, e4⟩
        · rw [e1, e3]; rfl
        · rw [e1, ← e4]; rfl
theorem fit_delete {s : St} {q n : Int} (h : Fit s q n) (h0 : 0 < n) : (delete_ s nmA).1 = 0 ∧ Fit (delete_ s nmA).2 q 0 := by
  have hz := h.size
  have lo := h.lo
  have hi := h.hi
  have qhi := h.qhi
  rcases h.shape with ⟨_, _, e3⟩ | ⟨ps, e1, e2, _, e4⟩
  · omega
  · unfold delete_
    rw [e1]
    refine ⟨rfl, h.quota, h.faults, ?_, Int.le_refl _, by omega, qhi, .inl ⟨?_, ?_, rfl⟩⟩
    · show less s.size ps = 0
      rw [less_eq _ _ (by omega) (by omega)]
      omega
    · show setF s.files nmA none nmA = none
      unfold setF
      rw [if_pos rfl]
    · show s.many - 1 = 0
      rw [e2]
end Go.Proofs.Ytkdodclenhnfcaa.VA
