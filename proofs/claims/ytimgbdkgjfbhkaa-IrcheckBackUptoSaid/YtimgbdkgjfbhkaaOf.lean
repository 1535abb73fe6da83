/- Texts of this claim, put together: Po, Pza, Ug, Ui, Sa, Sb, Sc, Sd, Se, Sf, Wa, Wb, Tg, Th, Ti. -/
import Derived.Test.YtimgbdkgjfbhkaaOe
set_option linter.unusedVariables false
set_option linter.unusedSimpArgs false
set_option maxRecDepth 100000
namespace Go.Proofs.Ytimgbdkgjfbhkaa.Z
open Go Go.Fw
abbrev oo79 : List LOp := [⟨.assign (.const (.int .i64 0)), some 6, none⟩]
abbrev oo80 : List LOp := [⟨.assign (.const (.int .i64 0)), some 7, none⟩]
abbrev oo81 : List LOp := [⟨.box 25 (.tmp 0), some 2, none⟩, ⟨.box 32 (.tmp 1), some 3, none⟩, ⟨.assign (.const (.slice none 0 0)), some 4, none⟩, ⟨.assign (.const (.int .i64 0)), some 5, none⟩, ⟨.assign (.const (.int .i64 0)), some 6, none⟩]
abbrev oo82 : List LOp := [oL 25 2 13, oL 32 3 14, oC 27 #[.tmp 13, .tmp 14] #[25, 32] 15, oM 15 12, oX 12 0 16, oX 12 1 17, oX 12 2 18, ⟨.alloc 48, some 7, none⟩, oS 48 7 16, oA 17 8, oA 18 9]
abbrev oo83 : List LOp := [oM 9 19, oK .neq 35 19 0 35 20]
abbrev oo84 : List LOp := [⟨.assign (.const (.slice none 0 0)), some 2, none⟩]
abbrev oo85 : List LOp := [oM 0 3, ⟨.binOp .eql 46 (.tmp 3) (.const (.slice none 0 0)) 46, some 4, none⟩]
abbrev oo86 : List LOp := [⟨.buildSlice 46 0 #[], some 5, none⟩, oM 0 6, ⟨.call { callee := .builtin .append, args := #[.tmp 5, .tmp 6], argTypes := #[46, 46] }, some 7, none⟩, oA 7 2]
abbrev oo87 : List LOp := [oM 0 3, ⟨.binOp .eql 28 (.tmp 3) (.const (.slice none 0 0)) 28, some 4, none⟩]
abbrev oo88 : List LOp := [⟨.buildSlice 28 0 #[], some 5, none⟩, oM 0 6, ⟨.call { callee := .builtin .append, args := #[.tmp 5, .tmp 6], argTypes := #[28, 28] }, some 7, none⟩, oA 7 2]
abbrev oo89 : List LOp := [⟨.box 48 (.tmp 1), some 3, none⟩, ⟨.alloc 41, some 4, none⟩]
abbrev oo90 : List LOp := [oF 48 3 0 5, oL 44 5 6]
abbrev oo91 : List LOp := [oK .eql 44 6 1 44 8, oA 8 7]
abbrev oo92 : List LOp := [oK .eql 44 6 2 44 13, oA 13 12]
abbrev oo93 : List LOp := [oK .eql 44 6 3 44 18, oA 18 17]
abbrev oo94 : List LOp := [oK .eql 44 6 4 44 23, oA 23 22]
abbrev oo95 : List LOp := [oK .eql 44 6 5 44 28, oA 28 27]
abbrev oo96 : List LOp := [oK .add 3 52 1 3 68, oM 68 52]
abbrev oo97 : List LOp := [⟨.box 48 (.tmp 0), some 2, none⟩, ⟨.box 32 (.tmp 1), some 3, none⟩, ⟨.alloc 25, some 4, none⟩, ⟨.assign (.const (.int .i64 0)), some 5, none⟩]
abbrev oo98 : List LOp := [oL 48 2 11, oL 32 3 12, oC 24 #[.tmp 11, .tmp 12] #[48, 32] 13, oM 13 10, oX 10 0 14, oX 10 1 15, oA 14 6, oA 15 7]
abbrev oo99 : List LOp := [oM 7 16, oK .neq 35 16 0 35 17]
end Go.Proofs.Ytimgbdkgjfbhkaa.Z
section
namespace Go.Proofs.Ytimgbdkgjfbhkaa.Z
open Go Go.Fw
mutual
def termsR : TermT → Int → Int
 | .mk _ k _ _ _, most => goT k most 1
def goT : List TermT → Int → Int → Int
 | [], _, n => n
 | t :: r, most, n => if n ≤ most then goT r most (n + termsR t (most - n)) else n
end
theorem termsR_eq (t : TermT) (most : Int) : termsR t most = goT t.kids most 1 := by cases t; rw [termsR]; rfl
mutual
theorem termsR_rng : ∀ (t : TermT) (most : Int), 0 ≤ most → 1 ≤ termsR t most ∧ termsR t most ≤ most + 1
 | .mk o k s p v, most, h => by
   rw [termsR]
   have := goT_rng k most 1
   omega
theorem goT_rng : ∀ (l : List TermT) (most n : Int), n ≤ goT l most n ∧ (goT l most n ≤ most + 1 ∨ goT l most n = n)
 | [], most, n => by rw [goT]; omega
 | t :: r, most, n => by
   rw [goT]
   split
   ·have h1 := termsR_rng t (most - n) (by omega)
    have h2 := goT_rng r most (n + termsR t (most - n))
    omega
   ·omega
end
theorem goT_end {l : List TermT} {most n : Int} {i : Nat} (h : l.length ≤ i ∨ most < n) : goT (l.drop i) most n = n := by
 rcases h with h | h
 ·rw [List.drop_of_length_le h, goT]
 ·cases l.drop i with
  | nil => rw [goT]
  | cons t r => rw [goT, if_neg (by omega)]
theorem goT_step {l : List TermT} {most n : Int} {i : Nat} (hi : i < l.length) (h : n ≤ most) : goT (l.drop i) most n = goT (l.drop (i + 1)) most (n + termsR (rdI l i) (most - n)) := by
 rw [drop_rd hi, goT, if_pos h]
mutual
def partsR : PlanT → Int → Int
 | .mk _ k _ e _ t, most => goP k most (goT t most (1 + t.length + e.length))
def goP : List PlanT → Int → Int → Int
 | [], _, n => n
 | t :: r, most, n => if n ≤ most then goP r most (n + partsR t (most - n)) else n
end
theorem partsR_eq (p : PlanT) (most : Int) : partsR p most = goP p.kids most (goT p.terms most (1 + p.terms.length + p.edges.length)) := by cases p; rw [partsR]; rfl
mutual
theorem partsR_rng : ∀ (p : PlanT) (most : Int), 0 ≤ most → partsP p ≤ 2200000 → 1 ≤ partsR p most ∧ partsR p most ≤ most + 2200001
 | .mk o k s e b t, most, h, hf => by
   rw [partsR]
   rw [partsP] at hf
   have h1 := goT_rng t most (1 + t.length + e.length)
   have h2 := goP_rng k most (goT t most (1 + t.length + e.length)) (by omega)
   omega
theorem goP_rng : ∀ (l : List PlanT) (most n : Int), partsL l ≤ 2200000 → n ≤ goP l most n ∧ (goP l most n ≤ most + 2200001 ∨ goP l most n = n)
 | [], most, n, _ => by rw [goP]; omega
 | t :: r, most, n, hf => by
   rw [partsL] at hf
   rw [goP]
   split
   ·have h1 := partsR_rng t (most - n) (by omega) (by omega)
    have h2 := goP_rng r most (n + partsR t (most - n)) (by omega)
    omega
   ·omega
end
theorem goP_end {l : List PlanT} {most n : Int} {i : Nat} (h : l.length ≤ i ∨ most < n) : goP (l.drop i) most n = n := by
 rcases h with h | h
 ·rw [List.drop_of_length_le h, goP]
 ·cases l.drop i with
  | nil => rw [goP]
  | cons t r => rw [goP, if_neg (by omega)]
theorem goP_step {l : List PlanT} {most n : Int} {i : Nat} (hi : i < l.length) (h : n ≤ most) : goP (l.drop i) most n = goP (l.drop (i + 1)) most (n + partsR (rdI l i) (most - n)) := by
 rw [drop_rd hi, goP, if_pos h]
set_option maxHeartbeats 4000000 in
theorem terms1_ok (t : TermT) (most : Int) (h0 : 0 ≤ most) (h1 : most ≤ 1100000) (IH : ∀ i : Nat, i < t.kids.length → ∀ m : Int, 0 ≤ m → m ≤ 1100000 → Snd P 32 [.d (.ag (encT (rdI t.kids i))), .int m] (.int (termsR (rdI t.kids i) m)) []) : Snd P 32 [.d (.ag (encT t)), .int most] (.int (termsR t most)) [] := by
 refine Snd.ok 0 rfl (by kernel_rfl) fun hok => ?_
 have hkm := encT_ok hok
 clear hok
 obtain ⟨m, hm⟩ : ∃ m, t.kids.length = m := ⟨_, rfl⟩
 rw [hm] at hkm
 refine snd_of [] Try.func32 rfl (by kernel_rfl) Try.ntmps32 (by simp) ?_
 unfold Try.f32
 simp only [List.cons_append, List.nil_append, List.length_cons, List.length_nil, Nat.reduceAdd, Nat.reduceSub, List.replicate]
 apply Run.seq
 refine opsF [⟨.box 89 (.tmp 0), some 2, none⟩, ⟨.assign (.const (.int .i64 0)), some 4, none⟩] fun K hK => ?_
 try simp
 repeat' first | (refine evL_c ?_; simp [hm]) | (with_reducible first | apply aI | intro _ | assumption) | omega
 all_goals (apply Fin.go hK; clear hK K)
 simp only [tN]
 apply Run.seq
 refine opsF [⟨.assign (.const (.int .i64 1)), some 5, none⟩] fun K hK => ?_
 try simp
 repeat' first | (refine evL_c ?_; simp [hm]) | (with_reducible first | apply aI | intro _ | assumption) | omega
 all_goals (apply Fin.go hK; clear hK K)
 simp only [tN]
 apply Run.seq
 apply Run.seq
 refine opsF oo79 fun K hK => ?_
 try simp
 repeat' first | (refine evL_c ?_; simp [hm]) | (with_reducible first | apply aI | intro _ | assumption) | omega
 all_goals (apply Fin.go hK; clear hK K)
 simp only [tN]
 apply Run.block
 refine Run.loopO [5, 6, 7, 8, 9, 10, 11, 12, 13, 14, 15, 16, 17, 18, 19, 20, 21, 22, 23, 24, 25, 26, 27, 28, 29] (fun (x : Nat × Int) => [(6, .int x.1), (5, .int x.2)]) (fun (x : Nat × Int) => [(300, .vals ((encT t).map .d))]) (fun (x : Nat × Int) => x.1 ≤ m ∧ 1 ≤ x.2 ∧ x.2 ≤ 4400000 ∧ goT (t.kids.drop x.1) most x.2 = termsR t most) (fun (x : Nat × Int) => m - x.1) (0, 1) ⟨by omega, by omega, by omega, by rw [termsR_eq]; rfl⟩ (by simp) fun ⟨i, n⟩ ⟨hi, hn1, hn2, hg⟩ => ?_
 simp only at hi hn1 hn2 hg
 simp only [over, List.foldl, List.set]
 apply Run.seq
 refine Run.cut [7, 8, 9, 10, 11, 12, 13, 14, 15, 16] [(16, .bool (decide (i < m ∧ n ≤ most)))] [(300, .vals ((encT t).map .d))] ?_ ?_
 ·refine opsF [oM 6 7, oF 89 2 1 8, oL 28 8 9, oN 28 9 10, oB .lss 3 7 10 3 11, oM 11 12, ⟨.move (.tmp 5), some 13, some (some 12, true)⟩, ⟨.move (.tmp 1), some 14, some (some 12, true)⟩, ⟨.binOp .leq 3 (.tmp 13) (.tmp 14) 3, some 15, some (some 12, true)⟩, ⟨.pick (.tmp 12) (.tmp 15) (.const (.bool false)), some 16, none⟩] fun K hK => ?_
  try simp
  repeat' first | ((first | refine evL_c ?_ | (refine evL_g rfl ?_; try simp only [gs_tt, gs_ff, gs_tf, gs_ft]) | refine evL_u rfl ?_ | (with_reducible refine gsplit (fun hg => ?_) (fun hg => ?_) <;> try simp at hg)) <;> try simp [hm]) | (with_reducible first | apply aI | intro _ | assumption) | omega
  all_goals (apply Fin.go hK; clear hK K)
  all_goals
   (try simp [*]) <;> (first | omega | (simp; done) | grind)
 ·simp only [over, List.foldl, List.set]
  refine Run.cond rfl (fun h16 => ?_) (fun h16 => ?_)
  ·replace h16 := of_decide_eq_true h16
   obtain ⟨hc1, hc2⟩ := h16
   obtain ⟨r, hr⟩ : ∃ r, termsR (rdI t.kids i) (most - n) = r := ⟨_, rfl⟩
   have hrr := termsR_rng (rdI t.kids i) (most - n) (by omega)
   rw [hr] at hrr
   have hw1 : IntKind.i64.wrap (most - n) = most - n := wrap_id (by omega) (by omega)
   have hw2 : IntKind.i64.wrap (n + r) = n + r := wrap_id (by omega) (by omega)
   apply Run.skip
   simp only [tN]
   apply Run.seq
   apply Run.block
   refine opsF [oM 5 19, oF 89 2 1 20, oL 28 20 21, oM 6 22, oI 28 21 22 23, oL 89 23 24, oM 1 25, oM 5 26, oB .sub 3 25 26 3 27, oC 32 #[.tmp 24, .tmp 27] #[89, 3] 28, oB .add 3 19 28 3 29, oA 29 5] fun K hK => ?_
   try simp
   repeat' first | (refine ecallD (by have h := IH i (by omega) (most - n) (by omega) (by omega); rw [encT_cells, hr] at h; exact h) ?_) | (refine evL_c ?_; simp [hm, hc1, hr, hw1, hw2]) | (with_reducible first | apply aI | intro _ | assumption) | omega
   all_goals (apply Fin.go hK; clear hK K)
   simp only [Blok_normal]
   simp only [tN]
   refine opsF [oM 6 17, oK .add 3 17 1 3 18, oA 18 6] fun K hK => ?_
   try simp
   repeat' first | (refine evL_c ?_; simp [hm, hc1, hr, hw1, hw2]) | (with_reducible first | apply aI | intro _ | assumption) | omega
   all_goals (apply Fin.go hK; clear hK K)
   refine ⟨(i + 1, n + r), ⟨by simp; omega, by simp; omega, by simp; omega, ?_⟩, by simp; omega, ?_⟩
   ·rw [← hg, goT_step (by omega) hc2, hr]
   ·simp (disch := omega) [hm, wrap_id]
  ·replace h16 := of_decide_eq_false h16
   rw [goT_end (by omega)] at hg
   refine Run.exit ?_
   simp (decide := true) only [Then_exit, Blok_exit, if_true, if_false]
   simp only [tN]
   apply Run.seq
   refine opsF [oM 5 30, oA 30 4] fun K hK => ?_
   try simp
   repeat' first | (refine evL_c ?_; simp [hm]) | (with_reducible first | apply aI | intro _ | assumption) | omega
   all_goals (apply Fin.go hK; clear hK K)
   simp only [tN]
   apply Run.ret
   try simp only [Then_ret, Blok_ret]
   simp [hg]
theorem terms_ok (t : TermT) (most : Int) (h0 : 0 ≤ most) (h1 : most ≤ 1100000) : Snd P 32 [.d (.ag (encT t)), .int most] (.int (termsR t most)) [] :=
 terms1_ok t most h0 h1 fun i hi m hm0 hm1 =>
  have := kidT_lt (rdI_mem (l := t.kids) (i := i) (by omega) (by omega))
  terms_ok (rdI t.kids i) m hm0 hm1
termination_by SizeOf.sizeOf t
set_option maxHeartbeats 4000000 in
theorem parts1_ok (p : PlanT) (hf : partsP p ≤ 2200000) (most : Int) (h0 : 0 ≤ most) (h1 : most ≤ 1100000) (IH : ∀ i : Nat, i < p.kids.length → ∀ m : Int, 0 ≤ m → m ≤ 1100000 → Snd P 16 [.d (.ag (encP (rdI p.kids i))), .int m] (.int (partsR (rdI p.kids i) m)) []) : Snd P 16 [.d (.ag (encP p)), .int most] (.int (partsR p most)) [] := by
 refine Snd.ok 0 rfl (by kernel_rfl) fun hok => ?_
 obtain ⟨hkm, -, htm⟩ := encP_ok hok
 clear hok
 have hpr := partsR_rng p most h0 hf
 have hpe := partsR_eq p most
 have hfe := partsP_eq p
 obtain ⟨m, hm⟩ : ∃ m, p.kids.length = m := ⟨_, rfl⟩
 obtain ⟨tl, htl⟩ : ∃ m, p.terms.length = m := ⟨_, rfl⟩
 obtain ⟨el, hel⟩ : ∃ m, p.edges.length = m := ⟨_, rfl⟩
 rw [hm] at hkm
 rw [htl] at htm
 rw [htl, hel] at hpe hfe
 have hw0 : IntKind.i64.wrap (1 + (tl : Int)) = 1 + tl := wrap_id (by omega) (by omega)
 have hw9 : IntKind.i64.wrap (1 + (tl : Int) + el) = 1 + tl + el := wrap_id (by omega) (by omega)
 obtain ⟨g1, hg1⟩ : ∃ g, goT p.terms most (1 + (tl : Int) + el) = g := ⟨_, rfl⟩
 have hgr := goT_rng p.terms most (1 + (tl : Int) + el)
 rw [hg1] at hgr hpe
 refine snd_of [] Try.func16 rfl (by kernel_rfl) Try.ntmps16 (by simp) ?_
 unfold Try.f16
 simp only [List.cons_append, List.nil_append, List.length_cons, List.length_nil, Nat.reduceAdd, Nat.reduceSub, List.replicate]
 apply Run.seq
 refine opsF [⟨.box 48 (.tmp 0), some 2, none⟩, ⟨.assign (.const (.int .i64 0)), some 4, none⟩] fun K hK => ?_
 try simp
 repeat' first | (refine evL_c ?_; simp [hm, htl, hel, hw0, hw9]) | (with_reducible first | apply aI | intro _ | assumption) | omega
 all_goals (apply Fin.go hK; clear hK K)
 simp only [tN]
 apply Run.seq
 refine opsF [oF 48 2 5 8, oL 28 8 9, oN 28 9 10, ⟨.binOp .add 3 (.const (.int .i64 1)) (.tmp 10) 3, some 11, none⟩, oF 48 2 3 12, oL 46 12 13, oN 46 13 14, oB .add 3 11 14 3 15, oA 15 5] fun K hK => ?_
 try simp
 repeat' first | (refine evL_c ?_; simp [hm, htl, hel, hw0, hw9]) | (with_reducible first | apply aI | intro _ | assumption) | omega
 all_goals (apply Fin.go hK; clear hK K)
 simp only [tN]
 apply Run.seq
 apply Run.seq
 refine opsF oo79 fun K hK => ?_
 try simp
 repeat' first | (refine evL_c ?_; simp [hm, htl, hel, hw0, hw9]) | (with_reducible first | apply aI | intro _ | assumption) | omega
 all_goals (apply Fin.go hK; clear hK K)
 simp only [tN]
 apply Run.block
 refine Run.loopO [5, 6, 16, 17, 18, 19, 20, 21, 22, 23, 24, 25, 26, 27, 28, 29, 30, 31, 32, 33, 34, 35, 36, 37, 38] (fun (x : Nat × Int) => [(6, .int x.1), (5, .int x.2)]) (fun (x : Nat × Int) => [(300, .vals ((encP p).map .d))]) (fun (x : Nat × Int) => x.1 ≤ tl ∧ 1 ≤ x.2 ∧ x.2 ≤ 4400000 ∧ goT (p.terms.drop x.1) most x.2 = g1) (fun (x : Nat × Int) => tl - x.1) (0, 1 + (tl : Int) + el) ⟨by omega, by simp; omega, by simp; omega, by simpa using hg1⟩ (by simp) fun ⟨i, n⟩ ⟨hi, hn1, hn2, hg⟩ => ?_
 simp only at hi hn1 hn2 hg
 simp only [over, List.foldl, List.set]
 apply Run.seq
 refine Run.cut [16, 17, 18, 19, 20, 21, 22, 23, 24, 25] [(25, .bool (decide (i < tl ∧ n ≤ most)))] [(300, .vals ((encP p).map .d))] ?_ ?_
 ·refine opsF [oM 6 16, oF 48 2 5 17, oL 28 17 18, oN 28 18 19, oB .lss 3 16 19 3 20, oM 20 21, ⟨.move (.tmp 5), some 22, some (some 21, true)⟩, ⟨.move (.tmp 1), some 23, some (some 21, true)⟩, ⟨.binOp .leq 3 (.tmp 22) (.tmp 23) 3, some 24, some (some 21, true)⟩, ⟨.pick (.tmp 21) (.tmp 24) (.const (.bool false)), some 25, none⟩] fun K hK => ?_
  try simp
  repeat' first | ((first | refine evL_c ?_ | (refine evL_g rfl ?_; try simp only [gs_tt, gs_ff, gs_tf, gs_ft]) | refine evL_u rfl ?_ | (with_reducible refine gsplit (fun hg => ?_) (fun hg => ?_) <;> try simp at hg)) <;> try simp [hm, htl, hel, hw0, hw9]) | (with_reducible first | apply aI | intro _ | assumption) | omega
  all_goals (apply Fin.go hK; clear hK K)
  all_goals
   (try simp [*]) <;> (first | omega | (simp; done) | grind)
 ·simp only [over, List.foldl, List.set]
  refine Run.cond rfl (fun h25 => ?_) (fun h25 => ?_)
  ·replace h25 := of_decide_eq_true h25
   obtain ⟨hc1, hc2⟩ := h25
   obtain ⟨r, hr⟩ : ∃ r, termsR (rdI p.terms i) (most - n) = r := ⟨_, rfl⟩
   have hrr := termsR_rng (rdI p.terms i) (most - n) (by omega)
   rw [hr] at hrr
   have hT := terms_ok (rdI p.terms i) (most - n) (by omega) (by omega)
   rw [encT_cells, hr] at hT
   have hw1 : IntKind.i64.wrap (most - n) = most - n := wrap_id (by omega) (by omega)
   have hw2 : IntKind.i64.wrap (n + r) = n + r := wrap_id (by omega) (by omega)
   apply Run.skip
   simp only [tN]
   apply Run.seq
   apply Run.block
   refine opsF [oM 5 28, oF 48 2 5 29, oL 28 29 30, oM 6 31, oI 28 30 31 32, oL 89 32 33, oM 1 34, oM 5 35, oB .sub 3 34 35 3 36, oC 32 #[.tmp 33, .tmp 36] #[89, 3] 37, oB .add 3 28 37 3 38, oA 38 5] fun K hK => ?_
   try simp
   repeat' first | (refine ecallD (by exact hT) ?_) | (refine evL_c ?_; simp [hm, htl, hel, hw0, hw9, hc1, hr, hw1, hw2]) | (with_reducible first | apply aI | intro _ | assumption) | omega
   all_goals (apply Fin.go hK; clear hK K)
   simp only [Blok_normal]
   simp only [tN]
   refine opsF [oM 6 26, oK .add 3 26 1 3 27, oA 27 6] fun K hK => ?_
   try simp
   repeat' first | (refine evL_c ?_; simp [hm, htl, hel, hw0, hw9, hc1, hr, hw1, hw2]) | (with_reducible first | apply aI | intro _ | assumption) | omega
   all_goals (apply Fin.go hK; clear hK K)
   refine ⟨(i + 1, n + r), ⟨by simp; omega, by simp; omega, by simp; omega, ?_⟩, by simp; omega, ?_⟩
   ·rw [← hg, goT_step (by omega) hc2, hr]
   ·simp (disch := omega) [hm, htl, hel, wrap_id]
  ·replace h25 := of_decide_eq_false h25
   rw [goT_end (by omega)] at hg
   rw [← hg] at hpe hgr
   clear hg1 hg h25 hi
   refine Run.exit ?_
   simp (decide := true) only [Then_exit, Blok_exit, if_true, if_false]
   simp only [tN]
   apply Run.seq
   apply Run.seq
   refine opsF oo80 fun K hK => ?_
   try simp
   repeat' first | (refine evL_c ?_; simp [hm, htl, hel, hw0, hw9]) | (with_reducible first | apply aI | intro _ | assumption) | omega
   all_goals (apply Fin.go hK; clear hK K)
   simp only [tN]
   apply Run.block
   refine Run.loopO [5, 7, 39, 40, 41, 42, 43, 44, 45, 46, 47, 48, 49, 50, 51, 52, 53, 54, 55, 56, 57, 58, 59, 60, 61] (fun (x : Nat × Int) => [(7, .int x.1), (5, .int x.2)]) (fun (x : Nat × Int) => [(300, .vals ((encP p).map .d))]) (fun (x : Nat × Int) => x.1 ≤ m ∧ 1 ≤ x.2 ∧ x.2 ≤ 4400000 ∧ goP (p.kids.drop x.1) most x.2 = partsR p most) (fun (x : Nat × Int) => m - x.1) (0, n) ⟨by omega, by simp; omega, by simp; omega, by simpa using hpe.symm⟩ (by simp) fun ⟨j, q⟩ ⟨hi, hn1, hn2, hg⟩ => ?_
   simp only at hi hn1 hn2 hg
   simp only [over, List.foldl, List.set]
   apply Run.seq
   refine Run.cut [39, 40, 41, 42, 43, 44, 45, 46, 47, 48] [(48, .bool (decide (j < m ∧ q ≤ most)))] [(300, .vals ((encP p).map .d))] ?_ ?_
   ·refine opsF [oM 7 39, oF 48 2 1 40, oL 45 40 41, oN 45 41 42, oB .lss 3 39 42 3 43, oM 43 44, ⟨.move (.tmp 5), some 45, some (some 44, true)⟩, ⟨.move (.tmp 1), some 46, some (some 44, true)⟩, ⟨.binOp .leq 3 (.tmp 45) (.tmp 46) 3, some 47, some (some 44, true)⟩, ⟨.pick (.tmp 44) (.tmp 47) (.const (.bool false)), some 48, none⟩] fun K hK => ?_
    try simp
    repeat' first | ((first | refine evL_c ?_ | (refine evL_g rfl ?_; try simp only [gs_tt, gs_ff, gs_tf, gs_ft]) | refine evL_u rfl ?_ | (with_reducible refine gsplit (fun hg => ?_) (fun hg => ?_) <;> try simp at hg)) <;> try simp [hm, htl, hel, hw0, hw9]) | (with_reducible first | apply aI | intro _ | assumption) | omega
    all_goals (apply Fin.go hK; clear hK K)
    all_goals
     (try simp [*]) <;> (first | omega | (simp; done) | grind)
   ·simp only [over, List.foldl, List.set]
    refine Run.cond rfl (fun h48 => ?_) (fun h48 => ?_)
    ·replace h48 := of_decide_eq_true h48
     obtain ⟨hc1, hc2⟩ := h48
     obtain ⟨r, hr⟩ : ∃ r, partsR (rdI p.kids j) (most - q) = r := ⟨_, rfl⟩
     have hrr := partsR_rng (rdI p.kids j) (most - q) (by omega) (kid_fine hf (by omega))
     rw [hr] at hrr
     have hT := IH j (by omega) (most - q) (by omega) (by omega)
     rw [encP_cells, hr] at hT
     have hw1 : IntKind.i64.wrap (most - q) = most - q := wrap_id (by omega) (by omega)
     have hw2 : IntKind.i64.wrap (q + r) = q + r := wrap_id (by omega) (by omega)
     apply Run.skip
     simp only [tN]
     apply Run.seq
     apply Run.block
     refine opsF [oM 5 51, oF 48 2 1 52, oL 45 52 53, oM 7 54, oI 45 53 54 55, oL 48 55 56, oM 1 57, oM 5 58, oB .sub 3 57 58 3 59, oC 16 #[.tmp 56, .tmp 59] #[48, 3] 60, oB .add 3 51 60 3 61, oA 61 5] fun K hK => ?_
     try simp
     repeat' first | (refine ecallD (by exact hT) ?_) | (refine evL_c ?_; simp [hm, htl, hel, hw0, hw9, hc1, hr, hw1, hw2]) | (with_reducible first | apply aI | intro _ | assumption) | omega
     all_goals (apply Fin.go hK; clear hK K)
     simp only [Blok_normal]
     simp only [tN]
     refine opsF [oM 7 49, oK .add 3 49 1 3 50, oA 50 7] fun K hK => ?_
     try simp
     repeat' first | (refine evL_c ?_; simp [hm, htl, hel, hw0, hw9, hc1, hr, hw1, hw2]) | (with_reducible first | apply aI | intro _ | assumption) | omega
     all_goals (apply Fin.go hK; clear hK K)
     refine ⟨(j + 1, q + r), ⟨by simp; omega, by simp; omega, by simp; omega, ?_⟩, by simp; omega, ?_⟩
     ·rw [← hg, goP_step (by omega) hc2, hr]
     ·simp (disch := omega) [hm, htl, hel, wrap_id]
    ·replace h48 := of_decide_eq_false h48
     rw [goP_end (by omega)] at hg
     refine Run.exit ?_
     simp (decide := true) only [Then_exit, Blok_exit, if_true, if_false]
     simp only [tN]
     apply Run.seq
     refine opsF [oM 5 62, oA 62 4] fun K hK => ?_
     try simp
     repeat' first | (refine evL_c ?_; simp [hm, htl, hel, hw0, hw9]) | (with_reducible first | apply aI | intro _ | assumption) | omega
     all_goals (apply Fin.go hK; clear hK K)
     simp only [tN]
     apply Run.ret
     try simp only [Then_ret, Blok_ret]
     simp [hg]
theorem parts_ok (p : PlanT) (hf : partsP p ≤ 2200000) (most : Int) (h0 : 0 ≤ most) (h1 : most ≤ 1100000) : Snd P 16 [.d (.ag (encP p)), .int most] (.int (partsR p most)) [] :=
 parts1_ok p hf most h0 h1 fun i hi m hm0 hm1 =>
  have := kids_lt (kid_mem (p := p) hi)
  parts_ok (rdI p.kids i) (kid_fine hf hi) m hm0 hm1
termination_by SizeOf.sizeOf p
end Go.Proofs.Ytimgbdkgjfbhkaa.Z
end
section
namespace Go.Proofs.Ytimgbdkgjfbhkaa.Z
open Go Go.Fw
def DSub (x y : D) : Prop := ∀ (w : World) (L : Nat → Prop) (v : Value), DRel w L x v → DRel w L y v
def SubL : List D → List D → Prop
 | [], [] => True
 | x :: l, y :: r => DSub x y ∧ SubL l r
 | _, _ => False
theorem DSub.refl (x : D) : DSub x x := fun _ _ _ h => h
theorem DSub.nil : DSub (.lit (.slice none 0 0)) (.sl false []) := fun w L v h => by
 cases h with
 | lit _ h => exact .slE false none 0 (by simp)
theorem SubL.len {l r : List D} (h : SubL l r) : l.length = r.length := by
 induction l generalizing r with
 | nil => cases r <;> simp_all [SubL]
 | cons x l ih => cases r <;> simp_all [SubL]
                  exact ih h.2
theorem SubL.at_ {l r : List D} (h : SubL l r) {j : Nat} {x y : D} (hx : l[j]? = some x) (hy : r[j]? = some y) : DSub x y := by
 induction l generalizing r j with
 | nil => cases hx
 | cons a l ih =>
   cases r with
   | nil => cases hy
   | cons b r =>
     cases j with
     | zero => simp at hx hy; subst hx hy; exact h.1
     | succ j => simp at hx hy; exact ih h.2 hx hy
theorem DSub.ag {l r : List D} (h : SubL l r) : DSub (.ag l) (.ag r) := fun w L v hv => by
 cases hv with
 | ag _ vs hl ho hr => 
   refine .ag r vs (hl.trans h.len) ho fun j x v hx hv => ?_
   have hj : j < l.length := by rw [h.len]; exact (List.getElem?_eq_some_iff.1 hx).1
   exact h.at_ (List.getElem?_eq_getElem hj) hx _ _ _ (hr j _ v (List.getElem?_eq_getElem hj) hv)
def SubV : List V → List V → Prop
 | [], [] => True
 | .d x :: l, .d y :: r => DSub x y ∧ SubV l r
 | _, _ => False
theorem SubV.rel {w : World} {L : Nat → Prop} {m : Nat → Option Nat} {l r : List V} {vs : List Value} (h : SubV l r) (hv : All2 (VRel w L m) l vs) : All2 (VRel w L m) r vs := by
 induction l generalizing r vs with
 | nil =>
   cases r with
   | nil => exact hv
   | cons _ _ => exact h.elim
 | cons x l ih =>
   cases r with
   | nil => cases x <;> exact h.elim
   | cons y r =>
     cases x <;> cases y <;> first | exact h.elim | skip
     obtain ⟨v, tl, rfl, h1, h2⟩ := hv.head
     cases h1 with
     | d hd => exact All2.cons (.d (h.1 _ _ _ hd)) (ih h.2 h2)
theorem snd_sub {f : FuncId} {args args0 : List V} {r : V} {τ : Store} (h : Snd P f args0 r τ) (hs : SubV args args0) : Snd P f args r τ :=
 ⟨h.1, fun w X vs hX hargs => h.2 w X vs hX (hs.rel hargs)⟩
mutual
theorem termsR_all : ∀ (t : TermT) (most : Int), termsR t most ≤ most → (cntT t : Int) = termsR t most
 | .mk o k s p v, most, h => by
   rw [termsR] at h ⊢
   have := goT_all k most 1 h
   rw [cntT, this]; omega
theorem goT_all : ∀ (l : List TermT) (most n : Int), goT l most n ≤ most → goT l most n = n + cntL l
 | [], most, n, h => by rw [goT, cntL]; omega
 | t :: r, most, n, h => by
   rw [goT] at h ⊢
   split at h
   ·rename_i hn
    rw [if_pos hn]
    have h1 := goT_all r most (n + termsR t (most - n)) h
    have h2 := termsR_all t (most - n) (by omega)
    rw [h1, cntL]; omega
   ·omega
end
mutual
theorem partsR_all : ∀ (p : PlanT) (most : Int), partsP p ≤ 2200000 → partsR p most ≤ most → (partsP p : Int) = partsR p most
 | .mk o k s e b t, most, hf, h => by
   rw [partsP] at hf
   rw [partsR] at h ⊢
   have h1 := goP_all k most _ (by omega) h
   have h0 := (goP_rng k most (goT t most (1 + t.length + e.length)) (by omega)).1
   have h2 := goT_all t most (1 + t.length + e.length) (by omega)
   rw [h1, h2, partsP]; omega
theorem goP_all : ∀ (l : List PlanT) (most n : Int), partsL l ≤ 2200000 → goP l most n ≤ most → goP l most n = n + partsL l
 | [], most, n, hf, h => by rw [goP, partsL]; omega
 | t :: r, most, n, hf, h => by
   rw [partsL] at hf
   rw [goP] at h ⊢
   split at h
   ·rename_i hn
    rw [if_pos hn]
    have h1 := goP_all r most (n + partsR t (most - n)) (by omega) h
    have h2 := partsR_all t (most - n) (by omega) (by omega)
    rw [h1, partsL]; omega
   ·omega
end
end Go.Proofs.Ytimgbdkgjfbhkaa.Z
end
section
namespace Go.Proofs.Ytimgbdkgjfbhkaa.Z
open Go Go.Fw
attribute [-simp] lookV updV Blk.fgt Blk.ren Blk.men Blk.fin lost litV
attribute [local simp] litV_agg litV_int litV_str litV_bool litV_slice litV_tup
theorem stepsS_parts {c : CoreT} {tabs : List (List Int)} {ps : List PlanT} {i : Int} (hi : i ≤ ps.length) {q : PlanT} {l' : List Int} : ∀ (r : List StepR) (l : List Int) (p : PlanT), stepsS c tabs ps i l p r = (some q, l') → partsP q + tot 0 ps l' ≤ partsP p + tot 0 ps l + wL r
 | [], l, p, h => by rw [stepsS] at h; cases h; simp [wL]
 | s :: r, l, p, h => by
   rw [stepsS] at h
   rcases he : stepS c tabs ps i l p s with ⟨o, l2⟩
   rw [he] at h
   cases o with
   | none => cases h
   | some q2 =>
     simp only at h
     split at h
     ·have h1 := stepS_parts hi he
      have h2 := stepsS_parts hi r l2 q2 h
      rw [wL]; omega
     ·cases h
theorem pipesS_parts {c : CoreT} {tabs : List (List Int)} : ∀ (r : List PipeR) (ps : List PlanT) (l : List Int), (∀ q ∈ ps, partsP q ≤ 1100000) → tot 0 ps l + wP r ≤ 1100000 → ∀ q ∈ (pipesS c tabs ps l r).1, partsP q ≤ 1100000
 | [], ps, l, h, _ => by simpa [pipesS] using h
 | x :: r, ps, l, h, hw => by
   rw [pipesS]
   rw [wP] at hw
   rcases he : pipeS c tabs ps l x with ⟨o, l2⟩
   cases o with
   | none => exact h
   | some q2 =>
     unfold pipeS at he
     split at he
     ·cases he
     ·have h1 := stepsS_parts (Int.le_refl _) _ _ _ he
      have h2 : partsP (scanT x.scan) = 1 := by simp [scanT, partsP, partsL, cntL]
      have h3 := tot_app l2 q2 ps 0
      refine pipesS_parts r (ps ++ [q2]) l2 (fun q hq => ?_) (by omega)
      rcases List.mem_append.1 hq with hq | hq
      ·exact h q hq
      ·rw [List.mem_singleton.1 hq]; omega
theorem planS_parts (c : CoreT) (r : ProgR) (hw : wP r.pipes ≤ 1100000) (he : (planS c r).2.2 = 0) : partsP (planS c r).1 ≤ 1100000 := by
 unfold planS at he ⊢
 split
 ·rename_i h; rw [if_pos h] at he; cases he
 ·rename_i h
  rw [if_neg h] at he
  split
  ·rename_i h; rw [if_pos h] at he; cases he
  ·rename_i h2
   rw [if_neg h2] at he
   have hp := pipesS_parts (c := c) (tabs := r.tabs) r.pipes [] [] (by simp) (by simpa [tot] using hw)
   have ha := pipesS_len (c := c) (tabs := r.tabs) r.pipes [] []
   rcases hR : pipesS c r.tabs [] [] r.pipes with ⟨R1, R2, R3⟩
   rw [hR] at he hp ha
   simp only at he hp ha ⊢
   split
   ·rename_i h; rw [if_pos h] at he; cases he
   ·rename_i h
    have hR3 : R3 = true := by cases R3 with
     | true => rfl
     | false => exact absurd (by simp) h
    subst hR3
    simp at ha
    exact hp _ (rdI_mem (by omega) (by omega))
def checkS (c : CoreT) (r : ProgR) : D × Int × Int := if (planS c r).2.2 = 0 then ((boundD c (planS c r).1).1, 0, 0) else (.lit (.slice none 0 0), (planS c r).2.1, (planS c r).2.2)
def goTb : List (List Int) → Int → Int → Int
 | [], _, n => n
 | t :: r, m, n => if n ≤ m then goTb r m (n + t.length) else n
def stepW (s : StepR) : PlanT := .mk 0 [] 0 s.edges false s.terms
def goSt : List StepR → Int → Int → Int
 | [], _, n => n
 | s :: r, m, n => if n ≤ m then goSt r m (n + partsR (stepW s) (m - n)) else n
def goPi : List PipeR → Int → Int → Int
 | [], _, n => n
 | x :: r, m, n => if n ≤ m then goPi r m (goSt x.steps m n) else n
def weightS (r : ProgR) (most : Int) : Int := goPi r.pipes most (goTb r.tabs most (r.pipes.length + r.tabs.length))
theorem goTb_step {l : List (List Int)} {i : Nat} {m v : Int} (h : i < l.length) (h2 : v ≤ m) : goTb (l.drop i) m v = goTb (l.drop (i + 1)) m (v + (rdI l (i : Nat)).length) := by rw [drop_rd h, goTb, if_pos h2]
theorem goTb_end {l : List (List Int)} {i : Nat} {m v : Int} (h : ¬ (i < l.length ∧ v ≤ m)) : goTb (l.drop i) m v = v := by
 by_cases hi : i < l.length
 ·rw [drop_rd hi, goTb, if_neg (fun e => h ⟨hi, e⟩)]
 ·rw [List.drop_of_length_le (by omega), goTb]
theorem goSt_step {l : List StepR} {i : Nat} {m v : Int} (h : i < l.length) (h2 : v ≤ m) : goSt (l.drop i) m v = goSt (l.drop (i + 1)) m (v + partsR (stepW (rdI l (i : Nat))) (m - v)) := by rw [drop_rd h, goSt, if_pos h2]
theorem goSt_end {l : List StepR} {i : Nat} {m v : Int} (h : ¬ (i < l.length ∧ v ≤ m)) : goSt (l.drop i) m v = v := by
 by_cases hi : i < l.length
 ·rw [drop_rd hi, goSt, if_neg (fun e => h ⟨hi, e⟩)]
 ·rw [List.drop_of_length_le (by omega), goSt]
theorem goPi_step {l : List PipeR} {i : Nat} {m v : Int} (h : i < l.length) (h2 : v ≤ m) : goPi (l.drop i) m v = goPi (l.drop (i + 1)) m (goSt (rdI l (i : Nat)).steps m v) := by rw [drop_rd h, goPi, if_pos h2]
theorem goPi_end {l : List PipeR} {i : Nat} {m v : Int} (h : ¬ (i < l.length ∧ v ≤ m)) : goPi (l.drop i) m v = v := by
 by_cases hi : i < l.length
 ·rw [drop_rd hi, goPi, if_neg (fun e => h ⟨hi, e⟩)]
 ·rw [List.drop_of_length_le (by omega), goPi]
theorem wL_mem {l : List StepR} {s : StepR} (h : s ∈ l) : wS s ≤ wL l := by
 induction l with
 | nil => cases h
 | cons x r ih =>
   rw [wL]
   rcases List.mem_cons.1 h with rfl | h
   ·omega
   ·have := ih h; omega
theorem wP_mem {l : List PipeR} {x : PipeR} (h : x ∈ l) : 1 + wL x.steps ≤ wP l := by
 induction l with
 | nil => cases h
 | cons y r ih =>
   rw [wP]
   rcases List.mem_cons.1 h with rfl | h
   ·omega
   ·have := ih h; omega
theorem stepW_parts (s : StepR) : partsP (stepW s) = wS s := by simp [stepW, partsP, partsL, wS]
set_option maxHeartbeats 8000000 in
theorem checkN_ok (c : CoreT) (r : ProgR) (p : PlanT) (a e : Int) (he : ¬ e = 0) (h : Snd P 27 [.d (.ag (encPr r)), .d (.ag (encC c))] (.tup [.d (.ag (encP p)), .int a, .int e]) []) : Snd P 9 [.d (.ag (encPr r)), .d (.ag (encC c))] (.tup [.d (.lit (.slice none 0 0)), .int a, .int e]) [] := by
 rw [encP_cells] at h
 refine snd_of [] Try.func9 rfl (by kernel_rfl) Try.ntmps9 (by simp) ?_
 unfold Try.f9
 simp only [List.cons_append, List.nil_append, List.length_cons, List.length_nil, Nat.reduceAdd, Nat.reduceSub, List.replicate]
 apply Run.seq
 refine opsF oo81 fun K hK => ?_
 try simp
 repeat' first | (refine evL_c ?_; simp [he]) | (with_reducible first | apply aI | intro _ | assumption) | omega
 all_goals (apply Fin.go hK; clear hK K)
 simp only [tN]
 apply Run.seq
 refine opsF oo82 fun K hK => ?_
 try simp
 repeat' first | (refine ecall (by exact h) rfl ?_) | (refine evL_c ?_; simp [he]) | (with_reducible first | apply aI | intro _ | assumption) | omega
 all_goals (apply Fin.go hK; clear hK K)
 simp only [tN]
 apply Run.seq
 apply Run.seq
 refine opsF oo83 fun K hK => ?_
 try simp
 repeat' first | (refine evL_c ?_; simp [he]) | (with_reducible first | apply aI | intro _ | assumption) | omega
 all_goals (apply Fin.go hK; clear hK K)
 simp only [tN]
 refine Run.cond rfl (fun h20 => ?_) (fun h20 => ?_)
 ·skip
  apply Run.seq
  refine opsF [oM 8 21, oM 9 22, ⟨.assign (.const (.slice none 0 0)), some 4, none⟩, oA 21 5, oA 22 6] fun K hK => ?_
  try simp
  repeat' first | (refine evL_c ?_; simp [he]) | (with_reducible first | apply aI | intro _ | assumption) | omega
  all_goals (apply Fin.go hK; clear hK K)
  simp only [tN]
  apply Run.ret
  try simp only [Then_ret, Blok_ret]
  simp
 ·simp at h20
set_option maxHeartbeats 8000000 in
theorem checkA_ok (c : CoreT) (r : ProgR) (p : PlanT) (a : Int) (d : D) (n : Int) (h : Snd P 27 [.d (.ag (encPr r)), .d (.ag (encC c))] (.tup [.d (.ag (encP p)), .int a, .int 0]) []) (hb : Snd P 24 [.d (.ag (encP p)), .d (.ag (encC c))] (.tup [.d d, .int n]) []) : Snd P 9 [.d (.ag (encPr r)), .d (.ag (encC c))] (.tup [.d d, .int 0, .int 0]) [] := by
 rw [encP_cells] at h
 rw [encP_cells] at hb
 refine snd_of [] Try.func9 rfl (by kernel_rfl) Try.ntmps9 (by simp) ?_
 unfold Try.f9
 simp only [List.cons_append, List.nil_append, List.length_cons, List.length_nil, Nat.reduceAdd, Nat.reduceSub, List.replicate]
 apply Run.seq
 refine opsF oo81 fun K hK => ?_
 try simp
 repeat' first | (refine evL_c ?_; simp) | (with_reducible first | apply aI | intro _ | assumption) | omega
 all_goals (apply Fin.go hK; clear hK K)
 simp only [tN]
 apply Run.seq
 refine opsF oo82 fun K hK => ?_
 try simp
 repeat' first | (refine ecall (by exact h) rfl ?_) | (refine evL_c ?_; simp) | (with_reducible first | apply aI | intro _ | assumption) | omega
 all_goals (apply Fin.go hK; clear hK K)
 simp only [tN]
 apply Run.seq
 apply Run.seq
 refine opsF oo83 fun K hK => ?_
 try simp
 repeat' first | (refine evL_c ?_; simp) | (with_reducible first | apply aI | intro _ | assumption) | omega
 all_goals (apply Fin.go hK; clear hK K)
 simp only [tN]
 refine Run.cond rfl (fun h20 => ?_) (fun h20 => ?_)
 ·simp at h20
 ·skip
  apply Run.skip
  simp only [tN]
  apply Run.seq
  refine opsF [oL 48 7 24, oL 32 3 25, oC 24 #[.tmp 24, .tmp 25] #[48, 32] 26, oM 26 23, oX 23 0 27, oX 23 1 28, oA 27 10, oA 28 11] fun K hK => ?_
  try simp
  repeat' first | (refine ecall (by exact hb) rfl ?_) | (refine evL_c ?_; simp) | (with_reducible first | apply aI | intro _ | assumption) | omega
  all_goals (apply Fin.go hK; clear hK K)
  simp only [tN]
  apply Run.seq
  refine opsF [oM 10 29, oA 29 4, ⟨.assign (.const (.int .i64 0)), some 5, none⟩, ⟨.assign (.const (.int .i64 0)), some 6, none⟩] fun K hK => ?_
  try simp
  repeat' first | (refine evL_c ?_; simp) | (with_reducible first | apply aI | intro _ | assumption) | omega
  all_goals (apply Fin.go hK; clear hK K)
  simp only [tN]
  apply Run.ret
  try simp only [Then_ret, Blok_ret]
  simp
set_option maxHeartbeats 8000000 in
theorem weight_ok (r : ProgR) (most : Int) (h0 : 0 ≤ most) (h1 : most ≤ 1100000) (hw : wP r.pipes ≤ 1100000) (ht : r.tabs.length ≤ 1100000) (hT : ∀ t ∈ r.tabs, t.length ≤ 1100000) : Snd P 10 [.d (.ag (encPr r)), .int most] (.int (weightS r most)) [] := by
 have hn1 := wP_len r.pipes
 unfold weightS
 obtain ⟨n, hn⟩ : ∃ z, r.pipes.length = z := ⟨_, rfl⟩
 obtain ⟨nt, hnt⟩ : ∃ z, r.tabs.length = z := ⟨_, rfl⟩
 rw [hn] at hn1
 rw [hnt] at ht
 rw [hn, hnt]
 obtain ⟨W1, hW1⟩ : ∃ z, goTb r.tabs most ((n : Int) + (nt : Nat)) = z := ⟨_, rfl⟩
 rw [hW1]
 obtain ⟨W0, hW0⟩ : ∃ z, goPi r.pipes most W1 = z := ⟨_, rfl⟩
 rw [hW0]
 have hw0 : IntKind.i64.wrap ((n : Int) + (nt : Nat)) = n + nt := wrap_id (by omega) (by omega)
 refine snd_of [] Try.func10 rfl (by kernel_rfl) Try.ntmps10 (by simp) ?_
 unfold Try.f10
 simp only [List.cons_append, List.nil_append, List.length_cons, List.length_nil, Nat.reduceAdd, Nat.reduceSub, List.replicate]
 apply Run.seq
 refine opsF [⟨.box 25 (.tmp 0), some 2, none⟩, ⟨.assign (.const (.int .i64 0)), some 4, none⟩] fun K hK => ?_
 try simp
 repeat' first | (refine evL_c ?_; simp [hn, hnt, hw0]) | (with_reducible first | apply aI | intro _ | assumption) | omega
 all_goals (apply Fin.go hK; clear hK K)
 simp only [tN]
 apply Run.seq
 refine opsF [oF 25 2 1 10, oL 23 10 11, oN 23 11 12, oF 25 2 0 13, oL 22 13 14, oN 22 14 15, oB .add 3 12 15 3 16, oA 16 5] fun K hK => ?_
 try simp
 repeat' first | (refine evL_c ?_; simp [hn, hnt, hw0]) | (with_reducible first | apply aI | intro _ | assumption) | omega
 all_goals (apply Fin.go hK; clear hK K)
 simp only [tN]
 apply Run.seq
 apply Run.seq
 refine opsF oo79 fun K hK => ?_
 try simp
 repeat' first | (refine evL_c ?_; simp [hn, hnt, hw0]) | (with_reducible first | apply aI | intro _ | assumption) | omega
 all_goals (apply Fin.go hK; clear hK K)
 simp only [tN]
 apply Run.block
 refine Run.loopO [5, 6, 17, 18, 19, 20, 21, 22, 23, 24, 25, 26, 27, 28, 29, 30, 31, 32, 33, 34, 35, 36] (fun (y : Nat × Int) => [(6, .int y.1), (5, .int y.2)]) (fun (y : Nat × Int) => [(300, .vals ((encPr r).map .d))]) (fun (y : Nat × Int) => y.1 ≤ nt ∧ 0 ≤ y.2 ∧ y.2 ≤ 4400000 ∧ goTb (r.tabs.drop y.1) most y.2 = W1) (fun (y : Nat × Int) => nt - y.1) (0, (n : Int) + nt) ⟨by omega, by simp only; omega, by simp only; omega, by simpa using hW1⟩ (by simp [hn, hnt]) fun ⟨i, v⟩ ⟨hi, hv1, hv2, hg⟩ => ?_
 simp only at hi hv1 hv2 hg
 simp only [over, List.foldl, List.set]
 apply Run.seq
 refine Run.cut [17, 18, 19, 20, 21, 22, 23, 24, 25, 26] [(26, .bool (decide (i < nt ∧ v ≤ most)))] [(300, .vals ((encPr r).map .d))] ?_ ?_
 ·refine opsF [oM 6 17, oF 25 2 0 18, oL 22 18 19, oN 22 19 20, oB .lss 3 17 20 3 21, oM 21 22, ⟨.move (.tmp 5), some 23, some (some 22, true)⟩, ⟨.move (.tmp 1), some 24, some (some 22, true)⟩, ⟨.binOp .leq 3 (.tmp 23) (.tmp 24) 3, some 25, some (some 22, true)⟩, ⟨.pick (.tmp 22) (.tmp 25) (.const (.bool false)), some 26, none⟩] fun K hK => ?_
  try simp
  repeat' first | ((first | refine evL_c ?_ | (refine evL_g rfl ?_; try simp only [gs_tt, gs_ff, gs_tf, gs_ft]) | refine evL_u rfl ?_ | (with_reducible refine gsplit (fun hg => ?_) (fun hg => ?_) <;> try simp at hg)) <;> try simp [hn, hnt, hw0]) | (with_reducible first | apply aI | intro _ | assumption) | omega
  all_goals (apply Fin.go hK; clear hK K)
  all_goals
   (try simp [hn, hnt]) <;> (first | omega | (simp; done) | (simp_all; done) | grind)
 ·simp only [over, List.foldl, List.set]
  refine Run.cond rfl (fun h26 => ?_) (fun h26 => ?_)
  ·replace h26 := of_decide_eq_true h26
   obtain ⟨hc1, hc2⟩ := h26
   have hc3 : (i : Int) < nt := by omega
   obtain ⟨tl, htl⟩ : ∃ z, (rdI r.tabs (i : Nat)).length = z := ⟨_, rfl⟩
   have htm := hT _ (rdI_mem (l := r.tabs) (i := (i : Nat)) (by omega) (by omega))
   rw [htl] at htm
   have hw1 : IntKind.i64.wrap (v + tl) = v + tl := wrap_id (by omega) (by omega)
   apply Run.skip
   simp only [tN]
   apply Run.seq
   apply Run.block
   refine opsF [oM 5 29, oF 25 2 0 30, oL 22 30 31, oM 6 32, oI 22 31 32 33, oL 46 33 34, oN 46 34 35, oB .add 3 29 35 3 36, oA 36 5] fun K hK => ?_
   try simp
   repeat' first | (refine evL_c ?_; simp [hn, hnt, hw0, hc1, htl, hw1]) | (with_reducible first | apply aI | intro _ | assumption) | omega
   all_goals (apply Fin.go hK; clear hK K)
   simp only [Blok_normal]
   simp only [tN]
   refine opsF [oM 6 27, oK .add 3 27 1 3 28, oA 28 6] fun K hK => ?_
   try simp
   repeat' first | (refine evL_c ?_; simp [hn, hnt, hw0, hc1, htl, hw1]) | (with_reducible first | apply aI | intro _ | assumption) | omega
   all_goals (apply Fin.go hK; clear hK K)
   refine ⟨(i + 1, v + tl), ⟨by simp only; omega, by simp only; omega, by simp only; omega, ?_⟩, by simp only; omega, ?_⟩
   ·simp only
    rw [← hg, goTb_step (by omega) hc2, htl]
   ·simp (disch := omega) [hn, hnt, wrap_id]
  ·replace h26 := of_decide_eq_false h26
   rw [goTb_end (by omega)] at hg
   subst hg
   refine Run.exit ?_
   simp (decide := true) only [Then_exit, Blok_exit, if_true, if_false]
   simp only [tN]
   apply Run.seq
   apply Run.seq
   refine opsF oo80 fun K hK => ?_
   try simp
   repeat' first | (refine evL_c ?_; simp [hn, hnt, hw0]) | (with_reducible first | apply aI | intro _ | assumption) | omega
   all_goals (apply Fin.go hK; clear hK K)
   simp only [tN]
   apply Run.block
   refine Run.loopO [5, 7, 8, 9, 37, 38, 39, 40, 41, 42, 43, 44, 45, 46, 47, 48, 49, 50, 51, 52, 53, 54, 55, 56, 57, 58, 59, 60, 61, 62, 63, 64, 65, 66, 67, 68, 69, 70, 71, 72, 73, 74, 75, 76, 77, 78, 79, 80, 81, 82, 83, 84] (fun (y : Nat × Int) => [(7, .int y.1), (5, .int y.2)]) (fun (y : Nat × Int) => [(300, .vals ((encPr r).map .d))]) (fun (y : Nat × Int) => y.1 ≤ n ∧ 0 ≤ y.2 ∧ y.2 ≤ 4400000 ∧ goPi (r.pipes.drop y.1) most y.2 = W0) (fun (y : Nat × Int) => n - y.1) (0, v) ⟨by omega, by simp only; omega, by simp only; omega, by simpa using hW0⟩ (by simp [hn, hnt]) fun ⟨k, v1⟩ ⟨hk, hv3, hv4, hg1⟩ => ?_
   simp only at hk hv3 hv4 hg1
   simp only [over, List.foldl, List.set]
   apply Run.seq
   refine Run.cut [37, 38, 39, 40, 41, 42, 43, 44, 45, 46] [(46, .bool (decide (k < n ∧ v1 ≤ most)))] [(300, .vals ((encPr r).map .d))] ?_ ?_
   ·refine opsF [oM 7 37, oF 25 2 1 38, oL 23 38 39, oN 23 39 40, oB .lss 3 37 40 3 41, oM 41 42, ⟨.move (.tmp 5), some 43, some (some 42, true)⟩, ⟨.move (.tmp 1), some 44, some (some 42, true)⟩, ⟨.binOp .leq 3 (.tmp 43) (.tmp 44) 3, some 45, some (some 42, true)⟩, ⟨.pick (.tmp 42) (.tmp 45) (.const (.bool false)), some 46, none⟩] fun K hK => ?_
    try simp
    repeat' first | ((first | refine evL_c ?_ | (refine evL_g rfl ?_; try simp only [gs_tt, gs_ff, gs_tf, gs_ft]) | refine evL_u rfl ?_ | (with_reducible refine gsplit (fun hg => ?_) (fun hg => ?_) <;> try simp at hg)) <;> try simp [hn, hnt, hw0]) | (with_reducible first | apply aI | intro _ | assumption) | omega
    all_goals (apply Fin.go hK; clear hK K)
    all_goals
     (try simp [hn, hnt]) <;> (first | omega | (simp; done) | (simp_all; done) | grind)
   ·simp only [over, List.foldl, List.set]
    refine Run.cond rfl (fun h46 => ?_) (fun h46 => ?_)
    ·replace h46 := of_decide_eq_true h46
     obtain ⟨hd1, hd2⟩ := h46
     have hd3 : (k : Int) < n := by omega
     obtain ⟨x, hx⟩ : ∃ z, rdI r.pipes (k : Nat) = z := ⟨_, rfl⟩
     have hxm := wP_mem (rdI_mem (l := r.pipes) (i := (k : Nat)) (by omega) (by omega))
     rw [hx] at hxm
     obtain ⟨m, hm⟩ : ∃ z, x.steps.length = z := ⟨_, rfl⟩
     have hml := wL_len x.steps
     rw [hm] at hml
     obtain ⟨W2, hW2⟩ : ∃ z, goSt x.steps most v1 = z := ⟨_, rfl⟩
     apply Run.skip
     simp only [tN]
     apply Run.seq
     apply Run.block
     apply Run.seq
     refine opsF [⟨.assign (.const (.int .i64 0)), some 8, none⟩] fun K hK => ?_
     try simp
     repeat' first | (refine evL_c ?_; simp [hn, hnt, hw0, hd1, hx, hm]) | (with_reducible first | apply aI | intro _ | assumption) | omega
     all_goals (apply Fin.go hK; clear hK K)
     simp only [tN]
     apply Run.block
     refine Run.loopO [5, 8, 9, 49, 50, 51, 52, 53, 54, 55, 56, 57, 58, 59, 60, 61, 62, 63, 64, 65, 66, 67, 68, 69, 70, 71, 72, 73, 74, 75, 76, 77, 78, 79, 80, 81, 82, 83, 84] (fun (y : Nat × Int) => [(8, .int y.1), (5, .int y.2)]) (fun (y : Nat × Int) => [(300, .vals ((encPr r).map .d))]) (fun (y : Nat × Int) => y.1 ≤ m ∧ 0 ≤ y.2 ∧ y.2 ≤ 4400000 ∧ goSt (x.steps.drop y.1) most y.2 = W2) (fun (y : Nat × Int) => m - y.1) (0, v1) ⟨by omega, by simp only; omega, by simp only; omega, by simpa using hW2⟩ (by simp [hn, hnt]) fun ⟨j, v2⟩ ⟨hj, hv5, hv6, hg2⟩ => ?_
     simp only at hj hv5 hv6 hg2
     simp only [over, List.foldl, List.set]
     apply Run.seq
     refine Run.cut [49, 50, 51, 52, 53, 54, 55, 56, 57, 58, 59, 60, 61, 62] [(62, .bool (decide (j < m ∧ v2 ≤ most)))] [(300, .vals ((encPr r).map .d))] ?_ ?_
     ·refine opsF [oM 8 49, oF 25 2 1 50, oL 23 50 51, oM 7 52, oI 23 51 52 53, oF 41 53 1 54, oL 39 54 55, oN 39 55 56, oB .lss 3 49 56 3 57, oM 57 58, ⟨.move (.tmp 5), some 59, some (some 58, true)⟩, ⟨.move (.tmp 1), some 60, some (some 58, true)⟩, ⟨.binOp .leq 3 (.tmp 59) (.tmp 60) 3, some 61, some (some 58, true)⟩, ⟨.pick (.tmp 58) (.tmp 61) (.const (.bool false)), some 62, none⟩] fun K hK => ?_
      try simp
      repeat' first | ((first | refine evL_c ?_ | (refine evL_g rfl ?_; try simp only [gs_tt, gs_ff, gs_tf, gs_ft]) | refine evL_u rfl ?_ | (with_reducible refine gsplit (fun hg => ?_) (fun hg => ?_) <;> try simp at hg)) <;> try simp [hn, hnt, hw0, hd1, hx, hm]) | (with_reducible first | apply aI | intro _ | assumption) | omega
      all_goals (apply Fin.go hK; clear hK K)
      all_goals
       (try simp [hn, hnt]) <;> (first | omega | (simp; done) | (simp_all; done) | grind)
     ·simp only [over, List.foldl, List.set]
      refine Run.cond rfl (fun h62 => ?_) (fun h62 => ?_)
      ·replace h62 := of_decide_eq_true h62
       obtain ⟨hb1, hb2⟩ := h62
       have hb3 : (j : Int) < m := by omega
       obtain ⟨s, hs⟩ : ∃ z, rdI x.steps (j : Nat) = z := ⟨_, rfl⟩
       have hsm := wL_mem (rdI_mem (l := x.steps) (i := (j : Nat)) (by omega) (by omega))
       rw [hs] at hsm
       have hsp := stepW_parts s
       have hqr := partsR_rng (stepW s) (most - v2) (by omega) (by omega)
       obtain ⟨q, hq⟩ : ∃ z, partsR (stepW s) (most - v2) = z := ⟨_, rfl⟩
       have hP := snd_sub (args := [.d (.ag [.int 0, .lit (.slice none 0 0), .int 0, .sl false (s.edges.map encI), .bool false, .sl false (s.terms.map encT)]), .int (most - v2)]) (parts_ok (stepW s) (by omega) (most - v2) (by omega) (by omega)) ⟨DSub.ag ⟨.refl _, DSub.nil, .refl _, .refl _, .refl _, .refl _, trivial⟩, .refl _, trivial⟩
       rw [hq] at hP hqr
       have hw2 : IntKind.i64.wrap (most - v2) = most - v2 := wrap_id (by omega) (by omega)
       have hw3 : IntKind.i64.wrap (v2 + q) = v2 + q := wrap_id (by omega) (by omega)
       apply Run.skip
       simp only [tN]
       apply Run.seq
       apply Run.block
       apply Run.seq
       refine opsF [oF 25 2 1 65, oL 23 65 66, oM 7 67, oI 23 66 67 68, oF 41 68 1 69, oL 39 69 70, oM 8 71, oI 39 70 71 72, oL 75 72 73, ⟨.alloc 75, some 9, none⟩, oS 75 9 73] fun K hK => ?_
       try simp
       repeat' first | (refine evL_c ?_; simp [hn, hnt, hw0, hd1, hx, hm, hb1, hs, hw2, hw3]) | (with_reducible first | apply aI | intro _ | assumption) | omega
       all_goals (apply Fin.go hK; clear hK K)
       simp only [tN]
       refine opsF [oM 5 74, oF 75 9 4 75, oL 28 75 76, oF 75 9 2 77, oL 46 77 78, ⟨.build 48 #[(5, .tmp 76), (3, .tmp 78)], some 79, none⟩, oM 1 80, oM 5 81, oB .sub 3 80 81 3 82, oC 16 #[.tmp 79, .tmp 82] #[48, 3] 83, oB .add 3 74 83 3 84, oA 84 5] fun K hK => ?_
       try simp
       repeat' first | (refine ecallD (by exact hP) ?_) | (refine evL_c ?_; simp [hn, hnt, hw0, hd1, hx, hm, hb1, hs, hw2, hw3]) | (with_reducible first | apply aI | intro _ | assumption) | omega
       all_goals (apply Fin.go hK; clear hK K)
       simp only [Blok_normal]
       simp only [tN]
       refine opsF [oM 8 63, oK .add 3 63 1 3 64, oA 64 8] fun K hK => ?_
       try simp
       repeat' first | (refine evL_c ?_; simp [hn, hnt, hw0, hd1, hx, hm, hb1, hs, hw2, hw3]) | (with_reducible first | apply aI | intro _ | assumption) | omega
       all_goals (apply Fin.go hK; clear hK K)
       refine ⟨(j + 1, v2 + q), ⟨by simp only; omega, by simp only; omega, by simp only; omega, ?_⟩, by simp only; omega, ?_⟩
       ·simp only
        rw [← hg2, goSt_step (by omega) hb2, hs, hq]
       ·simp (disch := omega) [hn, hnt, wrap_id]
      ·replace h62 := of_decide_eq_false h62
       rw [goSt_end (by omega)] at hg2
       subst hg2
       refine Run.exit ?_
       simp (decide := true) only [Then_exit, Blok_exit, if_true, if_false]
       simp only [Blok_normal]
       simp only [tN]
       refine opsF [oM 7 47, oK .add 3 47 1 3 48, oA 48 7] fun K hK => ?_
       try simp
       repeat' first | (refine evL_c ?_; simp [hn, hnt, hw0, hd1, hx, hm]) | (with_reducible first | apply aI | intro _ | assumption) | omega
       all_goals (apply Fin.go hK; clear hK K)
       refine ⟨(k + 1, v2), ⟨by simp only; omega, by simp only; omega, by simp only; omega, ?_⟩, by simp only; omega, ?_⟩
       ·simp only
        rw [← hg1, goPi_step (by omega) hd2, hx, ← hW2]
       ·simp (disch := omega) [hn, hnt, wrap_id]
    ·replace h46 := of_decide_eq_false h46
     rw [goPi_end (by omega)] at hg1
     refine Run.exit ?_
     simp (decide := true) only [Then_exit, Blok_exit, if_true, if_false]
     simp only [tN]
     apply Run.seq
     refine opsF [oM 5 85, oA 85 4] fun K hK => ?_
     try simp
     repeat' first | (refine evL_c ?_; simp [hn, hnt, hw0]) | (with_reducible first | apply aI | intro _ | assumption) | omega
     all_goals (apply Fin.go hK; clear hK K)
     simp only [tN]
     apply Run.ret
     try simp only [Then_ret, Blok_ret]
     simp [hg1]
theorem check_ok (c : CoreT) (r : ProgR) (hw : wP r.pipes ≤ 1100000) (ht : r.tabs.length ≤ 1100000) (hc : c.wher.length ≤ 1100000) : Snd P 9 [.d (.ag (encPr r)), .d (.ag (encC c))] (.tup [.d (checkS c r).1, .int (checkS c r).2.1, .int (checkS c r).2.2]) [] := by
 have h := plan_ok c r hw ht hc
 unfold checkS
 split
 ·rename_i he
  have hb := Bound_ok c (planS c r).1 (planS_parts c r hw he)
  rw [he] at h
  exact checkA_ok c r _ _ _ _ h hb
 ·rename_i he; exact checkN_ok c r _ _ _ he h
end Go.Proofs.Ytimgbdkgjfbhkaa.Z
end
section
namespace Go.Proofs.Ytimgbdkgjfbhkaa.Z
open Go Go.Fw
theorem checkS_e (c : CoreT) (r : ProgR) : (checkS c r).2.2 = (planS c r).2.2 := by
 unfold checkS; split
 ·rename_i h; rw [h]
 ·rfl
theorem planS_right {c : CoreT} {r : ProgR} (h : (planS c r).2.2 = 0) : (transS c).op ≠ 0 ∧ r.pipes.length = r.tabs.length + 1 ∧ (pipesS c r.tabs [] [] r.pipes).2.2 = true := by
 unfold planS at h
 split at h
 ·cases h
 ·rename_i h1
  split at h
  ·cases h
  ·rename_i h2
   refine ⟨h1, by omega, ?_⟩
   rcases hR : pipesS c r.tabs [] [] r.pipes with ⟨R1, R2, R3⟩
   rw [hR] at h
   simp only at h ⊢
   split at h
   ·cases h
   ·rename_i h3
    cases R3 with
    | true => rfl
    | false => exact absurd (by simp) h3
theorem pipeS_sink {c : CoreT} {tabs : List (List Int)} {ps : List PlanT} {l l' : List Int} {x : PipeR} {q : PlanT} (h : pipeS c tabs ps l x = (some q, l')) : x.sink = sinkS tabs ps.length ∧ (bndT c (scanT x.scan)).isSome = true ∧ stepsS c tabs ps ps.length l (scanT x.scan) x.steps = (some q, l') := by
 unfold pipeS at h
 split at h
 ·cases h
 ·rename_i hb
  exact ⟨Decidable.not_not.1 fun e => hb (.inl e), Decidable.not_not.1 fun e => hb (.inr e), h⟩
theorem pipeS_mk {c : CoreT} {tabs : List (List Int)} {ps : List PlanT} {l l' : List Int} {x : PipeR} {q : PlanT} (h1 : x.sink = sinkS tabs ps.length) (h2 : (bndT c (scanT x.scan)).isSome = true) (h : stepsS c tabs ps ps.length l (scanT x.scan) x.steps = (some q, l')) : pipeS c tabs ps l x = (some q, l') := by
 unfold pipeS
 rw [if_neg (fun e => e.elim (fun e => e h1) (fun e => e h2))]; exact h
theorem pipesS_cons {c : CoreT} {tabs : List (List Int)} {ps : List PlanT} {l l' : List Int} {x : PipeR} {q : PlanT} {r : List PipeR} (h : pipeS c tabs ps l x = (some q, l')) : pipesS c tabs ps l (x :: r) = pipesS c tabs (ps ++ [q]) l' r := by
 rw [pipesS, h]
theorem pipesS_right {c : CoreT} {tabs : List (List Int)} {ps : List PlanT} {l : List Int} {x : PipeR} {r : List PipeR} (h : (pipesS c tabs ps l (x :: r)).2.2 = true) : ∃ q l', pipeS c tabs ps l x = (some q, l') := by
 rw [pipesS] at h
 rcases he : pipeS c tabs ps l x with ⟨o, l'⟩
 rw [he] at h
 cases o with
 | none => cases h
 | some q => exact ⟨q, l', rfl⟩
def setSink (l : List PipeR) (k : Nat) (s : Int) : List PipeR := l.set k ⟨(rdI l (k : Nat)).scan, (rdI l (k : Nat)).steps, s⟩
def Askd (N : Nat) (l : List Int) : Prop := l.Nodup ∧ ∀ t ∈ l, 0 ≤ t ∧ t < N
theorem stepS_rng {c : CoreT} {tabs : List (List Int)} {ps : List PlanT} {i : Int} {N : Nat} (hi : i ≤ N) {l : List Int} {p : PlanT} {s : StepR} (h : Askd N l) : Askd N (stepS c tabs ps i l p s).2 := by
 unfold stepS
 split
 ·split
  ·exact h
  ·rename_i hb
   refine ⟨List.nodup_append.2 ⟨h.1, by simp, fun a ha b hb2 => ?_⟩, fun t ht => ?_⟩
   ·rw [List.mem_singleton.1 hb2]
    rintro rfl
    exact hb (.inr ha)
   ·rcases List.mem_append.1 ht with ht | ht
    ·exact h.2 t ht
    ·rw [List.mem_singleton.1 ht]
     exact ⟨Int.not_lt.1 fun e => hb (.inl (.inl e)), by have := Int.not_le.1 fun e => hb (.inl (.inr e)); omega⟩
 ·exact h
theorem stepsS_rng {c : CoreT} {tabs : List (List Int)} {ps : List PlanT} {i : Int} {N : Nat} (hi : i ≤ N) : ∀ (r : List StepR) (l : List Int) (p : PlanT), Askd N l → Askd N (stepsS c tabs ps i l p r).2
 | [], l, p, h => by rw [stepsS]; exact h
 | s :: r, l, p, h => by
   have h1 := stepS_rng (c := c) (tabs := tabs) (ps := ps) (p := p) (s := s) hi h
   rw [stepsS]
   rcases he : stepS c tabs ps i l p s with ⟨o, l2⟩
   rw [he] at h1
   cases o with
   | none => exact h1
   | some q =>
     simp only
     split
     ·exact stepsS_rng hi r l2 q h1
     ·exact h1
theorem pipesS_rng {c : CoreT} {tabs : List (List Int)} {N : Nat} : ∀ (r : List PipeR) (ps : List PlanT) (l : List Int), ps.length + r.length ≤ N + 1 → Askd N l → Askd N (pipesS c tabs ps l r).2.1
 | [], ps, l, _, h => by rw [pipesS]; exact h
 | x :: r, ps, l, hl, h => by
   simp only [List.length_cons] at hl
   have h1 : Askd N (pipeS c tabs ps l x).2 := by
    unfold pipeS
    split
    ·exact h
    ·exact stepsS_rng (by omega) _ _ _ h
   rw [pipesS]
   rcases he : pipeS c tabs ps l x with ⟨o, l2⟩
   rw [he] at h1
   cases o with
   | none => exact h1
   | some q => exact pipesS_rng r (ps ++ [q]) l2 (by rw [List.length_append, List.length_singleton]; omega) h1
theorem asked_len : ∀ (N : Nat) (l : List Int), Askd N l → l.length ≤ N
 | 0, l, h => by
   cases l with
   | nil => simp
   | cons t r => have := h.2 t (by simp); omega
 | N + 1, l, h => by
   by_cases hm : (N : Int) ∈ l
   ·have h1 := asked_len N (l.erase (N : Int)) ⟨h.1.erase _, fun t ht => by
     have ht2 := List.mem_of_mem_erase ht
     have := h.2 t ht2
     have hne : t ≠ N := fun e => by subst e; exact List.Nodup.not_mem_erase h.1 ht
     omega⟩
    rw [List.length_erase_of_mem hm] at h1
    omega
   ·have h1 := asked_len N l ⟨h.1, fun t ht => by
     have := h.2 t ht
     have hne : t ≠ N := fun e => by subst e; exact hm ht
     omega⟩
    omega
theorem rdI_app {α : Type} [Inhabited α] {l m : List α} {t : Int} (h0 : 0 ≤ t) (h : t < (l.length : Int)) : rdI (l ++ m) t = rdI l t := by
 unfold rdI
 rw [List.getD_eq_getElem?_getD, List.getD_eq_getElem?_getD, List.getElem?_append_left (by omega)]
theorem pipesS_app {c : CoreT} {tabs : List (List Int)} {b : List PipeR} : ∀ (a : List PipeR) (ps : List PlanT) (l : List Int), (pipesS c tabs ps l a).2.2 = true → pipesS c tabs ps l (a ++ b) = pipesS c tabs (pipesS c tabs ps l a).1 (pipesS c tabs ps l a).2.1 b
 | [], ps, l, _ => by rw [pipesS]; rfl
 | x :: r, ps, l, h => by
   obtain ⟨q, l', he⟩ := pipesS_right h
   rw [pipesS_cons he] at h
   rw [List.cons_append, pipesS_cons he, pipesS_cons he]
   exact pipesS_app r _ _ h
def noneR (r : ProgR) : ProgR := ⟨r.tabs ++ [[]], r.pipes.take r.tabs.length ++ [⟨0, [], r.tabs.length⟩, rdI r.pipes r.tabs.length]⟩
end Go.Proofs.Ytimgbdkgjfbhkaa.Z
end
section
namespace Go.Proofs.Ytimgbdkgjfbhkaa.Z
open Go Go.Fw
theorem cloneIA_ok (l : List Int) (h0 : 0 < l.length) (hl : l.length ≤ 2200000) : Snd P 47 [.d (.sl false (l.map encI))] (.d (.sl false (l.map encI))) [] := by
 obtain ⟨m, hm⟩ : ∃ m, l.length = m := ⟨_, rfl⟩
 have hne : ¬ l = [] := by rintro rfl; simp at h0
 rw [hm] at h0 hl
 refine snd_of [] Try.func47 rfl (by kernel_rfl) Try.ntmps47 (by simp) ?_
 unfold Try.f47
 simp only [List.cons_append, List.nil_append, List.length_cons, List.length_nil, Nat.reduceAdd, Nat.reduceSub, List.replicate]
 apply Run.seq
 refine opsF oo84 fun K hK => ?_
 try simp
 repeat' first | (refine evL_c ?_; simp [hm, h0, hne]) | (with_reducible first | apply aI | intro _ | assumption) | omega
 all_goals (apply Fin.go hK; clear hK K)
 simp only [tN]
 apply Run.seq
 apply Run.seq
 refine opsF oo85 fun K hK => ?_
 try simp
 repeat' first | (refine evL_c ?_; simp [hm, h0, hne]) | (with_reducible first | apply aI | intro _ | assumption) | omega
 all_goals (apply Fin.go hK; clear hK K)
 simp only [tN]
 refine Run.cond rfl (fun h4 => ?_) (fun h4 => ?_)
 ·simp at h4
 ·skip
  apply Run.skip
  simp only [tN]
  apply Run.seq
  refine opsF oo86 fun K hK => ?_
  try simp
  repeat' first | (refine evL_c ?_; simp [hm, h0, hne]) | (with_reducible first | apply aI | intro _ | assumption) | omega
  all_goals (apply Fin.go hK; clear hK K)
  simp only [tN]
  apply Run.ret
  try simp only [Then_ret, Blok_ret]
  simp [hm, List.take_of_length_le]
theorem cloneIN_ok : Snd P 47 [.d (.sl false [])] (.d (.sl false [])) [] := by
 refine snd_of [] Try.func47 rfl (by kernel_rfl) Try.ntmps47 (by simp) ?_
 unfold Try.f47
 simp only [List.cons_append, List.nil_append, List.length_cons, List.length_nil, Nat.reduceAdd, Nat.reduceSub, List.replicate]
 refine Run.spl 0 rfl (fun cap => ?_) ?_ <;> simp only [List.set]
 ·apply Run.seq
  refine opsF oo84 fun K hK => ?_
  try simp
  repeat' first | (refine evL_c ?_; simp) | (with_reducible first | apply aI | intro _ | assumption) | omega
  all_goals (apply Fin.go hK; clear hK K)
  simp only [tN]
  apply Run.seq
  apply Run.seq
  refine opsF oo85 fun K hK => ?_
  try simp
  repeat' first | (refine evL_c ?_; simp) | (with_reducible first | apply aI | intro _ | assumption) | omega
  all_goals (apply Fin.go hK; clear hK K)
  simp only [tN]
  refine Run.cond rfl (fun h4 => ?_) (fun h4 => ?_)
  ·skip
   apply Run.seq
   refine opsF oo84 fun K hK => ?_
   try simp
   repeat' first | (refine evL_c ?_; simp) | (with_reducible first | apply aI | intro _ | assumption) | omega
   all_goals (apply Fin.go hK; clear hK K)
   simp only [tN]
   refine Run.subV 2 (.d (.sl false [])) rfl nil_sl ?_
   simp only [List.set]
   apply Run.ret
   try simp only [Then_ret, Blok_ret]
   simp
  ·simp at h4
 ·apply Run.seq
  refine opsF oo84 fun K hK => ?_
  try simp
  repeat' first | (refine evL_c ?_; simp) | (with_reducible first | apply aI | intro _ | assumption) | omega
  all_goals (apply Fin.go hK; clear hK K)
  simp only [tN]
  apply Run.seq
  apply Run.seq
  refine opsF oo85 fun K hK => ?_
  try simp
  repeat' first | (refine evL_c ?_; simp) | (with_reducible first | apply aI | intro _ | assumption) | omega
  all_goals (apply Fin.go hK; clear hK K)
  simp only [tN]
  refine Run.cond rfl (fun h4 => ?_) (fun h4 => ?_)
  ·simp at h4
  ·skip
   apply Run.skip
   simp only [tN]
   apply Run.seq
   refine opsF oo86 fun K hK => ?_
   try simp
   repeat' first | (refine evL_c ?_; simp) | (with_reducible first | apply aI | intro _ | assumption) | omega
   all_goals (apply Fin.go hK; clear hK K)
   simp only [tN]
   apply Run.ret
   try simp only [Then_ret, Blok_ret]
   simp
theorem cloneI_ok (l : List Int) (hl : l.length ≤ 2200000) : Snd P 47 [.d (.sl false (l.map encI))] (.d (.sl false (l.map encI))) [] := by
 cases l with
 | nil => exact cloneIN_ok
 | cons x r => exact cloneIA_ok (x :: r) (by simp) hl
theorem cloneTA_ok (l : List TermT) (h0 : 0 < l.length) (hl : l.length ≤ 2200000) : Snd P 48 [.d (.sl false (l.map encT))] (.d (.sl false (l.map encT))) [] := by
 obtain ⟨m, hm⟩ : ∃ m, l.length = m := ⟨_, rfl⟩
 have hne : ¬ l = [] := by rintro rfl; simp at h0
 rw [hm] at h0 hl
 refine snd_of [] Try.func48 rfl (by kernel_rfl) Try.ntmps48 (by simp) ?_
 unfold Try.f48
 simp only [List.cons_append, List.nil_append, List.length_cons, List.length_nil, Nat.reduceAdd, Nat.reduceSub, List.replicate]
 apply Run.seq
 refine opsF oo84 fun K hK => ?_
 try simp
 repeat' first | (refine evL_c ?_; simp [hm, h0, hne]) | (with_reducible first | apply aI | intro _ | assumption) | omega
 all_goals (apply Fin.go hK; clear hK K)
 simp only [tN]
 apply Run.seq
 apply Run.seq
 refine opsF oo87 fun K hK => ?_
 try simp
 repeat' first | (refine evL_c ?_; simp [hm, h0, hne]) | (with_reducible first | apply aI | intro _ | assumption) | omega
 all_goals (apply Fin.go hK; clear hK K)
 simp only [tN]
 refine Run.cond rfl (fun h4 => ?_) (fun h4 => ?_)
 ·simp at h4
 ·skip
  apply Run.skip
  simp only [tN]
  apply Run.seq
  refine opsF oo88 fun K hK => ?_
  try simp
  repeat' first | (refine evL_c ?_; simp [hm, h0, hne]) | (with_reducible first | apply aI | intro _ | assumption) | omega
  all_goals (apply Fin.go hK; clear hK K)
  simp only [tN]
  apply Run.ret
  try simp only [Then_ret, Blok_ret]
  simp [hm, List.take_of_length_le]
theorem cloneTN_ok : Snd P 48 [.d (.sl false [])] (.d (.sl false [])) [] := by
 refine snd_of [] Try.func48 rfl (by kernel_rfl) Try.ntmps48 (by simp) ?_
 unfold Try.f48
 simp only [List.cons_append, List.nil_append, List.length_cons, List.length_nil, Nat.reduceAdd, Nat.reduceSub, List.replicate]
 refine Run.spl 0 rfl (fun cap => ?_) ?_ <;> simp only [List.set]
 ·apply Run.seq
  refine opsF oo84 fun K hK => ?_
  try simp
  repeat' first | (refine evL_c ?_; simp) | (with_reducible first | apply aI | intro _ | assumption) | omega
  all_goals (apply Fin.go hK; clear hK K)
  simp only [tN]
  apply Run.seq
  apply Run.seq
  refine opsF oo87 fun K hK => ?_
  try simp
  repeat' first | (refine evL_c ?_; simp) | (with_reducible first | apply aI | intro _ | assumption) | omega
  all_goals (apply Fin.go hK; clear hK K)
  simp only [tN]
  refine Run.cond rfl (fun h4 => ?_) (fun h4 => ?_)
  ·skip
   apply Run.seq
   refine opsF oo84 fun K hK => ?_
   try simp
   repeat' first | (refine evL_c ?_; simp) | (with_reducible first | apply aI | intro _ | assumption) | omega
   all_goals (apply Fin.go hK; clear hK K)
   simp only [tN]
   refine Run.subV 2 (.d (.sl false [])) rfl nil_sl ?_
   simp only [List.set]
   apply Run.ret
   try simp only [Then_ret, Blok_ret]
   simp
  ·simp at h4
 ·apply Run.seq
  refine opsF oo84 fun K hK => ?_
  try simp
  repeat' first | (refine evL_c ?_; simp) | (with_reducible first | apply aI | intro _ | assumption) | omega
  all_goals (apply Fin.go hK; clear hK K)
  simp only [tN]
  apply Run.seq
  apply Run.seq
  refine opsF oo87 fun K hK => ?_
  try simp
  repeat' first | (refine evL_c ?_; simp) | (with_reducible first | apply aI | intro _ | assumption) | omega
  all_goals (apply Fin.go hK; clear hK K)
  simp only [tN]
  refine Run.cond rfl (fun h4 => ?_) (fun h4 => ?_)
  ·simp at h4
  ·skip
   apply Run.skip
   simp only [tN]
   apply Run.seq
   refine opsF oo88 fun K hK => ?_
   try simp
   repeat' first | (refine evL_c ?_; simp) | (with_reducible first | apply aI | intro _ | assumption) | omega
   all_goals (apply Fin.go hK; clear hK K)
   simp only [tN]
   apply Run.ret
   try simp only [Then_ret, Blok_ret]
   simp
theorem cloneT_ok (l : List TermT) (hl : l.length ≤ 2200000) : Snd P 48 [.d (.sl false (l.map encT))] (.d (.sl false (l.map encT))) [] := by
 cases l with
 | nil => exact cloneTN_ok
 | cons x r => exact cloneTA_ok (x :: r) (by simp) hl
end Go.Proofs.Ytimgbdkgjfbhkaa.Z
end
section
namespace Go.Proofs.Ytimgbdkgjfbhkaa.Z
open Go Go.Fw
structure StepC where
 op : Int
 slot : Int
 edges : D
 back : Bool
 terms : D
 table : Int
abbrev nilD : D := .lit (.slice none 0 0)
instance : Inhabited StepC := ⟨⟨0, 0, nilD, false, nilD, 0⟩⟩
structure PipeC where
 scan : Int
 steps : List StepC
 sink : Int
instance : Inhabited PipeC := ⟨⟨0, [], 0⟩⟩
def encK (s : StepC) : List D := [.int s.op, .int s.slot, s.edges, .bool s.back, s.terms, .int s.table]
def encW (p : PipeC) : List D := [.int p.scan, .sl false (p.steps.map encK), .int p.sink]
def encTb (l : List Int) : List D := [.sl false (l.map encI)]
attribute [simp] encK encW encTb
abbrev StC := List (List Int) × List PipeC
def stepO (p : PlanT) : StepC :=
 if p.op = 2 then ⟨1, 0, .sl false (p.edges.map encI), p.back, nilD, 0⟩
 else if p.op = 3 then ⟨2, 0, .sl false (p.edges.map encI), p.back, nilD, 0⟩
 else if p.op = 5 then ⟨3, p.slot, .sl false (p.edges.map encI), false, nilD, 0⟩
 else ⟨4, 0, nilD, false, .sl false (p.terms.map encT), 0⟩
def onC (x : PipeC) (s : StepC) : PipeC := ⟨x.scan, x.steps ++ [s], x.sink⟩
def pipeO (c : CoreT) (p : PlanT) (xs : List PipeC) (st : StC) : PipeC × StC :=
 if p.op = 1 then (⟨p.slot, [], -1⟩, st)
 else if p.op = 4 then
  (onC (xs.getD 0 default) ⟨5, 0, nilD, false, nilD, st.1.length⟩, (st.1 ++ [keyN ((bndT c (rdI p.kids 0)).getD []) ((bndT c (rdI p.kids 1)).getD []) (c.nodes.length + c.edges.length)], st.2 ++ [⟨(xs.getD 1 default).scan, (xs.getD 1 default).steps, st.1.length⟩]))
 else (onC (xs.getD 0 default) (stepO p), st)
mutual
def pipeT (c : CoreT) : PlanT → StC → PipeC × StC
 | .mk o k s e b t, st => pipeO c (.mk o k s e b t) (pipeL c k st).1 (pipeL c k st).2
def pipeL (c : CoreT) : List PlanT → StC → List PipeC × StC
 | [], st => ([], st)
 | p :: r, st => ((pipeT c p st).1 :: (pipeL c r (pipeT c p st).2).1, (pipeL c r (pipeT c p st).2).2)
end
theorem pipeT_eq (c : CoreT) (p : PlanT) (st : StC) : pipeT c p st = pipeO c p (pipeL c p.kids st).1 (pipeL c p.kids st).2 := by cases p; rw [pipeT]; rfl
def s0C (c : CoreT) (st : StC) : Store := [(0, .vals ((encC c).map .d ++ [.rs 1 1 0 st.1.length, .rs 2 3 0 st.2.length])), (1, .data 1 (st.1.map encTb)), (2, .data 3 (st.2.map encW))]
def s1C (c : CoreT) (st : StC) (x : PipeC) : Store := [(0, .vals ((encC c).map .d ++ [.rs 3 1 0 st.1.length, .rs 4 3 0 st.2.length])), (3, .data 1 (st.1.map encTb)), (4, .data 3 (st.2.map encW)), (5, .data 6 (x.steps.map encK))]
def resC (x : PipeC) : V := .ag [.int x.scan, .rs 5 6 0 x.steps.length, .int x.sink]
end Go.Proofs.Ytimgbdkgjfbhkaa.Z
end
section
namespace Go.Proofs.Ytimgbdkgjfbhkaa.Z
open Go Go.Fw
attribute [-simp] lost
set_option maxHeartbeats 4000000 in
theorem on_ok (c : CoreT) (p : PlanT) (s : StepC) (st st' : StC) (x : PipeC) (hk : 0 < p.kids.length) (hl : x.steps.length ≤ 1100000) (IH : SndW P 33 [.pt 0 0 0 0, .d (.ag (encP (rdI p.kids 0)))] (s0C c st) (resC x) (s1C c st' x)) : SndW P 87 [.pt 0 0 0 0, .d (.ag (encP p)), .d (.ag (encK s))] (s0C c st) (resC (onC x s)) (s1C c st' (onC x s)) := by
 obtain ⟨k, hkl⟩ : ∃ x, p.kids.length = x := ⟨_, rfl⟩
 obtain ⟨m, hm⟩ : ∃ y, x.steps.length = y := ⟨_, rfl⟩
 rw [hkl] at hk
 rw [hm] at hl
 have hI := IH
 simp only [encP_cells, s0C, s1C, resC, hm] at hI
 simp only [s0C, s1C, resC]
 refine sndW_of [0, 1, 2, 1403, 1404, 1900] Try.func87 rfl (by kernel_rfl) Try.ntmps87 (by simp) (by simp [s0C]) ?_
 unfold Try.f87
 simp only [List.cons_append, List.nil_append, List.length_cons, List.length_nil, Nat.reduceAdd, Nat.reduceSub, List.replicate]
 apply Run.seq
 refine opsF [⟨.box 48 (.tmp 1), some 4, none⟩, ⟨.box 75 (.tmp 2), some 5, none⟩, ⟨.alloc 41, some 6, none⟩] fun K hK => ?_
 try simp
 repeat' first | (refine evL_c ?_; simp [hkl, hm, hk]) | (with_reducible first | apply aI | intro _ | assumption) | omega
 all_goals (apply Fin.go hK; clear hK K)
 simp only [tN]
 apply Run.seq
 refine opsT [oM 0 8, oF 48 4 1 9, oL 45 9 10, ⟨.indexAddr 45 (.tmp 10) (.const (.int .i64 0)), some 11, none⟩, oL 48 11 12, oC 33 #[.tmp 8, .tmp 12] #[90, 48] 13, ⟨.alloc 41, some 7, none⟩, oS 41 7 13] fun K hK => ?_
 try simp
 repeat' first | (refine ecallW [0, 1, 2] (by exact hI) (by simp) (by simp) rfl ?_) | (refine evL_c ?_; simp [hkl, hm, hk]) | (with_reducible first | apply aI | intro _ | assumption) | omega
 all_goals (apply Fin.go hK; clear hK K)
 simp only [tN]
 apply Run.seq
 refine opsF [oF 41 7 1 14, oL 39 14 15, oL 75 5 16, ⟨.buildSlice 39 1 #[(0, .tmp 16)], some 17, none⟩, ⟨.call { callee := .builtin .append, args := #[.tmp 15, .tmp 17], argTypes := #[39, 39] }, some 18, none⟩, oF 41 7 1 19, oS 39 19 18] fun K hK => ?_
 try simp
 repeat' first | (refine evL_c ?_; simp [hkl, hm, hk]) | (with_reducible first | apply aI | intro _ | assumption) | omega
 all_goals (apply Fin.go hK; clear hK K)
 simp only [tN]
 apply Run.seq
 refine opsF [oL 41 7 20, oS 41 6 20] fun K hK => ?_
 try simp
 repeat' first | (refine evL_c ?_; simp [hkl, hm, hk]) | (with_reducible first | apply aI | intro _ | assumption) | omega
 all_goals (apply Fin.go hK; clear hK K)
 simp only [tN]
 apply Run.ret
 try simp only [Then_ret, Blok_ret]
 simp [onC, hm, List.take_of_length_le]
theorem scan_ok (c : CoreT) (p : PlanT) (st : StC) : SndW P 51 [.pt 0 0 0 0, .d (.ag (encP p))] (s0C c st) (.d (.ag [.int p.slot, nilD, .int (-1)])) (s0C c st) := by
 simp only [s0C]
 refine sndW_of [0, 1, 2] Try.func51 rfl (by kernel_rfl) Try.ntmps51 (by simp) (by simp [s0C]) ?_
 unfold Try.f51
 simp only [List.cons_append, List.nil_append, List.length_cons, List.length_nil, Nat.reduceAdd, Nat.reduceSub, List.replicate]
 apply Run.seq
 refine opsF oo89 fun K hK => ?_
 try simp
 repeat' first | (refine evL_c ?_; simp) | (with_reducible first | apply aI | intro _ | assumption) | omega
 all_goals (apply Fin.go hK; clear hK K)
 simp only [tN]
 apply Run.seq
 refine opsF [oF 48 3 2 5, oL 3 5 6, ⟨.build 41 #[(0, .tmp 6), (2, .const (.int .i64 (-1)))], some 7, none⟩, oS 41 4 7] fun K hK => ?_
 try simp
 repeat' first | (refine evL_c ?_; simp) | (with_reducible first | apply aI | intro _ | assumption) | omega
 all_goals (apply Fin.go hK; clear hK K)
 simp only [tN]
 apply Run.ret
 try simp only [Then_ret, Blok_ret]
 simp
set_option maxHeartbeats 4000000 in
theorem expand_ok (c : CoreT) (p : PlanT) (st st' : StC) (x : PipeC) (hop : p.op = 2) (hk : 0 < p.kids.length) (hll : p.edges.length ≤ 2200000) (hl : x.steps.length ≤ 1100000) (IH : SndW P 33 [.pt 0 0 0 0, .d (.ag (encP (rdI p.kids 0)))] (s0C c st) (resC x) (s1C c st' x)) : SndW P 52 [.pt 0 0 0 0, .d (.ag (encP p))] (s0C c st) (resC (onC x (stepO p))) (s1C c st' (onC x (stepO p))) := by
 have hC := cloneI_ok p.edges hll
 have hs : stepO p = ⟨1, 0, .sl false (p.edges.map encI), p.back, nilD, 0⟩ := by simp [stepO, hop]
 have hO := on_ok c p ⟨1, 0, .sl false (p.edges.map encI), p.back, nilD, 0⟩ st st' x hk hl IH
 rw [hs]
 obtain ⟨xs, hxs⟩ : ∃ y, onC x ⟨1, 0, .sl false (p.edges.map encI), p.back, nilD, 0⟩ = y := ⟨_, rfl⟩
 rw [hxs] at hO ⊢
 obtain ⟨m, hm⟩ : ∃ y, xs.steps.length = y := ⟨_, rfl⟩
 simp only [encP_cells, s0C, s1C, resC, hm, encK] at hO
 simp only [s0C, s1C, resC, hm]
 refine sndW_of [0, 1, 2, 1403, 1404, 1405] Try.func52 rfl (by kernel_rfl) Try.ntmps52 (by simp) (by simp [s0C]) ?_
 unfold Try.f52
 simp only [List.cons_append, List.nil_append, List.length_cons, List.length_nil, Nat.reduceAdd, Nat.reduceSub, List.replicate]
 apply Run.seq
 refine opsF oo89 fun K hK => ?_
 try simp
 repeat' first | (refine evL_c ?_; simp) | (with_reducible first | apply aI | intro _ | assumption) | omega
 all_goals (apply Fin.go hK; clear hK K)
 simp only [tN]
 apply Run.seq
 refine Run.opsP [47] [oM 0 5, oL 48 3 6, oF 48 3 3 7, oL 46 7 8, oC 47 #[.tmp 8] #[46] 9, oF 48 3 4 10, oL 4 10 11, ⟨.build 75 #[(0, .const (.int .i64 1)), (2, .tmp 9), (3, .tmp 11)], some 12, none⟩, oC 87 #[.tmp 5, .tmp 6, .tmp 12] #[90, 48, 75] 13, oS 41 4 13] mixed (by decide) rfl fun K hK => ?_
 try simp
 repeat' first | (refine ecallD (by exact hC) ?_) | (refine ecallW [0, 1, 2] (by exact hO) (by simp) (by simp) rfl ?_) | (refine evL_c ?_; simp) | (with_reducible first | apply aI | intro _ | assumption) | omega
 all_goals (apply Fin.go hK; clear hK K)
 simp only [tN]
 apply Run.ret
 try simp only [Then_ret, Blok_ret]
 simp [hm]
set_option maxHeartbeats 4000000 in
theorem path_ok (c : CoreT) (p : PlanT) (st st' : StC) (x : PipeC) (hop : p.op = 3) (hk : 0 < p.kids.length) (hll : p.edges.length ≤ 2200000) (hl : x.steps.length ≤ 1100000) (IH : SndW P 33 [.pt 0 0 0 0, .d (.ag (encP (rdI p.kids 0)))] (s0C c st) (resC x) (s1C c st' x)) : SndW P 53 [.pt 0 0 0 0, .d (.ag (encP p))] (s0C c st) (resC (onC x (stepO p))) (s1C c st' (onC x (stepO p))) := by
 have hC := cloneI_ok p.edges hll
 have hs : stepO p = ⟨2, 0, .sl false (p.edges.map encI), p.back, nilD, 0⟩ := by simp [stepO, hop]
 have hO := on_ok c p ⟨2, 0, .sl false (p.edges.map encI), p.back, nilD, 0⟩ st st' x hk hl IH
 rw [hs]
 obtain ⟨xs, hxs⟩ : ∃ y, onC x ⟨2, 0, .sl false (p.edges.map encI), p.back, nilD, 0⟩ = y := ⟨_, rfl⟩
 rw [hxs] at hO ⊢
 obtain ⟨m, hm⟩ : ∃ y, xs.steps.length = y := ⟨_, rfl⟩
 simp only [encP_cells, s0C, s1C, resC, hm, encK] at hO
 simp only [s0C, s1C, resC, hm]
 refine sndW_of [0, 1, 2, 1403, 1404, 1405] Try.func53 rfl (by kernel_rfl) Try.ntmps53 (by simp) (by simp [s0C]) ?_
 unfold Try.f53
 simp only [List.cons_append, List.nil_append, List.length_cons, List.length_nil, Nat.reduceAdd, Nat.reduceSub, List.replicate]
 apply Run.seq
 refine opsF oo89 fun K hK => ?_
 try simp
 repeat' first | (refine evL_c ?_; simp) | (with_reducible first | apply aI | intro _ | assumption) | omega
 all_goals (apply Fin.go hK; clear hK K)
 simp only [tN]
 apply Run.seq
 refine Run.opsP [47] [oM 0 5, oL 48 3 6, oF 48 3 3 7, oL 46 7 8, oC 47 #[.tmp 8] #[46] 9, oF 48 3 4 10, oL 4 10 11, ⟨.build 75 #[(0, .const (.int .i64 2)), (2, .tmp 9), (3, .tmp 11)], some 12, none⟩, oC 87 #[.tmp 5, .tmp 6, .tmp 12] #[90, 48, 75] 13, oS 41 4 13] mixed (by decide) rfl fun K hK => ?_
 try simp
 repeat' first | (refine ecallD (by exact hC) ?_) | (refine ecallW [0, 1, 2] (by exact hO) (by simp) (by simp) rfl ?_) | (refine evL_c ?_; simp) | (with_reducible first | apply aI | intro _ | assumption) | omega
 all_goals (apply Fin.go hK; clear hK K)
 simp only [tN]
 apply Run.ret
 try simp only [Then_ret, Blok_ret]
 simp [hm]
set_option maxHeartbeats 4000000 in
theorem meetC_ok (c : CoreT) (p : PlanT) (st st' : StC) (x : PipeC) (hop : p.op = 5) (hk : 0 < p.kids.length) (hll : p.edges.length ≤ 2200000) (hl : x.steps.length ≤ 1100000) (IH : SndW P 33 [.pt 0 0 0 0, .d (.ag (encP (rdI p.kids 0)))] (s0C c st) (resC x) (s1C c st' x)) : SndW P 55 [.pt 0 0 0 0, .d (.ag (encP p))] (s0C c st) (resC (onC x (stepO p))) (s1C c st' (onC x (stepO p))) := by
 have hC := cloneI_ok p.edges hll
 have hs : stepO p = ⟨3, p.slot, .sl false (p.edges.map encI), false, nilD, 0⟩ := by simp [stepO, hop]
 have hO := on_ok c p ⟨3, p.slot, .sl false (p.edges.map encI), false, nilD, 0⟩ st st' x hk hl IH
 rw [hs]
 obtain ⟨xs, hxs⟩ : ∃ y, onC x ⟨3, p.slot, .sl false (p.edges.map encI), false, nilD, 0⟩ = y := ⟨_, rfl⟩
 rw [hxs] at hO ⊢
 obtain ⟨m, hm⟩ : ∃ y, xs.steps.length = y := ⟨_, rfl⟩
 simp only [encP_cells, s0C, s1C, resC, hm, encK] at hO
 simp only [s0C, s1C, resC, hm]
 refine sndW_of [0, 1, 2, 1403, 1404, 1405] Try.func55 rfl (by kernel_rfl) Try.ntmps55 (by simp) (by simp [s0C]) ?_
 unfold Try.f55
 simp only [List.cons_append, List.nil_append, List.length_cons, List.length_nil, Nat.reduceAdd, Nat.reduceSub, List.replicate]
 apply Run.seq
 refine opsF oo89 fun K hK => ?_
 try simp
 repeat' first | (refine evL_c ?_; simp) | (with_reducible first | apply aI | intro _ | assumption) | omega
 all_goals (apply Fin.go hK; clear hK K)
 simp only [tN]
 apply Run.seq
 refine Run.opsP [47] [oM 0 5, oL 48 3 6, oF 48 3 2 7, oL 3 7 8, oF 48 3 3 9, oL 46 9 10, oC 47 #[.tmp 10] #[46] 11, ⟨.build 75 #[(0, .const (.int .i64 3)), (1, .tmp 8), (2, .tmp 11)], some 12, none⟩, oC 87 #[.tmp 5, .tmp 6, .tmp 12] #[90, 48, 75] 13, oS 41 4 13] mixed (by decide) rfl fun K hK => ?_
 try simp
 repeat' first | (refine ecallD (by exact hC) ?_) | (refine ecallW [0, 1, 2] (by exact hO) (by simp) (by simp) rfl ?_) | (refine evL_c ?_; simp) | (with_reducible first | apply aI | intro _ | assumption) | omega
 all_goals (apply Fin.go hK; clear hK K)
 simp only [tN]
 apply Run.ret
 try simp only [Then_ret, Blok_ret]
 simp [hm]
set_option maxHeartbeats 4000000 in
theorem filter_ok (c : CoreT) (p : PlanT) (st st' : StC) (x : PipeC) (hop : p.op = 6) (hk : 0 < p.kids.length) (hll : p.terms.length ≤ 2200000) (hl : x.steps.length ≤ 1100000) (IH : SndW P 33 [.pt 0 0 0 0, .d (.ag (encP (rdI p.kids 0)))] (s0C c st) (resC x) (s1C c st' x)) : SndW P 56 [.pt 0 0 0 0, .d (.ag (encP p))] (s0C c st) (resC (onC x (stepO p))) (s1C c st' (onC x (stepO p))) := by
 have hC := cloneT_ok p.terms hll
 have hs : stepO p = ⟨4, 0, nilD, false, .sl false (p.terms.map encT), 0⟩ := by simp [stepO, hop]
 have hO := on_ok c p ⟨4, 0, nilD, false, .sl false (p.terms.map encT), 0⟩ st st' x hk hl IH
 rw [hs]
 obtain ⟨xs, hxs⟩ : ∃ y, onC x ⟨4, 0, nilD, false, .sl false (p.terms.map encT), 0⟩ = y := ⟨_, rfl⟩
 rw [hxs] at hO ⊢
 obtain ⟨m, hm⟩ : ∃ y, xs.steps.length = y := ⟨_, rfl⟩
 simp only [encP_cells, s0C, s1C, resC, hm, encK] at hO
 simp only [s0C, s1C, resC, hm]
 refine sndW_of [0, 1, 2, 1203, 1204, 1205] Try.func56 rfl (by kernel_rfl) Try.ntmps56 (by simp) (by simp [s0C]) ?_
 unfold Try.f56
 simp only [List.cons_append, List.nil_append, List.length_cons, List.length_nil, Nat.reduceAdd, Nat.reduceSub, List.replicate]
 apply Run.seq
 refine opsF oo89 fun K hK => ?_
 try simp
 repeat' first | (refine evL_c ?_; simp) | (with_reducible first | apply aI | intro _ | assumption) | omega
 all_goals (apply Fin.go hK; clear hK K)
 simp only [tN]
 apply Run.seq
 refine Run.opsP [48] [oM 0 5, oL 48 3 6, oF 48 3 5 7, oL 28 7 8, oC 48 #[.tmp 8] #[28] 9, ⟨.build 75 #[(0, .const (.int .i64 4)), (4, .tmp 9)], some 10, none⟩, oC 87 #[.tmp 5, .tmp 6, .tmp 10] #[90, 48, 75] 11, oS 41 4 11] mixed (by decide) rfl fun K hK => ?_
 try simp
 repeat' first | (refine ecallD (by exact hC) ?_) | (refine ecallW [0, 1, 2] (by exact hO) (by simp) (by simp) rfl ?_) | (refine evL_c ?_; simp) | (with_reducible first | apply aI | intro _ | assumption) | omega
 all_goals (apply Fin.go hK; clear hK K)
 simp only [tN]
 apply Run.ret
 try simp only [Then_ret, Blok_ret]
 simp [hm]
end Go.Proofs.Ytimgbdkgjfbhkaa.Z
end
section
namespace Go.Proofs.Ytimgbdkgjfbhkaa.Z
open Go Go.Fw
attribute [-simp] lost
set_option maxHeartbeats 4000000 in
theorem pipe2_ok (c : CoreT) (p : PlanT) (st st' : StC) (y : PipeC) (hop : p.op = 2) (H : SndW P 52 [.pt 0 0 0 0, .d (.ag (encP p))] (s0C c st) (resC y) (s1C c st' y)) : SndW P 33 [.pt 0 0 0 0, .d (.ag (encP p))] (s0C c st) (resC y) (s1C c st' y) := by
 obtain ⟨m, hm⟩ : ∃ x, y.steps.length = x := ⟨_, rfl⟩
 simp only [encP_cells, hop, s0C, s1C, resC, hm] at H
 simp only [s0C, s1C, resC, hm]
 refine sndW_of [0, 1, 2, 1703, 1704, 1705] Try.func33 rfl (by kernel_rfl) Try.ntmps33 (by simp) (by simp [s0C]) ?_
 unfold Try.f33
 simp only [List.cons_append, List.nil_append, List.length_cons, List.length_nil, Nat.reduceAdd, Nat.reduceSub, List.replicate]
 apply Run.seq
 refine opsF oo89 fun K hK => ?_
 try simp
 repeat' first | (refine evL_c ?_; simp [hop]) | (with_reducible first | apply aI | intro _ | assumption) | omega
 all_goals (apply Fin.go hK; clear hK K)
 simp only [tN]
 apply Run.seq
 apply Run.seq
 refine opsF oo90 fun K hK => ?_
 try simp
 repeat' first | (refine evL_c ?_; simp [hop]) | (with_reducible first | apply aI | intro _ | assumption) | omega
 all_goals (apply Fin.go hK; clear hK K)
 simp only [tN]
 apply Run.block
 apply Run.seq
 refine opsF oo91 fun K hK => ?_
 try simp
 repeat' first | (refine evL_c ?_; simp [hop]) | (with_reducible first | apply aI | intro _ | assumption) | omega
 all_goals (apply Fin.go hK; clear hK K)
 simp only [tN]
 refine Run.cond rfl (fun h7 => ?_) (fun h7 => ?_)
 ·simp at h7
 ·skip
  apply Run.seq
  refine opsF oo92 fun K hK => ?_
  try simp
  repeat' first | (refine evL_c ?_; simp [hop]) | (with_reducible first | apply aI | intro _ | assumption) | omega
  all_goals (apply Fin.go hK; clear hK K)
  simp only [tN]
  refine Run.cond rfl (fun h12 => ?_) (fun h12 => ?_)
  ·skip
   apply Run.seq
   refine opsT [oM 0 14, oL 48 3 15, oC 52 #[.tmp 14, .tmp 15] #[90, 48] 16, oS 41 4 16] fun K hK => ?_
   try simp
   repeat' first | (refine ecallW [0, 1, 2] (by exact H) (by simp) (by simp) rfl ?_) | (refine evL_c ?_; simp [hop]) | (with_reducible first | apply aI | intro _ | assumption) | omega
   all_goals (apply Fin.go hK; clear hK K)
   simp only [tN]
   apply Run.ret
   try simp only [Then_ret, Blok_ret]
   simp [hm]
  ·simp at h12
set_option maxHeartbeats 4000000 in
theorem pipe3_ok (c : CoreT) (p : PlanT) (st st' : StC) (y : PipeC) (hop : p.op = 3) (H : SndW P 53 [.pt 0 0 0 0, .d (.ag (encP p))] (s0C c st) (resC y) (s1C c st' y)) : SndW P 33 [.pt 0 0 0 0, .d (.ag (encP p))] (s0C c st) (resC y) (s1C c st' y) := by
 obtain ⟨m, hm⟩ : ∃ x, y.steps.length = x := ⟨_, rfl⟩
 simp only [encP_cells, hop, s0C, s1C, resC, hm] at H
 simp only [s0C, s1C, resC, hm]
 refine sndW_of [0, 1, 2, 2203, 2204, 2205] Try.func33 rfl (by kernel_rfl) Try.ntmps33 (by simp) (by simp [s0C]) ?_
 unfold Try.f33
 simp only [List.cons_append, List.nil_append, List.length_cons, List.length_nil, Nat.reduceAdd, Nat.reduceSub, List.replicate]
 apply Run.seq
 refine opsF oo89 fun K hK => ?_
 try simp
 repeat' first | (refine evL_c ?_; simp [hop]) | (with_reducible first | apply aI | intro _ | assumption) | omega
 all_goals (apply Fin.go hK; clear hK K)
 simp only [tN]
 apply Run.seq
 apply Run.seq
 refine opsF oo90 fun K hK => ?_
 try simp
 repeat' first | (refine evL_c ?_; simp [hop]) | (with_reducible first | apply aI | intro _ | assumption) | omega
 all_goals (apply Fin.go hK; clear hK K)
 simp only [tN]
 apply Run.block
 apply Run.seq
 refine opsF oo91 fun K hK => ?_
 try simp
 repeat' first | (refine evL_c ?_; simp [hop]) | (with_reducible first | apply aI | intro _ | assumption) | omega
 all_goals (apply Fin.go hK; clear hK K)
 simp only [tN]
 refine Run.cond rfl (fun h7 => ?_) (fun h7 => ?_)
 ·simp at h7
 ·skip
  apply Run.seq
  refine opsF oo92 fun K hK => ?_
  try simp
  repeat' first | (refine evL_c ?_; simp [hop]) | (with_reducible first | apply aI | intro _ | assumption) | omega
  all_goals (apply Fin.go hK; clear hK K)
  simp only [tN]
  refine Run.cond rfl (fun h12 => ?_) (fun h12 => ?_)
  ·simp at h12
  ·skip
   apply Run.seq
   refine opsF oo93 fun K hK => ?_
   try simp
   repeat' first | (refine evL_c ?_; simp [hop]) | (with_reducible first | apply aI | intro _ | assumption) | omega
   all_goals (apply Fin.go hK; clear hK K)
   simp only [tN]
   refine Run.cond rfl (fun h17 => ?_) (fun h17 => ?_)
   ·skip
    apply Run.seq
    refine opsT [oM 0 19, oL 48 3 20, oC 53 #[.tmp 19, .tmp 20] #[90, 48] 21, oS 41 4 21] fun K hK => ?_
    try simp
    repeat' first | (refine ecallW [0, 1, 2] (by exact H) (by simp) (by simp) rfl ?_) | (refine evL_c ?_; simp [hop]) | (with_reducible first | apply aI | intro _ | assumption) | omega
    all_goals (apply Fin.go hK; clear hK K)
    simp only [tN]
    apply Run.ret
    try simp only [Then_ret, Blok_ret]
    simp [hm]
   ·simp at h17
set_option maxHeartbeats 4000000 in
theorem pipe4_ok (c : CoreT) (p : PlanT) (st st' : StC) (y : PipeC) (hop : p.op = 4) (H : SndW P 54 [.pt 0 0 0 0, .d (.ag (encP p))] (s0C c st) (resC y) (s1C c st' y)) : SndW P 33 [.pt 0 0 0 0, .d (.ag (encP p))] (s0C c st) (resC y) (s1C c st' y) := by
 obtain ⟨m, hm⟩ : ∃ x, y.steps.length = x := ⟨_, rfl⟩
 simp only [encP_cells, hop, s0C, s1C, resC, hm] at H
 simp only [s0C, s1C, resC, hm]
 refine sndW_of [0, 1, 2, 2703, 2704, 2705] Try.func33 rfl (by kernel_rfl) Try.ntmps33 (by simp) (by simp [s0C]) ?_
 unfold Try.f33
 simp only [List.cons_append, List.nil_append, List.length_cons, List.length_nil, Nat.reduceAdd, Nat.reduceSub, List.replicate]
 apply Run.seq
 refine opsF oo89 fun K hK => ?_
 try simp
 repeat' first | (refine evL_c ?_; simp [hop]) | (with_reducible first | apply aI | intro _ | assumption) | omega
 all_goals (apply Fin.go hK; clear hK K)
 simp only [tN]
 apply Run.seq
 apply Run.seq
 refine opsF oo90 fun K hK => ?_
 try simp
 repeat' first | (refine evL_c ?_; simp [hop]) | (with_reducible first | apply aI | intro _ | assumption) | omega
 all_goals (apply Fin.go hK; clear hK K)
 simp only [tN]
 apply Run.block
 apply Run.seq
 refine opsF oo91 fun K hK => ?_
 try simp
 repeat' first | (refine evL_c ?_; simp [hop]) | (with_reducible first | apply aI | intro _ | assumption) | omega
 all_goals (apply Fin.go hK; clear hK K)
 simp only [tN]
 refine Run.cond rfl (fun h7 => ?_) (fun h7 => ?_)
 ·simp at h7
 ·skip
  apply Run.seq
  refine opsF oo92 fun K hK => ?_
  try simp
  repeat' first | (refine evL_c ?_; simp [hop]) | (with_reducible first | apply aI | intro _ | assumption) | omega
  all_goals (apply Fin.go hK; clear hK K)
  simp only [tN]
  refine Run.cond rfl (fun h12 => ?_) (fun h12 => ?_)
  ·simp at h12
  ·skip
   apply Run.seq
   refine opsF oo93 fun K hK => ?_
   try simp
   repeat' first | (refine evL_c ?_; simp [hop]) | (with_reducible first | apply aI | intro _ | assumption) | omega
   all_goals (apply Fin.go hK; clear hK K)
   simp only [tN]
   refine Run.cond rfl (fun h17 => ?_) (fun h17 => ?_)
   ·simp at h17
   ·skip
    apply Run.seq
    refine opsF oo94 fun K hK => ?_
    try simp
    repeat' first | (refine evL_c ?_; simp [hop]) | (with_reducible first | apply aI | intro _ | assumption) | omega
    all_goals (apply Fin.go hK; clear hK K)
    simp only [tN]
    refine Run.cond rfl (fun h22 => ?_) (fun h22 => ?_)
    ·skip
     apply Run.seq
     refine opsT [oM 0 24, oL 48 3 25, oC 54 #[.tmp 24, .tmp 25] #[90, 48] 26, oS 41 4 26] fun K hK => ?_
     try simp
     repeat' first | (refine ecallW [0, 1, 2] (by exact H) (by simp) (by simp) rfl ?_) | (refine evL_c ?_; simp [hop]) | (with_reducible first | apply aI | intro _ | assumption) | omega
     all_goals (apply Fin.go hK; clear hK K)
     simp only [tN]
     apply Run.ret
     try simp only [Then_ret, Blok_ret]
     simp [hm]
    ·simp at h22
set_option maxHeartbeats 4000000 in
theorem pipe5_ok (c : CoreT) (p : PlanT) (st st' : StC) (y : PipeC) (hop : p.op = 5) (H : SndW P 55 [.pt 0 0 0 0, .d (.ag (encP p))] (s0C c st) (resC y) (s1C c st' y)) : SndW P 33 [.pt 0 0 0 0, .d (.ag (encP p))] (s0C c st) (resC y) (s1C c st' y) := by
 obtain ⟨m, hm⟩ : ∃ x, y.steps.length = x := ⟨_, rfl⟩
 simp only [encP_cells, hop, s0C, s1C, resC, hm] at H
 simp only [s0C, s1C, resC, hm]
 refine sndW_of [0, 1, 2, 3203, 3204, 3205] Try.func33 rfl (by kernel_rfl) Try.ntmps33 (by simp) (by simp [s0C]) ?_
 unfold Try.f33
 simp only [List.cons_append, List.nil_append, List.length_cons, List.length_nil, Nat.reduceAdd, Nat.reduceSub, List.replicate]
 apply Run.seq
 refine opsF oo89 fun K hK => ?_
 try simp
 repeat' first | (refine evL_c ?_; simp [hop]) | (with_reducible first | apply aI | intro _ | assumption) | omega
 all_goals (apply Fin.go hK; clear hK K)
 simp only [tN]
 apply Run.seq
 apply Run.seq
 refine opsF oo90 fun K hK => ?_
 try simp
 repeat' first | (refine evL_c ?_; simp [hop]) | (with_reducible first | apply aI | intro _ | assumption) | omega
 all_goals (apply Fin.go hK; clear hK K)
 simp only [tN]
 apply Run.block
 apply Run.seq
 refine opsF oo91 fun K hK => ?_
 try simp
 repeat' first | (refine evL_c ?_; simp [hop]) | (with_reducible first | apply aI | intro _ | assumption) | omega
 all_goals (apply Fin.go hK; clear hK K)
 simp only [tN]
 refine Run.cond rfl (fun h7 => ?_) (fun h7 => ?_)
 ·simp at h7
 ·skip
  apply Run.seq
  refine opsF oo92 fun K hK => ?_
  try simp
  repeat' first | (refine evL_c ?_; simp [hop]) | (with_reducible first | apply aI | intro _ | assumption) | omega
  all_goals (apply Fin.go hK; clear hK K)
  simp only [tN]
  refine Run.cond rfl (fun h12 => ?_) (fun h12 => ?_)
  ·simp at h12
  ·skip
   apply Run.seq
   refine opsF oo93 fun K hK => ?_
   try simp
   repeat' first | (refine evL_c ?_; simp [hop]) | (with_reducible first | apply aI | intro _ | assumption) | omega
   all_goals (apply Fin.go hK; clear hK K)
   simp only [tN]
   refine Run.cond rfl (fun h17 => ?_) (fun h17 => ?_)
   ·simp at h17
   ·skip
    apply Run.seq
    refine opsF oo94 fun K hK => ?_
    try simp
    repeat' first | (refine evL_c ?_; simp [hop]) | (with_reducible first | apply aI | intro _ | assumption) | omega
    all_goals (apply Fin.go hK; clear hK K)
    simp only [tN]
    refine Run.cond rfl (fun h22 => ?_) (fun h22 => ?_)
    ·simp at h22
    ·skip
     apply Run.seq
     refine opsF oo95 fun K hK => ?_
     try simp
     repeat' first | (refine evL_c ?_; simp [hop]) | (with_reducible first | apply aI | intro _ | assumption) | omega
     all_goals (apply Fin.go hK; clear hK K)
     simp only [tN]
     refine Run.cond rfl (fun h27 => ?_) (fun h27 => ?_)
     ·skip
      apply Run.seq
      refine opsT [oM 0 29, oL 48 3 30, oC 55 #[.tmp 29, .tmp 30] #[90, 48] 31, oS 41 4 31] fun K hK => ?_
      try simp
      repeat' first | (refine ecallW [0, 1, 2] (by exact H) (by simp) (by simp) rfl ?_) | (refine evL_c ?_; simp [hop]) | (with_reducible first | apply aI | intro _ | assumption) | omega
      all_goals (apply Fin.go hK; clear hK K)
      simp only [tN]
      apply Run.ret
      try simp only [Then_ret, Blok_ret]
      simp [hm]
     ·simp at h27
set_option maxHeartbeats 4000000 in
theorem pipe6_ok (c : CoreT) (p : PlanT) (st st' : StC) (y : PipeC) (hop : p.op = 6) (H : SndW P 56 [.pt 0 0 0 0, .d (.ag (encP p))] (s0C c st) (resC y) (s1C c st' y)) : SndW P 33 [.pt 0 0 0 0, .d (.ag (encP p))] (s0C c st) (resC y) (s1C c st' y) := by
 obtain ⟨m, hm⟩ : ∃ x, y.steps.length = x := ⟨_, rfl⟩
 simp only [encP_cells, hop, s0C, s1C, resC, hm] at H
 simp only [s0C, s1C, resC, hm]
 refine sndW_of [0, 1, 2, 3503, 3504, 3505] Try.func33 rfl (by kernel_rfl) Try.ntmps33 (by simp) (by simp [s0C]) ?_
 unfold Try.f33
 simp only [List.cons_append, List.nil_append, List.length_cons, List.length_nil, Nat.reduceAdd, Nat.reduceSub, List.replicate]
 apply Run.seq
 refine opsF oo89 fun K hK => ?_
 try simp
 repeat' first | (refine evL_c ?_; simp [hop]) | (with_reducible first | apply aI | intro _ | assumption) | omega
 all_goals (apply Fin.go hK; clear hK K)
 simp only [tN]
 apply Run.seq
 apply Run.seq
 refine opsF oo90 fun K hK => ?_
 try simp
 repeat' first | (refine evL_c ?_; simp [hop]) | (with_reducible first | apply aI | intro _ | assumption) | omega
 all_goals (apply Fin.go hK; clear hK K)
 simp only [tN]
 apply Run.block
 apply Run.seq
 refine opsF oo91 fun K hK => ?_
 try simp
 repeat' first | (refine evL_c ?_; simp [hop]) | (with_reducible first | apply aI | intro _ | assumption) | omega
 all_goals (apply Fin.go hK; clear hK K)
 simp only [tN]
 refine Run.cond rfl (fun h7 => ?_) (fun h7 => ?_)
 ·simp at h7
 ·skip
  apply Run.seq
  refine opsF oo92 fun K hK => ?_
  try simp
  repeat' first | (refine evL_c ?_; simp [hop]) | (with_reducible first | apply aI | intro _ | assumption) | omega
  all_goals (apply Fin.go hK; clear hK K)
  simp only [tN]
  refine Run.cond rfl (fun h12 => ?_) (fun h12 => ?_)
  ·simp at h12
  ·skip
   apply Run.seq
   refine opsF oo93 fun K hK => ?_
   try simp
   repeat' first | (refine evL_c ?_; simp [hop]) | (with_reducible first | apply aI | intro _ | assumption) | omega
   all_goals (apply Fin.go hK; clear hK K)
   simp only [tN]
   refine Run.cond rfl (fun h17 => ?_) (fun h17 => ?_)
   ·simp at h17
   ·skip
    apply Run.seq
    refine opsF oo94 fun K hK => ?_
    try simp
    repeat' first | (refine evL_c ?_; simp [hop]) | (with_reducible first | apply aI | intro _ | assumption) | omega
    all_goals (apply Fin.go hK; clear hK K)
    simp only [tN]
    refine Run.cond rfl (fun h22 => ?_) (fun h22 => ?_)
    ·simp at h22
    ·skip
     apply Run.seq
     refine opsF oo95 fun K hK => ?_
     try simp
     repeat' first | (refine evL_c ?_; simp [hop]) | (with_reducible first | apply aI | intro _ | assumption) | omega
     all_goals (apply Fin.go hK; clear hK K)
     simp only [tN]
     refine Run.cond rfl (fun h27 => ?_) (fun h27 => ?_)
     ·simp at h27
     ·skip
      apply Run.skip
      simp only [Blok_normal]
      simp only [tN]
      apply Run.seq
      refine opsT [oM 0 32, oL 48 3 33, oC 56 #[.tmp 32, .tmp 33] #[90, 48] 34, oS 41 4 34] fun K hK => ?_
      try simp
      repeat' first | (refine ecallW [0, 1, 2] (by exact H) (by simp) (by simp) rfl ?_) | (refine evL_c ?_; simp [hop]) | (with_reducible first | apply aI | intro _ | assumption) | omega
      all_goals (apply Fin.go hK; clear hK K)
      simp only [tN]
      apply Run.ret
      try simp only [Then_ret, Blok_ret]
      simp [hm]
set_option maxHeartbeats 4000000 in
theorem pipe1_ok (c : CoreT) (p : PlanT) (st : StC) (hop : p.op = 1) : SndW P 33 [.pt 0 0 0 0, .d (.ag (encP p))] (s0C c st) (resC ⟨p.slot, [], -1⟩) (s1C c st ⟨p.slot, [], -1⟩) := by
 have H := scan_ok c p st
 simp only [encP_cells, hop, s0C] at H
 simp only [s0C, s1C, resC]
 refine sndW_of [0, 1, 2, 301, 302, 303] Try.func33 rfl (by kernel_rfl) Try.ntmps33 (by simp) (by simp [s0C]) ?_
 unfold Try.f33
 simp only [List.cons_append, List.nil_append, List.length_cons, List.length_nil, Nat.reduceAdd, Nat.reduceSub, List.replicate]
 apply Run.seq
 refine opsF oo89 fun K hK => ?_
 try simp
 repeat' first | (refine evL_c ?_; simp [hop]) | (with_reducible first | apply aI | intro _ | assumption) | omega
 all_goals (apply Fin.go hK; clear hK K)
 simp only [tN]
 apply Run.seq
 apply Run.seq
 refine opsF oo90 fun K hK => ?_
 try simp
 repeat' first | (refine evL_c ?_; simp [hop]) | (with_reducible first | apply aI | intro _ | assumption) | omega
 all_goals (apply Fin.go hK; clear hK K)
 simp only [tN]
 apply Run.block
 apply Run.seq
 refine opsF oo91 fun K hK => ?_
 try simp
 repeat' first | (refine evL_c ?_; simp [hop]) | (with_reducible first | apply aI | intro _ | assumption) | omega
 all_goals (apply Fin.go hK; clear hK K)
 simp only [tN]
 refine Run.cond rfl (fun h7 => ?_) (fun h7 => ?_)
 ·skip
  apply Run.seq
  refine opsT [oM 0 9, oL 48 3 10, oC 51 #[.tmp 9, .tmp 10] #[90, 48] 11, oS 41 4 11] fun K hK => ?_
  try simp
  repeat' first | (refine ecallW [0, 1, 2] (by exact H) (by simp) (by simp) rfl ?_) | (refine evL_c ?_; simp [hop]) | (with_reducible first | apply aI | intro _ | assumption) | omega
  all_goals (apply Fin.go hK; clear hK K)
  simp only [tN]
  refine Run.vir 303 6 (by omega) ?_
  simp
  refine Run.subB 500 1 (.rs 303 6 0 0) rfl rfl (nil_rs 303 6) ?_
  simp
  refine Run.mv 1 301 (by omega) (by simp) (by simp) ?_
  simp
  refine Run.mv 2 302 (by omega) (by simp) (by simp) ?_
  simp
  apply Run.ret
  try simp only [Then_ret, Blok_ret]
  simp [hop]
 ·simp at h7
end Go.Proofs.Ytimgbdkgjfbhkaa.Z
end
section
namespace Go.Proofs.Ytimgbdkgjfbhkaa.Z
open Go Go.Fw
attribute [-simp] lost
set_option maxHeartbeats 8000000 in
theorem join_ok (c : CoreT) (p : PlanT) (st st1 st2 : StC) (x y : PipeC) (b0 b1 : List Bool) (hop : p.op = 4) (hk2 : p.kids.length = 2) (hw : c.nodes.length + c.edges.length ≤ 16) (IH0 : SndW P 33 [.pt 0 0 0 0, .d (.ag (encP (rdI p.kids 0)))] (s0C c st) (resC x) (s1C c st1 x)) (IH1 : SndW P 33 [.pt 0 0 0 0, .d (.ag (encP (rdI p.kids 1)))] (s0C c st1) (resC y) (s1C c st2 y)) (hB0 : Snd P 24 [.d (.ag (encP (rdI p.kids 0))), .d (.ag (encC c))] (.tup [.d (.sl false (b0.map encB)), .int 0]) []) (hb0 : b0.length = c.nodes.length + c.edges.length) (hB1 : Snd P 24 [.d (.ag (encP (rdI p.kids 1))), .d (.ag (encC c))] (.tup [.d (.sl false (b1.map encB)), .int 0]) []) (hb1 : b1.length = c.nodes.length + c.edges.length) (l1 : x.steps.length ≤ 1100000) (l2 : st2.1.length ≤ 1100000) (l3 : st2.2.length ≤ 1100000)
  : SndW P 54 [.pt 0 0 0 0, .d (.ag (encP p))] (s0C c st) (resC (onC x ⟨5, 0, nilD, false, nilD, st2.1.length⟩)) (s1C c (st2.1 ++ [keyN b0 b1 (c.nodes.length + c.edges.length)], st2.2 ++ [⟨y.scan, y.steps, st2.1.length⟩]) (onC x ⟨5, 0, nilD, false, nilD, st2.1.length⟩)) := by
 obtain ⟨nx, hnx⟩ : ∃ z, x.steps.length = z := ⟨_, rfl⟩
 obtain ⟨ny, hny⟩ : ∃ z, y.steps.length = z := ⟨_, rfl⟩
 obtain ⟨m2, hm2⟩ : ∃ z, st2.1.length = z := ⟨_, rfl⟩
 obtain ⟨q2, hq2⟩ : ∃ z, st2.2.length = z := ⟨_, rfl⟩
 obtain ⟨n, hn⟩ : ∃ z, c.nodes.length + c.edges.length = z := ⟨_, rfl⟩
 have hkl : p.kids.length = 2 := hk2
 have hb0n : b0.length = n := by rw [hb0, hn]
 have hb1n : b1.length = n := by rw [hb1, hn]
 rw [hn] at hw
 rw [hnx] at l1
 rw [hm2] at l2
 rw [hq2] at l3
 have hI0 := IH0
 have hI1 := IH1
 have hJ0 := hB0
 have hJ1 := hB1
 rw [encP_cells] at hJ0 hJ1
 simp only [encP_cells, s0C, s1C, resC, hnx] at hI0
 simp only [encP_cells, s0C, s1C, resC, hny, hm2, hq2] at hI1
 simp only [s0C, s1C, resC, hm2, hn]
 refine sndW_of [0, 1, 2, 8500, 9700, 10700] Try.func54 rfl (by kernel_rfl) Try.ntmps54 (by simp) (by simp [s0C]) ?_
 unfold Try.f54
 simp only [List.cons_append, List.nil_append, List.length_cons, List.length_nil, Nat.reduceAdd, Nat.reduceSub, List.replicate]
 apply Run.seq
 refine opsF oo89 fun K hK => ?_
 try simp
 repeat' first | (refine evL_c ?_; simp [hkl, hnx, hny, hm2, hq2, hb0n, hb1n]) | (with_reducible first | apply aI | intro _ | assumption) | omega
 all_goals (apply Fin.go hK; clear hK K)
 simp only [tN]
 apply Run.seq
 refine opsT [oM 0 14, oF 48 3 1 15, oL 45 15 16, ⟨.indexAddr 45 (.tmp 16) (.const (.int .i64 0)), some 17, none⟩, oL 48 17 18, oC 33 #[.tmp 14, .tmp 18] #[90, 48] 19, ⟨.alloc 41, some 5, none⟩, oS 41 5 19] fun K hK => ?_
 try simp
 repeat' first | (refine ecallW [0, 1, 2] (by exact hI0) (by simp) (by simp) rfl ?_) | (refine evL_c ?_; simp [hkl, hnx, hny, hm2, hq2, hb0n, hb1n]) | (with_reducible first | apply aI | intro _ | assumption) | omega
 all_goals (apply Fin.go hK; clear hK K)
 simp only [tN]
 apply Run.seq
 refine opsT [oM 0 20, oF 48 3 1 21, oL 45 21 22, ⟨.indexAddr 45 (.tmp 22) (.const (.int .i64 1)), some 23, none⟩, oL 48 23 24, oC 33 #[.tmp 20, .tmp 24] #[90, 48] 25, ⟨.alloc 41, some 6, none⟩, oS 41 6 25] fun K hK => ?_
 try simp
 repeat' first | (refine ecallW [0, 2003, 2004] (by exact hI1) (by simp) (by simp) rfl ?_) | (refine evL_c ?_; simp [hkl, hnx, hny, hm2, hq2, hb0n, hb1n]) | (with_reducible first | apply aI | intro _ | assumption) | omega
 all_goals (apply Fin.go hK; clear hK K)
 simp only [tN]
 apply Run.seq
 refine opsF [oF 48 3 1 27, oL 45 27 28, ⟨.indexAddr 45 (.tmp 28) (.const (.int .i64 0)), some 29, none⟩, oL 48 29 30, oM 0 31, oV 31 32, oF 92 32 0 33, oL 32 33 34, oC 24 #[.tmp 30, .tmp 34] #[48, 32] 35, oM 35 26, oX 26 0 36, oX 26 1 37, oA 36 7, oA 37 8] fun K hK => ?_
 try simp
 repeat' first | (refine ecall (by exact hJ0) rfl ?_) | (refine evL_c ?_; simp [hkl, hnx, hny, hm2, hq2, hb0n, hb1n]) | (with_reducible first | apply aI | intro _ | assumption) | omega
 all_goals (apply Fin.go hK; clear hK K)
 simp only [tN]
 apply Run.seq
 refine opsF [oF 48 3 1 39, oL 45 39 40, ⟨.indexAddr 45 (.tmp 40) (.const (.int .i64 1)), some 41, none⟩, oL 48 41 42, oM 0 43, oV 43 44, oF 92 44 0 45, oL 32 45 46, oC 24 #[.tmp 42, .tmp 46] #[48, 32] 47, oM 47 38, oX 38 0 48, oX 38 1 49, oA 48 9, oA 49 10] fun K hK => ?_
 try simp
 repeat' first | (refine ecall (by exact hJ1) rfl ?_) | (refine evL_c ?_; simp [hkl, hnx, hny, hm2, hq2, hb0n, hb1n]) | (with_reducible first | apply aI | intro _ | assumption) | omega
 all_goals (apply Fin.go hK; clear hK K)
 simp only [tN]
 apply Run.seq
 refine opsF [⟨.assign (.const (.slice none 0 0)), some 11, none⟩] fun K hK => ?_
 try simp
 repeat' first | (refine evL_c ?_; simp [hkl, hnx, hny, hm2, hq2, hb0n, hb1n]) | (with_reducible first | apply aI | intro _ | assumption) | omega
 all_goals (apply Fin.go hK; clear hK K)
 simp only [tN]
 refine Run.vir 6800 1 (by omega) ?_
 simp
 refine Run.subV 11 (.rs 6800 1 0 0) rfl (nil_rs 6800 1) ?_
 simp
 apply Run.seq
 apply Run.seq
 refine opsF [oM 7 50, oN 34 50 51, ⟨.move (.const (.int .i64 0)), some 52, none⟩] fun K hK => ?_
 try simp
 repeat' first | (refine evL_c ?_; simp [hkl, hnx, hny, hm2, hq2, hb0n, hb1n]) | (with_reducible first | apply aI | intro _ | assumption) | omega
 all_goals (apply Fin.go hK; clear hK K)
 simp only [tN]
 apply Run.block
 refine Run.loopO [11, 12, 13, 52, 53, 54, 55, 56, 57, 58, 59, 60, 61, 62, 63, 64, 65, 66, 67, 68] (fun (i : Nat) => [(52, .int i), (11, .rs 6800 1 0 (keyN b0 b1 i).length)]) (fun (i : Nat) => [(0, .vals ((encC c).map .d ++ [.rs 2603 1 0 m2, .rs 2604 3 0 q2])), (400, .vals ((encP p).map .d)), (500, .vals [.int 0, vnil, .int 0]), (600, .vals [.int x.scan, .rs 2005 6 0 nx, .int x.sink]), (700, .vals [.int y.scan, .rs 2605 6 0 ny, .int y.sink]), (2005, .data 6 (x.steps.map encK)), (2603, .data 1 (st2.1.map encTb)), (2604, .data 3 (st2.2.map encW)), (2605, .data 6 (y.steps.map encK)), (6800, .data 1 ((keyN b0 b1 i).map encI))]) (fun (i : Nat) => i ≤ n) (fun (i : Nat) => n - i) 0 (by omega) (by simp [keyN, hkl, hnx, hny, hm2, hq2, hb0n, hb1n]) fun i hi => ?_
 simp only [over, List.foldl, List.set]
 have hkn := keyN_len b0 b1 i
 have hju : keyN b0 b1 (i + 1) = if rdI b0 i && rdI b1 i then keyN b0 b1 i ++ [(i : Int)] else keyN b0 b1 i := rfl
 obtain ⟨ks, hks⟩ : ∃ z, keyN b0 b1 i = z := ⟨_, rfl⟩
 rw [hks] at hkn hju
 obtain ⟨kn, hkl2⟩ : ∃ z, ks.length = z := ⟨_, rfl⟩
 rw [hkl2] at hkn
 have htk : (ks.map encI).take kn = ks.map encI := List.take_of_length_le (by simp [hkl2])
 apply Run.seq
 refine opsF oo71 fun K hK => ?_
 try simp
 repeat' first | (refine evL_c ?_; simp [hkl, hnx, hny, hm2, hq2, hb0n, hb1n]) | (with_reducible first | apply aI | intro _ | assumption) | omega
 all_goals (apply Fin.go hK; clear hK K)
 simp only [tN]
 apply Run.seq
 refine Run.cond rfl (fun h53 => ?_) (fun h53 => ?_)
 ·try simp at h53
  have hi1 : i < n := by omega
  have hi2 : (i : Int) < n := by omega
  apply Run.skip
  simp only [tN]
  apply Run.seq
  apply Run.block
  apply Run.seq
  refine opsF [oM 52 54, oI 34 50 52 55, oL 4 55 56, oA 54 12, oA 56 13] fun K hK => ?_
  try simp
  repeat' first | (refine evL_c ?_; simp [hkl, hnx, hny, hm2, hq2, hb0n, hb1n, hi1, hi2, hks, hkl2, htk]) | (with_reducible first | apply aI | intro _ | assumption) | omega
  all_goals (apply Fin.go hK; clear hK K)
  simp only [tN]
  refine Run.cut [57, 58, 59, 60, 61, 62, 63] [(63, .bool (rdI b0 i && rdI b1 i))] [(0, .vals ((encC c).map .d ++ [.rs 2603 1 0 m2, .rs 2604 3 0 q2])), (400, .vals ((encP p).map .d)), (500, .vals [.int 0, vnil, .int 0]), (600, .vals [.int x.scan, .rs 2005 6 0 nx, .int x.sink]), (700, .vals [.int y.scan, .rs 2605 6 0 ny, .int y.sink]), (2005, .data 6 (x.steps.map encK)), (2603, .data 1 (st2.1.map encTb)), (2604, .data 3 (st2.2.map encW)), (2605, .data 6 (y.steps.map encK)), (6800, .data 1 (ks.map encI))] ?_ ?_
  ·refine opsF [oM 13 57, oM 57 58, ⟨.move (.tmp 9), some 59, some (some 58, true)⟩, ⟨.move (.tmp 12), some 60, some (some 58, true)⟩, ⟨.indexAddr 34 (.tmp 59) (.tmp 60), some 61, some (some 58, true)⟩, ⟨.load 4 (.tmp 61), some 62, some (some 58, true)⟩, ⟨.pick (.tmp 58) (.tmp 62) (.const (.bool false)), some 63, none⟩] fun K hK => ?_
   try simp
   repeat' first | ((first | refine evL_c ?_ | (refine evL_g rfl ?_; try simp only [gs_tt, gs_ff, gs_tf, gs_ft]) | refine evL_u rfl ?_ | (with_reducible refine gsplit (fun hg => ?_) (fun hg => ?_) <;> try simp at hg)) <;> try simp [hkl, hnx, hny, hm2, hq2, hb0n, hb1n, hi1, hi2, hks, hkl2, htk, *]) | (with_reducible first | apply aI | intro _ | assumption) | omega
   all_goals (apply Fin.go hK; clear hK K)
   all_goals
    (try simp [*]) <;> (first | omega | (simp; done) | grind)
  ·simp only [over, List.foldl, List.set]
   refine Run.cond rfl (fun h63 => ?_) (fun h63 => ?_)
   ·try simp at h63
    refine opsF [oM 11 64, oM 12 65, ⟨.buildSlice 46 1 #[(0, .tmp 65)], some 66, none⟩, ⟨.call { callee := .builtin .append, args := #[.tmp 64, .tmp 66], argTypes := #[46, 46] }, some 67, none⟩, oA 67 11] fun K hK => ?_
    try simp
    repeat' first | (refine evL_c ?_; simp [hkl, hnx, hny, hm2, hq2, hb0n, hb1n, hi1, hi2, hks, hkl2, htk]) | (with_reducible first | apply aI | intro _ | assumption) | omega
    all_goals (apply Fin.go hK; clear hK K)
    simp only [Blok_normal]
    simp only [tN]
    refine opsF oo96 fun K hK => ?_
    try simp
    repeat' first | (refine evL_c ?_; simp [hkl, hnx, hny, hm2, hq2, hb0n, hb1n, hi1, hi2, hks, hkl2, htk]) | (with_reducible first | apply aI | intro _ | assumption) | omega
    all_goals (apply Fin.go hK; clear hK K)
    refine ⟨i + 1, by omega, by omega, ?_⟩
    (try simp at h63)
    (try simp (disch := omega) [wrap_id, hju, h63, hks, hkl2, htk, hkl, hnx, hny, hm2, hq2, hb0n, hb1n]) <;> (first | done | grind)
   ·try simp at h63
    apply Run.skip
    simp only [Blok_normal]
    simp only [tN]
    refine opsF oo96 fun K hK => ?_
    try simp
    repeat' first | (refine evL_c ?_; simp [hkl, hnx, hny, hm2, hq2, hb0n, hb1n, hi1, hi2, hks, hkl2, htk]) | (with_reducible first | apply aI | intro _ | assumption) | omega
    all_goals (apply Fin.go hK; clear hK K)
    refine ⟨i + 1, by omega, by omega, ?_⟩
    (try simp at h63)
    (try simp (disch := omega) [wrap_id, hju, h63, hks, hkl2, htk, hkl, hnx, hny, hm2, hq2, hb0n, hb1n]) <;> (first | done | grind)
 ·try simp at h53
  have hi3 : i = n := by omega
  subst hi3
  refine Run.exit ?_
  simp (decide := true) only [Then_exit, Blok_exit, if_true, if_false]
  simp only [tN]
  apply Run.seq
  refine opsF [oM 0 69, oV 69 70, oF 92 70 1 71, oF 25 71 0 72, oL 22 72 73, oN 22 73 74, oF 41 6 2 75, oS 3 75 74] fun K hK => ?_
  try simp
  repeat' first | (refine evL_c ?_; simp [hkl, hnx, hny, hm2, hq2, hb0n, hb1n, hks, hkl2]) | (with_reducible first | apply aI | intro _ | assumption) | omega
  all_goals (apply Fin.go hK; clear hK K)
  simp only [tN]
  refine Run.frz 11 6800 rfl (by simp [hkl2]) rfl ?_
  simp [htk]
  apply Run.seq
  refine opsF [oM 0 76, oM 0 77, oV 77 78, oF 92 78 1 79, oF 25 79 0 80, oL 22 80 81, oM 11 82, ⟨.buildSlice 22 1 #[(0, .tmp 82)], some 83, none⟩, ⟨.call { callee := .builtin .append, args := #[.tmp 81, .tmp 83], argTypes := #[22, 22] }, some 84, none⟩, oV 76 85, oF 92 85 1 86, oF 25 86 0 87, oS 22 87 84] fun K hK => ?_
  try simp
  repeat' first | (refine evL_c ?_; simp [hkl, hnx, hny, hm2, hq2, hb0n, hb1n, hks, hkl2]) | (with_reducible first | apply aI | intro _ | assumption) | omega
  all_goals (apply Fin.go hK; clear hK K)
  simp only [tN]
  refine Run.fra 2605 ?_
  simp [V.fra, V.fraL, Blk.fra, fraS, frz, List.take_of_length_le, hny]
  apply Run.seq
  refine opsF [oM 0 88, oM 0 89, oV 89 90, oF 92 90 1 91, oF 25 91 1 92, oL 23 92 93, oL 41 6 94, ⟨.buildSlice 23 1 #[(0, .tmp 94)], some 95, none⟩, ⟨.call { callee := .builtin .append, args := #[.tmp 93, .tmp 95], argTypes := #[23, 23] }, some 96, none⟩, oV 88 97, oF 92 97 1 98, oF 25 98 1 99, oS 23 99 96] fun K hK => ?_
  try simp
  repeat' first | (refine evL_c ?_; simp [hkl, hnx, hny, hm2, hq2, hb0n, hb1n, hks, hkl2]) | (with_reducible first | apply aI | intro _ | assumption) | omega
  all_goals (apply Fin.go hK; clear hK K)
  simp only [tN]
  apply Run.seq
  refine opsF [oF 41 5 1 100, oL 39 100 101, oF 41 6 2 102, oL 3 102 103, ⟨.build 75 #[(0, .const (.int .i64 5)), (5, .tmp 103)], some 104, none⟩, ⟨.buildSlice 39 1 #[(0, .tmp 104)], some 105, none⟩, ⟨.call { callee := .builtin .append, args := #[.tmp 101, .tmp 105], argTypes := #[39, 39] }, some 106, none⟩, oF 41 5 1 107, oS 39 107 106] fun K hK => ?_
  try simp
  repeat' first | (refine evL_c ?_; simp [hkl, hnx, hny, hm2, hq2, hb0n, hb1n, hks, hkl2]) | (with_reducible first | apply aI | intro _ | assumption) | omega
  all_goals (apply Fin.go hK; clear hK K)
  simp only [tN]
  apply Run.seq
  refine opsF [oL 41 5 108, oS 41 4 108] fun K hK => ?_
  try simp
  repeat' first | (refine evL_c ?_; simp [hkl, hnx, hny, hm2, hq2, hb0n, hb1n, hks, hkl2]) | (with_reducible first | apply aI | intro _ | assumption) | omega
  all_goals (apply Fin.go hK; clear hK K)
  simp only [tN]
  apply Run.ret
  try simp only [Then_ret, Blok_ret]
  simp [onC, encW, encK, hkl, hnx, hny, hm2, hq2, hb0n, hb1n, hks, hkl2, List.take_of_length_le]
end Go.Proofs.Ytimgbdkgjfbhkaa.Z
end
section
namespace Go.Proofs.Ytimgbdkgjfbhkaa.Z
open Go Go.Fw
attribute [-simp] lost
theorem bnd_wants {c : CoreT} {p : PlanT} (h : (bndT c p).isSome = true) : wants p.op = some p.kids.length := by
 rw [bndT_eq] at h
 split at h
 ·assumption
 ·cases h
theorem bnd_kids {c : CoreT} {p : PlanT} (h : (bndT c p).isSome = true) : ∀ q ∈ p.kids, (bndT c q).isSome = true := by
 rw [bndT_eq] at h
 split at h
 ·obtain ⟨r, hr⟩ := Option.isSome_iff_exists.1 h
  obtain ⟨bs, hbs, _⟩ := Option.bind_eq_some_iff.1 hr
  have key : ∀ (l : List PlanT) (bs : List (List Bool)), bndL c l = some bs → ∀ q ∈ l, (bndT c q).isSome = true := by
   intro l
   induction l with
   | nil => intro _ _ q hq; cases hq
   | cons x t ih =>
     intro bs h q hq
     rw [bndL] at h
     obtain ⟨b, h1, h2⟩ := Option.bind_eq_some_iff.1 h
     obtain ⟨cs, h3, _⟩ := Option.map_eq_some_iff.1 h2
     rcases List.mem_cons.1 hq with rfl | hq
     ·rw [h1]; rfl
     ·exact ih cs h3 q hq
  exact key _ _ hbs
 ·cases h
theorem pipe_one {c : CoreT} {p : PlanT} (h : p.kids.length = 1) (st : StC) : pipeT c p st = pipeO c p [(pipeT c (rdI p.kids 0) st).1] (pipeT c (rdI p.kids 0) st).2 := by
 obtain ⟨q, hq⟩ := List.length_eq_one_iff.1 h
 rw [pipeT_eq, hq]; rfl
theorem pipe_two {c : CoreT} {p : PlanT} (h : p.kids.length = 2) (st : StC) : pipeT c p st = pipeO c p [(pipeT c (rdI p.kids 0) st).1, (pipeT c (rdI p.kids 1) (pipeT c (rdI p.kids 0) st).2).1] (pipeT c (rdI p.kids 1) (pipeT c (rdI p.kids 0) st).2).2 := by
 obtain ⟨q, r, hq⟩ := len_two h
 rw [pipeT_eq, hq]; rfl
mutual
theorem pipeT_len (c : CoreT) : ∀ (p : PlanT) (st : StC), (pipeT c p st).1.steps.length ≤ partsP p ∧ (pipeT c p st).2.1.length ≤ st.1.length + partsP p ∧ (pipeT c p st).2.2.length ≤ st.2.length + partsP p
 | .mk o k s e b t, st => by
   obtain ⟨h1, h2, h3⟩ := pipeL_len c k st
   have hp : 1 + partsL k ≤ partsP (.mk o k s e b t) := by rw [partsP]; omega
   have g : ∀ i, ((pipeL c k st).1.getD i default).steps.length ≤ partsL k := fun i => by
    rw [List.getD_eq_getElem?_getD]
    cases hi : (pipeL c k st).1[i]? with
    | none => exact Nat.zero_le _
    | some x => exact h1 x (List.mem_of_getElem? hi)
   have g0 := g 0
   rw [pipeT, pipeO]
   split
   ·exact ⟨by simp, by dsimp only; omega, by dsimp only; omega⟩
   ·split
    ·exact ⟨by simp only [onC, List.length_append, List.length_cons, List.length_nil]; omega, by simp only [List.length_append, List.length_cons, List.length_nil]; omega, by simp only [List.length_append, List.length_cons, List.length_nil]; omega⟩
    ·exact ⟨by simp only [onC, List.length_append, List.length_cons, List.length_nil]; omega, by dsimp only; omega, by dsimp only; omega⟩
theorem pipeL_len (c : CoreT) : ∀ (l : List PlanT) (st : StC), (∀ x ∈ (pipeL c l st).1, x.steps.length ≤ partsL l) ∧ (pipeL c l st).2.1.length ≤ st.1.length + partsL l ∧ (pipeL c l st).2.2.length ≤ st.2.length + partsL l
 | [], st => by rw [pipeL]; exact ⟨by simp, by simp, by simp⟩
 | p :: r, st => by
   obtain ⟨h1, h2, h3⟩ := pipeT_len c p st
   obtain ⟨g1, g2, g3⟩ := pipeL_len c r (pipeT c p st).2
   rw [pipeL, partsL]
   refine ⟨fun x hx => ?_, by simp only []; omega, by simp only []; omega⟩
   rcases List.mem_cons.1 hx with rfl | hx
   ·omega
   ·have := g1 x hx; omega
end
theorem parts_kid {p : PlanT} {i : Nat} (hi : i < p.kids.length) : partsP (rdI p.kids (i : Int)) < partsP p := by
 have := partsL_mem (kid_mem hi); rw [partsP_eq p]; omega
theorem parts_two {p : PlanT} (h : p.kids.length = 2) : partsP (rdI p.kids 0) + partsP (rdI p.kids 1) < partsP p := by
 obtain ⟨q, r, hq⟩ := len_two h
 rw [partsP_eq p, hq]
 have e0 : rdI [q, r] 0 = q := rfl
 have e1 : rdI [q, r] 1 = r := rfl
 rw [e0, e1]; simp only [partsL]; omega
theorem pipe_ok (c : CoreT) (hP : patS c.nodes c.edges = true) (p : PlanT) (hf : partsP p ≤ 1100000) (hr : (bndT c p).isSome = true) (st : StC) (h1 : st.1.length + partsP p ≤ 1100000) (h2 : st.2.length + partsP p ≤ 1100000) :
  SndW P 33 [.pt 0 0 0 0, .d (.ag (encP p))] (s0C c st) (resC (pipeT c p st).1) (s1C c (pipeT c p st).2 (pipeT c p st).1) := by
 have hw := bnd_wants hr
 have hrg := pat_rng hP
 have hee : p.edges.length + p.terms.length ≤ partsP p := by rw [partsP_eq]; omega
 rcases wants_op hw with e | e | e | e | e | e
 ·have hl : p.kids = [] := List.length_eq_zero_iff.1 (by rw [e] at hw; simp [wants] at hw; omega)
  have := pipe1_ok c p st e
  rw [pipeT_eq, pipeO, if_pos e, hl, pipeL]
  exact this
 ·have hl : p.kids.length = 1 := by rw [e] at hw; simp [wants] at hw; omega
  have hk := parts_kid (p := p) (i := 0) (by omega)
  simp only [Int.natCast_zero] at hk
  have hq := bnd_kids hr _ (kid_mem (p := p) (i := 0) (by omega))
  have hlen := pipeT_len c (rdI p.kids 0) st
  have hsz := kids_lt (kid_mem (p := p) (i := 0) (by omega))
  have IH := pipe_ok c hP (rdI p.kids 0) (by omega) hq st (by omega) (by omega)
  rw [pipe_one hl, pipeO, if_neg (by omega), if_neg (by omega)]
  show SndW P 33 _ (s0C c st) (resC (onC (pipeT c (rdI p.kids 0) st).1 (stepO p))) (s1C c (pipeT c (rdI p.kids 0) st).2 (onC (pipeT c (rdI p.kids 0) st).1 (stepO p)))
  exact pipe2_ok c p st _ _ e (expand_ok c p st _ _ e (by omega) (by omega) (by omega) IH)
 ·have hl : p.kids.length = 1 := by rw [e] at hw; simp [wants] at hw; omega
  have hk := parts_kid (p := p) (i := 0) (by omega)
  simp only [Int.natCast_zero] at hk
  have hq := bnd_kids hr _ (kid_mem (p := p) (i := 0) (by omega))
  have hlen := pipeT_len c (rdI p.kids 0) st
  have hsz := kids_lt (kid_mem (p := p) (i := 0) (by omega))
  have IH := pipe_ok c hP (rdI p.kids 0) (by omega) hq st (by omega) (by omega)
  rw [pipe_one hl, pipeO, if_neg (by omega), if_neg (by omega)]
  show SndW P 33 _ (s0C c st) (resC (onC (pipeT c (rdI p.kids 0) st).1 (stepO p))) (s1C c (pipeT c (rdI p.kids 0) st).2 (onC (pipeT c (rdI p.kids 0) st).1 (stepO p)))
  exact pipe3_ok c p st _ _ e (path_ok c p st _ _ e (by omega) (by omega) (by omega) IH)
 ·have hl : p.kids.length = 2 := by rw [e] at hw; simp [wants] at hw; omega
  have hk := parts_two hl
  have hq0 := bnd_kids hr _ (kid_mem (p := p) (i := 0) (by omega))
  have hq1 := bnd_kids hr _ (kid_mem (p := p) (i := 1) (by omega))
  have hsz0 := kids_lt (kid_mem (p := p) (i := 0) (by omega))
  have hsz1 := kids_lt (kid_mem (p := p) (i := 1) (by omega))
  simp only [Int.natCast_zero, Int.natCast_one] at *
  have hlen0 := pipeT_len c (rdI p.kids 0) st
  have hlen1 := pipeT_len c (rdI p.kids 1) (pipeT c (rdI p.kids 0) st).2
  have IH0 := pipe_ok c hP (rdI p.kids 0) (by omega) hq0 st (by omega) (by omega)
  have IH1 := pipe_ok c hP (rdI p.kids 1) (by omega) hq1 (pipeT c (rdI p.kids 0) st).2 (by omega) (by omega)
  obtain ⟨b0, hb0⟩ := Option.isSome_iff_exists.1 hq0
  obtain ⟨b1, hb1⟩ := Option.isSome_iff_exists.1 hq1
  rw [pipe_two hl, pipeO, if_neg (by omega), if_pos e, hb0, hb1]
  show SndW P 33 _ (s0C c st) (resC (onC (pipeT c (rdI p.kids 0) st).1 ⟨5, 0, nilD, false, nilD, (pipeT c (rdI p.kids 1) (pipeT c (rdI p.kids 0) st).2).2.1.length⟩)) (s1C c ((pipeT c (rdI p.kids 1) (pipeT c (rdI p.kids 0) st).2).2.1 ++ [keyN b0 b1 (c.nodes.length + c.edges.length)], (pipeT c (rdI p.kids 1) (pipeT c (rdI p.kids 0) st).2).2.2 ++ [⟨(pipeT c (rdI p.kids 1) (pipeT c (rdI p.kids 0) st).2).1.scan, (pipeT c (rdI p.kids 1) (pipeT c (rdI p.kids 0) st).2).1.steps, (pipeT c (rdI p.kids 1) (pipeT c (rdI p.kids 0) st).2).2.1.length⟩]) (onC (pipeT c (rdI p.kids 0) st).1 ⟨5, 0, nilD, false, nilD, (pipeT c (rdI p.kids 1) (pipeT c (rdI p.kids 0) st).2).2.1.length⟩))
  exact pipe4_ok c p st _ _ e (join_ok c p st _ _ _ _ b0 b1 e hl (by omega) IH0 IH1 (bound_some hP (by omega) hb0) (bndT_len c _ _ hb0) (bound_some hP (by omega) hb1) (bndT_len c _ _ hb1) (by omega) (by omega) (by omega))
 ·have hl : p.kids.length = 1 := by rw [e] at hw; simp [wants] at hw; omega
  have hk := parts_kid (p := p) (i := 0) (by omega)
  simp only [Int.natCast_zero] at hk
  have hq := bnd_kids hr _ (kid_mem (p := p) (i := 0) (by omega))
  have hlen := pipeT_len c (rdI p.kids 0) st
  have hsz := kids_lt (kid_mem (p := p) (i := 0) (by omega))
  have IH := pipe_ok c hP (rdI p.kids 0) (by omega) hq st (by omega) (by omega)
  rw [pipe_one hl, pipeO, if_neg (by omega), if_neg (by omega)]
  show SndW P 33 _ (s0C c st) (resC (onC (pipeT c (rdI p.kids 0) st).1 (stepO p))) (s1C c (pipeT c (rdI p.kids 0) st).2 (onC (pipeT c (rdI p.kids 0) st).1 (stepO p)))
  exact pipe5_ok c p st _ _ e (meetC_ok c p st _ _ e (by omega) (by omega) (by omega) IH)
 ·have hl : p.kids.length = 1 := by rw [e] at hw; simp [wants] at hw; omega
  have hk := parts_kid (p := p) (i := 0) (by omega)
  simp only [Int.natCast_zero] at hk
  have hq := bnd_kids hr _ (kid_mem (p := p) (i := 0) (by omega))
  have hlen := pipeT_len c (rdI p.kids 0) st
  have hsz := kids_lt (kid_mem (p := p) (i := 0) (by omega))
  have IH := pipe_ok c hP (rdI p.kids 0) (by omega) hq st (by omega) (by omega)
  rw [pipe_one hl, pipeO, if_neg (by omega), if_neg (by omega)]
  show SndW P 33 _ (s0C c st) (resC (onC (pipeT c (rdI p.kids 0) st).1 (stepO p))) (s1C c (pipeT c (rdI p.kids 0) st).2 (onC (pipeT c (rdI p.kids 0) st).1 (stepO p)))
  exact pipe6_ok c p st _ _ e (filter_ok c p st _ _ e (by omega) (by omega) (by omega) IH)
termination_by SizeOf.sizeOf p
theorem compN_ok (c : CoreT) (p : PlanT) (x : D) (n : Int) (hB : Snd P 24 [.d (.ag (encP p)), .d (.ag (encC c))] (.tup [.d x, .int n]) []) (hn : n ≠ 0) : Snd P 17 [.d (.ag (encP p)), .d (.ag (encC c))] (.tup [.d (.ag [nilD, nilD]), .int n]) [] := by
 rw [encP_cells] at hB
 refine snd_of [] Try.func17 rfl (by kernel_rfl) Try.ntmps17 (by simp) ?_
 unfold Try.f17
 simp only [List.cons_append, List.nil_append, List.length_cons, List.length_nil, Nat.reduceAdd, Nat.reduceSub, List.replicate]
 apply Run.seq
 refine opsF oo97 fun K hK => ?_
 try simp
 repeat' first | (refine evL_c ?_; simp [hn]) | (with_reducible first | apply aI | intro _ | assumption) | omega
 all_goals (apply Fin.go hK; clear hK K)
 simp only [tN]
 apply Run.seq
 apply Run.seq
 refine opsF oo98 fun K hK => ?_
 try simp
 repeat' first | (refine ecall (by exact hB) rfl ?_) | (refine evL_c ?_; simp [hn]) | (with_reducible first | apply aI | intro _ | assumption) | omega
 all_goals (apply Fin.go hK; clear hK K)
 simp only [tN]
 apply Run.seq
 refine opsF oo99 fun K hK => ?_
 try simp
 repeat' first | (refine evL_c ?_; simp [hn]) | (with_reducible first | apply aI | intro _ | assumption) | omega
 all_goals (apply Fin.go hK; clear hK K)
 simp only [tN]
 refine Run.cond rfl (fun h17 => ?_) (fun h17 => ?_)
 ·skip
  apply Run.seq
  refine opsF [⟨.build 25 #[], some 18, none⟩, oM 7 19, oS 25 4 18, oA 19 5] fun K hK => ?_
  try simp
  repeat' first | (refine evL_c ?_; simp [hn]) | (with_reducible first | apply aI | intro _ | assumption) | omega
  all_goals (apply Fin.go hK; clear hK K)
  simp only [tN]
  apply Run.ret
  try simp only [Then_ret, Blok_ret]
  simp
 ·simp at h17
set_option maxHeartbeats 4000000 in
theorem compA_ok (c : CoreT) (p : PlanT) (z : D) (st : StC) (x : PipeC) (hB : Snd P 24 [.d (.ag (encP p)), .d (.ag (encC c))] (.tup [.d z, .int 0]) []) (H : SndW P 33 [.pt 0 0 0 0, .d (.ag (encP p))] (s0C c ([], [])) (resC x) (s1C c st x)) (l1 : st.1.length ≤ 1100000) (l2 : st.2.length ≤ 1100000) : Snd P 17 [.d (.ag (encP p)), .d (.ag (encC c))] (.tup [.d (.ag [.sl false (st.1.map encTb), .sl false ((st.2 ++ [x]).map encW)]), .int 0]) [] := by
 rw [encP_cells] at hB
 obtain ⟨nx, hnx⟩ : ∃ z, x.steps.length = z := ⟨_, rfl⟩
 obtain ⟨m2, hm2⟩ : ∃ z, st.1.length = z := ⟨_, rfl⟩
 obtain ⟨q2, hq2⟩ : ∃ z, st.2.length = z := ⟨_, rfl⟩
 rw [hm2] at l1
 rw [hq2] at l2
 simp only [encP_cells, s0C, s1C, resC, hnx, hm2, hq2] at H
 simp at H
 refine snd_of [] Try.func17 rfl (by kernel_rfl) Try.ntmps17 (by simp) ?_
 unfold Try.f17
 simp only [List.cons_append, List.nil_append, List.length_cons, List.length_nil, Nat.reduceAdd, Nat.reduceSub, List.replicate]
 apply Run.seq
 refine opsF oo97 fun K hK => ?_
 try simp
 repeat' first | (refine evL_c ?_; simp [hnx, hm2, hq2]) | (with_reducible first | apply aI | intro _ | assumption) | omega
 all_goals (apply Fin.go hK; clear hK K)
 simp only [tN]
 apply Run.seq
 apply Run.seq
 refine opsF oo98 fun K hK => ?_
 try simp
 repeat' first | (refine ecall (by exact hB) rfl ?_) | (refine evL_c ?_; simp [hnx, hm2, hq2]) | (with_reducible first | apply aI | intro _ | assumption) | omega
 all_goals (apply Fin.go hK; clear hK K)
 simp only [tN]
 apply Run.seq
 refine opsF oo99 fun K hK => ?_
 try simp
 repeat' first | (refine evL_c ?_; simp [hnx, hm2, hq2]) | (with_reducible first | apply aI | intro _ | assumption) | omega
 all_goals (apply Fin.go hK; clear hK K)
 simp only [tN]
 refine Run.cond rfl (fun h17 => ?_) (fun h17 => ?_)
 ·simp at h17
 ·skip
  apply Run.skip
  simp only [tN]
  apply Run.seq
  refine opsF [oL 32 3 20, ⟨.build 92 #[(0, .tmp 20)], some 21, none⟩, ⟨.box 92 (.tmp 21), some 22, none⟩, oA 22 8] fun K hK => ?_
  try simp
  repeat' first | (refine evL_c ?_; simp [hnx, hm2, hq2]) | (with_reducible first | apply aI | intro _ | assumption) | omega
  all_goals (apply Fin.go hK; clear hK K)
  simp only [tN]
  refine Run.vir 901 1 (by omega) ?_
  simp
  refine Run.vir 902 3 (by omega) ?_
  simp
  refine Run.subB 2300 7 (.rs 901 1 0 0) rfl rfl (nil_rs 901 1) ?_
  simp
  refine Run.subB 2300 8 (.rs 902 3 0 0) rfl rfl (nil_rs 902 3) ?_
  simp
  apply Run.seq
  refine opsT [oM 8 23, oL 48 2 24, oC 33 #[.tmp 23, .tmp 24] #[90, 48] 25, ⟨.alloc 41, some 9, none⟩, oS 41 9 25] fun K hK => ?_
  try simp
  repeat' first | (refine ecallW [2300, 901, 902] (by exact H) (by simp) (by simp) rfl ?_) | (refine evL_c ?_; simp [hnx, hm2, hq2]) | (with_reducible first | apply aI | intro _ | assumption) | omega
  all_goals (apply Fin.go hK; clear hK K)
  simp only [tN]
  refine Run.fra 2605 ?_
  simp [V.fra, V.fraL, Blk.fra, fraS, frz, List.take_of_length_le, hnx]
  apply Run.seq
  refine opsF [oM 8 26, oM 8 27, oV 27 28, oF 92 28 1 29, oF 25 29 1 30, oL 23 30 31, oL 41 9 32, ⟨.buildSlice 23 1 #[(0, .tmp 32)], some 33, none⟩, ⟨.call { callee := .builtin .append, args := #[.tmp 31, .tmp 33], argTypes := #[23, 23] }, some 34, none⟩, oV 26 35, oF 92 35 1 36, oF 25 36 1 37, oS 23 37 34] fun K hK => ?_
  try simp
  repeat' first | (refine evL_c ?_; simp [hnx, hm2, hq2]) | (with_reducible first | apply aI | intro _ | assumption) | omega
  all_goals (apply Fin.go hK; clear hK K)
  simp only [tN]
  apply Run.seq
  refine opsF [oM 8 38, oV 38 39, oF 92 39 1 40, oL 25 40 41, oS 25 4 41, ⟨.assign (.const (.int .i64 0)), some 5, none⟩] fun K hK => ?_
  try simp
  repeat' first | (refine evL_c ?_; simp [hnx, hm2, hq2]) | (with_reducible first | apply aI | intro _ | assumption) | omega
  all_goals (apply Fin.go hK; clear hK K)
  simp only [tN]
  apply Run.ret
  try simp only [Then_ret, Blok_ret]
  simp [encW, hnx, hm2, hq2, List.take_of_length_le]
def compT (c : CoreT) (p : PlanT) : List (List Int) × List PipeC := ((pipeT c p ([], [])).2.1, (pipeT c p ([], [])).2.2 ++ [(pipeT c p ([], [])).1])
theorem CompileN_ok (c : CoreT) (p : PlanT) (hf : partsP p ≤ 1100000) (h : ¬ (patS c.nodes c.edges = true ∧ (bndT c p).isSome = true)) : ∃ n : Int, n ≠ 0 ∧ (patS c.nodes c.edges = true → n = 131) ∧ Snd P 17 [.d (.ag (encP p)), .d (.ag (encC c))] (.tup [.d (.ag [nilD, nilD]), .int n]) [] := by
 refine ⟨(boundD c p).2, ?_, fun hP => ?_, compN_ok c p _ _ (Bound_ok c p hf) ?_⟩
 ·unfold boundD
  cases hP : patS c.nodes c.edges with
  | false => simp
  | true =>
    cases hb : bndT c p with
    | none => simp
    | some b => exact absurd ⟨hP, by rw [hb]; rfl⟩ h
 ·unfold boundD
  rw [if_pos hP]
  cases hb : bndT c p with
  | none => rfl
  | some b => exact absurd ⟨hP, by rw [hb]; rfl⟩ h
 ·unfold boundD
  cases hP : patS c.nodes c.edges with
  | false => simp
  | true =>
    cases hb : bndT c p with
    | none => simp
    | some b => exact absurd ⟨hP, by rw [hb]; rfl⟩ h
end Go.Proofs.Ytimgbdkgjfbhkaa.Z
end
section
namespace Go.Proofs.Ytimgbdkgjfbhkaa.Z
open Go Go.Fw
def stepZ (p : PlanT) : StepR :=
 if p.op = 2 then ⟨1, 0, p.edges, p.back, [], 0⟩
 else if p.op = 3 then ⟨2, 0, p.edges, p.back, [], 0⟩
 else if p.op = 5 then ⟨3, p.slot, p.edges, false, [], 0⟩
 else ⟨4, 0, [], false, p.terms, 0⟩
def toK (s : StepR) : StepC := ⟨s.op, s.slot, if s.op = 4 ∨ s.op = 5 then nilD else .sl false (s.edges.map encI), s.back, if s.op = 4 then .sl false (s.terms.map encT) else nilD, s.table⟩
def toW (x : PipeR) : PipeC := ⟨x.scan, x.steps.map toK, x.sink⟩
abbrev StQ := List (List Int) × List PipeR
def onQ (x : PipeR) (s : StepR) : PipeR := ⟨x.scan, x.steps ++ [s], x.sink⟩
def probeQ (n : Int) : StepR := ⟨5, 0, [], false, [], n⟩
def keysQ (c : CoreT) (p : PlanT) : List Int := keyN ((bndT c (rdI p.kids 0)).getD []) ((bndT c (rdI p.kids 1)).getD []) (c.nodes.length + c.edges.length)
def pipeOQ (c : CoreT) (p : PlanT) (xs : List PipeR) (st : StQ) : PipeR × StQ :=
 if p.op = 1 then (⟨p.slot, [], -1⟩, st)
 else if p.op = 4 then (onQ (xs.getD 0 default) (probeQ st.1.length), (st.1 ++ [keysQ c p], st.2 ++ [⟨(xs.getD 1 default).scan, (xs.getD 1 default).steps, st.1.length⟩]))
 else (onQ (xs.getD 0 default) (stepZ p), st)
mutual
def pipeQ (c : CoreT) : PlanT → StQ → PipeR × StQ
 | .mk o k s e b t, st => pipeOQ c (.mk o k s e b t) (pipeQL c k st).1 (pipeQL c k st).2
def pipeQL (c : CoreT) : List PlanT → StQ → List PipeR × StQ
 | [], st => ([], st)
 | p :: r, st => ((pipeQ c p st).1 :: (pipeQL c r (pipeQ c p st).2).1, (pipeQL c r (pipeQ c p st).2).2)
end
theorem pipeQ_eq (c : CoreT) (p : PlanT) (st : StQ) : pipeQ c p st = pipeOQ c p (pipeQL c p.kids st).1 (pipeQL c p.kids st).2 := by cases p; rw [pipeQ]; rfl
def stC (st : StQ) : StC := (st.1, st.2.map toW)
theorem toK_step (p : PlanT) : toK (stepZ p) = stepO p := by
 unfold stepZ stepO
 by_cases h2 : p.op = 2
 ·simp [h2, toK]
 by_cases h3 : p.op = 3
 ·simp [h3, toK]
 by_cases h5 : p.op = 5
 ·simp [h5, toK]
 simp [h2, h3, h5, toK]
theorem toW_get (xs : List PipeR) (i : Nat) : (xs.map toW).getD i default = toW (xs.getD i default) := by
 simp only [List.getD_eq_getElem?_getD, List.getElem?_map]
 cases xs[i]? <;> rfl
theorem pipeOQ_C (c : CoreT) (p : PlanT) (xs : List PipeR) (st : StQ) : pipeO c p (xs.map toW) (stC st) = (toW (pipeOQ c p xs st).1, stC (pipeOQ c p xs st).2) := by
 unfold pipeO pipeOQ
 split
 ·rfl
 split
 ·rw [toW_get, toW_get]
  simp [stC, toW, onC, onQ, probeQ, toK, keysQ]
 ·rw [toW_get]
  simp [stC, toW, onC, onQ, toK_step]
mutual
theorem pipeQ_C (c : CoreT) : ∀ (p : PlanT) (st : StQ), pipeT c p (stC st) = (toW (pipeQ c p st).1, stC (pipeQ c p st).2)
 | .mk o k s e b t, st => by
   rw [pipeT, pipeQ, pipeQL_C c k st]
   exact pipeOQ_C c _ _ _
theorem pipeQL_C (c : CoreT) : ∀ (l : List PlanT) (st : StQ), pipeL c l (stC st) = ((pipeQL c l st).1.map toW, stC (pipeQL c l st).2)
 | [], st => by rw [pipeL, pipeQL]; rfl
 | p :: r, st => by
   rw [pipeL, pipeQL, pipeQ_C c p st]
   simp only
   rw [pipeQL_C c r _]
   rfl
end
def bareO (p : PlanT) (ks : List PlanT) : PlanT :=
 if p.op = 1 then .mk p.op ks p.slot [] false []
 else if p.op = 2 ∨ p.op = 3 then .mk p.op ks 0 p.edges p.back []
 else if p.op = 5 then .mk p.op ks p.slot p.edges false []
 else if p.op = 6 then .mk p.op ks 0 [] false p.terms
 else .mk p.op ks 0 [] false []
mutual
def bareT : PlanT → PlanT
 | .mk o k s e b t => bareO (.mk o k s e b t) (bareL k)
def bareL : List PlanT → List PlanT
 | [] => []
 | p :: r => bareT p :: bareL r
end
theorem bareT_eq (p : PlanT) : bareT p = bareO p (bareL p.kids) := by cases p; rw [bareT]; rfl
theorem bareL_eq (l : List PlanT) : bareL l = l.map bareT := by
 induction l with
 | nil => rw [bareL]; rfl
 | cons p r ih => rw [bareL, ih]; rfl
theorem bareO_op (p : PlanT) (ks : List PlanT) : (bareO p ks).op = p.op ∧ (bareO p ks).kids = ks := by
 unfold bareO
 split
 ·exact ⟨rfl, rfl⟩
 split
 ·exact ⟨rfl, rfl⟩
 split
 ·exact ⟨rfl, rfl⟩
 split
 ·exact ⟨rfl, rfl⟩
 ·exact ⟨rfl, rfl⟩
theorem wants_cases {o : Int} {n : Nat} (h : wants o = some n) : o = 1 ∨ o = 2 ∨ o = 3 ∨ o = 4 ∨ o = 5 ∨ o = 6 := by
 unfold wants at h
 by_cases h1 : o = 1
 ·exact .inl h1
 by_cases h2 : o = 2
 ·exact .inr (.inl h2)
 by_cases h3 : o = 3
 ·exact .inr (.inr (.inl h3))
 by_cases h4 : o = 4
 ·exact .inr (.inr (.inr (.inl h4)))
 by_cases h5 : o = 5
 ·exact .inr (.inr (.inr (.inr (.inl h5))))
 by_cases h6 : o = 6
 ·exact .inr (.inr (.inr (.inr (.inr h6))))
 ·simp [h1, h2, h3, h4, h5, h6] at h
theorem bare_opS (c : CoreT) (p : PlanT) (ks : List PlanT) (bs : List (List Bool)) (n : Nat) (h : wants p.op = some n) : opS c (bareO p ks) bs = opS c p bs := by
 obtain ⟨o, k, s, e, b, t⟩ := p
 have hc := wants_cases h
 change o = 1 ∨ o = 2 ∨ o = 3 ∨ o = 4 ∨ o = 5 ∨ o = 6 at hc
 rcases hc with rfl | rfl | rfl | rfl | rfl | rfl
 all_goals first
  | rfl
  | (simp [bareO, opS, PlanT.op, PlanT.slot, PlanT.edges, PlanT.back, PlanT.terms, edgeB, edgeL, meetB, meetR, badSlot]; done)
  | (simp [bareO, opS, PlanT.op, PlanT.slot, PlanT.edges, PlanT.back, PlanT.terms, edgeB, edgeL, meetB, meetR, badSlot]; rfl)
mutual
theorem bare_bnd (c : CoreT) : ∀ p : PlanT, bndT c (bareT p) = bndT c p
 | .mk o k s e b t => by
   have hk := bareO_op (.mk o k s e b t) (bareL k)
   rw [bndT_eq, bareT, hk.1, hk.2, bareL_eq, List.length_map, ← bareL_eq, bndL_bare c k, bndT]
   change (if wants o = some k.length then _ else _) = _
   split
   ·rename_i h
    congr 1
    funext bs
    exact bare_opS c _ _ bs _ h
   ·rfl
theorem bndL_bare (c : CoreT) : ∀ l : List PlanT, bndL c (bareL l) = bndL c l
 | [] => by rw [bareL]
 | p :: r => by rw [bareL, bndL, bndL, bare_bnd c p, bndL_bare c r]
end
theorem bare_one {p : PlanT} (h : p.kids.length = 1) : bareT p = bareO p [bareT (rdI p.kids 0)] := by
 obtain ⟨q, hq⟩ := List.length_eq_one_iff.1 h
 rw [bareT_eq, hq]; rfl
theorem bare_two {p : PlanT} (h : p.kids.length = 2) : bareT p = bareO p [bareT (rdI p.kids 0), bareT (rdI p.kids 1)] := by
 obtain ⟨q, r, hq⟩ := len_two h
 rw [bareT_eq, hq]; rfl
theorem pipeQ_one {c : CoreT} {p : PlanT} (h : p.kids.length = 1) (st : StQ) : pipeQ c p st = pipeOQ c p [(pipeQ c (rdI p.kids 0) st).1] (pipeQ c (rdI p.kids 0) st).2 := by
 obtain ⟨q, hq⟩ := List.length_eq_one_iff.1 h
 rw [pipeQ_eq, hq]; rfl
theorem pipeQ_two {c : CoreT} {p : PlanT} (h : p.kids.length = 2) (st : StQ) : pipeQ c p st = pipeOQ c p [(pipeQ c (rdI p.kids 0) st).1, (pipeQ c (rdI p.kids 1) (pipeQ c (rdI p.kids 0) st).2).1] (pipeQ c (rdI p.kids 1) (pipeQ c (rdI p.kids 0) st).2).2 := by
 obtain ⟨q, r, hq⟩ := len_two h
 rw [pipeQ_eq, hq]; rfl
theorem stepsS_snoc {c : CoreT} {tabs : List (List Int)} {ps : List PlanT} {i : Int} {s : StepR} {q q2 : PlanT} {l' l2 : List Int} (h2 : stepS c tabs ps i l' q s = (some q2, l2)) (h3 : (bndT c q2).isSome = true) : ∀ (a : List StepR) (l : List Int) (p : PlanT), stepsS c tabs ps i l p a = (some q, l') → stepsS c tabs ps i l p (a ++ [s]) = (some q2, l2)
 | [], l, p, h => by
   rw [stepsS] at h
   obtain ⟨h4, h5⟩ := Prod.mk.inj h
   obtain rfl := Option.some.inj h4
   subst h5
   rw [List.nil_append, stepsS, h2]
   simp only
   rw [if_pos h3, stepsS]
 | x :: a, l, p, h => by
   rw [stepsS] at h
   rw [List.cons_append, stepsS]
   rcases he : stepS c tabs ps i l p x with ⟨o, l3⟩
   rw [he] at h
   cases o with
   | none => cases h
   | some q3 =>
     simp only at h ⊢
     split at h
     ·rename_i hb
      rw [if_pos hb]
      exact stepsS_snoc h2 h3 a l3 q3 h
     ·cases h
theorem overP_bare {p : PlanT} {k : PlanT} (hop : p.op = 2 ∨ p.op = 3 ∨ p.op = 5 ∨ p.op = 6) : (stepZ p).op ≠ 5 ∧ overP k (stepZ p) = bareO p [k] := by
 obtain ⟨o, ks, s, e, b, t⟩ := p
 change o = 2 ∨ o = 3 ∨ o = 5 ∨ o = 6 at hop
 rcases hop with rfl | rfl | rfl | rfl
 all_goals simp [stepZ, overP, bareO, stepPl, PlanT.op, PlanT.slot, PlanT.edges, PlanT.back, PlanT.terms]
def PipeLaw (c : CoreT) (p : PlanT) (st : StQ) : Prop := ∃ (Tn : List (List Int)) (Pn : List PipeR) (Qn : List PlanT) (an ax : List Int),
 (pipeQ c p st).2 = (st.1 ++ Tn, st.2 ++ Pn) ∧ Tn.length = Pn.length ∧ Qn.length = Pn.length ∧ (pipeQ c p st).1.sink = -1 ∧ (bndT c (scanT (pipeQ c p st).1.scan)).isSome = true ∧
 (∀ t ∈ an ++ ax, (st.1.length : Int) ≤ t ∧ t < ((st.1.length + Tn.length : Nat) : Int)) ∧ (an ++ ax).Nodup ∧ (an ++ ax).length = Tn.length ∧
 ∀ T : List (List Int), (∀ k : Nat, k < Tn.length → rdI T ((st.1.length + k : Nat) : Int) = rdI Tn (k : Nat)) → st.1.length + Tn.length ≤ T.length →
  (∀ (PS : List PlanT) (AK : List Int), PS.length = st.1.length → (∀ t ∈ AK, t < (st.1.length : Int)) → pipesS c T PS AK Pn = (PS ++ Qn, AK ++ an, true)) ∧
  (∀ (PS' : List PlanT) (i : Int) (l : List Int), (∀ k : Nat, k < Qn.length → rdI PS' ((st.1.length + k : Nat) : Int) = rdI Qn (k : Nat)) → ((st.1.length + Tn.length : Nat) : Int) ≤ i → (∀ t ∈ l, t ∉ ax) →
    stepsS c T PS' i l (scanT (pipeQ c p st).1.scan) (pipeQ c p st).1.steps = (some (bareT p), l ++ ax))
theorem law_scan {c : CoreT} {p : PlanT} (hop : p.op = 1) (hr : (bndT c p).isSome = true) (st : StQ) : PipeLaw c p st := by
 have hk : p.kids = [] := by
  have h := bnd_wants hr
  rw [hop] at h
  have h2 : some p.kids.length = some 0 := h.symm
  exact List.length_eq_zero_iff.1 (Option.some.inj h2)
 have hb : bareT p = scanT p.slot := by
  rw [bareT_eq, hk, bareL, bareO, if_pos hop, hop]; rfl
 have hq : pipeQ c p st = (⟨p.slot, [], -1⟩, st) := by rw [pipeQ_eq, hk, pipeQL, pipeOQ, if_pos hop]
 refine ⟨[], [], [], [], [], by rw [hq]; simp, rfl, rfl, by rw [hq], ?_, by simp, by simp, rfl, fun T hT hl => ⟨fun PS AK h1 h2 => by rw [pipesS]; simp, fun PS' i l h1 h2 h3 => by rw [hq]; simp only; rw [stepsS, hb]; simp⟩⟩
 rw [hq]
 simp only
 rw [← hb, bare_bnd]; exact hr
theorem law_one {c : CoreT} {p : PlanT} (hop : p.op = 2 ∨ p.op = 3 ∨ p.op = 5 ∨ p.op = 6) (hk : p.kids.length = 1) (hr : (bndT c p).isSome = true) (st : StQ) (IH : PipeLaw c (rdI p.kids 0) st) : PipeLaw c p st := by
 obtain ⟨Tn, Pn, Qn, an, ax, h1, h2, h3, h4, h5, h6, h7, h8, h9⟩ := IH
 obtain ⟨g1, g2⟩ := overP_bare (k := bareT (rdI p.kids 0)) hop
 have hq : pipeQ c p st = (onQ (pipeQ c (rdI p.kids 0) st).1 (stepZ p), (pipeQ c (rdI p.kids 0) st).2) := by
  rw [pipeQ_one hk, pipeOQ, if_neg (by omega), if_neg (by omega)]; rfl
 refine ⟨Tn, Pn, Qn, an, ax, by rw [hq]; exact h1, h2, h3, by rw [hq]; exact h4, by rw [hq]; exact h5, h6, h7, h8, fun T hT hl => ?_⟩
 obtain ⟨hA, hB⟩ := h9 T hT hl
 refine ⟨hA, fun PS' i l k1 k2 k3 => ?_⟩
 rw [hq]
 have hbare := bare_one hk
 refine stepsS_snoc (q := bareT (rdI p.kids 0)) (l' := l ++ ax) ?_ (by rw [bare_bnd]; exact hr) _ _ _ (hB PS' i l k1 k2 k3)
 rw [stepS, if_neg g1, g2, hbare]
theorem rdI_app2 {α : Type} [Inhabited α] {l m : List α} {n k : Nat} (h : l.length = n) : rdI (l ++ m) ((n + k : Nat) : Int) = rdI m (k : Nat) := by
 subst h
 rw [rdI, rdI, Int.toNat_natCast, Int.toNat_natCast, List.getD_eq_getElem?_getD, List.getD_eq_getElem?_getD, List.getElem?_append_right (by omega), Nat.add_sub_cancel_left]
theorem rdI_app1 {α : Type} [Inhabited α] {l m : List α} {k : Nat} (h : k < l.length) : rdI (l ++ m) (k : Int) = rdI l (k : Nat) := rdI_app (by omega) (by omega)
theorem kids_ltQ {p q : PlanT} (h : q ∈ p.kids) : SizeOf.sizeOf q < SizeOf.sizeOf p := by
 obtain ⟨o, k, s, e, b, t⟩ := p
 have := List.sizeOf_lt_of_mem h
 simp only [PlanT.kids] at this
 simp only [PlanT.mk.sizeOf_spec]
 omega
theorem law_join {c : CoreT} {p : PlanT} (hop : p.op = 4) (hk : p.kids.length = 2) (hr : (bndT c p).isSome = true) (st : StQ) (IH0 : PipeLaw c (rdI p.kids 0) st) (IH1 : ∀ st, PipeLaw c (rdI p.kids 1) st) : PipeLaw c p st := by
 obtain ⟨T0, P0, Q0, a0, ax, h1, h2, h3, h4, h5, h6, h7, h8, h9⟩ := IH0
 obtain ⟨T1, P1, Q1, a1, ay, i1, i2, i3, i4, i5, i6, i7, i8, i9⟩ := IH1 (pipeQ c (rdI p.kids 0) st).2
 rw [h1] at i1 i6 i9
 simp only at i1 i6 i9
 have hq : pipeQ c p st = (onQ (pipeQ c (rdI p.kids 0) st).1 (probeQ ((st.1 ++ T0 ++ T1).length)), (st.1 ++ T0 ++ T1 ++ [keysQ c p], st.2 ++ P0 ++ P1 ++ [⟨(pipeQ c (rdI p.kids 1) (pipeQ c (rdI p.kids 0) st).2).1.scan, (pipeQ c (rdI p.kids 1) (pipeQ c (rdI p.kids 0) st).2).1.steps, (st.1 ++ T0 ++ T1).length⟩])) := by
  rw [pipeQ_two hk, pipeOQ, if_neg (by omega), if_pos hop, h1, i1]
  rfl
 obtain ⟨y, hy⟩ : ∃ y, (pipeQ c (rdI p.kids 1) (pipeQ c (rdI p.kids 0) st).2).1 = y := ⟨_, rfl⟩
 obtain ⟨x, hx⟩ : ∃ x, (pipeQ c (rdI p.kids 0) st).1 = x := ⟨_, rfl⟩
 have hst : (st.1 ++ T0, st.2 ++ P0) = (pipeQ c (rdI p.kids 0) st).2 := h1.symm
 rw [hy] at hq i4 i5
 rw [hst, hy] at i9
 rw [hx] at hq h4 h5 h9
 obtain ⟨n0, hn0⟩ : ∃ n, st.1.length = n := ⟨_, rfl⟩
 obtain ⟨m0, hm0⟩ : ∃ n, T0.length = n := ⟨_, rfl⟩
 obtain ⟨m1, hm1⟩ : ∃ n, T1.length = n := ⟨_, rfl⟩
 simp only [List.length_append, hn0, hm0, hm1] at hq h2 h3 h6 h8 h9 i2 i3 i6 i8 i9
 have nd : ∀ {a b : List Int}, (a ++ b).Nodup → a.Nodup ∧ b.Nodup ∧ ∀ t ∈ a, t ∉ b := fun h => by
  have := List.nodup_append.1 h
  exact ⟨this.1, this.2.1, fun t ht hb => this.2.2 t ht t hb rfl⟩
 obtain ⟨k1, k2, k3⟩ := nd h7
 obtain ⟨l1, l2, l3⟩ := nd i7
 have r0 : ∀ t, t ∈ a0 ∨ t ∈ ax → (n0 : Int) ≤ t ∧ t < ((n0 + m0 : Nat) : Int) := fun t ht => h6 t (by simpa using ht)
 have r1 : ∀ t, t ∈ a1 ∨ t ∈ ay → ((n0 + m0 : Nat) : Int) ≤ t ∧ t < ((n0 + m0 + m1 : Nat) : Int) := fun t ht => i6 t (by simpa using ht)
 refine ⟨T0 ++ T1 ++ [keysQ c p], P0 ++ P1 ++ [⟨y.scan, y.steps, (n0 + m0 + m1 : Nat)⟩], Q0 ++ Q1 ++ [bareT (rdI p.kids 1)], a0 ++ a1 ++ ay, ax ++ [((n0 + m0 + m1 : Nat) : Int)], ?_, ?_, ?_, ?_, ?_, ?_, ?_, ?_, ?_⟩
 ·rw [hq]; simp
 ·simp only [List.length_append, List.length_singleton]; omega
 ·simp only [List.length_append, List.length_singleton]; omega
 ·rw [hq]; exact h4
 ·rw [hq]; exact h5
 ·intro t ht
  simp only [List.mem_append, List.mem_singleton, List.length_append, List.length_singleton] at ht ⊢
  rw [hn0, hm0, hm1]
  rcases ht with ((ht | ht) | ht) | (ht | ht)
  ·have := r0 t (.inl ht); omega
  ·have := r1 t (.inl ht); omega
  ·have := r1 t (.inr ht); omega
  ·have := r0 t (.inr ht); omega
  ·omega
 ·have dj : ∀ {a b : List Int}, a.Nodup → b.Nodup → (∀ t ∈ a, t ∉ b) → (a ++ b).Nodup := fun h1 h2 h3 => List.nodup_append.2 ⟨h1, h2, fun t ht u hu e => h3 t ht (e ▸ hu)⟩
  refine dj (dj (dj k1 l1 ?_) l2 ?_) (dj k2 (by simp) ?_) ?_
  ·intro t ht hu; have := r0 t (.inl ht); have := r1 t (.inl hu); omega
  ·intro t ht hu
   rcases List.mem_append.1 ht with ht | ht
   ·have := r0 t (.inl ht); have := r1 t (.inr hu); omega
   ·exact l3 t ht hu
  ·intro t ht hu; have := r0 t (.inr ht); simp at hu; omega
  ·intro t ht hu
   simp only [List.mem_append, List.mem_singleton] at ht hu
   rcases ht with (ht | ht) | ht <;> rcases hu with hu | hu
   ·exact k3 t ht hu
   ·have := r0 t (.inl ht); omega
   ·have := r1 t (.inl ht); have := r0 t (.inr hu); omega
   ·have := r1 t (.inl ht); omega
   ·have := r1 t (.inr ht); have := r0 t (.inr hu); omega
   ·have := r1 t (.inr ht); omega
 ·simp only [List.length_append, List.length_singleton] at h8 i8 ⊢; omega
 ·intro T hT hl
  simp only [List.length_append, List.length_singleton, hn0, hm0, hm1] at hT hl
  have hT0 : ∀ k : Nat, k < m0 → rdI T ((n0 + k : Nat) : Int) = rdI T0 (k : Nat) := fun k hk => by
   rw [hT k (by omega), rdI_app1 (by simp only [List.length_append]; omega), rdI_app1 (by omega)]
  have hT1 : ∀ k : Nat, k < m1 → rdI T ((n0 + m0 + k : Nat) : Int) = rdI T1 (k : Nat) := fun k hk => by
   rw [show n0 + m0 + k = n0 + (m0 + k) by omega, hT (m0 + k) (by omega), rdI_app1 (by simp only [List.length_append]; omega), rdI_app2 hm0]
  have hT2 : rdI T ((n0 + m0 + m1 : Nat) : Int) = keysQ c p := by
   rw [show n0 + m0 + m1 = n0 + (m0 + m1) by omega, hT (m0 + m1) (by omega), show ((m0 + m1 : Nat) : Int) = ((m0 + m1 + 0 : Nat) : Int) by simp, rdI_app2 (by simp only [List.length_append]; omega)]
   rfl
  obtain ⟨hA0, hB0⟩ := h9 T hT0 (by omega)
  obtain ⟨hA1, hB1⟩ := i9 T hT1 (by omega)
  have hQ1 : ∀ {PS : List PlanT}, PS.length = n0 → ∀ k : Nat, k < m1 → rdI (PS ++ Q0 ++ Q1) ((n0 + m0 + k : Nat) : Int) = rdI Q1 (k : Nat) := fun {PS} hPS k hk => rdI_app2 (by simp only [List.length_append]; omega)
  refine ⟨fun PS AK hPS hAK => ?_, fun PS' i l q1 q2 q3 => ?_⟩
  ·rw [hn0] at hPS hAK
   have e0 := hA0 PS AK (by omega) hAK
   have e1 := hA1 (PS ++ Q0) (AK ++ a0) (by simp only [List.length_append]; omega) (fun t ht => by
    rcases List.mem_append.1 ht with ht | ht
    ·have := hAK t ht; omega
    ·exact (r0 t (.inl ht)).2)
   have e2 := hB1 (PS ++ Q0 ++ Q1) (n0 + m0 + m1 : Nat) (AK ++ a0 ++ a1) (fun k hk => hQ1 (by omega) k (by omega)) (by omega) (fun t ht hu => by
    have hu2 := r1 t (.inr hu)
    simp only [List.mem_append] at ht
    rcases ht with (ht | ht) | ht
    ·have := hAK t ht; omega
    ·have := r0 t (.inl ht); omega
    ·exact l3 t ht hu)
   have hlen : (PS ++ Q0 ++ Q1).length = n0 + m0 + m1 := by simp only [List.length_append]; omega
   have e3 : pipeS c T (PS ++ Q0 ++ Q1) (AK ++ a0 ++ a1) ⟨y.scan, y.steps, (n0 + m0 + m1 : Nat)⟩ = (some (bareT (rdI p.kids 1)), AK ++ a0 ++ a1 ++ ay) := by
    refine pipeS_mk ?_ i5 (by rw [hlen]; exact e2)
    unfold sinkS
    rw [hlen, if_neg (by omega)]
   rw [List.append_assoc, pipesS_app P0 PS AK (by rw [e0]), e0]
   simp only
   rw [pipesS_app P1 (PS ++ Q0) (AK ++ a0) (by rw [e1]), e1]
   simp only
   rw [pipesS_cons e3, pipesS]
   simp
  ·rw [hq]
   simp only [hn0] at q1 q2
   have e0 := hB0 PS' i l (fun k hk => by
    rw [q1 k (by simp only [List.length_append, List.length_singleton]; omega), rdI_app1 (by simp only [List.length_append]; omega), rdI_app1 (by omega)]) (by simp only [List.length_append, List.length_singleton, hm0, hm1] at q2; omega) (fun t ht hu => q3 t ht (by simp [hu]))
   have e1 : rdI PS' ((n0 + m0 + m1 : Nat) : Int) = bareT (rdI p.kids 1) := by
    rw [show n0 + m0 + m1 = n0 + (m0 + m1) by omega, q1 (m0 + m1) (by simp only [List.length_append, List.length_singleton]; omega), show ((m0 + m1 : Nat) : Int) = ((m0 + m1 + 0 : Nat) : Int) by simp, rdI_app2 (by simp only [List.length_append]; omega)]
    rfl
   have hbare := bare_two hk
   have e2 : bareT p = joinT (bareT (rdI p.kids 0)) (bareT (rdI p.kids 1)) := by
    rw [hbare, bareO, if_neg (by omega), if_neg (by omega), if_neg (by omega), if_neg (by omega), hop]; rfl
   refine stepsS_snoc (q := bareT (rdI p.kids 0)) (l' := l ++ ax) ?_ (by rw [bare_bnd]; exact hr) _ _ _ e0
   simp only [List.length_append, List.length_singleton, hm0, hm1, hn0] at q2
   have hnin : ((n0 + m0 + m1 : Nat) : Int) ∉ l ++ ax := fun h => by
    rcases List.mem_append.1 h with h | h
    ·exact q3 _ h (by simp)
    ·have := r0 _ (.inr h); omega
   have hkey : keysT c (bareT (rdI p.kids 0)) (bareT (rdI p.kids 1)) = keysQ c p := by
    unfold keysT keysQ
    rw [bare_bnd, bare_bnd]
   unfold stepS probeQ
   simp only [if_true]
   rw [if_neg (by rintro ((h | h) | h) <;> first | omega | exact hnin h), e1, hT2, hkey, if_pos ((eqJ_iff _ _).2 rfl), e2]
   simp
theorem pipe_law (c : CoreT) (p : PlanT) (hr : (bndT c p).isSome = true) (st : StQ) : PipeLaw c p st := by
 have hw := bnd_wants hr
 have hkid : ∀ i : Nat, i < p.kids.length → (bndT c (rdI p.kids (i : Nat))).isSome = true := fun i hi => bnd_kids hr _ (rdI_mem (by omega) (by omega))
 have hlt : ∀ i : Nat, i < p.kids.length → SizeOf.sizeOf (rdI p.kids (i : Nat)) < SizeOf.sizeOf p := fun i hi => kids_ltQ (rdI_mem (by omega) (by omega))
 rcases wants_cases hw with h | h | h | h | h | h
 ·exact law_scan h hr st
 ·have hk : p.kids.length = 1 := by rw [h] at hw; exact Option.some.inj (hw.symm)
  exact law_one (.inl h) hk hr st (by have := hlt 0 (by omega); exact pipe_law c _ (hkid 0 (by omega)) st)
 ·have hk : p.kids.length = 1 := by rw [h] at hw; exact Option.some.inj (hw.symm)
  exact law_one (.inr (.inl h)) hk hr st (by have := hlt 0 (by omega); exact pipe_law c _ (hkid 0 (by omega)) st)
 ·have hk : p.kids.length = 2 := by rw [h] at hw; exact Option.some.inj (hw.symm)
  exact law_join h hk hr st (by have := hlt 0 (by omega); exact pipe_law c _ (hkid 0 (by omega)) st) (fun st => by have := hlt 1 (by omega); exact pipe_law c _ (hkid 1 (by omega)) st)
 ·have hk : p.kids.length = 1 := by rw [h] at hw; exact Option.some.inj (hw.symm)
  exact law_one (.inr (.inr (.inl h))) hk hr st (by have := hlt 0 (by omega); exact pipe_law c _ (hkid 0 (by omega)) st)
 ·have hk : p.kids.length = 1 := by rw [h] at hw; exact Option.some.inj (hw.symm)
  exact law_one (.inr (.inr (.inr h))) hk hr st (by have := hlt 0 (by omega); exact pipe_law c _ (hkid 0 (by omega)) st)
termination_by SizeOf.sizeOf p
decreasing_by all_goals first | exact hlt 0 (by omega) | exact hlt 1 (by omega) | assumption
end Go.Proofs.Ytimgbdkgjfbhkaa.Z
end
section
namespace Go.Proofs.Ytimgbdkgjfbhkaa.Z
open Go Go.Fw
theorem edgesN_opQ (c : CoreT) : ∀ i, (edgesN c i).1.op ≠ 0
 | 0 => by rw [edgesN]; decide
 | i + 1 => by
   rw [edgesN, trEdge]
   show (if (rdI c.edges i).mode = 0 then (2 : Int) else 3) ≠ 0
   split <;> decide
theorem trJoin_opQ {s : TrS} {n : Int} (h : s.1.op ≠ 0) : (trJoin s n).1.op ≠ 0 := by
 unfold trJoin
 split
 ·exact h
 ·show (4 : Int) ≠ 0
  decide
theorem nodesN_opQ (c : CoreT) : ∀ i, (nodesN c i).1.op ≠ 0
 | 0 => by rw [nodesN]; exact edgesN_opQ c _
 | i + 1 => by rw [nodesN]; exact trJoin_opQ (nodesN_opQ c i)
theorem trans_opQ {c : CoreT} (h : patS c.nodes c.edges = true) : (transS c).op ≠ 0 := by
 have hf : ∀ {p : PlanT} {l : List TermT}, p.op ≠ 0 → (filtO p l).op ≠ 0 := fun {p l} h => by
  unfold filtO
  split
  ·exact h
  ·show (6 : Int) ≠ 0
   decide
 unfold transS
 rw [if_pos h]
 exact hf (hf (nodesN_opQ c _))
def compQ (c : CoreT) (p : PlanT) : ProgR := ⟨(pipeQ c p ([], [])).2.1, (pipeQ c p ([], [])).2.2 ++ [(pipeQ c p ([], [])).1]⟩
theorem compT_Q (c : CoreT) (p : PlanT) : compT c p = ((compQ c p).tabs, (compQ c p).pipes.map toW) := by
 have h := pipeQ_C c p ([], [])
 have e : stC ([], []) = ([], []) := rfl
 rw [e] at h
 unfold compT compQ
 rw [h]
 simp [stC]
theorem comp_plan {c : CoreT} {p : PlanT} (hP : patS c.nodes c.edges = true) (hr : (bndT c p).isSome = true) : planS c (compQ c p) = (bareT p, 0, 0) := by
 obtain ⟨Tn, Pn, Qn, an, ax, h1, h2, h3, h4, h5, h6, h7, h8, h9⟩ := pipe_law c p hr ([], [])
 obtain ⟨x, hx⟩ : ∃ x, (pipeQ c p ([], [])).1 = x := ⟨_, rfl⟩
 have hcq : compQ c p = ⟨Tn, Pn ++ [x]⟩ := by unfold compQ; rw [h1, hx]; simp
 rw [hx] at h4 h5 h9
 obtain ⟨hA, hB⟩ := h9 Tn (fun k hk => by simp) (by simp)
 have e1 := hA [] [] rfl (by simp)
 have e2 := hB Qn Tn.length an (fun k hk => by simp) (by simp) (fun t ht hu => (List.nodup_append.1 h7).2.2 t ht t hu rfl)
 have e3 : pipeS c Tn Qn an x = (some (bareT p), an ++ ax) := by
  refine pipeS_mk ?_ h5 (by rw [h3, ← h2]; exact e2)
  unfold sinkS
  rw [if_pos (by omega)]; exact h4
 have e4 : pipesS c Tn [] [] (Pn ++ [x]) = (Qn ++ [bareT p], an ++ ax, true) := by
  rw [pipesS_app Pn [] [] (by rw [e1]), e1]
  simp only [List.nil_append]
  rw [pipesS_cons e3, pipesS]
 rw [hcq]
 unfold planS
 rw [if_neg (trans_opQ hP), if_neg (by simp only [List.length_append, List.length_singleton]; omega)]
 simp only
 rw [e4]
 simp only
 have hlast : rdI (Qn ++ [bareT p]) (Tn.length : Nat) = bareT p := by
  rw [show ((Tn.length : Nat) : Int) = ((Tn.length + 0 : Nat) : Int) by simp, rdI_app2 (by omega)]; rfl
 rw [if_neg (by simp; simpa using Nat.not_lt.2 (Nat.le_of_eq h8.symm)), hlast]
mutual
def jnT : PlanT → Nat
 | .mk o k s e b t => (if o = 4 then 1 else 0) + jnL k
def jnL : List PlanT → Nat
 | [] => 0
 | p :: r => jnT p + jnL r
end
mutual
theorem pipeQ_tabs (c : CoreT) : ∀ (p : PlanT) (st : StQ), (bndT c p).isSome = true → (pipeQ c p st).2.1.length = st.1.length + jnT p
 | .mk o k s e b t, st, h => by
   have hL := pipeQL_tabs c k st (fun q hq => bnd_kids h q hq)
   rw [pipeQ, pipeOQ, jnT]
   change ((if o = 1 then _ else if o = 4 then _ else _ : PipeR × StQ)).2.1.length = _
   split
   ·rename_i h1
    have hw := bnd_wants h
    change wants o = some k.length at hw
    rw [h1] at hw
    have hk : k = [] := List.length_eq_zero_iff.1 (Option.some.inj (hw.symm : some k.length = some 0))
    subst hk
    simp [h1, jnL, pipeQL]
   ·split
    ·rename_i h4
     simp only [List.length_append, List.length_singleton, h4, if_true]
     rw [hL]; omega
    ·simp only [if_neg (by assumption : ¬ o = 4)]
     rw [hL]; omega
theorem pipeQL_tabs (c : CoreT) : ∀ (l : List PlanT) (st : StQ), (∀ q ∈ l, (bndT c q).isSome = true) → (pipeQL c l st).2.1.length = st.1.length + jnL l
 | [], st, _ => by rw [pipeQL, jnL]; rfl
 | p :: r, st, h => by
   rw [pipeQL, jnL]
   simp only
   rw [pipeQL_tabs c r _ (fun q hq => h q (List.mem_cons_of_mem _ hq)), pipeQ_tabs c p st (h p (by simp))]
   omega
end
def totJ : Nat → List PlanT → List Int → Nat
 | _, [], _ => 0
 | j, p :: r, l => (if (j : Int) ∈ l then 0 else jnT p + 1) + totJ (j + 1) r l
theorem totJ_app {l : List Int} (q : PlanT) : ∀ (ps : List PlanT) (j : Nat), ((j + ps.length : Nat) : Int) ∉ l → totJ j (ps ++ [q]) l = totJ j ps l + jnT q + 1
 | [], j, h => by
   simp only [List.nil_append, totJ]
   rw [if_neg (by simpa using h)]
   omega
 | p :: r, j, h => by
   simp only [List.cons_append, totJ]
   rw [totJ_app q r (j + 1) (by simp only [List.length_cons] at h; rw [show j + 1 + r.length = j + (r.length + 1) by omega]; exact h)]
   omega
theorem totJ_none {l : List Int} {t : Int} : ∀ (ps : List PlanT) (j : Nat), t < j → totJ j ps (l ++ [t]) = totJ j ps l
 | [], j, _ => rfl
 | p :: r, j, h => by
   simp only [totJ]
   rw [totJ_none r (j + 1) (by omega)]
   have : ((j : Int) ∈ l ++ [t]) ↔ (j : Int) ∈ l := by simp; omega
   simp only [this]
theorem totJ_ask {l : List Int} {t : Int} (ht : t ∉ l) : ∀ (ps : List PlanT) (j : Nat), (j : Int) ≤ t → t < j + ps.length → totJ j ps (l ++ [t]) + (jnT (rdI ps (t - j)) + 1) = totJ j ps l
 | [], j, h1, h2 => by simp at h2; omega
 | p :: r, j, h1, h2 => by
   simp only [totJ]
   by_cases e : (j : Int) = t
   ·subst e
    rw [totJ_none r (j + 1) (by omega)]
    simp only [List.mem_append, List.mem_singleton, or_true, if_true, if_neg ht]
    simp [rdI]; omega
   ·have h3 := totJ_ask ht r (j + 1) (by omega) (by simp at h2; omega)
    have h4 : rdI (p :: r) (t - j) = rdI r (t - (j + 1 : Nat)) := by
     have : (t - j).toNat = (t - (j + 1 : Nat)).toNat + 1 := by omega
     simp [rdI, this]
    have h5 : ((j : Int) ∈ l ++ [t]) ↔ (j : Int) ∈ l := by simp; omega
    simp only [h5]
    rw [h4]
    omega
theorem overP_jn (p : PlanT) (s : StepR) : jnT (overP p s) = jnT p := by
 unfold overP stepPl
 repeat' split
 all_goals simp [jnT, jnL]
theorem joinT_jn (p q : PlanT) : jnT (joinT p q) = 1 + (jnT p + jnT q) := by simp [joinT, jnT, jnL]
theorem stepS_jn {c : CoreT} {tabs : List (List Int)} {ps : List PlanT} {l l' : List Int} {p q : PlanT} {s : StepR} {i : Int} (hi : i ≤ ps.length) (h : stepS c tabs ps i l p s = (some q, l')) : jnT q + totJ 0 ps l' = jnT p + totJ 0 ps l := by
 unfold stepS at h
 split at h
 ·split at h
  ·cases h
  ·rename_i hb
   split at h
   ·cases h
    have h1 : s.table ∉ l := fun e => hb (.inr e)
    have := totJ_ask (l := l) h1 ps 0 (by simp; omega) (by omega)
    rw [joinT_jn]
    simp at this
    omega
   ·cases h
 ·cases h
  rw [overP_jn]
theorem stepsS_jn {c : CoreT} {tabs : List (List Int)} {ps : List PlanT} {i : Int} (hi : i ≤ ps.length) : ∀ (t : List StepR) (l l' : List Int) (p q : PlanT), stepsS c tabs ps i l p t = (some q, l') → jnT q + totJ 0 ps l' = jnT p + totJ 0 ps l
 | [], l, l', p, q, h => by rw [stepsS] at h; cases h; rfl
 | s :: t, l, l', p, q, h => by
   rw [stepsS] at h
   rcases he : stepS c tabs ps i l p s with ⟨o, l2⟩
   rw [he] at h
   cases o with
   | none => cases h
   | some q2 =>
     simp only at h
     split at h
     ·have h1 := stepS_jn hi he
      have h2 := stepsS_jn hi t l2 l' q2 q h
      omega
     ·cases h
theorem pipesS_jn {c : CoreT} {tabs : List (List Int)} : ∀ (t : List PipeR) (ps : List PlanT) (l : List Int), Askd ps.length l → totJ 0 ps l = ps.length → (pipesS c tabs ps l t).2.2 = true → totJ 0 (pipesS c tabs ps l t).1 (pipesS c tabs ps l t).2.1 = (pipesS c tabs ps l t).1.length
 | [], ps, l, _, h, _ => by rw [pipesS]; exact h
 | x :: t, ps, l, ha, h, hok => by
   obtain ⟨q, l', he⟩ := pipesS_right hok
   obtain ⟨-, -, hs⟩ := pipeS_sink he
   rw [pipesS_cons he] at hok ⊢
   have h1 := stepsS_jn (Int.le_refl _) _ _ _ _ _ hs
   have ha2 := stepsS_rng (c := c) (tabs := tabs) (ps := ps) (i := ps.length) (N := ps.length) (Int.le_refl _) x.steps l (scanT x.scan) ha
   rw [hs] at ha2
   simp only at ha2
   have h0 : jnT (scanT x.scan) = 0 := by simp [scanT, jnT, jnL]
   have hni : ((0 + ps.length : Nat) : Int) ∉ l' := fun hm => by have := ha2.2 _ hm; omega
   refine pipesS_jn t (ps ++ [q]) l' ⟨ha2.1, fun u hu => by have := ha2.2 u hu; simp; omega⟩ ?_ hok
   rw [totJ_app q ps 0 hni, List.length_append, List.length_singleton]
   omega
theorem totJ_last {l : List Int} : ∀ (ps : List PlanT) (j : Nat) (q : PlanT), (∀ t : Nat, j ≤ t → t < j + ps.length → (t : Int) ∈ l) → ((j + ps.length : Nat) : Int) ∉ l → totJ j (ps ++ [q]) l = jnT q + 1
 | [], j, q, _, h => by simp only [List.nil_append, totJ]; rw [if_neg (by simpa using h)]
 | p :: r, j, q, ha, h => by
   simp only [List.cons_append, totJ]
   rw [if_pos (ha j (Nat.le_refl _) (by simp)), totJ_last r (j + 1) q (fun t h1 h2 => ha t (by omega) (by simp only [List.length_cons]; omega)) (by simp only [List.length_cons] at h; rw [show j + 1 + r.length = j + (r.length + 1) by omega]; exact h)]
   omega
theorem askd_full : ∀ (N : Nat) (l : List Int), Askd N l → N ≤ l.length → ∀ t : Nat, t < N → (t : Int) ∈ l
 | 0, l, h, _, t, ht => by omega
 | N + 1, l, h, hl, t, ht => by
   by_cases hm : (N : Int) ∈ l
   ·by_cases e : t = N
    ·rw [e]; exact hm
    ·have ha : Askd N (l.erase (N : Int)) := ⟨h.1.erase _, fun t ht => by
      have ht2 := List.mem_of_mem_erase ht
      have := h.2 t ht2
      have hne : t ≠ N := fun e => by subst e; exact List.Nodup.not_mem_erase h.1 ht
      omega⟩
     have hlen := List.length_erase_of_mem hm
     have hpos : 0 < l.length := List.length_pos_of_mem hm
     exact List.mem_of_mem_erase (askd_full N _ ha (by omega) t (by omega))
   ·have h1 := asked_len N l ⟨h.1, fun t ht => by
     have := h.2 t ht
     have hne : t ≠ N := fun e => by subst e; exact hm ht
     omega⟩
    omega
def GoodZ (c : CoreT) (q : PlanT) : Prop := (bndT c q).isSome = true ∧ bareT q = q
theorem stepS_good {c : CoreT} {tabs : List (List Int)} {ps : List PlanT} {l l' : List Int} {p q : PlanT} {s : StepR} {i : Int} (hi : i ≤ ps.length) (hps : ∀ q ∈ ps, GoodZ c q) (hp : GoodZ c p) (h : stepS c tabs ps i l p s = (some q, l')) (hb : (bndT c q).isSome = true) : GoodZ c q := by
 refine ⟨hb, ?_⟩
 unfold stepS at h
 split at h
 ·split at h
  ·cases h
  ·rename_i h1
   split at h
   ·cases h
    have hm := hps _ (rdI_mem (l := ps) (i := s.table) (by omega) (by omega))
    rw [bareT_eq, joinT_kids, bareL_eq]
    simp only [List.map_cons, List.map_nil, hp.2, hm.2]
    rfl
   ·cases h
 ·cases h
  by_cases h1 : s.op = 1
  ·rw [bareT_eq]; simp [overP, h1, stepPl, bareO, bareL_eq, PlanT.op, PlanT.kids, PlanT.edges, PlanT.back, hp.2]
  by_cases h2 : s.op = 2
  ·rw [bareT_eq]; simp [overP, h2, stepPl, bareO, bareL_eq, PlanT.op, PlanT.kids, PlanT.edges, PlanT.back, hp.2]
  by_cases h3 : s.op = 3
  ·rw [bareT_eq]; simp [overP, h3, stepPl, bareO, bareL_eq, PlanT.op, PlanT.kids, PlanT.edges, PlanT.slot, hp.2]
  by_cases h4 : s.op = 4
  ·rw [bareT_eq]; simp [overP, h4, stepPl, bareO, bareL_eq, PlanT.op, PlanT.kids, PlanT.terms, hp.2]
  exfalso
  have e : overP p s = stepPl 0 p 0 [] false [] := by unfold overP; rw [if_neg h1, if_neg h2, if_neg h3, if_neg h4]
  rw [e, bndT_eq, if_neg (by simp [wants])] at hb
  cases hb
theorem stepsS_good {c : CoreT} {tabs : List (List Int)} {ps : List PlanT} {i : Int} (hi : i ≤ ps.length) (hps : ∀ q ∈ ps, GoodZ c q) : ∀ (t : List StepR) (l l' : List Int) (p q : PlanT), GoodZ c p → stepsS c tabs ps i l p t = (some q, l') → GoodZ c q
 | [], l, l', p, q, hp, h => by rw [stepsS] at h; cases h; exact hp
 | s :: t, l, l', p, q, hp, h => by
   rw [stepsS] at h
   rcases he : stepS c tabs ps i l p s with ⟨o, l2⟩
   rw [he] at h
   cases o with
   | none => cases h
   | some q2 =>
     simp only at h
     split at h
     ·rename_i hb; exact stepsS_good hi hps t l2 l' q2 q (stepS_good hi hps hp he hb) h
     ·cases h
theorem scanT_bare (n : Int) : bareT (scanT n) = scanT n := by rw [bareT_eq]; rfl
theorem pipesS_good {c : CoreT} {tabs : List (List Int)} : ∀ (t : List PipeR) (ps : List PlanT) (l : List Int), (∀ q ∈ ps, GoodZ c q) → (pipesS c tabs ps l t).2.2 = true → ∀ q ∈ (pipesS c tabs ps l t).1, GoodZ c q
 | [], ps, l, h, _ => by rw [pipesS]; exact h
 | x :: t, ps, l, h, hok => by
   obtain ⟨q, l', he⟩ := pipesS_right hok
   obtain ⟨-, hb, hs⟩ := pipeS_sink he
   rw [pipesS_cons he] at hok ⊢
   have hq := stepsS_good (Int.le_refl _) h _ _ _ _ _ ⟨hb, scanT_bare _⟩ hs
   refine pipesS_good t (ps ++ [q]) l' (fun u hu => ?_) hok
   rcases List.mem_append.1 hu with hu | hu
   ·exact h u hu
   ·rw [List.mem_singleton.1 hu]; exact hq
theorem plan_facts {c : CoreT} {r : ProgR} (h : (planS c r).2.2 = 0) : patS c.nodes c.edges = true ∧ (bndT c (planS c r).1).isSome = true ∧ bareT (planS c r).1 = (planS c r).1 ∧ jnT (planS c r).1 = r.tabs.length := by
 obtain ⟨h1, h2, h3⟩ := planS_right h
 have hP : patS c.nodes c.edges = true := by
  cases hp : patS c.nodes c.edges with
  | true => rfl
  | false => exact absurd (by unfold transS; rw [hp]; rfl) h1
 have hlen := pipesS_len (c := c) (tabs := r.tabs) r.pipes [] []
 have hgood := pipesS_good (c := c) (tabs := r.tabs) r.pipes [] [] (by simp) h3
 have hjn := pipesS_jn (c := c) (tabs := r.tabs) r.pipes [] [] ⟨by simp, by simp⟩ rfl h3
 have hrng := pipesS_rng (c := c) (tabs := r.tabs) (N := r.tabs.length) r.pipes [] [] (by simp; omega) ⟨by simp, by simp⟩
 unfold planS at h ⊢
 rw [if_neg h1, if_neg (by omega)] at h ⊢
 rcases hR : pipesS c r.tabs [] [] r.pipes with ⟨R1, R2, R3⟩
 rw [hR] at h h3 hlen hgood hjn hrng
 simp only at h h3 hlen hgood hjn hrng ⊢
 subst h3
 simp only [if_true, List.length_nil, Nat.zero_add] at hlen
 split
 ·rename_i hb; rw [if_pos hb] at h; cases h
 ·rename_i hb
  have hR2 : r.tabs.length ≤ R2.length := by simpa using hb
  have hm := hgood _ (rdI_mem (l := R1) (i := (r.tabs.length : Nat)) (by omega) (by omega))
  refine ⟨hP, hm.1, hm.2, ?_⟩
  have e1 : R1 = R1.take r.tabs.length ++ [rdI R1 (r.tabs.length : Nat)] := by
   rw [← take_rd (by omega), List.take_of_length_le (by omega)]
  have e2 : (R1.take r.tabs.length).length = r.tabs.length := by simp; omega
  have hl := totJ_last (l := R2) (R1.take r.tabs.length) 0 (rdI R1 (r.tabs.length : Nat)) (fun t _ ht => askd_full _ _ hrng hR2 t (by omega)) (fun hm => by
   rw [e2] at hm
   have := hrng.2 _ hm
   omega)
  rw [← e1, hjn] at hl
  show jnT (rdI R1 (r.tabs.length : Nat)) = r.tabs.length
  omega
theorem back_law {c : CoreT} {r : ProgR} (h : (planS c r).2.2 = 0) : planS c (compQ c (planS c r).1) = ((planS c r).1, 0, 0) ∧ (compQ c (planS c r).1).tabs.length = r.tabs.length := by
 obtain ⟨h1, h2, h3, h4⟩ := plan_facts h
 refine ⟨by rw [comp_plan h1 h2, h3], ?_⟩
 show (pipeQ c (planS c r).1 ([], [])).2.1.length = _
 rw [pipeQ_tabs c _ _ h2, h4]
 simp
end Go.Proofs.Ytimgbdkgjfbhkaa.Z
end
section
/- Values and terms that are alike: the program's, the document's. -/
namespace Go.Proofs.Ytimgbdkgjfbhkaa.Z
open Go Go.Fw
def eqIs : List Int → List Int → Bool
 | [], [] => true
 | x :: a, y :: b => decide (x = y) && eqIs a b
 | _, _ => false
theorem eqIs_len {a b : List Int} (h : a.length ≠ b.length) : eqIs a b = false := by
 induction a generalizing b with
 | nil => cases b <;> simp_all [eqIs]
 | cons x a ih =>
   cases b with
   | nil => rfl
   | cons y b => rw [eqIs, ih (by simpa using h), Bool.and_false]
theorem eqIs_step {a b : List Int} {i : Nat} (ha : i < a.length) (hb : i < b.length) : eqIs (a.drop i) (b.drop i) = (decide (rdI a i = rdI b i) && eqIs (a.drop (i + 1)) (b.drop (i + 1))) := by
 rw [drop_rd ha, drop_rd hb, eqIs]
def eqV (a b : ValT) : Bool := decide (a.kind = b.kind) && (a.bool == b.bool) && decide (a.num = b.num) && decide (a.text.toList = b.text.toList) && eqIs a.path b.path
set_option maxHeartbeats 4000000 in
theorem reqV_ok (a b : ValT) : Snd P 86 [.d (.ag (encV a)), .d (.ag (encV b))] (.bool (eqV a b)) [] := by
 refine Snd.ok 0 rfl (by kernel_rfl) fun hok => ?_
 have hma : a.path.length ≤ 9223372036854775807 := by
  simp only [encV, D.ok, D.okL, List.length_map] at hok
  exact hok.2.2.2.2.1.1
 clear hok
 obtain ⟨e1, he1⟩ : ∃ x, decide (a.kind = b.kind) = x := ⟨_, rfl⟩
 obtain ⟨e2, he2⟩ : ∃ x, (a.bool == b.bool) = x := ⟨_, rfl⟩
 obtain ⟨e3, he3⟩ : ∃ x, decide (a.num = b.num) = x := ⟨_, rfl⟩
 obtain ⟨e4, he4⟩ : ∃ x, decide (a.text.toList = b.text.toList) = x := ⟨_, rfl⟩
 obtain ⟨r, hr⟩ : ∃ x, eqV a b = x := ⟨_, rfl⟩
 have hv := hr
 rw [eqV, he1, he2, he3, he4] at hv
 rw [hr]
 obtain ⟨m, hm⟩ : ∃ m, a.path.length = m := ⟨_, rfl⟩
 obtain ⟨k, hk⟩ : ∃ m, b.path.length = m := ⟨_, rfl⟩
 rw [hm] at hma
 refine snd_of [] Try.func86 rfl (by kernel_rfl) Try.ntmps86 (by simp) ?_
 unfold Try.f86
 simp only [List.cons_append, List.nil_append, List.length_cons, List.length_nil, Nat.reduceAdd, Nat.reduceSub, List.replicate]
 apply Run.seq
 refine opsF [⟨.box 87 (.tmp 0), some 2, none⟩, ⟨.box 87 (.tmp 1), some 3, none⟩, ⟨.assign (.const (.bool false)), some 4, none⟩] fun K hK => ?_
 try simp
 repeat' first | (refine evL_c ?_; simp [encV, binS, he1, he2, he3, he4, hm, hk]) | (with_reducible first | apply aI | intro _ | assumption) | omega
 all_goals (apply Fin.go hK; clear hK K)
 simp only [tN]
 apply Run.seq
 apply Run.seq
 refine opsF [oF 87 2 4 6, oL 59 6 7, oN 59 7 8, oF 87 3 4 9, oL 59 9 10, oN 59 10 11, oB .neq 3 8 11 3 12] fun K hK => ?_
 try simp
 repeat' first | (refine evL_c ?_; simp [encV, binS, he1, he2, he3, he4, hm, hk]) | (with_reducible first | apply aI | intro _ | assumption) | omega
 all_goals (apply Fin.go hK; clear hK K)
 simp only [tN]
 refine Run.cond rfl (fun h12 => ?_) (fun h12 => ?_)
 ·try simp at h12
  have hf : eqIs a.path b.path = false := eqIs_len (by omega)
  apply Run.seq
  refine opsF oo11 fun K hK => ?_
  try simp
  repeat' first | (refine evL_c ?_; simp [encV, binS, he1, he2, he3, he4, hm, hk]) | (with_reducible first | apply aI | intro _ | assumption) | omega
  all_goals (apply Fin.go hK; clear hK K)
  simp only [tN]
  apply Run.ret
  try simp only [Then_ret, Blok_ret]
  rw [hf] at hv
  first
   | (simp_all; done)
   | (cases e1 <;> cases e2 <;> cases e3 <;> cases e4 <;> simp_all; done)
 ·try simp at h12
  have hkm : k = m := by omega
  subst hkm
  apply Run.skip
  simp only [tN]
  apply Run.seq
  apply Run.seq
  refine opsF oo70 fun K hK => ?_
  try simp
  repeat' first | (refine evL_c ?_; simp [encV, binS, he1, he2, he3, he4, hm, hk]) | (with_reducible first | apply aI | intro _ | assumption) | omega
  all_goals (apply Fin.go hK; clear hK K)
  simp only [tN]
  apply Run.block
  refine Run.loopO [4, 5, 13, 14, 15, 16, 17, 18, 19, 20, 21, 22, 23, 24, 25, 26, 27, 28, 29, 30] (fun (i : Nat) => [(5, .int i)]) (fun (i : Nat) => [(300, .vals ((encV a).map .d)), (400, .vals ((encV b).map .d))]) (fun (i : Nat) => i ≤ k ∧ eqIs a.path b.path = eqIs (a.path.drop i) (b.path.drop i)) (fun (i : Nat) => k - i) 0 ⟨by omega, rfl⟩ (by simp [encV]) fun i ⟨hi, hz⟩ => ?_
  simp only [over, List.foldl, List.set]
  apply Run.seq
  apply Run.seq
  refine opsF [oM 5 13, oF 87 2 4 14, oL 59 14 15, oN 59 15 16, oB .lss 3 13 16 3 17] fun K hK => ?_
  try simp
  repeat' first | (refine evL_c ?_; simp [encV, binS, he1, he2, he3, he4, hm, hk]) | (with_reducible first | apply aI | intro _ | assumption) | omega
  all_goals (apply Fin.go hK; clear hK K)
  simp only [tN]
  refine Run.cond rfl (fun h17 => ?_) (fun h17 => ?_)
  ·try simp at h17
   have hi1 : i < k := by omega
   apply Run.skip
   simp only [tN]
   apply Run.seq
   apply Run.block
   apply Run.seq
   refine opsF [oF 87 2 4 20, oL 59 20 21, oM 5 22, oI 59 21 22 23, oL 2 23 24, oF 87 3 4 25, oL 59 25 26, oM 5 27, oI 59 26 27 28, oL 2 28 29, oB .neq 2 24 29 2 30] fun K hK => ?_
   try simp
   repeat' first | (refine evL_c ?_; simp [encV, binS, he1, he2, he3, he4, hm, hk, hi1]) | (with_reducible first | apply aI | intro _ | assumption) | omega
   all_goals (apply Fin.go hK; clear hK K)
   simp only [tN]
   refine Run.cond rfl (fun h30 => ?_) (fun h30 => ?_)
   ·try simp at h30
    have hf : eqIs a.path b.path = false := by rw [hz, eqIs_step (by omega) (by omega), decide_eq_false h30]; rfl
    apply Run.seq
    refine opsF oo11 fun K hK => ?_
    try simp
    repeat' first | (refine evL_c ?_; simp [encV, binS, he1, he2, he3, he4, hm, hk, hi1]) | (with_reducible first | apply aI | intro _ | assumption) | omega
    all_goals (apply Fin.go hK; clear hK K)
    simp only [tN]
    apply Run.ret
    try simp only [Then_ret, Blok_ret]
    rw [hf] at hv
    first
     | (simp_all; done)
     | (cases e1 <;> cases e2 <;> cases e3 <;> cases e4 <;> simp_all; done)
   ·try simp at h30
    apply Run.skip
    simp only [Blok_normal]
    simp only [tN]
    refine opsF [oM 5 18, oK .add 3 18 1 3 19, oA 19 5] fun K hK => ?_
    try simp
    repeat' first | (refine evL_c ?_; simp [encV, binS, he1, he2, he3, he4, hm, hk, hi1]) | (with_reducible first | apply aI | intro _ | assumption) | omega
    all_goals (apply Fin.go hK; clear hK K)
    refine ⟨i + 1, ⟨by omega, by rw [hz, eqIs_step (by omega) (by omega), decide_eq_true h30]; rfl⟩, by omega, ?_⟩
    simp (disch := omega) [wrap_id, encV]
  ·try simp at h17
   have hf : eqIs a.path b.path = true := by rw [hz, show a.path.drop i = [] from List.drop_of_length_le (by omega), show b.path.drop i = [] from List.drop_of_length_le (by omega), eqIs]
   refine Run.exit ?_
   simp (decide := true) only [Then_exit, Blok_exit, if_true, if_false]
   simp only [tN]
   apply Run.seq
   refine opsF [oF 87 2 0 31, oL 85 31 32, oF 87 3 0 33, oL 85 33 34, oB .eql 85 32 34 85 35, oM 35 36, ⟨.fieldAddr 87 (.tmp 2) 1, some 37, some (some 36, true)⟩, ⟨.load 4 (.tmp 37), some 38, some (some 36, true)⟩, ⟨.fieldAddr 87 (.tmp 3) 1, some 39, some (some 36, true)⟩, ⟨.load 4 (.tmp 39), some 40, some (some 36, true)⟩, ⟨.binOp .eql 4 (.tmp 38) (.tmp 40) 4, some 41, some (some 36, true)⟩, ⟨.pick (.tmp 36) (.tmp 41) (.const (.bool false)), some 42, none⟩, oM 42 43, ⟨.fieldAddr 87 (.tmp 2) 2, some 44, some (some 43, true)⟩, ⟨.load 2 (.tmp 44), some 45, some (some 43, true)⟩, ⟨.fieldAddr 87 (.tmp 3) 2, some 46, some (some 43, true)⟩, ⟨.load 2 (.tmp 46), some 47, some (some 43, true)⟩, ⟨.binOp .eql 2 (.tmp 45) (.tmp 47) 2, some 48, some (some 43, true)⟩, ⟨.pick (.tmp 43) (.tmp 48) (.const (.bool false)), some 49, none⟩, oM 49 50, ⟨.fieldAddr 87 (.tmp 2) 3, some 51, some (some 50, true)⟩, ⟨.load 9 (.tmp 51), some 52, some (some 50, true)⟩, ⟨.fieldAddr 87 (.tmp 3) 3, some 53, some (some 50, true)⟩, ⟨.load 9 (.tmp 53), some 54, some (some 50, true)⟩, ⟨.binOp .eql 9 (.tmp 52) (.tmp 54) 9, some 55, some (some 50, true)⟩, ⟨.pick (.tmp 50) (.tmp 55) (.const (.bool false)), some 56, none⟩, oA 56 4] fun K hK => ?_
   try simp
   repeat' first | ((first | refine evL_c ?_ | (refine evL_g rfl ?_; try simp only [gs_tt, gs_ff, gs_tf, gs_ft]) | refine evL_u rfl ?_ | (with_reducible refine gsplit (fun hg => ?_) (fun hg => ?_) <;> try simp at hg)) <;> try simp [encV, binS, he1, he2, he3, he4, hm, hk]) | (with_reducible first | apply aI | intro _ | assumption) | omega
   all_goals (apply Fin.go hK; clear hK K)
   all_goals
    simp only [tN]
    apply Run.ret
    try simp only [Then_ret, Blok_ret]
    rw [hf] at hv
    first
     | (simp_all; done)
     | (cases e1 <;> cases e2 <;> cases e3 <;> cases e4 <;> simp_all; done)
end Go.Proofs.Ytimgbdkgjfbhkaa.Z
end
section
/- Terms that are alike. -/
namespace Go.Proofs.Ytimgbdkgjfbhkaa.Z
open Go Go.Fw
mutual
def eqT : TermT → TermT → Bool
 | .mk o k s n v, t => eqV v t.val && decide (o = t.op) && decide (s = t.slot) && decide (n.toList = t.prop.toList) && eqTs k t.kids
def eqTs : List TermT → List TermT → Bool
 | [], [] => true
 | x :: a, y :: b => eqT x y && eqTs a b
 | [], _ :: _ => false
 | _ :: _, [] => false
end
theorem eqT_eq (a b : TermT) : eqT a b = (eqV a.val b.val && decide (a.op = b.op) && decide (a.slot = b.slot) && decide (a.prop.toList = b.prop.toList) && eqTs a.kids b.kids) := by cases a; rw [eqT]; rfl
theorem eqTs_len {a b : List TermT} (h : a.length ≠ b.length) : eqTs a b = false := by
 induction a generalizing b with
 | nil => cases b with
   | nil => exact absurd rfl h
   | cons y b => rw [eqTs]
 | cons x a ih =>
   cases b with
   | nil => rw [eqTs]
   | cons y b => rw [eqTs, ih (by simpa using h), Bool.and_false]
theorem eqTs_step {a b : List TermT} {i : Nat} (ha : i < a.length) (hb : i < b.length) : eqTs (a.drop i) (b.drop i) = (eqT (rdI a i) (rdI b i) && eqTs (a.drop (i + 1)) (b.drop (i + 1))) := by
 rw [drop_rd ha, drop_rd hb, eqTs]
theorem reqTs1_ok (na nb : Bool) (a b : List TermT) (hp : ∀ i : Nat, i < a.length → i < b.length → Snd P 50 [.d (.ag (encT (rdI a i))), .d (.ag (encT (rdI b i)))] (.bool (eqT (rdI a i) (rdI b i))) []) : Snd P 31 [.d (.sl na (a.map encT)), .d (.sl nb (b.map encT))] (.bool (eqTs a b)) [] := by
 refine Snd.ok 0 rfl (by kernel_rfl) fun hok => ?_
 have hma : a.length ≤ 9223372036854775807 := by simp only [D.ok, List.length_map] at hok; exact hok.1
 clear hok
 obtain ⟨m, hm⟩ : ∃ m, a.length = m := ⟨_, rfl⟩
 obtain ⟨k, hk⟩ : ∃ m, b.length = m := ⟨_, rfl⟩
 rw [hm] at hma
 refine snd_of [] Try.func31 rfl (by kernel_rfl) Try.ntmps31 (by simp) ?_
 unfold Try.f31
 simp only [List.cons_append, List.nil_append, List.length_cons, List.length_nil, Nat.reduceAdd, Nat.reduceSub, List.replicate]
 apply Run.seq
 refine opsF oo11 fun K hK => ?_
 try simp
 repeat' first | (refine evL_c ?_; simp [hm, hk]) | (with_reducible first | apply aI | intro _ | assumption) | omega
 all_goals (apply Fin.go hK; clear hK K)
 simp only [tN]
 apply Run.seq
 apply Run.seq
 refine opsF [oM 0 7, oN 28 7 8, oM 1 9, oN 28 9 10, oB .neq 3 8 10 3 11] fun K hK => ?_
 try simp
 repeat' first | (refine evL_c ?_; simp [hm, hk]) | (with_reducible first | apply aI | intro _ | assumption) | omega
 all_goals (apply Fin.go hK; clear hK K)
 simp only [tN]
 refine Run.cond rfl (fun h11 => ?_) (fun h11 => ?_)
 ·try simp at h11
  apply Run.seq
  refine opsF oo11 fun K hK => ?_
  try simp
  repeat' first | (refine evL_c ?_; simp [hm, hk]) | (with_reducible first | apply aI | intro _ | assumption) | omega
  all_goals (apply Fin.go hK; clear hK K)
  simp only [tN]
  apply Run.ret
  try simp only [Then_ret, Blok_ret]
  first
   | (rw [eqTs_len (by omega)]; simp; done)
   | (rw [hz, eqTs_step (by omega) (by omega), hsb]; simp; done)
   | (rw [hz, show a.drop i = [] from List.drop_of_length_le (by omega), show b.drop i = [] from List.drop_of_length_le (by omega), eqTs]; simp; done)
 ·try simp at h11
  have hkm : k = m := by omega
  subst hkm
  apply Run.skip
  simp only [tN]
  apply Run.seq
  apply Run.seq
  refine opsF oo70 fun K hK => ?_
  try simp
  repeat' first | (refine evL_c ?_; simp [hm, hk]) | (with_reducible first | apply aI | intro _ | assumption) | omega
  all_goals (apply Fin.go hK; clear hK K)
  simp only [tN]
  apply Run.block
  refine Run.loopO [4, 5, 6, 12, 13, 14, 15, 16, 17, 18, 19, 20, 21, 22, 23, 24, 25, 26, 27, 28] (fun (i : Nat) => [(5, .int i)]) (fun (i : Nat) => []) (fun (i : Nat) => i ≤ k ∧ eqTs a b = eqTs (a.drop i) (b.drop i)) (fun (i : Nat) => k - i) 0 ⟨by omega, rfl⟩ (by simp) fun i ⟨hi, hz⟩ => ?_
  simp only [over, List.foldl, List.set]
  apply Run.seq
  apply Run.seq
  refine opsF [oM 5 12, oM 0 13, oN 28 13 14, oB .lss 3 12 14 3 15] fun K hK => ?_
  try simp
  repeat' first | (refine evL_c ?_; simp [hm, hk]) | (with_reducible first | apply aI | intro _ | assumption) | omega
  all_goals (apply Fin.go hK; clear hK K)
  simp only [tN]
  refine Run.cond rfl (fun h15 => ?_) (fun h15 => ?_)
  ·try simp at h15
   have hi1 : i < k := by omega
   have hT := hp i (by omega) (by omega)
   rw [encT_cells, encT_cells] at hT
   obtain ⟨sb, hsb⟩ : ∃ x, eqT (rdI a i) (rdI b i) = x := ⟨_, rfl⟩
   rw [hsb] at hT
   apply Run.skip
   simp only [tN]
   apply Run.seq
   apply Run.block
   apply Run.seq
   refine opsF [oM 0 18, oM 5 19, oI 28 18 19 20, oL 89 20 21, oM 1 22, oM 5 23, oI 28 22 23 24, oL 89 24 25, oC 50 #[.tmp 21, .tmp 25] #[89, 89] 26, oA 26 6] fun K hK => ?_
   try simp
   repeat' first | (refine ecallD (by exact hT) ?_) | (refine evL_c ?_; simp [hm, hk, hi1]) | (with_reducible first | apply aI | intro _ | assumption) | omega
   all_goals (apply Fin.go hK; clear hK K)
   simp only [tN]
   apply Run.seq
   refine opsF [oM 6 27, ⟨.unOp .not 4 (.tmp 27), some 28, none⟩] fun K hK => ?_
   try simp
   repeat' first | (refine evL_c ?_; simp [hm, hk, hi1]) | (with_reducible first | apply aI | intro _ | assumption) | omega
   all_goals (apply Fin.go hK; clear hK K)
   simp only [tN]
   refine Run.cond rfl (fun h28 => ?_) (fun h28 => ?_)
   ·try simp at h28
    subst h28
    apply Run.seq
    refine opsF oo11 fun K hK => ?_
    try simp
    repeat' first | (refine evL_c ?_; simp [hm, hk, hi1]) | (with_reducible first | apply aI | intro _ | assumption) | omega
    all_goals (apply Fin.go hK; clear hK K)
    simp only [tN]
    apply Run.ret
    try simp only [Then_ret, Blok_ret]
    first
     | (rw [eqTs_len (by omega)]; simp; done)
     | (rw [hz, eqTs_step (by omega) (by omega), hsb]; simp; done)
     | (rw [hz, show a.drop i = [] from List.drop_of_length_le (by omega), show b.drop i = [] from List.drop_of_length_le (by omega), eqTs]; simp; done)
   ·try simp at h28
    subst h28
    apply Run.skip
    simp only [Blok_normal]
    simp only [tN]
    refine opsF [oM 5 16, oK .add 3 16 1 3 17, oA 17 5] fun K hK => ?_
    try simp
    repeat' first | (refine evL_c ?_; simp [hm, hk, hi1]) | (with_reducible first | apply aI | intro _ | assumption) | omega
    all_goals (apply Fin.go hK; clear hK K)
    refine ⟨i + 1, ⟨by omega, by rw [hz, eqTs_step (by omega) (by omega), hsb]; rfl⟩, by omega, ?_⟩
    simp (disch := omega) [wrap_id]
  ·try simp at h15
   refine Run.exit ?_
   simp (decide := true) only [Then_exit, Blok_exit, if_true, if_false]
   simp only [tN]
   apply Run.seq
   refine opsF oo54 fun K hK => ?_
   try simp
   repeat' first | (refine evL_c ?_; simp [hm, hk]) | (with_reducible first | apply aI | intro _ | assumption) | omega
   all_goals (apply Fin.go hK; clear hK K)
   simp only [tN]
   apply Run.ret
   try simp only [Then_ret, Blok_ret]
   first
    | (rw [eqTs_len (by omega)]; simp; done)
    | (rw [hz, eqTs_step (by omega) (by omega), hsb]; simp; done)
    | (rw [hz, show a.drop i = [] from List.drop_of_length_le (by omega), show b.drop i = [] from List.drop_of_length_le (by omega), eqTs]; simp; done)
set_option maxHeartbeats 8000000 in
theorem reqT1_ok (a b : TermT) (IH : Snd P 31 [.d (.sl false (a.kids.map encT)), .d (.sl false (b.kids.map encT))] (.bool (eqTs a.kids b.kids)) []) : Snd P 50 [.d (.ag (encT a)), .d (.ag (encT b))] (.bool (eqT a b)) [] := by
 obtain ⟨e1, he1⟩ : ∃ x, decide (a.op = b.op) = x := ⟨_, rfl⟩
 obtain ⟨e2, he2⟩ : ∃ x, decide (a.slot = b.slot) = x := ⟨_, rfl⟩
 obtain ⟨e3, he3⟩ : ∃ x, decide (a.prop.toList = b.prop.toList) = x := ⟨_, rfl⟩
 obtain ⟨e4, he4⟩ : ∃ x, eqV a.val b.val = x := ⟨_, rfl⟩
 obtain ⟨e5, he5⟩ : ∃ x, eqTs a.kids b.kids = x := ⟨_, rfl⟩
 obtain ⟨r, hr⟩ : ∃ x, eqT a b = x := ⟨_, rfl⟩
 have hv := hr
 rw [eqT_eq, he1, he2, he3, he4, he5] at hv
 rw [hr]
 rw [he5] at IH
 have hV := reqV_ok a.val b.val
 rw [he4] at hV
 simp only [encV] at hV
 refine snd_of [] Try.func50 rfl (by kernel_rfl) Try.ntmps50 (by simp) ?_
 unfold Try.f50
 simp only [List.cons_append, List.nil_append, List.length_cons, List.length_nil, Nat.reduceAdd, Nat.reduceSub, List.replicate]
 apply Run.seq
 refine opsF [⟨.box 89 (.tmp 0), some 2, none⟩, ⟨.box 89 (.tmp 1), some 3, none⟩, ⟨.assign (.const (.bool false)), some 4, none⟩] fun K hK => ?_
 try simp
 repeat' first | (refine evL_c ?_; simp [binS, he1, he2, he3]) | (with_reducible first | apply aI | intro _ | assumption) | omega
 all_goals (apply Fin.go hK; clear hK K)
 simp only [tN]
 apply Run.seq
 refine opsF [oF 89 2 4 6, oL 87 6 7, oF 89 3 4 8, oL 87 8 9, oC 86 #[.tmp 7, .tmp 9] #[87, 87] 10, oA 10 5] fun K hK => ?_
 try simp
 repeat' first | (refine ecallD (by exact hV) ?_) | (refine evL_c ?_; simp [binS, he1, he2, he3]) | (with_reducible first | apply aI | intro _ | assumption) | omega
 all_goals (apply Fin.go hK; clear hK K)
 simp only [tN]
 apply Run.seq
 refine opsF [oM 5 11, oM 11 12, ⟨.fieldAddr 89 (.tmp 2) 0, some 13, some (some 12, true)⟩, ⟨.load 84 (.tmp 13), some 14, some (some 12, true)⟩, ⟨.fieldAddr 89 (.tmp 3) 0, some 15, some (some 12, true)⟩, ⟨.load 84 (.tmp 15), some 16, some (some 12, true)⟩, ⟨.binOp .eql 84 (.tmp 14) (.tmp 16) 84, some 17, some (some 12, true)⟩, ⟨.pick (.tmp 12) (.tmp 17) (.const (.bool false)), some 18, none⟩, oM 18 19, ⟨.fieldAddr 89 (.tmp 2) 2, some 20, some (some 19, true)⟩, ⟨.load 3 (.tmp 20), some 21, some (some 19, true)⟩, ⟨.fieldAddr 89 (.tmp 3) 2, some 22, some (some 19, true)⟩, ⟨.load 3 (.tmp 22), some 23, some (some 19, true)⟩, ⟨.binOp .eql 3 (.tmp 21) (.tmp 23) 3, some 24, some (some 19, true)⟩, ⟨.pick (.tmp 19) (.tmp 24) (.const (.bool false)), some 25, none⟩, oM 25 26, ⟨.fieldAddr 89 (.tmp 2) 3, some 27, some (some 26, true)⟩, ⟨.load 9 (.tmp 27), some 28, some (some 26, true)⟩, ⟨.fieldAddr 89 (.tmp 3) 3, some 29, some (some 26, true)⟩, ⟨.load 9 (.tmp 29), some 30, some (some 26, true)⟩, ⟨.binOp .eql 9 (.tmp 28) (.tmp 30) 9, some 31, some (some 26, true)⟩, ⟨.pick (.tmp 26) (.tmp 31) (.const (.bool false)), some 32, none⟩, oM 32 33, ⟨.fieldAddr 89 (.tmp 2) 1, some 34, some (some 33, true)⟩, ⟨.load 28 (.tmp 34), some 35, some (some 33, true)⟩, ⟨.fieldAddr 89 (.tmp 3) 1, some 36, some (some 33, true)⟩, ⟨.load 28 (.tmp 36), some 37, some (some 33, true)⟩, ⟨.call { callee := .value (.func 31), args := #[.tmp 35, .tmp 37], argTypes := #[28, 28] }, some 38, some (some 33, true)⟩, ⟨.pick (.tmp 33) (.tmp 38) (.const (.bool false)), some 39, none⟩, oA 39 4] fun K hK => ?_
 try simp
 repeat' first | (refine ecallD (by exact IH) ?_) | ((first | refine evL_c ?_ | (refine evL_g rfl ?_; try simp only [gs_tt, gs_ff, gs_tf, gs_ft]) | refine evL_u rfl ?_ | (with_reducible refine gsplit (fun hg => ?_) (fun hg => ?_) <;> try simp at hg)) <;> try simp [binS, he1, he2, he3]) | (with_reducible first | apply aI | intro _ | assumption) | omega
 all_goals (apply Fin.go hK; clear hK K)
 all_goals
  simp only [tN]
  apply Run.ret
  try simp only [Then_ret, Blok_ret]
  first
   | (simp_all; done)
   | (cases e1 <;> cases e2 <;> cases e3 <;> cases e4 <;> simp_all; done)
theorem reqT_ok (a b : TermT) : Snd P 50 [.d (.ag (encT a)), .d (.ag (encT b))] (.bool (eqT a b)) [] :=
 reqT1_ok a b (reqTs1_ok false false a.kids b.kids fun i h1 h2 =>
  have := kidT_lt (rdI_mem (l := a.kids) (i := i) (by omega) (by omega))
  reqT_ok (rdI a.kids i) (rdI b.kids i))
termination_by SizeOf.sizeOf a
theorem reqTs_ok (na nb : Bool) (a b : List TermT) : Snd P 31 [.d (.sl na (a.map encT)), .d (.sl nb (b.map encT))] (.bool (eqTs a b)) [] := reqTs1_ok na nb a b fun i _ _ => reqT_ok _ _
end Go.Proofs.Ytimgbdkgjfbhkaa.Z
end
section
/- Plans that are alike; terms that are all safe. -/
namespace Go.Proofs.Ytimgbdkgjfbhkaa.Z
open Go Go.Fw
theorem eqIs_refl (l : List Int) : eqIs l l = true := by
 induction l with
 | nil => rfl
 | cons x r ih => rw [eqIs, ih]; simp
theorem eqV_refl (v : ValT) : eqV v v = true := by simp [eqV, eqIs_refl]
theorem kids_ltP {p q : PlanT} (h : q ∈ p.kids) : SizeOf.sizeOf q < SizeOf.sizeOf p := by
 cases p with
 | mk o k s e b t =>
   have := List.sizeOf_lt_of_mem (show q ∈ k from h)
   simp only [PlanT.mk.sizeOf_spec]
   omega
mutual
theorem eqT_refl : ∀ t : TermT, eqT t t = true
 | .mk o k s n v => by
   rw [eqT]
   simp [TermT.op, TermT.slot, TermT.prop, TermT.val, TermT.kids, eqV_refl, eqTs_refl k]
theorem eqTs_refl : ∀ l : List TermT, eqTs l l = true
 | [] => by rw [eqTs]
 | t :: r => by rw [eqTs, eqT_refl t, eqTs_refl r]; rfl
end
set_option maxHeartbeats 8000000 in
theorem samePP1_ok (p : PlanT) (IH : ∀ i : Nat, i < p.kids.length → Snd P 15 [.d (.ag (encP (rdI p.kids i))), .d (.ag (encP (rdI p.kids i)))] (.bool true) []) : Snd P 15 [.d (.ag (encP p)), .d (.ag (encP p))] (.bool true) [] := by
 refine Snd.ok 0 rfl (by kernel_rfl) fun hok => ?_
 obtain ⟨hkm, hem, -⟩ := encP_ok hok
 clear hok
 have hT := reqTs_ok false false p.terms p.terms
 rw [eqTs_refl] at hT
 obtain ⟨k, hk⟩ : ∃ m, p.kids.length = m := ⟨_, rfl⟩
 obtain ⟨e, he⟩ : ∃ m, p.edges.length = m := ⟨_, rfl⟩
 rw [hk] at hkm
 rw [he] at hem
 refine snd_of [] Try.func15 rfl (by kernel_rfl) Try.ntmps15 (by simp) ?_
 unfold Try.f15
 simp only [List.cons_append, List.nil_append, List.length_cons, List.length_nil, Nat.reduceAdd, Nat.reduceSub, List.replicate]
 apply Run.seq
 refine opsF [⟨.box 48 (.tmp 0), some 2, none⟩, ⟨.box 48 (.tmp 1), some 3, none⟩, ⟨.assign (.const (.bool false)), some 4, none⟩] fun K hK => ?_
 try simp
 repeat' first | (refine evL_c ?_; simp [hk, he]) | (with_reducible first | apply aI | intro _ | assumption) | omega
 all_goals (apply Fin.go hK; clear hK K)
 simp only [tN]
 apply Run.seq
 refine opsF [oF 48 2 5 9, oL 28 9 10, oF 48 3 5 11, oL 28 11 12, oC 31 #[.tmp 10, .tmp 12] #[28, 28] 13, oA 13 5] fun K hK => ?_
 try simp
 repeat' first | (refine ecallD (by exact hT) ?_) | (refine evL_c ?_; simp [hk, he]) | (with_reducible first | apply aI | intro _ | assumption) | omega
 all_goals (apply Fin.go hK; clear hK K)
 simp only [tN]
 apply Run.seq
 apply Run.seq
 refine opsF [oM 5 14, ⟨.unOp .not 4 (.tmp 14), some 15, none⟩, oM 15 16, ⟨.fieldAddr 48 (.tmp 2) 0, some 17, some (some 16, false)⟩, ⟨.load 44 (.tmp 17), some 18, some (some 16, false)⟩, ⟨.fieldAddr 48 (.tmp 3) 0, some 19, some (some 16, false)⟩, ⟨.load 44 (.tmp 19), some 20, some (some 16, false)⟩, ⟨.binOp .neq 44 (.tmp 18) (.tmp 20) 44, some 21, some (some 16, false)⟩, ⟨.pick (.tmp 16) (.const (.bool true)) (.tmp 21), some 22, none⟩, oM 22 23, ⟨.fieldAddr 48 (.tmp 2) 1, some 24, some (some 23, false)⟩, ⟨.load 45 (.tmp 24), some 25, some (some 23, false)⟩, ⟨.call { callee := .builtin .len, args := #[.tmp 25], argTypes := #[45] }, some 26, some (some 23, false)⟩, ⟨.fieldAddr 48 (.tmp 3) 1, some 27, some (some 23, false)⟩, ⟨.load 45 (.tmp 27), some 28, some (some 23, false)⟩, ⟨.call { callee := .builtin .len, args := #[.tmp 28], argTypes := #[45] }, some 29, some (some 23, false)⟩, ⟨.binOp .neq 3 (.tmp 26) (.tmp 29) 3, some 30, some (some 23, false)⟩, ⟨.pick (.tmp 23) (.const (.bool true)) (.tmp 30), some 31, none⟩, oM 31 32, ⟨.fieldAddr 48 (.tmp 2) 2, some 33, some (some 32, false)⟩, ⟨.load 3 (.tmp 33), some 34, some (some 32, false)⟩, ⟨.fieldAddr 48 (.tmp 3) 2, some 35, some (some 32, false)⟩, ⟨.load 3 (.tmp 35), some 36, some (some 32, false)⟩, ⟨.binOp .neq 3 (.tmp 34) (.tmp 36) 3, some 37, some (some 32, false)⟩, ⟨.pick (.tmp 32) (.const (.bool true)) (.tmp 37), some 38, none⟩, oM 38 39, ⟨.fieldAddr 48 (.tmp 2) 4, some 40, some (some 39, false)⟩, ⟨.load 4 (.tmp 40), some 41, some (some 39, false)⟩, ⟨.fieldAddr 48 (.tmp 3) 4, some 42, some (some 39, false)⟩, ⟨.load 4 (.tmp 42), some 43, some (some 39, false)⟩, ⟨.binOp .neq 4 (.tmp 41) (.tmp 43) 4, some 44, some (some 39, false)⟩, ⟨.pick (.tmp 39) (.const (.bool true)) (.tmp 44), some 45, none⟩, oM 45 46, ⟨.fieldAddr 48 (.tmp 2) 3, some 47, some (some 46, false)⟩, ⟨.load 46 (.tmp 47), some 48, some (some 46, false)⟩, ⟨.call { callee := .builtin .len, args := #[.tmp 48], argTypes := #[46] }, some 49, some (some 46, false)⟩, ⟨.fieldAddr 48 (.tmp 3) 3, some 50, some (some 46, false)⟩, ⟨.load 46 (.tmp 50), some 51, some (some 46, false)⟩, ⟨.call { callee := .builtin .len, args := #[.tmp 51], argTypes := #[46] }, some 52, some (some 46, false)⟩, ⟨.binOp .neq 3 (.tmp 49) (.tmp 52) 3, some 53, some (some 46, false)⟩, ⟨.pick (.tmp 46) (.const (.bool true)) (.tmp 53), some 54, none⟩] fun K hK => ?_
 try simp
 repeat' first | ((first | refine evL_c ?_ | (refine evL_g rfl ?_; try simp only [gs_tt, gs_ff, gs_tf, gs_ft]) | refine evL_u rfl ?_ | (with_reducible refine gsplit (fun hg => ?_) (fun hg => ?_) <;> try simp at hg)) <;> try simp [hk, he]) | (with_reducible first | apply aI | intro _ | assumption) | omega
 all_goals (apply Fin.go hK; clear hK K)
 all_goals
  simp only [tN]
  refine Run.cond rfl (fun h54 => ?_) (fun h54 => ?_)
  ·simp at h54
  ·skip
   apply Run.skip
   simp only [tN]
   apply Run.seq
   apply Run.seq
   refine opsF oo79 fun K hK => ?_
   try simp
   repeat' first | (refine evL_c ?_; simp [hk, he]) | (with_reducible first | apply aI | intro _ | assumption) | omega
   all_goals (apply Fin.go hK; clear hK K)
   simp only [tN]
   apply Run.block
   refine Run.loopO [4, 6, 55, 56, 57, 58, 59, 60, 61, 62, 63, 64, 65, 66, 67, 68, 69, 70, 71, 72] (fun (i : Nat) => [(6, .int i)]) (fun (i : Nat) => [(300, .vals ((encP p).map .d)), (400, .vals ((encP p).map .d))]) (fun (i : Nat) => i ≤ e) (fun (i : Nat) => e - i) 0 (by omega) (by simp) fun i hi => ?_
   simp only [over, List.foldl, List.set]
   apply Run.seq
   apply Run.seq
   refine opsF [oM 6 55, oF 48 2 3 56, oL 46 56 57, oN 46 57 58, oB .lss 3 55 58 3 59] fun K hK => ?_
   try simp
   repeat' first | (refine evL_c ?_; simp [hk, he]) | (with_reducible first | apply aI | intro _ | assumption) | omega
   all_goals (apply Fin.go hK; clear hK K)
   simp only [tN]
   refine Run.cond rfl (fun h59 => ?_) (fun h59 => ?_)
   ·try simp at h59
    have hi1 : i < e := by omega
    apply Run.skip
    simp only [tN]
    apply Run.seq
    apply Run.block
    apply Run.seq
    refine opsF [oF 48 2 3 62, oL 46 62 63, oM 6 64, oI 46 63 64 65, oL 3 65 66, oF 48 3 3 67, oL 46 67 68, oM 6 69, oI 46 68 69 70, oL 3 70 71, oB .neq 3 66 71 3 72] fun K hK => ?_
    try simp
    repeat' first | (refine evL_c ?_; simp [hk, he, hi1]) | (with_reducible first | apply aI | intro _ | assumption) | omega
    all_goals (apply Fin.go hK; clear hK K)
    simp only [tN]
    refine Run.cond rfl (fun h72 => ?_) (fun h72 => ?_)
    ·simp at h72
    ·skip
     apply Run.skip
     simp only [Blok_normal]
     simp only [tN]
     refine opsF [oM 6 60, oK .add 3 60 1 3 61, oA 61 6] fun K hK => ?_
     try simp
     repeat' first | (refine evL_c ?_; simp [hk, he, hi1]) | (with_reducible first | apply aI | intro _ | assumption) | omega
     all_goals (apply Fin.go hK; clear hK K)
     refine ⟨i + 1, by omega, by omega, ?_⟩
     simp (disch := omega) [wrap_id]
   ·try simp at h59
    refine Run.exit ?_
    simp (decide := true) only [Then_exit, Blok_exit, if_true, if_false]
    simp only [tN]
    apply Run.seq
    apply Run.seq
    refine opsF oo80 fun K hK => ?_
    try simp
    repeat' first | (refine evL_c ?_; simp [hk, he]) | (with_reducible first | apply aI | intro _ | assumption) | omega
    all_goals (apply Fin.go hK; clear hK K)
    simp only [tN]
    apply Run.block
    refine Run.loopO [4, 7, 8, 73, 74, 75, 76, 77, 78, 79, 80, 81, 82, 83, 84, 85, 86, 87, 88, 89, 90, 91, 92] (fun (j : Nat) => [(7, .int j)]) (fun (j : Nat) => [(300, .vals ((encP p).map .d)), (400, .vals ((encP p).map .d))]) (fun (j : Nat) => j ≤ k) (fun (j : Nat) => k - j) 0 (by omega) (by simp) fun j hj => ?_
    simp only [over, List.foldl, List.set]
    apply Run.seq
    apply Run.seq
    refine opsF [oM 7 73, oF 48 2 1 74, oL 45 74 75, oN 45 75 76, oB .lss 3 73 76 3 77] fun K hK => ?_
    try simp
    repeat' first | (refine evL_c ?_; simp [hk, he]) | (with_reducible first | apply aI | intro _ | assumption) | omega
    all_goals (apply Fin.go hK; clear hK K)
    simp only [tN]
    refine Run.cond rfl (fun h77 => ?_) (fun h77 => ?_)
    ·try simp at h77
     have hj1 : j < k := by omega
     have hI := IH j (by omega)
     rw [encP_cells] at hI
     apply Run.skip
     simp only [tN]
     apply Run.seq
     apply Run.block
     apply Run.seq
     refine opsF [oF 48 2 1 80, oL 45 80 81, oM 7 82, oI 45 81 82 83, oL 48 83 84, oF 48 3 1 85, oL 45 85 86, oM 7 87, oI 45 86 87 88, oL 48 88 89, oC 15 #[.tmp 84, .tmp 89] #[48, 48] 90, oA 90 8] fun K hK => ?_
     try simp
     repeat' first | (refine ecallD (by exact hI) ?_) | (refine evL_c ?_; simp [hk, he, hj1]) | (with_reducible first | apply aI | intro _ | assumption) | omega
     all_goals (apply Fin.go hK; clear hK K)
     simp only [tN]
     apply Run.seq
     refine opsF [oM 8 91, ⟨.unOp .not 4 (.tmp 91), some 92, none⟩] fun K hK => ?_
     try simp
     repeat' first | (refine evL_c ?_; simp [hk, he, hj1]) | (with_reducible first | apply aI | intro _ | assumption) | omega
     all_goals (apply Fin.go hK; clear hK K)
     simp only [tN]
     refine Run.cond rfl (fun h92 => ?_) (fun h92 => ?_)
     ·simp at h92
     ·skip
      apply Run.skip
      simp only [Blok_normal]
      simp only [tN]
      refine opsF [oM 7 78, oK .add 3 78 1 3 79, oA 79 7] fun K hK => ?_
      try simp
      repeat' first | (refine evL_c ?_; simp [hk, he, hj1]) | (with_reducible first | apply aI | intro _ | assumption) | omega
      all_goals (apply Fin.go hK; clear hK K)
      refine ⟨j + 1, by omega, by omega, ?_⟩
      simp (disch := omega) [wrap_id]
    ·try simp at h77
     refine Run.exit ?_
     simp (decide := true) only [Then_exit, Blok_exit, if_true, if_false]
     simp only [tN]
     apply Run.seq
     refine opsF oo54 fun K hK => ?_
     try simp
     repeat' first | (refine evL_c ?_; simp [hk, he]) | (with_reducible first | apply aI | intro _ | assumption) | omega
     all_goals (apply Fin.go hK; clear hK K)
     simp only [tN]
     apply Run.ret
     try simp only [Then_ret, Blok_ret]
     simp
theorem samePP_ok (p : PlanT) : Snd P 15 [.d (.ag (encP p)), .d (.ag (encP p))] (.bool true) [] :=
 samePP1_ok p fun i hi =>
  have := kids_ltP (p := p) (rdI_mem (l := p.kids) (i := i) (by omega) (by omega))
  samePP_ok (rdI p.kids i)
termination_by SizeOf.sizeOf p
end Go.Proofs.Ytimgbdkgjfbhkaa.Z
end
