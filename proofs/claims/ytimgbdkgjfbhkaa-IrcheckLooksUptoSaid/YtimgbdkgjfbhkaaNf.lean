/- Texts of this claim, put together: Po, Pza, Ug, Sa, Va, Vb, Rb, Rc, Rd, Rf, Vc, Vd, Ve, Re, Vf. -/
import Derived.Test.YtimgbdkgjfbhkaaNe
set_option linter.unusedVariables false
set_option linter.unusedSimpArgs false
set_option maxRecDepth 100000
namespace Go.Proofs.Ytimgbdkgjfbhkaa.Z
open Go Go.Fw
abbrev oo79 : List LOp := [⟨.assign (.const (.int .i64 0)), some 6, none⟩]
abbrev oo80 : List LOp := [⟨.assign (.const (.int .i64 0)), some 7, none⟩]
abbrev oo81 : List LOp := [⟨.box 25 (.tmp 0), some 2, none⟩, ⟨.box 32 (.tmp 1), some 3, none⟩, ⟨.assign (.const (.slice none 0 0)), some 4, none⟩, ⟨.assign (.const (.int .i64 0)), some 5, none⟩, ⟨.assign (.const (.int .i64 0)), some 6, none⟩]
abbrev oo82 : List LOp := [oL 25 2 13, oL 32 3 14, oC 27 #[.tmp 13, .tmp 14] #[25, 32] 15, oM 15 12, oX 12 0 16, oX 12 1 17, oX 12 2 18, ⟨.alloc 48, some 7, none⟩, oS 48 7 16, oA 17 8, oA 18 9]
abbrev oo83 : List LOp := [oM 9 19, oK .neq 35 19 0 35 20]
abbrev oo84 : List LOp := [⟨.assign (.const (.int .i64 0)), some 8, none⟩]
abbrev oo85 : List LOp := [⟨.assign (.const (.slice none 0 0)), some 2, none⟩]
abbrev oo86 : List LOp := [oM 0 3, ⟨.binOp .eql 46 (.tmp 3) (.const (.slice none 0 0)) 46, some 4, none⟩]
abbrev oo87 : List LOp := [⟨.buildSlice 46 0 #[], some 5, none⟩, oM 0 6, ⟨.call { callee := .builtin .append, args := #[.tmp 5, .tmp 6], argTypes := #[46, 46] }, some 7, none⟩, oA 7 2]
abbrev oo88 : List LOp := [oM 0 3, ⟨.binOp .eql 28 (.tmp 3) (.const (.slice none 0 0)) 28, some 4, none⟩]
abbrev oo89 : List LOp := [⟨.buildSlice 28 0 #[], some 5, none⟩, oM 0 6, ⟨.call { callee := .builtin .append, args := #[.tmp 5, .tmp 6], argTypes := #[28, 28] }, some 7, none⟩, oA 7 2]
abbrev oo90 : List LOp := [⟨.assign (.const (.int .i64 0)), some 2, none⟩]
abbrev oo91 : List LOp := [⟨.box 25 (.tmp 0), some 2, none⟩, ⟨.box 32 (.tmp 1), some 3, none⟩, ⟨.alloc 48, some 4, none⟩, ⟨.assign (.const (.int .i64 0)), some 5, none⟩]
abbrev oo92 : List LOp := [oM 4 16, oF 89 1 1 17, oL 28 17 18, oN 28 18 19, oB .lss 3 16 19 3 20]
abbrev oo93 : List LOp := [oM 3 23, oF 89 1 1 24, oL 28 24 25, oM 4 26, oI 28 25 26 27, oL 89 27 28, oC 101 #[.tmp 28] #[89] 29, oC 105 #[.tmp 23, .tmp 29] #[46, 46] 30, oA 30 3]
abbrev oo94 : List LOp := [oM 4 21, oK .add 3 21 1 3 22, oA 22 4]
abbrev oo95 : List LOp := [oM 3 31, oA 31 2]
abbrev oo96 : List LOp := [⟨.box 75 (.tmp 1), some 4, none⟩, ⟨.assign (.const (.bool false)), some 6, none⟩]
abbrev oo97 : List LOp := [⟨.box 75 (.tmp 1), some 5, none⟩, ⟨.assign (.const (.bool false)), some 8, none⟩]
abbrev oo98 : List LOp := [⟨.assign (.const (.bool false)), some 8, none⟩]
abbrev oo99 : List LOp := [⟨.assign (.const (.int .i64 0)), some 11, none⟩]
abbrev oo100 : List LOp := [⟨.assign (.const (.bool true)), some 8, none⟩]
abbrev oo101 : List LOp := [oF 75 5 0 10, oL 73 10 11]
abbrev oo102 : List LOp := [oK .eql 73 11 1 73 13, oA 13 12]
abbrev oo103 : List LOp := [oM 0 15, oL 75 5 16, oM 2 17, oC 82 #[.tmp 15, .tmp 16, .tmp 17] #[76, 75, 34] 18, oA 18 8]
abbrev oo104 : List LOp := [oK .eql 73 11 2 73 14, oA 14 12]
abbrev oo105 : List LOp := [oK .eql 73 11 3 73 20, oA 20 19]
abbrev oo106 : List LOp := [oK .eql 73 11 5 73 26, oA 26 25]
abbrev oo107 : List LOp := [oK .eql 73 11 4 73 33, oA 33 32]
abbrev oo108 : List LOp := [⟨.assign (.const (.int .i64 0)), some 9, none⟩]
end Go.Proofs.Ytimgbdkgjfbhkaa.Z
section
namespace Go.Proofs.Ytimgbdkgjfbhkaa.Z
open Go Go.Fw
mutual
def termsR : TermT → Int → Int
 | .mk _ k _ _ _, most => goT k most 1
def goT : List TermT → Int → Int → Int
 | [], _, n => n
 | t :: r, most, n => if n ≤ most then goT r most (n + termsR t (most - n)) else n
end
theorem termsR_eq (t : TermT) (most : Int) : termsR t most = goT t.kids most 1 := by cases t; rw [termsR]; rfl
mutual
theorem termsR_rng : ∀ (t : TermT) (most : Int), 0 ≤ most → 1 ≤ termsR t most ∧ termsR t most ≤ most + 1
 | .mk o k s p v, most, h => by
   rw [termsR]
   have := goT_rng k most 1
   omega
theorem goT_rng : ∀ (l : List TermT) (most n : Int), n ≤ goT l most n ∧ (goT l most n ≤ most + 1 ∨ goT l most n = n)
 | [], most, n => by rw [goT]; omega
 | t :: r, most, n => by
   rw [goT]
   split
   ·have h1 := termsR_rng t (most - n) (by omega)
    have h2 := goT_rng r most (n + termsR t (most - n))
    omega
   ·omega
end
theorem goT_end {l : List TermT} {most n : Int} {i : Nat} (h : l.length ≤ i ∨ most < n) : goT (l.drop i) most n = n := by
 rcases h with h | h
 ·rw [List.drop_of_length_le h, goT]
 ·cases l.drop i with
  | nil => rw [goT]
  | cons t r => rw [goT, if_neg (by omega)]
theorem goT_step {l : List TermT} {most n : Int} {i : Nat} (hi : i < l.length) (h : n ≤ most) : goT (l.drop i) most n = goT (l.drop (i + 1)) most (n + termsR (rdI l i) (most - n)) := by
 rw [drop_rd hi, goT, if_pos h]
mutual
def partsR : PlanT → Int → Int
 | .mk _ k _ e _ t, most => goP k most (goT t most (1 + t.length + e.length))
def goP : List PlanT → Int → Int → Int
 | [], _, n => n
 | t :: r, most, n => if n ≤ most then goP r most (n + partsR t (most - n)) else n
end
theorem partsR_eq (p : PlanT) (most : Int) : partsR p most = goP p.kids most (goT p.terms most (1 + p.terms.length + p.edges.length)) := by cases p; rw [partsR]; rfl
mutual
theorem partsR_rng : ∀ (p : PlanT) (most : Int), 0 ≤ most → partsP p ≤ 2200000 → 1 ≤ partsR p most ∧ partsR p most ≤ most + 2200001
 | .mk o k s e b t, most, h, hf => by
   rw [partsR]
   rw [partsP] at hf
   have h1 := goT_rng t most (1 + t.length + e.length)
   have h2 := goP_rng k most (goT t most (1 + t.length + e.length)) (by omega)
   omega
theorem goP_rng : ∀ (l : List PlanT) (most n : Int), partsL l ≤ 2200000 → n ≤ goP l most n ∧ (goP l most n ≤ most + 2200001 ∨ goP l most n = n)
 | [], most, n, _ => by rw [goP]; omega
 | t :: r, most, n, hf => by
   rw [partsL] at hf
   rw [goP]
   split
   ·have h1 := partsR_rng t (most - n) (by omega) (by omega)
    have h2 := goP_rng r most (n + partsR t (most - n)) (by omega)
    omega
   ·omega
end
theorem goP_end {l : List PlanT} {most n : Int} {i : Nat} (h : l.length ≤ i ∨ most < n) : goP (l.drop i) most n = n := by
 rcases h with h | h
 ·rw [List.drop_of_length_le h, goP]
 ·cases l.drop i with
  | nil => rw [goP]
  | cons t r => rw [goP, if_neg (by omega)]
theorem goP_step {l : List PlanT} {most n : Int} {i : Nat} (hi : i < l.length) (h : n ≤ most) : goP (l.drop i) most n = goP (l.drop (i + 1)) most (n + partsR (rdI l i) (most - n)) := by
 rw [drop_rd hi, goP, if_pos h]
set_option maxHeartbeats 4000000 in
theorem terms1_ok (t : TermT) (most : Int) (h0 : 0 ≤ most) (h1 : most ≤ 1100000) (IH : ∀ i : Nat, i < t.kids.length → ∀ m : Int, 0 ≤ m → m ≤ 1100000 → Snd P 32 [.d (.ag (encT (rdI t.kids i))), .int m] (.int (termsR (rdI t.kids i) m)) []) : Snd P 32 [.d (.ag (encT t)), .int most] (.int (termsR t most)) [] := by
 refine Snd.ok 0 rfl (by kernel_rfl) fun hok => ?_
 have hkm := encT_ok hok
 clear hok
 obtain ⟨m, hm⟩ : ∃ m, t.kids.length = m := ⟨_, rfl⟩
 rw [hm] at hkm
 refine snd_of [] Try.func32 rfl (by kernel_rfl) Try.ntmps32 (by simp) ?_
 unfold Try.f32
 simp only [List.cons_append, List.nil_append, List.length_cons, List.length_nil, Nat.reduceAdd, Nat.reduceSub, List.replicate]
 apply Run.seq
 refine opsF [⟨.box 89 (.tmp 0), some 2, none⟩, ⟨.assign (.const (.int .i64 0)), some 4, none⟩] fun K hK => ?_
 try simp
 repeat' first | (refine evL_c ?_; simp [hm]) | (with_reducible first | apply aI | intro _ | assumption) | omega
 all_goals (apply Fin.go hK; clear hK K)
 simp only [tN]
 apply Run.seq
 refine opsF [⟨.assign (.const (.int .i64 1)), some 5, none⟩] fun K hK => ?_
 try simp
 repeat' first | (refine evL_c ?_; simp [hm]) | (with_reducible first | apply aI | intro _ | assumption) | omega
 all_goals (apply Fin.go hK; clear hK K)
 simp only [tN]
 apply Run.seq
 apply Run.seq
 refine opsF oo79 fun K hK => ?_
 try simp
 repeat' first | (refine evL_c ?_; simp [hm]) | (with_reducible first | apply aI | intro _ | assumption) | omega
 all_goals (apply Fin.go hK; clear hK K)
 simp only [tN]
 apply Run.block
 refine Run.loopO [5, 6, 7, 8, 9, 10, 11, 12, 13, 14, 15, 16, 17, 18, 19, 20, 21, 22, 23, 24, 25, 26, 27, 28, 29] (fun (x : Nat × Int) => [(6, .int x.1), (5, .int x.2)]) (fun (x : Nat × Int) => [(300, .vals ((encT t).map .d))]) (fun (x : Nat × Int) => x.1 ≤ m ∧ 1 ≤ x.2 ∧ x.2 ≤ 4400000 ∧ goT (t.kids.drop x.1) most x.2 = termsR t most) (fun (x : Nat × Int) => m - x.1) (0, 1) ⟨by omega, by omega, by omega, by rw [termsR_eq]; rfl⟩ (by simp) fun ⟨i, n⟩ ⟨hi, hn1, hn2, hg⟩ => ?_
 simp only at hi hn1 hn2 hg
 simp only [over, List.foldl, List.set]
 apply Run.seq
 refine Run.cut [7, 8, 9, 10, 11, 12, 13, 14, 15, 16] [(16, .bool (decide (i < m ∧ n ≤ most)))] [(300, .vals ((encT t).map .d))] ?_ ?_
 ·refine opsF [oM 6 7, oF 89 2 1 8, oL 28 8 9, oN 28 9 10, oB .lss 3 7 10 3 11, oM 11 12, ⟨.move (.tmp 5), some 13, some (some 12, true)⟩, ⟨.move (.tmp 1), some 14, some (some 12, true)⟩, ⟨.binOp .leq 3 (.tmp 13) (.tmp 14) 3, some 15, some (some 12, true)⟩, ⟨.pick (.tmp 12) (.tmp 15) (.const (.bool false)), some 16, none⟩] fun K hK => ?_
  try simp
  repeat' first | ((first | refine evL_c ?_ | (refine evL_g rfl ?_; try simp only [gs_tt, gs_ff, gs_tf, gs_ft]) | refine evL_u rfl ?_ | (with_reducible refine gsplit (fun hg => ?_) (fun hg => ?_) <;> try simp at hg)) <;> try simp [hm]) | (with_reducible first | apply aI | intro _ | assumption) | omega
  all_goals (apply Fin.go hK; clear hK K)
  all_goals
   (try simp [*]) <;> (first | omega | (simp; done) | grind)
 ·simp only [over, List.foldl, List.set]
  refine Run.cond rfl (fun h16 => ?_) (fun h16 => ?_)
  ·replace h16 := of_decide_eq_true h16
   obtain ⟨hc1, hc2⟩ := h16
   obtain ⟨r, hr⟩ : ∃ r, termsR (rdI t.kids i) (most - n) = r := ⟨_, rfl⟩
   have hrr := termsR_rng (rdI t.kids i) (most - n) (by omega)
   rw [hr] at hrr
   have hw1 : IntKind.i64.wrap (most - n) = most - n := wrap_id (by omega) (by omega)
   have hw2 : IntKind.i64.wrap (n + r) = n + r := wrap_id (by omega) (by omega)
   apply Run.skip
   simp only [tN]
   apply Run.seq
   apply Run.block
   refine opsF [oM 5 19, oF 89 2 1 20, oL 28 20 21, oM 6 22, oI 28 21 22 23, oL 89 23 24, oM 1 25, oM 5 26, oB .sub 3 25 26 3 27, oC 32 #[.tmp 24, .tmp 27] #[89, 3] 28, oB .add 3 19 28 3 29, oA 29 5] fun K hK => ?_
   try simp
   repeat' first | (refine ecallD (by have h := IH i (by omega) (most - n) (by omega) (by omega); rw [encT_cells, hr] at h; exact h) ?_) | (refine evL_c ?_; simp [hm, hc1, hr, hw1, hw2]) | (with_reducible first | apply aI | intro _ | assumption) | omega
   all_goals (apply Fin.go hK; clear hK K)
   simp only [Blok_normal]
   simp only [tN]
   refine opsF [oM 6 17, oK .add 3 17 1 3 18, oA 18 6] fun K hK => ?_
   try simp
   repeat' first | (refine evL_c ?_; simp [hm, hc1, hr, hw1, hw2]) | (with_reducible first | apply aI | intro _ | assumption) | omega
   all_goals (apply Fin.go hK; clear hK K)
   refine ⟨(i + 1, n + r), ⟨by simp; omega, by simp; omega, by simp; omega, ?_⟩, by simp; omega, ?_⟩
   ·rw [← hg, goT_step (by omega) hc2, hr]
   ·simp (disch := omega) [hm, wrap_id]
  ·replace h16 := of_decide_eq_false h16
   rw [goT_end (by omega)] at hg
   refine Run.exit ?_
   simp (decide := true) only [Then_exit, Blok_exit, if_true, if_false]
   simp only [tN]
   apply Run.seq
   refine opsF [oM 5 30, oA 30 4] fun K hK => ?_
   try simp
   repeat' first | (refine evL_c ?_; simp [hm]) | (with_reducible first | apply aI | intro _ | assumption) | omega
   all_goals (apply Fin.go hK; clear hK K)
   simp only [tN]
   apply Run.ret
   try simp only [Then_ret, Blok_ret]
   simp [hg]
theorem terms_ok (t : TermT) (most : Int) (h0 : 0 ≤ most) (h1 : most ≤ 1100000) : Snd P 32 [.d (.ag (encT t)), .int most] (.int (termsR t most)) [] :=
 terms1_ok t most h0 h1 fun i hi m hm0 hm1 =>
  have := kidT_lt (rdI_mem (l := t.kids) (i := i) (by omega) (by omega))
  terms_ok (rdI t.kids i) m hm0 hm1
termination_by SizeOf.sizeOf t
set_option maxHeartbeats 4000000 in
theorem parts1_ok (p : PlanT) (hf : partsP p ≤ 2200000) (most : Int) (h0 : 0 ≤ most) (h1 : most ≤ 1100000) (IH : ∀ i : Nat, i < p.kids.length → ∀ m : Int, 0 ≤ m → m ≤ 1100000 → Snd P 16 [.d (.ag (encP (rdI p.kids i))), .int m] (.int (partsR (rdI p.kids i) m)) []) : Snd P 16 [.d (.ag (encP p)), .int most] (.int (partsR p most)) [] := by
 refine Snd.ok 0 rfl (by kernel_rfl) fun hok => ?_
 obtain ⟨hkm, -, htm⟩ := encP_ok hok
 clear hok
 have hpr := partsR_rng p most h0 hf
 have hpe := partsR_eq p most
 have hfe := partsP_eq p
 obtain ⟨m, hm⟩ : ∃ m, p.kids.length = m := ⟨_, rfl⟩
 obtain ⟨tl, htl⟩ : ∃ m, p.terms.length = m := ⟨_, rfl⟩
 obtain ⟨el, hel⟩ : ∃ m, p.edges.length = m := ⟨_, rfl⟩
 rw [hm] at hkm
 rw [htl] at htm
 rw [htl, hel] at hpe hfe
 have hw0 : IntKind.i64.wrap (1 + (tl : Int)) = 1 + tl := wrap_id (by omega) (by omega)
 have hw9 : IntKind.i64.wrap (1 + (tl : Int) + el) = 1 + tl + el := wrap_id (by omega) (by omega)
 obtain ⟨g1, hg1⟩ : ∃ g, goT p.terms most (1 + (tl : Int) + el) = g := ⟨_, rfl⟩
 have hgr := goT_rng p.terms most (1 + (tl : Int) + el)
 rw [hg1] at hgr hpe
 refine snd_of [] Try.func16 rfl (by kernel_rfl) Try.ntmps16 (by simp) ?_
 unfold Try.f16
 simp only [List.cons_append, List.nil_append, List.length_cons, List.length_nil, Nat.reduceAdd, Nat.reduceSub, List.replicate]
 apply Run.seq
 refine opsF [⟨.box 48 (.tmp 0), some 2, none⟩, ⟨.assign (.const (.int .i64 0)), some 4, none⟩] fun K hK => ?_
 try simp
 repeat' first | (refine evL_c ?_; simp [hm, htl, hel, hw0, hw9]) | (with_reducible first | apply aI | intro _ | assumption) | omega
 all_goals (apply Fin.go hK; clear hK K)
 simp only [tN]
 apply Run.seq
 refine opsF [oF 48 2 5 8, oL 28 8 9, oN 28 9 10, ⟨.binOp .add 3 (.const (.int .i64 1)) (.tmp 10) 3, some 11, none⟩, oF 48 2 3 12, oL 46 12 13, oN 46 13 14, oB .add 3 11 14 3 15, oA 15 5] fun K hK => ?_
 try simp
 repeat' first | (refine evL_c ?_; simp [hm, htl, hel, hw0, hw9]) | (with_reducible first | apply aI | intro _ | assumption) | omega
 all_goals (apply Fin.go hK; clear hK K)
 simp only [tN]
 apply Run.seq
 apply Run.seq
 refine opsF oo79 fun K hK => ?_
 try simp
 repeat' first | (refine evL_c ?_; simp [hm, htl, hel, hw0, hw9]) | (with_reducible first | apply aI | intro _ | assumption) | omega
 all_goals (apply Fin.go hK; clear hK K)
 simp only [tN]
 apply Run.block
 refine Run.loopO [5, 6, 16, 17, 18, 19, 20, 21, 22, 23, 24, 25, 26, 27, 28, 29, 30, 31, 32, 33, 34, 35, 36, 37, 38] (fun (x : Nat × Int) => [(6, .int x.1), (5, .int x.2)]) (fun (x : Nat × Int) => [(300, .vals ((encP p).map .d))]) (fun (x : Nat × Int) => x.1 ≤ tl ∧ 1 ≤ x.2 ∧ x.2 ≤ 4400000 ∧ goT (p.terms.drop x.1) most x.2 = g1) (fun (x : Nat × Int) => tl - x.1) (0, 1 + (tl : Int) + el) ⟨by omega, by simp; omega, by simp; omega, by simpa using hg1⟩ (by simp) fun ⟨i, n⟩ ⟨hi, hn1, hn2, hg⟩ => ?_
 simp only at hi hn1 hn2 hg
 simp only [over, List.foldl, List.set]
 apply Run.seq
 refine Run.cut [16, 17, 18, 19, 20, 21, 22, 23, 24, 25] [(25, .bool (decide (i < tl ∧ n ≤ most)))] [(300, .vals ((encP p).map .d))] ?_ ?_
 ·refine opsF [oM 6 16, oF 48 2 5 17, oL 28 17 18, oN 28 18 19, oB .lss 3 16 19 3 20, oM 20 21, ⟨.move (.tmp 5), some 22, some (some 21, true)⟩, ⟨.move (.tmp 1), some 23, some (some 21, true)⟩, ⟨.binOp .leq 3 (.tmp 22) (.tmp 23) 3, some 24, some (some 21, true)⟩, ⟨.pick (.tmp 21) (.tmp 24) (.const (.bool false)), some 25, none⟩] fun K hK => ?_
  try simp
  repeat' first | ((first | refine evL_c ?_ | (refine evL_g rfl ?_; try simp only [gs_tt, gs_ff, gs_tf, gs_ft]) | refine evL_u rfl ?_ | (with_reducible refine gsplit (fun hg => ?_) (fun hg => ?_) <;> try simp at hg)) <;> try simp [hm, htl, hel, hw0, hw9]) | (with_reducible first | apply aI | intro _ | assumption) | omega
  all_goals (apply Fin.go hK; clear hK K)
  all_goals
   (try simp [*]) <;> (first | omega | (simp; done) | grind)
 ·simp only [over, List.foldl, List.set]
  refine Run.cond rfl (fun h25 => ?_) (fun h25 => ?_)
  ·replace h25 := of_decide_eq_true h25
   obtain ⟨hc1, hc2⟩ := h25
   obtain ⟨r, hr⟩ : ∃ r, termsR (rdI p.terms i) (most - n) = r := ⟨_, rfl⟩
   have hrr := termsR_rng (rdI p.terms i) (most - n) (by omega)
   rw [hr] at hrr
   have hT := terms_ok (rdI p.terms i) (most - n) (by omega) (by omega)
   rw [encT_cells, hr] at hT
   have hw1 : IntKind.i64.wrap (most - n) = most - n := wrap_id (by omega) (by omega)
   have hw2 : IntKind.i64.wrap (n + r) = n + r := wrap_id (by omega) (by omega)
   apply Run.skip
   simp only [tN]
   apply Run.seq
   apply Run.block
   refine opsF [oM 5 28, oF 48 2 5 29, oL 28 29 30, oM 6 31, oI 28 30 31 32, oL 89 32 33, oM 1 34, oM 5 35, oB .sub 3 34 35 3 36, oC 32 #[.tmp 33, .tmp 36] #[89, 3] 37, oB .add 3 28 37 3 38, oA 38 5] fun K hK => ?_
   try simp
   repeat' first | (refine ecallD (by exact hT) ?_) | (refine evL_c ?_; simp [hm, htl, hel, hw0, hw9, hc1, hr, hw1, hw2]) | (with_reducible first | apply aI | intro _ | assumption) | omega
   all_goals (apply Fin.go hK; clear hK K)
   simp only [Blok_normal]
   simp only [tN]
   refine opsF [oM 6 26, oK .add 3 26 1 3 27, oA 27 6] fun K hK => ?_
   try simp
   repeat' first | (refine evL_c ?_; simp [hm, htl, hel, hw0, hw9, hc1, hr, hw1, hw2]) | (with_reducible first | apply aI | intro _ | assumption) | omega
   all_goals (apply Fin.go hK; clear hK K)
   refine ⟨(i + 1, n + r), ⟨by simp; omega, by simp; omega, by simp; omega, ?_⟩, by simp; omega, ?_⟩
   ·rw [← hg, goT_step (by omega) hc2, hr]
   ·simp (disch := omega) [hm, htl, hel, wrap_id]
  ·replace h25 := of_decide_eq_false h25
   rw [goT_end (by omega)] at hg
   rw [← hg] at hpe hgr
   clear hg1 hg h25 hi
   refine Run.exit ?_
   simp (decide := true) only [Then_exit, Blok_exit, if_true, if_false]
   simp only [tN]
   apply Run.seq
   apply Run.seq
   refine opsF oo80 fun K hK => ?_
   try simp
   repeat' first | (refine evL_c ?_; simp [hm, htl, hel, hw0, hw9]) | (with_reducible first | apply aI | intro _ | assumption) | omega
   all_goals (apply Fin.go hK; clear hK K)
   simp only [tN]
   apply Run.block
   refine Run.loopO [5, 7, 39, 40, 41, 42, 43, 44, 45, 46, 47, 48, 49, 50, 51, 52, 53, 54, 55, 56, 57, 58, 59, 60, 61] (fun (x : Nat × Int) => [(7, .int x.1), (5, .int x.2)]) (fun (x : Nat × Int) => [(300, .vals ((encP p).map .d))]) (fun (x : Nat × Int) => x.1 ≤ m ∧ 1 ≤ x.2 ∧ x.2 ≤ 4400000 ∧ goP (p.kids.drop x.1) most x.2 = partsR p most) (fun (x : Nat × Int) => m - x.1) (0, n) ⟨by omega, by simp; omega, by simp; omega, by simpa using hpe.symm⟩ (by simp) fun ⟨j, q⟩ ⟨hi, hn1, hn2, hg⟩ => ?_
   simp only at hi hn1 hn2 hg
   simp only [over, List.foldl, List.set]
   apply Run.seq
   refine Run.cut [39, 40, 41, 42, 43, 44, 45, 46, 47, 48] [(48, .bool (decide (j < m ∧ q ≤ most)))] [(300, .vals ((encP p).map .d))] ?_ ?_
   ·refine opsF [oM 7 39, oF 48 2 1 40, oL 45 40 41, oN 45 41 42, oB .lss 3 39 42 3 43, oM 43 44, ⟨.move (.tmp 5), some 45, some (some 44, true)⟩, ⟨.move (.tmp 1), some 46, some (some 44, true)⟩, ⟨.binOp .leq 3 (.tmp 45) (.tmp 46) 3, some 47, some (some 44, true)⟩, ⟨.pick (.tmp 44) (.tmp 47) (.const (.bool false)), some 48, none⟩] fun K hK => ?_
    try simp
    repeat' first | ((first | refine evL_c ?_ | (refine evL_g rfl ?_; try simp only [gs_tt, gs_ff, gs_tf, gs_ft]) | refine evL_u rfl ?_ | (with_reducible refine gsplit (fun hg => ?_) (fun hg => ?_) <;> try simp at hg)) <;> try simp [hm, htl, hel, hw0, hw9]) | (with_reducible first | apply aI | intro _ | assumption) | omega
    all_goals (apply Fin.go hK; clear hK K)
    all_goals
     (try simp [*]) <;> (first | omega | (simp; done) | grind)
   ·simp only [over, List.foldl, List.set]
    refine Run.cond rfl (fun h48 => ?_) (fun h48 => ?_)
    ·replace h48 := of_decide_eq_true h48
     obtain ⟨hc1, hc2⟩ := h48
     obtain ⟨r, hr⟩ : ∃ r, partsR (rdI p.kids j) (most - q) = r := ⟨_, rfl⟩
     have hrr := partsR_rng (rdI p.kids j) (most - q) (by omega) (kid_fine hf (by omega))
     rw [hr] at hrr
     have hT := IH j (by omega) (most - q) (by omega) (by omega)
     rw [encP_cells, hr] at hT
     have hw1 : IntKind.i64.wrap (most - q) = most - q := wrap_id (by omega) (by omega)
     have hw2 : IntKind.i64.wrap (q + r) = q + r := wrap_id (by omega) (by omega)
     apply Run.skip
     simp only [tN]
     apply Run.seq
     apply Run.block
     refine opsF [oM 5 51, oF 48 2 1 52, oL 45 52 53, oM 7 54, oI 45 53 54 55, oL 48 55 56, oM 1 57, oM 5 58, oB .sub 3 57 58 3 59, oC 16 #[.tmp 56, .tmp 59] #[48, 3] 60, oB .add 3 51 60 3 61, oA 61 5] fun K hK => ?_
     try simp
     repeat' first | (refine ecallD (by exact hT) ?_) | (refine evL_c ?_; simp [hm, htl, hel, hw0, hw9, hc1, hr, hw1, hw2]) | (with_reducible first | apply aI | intro _ | assumption) | omega
     all_goals (apply Fin.go hK; clear hK K)
     simp only [Blok_normal]
     simp only [tN]
     refine opsF [oM 7 49, oK .add 3 49 1 3 50, oA 50 7] fun K hK => ?_
     try simp
     repeat' first | (refine evL_c ?_; simp [hm, htl, hel, hw0, hw9, hc1, hr, hw1, hw2]) | (with_reducible first | apply aI | intro _ | assumption) | omega
     all_goals (apply Fin.go hK; clear hK K)
     refine ⟨(j + 1, q + r), ⟨by simp; omega, by simp; omega, by simp; omega, ?_⟩, by simp; omega, ?_⟩
     ·rw [← hg, goP_step (by omega) hc2, hr]
     ·simp (disch := omega) [hm, htl, hel, wrap_id]
    ·replace h48 := of_decide_eq_false h48
     rw [goP_end (by omega)] at hg
     refine Run.exit ?_
     simp (decide := true) only [Then_exit, Blok_exit, if_true, if_false]
     simp only [tN]
     apply Run.seq
     refine opsF [oM 5 62, oA 62 4] fun K hK => ?_
     try simp
     repeat' first | (refine evL_c ?_; simp [hm, htl, hel, hw0, hw9]) | (with_reducible first | apply aI | intro _ | assumption) | omega
     all_goals (apply Fin.go hK; clear hK K)
     simp only [tN]
     apply Run.ret
     try simp only [Then_ret, Blok_ret]
     simp [hg]
theorem parts_ok (p : PlanT) (hf : partsP p ≤ 2200000) (most : Int) (h0 : 0 ≤ most) (h1 : most ≤ 1100000) : Snd P 16 [.d (.ag (encP p)), .int most] (.int (partsR p most)) [] :=
 parts1_ok p hf most h0 h1 fun i hi m hm0 hm1 =>
  have := kids_lt (kid_mem (p := p) hi)
  parts_ok (rdI p.kids i) (kid_fine hf hi) m hm0 hm1
termination_by SizeOf.sizeOf p
end Go.Proofs.Ytimgbdkgjfbhkaa.Z
end
section
namespace Go.Proofs.Ytimgbdkgjfbhkaa.Z
open Go Go.Fw
def DSub (x y : D) : Prop := ∀ (w : World) (L : Nat → Prop) (v : Value), DRel w L x v → DRel w L y v
def SubL : List D → List D → Prop
 | [], [] => True
 | x :: l, y :: r => DSub x y ∧ SubL l r
 | _, _ => False
theorem DSub.refl (x : D) : DSub x x := fun _ _ _ h => h
theorem DSub.nil : DSub (.lit (.slice none 0 0)) (.sl false []) := fun w L v h => by
 cases h with
 | lit _ h => exact .slE false none 0 (by simp)
theorem SubL.len {l r : List D} (h : SubL l r) : l.length = r.length := by
 induction l generalizing r with
 | nil => cases r <;> simp_all [SubL]
 | cons x l ih => cases r <;> simp_all [SubL]
                  exact ih h.2
theorem SubL.at_ {l r : List D} (h : SubL l r) {j : Nat} {x y : D} (hx : l[j]? = some x) (hy : r[j]? = some y) : DSub x y := by
 induction l generalizing r j with
 | nil => cases hx
 | cons a l ih =>
   cases r with
   | nil => cases hy
   | cons b r =>
     cases j with
     | zero => simp at hx hy; subst hx hy; exact h.1
     | succ j => simp at hx hy; exact ih h.2 hx hy
theorem DSub.ag {l r : List D} (h : SubL l r) : DSub (.ag l) (.ag r) := fun w L v hv => by
 cases hv with
 | ag _ vs hl ho hr => 
   refine .ag r vs (hl.trans h.len) ho fun j x v hx hv => ?_
   have hj : j < l.length := by rw [h.len]; exact (List.getElem?_eq_some_iff.1 hx).1
   exact h.at_ (List.getElem?_eq_getElem hj) hx _ _ _ (hr j _ v (List.getElem?_eq_getElem hj) hv)
def SubV : List V → List V → Prop
 | [], [] => True
 | .d x :: l, .d y :: r => DSub x y ∧ SubV l r
 | _, _ => False
theorem SubV.rel {w : World} {L : Nat → Prop} {m : Nat → Option Nat} {l r : List V} {vs : List Value} (h : SubV l r) (hv : All2 (VRel w L m) l vs) : All2 (VRel w L m) r vs := by
 induction l generalizing r vs with
 | nil =>
   cases r with
   | nil => exact hv
   | cons _ _ => exact h.elim
 | cons x l ih =>
   cases r with
   | nil => cases x <;> exact h.elim
   | cons y r =>
     cases x <;> cases y <;> first | exact h.elim | skip
     obtain ⟨v, tl, rfl, h1, h2⟩ := hv.head
     cases h1 with
     | d hd => exact All2.cons (.d (h.1 _ _ _ hd)) (ih h.2 h2)
theorem snd_sub {f : FuncId} {args args0 : List V} {r : V} {τ : Store} (h : Snd P f args0 r τ) (hs : SubV args args0) : Snd P f args r τ :=
 ⟨h.1, fun w X vs hX hargs => h.2 w X vs hX (hs.rel hargs)⟩
mutual
theorem termsR_all : ∀ (t : TermT) (most : Int), termsR t most ≤ most → (cntT t : Int) = termsR t most
 | .mk o k s p v, most, h => by
   rw [termsR] at h ⊢
   have := goT_all k most 1 h
   rw [cntT, this]; omega
theorem goT_all : ∀ (l : List TermT) (most n : Int), goT l most n ≤ most → goT l most n = n + cntL l
 | [], most, n, h => by rw [goT, cntL]; omega
 | t :: r, most, n, h => by
   rw [goT] at h ⊢
   split at h
   ·rename_i hn
    rw [if_pos hn]
    have h1 := goT_all r most (n + termsR t (most - n)) h
    have h2 := termsR_all t (most - n) (by omega)
    rw [h1, cntL]; omega
   ·omega
end
mutual
theorem partsR_all : ∀ (p : PlanT) (most : Int), partsP p ≤ 2200000 → partsR p most ≤ most → (partsP p : Int) = partsR p most
 | .mk o k s e b t, most, hf, h => by
   rw [partsP] at hf
   rw [partsR] at h ⊢
   have h1 := goP_all k most _ (by omega) h
   have h0 := (goP_rng k most (goT t most (1 + t.length + e.length)) (by omega)).1
   have h2 := goT_all t most (1 + t.length + e.length) (by omega)
   rw [h1, h2, partsP]; omega
theorem goP_all : ∀ (l : List PlanT) (most n : Int), partsL l ≤ 2200000 → goP l most n ≤ most → goP l most n = n + partsL l
 | [], most, n, hf, h => by rw [goP, partsL]; omega
 | t :: r, most, n, hf, h => by
   rw [partsL] at hf
   rw [goP] at h ⊢
   split at h
   ·rename_i hn
    rw [if_pos hn]
    have h1 := goP_all r most (n + partsR t (most - n)) (by omega) h
    have h2 := partsR_all t (most - n) (by omega) (by omega)
    rw [h1, partsL]; omega
   ·omega
end
end Go.Proofs.Ytimgbdkgjfbhkaa.Z
end
section
namespace Go.Proofs.Ytimgbdkgjfbhkaa.Z
open Go Go.Fw
attribute [-simp] lookV updV Blk.fgt Blk.ren Blk.men Blk.fin lost litV
attribute [local simp] litV_agg litV_int litV_str litV_bool litV_slice litV_tup
theorem stepsS_parts {c : CoreT} {tabs : List (List Int)} {ps : List PlanT} {i : Int} (hi : i ≤ ps.length) {q : PlanT} {l' : List Int} : ∀ (r : List StepR) (l : List Int) (p : PlanT), stepsS c tabs ps i l p r = (some q, l') → partsP q + tot 0 ps l' ≤ partsP p + tot 0 ps l + wL r
 | [], l, p, h => by rw [stepsS] at h; cases h; simp [wL]
 | s :: r, l, p, h => by
   rw [stepsS] at h
   rcases he : stepS c tabs ps i l p s with ⟨o, l2⟩
   rw [he] at h
   cases o with
   | none => cases h
   | some q2 =>
     simp only at h
     split at h
     ·have h1 := stepS_parts hi he
      have h2 := stepsS_parts hi r l2 q2 h
      rw [wL]; omega
     ·cases h
theorem pipesS_parts {c : CoreT} {tabs : List (List Int)} : ∀ (r : List PipeR) (ps : List PlanT) (l : List Int), (∀ q ∈ ps, partsP q ≤ 1100000) → tot 0 ps l + wP r ≤ 1100000 → ∀ q ∈ (pipesS c tabs ps l r).1, partsP q ≤ 1100000
 | [], ps, l, h, _ => by simpa [pipesS] using h
 | x :: r, ps, l, h, hw => by
   rw [pipesS]
   rw [wP] at hw
   rcases he : pipeS c tabs ps l x with ⟨o, l2⟩
   cases o with
   | none => exact h
   | some q2 =>
     unfold pipeS at he
     split at he
     ·cases he
     ·have h1 := stepsS_parts (Int.le_refl _) _ _ _ he
      have h2 : partsP (scanT x.scan) = 1 := by simp [scanT, partsP, partsL, cntL]
      have h3 := tot_app l2 q2 ps 0
      refine pipesS_parts r (ps ++ [q2]) l2 (fun q hq => ?_) (by omega)
      rcases List.mem_append.1 hq with hq | hq
      ·exact h q hq
      ·rw [List.mem_singleton.1 hq]; omega
theorem planS_parts (c : CoreT) (r : ProgR) (hw : wP r.pipes ≤ 1100000) (he : (planS c r).2.2 = 0) : partsP (planS c r).1 ≤ 1100000 := by
 unfold planS at he ⊢
 split
 ·rename_i h; rw [if_pos h] at he; cases he
 ·rename_i h
  rw [if_neg h] at he
  split
  ·rename_i h; rw [if_pos h] at he; cases he
  ·rename_i h2
   rw [if_neg h2] at he
   have hp := pipesS_parts (c := c) (tabs := r.tabs) r.pipes [] [] (by simp) (by simpa [tot] using hw)
   have ha := pipesS_len (c := c) (tabs := r.tabs) r.pipes [] []
   rcases hR : pipesS c r.tabs [] [] r.pipes with ⟨R1, R2, R3⟩
   rw [hR] at he hp ha
   simp only at he hp ha ⊢
   split
   ·rename_i h; rw [if_pos h] at he; cases he
   ·rename_i h
    have hR3 : R3 = true := by cases R3 with
     | true => rfl
     | false => exact absurd (by simp) h
    subst hR3
    simp at ha
    exact hp _ (rdI_mem (by omega) (by omega))
def checkS (c : CoreT) (r : ProgR) : D × Int × Int := if (planS c r).2.2 = 0 then ((boundD c (planS c r).1).1, 0, 0) else (.lit (.slice none 0 0), (planS c r).2.1, (planS c r).2.2)
def goTb : List (List Int) → Int → Int → Int
 | [], _, n => n
 | t :: r, m, n => if n ≤ m then goTb r m (n + t.length) else n
def stepW (s : StepR) : PlanT := .mk 0 [] 0 s.edges false s.terms
def goSt : List StepR → Int → Int → Int
 | [], _, n => n
 | s :: r, m, n => if n ≤ m then goSt r m (n + partsR (stepW s) (m - n)) else n
def goPi : List PipeR → Int → Int → Int
 | [], _, n => n
 | x :: r, m, n => if n ≤ m then goPi r m (goSt x.steps m n) else n
def weightS (r : ProgR) (most : Int) : Int := goPi r.pipes most (goTb r.tabs most (r.pipes.length + r.tabs.length))
theorem goTb_step {l : List (List Int)} {i : Nat} {m v : Int} (h : i < l.length) (h2 : v ≤ m) : goTb (l.drop i) m v = goTb (l.drop (i + 1)) m (v + (rdI l (i : Nat)).length) := by rw [drop_rd h, goTb, if_pos h2]
theorem goTb_end {l : List (List Int)} {i : Nat} {m v : Int} (h : ¬ (i < l.length ∧ v ≤ m)) : goTb (l.drop i) m v = v := by
 by_cases hi : i < l.length
 ·rw [drop_rd hi, goTb, if_neg (fun e => h ⟨hi, e⟩)]
 ·rw [List.drop_of_length_le (by omega), goTb]
theorem goSt_step {l : List StepR} {i : Nat} {m v : Int} (h : i < l.length) (h2 : v ≤ m) : goSt (l.drop i) m v = goSt (l.drop (i + 1)) m (v + partsR (stepW (rdI l (i : Nat))) (m - v)) := by rw [drop_rd h, goSt, if_pos h2]
theorem goSt_end {l : List StepR} {i : Nat} {m v : Int} (h : ¬ (i < l.length ∧ v ≤ m)) : goSt (l.drop i) m v = v := by
 by_cases hi : i < l.length
 ·rw [drop_rd hi, goSt, if_neg (fun e => h ⟨hi, e⟩)]
 ·rw [List.drop_of_length_le (by omega), goSt]
theorem goPi_step {l : List PipeR} {i : Nat} {m v : Int} (h : i < l.length) (h2 : v ≤ m) : goPi (l.drop i) m v = goPi (l.drop (i + 1)) m (goSt (rdI l (i : Nat)).steps m v) := by rw [drop_rd h, goPi, if_pos h2]
theorem goPi_end {l : List PipeR} {i : Nat} {m v : Int} (h : ¬ (i < l.length ∧ v ≤ m)) : goPi (l.drop i) m v = v := by
 by_cases hi : i < l.length
 ·rw [drop_rd hi, goPi, if_neg (fun e => h ⟨hi, e⟩)]
 ·rw [List.drop_of_length_le (by omega), goPi]
theorem wL_mem {l : List StepR} {s : StepR} (h : s ∈ l) : wS s ≤ wL l := by
 induction l with
 | nil => cases h
 | cons x r ih =>
   rw [wL]
   rcases List.mem_cons.1 h with rfl | h
   ·omega
   ·have := ih h; omega
theorem wP_mem {l : List PipeR} {x : PipeR} (h : x ∈ l) : 1 + wL x.steps ≤ wP l := by
 induction l with
 | nil => cases h
 | cons y r ih =>
   rw [wP]
   rcases List.mem_cons.1 h with rfl | h
   ·omega
   ·have := ih h; omega
theorem stepW_parts (s : StepR) : partsP (stepW s) = wS s := by simp [stepW, partsP, partsL, wS]
set_option maxHeartbeats 8000000 in
theorem checkN_ok (c : CoreT) (r : ProgR) (p : PlanT) (a e : Int) (he : ¬ e = 0) (h : Snd P 27 [.d (.ag (encPr r)), .d (.ag (encC c))] (.tup [.d (.ag (encP p)), .int a, .int e]) []) : Snd P 9 [.d (.ag (encPr r)), .d (.ag (encC c))] (.tup [.d (.lit (.slice none 0 0)), .int a, .int e]) [] := by
 rw [encP_cells] at h
 refine snd_of [] Try.func9 rfl (by kernel_rfl) Try.ntmps9 (by simp) ?_
 unfold Try.f9
 simp only [List.cons_append, List.nil_append, List.length_cons, List.length_nil, Nat.reduceAdd, Nat.reduceSub, List.replicate]
 apply Run.seq
 refine opsF oo81 fun K hK => ?_
 try simp
 repeat' first | (refine evL_c ?_; simp [he]) | (with_reducible first | apply aI | intro _ | assumption) | omega
 all_goals (apply Fin.go hK; clear hK K)
 simp only [tN]
 apply Run.seq
 refine opsF oo82 fun K hK => ?_
 try simp
 repeat' first | (refine ecall (by exact h) rfl ?_) | (refine evL_c ?_; simp [he]) | (with_reducible first | apply aI | intro _ | assumption) | omega
 all_goals (apply Fin.go hK; clear hK K)
 simp only [tN]
 apply Run.seq
 apply Run.seq
 refine opsF oo83 fun K hK => ?_
 try simp
 repeat' first | (refine evL_c ?_; simp [he]) | (with_reducible first | apply aI | intro _ | assumption) | omega
 all_goals (apply Fin.go hK; clear hK K)
 simp only [tN]
 refine Run.cond rfl (fun h20 => ?_) (fun h20 => ?_)
 ·skip
  apply Run.seq
  refine opsF [oM 8 21, oM 9 22, ⟨.assign (.const (.slice none 0 0)), some 4, none⟩, oA 21 5, oA 22 6] fun K hK => ?_
  try simp
  repeat' first | (refine evL_c ?_; simp [he]) | (with_reducible first | apply aI | intro _ | assumption) | omega
  all_goals (apply Fin.go hK; clear hK K)
  simp only [tN]
  apply Run.ret
  try simp only [Then_ret, Blok_ret]
  simp
 ·simp at h20
set_option maxHeartbeats 8000000 in
theorem checkA_ok (c : CoreT) (r : ProgR) (p : PlanT) (a : Int) (d : D) (n : Int) (h : Snd P 27 [.d (.ag (encPr r)), .d (.ag (encC c))] (.tup [.d (.ag (encP p)), .int a, .int 0]) []) (hb : Snd P 24 [.d (.ag (encP p)), .d (.ag (encC c))] (.tup [.d d, .int n]) []) : Snd P 9 [.d (.ag (encPr r)), .d (.ag (encC c))] (.tup [.d d, .int 0, .int 0]) [] := by
 rw [encP_cells] at h
 rw [encP_cells] at hb
 refine snd_of [] Try.func9 rfl (by kernel_rfl) Try.ntmps9 (by simp) ?_
 unfold Try.f9
 simp only [List.cons_append, List.nil_append, List.length_cons, List.length_nil, Nat.reduceAdd, Nat.reduceSub, List.replicate]
 apply Run.seq
 refine opsF oo81 fun K hK => ?_
 try simp
 repeat' first | (refine evL_c ?_; simp) | (with_reducible first | apply aI | intro _ | assumption) | omega
 all_goals (apply Fin.go hK; clear hK K)
 simp only [tN]
 apply Run.seq
 refine opsF oo82 fun K hK => ?_
 try simp
 repeat' first | (refine ecall (by exact h) rfl ?_) | (refine evL_c ?_; simp) | (with_reducible first | apply aI | intro _ | assumption) | omega
 all_goals (apply Fin.go hK; clear hK K)
 simp only [tN]
 apply Run.seq
 apply Run.seq
 refine opsF oo83 fun K hK => ?_
 try simp
 repeat' first | (refine evL_c ?_; simp) | (with_reducible first | apply aI | intro _ | assumption) | omega
 all_goals (apply Fin.go hK; clear hK K)
 simp only [tN]
 refine Run.cond rfl (fun h20 => ?_) (fun h20 => ?_)
 ·simp at h20
 ·skip
  apply Run.skip
  simp only [tN]
  apply Run.seq
  refine opsF [oL 48 7 24, oL 32 3 25, oC 24 #[.tmp 24, .tmp 25] #[48, 32] 26, oM 26 23, oX 23 0 27, oX 23 1 28, oA 27 10, oA 28 11] fun K hK => ?_
  try simp
  repeat' first | (refine ecall (by exact hb) rfl ?_) | (refine evL_c ?_; simp) | (with_reducible first | apply aI | intro _ | assumption) | omega
  all_goals (apply Fin.go hK; clear hK K)
  simp only [tN]
  apply Run.seq
  refine opsF [oM 10 29, oA 29 4, ⟨.assign (.const (.int .i64 0)), some 5, none⟩, ⟨.assign (.const (.int .i64 0)), some 6, none⟩] fun K hK => ?_
  try simp
  repeat' first | (refine evL_c ?_; simp) | (with_reducible first | apply aI | intro _ | assumption) | omega
  all_goals (apply Fin.go hK; clear hK K)
  simp only [tN]
  apply Run.ret
  try simp only [Then_ret, Blok_ret]
  simp
set_option maxHeartbeats 8000000 in
theorem weight_ok (r : ProgR) (most : Int) (h0 : 0 ≤ most) (h1 : most ≤ 1100000) (hw : wP r.pipes ≤ 1100000) (ht : r.tabs.length ≤ 1100000) (hT : ∀ t ∈ r.tabs, t.length ≤ 1100000) : Snd P 10 [.d (.ag (encPr r)), .int most] (.int (weightS r most)) [] := by
 have hn1 := wP_len r.pipes
 unfold weightS
 obtain ⟨n, hn⟩ : ∃ z, r.pipes.length = z := ⟨_, rfl⟩
 obtain ⟨nt, hnt⟩ : ∃ z, r.tabs.length = z := ⟨_, rfl⟩
 rw [hn] at hn1
 rw [hnt] at ht
 rw [hn, hnt]
 obtain ⟨W1, hW1⟩ : ∃ z, goTb r.tabs most ((n : Int) + (nt : Nat)) = z := ⟨_, rfl⟩
 rw [hW1]
 obtain ⟨W0, hW0⟩ : ∃ z, goPi r.pipes most W1 = z := ⟨_, rfl⟩
 rw [hW0]
 have hw0 : IntKind.i64.wrap ((n : Int) + (nt : Nat)) = n + nt := wrap_id (by omega) (by omega)
 refine snd_of [] Try.func10 rfl (by kernel_rfl) Try.ntmps10 (by simp) ?_
 unfold Try.f10
 simp only [List.cons_append, List.nil_append, List.length_cons, List.length_nil, Nat.reduceAdd, Nat.reduceSub, List.replicate]
 apply Run.seq
 refine opsF [⟨.box 25 (.tmp 0), some 2, none⟩, ⟨.assign (.const (.int .i64 0)), some 4, none⟩] fun K hK => ?_
 try simp
 repeat' first | (refine evL_c ?_; simp [hn, hnt, hw0]) | (with_reducible first | apply aI | intro _ | assumption) | omega
 all_goals (apply Fin.go hK; clear hK K)
 simp only [tN]
 apply Run.seq
 refine opsF [oF 25 2 1 10, oL 23 10 11, oN 23 11 12, oF 25 2 0 13, oL 22 13 14, oN 22 14 15, oB .add 3 12 15 3 16, oA 16 5] fun K hK => ?_
 try simp
 repeat' first | (refine evL_c ?_; simp [hn, hnt, hw0]) | (with_reducible first | apply aI | intro _ | assumption) | omega
 all_goals (apply Fin.go hK; clear hK K)
 simp only [tN]
 apply Run.seq
 apply Run.seq
 refine opsF oo79 fun K hK => ?_
 try simp
 repeat' first | (refine evL_c ?_; simp [hn, hnt, hw0]) | (with_reducible first | apply aI | intro _ | assumption) | omega
 all_goals (apply Fin.go hK; clear hK K)
 simp only [tN]
 apply Run.block
 refine Run.loopO [5, 6, 17, 18, 19, 20, 21, 22, 23, 24, 25, 26, 27, 28, 29, 30, 31, 32, 33, 34, 35, 36] (fun (y : Nat × Int) => [(6, .int y.1), (5, .int y.2)]) (fun (y : Nat × Int) => [(300, .vals ((encPr r).map .d))]) (fun (y : Nat × Int) => y.1 ≤ nt ∧ 0 ≤ y.2 ∧ y.2 ≤ 4400000 ∧ goTb (r.tabs.drop y.1) most y.2 = W1) (fun (y : Nat × Int) => nt - y.1) (0, (n : Int) + nt) ⟨by omega, by simp only; omega, by simp only; omega, by simpa using hW1⟩ (by simp [hn, hnt]) fun ⟨i, v⟩ ⟨hi, hv1, hv2, hg⟩ => ?_
 simp only at hi hv1 hv2 hg
 simp only [over, List.foldl, List.set]
 apply Run.seq
 refine Run.cut [17, 18, 19, 20, 21, 22, 23, 24, 25, 26] [(26, .bool (decide (i < nt ∧ v ≤ most)))] [(300, .vals ((encPr r).map .d))] ?_ ?_
 ·refine opsF [oM 6 17, oF 25 2 0 18, oL 22 18 19, oN 22 19 20, oB .lss 3 17 20 3 21, oM 21 22, ⟨.move (.tmp 5), some 23, some (some 22, true)⟩, ⟨.move (.tmp 1), some 24, some (some 22, true)⟩, ⟨.binOp .leq 3 (.tmp 23) (.tmp 24) 3, some 25, some (some 22, true)⟩, ⟨.pick (.tmp 22) (.tmp 25) (.const (.bool false)), some 26, none⟩] fun K hK => ?_
  try simp
  repeat' first | ((first | refine evL_c ?_ | (refine evL_g rfl ?_; try simp only [gs_tt, gs_ff, gs_tf, gs_ft]) | refine evL_u rfl ?_ | (with_reducible refine gsplit (fun hg => ?_) (fun hg => ?_) <;> try simp at hg)) <;> try simp [hn, hnt, hw0]) | (with_reducible first | apply aI | intro _ | assumption) | omega
  all_goals (apply Fin.go hK; clear hK K)
  all_goals
   (try simp [hn, hnt]) <;> (first | omega | (simp; done) | (simp_all; done) | grind)
 ·simp only [over, List.foldl, List.set]
  refine Run.cond rfl (fun h26 => ?_) (fun h26 => ?_)
  ·replace h26 := of_decide_eq_true h26
   obtain ⟨hc1, hc2⟩ := h26
   have hc3 : (i : Int) < nt := by omega
   obtain ⟨tl, htl⟩ : ∃ z, (rdI r.tabs (i : Nat)).length = z := ⟨_, rfl⟩
   have htm := hT _ (rdI_mem (l := r.tabs) (i := (i : Nat)) (by omega) (by omega))
   rw [htl] at htm
   have hw1 : IntKind.i64.wrap (v + tl) = v + tl := wrap_id (by omega) (by omega)
   apply Run.skip
   simp only [tN]
   apply Run.seq
   apply Run.block
   refine opsF [oM 5 29, oF 25 2 0 30, oL 22 30 31, oM 6 32, oI 22 31 32 33, oL 46 33 34, oN 46 34 35, oB .add 3 29 35 3 36, oA 36 5] fun K hK => ?_
   try simp
   repeat' first | (refine evL_c ?_; simp [hn, hnt, hw0, hc1, htl, hw1]) | (with_reducible first | apply aI | intro _ | assumption) | omega
   all_goals (apply Fin.go hK; clear hK K)
   simp only [Blok_normal]
   simp only [tN]
   refine opsF [oM 6 27, oK .add 3 27 1 3 28, oA 28 6] fun K hK => ?_
   try simp
   repeat' first | (refine evL_c ?_; simp [hn, hnt, hw0, hc1, htl, hw1]) | (with_reducible first | apply aI | intro _ | assumption) | omega
   all_goals (apply Fin.go hK; clear hK K)
   refine ⟨(i + 1, v + tl), ⟨by simp only; omega, by simp only; omega, by simp only; omega, ?_⟩, by simp only; omega, ?_⟩
   ·simp only
    rw [← hg, goTb_step (by omega) hc2, htl]
   ·simp (disch := omega) [hn, hnt, wrap_id]
  ·replace h26 := of_decide_eq_false h26
   rw [goTb_end (by omega)] at hg
   subst hg
   refine Run.exit ?_
   simp (decide := true) only [Then_exit, Blok_exit, if_true, if_false]
   simp only [tN]
   apply Run.seq
   apply Run.seq
   refine opsF oo80 fun K hK => ?_
   try simp
   repeat' first | (refine evL_c ?_; simp [hn, hnt, hw0]) | (with_reducible first | apply aI | intro _ | assumption) | omega
   all_goals (apply Fin.go hK; clear hK K)
   simp only [tN]
   apply Run.block
   refine Run.loopO [5, 7, 8, 9, 37, 38, 39, 40, 41, 42, 43, 44, 45, 46, 47, 48, 49, 50, 51, 52, 53, 54, 55, 56, 57, 58, 59, 60, 61, 62, 63, 64, 65, 66, 67, 68, 69, 70, 71, 72, 73, 74, 75, 76, 77, 78, 79, 80, 81, 82, 83, 84] (fun (y : Nat × Int) => [(7, .int y.1), (5, .int y.2)]) (fun (y : Nat × Int) => [(300, .vals ((encPr r).map .d))]) (fun (y : Nat × Int) => y.1 ≤ n ∧ 0 ≤ y.2 ∧ y.2 ≤ 4400000 ∧ goPi (r.pipes.drop y.1) most y.2 = W0) (fun (y : Nat × Int) => n - y.1) (0, v) ⟨by omega, by simp only; omega, by simp only; omega, by simpa using hW0⟩ (by simp [hn, hnt]) fun ⟨k, v1⟩ ⟨hk, hv3, hv4, hg1⟩ => ?_
   simp only at hk hv3 hv4 hg1
   simp only [over, List.foldl, List.set]
   apply Run.seq
   refine Run.cut [37, 38, 39, 40, 41, 42, 43, 44, 45, 46] [(46, .bool (decide (k < n ∧ v1 ≤ most)))] [(300, .vals ((encPr r).map .d))] ?_ ?_
   ·refine opsF [oM 7 37, oF 25 2 1 38, oL 23 38 39, oN 23 39 40, oB .lss 3 37 40 3 41, oM 41 42, ⟨.move (.tmp 5), some 43, some (some 42, true)⟩, ⟨.move (.tmp 1), some 44, some (some 42, true)⟩, ⟨.binOp .leq 3 (.tmp 43) (.tmp 44) 3, some 45, some (some 42, true)⟩, ⟨.pick (.tmp 42) (.tmp 45) (.const (.bool false)), some 46, none⟩] fun K hK => ?_
    try simp
    repeat' first | ((first | refine evL_c ?_ | (refine evL_g rfl ?_; try simp only [gs_tt, gs_ff, gs_tf, gs_ft]) | refine evL_u rfl ?_ | (with_reducible refine gsplit (fun hg => ?_) (fun hg => ?_) <;> try simp at hg)) <;> try simp [hn, hnt, hw0]) | (with_reducible first | apply aI | intro _ | assumption) | omega
    all_goals (apply Fin.go hK; clear hK K)
    all_goals
     (try simp [hn, hnt]) <;> (first | omega | (simp; done) | (simp_all; done) | grind)
   ·simp only [over, List.foldl, List.set]
    refine Run.cond rfl (fun h46 => ?_) (fun h46 => ?_)
    ·replace h46 := of_decide_eq_true h46
     obtain ⟨hd1, hd2⟩ := h46
     have hd3 : (k : Int) < n := by omega
     obtain ⟨x, hx⟩ : ∃ z, rdI r.pipes (k : Nat) = z := ⟨_, rfl⟩
     have hxm := wP_mem (rdI_mem (l := r.pipes) (i := (k : Nat)) (by omega) (by omega))
     rw [hx] at hxm
     obtain ⟨m, hm⟩ : ∃ z, x.steps.length = z := ⟨_, rfl⟩
     have hml := wL_len x.steps
     rw [hm] at hml
     obtain ⟨W2, hW2⟩ : ∃ z, goSt x.steps most v1 = z := ⟨_, rfl⟩
     apply Run.skip
     simp only [tN]
     apply Run.seq
     apply Run.block
     apply Run.seq
     refine opsF oo84 fun K hK => ?_
     try simp
     repeat' first | (refine evL_c ?_; simp [hn, hnt, hw0, hd1, hx, hm]) | (with_reducible first | apply aI | intro _ | assumption) | omega
     all_goals (apply Fin.go hK; clear hK K)
     simp only [tN]
     apply Run.block
     refine Run.loopO [5, 8, 9, 49, 50, 51, 52, 53, 54, 55, 56, 57, 58, 59, 60, 61, 62, 63, 64, 65, 66, 67, 68, 69, 70, 71, 72, 73, 74, 75, 76, 77, 78, 79, 80, 81, 82, 83, 84] (fun (y : Nat × Int) => [(8, .int y.1), (5, .int y.2)]) (fun (y : Nat × Int) => [(300, .vals ((encPr r).map .d))]) (fun (y : Nat × Int) => y.1 ≤ m ∧ 0 ≤ y.2 ∧ y.2 ≤ 4400000 ∧ goSt (x.steps.drop y.1) most y.2 = W2) (fun (y : Nat × Int) => m - y.1) (0, v1) ⟨by omega, by simp only; omega, by simp only; omega, by simpa using hW2⟩ (by simp [hn, hnt]) fun ⟨j, v2⟩ ⟨hj, hv5, hv6, hg2⟩ => ?_
     simp only at hj hv5 hv6 hg2
     simp only [over, List.foldl, List.set]
     apply Run.seq
     refine Run.cut [49, 50, 51, 52, 53, 54, 55, 56, 57, 58, 59, 60, 61, 62] [(62, .bool (decide (j < m ∧ v2 ≤ most)))] [(300, .vals ((encPr r).map .d))] ?_ ?_
     ·refine opsF [oM 8 49, oF 25 2 1 50, oL 23 50 51, oM 7 52, oI 23 51 52 53, oF 41 53 1 54, oL 39 54 55, oN 39 55 56, oB .lss 3 49 56 3 57, oM 57 58, ⟨.move (.tmp 5), some 59, some (some 58, true)⟩, ⟨.move (.tmp 1), some 60, some (some 58, true)⟩, ⟨.binOp .leq 3 (.tmp 59) (.tmp 60) 3, some 61, some (some 58, true)⟩, ⟨.pick (.tmp 58) (.tmp 61) (.const (.bool false)), some 62, none⟩] fun K hK => ?_
      try simp
      repeat' first | ((first | refine evL_c ?_ | (refine evL_g rfl ?_; try simp only [gs_tt, gs_ff, gs_tf, gs_ft]) | refine evL_u rfl ?_ | (with_reducible refine gsplit (fun hg => ?_) (fun hg => ?_) <;> try simp at hg)) <;> try simp [hn, hnt, hw0, hd1, hx, hm]) | (with_reducible first | apply aI | intro _ | assumption) | omega
      all_goals (apply Fin.go hK; clear hK K)
      all_goals
       (try simp [hn, hnt]) <;> (first | omega | (simp; done) | (simp_all; done) | grind)
     ·simp only [over, List.foldl, List.set]
      refine Run.cond rfl (fun h62 => ?_) (fun h62 => ?_)
      ·replace h62 := of_decide_eq_true h62
       obtain ⟨hb1, hb2⟩ := h62
       have hb3 : (j : Int) < m := by omega
       obtain ⟨s, hs⟩ : ∃ z, rdI x.steps (j : Nat) = z := ⟨_, rfl⟩
       have hsm := wL_mem (rdI_mem (l := x.steps) (i := (j : Nat)) (by omega) (by omega))
       rw [hs] at hsm
       have hsp := stepW_parts s
       have hqr := partsR_rng (stepW s) (most - v2) (by omega) (by omega)
       obtain ⟨q, hq⟩ : ∃ z, partsR (stepW s) (most - v2) = z := ⟨_, rfl⟩
       have hP := snd_sub (args := [.d (.ag [.int 0, .lit (.slice none 0 0), .int 0, .sl false (s.edges.map encI), .bool false, .sl false (s.terms.map encT)]), .int (most - v2)]) (parts_ok (stepW s) (by omega) (most - v2) (by omega) (by omega)) ⟨DSub.ag ⟨.refl _, DSub.nil, .refl _, .refl _, .refl _, .refl _, trivial⟩, .refl _, trivial⟩
       rw [hq] at hP hqr
       have hw2 : IntKind.i64.wrap (most - v2) = most - v2 := wrap_id (by omega) (by omega)
       have hw3 : IntKind.i64.wrap (v2 + q) = v2 + q := wrap_id (by omega) (by omega)
       apply Run.skip
       simp only [tN]
       apply Run.seq
       apply Run.block
       apply Run.seq
       refine opsF [oF 25 2 1 65, oL 23 65 66, oM 7 67, oI 23 66 67 68, oF 41 68 1 69, oL 39 69 70, oM 8 71, oI 39 70 71 72, oL 75 72 73, ⟨.alloc 75, some 9, none⟩, oS 75 9 73] fun K hK => ?_
       try simp
       repeat' first | (refine evL_c ?_; simp [hn, hnt, hw0, hd1, hx, hm, hb1, hs, hw2, hw3]) | (with_reducible first | apply aI | intro _ | assumption) | omega
       all_goals (apply Fin.go hK; clear hK K)
       simp only [tN]
       refine opsF [oM 5 74, oF 75 9 4 75, oL 28 75 76, oF 75 9 2 77, oL 46 77 78, ⟨.build 48 #[(5, .tmp 76), (3, .tmp 78)], some 79, none⟩, oM 1 80, oM 5 81, oB .sub 3 80 81 3 82, oC 16 #[.tmp 79, .tmp 82] #[48, 3] 83, oB .add 3 74 83 3 84, oA 84 5] fun K hK => ?_
       try simp
       repeat' first | (refine ecallD (by exact hP) ?_) | (refine evL_c ?_; simp [hn, hnt, hw0, hd1, hx, hm, hb1, hs, hw2, hw3]) | (with_reducible first | apply aI | intro _ | assumption) | omega
       all_goals (apply Fin.go hK; clear hK K)
       simp only [Blok_normal]
       simp only [tN]
       refine opsF [oM 8 63, oK .add 3 63 1 3 64, oA 64 8] fun K hK => ?_
       try simp
       repeat' first | (refine evL_c ?_; simp [hn, hnt, hw0, hd1, hx, hm, hb1, hs, hw2, hw3]) | (with_reducible first | apply aI | intro _ | assumption) | omega
       all_goals (apply Fin.go hK; clear hK K)
       refine ⟨(j + 1, v2 + q), ⟨by simp only; omega, by simp only; omega, by simp only; omega, ?_⟩, by simp only; omega, ?_⟩
       ·simp only
        rw [← hg2, goSt_step (by omega) hb2, hs, hq]
       ·simp (disch := omega) [hn, hnt, wrap_id]
      ·replace h62 := of_decide_eq_false h62
       rw [goSt_end (by omega)] at hg2
       subst hg2
       refine Run.exit ?_
       simp (decide := true) only [Then_exit, Blok_exit, if_true, if_false]
       simp only [Blok_normal]
       simp only [tN]
       refine opsF [oM 7 47, oK .add 3 47 1 3 48, oA 48 7] fun K hK => ?_
       try simp
       repeat' first | (refine evL_c ?_; simp [hn, hnt, hw0, hd1, hx, hm]) | (with_reducible first | apply aI | intro _ | assumption) | omega
       all_goals (apply Fin.go hK; clear hK K)
       refine ⟨(k + 1, v2), ⟨by simp only; omega, by simp only; omega, by simp only; omega, ?_⟩, by simp only; omega, ?_⟩
       ·simp only
        rw [← hg1, goPi_step (by omega) hd2, hx, ← hW2]
       ·simp (disch := omega) [hn, hnt, wrap_id]
    ·replace h46 := of_decide_eq_false h46
     rw [goPi_end (by omega)] at hg1
     refine Run.exit ?_
     simp (decide := true) only [Then_exit, Blok_exit, if_true, if_false]
     simp only [tN]
     apply Run.seq
     refine opsF [oM 5 85, oA 85 4] fun K hK => ?_
     try simp
     repeat' first | (refine evL_c ?_; simp [hn, hnt, hw0]) | (with_reducible first | apply aI | intro _ | assumption) | omega
     all_goals (apply Fin.go hK; clear hK K)
     simp only [tN]
     apply Run.ret
     try simp only [Then_ret, Blok_ret]
     simp [hg1]
theorem check_ok (c : CoreT) (r : ProgR) (hw : wP r.pipes ≤ 1100000) (ht : r.tabs.length ≤ 1100000) (hc : c.wher.length ≤ 1100000) : Snd P 9 [.d (.ag (encPr r)), .d (.ag (encC c))] (.tup [.d (checkS c r).1, .int (checkS c r).2.1, .int (checkS c r).2.2]) [] := by
 have h := plan_ok c r hw ht hc
 unfold checkS
 split
 ·rename_i he
  have hb := Bound_ok c (planS c r).1 (planS_parts c r hw he)
  rw [he] at h
  exact checkA_ok c r _ _ _ _ h hb
 ·rename_i he; exact checkN_ok c r _ _ _ he h
end Go.Proofs.Ytimgbdkgjfbhkaa.Z
end
section
namespace Go.Proofs.Ytimgbdkgjfbhkaa.Z
open Go Go.Fw
theorem cloneIA_ok (l : List Int) (h0 : 0 < l.length) (hl : l.length ≤ 2200000) : Snd P 47 [.d (.sl false (l.map encI))] (.d (.sl false (l.map encI))) [] := by
 obtain ⟨m, hm⟩ : ∃ m, l.length = m := ⟨_, rfl⟩
 have hne : ¬ l = [] := by rintro rfl; simp at h0
 rw [hm] at h0 hl
 refine snd_of [] Try.func47 rfl (by kernel_rfl) Try.ntmps47 (by simp) ?_
 unfold Try.f47
 simp only [List.cons_append, List.nil_append, List.length_cons, List.length_nil, Nat.reduceAdd, Nat.reduceSub, List.replicate]
 apply Run.seq
 refine opsF oo85 fun K hK => ?_
 try simp
 repeat' first | (refine evL_c ?_; simp [hm, h0, hne]) | (with_reducible first | apply aI | intro _ | assumption) | omega
 all_goals (apply Fin.go hK; clear hK K)
 simp only [tN]
 apply Run.seq
 apply Run.seq
 refine opsF oo86 fun K hK => ?_
 try simp
 repeat' first | (refine evL_c ?_; simp [hm, h0, hne]) | (with_reducible first | apply aI | intro _ | assumption) | omega
 all_goals (apply Fin.go hK; clear hK K)
 simp only [tN]
 refine Run.cond rfl (fun h4 => ?_) (fun h4 => ?_)
 ·simp at h4
 ·skip
  apply Run.skip
  simp only [tN]
  apply Run.seq
  refine opsF oo87 fun K hK => ?_
  try simp
  repeat' first | (refine evL_c ?_; simp [hm, h0, hne]) | (with_reducible first | apply aI | intro _ | assumption) | omega
  all_goals (apply Fin.go hK; clear hK K)
  simp only [tN]
  apply Run.ret
  try simp only [Then_ret, Blok_ret]
  simp [hm, List.take_of_length_le]
theorem cloneIN_ok : Snd P 47 [.d (.sl false [])] (.d (.sl false [])) [] := by
 refine snd_of [] Try.func47 rfl (by kernel_rfl) Try.ntmps47 (by simp) ?_
 unfold Try.f47
 simp only [List.cons_append, List.nil_append, List.length_cons, List.length_nil, Nat.reduceAdd, Nat.reduceSub, List.replicate]
 refine Run.spl 0 rfl (fun cap => ?_) ?_ <;> simp only [List.set]
 ·apply Run.seq
  refine opsF oo85 fun K hK => ?_
  try simp
  repeat' first | (refine evL_c ?_; simp) | (with_reducible first | apply aI | intro _ | assumption) | omega
  all_goals (apply Fin.go hK; clear hK K)
  simp only [tN]
  apply Run.seq
  apply Run.seq
  refine opsF oo86 fun K hK => ?_
  try simp
  repeat' first | (refine evL_c ?_; simp) | (with_reducible first | apply aI | intro _ | assumption) | omega
  all_goals (apply Fin.go hK; clear hK K)
  simp only [tN]
  refine Run.cond rfl (fun h4 => ?_) (fun h4 => ?_)
  ·skip
   apply Run.seq
   refine opsF oo85 fun K hK => ?_
   try simp
   repeat' first | (refine evL_c ?_; simp) | (with_reducible first | apply aI | intro _ | assumption) | omega
   all_goals (apply Fin.go hK; clear hK K)
   simp only [tN]
   refine Run.subV 2 (.d (.sl false [])) rfl nil_sl ?_
   simp only [List.set]
   apply Run.ret
   try simp only [Then_ret, Blok_ret]
   simp
  ·simp at h4
 ·apply Run.seq
  refine opsF oo85 fun K hK => ?_
  try simp
  repeat' first | (refine evL_c ?_; simp) | (with_reducible first | apply aI | intro _ | assumption) | omega
  all_goals (apply Fin.go hK; clear hK K)
  simp only [tN]
  apply Run.seq
  apply Run.seq
  refine opsF oo86 fun K hK => ?_
  try simp
  repeat' first | (refine evL_c ?_; simp) | (with_reducible first | apply aI | intro _ | assumption) | omega
  all_goals (apply Fin.go hK; clear hK K)
  simp only [tN]
  refine Run.cond rfl (fun h4 => ?_) (fun h4 => ?_)
  ·simp at h4
  ·skip
   apply Run.skip
   simp only [tN]
   apply Run.seq
   refine opsF oo87 fun K hK => ?_
   try simp
   repeat' first | (refine evL_c ?_; simp) | (with_reducible first | apply aI | intro _ | assumption) | omega
   all_goals (apply Fin.go hK; clear hK K)
   simp only [tN]
   apply Run.ret
   try simp only [Then_ret, Blok_ret]
   simp
theorem cloneI_ok (l : List Int) (hl : l.length ≤ 2200000) : Snd P 47 [.d (.sl false (l.map encI))] (.d (.sl false (l.map encI))) [] := by
 cases l with
 | nil => exact cloneIN_ok
 | cons x r => exact cloneIA_ok (x :: r) (by simp) hl
theorem cloneTA_ok (l : List TermT) (h0 : 0 < l.length) (hl : l.length ≤ 2200000) : Snd P 48 [.d (.sl false (l.map encT))] (.d (.sl false (l.map encT))) [] := by
 obtain ⟨m, hm⟩ : ∃ m, l.length = m := ⟨_, rfl⟩
 have hne : ¬ l = [] := by rintro rfl; simp at h0
 rw [hm] at h0 hl
 refine snd_of [] Try.func48 rfl (by kernel_rfl) Try.ntmps48 (by simp) ?_
 unfold Try.f48
 simp only [List.cons_append, List.nil_append, List.length_cons, List.length_nil, Nat.reduceAdd, Nat.reduceSub, List.replicate]
 apply Run.seq
 refine opsF oo85 fun K hK => ?_
 try simp
 repeat' first | (refine evL_c ?_; simp [hm, h0, hne]) | (with_reducible first | apply aI | intro _ | assumption) | omega
 all_goals (apply Fin.go hK; clear hK K)
 simp only [tN]
 apply Run.seq
 apply Run.seq
 refine opsF oo88 fun K hK => ?_
 try simp
 repeat' first | (refine evL_c ?_; simp [hm, h0, hne]) | (with_reducible first | apply aI | intro _ | assumption) | omega
 all_goals (apply Fin.go hK; clear hK K)
 simp only [tN]
 refine Run.cond rfl (fun h4 => ?_) (fun h4 => ?_)
 ·simp at h4
 ·skip
  apply Run.skip
  simp only [tN]
  apply Run.seq
  refine opsF oo89 fun K hK => ?_
  try simp
  repeat' first | (refine evL_c ?_; simp [hm, h0, hne]) | (with_reducible first | apply aI | intro _ | assumption) | omega
  all_goals (apply Fin.go hK; clear hK K)
  simp only [tN]
  apply Run.ret
  try simp only [Then_ret, Blok_ret]
  simp [hm, List.take_of_length_le]
theorem cloneTN_ok : Snd P 48 [.d (.sl false [])] (.d (.sl false [])) [] := by
 refine snd_of [] Try.func48 rfl (by kernel_rfl) Try.ntmps48 (by simp) ?_
 unfold Try.f48
 simp only [List.cons_append, List.nil_append, List.length_cons, List.length_nil, Nat.reduceAdd, Nat.reduceSub, List.replicate]
 refine Run.spl 0 rfl (fun cap => ?_) ?_ <;> simp only [List.set]
 ·apply Run.seq
  refine opsF oo85 fun K hK => ?_
  try simp
  repeat' first | (refine evL_c ?_; simp) | (with_reducible first | apply aI | intro _ | assumption) | omega
  all_goals (apply Fin.go hK; clear hK K)
  simp only [tN]
  apply Run.seq
  apply Run.seq
  refine opsF oo88 fun K hK => ?_
  try simp
  repeat' first | (refine evL_c ?_; simp) | (with_reducible first | apply aI | intro _ | assumption) | omega
  all_goals (apply Fin.go hK; clear hK K)
  simp only [tN]
  refine Run.cond rfl (fun h4 => ?_) (fun h4 => ?_)
  ·skip
   apply Run.seq
   refine opsF oo85 fun K hK => ?_
   try simp
   repeat' first | (refine evL_c ?_; simp) | (with_reducible first | apply aI | intro _ | assumption) | omega
   all_goals (apply Fin.go hK; clear hK K)
   simp only [tN]
   refine Run.subV 2 (.d (.sl false [])) rfl nil_sl ?_
   simp only [List.set]
   apply Run.ret
   try simp only [Then_ret, Blok_ret]
   simp
  ·simp at h4
 ·apply Run.seq
  refine opsF oo85 fun K hK => ?_
  try simp
  repeat' first | (refine evL_c ?_; simp) | (with_reducible first | apply aI | intro _ | assumption) | omega
  all_goals (apply Fin.go hK; clear hK K)
  simp only [tN]
  apply Run.seq
  apply Run.seq
  refine opsF oo88 fun K hK => ?_
  try simp
  repeat' first | (refine evL_c ?_; simp) | (with_reducible first | apply aI | intro _ | assumption) | omega
  all_goals (apply Fin.go hK; clear hK K)
  simp only [tN]
  refine Run.cond rfl (fun h4 => ?_) (fun h4 => ?_)
  ·simp at h4
  ·skip
   apply Run.skip
   simp only [tN]
   apply Run.seq
   refine opsF oo89 fun K hK => ?_
   try simp
   repeat' first | (refine evL_c ?_; simp) | (with_reducible first | apply aI | intro _ | assumption) | omega
   all_goals (apply Fin.go hK; clear hK K)
   simp only [tN]
   apply Run.ret
   try simp only [Then_ret, Blok_ret]
   simp
theorem cloneT_ok (l : List TermT) (hl : l.length ≤ 2200000) : Snd P 48 [.d (.sl false (l.map encT))] (.d (.sl false (l.map encT))) [] := by
 cases l with
 | nil => exact cloneTN_ok
 | cons x r => exact cloneTA_ok (x :: r) (by simp) hl
end Go.Proofs.Ytimgbdkgjfbhkaa.Z
end
section
namespace Go.Proofs.Ytimgbdkgjfbhkaa.Z
open Go Go.Fw
attribute [-simp] litV
attribute [local simp] litV_agg litV_int litV_str litV_bool litV_slice litV_tup
theorem partsL_len : ∀ l : List PlanT, l.length ≤ partsL l
 | [] => Nat.zero_le _
 | p :: r => by have := partsL_len r; have := keep_plan p; simp only [List.length_cons, partsL]; omega
def kindS (op : Int) : Int := if op = 1 then 2 else if op = 2 then 3 else if op = 3 then 5 else if op = 4 then 6 else 0
theorem kind_ok (op : Int) : Snd P 49 [.int op] (.int (kindS op)) [] := by
 refine snd_of [] Try.func49 rfl (by kernel_rfl) Try.ntmps49 (by simp) ?_
 unfold Try.f49
 simp only [List.cons_append, List.nil_append, List.length_cons, List.length_nil, Nat.reduceAdd, Nat.reduceSub, List.replicate]
 apply Run.seq
 refine opsF oo90 fun K hK => ?_
 try simp
 repeat' first | (refine evL_c ?_; simp) | (with_reducible first | apply aI | intro _ | assumption) | omega
 all_goals (apply Fin.go hK; clear hK K)
 simp only [tN]
 apply Run.seq
 apply Run.seq
 refine opsF [oM 0 3] fun K hK => ?_
 try simp
 repeat' first | (refine evL_c ?_; simp) | (with_reducible first | apply aI | intro _ | assumption) | omega
 all_goals (apply Fin.go hK; clear hK K)
 simp only [tN]
 apply Run.block
 apply Run.seq
 refine opsF [oK .eql 73 3 1 73 5, oA 5 4] fun K hK => ?_
 try simp
 repeat' first | (refine evL_c ?_; simp) | (with_reducible first | apply aI | intro _ | assumption) | omega
 all_goals (apply Fin.go hK; clear hK K)
 simp only [tN]
 refine Run.cond rfl (fun h4 => ?_) (fun h4 => ?_)
 ·try simp at h4
  apply Run.seq
  refine opsF [⟨.assign (.const (.int .i64 2)), some 2, none⟩] fun K hK => ?_
  try simp
  repeat' first | (refine evL_c ?_; simp [h4]) | (with_reducible first | apply aI | intro _ | assumption) | omega
  all_goals (apply Fin.go hK; clear hK K)
  simp only [tN]
  apply Run.ret
  try simp only [Then_ret, Blok_ret]
  simp [kindS, *]
 ·try simp at h4
  apply Run.seq
  refine opsF [oK .eql 73 3 2 73 7, oA 7 6] fun K hK => ?_
  try simp
  repeat' first | (refine evL_c ?_; simp [h4]) | (with_reducible first | apply aI | intro _ | assumption) | omega
  all_goals (apply Fin.go hK; clear hK K)
  simp only [tN]
  refine Run.cond rfl (fun h6 => ?_) (fun h6 => ?_)
  ·try simp at h6
   apply Run.seq
   refine opsF [⟨.assign (.const (.int .i64 3)), some 2, none⟩] fun K hK => ?_
   try simp
   repeat' first | (refine evL_c ?_; simp [h4, h6]) | (with_reducible first | apply aI | intro _ | assumption) | omega
   all_goals (apply Fin.go hK; clear hK K)
   simp only [tN]
   apply Run.ret
   try simp only [Then_ret, Blok_ret]
   simp [kindS, *]
  ·try simp at h6
   apply Run.seq
   refine opsF [oK .eql 73 3 3 73 9, oA 9 8] fun K hK => ?_
   try simp
   repeat' first | (refine evL_c ?_; simp [h4, h6]) | (with_reducible first | apply aI | intro _ | assumption) | omega
   all_goals (apply Fin.go hK; clear hK K)
   simp only [tN]
   refine Run.cond rfl (fun h8 => ?_) (fun h8 => ?_)
   ·try simp at h8
    apply Run.seq
    refine opsF [⟨.assign (.const (.int .i64 5)), some 2, none⟩] fun K hK => ?_
    try simp
    repeat' first | (refine evL_c ?_; simp [h4, h6, h8]) | (with_reducible first | apply aI | intro _ | assumption) | omega
    all_goals (apply Fin.go hK; clear hK K)
    simp only [tN]
    apply Run.ret
    try simp only [Then_ret, Blok_ret]
    simp [kindS, *]
   ·try simp at h8
    apply Run.seq
    refine opsF [oK .eql 73 3 4 73 11, oA 11 10] fun K hK => ?_
    try simp
    repeat' first | (refine evL_c ?_; simp [h4, h6, h8]) | (with_reducible first | apply aI | intro _ | assumption) | omega
    all_goals (apply Fin.go hK; clear hK K)
    simp only [tN]
    refine Run.cond rfl (fun h10 => ?_) (fun h10 => ?_)
    ·try simp at h10
     apply Run.seq
     refine opsF [⟨.assign (.const (.int .i64 6)), some 2, none⟩] fun K hK => ?_
     try simp
     repeat' first | (refine evL_c ?_; simp [h4, h6, h8, h10]) | (with_reducible first | apply aI | intro _ | assumption) | omega
     all_goals (apply Fin.go hK; clear hK K)
     simp only [tN]
     apply Run.ret
     try simp only [Then_ret, Blok_ret]
     simp [kindS, *]
    ·try simp at h10
     apply Run.skip
     simp only [Blok_normal]
     simp only [tN]
     apply Run.seq
     refine opsF oo90 fun K hK => ?_
     try simp
     repeat' first | (refine evL_c ?_; simp [h4, h6, h8, h10]) | (with_reducible first | apply aI | intro _ | assumption) | omega
     all_goals (apply Fin.go hK; clear hK K)
     simp only [tN]
     apply Run.ret
     try simp only [Then_ret, Blok_ret]
     simp [kindS, *]
set_option maxHeartbeats 4000000 in
theorem cloned1_ok (p : PlanT) (hf : partsP p ≤ 1100000) (IH : ∀ i : Nat, i < p.kids.length → Snd P 29 [.d (.ag (encP (rdI p.kids i)))] (.d (.ag (encP (rdI p.kids i)))) []) : Snd P 29 [.d (.ag (encP p))] (.d (.ag (encP p))) [] := by
 have hpe := partsP_eq p
 have hkl := partsL_len p.kids
 have hE := cloneI_ok p.edges (by omega)
 have hT := cloneT_ok p.terms (by omega)
 obtain ⟨m, hm⟩ : ∃ m, p.kids.length = m := ⟨_, rfl⟩
 rw [hm] at hkl
 refine snd_of [] Try.func29 rfl (by kernel_rfl) Try.ntmps29 (by simp) ?_
 unfold Try.f29
 simp only [List.cons_append, List.nil_append, List.length_cons, List.length_nil, Nat.reduceAdd, Nat.reduceSub, List.replicate]
 apply Run.seq
 refine opsF [⟨.box 48 (.tmp 0), some 1, none⟩, ⟨.alloc 48, some 2, none⟩] fun K hK => ?_
 try simp
 repeat' first | (refine evL_c ?_; simp [hm]) | (with_reducible first | apply aI | intro _ | assumption) | omega
 all_goals (apply Fin.go hK; clear hK K)
 simp only [tN]
 apply Run.seq
 refine opsF [oF 48 1 3 6, oL 46 6 7, oC 47 #[.tmp 7] #[46] 8, oF 48 1 5 9, oL 28 9 10, oC 48 #[.tmp 10] #[28] 11, oF 48 1 3 12, oS 46 12 8, oF 48 1 5 13, oS 28 13 11] fun K hK => ?_
 try simp
 repeat' first | (refine ecallD (by exact hE) ?_) | (refine ecallD (by exact hT) ?_) | (refine evL_c ?_; simp [hm]) | (with_reducible first | apply aI | intro _ | assumption) | omega
 all_goals (apply Fin.go hK; clear hK K)
 simp only [tN]
 apply Run.seq
 refine opsF [oF 48 1 1 14, oL 45 14 15, oA 15 3] fun K hK => ?_
 try simp
 repeat' first | (refine evL_c ?_; simp [hm]) | (with_reducible first | apply aI | intro _ | assumption) | omega
 all_goals (apply Fin.go hK; clear hK K)
 simp only [tN]
 apply Run.seq
 refine opsF [oF 48 1 1 16, ⟨.store 45 (.tmp 16) (.const (.slice none 0 0)), none, none⟩] fun K hK => ?_
 try simp
 repeat' first | (refine evL_c ?_; simp [hm]) | (with_reducible first | apply aI | intro _ | assumption) | omega
 all_goals (apply Fin.go hK; clear hK K)
 simp only [tN]
 refine Run.vir 2900 6 (by omega) ?_
 simp
 refine Run.subB 200 1 (.rs 2900 6 0 0) rfl rfl (nil_rs 2900 6) ?_
 simp
 apply Run.seq
 apply Run.seq
 refine opsF [oM 3 17, oN 45 17 18, ⟨.move (.const (.int .i64 0)), some 19, none⟩] fun K hK => ?_
 try simp
 repeat' first | (refine evL_c ?_; simp [hm]) | (with_reducible first | apply aI | intro _ | assumption) | omega
 all_goals (apply Fin.go hK; clear hK K)
 simp only [tN]
 apply Run.block
 refine Run.loopO [5, 19, 20, 21, 22, 23, 24, 25, 26, 27, 28, 29, 30] (fun (i : Nat) => [(19, .int i)]) (fun (i : Nat) => [(200, .vals [.int p.op, .rs 2900 6 0 i, .int p.slot, .d (.sl false (p.edges.map encI)), .bool p.back, .d (.sl false (p.terms.map encT))]), (300, .vals [.int 0, vnil, .int 0, vnil, .bool false, vnil]), (2900, .data 6 ((p.kids.take i).map encP))]) (fun (i : Nat) => i ≤ m) (fun (i : Nat) => m - i) 0 (by omega) (by simp) fun i hi => ?_
 simp only [over, List.foldl, List.set]
 obtain ⟨fl, hfl⟩ : ∃ x, p.kids.take i = x := ⟨_, rfl⟩
 have hfll : fl.length = i := by rw [← hfl, List.length_take]; omega
 rw [hfl]
 have hta : (fl.map encP).take i = fl.map encP := List.take_of_length_le (by simp [hfll])
 apply Run.seq
 refine opsF [oB .lss 3 19 18 3 20] fun K hK => ?_
 try simp
 repeat' first | (refine evL_c ?_; simp [hm]) | (with_reducible first | apply aI | intro _ | assumption) | omega
 all_goals (apply Fin.go hK; clear hK K)
 simp only [tN]
 apply Run.seq
 refine Run.cond rfl (fun h20 => ?_) (fun h20 => ?_)
 ·try simp at h20
  have hi1 : i < m := by omega
  have hi2 : (i : Int) < m := by omega
  have hI := IH i (by omega)
  obtain ⟨q, hq⟩ : ∃ z, rdI p.kids (i : Nat) = z := ⟨_, rfl⟩
  rw [hq, encP_cells] at hI
  apply Run.skip
  simp only [tN]
  apply Run.seq
  apply Run.block
  apply Run.seq
  refine opsF [oI 45 17 19 21, oL 48 21 22, ⟨.alloc 48, some 5, none⟩, oS 48 5 22] fun K hK => ?_
  try simp
  repeat' first | (refine evL_c ?_; simp [hm, hi1, hi2, hta, hq, hfll]) | (with_reducible first | apply aI | intro _ | assumption) | omega
  all_goals (apply Fin.go hK; clear hK K)
  simp only [tN]
  refine opsF [oF 48 1 1 23, oL 45 23 24, oL 48 5 25, oC 29 #[.tmp 25] #[48] 26, ⟨.buildSlice 45 1 #[(0, .tmp 26)], some 27, none⟩, ⟨.call { callee := .builtin .append, args := #[.tmp 24, .tmp 27], argTypes := #[45, 45] }, some 28, none⟩, oF 48 1 1 29, oS 45 29 28] fun K hK => ?_
  try simp
  repeat' first | (refine ecallD (by exact hI) ?_) | (refine evL_c ?_; simp [hm, hi1, hi2, hta, hq, hfll]) | (with_reducible first | apply aI | intro _ | assumption) | omega
  all_goals (apply Fin.go hK; clear hK K)
  simp only [Blok_normal]
  simp only [tN]
  refine opsF [oK .add 3 19 1 3 30, oM 30 19] fun K hK => ?_
  try simp
  repeat' first | (refine evL_c ?_; simp [hm, hi1, hi2, hta, hq, hfll]) | (with_reducible first | apply aI | intro _ | assumption) | omega
  all_goals (apply Fin.go hK; clear hK K)
  refine ⟨i + 1, by omega, by omega, ?_⟩
  rw [take_rd (by omega), hfl, hq]
  simp (disch := omega) [hm, hta, wrap_id]
 ·try simp at h20
  have hi3 : i = m := by omega
  subst hi3
  have hfin : fl = p.kids := by rw [← hfl]; exact List.take_of_length_le (by omega)
  rw [hfin] at hta
  refine Run.exit ?_
  simp (decide := true) only [Then_exit, Blok_exit, if_true, if_false]
  simp only [tN]
  apply Run.seq
  refine Run.fra 2900 ?_
  simp [V.fra, V.fraL, fraS, frz, hfll, hta, hm, hfin]
  refine opsF [oL 48 1 31, oS 48 2 31] fun K hK => ?_
  try simp
  repeat' first | (refine evL_c ?_; simp [hm, hfll, hta, hfin]) | (with_reducible first | apply aI | intro _ | assumption) | omega
  all_goals (apply Fin.go hK; clear hK K)
  simp only [tN]
  apply Run.ret
  try simp only [Then_ret, Blok_ret]
  simp
theorem cloned_ok (p : PlanT) (hf : partsP p ≤ 1100000) : Snd P 29 [.d (.ag (encP p))] (.d (.ag (encP p))) [] :=
 cloned1_ok p hf fun i hi =>
  have := kids_lt (kid_mem (p := p) hi)
  cloned_ok (rdI p.kids i) (kid_fine hf hi)
termination_by SizeOf.sizeOf p
end Go.Proofs.Ytimgbdkgjfbhkaa.Z
end
section
namespace Go.Proofs.Ytimgbdkgjfbhkaa.Z
open Go Go.Fw
attribute [-simp] litV
attribute [local simp] litV_agg litV_int litV_str litV_bool litV_slice litV_tup
def eqBs : List Bool → List Bool → Bool
 | [], [] => true
 | x :: a, y :: b => decide (x = y) && eqBs a b
 | _, _ => false
theorem eqBs_len {a b : List Bool} (h : a.length ≠ b.length) : eqBs a b = false := by
 induction a generalizing b with
 | nil => cases b <;> simp_all [eqBs]
 | cons x a ih =>
   cases b with
   | nil => rfl
   | cons y b => rw [eqBs, ih (by simpa using h), Bool.and_false]
theorem eqBs_step {a b : List Bool} {i : Nat} (ha : i < a.length) (hb : i < b.length) : eqBs (a.drop i) (b.drop i) = (decide (rdI a i = rdI b i) && eqBs (a.drop (i + 1)) (b.drop (i + 1))) := by
 rw [drop_rd ha, drop_rd hb, eqBs]
theorem eqBs_iff (a b : List Bool) : eqBs a b = true ↔ a = b := by
 induction a generalizing b with
 | nil => cases b <;> simp [eqBs]
 | cons x a ih => cases b <;> simp [eqBs, ih]
theorem planS_zero {c : CoreT} {r : ProgR} (he : (planS c r).2.2 ≠ 0) : (planS c r).1 = zeroQ := by
 unfold planS at he ⊢
 split
 ·rfl
 ·rename_i h
  rw [if_neg h] at he
  split
  ·rfl
  ·rename_i h2
   rw [if_neg h2] at he
   rcases hR : pipesS c r.tabs [] [] r.pipes with ⟨R1, R2, R3⟩
   rw [hR] at he
   simp only at he ⊢
   split
   ·rfl
   ·rename_i h3; rw [if_neg h3] at he; exact absurd rfl he
theorem planS_any (c : CoreT) (r : ProgR) (hw : wP r.pipes ≤ 1100000) : partsP (planS c r).1 ≤ 1100000 := by
 by_cases he : (planS c r).2.2 = 0
 ·exact planS_parts c r hw he
 ·rw [planS_zero he]; decide
theorem plan1_ok (c : CoreT) (r : ProgR) (q : PlanT) (a e : Int) (h : Snd P 27 [.d (.ag (encPr r)), .d (.ag (encC c))] (.tup [.d (.ag (encP q)), .int a, .int e]) []) (hq : Snd P 29 [.d (.ag (encP q))] (.d (.ag (encP q))) []) : Snd P 13 [.d (.ag (encPr r)), .d (.ag (encC c))] (.tup [.d (.ag (encP q)), .int e]) [] := by
 rw [encP_cells] at h hq
 refine snd_of [] Try.func13 rfl (by kernel_rfl) Try.ntmps13 (by simp) ?_
 unfold Try.f13
 simp only [List.cons_append, List.nil_append, List.length_cons, List.length_nil, Nat.reduceAdd, Nat.reduceSub, List.replicate]
 apply Run.seq
 refine opsF oo91 fun K hK => ?_
 try simp
 repeat' first | (refine evL_c ?_; simp) | (with_reducible first | apply aI | intro _ | assumption) | omega
 all_goals (apply Fin.go hK; clear hK K)
 simp only [tN]
 apply Run.seq
 refine opsF [oL 25 2 10, oL 32 3 11, oC 27 #[.tmp 10, .tmp 11] #[25, 32] 12, oM 12 9, oX 9 0 13, oX 9 1 14, oX 9 2 15, ⟨.alloc 48, some 6, none⟩, oS 48 6 13, oA 14 7, oA 15 8] fun K hK => ?_
 try simp
 repeat' first | (refine ecall (by exact h) rfl ?_) | (refine evL_c ?_; simp) | (with_reducible first | apply aI | intro _ | assumption) | omega
 all_goals (apply Fin.go hK; clear hK K)
 simp only [tN]
 apply Run.seq
 refine opsF [oL 48 6 16, oC 29 #[.tmp 16] #[48] 17, oM 8 18, oS 48 4 17, oA 18 5] fun K hK => ?_
 try simp
 repeat' first | (refine ecallD (by exact hq) ?_) | (refine evL_c ?_; simp) | (with_reducible first | apply aI | intro _ | assumption) | omega
 all_goals (apply Fin.go hK; clear hK K)
 simp only [tN]
 apply Run.ret
 try simp only [Then_ret, Blok_ret]
 simp
theorem sameBools_ok (na nb : Bool) (a b : List Bool) : Snd P 12 [.d (.sl na (a.map encB)), .d (.sl nb (b.map encB))] (.bool (eqBs a b)) [] := by
 refine Snd.ok 0 rfl (by kernel_rfl) fun hok => ?_
 have hma : a.length ≤ 9223372036854775807 := by simp only [D.ok, List.length_map] at hok; exact hok.1
 clear hok
 obtain ⟨m, hm⟩ : ∃ m, a.length = m := ⟨_, rfl⟩
 obtain ⟨k, hk⟩ : ∃ m, b.length = m := ⟨_, rfl⟩
 rw [hm] at hma
 refine snd_of [] Try.func12 rfl (by kernel_rfl) Try.ntmps12 (by simp) ?_
 unfold Try.f12
 simp only [List.cons_append, List.nil_append, List.length_cons, List.length_nil, Nat.reduceAdd, Nat.reduceSub, List.replicate]
 apply Run.seq
 refine opsF oo13 fun K hK => ?_
 try simp
 repeat' first | (refine evL_c ?_; simp [hm, hk]) | (with_reducible first | apply aI | intro _ | assumption) | omega
 all_goals (apply Fin.go hK; clear hK K)
 simp only [tN]
 apply Run.seq
 apply Run.seq
 refine opsF [oM 0 6, oN 34 6 7, oM 1 8, oN 34 8 9, oB .neq 3 7 9 3 10] fun K hK => ?_
 try simp
 repeat' first | (refine evL_c ?_; simp [hm, hk]) | (with_reducible first | apply aI | intro _ | assumption) | omega
 all_goals (apply Fin.go hK; clear hK K)
 simp only [tN]
 refine Run.cond rfl (fun h10 => ?_) (fun h10 => ?_)
 ·try simp at h10
  apply Run.seq
  refine opsF oo13 fun K hK => ?_
  try simp
  repeat' first | (refine evL_c ?_; simp [hm, hk]) | (with_reducible first | apply aI | intro _ | assumption) | omega
  all_goals (apply Fin.go hK; clear hK K)
  simp only [tN]
  apply Run.ret
  try simp only [Then_ret, Blok_ret]
  first
   | (rw [eqBs_len (by omega)]; simp; done)
   | (rw [hz, eqBs_step (by omega) (by omega), decide_eq_false h25]; simp; done)
   | (rw [hz, show a.drop i = [] from List.drop_of_length_le (by omega), show b.drop i = [] from List.drop_of_length_le (by omega), eqBs]; simp; done)
 ·try simp at h10
  have hkm : k = m := by omega
  subst hkm
  apply Run.skip
  simp only [tN]
  apply Run.seq
  apply Run.seq
  refine opsF oo71 fun K hK => ?_
  try simp
  repeat' first | (refine evL_c ?_; simp [hm, hk]) | (with_reducible first | apply aI | intro _ | assumption) | omega
  all_goals (apply Fin.go hK; clear hK K)
  simp only [tN]
  apply Run.block
  refine Run.loopO [4, 5, 11, 12, 13, 14, 15, 16, 17, 18, 19, 20, 21, 22, 23, 24, 25] (fun (i : Nat) => [(5, .int i)]) (fun (i : Nat) => []) (fun (i : Nat) => i ≤ k ∧ eqBs a b = eqBs (a.drop i) (b.drop i)) (fun (i : Nat) => k - i) 0 ⟨by omega, rfl⟩ (by simp) fun i ⟨hi, hz⟩ => ?_
  simp only [over, List.foldl, List.set]
  apply Run.seq
  apply Run.seq
  refine opsF [oM 5 11, oM 0 12, oN 34 12 13, oB .lss 3 11 13 3 14] fun K hK => ?_
  try simp
  repeat' first | (refine evL_c ?_; simp [hm, hk]) | (with_reducible first | apply aI | intro _ | assumption) | omega
  all_goals (apply Fin.go hK; clear hK K)
  simp only [tN]
  refine Run.cond rfl (fun h14 => ?_) (fun h14 => ?_)
  ·try simp at h14
   have hi1 : i < k := by omega
   apply Run.skip
   simp only [tN]
   apply Run.seq
   apply Run.block
   apply Run.seq
   refine opsF [oM 0 17, oM 5 18, oI 34 17 18 19, oL 4 19 20, oM 1 21, oM 5 22, oI 34 21 22 23, oL 4 23 24, oB .neq 4 20 24 4 25] fun K hK => ?_
   try simp
   repeat' first | (refine evL_c ?_; simp [hm, hk, hi1]) | (with_reducible first | apply aI | intro _ | assumption) | omega
   all_goals (apply Fin.go hK; clear hK K)
   simp only [tN]
   refine Run.cond rfl (fun h25 => ?_) (fun h25 => ?_)
   ·try simp at h25
    apply Run.seq
    refine opsF oo13 fun K hK => ?_
    try simp
    repeat' first | (refine evL_c ?_; simp [hm, hk, hi1]) | (with_reducible first | apply aI | intro _ | assumption) | omega
    all_goals (apply Fin.go hK; clear hK K)
    simp only [tN]
    apply Run.ret
    try simp only [Then_ret, Blok_ret]
    first
     | (rw [eqBs_len (by omega)]; simp; done)
     | (rw [hz, eqBs_step (by omega) (by omega), decide_eq_false h25]; simp; done)
     | (rw [hz, show a.drop i = [] from List.drop_of_length_le (by omega), show b.drop i = [] from List.drop_of_length_le (by omega), eqBs]; simp; done)
   ·try simp at h25
    apply Run.skip
    simp only [Blok_normal]
    simp only [tN]
    refine opsF [oM 5 15, oK .add 3 15 1 3 16, oA 16 5] fun K hK => ?_
    try simp
    repeat' first | (refine evL_c ?_; simp [hm, hk, hi1]) | (with_reducible first | apply aI | intro _ | assumption) | omega
    all_goals (apply Fin.go hK; clear hK K)
    refine ⟨i + 1, ⟨by omega, by rw [hz, eqBs_step (by omega) (by omega), decide_eq_true h25]; rfl⟩, by omega, ?_⟩
    simp (disch := omega) [wrap_id]
  ·try simp at h14
   refine Run.exit ?_
   simp (decide := true) only [Then_exit, Blok_exit, if_true, if_false]
   simp only [tN]
   apply Run.seq
   refine opsF oo55 fun K hK => ?_
   try simp
   repeat' first | (refine evL_c ?_; simp [hm, hk]) | (with_reducible first | apply aI | intro _ | assumption) | omega
   all_goals (apply Fin.go hK; clear hK K)
   simp only [tN]
   apply Run.ret
   try simp only [Then_ret, Blok_ret]
   first
    | (rw [eqBs_len (by omega)]; simp; done)
    | (rw [hz, eqBs_step (by omega) (by omega), decide_eq_false h25]; simp; done)
    | (rw [hz, show a.drop i = [] from List.drop_of_length_le (by omega), show b.drop i = [] from List.drop_of_length_le (by omega), eqBs]; simp; done)
theorem Plan_ok (c : CoreT) (r : ProgR) (hw : wP r.pipes ≤ 1100000) (ht : r.tabs.length ≤ 1100000) (hc : c.wher.length ≤ 1100000) : Snd P 13 [.d (.ag (encPr r)), .d (.ag (encC c))] (.tup [.d (.ag (encP (planS c r).1)), .int (planS c r).2.2]) [] :=
 plan1_ok c r _ _ _ (plan_ok c r hw ht hc) (cloned_ok _ (planS_any c r hw))
end Go.Proofs.Ytimgbdkgjfbhkaa.Z
end
section
namespace Go.Proofs.Ytimgbdkgjfbhkaa.Z
open Go Go.Fw
def pushU (acc : List Int) (v : Int) : List Int := if acc.length = 0 ∨ rdI acc ((acc.length : Int) - 1) ≠ v then acc ++ [v] else acc
def mrg : List Int → List Int → List Int
 | [], b => b
 | x :: a, [] => x :: a
 | x :: a, y :: b => if x ≤ y then x :: mrg a (y :: b) else y :: mrg (x :: a) b
termination_by a b => a.length + b.length
def unionS (a b : List Int) : List Int := (mrg a b).foldl pushU []
def tk (a b : List Int) : Bool := decide (b.length = 0 ∨ (0 < a.length ∧ rdI a 0 ≤ rdI b 0))
theorem mrg_nil (a : List Int) : mrg a [] = a := by cases a <;> rw [mrg]
theorem mrg_tk {a b : List Int} (ha : 0 < a.length) (h : tk a b = true) : mrg a b = rdI a 0 :: mrg (a.drop 1) b := by
 cases a with
 | nil => simp at ha
 | cons x a =>
   cases b with
   | nil => rw [mrg_nil, mrg_nil]; rfl
   | cons y b =>
     have h1 : x ≤ y := by simpa [tk, rdI] using h
     rw [mrg, if_pos h1]; rfl
theorem mrg_nt {a b : List Int} (hb : 0 < b.length) (h : tk a b = false) : mrg a b = rdI b 0 :: mrg a (b.drop 1) := by
 cases b with
 | nil => simp at hb
 | cons y b =>
   cases a with
   | nil => rw [mrg]; simp [mrg, rdI]
   | cons x a =>
     have h1 : ¬ x ≤ y := by simpa [tk, rdI] using h
     rw [mrg, if_neg h1]; rfl
theorem pushU_mem {acc : List Int} {v x : Int} : x ∈ pushU acc v ↔ x ∈ acc ∨ x = v := by
 unfold pushU
 split
 ·simp
 ·rename_i h
  have h1 : rdI acc ((acc.length : Int) - 1) = v ∧ acc.length ≠ 0 := by
   constructor
   ·by_cases e : rdI acc ((acc.length : Int) - 1) = v
    ·exact e
    ·exact absurd (.inr e) h
   ·exact fun e => h (.inl e)
  constructor
  ·exact .inl
  ·rintro (h | rfl)
   ·exact h
   ·rw [← h1.1]; exact rdI_mem (by omega) (by omega)
theorem foldl_push {l acc : List Int} {x : Int} : x ∈ l.foldl pushU acc ↔ x ∈ acc ∨ x ∈ l := by
 induction l generalizing acc with
 | nil => simp
 | cons v r ih => rw [List.foldl_cons, ih, pushU_mem]; simp [or_assoc]
theorem mrg_mem {x : Int} : ∀ (a b : List Int), x ∈ mrg a b ↔ x ∈ a ∨ x ∈ b
 | [], b => by rw [mrg]; simp
 | y :: a, [] => by rw [mrg]; simp
 | y :: a, z :: b => by
   rw [mrg]
   split
   ·rw [List.mem_cons, mrg_mem a (z :: b)]; simp [or_assoc]
   ·rw [List.mem_cons, mrg_mem (y :: a) b]
    simp only [List.mem_cons]
    constructor
    ·rintro (h | (h | h) | h) <;> simp [h]
    ·rintro ((h | h) | (h | h)) <;> simp [h]
termination_by a b => a.length + b.length
theorem union_mem {a b : List Int} {x : Int} : x ∈ unionS a b ↔ x ∈ a ∨ x ∈ b := by
 rw [unionS, foldl_push, mrg_mem]; simp
theorem mrg_len : ∀ (a b : List Int), (mrg a b).length = a.length + b.length
 | [], b => by rw [mrg]; simp
 | y :: a, [] => by rw [mrg]; simp
 | y :: a, z :: b => by
   rw [mrg]
   split
   ·rw [List.length_cons, mrg_len a (z :: b)]; simp; omega
   ·rw [List.length_cons, mrg_len (y :: a) b]; simp; omega
termination_by a b => a.length + b.length
theorem foldl_len (l acc : List Int) : (l.foldl pushU acc).length ≤ acc.length + l.length := by
 induction l generalizing acc with
 | nil => simp
 | cons v r ih =>
   have := ih (pushU acc v)
   have h : (pushU acc v).length ≤ acc.length + 1 := by unfold pushU; split <;> simp
   rw [List.foldl_cons, List.length_cons]; omega
theorem union_len (a b : List Int) : (unionS a b).length ≤ a.length + b.length := by
 have := foldl_len (mrg a b) []
 rw [mrg_len] at this
 simpa [unionS] using this
def takeU (a b : List Int) : Int × List Int × List Int := if tk a b then (rdI a 0, a.drop 1, b) else (rdI b 0, a, b.drop 1)
theorem take_mrg {a b a2 b2 : List Int} {v : Int} (h : 0 < a.length ∨ 0 < b.length) (ht : takeU a b = (v, a2, b2)) : mrg a b = v :: mrg a2 b2 ∧ a2.length + b2.length + 1 = a.length + b.length := by
 unfold takeU at ht
 split at ht
 ·rename_i q
  have h1 : 0 < a.length := by
   simp only [tk, decide_eq_true_eq] at q; omega
  cases ht
  exact ⟨mrg_tk h1 q, by simp; omega⟩
 ·rename_i q
  have q : tk a b = false := by simpa using q
  have h1 : 0 < b.length := by
   simp only [tk, decide_eq_false_iff_not] at q; omega
  cases ht
  exact ⟨mrg_nt h1 q, by simp; omega⟩
set_option maxHeartbeats 4000000 in
theorem union_ok (a b : List Int) (hab : a.length + b.length ≤ 2200000) : Snd P 105 [.d (.sl false (a.map encI)), .d (.sl false (b.map encI))] (.d (.sl false ((unionS a b).map encI))) [] := by
 refine snd_of [] Try.func105 rfl (by kernel_rfl) Try.ntmps105 (by simp) ?_
 unfold Try.f105
 simp only [List.cons_append, List.nil_append, List.length_cons, List.length_nil, Nat.reduceAdd, Nat.reduceSub, List.replicate]
 apply Run.seq
 refine opsF oo34 fun K hK => ?_
 try simp
 repeat' first | (refine evL_c ?_; simp) | (with_reducible first | apply aI | intro _ | assumption) | omega
 all_goals (apply Fin.go hK; clear hK K)
 simp only [tN]
 apply Run.seq
 refine opsF [⟨.assign (.const (.slice none 0 0)), some 5, none⟩] fun K hK => ?_
 try simp
 repeat' first | (refine evL_c ?_; simp) | (with_reducible first | apply aI | intro _ | assumption) | omega
 all_goals (apply Fin.go hK; clear hK K)
 simp only [tN]
 refine Run.virt 5 5900 1 (by omega) (.inl rfl) ?_ rfl
 simp only [V.fgtL, V.fgt, fgtS, putB, List.set]
 apply Run.seq
 apply Run.block
 refine Run.loopO [0, 1, 5, 6, 7, 8, 9, 10, 11, 12, 13, 14, 15, 16, 17, 18, 19, 20, 21, 22, 23, 24, 25, 26, 27, 28, 29, 30, 31, 32, 33, 34, 35, 36, 37, 38, 39, 40, 41, 42, 43, 44, 45, 46, 47, 48, 49, 50, 51, 52, 53, 54, 55, 56, 57, 58] (fun (x : List Int × List Int × List Int) => [(0, .d (.sl false (x.1.map encI))), (1, .d (.sl false (x.2.1.map encI))), (5, .rs 5900 1 0 x.2.2.length)]) (fun (x : List Int × List Int × List Int) => [(5900, .data 1 (x.2.2.map encI))]) (fun (x : List Int × List Int × List Int) => (mrg x.1 x.2.1).foldl pushU x.2.2 = unionS a b ∧ x.2.2.length + (x.1.length + x.2.1.length) ≤ 2200000) (fun (x : List Int × List Int × List Int) => x.1.length + x.2.1.length) (a, b, []) ⟨rfl, by simpa using hab⟩ (by simp) fun ⟨a1, b1, acc⟩ ⟨hg, hl⟩ => ?_
 simp only at hg hl
 simp only [over, List.foldl, List.set]
 obtain ⟨la, hla⟩ : ∃ x, a1.length = x := ⟨_, rfl⟩
 obtain ⟨lb, hlb⟩ : ∃ x, b1.length = x := ⟨_, rfl⟩
 obtain ⟨lc, hlc⟩ : ∃ x, acc.length = x := ⟨_, rfl⟩
 rw [hla, hlb, hlc] at hl
 apply Run.seq
 refine Run.cut [7, 8, 9, 10, 11, 12, 13, 14] [(14, .bool (decide (0 < la ∨ 0 < lb)))] [(5900, .data 1 (acc.map encI))] ?_ ?_
 ·refine opsF [oM 0 7, oN 46 7 8, oK .gtr 3 8 0 3 9, oM 9 10, ⟨.move (.tmp 1), some 11, some (some 10, false)⟩, ⟨.call { callee := .builtin .len, args := #[.tmp 11], argTypes := #[46] }, some 12, some (some 10, false)⟩, ⟨.binOp .gtr 3 (.tmp 12) (.const (.int .i64 0)) 3, some 13, some (some 10, false)⟩, ⟨.pick (.tmp 10) (.const (.bool true)) (.tmp 13), some 14, none⟩] fun K hK => ?_
  try simp
  repeat' first | ((first | refine evL_c ?_ | (refine evL_g rfl ?_; try simp only [gs_tt, gs_ff, gs_tf, gs_ft]) | refine evL_u rfl ?_ | (with_reducible refine gsplit (fun hg => ?_) (fun hg => ?_) <;> try simp at hg)) <;> try simp [*]) | (with_reducible first | apply aI | intro _ | assumption) | omega
  all_goals (apply Fin.go hK; clear hK K)
  all_goals
   (try simp [hla, hlb, hlc]) <;> (first | omega | (simp; done) | (rw [Bool.eq_iff_iff]; simp only [Bool.or_eq_true, Bool.and_eq_true, Bool.not_eq_true', decide_eq_true_eq, decide_eq_false_iff_not]; omega) | grind)
 ·simp only [over, List.foldl, List.set]
  refine Run.cond rfl (fun h14 => ?_) (fun h14 => ?_)
  ·replace h14 := of_decide_eq_true h14
   obtain ⟨⟨v, a2, b2⟩, ht⟩ : ∃ x, takeU a1 b1 = x := ⟨_, rfl⟩
   obtain ⟨hmg, hml⟩ := take_mrg (by rw [hla, hlb]; exact h14) ht
   rw [hla, hlb] at hml
   have q1 : ¬ lb = 0 → 0 < lb := by omega
   have q2 : ¬ lc = 0 → IntKind.i64.wrap ((lc:Int) - 1) = (lc:Int) - 1 := fun h => wrap_id (by omega) (by omega)
   have q3 : ¬ lc = 0 → ((lc:Int) - 1).toNat < lc := by omega
   have q7 : ¬ lc = 0 → lc - 1 < lc := by omega
   have q8 : ¬ lc = 0 → ((lc - 1 : Nat) : Int) = (lc:Int) - 1 := by omega
   have q4 : ¬ lc = 0 → 0 ≤ (lc:Int) - 1 := by omega
   have q5 : (lc:Int) - 1 < lc := by omega
   have q6 : (lc + 1) * 8 ≤ 140737488355328 := by omega
   apply Run.skip
   simp only [tN]
   apply Run.block
   apply Run.seq
   refine opsF oo79 fun K hK => ?_
   try simp
   repeat' first | (refine evL_c ?_; simp [hla, hlb, hlc, q1, q2, q3, q4, q5, q6, q7, q8]) | (with_reducible first | apply aI | intro _ | assumption) | omega
   all_goals (apply Fin.go hK; clear hK K)
   simp only [tN]
   refine Run.cut [0, 1, 6, 15, 16, 17, 18, 19, 20, 21, 22, 23, 24, 25, 26, 27, 28, 29, 30, 31, 32, 33, 34, 35, 36, 37, 38, 39, 40, 41] [(6, .int v), (0, .d (.sl false (a2.map encI))), (1, .d (.sl false (b2.map encI)))] [(5900, .data 1 (acc.map encI))] ?_ ?_
   ·refine Run.cut [15, 16, 17, 18, 19, 20, 21, 22, 23, 24, 25, 26, 27, 28, 29, 30, 31] [(31, .bool (tk a1 b1))] [(5900, .data 1 (acc.map encI))] ?_ ?_
    ·refine opsF [oM 1 15, oN 46 15 16, oK .eql 3 16 0 3 17, oM 17 18, ⟨.move (.tmp 0), some 19, some (some 18, false)⟩, ⟨.call { callee := .builtin .len, args := #[.tmp 19], argTypes := #[46] }, some 20, some (some 18, false)⟩, ⟨.binOp .gtr 3 (.tmp 20) (.const (.int .i64 0)) 3, some 21, some (some 18, false)⟩, ⟨.move (.tmp 21), some 22, some (some 18, false)⟩, ⟨.move (.tmp 0), some 23, some (some 22, true)⟩, ⟨.indexAddr 46 (.tmp 23) (.const (.int .i64 0)), some 24, some (some 22, true)⟩, ⟨.load 3 (.tmp 24), some 25, some (some 22, true)⟩, ⟨.move (.tmp 1), some 26, some (some 22, true)⟩, ⟨.indexAddr 46 (.tmp 26) (.const (.int .i64 0)), some 27, some (some 22, true)⟩, ⟨.load 3 (.tmp 27), some 28, some (some 22, true)⟩, ⟨.binOp .leq 3 (.tmp 25) (.tmp 28) 3, some 29, some (some 22, true)⟩, ⟨.pick (.tmp 22) (.tmp 29) (.const (.bool false)), some 30, some (some 18, false)⟩, ⟨.pick (.tmp 18) (.const (.bool true)) (.tmp 30), some 31, none⟩] fun K hK => ?_
     try simp
     repeat' first | ((first | refine evL_c ?_ | (refine evL_g rfl ?_; try simp only [gs_tt, gs_ff, gs_tf, gs_ft]) | refine evL_u rfl ?_ | (with_reducible refine gsplit (fun hg => ?_) (fun hg => ?_) <;> try simp at hg)) <;> try simp [hla, hlb, hlc, q1, q2, q3, q4, q5, q6, q7, q8, *]) | (with_reducible first | apply aI | intro _ | assumption) | omega
     all_goals (apply Fin.go hK; clear hK K)
     all_goals
      (try simp [tk, hla, hlb, hlc, *]) <;> (first | omega | (simp; done) | (rw [Bool.eq_iff_iff]; simp only [Bool.or_eq_true, Bool.and_eq_true, Bool.not_eq_true', decide_eq_true_eq, decide_eq_false_iff_not]; omega) | grind)
    ·simp only [over, List.foldl, List.set]
     refine Run.cond rfl (fun h31 => ?_) (fun h31 => ?_)
     ·have ha0 : 0 < la := by
       have := h31
       simp [tk, hla, hlb] at this
       omega
      apply Run.seq
      refine opsF [oM 0 32, ⟨.indexAddr 46 (.tmp 32) (.const (.int .i64 0)), some 33, none⟩, oL 3 33 34, oA 34 6] fun K hK => ?_
      try simp
      repeat' first | (refine evL_c ?_; simp [hla, hlb, hlc, q1, q2, q3, q4, q5, q6, q7, q8, ha0]) | (with_reducible first | apply aI | intro _ | assumption) | omega
      all_goals (apply Fin.go hK; clear hK K)
      simp only [tN]
      refine opsF [oM 0 35, ⟨.slice 46 (.tmp 35) (some (.const (.int .i64 1))) none none, some 36, none⟩, oA 36 0] fun K hK => ?_
      try simp
      repeat' first | (refine evL_c ?_; simp [hla, hlb, hlc, q1, q2, q3, q4, q5, q6, q7, q8, ha0]) | (with_reducible first | apply aI | intro _ | assumption) | omega
      all_goals (apply Fin.go hK; clear hK K)
      rw [takeU, h31] at ht
      simp at ht
      obtain ⟨rfl, rfl, rfl⟩ := ht
      simp [hla, hlb, hlc, h14, List.map_drop, List.take_of_length_le]
     ·have hb0 : 0 < lb := by
       have := h31
       simp [tk, hla, hlb] at this
       omega
      apply Run.seq
      refine opsF [oM 1 37, ⟨.indexAddr 46 (.tmp 37) (.const (.int .i64 0)), some 38, none⟩, oL 3 38 39, oA 39 6] fun K hK => ?_
      try simp
      repeat' first | (refine evL_c ?_; simp [hla, hlb, hlc, q1, q2, q3, q4, q5, q6, q7, q8, hb0]) | (with_reducible first | apply aI | intro _ | assumption) | omega
      all_goals (apply Fin.go hK; clear hK K)
      simp only [tN]
      refine opsF [oM 1 40, ⟨.slice 46 (.tmp 40) (some (.const (.int .i64 1))) none none, some 41, none⟩, oA 41 1] fun K hK => ?_
      try simp
      repeat' first | (refine evL_c ?_; simp [hla, hlb, hlc, q1, q2, q3, q4, q5, q6, q7, q8, hb0]) | (with_reducible first | apply aI | intro _ | assumption) | omega
      all_goals (apply Fin.go hK; clear hK K)
      rw [takeU, h31] at ht
      simp at ht
      obtain ⟨rfl, rfl, rfl⟩ := ht
      simp [hla, hlb, hlc, h14, List.map_drop, List.take_of_length_le]
   ·simp only [over, List.foldl, List.set]
    refine Run.cut [42, 43, 44, 45, 46, 47, 48, 49, 50, 51, 52, 53, 54] [(54, .bool (decide (lc = 0 ∨ rdI acc ((lc:Int) - 1) ≠ v)))] [(5900, .data 1 (acc.map encI))] ?_ ?_
    ·refine opsF [oM 5 42, oN 46 42 43, oK .eql 3 43 0 3 44, oM 44 45, ⟨.move (.tmp 5), some 46, some (some 45, false)⟩, ⟨.move (.tmp 5), some 47, some (some 45, false)⟩, ⟨.call { callee := .builtin .len, args := #[.tmp 47], argTypes := #[46] }, some 48, some (some 45, false)⟩, ⟨.binOp .sub 3 (.tmp 48) (.const (.int .i64 1)) 3, some 49, some (some 45, false)⟩, ⟨.indexAddr 46 (.tmp 46) (.tmp 49), some 50, some (some 45, false)⟩, ⟨.load 3 (.tmp 50), some 51, some (some 45, false)⟩, ⟨.move (.tmp 6), some 52, some (some 45, false)⟩, ⟨.binOp .neq 3 (.tmp 51) (.tmp 52) 3, some 53, some (some 45, false)⟩, ⟨.pick (.tmp 45) (.const (.bool true)) (.tmp 53), some 54, none⟩] fun K hK => ?_
     try simp
     repeat' first | ((first | refine evL_c ?_ | (refine evL_g rfl ?_; try simp only [gs_tt, gs_ff, gs_tf, gs_ft]) | refine evL_u rfl ?_ | (with_reducible refine gsplit (fun hg => ?_) (fun hg => ?_) <;> try simp at hg)) <;> try simp [hla, hlb, hlc, q1, q2, q3, q4, q5, q6, q7, q8, *]) | (with_reducible first | apply aI | intro _ | assumption) | omega
     all_goals (apply Fin.go hK; clear hK K)
     all_goals
      (try simp [hlc]) <;> (first | omega | (simp; done) | (rw [Bool.eq_iff_iff]; simp only [Bool.or_eq_true, Bool.and_eq_true, Bool.not_eq_true', decide_eq_true_eq, decide_eq_false_iff_not]; omega) | grind)
    ·simp only [over, List.foldl, List.set]
     refine Run.cond rfl (fun h54 => ?_) (fun h54 => ?_)
     ·replace h54 := of_decide_eq_true h54
      refine opsF [oM 5 55, oM 6 56, ⟨.buildSlice 46 1 #[(0, .tmp 56)], some 57, none⟩, ⟨.call { callee := .builtin .append, args := #[.tmp 55, .tmp 57], argTypes := #[46, 46] }, some 58, none⟩, oA 58 5] fun K hK => ?_
      try simp
      repeat' first | (refine evL_c ?_; simp [hla, hlb, hlc, q1, q2, q3, q4, q5, q6, q7, q8]) | (with_reducible first | apply aI | intro _ | assumption) | omega
      all_goals (apply Fin.go hK; clear hK K)
      simp only [Blok_normal]
      refine ⟨(a2, b2, pushU acc v), ⟨by rw [← hg, hmg]; rfl, ?_⟩, by simp; omega, ?_⟩
      ·have : (pushU acc v).length ≤ acc.length + 1 := by unfold pushU; split <;> simp
       simp only; omega
      ·first
        | (have e : pushU acc v = acc ++ [v] := by rw [pushU, hlc, if_pos h54]
           simp [e, hlc, List.take_of_length_le]; done)
        | (have e : pushU acc v = acc := by rw [pushU, hlc, if_neg h54]
           simp [e, hlc]; done)
     ·replace h54 := of_decide_eq_false h54
      apply Run.skip
      simp only [Blok_normal]
      refine ⟨(a2, b2, pushU acc v), ⟨by rw [← hg, hmg]; rfl, ?_⟩, by simp; omega, ?_⟩
      ·have : (pushU acc v).length ≤ acc.length + 1 := by unfold pushU; split <;> simp
       simp only; omega
      ·first
        | (have e : pushU acc v = acc ++ [v] := by rw [pushU, hlc, if_pos h54]
           simp [e, hlc, List.take_of_length_le]; done)
        | (have e : pushU acc v = acc := by rw [pushU, hlc, if_neg h54]
           simp [e, hlc]; done)
  ·replace h14 := of_decide_eq_false h14
   refine Run.exit ?_
   simp (decide := true) only [Then_exit, Blok_exit, if_true, if_false]
   simp only [tN]
   apply Run.seq
   refine opsF [oM 5 59, oA 59 4] fun K hK => ?_
   try simp
   repeat' first | (refine evL_c ?_; simp [hla, hlb, hlc]) | (with_reducible first | apply aI | intro _ | assumption) | omega
   all_goals (apply Fin.go hK; clear hK K)
   simp only [tN]
   apply Run.ret
   try simp only [Then_ret, Blok_ret]
   first
    | (have e1 : a1 = [] := List.length_eq_zero_iff.1 (by omega)
       have e2 : b1 = [] := List.length_eq_zero_iff.1 (by omega)
       rw [e1, e2, mrg] at hg
       have e3 : acc = unionS a b := hg
       simp [← e3, hlc, List.take_of_length_le]; done)
end Go.Proofs.Ytimgbdkgjfbhkaa.Z
end
section
namespace Go.Proofs.Ytimgbdkgjfbhkaa.Z
open Go Go.Fw
mutual
def rslT : TermT → List Int
 | .mk op k sl _ _ => rslL k (own1 op sl)
def rslL : List TermT → List Int → List Int
 | [], acc => acc
 | t :: r, acc => rslL r (unionS acc (rslT t))
end
theorem rslT_eq (t : TermT) : rslT t = rslL t.kids (own1 t.op t.slot) := by cases t; rw [rslT]; rfl
mutual
theorem rslT_len : ∀ t : TermT, (rslT t).length ≤ cntT t
 | .mk op k sl nm v => by
   have h := rslL_len k (own1 op sl)
   have h1 := own1_len op sl
   rw [rslT, cntT]; omega
theorem rslL_len : ∀ (l : List TermT) (acc : List Int), (rslL l acc).length ≤ acc.length + cntL l
 | [], acc => by simp [rslL, cntL]
 | t :: r, acc => by
   have h1 := rslT_len t
   have h2 := rslL_len r (unionS acc (rslT t))
   have h3 := union_len acc (rslT t)
   rw [rslL, cntL]; omega
end
theorem rslL_step {l : List TermT} {i : Nat} {acc : List Int} (hi : i < l.length) : rslL (l.drop i) acc = rslL (l.drop (i + 1)) (unionS acc (rslT (rdI l i))) := by
 rw [drop_rd hi, rslL]
theorem rslL_end {l : List TermT} {i : Nat} {acc : List Int} (hi : l.length ≤ i) : rslL (l.drop i) acc = acc := by
 rw [List.drop_of_length_le hi, rslL]
set_option maxHeartbeats 4000000 in
theorem rslots1_ok (t : TermT) (ht : cntT t ≤ 1100000) (IH : ∀ i : Nat, i < t.kids.length → Snd P 101 [.d (.ag (encT (rdI t.kids i)))] (.d (.sl false ((rslT (rdI t.kids i)).map encI))) []) : Snd P 101 [.d (.ag (encT t))] (.d (.sl false ((rslT t).map encI))) [] := by
 refine Snd.ok 0 rfl (by kernel_rfl) fun hok => ?_
 have hkm := encT_ok hok
 clear hok
 obtain ⟨m, hm⟩ : ∃ m, t.kids.length = m := ⟨_, rfl⟩
 rw [hm] at hkm
 refine snd_of [] Try.func101 rfl (by kernel_rfl) Try.ntmps101 (by simp) ?_
 unfold Try.f101
 simp only [List.cons_append, List.nil_append, List.length_cons, List.length_nil, Nat.reduceAdd, Nat.reduceSub, List.replicate]
 apply Run.seq
 refine opsF oo3 fun K hK => ?_
 try simp
 repeat' first | (refine evL_c ?_; simp [hm]) | (with_reducible first | apply aI | intro _ | assumption) | omega
 all_goals (apply Fin.go hK; clear hK K)
 simp only [tN]
 apply Run.seq
 refine opsF oo4 fun K hK => ?_
 try simp
 repeat' first | (refine evL_c ?_; simp [hm]) | (with_reducible first | apply aI | intro _ | assumption) | omega
 all_goals (apply Fin.go hK; clear hK K)
 simp only [tN]
 apply Run.seq
 refine Run.cut [5, 6, 7, 8, 9, 10, 11, 12] [(12, .bool (decide (t.op = 2 ∨ t.op = 3)))] [(200, .vals ((encT t).map .d))] ?_ ?_
 ·refine opsF [oF 89 1 0 5, oL 84 5 6, oK .eql 84 6 2 84 7, oM 7 8, ⟨.fieldAddr 89 (.tmp 1) 0, some 9, some (some 8, false)⟩, ⟨.load 84 (.tmp 9), some 10, some (some 8, false)⟩, ⟨.binOp .eql 84 (.tmp 10) (.const (.int .i64 3)) 84, some 11, some (some 8, false)⟩, ⟨.pick (.tmp 8) (.const (.bool true)) (.tmp 11), some 12, none⟩] fun K hK => ?_
  try simp
  repeat' first | ((first | refine evL_c ?_ | (refine evL_g rfl ?_; try simp only [gs_tt, gs_ff, gs_tf, gs_ft]) | refine evL_u rfl ?_ | (with_reducible refine gsplit (fun hg => ?_) (fun hg => ?_) <;> try simp at hg)) <;> try simp [hm]) | (with_reducible first | apply aI | intro _ | assumption) | omega
  all_goals (apply Fin.go hK; clear hK K)
  all_goals
   (try simp [*]) <;> (first | omega | (simp; done) | grind)
 ·simp only [over, List.foldl, List.set]
  refine Run.cond rfl (fun h12 => ?_) (fun h12 => ?_)
  ·have ho : own1 t.op t.slot = [t.slot] := by rw [own1, if_pos (of_decide_eq_true h12)]
   refine opsF [oF 89 1 2 13, oL 3 13 14, ⟨.buildSlice 46 1 #[(0, .tmp 14)], some 15, none⟩, oA 15 3] fun K hK => ?_
   try simp
   repeat' first | (refine evL_c ?_; simp [hm]) | (with_reducible first | apply aI | intro _ | assumption) | omega
   all_goals (apply Fin.go hK; clear hK K)
   simp only [tN]
   apply Run.seq
   apply Run.seq
   first | refine Run.frz 3 1600 rfl (by simp) rfl ?_ | refine Run.sub 3 rfl DSub.nil ?_
   simp only [V.fgtL, V.fgt, fgtS, List.set]
   refine opsF oo5 fun K hK => ?_
   try simp
   repeat' first | (refine evL_c ?_; simp [hm]) | (with_reducible first | apply aI | intro _ | assumption) | omega
   all_goals (apply Fin.go hK; clear hK K)
   simp only [tN]
   apply Run.block
   refine Run.loopO [3, 4, 16, 17, 18, 19, 20, 21, 22, 23, 24, 25, 26, 27, 28, 29, 30] (fun (x : Nat × List Int) => [(4, .int x.1), (3, .d (.sl false (x.2.map encI)))]) (fun (x : Nat × List Int) => [(200, .vals ((encT t).map .d))]) (fun (x : Nat × List Int) => x.1 ≤ m ∧ rslL (t.kids.drop x.1) x.2 = rslT t ∧ x.2.length ≤ 1 + cntL (t.kids.take x.1)) (fun (x : Nat × List Int) => m - x.1) (0, own1 t.op t.slot) ⟨by omega, by rw [rslT_eq]; rfl, by have := own1_len t.op t.slot; simp [cntL]; omega⟩ (by simp [ho]) fun ⟨i, ac⟩ ⟨hi, hg, hl⟩ => ?_
   simp only at hi hg hl
   simp only [over, List.foldl, List.set]
   apply Run.seq
   apply Run.seq
   refine opsF oo92 fun K hK => ?_
   try simp
   repeat' first | (refine evL_c ?_; simp [hm]) | (with_reducible first | apply aI | intro _ | assumption) | omega
   all_goals (apply Fin.go hK; clear hK K)
   simp only [tN]
   refine Run.cond rfl (fun h20 => ?_) (fun h20 => ?_)
   ·try simp at h20
    have hi1 : i < m := by omega
    have hc := cnt_kid (t := t) (i := i) (by omega)
    have hT := IH i (by omega)
    rw [encT_cells] at hT
    have hr := rslT_len (rdI t.kids i)
    have hU := union_ok ac (rslT (rdI t.kids i)) (by omega)
    apply Run.skip
    simp only [tN]
    apply Run.seq
    apply Run.block
    refine opsF oo93 fun K hK => ?_
    try simp
    repeat' first | (first | refine ecallD (by exact hT) ?_ | refine ecallD (by exact hU) ?_) | (refine evL_c ?_; simp [hm, hi1]) | (with_reducible first | apply aI | intro _ | assumption) | omega
    all_goals (apply Fin.go hK; clear hK K)
    simp only [Blok_normal]
    simp only [tN]
    refine opsF oo94 fun K hK => ?_
    try simp
    repeat' first | (refine evL_c ?_; simp [hm, hi1]) | (with_reducible first | apply aI | intro _ | assumption) | omega
    all_goals (apply Fin.go hK; clear hK K)
    refine ⟨(i + 1, unionS ac (rslT (rdI t.kids i))), ⟨by simp; omega, by rw [← hg, rslL_step (l := t.kids) (i := i) (by omega)], ?_⟩, by simp; omega, ?_⟩
    ·have := union_len ac (rslT (rdI t.kids i))
     simp only
     rw [take_rd (by omega), cntL_app, cntL, cntL]; omega
    ·simp (disch := omega) [hm, wrap_id]
   ·try simp at h20
    rw [rslL_end (by omega)] at hg
    refine Run.exit ?_
    simp (decide := true) only [Then_exit, Blok_exit, if_true, if_false]
    simp only [tN]
    apply Run.seq
    refine opsF oo95 fun K hK => ?_
    try simp
    repeat' first | (refine evL_c ?_; simp [hm]) | (with_reducible first | apply aI | intro _ | assumption) | omega
    all_goals (apply Fin.go hK; clear hK K)
    simp only [tN]
    apply Run.ret
    try simp only [Then_ret, Blok_ret]
    simp [hg]
  ·have ho : own1 t.op t.slot = [] := by rw [own1, if_neg (of_decide_eq_false h12)]
   apply Run.skip
   simp only [tN]
   apply Run.seq
   apply Run.seq
   first | refine Run.frz 3 1600 rfl (by simp) rfl ?_ | refine Run.sub 3 rfl DSub.nil ?_
   simp only [V.fgtL, V.fgt, fgtS, List.set]
   refine opsF oo5 fun K hK => ?_
   try simp
   repeat' first | (refine evL_c ?_; simp [hm]) | (with_reducible first | apply aI | intro _ | assumption) | omega
   all_goals (apply Fin.go hK; clear hK K)
   simp only [tN]
   apply Run.block
   refine Run.loopO [3, 4, 16, 17, 18, 19, 20, 21, 22, 23, 24, 25, 26, 27, 28, 29, 30] (fun (x : Nat × List Int) => [(4, .int x.1), (3, .d (.sl false (x.2.map encI)))]) (fun (x : Nat × List Int) => [(200, .vals ((encT t).map .d))]) (fun (x : Nat × List Int) => x.1 ≤ m ∧ rslL (t.kids.drop x.1) x.2 = rslT t ∧ x.2.length ≤ 1 + cntL (t.kids.take x.1)) (fun (x : Nat × List Int) => m - x.1) (0, own1 t.op t.slot) ⟨by omega, by rw [rslT_eq]; rfl, by have := own1_len t.op t.slot; simp [cntL]; omega⟩ (by simp [ho]) fun ⟨i, ac⟩ ⟨hi, hg, hl⟩ => ?_
   simp only at hi hg hl
   simp only [over, List.foldl, List.set]
   apply Run.seq
   apply Run.seq
   refine opsF oo92 fun K hK => ?_
   try simp
   repeat' first | (refine evL_c ?_; simp [hm]) | (with_reducible first | apply aI | intro _ | assumption) | omega
   all_goals (apply Fin.go hK; clear hK K)
   simp only [tN]
   refine Run.cond rfl (fun h20 => ?_) (fun h20 => ?_)
   ·try simp at h20
    have hi1 : i < m := by omega
    have hc := cnt_kid (t := t) (i := i) (by omega)
    have hT := IH i (by omega)
    rw [encT_cells] at hT
    have hr := rslT_len (rdI t.kids i)
    have hU := union_ok ac (rslT (rdI t.kids i)) (by omega)
    apply Run.skip
    simp only [tN]
    apply Run.seq
    apply Run.block
    refine opsF oo93 fun K hK => ?_
    try simp
    repeat' first | (first | refine ecallD (by exact hT) ?_ | refine ecallD (by exact hU) ?_) | (refine evL_c ?_; simp [hm, hi1]) | (with_reducible first | apply aI | intro _ | assumption) | omega
    all_goals (apply Fin.go hK; clear hK K)
    simp only [Blok_normal]
    simp only [tN]
    refine opsF oo94 fun K hK => ?_
    try simp
    repeat' first | (refine evL_c ?_; simp [hm, hi1]) | (with_reducible first | apply aI | intro _ | assumption) | omega
    all_goals (apply Fin.go hK; clear hK K)
    refine ⟨(i + 1, unionS ac (rslT (rdI t.kids i))), ⟨by simp; omega, by rw [← hg, rslL_step (l := t.kids) (i := i) (by omega)], ?_⟩, by simp; omega, ?_⟩
    ·have := union_len ac (rslT (rdI t.kids i))
     simp only
     rw [take_rd (by omega), cntL_app, cntL, cntL]; omega
    ·simp (disch := omega) [hm, wrap_id]
   ·try simp at h20
    rw [rslL_end (by omega)] at hg
    refine Run.exit ?_
    simp (decide := true) only [Then_exit, Blok_exit, if_true, if_false]
    simp only [tN]
    apply Run.seq
    refine opsF oo95 fun K hK => ?_
    try simp
    repeat' first | (refine evL_c ?_; simp [hm]) | (with_reducible first | apply aI | intro _ | assumption) | omega
    all_goals (apply Fin.go hK; clear hK K)
    simp only [tN]
    apply Run.ret
    try simp only [Then_ret, Blok_ret]
    simp [hg]
theorem rslots_ok (t : TermT) (ht : cntT t ≤ 1100000) : Snd P 101 [.d (.ag (encT t))] (.d (.sl false ((rslT t).map encI))) [] :=
 rslots1_ok t ht fun i hi =>
  have := kidT_lt (rdI_mem (l := t.kids) (i := i) (by omega) (by omega))
  rslots_ok (rdI t.kids i) (by have := cnt_kid hi; omega)
termination_by SizeOf.sizeOf t
end Go.Proofs.Ytimgbdkgjfbhkaa.Z
end
section
namespace Go.Proofs.Ytimgbdkgjfbhkaa.Z
open Go Go.Fw
def rbindsS (b : List Bool) (t : TermT) : Bool := !(rslT t).any (badS b)
set_option maxHeartbeats 4000000 in
theorem rbinds_ok (b : List Bool) (t : TermT) (ht : cntT t ≤ 1100000) : SndW P 85 [.rs 0 1 0 b.length, .d (.ag (encT t))] [(0, .data 1 (b.map encB))] (.bool (rbindsS b t)) [(0, .data 1 (b.map encB))] := by
 have hT := rslots_ok t ht
 rw [encT_cells] at hT
 have hlen := rslT_len t
 have hrb : rbindsS b t = !(rslT t).any (badS b) := rfl
 obtain ⟨l, hl⟩ : ∃ x, rslT t = x := ⟨_, rfl⟩
 rw [hl] at hT hlen hrb
 obtain ⟨m, hm⟩ : ∃ x, l.length = x := ⟨_, rfl⟩
 obtain ⟨n, hn⟩ : ∃ x, b.length = x := ⟨_, rfl⟩
 rw [hm] at hlen
 refine sndW_of [0] Try.func85 rfl (by kernel_rfl) Try.ntmps85 (by simp) (by simp) ?_
 unfold Try.f85
 simp only [List.cons_append, List.nil_append, List.length_cons, List.length_nil, Nat.reduceAdd, Nat.reduceSub, List.replicate]
 apply Run.seq
 refine opsF [⟨.box 89 (.tmp 1), some 3, none⟩, ⟨.assign (.const (.bool false)), some 4, none⟩] fun K hK => ?_
 try simp
 repeat' first | (refine evL_c ?_; simp [hm, hn]) | (with_reducible first | apply aI | intro _ | assumption) | omega
 all_goals (apply Fin.go hK; clear hK K)
 simp only [tN]
 apply Run.seq
 refine opsF [oL 89 3 7, oC 101 #[.tmp 7] #[89] 8, oA 8 5] fun K hK => ?_
 try simp
 repeat' first | (refine ecallD (by exact hT) ?_) | (refine evL_c ?_; simp [hm, hn]) | (with_reducible first | apply aI | intro _ | assumption) | omega
 all_goals (apply Fin.go hK; clear hK K)
 simp only [tN]
 apply Run.seq
 apply Run.seq
 refine opsF oo79 fun K hK => ?_
 try simp
 repeat' first | (refine evL_c ?_; simp [hm, hn]) | (with_reducible first | apply aI | intro _ | assumption) | omega
 all_goals (apply Fin.go hK; clear hK K)
 simp only [tN]
 apply Run.block
 refine Run.loopO [4, 6, 9, 10, 11, 12, 13, 14, 15, 16, 17, 18, 19, 20, 21, 22, 23, 24, 25, 26, 27, 28, 29, 30, 31, 32, 33, 34, 35, 36, 37, 38] (fun (i : Nat) => [(6, .int i)]) (fun (i : Nat) => [(0, .data 1 (b.map encB)), (400, .vals ((encT t).map .d))]) (fun (i : Nat) => i ≤ m ∧ ∀ j : Nat, j < i → badS b (rdI l j) = false) (fun (i : Nat) => m - i) 0 ⟨by omega, by omega⟩ (by simp) fun i ⟨hi, hz⟩ => ?_
 simp only [over, List.foldl, List.set]
 apply Run.seq
 apply Run.seq
 refine opsF [oM 6 9, oM 5 10, oN 46 10 11, oB .lss 3 9 11 3 12] fun K hK => ?_
 try simp
 repeat' first | (refine evL_c ?_; simp [hm, hn]) | (with_reducible first | apply aI | intro _ | assumption) | omega
 all_goals (apply Fin.go hK; clear hK K)
 simp only [tN]
 refine Run.cond rfl (fun h12 => ?_) (fun h12 => ?_)
 ·try simp at h12
  have hi1 : i < m := by omega
  have q1 : 0 ≤ rdI l i → rdI l i < (n : Int) → (rdI l i).toNat < n := by omega
  apply Run.skip
  simp only [tN]
  apply Run.seq
  apply Run.block
  refine Run.cut [15, 16, 17, 18, 19, 20, 21, 22, 23, 24, 25, 26, 27, 28, 29, 30, 31, 32, 33, 34, 35, 36, 37, 38] [(38, .bool (badS b (rdI l i)))] [(0, .data 1 (b.map encB)), (400, .vals ((encT t).map .d))] ?_ ?_
  ·refine opsF [oM 5 15, oM 6 16, oI 46 15 16 17, oL 3 17 18, oK .lss 3 18 0 3 19, oM 19 20, ⟨.move (.tmp 5), some 21, some (some 20, false)⟩, ⟨.move (.tmp 6), some 22, some (some 20, false)⟩, ⟨.indexAddr 46 (.tmp 21) (.tmp 22), some 23, some (some 20, false)⟩, ⟨.load 3 (.tmp 23), some 24, some (some 20, false)⟩, ⟨.move (.tmp 0), some 25, some (some 20, false)⟩, ⟨.call { callee := .builtin .len, args := #[.tmp 25], argTypes := #[34] }, some 26, some (some 20, false)⟩, ⟨.binOp .geq 3 (.tmp 24) (.tmp 26) 3, some 27, some (some 20, false)⟩, ⟨.pick (.tmp 20) (.const (.bool true)) (.tmp 27), some 28, none⟩, oM 28 29, ⟨.move (.tmp 0), some 30, some (some 29, false)⟩, ⟨.move (.tmp 5), some 31, some (some 29, false)⟩, ⟨.move (.tmp 6), some 32, some (some 29, false)⟩, ⟨.indexAddr 46 (.tmp 31) (.tmp 32), some 33, some (some 29, false)⟩, ⟨.load 3 (.tmp 33), some 34, some (some 29, false)⟩, ⟨.indexAddr 34 (.tmp 30) (.tmp 34), some 35, some (some 29, false)⟩, ⟨.load 4 (.tmp 35), some 36, some (some 29, false)⟩, ⟨.unOp .not 4 (.tmp 36), some 37, some (some 29, false)⟩, ⟨.pick (.tmp 29) (.const (.bool true)) (.tmp 37), some 38, none⟩] fun K hK => ?_
   try simp
   repeat' first | ((first | refine evL_c ?_ | (refine evL_g rfl ?_; try simp only [gs_tt, gs_ff, gs_tf, gs_ft]) | refine evL_u rfl ?_ | (with_reducible refine gsplit (fun hg => ?_) (fun hg => ?_) <;> try simp at hg)) <;> try simp [hm, hn, hi1, q1, *]) | (with_reducible first | apply aI | intro _ | assumption) | omega
   all_goals (apply Fin.go hK; clear hK K)
   all_goals
    (try simp [badS, hn, hm]) <;> (first | omega | (simp; done) | (rw [Bool.eq_iff_iff]; simp only [Bool.or_eq_true, Bool.and_eq_true, Bool.not_eq_true', decide_eq_true_eq, decide_eq_false_iff_not]; omega) | grind)
  ·simp only [over, List.foldl, List.set]
   refine Run.cond rfl (fun h38 => ?_) (fun h38 => ?_)
   ·try simp at h38
    apply Run.seq
    refine opsF oo13 fun K hK => ?_
    try simp
    repeat' first | (refine evL_c ?_; simp [hm, hn, hi1, q1]) | (with_reducible first | apply aI | intro _ | assumption) | omega
    all_goals (apply Fin.go hK; clear hK K)
    simp only [tN]
    apply Run.ret
    try simp only [Then_ret, Blok_ret]
    first
     | (have e : rbindsS b t = false := by
         rw [hrb, List.any_eq_true.2 ⟨_, rdI_mem (l := l) (i := i) (by omega) (by omega), h38⟩]; rfl
        simp [e, hn]; done)
     | (have e : rbindsS b t = true := by
         rw [hrb]
         have : l.any (badS b) = false := by
          rw [List.any_eq_false]
          intro x hx
          obtain ⟨j, hj⟩ := List.getElem?_of_mem hx
          have h1 := (List.getElem?_eq_some_iff.1 hj).1
          have := hz j (by omega)
          unfold rdI at this
          rw [Int.toNat_natCast, List.getD_eq_getElem?_getD, hj] at this
          simpa using this
         rw [this]; rfl
        simp [e, hn]; done)
   ·try simp at h38
    apply Run.skip
    simp only [Blok_normal]
    simp only [tN]
    refine opsF [oM 6 13, oK .add 3 13 1 3 14, oA 14 6] fun K hK => ?_
    try simp
    repeat' first | (refine evL_c ?_; simp [hm, hn, hi1, q1]) | (with_reducible first | apply aI | intro _ | assumption) | omega
    all_goals (apply Fin.go hK; clear hK K)
    refine ⟨i + 1, ⟨by omega, fun j hj => ?_⟩, by omega, ?_⟩
    ·by_cases e : j = i
     ·subst e; exact h38
     ·exact hz j (by omega)
    ·simp (disch := omega) [wrap_id]
 ·try simp at h12
  refine Run.exit ?_
  simp (decide := true) only [Then_exit, Blok_exit, if_true, if_false]
  simp only [tN]
  apply Run.seq
  refine opsF oo55 fun K hK => ?_
  try simp
  repeat' first | (refine evL_c ?_; simp [hm, hn]) | (with_reducible first | apply aI | intro _ | assumption) | omega
  all_goals (apply Fin.go hK; clear hK K)
  simp only [tN]
  apply Run.ret
  try simp only [Then_ret, Blok_ret]
  first
   | (have e : rbindsS b t = false := by
       rw [hrb, List.any_eq_true.2 ⟨_, rdI_mem (l := l) (i := i) (by omega) (by omega), h38⟩]; rfl
      simp [e, hn]; done)
   | (have e : rbindsS b t = true := by
       rw [hrb]
       have : l.any (badS b) = false := by
        rw [List.any_eq_false]
        intro x hx
        obtain ⟨j, hj⟩ := List.getElem?_of_mem hx
        have h1 := (List.getElem?_eq_some_iff.1 hj).1
        have := hz j (by omega)
        unfold rdI at this
        rw [Int.toNat_natCast, List.getD_eq_getElem?_getD, hj] at this
        simpa using this
       rw [this]; rfl
      simp [e, hn]; done)
end Go.Proofs.Ytimgbdkgjfbhkaa.Z
end
section
namespace Go.Proofs.Ytimgbdkgjfbhkaa.Z
open Go Go.Fw
def badD (c : CoreT) (s : Int) (l : List Int) (b : List Bool) (i : Nat) : Bool := badM1 c (rdI l i) b || badM2 c s (rdI l i) b || (List.range i).any fun j => decide (rdI l (j : Nat) = rdI l i)
def setE (c : CoreT) (l : List Int) (b : List Bool) : Nat → List Bool
 | 0 => b
 | i + 1 => (setE c l b i).set (c.nodes.length + rdI l i).toNat true
end Go.Proofs.Ytimgbdkgjfbhkaa.Z
end
section
namespace Go.Proofs.Ytimgbdkgjfbhkaa.Z
open Go Go.Fw
attribute [-simp] litV
attribute [local simp] litV_agg litV_int litV_str litV_bool litV_slice litV_tup
def edgeQ (s : StepR) : PlanT := .mk (kindS s.op) [] 0 s.edges s.back []
@[simp] theorem edgeQ_op (s : StepR) : (edgeQ s).op = kindS s.op := rfl
@[simp] theorem edgeQ_edges (s : StepR) : (edgeQ s).edges = s.edges := rfl
@[simp] theorem edgeQ_back (s : StepR) : (edgeQ s).back = s.back := rfl
theorem kindS_two (op : Int) : decide (kindS op = 2) = decide (op = 1) := by
 unfold kindS
 by_cases h : op = 1
 ·simp [h]
 ·rw [if_neg h]; split
  ·simp [h]
  ·split
   ·simp [h]
   ·split <;> simp [h]
theorem kindS_iff (op : Int) : kindS op = 2 ↔ op = 1 := by have := kindS_two op; simpa using this
set_option maxHeartbeats 4000000 in
theorem redge_ok (c : CoreT) (r : ProgR) (nB nA : Nat) (rb ra : List (List D)) (s : StepR) (b : List Bool) (hb : b.length = c.nodes.length + c.edges.length) (hE : GoodE c) : SndW P 82 [.pt 0 0 0 0, .d (.ag (encR s)), .rs 3 1 0 b.length] [(0, .vals ([.d (encTa r.tabs), .d (.sl false (r.pipes.map encPi))] ++ (encC c).map .d ++ [.rs 1 1 0 nB, .rs 2 1 0 nA])), (1, .data 1 rb), (2, .data 1 ra), (3, .data 1 (b.map encB))] (.bool (edgeB c (edgeQ s) b)) [(0, .vals ([.d (encTa r.tabs), .d (.sl false (r.pipes.map encPi))] ++ (encC c).map .d ++ [.rs 1 1 0 nB, .rs 2 1 0 nA])), (1, .data 1 rb), (2, .data 1 ra), (3, .data 1 ((edgeL c (edgeQ s) b).map encB))] := by
 obtain ⟨n, hn⟩ : ∃ k, c.nodes.length = k := ⟨_, rfl⟩
 obtain ⟨m, hm⟩ : ∃ m, s.edges.length = m := ⟨_, rfl⟩
 obtain ⟨k, hk⟩ : ∃ k, c.edges.length = k := ⟨_, rfl⟩
 obtain ⟨fr, hfr⟩ : ∃ x, (if s.back then (rdI c.edges (rdI s.edges 0)).dst else (rdI c.edges (rdI s.edges 0)).src) = x := ⟨_, rfl⟩
 obtain ⟨to, hto⟩ : ∃ x, (if s.back then (rdI c.edges (rdI s.edges 0)).src else (rdI c.edges (rdI s.edges 0)).dst) = x := ⟨_, rfl⟩
 rw [hn, hk] at hb
 refine sndW_of [0, 1, 2, 3] Try.func82 rfl (by kernel_rfl) Try.ntmps82 (by simp) (by simp) ?_
 unfold Try.f82
 refine Run.okV 2 rfl fun hL => ?_
 simp only [List.cons_append, List.nil_append, List.length_cons, List.length_nil, Nat.reduceAdd, Nat.reduceSub, List.replicate]
 apply Run.seq
 refine opsF oo96 fun K hK => ?_
 try simp
 repeat' first | (refine evL_c ?_; simp [-List.map_set, hm, hk, hn, hb, hfr, hto]) | (with_reducible first | apply aI | intro _ | assumption) | omega
 all_goals (apply Fin.go hK; clear hK K)
 simp only [tN]
 apply Run.seq
 refine Run.cut [11, 12, 13, 14, 15, 16, 17, 18, 19, 20, 21, 22, 23, 24, 25, 26, 27, 28, 29, 30, 31, 32, 33, 34] [(34, .bool (decide (m ≠ 1 ∨ rdI s.edges 0 < 0 ∨ (k : Int) ≤ rdI s.edges 0)))] [(0, .vals ([.d (encTa r.tabs), .d (.sl false (r.pipes.map encPi))] ++ (encC c).map .d ++ [.rs 1 1 0 nB, .rs 2 1 0 nA])), (1, .data 1 rb), (2, .data 1 ra), (3, .data 1 (b.map encB)), (500, .vals ((encR s).map .d))] ?_ ?_
 ·refine opsF [oF 75 4 2 11, oL 46 11 12, oN 46 12 13, oK .neq 3 13 1 3 14, oM 14 15, ⟨.fieldAddr 75 (.tmp 4) 2, some 16, some (some 15, false)⟩, ⟨.load 46 (.tmp 16), some 17, some (some 15, false)⟩, ⟨.indexAddr 46 (.tmp 17) (.const (.int .i64 0)), some 18, some (some 15, false)⟩, ⟨.load 3 (.tmp 18), some 19, some (some 15, false)⟩, ⟨.binOp .lss 3 (.tmp 19) (.const (.int .i64 0)) 3, some 20, some (some 15, false)⟩, ⟨.pick (.tmp 15) (.const (.bool true)) (.tmp 20), some 21, none⟩, oM 21 22, ⟨.fieldAddr 75 (.tmp 4) 2, some 23, some (some 22, false)⟩, ⟨.load 46 (.tmp 23), some 24, some (some 22, false)⟩, ⟨.indexAddr 46 (.tmp 24) (.const (.int .i64 0)), some 25, some (some 22, false)⟩, ⟨.load 3 (.tmp 25), some 26, some (some 22, false)⟩, ⟨.move (.tmp 0), some 27, some (some 22, false)⟩, ⟨.nilCheck (.tmp 27), some 28, some (some 22, false)⟩, ⟨.fieldAddr 79 (.tmp 28) 1, some 29, some (some 22, false)⟩, ⟨.fieldAddr 32 (.tmp 29) 1, some 30, some (some 22, false)⟩, ⟨.load 27 (.tmp 30), some 31, some (some 22, false)⟩, ⟨.call { callee := .builtin .len, args := #[.tmp 31], argTypes := #[27] }, some 32, some (some 22, false)⟩, ⟨.binOp .geq 3 (.tmp 26) (.tmp 32) 3, some 33, some (some 22, false)⟩, ⟨.pick (.tmp 22) (.const (.bool true)) (.tmp 33), some 34, none⟩] fun K hK => ?_
  try simp
  repeat' first | ((first | refine evL_c ?_ | (refine evL_g rfl ?_; try simp only [gs_tt, gs_ff, gs_tf, gs_ft]) | refine evL_u rfl ?_ | (with_reducible refine gsplit (fun hg => ?_) (fun hg => ?_) <;> try simp at hg)) <;> try simp [-List.map_set, hm, hk, hn, hb, hfr, hto, *]) | (with_reducible first | apply aI | intro _ | assumption) | omega
  all_goals (apply Fin.go hK; clear hK K)
  all_goals
   (try simp [hm, hk, hn, hb, hfr, hto]) <;> (first | omega | (simp; done) | (rw [Bool.eq_iff_iff]; simp only [Bool.or_eq_true, Bool.and_eq_true, Bool.not_eq_true', decide_eq_true_eq, decide_eq_false_iff_not]; omega) | (simp_all; done) | (simp_all; omega) | grind)
 ·simp only [over, List.foldl, List.set]
  refine Run.cond rfl (fun h34 => ?_) (fun h34 => ?_)
  ·replace h34 := of_decide_eq_true h34
   apply Run.seq
   refine opsF oo1 fun K hK => ?_
   try simp
   repeat' first | (refine evL_c ?_; simp [-List.map_set, hm, hk, hn, hb, hfr, hto]) | (with_reducible first | apply aI | intro _ | assumption) | omega
   all_goals (apply Fin.go hK; clear hK K)
   simp only [tN]
   apply Run.ret
   try simp only [Then_ret, Blok_ret]
   first
    | (have e : edgeB c (edgeQ s) b = false := by simp [edgeB, hm, hk, h34]
       simp [edgeL, e, hn]; done)
    | (have e : edgeB c (edgeQ s) b = false := by simp [edgeB, h80]
       simp [edgeL, e, hn]; done)
    | (have e : edgeB c (edgeQ s) b = true := by
        simp only [edgeB, edgeQ_edges, h80, hm, hk, Bool.not_false, Bool.and_true, Bool.not_eq_true', decide_eq_false_iff_not]; omega
       have e2 : edgeL c (edgeQ s) b = (b.set ((n : Int) + rdI s.edges 0).toNat true).set to.toNat true := by
        unfold edgeL
        rw [if_pos e, hn]
        show (b.set ((n : Int) + rdI s.edges 0).toNat true).set (if s.back then (rdI c.edges (rdI s.edges 0)).src else (rdI c.edges (rdI s.edges 0)).dst).toNat true = _
        rw [hto]
       simp [-List.map_set, e, e2]; done)
  ·replace h34 := of_decide_eq_false h34
   have hm1 : m = 1 := by omega
   have h0 : 0 ≤ rdI s.edges 0 := by omega
   have h1 : rdI s.edges 0 < k := by omega
   have hG := hE (rdI c.edges (rdI s.edges 0)) (rdI_mem h0 (by omega))
   rw [hn] at hG
   have hf : 0 ≤ fr ∧ fr < n ∧ 0 ≤ to ∧ to < n := by subst hfr; subst hto; split <;> omega
   obtain ⟨hf1, hf2, hf3, hf4⟩ := hf
   have hf5 : fr < (n : Int) + k := by omega
   have hf6 : to < (n : Int) + k := by omega
   have hf7 : fr.toNat < n + k := by omega
   have hf8 : to.toNat < n + k := by omega
   have hf9 : ((n : Int) + rdI s.edges 0).toNat < n + k := by omega
   have hf0 : 0 ≤ (n : Int) + rdI s.edges 0 := by omega
   have hfa : (n : Int) + rdI s.edges 0 < n + k := by omega
   have hw := wrap_id (n := (n : Int) + rdI s.edges 0) (by omega) (by omega)
   apply Run.skip
   simp only [tN]
   apply Run.seq
   refine opsF [oF 75 4 2 35, oL 46 35 36, ⟨.indexAddr 46 (.tmp 36) (.const (.int .i64 0)), some 37, none⟩, oL 3 37 38, oA 38 7] fun K hK => ?_
   try simp
   repeat' first | (refine evL_c ?_; simp [-List.map_set, hm, hk, hn, hb, hfr, hto, hm1, h0, h1, hf1, hf2, hf3, hf5, hf6, hf7, hf8, hf9, hf0, hfa, hw]) | (with_reducible first | apply aI | intro _ | assumption) | omega
   all_goals (apply Fin.go hK; clear hK K)
   simp only [tN]
   refine Run.cut [8, 39, 40, 41, 42, 43, 44, 45, 46] [(8, .pt 900 0 0 0)] [(0, .vals ([.d (encTa r.tabs), .d (.sl false (r.pipes.map encPi))] ++ (encC c).map .d ++ [.rs 1 1 0 nB, .rs 2 1 0 nA])), (1, .data 1 rb), (2, .data 1 ra), (3, .data 1 (b.map encB)), (500, .vals ((encR s).map .d)), (900, .vals ((encE (rdI c.edges (rdI s.edges 0))).map .d))] ?_ ?_
   ·refine opsF [oM 0 39, oV 39 40, oF 79 40 1 41, oF 32 41 1 42, oL 27 42 43, oM 7 44, oI 27 43 44 45, oL 98 45 46, ⟨.alloc 98, some 8, none⟩, oS 98 8 46] fun K hK => ?_
    try simp
    repeat' first | (refine evL_c ?_; simp [-List.map_set, hm, hk, hn, hb, hfr, hto, hm1, h0, h1, hf1, hf2, hf3, hf5, hf6, hf7, hf8, hf9, hf0, hfa, hw]) | (with_reducible first | apply aI | intro _ | assumption) | omega
    all_goals (apply Fin.go hK; clear hK K)
    (try simp [hm, hk, hn, hb, hfr, hto]) <;> (first | omega | (simp; done) | (rw [Bool.eq_iff_iff]; simp only [Bool.or_eq_true, Bool.and_eq_true, Bool.not_eq_true', decide_eq_true_eq, decide_eq_false_iff_not]; omega) | (simp_all; done) | (simp_all; omega) | grind)
   ·simp only [over, List.foldl, List.set]
    apply Run.seq
    refine opsF [oL 98 8 48, oF 75 4 3 49, oL 4 49 50, oC 100 #[.tmp 48, .tmp 50] #[98, 4] 51, oM 51 47, oX 47 0 52, oX 47 1 53, oA 52 9, oA 53 10] fun K hK => ?_
    try simp
    repeat' first | (refine ecall (rends_ok (rdI c.edges (rdI s.edges 0)) s.back) rfl ?_) | (refine evL_c ?_; simp [-List.map_set, hm, hk, hn, hb, hfr, hto, hm1, h0, h1, hf1, hf2, hf3, hf5, hf6, hf7, hf8, hf9, hf0, hfa, hw]) | (with_reducible first | apply aI | intro _ | assumption) | omega
    all_goals (apply Fin.go hK; clear hK K)
    simp only [tN]
    apply Run.seq
    refine Run.cut [54, 55, 56, 57, 58, 59, 60, 61, 62, 63, 64, 65, 66, 67, 68, 69, 70, 71, 72, 73, 74, 75, 76, 77, 78, 79, 80] [(80, .bool (badEdge c (edgeQ s) b))] [(0, .vals ([.d (encTa r.tabs), .d (.sl false (r.pipes.map encPi))] ++ (encC c).map .d ++ [.rs 1 1 0 nB, .rs 2 1 0 nA])), (1, .data 1 rb), (2, .data 1 ra), (3, .data 1 (b.map encB)), (500, .vals ((encR s).map .d)), (900, .vals ((encE (rdI c.edges (rdI s.edges 0))).map .d))] ?_ ?_
    ·refine opsF [oM 2 54, oM 0 55, oV 55 56, oF 79 56 1 57, oF 32 57 0 58, oL 26 58 59, oN 26 59 60, oM 7 61, oB .add 3 60 61 3 62, oI 34 54 62 63, oL 4 63 64, oM 64 65, ⟨.move (.tmp 2), some 66, some (some 65, false)⟩, ⟨.move (.tmp 9), some 67, some (some 65, false)⟩, ⟨.indexAddr 34 (.tmp 66) (.tmp 67), some 68, some (some 65, false)⟩, ⟨.load 4 (.tmp 68), some 69, some (some 65, false)⟩, ⟨.unOp .not 4 (.tmp 69), some 70, some (some 65, false)⟩, ⟨.pick (.tmp 65) (.const (.bool true)) (.tmp 70), some 71, none⟩, oM 71 72, ⟨.fieldAddr 98 (.tmp 8) 4, some 73, some (some 72, false)⟩, ⟨.load 96 (.tmp 73), some 74, some (some 72, false)⟩, ⟨.binOp .eql 96 (.tmp 74) (.const (.int .i64 0)) 96, some 75, some (some 72, false)⟩, ⟨.fieldAddr 75 (.tmp 4) 0, some 76, some (some 72, false)⟩, ⟨.load 73 (.tmp 76), some 77, some (some 72, false)⟩, ⟨.binOp .eql 73 (.tmp 77) (.const (.int .i64 1)) 73, some 78, some (some 72, false)⟩, ⟨.binOp .neq 4 (.tmp 75) (.tmp 78) 4, some 79, some (some 72, false)⟩, ⟨.pick (.tmp 72) (.const (.bool true)) (.tmp 79), some 80, none⟩] fun K hK => ?_
     try simp
     repeat' first | ((first | refine evL_c ?_ | (refine evL_g rfl ?_; try simp only [gs_tt, gs_ff, gs_tf, gs_ft]) | refine evL_u rfl ?_ | (with_reducible refine gsplit (fun hg => ?_) (fun hg => ?_) <;> try simp at hg)) <;> try simp [-List.map_set, hm, hk, hn, hb, hfr, hto, hm1, h0, h1, hf1, hf2, hf3, hf5, hf6, hf7, hf8, hf9, hf0, hfa, hw]) | (with_reducible first | apply aI | intro _ | assumption) | omega
     all_goals (apply Fin.go hK; clear hK K)
     all_goals
      (try simp [hm, hk, hn, hb, hfr, hto, badEdge, kindS_iff]) <;> (first | omega | (simp; done) | (rw [Bool.eq_iff_iff]; simp only [Bool.or_eq_true, Bool.and_eq_true, Bool.not_eq_true', decide_eq_true_eq, decide_eq_false_iff_not]; omega) | (simp_all; done) | (simp_all; omega) | grind)
    ·simp only [over, List.foldl, List.set]
     refine Run.cond rfl (fun h80 => ?_) (fun h80 => ?_)
     ·try simp at h80
      apply Run.seq
      refine opsF oo1 fun K hK => ?_
      try simp
      repeat' first | (refine evL_c ?_; simp [-List.map_set, hm, hk, hn, hb, hfr, hto, hm1, h0, h1, hf1, hf2, hf3, hf5, hf6, hf7, hf8, hf9, hf0, hfa, hw]) | (with_reducible first | apply aI | intro _ | assumption) | omega
      all_goals (apply Fin.go hK; clear hK K)
      simp only [tN]
      apply Run.ret
      try simp only [Then_ret, Blok_ret]
      first
       | (have e : edgeB c (edgeQ s) b = false := by simp [edgeB, hm, hk, h34]
          simp [edgeL, e, hn]; done)
       | (have e : edgeB c (edgeQ s) b = false := by simp [edgeB, h80]
          simp [edgeL, e, hn]; done)
       | (have e : edgeB c (edgeQ s) b = true := by
           simp only [edgeB, edgeQ_edges, h80, hm, hk, Bool.not_false, Bool.and_true, Bool.not_eq_true', decide_eq_false_iff_not]; omega
          have e2 : edgeL c (edgeQ s) b = (b.set ((n : Int) + rdI s.edges 0).toNat true).set to.toNat true := by
           unfold edgeL
           rw [if_pos e, hn]
           show (b.set ((n : Int) + rdI s.edges 0).toNat true).set (if s.back then (rdI c.edges (rdI s.edges 0)).src else (rdI c.edges (rdI s.edges 0)).dst).toNat true = _
           rw [hto]
          simp [-List.map_set, e, e2]; done)
     ·try simp at h80
      apply Run.skip
      simp only [tN]
      apply Run.seq
      refine opsF [oM 2 81, oM 0 82, oV 82 83, oF 79 83 1 84, oF 32 84 0 85, oL 26 85 86, oN 26 86 87, oM 7 88, oB .add 3 87 88 3 89, oI 34 81 89 90, ⟨.store 4 (.tmp 90) (.const (.bool true)), none, none⟩] fun K hK => ?_
      try simp
      repeat' first | (refine evL_c ?_; simp [-List.map_set, hm, hk, hn, hb, hfr, hto, hm1, h0, h1, hf1, hf2, hf3, hf5, hf6, hf7, hf8, hf9, hf0, hfa, hw]) | (with_reducible first | apply aI | intro _ | assumption) | omega
      all_goals (apply Fin.go hK; clear hK K)
      simp only [tN]
      apply Run.seq
      refine opsF [oM 2 91, oM 10 92, oI 34 91 92 93, ⟨.store 4 (.tmp 93) (.const (.bool true)), none, none⟩] fun K hK => ?_
      try simp
      repeat' first | (refine evL_c ?_; simp [-List.map_set, hm, hk, hn, hb, hfr, hto, hm1, h0, h1, hf1, hf2, hf3, hf5, hf6, hf7, hf8, hf9, hf0, hfa, hw]) | (with_reducible first | apply aI | intro _ | assumption) | omega
      all_goals (apply Fin.go hK; clear hK K)
      simp only [tN]
      apply Run.seq
      refine opsF oo2 fun K hK => ?_
      try simp
      repeat' first | (refine evL_c ?_; simp [-List.map_set, hm, hk, hn, hb, hfr, hto, hm1, h0, h1, hf1, hf2, hf3, hf5, hf6, hf7, hf8, hf9, hf0, hfa, hw]) | (with_reducible first | apply aI | intro _ | assumption) | omega
      all_goals (apply Fin.go hK; clear hK K)
      simp only [tN]
      apply Run.ret
      try simp only [Then_ret, Blok_ret]
      first
       | (have e : edgeB c (edgeQ s) b = false := by simp [edgeB, hm, hk, h34]
          simp [edgeL, e, hn]; done)
       | (have e : edgeB c (edgeQ s) b = false := by simp [edgeB, h80]
          simp [edgeL, e, hn]; done)
       | (have e : edgeB c (edgeQ s) b = true := by
           simp only [edgeB, edgeQ_edges, h80, hm, hk, Bool.not_false, Bool.and_true, Bool.not_eq_true', decide_eq_false_iff_not]; omega
          have e2 : edgeL c (edgeQ s) b = (b.set ((n : Int) + rdI s.edges 0).toNat true).set to.toNat true := by
           unfold edgeL
           rw [if_pos e, hn]
           show (b.set ((n : Int) + rdI s.edges 0).toNat true).set (if s.back then (rdI c.edges (rdI s.edges 0)).src else (rdI c.edges (rdI s.edges 0)).dst).toNat true = _
           rw [hto]
          simp [-List.map_set, e, e2]; done)
end Go.Proofs.Ytimgbdkgjfbhkaa.Z
end
section
namespace Go.Proofs.Ytimgbdkgjfbhkaa.Z
open Go Go.Fw
attribute [-simp] litV
attribute [local simp] litV_agg litV_int litV_str litV_bool litV_slice litV_tup
def meetQ (s : StepR) : PlanT := .mk 5 [] s.slot s.edges false []
@[simp] theorem meetQ_slot (s : StepR) : (meetQ s).slot = s.slot := rfl
@[simp] theorem meetQ_edges (s : StepR) : (meetQ s).edges = s.edges := rfl
set_option maxHeartbeats 4000000 in
theorem rmeet_ok (c : CoreT) (r : ProgR) (nB nA : Nat) (rb ra : List (List D)) (s : StepR) (b : List Bool) (hb : b.length = c.nodes.length + c.edges.length) (hE : GoodE c) : SndW P 83 [.pt 0 0 0 0, .d (.ag (encR s)), .rs 3 1 0 b.length] [(0, .vals ([.d (encTa r.tabs), .d (.sl false (r.pipes.map encPi))] ++ (encC c).map .d ++ [.rs 1 1 0 nB, .rs 2 1 0 nA])), (1, .data 1 rb), (2, .data 1 ra), (3, .data 1 (b.map encB))] (.bool (meetB c (meetQ s) b)) [(0, .vals ([.d (encTa r.tabs), .d (.sl false (r.pipes.map encPi))] ++ (encC c).map .d ++ [.rs 1 1 0 nB, .rs 2 1 0 nA])), (1, .data 1 rb), (2, .data 1 ra), (3, .data 1 ((meetR c (meetQ s) b).map encB))] := by
 refine SndW.ok 1 rfl (by kernel_rfl) fun hp => ?_
 have hpm : s.edges.length ≤ 9223372036854775807 := by simp only [encR, D.ok, D.okL, List.length_map] at hp; exact hp.2.2.1.1
 clear hp
 obtain ⟨n, hn⟩ : ∃ k, c.nodes.length = k := ⟨_, rfl⟩
 obtain ⟨m, hm⟩ : ∃ m, s.edges.length = m := ⟨_, rfl⟩
 obtain ⟨k, hk⟩ : ∃ k, c.edges.length = k := ⟨_, rfl⟩
 rw [hn, hk] at hb
 rw [hm] at hpm
 refine sndW_of [0, 1, 2, 3] Try.func83 rfl (by kernel_rfl) Try.ntmps83 (by simp) (by simp) ?_
 unfold Try.f83
 refine Run.okV 2 rfl fun hL => ?_
 have hs1 : 0 ≤ s.slot → s.slot < (n:Int) → s.slot.toNat < n + k := by omega
 have hs2 : 0 ≤ s.slot → s.slot < (n:Int) → s.slot < (n:Int) + k := by omega
 have hq1 : ∀ e : Int, 0 ≤ e → e < k → ((n:Int) + e).toNat < n + k := by omega
 have hq2 : ∀ e : Int, 0 ≤ e → e < k → 0 ≤ (n:Int) + e := by omega
 have hq3 : ∀ e : Int, 0 ≤ e → e < k → IntKind.i64.wrap ((n:Int) + e) = (n:Int) + e := fun e _ _ => wrap_id (by omega) (by omega)
 have hg0 : ∀ e : Int, 0 ≤ e → e < k → 0 ≤ (rdI c.edges e).src ∧ 0 ≤ (rdI c.edges e).dst ∧ (rdI c.edges e).src < (n : Int) + k ∧ (rdI c.edges e).dst < (n : Int) + k ∧ (rdI c.edges e).src.toNat < n + k ∧ (rdI c.edges e).dst.toNat < n + k := fun e h0 h1 => by
  have := hE (rdI c.edges e) (rdI_mem h0 (by omega)); rw [hn] at this; omega
 simp only [List.cons_append, List.nil_append, List.length_cons, List.length_nil, Nat.reduceAdd, Nat.reduceSub, List.replicate]
 apply Run.seq
 refine opsF oo96 fun K hK => ?_
 try simp
 repeat' first | (refine evL_c ?_; simp [-List.map_set, hm, hk, hn, hb, hs1, hs2, hq1, hq2, hq3, hg0]) | (with_reducible first | apply aI | intro _ | assumption) | omega
 all_goals (apply Fin.go hK; clear hK K)
 simp only [tN]
 apply Run.seq
 refine Run.cut [10, 11, 12, 13, 14, 15, 16, 17, 18, 19, 20, 21, 22, 23, 24, 25, 26, 27, 28, 29, 30, 31, 32, 33, 34, 35, 36] [(36, .bool (badSlot c (meetQ s) b))] [(0, .vals ([.d (encTa r.tabs), .d (.sl false (r.pipes.map encPi))] ++ (encC c).map .d ++ [.rs 1 1 0 nB, .rs 2 1 0 nA])), (1, .data 1 rb), (2, .data 1 ra), (3, .data 1 (b.map encB)), (500, .vals ((encR s).map .d))] ?_ ?_
 ·refine opsF [oF 75 4 1 10, oL 3 10 11, oK .lss 3 11 0 3 12, oM 12 13, ⟨.fieldAddr 75 (.tmp 4) 1, some 14, some (some 13, false)⟩, ⟨.load 3 (.tmp 14), some 15, some (some 13, false)⟩, ⟨.move (.tmp 0), some 16, some (some 13, false)⟩, ⟨.nilCheck (.tmp 16), some 17, some (some 13, false)⟩, ⟨.fieldAddr 79 (.tmp 17) 1, some 18, some (some 13, false)⟩, ⟨.fieldAddr 32 (.tmp 18) 0, some 19, some (some 13, false)⟩, ⟨.load 26 (.tmp 19), some 20, some (some 13, false)⟩, ⟨.call { callee := .builtin .len, args := #[.tmp 20], argTypes := #[26] }, some 21, some (some 13, false)⟩, ⟨.binOp .geq 3 (.tmp 15) (.tmp 21) 3, some 22, some (some 13, false)⟩, ⟨.pick (.tmp 13) (.const (.bool true)) (.tmp 22), some 23, none⟩, oM 23 24, ⟨.move (.tmp 2), some 25, some (some 24, false)⟩, ⟨.fieldAddr 75 (.tmp 4) 1, some 26, some (some 24, false)⟩, ⟨.load 3 (.tmp 26), some 27, some (some 24, false)⟩, ⟨.indexAddr 34 (.tmp 25) (.tmp 27), some 28, some (some 24, false)⟩, ⟨.load 4 (.tmp 28), some 29, some (some 24, false)⟩, ⟨.pick (.tmp 24) (.const (.bool true)) (.tmp 29), some 30, none⟩, oM 30 31, ⟨.fieldAddr 75 (.tmp 4) 2, some 32, some (some 31, false)⟩, ⟨.load 46 (.tmp 32), some 33, some (some 31, false)⟩, ⟨.call { callee := .builtin .len, args := #[.tmp 33], argTypes := #[46] }, some 34, some (some 31, false)⟩, ⟨.binOp .lss 3 (.tmp 34) (.const (.int .i64 1)) 3, some 35, some (some 31, false)⟩, ⟨.pick (.tmp 31) (.const (.bool true)) (.tmp 35), some 36, none⟩] fun K hK => ?_
  try simp
  repeat' first | ((first | refine evL_c ?_ | (refine evL_g rfl ?_; try simp only [gs_tt, gs_ff, gs_tf, gs_ft]) | refine evL_u rfl ?_ | (with_reducible refine gsplit (fun hg => ?_) (fun hg => ?_) <;> try simp at hg)) <;> try simp [-List.map_set, hm, hk, hn, hb, hs1, hs2, hq1, hq2, hq3, hg0, *]) | (with_reducible first | apply aI | intro _ | assumption) | omega
  all_goals (apply Fin.go hK; clear hK K)
  all_goals
   (try simp [hm, hk, hn, hb, badSlot, *]) <;> (first | omega | (simp; done) | (rw [Bool.eq_iff_iff]; simp only [Bool.or_eq_true, Bool.and_eq_true, Bool.not_eq_true', decide_eq_true_eq, decide_eq_false_iff_not]; omega) | (clear hq1 hq2 hq3 hs1 hs2 hg0 hE; grind) | (simp_all; done) | (simp_all; omega))
 ·simp only [over, List.foldl, List.set]
  refine Run.cond rfl (fun h36 => ?_) (fun h36 => ?_)
  ·try simp at h36
   apply Run.seq
   refine opsF oo1 fun K hK => ?_
   try simp
   repeat' first | (refine evL_c ?_; simp [-List.map_set, hm, hk, hn, hb, hs1, hs2, hq1, hq2, hq3, hg0]) | (with_reducible first | apply aI | intro _ | assumption) | omega
   all_goals (apply Fin.go hK; clear hK K)
   simp only [tN]
   apply Run.ret
   try simp only [Then_ret, Blok_ret]
   first
    | (have e : meetB c (meetQ s) b = false := by simp [meetB, h36]
       simp [meetR, e, h36, hn]; done)
    | (have e1 : meetL c s.slot s.edges b = (false, bi) := by
        simp only [Bool.or_eq_true] at h85
        rw [hml]
        rcases h85 with h | h
        ·exact meetL_bad (by omega) (.inl h)
        ·exact meetL_bad (by omega) (.inr (by simp [badM2, h]))
       simp [meetR, meetB, e1, h36, hn]; done)
    | (have e1 : meetL c s.slot s.edges b = (false, bi) := by rw [hml]; exact meetL_bad (by omega) (.inr (by simp [badM2, h120]))
       simp [meetR, meetB, e1, h36, hn]; done)
    | (have e1 : meetL c s.slot s.edges b = (true, bi) := by rw [hml, meetL_end (by omega)]
       simp [-List.map_set, meetR, meetB, e1, h36, hn]; done)
  ·try simp at h36
   have h36' := h36
   simp [badSlot, hk, hn, hm] at h36'
   obtain ⟨⟨⟨hp0, hp1⟩, hp2⟩, hp3⟩ := h36'
   have hpa : 0 ≤ s.slot := Int.not_lt.1 (of_decide_eq_false hp0)
   have hpb : s.slot < n := hp1
   have hpc : s.slot < (n : Int) + k := by omega
   have hpd : s.slot.toNat < n + k := by omega
   apply Run.skip
   simp only [tN]
   apply Run.seq
   apply Run.seq
   refine opsF oo80 fun K hK => ?_
   try simp
   repeat' first | (refine evL_c ?_; simp [-List.map_set, hm, hk, hn, hb, hs1, hs2, hq1, hq2, hq3, hg0, hpa, hpb, hpc, hpd]) | (with_reducible first | apply aI | intro _ | assumption) | omega
   all_goals (apply Fin.go hK; clear hK K)
   simp only [tN]
   apply Run.block
   refine Run.loopO [6, 7, 8, 9, 37, 38, 39, 40, 41, 42, 43, 44, 45, 46, 47, 48, 49, 50, 51, 52, 53, 54, 55, 56, 57, 58, 59, 60, 61, 62, 63, 64, 65, 66, 67, 68, 69, 70, 71, 72, 73, 74, 75, 76, 77, 78, 79, 80, 81, 82, 83, 84, 85, 86, 87, 88, 89, 90, 91, 92, 93, 94, 95, 96, 97, 98, 99, 100, 101, 102, 103, 104, 105, 106, 107, 108, 109, 110, 111, 112, 113, 114, 115, 116, 117, 118, 119, 120, 121, 122, 123, 124, 125, 126, 127, 128, 129, 130] (fun (x : Nat × List Bool) => [(7, .int x.1)]) (fun (x : Nat × List Bool) => [(0, .vals ([.d (encTa r.tabs), .d (.sl false (r.pipes.map encPi))] ++ (encC c).map .d ++ [.rs 1 1 0 nB, .rs 2 1 0 nA])), (1, .data 1 rb), (2, .data 1 ra), (3, .data 1 (x.2.map encB)), (500, .vals ((encR s).map .d))]) (fun (x : Nat × List Bool) => x.1 ≤ m ∧ x.2.length = n + k ∧ meetL c s.slot s.edges b = meetL c s.slot (s.edges.drop x.1) x.2) (fun (x : Nat × List Bool) => m - x.1) (0, b) (by simp [hb]) (by simp [hb, hn]) fun ⟨i, bi⟩ ⟨hi, hbi, hml⟩ => ?_
   simp only at hi hbi hml
   simp only [over, List.foldl, List.set]
   apply Run.seq
   apply Run.seq
   refine opsF [oM 7 37, oF 75 4 2 38, oL 46 38 39, oN 46 39 40, oB .lss 3 37 40 3 41] fun K hK => ?_
   try simp
   repeat' first | (refine evL_c ?_; simp [-List.map_set, hm, hk, hn, hb, hs1, hs2, hq1, hq2, hq3, hg0, hpa, hpb, hpc, hpd]) | (with_reducible first | apply aI | intro _ | assumption) | omega
   all_goals (apply Fin.go hK; clear hK K)
   simp only [tN]
   refine Run.cond rfl (fun h41 => ?_) (fun h41 => ?_)
   ·try simp at h41
    have hi1 : i < m := by omega
    apply Run.skip
    simp only [tN]
    apply Run.seq
    apply Run.block
    apply Run.seq
    refine opsF [oF 75 4 2 44, oL 46 44 45, oM 7 46, oI 46 45 46 47, oL 3 47 48, oA 48 8] fun K hK => ?_
    try simp
    repeat' first | (refine evL_c ?_; simp [-List.map_set, hm, hk, hn, hb, hs1, hs2, hq1, hq2, hq3, hg0, hpa, hpb, hpc, hpd, hi1, hbi]) | (with_reducible first | apply aI | intro _ | assumption) | omega
    all_goals (apply Fin.go hK; clear hK K)
    simp only [tN]
    apply Run.seq
    refine Run.cut [49, 50, 51, 52, 53, 54, 55, 56, 57, 58, 59, 60, 61, 62, 63, 64, 65, 66, 67, 68, 69, 70, 71, 72, 73, 74, 75, 76, 77, 78, 79, 80, 81, 82, 83, 84, 85] [(85, .bool (badM1 c (rdI s.edges i) bi || !decide ((rdI c.edges (rdI s.edges i)).mode = 0)))] [(0, .vals ([.d (encTa r.tabs), .d (.sl false (r.pipes.map encPi))] ++ (encC c).map .d ++ [.rs 1 1 0 nB, .rs 2 1 0 nA])), (1, .data 1 rb), (2, .data 1 ra), (3, .data 1 (bi.map encB)), (500, .vals ((encR s).map .d))] ?_ ?_
    ·refine opsF [oM 8 49, oK .lss 3 49 0 3 50, oM 50 51, ⟨.move (.tmp 8), some 52, some (some 51, false)⟩, ⟨.move (.tmp 0), some 53, some (some 51, false)⟩, ⟨.nilCheck (.tmp 53), some 54, some (some 51, false)⟩, ⟨.fieldAddr 79 (.tmp 54) 1, some 55, some (some 51, false)⟩, ⟨.fieldAddr 32 (.tmp 55) 1, some 56, some (some 51, false)⟩, ⟨.load 27 (.tmp 56), some 57, some (some 51, false)⟩, ⟨.call { callee := .builtin .len, args := #[.tmp 57], argTypes := #[27] }, some 58, some (some 51, false)⟩, ⟨.binOp .geq 3 (.tmp 52) (.tmp 58) 3, some 59, some (some 51, false)⟩, ⟨.pick (.tmp 51) (.const (.bool true)) (.tmp 59), some 60, none⟩, oM 60 61, ⟨.move (.tmp 2), some 62, some (some 61, false)⟩, ⟨.move (.tmp 0), some 63, some (some 61, false)⟩, ⟨.nilCheck (.tmp 63), some 64, some (some 61, false)⟩, ⟨.fieldAddr 79 (.tmp 64) 1, some 65, some (some 61, false)⟩, ⟨.fieldAddr 32 (.tmp 65) 0, some 66, some (some 61, false)⟩, ⟨.load 26 (.tmp 66), some 67, some (some 61, false)⟩, ⟨.call { callee := .builtin .len, args := #[.tmp 67], argTypes := #[26] }, some 68, some (some 61, false)⟩, ⟨.move (.tmp 8), some 69, some (some 61, false)⟩, ⟨.binOp .add 3 (.tmp 68) (.tmp 69) 3, some 70, some (some 61, false)⟩, ⟨.indexAddr 34 (.tmp 62) (.tmp 70), some 71, some (some 61, false)⟩, ⟨.load 4 (.tmp 71), some 72, some (some 61, false)⟩, ⟨.pick (.tmp 61) (.const (.bool true)) (.tmp 72), some 73, none⟩, oM 73 74, ⟨.move (.tmp 0), some 75, some (some 74, false)⟩, ⟨.nilCheck (.tmp 75), some 76, some (some 74, false)⟩, ⟨.fieldAddr 79 (.tmp 76) 1, some 77, some (some 74, false)⟩, ⟨.fieldAddr 32 (.tmp 77) 1, some 78, some (some 74, false)⟩, ⟨.load 27 (.tmp 78), some 79, some (some 74, false)⟩, ⟨.move (.tmp 8), some 80, some (some 74, false)⟩, ⟨.indexAddr 27 (.tmp 79) (.tmp 80), some 81, some (some 74, false)⟩, ⟨.fieldAddr 98 (.tmp 81) 4, some 82, some (some 74, false)⟩, ⟨.load 96 (.tmp 82), some 83, some (some 74, false)⟩, ⟨.binOp .neq 96 (.tmp 83) (.const (.int .i64 0)) 96, some 84, some (some 74, false)⟩, ⟨.pick (.tmp 74) (.const (.bool true)) (.tmp 84), some 85, none⟩] fun K hK => ?_
     try simp
     repeat' first | ((first | refine evL_c ?_ | (refine evL_g rfl ?_; try simp only [gs_tt, gs_ff, gs_tf, gs_ft]) | refine evL_u rfl ?_ | (with_reducible refine gsplit (fun hg => ?_) (fun hg => ?_) <;> try simp at hg)) <;> try simp [-List.map_set, hm, hk, hn, hb, hs1, hs2, hq1, hq2, hq3, hg0, hpa, hpb, hpc, hpd, hi1, hbi, *]) | (with_reducible first | apply aI | intro _ | assumption) | omega
     all_goals (apply Fin.go hK; clear hK K)
     all_goals
      (try simp [hm, hk, hn, hb, badM1, *]) <;> (first | omega | (simp; done) | (rw [Bool.eq_iff_iff]; simp only [Bool.or_eq_true, Bool.and_eq_true, Bool.not_eq_true', decide_eq_true_eq, decide_eq_false_iff_not]; omega) | (clear hq1 hq2 hq3 hs1 hs2 hg0 hE; grind) | (simp_all; done) | (simp_all; omega))
    ·simp only [over, List.foldl, List.set]
     refine Run.cond rfl (fun h85 => ?_) (fun h85 => ?_)
     ·skip
      apply Run.seq
      refine opsF oo1 fun K hK => ?_
      try simp
      repeat' first | (refine evL_c ?_; simp [-List.map_set, hm, hk, hn, hb, hs1, hs2, hq1, hq2, hq3, hg0, hpa, hpb, hpc, hpd, hi1, hbi]) | (with_reducible first | apply aI | intro _ | assumption) | omega
      all_goals (apply Fin.go hK; clear hK K)
      simp only [tN]
      apply Run.ret
      try simp only [Then_ret, Blok_ret]
      first
       | (have e : meetB c (meetQ s) b = false := by simp [meetB, h36]
          simp [meetR, e, h36, hn]; done)
       | (have e1 : meetL c s.slot s.edges b = (false, bi) := by
           simp only [Bool.or_eq_true] at h85
           rw [hml]
           rcases h85 with h | h
           ·exact meetL_bad (by omega) (.inl h)
           ·exact meetL_bad (by omega) (.inr (by simp [badM2, h]))
          simp [meetR, meetB, e1, h36, hn]; done)
       | (have e1 : meetL c s.slot s.edges b = (false, bi) := by rw [hml]; exact meetL_bad (by omega) (.inr (by simp [badM2, h120]))
          simp [meetR, meetB, e1, h36, hn]; done)
       | (have e1 : meetL c s.slot s.edges b = (true, bi) := by rw [hml, meetL_end (by omega)]
          simp [-List.map_set, meetR, meetB, e1, h36, hn]; done)
     ·have h85' := h85
      simp only [Bool.or_eq_false_iff, badM1, hk, hn, decide_eq_false_iff_not] at h85'
      have he0 : 0 ≤ rdI s.edges i := by omega
      have he1 : rdI s.edges i < k := by omega
      apply Run.skip
      simp only [tN]
      refine Run.cut [9, 86, 87, 88, 89, 90, 91, 92, 93] [(9, .pt 1000 0 0 0)] [(0, .vals ([.d (encTa r.tabs), .d (.sl false (r.pipes.map encPi))] ++ (encC c).map .d ++ [.rs 1 1 0 nB, .rs 2 1 0 nA])), (1, .data 1 rb), (2, .data 1 ra), (3, .data 1 (bi.map encB)), (500, .vals ((encR s).map .d)), (1000, .vals ((encE (rdI c.edges (rdI s.edges i))).map .d))] ?_ ?_
      ·refine opsF [oM 0 86, oV 86 87, oF 79 87 1 88, oF 32 88 1 89, oL 27 89 90, oM 8 91, oI 27 90 91 92, oL 98 92 93, ⟨.alloc 98, some 9, none⟩, oS 98 9 93] fun K hK => ?_
       try simp
       repeat' first | (refine evL_c ?_; simp [-List.map_set, hm, hk, hn, hb, hs1, hs2, hq1, hq2, hq3, hg0, hpa, hpb, hpc, hpd, hi1, hbi, he0, he1]) | (with_reducible first | apply aI | intro _ | assumption) | omega
       all_goals (apply Fin.go hK; clear hK K)
       (try simp [hm, hk, hn, hb]) <;> (first | omega | (simp; done) | (rw [Bool.eq_iff_iff]; simp only [Bool.or_eq_true, Bool.and_eq_true, Bool.not_eq_true', decide_eq_true_eq, decide_eq_false_iff_not]; omega) | (clear hq1 hq2 hq3 hs1 hs2 hg0 hE; grind) | (simp_all; done) | (simp_all; omega))
      ·simp only [over, List.foldl, List.set]
       apply Run.seq
       refine Run.cut [94, 95, 96, 97, 98, 99, 100, 101, 102, 103, 104, 105, 106, 107, 108, 109, 110, 111, 112, 113, 114, 115, 116, 117, 118, 119, 120] [(120, .bool (!touchM c s.slot (rdI s.edges i) bi))] [(0, .vals ([.d (encTa r.tabs), .d (.sl false (r.pipes.map encPi))] ++ (encC c).map .d ++ [.rs 1 1 0 nB, .rs 2 1 0 nA])), (1, .data 1 rb), (2, .data 1 ra), (3, .data 1 (bi.map encB)), (500, .vals ((encR s).map .d)), (1000, .vals ((encE (rdI c.edges (rdI s.edges i))).map .d))] ?_ ?_
       ·refine opsF [oF 98 9 2 94, oL 3 94 95, oF 75 4 1 96, oL 3 96 97, oB .eql 3 95 97 3 98, oM 98 99, ⟨.move (.tmp 2), some 100, some (some 99, true)⟩, ⟨.fieldAddr 98 (.tmp 9) 3, some 101, some (some 99, true)⟩, ⟨.load 3 (.tmp 101), some 102, some (some 99, true)⟩, ⟨.indexAddr 34 (.tmp 100) (.tmp 102), some 103, some (some 99, true)⟩, ⟨.load 4 (.tmp 103), some 104, some (some 99, true)⟩, ⟨.pick (.tmp 99) (.tmp 104) (.const (.bool false)), some 105, none⟩, oM 105 106, ⟨.fieldAddr 98 (.tmp 9) 3, some 107, some (some 106, false)⟩, ⟨.load 3 (.tmp 107), some 108, some (some 106, false)⟩, ⟨.fieldAddr 75 (.tmp 4) 1, some 109, some (some 106, false)⟩, ⟨.load 3 (.tmp 109), some 110, some (some 106, false)⟩, ⟨.binOp .eql 3 (.tmp 108) (.tmp 110) 3, some 111, some (some 106, false)⟩, ⟨.move (.tmp 111), some 112, some (some 106, false)⟩, ⟨.move (.tmp 2), some 113, some (some 112, true)⟩, ⟨.fieldAddr 98 (.tmp 9) 2, some 114, some (some 112, true)⟩, ⟨.load 3 (.tmp 114), some 115, some (some 112, true)⟩, ⟨.indexAddr 34 (.tmp 113) (.tmp 115), some 116, some (some 112, true)⟩, ⟨.load 4 (.tmp 116), some 117, some (some 112, true)⟩, ⟨.pick (.tmp 112) (.tmp 117) (.const (.bool false)), some 118, some (some 106, false)⟩, ⟨.pick (.tmp 106) (.const (.bool true)) (.tmp 118), some 119, none⟩, ⟨.unOp .not 4 (.tmp 119), some 120, none⟩] fun K hK => ?_
        try simp
        repeat' first | ((first | refine evL_c ?_ | (refine evL_g rfl ?_; try simp only [gs_tt, gs_ff, gs_tf, gs_ft]) | refine evL_u rfl ?_ | (with_reducible refine gsplit (fun hg => ?_) (fun hg => ?_) <;> try simp at hg)) <;> try simp [-List.map_set, hm, hk, hn, hb, hs1, hs2, hq1, hq2, hq3, hg0, hpa, hpb, hpc, hpd, hi1, hbi, he0, he1]) | (with_reducible first | apply aI | intro _ | assumption) | omega
        all_goals (apply Fin.go hK; clear hK K)
        all_goals
         (try simp [hm, hk, hn, hb, touchM, *]) <;> (first | omega | (simp; done) | (rw [Bool.eq_iff_iff]; simp only [Bool.or_eq_true, Bool.and_eq_true, Bool.not_eq_true', decide_eq_true_eq, decide_eq_false_iff_not]; omega) | (clear hq1 hq2 hq3 hs1 hs2 hg0 hE; grind) | (simp_all; done) | (simp_all; omega))
       ·simp only [over, List.foldl, List.set]
        refine Run.cond rfl (fun h120 => ?_) (fun h120 => ?_)
        ·skip
         apply Run.seq
         refine opsF oo1 fun K hK => ?_
         try simp
         repeat' first | (refine evL_c ?_; simp [-List.map_set, hm, hk, hn, hb, hs1, hs2, hq1, hq2, hq3, hg0, hpa, hpb, hpc, hpd, hi1, hbi, he0, he1]) | (with_reducible first | apply aI | intro _ | assumption) | omega
         all_goals (apply Fin.go hK; clear hK K)
         simp only [tN]
         apply Run.ret
         try simp only [Then_ret, Blok_ret]
         first
          | (have e : meetB c (meetQ s) b = false := by simp [meetB, h36]
             simp [meetR, e, h36, hn]; done)
          | (have e1 : meetL c s.slot s.edges b = (false, bi) := by
              simp only [Bool.or_eq_true] at h85
              rw [hml]
              rcases h85 with h | h
              ·exact meetL_bad (by omega) (.inl h)
              ·exact meetL_bad (by omega) (.inr (by simp [badM2, h]))
             simp [meetR, meetB, e1, h36, hn]; done)
          | (have e1 : meetL c s.slot s.edges b = (false, bi) := by rw [hml]; exact meetL_bad (by omega) (.inr (by simp [badM2, h120]))
             simp [meetR, meetB, e1, h36, hn]; done)
          | (have e1 : meetL c s.slot s.edges b = (true, bi) := by rw [hml, meetL_end (by omega)]
             simp [-List.map_set, meetR, meetB, e1, h36, hn]; done)
        ·have hto : touchM c s.slot (rdI s.edges i) bi = true := by simpa using h120
         apply Run.skip
         simp only [tN]
         refine opsF [oM 2 121, oM 0 122, oV 122 123, oF 79 123 1 124, oF 32 124 0 125, oL 26 125 126, oN 26 126 127, oM 8 128, oB .add 3 127 128 3 129, oI 34 121 129 130, ⟨.store 4 (.tmp 130) (.const (.bool true)), none, none⟩] fun K hK => ?_
         try simp
         repeat' first | (refine evL_c ?_; simp [-List.map_set, hm, hk, hn, hb, hs1, hs2, hq1, hq2, hq3, hg0, hpa, hpb, hpc, hpd, hi1, hbi, he0, he1]) | (with_reducible first | apply aI | intro _ | assumption) | omega
         all_goals (apply Fin.go hK; clear hK K)
         simp only [Blok_normal]
         simp only [tN]
         refine opsF [oM 7 42, oK .add 3 42 1 3 43, oA 43 7] fun K hK => ?_
         try simp
         repeat' first | (refine evL_c ?_; simp [-List.map_set, hm, hk, hn, hb, hs1, hs2, hq1, hq2, hq3, hg0, hpa, hpb, hpc, hpd, hi1, hbi, he0, he1]) | (with_reducible first | apply aI | intro _ | assumption) | omega
         all_goals (apply Fin.go hK; clear hK K)
         have hB1 : badM1 c (rdI s.edges i) bi = false := by simp only [Bool.or_eq_false_iff] at h85; exact h85.1
         have hB2 : badM2 c s.slot (rdI s.edges i) bi = false := by simp only [Bool.or_eq_false_iff] at h85; simp [badM2, hto, h85.2]
         refine ⟨(i + 1, bi.set ((n:Int) + rdI s.edges i).toNat true), ⟨by simp; omega, by simp [hbi], ?_⟩, by simp; omega, ?_⟩
         ·rw [hml, meetL_step (by omega) hB1 hB2, hn]
         ·simp (disch := omega) [wrap_id, -List.map_set, hn]
   ·try simp at h41
    refine Run.exit ?_
    simp (decide := true) only [Then_exit, Blok_exit, if_true, if_false]
    simp only [tN]
    apply Run.seq
    refine opsF [oM 2 131, oF 75 4 1 132, oL 3 132 133, oI 34 131 133 134, ⟨.store 4 (.tmp 134) (.const (.bool true)), none, none⟩] fun K hK => ?_
    try simp
    repeat' first | (refine evL_c ?_; simp [-List.map_set, hm, hk, hn, hb, hs1, hs2, hq1, hq2, hq3, hg0, hpa, hpb, hpc, hpd, hbi]) | (with_reducible first | apply aI | intro _ | assumption) | omega
    all_goals (apply Fin.go hK; clear hK K)
    simp only [tN]
    apply Run.seq
    refine opsF oo2 fun K hK => ?_
    try simp
    repeat' first | (refine evL_c ?_; simp [-List.map_set, hm, hk, hn, hb, hs1, hs2, hq1, hq2, hq3, hg0, hpa, hpb, hpc, hpd, hbi]) | (with_reducible first | apply aI | intro _ | assumption) | omega
    all_goals (apply Fin.go hK; clear hK K)
    simp only [tN]
    apply Run.ret
    try simp only [Then_ret, Blok_ret]
    first
     | (have e : meetB c (meetQ s) b = false := by simp [meetB, h36]
        simp [meetR, e, h36, hn]; done)
     | (have e1 : meetL c s.slot s.edges b = (false, bi) := by
         simp only [Bool.or_eq_true] at h85
         rw [hml]
         rcases h85 with h | h
         ·exact meetL_bad (by omega) (.inl h)
         ·exact meetL_bad (by omega) (.inr (by simp [badM2, h]))
        simp [meetR, meetB, e1, h36, hn]; done)
     | (have e1 : meetL c s.slot s.edges b = (false, bi) := by rw [hml]; exact meetL_bad (by omega) (.inr (by simp [badM2, h120]))
        simp [meetR, meetB, e1, h36, hn]; done)
     | (have e1 : meetL c s.slot s.edges b = (true, bi) := by rw [hml, meetL_end (by omega)]
        simp [-List.map_set, meetR, meetB, e1, h36, hn]; done)
end Go.Proofs.Ytimgbdkgjfbhkaa.Z
end
section
namespace Go.Proofs.Ytimgbdkgjfbhkaa.Z
open Go Go.Fw
attribute [-simp] litV
attribute [local simp] litV_agg litV_int litV_str litV_bool litV_slice litV_tup
def encBs (d : List Bool) : List D := [.sl false (d.map encB)]
attribute [simp] encBs
def badP (ak : List Bool) (s : StepR) (i : Int) : Bool := decide (s.table < 0) || decide (i ≤ s.table) || rdI ak s.table
def dupN (c : CoreT) (b d : List Bool) : Nat → Bool
 | 0 => false
 | n + 1 => dupN c b d n || (rdI b (n : Nat) && rdI d (n : Nat) && decide (c.nodes.length ≤ n))
def orN (b d : List Bool) : Nat → List Bool
 | 0 => b
 | n + 1 => (orN b d n).set n (rdI (orN b d n) (n : Nat) || rdI d (n : Nat))
theorem orN_len (b d : List Bool) (n : Nat) : (orN b d n).length = b.length := by
 induction n with
 | zero => rfl
 | succ n ih => rw [orN, List.length_set, ih]
theorem dupN_le {c : CoreT} {b d : List Bool} {n m : Nat} (h : n ≤ m) (hd : dupN c b d n = true) : dupN c b d m = true := by
 induction m with
 | zero => rw [show n = 0 by omega] at hd; exact hd
 | succ m ih =>
   by_cases e : n = m + 1
   ·subst e; exact hd
   ·rw [dupN, ih (by omega), Bool.true_or]
def probeR (c : CoreT) (tabs : List (List Int)) (bs : List (List Bool)) (ak b : List Bool) (i : Int) (s : StepR) : Bool × List Bool × List Bool :=
 if badP ak s i then (false, b, ak)
 else if dupN c b (rdI bs s.table) b.length || !eqJ (rdI tabs s.table) (keyN b (rdI bs s.table) b.length) then (false, b, ak.set s.table.toNat true)
 else (true, orN b (rdI bs s.table) b.length, ak.set s.table.toNat true)
set_option maxHeartbeats 16000000 in
theorem rprobe_ok (c : CoreT) (r : ProgR) (nB nA : Nat) (bs : List (List Bool)) (ak b : List Bool) (s : StepR) (i : Int) (hnB : bs.length = nB) (hnA : ak.length = nA) (hi1 : i ≤ nB) (hi2 : i ≤ nA) (hi3 : i ≤ r.tabs.length) (hN : b.length ≤ 16) (hbs : ∀ d ∈ bs, d.length = b.length) : SndW P 84 [.pt 0 0 0 0, .d (.ag (encR s)), .rs 3 1 0 b.length, .int i] [(0, .vals ([.d (encTa r.tabs), .d (.sl false (r.pipes.map encPi))] ++ (encC c).map .d ++ [.rs 1 1 0 nB, .rs 2 1 0 nA])), (1, .data 1 (bs.map encBs)), (2, .data 1 (ak.map encB)), (3, .data 1 (b.map encB))] (.bool (probeR c r.tabs bs ak b i s).1) [(0, .vals ([.d (encTa r.tabs), .d (.sl false (r.pipes.map encPi))] ++ (encC c).map .d ++ [.rs 1 1 0 nB, .rs 2 1 0 nA])), (1, .data 1 (bs.map encBs)), (2, .data 1 ((probeR c r.tabs bs ak b i s).2.2.map encB)), (3, .data 1 ((probeR c r.tabs bs ak b i s).2.1.map encB))] := by
 obtain ⟨N, hbN⟩ : ∃ k, b.length = k := ⟨_, rfl⟩
 rw [hbN] at hN hbs
 rw [hbN]
 obtain ⟨n0, hn⟩ : ∃ k, c.nodes.length = k := ⟨_, rfl⟩
 obtain ⟨nt, hnt⟩ : ∃ k, r.tabs.length = k := ⟨_, rfl⟩
 rw [hnt] at hi3
 obtain ⟨R, hR⟩ : ∃ k, probeR c r.tabs bs ak b i s = k := ⟨_, rfl⟩
 rw [hR]
 have hRd := hR
 rw [probeR, hbN] at hRd
 refine sndW_of [0, 1, 2, 3] Try.func84 rfl (by kernel_rfl) Try.ntmps84 (by simp) (by simp) ?_
 unfold Try.f84
 simp only [List.cons_append, List.nil_append, List.length_cons, List.length_nil, Nat.reduceAdd, Nat.reduceSub, List.replicate]
 apply Run.seq
 refine opsF oo97 fun K hK => ?_
 try simp
 repeat' first | (refine evL_c ?_; simp [-List.map_set, hbN, hn, hnt, hnB, hnA]) | (with_reducible first | apply aI | intro _ | assumption) | omega
 all_goals (apply Fin.go hK; clear hK K)
 simp only [tN]
 apply Run.seq
 refine Run.cut [15, 16, 17, 18, 19, 20, 21, 22, 23, 24, 25, 26, 27, 28, 29, 30, 31, 32, 33] [(33, .bool (badP ak s i))] [(0, .vals ([.d (encTa r.tabs), .d (.sl false (r.pipes.map encPi))] ++ (encC c).map .d ++ [.rs 1 1 0 nB, .rs 2 1 0 nA])), (1, .data 1 (bs.map encBs)), (2, .data 1 (ak.map encB)), (3, .data 1 (b.map encB)), (600, .vals ((encR s).map .d))] ?_ ?_
 ·refine opsF [oF 75 5 5 15, oL 3 15 16, oK .lss 3 16 0 3 17, oM 17 18, ⟨.fieldAddr 75 (.tmp 5) 5, some 19, some (some 18, false)⟩, ⟨.load 3 (.tmp 19), some 20, some (some 18, false)⟩, ⟨.move (.tmp 3), some 21, some (some 18, false)⟩, ⟨.binOp .geq 3 (.tmp 20) (.tmp 21) 3, some 22, some (some 18, false)⟩, ⟨.pick (.tmp 18) (.const (.bool true)) (.tmp 22), some 23, none⟩, oM 23 24, ⟨.move (.tmp 0), some 25, some (some 24, false)⟩, ⟨.nilCheck (.tmp 25), some 26, some (some 24, false)⟩, ⟨.fieldAddr 79 (.tmp 26) 3, some 27, some (some 24, false)⟩, ⟨.load 34 (.tmp 27), some 28, some (some 24, false)⟩, ⟨.fieldAddr 75 (.tmp 5) 5, some 29, some (some 24, false)⟩, ⟨.load 3 (.tmp 29), some 30, some (some 24, false)⟩, ⟨.indexAddr 34 (.tmp 28) (.tmp 30), some 31, some (some 24, false)⟩, ⟨.load 4 (.tmp 31), some 32, some (some 24, false)⟩, ⟨.pick (.tmp 24) (.const (.bool true)) (.tmp 32), some 33, none⟩] fun K hK => ?_
  try simp
  repeat' first | ((first | refine evL_c ?_ | (refine evL_g rfl ?_; try simp only [gs_tt, gs_ff, gs_tf, gs_ft]) | refine evL_u rfl ?_ | (with_reducible refine gsplit (fun hg => ?_) (fun hg => ?_) <;> try simp at hg)) <;> try simp [-List.map_set, hbN, hn, hnt, hnB, hnA, *]) | (with_reducible first | apply aI | intro _ | assumption) | omega
  all_goals (apply Fin.go hK; clear hK K)
  all_goals
   (try simp [badP, *]) <;> (first | omega | (simp; done) | (rw [Bool.eq_iff_iff]; simp only [Bool.or_eq_true, Bool.and_eq_true, Bool.not_eq_true', decide_eq_true_eq, decide_eq_false_iff_not]; omega) | (simp_all; done) | (simp_all; omega) | grind)
 ·simp only [over, List.foldl, List.set]
  refine Run.cond rfl (fun h33 => ?_) (fun h33 => ?_)
  ·rw [if_pos h33] at hRd
   subst hRd
   apply Run.seq
   refine opsF oo98 fun K hK => ?_
   try simp
   repeat' first | (refine evL_c ?_; simp [-List.map_set, hbN, hn, hnt, hnB, hnA]) | (with_reducible first | apply aI | intro _ | assumption) | omega
   all_goals (apply Fin.go hK; clear hK K)
   simp only [tN]
   apply Run.ret
   try simp only [Then_ret, Blok_ret]
   (try simp) <;> (first | omega | (simp; done) | (rw [Bool.eq_iff_iff]; simp only [Bool.or_eq_true, Bool.and_eq_true, Bool.not_eq_true', decide_eq_true_eq, decide_eq_false_iff_not]; omega) | (simp_all; done) | (simp_all; omega) | grind)
  ·rw [if_neg (by rw [h33]; simp)] at hRd
   have h33' := h33
   simp only [badP, Bool.or_eq_false_iff, decide_eq_false_iff_not] at h33'
   have ht0 : 0 ≤ s.table := by omega
   have ht1 : s.table < nB := by omega
   have ht2 : s.table < nA := by omega
   have ht3 : s.table < nt := by omega
   have ht4 : s.table.toNat < nA := by omega
   obtain ⟨d, hd⟩ : ∃ k, rdI bs s.table = k := ⟨_, rfl⟩
   have hdl := hbs _ (rdI_mem (l := bs) ht0 (by omega))
   rw [hd] at hdl hRd
   obtain ⟨tt, htt⟩ : ∃ k, rdI r.tabs s.table = k := ⟨_, rfl⟩
   rw [htt] at hRd
   obtain ⟨a2, ha2⟩ : ∃ k, ak.set s.table.toNat true = k := ⟨_, rfl⟩
   rw [ha2] at hRd
   obtain ⟨tl, htl⟩ : ∃ k, tt.length = k := ⟨_, rfl⟩
   apply Run.skip
   simp only [tN]
   apply Run.seq
   refine opsF [oM 0 34, oV 34 35, oF 79 35 3 36, oL 34 36 37, oF 75 5 5 38, oL 3 38 39, oI 34 37 39 40, ⟨.store 4 (.tmp 40) (.const (.bool true)), none, none⟩] fun K hK => ?_
   try simp
   repeat' first | (refine evL_c ?_; simp [-List.map_set, hbN, hn, hnt, hnB, hnA, ht0, ht1, ht2, ht3, ht4, hd, hdl, htt, ha2, htl]) | (with_reducible first | apply aI | intro _ | assumption) | omega
   all_goals (apply Fin.go hK; clear hK K)
   simp only [tN]
   apply Run.seq
   refine opsF [oM 0 41, oV 41 42, oF 79 42 2 43, oL 77 43 44, oF 75 5 5 45, oL 3 45 46, oI 77 44 46 47, oL 34 47 48, oA 48 9] fun K hK => ?_
   try simp
   repeat' first | (refine evL_c ?_; simp [-List.map_set, hbN, hn, hnt, hnB, hnA, ht0, ht1, ht2, ht3, ht4, hd, hdl, htt, ha2, htl]) | (with_reducible first | apply aI | intro _ | assumption) | omega
   all_goals (apply Fin.go hK; clear hK K)
   simp only [tN]
   apply Run.seq
   refine opsF [⟨.assign (.const (.slice none 0 0)), some 10, none⟩] fun K hK => ?_
   try simp
   repeat' first | (refine evL_c ?_; simp [-List.map_set, hbN, hn, hnt, hnB, hnA, ht0, ht1, ht2, ht3, ht4, hd, hdl, htt, ha2, htl]) | (with_reducible first | apply aI | intro _ | assumption) | omega
   all_goals (apply Fin.go hK; clear hK K)
   simp only [tN]
   refine Run.vir 6900 1 (by omega) ?_
   simp
   refine Run.subV 10 (.rs 6900 1 0 0) rfl (nil_rs 6900 1) ?_
   simp
   apply Run.seq
   apply Run.seq
   refine opsF oo99 fun K hK => ?_
   try simp
   repeat' first | (refine evL_c ?_; simp [-List.map_set, hbN, hn, hnt, hnB, hnA, ht0, ht1, ht2, ht3, ht4, hd, hdl, htt, ha2, htl]) | (with_reducible first | apply aI | intro _ | assumption) | omega
   all_goals (apply Fin.go hK; clear hK K)
   simp only [tN]
   apply Run.block
   refine Run.loopO [8, 10, 11, 49, 50, 51, 52, 53, 54, 55, 56, 57, 58, 59, 60, 61, 62, 63, 64, 65, 66, 67, 68, 69, 70, 71, 72, 73, 74, 75, 76, 77, 78, 79, 80, 81, 82, 83, 84, 85, 86, 87, 88] (fun (n : Nat) => [(11, .int n), (10, .rs 6900 1 0 (keyN b d n).length)]) (fun (n : Nat) => [(0, .vals ([.d (encTa r.tabs), .d (.sl false (r.pipes.map encPi))] ++ (encC c).map .d ++ [.rs 1 1 0 nB, .rs 2 1 0 nA])), (1, .data 1 (bs.map encBs)), (2, .data 1 (a2.map encB)), (3, .data 1 (b.map encB)), (600, .vals ((encR s).map .d)), (6900, .data 1 ((keyN b d n).map encI))]) (fun (n : Nat) => n ≤ N ∧ dupN c b d n = false) (fun (n : Nat) => N - n) 0 ⟨by omega, rfl⟩ (by simp [keyN]) fun n ⟨hn1, hdu⟩ => ?_
   simp only [over, List.foldl, List.set]
   have hkl := keyN_len b d n
   obtain ⟨ky, hky⟩ : ∃ k, keyN b d n = k := ⟨_, rfl⟩
   rw [hky] at hkl
   rw [hky]
   obtain ⟨kl, hkl2⟩ : ∃ k, ky.length = k := ⟨_, rfl⟩
   rw [hkl2] at hkl
   have hta : (ky.map encI).take kl = ky.map encI := List.take_of_length_le (by simp [hkl2])
   apply Run.seq
   apply Run.seq
   refine opsF [oM 11 49, oM 2 50, oN 34 50 51, oB .lss 3 49 51 3 52] fun K hK => ?_
   try simp
   repeat' first | (refine evL_c ?_; simp [-List.map_set, hbN, hn, hnt, hnB, hnA, ht0, ht1, ht2, ht3, ht4, hd, hdl, htt, ha2, htl]) | (with_reducible first | apply aI | intro _ | assumption) | omega
   all_goals (apply Fin.go hK; clear hK K)
   simp only [tN]
   refine Run.cond rfl (fun h52 => ?_) (fun h52 => ?_)
   ·try simp at h52
    have hm1 : n < N := by omega
    have hm2 : (n : Int) < N := by omega
    apply Run.skip
    simp only [tN]
    apply Run.seq
    apply Run.block
    refine Run.cut [10, 55, 56, 57, 58, 59, 60, 61, 62, 63, 64, 65, 66, 67, 68] [(10, .rs 6900 1 0 (keyN b d (n + 1)).length)] [(0, .vals ([.d (encTa r.tabs), .d (.sl false (r.pipes.map encPi))] ++ (encC c).map .d ++ [.rs 1 1 0 nB, .rs 2 1 0 nA])), (1, .data 1 (bs.map encBs)), (2, .data 1 (a2.map encB)), (3, .data 1 (b.map encB)), (600, .vals ((encR s).map .d)), (6900, .data 1 ((keyN b d (n + 1)).map encI))] ?_ ?_
    ·refine Run.cut [55, 56, 57, 58, 59, 60, 61, 62, 63, 64] [(64, .bool (rdI b (n : Nat) && rdI d (n : Nat)))] [(0, .vals ([.d (encTa r.tabs), .d (.sl false (r.pipes.map encPi))] ++ (encC c).map .d ++ [.rs 1 1 0 nB, .rs 2 1 0 nA])), (1, .data 1 (bs.map encBs)), (2, .data 1 (a2.map encB)), (3, .data 1 (b.map encB)), (600, .vals ((encR s).map .d)), (6900, .data 1 (ky.map encI))] ?_ ?_
     ·refine opsF [oM 2 55, oM 11 56, oI 34 55 56 57, oL 4 57 58, oM 58 59, ⟨.move (.tmp 9), some 60, some (some 59, true)⟩, ⟨.move (.tmp 11), some 61, some (some 59, true)⟩, ⟨.indexAddr 34 (.tmp 60) (.tmp 61), some 62, some (some 59, true)⟩, ⟨.load 4 (.tmp 62), some 63, some (some 59, true)⟩, ⟨.pick (.tmp 59) (.tmp 63) (.const (.bool false)), some 64, none⟩] fun K hK => ?_
      try simp
      repeat' first | ((first | refine evL_c ?_ | (refine evL_g rfl ?_; try simp only [gs_tt, gs_ff, gs_tf, gs_ft]) | refine evL_u rfl ?_ | (with_reducible refine gsplit (fun hg => ?_) (fun hg => ?_) <;> try simp at hg)) <;> try simp [-List.map_set, hbN, hn, hnt, hnB, hnA, ht0, ht1, ht2, ht3, ht4, hd, hdl, htt, ha2, htl, hm1, hm2, hkl2, hta]) | (with_reducible first | apply aI | intro _ | assumption) | omega
      all_goals (apply Fin.go hK; clear hK K)
      all_goals
       (try simp [*]) <;> (first | omega | (simp; done) | (rw [Bool.eq_iff_iff]; simp only [Bool.or_eq_true, Bool.and_eq_true, Bool.not_eq_true', decide_eq_true_eq, decide_eq_false_iff_not]; omega) | (simp_all; done) | (simp_all; omega) | grind)
     ·simp only [over, List.foldl, List.set]
      refine Run.cond rfl (fun h64 => ?_) (fun h64 => ?_)
      ·skip
       refine opsF [oM 10 65, oM 11 66, ⟨.buildSlice 46 1 #[(0, .tmp 66)], some 67, none⟩, ⟨.call { callee := .builtin .append, args := #[.tmp 65, .tmp 67], argTypes := #[46, 46] }, some 68, none⟩, oA 68 10] fun K hK => ?_
       try simp
       repeat' first | (refine evL_c ?_; simp [-List.map_set, hbN, hn, hnt, hnB, hnA, ht0, ht1, ht2, ht3, ht4, hd, hdl, htt, ha2, htl, hm1, hm2, hkl2, hta]) | (with_reducible first | apply aI | intro _ | assumption) | omega
       all_goals (apply Fin.go hK; clear hK K)
       (try simp [keyN, h64, hky, hkl2, hta]) <;> (first | omega | (simp; done) | (rw [Bool.eq_iff_iff]; simp only [Bool.or_eq_true, Bool.and_eq_true, Bool.not_eq_true', decide_eq_true_eq, decide_eq_false_iff_not]; omega) | (simp_all; done) | (simp_all; omega) | grind)
      ·skip
       apply Run.skip
       (try simp [keyN, h64, hky, hkl2, hta]) <;> (first | omega | (simp; done) | (rw [Bool.eq_iff_iff]; simp only [Bool.or_eq_true, Bool.and_eq_true, Bool.not_eq_true', decide_eq_true_eq, decide_eq_false_iff_not]; omega) | (simp_all; done) | (simp_all; omega) | grind)
    ·simp only [over, List.foldl, List.set]
     refine Run.cut [69, 70, 71, 72, 73, 74, 75, 76, 77, 78, 79, 80, 81, 82, 83, 84, 85, 86, 87, 88] [(88, .bool (rdI b (n : Nat) && rdI d (n : Nat) && decide (n0 ≤ n)))] [(0, .vals ([.d (encTa r.tabs), .d (.sl false (r.pipes.map encPi))] ++ (encC c).map .d ++ [.rs 1 1 0 nB, .rs 2 1 0 nA])), (1, .data 1 (bs.map encBs)), (2, .data 1 (a2.map encB)), (3, .data 1 (b.map encB)), (600, .vals ((encR s).map .d)), (6900, .data 1 ((keyN b d (n + 1)).map encI))] ?_ ?_
     ·refine opsF [oM 2 69, oM 11 70, oI 34 69 70 71, oL 4 71 72, oM 72 73, ⟨.move (.tmp 9), some 74, some (some 73, true)⟩, ⟨.move (.tmp 11), some 75, some (some 73, true)⟩, ⟨.indexAddr 34 (.tmp 74) (.tmp 75), some 76, some (some 73, true)⟩, ⟨.load 4 (.tmp 76), some 77, some (some 73, true)⟩, ⟨.pick (.tmp 73) (.tmp 77) (.const (.bool false)), some 78, none⟩, oM 78 79, ⟨.move (.tmp 11), some 80, some (some 79, true)⟩, ⟨.move (.tmp 0), some 81, some (some 79, true)⟩, ⟨.nilCheck (.tmp 81), some 82, some (some 79, true)⟩, ⟨.fieldAddr 79 (.tmp 82) 1, some 83, some (some 79, true)⟩, ⟨.fieldAddr 32 (.tmp 83) 0, some 84, some (some 79, true)⟩, ⟨.load 26 (.tmp 84), some 85, some (some 79, true)⟩, ⟨.call { callee := .builtin .len, args := #[.tmp 85], argTypes := #[26] }, some 86, some (some 79, true)⟩, ⟨.binOp .geq 3 (.tmp 80) (.tmp 86) 3, some 87, some (some 79, true)⟩, ⟨.pick (.tmp 79) (.tmp 87) (.const (.bool false)), some 88, none⟩] fun K hK => ?_
      try simp
      repeat' first | ((first | refine evL_c ?_ | (refine evL_g rfl ?_; try simp only [gs_tt, gs_ff, gs_tf, gs_ft]) | refine evL_u rfl ?_ | (with_reducible refine gsplit (fun hg => ?_) (fun hg => ?_) <;> try simp at hg)) <;> try simp [-List.map_set, hbN, hn, hnt, hnB, hnA, ht0, ht1, ht2, ht3, ht4, hd, hdl, htt, ha2, htl, hm1, hm2, hkl2, hta]) | (with_reducible first | apply aI | intro _ | assumption) | omega
      all_goals (apply Fin.go hK; clear hK K)
      all_goals
       (try simp [*]) <;> (first | omega | (simp; done) | (rw [Bool.eq_iff_iff]; simp only [Bool.or_eq_true, Bool.and_eq_true, Bool.not_eq_true', decide_eq_true_eq, decide_eq_false_iff_not]; omega) | (simp_all; done) | (simp_all; omega) | grind)
     ·simp only [over, List.foldl, List.set]
      refine Run.cond rfl (fun h88 => ?_) (fun h88 => ?_)
      ·have hdd : dupN c b d N = true := dupN_le (n := n + 1) (by omega) (by rw [dupN, hn]; simp [h88])
       rw [hdd, Bool.true_or, if_pos rfl] at hRd
       subst hRd
       apply Run.seq
       refine opsF oo98 fun K hK => ?_
       try simp
       repeat' first | (refine evL_c ?_; simp [-List.map_set, hbN, hn, hnt, hnB, hnA, ht0, ht1, ht2, ht3, ht4, hd, hdl, htt, ha2, htl, hm1, hm2, hkl2, hta]) | (with_reducible first | apply aI | intro _ | assumption) | omega
       all_goals (apply Fin.go hK; clear hK K)
       simp only [tN]
       apply Run.ret
       try simp only [Then_ret, Blok_ret]
       (try simp) <;> (first | omega | (simp; done) | (rw [Bool.eq_iff_iff]; simp only [Bool.or_eq_true, Bool.and_eq_true, Bool.not_eq_true', decide_eq_true_eq, decide_eq_false_iff_not]; omega) | (simp_all; done) | (simp_all; omega) | grind)
      ·skip
       apply Run.skip
       simp only [Blok_normal]
       simp only [tN]
       refine opsF [oM 11 53, oK .add 3 53 1 3 54, oA 54 11] fun K hK => ?_
       try simp
       repeat' first | (refine evL_c ?_; simp [-List.map_set, hbN, hn, hnt, hnB, hnA, ht0, ht1, ht2, ht3, ht4, hd, hdl, htt, ha2, htl, hm1, hm2, hkl2, hta]) | (with_reducible first | apply aI | intro _ | assumption) | omega
       all_goals (apply Fin.go hK; clear hK K)
       refine ⟨n + 1, ⟨by omega, by rw [dupN, hdu, hn]; simpa using h88⟩, by omega, ?_⟩
       first
        | (simp (disch := omega) [wrap_id, hbN]; done)
   ·try simp at h52
    have hm3 : n = N := by omega
    subst hm3
    rw [hky, hdu, Bool.false_or] at hRd
    refine Run.exit ?_
    simp (decide := true) only [Then_exit, Blok_exit, if_true, if_false]
    simp only [tN]
    apply Run.seq
    refine opsF [oM 0 89, oV 89 90, oF 79 90 0 91, oF 25 91 0 92, oL 22 92 93, oF 75 5 5 94, oL 3 94 95, oI 22 93 95 96, oL 46 96 97, oA 97 12] fun K hK => ?_
    try simp
    repeat' first | (refine evL_c ?_; simp [-List.map_set, hbN, hn, hnt, hnB, hnA, ht0, ht1, ht2, ht3, ht4, hd, hdl, htt, ha2, htl, hkl2, hta]) | (with_reducible first | apply aI | intro _ | assumption) | omega
    all_goals (apply Fin.go hK; clear hK K)
    simp only [tN]
    apply Run.seq
    apply Run.seq
    refine opsF [oM 10 98, oN 46 98 99, oM 12 100, oN 46 100 101, oB .neq 3 99 101 3 102] fun K hK => ?_
    try simp
    repeat' first | (refine evL_c ?_; simp [-List.map_set, hbN, hn, hnt, hnB, hnA, ht0, ht1, ht2, ht3, ht4, hd, hdl, htt, ha2, htl, hkl2, hta]) | (with_reducible first | apply aI | intro _ | assumption) | omega
    all_goals (apply Fin.go hK; clear hK K)
    simp only [tN]
    refine Run.cond rfl (fun h102 => ?_) (fun h102 => ?_)
    ·try simp at h102
     rw [eqJ_len (by omega)] at hRd
     simp only [Bool.not_false, if_true] at hRd
     subst hRd
     apply Run.seq
     refine opsF oo98 fun K hK => ?_
     try simp
     repeat' first | (refine evL_c ?_; simp [-List.map_set, hbN, hn, hnt, hnB, hnA, ht0, ht1, ht2, ht3, ht4, hd, hdl, htt, ha2, htl, hkl2, hta]) | (with_reducible first | apply aI | intro _ | assumption) | omega
     all_goals (apply Fin.go hK; clear hK K)
     simp only [tN]
     apply Run.ret
     try simp only [Then_ret, Blok_ret]
     (try simp) <;> (first | omega | (simp; done) | (rw [Bool.eq_iff_iff]; simp only [Bool.or_eq_true, Bool.and_eq_true, Bool.not_eq_true', decide_eq_true_eq, decide_eq_false_iff_not]; omega) | (simp_all; done) | (simp_all; omega) | grind)
    ·try simp at h102
     have hlen : kl = tl := by omega
     subst hlen
     apply Run.skip
     simp only [tN]
     apply Run.seq
     apply Run.seq
     refine opsF [⟨.assign (.const (.int .i64 0)), some 13, none⟩] fun K hK => ?_
     try simp
     repeat' first | (refine evL_c ?_; simp [-List.map_set, hbN, hn, hnt, hnB, hnA, ht0, ht1, ht2, ht3, ht4, hd, hdl, htt, ha2, htl, hkl2, hta]) | (with_reducible first | apply aI | intro _ | assumption) | omega
     all_goals (apply Fin.go hK; clear hK K)
     simp only [tN]
     apply Run.block
     refine Run.loopO [8, 13, 103, 104, 105, 106, 107, 108, 109, 110, 111, 112, 113, 114, 115, 116, 117] (fun (j : Nat) => [(13, .int j)]) (fun (j : Nat) => [(0, .vals ([.d (encTa r.tabs), .d (.sl false (r.pipes.map encPi))] ++ (encC c).map .d ++ [.rs 1 1 0 nB, .rs 2 1 0 nA])), (1, .data 1 (bs.map encBs)), (2, .data 1 (a2.map encB)), (3, .data 1 (b.map encB)), (600, .vals ((encR s).map .d)), (6900, .data 1 (ky.map encI))]) (fun (j : Nat) => j ≤ kl ∧ eqJ tt ky = eqJ (tt.drop j) (ky.drop j)) (fun (j : Nat) => kl - j) 0 ⟨by omega, rfl⟩ (by simp) fun j ⟨hj, hz⟩ => ?_
     simp only [over, List.foldl, List.set]
     apply Run.seq
     apply Run.seq
     refine opsF [oM 13 103, oM 12 104, oN 46 104 105, oB .lss 3 103 105 3 106] fun K hK => ?_
     try simp
     repeat' first | (refine evL_c ?_; simp [-List.map_set, hbN, hn, hnt, hnB, hnA, ht0, ht1, ht2, ht3, ht4, hd, hdl, htt, ha2, htl, hkl2, hta]) | (with_reducible first | apply aI | intro _ | assumption) | omega
     all_goals (apply Fin.go hK; clear hK K)
     simp only [tN]
     refine Run.cond rfl (fun h106 => ?_) (fun h106 => ?_)
     ·try simp at h106
      have hj1 : j < kl := by omega
      apply Run.skip
      simp only [tN]
      apply Run.seq
      apply Run.block
      apply Run.seq
      refine opsF [oM 12 109, oM 13 110, oI 46 109 110 111, oL 3 111 112, oM 10 113, oM 13 114, oI 46 113 114 115, oL 3 115 116, oB .neq 3 112 116 3 117] fun K hK => ?_
      try simp
      repeat' first | (refine evL_c ?_; simp [-List.map_set, hbN, hn, hnt, hnB, hnA, ht0, ht1, ht2, ht3, ht4, hd, hdl, htt, ha2, htl, hkl2, hta, hj1]) | (with_reducible first | apply aI | intro _ | assumption) | omega
      all_goals (apply Fin.go hK; clear hK K)
      simp only [tN]
      refine Run.cond rfl (fun h117 => ?_) (fun h117 => ?_)
      ·try simp at h117
       have he : eqJ tt ky = false := by rw [hz, eqJ_step (by omega) (by omega), decide_eq_false h117, Bool.false_and]
       rw [he] at hRd
       simp only [Bool.not_false, if_true] at hRd
       subst hRd
       apply Run.seq
       refine opsF oo98 fun K hK => ?_
       try simp
       repeat' first | (refine evL_c ?_; simp [-List.map_set, hbN, hn, hnt, hnB, hnA, ht0, ht1, ht2, ht3, ht4, hd, hdl, htt, ha2, htl, hkl2, hta, hj1]) | (with_reducible first | apply aI | intro _ | assumption) | omega
       all_goals (apply Fin.go hK; clear hK K)
       simp only [tN]
       apply Run.ret
       try simp only [Then_ret, Blok_ret]
       (try simp) <;> (first | omega | (simp; done) | (rw [Bool.eq_iff_iff]; simp only [Bool.or_eq_true, Bool.and_eq_true, Bool.not_eq_true', decide_eq_true_eq, decide_eq_false_iff_not]; omega) | (simp_all; done) | (simp_all; omega) | grind)
      ·try simp at h117
       apply Run.skip
       simp only [Blok_normal]
       simp only [tN]
       refine opsF [oM 13 107, oK .add 3 107 1 3 108, oA 108 13] fun K hK => ?_
       try simp
       repeat' first | (refine evL_c ?_; simp [-List.map_set, hbN, hn, hnt, hnB, hnA, ht0, ht1, ht2, ht3, ht4, hd, hdl, htt, ha2, htl, hkl2, hta, hj1]) | (with_reducible first | apply aI | intro _ | assumption) | omega
       all_goals (apply Fin.go hK; clear hK K)
       refine ⟨j + 1, ⟨by omega, by rw [hz, eqJ_step (by omega) (by omega), decide_eq_true h117]; rfl⟩, by omega, ?_⟩
       simp (disch := omega) [wrap_id]
     ·try simp at h106
      have he : eqJ tt ky = true := by rw [hz, show tt.drop j = [] from List.drop_of_length_le (by omega), show ky.drop j = [] from List.drop_of_length_le (by omega), eqJ]
      rw [he] at hRd
      simp only [Bool.not_true, Bool.false_eq_true, if_false] at hRd
      subst hRd
      refine Run.exit ?_
      simp (decide := true) only [Then_exit, Blok_exit, if_true, if_false]
      simp only [tN]
      apply Run.seq
      apply Run.seq
      refine opsF [⟨.assign (.const (.int .i64 0)), some 14, none⟩] fun K hK => ?_
      try simp
      repeat' first | (refine evL_c ?_; simp [-List.map_set, hbN, hn, hnt, hnB, hnA, ht0, ht1, ht2, ht3, ht4, hd, hdl, htt, ha2, htl, hkl2, hta]) | (with_reducible first | apply aI | intro _ | assumption) | omega
      all_goals (apply Fin.go hK; clear hK K)
      simp only [tN]
      apply Run.block
      refine Run.loopO [14, 118, 119, 120, 121, 122, 123, 124, 125, 126, 127, 128, 129, 130, 131, 132, 133, 134, 135, 136] (fun (q : Nat) => [(14, .int q)]) (fun (q : Nat) => [(0, .vals ([.d (encTa r.tabs), .d (.sl false (r.pipes.map encPi))] ++ (encC c).map .d ++ [.rs 1 1 0 nB, .rs 2 1 0 nA])), (1, .data 1 (bs.map encBs)), (2, .data 1 (a2.map encB)), (3, .data 1 ((orN b d q).map encB)), (600, .vals ((encR s).map .d))]) (fun (q : Nat) => q ≤ n) (fun (q : Nat) => n - q) 0 (by omega) (by simp [orN]) fun q hq => ?_
      simp only [over, List.foldl, List.set]
      have hol := orN_len b d q
      rw [hbN] at hol
      apply Run.seq
      apply Run.seq
      refine opsF [oM 14 118, oM 2 119, oN 34 119 120, oB .lss 3 118 120 3 121] fun K hK => ?_
      try simp
      repeat' first | (refine evL_c ?_; simp [-List.map_set, hbN, hn, hnt, hnB, hnA, ht0, ht1, ht2, ht3, ht4, hd, hdl, htt, ha2, htl, hkl2, hta]) | (with_reducible first | apply aI | intro _ | assumption) | omega
      all_goals (apply Fin.go hK; clear hK K)
      simp only [tN]
      refine Run.cond rfl (fun h121 => ?_) (fun h121 => ?_)
      ·try simp at h121
       have hq1 : q < n := by omega
       have hq2 : (q : Int) < n := by omega
       apply Run.skip
       simp only [tN]
       apply Run.seq
       apply Run.block
       refine opsF [oM 2 124, oM 14 125, oM 2 126, oM 14 127, oI 34 126 127 128, oL 4 128 129, oM 129 130, ⟨.move (.tmp 9), some 131, some (some 130, false)⟩, ⟨.move (.tmp 14), some 132, some (some 130, false)⟩, ⟨.indexAddr 34 (.tmp 131) (.tmp 132), some 133, some (some 130, false)⟩, ⟨.load 4 (.tmp 133), some 134, some (some 130, false)⟩, ⟨.pick (.tmp 130) (.const (.bool true)) (.tmp 134), some 135, none⟩, oI 34 124 125 136, oS 4 136 135] fun K hK => ?_
       try simp
       repeat' first | ((first | refine evL_c ?_ | (refine evL_g rfl ?_; try simp only [gs_tt, gs_ff, gs_tf, gs_ft]) | refine evL_u rfl ?_ | (with_reducible refine gsplit (fun hg => ?_) (fun hg => ?_) <;> try simp at hg)) <;> try simp [-List.map_set, hbN, hn, hnt, hnB, hnA, ht0, ht1, ht2, ht3, ht4, hd, hdl, htt, ha2, htl, hkl2, hta, hq1, hq2, hol]) | (with_reducible first | apply aI | intro _ | assumption) | omega
       all_goals (apply Fin.go hK; clear hK K)
       all_goals
        simp only [Blok_normal]
        simp only [tN]
        refine opsF [oM 14 122, oK .add 3 122 1 3 123, oA 123 14] fun K hK => ?_
        try simp
        repeat' first | (refine evL_c ?_; simp [-List.map_set, hbN, hn, hnt, hnB, hnA, ht0, ht1, ht2, ht3, ht4, hd, hdl, htt, ha2, htl, hkl2, hta, hq1, hq2, hol]) | (with_reducible first | apply aI | intro _ | assumption) | omega
        all_goals (apply Fin.go hK; clear hK K)
        refine ⟨q + 1, by omega, by omega, ?_⟩
        first
         | (simp (disch := omega) [wrap_id, orN, -List.map_set, hg]; done)
      ·try simp at h121
       have hq3 : q = n := by omega
       subst hq3
       refine Run.exit ?_
       simp (decide := true) only [Then_exit, Blok_exit, if_true, if_false]
       simp only [tN]
       apply Run.seq
       refine opsF oo100 fun K hK => ?_
       try simp
       repeat' first | (refine evL_c ?_; simp [-List.map_set, hbN, hn, hnt, hnB, hnA, ht0, ht1, ht2, ht3, ht4, hd, hdl, htt, ha2, htl, hkl2, hta]) | (with_reducible first | apply aI | intro _ | assumption) | omega
       all_goals (apply Fin.go hK; clear hK K)
       simp only [tN]
       apply Run.ret
       try simp only [Then_ret, Blok_ret]
       (try simp) <;> (first | omega | (simp; done) | (rw [Bool.eq_iff_iff]; simp only [Bool.or_eq_true, Bool.and_eq_true, Bool.not_eq_true', decide_eq_true_eq, decide_eq_false_iff_not]; omega) | (simp_all; done) | (simp_all; omega) | grind)
end Go.Proofs.Ytimgbdkgjfbhkaa.Z
end
section
namespace Go.Proofs.Ytimgbdkgjfbhkaa.Z
open Go Go.Fw
theorem mem_compact {l : List Int} : ∀ (j : Nat) (hj : j < l.length), l[j] ∈ Go.Lib.compact l := by
 intro j
 induction j using Nat.strongRecOn with
 | _ j ih =>
 intro hj
 by_cases hk : Go.Lib.keeps l.toArray j = true
 ·unfold Go.Lib.compact Go.Lib.compactUpTo
  exact List.mem_map.2 ⟨j, List.mem_filter.2 ⟨by simpa using hj, hk⟩, by simp [hj]⟩
 ·have h : ¬ (j = 0 ∨ l.toArray[j]! ≠ l.toArray[j - 1]!) := by simpa [Go.Lib.keeps] using hk
  have h0 : j ≠ 0 := fun e => h (.inl e)
  have h1 : l.toArray[j]! = l.toArray[j - 1]! := by
   by_cases e : l.toArray[j]! = l.toArray[j - 1]!
   ·exact e
   ·exact absurd (.inr e) h
  have h2 := ih (j - 1) (by omega) (by omega)
  have h3 : l[j] = l[j - 1] := by
   have a1 : l.toArray[j]! = l[j] := by simp [hj]
   have a2 : l.toArray[j - 1]! = l[j - 1] := by simp [show j - 1 < l.length by omega]
   rw [← a1, h1, a2]
  rw [h3]; exact h2
theorem compact_iff {l : List Int} {x : Int} : x ∈ Go.Lib.compact l ↔ x ∈ l := ⟨compact_mem, fun h => by
 obtain ⟨j, hj⟩ := List.getElem?_of_mem h
 obtain ⟨h1, rfl⟩ := List.getElem?_eq_some_iff.1 hj
 exact mem_compact j h1⟩
mutual
theorem rsl_mem (x : Int) : ∀ t : TermT, x ∈ rslT t ↔ x ∈ slotsT t
 | .mk op k sl nm v => by
   rw [slotsT_eq, compact_iff, List.mem_mergeSort, List.mem_append, rslT, rslL_mem x k (own1 op sl)]
   exact Iff.rfl
theorem rslL_mem (x : Int) : ∀ (l : List TermT) (acc : List Int), x ∈ rslL l acc ↔ x ∈ acc ∨ x ∈ slotsL l
 | [], acc => by simp [rslL, slotsL]
 | t :: r, acc => by
   rw [rslL, slotsL, rslL_mem x r, union_mem, rsl_mem x t, List.mem_append, or_assoc]
end
theorem rbinds_eq (b : List Bool) (t : TermT) : rbindsS b t = bindsS b t := by
 have h : (rslT t).any (badS b) = (slotsT t).any (badS b) := by
  rw [Bool.eq_iff_iff, List.any_eq_true, List.any_eq_true]
  exact ⟨fun ⟨x, h1, h2⟩ => ⟨x, (rsl_mem x t).1 h1, h2⟩, fun ⟨x, h1, h2⟩ => ⟨x, (rsl_mem x t).2 h1, h2⟩⟩
 rw [rbindsS, bindsS, h]
end Go.Proofs.Ytimgbdkgjfbhkaa.Z
end
section
namespace Go.Proofs.Ytimgbdkgjfbhkaa.Z
open Go Go.Fw
attribute [-simp] litV lost
attribute [local simp] litV_agg litV_int litV_str litV_bool litV_slice litV_tup
def stepRd (c : CoreT) (tabs : List (List Int)) (bs : List (List Bool)) (ak b : List Bool) (i : Int) (s : StepR) : Bool × List Bool × List Bool :=
 if s.op = 1 ∨ s.op = 2 then (edgeB c (edgeQ s) b, edgeL c (edgeQ s) b, ak)
 else if s.op = 3 then (meetB c (meetQ s) b, meetR c (meetQ s) b, ak)
 else if s.op = 5 then probeR c tabs bs ak b i s
 else if s.op = 4 then (s.terms.all (bindsS b), b, ak)
 else (false, b, ak)
def sLk (c : CoreT) (r : ProgR) (nB nA : Nat) (bs : List (List Bool)) (ak b : List Bool) : Store := [(0, .vals ([.d (encTa r.tabs), .d (.sl false (r.pipes.map encPi))] ++ (encC c).map .d ++ [.rs 1 1 0 nB, .rs 2 1 0 nA])), (1, .data 1 (bs.map encBs)), (2, .data 1 (ak.map encB)), (3, .data 1 (b.map encB))]
theorem okK (c : CoreT) (r : ProgR) (nB nA nb : Nat) (bs : List (List Bool)) (ak b ak' b' : List Bool) (a : List D) {y : Bool} : okW [0, 1, 2, 3] (sLk c r nB nA bs ak b) [.pt 0 0 0 0, .d (.ag a), .rs 3 1 0 nb] (.bool y) (sLk c r nB nA bs ak' b') = true := by
 have e : List.range 4 = [0, 1, 2, 3] := rfl
 simp [sLk, okW, badId, e, V.menL, V.men, getB]
theorem okK2 (c : CoreT) (r : ProgR) (nB nA nb : Nat) (bs : List (List Bool)) (ak b ak' b' : List Bool) (a : List D) (i : Int) {y : Bool} : okW [0, 1, 2, 3] (sLk c r nB nA bs ak b) [.pt 0 0 0 0, .d (.ag a), .rs 3 1 0 nb, .int i] (.bool y) (sLk c r nB nA bs ak' b') = true := by
 have e : List.range 4 = [0, 1, 2, 3] := rfl
 simp [sLk, okW, badId, e, V.menL, V.men, getB]
theorem lost1 (a : Nat) (s1 : Store) (id : Nat) : lost [a] s1 id = (a == id && (getB s1 0).isNone) := by
 have : List.range 1 = [0] := rfl
 simp only [lost, List.length_cons, List.length_nil, Nat.reduceAdd, this, List.any_cons, List.any_nil, Bool.or_false]
 rfl
attribute [local simp] lost1
set_option maxHeartbeats 8000000 in
theorem rstep1_ok (c : CoreT) (r : ProgR) (nB nA : Nat) (bs : List (List Bool)) (ak b : List Bool) (s : StepR) (i : Int) (hb : b.length = c.nodes.length + c.edges.length) (hE : GoodE c) (hnB : bs.length = nB) (hnA : ak.length = nA) (hi1 : i ≤ nB) (hi2 : i ≤ nA) (hi3 : i ≤ r.tabs.length) (hN : b.length ≤ 16) (hbs : ∀ d ∈ bs, d.length = b.length) (hc : ∀ t ∈ s.terms, cntT t ≤ 1100000) (hop : s.op = 1) : SndW P 46 [.pt 0 0 0 0, .d (.ag (encR s)), .rs 3 1 0 b.length, .int i] (sLk c r nB nA bs ak b) (.bool (edgeB c (edgeQ s) b)) (sLk c r nB nA bs ak (edgeL c (edgeQ s) b)) := by
 have hk := redge_ok c r nB nA (bs.map encBs) (ak.map encB) s b hb hE
 unfold sLk
 refine sndW_of [0, 1, 2, 3] Try.func46 rfl (by kernel_rfl) Try.ntmps46 (by simp) (by simp) ?_
 unfold Try.f46
 simp only [List.cons_append, List.nil_append, List.length_cons, List.length_nil, Nat.reduceAdd, Nat.reduceSub, List.replicate]
 apply Run.seq
 refine opsF oo97 fun K hK => ?_
 try simp
 repeat' first | (refine evL_c ?_; simp [hop]) | (with_reducible first | apply aI | intro _ | assumption) | omega
 all_goals (apply Fin.go hK; clear hK K)
 simp only [tN]
 apply Run.seq
 apply Run.seq
 refine opsF oo101 fun K hK => ?_
 try simp
 repeat' first | (refine evL_c ?_; simp [hop]) | (with_reducible first | apply aI | intro _ | assumption) | omega
 all_goals (apply Fin.go hK; clear hK K)
 simp only [tN]
 apply Run.block
 apply Run.seq
 apply Run.seq
 refine opsF oo102 fun K hK => ?_
 try simp
 repeat' first | (refine evL_c ?_; simp [hop]) | (with_reducible first | apply aI | intro _ | assumption) | omega
 all_goals (apply Fin.go hK; clear hK K)
 simp only [tN]
 refine Run.cond rfl (fun h12 => ?_) (fun h12 => ?_)
 ·skip
  apply Run.skip
  simp only [tN]
  refine Run.cond rfl (fun h12 => ?_) (fun h12 => ?_)
  ·skip
   apply Run.seq
   refine opsT oo103 fun K hK => ?_
   try simp
   repeat' first | (refine ecallW [0, 1, 2, 3] (by exact hk) (by simp [hop]) (by simp) (by exact okK c r nB nA b.length bs ak b ak (edgeL c (edgeQ s) b) _) ?_) | (refine evL_c ?_; simp [hop]) | (with_reducible first | apply aI | intro _ | assumption) | omega
   all_goals (apply Fin.go hK; clear hK K)
   simp only [tN]
   apply Run.ret
   try simp only [Then_ret, Blok_ret]
   simp
  ·simp at h12
 ·simp at h12
set_option maxHeartbeats 8000000 in
theorem rstep2_ok (c : CoreT) (r : ProgR) (nB nA : Nat) (bs : List (List Bool)) (ak b : List Bool) (s : StepR) (i : Int) (hb : b.length = c.nodes.length + c.edges.length) (hE : GoodE c) (hnB : bs.length = nB) (hnA : ak.length = nA) (hi1 : i ≤ nB) (hi2 : i ≤ nA) (hi3 : i ≤ r.tabs.length) (hN : b.length ≤ 16) (hbs : ∀ d ∈ bs, d.length = b.length) (hc : ∀ t ∈ s.terms, cntT t ≤ 1100000) (hop : s.op = 2) : SndW P 46 [.pt 0 0 0 0, .d (.ag (encR s)), .rs 3 1 0 b.length, .int i] (sLk c r nB nA bs ak b) (.bool (edgeB c (edgeQ s) b)) (sLk c r nB nA bs ak (edgeL c (edgeQ s) b)) := by
 have hk := redge_ok c r nB nA (bs.map encBs) (ak.map encB) s b hb hE
 unfold sLk
 refine sndW_of [0, 1, 2, 3] Try.func46 rfl (by kernel_rfl) Try.ntmps46 (by simp) (by simp) ?_
 unfold Try.f46
 simp only [List.cons_append, List.nil_append, List.length_cons, List.length_nil, Nat.reduceAdd, Nat.reduceSub, List.replicate]
 apply Run.seq
 refine opsF oo97 fun K hK => ?_
 try simp
 repeat' first | (refine evL_c ?_; simp [hop]) | (with_reducible first | apply aI | intro _ | assumption) | omega
 all_goals (apply Fin.go hK; clear hK K)
 simp only [tN]
 apply Run.seq
 apply Run.seq
 refine opsF oo101 fun K hK => ?_
 try simp
 repeat' first | (refine evL_c ?_; simp [hop]) | (with_reducible first | apply aI | intro _ | assumption) | omega
 all_goals (apply Fin.go hK; clear hK K)
 simp only [tN]
 apply Run.block
 apply Run.seq
 apply Run.seq
 refine opsF oo102 fun K hK => ?_
 try simp
 repeat' first | (refine evL_c ?_; simp [hop]) | (with_reducible first | apply aI | intro _ | assumption) | omega
 all_goals (apply Fin.go hK; clear hK K)
 simp only [tN]
 refine Run.cond rfl (fun h12 => ?_) (fun h12 => ?_)
 ·simp at h12
 ·skip
  refine opsF oo104 fun K hK => ?_
  try simp
  repeat' first | (refine evL_c ?_; simp [hop]) | (with_reducible first | apply aI | intro _ | assumption) | omega
  all_goals (apply Fin.go hK; clear hK K)
  simp only [tN]
  refine Run.cond rfl (fun h12 => ?_) (fun h12 => ?_)
  ·skip
   apply Run.seq
   refine opsT oo103 fun K hK => ?_
   try simp
   repeat' first | (refine ecallW [0, 1, 2, 3] (by exact hk) (by simp [hop]) (by simp) (by exact okK c r nB nA b.length bs ak b ak (edgeL c (edgeQ s) b) _) ?_) | (refine evL_c ?_; simp [hop]) | (with_reducible first | apply aI | intro _ | assumption) | omega
   all_goals (apply Fin.go hK; clear hK K)
   simp only [tN]
   apply Run.ret
   try simp only [Then_ret, Blok_ret]
   simp
  ·simp at h12
set_option maxHeartbeats 8000000 in
theorem rstep3_ok (c : CoreT) (r : ProgR) (nB nA : Nat) (bs : List (List Bool)) (ak b : List Bool) (s : StepR) (i : Int) (hb : b.length = c.nodes.length + c.edges.length) (hE : GoodE c) (hnB : bs.length = nB) (hnA : ak.length = nA) (hi1 : i ≤ nB) (hi2 : i ≤ nA) (hi3 : i ≤ r.tabs.length) (hN : b.length ≤ 16) (hbs : ∀ d ∈ bs, d.length = b.length) (hc : ∀ t ∈ s.terms, cntT t ≤ 1100000) (hop : s.op = 3) : SndW P 46 [.pt 0 0 0 0, .d (.ag (encR s)), .rs 3 1 0 b.length, .int i] (sLk c r nB nA bs ak b) (.bool (meetB c (meetQ s) b)) (sLk c r nB nA bs ak (meetR c (meetQ s) b)) := by
 have hk := rmeet_ok c r nB nA (bs.map encBs) (ak.map encB) s b hb hE
 unfold sLk
 refine sndW_of [0, 1, 2, 3] Try.func46 rfl (by kernel_rfl) Try.ntmps46 (by simp) (by simp) ?_
 unfold Try.f46
 simp only [List.cons_append, List.nil_append, List.length_cons, List.length_nil, Nat.reduceAdd, Nat.reduceSub, List.replicate]
 apply Run.seq
 refine opsF oo97 fun K hK => ?_
 try simp
 repeat' first | (refine evL_c ?_; simp [hop]) | (with_reducible first | apply aI | intro _ | assumption) | omega
 all_goals (apply Fin.go hK; clear hK K)
 simp only [tN]
 apply Run.seq
 apply Run.seq
 refine opsF oo101 fun K hK => ?_
 try simp
 repeat' first | (refine evL_c ?_; simp [hop]) | (with_reducible first | apply aI | intro _ | assumption) | omega
 all_goals (apply Fin.go hK; clear hK K)
 simp only [tN]
 apply Run.block
 apply Run.seq
 apply Run.seq
 refine opsF oo102 fun K hK => ?_
 try simp
 repeat' first | (refine evL_c ?_; simp [hop]) | (with_reducible first | apply aI | intro _ | assumption) | omega
 all_goals (apply Fin.go hK; clear hK K)
 simp only [tN]
 refine Run.cond rfl (fun h12 => ?_) (fun h12 => ?_)
 ·simp at h12
 ·skip
  refine opsF oo104 fun K hK => ?_
  try simp
  repeat' first | (refine evL_c ?_; simp [hop]) | (with_reducible first | apply aI | intro _ | assumption) | omega
  all_goals (apply Fin.go hK; clear hK K)
  simp only [tN]
  refine Run.cond rfl (fun h12 => ?_) (fun h12 => ?_)
  ·simp at h12
  ·skip
   apply Run.seq
   refine opsF oo105 fun K hK => ?_
   try simp
   repeat' first | (refine evL_c ?_; simp [hop]) | (with_reducible first | apply aI | intro _ | assumption) | omega
   all_goals (apply Fin.go hK; clear hK K)
   simp only [tN]
   refine Run.cond rfl (fun h19 => ?_) (fun h19 => ?_)
   ·skip
    apply Run.seq
    refine opsT [oM 0 21, oL 75 5 22, oM 2 23, oC 83 #[.tmp 21, .tmp 22, .tmp 23] #[76, 75, 34] 24, oA 24 8] fun K hK => ?_
    try simp
    repeat' first | (refine ecallW [0, 1, 2, 3] (by exact hk) (by simp [hop]) (by simp) (by exact okK c r nB nA b.length bs ak b ak (meetR c (meetQ s) b) _) ?_) | (refine evL_c ?_; simp [hop]) | (with_reducible first | apply aI | intro _ | assumption) | omega
    all_goals (apply Fin.go hK; clear hK K)
    simp only [tN]
    apply Run.ret
    try simp only [Then_ret, Blok_ret]
    simp
   ·simp at h19
set_option maxHeartbeats 8000000 in
theorem rstep5_ok (c : CoreT) (r : ProgR) (nB nA : Nat) (bs : List (List Bool)) (ak b : List Bool) (s : StepR) (i : Int) (hb : b.length = c.nodes.length + c.edges.length) (hE : GoodE c) (hnB : bs.length = nB) (hnA : ak.length = nA) (hi1 : i ≤ nB) (hi2 : i ≤ nA) (hi3 : i ≤ r.tabs.length) (hN : b.length ≤ 16) (hbs : ∀ d ∈ bs, d.length = b.length) (hc : ∀ t ∈ s.terms, cntT t ≤ 1100000) (hop : s.op = 5) (R0 : Bool) (R1 R2 : List Bool) (hR : probeR c r.tabs bs ak b i s = (R0, R1, R2)) : SndW P 46 [.pt 0 0 0 0, .d (.ag (encR s)), .rs 3 1 0 b.length, .int i] (sLk c r nB nA bs ak b) (.bool R0) (sLk c r nB nA bs R2 R1) := by
 have hk := rprobe_ok c r nB nA bs ak b s i hnB hnA hi1 hi2 hi3 hN hbs
 rw [hR] at hk
 simp only at hk
 unfold sLk
 refine sndW_of [0, 1, 2, 3] Try.func46 rfl (by kernel_rfl) Try.ntmps46 (by simp) (by simp) ?_
 unfold Try.f46
 simp only [List.cons_append, List.nil_append, List.length_cons, List.length_nil, Nat.reduceAdd, Nat.reduceSub, List.replicate]
 apply Run.seq
 refine opsF oo97 fun K hK => ?_
 try simp
 repeat' first | (refine evL_c ?_; simp [hop]) | (with_reducible first | apply aI | intro _ | assumption) | omega
 all_goals (apply Fin.go hK; clear hK K)
 simp only [tN]
 apply Run.seq
 apply Run.seq
 refine opsF oo101 fun K hK => ?_
 try simp
 repeat' first | (refine evL_c ?_; simp [hop]) | (with_reducible first | apply aI | intro _ | assumption) | omega
 all_goals (apply Fin.go hK; clear hK K)
 simp only [tN]
 apply Run.block
 apply Run.seq
 apply Run.seq
 refine opsF oo102 fun K hK => ?_
 try simp
 repeat' first | (refine evL_c ?_; simp [hop]) | (with_reducible first | apply aI | intro _ | assumption) | omega
 all_goals (apply Fin.go hK; clear hK K)
 simp only [tN]
 refine Run.cond rfl (fun h12 => ?_) (fun h12 => ?_)
 ·simp at h12
 ·skip
  refine opsF oo104 fun K hK => ?_
  try simp
  repeat' first | (refine evL_c ?_; simp [hop]) | (with_reducible first | apply aI | intro _ | assumption) | omega
  all_goals (apply Fin.go hK; clear hK K)
  simp only [tN]
  refine Run.cond rfl (fun h12 => ?_) (fun h12 => ?_)
  ·simp at h12
  ·skip
   apply Run.seq
   refine opsF oo105 fun K hK => ?_
   try simp
   repeat' first | (refine evL_c ?_; simp [hop]) | (with_reducible first | apply aI | intro _ | assumption) | omega
   all_goals (apply Fin.go hK; clear hK K)
   simp only [tN]
   refine Run.cond rfl (fun h19 => ?_) (fun h19 => ?_)
   ·simp at h19
   ·skip
    apply Run.seq
    refine opsF oo106 fun K hK => ?_
    try simp
    repeat' first | (refine evL_c ?_; simp [hop]) | (with_reducible first | apply aI | intro _ | assumption) | omega
    all_goals (apply Fin.go hK; clear hK K)
    simp only [tN]
    refine Run.cond rfl (fun h25 => ?_) (fun h25 => ?_)
    ·skip
     apply Run.seq
     refine opsT [oM 0 27, oL 75 5 28, oM 2 29, oM 3 30, oC 84 #[.tmp 27, .tmp 28, .tmp 29, .tmp 30] #[76, 75, 34, 3] 31, oA 31 8] fun K hK => ?_
     try simp
     repeat' first | (refine ecallW [0, 1, 2, 3] (by exact hk) (by simp [hop]) (by simp) (by exact okK2 c r nB nA b.length bs ak b R2 R1 _ i) ?_) | (refine evL_c ?_; simp [hop]) | (with_reducible first | apply aI | intro _ | assumption) | omega
     all_goals (apply Fin.go hK; clear hK K)
     simp only [tN]
     apply Run.ret
     try simp only [Then_ret, Blok_ret]
     simp
    ·simp at h25
set_option maxHeartbeats 8000000 in
theorem rstep0_ok (c : CoreT) (r : ProgR) (nB nA : Nat) (bs : List (List Bool)) (ak b : List Bool) (s : StepR) (i : Int) (hb : b.length = c.nodes.length + c.edges.length) (hE : GoodE c) (hnB : bs.length = nB) (hnA : ak.length = nA) (hi1 : i ≤ nB) (hi2 : i ≤ nA) (hi3 : i ≤ r.tabs.length) (hN : b.length ≤ 16) (hbs : ∀ d ∈ bs, d.length = b.length) (hc : ∀ t ∈ s.terms, cntT t ≤ 1100000) (hop : ¬ s.op = 1) (hop2 : ¬ s.op = 2) (hop3 : ¬ s.op = 3) (hop4 : ¬ s.op = 4) (hop5 : ¬ s.op = 5) : SndW P 46 [.pt 0 0 0 0, .d (.ag (encR s)), .rs 3 1 0 b.length, .int i] (sLk c r nB nA bs ak b) (.bool false) (sLk c r nB nA bs ak b) := by
 unfold sLk
 refine sndW_of [0, 1, 2, 3] Try.func46 rfl (by kernel_rfl) Try.ntmps46 (by simp) (by simp) ?_
 unfold Try.f46
 simp only [List.cons_append, List.nil_append, List.length_cons, List.length_nil, Nat.reduceAdd, Nat.reduceSub, List.replicate]
 apply Run.seq
 refine opsF oo97 fun K hK => ?_
 try simp
 repeat' first | (refine evL_c ?_; simp [hop, hop2, hop3, hop4, hop5]) | (with_reducible first | apply aI | intro _ | assumption) | omega
 all_goals (apply Fin.go hK; clear hK K)
 simp only [tN]
 apply Run.seq
 apply Run.seq
 refine opsF oo101 fun K hK => ?_
 try simp
 repeat' first | (refine evL_c ?_; simp [hop, hop2, hop3, hop4, hop5]) | (with_reducible first | apply aI | intro _ | assumption) | omega
 all_goals (apply Fin.go hK; clear hK K)
 simp only [tN]
 apply Run.block
 apply Run.seq
 apply Run.seq
 refine opsF oo102 fun K hK => ?_
 try simp
 repeat' first | (refine evL_c ?_; simp [hop, hop2, hop3, hop4, hop5]) | (with_reducible first | apply aI | intro _ | assumption) | omega
 all_goals (apply Fin.go hK; clear hK K)
 simp only [tN]
 refine Run.cond rfl (fun h12 => ?_) (fun h12 => ?_)
 ·simp at h12
 ·skip
  refine opsF oo104 fun K hK => ?_
  try simp
  repeat' first | (refine evL_c ?_; simp [hop, hop2, hop3, hop4, hop5]) | (with_reducible first | apply aI | intro _ | assumption) | omega
  all_goals (apply Fin.go hK; clear hK K)
  simp only [tN]
  refine Run.cond rfl (fun h12 => ?_) (fun h12 => ?_)
  ·simp at h12
  ·skip
   apply Run.seq
   refine opsF oo105 fun K hK => ?_
   try simp
   repeat' first | (refine evL_c ?_; simp [hop, hop2, hop3, hop4, hop5]) | (with_reducible first | apply aI | intro _ | assumption) | omega
   all_goals (apply Fin.go hK; clear hK K)
   simp only [tN]
   refine Run.cond rfl (fun h19 => ?_) (fun h19 => ?_)
   ·simp at h19
   ·skip
    apply Run.seq
    refine opsF oo106 fun K hK => ?_
    try simp
    repeat' first | (refine evL_c ?_; simp [hop, hop2, hop3, hop4, hop5]) | (with_reducible first | apply aI | intro _ | assumption) | omega
    all_goals (apply Fin.go hK; clear hK K)
    simp only [tN]
    refine Run.cond rfl (fun h25 => ?_) (fun h25 => ?_)
    ·simp at h25
    ·skip
     apply Run.seq
     refine opsF oo107 fun K hK => ?_
     try simp
     repeat' first | (refine evL_c ?_; simp [hop, hop2, hop3, hop4, hop5]) | (with_reducible first | apply aI | intro _ | assumption) | omega
     all_goals (apply Fin.go hK; clear hK K)
     simp only [tN]
     refine Run.cond rfl (fun h32 => ?_) (fun h32 => ?_)
     ·simp at h32
     ·skip
      apply Run.skip
      simp only [Blok_normal]
      simp only [tN]
      apply Run.seq
      refine opsF oo98 fun K hK => ?_
      try simp
      repeat' first | (refine evL_c ?_; simp [hop, hop2, hop3, hop4, hop5]) | (with_reducible first | apply aI | intro _ | assumption) | omega
      all_goals (apply Fin.go hK; clear hK K)
      simp only [tN]
      apply Run.ret
      try simp only [Then_ret, Blok_ret]
      simp
set_option maxHeartbeats 8000000 in
theorem rstep4_ok (c : CoreT) (r : ProgR) (nB nA : Nat) (bs : List (List Bool)) (ak b : List Bool) (s : StepR) (i : Int) (hb : b.length = c.nodes.length + c.edges.length) (hE : GoodE c) (hnB : bs.length = nB) (hnA : ak.length = nA) (hi1 : i ≤ nB) (hi2 : i ≤ nA) (hi3 : i ≤ r.tabs.length) (hN : b.length ≤ 16) (hbs : ∀ d ∈ bs, d.length = b.length) (hc : ∀ t ∈ s.terms, cntT t ≤ 1100000) (hop : s.op = 4) : SndW P 46 [.pt 0 0 0 0, .d (.ag (encR s)), .rs 3 1 0 b.length, .int i] (sLk c r nB nA bs ak b) (.bool (s.terms.all (bindsS b))) (sLk c r nB nA bs ak b) := by
 obtain ⟨m, hm⟩ : ∃ z, s.terms.length = z := ⟨_, rfl⟩
 refine SndW.ok 1 rfl (by kernel_rfl) fun hp => ?_
 have hpm : s.terms.length ≤ 9223372036854775807 := by simp only [encR, D.ok, D.okL, List.length_map] at hp; exact hp.2.2.2.2.1.1
 clear hp
 rw [hm] at hpm
 unfold sLk
 refine sndW_of [0, 1, 2, 3] Try.func46 rfl (by kernel_rfl) Try.ntmps46 (by simp) (by simp) ?_
 unfold Try.f46
 simp only [List.cons_append, List.nil_append, List.length_cons, List.length_nil, Nat.reduceAdd, Nat.reduceSub, List.replicate]
 apply Run.seq
 refine opsF oo97 fun K hK => ?_
 try simp
 repeat' first | (refine evL_c ?_; simp [hop, hm]) | (with_reducible first | apply aI | intro _ | assumption) | omega
 all_goals (apply Fin.go hK; clear hK K)
 simp only [tN]
 apply Run.seq
 apply Run.seq
 refine opsF oo101 fun K hK => ?_
 try simp
 repeat' first | (refine evL_c ?_; simp [hop, hm]) | (with_reducible first | apply aI | intro _ | assumption) | omega
 all_goals (apply Fin.go hK; clear hK K)
 simp only [tN]
 apply Run.block
 apply Run.seq
 apply Run.seq
 refine opsF oo102 fun K hK => ?_
 try simp
 repeat' first | (refine evL_c ?_; simp [hop, hm]) | (with_reducible first | apply aI | intro _ | assumption) | omega
 all_goals (apply Fin.go hK; clear hK K)
 simp only [tN]
 refine Run.cond rfl (fun h12 => ?_) (fun h12 => ?_)
 ·simp at h12
 ·skip
  refine opsF oo104 fun K hK => ?_
  try simp
  repeat' first | (refine evL_c ?_; simp [hop, hm]) | (with_reducible first | apply aI | intro _ | assumption) | omega
  all_goals (apply Fin.go hK; clear hK K)
  simp only [tN]
  refine Run.cond rfl (fun h12 => ?_) (fun h12 => ?_)
  ·simp at h12
  ·skip
   apply Run.seq
   refine opsF oo105 fun K hK => ?_
   try simp
   repeat' first | (refine evL_c ?_; simp [hop, hm]) | (with_reducible first | apply aI | intro _ | assumption) | omega
   all_goals (apply Fin.go hK; clear hK K)
   simp only [tN]
   refine Run.cond rfl (fun h19 => ?_) (fun h19 => ?_)
   ·simp at h19
   ·skip
    apply Run.seq
    refine opsF oo106 fun K hK => ?_
    try simp
    repeat' first | (refine evL_c ?_; simp [hop, hm]) | (with_reducible first | apply aI | intro _ | assumption) | omega
    all_goals (apply Fin.go hK; clear hK K)
    simp only [tN]
    refine Run.cond rfl (fun h25 => ?_) (fun h25 => ?_)
    ·simp at h25
    ·skip
     apply Run.seq
     refine opsF oo107 fun K hK => ?_
     try simp
     repeat' first | (refine evL_c ?_; simp [hop, hm]) | (with_reducible first | apply aI | intro _ | assumption) | omega
     all_goals (apply Fin.go hK; clear hK K)
     simp only [tN]
     refine Run.cond rfl (fun h32 => ?_) (fun h32 => ?_)
     ·skip
      apply Run.seq
      apply Run.seq
      refine opsF oo108 fun K hK => ?_
      try simp
      repeat' first | (refine evL_c ?_; simp [hop, hm]) | (with_reducible first | apply aI | intro _ | assumption) | omega
      all_goals (apply Fin.go hK; clear hK K)
      simp only [tN]
      apply Run.block
      refine Run.loopO [8, 9, 34, 35, 36, 37, 38, 39, 40, 41, 42, 43, 44, 45, 46, 47, 48] (fun (k : Nat) => [(9, .int k)]) (fun (k : Nat) => [(0, .vals ([.d (encTa r.tabs), .d (.sl false (r.pipes.map encPi))] ++ (encC c).map .d ++ [.rs 1 1 0 nB, .rs 2 1 0 nA])), (1, .data 1 (bs.map encBs)), (2, .data 1 (ak.map encB)), (3, .data 1 (b.map encB)), (600, .vals ((encR s).map .d))]) (fun (k : Nat) => k ≤ m ∧ s.terms.all (bindsS b) = (s.terms.drop k).all (bindsS b)) (fun (k : Nat) => m - k) 0 ⟨by omega, rfl⟩ (by simp [hop]) fun k ⟨hk, hz⟩ => ?_
      simp only [over, List.foldl, List.set]
      apply Run.seq
      apply Run.seq
      refine opsF [oM 9 34, oF 75 5 4 35, oL 28 35 36, oN 28 36 37, oB .lss 3 34 37 3 38] fun K hK => ?_
      try simp
      repeat' first | (refine evL_c ?_; simp [hop, hm]) | (with_reducible first | apply aI | intro _ | assumption) | omega
      all_goals (apply Fin.go hK; clear hK K)
      simp only [tN]
      refine Run.cond rfl (fun h38 => ?_) (fun h38 => ?_)
      ·try simp at h38
       have hk1 : k < m := by omega
       have hk2 : (k : Int) < m := by omega
       have hT := rbinds_ok b (rdI s.terms (k : Nat)) (hc _ (rdI_mem (by omega) (by omega)))
       rw [rbinds_eq, encT_cells] at hT
       obtain ⟨q, ht⟩ : ∃ z, bindsS b (rdI s.terms (k : Nat)) = z := ⟨_, rfl⟩
       rw [ht] at hT
       apply Run.skip
       simp only [tN]
       apply Run.seq
       apply Run.block
       apply Run.seq
       refine opsT [oM 2 41, oF 75 5 4 42, oL 28 42 43, oM 9 44, oI 28 43 44 45, oL 89 45 46, oC 85 #[.tmp 41, .tmp 46] #[34, 89] 47, ⟨.unOp .not 4 (.tmp 47), some 48, none⟩] fun K hK => ?_
       try simp
       repeat' first | (refine ecallW [3] (by exact hT) (by simp) (by simp) (by rfl) ?_) | (refine evL_c ?_; simp [hop, hm, hk1, hk2]) | (with_reducible first | apply aI | intro _ | assumption) | omega
       all_goals (apply Fin.go hK; clear hK K)
       simp only [tN]
       refine Run.cond rfl (fun h48 => ?_) (fun h48 => ?_)
       ·have hz2 : s.terms.all (bindsS b) = false := by
         rw [hz, drop_rd (by omega), List.all_cons, ht, show q = false by simpa using h48, Bool.false_and]
        apply Run.seq
        refine opsF oo98 fun K hK => ?_
        try simp
        repeat' first | (refine evL_c ?_; simp [hop, hm, hk1, hk2]) | (with_reducible first | apply aI | intro _ | assumption) | omega
        all_goals (apply Fin.go hK; clear hK K)
        simp only [tN]
        apply Run.ret
        try simp only [Then_ret, Blok_ret]
        first
         | (simp [hz2]; done)
         | (simp [hz]; done)
       ·skip
        apply Run.skip
        simp only [Blok_normal]
        simp only [tN]
        refine opsF [oM 9 39, oK .add 3 39 1 3 40, oA 40 9] fun K hK => ?_
        try simp
        repeat' first | (refine evL_c ?_; simp [hop, hm, hk1, hk2]) | (with_reducible first | apply aI | intro _ | assumption) | omega
        all_goals (apply Fin.go hK; clear hK K)
        refine ⟨k + 1, ⟨by omega, ?_⟩, by omega, ?_⟩
        ·rw [hz, drop_rd (by omega), List.all_cons, ht, show q = true by simpa using h48, Bool.true_and]
        ·simp (disch := omega) [wrap_id, hop]
      ·try simp at h38
       have hk3 : k = m := by omega
       rw [List.drop_of_length_le (by omega), List.all_nil] at hz
       refine Run.exit ?_
       simp (decide := true) only [Then_exit, Blok_exit, if_true, if_false]
       simp only [tN]
       apply Run.seq
       refine opsF oo100 fun K hK => ?_
       try simp
       repeat' first | (refine evL_c ?_; simp [hop, hm]) | (with_reducible first | apply aI | intro _ | assumption) | omega
       all_goals (apply Fin.go hK; clear hK K)
       simp only [tN]
       apply Run.ret
       try simp only [Then_ret, Blok_ret]
       first
        | (simp [hz2]; done)
        | (simp [hz]; done)
     ·simp at h32
theorem rstep_ok (c : CoreT) (r : ProgR) (nB nA : Nat) (bs : List (List Bool)) (ak b : List Bool) (s : StepR) (i : Int) (hb : b.length = c.nodes.length + c.edges.length) (hE : GoodE c) (hnB : bs.length = nB) (hnA : ak.length = nA) (hi1 : i ≤ nB) (hi2 : i ≤ nA) (hi3 : i ≤ r.tabs.length) (hN : b.length ≤ 16) (hbs : ∀ d ∈ bs, d.length = b.length) (hc : ∀ t ∈ s.terms, cntT t ≤ 1100000) :
  SndW P 46 [.pt 0 0 0 0, .d (.ag (encR s)), .rs 3 1 0 b.length, .int i] (sLk c r nB nA bs ak b) (.bool (stepRd c r.tabs bs ak b i s).1) (sLk c r nB nA bs (stepRd c r.tabs bs ak b i s).2.2 (stepRd c r.tabs bs ak b i s).2.1) := by
 unfold stepRd
 by_cases h1 : s.op = 1
 ·rw [if_pos (.inl h1)]; exact rstep1_ok c r nB nA bs ak b s i hb hE hnB hnA hi1 hi2 hi3 hN hbs hc h1
 by_cases h2 : s.op = 2
 ·rw [if_pos (.inr h2)]; exact rstep2_ok c r nB nA bs ak b s i hb hE hnB hnA hi1 hi2 hi3 hN hbs hc h2
 rw [if_neg (fun e => e.elim h1 h2)]
 by_cases h3 : s.op = 3
 ·rw [if_pos h3]; exact rstep3_ok c r nB nA bs ak b s i hb hE hnB hnA hi1 hi2 hi3 hN hbs hc h3
 rw [if_neg h3]
 by_cases h5 : s.op = 5
 ·rw [if_pos h5]
  exact rstep5_ok c r nB nA bs ak b s i hb hE hnB hnA hi1 hi2 hi3 hN hbs hc h5 _ _ _ rfl
 rw [if_neg h5]
 by_cases h4 : s.op = 4
 ·rw [if_pos h4]; exact rstep4_ok c r nB nA bs ak b s i hb hE hnB hnA hi1 hi2 hi3 hN hbs hc h4
 ·rw [if_neg h4]; exact rstep0_ok c r nB nA bs ak b s i hb hE hnB hnA hi1 hi2 hi3 hN hbs hc h1 h2 h3 h4 h5
end Go.Proofs.Ytimgbdkgjfbhkaa.Z
end
