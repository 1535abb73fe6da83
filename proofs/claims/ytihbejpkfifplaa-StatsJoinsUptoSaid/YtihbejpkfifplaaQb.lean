/- The law StatsJoins, walked. -/
import Derived.Test.YtihbejpkfifplaaQa
set_option linter.unusedVariables false
set_option linter.unusedSimpArgs false
set_option maxRecDepth 100000
namespace Go.Proofs.Ytihbejpkfifplaa.Z
open Go Go.Fw
/-- what the law holds against the next one -/
def fmE (c : CoreT) (s : StatsT) (p : PlanT) (l : List TermT) : Nat → Int
  | 0 => estS c s p
  | i + 1 => estS c s (filtP p (l.take i))
theorem fmE_le (c : CoreT) (s : StatsT) (p : PlanT) (l : List TermT) (i : Nat) (h : i ≤ l.length) : fmE c s p l (i + 1) ≤ fmE c s p l i := by
  cases i with
  | zero => exact est_filt0 c s p
  | succ i => exact est_filt c s p l i (by omega)
set_option maxHeartbeats 4000000 in
theorem joins_ok (p q : PlanT) (c : CoreT) (s : StatsT) (l : List TermT) (hp : partsP p ≤ 2000000) (hq : partsP q ≤ 2000000) (hl : partsP (termP l) ≤ 2000000) : Snd P 5 [.d (.ag (encP p)), .d (.ag (encP q)), .d (.ag (encC c)), .d (.ag (encS s)), .d (.sl false (l.map encT))] (.bool true) [] := by
  have hA := parts_ok p hp 200 (by omega) (by omega)
  have hB := parts_ok q hq 200 (by omega) (by omega)
  have hC := parts_in l hl
  obtain ⟨pa, hpa⟩ : ∃ x, partsR p 200 = x := ⟨_, rfl⟩
  obtain ⟨pb, hpb⟩ : ∃ x, partsR q 200 = x := ⟨_, rfl⟩
  obtain ⟨pc, hpc⟩ : ∃ x, partsR (termP l) 200 = x := ⟨_, rfl⟩
  obtain ⟨m, hm⟩ : ∃ x, l.length = x := ⟨_, rfl⟩
  rw [hpa, encP_cells] at hA
  rw [hpb, encP_cells] at hB
  rw [hpc] at hC
  obtain ⟨gd, hgd⟩ : ∃ x, decide (200 < pa ∨ 200 < pb ∨ 200 < pc) = x := ⟨_, rfl⟩
  refine snd_of [] Try.func5 rfl (by kernel_rfl) Try.ntmps5 (by simp) ?_
  unfold Try.f5
  simp only [List.cons_append, List.nil_append, List.length_cons, List.length_nil, Nat.reduceAdd, Nat.reduceSub, List.replicate]
  refine Run.seq ?_
  refine Run.opsM false [⟨Op.box 27 (Operand.tmp 0), some 5, none⟩, ⟨Op.box 27 (Operand.tmp 1), some 6, none⟩, ⟨Op.box 33 (Operand.tmp 2), some 7, none⟩, ⟨Op.box 53 (Operand.tmp 3), some 8, none⟩, ⟨Op.assign (Operand.const (Value.bool false)), some 10, none⟩] mixed (by decide) rfl fun K hK => ?_
  try simp
  repeat' first | ((refine evL_c ?_); simp [hm]) | (with_reducible refine And.intro ?_ ?_) | intro _ | (with_reducible assumption) | omega
  all_goals (refine Fin.go hK ?_; clear hK K)
  simp only [Then_normal]
  refine Run.seq ?_
  refine Run.opsM false [⟨Op.call { callee := Callee.value (Operand.func 14), args := #[], argTypes := #[] }, some 17, none⟩, ⟨Op.assign (Operand.tmp 17), some 11, none⟩] mixed (by decide) rfl fun K hK => ?_
  try simp
  repeat' first | (refine ecallD head15_ok ?_) | ((refine evL_c ?_); simp [hm]) | (with_reducible refine And.intro ?_ ?_) | intro _ | (with_reducible assumption) | omega
  all_goals (refine Fin.go hK ?_; clear hK K)
  simp only [Then_normal]
  refine Run.seq ?_
  refine Run.cut [18, 19, 20, 21, 22, 23, 24, 25, 26, 27, 28, 29, 30, 31] [(31, .bool gd)] [(600, .vals ((encP p).map .d)), (700, .vals ((encP q).map .d)), (800, .vals ((encC c).map .d)), (900, .vals ((encS s).map .d))] ?_ ?_
  · refine Run.opsM false [⟨Op.load 27 (Operand.tmp 5), some 18, none⟩, ⟨Op.call { callee := Callee.value (Operand.func 11), args := #[Operand.tmp 18, Operand.const (Value.int IntKind.i64 200)], argTypes := #[27, 3] }, some 19, none⟩, ⟨Op.binOp BinOp.gtr 3 (Operand.tmp 19) (Operand.const (Value.int IntKind.i64 200)) 3, some 20, none⟩, ⟨Op.move (Operand.tmp 20), some 21, none⟩, ⟨Op.load 27 (Operand.tmp 6), some 22, some (some 21, false)⟩, ⟨Op.call { callee := Callee.value (Operand.func 11), args := #[Operand.tmp 22, Operand.const (Value.int IntKind.i64 200)], argTypes := #[27, 3] }, some 23, some (some 21, false)⟩, ⟨Op.binOp BinOp.gtr 3 (Operand.tmp 23) (Operand.const (Value.int IntKind.i64 200)) 3, some 24, some (some 21, false)⟩, ⟨Op.pick (Operand.tmp 21) (Operand.const (Value.bool true)) (Operand.tmp 24), some 25, none⟩, ⟨Op.move (Operand.tmp 25), some 26, none⟩, ⟨Op.move (Operand.tmp 4), some 27, some (some 26, false)⟩, ⟨Op.build 27 #[(5, Operand.tmp 27)], some 28, some (some 26, false)⟩, ⟨Op.call { callee := Callee.value (Operand.func 11), args := #[Operand.tmp 28, Operand.const (Value.int IntKind.i64 200)], argTypes := #[27, 3] }, some 29, some (some 26, false)⟩, ⟨Op.binOp BinOp.gtr 3 (Operand.tmp 29) (Operand.const (Value.int IntKind.i64 200)) 3, some 30, some (some 26, false)⟩, ⟨Op.pick (Operand.tmp 26) (Operand.const (Value.bool true)) (Operand.tmp 30), some 31, none⟩] mixed (by decide) rfl fun K hK => ?_
    try simp
    repeat' first | (refine ecallD (by exact hA) ?_) | (refine ecallD (by exact hB) ?_) | (refine ecallD (by exact hC) ?_) | ((refine evL_c ?_); simp [hm, *]) | ((refine evL_g rfl ?_); (try simp only [gs_tt, gs_ff, gs_tf, gs_ft]); (try simp [hm, *])) | (refine evL_u rfl ?_) | ((with_reducible refine gsplit (fun hg => ?_) (fun hg => ?_)) <;> (try simp at hg) <;> (try simp [hm, *])) | (with_reducible refine And.intro ?_ ?_) | intro _ | (with_reducible assumption) | omega
    all_goals (refine Fin.go hK ?_; clear hK K)
    all_goals
      subst hgd
      (try simp [hm]) <;> (first | omega | (rw [Bool.eq_iff_iff]; simp only [Bool.or_eq_true, decide_eq_true_eq]; omega) | (intros; omega) | grind)
  · simp only [over, List.foldl, List.set]
    refine Run.cond rfl (fun h31 => ?_) (fun h31 => ?_)
    · try simp at h31
      refine Run.seq ?_
      refine Run.opsM false [⟨Op.move (Operand.tmp 11), some 32, none⟩, ⟨Op.assign (Operand.tmp 32), some 10, none⟩] mixed (by decide) rfl fun K hK => ?_
      try simp
      repeat' first | ((refine evL_c ?_); simp [hm]) | (with_reducible refine And.intro ?_ ?_) | intro _ | (with_reducible assumption) | omega
      all_goals (refine Fin.go hK ?_; clear hK K)
      simp only [Then_normal]
      refine Run.ret ?_
      try simp only [Then_ret, Blok_ret]
      simp
    · rw [h31, decide_eq_false_iff_not] at hgd
      have e1 := partsR_all p 200 hp (by omega)
      have e2 := partsR_all q 200 hq (by omega)
      have e3 := partsR_all (termP l) 200 hl (by omega)
      have e4 : partsP (termP l) = 1 + l.length + cntL l := by simp [termP, partsP, partsL]
      have hJ1 := join_in c s p q (by simp [joinP, partsP, partsL, cntL]; omega)
      have hJ2 := join_in c s q p (by simp [joinP, partsP, partsL, cntL]; omega)
      rw [est_join c s q p] at hJ2
      simp only [encP_cells] at hJ1 hJ2
      obtain ⟨ej, hej⟩ : ∃ x, estS c s (joinP p q) = x := ⟨_, rfl⟩
      rw [hej] at hJ1 hJ2
      have hE := Estimate_ok c s p (by omega)
      rw [encP_cells] at hE
      refine Run.skip ?_
      simp only [Then_normal]
      refine Run.seq ?_
      refine Run.opsM false [⟨Op.load 27 (Operand.tmp 5), some 33, none⟩, ⟨Op.load 27 (Operand.tmp 6), some 34, none⟩, ⟨Op.buildSlice 23 2 #[(0, Operand.tmp 33), (1, Operand.tmp 34)], some 35, none⟩, ⟨Op.build 27 #[(0, Operand.const (Value.int IntKind.i64 4)), (1, Operand.tmp 35)], some 36, none⟩, ⟨Op.load 33 (Operand.tmp 7), some 37, none⟩, ⟨Op.load 53 (Operand.tmp 8), some 38, none⟩, ⟨Op.call { callee := Callee.value (Operand.func 15), args := #[Operand.tmp 36, Operand.tmp 37, Operand.tmp 38], argTypes := #[27, 33, 53] }, some 39, none⟩, ⟨Op.assign (Operand.tmp 39), some 12, none⟩] mixed (by decide) rfl fun K hK => ?_
      try simp
      repeat' first | (refine ecallF (by simp) (by simp) hJ1 ?_) | ((refine evL_c ?_); simp [hm]) | (with_reducible refine And.intro ?_ ?_) | intro _ | (with_reducible assumption) | omega
      all_goals (refine Fin.go hK ?_; clear hK K)
      simp only [Then_normal]
      refine Run.seq ?_
      refine Run.opsM false [⟨Op.load 27 (Operand.tmp 6), some 40, none⟩, ⟨Op.load 27 (Operand.tmp 5), some 41, none⟩, ⟨Op.buildSlice 23 2 #[(0, Operand.tmp 40), (1, Operand.tmp 41)], some 42, none⟩, ⟨Op.build 27 #[(0, Operand.const (Value.int IntKind.i64 4)), (1, Operand.tmp 42)], some 43, none⟩, ⟨Op.load 33 (Operand.tmp 7), some 44, none⟩, ⟨Op.load 53 (Operand.tmp 8), some 45, none⟩, ⟨Op.call { callee := Callee.value (Operand.func 15), args := #[Operand.tmp 43, Operand.tmp 44, Operand.tmp 45], argTypes := #[27, 33, 53] }, some 46, none⟩, ⟨Op.assign (Operand.tmp 46), some 13, none⟩] mixed (by decide) rfl fun K hK => ?_
      try simp
      repeat' first | (refine ecallF (by simp) (by simp) hJ2 ?_) | ((refine evL_c ?_); simp [hm]) | (with_reducible refine And.intro ?_ ?_) | intro _ | (with_reducible assumption) | omega
      all_goals (refine Fin.go hK ?_; clear hK K)
      simp only [Then_normal]
      refine Run.seq ?_
      refine Run.opsM false [⟨Op.load 27 (Operand.tmp 5), some 47, none⟩, ⟨Op.load 33 (Operand.tmp 7), some 48, none⟩, ⟨Op.load 53 (Operand.tmp 8), some 49, none⟩, ⟨Op.call { callee := Callee.value (Operand.func 15), args := #[Operand.tmp 47, Operand.tmp 48, Operand.tmp 49], argTypes := #[27, 33, 53] }, some 50, none⟩, ⟨Op.assign (Operand.tmp 50), some 14, none⟩] mixed (by decide) rfl fun K hK => ?_
      try simp
      repeat' first | (refine ecallD (by exact hE) ?_) | ((refine evL_c ?_); simp [hm]) | (with_reducible refine And.intro ?_ ?_) | intro _ | (with_reducible assumption) | omega
      all_goals (refine Fin.go hK ?_; clear hK K)
      simp only [Then_normal]
      refine Run.seq ?_
      refine Run.seq ?_
      refine Run.opsM false [⟨Op.assign (Operand.const (Value.int IntKind.i64 0)), some 15, none⟩] mixed (by decide) rfl fun K hK => ?_
      try simp
      repeat' first | ((refine evL_c ?_); simp [hm]) | (with_reducible refine And.intro ?_ ?_) | intro _ | (with_reducible assumption) | omega
      all_goals (refine Fin.go hK ?_; clear hK K)
      simp only [Then_normal]
      refine Run.block ?_
      refine Run.loopO [10, 14, 15, 16, 51, 52, 53, 54, 55, 56, 57, 58, 59, 60, 61, 62, 63, 64, 65, 66, 67, 68, 69] (fun (i : Nat) => [(15, .int i), (14, .int (fmE c s p l i))]) (fun (i : Nat) => [(600, .vals ((encP p).map .d)), (700, .vals ((encP q).map .d)), (800, .vals ((encC c).map .d)), (900, .vals ((encS s).map .d))]) (fun (i : Nat) => i ≤ m + 1) (fun (i : Nat) => m + 1 - i) 0 (by omega) (by simp [fmE]) fun i hi => ?_
      simp only [over, List.foldl, List.set]
      obtain ⟨f0, hf0⟩ : ∃ x, fmE c s p l i = x := ⟨_, rfl⟩
      refine Run.seq ?_
      refine Run.seq ?_
      refine Run.opsM false [⟨Op.move (Operand.tmp 15), some 51, none⟩, ⟨Op.move (Operand.tmp 4), some 52, none⟩, ⟨Op.call { callee := Callee.builtin Builtin.len, args := #[Operand.tmp 52], argTypes := #[25] }, some 53, none⟩, ⟨Op.binOp BinOp.leq 3 (Operand.tmp 51) (Operand.tmp 53) 3, some 54, none⟩] mixed (by decide) rfl fun K hK => ?_
      try simp
      repeat' first | ((refine evL_c ?_); simp [hm]) | (with_reducible refine And.intro ?_ ?_) | intro _ | (with_reducible assumption) | omega
      all_goals (refine Fin.go hK ?_; clear hK K)
      simp only [Then_normal]
      refine Run.cond rfl (fun h54 => ?_) (fun h54 => ?_)
      · try simp [hf0] at h54
        have hi1 : i ≤ m := by omega
        have hle := fmE_le c s p l i (by omega)
        obtain ⟨f1, hf1⟩ : ∃ x, fmE c s p l (i + 1) = x := ⟨_, rfl⟩
        rw [hf0, hf1] at hle
        have hc := cntL_take l i
        have hF := filt_in false c s p (l.take i) (by simp [filtP, partsP, partsL]; omega)
        rw [show estS c s (filtP p (l.take i)) = f1 from hf1, List.map_take] at hF
        simp only [encP_cells] at hF
        refine Run.skip ?_
        simp only [Then_normal]
        refine Run.seq ?_
        refine Run.block ?_
        refine Run.seq ?_
        refine Run.opsM false [⟨Op.load 27 (Operand.tmp 5), some 57, none⟩, ⟨Op.buildSlice 23 1 #[(0, Operand.tmp 57)], some 58, none⟩, ⟨Op.move (Operand.tmp 4), some 59, none⟩, ⟨Op.move (Operand.tmp 15), some 60, none⟩, ⟨Op.slice 25 (Operand.tmp 59) none (some (Operand.tmp 60)) none, some 61, none⟩, ⟨Op.build 27 #[(0, Operand.const (Value.int IntKind.i64 6)), (1, Operand.tmp 58), (5, Operand.tmp 61)], some 62, none⟩, ⟨Op.load 33 (Operand.tmp 7), some 63, none⟩, ⟨Op.load 53 (Operand.tmp 8), some 64, none⟩, ⟨Op.call { callee := Callee.value (Operand.func 15), args := #[Operand.tmp 62, Operand.tmp 63, Operand.tmp 64], argTypes := #[27, 33, 53] }, some 65, none⟩, ⟨Op.assign (Operand.tmp 65), some 16, none⟩] mixed (by decide) rfl fun K hK => ?_
        try simp
        repeat' first | (refine ecallF (by simp) (by simp) hF ?_) | ((refine evL_c ?_); simp [hm, hf0, hi1]) | (with_reducible refine And.intro ?_ ?_) | intro _ | (with_reducible assumption) | omega
        all_goals (refine Fin.go hK ?_; clear hK K)
        simp only [Then_normal]
        refine Run.seq ?_
        refine Run.seq ?_
        refine Run.opsM false [⟨Op.move (Operand.tmp 16), some 66, none⟩, ⟨Op.move (Operand.tmp 14), some 67, none⟩, ⟨Op.binOp BinOp.gtr 2 (Operand.tmp 66) (Operand.tmp 67) 2, some 68, none⟩] mixed (by decide) rfl fun K hK => ?_
        try simp
        repeat' first | ((refine evL_c ?_); simp [hm, hf0, hi1]) | (with_reducible refine And.intro ?_ ?_) | intro _ | (with_reducible assumption) | omega
        all_goals (refine Fin.go hK ?_; clear hK K)
        simp only [Then_normal]
        refine Run.cond rfl (fun h68 => ?_) (fun h68 => ?_)
        · exfalso
          simp at h68
          omega
        · try simp at h68
          refine Run.skip ?_
          simp only [Then_normal]
          refine Run.opsM false [⟨Op.move (Operand.tmp 16), some 69, none⟩, ⟨Op.assign (Operand.tmp 69), some 14, none⟩] mixed (by decide) rfl fun K hK => ?_
          try simp
          repeat' first | ((refine evL_c ?_); simp [hm, hf0, hi1]) | (with_reducible refine And.intro ?_ ?_) | intro _ | (with_reducible assumption) | omega
          all_goals (refine Fin.go hK ?_; clear hK K)
          simp only [Blok_normal]
          simp only [Then_normal]
          refine Run.opsM false [⟨Op.move (Operand.tmp 15), some 55, none⟩, ⟨Op.binOp BinOp.add 3 (Operand.tmp 55) (Operand.const (Value.int IntKind.i64 1)) 3, some 56, none⟩, ⟨Op.assign (Operand.tmp 56), some 15, none⟩] mixed (by decide) rfl fun K hK => ?_
          try simp
          repeat' first | ((refine evL_c ?_); simp [hm, hf0, hi1]) | (with_reducible refine And.intro ?_ ?_) | intro _ | (with_reducible assumption) | omega
          all_goals (refine Fin.go hK ?_; clear hK K)
          refine ⟨i + 1, by omega, by omega, ?_⟩
          simp (disch := omega) [wrap_id, hf1]
      · try simp [hf0] at h54
        refine Run.exit ?_
        simp (decide := true) only [Then_exit, Blok_exit, if_true, if_false]
        simp only [Then_normal]
        refine Run.seq ?_
        refine Run.opsM false [⟨Op.move (Operand.tmp 11), some 70, none⟩, ⟨Op.move (Operand.tmp 70), some 71, none⟩, ⟨Op.move (Operand.tmp 12), some 72, some (some 71, true)⟩, ⟨Op.move (Operand.tmp 13), some 73, some (some 71, true)⟩, ⟨Op.binOp BinOp.eql 2 (Operand.tmp 72) (Operand.tmp 73) 2, some 74, some (some 71, true)⟩, ⟨Op.pick (Operand.tmp 71) (Operand.tmp 74) (Operand.const (Value.bool false)), some 75, none⟩, ⟨Op.assign (Operand.tmp 75), some 10, none⟩] mixed (by decide) rfl fun K hK => ?_
        try simp
        repeat' first | ((refine evL_c ?_); simp [hm, hf0]) | ((refine evL_g rfl ?_); (try simp only [gs_tt, gs_ff, gs_tf, gs_ft]); (try simp [hm, hf0])) | (refine evL_u rfl ?_) | ((with_reducible refine gsplit (fun hg => ?_) (fun hg => ?_)) <;> (try simp at hg) <;> (try simp [hm, hf0])) | (with_reducible refine And.intro ?_ ?_) | intro _ | (with_reducible assumption) | omega
        all_goals (refine Fin.go hK ?_; clear hK K)
        all_goals
          simp only [Then_normal]
          refine Run.ret ?_
          try simp only [Then_ret, Blok_ret]
          simp


end Go.Proofs.Ytihbejpkfifplaa.Z
