/- Texts of this claim, put together: Rc, Rd, Re, Rh, Ri, Rj. -/
import Derived.Test.YtihbejpkfifplaaCi
set_option linter.unusedVariables false
set_option linter.unusedSimpArgs false
namespace Go.Proofs.Ytihbejpkfifplaa.Z
open Go Go.Fw
abbrev oo90 : List LOp := [⟨Op.move (Operand.tmp 4), some 16, none⟩, ⟨Op.fieldAddr 70 (Operand.tmp 1) 1, some 17, none⟩, ⟨Op.load 25 (Operand.tmp 17), some 18, none⟩, ⟨Op.call { callee := Callee.builtin Builtin.len, args := #[Operand.tmp 18], argTypes := #[25] }, some 19, none⟩, ⟨Op.binOp BinOp.lss 3 (Operand.tmp 16) (Operand.tmp 19) 3, some 20, none⟩]
abbrev oo91 : List LOp := [⟨Op.move (Operand.tmp 3), some 23, none⟩, ⟨Op.fieldAddr 70 (Operand.tmp 1) 1, some 24, none⟩, ⟨Op.load 25 (Operand.tmp 24), some 25, none⟩, ⟨Op.move (Operand.tmp 4), some 26, none⟩, ⟨Op.indexAddr 25 (Operand.tmp 25) (Operand.tmp 26), some 27, none⟩, ⟨Op.load 70 (Operand.tmp 27), some 28, none⟩, ⟨Op.call { callee := Callee.value (Operand.func 56), args := #[Operand.tmp 28], argTypes := #[70] }, some 29, none⟩, ⟨Op.call { callee := Callee.value (Operand.func 87), args := #[Operand.tmp 23, Operand.tmp 29], argTypes := #[24, 24] }, some 30, none⟩, ⟨Op.assign (Operand.tmp 30), some 3, none⟩]
abbrev oo92 : List LOp := [⟨Op.move (Operand.tmp 4), some 21, none⟩, ⟨Op.binOp BinOp.add 3 (Operand.tmp 21) (Operand.const (Value.int IntKind.i64 1)) 3, some 22, none⟩, ⟨Op.assign (Operand.tmp 22), some 4, none⟩]
abbrev oo93 : List LOp := [⟨Op.move (Operand.tmp 3), some 31, none⟩, ⟨Op.assign (Operand.tmp 31), some 2, none⟩]
abbrev oo94 : List LOp := [⟨Op.box 27 (Operand.tmp 0), some 2, none⟩, ⟨Op.box 33 (Operand.tmp 1), some 3, none⟩, ⟨Op.assign (Operand.const (Value.slice none 0 0)), some 4, none⟩]
abbrev oo95 : List LOp := [⟨Op.fieldAddr 33 (Operand.tmp 3) 0, some 15, none⟩, ⟨Op.load 28 (Operand.tmp 15), some 16, none⟩, ⟨Op.call { callee := Callee.builtin Builtin.len, args := #[Operand.tmp 16], argTypes := #[28] }, some 17, none⟩, ⟨Op.fieldAddr 33 (Operand.tmp 3) 1, some 18, none⟩, ⟨Op.load 29 (Operand.tmp 18), some 19, none⟩, ⟨Op.call { callee := Callee.builtin Builtin.len, args := #[Operand.tmp 19], argTypes := #[29] }, some 20, none⟩, ⟨Op.binOp BinOp.add 3 (Operand.tmp 17) (Operand.tmp 20) 3, some 21, none⟩, ⟨Op.assign (Operand.tmp 21), some 5, none⟩]
abbrev oo96 : List LOp := [⟨Op.assign (Operand.const (Value.int IntKind.i64 1)), some 6, none⟩]
abbrev oo97 : List LOp := [⟨Op.fieldAddr 27 (Operand.tmp 2) 0, some 22, none⟩, ⟨Op.load 22 (Operand.tmp 22), some 23, none⟩]
abbrev oo98 : List LOp := [⟨Op.binOp BinOp.eql 22 (Operand.tmp 23) (Operand.const (Value.int IntKind.i64 1)) 22, some 25, none⟩, ⟨Op.assign (Operand.tmp 25), some 24, none⟩]
abbrev oo99 : List LOp := [⟨Op.binOp BinOp.eql 22 (Operand.tmp 23) (Operand.const (Value.int IntKind.i64 4)) 22, some 27, none⟩, ⟨Op.assign (Operand.tmp 27), some 26, none⟩]
abbrev oo100 : List LOp := [⟨Op.fieldAddr 27 (Operand.tmp 2) 0, some 28, none⟩, ⟨Op.load 22 (Operand.tmp 28), some 29, none⟩, ⟨Op.binOp BinOp.lss 22 (Operand.tmp 29) (Operand.const (Value.int IntKind.i64 1)) 22, some 30, none⟩, ⟨Op.move (Operand.tmp 30), some 31, none⟩, ⟨Op.fieldAddr 27 (Operand.tmp 2) 0, some 32, some (some 31, false)⟩, ⟨Op.load 22 (Operand.tmp 32), some 33, some (some 31, false)⟩, ⟨Op.binOp BinOp.gtr 22 (Operand.tmp 33) (Operand.const (Value.int IntKind.i64 6)) 22, some 34, some (some 31, false)⟩, ⟨Op.pick (Operand.tmp 31) (Operand.const (Value.bool true)) (Operand.tmp 34), some 35, none⟩, ⟨Op.move (Operand.tmp 35), some 36, none⟩, ⟨Op.fieldAddr 27 (Operand.tmp 2) 1, some 37, some (some 36, false)⟩, ⟨Op.load 23 (Operand.tmp 37), some 38, some (some 36, false)⟩, ⟨Op.call { callee := Callee.builtin Builtin.len, args := #[Operand.tmp 38], argTypes := #[23] }, some 39, some (some 36, false)⟩, ⟨Op.move (Operand.tmp 6), some 40, some (some 36, false)⟩, ⟨Op.binOp BinOp.neq 3 (Operand.tmp 39) (Operand.tmp 40) 3, some 41, some (some 36, false)⟩, ⟨Op.pick (Operand.tmp 36) (Operand.const (Value.bool true)) (Operand.tmp 41), some 42, none⟩]
abbrev oo101 : List LOp := [⟨Op.move (Operand.tmp 6), some 43, none⟩, ⟨Op.binOp BinOp.eql 3 (Operand.tmp 43) (Operand.const (Value.int IntKind.i64 0)) 3, some 44, none⟩]
abbrev oo102 : List LOp := [⟨Op.fieldAddr 27 (Operand.tmp 2) 1, some 63, none⟩, ⟨Op.load 23 (Operand.tmp 63), some 64, none⟩, ⟨Op.indexAddr 23 (Operand.tmp 64) (Operand.const (Value.int IntKind.i64 0)), some 65, none⟩, ⟨Op.load 27 (Operand.tmp 65), some 66, none⟩, ⟨Op.load 33 (Operand.tmp 3), some 67, none⟩, ⟨Op.call { callee := Callee.value (Operand.func 38), args := #[Operand.tmp 66, Operand.tmp 67], argTypes := #[27, 33] }, some 68, none⟩, ⟨Op.assign (Operand.tmp 68), some 8, none⟩]
abbrev oo103 : List LOp := [⟨Op.move (Operand.tmp 8), some 69, none⟩, ⟨Op.binOp BinOp.eql 60 (Operand.tmp 69) (Operand.const (Value.slice none 0 0)) 60, some 70, none⟩]
abbrev oo104 : List LOp := [⟨Op.fieldAddr 27 (Operand.tmp 2) 0, some 71, none⟩, ⟨Op.load 22 (Operand.tmp 71), some 72, none⟩]
abbrev oo105 : List LOp := [⟨Op.binOp BinOp.eql 22 (Operand.tmp 72) (Operand.const (Value.int IntKind.i64 2)) 22, some 74, none⟩, ⟨Op.assign (Operand.tmp 74), some 73, none⟩]
abbrev oo106 : List LOp := [⟨Op.binOp BinOp.eql 22 (Operand.tmp 72) (Operand.const (Value.int IntKind.i64 3)) 22, some 75, none⟩, ⟨Op.assign (Operand.tmp 75), some 73, none⟩]
abbrev oo107 : List LOp := [⟨Op.move (Operand.tmp 8), some 197, none⟩, ⟨Op.assign (Operand.tmp 197), some 4, none⟩]
abbrev oo108 : List LOp := [⟨Op.binOp BinOp.eql 22 (Operand.tmp 72) (Operand.const (Value.int IntKind.i64 4)) 22, some 106, none⟩, ⟨Op.assign (Operand.tmp 106), some 105, none⟩]
abbrev oo109 : List LOp := [⟨Op.binOp BinOp.eql 22 (Operand.tmp 72) (Operand.const (Value.int IntKind.i64 5)) 22, some 151, none⟩, ⟨Op.assign (Operand.tmp 151), some 150, none⟩]
end Go.Proofs.Ytihbejpkfifplaa.Z
section
set_option maxRecDepth 100000
namespace Go.Proofs.Ytihbejpkfifplaa.Z
open Go Go.Fw
mutual
def rslT : TermT → List Int
  | .mk op k sl _ _ => rslL k (own1 op sl)
def rslL : List TermT → List Int → List Int
  | [], acc => acc
  | t :: r, acc => rslL r (unionS acc (rslT t))
end
theorem rslT_eq (t : TermT) : rslT t = rslL t.kids (own1 t.op t.slot) := by cases t; rw [rslT]; rfl
mutual
theorem rslT_len : ∀ t : TermT, (rslT t).length ≤ cntT t
  | .mk op k sl nm v => by
    have h := rslL_len k (own1 op sl)
    have h1 := own1_len op sl
    rw [rslT, cntT]; omega
theorem rslL_len : ∀ (l : List TermT) (acc : List Int), (rslL l acc).length ≤ acc.length + cntL l
  | [], acc => by simp [rslL, cntL]
  | t :: r, acc => by
    have h1 := rslT_len t
    have h2 := rslL_len r (unionS acc (rslT t))
    have h3 := union_len acc (rslT t)
    rw [rslL, cntL]; omega
end
theorem rslL_step {l : List TermT} {i : Nat} {acc : List Int} (hi : i < l.length) : rslL (l.drop i) acc = rslL (l.drop (i + 1)) (unionS acc (rslT (rdI l i))) := by
  rw [drop_rd hi, rslL]
theorem rslL_end {l : List TermT} {i : Nat} {acc : List Int} (hi : l.length ≤ i) : rslL (l.drop i) acc = acc := by
  rw [List.drop_of_length_le hi, rslL]
set_option maxHeartbeats 4000000 in
theorem rslots1_ok (t : TermT) (ht : cntT t ≤ 1000000) (IH : ∀ i : Nat, i < t.kids.length → Snd P 56 [.d (.ag (encT (rdI t.kids i)))] (.d (.sl false ((rslT (rdI t.kids i)).map encI))) []) : Snd P 56 [.d (.ag (encT t))] (.d (.sl false ((rslT t).map encI))) [] := by
  refine Snd.ok 0 rfl (by kernel_rfl) fun hok => ?_
  have hkm := encT_ok hok
  clear hok
  obtain ⟨m, hm⟩ : ∃ m, t.kids.length = m := ⟨_, rfl⟩
  rw [hm] at hkm
  refine snd_of [] Try.func56 rfl (by kernel_rfl) Try.ntmps56 (by simp) ?_
  unfold Try.f56
  simp only [List.cons_append, List.nil_append, List.length_cons, List.length_nil, Nat.reduceAdd, Nat.reduceSub, List.replicate]
  refine Run.seq ?_
  refine opsF oo3 fun K hK => ?_
  try simp
  repeat' first | ((refine evL_c ?_); simp [hm]) | (with_reducible refine And.intro ?_ ?_) | intro _ | (with_reducible assumption) | omega
  all_goals (refine Fin.go hK ?_; clear hK K)
  simp only [Then_normal]
  refine Run.seq ?_
  refine opsF oo4 fun K hK => ?_
  try simp
  repeat' first | ((refine evL_c ?_); simp [hm]) | (with_reducible refine And.intro ?_ ?_) | intro _ | (with_reducible assumption) | omega
  all_goals (refine Fin.go hK ?_; clear hK K)
  simp only [Then_normal]
  refine Run.seq ?_
  refine Run.cut [5, 6, 7, 8, 9, 10, 11, 12] [(12, .bool (decide (t.op = 2 ∨ t.op = 3)))] [(200, .vals ((encT t).map .d))] ?_ ?_
  · refine opsF [⟨Op.fieldAddr 70 (Operand.tmp 1) 0, some 5, none⟩, ⟨Op.load 65 (Operand.tmp 5), some 6, none⟩, ⟨Op.binOp BinOp.eql 65 (Operand.tmp 6) (Operand.const (Value.int IntKind.i64 2)) 65, some 7, none⟩, ⟨Op.move (Operand.tmp 7), some 8, none⟩, ⟨Op.fieldAddr 70 (Operand.tmp 1) 0, some 9, some (some 8, false)⟩, ⟨Op.load 65 (Operand.tmp 9), some 10, some (some 8, false)⟩, ⟨Op.binOp BinOp.eql 65 (Operand.tmp 10) (Operand.const (Value.int IntKind.i64 3)) 65, some 11, some (some 8, false)⟩, ⟨Op.pick (Operand.tmp 8) (Operand.const (Value.bool true)) (Operand.tmp 11), some 12, none⟩] fun K hK => ?_
    try simp
    repeat' first | ((first | refine evL_c ?_ | (refine evL_g rfl ?_; try simp only [gs_tt, gs_ff, gs_tf, gs_ft]) | refine evL_u rfl ?_ | (with_reducible refine gsplit (fun hg => ?_) (fun hg => ?_) <;> try simp at hg)) <;> try simp [hm]) | (with_reducible refine And.intro ?_ ?_) | intro _ | (with_reducible assumption) | omega
    all_goals (refine Fin.go hK ?_; clear hK K)
    all_goals
      (try simp [*]) <;> (first | omega | (simp; done) | grind)
  · simp only [over, List.foldl, List.set]
    refine Run.cond rfl (fun h12 => ?_) (fun h12 => ?_)
    · have ho : own1 t.op t.slot = [t.slot] := by rw [own1, if_pos (of_decide_eq_true h12)]
      refine opsF [⟨Op.fieldAddr 70 (Operand.tmp 1) 2, some 13, none⟩, ⟨Op.load 3 (Operand.tmp 13), some 14, none⟩, ⟨Op.buildSlice 24 1 #[(0, Operand.tmp 14)], some 15, none⟩, ⟨Op.assign (Operand.tmp 15), some 3, none⟩] fun K hK => ?_
      try simp
      repeat' first | ((refine evL_c ?_); simp [hm]) | (with_reducible refine And.intro ?_ ?_) | intro _ | (with_reducible assumption) | omega
      all_goals (refine Fin.go hK ?_; clear hK K)
      simp only [Then_normal]
      refine Run.seq ?_
      refine Run.seq ?_
      first | refine Run.frz 3 1600 rfl (by simp) rfl ?_ | refine Run.sub 3 rfl DSub.nil ?_
      simp only [V.fgtL, V.fgt, fgtS, List.set]
      refine opsF oo5 fun K hK => ?_
      try simp
      repeat' first | ((refine evL_c ?_); simp [hm]) | (with_reducible refine And.intro ?_ ?_) | intro _ | (with_reducible assumption) | omega
      all_goals (refine Fin.go hK ?_; clear hK K)
      simp only [Then_normal]
      refine Run.block ?_
      refine Run.loopO [3, 4, 16, 17, 18, 19, 20, 21, 22, 23, 24, 25, 26, 27, 28, 29, 30] (fun (x : Nat × List Int) => [(4, .int x.1), (3, .d (.sl false (x.2.map encI)))]) (fun (x : Nat × List Int) => [(200, .vals ((encT t).map .d))]) (fun (x : Nat × List Int) => x.1 ≤ m ∧ rslL (t.kids.drop x.1) x.2 = rslT t ∧ x.2.length ≤ 1 + cntL (t.kids.take x.1)) (fun (x : Nat × List Int) => m - x.1) (0, own1 t.op t.slot) ⟨by omega, by rw [rslT_eq]; rfl, by have := own1_len t.op t.slot; simp [cntL]; omega⟩ (by simp [ho]) fun ⟨i, ac⟩ ⟨hi, hg, hl⟩ => ?_
      simp only at hi hg hl
      simp only [over, List.foldl, List.set]
      refine Run.seq ?_
      refine Run.seq ?_
      refine opsF oo90 fun K hK => ?_
      try simp
      repeat' first | ((refine evL_c ?_); simp [hm]) | (with_reducible refine And.intro ?_ ?_) | intro _ | (with_reducible assumption) | omega
      all_goals (refine Fin.go hK ?_; clear hK K)
      simp only [Then_normal]
      refine Run.cond rfl (fun h20 => ?_) (fun h20 => ?_)
      · try simp at h20
        have hi1 : i < m := by omega
        have hc := cnt_kid (t := t) (i := i) (by omega)
        have hT := IH i (by omega)
        rw [encT_cells] at hT
        have hr := rslT_len (rdI t.kids i)
        have hU := union_ok ac (rslT (rdI t.kids i)) (by omega)
        refine Run.skip ?_
        simp only [Then_normal]
        refine Run.seq ?_
        refine Run.block ?_
        refine opsF oo91 fun K hK => ?_
        try simp
        repeat' first | (first | refine ecallD (by exact hT) ?_ | refine ecallD (by exact hU) ?_) | ((refine evL_c ?_); simp [hm, hi1]) | (with_reducible refine And.intro ?_ ?_) | intro _ | (with_reducible assumption) | omega
        all_goals (refine Fin.go hK ?_; clear hK K)
        simp only [Blok_normal]
        simp only [Then_normal]
        refine opsF oo92 fun K hK => ?_
        try simp
        repeat' first | ((refine evL_c ?_); simp [hm, hi1]) | (with_reducible refine And.intro ?_ ?_) | intro _ | (with_reducible assumption) | omega
        all_goals (refine Fin.go hK ?_; clear hK K)
        refine ⟨(i + 1, unionS ac (rslT (rdI t.kids i))), ⟨by simp; omega, by rw [← hg, rslL_step (l := t.kids) (i := i) (by omega)], ?_⟩, by simp; omega, ?_⟩
        · have := union_len ac (rslT (rdI t.kids i))
          simp only
          rw [take_rd (by omega), cntL_app, cntL, cntL]; omega
        · simp (disch := omega) [hm, wrap_id]
      · try simp at h20
        rw [rslL_end (by omega)] at hg
        refine Run.exit ?_
        simp (decide := true) only [Then_exit, Blok_exit, if_true, if_false]
        simp only [Then_normal]
        refine Run.seq ?_
        refine opsF oo93 fun K hK => ?_
        try simp
        repeat' first | ((refine evL_c ?_); simp [hm]) | (with_reducible refine And.intro ?_ ?_) | intro _ | (with_reducible assumption) | omega
        all_goals (refine Fin.go hK ?_; clear hK K)
        simp only [Then_normal]
        refine Run.ret ?_
        try simp only [Then_ret, Blok_ret]
        simp [hg]
    · have ho : own1 t.op t.slot = [] := by rw [own1, if_neg (of_decide_eq_false h12)]
      refine Run.skip ?_
      simp only [Then_normal]
      refine Run.seq ?_
      refine Run.seq ?_
      first | refine Run.frz 3 1600 rfl (by simp) rfl ?_ | refine Run.sub 3 rfl DSub.nil ?_
      simp only [V.fgtL, V.fgt, fgtS, List.set]
      refine opsF oo5 fun K hK => ?_
      try simp
      repeat' first | ((refine evL_c ?_); simp [hm]) | (with_reducible refine And.intro ?_ ?_) | intro _ | (with_reducible assumption) | omega
      all_goals (refine Fin.go hK ?_; clear hK K)
      simp only [Then_normal]
      refine Run.block ?_
      refine Run.loopO [3, 4, 16, 17, 18, 19, 20, 21, 22, 23, 24, 25, 26, 27, 28, 29, 30] (fun (x : Nat × List Int) => [(4, .int x.1), (3, .d (.sl false (x.2.map encI)))]) (fun (x : Nat × List Int) => [(200, .vals ((encT t).map .d))]) (fun (x : Nat × List Int) => x.1 ≤ m ∧ rslL (t.kids.drop x.1) x.2 = rslT t ∧ x.2.length ≤ 1 + cntL (t.kids.take x.1)) (fun (x : Nat × List Int) => m - x.1) (0, own1 t.op t.slot) ⟨by omega, by rw [rslT_eq]; rfl, by have := own1_len t.op t.slot; simp [cntL]; omega⟩ (by simp [ho]) fun ⟨i, ac⟩ ⟨hi, hg, hl⟩ => ?_
      simp only at hi hg hl
      simp only [over, List.foldl, List.set]
      refine Run.seq ?_
      refine Run.seq ?_
      refine opsF oo90 fun K hK => ?_
      try simp
      repeat' first | ((refine evL_c ?_); simp [hm]) | (with_reducible refine And.intro ?_ ?_) | intro _ | (with_reducible assumption) | omega
      all_goals (refine Fin.go hK ?_; clear hK K)
      simp only [Then_normal]
      refine Run.cond rfl (fun h20 => ?_) (fun h20 => ?_)
      · try simp at h20
        have hi1 : i < m := by omega
        have hc := cnt_kid (t := t) (i := i) (by omega)
        have hT := IH i (by omega)
        rw [encT_cells] at hT
        have hr := rslT_len (rdI t.kids i)
        have hU := union_ok ac (rslT (rdI t.kids i)) (by omega)
        refine Run.skip ?_
        simp only [Then_normal]
        refine Run.seq ?_
        refine Run.block ?_
        refine opsF oo91 fun K hK => ?_
        try simp
        repeat' first | (first | refine ecallD (by exact hT) ?_ | refine ecallD (by exact hU) ?_) | ((refine evL_c ?_); simp [hm, hi1]) | (with_reducible refine And.intro ?_ ?_) | intro _ | (with_reducible assumption) | omega
        all_goals (refine Fin.go hK ?_; clear hK K)
        simp only [Blok_normal]
        simp only [Then_normal]
        refine opsF oo92 fun K hK => ?_
        try simp
        repeat' first | ((refine evL_c ?_); simp [hm, hi1]) | (with_reducible refine And.intro ?_ ?_) | intro _ | (with_reducible assumption) | omega
        all_goals (refine Fin.go hK ?_; clear hK K)
        refine ⟨(i + 1, unionS ac (rslT (rdI t.kids i))), ⟨by simp; omega, by rw [← hg, rslL_step (l := t.kids) (i := i) (by omega)], ?_⟩, by simp; omega, ?_⟩
        · have := union_len ac (rslT (rdI t.kids i))
          simp only
          rw [take_rd (by omega), cntL_app, cntL, cntL]; omega
        · simp (disch := omega) [hm, wrap_id]
      · try simp at h20
        rw [rslL_end (by omega)] at hg
        refine Run.exit ?_
        simp (decide := true) only [Then_exit, Blok_exit, if_true, if_false]
        simp only [Then_normal]
        refine Run.seq ?_
        refine opsF oo93 fun K hK => ?_
        try simp
        repeat' first | ((refine evL_c ?_); simp [hm]) | (with_reducible refine And.intro ?_ ?_) | intro _ | (with_reducible assumption) | omega
        all_goals (refine Fin.go hK ?_; clear hK K)
        simp only [Then_normal]
        refine Run.ret ?_
        try simp only [Then_ret, Blok_ret]
        simp [hg]


theorem rslots_ok (t : TermT) (ht : cntT t ≤ 1000000) : Snd P 56 [.d (.ag (encT t))] (.d (.sl false ((rslT t).map encI))) [] :=
  rslots1_ok t ht fun i hi =>
    have := kidT_lt (rdI_mem (l := t.kids) (i := i) (by omega) (by omega))
    rslots_ok (rdI t.kids i) (by have := cnt_kid hi; omega)
termination_by SizeOf.sizeOf t
end Go.Proofs.Ytihbejpkfifplaa.Z
end
section
set_option maxRecDepth 100000
namespace Go.Proofs.Ytihbejpkfifplaa.Z
open Go Go.Fw
def rbindsS (b : List Bool) (t : TermT) : Bool := !(rslT t).any (badS b)
set_option maxHeartbeats 4000000 in
theorem rbinds_ok (b : List Bool) (t : TermT) (ht : cntT t ≤ 1000000) : SndW P 30 [.rs 0 1 0 b.length, .d (.ag (encT t))] [(0, .data 1 (b.map encB))] (.bool (rbindsS b t)) [(0, .data 1 (b.map encB))] := by
  have hT := rslots_ok t ht
  rw [encT_cells] at hT
  have hlen := rslT_len t
  have hrb : rbindsS b t = !(rslT t).any (badS b) := rfl
  obtain ⟨l, hl⟩ : ∃ x, rslT t = x := ⟨_, rfl⟩
  rw [hl] at hT hlen hrb
  obtain ⟨m, hm⟩ : ∃ x, l.length = x := ⟨_, rfl⟩
  obtain ⟨n, hn⟩ : ∃ x, b.length = x := ⟨_, rfl⟩
  rw [hm] at hlen
  refine sndW_of [0] Try.func30 rfl (by kernel_rfl) Try.ntmps30 (by simp) (by simp) ?_
  unfold Try.f30
  simp only [List.cons_append, List.nil_append, List.length_cons, List.length_nil, Nat.reduceAdd, Nat.reduceSub, List.replicate]
  refine Run.seq ?_
  refine opsF [⟨Op.box 70 (Operand.tmp 1), some 3, none⟩, ⟨Op.assign (Operand.const (Value.bool false)), some 4, none⟩] fun K hK => ?_
  try simp
  repeat' first | ((refine evL_c ?_); simp [hm, hn]) | (with_reducible refine And.intro ?_ ?_) | intro _ | (with_reducible assumption) | omega
  all_goals (refine Fin.go hK ?_; clear hK K)
  simp only [Then_normal]
  refine Run.seq ?_
  refine opsF [⟨Op.load 70 (Operand.tmp 3), some 7, none⟩, ⟨Op.call { callee := Callee.value (Operand.func 56), args := #[Operand.tmp 7], argTypes := #[70] }, some 8, none⟩, ⟨Op.assign (Operand.tmp 8), some 5, none⟩] fun K hK => ?_
  try simp
  repeat' first | (refine ecallD (by exact hT) ?_) | ((refine evL_c ?_); simp [hm, hn]) | (with_reducible refine And.intro ?_ ?_) | intro _ | (with_reducible assumption) | omega
  all_goals (refine Fin.go hK ?_; clear hK K)
  simp only [Then_normal]
  refine Run.seq ?_
  refine Run.seq ?_
  refine opsF oo42 fun K hK => ?_
  try simp
  repeat' first | ((refine evL_c ?_); simp [hm, hn]) | (with_reducible refine And.intro ?_ ?_) | intro _ | (with_reducible assumption) | omega
  all_goals (refine Fin.go hK ?_; clear hK K)
  simp only [Then_normal]
  refine Run.block ?_
  refine Run.loopO [4, 6, 9, 10, 11, 12, 13, 14, 15, 16, 17, 18, 19, 20, 21, 22, 23, 24, 25, 26, 27, 28, 29, 30, 31, 32, 33, 34, 35, 36, 37, 38] (fun (i : Nat) => [(6, .int i)]) (fun (i : Nat) => [(0, .data 1 (b.map encB)), (400, .vals ((encT t).map .d))]) (fun (i : Nat) => i ≤ m ∧ ∀ j : Nat, j < i → badS b (rdI l j) = false) (fun (i : Nat) => m - i) 0 ⟨by omega, by omega⟩ (by simp) fun i ⟨hi, hz⟩ => ?_
  simp only [over, List.foldl, List.set]
  refine Run.seq ?_
  refine Run.seq ?_
  refine opsF [⟨Op.move (Operand.tmp 6), some 9, none⟩, ⟨Op.move (Operand.tmp 5), some 10, none⟩, ⟨Op.call { callee := Callee.builtin Builtin.len, args := #[Operand.tmp 10], argTypes := #[24] }, some 11, none⟩, ⟨Op.binOp BinOp.lss 3 (Operand.tmp 9) (Operand.tmp 11) 3, some 12, none⟩] fun K hK => ?_
  try simp
  repeat' first | ((refine evL_c ?_); simp [hm, hn]) | (with_reducible refine And.intro ?_ ?_) | intro _ | (with_reducible assumption) | omega
  all_goals (refine Fin.go hK ?_; clear hK K)
  simp only [Then_normal]
  refine Run.cond rfl (fun h12 => ?_) (fun h12 => ?_)
  · try simp at h12
    have hi1 : i < m := by omega
    have q1 : 0 ≤ rdI l i → rdI l i < (n : Int) → (rdI l i).toNat < n := by omega
    refine Run.skip ?_
    simp only [Then_normal]
    refine Run.seq ?_
    refine Run.block ?_
    refine Run.cut [15, 16, 17, 18, 19, 20, 21, 22, 23, 24, 25, 26, 27, 28, 29, 30, 31, 32, 33, 34, 35, 36, 37, 38] [(38, .bool (badS b (rdI l i)))] [(0, .data 1 (b.map encB)), (400, .vals ((encT t).map .d))] ?_ ?_
    · refine opsF [⟨Op.move (Operand.tmp 5), some 15, none⟩, ⟨Op.move (Operand.tmp 6), some 16, none⟩, ⟨Op.indexAddr 24 (Operand.tmp 15) (Operand.tmp 16), some 17, none⟩, ⟨Op.load 3 (Operand.tmp 17), some 18, none⟩, ⟨Op.binOp BinOp.lss 3 (Operand.tmp 18) (Operand.const (Value.int IntKind.i64 0)) 3, some 19, none⟩, ⟨Op.move (Operand.tmp 19), some 20, none⟩, ⟨Op.move (Operand.tmp 5), some 21, some (some 20, false)⟩, ⟨Op.move (Operand.tmp 6), some 22, some (some 20, false)⟩, ⟨Op.indexAddr 24 (Operand.tmp 21) (Operand.tmp 22), some 23, some (some 20, false)⟩, ⟨Op.load 3 (Operand.tmp 23), some 24, some (some 20, false)⟩, ⟨Op.move (Operand.tmp 0), some 25, some (some 20, false)⟩, ⟨Op.call { callee := Callee.builtin Builtin.len, args := #[Operand.tmp 25], argTypes := #[60] }, some 26, some (some 20, false)⟩, ⟨Op.binOp BinOp.geq 3 (Operand.tmp 24) (Operand.tmp 26) 3, some 27, some (some 20, false)⟩, ⟨Op.pick (Operand.tmp 20) (Operand.const (Value.bool true)) (Operand.tmp 27), some 28, none⟩, ⟨Op.move (Operand.tmp 28), some 29, none⟩, ⟨Op.move (Operand.tmp 0), some 30, some (some 29, false)⟩, ⟨Op.move (Operand.tmp 5), some 31, some (some 29, false)⟩, ⟨Op.move (Operand.tmp 6), some 32, some (some 29, false)⟩, ⟨Op.indexAddr 24 (Operand.tmp 31) (Operand.tmp 32), some 33, some (some 29, false)⟩, ⟨Op.load 3 (Operand.tmp 33), some 34, some (some 29, false)⟩, ⟨Op.indexAddr 60 (Operand.tmp 30) (Operand.tmp 34), some 35, some (some 29, false)⟩, ⟨Op.load 4 (Operand.tmp 35), some 36, some (some 29, false)⟩, ⟨Op.unOp UnOp.not 4 (Operand.tmp 36), some 37, some (some 29, false)⟩, ⟨Op.pick (Operand.tmp 29) (Operand.const (Value.bool true)) (Operand.tmp 37), some 38, none⟩] fun K hK => ?_
      try simp
      repeat' first | ((first | refine evL_c ?_ | (refine evL_g rfl ?_; try simp only [gs_tt, gs_ff, gs_tf, gs_ft]) | refine evL_u rfl ?_ | (with_reducible refine gsplit (fun hg => ?_) (fun hg => ?_) <;> try simp at hg)) <;> try simp [hm, hn, hi1, q1, *]) | (with_reducible refine And.intro ?_ ?_) | intro _ | (with_reducible assumption) | omega
      all_goals (refine Fin.go hK ?_; clear hK K)
      all_goals
        (try simp [badS, hn, hm]) <;> (first | omega | (simp; done) | (rw [Bool.eq_iff_iff]; simp only [Bool.or_eq_true, Bool.and_eq_true, Bool.not_eq_true', decide_eq_true_eq, decide_eq_false_iff_not]; omega) | grind)
    · simp only [over, List.foldl, List.set]
      refine Run.cond rfl (fun h38 => ?_) (fun h38 => ?_)
      · try simp at h38
        refine Run.seq ?_
        refine opsF oo11 fun K hK => ?_
        try simp
        repeat' first | ((refine evL_c ?_); simp [hm, hn, hi1, q1]) | (with_reducible refine And.intro ?_ ?_) | intro _ | (with_reducible assumption) | omega
        all_goals (refine Fin.go hK ?_; clear hK K)
        simp only [Then_normal]
        refine Run.ret ?_
        try simp only [Then_ret, Blok_ret]
        first
          | (have e : rbindsS b t = false := by
               rw [hrb, List.any_eq_true.2 ⟨_, rdI_mem (l := l) (i := i) (by omega) (by omega), h38⟩]; rfl
             simp [e, hn]; done)
          | (have e : rbindsS b t = true := by
               rw [hrb]
               have : l.any (badS b) = false := by
                 rw [List.any_eq_false]
                 intro x hx
                 obtain ⟨j, hj⟩ := List.getElem?_of_mem hx
                 have h1 := (List.getElem?_eq_some_iff.1 hj).1
                 have := hz j (by omega)
                 unfold rdI at this
                 rw [Int.toNat_natCast, List.getD_eq_getElem?_getD, hj] at this
                 simpa using this
               rw [this]; rfl
             simp [e, hn]; done)
      · try simp at h38
        refine Run.skip ?_
        simp only [Blok_normal]
        simp only [Then_normal]
        refine opsF [⟨Op.move (Operand.tmp 6), some 13, none⟩, ⟨Op.binOp BinOp.add 3 (Operand.tmp 13) (Operand.const (Value.int IntKind.i64 1)) 3, some 14, none⟩, ⟨Op.assign (Operand.tmp 14), some 6, none⟩] fun K hK => ?_
        try simp
        repeat' first | ((refine evL_c ?_); simp [hm, hn, hi1, q1]) | (with_reducible refine And.intro ?_ ?_) | intro _ | (with_reducible assumption) | omega
        all_goals (refine Fin.go hK ?_; clear hK K)
        refine ⟨i + 1, ⟨by omega, fun j hj => ?_⟩, by omega, ?_⟩
        · by_cases e : j = i
          · subst e; exact h38
          · exact hz j (by omega)
        · simp (disch := omega) [wrap_id]
  · try simp at h12
    refine Run.exit ?_
    simp (decide := true) only [Then_exit, Blok_exit, if_true, if_false]
    simp only [Then_normal]
    refine Run.seq ?_
    refine opsF oo65 fun K hK => ?_
    try simp
    repeat' first | ((refine evL_c ?_); simp [hm, hn]) | (with_reducible refine And.intro ?_ ?_) | intro _ | (with_reducible assumption) | omega
    all_goals (refine Fin.go hK ?_; clear hK K)
    simp only [Then_normal]
    refine Run.ret ?_
    try simp only [Then_ret, Blok_ret]
    first
      | (have e : rbindsS b t = false := by
           rw [hrb, List.any_eq_true.2 ⟨_, rdI_mem (l := l) (i := i) (by omega) (by omega), h38⟩]; rfl
         simp [e, hn]; done)
      | (have e : rbindsS b t = true := by
           rw [hrb]
           have : l.any (badS b) = false := by
             rw [List.any_eq_false]
             intro x hx
             obtain ⟨j, hj⟩ := List.getElem?_of_mem hx
             have h1 := (List.getElem?_eq_some_iff.1 hj).1
             have := hz j (by omega)
             unfold rdI at this
             rw [Int.toNat_natCast, List.getD_eq_getElem?_getD, hj] at this
             simpa using this
           rw [this]; rfl
         simp [e, hn]; done)


end Go.Proofs.Ytihbejpkfifplaa.Z
end
section
namespace Go.Proofs.Ytihbejpkfifplaa.Z
open Go Go.Fw
theorem mem_compact {l : List Int} : ∀ (j : Nat) (hj : j < l.length), l[j] ∈ Go.Lib.compact l := by
  intro j
  induction j using Nat.strongRecOn with
  | _ j ih =>
  intro hj
  by_cases hk : Go.Lib.keeps l.toArray j = true
  · unfold Go.Lib.compact Go.Lib.compactUpTo
    exact List.mem_map.2 ⟨j, List.mem_filter.2 ⟨by simpa using hj, hk⟩, by simp [hj]⟩
  · have h : ¬ (j = 0 ∨ l.toArray[j]! ≠ l.toArray[j - 1]!) := by simpa [Go.Lib.keeps] using hk
    have h0 : j ≠ 0 := fun e => h (.inl e)
    have h1 : l.toArray[j]! = l.toArray[j - 1]! := by
      by_cases e : l.toArray[j]! = l.toArray[j - 1]!
      · exact e
      · exact absurd (.inr e) h
    have h2 := ih (j - 1) (by omega) (by omega)
    have h3 : l[j] = l[j - 1] := by
      have a1 : l.toArray[j]! = l[j] := by simp [hj]
      have a2 : l.toArray[j - 1]! = l[j - 1] := by simp [show j - 1 < l.length by omega]
      rw [← a1, h1, a2]
    rw [h3]; exact h2
theorem compact_iff {l : List Int} {x : Int} : x ∈ Go.Lib.compact l ↔ x ∈ l := ⟨compact_mem, fun h => by
  obtain ⟨j, hj⟩ := List.getElem?_of_mem h
  obtain ⟨h1, rfl⟩ := List.getElem?_eq_some_iff.1 hj
  exact mem_compact j h1⟩
mutual
theorem rsl_mem (x : Int) : ∀ t : TermT, x ∈ rslT t ↔ x ∈ slotsT t
  | .mk op k sl nm v => by
    rw [slotsT_eq, compact_iff, List.mem_mergeSort, List.mem_append, rslT, rslL_mem x k (own1 op sl)]
    exact Iff.rfl
theorem rslL_mem (x : Int) : ∀ (l : List TermT) (acc : List Int), x ∈ rslL l acc ↔ x ∈ acc ∨ x ∈ slotsL l
  | [], acc => by simp [rslL, slotsL]
  | t :: r, acc => by
    rw [rslL, slotsL, rslL_mem x r, union_mem, rsl_mem x t, List.mem_append, or_assoc]
end
theorem rbinds_eq (b : List Bool) (t : TermT) : rbindsS b t = bindsS b t := by
  have h : (rslT t).any (badS b) = (slotsT t).any (badS b) := by
    rw [Bool.eq_iff_iff, List.any_eq_true, List.any_eq_true]
    exact ⟨fun ⟨x, h1, h2⟩ => ⟨x, (rsl_mem x t).1 h1, h2⟩, fun ⟨x, h1, h2⟩ => ⟨x, (rsl_mem x t).2 h1, h2⟩⟩
  rw [rbindsS, bindsS, h]
end Go.Proofs.Ytihbejpkfifplaa.Z
end
section
namespace Go.Proofs.Ytihbejpkfifplaa.Z
open Go Go.Fw
theorem rdI_some {b : List Bool} {x : Int} (h : rdI b x = true) : b[x.toNat]? = some true := by
  unfold rdI at h
  rw [List.getD_eq_getElem?_getD] at h
  cases e : b[x.toNat]? with
  | none => rw [e] at h; simp at h
  | some v => rw [e] at h; simpa using h
theorem set_true {b : List Bool} {i : Nat} (h : b[i]? = some true) : b.set i true = b := by
  obtain ⟨h1, h2⟩ := List.getElem?_eq_some_iff.1 h
  apply List.ext_getElem (by simp)
  intro j h3 h4
  rw [List.getElem_set]
  split
  · rename_i e; subst e; exact h2.symm
  · rfl
theorem set_keep {b : List Bool} {i j : Nat} (h : b[i]? = some true) : (b.set j true)[i]? = some true := by
  obtain ⟨h1, h2⟩ := List.getElem?_eq_some_iff.1 h
  rw [List.getElem?_set]
  split
  · rename_i e; subst e; simp [h1]
  · exact h
theorem set_swap (b : List Bool) (i j : Nat) : (b.set i true).set j true = (b.set j true).set i true := by
  by_cases e : i = j
  · subst e; rfl
  · exact List.set_comm _ _ e
theorem edgeL3 {c : CoreT} {p : PlanT} {b : List Bool} (h : edgeB c p b = true) :
    ((b.set (c.nodes.length + rdI p.edges 0).toNat true).set (rdI c.edges (rdI p.edges 0)).src.toNat true).set (rdI c.edges (rdI p.edges 0)).dst.toNat true = edgeL c p b := by
  have hb : badEdge c p b = false := by
    rw [edgeB, Bool.and_eq_true] at h; simpa using h.2
  have hf : rdI b (if p.back then (rdI c.edges (rdI p.edges 0)).dst else (rdI c.edges (rdI p.edges 0)).src) = true := by
    rw [badEdge, Bool.or_eq_false_iff, Bool.or_eq_false_iff] at hb; simpa using hb.1.2
  rw [edgeL, if_pos h]
  have hs := rdI_some hf
  cases hk : p.back with
  | true =>
    rw [hk] at hs
    simp only [if_true] at hs ⊢
    exact set_true (set_keep (set_keep hs))
  | false =>
    rw [hk] at hs
    simp only [Bool.false_eq_true, if_false] at hs ⊢
    rw [set_true (set_keep hs)]
theorem setE_swap (c : CoreT) (l : List Int) (b : List Bool) (s i : Nat) : setE c l (b.set s true) i = (setE c l b i).set s true := by
  induction i with
  | zero => rfl
  | succ i ih => rw [setE, setE, ih, set_swap]
theorem meetR_eq {c : CoreT} {p : PlanT} {b : List Bool} (hb : b.length = c.nodes.length + c.edges.length) (hE : GoodE c) (h : meetB c p b = true) : meetR c p b = setE c p.edges (b.set p.slot.toNat true) p.edges.length ∧ 0 ≤ p.slot ∧ p.slot < c.nodes.length ∧ ∀ j : Nat, j < p.edges.length → 0 ≤ rdI p.edges j ∧ rdI p.edges j < c.edges.length := by
  have h1 : badSlot c p b = false ∧ (meetL c p.slot p.edges b).1 = true := by
    rw [meetB, Bool.and_eq_true] at h; exact ⟨by simpa using h.1, h.2⟩
  have hz : ∀ j : Nat, j < p.edges.length → badD c p.slot p.edges b j = false := by
    intro j
    induction j using Nat.strongRecOn with
    | _ j ih =>
    intro hj
    cases e : badD c p.slot p.edges b j with
    | false => rfl
    | true =>
      have := meetL_no hb hE hj (fun i hi => ih i hi (by omega)) e
      rw [this] at h1; cases h1.2
  have h2 := meetL_yes hb hE hz
  refine ⟨?_, ?_⟩
  · rw [meetR, if_neg (by simp [h1.1]), if_pos h1.2, h2, setE_swap]
  · have hs := h1.1
    simp only [badSlot, Bool.or_eq_false_iff, decide_eq_false_iff_not] at hs
    exact ⟨by omega, by omega, fun j hj => in_rng (hz j hj)⟩
/-- a Join's slots, one by one -/
theorem jn_rd (n : Int) (a b : List Bool) : ∀ (i : Nat), i ≤ b.length → ∀ j : Nat, (jn n a b i).2[j]? = if j < i then some (rdI b j || rdI a j) else b[j]? := by
  intro i
  induction i with
  | zero => intro _ j; simp [jn]
  | succ i ih =>
    intro hi j
    have h1 := ih (by omega)
    have h2 : rdI (jn n a b i).2 i = rdI b i := by
      unfold rdI
      rw [List.getD_eq_getElem?_getD, List.getD_eq_getElem?_getD]
      have := h1 i
      rw [if_neg (by omega)] at this
      simp only [Int.toNat_natCast]
      rw [this]
    rw [jn]
    simp only []
    rw [List.getElem?_set, h2]
    by_cases e : i = j
    · subst e
      have hl := jn_len n a b i
      rw [if_pos rfl, if_pos (by omega), if_pos (by omega)]
    · rw [if_neg e, h1 j]
      by_cases q : j < i
      · rw [if_pos q, if_pos (by omega)]
      · rw [if_neg q, if_neg (by omega)]
theorem jn_now {n : Int} {a b : List Bool} {i : Nat} (hi : i < b.length) : rdI (jn n a b i).2 i = rdI b i := by
  unfold rdI
  rw [List.getD_eq_getElem?_getD, List.getD_eq_getElem?_getD]
  have := jn_rd n a b i (by omega) i
  rw [if_neg (by omega)] at this
  simp only [Int.toNat_natCast]
  rw [this]
theorem jn_all (n : Int) (a b : List Bool) : ∀ (i : Nat), i ≤ b.length → (jn n a b i).1 = (List.range i).all fun j => !(rdI a j && (rdI b j && decide (n ≤ j))) := by
  intro i
  induction i with
  | zero => intro _; rfl
  | succ i ih =>
    intro hi
    rw [jn]
    simp only []
    rw [ih (by omega), jn_now (by omega), List.range_succ, List.all_append]
    simp
theorem jn_swap (n : Int) (a b : List Bool) (w : Nat) (ha : a.length = w) (hb : b.length = w) : jn n a b w = jn n b a w := by
  have h1 : (jn n a b w).1 = (jn n b a w).1 := by
    rw [jn_all n a b w (by omega), jn_all n b a w (by omega)]
    congr 1; funext j
    cases rdI a j <;> cases rdI b j <;> simp
  have h2 : (jn n a b w).2 = (jn n b a w).2 := by
    apply List.ext_getElem?
    intro j
    rw [jn_rd n a b w (by omega), jn_rd n b a w (by omega)]
    by_cases q : j < w
    · rw [if_pos q, if_pos q, Bool.or_comm]
    · rw [if_neg q, if_neg q, List.getElem?_eq_none (by omega), List.getElem?_eq_none (by omega)]
  exact Prod.ext h1 h2
theorem jn_false {n : Int} {a b : List Bool} {i w : Nat} (hw : i ≤ w) (h : (jn n a b i).1 = false) : (jn n a b w).1 = false := by
  induction w with
  | zero => have : i = 0 := by omega
            subst this; exact h
  | succ w ih =>
    by_cases e : i = w + 1
    · subst e; exact h
    · rw [jn]; simp only []; rw [ih (by omega)]; rfl
end Go.Proofs.Ytihbejpkfifplaa.Z
end
section
set_option maxRecDepth 100000
namespace Go.Proofs.Ytihbejpkfifplaa.Z
open Go Go.Fw
theorem edge_rng {c : CoreT} {p : PlanT} {b : List Bool} (h : edgeB c p b = true) : 0 ≤ rdI p.edges 0 ∧ rdI p.edges 0 < c.edges.length := by
  rw [edgeB, Bool.and_eq_true] at h
  have := h.1
  simp at this
  omega
set_option maxHeartbeats 4000000 in
theorem rbound23_ok (c : CoreT) (p : PlanT) (hP : patS c.nodes c.edges = true) (hop : p.op = 2 ∨ p.op = 3) (hkl : p.kids.length = 1) (IH : Snd P 38 [.d (.ag (encP (rdI p.kids 0))), .d (.ag (encC c))] (resB (bndT c (rdI p.kids 0))) (stoB (bndT c (rdI p.kids 0)))) (b0 : List Bool) (hq : bndT c (rdI p.kids 0) = some b0) (hb0 : b0.length = c.nodes.length + c.edges.length) : Snd P 38 [.d (.ag (encP p)), .d (.ag (encC c))] (resB (opS c p [b0])) (stoB (opS c p [b0])) := by
  obtain ⟨hn1, hn8, hk8⟩ := pat_rng hP
  have hE := goodE_of hP
  obtain ⟨n, hn⟩ : ∃ k, c.nodes.length = k := ⟨_, rfl⟩
  obtain ⟨k, hk⟩ : ∃ k, c.edges.length = k := ⟨_, rfl⟩
  rw [hn] at hn1 hn8
  rw [hk] at hk8
  have hwd : ((n:Int) + k).toNat = n + k := by omega
  have hw : IntKind.i64.wrap ((n:Int) + k) = (n:Int) + k := wrap_id (by omega) (by omega)
  have hw1 : 0 < n + k := by omega
  have hw2 : (n:Int) + k ≤ 140737488355328 := by omega
  have hw3 : (0:Int) ≤ (n:Int) + k := by omega
  have hb0n : b0.length = n + k := by rw [hb0, hn, hk]
  simp only [hq, resB, stoB, encP_cells, hn, hb0n] at IH
  have ho1 : ¬ p.op = 1 := by omega
  have ho4 : ¬ p.op = 4 := by omega
  obtain ⟨e0, he0⟩ : ∃ x, (if edgeB c p b0 = true then rdI p.edges 0 else -1) = x := ⟨_, rfl⟩
  refine snd_of [6900] Try.func38 rfl (by kernel_rfl) Try.ntmps38 (by simp) ?_
  unfold Try.f38
  simp only [List.cons_append, List.nil_append, List.length_cons, List.length_nil, Nat.reduceAdd, Nat.reduceSub, List.replicate]
  refine Run.seq ?_
  refine opsF oo94 fun K hK => ?_
  try simp
  repeat' first | ((refine evL_c ?_); simp [-List.map_set, hn, hk, hkl, hw, hwd, hw1, hw2, hw3, ho1, ho4]) | (with_reducible refine And.intro ?_ ?_) | intro _ | (with_reducible assumption) | omega
  all_goals (refine Fin.go hK ?_; clear hK K)
  simp only [Then_normal]
  refine Run.seq ?_
  refine opsF oo95 fun K hK => ?_
  try simp
  repeat' first | ((refine evL_c ?_); simp [-List.map_set, hn, hk, hkl, hw, hwd, hw1, hw2, hw3, ho1, ho4]) | (with_reducible refine And.intro ?_ ?_) | intro _ | (with_reducible assumption) | omega
  all_goals (refine Fin.go hK ?_; clear hK K)
  simp only [Then_normal]
  refine Run.seq ?_
  refine opsF oo96 fun K hK => ?_
  try simp
  repeat' first | ((refine evL_c ?_); simp [-List.map_set, hn, hk, hkl, hw, hwd, hw1, hw2, hw3, ho1, ho4]) | (with_reducible refine And.intro ?_ ?_) | intro _ | (with_reducible assumption) | omega
  all_goals (refine Fin.go hK ?_; clear hK K)
  simp only [Then_normal]
  refine Run.seq ?_
  refine Run.seq ?_
  refine opsF oo97 fun K hK => ?_
  try simp
  repeat' first | ((refine evL_c ?_); simp [-List.map_set, hn, hk, hkl, hw, hwd, hw1, hw2, hw3, ho1, ho4]) | (with_reducible refine And.intro ?_ ?_) | intro _ | (with_reducible assumption) | omega
  all_goals (refine Fin.go hK ?_; clear hK K)
  simp only [Then_normal]
  refine Run.block ?_
  refine Run.seq ?_
  refine opsF oo98 fun K hK => ?_
  try simp
  repeat' first | ((refine evL_c ?_); simp [-List.map_set, hn, hk, hkl, hw, hwd, hw1, hw2, hw3, ho1, ho4]) | (with_reducible refine And.intro ?_ ?_) | intro _ | (with_reducible assumption) | omega
  all_goals (refine Fin.go hK ?_; clear hK K)
  simp only [Then_normal]
  refine Run.cond rfl (fun h24 => ?_) (fun h24 => ?_)
  · simp at h24
  · skip
    refine Run.seq ?_
    refine opsF oo99 fun K hK => ?_
    try simp
    repeat' first | ((refine evL_c ?_); simp [-List.map_set, hn, hk, hkl, hw, hwd, hw1, hw2, hw3, ho1, ho4]) | (with_reducible refine And.intro ?_ ?_) | intro _ | (with_reducible assumption) | omega
    all_goals (refine Fin.go hK ?_; clear hK K)
    simp only [Then_normal]
    refine Run.cond rfl (fun h26 => ?_) (fun h26 => ?_)
    · simp at h26
    · skip
      refine Run.skip ?_
      simp only [Blok_normal]
      simp only [Then_normal]
      refine Run.seq ?_
      refine Run.cut [28, 29, 30, 31, 32, 33, 34, 35, 36, 37, 38, 39, 40, 41, 42] [(42, .bool false)] [(300, .vals ((encP p).map .d)), (400, .vals ((encC c).map .d))] ?_ ?_
      · refine opsF oo100 fun K hK => ?_
        try simp
        repeat' first | ((first | refine evL_c ?_ | (refine evL_g rfl ?_; try simp only [gs_tt, gs_ff, gs_tf, gs_ft]) | refine evL_u rfl ?_ | (with_reducible refine gsplit (fun hg => ?_) (fun hg => ?_) <;> try simp at hg)) <;> try simp [-List.map_set, hn, hk, hkl, hw, hwd, hw1, hw2, hw3, ho1, ho4]) | (with_reducible refine And.intro ?_ ?_) | intro _ | (with_reducible assumption) | omega
        all_goals (refine Fin.go hK ?_; clear hK K)
        all_goals
          (try simp [-List.map_set, hn, hk, hkl, hw, hwd, hw1, hw2, hw3, ho1, ho4]) <;> (first | omega | (simp; done) | (rw [Bool.eq_iff_iff]; simp only [Bool.or_eq_true, Bool.and_eq_true, Bool.not_eq_true', decide_eq_true_eq, decide_eq_false_iff_not]; omega) | (clear hE; grind) | (simp_all; done) | (simp_all; omega))
      · simp only [over, List.foldl, List.set]
        refine Run.cond rfl (fun h42 => ?_) (fun h42 => ?_)
        · simp at h42
        · skip
          refine Run.skip ?_
          simp only [Then_normal]
          refine Run.seq ?_
          refine Run.seq ?_
          refine opsF oo101 fun K hK => ?_
          try simp
          repeat' first | ((refine evL_c ?_); simp [-List.map_set, hn, hk, hkl, hw, hwd, hw1, hw2, hw3, ho1, ho4]) | (with_reducible refine And.intro ?_ ?_) | intro _ | (with_reducible assumption) | omega
          all_goals (refine Fin.go hK ?_; clear hK K)
          simp only [Then_normal]
          refine Run.cond rfl (fun h44 => ?_) (fun h44 => ?_)
          · simp at h44
          · skip
            refine Run.skip ?_
            simp only [Then_normal]
            refine Run.seq ?_
            refine opsF oo102 fun K hK => ?_
            try simp
            repeat' first | (refine ecall (by have h := IH; exact h) rfl ?_) | ((refine evL_c ?_); simp [-List.map_set, hn, hk, hkl, hw, hwd, hw1, hw2, hw3, ho1, ho4]) | (with_reducible refine And.intro ?_ ?_) | intro _ | (with_reducible assumption) | omega
            all_goals (refine Fin.go hK ?_; clear hK K)
            simp only [Then_normal]
            refine Run.seq ?_
            refine Run.seq ?_
            refine opsF oo103 fun K hK => ?_
            try simp
            repeat' first | ((refine evL_c ?_); simp [-List.map_set, hn, hk, hkl, hw, hwd, hw1, hw2, hw3, ho1, ho4]) | (with_reducible refine And.intro ?_ ?_) | intro _ | (with_reducible assumption) | omega
            all_goals (refine Fin.go hK ?_; clear hK K)
            simp only [Then_normal]
            refine Run.cond rfl (fun h70 => ?_) (fun h70 => ?_)
            · simp at h70
            · skip
              refine Run.skip ?_
              simp only [Then_normal]
              refine Run.seq ?_
              refine Run.cut [71, 72] [(72, .int p.op)] [(300, .vals ((encP p).map .d)), (400, .vals ((encC c).map .d)), (6900, .data 1 (b0.map encB))] ?_ ?_
              · refine opsF oo104 fun K hK => ?_
                try simp
                repeat' first | ((refine evL_c ?_); simp [-List.map_set, hn, hk, hkl, hw, hwd, hw1, hw2, hw3, ho1, ho4]) | (with_reducible refine And.intro ?_ ?_) | intro _ | (with_reducible assumption) | omega
                all_goals (refine Fin.go hK ?_; clear hK K)
                simp [-List.map_set, hn, hk, hkl, hw, hwd, hw1, hw2, hw3, ho1, ho4, hb0n]
              · simp only [over, List.foldl, List.set]
                refine Run.block ?_
                refine Run.cut [73, 74, 75] [(73, .bool true)] [(300, .vals ((encP p).map .d)), (400, .vals ((encC c).map .d)), (6900, .data 1 (b0.map encB))] ?_ ?_
                · refine Run.seq ?_
                  refine opsF oo105 fun K hK => ?_
                  try simp
                  repeat' first | ((refine evL_c ?_); simp [-List.map_set, hn, hk, hkl, hw, hwd, hw1, hw2, hw3, ho1, ho4]) | (with_reducible refine And.intro ?_ ?_) | intro _ | (with_reducible assumption) | omega
                  all_goals (refine Fin.go hK ?_; clear hK K)
                  simp only [Then_normal]
                  refine Run.cond rfl (fun h73 => ?_) (fun h73 => ?_)
                  · try simp at h73
                    refine Run.skip ?_
                    (try simp [hb0n, h73, -List.map_set, hn, hk, hkl, hw, hwd, hw1, hw2, hw3, ho1, ho4]) <;> (try (simp at h73)) <;> (first | omega | (simp; done) | (rw [Bool.eq_iff_iff]; simp only [Bool.or_eq_true, Bool.and_eq_true, Bool.not_eq_true', decide_eq_true_eq, decide_eq_false_iff_not]; omega) | (clear hE; grind) | (simp_all; done) | (simp_all; omega))
                  · try simp at h73
                    refine opsF oo106 fun K hK => ?_
                    try simp
                    repeat' first | ((refine evL_c ?_); simp [-List.map_set, hn, hk, hkl, hw, hwd, hw1, hw2, hw3, ho1, ho4]) | (with_reducible refine And.intro ?_ ?_) | intro _ | (with_reducible assumption) | omega
                    all_goals (refine Fin.go hK ?_; clear hK K)
                    (try simp [hb0n, h73, -List.map_set, hn, hk, hkl, hw, hwd, hw1, hw2, hw3, ho1, ho4]) <;> (try (simp at h73)) <;> (first | omega | (simp; done) | (rw [Bool.eq_iff_iff]; simp only [Bool.or_eq_true, Bool.and_eq_true, Bool.not_eq_true', decide_eq_true_eq, decide_eq_false_iff_not]; omega) | (clear hE; grind) | (simp_all; done) | (simp_all; omega))
                · simp only [over, List.foldl, List.set]
                  refine Run.cond rfl (fun h73 => ?_) (fun h73 => ?_)
                  · skip
                    refine Run.seq ?_
                    refine opsT [⟨Op.load 27 (Operand.tmp 2), some 76, none⟩, ⟨Op.load 33 (Operand.tmp 3), some 77, none⟩, ⟨Op.move (Operand.tmp 8), some 78, none⟩, ⟨Op.call { callee := Callee.value (Operand.func 78), args := #[Operand.tmp 76, Operand.tmp 77, Operand.tmp 78], argTypes := #[27, 33, 60] }, some 79, none⟩, ⟨Op.assign (Operand.tmp 79), some 9, none⟩] fun K hK => ?_
                    try simp
                    repeat' first | (refine ecallW [6900] (by have h := one_ok c p b0 hb0 hE; simp only [encP_cells, hb0n, hn, he0] at h; exact h) (by simp) (by simp) (by simp) ?_) | ((refine evL_c ?_); simp [-List.map_set, hn, hk, hkl, hw, hwd, hw1, hw2, hw3, ho1, ho4]) | (with_reducible refine And.intro ?_ ?_) | intro _ | (with_reducible assumption) | omega
                    all_goals (refine Fin.go hK ?_; clear hK K)
                    simp only [Then_normal]
                    refine Run.seq ?_
                    refine Run.seq ?_
                    refine opsF [⟨Op.move (Operand.tmp 9), some 80, none⟩, ⟨Op.binOp BinOp.lss 3 (Operand.tmp 80) (Operand.const (Value.int IntKind.i64 0)) 3, some 81, none⟩] fun K hK => ?_
                    try simp
                    repeat' first | ((refine evL_c ?_); simp [-List.map_set, hn, hk, hkl, hw, hwd, hw1, hw2, hw3, ho1, ho4]) | (with_reducible refine And.intro ?_ ?_) | intro _ | (with_reducible assumption) | omega
                    all_goals (refine Fin.go hK ?_; clear hK K)
                    simp only [Then_normal]
                    refine Run.cond rfl (fun h81 => ?_) (fun h81 => ?_)
                    · try simp at h81
                      have hB : edgeB c p b0 = false := by
                        cases q : edgeB c p b0 with
                        | false => rfl
                        | true =>
                          rw [q, if_pos rfl] at he0
                          have := (edge_rng q).1
                          omega
                      refine Run.seq ?_
                      refine opsF oo31 fun K hK => ?_
                      try simp
                      repeat' first | ((refine evL_c ?_); simp [-List.map_set, hn, hk, hkl, hw, hwd, hw1, hw2, hw3, ho1, ho4, hb0n]) | (with_reducible refine And.intro ?_ ?_) | intro _ | (with_reducible assumption) | omega
                      all_goals (refine Fin.go hK ?_; clear hK K)
                      simp only [Then_normal]
                      refine Run.drop [] (by simp) ?_
                      refine Run.ret ?_
                      try simp only [Then_ret, Blok_ret]
                      first
                        | (have e : opS c p [b0] = none := by simp [opS, ho1, hop, hB]
                           rw [e]
                           simp [resB, stoB, hn]; done)
                        | (have e : opS c p [b0] = some (edgeL c p b0) := by simp [opS, ho1, hop, hB]
                           rw [e]
                           simp [-List.map_set, resB, stoB, hn, hb0n, edgeL_len, hl3]; done)
                    · try simp at h81
                      have hB : edgeB c p b0 = true := by
                        cases q : edgeB c p b0 with
                        | true => rfl
                        | false => rw [q] at he0; simp at he0; omega
                      rw [if_pos hB] at he0
                      have hl3 := edgeL3 hB
                      obtain ⟨q1, q2⟩ := edge_rng hB
                      have hG := hE (rdI c.edges (rdI p.edges 0)) (rdI_mem q1 q2)
                      rw [hn] at hG hl3
                      rw [hk] at q2
                      rw [he0] at q1 q2 hG hl3
                      have r1 : 0 ≤ e0 := q1
                      have r2 : e0 < k := q2
                      have r3 : IntKind.i64.wrap ((n:Int) + e0) = (n:Int) + e0 := wrap_id (by omega) (by omega)
                      have r4 : 0 ≤ (n:Int) + e0 := by omega
                      have r5 : (n:Int) + e0 < n + k := by omega
                      have r6 : ((n:Int) + e0).toNat < n + k := by omega
                      have r7 : 0 ≤ (rdI c.edges e0).src := by omega
                      have r8 : (rdI c.edges e0).src < (n:Int) + k := by omega
                      have r9 : (rdI c.edges e0).src.toNat < n + k := by omega
                      have ra : 0 ≤ (rdI c.edges e0).dst := by omega
                      have rb : (rdI c.edges e0).dst < (n:Int) + k := by omega
                      have rc : (rdI c.edges e0).dst.toNat < n + k := by omega
                      have rd : e0.toNat < k := by omega
                      clear hG
                      refine Run.skip ?_
                      simp only [Then_normal]
                      refine Run.cut [82, 83, 84, 85, 86, 87, 88] [] [(300, .vals ((encP p).map .d)), (400, .vals ((encC c).map .d)), (6900, .data 1 ((b0.set ((n:Int) + e0).toNat true).map encB))] ?_ ?_
                      · refine opsF [⟨Op.move (Operand.tmp 8), some 82, none⟩, ⟨Op.fieldAddr 33 (Operand.tmp 3) 0, some 83, none⟩, ⟨Op.load 28 (Operand.tmp 83), some 84, none⟩, ⟨Op.call { callee := Callee.builtin Builtin.len, args := #[Operand.tmp 84], argTypes := #[28] }, some 85, none⟩, ⟨Op.move (Operand.tmp 9), some 86, none⟩, ⟨Op.binOp BinOp.add 3 (Operand.tmp 85) (Operand.tmp 86) 3, some 87, none⟩, ⟨Op.indexAddr 60 (Operand.tmp 82) (Operand.tmp 87), some 88, none⟩, ⟨Op.store 4 (Operand.tmp 88) (Operand.const (Value.bool true)), none, none⟩] fun K hK => ?_
                        try simp
                        repeat' first | ((refine evL_c ?_); simp [-List.map_set, hn, hk, hkl, hw, hwd, hw1, hw2, hw3, ho1, ho4, hb0n, r1, r2, r3, r4, r5, r6, r7, r8, r9, ra, rb, rc, rd]) | (with_reducible refine And.intro ?_ ?_) | intro _ | (with_reducible assumption) | omega
                        all_goals (refine Fin.go hK ?_; clear hK K)
                        (try simp [-List.map_set, hn, hk, hkl, hw, hwd, hw1, hw2, hw3, ho1, ho4, hb0n, r1, r2, r3, r4, r5, r6, r7, r8, r9, ra, rb, rc, rd]) <;> (first | omega | (simp; done) | (rw [Bool.eq_iff_iff]; simp only [Bool.or_eq_true, Bool.and_eq_true, Bool.not_eq_true', decide_eq_true_eq, decide_eq_false_iff_not]; omega) | (clear hE; grind) | (simp_all; done) | (simp_all; omega))
                      · simp only [over, List.foldl, List.set]
                        refine Run.cut [89, 90, 91, 92, 93, 94, 95, 96] [] [(300, .vals ((encP p).map .d)), (400, .vals ((encC c).map .d)), (6900, .data 1 (((b0.set ((n:Int) + e0).toNat true).set (rdI c.edges e0).src.toNat true).map encB))] ?_ ?_
                        · refine opsF [⟨Op.move (Operand.tmp 8), some 89, none⟩, ⟨Op.fieldAddr 33 (Operand.tmp 3) 1, some 90, none⟩, ⟨Op.load 29 (Operand.tmp 90), some 91, none⟩, ⟨Op.move (Operand.tmp 9), some 92, none⟩, ⟨Op.indexAddr 29 (Operand.tmp 91) (Operand.tmp 92), some 93, none⟩, ⟨Op.fieldAddr 105 (Operand.tmp 93) 2, some 94, none⟩, ⟨Op.load 3 (Operand.tmp 94), some 95, none⟩, ⟨Op.indexAddr 60 (Operand.tmp 89) (Operand.tmp 95), some 96, none⟩, ⟨Op.store 4 (Operand.tmp 96) (Operand.const (Value.bool true)), none, none⟩] fun K hK => ?_
                          try simp
                          repeat' first | ((refine evL_c ?_); simp [-List.map_set, hn, hk, hkl, hw, hwd, hw1, hw2, hw3, ho1, ho4, hb0n, r1, r2, r3, r4, r5, r6, r7, r8, r9, ra, rb, rc, rd]) | (with_reducible refine And.intro ?_ ?_) | intro _ | (with_reducible assumption) | omega
                          all_goals (refine Fin.go hK ?_; clear hK K)
                          (try simp [-List.map_set, hn, hk, hkl, hw, hwd, hw1, hw2, hw3, ho1, ho4, hb0n, r1, r2, r3, r4, r5, r6, r7, r8, r9, ra, rb, rc, rd]) <;> (first | omega | (simp; done) | (rw [Bool.eq_iff_iff]; simp only [Bool.or_eq_true, Bool.and_eq_true, Bool.not_eq_true', decide_eq_true_eq, decide_eq_false_iff_not]; omega) | (clear hE; grind) | (simp_all; done) | (simp_all; omega))
                        · simp only [over, List.foldl, List.set]
                          refine opsF [⟨Op.move (Operand.tmp 8), some 97, none⟩, ⟨Op.fieldAddr 33 (Operand.tmp 3) 1, some 98, none⟩, ⟨Op.load 29 (Operand.tmp 98), some 99, none⟩, ⟨Op.move (Operand.tmp 9), some 100, none⟩, ⟨Op.indexAddr 29 (Operand.tmp 99) (Operand.tmp 100), some 101, none⟩, ⟨Op.fieldAddr 105 (Operand.tmp 101) 3, some 102, none⟩, ⟨Op.load 3 (Operand.tmp 102), some 103, none⟩, ⟨Op.indexAddr 60 (Operand.tmp 97) (Operand.tmp 103), some 104, none⟩, ⟨Op.store 4 (Operand.tmp 104) (Operand.const (Value.bool true)), none, none⟩] fun K hK => ?_
                          try simp
                          repeat' first | ((refine evL_c ?_); simp [-List.map_set, hn, hk, hkl, hw, hwd, hw1, hw2, hw3, ho1, ho4, hb0n, r1, r2, r3, r4, r5, r6, r7, r8, r9, ra, rb, rc, rd]) | (with_reducible refine And.intro ?_ ?_) | intro _ | (with_reducible assumption) | omega
                          all_goals (refine Fin.go hK ?_; clear hK K)
                          simp only [Blok_normal]
                          simp only [Then_normal]
                          refine Run.seq ?_
                          refine opsF oo107 fun K hK => ?_
                          try simp
                          repeat' first | ((refine evL_c ?_); simp [-List.map_set, hn, hk, hkl, hw, hwd, hw1, hw2, hw3, ho1, ho4, hb0n, r1, r2, r3, r4, r5, r6, r7, r8, r9, ra, rb, rc, rd]) | (with_reducible refine And.intro ?_ ?_) | intro _ | (with_reducible assumption) | omega
                          all_goals (refine Fin.go hK ?_; clear hK K)
                          simp only [Then_normal]
                          refine Run.ret ?_
                          try simp only [Then_ret, Blok_ret]
                          first
                            | (have e : opS c p [b0] = none := by simp [opS, ho1, hop, hB]
                               rw [e]
                               simp [resB, stoB, hn]; done)
                            | (have e : opS c p [b0] = some (edgeL c p b0) := by simp [opS, ho1, hop, hB]
                               rw [e]
                               simp [-List.map_set, resB, stoB, hn, hb0n, edgeL_len, hl3]; done)
                  · simp at h73


end Go.Proofs.Ytihbejpkfifplaa.Z
end
section
set_option maxRecDepth 100000
namespace Go.Proofs.Ytihbejpkfifplaa.Z
open Go Go.Fw
theorem mem_rd {α : Type} [Inhabited α] {l : List α} {x : α} (h : x ∈ l) : ∃ j : Nat, j < l.length ∧ rdI l j = x := by
  obtain ⟨j, hj⟩ := List.getElem?_of_mem h
  obtain ⟨h1, h2⟩ := List.getElem?_eq_some_iff.1 hj
  exact ⟨j, h1, by simp [rdI, List.getD_eq_getElem?_getD, hj]⟩
set_option maxHeartbeats 4000000 in
theorem rbound5_ok (c : CoreT) (p : PlanT) (hP : patS c.nodes c.edges = true) (hop : p.op = 5) (hkl : p.kids.length = 1) (IH : Snd P 38 [.d (.ag (encP (rdI p.kids 0))), .d (.ag (encC c))] (resB (bndT c (rdI p.kids 0))) (stoB (bndT c (rdI p.kids 0)))) (b0 : List Bool) (hq : bndT c (rdI p.kids 0) = some b0) (hb0 : b0.length = c.nodes.length + c.edges.length) : Snd P 38 [.d (.ag (encP p)), .d (.ag (encC c))] (resB (opS c p [b0])) (stoB (opS c p [b0])) := by
  obtain ⟨hn1, hn8, hk8⟩ := pat_rng hP
  have hE := goodE_of hP
  obtain ⟨n, hn⟩ : ∃ k, c.nodes.length = k := ⟨_, rfl⟩
  obtain ⟨k, hk⟩ : ∃ k, c.edges.length = k := ⟨_, rfl⟩
  rw [hn] at hn1 hn8
  rw [hk] at hk8
  have hwd : ((n:Int) + k).toNat = n + k := by omega
  have hw : IntKind.i64.wrap ((n:Int) + k) = (n:Int) + k := wrap_id (by omega) (by omega)
  have hw1 : 0 < n + k := by omega
  have hw2 : (n:Int) + k ≤ 140737488355328 := by omega
  have hw3 : (0:Int) ≤ (n:Int) + k := by omega
  have hb0n : b0.length = n + k := by rw [hb0, hn, hk]
  simp only [hq, resB, stoB, encP_cells, hn, hb0n] at IH
  refine Snd.ok 0 rfl (by kernel_rfl) fun hp => ?_
  have hpm := (encP_ok hp).2.1
  clear hp
  obtain ⟨m, hm⟩ : ∃ x, p.edges.length = x := ⟨_, rfl⟩
  rw [hm] at hpm
  obtain ⟨mb, hmb⟩ : ∃ x, meetB c p b0 = x := ⟨_, rfl⟩
  refine snd_of [6900] Try.func38 rfl (by kernel_rfl) Try.ntmps38 (by simp) ?_
  unfold Try.f38
  simp only [List.cons_append, List.nil_append, List.length_cons, List.length_nil, Nat.reduceAdd, Nat.reduceSub, List.replicate]
  refine Run.seq ?_
  refine opsF oo94 fun K hK => ?_
  try simp
  repeat' first | ((refine evL_c ?_); simp [-List.map_set, hn, hk, hop, hkl, hw, hwd, hw1, hw2, hw3]) | (with_reducible refine And.intro ?_ ?_) | intro _ | (with_reducible assumption) | omega
  all_goals (refine Fin.go hK ?_; clear hK K)
  simp only [Then_normal]
  refine Run.seq ?_
  refine opsF oo95 fun K hK => ?_
  try simp
  repeat' first | ((refine evL_c ?_); simp [-List.map_set, hn, hk, hop, hkl, hw, hwd, hw1, hw2, hw3]) | (with_reducible refine And.intro ?_ ?_) | intro _ | (with_reducible assumption) | omega
  all_goals (refine Fin.go hK ?_; clear hK K)
  simp only [Then_normal]
  refine Run.seq ?_
  refine opsF oo96 fun K hK => ?_
  try simp
  repeat' first | ((refine evL_c ?_); simp [-List.map_set, hn, hk, hop, hkl, hw, hwd, hw1, hw2, hw3]) | (with_reducible refine And.intro ?_ ?_) | intro _ | (with_reducible assumption) | omega
  all_goals (refine Fin.go hK ?_; clear hK K)
  simp only [Then_normal]
  refine Run.seq ?_
  refine Run.seq ?_
  refine opsF oo97 fun K hK => ?_
  try simp
  repeat' first | ((refine evL_c ?_); simp [-List.map_set, hn, hk, hop, hkl, hw, hwd, hw1, hw2, hw3]) | (with_reducible refine And.intro ?_ ?_) | intro _ | (with_reducible assumption) | omega
  all_goals (refine Fin.go hK ?_; clear hK K)
  simp only [Then_normal]
  refine Run.block ?_
  refine Run.seq ?_
  refine opsF oo98 fun K hK => ?_
  try simp
  repeat' first | ((refine evL_c ?_); simp [-List.map_set, hn, hk, hop, hkl, hw, hwd, hw1, hw2, hw3]) | (with_reducible refine And.intro ?_ ?_) | intro _ | (with_reducible assumption) | omega
  all_goals (refine Fin.go hK ?_; clear hK K)
  simp only [Then_normal]
  refine Run.cond rfl (fun h24 => ?_) (fun h24 => ?_)
  · simp at h24
  · skip
    refine Run.seq ?_
    refine opsF oo99 fun K hK => ?_
    try simp
    repeat' first | ((refine evL_c ?_); simp [-List.map_set, hn, hk, hop, hkl, hw, hwd, hw1, hw2, hw3]) | (with_reducible refine And.intro ?_ ?_) | intro _ | (with_reducible assumption) | omega
    all_goals (refine Fin.go hK ?_; clear hK K)
    simp only [Then_normal]
    refine Run.cond rfl (fun h26 => ?_) (fun h26 => ?_)
    · simp at h26
    · skip
      refine Run.skip ?_
      simp only [Blok_normal]
      simp only [Then_normal]
      refine Run.seq ?_
      refine Run.seq ?_
      refine opsF oo100 fun K hK => ?_
      try simp
      repeat' first | ((first | refine evL_c ?_ | (refine evL_g rfl ?_; try simp only [gs_tt, gs_ff, gs_tf, gs_ft]) | refine evL_u rfl ?_ | (with_reducible refine gsplit (fun hg => ?_) (fun hg => ?_) <;> try simp at hg)) <;> try simp [-List.map_set, hn, hk, hop, hkl, hw, hwd, hw1, hw2, hw3]) | (with_reducible refine And.intro ?_ ?_) | intro _ | (with_reducible assumption) | omega
      all_goals (refine Fin.go hK ?_; clear hK K)
      all_goals
        simp only [Then_normal]
        refine Run.cond rfl (fun h42 => ?_) (fun h42 => ?_)
        · simp at h42
        · skip
          refine Run.skip ?_
          simp only [Then_normal]
          refine Run.seq ?_
          refine Run.seq ?_
          refine opsF oo101 fun K hK => ?_
          try simp
          repeat' first | ((refine evL_c ?_); simp [-List.map_set, hn, hk, hop, hkl, hw, hwd, hw1, hw2, hw3]) | (with_reducible refine And.intro ?_ ?_) | intro _ | (with_reducible assumption) | omega
          all_goals (refine Fin.go hK ?_; clear hK K)
          simp only [Then_normal]
          refine Run.cond rfl (fun h44 => ?_) (fun h44 => ?_)
          · simp at h44
          · skip
            refine Run.skip ?_
            simp only [Then_normal]
            refine Run.seq ?_
            refine opsF oo102 fun K hK => ?_
            try simp
            repeat' first | (refine ecall (by have h := IH; exact h) rfl ?_) | ((refine evL_c ?_); simp [-List.map_set, hn, hk, hop, hkl, hw, hwd, hw1, hw2, hw3]) | (with_reducible refine And.intro ?_ ?_) | intro _ | (with_reducible assumption) | omega
            all_goals (refine Fin.go hK ?_; clear hK K)
            simp only [Then_normal]
            refine Run.seq ?_
            refine Run.seq ?_
            refine opsF oo103 fun K hK => ?_
            try simp
            repeat' first | ((refine evL_c ?_); simp [-List.map_set, hn, hk, hop, hkl, hw, hwd, hw1, hw2, hw3]) | (with_reducible refine And.intro ?_ ?_) | intro _ | (with_reducible assumption) | omega
            all_goals (refine Fin.go hK ?_; clear hK K)
            simp only [Then_normal]
            refine Run.cond rfl (fun h70 => ?_) (fun h70 => ?_)
            · simp at h70
            · skip
              refine Run.skip ?_
              simp only [Then_normal]
              refine Run.seq ?_
              refine Run.seq ?_
              refine opsF oo104 fun K hK => ?_
              try simp
              repeat' first | ((refine evL_c ?_); simp [-List.map_set, hn, hk, hop, hkl, hw, hwd, hw1, hw2, hw3]) | (with_reducible refine And.intro ?_ ?_) | intro _ | (with_reducible assumption) | omega
              all_goals (refine Fin.go hK ?_; clear hK K)
              simp only [Then_normal]
              refine Run.block ?_
              refine Run.seq ?_
              refine Run.seq ?_
              refine opsF oo105 fun K hK => ?_
              try simp
              repeat' first | ((refine evL_c ?_); simp [-List.map_set, hn, hk, hop, hkl, hw, hwd, hw1, hw2, hw3]) | (with_reducible refine And.intro ?_ ?_) | intro _ | (with_reducible assumption) | omega
              all_goals (refine Fin.go hK ?_; clear hK K)
              simp only [Then_normal]
              refine Run.cond rfl (fun h73 => ?_) (fun h73 => ?_)
              · simp at h73
              · skip
                refine opsF oo106 fun K hK => ?_
                try simp
                repeat' first | ((refine evL_c ?_); simp [-List.map_set, hn, hk, hop, hkl, hw, hwd, hw1, hw2, hw3]) | (with_reducible refine And.intro ?_ ?_) | intro _ | (with_reducible assumption) | omega
                all_goals (refine Fin.go hK ?_; clear hK K)
                simp only [Then_normal]
                refine Run.cond rfl (fun h73 => ?_) (fun h73 => ?_)
                · simp at h73
                · skip
                  refine Run.seq ?_
                  refine opsF oo108 fun K hK => ?_
                  try simp
                  repeat' first | ((refine evL_c ?_); simp [-List.map_set, hn, hk, hop, hkl, hw, hwd, hw1, hw2, hw3]) | (with_reducible refine And.intro ?_ ?_) | intro _ | (with_reducible assumption) | omega
                  all_goals (refine Fin.go hK ?_; clear hK K)
                  simp only [Then_normal]
                  refine Run.cond rfl (fun h105 => ?_) (fun h105 => ?_)
                  · simp at h105
                  · skip
                    refine Run.seq ?_
                    refine opsF oo109 fun K hK => ?_
                    try simp
                    repeat' first | ((refine evL_c ?_); simp [-List.map_set, hn, hk, hop, hkl, hw, hwd, hw1, hw2, hw3]) | (with_reducible refine And.intro ?_ ?_) | intro _ | (with_reducible assumption) | omega
                    all_goals (refine Fin.go hK ?_; clear hK K)
                    simp only [Then_normal]
                    refine Run.cond rfl (fun h150 => ?_) (fun h150 => ?_)
                    · skip
                      refine Run.seq ?_
                      refine opsT [⟨Op.load 27 (Operand.tmp 2), some 152, none⟩, ⟨Op.load 33 (Operand.tmp 3), some 153, none⟩, ⟨Op.move (Operand.tmp 8), some 154, none⟩, ⟨Op.call { callee := Callee.value (Operand.func 79), args := #[Operand.tmp 152, Operand.tmp 153, Operand.tmp 154], argTypes := #[27, 33, 60] }, some 155, none⟩, ⟨Op.assign (Operand.tmp 155), some 12, none⟩] fun K hK => ?_
                      try simp
                      repeat' first | (refine ecallW [6900] (by have h := meets_ok c p b0 hb0 hE; simp only [encP_cells, hop, hb0n, hn, hmb] at h; exact h) (by simp) (by simp) (by simp) ?_) | ((refine evL_c ?_); simp [-List.map_set, hn, hk, hop, hkl, hw, hwd, hw1, hw2, hw3]) | (with_reducible refine And.intro ?_ ?_) | intro _ | (with_reducible assumption) | omega
                      all_goals (refine Fin.go hK ?_; clear hK K)
                      simp only [Then_normal]
                      refine Run.seq ?_
                      refine Run.seq ?_
                      refine opsF [⟨Op.move (Operand.tmp 12), some 156, none⟩, ⟨Op.unOp UnOp.not 4 (Operand.tmp 156), some 157, none⟩] fun K hK => ?_
                      try simp
                      repeat' first | ((refine evL_c ?_); simp [-List.map_set, hn, hk, hop, hkl, hw, hwd, hw1, hw2, hw3]) | (with_reducible refine And.intro ?_ ?_) | intro _ | (with_reducible assumption) | omega
                      all_goals (refine Fin.go hK ?_; clear hK K)
                      simp only [Then_normal]
                      refine Run.cond rfl (fun h157 => ?_) (fun h157 => ?_)
                      · try simp at h157
                        subst h157
                        refine Run.seq ?_
                        refine opsF oo31 fun K hK => ?_
                        try simp
                        repeat' first | ((refine evL_c ?_); simp [-List.map_set, hn, hk, hop, hkl, hw, hwd, hw1, hw2, hw3, hb0n]) | (with_reducible refine And.intro ?_ ?_) | intro _ | (with_reducible assumption) | omega
                        all_goals (refine Fin.go hK ?_; clear hK K)
                        simp only [Then_normal]
                        refine Run.drop [] (by simp) ?_
                        refine Run.ret ?_
                        try simp only [Then_ret, Blok_ret]
                        first
                          | (have e : opS c p [b0] = none := by simp [opS, hop, hmb]
                             rw [e]
                             simp [resB, stoB, hn]; done)
                          | (have e : opS c p [b0] = some bb := by simp [opS, hop, hmb, hR, ← hbb]
                             rw [e]
                             simp [-List.map_set, resB, stoB, hn, hb0n, hsl]; done)
                      · try simp at h157
                        subst h157
                        obtain ⟨hR, q1, q2, q3⟩ := meetR_eq hb0 hE hmb
                        rw [hm] at hR q3
                        rw [hn] at q2
                        rw [hk] at q3
                        have s1 : p.slot < (n:Int) + k := by omega
                        have s2 : p.slot.toNat < n + k := by omega
                        have s3 : 0 ≤ p.slot := q1
                        have hl : (b0.set p.slot.toNat true).length = c.nodes.length + c.edges.length := by simp [hb0]
                        refine Run.skip ?_
                        simp only [Then_normal]
                        refine Run.cut [158, 159, 160, 161] [] [(300, .vals ((encP p).map .d)), (400, .vals ((encC c).map .d)), (6900, .data 1 ((b0.set p.slot.toNat true).map encB))] ?_ ?_
                        · refine opsF [⟨Op.move (Operand.tmp 8), some 158, none⟩, ⟨Op.fieldAddr 27 (Operand.tmp 2) 2, some 159, none⟩, ⟨Op.load 3 (Operand.tmp 159), some 160, none⟩, ⟨Op.indexAddr 60 (Operand.tmp 158) (Operand.tmp 160), some 161, none⟩, ⟨Op.store 4 (Operand.tmp 161) (Operand.const (Value.bool true)), none, none⟩] fun K hK => ?_
                          try simp
                          repeat' first | ((refine evL_c ?_); simp [-List.map_set, hn, hk, hop, hkl, hw, hwd, hw1, hw2, hw3, hb0n, s1, s2, s3, hm]) | (with_reducible refine And.intro ?_ ?_) | intro _ | (with_reducible assumption) | omega
                          all_goals (refine Fin.go hK ?_; clear hK K)
                          (try simp [-List.map_set, hn, hk, hop, hkl, hw, hwd, hw1, hw2, hw3, hb0n, s1, s2, s3, hm]) <;> (first | omega | (simp; done) | (rw [Bool.eq_iff_iff]; simp only [Bool.or_eq_true, Bool.and_eq_true, Bool.not_eq_true', decide_eq_true_eq, decide_eq_false_iff_not]; omega) | (clear hE; grind) | (simp_all; done) | (simp_all; omega))
                        · simp only [over, List.foldl, List.set]
                          refine Run.seq ?_
                          refine opsF [⟨Op.assign (Operand.const (Value.int IntKind.i64 0)), some 13, none⟩] fun K hK => ?_
                          try simp
                          repeat' first | ((refine evL_c ?_); simp [-List.map_set, hn, hk, hop, hkl, hw, hwd, hw1, hw2, hw3, hb0n, s1, s2, s3, hm]) | (with_reducible refine And.intro ?_ ?_) | intro _ | (with_reducible assumption) | omega
                          all_goals (refine Fin.go hK ?_; clear hK K)
                          simp only [Then_normal]
                          refine Run.block ?_
                          refine Run.loopO [13, 162, 163, 164, 165, 166, 167, 168, 169, 170, 171, 172, 173, 174, 175, 176, 177, 178, 179] (fun (i : Nat) => [(13, .int i)]) (fun (i : Nat) => [(300, .vals ((encP p).map .d)), (400, .vals ((encC c).map .d)), (6900, .data 1 ((setE c p.edges (b0.set p.slot.toNat true) i).map encB))]) (fun (i : Nat) => i ≤ m) (fun (i : Nat) => m - i) 0 (by omega) (by simp [-List.map_set, setE, hn, hk, hop]) fun i hi => ?_
                          simp only [over, List.foldl, List.set]
                          obtain ⟨bb, hbb⟩ : ∃ x, setE c p.edges (b0.set p.slot.toNat true) i = x := ⟨_, rfl⟩
                          have hsl : bb.length = n + k := by rw [← hbb, setE_len, List.length_set, hb0n]
                          rw [hbb]
                          refine Run.seq ?_
                          refine Run.seq ?_
                          refine opsF [⟨Op.move (Operand.tmp 13), some 162, none⟩, ⟨Op.fieldAddr 27 (Operand.tmp 2) 3, some 163, none⟩, ⟨Op.load 24 (Operand.tmp 163), some 164, none⟩, ⟨Op.call { callee := Callee.builtin Builtin.len, args := #[Operand.tmp 164], argTypes := #[24] }, some 165, none⟩, ⟨Op.binOp BinOp.lss 3 (Operand.tmp 162) (Operand.tmp 165) 3, some 166, none⟩] fun K hK => ?_
                          try simp
                          repeat' first | ((refine evL_c ?_); simp [-List.map_set, hn, hk, hop, hkl, hw, hwd, hw1, hw2, hw3, hb0n, s1, s2, s3, hm]) | (with_reducible refine And.intro ?_ ?_) | intro _ | (with_reducible assumption) | omega
                          all_goals (refine Fin.go hK ?_; clear hK K)
                          simp only [Then_normal]
                          refine Run.cond rfl (fun h166 => ?_) (fun h166 => ?_)
                          · try simp at h166
                            have hi1 : i < m := by omega
                            have g0 := q3 i hi1
                            have g1 : 0 ≤ (n:Int) + rdI p.edges i := by omega
                            have g2 : (n:Int) + rdI p.edges i < n + k := by omega
                            have g3 : ((n:Int) + rdI p.edges i).toNat < n + k := by omega
                            have g4 : IntKind.i64.wrap ((n:Int) + rdI p.edges i) = (n:Int) + rdI p.edges i := wrap_id (by omega) (by omega)
                            have g5 : (i:Int) < m := by omega
                            clear g0
                            refine Run.skip ?_
                            simp only [Then_normal]
                            refine Run.seq ?_
                            refine Run.block ?_
                            refine opsF [⟨Op.move (Operand.tmp 8), some 169, none⟩, ⟨Op.fieldAddr 33 (Operand.tmp 3) 0, some 170, none⟩, ⟨Op.load 28 (Operand.tmp 170), some 171, none⟩, ⟨Op.call { callee := Callee.builtin Builtin.len, args := #[Operand.tmp 171], argTypes := #[28] }, some 172, none⟩, ⟨Op.fieldAddr 27 (Operand.tmp 2) 3, some 173, none⟩, ⟨Op.load 24 (Operand.tmp 173), some 174, none⟩, ⟨Op.move (Operand.tmp 13), some 175, none⟩, ⟨Op.indexAddr 24 (Operand.tmp 174) (Operand.tmp 175), some 176, none⟩, ⟨Op.load 3 (Operand.tmp 176), some 177, none⟩, ⟨Op.binOp BinOp.add 3 (Operand.tmp 172) (Operand.tmp 177) 3, some 178, none⟩, ⟨Op.indexAddr 60 (Operand.tmp 169) (Operand.tmp 178), some 179, none⟩, ⟨Op.store 4 (Operand.tmp 179) (Operand.const (Value.bool true)), none, none⟩] fun K hK => ?_
                            try simp
                            repeat' first | ((refine evL_c ?_); simp [-List.map_set, hn, hk, hop, hkl, hw, hwd, hw1, hw2, hw3, hb0n, s1, s2, s3, hm, hb0n, hm, hi1, g1, g2, g3, g4, g5, hsl]) | (with_reducible refine And.intro ?_ ?_) | intro _ | (with_reducible assumption) | omega
                            all_goals (refine Fin.go hK ?_; clear hK K)
                            simp only [Blok_normal]
                            simp only [Then_normal]
                            refine opsF [⟨Op.move (Operand.tmp 13), some 167, none⟩, ⟨Op.binOp BinOp.add 3 (Operand.tmp 167) (Operand.const (Value.int IntKind.i64 1)) 3, some 168, none⟩, ⟨Op.assign (Operand.tmp 168), some 13, none⟩] fun K hK => ?_
                            try simp
                            repeat' first | ((refine evL_c ?_); simp [-List.map_set, hn, hk, hop, hkl, hw, hwd, hw1, hw2, hw3, hb0n, s1, s2, s3, hm, hb0n, hm, hi1, g1, g2, g3, g4, g5, hsl]) | (with_reducible refine And.intro ?_ ?_) | intro _ | (with_reducible assumption) | omega
                            all_goals (refine Fin.go hK ?_; clear hK K)
                            refine ⟨i + 1, by omega, by omega, ?_⟩
                            simp (disch := omega) [-List.map_set, hn, hk, hop, hkl, hw, hwd, hw1, hw2, hw3, setE, hbb, wrap_id]
                          · try simp at h166
                            have hi2 : i = m := by omega
                            subst hi2
                            refine Run.exit ?_
                            simp (decide := true) only [Then_exit, Blok_exit, if_true, if_false]
                            simp only [Blok_normal]
                            simp only [Then_normal]
                            refine Run.seq ?_
                            refine opsF oo107 fun K hK => ?_
                            try simp
                            repeat' first | ((refine evL_c ?_); simp [-List.map_set, hn, hk, hop, hkl, hw, hwd, hw1, hw2, hw3, hb0n, s1, s2, s3, hm, hsl]) | (with_reducible refine And.intro ?_ ?_) | intro _ | (with_reducible assumption) | omega
                            all_goals (refine Fin.go hK ?_; clear hK K)
                            simp only [Then_normal]
                            refine Run.ret ?_
                            try simp only [Then_ret, Blok_ret]
                            first
                              | (have e : opS c p [b0] = none := by simp [opS, hop, hmb]
                                 rw [e]
                                 simp [resB, stoB, hn]; done)
                              | (have e : opS c p [b0] = some bb := by simp [opS, hop, hmb, hR, ← hbb]
                                 rw [e]
                                 simp [-List.map_set, resB, stoB, hn, hb0n, hsl]; done)
                    · simp at h150

set_option maxHeartbeats 4000000 in
theorem rbound6_ok (c : CoreT) (p : PlanT) (hP : patS c.nodes c.edges = true) (hop : p.op = 6) (hkl : p.kids.length = 1) (IH : Snd P 38 [.d (.ag (encP (rdI p.kids 0))), .d (.ag (encC c))] (resB (bndT c (rdI p.kids 0))) (stoB (bndT c (rdI p.kids 0)))) (b0 : List Bool) (hq : bndT c (rdI p.kids 0) = some b0) (hb0 : b0.length = c.nodes.length + c.edges.length) (hT : ∀ t ∈ p.terms, cntT t ≤ 1000000) : Snd P 38 [.d (.ag (encP p)), .d (.ag (encC c))] (resB (opS c p [b0])) (stoB (opS c p [b0])) := by
  obtain ⟨hn1, hn8, hk8⟩ := pat_rng hP
  have hE := goodE_of hP
  obtain ⟨n, hn⟩ : ∃ k, c.nodes.length = k := ⟨_, rfl⟩
  obtain ⟨k, hk⟩ : ∃ k, c.edges.length = k := ⟨_, rfl⟩
  rw [hn] at hn1 hn8
  rw [hk] at hk8
  have hwd : ((n:Int) + k).toNat = n + k := by omega
  have hw : IntKind.i64.wrap ((n:Int) + k) = (n:Int) + k := wrap_id (by omega) (by omega)
  have hw1 : 0 < n + k := by omega
  have hw2 : (n:Int) + k ≤ 140737488355328 := by omega
  have hw3 : (0:Int) ≤ (n:Int) + k := by omega
  have hb0n : b0.length = n + k := by rw [hb0, hn, hk]
  simp only [hq, resB, stoB, encP_cells, hn, hb0n] at IH
  refine Snd.ok 0 rfl (by kernel_rfl) fun hp => ?_
  have hpm := (encP_ok hp).2.2
  clear hp
  obtain ⟨m, hm⟩ : ∃ x, p.terms.length = x := ⟨_, rfl⟩
  rw [hm] at hpm
  refine snd_of [6900] Try.func38 rfl (by kernel_rfl) Try.ntmps38 (by simp) ?_
  unfold Try.f38
  simp only [List.cons_append, List.nil_append, List.length_cons, List.length_nil, Nat.reduceAdd, Nat.reduceSub, List.replicate]
  refine Run.seq ?_
  refine opsF oo94 fun K hK => ?_
  try simp
  repeat' first | ((refine evL_c ?_); simp [-List.map_set, hn, hk, hop, hkl, hw, hwd, hw1, hw2, hw3]) | (with_reducible refine And.intro ?_ ?_) | intro _ | (with_reducible assumption) | omega
  all_goals (refine Fin.go hK ?_; clear hK K)
  simp only [Then_normal]
  refine Run.seq ?_
  refine opsF oo95 fun K hK => ?_
  try simp
  repeat' first | ((refine evL_c ?_); simp [-List.map_set, hn, hk, hop, hkl, hw, hwd, hw1, hw2, hw3]) | (with_reducible refine And.intro ?_ ?_) | intro _ | (with_reducible assumption) | omega
  all_goals (refine Fin.go hK ?_; clear hK K)
  simp only [Then_normal]
  refine Run.seq ?_
  refine opsF oo96 fun K hK => ?_
  try simp
  repeat' first | ((refine evL_c ?_); simp [-List.map_set, hn, hk, hop, hkl, hw, hwd, hw1, hw2, hw3]) | (with_reducible refine And.intro ?_ ?_) | intro _ | (with_reducible assumption) | omega
  all_goals (refine Fin.go hK ?_; clear hK K)
  simp only [Then_normal]
  refine Run.seq ?_
  refine Run.seq ?_
  refine opsF oo97 fun K hK => ?_
  try simp
  repeat' first | ((refine evL_c ?_); simp [-List.map_set, hn, hk, hop, hkl, hw, hwd, hw1, hw2, hw3]) | (with_reducible refine And.intro ?_ ?_) | intro _ | (with_reducible assumption) | omega
  all_goals (refine Fin.go hK ?_; clear hK K)
  simp only [Then_normal]
  refine Run.block ?_
  refine Run.seq ?_
  refine opsF oo98 fun K hK => ?_
  try simp
  repeat' first | ((refine evL_c ?_); simp [-List.map_set, hn, hk, hop, hkl, hw, hwd, hw1, hw2, hw3]) | (with_reducible refine And.intro ?_ ?_) | intro _ | (with_reducible assumption) | omega
  all_goals (refine Fin.go hK ?_; clear hK K)
  simp only [Then_normal]
  refine Run.cond rfl (fun h24 => ?_) (fun h24 => ?_)
  · simp at h24
  · skip
    refine Run.seq ?_
    refine opsF oo99 fun K hK => ?_
    try simp
    repeat' first | ((refine evL_c ?_); simp [-List.map_set, hn, hk, hop, hkl, hw, hwd, hw1, hw2, hw3]) | (with_reducible refine And.intro ?_ ?_) | intro _ | (with_reducible assumption) | omega
    all_goals (refine Fin.go hK ?_; clear hK K)
    simp only [Then_normal]
    refine Run.cond rfl (fun h26 => ?_) (fun h26 => ?_)
    · simp at h26
    · skip
      refine Run.skip ?_
      simp only [Blok_normal]
      simp only [Then_normal]
      refine Run.seq ?_
      refine Run.seq ?_
      refine opsF oo100 fun K hK => ?_
      try simp
      repeat' first | ((first | refine evL_c ?_ | (refine evL_g rfl ?_; try simp only [gs_tt, gs_ff, gs_tf, gs_ft]) | refine evL_u rfl ?_ | (with_reducible refine gsplit (fun hg => ?_) (fun hg => ?_) <;> try simp at hg)) <;> try simp [-List.map_set, hn, hk, hop, hkl, hw, hwd, hw1, hw2, hw3]) | (with_reducible refine And.intro ?_ ?_) | intro _ | (with_reducible assumption) | omega
      all_goals (refine Fin.go hK ?_; clear hK K)
      all_goals
        simp only [Then_normal]
        refine Run.cond rfl (fun h42 => ?_) (fun h42 => ?_)
        · simp at h42
        · skip
          refine Run.skip ?_
          simp only [Then_normal]
          refine Run.seq ?_
          refine Run.seq ?_
          refine opsF oo101 fun K hK => ?_
          try simp
          repeat' first | ((refine evL_c ?_); simp [-List.map_set, hn, hk, hop, hkl, hw, hwd, hw1, hw2, hw3]) | (with_reducible refine And.intro ?_ ?_) | intro _ | (with_reducible assumption) | omega
          all_goals (refine Fin.go hK ?_; clear hK K)
          simp only [Then_normal]
          refine Run.cond rfl (fun h44 => ?_) (fun h44 => ?_)
          · simp at h44
          · skip
            refine Run.skip ?_
            simp only [Then_normal]
            refine Run.seq ?_
            refine opsF oo102 fun K hK => ?_
            try simp
            repeat' first | (refine ecall (by have h := IH; exact h) rfl ?_) | ((refine evL_c ?_); simp [-List.map_set, hn, hk, hop, hkl, hw, hwd, hw1, hw2, hw3]) | (with_reducible refine And.intro ?_ ?_) | intro _ | (with_reducible assumption) | omega
            all_goals (refine Fin.go hK ?_; clear hK K)
            simp only [Then_normal]
            refine Run.seq ?_
            refine Run.seq ?_
            refine opsF oo103 fun K hK => ?_
            try simp
            repeat' first | ((refine evL_c ?_); simp [-List.map_set, hn, hk, hop, hkl, hw, hwd, hw1, hw2, hw3]) | (with_reducible refine And.intro ?_ ?_) | intro _ | (with_reducible assumption) | omega
            all_goals (refine Fin.go hK ?_; clear hK K)
            simp only [Then_normal]
            refine Run.cond rfl (fun h70 => ?_) (fun h70 => ?_)
            · simp at h70
            · skip
              refine Run.skip ?_
              simp only [Then_normal]
              refine Run.seq ?_
              refine Run.seq ?_
              refine opsF oo104 fun K hK => ?_
              try simp
              repeat' first | ((refine evL_c ?_); simp [-List.map_set, hn, hk, hop, hkl, hw, hwd, hw1, hw2, hw3]) | (with_reducible refine And.intro ?_ ?_) | intro _ | (with_reducible assumption) | omega
              all_goals (refine Fin.go hK ?_; clear hK K)
              simp only [Then_normal]
              refine Run.block ?_
              refine Run.seq ?_
              refine Run.seq ?_
              refine opsF oo105 fun K hK => ?_
              try simp
              repeat' first | ((refine evL_c ?_); simp [-List.map_set, hn, hk, hop, hkl, hw, hwd, hw1, hw2, hw3]) | (with_reducible refine And.intro ?_ ?_) | intro _ | (with_reducible assumption) | omega
              all_goals (refine Fin.go hK ?_; clear hK K)
              simp only [Then_normal]
              refine Run.cond rfl (fun h73 => ?_) (fun h73 => ?_)
              · simp at h73
              · skip
                refine opsF oo106 fun K hK => ?_
                try simp
                repeat' first | ((refine evL_c ?_); simp [-List.map_set, hn, hk, hop, hkl, hw, hwd, hw1, hw2, hw3]) | (with_reducible refine And.intro ?_ ?_) | intro _ | (with_reducible assumption) | omega
                all_goals (refine Fin.go hK ?_; clear hK K)
                simp only [Then_normal]
                refine Run.cond rfl (fun h73 => ?_) (fun h73 => ?_)
                · simp at h73
                · skip
                  refine Run.seq ?_
                  refine opsF oo108 fun K hK => ?_
                  try simp
                  repeat' first | ((refine evL_c ?_); simp [-List.map_set, hn, hk, hop, hkl, hw, hwd, hw1, hw2, hw3]) | (with_reducible refine And.intro ?_ ?_) | intro _ | (with_reducible assumption) | omega
                  all_goals (refine Fin.go hK ?_; clear hK K)
                  simp only [Then_normal]
                  refine Run.cond rfl (fun h105 => ?_) (fun h105 => ?_)
                  · simp at h105
                  · skip
                    refine Run.seq ?_
                    refine opsF oo109 fun K hK => ?_
                    try simp
                    repeat' first | ((refine evL_c ?_); simp [-List.map_set, hn, hk, hop, hkl, hw, hwd, hw1, hw2, hw3]) | (with_reducible refine And.intro ?_ ?_) | intro _ | (with_reducible assumption) | omega
                    all_goals (refine Fin.go hK ?_; clear hK K)
                    simp only [Then_normal]
                    refine Run.cond rfl (fun h150 => ?_) (fun h150 => ?_)
                    · simp at h150
                    · skip
                      refine Run.seq ?_
                      refine opsF [⟨Op.binOp BinOp.eql 22 (Operand.tmp 72) (Operand.const (Value.int IntKind.i64 6)) 22, some 181, none⟩, ⟨Op.assign (Operand.tmp 181), some 180, none⟩] fun K hK => ?_
                      try simp
                      repeat' first | ((refine evL_c ?_); simp [-List.map_set, hn, hk, hop, hkl, hw, hwd, hw1, hw2, hw3]) | (with_reducible refine And.intro ?_ ?_) | intro _ | (with_reducible assumption) | omega
                      all_goals (refine Fin.go hK ?_; clear hK K)
                      simp only [Then_normal]
                      refine Run.cond rfl (fun h180 => ?_) (fun h180 => ?_)
                      · skip
                        refine Run.seq ?_
                        refine opsF oo86 fun K hK => ?_
                        try simp
                        repeat' first | ((refine evL_c ?_); simp [-List.map_set, hn, hk, hop, hkl, hw, hwd, hw1, hw2, hw3]) | (with_reducible refine And.intro ?_ ?_) | intro _ | (with_reducible assumption) | omega
                        all_goals (refine Fin.go hK ?_; clear hK K)
                        simp only [Then_normal]
                        refine Run.block ?_
                        refine Run.loopO [4, 14, 182, 183, 184, 185, 186, 187, 188, 189, 190, 191, 192, 193, 194, 195, 196] (fun (i : Nat) => [(14, .int i)]) (fun (i : Nat) => [(300, .vals ((encP p).map .d)), (400, .vals ((encC c).map .d)), (6900, .data 1 (b0.map encB))]) (fun (i : Nat) => i ≤ m ∧ ∀ j : Nat, j < i → rbindsS b0 (rdI p.terms j) = true) (fun (i : Nat) => m - i) 0 ⟨by omega, by omega⟩ (by simp [hn, hk, hop]) fun i ⟨hi, hz⟩ => ?_
                        simp only [over, List.foldl, List.set]
                        refine Run.seq ?_
                        refine Run.seq ?_
                        refine opsF [⟨Op.move (Operand.tmp 14), some 182, none⟩, ⟨Op.fieldAddr 27 (Operand.tmp 2) 5, some 183, none⟩, ⟨Op.load 25 (Operand.tmp 183), some 184, none⟩, ⟨Op.call { callee := Callee.builtin Builtin.len, args := #[Operand.tmp 184], argTypes := #[25] }, some 185, none⟩, ⟨Op.binOp BinOp.lss 3 (Operand.tmp 182) (Operand.tmp 185) 3, some 186, none⟩] fun K hK => ?_
                        try simp
                        repeat' first | ((refine evL_c ?_); simp [-List.map_set, hn, hk, hop, hkl, hw, hwd, hw1, hw2, hw3]) | (with_reducible refine And.intro ?_ ?_) | intro _ | (with_reducible assumption) | omega
                        all_goals (refine Fin.go hK ?_; clear hK K)
                        simp only [Then_normal]
                        refine Run.cond rfl (fun h186 => ?_) (fun h186 => ?_)
                        · try simp at h186
                          have hi1 : i < m := by omega
                          have g5 : (i:Int) < m := by omega
                          obtain ⟨gb, hg⟩ : ∃ x, rbindsS b0 (rdI p.terms i) = x := ⟨_, rfl⟩
                          refine Run.skip ?_
                          simp only [Then_normal]
                          refine Run.seq ?_
                          refine Run.block ?_
                          refine Run.seq ?_
                          refine opsT [⟨Op.move (Operand.tmp 8), some 189, none⟩, ⟨Op.fieldAddr 27 (Operand.tmp 2) 5, some 190, none⟩, ⟨Op.load 25 (Operand.tmp 190), some 191, none⟩, ⟨Op.move (Operand.tmp 14), some 192, none⟩, ⟨Op.indexAddr 25 (Operand.tmp 191) (Operand.tmp 192), some 193, none⟩, ⟨Op.load 70 (Operand.tmp 193), some 194, none⟩, ⟨Op.call { callee := Callee.value (Operand.func 30), args := #[Operand.tmp 189, Operand.tmp 194], argTypes := #[60, 70] }, some 195, none⟩, ⟨Op.unOp UnOp.not 4 (Operand.tmp 195), some 196, none⟩] fun K hK => ?_
                          try simp
                          repeat' first | (refine ecallW [6900] (by have h := rbinds_ok b0 (rdI p.terms i) (hT _ (rdI_mem (by omega) (by omega))); rw [encT_cells] at h; simp only [hb0n, hg] at h; exact h) (by simp) (by simp) (by simp) ?_) | ((refine evL_c ?_); simp [-List.map_set, hn, hk, hop, hkl, hw, hwd, hw1, hw2, hw3, hb0n, hm, hi1, g5]) | (with_reducible refine And.intro ?_ ?_) | intro _ | (with_reducible assumption) | omega
                          all_goals (refine Fin.go hK ?_; clear hK K)
                          simp only [Then_normal]
                          refine Run.cond rfl (fun h196 => ?_) (fun h196 => ?_)
                          · try simp at h196
                            subst h196
                            refine Run.seq ?_
                            refine opsF oo31 fun K hK => ?_
                            try simp
                            repeat' first | ((refine evL_c ?_); simp [-List.map_set, hn, hk, hop, hkl, hw, hwd, hw1, hw2, hw3, hb0n, hm, hi1, g5]) | (with_reducible refine And.intro ?_ ?_) | intro _ | (with_reducible assumption) | omega
                            all_goals (refine Fin.go hK ?_; clear hK K)
                            simp only [Then_normal]
                            refine Run.drop [] (by simp) ?_
                            refine Run.ret ?_
                            try simp only [Then_ret, Blok_ret]
                            first
                              | (have e : opS c p [b0] = none := by
                                   have : p.terms.all (bindsS b0) = false := by
                                     cases q : p.terms.all (bindsS b0) with
                                     | false => rfl
                                     | true =>
                                       have := List.all_eq_true.1 q (rdI p.terms i) (rdI_mem (by omega) (by omega))
                                       rw [← rbinds_eq, hg] at this; cases this
                                   simp [opS, hop, this]
                                 rw [e]
                                 simp [resB, stoB, hn]; done)
                              | (have e : opS c p [b0] = some b0 := by
                                   have : p.terms.all (bindsS b0) = true := by
                                     rw [List.all_eq_true]
                                     intro t ht
                                     obtain ⟨j, hj, rfl⟩ := mem_rd ht
                                     rw [← rbinds_eq]; exact hz j (by omega)
                                   simp [opS, hop, this]
                                 rw [e]
                                 simp [-List.map_set, resB, stoB, hn, hb0n]; done)
                          · try simp at h196
                            subst h196
                            refine Run.skip ?_
                            simp only [Blok_normal]
                            simp only [Then_normal]
                            refine opsF [⟨Op.move (Operand.tmp 14), some 187, none⟩, ⟨Op.binOp BinOp.add 3 (Operand.tmp 187) (Operand.const (Value.int IntKind.i64 1)) 3, some 188, none⟩, ⟨Op.assign (Operand.tmp 188), some 14, none⟩] fun K hK => ?_
                            try simp
                            repeat' first | ((refine evL_c ?_); simp [-List.map_set, hn, hk, hop, hkl, hw, hwd, hw1, hw2, hw3, hb0n, hm, hi1, g5]) | (with_reducible refine And.intro ?_ ?_) | intro _ | (with_reducible assumption) | omega
                            all_goals (refine Fin.go hK ?_; clear hK K)
                            refine ⟨i + 1, ⟨by omega, fun j hj => ?_⟩, by omega, ?_⟩
                            · by_cases e : j = i
                              · subst e; exact hg
                              · exact hz j (by omega)
                            · simp (disch := omega) [-List.map_set, hn, hk, hop, hkl, hw, hwd, hw1, hw2, hw3, wrap_id]
                        · try simp at h186
                          have hi2 : i = m := by omega
                          subst hi2
                          refine Run.exit ?_
                          simp (decide := true) only [Then_exit, Blok_exit, if_true, if_false]
                          simp only [Blok_normal]
                          simp only [Then_normal]
                          refine Run.seq ?_
                          refine opsF oo107 fun K hK => ?_
                          try simp
                          repeat' first | ((refine evL_c ?_); simp [-List.map_set, hn, hk, hop, hkl, hw, hwd, hw1, hw2, hw3, hb0n]) | (with_reducible refine And.intro ?_ ?_) | intro _ | (with_reducible assumption) | omega
                          all_goals (refine Fin.go hK ?_; clear hK K)
                          simp only [Then_normal]
                          refine Run.ret ?_
                          try simp only [Then_ret, Blok_ret]
                          first
                            | (have e : opS c p [b0] = none := by
                                 have : p.terms.all (bindsS b0) = false := by
                                   cases q : p.terms.all (bindsS b0) with
                                   | false => rfl
                                   | true =>
                                     have := List.all_eq_true.1 q (rdI p.terms i) (rdI_mem (by omega) (by omega))
                                     rw [← rbinds_eq, hg] at this; cases this
                                 simp [opS, hop, this]
                               rw [e]
                               simp [resB, stoB, hn]; done)
                            | (have e : opS c p [b0] = some b0 := by
                                 have : p.terms.all (bindsS b0) = true := by
                                   rw [List.all_eq_true]
                                   intro t ht
                                   obtain ⟨j, hj, rfl⟩ := mem_rd ht
                                   rw [← rbinds_eq]; exact hz j (by omega)
                                 simp [opS, hop, this]
                               rw [e]
                               simp [-List.map_set, resB, stoB, hn, hb0n]; done)
                      · simp at h180


end Go.Proofs.Ytihbejpkfifplaa.Z
end
