/- A product of what is only read. -/
import Derived.Test.YtihbejpkfifplaaPc
set_option linter.unusedVariables false
set_option linter.unusedSimpArgs false
set_option maxRecDepth 100000
namespace Go.Proofs.Ytihbejpkfifplaa.Z
open Go Go.Fw
theorem productD_ok (nn : Bool) (l : List Int) (hl : ∀ x ∈ l, 0 ≤ x ∧ x ≤ 1099511627776) (hn : l.length ≤ 1000) : Snd P 66 [.d (.sl nn (l.map encI))] (.int (prodS 1 l)) [] := by
  refine snd_of [] Try.func66 rfl (by kernel_rfl) Try.ntmps66 (by simp) ?_
  unfold Try.f66
  simp only [List.cons_append, List.nil_append, List.length_cons, List.length_nil, Nat.reduceAdd, Nat.reduceSub, List.replicate]
  refine Run.seq ?_
  refine Run.opsM false [⟨Op.assign (Operand.const (Value.int IntKind.i64 0)), some 2, none⟩] mixed (by decide) rfl fun K hK => ?_
  try simp
  repeat' first | ((refine evL_c ?_); simp) | ((refine evL_g rfl ?_); (try simp only [gs_tt, gs_ff, gs_tf, gs_ft]); (try simp)) | (refine evL_u rfl ?_) | ((with_reducible refine gsplit (fun hg => ?_) (fun hg => ?_)) <;> (try simp at hg) <;> (try simp)) | (with_reducible refine And.intro ?_ ?_) | intro _ | (with_reducible assumption) | omega | (show (_ : Nat) < _; simp <;> omega) | (show (_ : Int) < _; simp <;> omega)
  all_goals (refine Fin.go hK ?_; clear hK K)
  simp only [Then_normal]
  refine Run.scope 0 _ rfl ?_
  refine Run.seq ?_
  refine Run.opsM false [⟨Op.assign (Operand.const (Value.int IntKind.i64 1)), some 3, none⟩] mixed (by decide) rfl fun K hK => ?_
  try simp
  repeat' first | ((refine evL_c ?_); simp) | ((refine evL_g rfl ?_); (try simp only [gs_tt, gs_ff, gs_tf, gs_ft]); (try simp)) | (refine evL_u rfl ?_) | ((with_reducible refine gsplit (fun hg => ?_) (fun hg => ?_)) <;> (try simp at hg) <;> (try simp)) | (with_reducible refine And.intro ?_ ?_) | intro _ | (with_reducible assumption) | omega | (show (_ : Nat) < _; simp <;> omega) | (show (_ : Int) < _; simp <;> omega)
  all_goals (refine Fin.go hK ?_; clear hK K)
  simp only [Then_normal]
  refine Run.seq ?_
  refine Run.seq ?_
  refine Run.opsM false [⟨Op.move (Operand.tmp 0), some 8, none⟩, ⟨Op.call { callee := Callee.builtin Builtin.len, args := #[Operand.tmp 8], argTypes := #[51] }, some 9, none⟩, ⟨Op.move (Operand.const (Value.int IntKind.i64 0)), some 10, none⟩] mixed (by decide) rfl fun K hK => ?_
  try simp
  repeat' first | ((refine evL_c ?_); simp) | ((refine evL_g rfl ?_); (try simp only [gs_tt, gs_ff, gs_tf, gs_ft]); (try simp)) | (refine evL_u rfl ?_) | ((with_reducible refine gsplit (fun hg => ?_) (fun hg => ?_)) <;> (try simp at hg) <;> (try simp)) | (with_reducible refine And.intro ?_ ?_) | intro _ | (with_reducible assumption) | omega | (show (_ : Nat) < _; simp <;> omega) | (show (_ : Int) < _; simp <;> omega)
  all_goals (refine Fin.go hK ?_; clear hK K)
  simp only [Then_normal]
  refine Run.block ?_
  refine Run.loopO [2, 3, 5, 10, 11, 12, 13, 14, 15, 16, 17, 18, 19, 20, 21, 22, 23] (fun (x : Nat × Int) => [(3, .int x.2), (10, .int x.1)]) (fun (x : Nat × Int) => []) (fun (x : Nat × Int) => x.1 ≤ l.length ∧ (0 ≤ x.2 ∧ x.2 ≤ 1099511627776) ∧ prodS x.2 (l.drop x.1) = prodS 1 l ∧ ∀ j, j < x.1 → rdI l (j : Nat) ≠ 0) (fun (x : Nat × Int) => l.length - x.1) (0, 1) (by simp) (by simp) fun ⟨i, n⟩ ⟨hi, hr, hp, hz⟩ => ?_
  simp only [over, List.foldl, List.set]
  refine Run.seq ?_
  refine Run.opsM false [⟨Op.binOp BinOp.lss 3 (Operand.tmp 10) (Operand.tmp 9) 3, some 11, none⟩] mixed (by decide) rfl fun K hK => ?_
  try simp
  repeat' first | ((refine evL_c ?_); simp) | ((refine evL_g rfl ?_); (try simp only [gs_tt, gs_ff, gs_tf, gs_ft]); (try simp)) | (refine evL_u rfl ?_) | ((with_reducible refine gsplit (fun hg => ?_) (fun hg => ?_)) <;> (try simp at hg) <;> (try simp)) | (with_reducible refine And.intro ?_ ?_) | intro _ | (with_reducible assumption) | omega | (show (_ : Nat) < _; simp <;> omega) | (show (_ : Int) < _; simp <;> omega)
  all_goals (refine Fin.go hK ?_; clear hK K)
  simp only [Then_normal]
  refine Run.seq ?_
  refine Run.cond rfl (fun h11 => ?_) (fun h11 => ?_)
  · try simp at h11
    have hx := hl _ (rdI_mem (l := l) (i := i) (by omega) (by omega))
    refine Run.skip ?_
    simp only [Then_normal]
    refine Run.seq ?_
    refine Run.block ?_
    refine Run.seq ?_
    refine Run.opsM false [⟨Op.indexAddr 51 (Operand.tmp 8) (Operand.tmp 10), some 12, none⟩, ⟨Op.load 2 (Operand.tmp 12), some 13, none⟩, ⟨Op.assign (Operand.tmp 13), some 5, none⟩] mixed (by decide) rfl fun K hK => ?_
    try simp
    repeat' first | ((refine evL_c ?_); simp [h11]) | ((refine evL_g rfl ?_); (try simp only [gs_tt, gs_ff, gs_tf, gs_ft]); (try simp [h11])) | (refine evL_u rfl ?_) | ((with_reducible refine gsplit (fun hg => ?_) (fun hg => ?_)) <;> (try simp at hg) <;> (try simp [h11])) | (with_reducible refine And.intro ?_ ?_) | intro _ | (with_reducible assumption) | omega | (show (_ : Nat) < _; simp [h11] <;> omega) | (show (_ : Int) < _; simp [h11] <;> omega)
    all_goals (refine Fin.go hK ?_; clear hK K)
    simp only [Then_normal]
    refine Run.seq ?_
    refine Run.seq ?_
    refine Run.opsM false [⟨Op.move (Operand.tmp 5), some 14, none⟩, ⟨Op.binOp BinOp.eql 2 (Operand.tmp 14) (Operand.const (Value.int IntKind.i64 0)) 2, some 15, none⟩] mixed (by decide) rfl fun K hK => ?_
    try simp
    repeat' first | ((refine evL_c ?_); simp [h11]) | ((refine evL_g rfl ?_); (try simp only [gs_tt, gs_ff, gs_tf, gs_ft]); (try simp [h11])) | (refine evL_u rfl ?_) | ((with_reducible refine gsplit (fun hg => ?_) (fun hg => ?_)) <;> (try simp at hg) <;> (try simp [h11])) | (with_reducible refine And.intro ?_ ?_) | intro _ | (with_reducible assumption) | omega | (show (_ : Nat) < _; simp [h11] <;> omega) | (show (_ : Int) < _; simp [h11] <;> omega)
    all_goals (refine Fin.go hK ?_; clear hK K)
    simp only [Then_normal]
    refine Run.cond rfl (fun h15 => ?_) (fun h15 => ?_)
    · try simp at h15
      refine Run.seq ?_
      refine Run.opsM false [⟨Op.assign (Operand.const (Value.int IntKind.i64 0)), some 2, none⟩] mixed (by decide) rfl fun K hK => ?_
      try simp
      repeat' first | ((refine evL_c ?_); simp [h11, h15]) | ((refine evL_g rfl ?_); (try simp only [gs_tt, gs_ff, gs_tf, gs_ft]); (try simp [h11, h15])) | (refine evL_u rfl ?_) | ((with_reducible refine gsplit (fun hg => ?_) (fun hg => ?_)) <;> (try simp at hg) <;> (try simp [h11, h15])) | (with_reducible refine And.intro ?_ ?_) | intro _ | (with_reducible assumption) | omega | (show (_ : Nat) < _; simp [h11, h15] <;> omega) | (show (_ : Int) < _; simp [h11, h15] <;> omega)
      all_goals (refine Fin.go hK ?_; clear hK K)
      simp only [Then_normal]
      refine Run.ret ?_
      try simp only [Then_ret, Blok_ret]
      try simp only [Fwd_ret]
      first
        | (have e : prodS 1 l = 0 := by rw [← hp, drop_rd h11]; simp [prodS, h15]
           simp [e]; done)
        | (have hk1 : i + 1 ≤ k := by
             rcases Nat.lt_or_ge k (i + 1) with q | q
             · by_cases e : k = i
               · subst e; exact absurd h32 h15
               · exact absurd h32 (hz k (by simp; omega))
             · exact q
           have hm := mem_drop_rd h28 hk1
           rw [h32] at hm
           have e : prodS 1 l = 0 := by rw [← hp, drop_rd h11]; simp only [prodS]; rw [if_neg h15, if_pos h19, if_pos hm]
           simp [e]; done)
        | (have e : prodS 1 l = 1099511627776 := by rw [← hp, drop_rd h11]; simp only [prodS]; rw [if_neg h15, if_pos h19, if_neg (no_zero (fun j hj => hkz j (by omega)) _)]
           simp [e]; done)
        | (have e : prodS 1 l = n := by rw [← hp, List.drop_of_length_le (by simp; omega)]; rfl
           simp [e])
    · try simp at h15
      have hf : 0 < rdI l i := by omega
      have hd : 0 ≤ 1099511627776 / rdI l i ∧ 1099511627776 / rdI l i ≤ 1099511627776 := div_rng (by omega) (by omega)
      have e1 : (1099511627776 : Int).tdiv (rdI l i) = 1099511627776 / rdI l i := Int.tdiv_eq_ediv_of_nonneg (by omega)
      refine Run.skip ?_
      simp only [Then_normal]
      refine Run.seq ?_
      refine Run.seq ?_
      refine Run.opsM false [⟨Op.move (Operand.tmp 3), some 16, none⟩, ⟨Op.move (Operand.tmp 5), some 17, none⟩, ⟨Op.binOp BinOp.quo 2 (Operand.const (Value.int IntKind.i64 1099511627776)) (Operand.tmp 17) 2, some 18, none⟩, ⟨Op.binOp BinOp.gtr 2 (Operand.tmp 16) (Operand.tmp 18) 2, some 19, none⟩] mixed (by decide) rfl fun K hK => ?_
      try simp
      repeat' first | ((refine evL_c ?_); simp [h11, h15]) | ((refine evL_g rfl ?_); (try simp only [gs_tt, gs_ff, gs_tf, gs_ft]); (try simp [h11, h15])) | (refine evL_u rfl ?_) | ((with_reducible refine gsplit (fun hg => ?_) (fun hg => ?_)) <;> (try simp at hg) <;> (try simp [h11, h15])) | (with_reducible refine And.intro ?_ ?_) | intro _ | (with_reducible assumption) | omega | (show (_ : Nat) < _; simp [h11, h15] <;> omega) | (show (_ : Int) < _; simp [h11, h15] <;> omega)
      all_goals (refine Fin.go hK ?_; clear hK K)
      simp only [Then_normal]
      refine Run.cond rfl (fun h19 => ?_) (fun h19 => ?_)
      · try simp [e1] at h19
        rw [wrap_id (by omega) (by omega)] at h19
        refine Run.goto ?_
        simp (decide := true) only [Then_goto, Blok_goto, Fwd_goto]
        refine Run.seq ?_
        refine Run.skip ?_
        simp only [Then_normal]
        refine Run.seq ?_
        refine Run.seq ?_
        refine Run.opsM false [⟨Op.move (Operand.tmp 0), some 25, none⟩, ⟨Op.call { callee := Callee.builtin Builtin.len, args := #[Operand.tmp 25], argTypes := #[51] }, some 26, none⟩, ⟨Op.move (Operand.const (Value.int IntKind.i64 0)), some 27, none⟩] mixed (by decide) rfl fun K hK => ?_
        try simp
        repeat' first | ((refine evL_c ?_); simp [h11, h15]) | ((refine evL_g rfl ?_); (try simp only [gs_tt, gs_ff, gs_tf, gs_ft]); (try simp [h11, h15])) | (refine evL_u rfl ?_) | ((with_reducible refine gsplit (fun hg => ?_) (fun hg => ?_)) <;> (try simp at hg) <;> (try simp [h11, h15])) | (with_reducible refine And.intro ?_ ?_) | intro _ | (with_reducible assumption) | omega | (show (_ : Nat) < _; simp [h11, h15] <;> omega) | (show (_ : Int) < _; simp [h11, h15] <;> omega)
        all_goals (refine Fin.go hK ?_; clear hK K)
        simp only [Then_normal]
        refine Run.block ?_
        refine Run.loopO [2, 7, 27, 28, 29, 30, 31, 32, 33] (fun (k : Nat) => [(27, .int k)]) (fun (k : Nat) => []) (fun (k : Nat) => k ≤ l.length ∧ ∀ j, j < k → rdI l (j : Nat) ≠ 0) (fun (k : Nat) => l.length - k) 0 (by simp) (by simp) fun k ⟨hk, hkz⟩ => ?_
        simp only [over, List.foldl, List.set]
        refine Run.seq ?_
        refine Run.opsM false [⟨Op.binOp BinOp.lss 3 (Operand.tmp 27) (Operand.tmp 26) 3, some 28, none⟩] mixed (by decide) rfl fun K hK => ?_
        try simp
        repeat' first | ((refine evL_c ?_); simp [h11, h15]) | ((refine evL_g rfl ?_); (try simp only [gs_tt, gs_ff, gs_tf, gs_ft]); (try simp [h11, h15])) | (refine evL_u rfl ?_) | ((with_reducible refine gsplit (fun hg => ?_) (fun hg => ?_)) <;> (try simp at hg) <;> (try simp [h11, h15])) | (with_reducible refine And.intro ?_ ?_) | intro _ | (with_reducible assumption) | omega | (show (_ : Nat) < _; simp [h11, h15] <;> omega) | (show (_ : Int) < _; simp [h11, h15] <;> omega)
        all_goals (refine Fin.go hK ?_; clear hK K)
        simp only [Then_normal]
        refine Run.seq ?_
        refine Run.cond rfl (fun h28 => ?_) (fun h28 => ?_)
        · try simp at h28
          refine Run.skip ?_
          simp only [Then_normal]
          refine Run.seq ?_
          refine Run.block ?_
          refine Run.seq ?_
          refine Run.opsM false [⟨Op.indexAddr 51 (Operand.tmp 25) (Operand.tmp 27), some 29, none⟩, ⟨Op.load 2 (Operand.tmp 29), some 30, none⟩, ⟨Op.assign (Operand.tmp 30), some 7, none⟩] mixed (by decide) rfl fun K hK => ?_
          try simp
          repeat' first | ((refine evL_c ?_); simp [h11, h15, h28]) | ((refine evL_g rfl ?_); (try simp only [gs_tt, gs_ff, gs_tf, gs_ft]); (try simp [h11, h15, h28])) | (refine evL_u rfl ?_) | ((with_reducible refine gsplit (fun hg => ?_) (fun hg => ?_)) <;> (try simp at hg) <;> (try simp [h11, h15, h28])) | (with_reducible refine And.intro ?_ ?_) | intro _ | (with_reducible assumption) | omega | (show (_ : Nat) < _; simp [h11, h15, h28] <;> omega) | (show (_ : Int) < _; simp [h11, h15, h28] <;> omega)
          all_goals (refine Fin.go hK ?_; clear hK K)
          simp only [Then_normal]
          refine Run.seq ?_
          refine Run.opsM false [⟨Op.move (Operand.tmp 7), some 31, none⟩, ⟨Op.binOp BinOp.eql 2 (Operand.tmp 31) (Operand.const (Value.int IntKind.i64 0)) 2, some 32, none⟩] mixed (by decide) rfl fun K hK => ?_
          try simp
          repeat' first | ((refine evL_c ?_); simp [h11, h15, h28]) | ((refine evL_g rfl ?_); (try simp only [gs_tt, gs_ff, gs_tf, gs_ft]); (try simp [h11, h15, h28])) | (refine evL_u rfl ?_) | ((with_reducible refine gsplit (fun hg => ?_) (fun hg => ?_)) <;> (try simp at hg) <;> (try simp [h11, h15, h28])) | (with_reducible refine And.intro ?_ ?_) | intro _ | (with_reducible assumption) | omega | (show (_ : Nat) < _; simp [h11, h15, h28] <;> omega) | (show (_ : Int) < _; simp [h11, h15, h28] <;> omega)
          all_goals (refine Fin.go hK ?_; clear hK K)
          simp only [Then_normal]
          refine Run.cond rfl (fun h32 => ?_) (fun h32 => ?_)
          · try simp at h32
            refine Run.seq ?_
            refine Run.opsM false [⟨Op.assign (Operand.const (Value.int IntKind.i64 0)), some 2, none⟩] mixed (by decide) rfl fun K hK => ?_
            try simp
            repeat' first | ((refine evL_c ?_); simp [h11, h15, h28, h32]) | ((refine evL_g rfl ?_); (try simp only [gs_tt, gs_ff, gs_tf, gs_ft]); (try simp [h11, h15, h28, h32])) | (refine evL_u rfl ?_) | ((with_reducible refine gsplit (fun hg => ?_) (fun hg => ?_)) <;> (try simp at hg) <;> (try simp [h11, h15, h28, h32])) | (with_reducible refine And.intro ?_ ?_) | intro _ | (with_reducible assumption) | omega | (show (_ : Nat) < _; simp [h11, h15, h28, h32] <;> omega) | (show (_ : Int) < _; simp [h11, h15, h28, h32] <;> omega)
            all_goals (refine Fin.go hK ?_; clear hK K)
            simp only [Then_normal]
            refine Run.ret ?_
            try simp only [Then_ret, Blok_ret]
            try simp only [NoGoto_ret]
            first
              | (have e : prodS 1 l = 0 := by rw [← hp, drop_rd h11]; simp [prodS, h15]
                 simp [e]; done)
              | (have hk1 : i + 1 ≤ k := by
                   rcases Nat.lt_or_ge k (i + 1) with q | q
                   · by_cases e : k = i
                     · subst e; exact absurd h32 h15
                     · exact absurd h32 (hz k (by simp; omega))
                   · exact q
                 have hm := mem_drop_rd h28 hk1
                 rw [h32] at hm
                 have e : prodS 1 l = 0 := by rw [← hp, drop_rd h11]; simp only [prodS]; rw [if_neg h15, if_pos h19, if_pos hm]
                 simp [e]; done)
              | (have e : prodS 1 l = 1099511627776 := by rw [← hp, drop_rd h11]; simp only [prodS]; rw [if_neg h15, if_pos h19, if_neg (no_zero (fun j hj => hkz j (by omega)) _)]
                 simp [e]; done)
              | (have e : prodS 1 l = n := by rw [← hp, List.drop_of_length_le (by simp; omega)]; rfl
                 simp [e])
          · try simp at h32
            refine Run.skip ?_
            simp only [Blok_normal]
            simp only [Then_normal]
            refine Run.opsM false [⟨Op.binOp BinOp.add 3 (Operand.tmp 27) (Operand.const (Value.int IntKind.i64 1)) 3, some 33, none⟩, ⟨Op.move (Operand.tmp 33), some 27, none⟩] mixed (by decide) rfl fun K hK => ?_
            try simp
            repeat' first | ((refine evL_c ?_); simp [h11, h15, h28, h32]) | ((refine evL_g rfl ?_); (try simp only [gs_tt, gs_ff, gs_tf, gs_ft]); (try simp [h11, h15, h28, h32])) | (refine evL_u rfl ?_) | ((with_reducible refine gsplit (fun hg => ?_) (fun hg => ?_)) <;> (try simp at hg) <;> (try simp [h11, h15, h28, h32])) | (with_reducible refine And.intro ?_ ?_) | intro _ | (with_reducible assumption) | omega | (show (_ : Nat) < _; simp [h11, h15, h28, h32] <;> omega) | (show (_ : Int) < _; simp [h11, h15, h28, h32] <;> omega)
            all_goals (refine Fin.go hK ?_; clear hK K)
            refine ⟨k + 1, ⟨by omega, fun j hj => ?_⟩, by omega, ?_⟩
            · by_cases e : j = k
              · subst e; exact h32
              · exact hkz j (by omega)
            · simp (disch := omega) [wrap_id]
        · try simp at h28
          refine Run.exit ?_
          simp (decide := true) only [Then_exit, Blok_exit, if_true, if_false]
          simp only [Then_normal]
          refine Run.seq ?_
          refine Run.opsM false [⟨Op.assign (Operand.const (Value.int IntKind.i64 1099511627776)), some 2, none⟩] mixed (by decide) rfl fun K hK => ?_
          try simp
          repeat' first | ((refine evL_c ?_); simp [h11, h15, h28]) | ((refine evL_g rfl ?_); (try simp only [gs_tt, gs_ff, gs_tf, gs_ft]); (try simp [h11, h15, h28])) | (refine evL_u rfl ?_) | ((with_reducible refine gsplit (fun hg => ?_) (fun hg => ?_)) <;> (try simp at hg) <;> (try simp [h11, h15, h28])) | (with_reducible refine And.intro ?_ ?_) | intro _ | (with_reducible assumption) | omega | (show (_ : Nat) < _; simp [h11, h15, h28] <;> omega) | (show (_ : Int) < _; simp [h11, h15, h28] <;> omega)
          all_goals (refine Fin.go hK ?_; clear hK K)
          simp only [Then_normal]
          refine Run.ret ?_
          try simp only [Then_ret, Blok_ret]
          try simp only [NoGoto_ret]
          first
            | (have e : prodS 1 l = 0 := by rw [← hp, drop_rd h11]; simp [prodS, h15]
               simp [e]; done)
            | (have hk1 : i + 1 ≤ k := by
                 rcases Nat.lt_or_ge k (i + 1) with q | q
                 · by_cases e : k = i
                   · subst e; exact absurd h32 h15
                   · exact absurd h32 (hz k (by simp; omega))
                 · exact q
               have hm := mem_drop_rd h28 hk1
               rw [h32] at hm
               have e : prodS 1 l = 0 := by rw [← hp, drop_rd h11]; simp only [prodS]; rw [if_neg h15, if_pos h19, if_pos hm]
               simp [e]; done)
            | (have e : prodS 1 l = 1099511627776 := by rw [← hp, drop_rd h11]; simp only [prodS]; rw [if_neg h15, if_pos h19, if_neg (no_zero (fun j hj => hkz j (by omega)) _)]
               simp [e]; done)
            | (have e : prodS 1 l = n := by rw [← hp, List.drop_of_length_le (by simp; omega)]; rfl
               simp [e])
      · try simp [e1] at h19
        rw [wrap_id (by omega) (by omega)] at h19
        refine Run.skip ?_
        simp only [Then_normal]
        refine Run.opsM false [⟨Op.move (Operand.tmp 3), some 20, none⟩, ⟨Op.move (Operand.tmp 5), some 21, none⟩, ⟨Op.binOp BinOp.mul 2 (Operand.tmp 20) (Operand.tmp 21) 2, some 22, none⟩, ⟨Op.assign (Operand.tmp 22), some 3, none⟩] mixed (by decide) rfl fun K hK => ?_
        try simp
        repeat' first | ((refine evL_c ?_); simp [h11, h15]) | ((refine evL_g rfl ?_); (try simp only [gs_tt, gs_ff, gs_tf, gs_ft]); (try simp [h11, h15])) | (refine evL_u rfl ?_) | ((with_reducible refine gsplit (fun hg => ?_) (fun hg => ?_)) <;> (try simp at hg) <;> (try simp [h11, h15])) | (with_reducible refine And.intro ?_ ?_) | intro _ | (with_reducible assumption) | omega | (show (_ : Nat) < _; simp [h11, h15] <;> omega) | (show (_ : Int) < _; simp [h11, h15] <;> omega)
        all_goals (refine Fin.go hK ?_; clear hK K)
        simp only [Blok_normal]
        simp only [Then_normal]
        refine Run.opsM false [⟨Op.binOp BinOp.add 3 (Operand.tmp 10) (Operand.const (Value.int IntKind.i64 1)) 3, some 23, none⟩, ⟨Op.move (Operand.tmp 23), some 10, none⟩] mixed (by decide) rfl fun K hK => ?_
        try simp
        repeat' first | ((refine evL_c ?_); simp [h11, h15]) | ((refine evL_g rfl ?_); (try simp only [gs_tt, gs_ff, gs_tf, gs_ft]); (try simp [h11, h15])) | (refine evL_u rfl ?_) | ((with_reducible refine gsplit (fun hg => ?_) (fun hg => ?_)) <;> (try simp at hg) <;> (try simp [h11, h15])) | (with_reducible refine And.intro ?_ ?_) | intro _ | (with_reducible assumption) | omega | (show (_ : Nat) < _; simp [h11, h15] <;> omega) | (show (_ : Int) < _; simp [h11, h15] <;> omega)
        all_goals (refine Fin.go hK ?_; clear hK K)
        have hm := prod_step (n := n) hr.1 hf h19
        refine ⟨(i + 1, n * rdI l i), ⟨by simp; omega, hm, ?_, fun j hj => ?_⟩, by simp; omega, ?_⟩
        · rw [← hp, drop_rd h11]; simp only [prodS]; rw [if_neg h15, if_neg (by omega)]
        · by_cases e : j = i
          · subst e; exact h15
          · exact hz j (by simp at hj; omega)
        · simp (disch := omega) [wrap_id]
  · try simp at h11
    refine Run.exit ?_
    simp (decide := true) only [Then_exit, Blok_exit, if_true, if_false]
    simp only [Then_normal]
    refine Run.seq ?_
    refine Run.seq ?_
    refine Run.opsM false [⟨Op.move (Operand.tmp 3), some 24, none⟩, ⟨Op.assign (Operand.tmp 24), some 2, none⟩] mixed (by decide) rfl fun K hK => ?_
    try simp
    repeat' first | ((refine evL_c ?_); simp [h11]) | ((refine evL_g rfl ?_); (try simp only [gs_tt, gs_ff, gs_tf, gs_ft]); (try simp [h11])) | (refine evL_u rfl ?_) | ((with_reducible refine gsplit (fun hg => ?_) (fun hg => ?_)) <;> (try simp at hg) <;> (try simp [h11])) | (with_reducible refine And.intro ?_ ?_) | intro _ | (with_reducible assumption) | omega | (show (_ : Nat) < _; simp [h11] <;> omega) | (show (_ : Int) < _; simp [h11] <;> omega)
    all_goals (refine Fin.go hK ?_; clear hK K)
    simp only [Then_normal]
    refine Run.ret ?_
    try simp only [Then_ret, Blok_ret]
    try simp only [Fwd_ret]
    first
      | (have e : prodS 1 l = 0 := by rw [← hp, drop_rd h11]; simp [prodS, h15]
         simp [e]; done)
      | (have hk1 : i + 1 ≤ k := by
           rcases Nat.lt_or_ge k (i + 1) with q | q
           · by_cases e : k = i
             · subst e; exact absurd h32 h15
             · exact absurd h32 (hz k (by simp; omega))
           · exact q
         have hm := mem_drop_rd h28 hk1
         rw [h32] at hm
         have e : prodS 1 l = 0 := by rw [← hp, drop_rd h11]; simp only [prodS]; rw [if_neg h15, if_pos h19, if_pos hm]
         simp [e]; done)
      | (have e : prodS 1 l = 1099511627776 := by rw [← hp, drop_rd h11]; simp only [prodS]; rw [if_neg h15, if_pos h19, if_neg (no_zero (fun j hj => hkz j (by omega)) _)]
         simp [e]; done)
      | (have e : prodS 1 l = n := by rw [← hp, List.drop_of_length_le (by simp; omega)]; rfl
         simp [e])


theorem prod2D_ok (a b : Int) (ha : 0 ≤ a ∧ a ≤ 1099511627776) (hb : 0 ≤ b ∧ b ≤ 1099511627776) : Snd P 66 [.d (.sl false [[D.int a], [D.int b]])] (.int (mulS a b)) [] := by
  have h := productD_ok false [a, b] (by intro x hx; simp at hx; rcases hx with rfl | rfl <;> assumption) (by simp)
  rw [prod_two ha.1 ha.2 hb.1 hb.2] at h
  exact h
end Go.Proofs.Ytihbejpkfifplaa.Z
