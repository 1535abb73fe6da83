/- The document's pattern. -/
import Derived.Test.YtihbejpkfifplaaPd
set_option linter.unusedVariables false
set_option linter.unusedSimpArgs false
set_option maxRecDepth 100000
namespace Go.Proofs.Ytihbejpkfifplaa.Z
open Go Go.Fw
theorem pat_bad {c : CoreT} {i : Nat} (hi : i < c.edges.length) (h : badE c.nodes.length (rdI c.edges i) = true) : patS c.nodes c.edges = false := by
  have : c.edges.any (badE c.nodes.length) = true := List.any_eq_true.2 ⟨_, rdI_mem (l := c.edges) (i := i) (by omega) (by omega), h⟩
  simp [patS, this]
theorem pat_good {c : CoreT} (h1 : 1 ≤ c.nodes.length) (h2 : c.nodes.length ≤ 8) (h3 : c.edges.length ≤ 8) (h : ∀ j, j < c.edges.length → badE c.nodes.length (rdI c.edges (j : Nat)) = false) : patS c.nodes c.edges = true := by
  have : c.edges.any (badE c.nodes.length) = false := by
    rw [List.any_eq_false]
    intro x hx
    obtain ⟨j, hj⟩ := List.getElem?_of_mem hx
    have := h j (List.getElem?_eq_some_iff.1 hj).1
    unfold rdI at this
    rw [Int.toNat_natCast, List.getD_eq_getElem?_getD, hj] at this
    simpa using this
  simp [patS, this, h1, h2, h3]
set_option maxHeartbeats 4000000 in
theorem rpattern_ok (c : CoreT) : Snd P 29 [.d (.ag (encC c))] (.bool (patS c.nodes c.edges)) [] := by
  obtain ⟨n, hn⟩ : ∃ n, c.nodes.length = n := ⟨_, rfl⟩
  obtain ⟨m, hm⟩ : ∃ m, c.edges.length = m := ⟨_, rfl⟩
  refine snd_of [] Try.func29 rfl (by kernel_rfl) Try.ntmps29 (by simp) ?_
  unfold Try.f29
  simp only [List.cons_append, List.nil_append, List.length_cons, List.length_nil, Nat.reduceAdd, Nat.reduceSub, List.replicate]
  refine Run.seq ?_
  refine Run.opsL false [⟨Op.box 33 (Operand.tmp 0), some 1, none⟩, ⟨Op.assign (Operand.const (Value.bool false)), some 2, none⟩] mixed (by decide) rfl fun K hK => ?_
  try simp
  repeat' first | (simp only [evL_cons, evL_guard]; simp [hn, hm]) | (refine gsplit (fun hg => ?_) (fun hg => ?_) <;> (try simp at hg) <;> (try simp [hn, hm])) | (with_reducible assumption) | omega | refine And.intro ?_ ?_ | intro _
  all_goals (try simp only [evL_nil]; refine hK _ _ ?_; clear hK K)
  simp only [Then_normal]
  refine Run.seq ?_
  refine Run.opsL false [⟨Op.fieldAddr 33 (Operand.tmp 1) 0, some 6, none⟩, ⟨Op.load 28 (Operand.tmp 6), some 7, none⟩, ⟨Op.call { callee := Callee.builtin Builtin.len, args := #[Operand.tmp 7], argTypes := #[28] }, some 8, none⟩, ⟨Op.assign (Operand.tmp 8), some 3, none⟩] mixed (by decide) rfl fun K hK => ?_
  try simp
  repeat' first | (simp only [evL_cons, evL_guard]; simp [hn, hm]) | (refine gsplit (fun hg => ?_) (fun hg => ?_) <;> (try simp at hg) <;> (try simp [hn, hm])) | (with_reducible assumption) | omega | refine And.intro ?_ ?_ | intro _
  all_goals (try simp only [evL_nil]; refine hK _ _ ?_; clear hK K)
  simp only [Then_normal]
  refine Run.seq ?_
  refine Run.cut [9, 10, 11, 12, 13, 14, 15, 16, 17, 18, 19, 20] [(20, .bool (decide (n < 1 ∨ 8 < n ∨ 8 < m)))] [(200, .vals ((encC c).map .d))] ?_ ?_
  · refine Run.opsL false [⟨Op.move (Operand.tmp 3), some 9, none⟩, ⟨Op.binOp BinOp.lss 3 (Operand.tmp 9) (Operand.const (Value.int IntKind.i64 1)) 3, some 10, none⟩, ⟨Op.move (Operand.tmp 10), some 11, none⟩, ⟨Op.move (Operand.tmp 3), some 12, some (some 11, false)⟩, ⟨Op.binOp BinOp.gtr 3 (Operand.tmp 12) (Operand.const (Value.int IntKind.i64 8)) 3, some 13, some (some 11, false)⟩, ⟨Op.pick (Operand.tmp 11) (Operand.const (Value.bool true)) (Operand.tmp 13), some 14, none⟩, ⟨Op.move (Operand.tmp 14), some 15, none⟩, ⟨Op.fieldAddr 33 (Operand.tmp 1) 1, some 16, some (some 15, false)⟩, ⟨Op.load 29 (Operand.tmp 16), some 17, some (some 15, false)⟩, ⟨Op.call { callee := Callee.builtin Builtin.len, args := #[Operand.tmp 17], argTypes := #[29] }, some 18, some (some 15, false)⟩, ⟨Op.binOp BinOp.gtr 3 (Operand.tmp 18) (Operand.const (Value.int IntKind.i64 8)) 3, some 19, some (some 15, false)⟩, ⟨Op.pick (Operand.tmp 15) (Operand.const (Value.bool true)) (Operand.tmp 19), some 20, none⟩] mixed (by decide) rfl fun K hK => ?_
    try simp
    repeat' first | (simp only [evL_cons, evL_guard]; simp [hn, hm]) | (refine gsplit (fun hg => ?_) (fun hg => ?_) <;> (try simp at hg) <;> (try simp [hn, hm])) | (with_reducible assumption) | omega | refine And.intro ?_ ?_ | intro _
    all_goals (try simp only [evL_nil]; refine hK _ _ ?_; clear hK K)
    all_goals
      simp [hn, hm]
      first | omega | (rw [Bool.eq_iff_iff]; simp; omega) | (intros; omega) | (trace_state; sorry)
  · simp only [over, List.foldl, List.set]
    refine Run.cond rfl (fun h20 => ?_) (fun h20 => ?_)
    · replace h20 := of_decide_eq_true h20
      refine Run.seq ?_
      refine Run.opsL false [⟨Op.assign (Operand.const (Value.bool false)), some 2, none⟩] mixed (by decide) rfl fun K hK => ?_
      try simp
      repeat' first | (simp only [evL_cons, evL_guard]; simp [hn, hm]) | (refine gsplit (fun hg => ?_) (fun hg => ?_) <;> (try simp at hg) <;> (try simp [hn, hm])) | (with_reducible assumption) | omega | refine And.intro ?_ ?_ | intro _
      all_goals (try simp only [evL_nil]; refine hK _ _ ?_; clear hK K)
      simp only [Then_normal]
      refine Run.ret ?_
      try simp only [Then_ret, Blok_ret]
      first
        | (have e : patS c.nodes c.edges = false := by
             simp only [patS, Bool.and_eq_false_iff, decide_eq_false_iff_not]; omega
           simp [e]; done)
        | (have e : patS c.nodes c.edges = false := pat_bad (by omega) h52
           simp [e]; done)
        | (have e : patS c.nodes c.edges = true := pat_good (by omega) (by omega) he8 (fun j hj => hz j (by omega))
           simp [e])
    · replace h20 := of_decide_eq_false h20
      have hn1 : 1 ≤ c.nodes.length := by omega
      have hn2 : c.nodes.length ≤ 8 := by omega
      have he8 : c.edges.length ≤ 8 := by omega
      clear h20
      refine Run.skip ?_
      simp only [Then_normal]
      refine Run.seq ?_
      refine Run.seq ?_
      refine Run.opsL false [⟨Op.assign (Operand.const (Value.int IntKind.i64 0)), some 4, none⟩] mixed (by decide) rfl fun K hK => ?_
      try simp
      repeat' first | (simp only [evL_cons, evL_guard]; simp [hn, hm]) | (refine gsplit (fun hg => ?_) (fun hg => ?_) <;> (try simp at hg) <;> (try simp [hn, hm])) | (with_reducible assumption) | omega | refine And.intro ?_ ?_ | intro _
      all_goals (try simp only [evL_nil]; refine hK _ _ ?_; clear hK K)
      simp only [Then_normal]
      refine Run.block ?_
      refine Run.loopO [2, 4, 5, 21, 22, 23, 24, 25, 26, 27, 28, 29, 30, 31, 32, 33, 34, 35, 36, 37, 38, 39, 40, 41, 42, 43, 44, 45, 46, 47, 48, 49, 50, 51, 52] (fun (i : Nat) => [(4, .int i)]) (fun (i : Nat) => [(200, .vals ((encC c).map .d))]) (fun (i : Nat) => i ≤ c.edges.length ∧ ∀ j, j < i → badE c.nodes.length (rdI c.edges (j : Nat)) = false) (fun (i : Nat) => c.edges.length - i) 0 (by simp) (by simp) fun i ⟨hi, hz⟩ => ?_
      simp only [over, List.foldl, List.set]
      refine Run.seq ?_
      refine Run.seq ?_
      refine Run.opsL false [⟨Op.move (Operand.tmp 4), some 21, none⟩, ⟨Op.fieldAddr 33 (Operand.tmp 1) 1, some 22, none⟩, ⟨Op.load 29 (Operand.tmp 22), some 23, none⟩, ⟨Op.call { callee := Callee.builtin Builtin.len, args := #[Operand.tmp 23], argTypes := #[29] }, some 24, none⟩, ⟨Op.binOp BinOp.lss 3 (Operand.tmp 21) (Operand.tmp 24) 3, some 25, none⟩] mixed (by decide) rfl fun K hK => ?_
      try simp
      repeat' first | (simp only [evL_cons, evL_guard]; simp [hn, hm]) | (refine gsplit (fun hg => ?_) (fun hg => ?_) <;> (try simp at hg) <;> (try simp [hn, hm])) | (with_reducible assumption) | omega | refine And.intro ?_ ?_ | intro _
      all_goals (try simp only [evL_nil]; refine hK _ _ ?_; clear hK K)
      simp only [Then_normal]
      refine Run.cond rfl (fun h25 => ?_) (fun h25 => ?_)
      · try simp at h25
        refine Run.skip ?_
        simp only [Then_normal]
        refine Run.seq ?_
        refine Run.block ?_
        refine Run.seq ?_
        refine Run.opsL false [⟨Op.fieldAddr 33 (Operand.tmp 1) 1, some 28, none⟩, ⟨Op.load 29 (Operand.tmp 28), some 29, none⟩, ⟨Op.move (Operand.tmp 4), some 30, none⟩, ⟨Op.indexAddr 29 (Operand.tmp 29) (Operand.tmp 30), some 31, none⟩, ⟨Op.load 105 (Operand.tmp 31), some 32, none⟩, ⟨Op.alloc 105, some 5, none⟩, ⟨Op.store 105 (Operand.tmp 5) (Operand.tmp 32), none, none⟩] mixed (by decide) rfl fun K hK => ?_
        try simp
        repeat' first | (simp only [evL_cons, evL_guard]; simp [hn, hm, h25]) | (refine gsplit (fun hg => ?_) (fun hg => ?_) <;> (try simp at hg) <;> (try simp [hn, hm, h25])) | (with_reducible assumption) | omega | refine And.intro ?_ ?_ | intro _
        all_goals (try simp only [evL_nil]; refine hK _ _ ?_; clear hK K)
        simp only [Then_normal]
        refine Run.cut [33, 34, 35, 36, 37, 38, 39, 40, 41, 42, 43, 44, 45, 46, 47, 48, 49, 50, 51, 52] [(52, .bool (badE c.nodes.length (rdI c.edges i)))] [(200, .vals ((encC c).map .d))] ?_ ?_
        · refine Run.opsL false [⟨Op.fieldAddr 105 (Operand.tmp 5) 2, some 33, none⟩, ⟨Op.load 3 (Operand.tmp 33), some 34, none⟩, ⟨Op.binOp BinOp.lss 3 (Operand.tmp 34) (Operand.const (Value.int IntKind.i64 0)) 3, some 35, none⟩, ⟨Op.move (Operand.tmp 35), some 36, none⟩, ⟨Op.fieldAddr 105 (Operand.tmp 5) 2, some 37, some (some 36, false)⟩, ⟨Op.load 3 (Operand.tmp 37), some 38, some (some 36, false)⟩, ⟨Op.move (Operand.tmp 3), some 39, some (some 36, false)⟩, ⟨Op.binOp BinOp.geq 3 (Operand.tmp 38) (Operand.tmp 39) 3, some 40, some (some 36, false)⟩, ⟨Op.pick (Operand.tmp 36) (Operand.const (Value.bool true)) (Operand.tmp 40), some 41, none⟩, ⟨Op.move (Operand.tmp 41), some 42, none⟩, ⟨Op.fieldAddr 105 (Operand.tmp 5) 3, some 43, some (some 42, false)⟩, ⟨Op.load 3 (Operand.tmp 43), some 44, some (some 42, false)⟩, ⟨Op.binOp BinOp.lss 3 (Operand.tmp 44) (Operand.const (Value.int IntKind.i64 0)) 3, some 45, some (some 42, false)⟩, ⟨Op.pick (Operand.tmp 42) (Operand.const (Value.bool true)) (Operand.tmp 45), some 46, none⟩, ⟨Op.move (Operand.tmp 46), some 47, none⟩, ⟨Op.fieldAddr 105 (Operand.tmp 5) 3, some 48, some (some 47, false)⟩, ⟨Op.load 3 (Operand.tmp 48), some 49, some (some 47, false)⟩, ⟨Op.move (Operand.tmp 3), some 50, some (some 47, false)⟩, ⟨Op.binOp BinOp.geq 3 (Operand.tmp 49) (Operand.tmp 50) 3, some 51, some (some 47, false)⟩, ⟨Op.pick (Operand.tmp 47) (Operand.const (Value.bool true)) (Operand.tmp 51), some 52, none⟩] mixed (by decide) rfl fun K hK => ?_
          try simp
          repeat' first | (simp only [evL_cons, evL_guard]; simp [hn, hm, h25]) | (refine gsplit (fun hg => ?_) (fun hg => ?_) <;> (try simp at hg) <;> (try simp [hn, hm, h25])) | (with_reducible assumption) | omega | refine And.intro ?_ ?_ | intro _
          all_goals (try simp only [evL_nil]; refine hK _ _ ?_; clear hK K)
          all_goals
            first | (simp_all [badE]; done) | (simp_all [badE]; omega) | (simp_all [badE]; grind)
        · simp only [over, List.foldl, List.set]
          refine Run.cond rfl (fun h52 => ?_) (fun h52 => ?_)
          · try simp at h52
            refine Run.seq ?_
            refine Run.opsL false [⟨Op.assign (Operand.const (Value.bool false)), some 2, none⟩] mixed (by decide) rfl fun K hK => ?_
            try simp
            repeat' first | (simp only [evL_cons, evL_guard]; simp [hn, hm, h25, h52]) | (refine gsplit (fun hg => ?_) (fun hg => ?_) <;> (try simp at hg) <;> (try simp [hn, hm, h25, h52])) | (with_reducible assumption) | omega | refine And.intro ?_ ?_ | intro _
            all_goals (try simp only [evL_nil]; refine hK _ _ ?_; clear hK K)
            simp only [Then_normal]
            refine Run.ret ?_
            try simp only [Then_ret, Blok_ret]
            first
              | (have e : patS c.nodes c.edges = false := by
                   simp only [patS, Bool.and_eq_false_iff, decide_eq_false_iff_not]; omega
                 simp [e]; done)
              | (have e : patS c.nodes c.edges = false := pat_bad (by omega) h52
                 simp [e]; done)
              | (have e : patS c.nodes c.edges = true := pat_good (by omega) (by omega) he8 (fun j hj => hz j (by omega))
                 simp [e])
          · try simp at h52
            refine Run.skip ?_
            simp only [Blok_normal]
            simp only [Then_normal]
            refine Run.opsL false [⟨Op.move (Operand.tmp 4), some 26, none⟩, ⟨Op.binOp BinOp.add 3 (Operand.tmp 26) (Operand.const (Value.int IntKind.i64 1)) 3, some 27, none⟩, ⟨Op.assign (Operand.tmp 27), some 4, none⟩] mixed (by decide) rfl fun K hK => ?_
            try simp
            repeat' first | (simp only [evL_cons, evL_guard]; simp [hn, hm, h25, h52]) | (refine gsplit (fun hg => ?_) (fun hg => ?_) <;> (try simp at hg) <;> (try simp [hn, hm, h25, h52])) | (with_reducible assumption) | omega | refine And.intro ?_ ?_ | intro _
            all_goals (try simp only [evL_nil]; refine hK _ _ ?_; clear hK K)
            refine ⟨i + 1, ⟨by omega, fun j hj => ?_⟩, by omega, ?_⟩
            · by_cases e : j = i
              · subst e; exact h52
              · exact hz j (by omega)
            · simp (disch := omega) [wrap_id]
      · try simp at h25
        refine Run.exit ?_
        simp (decide := true) only [Then_exit, Blok_exit, if_true, if_false]
        simp only [Then_normal]
        refine Run.seq ?_
        refine Run.opsL false [⟨Op.assign (Operand.const (Value.bool true)), some 2, none⟩] mixed (by decide) rfl fun K hK => ?_
        try simp
        repeat' first | (simp only [evL_cons, evL_guard]; simp [hn, hm, h25]) | (refine gsplit (fun hg => ?_) (fun hg => ?_) <;> (try simp at hg) <;> (try simp [hn, hm, h25])) | (with_reducible assumption) | omega | refine And.intro ?_ ?_ | intro _
        all_goals (try simp only [evL_nil]; refine hK _ _ ?_; clear hK K)
        simp only [Then_normal]
        refine Run.ret ?_
        try simp only [Then_ret, Blok_ret]
        first
          | (have e : patS c.nodes c.edges = false := by
               simp only [patS, Bool.and_eq_false_iff, decide_eq_false_iff_not]; omega
             simp [e]; done)
          | (have e : patS c.nodes c.edges = false := pat_bad (by omega) h52
             simp [e]; done)
          | (have e : patS c.nodes c.edges = true := pat_good (by omega) (by omega) he8 (fun j hj => hz j (by omega))
             simp [e])


end Go.Proofs.Ytihbejpkfifplaa.Z
