/- An estimate's kinds. -/
import Derived.Test.YtihbejpkfifplaaPt
set_option linter.unusedVariables false
set_option linter.unusedSimpArgs false
set_option maxRecDepth 100000
namespace Go.Proofs.Ytihbejpkfifplaa.Z
open Go Go.Fw
set_option maxHeartbeats 4000000 in
theorem est1_ok (c : CoreT) (s : StatsT) (p : PlanT) (hP : patS c.nodes c.edges = true) (hop : p.op = 1) (hkl : p.kids.length = 0) (hs0 : 0 ≤ p.slot) (hs1 : p.slot < c.nodes.length) : Snd P 32 [.d (.ag (encC c ++ encS s)), .d (.ag (encP p))] (.int (nodesS c s p.slot)) [] := by
  have hN := nodesS_ok c s p.slot hs0 hs1
  refine snd_of [] Try.func32 rfl (by kernel_rfl) Try.ntmps32 (by simp) ?_
  unfold Try.f32
  simp only [List.cons_append, List.nil_append, List.length_cons, List.length_nil, Nat.reduceAdd, Nat.reduceSub, List.replicate]
  refine Run.seq ?_
  refine Run.opsM false [⟨Op.box 82 (Operand.tmp 0), some 2, none⟩, ⟨Op.box 27 (Operand.tmp 1), some 3, none⟩, ⟨Op.assign (Operand.const (Value.int IntKind.i64 0)), some 4, none⟩] mixed (by decide) rfl fun K hK => ?_
  try simp
  repeat' first | ((refine evL_c ?_); simp [hop]) | (with_reducible refine And.intro ?_ ?_) | intro _ | (with_reducible assumption) | omega
  all_goals (refine Fin.go hK ?_; clear hK K)
  simp only [Then_normal]
  refine Run.seq ?_
  refine Run.seq ?_
  refine Run.opsM false [⟨Op.fieldAddr 27 (Operand.tmp 3) 0, some 21, none⟩, ⟨Op.load 22 (Operand.tmp 21), some 22, none⟩, ⟨Op.binOp BinOp.eql 22 (Operand.tmp 22) (Operand.const (Value.int IntKind.i64 1)) 22, some 23, none⟩] mixed (by decide) rfl fun K hK => ?_
  try simp
  repeat' first | ((refine evL_c ?_); simp [hop]) | (with_reducible refine And.intro ?_ ?_) | intro _ | (with_reducible assumption) | omega
  all_goals (refine Fin.go hK ?_; clear hK K)
  simp only [Then_normal]
  refine Run.cond rfl (fun h23 => ?_) (fun h23 => ?_)
  · skip
    refine Run.seq ?_
    refine Run.opsM false [⟨Op.load 82 (Operand.tmp 2), some 24, none⟩, ⟨Op.fieldAddr 27 (Operand.tmp 3) 2, some 25, none⟩, ⟨Op.load 3 (Operand.tmp 25), some 26, none⟩, ⟨Op.call { callee := Callee.value (Operand.func 63), args := #[Operand.tmp 24, Operand.tmp 26], argTypes := #[82, 3] }, some 27, none⟩, ⟨Op.assign (Operand.tmp 27), some 4, none⟩] mixed (by decide) rfl fun K hK => ?_
    try simp
    repeat' first | (refine ecallD (by exact hN) ?_) | ((refine evL_c ?_); simp [hop]) | (with_reducible refine And.intro ?_ ?_) | intro _ | (with_reducible assumption) | omega
    all_goals (refine Fin.go hK ?_; clear hK K)
    simp only [Then_normal]
    refine Run.ret ?_
    try simp only [Then_ret, Blok_ret]
    simp
  · simp at h23

set_option maxHeartbeats 4000000 in
theorem est6_ok (c : CoreT) (s : StatsT) (p : PlanT) (n0 : Int) (b0 : List Bool) (hP : patS c.nodes c.edges = true) (hop : p.op = 6) (hkl : p.kids.length = 1) (IH0 : Snd P 32 [.d (.ag (encC c ++ encS s)), .d (.ag (encP (rdI p.kids 0)))] (.int n0) []) (hn0 : 0 ≤ n0 ∧ n0 ≤ 1099511627776) (hB0 : Snd P 20 [.d (.ag (encP (rdI p.kids 0))), .d (.ag (encC c))] (.tup [.d (.sl false (b0.map encB)), .int 0]) []) (hb0 : b0.length = c.nodes.length + c.edges.length) : Snd P 32 [.d (.ag (encC c ++ encS s)), .d (.ag (encP p))] (.int (filtE n0 p.terms.length)) [] := by
  refine Snd.ok 1 rfl (by kernel_rfl) fun hok => ?_
  have htm := (encP_ok hok).2.2
  clear hok
  obtain ⟨-, hn8, hk8⟩ := pat_rng hP
  have hE := goodE_of hP
  obtain ⟨n, hn⟩ : ∃ k, c.nodes.length = k := ⟨_, rfl⟩
  obtain ⟨k, hk⟩ : ∃ k, c.edges.length = k := ⟨_, rfl⟩
  rw [hn] at hn8
  rw [hk] at hk8
  rw [hn, hk] at hb0
  have hI := IH0
  have hJ := hB0
  rw [encP_cells] at hI hJ
  obtain ⟨tl, htl⟩ : ∃ m, p.terms.length = m := ⟨_, rfl⟩
  rw [htl] at htm
  refine snd_of [] Try.func32 rfl (by kernel_rfl) Try.ntmps32 (by simp) ?_
  unfold Try.f32
  simp only [List.cons_append, List.nil_append, List.length_cons, List.length_nil, Nat.reduceAdd, Nat.reduceSub, List.replicate]
  refine Run.seq ?_
  refine Run.opsM false [⟨Op.box 82 (Operand.tmp 0), some 2, none⟩, ⟨Op.box 27 (Operand.tmp 1), some 3, none⟩, ⟨Op.assign (Operand.const (Value.int IntKind.i64 0)), some 4, none⟩] mixed (by decide) rfl fun K hK => ?_
  try simp
  repeat' first | ((refine evL_c ?_); simp [hn, hk, hop, hkl, hb0, htl]) | (with_reducible refine And.intro ?_ ?_) | intro _ | (with_reducible assumption) | omega
  all_goals (refine Fin.go hK ?_; clear hK K)
  simp only [Then_normal]
  refine Run.seq ?_
  refine Run.seq ?_
  refine Run.opsM false [⟨Op.fieldAddr 27 (Operand.tmp 3) 0, some 21, none⟩, ⟨Op.load 22 (Operand.tmp 21), some 22, none⟩, ⟨Op.binOp BinOp.eql 22 (Operand.tmp 22) (Operand.const (Value.int IntKind.i64 1)) 22, some 23, none⟩] mixed (by decide) rfl fun K hK => ?_
  try simp
  repeat' first | ((refine evL_c ?_); simp [hn, hk, hop, hkl, hb0, htl]) | (with_reducible refine And.intro ?_ ?_) | intro _ | (with_reducible assumption) | omega
  all_goals (refine Fin.go hK ?_; clear hK K)
  simp only [Then_normal]
  refine Run.cond rfl (fun h23 => ?_) (fun h23 => ?_)
  · simp at h23
  · skip
    refine Run.skip ?_
    simp only [Then_normal]
    refine Run.seq ?_
    refine Run.opsM false [⟨Op.fieldAddr 27 (Operand.tmp 3) 1, some 28, none⟩, ⟨Op.load 23 (Operand.tmp 28), some 29, none⟩, ⟨Op.indexAddr 23 (Operand.tmp 29) (Operand.const (Value.int IntKind.i64 0)), some 30, none⟩, ⟨Op.load 27 (Operand.tmp 30), some 31, none⟩, ⟨Op.alloc 27, some 5, none⟩, ⟨Op.store 27 (Operand.tmp 5) (Operand.tmp 31), none, none⟩] mixed (by decide) rfl fun K hK => ?_
    try simp
    repeat' first | ((refine evL_c ?_); simp [hn, hk, hop, hkl, hb0, htl]) | (with_reducible refine And.intro ?_ ?_) | intro _ | (with_reducible assumption) | omega
    all_goals (refine Fin.go hK ?_; clear hK K)
    simp only [Then_normal]
    refine Run.seq ?_
    refine Run.opsM false [⟨Op.load 82 (Operand.tmp 2), some 32, none⟩, ⟨Op.load 27 (Operand.tmp 5), some 33, none⟩, ⟨Op.call { callee := Callee.value (Operand.func 32), args := #[Operand.tmp 32, Operand.tmp 33], argTypes := #[82, 27] }, some 34, none⟩, ⟨Op.assign (Operand.tmp 34), some 6, none⟩] mixed (by decide) rfl fun K hK => ?_
    try simp
    repeat' first | (refine ecallD (by exact hI) ?_) | ((refine evL_c ?_); simp [hn, hk, hop, hkl, hb0, htl]) | (with_reducible refine And.intro ?_ ?_) | intro _ | (with_reducible assumption) | omega
    all_goals (refine Fin.go hK ?_; clear hK K)
    simp only [Then_normal]
    refine Run.seq ?_
    refine Run.opsM false [⟨Op.load 27 (Operand.tmp 5), some 36, none⟩, ⟨Op.fieldAddr 82 (Operand.tmp 2) 0, some 37, none⟩, ⟨Op.load 33 (Operand.tmp 37), some 38, none⟩, ⟨Op.call { callee := Callee.value (Operand.func 20), args := #[Operand.tmp 36, Operand.tmp 38], argTypes := #[27, 33] }, some 39, none⟩, ⟨Op.move (Operand.tmp 39), some 35, none⟩, ⟨Op.extract (Operand.tmp 35) 0, some 40, none⟩, ⟨Op.extract (Operand.tmp 35) 1, some 41, none⟩, ⟨Op.assign (Operand.tmp 40), some 7, none⟩, ⟨Op.assign (Operand.tmp 41), some 8, none⟩] mixed (by decide) rfl fun K hK => ?_
    try simp
    repeat' first | (refine ecall (by exact hJ) rfl ?_) | ((refine evL_c ?_); simp [hn, hk, hop, hkl, hb0, htl]) | (with_reducible refine And.intro ?_ ?_) | intro _ | (with_reducible assumption) | omega
    all_goals (refine Fin.go hK ?_; clear hK K)
    simp only [Then_normal]
    refine Run.seq ?_
    refine Run.seq ?_
    refine Run.opsM false [⟨Op.fieldAddr 27 (Operand.tmp 3) 0, some 42, none⟩, ⟨Op.load 22 (Operand.tmp 42), some 43, none⟩] mixed (by decide) rfl fun K hK => ?_
    try simp
    repeat' first | ((refine evL_c ?_); simp [hn, hk, hop, hkl, hb0, htl]) | (with_reducible refine And.intro ?_ ?_) | intro _ | (with_reducible assumption) | omega
    all_goals (refine Fin.go hK ?_; clear hK K)
    simp only [Then_normal]
    refine Run.block ?_
    refine Run.seq ?_
    refine Run.seq ?_
    refine Run.opsM false [⟨Op.binOp BinOp.eql 22 (Operand.tmp 43) (Operand.const (Value.int IntKind.i64 2)) 22, some 45, none⟩, ⟨Op.assign (Operand.tmp 45), some 44, none⟩] mixed (by decide) rfl fun K hK => ?_
    try simp
    repeat' first | ((refine evL_c ?_); simp [hn, hk, hop, hkl, hb0, htl]) | (with_reducible refine And.intro ?_ ?_) | intro _ | (with_reducible assumption) | omega
    all_goals (refine Fin.go hK ?_; clear hK K)
    simp only [Then_normal]
    refine Run.cond rfl (fun h44 => ?_) (fun h44 => ?_)
    · simp at h44
    · skip
      refine Run.opsM false [⟨Op.binOp BinOp.eql 22 (Operand.tmp 43) (Operand.const (Value.int IntKind.i64 3)) 22, some 46, none⟩, ⟨Op.assign (Operand.tmp 46), some 44, none⟩] mixed (by decide) rfl fun K hK => ?_
      try simp
      repeat' first | ((refine evL_c ?_); simp [hn, hk, hop, hkl, hb0, htl]) | (with_reducible refine And.intro ?_ ?_) | intro _ | (with_reducible assumption) | omega
      all_goals (refine Fin.go hK ?_; clear hK K)
      simp only [Then_normal]
      refine Run.cond rfl (fun h44 => ?_) (fun h44 => ?_)
      · simp at h44
      · skip
        refine Run.seq ?_
        refine Run.opsM false [⟨Op.binOp BinOp.eql 22 (Operand.tmp 43) (Operand.const (Value.int IntKind.i64 4)) 22, some 119, none⟩, ⟨Op.assign (Operand.tmp 119), some 118, none⟩] mixed (by decide) rfl fun K hK => ?_
        try simp
        repeat' first | ((refine evL_c ?_); simp [hn, hk, hop, hkl, hb0, htl]) | (with_reducible refine And.intro ?_ ?_) | intro _ | (with_reducible assumption) | omega
        all_goals (refine Fin.go hK ?_; clear hK K)
        simp only [Then_normal]
        refine Run.cond rfl (fun h118 => ?_) (fun h118 => ?_)
        · simp at h118
        · skip
          refine Run.seq ?_
          refine Run.opsM false [⟨Op.binOp BinOp.eql 22 (Operand.tmp 43) (Operand.const (Value.int IntKind.i64 5)) 22, some 163, none⟩, ⟨Op.assign (Operand.tmp 163), some 162, none⟩] mixed (by decide) rfl fun K hK => ?_
          try simp
          repeat' first | ((refine evL_c ?_); simp [hn, hk, hop, hkl, hb0, htl]) | (with_reducible refine And.intro ?_ ?_) | intro _ | (with_reducible assumption) | omega
          all_goals (refine Fin.go hK ?_; clear hK K)
          simp only [Then_normal]
          refine Run.cond rfl (fun h162 => ?_) (fun h162 => ?_)
          · simp at h162
          · skip
            refine Run.seq ?_
            refine Run.opsM false [⟨Op.binOp BinOp.eql 22 (Operand.tmp 43) (Operand.const (Value.int IntKind.i64 6)) 22, some 213, none⟩, ⟨Op.assign (Operand.tmp 213), some 212, none⟩] mixed (by decide) rfl fun K hK => ?_
            try simp
            repeat' first | ((refine evL_c ?_); simp [hn, hk, hop, hkl, hb0, htl]) | (with_reducible refine And.intro ?_ ?_) | intro _ | (with_reducible assumption) | omega
            all_goals (refine Fin.go hK ?_; clear hK K)
            simp only [Then_normal]
            refine Run.cond rfl (fun h212 => ?_) (fun h212 => ?_)
            · skip
              refine Run.seq ?_
              refine Run.opsM false [⟨Op.fieldAddr 27 (Operand.tmp 3) 5, some 214, none⟩, ⟨Op.load 25 (Operand.tmp 214), some 215, none⟩, ⟨Op.call { callee := Callee.builtin Builtin.len, args := #[Operand.tmp 215], argTypes := #[25] }, some 216, none⟩, ⟨Op.move (Operand.const (Value.int IntKind.i64 0)), some 217, none⟩] mixed (by decide) rfl fun K hK => ?_
              try simp
              repeat' first | ((refine evL_c ?_); simp [hn, hk, hop, hkl, hb0, htl]) | (with_reducible refine And.intro ?_ ?_) | intro _ | (with_reducible assumption) | omega
              all_goals (refine Fin.go hK ?_; clear hK K)
              simp only [Then_normal]
              refine Run.block ?_
              refine Run.loopO [6, 217, 218, 219, 220, 221] (fun (i : Nat) => [(217, .int i), (6, .int (filtE n0 i))]) (fun (i : Nat) => []) (fun (i : Nat) => i ≤ tl) (fun (i : Nat) => tl - i) 0 (by omega) (by simp [filtE, hn]) fun i hi => ?_
              simp only [over, List.foldl, List.set]
              have hS := share_ok' (filtE n0 i) 3 (filtE_rng hn0 i) (by omega)
              refine Run.seq ?_
              refine Run.opsM false [⟨Op.binOp BinOp.lss 3 (Operand.tmp 217) (Operand.tmp 216) 3, some 218, none⟩] mixed (by decide) rfl fun K hK => ?_
              try simp
              repeat' first | ((refine evL_c ?_); simp [hn, hk, hop, hkl, hb0, htl]) | (with_reducible refine And.intro ?_ ?_) | intro _ | (with_reducible assumption) | omega
              all_goals (refine Fin.go hK ?_; clear hK K)
              simp only [Then_normal]
              refine Run.seq ?_
              refine Run.cond rfl (fun h218 => ?_) (fun h218 => ?_)
              · try simp at h218
                refine Run.skip ?_
                simp only [Then_normal]
                refine Run.seq ?_
                refine Run.block ?_
                refine Run.opsM false [⟨Op.move (Operand.tmp 6), some 219, none⟩, ⟨Op.call { callee := Callee.value (Operand.func 64), args := #[Operand.tmp 219, Operand.const (Value.int IntKind.i64 3)], argTypes := #[2, 2] }, some 220, none⟩, ⟨Op.assign (Operand.tmp 220), some 6, none⟩] mixed (by decide) rfl fun K hK => ?_
                try simp
                repeat' first | (refine ecallD (by exact hS) ?_) | ((refine evL_c ?_); simp [hn, hk, hop, hkl, hb0, htl]) | (with_reducible refine And.intro ?_ ?_) | intro _ | (with_reducible assumption) | omega
                all_goals (refine Fin.go hK ?_; clear hK K)
                simp only [Blok_normal]
                simp only [Then_normal]
                refine Run.opsM false [⟨Op.binOp BinOp.add 3 (Operand.tmp 217) (Operand.const (Value.int IntKind.i64 1)) 3, some 221, none⟩, ⟨Op.move (Operand.tmp 221), some 217, none⟩] mixed (by decide) rfl fun K hK => ?_
                try simp
                repeat' first | ((refine evL_c ?_); simp [hn, hk, hop, hkl, hb0, htl]) | (with_reducible refine And.intro ?_ ?_) | intro _ | (with_reducible assumption) | omega
                all_goals (refine Fin.go hK ?_; clear hK K)
                refine ⟨i + 1, by omega, by omega, ?_⟩
                simp (disch := omega) [wrap_id, filtE]
              · try simp at h218
                have hi2 : i = tl := by omega
                subst hi2
                refine Run.exit ?_
                simp (decide := true) only [Then_exit, Blok_exit, if_true, if_false]
                simp only [Blok_normal]
                simp only [Then_normal]
                refine Run.seq ?_
                refine Run.opsM false [⟨Op.move (Operand.tmp 6), some 222, none⟩, ⟨Op.assign (Operand.tmp 222), some 4, none⟩] mixed (by decide) rfl fun K hK => ?_
                try simp
                repeat' first | ((refine evL_c ?_); simp [hn, hk, hop, hkl, hb0, htl]) | (with_reducible refine And.intro ?_ ?_) | intro _ | (with_reducible assumption) | omega
                all_goals (refine Fin.go hK ?_; clear hK K)
                simp only [Then_normal]
                refine Run.ret ?_
                try simp only [Then_ret, Blok_ret]
                simp [htl]
            · simp at h212


end Go.Proofs.Ytihbejpkfifplaa.Z
