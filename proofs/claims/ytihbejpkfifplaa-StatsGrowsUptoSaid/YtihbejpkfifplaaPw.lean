/- An estimate's kinds. -/
import Derived.Test.YtihbejpkfifplaaPt
set_option linter.unusedVariables false
set_option linter.unusedSimpArgs false
set_option maxRecDepth 100000
namespace Go.Proofs.Ytihbejpkfifplaa.Z
open Go Go.Fw
set_option maxHeartbeats 4000000 in
theorem est4_ok (c : CoreT) (s : StatsT) (p : PlanT) (n0 n1 : Int) (b0 b1 : List Bool) (hP : patS c.nodes c.edges = true) (hop : p.op = 4) (hkl : p.kids.length = 2) (IH0 : Snd P 32 [.d (.ag (encC c ++ encS s)), .d (.ag (encP (rdI p.kids 0)))] (.int n0) []) (hn0 : 0 ≤ n0 ∧ n0 ≤ 1099511627776) (hB0 : Snd P 20 [.d (.ag (encP (rdI p.kids 0))), .d (.ag (encC c))] (.tup [.d (.sl false (b0.map encB)), .int 0]) []) (hb0 : b0.length = c.nodes.length + c.edges.length) (IH1 : Snd P 32 [.d (.ag (encC c ++ encS s)), .d (.ag (encP (rdI p.kids 1)))] (.int n1) []) (hn1 : 0 ≤ n1 ∧ n1 ≤ 1099511627776) (hB1 : Snd P 20 [.d (.ag (encP (rdI p.kids 1))), .d (.ag (encC c))] (.tup [.d (.sl false (b1.map encB)), .int 0]) []) (hb1 : b1.length = c.nodes.length + c.edges.length) : Snd P 32 [.d (.ag (encC c ++ encS s)), .d (.ag (encP p))] (.int (joinE c s b0 b1 (mulS n0 n1) c.nodes.length)) [] := by
  obtain ⟨-, hn8, hk8⟩ := pat_rng hP
  have hE := goodE_of hP
  obtain ⟨n, hn⟩ : ∃ k, c.nodes.length = k := ⟨_, rfl⟩
  obtain ⟨k, hk⟩ : ∃ k, c.edges.length = k := ⟨_, rfl⟩
  rw [hn] at hn8
  rw [hk] at hk8
  rw [hn, hk] at hb0
  have hI := IH0
  have hJ := hB0
  rw [encP_cells] at hI hJ
  rw [hn, hk] at hb1
  have hI1 := IH1
  have hJ1 := hB1
  rw [encP_cells] at hI1 hJ1
  have hM := prod2D_ok n0 n1 hn0 hn1
  have hmr := mul_rng' hn0 hn1
  obtain ⟨m, hm⟩ : ∃ x, mulS n0 n1 = x := ⟨_, rfl⟩
  rw [hm] at hM hmr
  refine snd_of [] Try.func32 rfl (by kernel_rfl) Try.ntmps32 (by simp) ?_
  unfold Try.f32
  simp only [List.cons_append, List.nil_append, List.length_cons, List.length_nil, Nat.reduceAdd, Nat.reduceSub, List.replicate]
  refine Run.seq ?_
  refine Run.opsM false [⟨Op.box 82 (Operand.tmp 0), some 2, none⟩, ⟨Op.box 27 (Operand.tmp 1), some 3, none⟩, ⟨Op.assign (Operand.const (Value.int IntKind.i64 0)), some 4, none⟩] mixed (by decide) rfl fun K hK => ?_
  try simp
  repeat' first | ((refine evL_c ?_); simp [hn, hk, hop, hkl, hb0, hb1]) | (with_reducible refine And.intro ?_ ?_) | intro _ | (with_reducible assumption) | omega
  all_goals (refine Fin.go hK ?_; clear hK K)
  simp only [Then_normal]
  refine Run.seq ?_
  refine Run.seq ?_
  refine Run.opsM false [⟨Op.fieldAddr 27 (Operand.tmp 3) 0, some 21, none⟩, ⟨Op.load 22 (Operand.tmp 21), some 22, none⟩, ⟨Op.binOp BinOp.eql 22 (Operand.tmp 22) (Operand.const (Value.int IntKind.i64 1)) 22, some 23, none⟩] mixed (by decide) rfl fun K hK => ?_
  try simp
  repeat' first | ((refine evL_c ?_); simp [hn, hk, hop, hkl, hb0, hb1]) | (with_reducible refine And.intro ?_ ?_) | intro _ | (with_reducible assumption) | omega
  all_goals (refine Fin.go hK ?_; clear hK K)
  simp only [Then_normal]
  refine Run.cond rfl (fun h23 => ?_) (fun h23 => ?_)
  · simp at h23
  · skip
    refine Run.skip ?_
    simp only [Then_normal]
    refine Run.seq ?_
    refine Run.opsM false [⟨Op.fieldAddr 27 (Operand.tmp 3) 1, some 28, none⟩, ⟨Op.load 23 (Operand.tmp 28), some 29, none⟩, ⟨Op.indexAddr 23 (Operand.tmp 29) (Operand.const (Value.int IntKind.i64 0)), some 30, none⟩, ⟨Op.load 27 (Operand.tmp 30), some 31, none⟩, ⟨Op.alloc 27, some 5, none⟩, ⟨Op.store 27 (Operand.tmp 5) (Operand.tmp 31), none, none⟩] mixed (by decide) rfl fun K hK => ?_
    try simp
    repeat' first | ((refine evL_c ?_); simp [hn, hk, hop, hkl, hb0, hb1]) | (with_reducible refine And.intro ?_ ?_) | intro _ | (with_reducible assumption) | omega
    all_goals (refine Fin.go hK ?_; clear hK K)
    simp only [Then_normal]
    refine Run.seq ?_
    refine Run.opsM false [⟨Op.load 82 (Operand.tmp 2), some 32, none⟩, ⟨Op.load 27 (Operand.tmp 5), some 33, none⟩, ⟨Op.call { callee := Callee.value (Operand.func 32), args := #[Operand.tmp 32, Operand.tmp 33], argTypes := #[82, 27] }, some 34, none⟩, ⟨Op.assign (Operand.tmp 34), some 6, none⟩] mixed (by decide) rfl fun K hK => ?_
    try simp
    repeat' first | (refine ecallD (by exact hI) ?_) | ((refine evL_c ?_); simp [hn, hk, hop, hkl, hb0, hb1]) | (with_reducible refine And.intro ?_ ?_) | intro _ | (with_reducible assumption) | omega
    all_goals (refine Fin.go hK ?_; clear hK K)
    simp only [Then_normal]
    refine Run.seq ?_
    refine Run.opsM false [⟨Op.load 27 (Operand.tmp 5), some 36, none⟩, ⟨Op.fieldAddr 82 (Operand.tmp 2) 0, some 37, none⟩, ⟨Op.load 33 (Operand.tmp 37), some 38, none⟩, ⟨Op.call { callee := Callee.value (Operand.func 20), args := #[Operand.tmp 36, Operand.tmp 38], argTypes := #[27, 33] }, some 39, none⟩, ⟨Op.move (Operand.tmp 39), some 35, none⟩, ⟨Op.extract (Operand.tmp 35) 0, some 40, none⟩, ⟨Op.extract (Operand.tmp 35) 1, some 41, none⟩, ⟨Op.assign (Operand.tmp 40), some 7, none⟩, ⟨Op.assign (Operand.tmp 41), some 8, none⟩] mixed (by decide) rfl fun K hK => ?_
    try simp
    repeat' first | (refine ecall (by exact hJ) rfl ?_) | ((refine evL_c ?_); simp [hn, hk, hop, hkl, hb0, hb1]) | (with_reducible refine And.intro ?_ ?_) | intro _ | (with_reducible assumption) | omega
    all_goals (refine Fin.go hK ?_; clear hK K)
    simp only [Then_normal]
    refine Run.seq ?_
    refine Run.seq ?_
    refine Run.opsM false [⟨Op.fieldAddr 27 (Operand.tmp 3) 0, some 42, none⟩, ⟨Op.load 22 (Operand.tmp 42), some 43, none⟩] mixed (by decide) rfl fun K hK => ?_
    try simp
    repeat' first | ((refine evL_c ?_); simp [hn, hk, hop, hkl, hb0, hb1]) | (with_reducible refine And.intro ?_ ?_) | intro _ | (with_reducible assumption) | omega
    all_goals (refine Fin.go hK ?_; clear hK K)
    simp only [Then_normal]
    refine Run.block ?_
    refine Run.seq ?_
    refine Run.seq ?_
    refine Run.opsM false [⟨Op.binOp BinOp.eql 22 (Operand.tmp 43) (Operand.const (Value.int IntKind.i64 2)) 22, some 45, none⟩, ⟨Op.assign (Operand.tmp 45), some 44, none⟩] mixed (by decide) rfl fun K hK => ?_
    try simp
    repeat' first | ((refine evL_c ?_); simp [hn, hk, hop, hkl, hb0, hb1]) | (with_reducible refine And.intro ?_ ?_) | intro _ | (with_reducible assumption) | omega
    all_goals (refine Fin.go hK ?_; clear hK K)
    simp only [Then_normal]
    refine Run.cond rfl (fun h44 => ?_) (fun h44 => ?_)
    · simp at h44
    · skip
      refine Run.opsM false [⟨Op.binOp BinOp.eql 22 (Operand.tmp 43) (Operand.const (Value.int IntKind.i64 3)) 22, some 46, none⟩, ⟨Op.assign (Operand.tmp 46), some 44, none⟩] mixed (by decide) rfl fun K hK => ?_
      try simp
      repeat' first | ((refine evL_c ?_); simp [hn, hk, hop, hkl, hb0, hb1]) | (with_reducible refine And.intro ?_ ?_) | intro _ | (with_reducible assumption) | omega
      all_goals (refine Fin.go hK ?_; clear hK K)
      simp only [Then_normal]
      refine Run.cond rfl (fun h44 => ?_) (fun h44 => ?_)
      · simp at h44
      · skip
        refine Run.seq ?_
        refine Run.opsM false [⟨Op.binOp BinOp.eql 22 (Operand.tmp 43) (Operand.const (Value.int IntKind.i64 4)) 22, some 119, none⟩, ⟨Op.assign (Operand.tmp 119), some 118, none⟩] mixed (by decide) rfl fun K hK => ?_
        try simp
        repeat' first | ((refine evL_c ?_); simp [hn, hk, hop, hkl, hb0, hb1]) | (with_reducible refine And.intro ?_ ?_) | intro _ | (with_reducible assumption) | omega
        all_goals (refine Fin.go hK ?_; clear hK K)
        simp only [Then_normal]
        refine Run.cond rfl (fun h118 => ?_) (fun h118 => ?_)
        · skip
          refine Run.seq ?_
          refine Run.opsM false [⟨Op.move (Operand.tmp 6), some 120, none⟩, ⟨Op.load 82 (Operand.tmp 2), some 121, none⟩, ⟨Op.fieldAddr 27 (Operand.tmp 3) 1, some 122, none⟩, ⟨Op.load 23 (Operand.tmp 122), some 123, none⟩, ⟨Op.indexAddr 23 (Operand.tmp 123) (Operand.const (Value.int IntKind.i64 1)), some 124, none⟩, ⟨Op.load 27 (Operand.tmp 124), some 125, none⟩, ⟨Op.call { callee := Callee.value (Operand.func 32), args := #[Operand.tmp 121, Operand.tmp 125], argTypes := #[82, 27] }, some 126, none⟩, ⟨Op.buildSlice 51 2 #[(0, Operand.tmp 120), (1, Operand.tmp 126)], some 127, none⟩, ⟨Op.call { callee := Callee.value (Operand.func 66), args := #[Operand.tmp 127], argTypes := #[51] }, some 128, none⟩, ⟨Op.assign (Operand.tmp 128), some 6, none⟩] mixed (by decide) rfl fun K hK => ?_
          try simp
          repeat' first | (refine ecallD (by exact hI1) ?_) | (refine ecallF (by simp) (by simp) hM ?_) | ((refine evL_c ?_); simp [hn, hk, hop, hkl, hb0, hb1]) | (with_reducible refine And.intro ?_ ?_) | intro _ | (with_reducible assumption) | omega
          all_goals (refine Fin.go hK ?_; clear hK K)
          simp only [Then_normal]
          refine Run.seq ?_
          refine Run.opsM false [⟨Op.fieldAddr 27 (Operand.tmp 3) 1, some 130, none⟩, ⟨Op.load 23 (Operand.tmp 130), some 131, none⟩, ⟨Op.indexAddr 23 (Operand.tmp 131) (Operand.const (Value.int IntKind.i64 1)), some 132, none⟩, ⟨Op.load 27 (Operand.tmp 132), some 133, none⟩, ⟨Op.fieldAddr 82 (Operand.tmp 2) 0, some 134, none⟩, ⟨Op.load 33 (Operand.tmp 134), some 135, none⟩, ⟨Op.call { callee := Callee.value (Operand.func 20), args := #[Operand.tmp 133, Operand.tmp 135], argTypes := #[27, 33] }, some 136, none⟩, ⟨Op.move (Operand.tmp 136), some 129, none⟩, ⟨Op.extract (Operand.tmp 129) 0, some 137, none⟩, ⟨Op.extract (Operand.tmp 129) 1, some 138, none⟩, ⟨Op.assign (Operand.tmp 137), some 15, none⟩, ⟨Op.assign (Operand.tmp 138), some 16, none⟩] mixed (by decide) rfl fun K hK => ?_
          try simp
          repeat' first | (refine ecall (by exact hJ1) rfl ?_) | ((refine evL_c ?_); simp [hn, hk, hop, hkl, hb0, hb1]) | (with_reducible refine And.intro ?_ ?_) | intro _ | (with_reducible assumption) | omega
          all_goals (refine Fin.go hK ?_; clear hK K)
          simp only [Then_normal]
          refine Run.seq ?_
          refine Run.opsM false [⟨Op.fieldAddr 82 (Operand.tmp 2) 0, some 139, none⟩, ⟨Op.fieldAddr 33 (Operand.tmp 139) 0, some 140, none⟩, ⟨Op.load 28 (Operand.tmp 140), some 141, none⟩, ⟨Op.call { callee := Callee.builtin Builtin.len, args := #[Operand.tmp 141], argTypes := #[28] }, some 142, none⟩, ⟨Op.move (Operand.const (Value.int IntKind.i64 0)), some 143, none⟩] mixed (by decide) rfl fun K hK => ?_
          try simp
          repeat' first | ((refine evL_c ?_); simp [hn, hk, hop, hkl, hb0, hb1]) | (with_reducible refine And.intro ?_ ?_) | intro _ | (with_reducible assumption) | omega
          all_goals (refine Fin.go hK ?_; clear hK K)
          simp only [Then_normal]
          refine Run.block ?_
          refine Run.loopO [6, 17, 143, 144, 145, 146, 147, 148, 149, 150, 151, 152, 153, 154, 155, 156, 157, 158, 159, 160, 161] (fun (i : Nat) => [(143, .int i), (6, .int (joinE c s b0 b1 m i))]) (fun (i : Nat) => [(300, .vals ((encC c ++ encS s).map .d)), (400, .vals ((encP p).map .d)), (600, .vals ((encP (rdI p.kids 0)).map .d))]) (fun (i : Nat) => i ≤ n) (fun (i : Nat) => n - i) 0 (by omega) (by simp [joinE, hop, hn]) fun i hi => ?_
          simp only [over, List.foldl, List.set]
          have hjr := joinE_rng (c := c) (s := s) (a := b0) (b := b1) hmr i
          have hju : joinE c s b0 b1 m (i + 1) = if rdI b0 i && rdI b1 i then shareS (joinE c s b0 b1 m i) (nodesS c s i) else joinE c s b0 b1 m i := rfl
          obtain ⟨ji, hji⟩ : ∃ x, joinE c s b0 b1 m i = x := ⟨_, rfl⟩
          rw [hji] at hjr hju
          refine Run.seq ?_
          refine Run.opsM false [⟨Op.binOp BinOp.lss 3 (Operand.tmp 143) (Operand.tmp 142) 3, some 144, none⟩] mixed (by decide) rfl fun K hK => ?_
          try simp
          repeat' first | ((refine evL_c ?_); simp [hn, hk, hop, hkl, hb0, hb1]) | (with_reducible refine And.intro ?_ ?_) | intro _ | (with_reducible assumption) | omega
          all_goals (refine Fin.go hK ?_; clear hK K)
          simp only [Then_normal]
          refine Run.seq ?_
          refine Run.cond rfl (fun h144 => ?_) (fun h144 => ?_)
          · try simp [hji] at h144
            have hi1 : i < n := by omega
            have hi2 : (i : Int) < (b0.length : Int) := by omega
            have hi3 : (i : Int) < (b1.length : Int) := by omega
            have hi4 : (i : Int) < (n : Int) + k := by omega
            have hN := nodesS_ok c s i (by omega) (by omega)
            have hS := share_ok' ji (nodesS c s i) hjr (nodesS_rng _ _ _)
            refine Run.skip ?_
            simp only [Then_normal]
            refine Run.seq ?_
            refine Run.block ?_
            refine Run.seq ?_
            refine Run.opsM false [⟨Op.move (Operand.tmp 143), some 145, none⟩, ⟨Op.assign (Operand.tmp 145), some 17, none⟩] mixed (by decide) rfl fun K hK => ?_
            try simp
            repeat' first | ((refine evL_c ?_); simp [hn, hk, hop, hkl, hb0, hb1, hji, hi1, hi4]) | (with_reducible refine And.intro ?_ ?_) | intro _ | (with_reducible assumption) | omega
            all_goals (refine Fin.go hK ?_; clear hK K)
            simp only [Then_normal]
            refine Run.cut [146, 147, 148, 149, 150, 151, 152, 153, 154, 155] [(155, .bool (rdI b0 i && rdI b1 i))] [(300, .vals ((encC c ++ encS s).map .d)), (400, .vals ((encP p).map .d)), (600, .vals ((encP (rdI p.kids 0)).map .d))] ?_ ?_
            · refine Run.opsM false [⟨Op.move (Operand.tmp 7), some 146, none⟩, ⟨Op.move (Operand.tmp 17), some 147, none⟩, ⟨Op.indexAddr 60 (Operand.tmp 146) (Operand.tmp 147), some 148, none⟩, ⟨Op.load 4 (Operand.tmp 148), some 149, none⟩, ⟨Op.move (Operand.tmp 149), some 150, none⟩, ⟨Op.move (Operand.tmp 15), some 151, some (some 150, true)⟩, ⟨Op.move (Operand.tmp 17), some 152, some (some 150, true)⟩, ⟨Op.indexAddr 60 (Operand.tmp 151) (Operand.tmp 152), some 153, some (some 150, true)⟩, ⟨Op.load 4 (Operand.tmp 153), some 154, some (some 150, true)⟩, ⟨Op.pick (Operand.tmp 150) (Operand.tmp 154) (Operand.const (Value.bool false)), some 155, none⟩] mixed (by decide) rfl fun K hK => ?_
              try simp
              repeat' first | ((refine evL_c ?_); simp [hn, hk, hop, hkl, hb0, hb1, hji, hi1, hi4, *]) | ((refine evL_g rfl ?_); (try simp only [gs_tt, gs_ff, gs_tf, gs_ft]); (try simp [hn, hk, hop, hkl, hb0, hb1, hji, hi1, hi4, *])) | (refine evL_u rfl ?_) | ((with_reducible refine gsplit (fun hg => ?_) (fun hg => ?_)) <;> (try simp at hg) <;> (try simp [hn, hk, hop, hkl, hb0, hb1, hji, hi1, hi4, *])) | (with_reducible refine And.intro ?_ ?_) | intro _ | (with_reducible assumption) | omega
              all_goals (refine Fin.go hK ?_; clear hK K)
              all_goals
                (try simp [hop, hn, *]) <;> (first | omega | (simp; done) | grind)
            · simp only [over, List.foldl, List.set]
              refine Run.cond rfl (fun h155 => ?_) (fun h155 => ?_)
              · try simp at h155
                refine Run.opsM false [⟨Op.move (Operand.tmp 6), some 156, none⟩, ⟨Op.load 82 (Operand.tmp 2), some 157, none⟩, ⟨Op.move (Operand.tmp 17), some 158, none⟩, ⟨Op.call { callee := Callee.value (Operand.func 63), args := #[Operand.tmp 157, Operand.tmp 158], argTypes := #[82, 3] }, some 159, none⟩, ⟨Op.call { callee := Callee.value (Operand.func 64), args := #[Operand.tmp 156, Operand.tmp 159], argTypes := #[2, 2] }, some 160, none⟩, ⟨Op.assign (Operand.tmp 160), some 6, none⟩] mixed (by decide) rfl fun K hK => ?_
                try simp
                repeat' first | (refine ecallD (by exact hN) ?_) | (refine ecallD (by exact hS) ?_) | ((refine evL_c ?_); simp [hn, hk, hop, hkl, hb0, hb1, hji, hi1, hi4]) | (with_reducible refine And.intro ?_ ?_) | intro _ | (with_reducible assumption) | omega
                all_goals (refine Fin.go hK ?_; clear hK K)
                simp only [Blok_normal]
                simp only [Then_normal]
                refine Run.opsM false [⟨Op.binOp BinOp.add 3 (Operand.tmp 143) (Operand.const (Value.int IntKind.i64 1)) 3, some 161, none⟩, ⟨Op.move (Operand.tmp 161), some 143, none⟩] mixed (by decide) rfl fun K hK => ?_
                try simp
                repeat' first | ((refine evL_c ?_); simp [hn, hk, hop, hkl, hb0, hb1, hji, hi1, hi4]) | (with_reducible refine And.intro ?_ ?_) | intro _ | (with_reducible assumption) | omega
                all_goals (refine Fin.go hK ?_; clear hK K)
                refine ⟨i + 1, by omega, by omega, ?_⟩
                (try simp at h155)
                (try simp (disch := omega) [wrap_id, hju, hop, hn, h155, hji]) <;> (first | done | grind)
              · try simp at h155
                refine Run.skip ?_
                simp only [Blok_normal]
                simp only [Then_normal]
                refine Run.opsM false [⟨Op.binOp BinOp.add 3 (Operand.tmp 143) (Operand.const (Value.int IntKind.i64 1)) 3, some 161, none⟩, ⟨Op.move (Operand.tmp 161), some 143, none⟩] mixed (by decide) rfl fun K hK => ?_
                try simp
                repeat' first | ((refine evL_c ?_); simp [hn, hk, hop, hkl, hb0, hb1, hji, hi1, hi4]) | (with_reducible refine And.intro ?_ ?_) | intro _ | (with_reducible assumption) | omega
                all_goals (refine Fin.go hK ?_; clear hK K)
                refine ⟨i + 1, by omega, by omega, ?_⟩
                (try simp at h155)
                (try simp (disch := omega) [wrap_id, hju, hop, hn, h155, hji]) <;> (first | done | grind)
          · try simp [hji] at h144
            have hi5 : i = n := by omega
            subst hi5
            refine Run.exit ?_
            simp (decide := true) only [Then_exit, Blok_exit, if_true, if_false]
            simp only [Blok_normal]
            simp only [Then_normal]
            refine Run.seq ?_
            refine Run.opsM false [⟨Op.move (Operand.tmp 6), some 222, none⟩, ⟨Op.assign (Operand.tmp 222), some 4, none⟩] mixed (by decide) rfl fun K hK => ?_
            try simp
            repeat' first | ((refine evL_c ?_); simp [hn, hk, hop, hkl, hb0, hb1, hji]) | (with_reducible refine And.intro ?_ ?_) | intro _ | (with_reducible assumption) | omega
            all_goals (refine Fin.go hK ?_; clear hK K)
            simp only [Then_normal]
            refine Run.ret ?_
            try simp only [Then_ret, Blok_ret]
            simp [hm, hn, hji]
        · simp at h118

set_option maxHeartbeats 4000000 in
theorem est5_ok (c : CoreT) (s : StatsT) (p : PlanT) (n0 : Int) (b0 : List Bool) (hP : patS c.nodes c.edges = true) (hop : p.op = 5) (hkl : p.kids.length = 1) (hs0 : 0 ≤ p.slot) (hs1 : p.slot < c.nodes.length) (hme : ∀ i : Nat, i < p.edges.length → 0 ≤ rdI p.edges i ∧ rdI p.edges i < c.edges.length) (IH0 : Snd P 32 [.d (.ag (encC c ++ encS s)), .d (.ag (encP (rdI p.kids 0)))] (.int n0) []) (hn0 : 0 ≤ n0 ∧ n0 ≤ 1099511627776) (hB0 : Snd P 20 [.d (.ag (encP (rdI p.kids 0))), .d (.ag (encC c))] (.tup [.d (.sl false (b0.map encB)), .int 0]) []) (hb0 : b0.length = c.nodes.length + c.edges.length) : Snd P 32 [.d (.ag (encC c ++ encS s)), .d (.ag (encP p))] (.int (meetE c s p n0 p.edges.length)) [] := by
  refine Snd.ok 1 rfl (by kernel_rfl) fun hok => ?_
  have htm := (encP_ok hok).2.1
  clear hok
  obtain ⟨-, hn8, hk8⟩ := pat_rng hP
  have hE := goodE_of hP
  obtain ⟨n, hn⟩ : ∃ k, c.nodes.length = k := ⟨_, rfl⟩
  obtain ⟨k, hk⟩ : ∃ k, c.edges.length = k := ⟨_, rfl⟩
  rw [hn] at hn8
  rw [hk] at hk8
  rw [hn, hk] at hb0
  have hI := IH0
  have hJ := hB0
  rw [encP_cells] at hI hJ
  have hN0 := nodesS_ok c s p.slot hs0 hs1
  have hM := prod2D_ok n0 (nodesS c s p.slot) hn0 (nodesS_rng _ _ _)
  obtain ⟨el, hel⟩ : ∃ x, p.edges.length = x := ⟨_, rfl⟩
  rw [hel] at hme htm
  obtain ⟨ns, hns⟩ : ∃ x, nodesS c s p.slot = x := ⟨_, rfl⟩
  have hnr := nodesS_rng c s p.slot
  rw [hns] at hN0 hM hnr
  refine snd_of [] Try.func32 rfl (by kernel_rfl) Try.ntmps32 (by simp) ?_
  unfold Try.f32
  simp only [List.cons_append, List.nil_append, List.length_cons, List.length_nil, Nat.reduceAdd, Nat.reduceSub, List.replicate]
  refine Run.seq ?_
  refine Run.opsM false [⟨Op.box 82 (Operand.tmp 0), some 2, none⟩, ⟨Op.box 27 (Operand.tmp 1), some 3, none⟩, ⟨Op.assign (Operand.const (Value.int IntKind.i64 0)), some 4, none⟩] mixed (by decide) rfl fun K hK => ?_
  try simp
  repeat' first | ((refine evL_c ?_); simp [hn, hk, hop, hkl, hb0, hel]) | (with_reducible refine And.intro ?_ ?_) | intro _ | (with_reducible assumption) | omega
  all_goals (refine Fin.go hK ?_; clear hK K)
  simp only [Then_normal]
  refine Run.seq ?_
  refine Run.seq ?_
  refine Run.opsM false [⟨Op.fieldAddr 27 (Operand.tmp 3) 0, some 21, none⟩, ⟨Op.load 22 (Operand.tmp 21), some 22, none⟩, ⟨Op.binOp BinOp.eql 22 (Operand.tmp 22) (Operand.const (Value.int IntKind.i64 1)) 22, some 23, none⟩] mixed (by decide) rfl fun K hK => ?_
  try simp
  repeat' first | ((refine evL_c ?_); simp [hn, hk, hop, hkl, hb0, hel]) | (with_reducible refine And.intro ?_ ?_) | intro _ | (with_reducible assumption) | omega
  all_goals (refine Fin.go hK ?_; clear hK K)
  simp only [Then_normal]
  refine Run.cond rfl (fun h23 => ?_) (fun h23 => ?_)
  · simp at h23
  · skip
    refine Run.skip ?_
    simp only [Then_normal]
    refine Run.seq ?_
    refine Run.opsM false [⟨Op.fieldAddr 27 (Operand.tmp 3) 1, some 28, none⟩, ⟨Op.load 23 (Operand.tmp 28), some 29, none⟩, ⟨Op.indexAddr 23 (Operand.tmp 29) (Operand.const (Value.int IntKind.i64 0)), some 30, none⟩, ⟨Op.load 27 (Operand.tmp 30), some 31, none⟩, ⟨Op.alloc 27, some 5, none⟩, ⟨Op.store 27 (Operand.tmp 5) (Operand.tmp 31), none, none⟩] mixed (by decide) rfl fun K hK => ?_
    try simp
    repeat' first | ((refine evL_c ?_); simp [hn, hk, hop, hkl, hb0, hel]) | (with_reducible refine And.intro ?_ ?_) | intro _ | (with_reducible assumption) | omega
    all_goals (refine Fin.go hK ?_; clear hK K)
    simp only [Then_normal]
    refine Run.seq ?_
    refine Run.opsM false [⟨Op.load 82 (Operand.tmp 2), some 32, none⟩, ⟨Op.load 27 (Operand.tmp 5), some 33, none⟩, ⟨Op.call { callee := Callee.value (Operand.func 32), args := #[Operand.tmp 32, Operand.tmp 33], argTypes := #[82, 27] }, some 34, none⟩, ⟨Op.assign (Operand.tmp 34), some 6, none⟩] mixed (by decide) rfl fun K hK => ?_
    try simp
    repeat' first | (refine ecallD (by exact hI) ?_) | ((refine evL_c ?_); simp [hn, hk, hop, hkl, hb0, hel]) | (with_reducible refine And.intro ?_ ?_) | intro _ | (with_reducible assumption) | omega
    all_goals (refine Fin.go hK ?_; clear hK K)
    simp only [Then_normal]
    refine Run.seq ?_
    refine Run.opsM false [⟨Op.load 27 (Operand.tmp 5), some 36, none⟩, ⟨Op.fieldAddr 82 (Operand.tmp 2) 0, some 37, none⟩, ⟨Op.load 33 (Operand.tmp 37), some 38, none⟩, ⟨Op.call { callee := Callee.value (Operand.func 20), args := #[Operand.tmp 36, Operand.tmp 38], argTypes := #[27, 33] }, some 39, none⟩, ⟨Op.move (Operand.tmp 39), some 35, none⟩, ⟨Op.extract (Operand.tmp 35) 0, some 40, none⟩, ⟨Op.extract (Operand.tmp 35) 1, some 41, none⟩, ⟨Op.assign (Operand.tmp 40), some 7, none⟩, ⟨Op.assign (Operand.tmp 41), some 8, none⟩] mixed (by decide) rfl fun K hK => ?_
    try simp
    repeat' first | (refine ecall (by exact hJ) rfl ?_) | ((refine evL_c ?_); simp [hn, hk, hop, hkl, hb0, hel]) | (with_reducible refine And.intro ?_ ?_) | intro _ | (with_reducible assumption) | omega
    all_goals (refine Fin.go hK ?_; clear hK K)
    simp only [Then_normal]
    refine Run.seq ?_
    refine Run.seq ?_
    refine Run.opsM false [⟨Op.fieldAddr 27 (Operand.tmp 3) 0, some 42, none⟩, ⟨Op.load 22 (Operand.tmp 42), some 43, none⟩] mixed (by decide) rfl fun K hK => ?_
    try simp
    repeat' first | ((refine evL_c ?_); simp [hn, hk, hop, hkl, hb0, hel]) | (with_reducible refine And.intro ?_ ?_) | intro _ | (with_reducible assumption) | omega
    all_goals (refine Fin.go hK ?_; clear hK K)
    simp only [Then_normal]
    refine Run.block ?_
    refine Run.seq ?_
    refine Run.seq ?_
    refine Run.opsM false [⟨Op.binOp BinOp.eql 22 (Operand.tmp 43) (Operand.const (Value.int IntKind.i64 2)) 22, some 45, none⟩, ⟨Op.assign (Operand.tmp 45), some 44, none⟩] mixed (by decide) rfl fun K hK => ?_
    try simp
    repeat' first | ((refine evL_c ?_); simp [hn, hk, hop, hkl, hb0, hel]) | (with_reducible refine And.intro ?_ ?_) | intro _ | (with_reducible assumption) | omega
    all_goals (refine Fin.go hK ?_; clear hK K)
    simp only [Then_normal]
    refine Run.cond rfl (fun h44 => ?_) (fun h44 => ?_)
    · simp at h44
    · skip
      refine Run.opsM false [⟨Op.binOp BinOp.eql 22 (Operand.tmp 43) (Operand.const (Value.int IntKind.i64 3)) 22, some 46, none⟩, ⟨Op.assign (Operand.tmp 46), some 44, none⟩] mixed (by decide) rfl fun K hK => ?_
      try simp
      repeat' first | ((refine evL_c ?_); simp [hn, hk, hop, hkl, hb0, hel]) | (with_reducible refine And.intro ?_ ?_) | intro _ | (with_reducible assumption) | omega
      all_goals (refine Fin.go hK ?_; clear hK K)
      simp only [Then_normal]
      refine Run.cond rfl (fun h44 => ?_) (fun h44 => ?_)
      · simp at h44
      · skip
        refine Run.seq ?_
        refine Run.opsM false [⟨Op.binOp BinOp.eql 22 (Operand.tmp 43) (Operand.const (Value.int IntKind.i64 4)) 22, some 119, none⟩, ⟨Op.assign (Operand.tmp 119), some 118, none⟩] mixed (by decide) rfl fun K hK => ?_
        try simp
        repeat' first | ((refine evL_c ?_); simp [hn, hk, hop, hkl, hb0, hel]) | (with_reducible refine And.intro ?_ ?_) | intro _ | (with_reducible assumption) | omega
        all_goals (refine Fin.go hK ?_; clear hK K)
        simp only [Then_normal]
        refine Run.cond rfl (fun h118 => ?_) (fun h118 => ?_)
        · simp at h118
        · skip
          refine Run.seq ?_
          refine Run.opsM false [⟨Op.binOp BinOp.eql 22 (Operand.tmp 43) (Operand.const (Value.int IntKind.i64 5)) 22, some 163, none⟩, ⟨Op.assign (Operand.tmp 163), some 162, none⟩] mixed (by decide) rfl fun K hK => ?_
          try simp
          repeat' first | ((refine evL_c ?_); simp [hn, hk, hop, hkl, hb0, hel]) | (with_reducible refine And.intro ?_ ?_) | intro _ | (with_reducible assumption) | omega
          all_goals (refine Fin.go hK ?_; clear hK K)
          simp only [Then_normal]
          refine Run.cond rfl (fun h162 => ?_) (fun h162 => ?_)
          · skip
            refine Run.seq ?_
            refine Run.opsM false [⟨Op.move (Operand.tmp 6), some 164, none⟩, ⟨Op.load 82 (Operand.tmp 2), some 165, none⟩, ⟨Op.fieldAddr 27 (Operand.tmp 3) 2, some 166, none⟩, ⟨Op.load 3 (Operand.tmp 166), some 167, none⟩, ⟨Op.call { callee := Callee.value (Operand.func 63), args := #[Operand.tmp 165, Operand.tmp 167], argTypes := #[82, 3] }, some 168, none⟩, ⟨Op.buildSlice 51 2 #[(0, Operand.tmp 164), (1, Operand.tmp 168)], some 169, none⟩, ⟨Op.call { callee := Callee.value (Operand.func 66), args := #[Operand.tmp 169], argTypes := #[51] }, some 170, none⟩, ⟨Op.assign (Operand.tmp 170), some 6, none⟩] mixed (by decide) rfl fun K hK => ?_
            try simp
            repeat' first | (refine ecallD (by exact hN0) ?_) | (refine ecallF (by simp) (by simp) hM ?_) | ((refine evL_c ?_); simp [hn, hk, hop, hkl, hb0, hel]) | (with_reducible refine And.intro ?_ ?_) | intro _ | (with_reducible assumption) | omega
            all_goals (refine Fin.go hK ?_; clear hK K)
            simp only [Then_normal]
            refine Run.seq ?_
            refine Run.opsM false [⟨Op.fieldAddr 27 (Operand.tmp 3) 3, some 171, none⟩, ⟨Op.load 24 (Operand.tmp 171), some 172, none⟩, ⟨Op.call { callee := Callee.builtin Builtin.len, args := #[Operand.tmp 172], argTypes := #[24] }, some 173, none⟩, ⟨Op.move (Operand.const (Value.int IntKind.i64 0)), some 174, none⟩] mixed (by decide) rfl fun K hK => ?_
            try simp
            repeat' first | ((refine evL_c ?_); simp [hn, hk, hop, hkl, hb0, hel]) | (with_reducible refine And.intro ?_ ?_) | intro _ | (with_reducible assumption) | omega
            all_goals (refine Fin.go hK ?_; clear hK K)
            simp only [Then_normal]
            refine Run.block ?_
            refine Run.loopO [6, 19, 20, 174, 175, 176, 177, 178, 179, 180, 181, 182, 183, 184, 185, 186, 187, 188, 189, 190, 191, 192, 193, 194, 195, 196, 197, 198, 199, 200, 201, 202, 203, 204, 205, 206, 207, 208, 209, 210, 211] (fun (i : Nat) => [(174, .int i), (6, .int (meetE c s p n0 i))]) (fun (i : Nat) => [(300, .vals ((encC c ++ encS s).map .d)), (400, .vals ((encP p).map .d)), (600, .vals ((encP (rdI p.kids 0)).map .d))]) (fun (i : Nat) => i ≤ el) (fun (i : Nat) => el - i) 0 (by omega) (by simp [meetE, hop, hn, hns]) fun i hi => ?_
            simp only [over, List.foldl, List.set]
            have hjr := meetE_rng (c := c) (s := s) (p := p) hn0 i
            have hju : meetE c s p n0 (i + 1) = shareS (shareS (mulS (meetE c s p n0 i) (edgesS c s (rdI p.edges i))) (nodesS c s p.slot)) (nodesS c s (if (rdI c.edges (rdI p.edges i)).src = p.slot then (rdI c.edges (rdI p.edges i)).dst else (rdI c.edges (rdI p.edges i)).src)) := rfl
            obtain ⟨ji, hji⟩ : ∃ x, meetE c s p n0 i = x := ⟨_, rfl⟩
            obtain ⟨u, hu⟩ : ∃ x, (if (rdI c.edges (rdI p.edges i)).src = p.slot then (rdI c.edges (rdI p.edges i)).dst else (rdI c.edges (rdI p.edges i)).src) = x := ⟨_, rfl⟩
            rw [hji, hu, hns] at hju
            rw [hji] at hjr
            refine Run.seq ?_
            refine Run.opsM false [⟨Op.binOp BinOp.lss 3 (Operand.tmp 174) (Operand.tmp 173) 3, some 175, none⟩] mixed (by decide) rfl fun K hK => ?_
            try simp
            repeat' first | ((refine evL_c ?_); simp [hn, hk, hop, hkl, hb0, hel]) | (with_reducible refine And.intro ?_ ?_) | intro _ | (with_reducible assumption) | omega
            all_goals (refine Fin.go hK ?_; clear hK K)
            simp only [Then_normal]
            refine Run.seq ?_
            refine Run.cond rfl (fun h175 => ?_) (fun h175 => ?_)
            · try simp [hji] at h175
              have hi1 : i < el := by omega
              obtain ⟨he0, he1⟩ := hme i hi1
              have he2 : rdI p.edges i < (k : Int) := by omega
              have hG := hE (rdI c.edges (rdI p.edges i)) (rdI_mem he0 he1)
              have hu2 : 0 ≤ u ∧ u < c.nodes.length := by rw [← hu]; split <;> omega
              have hE1 := edgesS_ok c s (rdI p.edges i) he0 he1
              have hN1 := nodesS_ok c s u hu2.1 hu2.2
              have r1 := edgesS_rng c s (rdI p.edges i)
              have r2 := nodesS_rng c s u
              have hMi := prod2D_ok ji (edgesS c s (rdI p.edges i)) hjr r1
              have r3 := mul_rng' hjr r1
              have hS1 := share_ok' (mulS ji (edgesS c s (rdI p.edges i))) ns r3 hnr
              have r4 := share_rng' r3 hnr
              have hS2 := share_ok' (shareS (mulS ji (edgesS c s (rdI p.edges i))) ns) (nodesS c s u) r4 r2
              refine Run.skip ?_
              simp only [Then_normal]
              refine Run.seq ?_
              refine Run.block ?_
              refine Run.seq ?_
              refine Run.opsM false [⟨Op.indexAddr 24 (Operand.tmp 172) (Operand.tmp 174), some 176, none⟩, ⟨Op.load 3 (Operand.tmp 176), some 177, none⟩, ⟨Op.assign (Operand.tmp 177), some 19, none⟩] mixed (by decide) rfl fun K hK => ?_
              try simp
              repeat' first | ((refine evL_c ?_); simp [hn, hk, hop, hkl, hb0, hel, hji, hi1, he0, he1, he2]) | (with_reducible refine And.intro ?_ ?_) | intro _ | (with_reducible assumption) | omega
              all_goals (refine Fin.go hK ?_; clear hK K)
              simp only [Then_normal]
              refine Run.seq ?_
              refine Run.opsM false [⟨Op.fieldAddr 82 (Operand.tmp 2) 0, some 178, none⟩, ⟨Op.fieldAddr 33 (Operand.tmp 178) 1, some 179, none⟩, ⟨Op.load 29 (Operand.tmp 179), some 180, none⟩, ⟨Op.move (Operand.tmp 19), some 181, none⟩, ⟨Op.indexAddr 29 (Operand.tmp 180) (Operand.tmp 181), some 182, none⟩, ⟨Op.fieldAddr 105 (Operand.tmp 182) 2, some 183, none⟩, ⟨Op.load 3 (Operand.tmp 183), some 184, none⟩, ⟨Op.assign (Operand.tmp 184), some 20, none⟩] mixed (by decide) rfl fun K hK => ?_
              try simp
              repeat' first | ((refine evL_c ?_); simp [hn, hk, hop, hkl, hb0, hel, hji, hi1, he0, he1, he2]) | (with_reducible refine And.intro ?_ ?_) | intro _ | (with_reducible assumption) | omega
              all_goals (refine Fin.go hK ?_; clear hK K)
              simp only [Then_normal]
              refine Run.cut [20, 185, 186, 187, 188, 189, 190, 191, 192, 193, 194, 195] [(20, .int u)] [(300, .vals ((encC c ++ encS s).map .d)), (400, .vals ((encP p).map .d)), (600, .vals ((encP (rdI p.kids 0)).map .d))] ?_ ?_
              · refine Run.seq ?_
                refine Run.opsM false [⟨Op.move (Operand.tmp 20), some 185, none⟩, ⟨Op.fieldAddr 27 (Operand.tmp 3) 2, some 186, none⟩, ⟨Op.load 3 (Operand.tmp 186), some 187, none⟩, ⟨Op.binOp BinOp.eql 3 (Operand.tmp 185) (Operand.tmp 187) 3, some 188, none⟩] mixed (by decide) rfl fun K hK => ?_
                try simp
                repeat' first | ((refine evL_c ?_); simp [hn, hk, hop, hkl, hb0, hel, hji, hi1, he0, he1, he2]) | (with_reducible refine And.intro ?_ ?_) | intro _ | (with_reducible assumption) | omega
                all_goals (refine Fin.go hK ?_; clear hK K)
                simp only [Then_normal]
                refine Run.cond rfl (fun h188 => ?_) (fun h188 => ?_)
                · try simp at h188
                  refine Run.opsM false [⟨Op.fieldAddr 82 (Operand.tmp 2) 0, some 189, none⟩, ⟨Op.fieldAddr 33 (Operand.tmp 189) 1, some 190, none⟩, ⟨Op.load 29 (Operand.tmp 190), some 191, none⟩, ⟨Op.move (Operand.tmp 19), some 192, none⟩, ⟨Op.indexAddr 29 (Operand.tmp 191) (Operand.tmp 192), some 193, none⟩, ⟨Op.fieldAddr 105 (Operand.tmp 193) 3, some 194, none⟩, ⟨Op.load 3 (Operand.tmp 194), some 195, none⟩, ⟨Op.assign (Operand.tmp 195), some 20, none⟩] mixed (by decide) rfl fun K hK => ?_
                  try simp
                  repeat' first | ((refine evL_c ?_); simp [hn, hk, hop, hkl, hb0, hel, hji, hi1, he0, he1, he2]) | (with_reducible refine And.intro ?_ ?_) | intro _ | (with_reducible assumption) | omega
                  all_goals (refine Fin.go hK ?_; clear hK K)
                  try simp at h188
                  try simp [h188] at hu
                  simp [hop, hn, hu, h188]
                · try simp at h188
                  refine Run.skip ?_
                  try simp at h188
                  try simp [h188] at hu
                  simp [hop, hn, hu, h188]
              · simp only [over, List.foldl, List.set]
                refine Run.opsM false [⟨Op.move (Operand.tmp 6), some 196, none⟩, ⟨Op.load 82 (Operand.tmp 2), some 197, none⟩, ⟨Op.move (Operand.tmp 19), some 198, none⟩, ⟨Op.call { callee := Callee.value (Operand.func 65), args := #[Operand.tmp 197, Operand.tmp 198], argTypes := #[82, 3] }, some 199, none⟩, ⟨Op.buildSlice 51 2 #[(0, Operand.tmp 196), (1, Operand.tmp 199)], some 200, none⟩, ⟨Op.call { callee := Callee.value (Operand.func 66), args := #[Operand.tmp 200], argTypes := #[51] }, some 201, none⟩, ⟨Op.load 82 (Operand.tmp 2), some 202, none⟩, ⟨Op.fieldAddr 27 (Operand.tmp 3) 2, some 203, none⟩, ⟨Op.load 3 (Operand.tmp 203), some 204, none⟩, ⟨Op.call { callee := Callee.value (Operand.func 63), args := #[Operand.tmp 202, Operand.tmp 204], argTypes := #[82, 3] }, some 205, none⟩, ⟨Op.call { callee := Callee.value (Operand.func 64), args := #[Operand.tmp 201, Operand.tmp 205], argTypes := #[2, 2] }, some 206, none⟩, ⟨Op.load 82 (Operand.tmp 2), some 207, none⟩, ⟨Op.move (Operand.tmp 20), some 208, none⟩, ⟨Op.call { callee := Callee.value (Operand.func 63), args := #[Operand.tmp 207, Operand.tmp 208], argTypes := #[82, 3] }, some 209, none⟩, ⟨Op.call { callee := Callee.value (Operand.func 64), args := #[Operand.tmp 206, Operand.tmp 209], argTypes := #[2, 2] }, some 210, none⟩, ⟨Op.assign (Operand.tmp 210), some 6, none⟩] mixed (by decide) rfl fun K hK => ?_
                try simp
                repeat' first | (refine ecallD (by exact hE1) ?_) | (refine ecallF (by simp) (by simp) hMi ?_) | (refine ecallD (by exact hN0) ?_) | (refine ecallD (by exact hS1) ?_) | (refine ecallD (by exact hN1) ?_) | (refine ecallD (by exact hS2) ?_) | ((refine evL_c ?_); simp [hn, hk, hop, hkl, hb0, hel, hji, hi1, he0, he1, he2]) | (with_reducible refine And.intro ?_ ?_) | intro _ | (with_reducible assumption) | omega
                all_goals (refine Fin.go hK ?_; clear hK K)
                simp only [Blok_normal]
                simp only [Then_normal]
                refine Run.opsM false [⟨Op.binOp BinOp.add 3 (Operand.tmp 174) (Operand.const (Value.int IntKind.i64 1)) 3, some 211, none⟩, ⟨Op.move (Operand.tmp 211), some 174, none⟩] mixed (by decide) rfl fun K hK => ?_
                try simp
                repeat' first | ((refine evL_c ?_); simp [hn, hk, hop, hkl, hb0, hel, hji, hi1, he0, he1, he2]) | (with_reducible refine And.intro ?_ ?_) | intro _ | (with_reducible assumption) | omega
                all_goals (refine Fin.go hK ?_; clear hK K)
                refine ⟨i + 1, by omega, by omega, ?_⟩
                simp (disch := omega) [wrap_id, hju, hop, hn]
            · try simp [hji] at h175
              have hi5 : i = el := by omega
              subst hi5
              refine Run.exit ?_
              simp (decide := true) only [Then_exit, Blok_exit, if_true, if_false]
              simp only [Blok_normal]
              simp only [Then_normal]
              refine Run.seq ?_
              refine Run.opsM false [⟨Op.move (Operand.tmp 6), some 222, none⟩, ⟨Op.assign (Operand.tmp 222), some 4, none⟩] mixed (by decide) rfl fun K hK => ?_
              try simp
              repeat' first | ((refine evL_c ?_); simp [hn, hk, hop, hkl, hb0, hel, hji]) | (with_reducible refine And.intro ?_ ?_) | intro _ | (with_reducible assumption) | omega
              all_goals (refine Fin.go hK ?_; clear hK K)
              simp only [Then_normal]
              refine Run.ret ?_
              try simp only [Then_ret, Blok_ret]
              simp [hel, hji]
          · simp at h162


end Go.Proofs.Ytihbejpkfifplaa.Z
