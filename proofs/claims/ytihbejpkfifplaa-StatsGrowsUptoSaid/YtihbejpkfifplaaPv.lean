/- An estimate's kinds. -/
import Derived.Test.YtihbejpkfifplaaPt
set_option linter.unusedVariables false
set_option linter.unusedSimpArgs false
set_option maxRecDepth 100000
namespace Go.Proofs.Ytihbejpkfifplaa.Z
open Go Go.Fw
set_option maxHeartbeats 4000000 in
theorem est2_ok (c : CoreT) (s : StatsT) (p : PlanT) (n0 : Int) (b0 : List Bool) (hP : patS c.nodes c.edges = true) (hop : p.op = 2) (hkl : p.kids.length = 1) (he0 : 0 ≤ rdI p.edges 0) (he1 : rdI p.edges 0 < c.edges.length) (hel : p.edges.length = 1) (IH0 : Snd P 32 [.d (.ag (encC c ++ encS s)), .d (.ag (encP (rdI p.kids 0)))] (.int n0) []) (hn0 : 0 ≤ n0 ∧ n0 ≤ 1099511627776) (hB0 : Snd P 20 [.d (.ag (encP (rdI p.kids 0))), .d (.ag (encC c))] (.tup [.d (.sl false (b0.map encB)), .int 0]) []) (hb0 : b0.length = c.nodes.length + c.edges.length) : Snd P 32 [.d (.ag (encC c ++ encS s)), .d (.ag (encP p))] (.int (stepS c s p n0 b0)) [] := by
  refine Snd.ok 0 rfl (by kernel_rfl) fun hok => ?_
  have hhi := encC_ok hok (rdI_mem he0 he1)
  clear hok
  obtain ⟨-, hn8, hk8⟩ := pat_rng hP
  have hE := goodE_of hP
  obtain ⟨n, hn⟩ : ∃ k, c.nodes.length = k := ⟨_, rfl⟩
  obtain ⟨k, hk⟩ : ∃ k, c.edges.length = k := ⟨_, rfl⟩
  rw [hn] at hn8
  rw [hk] at hk8
  rw [hn, hk] at hb0
  have hI := IH0
  have hJ := hB0
  rw [encP_cells] at hI hJ
  obtain ⟨ke, hke⟩ : ∃ x, rdI p.edges 0 = x := ⟨_, rfl⟩
  rw [hke] at he0 he1 hhi
  obtain ⟨mx, hmx⟩ : ∃ x, (rdI c.edges ke).hi = x := ⟨_, rfl⟩
  rw [hmx] at hhi
  have hel0 : 0 < p.edges.length := by omega
  have he2 : ke < (k : Int) := by rw [← hk]; exact he1
  have hG := hE (rdI c.edges ke) (rdI_mem he0 he1)
  rw [hn] at hG
  obtain ⟨fr, hfr⟩ : ∃ x, fromE c p = x := ⟨_, rfl⟩
  obtain ⟨to, hto⟩ : ∃ x, toE c p = x := ⟨_, rfl⟩
  have hf : 0 ≤ fr ∧ fr < n ∧ 0 ≤ to ∧ to < n := by
    rw [← hfr, ← hto]; unfold fromE toE; rw [hke]; split <;> omega
  obtain ⟨hf1, hf2, hf3, hf4⟩ := hf
  have hf5 : to < (n : Int) + k := by omega
  have hf6 : to < (b0.length : Int) := by omega
  have hE1 := edgesS_ok c s ke he0 he1
  have hN1 := nodesS_ok c s fr hf1 (by omega)
  have hN2 := nodesS_ok c s to hf3 (by omega)
  obtain ⟨nf, hnf⟩ : ∃ x, nodesS c s fr = x := ⟨_, rfl⟩
  obtain ⟨nt, hnt⟩ : ∃ x, nodesS c s to = x := ⟨_, rfl⟩
  obtain ⟨ee, hee⟩ : ∃ x, edgesS c s ke = x := ⟨_, rfl⟩
  have r1 := nodesS_rng c s fr
  have r2 := nodesS_rng c s to
  have r3 := edgesS_rng c s ke
  rw [hnf] at r1 hN1
  rw [hnt] at r2 hN2
  rw [hee] at r3 hE1
  have hS1 := share_ok' ee nf r3 r1
  have hdr := share_rng' r3 r1
  obtain ⟨d, hd⟩ : ∃ x, shareS ee nf = x := ⟨_, rfl⟩
  rw [hd] at hS1 hdr
  obtain ⟨sd, hsd⟩ : ∃ x, stepD c s p = x := ⟨_, rfl⟩
  have hsr := stepD_rng c s p
  rw [hsd] at hsr
  have hM := prod2D_ok n0 sd hn0 hsr
  have hmr := mul_rng' hn0 hsr
  obtain ⟨m, hm⟩ : ∃ x, mulS n0 sd = x := ⟨_, rfl⟩
  rw [hm] at hM hmr
  have hS2 := share_ok' m nt hmr r2
  have hsd2 : sd = d := by rw [← hsd, stepD, if_neg (by omega), hke, hee, hfr, hnf, hd]
  subst hsd2
  refine snd_of [] Try.func32 rfl (by kernel_rfl) Try.ntmps32 (by simp) ?_
  unfold Try.f32
  simp only [List.cons_append, List.nil_append, List.length_cons, List.length_nil, Nat.reduceAdd, Nat.reduceSub, List.replicate]
  refine Run.seq ?_
  refine Run.opsM false [⟨Op.box 82 (Operand.tmp 0), some 2, none⟩, ⟨Op.box 27 (Operand.tmp 1), some 3, none⟩, ⟨Op.assign (Operand.const (Value.int IntKind.i64 0)), some 4, none⟩] mixed (by decide) rfl fun K hK => ?_
  try simp
  repeat' first | ((refine evL_c ?_); simp [hn, hk, hop, hkl, hb0, hmx, hke, he0, he1, he2, hel0, hf1, hf2, hf3, hf4, hf5, hf6, hfr, hto]) | (with_reducible refine And.intro ?_ ?_) | intro _ | (with_reducible assumption) | omega
  all_goals (refine Fin.go hK ?_; clear hK K)
  simp only [Then_normal]
  refine Run.seq ?_
  refine Run.seq ?_
  refine Run.opsM false [⟨Op.fieldAddr 27 (Operand.tmp 3) 0, some 21, none⟩, ⟨Op.load 22 (Operand.tmp 21), some 22, none⟩, ⟨Op.binOp BinOp.eql 22 (Operand.tmp 22) (Operand.const (Value.int IntKind.i64 1)) 22, some 23, none⟩] mixed (by decide) rfl fun K hK => ?_
  try simp
  repeat' first | ((refine evL_c ?_); simp [hn, hk, hop, hkl, hb0, hmx, hke, he0, he1, he2, hel0, hf1, hf2, hf3, hf4, hf5, hf6, hfr, hto]) | (with_reducible refine And.intro ?_ ?_) | intro _ | (with_reducible assumption) | omega
  all_goals (refine Fin.go hK ?_; clear hK K)
  simp only [Then_normal]
  refine Run.cond rfl (fun h23 => ?_) (fun h23 => ?_)
  · simp at h23
  · skip
    refine Run.skip ?_
    simp only [Then_normal]
    refine Run.seq ?_
    refine Run.opsM false [⟨Op.fieldAddr 27 (Operand.tmp 3) 1, some 28, none⟩, ⟨Op.load 23 (Operand.tmp 28), some 29, none⟩, ⟨Op.indexAddr 23 (Operand.tmp 29) (Operand.const (Value.int IntKind.i64 0)), some 30, none⟩, ⟨Op.load 27 (Operand.tmp 30), some 31, none⟩, ⟨Op.alloc 27, some 5, none⟩, ⟨Op.store 27 (Operand.tmp 5) (Operand.tmp 31), none, none⟩] mixed (by decide) rfl fun K hK => ?_
    try simp
    repeat' first | ((refine evL_c ?_); simp [hn, hk, hop, hkl, hb0, hmx, hke, he0, he1, he2, hel0, hf1, hf2, hf3, hf4, hf5, hf6, hfr, hto]) | (with_reducible refine And.intro ?_ ?_) | intro _ | (with_reducible assumption) | omega
    all_goals (refine Fin.go hK ?_; clear hK K)
    simp only [Then_normal]
    refine Run.seq ?_
    refine Run.opsM false [⟨Op.load 82 (Operand.tmp 2), some 32, none⟩, ⟨Op.load 27 (Operand.tmp 5), some 33, none⟩, ⟨Op.call { callee := Callee.value (Operand.func 32), args := #[Operand.tmp 32, Operand.tmp 33], argTypes := #[82, 27] }, some 34, none⟩, ⟨Op.assign (Operand.tmp 34), some 6, none⟩] mixed (by decide) rfl fun K hK => ?_
    try simp
    repeat' first | (refine ecallD (by exact hI) ?_) | ((refine evL_c ?_); simp [hn, hk, hop, hkl, hb0, hmx, hke, he0, he1, he2, hel0, hf1, hf2, hf3, hf4, hf5, hf6, hfr, hto]) | (with_reducible refine And.intro ?_ ?_) | intro _ | (with_reducible assumption) | omega
    all_goals (refine Fin.go hK ?_; clear hK K)
    simp only [Then_normal]
    refine Run.seq ?_
    refine Run.opsM false [⟨Op.load 27 (Operand.tmp 5), some 36, none⟩, ⟨Op.fieldAddr 82 (Operand.tmp 2) 0, some 37, none⟩, ⟨Op.load 33 (Operand.tmp 37), some 38, none⟩, ⟨Op.call { callee := Callee.value (Operand.func 20), args := #[Operand.tmp 36, Operand.tmp 38], argTypes := #[27, 33] }, some 39, none⟩, ⟨Op.move (Operand.tmp 39), some 35, none⟩, ⟨Op.extract (Operand.tmp 35) 0, some 40, none⟩, ⟨Op.extract (Operand.tmp 35) 1, some 41, none⟩, ⟨Op.assign (Operand.tmp 40), some 7, none⟩, ⟨Op.assign (Operand.tmp 41), some 8, none⟩] mixed (by decide) rfl fun K hK => ?_
    try simp
    repeat' first | (refine ecall (by exact hJ) rfl ?_) | ((refine evL_c ?_); simp [hn, hk, hop, hkl, hb0, hmx, hke, he0, he1, he2, hel0, hf1, hf2, hf3, hf4, hf5, hf6, hfr, hto]) | (with_reducible refine And.intro ?_ ?_) | intro _ | (with_reducible assumption) | omega
    all_goals (refine Fin.go hK ?_; clear hK K)
    simp only [Then_normal]
    refine Run.seq ?_
    refine Run.seq ?_
    refine Run.opsM false [⟨Op.fieldAddr 27 (Operand.tmp 3) 0, some 42, none⟩, ⟨Op.load 22 (Operand.tmp 42), some 43, none⟩] mixed (by decide) rfl fun K hK => ?_
    try simp
    repeat' first | ((refine evL_c ?_); simp [hn, hk, hop, hkl, hb0, hmx, hke, he0, he1, he2, hel0, hf1, hf2, hf3, hf4, hf5, hf6, hfr, hto]) | (with_reducible refine And.intro ?_ ?_) | intro _ | (with_reducible assumption) | omega
    all_goals (refine Fin.go hK ?_; clear hK K)
    simp only [Then_normal]
    refine Run.block ?_
    refine Run.seq ?_
    refine Run.seq ?_
    refine Run.opsM false [⟨Op.binOp BinOp.eql 22 (Operand.tmp 43) (Operand.const (Value.int IntKind.i64 2)) 22, some 45, none⟩, ⟨Op.assign (Operand.tmp 45), some 44, none⟩] mixed (by decide) rfl fun K hK => ?_
    try simp
    repeat' first | ((refine evL_c ?_); simp [hn, hk, hop, hkl, hb0, hmx, hke, he0, he1, he2, hel0, hf1, hf2, hf3, hf4, hf5, hf6, hfr, hto]) | (with_reducible refine And.intro ?_ ?_) | intro _ | (with_reducible assumption) | omega
    all_goals (refine Fin.go hK ?_; clear hK K)
    simp only [Then_normal]
    refine Run.cond rfl (fun h44 => ?_) (fun h44 => ?_)
    · skip
      refine Run.skip ?_
      simp only [Then_normal]
      refine Run.cond rfl (fun h44 => ?_) (fun h44 => ?_)
      · skip
        refine Run.seq ?_
        refine Run.opsM false [⟨Op.fieldAddr 27 (Operand.tmp 3) 3, some 47, none⟩, ⟨Op.load 24 (Operand.tmp 47), some 48, none⟩, ⟨Op.indexAddr 24 (Operand.tmp 48) (Operand.const (Value.int IntKind.i64 0)), some 49, none⟩, ⟨Op.load 3 (Operand.tmp 49), some 50, none⟩, ⟨Op.assign (Operand.tmp 50), some 9, none⟩] mixed (by decide) rfl fun K hK => ?_
        try simp
        repeat' first | ((refine evL_c ?_); simp [hn, hk, hop, hkl, hb0, hmx, hke, he0, he1, he2, hel0, hf1, hf2, hf3, hf4, hf5, hf6, hfr, hto]) | (with_reducible refine And.intro ?_ ?_) | intro _ | (with_reducible assumption) | omega
        all_goals (refine Fin.go hK ?_; clear hK K)
        simp only [Then_normal]
        refine Run.seq ?_
        refine Run.opsM false [⟨Op.fieldAddr 82 (Operand.tmp 2) 0, some 51, none⟩, ⟨Op.fieldAddr 33 (Operand.tmp 51) 1, some 52, none⟩, ⟨Op.load 29 (Operand.tmp 52), some 53, none⟩, ⟨Op.move (Operand.tmp 9), some 54, none⟩, ⟨Op.indexAddr 29 (Operand.tmp 53) (Operand.tmp 54), some 55, none⟩, ⟨Op.fieldAddr 105 (Operand.tmp 55) 2, some 56, none⟩, ⟨Op.load 3 (Operand.tmp 56), some 57, none⟩, ⟨Op.fieldAddr 82 (Operand.tmp 2) 0, some 58, none⟩, ⟨Op.fieldAddr 33 (Operand.tmp 58) 1, some 59, none⟩, ⟨Op.load 29 (Operand.tmp 59), some 60, none⟩, ⟨Op.move (Operand.tmp 9), some 61, none⟩, ⟨Op.indexAddr 29 (Operand.tmp 60) (Operand.tmp 61), some 62, none⟩, ⟨Op.fieldAddr 105 (Operand.tmp 62) 3, some 63, none⟩, ⟨Op.load 3 (Operand.tmp 63), some 64, none⟩, ⟨Op.assign (Operand.tmp 57), some 10, none⟩, ⟨Op.assign (Operand.tmp 64), some 11, none⟩] mixed (by decide) rfl fun K hK => ?_
        try simp
        repeat' first | ((refine evL_c ?_); simp [hn, hk, hop, hkl, hb0, hmx, hke, he0, he1, he2, hel0, hf1, hf2, hf3, hf4, hf5, hf6, hfr, hto]) | (with_reducible refine And.intro ?_ ?_) | intro _ | (with_reducible assumption) | omega
        all_goals (refine Fin.go hK ?_; clear hK K)
        simp only [Then_normal]
        refine Run.cut [10, 11, 65, 66, 67, 68] [(10, .int fr), (11, .int to)] [(300, .vals ((encC c ++ encS s).map .d)), (400, .vals ((encP p).map .d)), (600, .vals ((encP (rdI p.kids 0)).map .d))] ?_ ?_
        · refine Run.seq ?_
          refine Run.opsM false [⟨Op.fieldAddr 27 (Operand.tmp 3) 4, some 65, none⟩, ⟨Op.load 4 (Operand.tmp 65), some 66, none⟩] mixed (by decide) rfl fun K hK => ?_
          try simp
          repeat' first | ((refine evL_c ?_); simp [hn, hk, hop, hkl, hb0, hmx, hke, he0, he1, he2, hel0, hf1, hf2, hf3, hf4, hf5, hf6, hfr, hto]) | (with_reducible refine And.intro ?_ ?_) | intro _ | (with_reducible assumption) | omega
          all_goals (refine Fin.go hK ?_; clear hK K)
          simp only [Then_normal]
          refine Run.cond rfl (fun h66 => ?_) (fun h66 => ?_)
          · try simp at h66
            refine Run.opsM false [⟨Op.move (Operand.tmp 11), some 67, none⟩, ⟨Op.move (Operand.tmp 10), some 68, none⟩, ⟨Op.assign (Operand.tmp 67), some 10, none⟩, ⟨Op.assign (Operand.tmp 68), some 11, none⟩] mixed (by decide) rfl fun K hK => ?_
            try simp
            repeat' first | ((refine evL_c ?_); simp [hn, hk, hop, hkl, hb0, hmx, hke, he0, he1, he2, hel0, hf1, hf2, hf3, hf4, hf5, hf6, hfr, hto]) | (with_reducible refine And.intro ?_ ?_) | intro _ | (with_reducible assumption) | omega
            all_goals (refine Fin.go hK ?_; clear hK K)
            rw [fromE, hke, h66] at hfr
            rw [toE, hke, h66] at hto
            simp at hfr hto
            simp [hfr, hto, hn, hop]
          · try simp at h66
            refine Run.skip ?_
            rw [fromE, hke, h66] at hfr
            rw [toE, hke, h66] at hto
            simp at hfr hto
            simp [hfr, hto, hn, hop]
        · simp only [over, List.foldl, List.set]
          refine Run.seq ?_
          refine Run.opsM false [⟨Op.load 82 (Operand.tmp 2), some 69, none⟩, ⟨Op.move (Operand.tmp 9), some 70, none⟩, ⟨Op.call { callee := Callee.value (Operand.func 65), args := #[Operand.tmp 69, Operand.tmp 70], argTypes := #[82, 3] }, some 71, none⟩, ⟨Op.load 82 (Operand.tmp 2), some 72, none⟩, ⟨Op.move (Operand.tmp 10), some 73, none⟩, ⟨Op.call { callee := Callee.value (Operand.func 63), args := #[Operand.tmp 72, Operand.tmp 73], argTypes := #[82, 3] }, some 74, none⟩, ⟨Op.call { callee := Callee.value (Operand.func 64), args := #[Operand.tmp 71, Operand.tmp 74], argTypes := #[2, 2] }, some 75, none⟩, ⟨Op.assign (Operand.tmp 75), some 12, none⟩] mixed (by decide) rfl fun K hK => ?_
          try simp
          repeat' first | (refine ecallD (by exact hE1) ?_) | (refine ecallD (by exact hN1) ?_) | (refine ecallD (by exact hS1) ?_) | ((refine evL_c ?_); simp [hn, hk, hop, hkl, hb0, hmx, hke, he0, he1, he2, hel0, hf1, hf2, hf3, hf4, hf5, hf6, hfr, hto]) | (with_reducible refine And.intro ?_ ?_) | intro _ | (with_reducible assumption) | omega
          all_goals (refine Fin.go hK ?_; clear hK K)
          simp only [Then_normal]
          refine Run.seq ?_
          refine Run.seq ?_
          refine Run.opsM false [⟨Op.fieldAddr 27 (Operand.tmp 3) 0, some 76, none⟩, ⟨Op.load 22 (Operand.tmp 76), some 77, none⟩, ⟨Op.binOp BinOp.eql 22 (Operand.tmp 77) (Operand.const (Value.int IntKind.i64 3)) 22, some 78, none⟩] mixed (by decide) rfl fun K hK => ?_
          try simp
          repeat' first | ((refine evL_c ?_); simp [hn, hk, hop, hkl, hb0, hmx, hke, he0, he1, he2, hel0, hf1, hf2, hf3, hf4, hf5, hf6, hfr, hto]) | (with_reducible refine And.intro ?_ ?_) | intro _ | (with_reducible assumption) | omega
          all_goals (refine Fin.go hK ?_; clear hK K)
          simp only [Then_normal]
          refine Run.cond rfl (fun h78 => ?_) (fun h78 => ?_)
          · simp at h78
          · skip
            refine Run.skip ?_
            simp only [Then_normal]
            refine Run.seq ?_
            refine Run.opsM false [⟨Op.move (Operand.tmp 6), some 105, none⟩, ⟨Op.move (Operand.tmp 12), some 106, none⟩, ⟨Op.buildSlice 51 2 #[(0, Operand.tmp 105), (1, Operand.tmp 106)], some 107, none⟩, ⟨Op.call { callee := Callee.value (Operand.func 66), args := #[Operand.tmp 107], argTypes := #[51] }, some 108, none⟩, ⟨Op.assign (Operand.tmp 108), some 6, none⟩] mixed (by decide) rfl fun K hK => ?_
            try simp
            repeat' first | (refine ecallF (by simp) (by simp) hM ?_) | ((refine evL_c ?_); simp [hn, hk, hop, hkl, hb0, hmx, hke, he0, he1, he2, hel0, hf1, hf2, hf3, hf4, hf5, hf6, hfr, hto]) | (with_reducible refine And.intro ?_ ?_) | intro _ | (with_reducible assumption) | omega
            all_goals (refine Fin.go hK ?_; clear hK K)
            simp only [Then_normal]
            refine Run.seq ?_
            refine Run.opsM false [⟨Op.move (Operand.tmp 7), some 109, none⟩, ⟨Op.move (Operand.tmp 11), some 110, none⟩, ⟨Op.indexAddr 60 (Operand.tmp 109) (Operand.tmp 110), some 111, none⟩, ⟨Op.load 4 (Operand.tmp 111), some 112, none⟩] mixed (by decide) rfl fun K hK => ?_
            try simp
            repeat' first | ((refine evL_c ?_); simp [hn, hk, hop, hkl, hb0, hmx, hke, he0, he1, he2, hel0, hf1, hf2, hf3, hf4, hf5, hf6, hfr, hto]) | (with_reducible refine And.intro ?_ ?_) | intro _ | (with_reducible assumption) | omega
            all_goals (refine Fin.go hK ?_; clear hK K)
            simp only [Then_normal]
            refine Run.cond rfl (fun h112 => ?_) (fun h112 => ?_)
            · try simp at h112
              refine Run.opsM false [⟨Op.move (Operand.tmp 6), some 113, none⟩, ⟨Op.load 82 (Operand.tmp 2), some 114, none⟩, ⟨Op.move (Operand.tmp 11), some 115, none⟩, ⟨Op.call { callee := Callee.value (Operand.func 63), args := #[Operand.tmp 114, Operand.tmp 115], argTypes := #[82, 3] }, some 116, none⟩, ⟨Op.call { callee := Callee.value (Operand.func 64), args := #[Operand.tmp 113, Operand.tmp 116], argTypes := #[2, 2] }, some 117, none⟩, ⟨Op.assign (Operand.tmp 117), some 6, none⟩] mixed (by decide) rfl fun K hK => ?_
              try simp
              repeat' first | (refine ecallD (by exact hN2) ?_) | (refine ecallD (by exact hS2) ?_) | ((refine evL_c ?_); simp [hn, hk, hop, hkl, hb0, hmx, hke, he0, he1, he2, hel0, hf1, hf2, hf3, hf4, hf5, hf6, hfr, hto]) | (with_reducible refine And.intro ?_ ?_) | intro _ | (with_reducible assumption) | omega
              all_goals (refine Fin.go hK ?_; clear hK K)
              simp only [Blok_normal]
              simp only [Then_normal]
              refine Run.seq ?_
              refine Run.opsM false [⟨Op.move (Operand.tmp 6), some 222, none⟩, ⟨Op.assign (Operand.tmp 222), some 4, none⟩] mixed (by decide) rfl fun K hK => ?_
              try simp
              repeat' first | ((refine evL_c ?_); simp [hn, hk, hop, hkl, hb0, hmx, hke, he0, he1, he2, hel0, hf1, hf2, hf3, hf4, hf5, hf6, hfr, hto]) | (with_reducible refine And.intro ?_ ?_) | intro _ | (with_reducible assumption) | omega
              all_goals (refine Fin.go hK ?_; clear hK K)
              simp only [Then_normal]
              refine Run.ret ?_
              try simp only [Then_ret, Blok_ret]
              simp [stepS, hto, hsd, hnt, hm, h112]
            · try simp at h112
              refine Run.skip ?_
              simp only [Blok_normal]
              simp only [Then_normal]
              refine Run.seq ?_
              refine Run.opsM false [⟨Op.move (Operand.tmp 6), some 222, none⟩, ⟨Op.assign (Operand.tmp 222), some 4, none⟩] mixed (by decide) rfl fun K hK => ?_
              try simp
              repeat' first | ((refine evL_c ?_); simp [hn, hk, hop, hkl, hb0, hmx, hke, he0, he1, he2, hel0, hf1, hf2, hf3, hf4, hf5, hf6, hfr, hto]) | (with_reducible refine And.intro ?_ ?_) | intro _ | (with_reducible assumption) | omega
              all_goals (refine Fin.go hK ?_; clear hK K)
              simp only [Then_normal]
              refine Run.ret ?_
              try simp only [Then_ret, Blok_ret]
              simp [stepS, hto, hsd, hnt, hm, h112]
      · simp at h44
    · simp at h44

set_option maxHeartbeats 4000000 in
theorem est3_ok (c : CoreT) (s : StatsT) (p : PlanT) (n0 : Int) (b0 : List Bool) (hP : patS c.nodes c.edges = true) (hop : p.op = 3) (hkl : p.kids.length = 1) (he0 : 0 ≤ rdI p.edges 0) (he1 : rdI p.edges 0 < c.edges.length) (hel : p.edges.length = 1) (IH0 : Snd P 32 [.d (.ag (encC c ++ encS s)), .d (.ag (encP (rdI p.kids 0)))] (.int n0) []) (hn0 : 0 ≤ n0 ∧ n0 ≤ 1099511627776) (hB0 : Snd P 20 [.d (.ag (encP (rdI p.kids 0))), .d (.ag (encC c))] (.tup [.d (.sl false (b0.map encB)), .int 0]) []) (hb0 : b0.length = c.nodes.length + c.edges.length) : Snd P 32 [.d (.ag (encC c ++ encS s)), .d (.ag (encP p))] (.int (stepS c s p n0 b0)) [] := by
  refine Snd.ok 0 rfl (by kernel_rfl) fun hok => ?_
  have hhi := encC_ok hok (rdI_mem he0 he1)
  clear hok
  obtain ⟨-, hn8, hk8⟩ := pat_rng hP
  have hE := goodE_of hP
  obtain ⟨n, hn⟩ : ∃ k, c.nodes.length = k := ⟨_, rfl⟩
  obtain ⟨k, hk⟩ : ∃ k, c.edges.length = k := ⟨_, rfl⟩
  rw [hn] at hn8
  rw [hk] at hk8
  rw [hn, hk] at hb0
  have hI := IH0
  have hJ := hB0
  rw [encP_cells] at hI hJ
  obtain ⟨ke, hke⟩ : ∃ x, rdI p.edges 0 = x := ⟨_, rfl⟩
  rw [hke] at he0 he1 hhi
  obtain ⟨mx, hmx⟩ : ∃ x, (rdI c.edges ke).hi = x := ⟨_, rfl⟩
  rw [hmx] at hhi
  have hel0 : 0 < p.edges.length := by omega
  have he2 : ke < (k : Int) := by rw [← hk]; exact he1
  have hG := hE (rdI c.edges ke) (rdI_mem he0 he1)
  rw [hn] at hG
  obtain ⟨fr, hfr⟩ : ∃ x, fromE c p = x := ⟨_, rfl⟩
  obtain ⟨to, hto⟩ : ∃ x, toE c p = x := ⟨_, rfl⟩
  have hf : 0 ≤ fr ∧ fr < n ∧ 0 ≤ to ∧ to < n := by
    rw [← hfr, ← hto]; unfold fromE toE; rw [hke]; split <;> omega
  obtain ⟨hf1, hf2, hf3, hf4⟩ := hf
  have hf5 : to < (n : Int) + k := by omega
  have hf6 : to < (b0.length : Int) := by omega
  have hE1 := edgesS_ok c s ke he0 he1
  have hN1 := nodesS_ok c s fr hf1 (by omega)
  have hN2 := nodesS_ok c s to hf3 (by omega)
  obtain ⟨nf, hnf⟩ : ∃ x, nodesS c s fr = x := ⟨_, rfl⟩
  obtain ⟨nt, hnt⟩ : ∃ x, nodesS c s to = x := ⟨_, rfl⟩
  obtain ⟨ee, hee⟩ : ∃ x, edgesS c s ke = x := ⟨_, rfl⟩
  have r1 := nodesS_rng c s fr
  have r2 := nodesS_rng c s to
  have r3 := edgesS_rng c s ke
  rw [hnf] at r1 hN1
  rw [hnt] at r2 hN2
  rw [hee] at r3 hE1
  have hS1 := share_ok' ee nf r3 r1
  have hdr := share_rng' r3 r1
  obtain ⟨d, hd⟩ : ∃ x, shareS ee nf = x := ⟨_, rfl⟩
  rw [hd] at hS1 hdr
  obtain ⟨sd, hsd⟩ : ∃ x, stepD c s p = x := ⟨_, rfl⟩
  have hsr := stepD_rng c s p
  rw [hsd] at hsr
  have hM := prod2D_ok n0 sd hn0 hsr
  have hmr := mul_rng' hn0 hsr
  obtain ⟨m, hm⟩ : ∃ x, mulS n0 sd = x := ⟨_, rfl⟩
  rw [hm] at hM hmr
  have hS2 := share_ok' m nt hmr r2
  have hsd2 : sd = pathS mx d := by rw [← hsd, stepD, if_pos hop, hke, hee, hfr, hnf, hd, hmx]
  have hw1 : IntKind.i64.wrap (d + 1) = d + 1 := wrap_id (by omega) (by omega)
  refine snd_of [] Try.func32 rfl (by kernel_rfl) Try.ntmps32 (by simp) ?_
  unfold Try.f32
  simp only [List.cons_append, List.nil_append, List.length_cons, List.length_nil, Nat.reduceAdd, Nat.reduceSub, List.replicate]
  refine Run.seq ?_
  refine Run.opsM false [⟨Op.box 82 (Operand.tmp 0), some 2, none⟩, ⟨Op.box 27 (Operand.tmp 1), some 3, none⟩, ⟨Op.assign (Operand.const (Value.int IntKind.i64 0)), some 4, none⟩] mixed (by decide) rfl fun K hK => ?_
  try simp
  repeat' first | ((refine evL_c ?_); simp [hn, hk, hop, hkl, hb0, hmx, hke, he0, he1, he2, hel0, hf1, hf2, hf3, hf4, hf5, hf6, hfr, hto]) | (with_reducible refine And.intro ?_ ?_) | intro _ | (with_reducible assumption) | omega
  all_goals (refine Fin.go hK ?_; clear hK K)
  simp only [Then_normal]
  refine Run.seq ?_
  refine Run.seq ?_
  refine Run.opsM false [⟨Op.fieldAddr 27 (Operand.tmp 3) 0, some 21, none⟩, ⟨Op.load 22 (Operand.tmp 21), some 22, none⟩, ⟨Op.binOp BinOp.eql 22 (Operand.tmp 22) (Operand.const (Value.int IntKind.i64 1)) 22, some 23, none⟩] mixed (by decide) rfl fun K hK => ?_
  try simp
  repeat' first | ((refine evL_c ?_); simp [hn, hk, hop, hkl, hb0, hmx, hke, he0, he1, he2, hel0, hf1, hf2, hf3, hf4, hf5, hf6, hfr, hto]) | (with_reducible refine And.intro ?_ ?_) | intro _ | (with_reducible assumption) | omega
  all_goals (refine Fin.go hK ?_; clear hK K)
  simp only [Then_normal]
  refine Run.cond rfl (fun h23 => ?_) (fun h23 => ?_)
  · simp at h23
  · skip
    refine Run.skip ?_
    simp only [Then_normal]
    refine Run.seq ?_
    refine Run.opsM false [⟨Op.fieldAddr 27 (Operand.tmp 3) 1, some 28, none⟩, ⟨Op.load 23 (Operand.tmp 28), some 29, none⟩, ⟨Op.indexAddr 23 (Operand.tmp 29) (Operand.const (Value.int IntKind.i64 0)), some 30, none⟩, ⟨Op.load 27 (Operand.tmp 30), some 31, none⟩, ⟨Op.alloc 27, some 5, none⟩, ⟨Op.store 27 (Operand.tmp 5) (Operand.tmp 31), none, none⟩] mixed (by decide) rfl fun K hK => ?_
    try simp
    repeat' first | ((refine evL_c ?_); simp [hn, hk, hop, hkl, hb0, hmx, hke, he0, he1, he2, hel0, hf1, hf2, hf3, hf4, hf5, hf6, hfr, hto]) | (with_reducible refine And.intro ?_ ?_) | intro _ | (with_reducible assumption) | omega
    all_goals (refine Fin.go hK ?_; clear hK K)
    simp only [Then_normal]
    refine Run.seq ?_
    refine Run.opsM false [⟨Op.load 82 (Operand.tmp 2), some 32, none⟩, ⟨Op.load 27 (Operand.tmp 5), some 33, none⟩, ⟨Op.call { callee := Callee.value (Operand.func 32), args := #[Operand.tmp 32, Operand.tmp 33], argTypes := #[82, 27] }, some 34, none⟩, ⟨Op.assign (Operand.tmp 34), some 6, none⟩] mixed (by decide) rfl fun K hK => ?_
    try simp
    repeat' first | (refine ecallD (by exact hI) ?_) | ((refine evL_c ?_); simp [hn, hk, hop, hkl, hb0, hmx, hke, he0, he1, he2, hel0, hf1, hf2, hf3, hf4, hf5, hf6, hfr, hto]) | (with_reducible refine And.intro ?_ ?_) | intro _ | (with_reducible assumption) | omega
    all_goals (refine Fin.go hK ?_; clear hK K)
    simp only [Then_normal]
    refine Run.seq ?_
    refine Run.opsM false [⟨Op.load 27 (Operand.tmp 5), some 36, none⟩, ⟨Op.fieldAddr 82 (Operand.tmp 2) 0, some 37, none⟩, ⟨Op.load 33 (Operand.tmp 37), some 38, none⟩, ⟨Op.call { callee := Callee.value (Operand.func 20), args := #[Operand.tmp 36, Operand.tmp 38], argTypes := #[27, 33] }, some 39, none⟩, ⟨Op.move (Operand.tmp 39), some 35, none⟩, ⟨Op.extract (Operand.tmp 35) 0, some 40, none⟩, ⟨Op.extract (Operand.tmp 35) 1, some 41, none⟩, ⟨Op.assign (Operand.tmp 40), some 7, none⟩, ⟨Op.assign (Operand.tmp 41), some 8, none⟩] mixed (by decide) rfl fun K hK => ?_
    try simp
    repeat' first | (refine ecall (by exact hJ) rfl ?_) | ((refine evL_c ?_); simp [hn, hk, hop, hkl, hb0, hmx, hke, he0, he1, he2, hel0, hf1, hf2, hf3, hf4, hf5, hf6, hfr, hto]) | (with_reducible refine And.intro ?_ ?_) | intro _ | (with_reducible assumption) | omega
    all_goals (refine Fin.go hK ?_; clear hK K)
    simp only [Then_normal]
    refine Run.seq ?_
    refine Run.seq ?_
    refine Run.opsM false [⟨Op.fieldAddr 27 (Operand.tmp 3) 0, some 42, none⟩, ⟨Op.load 22 (Operand.tmp 42), some 43, none⟩] mixed (by decide) rfl fun K hK => ?_
    try simp
    repeat' first | ((refine evL_c ?_); simp [hn, hk, hop, hkl, hb0, hmx, hke, he0, he1, he2, hel0, hf1, hf2, hf3, hf4, hf5, hf6, hfr, hto]) | (with_reducible refine And.intro ?_ ?_) | intro _ | (with_reducible assumption) | omega
    all_goals (refine Fin.go hK ?_; clear hK K)
    simp only [Then_normal]
    refine Run.block ?_
    refine Run.seq ?_
    refine Run.seq ?_
    refine Run.opsM false [⟨Op.binOp BinOp.eql 22 (Operand.tmp 43) (Operand.const (Value.int IntKind.i64 2)) 22, some 45, none⟩, ⟨Op.assign (Operand.tmp 45), some 44, none⟩] mixed (by decide) rfl fun K hK => ?_
    try simp
    repeat' first | ((refine evL_c ?_); simp [hn, hk, hop, hkl, hb0, hmx, hke, he0, he1, he2, hel0, hf1, hf2, hf3, hf4, hf5, hf6, hfr, hto]) | (with_reducible refine And.intro ?_ ?_) | intro _ | (with_reducible assumption) | omega
    all_goals (refine Fin.go hK ?_; clear hK K)
    simp only [Then_normal]
    refine Run.cond rfl (fun h44 => ?_) (fun h44 => ?_)
    · simp at h44
    · skip
      refine Run.opsM false [⟨Op.binOp BinOp.eql 22 (Operand.tmp 43) (Operand.const (Value.int IntKind.i64 3)) 22, some 46, none⟩, ⟨Op.assign (Operand.tmp 46), some 44, none⟩] mixed (by decide) rfl fun K hK => ?_
      try simp
      repeat' first | ((refine evL_c ?_); simp [hn, hk, hop, hkl, hb0, hmx, hke, he0, he1, he2, hel0, hf1, hf2, hf3, hf4, hf5, hf6, hfr, hto]) | (with_reducible refine And.intro ?_ ?_) | intro _ | (with_reducible assumption) | omega
      all_goals (refine Fin.go hK ?_; clear hK K)
      simp only [Then_normal]
      refine Run.cond rfl (fun h44 => ?_) (fun h44 => ?_)
      · skip
        refine Run.seq ?_
        refine Run.opsM false [⟨Op.fieldAddr 27 (Operand.tmp 3) 3, some 47, none⟩, ⟨Op.load 24 (Operand.tmp 47), some 48, none⟩, ⟨Op.indexAddr 24 (Operand.tmp 48) (Operand.const (Value.int IntKind.i64 0)), some 49, none⟩, ⟨Op.load 3 (Operand.tmp 49), some 50, none⟩, ⟨Op.assign (Operand.tmp 50), some 9, none⟩] mixed (by decide) rfl fun K hK => ?_
        try simp
        repeat' first | ((refine evL_c ?_); simp [hn, hk, hop, hkl, hb0, hmx, hke, he0, he1, he2, hel0, hf1, hf2, hf3, hf4, hf5, hf6, hfr, hto]) | (with_reducible refine And.intro ?_ ?_) | intro _ | (with_reducible assumption) | omega
        all_goals (refine Fin.go hK ?_; clear hK K)
        simp only [Then_normal]
        refine Run.seq ?_
        refine Run.opsM false [⟨Op.fieldAddr 82 (Operand.tmp 2) 0, some 51, none⟩, ⟨Op.fieldAddr 33 (Operand.tmp 51) 1, some 52, none⟩, ⟨Op.load 29 (Operand.tmp 52), some 53, none⟩, ⟨Op.move (Operand.tmp 9), some 54, none⟩, ⟨Op.indexAddr 29 (Operand.tmp 53) (Operand.tmp 54), some 55, none⟩, ⟨Op.fieldAddr 105 (Operand.tmp 55) 2, some 56, none⟩, ⟨Op.load 3 (Operand.tmp 56), some 57, none⟩, ⟨Op.fieldAddr 82 (Operand.tmp 2) 0, some 58, none⟩, ⟨Op.fieldAddr 33 (Operand.tmp 58) 1, some 59, none⟩, ⟨Op.load 29 (Operand.tmp 59), some 60, none⟩, ⟨Op.move (Operand.tmp 9), some 61, none⟩, ⟨Op.indexAddr 29 (Operand.tmp 60) (Operand.tmp 61), some 62, none⟩, ⟨Op.fieldAddr 105 (Operand.tmp 62) 3, some 63, none⟩, ⟨Op.load 3 (Operand.tmp 63), some 64, none⟩, ⟨Op.assign (Operand.tmp 57), some 10, none⟩, ⟨Op.assign (Operand.tmp 64), some 11, none⟩] mixed (by decide) rfl fun K hK => ?_
        try simp
        repeat' first | ((refine evL_c ?_); simp [hn, hk, hop, hkl, hb0, hmx, hke, he0, he1, he2, hel0, hf1, hf2, hf3, hf4, hf5, hf6, hfr, hto]) | (with_reducible refine And.intro ?_ ?_) | intro _ | (with_reducible assumption) | omega
        all_goals (refine Fin.go hK ?_; clear hK K)
        simp only [Then_normal]
        refine Run.cut [10, 11, 65, 66, 67, 68] [(10, .int fr), (11, .int to)] [(300, .vals ((encC c ++ encS s).map .d)), (400, .vals ((encP p).map .d)), (600, .vals ((encP (rdI p.kids 0)).map .d))] ?_ ?_
        · refine Run.seq ?_
          refine Run.opsM false [⟨Op.fieldAddr 27 (Operand.tmp 3) 4, some 65, none⟩, ⟨Op.load 4 (Operand.tmp 65), some 66, none⟩] mixed (by decide) rfl fun K hK => ?_
          try simp
          repeat' first | ((refine evL_c ?_); simp [hn, hk, hop, hkl, hb0, hmx, hke, he0, he1, he2, hel0, hf1, hf2, hf3, hf4, hf5, hf6, hfr, hto]) | (with_reducible refine And.intro ?_ ?_) | intro _ | (with_reducible assumption) | omega
          all_goals (refine Fin.go hK ?_; clear hK K)
          simp only [Then_normal]
          refine Run.cond rfl (fun h66 => ?_) (fun h66 => ?_)
          · try simp at h66
            refine Run.opsM false [⟨Op.move (Operand.tmp 11), some 67, none⟩, ⟨Op.move (Operand.tmp 10), some 68, none⟩, ⟨Op.assign (Operand.tmp 67), some 10, none⟩, ⟨Op.assign (Operand.tmp 68), some 11, none⟩] mixed (by decide) rfl fun K hK => ?_
            try simp
            repeat' first | ((refine evL_c ?_); simp [hn, hk, hop, hkl, hb0, hmx, hke, he0, he1, he2, hel0, hf1, hf2, hf3, hf4, hf5, hf6, hfr, hto]) | (with_reducible refine And.intro ?_ ?_) | intro _ | (with_reducible assumption) | omega
            all_goals (refine Fin.go hK ?_; clear hK K)
            rw [fromE, hke, h66] at hfr
            rw [toE, hke, h66] at hto
            simp at hfr hto
            simp [hfr, hto, hn, hop]
          · try simp at h66
            refine Run.skip ?_
            rw [fromE, hke, h66] at hfr
            rw [toE, hke, h66] at hto
            simp at hfr hto
            simp [hfr, hto, hn, hop]
        · simp only [over, List.foldl, List.set]
          refine Run.seq ?_
          refine Run.opsM false [⟨Op.load 82 (Operand.tmp 2), some 69, none⟩, ⟨Op.move (Operand.tmp 9), some 70, none⟩, ⟨Op.call { callee := Callee.value (Operand.func 65), args := #[Operand.tmp 69, Operand.tmp 70], argTypes := #[82, 3] }, some 71, none⟩, ⟨Op.load 82 (Operand.tmp 2), some 72, none⟩, ⟨Op.move (Operand.tmp 10), some 73, none⟩, ⟨Op.call { callee := Callee.value (Operand.func 63), args := #[Operand.tmp 72, Operand.tmp 73], argTypes := #[82, 3] }, some 74, none⟩, ⟨Op.call { callee := Callee.value (Operand.func 64), args := #[Operand.tmp 71, Operand.tmp 74], argTypes := #[2, 2] }, some 75, none⟩, ⟨Op.assign (Operand.tmp 75), some 12, none⟩] mixed (by decide) rfl fun K hK => ?_
          try simp
          repeat' first | (refine ecallD (by exact hE1) ?_) | (refine ecallD (by exact hN1) ?_) | (refine ecallD (by exact hS1) ?_) | ((refine evL_c ?_); simp [hn, hk, hop, hkl, hb0, hmx, hke, he0, he1, he2, hel0, hf1, hf2, hf3, hf4, hf5, hf6, hfr, hto]) | (with_reducible refine And.intro ?_ ?_) | intro _ | (with_reducible assumption) | omega
          all_goals (refine Fin.go hK ?_; clear hK K)
          simp only [Then_normal]
          refine Run.seq ?_
          refine Run.seq ?_
          refine Run.opsM false [⟨Op.fieldAddr 27 (Operand.tmp 3) 0, some 76, none⟩, ⟨Op.load 22 (Operand.tmp 76), some 77, none⟩, ⟨Op.binOp BinOp.eql 22 (Operand.tmp 77) (Operand.const (Value.int IntKind.i64 3)) 22, some 78, none⟩] mixed (by decide) rfl fun K hK => ?_
          try simp
          repeat' first | ((refine evL_c ?_); simp [hn, hk, hop, hkl, hb0, hmx, hke, he0, he1, he2, hel0, hf1, hf2, hf3, hf4, hf5, hf6, hfr, hto]) | (with_reducible refine And.intro ?_ ?_) | intro _ | (with_reducible assumption) | omega
          all_goals (refine Fin.go hK ?_; clear hK K)
          simp only [Then_normal]
          refine Run.cond rfl (fun h78 => ?_) (fun h78 => ?_)
          · skip
            refine Run.seq ?_
            refine Run.opsM false [⟨Op.assign (Operand.const (Value.int IntKind.i64 1)), some 13, none⟩] mixed (by decide) rfl fun K hK => ?_
            try simp
            repeat' first | ((refine evL_c ?_); simp [hn, hk, hop, hkl, hb0, hmx, hke, he0, he1, he2, hel0, hf1, hf2, hf3, hf4, hf5, hf6, hfr, hto]) | (with_reducible refine And.intro ?_ ?_) | intro _ | (with_reducible assumption) | omega
            all_goals (refine Fin.go hK ?_; clear hK K)
            simp only [Then_normal]
            refine Run.seq ?_
            refine Run.seq ?_
            refine Run.opsM false [⟨Op.assign (Operand.const (Value.int IntKind.i64 0)), some 14, none⟩] mixed (by decide) rfl fun K hK => ?_
            try simp
            repeat' first | ((refine evL_c ?_); simp [hn, hk, hop, hkl, hb0, hmx, hke, he0, he1, he2, hel0, hf1, hf2, hf3, hf4, hf5, hf6, hfr, hto]) | (with_reducible refine And.intro ?_ ?_) | intro _ | (with_reducible assumption) | omega
            all_goals (refine Fin.go hK ?_; clear hK K)
            simp only [Then_normal]
            refine Run.block ?_
            refine Run.loopO [13, 14, 79, 80, 81, 82, 83, 84, 85, 86, 87, 88, 89, 90, 91, 92, 93, 94, 95, 96, 97, 98, 99, 100, 101, 102, 103] (fun (i : Nat) => [(14, .int i), (13, .int (pathN d i))]) (fun (i : Nat) => [(300, .vals ((encC c ++ encS s).map .d)), (400, .vals ((encP p).map .d)), (600, .vals ((encP (rdI p.kids 0)).map .d))]) (fun (i : Nat) => i = 0 ∨ ((i : Int) ≤ mx ∧ 0 < d)) (fun (i : Nat) => mx.toNat - i) 0 (.inl rfl) (by simp [pathN, hop, hn]) fun i hi => ?_
            simp only [over, List.foldl, List.set]
            have hpr := pathN_rng d i
            have hMp := prod2D_ok (pathN d i) (clipS (d + 1)) hpr (clip_rng _)
            have hCl := clip_ok (d + 1)
            refine Run.seq ?_
            refine Run.cut [79, 80, 81, 82, 83, 84, 85, 86, 87, 88, 89, 90, 91, 92, 93, 94, 95] [(95, .bool (decide ((i : Int) < mx ∧ 0 < d ∧ pathN d i < 1099511627776)))] [(300, .vals ((encC c ++ encS s).map .d)), (400, .vals ((encP p).map .d)), (600, .vals ((encP (rdI p.kids 0)).map .d))] ?_ ?_
            · refine Run.opsM false [⟨Op.move (Operand.tmp 14), some 79, none⟩, ⟨Op.fieldAddr 82 (Operand.tmp 2) 0, some 80, none⟩, ⟨Op.fieldAddr 33 (Operand.tmp 80) 1, some 81, none⟩, ⟨Op.load 29 (Operand.tmp 81), some 82, none⟩, ⟨Op.move (Operand.tmp 9), some 83, none⟩, ⟨Op.indexAddr 29 (Operand.tmp 82) (Operand.tmp 83), some 84, none⟩, ⟨Op.fieldAddr 105 (Operand.tmp 84) 6, some 85, none⟩, ⟨Op.load 3 (Operand.tmp 85), some 86, none⟩, ⟨Op.binOp BinOp.lss 3 (Operand.tmp 79) (Operand.tmp 86) 3, some 87, none⟩, ⟨Op.move (Operand.tmp 87), some 88, none⟩, ⟨Op.move (Operand.tmp 12), some 89, some (some 88, true)⟩, ⟨Op.binOp BinOp.gtr 2 (Operand.tmp 89) (Operand.const (Value.int IntKind.i64 0)) 2, some 90, some (some 88, true)⟩, ⟨Op.pick (Operand.tmp 88) (Operand.tmp 90) (Operand.const (Value.bool false)), some 91, none⟩, ⟨Op.move (Operand.tmp 91), some 92, none⟩, ⟨Op.move (Operand.tmp 13), some 93, some (some 92, true)⟩, ⟨Op.binOp BinOp.lss 2 (Operand.tmp 93) (Operand.const (Value.int IntKind.i64 1099511627776)) 2, some 94, some (some 92, true)⟩, ⟨Op.pick (Operand.tmp 92) (Operand.tmp 94) (Operand.const (Value.bool false)), some 95, none⟩] mixed (by decide) rfl fun K hK => ?_
              try simp
              repeat' first | ((refine evL_c ?_); simp [hn, hk, hop, hkl, hb0, hmx, hke, he0, he1, he2, hel0, hf1, hf2, hf3, hf4, hf5, hf6, hfr, hto, *]) | ((refine evL_g rfl ?_); (try simp only [gs_tt, gs_ff, gs_tf, gs_ft]); (try simp [hn, hk, hop, hkl, hb0, hmx, hke, he0, he1, he2, hel0, hf1, hf2, hf3, hf4, hf5, hf6, hfr, hto, *])) | (refine evL_u rfl ?_) | ((with_reducible refine gsplit (fun hg => ?_) (fun hg => ?_)) <;> (try simp at hg) <;> (try simp [hn, hk, hop, hkl, hb0, hmx, hke, he0, he1, he2, hel0, hf1, hf2, hf3, hf4, hf5, hf6, hfr, hto, *])) | (with_reducible refine And.intro ?_ ?_) | intro _ | (with_reducible assumption) | omega
              all_goals (refine Fin.go hK ?_; clear hK K)
              all_goals
                (try simp [hop, hn, *]) <;> (first | omega | (simp; done) | grind)
            · simp only [over, List.foldl, List.set]
              refine Run.cond rfl (fun h95 => ?_) (fun h95 => ?_)
              · replace h95 := of_decide_eq_true h95
                obtain ⟨hc1, hc2, hc3⟩ := h95
                refine Run.skip ?_
                simp only [Then_normal]
                refine Run.seq ?_
                refine Run.block ?_
                refine Run.opsM false [⟨Op.move (Operand.tmp 13), some 98, none⟩, ⟨Op.move (Operand.tmp 12), some 99, none⟩, ⟨Op.binOp BinOp.add 2 (Operand.tmp 99) (Operand.const (Value.int IntKind.i64 1)) 2, some 100, none⟩, ⟨Op.call { callee := Callee.value (Operand.func 34), args := #[Operand.tmp 100], argTypes := #[2] }, some 101, none⟩, ⟨Op.buildSlice 51 2 #[(0, Operand.tmp 98), (1, Operand.tmp 101)], some 102, none⟩, ⟨Op.call { callee := Callee.value (Operand.func 66), args := #[Operand.tmp 102], argTypes := #[51] }, some 103, none⟩, ⟨Op.assign (Operand.tmp 103), some 13, none⟩] mixed (by decide) rfl fun K hK => ?_
                try simp
                repeat' first | (refine ecallD (by exact hCl) ?_) | (refine ecallF (by simp) (by simp) hMp ?_) | ((refine evL_c ?_); simp [hn, hk, hop, hkl, hb0, hmx, hke, he0, he1, he2, hel0, hf1, hf2, hf3, hf4, hf5, hf6, hfr, hto, hw1]) | (with_reducible refine And.intro ?_ ?_) | intro _ | (with_reducible assumption) | omega
                all_goals (refine Fin.go hK ?_; clear hK K)
                simp only [Blok_normal]
                simp only [Then_normal]
                refine Run.opsM false [⟨Op.move (Operand.tmp 14), some 96, none⟩, ⟨Op.binOp BinOp.add 3 (Operand.tmp 96) (Operand.const (Value.int IntKind.i64 1)) 3, some 97, none⟩, ⟨Op.assign (Operand.tmp 97), some 14, none⟩] mixed (by decide) rfl fun K hK => ?_
                try simp
                repeat' first | ((refine evL_c ?_); simp [hn, hk, hop, hkl, hb0, hmx, hke, he0, he1, he2, hel0, hf1, hf2, hf3, hf4, hf5, hf6, hfr, hto, hw1]) | (with_reducible refine And.intro ?_ ?_) | intro _ | (with_reducible assumption) | omega
                all_goals (refine Fin.go hK ?_; clear hK K)
                refine ⟨i + 1, .inr ⟨by omega, hc2⟩, by omega, ?_⟩
                simp (disch := omega) [wrap_id, pathN, hop, hn, hc3]
              · replace h95 := of_decide_eq_false h95
                have hpe : pathN d i = sd := by
                  rw [hsd2]
                  by_cases hd0 : 0 < d
                  · exact (pathS_end hd0 (by omega) (by omega)).symm
                  · rw [pathS, if_neg hd0]
                    have : i = 0 := by omega
                    subst this; rfl
                refine Run.exit ?_
                simp (decide := true) only [Then_exit, Blok_exit, if_true, if_false]
                simp only [Then_normal]
                refine Run.opsM false [⟨Op.move (Operand.tmp 13), some 104, none⟩, ⟨Op.assign (Operand.tmp 104), some 12, none⟩] mixed (by decide) rfl fun K hK => ?_
                try simp
                repeat' first | ((refine evL_c ?_); simp [hn, hk, hop, hkl, hb0, hmx, hke, he0, he1, he2, hel0, hf1, hf2, hf3, hf4, hf5, hf6, hfr, hto, hpe]) | (with_reducible refine And.intro ?_ ?_) | intro _ | (with_reducible assumption) | omega
                all_goals (refine Fin.go hK ?_; clear hK K)
                simp only [Then_normal]
                refine Run.seq ?_
                refine Run.opsM false [⟨Op.move (Operand.tmp 6), some 105, none⟩, ⟨Op.move (Operand.tmp 12), some 106, none⟩, ⟨Op.buildSlice 51 2 #[(0, Operand.tmp 105), (1, Operand.tmp 106)], some 107, none⟩, ⟨Op.call { callee := Callee.value (Operand.func 66), args := #[Operand.tmp 107], argTypes := #[51] }, some 108, none⟩, ⟨Op.assign (Operand.tmp 108), some 6, none⟩] mixed (by decide) rfl fun K hK => ?_
                try simp
                repeat' first | (refine ecallF (by simp) (by simp) hM ?_) | ((refine evL_c ?_); simp [hn, hk, hop, hkl, hb0, hmx, hke, he0, he1, he2, hel0, hf1, hf2, hf3, hf4, hf5, hf6, hfr, hto, hpe]) | (with_reducible refine And.intro ?_ ?_) | intro _ | (with_reducible assumption) | omega
                all_goals (refine Fin.go hK ?_; clear hK K)
                simp only [Then_normal]
                refine Run.seq ?_
                refine Run.opsM false [⟨Op.move (Operand.tmp 7), some 109, none⟩, ⟨Op.move (Operand.tmp 11), some 110, none⟩, ⟨Op.indexAddr 60 (Operand.tmp 109) (Operand.tmp 110), some 111, none⟩, ⟨Op.load 4 (Operand.tmp 111), some 112, none⟩] mixed (by decide) rfl fun K hK => ?_
                try simp
                repeat' first | ((refine evL_c ?_); simp [hn, hk, hop, hkl, hb0, hmx, hke, he0, he1, he2, hel0, hf1, hf2, hf3, hf4, hf5, hf6, hfr, hto, hpe]) | (with_reducible refine And.intro ?_ ?_) | intro _ | (with_reducible assumption) | omega
                all_goals (refine Fin.go hK ?_; clear hK K)
                simp only [Then_normal]
                refine Run.cond rfl (fun h112 => ?_) (fun h112 => ?_)
                · try simp at h112
                  refine Run.opsM false [⟨Op.move (Operand.tmp 6), some 113, none⟩, ⟨Op.load 82 (Operand.tmp 2), some 114, none⟩, ⟨Op.move (Operand.tmp 11), some 115, none⟩, ⟨Op.call { callee := Callee.value (Operand.func 63), args := #[Operand.tmp 114, Operand.tmp 115], argTypes := #[82, 3] }, some 116, none⟩, ⟨Op.call { callee := Callee.value (Operand.func 64), args := #[Operand.tmp 113, Operand.tmp 116], argTypes := #[2, 2] }, some 117, none⟩, ⟨Op.assign (Operand.tmp 117), some 6, none⟩] mixed (by decide) rfl fun K hK => ?_
                  try simp
                  repeat' first | (refine ecallD (by exact hN2) ?_) | (refine ecallD (by exact hS2) ?_) | ((refine evL_c ?_); simp [hn, hk, hop, hkl, hb0, hmx, hke, he0, he1, he2, hel0, hf1, hf2, hf3, hf4, hf5, hf6, hfr, hto, hpe]) | (with_reducible refine And.intro ?_ ?_) | intro _ | (with_reducible assumption) | omega
                  all_goals (refine Fin.go hK ?_; clear hK K)
                  simp only [Blok_normal]
                  simp only [Then_normal]
                  refine Run.seq ?_
                  refine Run.opsM false [⟨Op.move (Operand.tmp 6), some 222, none⟩, ⟨Op.assign (Operand.tmp 222), some 4, none⟩] mixed (by decide) rfl fun K hK => ?_
                  try simp
                  repeat' first | ((refine evL_c ?_); simp [hn, hk, hop, hkl, hb0, hmx, hke, he0, he1, he2, hel0, hf1, hf2, hf3, hf4, hf5, hf6, hfr, hto, hpe]) | (with_reducible refine And.intro ?_ ?_) | intro _ | (with_reducible assumption) | omega
                  all_goals (refine Fin.go hK ?_; clear hK K)
                  simp only [Then_normal]
                  refine Run.ret ?_
                  try simp only [Then_ret, Blok_ret]
                  simp [stepS, hto, hsd, hnt, hm, h112]
                · try simp at h112
                  refine Run.skip ?_
                  simp only [Blok_normal]
                  simp only [Then_normal]
                  refine Run.seq ?_
                  refine Run.opsM false [⟨Op.move (Operand.tmp 6), some 222, none⟩, ⟨Op.assign (Operand.tmp 222), some 4, none⟩] mixed (by decide) rfl fun K hK => ?_
                  try simp
                  repeat' first | ((refine evL_c ?_); simp [hn, hk, hop, hkl, hb0, hmx, hke, he0, he1, he2, hel0, hf1, hf2, hf3, hf4, hf5, hf6, hfr, hto, hpe]) | (with_reducible refine And.intro ?_ ?_) | intro _ | (with_reducible assumption) | omega
                  all_goals (refine Fin.go hK ?_; clear hK K)
                  simp only [Then_normal]
                  refine Run.ret ?_
                  try simp only [Then_ret, Blok_ret]
                  simp [stepS, hto, hsd, hnt, hm, h112]
          · simp at h78
      · simp at h44


end Go.Proofs.Ytihbejpkfifplaa.Z
